/- Least and greatest, strings and bytes, arrays; no condition. -/
import Derived.Test.YtkmbahlpmoljpaaQd
import Derived.Laws.BytesString
import Derived.Laws.NewFold
import Derived.Laws.IdiomCopy
set_option linter.unusedVariables false
set_option linter.unusedSimpArgs false
namespace Go.Proofs.Ytkmbahlpmoljpaa
open Go.RowKit

section
variable {P : Program} {M : Fm} {σ σ' : St} {H : List TV} {xs : List Value} {ts : Array Value} {w : World} {G : Gh} {a : Act} {o : Oper}

theorem foldMM_run (mx : Bool) (k : IntKind) : ∀ (r : List Value) (x m : Int), foldMM mx k x r = some m → (r.foldlM (if mx then Builtin.max2 else Builtin.min2) (.int k x)).run P w = .ok (.int k m) w := by
  intro r
  induction r with
  | nil =>
    intro x m h
    simp only [foldMM, Option.some.injEq] at h
    subst h
    rfl
  | cons y r ih =>
    intro x m h
    cases y with
    | int k' b =>
      simp only [foldMM] at h
      split at h
      · rename_i hk
        subst hk
        have := ih _ _ h
        cases mx with
        | true =>
          simp only [if_true, List.foldlM_cons] at this ⊢
          simpa [Builtin.max2, Sem.run_bind] using this
        | false =>
          simp only [Bool.false_eq_true, if_false, List.foldlM_cons] at this ⊢
          simpa [Builtin.min2, Sem.run_bind] using this
      · simp at h
    | _ => simp [foldMM] at h

theorem sim_mm (hI : Inv M σ [] [] a.tmps w G) {d : Nat} (hd : o.dst = some d) (hN : d < M.N) {mx : Bool} {l : List Opd} {args : Array Operand} {atys : Array TypeId} (hc : args.toList.map compOpd = l.map some) (ho : o.op = .call { callee := .builtin (if mx then .max else .min), args := args, argTypes := atys })
    (hr : (ev1 d (.mm mx l)).run σ = some ((), σ')) : Sim1 P M σ' a o w := by
  simp only [ev1] at hr
  obtain ⟨r, σ1, h1, h2⟩ := SP.run_bind_some hr
  obtain ⟨rfl, e2, e3⟩ := mapO_ok (R := fun y x' => y = a.eval x') (fun x x' y σ' hx hy => by
    obtain ⟨t, σ2, q1, q2⟩ := SP.run_bind_some hy
    obtain ⟨rfl, ht⟩ := opd_ok hI.tmr hx q1
    obtain ⟨rfl, rfl⟩ := valOf_ok q2
    exact ⟨rfl, (ht.v_inv).1.symm⟩) hc h1
  have hr2 : args.toList.map a.eval = r := by
    apply List.ext_getElem
    · simp [e2]
    · intro k hk hk'
      have := e3 k hk' (by simpa using hk)
      simpa using this.symm
  split at h2
  case h_2 => simp [SP.run] at h2
  rename_i k x rest
  obtain ⟨m, σ2, h3, h4⟩ := SP.run_bind_some h2
  obtain ⟨hm, rfl⟩ := spOpt_ok h3
  refine wr_ok hI hd hN (x := .int k m) (.v rfl) h4 ?_
  have hf := foldMM_run (P := P) (w := w) mx k rest x m hm
  have ha : (args.map a.eval).toList = .int k x :: rest := by rw [Array.toList_map]; exact hr2
  cases mx with
  | true =>
    simp only [if_true] at hf ho
    simp [execOp, ho, resolve, invoke, builtin, Builtin.max_, hr2, hf]
  | false =>
    simp only [Bool.false_eq_true, if_false] at hf ho
    simp [execOp, ho, resolve, invoke, builtin, Builtin.min_, hr2, hf]

theorem sim_idxa (hI : Inv M σ [] [] a.tmps w G) {d : Nat} (hd : o.dst = some d) (hN : d < M.N) {x i : Opd} {x' i' : Operand} {t e n sz : Nat} (hx : compOpd x' = some x) (hi : compOpd i' = some i) (ho : o.op = .indexAddr t x' i')
    (hu : P.underlying t = some (.array n e)) (hs : (P.info? e).map (·.size) = some sz) (hr : (ev1 d (.idxa n sz x i)).run σ = some ((), σ')) : Sim1 P M σ' a o w := by
  have hso : (sizeOf e).run P w = .ok sz w := by
    unfold sizeOf typeInfo
    cases hi : P.info? e with
    | none => simp [hi] at hs
    | some i => simp [hi] at hs; simp [hi, hs]
  simp only [ev1] at hr
  obtain ⟨tx, σ1, h1, h2⟩ := SP.run_bind_some hr
  obtain ⟨rfl, hx1⟩ := opd_ok hI.tmr hx h1
  obtain ⟨ti, σ2, h3, h4⟩ := SP.run_bind_some h2
  obtain ⟨rfl, hi1⟩ := opd_ok hI.tmr hi h3
  obtain ⟨k, σ3, h5, h6⟩ := SP.run_bind_some h4
  obtain ⟨ik, m, rfl, hn0, hk, rfl⟩ := natOf_ok h5
  obtain ⟨ei, _⟩ := hi1.v_inv
  cases tx with
  | ptr p vs =>
    simp only at h6
    obtain ⟨_, σ2, h7, h8⟩ := SP.run_bind_some h6
    have e1 : σ2 = σ3 := (chk_run h7).1
    have e2 := (chk_run h7).2
    subst e1
    split at h8
    case isFalse => simp [SP.run] at h8
    rename_i hc
    simp only [Bool.and_eq_true, decide_eq_true_eq] at hc
    obtain ⟨hkn, hfit⟩ := hc
    generalize hz : a.eval x' = z at hx1
    cases hx1 with
    | ptr V0 h0 hv h =>
      obtain ⟨hr1, ad, t0, ha, rfl, hg0⟩ := h e2
      have hmn : m < (n : Int) := by omega
      refine wr_ok hI hd hN (x := .pointer (some (ad.add (k * sz)))) ?_ h8 (by subst hk; simp [execOp, ho, hz, ei, Instr.indexAt, asIntOf, Instr.sureAddr, run_underlying hu, hn0, hmn, hso])
      refine .ptr V0 h0 (by rw [vers_add]; exact hv) fun _ => ⟨by rw [Place.add_root]; exact hr1, ⟨ad.block, ad.off + k * sz, none⟩, ?_⟩
      have hsp := addr_spot ha
      have hadd : ad.add (k * sz) = ⟨ad.block, ad.off + k * sz, none⟩ := by
        obtain ⟨b, ob, sp⟩ := ad
        simp only at hsp
        subst hsp
        exact addr_add0 b ob (k * sz)
      rcases p.add_cases (k * sz) with ⟨q1, q2⟩ | ⟨hs', i, sz', o', q1, q2⟩
      · exact ⟨extC M σ2 [] p.root (p.off + k * sz), addr_add _ ha, by rw [hadd], by rw [q2]; rfl⟩
      · have hlt : o' + k * sz < sz' := by
          unfold Place.fits at hfit
          rw [q1] at hfit
          simpa using hfit
        rw [q1] at hg0
        obtain ⟨t', ht'⟩ := getT_add hg0 hlt
        exact ⟨t', addr_add _ ha, by rw [hadd], by rw [q2]; exact ht'⟩
  | _ => simp [SP.run] at h6

theorem sim_s2b (hI : Inv M σ [] [] a.tmps w G) {d : Nat} (hd : o.dst = some d) (hN : d < M.N) {x : Opd} {x' : Operand} {s t e : TypeId} (hx : compOpd x' = some x) (ho : o.op = .convert s t x') (hs : P.underlying s = some .string) (ht : P.underlying t = some (.slice e)) (he : P.underlying e = some (.int .u8))
    (hr : (ev1 d (.s2b x)).run σ = some ((), σ')) : Sim1 P M σ' a o w := by
  simp only [ev1] at hr
  obtain ⟨tx, σ1, h1, h2⟩ := SP.run_bind_some hr
  obtain ⟨rfl, hx1⟩ := opd_ok hI.tmr hx h1
  cases tx with
  | v y =>
    obtain ⟨ex, _⟩ := hx1.v_inv
    cases y with
    | string str =>
      simp only at h2
      split at h2
      case isFalse => simp [SP.run] at h2
      rename_i hsz
      obtain ⟨n, hn⟩ : ∃ n, n = w.tape w.drawn (.appendCap str.size 0 e) := ⟨_, rfl⟩
      obtain ⟨cap, hcap⟩ : ∃ cap, cap = str.size + n % (2 ^ 63 - str.size) := ⟨_, rfl⟩
      have hcap1 : str.size ≤ cap := by omega
      have hcap2 : cap ≤ maxLen := by
        have : n % (2 ^ 63 - str.size) < 2 ^ 63 - str.size := Nat.mod_lt _ (by omega)
        show cap ≤ 2 ^ 63 - 1
        omega
      obtain ⟨row, hrow⟩ : ∃ row : Array Value, row = (str.data.map fun b => Value.int .u8 b.toNat) ++ Array.replicate (cap - str.size) (.int .u8 0) := ⟨_, rfl⟩
      obtain ⟨w1, hw1⟩ : ∃ w1, w1 = w.drew.alloc (.cells row e) := ⟨_, rfl⟩
      have hheap : w1.heap = w.heap.push (.cells row e) := by rw [hw1]; rfl
      have hsh : w1.shape? w.heap.size = some (e, row.size) := by
        unfold World.shape?
        rw [hheap]
        simp
      have hrun : (execOp a.eval o).run P w = .ok (.value (.slice (some ⟨w.heap.size, 0, none⟩) str.size cap)) (w1.freeze ⟨w.heap.size, row.size, none⟩ 1) := by
        simp only [execOp, ho, ex, convert, Sem.run_bind, run_underlying hs, run_underlying ht, run_underlying he, Result.andThen_ok, Conv.stringToBytes, run_choose_drew, Question.forced, Bool.false_eq_true, if_false, Question.cut, newRow, run_newObj_alloc, Sem.run_pure]
        rw [← hn, ← hcap, ← hrow]
        simp only [show w.drew.heap.size = w.heap.size from rfl, ← hw1, markStringish, Sem.run_bind, run_shape, Result.andThen_ok, hsh, run_freeze, Sem.run_pure]
      have hold : ∀ k, k < w.heap.size → (w1.freeze ⟨w.heap.size, row.size, none⟩ 1).heap[k]? = w.heap[k]? := by
        intro k hk
        unfold World.freeze
        rw [if_neg (by decide)]
        simp only
        rw [Array.getElem?_modify]
        rw [if_neg (by omega), hheap]
        simp [Array.getElem?_push, show k ≠ w.heap.size by omega]
      have hnew : ∃ fz, (w1.freeze ⟨w.heap.size, row.size, none⟩ 1).heap[w.heap.size]? = some (.cells row e fz) := by
        unfold World.freeze
        rw [if_neg (by decide)]
        simp only
        rw [Array.getElem?_modify, if_pos rfl, hheap]
        exact ⟨_, by simp only [Array.getElem?_push_size, Option.map_some]; rfl⟩
      obtain ⟨fz, hnew⟩ := hnew
      obtain ⟨hI2, _⟩ := hI.grow (w' := w1.freeze ⟨w.heap.size, row.size, none⟩ 1) hold (by unfold World.freeze; rw [if_neg (by decide)]; simp [hheap]) (by rw [hw1]; rfl) (by rw [hw1]; rfl) (by rw [hw1]; rfl)
      simp only [wr, SP.run, Option.some.injEq, Prod.mk.injEq, true_and] at h2
      subst h2
      refine ⟨_, _, _, G, hrun, .inl rfl, ?_⟩
      rw [hd]
      have hbl : (bytesC str).length = str.size := by unfold bytesC; rw [List.length_map, Array.length_toList]; rfl
      refine hI2.wrT hN (.sl ?_)
      have him : ImmR (w1.freeze ⟨w.heap.size, row.size, none⟩ 1) (G.F M.A) (.sl (bytesC str)) (.slice (some ⟨w.heap.size, 0, none⟩) (bytesC str).length cap) := by
        refine .sl 1 (fun i _ => .int .u8 (str.data.getD i 0).toNat) (fun i h => by simp [bytesC]) (by omega) hcap2 (fun h => by simp at h) (fun i j hi hj => ⟨w.heap.size, 0, rfl, ?_, ?_⟩) fun i j h h' => ?_
        · exact ⟨M.hA _ hI.fram.size, fun r o h => Nat.lt_irrefl _ (hI.core.live h), fun r b o n hb e => Nat.lt_irrefl _ (e ▸ hI.core.boxlt hb)⟩
        · have hj0 : j = 0 := by omega
          subst hj0
          rw [cell_of_row _ _ _ _ _ _ hnew]
          have hi' : i < str.data.size := by rw [hbl] at hi; exact hi
          have hg : str.data[i]? = some str.data[i] := Array.getElem?_eq_getElem hi'
          rw [hrow]
          simp [Array.getElem?_append, show i < str.size from hi', Array.getD_eq_getD_getElem?, hg]
        · have hj0 : j = 0 := by simp [bytesC] at h'; omega
          subst hj0
          have hi' : i < str.data.size := by rw [hbl] at h; exact h
          have : (bytesC str)[i][0] = .v (.int .u8 (str.data.getD i 0).toNat) := by
            have hg : str.data[i]? = some str.data[i] := Array.getElem?_eq_getElem hi'
            simp [bytesC, Array.getD_eq_getD_getElem?, hg]
          rw [this]
          exact .v rfl
      rw [hbl] at him
      exact him
    | _ => simp [SP.run] at h2
  | _ => simp [SP.run] at h2

theorem bnums_get {c : List (List TV)} : ∀ {ns : List Int}, bnums c = some ns → ns.length = c.length ∧ ∀ i (h : i < c.length) (h' : i < ns.length), c[i] = [.v (.int .u8 ns[i])] := by
  induction c with
  | nil => intro ns h; simp only [bnums, Option.some.injEq] at h; subst h; exact ⟨rfl, fun i h => by simp at h⟩
  | cons e c ih =>
    intro ns h
    unfold bnums at h
    split at h
    · rename_i h1; simp at h1
    · rename_i n r h1
      injection h1 with h1 h2
      subst h1; subst h2
      cases hb : bnums c with
      | none => simp [hb] at h
      | some l =>
        simp only [hb, Option.map_some, Option.some.injEq] at h
        subst h
        obtain ⟨e1, e2⟩ := ih hb
        refine ⟨by simp [e1], fun i hi hi' => ?_⟩
        cases i with
        | zero => rfl
        | succ i => exact e2 i (by simpa using hi) (by simpa using hi')
    · simp at h

theorem sim_b2s (hI : Inv M σ [] [] a.tmps w G) {d : Nat} (hd : o.dst = some d) (hN : d < M.N) {x : Opd} {x' : Operand} {s t e : TypeId} (hx : compOpd x' = some x) (ho : o.op = .convert s t x') (hs : P.underlying s = some (.slice e)) (ht : P.underlying t = some .string) (he : P.underlying e = some (.int .u8))
    (hr : (ev1 d (.b2s x)).run σ = some ((), σ')) : Sim1 P M σ' a o w := by
  simp only [ev1] at hr
  obtain ⟨tx, σ1, h1, h2⟩ := SP.run_bind_some hr
  obtain ⟨rfl, hx1⟩ := opd_ok hI.tmr hx h1
  obtain ⟨t', σ2, h3, h4⟩ := SP.run_bind_some h2
  obtain ⟨G1, hg1, _⟩ := take1_ok hI hx1 h3
  simp only [List.nil_append] at hg1
  obtain ⟨G2, hg2, _⟩ := hg1.1.drop
  have fin : ∀ str ad len cap, a.eval x' = .slice ad len cap → (Conv.bytesToString (.slice ad len cap)).run P w = .ok (.string str) w → (wr d (.v (.string str))).run σ2 = some ((), σ') → Sim1 P M σ' a o w := by
    intro str ad len cap ex hrun hw
    refine wr_ok hg2.1 hd hN (x := .string str) (.v rfl) hw ?_
    simp only [execOp, ho, Sem.run_bind, ex]
    have : (convert s t (.slice ad len cap)).run P w = .ok (.string str) w := by
      unfold convert
      simp only [Sem.run_bind, run_underlying hs, run_underlying ht, run_underlying he, Result.andThen_ok]
      exact hrun
    rw [this]
    rfl
  have hown := fun h => hg1.1.hand_own (j := 0) (by simp) h
  simp only [List.getElem_cons_zero, List.getD_cons_zero] at hown
  split at h4
  · rename_i c
    obtain ⟨str, σ3, h5, h6⟩ := SP.run_bind_some h4
    obtain ⟨hb, rfl⟩ := spOpt_ok h5
    have hown := hown (by simp)
    generalize hz : a.eval x' = z at hown
    cases hown with
    | sl hfp h =>
      cases h with
      | @sl _ ad cap sz u hsz hcap hmax hnil hcell hrec =>
        unfold bstr at hb
        cases hbn : bnums c with
        | none => simp [hbn] at hb
        | some ns =>
          simp only [hbn, Option.map_some, Option.some.injEq] at hb
          obtain ⟨hl, hget⟩ := bnums_get hbn
          refine fin str _ _ _ hz ?_ h6
          cases ad with
          | none =>
            have hc0 : c.length = 0 := by have := hnil rfl; omega
            have hns : ns = [] := List.eq_nil_of_length_eq_zero (by omega)
            subst hns
            rw [← hb]
            rfl
          | some ad =>
            rw [← hb]
            refine run_bytesToString w ad c.length cap ns ?_
            have := run_loadCells_list (P := P) w ad (ns.map (Value.int .u8)) fun j v hj => by
              have hjl : j < ns.length := by
                rcases Nat.lt_or_ge j ns.length with h | h
                · exact h
                · rw [List.getElem?_eq_none (by simpa using h)] at hj; simp at hj
              have hjc : j < c.length := by omega
              have e1 := hget j hjc hjl
              have hs1 : sz = 1 := by rw [← hsz j hjc, e1]; rfl
              subst hs1
              obtain ⟨b, o', hab, hF, hcl⟩ := hcell j 0 hjc (by omega)
              injection hab with hab
              subst hab
              have hr := hrec j 0 hjc (by rw [e1]; simp)
              have e2 : c[j][0]'(by rw [e1]; simp) = .v (.int .u8 ns[j]) := by simp [e1]
              rw [e2] at hr
              have hu : u j 0 = .int .u8 ns[j] := by
                generalize u j 0 = y at hr
                cases hr; rfl
              have hv : v = .int .u8 ns[j] := by simpa [hjl] using hj.symm
              rw [hv, ← hu, addr_add0]
              simpa using hcl
            simpa [hl] using this
  · have hown := hown (by simp)
    generalize hz : a.eval x' = z at hown
    cases hown with
    | nil hfp => exact fin .empty _ _ _ hz rfl h4
    | @ow _ _ b cap cur e' sz' u f hfp hb hsz hcap hz0 hmax hcur hcell hrec hnb hdis =>
      refine fin .empty _ _ _ hz ?_ h4
      have := run_bytesToString (P := P) w ⟨b, 0, none⟩ 0 cap [] (by simp [loadCells, loadCellsFrom])
      simpa using this
  · simp [SP.run] at h4

theorem sim_blda (hI : Inv M σ [] [] a.tmps w G) {d : Nat} {mv : Bool} (hd : o.dst = some d) (hN : d < M.N) {t e n sz : TypeId} {parts : Array (Nat × Operand)} {ps : List (Nat × Nat × Opd)} {z : List Value} (ho : o.op = .build t parts) (hu : P.underlying t = some (.array n e))
    (hz : (P.info? t).bind (·.zero.map (·.cells.toList)) = some z) (hs : (P.info? e).map (·.size) = some sz) (hp1 : parts.size = ps.length)
    (hp2 : ∀ k (h : k < parts.size) (h' : k < ps.length), compOpd parts[k].2 = some ps[k].2.2 ∧ ps[k].1 = parts[k].1 * sz ∧ ps[k].2.1 = sz ∧ ps[k].1 + ps[k].2.1 ≤ z.length)
    (hr : (ev1 d (.bld z mv ps)).run σ = some ((), σ')) : Sim1 P M σ' a o w := by
  simp only [ev1] at hr
  split at hr
  case isFalse => simp [SP.run] at hr
  rename_i hok
  obtain ⟨l, σ1, h1, h2⟩ := SP.run_bind_some hr
  obtain ⟨l', σ2, h3, h4⟩ := SP.run_bind_some h2
  obtain ⟨G1, g1, hokl, hsz2⟩ := takeParts_ok (a := a) (pv := parts.toList.map (·.2)) hI (by
    apply List.ext_getElem
    · simp [hp1]
    · intro k hk hk'
      have := (hp2 k (by simpa using hk) (by simpa using hk')).1
      simpa using this) h1
  simp only [List.nil_append] at g1
  obtain ⟨G2, hI2, _, hl2, ht2⟩ := names_ok g1.1 hokl h3
  obtain ⟨ys, hys⟩ : ∃ ys, ys = (parts.toList.map (·.2)).flatMap (fun x => (a.eval x).cells.toList) := ⟨_, rfl⟩
  rw [← hys] at g1 ht2
  have hlen : l'.length = ys.length := by rw [hl2]; exact g1.1.hand
  have hzc : ∀ j (h : j < (z.map ofCell).length) (h' : j < z.length), TmR w (G2.F M.A) σ2.v (extC M σ2 []) G2 (z.map ofCell)[j] z[j] := fun j h h' => by simp only [List.getElem_map]; exact ofCell_ok _
  obtain ⟨r1, r2⟩ := TmRs.assemble (R := TmR w (G2.F M.A) σ2.v (extC M σ2 []) G2) ps l' ys (z.map ofCell) z (by simp) hzc hlen (fun j h h' => by have := ht2 j h; simpa [h'] using this)
  refine wr_ok hI2 hd hN (x := .agg (fillSeg z ps ys).toArray) (.agg (by simp [r1]) fun j hj => by have := r2 j hj (by omega); simpa [show j < (fillSeg z ps ys).length by omega] using this) h4 ?_
  cases hi : P.info? t with
  | none => simp [hi] at hz
  | some i =>
    simp only [hi, Option.bind_some] at hz
    cases hiz : i.zero with
    | none => simp [hiz] at hz
    | some v =>
      simp only [hiz, Option.map_some, Option.some.injEq] at hz
      have hzv : (zeroValue t).run P w = .ok v w := by simp [zeroValue, typeInfo, hi, hiz]
      have hso : (sizeOf e).run P w = .ok sz w := by
        unfold sizeOf typeInfo
        cases hi : P.info? e with
        | none => simp [hi] at hs
        | some i => simp [hi] at hs; simp [hi, hs]
      have hfill := fill_struct (place := fun i => some (i * sz, sz)) (parts.toList.map fun p => (p.1, a.eval p.2)) ps v.cells (by simp [hp1]) (fun k h h' => by
        have hk : k < parts.size := by simpa using h
        obtain ⟨q1, q2, q3, q5⟩ := hp2 k hk h'
        have q4 := hsz2 k h' (by simpa using hk)
        refine ⟨by simp [q2, q3], by simpa using q4, ?_⟩
        rw [← hz] at q5
        simpa using q5)
      have hfl : ((parts.toList.map fun p => (p.1, a.eval p.2)).flatMap (·.2.cells.toList)) = ys := by rw [hys]; simp [List.flatMap_map]
      rw [hfl, hz] at hfill
      simp only [execOp, ho, Instr.build, Sem.run_bind, hzv, Result.andThen_ok, run_underlying hu, hso, Array.toList_map]
      rw [hfill]
      simp
end
end Go.Proofs.Ytkmbahlpmoljpaa
/- Copying cells into owned data; no condition. -/
set_option linter.unusedVariables false
set_option linter.unusedSimpArgs false
namespace Go.Proofs.Ytkmbahlpmoljpaa
open Go.RowKit

theorem modify_congr {α : Type} {l : List α} {i : Nat} {x : α} {f g : α → α} (h : l[i]? = some x) (e : f x = g x) : l.modify i f = l.modify i g := by
  apply List.ext_getElem?
  intro k
  simp only [List.getElem?_modify]
  by_cases hk : i = k
  · subst hk; simp [h, e]
  · simp [hk]
theorem getT_snocAt {hs : List Hop} {i sz j : Nat} {c : List (List TV)} {el : List TV} {t1 : TV} : ∀ {t : TV}, getT t hs = some (.ow c) → c[i]? = some el → el.length = sz → el[j]? = some t1 → getT t (hs ++ [(i, sz, j)]) = some t1 := by
  induction hs with
  | nil =>
    intro t h h1 h2 h3
    simp only [getT, Option.some.injEq] at h
    subst h
    simp [getT, h1, h2, h3]
  | cons hp hs ih =>
    obtain ⟨a, b, d⟩ := hp
    intro t h h1 h2 h3
    obtain ⟨c0, el0, t0, rfl, k1, k2, k3, k4⟩ := getT_cons h
    simp only [List.cons_append, getT, k1, k2, if_true, k3]
    exact ih k4 h1 h2 h3
theorem setT_snocAt {hs : List Hop} {i sz j : Nat} {c : List (List TV)} {x : TV} : ∀ {t : TV}, getT t hs = some (.ow c) → setT t (hs ++ [(i, sz, j)]) x = setT t hs (.ow (c.modify i fun el => el.modify j fun _ => x)) := by
  induction hs with
  | nil =>
    intro t h
    simp only [getT, Option.some.injEq] at h
    subst h
    simp [setT]
  | cons hp hs ih =>
    obtain ⟨a, b, d⟩ := hp
    intro t h
    obtain ⟨c0, el0, t0, rfl, k1, k2, k3, k4⟩ := getT_cons h
    simp only [List.cons_append, setT]
    congr 1
    refine modify_congr k1 (modify_congr k3 (ih k4))
theorem setT_setT {hs : List Hop} {x y : TV} : ∀ {t : TV}, setT (setT t hs y) hs x = setT t hs x := by
  induction hs with
  | nil => intro t; rfl
  | cons hp hs ih =>
    obtain ⟨a, b, d⟩ := hp
    intro t
    cases t with
    | ow c =>
      simp only [setT]
      congr 1
      apply List.ext_getElem?
      intro k
      simp only [List.getElem?_modify]
      by_cases hk : a = k
      · subst hk
        cases c[a]? with
        | none => rfl
        | some el =>
          simp only [if_true, Option.map_eq_map, Option.map_some]
          congr 1
          apply List.ext_getElem?
          intro k
          simp only [List.getElem?_modify, Option.map_eq_map]
          by_cases hk : d = k
          · subst hk
            cases el[d]? with
            | none => rfl
            | some t1 => simp [ih]
          · cases el[k]? <;> simp [hk]
      · cases c[k]? <;> simp [hk]
    | _ => rfl
theorem aset_aset {α : Type} (l : List (Nat × α)) (i : Nat) (x y : α) : aset (aset l i x) i y = aset l i y := by
  induction l with
  | nil => simp [aset]
  | cons h r ih =>
    obtain ⟨k, v⟩ := h
    simp only [aset]
    by_cases hk : k = i
    · subst hk; simp [aset]
    · simp [hk, aset, ih]
theorem addrT_snocAt {w : World} {hs : List Hop} {k sz n cap j : Nat} {ad : Addr} : ∀ {x : Value}, hvT w x hs = some (.slice (some ad) n cap) → k < n → addrT w x (hs ++ [(k, sz, j)]) = some ⟨ad.block, ad.off + (k * sz + j), none⟩ := by
  induction hs with
  | nil =>
    intro x h hk
    simp only [hvT, Option.some.injEq] at h
    subst h
    simp [addrT, hk]
  | cons hp hs ih =>
    obtain ⟨i, sz', o⟩ := hp
    intro x h hk
    simp only [hvT] at h
    cases x with
    | slice a l c =>
      cases a with
      | none => cases hs <;> simp [addrT] at h
      | some a =>
        obtain ⟨hd, tl, hht⟩ : ∃ hd tl, hs ++ [(k, sz, j)] = hd :: tl := by cases hs <;> exact ⟨_, _, rfl⟩
        cases hs with
        | nil =>
          simp only [addrT] at h
          split at h
          · rename_i hi
            simp only [Option.bind_some] at h
            simp only [List.cons_append, List.nil_append, addrT, hi, if_true, h, hk]
          · simp at h
        | cons hp2 hs2 =>
          simp only [addrT] at h
          split at h
          · rename_i hi
            split at h
            · rename_i y hy
              rw [List.cons_append, hht]
              simp only [addrT, hi, if_true, hy]
              rw [← hht]
              exact ih (by simpa [hvT] using h) hk
            · simp at h
          · simp at h
    | _ => cases hs <;> simp [addrT] at h

section
variable {P : Program} {M : Fm} {σ σ' : St} {H : List TV} {xs : List Value} {ts : Array Value} {w : World} {G : Gh} {a : Act} {o : Oper}

def St.sub (σ : St) (p : Place) (l : List TV) (t : TV) : St := ⟨σ.tm, aset σ.ce p.root (l.set p.off (setT (σ.c p.root p.off) p.hops t)), σ.vr⟩
theorem St.sub_c {p : Place} {l : List TV} {t : TV} (hl : p.off < l.length) : (σ.sub p l t).c p.root p.off = setT (σ.c p.root p.off) p.hops t := by
  simp only [St.c, St.sub, aget_aset, if_true]
  simp [hl]

/-- One flat cell of an element. -/
theorem put_step (hI : Inv M σ [] [] ts w G) {p : Place} {c : List (List TV)} {el : List TV} {b n cap i sz j : Nat} {old v : Value} (hr1 : p.root ≠ 1) (hhv : G.hv w p = some (.slice (some ⟨b, 0, none⟩) n cap)) (hg : getT (σ.c p.root p.off) p.hops = some (.ow c)) (hin : i < n)
    (hi : c[i]? = some el) (hl : el.length = sz) (hj : el[j]? = some (.v old)) (hv : vflat v = true) {l : List TV} (hal : aget σ.ce p.root = some l) (hol : p.off < l.length) :
    ∃ G', Inv M (σ.sub p l (.ow (c.modify i fun el => el.modify j fun _ => .v v))) [] [] ts (w.setCell ⟨b, i * sz + j, none⟩ v) G' ∧ (w.cell? ⟨b, i * sz + j, none⟩).isSome = true ∧ w.frozen? ⟨b, i * sz + j, none⟩ = false ∧ G'.hv (w.setCell ⟨b, i * sz + j, none⟩ v) p = some (.slice (some ⟨b, 0, none⟩) n cap) := by
  obtain ⟨G1, hg1⟩ := hI.addHand (t := .v v) (x := v) (.v (fun _ h => h) hv)
  simp only [List.nil_append] at hg1
  have hgE : getT (extC M σ [] p.root p.off) p.hops = some (.ow c) := by rw [extC_ne (by exact hr1)]; exact hg
  obtain ⟨c1, hhv1, _, _⟩ := hg1.2.2.1.hdr p _ c hr1 rfl hhv hgE
  obtain ⟨hd, tl, hht⟩ : ∃ hd tl, p.hops ++ [(i, sz, j)] = hd :: tl := by cases p.hops <;> exact ⟨_, _, rfl⟩
  have hadr : G1.addrB w ⟨p.root, p.off, p.hops ++ [(i, sz, j)]⟩ = some ⟨b, i * sz + j, none⟩ := by
    have := addrT_snocAt (sz := sz) (j := j) hhv1 hin
    unfold Gh.addrB
    simp only [hht]
    rw [← hht, this]
    simp
  have hgq : getT (σ.c p.root p.off) (p.hops ++ [(i, sz, j)]) = some (.v old) := getT_snocAt hg hi hl hj
  have hgqE : getT (extC M σ [.v v] p.root p.off) (p.hops ++ [(i, sz, j)]) = some (.v old) := by rw [extC_ne (by exact hr1)]; exact hgq
  have hrun : (putP ⟨p.root, p.off, p.hops ++ [(i, sz, j)]⟩ (.v v)).run σ = some ((), σ.sub p l (.ow (c.modify i fun el => el.modify j fun _ => .v v))) := by
    simp only [putP, SP.run, hgq, isHdr, Bool.or_self, Bool.false_eq_true, if_false, hal, hol, if_true]
    rw [setT_snocAt hg]
    rfl
  obtain ⟨⟨u, hu⟩, hfr, G2, hI2, hm, htm, hβ⟩ := hg1.1.put (p := ⟨p.root, p.off, p.hops ++ [(i, sz, j)]⟩) (j := 0) hr1 hadr hgqE (by simp) (by simp) (by simpa using hrun)
  simp only [List.getD_cons_zero] at hI2 hm
  have hI3 := hI2.clear (by intro k hk; have : k = 0 := by simp at hk; omega
                            subst this; simp)
  have hgE1 : getT (extC M σ [.v v] p.root p.off) p.hops = some (.ow c) := by rw [extC_ne (by exact hr1)]; exact hg
  obtain ⟨c2, hhv2, _, _⟩ := hm.keeps.hdr p _ c hr1 rfl hhv1 hgE1
  exact ⟨G2, hI3, by rw [hu]; rfl, hfr, hhv2⟩

theorem getElem?_modify2 {c : List (List TV)} {i j i' j' : Nat} {x : TV} {el : List TV} {y : TV} (h : c[i']? = some el) (hy : el[j']? = some y) (hne : ¬ (i' = i ∧ j' = j)) :
    ∃ el', (c.modify i fun el => el.modify j fun _ => x)[i']? = some el' ∧ el'[j']? = some y := by
  simp only [List.getElem?_modify, h, Option.map_eq_map, Option.map_some]
  by_cases hi : i = i'
  · subst hi
    refine ⟨_, rfl, ?_⟩
    have hj : ¬ j = j' := fun e => hne ⟨rfl, e.symm⟩
    simp only [if_true, List.getElem?_modify, hj, if_false, Option.map_eq_map]
    simpa using hy
  · refine ⟨_, rfl, ?_⟩
    simpa [hi] using hy

/-- Many flat cells. -/
theorem patch_ok {p : Place} {b n cap sz : Nat} (hr1 : p.root ≠ 1) (hsz : 0 < sz) : ∀ (vals : List Value) (c : List (List TV)) (o : Nat) (σ : St) (w : World) (G : Gh) (l : List TV), vals ≠ [] → Inv M σ [] [] ts w G → G.hv w p = some (.slice (some ⟨b, 0, none⟩) n cap) → getT (σ.c p.root p.off) p.hops = some (.ow c) → n = c.length →
    (∀ el ∈ c, el.length = sz) → (∀ v ∈ vals, vflat v = true) → (∀ t, o ≤ t → t < o + vals.length → ∃ el y, c[t / sz]? = some el ∧ el[t % sz]? = some (.v y)) → aget σ.ce p.root = some l → p.off < l.length →
    (∃ G', Inv M (σ.sub p l (.ow (patchF sz c o vals))) [] [] ts (w.setCells b o vals) G') ∧ ∀ j, j < vals.length → (w.cell? ⟨b, o + j, none⟩).isSome = true ∧ w.frozen? ⟨b, o + j, none⟩ = false := by
  intro vals
  induction vals with
  | nil => intro c o σ w G l h; exact absurd rfl h
  | cons v vals ih =>
    intro c o σ w G l _ hI hhv hg hn hlen hvf hfl hal hol
    obtain ⟨el, y, h1, h2⟩ := hfl o (Nat.le_refl _) (by simp)
    have hel : el.length = sz := hlen el (List.mem_of_getElem? h1)
    have hio : o / sz < n := by rw [hn]; exact (List.getElem?_eq_some_iff.1 h1).1
    have ho : o / sz * sz + o % sz = o := by rw [Nat.mul_comm]; exact Nat.div_add_mod o sz
    obtain ⟨G1, hI1, hs1, hf1, hhv1⟩ := put_step hI hr1 hhv hg hio h1 hel h2 (hvf v (by simp)) hal hol
    rw [ho] at hI1 hs1 hf1 hhv1
    cases vals with
    | nil =>
      refine ⟨⟨G1, hI1⟩, fun j hj => ?_⟩
      obtain rfl : j = 0 := by simp at hj; omega
      exact ⟨hs1, hf1⟩
    | cons v2 vals =>
      obtain ⟨c1, hc1⟩ : ∃ c1, c1 = c.modify (o / sz) fun el => el.modify (o % sz) fun _ => .v v := ⟨_, rfl⟩
      rw [← hc1] at hI1
      obtain ⟨l1, hl1⟩ : ∃ l1, l1 = l.set p.off (setT (σ.c p.root p.off) p.hops (.ow c1)) := ⟨_, rfl⟩
      have hsc : (σ.sub p l (.ow c1)).c p.root p.off = setT (σ.c p.root p.off) p.hops (.ow c1) := St.sub_c hol
      obtain ⟨⟨G2, hI2⟩, hc2⟩ := ih c1 (o + 1) (σ.sub p l (.ow c1)) _ G1 l1 (by simp) hI1 hhv1 (by rw [hsc]; exact getT_setT_same hg) (by rw [hn, hc1]; simp) (fun el' hel' => by
          have hml := map_len_modify c (o / sz) (o % sz) (fun _ => .v v)
          have : el'.length ∈ c1.map List.length := List.mem_map_of_mem hel'
          rw [hc1, hml] at this
          obtain ⟨e3, e4, e5⟩ := List.mem_map.1 this
          rw [← e5]; exact hlen e3 e4) (fun x hx => hvf x (by simp only [List.mem_cons] at hx ⊢; exact .inr hx)) (fun t ht1 ht2 => by
          obtain ⟨el', y', q1, q2⟩ := hfl t (by omega) (by simp at ht2 ⊢; omega)
          obtain ⟨el2, q3, q4⟩ := getElem?_modify2 (x := .v v) q1 q2 (i := o / sz) (j := o % sz) (by
            rintro ⟨e1, e2⟩
            have h3 := Nat.div_add_mod t sz
            have h4 := Nat.div_add_mod o sz
            rw [e1, e2] at h3
            omega)
          exact ⟨el2, y', by rw [hc1]; exact q3, q4⟩) (by simp [St.sub, aget_aset, hl1]) (by rw [hl1]; simpa using hol)
      refine ⟨⟨G2, ?_⟩, fun j hj => ?_⟩
      · have e : (σ.sub p l (.ow c1)).sub p l1 (.ow (patchF sz c1 (o + 1) (v2 :: vals))) = σ.sub p l (.ow (patchF sz c o (v :: v2 :: vals))) := by
          unfold St.sub
          have hsc' : (St.c ⟨σ.tm, aset σ.ce p.root (l.set p.off (setT (σ.c p.root p.off) p.hops (.ow c1))), σ.vr⟩ p.root p.off) = setT (σ.c p.root p.off) p.hops (.ow c1) := hsc
          rw [hsc', setT_setT, aset_aset, hl1, List.set_set]
          simp only [patchF, ← hc1]
        rw [e] at hI2
        exact hI2
      · cases j with
        | zero => exact ⟨hs1, hf1⟩
        | succ j =>
          have := hc2 j (by simpa using hj)
          rw [show o + 1 + j = o + (j + 1) by omega, World.frozen?_setCell] at this
          refine ⟨?_, this.2⟩
          have hne : (⟨b, o, none⟩ : Addr) ≠ ⟨b, o + (j + 1), none⟩ := fun e => by have := congrArg Addr.off e; simp at this
          rw [World.cell?_setCell_other w _ _ _ hne] at this
          exact this.1

theorem flats_get : ∀ {l : List TV} {vs : List Value}, flatsOf l = some vs → vs.length = l.length ∧ ∀ j (h : j < l.length) (h' : j < vs.length), l[j] = .v vs[j] := by
  intro l
  induction l with
  | nil => intro vs h; simp only [flatsOf, Option.some.injEq] at h; subst h; exact ⟨rfl, fun j h => by simp at h⟩
  | cons t l ih =>
    intro vs h
    cases t with
    | v x =>
      simp only [flatsOf] at h
      cases hl : flatsOf l with
      | none => simp [hl] at h
      | some r =>
        simp only [hl, Option.map_some, Option.some.injEq] at h
        subst h
        obtain ⟨e1, e2⟩ := ih hl
        refine ⟨by simp [e1], fun j hj hj' => ?_⟩
        cases j with
        | zero => rfl
        | succ j => exact e2 j (by simpa using hj) (by simpa using hj')
    | _ => simp [flatsOf] at h
theorem take_flat {c : List (List TV)} {sz m : Nat} (hs : ∀ i (h : i < c.length), c[i].length = sz) (hm : m ≤ c.length) : (c.take m).flatten.length = m * sz := by
  rw [flatten_len (sz := sz) fun i h => by simpa using hs i (by simp at h; omega)]
  simp [hm]
/-- Cells that are read in rows. -/
theorem rows_first {F fp : Nat → Prop} {t : TV} {v x : Value} {c c2 : List (List TV)} {sz lo n cap : Nat} {ad : Option Addr} (h : OwnR w F fp t v) (ht : t = .ow c ∨ t = .sl c) (hs : ∀ i (h : i < c.length), c[i].length = sz) (hpos : 0 < sz) (hc2 : c2 = (c.drop lo).take n) (hln : lo + n ≤ c.length)
    (hx : x = .slice ad n cap) (had : 0 < n → ∃ b o len cap', v = .slice (some ⟨b, o, none⟩) len cap' ∧ ad = some ⟨b, o + lo * sz, none⟩) (hnone : ad = none → n = 0) {m : Nat} {vs : List Value} (hm : m ≤ c2.length) (hf : flatsOf (c2.take m).flatten = some vs) : (Builtin.firstCells sz m x).run P w = .ok vs.toArray w := by
  subst hx
  have hc2l : c2.length = n := by rw [hc2]; simp; omega
  have hs2 : ∀ i (h : i < c2.length), c2[i].length = sz := fun i h => by
    subst hc2
    simp only [List.getElem_take, List.getElem_drop]
    exact hs _ (by simp at h; omega)
  obtain ⟨e1, e2⟩ := flats_get hf
  have hfl := take_flat hs2 hm
  cases ad with
  | none =>
    have hn := hnone rfl
    have hm0 : m = 0 := by omega
    subst hm0
    have : vs = [] := List.eq_nil_of_length_eq_zero (by rw [e1, hfl]; omega)
    subst this
    rfl
  | some ad =>
    show (loadCells ad (m * sz)).run P w = _
    obtain ⟨a, capX, vals, f, rfl, hvl, hcells, hrec, _⟩ := h.rows ht hs
    have hvl2 : vs.length = m * sz := by rw [e1, hfl]
    have := run_loadCells_list (P := P) w ad vs fun j y hj => by
      have hjl : j < vs.length := by
        rcases Nat.lt_or_ge j vs.length with h | h
        · exact h
        · rw [List.getElem?_eq_none h] at hj; simp at hj
      have hjm : j < m * sz := by omega
      have hq : j / sz < m := (Nat.div_lt_iff_lt_mul hpos).2 hjm
      have hr : j % sz < sz := Nat.mod_lt _ hpos
      have hqc : j / sz < c2.length := by omega
      have hidx : lo + j / sz < c.length := by omega
      have hrl : j % sz < (c[lo + j / sz]).length := by rw [hs _ hidx]; exact hr
      have hoff : (lo + j / sz) * sz + j % sz = lo * sz + j := by
        rw [Nat.add_mul]
        have := Nat.div_add_mod j sz
        rw [Nat.mul_comm] at this
        omega
      have hown := hrec (lo + j / sz) (j % sz) hidx hrl
      rw [hoff] at hown
      have hel : c[lo + j / sz][j % sz] = .v y := by
        have h1 := e2 j (by rw [hfl]; exact hjm) hjl
        have h2 := flatten_get (c := c2.take m) (sz := sz) (fun i h => by simpa using hs2 i (by simp at h; omega)) (i := j / sz) (j := j % sz) (by simp; omega) (by rw [List.getElem_take, hs2 _ hqc]; exact hr)
        rw [show j / sz * sz + j % sz = j by rw [Nat.mul_comm]; exact Nat.div_add_mod j sz, List.getElem?_eq_getElem (by rw [hfl]; exact hjm), h1] at h2
        injection h2 with h2
        have h3 : (c2.take m)[j / sz]'(by simp; omega) = c[lo + j / sz] := by
          subst hc2; simp
        have hy : vs[j] = y := by simpa [hjl] using hj
        rw [← hy, h2]
        simp only [h3]
      rw [hel] at hown
      have hvj : vals.getD (lo * sz + j) undef = y := by
        generalize vals.getD (lo * sz + j) undef = z at hown
        cases hown with
        | v hfp hfl => rfl
      have hlt : lo * sz + j < vals.length := by
        rw [hvl]
        have : (lo + j / sz) * sz + sz ≤ c.length * sz := by
          have : (lo + j / sz + 1) * sz ≤ c.length * sz := Nat.mul_le_mul_right _ hidx
          rw [Nat.add_mul, Nat.one_mul] at this
          exact this
        omega
      obtain ⟨b, o, hab, hcl⟩ := hcells (lo * sz + j) y (by rw [List.getElem?_eq_getElem hlt]; rw [List.getD_eq_getElem?_getD, List.getElem?_eq_getElem hlt] at hvj; simpa using hvj)
      obtain ⟨b', o', len, cap', hv', had'⟩ := had (by rw [← hc2l]; exact Nat.lt_of_le_of_lt (Nat.zero_le _) hqc)
      injection hv' with hv' _ _
      rw [hv'] at hab
      injection hab with hab
      injection hab with hb ho _
      subst hb; subst ho
      injection had' with had'
      rw [had', addr_add0, show o' + lo * sz + j = o' + (lo * sz + j) by omega]
      exact hcl
    rw [hvl2] at this
    exact this

/-- What is read of a slice. -/
theorem content_ok (hI : Inv M σ [] [] ts w G) {u : TV} {v : Value} (hu : TmR w (G.F M.A) σ.v (extC M σ []) G u v) {c2 : List (List TV)} (hr : (contentOf u).run σ = some (c2, σ')) : σ' = σ ∧ ∀ sz, 0 < sz → (∀ i (h : i < c2.length), c2[i].length = sz) →
    ∃ ad cap, v = .slice ad c2.length cap ∧ ∀ m vs, m ≤ c2.length → flatsOf (c2.take m).flatten = some vs → (Builtin.firstCells sz m v).run P w = .ok vs.toArray w := by
  cases u with
  | sl c =>
    simp only [contentOf, SP.run, Option.some.injEq, Prod.mk.injEq] at hr
    obtain ⟨rfl, rfl⟩ := hr
    refine ⟨rfl, fun sz hpos hs => ?_⟩
    cases hu with
    | sl h =>
      have hown : OwnR w (G.F M.A) (fun _ => False) (.sl c) v := .sl (fun _ h => h) h
      obtain ⟨ad, cap, hv, _⟩ := h.hdr
      refine ⟨ad, cap, hv, fun m vs hm hf => rows_first (lo := 0) (n := c.length) hown (.inr rfl) hs hpos (by simp) (by simp) hv (fun hn => ?_) (fun he => ?_) hm hf⟩
      · cases h with
        | @sl _ a cap sz' u hsz hcap hmax hnil hcell hrec =>
          have e : sz' = sz := by rw [← hsz 0 hn, hs 0 hn]
          subst e
          obtain ⟨b, o, ha, _, _⟩ := hcell 0 0 hn hpos
          injection hv with hv _ _
          exact ⟨b, o, _, _, by rw [ha], by rw [← hv, ha]; simp⟩
      · cases h with
        | @sl _ a cap sz' u hsz hcap hmax hnil hcell hrec =>
          injection hv with hv _ _
          rw [hv] at hnil
          have := hnil he
          omega
  | ow c =>
    cases hu with
    | nil =>
      simp only [contentOf, SP.run, Option.some.injEq, Prod.mk.injEq] at hr
      obtain ⟨rfl, rfl⟩ := hr
      refine ⟨rfl, fun sz hpos hs => ⟨none, 0, rfl, fun m vs hm hf => ?_⟩⟩
      have hm0 : m = 0 := by simpa using hm
      subst hm0
      simp only [List.take_zero, List.flatten_nil, flatsOf, Option.some.injEq] at hf
      subst hf
      rfl
  | pk p vs =>
    simp only [contentOf] at hr
    obtain ⟨_, σ1, h1, h2⟩ := SP.run_bind_some hr
    have e1 : σ1 = σ := (chk_run h1).1
    have e2 := (chk_run h1).2
    subst e1
    obtain ⟨tt, σ2, h3, h4⟩ := SP.run_bind_some h2
    obtain ⟨e3, hg⟩ := getPl_run h3
    have e3 : σ2 = σ1 := e3
    subst e3
    cases hu with
    | pk V0 h0 hv h =>
      obtain ⟨hr1, c, hhv, hgc⟩ := h e2
      have hgc' : getT (σ2.c p.root p.off) p.hops = some (.ow c) := by rw [extC_ne (by exact hr1)] at hgc; exact hgc
      rw [hgc'] at hg
      injection hg with hg
      subst hg
      simp only [SP.run, Option.some.injEq, Prod.mk.injEq] at h4
      obtain ⟨rfl, rfl⟩ := h4
      refine ⟨rfl, fun sz hpos hs => ?_⟩
      obtain ⟨fp, hown⟩ := pk_own hI hhv hgc
      obtain ⟨ad, cap, hv', _⟩ := hown.hdr
      refine ⟨ad, cap, hv', fun m vs hm hf => rows_first (lo := 0) (n := c.length) hown (.inl rfl) hs hpos (by simp) (by simp) hv' (fun hn => ?_) (fun he => ?_) hm hf⟩
      · cases hown with
        | nil => simp at hn
        | @ow _ _ b cap cur e' sz' u f hfp hb hsz hcap hz0 hmax hcur hcell hrec hnb hdis =>
          injection hv' with hv' _ _
          exact ⟨b, 0, _, _, rfl, by rw [← hv']; simp⟩
      · cases hown with
        | nil => rfl
        | @ow _ _ b cap cur e' sz' u f hfp hb hsz hcap hz0 hmax hcur hcell hrec hnb hdis =>
          injection hv' with hv' _ _
          rw [he] at hv'; simp at hv'
  | pw p vs sz0 lo n =>
    simp only [contentOf] at hr
    obtain ⟨_, σ1, h1, h2⟩ := SP.run_bind_some hr
    have e1 : σ1 = σ := (chk_run h1).1
    have e2 := (chk_run h1).2
    subst e1
    obtain ⟨tt, σ2, h3, h4⟩ := SP.run_bind_some h2
    obtain ⟨e3, hg⟩ := getPl_run h3
    have e3 : σ2 = σ1 := e3
    subst e3
    cases hu with
    | pw V0 h0 hv h =>
      obtain ⟨hr1, c, hd, hhv, hgc, hln, a, cap, hx, hncap, hmx, hnil, hszc, had⟩ := h e2
      have hgc' : getT (σ2.c p.root p.off) p.hops = some (.ow c) := by rw [extC_ne (by exact hr1)] at hgc; exact hgc
      rw [hgc'] at hg
      injection hg with hg
      subst hg
      simp only [SP.run, Option.some.injEq, Prod.mk.injEq] at h4
      obtain ⟨rfl, rfl⟩ := h4
      refine ⟨rfl, fun sz hpos hs => ?_⟩
      have hl2 : ((c.drop lo).take n).length = n := by simp; omega
      obtain ⟨fp, hown⟩ := pk_own hI hhv hgc
      by_cases hn : n = 0
      · subst hn
        refine ⟨a, cap, by rw [hl2]; exact hx, fun m vs hm hf => ?_⟩
        have hm0 : m = 0 := by omega
        subst hm0
        simp only [List.take_zero, List.flatten_nil, flatsOf, Option.some.injEq] at hf
        subst hf
        rw [hx]
        cases a with
        | none => rfl
        | some a => simp [Builtin.firstCells, loadCells, loadCellsFrom]
      · have hsz0 : sz0 = sz := by
          rw [← hs 0 (by omega)]
          simp only [List.getElem_take, List.getElem_drop]
          exact (hszc _ (by omega)).symm
        subst hsz0
        refine ⟨a, cap, by rw [hl2]; exact hx, fun m vs hm hf => rows_first (lo := lo) (n := n) hown (.inl rfl) hszc hpos rfl hln hx (fun hn => ?_) (fun he => ?_) hm hf⟩
        · obtain ⟨b, len, cap', q1, q2⟩ := had hn
          exact ⟨b, 0, len, cap', q1, by rw [q2]; simp⟩
        · obtain ⟨b, len, cap', q1, q2⟩ := had (by omega)
          rw [he] at q2; simp at q2
  | _ => simp [contentOf, SP.run] at hr

/-- The copy itself, where what is read is known. -/
theorem run_copy_flat {t t' ty e : TypeId} {sz : Nat} (hu : P.underlying t = some (.slice e)) (hs : (P.info? e).map (·.size) = some sz) {v : Value} {ad2 : Option Addr} {n2 cap2 : Nat} (hv : v = .slice ad2 n2 cap2) {ad : Option Addr} {n cap : Nat} {vs : List Value} (hf : (Builtin.firstCells sz (min n2 n) v).run P w = .ok vs.toArray w)
    {w' : World} (hst : match ad with | some a => (storeCells a vs).run P w = .ok () w' | none => w' = w) :
    (Builtin.copy_ #[t, t'] ty #[.slice ad n cap, v]).run P w = .ok (goInt ((min n2 n : Nat) : Int)) w' := by
  subst hv
  cases hq : P.info? e with
  | none => simp [hq] at hs
  | some i =>
    have hi : i.size = sz := by simpa [hq] using hs
    have hmin : Nat.min n2 n = min n2 n := rfl
    cases ad with
    | none =>
      simp only at hst
      subst hst
      simp [Builtin.copy_, run_underlying hu, Builtin.lenOf, sizeOf, typeInfo, hq, hi, hmin, hf]
    | some a =>
      simp [Builtin.copy_, run_underlying hu, Builtin.lenOf, sizeOf, typeInfo, hq, hi, hmin, hf, hst]

theorem sim_cpy (hI : Inv M σ [] [] a.tmps w G) {d : Nat} (hd : o.dst = some d) (hN : d < M.N) {x y : Opd} {x' y' : Operand} {t t' e sz : TypeId} (hx : compOpd x' = some x) (hy : compOpd y' = some y) (ho : o.op = .call { callee := .builtin .copy, args := #[x', y'], argTypes := #[t, t'] })
    (hu : P.underlying t = some (.slice e)) (hs : (P.info? e).map (·.size) = some sz) (hr : (ev1 d (.cpy sz x y)).run σ = some ((), σ')) : Sim1 P M σ' a o w := by
  simp only [ev1] at hr
  obtain ⟨tx, σ1, h1, h2⟩ := SP.run_bind_some hr
  obtain ⟨rfl, hx1⟩ := opd_ok hI.tmr hx h1
  obtain ⟨ty, σ2, h3, h4⟩ := SP.run_bind_some h2
  obtain ⟨rfl, hy1⟩ := opd_ok hI.tmr hy h3
  obtain ⟨c2, σ3, h5, h6⟩ := SP.run_bind_some h4
  obtain ⟨rfl, hcont⟩ := content_ok hI hy1 h5
  have hexec : ∀ r w', (Builtin.copy_ #[t, t'] o.type #[a.eval x', a.eval y']).run P w = .ok r w' → (execOp a.eval o).run P w = .ok (.value r) w' := by
    intro r w' h
    simp [execOp, ho, resolve, invoke, builtin, h]
  -- the cells, once they are known
  have fin : ∀ (p : Place) (c : List (List TV)) (lo n : Nat) (vd hdv : Value) (ad : Option Addr) (cap : Nat), p.root ≠ 1 → G.hv w p = some hdv → getT (σ3.c p.root p.off) p.hops = some (.ow c) → a.eval x' = vd → vd = .slice ad n cap → lo + n ≤ c.length →
      (∀ b0 len cap', hdv = .slice (some ⟨b0, 0, none⟩) len cap' → True) → (0 < n → ∃ b len cap', hdv = .slice (some ⟨b, 0, none⟩) len cap' ∧ len = c.length ∧ ad = some ⟨b, lo * sz, none⟩) → (cpyTo d p (σ3.c p.root p.off) (cpyC sz c c2 lo n)).run σ3 = some ((), σ') → Sim1 P M σ' a o w := by
    intro p c lo n vd hdv ad cap hr1 hhv hg hvd hvs hln _ hbase hrun
    unfold cpyC at hrun
    split at hrun
    · rename_i hfl
      split at hrun
      case isFalse => simp [cpyTo, SP.run] at hrun
      rename_i hck
      simp only [Bool.and_eq_true, decide_eq_true_eq, List.all_eq_true, beq_iff_eq] at hck
      obtain ⟨ad2, cap2, hv2, hfirst⟩ := hcont sz hck.1 fun i h => hck.2 _ (List.getElem_mem h)
      have hf := hfirst (min c2.length n) [] (Nat.min_le_left _ _) hfl
      have hcp := run_copy_flat (t' := t') (ty := o.type) (ad := ad) (n := n) (cap := cap) (w' := w) hu hs hv2 hf (by cases ad <;> rfl)
      simp only [cpyTo] at hrun
      refine wr_ok hI hd hN (.v rfl) hrun (hexec _ _ ?_)
      rw [hvd, hvs]
      exact hcp
    · rename_i v vs hfl
      split at hrun
      case isFalse => simp [cpyTo, SP.run] at hrun
      rename_i hck
      simp only [Bool.and_eq_true, decide_eq_true_eq, List.all_eq_true, beq_iff_eq] at hck
      obtain ⟨⟨⟨⟨⟨k1, k2⟩, k3⟩, k4⟩, k5⟩, k6⟩ := hck
      have hsz2 : ∀ i (h : i < c2.length), c2[i].length = sz := fun i h => k3 _ (List.getElem_mem h)
      obtain ⟨ad2, cap2, hv2, hfirst⟩ := hcont sz k1 hsz2
      have hf := hfirst (min c2.length n) (v :: vs) (Nat.min_le_left _ _) hfl
      have hvl : (v :: vs).length = min c2.length n * sz := by rw [(flats_get hfl).1, take_flat hsz2 (Nat.min_le_left _ _)]
      have hn0 : 0 < n := by
        rcases Nat.eq_zero_or_pos n with h | h
        · subst h; simp at hvl
        · exact h
      obtain ⟨b, len, cap', hhd, hlen, had⟩ := hbase hn0
      subst hlen
      rw [hhd] at hhv
      simp only [cpyTo] at hrun
      obtain ⟨l, hl, hol, h7⟩ := SP.run_wrC hrun
      have hmn : min c2.length n ≤ n := Nat.min_le_right _ _
      obtain ⟨⟨G1, hI1⟩, hcell⟩ := patch_ok hr1 k1 (v :: vs) c (lo * sz) σ3 w G l (by simp) hI hhv hg rfl (fun el hel => k2 el hel) k6 (fun t ht1 ht2 => by
        rw [hvl] at ht2
        have hq1 : lo ≤ t / sz := (Nat.le_div_iff_mul_le k1).2 ht1
        have hq2 : t / sz < lo + min c2.length n := (Nat.div_lt_iff_lt_mul k1).2 (by rw [Nat.add_mul]; exact ht2)
        have hr2 : t % sz < sz := Nat.mod_lt _ k1
        have hic : t / sz < c.length := Nat.lt_of_lt_of_le hq2 k4
        have hmem : c[t / sz] ∈ (c.drop lo).take (min c2.length n) := by
          obtain ⟨q, hq⟩ : ∃ q, t / sz = lo + q := ⟨t / sz - lo, by rw [Nat.add_sub_cancel' hq1]⟩
          simp only [hq]
          rw [hq] at hq2
          refine List.mem_of_getElem? (i := q) ?_
          rw [List.getElem?_take, if_pos (Nat.lt_of_add_lt_add_left hq2), List.getElem?_drop]
          exact List.getElem?_eq_getElem _
        have hlt : t % sz < c[t / sz].length := by rw [k2 _ (List.getElem_mem hic)]; exact hr2
        have hisv := k5 _ hmem _ (List.getElem_mem hlt)
        refine ⟨c[t / sz], ?_⟩
        cases hcv : c[t / sz][t % sz] with
        | v y => exact ⟨y, List.getElem?_eq_getElem hic, by rw [List.getElem?_eq_getElem hlt, hcv]⟩
        | _ => rw [hcv] at hisv; simp [isV] at hisv) hl hol
      have hst := run_storeCells_cells (P := P) b (lo * sz) (v :: vs) 0 w (fun j hj => by simpa using (hcell j hj).1) (fun j hj => by simpa using (hcell j hj).2) (fun u hu => vflat_one (k6 u hu))
      have hcp := run_copy_flat (t' := t') (ty := o.type) (ad := ad) (n := n) (cap := cap) (w' := w.setCells b (lo * sz) (v :: vs)) hu hs hv2 hf (by rw [had]; simpa using hst)
      have hrn := hexec _ _ (by rw [hvd, hvs]; exact hcp)
      simp only [wr, SP.run, Option.some.injEq, Prod.mk.injEq, true_and] at h7
      have e9 : σ' = { σ3.sub p l (.ow (patchF sz c (lo * sz) (v :: vs))) with tm := aset (σ3.sub p l (.ow (patchF sz c (lo * sz) (v :: vs)))).tm d (.v (.int .i64 ((min c2.length n : Nat) : Int))) } := h7.symm
      rw [e9]
      refine ⟨_, _, _, G1, hrn, .inl rfl, ?_⟩
      rw [hd]
      exact hI1.wrT hN (.v rfl)
    · simp [cpyTo, SP.run] at hrun
  cases tx with
  | pk p vs =>
    simp only at h6
    obtain ⟨_, σ4, h7, h8⟩ := SP.run_bind_some h6
    have e1 : σ4 = σ3 := (chk_run h7).1
    have e2 := (chk_run h7).2
    subst e1
    simp only [SP.run] at h8
    generalize hz : a.eval x' = z at hx1
    cases hx1 with
    | pk V0 h0 hv h =>
      obtain ⟨hr1, c, hhv, hgc⟩ := h e2
      have hgc' : getT (σ4.c p.root p.off) p.hops = some (.ow c) := by rw [extC_ne (by exact hr1)] at hgc; exact hgc
      rw [hgc'] at h8
      simp only at h8
      obtain ⟨fp, hown⟩ := pk_own hI hhv hgc
      obtain ⟨ad, cap, hzv, _⟩ := hown.hdr
      refine fin p c 0 c.length z z ad cap hr1 hhv hgc' hz hzv (by simp) (fun _ _ _ _ => trivial) (fun hn => ?_) h8
      cases hown with
      | nil => simp at hn
      | @ow _ _ b cap0 cur e' sz' u f hfp hb hsz hcap hz0 hmax hcur hcell hrec hnb hdis =>
        injection hzv with hzv _ _
        exact ⟨b, _, _, rfl, rfl, by rw [← hzv]; simp⟩
  | pw p vs sz' lo n =>
    simp only at h6
    obtain ⟨_, σ4, h7, h8⟩ := SP.run_bind_some h6
    have e1 : σ4 = σ3 := (chk_run h7).1
    have e2 := (chk_run h7).2
    subst e1
    simp only [SP.run] at h8
    generalize hz : a.eval x' = z at hx1
    cases hx1 with
    | pw V0 h0 hv h =>
      obtain ⟨hr1, c, hd', hhv, hgc, hln, ad, cap, hxv, hncap, hmx, hnil, hszc, had⟩ := h e2
      have hgc' : getT (σ4.c p.root p.off) p.hops = some (.ow c) := by rw [extC_ne (by exact hr1)] at hgc; exact hgc
      rw [hgc'] at h8
      simp only at h8
      split at h8
      case isFalse => simp [SP.run] at h8
      rename_i hsz'
      subst hsz'
      obtain ⟨fp, hown⟩ := pk_own hI hhv hgc
      refine fin p c lo n z hd' ad cap hr1 hhv hgc' hz hxv hln (fun _ _ _ _ => trivial) (fun hn => ?_) h8
      obtain ⟨b, len, cap', q1, q2⟩ := had hn
      obtain ⟨ad3, cap3, q3, _⟩ := hown.hdr
      rw [q1] at q3
      injection q3 with _ q3 _
      exact ⟨b, len, cap', q1, q3, q2⟩
  | _ => simp [SP.run] at h6
end
end Go.Proofs.Ytkmbahlpmoljpaa
/- Each operation of the program turned into one on trees, and what it comes to; no condition. -/
set_option linter.unusedVariables false
set_option linter.unusedSimpArgs false
namespace Go.Proofs.Ytkmbahlpmoljpaa
open Go.RowKit

def szOf (P : Program) (t : TypeId) : Option Nat := (P.info? t).map (·.size)
def zeroOf (P : Program) (t : TypeId) : Option (List Value) := (P.info? t).bind (·.zero.map (·.cells.toList))
def loadOf (P : Program) (t : TypeId) : Option (Option Nat) :=
  match P.underlying t with
  | some (.struct _) => (szOf P t).map some
  | some (.array _ _) => (szOf P t).map some
  | some _ => some none
  | none => none
def optOpd : Option Operand → Option (Option Opd)
  | none => some none
  | some x => (compOpd x).map some
def mapOpt {α β : Type} (f : α → Option β) : List α → Option (List β)
  | [] => some []
  | x :: r => match f x, mapOpt f r with | some y, some l => some (y :: l) | _, _ => none
def guardO (b : Bool) : Option Unit := if b then some () else none

/-- The operation on trees; mv: what comes in may be moved; keep: what a call hands back stays owned. -/
def compOp (P : Program) (mv : Bool) : Op → Option TOp
  | .move x => match x with
    | .const (.agg cs) => some (.asn true (.c (.agg cs)))
    | x => (compOpd x).map .mov
  | .assign x => (compOpd x).map (.asn mv)
  | .pick c a b => do some (.pick (← compOpd c) (← compOpd a) (← compOpd b))
  | .alloc e => (zeroOf P e).map .alloc
  | .box e x => do some (.box (← szOf P e) mv (← compOpd x))
  | .load t a => do some (.load (← loadOf P t) (← compOpd a))
  | .store t a x => do
    let n ← szOf P t
    guardO (decide (0 < n))
    some (.store n mv (← compOpd a) (← compOpd x))
  | .nilCheck x => (compOpd x).map .nilc
  | .binOp op t x y _ =>
    match P.underlying t with
    | some .bool => match op with
      | .eql => do some (.bnb false (← compOpd x) (← compOpd y))
      | .neq => do some (.bnb true (← compOpd x) (← compOpd y))
      | _ => none
    | some (.int _) => do some (.bin op (← compOpd x) (← compOpd y))
    | some .string => do some (.bin op (← compOpd x) (← compOpd y))
    | some (.struct _) =>
      if P.eqGuardType P.depth t then none
      else match flatAt P 50 t with
        | some ks => match op with
          | .eql => do some (.eqa ks false (← compOpd x) (← compOpd y))
          | .neq => do some (.eqa ks true (← compOpd x) (← compOpd y))
          | _ => none
        | none => none
    | _ => none
  | .unOp op _ x => (compOpd x).map (.un op)
  | .convert s d x =>
    match P.underlying s, P.underlying d with
    | some (.int _), some (.int k) => (compOpd x).map (.conv k)
    | some .string, some (.slice e) => match P.underlying e with
      | some (.int .u8) => (compOpd x).map .s2b
      | _ => none
    | some (.slice e), some .string => match P.underlying e with
      | some (.int .u8) => (compOpd x).map .b2s
      | _ => none
    | _, _ => none
  | .fieldAddr s x f =>
    match P.underlying s with
    | some (.struct fs) => match fs[f]? with
      | some fd => match szOf P fd.type with
        | some (_ + 1) => (compOpd x).map (.fld fd.offset)
        | _ => none
      | none => none
    | _ => none
  | .field s x f =>
    match P.underlying s with
    | some (.struct fs) => match fs[f]? with
      | some fd => do some (.fldv fd.offset (← loadOf P fd.type) (← compOpd x))
      | none => none
    | _ => none
  | .indexAddr t x i =>
    match P.underlying t with
    | some (.slice e) => do some (.idx (← szOf P e) (← compOpd x) (← compOpd i))
    | some (.array n e) => do some (.idxa n (← szOf P e) (← compOpd x) (← compOpd i))
    | _ => none
  | .index t x i =>
    match P.underlying t with
    | some .string => do some (.ixs (← compOpd x) (← compOpd i))
    | _ => none
  | .extract x i => (compOpd x).map fun x => .ext x i
  | .makeSlice t l c =>
    match P.underlying t with
    | some (.slice e) => match P.info? e with
      | some i => match i.zero with
        | some z => do
          guardO (decide (i.bytes ≤ 16777216 * i.size) && decide (0 < i.size))
          some (.mks i.size z.cells.toList (← compOpd l) (← compOpd c))
        | none => none
      | none => none
    | _ => none
  | .slice t x lo hi mx =>
    match mx with
    | some _ => none
    | none => match P.underlying t with
      | some (.slice e) => do some (.slc (← szOf P e) (← compOpd x) (← optOpd lo) (← optOpd hi))
      | _ => none
  | .makeFunc fn first caps =>
    match fn with
    | .func f => do
      guardO (first.size == 0)
      some (.mkf f (← mapOpt compOpd caps.toList))
    | _ => none
  | .buildSlice t len parts =>
    match P.underlying t with
    | some (.slice e) => match P.info? e with
      | some i => do
        guardO ((i.zero.isSome || len * i.size == 0) && decide (len * i.size ≤ 16777216) && decide (len ≤ 16777216) && parts.toList.map (·.1) == List.range len)
        some (.bsl i.size mv len (← mapOpt (fun p => compOpd p.2) parts.toList))
      | none => none
    | _ => none
  | .build t parts =>
    match P.underlying t, zeroOf P t with
    | some (.struct fs), some z => do
      guardO (fs.toList.all fun f => (szOf P f.type).isSome)
      let ps ← mapOpt (fun p => match fs[p.1]? with
        | some f => match szOf P f.type, compOpd p.2 with
          | some n, some x => if f.offset + n ≤ z.length then some (f.offset, n, x) else none
          | _, _ => none
        | none => none) parts.toList
      some (.bld z mv ps)
    | some (.array _ e), some z => match szOf P e with
      | some sz => do
        let ps ← mapOpt (fun p => match compOpd p.2 with
          | some x => if p.1 * sz + sz ≤ z.length then some (p.1 * sz, sz, x) else none
          | none => none) parts.toList
        some (.bld z mv ps)
      | none => none
    | _, _ => none
  | .call c =>
    match c with
    | { callee := .builtin .append, args, argTypes } => match args.toList, argTypes.toList with
      | [s, x], [t, t'] => if t = t' then
          match P.underlying t with
          | some (.slice e) => match P.info? e with
            | some i => match i.zero with
              | some z => do
                guardO (z.cells.size == i.size && decide (0 < i.size))
                some (.app i.size i.bytes mv (← compOpd s) (← compOpd x))
              | none => none
            | none => none
          | _ => none
        else none
      | _, _ => none
    | { callee := .builtin .copy, args, argTypes } => match args.toList, argTypes.toList with
      | [x, y], [t, _] => match P.underlying t with
        | some (.slice e) => do some (.cpy (← szOf P e) (← compOpd x) (← compOpd y))
        | _ => none
      | _, _ => none
    | { callee := .builtin .min, args, argTypes := _ } => (mapOpt compOpd args.toList).map (.mm false)
    | { callee := .builtin .max, args, argTypes := _ } => (mapOpt compOpd args.toList).map (.mm true)
    | { callee := .builtin .len, args, argTypes } => match args.toList, argTypes.toList with
      | [x], [t] => match P.underlying t with
        | some (.slice _) => (compOpd x).map .len
        | some .string => (compOpd x).map .lens
        | _ => none
      | _, _ => none
    | _ => none
  | _ => none

theorem szOf_eq {P : Program} {t : TypeId} {n : Nat} (h : szOf P t = some n) : (P.info? t).map (·.size) = some n := h
theorem loadOf_ok {P : Program} {t : TypeId} {n : Option Nat} (h : loadOf P t = some n) : LoadOk P t n := by
  unfold loadOf at h
  split at h
  · rename_i f hu
    cases hs : szOf P t with
    | none => simp [hs] at h
    | some k => simp [hs] at h; subst h; exact ⟨⟨_, hu, .inl ⟨_, rfl⟩⟩, hs⟩
  · rename_i n e hu
    cases hs : szOf P t with
    | none => simp [hs] at h
    | some k => simp [hs] at h; subst h; exact ⟨⟨_, hu, .inr ⟨_, _, rfl⟩⟩, hs⟩
  · rename_i d hd1 hd2 hu
    injection h with h
    subst h
    exact ⟨d, hu, fun f e => hd1 f (by rw [← e]), fun n e' e => hd2 n e' (by rw [← e])⟩
  · simp at h
theorem optOpd_ok {x : Option Operand} {y : Option Opd} (h : optOpd x = some y) : x.map compOpd = y.map some := by
  cases x with
  | none => simp [optOpd] at h; subst h; rfl
  | some x =>
    simp only [optOpd] at h
    cases hc : compOpd x with
    | none => simp [hc] at h
    | some z => simp [hc] at h; subst h; simp [hc]
theorem mapOpt_ok {α β : Type} {f : α → Option β} : ∀ {l : List α} {r : List β}, mapOpt f l = some r → l.map f = r.map some := by
  intro l
  induction l with
  | nil => intro r h; simp [mapOpt] at h; subst h; rfl
  | cons x l ih =>
    intro r h
    simp only [mapOpt] at h
    cases hx : f x with
    | none => simp [hx] at h
    | some y =>
      cases hl : mapOpt f l with
      | none => simp [hx, hl] at h
      | some q => simp [hx, hl] at h; subst h; simp [hx, ih hl]
theorem guardO_ok {b : Bool} {u : Unit} (h : guardO b = some u) : b = true := by
  unfold guardO at h
  split at h
  · assumption
  · simp at h
theorem obind {α β : Type} {x : Option α} {f : α → Option β} {y : β} (h : (x >>= f) = some y) : ∃ a, x = some a ∧ f a = some y := by
  cases x with
  | none => exact absurd h (by simp)
  | some a => exact ⟨a, rfl, h⟩
theorem omap {α β : Type} {x : Option α} {f : α → β} {y : β} (h : x.map f = some y) : ∃ a, x = some a ∧ f a = y := by
  cases x with
  | none => exact absurd h (by simp)
  | some a => exact ⟨a, rfl, by simpa using h⟩

section
variable {P : Program} {M : Fm} {σ σ' : St} {ts : Array Value} {w : World} {G : Gh} {a : Act} {o : Oper}

/-- An operation with a slot for its result. -/
theorem sim_op1 (hI : Inv M σ [] [] a.tmps w G) {d : Nat} (hd : o.dst = some d) (hN : d < M.N) (hpr : M.pr (2 * d + 2) = none) {mv : Bool} {t : TOp} (hc : compOp P mv o.op = some t) (hr : (ev1 d t).run σ = some ((), σ')) (hns : ¬ ∃ ty x y, o.op = .store ty x y) : Sim1 P M σ' a o w := by
  cases ho : o.op with
  | move x =>
    rw [ho] at hc
    simp only [compOp] at hc
    split at hc
    · injection hc with hc
      subst hc
      exact sim_asn hI hd hN rfl (.inr ho) hr
    · obtain ⟨y, hy, rfl⟩ := omap hc
      exact sim_mov hI hd hN hy ho hr
  | assign x =>
    rw [ho] at hc
    obtain ⟨y, hy, rfl⟩ := omap hc
    exact sim_asn hI hd hN hy (.inl ho) hr
  | pick c x y =>
    rw [ho] at hc
    simp only [compOp] at hc
    obtain ⟨c1, h1, hc⟩ := obind hc
    obtain ⟨x1, h2, hc⟩ := obind hc
    obtain ⟨y1, h3, hc⟩ := obind hc
    injection hc with hc
    subst hc
    exact sim_pick hI hd hN h1 h2 h3 ho hr
  | alloc e =>
    rw [ho] at hc
    obtain ⟨z, hz, rfl⟩ := omap hc
    exact sim_alloc hI hd hN hpr ho hz hr
  | box e x =>
    rw [ho] at hc
    simp only [compOp] at hc
    obtain ⟨n, h1, hc⟩ := obind hc
    obtain ⟨y, h2, hc⟩ := obind hc
    injection hc with hc
    subst hc
    exact sim_box hI hd hN hpr h2 ho hr
  | load t' x =>
    rw [ho] at hc
    simp only [compOp] at hc
    obtain ⟨n, h1, hc⟩ := obind hc
    obtain ⟨y, h2, hc⟩ := obind hc
    injection hc with hc
    subst hc
    exact sim_load hI hd hN h2 ho (loadOf_ok h1) hr
  | nilCheck x =>
    rw [ho] at hc
    obtain ⟨y, hy, rfl⟩ := omap hc
    exact sim_nilc hI hd hN hy ho hr
  | binOp op ty x y yt =>
    rw [ho] at hc
    simp only [compOp] at hc
    have key : (do some (TOp.bin op (← compOpd x) (← compOpd y)) : Option TOp) = some t → Sim1 P M σ' a o w := by
      intro hc
      obtain ⟨x1, h2, hc⟩ := obind hc
      obtain ⟨y1, h3, hc⟩ := obind hc
      injection hc with hc
      subst hc
      exact sim_bin hI hd hN h2 h3 ho hr
    split at hc
    · rename_i hu
      split at hc
      · obtain ⟨x1, h2, hc⟩ := obind hc
        obtain ⟨y1, h3, hc⟩ := obind hc
        injection hc with hc
        subst hc
        exact sim_bnb hI hd hN h2 h3 ho (.inl ⟨rfl, rfl⟩) hu hr
      · obtain ⟨x1, h2, hc⟩ := obind hc
        obtain ⟨y1, h3, hc⟩ := obind hc
        injection hc with hc
        subst hc
        exact sim_bnb hI hd hN h2 h3 ho (.inr ⟨rfl, rfl⟩) hu hr
      · simp at hc
    · exact key hc
    · exact key hc
    · rename_i fs hu
      split at hc
      case isTrue => simp at hc
      rename_i hgd
      split at hc
      case h_2 => simp at hc
      rename_i ks hk
      split at hc
      · obtain ⟨x1, h2, hc⟩ := obind hc
        obtain ⟨y1, h3, hc⟩ := obind hc
        injection hc with hc
        subst hc
        exact sim_eqa hI hd hN h2 h3 ho (.inl ⟨rfl, rfl⟩) hu hk (by simpa using hgd) hr
      · obtain ⟨x1, h2, hc⟩ := obind hc
        obtain ⟨y1, h3, hc⟩ := obind hc
        injection hc with hc
        subst hc
        exact sim_eqa hI hd hN h2 h3 ho (.inr ⟨rfl, rfl⟩) hu hk (by simpa using hgd) hr
      · simp at hc
    · simp at hc
  | unOp op ty x =>
    rw [ho] at hc
    obtain ⟨y, hy, rfl⟩ := omap hc
    exact sim_un hI hd hN hy ho hr
  | convert s dd x =>
    rw [ho] at hc
    simp only [compOp] at hc
    split at hc
    · rename_i ks k hs hdd
      obtain ⟨y, hy, rfl⟩ := omap hc
      exact sim_conv hI hd hN hy ho hs hdd hr
    · rename_i e hs hdd
      split at hc
      · rename_i he
        obtain ⟨y, hy, rfl⟩ := omap hc
        exact sim_s2b hI hd hN hy ho hs hdd he hr
      · simp at hc
    · rename_i e hs hdd
      split at hc
      · rename_i he
        obtain ⟨y, hy, rfl⟩ := omap hc
        exact sim_b2s hI hd hN hy ho hs hdd he hr
      · simp at hc
    · simp at hc
  | fieldAddr s x f =>
    rw [ho] at hc
    simp only [compOp] at hc
    split at hc
    · rename_i fs hu
      split at hc
      · rename_i fd hf
        split at hc
        · rename_i n hs
          obtain ⟨y, hy, rfl⟩ := omap hc
          exact sim_fld hI hd hN hy ho hu hf ⟨_, hs⟩ hr
        · simp at hc
      · simp at hc
    · simp at hc
  | field s x f =>
    rw [ho] at hc
    simp only [compOp] at hc
    split at hc
    · rename_i fs hu
      split at hc
      · rename_i fd hf
        obtain ⟨n, h1, hc⟩ := obind hc
        obtain ⟨y, h2, hc⟩ := obind hc
        injection hc with hc
        subst hc
        exact sim_fldv hI hd hN h2 ho hu hf (loadOf_ok h1) hr
      · simp at hc
    · simp at hc
  | indexAddr ty x i =>
    rw [ho] at hc
    simp only [compOp] at hc
    split at hc
    · rename_i e hu
      obtain ⟨n, h1, hc⟩ := obind hc
      obtain ⟨y, h2, hc⟩ := obind hc
      obtain ⟨z, h3, hc⟩ := obind hc
      injection hc with hc
      subst hc
      exact sim_idx hI hd hN h2 h3 ho hu h1 hr
    · rename_i n e hu
      obtain ⟨sz, h1, hc⟩ := obind hc
      obtain ⟨y, h2, hc⟩ := obind hc
      obtain ⟨z, h3, hc⟩ := obind hc
      injection hc with hc
      subst hc
      exact sim_idxa hI hd hN h2 h3 ho hu h1 hr
    · simp at hc
  | index ty x i =>
    rw [ho] at hc
    simp only [compOp] at hc
    split at hc
    · rename_i hu
      obtain ⟨y, h2, hc⟩ := obind hc
      obtain ⟨z, h3, hc⟩ := obind hc
      injection hc with hc
      subst hc
      exact sim_ixs hI hd hN h2 h3 ho hu hr
    · simp at hc
  | extract x i =>
    rw [ho] at hc
    obtain ⟨y, hy, rfl⟩ := omap hc
    exact sim_ext hI hd hN hy ho hr
  | makeSlice ty l c =>
    rw [ho] at hc
    simp only [compOp] at hc
    split at hc
    · rename_i e hu
      split at hc
      · rename_i i hi
        split at hc
        · rename_i z hz
          obtain ⟨u, h1, hc⟩ := obind hc
          obtain ⟨y, h2, hc⟩ := obind hc
          obtain ⟨y2, h3, hc⟩ := obind hc
          injection hc with hc
          subst hc
          have hg := guardO_ok h1
          simp only [Bool.and_eq_true, decide_eq_true_eq] at hg
          exact sim_mks hI hd hN h2 h3 ho hu hi hz rfl rfl hg.1 hg.2 hr
        · simp at hc
      · simp at hc
    · simp at hc
  | slice ty x lo hi mx =>
    rw [ho] at hc
    simp only [compOp] at hc
    split at hc
    · simp at hc
    · split at hc
      · rename_i e hu
        obtain ⟨n, h1, hc⟩ := obind hc
        obtain ⟨y, h2, hc⟩ := obind hc
        obtain ⟨l1, h3, hc⟩ := obind hc
        obtain ⟨h4, h5, hc⟩ := obind hc
        injection hc with hc
        subst hc
        exact sim_slc hI hd hN h2 (optOpd_ok h3) (optOpd_ok h5) ho hu h1 hr
      · simp at hc
  | makeFunc fn first caps =>
    rw [ho] at hc
    simp only [compOp] at hc
    split at hc
    · rename_i f
      obtain ⟨u, h1, hc⟩ := obind hc
      obtain ⟨l, h2, hc⟩ := obind hc
      injection hc with hc
      subst hc
      have hg := guardO_ok h1
      have hf : first = #[] := by simpa using hg
      subst hf
      exact sim_mkf hI hd hN (mapOpt_ok h2) ho hr
    · simp at hc
  | buildSlice ty len parts =>
    rw [ho] at hc
    simp only [compOp] at hc
    split at hc
    · rename_i e hu
      split at hc
      · rename_i i hi
        obtain ⟨u, h1, hc⟩ := obind hc
        obtain ⟨l, h2, hc⟩ := obind hc
        injection hc with hc
        subst hc
        have hg := guardO_ok h1
        simp only [Bool.and_eq_true, Bool.or_eq_true, decide_eq_true_eq, beq_iff_eq] at hg
        obtain ⟨⟨⟨g1, g2⟩, g3⟩, g4⟩ := hg
        refine sim_bsl hI hd hN ho hu hi rfl (fun h0 => ?_) g4 (mapOpt_ok h2) g2 g3 hr
        rcases g1 with g1 | g1
        · exact Option.isSome_iff_exists.1 g1
        · omega
      · simp at hc
    · simp at hc
  | build ty parts =>
    rw [ho] at hc
    simp only [compOp] at hc
    split at hc
    · rename_i fs z hu hz
      obtain ⟨u, h1, hc⟩ := obind hc
      obtain ⟨ps, h2, hc⟩ := obind hc
      injection hc with hc
      subst hc
      have hg := guardO_ok h1
      simp only [List.all_eq_true] at hg
      have hm := mapOpt_ok h2
      refine sim_bld hI hd hN (szf := fun f => (szOf P f.type).getD 0) ho hu hz (fun f hf => ?_) ?_ (fun k h h' => ?_) hr
      · have := hg f hf
        obtain ⟨n, hn⟩ := Option.isSome_iff_exists.1 this
        rw [hn]; exact hn
      · have := congrArg List.length hm; simpa using this
      · have hk : (parts.toList.map (fun p => match fs[p.1]? with
          | some f => match szOf P f.type, compOpd p.2 with
            | some n, some x => if f.offset + n ≤ z.length then some (f.offset, n, x) else none
            | _, _ => none
          | none => none))[k]? = (ps.map some)[k]? := by rw [hm]
        simp only [List.getElem?_map, List.getElem?_eq_getElem h', Option.map_some, Array.getElem?_toList, Array.getElem?_eq_getElem h] at hk
        cases hf : fs[parts[k].1]? with
        | none => simp [hf] at hk
        | some f =>
          cases hs : szOf P f.type with
          | none => simp [hf, hs] at hk
          | some n =>
            cases hx : compOpd parts[k].2 with
            | none => simp [hf, hs, hx] at hk
            | some x =>
              simp only [hf, hs, hx, Option.some.injEq] at hk
              split at hk
              · rename_i hle
                injection hk with hk
                rw [← hk]
                exact ⟨rfl, by simp [hs], hle⟩
              · simp at hk
    · rename_i n e z hu hz
      split at hc
      · rename_i sz hsz
        obtain ⟨ps, h2, hc⟩ := obind hc
        injection hc with hc
        subst hc
        have hm := mapOpt_ok h2
        refine sim_blda hI hd hN ho hu hz hsz ?_ (fun k h h' => ?_) hr
        · have := congrArg List.length hm; simpa using this
        · have hk : (parts.toList.map (fun p => match compOpd p.2 with
            | some x => if p.1 * sz + sz ≤ z.length then some (p.1 * sz, sz, x) else none
            | none => none))[k]? = (ps.map some)[k]? := by rw [hm]
          simp only [List.getElem?_map, List.getElem?_eq_getElem h', Option.map_some, Array.getElem?_toList, Array.getElem?_eq_getElem h] at hk
          cases hx : compOpd parts[k].2 with
          | none => simp [hx] at hk
          | some x =>
            simp only [hx, Option.some.injEq] at hk
            split at hk
            · rename_i hle
              injection hk with hk
              rw [← hk]
              exact ⟨rfl, rfl, rfl, hle⟩
            · simp at hk
      · simp at hc
    · simp at hc
  | call c =>
    rw [ho] at hc
    simp only [compOp] at hc
    split at hc
    · rename_i args argTypes
      split at hc
      · rename_i s x t1 t2 ea et
        have ea : args = #[s, x] := by rw [← Array.toArray_toList (xs := args), ea]
        have et : argTypes = #[t1, t2] := by rw [← Array.toArray_toList (xs := argTypes), et]
        subst ea; subst et
        split at hc
        · rename_i hteq
          subst hteq
          split at hc
          · rename_i e hu
            split at hc
            · rename_i i hi
              split at hc
              · rename_i z hz
                obtain ⟨u, h1, hc⟩ := obind hc
                obtain ⟨y, h2, hc⟩ := obind hc
                obtain ⟨y2, h3, hc⟩ := obind hc
                injection hc with hc
                subst hc
                have hg := guardO_ok h1
                simp only [Bool.and_eq_true, decide_eq_true_eq, beq_iff_eq] at hg
                exact sim_app hI hd hN h2 h3 ho hu hi hz hg.1 rfl rfl hg.2 hr
              · simp at hc
            · simp at hc
          · simp at hc
        · simp at hc
      · simp at hc
    · rename_i args argTypes
      split at hc
      · rename_i x y t1 t2 ea et
        have ea : args = #[x, y] := by rw [← Array.toArray_toList (xs := args), ea]
        have et : argTypes = #[t1, t2] := by rw [← Array.toArray_toList (xs := argTypes), et]
        subst ea; subst et
        split at hc
        · rename_i e hu
          obtain ⟨sz, h1, hc⟩ := obind hc
          obtain ⟨y1, h2, hc⟩ := obind hc
          obtain ⟨y2, h3, hc⟩ := obind hc
          injection hc with hc
          subst hc
          exact sim_cpy hI hd hN h2 h3 ho hu h1 hr
        · simp at hc
      · simp at hc
    · rename_i args argTypes
      obtain ⟨l, h1, rfl⟩ := omap hc
      exact sim_mm (mx := false) hI hd hN (mapOpt_ok h1) ho hr
    · rename_i args argTypes
      obtain ⟨l, h1, rfl⟩ := omap hc
      exact sim_mm (mx := true) hI hd hN (mapOpt_ok h1) ho hr
    · rename_i args argTypes
      split at hc
      · rename_i x t1 ea et
        have ea : args = #[x] := by rw [← Array.toArray_toList (xs := args), ea]
        have et : argTypes = #[t1] := by rw [← Array.toArray_toList (xs := argTypes), et]
        subst ea; subst et
        split at hc
        · rename_i e hu
          obtain ⟨y, hy, rfl⟩ := omap hc
          exact sim_len hI hd hN hy ho hu hr
        · rename_i hu
          obtain ⟨y, hy, rfl⟩ := omap hc
          exact sim_lens hI hd hN hy ho hu hr
        · simp at hc
      · simp at hc
    · simp at hc
  | store ty x y =>
    rw [ho] at hc
    simp only [compOp] at hc
    obtain ⟨n, h1, hc⟩ := obind hc
    obtain ⟨u, h2, hc⟩ := obind hc
    obtain ⟨x1, h3, hc⟩ := obind hc
    obtain ⟨y1, h4, hc⟩ := obind hc
    injection hc with hc
    subst hc
    exact absurd hns (by simp [ho])
  | _ => rw [ho] at hc; simp [compOp] at hc
end
end Go.Proofs.Ytkmbahlpmoljpaa
/- What a program over slots and cells reads and writes, and programs that do not meet; no condition. -/
set_option linter.unusedVariables false
set_option linter.unusedSimpArgs false
namespace Go.Proofs.Ytkmbahlpmoljpaa
open Go.RowKit

inductive Loc where
  | t (i : Nat)
  | c (r o : Nat)
  | n (r : Nat)
  | v (q : Key)
  deriving DecidableEq
def Loc.hit : Loc → Loc → Bool
  | .t i, .t j => i == j
  | .c r o, .c r' o' => r == r' && o == o'
  | .n r, .n r' => r == r'
  | .n r, .c r' _ => r == r'
  | .v q, .v q' => q == q'
  | _, _ => false
abbrev Foot := List Loc × List Loc
def SP.foot {α : Type} : SP α → St → Foot
  | .ret _, _ => ([], [])
  | .fail, _ => ([], [])
  | .rdT i k, σ => (.t i :: ((k (σ.t i)).foot σ).1, ((k (σ.t i)).foot σ).2)
  | .rdC r o k, σ => (.c r o :: ((k (σ.c r o)).foot σ).1, ((k (σ.c r o)).foot σ).2)
  | .rdV q k, σ => (.v q :: ((k (σ.v q)).foot σ).1, ((k (σ.v q)).foot σ).2)
  | .wrT i t k, σ => ((k.foot { σ with tm := aset σ.tm i t }).1, .t i :: (k.foot { σ with tm := aset σ.tm i t }).2)
  | .wrC r o t k, σ =>
    match aget σ.ce r with
    | some l => if o < l.length then (.n r :: (k.foot { σ with ce := aset σ.ce r (l.set o t) }).1, .c r o :: (k.foot { σ with ce := aset σ.ce r (l.set o t) }).2) else ([], [])
    | none => ([], [])
  | .new r l k, σ => (.v (r, 0, 0) :: (k.foot { σ with ce := aset σ.ce r l, vr := vinc σ.vr (r, 0, 0) }).1, .n r :: .v (r, 0, 0) :: (k.foot { σ with ce := aset σ.ce r l, vr := vinc σ.vr (r, 0, 0) }).2)
  | .bump q k, σ => (.v q :: (k.foot { σ with vr := vinc σ.vr q }).1, .v q :: (k.foot { σ with vr := vinc σ.vr q }).2)

/-- Two states are alike at a place. -/
def Alike (σ σ' : St) : Loc → Prop
  | .t i => aget σ.tm i = aget σ'.tm i
  | .c r o => σ.c r o = σ'.c r o
  | .n r => (aget σ.ce r).map List.length = (aget σ'.ce r).map List.length
  | .v q => σ.v q = σ'.v q
def Same (σ σ' : St) : Prop := ∀ x, Alike σ σ' x
theorem Alike.refl (σ : St) (x : Loc) : Alike σ σ x := by cases x <;> rfl
theorem Alike.symm {σ σ' : St} {x : Loc} (h : Alike σ σ' x) : Alike σ' σ x := by cases x <;> exact Eq.symm h
theorem Alike.trans {σ σ' σ'' : St} {x : Loc} (h : Alike σ σ' x) (h' : Alike σ' σ'' x) : Alike σ σ'' x := by cases x <;> exact Eq.trans h h'

theorem c_wr {σ : St} {r o : Nat} {t : TV} {l : List TV} (h : aget σ.ce r = some l) (ho : o < l.length) (r' o' : Nat) : St.c { σ with ce := aset σ.ce r (l.set o t) } r' o' = if r' = r ∧ o' = o then t else σ.c r' o' := by
  have := congrFun (congrFun (St.c_wr (t := t) h ho) r') o'
  exact this
theorem n_wr {σ : St} {r : Nat} {l l' : List TV} (h : aget σ.ce r = some l) (hl : l'.length = l.length) (r' : Nat) : (aget (aset σ.ce r l') r').map List.length = (aget σ.ce r').map List.length := by
  rw [aget_aset]
  split
  · rename_i e
    subst e
    rw [h]
    simp [hl]
  · rfl
theorem c_new {σ : St} {r : Nat} {l : List TV} {vr : List (Key × Nat)} (r' o' : Nat) : St.c { σ with ce := aset σ.ce r l, vr := vr } r' o' = if r' = r then l.getD o' .dead else σ.c r' o' := by
  unfold St.c
  simp only [aget_aset]
  by_cases e : r = r'
  · subst e; simp
  · rw [if_neg e, if_neg (Ne.symm e)]

/-- What is not written stays. -/
theorem SP.run_frame {α : Type} {s : SP α} : ∀ {σ : St} {a : α} {τ : St}, s.run σ = some (a, τ) → ∀ x, (∀ w ∈ (s.foot σ).2, w.hit x = false) → Alike σ τ x := by
  induction s with
  | ret a => intro σ b τ h x _; simp only [SP.run, Option.some.injEq, Prod.mk.injEq] at h; rw [h.2]; exact Alike.refl _ _
  | fail => intro σ b τ h; simp [SP.run] at h
  | rdT i k ih => intro σ b τ h x hx; exact ih _ h x hx
  | rdC r o k ih => intro σ b τ h x hx; exact ih _ h x hx
  | rdV q k ih => intro σ b τ h x hx; exact ih _ h x hx
  | wrT i t k ih =>
    intro σ b τ h x hx
    refine Alike.trans ?_ (ih h x fun w hw => hx w (by simp [SP.foot, hw]))
    have h1 := hx (.t i) (by simp [SP.foot])
    cases x with
    | t j =>
      simp only [Loc.hit, beq_eq_false_iff_ne, ne_eq] at h1
      simp [Alike, aget_aset, h1]
    | _ => exact rfl
  | wrC r o t k ih =>
    intro σ b τ h x hx
    obtain ⟨l, hl, ho, h2⟩ := SP.run_wrC h
    simp only [SP.foot, hl, ho, if_true] at hx
    refine Alike.trans ?_ (ih h2 x fun w hw => hx w (by simp [hw]))
    have h1 := hx (.c r o) (by simp)
    cases x with
    | c r' o' =>
      simp only [Loc.hit, Bool.and_eq_false_imp, beq_iff_eq, beq_eq_false_iff_ne, ne_eq] at h1
      show σ.c r' o' = _
      rw [c_wr hl ho, if_neg]
      rintro ⟨e1, e2⟩
      exact h1 e1.symm e2.symm
    | n r' => exact (n_wr hl (by simp) r').symm
    | _ => exact rfl
  | new r l k ih =>
    intro σ b τ h x hx
    refine Alike.trans ?_ (ih h x fun w hw => hx w (by simp [SP.foot, hw]))
    have h1 := hx (.n r) (by simp [SP.foot])
    have h2 := hx (.v (r, 0, 0)) (by simp [SP.foot])
    cases x with
    | t j => exact rfl
    | c r' o' =>
      simp only [Loc.hit, beq_eq_false_iff_ne, ne_eq] at h1
      show σ.c r' o' = _
      rw [c_new, if_neg (Ne.symm h1)]
    | n r' =>
      simp only [Loc.hit, beq_eq_false_iff_ne, ne_eq] at h1
      simp [Alike, aget_aset, h1]
    | v q =>
      simp only [Loc.hit, beq_eq_false_iff_ne, ne_eq] at h2
      show vget σ.vr q = vget (vinc σ.vr (r, 0, 0)) q
      rw [vget_vinc, if_neg h2]; rfl
  | bump q k ih =>
    intro σ b τ h x hx
    refine Alike.trans ?_ (ih h x fun w hw => hx w (by simp [SP.foot, hw]))
    have h2 := hx (.v q) (by simp [SP.foot])
    cases x with
    | v q' =>
      simp only [Loc.hit, beq_eq_false_iff_ne, ne_eq] at h2
      show vget σ.vr q' = vget (vinc σ.vr q) q'
      rw [vget_vinc, if_neg h2]; rfl
    | _ => exact rfl

/-- A program does the same where it reads the same. -/
theorem SP.run_alike {α : Type} {s : SP α} : ∀ {σ σ' : St} {a : α} {τ : St}, s.run σ = some (a, τ) → (∀ x ∈ (s.foot σ).1, Alike σ σ' x) →
    s.foot σ' = s.foot σ ∧ ∃ τ', s.run σ' = some (a, τ') ∧ ∀ x, (Alike σ σ' x ∨ ∃ w ∈ (s.foot σ).2, w.hit x = true) → Alike τ τ' x := by
  induction s with
  | ret a =>
    intro σ σ' b τ h hr
    simp only [SP.run, Option.some.injEq, Prod.mk.injEq] at h
    obtain ⟨rfl, rfl⟩ := h
    exact ⟨rfl, σ', rfl, fun x hx => hx.elim id fun ⟨w, hw, _⟩ => by simp [SP.foot] at hw⟩
  | fail => intro σ σ' b τ h; simp [SP.run] at h
  | rdT i k ih =>
    intro σ σ' b τ h hr
    have h1 : σ.t i = σ'.t i := by
      have : aget σ.tm i = aget σ'.tm i := hr (.t i) (by simp [SP.foot])
      simp [St.t, this]
    obtain ⟨e, τ', h2, h3⟩ := ih _ h fun x hx => hr x (by simp [SP.foot, hx])
    refine ⟨by simp only [SP.foot]; rw [← h1, e], τ', by simp only [SP.run]; rw [← h1]; exact h2, h3⟩
  | rdC r o k ih =>
    intro σ σ' b τ h hr
    have h1 : σ.c r o = σ'.c r o := hr (.c r o) (by simp [SP.foot])
    obtain ⟨e, τ', h2, h3⟩ := ih _ h fun x hx => hr x (by simp [SP.foot, hx])
    refine ⟨by simp only [SP.foot]; rw [← h1, e], τ', by simp only [SP.run]; rw [← h1]; exact h2, h3⟩
  | rdV q k ih =>
    intro σ σ' b τ h hr
    have h1 : σ.v q = σ'.v q := hr (.v q) (by simp [SP.foot])
    obtain ⟨e, τ', h2, h3⟩ := ih _ h fun x hx => hr x (by simp [SP.foot, hx])
    refine ⟨by simp only [SP.foot]; rw [← h1, e], τ', by simp only [SP.run]; rw [← h1]; exact h2, h3⟩
  | wrT i t k ih =>
    intro σ σ' b τ h hr
    have hal : ∀ x, (Alike σ σ' x ∨ x = .t i) → Alike { σ with tm := aset σ.tm i t } { σ' with tm := aset σ'.tm i t } x := by
      rintro x (hx | rfl)
      · cases x with
        | t j =>
          show aget (aset σ.tm i t) j = aget (aset σ'.tm i t) j
          rw [aget_aset, aget_aset]
          split
          · rfl
          · exact hx
        | _ => exact hx
      · show aget (aset σ.tm i t) i = aget (aset σ'.tm i t) i
        rw [aget_aset, aget_aset]; simp
    obtain ⟨e, τ', h2, h3⟩ := ih (σ' := { σ' with tm := aset σ'.tm i t }) h fun x hx => hal x (.inl (hr x (by simp [SP.foot, hx])))
    refine ⟨by simp only [SP.foot]; rw [e], τ', h2, fun x hx => h3 x ?_⟩
    rcases hx with hx | ⟨w, hw, hh⟩
    · exact .inl (hal x (.inl hx))
    · simp only [SP.foot, List.mem_cons] at hw
      rcases hw with rfl | hw
      · left
        refine hal x (.inr ?_)
        cases x <;> simp [Loc.hit] at hh
        rw [hh]
      · exact .inr ⟨w, hw, hh⟩
  | wrC r o t k ih =>
    intro σ σ' b τ h hr
    obtain ⟨l, hl, ho, h0⟩ := SP.run_wrC h
    simp only [SP.foot, hl, ho, if_true] at hr ⊢
    have hn : (aget σ.ce r).map List.length = (aget σ'.ce r).map List.length := hr (.n r) (by simp)
    obtain ⟨l', hl', hll⟩ : ∃ l', aget σ'.ce r = some l' ∧ l'.length = l.length := by
      rw [hl] at hn
      cases ha : aget σ'.ce r with
      | none => rw [ha] at hn; simp at hn
      | some l' => rw [ha] at hn; exact ⟨l', rfl, by simpa using hn.symm⟩
    have ho' : o < l'.length := by omega
    have hal : ∀ x, (Alike σ σ' x ∨ x = .c r o) → Alike { σ with ce := aset σ.ce r (l.set o t) } { σ' with ce := aset σ'.ce r (l'.set o t) } x := by
      rintro x (hx | rfl)
      · cases x with
        | c r' o' =>
          show St.c _ r' o' = St.c _ r' o'
          rw [c_wr hl ho, c_wr hl' ho']
          split
          · rfl
          · exact hx
        | n r' =>
          show Option.map _ _ = Option.map _ _
          rw [n_wr hl (by simp), n_wr hl' (by simp)]
          exact hx
        | _ => exact hx
      · show St.c _ r o = St.c _ r o
        rw [c_wr hl ho, c_wr hl' ho']; simp
    obtain ⟨e, τ', h2, h3⟩ := ih (σ' := { σ' with ce := aset σ'.ce r (l'.set o t) }) h0 fun x hx => hal x (.inl (hr x (by simp [hx])))
    refine ⟨by simp only [hl', ho', if_true]; rw [e], τ', by simp only [SP.run, hl', ho', if_true]; exact h2, fun x hx => h3 x ?_⟩
    rcases hx with hx | ⟨w, hw, hh⟩
    · exact .inl (hal x (.inl hx))
    · simp only [List.mem_cons] at hw
      rcases hw with rfl | hw
      · left
        refine hal x (.inr ?_)
        cases x <;> simp [Loc.hit] at hh
        rw [hh.1, hh.2]
      · exact .inr ⟨w, hw, hh⟩
  | new r l k ih =>
    intro σ σ' b τ h hr
    have hv : σ.v (r, 0, 0) = σ'.v (r, 0, 0) := hr (.v (r, 0, 0)) (by simp [SP.foot])
    have hal : ∀ x, (Alike σ σ' x ∨ (Loc.n r).hit x = true) → Alike { σ with ce := aset σ.ce r l, vr := vinc σ.vr (r, 0, 0) } { σ' with ce := aset σ'.ce r l, vr := vinc σ'.vr (r, 0, 0) } x := by
      intro x hx
      cases x with
      | t j => rcases hx with hx | hx
               · exact hx
               · simp [Loc.hit] at hx
      | c r' o' =>
        show St.c _ r' o' = St.c _ r' o'
        rw [c_new, c_new]
        split
        · rfl
        · rename_i e
          rcases hx with hx | hx
          · exact hx
          · simp [Loc.hit] at hx; exact absurd hx.symm e
      | n r' =>
        show Option.map _ (aget (aset _ _ _) _) = Option.map _ (aget (aset _ _ _) _)
        rw [aget_aset, aget_aset]
        split
        · rfl
        · rename_i e
          rcases hx with hx | hx
          · exact hx
          · simp [Loc.hit] at hx; exact absurd hx e
      | v q =>
        show vget (vinc _ _) q = vget (vinc _ _) q
        rw [vget_vinc, vget_vinc]
        rcases hx with hx | hx
        · have hx : vget σ.vr q = vget σ'.vr q := hx
          rw [hx]
        · simp [Loc.hit] at hx
    obtain ⟨e, τ', h2, h3⟩ := ih (σ' := { σ' with ce := aset σ'.ce r l, vr := vinc σ'.vr (r, 0, 0) }) h fun x hx => hal x (.inl (hr x (by simp [SP.foot, hx])))
    refine ⟨by simp only [SP.foot]; rw [e], τ', h2, fun x hx => h3 x ?_⟩
    rcases hx with hx | ⟨w, hw, hh⟩
    · exact .inl (hal x (.inl hx))
    · simp only [SP.foot, List.mem_cons] at hw
      rcases hw with rfl | rfl | hw
      · exact .inl (hal x (.inr hh))
      · left
        refine hal x (.inl ?_)
        cases x <;> simp [Loc.hit] at hh
        rw [← hh]; exact hv
      · exact .inr ⟨w, hw, hh⟩
  | bump q k ih =>
    intro σ σ' b τ h hr
    have hv : σ.v q = σ'.v q := hr (.v q) (by simp [SP.foot])
    have hal : ∀ x, Alike σ σ' x → Alike { σ with vr := vinc σ.vr q } { σ' with vr := vinc σ'.vr q } x := by
      intro x hx
      cases x with
      | v q' =>
        show vget (vinc _ _) q' = vget (vinc _ _) q'
        rw [vget_vinc, vget_vinc]
        have hx : vget σ.vr q' = vget σ'.vr q' := hx
        rw [hx]
      | _ => exact hx
    obtain ⟨e, τ', h2, h3⟩ := ih (σ' := { σ' with vr := vinc σ'.vr q }) h fun x hx => hal x (hr x (by simp [SP.foot, hx]))
    refine ⟨by simp only [SP.foot]; rw [e], τ', h2, fun x hx => h3 x ?_⟩
    rcases hx with hx | ⟨w, hw, hh⟩
    · exact .inl (hal x hx)
    · simp only [SP.foot, List.mem_cons] at hw
      rcases hw with rfl | hw
      · left
        refine hal x ?_
        cases x <;> simp [Loc.hit] at hh
        rw [← hh]; exact hv
      · exact .inr ⟨w, hw, hh⟩

def meet (a b : List Loc) : Bool := a.any fun w => b.any fun x => w.hit x
/-- One writes what the other reads or writes. -/
def clash (a b : Foot) : Bool := meet a.2 b.1 || meet a.2 b.2 || meet b.2 a.1 || meet b.2 a.2
theorem meet_false {a b : List Loc} (h : meet a b = false) : ∀ w ∈ a, ∀ x ∈ b, w.hit x = false := by
  intro w hw x hx
  simp only [meet, List.any_eq_false, Bool.not_eq_true] at h
  exact h w hw x hx
theorem hit_both {w w' x : Loc} (h : w.hit x = true) (h' : w'.hit x = true) : w.hit w' = true ∨ w'.hit w = true := by
  cases x <;> cases w <;> simp [Loc.hit] at h <;> cases w' <;> simp [Loc.hit] at h' ⊢ <;> simp_all

/-- Programs that do not meet may be exchanged. -/
theorem SP.swap {A B : SP Unit} {σ σ1 σ2 : St} (hA : A.run σ = some ((), σ1)) (hB : B.run σ1 = some ((), σ2)) (hc : clash (A.foot σ) (B.foot σ1) = false) :
    ∃ σ1' σ2', B.run σ = some ((), σ1') ∧ A.run σ1' = some ((), σ2') ∧ Same σ2 σ2' ∧ B.foot σ = B.foot σ1 ∧ A.foot σ1' = A.foot σ := by
  simp only [clash, Bool.or_eq_false_iff] at hc
  obtain ⟨⟨⟨c1, c2⟩, c3⟩, c4⟩ := hc
  have hR : ∀ x ∈ (B.foot σ1).1, Alike σ1 σ x := fun x hx => (SP.run_frame hA x fun w hw => meet_false c1 w hw x hx).symm
  obtain ⟨e1, σ1', hB', hB2⟩ := SP.run_alike hB hR
  have hfr : ∀ x, (∀ w ∈ (B.foot σ1).2, w.hit x = false) → Alike σ σ1' x := fun x hx => SP.run_frame hB' x (by rw [e1]; exact hx)
  have hR2 : ∀ x ∈ (A.foot σ).1, Alike σ σ1' x := fun x hx => hfr x fun w hw => meet_false c3 w hw x hx
  obtain ⟨e2, σ2', hA', hA2⟩ := SP.run_alike hA hR2
  refine ⟨σ1', σ2', hB', hA', fun x => ?_, e1, e2⟩
  by_cases hx : ∃ w ∈ (B.foot σ1).2, w.hit x = true
  · obtain ⟨w, hw, hh⟩ := hx
    refine Alike.trans (hB2 x (.inr ⟨w, hw, hh⟩)) (SP.run_frame hA' x fun w' hw' => ?_)
    rw [e2] at hw'
    cases hh' : w'.hit x with
    | false => rfl
    | true =>
      rcases hit_both hh hh' with h | h
      · rw [meet_false c4 w hw w' hw'] at h; simp at h
      · rw [meet_false c2 w' hw' w hw] at h; simp at h
  · have hx' : ∀ w ∈ (B.foot σ1).2, w.hit x = false := fun w hw => by
      cases hh : w.hit x with
      | false => rfl
      | true => exact absurd ⟨w, hw, hh⟩ hx
    refine Alike.trans (SP.run_frame hB x hx').symm (hA2 x ?_)
    exact .inl (hfr x hx')
theorem SP.run_same {α : Type} {s : SP α} {σ σ' : St} {a : α} {τ : St} (h : s.run σ = some (a, τ)) (hs : Same σ σ') : s.foot σ' = s.foot σ ∧ ∃ τ', s.run σ' = some (a, τ') ∧ Same τ τ' := by
  obtain ⟨e, τ', h1, h2⟩ := SP.run_alike h fun x _ => hs x
  exact ⟨e, τ', h1, fun x => h2 x (.inl (hs x))⟩

/-! ## Many, one after the other -/
def runFL (pg : Nat → SP Unit) : List Nat → St → Option (List (Nat × Foot) × St)
  | [], σ => some ([], σ)
  | i :: r, σ => ((pg i).run σ).bind fun x => (runFL pg r x.2).bind fun y => some ((i, (pg i).foot σ) :: y.1, y.2)
theorem runFL_same {pg : Nat → SP Unit} : ∀ {L : List Nat} {σ σ' : St} {fs : List (Nat × Foot)} {τ : St}, runFL pg L σ = some (fs, τ) → Same σ σ' → ∃ τ', runFL pg L σ' = some (fs, τ') ∧ Same τ τ' := by
  intro L
  induction L with
  | nil =>
    intro σ σ' fs τ h hs
    simp only [runFL, Option.some.injEq, Prod.mk.injEq] at h
    obtain ⟨rfl, rfl⟩ := h
    exact ⟨σ', rfl, hs⟩
  | cons i L ih =>
    intro σ σ' fs τ h hs
    simp only [runFL] at h
    obtain ⟨⟨u, σ1⟩, h1, h2⟩ := obind h
    obtain ⟨⟨fs', τ0⟩, h3, h4⟩ := obind h2
    injection h4 with h4
    injection h4 with h4 h5
    subst h5
    obtain ⟨e, σ1', k1, k2⟩ := SP.run_same h1 hs
    obtain ⟨τ', k3, k4⟩ := ih h3 k2
    exact ⟨τ', by simp only [runFL, k1, Option.bind_some, k3, e]; rw [h4], k4⟩

/-- One that does not meet those before it may come first. -/
theorem runFL_front {pg : Nat → SP Unit} {i : Nat} {post : List Nat} : ∀ {pre : List Nat} {σ : St} {fs : List (Nat × Foot)} {τ : St}, runFL pg (pre ++ i :: post) σ = some (fs, τ) →
    (∀ fs1 F fs2, fs = fs1 ++ (i, F) :: fs2 → fs1.map (·.1) = pre → ∀ y ∈ fs1, clash y.2 F = false) →
    ∃ σ' τ' fs1 F fs2, fs = fs1 ++ (i, F) :: fs2 ∧ fs1.map (·.1) = pre ∧ (pg i).run σ = some ((), σ') ∧ (pg i).foot σ = F ∧ runFL pg (pre ++ post) σ' = some (fs1 ++ fs2, τ') ∧ Same τ τ' := by
  intro pre
  induction pre with
  | nil =>
    intro σ fs τ h _
    simp only [List.nil_append, runFL] at h
    obtain ⟨⟨u, σ1⟩, h1, h2⟩ := obind h
    obtain ⟨⟨fs', τ0⟩, h3, h4⟩ := obind h2
    injection h4 with h4
    injection h4 with h4 h5
    subst h5
    exact ⟨σ1, τ0, [], _, fs', h4.symm, rfl, h1, rfl, h3, fun x => Alike.refl _ _⟩
  | cons j pre ih =>
    intro σ fs τ h hc
    simp only [List.cons_append, runFL] at h
    obtain ⟨⟨u, σ1⟩, h1, h2⟩ := obind h
    obtain ⟨⟨fs', τ0⟩, h3, h4⟩ := obind h2
    injection h4 with h4
    injection h4 with h4 h5
    subst h5
    obtain ⟨σ2, τ', fs1, F, fs2, e1, e2, k1, k2, k3, k4⟩ := ih h3 fun fs1 F fs2 e e' y hy => hc ((j, (pg j).foot σ) :: fs1) F fs2 (by rw [← h4, e]; rfl) (by simp [e']) y (by simp [hy])
    have hcl : clash ((pg j).foot σ) ((pg i).foot σ1) = false := by
      rw [k2]
      exact hc ((j, (pg j).foot σ) :: fs1) F fs2 (by rw [← h4, e1]; rfl) (by simp [e2]) (j, (pg j).foot σ) (by simp)
    obtain ⟨σ1', σ2', m1, m2, m3, m4, m5⟩ := SP.swap h1 k1 hcl
    obtain ⟨τ2, n1, n2⟩ := runFL_same k3 m3
    refine ⟨σ1', τ2, (j, (pg j).foot σ) :: fs1, F, fs2, by rw [← h4, e1]; rfl, by simp [e2], m1, m4.trans k2, ?_, fun x => (k4 x).trans (n2 x)⟩
    simp only [List.cons_append, runFL, m2, Option.bind_some, n1, m5]
def okPairs (deps : List (List Nat)) : List (Nat × Foot) → Bool
  | [] => true
  | (j, F) :: r => (r.all fun y => !clash F y.2 || (deps.getD y.1 []).contains j) && okPairs deps r
end Go.Proofs.Ytkmbahlpmoljpaa
