/- New variables, fields, elements; no condition. -/
import Derived.Test.YtkmbahlpmoljpaaQc
import Derived.Laws.StructEq
set_option linter.unusedVariables false
set_option linter.unusedSimpArgs false
namespace Go.Proofs.Ytkmbahlpmoljpaa
open Go.RowKit

theorem addrT_snoc {w : World} {hs : List Hop} {k sz n cap : Nat} {ad : Addr} : ∀ {x : Value}, hvT w x hs = some (.slice (some ad) n cap) → k < n → addrT w x (hs ++ [(k, sz, 0)]) = some ⟨ad.block, ad.off + (k * sz + 0), none⟩ := by
  induction hs with
  | nil =>
    intro x h hk
    simp only [hvT, Option.some.injEq] at h
    subst h
    simp [addrT, hk]
  | cons hp hs ih =>
    obtain ⟨i, sz', o⟩ := hp
    intro x h hk
    simp only [hvT] at h
    cases x with
    | slice a l c =>
      cases a with
      | none => cases hs <;> simp [addrT] at h
      | some a =>
        obtain ⟨hd, tl, hht⟩ : ∃ hd tl, hs ++ [(k, sz, 0)] = hd :: tl := by cases hs <;> exact ⟨_, _, rfl⟩
        cases hs with
        | nil =>
          simp only [addrT] at h
          split at h
          · rename_i hi
            simp only [Option.bind_some] at h
            simp only [List.cons_append, List.nil_append, addrT, hi, if_true, h, hk]
          · simp at h
        | cons h2 hs2 =>
          simp only [addrT] at h
          split at h
          · rename_i hi
            cases hc : w.cell? ⟨a.block, a.off + (i * sz' + o), none⟩ with
            | none => simp [hc] at h
            | some y =>
              simp only [hc] at h
              have := ih (x := y) (by simp only [hvT]; exact h) hk
              rw [List.cons_append] at this ⊢
              simp only [addrT, List.cons_append, hi, if_true, hc]
              exact this
          · simp at h
    | _ => cases hs <;> simp [addrT] at h
theorem getT_snoc {hs : List Hop} {k sz : Nat} {c : List (List TV)} {el : List TV} : ∀ {t : TV}, getT t hs = some (.ow c) → c[k]? = some el → el.length = sz → 0 < sz → ∃ t', getT t (hs ++ [(k, sz, 0)]) = some t' := by
  induction hs with
  | nil =>
    intro t h hk hs h0
    simp only [getT, Option.some.injEq] at h
    subst h
    have : el[0]? = some el[0] := List.getElem?_eq_getElem (by omega)
    exact ⟨el[0], by simp [getT, hk, hs, this]⟩
  | cons hp hs ih =>
    obtain ⟨i, sz', o⟩ := hp
    intro t h hk hsz h0
    obtain ⟨c', el', t2, rfl, hc, hz, ho, hget⟩ := getT_cons h
    obtain ⟨t', h'⟩ := ih hget hk hsz h0
    exact ⟨t', by simp [getT, hc, hz, ho, h']⟩
theorem getT_add {hs : List Hop} {i sz o n : Nat} : ∀ {t t1 : TV}, getT t (hs ++ [(i, sz, o)]) = some t1 → o + n < sz → ∃ t', getT t (hs ++ [(i, sz, o + n)]) = some t' := by
  induction hs with
  | nil =>
    intro t t1 h hlt
    obtain ⟨c', el', t2, rfl, hc, hz, ho, hget⟩ := getT_cons h
    have : el'[o + n]? = some el'[o + n] := List.getElem?_eq_getElem (by omega)
    exact ⟨el'[o + n], by simp [getT, hc, hz, this]⟩
  | cons hp hs ih =>
    obtain ⟨i', sz', o'⟩ := hp
    intro t t1 h hlt
    obtain ⟨c', el', t2, rfl, hc, hz, ho, hget⟩ := getT_cons h
    obtain ⟨t', h'⟩ := ih hget hlt
    exact ⟨t', by simp [getT, hc, hz, ho, h']⟩

section
variable {P : Program} {M : Fm} {σ σ' : St} {H : List TV} {xs : List Value} {ts : Array Value} {w : World} {G : Gh} {a : Act} {o : Oper}

theorem Inv.addHandL : ∀ {z : List Value} {H : List TV} {xs : List Value} {G : Gh}, Inv M σ H xs ts w G → (z.map ofCell).all okCell = true → ∃ G', Goes M w ts σ H G σ (H ++ z.map ofCell) (xs ++ z) G' := by
  intro z
  induction z with
  | nil => intro H xs G hI _; exact ⟨G, by simpa using Goes.refl hI⟩
  | cons x z ih =>
    intro H xs G hI hz
    simp only [List.map_cons, List.all_cons, Bool.and_eq_true] at hz
    have hx : OwnR w (G.F M.A) (fun _ => False) (ofCell x) x := by
      have h1 := hz.1
      unfold ofCell at h1 ⊢
      split
      · exact .nil (by simp)
      · split
        · rename_i h; exact .v (by simp) h
        · rename_i h
          have hh : okCell TV.dead = true := by simpa [h] using h1
          simp [okCell] at hh
    obtain ⟨G1, g1⟩ := hI.addHand hx
    obtain ⟨G2, g2⟩ := ih g1.1 hz.2
    exact ⟨G2, by simpa using g1.trans g2⟩

theorem box_ok {H : List TV} {xs : List Value} (hI : Inv M σ H xs a.tmps w G) {d : Nat} (hd : o.dst = some d) (hN : d < M.N) (hpr : M.pr (2 * d + 2) = none) (e : TypeId) {w0 : World}
    (hr : (SP.new (2 * d + 2) H (.rdV (2 * d + 2, 0, 0) fun g => wr d (.ptr ⟨2 * d + 2, 0, []⟩ [g]))).run σ = some ((), σ')) (hrun : (execOp a.eval o).run P w0 = .ok (.value (.pointer (some ⟨w.heap.size, 0, none⟩))) (w.alloc (.cells xs.toArray e))) : Sim1 P M σ' a o w0 := by
  obtain ⟨G', hI', _, hβ⟩ := hI.newBox (2 * d + 2) e (by omega) hpr (by omega)
  have hr' : (wr d (.ptr ⟨2 * d + 2, 0, []⟩ [(σ.root (2 * d + 2) H).v (2 * d + 2, 0, 0)])).run (σ.root (2 * d + 2) H) = some ((), σ') := hr
  simp only [wr, SP.run, Option.some.injEq, Prod.mk.injEq, true_and] at hr'
  subst hr'
  refine ⟨_, _, _, G', hrun, .inl rfl, ?_⟩
  rw [hd]
  refine hI'.wrT hN (.ptr (σ.root (2 * d + 2) H).v (fun _ => Nat.le_refl _) (by simp [vers]) fun _ => ⟨by show (2 * d + 2 : Nat) ≠ 1; omega, ⟨w.heap.size, 0, none⟩, _, ?_, rfl, rfl⟩)
  unfold Gh.addr
  simp only [hβ]

theorem sim_alloc (hI : Inv M σ [] [] a.tmps w G) {d : Nat} (hd : o.dst = some d) (hN : d < M.N) (hpr : M.pr (2 * d + 2) = none) {e : TypeId} {z : List Value} (ho : o.op = .alloc e) (hz : (P.info? e).bind (·.zero.map (·.cells.toList)) = some z)
    (hr : (ev1 d (.alloc z)).run σ = some ((), σ')) : Sim1 P M σ' a o w := by
  simp only [ev1] at hr
  split at hr
  case isFalse => simp [SP.run] at hr
  rename_i hok
  obtain ⟨G1, hg⟩ := hI.addHandL hok
  simp only [List.nil_append] at hg
  refine box_ok hg.1 hd hN hpr e hr ?_
  cases hi : P.info? e with
  | none => simp [hi] at hz
  | some i =>
    simp only [hi, Option.bind_some] at hz
    cases hiz : i.zero with
    | none => simp [hiz] at hz
    | some v =>
      simp only [hiz, Option.map_some, Option.some.injEq] at hz
      have hv : v.cells = z.toArray := by rw [← hz]
      simp [execOp, ho, Instr.alloc, zeroValue, typeInfo, hi, hiz, newVar, newRow, hv]

theorem sim_box (hI : Inv M σ [] [] a.tmps w G) {d n : Nat} {mv : Bool} (hd : o.dst = some d) (hN : d < M.N) (hpr : M.pr (2 * d + 2) = none) {x : Opd} {x' : Operand} {e : TypeId} (hx : compOpd x' = some x) (ho : o.op = .box e x')
    (hr : (ev1 d (.box n mv x)).run σ = some ((), σ')) : Sim1 P M σ' a o w := by
  simp only [ev1] at hr
  obtain ⟨t, σ1, h1, h2⟩ := SP.run_bind_some hr
  obtain ⟨rfl, ht⟩ := opd_ok hI.tmr hx h1
  obtain ⟨l, σ2, h3, h4⟩ := SP.run_bind_some h2
  obtain ⟨G1, hg, hone, hok, hlen⟩ := takeCells_ok hI ht h3
  split at h4
  case isFalse => simp [SP.run] at h4
  refine box_ok hg.1 hd hN hpr e h4 ?_
  simp [execOp, ho, Instr.box, newVar, newRow]

theorem sim_fld (hI : Inv M σ [] [] a.tmps w G) {d : Nat} (hd : o.dst = some d) (hN : d < M.N) {x : Opd} {x' : Operand} {s f : Nat} {fields : Array Field} {fd : Field} (hx : compOpd x' = some x) (ho : o.op = .fieldAddr s x' f)
    (hu : P.underlying s = some (.struct fields)) (hf : fields[f]? = some fd) (hs : ∃ n, (P.info? fd.type).map (·.size) = some (n + 1)) (hr : (ev1 d (.fld fd.offset x)).run σ = some ((), σ')) : Sim1 P M σ' a o w := by
  obtain ⟨nf, hs⟩ := hs
  have hso : (sizeOf fd.type).run P w = .ok (nf + 1) w := by
    unfold sizeOf typeInfo
    cases hi : P.info? fd.type with
    | none => simp [hi] at hs
    | some i => simp [hi] at hs; simp [hi, hs]
  simp only [ev1] at hr
  obtain ⟨tx, σ1, h1, h2⟩ := SP.run_bind_some hr
  obtain ⟨rfl, hx1⟩ := opd_ok hI.tmr hx h1
  cases tx with
  | ptr p vs =>
    simp only at h2
    obtain ⟨_, σ2, h3, h4⟩ := SP.run_bind_some h2
    have e1 : σ2 = σ1 := (chk_run h3).1
    have e2 := (chk_run h3).2
    subst e1
    split at h4
    case isFalse => simp [SP.run] at h4
    rename_i hfit
    generalize hz : a.eval x' = z at hx1
    cases hx1 with
    | ptr V0 h0 hv h =>
      obtain ⟨hr1, ad, t0, ha, rfl, hg0⟩ := h e2
      refine wr_ok hI hd hN (x := .pointer (some (ad.add fd.offset))) ?_ h4 (by simp [execOp, ho, hz, Instr.fieldAt, Instr.sureAddr, run_underlying hu, hf, fieldPlace, hso])
      refine .ptr V0 h0 (by rw [vers_add]; exact hv) fun _ => ⟨by rw [Place.add_root]; exact hr1, ⟨ad.block, ad.off + fd.offset, none⟩, ?_⟩
      have hsp := addr_spot ha
      have hadd : ad.add fd.offset = ⟨ad.block, ad.off + fd.offset, none⟩ := by
        obtain ⟨b, ob, sp⟩ := ad
        simp only at hsp
        subst hsp
        exact addr_add0 b ob fd.offset
      rcases p.add_cases fd.offset with ⟨q1, q2⟩ | ⟨hs', i, sz, o', q1, q2⟩
      · exact ⟨extC M σ2 [] p.root (p.off + fd.offset), addr_add _ ha, by rw [hadd], by rw [q2]; rfl⟩
      · have hlt : o' + fd.offset < sz := by
          unfold Place.fits at hfit
          rw [q1] at hfit
          simpa using hfit
        rw [q1] at hg0
        obtain ⟨t', ht'⟩ := getT_add hg0 hlt
        exact ⟨t', addr_add _ ha, by rw [hadd], by rw [q2]; exact ht'⟩
  | ip cs =>
    simp only at h2
    split at h2
    case isFalse => simp [SP.run] at h2
    rename_i hlt
    generalize hz : a.eval x' = z at hx1
    cases hx1 with
    | @ip _ b ob u hc hrr =>
      refine wr_ok hI hd hN (x := .pointer (some ⟨b, ob + fd.offset, none⟩)) ?_ h2 (by simp [execOp, ho, hz, Instr.fieldAt, Instr.sureAddr, run_underlying hu, hf, fieldPlace, hso, addr_add0])
      refine .ip (fun j => u (fd.offset + j)) (fun j hj => ?_) fun j hj => ?_
      · have := hc (fd.offset + j) (by simp at hj; omega)
        rw [show ob + fd.offset + j = ob + (fd.offset + j) by omega]
        exact this
      · have := hrr (fd.offset + j) (by simp at hj; omega)
        simpa [List.getElem_drop] using this
  | _ => simp [SP.run] at h2

theorem sim_ext (hI : Inv M σ [] [] a.tmps w G) {d : Nat} (hd : o.dst = some d) (hN : d < M.N) {x : Opd} {x' : Operand} {i : Nat} (hx : compOpd x' = some x) (ho : o.op = .extract x' i) (hr : (ev1 d (.ext x i)).run σ = some ((), σ')) : Sim1 P M σ' a o w := by
  simp only [ev1] at hr
  obtain ⟨tx, σ1, h1, h2⟩ := SP.run_bind_some hr
  obtain ⟨rfl, hx1⟩ := opd_ok hI.tmr hx h1
  cases tx with
  | tup l =>
    simp only at h2
    split at h2
    case isFalse => simp [SP.run] at h2
    rename_i hlt
    generalize hz : a.eval x' = z at hx1
    cases hx1 with
    | @tup _ xs hl h =>
      have hlt' : i < xs.size := by omega
      have ht := h i hlt
      have e1 : l.getD i .dead = l[i] := by simp [hlt]
      have e2 : xs.getD i undef = xs[i] := by simp [hlt']
      rw [e1] at h2
      rw [e2] at ht
      exact wr_ok hI hd hN ht h2 (by simp [execOp, ho, hz, Instr.extract, hlt'])
  | _ => simp [SP.run] at h2

theorem sim_fldv (hI : Inv M σ [] [] a.tmps w G) {d : Nat} (hd : o.dst = some d) (hN : d < M.N) {x : Opd} {x' : Operand} {s f : Nat} {n : Option Nat} {fields : Array Field} {fd : Field} (hx : compOpd x' = some x) (ho : o.op = .field s x' f)
    (hu : P.underlying s = some (.struct fields)) (hf : fields[f]? = some fd) (hn : LoadOk P fd.type n) (hr : (ev1 d (.fldv fd.offset n x)).run σ = some ((), σ')) : Sim1 P M σ' a o w := by
  simp only [ev1] at hr
  obtain ⟨tx, σ1, h1, h2⟩ := SP.run_bind_some hr
  obtain ⟨rfl, hx1⟩ := opd_ok hI.tmr hx h1
  cases tx with
  | agg l =>
    simp only at h2
    obtain ⟨xs, hz, hl, hj⟩ := aggXs hx1
    cases n with
    | none =>
      obtain ⟨dd, hud, hd1, hd2⟩ := hn
      simp only at h2
      split at h2
      case isFalse => simp [SP.run] at h2
      rename_i hlt
      have hlt' : fd.offset < xs.size := by omega
      have ht := hj _ hlt
      have e1 : l.getD fd.offset .dead = l[fd.offset] := by simp [hlt]
      have e2 : xs.getD fd.offset undef = xs[fd.offset] := by simp [hlt']
      rw [e1] at h2
      rw [e2] at ht
      exact wr_ok hI hd hN ht h2 (by simp [execOp, ho, hz, Instr.field, run_underlying hu, hf, asAgg, part, run_isAgg hud hd1 hd2, hlt'])
    | some n =>
      obtain ⟨⟨dd, hud, hd1⟩, hsz⟩ := hn
      simp only at h2
      split at h2
      case isFalse => simp [SP.run] at h2
      rename_i hlt
      have hso : (sizeOf fd.type).run P w = .ok n w := by
        unfold sizeOf typeInfo
        cases hi : P.info? fd.type with
        | none => simp [hi] at hsz
        | some i => simp [hi] at hsz; simp [hi, hsz]
      refine wr_ok hI hd hN (x := .agg (xs.extract fd.offset (fd.offset + n))) (.agg (by simp; omega) fun j hj2 => ?_) h2 (by simp [execOp, ho, hz, Instr.field, run_underlying hu, hf, asAgg, part, run_isAgg_t hud hd1, hso])
      have hjn : j < n := by simp at hj2; omega
      have := hj (fd.offset + j) (by omega)
      have e1 : ((l.drop fd.offset).take n)[j] = l[fd.offset + j] := by simp [List.getElem_take, List.getElem_drop]
      have e2 : (xs.extract fd.offset (fd.offset + n)).getD j undef = xs.getD (fd.offset + j) undef := by
        have h1 : fd.offset + j < xs.size := by omega
        have h2 : j < (xs.extract fd.offset (fd.offset + n)).size := by simp; omega
        simp only [Array.getD_eq_getD_getElem?, Array.getElem?_eq_getElem h1, Array.getElem?_eq_getElem h2, Array.getElem_extract]
      rw [e1, e2]
      exact this
  | _ => simp [SP.run] at h2
end
end Go.Proofs.Ytkmbahlpmoljpaa
/- Elements, lengths, slices that are made; no condition. -/
set_option linter.unusedVariables false
set_option linter.unusedSimpArgs false
namespace Go.Proofs.Ytkmbahlpmoljpaa
open Go.RowKit

section
variable {P : Program} {M : Fm} {σ σ' : St} {H : List TV} {xs : List Value} {ts : Array Value} {w : World} {G : Gh} {a : Act} {o : Oper}

theorem pk_own (hI : Inv M σ H xs ts w G) {p : Place} {c : List (List TV)} {x : Value} (hv : G.hv w p = some x) (hg : getT (extC M σ H p.root p.off) p.hops = some (.ow c)) : ∃ fp, OwnR w (G.F M.A) fp (.ow c) x := by
  obtain ⟨u, fp, h1, h2, _⟩ := hI.core.hv_own p hg (by simp)
  rw [hv] at h1
  injection h1 with h1
  exact ⟨fp, h1 ▸ h2⟩

theorem sim_idx (hI : Inv M σ [] [] a.tmps w G) {d : Nat} (hd : o.dst = some d) (hN : d < M.N) {x i : Opd} {x' i' : Operand} {t e sz : Nat} (hx : compOpd x' = some x) (hi : compOpd i' = some i) (ho : o.op = .indexAddr t x' i')
    (hu : P.underlying t = some (.slice e)) (hs : (P.info? e).map (·.size) = some sz) (hr : (ev1 d (.idx sz x i)).run σ = some ((), σ')) : Sim1 P M σ' a o w := by
  have hso : (sizeOf e).run P w = .ok sz w := by
    unfold sizeOf typeInfo
    cases hi : P.info? e with
    | none => simp [hi] at hs
    | some i => simp [hi] at hs; simp [hi, hs]
  simp only [ev1] at hr
  obtain ⟨tx, σ1, h1, h2⟩ := SP.run_bind_some hr
  obtain ⟨rfl, hx1⟩ := opd_ok hI.tmr hx h1
  obtain ⟨ti, σ2, h3, h4⟩ := SP.run_bind_some h2
  obtain ⟨rfl, hi1⟩ := opd_ok hI.tmr hi h3
  obtain ⟨k, σ3, h5, h6⟩ := SP.run_bind_some h4
  obtain ⟨ik, n, rfl, hn0, hk, rfl⟩ := natOf_ok h5
  obtain ⟨ei, _⟩ := hi1.v_inv
  -- the run, where the base is known
  have run : ∀ (b : Addr) (len cap : Nat), a.eval x' = .slice (some b) len cap → k < len → (execOp a.eval o).run P w = .ok (.value (.pointer (some (b.add (k * sz))))) w := by
    intro b len cap hxx hlt
    have hlt' : n < (len : Int) := by omega
    subst hk
    simp [execOp, ho, hxx, ei, Instr.indexAt, asIntOf, run_underlying hu, hn0, hlt', hso]
  cases tx with
  | pk p vs =>
    simp only at h6
    obtain ⟨_, σ4, h7, h8⟩ := SP.run_bind_some h6
    have e1 : σ4 = σ3 := (chk_run h7).1
    have e2 := (chk_run h7).2
    subst e1
    obtain ⟨tt, σ5, h9, h10⟩ := SP.run_bind_some h8
    obtain ⟨e3, hg⟩ := getPl_run h9
    have e3 : σ5 = σ4 := e3
    subst e3
    generalize hz : a.eval x' = z at hx1 run
    cases hx1 with
    | pk V0 h0 hv h =>
      obtain ⟨hr1, c, hhv, hgc⟩ := h e2
      have hgc' : getT (σ5.c p.root p.off) p.hops = some (.ow c) := by rw [extC_ne (by exact hr1)] at hgc; exact hgc
      rw [hgc'] at hg
      injection hg with hg
      subst hg
      simp only at h10
      split at h10
      case isFalse => simp [SP.run] at h10
      rename_i hcond
      simp only [Bool.and_eq_true, decide_eq_true_eq, beq_iff_eq] at hcond
      obtain ⟨⟨hlt, hel⟩, hpos⟩ := hcond
      obtain ⟨fp, hown⟩ := pk_own hI hhv hgc
      have hck : c[k]? = some c[k] := List.getElem?_eq_getElem hlt
      have hlen : c[k].length = sz := by simpa [hlt] using hel
      cases hown with
      | nil => simp at hlt
      | @ow _ _ b cap cur e' sz' u f hfp hb hsz hcap hz0 hmax hcur hcell hrec hnb hdis =>
        refine wr_ok hI hd hN ?_ h10 (run _ _ _ rfl hlt)
        obtain ⟨t', ht'⟩ := getT_snoc hgc hck hlen hpos
        refine .ptr V0 h0 (by simpa [Place.at_] using hv) fun _ => ⟨hr1, ⟨b, k * sz, none⟩, t', ?_, by rw [addr_add0, Nat.zero_add], ht'⟩
        have := addrT_snoc (sz := sz) hhv hlt
        unfold Gh.addr Place.at_
        simp only
        obtain ⟨hd', tl, hht⟩ : ∃ hd tl, p.hops ++ [(k, sz, 0)] = hd :: tl := by cases p.hops <;> exact ⟨_, _, rfl⟩
        rw [hht]
        simp only
        rw [← hht, this]
        simp
  | pw p vs sz' lo m =>
    simp only at h6
    obtain ⟨_, σ4, h7, h8⟩ := SP.run_bind_some h6
    have e1 : σ4 = σ3 := (chk_run h7).1
    have e2 := (chk_run h7).2
    subst e1
    obtain ⟨tt, σ5, h9, h10⟩ := SP.run_bind_some h8
    obtain ⟨e3, hg⟩ := getPl_run h9
    have e3 : σ5 = σ4 := e3
    subst e3
    generalize hz : a.eval x' = z at hx1 run
    cases hx1 with
    | pw V0 h0 hv h =>
      obtain ⟨hr1, c, hd1, hhv, hgc, hln, a', cap, rfl, hmc, hmx, hnil, hszs, hpos0⟩ := h e2
      have hgc' : getT (σ5.c p.root p.off) p.hops = some (.ow c) := by rw [extC_ne (by exact hr1)] at hgc; exact hgc
      rw [hgc'] at hg
      injection hg with hg
      subst hg
      simp only at h10
      split at h10
      case isFalse => simp [SP.run] at h10
      rename_i hcond
      simp only [Bool.and_eq_true, decide_eq_true_eq, beq_iff_eq] at hcond
      obtain ⟨⟨⟨hlt, hel⟩, rfl⟩, hpos⟩ := hcond
      obtain ⟨b, len, cap', rfl, rfl⟩ := hpos0 (by omega)
      have hlk : lo + k < c.length := by omega
      have hck : c[lo + k]? = some c[lo + k] := List.getElem?_eq_getElem hlk
      have hlen : c[lo + k].length = sz' := by simpa [hlk] using hel
      obtain ⟨fp, hown⟩ := pk_own hI hhv hgc
      obtain ⟨aa, cp, hsl, hle⟩ := hown.hdr
      injection hsl with _ hsl1 _
      refine wr_ok hI hd hN ?_ h10 (run _ _ _ rfl hlt)
      obtain ⟨t', ht'⟩ := getT_snoc hgc hck hlen hpos
      refine .ptr V0 h0 (by simpa [Place.at_] using hv) fun _ => ⟨hr1, ⟨b, (lo + k) * sz', none⟩, t', ?_, by rw [addr_add0, Nat.add_mul], ht'⟩
      have := addrT_snoc (k := lo + k) (sz := sz') hhv (by omega)
      unfold Gh.addr Place.at_
      simp only
      obtain ⟨hd', tl, hht⟩ : ∃ hd tl, p.hops ++ [(lo + k, sz', 0)] = hd :: tl := by cases p.hops <;> exact ⟨_, _, rfl⟩
      rw [hht]
      simp only
      rw [← hht, this]
      simp
  | sl c =>
    simp only at h6
    split at h6
    case isFalse => simp [SP.run] at h6
    rename_i hcond
    simp only [Bool.and_eq_true, decide_eq_true_eq, beq_iff_eq] at hcond
    obtain ⟨⟨hlt, hel⟩, hpos⟩ := hcond
    generalize hz : a.eval x' = z at hx1 run
    cases hx1 with
    | sl himm =>
      cases himm with
      | @sl _ aa cap sz' u hsz hcap hmax hnil hcell hrec =>
        have hck : c.getD k [] = c[k] := by simp [hlt]
        rw [hck] at h6 hel
        have hsz' : sz' = sz := by rw [← hsz k hlt, hel]
        subst hsz'
        obtain ⟨b, ob, rfl, _, _⟩ := hcell k 0 hlt hpos
        refine wr_ok hI hd hN ?_ h6 (run _ _ _ rfl hlt)
        rw [addr_add0]
        refine .ip (fun j => u k j) (fun j hj => ?_) fun j hj => hrec k j hlt hj
        obtain ⟨b', o', e4, h7, h8⟩ := hcell k j hlt (by omega)
        injection e4 with e4
        injection e4 with e5 e6
        subst e5; subst e6
        exact ⟨h7, by rw [show ob + k * sz' + j = ob + (k * sz' + j) by omega]; exact h8⟩
  | _ => simp [SP.run] at h6

theorem lenOfT_ok {F : Nat → Prop} (hI : Inv M σ [] [] ts w G) {t : TV} {x : Value} (hx : TmR w (G.F M.A) σ.v (extC M σ []) G t x) {n : Nat} (hr : (lenOfT t).run σ = some (n, σ')) : σ' = σ ∧ ∃ aa cap, x = .slice aa n cap ∧ n ≤ cap := by
  cases t with
  | sl c =>
    simp only [lenOfT, SP.run, Option.some.injEq, Prod.mk.injEq] at hr
    obtain ⟨rfl, rfl⟩ := hr
    cases hx with
    | sl h => exact ⟨rfl, h.hdr⟩
  | ow c =>
    obtain ⟨rfl, rfl⟩ := hx.ow_inv
    simp only [lenOfT, SP.run, Option.some.injEq, Prod.mk.injEq] at hr
    obtain ⟨rfl, rfl⟩ := hr
    exact ⟨rfl, _, _, rfl, Nat.le_refl _⟩
  | pk p vs =>
    simp only [lenOfT] at hr
    obtain ⟨_, σ4, h7, h8⟩ := SP.run_bind_some hr
    have e1 : σ4 = σ := (chk_run h7).1
    have e2 := (chk_run h7).2
    subst e1
    obtain ⟨tt, σ5, h9, h10⟩ := SP.run_bind_some h8
    obtain ⟨e3, hg⟩ := getPl_run h9
    have e3 : σ5 = σ4 := e3
    subst e3
    cases hx with
    | pk V0 h0 hv h =>
      obtain ⟨hr1, c, hhv, hgc⟩ := h e2
      have hgc' : getT (σ5.c p.root p.off) p.hops = some (.ow c) := by rw [extC_ne (by exact hr1)] at hgc; exact hgc
      rw [hgc'] at hg
      injection hg with hg
      subst hg
      simp only [SP.run, Option.some.injEq, Prod.mk.injEq] at h10
      obtain ⟨rfl, rfl⟩ := h10
      obtain ⟨fp, hown⟩ := pk_own hI hhv hgc
      exact ⟨rfl, hown.hdr⟩
  | pw p vs sz lo m =>
    simp only [lenOfT] at hr
    obtain ⟨_, σ4, h7, h8⟩ := SP.run_bind_some hr
    have e1 : σ4 = σ := (chk_run h7).1
    have e2 := (chk_run h7).2
    subst e1
    simp only [SP.run, Option.some.injEq, Prod.mk.injEq] at h8
    obtain ⟨rfl, rfl⟩ := h8
    cases hx with
    | pw V0 h0 hv h =>
      obtain ⟨hr1, c, hd1, hhv, hgc, hln, a', cap, rfl, hmc, _⟩ := h e2
      exact ⟨rfl, _, _, rfl, hmc⟩
  | _ => simp [lenOfT, SP.run] at hr

theorem sim_len (hI : Inv M σ [] [] a.tmps w G) {d : Nat} (hd : o.dst = some d) (hN : d < M.N) {x : Opd} {x' : Operand} {t e : TypeId} (hx : compOpd x' = some x) (ho : o.op = .call { callee := .builtin .len, args := #[x'], argTypes := #[t] })
    (hu : P.underlying t = some (.slice e)) (hr : (ev1 d (.len x)).run σ = some ((), σ')) : Sim1 P M σ' a o w := by
  simp only [ev1] at hr
  obtain ⟨tx, σ1, h1, h2⟩ := SP.run_bind_some hr
  obtain ⟨rfl, hx1⟩ := opd_ok hI.tmr hx h1
  obtain ⟨n, σ2, h3, h4⟩ := SP.run_bind_some h2
  obtain ⟨rfl, aa, cap, hxx, _⟩ := lenOfT_ok (F := G.F M.A) hI hx1 h3
  exact wr_ok hI hd hN (.v rfl) h4 (by simp [execOp, ho, resolve, invoke, builtin, Builtin.len_, hxx, run_underlying hu, goInt])
theorem sim_lens (hI : Inv M σ [] [] a.tmps w G) {d : Nat} (hd : o.dst = some d) (hN : d < M.N) {x : Opd} {x' : Operand} {t : TypeId} (hx : compOpd x' = some x) (ho : o.op = .call { callee := .builtin .len, args := #[x'], argTypes := #[t] })
    (hu : P.underlying t = some .string) (hr : (ev1 d (.lens x)).run σ = some ((), σ')) : Sim1 P M σ' a o w := by
  simp only [ev1] at hr
  obtain ⟨tx, σ1, h1, h2⟩ := SP.run_bind_some hr
  obtain ⟨rfl, hx1⟩ := opd_ok hI.tmr hx h1
  cases tx with
  | v y =>
    obtain ⟨hxx, _⟩ := hx1.v_inv
    cases y with
    | string s => exact wr_ok hI hd hN (.v rfl) h2 (by simp [execOp, ho, resolve, invoke, builtin, Builtin.len_, hxx, run_underlying hu, goInt])
    | _ => simp [SP.run] at h2
  | _ => simp [SP.run] at h2

theorem sim_app (hI : Inv M σ [] [] a.tmps w G) {d sz bytes : Nat} {mv : Bool} (hd : o.dst = some d) (hN : d < M.N) {s x : Opd} {s' x' : Operand} {t e : TypeId} {i : TypeInfo} {z : Value} (hs : compOpd s' = some s) (hx : compOpd x' = some x)
    (ho : o.op = .call { callee := .builtin .append, args := #[s', x'], argTypes := #[t, t] }) (hu : P.underlying t = some (.slice e)) (hi : P.info? e = some i) (hz : i.zero = some z) (hzs : z.cells.size = i.size) (hsz : i.size = sz) (hby : i.bytes = bytes) (hpos : 0 < sz)
    (hr : (ev1 d (.app sz bytes mv s x)).run σ = some ((), σ')) : Sim1 P M σ' a o w := by
  subst hsz
  subst hby
  simp only [ev1] at hr
  obtain ⟨t1, σ1, h1, h2⟩ := SP.run_bind_some hr
  obtain ⟨rfl, hs1⟩ := opd_ok hI.tmr hs h1
  obtain ⟨t2, σ2, h3, h4⟩ := SP.run_bind_some h2
  obtain ⟨rfl, hx1⟩ := opd_ok hI.tmr hx h3
  obtain ⟨sv, σ3, h5, h6⟩ := SP.run_bind_some h4
  obtain ⟨xv, σ4, h7, h8⟩ := SP.run_bind_some h6
  obtain ⟨G1, g1, _⟩ := take1_ok hI hs1 h5
  obtain ⟨G2, g2, _⟩ := take1_ok g1.1 (g1.tm hx1) h7
  simp only [List.nil_append, List.cons_append] at g2
  have fin : ∀ c c2, sv = .ow c → (xv = .ow c2 ∨ xv = .sl c2) → (if (c ++ c2).all (fun e => e.length == i.size) && decide (c.length + c2.length ≤ 1099511627776) && decide ((c.length + c2.length) * i.bytes ≤ 140737488355328) then inst d false [.ow (c ++ c2)] else .fail).run σ4 = some ((), σ') → Sim1 P M σ' a o w := by
    intro c c2 hc hc2 h9
    split at h9
    case isFalse => simp [SP.run] at h9
    rename_i hcond
    simp only [Bool.and_eq_true, decide_eq_true_eq, List.all_eq_true, beq_iff_eq] at hcond
    obtain ⟨⟨hall, hb1⟩, hb2⟩ := hcond
    subst hc
    obtain ⟨v', w', G', hrun, hI', _, _⟩ := g2.1.append (P := P) (c := c) (c2 := c2) (X := xv) rfl rfl hc2 t o.type e i z hu hi hz hzs hpos (fun k h => hall _ (List.mem_append_left _ (List.getElem_mem h))) (fun k h => hall _ (List.mem_append_right _ (List.getElem_mem h))) hb1 hb2
    refine inst_ok hI' hd hN (fun j hj => ?_) h9 (.inr ⟨rfl, v', rfl, rfl⟩) (w0 := w) ?_
    · obtain rfl : j = 0 := by simp at hj; omega
      exact .inr rfl
    · simp [execOp, ho, resolve, invoke, builtin, hrun]
  cases sv with
  | ow c =>
    cases xv with
    | ow c2 => exact fin c c2 rfl (.inl rfl) h8
    | sl c2 => exact fin c c2 rfl (.inr rfl) h8
    | _ => simp [SP.run] at h8
  | _ => simp [SP.run] at h8
end
end Go.Proofs.Ytkmbahlpmoljpaa
/- Structs and slices that are built; windows; no condition. -/
set_option linter.unusedVariables false
set_option linter.unusedSimpArgs false
namespace Go.Proofs.Ytkmbahlpmoljpaa
open Go.RowKit

def setSeg : List Value → Nat → List Value → List Value
  | cs, _, [] => cs
  | cs, off, v :: r => setSeg (cs.set off v) (off + 1) r
theorem foldl_setSeg (vs : List Value) : ∀ (s off : Nat) (cs : Array Value), ((vs.zipIdx s).foldl (fun cs (x : Value × Nat) => cs.setIfInBounds (off + x.2) x.1) cs).toList = setSeg cs.toList (off + s) vs := by
  induction vs with
  | nil => intro s off cs; rfl
  | cons v r ih =>
    intro s off cs
    simp only [List.zipIdx_cons, List.foldl_cons, setSeg]
    rw [ih]
    simp [Nat.add_assoc]
theorem setSeg_len (vs : List Value) : ∀ (off : Nat) (cs : List Value), (setSeg cs off vs).length = cs.length := by
  induction vs with
  | nil => intro off cs; rfl
  | cons v r ih => intro off cs; simp [setSeg, ih]
theorem setSeg_mid (vs : List Value) : ∀ (pre suf : List Value), vs.length ≤ suf.length → setSeg (pre ++ suf) pre.length vs = pre ++ vs ++ suf.drop vs.length := by
  induction vs with
  | nil => intro pre suf _; simp [setSeg]
  | cons v r ih =>
    intro pre suf h
    cases suf with
    | nil => simp at h
    | cons u suf =>
      simp only [setSeg, List.set_append_right _ _ (Nat.le_refl _), Nat.sub_self, List.set_cons_zero]
      have := ih (pre ++ [v]) suf (by simpa using h)
      simp only [List.length_append, List.length_singleton, List.append_assoc, List.singleton_append] at this
      rw [this]
      simp
theorem placeCells_len (l : List TV) : ∀ (cells : List TV) (off : Nat), (placeCells cells off l).length = cells.length := by
  induction l with
  | nil => intro cells off; rfl
  | cons t r ih => intro cells off; simp [placeCells, ih]

theorem fill_slice {sz : Nat} : ∀ (l : List (Nat × Value)) (k : Nat) (pre suf : List Value), l.map (·.1) = List.range' k l.length → (∀ p ∈ l, p.2.cells.size = sz) → pre.length = k * sz → suf.length = l.length * sz →
    Instr.fill (fun i => some (i * sz, sz)) (pre ++ suf).toArray l = some (pre ++ l.flatMap (·.2.cells.toList)).toArray := by
  intro l
  induction l with
  | nil => intro k pre suf _ _ _ h; have : suf = [] := List.eq_nil_of_length_eq_zero (by simpa using h); subst this; simp [Instr.fill]
  | cons p l ih =>
    obtain ⟨i, v⟩ := p
    intro k pre suf h1 h2 h3 h4
    simp only [List.map_cons, List.length_cons, List.range'_succ, List.cons.injEq] at h1
    obtain ⟨rfl, h1⟩ := h1
    have hv : v.cells.size = sz := h2 (i, v) (by simp)
    simp only [Instr.fill, hv, ne_eq, not_true_eq_false, false_or]
    have hsuf : sz ≤ suf.length := by rw [h4, List.length_cons, Nat.succ_mul]; omega
    rw [if_neg (by simp; omega)]
    have hf := foldl_setSeg v.cells.toList 0 (i * sz) (pre ++ suf).toArray
    have hz : v.cells.zipIdx.foldl (fun cs x => cs.setIfInBounds (i * sz + x.2) x.1) (pre ++ suf).toArray = (pre ++ v.cells.toList ++ suf.drop sz).toArray := by
      apply Array.ext'
      have e : v.cells.zipIdx.foldl (fun cs x => cs.setIfInBounds (i * sz + x.2) x.1) (pre ++ suf).toArray = (v.cells.toList.zipIdx 0).foldl (fun cs (x : Value × Nat) => cs.setIfInBounds (i * sz + x.2) x.1) (pre ++ suf).toArray := by
        rw [← Array.foldl_toList, Array.toList_zipIdx]
      rw [e, hf, ← h3, Nat.add_zero]
      simp only [List.toList_toArray]
      rw [setSeg_mid _ _ _ (by simpa [hv] using hsuf)]
      simp [hv]
    have hz' : (v.cells.zipIdx.foldl (fun cs x => match x with | (c, j) => cs.setIfInBounds (i * sz + j) c) (pre ++ suf).toArray) = (pre ++ v.cells.toList ++ suf.drop sz).toArray := hz
    rw [hz', ih (i + 1) (pre ++ v.cells.toList) (suf.drop sz) h1 (fun p hp => h2 p (by simp [hp])) (by simp [h3, hv, Nat.succ_mul]) (by rw [List.length_drop, h4, List.length_cons, Nat.succ_mul]; omega)]
    simp

theorem chunks_flatten (sz : Nat) : ∀ (n : Nat) (l : List TV), l.length = n * sz → (chunks sz n l).flatten = l ∧ (chunks sz n l).length = n ∧ ∀ i (h : i < (chunks sz n l).length), (chunks sz n l)[i].length = sz := by
  intro n
  induction n with
  | zero => intro l h; have : l = [] := List.eq_nil_of_length_eq_zero (by simpa using h); subst this; exact ⟨rfl, rfl, fun i h => by simp [chunks] at h⟩
  | succ n ih =>
    intro l h
    have hl : sz ≤ l.length := by rw [h, Nat.succ_mul]; omega
    obtain ⟨e1, e2, e3⟩ := ih (l.drop sz) (by rw [List.length_drop, h, Nat.succ_mul]; omega)
    refine ⟨by simp [chunks, e1], by simp [chunks, e2], fun i hi => ?_⟩
    cases i with
    | zero => simp [chunks]; omega
    | succ i => simpa [chunks] using e3 i (by simpa [chunks] using hi)

section
variable {P : Program} {M : Fm} {σ σ' : St} {H : List TV} {xs : List Value} {ts : Array Value} {w : World} {G : Gh} {a : Act} {o : Oper}

theorem takeParts_ok {mv : Bool} : ∀ {parts : List (Nat × Nat × Opd)} {pv : List Operand} {l : List TV} {σ σ' : St} {H : List TV} {xs : List Value} {G : Gh}, Inv M σ H xs a.tmps w G → pv.map compOpd = parts.map (fun p => some p.2.2) →
    (takeParts mv parts).run σ = some (l, σ') → ∃ G', Goes M w a.tmps σ H G σ' (H ++ l) (xs ++ pv.flatMap fun x => (a.eval x).cells.toList) G' ∧ (∀ j (h : j < l.length), okCell l[j] = true ∨ isOw l[j] = true) ∧
      (∀ k (h : k < parts.length) (h' : k < pv.length), (a.eval pv[k]).cells.size = parts[k].2.1) := by
  intro parts
  induction parts with
  | nil =>
    intro pv l σ σ' H xs G hI hp hr
    simp only [takeParts, SP.run, Option.some.injEq, Prod.mk.injEq] at hr
    obtain ⟨rfl, rfl⟩ := hr
    have : pv = [] := by cases pv <;> simp at hp ⊢
    subst this
    exact ⟨G, by simpa using Goes.refl hI, fun j h => by simp at h, fun k h => by simp at h⟩
  | cons p parts ih =>
    obtain ⟨off, n, x⟩ := p
    intro pv l σ σ' H xs G hI hp hr
    cases pv with
    | nil => simp at hp
    | cons y pv =>
      simp only [List.map_cons, List.cons.injEq] at hp
      obtain ⟨hy, hp⟩ := hp
      simp only [takeParts] at hr
      obtain ⟨t, σ1, h1, h2⟩ := SP.run_bind_some hr
      have hopd : σ1 = σ ∧ TmR w (G.F M.A) σ.v (extC M σ H) G t (a.eval y) := by
        cases y with
        | tmp i =>
          simp only [compOpd, Option.some.injEq] at hy
          subst hy
          simp only [opd, SP.run, Option.some.injEq, Prod.mk.injEq] at h1
          obtain ⟨rfl, rfl⟩ := h1
          exact ⟨rfl, hI.tmr i⟩
        | const v =>
          simp only [compOpd, Option.some.injEq] at hy
          subst hy
          simp only [opd, SP.run, Option.some.injEq, Prod.mk.injEq] at h1
          obtain ⟨rfl, rfl⟩ := h1
          exact ⟨rfl, ofConst_ok v⟩
        | func f =>
          simp only [compOpd, Option.some.injEq] at hy
          subst hy
          simp only [opd, SP.run, Option.some.injEq, Prod.mk.injEq] at h1
          obtain ⟨rfl, rfl⟩ := h1
          exact ⟨rfl, .fn (by simp) (by simp)⟩
        | global g => simp [compOpd] at hy
      obtain ⟨rfl, ht⟩ := hopd
      obtain ⟨l1, σ2, h3, h4⟩ := SP.run_bind_some h2
      split at h4
      case isFalse => simp [SP.run] at h4
      rename_i hn
      obtain ⟨l2, σ3, h5, h6⟩ := SP.run_bind_some h4
      simp only [SP.run, Option.some.injEq, Prod.mk.injEq] at h6
      obtain ⟨rfl, rfl⟩ := h6
      have hc : ∃ G', Goes M w a.tmps σ1 H G σ2 (H ++ l1) (xs ++ (a.eval y).cells.toList) G' ∧ l1.length = (a.eval y).cells.size := by
        by_cases hta : ∃ q, t = .agg q
        · obtain ⟨q, rfl⟩ := hta
          obtain ⟨zs, hz, hl, hj⟩ := aggXs ht
          obtain ⟨e1, e2, G', hg⟩ := takeL_ok (ys := zs.toList) hI (by simp [hl, cellsT]) (fun j h => by have h' : j < q.length := h; have := hj j h'; simpa [cellsT] using this) h3
          rw [hz]
          exact ⟨G', by simpa [Value.cells] using hg, by rw [e1]; simp [cellsT, Value.cells, hl]⟩
        · have e : cellsT t = [t] := by cases t <;> first | rfl | exact absurd ⟨_, rfl⟩ hta
          rw [e] at h3
          have hnx : (a.eval y).cells = #[a.eval y] := by
            simp only [takeL] at h3
            obtain ⟨t', σ1, h1, h2⟩ := SP.run_bind_some h3
            obtain ⟨G', hg, ho⟩ := take1_ok hI ht h1
            generalize a.eval y = z at ho
            cases z <;> first | rfl | simp [Value.oneCell'] at ho
          obtain ⟨e1, e2, G', hg⟩ := takeL_ok (l := [t]) (ys := [a.eval y]) hI (by simp) (fun j h => by
            obtain rfl : j = 0 := by simp at h; omega
            simpa using ht) h3
          rw [hnx]
          exact ⟨G', by simpa using hg, by rw [e1]; rfl⟩
      obtain ⟨G1, g1, e1⟩ := hc
      obtain ⟨G2, g2, ok2, sz2⟩ := ih g1.1 hp h5
      refine ⟨G2, by simpa using g1.trans g2, fun j hj => ?_, fun k hk hk' => ?_⟩
      · by_cases hjl : j < l1.length
        · rw [List.getElem_append_left hjl]; exact takeL_cell h3 j hjl
        · rw [List.getElem_append_right (by omega)]; exact ok2 _ _
      · cases k with
        | zero => simp only [List.getElem_cons_zero]; rw [← e1]; exact hn
        | succ k => simpa using sz2 k (by simpa using hk) (by simpa using hk')

theorem sim_bsl (hI : Inv M σ [] [] a.tmps w G) {d sz len : Nat} {mv : Bool} (hd : o.dst = some d) (hN : d < M.N) {t e : TypeId} {parts : Array (Nat × Operand)} {ps : List Opd} {i : TypeInfo} (ho : o.op = .buildSlice t len parts) (hu : P.underlying t = some (.slice e)) (hi : P.info? e = some i) (hsz : i.size = sz)
    (hz : 0 < len * sz → ∃ z, i.zero = some z) (hp1 : parts.toList.map (·.1) = List.range len) (hp2 : parts.toList.map (fun p => compOpd p.2) = ps.map some) (hmax : len * sz ≤ 16777216) (hlm : len ≤ 16777216) (hr : (ev1 d (.bsl sz mv len ps)).run σ = some ((), σ')) : Sim1 P M σ' a o w := by
  simp only [ev1] at hr
  obtain ⟨l, σ1, h1, h2⟩ := SP.run_bind_some hr
  split at h2
  case isFalse => simp [SP.run] at h2
  rename_i hlen
  obtain ⟨G1, g1, hok, hsz2⟩ := takeParts_ok (a := a) (pv := parts.toList.map (·.2)) hI (by simpa [Function.comp_def] using hp2) h1
  simp only [List.nil_append] at g1
  have hplen : parts.toList.length = len := by have := congrArg List.length hp1; simpa using this
  have hcs : ∀ p ∈ parts.toList.map (fun p => (p.1, a.eval p.2)), p.2.cells.size = sz := by
    intro p hp
    obtain ⟨k, hk, rfl⟩ := List.getElem_of_mem hp
    have hk' : k < parts.toList.length := by simpa using hk
    have := hsz2 k (by simp; omega) (by simpa using hk')
    simpa using this
  have hvals : (parts.toList.map (·.2)).flatMap (fun x => (a.eval x).cells.toList) = (parts.toList.map (fun p => (p.1, a.eval p.2))).flatMap (·.2.cells.toList) := by
    simp [List.flatMap_map]
  have hll : l.length = len * sz := by
    have hh := g1.1.hand
    rw [hh, hvals]
    have key : ∀ (q : List (Nat × Value)), (∀ p ∈ q, p.2.cells.size = sz) → (q.flatMap (·.2.cells.toList)).length = q.length * sz := by
      intro q
      induction q with
      | nil => intro _; simp
      | cons p q ih => intro h; simp only [List.flatMap_cons, List.length_append, ih (fun p hp => h p (by simp [hp])), List.length_cons, Nat.succ_mul]; have := h p (by simp); simp [this]; omega
    rw [key _ hcs]
    simp [hplen]
  obtain ⟨c1, c2, c3⟩ := chunks_flatten sz len l hll
  obtain ⟨G2, hI2, _, _⟩ := g1.1.mkSlice (c := chunks sz len l) e c3 c1 (cell_nd hok) (by rw [c2]; unfold maxLen; omega)
  rw [c2] at hI2
  refine inst_ok hI2 hd hN (fun j hj => ?_) h2 (.inr ⟨rfl, _, rfl, rfl⟩) (w0 := w) ?_
  · obtain rfl : j = 0 := by simp at hj; omega
    exact .inr rfl
  · -- the run
    have hfill : ∀ zc : List Value, zc.length = len * sz → Instr.fill (fun i => some (i * sz, sz)) zc.toArray (parts.map fun p => (p.1, a.eval p.2)).toList = some ((parts.toList.map (·.2)).flatMap fun x => (a.eval x).cells.toList).toArray := by
      intro zc hzc
      have := fill_slice (sz := sz) (parts.toList.map (fun p => (p.1, a.eval p.2))) 0 [] zc (by simp [Function.comp_def, hp1, hplen, List.range_eq_range']) hcs (by simp) (by simpa [hplen] using hzc)
      rw [hvals]
      simpa using this
    have hno : ¬ (16777216 < len * sz) := by omega
    have hso : (sizeOf e).run P w = .ok sz w := by simp [sizeOf, typeInfo, hi, hsz]
    by_cases h0 : len * sz = 0
    · have hf := hfill [] (by simp [h0])
      have hr0 : (Array.range (len * sz)).map (fun (x : Nat) => (#[] : Array Value)[x % (#[] : Array Value).size]!) = ([] : List Value).toArray := by rw [h0]; simp
      simp only [execOp, ho, Instr.buildSlice, Sem.run_bind, run_underlying hu, Result.andThen_ok, hso, h0, Sem.run_ite, if_true, Sem.run_pure]
      rw [if_neg (by omega)]
      try simp only [Result.andThen_ok]
      rw [show (Array.range 0).map (fun (x : Nat) => (#[] : Array Value)[x % (#[] : Array Value).size]!) = ([] : List Value).toArray by simp, hf]
      simp [newRow]
    · obtain ⟨z, hz⟩ := hz (by omega)
      have hzv : (zeroValue e).run P w = .ok z w := by simp [zeroValue, typeInfo, hi, hz]
      have hf := hfill ((Array.range (len * sz)).map (fun x => z.cells[x % z.cells.size]!)).toList (by simp)
      simp only [Array.toArray_toList] at hf
      simp only [execOp, ho, Instr.buildSlice, Sem.run_bind, run_underlying hu, Result.andThen_ok, hso, Sem.run_ite, Sem.run_pure]
      rw [if_neg (by omega), if_neg h0]
      simp only [Result.andThen_ok, hzv]
      rw [hf]
      simp [newRow]
end
end Go.Proofs.Ytkmbahlpmoljpaa
/- Structs that are built, slices that are made or cut; no condition. -/
set_option linter.unusedVariables false
set_option linter.unusedSimpArgs false
namespace Go.Proofs.Ytkmbahlpmoljpaa
open Go.RowKit

theorem TmRs.place {R : TV → Value → Prop} : ∀ (l : List TV) (ys : List Value) (cells : List TV) (vals : List Value) (off : Nat), cells.length = vals.length → (∀ j (h : j < cells.length) (h' : j < vals.length), R cells[j] vals[j]) → l.length = ys.length → (∀ j (h : j < l.length) (h' : j < ys.length), R l[j] ys[j]) →
    (placeCells cells off l).length = (setSeg vals off ys).length ∧ ∀ j (h : j < (placeCells cells off l).length) (h' : j < (setSeg vals off ys).length), R (placeCells cells off l)[j] (setSeg vals off ys)[j] := by
  intro l
  induction l with
  | nil =>
    intro ys cells vals off h1 h2 h3 _
    have : ys = [] := List.eq_nil_of_length_eq_zero h3.symm
    subst this
    exact ⟨h1, h2⟩
  | cons t l ih =>
    intro ys cells vals off h1 h2 h3 h4
    cases ys with
    | nil => simp at h3
    | cons y ys =>
      simp only [placeCells, setSeg]
      refine ih ys _ _ _ (by simp [h1]) (fun j h h' => ?_) (by simpa using h3) (fun j h h' => h4 (j + 1) (by simpa using h) (by simpa using h'))
      simp only [List.getElem_set]
      by_cases hj : off = j
      · simp only [hj, if_true]; exact h4 0 (by simp) (by simp)
      · simp only [if_neg hj]; exact h2 j (by simpa using h) (by simpa using h')

/-- Struct parts laid over the zero value. -/
def fillSeg : List Value → List (Nat × Nat × Opd) → List Value → List Value
  | vals, [], _ => vals
  | vals, (off, n, _) :: r, ys => fillSeg (setSeg vals off (ys.take n)) r (ys.drop n)
theorem TmRs.assemble {R : TV → Value → Prop} : ∀ (parts : List (Nat × Nat × Opd)) (l : List TV) (ys : List Value) (cells : List TV) (vals : List Value), cells.length = vals.length → (∀ j (h : j < cells.length) (h' : j < vals.length), R cells[j] vals[j]) → l.length = ys.length → (∀ j (h : j < l.length) (h' : j < ys.length), R l[j] ys[j]) →
    (assemble cells parts l).length = (fillSeg vals parts ys).length ∧ ∀ j (h : j < (assemble cells parts l).length) (h' : j < (fillSeg vals parts ys).length), R (assemble cells parts l)[j] (fillSeg vals parts ys)[j] := by
  intro parts
  induction parts with
  | nil => intro l ys cells vals h1 h2 _ _; exact ⟨h1, h2⟩
  | cons p parts ih =>
    obtain ⟨off, n, x⟩ := p
    intro l ys cells vals h1 h2 h3 h4
    obtain ⟨g1, g2⟩ := TmRs.place (R := R) (l.take n) (ys.take n) cells vals off h1 h2 (by simp [h3]) (fun j h h' => by simp only [List.getElem_take]; exact h4 j _ _)
    exact ih (l.drop n) (ys.drop n) _ _ g1 g2 (by simp [h3]) (fun j h h' => by simp only [List.getElem_drop]; exact h4 _ _ _)
theorem fillSeg_len (parts : List (Nat × Nat × Opd)) : ∀ (vals ys : List Value), (fillSeg vals parts ys).length = vals.length := by
  induction parts with
  | nil => intro vals ys; rfl
  | cons p parts ih => obtain ⟨off, n, x⟩ := p; intro vals ys; simp [fillSeg, ih, setSeg_len]

theorem fill_struct {place : Nat → Option (Nat × Nat)} : ∀ (l : List (Nat × Value)) (parts : List (Nat × Nat × Opd)) (cells : Array Value), l.length = parts.length → (∀ k (h : k < l.length) (h' : k < parts.length), place l[k].1 = some (parts[k].1, parts[k].2.1) ∧ l[k].2.cells.size = parts[k].2.1 ∧ parts[k].1 + parts[k].2.1 ≤ cells.size) →
    Instr.fill place cells l = some (fillSeg cells.toList parts (l.flatMap (·.2.cells.toList))).toArray := by
  intro l
  induction l with
  | nil => intro parts cells h _; have : parts = [] := List.eq_nil_of_length_eq_zero (by simpa using h.symm); subst this; simp [Instr.fill, fillSeg]
  | cons p l ih =>
    obtain ⟨i, v⟩ := p
    intro parts cells h1 h2
    cases parts with
    | nil => simp at h1
    | cons q parts =>
      obtain ⟨off, n, x⟩ := q
      have h0 := h2 0 (by simp) (by simp)
      simp only [List.getElem_cons_zero] at h0
      obtain ⟨p1, p2, p3⟩ := h0
      have p2' : v.cells.size = n := p2
      have p3' : off + n ≤ cells.size := p3
      have p1' : place i = some (off, n) := p1
      simp only [Instr.fill, p1']
      rw [if_neg (by simp [p2']; omega)]
      have hz : v.cells.zipIdx.foldl (fun cs x => cs.setIfInBounds (off + x.2) x.1) cells = (setSeg cells.toList off v.cells.toList).toArray := by
        apply Array.ext'
        have e : v.cells.zipIdx.foldl (fun cs x => cs.setIfInBounds (off + x.2) x.1) cells = (v.cells.toList.zipIdx 0).foldl (fun cs (x : Value × Nat) => cs.setIfInBounds (off + x.2) x.1) cells := by
          rw [← Array.foldl_toList, Array.toList_zipIdx]
        rw [e, foldl_setSeg]
        simp
      have hz' : (v.cells.zipIdx.foldl (fun cs x => match x with | (c, j) => cs.setIfInBounds (off + j) c) cells) = (setSeg cells.toList off v.cells.toList).toArray := hz
      rw [hz', ih parts _ (by simpa using h1) (fun k h h' => by have := h2 (k + 1) (by simpa using h) (by simpa using h'); simpa [setSeg_len] using this)]
      have hn : v.cells.toList.length = n := by simpa using p2
      simp only [fillSeg, List.flatMap_cons]
      rw [← hn, List.take_left, List.drop_left]

section
variable {P : Program} {M : Fm} {σ σ' : St} {H : List TV} {xs : List Value} {ts : Array Value} {w : World} {G : Gh} {a : Act} {o : Oper}

theorem run_mapM_places (fields : List Field) (sz : Field → Nat) (h : ∀ f ∈ fields, (sizeOf f.type).run P w = .ok (sz f) w) : ((fields.mapM fun f => do pure (f.offset, ← sizeOf f.type) : Sem (List (Nat × Nat)))).run P w = .ok (fields.map fun f => (f.offset, sz f)) w := by
  induction fields with
  | nil => simp
  | cons f r ih =>
    simp only [List.mapM_cons, Sem.run_bind, h f (by simp), Result.andThen_ok, ih (fun f hf => h f (by simp [hf])), Sem.run_pure, List.map_cons]

theorem sim_bld (hI : Inv M σ [] [] a.tmps w G) {d : Nat} {mv : Bool} (hd : o.dst = some d) (hN : d < M.N) {t : TypeId} {parts : Array (Nat × Operand)} {ps : List (Nat × Nat × Opd)} {z : List Value} {fields : Array Field} {szf : Field → Nat} (ho : o.op = .build t parts) (hu : P.underlying t = some (.struct fields))
    (hz : (P.info? t).bind (·.zero.map (·.cells.toList)) = some z) (hsz : ∀ f ∈ fields.toList, (P.info? f.type).map (·.size) = some (szf f)) (hp1 : parts.size = ps.length)
    (hp2 : ∀ k (h : k < parts.size) (h' : k < ps.length), compOpd parts[k].2 = some ps[k].2.2 ∧ ((fields[parts[k].1]?).map fun f => (f.offset, szf f)) = some (ps[k].1, ps[k].2.1) ∧ ps[k].1 + ps[k].2.1 ≤ z.length)
    (hr : (ev1 d (.bld z mv ps)).run σ = some ((), σ')) : Sim1 P M σ' a o w := by
  simp only [ev1] at hr
  split at hr
  case isFalse => simp [SP.run] at hr
  rename_i hok
  obtain ⟨l, σ1, h1, h2⟩ := SP.run_bind_some hr
  obtain ⟨l', σ2, h3, h4⟩ := SP.run_bind_some h2
  obtain ⟨G1, g1, hokl, hsz2⟩ := takeParts_ok (a := a) (pv := parts.toList.map (·.2)) hI (by
    apply List.ext_getElem
    · simp [hp1]
    · intro k hk hk'
      have := (hp2 k (by simpa using hk) (by simpa using hk')).1
      simpa using this) h1
  simp only [List.nil_append] at g1
  obtain ⟨G2, hI2, _, hl2, ht2⟩ := names_ok g1.1 hokl h3
  obtain ⟨ys, hys⟩ : ∃ ys, ys = (parts.toList.map (·.2)).flatMap (fun x => (a.eval x).cells.toList) := ⟨_, rfl⟩
  rw [← hys] at g1 ht2
  have hlen : l'.length = ys.length := by rw [hl2]; exact g1.1.hand
  have hzc : ∀ j (h : j < (z.map ofCell).length) (h' : j < z.length), TmR w (G2.F M.A) σ2.v (extC M σ2 []) G2 (z.map ofCell)[j] z[j] := fun j h h' => by simp only [List.getElem_map]; exact ofCell_ok _
  obtain ⟨r1, r2⟩ := TmRs.assemble (R := TmR w (G2.F M.A) σ2.v (extC M σ2 []) G2) ps l' ys (z.map ofCell) z (by simp) hzc hlen (fun j h h' => by have := ht2 j h; simpa [h'] using this)
  refine wr_ok hI2 hd hN (x := .agg (fillSeg z ps ys).toArray) (.agg (by simp [r1]) fun j hj => by have := r2 j hj (by omega); simpa [show j < (fillSeg z ps ys).length by omega] using this) h4 ?_
  cases hi : P.info? t with
  | none => simp [hi] at hz
  | some i =>
    simp only [hi, Option.bind_some] at hz
    cases hiz : i.zero with
    | none => simp [hiz] at hz
    | some v =>
      simp only [hiz, Option.map_some, Option.some.injEq] at hz
      have hzv : (zeroValue t).run P w = .ok v w := by simp [zeroValue, typeInfo, hi, hiz]
      have hso : ∀ f ∈ fields.toList, (sizeOf f.type).run P w = .ok (szf f) w := by
        intro f hf
        have := hsz f hf
        unfold sizeOf typeInfo
        cases hi : P.info? f.type with
        | none => simp [hi] at this
        | some i => simp [hi] at this; simp [hi, this]
      have hm := run_mapM_places fields.toList szf hso
      have hma : ((fields.mapM fun f => do pure (f.offset, ← sizeOf f.type) : Sem (Array (Nat × Nat)))).run P w = .ok (fields.map fun f => (f.offset, szf f)) w := by
        rw [Array.mapM_eq_mapM_toList]
        simp only [Sem.run_map, hm, Result.andThen_ok]
        congr 1
        apply Array.ext'
        simp
      have hfill := fill_struct (place := fun i => (fields.map fun f => (f.offset, szf f))[i]?) (parts.toList.map fun p => (p.1, a.eval p.2)) ps v.cells (by simp [hp1]) (fun k h h' => by
        have hk : k < parts.size := by simpa using h
        obtain ⟨q1, q2, q3⟩ := hp2 k hk h'
        have q4 := hsz2 k h' (by simpa using hk)
        refine ⟨by simpa using q2, by simpa using q4, ?_⟩
        rw [← hz] at q3
        simpa using q3)
      have hfl : ((parts.toList.map fun p => (p.1, a.eval p.2)).flatMap (·.2.cells.toList)) = ys := by rw [hys]; simp [List.flatMap_map]
      rw [hfl, hz] at hfill
      simp only [execOp, ho, Instr.build, Sem.run_bind, hzv, Result.andThen_ok, run_underlying hu, hma, Array.toList_map]
      rw [hfill]
      simp
end
end Go.Proofs.Ytkmbahlpmoljpaa
/- Slices made at once or cut, functions as values; no condition. -/
set_option linter.unusedVariables false
set_option linter.unusedSimpArgs false
namespace Go.Proofs.Ytkmbahlpmoljpaa
open Go.RowKit

section
variable {P : Program} {M : Fm} {σ σ' : St} {H : List TV} {xs : List Value} {ts : Array Value} {w : World} {G : Gh} {a : Act} {o : Oper}

theorem ImmR.window' {F : Nat → Prop} {c : List (List TV)} {a0 : Option Addr} {len cap : Nat} (h : ImmR w F (.sl c) (.slice a0 len cap)) (sz lo n : Nat) (hs : ∀ i (h : i < c.length), c[i].length = sz) (hln : lo + n ≤ c.length) {a : Option Addr} {cap' : Nat} (hn : n ≤ cap')
    (hm : cap' ≤ maxLen) (hnil : a = none → cap' = 0) (ha : ∀ b o, 0 < n → a0 = some ⟨b, o, none⟩ → a = some ⟨b, o + lo * sz, none⟩) : ImmR w F (.sl ((c.drop lo).take n)) (.slice a n cap') := by
  cases h with
  | sl sz' u hsz hcap hmax hnil' hcell hrec =>
    have hl : ((c.drop lo).take n).length = n := by simp; omega
    have key := ImmR.sl (w := w) (F := F) (c := (c.drop lo).take n) (a := a) (cap := cap') sz (fun i j => u (lo + i) j) (fun i hi => by
      have : i < n := by omega
      simp only [List.getElem_take, List.getElem_drop]; exact hs _ (by omega)) (by omega) hm hnil (fun i j hi hj => by
      have hi' : i < n := by omega
      have hz : sz' = sz := by rw [← hsz (lo + i) (by omega), hs (lo + i) (by omega)]
      subst hz
      obtain ⟨b', o', e, hF, hc⟩ := hcell (lo + i) j (by omega) hj
      exact ⟨b', o' + lo * sz', ha _ _ (by omega) e, hF, by rw [show o' + lo * sz' + (i * sz' + j) = o' + ((lo + i) * sz' + j) by rw [Nat.add_mul]; omega]; exact hc⟩) (fun i j hi hj => by
      have hi' : i < n := by omega
      have := hrec (lo + i) j (by omega) (by simpa [List.getElem_take, List.getElem_drop] using hj)
      simpa [List.getElem_take, List.getElem_drop] using this)
    rw [hl] at key
    exact key

theorem optNat_ok {F : Nat → Prop} (hI : Inv M σ [] [] a.tmps w G) {q : Option Opd} {q' : Option Operand} {dflt n : Nat} (hq : q'.map compOpd = q.map some) (hr : (optNat q dflt).run σ = some (n, σ')) :
    σ' = σ ∧ ((q' = none ∧ n = dflt) ∨ ∃ x k i, q' = some x ∧ a.eval x = .int k i ∧ 0 ≤ i ∧ n = i.toNat) := by
  cases q with
  | none =>
    cases q' with
    | none =>
      simp only [optNat, SP.run, Option.some.injEq, Prod.mk.injEq] at hr
      exact ⟨hr.2.symm, .inl ⟨rfl, hr.1.symm⟩⟩
    | some _ => simp at hq
  | some x =>
    cases q' with
    | none => simp at hq
    | some x' =>
      simp only [Option.map_some, Option.some.injEq] at hq
      simp only [optNat] at hr
      obtain ⟨t, σ1, h1, h2⟩ := SP.run_bind_some hr
      obtain ⟨rfl, ht⟩ := opd_ok hI.tmr hq h1
      obtain ⟨k, i, rfl, h0, hn, rfl⟩ := natOf_ok h2
      exact ⟨rfl, .inr ⟨x', k, i, rfl, ht.v_inv.1, h0, hn⟩⟩

theorem run_bound {x : Value} {k : IntKind} {i : Int} {y : Nat} {code : BoundsCode} (hx : x = .int k i) (h0 : 0 ≤ i) (hy : i.toNat ≤ y) : (Instr.sliceBound x y code).run P w = .ok i.toNat w := by
  subst hx
  have : i ≤ (y : Int) := by omega
  simp [Instr.sliceBound, asIntOf, h0, this]

theorem sim_slc (hI : Inv M σ [] [] a.tmps w G) {d sz : Nat} (hd : o.dst = some d) (hN : d < M.N) {x : Opd} {x' : Operand} {lo hi : Option Opd} {lo' hi' : Option Operand} {t e : TypeId} (hx : compOpd x' = some x) (hlo : lo'.map compOpd = lo.map some) (hhi : hi'.map compOpd = hi.map some) (ho : o.op = .slice t x' lo' hi' none)
    (hu : P.underlying t = some (.slice e)) (hs : (P.info? e).map (·.size) = some sz) (hr : (ev1 d (.slc sz x lo hi)).run σ = some ((), σ')) : Sim1 P M σ' a o w := by
  have hso : (sizeOf e).run P w = .ok sz w := by
    unfold sizeOf typeInfo
    cases hi : P.info? e with
    | none => simp [hi] at hs
    | some i => simp [hi] at hs; simp [hi, hs]
  simp only [ev1] at hr
  obtain ⟨tx, σ1, h1, h2⟩ := SP.run_bind_some hr
  obtain ⟨rfl, hx1⟩ := opd_ok hI.tmr hx h1
  obtain ⟨n, σ2, h3, h4⟩ := SP.run_bind_some h2
  obtain ⟨rfl, hlen⟩ := lenOfT_ok (F := G.F M.A) hI hx1 h3
  obtain ⟨l, σ3, h5, h6⟩ := SP.run_bind_some h4
  obtain ⟨rfl, hl⟩ := optNat_ok (F := G.F M.A) hI hlo h5
  obtain ⟨h, σ4, h7, h8⟩ := SP.run_bind_some h6
  obtain ⟨rfl, hh⟩ := optNat_ok (F := G.F M.A) hI hhi h7
  split at h8
  case isFalse => simp [SP.run] at h8
  rename_i hcond
  simp only [Bool.and_eq_true, decide_eq_true_eq] at hcond
  obtain ⟨hlh, hhn⟩ := hcond
  have run : ∀ (b : Option Addr) (cap : Nat), a.eval x' = .slice b n cap → n ≤ cap → (execOp a.eval o).run P w = .ok (.value (.slice (if cap = l then b else b.map (·.add (l * sz))) (h - l) (cap - l))) w := by
    intro b cap hxx hnc
    have hb : (Instr.sliceBounds true n cap (lo'.map a.eval) (hi'.map a.eval) none).run P w = .ok (l, h, cap) w := by
      unfold Instr.sliceBounds
      rcases hh with ⟨rfl, rfl⟩ | ⟨xh, kh, ih, rfl, eh, h0h, rfl⟩
      · rcases hl with ⟨rfl, rfl⟩ | ⟨xl, kl, il, rfl, el, h0l, rfl⟩
        · simp
        · have := run_bound (P := P) (w := w) (code := .sliceB) el h0l hlh
          simp [this]
      · have hbh := run_bound (P := P) (w := w) (y := cap) (code := .sliceAcap) eh h0h (by omega)
        rcases hl with ⟨rfl, rfl⟩ | ⟨xl, kl, il, rfl, el, h0l, rfl⟩
        · simp [hbh]
        · have := run_bound (P := P) (w := w) (code := .sliceB) el h0l hlh
          simp [hbh, this]
    simp [execOp, ho, hxx, Instr.sliceAt, run_underlying hu, Instr.slice, hb, hso]
  have hcap : ∀ b n2 cap, a.eval x' = .slice b n2 cap → n2 = n → n ≤ cap := by
    intro b n2 cap e1 e2
    obtain ⟨aa, cap', e3, h9⟩ := hlen
    rw [e1] at e3; injection e3 with _ _ e3; omega
  cases tx with
  | sl c =>
    simp only at h8
    generalize hz : a.eval x' = z at hx1 run hcap
    cases hx1 with
    | sl himm =>
      have himm' := himm
      cases himm with
      | @sl _ aa cap sz' u hsz hcap0 hmax hnil hcell hrec =>
        have hn : n = c.length := by
          simp only [lenOfT, SP.run, Option.some.injEq, Prod.mk.injEq] at h3
          exact h3.1.symm
        subst hn
        split at h8
        case isFalse => simp [SP.run] at h8
        rename_i hall
        simp only [List.all_eq_true, beq_iff_eq] at hall
        refine wr_ok hI hd hN (x := .slice (if cap = l then aa else aa.map (·.add (l * sz))) (h - l) (cap - l)) (.sl ?_) h8 (run _ _ rfl hcap0)
        refine himm'.window' sz l (h - l) (fun i hi => hall _ (List.getElem_mem hi)) (by omega) (by omega) (by omega) (fun hn => ?_) (fun b ob hp e1 => ?_)
        · by_cases hc : cap = l
          · omega
          · rw [if_neg hc] at hn
            have : aa = none := by cases aa <;> simp at hn ⊢
            have := hnil this
            omega
        · rw [if_neg (by omega), e1]
          simp [addr_add0]
  | ow c =>
    obtain ⟨rfl, hxx⟩ := hx1.ow_inv
    have hn : n = 0 := by
      simp only [lenOfT, SP.run, Option.some.injEq, Prod.mk.injEq] at h3
      exact h3.1.symm
    subst hn
    simp only at h8
    have := run none 0 hxx (Nat.le_refl _)
    have hl0 : l = 0 := by omega
    have hh0 : h = 0 := by omega
    subst hl0
    subst hh0
    exact inst_nil hI hd hN h8 (by simpa using this)
  | pk p vs =>
    simp only at h8
    obtain ⟨tt, σ5, h9, h10⟩ := SP.run_bind_some h8
    obtain ⟨e3, hg⟩ := getPl_run h9
    have e3 : σ5 = σ4 := e3
    subst e3
    simp only [lenOfT] at h3
    obtain ⟨_, σ6, q1, q2⟩ := SP.run_bind_some h3
    have e1 : σ6 = σ5 := (chk_run q1).1
    have e2 := (chk_run q1).2
    subst e1
    obtain ⟨tt2, σ7, q3, q4⟩ := SP.run_bind_some q2
    obtain ⟨e4, hg2⟩ := getPl_run q3
    generalize hz : a.eval x' = z at hx1 run hcap
    have ht := hx1
    cases hx1 with
    | pk V0 h0 hv hok =>
      obtain ⟨hr1, c, hhv, hgc⟩ := hok e2
      have hgc' : getT (σ6.c p.root p.off) p.hops = some (.ow c) := by rw [extC_ne (by exact hr1)] at hgc; exact hgc
      rw [hgc'] at hg hg2
      injection hg with hg
      injection hg2 with hg2
      subst hg
      have hg2 : TV.ow c = tt2 := hg2
      subst hg2
      simp only [SP.run, Option.some.injEq, Prod.mk.injEq] at q4
      have hn : n = c.length := q4.1.symm
      subst hn
      simp only at h10
      split at h10
      case isFalse => simp [SP.run] at h10
      rename_i hall
      simp only [List.all_eq_true, beq_iff_eq] at hall
      obtain ⟨fp, hown⟩ := pk_own hI hhv hgc
      obtain ⟨aa, cap, rfl, hle⟩ := hown.hdr
      refine wr_ok hI hd hN (x := .slice (if cap = l then aa else aa.map (·.add (l * sz))) (h - l) (cap - l)) ?_ h10 (run _ _ rfl hle)
      have hmx : cap ≤ maxLen := by
        cases hown with
        | nil => exact Nat.zero_le _
        | ow => assumption
      refine .pw V0 h0 hv fun _ => ⟨hr1, c, _, hhv, hgc, by omega, _, _, rfl, by omega, by omega, fun hn => ?_, fun i hi => hall _ (List.getElem_mem hi), fun hp => ?_⟩
      · by_cases hc : cap = l
        · omega
        · rw [if_neg hc] at hn
          have : aa = none := by cases aa <;> simp at hn ⊢
          subst this
          cases hown
          omega
      · rw [if_neg (by omega)]
        cases hown with
        | nil =>
          have h00 : h = 0 := Nat.le_zero.1 hhn
          rw [h00] at hp
          simp at hp
        | ow => exact ⟨_, _, _, rfl, by simp [addr_add0]⟩
  | pw p vs sz' lo0 n0 =>
    simp only at h8
    split at h8
    case isFalse => simp [SP.run] at h8
    rename_i hsz
    subst hsz
    simp only [lenOfT] at h3
    obtain ⟨_, σ6, q1, q2⟩ := SP.run_bind_some h3
    have e1 : σ6 = σ4 := (chk_run q1).1
    have e2 := (chk_run q1).2
    subst e1
    simp only [SP.run, Option.some.injEq, Prod.mk.injEq] at q2
    have hn : n = n0 := q2.1.symm
    subst hn
    generalize hz : a.eval x' = z at hx1 run hcap
    cases hx1 with
    | pw V0 h0 hv hok =>
      obtain ⟨hr1, c, hd1, hhv, hgc, hln, aa, cap, rfl, hmc, hmx, hnil, hszs, hpos0⟩ := hok e2
      refine wr_ok hI hd hN (x := .slice (if cap = l then aa else aa.map (·.add (l * sz'))) (h - l) (cap - l)) ?_ h8 (run _ _ rfl hmc)
      refine .pw V0 h0 hv fun _ => ⟨hr1, c, hd1, hhv, hgc, by omega, _, _, rfl, by omega, by omega, fun hn => ?_, hszs, fun hp => ?_⟩
      · by_cases hc : cap = l
        · omega
        · rw [if_neg hc] at hn
          have : aa = none := by cases aa <;> simp at hn ⊢
          have := hnil this
          omega
      · rw [if_neg (by omega)]
        obtain ⟨b, len, cap', rfl, rfl⟩ := hpos0 (by omega)
        exact ⟨b, len, cap', rfl, by simp [addr_add0, Nat.add_mul]⟩
  | _ => simp [SP.run] at h8

theorem madeCells_eq (z : List Value) (n : Nat) : madeCells z.toArray (n * z.length) = ((List.replicate n z).flatten).toArray := by
  apply Array.ext'
  apply List.ext_getElem?
  intro k
  unfold madeCells
  by_cases h : k < n * z.length
  · have hz : 0 < z.length := by
      rcases Nat.eq_zero_or_pos z.length with h0 | h0
      · rw [h0] at h; simp at h
      · exact h0
    have h1 : k / z.length < n := Nat.div_lt_of_lt_mul (by rw [Nat.mul_comm]; exact h)
    have h2 : k % z.length < z.length := Nat.mod_lt _ hz
    have hk : k = k / z.length * z.length + k % z.length := by rw [Nat.mul_comm]; exact (Nat.div_add_mod k z.length).symm
    have h3 := flatten_get (c := List.replicate n z) (sz := z.length) (fun i hi => by simp) (i := k / z.length) (j := k % z.length) (by simpa using h1) (by simpa using h2)
    rw [← hk] at h3
    have e : ((Array.range (n * z.length)).map fun x => z.toArray[x % z.toArray.size]!).toList[k]? = some z[k % z.length] := by
      simp [h, h2]
    rw [e]
    simpa using h3.symm
  · rw [List.getElem?_eq_none (by simp; omega), List.getElem?_eq_none (by simp; omega)]

theorem sim_mks (hI : Inv M σ [] [] a.tmps w G) {d sz : Nat} {z : List Value} (hd : o.dst = some d) (hN : d < M.N) {l c : Opd} {l' c' : Operand} {t e : TypeId} {i : TypeInfo} {zv : Value} (hl : compOpd l' = some l) (hc : compOpd c' = some c) (ho : o.op = .makeSlice t l' c')
    (hu : P.underlying t = some (.slice e)) (hi : P.info? e = some i) (hz : i.zero = some zv) (hzc : zv.cells.toList = z) (hsz : i.size = sz) (hby : i.bytes ≤ 16777216 * sz) (hsp : 0 < sz) (hr : (ev1 d (.mks sz z l c)).run σ = some ((), σ')) : Sim1 P M σ' a o w := by
  subst hsz
  simp only [ev1] at hr
  split at hr
  case isFalse => simp [SP.run] at hr
  rename_i hcond
  simp only [Bool.and_eq_true, beq_iff_eq] at hcond
  obtain ⟨hok, hzl⟩ := hcond
  obtain ⟨t1, σ1, h1, h2⟩ := SP.run_bind_some hr
  obtain ⟨rfl, hl1⟩ := opd_ok hI.tmr hl h1
  obtain ⟨t2, σ2, h3, h4⟩ := SP.run_bind_some h2
  obtain ⟨rfl, hc1⟩ := opd_ok hI.tmr hc h3
  obtain ⟨n, σ3, h5, h6⟩ := SP.run_bind_some h4
  obtain ⟨k1, i1, rfl, hn0, hn, rfl⟩ := natOf_ok h5
  obtain ⟨m, σ4, h7, h8⟩ := SP.run_bind_some h6
  obtain ⟨k2, i2, rfl, hm0, hm, rfl⟩ := natOf_ok h7
  split at h8
  case isFalse => simp [SP.run] at h8
  rename_i hcond
  simp only [Bool.and_eq_true, decide_eq_true_eq] at hcond
  obtain ⟨hnm, hbound⟩ := hcond
  obtain ⟨el, _⟩ := hl1.v_inv
  obtain ⟨ec, _⟩ := hc1.v_inv
  have hn24 : n ≤ 16777216 := by
    calc n = n * 1 := by omega
      _ ≤ n * i.size := Nat.mul_le_mul_left _ hsp
      _ ≤ 16777216 := hbound
  have hok2 : (((List.replicate n z).flatten).map ofCell).all okCell = true := by
    rw [List.all_eq_true] at hok ⊢
    intro x hx
    simp only [List.mem_map, List.mem_flatten, List.mem_replicate] at hx
    obtain ⟨y, ⟨q, ⟨_, rfl⟩, hy⟩, rfl⟩ := hx
    exact hok _ (List.mem_map_of_mem hy)
  obtain ⟨G1, g1⟩ := hI.addHandL hok2
  simp only [List.nil_append] at g1
  have hcl : ∀ j (h : j < (((List.replicate n z).flatten).map ofCell).length), okCell ((((List.replicate n z).flatten).map ofCell))[j] = true := fun j h => List.all_eq_true.1 hok2 _ (List.getElem_mem h)
  obtain ⟨G2, hI2, _, _⟩ := g1.1.mkSlice (c := List.replicate n (z.map ofCell)) (sz := i.size) e (fun k hk => by simp [hzl]) (by rw [List.map_flatten, List.map_replicate]) (cell_nd fun j h => .inl (hcl j h)) (by simp; unfold maxLen; omega)
  refine inst_ok hI2 hd hN (fun j hj => ?_) h8 (.inr ⟨rfl, _, rfl, rfl⟩) (w0 := w) ?_
  · obtain rfl : j = 0 := by simp at hj; omega
    exact .inr rfl
  · have hbb : (i.bytes : Int) * i2 ≤ 281474976710656 := by
      have h9 : i.bytes * n ≤ 16777216 * i.size * n := Nat.mul_le_mul_right _ hby
      have h10 : 16777216 * i.size * n = 16777216 * (n * i.size) := by rw [Nat.mul_assoc, Nat.mul_comm i.size n]
      have h11 : i.bytes * n ≤ 281474976710656 := by rw [h10] at h9; omega
      have h12 : i2 = (n : Int) := by omega
      rw [h12, ← Int.natCast_mul]
      exact Int.ofNat_le.2 h11
    have hrun := run_make (P := P) w t e i zv hu hi hz k1 k2 i1 i2 hn0 (by omega) hbb (by omega)
    have e1 : i1.toNat = n := hn.symm
    have e2 : i2.toNat = n := by omega
    have e3 : zv.cells = z.toArray := by rw [← hzc]
    rw [e1, e2, e3, ← hzl, madeCells_eq] at hrun
    simp [execOp, ho, el, ec, hrun]

theorem sim_ixs (hI : Inv M σ [] [] a.tmps w G) {d : Nat} (hd : o.dst = some d) (hN : d < M.N) {x i : Opd} {x' i' : Operand} {t : TypeId} (hx : compOpd x' = some x) (hi : compOpd i' = some i) (ho : o.op = .index t x' i') (hu : P.underlying t = some .string) (hr : (ev1 d (.ixs x i)).run σ = some ((), σ')) : Sim1 P M σ' a o w := by
  simp only [ev1] at hr
  obtain ⟨tx, σ1, h1, h2⟩ := SP.run_bind_some hr
  obtain ⟨rfl, hx1⟩ := opd_ok hI.tmr hx h1
  obtain ⟨ti, σ2, h3, h4⟩ := SP.run_bind_some h2
  obtain ⟨rfl, hi1⟩ := opd_ok hI.tmr hi h3
  obtain ⟨k, σ3, h5, h6⟩ := SP.run_bind_some h4
  obtain ⟨ik, n, rfl, hn0, hk, rfl⟩ := natOf_ok h5
  obtain ⟨ei, _⟩ := hi1.v_inv
  cases tx with
  | v y =>
    obtain ⟨ex, _⟩ := hx1.v_inv
    cases y with
    | string s =>
      simp only at h6
      cases hb : s[k]? with
      | none => simp [hb, SP.run] at h6
      | some b =>
        simp only [hb] at h6
        subst hk
        exact wr_ok hI hd hN (.v rfl) h6 (by simp [execOp, ho, ex, ei, Instr.index, asIntOf, run_underlying hu, hn0, hb])
    | _ => simp [SP.run] at h6
  | _ => simp [SP.run] at h6

theorem mapO_ok {β : Type} {f : Opd → SP β} {R : β → Operand → Prop} (hf : ∀ x x' y σ', compOpd x' = some x → (f x).run σ = some (y, σ') → σ' = σ ∧ R y x') : ∀ {l : List Opd} {l' : List Operand} {r : List β} {σ' : St}, l'.map compOpd = l.map some → (mapO f l).run σ = some (r, σ') →
    σ' = σ ∧ r.length = l'.length ∧ ∀ k (h : k < r.length) (h' : k < l'.length), R r[k] l'[k] := by
  intro l
  induction l with
  | nil =>
    intro l' r σ' h1 h2
    simp only [mapO, SP.run, Option.some.injEq, Prod.mk.injEq] at h2
    obtain ⟨rfl, rfl⟩ := h2
    have : l' = [] := by cases l' <;> simp at h1 ⊢
    subst this
    exact ⟨rfl, rfl, fun k h => by simp at h⟩
  | cons x l ih =>
    intro l' r σ' h1 h2
    cases l' with
    | nil => simp at h1
    | cons x' l' =>
      simp only [List.map_cons, List.cons.injEq] at h1
      simp only [mapO] at h2
      obtain ⟨y, σ1, h3, h4⟩ := SP.run_bind_some h2
      obtain ⟨rfl, hy⟩ := hf x x' y σ1 h1.1 h3
      obtain ⟨r2, σ2, h5, h6⟩ := SP.run_bind_some h4
      simp only [SP.run, Option.some.injEq, Prod.mk.injEq] at h6
      obtain ⟨rfl, rfl⟩ := h6
      obtain ⟨e1, e2, e3⟩ := ih h1.2 h5
      refine ⟨e1, by simp [e2], fun k h h' => ?_⟩
      cases k with
      | zero => exact hy
      | succ k => exact e3 k (by simpa using h) (by simpa using h')

theorem sim_mkf (hI : Inv M σ [] [] a.tmps w G) {d : Nat} (hd : o.dst = some d) (hN : d < M.N) {f : FuncId} {caps : List Opd} {caps' : Array Operand} (hc : caps'.toList.map compOpd = caps.map some) (ho : o.op = .makeFunc (.func f) #[] caps') (hr : (ev1 d (.mkf f caps)).run σ = some ((), σ')) : Sim1 P M σ' a o w := by
  simp only [ev1] at hr
  obtain ⟨l, σ1, h1, h2⟩ := SP.run_bind_some hr
  obtain ⟨rfl, e2, e3⟩ := mapO_ok (R := fun y x' => TmR w (G.F M.A) σ.v (extC M σ []) G y (a.eval x')) (fun x x' y σ' hx hy => by
    obtain ⟨t, σ2, q1, q2⟩ := SP.run_bind_some hy
    obtain ⟨rfl, ht⟩ := opd_ok hI.tmr hx q1
    cases t <;> simp only [SP.run, Option.some.injEq, Prod.mk.injEq] at q2 <;> first | (obtain ⟨rfl, rfl⟩ := q2; exact ⟨rfl, ht⟩) | simp at q2) hc h1
  refine wr_ok hI hd hN (x := .func (.func f) #[] (caps'.map a.eval)) (.fn (by simp [e2]) fun j hj => ?_) h2 (by simp [execOp, ho, Instr.makeFunc])
  have := e3 j hj (by omega)
  have hj0 : j < caps'.toList.length := by omega
  have hj' : j < caps'.size := by simpa using hj0
  simpa [hj'] using this
end
end Go.Proofs.Ytkmbahlpmoljpaa
/- Structs of numbers, truth values and strings compared; no condition. -/
set_option linter.unusedVariables false
set_option linter.unusedSimpArgs false
namespace Go.Proofs.Ytkmbahlpmoljpaa
open Go.RowKit

def flatFs (g : TypeId → Option (List FK)) : Nat → List Field → Option (List FK)
  | _, [] => some []
  | off, f :: fs =>
    if f.name ≠ "_" ∧ f.offset = off then
      match g f.type with
      | some ks => (flatFs g (off + ks.length) fs).map (ks ++ ·)
      | none => none
    else none
/-- The kinds of a flat type's cells. -/
def flatAt (P : Program) : Nat → TypeId → Option (List FK)
  | 0, _ => none
  | d + 1, t =>
    match P.underlying t with
    | some .bool => some [.b]
    | some (.int _) => some [.i]
    | some .string => some [.s]
    | some (.struct fs) =>
      if P.stoodInHeld t then none
      else match flatFs (flatAt P d) 0 fs.toList with
        | some ks => if (P.info? t).map (·.size) = some ks.length then some ks else none
        | none => none
    | _ => none

theorem omapW {α β : Type} {f : α → β} {o : Option α} {b : β} (h : o.map f = some b) : ∃ a, o = some a ∧ f a = b := by
  cases o with
  | none => simp at h
  | some a => exact ⟨a, rfl, by simpa using h⟩
theorem eqFlats_len : ∀ {ks : List FK} {xs ys : List Value} {r : Bool}, eqFlats ks xs ys = some r → xs.length = ks.length ∧ ys.length = ks.length := by
  intro ks
  induction ks with
  | nil =>
    intro xs ys r h
    cases xs <;> cases ys <;> simp [eqFlats] at h ⊢
  | cons k ks ih =>
    intro xs ys r h
    cases xs with
    | nil => cases k <;> simp [eqFlats] at h
    | cons x xs =>
      cases ys with
      | nil => cases k <;> cases x <;> simp [eqFlats] at h
      | cons y ys =>
        cases k <;> cases x <;> cases y <;> simp only [eqFlats] at h <;> first | (simp at h; done) | skip
        · split at h
          · obtain ⟨r', h1, _⟩ := omapW h
            have := ih h1
            simp [this.1, this.2]
          · simp at h
        · obtain ⟨r', h1, _⟩ := omapW h
          have := ih h1
          simp [this.1, this.2]
        · obtain ⟨r', h1, _⟩ := omapW h
          have := ih h1
          simp [this.1, this.2]
theorem eqFlats_append : ∀ {k1 k2 : List FK} {xs ys : List Value} {r : Bool}, eqFlats (k1 ++ k2) xs ys = some r →
    ∃ r1 r2, eqFlats k1 (xs.take k1.length) (ys.take k1.length) = some r1 ∧ eqFlats k2 (xs.drop k1.length) (ys.drop k1.length) = some r2 ∧ r = (r1 && r2) := by
  intro k1
  induction k1 with
  | nil => intro k2 xs ys r h; exact ⟨true, r, rfl, h, rfl⟩
  | cons k k1 ih =>
    intro k2 xs ys r h
    simp only [List.cons_append] at h
    cases xs with
    | nil => cases k <;> simp [eqFlats] at h
    | cons x xs =>
      cases ys with
      | nil => cases k <;> cases x <;> simp [eqFlats] at h
      | cons y ys =>
        have fin : ∀ (q : Bool) (h : (eqFlats (k1 ++ k2) xs ys).map (q && ·) = some r) (hq : ∀ X Y, eqFlats (k :: k1) (x :: X) (y :: Y) = (eqFlats k1 X Y).map (q && ·)), ∃ r1 r2, eqFlats (k :: k1) ((x :: xs).take (k :: k1).length) ((y :: ys).take (k :: k1).length) = some r1 ∧ eqFlats k2 ((x :: xs).drop (k :: k1).length) ((y :: ys).drop (k :: k1).length) = some r2 ∧ r = (r1 && r2) := by
          intro q h hq
          obtain ⟨r', h1, h2⟩ := omapW h
          obtain ⟨r1, r2, a1, a2, a3⟩ := ih h1
          refine ⟨q && r1, r2, ?_, by simpa using a2, by rw [← h2, a3, Bool.and_assoc]⟩
          simp only [List.length_cons, List.take_succ_cons]
          rw [hq, a1]; rfl
        cases k <;> cases x <;> cases y <;> simp only [eqFlats] at h <;> first | (simp at h; done) | skip
        · split at h
          · rename_i e; exact fin _ h fun X Y => by simp only [eqFlats, if_pos e]
          · simp at h
        · exact fin _ h fun X Y => rfl
        · exact fin _ h fun X Y => rfl

section
variable {P : Program} {w : World}
theorem eqFields_ok {d D : Nat} {g : TypeId → Option (List FK)}
    (ih : ∀ t ks, g t = some ks → ∀ (xs ys : Array Value) off r, eqFlats ks ((xs.toList.drop off).take ks.length) ((ys.toList.drop off).take ks.length) = some r → ∃ a b, (part t xs off).run P w = .ok a w ∧ (part t ys off).run P w = .ok b w ∧ (Op.equalIn D t a b).run P w = .ok r w) (xs ys : Array Value) :
    ∀ (fs : List Field) (o : Nat) (ks : List FK) (r : Bool), flatFs g o fs = some ks → eqFlats ks (xs.toList.drop o) (ys.toList.drop o) = some r → (Op.eqFields D xs ys fs).run P w = .ok r w := by
  intro fs
  induction fs with
  | nil =>
    intro o ks r h he
    simp only [flatFs, Option.some.injEq] at h
    subst h
    have hr : r = true := by
      revert he
      generalize xs.toList.drop o = X
      generalize ys.toList.drop o = Y
      intro he
      cases X <;> cases Y <;> simp [eqFlats] at he
      exact he
    subst hr
    rfl
  | cons f fs ihf =>
    intro o ks r h he
    simp only [flatFs] at h
    split at h
    case isFalse => simp at h
    rename_i hf
    split at h
    case h_2 => simp at h
    rename_i k1 hk1
    obtain ⟨k2, hk2, rfl⟩ := omapW h
    obtain ⟨r1, r2, a1, a2, rfl⟩ := eqFlats_append he
    obtain ⟨a, b, p1, p2, p3⟩ := ih f.type k1 hk1 xs ys o r1 a1
    rw [List.drop_drop, List.drop_drop] at a2
    have hrest := ihf (o + k1.length) k2 r2 hk2 a2
    simp only [Op.eqFields]
    rw [if_pos hf.1, hf.2]
    simp only [Sem.run_bind, p1, p2, p3, Result.andThen_ok]
    cases r1 with
    | false => simp
    | true => simpa using hrest

theorem part_flat : ∀ (d : Nat) (t : TypeId) (ks : List FK), flatAt P d t = some ks → ∀ D, d ≤ D → ∀ (xs ys : Array Value) (off : Nat) (r : Bool), eqFlats ks ((xs.toList.drop off).take ks.length) ((ys.toList.drop off).take ks.length) = some r →
    ∃ a b, (part t xs off).run P w = .ok a w ∧ (part t ys off).run P w = .ok b w ∧ (Op.equalIn D t a b).run P w = .ok r w := by
  intro d
  induction d with
  | zero => intro t ks h; simp [flatAt] at h
  | succ d ih =>
    intro t ks h D hD xs ys off r he
    obtain ⟨D', rfl⟩ : ∃ D', D = D' + 1 := ⟨D - 1, by omega⟩
    simp only [flatAt] at h
    have one : ∀ (dsc : TypeDesc) (k : FK), P.underlying t = some dsc → (∀ f, dsc ≠ .struct f) → (∀ n e, dsc ≠ .array n e) → ks = [k] → ∃ x y, xs[off]? = some x ∧ ys[off]? = some y ∧ eqFlats [k] [x] [y] = some r ∧ (part t xs off).run P w = .ok x w ∧ (part t ys off).run P w = .ok y w := by
      rintro dsc k hu h1 h2 rfl
      obtain ⟨l1, l2⟩ := eqFlats_len he
      obtain ⟨x, hx⟩ : ∃ x, xs.toList.drop off = x :: (xs.toList.drop (off + 1)) := by
        have : off < xs.toList.length := by simp at l1 ⊢; omega
        exact ⟨_, List.drop_eq_getElem_cons this⟩
      obtain ⟨y, hy⟩ : ∃ y, ys.toList.drop off = y :: (ys.toList.drop (off + 1)) := by
        have : off < ys.toList.length := by simp at l2 ⊢; omega
        exact ⟨_, List.drop_eq_getElem_cons this⟩
      have hx2 : xs[off]? = some x := by
        have := congrArg (fun l => l[0]?) hx
        simpa using this
      have hy2 : ys[off]? = some y := by
        have := congrArg (fun l => l[0]?) hy
        simpa using this
      rw [hx, hy] at he
      exact ⟨x, y, hx2, hy2, by simpa using he, by simp [part, run_isAgg hu h1 h2, hx2], by simp [part, run_isAgg hu h1 h2, hy2]⟩
    split at h
    · rename_i hu
      injection h with h
      obtain ⟨x, y, _, _, e, p1, p2⟩ := one _ .b hu (fun _ h => by cases h) (fun _ _ h => by cases h) h.symm
      refine ⟨x, y, p1, p2, ?_⟩
      cases x <;> cases y <;> simp [eqFlats] at e
      simp [Op.equalIn, run_underlying hu, e]
    · rename_i k0 hu
      injection h with h
      obtain ⟨x, y, _, _, e, p1, p2⟩ := one _ .i hu (fun _ h => by cases h) (fun _ _ h => by cases h) h.symm
      refine ⟨x, y, p1, p2, ?_⟩
      cases x <;> cases y <;> simp only [eqFlats] at e <;> first | (simp at e; done) | skip
      rename_i ka a kb b
      split at e
      · rename_i hk
        subst hk
        simp at e
        simp [Op.equalIn, run_underlying hu, e]
      · simp at e
    · rename_i hu
      injection h with h
      obtain ⟨x, y, _, _, e, p1, p2⟩ := one _ .s hu (fun _ h => by cases h) (fun _ _ h => by cases h) h.symm
      refine ⟨x, y, p1, p2, ?_⟩
      cases x <;> cases y <;> simp [eqFlats] at e
      simp [Op.equalIn, run_underlying hu, e]
    · rename_i fs hu
      split at h
      case isTrue => simp at h
      rename_i hst
      split at h
      case h_2 => simp at h
      rename_i ks' hfs
      split at h
      case isFalse => simp at h
      rename_i hsz
      injection h with h
      subst h
      have hso : (sizeOf t).run P w = .ok ks'.length w := by
        unfold sizeOf typeInfo
        cases hi : P.info? t with
        | none => simp [hi] at hsz
        | some i => simp [hi] at hsz; simp [hi, hsz]
      have hpart : ∀ zs : Array Value, (part t zs off).run P w = .ok (.agg (zs.extract off (off + ks'.length))) w := fun zs => by
        simp [part, run_isAgg_t hu (.inl ⟨_, rfl⟩), hso]
      refine ⟨_, _, hpart xs, hpart ys, ?_⟩
      have hff : P.fieldsOf t = fs := by simp [Program.fieldsOf, hu]
      rw [run_equalIn_struct w D' t _ _ (by rw [hff]; exact hu) (by simpa using hst), hff]
      refine eqFields_ok (d := d) (g := flatAt P d) (fun t ks h xs ys off r he => ih t ks h D' (by omega) xs ys off r he) _ _ fs.toList 0 ks' r hfs ?_
      have e : ∀ zs : Array Value, (zs.extract off (off + ks'.length)).toList.drop 0 = (zs.toList.drop off).take ks'.length := fun zs => by
        simp [List.extract_eq_take_drop]
      rw [e, e]
      exact he
    · simp at h

theorem equal_agg {d D : Nat} {t : TypeId} {ks : List FK} {fs : Array Field} (h : flatAt P (d + 1) t = some ks) (hu : P.underlying t = some (.struct fs)) (hD : d ≤ D) {xs ys : Array Value} {r : Bool} (he : eqFlats ks xs.toList ys.toList = some r) : (Op.equalIn (D + 1) t (.agg xs) (.agg ys)).run P w = .ok r w := by
  simp only [flatAt, hu] at h
  split at h
  case isTrue => simp at h
  rename_i hst
  split at h
  case h_2 => simp at h
  rename_i ks' hfs
  split at h
  case isFalse => simp at h
  injection h with h
  subst h
  have hff : P.fieldsOf t = fs := by simp [Program.fieldsOf, hu]
  rw [run_equalIn_struct w D t _ _ (by rw [hff]; exact hu) (by simpa using hst), hff]
  exact eqFields_ok (d := d) (g := flatAt P d) (fun t ks h xs ys off r he => part_flat d t ks h D hD xs ys off r he) _ _ fs.toList 0 ks' r hfs (by simpa using he)

variable {M : Fm} {σ σ' : St} {G : Gh} {a : Act} {o : Oper}
theorem flats_ok {F : Nat → Prop} {V : Vs} {C : Cs} : ∀ {l : List TV} {vs : List Value}, flatsOf l = some vs → vs.length = l.length ∧ ∀ j (h : j < l.length) (h' : j < vs.length) (x : Value), TmR w F V C G l[j] x → x = vs[j] := by
  intro l
  induction l with
  | nil => intro vs h; simp only [flatsOf, Option.some.injEq] at h; subst h; exact ⟨rfl, fun j h => by simp at h⟩
  | cons t l ih =>
    intro vs h
    cases t with
    | v z =>
      simp only [flatsOf] at h
      obtain ⟨vs', h1, rfl⟩ := omapW h
      obtain ⟨e, h2⟩ := ih h1
      refine ⟨by simp [e], fun j hj hj' x hx => ?_⟩
      cases j with
      | zero => exact hx.v_inv.1
      | succ j => exact h2 j (by simpa using hj) (by simpa using hj') x hx
    | _ => simp [flatsOf] at h
theorem flats_agg {F : Nat → Prop} {V : Vs} {C : Cs} {l : List TV} {vs : List Value} {x : Value} (h : flatsOf l = some vs) (hx : TmR w F V C G (.agg l) x) : x = .agg vs.toArray := by
  obtain ⟨xs, rfl, hl, hj⟩ := aggXs hx
  obtain ⟨e, h2⟩ := flats_ok (w := w) (G := G) (F := F) (V := V) (C := C) h
  congr 1
  apply Array.ext
  · simp [hl, e]
  · intro j h1 h3
    have := h2 j (by omega) (by simpa using h3) _ (hj j (by omega))
    have e2 : xs.getD j undef = xs[j] := by simp [Array.getD_eq_getD_getElem?, h1]
    rw [e2] at this
    simpa using this

theorem sim_eqa (hI : Inv M σ [] [] a.tmps w G) {d : Nat} (hd : o.dst = some d) (hN : d < M.N) {x y : Opd} {x' y' : Operand} {op : BinOp} {neg : Bool} {t yt : TypeId} {ks : List FK} {fs : Array Field} (hx : compOpd x' = some x) (hy : compOpd y' = some y) (ho : o.op = .binOp op t x' y' yt) (hop : (op = .eql ∧ neg = false) ∨ (op = .neq ∧ neg = true))
    (hu : P.underlying t = some (.struct fs)) (hk : flatAt P 50 t = some ks) (hgd : P.eqGuardType P.depth t = false) (hr : (ev1 d (.eqa ks neg x y)).run σ = some ((), σ')) : Sim1 P M σ' a o w := by
  simp only [ev1] at hr
  obtain ⟨t1, σ1, h1, h2⟩ := SP.run_bind_some hr
  obtain ⟨rfl, hx1⟩ := opd_ok hI.tmr hx h1
  obtain ⟨t2, σ2, h3, h4⟩ := SP.run_bind_some h2
  obtain ⟨rfl, hy1⟩ := opd_ok hI.tmr hy h3
  cases t1 with
  | agg l1 =>
    cases t2 with
    | agg l2 =>
      simp only at h4
      obtain ⟨vs1, σ3, h5, h6⟩ := SP.run_bind_some h4
      obtain ⟨e1, rfl⟩ := spOpt_ok h5
      obtain ⟨vs2, σ4, h7, h8⟩ := SP.run_bind_some h6
      obtain ⟨e2, rfl⟩ := spOpt_ok h7
      obtain ⟨r, σ5, h9, h10⟩ := SP.run_bind_some h8
      obtain ⟨e3, rfl⟩ := spOpt_ok h9
      have ex := flats_agg e1 hx1
      have ey := flats_agg e2 hy1
      have hq : (Op.equalIn 10000 t (.agg vs1.toArray) (.agg vs2.toArray)).run P w = .ok r w := equal_agg (d := 49) (D := 9999) hk hu (by omega) (by simpa using e3)
      have hg : (eqGuard op t x' y' (.agg vs1.toArray) (.agg vs2.toArray)).run P w = .ok () w := run_eqGuard_agg w op t x' y' _ _ hgd
      refine wr_ok hI hd hN (.v rfl) h10 ?_
      rcases hop with ⟨rfl, rfl⟩ | ⟨rfl, rfl⟩
      · simp [execOp, ho, ex, ey, hg, run_eql_struct, hq]
      · simp [execOp, ho, ex, ey, hg, run_neq_struct, hq]
    | _ => simp [SP.run] at h4
  | _ => simp [SP.run] at h4
end
end Go.Proofs.Ytkmbahlpmoljpaa
