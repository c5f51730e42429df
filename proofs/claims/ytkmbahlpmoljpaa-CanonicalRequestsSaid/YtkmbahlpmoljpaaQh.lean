/- Calls that only look at what is handed over; no condition. -/
import Derived.Test.YtkmbahlpmoljpaaQg
set_option linter.unusedVariables false
set_option linter.unusedSimpArgs false
namespace Go.Proofs.Ytkmbahlpmoljpaa
open Go.RowKit

def frM (w : World) (N : Nat) : Fm := ⟨w, fun _ => True, fun _ => False, fun _ => none, N, fun _ _ => trivial⟩
def frG : Gh := ⟨fun _ => none, fun _ _ => undef, fun _ _ _ => False⟩
theorem numbered_get (l : List TV) : ∀ i k, aget (numbered i l) k = if k < i then none else l[k - i]? := by
  induction l with
  | nil => intro i k; simp [numbered, aget]
  | cons t l ih =>
    intro i k
    simp only [numbered, aget, ih]
    by_cases h : i = k
    · subst h; simp
    · by_cases h2 : k < i
      · simp [h, h2, show k < i + 1 by omega]
      · obtain ⟨j, hj⟩ : ∃ j, k - i = j + 1 := ⟨k - i - 1, by omega⟩
        simp only [if_neg h, if_neg h2, hj, List.getElem?_cons_succ]
        rw [if_neg (by omega), show k - (i + 1) = j by omega]
/-- A value that holds whatever is owned by whom. -/
def Plain (w : World) (t : TV) (x : Value) : Prop := ∀ F V C G, (∀ k, F k) → TmR w F V C G t x
theorem ImmR.plain {w : World} {F : Nat → Prop} {t : TV} {x : Value} (h : ImmR w F t x) : Plain w t x := fun _ _ _ _ hF => (h.frame (fun _ _ _ => rfl) fun k _ _ => hF k).toTm
def unV : TV → Value
  | .v x => x
  | _ => undef
theorem calls_flat {P : Program} {F : Callee} (hF : CalleeOk P F) {f : FuncId} {vals : List TV} {avs : List Value} {res : TRes} {w : World} (h : F f vals [] = some (res, [])) (hfl : res.cells.all isFV = true) (hl : avs.length = vals.length)
    (hv : ∀ j (h : j < vals.length) (h' : j < avs.length), Plain w vals[j] avs[j]) : Enters P f ∧ Calls P f avs.toArray w fun e w' => e = .returned (resVal res.sh (res.cells.map unV)) ∧ Below w.heap.size w w' := by
  obtain ⟨hent, N, hN, hc⟩ := hF f vals [] _ _ h
  refine ⟨hent, ?_⟩
  have hFF : ∀ k, frG.F (frM w N).A k := fun k => ⟨trivial, fun _ _ h => h, fun _ _ _ _ h => by simp [frG] at h⟩
  have hst : ∀ i, (mkSt vals []).t i = vals.getD i .dead := by
    intro i
    simp [St.t, mkSt, numbered_get]
  have hE : ∀ r o, extC (frM w N) (mkSt vals []) [] r o = .dead := by
    intro r o
    unfold extC
    split
    · simp
    · rfl
  have hI : Inv (frM w N) (mkSt vals []) [] [] (avs.toArray ++ Array.replicate (N - avs.length) undef) w frG := by
    refine ⟨⟨fun r o => .inl ⟨hE r o, fun _ h => h⟩, fun _ _ _ _ h => by simp [frG] at h, fun _ _ _ _ h => by simp [frG] at h, fun _ _ _ _ _ _ _ h => by simp [frG] at h, fun _ _ _ _ h => by simp [frG] at h, fun _ _ _ _ _ h => h.elim, fun _ _ _ h => h.elim⟩, fun i => ?_, ⟨rfl, rfl, rfl, Nat.le_refl _, fun _ _ _ _ => rfl, fun _ _ _ _ h => by simp [frM] at h, fun _ _ _ h => h.elim, fun _ _ _ _ h => by simp [frG] at h, fun _ h => by simp [frG] at h⟩, fun r l h => by simp [mkSt, aget] at h, ?_, rfl, fun j hj => by simp at hj, fun _ _ _ _ h => by simp [frG] at h⟩
    · rw [hst]
      by_cases hi : i < vals.length
      · have hi' : i < avs.length := by omega
        have e1 : vals.getD i .dead = vals[i] := by simp [hi]
        have e2 : (avs.toArray ++ Array.replicate (N - avs.length) undef).getD i undef = avs[i] := by
          simp [Array.getD_eq_getD_getElem?, Array.getElem?_append, hi']
        rw [e1, e2]
        exact hv i hi hi' _ _ _ frG hFF
      · have e1 : vals.getD i .dead = .dead := by rw [List.getD_eq_getElem?_getD, List.getElem?_eq_none (by omega)]; rfl
        rw [e1]
        exact .dead
    · show (avs.toArray ++ Array.replicate (N - avs.length) undef).size = N
      simp; omega
  refine (hc (frM w N) avs w frG hl rfl rfl (fun r hr => by simp [frM] at hr) hI).mono fun e w2 ⟨ys, ts2, σ2, G2, he, hI2, _, _⟩ => ?_
  have hys : ys = res.cells.map unV := by
    have hlen : res.cells.length = ys.length := hI2.hand
    apply List.ext_getElem
    · rw [List.length_map, hlen]
    · intro j h1 h2
      have hj : j < res.cells.length := by omega
      have hvj := List.all_eq_true.1 hfl res.cells[j] (List.getElem_mem hj)
      have hown := hI2.hand_own (j := j) hj (by
        intro e
        rw [e] at hvj
        simp [isFV] at hvj)
      rw [List.getElem_map]
      have e1 : ys.getD j undef = ys[j] := by simp [List.getD_eq_getElem?_getD, h1]
      rw [e1] at hown
      cases hc : res.cells[j] with
      | v x =>
        rw [hc] at hown
        cases hown with
        | v _ _ => rfl
      | _ => rw [hc] at hvj; simp [isFV] at hvj
  subst hys
  exact ⟨he, ⟨hI2.fram.os, hI2.fram.tape, hI2.fram.output, hI2.fram.size, fun k hk => hI2.fram.old k hk (fun h => h) fun _ _ _ _ h => by simp [frM] at h⟩⟩
section
variable {P : Program} {M : Fm} {σ σ' : St} {H : List TV} {xs : List Value} {ts : Array Value} {w : World} {G : Gh} {a : Act} {o : Oper}
theorem see1_ok {t t' : TV} {x : Value} (hI : Inv M σ H xs ts w G) (hx : TmR w (G.F M.A) σ.v (extC M σ H) G t x) (hr : (see1 t).run σ = some (t', σ')) : σ' = σ ∧ ImmR w (fun _ => True) t' x := by
  cases hx with
  | v h =>
    simp only [see1, SP.run, Option.some.injEq, Prod.mk.injEq] at hr
    obtain ⟨rfl, rfl⟩ := hr
    exact ⟨rfl, .v h⟩
  | nil =>
    simp only [see1, SP.run, Option.some.injEq, Prod.mk.injEq] at hr
    obtain ⟨rfl, rfl⟩ := hr
    exact ⟨rfl, .sl (c := []) 1 (fun _ _ => .nilFunc) (fun i h => by simp at h) (Nat.le_refl _) (Nat.zero_le _) (fun _ => rfl) (fun i j h => by simp at h) (fun i j h => by simp at h)⟩
  | sl h =>
    simp only [see1, SP.run, Option.some.injEq, Prod.mk.injEq] at hr
    obtain ⟨rfl, rfl⟩ := hr
    exact ⟨rfl, h.frame (fun _ _ _ => rfl) fun _ _ _ => trivial⟩
  | dead => simp [see1, SP.run] at hr
  | ptr => simp [see1, SP.run] at hr
  | ip => simp [see1, SP.run] at hr
  | agg => simp [see1, SP.run] at hr
  | tup => simp [see1, SP.run] at hr
  | fn => simp [see1, SP.run] at hr
  | pw => simp [see1, SP.run] at hr
  | @pk p vs x V0 h0 hv hok =>
    simp only [see1] at hr
    obtain ⟨_, σ1, h1, h2⟩ := SP.run_bind_some hr
    have e1 : σ1 = σ := (chk_run h1).1
    have e2 := (chk_run h1).2
    subst e1
    obtain ⟨_, c, hhv, hget⟩ := hok e2
    simp only [SP.run] at h2
    have hroot : p.root ≠ M.hr := by
      intro e
      rw [e] at h2
      rw [hI.hr_dead] at h2
      cases hp : p.hops <;> rw [hp] at h2 <;> simp [getT, SP.run] at h2
    obtain ⟨u, fp, h4, h5, _⟩ := hI.core.hv_own p hget (by simp)
    rw [extC_ne hroot] at hget
    rw [hget] at h2
    simp only [SP.run, Option.some.injEq, Prod.mk.injEq] at h2
    obtain ⟨rfl, rfl⟩ := h2
    rw [hhv] at h4
    injection h4 with h4
    subst h4
    exact ⟨rfl, h5.share'.frame (fun _ _ _ => rfl) fun _ _ _ => trivial⟩
theorem seeL_ok : ∀ {l l' : List TV} {ys : List Value}, Inv M σ H xs ts w G → l.length = ys.length → (∀ j (h : j < l.length), TmR w (G.F M.A) σ.v (extC M σ H) G l[j] (ys.getD j undef)) → (seeL l).run σ = some (l', σ') →
    σ' = σ ∧ l'.length = l.length ∧ ∀ j (h : j < l'.length), ImmR w (fun _ => True) l'[j] (ys.getD j undef) := by
  intro l
  induction l generalizing σ σ' with
  | nil =>
    intro l' ys hI hl _ hr
    simp only [seeL, SP.run, Option.some.injEq, Prod.mk.injEq] at hr
    obtain ⟨rfl, rfl⟩ := hr
    exact ⟨rfl, rfl, fun j h => by simp at h⟩
  | cons t l ih =>
    intro l' ys hI hl ht hr
    cases ys with
    | nil => simp at hl
    | cons y ys =>
      simp only [seeL] at hr
      obtain ⟨t', σ1, h1, h2⟩ := SP.run_bind_some hr
      obtain ⟨r', σ2, h3, h4⟩ := SP.run_bind_some h2
      simp only [SP.run, Option.some.injEq, Prod.mk.injEq] at h4
      obtain ⟨rfl, rfl⟩ := h4
      obtain ⟨rfl, k1⟩ := see1_ok hI (by have := ht 0 (by simp); simpa using this) h1
      obtain ⟨rfl, k2, k3⟩ := ih hI (by simpa using hl) (fun j h => by have := ht (j + 1) (by simpa using h); simpa using this) h3
      refine ⟨rfl, by simp [k2], fun j h => ?_⟩
      cases j with
      | zero => simpa using k1
      | succ j => have := k3 j (by simpa using h); simpa using this
theorem seeA_ok {t t' : TV} {x : Value} (hI : Inv M σ H xs ts w G) (hx : TmR w (G.F M.A) σ.v (extC M σ H) G t x) (hr : (seeA t).run σ = some (t', σ')) : σ' = σ ∧ Plain w t' x := by
  have one : (see1 t).run σ = some (t', σ') → σ' = σ ∧ Plain w t' x := fun h => by
    obtain ⟨e, k⟩ := see1_ok hI hx h
    exact ⟨e, k.plain⟩
  cases t with
  | agg l =>
    simp only [seeA] at hr
    obtain ⟨l', σ1, h1, h2⟩ := SP.run_bind_some hr
    simp only [SP.run, Option.some.injEq, Prod.mk.injEq] at h2
    obtain ⟨rfl, rfl⟩ := h2
    cases hx with
    | @agg _ ys hl ht =>
      obtain ⟨e, k1, k2⟩ := seeL_ok (ys := ys.toList) hI (by simpa using hl.symm) (fun j h => by have := ht j h; simpa [Array.getD_eq_getD_getElem?, List.getD_eq_getElem?_getD] using this) h1
      refine ⟨e, fun F V C G' hF => .agg (by rw [hl, k1]) fun j hj => ?_⟩
      have := k2 j hj
      have e3 : ys.getD j undef = ys.toList.getD j undef := by simp [Array.getD_eq_getD_getElem?, List.getD_eq_getElem?_getD]
      rw [e3]
      exact this.plain F V C G' hF
  | ip cs =>
    simp only [seeA, SP.run, Option.some.injEq, Prod.mk.injEq] at hr
    obtain ⟨rfl, rfl⟩ := hr
    cases hx with
    | ip u hc hr => exact ⟨rfl, fun F V C G' hF => .ip u (fun j hj => ⟨hF _, (hc j hj).2⟩) fun j hj => (hr j hj).frame (fun _ _ _ => rfl) fun k _ _ => hF k⟩
  | fn f cap =>
    cases cap with
    | nil =>
      simp only [seeA, SP.run, Option.some.injEq, Prod.mk.injEq] at hr
      obtain ⟨rfl, rfl⟩ := hr
      cases hx with
      | fn hl ht => exact ⟨rfl, fun F V C G' hF => .fn hl fun j hj => by simp at hj⟩
    | cons => simp [seeA, SP.run] at hr
  | _ => exact one hr
theorem seeAs_ok : ∀ {l : List Opd} {l' : List Operand} {ts' : List TV} {σ σ' : St}, Inv M σ [] [] a.tmps w G → l'.length = l.length → (∀ j (h : j < l.length) (h' : j < l'.length), compOpd l'[j] = some l[j]) → (seeAs l).run σ = some (ts', σ') →
    σ' = σ ∧ ts'.length = l.length ∧ ∀ j (h : j < ts'.length) (h' : j < l'.length), Plain w ts'[j] (a.eval l'[j]) := by
  intro l
  induction l with
  | nil =>
    intro l' ts' σ σ' hI hl hc hr
    simp only [seeAs, SP.run, Option.some.injEq, Prod.mk.injEq] at hr
    obtain ⟨rfl, rfl⟩ := hr
    exact ⟨rfl, rfl, fun j h => by simp at h⟩
  | cons x l ih =>
    intro l' ts' σ σ' hI hl hc hr
    cases l' with
    | nil => simp at hl
    | cons x' l' =>
      simp only [seeAs] at hr
      obtain ⟨t, σ1, h1, h2⟩ := SP.run_bind_some hr
      obtain ⟨t', σ2, h3, h4⟩ := SP.run_bind_some h2
      obtain ⟨r, σ3, h5, h6⟩ := SP.run_bind_some h4
      simp only [SP.run, Option.some.injEq, Prod.mk.injEq] at h6
      obtain ⟨rfl, rfl⟩ := h6
      obtain ⟨rfl, ht⟩ := opd_ok hI.tmr (by have := hc 0 (by simp) (by simp); simpa using this) h1
      obtain ⟨rfl, k1⟩ := seeA_ok hI ht h3
      obtain ⟨rfl, k2, k3⟩ := ih (l' := l') hI (by simpa using hl) (fun j h h' => by have := hc (j + 1) (by simpa using h) (by simpa using h'); simpa using this) h5
      refine ⟨rfl, by simp [k2], fun j h h' => ?_⟩
      cases j with
      | zero => exact k1
      | succ j => exact k3 j (by simpa using h) (by simpa using h')
theorem callB_ok {F : Callee} (hF : CalleeOk P F) {as : List Value} {vals : List TV} {fid : FuncId} (hd : ∀ d, o.dst = some d → d < M.N ∧ M.pr (2 * d + 2) = none) (hI1 : Inv M σ [] [] a.tmps w G) (hal : as.length = vals.length)
    (hvt : ∀ j (h : j < vals.length) (h' : j < as.length), Plain w vals[j] as[j]) (h2 : (callB F o.dst fid vals).run σ = some ((), σ')) (hexec : Enters P fid → (execOp a.eval o).run P w = .ok (.enter fid as.toArray) w) : SimO P M σ' a o w := by
  intro K' Q hK
  simp only [callB] at h2
  obtain ⟨r, σ1, h3, h4⟩ := SP.run_bind_some h2
  have hFr : F fid vals [] = some r ∧ σ1 = σ := by
    cases hq : F fid vals [] with
    | none => rw [hq] at h3; simp [spOpt, SP.run] at h3
    | some y =>
      rw [hq] at h3
      simp only [spOpt, SP.run, Option.some.injEq, Prod.mk.injEq] at h3
      exact ⟨by rw [h3.1], h3.2.symm⟩
  obtain ⟨hFr, rfl⟩ := hFr
  split at h4
  case isFalse => simp [SP.run] at h4
  rename_i hck
  simp only [Bool.and_eq_true, decide_eq_true_eq] at hck
  obtain ⟨res, pts'⟩ := r
  obtain rfl : pts' = [] := List.eq_nil_of_length_eq_zero hck.1.1
  obtain ⟨hent, hcal⟩ := calls_flat hF hFr hck.1.2 hal hvt
  unfold Oper.wp
  rw [hexec hent, Oper.upon_enter]
  refine hcal.mono fun e w2 ⟨he, hb⟩ => ?_
  subst he
  simp only
  have hI2 := (hI1.grow (w' := w2) (fun k hk => hb.block k hk) hb.size hb.os hb.tape hb.output).1
  refine hK (a.put o.dst (resVal res.sh (res.cells.map unV))) w2 G ?_ (put_defers _ _ _)
  cases hdst : o.dst with
  | none =>
    rw [hdst] at h4
    simp only [SP.run, Option.some.injEq, Prod.mk.injEq, true_and] at h4
    rw [← h4]
    exact hI2
  | some d =>
    rw [hdst] at h4
    simp only [wr, SP.run, Option.some.injEq, Prod.mk.injEq, true_and] at h4
    rw [← h4]
    refine hI2.wrT (hd d hdst).1 (shapeT_ok hck.2 (by simp) fun j hj => ?_)
    have hvj := List.all_eq_true.1 hck.1.2 res.cells[j] (List.getElem_mem hj)
    have e1 : (res.cells.map unV).getD j undef = unV res.cells[j] := by simp [List.getD_eq_getElem?_getD, hj]
    rw [e1]
    cases hc : res.cells[j] with
    | v x => rw [hc] at hvj; exact .v hvj
    | _ => rw [hc] at hvj; simp [isFV] at hvj
end
end Go.Proofs.Ytkmbahlpmoljpaa
/- Calls are carried out; no condition. -/
set_option linter.unusedVariables false
set_option linter.unusedSimpArgs false
namespace Go.Proofs.Ytkmbahlpmoljpaa
open Go.RowKit

section
variable {P : Program} {M : Fm} {σ σ' : St} {H : List TV} {xs : List Value} {ts : Array Value} {w : World} {G : Gh} {a : Act} {o : Oper}

theorem putBack_len : ∀ {q : List (GP × List TV)} {σ σ' : St}, (putBack q).run σ = some ((), σ') → ∀ x ∈ q, x.2.length = x.1.cells.length := by
  intro q
  induction q with
  | nil => intro σ σ' _ x hx; simp at hx
  | cons y q ih =>
    intro σ σ' h x hx
    obtain ⟨g, l⟩ := y
    simp only [putBack] at h
    obtain ⟨_, σ1, h1, h2⟩ := SP.run_bind_some h
    split at h2
    · rename_i hck
      simp only [Bool.and_eq_true, decide_eq_true_eq] at hck
      rcases List.mem_cons.1 hx with rfl | hx
      · exact hck.1
      · exact ih h1 x hx
    · simp [SP.run] at h2
theorem GRel.nodup {i : Nat} {vals : List TV} {as us : List Value} {K : List (GP × Addr)} (h : GRel w i vals as K us) : nodupN (K.map fun x => x.1.i) = true ∧ ∀ x ∈ K, i ≤ x.1.i := by
  induction h with
  | nil => exact ⟨rfl, fun x hx => by simp at hx⟩
  | ptr hr hs hu hc hok h ih =>
    refine ⟨?_, fun x hx => ?_⟩
    · simp only [List.map_cons, nodupN, Bool.and_eq_true, Bool.not_eq_true', List.contains_eq_mem, decide_eq_false_iff_not]
      refine ⟨fun hm => ?_, ih.1⟩
      obtain ⟨y, hy, e⟩ := List.mem_map.1 hm
      have := ih.2 y hy
      omega
    · rcases List.mem_cons.1 hx with rfl | hx
      · exact Nat.le_refl _
      · have := ih.2 x hx; omega
  | arg ha h ih => exact ⟨ih.1, fun x hx => by have := ih.2 x hx; omega⟩
  | own h ih => exact ⟨ih.1, fun x hx => by have := ih.2 x hx; omega⟩
theorem prK_mem {K : List (GP × Addr)} (hnd : nodupN (K.map fun x => x.1.i) = true) : ∀ x ∈ K, prK K (2 * x.1.i + 2) = some (x.2.block, x.2.off, x.1.cells.length) := by
  induction K with
  | nil => intro x hx; simp at hx
  | cons y K ih =>
    intro x hx
    obtain ⟨g, ad⟩ := y
    simp only [List.map_cons, nodupN, Bool.and_eq_true, Bool.not_eq_true', List.contains_eq_mem, decide_eq_false_iff_not] at hnd
    simp only [prK]
    rcases List.mem_cons.1 hx with rfl | hx
    · simp
    · rw [if_neg]
      · exact ih hnd.2 x hx
      · intro e
        exact hnd.1 (List.mem_map.2 ⟨x, hx, by omega⟩)
theorem flat_len {α β : Type} {K : List (GP × Addr)} {f : GP × Addr → List α} {g : GP × Addr → List β} (h : ∀ x ∈ K, (f x).length = (g x).length) : (K.flatMap f).length = (K.flatMap g).length := by
  induction K with
  | nil => rfl
  | cons x K ih => simp only [List.flatMap_cons, List.length_append]; rw [h x (by simp), ih fun y hy => h y (by simp [hy])]

theorem zip_app_left {α β : Type} : ∀ {a : List α} {b c : List β}, a.length ≤ b.length → a.zip (b ++ c) = a.zip b := by
  intro a
  induction a with
  | nil => intro b c _; simp
  | cons x a ih =>
    intro b c h
    cases b with
    | nil => simp at h
    | cons y b => simp only [List.cons_append, List.zip_cons_cons]; rw [ih (by simpa using h)]
/-- Back from a function: its variables' cells. -/
def backC (σ : St) (x : GP × Addr) : List TV := (aget σ.ce (2 * x.1.i + 2)).getD []
def backV (σ : St) (G : Gh) (w : World) (x : GP × Addr) : List Value := (List.range (backC σ x).length).map (G.val w (2 * x.1.i + 2))

theorem GRel.hands2 {vals : List TV} {as us : List Value} {K : List (GP × Addr)} {N : Nat} {σ2 : St} {res ys : _} {ts2 : Array Value} {w2 : World} {G2 : Gh} (h : GRel w 0 vals as K us) (hpos : ∀ x ∈ K, 0 < x.1.cells.length)
    (h2 : Inv (M.into w G (prK K) N) σ2 res ys ts2 w2 G2) (hlen : ∀ x ∈ K, (backC σ2 x).length = x.1.cells.length) :
    Hands2 res ys (res ++ K.flatMap (backC σ2)) (ys ++ K.flatMap (backV σ2 G2 w2)) (extC (M.into w G (prK K) N) σ2 res) G2 w2 (prK K) (fun r => res.length + bsK K r) := by
  have hlv : ∀ x ∈ K, (backV σ2 G2 w2 x).length = x.1.cells.length := fun x hx => by simp [backV, hlen x hx]
  refine ⟨?_, fun j hj => ⟨by simp; omega, List.getElem_append_left hj, ?_⟩, fun r b o n hp t ht => ?_, fun j hj => ?_, fun r b o n r' b' o' n' hp hp' j j' hj hj' e => apartK _ _ _ _ _ _ _ _ hp hp' j j' hj hj' (by omega)⟩
  · rw [List.length_append, List.length_append, h2.hand, flat_len (f := backC σ2) (g := backV σ2 G2 w2) fun x hx => by rw [hlen x hx, hlv x hx]]
  · rw [List.getD_eq_getElem?_getD, List.getD_eq_getElem?_getD, List.getElem?_append_left (by rw [← h2.hand]; exact hj)]
  · obtain ⟨x, x1, x2, x3, x4, x5, x6, x7⟩ := flatK_get hlen hp
    obtain ⟨y, y1, y2, y3, y4, y5, y6, y7⟩ := flatK_get hlv hp
    have hxy : x = y := nodupN_inj h.nodup.1 x1 y1 (by omega)
    subst hxy
    have htl : t < (backC σ2 x).length := by rw [hlen x x1]; omega
    have e1 := x7 t ht
    rw [List.getElem?_eq_getElem htl] at e1
    obtain ⟨k1, k2⟩ := List.getElem?_eq_some_iff.1 e1
    refine ⟨by rw [List.length_append]; omega, by omega, ?_, ?_⟩
    · have e2 : (res ++ K.flatMap (backC σ2))[res.length + bsK K r + t]'(by rw [List.length_append]; omega) = (K.flatMap (backC σ2))[bsK K r + t] := by
        rw [List.getElem_append_right (by omega)]
        congr 1
        omega
      rw [e2, k2]
      rw [extC_ne (by have : r ≠ 1 := by omega
                      exact this)]
      unfold St.c
      have hb : backC σ2 x = (aget σ2.ce r).getD [] := by rw [x2]; rfl
      cases ha : aget σ2.ce r with
      | none => rw [hb, ha] at htl; simp at htl
      | some l =>
        simp only [hb, ha, Option.getD_some] at htl ⊢
        simp [htl]
    · have e3 := y7 t ht
      rw [List.getD_eq_getElem?_getD, List.getElem?_append_right (by rw [← h2.hand]; omega)]
      rw [show res.length + bsK K r + t - ys.length = bsK K r + t by rw [← h2.hand]; omega]
      rw [e3, x2]
      simp [backV, htl]
  · by_cases hj1 : j < res.length
    · exact .inl hj1
    · right
      have hc : (K.flatMap (backC σ2)).length = (cellsK K).length := flat_len hlen
      obtain ⟨r, b, o, n, t, c1, c2, c3⟩ := coverK h.nodup.1 (j := j - res.length) (by rw [List.length_append] at hj; omega)
      exact ⟨r, b, o, n, t, c1, c2, by omega⟩

/-- A function is entered with its arguments, and what it hands back is put where it belongs. -/
theorem callV_ok {F : Callee} (hF : CalleeOk P F) {as : List Value} {vals : List TV} {ns : List (Option Nat)} {fid : FuncId} {σ1 : St} {G1 : Gh} (hd : ∀ d, o.dst = some d → d < M.N ∧ M.pr (2 * d + 2) = none) (hI1 : Inv M σ1 [] [] a.tmps w G1) (hns : ns.length = vals.length) (hal : as.length = vals.length)
    (hvt : ∀ j (h : j < vals.length) (h' : j < as.length), TmR w (G1.F M.A) σ1.v (extC M σ1 []) G1 vals[j] as[j]) (h2 : (callV F o.dst fid ns vals).run σ1 = some ((), σ')) (hexec : Enters P fid → (execOp a.eval o).run P w = .ok (.enter fid as.toArray) w) : SimO P M σ' a o w := by
  intro K' Q hK
  unfold callV at h2
  obtain ⟨ow, σ0, h3o, h2⟩ := SP.run_bind_some h2
  obtain ⟨q, σ2, h3, h4⟩ := SP.run_bind_some h2
  have hzl : (ns.zip vals).length = vals.length := by simp [hns]
  have hz2 : (ns.zip vals).map (·.2) = vals := by
    rw [List.map_snd_zip]
    omega
  have hzt : ∀ {σ1 : St} {H1 : List TV} {G1 : Gh}, (∀ j (h : j < vals.length) (h' : j < as.length), TmR w (G1.F M.A) σ1.v (extC M σ1 H1) G1 vals[j] as[j]) → ∀ j (h : j < (ns.zip vals).length) (h' : j < as.length), TmR w (G1.F M.A) σ1.v (extC M σ1 H1) G1 (ns.zip vals)[j].2 as[j] := fun h j h1 h2 => by
    have hj : j < vals.length := by rw [← hzl]; exact h1
    have := h j hj h2
    simpa using this
  obtain ⟨zs, G0, hg0, hor, hocov⟩ := takeOwns_ok hI1 (by omega) (hzt hvt) h3o
  obtain ⟨us, G2, K, hg2', hKq, hrel⟩ := grabs_ok (as := as) hg0.1 (by omega) (hzt fun j h h' => hg0.tm (hvt j h h')) h3
  have hpk := grabs_pk h3
  have hg2 := hg0.trans hg2'
  rw [hz2] at hrel
  obtain ⟨_, σ3, h5, h6⟩ := SP.run_bind_some h4
  have hHand : ([] : List TV) ++ ow.map (·.2) ++ q.flatMap (·.cells) = ow.map (·.2) ++ cellsK K := by rw [← hKq]; simp [cellsK, List.flatMap_map]
  rw [hHand, List.nil_append] at hg2
  have hz : zs.length = ow.length := hor.facts.1
  have hpk2 : ∀ j p vs, vals[j]? = some (.pk p vs) → ∃ x ∈ ow, x.1 = j := fun j p vs hj => by
    obtain ⟨hjl, hje⟩ := List.getElem?_eq_some_iff.1 hj
    have hjn : j < ns.length := by omega
    have hzj : (ns.zip vals)[j]? = some (ns[j], .pk p vs) := by
      rw [List.getElem?_eq_getElem (by omega)]
      simp [hje]
    have hn := hpk j _ p vs hzj
    rw [hn] at hzj
    obtain ⟨x, h7, h8⟩ := hocov j p vs hzj
    exact ⟨x, h7, by omega⟩
  obtain ⟨rfl, hre⟩ := rechk_ok hg2.1 h5
  split at h6
  case isFalse => simp [SP.run] at h6
  rename_i hck
  simp only [Bool.and_eq_true, List.all_eq_true, decide_eq_true_eq] at hck
  obtain ⟨hnd, hpos⟩ := hck
  have hposK : ∀ x ∈ K, 0 < x.1.cells.length := fun x hx => hpos x.1 (by rw [← hKq]; exact List.mem_map_of_mem hx)
  have hvals : ∀ j (h : j < vals.length) (h' : j < as.length), TmR w (G2.F M.A) σ3.v (extC M σ3 (ow.map (·.2) ++ cellsK K)) G2 vals[j] as[j] := fun j h h' => by
    have := hg2.tm (hvt j h (by omega))
    simpa using this
  have hfact : ∀ x ∈ K, x.1.p.root ≠ 1 ∧ G2.addr w x.1.p = some x.2 ∧ (∃ t, getT (extC M σ3 (ow.map (·.2) ++ cellsK K) x.1.p.root x.1.p.off) x.1.p.hops = some t) ∧ ((∃ o n, G2.β x.1.p.root = some (x.2.block, o, n)) ∨ G2.φ x.1.p.root x.1.p.off x.2.block) := fun x hx => by
    obtain ⟨_, p, vs, s1, rfl, rfl, s2, s3⟩ := hrel.slot x hx
    simp only [Nat.sub_zero] at s1 s2
    obtain ⟨k1, k2⟩ := List.getElem?_eq_some_iff.1 s1
    obtain ⟨k3, k4⟩ := List.getElem?_eq_some_iff.1 s2
    have htm := hvals _ k1 k3
    rw [k2, k4] at htm
    obtain ⟨r1, ad, r2, r3, _, r4, r5⟩ := hre x.1 (by rw [← hKq]; exact List.mem_map_of_mem hx) _ htm
    injection r2 with r2
    injection r2 with r2
    subst r2
    exact ⟨r1, r3, r4, r5⟩
  have hh := hrel.hands hg2.1 hor (by rw [hKq]; exact hnd) hposK fun x hx => ⟨(hfact x hx).1, (hfact x hx).2.2.2⟩
  obtain ⟨r, σ4, h7, h8⟩ := SP.run_bind_some h6
  have hFr : F fid (argTs 0 vals) (q.map (fun g => (2 * g.i + 2, g.cells)) ++ ow.map fun x => (2 * x.1 + 3, [x.2])) = some r ∧ σ4 = σ3 := by
    cases hq : F fid (argTs 0 vals) (q.map (fun g => (2 * g.i + 2, g.cells)) ++ ow.map fun x => (2 * x.1 + 3, [x.2])) with
    | none => rw [hq] at h7; simp [spOpt, SP.run] at h7
    | some r' =>
      rw [hq] at h7
      simp only [spOpt, SP.run, Option.some.injEq, Prod.mk.injEq] at h7
      exact ⟨by rw [h7.1], h7.2.symm⟩
  obtain ⟨hFr, rfl⟩ := hFr
  obtain ⟨res, pts'⟩ := r
  simp only at h8
  split at h8
  case isFalse => simp [SP.run] at h8
  rename_i hck2
  simp only [Bool.and_eq_true, decide_eq_true_eq] at hck2
  obtain ⟨_, σ5, h9, h10⟩ := SP.run_bind_some h8
  obtain ⟨hent, N, hN, hcal⟩ := hF fid _ _ _ _ hFr
  rw [argTs_len] at hN
  have hpts : (q.map (fun g => (2 * g.i + 2, g.cells)) ++ ow.map fun x => (2 * x.1 + 3, [x.2])) = ceK K ++ ceO ow := by rw [← hKq]; simp [ceK, ceO]
  have hin := hrel.enter hg2.1 hor hpk2 hh hvals (N := N) (by omega)
  have hcalls := hcal (M.into w G2 (prK K) N) as w (G2.into (prK K) (fun r => ow.length + bsK K r) (owK ow) (zs ++ us)) (by rw [argTs_len]; exact hal) rfl rfl (fun r hr => by
    have hr : prK K r ≠ none := hr
    cases hp : prK K r with
    | none => exact absurd hp hr
    | some y =>
      obtain ⟨b, o, n⟩ := y
      obtain ⟨x, x1, x2, _⟩ := prK_some hp
      obtain ⟨_, p, vs, s1, _⟩ := hrel.slot x x1
      refine ⟨x.1.i, ⟨2 * x.1.i + 2, 0, []⟩, [0], ?_, x2⟩
      rw [argTs_get]
      have s1 : vals[x.1.i]? = some (.ptr p vs) := s1
      rw [s1]
      simp [argT]) (by rw [hpts]; exact hin)
  have hrun := hexec hent
  unfold Oper.wp
  rw [hrun, Oper.upon_enter]
  refine hcalls.mono fun e w2 ⟨ys, ts2, σc, Gc, he, hIc, hokc, hpts'⟩ => ?_
  subst he
  simp only
  -- back
  have hzip : q.zip (pts'.map (·.2)) = K.map fun x => (x.1, backC σc x) := by
    rw [hpts', hpts, ← hKq]
    simp only [ceK, List.map_append, List.map_map]
    rw [zip_app_left (by simp), List.zip_map']
    rfl
  rw [hzip] at h9
  have hlenK : ∀ x ∈ K, (backC σc x).length = x.1.cells.length := fun x hx => putBack_len h9 _ (List.mem_map.2 ⟨x, hx, rfl⟩)
  have hH2 := hrel.hands2 (M := M) (G := G2) (N := N) hposK hIc hlenK
  have hmem := prK_mem hrel.nodup.1
  have hlt : ∀ x ∈ K, x.2.block < w.heap.size := fun x hx => by
    obtain ⟨cur, e, fz, hb, _⟩ := cell_block (hh.here _ _ _ _ (hmem x hx) 0 (hposK x hx)).1
    exact (Array.getElem?_eq_some_iff.1 hb).1
  have hsz : w.heap.size ≤ w2.heap.size := hIc.fram.size
  obtain ⟨G3, hI3, hm3, _⟩ := hg2.1.leave hh hIc hH2 (w' := RWs w K w2) RWs_size RWs_rest.1 RWs_rest.2.1 RWs_rest.2.2 (fun k hk => RWs_ne fun x hx => hk _ _ _ _ (hmem x hx)) (fun r b o n hp => by
    obtain ⟨x, x1, x2, x3, _⟩ := prK_some hp
    rw [x3]
    exact RWs_eq (hlt x x1) (Nat.lt_of_lt_of_le (hlt x x1) hsz) ⟨x, x1, rfl⟩)
  have hinj : ∀ x ∈ K, ∀ y ∈ K, x.2.block = y.2.block → x = y := fun x hx y hy e => by
    have h1 := hmem x hx
    have h2 := hmem y hy
    rw [← e] at h2
    have := hh.inj _ _ _ _ _ _ _ h1 h2
    exact nodupN_inj hrel.nodup.1 hx hy (by omega)
  obtain ⟨G4, hI4, htm4, hm4⟩ := putBack_ok (w := w) (f := backC σc) (v := backV σc Gc w2) (fun x => by simp [backV]) (K := K) (W := w2) hIc.hand hI3 (fun x hx => by
      have hp := hmem x hx
      obtain ⟨hβ, cur0, cur, e, fz, p1, p2, p3, p4⟩ := hIc.fram.par _ _ _ _ hp
      have hvl2 : (backV σc Gc w2 x).length = x.1.cells.length := by simp [backV, hlenK x hx]
      refine ⟨cur0, cur, e, fz, p1, p2, p3, fun j hj => p4 j (by rw [hvl2] at hj; exact hj), fun j hj => ?_⟩
      have hcb := hIc.core.boxcell hβ (o := j) (by omega)
      obtain ⟨cur', e', fz', c1, c2, c3⟩ := cell_block hcb
      rw [p2] at c1
      injection c1 with c1
      injection c1 with c1 _ _
      subst c1
      rw [c3]
      simp [backV]) (fun x hx e => by have h1 := hlenK x hx; have h2 := hposK x hx; rw [e, List.length_nil] at h1; omega) hinj (by rw [← hKq] at hnd; simpa [Function.comp_def] using hnd) (fun x hx => by
      obtain ⟨r1, r2, ⟨t, r3⟩, _⟩ := hfact x hx
      obtain ⟨t', k1, k2⟩ := hm3.keeps.ptr x.1.p x.2 t r1 rfl r2 r3
      exact ⟨r1, k1, t', k2⟩) h9
  obtain ⟨G5, hI5⟩ := land_ok hI4 hokc hck2.2 (dst := o.dst) (fun d hd' => (hd d hd').1) h10
  refine hK (a.put o.dst (resVal res.sh ys)) w2 G5 ?_ (put_defers _ _ _)
  cases hdst : o.dst with
  | none => rw [hdst] at hI5; exact hI5
  | some d => rw [hdst] at hI5; exact hI5

theorem run_enter_value {fid : FuncId} {args' : Array Operand} {caps : Array Value} {fo : Operand} {atys : Array TypeId} (ho : o.op = .call ⟨.value fo, args', atys⟩) (hv : a.eval fo = .func (.func fid) #[] caps) (hent : Enters P fid) :
    (execOp a.eval o).run P w = .ok (.enter fid (args'.map a.eval ++ caps)) w := by
  unfold execOp
  rw [ho]
  simp only [resolve, Sem.run_bind]
  rw [hv]
  simp only [Deferred.ofValue, Sem.run_pure, Result.andThen_ok, invoke]
  have := hent (args'.map a.eval ++ caps) w
  simpa using this

theorem evBox_ok {E : Env} (hB : BoxOk P E) {as : List Value} {vals : List TV} {fid : FuncId} {n : Nat} {tm : List BxC} (hbx : E.box fid = some (n, tm)) (hn : vals.length = n) {σ1 : St} {G1 : Gh} (hd : ∀ d, o.dst = some d → d < M.N ∧ M.pr (2 * d + 2) = none) (hI1 : Inv M σ1 [] [] a.tmps w G1) (hal : as.length = vals.length)
    (hvt : ∀ j (h : j < vals.length) (h' : j < as.length), TmR w (G1.F M.A) σ1.v (extC M σ1 []) G1 vals[j] as[j]) (h2 : (evBox o.dst tm vals).run σ1 = some ((), σ')) (hexec : Enters P fid → (execOp a.eval o).run P w = .ok (.enter fid as.toArray) w) : SimO P M σ' a o w := by
  intro K' Q hK
  obtain ⟨hent, hfl, ty, hcal⟩ := hB fid n tm hbx
  cases hdst : o.dst with
  | none => rw [hdst] at h2; simp [evBox, SP.run] at h2
  | some d =>
    rw [hdst] at h2
    obtain ⟨hdN, hpr⟩ := hd d hdst
    simp only [evBox] at h2
    obtain ⟨l, σ2, h3, h4⟩ := SP.run_bind_some h2
    obtain ⟨hll, hone, G2, hg2⟩ := takeL_ok (ys := tm.map (bxV as)) hI1 (by simp) (fun j h => by
      have hj : j < tm.length := by simpa using h
      simp only [List.getElem_map, List.getD_eq_getElem?_getD, List.getElem?_map, List.getElem?_eq_getElem hj, Option.map_some, Option.getD_some]
      cases hb : tm[j] with
      | val x => exact .v (hfl x (by rw [← hb]; exact List.getElem_mem hj))
      | arg i =>
        simp only [bxT, bxV]
        by_cases hi : i < vals.length
        · have := hvt i hi (by omega)
          simpa [hi, show i < as.length by omega] using this
        · have : vals.getD i .dead = .dead := by simp [List.getD_eq_getElem?_getD, List.getElem?_eq_none (by omega : vals.length ≤ i)]
          rw [this]; exact .dead) h3
    simp only [List.nil_append] at hg2
    obtain ⟨G3, hI3, _, hβ⟩ := hg2.1.newBox (2 * d + 2) ty (by omega) hpr (by omega)
    have hr' : (wr d (.ptr ⟨2 * d + 2, 0, []⟩ [(σ2.root (2 * d + 2) l).v (2 * d + 2, 0, 0)])).run (σ2.root (2 * d + 2) l) = some ((), σ') := h4
    simp only [wr, SP.run, Option.some.injEq, Prod.mk.injEq, true_and] at hr'
    subst hr'
    unfold Oper.wp
    rw [hexec hent, Oper.upon_enter]
    refine (hcal as w (by omega) hone).mono fun e w2 ⟨he, hw⟩ => ?_
    subst he
    subst hw
    simp only
    refine hK (a.put o.dst (.pointer (some ⟨w.heap.size, 0, none⟩))) _ G3 ?_ (put_defers _ _ _)
    rw [hdst]
    refine hI3.wrT hdN (.ptr (σ2.root (2 * d + 2) l).v (fun _ => Nat.le_refl _) (by simp [vers]) fun _ => ⟨by show (2 * d + 2 : Nat) ≠ 1; omega, ⟨w.heap.size, 0, none⟩, _, ?_, rfl, rfl⟩)
    unfold Gh.addr
    simp only [hβ]

theorem sim_call {E : Env} {F : Callee} (hB : BoxOk P E) (hF : CalleeOk P F) : CallOk P M isCallOp (evCall E F) := by
  intro o t σ σ' a w G hc hd hI hr
  rcases hc with rfl | hc
  · simp [evop, evCall, badOp, SP.run] at hr
  cases ho : o.op with
  | call c =>
    rw [ho] at hc
    obtain ⟨callee, args, atys⟩ := c
    cases callee with
    | value fo =>
      cases t with
      | call k f' args' =>
        simp only [isCall1] at hc
        obtain ⟨hf, hlen, hargs⟩ := hc
        simp only [evop] at hr
        cases f' with
        | f fid =>
          have hfo : fo = .func fid := by cases fo <;> simp [compOpd] at hf; rw [hf]
          have hex : ∀ fid, fo = .func fid → Enters P fid → (execOp a.eval o).run P w = .ok (.enter fid (args.toList.map a.eval).toArray) w := fun fid hfo hent => by
            have := run_enter_value (a := a) (w := w) ho (by rw [hfo]; rfl : a.eval fo = .func (.func fid) #[] #[]) hent
            have ea : (args.toList.map a.eval).toArray = args.map a.eval := by apply Array.ext'; rw [Array.toList_map]
            rw [ea]; simpa using this
          have hex := hex fid hfo
          simp only [evCall] at hr
          cases k with
          | false =>
            simp only [Bool.false_eq_true, if_false] at hr
            obtain ⟨vals, σ1, h1, h2⟩ := SP.run_bind_some hr
            obtain ⟨rfl, hvl, hvt⟩ := seeAs_ok (l' := args.toList) hI (by simp [hlen]) (fun j h h' => by have := hargs j (by simpa using h) (by simpa using h'); simpa using this) h1
            have hvl' : vals.length = args'.length := by rw [hvl]; simp
            exact callB_ok hF hd hI (by simp; omega) (fun j h h' => by have := hvt j h (by simpa using h'); simpa using this) h2 hex
          | true =>
          simp only [if_true] at hr
          obtain ⟨vals, σ1, h1, h2⟩ := SP.run_bind_some hr
          obtain ⟨G1, hg1, hvl, hvt⟩ := argVs_ok (l' := args.toList) hI (by simp [hlen]) (fun j h h' => by have := hargs j (by simpa using h) (by simpa using h'); simpa using this) h1
          have hvl' : vals.length = args'.length := hvl
          split at h2
          · rename_i x hbx
            split at h2
            case isFalse => simp [SP.run] at h2
            rename_i hn
            exact evBox_ok hB hbx hn hd hg1.1 (by simp; omega) (fun j h h' => by have := hvt j h (by simpa using h'); simpa using this) h2 hex
          · exact callV_ok hF hd hg1.1 (by simp; omega) (by simp; omega) (fun j h h' => by have := hvt j h (by simpa using h'); simpa using this) h2 hex
        | t i =>
          simp only [evCall, SP.run] at hr
          split at hr
          case h_2 => simp [SP.run] at hr
          rename_i fid caps htv
          obtain ⟨vals, σ1, h1, h2⟩ := SP.run_bind_some hr
          obtain ⟨G1, hg1, hvl, hvt⟩ := argVs_ok (l' := args.toList) hI (by simp [hlen]) (fun j h h' => by have := hargs j (by simpa using h) (by simpa using h'); simpa using this) h1
          have hvl' : vals.length = args'.length := hvl
          have hfo : fo = .tmp i := by cases fo <;> simp [compOpd] at hf; rw [hf]
          have htm := hI.tmr i
          rw [htv] at htm
          have hev : a.eval fo = a.tmps.getD i undef := by rw [hfo]; rfl
          generalize hz : a.tmps.getD i undef = z at htm hev
          cases htm with
          | @fn _ _ xs hcl hct =>
            have hex : Enters P fid → (execOp a.eval o).run P w = .ok (.enter fid (args.toList.map a.eval ++ xs.toList).toArray) w := fun hent => by
              have := run_enter_value (a := a) (w := w) ho hev hent
              have ea : (args.toList.map a.eval ++ xs.toList).toArray = args.map a.eval ++ xs := by apply Array.ext'; simp
              rw [ea]; exact this
            have hcl' : xs.toList.length = caps.length := by simpa using hcl
            exact callV_ok hF hd hg1.1 (by simp [capNs]; omega) (by simp; omega) (fun j h h' => by
              by_cases hj : j < vals.length
              · have := hvt j hj (by simp; omega)
                simpa [List.getElem_append_left, hj, List.getElem_append, show j < args.size by omega] using this
              · have hj2 : j - vals.length < caps.length := by simp at h; omega
                have := hg1.tm (hct (j - vals.length) hj2)
                have hj3 : ¬ j < args.size := by omega
                have e1 : args.size = vals.length := by omega
                simp only [List.getElem_append, hj, dite_false, List.length_map, Array.length_toList, hj3, Array.getElem_toList]
                simp only [e1]
                have e2 : xs.getD (j - vals.length) undef = xs[j - vals.length] := by simp [Array.getD_eq_getD_getElem?, show j - vals.length < xs.size by omega]
                rw [← e2]
                exact this) h2 hex
        | _ => simp [evCall, SP.run] at hr
      | _ => simp [isCall1] at hc
    | _ => cases t <;> simp [isCall1] at hc
  | _ => rw [ho] at hc; cases t <;> simp [isCall1] at hc
end
end Go.Proofs.Ytkmbahlpmoljpaa
/- Functions on trees, and what they are in the program; no condition. -/
set_option linter.unusedVariables false
set_option linter.unusedSimpArgs false
namespace Go.Proofs.Ytkmbahlpmoljpaa
open Go.RowKit

/-- Pointers stand only where they may. -/
def ptrsIn (pp : List Nat) : Nat → List TV → Bool
  | _, [] => true
  | i, .ptr _ _ :: r => pp.contains i && ptrsIn pp (i + 1) r
  | i, _ :: r => ptrsIn pp (i + 1) r
theorem ptrsIn_ok {pp : List Nat} : ∀ {l : List TV} {i : Nat}, ptrsIn pp i l = true → ∀ j p vs, l[j]? = some (.ptr p vs) → i + j ∈ pp := by
  intro l
  induction l with
  | nil => intro i _ j p vs h; simp at h
  | cons t l ih =>
    intro i h j p vs hj
    have hr : ptrsIn pp (i + 1) l = true := by
      cases t <;> simp only [ptrsIn, Bool.and_eq_true] at h <;> first | exact h | exact h.2
    cases j with
    | zero =>
      have : t = .ptr p vs := by simpa using hj
      subst this
      simp only [ptrsIn, Bool.and_eq_true, List.contains_eq_mem, decide_eq_true_eq] at h
      exact h.1
    | succ j =>
      have := ih hr j p vs (by simpa using hj)
      rw [show i + (j + 1) = i + 1 + j by omega]
      exact this
/-- One function's run on trees. -/
def runT (E : Env) (F : Callee) (n : Nat) (tf : TFn) (vals : List TV) (pts : Pts) : Option (TRes × Pts) :=
  if vals.length = tf.np ∧ ptrsIn tf.pp 0 vals = true then
      (runC (evCall E F) n tf.body (mkSt vals pts)).bind fun x => match x.1 with
        | .exit _ => none
        | _ => ((resL tf.np tf.res).run x.2).bind fun y => some (⟨y.1.1, y.1.2⟩, pts.map fun x => (x.1, (aget y.2.ce x.1).getD []))
  else none
def stepF (E : Env) (T : FuncId → Option TFn) (B F : Callee) (n : Nat) : Callee := fun f vals pts =>
  match T f with
  | none => B f vals pts
  | some tf => runT E F n tf vals pts
/-- The functions of a table, so deep. -/
def runF (E : Env) (T : FuncId → Option TFn) (B : Callee) : Nat → Callee
  | 0 => fun _ _ _ => none
  | n + 1 => stepF E T B (runF E T B n) n

/-- The program's functions are those of the table. -/
def TabOk (P : Program) (T : FuncId → Option TFn) : Prop :=
  ∀ f tf, T f = some tf → ∃ fn c, P.funcs[f]? = some fn ∧ (fn.name == "runtime.NumGoroutine") = false ∧ fn.body = some c ∧ fn.ntmps = tf.nt ∧ tf.np ≤ tf.nt ∧
    (∀ M : Fm, M.N = tf.nt → (∀ r, M.pr r ≠ none → ∃ i ∈ tf.pp, r = 2 * i + 2) → CodeOk P M isCallOp tf.body c) ∧ tf.res.length = fn.results.size ∧ ∀ k (h : k < tf.res.length) (h' : k < fn.results.size), ResOk P tf.res[k] fn.results[k]

section
variable {P : Program} {E : Env} {T : FuncId → Option TFn} {B F : Callee}

theorem stepF_ok (hT : TabOk P T) (hE : BoxOk P E) (hB : CalleeOk P B) (hF : CalleeOk P F) (n : Nat) : CalleeOk P (stepF E T B F n) := by
  intro f vals pts res pts' h
  unfold stepF at h
  cases ht : T f with
  | none => rw [ht] at h; exact hB f vals pts res pts' h
  | some tf =>
    rw [ht] at h
    simp only [runT] at h
    split at h
    case isFalse => simp at h
    rename_i hnp
    obtain ⟨hnp, hpp⟩ := hnp
    obtain ⟨⟨e, σ1⟩, h1, h2⟩ := obind h
    obtain ⟨fn, c, hf, hname, hb, hnt, hle, hcode, hrl, hres⟩ := hT f tf ht
    refine ⟨enters_of hf hname hb, tf.nt, by omega, fun M as w G hal hN hw0 hpr hI => ?_⟩
    refine calls_of_wp hf hb ?_
    have hN2 : fn.ntmps - as.toArray.size = tf.nt - as.length := by rw [hnt]; simp
    rw [hN2]
    refine sim_code (sim_call hE hF) n tf.body c _ e σ1 ⟨as.toArray ++ Array.replicate (tf.nt - as.length) undef, []⟩ w G _ (hcode M hN (fun r hr => by obtain ⟨i, p, vs, h3, h4⟩ := hpr r hr; exact ⟨i, by simpa using ptrsIn_ok hpp i p vs h3, h4⟩)) h1 hI fun a' w' G' hI' hd => ?_
    simp only at hd
    have key : ∀ y, (resL tf.np tf.res).run σ1 = some y → some ((⟨y.1.1, y.1.2⟩ : TRes), pts.map fun x => (x.1, (aget y.2.ce x.1).getD [])) = some (res, pts') → a'.defers = [] ∧ ∃ v, (results fn a'.tmps).run P w' = .ok v w' ∧
        ∃ ys ts2 σ2 G2, Ending.returned v = .returned (resVal res.sh ys) ∧ Inv M σ2 res.cells ys ts2 w' G2 ∧ (∀ j (h : j < res.cells.length), okCell res.cells[j] = true ∨ isOw res.cells[j] = true) ∧ pts' = pts.map fun x => (x.1, (aget σ2.ce x.1).getD []) := by
      rintro ⟨r, σ2⟩ hr he
      obtain ⟨vs, ys, G2, hrun, hg, hl, hok, hrv⟩ := resL_ok (qs' := fn.results.toList) hI' (by simpa using hrl) (fun k h h' => by have := hres k h (by simpa using h'); simpa using this) hr
      injection he with he
      injection he with he1 he2
      subst he1; subst he2
      refine ⟨hd, resVal r.2 ys, ?_, ys, a'.tmps, σ2, G2, rfl, by simpa using hg.1, hok, rfl⟩
      unfold results
      rw [Array.mapM_eq_mapM_toList]
      simp only [Sem.run_bind, Sem.run_map]
      erw [hrun]
      unfold resVal
      rw [hrv]
      cases vs with
      | nil => rfl
      | cons v vs =>
        cases vs with
        | nil => rfl
        | cons v2 vs => rfl
    cases e with
    | exit i => simp at h2
    | normal =>
      simp only at h2
      obtain ⟨y, h3, h4⟩ := obind h2
      exact key y h3 h4
    | ret =>
      simp only at h2
      obtain ⟨y, h3, h4⟩ := obind h2
      exact key y h3 h4

theorem runF_ok (hT : TabOk P T) (hE : BoxOk P E) (hB : CalleeOk P B) : ∀ n, CalleeOk P (runF E T B n) := by
  intro n
  induction n with
  | zero => intro f vals pts res pts' h; simp [runF] at h
  | succ n ih => exact stepF_ok hT hE hB ih n
end
end Go.Proofs.Ytkmbahlpmoljpaa
/- The program's functions turned into functions on trees; no condition. -/
set_option linter.unusedVariables false
set_option linter.unusedSimpArgs false
namespace Go.Proofs.Ytkmbahlpmoljpaa
open Go.RowKit

def compArgs (P : Program) (own : Nat → Bool) : Nat → List TypeId → List Operand → Option (List (Option Nat × Opd))
  | _, _, [] => some []
  | i, ts, x :: xs =>
    match compOpd x, compArgs P own (i + 1) ts.tail xs with
    | some y, some l =>
      match ts with
      | t :: _ => match P.underlying t with
        | some (.pointer e) => match szOf P e with
          | some n => some ((some n, y) :: l)
          | none => none
        | some (.slice _) => some ((if own i then some 0 else none, y) :: l)
        | _ => some ((none, y) :: l)
      | [] => some ((none, y) :: l)
    | _, _ => none
/-- A function that hands back flat cells and takes no pointers: it need only look at what is handed over. -/
def flatTy (P : Program) (t : TypeId) : Bool := match P.underlying t with
  | some (.int _) => true
  | some .bool => true
  | some .string => true
  | some (.struct _) => (flatAt P 50 t).isSome
  | _ => false
def looksOnly (P : Program) (fn : Func) : Bool := fn.resultTypes.toList.all (flatTy P) && fn.params.toList.all fun t => match P.underlying t with | some (.pointer _) => false | _ => true
def opersOf : Code → List Oper
  | .region _ ops _ => ops.toList
  | .seq a b => opersOf a ++ opersOf b
  | .cond _ a b => opersOf a ++ opersOf b
  | .block _ b => opersOf b
  | .loop b => opersOf b
  | _ => []
/-- What stands for a parameter: its slot, and what it was moved into. -/
def isParT (ops : List Oper) (j : Nat) : Option Operand → Bool
  | some (.tmp t) => t == j || ops.any fun o => o.dst == some t && match o.op with | .move (.tmp u) => u == j | _ => false
  | _ => false
/-- A function that puts something behind what is handed over (a hint). -/
def grows (P : Program) : Nat → Func → Nat → Bool
  | 0, _, _ => false
  | n + 1, fn, j => match fn.body with
    | some c => (opersOf c).any fun o => match o.op with
      | .call ⟨.builtin .append, args, _⟩ => isParT (opersOf c) j args[0]?
      | .call ⟨.value (.func g), args, _⟩ => match P.funcs[g]? with
        | some fg => args.toList.zipIdx.any fun x => isParT (opersOf c) j (some x.1) && grows P n fg x.2
        | none => false
      | _ => false
    | none => false
def compCall (P : Program) : Op → Option TOp
  | .call ⟨.value (.func f), args, _⟩ =>
    match P.funcs[f]? with
    | some fn => (compArgs P (grows P 3 fn) 0 fn.params.toList args.toList).map fun l => .call (!looksOnly P fn) (.f f) l
    | none => none
  | .call ⟨.value (.tmp i), args, tys⟩ => (compArgs P (fun _ => false) 0 tys.toList args.toList).map fun l => .call true (.t i) l
  | _ => none
def compOpAny (P : Program) (mv : Bool) (op : Op) : TOp :=
  match compOp P mv op with
  | some t => t
  | none => match compCall P op with
    | some t => t
    | none => badOp
def dstOk (pp : List Nat) (nt : Nat) : Option Nat → Bool
  | some d => decide (d < nt) && !pp.contains d
  | none => true
def compOper (P : Program) (pp : List Nat) (nt : Nat) (ops : Array Oper) (mv : Bool) (o : Oper) : Option TOper :=
  if dstOk pp nt o.dst then
    match o.guard with
    | none => some ⟨o.dst, none, compOpAny P mv o.op⟩
    | some (j, want) => match (ops[j]?).bind (·.dst) with
      | some d => some ⟨o.dst, some (d, want), compOpAny P mv o.op⟩
      | none => none
  else none
def compOpers (P : Program) (pp : List Nat) (nt : Nat) (ops : Array Oper) : List Bool → List Oper → Option (List TOper)
  | _, [] => some []
  | m, o :: r => match compOper P pp nt ops (m.headD false) o, compOpers P pp nt ops m.tail r with
    | some t, some l => some (t :: l)
    | _, _ => none
/-- What each operation waits for, through others too; the operations so far stand in the list's order. -/
def depsOf : List Oper → List (List Nat) → List (List Nat)
  | [], acc => acc
  | o :: r, acc => depsOf r (acc ++ [((o.after.toList.filter (Region.binds .any)).flatMap fun e => e.on :: acc.getD e.on []).eraseDups])
def depsChk (ops : List Oper) (deps : List (List Nat)) : Nat → Bool
  | 0 => true
  | i + 1 => depsChk ops deps i && match ops[i]? with
    | some o => (o.after.toList.all fun e => !Region.binds .any e || decide (e.on < i)) && ((deps.getD i []).all fun j => o.after.toList.any fun e => Region.binds .any e && (e.on == j || (deps.getD e.on []).contains j))
    | none => true
def compDraw (P : Program) (ops : Array Oper) (tops : List TOper) (draw : Bool) : Option (Option (List (List Nat))) :=
  if draw then
    if P.follows .mixedOrders && depsChk ops.toList (depsOf ops.toList []) ops.size then
      if statOk (depsOf ops.toList []) tops (List.range tops.length) then some none else some (some (depsOf ops.toList []))
    else none
  else some none
def lastReg : Code → Option Nat
  | .region id _ _ => some id
  | .seq _ b => lastReg b
  | .cond _ a b => match lastReg b with | some i => some i | none => lastReg a
  | .block _ b => lastReg b
  | _ => none
/-- Nothing is done, but what is not read again is forgotten, as at the other way's end. -/
def skipAs (pers : Nat → Prs) (a : Code) : TCode → TCode
  | .skip => match lastReg a with | some i => .nrm (pers i) | none => .skip
  | t => t
def loopsC : Code → Nat
  | .seq a b => loopsC a + loopsC b
  | .cond _ a b => loopsC a + loopsC b
  | .block _ b => loopsC b
  | .loop b => loopsC b + 1
  | _ => 0
def shrOk (nt : Nat) (l : List (Nat × Option Nat)) : Bool := l.all fun y => decide (y.1 < nt)
def preS (nt : Nat) (l : List (Nat × Option Nat)) (a : TCode) : TCode := match l with | [] => a | _ :: _ => if shrOk nt l then .pre l a else a
def postS (nt : Nat) (l : List (Nat × Option Nat)) (a : TCode) : TCode := match l with | [] => a | _ :: _ => if shrOk nt l then .post a l else a
def compCode (P : Program) (pp : List Nat) (nt : Nat) (mv : Nat → List Oper → Bool → List Bool) (pers : Nat → Prs) (H : Nat → List (Nat × Option Nat)) : Code → Nat → Option TCode
  | .skip, _ => some .skip
  | .region id ops draw, _ => match compOpers P pp nt ops (mv id ops.toList draw) ops.toList with
    | some l => match compDraw P ops l draw with
      | some d => some (.reg id d l (pers id))
      | none => none
    | none => none
  | .seq a b, i => match compCode P pp nt mv pers H a i, compCode P pp nt mv pers H b (i + loopsC a) with
    | some x, some y => some (.seq x y)
    | _, _ => none
  | .cond c a b, i => match compOpd c, compCode P pp nt mv pers H a i, compCode P pp nt mv pers H b (i + loopsC a) with
    | some k, some x, some y => some (.cond k (skipAs pers b x) (skipAs pers a y))
    | _, _, _ => none
  | .block id b, i => (compCode P pp nt mv pers H b i).map (.block id)
  | .loop b, i => (compCode P pp nt mv pers H b (i + 1)).map fun x => preS nt (H (i + 1)) (.loop (postS nt (H (i + 1)) x))
  | .exit id, _ => some (.exit id)
  | .ret, _ => some .ret
  | _, _ => none
def compRes (P : Program) : List ResultVar → Option (List TRs)
  | [] => some []
  | .tmp t :: r => (compRes P r).map (.tmp t :: ·)
  | .cell t ty :: r => match loadOf P ty, compRes P r with
    | some n, some l => some (.cell t n :: l)
    | _, _ => none

/-! ## Hints: none of this is relied on -/
def condsOf : Code → List Operand
  | .seq a b => condsOf a ++ condsOf b
  | .cond c a b => c :: (condsOf a ++ condsOf b)
  | .block _ b => condsOf b
  | .loop b => condsOf b
  | _ => []
def regionsOf : Code → List (Nat × List Oper)
  | .region id ops _ => [(id, ops.toList)]
  | .seq a b => regionsOf a ++ regionsOf b
  | .cond _ a b => regionsOf a ++ regionsOf b
  | .block _ b => regionsOf b
  | .loop b => regionsOf b
  | _ => []
def tmpsOf (l : List Operand) : List Nat := l.filterMap fun x => match x with | .tmp t => some t | _ => none
def resTmps (l : List ResultVar) : List Nat := l.map fun r => match r with | .tmp t => t | .cell t _ => t
def usesOf (ops : List Oper) : List Nat := ops.flatMap fun o => tmpsOf o.op.operands.toList
def namesOnly : Op → Bool
  | .load _ _ => true
  | .move (.tmp _) => true
  | .field _ _ _ => true
  | .fieldAddr _ _ _ => true
  | .indexAddr _ _ _ => true
  | .slice _ _ _ _ _ => true
  | .nilCheck _ => true
  | .extract _ _ => true
  | .pick _ _ _ => true
  | _ => false
/-- What only names the memory of another slot. -/
def softOp : Op → Bool
  | .load _ _ => true
  | .move (.tmp _) => true
  | .field _ _ _ => true
  | _ => false
/-! Which slots are read again: sets of numbers as bits. -/
def bitsOf (l : List Nat) : Nat := l.foldl (fun b i => b ||| (1 <<< i)) 0
def unbits (nt b : Nat) : List Nat := (List.range nt).filter fun i => b.testBit i
def delBit (b i : Nat) : Nat := if b.testBit i then b - (1 <<< i) else b
def guardSlot (ops : List Oper) (o : Oper) : List Nat := match o.guard with | some (j, _) => ((ops[j]?).bind (·.dst)).toList | none => []
def liveOps (ops : List Oper) : List Oper → Nat → Nat
  | [], out => out
  | o :: r, out =>
    let b := liveOps ops r out
    (match o.dst with | some d => delBit b d | none => b) ||| bitsOf (tmpsOf o.op.operands.toList ++ guardSlot ops o)
def liveC (rt : Nat) : Code → Nat → List (Nat × Nat) → Nat × List (Nat × Nat)
  | .region id ops _, out, _ => (liveOps ops.toList ops.toList out, [(id, out)])
  | .seq a b, out, ex => let y := liveC rt b out ex; let x := liveC rt a y.1 ex; (x.1, x.2 ++ y.2)
  | .cond c a b, out, ex => let x := liveC rt a out ex; let y := liveC rt b out ex; (x.1 ||| y.1 ||| bitsOf (tmpsOf [c]), x.2 ++ y.2)
  | .block id b, out, ex => liveC rt b out ((id, out) :: ex)
  | .loop b, _, ex => let l := (liveC rt b 0 ex).1; liveC rt b l ex
  | .exit id, _, ex => ((aget ex id).getD 0, [])
  | .ret, _, _ => (rt, [])
  | _, out, _ => (out, [])
/-- Slots that hold pointers. -/
def isPtrTy (P : Program) (t : TypeId) : Bool := match P.underlying t with | some (.pointer _) => true | _ => false
def ptrSlot (P : Program) (b : Nat) (o : Oper) : Nat :=
  match o.dst with
  | some d =>
    if (match o.op with
      | .box _ _ => true
      | .alloc _ => true
      | .fieldAddr _ _ _ => true
      | .indexAddr _ _ _ => true
      | .nilCheck _ => true
      | .load t _ => isPtrTy P t
      | .move (.tmp s) => b.testBit s
      | .assign (.tmp s) => b.testBit s
      | .call ⟨.value (.func f), _, _⟩ => match P.funcs[f]? with | some fn => fn.resultTypes.toList.map (isPtrTy P) == [true] | none => false
      | _ => false) then b ||| (1 <<< d) else b
  | none => b
/-- Whose memory a slot may name. -/
def aliasOf (b : Nat) (o : Oper) : List (Nat × Nat) :=
  match o.dst with
  | some d => if namesOnly o.op then (tmpsOf o.op.operands.toList).map fun s => (d, s) else match o.op with
    | .assign (.tmp s) => if b.testBit s then [(d, s)] else []
    | _ => []
  | none => []
def aliases (P : Program) (pp : List Nat) (c : Code) : List (Nat × Nat) :=
  let ops := opersOf c
  let b := ops.foldl (ptrSlot P) (ops.foldl (ptrSlot P) (bitsOf pp))
  ops.flatMap (aliasOf b)
def closeB (al : List (Nat × Nat)) (b : Nat) : Nat := al.foldr (fun x b => if b.testBit x.1 then b ||| (1 <<< x.2) else b) b
def rootsOf (l : List Nat) : List Nat := l.flatMap fun i => [2 * i + 2, 2 * i + 3]
/-- What an operation takes may be moved: nothing that is read behind it names the same memory. -/
def takenOf : Op → List Operand
  | .store _ _ x => [x]
  | .call ⟨.builtin .append, args, _⟩ => args.toList.tail
  | op => op.operands.toList
def mvOp (el : Nat) (al : List (Nat × Nat)) (after : Nat) (o : Oper) : Bool :=
  let live := closeB al (closeB al after)
  (tmpsOf (takenOf o.op)).all fun t => !el.testBit t && (closeB al (closeB al (1 <<< t))) &&& live == 0
def mvSeq (el : Nat) (al : List (Nat × Nat)) (ops : List Oper) (out : Nat) : List Oper → List Bool
  | [] => []
  | o :: r => mvOp el al (liveOps ops r out) o :: mvSeq el al ops out r
/-- Slots that point into an element, or name what stands in one. -/
def elemSlot (b : Nat) (o : Oper) : Nat :=
  match o.dst with
  | some d =>
    if (match o.op with
      | .indexAddr _ _ _ => true
      | .fieldAddr _ (.tmp s) _ => b.testBit s
      | .load _ (.tmp s) => b.testBit s
      | .nilCheck (.tmp s) => b.testBit s
      | .move (.tmp s) => b.testBit s
      | .field _ (.tmp s) _ => b.testBit s
      | _ => false) then b ||| (1 <<< d) else b
  | none => b
def mvDrawn (el : Nat) (al : List (Nat × Nat)) (ops : List Oper) (out : Nat) : List (Nat × Oper) → List Bool
  | [] => []
  | (i, o) :: r => mvOp el al (out ||| bitsOf ((ops.zipIdx.filter fun x => x.2 != i).flatMap fun x => tmpsOf x.1.op.operands.toList)) o :: mvDrawn el al ops out r
def mvOf (P : Program) (pp : List Nat) (c : Code) (res : List Nat) : Nat → List Oper → Bool → List Bool :=
  let tb := (liveC (bitsOf res) c (bitsOf res) []).2
  let al := aliases P pp c
  let ppb := bitsOf pp
  let el := (opersOf c).foldl elemSlot ((opersOf c).foldl elemSlot 0)
  fun id ops draw =>
    let out := ((aget tb id).getD 0) ||| ppb
    if draw then mvDrawn el al ops out (ops.zipIdx.map fun x => (x.2, x.1)) else mvSeq el al ops out ops
/-- Slots and memory that last behind a region. -/
def persOf (P : Program) (pp : List Nat) (nt : Nat) (c : Code) (res : List Nat) : Nat → Prs :=
  let tb := (liveC (bitsOf res) c (bitsOf res) []).2
  let al := aliases P pp c
  let ppb := bitsOf pp
  fun id =>
    let b := ((aget tb id).getD 0) ||| ppb
    (unbits nt b, rootsOf (unbits nt (closeB al (closeB al b))))

def ptrParams (P : Program) : Nat → List TypeId → List Nat
  | _, [] => []
  | i, t :: r => match P.underlying t with
    | some (.pointer _) => i :: ptrParams P (i + 1) r
    | _ => ptrParams P (i + 1) r
/-- The function f; H: what becomes shared at its end (0) and at its loops (numbers from 1 on), a hint. -/
def compFnH (P : Program) (H : Nat → List (Nat × Option Nat)) (f : FuncId) : Option TFn :=
  match P.funcs[f]? with
  | some fn =>
    match fn.body with
    | some c =>
      let np := fn.params.size
      let pp := ptrParams P 0 fn.params.toList
      let rt := resTmps fn.results.toList
      let pers := persOf P pp fn.ntmps c rt
      match compCode P pp fn.ntmps (mvOf P pp c rt) pers H c 0, compRes P fn.results.toList with
      | some tc, some rs => some ⟨np, pp, fn.ntmps, postS fn.ntmps (H 0) tc, rs⟩
      | _, _ => none
    | none => none
  | none => none
def compFn (P : Program) (f : FuncId) : Option TFn := compFnH P (fun _ => []) f

section
variable {P : Program} {M : Fm} {pp : List Nat} {nt : Nat}

theorem compRes_ok : ∀ {qs : List ResultVar} {l : List TRs}, compRes P qs = some l → l.length = qs.length ∧ ∀ k (h : k < l.length) (h' : k < qs.length), ResOk P l[k] qs[k] := by
  intro qs
  induction qs with
  | nil =>
    intro l h
    simp only [compRes, Option.some.injEq] at h
    subst h
    exact ⟨rfl, fun k h => by simp at h⟩
  | cons q qs ih =>
    intro l h
    cases q with
    | tmp t =>
      simp only [compRes] at h
      obtain ⟨l', h1, rfl⟩ := omap h
      obtain ⟨e, h2⟩ := ih h1
      refine ⟨by simp [e], fun k hk hk' => ?_⟩
      cases k with
      | zero => exact rfl
      | succ k => exact h2 k (by simpa using hk) (by simpa using hk')
    | cell t ty =>
      simp only [compRes] at h
      split at h
      · rename_i n l' h1 h2
        injection h with h
        subst h
        obtain ⟨e, h3⟩ := ih h2
        refine ⟨by simp [e], fun k hk hk' => ?_⟩
        cases k with
        | zero => exact ⟨ty, rfl, loadOf_ok h1⟩
        | succ k => exact h3 k (by simpa using hk) (by simpa using hk')
      · simp at h
theorem compArgs_ok {own : Nat → Bool} : ∀ {xs : List Operand} {i : Nat} {ts : List TypeId} {l : List (Option Nat × Opd)}, compArgs P own i ts xs = some l → l.length = xs.length ∧ ∀ j (h : j < l.length) (h' : j < xs.length), compOpd xs[j] = some l[j].2 := by
  intro xs
  induction xs with
  | nil =>
    intro i ts l h
    simp only [compArgs, Option.some.injEq] at h
    subst h
    exact ⟨rfl, fun k h => by simp at h⟩
  | cons x xs ih =>
    intro i ts l h
    simp only [compArgs] at h
    split at h
    · rename_i y l' h1 h2
      obtain ⟨e, h3⟩ := ih h2
      obtain ⟨n, rfl⟩ : ∃ n, l = (n, y) :: l' := by
        (repeat' split at h) <;> first | (injection h with h; exact ⟨_, h.symm⟩) | simp at h
      refine ⟨by simp [e], fun j hj hj' => ?_⟩
      cases j with
      | zero => exact h1
      | succ j => exact h3 j (by simpa using hj) (by simpa using hj')
    · simp at h
theorem compCall_ok {op : Op} {t : TOp} (h : compCall P op = some t) : isCall1 op t := by
  unfold compCall at h
  split at h
  · rename_i f args tys
    split at h
    · obtain ⟨l, h1, rfl⟩ := omap h
      obtain ⟨e, h2⟩ := compArgs_ok h1
      exact ⟨rfl, by simpa using e, fun j hj hj' => by have := h2 j hj (by simpa using hj'); simpa using this⟩
    · simp at h
  · rename_i i args tys
    obtain ⟨l, h1, rfl⟩ := omap h
    obtain ⟨e, h2⟩ := compArgs_ok h1
    exact ⟨rfl, by simpa using e, fun j hj hj' => by have := h2 j hj (by simpa using hj'); simpa using this⟩
  · simp at h
theorem compOper_ok {ops : Array Oper} {mv : Bool} {o : Oper} {t : TOper} (hN : M.N = nt) (hpr : ∀ r, M.pr r ≠ none → ∃ i ∈ pp, r = 2 * i + 2) (h : compOper P pp nt ops mv o = some t) : OperOk P M isCallOp ops o t := by
  unfold compOper at h
  split at h
  case isFalse => simp at h
  rename_i hd
  have hd' : ∀ d, o.dst = some d → d < M.N ∧ M.pr (2 * d + 2) = none := fun d e => by
    rw [e] at hd
    simp only [dstOk, Bool.and_eq_true, decide_eq_true_eq, Bool.not_eq_true', List.contains_eq_mem, decide_eq_false_iff_not] at hd
    refine ⟨by rw [hN]; exact hd.1, ?_⟩
    cases hp : M.pr (2 * d + 2) with
    | none => rfl
    | some x =>
      obtain ⟨i, hi, e2⟩ := hpr (2 * d + 2) (by rw [hp]; simp)
      have e3 : d = i := Nat.eq_of_mul_eq_mul_left (by decide : 0 < 2) (Nat.add_right_cancel e2)
      rw [← e3] at hi
      exact absurd hi hd.2
  have hop' : (∃ mv', compOp P mv' o.op = some (compOpAny P mv o.op)) ∨ isCallOp o.op (compOpAny P mv o.op) := by
    unfold compOpAny
    cases h1 : compOp P mv o.op with
    | some t1 => exact .inl ⟨mv, h1⟩
    | none =>
      cases h2 : compCall P o.op with
      | some t1 => exact .inr (.inr (compCall_ok h2))
      | none => exact .inr (.inl rfl)
  split at h
  · rename_i hg
    injection h with h
    subst h
    exact ⟨rfl, hd', .inl ⟨hg, rfl⟩, hop'⟩
  · rename_i j want hg
    split at h
    · rename_i d hj
      injection h with h
      subst h
      exact ⟨rfl, hd', .inr ⟨j, want, d, hg, rfl, hj⟩, hop'⟩
    · simp at h
theorem compOpers_ok {ops : Array Oper} (hN : M.N = nt) (hpr : ∀ r, M.pr r ≠ none → ∃ i ∈ pp, r = 2 * i + 2) : ∀ {l : List Oper} {mv : List Bool} {ts : List TOper}, compOpers P pp nt ops mv l = some ts → ts.length = l.length ∧ ∀ i (h : i < l.length) (h' : i < ts.length), OperOk P M isCallOp ops l[i] ts[i] := by
  intro l
  induction l with
  | nil =>
    intro mv ts h
    simp only [compOpers, Option.some.injEq] at h
    subst h
    exact ⟨rfl, fun k h => by simp at h⟩
  | cons o l ih =>
    intro mv ts h
    simp only [compOpers] at h
    split at h
    · rename_i t l' h1 h2
      injection h with h
      subst h
      obtain ⟨e, h3⟩ := ih h2
      refine ⟨by simp [e], fun j hj hj' => ?_⟩
      cases j with
      | zero => exact compOper_ok hN hpr h1
      | succ j => exact h3 j (by simpa using hj) (by simpa using hj')
    · simp at h
theorem depsChk_ok {ops : List Oper} {deps : List (List Nat)} : ∀ {n : Nat}, depsChk ops deps n = true → ∀ i, i < n → ∀ (h : i < ops.length), (∀ e ∈ ops[i].after.toList, Region.binds .any e = true → e.on < i) ∧ ∀ j ∈ deps.getD i [], ∃ e ∈ ops[i].after.toList, Region.binds .any e = true ∧ (e.on = j ∨ j ∈ deps.getD e.on []) := by
  intro n
  induction n with
  | zero => intro _ i hi; omega
  | succ n ih =>
    intro h i hi hl
    simp only [depsChk, Bool.and_eq_true] at h
    by_cases e : i < n
    · exact ih h.1 i e hl
    · obtain rfl : i = n := by omega
      have h2 := h.2
      rw [List.getElem?_eq_getElem hl] at h2
      simp only [Bool.and_eq_true, List.all_eq_true, List.any_eq_true, Bool.or_eq_true, Bool.not_eq_true', decide_eq_true_eq, beq_iff_eq, List.contains_eq_mem] at h2
      refine ⟨fun e he hb => ?_, fun j hj => ?_⟩
      · rcases h2.1 e he with h3 | h3
        · rw [hb] at h3; simp at h3
        · exact h3
      · obtain ⟨e, he, h3, h4⟩ := h2.2 j hj
        exact ⟨e, he, h3, h4⟩
def DrawOk (P : Program) (ops : Array Oper) (tops : List TOper) (draw : Bool) (d : Option (List (List Nat))) : Prop := match d with
    | some deps => draw = true ∧ DepsOk ops deps ∧ P.follows .mixedOrders = true
    | none => draw = true → ∃ deps, DepsOk ops deps ∧ P.follows .mixedOrders = true ∧ statOk deps tops (List.range tops.length) = true
theorem compDraw_ok {ops : Array Oper} {tops : List TOper} {draw : Bool} {d : Option (List (List Nat))} (h : compDraw P ops tops draw = some d) : DrawOk P ops tops draw d := by
  unfold compDraw at h
  split at h
  · rename_i hd
    split at h
    case isFalse => simp at h
    rename_i hc
    simp only [Bool.and_eq_true] at hc
    have hD : DepsOk ops (depsOf ops.toList []) := by
      refine ⟨fun i hi e he hb => ?_, fun i hi j hj => ?_⟩
      · exact (depsChk_ok hc.2 i hi (by simpa using hi)).1 e (by simpa using he) hb
      · obtain ⟨e, he, h3⟩ := (depsChk_ok hc.2 i hi (by simpa using hi)).2 j hj
        exact ⟨e, by simpa using he, h3⟩
    split at h
    · rename_i hs
      injection h with h
      subst h
      exact fun _ => ⟨_, hD, hc.1, hs⟩
    · injection h with h
      subst h
      exact ⟨hd, hD, hc.1⟩
  · rename_i hd
    injection h with h
    subst h
    exact fun h' => absurd h' (by simpa using hd)
theorem skipAs_ok {isCall : Op → TOp → Prop} {pers : Nat → Prs} {a c : Code} {t : TCode} (h : CodeOk P M isCall t c) : CodeOk P M isCall (skipAs pers a t) c := by
  cases t with
  | skip =>
    unfold skipAs
    cases lastReg a <;> exact h
  | _ => exact h
theorem preS_ok (hN : M.N = nt) {l : List (Nat × Option Nat)} {x : TCode} {c : Code} (h : CodeOk P M isCallOp x c) : CodeOk P M isCallOp (preS nt l x) c := by
  unfold preS
  split
  · exact h
  · split
    · rename_i hl
      refine ⟨fun y hy => ?_, h⟩
      have := List.all_eq_true.1 hl y hy
      rw [hN]; simpa using this
    · exact h
theorem postS_ok (hN : M.N = nt) {l : List (Nat × Option Nat)} {x : TCode} {c : Code} (h : CodeOk P M isCallOp x c) : CodeOk P M isCallOp (postS nt l x) c := by
  unfold postS
  split
  · exact h
  · split
    · rename_i hl
      refine ⟨fun y hy => ?_, h⟩
      have := List.all_eq_true.1 hl y hy
      rw [hN]; simpa using this
    · exact h
theorem compCode_ok {mv : Nat → List Oper → Bool → List Bool} {pers : Nat → Prs} {H : Nat → List (Nat × Option Nat)} (hN : M.N = nt) (hpr : ∀ r, M.pr r ≠ none → ∃ i ∈ pp, r = 2 * i + 2) : ∀ {c : Code} {i : Nat} {tc : TCode}, compCode P pp nt mv pers H c i = some tc → CodeOk P M isCallOp tc c := by
  intro c
  induction c with
  | skip => intro i tc h; simp only [compCode, Option.some.injEq] at h; subst h; exact rfl
  | exit id => intro i tc h; simp only [compCode, Option.some.injEq] at h; subst h; exact rfl
  | ret => intro i tc h; simp only [compCode, Option.some.injEq] at h; subst h; exact rfl
  | region id ops draw =>
    intro i tc h
    simp only [compCode] at h
    split at h
    case h_2 => simp at h
    rename_i l h1
    split at h
    case h_2 => simp at h
    rename_i d hd
    injection h with h
    subst h
    obtain ⟨e, h2⟩ := compOpers_ok hN hpr h1
    exact ⟨id, ops, draw, rfl, by simpa using e, fun i hi hi' => by have := h2 i (by simpa using hi) hi'; simpa using this, compDraw_ok hd⟩
  | seq a b iha ihb =>
    intro i tc h
    simp only [compCode] at h
    split at h
    · rename_i x y h1 h2
      injection h with h
      subst h
      exact ⟨a, b, rfl, iha h1, ihb h2⟩
    · simp at h
  | cond k a b iha ihb =>
    intro i tc h
    simp only [compCode] at h
    split at h
    · rename_i k' x y h1 h2 h3
      injection h with h
      subst h
      exact ⟨k, a, b, rfl, h1, skipAs_ok (iha h2), skipAs_ok (ihb h3)⟩
    · simp at h
  | block id b ih =>
    intro i tc h
    simp only [compCode] at h
    obtain ⟨x, h1, rfl⟩ := omap h
    exact ⟨b, rfl, ih h1⟩
  | loop b ih =>
    intro i tc h
    simp only [compCode] at h
    obtain ⟨x, h1, rfl⟩ := omap h
    exact preS_ok hN ⟨b, rfl, postS_ok hN (ih h1)⟩
  | _ => intro i tc h; simp [compCode] at h

/-- The functions of a table are as the program has them. -/
theorem tabOk_of {T : FuncId → Option TFn} (h : ∀ f tf, T f = some tf → (∃ H, compFnH P H f = some tf) ∧ tf.np ≤ tf.nt ∧ ∀ fn, P.funcs[f]? = some fn → (fn.name == "runtime.NumGoroutine") = false) : TabOk P T := by
  intro f tf hT
  obtain ⟨⟨H, h1⟩, h2, h3⟩ := h f tf hT
  unfold compFnH at h1
  split at h1
  case h_2 => simp at h1
  rename_i fn hf
  split at h1
  case h_2 => simp at h1
  rename_i c hb
  simp only at h1
  split at h1
  · rename_i tc rs hc hr
    injection h1 with h1
    subst h1
    obtain ⟨e, hres⟩ := compRes_ok hr
    exact ⟨fn, c, hf, h3 fn hf, hb, rfl, h2, fun M hN hpr => postS_ok hN (compCode_ok hN hpr hc), by simpa using e, fun k hk hk' => by have := hres k hk (by simpa using hk'); simpa using this⟩
  · simp at h1
end
end Go.Proofs.Ytkmbahlpmoljpaa
/- One function's run on trees, told by itself; loops; no condition. -/
set_option linter.unusedVariables false
set_option linter.unusedSimpArgs false
namespace Go.Proofs.Ytkmbahlpmoljpaa
open Go.RowKit

theorem stepF_runT {E : Env} {T : FuncId → Option TFn} {B F : Callee} {n : Nat} {f : FuncId} {tf : TFn} (h : T f = some tf) (vals : List TV) (pts : Pts) : stepF E T B F n f vals pts = runT E F n tf vals pts := by
  unfold stepF
  rw [h]
theorem runF_runT {E : Env} {T : FuncId → Option TFn} {B : Callee} {n : Nat} {f : FuncId} {tf : TFn} (h : T f = some tf) (vals : List TV) (pts : Pts) : runF E T B (n + 1) f vals pts = runT E (runF E T B n) n tf vals pts := stepF_runT h vals pts
theorem runF_lib {E : Env} {T : FuncId → Option TFn} {B : Callee} {n : Nat} {f : FuncId} (h : T f = none) (vals : List TV) (pts : Pts) : runF E T B (n + 1) f vals pts = B f vals pts := by
  unfold runF stepF
  rw [h]

/-- Rounds of a loop, by what stands before each. -/
theorem iter_inv {f : St → Option (TExit × St)} {e : TExit} {τ : St} (I : Nat → St) (m : Nat) (hs : ∀ k, k < m → f (I k) = some (.normal, I (k + 1))) (hl : f (I m) = some (e, τ)) (he : e ≠ .normal) : ∀ k n, k ≤ m → m - k < n → iter f n (I k) = some (e, τ) := by
  intro k n
  induction n generalizing k with
  | zero => intro _ h; omega
  | succ n ih =>
    intro hk hn
    simp only [iter]
    by_cases e1 : k = m
    · subst e1
      rw [hl]
      cases e <;> first | exact absurd rfl he | rfl
    · rw [hs k (by omega)]
      exact ih (k + 1) (by omega) (by omega)
/-- A loop that ends, by what stands before each round. -/
theorem iter_some {f : St → Option (TExit × St)} (R : Nat → St → Prop) (Q : TExit → St → Prop) (hs : ∀ k σ, R k σ → ∃ e σ', f σ = some (e, σ') ∧ ((e = .normal ∧ ∃ j, j < k ∧ R j σ') ∨ (e ≠ .normal ∧ Q e σ'))) : ∀ k n σ, R k σ → k < n → ∃ e σ', iter f n σ = some (e, σ') ∧ Q e σ' := by
  intro k
  induction k using Nat.strongRecOn with
  | _ k ih =>
    intro n σ hR hn
    obtain ⟨e, σ', h1, h2⟩ := hs k σ hR
    cases n with
    | zero => omega
    | succ n =>
      rcases h2 with ⟨rfl, j, hj, hRj⟩ | ⟨he, hQ⟩
      · obtain ⟨e2, σ2, h3, h4⟩ := ih j hj n σ' hRj (by omega)
        exact ⟨e2, σ2, by simp only [iter, h1, Option.bind_some]; exact h3, h4⟩
      · exact ⟨e, σ', by simp only [iter, h1, Option.bind_some], hQ⟩
end Go.Proofs.Ytkmbahlpmoljpaa
/- Arithmetic, and pairs of operations that do not meet, for the run on typed data; no condition. -/
set_option linter.unusedVariables false
set_option linter.unusedSimpArgs false
namespace Go.Proofs.Ytkmbahlpmoljpaa
open Go.RowKit

def arR (op : BinOp) (k : IntKind) (a b : Int) : Int :=
  match op with
  | .add => k.wrap (a + b)
  | .sub => k.wrap (a - b)
  | .mul => k.wrap (a * b)
  | .quo => k.wrap (a.tdiv b)
  | .rem => a.tmod b
  | .and => k.wrap (BitVec.ofInt k.bits a &&& BitVec.ofInt k.bits b).toNat
  | .or => k.wrap (BitVec.ofInt k.bits a ||| BitVec.ofInt k.bits b).toNat
  | .xor => k.wrap (BitVec.ofInt k.bits a ^^^ BitVec.ofInt k.bits b).toNat
  | .andNot => k.wrap (BitVec.ofInt k.bits a &&& ~~~BitVec.ofInt k.bits b).toNat
  | _ => 0
def shR (op : BinOp) (k : IntKind) (a : Int) (n : Nat) : Int :=
  match op with
  | .shl => k.wrap (a * 2 ^ (min n k.bits))
  | .shr => a.fdiv (2 ^ (min n k.bits))
  | _ => 0
def cmR (op : BinOp) (a b : Int) : Bool :=
  match op with
  | .eql => a == b
  | .neq => a != b
  | .lss => decide (a < b)
  | .leq => decide (a ≤ b)
  | .gtr => decide (a > b)
  | .geq => decide (a ≥ b)
  | _ => false
def allB {α : Type} (f : α → Bool) : List α → Bool
  | [] => true
  | x :: r => match f x with | true => allB f r | false => false
def anyB {α : Type} (f : α → Bool) : List α → Bool
  | [] => false
  | x :: r => match f x with | true => true | false => anyB f r
def meetB (a b : List Loc) : Bool := anyB (fun w => anyB (fun x => w.hit x) b) a
def clashB (a b : Foot) : Bool := match meetB a.2 b.1 with
  | true => true
  | false => match meetB a.2 b.2 with
    | true => true
    | false => match meetB b.2 a.1 with
      | true => true
      | false => meetB b.2 a.2
def okPairB (d : List Nat) (j : Nat) (F F' : Foot) : Bool := match d.contains j with
  | true => true
  | false => !clashB F F'
def okPairsB (deps : List (List Nat)) : List (Nat × Foot) → Bool
  | [] => true
  | (j, F) :: r => match allB (fun y => okPairB (deps.getD y.1 []) j F y.2) r with | true => okPairsB deps r | false => false

theorem allB_eq {α : Type} (f : α → Bool) (l : List α) : allB f l = l.all f := by
  induction l with
  | nil => rfl
  | cons x l ih => simp only [allB, List.all_cons]; cases f x <;> simp [ih]
theorem anyB_eq {α : Type} (f : α → Bool) (l : List α) : anyB f l = l.any f := by
  induction l with
  | nil => rfl
  | cons x l ih => simp only [anyB, List.any_cons]; cases f x <;> simp [ih]
theorem meetB_eq (a b : List Loc) : meetB a b = meet a b := by
  have e : (fun w : Loc => anyB (fun x => w.hit x) b) = fun w : Loc => b.any fun x => w.hit x := funext fun w => anyB_eq _ _
  unfold meetB meet
  rw [anyB_eq, e]
theorem clashB_eq (a b : Foot) : clashB a b = clash a b := by
  unfold clashB clash
  simp only [meetB_eq]
  cases meet a.2 b.1 <;> cases meet a.2 b.2 <;> cases meet b.2 a.1 <;> simp
theorem okPairB_eq (d : List Nat) (j : Nat) (a b : Foot) : okPairB d j a b = (!clash a b || d.contains j) := by
  unfold okPairB
  rw [clashB_eq]
  cases d.contains j <;> simp
theorem okPairsB_eq (deps : List (List Nat)) (fs : List (Nat × Foot)) : okPairsB deps fs = okPairs deps fs := by
  induction fs with
  | nil => rfl
  | cons x r ih =>
    obtain ⟨j, F⟩ := x
    have e : (fun y : Nat × Foot => okPairB (deps.getD y.1 []) j F y.2) = fun y => !clash F y.2 || (deps.getD y.1 []).contains j := funext fun y => okPairB_eq _ _ _ _
    simp only [okPairsB, okPairs, allB_eq, ih, e]
    cases r.all fun y => !clash F y.2 || (deps.getD y.1 []).contains j <;> simp

theorem wrap_i64 {x : Int} (h1 : -9223372036854775808 ≤ x) (h2 : x ≤ 9223372036854775807) : IntKind.wrap .i64 x = x := by
  have e1 : (2 : Int) ^ IntKind.bits .i64 = 18446744073709551616 := by rfl
  have e2 : (2 : Int) ^ (IntKind.bits .i64 - 1) = 9223372036854775808 := by rfl
  have e3 : IntKind.signed .i64 = true := rfl
  unfold IntKind.wrap
  simp only [e1, e2, e3, Bool.true_and, decide_eq_true_eq]
  split <;> omega
theorem wrap_u8 (x : Int) : IntKind.wrap .u8 x = x % 256 := by
  have e1 : (2 : Int) ^ IntKind.bits .u8 = 256 := by rfl
  have e3 : IntKind.signed .u8 = false := rfl
  unfold IntKind.wrap
  simp only [e1, e3, Bool.false_and, Bool.false_eq_true, if_false]
theorem wrap_u16 (x : Int) : IntKind.wrap .u16 x = x % 65536 := by
  have e1 : (2 : Int) ^ IntKind.bits .u16 = 65536 := by rfl
  have e3 : IntKind.signed .u16 = false := rfl
  unfold IntKind.wrap
  simp only [e1, e3, Bool.false_and, Bool.false_eq_true, if_false]
theorem wrap_u32 (x : Int) : IntKind.wrap .u32 x = x % 4294967296 := by
  have e1 : (2 : Int) ^ IntKind.bits .u32 = 4294967296 := by rfl
  have e3 : IntKind.signed .u32 = false := rfl
  unfold IntKind.wrap
  simp only [e1, e3, Bool.false_and, Bool.false_eq_true, if_false]
theorem wrap_u64 (x : Int) : IntKind.wrap .u64 x = x % 18446744073709551616 := by
  have e1 : (2 : Int) ^ IntKind.bits .u64 = 18446744073709551616 := by rfl
  have e3 : IntKind.signed .u64 = false := rfl
  unfold IntKind.wrap
  simp only [e1, e3, Bool.false_and, Bool.false_eq_true, if_false]

/-- A number of kind int64. -/
def Is64 (x : Int) : Prop := -9223372036854775808 ≤ x ∧ x ≤ 9223372036854775807

end Go.Proofs.Ytkmbahlpmoljpaa
/- Typed data: what stands in cells, told by types, and the operations on it; definitions. -/
set_option linter.unusedVariables false
set_option linter.unusedSimpArgs false
namespace Go.Proofs.Ytkmbahlpmoljpaa
open Go.RowKit

/-- What cells hold: one cell, or several one behind the other. -/
inductive CT where
  | int (k : IntKind)
  | bool
  | str
  | nat
  | row (own : Bool) (t : CT)
  | nilr (own : Bool)
  | pair (a b : CT)
def ctBeq : CT → CT → Bool
  | .int k, .int k' => decide (k = k')
  | .bool, .bool => true
  | .str, .str => true
  | .nat, .nat => true
  | .row o t, .row o' t' => (o == o') && ctBeq t t'
  | .nilr o, .nilr o' => o == o'
  | .pair a b, .pair a' b' => ctBeq a a' && ctBeq b b'
  | _, _ => false
theorem ctBeq_eq : ∀ {a b : CT}, ctBeq a b = true → a = b := by
  intro a
  induction a with
  | int k => intro b h; cases b <;> simp_all [ctBeq]
  | bool => intro b h; cases b <;> simp_all [ctBeq]
  | str => intro b h; cases b <;> simp_all [ctBeq]
  | nat => intro b h; cases b <;> simp_all [ctBeq]
  | row o t ih => intro b h; cases b <;> simp [ctBeq] at h; rw [h.1, ih h.2]
  | nilr o => intro b h; cases b <;> simp_all [ctBeq]
  | pair x y ihx ihy => intro b h; cases b <;> simp [ctBeq] at h; rw [ihx h.1, ihy h.2]
/-- The same but for who owns it. -/
def ctSim : CT → CT → Bool
  | .int k, .int k' => decide (k = k')
  | .bool, .bool => true
  | .str, .str => true
  | .nat, .nat => true
  | .row _ t, .row _ t' => ctSim t t'
  | .nilr _, .nilr _ => true
  | .pair a b, .pair a' b' => ctSim a a' && ctSim b b'
  | _, _ => false
/-- The first may be read as the second: an empty row is a row of anything. -/
def ctLe : CT → CT → Bool
  | .int k, .int k' => decide (k = k')
  | .bool, .bool => true
  | .str, .str => true
  | .nat, .nat => true
  | .row o t, .row o' t' => (o == o') && ctLe t t'
  | .nilr o, .nilr o' => o == o'
  | .nilr o, .row o' _ => o == o'
  | .pair a b, .pair a' b' => ctLe a a' && ctLe b b'
  | _, _ => false
def ctSz : CT → Nat
  | .pair a b => ctSz a + ctSz b
  | .nat => 0
  | _ => 1
/-- What is shared has no owner within. -/
def immT : CT → CT
  | .row true t => .row false (immT t)
  | .nilr _ => .nilr false
  | .pair a b => .pair (immT a) (immT b)
  | t => t
/-- The same at one cell. -/
def shT : CT → Nat → List Nat → Option CT
  | .pair a b, o, os => if o < ctSz a then (shT a o os).map (.pair · b) else (shT b (o - ctSz a) os).map (.pair a ·)
  | t, 0, [] => some (immT t)
  | .row true t, 0, o :: os => (shT t o os).map (.row true)
  | t, _, _ => some t
abbrev den : CT → Type
  | .int _ => Int
  | .bool => Bool
  | .str => ByteArray
  | .nat => Nat
  | .row _ t => List (den t)
  | .nilr _ => Unit
  | .pair a b => den a × den b
theorem ctSim_den : ∀ {a b : CT}, ctSim a b = true → den a = den b := by
  intro a
  induction a with
  | int k => intro b h; cases b <;> simp [ctSim] at h; rfl
  | bool => intro b h; cases b <;> simp [ctSim] at h; rfl
  | str => intro b h; cases b <;> simp [ctSim] at h; rfl
  | nat => intro b h; cases b <;> simp [ctSim] at h; rfl
  | row o t ih => intro b h; cases b <;> simp [ctSim] at h; simp only [den]; rw [ih h]
  | nilr o => intro b h; cases b <;> simp [ctSim] at h; rfl
  | pair x y ihx ihy => intro b h; cases b <;> simp [ctSim] at h; simp only [den]; rw [ihx h.1, ihy h.2]
def dflt : (t : CT) → den t
  | .int _ => (0 : Int)
  | .bool => false
  | .str => ByteArray.empty
  | .nat => (0 : Nat)
  | .row _ _ => []
  | .nilr _ => ()
  | .pair a b => (dflt a, dflt b)
def coeD : (a b : CT) → den a → den b
  | .row _ t, .row _ t', xs => List.map (coeD t t') xs
  | .pair a b, .pair a' b', x => (coeD a a' x.1, coeD b b' x.2)
  | .int _, .int _, x => x
  | .bool, .bool, x => x
  | .str, .str, x => x
  | .nat, .nat, x => x
  | _, b, _ => dflt b
/-- Typed data as they lie in cells. -/
def enc : (t : CT) → den t → List TV
  | .int k, x => [.v (.int k x)]
  | .bool, x => [.v (.bool x)]
  | .str, x => [.v (.string x)]
  | .nat, _ => []
  | .row true t, xs => [.ow (List.map (enc t) xs)]
  | .row false t, xs => [.sl (List.map (enc t) xs)]
  | .nilr true, _ => [.ow []]
  | .nilr false, _ => [.sl []]
  | .pair a b, x => enc a x.1 ++ enc b x.2

/-- Several data, one behind the other. -/
def HL (D : CT → Type) : List CT → Type
  | [] => Unit
  | t :: ts => D t × HL D ts
def nthL : List (List CT) → Nat → List CT
  | [], _ => []
  | l :: _, 0 => l
  | _ :: r, i + 1 => nthL r i
/-- One of several ways to end, with its data. -/
def OutT : List (List CT) → Type
  | [] => Empty
  | [l] => HL den l
  | l :: m :: r => HL den l ⊕ OutT (m :: r)
def mkOut : (ls : List (List CT)) → (i : Nat) → HL den (nthL ls i) → Option (OutT ls)
  | [], _, _ => none
  | [_], 0, h => some h
  | [_], _ + 1, _ => none
  | _ :: _ :: _, 0, h => some (.inl h)
  | _ :: m :: r, i + 1, h => (mkOut (m :: r) i h).map .inr
def elimF {α : Type} : (ls : List (List CT)) → ((i : Nat) → HL den (nthL ls i) → α) → OutT ls → α
  | [], _, o => Empty.elim o
  | [_], f, o => f 0 o
  | _ :: m :: r, f, o => match o with
    | .inl h => f 0 h
    | .inr o' => elimF (m :: r) (fun i h => f (i + 1) h) o'
def elimOut {α : Type} (ls : List (List CT)) (o : OutT ls) (f : (i : Nat) → HL den (nthL ls i) → α) : α := elimF ls f o

/-- What is done to typed data, and what may come of it. -/
structure Alg (D : CT → Type) (M : Type → Type) where
  lit : (k : IntKind) → Int → D (.int k)
  litB : Bool → D .bool
  litS : ByteArray → D .str
  litN : Nat → D .nat
  nilv : (o : Bool) → D (.nilr o)
  nil : (o : Bool) → (t : CT) → D (.row o t)
  recast : (t t' : CT) → ctSim t t' = true → D t → D t'
  coe : (t t' : CT) → D t → D t'
  mkp : (a b : CT) → D a → D b → D (.pair a b)
  fst : (a b : CT) → D (.pair a b) → D a
  snd : (a b : CT) → D (.pair a b) → D b
  ar : BinOp → (k : IntKind) → D (.int k) → D (.int k) → D (.int k)
  cm : BinOp → (k : IntKind) → D (.int k) → D (.int k) → D .bool
  sh : BinOp → (k : IntKind) → D (.int k) → D .nat → D (.int k)
  neg : (k : IntKind) → D (.int k) → D (.int k)
  not : D .bool → D .bool
  cv : (k k' : IntKind) → D (.int k) → D (.int k')
  mm : Bool → (k : IntKind) → D (.int k) → D (.int k) → D (.int k)
  eqB : D .bool → D .bool → D .bool
  eqS : D .str → D .str → D .bool
  eqT : D .str → D .str → D .bool
  andB : D .bool → D .bool → D .bool
  ite : (t : CT) → D .bool → D t → D t → D t
  natI : D .nat → D (.int .i64)
  addN : D .nat → D .nat → D .nat
  subN : D .nat → D .nat → D .nat
  minN : D .nat → D .nat → D .nat
  len : (o : Bool) → (t : CT) → D (.row o t) → D .nat
  slOk : D .nat → D .nat → D .nat → D .bool
  ltN : D .nat → D .nat → D .bool
  eqN : D .nat → D .nat → D .bool
  win : (o : Bool) → (t : CT) → D (.row o t) → D .nat → D .nat → D (.row o t)
  appOk : Nat → D .nat → D .nat → D .bool
  cat : (t : CT) → (o : Bool) → D (.row true t) → D (.row o t) → D (.row true t)
  rowl : (o : Bool) → (t : CT) → List (D t) → D (.row o t)
  mkOk : D .nat → D .nat → Nat → D .bool
  rep : (t : CT) → D .nat → D t → D (.row true t)
  upd : (t : CT) → D (.row true t) → D .nat → (D t → D t) → D (.row true t)
  splice : (t : CT) → (o : Bool) → D (.row true t) → D .nat → D .nat → D (.row o t) → D (.row true t)
  strLen : D .str → D (.int .i64)
  strB : D .str → D (.row false (.int .u8))
  strOk : D .str → D .bool
  fail : {X : Type} → M X
  br : {X : Type} → D .bool → M X → M X → M X
  nat : {X : Type} → (k : IntKind) → D (.int k) → (D .nat → M X) → M X
  get : {X : Type} → (o : Bool) → (t : CT) → D (.row o t) → D .nat → (D t → M X) → M X
  strAt : {X : Type} → D .str → D .nat → (D (.int .u8) → M X) → M X
  bstr : {X : Type} → D (.row false (.int .u8)) → (D .str → M X) → M X
  lt : {X : Type} → (t : CT) → D t → (D t → M X) → M X
  call : {X : Type} → Nat → (ins : List CT) → (outs : List (List CT)) → (HL den ins → Option (OutT outs)) → HL D ins → ((i : Nat) → HL D (nthL outs i) → M X) → M X
  loop : {X : Type} → Nat → (s : List CT) → (outs : List (List CT)) → HL D s → (HL D s → M (HL den s ⊕ OutT outs)) → ((i : Nat) → HL D (nthL outs i) → M X) → M X
  join : {X : Type} → (outs : List (List CT)) → M (OutT outs) → ((i : Nat) → HL D (nthL outs i) → M X) → M X
  next : (s : List CT) → (outs : List (List CT)) → HL D s → M (HL den s ⊕ OutT outs)
  exitL : (s : List CT) → (outs : List (List CT)) → (i : Nat) → HL D (nthL outs i) → M (HL den s ⊕ OutT outs)
  out : (outs : List (List CT)) → (i : Nat) → HL D (nthL outs i) → M (OutT outs)

/-! ## Data as they are -/
def nat? : Int → Option Nat
  | .ofNat n => some n
  | .negSucc _ => none
def get? {α : Type} (xs : List α) (i : Nat) : Option α := xs[i]?
def eqB? (a b : Bool) : Bool := a == b
def eqS? (a b : ByteArray) : Bool := a == b
def eqT? (a b : ByteArray) : Bool := a.toList == b.toList
def natI? (n : Nat) : Int := (n : Int)
def negR (k : IntKind) (a : Int) : Int := k.wrap (0 - a)
def mmR (mx : Bool) (a b : Int) : Int := if mx then (if a < b then b else a) else (if b < a then b else a)
def win? {α : Type} (xs : List α) (l n : Nat) : List α := (xs.drop l).take n
def slOk? (l h n : Nat) : Bool := l ≤ h && decide (h ≤ n)
def appOk? (bytes n m : Nat) : Bool := decide (n + m ≤ 1099511627776) && decide ((n + m) * bytes ≤ 140737488355328)
def mkOk? (n m sz : Nat) : Bool := decide (n = m) && decide (n * sz ≤ 16777216)
def splice? {α : Type} (xs : List α) (lo m : Nat) (ys : List α) : List α := xs.take lo ++ ys.take m ++ xs.drop (lo + m)
def strB? (s : ByteArray) : List Int := s.data.toList.map fun b => (b.toNat : Int)
def strAt? (s : ByteArray) (k : Nat) : Option Int := (s[k]?).map fun b => (b.toNat : Int)
def bstr? (l : List Int) : ByteArray := l.foldl (fun r n => r.push (UInt8.ofNat n.toNat)) ByteArray.empty
def loopN {S T : Type} (f : S → Option (S ⊕ T)) : Nat → S → Option T
  | 0, _ => none
  | n + 1, s => (f s).bind fun x => match x with | .inl s' => loopN f n s' | .inr t => some t
/-- How many rounds a loop is given. -/
def NN : Nat := 8589934592
def realA : Alg den Option where
  lit _ n := n
  litB b := b
  litS s := s
  litN n := n
  nilv _ := ()
  nil _ _ := []
  recast _ _ h x := cast (ctSim_den h) x
  coe t t' x := coeD t t' x
  mkp _ _ x y := (x, y)
  fst _ _ x := x.1
  snd _ _ x := x.2
  ar op k a b := arR op k a b
  cm op _ a b := cmR op a b
  sh op k a n := shR op k a n
  neg k a := negR k a
  not b := !b
  cv _ k' n := k'.wrap n
  mm mx _ a b := mmR mx a b
  eqB a b := eqB? a b
  eqS a b := eqS? a b
  eqT a b := eqT? a b
  andB a b := a && b
  ite _ c a b := bif c then a else b
  natI n := natI? n
  addN a b := Nat.add a b
  subN a b := Nat.sub a b
  minN a b := Nat.min a b
  len _ _ xs := List.length xs
  slOk l h n := slOk? l h n
  ltN a b := Nat.blt a b
  eqN a b := Nat.beq a b
  win _ _ xs l n := win? xs l n
  appOk b n m := appOk? b n m
  cat _ _ xs ys := List.append xs ys
  rowl _ _ l := l
  mkOk n m sz := mkOk? n m sz
  rep _ n x := List.replicate n x
  upd _ xs i f := List.modify xs i f
  splice _ _ xs lo m ys := splice? xs lo m ys
  strLen s := (ByteArray.size s : Int)
  strB s := strB? s
  strOk s := decide (ByteArray.size s < 4294967296)
  fail := none
  br c a b := bif c then a else b
  nat _ n k := (nat? n).bind k
  get _ _ xs i k := (get? xs i).bind k
  strAt s i k := (strAt? s i).bind k
  bstr l k := k (bstr? l)
  lt _ x k := k x
  call _ _ outs g h k := (g h).bind fun o => elimOut outs o k
  loop _ _ outs h body k := (loopN body NN h).bind fun o => elimOut outs o k
  join outs m k := m.bind fun o => elimOut outs o k
  next _ _ h := some (.inl h)
  exitL _ outs i h := (mkOut outs i h).map .inr
  out outs i h := mkOut outs i h
end Go.Proofs.Ytkmbahlpmoljpaa
/- Code run on typed data; definitions. -/
set_option linter.unusedVariables false
set_option linter.unusedSimpArgs false
namespace Go.Proofs.Ytkmbahlpmoljpaa
open Go.RowKit

structure XP (D : CT → Type) where
  root : Nat
  off : Nat
  hops : List (D .nat × Nat × Nat)
/-- What a slot or a cell holds, its data typed. -/
inductive XV (D : CT → Type) where
  | d (t : CT) (x : D t)
  | k (x : Value)
  | dead
  | ptr (p : XP D) (vs : List Nat)
  | ip (cs : List (XV D))
  | pk (p : XP D) (vs : List Nat)
  | pw (p : XP D) (vs : List Nat) (sz : Nat) (lo n : D .nat)
  | agg (l : List (XV D))
  | tup (l : List (XV D))
  | fn (f : FuncId) (cap : List (XV D))
structure XS (D : CT → Type) where
  tm : List (Nat × XV D)
  ce : List (Nat × List (XV D))
  vr : List (Key × Nat)
  lg : Foot
abbrev Sh := XV fun _ => Unit
abbrev Shs := XS fun _ => Unit
abbrev shU (t : CT) : Sh := .d t ()
/-- One way a function ends: the results' cells, how they are read, what the pointers lead to. -/
structure XO where
  cells : List Sh
  sh : List RSh
  pts : List (Nat × List Sh)

/-! ## Data as told by shapes -/
mutual
def lv : Sh → List CT → List CT
  | .d t _, r => t :: r
  | .ip l, r => lvL l r
  | .agg l, r => lvL l r
  | .tup l, r => lvL l r
  | .fn _ l, r => lvL l r
  | .k _, r => r
  | .dead, r => r
  | .ptr _ _, r => r
  | .pk _ _, r => r
  | .pw _ _ _ _ _, r => r
def lvL : List Sh → List CT → List CT
  | [], r => r
  | x :: xs, r => lv x (lvL xs r)
end
def lvP : List (Nat × List Sh) → List CT → List CT
  | [], r => r
  | x :: xs, r => lvL x.2 (lvP xs r)
def lvT : List (Nat × Sh) → List CT → List CT
  | [], r => r
  | x :: xs, r => lv x.2 (lvT xs r)
def lvS (s : Shs) : List CT := lvT s.tm (lvP s.ce [])
def lvO (o : XO) : List CT := lvL o.cells (lvP o.pts [])
structure Ctr where
  f : FuncId
  id : Nat
  ins : List Sh
  pts : List (Nat × List Sh)
  outs : List XO
  g : HL den (lvL ins (lvP pts [])) → Option (OutT (outs.map lvO))
/-- What a loop's rounds begin with, and the ways it ends. -/
structure LHint where
  i : Nat
  nm : Nat
  s : Shs
  outs : List (TExit × Shs)

section
variable {D : CT → Type}
def XP.bare (p : XP D) : Bool := match p.hops with | [] => true | _ :: _ => false
def plOf (p : XP fun _ => Unit) : XP D := ⟨p.root, p.off, []⟩
mutual
def fill : (s : Sh) → (r : List CT) → HL D (lv s r) → XV D × HL D r
  | .d t _, _, h => (.d t h.1, h.2)
  | .ip l, r, h => (.ip (fillL l r h).1, (fillL l r h).2)
  | .agg l, r, h => (.agg (fillL l r h).1, (fillL l r h).2)
  | .tup l, r, h => (.tup (fillL l r h).1, (fillL l r h).2)
  | .fn f l, r, h => (.fn f (fillL l r h).1, (fillL l r h).2)
  | .k x, _, h => (.k x, h)
  | .dead, _, h => (.dead, h)
  | .ptr p vs, _, h => (.ptr (plOf p) vs, h)
  | .pk p vs, _, h => (.pk (plOf p) vs, h)
  | .pw _ _ _ _ _, _, h => (.dead, h)
def fillL : (s : List Sh) → (r : List CT) → HL D (lvL s r) → List (XV D) × HL D r
  | [], _, h => ([], h)
  | x :: xs, r, h => ((fill x (lvL xs r) h).1 :: (fillL xs r (fill x (lvL xs r) h).2).1, (fillL xs r (fill x (lvL xs r) h).2).2)
end
def fillP : (s : List (Nat × List Sh)) → (r : List CT) → HL D (lvP s r) → List (Nat × List (XV D)) × HL D r
  | [], _, h => ([], h)
  | x :: xs, r, h => ((x.1, (fillL x.2 (lvP xs r) h).1) :: (fillP xs r (fillL x.2 (lvP xs r) h).2).1, (fillP xs r (fillL x.2 (lvP xs r) h).2).2)
def fillT : (s : List (Nat × Sh)) → (r : List CT) → HL D (lvT s r) → List (Nat × XV D) × HL D r
  | [], _, h => ([], h)
  | x :: xs, r, h => ((x.1, (fill x.2 (lvT xs r) h).1) :: (fillT xs r (fill x.2 (lvT xs r) h).2).1, (fillT xs r (fill x.2 (lvT xs r) h).2).2)
def fillS (s : Shs) (h : HL D (lvS s)) : XS D := ⟨(fillT s.tm _ h).1, (fillP s.ce [] (fillT s.tm _ h).2).1, s.vr, ([], [])⟩
def fillOuts : (outs : List XO) → (i : Nat) → HL D (nthL (outs.map lvO) i) → Option (List (XV D) × List RSh × List (Nat × List (XV D)))
  | [], _, _ => none
  | o :: _, 0, h => some ((fillL o.cells _ h).1, o.sh, (fillP o.pts [] (fillL o.cells _ h).2).1)
  | _ :: r, i + 1, h => fillOuts r i h
def fillEx : (outs : List (TExit × Shs)) → (i : Nat) → HL D (nthL (outs.map fun x => lvS x.2) i) → Option (TExit × XS D)
  | [], _, _ => none
  | o :: _, 0, h => some (o.1, fillS o.2 h)
  | _ :: r, i + 1, h => fillEx r i h
end

section
variable {D : CT → Type} {M : Type → Type} (A : Alg D M)
def flatB : Value → Value → Bool
  | .pointer none, .pointer none => true
  | .nilFunc, .nilFunc => true
  | .nilIface, .nilIface => true
  | _, _ => false
/-- Data of one kind read as of another. -/
def asT (t u : CT) (x : D t) : Option (D u) :=
  if h : ctBeq t u = true then some (ctBeq_eq h ▸ x) else if ctLe t u then some (A.coe t u x) else none
def samePl (p : XP fun _ => Unit) (q : XP D) : Bool := p.root == q.root && p.off == q.off && p.bare && q.bare
mutual
def conv : (s : Sh) → XV D → (r : List CT) → HL D r → Option (HL D (lv s r))
  | .d u _, .d t x, _, h => (asT A t u x).map fun y => (y, h)
  | .ip l, .ip l', r, h => convL l l' r h
  | .agg l, .agg l', r, h => convL l l' r h
  | .tup l, .tup l', r, h => convL l l' r h
  | .fn f l, .fn f' l', r, h => if f = f' then convL l l' r h else none
  | .k x, .k y, _, h => if flatB x y then some h else none
  | .dead, .dead, _, h => some h
  | .ptr p vs, .ptr q ws, _, h => if samePl p q && vs == ws then some h else none
  | .pk p vs, .pk q ws, _, h => if samePl p q && vs == ws then some h else none
  | _, _, _, _ => none
def convL : (s : List Sh) → List (XV D) → (r : List CT) → HL D r → Option (HL D (lvL s r))
  | [], [], _, h => some h
  | s :: ss, x :: xs, r, h => (convL ss xs r h).bind fun h1 => conv s x (lvL ss r) h1
  | _, _, _, _ => none
end
end
end Go.Proofs.Ytkmbahlpmoljpaa
