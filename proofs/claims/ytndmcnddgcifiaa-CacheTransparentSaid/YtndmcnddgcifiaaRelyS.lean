/- A drawn region that makes a struct out of what its calls hand back: the relation; no condition. -/
import Derived.Test.YtndmcnddgcifiaaRely
import Derived.Test.YtndmcnddgcifiaaRpA
import Derived.Test.YtndmcnddgcifiaaBk
set_option linter.unusedVariables false
set_option linter.unusedSimpArgs false
namespace Go.Proofs.Ytndmcnddgcifiaa
open Go.RowKit

section
variable {N : Nat} {t : TypeId} {z : List Value} {Good : List Value → World → Prop}
def GoodB (t : TypeId) (Good : List Value → World → Prop) (q : Nat) (w : World) : Prop := ∃ vs, Bk w q t vs ∧ Good vs w
/-- Blocks turn only where they are of type t, at N or above: to something good. -/
def RZ (N : Nat) (t : TypeId) (z : List Value) (Good : List Value → World → Prop) (w w' : World) : Prop :=
  w.heap.size ≤ w'.heap.size ∧ (∀ k, k < w.heap.size → (k < N ∨ ∀ cs, w.heap[k]? ≠ some (.cells cs t (0, 0))) → w'.heap[k]? = w.heap[k]?) ∧
  (∀ k, N ≤ k → Bk w k t z → Bk w' k t z ∨ GoodB t Good k w') ∧ ∀ k, N ≤ k → GoodB t Good k w → GoodB t Good k w'
def GoodK (t : TypeId) (N : Nat) (Good : List Value → World → Prop) : Prop := ∀ vs w w', w.heap.size ≤ w'.heap.size → (∀ k, k < w.heap.size → (k < N ∨ ∀ cs, w.heap[k]? ≠ some (.cells cs t (0, 0))) → w'.heap[k]? = w.heap[k]?) → Good vs w → Good vs w'
theorem RZ.refl (w : World) : RZ N t z Good w w := ⟨Nat.le_refl _, fun _ _ _ => rfl, fun _ _ h => .inl h, fun _ _ h => h⟩
theorem RZ.grown (hG : GoodK t N Good) {w w' : World} (h : w.grownBy w' none) : RZ N t z Good w w' :=
  ⟨h.size, fun k hk _ => h.block k hk (by simp), fun k _ hb => .inl (hb.grow h), fun k _ ⟨vs, h1, h2⟩ => ⟨vs, h1.grow h, hG _ _ _ h.size (fun k hk _ => h.block k hk (by simp)) h2⟩⟩
/-- The struct block that the region makes. -/
def SNewB (N : Nat) (t : TypeId) (z : List Value) (Good : List Value → World → Prop) (v : Value) (w : World) : Prop := ∃ q, v = .pointer (some ⟨q, 0, none⟩) ∧ N ≤ q ∧ (Bk w q t z ∨ GoodB t Good q w)
/-- .. and as it is in the end. -/
def SPutB (N : Nat) (t : TypeId) (Good : List Value → World → Prop) (v : Value) (w : World) : Prop := ∃ q, v = .pointer (some ⟨q, 0, none⟩) ∧ N ≤ q ∧ GoodB t Good q w
theorem SNewB.kept (w w' : World) (v : Value) (hr : RZ N t z Good w w') (h : SNewB N t z Good v w) : SNewB N t z Good v w' := by
  obtain ⟨q, e, hq, h | h⟩ := h
  · exact ⟨q, e, hq, hr.2.2.1 q hq h⟩
  · exact ⟨q, e, hq, .inr (hr.2.2.2 q hq h)⟩
theorem SPutB.kept (w w' : World) (v : Value) (hr : RZ N t z Good w w') (h : SPutB N t Good v w) : SPutB N t Good v w' :=
  let ⟨q, e, hq, h⟩ := h; ⟨q, e, hq, hr.2.2.2 q hq h⟩
theorem SNewB.new (hG : GoodK t N Good) {w : World} (hN : N ≤ w.heap.size) : SNewB N t z Good (.pointer (some ⟨w.heap.size, 0, none⟩)) (w.alloc (.cells z.toArray t)) := ⟨_, rfl, hN, .inl Bk.new⟩
theorem SNewB.bk {v : Value} {w : World} (h : SNewB N t z Good v w) (hz : ∀ vs w, Good vs w → vs.length = z.length) : ∃ q vs, v = .pointer (some ⟨q, 0, none⟩) ∧ N ≤ q ∧ Bk w q t vs ∧ vs.length = z.length := by
  obtain ⟨q, e, hq, h | ⟨vs, h1, h2⟩⟩ := h
  · exact ⟨q, z, e, hq, h, rfl⟩
  · exact ⟨q, vs, e, hq, h1, hz _ _ h2⟩
/-- The store. -/
theorem RZ.put (hG : GoodK t N Good) {w w' : World} {q : Nat} {us vs : List Value} (hq : N ≤ q) (h : Bk w q t us) (hs : w.heap.size = w'.heap.size) (hk : ∀ k, k ≠ q → w'.heap[k]? = w.heap[k]?) (hv : Bk w' q t vs) (hg : Good vs w) : RZ N t z Good w w' ∧ GoodB t Good q w' := by
  have hkeep : ∀ k, k < w.heap.size → (k < N ∨ ∀ cs, w.heap[k]? ≠ some (.cells cs t (0, 0))) → w'.heap[k]? = w.heap[k]? := fun k _ hc => hk k (by
    rintro rfl
    rcases hc with hc | hc
    · omega
    · exact hc _ h)
  have h1 : GoodB t Good q w' := ⟨vs, hv, hG _ _ _ (Nat.le_of_eq hs) hkeep hg⟩
  refine ⟨⟨Nat.le_of_eq hs, hkeep, fun k _ hb => ?_, fun k _ hb => ?_⟩, h1⟩
  · by_cases e : k = q
    · subst e; exact .inr h1
    · exact .inl (hb.keep (hk k e))
  · by_cases e : k = q
    · subst e; exact h1
    · obtain ⟨us', g1, g2⟩ := hb
      exact ⟨us', g1.keep (hk k e), hG _ _ _ (Nat.le_of_eq hs) hkeep g2⟩
theorem Bk.set2 {w : World} {q t : Nat} {x y : Value} (h : Bk w q t [x, y]) (a b : Value) : Bk ((w.setCell ⟨q, 0, none⟩ a).setCell ⟨q, 1, none⟩ b) q t [a, b] := (h.set 0 a).set 1 b
theorem RZ.put2 (hG : GoodK t N Good) {w : World} {q : Nat} {us : List Value} {a b : Value} (hq : N ≤ q) (h : Bk w q t us) (hl : us.length = 2) (hg : Good [a, b] w) :
    RZ N t z Good w ((w.setCell ⟨q, 0, none⟩ a).setCell ⟨q, 1, none⟩ b) ∧ GoodB t Good q ((w.setCell ⟨q, 0, none⟩ a).setCell ⟨q, 1, none⟩ b) := by
  match us, hl with
  | [x, y], _ => exact RZ.put hG hq h (by rw [set_size, set_size]) (fun k hk => by rw [heap_setCell_other _ _ _ _ hk, heap_setCell_other _ _ _ _ hk]) (h.set2 a b) hg
/-- A list in the making is kept. -/
theorem Mk.stays {α : Type} {R : Rp α} {e : TypeId} (hne : e ≠ t) {base : Nat} {G : Nat → Prop} (hG : ∀ k, G k → k < N) {v : Value} {xs : List α} {w w' : World} (hs : w.heap.size ≤ w'.heap.size)
    (hr : ∀ k, k < w.heap.size → (k < N ∨ ∀ cs, w.heap[k]? ≠ some (.cells cs t (0, 0))) → w'.heap[k]? = w.heap[k]?) (h : Mk R e base w G v xs) : Mk R e base w' G v xs := by
  obtain ⟨cs, h1, h2, h3⟩ := h
  refine ⟨cs, ⟨h1.1, ?_⟩, h2, (Reps.keep (w' := w') (fun k hk => hr k hk.2 (.inl (hG k hk.1.1))) h3.live).sub fun k hk => hk.1⟩
  rcases h1.2 with h | ⟨g, cap, cur, e1, hb, hgg, h⟩
  · exact .inl h
  · refine .inr ⟨g, cap, cur, e1, hb, ?_, h⟩
    rw [hr g (Array.getElem?_eq_some_iff.1 hgg).1 (.inr fun cs hz => ?_)]
    · exact hgg
    · have e := Option.some.inj (hgg.symm.trans hz)
      injection e with _ e; exact hne e
end
def SMk {α : Type} (R : Rp α) (e : TypeId) (base : Nat) (G : Nat → Prop) (xs : List α) (v : Value) (w : World) : Prop := Mk R e base w G v xs
theorem SMk.kept {α : Type} {R : Rp α} {e t : TypeId} {N base : Nat} {z : List Value} {Good : List Value → World → Prop} {G : Nat → Prop} {xs : List α} (hne : e ≠ t) (hG : ∀ k, G k → k < N) (w w' : World) (v : Value) (hr : RZ N t z Good w w') (h : SMk R e base G xs v w) : SMk R e base G xs v w' :=
  Mk.stays hne hG hr.1 hr.2.1 h
theorem Mk.base {α : Type} {R : Rp α} {e : TypeId} {base base' : Nat} {w : World} {G : Nat → Prop} {v : Value} {xs : List α} (h : Mk R e base w G v xs) (hb : base' ≤ base) : Mk R e base' w G v xs := by
  obtain ⟨cs, h1, h2⟩ := h
  refine ⟨cs, ⟨h1.1, ?_⟩, h2⟩
  rcases h1.2 with h | ⟨g, cap, cur, e1, hb1, h⟩
  · exact .inl h
  · exact .inr ⟨g, cap, cur, e1, Nat.le_trans hb hb1, h⟩

end Go.Proofs.Ytndmcnddgcifiaa
