/- A map from numbers to cells, told by what each number below 70 reads; no condition. -/
import Derived.Test.YtndmcnddgcifiaaLooks
import Derived.Maps.Own
import Derived.Maps.OwnOps
import Derived.Maps.Views
set_option linter.unusedVariables false
set_option linter.unusedSimpArgs false
namespace Go.Proofs.Ytndmcnddgcifiaa
open Go.RowKit Go.Maps

def cD (c : Cel) : DataW Unit := .agg [.lit (.int .u8 c.1), .lit (.int .u16 c.2)]
theorem cD_inj {a b : Cel} (h : cD a = cD b) : a = b := by
  unfold cD at h
  simp at h
  exact Prod.ext h.1 h.2
def rC (v : Value) : Option (DataW Unit × List MemPlace) :=
  match v with
  | .agg ⟨[.int .u8 a, .int .u16 b]⟩ => some (cD (a, b), [])
  | _ => none
theorem rC_mk (c : Cel) : rC (.agg #[.int .u8 c.1, .int .u16 c.2]) = some (cD c, []) := rfl
theorem rC_inv {v : Value} {c : Cel} {ps : List MemPlace} (h : rC v = some (cD c, ps)) : v = .agg #[.int .u8 c.1, .int .u16 c.2] := by
  unfold rC at h
  split at h
  · injection h with h
    injection h with h _
    have := cD_inj h
    subst this
    rfl
  · cases h
theorem keyLaw : Keyed Try.prog 3 := int_keyed Try.underlying3
def PM (w : World) (b n : Nat) (f : Nat → Cel) : Prop := ∃ D, w.ownsMap Try.prog 3 rC b n D ∧ ∀ k : Nat, k < 70 → D.atKey (.int .i64 k) (cD (0, 0)) = cD (f k)
theorem key_of {k : Nat} (hk : k < 70) : keyOf Try.prog 3 (.int .i64 k) = some (.int .i64 k) :=
  keyOf_int_mk Try.underlying3 (by simp [Lit.wf, IntKind.min, IntKind.max, IntKind.signed, IntKind.bits]; omega)
theorem PM.made (w : World) : PM (w.alloc (.map #[] 0)) w.heap.size 0 fun _ => (0, 0) := ⟨_, World.ownsMap_made _ _ _ _, fun _ _ => rfl⟩
theorem PM.kept {w w' : World} {b n : Nat} {f : Nat → Cel} {row : Option Nat} (h : PM w b n f) (hg : w.grownBy w' row) (hne : some b ≠ row) : PM w' b n f :=
  let ⟨D, h1, h2⟩ := h; ⟨D, h1.kept hg hne, h2⟩
theorem zeroC (w : World) : (zeroValue 30).run Try.prog w = .ok (.agg #[.int .u8 0, .int .u16 0]) w := by kernel_rfl
theorem PM.lookup {w : World} {b n : Nat} {f : Nat → Cel} (h : PM w b n f) {k : Nat} (hk : k < 70) :
    (Instr.lookup 50 (.map (some b)) (.int .i64 k) false).run Try.prog w = .ok (.agg #[.int .u8 (f k).1, .int .u16 (f k).2]) w := by
  obtain ⟨D, h1, h2⟩ := h
  obtain ⟨v, ps, hr, hv⟩ := h1.lookup (t := 50) keyLaw Try.underlying50 (zeroC w) (rC_mk (0, 0)) (key_of hk)
  rw [h2 k hk] at hv
  rw [hr, rC_inv hv]
theorem PM.update {w : World} {b n : Nat} {f : Nat → Cel} (h : PM w b n f) (hn : n < 100) {k : Nat} (hk : k < 70) (c : Cel) :
    ∃ w', (Instr.mapUpdate 50 (.map (some b)) (.int .i64 k) (.agg #[.int .u8 c.1, .int .u16 c.2])).run Try.prog w = .ok () w' ∧ PM w' b (n + 1) (fun j => if j = k then c else f j) ∧ w.grownBy w' (some b) := by
  obtain ⟨D, h1, h2⟩ := h
  obtain ⟨w', hr, h3, hg⟩ := h1.update (t := 50) keyLaw Try.underlying50 (by unfold maxLen; omega) (key_of hk) (rC_mk c)
  refine ⟨w', hr, ⟨_, h3, fun j hj => ?_⟩, hg⟩
  by_cases e : j = k
  · subst e
    simp only [if_pos]
    exact atKey_put_same h1.isMap (by first | trivial | exact ⟨⟩ | simp [WideAt.IsKeyLit] | (unfold WideAt.IsKeyLit; trivial)) _ _
  · simp only [if_neg e]
    rw [atKey_put_other (by intro h; injection h with _ h; exact e (by omega))]
    exact h2 j hj

end Go.Proofs.Ytndmcnddgcifiaa
