/- Blocks that are known whole; no condition. -/
import Derived.Test.YtndmcnddgcifiaaMem
set_option linter.unusedVariables false
set_option linter.unusedSimpArgs false
namespace Go.Proofs.Ytndmcnddgcifiaa
open Go.RowKit

/-- Block q holds just these cells, none frozen. -/
def Bk (w : World) (q t : Nat) (vs : List Value) : Prop := w.heap[q]? = some (.cells vs.toArray t (0, 0))
theorem Bk.hi {w : World} {q t : Nat} {vs : List Value} (h : Bk w q t vs) : q < w.heap.size := (Array.getElem?_eq_some_iff.1 h).1
theorem Bk.keep {w w' : World} {q t : Nat} {vs : List Value} (h : Bk w q t vs) (hh : w'.heap[q]? = w.heap[q]?) : Bk w' q t vs := hh.trans h
theorem Bk.grow {w w' : World} {q t : Nat} {vs : List Value} (h : Bk w q t vs) (hg : w.grownBy w' none) : Bk w' q t vs := h.keep (hg.block _ h.hi (by simp))
theorem Bk.cell {w : World} {q t : Nat} {vs : List Value} (h : Bk w q t vs) (j : Nat) : w.cell? ⟨q, j, none⟩ = vs[j]? := by
  rw [cell_of_row _ _ _ _ _ _ h]; simp
theorem Bk.free {w : World} {q t : Nat} {vs : List Value} (h : Bk w q t vs) (j : Nat) : w.frozen? ⟨q, j, none⟩ = false := frozen_of_row _ _ _ _ _ h
theorem Bk.new {w : World} {t : Nat} {vs : List Value} : Bk (w.alloc (.cells vs.toArray t)) w.heap.size t vs := heap_alloc_new w _
theorem Bk.set {w : World} {q t : Nat} {vs : List Value} (h : Bk w q t vs) (j : Nat) (v : Value) : Bk (w.setCell ⟨q, j, none⟩ v) q t (vs.set j v) := by
  unfold Bk; rw [heap_setCell_same _ _ _ _ _ _ h]; simp
theorem Bk.other {w : World} {q t q' j : Nat} {vs : List Value} (h : Bk w q t vs) (hne : q ≠ q') (v : Value) : Bk (w.setCell ⟨q', j, none⟩ v) q t vs := by
  unfold Bk; rw [heap_setCell_other _ _ _ _ hne]; exact h
theorem Bk.drew {w : World} {q t : Nat} {vs : List Value} (h : Bk w q t vs) : Bk w.drew q t vs := h

end Go.Proofs.Ytndmcnddgcifiaa
