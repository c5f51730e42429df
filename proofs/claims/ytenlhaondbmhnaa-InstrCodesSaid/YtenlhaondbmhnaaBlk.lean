/- Blocks that are known whole, above the deck; no condition. -/
import Derived.Test.YtenlhaondbmhnaaLaw
namespace Go.Proofs.Ytenlhaondbmhnaa
open Go.RowKit

/-- Block q, above g, holds just these cells, none frozen. -/
structure Blk (g : Nat) (w : World) (q t : Nat) (vs : List Value) : Prop where
  lo : g < q
  eq : w.heap[q]? = some (.cells vs.toArray t (0, 0))
theorem Blk.hi {g : Nat} {w : World} {q t : Nat} {vs : List Value} (h : Blk g w q t vs) : q < w.heap.size := (Array.getElem?_eq_some_iff.1 h.eq).1
theorem Blk.up {g : Nat} {w w' : World} {q t : Nat} {vs : List Value} (h : Blk g w q t vs) (u : Up g w w') : Blk g w' q t vs :=
  ⟨h.lo, (u.2 q h.hi (by have := h.lo; omega)).trans h.eq⟩
theorem Blk.cell {g : Nat} {w : World} {q t : Nat} {vs : List Value} (h : Blk g w q t vs) (j : Nat) : w.cell? ⟨q, j, none⟩ = vs[j]? := by
  rw [cell_of_row _ _ _ _ _ _ h.eq]; simp
theorem Blk.free {g : Nat} {w : World} {q t : Nat} {vs : List Value} (h : Blk g w q t vs) (j : Nat) : w.frozen? ⟨q, j, none⟩ = false := frozen_of_row _ _ _ _ _ h.eq
theorem Blk.new {g : Nat} {w : World} {t : Nat} {vs : List Value} (hg : g < w.heap.size) : Blk g (w.alloc (.cells vs.toArray t)) w.heap.size t vs := ⟨hg, heap_alloc_new w _⟩
theorem Blk.set {g : Nat} {w : World} {q t : Nat} {vs : List Value} (h : Blk g w q t vs) (j : Nat) (v : Value) : Blk g (w.setCell ⟨q, j, none⟩ v) q t (vs.set j v) :=
  ⟨h.lo, by rw [heap_setCell_same _ _ _ _ _ _ h.eq]; simp⟩
theorem Blk.other {g : Nat} {w : World} {q t q' j : Nat} {vs : List Value} (h : Blk g w q t vs) (hne : q ≠ q') (v : Value) : Blk g (w.setCell ⟨q', j, none⟩ v) q t vs :=
  ⟨h.lo, by rw [heap_setCell_other _ _ _ _ hne]; exact h.eq⟩
theorem Deals.up {F : Nat → Prop} {g : Nat} {L : List Int} {w w' : World} (h : Deals F g L w w') : Up g w w' := Up.of_deck h.2

end Go.Proofs.Ytenlhaondbmhnaa
