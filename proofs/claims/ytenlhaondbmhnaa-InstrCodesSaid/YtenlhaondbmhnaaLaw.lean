/- Facts on memory above the deck, as a law goes from call to call; no condition. -/
import Derived.Test.YtenlhaondbmhnaaDeck
import Derived.Test.YtenlhaondbmhnaaRely
namespace Go.Proofs.Ytenlhaondbmhnaa
open Go.RowKit

/-- Blocks above g are as they were. -/
def Up (g : Nat) (w w' : World) : Prop := RK (fun b => b ≤ g) w w'
theorem Up.of_none {g : Nat} {w w' : World} (h : w.grownBy w' none) : Up g w w' := RK.grown0 h
theorem Up.of_deck {g : Nat} {w w' : World} (h : w.grownBy w' (some g)) : Up g w w' := RK.grown h (Nat.le_refl g)
theorem Up.trans {g : Nat} {a b c : World} (h : Up g a b) (h' : Up g b c) : Up g a c :=
  ⟨Nat.le_trans h.1 h'.1, fun k hk hx => (h'.2 k (Nat.lt_of_lt_of_le hk h.1) hx).trans (h.2 k hk hx)⟩
theorem Up.alloc (g : Nat) (w : World) (o : Obj) : Up g w (w.alloc o) := RK.alloc _ _ _
theorem Up.size {g : Nat} {w w' : World} (h : Up g w w') : w.heap.size ≤ w'.heap.size := h.1

/-- A cell above the deck. -/
structure Cl (g : Nat) (w : World) (q o : Nat) (v : Value) : Prop where
  lo : g < q
  hi : q < w.heap.size
  eq : w.cell? ⟨q, o, none⟩ = some v
theorem Cl.up {g : Nat} {w w' : World} {q o : Nat} {v : Value} (h : Cl g w q o v) (u : Up g w w') : Cl g w' q o v :=
  ⟨h.lo, Nat.lt_of_lt_of_le h.hi u.1, (RK.cell u h.hi (by have := h.lo; omega)).trans h.eq⟩
theorem Cl.new {g : Nat} {w : World} {c : Array Value} {t o : Nat} {v : Value} (hg : g < w.heap.size) (h : c[o]? = some v) : Cl g (w.alloc (.cells c t)) w.heap.size o v :=
  ⟨hg, by simp, (World.cell?_alloc_new _ _ _ _).trans h⟩

def IntsU (g : Nat) (w : World) (A : Option Addr) (xs : List Int) : Prop := Ints .i64 w (fun k => g < k ∧ k < w.heap.size) A xs
theorem IntsU.up {g : Nat} {w w' : World} {A : Option Addr} {xs : List Int} (h : IntsU g w A xs) (u : Up g w w') : IntsU g w' A xs :=
  Row.sub (Ints.keep h (F := fun k => g < k ∧ k < w.heap.size) fun k hk => u.2 k hk.2 (by have := hk.1; omega)) fun k hk => ⟨hk.1, Nat.lt_of_lt_of_le hk.2 u.1⟩
theorem IntsU.new {g : Nat} {w w' : World} {A : Option Addr} {xs : List Int} (h : Ints .i64 w' (New w w') A xs) (hg : g < w.heap.size) : IntsU g w' A xs :=
  Row.sub h fun k hk => ⟨by have := hk.1; omega, hk.2⟩
theorem IntsU.low {g : Nat} {w : World} {A : Option Addr} {xs : List Int} (h : IntsU g w A xs) : Ints .i64 w (fun k => k < w.heap.size) A xs := Row.sub h fun _ hk => hk.2

/-- The world of a law whose deck is the first block that it made. -/
structure LawW (w0 : World) (L : List Int) (w : World) : Prop where
  grown : w0.grownBy w none
  deck : ∃ j, DeckAt w (fun k => k < w0.heap.size) w0.heap.size L j
theorem LawW.lt {w0 w : World} {L : List Int} (h : LawW w0 L w) : w0.heap.size < w.heap.size := let ⟨_, hj⟩ := h.deck; hj.lt
theorem LawW.low {w0 w : World} {L : List Int} (h : LawW w0 L w) : ∀ k, k < w0.heap.size → k < w.heap.size := fun k hk => by have := h.lt; omega
theorem LawW.none {w0 w w' : World} {L : List Int} (h : LawW w0 L w) (hg : w.grownBy w' none) : LawW w0 L w' := by
  obtain ⟨j, hj⟩ := h.deck
  exact ⟨grown_trans h.grown hg, j, hj.agree hg.size fun k hk => hg.block k (by rcases hk with hk | rfl; exact h.low k hk; exact hj.lt) (by simp)⟩
theorem LawW.deal {w0 w w' : World} {L : List Int} (h : LawW w0 L w) (hd : Deals (fun k => k < w0.heap.size) w0.heap.size L w w') : LawW w0 L w' :=
  ⟨grown_fresh h.grown hd.2 (Nat.le_refl _), hd.1⟩
theorem LawW.alloc {w0 w : World} {L : List Int} (h : LawW w0 L w) (o : Obj) : LawW w0 L (w.alloc o) := h.none (grown_alloc (grown_refl _ _) _)

end Go.Proofs.Ytenlhaondbmhnaa
