/- What may follow an instruction: the program's own answer, by the library's sort; no condition. -/
import Derived.Test.YtenlhaondbmhnaaTgt
import Derived.Test.YtenlhaondbmhnaaBk
import Derived.Test.YtenlhaondbmhnaaShelf
namespace Go.Proofs.Ytenlhaondbmhnaa
open Go.RowKit Go.Sort

theorem grown_putRow {α : Type} [Inhabited α] (enc : α → Value) {a b : World} {row : Option Nat} (h : a.grownBy b row) (q off : Nat) (d : Array α) (hq : some q = row ∨ a.heap.size ≤ q) : a.grownBy (putRow enc b q off d) row :=
  ⟨h.os, h.tape, h.output, by simpa [putRow, mapBlock] using h.size, fun k hk hr => by
    have hne : q ≠ k := by
      rintro rfl
      rcases hq with hq | hq
      · exact hr hq
      · omega
    rw [← h.block k hk hr]
    simp only [putRow, mapBlock, Array.getElem?_modify]
    rw [if_neg hne]⟩
theorem grown_grow {a b : World} {row : Option Nat} (h : a.grownBy b row) (os : Array Obj) : a.grownBy (Sort.grow b os) row :=
  ⟨h.os, h.tape, h.output, by have := h.size; simp [Sort.grow]; omega, fun k hk hr => by
    rw [heap_grow_old _ _ (Nat.lt_of_lt_of_le hk h.size)]; exact h.block k hk hr⟩
theorem grown_ahead {a b : World} {row : Option Nat} (h : a.grownBy b row) (n : Nat) : a.grownBy (Sort.ahead b n) row := ⟨h.os, h.tape, h.output, h.size, h.block⟩

def msort (zs : List Int) : List Int := zs.mergeSort fun x y => decide (x ≤ y)
def SortPost (q : Nat) (zs : List Int) (w : World) (e : Ending) (w' : World) : Prop :=
  e = .returned (.tuple #[]) ∧ Holds (Value.int .i64) w' q 0 (msort zs).toArray ∧ w.grownBy w' (some q) ∧ q < w'.heap.size
theorem sort_any (q c : Nat) (zs : List Int) (w : World) (hH : Holds (Value.int .i64) w q 0 zs.toArray) (hq : q < w.heap.size) (hz : zs.length ≤ 1000) :
    Calls Try.prog 33 #[.slice (some ⟨q, 0, none⟩) zs.length c] w (SortPost q zs w) := by
  refine (Try.slices_Sort_int q 0 c zs w hH hq (by omega)).mono ?_
  rintro e w' ⟨rfl, n, os, rfl⟩
  have hl : (msort zs).toArray.size = zs.toArray.size := by simp [msort]
  have h1 := holds_putRow (Value.int .i64) (Sort.ahead w n) q 0 zs.toArray (msort zs).toArray (holds_ahead _ _ _ _ _ _ hH) hl
  have hs : q < (putRow (Value.int .i64) (Sort.ahead w n) q 0 (msort zs).toArray).heap.size := by simpa [putRow, mapBlock, Sort.ahead] using hq
  refine ⟨rfl, holds_grow _ _ _ _ _ _ hs h1, grown_grow (grown_putRow _ (grown_ahead (grown_refl _ _) _) _ _ _ (.inl rfl)) _, by simp [Sort.grow]; omega⟩

def CompactPost (q : Nat) (zs : List Int) (c : Nat) (w : World) (e : Ending) (w' : World) : Prop :=
  e = .returned (.slice (some ⟨q, 0, none⟩) (Lib.compact zs).length c) ∧ Ints .i64 w' (fun k => k = q) (some ⟨q, 0, none⟩) (Lib.compact zs) ∧ w.grownBy w' (some q)
theorem compact_any (q c : Nat) (zs : List Int) (w : World) (hH : Holds (Value.int .i64) w q 0 zs.toArray) (hz : zs.length ≤ 1000) (hc : zs.length ≤ c) (hlen : (Lib.compact zs).length ≤ zs.length) :
    Calls Try.prog 34 #[.slice (some ⟨q, 0, none⟩) zs.length c] w (CompactPost q zs c w) := by
  refine (Try.slices_Compact_int q 0 c zs w hH (by omega) hc).mono ?_
  rintro e w' ⟨rfl, n, rfl⟩
  have hl : (Lib.compact zs ++ List.replicate (zs.length - (Lib.compact zs).length) 0).toArray.size = zs.toArray.size := by simp; omega
  have h1 := holds_putRow (Value.int .i64) (Sort.ahead w n) q 0 zs.toArray _ (holds_ahead _ _ _ _ _ _ hH) hl
  refine ⟨rfl, ?_, grown_putRow _ (grown_ahead (grown_refl _ _) _) _ _ _ (.inl rfl)⟩
  intro j hj
  have hj' : j < (Lib.compact zs).length := by simpa using hj
  have h2 := (h1 j (by simp; omega)).1
  refine ⟨q, 0, rfl, rfl, h2.trans ?_⟩
  rw [getElem!_pos _ j (by simp; omega)]
  simp [List.getElem_append, hj']

theorem msort1 (x : Int) : msort [x] = [x] := by simp [msort]
theorem msort2 (x y : Int) : msort [x, y] = if x ≤ y then [x, y] else [y, x] := by
  by_cases h : x ≤ y
  · rw [if_pos h]
    exact List.mergeSort_of_pairwise (by simp [h])
  · rw [if_neg h]
    have hp : [x, y].Perm [y, x] := List.Perm.swap y x []
    have h1 := List.mergeSort_perm [x, y] (fun a b : Int => decide (a ≤ b))
    have h2 := List.pairwise_mergeSort (le := fun a b : Int => decide (a ≤ b)) (by intro a b c; simp; omega) (by intro a b; simp; omega) [x, y]
    refine List.Perm.eq_of_pairwise (le := fun a b : Int => decide (a ≤ b) = true) (by intro a b _ _ h h'; simp at h h'; omega) h2 (by simp; omega) (h1.trans hp)
theorem compact1 (x : Int) : Lib.compact [x] = [x] := by simp [Lib.compact, Lib.compactUpTo, Lib.keeps]
theorem compact2 (x y : Int) : Lib.compact [x, y] = if x = y then [x] else [x, y] := by
  show ((List.range 2).filter (Lib.keeps #[x, y])).map (fun j => (#[x, y] : Array Int)[j]!) = _
  rw [show List.range 2 = [0, 1] from rfl]
  by_cases h : x = y
  · subst h
    simp [List.filter, Lib.keeps]
  · simp [List.filter, Lib.keeps, h, Ne.symm h]

/-- What the two make of an instruction's list. -/
theorem targ1 (x : Int) : Lib.compact (msort [x]) = [x] := by rw [msort1, compact1]
theorem targ2 (x y : Int) : Lib.compact (msort [x, y]) = if x < y then [x, y] else if y < x then [y, x] else [y] := by
  rw [msort2]
  by_cases h : x ≤ y
  · rw [if_pos h, compact2]
    by_cases h2 : x = y
    · subst h2; simp
    · rw [if_neg h2, if_pos (by omega)]
  · rw [if_neg h, compact2, if_neg (by omega), if_neg (by omega), if_pos (by omega)]
theorem holds_new {w : World} {t : TypeId} (zs : List Int) : Holds (Value.int .i64) (w.alloc (.cells (zs.map (.int .i64)).toArray t)) w.heap.size 0 zs.toArray := by
  intro j hj
  have hj' : j < zs.length := by simpa using hj
  refine ⟨?_, World.frozen?_alloc_at _ _ _ _ rfl⟩
  rw [World.cell?_alloc_new, Nat.zero_add, getElem!_pos _ j hj]
  simp [hj']

end Go.Proofs.Ytenlhaondbmhnaa
