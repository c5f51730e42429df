/- An instruction with something changed; no condition. -/
import Derived.Test.YtenlhaondbmhnaaInsD
import Derived.Test.YtenlhaondbmhnaaBk
import Derived.Test.YtenlhaondbmhnaaDeck
import Derived.Deep.DeepCutAuto
import Derived.Deep.CutBlock
namespace Go.Proofs.Ytenlhaondbmhnaa
open Go.RowKit

def iv5 (op a b c i : Int) : List Value := [.int .i64 op, .int .i64 a, .int .i64 b, .int .i64 c, .int .i64 i]
def BentPost (w : World) (e : Ending) (w' : World) : Prop :=
  ∃ op a b c i : Int, e = .returned (.agg #[.int .i64 op, .int .i64 a, .int .i64 b, .int .i64 c, .int .i64 i]) ∧ w.grownBy w' none

/-- The world in the middle. -/
structure BentW (w : World) (q : Nat) (op a b c i : Int) (wx : World) : Prop where
  grown : w.grownBy wx none
  q0 : w.heap.size ≤ q
  x : Bk wx q 29 [.int .i64 op, .int .i64 a, .int .i64 b, .int .i64 c, .int .i64 i]
  r : Bk wx (q + 1) 29 [.int .i64 0, .int .i64 0, .int .i64 0, .int .i64 0, .int .i64 0]
theorem BentW.put {w wx : World} {q : Nat} {op a b c i op' a' b' c' i' : Int} (h : BentW w q op a b c i wx) (j : Nat) (v : Value)
    (he : [Value.int .i64 op, .int .i64 a, .int .i64 b, .int .i64 c, .int .i64 i].set j v = [.int .i64 op', .int .i64 a', .int .i64 b', .int .i64 c', .int .i64 i']) : BentW w q op' a' b' c' i' (wx.setCell ⟨q, j, none⟩ v) :=
  ⟨grown_set h.grown (.inr h.q0) v, h.q0, by rw [← he]; exact h.x.set j v, h.r.other (by omega) v⟩

set_option maxRecDepth 100000 in
set_option maxHeartbeats 1000000 in
theorem bent_any (op a b c i what by_ : Int) (w : World) (ha0 : -9223372036854775808 ≤ what) (ha1 : what ≤ 9223372036854775807) (hb0 : -9223372036854775808 ≤ by_) (hb1 : by_ ≤ 9223372036854775807) :
    Calls Try.prog 17 #[.agg #[.int .i64 op, .int .i64 a, .int .i64 b, .int .i64 c, .int .i64 i], .int .i64 what, .int .i64 by_] w (BentPost w) := by
  have HA := Lib.hid (And.intro ha0 ha1)
  have HBb := Lib.hid (And.intro hb0 hb1)
  clear ha0 ha1 hb0 hb1
  have H11 := Lib.hid (show 0 ≤ by_ % 11 ∧ by_ % 11 < 11 from ⟨Int.emod_nonneg _ (by decide), Int.emod_lt_of_pos _ (by decide)⟩)
  have H28 := Lib.hid (show 0 ≤ by_ % 28 ∧ by_ % 28 < 28 from ⟨Int.emod_nonneg _ (by decide), Int.emod_lt_of_pos _ (by decide)⟩)
  go_enter Try.func17, Try.ntmps17
  go_wp2_with fail
  refine (mod_any by_ 11 _ HBb.out.1 HBb.out.2 (by omega) (by omega)).mono ?_
  rintro e w' ⟨rfl, rfl⟩
  obtain ⟨k, hk⟩ := Int.eq_ofNat_of_zero_le H11.out.1
  have hk11 : k < 11 := by have := H11.out.2; omega
  have hki : (k : Int) < 11 := by omega
  rw [hk]
  clear H11 hk
  obtain ⟨v, hv⟩ : ∃ v : Int, [Value.int .i64 (-1), .int .i64 0, .int .i64 1, .int .i64 7, .int .i64 8, .int .i64 15, .int .i64 16, .int .i64 63, .int .i64 64, .int .i64 65535, .int .i64 65536][k]? = some (.int .i64 v) := by
    have : k = 0 ∨ k = 1 ∨ k = 2 ∨ k = 3 ∨ k = 4 ∨ k = 5 ∨ k = 6 ∨ k = 7 ∨ k = 8 ∨ k = 9 ∨ k = 10 := by omega
    rcases this with rfl | rfl | rfl | rfl | rfl | rfl | rfl | rfl | rfl | rfl | rfl <;> exact ⟨_, rfl⟩
  have g1 : w.grownBy (w.alloc (.cells #[.int .i64 op, .int .i64 a, .int .i64 b, .int .i64 c, .int .i64 i] 29)) none := grown_alloc (grown_refl _ _) _
  have b1 : Bk (w.alloc (.cells #[.int .i64 op, .int .i64 a, .int .i64 b, .int .i64 c, .int .i64 i] 29)) w.heap.size 29 [.int .i64 op, .int .i64 a, .int .i64 b, .int .i64 c, .int .i64 i] := Bk.new
  have s1 : (w.alloc (.cells #[.int .i64 op, .int .i64 a, .int .i64 b, .int .i64 c, .int .i64 i] 29)).heap.size = w.heap.size + 1 := by simp
  generalize w.alloc (.cells #[.int .i64 op, .int .i64 a, .int .i64 b, .int .i64 c, .int .i64 i] 29) = w1 at *
  have g2 : w1.grownBy (w1.alloc (.cells #[.int .i64 0, .int .i64 0, .int .i64 0, .int .i64 0, .int .i64 0] 29)) none := grown_alloc (grown_refl _ _) _
  have b2 : Bk (w1.alloc (.cells #[.int .i64 0, .int .i64 0, .int .i64 0, .int .i64 0, .int .i64 0] 29)) w1.heap.size 29 [.int .i64 0, .int .i64 0, .int .i64 0, .int .i64 0, .int .i64 0] := Bk.new
  have s2 : (w1.alloc (.cells #[.int .i64 0, .int .i64 0, .int .i64 0, .int .i64 0, .int .i64 0] 29)).heap.size = w.heap.size + 1 + 1 := by simp [s1]
  generalize w1.alloc (.cells #[.int .i64 0, .int .i64 0, .int .i64 0, .int .i64 0, .int .i64 0] 29) = w2 at *
  have g3 : w2.grownBy (w2.alloc (.cells #[.int .i64 (-1), .int .i64 0, .int .i64 1, .int .i64 7, .int .i64 8, .int .i64 15, .int .i64 16, .int .i64 63, .int .i64 64, .int .i64 65535, .int .i64 65536] 3)) none := grown_alloc (grown_refl _ _) _
  have b3 : Bk (w2.alloc (.cells #[.int .i64 (-1), .int .i64 0, .int .i64 1, .int .i64 7, .int .i64 8, .int .i64 15, .int .i64 16, .int .i64 63, .int .i64 64, .int .i64 65535, .int .i64 65536] 3)) w2.heap.size 3 [.int .i64 (-1), .int .i64 0, .int .i64 1, .int .i64 7, .int .i64 8, .int .i64 15, .int .i64 16, .int .i64 63, .int .i64 64, .int .i64 65535, .int .i64 65536] := Bk.new
  generalize w2.alloc (.cells #[.int .i64 (-1), .int .i64 0, .int .i64 1, .int .i64 7, .int .i64 8, .int .i64 15, .int .i64 16, .int .i64 63, .int .i64 64, .int .i64 65535, .int .i64 65536] 3) = w3 at *
  rw [s1] at b2
  rw [s2] at b3
  have hc := b3.cell k
  rw [hv] at hc
  have HW := Lib.hid (show BentW w w.heap.size op a b c i w3 from ⟨grown_trans (grown_trans g1 g2) g3, Nat.le_refl _, (b1.grow g2).grow g3, b2.grow g3⟩)
  have x0 := HW.out.x.free 0
  have x1 := HW.out.x.free 1
  have x2 := HW.out.x.free 2
  have x3 := HW.out.x.free 3
  have x4 := HW.out.x.free 4
  have xl := HW.out.x.hi
  have k0 := HW.out.x.cell 0
  have k1 := HW.out.x.cell 1
  have k2 := HW.out.x.cell 2
  have k3 := HW.out.x.cell 3
  have k4 := HW.out.x.cell 4
  simp only [List.getElem?_cons_zero, List.getElem?_cons_succ] at k0 k1 k2 k3 k4
  clear g1 g2 g3 b1 b2 b3 s1 s2 hv
  go_wp2_with fail
  refine (mod_any what 5 _ HA.out.1 HA.out.2 (by omega) (by omega)).mono ?_
  rintro e w' ⟨rfl, rfl⟩
  generalize what % 5 = m
  go_upto_block 0 with fail
  go_cut [14, 15, 21, 25, 29, 33] (fun _ _ _ _ _ _ wx => ∃ op a b c i : Int, BentW w w.heap.size op a b c i wx)
  case first =>
    by_cases m0 : m = 0
    · go_wp2_with fail
      refine (mod_any by_ 28 _ HBb.out.1 HBb.out.2 (by omega) (by omega)).mono ?_
      rintro e w' ⟨rfl, rfl⟩
      have h28a := H28.out.1
      have h28b := H28.out.2
      go_wp2_with fail
      go_meet
      exact ⟨_, _, _, _, _, HW.out.put 0 _ rfl⟩
    · by_cases m1 : m = 1
      · go_wp2_with fail
        go_meet
        exact ⟨_, _, _, _, _, HW.out.put 1 _ rfl⟩
      · by_cases m2 : m = 2
        · go_wp2_with fail
          go_meet
          exact ⟨_, _, _, _, _, HW.out.put 2 _ rfl⟩
        · by_cases m3 : m = 3
          · go_wp2_with fail
            go_meet
            exact ⟨_, _, _, _, _, HW.out.put 3 _ rfl⟩
          · by_cases m4 : m = 4
            · go_wp2_with fail
              go_meet
              exact ⟨_, _, _, _, _, HW.out.put 4 _ rfl⟩
            · go_wp2_with fail
              go_meet
              exact ⟨_, _, _, _, _, HW.out⟩
  case rest =>
  obtain ⟨op', a', b', c', i', hw⟩ := hcut
  have HX := Lib.hid hw
  clear hw k0 k1 k2 k3 k4 x0 x1 x2 x3 x4 xl hc HW
  have k0 := HX.out.x.cell 0
  have k1 := HX.out.x.cell 1
  have k2 := HX.out.x.cell 2
  have k3 := HX.out.x.cell 3
  have k4 := HX.out.x.cell 4
  have r0 := HX.out.r.cell 0
  have r1 := HX.out.r.cell 1
  have r2 := HX.out.r.cell 2
  have r3 := HX.out.r.cell 3
  have r4 := HX.out.r.cell 4
  simp only [List.getElem?_cons_zero, List.getElem?_cons_succ] at k0 k1 k2 k3 k4 r0 r1 r2 r3 r4
  have y0 := HX.out.r.free 0
  have y1 := HX.out.r.free 1
  have y2 := HX.out.r.free 2
  have y3 := HX.out.r.free 3
  have y4 := HX.out.r.free 4
  have xl := HX.out.x.hi
  have yl := HX.out.r.hi
  go_wp2_with fail
  refine bodyPost_ret (v := .agg #[.int .i64 op', .int .i64 a', .int .i64 b', .int .i64 c', .int .i64 i']) (by simp [results, Try.results17, go_sem, *]) rfl ?_
  refine ⟨op', a', b', c', i', rfl, ?_⟩
  repeat (first | exact HX.out.grown | refine grown_set ?_ (.inr (by dsimp only; omega)) _)

end Go.Proofs.Ytenlhaondbmhnaa
