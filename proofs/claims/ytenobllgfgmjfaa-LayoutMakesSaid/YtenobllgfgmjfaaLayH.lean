/- The layout of a seed, whatever the sizes and the seed; the chapter's example; no condition. -/
import Derived.Test.YtenobllgfgmjfaaLayG
namespace Go.Proofs.Ytenobllgfgmjfaa
open Go.RowKit

def mkOk (ss : List Int) (seed : Int) : Bool := vsB ss && (decide (0 ≤ seed) && decide (seed ≤ 1073741824))
def outB (ss : List Int) (seed : Int) : List Int := if mkOk ss seed = true then mkB ss seed else []
def outK (ss : List Int) (seed : Int) : Int := if mkOk ss seed = true then mkK seed else 0
def outE (ss : List Int) (seed : Int) : Int := if mkOk ss seed = true then 0 else 1

theorem layout_Make_any (F : Nat → Prop) (B : Option Addr) (ss : List Int) (d : Nat) (seed : Int) (w : World) (hs : ss.length ≤ 9223372036854775807)
    (hF : ∀ k, F k → k < w.heap.size) (hS : Ints .i64 w F B ss) :
    Calls Try.prog 13 #[.slice B ss.length d, .int .i64 seed] w (MadeLayout (outB ss seed) (outK ss seed) (outE ss seed) w) := by
  by_cases h : mkOk ss seed = true
  · have h' := h
    simp only [mkOk, Bool.and_eq_true, decide_eq_true_eq] at h'
    simp only [outB, outK, outE, if_pos h]
    exact layout_Make_yes F B ss d seed w hs hF hS ((vsB_iff ss).1 h'.1) h'.2.1 h'.2.2
  · simp only [outB, outK, outE, if_neg h]
    refine layout_Make_no F B ss d seed w hs hF hS ?_
    cases hv : vsB ss
    · exact .inl rfl
    · right
      simp only [mkOk, hv, Bool.true_and, Bool.and_eq_true, decide_eq_true_eq] at h
      omega
theorem ref03_Make_any (F : Nat → Prop) (B : Option Addr) (ss : List Int) (d : Nat) (seed : Int) (w : World) (hs : ss.length ≤ 9223372036854775807)
    (hF : ∀ k, F k → k < w.heap.size) (hS : Ints .i64 w F B ss) :
    Calls Try.prog 9 #[.slice B ss.length d, .int .i64 seed] w (MadeLayout (outB ss seed) (outK ss seed) (outE ss seed) w) := by
  by_cases h : mkOk ss seed = true
  · have h' := h
    simp only [mkOk, Bool.and_eq_true, decide_eq_true_eq] at h'
    simp only [outB, outK, outE, if_pos h]
    exact ref03_Make_yes F B ss d seed w hs hF hS ((vsB_iff ss).1 h'.1) h'.2.1 h'.2.2
  · simp only [outB, outK, outE, if_neg h]
    refine ref03_Make_no F B ss d seed w hs hF hS ?_
    cases hv : vsB ss
    · exact .inl rfl
    · right
      simp only [mkOk, hv, Bool.true_and, Bool.and_eq_true, decide_eq_true_eq] at h
      omega

theorem ints_new {w : World} {xs : List Int} {t : TypeId} : Ints .i64 (w.alloc (.cells (xs.map (.int .i64)).toArray t)) (fun k => k = w.heap.size) (some ⟨w.heap.size, 0, none⟩) xs := by
  intro i hi
  refine ⟨_, _, rfl, rfl, ?_⟩
  rw [World.cell?_alloc_new, Nat.zero_add, List.getElem?_toArray]
  exact List.getElem?_eq_getElem hi

theorem mkB_42_0 : mkB [4, 2] 0 = [1, 6] := by decide
theorem mkB_42_1 : mkB [4, 2] 1 = [4, 1] := by decide
theorem VS_42 : VS [4, 2] := ⟨by decide, by decide, by decide⟩

theorem make42_0 (n : Nat) (w : World) (hn : n = w.heap.size) : Calls Try.prog 13 #[.slice (some ⟨n, 0, none⟩) 2 2, .int .i64 0] (w.alloc (.cells #[.int .i64 4, .int .i64 2] 3)) (MadeLayout [1, 6] 0 0 (w.alloc (.cells #[.int .i64 4, .int .i64 2] 3))) := by
  subst hn
  have h := layout_Make_yes (fun k => k = w.heap.size) (some ⟨w.heap.size, 0, none⟩) [4, 2] 2 0 (w.alloc (.cells #[.int .i64 4, .int .i64 2] 3)) (by decide) (by rintro k rfl; simp) ints_new VS_42 (by decide) (by decide)
  rwa [mkB_42_0] at h
theorem make42_1 (n : Nat) (w : World) (hn : n = w.heap.size) : Calls Try.prog 13 #[.slice (some ⟨n, 0, none⟩) 2 2, .int .i64 1] (w.alloc (.cells #[.int .i64 4, .int .i64 2] 3)) (MadeLayout [4, 1] 40503 0 (w.alloc (.cells #[.int .i64 4, .int .i64 2] 3))) := by
  subst hn
  have h := layout_Make_yes (fun k => k = w.heap.size) (some ⟨w.heap.size, 0, none⟩) [4, 2] 2 1 (w.alloc (.cells #[.int .i64 4, .int .i64 2] 3)) (by decide) (by rintro k rfl; simp) ints_new VS_42 (by decide) (by decide)
  rwa [mkB_42_1] at h

set_option maxHeartbeats 1000000 in
theorem awake_any (w : World) : Calls Try.prog 6 #[] w (BoolGrown true w) := by
  go_enter Try.func6, Try.ntmps6
  go_wp2_with fail
  refine (make42_0 _ _ rfl).mono ?_
  rintro e w1 ⟨A, c, rfl, hc, hm, hI, hg⟩
  obtain ⟨b1, o1, rfl, hF1, hc1⟩ := hI.at_ (i := 0) (by decide)
  obtain ⟨b1', o1', e1', hF1', hc2⟩ := hI.at_ (i := 1) (by decide)
  cases e1'
  have HG := Lib.hid hg
  have hF1 := hF1.2
  clear hI hg hF1' hm hc
  go_wp2_with fail
  refine (make42_1 _ _ (by simp)).mono ?_
  rintro e w2 ⟨A, c2, rfl, hc, hm, hI, hg2⟩
  obtain ⟨b2, o2, rfl, hF2, hd1⟩ := hI.at_ (i := 0) (by decide)
  obtain ⟨b2', o2', e2', hF2', hd2⟩ := hI.at_ (i := 1) (by decide)
  cases e2'
  have HG2 := Lib.hid hg2
  obtain ⟨hgc, hgf⟩ := gcell hg2
  have e0 : w2.cell? ⟨b1, o1, none⟩ = some (.int .i64 1) := by rw [hgc _ _ (by simp; omega)]; rw [World.cell?_alloc_lt _ _ _ (by simp; omega), World.cell?_alloc_lt _ _ _ (by simp; omega)]; exact hc1
  have e1 : w2.cell? ⟨b1, o1 + 1, none⟩ = some (.int .i64 6) := by rw [hgc _ _ (by simp; omega)]; rw [World.cell?_alloc_lt _ _ _ (by simp; omega), World.cell?_alloc_lt _ _ _ (by simp; omega)]; exact hc2
  have e2 : w2.cell? ⟨b2, o2, none⟩ = some (.int .i64 4) := hd1
  have e3 : w2.cell? ⟨b2, o2 + 1, none⟩ = some (.int .i64 1) := hd2
  have hF2 := hF2.2
  have hs12 : w1.heap.size < w2.heap.size := by have := hg2.size; simp at this; omega
  have hb12 : b1 < w2.heap.size := by omega
  clear hI hF2' hm hc hg2 hd1 hd2 hgf hc1 hc2
  go_wp2
  go_ret
  exact ⟨rfl, grown_alloc (grown_trans (grown_alloc (grown_alloc (grown_trans (grown_alloc (grown_refl _ _) _) HG.out) _) _) HG2.out) _⟩

end Go.Proofs.Ytenobllgfgmjfaa
