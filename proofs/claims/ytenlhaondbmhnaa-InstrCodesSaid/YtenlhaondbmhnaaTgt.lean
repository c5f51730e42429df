/- What may follow an instruction: the document's answer; no condition. -/
import Derived.Test.YtenlhaondbmhnaaMem
namespace Go.Proofs.Ytenlhaondbmhnaa
open Go.RowKit

def tgt (op i pc : Int) : List Int :=
  if (op == 18 || op == 21) = true then [i]
  else if (op == 22 || op == 24) = true then []
  else if (op == 19 || op == 20) = true then (if i < pc + 1 then [i, pc + 1] else if pc + 1 < i then [pc + 1, i] else [pc + 1])
  else [pc + 1]
def TgtPost (xs : List Int) (w : World) (e : Ending) (w' : World) : Prop :=
  ∃ A c, e = .returned (.slice A xs.length c) ∧ Ints .i64 w' (New w w') A xs ∧ w.grownBy w' none
theorem new_ints {w w0 : World} {xs : List Int} {vs : Array Value} {t : TypeId} (h : w.heap.size ≤ w0.heap.size) (hv : vs = (xs.map (.int .i64)).toArray) : Ints .i64 (w0.alloc (.cells vs t)) (New w (w0.alloc (.cells vs t))) (some ⟨w0.heap.size, 0, none⟩) xs := by
  subst hv
  intro i hi
  refine ⟨_, _, rfl, ⟨h, by simp⟩, ?_⟩
  rw [World.cell?_alloc_new, Nat.zero_add, List.getElem?_toArray]
  exact List.getElem?_eq_getElem hi

set_option maxHeartbeats 1000000 in
theorem ref06_Targets_any (op a b c i pc : Int) (w : World) (h0 : 0 ≤ pc) (h1 : pc < 64) :
    Calls Try.prog 23 #[.agg #[.int .i64 op, .int .i64 a, .int .i64 b, .int .i64 c, .int .i64 i], .int .i64 pc] w (TgtPost (tgt op i pc) w) := by
  have ha : w.grownBy (w.alloc (.cells #[.int .i64 op, .int .i64 a, .int .i64 b, .int .i64 c, .int .i64 i] 29)) none := grown_alloc (grown_refl _ _) _
  have Ha := Lib.hid ha
  clear ha
  obtain ⟨xs, hxs⟩ : ∃ xs, xs = tgt op i pc := ⟨_, rfl⟩
  rw [← hxs]
  unfold tgt at hxs
  have Hxs := Lib.hid hxs
  clear hxs
  have fin1 : ∀ (v : Int), xs = [v] → TgtPost xs w (.returned (.slice (some ⟨w.heap.size + 1, 0, none⟩) 1 1)) ((w.alloc (.cells #[.int .i64 op, .int .i64 a, .int .i64 b, .int .i64 c, .int .i64 i] 29)).alloc (.cells #[.int .i64 v] 3)) := by
    rintro v rfl
    exact ⟨_, 1, rfl, by have := new_ints (w := w) (w0 := w.alloc (.cells #[.int .i64 op, .int .i64 a, .int .i64 b, .int .i64 c, .int .i64 i] 29)) (xs := [v]) (vs := #[.int .i64 v]) (t := 3) (by simp) rfl; simpa using this, grown_alloc Ha.out _⟩
  have fin2 : ∀ (u v : Int), xs = [u, v] → TgtPost xs w (.returned (.slice (some ⟨w.heap.size + 1, 0, none⟩) 2 2)) ((w.alloc (.cells #[.int .i64 op, .int .i64 a, .int .i64 b, .int .i64 c, .int .i64 i] 29)).alloc (.cells #[.int .i64 u, .int .i64 v] 3)) := by
    rintro u v rfl
    exact ⟨_, 2, rfl, by have := new_ints (w := w) (w0 := w.alloc (.cells #[.int .i64 op, .int .i64 a, .int .i64 b, .int .i64 c, .int .i64 i] 29)) (xs := [u, v]) (vs := #[.int .i64 u, .int .i64 v]) (t := 3) (by simp) rfl; simpa using this, grown_alloc Ha.out _⟩
  have Hf1 := Lib.hid fin1
  have Hf2 := Lib.hid fin2
  clear fin1 fin2
  cases j1 : (op == 18)
  · cases j2 : (op == 21)
    · cases r1 : (op == 22)
      · cases r2 : (op == 24)
        · cases z1 : (op == 19)
          · cases z2 : (op == 20)
            · have He := Lib.hid (show xs = [pc + 1] by rw [Hxs.out]; simp [*])
              go_enter Try.func23, Try.ntmps23
              go_wp2
              go_ret
              exact Hf1.out _ He.out
            · by_cases l1 : i < pc + 1
              · have He := Lib.hid (show xs = [i, pc + 1] by rw [Hxs.out]; simp [*])
                go_enter Try.func23, Try.ntmps23
                go_wp2
                go_ret
                exact Hf2.out _ _ He.out
              · by_cases l2 : pc + 1 < i
                · have He := Lib.hid (show xs = [pc + 1, i] by rw [Hxs.out]; simp [*])
                  go_enter Try.func23, Try.ntmps23
                  go_wp2
                  go_ret
                  exact Hf2.out _ _ He.out
                · have He := Lib.hid (show xs = [pc + 1] by rw [Hxs.out]; simp [*])
                  go_enter Try.func23, Try.ntmps23
                  go_wp2
                  go_ret
                  exact Hf1.out _ He.out
          · by_cases l1 : i < pc + 1
            · have He := Lib.hid (show xs = [i, pc + 1] by rw [Hxs.out]; simp [*])
              go_enter Try.func23, Try.ntmps23
              go_wp2
              go_ret
              exact Hf2.out _ _ He.out
            · by_cases l2 : pc + 1 < i
              · have He := Lib.hid (show xs = [pc + 1, i] by rw [Hxs.out]; simp [*])
                go_enter Try.func23, Try.ntmps23
                go_wp2
                go_ret
                exact Hf2.out _ _ He.out
              · have He := Lib.hid (show xs = [pc + 1] by rw [Hxs.out]; simp [*])
                go_enter Try.func23, Try.ntmps23
                go_wp2
                go_ret
                exact Hf1.out _ He.out
        · go_enter Try.func23, Try.ntmps23
          go_wp2
          go_ret
          have e : xs = [] := by rw [Hxs.out]; simp [*]
          subst e
          exact ⟨none, 0, rfl, Row.nil _ _ _, Ha.out⟩
      · go_enter Try.func23, Try.ntmps23
        go_wp2
        go_ret
        have e : xs = [] := by rw [Hxs.out]; simp [*]
        subst e
        exact ⟨none, 0, rfl, Row.nil _ _ _, Ha.out⟩
    · have He := Lib.hid (show xs = [i] by rw [Hxs.out]; simp [*])
      go_enter Try.func23, Try.ntmps23
      go_wp2
      go_ret
      exact Hf1.out _ He.out
  · have He := Lib.hid (show xs = [i] by rw [Hxs.out]; simp [*])
    go_enter Try.func23, Try.ntmps23
    go_wp2
    go_ret
    exact Hf1.out _ He.out

end Go.Proofs.Ytenlhaondbmhnaa
