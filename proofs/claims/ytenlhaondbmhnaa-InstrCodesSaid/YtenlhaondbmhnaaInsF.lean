/- The example of chapter 6; no condition. -/
import Derived.Test.YtenlhaondbmhnaaInsD
import Derived.Test.YtenlhaondbmhnaaStr
namespace Go.Proofs.Ytenlhaondbmhnaa
open Go.RowKit

theorem awake_any (w : World) : Calls Try.prog 8 #[] w (BoolGrown true w) := by
  go_enter Try.func8, Try.ntmps8
  go_wp2_with fail
  refine (instr_Encode_yes 1 1 0 0 258 _ rfl).mono ?_
  rintro e w1 ⟨A, rfl, hA, hg⟩
  have hc := str_run 6 hA
  have es : strOfNums [1, 1, 0, 0, 258 / 256, 258 % 256] = ⟨#[1, 1, 0, 0, 1, 2]⟩ := by decide
  rw [es] at hc
  simp only [List.length_cons, List.length_nil, Nat.zero_add, Nat.reduceAdd] at hc
  clear hA es
  have Hg := Lib.hid hg
  clear hg
  go_wp2_with (go_at_call 19; refine (instr_Branch_any _ _).mono ?_; rintro e w2 ⟨rfl, rfl⟩)
  go_ret
  exact ⟨rfl, Hg.out⟩

end Go.Proofs.Ytenlhaondbmhnaa
