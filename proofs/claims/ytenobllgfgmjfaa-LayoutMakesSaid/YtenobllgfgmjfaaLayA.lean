/- Sizes and layouts: which are valid; no condition. -/
import Derived.Test.YtenobllgfgmjfaaSizes
namespace Go.Proofs.Ytenobllgfgmjfaa
open Go.RowKit

/-- Sizes are valid, as a truth value. -/
def vsB (xs : List Int) : Bool := xs.all (fun n => decide (1 ≤ n) && decide (n ≤ 32)) && (decide (1 ≤ xs.length) && decide (xs.length ≤ 4))
theorem vsB_iff (xs : List Int) : vsB xs = true ↔ VS xs := by
  simp only [vsB, VS, Bool.and_eq_true, List.all_eq_true, decide_eq_true_eq]
  exact ⟨fun h => ⟨h.2.1, h.2.2, h.1⟩, fun h => ⟨h.2.2, h.1, h.2.1⟩⟩
theorem vsB_false {xs : List Int} {k : Nat} (hk : k < xs.length) (h : xs[k] < 1 ∨ 32 < xs[k]) : vsB xs = false := by
  rw [Bool.eq_false_iff]; intro hv
  have := ((vsB_iff xs).1 hv).2.2 _ (List.getElem_mem hk)
  omega
theorem vsB_of {xs : List Int} (h : ∀ j (_ : j < xs.length), 1 ≤ xs[j] ∧ xs[j] ≤ 32) : vsB xs = (decide (1 ≤ xs.length) && decide (xs.length ≤ 4)) := by
  have : xs.all (fun n => decide (1 ≤ n) && decide (n ≤ 32)) = true := by
    simp only [List.all_eq_true, Bool.and_eq_true, decide_eq_true_eq]
    intro x hx
    obtain ⟨j, hj, rfl⟩ := List.getElem_of_mem hx
    exact h j hj
  rw [vsB, this, Bool.true_and]

set_option maxHeartbeats 400000 in
theorem region_Valid_any (F : Nat → Prop) (A : Option Addr) (xs : List Int) (c : Nat) (w : World) (hs : xs.length ≤ 9223372036854775807) (h : Ints .i64 w F A xs) :
    Calls Try.prog 26 #[.slice A xs.length c] w (BoolSame (vsB xs) w) := by
  have H := Lib.hid h; clear h
  go_enter Try.func26, Try.ntmps26
  go_wp2
  go_loop [7] (fun i => ∃ k : Nat, k ≤ xs.length ∧ i = .int .i64 k ∧ ∀ j (_ : j < xs.length), j < k → 1 ≤ xs[j] ∧ xs[j] ≤ 32) (fun i => xs.length - (intOf i).toNat)
  case atStart => exact ⟨0, Nat.zero_le _, rfl, fun j _ hj => by omega⟩
  case round =>
    obtain ⟨k, hk, rfl, hall⟩ := hrel
    have Hall := Lib.hid hall; clear hall
    by_cases hlt : k < xs.length
    · obtain ⟨b, off, rfl, hF, hc⟩ := H.out.at_ hlt
      by_cases h1 : xs[k] < 1 ∨ 32 < xs[k]
      · have Hf := Lib.hid (vsB_false hlt h1)
        rcases h1 with h1 | h1
        · go_wp2
          go_ret
          exact ⟨ret_bool Hf.out.symm, rfl⟩
        · have h2 : ¬ xs[k] < 1 := by omega
          go_wp2
          go_ret
          exact ⟨ret_bool Hf.out.symm, rfl⟩
      · have h2 : ¬ xs[k] < 1 := by omega
        have h3 : ¬ 32 < xs[k] := by omega
        clear h1
        go_wp2
        go_round
        case rel => exact ⟨k + 1, by omega, by go_num, fun j hj hjk => by
          by_cases e : j = k
          · subst e; omega
          · exact Hall.out j hj (by omega)⟩
        case measure => simp [intOf]; omega
    · have Hv := Lib.hid (vsB_of (xs := xs) fun j hj => Hall.out j hj (by omega))
      by_cases hl : 1 ≤ xs.length
      · go_wp2
        go_ret
        refine ⟨ret_bool ?_, rfl⟩
        rw [Hv.out]
        simp [hl]; omega
      · go_wp2
        go_ret
        refine ⟨ret_bool ?_, rfl⟩
        rw [Hv.out]
        simp [hl]
set_option maxHeartbeats 400000 in
theorem ref02_Valid_any (F : Nat → Prop) (A : Option Addr) (xs : List Int) (c : Nat) (w : World) (hs : xs.length ≤ 9223372036854775807) (h : Ints .i64 w F A xs) :
    Calls Try.prog 24 #[.slice A xs.length c] w (BoolSame (vsB xs) w) := by
  have H := Lib.hid h; clear h
  go_enter Try.func24, Try.ntmps24
  go_wp2
  go_loop [7] (fun i => ∃ k : Nat, k ≤ xs.length ∧ i = .int .i64 k ∧ ∀ j (_ : j < xs.length), j < k → 1 ≤ xs[j] ∧ xs[j] ≤ 32) (fun i => xs.length - (intOf i).toNat)
  case atStart => exact ⟨0, Nat.zero_le _, rfl, fun j _ hj => by omega⟩
  case round =>
    obtain ⟨k, hk, rfl, hall⟩ := hrel
    have Hall := Lib.hid hall; clear hall
    by_cases hlt : k < xs.length
    · obtain ⟨b, off, rfl, hF, hc⟩ := H.out.at_ hlt
      by_cases h1 : xs[k] < 1 ∨ 32 < xs[k]
      · have Hf := Lib.hid (vsB_false hlt h1)
        rcases h1 with h1 | h1
        · go_wp2
          go_ret
          exact ⟨ret_bool Hf.out.symm, rfl⟩
        · have h2 : ¬ xs[k] < 1 := by omega
          go_wp2
          go_ret
          exact ⟨ret_bool Hf.out.symm, rfl⟩
      · have h2 : ¬ xs[k] < 1 := by omega
        have h3 : ¬ 32 < xs[k] := by omega
        clear h1
        go_wp2
        go_round
        case rel => exact ⟨k + 1, by omega, by go_num, fun j hj hjk => by
          by_cases e : j = k
          · subst e; omega
          · exact Hall.out j hj (by omega)⟩
        case measure => simp [intOf]; omega
    · have Hv := Lib.hid (vsB_of (xs := xs) fun j hj => Hall.out j hj (by omega))
      by_cases hl : 1 ≤ xs.length
      · go_wp2
        go_ret
        refine ⟨ret_bool ?_, rfl⟩
        rw [Hv.out]
        simp [hl]; omega
      · go_wp2
        go_ret
        refine ⟨ret_bool ?_, rfl⟩
        rw [Hv.out]
        simp [hl]

end Go.Proofs.Ytenobllgfgmjfaa
