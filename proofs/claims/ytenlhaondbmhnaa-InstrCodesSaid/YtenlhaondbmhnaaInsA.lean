/- Which fields an operation uses, and which instructions are valid; no condition. -/
import Derived.Test.YtenlhaondbmhnaaMem
namespace Go.Proofs.Ytenlhaondbmhnaa
open Go.RowKit

def grp1 (op : Int) : Bool := op == 1 || op == 15 || op == 19 || op == 20 || op == 21
def uA (op : Int) : Bool := !(op == 18 || op == 23 || op == 0 || op == 24)
def uB (op : Int) : Bool := !(grp1 op || op == 18 || op == 23 || op == 22 || op == 0 || op == 24)
def uC (op : Int) : Bool := !(grp1 op || op == 2 || op == 16 || op == 17 || op == 18 || op == 23 || op == 22 || op == 0 || op == 24)
def uI (op : Int) : Bool := grp1 op || op == 16 || op == 17 || op == 18 || op == 23
def jmpB (op : Int) : Bool := op == 18 || op == 19 || op == 20 || op == 21
def mostI (op : Int) : Int := if jmpB op = true then 63 else if op = 15 then 3 else if op = 23 then 15 else 65535
def fieldB (u : Bool) (v m : Int) : Bool := v == 0 || (u && decide (0 < v) && decide (v ≤ m))
def brB (op : Int) : Bool := jmpB op || op == 22 || op == 24

def FourB (a b c d : Bool) (w : World) (e : Ending) (w' : World) : Prop := e = .returned (.agg #[.bool a, .bool b, .bool c, .bool d]) ∧ w.grownBy w' none

set_option maxHeartbeats 2000000 in
theorem instr_Fields_any (op : Int) (w : World) : Calls Try.prog 29 #[.int .i64 op] w (FourB (uA op) (uB op) (uC op) (uI op) w) := by
  go_enter Try.func29, Try.ntmps29
  go_wp2
  all_goals
    refine bodyPost_ret (v := .agg #[.bool (uA op), .bool (uB op), .bool (uC op), .bool (uI op)]) (by simp_all [results, Try.results29, go_sem, uA, uB, uC, uI, grp1]) rfl ⟨rfl, ?_⟩
    repeat (first | exact grown_refl _ _ | refine grown_alloc ?_ _)
set_option maxHeartbeats 2000000 in
theorem ref06_Uses_any (op : Int) (w : World) : Calls Try.prog 25 #[.int .i64 op] w (FourB (uA op) (uB op) (uC op) (uI op) w) := by
  go_enter Try.func25, Try.ntmps25
  go_wp2
  all_goals
    refine bodyPost_ret (v := .agg #[.bool (uA op), .bool (uB op), .bool (uC op), .bool (uI op)]) (by simp_all [results, Try.results25, go_sem, uA, uB, uC, uI, grp1]) rfl ⟨rfl, ?_⟩
    repeat (first | exact grown_refl _ _ | refine grown_alloc ?_ _)

set_option maxHeartbeats 1000000 in
theorem instr_Jumps_any (op : Int) (w : World) : Calls Try.prog 32 #[.int .i64 op] w (BoolSame (jmpB op) w) := by
  go_enter Try.func32, Try.ntmps32
  go_wp2
  all_goals
    go_ret
    exact ⟨ret_bool (by simp_all [jmpB]), rfl⟩
set_option maxHeartbeats 1000000 in
theorem ref06_Jump_any (op : Int) (w : World) : Calls Try.prog 26 #[.int .i64 op] w (BoolSame (jmpB op) w) := by
  go_enter Try.func26, Try.ntmps26
  go_wp2
  all_goals
    go_ret
    exact ⟨ret_bool (by simp_all [jmpB]), rfl⟩

set_option maxHeartbeats 1000000 in
theorem instr_Branch_any (op : Int) (w : World) : Calls Try.prog 19 #[.int .i64 op] w (BoolSame (brB op) w) := by
  cases hj : jmpB op
  · have HJ := Lib.hid hj; clear hj
    go_enter Try.func19, Try.ntmps19
    go_wp2_with (go_at_call 32; refine (instr_Jumps_any op _).mono ?_; rintro e w' ⟨rfl, rfl⟩; rw [HJ.out])
    all_goals
      go_ret
      exact ⟨ret_bool (by simp_all [brB, HJ.out]), rfl⟩
  · have HJ := Lib.hid hj; clear hj
    go_enter Try.func19, Try.ntmps19
    go_wp2_with (go_at_call 32; refine (instr_Jumps_any op _).mono ?_; rintro e w' ⟨rfl, rfl⟩; rw [HJ.out])
    all_goals
      go_ret
      exact ⟨ret_bool (by simp_all [brB, HJ.out]), rfl⟩
set_option maxHeartbeats 1000000 in
theorem ref06_Branch_any (op : Int) (w : World) : Calls Try.prog 20 #[.int .i64 op] w (BoolSame (brB op) w) := by
  cases hj : jmpB op
  · have HJ := Lib.hid hj; clear hj
    go_enter Try.func20, Try.ntmps20
    go_wp2_with (go_at_call 26; refine (ref06_Jump_any op _).mono ?_; rintro e w' ⟨rfl, rfl⟩; rw [HJ.out])
    all_goals
      go_ret
      exact ⟨ret_bool (by simp_all [brB, HJ.out]), rfl⟩
  · have HJ := Lib.hid hj; clear hj
    go_enter Try.func20, Try.ntmps20
    go_wp2_with (go_at_call 26; refine (ref06_Jump_any op _).mono ?_; rintro e w' ⟨rfl, rfl⟩; rw [HJ.out])
    all_goals
      go_ret
      exact ⟨ret_bool (by simp_all [brB, HJ.out]), rfl⟩

set_option maxHeartbeats 1000000 in
theorem instr_most_any (op : Int) (w : World) : Calls Try.prog 31 #[.int .i64 op] w (IntSame (mostI op) w) := by
  cases hj : jmpB op
  · have HJ := Lib.hid hj; clear hj
    go_enter Try.func31, Try.ntmps31
    go_wp2_with (go_at_call 32; refine (instr_Jumps_any op _).mono ?_; rintro e w' ⟨rfl, rfl⟩; rw [HJ.out])
    all_goals
      go_ret
      exact ⟨ret_int (by unfold mostI; rw [if_neg (by rw [HJ.out]; decide)]; clear HJ; simp_all), rfl⟩
  · have HJ := Lib.hid hj; clear hj
    go_enter Try.func31, Try.ntmps31
    go_wp2_with (go_at_call 32; refine (instr_Jumps_any op _).mono ?_; rintro e w' ⟨rfl, rfl⟩; rw [HJ.out])
    all_goals
      go_ret
      exact ⟨ret_int (by unfold mostI; rw [if_pos HJ.out]), rfl⟩

set_option maxHeartbeats 1000000 in
theorem field_any (u : Bool) (v m : Int) (w : World) : Calls Try.prog 30 #[.bool u, .int .i64 v, .int .i64 m] w (BoolSame (fieldB u v m) w) := by
  cases u
  · go_enter Try.func30, Try.ntmps30
    go_wp2
    all_goals
      go_ret
      exact ⟨ret_bool (by simp_all [fieldB] <;> omega), rfl⟩
  · go_enter Try.func30, Try.ntmps30
    go_wp2
    all_goals
      go_ret
      exact ⟨ret_bool (by simp_all [fieldB] <;> omega), rfl⟩

end Go.Proofs.Ytenlhaondbmhnaa
