/- Two lists of numbers compared; no condition. -/
import Derived.Test.YtenlhaondbmhnaaMem
namespace Go.Proofs.Ytenlhaondbmhnaa
open Go.RowKit

def eqL (xs ys : List Int) : Bool := decide (xs = ys)
theorem eqL_true {xs ys : List Int} (h : xs = ys) : true = eqL xs ys := by unfold eqL; simp [h]
theorem eqL_false {xs ys : List Int} (h : ¬ xs = ys) : false = eqL xs ys := by unfold eqL; simp [h]
def Drewn (w wr : World) : Prop := ∃ n, wr = w.drewN n

set_option maxHeartbeats 1000000 in
theorem ref01_SameInts_any (F G : Nat → Prop) (A B : Option Addr) (xs ys : List Int) (c d : Nat) (w : World) (hla : xs.length ≤ 9223372036854775807) (hlb : ys.length ≤ 9223372036854775807)
    (hA : Ints .i64 w F A xs) (hB : Ints .i64 w G B ys) :
    Calls Try.prog 21 #[.slice A xs.length c, .slice B ys.length d] w (BoolGrown (eqL xs ys) w) := by
  have HA := Lib.hid hA
  have HB := Lib.hid hB
  clear hA hB
  by_cases hl : xs.length = ys.length
  · have hlen1 : ((xs.length : Int) != (ys.length : Int)) = false := by simp [hl]
    have hl1 : xs.length ≤ ys.length := by omega
    have hl2 : ys.length ≤ xs.length := by omega
    have Hl := Lib.hid hl
    clear hl
    go_enter Try.func21, Try.ntmps21
    go_wp2
    go_loopw [13] (fun i wr => ∃ k : Nat, k ≤ xs.length ∧ i = .int .i64 k ∧ (∀ j (_ : j < xs.length) (_ : j < ys.length), j < k → xs[j] = ys[j]) ∧ Drewn w wr) (fun i _ => xs.length - (intOf i).toNat)
    case atStart => exact ⟨0, Nat.zero_le _, rfl, fun j _ _ hj => by omega, 0, rfl⟩
    case round =>
      obtain ⟨k, hk, rfl, hall, nd, rfl⟩ := hrel
      have Hall := Lib.hid hall; clear hall
      by_cases hlt : k < xs.length
      · have hlt2 : k < ys.length := by omega
        obtain ⟨b1, o1, rfl, _, hc1⟩ := HA.out.at_ hlt
        obtain ⟨b2, o2, rfl, _, hc2⟩ := HB.out.at_ hlt2
        have x2 : (0 : Int) ≤ (k : Int) := by omega
        have x3 : (k : Int) < (xs.length : Int) := by omega
        have x4 : (k : Int) < (ys.length : Int) := by omega
        have x5 : (k : Int).toNat = k := by omega
        by_cases he : xs[k] = ys[k]
        · have hd : (xs[k] != ys[k]) = false := by simp [he]
          have He := Lib.hid he; clear he
          go_wp2
          go_quiet (fail)
          go_wp2
          go_roundw
          case rel => exact ⟨k + 1, by omega, by go_num, fun j hj hj' hjk => by
            by_cases e : j = k
            · subst e; exact He.out
            · exact Hall.out j hj hj' (by omega), _, rfl⟩
          case measure => simp [intOf]; omega
        · have hd : (xs[k] != ys[k]) = true := by simp [he]
          have Hf := Lib.hid (eqL_false (xs := xs) (ys := ys) fun h => he (by subst h; rfl))
          clear he
          go_wp2
          go_quiet (fail)
          go_wp2
          go_ret
          exact ⟨ret_bool Hf.out, grown_drewN (grown_drewN (grown_refl _ _) _) _⟩
      · have Hf := Lib.hid (eqL_true (xs := xs) (ys := ys) (List.ext_getElem Hl.out fun j hj hj' => Hall.out j hj hj' (by omega)))
        go_wp2
        go_ret
        exact ⟨ret_bool Hf.out, grown_drewN (grown_refl _ _) _⟩
  · have hlen1 : ((xs.length : Int) != (ys.length : Int)) = true := by simp; omega
    have Hf := Lib.hid (eqL_false (xs := xs) (ys := ys) fun h => hl (by rw [h]))
    clear hl
    go_enter Try.func21, Try.ntmps21
    go_wp2
    go_ret
    exact ⟨ret_bool Hf.out, grown_refl _ _⟩

end Go.Proofs.Ytenlhaondbmhnaa
