/- Places of addresses, and equal layouts; no condition. -/
import Derived.Test.YtenobllgfgmjfaaLayE
namespace Go.Proofs.Ytenobllgfgmjfaa
open Go.RowKit

def tot (ss : List Int) : Int := ss.sum
theorem tot_take {ss : List Int} {k : Nat} (hk : k < ss.length) : tot (ss.take (k + 1)) = tot (ss.take k) + ss[k] := by
  unfold tot; rw [List.take_succ_eq_append_getElem hk, List.sum_append]; simp only [List.sum_cons, List.sum_nil]; omega
theorem tot_bd {ss : List Int} (h : VS ss) (k : Nat) (hk : k ≤ ss.length) : 0 ≤ tot (ss.take k) ∧ tot (ss.take k) ≤ 32 * k := by
  induction k with
  | zero => simp [tot]
  | succ k ih =>
    have := ih (by omega)
    rw [tot_take (by omega)]
    have := h.at_ (i := k) (by omega)
    omega


set_option maxHeartbeats 400000 in
theorem total_any (F : Nat → Prop) (A : Option Addr) (xs : List Int) (c : Nat) (w : World) (hv : VS xs) (h : Ints .i64 w F A xs) :
    Calls Try.prog 17 #[.slice A xs.length c] w (IntSame (tot xs) w) := by
  have H := Lib.hid h; clear h
  have hl := hv.2.1
  have Hv := Lib.hid hv; clear hv
  go_enter Try.func17, Try.ntmps17
  go_wp2
  go_loop [3, 8] (fun s i => ∃ k : Nat, k ≤ xs.length ∧ i = .int .i64 k ∧ s = .int .i64 (tot (xs.take k))) (fun _ i => xs.length - (intOf i).toNat)
  case atStart => exact ⟨0, Nat.zero_le _, rfl, rfl⟩
  case round =>
    obtain ⟨k, hk, rfl, rfl⟩ := hrel
    have hb := tot_bd Hv.out k hk
    by_cases hlt : k < xs.length
    · obtain ⟨b, off, rfl, hF, hc⟩ := H.out.at_ hlt
      have hx := Hv.out.at_ hlt
      have Ht := Lib.hid (tot_take hlt)
      go_wp2
      go_round
      case rel => exact ⟨k + 1, by omega, by go_num, by rw [Ht.out]⟩
      case measure => simp [intOf]; omega
    · have Hk := Lib.hid (show tot (xs.take k) = tot xs by rw [List.take_of_length_le (by omega)])
      go_wp2
      go_ret
      exact ⟨ret_int Hk.out, rfl⟩

def AtPost (ss : List Int) (w : World) (e : Ending) (w' : World) : Prop :=
  ∃ r : Nat, ∃ o : Int, InsP ss r o ∧ e = .returned (.tuple #[.agg #[.int .i64 r, .int .i64 o], .int .i64 0]) ∧ w.grownBy w' none

set_option maxHeartbeats 1000000 in
theorem at_any (F : Nat → Prop) (A : Option Addr) (xs : List Int) (c : Nat) (i : Int) (w : World) (hF : ∀ k, F k → k < w.heap.size) (hv : VS xs) (h : Ints .i64 w F A xs) (hi0 : 0 ≤ i) (hi1 : i < tot xs) :
    Calls Try.prog 28 #[.slice A xs.length c, .int .i64 i] w (AtPost xs w) := by
  have H := Lib.hid (h.keep ((Agree.refl F w).alloc hF (.cells #[.int .i64 0, .int .i64 0] 39))); clear h hF
  have hl := hv.2.1
  have ht := tot_bd hv xs.length (Nat.le_refl _)
  rw [List.take_length] at ht
  have Hv := Lib.hid hv; clear hv
  have Hi1 := Lib.hid hi1
  have hi2 : i ≤ 1000 := by omega
  clear hi1 ht
  go_enter Try.func28, Try.ntmps28
  go_wp2
  go_loop [1, 10] (fun s j => ∃ k : Nat, k ≤ xs.length ∧ j = .int .i64 k ∧ s = .int .i64 (i - tot (xs.take k)) ∧ 0 ≤ i - tot (xs.take k)) (fun _ j => xs.length - (intOf j).toNat)
  case atStart => exact ⟨0, Nat.zero_le _, rfl, by simp [tot], by simp [tot]; omega⟩
  case round =>
    obtain ⟨k, hk, rfl, rfl, hs⟩ := hrel
    have hb := tot_bd Hv.out k hk
    by_cases hlt : k < xs.length
    · obtain ⟨b, off, rfl, hF, hc⟩ := H.out.at_ hlt
      have hx := Hv.out.at_ hlt
      have Ht := Lib.hid (tot_take hlt)
      by_cases hq : i - tot (xs.take k) < xs[k]
      · have Hins := Lib.hid (show InsP xs (k : Int) (i - tot (xs.take k)) from ⟨by omega, by omega, hs, by rw [Int.toNat_natCast, getD_at hlt]; exact hq⟩)
        go_wp2
        refine bodyPost_ret (v := .tuple #[.agg #[.int .i64 k, .int .i64 (i - tot (xs.take k))], .int .i64 0]) (by simp [results, Try.results28, go_sem]) rfl ⟨k, _, Hins.out, rfl, ?_⟩
        exact grown_alloc (grown_refl _ _) _
      · go_wp2
        go_round
        case rel => exact ⟨k + 1, by omega, by go_num, by rw [Ht.out]; go_num, by rw [Ht.out]; omega⟩
        case measure => simp [intOf]; omega
    · exfalso
      have : xs.take k = xs := List.take_of_length_le (by omega)
      rw [this] at hs
      have := Hi1.out
      omega

/-- The region of an address, if there is one. -/
def Hit (bs ss : List Int) (a : Int) (r : Nat) : Prop := bs.getD r 0 ≤ a ∧ a - bs.getD r 0 < ss.getD r 0
def PlaceOk (r o : Int) (ok : Bool) (w : World) (e : Ending) (w' : World) : Prop := e = .returned (.tuple #[.agg #[.int .i64 r, .int .i64 o], .bool ok]) ∧ w.grownBy w' none

set_option maxHeartbeats 1000000 in
theorem resolve_walk (F : Nat → Prop) (A B : Option Addr) (bs ss : List Int) (c d : Nat) (key a : Int) (w : World) (hF : ∀ k, F k → k < w.heap.size) (hlv : LV bs ss) (ha0 : -65536 ≤ a) (ha1 : a ≤ 65536)
    (hB : Ints .i64 w F A bs) (hS : Ints .i64 w F B ss) (Q : Ending → World → Prop)
    (hyes : ∀ (r : Nat) (w' : World), r < bs.length → Hit bs ss a r → (∀ j, j < r → ¬ Hit bs ss a j) → w.grownBy w' none → Q (.returned (.tuple #[.agg #[.int .i64 r, .int .i64 (a - bs.getD r 0)], .bool true])) w')
    (hno : ∀ (w' : World), (∀ j, j < bs.length → ¬ Hit bs ss a j) → w.grownBy w' none → Q (.returned (.tuple #[.agg #[.int .i64 0, .int .i64 0], .bool false])) w') :
    Calls Try.prog 15 #[.agg #[.slice A bs.length c, .int .u16 key], .slice B ss.length d, .int .i64 a] w Q := by
  have ag := ((Agree.refl F w).alloc hF (.cells #[.slice A bs.length c, .int .u16 key] 25)).alloc (fun k hk => by have := hF k hk; simp; omega) (.cells #[.int .i64 0, .int .i64 0] 39)
  have HS := Lib.hid (hS.keep ag)
  have HB := Lib.hid (hB.keep ag)
  have Hyes := Lib.hid hyes
  have Hno := Lib.hid hno
  have Hlv := Lib.hid hlv
  have hl1 := hlv.1.2.1
  have hl2 : bs.length ≤ ss.length := by have := hlv.2.1; omega
  have hl3 : ss.length ≤ bs.length := by have := hlv.2.1; omega
  clear hS hB ag hF hyes hno hlv
  go_enter Try.func15, Try.ntmps15
  go_wp2
  go_loop [13] (fun j => ∃ k : Nat, k ≤ bs.length ∧ j = .int .i64 k ∧ ∀ i, i < k → ¬ Hit bs ss a i) (fun j => bs.length - (intOf j).toNat)
  case atStart => exact ⟨0, Nat.zero_le _, rfl, fun i hi => by omega⟩
  case round =>
    obtain ⟨k, hk, rfl, hall⟩ := hrel
    have Hall := Lib.hid hall; clear hall
    by_cases hlt : k < bs.length
    · have hlt2 : k < ss.length := by omega
      obtain ⟨b1, o1, rfl, _, hc1⟩ := HB.out.at_ hlt
      obtain ⟨b2, o2, rfl, _, hc2⟩ := HS.out.at_ hlt2
      have hreg := (Hlv.out.2.2 k hlt).lo hlt hlt2
      have hvs := Hlv.out.1.at_ hlt2
      by_cases h1 : bs[k] ≤ a
      · by_cases h2 : a - bs[k] < ss[k]
        · have Hr := Lib.hid (fun w' (hg : w.grownBy w' none) => Hyes.out k w' hlt ⟨by rw [getD_at hlt]; exact h1, by rw [getD_at hlt, getD_at hlt2]; exact h2⟩ Hall.out hg)
          rw [getD_at hlt] at Hr
          go_wp2
          refine bodyPost_ret (v := .tuple #[.agg #[.int .i64 k, .int .i64 (a - bs[k])], .bool true]) (by simp [results, Try.results15, go_sem]) rfl (Hr.out _ ?_)
          exact grown_alloc (grown_alloc (grown_refl _ _) _) _
        · have Hn := Lib.hid (show ¬ Hit bs ss a k from fun h => h2 (by have := h.2; rw [getD_at hlt, getD_at hlt2] at this; exact this))
          go_wp2
          go_round
          case rel => exact ⟨k + 1, by omega, by go_num, fun i hi => by
            by_cases e : i = k
            · subst e; exact Hn.out
            · exact Hall.out i (by omega)⟩
          case measure => simp [intOf]; omega
      · have Hn := Lib.hid (show ¬ Hit bs ss a k from fun h => h1 (by have := h.1; rw [getD_at hlt] at this; exact this))
        go_wp2
        go_round
        case rel => exact ⟨k + 1, by omega, by go_num, fun i hi => by
          by_cases e : i = k
          · subst e; exact Hn.out
          · exact Hall.out i (by omega)⟩
        case measure => simp [intOf]; omega
    · have Hr := Lib.hid (fun w' (hg : w.grownBy w' none) => Hno.out w' (fun j hj => Hall.out j (by omega)) hg)
      go_wp2
      refine bodyPost_ret (v := .tuple #[.agg #[.int .i64 0, .int .i64 0], .bool false]) (by simp [results, Try.results15, go_sem]) rfl (Hr.out _ ?_)
      exact grown_alloc (grown_alloc (grown_refl _ _) _) _

end Go.Proofs.Ytenobllgfgmjfaa
