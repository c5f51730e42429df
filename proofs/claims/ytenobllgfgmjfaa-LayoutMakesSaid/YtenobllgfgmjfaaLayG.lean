/- The deck's words, cells, layouts; equal layouts; no condition. -/
import Derived.Test.YtenobllgfgmjfaaLayF
import Derived.Test.YtenobllgfgmjfaaWord
namespace Go.Proofs.Ytenobllgfgmjfaa
open Go.RowKit

open Classical in
noncomputable def eqB (xs bs : List Int) (ka kb : Int) : Bool := decide (xs = bs ∧ ka = kb)
theorem eqB_true {xs bs : List Int} {ka kb : Int} (h : xs = bs) (h' : ka = kb) : true = eqB xs bs ka kb := by unfold eqB; simp [h, h']
theorem eqB_false {xs bs : List Int} {ka kb : Int} (h : ¬ (xs = bs ∧ ka = kb)) : false = eqB xs bs ka kb := by unfold eqB; simp [h]

set_option maxHeartbeats 1000000 in
theorem ref03_Same_any (F : Nat → Prop) (A B : Option Addr) (xs bs : List Int) (c d : Nat) (ka kb : Int) (w : World) (hla : xs.length ≤ 9223372036854775807) (hlb : bs.length ≤ 9223372036854775807) (hF : ∀ k, F k → k < w.heap.size)
    (hA : Ints .i64 w F A xs) (hB : Ints .i64 w F B bs) :
    Calls Try.prog 14 #[.agg #[.slice A xs.length c, .int .u16 ka], .agg #[.slice B bs.length d, .int .u16 kb]] w (BoolGrown (eqB xs bs ka kb) w) := by
  have ag := ((Agree.refl F w).alloc hF (.cells #[.slice A xs.length c, .int .u16 ka] 25)).alloc (fun k hk => by have := hF k hk; simp; omega) (.cells #[.slice B bs.length d, .int .u16 kb] 25)
  have HA := Lib.hid (hA.keep ag)
  have HB := Lib.hid (hB.keep ag)
  clear hA hB ag hF
  by_cases hk : ka = kb
  · subst hk
    by_cases hl : xs.length = bs.length
    · have hlen1 : ((xs.length : Int) != (bs.length : Int)) = false := by simp [hl]
      have hl1 : xs.length ≤ bs.length := by omega
      have hl2 : bs.length ≤ xs.length := by omega
      have Hl := Lib.hid hl
      clear hl
      go_enter Try.func14, Try.ntmps14
      go_wp2
      go_loopw [23] (fun i wr => ∃ k : Nat, k ≤ xs.length ∧ i = .int .i64 k ∧ (∀ j (_ : j < xs.length) (_ : j < bs.length), j < k → xs[j] = bs[j]) ∧ WDrewn ((w.alloc (.cells #[.slice A xs.length c, .int .u16 ka] 25)).alloc (.cells #[.slice B bs.length d, .int .u16 ka] 25)) wr) (fun i _ => xs.length - (intOf i).toNat)
      case atStart => exact ⟨0, Nat.zero_le _, rfl, fun j _ _ hj => by omega, 0, rfl⟩
      case round =>
        obtain ⟨k, hk, rfl, hall, nd, rfl⟩ := hrel
        have Hall := Lib.hid hall; clear hall
        by_cases hlt : k < xs.length
        · have hlt2 : k < bs.length := by omega
          obtain ⟨b1, o1, rfl, _, hc1⟩ := HA.out.at_ hlt
          obtain ⟨b2, o2, rfl, _, hc2⟩ := HB.out.at_ hlt2
          have x2 : (0 : Int) ≤ (k : Int) := by omega
          have x3 : (k : Int) < (xs.length : Int) := by omega
          have x4 : (k : Int) < (bs.length : Int) := by omega
          have x5 : (k : Int).toNat = k := by omega
          by_cases he : xs[k] = bs[k]
          · have hd : (xs[k] != bs[k]) = false := by simp [he]
            have He := Lib.hid he; clear he
            go_wp2
            go_quiet (fail)
            go_wp2
            go_roundw
            case rel => exact ⟨k + 1, by omega, by go_num, fun j hj hj' hjk => by
              by_cases e : j = k
              · subst e; exact He.out
              · exact Hall.out j hj hj' (by omega), _, rfl⟩
            case measure => simp [intOf]; omega
          · have hd : (xs[k] != bs[k]) = true := by simp [he]
            have Hf := Lib.hid (eqB_false (xs := xs) (bs := bs) (ka := ka) (kb := ka) fun h => he (by have := h.1; subst this; rfl))
            clear he
            go_wp2
            go_quiet (fail)
            go_wp2
            go_ret
            exact ⟨ret_bool Hf.out, grown_drewN (grown_drewN (grown_alloc (grown_alloc (grown_refl _ _) _) _) _) _⟩
        · have Hf := Lib.hid (eqB_true (xs := xs) (bs := bs) (ka := ka) (kb := ka) (List.ext_getElem Hl.out fun j hj hj' => Hall.out j hj hj' (by omega)) rfl)
          go_wp2
          go_ret
          exact ⟨ret_bool Hf.out, grown_drewN (grown_alloc (grown_alloc (grown_refl _ _) _) _) _⟩
    · have hlen1 : ((xs.length : Int) != (bs.length : Int)) = true := by simp; omega
      have Hf := Lib.hid (eqB_false (xs := xs) (bs := bs) (ka := ka) (kb := ka) fun h => hl (by rw [h.1]))
      clear hl
      go_enter Try.func14, Try.ntmps14
      go_wp2
      go_ret
      exact ⟨ret_bool Hf.out, grown_alloc (grown_alloc (grown_refl _ _) _) _⟩
  · have hk1 : (ka != kb) = true := by simp [hk]
    have Hf := Lib.hid (eqB_false (xs := xs) (bs := bs) (ka := ka) (kb := kb) fun h => hk h.2)
    clear hk
    go_enter Try.func14, Try.ntmps14
    go_wp2
    go_ret
    exact ⟨ret_bool Hf.out, grown_alloc (grown_alloc (grown_refl _ _) _) _⟩

end Go.Proofs.Ytenobllgfgmjfaa
