/- The reference's look at layouts; no condition. -/
import Derived.Test.YtenobllgfgmjfaaLayB
namespace Go.Proofs.Ytenobllgfgmjfaa
open Go.RowKit

set_option maxHeartbeats 2000000 in
theorem ref03_Valid_any (F : Nat → Prop) (A B : Option Addr) (bs ss : List Int) (c d : Nat) (key : Int) (w : World) (hb : bs.length ≤ 9223372036854775807) (hs : ss.length ≤ 9223372036854775807) (hbc : bs.length ≤ c)
    (hF : ∀ k, F k → k < w.heap.size) (hwb : I64s bs) (hB : Ints .i64 w F A bs) (hS : Ints .i64 w F B ss) :
    Calls Try.prog 12 #[.agg #[.slice A bs.length c, .int .u16 key], .slice B ss.length d] w (BoolGrown (lvB bs ss) w) := by
  have HW := Lib.hid hwb; clear hwb
  have hB1 := Lib.hid (hB.keep ((Agree.refl F w).alloc hF (.cells #[.slice A bs.length c, .int .u16 key] 25)))
  have hS1 := Lib.hid (hS.keep ((Agree.refl F w).alloc hF (.cells #[.slice A bs.length c, .int .u16 key] 25)))
  have HF := Lib.hid hF
  clear hB hS hF
  by_cases hvs : vsB ss = true
  · have Hvs := Lib.hid ((vsB_iff ss).1 hvs)
    have Hvb := Lib.hid hvs; clear hvs
    by_cases hlen : bs.length = ss.length
    · have Hlen := Lib.hid hlen
      have hlen1 : ((bs.length : Int) != (ss.length : Int)) = false := by simp [hlen]
      have hle1 : bs.length ≤ ss.length := by omega
      have hle2 : ss.length ≤ bs.length := by omega
      clear hlen
      go_enter Try.func12, Try.ntmps12
      go_wp2_with (go_at_call 24; refine (ref02_Valid_any F _ _ _ _ hs hS1.out).mono ?_; rintro e w' ⟨rfl, rfl⟩; rw [Hvb.out])
      go_loopw [23] (fun i wr => ∃ k : Nat, k ≤ bs.length ∧ i = .int .i64 k ∧ (∀ j, j < k → RegOk bs ss j) ∧ WDrewn (w.alloc (.cells #[.slice A bs.length c, .int .u16 key] 25)) wr) (fun i _ => bs.length - (intOf i).toNat)
      case atStart => exact ⟨0, Nat.zero_le _, rfl, fun j hj => by omega, 0, rfl⟩
      case round =>
        obtain ⟨k, hk, rfl, hall, nd, rfl⟩ := hrel
        have Hall := Lib.hid hall; clear hall
        by_cases hlt : k < bs.length
        · have hlt2 : k < ss.length := by omega
          obtain ⟨b1, o1, rfl, hF1, hc1⟩ := hB1.out.at_ hlt
          obtain ⟨b2, o2, rfl, hF2, hc2⟩ := hS1.out.at_ hlt2
          have hwk := HW.out _ (List.getElem_mem hlt)
          have hvk := Hvs.out.at_ hlt2
          by_cases hr : 0 ≤ bs[k] ∧ bs[k] + ss[k] ≤ 512
          · obtain ⟨hr0, hr1⟩ := hr
            go_wp2
            have nd0 : ∃ n0, n0 = nd := ⟨_, rfl⟩
            go_loopw [44] (fun i wr => ∃ m : Nat, m ≤ k ∧ i = .int .i64 m ∧ Apart bs ss k m ∧ WDrewn (w.alloc (.cells #[.slice (some ⟨b1, o1, none⟩) bs.length c, .int .u16 key] 25)) wr) (fun i _ => k - (intOf i).toNat)
            case atStart => exact ⟨0, Nat.zero_le _, rfl, fun j hj => by omega, nd, rfl⟩
            case round =>
              obtain ⟨m, hm, rfl, hap, md, rfl⟩ := hrel
              have Hap := Lib.hid hap; clear hap
              by_cases hmk : m < k
              · have hm1 : m < bs.length := by omega
                have hm2 : m < ss.length := by omega
                obtain ⟨b3, o3, e3, _, hc3⟩ := hB1.out.at_ hm1
                obtain ⟨b4, o4, e4, _, hc4⟩ := hS1.out.at_ hm2
                cases e3
                cases e4
                have hrm := (Hall.out m hmk).lo hm1 hm2
                have hvm := Hvs.out.at_ hm2
                by_cases hq : bs[k] ≤ bs[m] + ss[m]
                · have hd : decide (bs[k] ≤ bs[m] + ss[m]) = true := by simpa using hq
                  by_cases hq2 : bs[m] ≤ bs[k] + ss[k]
                  · have Hf := Lib.hid (lvB_reg hlt (not_reg' hlt hlt2 hm1 hm2 hmk hq hq2))
                    go_wp2
                    go_ret
                    exact ⟨ret_bool Hf.out, grown_drewN (grown_alloc (grown_refl _ _) _) _⟩
                  · have Hn := Lib.hid (Hap.out.next hlt hlt2 hm1 hm2 (fun h => hq2 h.2))
                    have hd2 : decide (bs[m] ≤ bs[k] + ss[k]) = false := by simpa using hq2
                    go_wp2
                    go_roundw
                    case rel => exact ⟨m + 1, by omega, by go_num, Hn.out, _, rfl⟩
                    case measure => simp [intOf]; omega
                · have Hn := Lib.hid (Hap.out.next hlt hlt2 hm1 hm2 (fun h => hq h.1))
                  have hd : decide (bs[k] ≤ bs[m] + ss[m]) = false := by simpa using hq
                  go_wp2
                  go_roundw
                  case rel => exact ⟨m + 1, by omega, by go_num, Hn.out, _, rfl⟩
                  case measure => simp [intOf]; omega
              · have hmk' : m = k := by omega
                subst hmk'
                have Hreg := Lib.hid (reg_of hlt hlt2 hr0 hr1 Hap.out)
                go_wp2
                go_roundw
                case rel => exact ⟨m + 1, by omega, by go_num, fun j hj => by
                  by_cases e : j = m
                  · subst e; exact Hreg.out
                  · exact Hall.out j (by omega), _, rfl⟩
                case measure => simp [intOf]; omega
          · have hr' : bs[k] < 0 ∨ 512 < bs[k] + ss[k] := by omega
            have Hf := Lib.hid (lvB_reg hlt (not_reg hlt hlt2 hr'))
            clear hr
            rcases hr' with hr | hr
            · go_wp2
              go_ret
              exact ⟨ret_bool Hf.out, grown_drewN (grown_alloc (grown_refl _ _) _) _⟩
            · by_cases h0 : bs[k] < 0
              · go_wp2
                go_ret
                exact ⟨ret_bool Hf.out, grown_drewN (grown_alloc (grown_refl _ _) _) _⟩
              · go_wp2
                go_ret
                exact ⟨ret_bool Hf.out, grown_drewN (grown_alloc (grown_refl _ _) _) _⟩
        · have Hf := Lib.hid (lvB_true (bs := bs) (ss := ss) ⟨Hvs.out, Hlen.out, fun j hj => Hall.out j (by omega)⟩)
          go_wp2
          go_ret
          exact ⟨ret_bool Hf.out, grown_drewN (grown_alloc (grown_refl _ _) _) _⟩
    · have Hf := Lib.hid (lvB_false (bs := bs) (ss := ss) fun h => hlen h.2.1)
      have hlen1 : ((bs.length : Int) != (ss.length : Int)) = true := by simp; omega
      clear hlen
      go_enter Try.func12, Try.ntmps12
      go_wp2_with (go_at_call 24; refine (ref02_Valid_any F _ _ _ _ hs hS1.out).mono ?_; rintro e w' ⟨rfl, rfl⟩; rw [Hvb.out])
      go_ret
      exact ⟨ret_bool Hf.out, grown_alloc (grown_refl _ _) _⟩
  · have hvs' : vsB ss = false := by simpa using hvs
    have Hf := Lib.hid (lvB_false (bs := bs) (ss := ss) fun h => hvs ((vsB_iff ss).2 h.1))
    have Hvb := Lib.hid hvs'; clear hvs hvs'
    go_enter Try.func12, Try.ntmps12
    go_wp2_with (go_at_call 24; refine (ref02_Valid_any F _ _ _ _ hs hS1.out).mono ?_; rintro e w' ⟨rfl, rfl⟩; rw [Hvb.out])
    go_ret
    exact ⟨ret_bool Hf.out, grown_alloc (grown_refl _ _) _⟩

end Go.Proofs.Ytenobllgfgmjfaa
