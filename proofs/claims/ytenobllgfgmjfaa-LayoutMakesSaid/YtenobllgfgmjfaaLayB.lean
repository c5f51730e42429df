/- Which layouts are valid; no condition. -/
import Derived.Test.YtenobllgfgmjfaaLayA
namespace Go.Proofs.Ytenobllgfgmjfaa
open Go.RowKit

/-- Region i of a layout lies in the space and does not touch an earlier one. -/
def RegOk (bs ss : List Int) (i : Nat) : Prop :=
  0 ≤ bs.getD i 0 ∧ bs.getD i 0 + ss.getD i 0 ≤ 512 ∧ ∀ k, k < i → ¬ (bs.getD i 0 ≤ bs.getD k 0 + ss.getD k 0 ∧ bs.getD k 0 ≤ bs.getD i 0 + ss.getD i 0)
def LV (bs ss : List Int) : Prop := VS ss ∧ bs.length = ss.length ∧ ∀ i, i < bs.length → RegOk bs ss i
open Classical in
noncomputable def lvB (bs ss : List Int) : Bool := decide (LV bs ss)
theorem lvB_true {bs ss : List Int} (h : LV bs ss) : true = lvB bs ss := by unfold lvB; simp [h]
theorem lvB_false {bs ss : List Int} (h : ¬ LV bs ss) : false = lvB bs ss := by unfold lvB; simp [h]
theorem lvB_iff (bs ss : List Int) : lvB bs ss = true ↔ LV bs ss := by unfold lvB; simp
theorem lvB_reg {bs ss : List Int} {i : Nat} (hi : i < bs.length) (h : ¬ RegOk bs ss i) : false = lvB bs ss := lvB_false fun hv => h (hv.2.2 i hi)

theorem getD_at {l : List Int} {k : Nat} (h : k < l.length) : l.getD k 0 = l[k] := by simp [List.getD, h]
/-- What the inner loop has seen. -/
def Apart (bs ss : List Int) (i m : Nat) : Prop := ∀ k, k < m → ¬ (bs.getD i 0 ≤ bs.getD k 0 + ss.getD k 0 ∧ bs.getD k 0 ≤ bs.getD i 0 + ss.getD i 0)
theorem Apart.next {bs ss : List Int} {i m : Nat} (h : Apart bs ss i m) (hi : i < bs.length) (his : i < ss.length) (hm : m < bs.length) (hms : m < ss.length) (hn : ¬ (bs[i] ≤ bs[m] + ss[m] ∧ bs[m] ≤ bs[i] + ss[i])) : Apart bs ss i (m + 1) := by
  intro k hk
  by_cases e : k = m
  · subst e; rw [getD_at hi, getD_at his, getD_at hm, getD_at hms]; exact hn
  · exact h k (by omega)
theorem reg_of {bs ss : List Int} {i : Nat} (hi : i < bs.length) (his : i < ss.length) (h0 : 0 ≤ bs[i]) (h1 : bs[i] + ss[i] ≤ 512) (h : Apart bs ss i i) : RegOk bs ss i :=
  ⟨by rw [getD_at hi]; exact h0, by rw [getD_at hi, getD_at his]; exact h1, h⟩
theorem not_reg {bs ss : List Int} {i : Nat} (hi : i < bs.length) (his : i < ss.length) (h : bs[i] < 0 ∨ 512 < bs[i] + ss[i]) : ¬ RegOk bs ss i := by
  intro hr
  have h0 := hr.1
  have h1 := hr.2.1
  rw [getD_at hi] at h0 h1
  rw [getD_at his] at h1
  omega
theorem not_reg' {bs ss : List Int} {i m : Nat} (hi : i < bs.length) (his : i < ss.length) (hm : m < bs.length) (hms : m < ss.length) (hmi : m < i) (h : bs[i] ≤ bs[m] + ss[m]) (h' : bs[m] ≤ bs[i] + ss[i]) : ¬ RegOk bs ss i := by
  intro hr
  have := hr.2.2 m hmi
  rw [getD_at hi, getD_at his, getD_at hm, getD_at hms] at this
  exact this ⟨h, h'⟩
theorem RegOk.lo {bs ss : List Int} {i : Nat} (h : RegOk bs ss i) (hi : i < bs.length) (his : i < ss.length) : 0 ≤ bs[i] ∧ bs[i] + ss[i] ≤ 512 := by
  have h0 := h.1
  have h1 := h.2.1
  rw [getD_at hi] at h0 h1
  rw [getD_at his] at h1
  exact ⟨h0, h1⟩
theorem VS.at_ {ss : List Int} (h : VS ss) {i : Nat} (hi : i < ss.length) : 1 ≤ ss[i] ∧ ss[i] ≤ 32 := h.2.2 _ (List.getElem_mem hi)

def WDrewn (w wr : World) : Prop := ∃ n, wr = w.drewN n

set_option maxHeartbeats 2000000 in
theorem layout_Valid_any (F : Nat → Prop) (A B : Option Addr) (bs ss : List Int) (c d : Nat) (key : Int) (w : World) (hb : bs.length ≤ 9223372036854775807) (hs : ss.length ≤ 9223372036854775807)
    (hF : ∀ k, F k → k < w.heap.size) (hwb : I64s bs) (hB : Ints .i64 w F A bs) (hS : Ints .i64 w F B ss) :
    Calls Try.prog 11 #[.agg #[.slice A bs.length c, .int .u16 key], .slice B ss.length d] w (BoolGrown (lvB bs ss) w) := by
  have HW := Lib.hid hwb; clear hwb
  have hB1 := Lib.hid (hB.keep ((Agree.refl F w).alloc hF (.cells #[.slice A bs.length c, .int .u16 key] 25)))
  have hS1 := Lib.hid (hS.keep ((Agree.refl F w).alloc hF (.cells #[.slice A bs.length c, .int .u16 key] 25)))
  have HF := Lib.hid hF
  clear hB hS hF
  by_cases hvs : vsB ss = true
  · have Hvs := Lib.hid ((vsB_iff ss).1 hvs)
    have Hvb := Lib.hid hvs; clear hvs
    by_cases hlen : bs.length = ss.length
    · have Hlen := Lib.hid hlen
      have hlen1 : ((bs.length : Int) != (ss.length : Int)) = false := by simp [hlen]
      have hle1 : bs.length ≤ ss.length := by omega
      have hle2 : ss.length ≤ bs.length := by omega
      clear hlen
      go_enter Try.func11, Try.ntmps11
      go_wp2_with (go_at_call 26; refine (region_Valid_any F _ _ _ _ hs hS1.out).mono ?_; rintro e w' ⟨rfl, rfl⟩; rw [Hvb.out])
      go_loopw [22] (fun i wr => ∃ k : Nat, k ≤ bs.length ∧ i = .int .i64 k ∧ (∀ j, j < k → RegOk bs ss j) ∧ WDrewn (w.alloc (.cells #[.slice A bs.length c, .int .u16 key] 25)) wr) (fun i _ => bs.length - (intOf i).toNat)
      case atStart => exact ⟨0, Nat.zero_le _, rfl, fun j hj => by omega, 0, rfl⟩
      case round =>
        obtain ⟨k, hk, rfl, hall, nd, rfl⟩ := hrel
        have Hall := Lib.hid hall; clear hall
        by_cases hlt : k < bs.length
        · have hlt2 : k < ss.length := by omega
          obtain ⟨b1, o1, rfl, hF1, hc1⟩ := hB1.out.at_ hlt
          obtain ⟨b2, o2, rfl, hF2, hc2⟩ := hS1.out.at_ hlt2
          have hwk := HW.out _ (List.getElem_mem hlt)
          have hvk := Hvs.out.at_ hlt2
          by_cases hr : 0 ≤ bs[k] ∧ bs[k] + ss[k] ≤ 512
          · obtain ⟨hr0, hr1⟩ := hr
            go_wp2
            have nd0 : ∃ n0, n0 = nd := ⟨_, rfl⟩
            go_loopw [43] (fun i wr => ∃ m : Nat, m ≤ k ∧ i = .int .i64 m ∧ Apart bs ss k m ∧ WDrewn (w.alloc (.cells #[.slice (some ⟨b1, o1, none⟩) bs.length c, .int .u16 key] 25)) wr) (fun i _ => k - (intOf i).toNat)
            case atStart => exact ⟨0, Nat.zero_le _, rfl, fun j hj => by omega, nd, rfl⟩
            case round =>
              obtain ⟨m, hm, rfl, hap, md, rfl⟩ := hrel
              have Hap := Lib.hid hap; clear hap
              by_cases hmk : m < k
              · have hm1 : m < bs.length := by omega
                have hm2 : m < ss.length := by omega
                obtain ⟨b3, o3, e3, _, hc3⟩ := hB1.out.at_ hm1
                obtain ⟨b4, o4, e4, _, hc4⟩ := hS1.out.at_ hm2
                cases e3
                cases e4
                have hrm := (Hall.out m hmk).lo hm1 hm2
                have hvm := Hvs.out.at_ hm2
                by_cases hq : bs[k] ≤ bs[m] + ss[m]
                · have hd : decide (bs[k] ≤ bs[m] + ss[m]) = true := by simpa using hq
                  by_cases hq2 : bs[m] ≤ bs[k] + ss[k]
                  · have Hf := Lib.hid (lvB_reg hlt (not_reg' hlt hlt2 hm1 hm2 hmk hq hq2))
                    have x1 : IntKind.i64.wrap (bs[m] + ss[m]) = bs[m] + ss[m] := IntWalk.i64_in _ (by omega)
                    have x2 : IntKind.i64.wrap (bs[k] + ss[k]) = bs[k] + ss[k] := IntWalk.i64_in _ (by omega)
                    go_wp2
                    go_quiet (fail)
                    go_wp2
                    go_ret
                    exact ⟨ret_bool Hf.out, grown_drewN (grown_drewN (grown_alloc (grown_refl _ _) _) _) _⟩
                  · have Hn := Lib.hid (Hap.out.next hlt hlt2 hm1 hm2 (fun h => hq2 h.2))
                    have hd2 : decide (bs[m] ≤ bs[k] + ss[k]) = false := by simpa using hq2
                    have x1 : IntKind.i64.wrap (bs[m] + ss[m]) = bs[m] + ss[m] := IntWalk.i64_in _ (by omega)
                    have x2 : IntKind.i64.wrap (bs[k] + ss[k]) = bs[k] + ss[k] := IntWalk.i64_in _ (by omega)
                    go_wp2
                    go_quiet (fail)
                    clear x1 x2
                    go_wp2
                    go_roundw
                    case rel => exact ⟨m + 1, by omega, by go_num, Hn.out, _, rfl⟩
                    case measure => simp [intOf]; omega
                · have Hn := Lib.hid (Hap.out.next hlt hlt2 hm1 hm2 (fun h => hq h.1))
                  have hd : decide (bs[k] ≤ bs[m] + ss[m]) = false := by simpa using hq
                  have x1 : IntKind.i64.wrap (bs[m] + ss[m]) = bs[m] + ss[m] := IntWalk.i64_in _ (by omega)
                  go_wp2
                  go_quiet (fail)
                  clear x1
                  go_wp2
                  go_roundw
                  case rel => exact ⟨m + 1, by omega, by go_num, Hn.out, _, rfl⟩
                  case measure => simp [intOf]; omega
              · have hmk' : m = k := by omega
                subst hmk'
                have Hreg := Lib.hid (reg_of hlt hlt2 hr0 hr1 Hap.out)
                go_wp2
                go_roundw
                case rel => exact ⟨m + 1, by omega, by go_num, fun j hj => by
                  by_cases e : j = m
                  · subst e; exact Hreg.out
                  · exact Hall.out j (by omega), _, rfl⟩
                case measure => simp [intOf]; omega
          · have hr' : bs[k] < 0 ∨ 512 < bs[k] + ss[k] := by omega
            have Hf := Lib.hid (lvB_reg hlt (not_reg hlt hlt2 hr'))
            clear hr
            rcases hr' with hr | hr
            · go_wp2
              go_ret
              exact ⟨ret_bool Hf.out, grown_drewN (grown_alloc (grown_refl _ _) _) _⟩
            · by_cases h0 : bs[k] < 0
              · go_wp2
                go_ret
                exact ⟨ret_bool Hf.out, grown_drewN (grown_alloc (grown_refl _ _) _) _⟩
              · by_cases h5 : 512 ≤ bs[k]
                · go_wp2
                  go_ret
                  exact ⟨ret_bool Hf.out, grown_drewN (grown_alloc (grown_refl _ _) _) _⟩
                · go_wp2
                  go_ret
                  exact ⟨ret_bool Hf.out, grown_drewN (grown_alloc (grown_refl _ _) _) _⟩
        · have Hf := Lib.hid (lvB_true (bs := bs) (ss := ss) ⟨Hvs.out, Hlen.out, fun j hj => Hall.out j (by omega)⟩)
          go_wp2
          go_ret
          exact ⟨ret_bool Hf.out, grown_drewN (grown_alloc (grown_refl _ _) _) _⟩
    · have Hf := Lib.hid (lvB_false (bs := bs) (ss := ss) fun h => hlen h.2.1)
      have hlen1 : ((bs.length : Int) != (ss.length : Int)) = true := by simp; omega
      clear hlen
      go_enter Try.func11, Try.ntmps11
      go_wp2_with (go_at_call 26; refine (region_Valid_any F _ _ _ _ hs hS1.out).mono ?_; rintro e w' ⟨rfl, rfl⟩; rw [Hvb.out])
      go_ret
      exact ⟨ret_bool Hf.out, grown_alloc (grown_refl _ _) _⟩
  · have hvs' : vsB ss = false := by simpa using hvs
    have Hf := Lib.hid (lvB_false (bs := bs) (ss := ss) fun h => hvs ((vsB_iff ss).2 h.1))
    have Hvb := Lib.hid hvs'; clear hvs hvs'
    go_enter Try.func11, Try.ntmps11
    go_wp2_with (go_at_call 26; refine (region_Valid_any F _ _ _ _ hs hS1.out).mono ?_; rintro e w' ⟨rfl, rfl⟩; rw [Hvb.out])
    go_ret
    exact ⟨ret_bool Hf.out, grown_alloc (grown_refl _ _) _⟩

end Go.Proofs.Ytenobllgfgmjfaa
