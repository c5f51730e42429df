/- Which instructions are valid, by the reference; no condition. -/
import Derived.Test.YtenlhaondbmhnaaInsB
namespace Go.Proofs.Ytenlhaondbmhnaa
open Go.RowKit

theorem field_true {u : Bool} {v : Int} (h : fieldB u v 7 = true) : 0 ≤ v ∧ v < 8 ∧ (u = false → v = 0) := by
  simp only [fieldB, Bool.or_eq_true, beq_iff_eq, Bool.and_eq_true, decide_eq_true_eq] at h
  rcases h with rfl | ⟨⟨h1, h2⟩, h3⟩
  · exact ⟨by omega, by omega, fun _ => rfl⟩
  · exact ⟨by omega, by omega, fun h => by rw [h] at h1; cases h1⟩
theorem field_false {u : Bool} {v : Int} (h : fieldB u v 7 = false) : v < 0 ∨ (0 ≤ v ∧ 8 ≤ v) ∨ (0 ≤ v ∧ v < 8 ∧ u = false ∧ v ≠ 0) := by
  simp only [fieldB, Bool.or_eq_false_iff, beq_eq_false_iff_ne, Bool.and_eq_false_iff, decide_eq_false_iff_not] at h
  obtain ⟨h0, h1⟩ := h
  rcases Int.lt_or_le v 0 with h' | h'
  · exact .inl h'
  · rcases Int.lt_or_le v 8 with h8 | h8
    · rcases h1 with (h1 | h1) | h1
      · exact .inr (.inr ⟨h', h8, h1, h0⟩)
      · omega
      · omega
    · exact .inr (.inl ⟨h', h8⟩)
def okL (op a b c : Int) : Nat → Bool
  | 0 => fieldB (uA op) a 7
  | 1 => fieldB (uB op) b 7
  | _ => fieldB (uC op) c 7
theorem iv_of_okL {op a b c i : Int} (ho : opB op = true) (h : ∀ j, j < 3 → okL op a b c j = true) : ivB op a b c i = fieldB (uI op) i (mostI op) := by
  have h0 := h 0 (by omega)
  have h1 := h 1 (by omega)
  have h2 := h 2 (by omega)
  simp only [okL] at h0 h1 h2
  simp [ivB, ho, h0, h1, h2]
theorem iv_not_okL {op a b c i : Int} {k : Nat} (hk : k < 3) (h : okL op a b c k = false) : false = ivB op a b c i := by
  match k, hk with
  | 0, _ => simp only [okL] at h; simp [ivB, h]
  | 1, _ => simp only [okL] at h; simp [ivB, h]
  | 2, _ => simp only [okL] at h; simp [ivB, h]
/-- The last field, as the reference looks at it. -/
theorem imm_jmp {op i : Int} (hj : jmpB op = true) : fieldB (uI op) i (mostI op) = (decide (0 ≤ i) && decide (i < 64)) := by
  have hu : uI op = true := by
    simp only [jmpB, Bool.or_eq_true, beq_iff_eq] at hj
    rcases hj with ((rfl | rfl) | rfl) | rfl <;> rfl
  rw [Bool.eq_iff_iff]
  simp only [fieldB, hu, mostI, hj, if_true, Bool.true_and, Bool.or_eq_true, beq_iff_eq, Bool.and_eq_true, decide_eq_true_eq]
  omega
theorem imm_lea {i : Int} : fieldB (uI 15) i (mostI 15) = (decide (0 ≤ i) && decide (i < 4)) := by
  rw [Bool.eq_iff_iff]
  have : uI 15 = true := rfl
  have h2 : mostI 15 = 3 := rfl
  simp only [fieldB, this, h2, Bool.true_and, Bool.or_eq_true, beq_iff_eq, Bool.and_eq_true, decide_eq_true_eq]
  omega
theorem imm_sys {i : Int} : fieldB (uI 23) i (mostI 23) = (decide (0 ≤ i) && decide (i ≤ 15)) := by
  rw [Bool.eq_iff_iff]
  have : uI 23 = true := rfl
  have h2 : mostI 23 = 15 := rfl
  simp only [fieldB, this, h2, Bool.true_and, Bool.or_eq_true, beq_iff_eq, Bool.and_eq_true, decide_eq_true_eq]
  omega
theorem imm_else {op i : Int} (hj : jmpB op = false) (h15 : op ≠ 15) (h23 : op ≠ 23) : fieldB (uI op) i (mostI op) = (decide (0 ≤ i) && decide (i ≤ 65535) && (uI op || i == 0)) := by
  rw [Bool.eq_iff_iff]
  have h2 : mostI op = 65535 := by simp [mostI, hj, h15, h23]
  cases uI op
  · simp only [fieldB, h2, Bool.or_eq_true, beq_iff_eq, Bool.and_eq_true, decide_eq_true_eq, Bool.false_eq_true, false_and, or_false, false_or]
    omega
  · simp only [fieldB, h2, Bool.or_eq_true, beq_iff_eq, Bool.and_eq_true, decide_eq_true_eq, true_and, true_or, and_true]
    omega

theorem imm_out {op i : Int} (h : i < 0 ∨ 65535 < i) : false = fieldB (uI op) i (mostI op) := by
  have hm : mostI op ≤ 65535 := by unfold mostI; split; omega; split; omega; split <;> omega
  rw [eq_comm, Bool.eq_false_iff]
  simp only [fieldB, ne_eq, Bool.or_eq_true, beq_iff_eq, Bool.and_eq_true, decide_eq_true_eq]
  omega

set_option maxRecDepth 100000 in
set_option maxHeartbeats 4000000 in
theorem ref06_Valid_any (op a b c i : Int) (w : World) : Calls Try.prog 18 #[.agg #[.int .i64 op, .int .i64 a, .int .i64 b, .int .i64 c, .int .i64 i]] w (BoolGrown (ivB op a b c i) w) := by
  by_cases h0 : 0 ≤ op
  · by_cases h1 : op ≤ 24
    · have HO := Lib.hid (show opB op = true by simp [opB, h0, h1])
      go_enter Try.func18, Try.ntmps18
      go_wp2_with (go_at_call 25; refine (ref06_Uses_any op _).mono ?_; rintro e w1 ⟨rfl, hg⟩; have Hg := Lib.hid hg; have hz : w.heap.size < w1.heap.size := (by have := hg.size; simp at this; omega); obtain ⟨hgc, hgf⟩ := gcell hg; clear hg)
      go_loop [25] (fun x => ∃ k : Nat, k ≤ 3 ∧ x = .int .i64 k ∧ ∀ j, j < k → okL op a b c j = true) (fun x => 3 - (intOf x).toNat)
      case atStart => exact ⟨0, by omega, rfl, fun j hj => by omega⟩
      case round =>
        obtain ⟨k, hk, rfl, hall⟩ := hrel
        have Hall := Lib.hid hall; clear hall
        by_cases hlt : k < 3
        · obtain ⟨v, u, hcv, hcu, hok⟩ : ∃ (v : Int) (u : Bool), (((w1.alloc (.cells #[.bool (uA op), .bool (uB op), .bool (uC op), .bool (uI op)] 51)).alloc (.cells #[.int .i64 a, .int .i64 b, .int .i64 c] 3)).cell? ⟨w1.heap.size + 1, k, none⟩ = some (.int .i64 v)) ∧ (((w1.alloc (.cells #[.bool (uA op), .bool (uB op), .bool (uC op), .bool (uI op)] 51)).alloc (.cells #[.int .i64 a, .int .i64 b, .int .i64 c] 3)).cell? ⟨w1.heap.size, k, none⟩ = some (.bool u)) ∧ okL op a b c k = fieldB u v 7 := by
            have hx : ∀ o, ((w1.alloc (.cells #[.bool (uA op), .bool (uB op), .bool (uC op), .bool (uI op)] 51)).alloc (.cells #[.int .i64 a, .int .i64 b, .int .i64 c] 3)).cell? ⟨w1.heap.size + 1, o, none⟩ = (#[Value.int .i64 a, .int .i64 b, .int .i64 c] : Array Value)[o]? := fun o => World.cell?_alloc_at _ _ _ _ (by simp)
            have hy : ∀ o, ((w1.alloc (.cells #[.bool (uA op), .bool (uB op), .bool (uC op), .bool (uI op)] 51)).alloc (.cells #[.int .i64 a, .int .i64 b, .int .i64 c] 3)).cell? ⟨w1.heap.size, o, none⟩ = (#[Value.bool (uA op), .bool (uB op), .bool (uC op), .bool (uI op)] : Array Value)[o]? := fun o => by
              rw [World.cell?_alloc_lt _ _ _ (by simp)]; exact World.cell?_alloc_new _ _ _ _
            match k, hlt with
            | 0, _ => exact ⟨a, uA op, hx 0, hy 0, rfl⟩
            | 1, _ => exact ⟨b, uB op, hx 1, hy 1, rfl⟩
            | 2, _ => exact ⟨c, uC op, hx 2, hy 2, rfl⟩
          have hk4 : k < 4 := by omega
          have hk4' : (k : Int) < 4 := by omega
          cases hq : fieldB u v 7
          · have Hf := Lib.hid (iv_not_okL (op := op) (a := a) (b := b) (c := c) (i := i) hlt (hok.trans hq))
            have hcase := field_false hq
            clear hok hq
            rcases hcase with hv | ⟨hv, hv'⟩ | ⟨hv, hv', rfl, hv0⟩
            · go_wp2
              go_ret
              exact ⟨ret_bool Hf.out, grown_alloc (grown_alloc (grown_trans (grown_alloc (grown_refl _ _) _) Hg.out) _) _⟩
            · go_wp2
              go_ret
              exact ⟨ret_bool Hf.out, grown_alloc (grown_alloc (grown_trans (grown_alloc (grown_refl _ _) _) Hg.out) _) _⟩
            · have hv1 : (v != 0) = true := by simp [hv0]
              go_wp2
              go_ret
              exact ⟨ret_bool Hf.out, grown_alloc (grown_alloc (grown_trans (grown_alloc (grown_refl _ _) _) Hg.out) _) _⟩
          · have Hok := Lib.hid (hok.trans hq)
            obtain ⟨hv, hv', huv⟩ := field_true hq
            clear hok hq
            cases u
            · obtain rfl := huv rfl
              clear huv
              go_wp2
              go_round
              case rel => exact ⟨k + 1, by omega, by go_num, fun j hj => by
                by_cases e : j = k
                · subst e; exact Hok.out
                · exact Hall.out j (by omega)⟩
              case measure => simp [intOf]; omega
            · clear huv
              go_wp2
              go_round
              case rel => exact ⟨k + 1, by omega, by go_num, fun j hj => by
                by_cases e : j = k
                · subst e; exact Hok.out
                · exact Hall.out j (by omega)⟩
              case measure => simp [intOf]; omega
        · have Hiv := Lib.hid (iv_of_okL (op := op) (a := a) (b := b) (c := c) (i := i) HO.out (fun j hj => Hall.out j (by omega)))
          by_cases hi0 : 0 ≤ i
          · by_cases hi1 : i ≤ 65535
            · cases hj : jmpB op
              · have HJ := Lib.hid hj
                have hfin : ∀ r, r = fieldB (uI op) i (mostI op) → r = ivB op a b c i := fun r h => by rw [Hiv.out]; exact h
                have Hfin := Lib.hid hfin
                clear hfin
                by_cases h15 : op = 15
                · subst h15
                  have Him := Lib.hid (@imm_lea i)
                  have hu : uI 15 = true := rfl
                  clear hj
                  go_wp2_with (go_at_call 26; refine (ref06_Jump_any _ _).mono ?_; rintro e w' ⟨rfl, rfl⟩; rw [HJ.out])
                  all_goals
                    go_ret
                    exact ⟨ret_bool (Hfin.out _ (by rw [Him.out]; simp [hi0])), grown_alloc (grown_alloc (grown_trans (grown_alloc (grown_refl _ _) _) Hg.out) _) _⟩
                · by_cases h23 : op = 23
                  · subst h23
                    have Him := Lib.hid (@imm_sys i)
                    have hu : uI 23 = true := rfl
                    clear hj h15
                    go_wp2_with (go_at_call 26; refine (ref06_Jump_any _ _).mono ?_; rintro e w' ⟨rfl, rfl⟩; rw [HJ.out])
                    all_goals
                      go_ret
                      exact ⟨ret_bool (Hfin.out _ (by rw [Him.out]; simp [hi0])), grown_alloc (grown_alloc (grown_trans (grown_alloc (grown_refl _ _) _) Hg.out) _) _⟩
                  · have Him := Lib.hid (imm_else (i := i) hj h15 h23)
                    have g15 : (op == 15) = false := by simp [h15]
                    have g23 : (op == 23) = false := by simp [h23]
                    clear hj h15 h23
                    cases hu : uI op
                    · by_cases hz0 : i = 0
                      · subst hz0
                        go_wp2_with (go_at_call 26; refine (ref06_Jump_any _ _).mono ?_; rintro e w' ⟨rfl, rfl⟩; rw [HJ.out])
                        all_goals
                          go_ret
                          exact ⟨ret_bool (Hfin.out _ (by rw [Him.out]; simp)), grown_alloc (grown_alloc (grown_trans (grown_alloc (grown_refl _ _) _) Hg.out) _) _⟩
                      · have hz1 : (i != 0) = true := by simp [hz0]
                        have Hz := Lib.hid hz0
                        clear hz0
                        go_wp2
                        all_goals
                          go_ret
                          exact ⟨ret_bool (Hfin.out _ (by rw [Him.out]; simp [hu, Hz.out])), grown_alloc (grown_alloc (grown_trans (grown_alloc (grown_refl _ _) _) Hg.out) _) _⟩
                    · go_wp2_with (go_at_call 26; refine (ref06_Jump_any _ _).mono ?_; rintro e w' ⟨rfl, rfl⟩; rw [HJ.out])
                      all_goals
                        go_ret
                        exact ⟨ret_bool (Hfin.out _ (by rw [Him.out]; simp [hu, hi0, hi1])), grown_alloc (grown_alloc (grown_trans (grown_alloc (grown_refl _ _) _) Hg.out) _) _⟩
              · have HJ := Lib.hid hj
                have Him := Lib.hid (imm_jmp (i := i) hj)
                have hu : uI op = true := by
                  simp only [jmpB, Bool.or_eq_true, beq_iff_eq] at hj
                  rcases hj with ((rfl | rfl) | rfl) | rfl <;> rfl
                have Hfin := Lib.hid (fun r (h : r = fieldB (uI op) i (mostI op)) => show r = ivB op a b c i by rw [Hiv.out]; exact h)
                clear hj
                go_wp2_with (go_at_call 26; refine (ref06_Jump_any _ _).mono ?_; rintro e w' ⟨rfl, rfl⟩; rw [HJ.out])
                all_goals
                  go_ret
                  exact ⟨ret_bool (Hfin.out _ (by rw [Him.out]; simp [hi0])), grown_alloc (grown_alloc (grown_trans (grown_alloc (grown_refl _ _) _) Hg.out) _) _⟩
            · have Hf := Lib.hid (show false = ivB op a b c i by rw [Hiv.out]; exact imm_out (.inr (by omega)))
              go_wp2
              all_goals
                go_ret
                exact ⟨ret_bool Hf.out, grown_alloc (grown_alloc (grown_trans (grown_alloc (grown_refl _ _) _) Hg.out) _) _⟩
          · have Hf := Lib.hid (show false = ivB op a b c i by rw [Hiv.out]; exact imm_out (.inl (by omega)))
            go_wp2
            all_goals
              go_ret
              exact ⟨ret_bool Hf.out, grown_alloc (grown_alloc (grown_trans (grown_alloc (grown_refl _ _) _) Hg.out) _) _⟩
    · have Hf := Lib.hid (show false = ivB op a b c i by simp [ivB, opB]; omega)
      go_enter Try.func18, Try.ntmps18
      go_wp2
      go_ret
      exact ⟨ret_bool Hf.out, grown_alloc (grown_refl _ _) _⟩
  · have Hf := Lib.hid (show false = ivB op a b c i by simp [ivB, opB]; omega)
    go_enter Try.func18, Try.ntmps18
    go_wp2
    go_ret
    exact ⟨ret_bool Hf.out, grown_alloc (grown_refl _ _) _⟩

end Go.Proofs.Ytenlhaondbmhnaa
