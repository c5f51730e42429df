/- The law InstrFollows, walked; no condition. -/
import Derived.Test.YtenlhaondbmhnaaInsG
import Derived.Test.YtenlhaondbmhnaaTargw
namespace Go.Proofs.Ytenlhaondbmhnaa
open Go.RowKit

/-- What the law says of each target. -/
theorem tgt_each (op i pc : Int) (k : Nat) (hk : k < (tgt op i pc).length) :
    ((tgt op i pc)[k] = pc + 1 ∨ (tgt op i pc)[k] = i ∧ brB op = true) ∧ ∀ k' (h : k' + 1 = k), (tgt op i pc)[k'] < (tgt op i pc)[k] := by
  have hb : (op == 18) = true ∨ (op == 21) = true ∨ (op == 19) = true ∨ (op == 20) = true → brB op = true := by
    intro h
    simp only [brB, jmpB, beq_iff_eq, Bool.or_eq_true] at h ⊢
    omega
  unfold tgt at hk ⊢
  split
  · rename_i h
    rw [if_pos h] at hk
    have : k = 0 := by simpa using hk
    subst this
    refine ⟨.inr ⟨rfl, hb ?_⟩, fun k' h' => by omega⟩
    simp only [Bool.or_eq_true] at h
    rcases h with h | h
    · exact .inl h
    · exact .inr (.inl h)
  · rename_i h
    rw [if_neg h] at hk
    split
    · rename_i h2
      rw [if_pos h2] at hk
      simp at hk
    · rename_i h2
      rw [if_neg h2] at hk
      split
      · rename_i h3
        rw [if_pos h3] at hk
        have hbr : brB op = true := hb (by
          simp only [Bool.or_eq_true] at h3
          rcases h3 with h | h
          · exact .inr (.inr (.inl h))
          · exact .inr (.inr (.inr h)))
        split
        · rename_i h4
          rw [if_pos h4] at hk
          have : k = 0 ∨ k = 1 := by simp at hk; omega
          rcases this with rfl | rfl
          · exact ⟨.inr ⟨rfl, hbr⟩, fun k' h' => by omega⟩
          · refine ⟨.inl rfl, fun k' h' => ?_⟩
            have : k' = 0 := by omega
            subst this
            exact h4
        · rename_i h4
          rw [if_neg h4] at hk
          split
          · rename_i h5
            rw [if_pos h5] at hk
            have : k = 0 ∨ k = 1 := by simp at hk; omega
            rcases this with rfl | rfl
            · exact ⟨.inl rfl, fun k' h' => by omega⟩
            · refine ⟨.inr ⟨rfl, hbr⟩, fun k' h' => ?_⟩
              have : k' = 0 := by omega
              subst this
              exact h5
          · rename_i h5
            rw [if_neg h5] at hk
            have : k = 0 := by simpa using hk
            subst this
            exact ⟨.inl rfl, fun k' h' => by omega⟩
      · rename_i h3
        rw [if_neg h3] at hk
        have : k = 0 := by simpa using hk
        subst this
        exact ⟨.inl rfl, fun k' h' => by omega⟩
theorem tgt_each' (op i pc : Int) {xs : List Int} (h : xs = tgt op i pc) (k : Nat) (hk : k < xs.length) : (xs[k] = pc + 1 ∨ xs[k] = i ∧ brB op = true) ∧ ∀ k' (h : k' + 1 = k), xs[k'] < xs[k] := by
  subst h; exact tgt_each op i pc k hk
theorem tgt_none (op i pc : Int) : ((tgt op i pc).length = 0 ↔ (op = 22 ∨ op = 24)) ∧ (tgt op i pc).length ≤ 2 := by
  unfold tgt
  by_cases h : (op == 18 || op == 21) = true
  · rw [if_pos h]
    simp only [Bool.or_eq_true, beq_iff_eq] at h
    constructor
    · simp; omega
    · simp
  · rw [if_neg h]
    by_cases h2 : (op == 22 || op == 24) = true
    · rw [if_pos h2]
      simp only [Bool.or_eq_true, beq_iff_eq] at h2
      exact ⟨⟨fun _ => h2, fun _ => rfl⟩, by simp⟩
    · rw [if_neg h2]
      simp only [Bool.or_eq_true, beq_iff_eq] at h2
      split
      · split
        · exact ⟨by simp; omega, by simp⟩
        · split
          · exact ⟨by simp; omega, by simp⟩
          · exact ⟨by simp; omega, by simp⟩
      · exact ⟨by simp; omega, by simp⟩

set_option maxRecDepth 100000 in
set_option maxHeartbeats 4000000 in
theorem lawFollows_any (A : Option Addr) (L : List Int) (c : Nat) (pc0 : Int) (w : World) (hl : L.length ≤ 9223372036854775807) (hw : I64s L) (hp0 : -9223372036854775808 ≤ pc0) (hp1 : pc0 ≤ 9223372036854775807)
    (h : Ints .i64 w (fun k => k < w.heap.size) A L) :
    Calls Try.prog 7 #[.slice A L.length c, .int .i64 pc0] w (BoolGrown true w) := by
  have HL := Lib.hid h
  have HP := Lib.hid (And.intro hp0 hp1)
  clear h hp0 hp1
  go_enter Try.func7, Try.ntmps7
  go_wp2_with fail
  refine (mkNew_any A L c w).mono ?_
  rintro e W1 ⟨rfl, rfl⟩
  go_wp2_with fail
  refine (drawn_any A L c w HL.out hl hw).mono ?_
  rintro e w1 ⟨o1, a1, b1, c1, i1, hv1, rfl, hg1, hz1'⟩
  have HV1 := Lib.hid hv1
  have HG1 := Lib.hid hg1
  clear hv1 hg1 HL hl hw
  have Hpc := Lib.hid (show 0 ≤ pc0 % 64 ∧ pc0 % 64 < 64 from ⟨Int.emod_nonneg _ (by decide), Int.emod_lt_of_pos _ (by decide)⟩)
  go_wp2_with fail
  refine (mod_any pc0 64 _ HP.out.1 HP.out.2 (by omega) (by omega)).mono ?_
  rintro e w' ⟨rfl, rfl⟩
  generalize pc0 % 64 = pc at *
  have hp0 := Hpc.out.1
  have hp1 := Hpc.out.2
  clear Hpc HP
  have hX : Blk w.heap.size (w1.alloc (.cells #[.int .i64 o1, .int .i64 a1, .int .i64 b1, .int .i64 c1, .int .i64 i1] 29)) w1.heap.size 29 [.int .i64 o1, .int .i64 a1, .int .i64 b1, .int .i64 c1, .int .i64 i1] := Blk.new hz1'
  go_wp2_with fail
  refine (instr_Targets_any o1 a1 b1 c1 i1 pc _ hp0 hp1).mono ?_
  rintro e w3 ⟨B, d, rfl, hI, hg3⟩
  have HX3 := Lib.hid (hX.up (Up.of_none hg3))
  have HG3 := Lib.hid (grown_trans (grown_alloc HG1.out _) hg3)
  have hI3 : Ints .i64 w3 (fun k => k < w3.heap.size) B (tgt o1 i1 pc) := Row.sub hI fun k hk => hk.2
  have hn := tgt_none o1 i1 pc
  obtain ⟨xs, hxs⟩ : ∃ xs, xs = tgt o1 i1 pc := ⟨_, rfl⟩
  rw [← hxs] at hI3 hn ⊢
  have HI3 := Lib.hid hI3
  have HE := Lib.hid (tgt_each' o1 i1 pc hxs)
  clear hxs hI
  have Hn := Lib.hid hn.1
  have hl2 := hn.2
  clear hX hg3 hI3 hn HG1
  have k0 := HX3.out.cell 0
  have k4 := HX3.out.cell 4
  have xl := HX3.out.hi
  simp only [List.getElem?_cons_zero, List.getElem?_cons_succ] at k0 k4
  by_cases hz : xs.length = 0
  · have hor := Hn.out.1 hz
    by_cases h22 : o1 = 22
    · go_wp2_with (go_at_call 8; refine (awake_any _).mono ?_; rintro e w8 ⟨rfl, hg8⟩; have HG8 := Lib.hid (grown_trans HG3.out hg8); clear hg8)
      go_ret
      exact ⟨rfl, HG8.out⟩
    · have h24 : o1 = 24 := by omega
      go_wp2_with (go_at_call 8; refine (awake_any _).mono ?_; rintro e w8 ⟨rfl, hg8⟩; have HG8 := Lib.hid (grown_trans HG3.out hg8); clear hg8)
      go_ret
      exact ⟨rfl, HG8.out⟩
  have h22 : ¬ o1 = 22 := fun e => hz (Hn.out.2 (.inl e))
  have h24 : ¬ o1 = 24 := fun e => hz (Hn.out.2 (.inr e))
  have hl2' : (xs.length : Int) ≤ 2 := by omega
  have b22 : (o1 != 22) = true := by simp [h22]
  have b24 : (o1 != 24) = true := by simp [h24]
  have b0 : ((xs.length : Int) == 0) = false := by rw [beq_eq_false_iff_ne]; omega
  have hzi : ¬ (xs.length : Int) = 0 := by omega
  go_wp2_with fail
  go_loopw [33] (fun i wr => ∃ k : Nat, k ≤ xs.length ∧ i = .int .i64 k ∧ w3.grownBy wr none) (fun i _ => xs.length - (intOf i).toNat)
  case atStart => exact ⟨0, by omega, rfl, grown_refl _ _⟩
  case round =>
    obtain ⟨k, hk, rfl, hgr⟩ := hrel
    have hxr := HX3.out.up (Up.of_none hgr)
    have k0 := hxr.cell 0
    have k4 := hxr.cell 4
    have xl := hxr.hi
    simp only [List.getElem?_cons_zero, List.getElem?_cons_succ] at k0 k4
    have HGr := Lib.hid hgr
    clear hxr
    by_cases hlt : k < xs.length
    · have hir : Ints .i64 wr (fun k => k < wr.heap.size) B xs := HI3.out.low hgr
      clear hgr
      obtain ⟨b, off, rfl, _, hc1⟩ := hir.at_ hlt
      have he := HE.out k hlt
      have x2 : (0 : Int) ≤ (k : Int) := by omega
      have x3 : (k : Int) < (xs.length : Int) := by omega
      have x5 : (k : Int).toNat = k := by omega
      obtain ⟨y, hy⟩ : ∃ y, y = xs[k] := ⟨_, rfl⟩
      rw [← hy] at hc1 he
      clear hy
      have hor := Lib.hid he.1
      have hlt2 := Lib.hid he.2
      clear he
      go_upto_region 9 with fail
      go_cut [66] (fun b wx => b = .bool false ∧ w3.grownBy wx none)
      case first =>
        by_cases hk0 : k = 0
        · have z0 : ¬ (0 : Int) < (k : Int) := by omega
          clear hk0
          by_cases hp : y = pc + 1
          · have q1 : (y != pc + 1) = false := by simp [hp]
            clear hp
            go_wp2_with fail
            go_meet
            exact ⟨rfl, HGr.out⟩
          · obtain ⟨hpi, hbr⟩ := hor.out.resolve_left hp
            have HBr := Lib.hid hbr
            have q1 : (y != pc + 1) = true := by simp [hp]
            have q2 : (y != i1) = false := by simp [hpi]
            clear hbr hp hpi
            go_wp2_with (go_at_call 19; refine (instr_Branch_any _ _).mono ?_; rintro e wb ⟨rfl, rfl⟩; rw [HBr.out])
            go_meet
            exact ⟨rfl, HGr.out⟩
        · obtain ⟨b', off', eB, _, hc2⟩ := hir.at_ (i := k - 1) (by omega)
          cases eB
          have hlt3 := hlt2.out (k - 1) (by omega)
          have y2 : (0 : Int) < (k : Int) := by omega
          have y3 : (0 : Int) ≤ (k : Int) - 1 := by omega
          have y4 : (k : Int) - 1 < (xs.length : Int) := by omega
          have y5 : ((k : Int) - 1).toNat = k - 1 := by omega
          have hnge : decide (y ≤ xs[k - 1]) = false := decide_eq_false (by omega)
          by_cases hp : y = pc + 1
          · have q1 : (y != pc + 1) = false := by simp [hp]
            clear hp
            go_wp2_with fail
            go_meet
            exact ⟨rfl, HGr.out⟩
          · obtain ⟨hpi, hbr⟩ := hor.out.resolve_left hp
            have HBr := Lib.hid hbr
            have q1 : (y != pc + 1) = true := by simp [hp]
            have q2 : (y != i1) = false := by simp [hpi]
            clear hbr hp hpi
            go_wp2_with (go_at_call 19; refine (instr_Branch_any _ _).mono ?_; rintro e wb ⟨rfl, rfl⟩; rw [HBr.out])
            go_meet
            exact ⟨rfl, HGr.out⟩
      case rest =>
      obtain ⟨rfl, hgx⟩ := hcut
      have HGx := Lib.hid hgx
      clear hgx
      go_wp2_with fail
      go_roundw
      case rel => exact ⟨k + 1, by omega, by go_num, HGx.out⟩
      case measure => simp [intOf]; omega
    · have hk : k = xs.length := by omega
      subst hk
      clear hgr
      go_wp2_with (go_at_call 8; refine (awake_any _).mono ?_; rintro e w8 ⟨rfl, hg8⟩; have HG8 := Lib.hid (grown_trans (grown_trans HG3.out HGr.out) hg8); clear hg8)
      go_ret
      exact ⟨rfl, HG8.out⟩

end Go.Proofs.Ytenlhaondbmhnaa
