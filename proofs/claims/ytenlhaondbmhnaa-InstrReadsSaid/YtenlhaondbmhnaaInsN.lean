/- The law InstrNear, walked; no condition. -/
import Derived.Test.YtenlhaondbmhnaaInsG
import Derived.Test.YtenlhaondbmhnaaCopy
import Derived.StillTailTactics
namespace Go.Proofs.Ytenlhaondbmhnaa
open Go.RowKit

theorem Try.infoU8 : (Try.prog.info? 5).map (fun i => (i.zero, i.size, i.bytes)) = some (some (.int .u8 0), 1, 1) := by kernel_rfl

theorem xor_u8 (a b : Nat) (ha : a < 256) (hb : b < 256) : bits .xor .u8 (a : Int) (b : Int) = ((a ^^^ b : Nat) : Int) := by
  have hx : a ^^^ b < 2 ^ 8 := Nat.xor_lt_two_pow (by omega) (by omega)
  have h1 : (BitVec.ofInt 8 (a : Int)).toNat = a := by
    rw [BitVec.ofInt_natCast, BitVec.toNat_ofNat]; exact Nat.mod_eq_of_lt (by omega)
  have h2 : (BitVec.ofInt 8 (b : Int)).toNat = b := by
    rw [BitVec.ofInt_natCast, BitVec.toNat_ofNat]; exact Nat.mod_eq_of_lt (by omega)
  show IntKind.u8.wrap ((BitVec.ofInt 8 (a : Int) ^^^ BitVec.ofInt 8 (b : Int)).toNat : Int) = _
  rw [BitVec.toNat_xor, h1, h2]
  simp [IntKind.wrap, IntKind.bits, IntKind.signed]
  omega
/-- A byte with another one laid over it. -/
theorem xor_byte (x y : Int) (h0 : 0 ≤ x) (h1 : x ≤ 255) (h2 : 0 ≤ y) (h3 : y ≤ 255) :
    0 ≤ bits .xor .u8 x y ∧ bits .xor .u8 x y ≤ 255 ∧ (y = 0 → bits .xor .u8 x y = x) ∧ (y ≠ 0 → bits .xor .u8 x y ≠ x) := by
  obtain ⟨a, rfl⟩ := Int.eq_ofNat_of_zero_le h0
  obtain ⟨b, rfl⟩ := Int.eq_ofNat_of_zero_le h2
  rw [xor_u8 a b (by omega) (by omega)]
  have hx : a ^^^ b < 2 ^ 8 := Nat.xor_lt_two_pow (by omega) (by omega)
  refine ⟨by omega, by omega, fun h => ?_, fun h e => h ?_⟩
  · have : b = 0 := by omega
    subst this; simp
  · have e' : a ^^^ b = a := by omega
    have : a ^^^ (a ^^^ b) = b := by rw [← Nat.xor_assoc, Nat.xor_self, Nat.zero_xor]
    rw [e', Nat.xor_self] at this
    omega
/-- Six numbers, one of them set anew. -/
theorem six_of {ys : List Int} (h : ys.length = 6) : ∃ y0 y1 y2 y3 y4 y5, ys = [y0, y1, y2, y3, y4, y5] := by
  match ys, h with
  | [y0, y1, y2, y3, y4, y5], _ => exact ⟨_, _, _, _, _, _, rfl⟩

set_option maxRecDepth 100000 in
set_option maxHeartbeats 4000000 in
theorem lawNear_any (A : Option Addr) (L : List Int) (c : Nat) (at_ by_ : Int) (w : World) (hl : L.length ≤ 9223372036854775807) (hw : I64s L) (ha0 : -9223372036854775808 ≤ at_) (ha1 : at_ ≤ 9223372036854775807) (hb0 : 0 ≤ by_) (hb1 : by_ ≤ 255)
    (h : Ints .i64 w (fun k => k < w.heap.size) A L) :
    Calls Try.prog 5 #[.slice A L.length c, .int .i64 at_, .int .u8 by_] w (BoolGrown true w) := by
  have HL := Lib.hid h
  clear h
  obtain ⟨i0, hinf, hz0, hz1, hz2⟩ := info_parts Try.infoU8
  go_enter Try.func5, Try.ntmps5
  go_wp2_with fail
  refine (mkNew_any A L c w).mono ?_
  rintro e W1 ⟨rfl, rfl⟩
  go_wp2_with fail
  refine (drawn_any A L c w HL.out hl hw).mono ?_
  rintro e w1 ⟨o1, a1, b1, c1, i1, hv1, rfl, hg1, hz1'⟩
  have HV1 := Lib.hid hv1
  have HG1 := Lib.hid hg1
  clear hv1 hg1 HL hl hw
  go_wp2_with fail
  have hX := Blk.new (g := w.heap.size) (w := w1) (t := 29) (vs := [.int .i64 o1, .int .i64 a1, .int .i64 b1, .int .i64 c1, .int .i64 i1]) hz1'
  refine (instr_Encode_yes o1 a1 b1 c1 i1 _ HV1.out).mono ?_
  rintro e w3 ⟨P, rfl, hP, hg3⟩
  have HX3 := Lib.hid (hX.up (Up.of_none hg3))
  have HG3 := Lib.hid (grown_trans (grown_alloc HG1.out _) hg3)
  have HP3 := Lib.hid (show Ints .u8 w3 (fun k => k < w3.heap.size) P _ from Row.sub hP fun k hk => hk.2)
  clear hX hP hg3 HG1
  obtain ⟨xs, hxs⟩ : ∃ xs, xs = [o1, a1, b1, c1, i1 / 256, i1 % 256] := ⟨_, rfl⟩
  rw [← hxs] at HP3
  have hx6 : xs.length = 6 := by rw [hxs]; rfl
  have hby : Bytes xs := by rw [hxs]; exact enc_bytes HV1.out
  have HBy := Lib.hid hby
  have Hxs := Lib.hid hxs
  clear hby hxs
  go_wp2_with (at_builtin; go_loud (refine wpList_copied .u8 rfl _ _ 22 5 rfl i0 1 Try.underlying22 hinf hz0 hz1 hz2 rfl P xs 6 _ (by rw [hx6]; rfl) HP3.out ?c1 ?c2 ?c3 ?_))
  case c1 => rw [Hxs.out]; simp
  case c2 => rw [hx6]; decide
  case c3 => rw [hx6]; decide
  intro g cy w4 hB hgy hg4
  have HX4 := Lib.hid (HX3.out.up (Up.of_none hg4))
  have HG4 := Lib.hid (grown_trans HG3.out hg4)
  have HB4 := Lib.hid hB
  have hgn : w1.heap.size < g := by have := HX3.out.hi; omega
  clear hg4 hB HX3 HG3 HP3 hinf hz0 hz1 hz2
  have Hm := Lib.hid (show 0 ≤ at_ % 6 ∧ at_ % 6 < 6 from ⟨Int.emod_nonneg _ (by decide), Int.emod_lt_of_pos _ (by decide)⟩)
  have HA := Lib.hid (And.intro ha0 ha1)
  clear ha0 ha1
  generalize hm : at_ % 6 = m at *
  have hm0 := Hm.out.1
  have hm1 := Hm.out.2
  obtain ⟨mn, rfl⟩ := Int.eq_ofNat_of_zero_le hm0
  have hmn : mn < 6 := by omega
  have hxl0 : mn < xs.length := by rw [hx6]; exact hmn
  have hcm := HB4.out.cell (j := mn) hxl0
  have hfm := HB4.out.free mn
  have hgl := HB4.out.hi
  clear Hm hm0
  have HM := Lib.hid hm
  clear hm
  go_wp2_with fail
  refine (mod_any at_ 6 _ HA.out.1 HA.out.2 (by omega) (by omega)).mono ?_
  rintro e w' ⟨rfl, rfl⟩
  rw [HM.out]
  have hxl : mn < xs.length := by omega
  have hxb := HBy.out _ (List.getElem_mem hxl)
  obtain ⟨hv0, hv1, hv2, hv3⟩ := xor_byte xs[mn] by_ hxb.1 (by omega) hb0 hb1
  have Hv2 := Lib.hid hv2
  have Hv3 := Lib.hid hv3
  clear hv2 hv3
  go_wp2_with fail
  generalize bits BinOp.xor IntKind.u8 xs[mn] by_ = v at *
  have HB5 := HB4.out.set mn v hxl
  have HX5 := Lib.hid (HX4.out.other (by omega) (.int .u8 v) : Blk w.heap.size (w4.setCell ⟨g, mn, none⟩ _) w1.heap.size _ _)
  have HG5 := Lib.hid (grown_set HG4.out (.inr (by have := hz1'; dsimp only; omega)) (.int .u8 v) : w.grownBy (w4.setCell ⟨g, mn, none⟩ _) none)
  have hys6 : (xs.set mn v).length = 6 := by simp [hx6]
  have hyb : ∀ x ∈ xs.set mn v, 0 ≤ x ∧ x ≤ 255 := by
    intro x hx
    rcases List.mem_or_eq_of_mem_set hx with hx | rfl
    · have := HBy.out x hx; omega
    · exact ⟨hv0, hv1⟩
  have hy0 : by_ = 0 → xs.set mn v = xs := fun h => by rw [Hv2.out h, List.set_getElem_self]
  have hy1 : by_ ≠ 0 → xs.set mn v ≠ xs := fun h e => Hv3.out h (by
    have h1 : (xs.set mn v)[mn]? = some v := by rw [List.getElem?_set_self hxl]
    rw [e, List.getElem?_eq_getElem hxl] at h1
    injection h1 with h1; exact h1.symm)
  have HI5 := HB5.low
  generalize w4.setCell ⟨g, mn, none⟩ (.int .u8 v) = w5 at *
  generalize xs.set mn v = ys at *
  obtain ⟨y0, y1, y2, y3, y4, y5, rfl⟩ := six_of hys6
  rw [Hxs.out] at hy0 hy1
  clear hcm hfm hgl hv0 hv1 Hv2 Hv3 HB5 hxb hxl HX4 HG4 HB4 hgn HM hys6
  have HI := Lib.hid HI5
  have Hyb := Lib.hid hyb
  clear HI5 hyb
  have hv1' := iv_range HV1.out
  by_cases hb : by_ = 0
  · have e := hy0 hb
    simp only [List.cons.injEq, and_true] at e
    obtain ⟨rfl, rfl, rfl, rfl, rfl, rfl⟩ := e
    subst hb
    clear hy0 hy1
    refine instr_Decode_long (fun k => k < w5.heap.size) _ [y0, y1, y2, y3, i1 / 256, i1 % 256] cy y0 y1 y2 y3 (i1 / 256) (i1 % 256) w5 (by simp) (fun k hk => hk) HI.out Hyb.out (by simp) rfl rfl rfl rfl rfl rfl _ ?_ ?_
    case refine_2 =>
      intro hor
      exfalso
      rcases hor with hor | hor
      · simp at hor
      · rw [show i1 / 256 * 256 + i1 % 256 = i1 by omega, HV1.out] at hor; cases hor
    intro _ _ w6 hg6
    rw [show i1 / 256 * 256 + i1 % 256 = i1 by omega]
    have HX6 := Lib.hid (HX5.out.up (Up.of_none hg6))
    have HG6 := Lib.hid (grown_trans HG5.out hg6)
    clear hg6 HX5 HG5
    have k0 := HX6.out.cell 0
    have k1 := HX6.out.cell 1
    have k2 := HX6.out.cell 2
    have k3 := HX6.out.cell 3
    have k4 := HX6.out.cell 4
    have l6 := HX6.out.hi
    simp only [List.getElem?_cons_zero, List.getElem?_cons_succ] at k0 k1 k2 k3 k4
    go_wp2_with (go_at_call 8; refine (awake_any _).mono ?_; rintro e w7 ⟨rfl, hg7⟩)
    go_ret
    exact ⟨rfl, grown_trans (grown_alloc HG6.out _) hg7⟩
  · have hne := hy1 hb
    simp only [ne_eq, List.cons.injEq, and_true] at hne
    clear hy0 hy1
    refine instr_Decode_long (fun k => k < w5.heap.size) _ [y0, y1, y2, y3, y4, y5] cy y0 y1 y2 y3 y4 y5 w5 (by simp) (fun k hk => hk) HI.out Hyb.out (by simp) rfl rfl rfl rfl rfl rfl _ ?_ ?_
    case refine_2 =>
      intro _ w6 hg6
      have HX6 := Lib.hid (HX5.out.up (Up.of_none hg6))
      have HG6 := Lib.hid (grown_trans HG5.out hg6)
      clear hg6 HX5 HG5
      go_wp2_with (go_at_call 8; refine (awake_any _).mono ?_; rintro e w7 ⟨rfl, hg7⟩)
      go_ret
      exact ⟨rfl, grown_trans (grown_alloc HG6.out _) hg7⟩
    intro _ hiv w6 hg6
    have HN := Lib.hid (show ¬ (y0 = o1 ∧ y1 = a1 ∧ y2 = b1 ∧ y3 = c1 ∧ y4 * 256 + y5 = i1) from fun ⟨e0, e1, e2, e3, e4⟩ => hne ⟨e0, e1, e2, e3, by
      have h4 := Hyb.out y4 (by simp)
      have h5 := Hyb.out y5 (by simp)
      omega⟩)
    have Hiv := Lib.hid hiv
    obtain ⟨y, hy⟩ : ∃ y, y = y4 * 256 + y5 := ⟨_, rfl⟩
    rw [← hy] at HN Hiv ⊢
    have HX6 := Lib.hid (HX5.out.up (Up.of_none hg6))
    have HG6 := Lib.hid (grown_trans HG5.out hg6)
    clear hg6 HX5 HG5 hy hiv hne
    have k0 := HX6.out.cell 0
    have k1 := HX6.out.cell 1
    have k2 := HX6.out.cell 2
    have k3 := HX6.out.cell 3
    have k4 := HX6.out.cell 4
    have l6 := HX6.out.hi
    simp only [List.getElem?_cons_zero, List.getElem?_cons_succ] at k0 k1 k2 k3 k4
    have Hall := Lib.hid (show ∀ p q r s t : Int, p = y0 → q = y1 → r = y2 → s = y3 → t = y → ivB p q r s t = true from fun p q r s t e0 e1 e2 e3 e4 => by subst e0 e1 e2 e3 e4; exact Hiv.out)
    go_wp2_with (first
      | (go_at_call 16; refine (instr_Valid_any _ _ _ _ _ _).mono ?_; rintro e w7 ⟨rfl, hg7⟩; rw [Hall.out _ _ _ _ _ (by first | rfl | assumption | exact Eq.symm (by assumption)) (by first | rfl | assumption | exact Eq.symm (by assumption)) (by first | rfl | assumption | exact Eq.symm (by assumption)) (by first | rfl | assumption | exact Eq.symm (by assumption)) (by first | rfl | assumption | exact Eq.symm (by assumption))]; have HG7 := Lib.hid (grown_trans (grown_alloc HG6.out _) hg7); clear hg7)
      | (go_at_call 8; refine (awake_any _).mono ?_; rintro e w8 ⟨rfl, hg8⟩; have HG8 := Lib.hid (grown_trans HG7.out hg8); clear hg8))
    all_goals first
      | exact (HN.out ⟨by first | rfl | assumption, by first | rfl | assumption, by first | rfl | assumption, by first | rfl | assumption, by first | rfl | assumption⟩).elim
      | (go_ret; exact ⟨rfl, HG8.out⟩)

end Go.Proofs.Ytenlhaondbmhnaa
