/- The law InstrReads, walked; no condition. -/
import Derived.Test.YtenlhaondbmhnaaInsN
import Derived.Test.YtenlhaondbmhnaaInsQ
namespace Go.Proofs.Ytenlhaondbmhnaa
open Go.RowKit

def U8s (zs : List Int) : Prop := ∀ x ∈ zs, 0 ≤ x ∧ x ≤ 255
theorem Ints.take {k : IntKind} {w : World} {F : Nat → Prop} {A : Option Addr} {xs : List Int} (h : Ints k w F A xs) (n : Nat) : Ints k w F A (xs.take n) := by
  intro i hi
  have hi' : i < xs.length := by simp at hi; omega
  obtain ⟨b, off, e, hF, hc⟩ := h.at_ hi'
  exact ⟨b, off, e, hF, by rw [hc]; simp⟩

set_option maxRecDepth 100000 in
set_option maxHeartbeats 4000000 in
theorem lawReads_any (R A : Option Addr) (rs L : List Int) (cr c : Nat) (at_ by_ : Int) (w : World) (hrm : rs.length ≤ 9223372036854775807) (hl : L.length ≤ 9223372036854775807) (hwr : U8s rs) (hw : I64s L)
    (ha0 : -9223372036854775808 ≤ at_) (ha1 : at_ ≤ 9223372036854775807) (hb0 : -9223372036854775808 ≤ by_) (hb1 : by_ ≤ 9223372036854775807)
    (hR : Ints .u8 w (fun k => k < w.heap.size) R rs) (h : Ints .i64 w (fun k => k < w.heap.size) A L) :
    Calls Try.prog 3 #[.slice R rs.length cr, .slice A L.length c, .int .i64 at_, .int .i64 by_] w (BoolGrown true w) := by
  have HL := Lib.hid h
  have HR := Lib.hid hR
  have HWR := Lib.hid hwr
  clear h hR hwr
  obtain ⟨i0, hinf, hz0, hz1, hz2⟩ := info_parts Try.infoU8
  by_cases hx : (40 : Int) < rs.length
  · go_enter Try.func3, Try.ntmps3
    go_wp2_with (go_at_call 8; refine (awake_any _).mono ?_; rintro e w7 ⟨rfl, hg7⟩)
    go_ret
    exact ⟨rfl, hg7⟩
  go_enter Try.func3, Try.ntmps3
  go_wp2_with fail
  refine (mkNew_any A L c w).mono ?_
  rintro e W1 ⟨rfl, rfl⟩
  go_wp2_with fail
  refine (drawn_any A L c w HL.out hl hw).mono ?_
  rintro e w1 ⟨o1, a1, b1, c1, i1, hv1, rfl, hg1, hz1'⟩
  have HV1 := Lib.hid hv1
  have HR1 := Lib.hid (HR.out.low hg1)
  have HG1 := Lib.hid hg1
  clear hv1 hg1 HL hl hw HR
  go_wp2_with fail
  refine (ref06_Encode_yes o1 a1 b1 c1 i1 _ HV1.out).mono ?_
  rintro e w3 ⟨P, rfl, hP, hg3⟩
  have HR3 := Lib.hid (HR1.out.low hg3)
  have HG3 := Lib.hid (grown_trans HG1.out hg3)
  have HP3 := Lib.hid (show Ints .u8 w3 (fun k => k < w3.heap.size) P _ from Row.sub hP fun k hk => hk.2)
  clear hP hg3 HG1 HR1
  obtain ⟨xs, hxs⟩ : ∃ xs, xs = [o1, a1, b1, c1, i1 / 256, i1 % 256] := ⟨_, rfl⟩
  rw [← hxs] at HP3
  have hx6 : xs.length = 6 := by rw [hxs]; rfl
  have hby : Bytes xs := by rw [hxs]; exact enc_bytes HV1.out
  have HBy := Lib.hid hby
  clear hby
  have hxne : xs ≠ [] := by rw [hxs]; simp
  clear hxs HV1
  go_wp2_with (at_builtin; go_loud (refine wpList_copied .u8 rfl _ _ 22 5 rfl i0 1 Try.underlying22 hinf hz0 hz1 hz2 rfl P xs 6 _ (by rw [hx6]; rfl) HP3.out ?c1 ?c2 ?c3 ?_))
  case c1 => exact hxne
  case c2 => rw [hx6]; decide
  case c3 => rw [hx6]; decide
  intro g cy w4 hB hgy hg4
  have HR4 := Lib.hid (HR3.out.grown hg4 fun k hk => hk)
  have HP4 := Lib.hid (HP3.out.grown hg4 fun k hk => hk)
  have HG4 := Lib.hid (grown_trans HG3.out hg4)
  have HB4 := Lib.hid hB
  have hgR : w3.heap.size ≤ g := hgy
  have Hm := Lib.hid (show 0 ≤ at_ % 6 ∧ at_ % 6 < 6 from ⟨Int.emod_nonneg _ (by decide), Int.emod_lt_of_pos _ (by decide)⟩)
  have Hn := Lib.hid (show 0 ≤ by_ % 6 ∧ by_ % 6 < 6 from ⟨Int.emod_nonneg _ (by decide), Int.emod_lt_of_pos _ (by decide)⟩)
  have HA := Lib.hid (And.intro ha0 ha1)
  have HBb := Lib.hid (And.intro hb0 hb1)
  clear ha0 ha1 hb0 hb1 hB
  obtain ⟨mn, hm⟩ := Int.eq_ofNat_of_zero_le Hm.out.1
  obtain ⟨nn, hn⟩ := Int.eq_ofNat_of_zero_le Hn.out.1
  have HM := Lib.hid hm
  have HN := Lib.hid hn
  have hmn : mn < 6 := by have := Hm.out.2; omega
  have hnn : nn < 6 := by have := Hn.out.2; omega
  clear hm hn Hm Hn
  have hm1 : (mn : Int) < 6 := by omega
  have hxl : mn < xs.length := by rw [hx6]; exact hmn
  have hcm := HB4.out.cell (j := mn) hxl
  have hfm := HB4.out.free mn
  have hgl := HB4.out.hi
  go_wp2_with fail
  refine (mod_any at_ 6 _ HA.out.1 HA.out.2 (by omega) (by omega)).mono ?_
  rintro e w' ⟨rfl, rfl⟩
  rw [HM.out]
  obtain ⟨b, hb⟩ : ∃ b, b = by_ % 256 := ⟨_, rfl⟩
  have hbb : 0 ≤ b ∧ b ≤ 255 := by omega
  have HBw := Lib.hid hb.symm
  clear hb
  go_wp2_with fail
  rw [HBw.out]
  have hag : Agree (fun k => k < w3.heap.size) w4 (w4.setCell ⟨g, mn, none⟩ (.int .u8 b)) := (Agree.refl _ _).setCell (by dsimp only; omega) _
  have hsz : (w4.setCell ⟨g, mn, none⟩ (.int .u8 b)).heap.size = w4.heap.size := by simp [World.setCell]
  have hlow : ∀ k, k < w3.heap.size → k < (w4.setCell ⟨g, mn, none⟩ (.int .u8 b)).heap.size := fun k hk => by rw [hsz]; exact Nat.lt_of_lt_of_le hk hg4.size
  have hHR5 : Ints .u8 (w4.setCell ⟨g, mn, none⟩ (.int .u8 b)) (fun k => k < (w4.setCell ⟨g, mn, none⟩ (.int .u8 b)).heap.size) R rs := Row.sub (HR4.out.keep hag) hlow
  have HR5 := Lib.hid hHR5
  clear hHR5
  have hHP5 : Ints .u8 (w4.setCell ⟨g, mn, none⟩ (.int .u8 b)) (fun k => k < (w4.setCell ⟨g, mn, none⟩ (.int .u8 b)).heap.size) P xs := Row.sub (HP4.out.keep hag) hlow
  have HP5 := Lib.hid hHP5
  clear hHP5
  have HB5 := Lib.hid (HB4.out.set mn b hxl)
  have HG5 := Lib.hid (grown_set HG4.out (.inr (by have := HG3.out.size; dsimp only; omega)) (.int .u8 b) : w.grownBy (w4.setCell ⟨g, mn, none⟩ _) none)
  clear hag hsz hlow HR4 HP4 HB4 HG4 HG3 HR3 HP3 hg4 hcm hfm hgl
  generalize w4.setCell ⟨g, mn, none⟩ (.int .u8 b) = w8 at *
  have hp5 : Ints .u8 w8 (fun k => k < w8.heap.size) P xs := HP5.out
  obtain ⟨pb, po, hP, _, _⟩ := hp5.at_ (i := 0) (by omega)
  clear hp5
  subst hP
  have hnn0 : (nn : Int) ≤ 6 := by omega
  have H7 := Lib.hid (show (xs ++ [b]).length = 7 by simp [hx6])
  refine wp_region_rely (fun w' => w8.grownBy w' none) (RR w8.heap.size xs b)
    [SVal (.slice R rs.length cr), SVal (.slice (some ⟨pb, po, none⟩) 6 6), SVal (.slice (some ⟨g, 0, none⟩) 6 cy), SVal (.slice (some ⟨pb, po, none⟩) 6 6), SVal (.int .i64 by_), SVal (.int .i64 nn), SVal (.slice (some ⟨pb, po, none⟩) nn 6), SVal (.slice (some ⟨pb, po, none⟩) 6 6), S6 w8.heap.size xs, SVal (.int .i64 by_), SVal (.int .u8 b), S1 w8.heap.size b, S6 w8.heap.size (xs ++ [b]), S5 w8.heap.size (.slice R rs.length cr) (.slice (some ⟨pb, po, none⟩) 6 6) (.slice (some ⟨g, 0, none⟩) 6 cy) (.slice (some ⟨pb, po, none⟩) nn 6) (xs ++ [b]), SVal (.int .i64 5), SVal (.int .i64 0)]
    78 (by kernel_rfl) rfl (by kernel_rfl) (grown_drew (grown_refl _ _)) (fun _ => RR.refl) ?_ ?_ ?_
  · exact ⟨SVal.kept, SVal.kept, SVal.kept, SVal.kept, SVal.kept, SVal.kept, SVal.kept, SVal.kept, S6.kept6, SVal.kept, SVal.kept, S1.kept, S6.kept7, S5.kept, SVal.kept, SVal.kept, trivial⟩
  · refine duties_cons ?_ (duties_cons ?_ (duties_cons ?_ (duties_cons ?_ (duties_cons ?_ (duties_cons ?_ (duties_cons ?_ (duties_cons ?_ (duties_cons ?_ (duties_cons ?_ (duties_cons ?_ (duties_cons ?_ (duties_cons ?_ (duties_cons ?_ (duties_cons ?_ (duties_cons ?_ duties_nil)))))))))))))))
    · refine duty_plain rfl fun f w1 hb H => ?_
      have e0 : f 0 = _ := H 0 (by decide)
      clear H
      have HB := Lib.hid hb; clear hb
      go_simp
      exact ⟨HB.out, RR.refl, rfl⟩
    · refine duty_plain rfl fun f w1 hb H => ?_
      have e9 : f 9 = _ := H 9 (by decide)
      clear H
      have HB := Lib.hid hb; clear hb
      go_simp
      exact ⟨HB.out, RR.refl, rfl⟩
    · refine duty_plain rfl fun f w1 hb H => ?_
      have e11 : f 11 = _ := H 11 (by decide)
      clear H
      have HB := Lib.hid hb; clear hb
      go_simp
      exact ⟨HB.out, RR.refl, rfl⟩
    · refine duty_plain rfl fun f w1 hb H => ?_
      have e9 : f 9 = _ := H 9 (by decide)
      clear H
      have HB := Lib.hid hb; clear hb
      go_simp
      exact ⟨HB.out, RR.refl, rfl⟩
    · refine duty_plain rfl fun f w1 hb H => ?_
      have e3 : f 3 = _ := H 3 (by decide)
      clear H
      have HB := Lib.hid hb; clear hb
      go_simp
      exact ⟨HB.out, RR.refl, rfl⟩
    · refine duty_plain rfl fun f w1 hb H => ?_
      have e43 : f 43 = _ := H 43 (by decide)
      clear H
      go_simp
      refine (mod_any by_ 6 _ HBb.out.1 HBb.out.2 (by omega) (by omega)).mono ?_
      rintro e w7 ⟨rfl, rfl⟩
      exact ⟨_, rfl, hb, RR.refl, congrArg (Value.int .i64) HN.out⟩
    · refine duty_plain rfl fun f w1 hb H => ?_
      have e42 : f 42 = _ := H 42 (by decide)
      have e44 : f 44 = _ := H 44 (by decide)
      clear H
      have HB := Lib.hid hb; clear hb
      go_simp
      exact ⟨HB.out, RR.refl, rfl⟩
    · refine duty_plain rfl fun f w1 hb H => ?_
      have e9 : f 9 = _ := H 9 (by decide)
      clear H
      have HB := Lib.hid hb; clear hb
      go_simp
      exact ⟨HB.out, RR.refl, rfl⟩
    · refine duty_plain rfl fun f w1 hb H => ?_
      have e46 : f 46 = _ := H 46 (by decide)
      clear H
      obtain ⟨g6, c6, w7, hr, hB6, hg6, hgr⟩ := run_copied (P := Try.prog) .u8 22 22 5 i0 1 Try.underlying22 hinf hz0 hz1 hz2 (some ⟨pb, po, none⟩) xs 6 _ (HP5.out.low hb) hxne (by rw [hx6]; decide) (by rw [hx6]; decide)
      rw [hx6] at hr
      simp only [execOp, resolve, invoke, builtin, Sem.run_bind, Sem.run_pure, Result.andThen_ok, List.map_toArray, List.map_cons, List.map_nil, evalW, e46, hr, relyUpon]
      exact ⟨grown_trans hb hgr, RR.none hgr, g6, c6, by rw [hx6]; rfl, by have := hb.size; omega, hB6⟩
    · refine duty_plain rfl fun f w1 hb H => ?_
      have e3 : f 3 = _ := H 3 (by decide)
      clear H
      have HB := Lib.hid hb; clear hb
      go_simp
      exact ⟨HB.out, RR.refl, rfl⟩
    · refine duty_plain rfl fun f w1 hb H => ?_
      have e48 : f 48 = _ := H 48 (by decide)
      clear H
      have HB := Lib.hid hb; clear hb
      go_simp
      exact ⟨HB.out, RR.refl, congrArg (Value.int .u8) HBw.out⟩
    · refine duty_plain rfl fun f w1 hb H => ?_
      have e49 : f 49 = _ := H 49 (by decide)
      clear H
      have HB := Lib.hid hb; clear hb
      go_simp
      exact ⟨grown_alloc HB.out _, RR.none (grown_alloc (grown_refl _ _) _), _, rfl, HB.out.size, Bk.new⟩
    · refine duty_plain rfl fun f w1 hb H => ?_
      have s47 := H 47 (by decide)
      have s50 := H 50 (by decide)
      clear H
      obtain ⟨g6, c6, e47, hN6, hB6⟩ := s47
      obtain ⟨q1, e50, hN1, hK1⟩ := s50
      have hI1 : Ints .u8 w1 (fun k => k = q1) (some ⟨q1, 0, none⟩) [b] := by intro i hi; have hi0 : i = 0 := (by simpa using hi); subst hi0; exact ⟨q1, 0, rfl, rfl, by rw [hK1.cell]; rfl⟩
      obtain ⟨g7, c7, w7, hr, hB7, hor⟩ := run_joined (P := Try.prog) .u8 22 22 5 i0 1 Try.underlying22 hinf hz0 hz1 hz2 g6 c6 xs hB6 (some ⟨q1, 0, none⟩) [b] 1 _ hI1 (by simp) (by rw [hx6]; simp [maxLen]) (by rw [hx6]; simp)
      simp only [List.length_cons, List.length_nil, Nat.zero_add] at hr
      simp only [execOp, resolve, invoke, builtin, Sem.run_bind, Sem.run_pure, Result.andThen_ok, List.map_toArray, List.map_cons, List.map_nil, evalW, e47, e50, hr, relyUpon]
      rcases hor with ⟨rfl, rfl, hgr⟩ | ⟨hg7, hgr⟩
      · exact ⟨grown_fresh hb hgr hN6, RR.joined (by omega) hB6 hB7 hgr, g7, c7, rfl, hN6, hB7⟩
      · exact ⟨grown_trans hb hgr, RR.none hgr, g7, c7, rfl, by have := hb.size; omega, hB7⟩
    · refine duty_plain rfl fun f w1 hb H => ?_
      have e39 : f 39 = _ := H 39 (by decide)
      have e40 : f 40 = _ := H 40 (by decide)
      have e41 : f 41 = _ := H 41 (by decide)
      have e45 : f 45 = _ := H 45 (by decide)
      have s51 := H 51 (by decide)
      clear H
      obtain ⟨g7, c7, e51, hN7, hB7⟩ := s51
      have HB := Lib.hid hb; clear hb
      go_simp
      exact ⟨grown_alloc HB.out _, RR.none (grown_alloc (grown_refl _ _) _), _, g7, c7, rfl, HB.out.size, by rw [H7.out]; exact Bk.new, hB7.grow (grown_alloc (grown_refl _ _) _)⟩
    · refine duty_plain rfl fun f w1 hb H => ?_
      have s52 := H 52 (by decide)
      clear H
      obtain ⟨q5, g7, c7, e52, _, _, _⟩ := s52
      have HB := Lib.hid hb; clear hb
      go_simp
      exact ⟨HB.out, RR.refl, rfl⟩
    · refine duty_plain rfl fun f w1 hb H => ?_
      clear H
      have HB := Lib.hid hb; clear hb
      go_simp
      exact ⟨HB.out, RR.refl, rfl⟩
  · intro f w9 hb hE
    simp only [putAll, Act.put, slotV, List.setIfInBounds_toArray, List.set_cons_succ, List.set_cons_zero]
    simp only [Ends, tagV, SVal, and_true] at hE
    have s52 := hE.2.2.2.2.2.2.2.2.2.2.2.2.2.1
    have e54 : f 54 = .int .i64 0 := hE.2.2.2.2.2.2.2.2.2.2.2.2.2.2.2
    have e53 : f 53 = .int .i64 5 := hE.2.2.2.2.2.2.2.2.2.2.2.2.2.2.1
    clear hE
    obtain ⟨q5, g7, c7, e52, hN5, hK5, hB7⟩ := s52
    rw [e52, e53, e54]
    have hP9 : Ints .u8 w9 (fun k => k < w9.heap.size) (some ⟨pb, po, none⟩) xs := HP5.out.low hb
    have hR9 : Ints .u8 w9 (fun k => k < w9.heap.size) R rs := HR5.out.low hb
    have hB9 := HB5.out.grow hb
    have HG9 := Lib.hid (grown_trans HG5.out hb)
    rw [H7.out] at hK5
    have HK9 := Lib.hid hK5
    have HZ := Lib.hid (show ∀ k, k < 5 → ∃ Z zs cz, [Value.slice R rs.length cr, .slice (some ⟨pb, po, none⟩) 6 6, .slice (some ⟨g, 0, none⟩) 6 cy, .slice (some ⟨pb, po, none⟩) nn 6, .slice (some ⟨g7, 0, none⟩) 7 c7][k]? = some (.slice Z (List.length zs) cz) ∧ zs.length ≤ 9223372036854775807 ∧ U8s zs ∧ Ints .u8 w9 (fun k => k < w9.heap.size) Z zs from by
      intro k hk
      have hxb : U8s xs := fun x hx => by have := HBy.out x hx; omega
      have : k = 0 ∨ k = 1 ∨ k = 2 ∨ k = 3 ∨ k = 4 := by omega
      rcases this with rfl | rfl | rfl | rfl | rfl
      · exact ⟨R, rs, cr, rfl, hrm, HWR.out, hR9⟩
      · exact ⟨_, xs, 6, by rw [hx6]; rfl, by omega, hxb, hP9⟩
      · refine ⟨_, xs.set mn b, cy, by rw [List.length_set, hx6]; rfl, by simp; omega, fun x hx => ?_, hB9.low⟩
        rcases List.mem_or_eq_of_mem_set hx with hx | rfl
        · exact hxb x hx
        · exact hbb
      · refine ⟨_, xs.take nn, 6, by rw [List.length_take, hx6, Nat.min_eq_left (by omega)]; rfl, by simp; omega, fun x hx => hxb x (List.mem_of_mem_take hx), hP9.take nn⟩
      · refine ⟨_, xs ++ [b], c7, by rw [H7.out]; rfl, by rw [H7.out]; omega, fun x hx => ?_, hB7.low⟩
        rcases List.mem_append.1 hx with hx | hx
        · exact hxb x hx
        · simp at hx; subst hx; exact hbb)
    clear hP9 hR9 hB9 hK5 hB7 hb e52 e53 e54 HG5 HB5 HP5 HR5 hinf hz0 hz1 hz2
    go_wp2_with fail
    go_loopw [54] (fun i wr => ∃ k : Nat, k ≤ 5 ∧ i = .int .i64 k ∧ w9.grownBy wr none) (fun i _ => 5 - (intOf i).toNat)
    case atStart => exact ⟨0, by omega, rfl, grown_refl _ _⟩
    case round =>
      obtain ⟨k, hk5, rfl, hgr⟩ := hrel
      by_cases hlt : k < 5
      · have hlti : (k : Int) < 5 := by omega
        obtain ⟨Z, zs, cz, hz0, hzl, hzw, hzi⟩ := HZ.out k hlt
        have z0 : wr.cell? ⟨q5, k, none⟩ = some (.slice Z zs.length cz) := by rw [(gcell hgr).1 _ _ HK9.out.hi, HK9.out.cell]; exact hz0
        have HZr := Lib.hid (hzi.low hgr)
        have HWz := Lib.hid hzw
        have HGr := Lib.hid hgr
        clear hz0 hzi hzw hgr
        go_wp2_with fail
        refine (instr_Decode_any _ Z zs cz _ hzl (fun k hk => hk) HZr.out HWz.out).mono ?_
        rintro e wd ⟨rfl, hgd⟩
        obtain ⟨d0, h0⟩ : ∃ d, d = dec zs 0 := ⟨_, rfl⟩
        obtain ⟨d1, h1⟩ : ∃ d, d = dec zs 1 := ⟨_, rfl⟩
        obtain ⟨d2, h2⟩ : ∃ d, d = dec zs 2 := ⟨_, rfl⟩
        obtain ⟨d3, h3⟩ : ∃ d, d = dec zs 3 := ⟨_, rfl⟩
        obtain ⟨d4, h4⟩ : ∃ d, d = dec zs 4 := ⟨_, rfl⟩
        obtain ⟨d5, h5⟩ : ∃ d, d = decE zs := ⟨_, rfl⟩
        rw [← h0, ← h1, ← h2, ← h3, ← h4, ← h5]
        have H0 := Lib.hid h0; have H1 := Lib.hid h1; have H2 := Lib.hid h2; have H3 := Lib.hid h3; have H4 := Lib.hid h4; have H5 := Lib.hid h5
        clear h0 h1 h2 h3 h4 h5
        have hgA : wd.grownBy (wd.alloc (.cells #[.int .i64 d0, .int .i64 d1, .int .i64 d2, .int .i64 d3, .int .i64 d4] 29)) none := grown_alloc (grown_refl _ _) _
        have HZa := Lib.hid ((HZr.out.low hgd).low hgA)
        have HKa := Lib.hid (show Bk (wd.alloc (.cells #[.int .i64 d0, .int .i64 d1, .int .i64 d2, .int .i64 d3, .int .i64 d4] 29)) wd.heap.size 29 [.int .i64 d0, .int .i64 d1, .int .i64 d2, .int .i64 d3, .int .i64 d4] from Bk.new)
        have HGa := Lib.hid (grown_trans (grown_trans HGr.out hgd) hgA)
        clear hgA hgd HZr HGr z0
        go_wp2_with fail
        refine (ref06_Decode_any _ Z zs cz _ hzl (fun k hk => hk) HZa.out HWz.out).mono ?_
        rintro e we ⟨rfl, hge⟩
        rw [← H0.out, ← H1.out, ← H2.out, ← H3.out, ← H4.out, ← H5.out]
        have hke := HKa.out.grow hge
        have k0 := hke.cell 0
        have k1 := hke.cell 1
        have k2 := hke.cell 2
        have k3 := hke.cell 3
        have k4 := hke.cell 4
        have lke := hke.hi
        simp only [List.getElem?_cons_zero, List.getElem?_cons_succ] at k0 k1 k2 k3 k4
        have HGe := Lib.hid (grown_trans HGa.out hge)
        clear hke hge HKa HGa HZa
        go_wp2_with fail
        go_roundw
        case rel => exact ⟨k + 1, by omega, by go_num, grown_alloc HGe.out _⟩
        case measure => simp [intOf]; omega
      · have hk : k = 5 := by omega
        subst hk
        have HGx := Lib.hid (grown_trans HG9.out hgr)
        clear hgr
        go_wp2_with (go_at_call 8; refine (awake_any _).mono ?_; rintro e w7 ⟨rfl, hg7⟩; have HGy := Lib.hid (grown_trans HGx.out hg7); clear hg7)
        go_ret
        exact ⟨rfl, HGy.out⟩
end Go.Proofs.Ytenlhaondbmhnaa
