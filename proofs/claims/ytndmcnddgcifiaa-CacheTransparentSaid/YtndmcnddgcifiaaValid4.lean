/- A valid memory is found valid; no condition. -/
import Derived.Test.YtndmcnddgcifiaaSee
import Derived.Test.YtndmcnddgcifiaaWrite
import Derived.Test.YtndmcnddgcifiaaMmV
import Derived.Test.YtndmcnddgcifiaaLooks
set_option linter.unusedVariables false
set_option linter.unusedSimpArgs false
namespace Go.Proofs.Ytndmcnddgcifiaa
open Go.RowKit

set_option maxHeartbeats 1000000 in
theorem ref04_all_true (F : Nat → Prop) (xs : List Cel) (u : Value) (w : World) (hu : RSl rCell w F xs u) (hx : ∀ c ∈ xs, CelV c) :
    Calls Try.prog 39 #[u] w (BoolGrown true w) := by
  obtain ⟨A, c, rfl, h1, h2, h3⟩ := hu.size_eq
  have HU := Lib.hid hu
  have HX := Lib.hid hx
  clear hu hx
  go_enter Try.func39, Try.ntmps39
  go_wp2_with fail
  go_loopw [7] (fun i wr => ∃ k : Nat, k ≤ xs.length ∧ i = .int .i64 k ∧ w.grownBy wr none) (fun i _ => xs.length - (intOf i).toNat)
  case atStart => exact ⟨0, Nat.zero_le _, rfl, grown_refl _ _⟩
  case round =>
    obtain ⟨k, hk, rfl, hg⟩ := hrel
    have HG := Lib.hid hg
    clear hg
    by_cases hlt : k < xs.length
    · obtain ⟨b1, o1, d1, e1, _, _, q0, q1, _⟩ := cell_at (HU.out.grow HG.out) hlt
      cases e1
      have x2 : (0 : Int) ≤ (k : Int) := by omega
      have x3 : (k : Int) < (xs.length : Int) := by omega
      have x5 : (k : Int).toNat = k := by omega
      have hv : decide ((xs.getD k (0, 0)).1 ≤ 2) = true := decide_eq_true (HX.out _ (by simp [List.getD_eq_getElem?_getD, hlt]))
      generalize xs.getD k (0, 0) = x at *
      have HV := Lib.hid hv
      clear hv
      go_upto_region 4 with fail
      have hgE : wr.grownBy (wr.alloc (.cells #[.int .u8 x.1, .int .u16 x.2] 30)) none := grown_alloc (grown_refl _ _) _
      have hb : Bk (wr.alloc (.cells #[.int .u8 x.1, .int .u16 x.2] 30)) wr.heap.size 30 [.int .u8 x.1, .int .u16 x.2] := Bk.new
      have HG2 := Lib.hid (grown_trans HG.out hgE)
      generalize wr.alloc (.cells #[.int .u8 x.1, .int .u16 x.2] 30) = W1 at *
      generalize hq : wr.heap.size = q at *
      have k0 := hb.cell 0
      have k1 := hb.cell 1
      simp only [List.getElem?_cons_zero, List.getElem?_cons_succ] at k0 k1
      clear hgE hb
      go_wp2_with fail
      refine (ref01_Valid_any x true HV.out W1).mono ?_
      rintro e w2 ⟨rfl, hg2⟩
      have HG3 := Lib.hid (grown_trans HG2.out hg2)
      clear hg2
      go_wp2_with fail
      go_roundw
      case rel => exact ⟨k + 1, by omega, by go_num, HG3.out⟩
      case measure => simp [intOf]; omega
    · go_wp2_with fail
      go_ret
      exact ⟨rfl, HG.out⟩

set_option maxRecDepth 100000 in
set_option maxHeartbeats 4000000 in
theorem ref04_Valid_true (F : Nat → Prop) (m : Mm) (hok : MmOk m) (hmv : MmV m) (u v : Value) (w : World) (hm : rMm.rep w F m [u, v]) :
    Calls Try.prog 20 #[.agg #[u, v]] w (BoolGrown true w) := by
  obtain ⟨u', v', e, hu, hv⟩ := mm_out hm
  cases e
  have HM := Lib.hid hm
  have HU := Lib.hid hu
  have Hok := Lib.hid hok
  have Hmv := Lib.hid hmv
  obtain ⟨A, c, rfl, _⟩ := hu.size_eq
  obtain ⟨B, d, rfl, _⟩ := hv.size_eq
  rw [hok.cells] at HM HU
  rw [hok.lines] at HM
  rw [hok.cells, hok.lines]
  clear hm hu hv hok hmv
  have hgA : w.grownBy (w.alloc (.cells #[.slice A 512 c, .slice B 4 d] 27)) none := grown_alloc (grown_refl _ _) _
  have hb1 : Bk (w.alloc (.cells #[.slice A 512 c, .slice B 4 d] 27)) w.heap.size 27 [.slice A 512 c, .slice B 4 d] := Bk.new
  go_enter Try.func20, Try.ntmps20
  go_upto_region 1 with fail
  have HGA := Lib.hid hgA
  generalize w.alloc (.cells #[.slice A 512 c, .slice B 4 d] 27) = W at *
  generalize hq1 : w.heap.size = q1 at *
  have k0 := hb1.cell 0
  have k1 := hb1.cell 1
  simp only [List.getElem?_cons_zero, List.getElem?_cons_succ] at k0 k1
  have HB1 := Lib.hid hb1
  clear hgA hb1
  go_wp2_with fail
  refine (ref04_all_true F m.cells _ W (HU.out.grow HGA.out) Hmv.out.cells).mono ?_
  rintro e w1 ⟨rfl, hg1⟩
  have hb1 := HB1.out.grow hg1
  have k0 := hb1.cell 0
  have k1 := hb1.cell 1
  simp only [List.getElem?_cons_zero, List.getElem?_cons_succ] at k0 k1
  have HB2 := Lib.hid hb1
  have HG1 := Lib.hid (grown_trans HGA.out hg1)
  clear hb1 hg1
  go_wp2_with fail
  go_loopw [24] (fun i wr => ∃ k : Nat, k ≤ 4 ∧ i = .int .i64 k ∧ w.grownBy wr none) (fun i _ => 4 - (intOf i).toNat)
  case atStart => exact ⟨0, Nat.zero_le _, rfl, HG1.out⟩
  case round =>
    obtain ⟨i, hi, rfl, hg⟩ := hrel
    have HG := Lib.hid hg
    clear hg
    by_cases hlt : i < 4
    · have hmr := rMm.grow HM.out HG.out
      obtain ⟨b, off, e4, lv, e, hd4, hd5, hF, g0, g1, g2, hlv⟩ := mm_line Hok.out hmr hlt
      cases e
      have x2 : (0 : Int) ≤ (i : Int) := by omega
      have x3 : (i : Int) < 4 := by omega
      have x5 : (i : Int).toNat = i := by omega
      obtain ⟨A4, c4, rfl, _⟩ := hlv.size_eq
      have HLV := Lib.hid hlv
      clear hlv hmr
      rcases Hok.out.each i hlt with ⟨t1, t2, t3⟩ | ⟨t, t1, t2, t3, t4⟩
      · rw [t1] at g0
        rw [t2] at g1
        rw [t3] at g2
        simp only [List.length_nil] at g2
        clear t1 t2 t3
        go_wp2_with fail
        go_roundw
        case rel => exact ⟨i + 1, by omega, by go_num, grown_alloc HG.out _⟩
        case measure => simp [intOf]; omega
      · rw [t1] at g0
        rw [t4] at g2
        have hV4 := Lib.hid (show ∀ c ∈ (lnAt m i).cells, CelV c from Hmv.out.lines i hlt)
        have y0 : (0 : Int) ≤ (t : Int) := by omega
        have y1 : (t : Int) < 128 := by omega
        have y2 : ((t : Int) == -1) = false := by simp
        have y3 : (t : Int) % 4 = (i : Int) := by omega
        have y4 : (t : Int).tmod 4 = (i : Int) := by rw [Int.tmod_eq_emod_of_nonneg y0]; exact y3
        have y5 : ¬ ((t : Int) < 0) := by omega
        have y6 : ¬ ((128 : Int) ≤ (t : Int)) := by omega
        rw [t4] at HLV
        have H4 := Lib.hid t4
        clear t1 t4
        go_upto_region 6 with fail
        have hgE := grown_alloc (grown_refl wr none) (.cells #[.int .i64 t, .bool (lnAt m i).dirty, .slice A4 4 c4] 40)
        have hb4 : Bk (wr.alloc (.cells #[.int .i64 t, .bool (lnAt m i).dirty, .slice A4 4 c4] 40)) wr.heap.size 40 [.int .i64 t, .bool (lnAt m i).dirty, .slice A4 4 c4] := Bk.new
        have HG2 := Lib.hid (grown_trans HG.out hgE)
        have HLV2 := Lib.hid (HLV.out.grow hgE)
        generalize wr.alloc (.cells #[.int .i64 t, .bool (lnAt m i).dirty, .slice A4 4 c4] 40) = W1 at *
        generalize hq4 : wr.heap.size = q4 at *
        have c0 := hb4.cell 0
        have c1 := hb4.cell 1
        have c2 := hb4.cell 2
        simp only [List.getElem?_cons_zero, List.getElem?_cons_succ] at c0 c1 c2
        clear hgE hb4
        go_wp2_with fail
        refine (ref04_all_true F (lnAt m i).cells _ W1 HLV2.out hV4.out).mono ?_
        rintro e w2 ⟨rfl, hg2⟩
        have HG3 := Lib.hid (grown_trans HG2.out hg2)
        clear hg2
        go_wp2_with fail
        go_roundw
        case rel => exact ⟨i + 1, by omega, by go_num, HG3.out⟩
        case measure => simp [intOf]; omega
    · go_wp2_with fail
      go_ret
      exact ⟨rfl, HG.out⟩

end Go.Proofs.Ytndmcnddgcifiaa
