/- Equal memories are found equal; no condition. -/
import Derived.Test.YtndmcnddgcifiaaSee
import Derived.Laws.StructEq
set_option linter.unusedVariables false
set_option linter.unusedSimpArgs false
namespace Go.Proofs.Ytndmcnddgcifiaa
open Go.RowKit

set_option maxHeartbeats 1000000 in
theorem ref01_Same_eq (F G : Nat → Prop) (xs : List Cel) (u v : Value) (w : World) (hu : RSl rCell w F xs u) (hv : RSl rCell w G xs v) :
    Calls Try.prog 42 #[u, v] w (BoolGrown true w) := by
  obtain ⟨A, c, rfl, h1, h2, h3⟩ := hu.size_eq
  obtain ⟨B, d, rfl, h4, h5, _⟩ := hv.size_eq
  have HU := Lib.hid hu
  have HV := Lib.hid hv
  clear hu hv
  have hl : ((xs.length : Int) != (xs.length : Int)) = false := by simp
  go_enter Try.func42, Try.ntmps42
  go_wp2_with fail
  go_loopw [13] (fun i wr => ∃ k : Nat, k ≤ xs.length ∧ i = .int .i64 k ∧ w.grownBy wr none) (fun i _ => xs.length - (intOf i).toNat)
  case atStart => exact ⟨0, Nat.zero_le _, rfl, grown_refl _ _⟩
  case round =>
    obtain ⟨k, hk, rfl, hg⟩ := hrel
    have HG := Lib.hid hg
    clear hg
    by_cases hlt : k < xs.length
    · obtain ⟨b1, o1, d1, e1, _, _, q0, q1, _⟩ := cell_at (HU.out.grow HG.out) hlt
      obtain ⟨b2, o2, d2, e2, _, _, p0, p1, _⟩ := cell_at (HV.out.grow HG.out) hlt
      cases e1
      cases e2
      have x2 : (0 : Int) ≤ (k : Int) := by omega
      have x3 : (k : Int) < (xs.length : Int) := by omega
      have x5 : (k : Int).toNat = k := by omega
      generalize xs.getD k (0, 0) = x at *
      go_wp2_with fail
      go_quiet (fail)
      go_wp2_with fail
      go_roundw
      case rel => exact ⟨k + 1, by omega, by go_num, grown_drewN HG.out _⟩
      case measure => simp [intOf]; omega
    · go_wp2_with fail
      go_ret
      exact ⟨rfl, HG.out⟩


set_option maxRecDepth 100000 in
set_option maxHeartbeats 4000000 in
theorem ref04_Same_eq (F G : Nat → Prop) (m : Mm) (u v u2 v2 : Value) (w : World) (hm : rMm.rep w F m [u, v]) (hm2 : rMm.rep w G m [u2, v2]) :
    Calls Try.prog 23 #[.agg #[u, v], .agg #[u2, v2]] w (BoolGrown true w) := by
  obtain ⟨u', v', e, hu, hv⟩ := mm_out hm
  cases e
  obtain ⟨u', v', e, hu2, hv2⟩ := mm_out hm2
  cases e
  have HU := Lib.hid hu
  have HV := Lib.hid hv
  have HU2 := Lib.hid hu2
  have HV2 := Lib.hid hv2
  obtain ⟨A, c, rfl, _⟩ := hu.size_eq
  obtain ⟨B, d, rfl, _, _, hll⟩ := hv.size_eq
  obtain ⟨A2, c2, rfl, _⟩ := hu2.size_eq
  obtain ⟨B2, d2, rfl, _⟩ := hv2.size_eq
  clear hm hm2 hu hv hu2 hv2
  have hl : ((m.lines.length : Int) != (m.lines.length : Int)) = false := by simp
  go_enter Try.func23, Try.ntmps23
  go_wp2_with fail
  have hgr : w.grownBy ((w.alloc (.cells #[.slice A m.cells.length c, .slice B m.lines.length d] 27)).alloc (.cells #[.slice A2 m.cells.length c2, .slice B2 m.lines.length d2] 27)) none := grown_alloc (grown_alloc (grown_refl _ _) _) _
  have hb1 : Bk ((w.alloc (.cells #[.slice A m.cells.length c, .slice B m.lines.length d] 27)).alloc (.cells #[.slice A2 m.cells.length c2, .slice B2 m.lines.length d2] 27)) w.heap.size 27 [.slice A m.cells.length c, .slice B m.lines.length d] := Bk.new.grow (grown_alloc (grown_refl _ _) _)
  have hb2 : Bk ((w.alloc (.cells #[.slice A m.cells.length c, .slice B m.lines.length d] 27)).alloc (.cells #[.slice A2 m.cells.length c2, .slice B2 m.lines.length d2] 27)) (w.heap.size + 1) 27 [.slice A2 m.cells.length c2, .slice B2 m.lines.length d2] := by
    have h := Bk.new (w := w.alloc (.cells #[.slice A m.cells.length c, .slice B m.lines.length d] 27)) (t := 27) (vs := [.slice A2 m.cells.length c2, .slice B2 m.lines.length d2])
    simpa using h
  generalize (w.alloc (.cells #[.slice A m.cells.length c, .slice B m.lines.length d] 27)).alloc (.cells #[.slice A2 m.cells.length c2, .slice B2 m.lines.length d2] 27) = W at *
  refine (ref01_Same_eq F G m.cells _ _ W (HU.out.grow hgr) (HU2.out.grow hgr)).mono ?_
  rintro e w1 ⟨rfl, hg1⟩
  have HG := Lib.hid (grown_trans hgr hg1)
  have HB1 := Lib.hid (hb1.grow hg1)
  have HB2 := Lib.hid (hb2.grow hg1)
  have k11 := HB1.out.cell 1
  have k21 := HB2.out.cell 1
  simp only [List.getElem?_cons_zero, List.getElem?_cons_succ] at k11 k21
  clear hgr hb1 hb2 hg1
  go_wp2_with fail
  clear k11 k21
  go_loopw [26] (fun i wr => ∃ k : Nat, k ≤ m.lines.length ∧ i = .int .i64 k ∧ w1.grownBy wr none) (fun i _ => m.lines.length - (intOf i).toNat)
  case atStart => exact ⟨0, Nat.zero_le _, rfl, grown_refl _ _⟩
  case round =>
    obtain ⟨k, hk, rfl, hg⟩ := hrel
    have HGr := Lib.hid hg
    clear hg
    by_cases hlt : k < m.lines.length
    · obtain ⟨b1, o1, d1, cs1, e1, _, _, _, hx1, hc1⟩ := ((HV.out.grow HG.out).grow HGr.out).at_ hlt
      obtain ⟨b2, o2, d3, cs2, e2, _, _, _, hx2, hc2⟩ := ((HV2.out.grow HG.out).grow HGr.out).at_ hlt
      cases e1
      cases e2
      obtain ⟨s1, rfl, _, hs1⟩ := ln_out hx1
      obtain ⟨s2, rfl, _, hs2⟩ := ln_out hx2
      generalize m.lines[k] = x at *
      have g0 : wr.cell? ⟨b1, o1 + k * 3, none⟩ = some (.int .i64 x.tag) := hc1 0 _ rfl
      have g1 : wr.cell? ⟨b1, o1 + k * 3 + 1, none⟩ = some (.bool x.dirty) := hc1 1 _ rfl
      have g2 : wr.cell? ⟨b1, o1 + k * 3 + 2, none⟩ = some s1 := hc1 2 _ rfl
      have p0 : wr.cell? ⟨b2, o2 + k * 3, none⟩ = some (.int .i64 x.tag) := hc2 0 _ rfl
      have p1 : wr.cell? ⟨b2, o2 + k * 3 + 1, none⟩ = some (.bool x.dirty) := hc2 1 _ rfl
      have p2 : wr.cell? ⟨b2, o2 + k * 3 + 2, none⟩ = some s2 := hc2 2 _ rfl
      obtain ⟨S1, t1, rfl, _⟩ := hs1.size_eq
      obtain ⟨S2, t2, rfl, _⟩ := hs2.size_eq
      have HS1 := Lib.hid hs1
      have HS2 := Lib.hid hs2
      have k11 := (HB1.out.grow HGr.out).cell 1
      have k21 := (HB2.out.grow HGr.out).cell 1
      simp only [List.getElem?_cons_zero, List.getElem?_cons_succ] at k11 k21
      have x2 : (0 : Int) ≤ (k : Int) := by omega
      have x3 : (k : Int) < (m.lines.length : Int) := by omega
      have x5 : (k : Int).toNat = k := by omega
      have l1 := World.block_lt_of_cell? wr _ g0
      have l2 := World.block_lt_of_cell? wr _ p0
      have l3 := (HB1.out.grow HGr.out).hi
      have l4 := (HB2.out.grow HGr.out).hi
      dsimp only at l1 l2
      have l1' : b1 < wr.heap.size + 1 := by omega
      have l2' : b2 < wr.heap.size + 1 := by omega
      have l3' : w.heap.size < wr.heap.size + 1 := by omega
      have l4' : w.heap.size + 1 < wr.heap.size + 1 := by omega
      clear hx1 hx2 hc1 hc2 hs1 hs2
      go_wp2_with fail
      go_region
      all_goals
        go_wp2_with fail
        refine (ref01_Same_eq F G x.cells _ _ _ ?g1 ?g2).mono ?_
        case g1 => exact HS1.out.grow (grown_drew (grown_alloc (grown_alloc (grown_refl _ _) _) _))
        case g2 => exact HS2.out.grow (grown_drew (grown_alloc (grown_alloc (grown_refl _ _) _) _))
        rintro e w5 ⟨rfl, hg5⟩
        have HG5 := Lib.hid (grown_trans HGr.out (grown_trans (grown_drew (grown_alloc (grown_alloc (grown_refl wr none) _) _)) hg5))
        clear hg5
        go_wp2_with fail
        go_roundw
        case rel => exact ⟨k + 1, by omega, by go_num, HG5.out⟩
        case measure => simp [intOf]; omega
    · go_wp2_with fail
      go_ret
      exact ⟨rfl, grown_trans HG.out HGr.out⟩

end Go.Proofs.Ytndmcnddgcifiaa
