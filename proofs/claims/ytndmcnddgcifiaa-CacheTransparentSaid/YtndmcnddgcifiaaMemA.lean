/- Copies of memories; no condition. -/
import Derived.Test.YtndmcnddgcifiaaMemT
import Derived.Test.YtndmcnddgcifiaaBk
import Derived.Outline
set_option linter.unusedVariables false
set_option linter.unusedSimpArgs false
namespace Go.Proofs.Ytndmcnddgcifiaa
open Go.RowKit

structure CopyInv (m : Mm) (w : World) (q2 q3 : Nat) (u : Value) (k : Nat) (wr : World) : Prop where
  grown : w.grownBy wr none
  res : Bk wr q2 27 [.slice none 0 0, .slice none 0 0]
  cells : ∃ fpc, OSl rCell 30 wr fpc m.cells u ∧ fpc.Nodup ∧ ∀ b, b ∈ fpc → w.heap.size ≤ b ∧ b < q3 ∧ ¬ b = q2
  out : ∃ v fp, Bk wr q3 27 [u, v] ∧ MkO rLn 40 (q3 + 1) wr fp v (m.lines.take k)

set_option maxHeartbeats 1000000 in
theorem ref04_Copy_any (F : Nat → Prop) (m : Mm) (u v : Value) (w : World) (hm : rMm.rep w F m [u, v]) :
    Calls Try.prog 12 #[.agg #[u, v]] w (OwnRet rMm m w) := by
  obtain ⟨u', v', e, hu, hv⟩ := mm_out hm
  cases e
  have HU := Lib.hid hu
  have HV := Lib.hid hv
  obtain ⟨A, c, rfl, hlc, hcm, hlm⟩ := hv.size_eq
  clear hm hu hv
  go_enter Try.func12, Try.ntmps12
  go_wp2_with (at_builtin; go_loud (refine wpList_rcopied (R := rCell) rfl _ _ slCell (by decide) rfl F rfl _ m.cells rfl ?c1 ?_))
  case c1 => exact HU.out.grow (grown_alloc (grown_alloc (grown_refl _ _) _) _)
  intro u1 w1 hmk hg1
  have hb1 : Bk w1 w.heap.size 27 [u, .slice A m.lines.length c] := (Bk.new.grow (grown_alloc (grown_refl _ _) _)).grow hg1
  have hb2 : Bk w1 (w.heap.size + 1) 27 [.slice none 0 0, .slice none 0 0] := by
    have := (Bk.new (w := w.alloc (.cells #[u, .slice A m.lines.length c] 27)) (t := 27) (vs := [.slice none 0 0, .slice none 0 0])).grow hg1
    simpa using this
  have hz1 := hb1.hi
  have hz2 := hb2.hi
  have k1 := hb1.cell 1
  simp only [List.getElem?_cons_zero, List.getElem?_cons_succ] at k1
  have hg := grown_trans (grown_alloc (grown_alloc (grown_refl w none) _) _) hg1
  obtain ⟨fpc, hoc, hnd, hlo⟩ := (hmk.own flatCell).done
  obtain ⟨A1, c1, rfl⟩ := hmk.shape
  have hgA := grown_alloc hg (.cells #[.slice A1 m.cells.length c1, .slice none 0 0] 27)
  have HI := Lib.hid (show CopyInv m w (w.heap.size + 1) w1.heap.size (.slice A1 m.cells.length c1) 0 (w1.alloc (.cells #[.slice A1 m.cells.length c1, .slice none 0 0] 27)) from
    ⟨hgA, hb2.grow (grown_alloc (grown_refl _ _) _), ⟨fpc, hoc.keep fun b hb => heap_alloc_old _ _ (hoc.live b hb), hnd, fun b hb => ⟨by have := hlo b hb; omega, hoc.live b hb, by have := hlo b hb; omega⟩⟩, _, [], Bk.new, MkO.nil _ _ _ _⟩)
  clear hmk hg1 hb1 hb2 hg hgA hoc hnd hlo
  go_wp2_with fail
  generalize w1.alloc (.cells #[.slice A1 m.cells.length c1, .slice none 0 0] 27) = w2 at *
  generalize w1.heap.size = q3 at *
  generalize hu1 : Value.slice A1 m.cells.length c1 = u1 at *
  clear k1
  go_loopw [13] (fun i wr => ∃ k : Nat, k ≤ m.lines.length ∧ i = .int .i64 k ∧ CopyInv m w (w.heap.size + 1) q3 u1 k wr) (fun i _ => m.lines.length - (intOf i).toNat)
  case atStart => exact ⟨0, Nat.zero_le _, rfl, HI.out⟩
  case round =>
    obtain ⟨k, hk, rfl, hinv⟩ := hrel
    have HN := Lib.hid hinv
    clear hinv HI
    by_cases hlt : k < m.lines.length
    · obtain ⟨b, off, c', cs, e, _, _, hF, hx, hcell⟩ := (HV.out.grow HN.out.grown).at_ hlt
      cases e
      obtain ⟨lv, rfl, hwf, hlv⟩ := ln_out hx
      have g0 : wr.cell? ⟨b, off + k * 3, none⟩ = some (.int .i64 m.lines[k].tag) := hcell 0 _ rfl
      have g1 : wr.cell? ⟨b, off + k * 3 + 1, none⟩ = some (.bool m.lines[k].dirty) := hcell 1 _ rfl
      have g2 : wr.cell? ⟨b, off + k * 3 + 2, none⟩ = some lv := hcell 2 _ rfl
      obtain ⟨LA, lc, rfl, hl1, hl2, hl3⟩ := hlv.size_eq
      have HL := Lib.hid hlv
      have Hwf := Lib.hid hwf
      obtain ⟨v, fp, ho1, ho2⟩ := HN.out.out
      have hq3 := ho1.hi
      have j1 := ho1.cell 1
      have f1 := ho1.free 1
      simp only [List.getElem?_cons_zero, List.getElem?_cons_succ] at j1
      have HO1 := Lib.hid ho1
      have HO2 := Lib.hid ho2
      clear hlv hwf ho1 ho2 hcell hx
      have x2 : (0 : Int) ≤ (k : Int) := by omega
      have x3 : (k : Int) < (m.lines.length : Int) := by omega
      have x5 : (k : Int).toNat = k := by omega
      go_wp2_with (at_builtin; go_loud (refine wpList_rcopied (R := rCell) rfl _ (.tmp 18) slCell (by decide) rfl F rfl _ m.lines[k].cells rfl ?c1 ?_))
      case c1 => exact HL.out.grow (grown_alloc (grown_refl _ _) _)
      intro lv w3 hmk hg3
      obtain ⟨gp, hoc, hnd, hlo⟩ := (hmk.own flatCell).done
      obtain ⟨LB, ld, rfl⟩ := hmk.shape
      have Hl := Lib.hid (show (m.lines.take k).length = k by simp; omega)
      obtain ⟨VA, vc, hv⟩ := HO2.out.shape
      rw [Hl.out] at hv
      subst hv
      have hg4 : wr.grownBy w3 none := grown_trans (grown_alloc (grown_refl wr none) _) hg3
      have hB5 : Bk w3 wr.heap.size 40 [.int .i64 m.lines[k].tag, .bool m.lines[k].dirty, .slice LA m.lines[k].cells.length lc] := Bk.new.grow hg3
      have hB3 := HO1.out.grow hg4
      have hz5 := hB5.hi
      have f5 := hB5.free 2
      have p0 := hB5.cell 0
      have p1 := hB5.cell 1
      have p2 := hB5.cell 2
      have j3 := hB3.cell 1
      simp only [List.getElem?_cons_zero, List.getElem?_cons_succ] at p0 p1 p2 j3
      have n35 : ¬ q3 = wr.heap.size := by omega
      have HB3 := Lib.hid hB3
      have HB5 := Lib.hid hB5
      have HC := Lib.hid hoc
      have HD := Lib.hid (And.intro hnd hlo)
      have HG := Lib.hid hg4
      clear hB3 hB5 hoc hnd hlo hg4 hmk hg3 g0 g1 g2 j1
      have hgw : wr.grownBy ((w3.setCell ⟨wr.heap.size, 2, none⟩ (.slice LB m.lines[k].cells.length ld)).alloc (.cells #[.int .i64 m.lines[k].tag, .bool m.lines[k].dirty, .slice LB m.lines[k].cells.length ld] 40)) none := grown_alloc (grown_set HG.out (.inr (Nat.le_refl _)) _) _
      have HW := Lib.hid hgw
      clear hgw
      go_wp2_with (at_builtin; go_loud (refine wpList_rpushO (R := rLn) rfl (.tmp 22) (.tmp 24) slLine (by decide) rfl (q3 + 1) (.slice VA k vc) (m.lines.take k) fp gp rfl ?c1 ?c2 w3.heap.size m.lines[k] [.int .i64 m.lines[k].tag, .bool m.lines[k].dirty, .slice LB m.lines[k].cells.length ld] rfl ?c3 ?c4 ?c5 ?c6 ?c7 ?_))
      case c1 => exact HO2.out.grow HW.out
      case c2 => have := HW.out.size; omega
      case c3 => exact ln_own Hwf.out (HC.out.keep fun b hb => by
          have h1 := HD.out.2 b hb
          have h2 := HC.out.live b hb
          rw [heap_alloc_old _ _ (by rw [set_size]; exact h2), heap_setCell_other _ _ _ _ (show b ≠ wr.heap.size by omega)])
      case c4 => exact fun j u hj => cell_new (by rw [set_size]) hj
      case c5 => simp; omega
      case c6 => exact HD.out.1
      case c7 => exact fun b hb => ⟨by have := HD.out.2 b hb; omega, fun e => by have := (HO2.out.row b e.symm).2; have := HD.out.2 b hb; omega, fun hm => by have := HO2.out.live b hm; have := HD.out.2 b hb; omega⟩
      intro v' w5 hmk5 hg5
      have hbB : Bk w5 q3 27 [u1, .slice VA k vc] := (HO1.out.grow HW.out).keep (hg5.block _ (by have := HW.out.size; omega) fun e => by have := (HO2.out.row _ e.symm).1; omega)
      have j5 := hbB.cell 1
      have f5 := hbB.free 1
      simp only [List.getElem?_cons_zero, List.getElem?_cons_succ] at j5
      obtain ⟨WA, wc, hv5⟩ := hmk5.shape
      rw [show (m.lines.take (k + 1)).length = k + 1 by simp; omega] at hv5
      subst hv5
      have HM5 := Lib.hid hmk5
      have HG5 := Lib.hid hg5
      have HB5 := Lib.hid hbB
      clear hmk5 hg5 hbB
      go_wp2_with fail
      go_roundw
      case rel =>
        refine ⟨k + 1, by omega, by go_num, ?_, ?_, ?_, ?_⟩
        · have h1 := HO2.out.row
          exact grown_set (grown_own (grown_trans HN.out.grown HW.out) HG5.out fun b e => by have := h1 b e; omega) (.inr (by dsimp only; omega)) _
        · exact ((HN.out.res.grow HW.out).keep (HG5.out.block _ (by have := HN.out.res.hi; have := HW.out.size; omega) fun e => by have := (HO2.out.row _ e.symm).1; omega)).other (by omega) _
        · obtain ⟨fc, h1, h2, h3⟩ := HN.out.cells
          refine ⟨fc, h1.keep fun b hb => ?_, h2, h3⟩
          have h4 := h3 b hb
          have h5 := h1.live b hb
          rw [heap_setCell_other _ _ _ _ (show b ≠ q3 by omega), HG5.out.block b (by have := HW.out.size; omega) (fun e => by have := (HO2.out.row b e.symm).1; omega), HW.out.block b h5 (by simp)]
        · exact ⟨_, _, HB5.out.set 1 _, HM5.out.setBelow (p := ⟨q3, 1, none⟩) (Nat.lt_succ_self q3) _⟩
      case measure => simp [intOf]; omega
    · obtain ⟨v, fp, ho1, ho2⟩ := HN.out.out
      have j0 := ho1.cell 0
      have j1 := ho1.cell 1
      have r2 := HN.out.res.hi
      have r0 := HN.out.res.cell 0
      have r1 := HN.out.res.cell 1
      have f0 := HN.out.res.free 0
      have f1 := HN.out.res.free 1
      simp only [List.getElem?_cons_zero, List.getElem?_cons_succ] at j0 j1 r0 r1
      obtain ⟨A2, c2, rfl⟩ := ho2.shape
      have HO1 := Lib.hid ho1
      have HO2 := Lib.hid ho2
      clear ho1 ho2
      subst hu1
      have hkl : k = m.lines.length := by omega
      subst hkl
      rw [List.take_of_length_le (Nat.le_refl _)] at *
      go_wp2_with fail
      refine bodyPost_ret (v := .agg #[.slice A1 m.cells.length c1, .slice A2 m.lines.length c2]) (by simp [results, Try.results12, go_sem, r0, r1, r2]) rfl ?_
      obtain ⟨fc, h1, h2, h3⟩ := HN.out.cells
      obtain ⟨gp, h4, h5, h6⟩ := HO2.out.done
      have hset : ∀ b, b ≠ w.heap.size + 1 → ((wr.setCell ⟨w.heap.size + 1, 0, none⟩ (.slice A1 m.cells.length c1)).setCell ⟨w.heap.size + 1, 1, none⟩ (.slice A2 m.lines.length c2)).heap[b]? = wr.heap[b]? := fun b hb => by
        rw [heap_setCell_other _ _ _ _ hb, heap_setCell_other _ _ _ _ hb]
      refine ⟨[_, _], fc ++ gp, rfl, mm_own (h1.keep fun b hb => hset b (h3 b hb).2.2) (h4.keep fun b hb => hset b (by have := h6 b hb; omega)), ?_, ?_, grown_set (grown_set HN.out.grown (.inr (by dsimp only; omega)) _) (.inr (by dsimp only; omega)) _⟩
      · exact List.nodup_append.2 ⟨h2, h5, fun x hx y hy e => by have := (h3 x hx).2.1; have := h6 y hy; omega⟩
      · intro b hb
        rcases List.mem_append.1 hb with hb | hb
        · exact (h3 b hb).1
        · have := h6 b hb; omega


def CloneRet {α : Type} (R : Rp α) (e : TypeId) (F : Nat → Prop) (xs : List α) (w : World) (r : Ending) (w' : World) : Prop :=
  ∃ v, r = .returned v ∧ Mk R e w.heap.size w' F v xs ∧ w.grownBy w' none
set_option maxHeartbeats 1000000 in
theorem cloneC_any (F : Nat → Prop) (xs : List Cel) (v : Value) (w : World) (h : RSl rCell w F xs v) :
    Calls Try.prog 45 #[v] w (CloneRet rCell 30 F xs w) := by
  have H := Lib.hid h
  obtain ⟨A, c, cs, rfl, h1, h2, h3, h4, h5, h6⟩ := h
  cases A with
  | none =>
    have hx : xs = [] := by
      by_cases hx : xs = []
      · exact hx
      · obtain ⟨b, off, c', cs', e, _⟩ := H.out.at_ (List.length_pos_iff.2 hx)
        cases e
    subst hx
    have hc := h4 rfl
    subst hc
    clear h4 h5 h6 h1 h2 h3
    have hq := fun (w : World) => Lib.run_eql_slice_nil (P := Try.prog) w 24 30 none 0 0 0 0 (by kernel_rfl)
    go_enter Try.func45, Try.ntmps45
    go_wp2_with fail
    go_ret
    exact ⟨_, rfl, Mk.nil _ _ _ _ _, grown_refl _ _⟩
  | some ad =>
    clear h4 h5 h6 h1 h2
    have hq := fun (w : World) => Lib.run_eql_slice_nil (P := Try.prog) w 24 30 (some ad) xs.length c 0 0 (by kernel_rfl)
    go_enter Try.func45, Try.ntmps45
    go_wp2_with (at_builtin; go_loud (refine wpList_rcat (R := rCell) rfl _ _ slCell (by decide) rfl w.heap.size F (.slice (some ⟨w.heap.size, 0, none⟩) 0 0) [] rfl ?c1 ?c2 (.slice (some ad) xs.length c) xs rfl ?c3 ?c4 ?c5 ?_))
    case c1 => exact ⟨[], row_new w #[] 0 [] (Nat.le_refl _) rfl (by simp) (by decide), by simp, rfl⟩
    case c2 => simp
    case c3 => exact (H.out.live.keep (w' := w.alloc (.cells #[] 30)) fun k hk => heap_alloc_old _ _ hk.2).sub fun k hk => ⟨hk.1, fun e => by injection e with e; have := hk.2; exact absurd e (by show ¬ _ = w.heap.size; omega)⟩
    case c4 => intro c' e; cases e
    case c5 => simpa using h3
    intro v' w' hmk hg
    have HM := Lib.hid hmk
    have HG := Lib.hid hg
    clear hmk hg
    go_wp2_with fail
    go_ret
    exact ⟨_, rfl, HM.out, grown_own (grown_alloc (grown_refl w none) _) HG.out fun k e => by injection e with e; rw [← e]; exact Nat.le_refl _⟩
set_option maxHeartbeats 1000000 in
theorem cloneL_any (F : Nat → Prop) (xs : List Ln) (v : Value) (w : World) (h : RSl rLn w F xs v) :
    Calls Try.prog 46 #[v] w (CloneRet rLn 40 F xs w) := by
  have H := Lib.hid h
  obtain ⟨A, c, cs, rfl, h1, h2, h3, h4, h5, h6⟩ := h
  cases A with
  | none =>
    have hx : xs = [] := by
      by_cases hx : xs = []
      · exact hx
      · obtain ⟨b, off, c', cs', e, _⟩ := H.out.at_ (List.length_pos_iff.2 hx)
        cases e
    subst hx
    have hc := h4 rfl
    subst hc
    clear h4 h5 h6 h1 h2 h3
    have hq := fun (w : World) => Lib.run_eql_slice_nil (P := Try.prog) w 25 40 none 0 0 0 0 (by kernel_rfl)
    go_enter Try.func46, Try.ntmps46
    go_wp2_with fail
    go_ret
    exact ⟨_, rfl, Mk.nil _ _ _ _ _, grown_refl _ _⟩
  | some ad =>
    clear h4 h5 h6 h1 h2
    have hq := fun (w : World) => Lib.run_eql_slice_nil (P := Try.prog) w 25 40 (some ad) xs.length c 0 0 (by kernel_rfl)
    go_enter Try.func46, Try.ntmps46
    go_wp2_with (at_builtin; go_loud (refine wpList_rcat (R := rLn) rfl _ _ slLine (by decide) rfl w.heap.size F (.slice (some ⟨w.heap.size, 0, none⟩) 0 0) [] rfl ?c1 ?c2 (.slice (some ad) xs.length c) xs rfl ?c3 ?c4 ?c5 ?_))
    case c1 => exact ⟨[], row_new w #[] 0 [] (Nat.le_refl _) rfl (by simp) (by decide), by simp, rfl⟩
    case c2 => simp
    case c3 => exact (H.out.live.keep (w' := w.alloc (.cells #[] 40)) fun k hk => heap_alloc_old _ _ hk.2).sub fun k hk => ⟨hk.1, fun e => by injection e with e; have := hk.2; exact absurd e (by show ¬ _ = w.heap.size; omega)⟩
    case c4 => intro c' e; cases e
    case c5 => simpa using h3
    intro v' w' hmk hg
    have HM := Lib.hid hmk
    have HG := Lib.hid hg
    clear hmk hg
    go_wp2_with fail
    go_ret
    exact ⟨_, rfl, HM.out, grown_own (grown_alloc (grown_refl w none) _) HG.out fun k e => by injection e with e; rw [← e]; exact Nat.le_refl _⟩
end Go.Proofs.Ytndmcnddgcifiaa
