/- The example of chapter 5; no condition. -/
import Derived.Test.YtndmcnddgcifiaaSee
import Derived.Test.YtndmcnddgcifiaaFlush
import Derived.Test.YtndmcnddgcifiaaWrite
import Derived.Test.YtndmcnddgcifiaaMmV
set_option linter.unusedVariables false
set_option linter.unusedSimpArgs false
namespace Go.Proofs.Ytndmcnddgcifiaa
open Go.RowKit

def awM : Mm := storeM freshM 0 (0, 7)
theorem fresh_ok : MmOk freshM := ok_empty _ List.length_replicate
theorem awM_ok : MmOk awM := ok_store fresh_ok (by omega) _
theorem aw0 : awM.cells.getD 0 (0, 0) = (0, 0) := by decide +kernel
theorem aw1 : (fetchM awM 16).cells.getD 0 (0, 0) = (0, 7) := by decide +kernel
theorem aw_all : ∃ M0 M, M0 = freshM ∧ M = storeM M0 0 (0, 7) ∧ MmOk M0 ∧ MmOk M ∧ M.cells.getD 0 (0, 0) = (0, 0) ∧ (fetchM M 16).cells.getD 0 (0, 0) = (0, 7) := ⟨_, _, rfl, rfl, fresh_ok, awM_ok, aw0, aw1⟩

set_option maxRecDepth 100000 in
set_option maxHeartbeats 2000000 in
theorem awake5_any (w : World) : Calls Try.prog 13 #[] w (BoolGrown true w) := by
  obtain ⟨M0, M, hM0, hM, hok0, hokM, hc0, hc1⟩ := aw_all
  have HM0 := Lib.hid hM0
  have HM := Lib.hid hM
  have Hok0 := Lib.hid hok0
  have HokM := Lib.hid hokM
  have Hc0 := Lib.hid hc0
  have Hc1 := Lib.hid hc1
  clear hM0 hM hok0 hokM hc0 hc1
  go_enter Try.func13, Try.ntmps13
  go_wp2_with fail
  have hfr := fresh_any w
  rw [← HM0.out] at hfr
  refine hfr.mono ?_
  clear hfr
  rintro e w1 ⟨cs, fp, rfl, ho, hnd, hlo, hg1⟩
  obtain ⟨u, v, f0, g0, rfl, _, hu, hv⟩ := mm_owned ho
  obtain ⟨A1, c1, rfl⟩ := hu.shape
  obtain ⟨B1, d1, rfl⟩ := hv.shape
  have HR := Lib.hid (rMm.reads ho)
  have HG := Lib.hid hg1
  clear ho hnd hlo hg1 hu hv
  go_wp2_with fail
  have hwr := cache_Write_in (fun b => b ∈ fp) M0 (0, 7) ⟨by decide, by decide⟩ 0 (by omega) Hok0.out (by decide) _ _ w1 HR.out
  rw [← HM.out] at hwr
  refine hwr.mono ?_
  clear hwr
  rintro e w2 ⟨u2, v2, fp2, rfl, ho2, hnd2, hf2, hg2⟩
  obtain ⟨qc, cc, ql, cl, rfl, rfl⟩ := own_shape HokM.out ho2
  obtain ⟨u', v', e, hu, hv⟩ := mm_out (rMm.reads ho2)
  cases e
  obtain ⟨b, o, d, e, _, _, _, k1, _⟩ := cell_at hu (j := 0) (by rw [HokM.out.cells]; omega)
  rw [HokM.out.cells] at e
  cases e
  rw [Hc0.out] at k1
  have HR2 := Lib.hid (rMm.reads ho2)
  have HG2 := Lib.hid (grown_trans HG.out hg2)
  have K1 := Lib.hid k1
  have hsz := World.block_lt_of_cell? w2 _ k1
  dsimp only at hsz
  clear ho2 hnd2 hf2 hg2 hu hv HR HG k1
  go_wp2_with fail
  have hgA : w2.grownBy (w2.alloc (.cells #[.slice (some ⟨qc, 0, none⟩) 512 cc, .slice (some ⟨ql, 0, none⟩) 4 cl] 27)) none := grown_alloc (grown_refl _ _) _
  have hb : Bk (w2.alloc (.cells #[.slice (some ⟨qc, 0, none⟩) 512 cc, .slice (some ⟨ql, 0, none⟩) 4 cl] 27)) w2.heap.size 27 [.slice (some ⟨qc, 0, none⟩) 512 cc, .slice (some ⟨ql, 0, none⟩) 4 cl] := Bk.new
  have k1 := ((gcell hgA).1 qc (0 + 0 * 2 + 1) hsz).trans K1.out
  have hr3 := rMm.grow HR2.out hgA
  generalize w2.alloc (.cells #[.slice (some ⟨qc, 0, none⟩) 512 cc, .slice (some ⟨ql, 0, none⟩) 4 cl] 27) = W2 at *
  refine (cache_Read_in (fun b => b ∈ fp2) M 16 (by omega) HokM.out _ _ W2 hr3).mono ?_
  rintro e w3 ⟨u3, v3, fp3, rfl, ho3, hnd3, hf3, hg3, _⟩
  obtain ⟨pc, pp, pl, pk, rfl, rfl⟩ := own_shape (ok_fetch HokM.out (by omega)) ho3
  obtain ⟨u', v', e, hu, hv⟩ := mm_out (rMm.reads ho3)
  cases e
  obtain ⟨b, o, d, e, _, _, _, p1, _⟩ := cell_at hu (j := 0) (by rw [fetch_cells_len HokM.out]; omega)
  rw [fetch_cells_len HokM.out] at e
  cases e
  rw [Hc1.out] at p1
  have hb := hb.grow hg3
  have hqc : qc < W2.heap.size := Nat.lt_of_lt_of_le hsz hgA.size
  have k2 := ((gcell hg3).1 qc (0 + 0 * 2 + 1) hqc).trans k1
  have hpc := World.block_lt_of_cell? w3 _ p1
  have hq3 := Nat.lt_of_lt_of_le hqc hg3.size
  have h0 := hb.cell 0
  have h1 := hb.cell 1
  have h2 := hb.hi
  simp only [List.getElem?_cons_zero, List.getElem?_cons_succ, Nat.zero_add, Nat.zero_mul] at h0 h1 k2 p1
  dsimp only at hpc
  have HG3 := Lib.hid (grown_trans (grown_trans HG2.out hgA) hg3)
  generalize loadM M 16 = x at *
  clear ho3 hnd3 hf3 hg3 hu hv hr3 hgA k1 K1 HR2 HG2 hb hsz
  go_wp2_with fail
  go_ret
  exact ⟨rfl, grown_alloc (grown_alloc HG3.out _) _⟩

end Go.Proofs.Ytndmcnddgcifiaa
