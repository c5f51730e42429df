/- Flushes and drops of memories; no condition. -/
import Derived.Test.YtndmcnddgcifiaaWrite
set_option linter.unusedVariables false
set_option linter.unusedSimpArgs false
namespace Go.Proofs.Ytndmcnddgcifiaa
open Go.RowKit

/-- The end of a flush or a drop: the lines are empty ones. -/
theorem flush_end {w w1 w2 : World} {q2 q3 q : Nat} {f : List Nat} {cs : List Cel} {u : Value} (hq2 : w.heap.size ≤ q2) (hq3 : q2 < q3) (hg : w.grownBy w1 none) (ho : OSl rCell 30 w1 f cs u) (hnd : f.Nodup) (hf : ∀ k, k ∈ f → w.heap.size ≤ k ∧ k ≠ q2 ∧ k ≠ q3)
    (hE : Bk w2 q 40 (emC 4)) (hq : w1.heap.size ≤ q) (hq3' : q3 < w1.heap.size) (hg2 : w1.grownBy w2 none) {a b c : Value} :
    OwnRet rMm ⟨cs, List.replicate 4 noLn⟩ w (.returned (.agg #[u, .slice (some ⟨q, 0, none⟩) 4 4])) (((w2.setCell ⟨q3, 1, none⟩ a).setCell ⟨q2, 0, none⟩ b).setCell ⟨q2, 1, none⟩ c) := by
  have hk : ∀ k, k ≠ q2 → k ≠ q3 → (((w2.setCell ⟨q3, 1, none⟩ a).setCell ⟨q2, 0, none⟩ b).setCell ⟨q2, 1, none⟩ c).heap[k]? = w2.heap[k]? := fun k h1 h2 => by
    rw [heap_setCell_other _ _ _ _ h1, heap_setCell_other _ _ _ _ h1, heap_setCell_other _ _ _ _ h2]
  have ho2 := ho.grow hg2
  refine ⟨[_, _], f ++ [q], rfl, mm_own (m := ⟨cs, List.replicate 4 noLn⟩) (ho2.keep fun k h => hk k (hf k h).2.1 (hf k h).2.2) (own_empty (hE.keep (hk q (by omega) (by omega)))), ?_, ?_, ?_⟩
  · refine List.nodup_append.2 ⟨hnd, by simp, fun x hx y hy e => ?_⟩
    have hy : y = q := by simpa using hy
    have := ho.live x hx
    omega
  · intro k h
    rcases List.mem_append.1 h with h | h
    · exact (hf k h).1
    · have h : k = q := by simpa using h
      have := hg.size
      omega
  · exact grown_set (p := ⟨q2, 1, none⟩) (grown_set (p := ⟨q2, 0, none⟩) (grown_set (p := ⟨q3, 1, none⟩) (grown_trans hg hg2) (.inr (by show _ ≤ q3; omega)) a) (.inr hq2) b) (.inr hq2) c

set_option maxRecDepth 100000 in
set_option maxHeartbeats 2000000 in
theorem ref05_Drop_any (F : Nat → Prop) (m : Mm) (u v : Value) (w : World) (hm : rMm.rep w F m [u, v]) :
    Calls Try.prog 27 #[.agg #[u, v]] w (OwnRet rMm (dropM m) w) := by
  have HM := Lib.hid hm
  obtain ⟨u', v', e, hu, hv⟩ := mm_out hm
  cases e
  obtain ⟨A, c, rfl, _⟩ := hu.size_eq
  obtain ⟨B, d, rfl, _⟩ := hv.size_eq
  clear hm hu hv
  go_enter Try.func27, Try.ntmps27
  go_wp2_with fail
  have hgr : w.grownBy ((w.alloc (.cells #[.slice A m.cells.length c, .slice B m.lines.length d] 27)).alloc (.cells #[.slice none 0 0, .slice none 0 0] 27)) none := grown_alloc (grown_alloc (grown_refl _ _) _) _
  have hb : Bk ((w.alloc (.cells #[.slice A m.cells.length c, .slice B m.lines.length d] 27)).alloc (.cells #[.slice none 0 0, .slice none 0 0] 27)) (w.heap.size + 1) 27 [.slice none 0 0, .slice none 0 0] := by
    have h := Bk.new (w := w.alloc (.cells #[.slice A m.cells.length c, .slice B m.lines.length d] 27)) (t := 27) (vs := [.slice none 0 0, .slice none 0 0])
    simpa using h
  have hsz : ((w.alloc (.cells #[.slice A m.cells.length c, .slice B m.lines.length d] 27)).alloc (.cells #[.slice none 0 0, .slice none 0 0] 27)).heap.size = w.heap.size + 2 := by simp
  generalize (w.alloc (.cells #[.slice A m.cells.length c, .slice B m.lines.length d] 27)).alloc (.cells #[.slice none 0 0, .slice none 0 0] 27) = W at *
  refine (ref04_Copy_any F m _ _ W (rMm.grow HM.out hgr)).mono ?_
  rintro e w1 ⟨cs, fp, rfl, ho, hnd, hlo, hg1⟩
  obtain ⟨u1, v1, f0, g0, rfl, rfl, hu1, hv1⟩ := mm_owned ho
  obtain ⟨A1, c1, rfl⟩ := hu1.shape
  obtain ⟨B1, d1, rfl⟩ := hv1.shape
  have HU := Lib.hid hu1
  have HN := Lib.hid (And.intro (List.nodup_append.1 hnd).1 hlo)
  have HG := Lib.hid (grown_trans hgr hg1)
  have hb := hb.grow hg1
  have hs1 : w.heap.size + 2 ≤ w1.heap.size := by have := hg1.size; omega
  have Hsz := Lib.hid hsz
  clear ho hnd hlo hg1 hu1 hv1 hgr hsz
  go_wp2_with fail
  have hgA : w1.grownBy (w1.alloc (.cells #[.slice A1 m.cells.length c1, .slice B1 m.lines.length d1] 27)) none := grown_alloc (grown_refl _ _) _
  have hb3 : Bk (w1.alloc (.cells #[.slice A1 m.cells.length c1, .slice B1 m.lines.length d1] 27)) w1.heap.size 27 [.slice A1 m.cells.length c1, .slice B1 m.lines.length d1] := Bk.new
  have hb := hb.grow hgA
  have HW := Lib.hid hb3.hi
  have hU2 := HU.out.grow hgA
  have HGA := Lib.hid (grown_trans HG.out hgA)
  generalize w1.alloc (.cells #[.slice A1 m.cells.length c1, .slice B1 m.lines.length d1] 27) = W2 at *
  refine (ref04_Empty_any W2).mono ?_
  rintro e w2 ⟨q, rfl, _, hq, hE, hg2⟩
  have hb := hb.grow hg2
  have hb3 := hb3.grow hg2
  have r0 := hb.cell 0
  have r1 := hb.cell 1
  have y0 := hb.free 0
  have y1 := hb.free 1
  have s0 := hb3.cell 0
  have s1 := hb3.cell 1
  have z1 := hb3.free 1
  have d5 := hb.hi
  have d6 := hb3.hi
  simp only [List.getElem?_cons_zero, List.getElem?_cons_succ] at r0 r1 s0 s1
  have n1 : ¬ w.heap.size + 1 = w1.heap.size := by omega
  have n2 : ¬ w1.heap.size = w.heap.size + 1 := by omega
  have HE := Lib.hid hE
  have HG2 := Lib.hid hg2
  have HU2 := Lib.hid hU2
  clear hE hg2 hU2 hb hb3 hgA
  go_wp2_with fail
  refine bodyPost_ret (v := .agg #[.slice A1 m.cells.length c1, .slice (some ⟨q, 0, none⟩) 4 4]) (by simp [results, Try.results27, go_sem, r0, r1, s0, s1, d5, d6, n1, n2]) rfl ?_
  exact flush_end (Nat.le_succ _) (by omega) HGA.out HU2.out HN.out.1 (fun k hk => by have := HN.out.2 k (List.mem_append_left _ hk); have := Hsz.out; have := HU.out.live k hk; omega) HE.out hq HW.out HG2.out
set_option maxRecDepth 100000 in
set_option maxHeartbeats 2000000 in
theorem cache_Drop_any (F : Nat → Prop) (m : Mm) (u v : Value) (w : World) (hm : rMm.rep w F m [u, v]) :
    Calls Try.prog 26 #[.agg #[u, v]] w (OwnRet rMm (dropM m) w) := by
  have HM := Lib.hid hm
  obtain ⟨u', v', e, hu, hv⟩ := mm_out hm
  cases e
  obtain ⟨A, c, rfl, _⟩ := hu.size_eq
  obtain ⟨B, d, rfl, _⟩ := hv.size_eq
  clear hm hu hv
  go_enter Try.func26, Try.ntmps26
  go_wp2_with fail
  have hgr : w.grownBy ((w.alloc (.cells #[.slice A m.cells.length c, .slice B m.lines.length d] 27)).alloc (.cells #[.slice none 0 0, .slice none 0 0] 27)) none := grown_alloc (grown_alloc (grown_refl _ _) _) _
  have hb : Bk ((w.alloc (.cells #[.slice A m.cells.length c, .slice B m.lines.length d] 27)).alloc (.cells #[.slice none 0 0, .slice none 0 0] 27)) (w.heap.size + 1) 27 [.slice none 0 0, .slice none 0 0] := by
    have h := Bk.new (w := w.alloc (.cells #[.slice A m.cells.length c, .slice B m.lines.length d] 27)) (t := 27) (vs := [.slice none 0 0, .slice none 0 0])
    simpa using h
  have hsz : ((w.alloc (.cells #[.slice A m.cells.length c, .slice B m.lines.length d] 27)).alloc (.cells #[.slice none 0 0, .slice none 0 0] 27)).heap.size = w.heap.size + 2 := by simp
  generalize (w.alloc (.cells #[.slice A m.cells.length c, .slice B m.lines.length d] 27)).alloc (.cells #[.slice none 0 0, .slice none 0 0] 27) = W at *
  refine (memory_Copy_any F m _ _ W (rMm.grow HM.out hgr)).mono ?_
  rintro e w1 ⟨cs, fp, rfl, ho, hnd, hlo, hg1⟩
  obtain ⟨u1, v1, f0, g0, rfl, rfl, hu1, hv1⟩ := mm_owned ho
  obtain ⟨A1, c1, rfl⟩ := hu1.shape
  obtain ⟨B1, d1, rfl⟩ := hv1.shape
  have HU := Lib.hid hu1
  have HN := Lib.hid (And.intro (List.nodup_append.1 hnd).1 hlo)
  have HG := Lib.hid (grown_trans hgr hg1)
  have hb := hb.grow hg1
  have hs1 : w.heap.size + 2 ≤ w1.heap.size := by have := hg1.size; omega
  have Hsz := Lib.hid hsz
  clear ho hnd hlo hg1 hu1 hv1 hgr hsz
  go_wp2_with fail
  have hgA : w1.grownBy (w1.alloc (.cells #[.slice A1 m.cells.length c1, .slice B1 m.lines.length d1] 27)) none := grown_alloc (grown_refl _ _) _
  have hb3 : Bk (w1.alloc (.cells #[.slice A1 m.cells.length c1, .slice B1 m.lines.length d1] 27)) w1.heap.size 27 [.slice A1 m.cells.length c1, .slice B1 m.lines.length d1] := Bk.new
  have hb := hb.grow hgA
  have HW := Lib.hid hb3.hi
  have hU2 := HU.out.grow hgA
  have HGA := Lib.hid (grown_trans HG.out hgA)
  generalize w1.alloc (.cells #[.slice A1 m.cells.length c1, .slice B1 m.lines.length d1] 27) = W2 at *
  refine (memory_Empty_any W2).mono ?_
  rintro e w2 ⟨q, rfl, _, hq, hE, hg2⟩
  have hb := hb.grow hg2
  have hb3 := hb3.grow hg2
  have r0 := hb.cell 0
  have r1 := hb.cell 1
  have y0 := hb.free 0
  have y1 := hb.free 1
  have s0 := hb3.cell 0
  have s1 := hb3.cell 1
  have z1 := hb3.free 1
  have d5 := hb.hi
  have d6 := hb3.hi
  simp only [List.getElem?_cons_zero, List.getElem?_cons_succ] at r0 r1 s0 s1
  have n1 : ¬ w.heap.size + 1 = w1.heap.size := by omega
  have n2 : ¬ w1.heap.size = w.heap.size + 1 := by omega
  have HE := Lib.hid hE
  have HG2 := Lib.hid hg2
  have HU2 := Lib.hid hU2
  clear hE hg2 hU2 hb hb3 hgA
  go_wp2_with fail
  refine bodyPost_ret (v := .agg #[.slice A1 m.cells.length c1, .slice (some ⟨q, 0, none⟩) 4 4]) (by simp [results, Try.results26, go_sem, r0, r1, s0, s1, d5, d6, n1, n2]) rfl ?_
  exact flush_end (Nat.le_succ _) (by omega) HGA.out HU2.out HN.out.1 (fun k hk => by have := HN.out.2 k (List.mem_append_left _ hk); have := Hsz.out; have := HU.out.live k hk; omega) HE.out hq HW.out HG2.out

theorem own_shape {w : World} {fp : List Nat} {m : Mm} {u v : Value} (hok : MmOk m) (h : rMm.own w fp m [u, v]) : ∃ qc cc ql cl, u = .slice (some ⟨qc, 0, none⟩) 512 cc ∧ v = .slice (some ⟨ql, 0, none⟩) 4 cl := by
  obtain ⟨u', v', f, g, e, _, hu, hv⟩ := mm_owned h
  cases e
  have hn := hok.cells
  have hn4 := hok.lines
  obtain ⟨_, ⟨_, e, _⟩ | ⟨qc, cc, cs, g1, rfl, rfl, h1, h2, h3, h4⟩⟩ := hu
  · rw [e] at hn; cases hn
  obtain ⟨_, ⟨_, e, _⟩ | ⟨ql, cl, ds, g2, rfl, rfl, h5, h6, h7, h8⟩⟩ := hv
  · rw [e] at hn4; cases hn4
  exact ⟨qc, cc, ql, cl, by rw [hn], by rw [hn4]⟩
def flushK (m : Mm) (k : Nat) : Mm := ⟨(m.lines.take k).foldl backC m.cells, m.lines⟩
structure FlushInv (m : Mm) (w : World) (q2 q3 : Nat) (u v : Value) (fp : List Nat) (k : Nat) (wr : World) : Prop where
  grown : w.grownBy wr none
  res : Bk wr q2 27 [.slice none 0 0, .slice none 0 0]
  at_ : MemAt wr q3 u v fp (flushK m k)
theorem flushK_succ {m : Mm} {k : Nat} (hk : k < m.lines.length) : flushK m (k + 1) = ⟨backC (flushK m k).cells (lnAt m k), m.lines⟩ := by
  unfold flushK
  rw [List.take_succ_eq_append_getElem hk, List.foldl_append, lnAt_eq hk]
  rfl
theorem flushK_ok {m : Mm} (hok : MmOk m) : ∀ {k : Nat}, k ≤ 4 → (flushK m k).cells.length = 512
  | 0, _ => by simp [flushK, hok.cells]
  | k + 1, h => by
    rw [flushK_succ (by rw [hok.lines]; omega)]
    exact backL_len (flushK_ok hok (by omega)) ⟨k, by omega, hok.each k (by omega)⟩
/-- One round. -/
theorem FlushInv.step {m : Mm} (hok : MmOk m) {w wr w' : World} {q2 q3 : Nat} {u v : Value} {fp : List Nat} {k : Nat} (hk : k < 4) (h : FlushInv m w q2 q3 u v fp k wr) (hq : w.heap.size ≤ q3) (hfp : ∀ b, b ∈ fp → w.heap.size ≤ b ∧ b ≠ q2) (hne : q2 ≠ q3)
    {qc cc ql cl : Nat} {lv : Value} {f1 f f2 : List Nat} {c1 c2 : List Value} (e1 : u = .slice (some ⟨qc, 0, none⟩) 512 cc) (e2 : v = .slice (some ⟨ql, 0, none⟩) 4 cl) (e3 : fp = qc :: ql :: (f1 ++ f ++ f2))
    (hM : MemO w' q3 ⟨backC (flushK m k).cells (lnAt (flushK m k) k), (flushK m k).lines⟩ k qc cc ql cl lv f1 f f2 c1 c2) (hT : Turns (fun b => b = qc) wr w') : FlushInv m w q2 q3 u v fp (k + 1) w' := by
  have hq2 := hfp qc (by rw [e3]; simp)
  refine ⟨hT.own h.grown fun b hb => by rw [hb]; exact hq2.1, h.res.keep (hT.block _ h.res.hi hq2.2.symm), ?_⟩
  rw [flushK_succ (by rw [hok.lines]; exact hk), e1, e2, e3]
  exact hM.closed

set_option maxRecDepth 100000 in
set_option maxHeartbeats 2000000 in
theorem cache_Flush_any (F : Nat → Prop) (m : Mm) (hok : MmOk m) (u v : Value) (w : World) (hm : rMm.rep w F m [u, v]) :
    Calls Try.prog 19 #[.agg #[u, v]] w (OwnRet rMm (flushM m) w) := by
  have HM := Lib.hid hm
  have Hok := Lib.hid hok
  obtain ⟨u', v', e, hu, hv⟩ := mm_out hm
  cases e
  obtain ⟨A, c, rfl, _⟩ := hu.size_eq
  obtain ⟨B, d, rfl, _⟩ := hv.size_eq
  clear hm hok hu hv
  go_enter Try.func19, Try.ntmps19
  go_wp2_with fail
  have hgr : w.grownBy ((w.alloc (.cells #[.slice A m.cells.length c, .slice B m.lines.length d] 27)).alloc (.cells #[.slice none 0 0, .slice none 0 0] 27)) none := grown_alloc (grown_alloc (grown_refl _ _) _) _
  have hb : Bk ((w.alloc (.cells #[.slice A m.cells.length c, .slice B m.lines.length d] 27)).alloc (.cells #[.slice none 0 0, .slice none 0 0] 27)) (w.heap.size + 1) 27 [.slice none 0 0, .slice none 0 0] := by
    have h := Bk.new (w := w.alloc (.cells #[.slice A m.cells.length c, .slice B m.lines.length d] 27)) (t := 27) (vs := [.slice none 0 0, .slice none 0 0])
    simpa using h
  have hsz : ((w.alloc (.cells #[.slice A m.cells.length c, .slice B m.lines.length d] 27)).alloc (.cells #[.slice none 0 0, .slice none 0 0] 27)).heap.size = w.heap.size + 2 := by simp
  generalize (w.alloc (.cells #[.slice A m.cells.length c, .slice B m.lines.length d] 27)).alloc (.cells #[.slice none 0 0, .slice none 0 0] 27) = W at *
  refine (memory_Copy_any F m _ _ W (rMm.grow HM.out hgr)).mono ?_
  rintro e w1 ⟨cs, fp, rfl, ho, hnd, hlo, hg1⟩
  obtain ⟨u1, v1, f0, g0, rfl, _, _, _⟩ := mm_owned ho
  obtain ⟨qc, cc, ql, cl, rfl, rfl⟩ := own_shape Hok.out ho
  have hat := own_memAt (p := w1.heap.size) Hok.out ho hnd (Bk.new (w := w1) (t := 27) (vs := [.slice (some ⟨qc, 0, none⟩) 512 cc, .slice (some ⟨ql, 0, none⟩) 4 cl])) (fun k hk => heap_alloc_old _ _ (rMm.olive ho k hk)) (fun h => by have := rMm.olive ho _ h; omega)
  have hgA : w1.grownBy (w1.alloc (.cells #[.slice (some ⟨qc, 0, none⟩) 512 cc, .slice (some ⟨ql, 0, none⟩) 4 cl] 27)) none := grown_alloc (grown_refl _ _) _
  have HI := Lib.hid (show FlushInv m w (w.heap.size + 1) w1.heap.size (.slice (some ⟨qc, 0, none⟩) 512 cc) (.slice (some ⟨ql, 0, none⟩) 4 cl) fp 0 _ from ⟨grown_trans (grown_trans hgr hg1) hgA, (hb.grow hg1).grow hgA, hat⟩)
  have HP := Lib.hid (show ∀ b, b ∈ fp → w.heap.size ≤ b ∧ b ≠ w.heap.size + 1 from fun b hb => by have := hlo b hb; omega)
  have hs1 : w.heap.size + 2 ≤ w1.heap.size := by have := hg1.size; omega
  clear ho hnd hlo hg1 hgr hsz hb hat hgA
  go_wp2_with fail
  generalize w1.alloc (.cells #[.slice (some ⟨qc, 0, none⟩) 512 cc, .slice (some ⟨ql, 0, none⟩) 4 cl] 27) = W2 at *
  generalize w1.heap.size = q3 at *
  go_loopw [10] (fun i wr => ∃ k : Nat, k ≤ 4 ∧ i = .int .i64 k ∧ FlushInv m w (w.heap.size + 1) q3 (.slice (some ⟨qc, 0, none⟩) 512 cc) (.slice (some ⟨ql, 0, none⟩) 4 cl) fp k wr) (fun i _ => 4 - (intOf i).toNat)
  case atStart => exact ⟨0, Nat.zero_le _, rfl, HI.out⟩
  case round =>
    obtain ⟨k, hk, rfl, hinv⟩ := hrel
    have HN := Lib.hid hinv
    clear hinv HI
    by_cases hlt : k < 4
    · obtain ⟨qc', cc', ql', cl', lv, f1, f, f2, c1, c2, e1, e2, e3, hO⟩ := HN.out.at_.opened hlt
      have HO := Lib.hid hO
      have HE := Lib.hid (And.intro e1 (And.intro e2 e3))
      have x3 : (k : Int) < 4 := by omega
      clear hO e1 e2 e3
      go_wp2_with fail
      refine (lines_Back_any (flushK m k) (show LnOk k (lnAt (flushK m k) k) from Hok.out.each k hlt) HO.out).mono ?_
      rintro e w' ⟨rfl, hM, hT⟩
      have HS := Lib.hid (HN.out.step Hok.out hlt (by omega) HP.out (by omega) HE.out.1 HE.out.2.1 HE.out.2.2 hM hT)
      clear hM hT
      go_wp2_with fail
      go_roundw
      case rel => exact ⟨k + 1, by omega, by go_num, HS.out⟩
      case measure => simp [intOf]; omega
    · have hk4 : k = 4 := by omega
      subst hk4
      go_wp2_with fail
      refine (memory_Empty_any wr).mono ?_
      rintro e w2 ⟨q, rfl, _, hq, hE, hg2⟩
      have hb := HN.out.res.grow hg2
      have hb3 := HN.out.at_.blk.grow hg2
      obtain ⟨u', v', f, g, e, rfl, hu, hv⟩ := mm_owned HN.out.at_.own
      cases e
      have r0 := hb.cell 0
      have r1 := hb.cell 1
      have y0 := hb.free 0
      have y1 := hb.free 1
      have s0 := hb3.cell 0
      have s1 := hb3.cell 1
      have z1 := hb3.free 1
      have d5 := hb.hi
      have d6 := hb3.hi
      simp only [List.getElem?_cons_zero, List.getElem?_cons_succ] at r0 r1 s0 s1
      have n1 : ¬ w.heap.size + 1 = q3 := by omega
      have n2 : ¬ q3 = w.heap.size + 1 := by omega
      have HEE := Lib.hid hE
      have HG2 := Lib.hid hg2
      have HU2 := Lib.hid hu
      clear hE hg2 hb hb3 hu hv
      go_wp2_with fail
      refine bodyPost_ret (v := .agg #[.slice (some ⟨qc, 0, none⟩) 512 cc, .slice (some ⟨q, 0, none⟩) 4 4]) (by simp [results, Try.results19, go_sem, r0, r1, s0, s1, d5, d6, n1, n2]) rfl ?_
      have hnd := HN.out.at_.nd
      have hfl : (⟨m.lines.foldl backC m.cells, List.replicate 4 noLn⟩ : Mm) = flushM m := rfl
      have hfk : (flushK m 4).cells = m.lines.foldl backC m.cells := by unfold flushK; rw [List.take_of_length_le (by rw [Hok.out.lines]; omega)]
      rw [← hfl, ← hfk]
      exact flush_end (Nat.le_succ _) (by omega) HN.out.grown HU2.out (List.nodup_append.1 (List.nodup_cons.1 hnd).2).1 (fun b hb => ⟨(HP.out b (List.mem_append_left _ hb)).1, (HP.out b (List.mem_append_left _ hb)).2, fun e => (List.nodup_cons.1 hnd).1 (List.mem_append_left _ (by rw [← e]; exact hb))⟩) HEE.out hq HN.out.at_.blk.hi HG2.out

set_option maxRecDepth 100000 in
set_option maxHeartbeats 2000000 in
theorem ref05_Flush_any (F : Nat → Prop) (m : Mm) (hok : MmOk m) (u v : Value) (w : World) (hm : rMm.rep w F m [u, v]) :
    Calls Try.prog 25 #[.agg #[u, v]] w (OwnRet rMm (flushM m) w) := by
  have HM := Lib.hid hm
  have Hok := Lib.hid hok
  obtain ⟨u', v', e, hu, hv⟩ := mm_out hm
  cases e
  obtain ⟨A, c, rfl, _⟩ := hu.size_eq
  obtain ⟨B, d, rfl, _⟩ := hv.size_eq
  clear hm hok hu hv
  go_enter Try.func25, Try.ntmps25
  go_wp2_with fail
  have hgr : w.grownBy ((w.alloc (.cells #[.slice A m.cells.length c, .slice B m.lines.length d] 27)).alloc (.cells #[.slice none 0 0, .slice none 0 0] 27)) none := grown_alloc (grown_alloc (grown_refl _ _) _) _
  have hb : Bk ((w.alloc (.cells #[.slice A m.cells.length c, .slice B m.lines.length d] 27)).alloc (.cells #[.slice none 0 0, .slice none 0 0] 27)) (w.heap.size + 1) 27 [.slice none 0 0, .slice none 0 0] := by
    have h := Bk.new (w := w.alloc (.cells #[.slice A m.cells.length c, .slice B m.lines.length d] 27)) (t := 27) (vs := [.slice none 0 0, .slice none 0 0])
    simpa using h
  have hsz : ((w.alloc (.cells #[.slice A m.cells.length c, .slice B m.lines.length d] 27)).alloc (.cells #[.slice none 0 0, .slice none 0 0] 27)).heap.size = w.heap.size + 2 := by simp
  generalize (w.alloc (.cells #[.slice A m.cells.length c, .slice B m.lines.length d] 27)).alloc (.cells #[.slice none 0 0, .slice none 0 0] 27) = W at *
  refine (ref04_Copy_any F m _ _ W (rMm.grow HM.out hgr)).mono ?_
  rintro e w1 ⟨cs, fp, rfl, ho, hnd, hlo, hg1⟩
  obtain ⟨u1, v1, f0, g0, rfl, _, _, _⟩ := mm_owned ho
  obtain ⟨qc, cc, ql, cl, rfl, rfl⟩ := own_shape Hok.out ho
  have hat := own_memAt (p := w1.heap.size) Hok.out ho hnd (Bk.new (w := w1) (t := 27) (vs := [.slice (some ⟨qc, 0, none⟩) 512 cc, .slice (some ⟨ql, 0, none⟩) 4 cl])) (fun k hk => heap_alloc_old _ _ (rMm.olive ho k hk)) (fun h => by have := rMm.olive ho _ h; omega)
  have hgA : w1.grownBy (w1.alloc (.cells #[.slice (some ⟨qc, 0, none⟩) 512 cc, .slice (some ⟨ql, 0, none⟩) 4 cl] 27)) none := grown_alloc (grown_refl _ _) _
  have HI := Lib.hid (show FlushInv m w (w.heap.size + 1) w1.heap.size (.slice (some ⟨qc, 0, none⟩) 512 cc) (.slice (some ⟨ql, 0, none⟩) 4 cl) fp 0 _ from ⟨grown_trans (grown_trans hgr hg1) hgA, (hb.grow hg1).grow hgA, hat⟩)
  have HP := Lib.hid (show ∀ b, b ∈ fp → w.heap.size ≤ b ∧ b ≠ w.heap.size + 1 from fun b hb => by have := hlo b hb; omega)
  have hs1 : w.heap.size + 2 ≤ w1.heap.size := by have := hg1.size; omega
  clear ho hnd hlo hg1 hgr hsz hb hat hgA
  go_wp2_with fail
  generalize w1.alloc (.cells #[.slice (some ⟨qc, 0, none⟩) 512 cc, .slice (some ⟨ql, 0, none⟩) 4 cl] 27) = W2 at *
  generalize w1.heap.size = q3 at *
  go_loopw [11] (fun i wr => ∃ k : Nat, k ≤ 4 ∧ i = .int .i64 k ∧ FlushInv m w (w.heap.size + 1) q3 (.slice (some ⟨qc, 0, none⟩) 512 cc) (.slice (some ⟨ql, 0, none⟩) 4 cl) fp k wr) (fun i _ => 4 - (intOf i).toNat)
  case atStart => exact ⟨0, Nat.zero_le _, rfl, HI.out⟩
  case round =>
    obtain ⟨k, hk, rfl, hinv⟩ := hrel
    have HN := Lib.hid hinv
    clear hinv HI
    by_cases hlt : k < 4
    · obtain ⟨qc', cc', ql', cl', lv, f1, f, f2, c1, c2, e1, e2, e3, hO⟩ := HN.out.at_.opened hlt
      cases e1
      cases e2
      have x2 : (0 : Int) ≤ (k : Int) := by omega
      have x3 : (k : Int) < 4 := by omega
      have x5 : (k : Int).toNat = k := by omega
      have l0 : wr.cell? ⟨ql, k * 3, none⟩ = some (.int .i64 (lnAt (flushK m k) k).tag) := by have := hO.lines.mid (j := 0) rfl; rwa [hO.hc1] at this
      have l1 : wr.cell? ⟨ql, k * 3 + 1, none⟩ = some (.bool (lnAt (flushK m k) k).dirty) := by have := hO.lines.mid (j := 1) rfl; rwa [hO.hc1] at this
      have l2 : wr.cell? ⟨ql, k * 3 + 2, none⟩ = some lv := by have := hO.lines.mid (j := 2) rfl; rwa [hO.hc1] at this
      obtain ⟨LA, lc, hlv⟩ := hO.o.shape
      have hok2 : LnOk k (lnAt (flushK m k) k) := Hok.out.each k hlt
      have hcc := hO.hcc
      have hcc' := hO.hcc'
      have HO := Lib.hid hO
      have HE := Lib.hid e3
      have hqs := hO.blk.hi
      obtain ⟨n1, n2, n3, n4⟩ := hO.ne
      clear hO e3 n4
      cases hdb : (lnAt (flushK m k) k).dirty
      · have hbc : backC (flushK m k).cells (lnAt (flushK m k) k) = (flushK m k).cells := by unfold backC; rw [hdb]; rfl
        have HS := Lib.hid (fun (w' : World) (hg : wr.grownBy w' none) => HN.out.step (w' := w') Hok.out hlt (by omega) HP.out (by omega) rfl rfl HE.out (by rw [hbc]; exact HO.out.grow hg) (Turns.of_grown hg))
        rw [hdb] at l1
        subst hlv
        clear hbc hok2 hdb
        go_wp2_with fail
        go_roundw
        case rel => exact ⟨k + 1, by omega, by go_num, HS.out _ (grown_alloc (grown_refl _ _) _)⟩
        case measure => simp [intOf]; omega
      · rcases hok2 with ⟨_, h2, _⟩ | ⟨t, h1, h2, h3, h4⟩
        · rw [h2] at hdb; cases hdb
        obtain ⟨hcw, hrow⟩ := ok_row HO.out
        obtain ⟨b, c, rfl, hc4, hc5, hVl, hf⟩ := hrow h4
        clear hlv
        rw [h1] at l0
        rw [hdb] at l1
        have t0 : (0 : Int) ≤ (t : Int) := by omega
        have t1 : (t : Int) < 128 := by omega
        have Hdb := Lib.hid hdb
        have H1 := Lib.hid h1
        have H4 := Lib.hid h4
        have HV := Lib.hid hVl
        have HW := Lib.hid hcw
        clear hdb h1 h4 hVl h3 hf hcw
        go_wp2_with fail
        have w1 : IntKind.i64.wrap ((t : Int) * 4) = (t : Int) * 4 := by rw [IntWalk.i64_in _ (by omega)]
        have w2 : (0 : Int) ≤ (t : Int) * 4 := by omega
        have w3 : ((t : Int) * 4).toNat = t * 4 := by omega
        have w4 : (t : Int) * 4 ≤ 512 := by omega
        have w5 : ¬ cc = t * 4 := by omega
        have hgr : wr.grownBy (wr.alloc (.cells #[.int .i64 t, .bool true, .slice (some ⟨b, 0, none⟩) 4 c] 40)) none := grown_alloc (grown_refl _ _) _
        have hX : Bk (wr.alloc (.cells #[.int .i64 t, .bool true, .slice (some ⟨b, 0, none⟩) 4 c] 40)) wr.heap.size 40 [.int .i64 t, .bool true, .slice (some ⟨b, 0, none⟩) 4 c] := Bk.new
        generalize wr.alloc (.cells #[.int .i64 t, .bool true, .slice (some ⟨b, 0, none⟩) 4 c] 40) = W3 at *
        have hM2 := HO.out.grow hgr
        have HV2 := Lib.hid (HV.out.grow hgr)
        have p0 := hM2.blk.cell 0
        have x0 := hX.cell 0
        have x22 := hX.cell 2
        simp only [List.getElem?_cons_zero, List.getElem?_cons_succ] at p0 x0 x22
        have HM2 := Lib.hid hM2
        have HGR := Lib.hid hgr
        clear hM2 hgr hX l0 l1 l2
        go_still_tail 8, (by kernel_rfl)
        clear w1 w2 w3 w4 w5
        obtain ⟨cur, v1, v2, v3⟩ := HM2.out.cells.eq
        have hmin : Nat.min 4 (512 - t * 4) = 4 := Nat.min_eq_left (by omega)
        have hcl : (celsV (lnAt (flushK m k) k).cells).length = 8 := by rw [celsV_len, H4.out]
        have hml : (celsV (flushK m k).cells).length = 1024 := by rw [celsV_len, HO.out.n]
        have HV1 := Lib.hid v1
        have HVs := Lib.hid v2
        have HV3 := Lib.hid v3
        have Hmin := Lib.hid hmin
        have Hcl := Lib.hid hcl
        have Hml := Lib.hid hml
        clear v1 v2 v3 hmin hcl hml
        change wpList _ _ _ _ _ W3.drew
        refine wpList_copy_cells 2 rfl (.tmp 22) (.tmp 24) 24 30 rfl Try.underlying24 (by kernel_rfl) qc (t * 4 * 2) (512 - t * 4) (cc - t * 4) rfl ⟨b, 0, none⟩ 4 c rfl cur 30 (celsV (lnAt (flushK m k) k).cells) HV1.out ?c1 ?c2 ?c3 (celsV_one _) ?_
        case c1 => rw [Hmin.out, Hcl.out]
        case c2 =>
          intro j u hj
          obtain ⟨hj1, hj2⟩ := List.getElem?_eq_some_iff.1 hj
          rw [show (⟨b, 0, none⟩ : Addr).add j = ⟨b, j, none⟩ by unfold Addr.add; split <;> simp_all]
          exact (HV2.out.cell hj1).trans (by rw [hj2])
        case c3 => rw [Hcl.out, HVs.out]; omega
        have hcur := HVs.out
        have hcl := Hcl.out
        have hml := Hml.out
        have hb := backC_put (m := flushK m k) H1.out Hdb.out
        have hL := VBuf.laid (e := 30) (w := W3.drew) (cs := celsV (lnAt (flushK m k) k).cells) (o := t * 4 * 2) HV1.out HVs.out HV3.out (by omega)
        rw [← celsV_put, ← hb] at hL
        have hM := HM2.out.laid (w' := W3.drew.setRow qc (cur.toList.take (t * 4 * 2) ++ celsV (lnAt (flushK m k) k).cells ++ cur.toList.drop (t * 4 * 2 + (celsV (lnAt (flushK m k) k).cells).length)).toArray) (fun k hk => setRow_other _ _ _ _ hk) (cs := backC (flushK m k).cells (lnAt (flushK m k) k)) ?d1 ?d2 hL
        case d1 => rw [hb, putAt_len]; exact HO.out.n; rw [H4.out, HO.out.n]; omega
        case d2 =>
          rw [hb]
          intro x hx
          simp only [putAt, List.mem_append] at hx
          rcases hx with (hx | hx) | hx
          · exact HO.out.cwf x (List.mem_of_mem_take hx)
          · exact HW.out x hx
          · exact HO.out.cwf x (List.mem_of_mem_drop hx)
        rw [List.append_assoc] at hM
        have HS := Lib.hid (HN.out.step Hok.out hlt (by omega) HP.out (by omega) rfl rfl HE.out hM ((Turns.of_grown HGR.out).drew.row (X := fun k => k = qc) rfl _))
        clear hM hL hb hcur hcl hml
        go_wp2_with fail
        go_roundw
        case rel => exact ⟨k + 1, by omega, by go_num, HS.out⟩
        case measure => simp [intOf]; omega
    · have hk4 : k = 4 := by omega
      subst hk4
      go_wp2_with fail
      refine (ref04_Empty_any wr).mono ?_
      rintro e w2 ⟨q, rfl, _, hq, hE, hg2⟩
      have hb := HN.out.res.grow hg2
      have hb3 := HN.out.at_.blk.grow hg2
      obtain ⟨u', v', f, g, e, rfl, hu, hv⟩ := mm_owned HN.out.at_.own
      cases e
      have r0 := hb.cell 0
      have r1 := hb.cell 1
      have y0 := hb.free 0
      have y1 := hb.free 1
      have s0 := hb3.cell 0
      have s1 := hb3.cell 1
      have z1 := hb3.free 1
      have d5 := hb.hi
      have d6 := hb3.hi
      simp only [List.getElem?_cons_zero, List.getElem?_cons_succ] at r0 r1 s0 s1
      have n1 : ¬ w.heap.size + 1 = q3 := by omega
      have n2 : ¬ q3 = w.heap.size + 1 := by omega
      have HEE := Lib.hid hE
      have HG2 := Lib.hid hg2
      have HU2 := Lib.hid hu
      clear hE hg2 hb hb3 hu hv
      go_wp2_with fail
      refine bodyPost_ret (v := .agg #[.slice (some ⟨qc, 0, none⟩) 512 cc, .slice (some ⟨q, 0, none⟩) 4 4]) (by simp [results, Try.results25, go_sem, r0, r1, s0, s1, d5, d6, n1, n2]) rfl ?_
      have hnd := HN.out.at_.nd
      have hfl : (⟨m.lines.foldl backC m.cells, List.replicate 4 noLn⟩ : Mm) = flushM m := rfl
      have hfk : (flushK m 4).cells = m.lines.foldl backC m.cells := by unfold flushK; rw [List.take_of_length_le (by rw [Hok.out.lines]; omega)]
      rw [← hfl, ← hfk]
      exact flush_end (Nat.le_succ _) (by omega) HN.out.grown HU2.out (List.nodup_append.1 (List.nodup_cons.1 hnd).2).1 (fun b hb => ⟨(HP.out b (List.mem_append_left _ hb)).1, (HP.out b (List.mem_append_left _ hb)).2, fun e => (List.nodup_cons.1 hnd).1 (List.mem_append_left _ (by rw [← e]; exact hb))⟩) HEE.out hq HN.out.at_.blk.hi HG2.out

end Go.Proofs.Ytndmcnddgcifiaa
