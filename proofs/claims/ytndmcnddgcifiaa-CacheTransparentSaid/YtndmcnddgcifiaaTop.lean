/- Reads of memories through their lines; no condition. -/
import Derived.Test.YtndmcnddgcifiaaLoad
import Derived.Test.YtndmcnddgcifiaaMemB
import Derived.Test.YtndmcnddgcifiaaEmpty
import Derived.RegionTactic
import Derived.BigRegion
set_option linter.unusedVariables false
set_option linter.unusedSimpArgs false
namespace Go.Proofs.Ytndmcnddgcifiaa
open Go.RowKit

def ReadRet (M : Mm) (c : Cel) (err : Int) (w : World) (e : Ending) (w' : World) : Prop :=
  ∃ u v fp, e = .returned (.tuple #[.agg #[u, v], .agg #[.int .u8 c.1, .int .u16 c.2], .int .i64 err]) ∧ rMm.own w' fp M [u, v] ∧ fp.Nodup ∧ (∀ k, k ∈ fp → w.heap.size ≤ k) ∧ w.grownBy w' none ∧ CelWf c
def WriteRet (M : Mm) (err : Int) (w : World) (e : Ending) (w' : World) : Prop :=
  ∃ u v fp, e = .returned (.tuple #[.agg #[u, v], .int .i64 err]) ∧ rMm.own w' fp M [u, v] ∧ fp.Nodup ∧ (∀ k, k ∈ fp → w.heap.size ≤ k) ∧ w.grownBy w' none
theorem own_memAt {w w' : World} {p : Nat} {u v : Value} {fp : List Nat} {m : Mm} (hok : MmOk m) (h : rMm.own w fp m [u, v]) (hnd : fp.Nodup) (hp : Bk w' p 27 [u, v]) (hk : ∀ k, k ∈ fp → w'.heap[k]? = w.heap[k]?) (hn : ¬ p ∈ fp) : MemAt w' p u v fp m :=
  ⟨hp, rMm.okeep h hk, List.nodup_cons.2 ⟨hn, hnd⟩, hok.cells, hok.lines⟩

set_option maxRecDepth 100000 in
set_option maxHeartbeats 2000000 in
theorem ref05_Read_in (F : Nat → Prop) (m : Mm) (a : Nat) (ha : a < 512) (hok : MmOk m) (u v : Value) (w : World) (hm : rMm.rep w F m [u, v]) :
    Calls Try.prog 21 #[.agg #[u, v], .int .i64 a] w (ReadRet (fetchM m a) (loadM m a) 0 w) := by
  have ha0 : (0 : Int) ≤ (a : Int) := by omega
  have ha1 : (a : Int) < 512 := by omega
  have hn0 : decide ((a : Int) < 0) = false := by simp
  have hn1 : decide ((512 : Int) ≤ (a : Int)) = false := by simp; omega
  have HM := Lib.hid hm
  have Hok := Lib.hid hok
  obtain ⟨u', v', e, hu, hv⟩ := mm_out hm
  cases e
  obtain ⟨A, c, rfl, _⟩ := hu.size_eq
  obtain ⟨B, d, rfl, _⟩ := hv.size_eq
  clear hm hok hu hv
  go_enter Try.func21, Try.ntmps21
  go_wp2_with fail
  have hgr : w.grownBy (((w.alloc (.cells #[.slice A m.cells.length c, .slice B m.lines.length d] 27)).alloc (.cells #[.slice none 0 0, .slice none 0 0] 27)).alloc (.cells #[.int .u8 0, .int .u16 0] 30)) none := grown_alloc (grown_alloc (grown_alloc (grown_refl _ _) _) _) _
  have hb4 : Bk (((w.alloc (.cells #[.slice A m.cells.length c, .slice B m.lines.length d] 27)).alloc (.cells #[.slice none 0 0, .slice none 0 0] 27)).alloc (.cells #[.int .u8 0, .int .u16 0] 30)) (w.heap.size + 1) 27 [.slice none 0 0, .slice none 0 0] := by
    have h := Bk.new (w := w.alloc (.cells #[.slice A m.cells.length c, .slice B m.lines.length d] 27)) (t := 27) (vs := [.slice none 0 0, .slice none 0 0])
    have h2 := h.grow (grown_alloc (grown_refl _ _) (.cells #[.int .u8 0, .int .u16 0] 30))
    simpa using h2
  have hb5 : Bk (((w.alloc (.cells #[.slice A m.cells.length c, .slice B m.lines.length d] 27)).alloc (.cells #[.slice none 0 0, .slice none 0 0] 27)).alloc (.cells #[.int .u8 0, .int .u16 0] 30)) (w.heap.size + 1 + 1) 30 [.int .u8 0, .int .u16 0] := by
    have h := Bk.new (w := (w.alloc (.cells #[.slice A m.cells.length c, .slice B m.lines.length d] 27)).alloc (.cells #[.slice none 0 0, .slice none 0 0] 27)) (t := 30) (vs := [.int .u8 0, .int .u16 0])
    simpa using h
  have hsz : (((w.alloc (.cells #[.slice A m.cells.length c, .slice B m.lines.length d] 27)).alloc (.cells #[.slice none 0 0, .slice none 0 0] 27)).alloc (.cells #[.int .u8 0, .int .u16 0] 30)).heap.size = w.heap.size + 3 := by simp
  generalize ((w.alloc (.cells #[.slice A m.cells.length c, .slice B m.lines.length d] 27)).alloc (.cells #[.slice none 0 0, .slice none 0 0] 27)).alloc (.cells #[.int .u8 0, .int .u16 0] 30) = W3 at *
  have HG := Lib.hid hgr
  have HB4 := Lib.hid hb4
  have HB5 := Lib.hid hb5
  have HS := Lib.hid hsz
  clear hgr hb4 hb5 hsz
  refine (ref04_Copy_any F m _ _ W3 (rMm.grow HM.out HG.out)).mono ?_
  rintro e w1 ⟨cs, fp, rfl, ho, hnd, hlo, hg1⟩
  obtain ⟨u1, v1, f0, g0, rfl, _, hu1, hv1⟩ := mm_owned ho
  obtain ⟨A1, c1, rfl⟩ := hu1.shape
  obtain ⟨B1, d1, rfl⟩ := hv1.shape
  have HO := Lib.hid ho
  have HN := Lib.hid (And.intro hnd hlo)
  have HG1 := Lib.hid hg1
  clear ho hnd hlo hg1 hu1 hv1
  go_wp2_with fail
  have hgA : w1.grownBy (w1.alloc (.cells #[.slice A1 m.cells.length c1, .slice B1 m.lines.length d1] 27)) none := grown_alloc (grown_refl _ _) _
  have hat := own_memAt (p := w1.heap.size) Hok.out HO.out HN.out.1 (Bk.new (w := w1) (t := 27) (vs := [.slice A1 m.cells.length c1, .slice B1 m.lines.length d1])) (fun k hk => hgA.block k (rMm.olive HO.out k hk) (by simp)) (fun h => by have := rMm.olive HO.out _ h; omega)
  have hsA : (w1.alloc (.cells #[.slice A1 m.cells.length c1, .slice B1 m.lines.length d1] 27)).heap.size = w1.heap.size + 1 := by simp
  have hb4 := (HB4.out.grow HG1.out).grow hgA
  have hb5 := (HB5.out.grow HG1.out).grow hgA
  generalize hWA : w1.alloc (.cells #[.slice A1 m.cells.length c1, .slice B1 m.lines.length d1] 27) = W2 at *
  clear hWA
  obtain ⟨qc, cc, ql, cl, lv, f1, f2, f3, c1', c2', e1, e2, rfl, hO⟩ := hat.opened (i := a / 4 % 4) (Nat.mod_lt _ (by omega))
  refine (ref05_Load_any m a ha Hok.out hO).mono ?_
  rintro e w4 ⟨lv', f', he, hcw, hM, hT, hf⟩
  have he : e = .returned (.agg #[.int .u8 (loadM m a).1, .int .u16 (loadM m a).2]) := he
  subst he
  have hq := HN.out.2
  have hqc := hq qc (by simp)
  have hql := hq ql (by simp)
  have hs3 := HS.out
  have hb4 := hb4.keep (hT.block _ hb4.hi (by omega))
  have hb5 := hb5.keep (hT.block _ hb5.hi (by omega))
  have hcl := hM.closed
  have hfin : ∀ k, k ∈ qc :: ql :: (f1 ++ f' ++ f3) → w.heap.size + 3 ≤ k := fun k hk => by
    simp only [List.mem_cons, List.mem_append] at hk
    rcases hk with h | h | (h | h) | h
    · omega
    · omega
    · have := hq k (by simp [h]); omega
    · rcases hf k h with h' | h'
      · have := hq k (by simp [h']); omega
      · have := HG1.out.size; omega
    · have := hq k (by simp [h]); omega
  have hgr4 : w.grownBy w4 none := hT.own (grown_trans (grown_trans HG.out HG1.out) hgA) fun k hk => by omega
  have p0 := hM.blk.cell 0
  have p1 := hM.blk.cell 1
  have r0 := hb4.cell 0
  have r1 := hb4.cell 1
  have y0 := hb4.free 0
  have y1 := hb4.free 1
  have s0 := hb5.cell 0
  have s1 := hb5.cell 1
  have z0 := hb5.free 0
  have z1 := hb5.free 1
  simp only [List.getElem?_cons_zero, List.getElem?_cons_succ] at p0 p1 r0 r1 s0 s1
  have hs4 : w.heap.size + 3 ≤ w1.heap.size := by have := HG1.out.size; omega
  have hs5 : w1.heap.size < w4.heap.size := hM.blk.hi
  have HCL := Lib.hid hcl
  have HFI := Lib.hid hfin
  have HG4 := Lib.hid hgr4
  have HCW := Lib.hid hcw
  have HH4 := Lib.hid (And.intro hb4.hi hb5.hi)
  clear hcl hfin hgr4 hcw hb4 hb5 hM hT hf hO hat hq hsA hgA
  obtain ⟨x, hx⟩ : ∃ x, x = loadM m a := ⟨_, rfl⟩
  rw [← hx] at HCW ⊢
  have Hx := Lib.hid hx
  clear hx
  generalize hp : w1.heap.size = p at *
  go_wp2_with fail
  have d1 : ¬ w.heap.size + 1 = p := by omega
  have d2 : ¬ p = w.heap.size + 1 := by omega
  have d3 : ¬ w.heap.size + 1 + 1 = p := by omega
  have d4 : ¬ p = w.heap.size + 1 + 1 := by omega
  have d5 : w.heap.size + 1 < w4.heap.size := HH4.out.1
  have d6 : w.heap.size + 1 + 1 < w4.heap.size := HH4.out.2
  have d7 : ¬ w.heap.size + 1 = w4.heap.size := by omega
  have d8 : ¬ w.heap.size + 1 + 1 = w4.heap.size := by omega
  go_region
  go_wp2_with fail
  refine bodyPost_ret (v := .tuple #[.agg #[.slice (some ⟨qc, 0, none⟩) 512 cc, .slice (some ⟨ql, 0, none⟩) 4 cl], .agg #[.int .u8 x.1, .int .u16 x.2], .int .i64 0]) (by simp [results, Try.results21, go_sem, r0, r1, s0, s1, d5, d6]) rfl ?_
  rw [← Hx.out]
  refine ⟨_, _, _, rfl, rMm.okeep HCL.out.own fun k hk => ?_, (List.nodup_cons.1 HCL.out.nd).2, fun k hk => by have := HFI.out k hk; omega, ?_, HCW.out⟩
  · have h1 := HFI.out k hk
    have h2 := rMm.olive HCL.out.own k hk
    refine (heap_alloc_old _ _ ?_).trans ?_
    · simpa [World.setCell] using h2
    · rw [heap_setCell_other _ _ _ _ (show k ≠ w.heap.size + 1 + 1 by omega), heap_setCell_other _ _ _ _ (show k ≠ w.heap.size + 1 + 1 by omega), heap_setCell_other _ _ _ _ (show k ≠ w.heap.size + 1 by omega), heap_setCell_other _ _ _ _ (show k ≠ w.heap.size + 1 by omega)]
  · exact grown_drew (grown_alloc (grown_set (grown_set (grown_set (grown_set HG4.out (.inr (by show _ ≤ w.heap.size + 1; omega)) _) (.inr (by show _ ≤ w.heap.size + 1; omega)) _) (.inr (by show _ ≤ w.heap.size + 1 + 1; omega)) _) (.inr (by show _ ≤ w.heap.size + 1 + 1; omega)) _) _)

set_option maxRecDepth 100000 in
set_option maxHeartbeats 2000000 in
theorem cache_Read_in (F : Nat → Prop) (m : Mm) (a : Nat) (ha : a < 512) (hok : MmOk m) (u v : Value) (w : World) (hm : rMm.rep w F m [u, v]) :
    Calls Try.prog 9 #[.agg #[u, v], .int .i64 a] w (ReadRet (fetchM m a) (loadM m a) 0 w) := by
  have ha0 : (0 : Int) ≤ (a : Int) := by omega
  have ha1 : (a : Int) < 512 := by omega
  have hn0 : decide ((a : Int) < 0) = false := by simp
  have hn1 : decide ((512 : Int) ≤ (a : Int)) = false := by simp; omega
  have HM := Lib.hid hm
  have Hok := Lib.hid hok
  obtain ⟨u', v', e, hu, hv⟩ := mm_out hm
  cases e
  obtain ⟨A, c, rfl, _⟩ := hu.size_eq
  obtain ⟨B, d, rfl, _⟩ := hv.size_eq
  clear hm hok hu hv
  go_enter Try.func9, Try.ntmps9
  go_wp2_with fail
  have hgr : w.grownBy (((w.alloc (.cells #[.slice A m.cells.length c, .slice B m.lines.length d] 27)).alloc (.cells #[.slice none 0 0, .slice none 0 0] 27)).alloc (.cells #[.int .u8 0, .int .u16 0] 30)) none := grown_alloc (grown_alloc (grown_alloc (grown_refl _ _) _) _) _
  have hb4 : Bk (((w.alloc (.cells #[.slice A m.cells.length c, .slice B m.lines.length d] 27)).alloc (.cells #[.slice none 0 0, .slice none 0 0] 27)).alloc (.cells #[.int .u8 0, .int .u16 0] 30)) (w.heap.size + 1) 27 [.slice none 0 0, .slice none 0 0] := by
    have h := Bk.new (w := w.alloc (.cells #[.slice A m.cells.length c, .slice B m.lines.length d] 27)) (t := 27) (vs := [.slice none 0 0, .slice none 0 0])
    have h2 := h.grow (grown_alloc (grown_refl _ _) (.cells #[.int .u8 0, .int .u16 0] 30))
    simpa using h2
  have hb5 : Bk (((w.alloc (.cells #[.slice A m.cells.length c, .slice B m.lines.length d] 27)).alloc (.cells #[.slice none 0 0, .slice none 0 0] 27)).alloc (.cells #[.int .u8 0, .int .u16 0] 30)) (w.heap.size + 1 + 1) 30 [.int .u8 0, .int .u16 0] := by
    have h := Bk.new (w := (w.alloc (.cells #[.slice A m.cells.length c, .slice B m.lines.length d] 27)).alloc (.cells #[.slice none 0 0, .slice none 0 0] 27)) (t := 30) (vs := [.int .u8 0, .int .u16 0])
    simpa using h
  have hsz : (((w.alloc (.cells #[.slice A m.cells.length c, .slice B m.lines.length d] 27)).alloc (.cells #[.slice none 0 0, .slice none 0 0] 27)).alloc (.cells #[.int .u8 0, .int .u16 0] 30)).heap.size = w.heap.size + 3 := by simp
  generalize ((w.alloc (.cells #[.slice A m.cells.length c, .slice B m.lines.length d] 27)).alloc (.cells #[.slice none 0 0, .slice none 0 0] 27)).alloc (.cells #[.int .u8 0, .int .u16 0] 30) = W3 at *
  have HG := Lib.hid hgr
  have HB4 := Lib.hid hb4
  have HB5 := Lib.hid hb5
  have HS := Lib.hid hsz
  clear hgr hb4 hb5 hsz
  refine (memory_Copy_any F m _ _ W3 (rMm.grow HM.out HG.out)).mono ?_
  rintro e w1 ⟨cs, fp, rfl, ho, hnd, hlo, hg1⟩
  obtain ⟨u1, v1, f0, g0, rfl, _, hu1, hv1⟩ := mm_owned ho
  obtain ⟨A1, c1, rfl⟩ := hu1.shape
  obtain ⟨B1, d1, rfl⟩ := hv1.shape
  have HO := Lib.hid ho
  have HN := Lib.hid (And.intro hnd hlo)
  have HG1 := Lib.hid hg1
  clear ho hnd hlo hg1 hu1 hv1
  go_wp2_with fail
  have hgA : w1.grownBy (w1.alloc (.cells #[.slice A1 m.cells.length c1, .slice B1 m.lines.length d1] 27)) none := grown_alloc (grown_refl _ _) _
  have hat := own_memAt (p := w1.heap.size) Hok.out HO.out HN.out.1 (Bk.new (w := w1) (t := 27) (vs := [.slice A1 m.cells.length c1, .slice B1 m.lines.length d1])) (fun k hk => hgA.block k (rMm.olive HO.out k hk) (by simp)) (fun h => by have := rMm.olive HO.out _ h; omega)
  have hsA : (w1.alloc (.cells #[.slice A1 m.cells.length c1, .slice B1 m.lines.length d1] 27)).heap.size = w1.heap.size + 1 := by simp
  have hb4 := (HB4.out.grow HG1.out).grow hgA
  have hb5 := (HB5.out.grow HG1.out).grow hgA
  generalize hWA : w1.alloc (.cells #[.slice A1 m.cells.length c1, .slice B1 m.lines.length d1] 27) = W2 at *
  clear hWA
  obtain ⟨qc, cc, ql, cl, lv, f1, f2, f3, c1', c2', e1, e2, rfl, hO⟩ := hat.opened (i := a / 4 % 4) (Nat.mod_lt _ (by omega))
  refine (lines_Read_any m a ha Hok.out hO).mono ?_
  rintro e w4 ⟨lv', f', he, hcw, hM, hT, hf⟩
  have he : e = .returned (.tuple #[.agg #[.int .u8 (loadM m a).1, .int .u16 (loadM m a).2], .bool true]) := he
  subst he
  have hq := HN.out.2
  have hqc := hq qc (by simp)
  have hql := hq ql (by simp)
  have hs3 := HS.out
  have hb4 := hb4.keep (hT.block _ hb4.hi (by omega))
  have hb5 := hb5.keep (hT.block _ hb5.hi (by omega))
  have hcl := hM.closed
  have hfin : ∀ k, k ∈ qc :: ql :: (f1 ++ f' ++ f3) → w.heap.size + 3 ≤ k := fun k hk => by
    simp only [List.mem_cons, List.mem_append] at hk
    rcases hk with h | h | (h | h) | h
    · omega
    · omega
    · have := hq k (by simp [h]); omega
    · rcases hf k h with h' | h'
      · have := hq k (by simp [h']); omega
      · have := HG1.out.size; omega
    · have := hq k (by simp [h]); omega
  have hgr4 : w.grownBy w4 none := hT.own (grown_trans (grown_trans HG.out HG1.out) hgA) fun k hk => by omega
  have p0 := hM.blk.cell 0
  have p1 := hM.blk.cell 1
  have r0 := hb4.cell 0
  have r1 := hb4.cell 1
  have y0 := hb4.free 0
  have y1 := hb4.free 1
  have s0 := hb5.cell 0
  have s1 := hb5.cell 1
  have z0 := hb5.free 0
  have z1 := hb5.free 1
  simp only [List.getElem?_cons_zero, List.getElem?_cons_succ] at p0 p1 r0 r1 s0 s1
  have hs4 : w.heap.size + 3 ≤ w1.heap.size := by have := HG1.out.size; omega
  have hs5 : w1.heap.size < w4.heap.size := hM.blk.hi
  have HCL := Lib.hid hcl
  have HFI := Lib.hid hfin
  have HG4 := Lib.hid hgr4
  have HCW := Lib.hid hcw
  have HH4 := Lib.hid (And.intro hb4.hi hb5.hi)
  clear hcl hfin hgr4 hcw hb4 hb5 hM hT hf hO hat hq hsA hgA
  obtain ⟨x, hx⟩ : ∃ x, x = loadM m a := ⟨_, rfl⟩
  rw [← hx] at HCW ⊢
  have Hx := Lib.hid hx
  clear hx
  generalize hp : w1.heap.size = p at *
  go_wp2_with fail
  have d1 : ¬ w.heap.size + 1 = p := by omega
  have d2 : ¬ p = w.heap.size + 1 := by omega
  have d3 : ¬ w.heap.size + 1 + 1 = p := by omega
  have d4 : ¬ p = w.heap.size + 1 + 1 := by omega
  have d5 : w.heap.size + 1 < w4.heap.size := HH4.out.1
  have d6 : w.heap.size + 1 + 1 < w4.heap.size := HH4.out.2
  have d7 : ¬ w.heap.size + 1 = w4.heap.size := by omega
  have d8 : ¬ w.heap.size + 1 + 1 = w4.heap.size := by omega
  go_region
  go_wp2_with fail
  refine bodyPost_ret (v := .tuple #[.agg #[.slice (some ⟨qc, 0, none⟩) 512 cc, .slice (some ⟨ql, 0, none⟩) 4 cl], .agg #[.int .u8 x.1, .int .u16 x.2], .int .i64 0]) (by simp [results, Try.results9, go_sem, r0, r1, s0, s1, d5, d6]) rfl ?_
  rw [← Hx.out]
  refine ⟨_, _, _, rfl, rMm.okeep HCL.out.own fun k hk => ?_, (List.nodup_cons.1 HCL.out.nd).2, fun k hk => by have := HFI.out k hk; omega, ?_, HCW.out⟩
  · have h1 := HFI.out k hk
    have h2 := rMm.olive HCL.out.own k hk
    refine (heap_alloc_old _ _ ?_).trans ?_
    · simpa [World.setCell] using h2
    · rw [heap_setCell_other _ _ _ _ (show k ≠ w.heap.size + 1 + 1 by omega), heap_setCell_other _ _ _ _ (show k ≠ w.heap.size + 1 + 1 by omega), heap_setCell_other _ _ _ _ (show k ≠ w.heap.size + 1 by omega), heap_setCell_other _ _ _ _ (show k ≠ w.heap.size + 1 by omega)]
  · exact grown_drew (grown_alloc (grown_set (grown_set (grown_set (grown_set HG4.out (.inr (by show _ ≤ w.heap.size + 1; omega)) _) (.inr (by show _ ≤ w.heap.size + 1; omega)) _) (.inr (by show _ ≤ w.heap.size + 1 + 1; omega)) _) (.inr (by show _ ≤ w.heap.size + 1 + 1; omega)) _) _)


theorem own_zero (w : World) : rMm.own w [] ⟨[], []⟩ [.slice none 0 0, .slice none 0 0] := mm_own (m := ⟨[], []⟩) (f := []) (g := []) ⟨by simp, .inl ⟨rfl, rfl, rfl⟩⟩ ⟨by simp, .inl ⟨rfl, rfl, rfl⟩⟩
def Outside (a : Int) : Prop := a < 0 ∨ 512 ≤ a
theorem zero_wf : CelWf (0, 0) := ⟨by decide, by decide⟩
set_option maxRecDepth 100000 in
set_option maxHeartbeats 2000000 in
theorem ref05_Read_out (m : Mm) (a : Int) (ha : Outside a) (u v : Value) (w : World) :
    Calls Try.prog 21 #[.agg #[u, v], .int .i64 a] w (ReadRet ⟨[], []⟩ (0, 0) 6 w) := by
  by_cases h0 : a < 0
  · go_enter Try.func21, Try.ntmps21
    go_wp2_with fail
    refine bodyPost_ret (v := .tuple #[.agg #[.slice none 0 0, .slice none 0 0], .agg #[.int .u8 0, .int .u16 0], .int .i64 6]) (by simp [results, Try.results21, go_sem]) rfl ?_
    exact ⟨_, _, [], rfl, own_zero _, List.nodup_nil, by simp, grown_alloc (grown_alloc (grown_alloc (grown_refl _ _) _) _) _, zero_wf⟩
  · have h1 : 512 ≤ a := by rcases ha with h | h; exact absurd h h0; exact h
    go_enter Try.func21, Try.ntmps21
    go_wp2_with fail
    refine bodyPost_ret (v := .tuple #[.agg #[.slice none 0 0, .slice none 0 0], .agg #[.int .u8 0, .int .u16 0], .int .i64 6]) (by simp [results, Try.results21, go_sem]) rfl ?_
    exact ⟨_, _, [], rfl, own_zero _, List.nodup_nil, by simp, grown_alloc (grown_alloc (grown_alloc (grown_refl _ _) _) _) _, zero_wf⟩
set_option maxRecDepth 100000 in
set_option maxHeartbeats 2000000 in
theorem lines_Fetch_out (a : Int) (ha : Outside a) (w : World) (p : Value) :
    Calls Try.prog 47 #[p, .int .i64 a] w fun e w' => e = .returned (.tuple #[.pointer none, .int .i64 0, .bool false]) ∧ w = w' := by
  by_cases h0 : a < 0
  · go_enter Try.func47, Try.ntmps47
    go_wp2_with fail
    go_ret3
    exact ⟨rfl, rfl⟩
  · have h1 : 512 ≤ a := by rcases ha with h | h; exact absurd h h0; exact h
    go_enter Try.func47, Try.ntmps47
    go_wp2_with fail
    go_ret3
    exact ⟨rfl, rfl⟩
set_option maxRecDepth 100000 in
set_option maxHeartbeats 2000000 in
theorem lines_Read_out (a : Int) (ha : Outside a) (w : World) (p : Value) :
    Calls Try.prog 30 #[p, .int .i64 a] w fun e w' => e = .returned (.tuple #[.agg #[.int .u8 0, .int .u16 0], .bool false]) ∧ w.grownBy w' none := by
  go_enter Try.func30, Try.ntmps30
  go_wp2_with (go_at_call 47; refine (lines_Fetch_out a ha _ _).mono ?_; rintro e w' ⟨rfl, rfl⟩)
  refine bodyPost_ret (v := .tuple #[.agg #[.int .u8 0, .int .u16 0], .bool false]) (by simp [results, Try.results30, go_sem]) rfl ?_
  exact ⟨rfl, grown_alloc (grown_refl _ _) _⟩
set_option maxRecDepth 100000 in
set_option maxHeartbeats 2000000 in
theorem cache_Read_out (F : Nat → Prop) (m : Mm) (a : Int) (ha : Outside a) (u v : Value) (w : World) (hm : rMm.rep w F m [u, v]) :
    Calls Try.prog 9 #[.agg #[u, v], .int .i64 a] w (ReadRet ⟨[], []⟩ (0, 0) 6 w) := by
  have HM := Lib.hid hm
  obtain ⟨u', v', e, hu, hv⟩ := mm_out hm
  cases e
  obtain ⟨A, c, rfl, _⟩ := hu.size_eq
  obtain ⟨B, d, rfl, _⟩ := hv.size_eq
  clear hm hu hv
  go_enter Try.func9, Try.ntmps9
  go_wp2_with fail
  have hgr : w.grownBy (((w.alloc (.cells #[.slice A m.cells.length c, .slice B m.lines.length d] 27)).alloc (.cells #[.slice none 0 0, .slice none 0 0] 27)).alloc (.cells #[.int .u8 0, .int .u16 0] 30)) none := grown_alloc (grown_alloc (grown_alloc (grown_refl _ _) _) _) _
  have hb4 : Bk (((w.alloc (.cells #[.slice A m.cells.length c, .slice B m.lines.length d] 27)).alloc (.cells #[.slice none 0 0, .slice none 0 0] 27)).alloc (.cells #[.int .u8 0, .int .u16 0] 30)) (w.heap.size + 1) 27 [.slice none 0 0, .slice none 0 0] := by
    have h := Bk.new (w := w.alloc (.cells #[.slice A m.cells.length c, .slice B m.lines.length d] 27)) (t := 27) (vs := [.slice none 0 0, .slice none 0 0])
    have h2 := h.grow (grown_alloc (grown_refl _ _) (.cells #[.int .u8 0, .int .u16 0] 30))
    simpa using h2
  have hb5 : Bk (((w.alloc (.cells #[.slice A m.cells.length c, .slice B m.lines.length d] 27)).alloc (.cells #[.slice none 0 0, .slice none 0 0] 27)).alloc (.cells #[.int .u8 0, .int .u16 0] 30)) (w.heap.size + 1 + 1) 30 [.int .u8 0, .int .u16 0] := by
    have h := Bk.new (w := (w.alloc (.cells #[.slice A m.cells.length c, .slice B m.lines.length d] 27)).alloc (.cells #[.slice none 0 0, .slice none 0 0] 27)) (t := 30) (vs := [.int .u8 0, .int .u16 0])
    simpa using h
  generalize ((w.alloc (.cells #[.slice A m.cells.length c, .slice B m.lines.length d] 27)).alloc (.cells #[.slice none 0 0, .slice none 0 0] 27)).alloc (.cells #[.int .u8 0, .int .u16 0] 30) = W3 at *
  refine (memory_Copy_any F m _ _ W3 (rMm.grow HM.out hgr)).mono ?_
  rintro e w1 ⟨cs, fp, rfl, ho, _, _, hg1⟩
  obtain ⟨u1, v1, f0, g0, rfl, _, hu1, hv1⟩ := mm_owned ho
  obtain ⟨A1, c1, rfl⟩ := hu1.shape
  obtain ⟨B1, d1, rfl⟩ := hv1.shape
  have hb4 := hb4.grow hg1
  have hb5 := hb5.grow hg1
  have hgr := grown_trans hgr hg1
  clear ho hg1 hu1 hv1
  go_wp2_with fail
  have hb4 := hb4.grow (grown_alloc (grown_refl _ _) (.cells #[.slice A1 m.cells.length c1, .slice B1 m.lines.length d1] 27))
  have hb5 := hb5.grow (grown_alloc (grown_refl _ _) (.cells #[.slice A1 m.cells.length c1, .slice B1 m.lines.length d1] 27))
  have hgr := grown_alloc hgr (.cells #[.slice A1 m.cells.length c1, .slice B1 m.lines.length d1] 27)
  generalize w1.alloc (.cells #[.slice A1 m.cells.length c1, .slice B1 m.lines.length d1] 27) = W2 at *
  refine (lines_Read_out a ha _ _).mono ?_
  rintro e w4 ⟨rfl, hg4⟩
  have hb4 := hb4.grow hg4
  have hb5 := hb5.grow hg4
  have hgr := grown_trans hgr hg4
  have r0 := hb4.cell 0
  have r1 := hb4.cell 1
  have y0 := hb4.free 0
  have y1 := hb4.free 1
  have s0 := hb5.cell 0
  have s1 := hb5.cell 1
  have z0 := hb5.free 0
  have z1 := hb5.free 1
  simp only [List.getElem?_cons_zero, List.getElem?_cons_succ] at r0 r1 s0 s1
  have d5 : w.heap.size + 1 < w4.heap.size := hb4.hi
  have d6 : w.heap.size + 1 + 1 < w4.heap.size := hb5.hi
  have HG := Lib.hid hgr
  clear hgr hb4 hb5 hg4
  go_wp2_with fail
  refine bodyPost_ret (v := .tuple #[.agg #[.slice none 0 0, .slice none 0 0], .agg #[.int .u8 0, .int .u16 0], .int .i64 6]) (by simp [results, Try.results9, go_sem, r0, r1, s0, s1, d5, d6]) rfl ?_
  exact ⟨_, _, [], rfl, own_zero _, List.nodup_nil, by simp, grown_alloc (grown_set (grown_set (grown_set (grown_set HG.out (.inr (by show _ ≤ w.heap.size + 1; omega)) _) (.inr (by show _ ≤ w.heap.size + 1; omega)) _) (.inr (by show _ ≤ w.heap.size + 1 + 1; omega)) _) (.inr (by show _ ≤ w.heap.size + 1 + 1; omega)) _) _, zero_wf⟩

end Go.Proofs.Ytndmcnddgcifiaa
