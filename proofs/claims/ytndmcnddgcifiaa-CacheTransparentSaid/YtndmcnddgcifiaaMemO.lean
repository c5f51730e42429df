/- A memory that a call owns, opened at one of its lines: what stores leave; no condition. -/
import Derived.Test.YtndmcnddgcifiaaMemT
import Derived.Test.YtndmcnddgcifiaaMrep
import Derived.Test.YtndmcnddgcifiaaBk
set_option linter.unusedVariables false
set_option linter.unusedSimpArgs false
namespace Go.Proofs.Ytndmcnddgcifiaa
open Go.RowKit

def CelWf (c : Cel) : Prop := (Lit.int .u8 c.1).wf = true ∧ (Lit.int .u16 c.2).wf = true
theorem owns_cells {w : World} : ∀ {xs : List Cel} {g : List Nat} {cs : List Value}, Owns rCell w g xs cs → g = [] ∧ cs = celsV xs ∧ ∀ c ∈ xs, CelWf c
  | [], _, _, h => ⟨h.2, h.1, by simp⟩
  | x :: r, _, _, ⟨c, d, f, g, e, e', h1, h2⟩ => by
    obtain ⟨a, b, f', g', rfl, rfl, ⟨rfl, rfl, h3⟩, ⟨rfl, rfl, h4⟩⟩ := h1
    obtain ⟨rfl, rfl, h5⟩ := owns_cells h2
    refine ⟨by simpa using e', by simpa [celsV, celV] using e, fun c hc => ?_⟩
    rcases List.mem_cons.1 hc with rfl | hc
    · exact ⟨h3, h4⟩
    · exact h5 c hc
theorem cells_own (w : World) : ∀ {xs : List Cel}, (∀ c ∈ xs, CelWf c) → Owns rCell w [] xs (celsV xs)
  | [], _ => ⟨rfl, rfl⟩
  | x :: r, h => ⟨celV x, celsV r, [], [], by simp [celsV], rfl, ⟨[.int .u8 x.1], [.int .u16 x.2], [], [], rfl, rfl, ⟨rfl, rfl, (h x (by simp)).1⟩, ⟨rfl, rfl, (h x (by simp)).2⟩⟩, cells_own w fun c hc => h c (by simp [hc])⟩

theorem reps_cells (w : World) (F : Nat → Prop) {xs : List Cel} (h : ∀ c ∈ xs, CelWf c) : Reps rCell w F xs (celsV xs) := Reps.sub (fun _ hk => by simp at hk) (cells_own w h).reads
/-- A part of a row of cells. -/
theorem sub_cells {e : TypeId} {w : World} {q n : Nat} {C : List Cel} (hV : VBuf e w q n (celsV C)) (hw : ∀ c ∈ C, CelWf c) {o k c' : Nat} (h : o + k ≤ C.length) (hk : k ≤ 1099511627776) (hc : k ≤ c') (hc' : c' ≤ 9223372036854775807) :
    RSl rCell w (fun b => b = q) ((C.drop o).take k) (.slice (some ⟨q, o * 2, none⟩) k c') := by
  have hl : ((C.drop o).take k).length = k := by simp; omega
  refine ⟨some ⟨q, o * 2, none⟩, c', celsV ((C.drop o).take k), by rw [hl], by rw [hl]; exact hc, hc', by rw [hl]; exact hk, by simp, fun j hj => ?_, reps_cells w _ fun c hm => hw c (List.mem_of_mem_drop (List.mem_of_mem_take hm))⟩
  refine ⟨q, o * 2, rfl, rfl, ?_⟩
  have hl2 := celsV_len ((C.drop o).take k)
  have hl3 := celsV_len C
  rw [hV.cell (by omega)]
  congr 1
  have e1 : celsV ((C.drop o).take k) = ((celsV C).drop (o * 2)).take (k * 2) := by rw [celsV_take, celsV_drop]
  simp only [e1, List.getElem_take, List.getElem_drop]
theorem all_cells {e : TypeId} {w : World} {q n c' : Nat} {C : List Cel} (hV : VBuf e w q n (celsV C)) (hw : ∀ c ∈ C, CelWf c) (hk : C.length ≤ 1099511627776) (hc : C.length ≤ c') (hc' : c' ≤ 9223372036854775807) :
    RSl rCell w (fun b => b = q) C (.slice (some ⟨q, 0, none⟩) C.length c') := by
  have := sub_cells hV hw (o := 0) (k := C.length) (by omega) hk hc hc'
  simpa using this
/-- Line i of a memory in block p, for itself. -/
structure MemO (w : World) (p : Nat) (m : Mm) (i qc cc ql cl : Nat) (lv : Value) (f1 f f2 : List Nat) (c1 c2 : List Value) : Prop where
  blk : Bk w p 27 [.slice (some ⟨qc, 0, none⟩) 512 cc, .slice (some ⟨ql, 0, none⟩) 4 cl]
  cells : VBuf 30 w qc (cc * 2) (celsV m.cells)
  lines : VBuf 40 w ql (cl * 3) (c1 ++ (.int .i64 (lnAt m i).tag :: .bool (lnAt m i).dirty :: lv :: c2))
  o1 : Owns rLn w f1 (m.lines.take i) c1
  o : OSl rCell 30 w f (lnAt m i).cells lv
  o2 : Owns rLn w f2 (m.lines.drop (i + 1)) c2
  cwf : ∀ c ∈ m.cells, CelWf c
  wf : (Lit.int .i64 (lnAt m i).tag).wf = true
  hcc : 512 ≤ cc
  hcc' : cc ≤ 9223372036854775807
  hcl : 4 ≤ cl
  hcl' : cl ≤ 9223372036854775807
  n : m.cells.length = 512
  n4 : m.lines.length = 4
  hi : i < 4
  hc1 : c1.length = i * 3
  nd : (p :: qc :: ql :: (f1 ++ f ++ f2)).Nodup
/-- A memory in block p. -/
structure MemAt (w : World) (p : Nat) (u v : Value) (fp : List Nat) (m : Mm) : Prop where
  blk : Bk w p 27 [u, v]
  own : rMm.own w fp m [u, v]
  nd : (p :: fp).Nodup
  n : m.cells.length = 512
  n4 : m.lines.length = 4

theorem lnAt_eq {m : Mm} {i : Nat} (h : i < m.lines.length) : lnAt m i = m.lines[i] := by
  unfold lnAt; simp [List.getD_eq_getElem?_getD, h]
theorem MemAt.opened {w : World} {p : Nat} {u v : Value} {fp : List Nat} {m : Mm} (h : MemAt w p u v fp m) {i : Nat} (hi : i < 4) :
    ∃ qc cc ql cl lv f1 f f2 c1 c2, u = .slice (some ⟨qc, 0, none⟩) 512 cc ∧ v = .slice (some ⟨ql, 0, none⟩) 4 cl ∧ fp = qc :: ql :: (f1 ++ f ++ f2) ∧ MemO w p m i qc cc ql cl lv f1 f f2 c1 c2 := by
  obtain ⟨u', v', f, g, e, rfl, hu, hv⟩ := mm_owned h.own
  cases e
  have hnd := h.nd
  have hn := h.n
  have hn4 := h.n4
  have hb := h.blk
  obtain ⟨hb1, ⟨_, e, _⟩ | ⟨qc, cc, cs, g1, rfl, rfl, h1, h2, h3, h4⟩⟩ := hu
  · rw [e] at hn; cases hn
  obtain ⟨hb2, ⟨_, e, _⟩ | ⟨ql, cl, ds, g2, rfl, rfl, h5, h6, h7, h8⟩⟩ := hv
  · rw [e] at hn4; cases hn4
  obtain ⟨rfl, rfl, hwf⟩ := owns_cells h4
  obtain ⟨f1, f, f2, c1, c, c2, rfl, rfl, hc1, h9, h10, h11⟩ := h8.split (k := i) (by omega)
  rw [← lnAt_eq (by omega)] at h10
  obtain ⟨lv, rfl, hw, hlv⟩ := ln_owned h10
  rw [hn] at h1 hb
  rw [hn4] at h5 hb
  exact ⟨qc, cc, ql, cl, lv, f1, f, f2, c1, c2, by rw [hn], by rw [hn4], by simp, ⟨by rw [hn, hn4] at *; exact hb, h3, show VBuf _ w ql (cl * rLn.size) _ from by simpa using h7, h9, hlv, h11, hwf, hw, h1, h2, h5, h6, hn, hn4, hi, hc1, by simpa using hnd⟩⟩
section
variable {w w' : World} {p : Nat} {m : Mm} {i qc cc ql cl : Nat} {lv : Value} {f1 f f2 : List Nat} {c1 c2 : List Value}
theorem MemO.closed (h : MemO w p m i qc cc ql cl lv f1 f f2 c1 c2) : MemAt w p (.slice (some ⟨qc, 0, none⟩) 512 cc) (.slice (some ⟨ql, 0, none⟩) 4 cl) (qc :: ql :: (f1 ++ f ++ f2)) m := by
  have hj := Owns.join (xs := m.lines) (k := i) (by rw [h.n4]; exact h.hi) h.o1 (ln_own h.wf h.o) h.o2
  rw [lnAt_eq (by rw [h.n4]; exact h.hi), List.set_getElem_self] at hj
  have h1 : OSl rCell 30 w [qc] m.cells (.slice (some ⟨qc, 0, none⟩) 512 cc) := ⟨by rw [h.n]; omega, .inr ⟨qc, cc, _, [], by rw [h.n], rfl, by rw [h.n]; exact h.hcc, h.hcc', h.cells, cells_own w h.cwf⟩⟩
  have h2 : OSl rLn 40 w (ql :: (f1 ++ f ++ f2)) m.lines (.slice (some ⟨ql, 0, none⟩) 4 cl) := ⟨by rw [h.n4]; omega, .inr ⟨ql, cl, _, _, by rw [h.n4], rfl, by rw [h.n4]; exact h.hcl, h.hcl', by have := h.lines; rw [lnAt_eq (by rw [h.n4]; exact h.hi)] at this; exact show VBuf _ w ql (cl * 3) _ from by simpa using this, hj⟩⟩
  exact ⟨h.blk, mm_own h1 h2, by simpa using h.nd, h.n, h.n4⟩
/-- Blocks of the memory. -/
def MemO.In (_ : MemO w p m i qc cc ql cl lv f1 f f2 c1 c2) (k : Nat) : Prop := k = qc ∨ k = ql ∨ k ∈ f1 ++ f ++ f2
theorem MemO.keep (h : MemO w p m i qc cc ql cl lv f1 f f2 c1 c2) (hk : ∀ k, k ∈ p :: qc :: ql :: (f1 ++ f ++ f2) → w'.heap[k]? = w.heap[k]?) : MemO w' p m i qc cc ql cl lv f1 f f2 c1 c2 :=
  { h with
    blk := h.blk.keep (hk p (by simp)), cells := h.cells.keep (hk qc (by simp)), lines := h.lines.keep (hk ql (by simp)), o1 := h.o1.keep fun k hm => hk k (by simp [hm]), o := h.o.keep fun k hm => hk k (by simp [hm]), o2 := h.o2.keep fun k hm => hk k (by simp [hm]) }
theorem MemO.live (h : MemO w p m i qc cc ql cl lv f1 f f2 c1 c2) : ∀ k, k ∈ p :: qc :: ql :: (f1 ++ f ++ f2) → k < w.heap.size := by
  intro k hk
  simp only [List.mem_cons, List.mem_append] at hk
  rcases hk with rfl | rfl | rfl | (hk | hk) | hk
  · exact h.blk.hi
  · exact h.cells.hi
  · exact h.lines.hi
  · exact h.o1.live k hk
  · exact h.o.live k hk
  · exact h.o2.live k hk
theorem MemO.grow (h : MemO w p m i qc cc ql cl lv f1 f f2 c1 c2) (hg : w.grownBy w' none) : MemO w' p m i qc cc ql cl lv f1 f f2 c1 c2 := h.keep fun k hk => hg.block k (h.live k hk) (by simp)
theorem MemO.ne (h : MemO w p m i qc cc ql cl lv f1 f f2 c1 c2) : p ≠ qc ∧ p ≠ ql ∧ qc ≠ ql ∧ ∀ k, k ∈ f1 ++ f ++ f2 → k ≠ p ∧ k ≠ qc ∧ k ≠ ql := by
  have := h.nd
  simp only [List.nodup_cons, List.mem_cons, not_or] at this
  obtain ⟨⟨h1, h2, h3⟩, ⟨h4, h5⟩, h6, _⟩ := this
  exact ⟨h1, h2, h4, fun k hk => ⟨fun e => h3 (e ▸ hk), fun e => h5 (e ▸ hk), fun e => h6 (e ▸ hk)⟩⟩
/-- The memory with another line i. -/
def setLn (m : Mm) (i : Nat) (x : Ln) : Mm := ⟨m.cells, m.lines.set i x⟩
theorem lnAt_setLn (h4 : m.lines.length = 4) (hi : i < 4) (x : Ln) : lnAt (setLn m i x) i = x := by
  unfold setLn; rw [lnAt_set (by omega), if_pos rfl]
theorem setLn_setLn (x y : Ln) : setLn (setLn m i x) i y = setLn m i y := by simp [setLn]
theorem setLn_self (h4 : m.lines.length = 4) (hi : i < 4) : setLn m i (lnAt m i) = m := by
  unfold setLn; rw [lnAt_eq (by omega), List.set_getElem_self]
theorem setLn_len (x : Ln) (h : m.lines.length = 4) : (setLn m i x).lines.length = 4 := by simp [setLn, h]
theorem setLn_take (x : Ln) : (setLn m i x).lines.take i = m.lines.take i := by simp [setLn, List.take_set_of_le]
theorem setLn_drop (x : Ln) : (setLn m i x).lines.drop (i + 1) = m.lines.drop (i + 1) := by simp [setLn, List.drop_set_of_lt]
theorem MemO.setTag (h : MemO w p m i qc cc ql cl lv f1 f f2 c1 c2) {n : Int} (hn : (Lit.int .i64 n).wf = true) :
    MemO (w.setCell ⟨ql, i * 3, none⟩ (.int .i64 n)) p (setLn m i ⟨n, (lnAt m i).dirty, (lnAt m i).cells⟩) i qc cc ql cl lv f1 f f2 c1 c2 := by
  have hne := h.ne
  have hk : ∀ k, k ≠ ql → (w.setCell ⟨ql, i * 3, none⟩ (.int .i64 n)).heap[k]? = w.heap[k]? := fun k hk => heap_setCell_other _ _ _ _ hk
  have hl := h.lines.setmid (j := 0) (by simp) (.int .i64 n)
  rw [h.hc1] at hl
  have e := lnAt_setLn h.n4 h.hi ⟨n, (lnAt m i).dirty, (lnAt m i).cells⟩
  exact ⟨h.blk.keep (hk _ hne.2.1), h.cells.keep (hk _ hne.2.2.1), by rw [e]; exact hl, by rw [setLn_take]; exact h.o1.keep fun k hm => hk _ (hne.2.2.2 k (by simp [hm])).2.2, by rw [e]; exact h.o.keep fun k hm => hk _ (hne.2.2.2 k (by simp [hm])).2.2,
    by rw [setLn_drop]; exact h.o2.keep fun k hm => hk _ (hne.2.2.2 k (by simp [hm])).2.2, h.cwf, by rw [e]; exact hn, h.hcc, h.hcc', h.hcl, h.hcl', h.n, by simp [setLn, h.n4], h.hi, h.hc1, h.nd⟩
theorem MemO.setDirty (h : MemO w p m i qc cc ql cl lv f1 f f2 c1 c2) (d : Bool) :
    MemO (w.setCell ⟨ql, i * 3 + 1, none⟩ (.bool d)) p (setLn m i ⟨(lnAt m i).tag, d, (lnAt m i).cells⟩) i qc cc ql cl lv f1 f f2 c1 c2 := by
  have hne := h.ne
  have hk : ∀ k, k ≠ ql → (w.setCell ⟨ql, i * 3 + 1, none⟩ (.bool d)).heap[k]? = w.heap[k]? := fun k hk => heap_setCell_other _ _ _ _ hk
  have hl := h.lines.setmid (j := 1) (by simp) (.bool d)
  rw [h.hc1] at hl
  have e := lnAt_setLn h.n4 h.hi ⟨(lnAt m i).tag, d, (lnAt m i).cells⟩
  exact ⟨h.blk.keep (hk _ hne.2.1), h.cells.keep (hk _ hne.2.2.1), by rw [e]; exact hl, by rw [setLn_take]; exact h.o1.keep fun k hm => hk _ (hne.2.2.2 k (by simp [hm])).2.2, by rw [e]; exact h.o.keep fun k hm => hk _ (hne.2.2.2 k (by simp [hm])).2.2,
    by rw [setLn_drop]; exact h.o2.keep fun k hm => hk _ (hne.2.2.2 k (by simp [hm])).2.2, h.cwf, by rw [e]; exact h.wf, h.hcc, h.hcc', h.hcl, h.hcl', h.n, by simp [setLn, h.n4], h.hi, h.hc1, h.nd⟩
theorem MemO.setRow (h : MemO w p m i qc cc ql cl lv f1 f f2 c1 c2) {f' : List Nat} {lv' : Value} {cs : List Cel} (ho : OSl rCell 30 w f' cs lv') (hf : f'.Nodup) (hd : ∀ k, k ∈ f' → ¬ k ∈ p :: qc :: ql :: (f1 ++ f2)) :
    MemO (w.setCell ⟨ql, i * 3 + 2, none⟩ lv') p (setLn m i ⟨(lnAt m i).tag, (lnAt m i).dirty, cs⟩) i qc cc ql cl lv' f1 f' f2 c1 c2 := by
  have hne := h.ne
  have hk : ∀ k, k ≠ ql → (w.setCell ⟨ql, i * 3 + 2, none⟩ lv').heap[k]? = w.heap[k]? := fun k hk => heap_setCell_other _ _ _ _ hk
  have hl := h.lines.setmid (j := 2) (by simp) lv'
  rw [h.hc1] at hl
  have e := lnAt_setLn h.n4 h.hi ⟨(lnAt m i).tag, (lnAt m i).dirty, cs⟩
  refine ⟨h.blk.keep (hk _ hne.2.1), h.cells.keep (hk _ hne.2.2.1), by rw [e]; exact hl, by rw [setLn_take]; exact h.o1.keep fun k hm => hk _ (hne.2.2.2 k (by simp [hm])).2.2, by rw [e]; exact ho.keep fun k hm => hk _ (fun e => hd k hm (by simp [e])),
    by rw [setLn_drop]; exact h.o2.keep fun k hm => hk _ (hne.2.2.2 k (by simp [hm])).2.2, h.cwf, by rw [e]; exact h.wf, h.hcc, h.hcc', h.hcl, h.hcl', h.n, by simp [setLn, h.n4], h.hi, h.hc1, ?_⟩
  have hnd := h.nd
  simp only [List.nodup_cons, List.mem_cons, not_or, List.mem_append, List.nodup_append] at hnd hd ⊢
  obtain ⟨⟨a1, a2, a3⟩, ⟨a4, a5⟩, a6, ⟨a7, a8, a9⟩, a10, a11⟩ := hnd
  refine ⟨⟨a1, a2, ⟨a3.1.1, fun hm => (hd p hm).1 rfl⟩, a3.2⟩, ⟨a4, ⟨a5.1.1, fun hm => (hd qc hm).2.1 rfl⟩, a5.2⟩, ⟨⟨a6.1.1, fun hm => (hd ql hm).2.2.1 rfl⟩, a6.2⟩, ⟨a7, hf, fun x hx y hy e => (hd y hy).2.2.2.1 (e ▸ hx)⟩, a10, fun x hx y hy e => ?_⟩
  rcases hx with hx | hx
  · exact a11 x (.inl hx) y hy e
  · exact (hd x hx).2.2.2.2 (e ▸ hy)
/-- Words of memory laid over. -/
theorem MemO.laid (h : MemO w p m i qc cc ql cl lv f1 f f2 c1 c2) (hw : ∀ k, k ≠ qc → w'.heap[k]? = w.heap[k]?) {cs : List Cel} (hl : cs.length = 512) (hcw : ∀ c ∈ cs, CelWf c) (hV : VBuf 30 w' qc (cc * 2) (celsV cs)) :
    MemO w' p ⟨cs, m.lines⟩ i qc cc ql cl lv f1 f f2 c1 c2 := by
  have hne := h.ne
  exact ⟨h.blk.keep (hw _ hne.1), hV, h.lines.keep (hw _ (Ne.symm hne.2.2.1)), h.o1.keep fun k hm => hw _ (hne.2.2.2 k (by simp [hm])).2.1, h.o.keep fun k hm => hw _ (hne.2.2.2 k (by simp [hm])).2.1, h.o2.keep fun k hm => hw _ (hne.2.2.2 k (by simp [hm])).2.1,
    hcw, h.wf, h.hcc, h.hcc', h.hcl, h.hcl', hl, h.n4, h.hi, h.hc1, h.nd⟩
/-- Cells of the line turned. -/
theorem MemO.lineCells (h : MemO w p m i qc cc ql cl lv f1 f f2 c1 c2) (hw : ∀ k, ¬ k ∈ f → w'.heap[k]? = w.heap[k]?) {cs : List Cel} (ho : OSl rCell 30 w' f cs lv) :
    MemO w' p (setLn m i ⟨(lnAt m i).tag, (lnAt m i).dirty, cs⟩) i qc cc ql cl lv f1 f f2 c1 c2 := by
  have hne := h.ne
  have hnd := h.nd
  have e := lnAt_setLn h.n4 h.hi ⟨(lnAt m i).tag, (lnAt m i).dirty, cs⟩
  simp only [List.nodup_cons, List.nodup_append, List.mem_append] at hnd
  obtain ⟨_, _, _, ⟨_, _, a9⟩, _, a11⟩ := hnd
  exact ⟨h.blk.keep (hw _ fun hm => (hne.2.2.2 p (by simp [hm])).1 rfl), h.cells.keep (hw _ fun hm => (hne.2.2.2 qc (by simp [hm])).2.1 rfl), by rw [e]; exact h.lines.keep (hw _ fun hm => (hne.2.2.2 ql (by simp [hm])).2.2 rfl),
    by rw [setLn_take]; exact h.o1.keep fun k hm => hw _ fun hm' => a9 k hm k hm' rfl, by rw [e]; exact ho, by rw [setLn_drop]; exact h.o2.keep fun k hm => hw _ fun hm' => a11 k (.inr hm') k hm rfl,
    h.cwf, by rw [e]; exact h.wf, h.hcc, h.hcc', h.hcl, h.hcl', h.n, by simp [setLn, h.n4], h.hi, h.hc1, h.nd⟩
end

end Go.Proofs.Ytndmcnddgcifiaa
