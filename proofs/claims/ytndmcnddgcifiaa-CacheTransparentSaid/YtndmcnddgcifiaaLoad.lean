/- Cells read and written in place through the lines; no condition. -/
import Derived.Test.YtndmcnddgcifiaaBack
set_option linter.unusedVariables false
set_option linter.unusedSimpArgs false
namespace Go.Proofs.Ytndmcnddgcifiaa
open Go.RowKit

theorem fetch_row {m : Mm} (hok : MmOk m) {a : Nat} (ha : a < 512) {w : World} {p qc cc ql cl : Nat} {lv : Value} {f1 f f2 : List Nat} {c1 c2 : List Value} (h : MemO w p (fetchM m a) (a / 4 % 4) qc cc ql cl lv f1 f f2 c1 c2) :
    (∀ x ∈ (lnAt (fetchM m a) (a / 4 % 4)).cells, CelWf x) ∧ (lnAt (fetchM m a) (a / 4 % 4)).cells.length = 4 ∧ ∃ b c, lv = .slice (some ⟨b, 0, none⟩) 4 c ∧ 4 ≤ c ∧ c ≤ 9223372036854775807 ∧ VBuf 30 w b (c * 2) (celsV (lnAt (fetchM m a) (a / 4 % 4)).cells) ∧ f = [b] := by
  obtain ⟨h1, h2⟩ := ok_row h
  have hl : (lnAt (fetchM m a) (a / 4 % 4)).cells.length = 4 := by
    rcases (ok_fetch hok ha).each _ (Nat.mod_lt _ (by omega)) with ⟨h1, _, _⟩ | ⟨t, h1, h2, h3, h4⟩
    · rw [fetch_at hok a] at h1; omega
    · exact h4
  exact ⟨h1, hl, h2 hl⟩
/-- The cell at an address, its line being there: where it lies and what it is. -/
theorem row_cell {w : World} {b c : Nat} {xs : List Cel} (hV : VBuf 30 w b c (celsV xs)) {j : Nat} (hj : j < xs.length) :
    w.cell? ⟨b, j * 2, none⟩ = some (.int .u8 (xs.getD j (0, 0)).1) ∧ w.cell? ⟨b, j * 2 + 1, none⟩ = some (.int .u16 (xs.getD j (0, 0)).2) := by
  obtain ⟨h1, h2⟩ := celsV_at hj
  obtain ⟨g1, g2⟩ := List.getElem?_eq_some_iff.1 h1
  obtain ⟨g3, g4⟩ := List.getElem?_eq_some_iff.1 h2
  exact ⟨(hV.cell g1).trans (by rw [g2]), (hV.cell g3).trans (by rw [g4])⟩

def LoadPost (tup : Bool) (m : Mm) (a : Nat) (w : World) (p qc cc ql cl : Nat) (f1 f f2 : List Nat) (c1 c2 : List Value) (e : Ending) (w' : World) : Prop :=
  ∃ lv' f', e = .returned (if tup = true then .tuple #[.agg #[.int .u8 (loadM m a).1, .int .u16 (loadM m a).2], .bool true] else .agg #[.int .u8 (loadM m a).1, .int .u16 (loadM m a).2]) ∧
    CelWf (loadM m a) ∧ MemO w' p (fetchM m a) (a / 4 % 4) qc cc ql cl lv' f1 f' f2 c1 c2 ∧ Turns (fun k => k = qc ∨ k = ql) w w' ∧ ∀ k, k ∈ f' → k ∈ f ∨ w.heap.size ≤ k

set_option maxRecDepth 100000 in
set_option maxHeartbeats 2000000 in
theorem ref05_Load_any (m : Mm) (a : Nat) (ha : a < 512) (hok : MmOk m) {w : World} {p qc cc ql cl : Nat} {lv : Value} {f1 f f2 : List Nat} {c1 c2 : List Value} (h : MemO w p m (a / 4 % 4) qc cc ql cl lv f1 f f2 c1 c2) :
    Calls Try.prog 40 #[.pointer (some ⟨p, 0, none⟩), .int .i64 a] w (LoadPost false m a w p qc cc ql cl f1 f f2 c1 c2) := by
  have HH := Lib.hid h
  have Hok := Lib.hid hok
  clear h hok
  go_enter Try.func40, Try.ntmps40
  go_wp2_with fail
  have hgr : w.grownBy (w.alloc (.cells #[.int .u8 0, .int .u16 0] 30)) none := grown_alloc (grown_refl _ _) _
  have hB : Bk (w.alloc (.cells #[.int .u8 0, .int .u16 0] 30)) w.heap.size 30 [.int .u8 0, .int .u16 0] := Bk.new
  have h1 := HH.out.grow hgr
  have hsz : (w.alloc (.cells #[.int .u8 0, .int .u16 0] 30)).heap.size = w.heap.size + 1 := by simp
  generalize w.alloc (.cells #[.int .u8 0, .int .u16 0] 30) = W at *
  refine (ref05_Fetch_any m a ha Hok.out h1).mono ?_
  rintro e w1 ⟨lv1, g1, rfl, hM, hT, hf⟩
  obtain ⟨hw, hl4, b, c, rfl, hc4, hc5, hV, rfl⟩ := fetch_row Hok.out ha hM
  have hB1 := hB.keep (hT.block _ hB.hi (by
    have := HH.out.live qc (by simp)
    have := HH.out.live ql (by simp)
    omega))
  have r2 := hB1.hi
  have r0 := hB1.cell 0
  have r1 := hB1.cell 1
  have z0 := hB1.free 0
  have z1 := hB1.free 1
  simp only [List.getElem?_cons_zero, List.getElem?_cons_succ] at r0 r1
  have l2 : w1.cell? ⟨ql, a / 4 % 4 * 3 + 2, none⟩ = some (.slice (some ⟨b, 0, none⟩) 4 c) := by have := hM.lines.mid (j := 2) rfl; rwa [hM.hc1] at this
  obtain ⟨k0, k1⟩ := row_cell hV (j := a % 4) (by omega)
  have hcw : CelWf (loadM m a) := by
    unfold loadM
    rw [List.getD_eq_getElem?_getD, List.getElem?_eq_getElem (by omega)]
    exact hw _ (List.getElem_mem _)
  have e1 : (lnAt (fetchM m a) (a / 4 % 4)).cells.getD (a % 4) (0, 0) = loadM m a := rfl
  rw [e1] at k0 k1
  obtain ⟨v, hv⟩ : ∃ v, v = loadM m a := ⟨_, rfl⟩
  rw [← hv] at k0 k1 hcw
  have Hv := Lib.hid hv
  clear hv
  obtain ⟨j, hj⟩ : ∃ j, j = a % 4 := ⟨_, rfl⟩
  rw [← hj] at k0 k1
  have hj1 : (a : Int) % 4 = (j : Int) := by omega
  have hj2 : (0 : Int) ≤ (j : Int) := by omega
  have hj3 : (j : Int) < 4 := by omega
  have hj4 : (j : Int).toNat = j := by omega
  have Hj := Lib.hid hj
  clear hj
  have hR : ∀ x y, MemO ((w1.setCell ⟨w.heap.size, 0, none⟩ x).setCell ⟨w.heap.size, 1, none⟩ y) p (fetchM m a) (a / 4 % 4) qc cc ql cl (.slice (some ⟨b, 0, none⟩) 4 c) f1 [b] f2 c1 c2 := fun x y => hM.keep fun k hk => by
    have hne : k ≠ w.heap.size := by
      intro e
      subst e
      have hlo := HH.out.live
      simp only [List.mem_cons, List.mem_append, List.not_mem_nil, or_false] at hk
      rcases hk with h | h | h | (h | h) | h
      · have := hlo p (by simp); omega
      · have := hlo qc (by simp); omega
      · have := hlo ql (by simp); omega
      · have := hlo w.heap.size (by simp [h]); omega
      · rcases hf _ (List.mem_singleton.2 h) with h' | h'
        · have := hlo w.heap.size (by simp [h']); omega
        · omega
      · have := hlo w.heap.size (by simp [h]); omega
    rw [heap_setCell_other _ _ _ _ hne, heap_setCell_other _ _ _ _ hne]
  have HR := Lib.hid hR
  have HT := Lib.hid ((Turns.of_grown hgr).trans hT)
  have HF := Lib.hid hf
  have HW := Lib.hid hcw
  have Hsz := Lib.hid hsz
  clear hR hT hf hcw hsz hV hM hgr hB hB1 h1 hw e1
  go_wp2_with fail
  refine bodyPost_ret (v := .agg #[.int .u8 v.1, .int .u16 v.2]) (by simp [results, Try.results40, go_sem, r0, r1, r2]) rfl ?_
  exact ⟨_, _, by rw [← Hv.out]; rfl, by rw [← Hv.out]; exact HW.out, HR.out _ _, (HT.out.set (p := ⟨w.heap.size, 0, none⟩) (.inr (Nat.le_refl _)) _).set (p := ⟨w.heap.size, 1, none⟩) (.inr (Nat.le_refl _)) _, fun k hk => by
    rcases HF.out k hk with h | h
    · exact .inl h
    · exact .inr (by have := Hsz.out; omega)⟩

set_option maxRecDepth 100000 in
set_option maxHeartbeats 2000000 in
theorem lines_Read_any (m : Mm) (a : Nat) (ha : a < 512) (hok : MmOk m) {w : World} {p qc cc ql cl : Nat} {lv : Value} {f1 f f2 : List Nat} {c1 c2 : List Value} (h : MemO w p m (a / 4 % 4) qc cc ql cl lv f1 f f2 c1 c2) :
    Calls Try.prog 30 #[.pointer (some ⟨p, 0, none⟩), .int .i64 a] w (LoadPost true m a w p qc cc ql cl f1 f f2 c1 c2) := by
  have HH := Lib.hid h
  have Hok := Lib.hid hok
  clear h hok
  go_enter Try.func30, Try.ntmps30
  go_wp2_with fail
  have hgr : w.grownBy (w.alloc (.cells #[.int .u8 0, .int .u16 0] 30)) none := grown_alloc (grown_refl _ _) _
  have hB : Bk (w.alloc (.cells #[.int .u8 0, .int .u16 0] 30)) w.heap.size 30 [.int .u8 0, .int .u16 0] := Bk.new
  have h1 := HH.out.grow hgr
  have hsz : (w.alloc (.cells #[.int .u8 0, .int .u16 0] 30)).heap.size = w.heap.size + 1 := by simp
  generalize w.alloc (.cells #[.int .u8 0, .int .u16 0] 30) = W at *
  refine (lines_Fetch_any m a ha Hok.out h1).mono ?_
  rintro e w1 ⟨lv1, g1, rfl, hM, hT, hf⟩
  obtain ⟨hw, hl4, b, c, rfl, hc4, hc5, hV, rfl⟩ := fetch_row Hok.out ha hM
  have hB1 := hB.keep (hT.block _ hB.hi (by
    have := HH.out.live qc (by simp)
    have := HH.out.live ql (by simp)
    omega))
  have r2 := hB1.hi
  have r0 := hB1.cell 0
  have r1 := hB1.cell 1
  have z0 := hB1.free 0
  have z1 := hB1.free 1
  simp only [List.getElem?_cons_zero, List.getElem?_cons_succ] at r0 r1
  have l2 : w1.cell? ⟨ql, a / 4 % 4 * 3 + 2, none⟩ = some (.slice (some ⟨b, 0, none⟩) 4 c) := by have := hM.lines.mid (j := 2) rfl; rwa [hM.hc1] at this
  obtain ⟨k0, k1⟩ := row_cell hV (j := a % 4) (by omega)
  have hcw : CelWf (loadM m a) := by
    unfold loadM
    rw [List.getD_eq_getElem?_getD, List.getElem?_eq_getElem (by omega)]
    exact hw _ (List.getElem_mem _)
  have e1 : (lnAt (fetchM m a) (a / 4 % 4)).cells.getD (a % 4) (0, 0) = loadM m a := rfl
  rw [e1] at k0 k1
  obtain ⟨v, hv⟩ : ∃ v, v = loadM m a := ⟨_, rfl⟩
  rw [← hv] at k0 k1 hcw
  have Hv := Lib.hid hv
  clear hv
  obtain ⟨j, hj⟩ : ∃ j, j = a % 4 := ⟨_, rfl⟩
  rw [← hj] at k0 k1 ⊢
  have hj1 : (a : Int) % 4 = (j : Int) := by omega
  have hj2 : (0 : Int) ≤ (j : Int) := by omega
  have hj3 : (j : Int) < 4 := by omega
  have hj4 : (j : Int).toNat = j := by omega
  have Hj := Lib.hid hj
  clear hj
  have hR : ∀ x y, MemO ((w1.setCell ⟨w.heap.size, 0, none⟩ x).setCell ⟨w.heap.size, 1, none⟩ y) p (fetchM m a) (a / 4 % 4) qc cc ql cl (.slice (some ⟨b, 0, none⟩) 4 c) f1 [b] f2 c1 c2 := fun x y => hM.keep fun k hk => by
    have hne : k ≠ w.heap.size := by
      intro e
      subst e
      have hlo := HH.out.live
      simp only [List.mem_cons, List.mem_append, List.not_mem_nil, or_false] at hk
      rcases hk with h | h | h | (h | h) | h
      · have := hlo p (by simp); omega
      · have := hlo qc (by simp); omega
      · have := hlo ql (by simp); omega
      · have := hlo w.heap.size (by simp [h]); omega
      · rcases hf _ (List.mem_singleton.2 h) with h' | h'
        · have := hlo w.heap.size (by simp [h']); omega
        · omega
      · have := hlo w.heap.size (by simp [h]); omega
    rw [heap_setCell_other _ _ _ _ hne, heap_setCell_other _ _ _ _ hne]
  have HR := Lib.hid hR
  have HT := Lib.hid ((Turns.of_grown hgr).trans hT)
  have HF := Lib.hid hf
  have HW := Lib.hid hcw
  have Hsz := Lib.hid hsz
  clear hR hT hf hcw hsz hV hM hgr hB hB1 h1 hw e1
  go_wp2_with fail
  refine bodyPost_ret (v := .tuple #[.agg #[.int .u8 v.1, .int .u16 v.2], .bool true]) (by simp [results, Try.results30, go_sem, r0, r1, r2]) rfl ?_
  exact ⟨_, _, by rw [← Hv.out]; rfl, by rw [← Hv.out]; exact HW.out, HR.out _ _, (HT.out.set (p := ⟨w.heap.size, 0, none⟩) (.inr (Nat.le_refl _)) _).set (p := ⟨w.heap.size, 1, none⟩) (.inr (Nat.le_refl _)) _, fun k hk => by
    rcases HF.out k hk with h | h
    · exact .inl h
    · exact .inr (by have := Hsz.out; omega)⟩


def StorePost (r : Value) (m : Mm) (a : Nat) (v : Cel) (w : World) (p qc cc ql cl : Nat) (f1 f f2 : List Nat) (c1 c2 : List Value) (e : Ending) (w' : World) : Prop :=
  ∃ lv' f', e = .returned r ∧ MemO w' p (storeM m a v) (a / 4 % 4) qc cc ql cl lv' f1 f' f2 c1 c2 ∧ Turns (fun k => k = qc ∨ k = ql ∨ k ∈ f) w w' ∧ ∀ k, k ∈ f' → k ∈ f ∨ w.heap.size ≤ k
theorem storeM_eq {m : Mm} {a i : Nat} (hi : i = a / 4 % 4) (v : Cel) (ht : (lnAt (fetchM m a) i).tag = (a / 4 : Nat)) : storeM m a v = setLn (fetchM m a) i ⟨(lnAt (fetchM m a) i).tag, true, (lnAt (fetchM m a) i).cells.set (a % 4) v⟩ := by
  subst hi
  unfold storeM setLn
  rw [ht]
/-- A cell of a list in a block of its own, stored. -/
theorem own_put {w : World} {b c : Nat} {xs : List Cel} (hl : xs.length ≤ c) (hc : c ≤ 9223372036854775807) (hb : xs.length ≤ 1099511627776) (hV : VBuf 30 w b (c * 2) (celsV xs)) (hw : ∀ x ∈ xs, CelWf x) {j : Nat} (hj : j < xs.length) {v : Cel} (hv : CelWf v) :
    OSl rCell 30 ((w.setCell ⟨b, j * 2, none⟩ (.int .u8 v.1)).setCell ⟨b, j * 2 + 1, none⟩ (.int .u16 v.2)) [b] (xs.set j v) (.slice (some ⟨b, 0, none⟩) xs.length c) := by
  have hl2 := celsV_len xs
  have g1 := hV.set (j := j * 2) (.int .u8 v.1) (by omega)
  have g2 := g1.set (j := j * 2 + 1) (.int .u16 v.2) (by rw [List.length_set]; omega)
  rw [← celsV_set] at g2
  refine ⟨by simpa using hb, .inr ⟨b, c, celsV (xs.set j v), [], by simp, rfl, by simpa using hl, hc, g2, cells_own _ fun x hx => ?_⟩⟩
  rcases List.mem_or_eq_of_mem_set hx with hx | rfl
  · exact hw x hx
  · exact hv

/-- The line in hand, its mark and its cells as the region has them so far. -/
def StW (m : Mm) (a i : Nat) (v : Cel) (p qc cc ql cl b c : Nat) (f1 f2 : List Nat) (c1 c2 : List Value) (d s : Bool) (w : World) : Prop :=
  MemO w p (setLn (fetchM m a) i ⟨(lnAt (fetchM m a) i).tag, d, if s = true then (lnAt (fetchM m a) i).cells.set (a % 4) v else (lnAt (fetchM m a) i).cells⟩) i qc cc ql cl (.slice (some ⟨b, 0, none⟩) 4 c) f1 [b] f2 c1 c2
section
variable {m : Mm} {a i : Nat} {v : Cel} {p qc cc ql cl b c : Nat} {f1 f2 : List Nat} {c1 c2 : List Value} {d s : Bool} {w w' : World}
theorem StW.mark (hl : (fetchM m a).lines.length = 4) (h : StW m a i v p qc cc ql cl b c f1 f2 c1 c2 d s w) : w.cell? ⟨ql, i * 3 + 1, none⟩ = some (.bool d) := by
  have := h.lines.mid (j := 1) rfl
  rw [h.hc1, lnAt_setLn hl h.hi] at this
  exact this
theorem StW.row (hl : (fetchM m a).lines.length = 4) (h4 : (lnAt (fetchM m a) i).cells.length = 4) (h : StW m a i v p qc cc ql cl b c f1 f2 c1 c2 d s w) : ∃ xs, xs.length = 4 ∧ (∀ x ∈ xs, CelWf x) ∧ VBuf 30 w b (c * 2) (celsV xs) ∧ xs.set (a % 4) v = (lnAt (fetchM m a) i).cells.set (a % 4) v ∧
    StW m a i v p qc cc ql cl b c f1 f2 c1 c2 d s w ∧ 4 ≤ c ∧ c ≤ 9223372036854775807 := by
  obtain ⟨g1, g2⟩ := ok_row h
  rw [lnAt_setLn hl h.hi] at g1 g2
  have hx : (if s = true then (lnAt (fetchM m a) i).cells.set (a % 4) v else (lnAt (fetchM m a) i).cells).length = 4 := by split <;> simp [h4]
  obtain ⟨b', c', e, h1, h2, h3, _⟩ := g2 hx
  cases e
  refine ⟨_, hx, g1, h3, ?_, h, h1, h2⟩
  split
  · rw [List.set_set]
  · rfl
theorem StW.put (hl : (fetchM m a).lines.length = 4) (h4 : (lnAt (fetchM m a) i).cells.length = 4) (hv : CelWf v) (h : StW m a i v p qc cc ql cl b c f1 f2 c1 c2 d s w) :
    StW m a i v p qc cc ql cl b c f1 f2 c1 c2 d true ((w.setCell ⟨b, a % 4 * 2, none⟩ (.int .u8 v.1)).setCell ⟨b, a % 4 * 2 + 1, none⟩ (.int .u16 v.2)) := by
  obtain ⟨xs, hx, hw, hV, he, _, hc4, hc5⟩ := h.row hl h4
  have ho := own_put (c := c) (j := a % 4) (by omega) hc5 (by omega) hV hw (by omega) hv
  rw [hx] at ho
  have := h.lineCells (w' := (w.setCell ⟨b, a % 4 * 2, none⟩ (.int .u8 v.1)).setCell ⟨b, a % 4 * 2 + 1, none⟩ (.int .u16 v.2)) (fun k hk => by
    have hk : k ≠ b := by simpa using hk
    rw [heap_setCell_other _ _ _ _ hk, heap_setCell_other _ _ _ _ hk]) ho
  rw [setLn_setLn, lnAt_setLn hl h.hi, he] at this
  exact this
theorem StW.set (hl : (fetchM m a).lines.length = 4) (h : StW m a i v p qc cc ql cl b c f1 f2 c1 c2 d s w) :
    StW m a i v p qc cc ql cl b c f1 f2 c1 c2 true s (w.setCell ⟨ql, i * 3 + 1, none⟩ (.bool true)) := by
  have := h.setDirty true
  rw [setLn_setLn, lnAt_setLn hl h.hi] at this
  exact this
end

set_option maxRecDepth 100000 in
set_option maxHeartbeats 2000000 in
theorem ref05_Store_any (m : Mm) (a : Nat) (v : Cel) (hv : CelWf v) (ha : a < 512) (hok : MmOk m) {w : World} {p qc cc ql cl : Nat} {lv : Value} {f1 f f2 : List Nat} {c1 c2 : List Value} (h : MemO w p m (a / 4 % 4) qc cc ql cl lv f1 f f2 c1 c2) :
    Calls Try.prog 44 #[.pointer (some ⟨p, 0, none⟩), .int .i64 a, .agg #[.int .u8 v.1, .int .u16 v.2]] w (StorePost (.tuple #[]) m a v w p qc cc ql cl f1 f f2 c1 c2) := by
  have HH := Lib.hid h
  have Hok := Lib.hid hok
  have Hv := Lib.hid hv
  clear h hok hv
  go_enter Try.func44, Try.ntmps44
  go_wp2_with fail
  have hgr : w.grownBy (w.alloc (.cells #[.int .u8 v.1, .int .u16 v.2] 30)) none := grown_alloc (grown_refl _ _) _
  have hB : Bk (w.alloc (.cells #[.int .u8 v.1, .int .u16 v.2] 30)) w.heap.size 30 [.int .u8 v.1, .int .u16 v.2] := Bk.new
  have h1 := HH.out.grow hgr
  have hsz : (w.alloc (.cells #[.int .u8 v.1, .int .u16 v.2] 30)).heap.size = w.heap.size + 1 := by simp
  generalize w.alloc (.cells #[.int .u8 v.1, .int .u16 v.2] 30) = W at *
  refine (ref05_Fetch_any m a ha Hok.out h1).mono ?_
  rintro e w1 ⟨lv1, g1, rfl, hM, hT, hf⟩
  obtain ⟨hw, hl4, b, c, rfl, hc4, hc5, hV, rfl⟩ := fetch_row Hok.out ha hM
  have hB1 := hB.keep (hT.block _ hB.hi (by
    have := HH.out.live qc (by simp)
    have := HH.out.live ql (by simp)
    omega))
  have HBx := Lib.hid hB1
  have Hql := Lib.hid (show ql ≠ w.heap.size from by have := HH.out.live ql (by simp); omega)
  have r0 := hB1.cell 0
  have r1 := hB1.cell 1
  simp only [List.getElem?_cons_zero, List.getElem?_cons_succ] at r0 r1
  have htag := fetch_at Hok.out a
  obtain ⟨i, hi⟩ : ∃ i, i = a / 4 % 4 := ⟨_, rfl⟩
  rw [← hi] at hM hw hl4 hV htag ⊢
  have l1 : w1.cell? ⟨ql, i * 3 + 1, none⟩ = some (.bool (lnAt (fetchM m a) i).dirty) := by have := hM.lines.mid (j := 1) rfl; rwa [hM.hc1] at this
  have l2 : w1.cell? ⟨ql, i * 3 + 2, none⟩ = some (.slice (some ⟨b, 0, none⟩) 4 c) := by have := hM.lines.mid (j := 2) rfl; rwa [hM.hc1] at this
  have y1 := hM.lines.free (i * 3 + 1)
  obtain ⟨j, hj⟩ : ∃ j, j = a % 4 := ⟨_, rfl⟩
  have hj4' : j < 4 := by omega
  obtain ⟨k0, k1⟩ := row_cell hV (j := j) (by omega)
  have z0 := hV.free (j * 2)
  have z1 := hV.free (j * 2 + 1)
  have hj1 : (a : Int) % 4 = (j : Int) := by omega
  have hj2 : (0 : Int) ≤ (j : Int) := by omega
  have hj3 : (j : Int) < 4 := by omega
  have hj4 : (j : Int).toNat = j := by omega
  obtain ⟨n1, n2, n3, n4⟩ := hM.ne
  have nb : ql ≠ b := fun e => (n4 b (by simp)).2.2 e.symm
  have nb' : b ≠ ql := fun e => nb e.symm
  have hbb : b ≠ w.heap.size := fun e => by
    rcases hf _ (List.mem_singleton.2 rfl) with h' | h'
    · have := HH.out.live b (by simp [h']); omega
    · omega
  have HM := Lib.hid hM
  have HT := Lib.hid ((Turns.of_grown hgr).trans hT)
  have HF := Lib.hid hf
  have Hsz := Lib.hid hsz
  have HV := Lib.hid hV
  have HW := Lib.hid hw
  have H4 := Lib.hid hl4
  have Htag := Lib.hid htag
  have Hi := Lib.hid hi
  have Hj := Lib.hid hj
  clear hM hT hf hsz hV hw hl4 hi hj hgr hB hB1 h1 n4 htag
  go_wp2_with fail
  have hjt : (a : Int).tmod 4 = (j : Int) := by rw [Int.tmod_eq_emod_of_nonneg (by omega)]; exact hj1
  have Hfl := Lib.hid (fetch_lines_len Hok.out a)
  have Hq := Lib.hid (show p ≠ ql ∧ qc ≠ ql ∧ b ≠ ql from ⟨n2, n3, nb'⟩)
  obtain ⟨D1, hD1⟩ : ∃ D : World → Prop, D = fun w' => ∃ d, StW m a i v p qc cc ql cl b c f1 f2 c1 c2 d true w' := ⟨_, rfl⟩
  obtain ⟨D2, hD2⟩ : ∃ D : World → Prop, D = fun w' => ∃ s, StW m a i v p qc cc ql cl b c f1 f2 c1 c2 true s w' := ⟨_, rfl⟩
  obtain ⟨D0, hD0⟩ : ∃ D : World → Prop, D = fun w' => ∃ d s, StW m a i v p qc cc ql cl b c f1 f2 c1 c2 d s w' := ⟨_, rfl⟩
  have HD0 := Lib.hid hD0
  have HD1 := Lib.hid hD1
  have HD2 := Lib.hid hD2
  clear hD0 hD1 hD2
  refine wp_region_rely (fun w' => Turns (fun k => k = qc ∨ k = ql ∨ k ∈ f) w w' ∧ RK (fun k => k = b ∨ k = ql) w1 w' ∧ D0 w') (fun w w' => RK (fun k => k = b ∨ k = ql) w w' ∧ (D1 w → D1 w') ∧ (D2 w → D2 w'))
    [SVal (.pointer (some ⟨ql, i * 3, none⟩)), SVal (.pointer (some ⟨ql, i * 3, none⟩)), SVal (.pointer (some ⟨ql, i * 3 + 2, none⟩)), SVal (.slice (some ⟨b, 0, none⟩) 4 c), SVal (.int .i64 a), SVal (.int .i64 j), SVal (.pointer (some ⟨ql, i * 3, none⟩)), SVal (.agg #[.int .u8 v.1, .int .u16 v.2]), SVal (.pointer (some ⟨b, j * 2, none⟩)), fun _ w' => D1 w', SVal (.pointer (some ⟨ql, i * 3, none⟩)), SVal (.pointer (some ⟨ql, i * 3 + 1, none⟩)), fun _ w' => D2 w']
    21 (by kernel_rfl) rfl (by kernel_rfl) ⟨HT.out.drew.sub fun k hk => by rcases hk with h | h; exact .inl h; exact .inr (.inl h), ⟨Nat.le_refl _, fun _ _ _ => rfl⟩, by rw [HD0.out]; exact ⟨(lnAt (fetchM m a) i).dirty, false, by unfold StW; rw [if_neg (by decide), setLn_self Hfl.out HM.out.hi]; exact HM.out.keep fun _ _ => rfl⟩⟩ (fun _ => ⟨RK.refl _ _, id, id⟩) ?_ ?_ ?_
  · exact ⟨SVal.kept, SVal.kept, SVal.kept, SVal.kept, SVal.kept, SVal.kept, SVal.kept, SVal.kept, SVal.kept, fun _ _ _ hr h => hr.2.1 h, SVal.kept, SVal.kept, fun _ _ _ hr h => hr.2.2 h, trivial⟩
  · refine duties_cons ?_ (duties_cons ?_ (duties_cons ?_ (duties_cons ?_ (duties_cons ?_ (duties_cons ?_ (duties_cons ?_ (duties_cons ?_ (duties_cons ?_ (duties_cons ?_ (duties_cons ?_ (duties_cons ?_ (duties_cons ?_ duties_nil))))))))))))
    · refine duty_plain rfl fun f w2 hb H => ?_
      have e6 : f 6 = _ := H 6 (by decide)
      clear H
      have HB := Lib.hid hb; clear hb
      go_simp
      exact ⟨HB.out, ⟨RK.refl _ _, id, id⟩, rfl⟩
    · refine duty_plain rfl fun f w2 hb H => ?_
      have e10 : f 10 = _ := H 10 (by decide)
      clear H
      have HB := Lib.hid hb; clear hb
      go_simp
      exact ⟨HB.out, ⟨RK.refl _ _, id, id⟩, rfl⟩
    · refine duty_plain rfl fun f w2 hb H => ?_
      have e11 : f 11 = _ := H 11 (by decide)
      clear H
      have HB := Lib.hid hb; clear hb
      go_simp
      exact ⟨HB.out, ⟨RK.refl _ _, id, id⟩, rfl⟩
    · refine duty_plain rfl fun f w2 hb H => ?_
      have e12 : f 12 = _ := H 12 (by decide)
      clear H
      obtain ⟨hb1, hb2, hS0⟩ := hb
      have hS0c := hS0
      rw [HD0.out] at hS0c
      obtain ⟨d, s, hS⟩ := hS0c
      have l2 : w2.cell? ⟨ql, i * 3 + 2, none⟩ = some (.slice (some ⟨b, 0, none⟩) 4 c) := by have := hS.lines.mid (j := 2) rfl; rwa [hS.hc1] at this
      have HB := Lib.hid hb1; have HB2 := Lib.hid hb2; have H0 := Lib.hid hS0
      clear hb1 hb2 hS hS0
      go_simp
      exact ⟨⟨HB.out, HB2.out, H0.out⟩, ⟨RK.refl _ _, id, id⟩, rfl⟩
    · refine duty_plain rfl fun f w2 hb H => ?_
      have e1 : f 1 = _ := H 1 (by decide)
      clear H
      have HB := Lib.hid hb; clear hb
      go_simp
      exact ⟨HB.out, ⟨RK.refl _ _, id, id⟩, rfl⟩
    · refine duty_plain rfl fun f w2 hb H => ?_
      have e14 : f 14 = _ := H 14 (by decide)
      clear H
      have HB := Lib.hid hb; clear hb
      go_simp
      exact ⟨HB.out, ⟨RK.refl _ _, id, id⟩, rfl⟩
    · refine duty_plain rfl fun f w2 hb H => ?_
      have e6 : f 6 = _ := H 6 (by decide)
      clear H
      have HB := Lib.hid hb; clear hb
      go_simp
      exact ⟨HB.out, ⟨RK.refl _ _, id, id⟩, rfl⟩
    · refine duty_plain rfl fun f w2 hb H => ?_
      have e5 : f 5 = _ := H 5 (by decide)
      clear H
      have r0 := (HBx.out.keep (hb.2.1.2 _ HBx.out.hi (by rintro (e | e); exact hbb e.symm; exact Hql.out e.symm))).cell 0
      have r1 := (HBx.out.keep (hb.2.1.2 _ HBx.out.hi (by rintro (e | e); exact hbb e.symm; exact Hql.out e.symm))).cell 1
      simp only [List.getElem?_cons_zero, List.getElem?_cons_succ] at r0 r1
      have HB := Lib.hid hb; clear hb
      go_simp
      exact ⟨HB.out, ⟨RK.refl _ _, id, id⟩, rfl⟩
    · refine duty_plain rfl fun f w2 hb H => ?_
      have e13 : f 13 = _ := H 13 (by decide)
      have e15 : f 15 = _ := H 15 (by decide)
      clear H
      have HB := Lib.hid hb; clear hb
      go_simp
      exact ⟨HB.out, ⟨RK.refl _ _, id, id⟩, rfl⟩
    · refine duty_plain rfl fun f w2 hb H => ?_
      have e17 : f 17 = _ := H 17 (by decide)
      have e18 : f 18 = _ := H 18 (by decide)
      clear H
      obtain ⟨hb1, hb2, hS0⟩ := hb
      have hS0c := hS0
      rw [HD0.out] at hS0c
      obtain ⟨d, s, hS⟩ := hS0c
      obtain ⟨xs, hx, _, hV2, _, _, _, _⟩ := hS.row Hfl.out H4.out
      obtain ⟨k0, k1⟩ := row_cell hV2 (j := j) (by omega)
      have z0 := hV2.free (j * 2)
      have z1 := hV2.free (j * 2 + 1)
      have hP := hS.put Hfl.out H4.out Hv.out
      have hmk := hS.mark Hfl.out
      rw [← Hj.out] at hP
      have HP := Lib.hid hP; have HB := Lib.hid hb1; have HB2 := Lib.hid hb2; have HS := Lib.hid hS; have HMK := Lib.hid hmk
      clear hP hb1 hb2 hS hS0 hV2 hmk
      go_simp
      refine ⟨⟨(HB.out.set (p := ⟨b, j * 2, none⟩) (by rcases HF.out b (by simp) with h | h; exact .inl (.inr (.inr h)); exact .inr (by have := Hsz.out; show w.heap.size ≤ b; omega)) _).set (p := ⟨b, j * 2 + 1, none⟩) (by rcases HF.out b (by simp) with h | h; exact .inl (.inr (.inr h)); exact .inr (by have := Hsz.out; show w.heap.size ≤ b; omega)) _, RK.set (X := fun k => k = b ∨ k = ql) (p := ⟨b, j * 2 + 1, none⟩) (RK.set (X := fun k => k = b ∨ k = ql) (p := ⟨b, j * 2, none⟩) HB2.out (.inl rfl) _) (.inl rfl) _, by rw [HD0.out]; exact ⟨d, true, HP.out⟩⟩, ⟨RK.set (X := fun k => k = b ∨ k = ql) (p := ⟨b, j * 2 + 1, none⟩) (RK.set (X := fun k => k = b ∨ k = ql) (p := ⟨b, j * 2, none⟩) (RK.refl _ _) (.inl rfl) _) (.inl rfl) _, fun _ => ?_, fun h => ?_⟩, ?_⟩
      · rw [HD1.out]; exact ⟨d, HP.out⟩
      · rw [HD2.out] at h ⊢
        obtain ⟨s', h⟩ := h
        have e := (h.mark Hfl.out).symm.trans HMK.out
        injection e with e; injection e with e; subst e
        exact ⟨true, HP.out⟩
      · show D1 _
        rw [HD1.out]; exact ⟨d, HP.out⟩
    · refine duty_plain rfl fun f w2 hb H => ?_
      have e16 : f 16 = _ := H 16 (by decide)
      clear H
      have HB := Lib.hid hb; clear hb
      go_simp
      exact ⟨HB.out, ⟨RK.refl _ _, id, id⟩, rfl⟩
    · refine duty_plain rfl fun f w2 hb H => ?_
      have e19 : f 19 = _ := H 19 (by decide)
      clear H
      have HB := Lib.hid hb; clear hb
      go_simp
      exact ⟨HB.out, ⟨RK.refl _ _, id, id⟩, rfl⟩
    · refine duty_plain rfl fun f w2 hb H => ?_
      have e20 : f 20 = _ := H 20 (by decide)
      clear H
      obtain ⟨hb1, hb2, hS0⟩ := hb
      have hS0c := hS0
      rw [HD0.out] at hS0c
      obtain ⟨d, s, hS⟩ := hS0c
      have hmk := hS.mark Hfl.out
      have y1 := hS.lines.free (i * 3 + 1)
      have hP := hS.set Hfl.out
      have HP := Lib.hid hP; have HB := Lib.hid hb1; have HB2 := Lib.hid hb2; have HS := Lib.hid hS
      clear hP hb1 hb2 hS hS0
      go_simp
      refine ⟨⟨HB.out.set (p := ⟨ql, i * 3 + 1, none⟩) (.inl (.inr (.inl rfl))) _, RK.set (X := fun k => k = b ∨ k = ql) (p := ⟨ql, i * 3 + 1, none⟩) HB2.out (.inr rfl) _, by rw [HD0.out]; exact ⟨true, s, HP.out⟩⟩, ⟨RK.set (X := fun k => k = b ∨ k = ql) (p := ⟨ql, i * 3 + 1, none⟩) (RK.refl _ _) (.inr rfl) _, fun h => ?_, fun _ => ?_⟩, ?_⟩
      · rw [HD1.out] at h ⊢
        obtain ⟨d', h⟩ := h
        exact ⟨true, h.set Hfl.out⟩
      · rw [HD2.out]; exact ⟨s, HP.out⟩
      · show D2 _
        rw [HD2.out]; exact ⟨s, HP.out⟩
  · intro f w9 hb hE
    simp only [putAll, Act.put, slotV, List.setIfInBounds_toArray, List.set_cons_succ, List.set_cons_zero]
    have hD1 : D1 w9 := hE.2.2.2.2.2.2.2.2.2.1
    have hD2 : D2 w9 := hE.2.2.2.2.2.2.2.2.2.2.2.2.1
    clear hE
    rw [HD1.out] at hD1
    rw [HD2.out] at hD2
    obtain ⟨d, h1⟩ := hD1
    obtain ⟨s, h2⟩ := hD2
    have e := (h1.mark Hfl.out).symm.trans (h2.mark Hfl.out)
    injection e with e; injection e with e; subst e
    have hst : StW m a i v p qc cc ql cl b c f1 f2 c1 c2 true true w9 := h1
    unfold StW at hst
    rw [if_pos rfl, ← storeM_eq Hi.out v Htag.out] at hst
    have HS := Lib.hid hst; have HB := Lib.hid hb.1
    clear hst h1 h2 hb
    go_wp2_with fail
    go_end0
    exact ⟨_, _, rfl, by rw [← Hi.out]; exact HS.out, HB.out, fun k hk => by
      rcases HF.out k hk with h | h
      · exact .inl h
      · exact .inr (by have := Hsz.out; omega)⟩

set_option maxRecDepth 100000 in
set_option maxHeartbeats 2000000 in
theorem lines_Write_any (m : Mm) (a : Nat) (v : Cel) (hv : CelWf v) (ha : a < 512) (hok : MmOk m) {w : World} {p qc cc ql cl : Nat} {lv : Value} {f1 f f2 : List Nat} {c1 c2 : List Value} (h : MemO w p m (a / 4 % 4) qc cc ql cl lv f1 f f2 c1 c2) :
    Calls Try.prog 34 #[.pointer (some ⟨p, 0, none⟩), .int .i64 a, .agg #[.int .u8 v.1, .int .u16 v.2]] w (StorePost (.bool true) m a v w p qc cc ql cl f1 f f2 c1 c2) := by
  have HH := Lib.hid h
  have Hok := Lib.hid hok
  have Hv := Lib.hid hv
  clear h hok hv
  go_enter Try.func34, Try.ntmps34
  go_wp2_with fail
  have hgr : w.grownBy (w.alloc (.cells #[.int .u8 v.1, .int .u16 v.2] 30)) none := grown_alloc (grown_refl _ _) _
  have hB : Bk (w.alloc (.cells #[.int .u8 v.1, .int .u16 v.2] 30)) w.heap.size 30 [.int .u8 v.1, .int .u16 v.2] := Bk.new
  have h1 := HH.out.grow hgr
  have hsz : (w.alloc (.cells #[.int .u8 v.1, .int .u16 v.2] 30)).heap.size = w.heap.size + 1 := by simp
  generalize w.alloc (.cells #[.int .u8 v.1, .int .u16 v.2] 30) = W at *
  refine (lines_Fetch_any m a ha Hok.out h1).mono ?_
  rintro e w1 ⟨lv1, g1, rfl, hM, hT, hf⟩
  obtain ⟨hw, hl4, b, c, rfl, hc4, hc5, hV, rfl⟩ := fetch_row Hok.out ha hM
  have hB1 := hB.keep (hT.block _ hB.hi (by
    have := HH.out.live qc (by simp)
    have := HH.out.live ql (by simp)
    omega))
  have HBx := Lib.hid hB1
  have Hql := Lib.hid (show ql ≠ w.heap.size from by have := HH.out.live ql (by simp); omega)
  have r0 := hB1.cell 0
  have r1 := hB1.cell 1
  simp only [List.getElem?_cons_zero, List.getElem?_cons_succ] at r0 r1
  have htag := fetch_at Hok.out a
  obtain ⟨i, hi⟩ : ∃ i, i = a / 4 % 4 := ⟨_, rfl⟩
  rw [← hi] at hM hw hl4 hV htag ⊢
  have l1 : w1.cell? ⟨ql, i * 3 + 1, none⟩ = some (.bool (lnAt (fetchM m a) i).dirty) := by have := hM.lines.mid (j := 1) rfl; rwa [hM.hc1] at this
  have l2 : w1.cell? ⟨ql, i * 3 + 2, none⟩ = some (.slice (some ⟨b, 0, none⟩) 4 c) := by have := hM.lines.mid (j := 2) rfl; rwa [hM.hc1] at this
  have y1 := hM.lines.free (i * 3 + 1)
  obtain ⟨j, hj⟩ : ∃ j, j = a % 4 := ⟨_, rfl⟩
  rw [← hj]
  have hj4' : j < 4 := by omega
  obtain ⟨k0, k1⟩ := row_cell hV (j := j) (by omega)
  have z0 := hV.free (j * 2)
  have z1 := hV.free (j * 2 + 1)
  have hj1 : (a : Int) % 4 = (j : Int) := by omega
  have hj2 : (0 : Int) ≤ (j : Int) := by omega
  have hj3 : (j : Int) < 4 := by omega
  have hj4 : (j : Int).toNat = j := by omega
  obtain ⟨n1, n2, n3, n4⟩ := hM.ne
  have nb : ql ≠ b := fun e => (n4 b (by simp)).2.2 e.symm
  have nb' : b ≠ ql := fun e => nb e.symm
  have hbb : b ≠ w.heap.size := fun e => by
    rcases hf _ (List.mem_singleton.2 rfl) with h' | h'
    · have := HH.out.live b (by simp [h']); omega
    · omega
  have HM := Lib.hid hM
  have HT := Lib.hid ((Turns.of_grown hgr).trans hT)
  have HF := Lib.hid hf
  have Hsz := Lib.hid hsz
  have HV := Lib.hid hV
  have HW := Lib.hid hw
  have H4 := Lib.hid hl4
  have Htag := Lib.hid htag
  have Hi := Lib.hid hi
  have Hj := Lib.hid hj
  clear hM hT hf hsz hV hw hl4 hi hj hgr hB hB1 h1 n4 htag
  go_wp2_with fail
  have hjt : (a : Int).tmod 4 = (j : Int) := by rw [Int.tmod_eq_emod_of_nonneg (by omega)]; exact hj1
  have Hfl := Lib.hid (fetch_lines_len Hok.out a)
  have Hq := Lib.hid (show p ≠ ql ∧ qc ≠ ql ∧ b ≠ ql from ⟨n2, n3, nb'⟩)
  obtain ⟨D1, hD1⟩ : ∃ D : World → Prop, D = fun w' => ∃ d, StW m a i v p qc cc ql cl b c f1 f2 c1 c2 d true w' := ⟨_, rfl⟩
  obtain ⟨D2, hD2⟩ : ∃ D : World → Prop, D = fun w' => ∃ s, StW m a i v p qc cc ql cl b c f1 f2 c1 c2 true s w' := ⟨_, rfl⟩
  obtain ⟨D0, hD0⟩ : ∃ D : World → Prop, D = fun w' => ∃ d s, StW m a i v p qc cc ql cl b c f1 f2 c1 c2 d s w' := ⟨_, rfl⟩
  have HD0 := Lib.hid hD0
  have HD1 := Lib.hid hD1
  have HD2 := Lib.hid hD2
  clear hD0 hD1 hD2
  refine wp_region_rely (fun w' => Turns (fun k => k = qc ∨ k = ql ∨ k ∈ f) w w' ∧ RK (fun k => k = b ∨ k = ql) w1 w' ∧ D0 w') (fun w w' => RK (fun k => k = b ∨ k = ql) w w' ∧ (D1 w → D1 w') ∧ (D2 w → D2 w'))
    [SVal (.pointer (some ⟨ql, i * 3, none⟩)), SVal (.pointer (some ⟨ql, i * 3, none⟩)), SVal (.pointer (some ⟨ql, i * 3 + 2, none⟩)), SVal (.slice (some ⟨b, 0, none⟩) 4 c), SVal (.int .i64 j), SVal (.pointer (some ⟨ql, i * 3, none⟩)), SVal (.agg #[.int .u8 v.1, .int .u16 v.2]), SVal (.pointer (some ⟨b, j * 2, none⟩)), fun _ w' => D1 w', SVal (.pointer (some ⟨ql, i * 3, none⟩)), SVal (.pointer (some ⟨ql, i * 3 + 1, none⟩)), fun _ w' => D2 w']
    29 (by kernel_rfl) rfl (by kernel_rfl) ⟨HT.out.drew.sub fun k hk => by rcases hk with h | h; exact .inl h; exact .inr (.inl h), ⟨Nat.le_refl _, fun _ _ _ => rfl⟩, by rw [HD0.out]; exact ⟨(lnAt (fetchM m a) i).dirty, false, by unfold StW; rw [if_neg (by decide), setLn_self Hfl.out HM.out.hi]; exact HM.out.keep fun _ _ => rfl⟩⟩ (fun _ => ⟨RK.refl _ _, id, id⟩) ?_ ?_ ?_
  · exact ⟨SVal.kept, SVal.kept, SVal.kept, SVal.kept, SVal.kept, SVal.kept, SVal.kept, SVal.kept, fun _ _ _ hr h => hr.2.1 h, SVal.kept, SVal.kept, fun _ _ _ hr h => hr.2.2 h, trivial⟩
  · refine duties_cons ?_ (duties_cons ?_ (duties_cons ?_ (duties_cons ?_ (duties_cons ?_ (duties_cons ?_ (duties_cons ?_ (duties_cons ?_ (duties_cons ?_ (duties_cons ?_ (duties_cons ?_ (duties_cons ?_ duties_nil)))))))))))
    · refine duty_plain rfl fun f w2 hb H => ?_
      have e7 : f 7 = _ := H 7 (by decide)
      clear H
      have HB := Lib.hid hb; clear hb
      go_simp
      exact ⟨HB.out, ⟨RK.refl _ _, id, id⟩, rfl⟩
    · refine duty_plain rfl fun f w2 hb H => ?_
      have e18 : f 18 = _ := H 18 (by decide)
      clear H
      have HB := Lib.hid hb; clear hb
      go_simp
      exact ⟨HB.out, ⟨RK.refl _ _, id, id⟩, rfl⟩
    · refine duty_plain rfl fun f w2 hb H => ?_
      have e19 : f 19 = _ := H 19 (by decide)
      clear H
      have HB := Lib.hid hb; clear hb
      go_simp
      exact ⟨HB.out, ⟨RK.refl _ _, id, id⟩, rfl⟩
    · refine duty_plain rfl fun f w2 hb H => ?_
      have e20 : f 20 = _ := H 20 (by decide)
      clear H
      obtain ⟨hb1, hb2, hS0⟩ := hb
      have hS0c := hS0
      rw [HD0.out] at hS0c
      obtain ⟨d, s, hS⟩ := hS0c
      have l2 : w2.cell? ⟨ql, i * 3 + 2, none⟩ = some (.slice (some ⟨b, 0, none⟩) 4 c) := by have := hS.lines.mid (j := 2) rfl; rwa [hS.hc1] at this
      have HB := Lib.hid hb1; have HB2 := Lib.hid hb2; have H0 := Lib.hid hS0
      clear hb1 hb2 hS hS0
      go_simp
      exact ⟨⟨HB.out, HB2.out, H0.out⟩, ⟨RK.refl _ _, id, id⟩, rfl⟩
    · refine duty_plain rfl fun f w2 hb H => ?_
      have e8 : f 8 = _ := H 8 (by decide)
      clear H
      have HB := Lib.hid hb; clear hb
      go_simp
      exact ⟨HB.out, ⟨RK.refl _ _, id, id⟩, rfl⟩
    · refine duty_plain rfl fun f w2 hb H => ?_
      have e7 : f 7 = _ := H 7 (by decide)
      clear H
      have HB := Lib.hid hb; clear hb
      go_simp
      exact ⟨HB.out, ⟨RK.refl _ _, id, id⟩, rfl⟩
    · refine duty_plain rfl fun f w2 hb H => ?_
      have e5 : f 5 = _ := H 5 (by decide)
      clear H
      have r0 := (HBx.out.keep (hb.2.1.2 _ HBx.out.hi (by rintro (e | e); exact hbb e.symm; exact Hql.out e.symm))).cell 0
      have r1 := (HBx.out.keep (hb.2.1.2 _ HBx.out.hi (by rintro (e | e); exact hbb e.symm; exact Hql.out e.symm))).cell 1
      simp only [List.getElem?_cons_zero, List.getElem?_cons_succ] at r0 r1
      have HB := Lib.hid hb; clear hb
      go_simp
      exact ⟨HB.out, ⟨RK.refl _ _, id, id⟩, rfl⟩
    · refine duty_plain rfl fun f w2 hb H => ?_
      have e21 : f 21 = _ := H 21 (by decide)
      have e22 : f 22 = _ := H 22 (by decide)
      clear H
      have HB := Lib.hid hb; clear hb
      go_simp
      exact ⟨HB.out, ⟨RK.refl _ _, id, id⟩, rfl⟩
    · refine duty_plain rfl fun f w2 hb H => ?_
      have e24 : f 24 = _ := H 24 (by decide)
      have e25 : f 25 = _ := H 25 (by decide)
      clear H
      obtain ⟨hb1, hb2, hS0⟩ := hb
      have hS0c := hS0
      rw [HD0.out] at hS0c
      obtain ⟨d, s, hS⟩ := hS0c
      obtain ⟨xs, hx, _, hV2, _, _, _, _⟩ := hS.row Hfl.out H4.out
      obtain ⟨k0, k1⟩ := row_cell hV2 (j := j) (by omega)
      have z0 := hV2.free (j * 2)
      have z1 := hV2.free (j * 2 + 1)
      have hP := hS.put Hfl.out H4.out Hv.out
      have hmk := hS.mark Hfl.out
      rw [← Hj.out] at hP
      have HP := Lib.hid hP; have HB := Lib.hid hb1; have HB2 := Lib.hid hb2; have HS := Lib.hid hS; have HMK := Lib.hid hmk
      clear hP hb1 hb2 hS hS0 hV2 hmk
      go_simp
      refine ⟨⟨(HB.out.set (p := ⟨b, j * 2, none⟩) (by rcases HF.out b (by simp) with h | h; exact .inl (.inr (.inr h)); exact .inr (by have := Hsz.out; show w.heap.size ≤ b; omega)) _).set (p := ⟨b, j * 2 + 1, none⟩) (by rcases HF.out b (by simp) with h | h; exact .inl (.inr (.inr h)); exact .inr (by have := Hsz.out; show w.heap.size ≤ b; omega)) _, RK.set (X := fun k => k = b ∨ k = ql) (p := ⟨b, j * 2 + 1, none⟩) (RK.set (X := fun k => k = b ∨ k = ql) (p := ⟨b, j * 2, none⟩) HB2.out (.inl rfl) _) (.inl rfl) _, by rw [HD0.out]; exact ⟨d, true, HP.out⟩⟩, ⟨RK.set (X := fun k => k = b ∨ k = ql) (p := ⟨b, j * 2 + 1, none⟩) (RK.set (X := fun k => k = b ∨ k = ql) (p := ⟨b, j * 2, none⟩) (RK.refl _ _) (.inl rfl) _) (.inl rfl) _, fun _ => ?_, fun h => ?_⟩, ?_⟩
      · rw [HD1.out]; exact ⟨d, HP.out⟩
      · rw [HD2.out] at h ⊢
        obtain ⟨s', h⟩ := h
        have e := (h.mark Hfl.out).symm.trans HMK.out
        injection e with e; injection e with e; subst e
        exact ⟨true, HP.out⟩
      · show D1 _
        rw [HD1.out]; exact ⟨d, HP.out⟩
    · refine duty_plain rfl fun f w2 hb H => ?_
      have e23 : f 23 = _ := H 23 (by decide)
      clear H
      have HB := Lib.hid hb; clear hb
      go_simp
      exact ⟨HB.out, ⟨RK.refl _ _, id, id⟩, rfl⟩
    · refine duty_plain rfl fun f w2 hb H => ?_
      have e26 : f 26 = _ := H 26 (by decide)
      clear H
      have HB := Lib.hid hb; clear hb
      go_simp
      exact ⟨HB.out, ⟨RK.refl _ _, id, id⟩, rfl⟩
    · refine duty_plain rfl fun f w2 hb H => ?_
      have e27 : f 27 = _ := H 27 (by decide)
      clear H
      obtain ⟨hb1, hb2, hS0⟩ := hb
      have hS0c := hS0
      rw [HD0.out] at hS0c
      obtain ⟨d, s, hS⟩ := hS0c
      have hmk := hS.mark Hfl.out
      have y1 := hS.lines.free (i * 3 + 1)
      have hP := hS.set Hfl.out
      have HP := Lib.hid hP; have HB := Lib.hid hb1; have HB2 := Lib.hid hb2; have HS := Lib.hid hS
      clear hP hb1 hb2 hS hS0
      go_simp
      refine ⟨⟨HB.out.set (p := ⟨ql, i * 3 + 1, none⟩) (.inl (.inr (.inl rfl))) _, RK.set (X := fun k => k = b ∨ k = ql) (p := ⟨ql, i * 3 + 1, none⟩) HB2.out (.inr rfl) _, by rw [HD0.out]; exact ⟨true, s, HP.out⟩⟩, ⟨RK.set (X := fun k => k = b ∨ k = ql) (p := ⟨ql, i * 3 + 1, none⟩) (RK.refl _ _) (.inr rfl) _, fun h => ?_, fun _ => ?_⟩, ?_⟩
      · rw [HD1.out] at h ⊢
        obtain ⟨d', h⟩ := h
        exact ⟨true, h.set Hfl.out⟩
      · rw [HD2.out]; exact ⟨s, HP.out⟩
      · show D2 _
        rw [HD2.out]; exact ⟨s, HP.out⟩
  · intro f w9 hb hE
    simp only [putAll, Act.put, slotV, List.setIfInBounds_toArray, List.set_cons_succ, List.set_cons_zero]
    have hD1 : D1 w9 := hE.2.2.2.2.2.2.2.2.1
    have hD2 : D2 w9 := hE.2.2.2.2.2.2.2.2.2.2.2.1
    clear hE
    rw [HD1.out] at hD1
    rw [HD2.out] at hD2
    obtain ⟨d, h1⟩ := hD1
    obtain ⟨s, h2⟩ := hD2
    have e := (h1.mark Hfl.out).symm.trans (h2.mark Hfl.out)
    injection e with e; injection e with e; subst e
    have hst : StW m a i v p qc cc ql cl b c f1 f2 c1 c2 true true w9 := h1
    unfold StW at hst
    rw [if_pos rfl, ← storeM_eq Hi.out v Htag.out] at hst
    have HS := Lib.hid hst; have HB := Lib.hid hb.1
    clear hst h1 h2 hb
    go_wp2_with fail
    go_ret
    exact ⟨_, _, rfl, by rw [← Hi.out]; exact HS.out, HB.out, fun k hk => by
      rcases HF.out k hk with h | h
      · exact .inl h
      · exact .inr (by have := Hsz.out; omega)⟩

end Go.Proofs.Ytndmcnddgcifiaa
