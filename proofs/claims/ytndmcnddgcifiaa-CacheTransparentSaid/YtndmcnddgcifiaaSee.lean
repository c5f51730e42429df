/- What is seen of memories through their lines; no condition. -/
import Derived.Test.YtndmcnddgcifiaaTop
set_option linter.unusedVariables false
set_option linter.unusedSimpArgs false
namespace Go.Proofs.Ytndmcnddgcifiaa
open Go.RowKit

def CelPost (r : Value) (w : World) (e : Ending) (w' : World) : Prop := e = .returned r ∧ w.grownBy w' none
/-- A memory that can be read, at one of its lines. -/
theorem mm_line {w : World} {F : Nat → Prop} {m : Mm} (hok : MmOk m) {u v : Value} (h : rMm.rep w F m [u, v]) {i : Nat} (hi : i < 4) :
    ∃ b off d lv, v = .slice (some ⟨b, off, none⟩) 4 d ∧ 4 ≤ d ∧ d ≤ 9223372036854775807 ∧ F b ∧ w.cell? ⟨b, off + i * 3, none⟩ = some (.int .i64 (lnAt m i).tag) ∧ w.cell? ⟨b, off + i * 3 + 1, none⟩ = some (.bool (lnAt m i).dirty) ∧ w.cell? ⟨b, off + i * 3 + 2, none⟩ = some lv ∧ RSl rCell w F (lnAt m i).cells lv := by
  obtain ⟨u', v', e, hu, hv⟩ := mm_out h
  cases e
  have h4 := hok.lines
  obtain ⟨b, off, d, cs, rfl, h1, h2, hF, hx, hc⟩ := hv.at_ (k := i) (by omega)
  rw [← lnAt_eq (by omega)] at hx
  obtain ⟨lv, rfl, _, hlv⟩ := ln_out hx
  exact ⟨b, off, d, lv, by rw [h4], by omega, h2, hF, hc 0 _ rfl, hc 1 _ rfl, hc 2 _ rfl, hlv⟩
theorem cell_at {w : World} {F : Nat → Prop} {xs : List Cel} {v : Value} (h : RSl rCell w F xs v) {j : Nat} (hj : j < xs.length) :
    ∃ b off d, v = .slice (some ⟨b, off, none⟩) xs.length d ∧ xs.length ≤ d ∧ F b ∧ w.cell? ⟨b, off + j * 2, none⟩ = some (.int .u8 (xs.getD j (0, 0)).1) ∧ w.cell? ⟨b, off + j * 2 + 1, none⟩ = some (.int .u16 (xs.getD j (0, 0)).2) ∧ CelWf (xs.getD j (0, 0)) := by
  obtain ⟨b, off, d, cs, e, h1, h2, hF, hx, hc⟩ := h.at_ hj
  obtain ⟨rfl, g1, g2⟩ := cell_out hx
  rw [show xs.getD j (0, 0) = xs[j] by simp [List.getD_eq_getElem?_getD, hj]]
  exact ⟨b, off, d, e, h1, hF, hc 0 _ rfl, hc 1 _ rfl, g1, g2⟩

set_option maxRecDepth 100000 in
set_option maxHeartbeats 2000000 in
theorem ref05_Look_any (F : Nat → Prop) (m : Mm) (a : Nat) (ha : a < 512) (hok : MmOk m) (u v : Value) (w : World) (hm : rMm.rep w F m [u, v]) :
    Calls Try.prog 41 #[.agg #[u, v], .int .i64 a] w (CelPost (.agg #[.int .u8 (seeM m a).1, .int .u16 (seeM m a).2]) w) := by
  obtain ⟨n, hn⟩ : ∃ n, n = a / 4 := ⟨_, rfl⟩
  obtain ⟨i, hi⟩ : ∃ i, i = n % 4 := ⟨_, rfl⟩
  obtain ⟨j, hj⟩ : ∃ j, j = a % 4 := ⟨_, rfl⟩
  have hi4 : i < 4 := by omega
  have hj4 : j < 4 := by omega
  have hd1 : (a : Int) / 4 = (n : Int) := by omega
  have hd2 : (n : Int) % 4 = (i : Int) := by omega
  have hd3 : (a : Int) % 4 = (j : Int) := by omega
  have hx0 : (0 : Int) ≤ (i : Int) := by omega
  have hx1 : (i : Int) < 4 := by omega
  have hx2 : (i : Int).toNat = i := by omega
  have hy0 : (0 : Int) ≤ (j : Int) := by omega
  have hy1 : (j : Int) < 4 := by omega
  have hy2 : (j : Int).toNat = j := by omega
  have ha0 : (0 : Int) ≤ (a : Int) := by omega
  have ha1 : (a : Int) < 512 := by omega
  have ha2 : (a : Int).toNat = a := by omega
  have hn0 : (0 : Int) ≤ (n : Int) := by omega
  have hs : seeM m a = if (lnAt m i).tag = (n : Int) then (lnAt m i).cells.getD j (0, 0) else m.cells.getD a (0, 0) := by unfold seeM; rw [← hn, ← hi, ← hj]
  have hgB : w.grownBy ((w.alloc (.cells #[u, v] 27)).alloc (.cells #[.int .u8 0, .int .u16 0] 30)) none := grown_alloc (grown_alloc (grown_refl _ _) _) _
  obtain ⟨u', v', e, hu, hv⟩ := mm_out hm
  cases e
  obtain ⟨b, off, d, lv, rfl, hd4, hd5, hF, g0, g1, g2, hlv⟩ := mm_line hok hm hi4
  have h512 := hok.cells
  by_cases ht : (lnAt m i).tag = (n : Int)
  · rw [if_pos ht] at hs
    have hl4 : (lnAt m i).cells.length = 4 := by
      rcases hok.each i hi4 with ⟨h1, _, _⟩ | ⟨t, h1, h2, h3, h4⟩
      · rw [ht] at h1; omega
      · exact h4
    obtain ⟨b2, off2, d2, rfl, q1, q2, k0, k1, _⟩ := cell_at hlv (j := j) (by omega)
    rw [hl4] at g2
    rw [ht] at g0
    rw [← hs] at k0 k1
    have hb1 := World.block_lt_of_cell? w _ g0
    have hb2 := World.block_lt_of_cell? w _ k0
    dsimp only at hb1 hb2
    have hb3 : b2 < w.heap.size + 1 := by omega
    have hb4 : b2 < w.heap.size + 1 + 1 := by omega
    obtain ⟨Au, cu, rfl, _⟩ := hu.size_eq
    clear hu hv hlv hm hok hs ht hl4 hj hi hn
    generalize seeM m a = x at *
    go_enter Try.func41, Try.ntmps41
    go_wp2_with fail
    refine bodyPost_ret (v := .agg #[.int .u8 x.1, .int .u16 x.2]) (by simp [results, Try.results41, go_sem]) rfl ?_
    exact ⟨rfl, grown_alloc (grown_alloc (grown_alloc (grown_refl _ _) _) _) _⟩
  · rw [if_neg ht] at hs
    have htb : ((lnAt m i).tag == (n : Int)) = false := by simpa using ht
    obtain ⟨b2, off2, d2, rfl, q1, q2, k0, k1, _⟩ := cell_at hu (j := a) (by omega)
    obtain ⟨LA, lc, rfl, _⟩ := hlv.size_eq
    rw [← hs] at k0 k1
    have hb1 := World.block_lt_of_cell? w _ g0
    have hb2 := World.block_lt_of_cell? w _ k0
    dsimp only at hb1 hb2
    have hb3 : b2 < w.heap.size + 1 := by omega
    have hb4 : b2 < w.heap.size + 1 + 1 := by omega
    rw [h512] at *
    clear hu hv hlv hm hok hs ht hj hi hn
    generalize seeM m a = x at *
    go_enter Try.func41, Try.ntmps41
    go_wp2_with fail
    refine bodyPost_ret (v := .agg #[.int .u8 x.1, .int .u16 x.2]) (by simp [results, Try.results41, go_sem]) rfl ?_
    exact ⟨rfl, grown_alloc (grown_alloc (grown_alloc (grown_refl _ _) _) _) _⟩

set_option maxRecDepth 100000 in
set_option maxHeartbeats 2000000 in
theorem lines_See_any (F : Nat → Prop) (m : Mm) (a : Nat) (ha : a < 512) (hok : MmOk m) (u v : Value) (w : World) (hm : rMm.rep w F m [u, v]) :
    Calls Try.prog 35 #[.agg #[u, v], .int .i64 a] w (CelPost (.tuple #[.agg #[.int .u8 (seeM m a).1, .int .u16 (seeM m a).2], .bool true]) w) := by
  obtain ⟨n, hn⟩ : ∃ n, n = a / 4 := ⟨_, rfl⟩
  obtain ⟨i, hi⟩ : ∃ i, i = n % 4 := ⟨_, rfl⟩
  obtain ⟨j, hj⟩ : ∃ j, j = a % 4 := ⟨_, rfl⟩
  have hi4 : i < 4 := by omega
  have hj4 : j < 4 := by omega
  have hd1 : (a : Int) / 4 = (n : Int) := by omega
  have hd2 : (n : Int) % 4 = (i : Int) := by omega
  have hd3 : (a : Int) % 4 = (j : Int) := by omega
  have hx0 : (0 : Int) ≤ (i : Int) := by omega
  have hx1 : (i : Int) < 4 := by omega
  have hx2 : (i : Int).toNat = i := by omega
  have hy0 : (0 : Int) ≤ (j : Int) := by omega
  have hy1 : (j : Int) < 4 := by omega
  have hy2 : (j : Int).toNat = j := by omega
  have ha0 : (0 : Int) ≤ (a : Int) := by omega
  have ha1 : (a : Int) < 512 := by omega
  have ha2 : (a : Int).toNat = a := by omega
  have hn0 : (0 : Int) ≤ (n : Int) := by omega
  have hs : seeM m a = if (lnAt m i).tag = (n : Int) then (lnAt m i).cells.getD j (0, 0) else m.cells.getD a (0, 0) := by unfold seeM; rw [← hn, ← hi, ← hj]
  have hgB : w.grownBy ((w.alloc (.cells #[u, v] 27)).alloc (.cells #[.int .u8 0, .int .u16 0] 30)) none := grown_alloc (grown_alloc (grown_refl _ _) _) _
  obtain ⟨u', v', e, hu, hv⟩ := mm_out hm
  cases e
  obtain ⟨b, off, d, lv, rfl, hd4, hd5, hF, g0, g1, g2, hlv⟩ := mm_line hok hm hi4
  have h512 := hok.cells
  by_cases ht : (lnAt m i).tag = (n : Int)
  · rw [if_pos ht] at hs
    have hl4 : (lnAt m i).cells.length = 4 := by
      rcases hok.each i hi4 with ⟨h1, _, _⟩ | ⟨t, h1, h2, h3, h4⟩
      · rw [ht] at h1; omega
      · exact h4
    obtain ⟨b2, off2, d2, rfl, q1, q2, k0, k1, _⟩ := cell_at hlv (j := j) (by omega)
    rw [hl4] at g2
    rw [ht] at g0
    rw [← hs] at k0 k1
    have hb1 := World.block_lt_of_cell? w _ g0
    have hb2 := World.block_lt_of_cell? w _ k0
    dsimp only at hb1 hb2
    have hb3 : b2 < w.heap.size + 1 := by omega
    have hb4 : b2 < w.heap.size + 1 + 1 := by omega
    obtain ⟨Au, cu, rfl, _⟩ := hu.size_eq
    clear hu hv hlv hm hok hs ht hl4 hj hi hn
    generalize seeM m a = x at *
    go_enter Try.func35, Try.ntmps35
    go_wp2_with fail
    refine bodyPost_ret (v := .tuple #[.agg #[.int .u8 x.1, .int .u16 x.2], .bool true]) (by simp [results, Try.results35, go_sem]) rfl ?_
    exact ⟨rfl, grown_alloc (grown_alloc (grown_refl _ _) _) _⟩
  · rw [if_neg ht] at hs
    have htb : ((lnAt m i).tag == (n : Int)) = false := by simpa using ht
    obtain ⟨b2, off2, d2, rfl, q1, q2, k0, k1, _⟩ := cell_at hu (j := a) (by omega)
    obtain ⟨LA, lc, rfl, _⟩ := hlv.size_eq
    rw [← hs] at k0 k1
    have hb1 := World.block_lt_of_cell? w _ g0
    have hb2 := World.block_lt_of_cell? w _ k0
    dsimp only at hb1 hb2
    have hb3 : b2 < w.heap.size + 1 := by omega
    have hb4 : b2 < w.heap.size + 1 + 1 := by omega
    rw [h512] at *
    clear hu hv hlv hm hok hs ht hj hi hn
    generalize seeM m a = x at *
    go_enter Try.func35, Try.ntmps35
    go_wp2_with fail
    refine bodyPost_ret (v := .tuple #[.agg #[.int .u8 x.1, .int .u16 x.2], .bool true]) (by simp [results, Try.results35, go_sem]) rfl ?_
    exact ⟨rfl, grown_alloc (grown_alloc (grown_refl _ _) _) _⟩


theorem out_bool {a : Int} (h : Outside a) : (decide (a < 0) || decide (512 ≤ a)) = true := by
  rcases h with h | h <;> simp [h]
set_option maxRecDepth 100000 in
set_option maxHeartbeats 2000000 in
theorem lines_See_out (a : Int) (ha : Outside a) (u v : Value) (w : World) :
    Calls Try.prog 35 #[.agg #[u, v], .int .i64 a] w (CelPost (.tuple #[.agg #[.int .u8 0, .int .u16 0], .bool false]) w) := by
  by_cases h0 : a < 0
  · go_enter Try.func35, Try.ntmps35
    go_wp2_with fail
    refine bodyPost_ret (v := .tuple #[.agg #[.int .u8 0, .int .u16 0], .bool false]) (by simp [results, Try.results35, go_sem]) rfl ?_
    exact ⟨rfl, grown_alloc (grown_alloc (grown_refl _ _) _) _⟩
  · have h1 : 512 ≤ a := by rcases ha with h | h; exact absurd h h0; exact h
    go_enter Try.func35, Try.ntmps35
    go_wp2_with fail
    refine bodyPost_ret (v := .tuple #[.agg #[.int .u8 0, .int .u16 0], .bool false]) (by simp [results, Try.results35, go_sem]) rfl ?_
    exact ⟨rfl, grown_alloc (grown_alloc (grown_refl _ _) _) _⟩
def SeePost (c : Cel) (err : Int) (w : World) (e : Ending) (w' : World) : Prop := e = .returned (.tuple #[.agg #[.int .u8 c.1, .int .u16 c.2], .int .i64 err]) ∧ w.grownBy w' none

set_option maxRecDepth 100000 in
set_option maxHeartbeats 2000000 in
theorem ref05_See_in (F : Nat → Prop) (m : Mm) (a : Nat) (ha : a < 512) (hok : MmOk m) (u v : Value) (w : World) (hm : rMm.rep w F m [u, v]) :
    Calls Try.prog 22 #[.agg #[u, v], .int .i64 a] w (SeePost (seeM m a) 0 w) := by
  have ha0 : (0 : Int) ≤ (a : Int) := by omega
  have ha1 : (a : Int) < 512 := by omega
  have hn0 : decide ((a : Int) < 0) = false := by simp
  have hn1 : decide ((512 : Int) ≤ (a : Int)) = false := by simp; omega
  have HM := Lib.hid hm
  have Hok := Lib.hid hok
  obtain ⟨u', v', e, hu, hv⟩ := mm_out hm
  cases e
  obtain ⟨A, c, rfl, _⟩ := hu.size_eq
  obtain ⟨B, d, rfl, _⟩ := hv.size_eq
  clear hm hok hu hv
  go_enter Try.func22, Try.ntmps22
  go_wp2_with fail
  have hgr : w.grownBy ((w.alloc (.cells #[.slice A m.cells.length c, .slice B m.lines.length d] 27)).alloc (.cells #[.int .u8 0, .int .u16 0] 30)) none := grown_alloc (grown_alloc (grown_refl _ _) _) _
  have hb : Bk ((w.alloc (.cells #[.slice A m.cells.length c, .slice B m.lines.length d] 27)).alloc (.cells #[.int .u8 0, .int .u16 0] 30)) (w.heap.size + 1) 30 [.int .u8 0, .int .u16 0] := by
    have h := Bk.new (w := w.alloc (.cells #[.slice A m.cells.length c, .slice B m.lines.length d] 27)) (t := 30) (vs := [.int .u8 0, .int .u16 0])
    simpa using h
  generalize (w.alloc (.cells #[.slice A m.cells.length c, .slice B m.lines.length d] 27)).alloc (.cells #[.int .u8 0, .int .u16 0] 30) = W at *
  refine (ref05_Look_any F m a ha Hok.out _ _ W (rMm.grow HM.out hgr)).mono ?_
  rintro e w1 ⟨rfl, hg1⟩
  have hb := hb.grow hg1
  have r0 := hb.cell 0
  have r1 := hb.cell 1
  have y0 := hb.free 0
  have y1 := hb.free 1
  have d5 : w.heap.size + 1 < w1.heap.size := hb.hi
  simp only [List.getElem?_cons_zero, List.getElem?_cons_succ] at r0 r1
  have HG := Lib.hid (grown_trans hgr hg1)
  clear hgr hg1 hb
  obtain ⟨x, hx⟩ : ∃ x, x = seeM m a := ⟨_, rfl⟩
  rw [← hx]
  have Hx := Lib.hid hx
  clear hx
  go_wp2_with fail
  refine bodyPost_ret (v := .tuple #[.agg #[.int .u8 x.1, .int .u16 x.2], .int .i64 0]) (by simp [results, Try.results22, go_sem, r0, r1, d5]) rfl ?_
  exact ⟨by rw [Hx.out], grown_set (grown_set HG.out (.inr (by show _ ≤ w.heap.size + 1; omega)) _) (.inr (by show _ ≤ w.heap.size + 1; omega)) _⟩
set_option maxRecDepth 100000 in
set_option maxHeartbeats 2000000 in
theorem ref05_See_out (a : Int) (ha : Outside a) (u v : Value) (w : World) :
    Calls Try.prog 22 #[.agg #[u, v], .int .i64 a] w (SeePost (0, 0) 6 w) := by
  by_cases h0 : a < 0
  · go_enter Try.func22, Try.ntmps22
    go_wp2_with fail
    refine bodyPost_ret (v := .tuple #[.agg #[.int .u8 0, .int .u16 0], .int .i64 6]) (by simp [results, Try.results22, go_sem]) rfl ?_
    exact ⟨rfl, grown_alloc (grown_alloc (grown_refl _ _) _) _⟩
  · have h1 : 512 ≤ a := by rcases ha with h | h; exact absurd h h0; exact h
    go_enter Try.func22, Try.ntmps22
    go_wp2_with fail
    refine bodyPost_ret (v := .tuple #[.agg #[.int .u8 0, .int .u16 0], .int .i64 6]) (by simp [results, Try.results22, go_sem]) rfl ?_
    exact ⟨rfl, grown_alloc (grown_alloc (grown_refl _ _) _) _⟩

set_option maxRecDepth 100000 in
set_option maxHeartbeats 2000000 in
theorem cache_See_any (c cR : Cel) (err : Int) (ok : Bool) (hok : ok = true ∧ cR = c ∧ err = 0 ∨ ok = false ∧ cR = (0, 0) ∧ err = 6) (u v : Value) (a : Int) (w : World)
    (hs : ∀ W : World, w.grownBy W none → Calls Try.prog 35 #[.agg #[u, v], .int .i64 a] W (CelPost (.tuple #[.agg #[.int .u8 c.1, .int .u16 c.2], .bool ok]) W)) (hsh : (∃ A n c, u = .slice A n c) ∧ ∃ A n c, v = .slice A n c) :
    Calls Try.prog 16 #[.agg #[u, v], .int .i64 a] w (SeePost cR err w) := by
  obtain ⟨⟨A, n, c1, rfl⟩, B, n2, c2, rfl⟩ := hsh
  have HS := Lib.hid hs
  have HK := Lib.hid hok
  clear hs hok
  go_enter Try.func16, Try.ntmps16
  go_wp2_with fail
  have hgr : w.grownBy ((w.alloc (.cells #[.slice A n c1, .slice B n2 c2] 27)).alloc (.cells #[.int .u8 0, .int .u16 0] 30)) none := grown_alloc (grown_alloc (grown_refl _ _) _) _
  have hb : Bk ((w.alloc (.cells #[.slice A n c1, .slice B n2 c2] 27)).alloc (.cells #[.int .u8 0, .int .u16 0] 30)) (w.heap.size + 1) 30 [.int .u8 0, .int .u16 0] := by
    have h := Bk.new (w := w.alloc (.cells #[.slice A n c1, .slice B n2 c2] 27)) (t := 30) (vs := [.int .u8 0, .int .u16 0])
    simpa using h
  generalize (w.alloc (.cells #[.slice A n c1, .slice B n2 c2] 27)).alloc (.cells #[.int .u8 0, .int .u16 0] 30) = W at *
  refine (HS.out W hgr).mono ?_
  rintro e w1 ⟨rfl, hg1⟩
  have hb := hb.grow hg1
  have r0 := hb.cell 0
  have r1 := hb.cell 1
  have y0 := hb.free 0
  have y1 := hb.free 1
  have d5 : w.heap.size + 1 < w1.heap.size := hb.hi
  simp only [List.getElem?_cons_zero, List.getElem?_cons_succ] at r0 r1
  have HG := Lib.hid (grown_trans hgr hg1)
  clear hgr hg1 hb HS
  rcases HK.out with ⟨rfl, rfl, rfl⟩ | ⟨rfl, rfl, rfl⟩
  rotate_left
  · go_wp2_with fail
    refine bodyPost_ret (v := .tuple #[.agg #[.int .u8 0, .int .u16 0], .int .i64 6]) (by simp [results, Try.results16, go_sem, r0, r1, d5]) rfl ?_
    exact ⟨rfl, grown_alloc (grown_set (grown_set HG.out (.inr (by show _ ≤ w.heap.size + 1; omega)) _) (.inr (by show _ ≤ w.heap.size + 1; omega)) _) _⟩
  · go_wp2_with fail
    refine bodyPost_ret (v := .tuple #[.agg #[.int .u8 cR.1, .int .u16 cR.2], .int .i64 0]) (by simp [results, Try.results16, go_sem, r0, r1, d5]) rfl ?_
    exact ⟨rfl, grown_alloc (grown_set (grown_set HG.out (.inr (by show _ ≤ w.heap.size + 1; omega)) _) (.inr (by show _ ≤ w.heap.size + 1; omega)) _) _⟩
theorem mm_shape {w : World} {F : Nat → Prop} {m : Mm} {u v : Value} (hm : rMm.rep w F m [u, v]) : (∃ A n c, u = .slice A n c) ∧ ∃ A n c, v = .slice A n c := by
  obtain ⟨u', v', e, hu, hv⟩ := mm_out hm
  cases e
  obtain ⟨A, c, rfl, _⟩ := hu.size_eq
  obtain ⟨B, d, rfl, _⟩ := hv.size_eq
  exact ⟨⟨_, _, _, rfl⟩, _, _, _, rfl⟩
theorem cache_See_in (F : Nat → Prop) (m : Mm) (a : Nat) (ha : a < 512) (hok : MmOk m) (u v : Value) (w : World) (hm : rMm.rep w F m [u, v]) :
    Calls Try.prog 16 #[.agg #[u, v], .int .i64 a] w (SeePost (seeM m a) 0 w) :=
  cache_See_any (seeM m a) (seeM m a) 0 true (.inl ⟨rfl, rfl, rfl⟩) u v a w (fun W hg => lines_See_any F m a ha hok u v W (rMm.grow hm hg)) (mm_shape hm)
theorem cache_See_out (a : Int) (ha : Outside a) (u v : Value) (w : World) (hsh : (∃ A n c, u = .slice A n c) ∧ ∃ A n c, v = .slice A n c) :
    Calls Try.prog 16 #[.agg #[u, v], .int .i64 a] w (SeePost (0, 0) 6 w) :=
  cache_See_any (0, 0) (0, 0) 6 false (.inr ⟨rfl, rfl, rfl⟩) u v a w (fun W hg => lines_See_out a ha u v W) hsh

end Go.Proofs.Ytndmcnddgcifiaa
