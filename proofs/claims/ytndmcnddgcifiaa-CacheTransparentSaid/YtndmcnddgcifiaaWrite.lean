/- Writes to memories through their lines; no condition. -/
import Derived.Test.YtndmcnddgcifiaaTop
set_option linter.unusedVariables false
set_option linter.unusedSimpArgs false
namespace Go.Proofs.Ytndmcnddgcifiaa
open Go.RowKit

def pokeM (m : Mm) (a : Nat) (x : Cel) : Mm := ⟨m.cells.set a x, m.lines⟩
def ValidPost (b : Bool) (w : World) (e : Ending) (w' : World) : Prop := e = .returned (.bool b) ∧ w.grownBy w' none
theorem ref01_Valid_any (c : Cel) (b : Bool) (hb : decide (c.1 ≤ 2) = b) (w : World) : Calls Try.prog 43 #[.agg #[.int .u8 c.1, .int .u16 c.2]] w (ValidPost b w) := by
  cases b
  · go_enter Try.func43, Try.ntmps43
    go_wp2_with fail
    go_ret
    exact ⟨rfl, grown_alloc (grown_refl _ _) _⟩
  · go_enter Try.func43, Try.ntmps43
    go_wp2_with fail
    go_ret
    exact ⟨rfl, grown_alloc (grown_refl _ _) _⟩
theorem word_Valid_any (c : Cel) (b : Bool) (hb : decide (c.1 ≤ 2) = b) (w : World) : Calls Try.prog 33 #[.agg #[.int .u8 c.1, .int .u16 c.2]] w (ValidPost b w) := by
  cases b
  · go_enter Try.func33, Try.ntmps33
    go_wp2_with fail
    go_ret
    exact ⟨rfl, grown_alloc (grown_refl _ _) _⟩
  · go_enter Try.func33, Try.ntmps33
    go_wp2_with fail
    go_ret
    exact ⟨rfl, grown_alloc (grown_refl _ _) _⟩
set_option maxRecDepth 100000 in
set_option maxHeartbeats 2000000 in
theorem ref05_Write_bad (F : Nat → Prop) (m : Mm) (x : Cel) (a : Int) (hx : decide (x.1 ≤ 2) = false) (u v : Value) (w : World) (hm : rMm.rep w F m [u, v]) :
    Calls Try.prog 24 #[.agg #[u, v], .int .i64 a, .agg #[.int .u8 x.1, .int .u16 x.2]] w (WriteRet ⟨[], []⟩ 1 w) := by
  have HM := Lib.hid hm
  obtain ⟨u', v', e, hu, hv⟩ := mm_out hm
  cases e
  obtain ⟨A, c, rfl, _⟩ := hu.size_eq
  obtain ⟨B, d, rfl, _⟩ := hv.size_eq
  clear hm hu hv
  go_enter Try.func24, Try.ntmps24
  go_wp2_with fail
  have hgr : w.grownBy (((w.alloc (.cells #[.slice A m.cells.length c, .slice B m.lines.length d] 27)).alloc (.cells #[.int .u8 x.1, .int .u16 x.2] 30)).alloc (.cells #[.slice none 0 0, .slice none 0 0] 27)) none := grown_alloc (grown_alloc (grown_alloc (grown_refl _ _) _) _) _
  have hb3 : Bk (((w.alloc (.cells #[.slice A m.cells.length c, .slice B m.lines.length d] 27)).alloc (.cells #[.int .u8 x.1, .int .u16 x.2] 30)).alloc (.cells #[.slice none 0 0, .slice none 0 0] 27)) w.heap.size 27 [.slice A m.cells.length c, .slice B m.lines.length d] := (Bk.new.grow (grown_alloc (grown_refl _ _) _)).grow (grown_alloc (grown_refl _ _) _)
  have hb5 : Bk (((w.alloc (.cells #[.slice A m.cells.length c, .slice B m.lines.length d] 27)).alloc (.cells #[.int .u8 x.1, .int .u16 x.2] 30)).alloc (.cells #[.slice none 0 0, .slice none 0 0] 27)) (w.heap.size + 1) 30 [.int .u8 x.1, .int .u16 x.2] := by
    have h := Bk.new (w := w.alloc (.cells #[.slice A m.cells.length c, .slice B m.lines.length d] 27)) (t := 30) (vs := [.int .u8 x.1, .int .u16 x.2])
    have h2 := h.grow (grown_alloc (grown_refl _ _) (.cells #[.slice none 0 0, .slice none 0 0] 27))
    simpa using h2
  have hb6 : Bk (((w.alloc (.cells #[.slice A m.cells.length c, .slice B m.lines.length d] 27)).alloc (.cells #[.int .u8 x.1, .int .u16 x.2] 30)).alloc (.cells #[.slice none 0 0, .slice none 0 0] 27)) (w.heap.size + 1 + 1) 27 [.slice none 0 0, .slice none 0 0] := by
    have h := Bk.new (w := (w.alloc (.cells #[.slice A m.cells.length c, .slice B m.lines.length d] 27)).alloc (.cells #[.int .u8 x.1, .int .u16 x.2] 30)) (t := 27) (vs := [.slice none 0 0, .slice none 0 0])
    simpa using h
  have hsz : (((w.alloc (.cells #[.slice A m.cells.length c, .slice B m.lines.length d] 27)).alloc (.cells #[.int .u8 x.1, .int .u16 x.2] 30)).alloc (.cells #[.slice none 0 0, .slice none 0 0] 27)).heap.size = w.heap.size + 3 := by simp
  generalize ((w.alloc (.cells #[.slice A m.cells.length c, .slice B m.lines.length d] 27)).alloc (.cells #[.int .u8 x.1, .int .u16 x.2] 30)).alloc (.cells #[.slice none 0 0, .slice none 0 0] 27) = W3 at *
  refine (ref01_Valid_any x false hx W3).mono ?_
  rintro e w0 ⟨rfl, hg0⟩
  have HG := Lib.hid (grown_trans hgr hg0)
  have HB3 := Lib.hid (hb3.grow hg0)
  have HB5 := Lib.hid (hb5.grow hg0)
  have HB6 := Lib.hid (hb6.grow hg0)
  have HS := Lib.hid (show w.heap.size + 3 ≤ w0.heap.size from by have := hg0.size; omega)
  clear hgr hb3 hb5 hb6 hsz hg0 hx
  have r0 := HB6.out.cell 0
  have r1 := HB6.out.cell 1
  have y0 := HB6.out.free 0
  have y1 := HB6.out.free 1
  have s0 := HB5.out.cell 0
  have s1 := HB5.out.cell 1
  have t0 := HB3.out.cell 0
  have t1 := HB3.out.cell 1
  have d5 : w.heap.size + 1 + 1 < w0.heap.size := HB6.out.hi
  simp only [List.getElem?_cons_zero, List.getElem?_cons_succ] at r0 r1 s0 s1 t0 t1
  go_wp2_with fail
  refine bodyPost_ret (v := .tuple #[.agg #[.slice none 0 0, .slice none 0 0], .int .i64 1]) (by simp [results, Try.results24, go_sem, r0, r1, d5]) rfl ?_
  exact ⟨_, _, [], rfl, own_zero _, List.nodup_nil, by simp, grown_set (grown_set HG.out (.inr (by show _ ≤ w.heap.size + 1 + 1; omega)) _) (.inr (by show _ ≤ w.heap.size + 1 + 1; omega)) _⟩
set_option maxRecDepth 100000 in
set_option maxHeartbeats 2000000 in
theorem cache_Write_bad (F : Nat → Prop) (m : Mm) (x : Cel) (a : Int) (hx : decide (x.1 ≤ 2) = false) (u v : Value) (w : World) (hm : rMm.rep w F m [u, v]) :
    Calls Try.prog 15 #[.agg #[u, v], .int .i64 a, .agg #[.int .u8 x.1, .int .u16 x.2]] w (WriteRet ⟨[], []⟩ 1 w) := by
  have HM := Lib.hid hm
  obtain ⟨u', v', e, hu, hv⟩ := mm_out hm
  cases e
  obtain ⟨A, c, rfl, _⟩ := hu.size_eq
  obtain ⟨B, d, rfl, _⟩ := hv.size_eq
  clear hm hu hv
  go_enter Try.func15, Try.ntmps15
  go_wp2_with fail
  have hgr : w.grownBy (((w.alloc (.cells #[.slice A m.cells.length c, .slice B m.lines.length d] 27)).alloc (.cells #[.int .u8 x.1, .int .u16 x.2] 30)).alloc (.cells #[.slice none 0 0, .slice none 0 0] 27)) none := grown_alloc (grown_alloc (grown_alloc (grown_refl _ _) _) _) _
  have hb3 : Bk (((w.alloc (.cells #[.slice A m.cells.length c, .slice B m.lines.length d] 27)).alloc (.cells #[.int .u8 x.1, .int .u16 x.2] 30)).alloc (.cells #[.slice none 0 0, .slice none 0 0] 27)) w.heap.size 27 [.slice A m.cells.length c, .slice B m.lines.length d] := (Bk.new.grow (grown_alloc (grown_refl _ _) _)).grow (grown_alloc (grown_refl _ _) _)
  have hb5 : Bk (((w.alloc (.cells #[.slice A m.cells.length c, .slice B m.lines.length d] 27)).alloc (.cells #[.int .u8 x.1, .int .u16 x.2] 30)).alloc (.cells #[.slice none 0 0, .slice none 0 0] 27)) (w.heap.size + 1) 30 [.int .u8 x.1, .int .u16 x.2] := by
    have h := Bk.new (w := w.alloc (.cells #[.slice A m.cells.length c, .slice B m.lines.length d] 27)) (t := 30) (vs := [.int .u8 x.1, .int .u16 x.2])
    have h2 := h.grow (grown_alloc (grown_refl _ _) (.cells #[.slice none 0 0, .slice none 0 0] 27))
    simpa using h2
  have hb6 : Bk (((w.alloc (.cells #[.slice A m.cells.length c, .slice B m.lines.length d] 27)).alloc (.cells #[.int .u8 x.1, .int .u16 x.2] 30)).alloc (.cells #[.slice none 0 0, .slice none 0 0] 27)) (w.heap.size + 1 + 1) 27 [.slice none 0 0, .slice none 0 0] := by
    have h := Bk.new (w := (w.alloc (.cells #[.slice A m.cells.length c, .slice B m.lines.length d] 27)).alloc (.cells #[.int .u8 x.1, .int .u16 x.2] 30)) (t := 27) (vs := [.slice none 0 0, .slice none 0 0])
    simpa using h
  have hsz : (((w.alloc (.cells #[.slice A m.cells.length c, .slice B m.lines.length d] 27)).alloc (.cells #[.int .u8 x.1, .int .u16 x.2] 30)).alloc (.cells #[.slice none 0 0, .slice none 0 0] 27)).heap.size = w.heap.size + 3 := by simp
  generalize ((w.alloc (.cells #[.slice A m.cells.length c, .slice B m.lines.length d] 27)).alloc (.cells #[.int .u8 x.1, .int .u16 x.2] 30)).alloc (.cells #[.slice none 0 0, .slice none 0 0] 27) = W3 at *
  refine (word_Valid_any x false hx W3).mono ?_
  rintro e w0 ⟨rfl, hg0⟩
  have HG := Lib.hid (grown_trans hgr hg0)
  have HB3 := Lib.hid (hb3.grow hg0)
  have HB5 := Lib.hid (hb5.grow hg0)
  have HB6 := Lib.hid (hb6.grow hg0)
  have HS := Lib.hid (show w.heap.size + 3 ≤ w0.heap.size from by have := hg0.size; omega)
  clear hgr hb3 hb5 hb6 hsz hg0 hx
  have r0 := HB6.out.cell 0
  have r1 := HB6.out.cell 1
  have y0 := HB6.out.free 0
  have y1 := HB6.out.free 1
  have s0 := HB5.out.cell 0
  have s1 := HB5.out.cell 1
  have t0 := HB3.out.cell 0
  have t1 := HB3.out.cell 1
  have d5 : w.heap.size + 1 + 1 < w0.heap.size := HB6.out.hi
  simp only [List.getElem?_cons_zero, List.getElem?_cons_succ] at r0 r1 s0 s1 t0 t1
  go_wp2_with fail
  refine bodyPost_ret (v := .tuple #[.agg #[.slice none 0 0, .slice none 0 0], .int .i64 1]) (by simp [results, Try.results15, go_sem, r0, r1, d5]) rfl ?_
  exact ⟨_, _, [], rfl, own_zero _, List.nodup_nil, by simp, grown_set (grown_set HG.out (.inr (by show _ ≤ w.heap.size + 1 + 1; omega)) _) (.inr (by show _ ≤ w.heap.size + 1 + 1; omega)) _⟩
set_option maxRecDepth 100000 in
set_option maxHeartbeats 2000000 in
theorem ref04_Poke_bad (F : Nat → Prop) (m : Mm) (x : Cel) (a : Int) (hx : decide (x.1 ≤ 2) = false) (u v : Value) (w : World) (hm : rMm.rep w F m [u, v]) :
    Calls Try.prog 31 #[.agg #[u, v], .int .i64 a, .agg #[.int .u8 x.1, .int .u16 x.2]] w (WriteRet ⟨[], []⟩ 1 w) := by
  have HM := Lib.hid hm
  obtain ⟨u', v', e, hu, hv⟩ := mm_out hm
  cases e
  obtain ⟨A, c, rfl, _⟩ := hu.size_eq
  obtain ⟨B, d, rfl, _⟩ := hv.size_eq
  clear hm hu hv
  go_enter Try.func31, Try.ntmps31
  go_wp2_with fail
  have hgr : w.grownBy (((w.alloc (.cells #[.slice A m.cells.length c, .slice B m.lines.length d] 27)).alloc (.cells #[.int .u8 x.1, .int .u16 x.2] 30)).alloc (.cells #[.slice none 0 0, .slice none 0 0] 27)) none := grown_alloc (grown_alloc (grown_alloc (grown_refl _ _) _) _) _
  have hb3 : Bk (((w.alloc (.cells #[.slice A m.cells.length c, .slice B m.lines.length d] 27)).alloc (.cells #[.int .u8 x.1, .int .u16 x.2] 30)).alloc (.cells #[.slice none 0 0, .slice none 0 0] 27)) w.heap.size 27 [.slice A m.cells.length c, .slice B m.lines.length d] := (Bk.new.grow (grown_alloc (grown_refl _ _) _)).grow (grown_alloc (grown_refl _ _) _)
  have hb5 : Bk (((w.alloc (.cells #[.slice A m.cells.length c, .slice B m.lines.length d] 27)).alloc (.cells #[.int .u8 x.1, .int .u16 x.2] 30)).alloc (.cells #[.slice none 0 0, .slice none 0 0] 27)) (w.heap.size + 1) 30 [.int .u8 x.1, .int .u16 x.2] := by
    have h := Bk.new (w := w.alloc (.cells #[.slice A m.cells.length c, .slice B m.lines.length d] 27)) (t := 30) (vs := [.int .u8 x.1, .int .u16 x.2])
    have h2 := h.grow (grown_alloc (grown_refl _ _) (.cells #[.slice none 0 0, .slice none 0 0] 27))
    simpa using h2
  have hb6 : Bk (((w.alloc (.cells #[.slice A m.cells.length c, .slice B m.lines.length d] 27)).alloc (.cells #[.int .u8 x.1, .int .u16 x.2] 30)).alloc (.cells #[.slice none 0 0, .slice none 0 0] 27)) (w.heap.size + 1 + 1) 27 [.slice none 0 0, .slice none 0 0] := by
    have h := Bk.new (w := (w.alloc (.cells #[.slice A m.cells.length c, .slice B m.lines.length d] 27)).alloc (.cells #[.int .u8 x.1, .int .u16 x.2] 30)) (t := 27) (vs := [.slice none 0 0, .slice none 0 0])
    simpa using h
  have hsz : (((w.alloc (.cells #[.slice A m.cells.length c, .slice B m.lines.length d] 27)).alloc (.cells #[.int .u8 x.1, .int .u16 x.2] 30)).alloc (.cells #[.slice none 0 0, .slice none 0 0] 27)).heap.size = w.heap.size + 3 := by simp
  generalize ((w.alloc (.cells #[.slice A m.cells.length c, .slice B m.lines.length d] 27)).alloc (.cells #[.int .u8 x.1, .int .u16 x.2] 30)).alloc (.cells #[.slice none 0 0, .slice none 0 0] 27) = W3 at *
  refine (ref01_Valid_any x false hx W3).mono ?_
  rintro e w0 ⟨rfl, hg0⟩
  have HG := Lib.hid (grown_trans hgr hg0)
  have HB3 := Lib.hid (hb3.grow hg0)
  have HB5 := Lib.hid (hb5.grow hg0)
  have HB6 := Lib.hid (hb6.grow hg0)
  have HS := Lib.hid (show w.heap.size + 3 ≤ w0.heap.size from by have := hg0.size; omega)
  clear hgr hb3 hb5 hb6 hsz hg0 hx
  have r0 := HB6.out.cell 0
  have r1 := HB6.out.cell 1
  have y0 := HB6.out.free 0
  have y1 := HB6.out.free 1
  have s0 := HB5.out.cell 0
  have s1 := HB5.out.cell 1
  have t0 := HB3.out.cell 0
  have t1 := HB3.out.cell 1
  have d5 : w.heap.size + 1 + 1 < w0.heap.size := HB6.out.hi
  simp only [List.getElem?_cons_zero, List.getElem?_cons_succ] at r0 r1 s0 s1 t0 t1
  go_wp2_with fail
  refine bodyPost_ret (v := .tuple #[.agg #[.slice none 0 0, .slice none 0 0], .int .i64 1]) (by simp [results, Try.results31, go_sem, r0, r1, d5]) rfl ?_
  exact ⟨_, _, [], rfl, own_zero _, List.nodup_nil, by simp, grown_set (grown_set HG.out (.inr (by show _ ≤ w.heap.size + 1 + 1; omega)) _) (.inr (by show _ ≤ w.heap.size + 1 + 1; omega)) _⟩
set_option maxRecDepth 100000 in
set_option maxHeartbeats 2000000 in
theorem ref05_Write_out (F : Nat → Prop) (m : Mm) (x : Cel) (a : Int) (ha : Outside a) (hx : decide (x.1 ≤ 2) = true) (u v : Value) (w : World) (hm : rMm.rep w F m [u, v]) :
    Calls Try.prog 24 #[.agg #[u, v], .int .i64 a, .agg #[.int .u8 x.1, .int .u16 x.2]] w (WriteRet ⟨[], []⟩ 6 w) := by
  have HM := Lib.hid hm
  obtain ⟨u', v', e, hu, hv⟩ := mm_out hm
  cases e
  obtain ⟨A, c, rfl, _⟩ := hu.size_eq
  obtain ⟨B, d, rfl, _⟩ := hv.size_eq
  clear hm hu hv
  go_enter Try.func24, Try.ntmps24
  go_wp2_with fail
  have hgr : w.grownBy (((w.alloc (.cells #[.slice A m.cells.length c, .slice B m.lines.length d] 27)).alloc (.cells #[.int .u8 x.1, .int .u16 x.2] 30)).alloc (.cells #[.slice none 0 0, .slice none 0 0] 27)) none := grown_alloc (grown_alloc (grown_alloc (grown_refl _ _) _) _) _
  have hb3 : Bk (((w.alloc (.cells #[.slice A m.cells.length c, .slice B m.lines.length d] 27)).alloc (.cells #[.int .u8 x.1, .int .u16 x.2] 30)).alloc (.cells #[.slice none 0 0, .slice none 0 0] 27)) w.heap.size 27 [.slice A m.cells.length c, .slice B m.lines.length d] := (Bk.new.grow (grown_alloc (grown_refl _ _) _)).grow (grown_alloc (grown_refl _ _) _)
  have hb5 : Bk (((w.alloc (.cells #[.slice A m.cells.length c, .slice B m.lines.length d] 27)).alloc (.cells #[.int .u8 x.1, .int .u16 x.2] 30)).alloc (.cells #[.slice none 0 0, .slice none 0 0] 27)) (w.heap.size + 1) 30 [.int .u8 x.1, .int .u16 x.2] := by
    have h := Bk.new (w := w.alloc (.cells #[.slice A m.cells.length c, .slice B m.lines.length d] 27)) (t := 30) (vs := [.int .u8 x.1, .int .u16 x.2])
    have h2 := h.grow (grown_alloc (grown_refl _ _) (.cells #[.slice none 0 0, .slice none 0 0] 27))
    simpa using h2
  have hb6 : Bk (((w.alloc (.cells #[.slice A m.cells.length c, .slice B m.lines.length d] 27)).alloc (.cells #[.int .u8 x.1, .int .u16 x.2] 30)).alloc (.cells #[.slice none 0 0, .slice none 0 0] 27)) (w.heap.size + 1 + 1) 27 [.slice none 0 0, .slice none 0 0] := by
    have h := Bk.new (w := (w.alloc (.cells #[.slice A m.cells.length c, .slice B m.lines.length d] 27)).alloc (.cells #[.int .u8 x.1, .int .u16 x.2] 30)) (t := 27) (vs := [.slice none 0 0, .slice none 0 0])
    simpa using h
  have hsz : (((w.alloc (.cells #[.slice A m.cells.length c, .slice B m.lines.length d] 27)).alloc (.cells #[.int .u8 x.1, .int .u16 x.2] 30)).alloc (.cells #[.slice none 0 0, .slice none 0 0] 27)).heap.size = w.heap.size + 3 := by simp
  generalize ((w.alloc (.cells #[.slice A m.cells.length c, .slice B m.lines.length d] 27)).alloc (.cells #[.int .u8 x.1, .int .u16 x.2] 30)).alloc (.cells #[.slice none 0 0, .slice none 0 0] 27) = W3 at *
  refine (ref01_Valid_any x true hx W3).mono ?_
  rintro e w0 ⟨rfl, hg0⟩
  have HG := Lib.hid (grown_trans hgr hg0)
  have HB3 := Lib.hid (hb3.grow hg0)
  have HB5 := Lib.hid (hb5.grow hg0)
  have HB6 := Lib.hid (hb6.grow hg0)
  have HS := Lib.hid (show w.heap.size + 3 ≤ w0.heap.size from by have := hg0.size; omega)
  clear hgr hb3 hb5 hb6 hsz hg0 hx
  have r0 := HB6.out.cell 0
  have r1 := HB6.out.cell 1
  have y0 := HB6.out.free 0
  have y1 := HB6.out.free 1
  have s0 := HB5.out.cell 0
  have s1 := HB5.out.cell 1
  have t0 := HB3.out.cell 0
  have t1 := HB3.out.cell 1
  have d5 : w.heap.size + 1 + 1 < w0.heap.size := HB6.out.hi
  simp only [List.getElem?_cons_zero, List.getElem?_cons_succ] at r0 r1 s0 s1 t0 t1
  by_cases h0 : a < 0
  · go_wp2_with fail
    refine bodyPost_ret (v := .tuple #[.agg #[.slice none 0 0, .slice none 0 0], .int .i64 6]) (by simp [results, Try.results24, go_sem, r0, r1, d5]) rfl ?_
    exact ⟨_, _, [], rfl, own_zero _, List.nodup_nil, by simp, grown_set (grown_set HG.out (.inr (by show _ ≤ w.heap.size + 1 + 1; omega)) _) (.inr (by show _ ≤ w.heap.size + 1 + 1; omega)) _⟩
  · have h1 : 512 ≤ a := by rcases ha with h | h; exact absurd h h0; exact h
    go_wp2_with fail
    refine bodyPost_ret (v := .tuple #[.agg #[.slice none 0 0, .slice none 0 0], .int .i64 6]) (by simp [results, Try.results24, go_sem, r0, r1, d5]) rfl ?_
    exact ⟨_, _, [], rfl, own_zero _, List.nodup_nil, by simp, grown_set (grown_set HG.out (.inr (by show _ ≤ w.heap.size + 1 + 1; omega)) _) (.inr (by show _ ≤ w.heap.size + 1 + 1; omega)) _⟩
set_option maxRecDepth 100000 in
set_option maxHeartbeats 2000000 in
theorem ref04_Poke_out (F : Nat → Prop) (m : Mm) (x : Cel) (a : Int) (ha : Outside a) (hx : decide (x.1 ≤ 2) = true) (u v : Value) (w : World) (hm : rMm.rep w F m [u, v]) :
    Calls Try.prog 31 #[.agg #[u, v], .int .i64 a, .agg #[.int .u8 x.1, .int .u16 x.2]] w (WriteRet ⟨[], []⟩ 6 w) := by
  have HM := Lib.hid hm
  obtain ⟨u', v', e, hu, hv⟩ := mm_out hm
  cases e
  obtain ⟨A, c, rfl, _⟩ := hu.size_eq
  obtain ⟨B, d, rfl, _⟩ := hv.size_eq
  clear hm hu hv
  go_enter Try.func31, Try.ntmps31
  go_wp2_with fail
  have hgr : w.grownBy (((w.alloc (.cells #[.slice A m.cells.length c, .slice B m.lines.length d] 27)).alloc (.cells #[.int .u8 x.1, .int .u16 x.2] 30)).alloc (.cells #[.slice none 0 0, .slice none 0 0] 27)) none := grown_alloc (grown_alloc (grown_alloc (grown_refl _ _) _) _) _
  have hb3 : Bk (((w.alloc (.cells #[.slice A m.cells.length c, .slice B m.lines.length d] 27)).alloc (.cells #[.int .u8 x.1, .int .u16 x.2] 30)).alloc (.cells #[.slice none 0 0, .slice none 0 0] 27)) w.heap.size 27 [.slice A m.cells.length c, .slice B m.lines.length d] := (Bk.new.grow (grown_alloc (grown_refl _ _) _)).grow (grown_alloc (grown_refl _ _) _)
  have hb5 : Bk (((w.alloc (.cells #[.slice A m.cells.length c, .slice B m.lines.length d] 27)).alloc (.cells #[.int .u8 x.1, .int .u16 x.2] 30)).alloc (.cells #[.slice none 0 0, .slice none 0 0] 27)) (w.heap.size + 1) 30 [.int .u8 x.1, .int .u16 x.2] := by
    have h := Bk.new (w := w.alloc (.cells #[.slice A m.cells.length c, .slice B m.lines.length d] 27)) (t := 30) (vs := [.int .u8 x.1, .int .u16 x.2])
    have h2 := h.grow (grown_alloc (grown_refl _ _) (.cells #[.slice none 0 0, .slice none 0 0] 27))
    simpa using h2
  have hb6 : Bk (((w.alloc (.cells #[.slice A m.cells.length c, .slice B m.lines.length d] 27)).alloc (.cells #[.int .u8 x.1, .int .u16 x.2] 30)).alloc (.cells #[.slice none 0 0, .slice none 0 0] 27)) (w.heap.size + 1 + 1) 27 [.slice none 0 0, .slice none 0 0] := by
    have h := Bk.new (w := (w.alloc (.cells #[.slice A m.cells.length c, .slice B m.lines.length d] 27)).alloc (.cells #[.int .u8 x.1, .int .u16 x.2] 30)) (t := 27) (vs := [.slice none 0 0, .slice none 0 0])
    simpa using h
  have hsz : (((w.alloc (.cells #[.slice A m.cells.length c, .slice B m.lines.length d] 27)).alloc (.cells #[.int .u8 x.1, .int .u16 x.2] 30)).alloc (.cells #[.slice none 0 0, .slice none 0 0] 27)).heap.size = w.heap.size + 3 := by simp
  generalize ((w.alloc (.cells #[.slice A m.cells.length c, .slice B m.lines.length d] 27)).alloc (.cells #[.int .u8 x.1, .int .u16 x.2] 30)).alloc (.cells #[.slice none 0 0, .slice none 0 0] 27) = W3 at *
  refine (ref01_Valid_any x true hx W3).mono ?_
  rintro e w0 ⟨rfl, hg0⟩
  have HG := Lib.hid (grown_trans hgr hg0)
  have HB3 := Lib.hid (hb3.grow hg0)
  have HB5 := Lib.hid (hb5.grow hg0)
  have HB6 := Lib.hid (hb6.grow hg0)
  have HS := Lib.hid (show w.heap.size + 3 ≤ w0.heap.size from by have := hg0.size; omega)
  clear hgr hb3 hb5 hb6 hsz hg0 hx
  have r0 := HB6.out.cell 0
  have r1 := HB6.out.cell 1
  have y0 := HB6.out.free 0
  have y1 := HB6.out.free 1
  have s0 := HB5.out.cell 0
  have s1 := HB5.out.cell 1
  have t0 := HB3.out.cell 0
  have t1 := HB3.out.cell 1
  have d5 : w.heap.size + 1 + 1 < w0.heap.size := HB6.out.hi
  simp only [List.getElem?_cons_zero, List.getElem?_cons_succ] at r0 r1 s0 s1 t0 t1
  by_cases h0 : a < 0
  · go_wp2_with fail
    refine bodyPost_ret (v := .tuple #[.agg #[.slice none 0 0, .slice none 0 0], .int .i64 6]) (by simp [results, Try.results31, go_sem, r0, r1, d5]) rfl ?_
    exact ⟨_, _, [], rfl, own_zero _, List.nodup_nil, by simp, grown_set (grown_set HG.out (.inr (by show _ ≤ w.heap.size + 1 + 1; omega)) _) (.inr (by show _ ≤ w.heap.size + 1 + 1; omega)) _⟩
  · have h1 : 512 ≤ a := by rcases ha with h | h; exact absurd h h0; exact h
    go_wp2_with fail
    refine bodyPost_ret (v := .tuple #[.agg #[.slice none 0 0, .slice none 0 0], .int .i64 6]) (by simp [results, Try.results31, go_sem, r0, r1, d5]) rfl ?_
    exact ⟨_, _, [], rfl, own_zero _, List.nodup_nil, by simp, grown_set (grown_set HG.out (.inr (by show _ ≤ w.heap.size + 1 + 1; omega)) _) (.inr (by show _ ≤ w.heap.size + 1 + 1; omega)) _⟩
set_option maxRecDepth 100000 in
set_option maxHeartbeats 2000000 in
theorem lines_Write_out (a : Int) (ha : Outside a) (w : World) (p : Value) (x : Cel) :
    Calls Try.prog 34 #[p, .int .i64 a, .agg #[.int .u8 x.1, .int .u16 x.2]] w (ValidPost false w) := by
  go_enter Try.func34, Try.ntmps34
  go_wp2_with (go_at_call 47; refine (lines_Fetch_out a ha _ _).mono ?_; rintro e w' ⟨rfl, rfl⟩)
  go_ret
  exact ⟨rfl, grown_alloc (grown_refl _ _) _⟩
set_option maxRecDepth 100000 in
set_option maxHeartbeats 2000000 in
theorem cache_Write_out (F : Nat → Prop) (m : Mm) (x : Cel) (a : Int) (ha : Outside a) (hx : decide (x.1 ≤ 2) = true) (u v : Value) (w : World) (hm : rMm.rep w F m [u, v]) :
    Calls Try.prog 15 #[.agg #[u, v], .int .i64 a, .agg #[.int .u8 x.1, .int .u16 x.2]] w (WriteRet ⟨[], []⟩ 6 w) := by
  have HM := Lib.hid hm
  obtain ⟨u', v', e, hu, hv⟩ := mm_out hm
  cases e
  obtain ⟨A, c, rfl, _⟩ := hu.size_eq
  obtain ⟨B, d, rfl, _⟩ := hv.size_eq
  clear hm hu hv
  go_enter Try.func15, Try.ntmps15
  go_wp2_with fail
  have hgr : w.grownBy (((w.alloc (.cells #[.slice A m.cells.length c, .slice B m.lines.length d] 27)).alloc (.cells #[.int .u8 x.1, .int .u16 x.2] 30)).alloc (.cells #[.slice none 0 0, .slice none 0 0] 27)) none := grown_alloc (grown_alloc (grown_alloc (grown_refl _ _) _) _) _
  have hb3 : Bk (((w.alloc (.cells #[.slice A m.cells.length c, .slice B m.lines.length d] 27)).alloc (.cells #[.int .u8 x.1, .int .u16 x.2] 30)).alloc (.cells #[.slice none 0 0, .slice none 0 0] 27)) w.heap.size 27 [.slice A m.cells.length c, .slice B m.lines.length d] := (Bk.new.grow (grown_alloc (grown_refl _ _) _)).grow (grown_alloc (grown_refl _ _) _)
  have hb5 : Bk (((w.alloc (.cells #[.slice A m.cells.length c, .slice B m.lines.length d] 27)).alloc (.cells #[.int .u8 x.1, .int .u16 x.2] 30)).alloc (.cells #[.slice none 0 0, .slice none 0 0] 27)) (w.heap.size + 1) 30 [.int .u8 x.1, .int .u16 x.2] := by
    have h := Bk.new (w := w.alloc (.cells #[.slice A m.cells.length c, .slice B m.lines.length d] 27)) (t := 30) (vs := [.int .u8 x.1, .int .u16 x.2])
    have h2 := h.grow (grown_alloc (grown_refl _ _) (.cells #[.slice none 0 0, .slice none 0 0] 27))
    simpa using h2
  have hb6 : Bk (((w.alloc (.cells #[.slice A m.cells.length c, .slice B m.lines.length d] 27)).alloc (.cells #[.int .u8 x.1, .int .u16 x.2] 30)).alloc (.cells #[.slice none 0 0, .slice none 0 0] 27)) (w.heap.size + 1 + 1) 27 [.slice none 0 0, .slice none 0 0] := by
    have h := Bk.new (w := (w.alloc (.cells #[.slice A m.cells.length c, .slice B m.lines.length d] 27)).alloc (.cells #[.int .u8 x.1, .int .u16 x.2] 30)) (t := 27) (vs := [.slice none 0 0, .slice none 0 0])
    simpa using h
  have hsz : (((w.alloc (.cells #[.slice A m.cells.length c, .slice B m.lines.length d] 27)).alloc (.cells #[.int .u8 x.1, .int .u16 x.2] 30)).alloc (.cells #[.slice none 0 0, .slice none 0 0] 27)).heap.size = w.heap.size + 3 := by simp
  generalize ((w.alloc (.cells #[.slice A m.cells.length c, .slice B m.lines.length d] 27)).alloc (.cells #[.int .u8 x.1, .int .u16 x.2] 30)).alloc (.cells #[.slice none 0 0, .slice none 0 0] 27) = W3 at *
  refine (word_Valid_any x true hx W3).mono ?_
  rintro e w0 ⟨rfl, hg0⟩
  have HG := Lib.hid (grown_trans hgr hg0)
  have HB3 := Lib.hid (hb3.grow hg0)
  have HB5 := Lib.hid (hb5.grow hg0)
  have HB6 := Lib.hid (hb6.grow hg0)
  have HS := Lib.hid (show w.heap.size + 3 ≤ w0.heap.size from by have := hg0.size; omega)
  clear hgr hb3 hb5 hb6 hsz hg0 hx
  have r0 := HB6.out.cell 0
  have r1 := HB6.out.cell 1
  have y0 := HB6.out.free 0
  have y1 := HB6.out.free 1
  have s0 := HB5.out.cell 0
  have s1 := HB5.out.cell 1
  have t0 := HB3.out.cell 0
  have t1 := HB3.out.cell 1
  have d5 : w.heap.size + 1 + 1 < w0.heap.size := HB6.out.hi
  simp only [List.getElem?_cons_zero, List.getElem?_cons_succ] at r0 r1 s0 s1 t0 t1
  go_wp2_with fail
  refine (memory_Copy_any F m _ _ w0 (rMm.grow HM.out HG.out)).mono ?_
  rintro e w1 ⟨cs, fp, rfl, ho, hnd, hlo, hg1⟩
  obtain ⟨u1, v1, f0, g0, rfl, _, hu1, hv1⟩ := mm_owned ho
  obtain ⟨A1, c1, rfl⟩ := hu1.shape
  obtain ⟨B1, d1, rfl⟩ := hv1.shape
  have HO := Lib.hid ho
  have HN := Lib.hid (And.intro hnd hlo)
  have HG1 := Lib.hid hg1
  have hb5 := HB5.out.grow hg1
  have hb6 := HB6.out.grow hg1
  have s0 := hb5.cell 0
  have s1 := hb5.cell 1
  have d6 := hb5.hi
  simp only [List.getElem?_cons_zero, List.getElem?_cons_succ] at s0 s1
  clear ho hnd hlo hg1 hu1 hv1
  go_wp2_with fail
  have hgA : w1.grownBy (w1.alloc (.cells #[.slice A1 m.cells.length c1, .slice B1 m.lines.length d1] 27)) none := grown_alloc (grown_refl _ _) _
  have hb6 := hb6.grow hgA
  have hgr := grown_trans (grown_trans HG.out HG1.out) hgA
  generalize w1.alloc (.cells #[.slice A1 m.cells.length c1, .slice B1 m.lines.length d1] 27) = W2 at *
  refine (lines_Write_out a ha _ _ x).mono ?_
  rintro e w4 ⟨rfl, hg4⟩
  have hb6 := hb6.grow hg4
  have r0 := hb6.cell 0
  have r1 := hb6.cell 1
  have y0 := hb6.free 0
  have y1 := hb6.free 1
  have d5 := hb6.hi
  simp only [List.getElem?_cons_zero, List.getElem?_cons_succ] at r0 r1
  have HGG := Lib.hid (grown_trans hgr hg4)
  clear hgr hg4 hb6 hgA
  go_wp2_with fail
  refine bodyPost_ret (v := .tuple #[.agg #[.slice none 0 0, .slice none 0 0], .int .i64 6]) (by simp [results, Try.results15, go_sem, r0, r1, d5]) rfl ?_
  exact ⟨_, _, [], rfl, own_zero _, List.nodup_nil, by simp, grown_set (grown_set HGG.out (.inr (by show _ ≤ w.heap.size + 1 + 1; omega)) _) (.inr (by show _ ≤ w.heap.size + 1 + 1; omega)) _⟩
set_option maxRecDepth 100000 in
set_option maxHeartbeats 2000000 in
theorem ref05_Write_in (F : Nat → Prop) (m : Mm) (x : Cel) (hxw : CelWf x) (a : Nat) (ha : a < 512) (hok : MmOk m) (hx : decide (x.1 ≤ 2) = true) (u v : Value) (w : World) (hm : rMm.rep w F m [u, v]) :
    Calls Try.prog 24 #[.agg #[u, v], .int .i64 a, .agg #[.int .u8 x.1, .int .u16 x.2]] w (WriteRet (storeM m a x) 0 w) := by
  have HM := Lib.hid hm
  obtain ⟨u', v', e, hu, hv⟩ := mm_out hm
  cases e
  obtain ⟨A, c, rfl, _⟩ := hu.size_eq
  obtain ⟨B, d, rfl, _⟩ := hv.size_eq
  clear hm hu hv
  have ha0 : (0 : Int) ≤ (a : Int) := by omega
  have ha1 : (a : Int) < 512 := by omega
  have hn0 : decide ((a : Int) < 0) = false := by simp
  have hn1 : decide ((512 : Int) ≤ (a : Int)) = false := by simp; omega
  have Hok := Lib.hid hok
  have Hxw := Lib.hid hxw
  clear hok hxw
  go_enter Try.func24, Try.ntmps24
  go_wp2_with fail
  have hgr : w.grownBy (((w.alloc (.cells #[.slice A m.cells.length c, .slice B m.lines.length d] 27)).alloc (.cells #[.int .u8 x.1, .int .u16 x.2] 30)).alloc (.cells #[.slice none 0 0, .slice none 0 0] 27)) none := grown_alloc (grown_alloc (grown_alloc (grown_refl _ _) _) _) _
  have hb3 : Bk (((w.alloc (.cells #[.slice A m.cells.length c, .slice B m.lines.length d] 27)).alloc (.cells #[.int .u8 x.1, .int .u16 x.2] 30)).alloc (.cells #[.slice none 0 0, .slice none 0 0] 27)) w.heap.size 27 [.slice A m.cells.length c, .slice B m.lines.length d] := (Bk.new.grow (grown_alloc (grown_refl _ _) _)).grow (grown_alloc (grown_refl _ _) _)
  have hb5 : Bk (((w.alloc (.cells #[.slice A m.cells.length c, .slice B m.lines.length d] 27)).alloc (.cells #[.int .u8 x.1, .int .u16 x.2] 30)).alloc (.cells #[.slice none 0 0, .slice none 0 0] 27)) (w.heap.size + 1) 30 [.int .u8 x.1, .int .u16 x.2] := by
    have h := Bk.new (w := w.alloc (.cells #[.slice A m.cells.length c, .slice B m.lines.length d] 27)) (t := 30) (vs := [.int .u8 x.1, .int .u16 x.2])
    have h2 := h.grow (grown_alloc (grown_refl _ _) (.cells #[.slice none 0 0, .slice none 0 0] 27))
    simpa using h2
  have hb6 : Bk (((w.alloc (.cells #[.slice A m.cells.length c, .slice B m.lines.length d] 27)).alloc (.cells #[.int .u8 x.1, .int .u16 x.2] 30)).alloc (.cells #[.slice none 0 0, .slice none 0 0] 27)) (w.heap.size + 1 + 1) 27 [.slice none 0 0, .slice none 0 0] := by
    have h := Bk.new (w := (w.alloc (.cells #[.slice A m.cells.length c, .slice B m.lines.length d] 27)).alloc (.cells #[.int .u8 x.1, .int .u16 x.2] 30)) (t := 27) (vs := [.slice none 0 0, .slice none 0 0])
    simpa using h
  have hsz : (((w.alloc (.cells #[.slice A m.cells.length c, .slice B m.lines.length d] 27)).alloc (.cells #[.int .u8 x.1, .int .u16 x.2] 30)).alloc (.cells #[.slice none 0 0, .slice none 0 0] 27)).heap.size = w.heap.size + 3 := by simp
  generalize ((w.alloc (.cells #[.slice A m.cells.length c, .slice B m.lines.length d] 27)).alloc (.cells #[.int .u8 x.1, .int .u16 x.2] 30)).alloc (.cells #[.slice none 0 0, .slice none 0 0] 27) = W3 at *
  refine (ref01_Valid_any x true hx W3).mono ?_
  rintro e w0 ⟨rfl, hg0⟩
  have HG := Lib.hid (grown_trans hgr hg0)
  have HB3 := Lib.hid (hb3.grow hg0)
  have HB5 := Lib.hid (hb5.grow hg0)
  have HB6 := Lib.hid (hb6.grow hg0)
  have HS := Lib.hid (show w.heap.size + 3 ≤ w0.heap.size from by have := hg0.size; omega)
  clear hgr hb3 hb5 hb6 hsz hg0 hx
  have r0 := HB6.out.cell 0
  have r1 := HB6.out.cell 1
  have y0 := HB6.out.free 0
  have y1 := HB6.out.free 1
  have s0 := HB5.out.cell 0
  have s1 := HB5.out.cell 1
  have t0 := HB3.out.cell 0
  have t1 := HB3.out.cell 1
  have d5 : w.heap.size + 1 + 1 < w0.heap.size := HB6.out.hi
  simp only [List.getElem?_cons_zero, List.getElem?_cons_succ] at r0 r1 s0 s1 t0 t1
  go_wp2_with fail
  refine (ref04_Copy_any F m _ _ w0 (rMm.grow HM.out HG.out)).mono ?_
  rintro e w1 ⟨cs, fp, rfl, ho, hnd, hlo, hg1⟩
  obtain ⟨u1, v1, f0, g0, rfl, _, hu1, hv1⟩ := mm_owned ho
  obtain ⟨A1, c1, rfl⟩ := hu1.shape
  obtain ⟨B1, d1, rfl⟩ := hv1.shape
  have HO := Lib.hid ho
  have HN := Lib.hid (And.intro hnd hlo)
  have HG1 := Lib.hid hg1
  have hb5 := HB5.out.grow hg1
  have hb6 := HB6.out.grow hg1
  have s0 := hb5.cell 0
  have s1 := hb5.cell 1
  have d6 := hb5.hi
  simp only [List.getElem?_cons_zero, List.getElem?_cons_succ] at s0 s1
  clear ho hnd hlo hg1 hu1 hv1
  go_wp2_with fail
  have hgA : w1.grownBy (w1.alloc (.cells #[.slice A1 m.cells.length c1, .slice B1 m.lines.length d1] 27)) none := grown_alloc (grown_refl _ _) _
  have hb6 := hb6.grow hgA
  have hat := own_memAt (p := w1.heap.size) Hok.out HO.out HN.out.1 (Bk.new (w := w1) (t := 27) (vs := [.slice A1 m.cells.length c1, .slice B1 m.lines.length d1])) (fun k hk => hgA.block k (rMm.olive HO.out k hk) (by simp)) (fun h => by have := rMm.olive HO.out _ h; omega)
  have hsA : (w1.alloc (.cells #[.slice A1 m.cells.length c1, .slice B1 m.lines.length d1] 27)).heap.size = w1.heap.size + 1 := by simp
  generalize hWA : w1.alloc (.cells #[.slice A1 m.cells.length c1, .slice B1 m.lines.length d1] 27) = W2 at *
  clear hWA
  obtain ⟨qc, cc, ql, cl, lv, f1, f2, f3, c1', c2', e1, e2, rfl, hO⟩ := hat.opened (i := a / 4 % 4) (Nat.mod_lt _ (by omega))
  refine (ref05_Store_any m a x Hxw.out ha Hok.out hO).mono ?_
  rintro e w4 ⟨lv', f', rfl, hM, hT, hf⟩
  have hq := HN.out.2
  have hqc := hq qc (by simp)
  have hql := hq ql (by simp)
  have hs3 := HS.out
  have hs4 : w.heap.size + 3 ≤ w1.heap.size := by have := HG1.out.size; omega
  have hXlo : ∀ k, (k = qc ∨ k = ql ∨ k ∈ f2) → w.heap.size + 3 ≤ k := fun k hk => by
    rcases hk with h | h | h
    · omega
    · omega
    · have := hq k (by simp [h]); omega
  have hb6 := hb6.keep (hT.block _ hb6.hi (fun hx => by have := hXlo _ hx; omega))
  have hcl := hM.closed
  have hfin : ∀ k, k ∈ qc :: ql :: (f1 ++ f' ++ f3) → w.heap.size + 3 ≤ k := fun k hk => by
    simp only [List.mem_cons, List.mem_append] at hk
    rcases hk with h | h | (h | h) | h
    · omega
    · omega
    · have := hq k (by simp [h]); omega
    · rcases hf k h with h' | h'
      · have := hq k (by simp [h']); omega
      · have := HG1.out.size; omega
    · have := hq k (by simp [h]); omega
  have hgr4 : w.grownBy w4 none := hT.own (grown_trans (grown_trans HG.out HG1.out) hgA) fun k hk => by have := hXlo k hk; omega
  have p0 := hM.blk.cell 0
  have p1 := hM.blk.cell 1
  have r0 := hb6.cell 0
  have r1 := hb6.cell 1
  have y0 := hb6.free 0
  have y1 := hb6.free 1
  have d5 := hb6.hi
  simp only [List.getElem?_cons_zero, List.getElem?_cons_succ] at p0 p1 r0 r1
  have hs5 : w1.heap.size < w4.heap.size := hM.blk.hi
  have HCL := Lib.hid hcl
  have HFI := Lib.hid hfin
  have HG4 := Lib.hid hgr4
  clear hcl hfin hgr4 hb6 hM hT hf hO hat hq hsA hgA hXlo
  generalize hp : w1.heap.size = p at *
  go_wp2_with fail
  refine bodyPost_ret (v := .tuple #[.agg #[.slice (some ⟨qc, 0, none⟩) 512 cc, .slice (some ⟨ql, 0, none⟩) 4 cl], .int .i64 0]) (by simp [results, Try.results24, go_sem, r0, r1, d5]) rfl ?_
  refine ⟨_, _, _, rfl, rMm.okeep HCL.out.own fun k hk => ?_, (List.nodup_cons.1 HCL.out.nd).2, fun k hk => by have := HFI.out k hk; omega, ?_⟩
  · have h1 := HFI.out k hk
    rw [heap_setCell_other _ _ _ _ (show k ≠ w.heap.size + 1 + 1 by omega), heap_setCell_other _ _ _ _ (show k ≠ w.heap.size + 1 + 1 by omega)]
  · exact grown_set (grown_set HG4.out (.inr (by show _ ≤ w.heap.size + 1 + 1; omega)) _) (.inr (by show _ ≤ w.heap.size + 1 + 1; omega)) _
set_option maxRecDepth 100000 in
set_option maxHeartbeats 2000000 in
theorem cache_Write_in (F : Nat → Prop) (m : Mm) (x : Cel) (hxw : CelWf x) (a : Nat) (ha : a < 512) (hok : MmOk m) (hx : decide (x.1 ≤ 2) = true) (u v : Value) (w : World) (hm : rMm.rep w F m [u, v]) :
    Calls Try.prog 15 #[.agg #[u, v], .int .i64 a, .agg #[.int .u8 x.1, .int .u16 x.2]] w (WriteRet (storeM m a x) 0 w) := by
  have HM := Lib.hid hm
  obtain ⟨u', v', e, hu, hv⟩ := mm_out hm
  cases e
  obtain ⟨A, c, rfl, _⟩ := hu.size_eq
  obtain ⟨B, d, rfl, _⟩ := hv.size_eq
  clear hm hu hv
  have ha0 : (0 : Int) ≤ (a : Int) := by omega
  have ha1 : (a : Int) < 512 := by omega
  have hn0 : decide ((a : Int) < 0) = false := by simp
  have hn1 : decide ((512 : Int) ≤ (a : Int)) = false := by simp; omega
  have Hok := Lib.hid hok
  have Hxw := Lib.hid hxw
  clear hok hxw
  go_enter Try.func15, Try.ntmps15
  go_wp2_with fail
  have hgr : w.grownBy (((w.alloc (.cells #[.slice A m.cells.length c, .slice B m.lines.length d] 27)).alloc (.cells #[.int .u8 x.1, .int .u16 x.2] 30)).alloc (.cells #[.slice none 0 0, .slice none 0 0] 27)) none := grown_alloc (grown_alloc (grown_alloc (grown_refl _ _) _) _) _
  have hb3 : Bk (((w.alloc (.cells #[.slice A m.cells.length c, .slice B m.lines.length d] 27)).alloc (.cells #[.int .u8 x.1, .int .u16 x.2] 30)).alloc (.cells #[.slice none 0 0, .slice none 0 0] 27)) w.heap.size 27 [.slice A m.cells.length c, .slice B m.lines.length d] := (Bk.new.grow (grown_alloc (grown_refl _ _) _)).grow (grown_alloc (grown_refl _ _) _)
  have hb5 : Bk (((w.alloc (.cells #[.slice A m.cells.length c, .slice B m.lines.length d] 27)).alloc (.cells #[.int .u8 x.1, .int .u16 x.2] 30)).alloc (.cells #[.slice none 0 0, .slice none 0 0] 27)) (w.heap.size + 1) 30 [.int .u8 x.1, .int .u16 x.2] := by
    have h := Bk.new (w := w.alloc (.cells #[.slice A m.cells.length c, .slice B m.lines.length d] 27)) (t := 30) (vs := [.int .u8 x.1, .int .u16 x.2])
    have h2 := h.grow (grown_alloc (grown_refl _ _) (.cells #[.slice none 0 0, .slice none 0 0] 27))
    simpa using h2
  have hb6 : Bk (((w.alloc (.cells #[.slice A m.cells.length c, .slice B m.lines.length d] 27)).alloc (.cells #[.int .u8 x.1, .int .u16 x.2] 30)).alloc (.cells #[.slice none 0 0, .slice none 0 0] 27)) (w.heap.size + 1 + 1) 27 [.slice none 0 0, .slice none 0 0] := by
    have h := Bk.new (w := (w.alloc (.cells #[.slice A m.cells.length c, .slice B m.lines.length d] 27)).alloc (.cells #[.int .u8 x.1, .int .u16 x.2] 30)) (t := 27) (vs := [.slice none 0 0, .slice none 0 0])
    simpa using h
  have hsz : (((w.alloc (.cells #[.slice A m.cells.length c, .slice B m.lines.length d] 27)).alloc (.cells #[.int .u8 x.1, .int .u16 x.2] 30)).alloc (.cells #[.slice none 0 0, .slice none 0 0] 27)).heap.size = w.heap.size + 3 := by simp
  generalize ((w.alloc (.cells #[.slice A m.cells.length c, .slice B m.lines.length d] 27)).alloc (.cells #[.int .u8 x.1, .int .u16 x.2] 30)).alloc (.cells #[.slice none 0 0, .slice none 0 0] 27) = W3 at *
  refine (word_Valid_any x true hx W3).mono ?_
  rintro e w0 ⟨rfl, hg0⟩
  have HG := Lib.hid (grown_trans hgr hg0)
  have HB3 := Lib.hid (hb3.grow hg0)
  have HB5 := Lib.hid (hb5.grow hg0)
  have HB6 := Lib.hid (hb6.grow hg0)
  have HS := Lib.hid (show w.heap.size + 3 ≤ w0.heap.size from by have := hg0.size; omega)
  clear hgr hb3 hb5 hb6 hsz hg0 hx
  have r0 := HB6.out.cell 0
  have r1 := HB6.out.cell 1
  have y0 := HB6.out.free 0
  have y1 := HB6.out.free 1
  have s0 := HB5.out.cell 0
  have s1 := HB5.out.cell 1
  have t0 := HB3.out.cell 0
  have t1 := HB3.out.cell 1
  have d5 : w.heap.size + 1 + 1 < w0.heap.size := HB6.out.hi
  simp only [List.getElem?_cons_zero, List.getElem?_cons_succ] at r0 r1 s0 s1 t0 t1
  go_wp2_with fail
  refine (memory_Copy_any F m _ _ w0 (rMm.grow HM.out HG.out)).mono ?_
  rintro e w1 ⟨cs, fp, rfl, ho, hnd, hlo, hg1⟩
  obtain ⟨u1, v1, f0, g0, rfl, _, hu1, hv1⟩ := mm_owned ho
  obtain ⟨A1, c1, rfl⟩ := hu1.shape
  obtain ⟨B1, d1, rfl⟩ := hv1.shape
  have HO := Lib.hid ho
  have HN := Lib.hid (And.intro hnd hlo)
  have HG1 := Lib.hid hg1
  have hb5 := HB5.out.grow hg1
  have hb6 := HB6.out.grow hg1
  have s0 := hb5.cell 0
  have s1 := hb5.cell 1
  have d6 := hb5.hi
  simp only [List.getElem?_cons_zero, List.getElem?_cons_succ] at s0 s1
  clear ho hnd hlo hg1 hu1 hv1
  go_wp2_with fail
  have hgA : w1.grownBy (w1.alloc (.cells #[.slice A1 m.cells.length c1, .slice B1 m.lines.length d1] 27)) none := grown_alloc (grown_refl _ _) _
  have hb6 := hb6.grow hgA
  have hat := own_memAt (p := w1.heap.size) Hok.out HO.out HN.out.1 (Bk.new (w := w1) (t := 27) (vs := [.slice A1 m.cells.length c1, .slice B1 m.lines.length d1])) (fun k hk => hgA.block k (rMm.olive HO.out k hk) (by simp)) (fun h => by have := rMm.olive HO.out _ h; omega)
  have hsA : (w1.alloc (.cells #[.slice A1 m.cells.length c1, .slice B1 m.lines.length d1] 27)).heap.size = w1.heap.size + 1 := by simp
  generalize hWA : w1.alloc (.cells #[.slice A1 m.cells.length c1, .slice B1 m.lines.length d1] 27) = W2 at *
  clear hWA
  obtain ⟨qc, cc, ql, cl, lv, f1, f2, f3, c1', c2', e1, e2, rfl, hO⟩ := hat.opened (i := a / 4 % 4) (Nat.mod_lt _ (by omega))
  refine (lines_Write_any m a x Hxw.out ha Hok.out hO).mono ?_
  rintro e w4 ⟨lv', f', rfl, hM, hT, hf⟩
  have hq := HN.out.2
  have hqc := hq qc (by simp)
  have hql := hq ql (by simp)
  have hs3 := HS.out
  have hs4 : w.heap.size + 3 ≤ w1.heap.size := by have := HG1.out.size; omega
  have hXlo : ∀ k, (k = qc ∨ k = ql ∨ k ∈ f2) → w.heap.size + 3 ≤ k := fun k hk => by
    rcases hk with h | h | h
    · omega
    · omega
    · have := hq k (by simp [h]); omega
  have hb6 := hb6.keep (hT.block _ hb6.hi (fun hx => by have := hXlo _ hx; omega))
  have hcl := hM.closed
  have hfin : ∀ k, k ∈ qc :: ql :: (f1 ++ f' ++ f3) → w.heap.size + 3 ≤ k := fun k hk => by
    simp only [List.mem_cons, List.mem_append] at hk
    rcases hk with h | h | (h | h) | h
    · omega
    · omega
    · have := hq k (by simp [h]); omega
    · rcases hf k h with h' | h'
      · have := hq k (by simp [h']); omega
      · have := HG1.out.size; omega
    · have := hq k (by simp [h]); omega
  have hgr4 : w.grownBy w4 none := hT.own (grown_trans (grown_trans HG.out HG1.out) hgA) fun k hk => by have := hXlo k hk; omega
  have p0 := hM.blk.cell 0
  have p1 := hM.blk.cell 1
  have r0 := hb6.cell 0
  have r1 := hb6.cell 1
  have y0 := hb6.free 0
  have y1 := hb6.free 1
  have d5 := hb6.hi
  simp only [List.getElem?_cons_zero, List.getElem?_cons_succ] at p0 p1 r0 r1
  have hs5 : w1.heap.size < w4.heap.size := hM.blk.hi
  have HCL := Lib.hid hcl
  have HFI := Lib.hid hfin
  have HG4 := Lib.hid hgr4
  clear hcl hfin hgr4 hb6 hM hT hf hO hat hq hsA hgA hXlo
  generalize hp : w1.heap.size = p at *
  go_wp2_with fail
  refine bodyPost_ret (v := .tuple #[.agg #[.slice (some ⟨qc, 0, none⟩) 512 cc, .slice (some ⟨ql, 0, none⟩) 4 cl], .int .i64 0]) (by simp [results, Try.results15, go_sem, r0, r1, d5]) rfl ?_
  refine ⟨_, _, _, rfl, rMm.okeep HCL.out.own fun k hk => ?_, (List.nodup_cons.1 HCL.out.nd).2, fun k hk => by have := HFI.out k hk; omega, ?_⟩
  · have h1 := HFI.out k hk
    rw [heap_setCell_other _ _ _ _ (show k ≠ w.heap.size + 1 + 1 by omega), heap_setCell_other _ _ _ _ (show k ≠ w.heap.size + 1 + 1 by omega)]
  · exact grown_set (grown_set HG4.out (.inr (by show _ ≤ w.heap.size + 1 + 1; omega)) _) (.inr (by show _ ≤ w.heap.size + 1 + 1; omega)) _

set_option maxRecDepth 100000 in
set_option maxHeartbeats 2000000 in
theorem ref04_Poke_in (F : Nat → Prop) (m : Mm) (x : Cel) (hxw : CelWf x) (a : Nat) (ha : a < 512) (hok : MmOk m) (hx : decide (x.1 ≤ 2) = true) (u v : Value) (w : World) (hm : rMm.rep w F m [u, v]) :
    Calls Try.prog 31 #[.agg #[u, v], .int .i64 a, .agg #[.int .u8 x.1, .int .u16 x.2]] w (WriteRet (pokeM m a x) 0 w) := by
  have HM := Lib.hid hm
  obtain ⟨u', v', e, hu, hv⟩ := mm_out hm
  cases e
  obtain ⟨A, c, rfl, _⟩ := hu.size_eq
  obtain ⟨B, d, rfl, _⟩ := hv.size_eq
  clear hm hu hv
  have ha0 : (0 : Int) ≤ (a : Int) := by omega
  have ha1 : (a : Int) < 512 := by omega
  have hn0 : decide ((a : Int) < 0) = false := by simp
  have hn1 : decide ((512 : Int) ≤ (a : Int)) = false := by simp; omega
  have Hok := Lib.hid hok
  have Hxw := Lib.hid hxw
  clear hok hxw
  go_enter Try.func31, Try.ntmps31
  go_wp2_with fail
  have hgr : w.grownBy (((w.alloc (.cells #[.slice A m.cells.length c, .slice B m.lines.length d] 27)).alloc (.cells #[.int .u8 x.1, .int .u16 x.2] 30)).alloc (.cells #[.slice none 0 0, .slice none 0 0] 27)) none := grown_alloc (grown_alloc (grown_alloc (grown_refl _ _) _) _) _
  have hb3 : Bk (((w.alloc (.cells #[.slice A m.cells.length c, .slice B m.lines.length d] 27)).alloc (.cells #[.int .u8 x.1, .int .u16 x.2] 30)).alloc (.cells #[.slice none 0 0, .slice none 0 0] 27)) w.heap.size 27 [.slice A m.cells.length c, .slice B m.lines.length d] := (Bk.new.grow (grown_alloc (grown_refl _ _) _)).grow (grown_alloc (grown_refl _ _) _)
  have hb5 : Bk (((w.alloc (.cells #[.slice A m.cells.length c, .slice B m.lines.length d] 27)).alloc (.cells #[.int .u8 x.1, .int .u16 x.2] 30)).alloc (.cells #[.slice none 0 0, .slice none 0 0] 27)) (w.heap.size + 1) 30 [.int .u8 x.1, .int .u16 x.2] := by
    have h := Bk.new (w := w.alloc (.cells #[.slice A m.cells.length c, .slice B m.lines.length d] 27)) (t := 30) (vs := [.int .u8 x.1, .int .u16 x.2])
    have h2 := h.grow (grown_alloc (grown_refl _ _) (.cells #[.slice none 0 0, .slice none 0 0] 27))
    simpa using h2
  have hb6 : Bk (((w.alloc (.cells #[.slice A m.cells.length c, .slice B m.lines.length d] 27)).alloc (.cells #[.int .u8 x.1, .int .u16 x.2] 30)).alloc (.cells #[.slice none 0 0, .slice none 0 0] 27)) (w.heap.size + 1 + 1) 27 [.slice none 0 0, .slice none 0 0] := by
    have h := Bk.new (w := (w.alloc (.cells #[.slice A m.cells.length c, .slice B m.lines.length d] 27)).alloc (.cells #[.int .u8 x.1, .int .u16 x.2] 30)) (t := 27) (vs := [.slice none 0 0, .slice none 0 0])
    simpa using h
  have hsz : (((w.alloc (.cells #[.slice A m.cells.length c, .slice B m.lines.length d] 27)).alloc (.cells #[.int .u8 x.1, .int .u16 x.2] 30)).alloc (.cells #[.slice none 0 0, .slice none 0 0] 27)).heap.size = w.heap.size + 3 := by simp
  generalize ((w.alloc (.cells #[.slice A m.cells.length c, .slice B m.lines.length d] 27)).alloc (.cells #[.int .u8 x.1, .int .u16 x.2] 30)).alloc (.cells #[.slice none 0 0, .slice none 0 0] 27) = W3 at *
  refine (ref01_Valid_any x true hx W3).mono ?_
  rintro e w0 ⟨rfl, hg0⟩
  have HG := Lib.hid (grown_trans hgr hg0)
  have HB3 := Lib.hid (hb3.grow hg0)
  have HB5 := Lib.hid (hb5.grow hg0)
  have HB6 := Lib.hid (hb6.grow hg0)
  have HS := Lib.hid (show w.heap.size + 3 ≤ w0.heap.size from by have := hg0.size; omega)
  clear hgr hb3 hb5 hb6 hsz hg0 hx
  have r0 := HB6.out.cell 0
  have r1 := HB6.out.cell 1
  have y0 := HB6.out.free 0
  have y1 := HB6.out.free 1
  have s0 := HB5.out.cell 0
  have s1 := HB5.out.cell 1
  have t0 := HB3.out.cell 0
  have t1 := HB3.out.cell 1
  have d5 : w.heap.size + 1 + 1 < w0.heap.size := HB6.out.hi
  simp only [List.getElem?_cons_zero, List.getElem?_cons_succ] at r0 r1 s0 s1 t0 t1
  go_wp2_with fail
  refine (ref04_Copy_any F m _ _ w0 (rMm.grow HM.out HG.out)).mono ?_
  rintro e w1 ⟨cs, fp, rfl, ho, hnd, hlo, hg1⟩
  obtain ⟨u1, v1, f0, g0, rfl, _, hu1, hv1⟩ := mm_owned ho
  obtain ⟨A1, c1, rfl⟩ := hu1.shape
  obtain ⟨B1, d1, rfl⟩ := hv1.shape
  have HO := Lib.hid ho
  have HN := Lib.hid (And.intro hnd hlo)
  have HG1 := Lib.hid hg1
  have hb5 := HB5.out.grow hg1
  have hb6 := HB6.out.grow hg1
  have s0 := hb5.cell 0
  have s1 := hb5.cell 1
  have d6 := hb5.hi
  simp only [List.getElem?_cons_zero, List.getElem?_cons_succ] at s0 s1
  clear ho hnd hlo hg1 hu1 hv1
  go_upto_region 6 with fail
  have hgA : w1.grownBy (w1.alloc (.cells #[.slice A1 m.cells.length c1, .slice B1 m.lines.length d1] 27)) none := grown_alloc (grown_refl _ _) _
  have hb6 := hb6.grow hgA
  have hat := own_memAt (p := w1.heap.size) Hok.out HO.out HN.out.1 (Bk.new (w := w1) (t := 27) (vs := [.slice A1 m.cells.length c1, .slice B1 m.lines.length d1])) (fun k hk => hgA.block k (rMm.olive HO.out k hk) (by simp)) (fun h => by have := rMm.olive HO.out _ h; omega)
  have hsA : (w1.alloc (.cells #[.slice A1 m.cells.length c1, .slice B1 m.lines.length d1] 27)).heap.size = w1.heap.size + 1 := by simp
  generalize hWA : w1.alloc (.cells #[.slice A1 m.cells.length c1, .slice B1 m.lines.length d1] 27) = W2 at *
  clear hWA
  obtain ⟨qc, cc, ql, cl, lv, f1, f2, f3, c1', c2', e1, e2, rfl, hO⟩ := hat.opened (i := a / 4 % 4) (Nat.mod_lt _ (by omega))
  have hM0 := hO.cells
  have hml : (celsV m.cells).length = 1024 := by rw [celsV_len, Hok.out.cells]
  have g1 := hM0.set (j := a * 2) (.int .u8 x.1) (by omega)
  have g2 := g1.set (j := a * 2 + 1) (.int .u16 x.2) (by rw [List.length_set]; omega)
  rw [← celsV_set] at g2
  have hM := hO.laid (w' := (W2.setCell ⟨qc, a * 2, none⟩ (.int .u8 x.1)).setCell ⟨qc, a * 2 + 1, none⟩ (.int .u16 x.2)) (fun k hk => by rw [heap_setCell_other _ _ _ _ hk, heap_setCell_other _ _ _ _ hk]) (cs := m.cells.set a x) (by simpa using Hok.out.cells) (fun y hy => by
    rcases List.mem_or_eq_of_mem_set hy with hy | rfl
    · exact hO.cwf y hy
    · exact Hxw.out) g2
  have hT : Turns (fun k => k = qc ∨ k = ql ∨ k ∈ f2) W2 ((W2.setCell ⟨qc, a * 2, none⟩ (.int .u8 x.1)).setCell ⟨qc, a * 2 + 1, none⟩ (.int .u16 x.2)) := ((Turns.refl _ _).set (p := ⟨qc, a * 2, none⟩) (.inl (.inl rfl)) _).set (p := ⟨qc, a * 2 + 1, none⟩) (.inl (.inl rfl)) _
  obtain ⟨k0, k1⟩ := row_cell hM0 (j := a) (by rw [Hok.out.cells]; exact ha)
  have kz0 := hM0.free (a * 2)
  have kz1 := hM0.free (a * 2 + 1)
  have q0 := hO.blk.cell 0
  have q1 := hO.blk.cell 1
  have r0 := hb6.cell 0
  have r1 := hb6.cell 1
  have y0 := hb6.free 0
  have y1 := hb6.free 1
  have d5 := hb6.hi
  simp only [List.getElem?_cons_zero, List.getElem?_cons_succ] at q0 q1 r0 r1
  have pn := hO.ne.1
  have pn' := Ne.symm pn
  have hqr : ¬ qc = w.heap.size + 1 + 1 := by have := HN.out.2 qc (by simp); have := HS.out; omega
  have hqr2 : ¬ w.heap.size + 1 + 1 = qc := fun e => hqr e.symm
  have hpr : ¬ w1.heap.size = w.heap.size + 1 + 1 := by have := HS.out; have := HG1.out.size; omega
  have hpr2 : ¬ w.heap.size + 1 + 1 = w1.heap.size := fun e => hpr e.symm
  have hb5 := hb5.grow hgA
  have s0 := hb5.cell 0
  have s1 := hb5.cell 1
  simp only [List.getElem?_cons_zero, List.getElem?_cons_succ] at s0 s1
  have ha2 : (a : Int).toNat = a := by omega
  have HM1 := Lib.hid hM
  have HT1 := Lib.hid hT
  have HA1 := Lib.hid (And.intro hgA hsA)
  have HB6b := Lib.hid hb6
  have Hnd := Lib.hid hat.nd
  have hqp : ¬ qc = w.heap.size + 1 := by have := HN.out.2 qc (by simp); have := HS.out; omega
  have hqp2 : ¬ w.heap.size + 1 = qc := fun e => hqp e.symm
  clear hM hT g1 g2 hM0 hO hat hgA hsA hml hb6 hb5
  simp only [e1, e2]
  go_wp2_with fail
  have hM := HM1.out
  have hT := HT1.out
  have hgA := HA1.out.1
  have hsA := HA1.out.2
  have hb6 := HB6b.out
  have hf : ∀ k, k ∈ f2 → k ∈ f2 ∨ W2.heap.size ≤ k := fun k hk => .inl hk
  have hq := HN.out.2
  have hqc := hq qc (by simp)
  have hql := hq ql (by simp)
  have hs3 := HS.out
  have hs4 : w.heap.size + 3 ≤ w1.heap.size := by have := HG1.out.size; omega
  have hXlo : ∀ k, (k = qc ∨ k = ql ∨ k ∈ f2) → w.heap.size + 3 ≤ k := fun k hk => by
    rcases hk with h | h | h
    · omega
    · omega
    · have := hq k (by simp [h]); omega
  have hb6 := hb6.keep (hT.block _ hb6.hi (fun hx => by have := hXlo _ hx; omega))
  have hcl := hM.closed
  have hfin : ∀ k, k ∈ qc :: ql :: (f1 ++ f2 ++ f3) → w.heap.size + 3 ≤ k := fun k hk => by
    simp only [List.mem_cons, List.mem_append] at hk
    rcases hk with h | h | (h | h) | h
    · omega
    · omega
    · have := hq k (by simp [h]); omega
    · rcases hf k h with h' | h'
      · have := hq k (by simp [h']); omega
      · have := HG1.out.size; omega
    · have := hq k (by simp [h]); omega
  have hgr4 := hT.own (grown_trans (grown_trans HG.out HG1.out) hgA) fun k hk => by have := hXlo k hk; omega
  have HCL := Lib.hid hcl
  have HFI := Lib.hid hfin
  have HG4 := Lib.hid hgr4
  clear hcl hfin hgr4 hb6 hM hT hf hq hsA hgA hXlo
  refine bodyPost_ret (v := .tuple #[.agg #[.slice (some ⟨qc, 0, none⟩) 512 cc, .slice (some ⟨ql, 0, none⟩) 4 cl], .int .i64 0]) (by simp [results, Try.results31, go_sem, r0, r1, d5, hqr, hqr2]) rfl ?_
  refine ⟨_, _, _, rfl, rMm.okeep HCL.out.own fun k hk => ?_, (List.nodup_cons.1 HCL.out.nd).2, fun k hk => by have := HFI.out k hk; omega, ?_⟩
  · have h1 := HFI.out k hk
    rw [heap_setCell_other _ _ _ _ (show k ≠ w.heap.size + 1 + 1 by omega), heap_setCell_other _ _ _ _ (show k ≠ w.heap.size + 1 + 1 by omega)]
  · exact grown_set (grown_set HG4.out (.inr (by show _ ≤ w.heap.size + 1 + 1; omega)) _) (.inr (by show _ ≤ w.heap.size + 1 + 1; omega)) _

end Go.Proofs.Ytndmcnddgcifiaa
