/- The law LayoutMakes, walked; no condition. -/
import Derived.Test.YtenobllgfgmjfaaLayC
import Derived.Test.YtenobllgfgmjfaaLayH
import Derived.Test.YtenobllgfgmjfaaLayP
import Derived.Test.YtenobllgfgmjfaaCopy
import Derived.Test.YtenobllgfgmjfaaRely
import Derived.Deep.DeepCutAuto
import Derived.Deep.CutBlock
import Derived.StillTailTactics
namespace Go.Proofs.Ytenobllgfgmjfaa
open Go.RowKit

/-- Block q holds just these cells, none frozen. -/
def Bk (w : World) (q t : Nat) (vs : List Value) : Prop := w.heap[q]? = some (.cells vs.toArray t (0, 0))
theorem Bk.hi {w : World} {q t : Nat} {vs : List Value} (h : Bk w q t vs) : q < w.heap.size := (Array.getElem?_eq_some_iff.1 h).1
theorem Bk.keep {w w' : World} {q t : Nat} {vs : List Value} (h : Bk w q t vs) (hh : w'.heap[q]? = w.heap[q]?) : Bk w' q t vs := hh.trans h
theorem Bk.grow {w w' : World} {q t : Nat} {vs : List Value} (h : Bk w q t vs) (hg : w.grownBy w' none) : Bk w' q t vs := h.keep (hg.block _ h.hi (by simp))
theorem Bk.cell {w : World} {q t : Nat} {vs : List Value} (h : Bk w q t vs) (j : Nat) : w.cell? ⟨q, j, none⟩ = vs[j]? := by
  rw [cell_of_row _ _ _ _ _ _ h]; simp
theorem Bk.free {w : World} {q t : Nat} {vs : List Value} (h : Bk w q t vs) (j : Nat) : w.frozen? ⟨q, j, none⟩ = false := frozen_of_row _ _ _ _ _ h
theorem Bk.new {w : World} {t : Nat} {vs : List Value} : Bk (w.alloc (.cells vs.toArray t)) w.heap.size t vs := heap_alloc_new w _
theorem Bk.set {w : World} {q t : Nat} {vs : List Value} (h : Bk w q t vs) (j : Nat) (v : Value) : Bk (w.setCell ⟨q, j, none⟩ v) q t (vs.set j v) := by
  unfold Bk; rw [heap_setCell_same _ _ _ _ _ _ h]; simp
theorem Bk.other {w : World} {q t q' j : Nat} {vs : List Value} (h : Bk w q t vs) (hne : q ≠ q') (v : Value) : Bk (w.setCell ⟨q', j, none⟩ v) q t vs := by
  unfold Bk; rw [heap_setCell_other _ _ _ _ hne]; exact h

/-- A layout that can be read: its words and its numbers. -/
structure LayOk (w : World) (v : Value) (k : Int) : Prop where
  ok : ∃ A bs c, v = .slice A (List.length bs) c ∧ bs.length ≤ c ∧ bs.length ≤ 9223372036854775807 ∧ I64s bs ∧ Ints .i64 w (fun k => k < w.heap.size) A bs
theorem LayOk.grow {w w' : World} {v : Value} {k : Int} (h : LayOk w v k) (hg : w.grownBy w' none) : LayOk w' v k := by
  obtain ⟨A, bs, c, e, h1, h2, h3, h4⟩ := h.ok
  exact ⟨A, bs, c, e, h1, h2, h3, h4.low hg⟩

/-- What the law has read and made ahead of its loops: blocks below N. -/
structure MkS (w0 : World) (N q6 q15 : Nat) (R X B S : Option Addr) (bs xs ss rs : List Int) (cr cx : Nat) (kr kx : Int) (w : World) : Prop where
  grown : w0.grownBy w none
  le : N ≤ w.heap.size
  h0 : w0.heap.size ≤ N
  h6 : q6 < N
  h15 : q15 < N
  br : Bk w q6 25 [.slice R bs.length cr, .int .u16 kr]
  bx : Bk w q15 25 [.slice X xs.length cx, .int .u16 kx]
  r : Ints .i64 w (fun k => k < N) R bs
  x : Ints .i64 w (fun k => k < N) X xs
  b : Ints .i64 w (fun k => k < N) B ss
  s : Ints .i64 w (fun k => k < N) S rs
section
variable {w0 w w' : World} {N q6 q15 : Nat} {R X B S : Option Addr} {bs xs ss rs : List Int} {cr cx : Nat} {kr kx : Int}
theorem MkS.grow (h : MkS w0 N q6 q15 R X B S bs xs ss rs cr cx kr kx w) (hg : w.grownBy w' none) : MkS w0 N q6 q15 R X B S bs xs ss rs cr cx kr kx w' := by
  have hF : ∀ k, k < N → k < w.heap.size := fun k hk => Nat.lt_of_lt_of_le hk h.le
  exact ⟨grown_trans h.grown hg, Nat.le_trans h.le hg.size, h.h0, h.h6, h.h15, h.br.grow hg, h.bx.grow hg, h.r.grown hg hF, h.x.grown hg hF, h.b.grown hg hF, h.s.grown hg hF⟩
theorem MkS.set (h : MkS w0 N q6 q15 R X B S bs xs ss rs cr cx kr kx w) {q j : Nat} (hq : N ≤ q) (v : Value) : MkS w0 N q6 q15 R X B S bs xs ss rs cr cx kr kx (w.setCell ⟨q, j, none⟩ v) := by
  have ha : Agree (fun k => k < N) w (w.setCell ⟨q, j, none⟩ v) := (Agree.refl _ _).setCell (by dsimp only; omega) v
  exact ⟨grown_set h.grown (.inr (by have := h.h0; dsimp only; omega)) v, by simpa [World.setCell] using h.le, h.h0, h.h6, h.h15, h.br.other (by have := h.h6; omega) v, h.bx.other (by have := h.h15; omega) v, h.r.keep ha, h.x.keep ha, h.b.keep ha, h.s.keep ha⟩
theorem MkS.lows (h : MkS w0 N q6 q15 R X B S bs xs ss rs cr cx kr kx w) :
    Ints .i64 w (fun k => k < w.heap.size) R bs ∧ Ints .i64 w (fun k => k < w.heap.size) X xs ∧ Ints .i64 w (fun k => k < w.heap.size) B ss ∧ Ints .i64 w (fun k => k < w.heap.size) S rs := by
  have hF : ∀ k, k < N → k < w.heap.size := fun k hk => Nat.lt_of_lt_of_le hk h.le
  exact ⟨Row.sub h.r hF, Row.sub h.x hF, Row.sub h.b hF, Row.sub h.s hF⟩
end
/-- The second layout, whatever was changed in it. -/
def YOk (q17 : Nat) (w : World) : Prop := ∃ Y ys cy, Bk w q17 25 [.slice Y (List.length ys) cy, .int .u16 0] ∧ ys.length ≤ cy ∧ ys.length ≤ 30 ∧ I64s ys ∧ Ints .i64 w (fun k => k < w.heap.size) Y ys

theorem Bk.drew {w : World} {q t : Nat} {vs : List Value} (h : Bk w q t vs) : Bk w.drew q t vs := h
section
variable {w0 w w' : World} {N q6 q15 q17 g cy kn : Nat} {R X B S : Option Addr} {bs xs ss rs : List Int} {cr cx : Nat} {kr kx : Int}
theorem made_put (h : MkS w0 N q6 q15 R X B S bs xs ss rs cr cx kr kx w) (hb : Buf .i64 3 w g cy xs) (hy : Bk w q17 25 [.slice (some ⟨g, 0, none⟩) xs.length cy, .int .u16 0]) (hg : N ≤ g) (hq : g < q17) (hk : kn < xs.length)
    (hx4 : xs.length ≤ 4) (hwx : ∀ x ∈ xs, 0 ≤ x ∧ x ≤ 512) (v : Int) (hv : -9223372036854775808 ≤ v ∧ v ≤ 9223372036854775807) :
    MkS w0 N q6 q15 R X B S bs xs ss rs cr cx kr kx (w.setCell ⟨g, kn, none⟩ (.int .i64 v)).drew ∧ YOk q17 (w.setCell ⟨g, kn, none⟩ (.int .i64 v)).drew := by
  have hb2 := hb.set kn v hk
  refine ⟨(h.set hg _).grow (grown_drew (grown_refl _ _)), some ⟨g, 0, none⟩, xs.set kn v, cy, ?_, hb2.len, by simp; omega, ?_, hb2.low⟩
  · rw [List.length_set]; exact (hy.other (by omega) _).drew
  · intro x hx
    rcases List.mem_or_eq_of_mem_set hx with hx | rfl
    · have := hwx x hx; omega
    · exact hv
theorem made_same (h : MkS w0 N q6 q15 R X B S bs xs ss rs cr cx kr kx w) (hb : Buf .i64 3 w g cy xs) (hy : Bk w q17 25 [.slice (some ⟨g, 0, none⟩) xs.length cy, .int .u16 0])
    (hx4 : xs.length ≤ 4) (hwx : ∀ x ∈ xs, 0 ≤ x ∧ x ≤ 512) :
    MkS w0 N q6 q15 R X B S bs xs ss rs cr cx kr kx w ∧ YOk q17 w :=
  ⟨h, some ⟨g, 0, none⟩, xs, cy, hy, hb.len, by omega, fun x hx => by have := hwx x hx; omega, hb.low⟩
theorem made_tail (h : MkS w0 N q6 q15 R X B S bs xs ss rs cr cx kr kx w) (hy : Bk w q17 25 [.slice (some ⟨g, 0, none⟩) xs.length cy, .int .u16 0]) (hN : N ≤ q17) (hg : g < q17)
    (hx4 : xs.length ≤ 4) (hwx : ∀ x ∈ xs, 0 ≤ x ∧ x ≤ 512) (A0 : Option Addr) (c0 : Nat) (hA : Ints .i64 w (fun b => b = g) A0 xs.tail) (hc : xs.length - 1 ≤ c0) :
    MkS w0 N q6 q15 R X B S bs xs ss rs cr cx kr kx (w.setCell ⟨q17, 0, none⟩ (.slice A0 (xs.length - 1) c0)) ∧ YOk q17 (w.setCell ⟨q17, 0, none⟩ (.slice A0 (xs.length - 1) c0)) := by
  refine ⟨h.set hN _, A0, xs.tail, c0, ?_, by simpa using hc, by simp; omega, fun x hx => by have := hwx x (List.mem_of_mem_tail hx); omega, ?_⟩
  · rw [List.length_tail]; exact hy.set 0 _
  · exact Row.sub (hA.keep ((Agree.refl _ _).setCell (by dsimp only; omega) _)) fun k hk => by rw [hk]; have := hy.hi; simp [World.setCell]; omega
end
set_option maxRecDepth 100000 in
set_option maxHeartbeats 4000000 in
theorem lawMakes_any (R S A : Option Addr) (bs rs L : List Int) (cr cs c : Nat) (kr seed what by_ : Int) (w : World) (hbl : bs.length ≤ cr) (hbm : bs.length ≤ 9223372036854775807) (hrm : rs.length ≤ 9223372036854775807) (hl : L.length ≤ 9223372036854775807)
    (hwb : I64s bs) (hw : I64s L) (hs0 : -9223372036854775808 ≤ seed) (hs1 : seed ≤ 9223372036854775807) (hw0 : -9223372036854775808 ≤ what) (hw1 : what ≤ 9223372036854775807) (hb0 : -9223372036854775808 ≤ by_) (hb1 : by_ ≤ 9223372036854775807)
    (hR : Ints .i64 w (fun k => k < w.heap.size) R bs) (hS : Ints .i64 w (fun k => k < w.heap.size) S rs) (h : Ints .i64 w (fun k => k < w.heap.size) A L) :
    Calls Try.prog 3 #[.agg #[.slice R bs.length cr, .int .u16 kr], .slice S rs.length cs, .slice A L.length c, .int .i64 seed, .int .i64 what, .int .i64 by_] w (BoolGrown true w) := by
  have hgA : w.grownBy (w.alloc (.cells #[.slice R bs.length cr, .int .u16 kr] 25)) none := grown_alloc (grown_refl _ _) _
  obtain ⟨i0, hinf, hz0, hz1, hz2⟩ := info_parts Try.infoInt
  by_cases hx : 30 < bs.length ∨ 30 < rs.length
  · by_cases hx1 : 30 < bs.length
    · have hi1 : (30 : Int) < bs.length := by omega
      go_enter Try.func3, Try.ntmps3
      go_wp2_with (go_at_call 6; refine (awake_any _).mono ?_; rintro e w' ⟨rfl, hg⟩)
      go_ret
      exact ⟨rfl, grown_trans hgA hg⟩
    · have hi1 : ¬ (30 : Int) < bs.length := by omega
      have hi2 : (30 : Int) < rs.length := by omega
      go_enter Try.func3, Try.ntmps3
      go_wp2_with (go_at_call 6; refine (awake_any _).mono ?_; rintro e w' ⟨rfl, hg⟩)
      go_ret
      exact ⟨rfl, grown_trans hgA hg⟩
  have hi1 : ¬ (30 : Int) < bs.length := by omega
  have hi2 : ¬ (30 : Int) < rs.length := by omega
  have HR1 := Lib.hid (hR.low hgA)
  have HS1 := Lib.hid (hS.low hgA)
  have HL1 := Lib.hid (h.low hgA)
  have HK1 := Lib.hid (show Bk (w.alloc (.cells #[.slice R bs.length cr, .int .u16 kr] 25)) w.heap.size 25 [.slice R bs.length cr, .int .u16 kr] from Bk.new)
  have HWB := Lib.hid hwb
  have HB := Lib.hid (show -9223372036854775808 ≤ seed ∧ seed ≤ 9223372036854775807 ∧ -9223372036854775808 ≤ what ∧ what ≤ 9223372036854775807 ∧ -9223372036854775808 ≤ by_ ∧ by_ ≤ 9223372036854775807 from ⟨hs0, hs1, hw0, hw1, hb0, hb1⟩)
  have HG1 := Lib.hid hgA
  clear hR hS h hgA hx hwb hs0 hs1 hw0 hw1 hb0 hb1
  go_enter Try.func3, Try.ntmps3
  go_wp2_with fail
  generalize hW0 : w.alloc (.cells #[.slice R bs.length cr, .int .u16 kr] 25) = W0 at *
  refine (mkNew_any A L c W0).mono ?_
  rintro e W1 ⟨rfl, rfl⟩
  have HD1 := Lib.hid (deck_new (c := c) HL1.out (fun k hk => hk) hl hw)
  go_wp2_with fail
  refine (sizes_any (fun k => k < W0.heap.size) W0.heap.size L 0 _ (fun k hk => by simp; omega) HD1.out).mono ?_
  rintro e w1 ⟨ss, B, d, rfl, hv, hSz, hd⟩
  have hg1 := grown_fresh (grown_alloc (grown_refl W0 none) _) hd.2 (Nat.le_refl _)
  have hl1 := hv.1
  have hl4 := hv.2.1
  have HV := Lib.hid hv
  have HZ2 := Lib.hid (show Ints .i64 w1 (fun k => k < w1.heap.size) B ss from Row.sub hSz fun k hk => hk.2)
  have HR2 := Lib.hid (HR1.out.low hg1)
  have HS2 := Lib.hid (HS1.out.low hg1)
  have HK2 := Lib.hid (HK1.out.grow hg1)
  have HG2 := Lib.hid (grown_trans HG1.out hg1)
  clear hSz hd hv hg1 HL1 HD1 hl hw HR1 HS1 HK1 HG1 hW0
  have Hm := Lib.hid (show 0 ≤ seed % 1073741824 ∧ seed % 1073741824 < 1073741824 from ⟨Int.emod_nonneg _ (by decide), Int.emod_lt_of_pos _ (by decide)⟩)
  go_wp2_with (go_at_call 10; refine (mod_any seed 1073741824 _ HB.out.1 HB.out.2.1 (by omega) (by omega)).mono ?_; rintro e w' ⟨rfl, rfl⟩)
  refine (ref03_Make_yes _ B ss d (seed % 1073741824) _ (by omega) (fun k hk => hk) HZ2.out HV.out Hm.out.1 (by have := Hm.out.2; omega)).mono ?_
  rintro e w2 ⟨X, cx, rfl, hxc, hxm, hX, hg2⟩
  have hLV := LV_mkB HV.out Hm.out.1
  have hXl : Ints .i64 w2 (fun k => k < w2.heap.size) X (mkB ss (seed % 1073741824)) := Row.sub hX fun k hk => hk.2
  generalize mkB ss (seed % 1073741824) = xs at *
  generalize mkK (seed % 1073741824) = kx at *
  have hxl : xs.length = ss.length := by have := hLV.2.1; omega
  have Hwx := Lib.hid (show ∀ x ∈ xs, 0 ≤ x ∧ x ≤ 512 from fun x hx => by
    obtain ⟨j, hj, rfl⟩ := List.getElem_of_mem hx
    have h1 := hLV.2.2 j hj
    have hjs : j < ss.length := by omega
    have := h1.lo hj hjs
    have := HV.out.at_ hjs
    omega)
  have hx1 : 1 ≤ xs.length := by omega
  have hx4 : xs.length ≤ 4 := by omega
  clear hX hLV hxl
  have hgX : w2.grownBy (w2.alloc (.cells #[.slice X xs.length cx, .int .u16 kx] 25)) none := grown_alloc (grown_refl _ _) _
  have hg2' := grown_trans hg2 hgX
  have l15 : w.heap.size < w2.heap.size := Nat.lt_of_lt_of_le HK2.out.hi hg2.size
  have hS3 : MkS w (w2.heap.size + 1) w.heap.size w2.heap.size R X B S bs xs ss rs cr cx kr kx (w2.alloc (.cells #[.slice X xs.length cx, .int .u16 kx] 25)) := by
    have e : (w2.alloc (.cells #[.slice X xs.length cx, .int .u16 kx] 25)).heap.size = w2.heap.size + 1 := by simp
    have hF : ∀ k, k < (w2.alloc (.cells #[.slice X xs.length cx, .int .u16 kx] 25)).heap.size → k < w2.heap.size + 1 := fun k hk => by rw [← e]; exact hk
    exact ⟨grown_trans HG2.out hg2', by simp, by omega, by omega, by omega, HK2.out.grow hg2', Bk.new, Row.sub (HR2.out.low hg2') hF, Row.sub (hXl.low hgX) hF, Row.sub (HZ2.out.low hg2') hF, Row.sub (HS2.out.low hg2') hF⟩
  have HS3 := Lib.hid hS3
  clear hXl hgX hg2 hg2' HZ2 HR2 HS2 HK2 HG2 hS3
  go_wp2_with (at_builtin; go_loud (refine wpList_copied .i64 rfl _ _ 22 3 rfl i0 8 Try.underlying22 hinf hz0 hz1 hz2 rfl X xs cx _ rfl HS3.out.x ?c1 ?c2 ?c3 ?_))
  case c1 => exact List.ne_nil_of_length_pos (by omega)
  case c2 => simp [maxLen]; omega
  case c3 => omega
  intro g cy w4 hY hgy hg4
  have hgA : w4.grownBy (w4.alloc (.cells #[.slice (some ⟨g, 0, none⟩) xs.length cy, .int .u16 0] 25)) none := grown_alloc (grown_refl _ _) _
  have HBu5 := Lib.hid (hY.grow hgA)
  have HKY5 := Lib.hid (show Bk (w4.alloc (.cells #[.slice (some ⟨g, 0, none⟩) xs.length cy, .int .u16 0] 25)) w4.heap.size 25 [.slice (some ⟨g, 0, none⟩) xs.length cy, .int .u16 0] from Bk.new)
  have HS5 := Lib.hid (HS3.out.grow (grown_trans hg4 hgA))
  have hgl := hY.hi
  have hcy := hY.len
  have hN := hg4.size
  simp only [World.size_alloc] at hgy hN
  clear hY hg4 HS3 hgA hinf hz0 hz1 hz2
  have Hk := Lib.hid (show 0 ≤ by_ % (xs.length : Int) ∧ by_ % (xs.length : Int) < xs.length from ⟨Int.emod_nonneg _ (by omega), Int.emod_lt_of_pos _ (by omega)⟩)
  go_wp2_with fail
  refine (mod_any by_ xs.length _ HB.out.2.2.2.2.1 HB.out.2.2.2.2.2 (by omega) (by omega)).mono ?_
  rintro e w' ⟨rfl, rfl⟩
  generalize hk : by_ % (xs.length : Int) = k at *
  have hk0 := Hk.out.1
  have hk1 := Hk.out.2
  obtain ⟨kn, rfl⟩ := Int.eq_ofNat_of_zero_le hk0
  clear hk Hk hk0
  have hkn : kn < xs.length := by omega
  generalize w4.alloc (.cells #[.slice (some ⟨g, 0, none⟩) xs.length cy, .int .u16 0] 25) = w5 at *
  generalize w4.heap.size = q17 at *
  generalize w2.heap.size = q15 at *
  obtain ⟨q6, hq6⟩ : ∃ q, q = w.heap.size := ⟨_, rfl⟩
  have hy0 := HKY5.out.cell 0
  have hyf := HKY5.out.free 0
  simp only [List.getElem?_cons_zero] at hy0
  have hyl := HKY5.out.hi
  have hgl5 := HBu5.out.hi
  have hc5 := HBu5.out.cell hkn
  have hf5 := HBu5.out.free kn
  have hxb := Hwx.out _ (List.getElem_mem hkn)
  go_wp2_with fail
  refine (mod_any what 4 _ HB.out.2.2.1 HB.out.2.2.2.1 (by omega) (by omega)).mono ?_
  rintro e w' ⟨rfl, rfl⟩
  have H9 := Lib.hid (show 0 ≤ by_ % 9 ∧ by_ % 9 < 9 from ⟨Int.emod_nonneg _ (by decide), Int.emod_lt_of_pos _ (by decide)⟩)
  have H552 := Lib.hid (show 0 ≤ by_ % 552 ∧ by_ % 552 < 552 from ⟨Int.emod_nonneg _ (by decide), Int.emod_lt_of_pos _ (by decide)⟩)
  generalize what % 4 = mw
  go_upto_block 0 with fail
  go_cut [62, 63, 75, 84] (fun _ _ _ _ wx => MkS w (q15 + 1) w.heap.size q15 R X B S bs xs ss rs cr cx kr kx wx ∧ YOk q17 wx)
  case first =>
    by_cases m0 : mw = 0
    · go_wp2_with fail
      go_still_tail 10, (by kernel_rfl)
      still_call (mod_any' by_ 9 _ HB.out.2.2.2.2.1 HB.out.2.2.2.2.2 (by omega) (by omega))
      have h9a := H9.out.1
      have h9b := H9.out.2
      repeat still_step
      refine wpStill_nil ?_
      go_wp2_with fail
      go_meet
      exact made_put HS5.out HBu5.out HKY5.out hgy hgl hkn hx4 Hwx.out _ (by omega)
    · by_cases m1 : mw = 1
      · go_wp2_with fail
        go_still_tail 7, (by kernel_rfl)
        still_call (mod_any' by_ 552 _ HB.out.2.2.2.2.1 HB.out.2.2.2.2.2 (by omega) (by omega))
        have h9a := H552.out.1
        have h9b := H552.out.2
        repeat still_step
        refine wpStill_nil ?_
        go_wp2_with fail
        go_meet
        exact made_put HS5.out HBu5.out HKY5.out hgy hgl hkn hx4 Hwx.out _ (by omega)
      · by_cases m2 : mw = 2
        · by_cases hc1 : cy = 1
          · go_wp2_with fail
            go_meet
            have hx0 : xs.length - 1 = 0 := by omega
            have h0 : xs.tail = [] := List.length_eq_zero_iff.1 (by rw [List.length_tail]; exact hx0)
            exact made_tail HS5.out HKY5.out hN hgl hx4 Hwx.out (some ⟨g, 0, none⟩) 0 (by rw [h0]; exact Row.nil _ _ _) (by omega)
          · go_wp2_with fail
            go_meet
            exact made_tail HS5.out HKY5.out hN hgl hx4 Hwx.out (some ⟨g, 1, none⟩) (cy - 1) HBu5.out.tail (by omega)
        · go_wp2_with fail
          go_meet
          exact made_same HS5.out HBu5.out HKY5.out hx4 Hwx.out
  case rest =>
  have HS6 := Lib.hid hcut.1
  obtain ⟨Y, ys, cy6, hky, hyc, hyl6, hyw, hyi⟩ := hcut.2
  have HKY6 := Lib.hid hky
  have HWY := Lib.hid hyw
  have HY6 := Lib.hid hyi
  clear hcut hky hyw hyi hy0 hyf hyl hgl5 hc5 hf5 hxb HS5 HKY5 HBu5 H9 H552 hgl hcy hkn hk1
  have x0 := HS6.out.bx.cell 0
  have x1 := HS6.out.bx.cell 1
  have y0 := HKY6.out.cell 0
  have y1 := HKY6.out.cell 1
  have r0 := HS6.out.br.cell 0
  have r1 := HS6.out.br.cell 1
  simp only [List.getElem?_cons_zero, List.getElem?_cons_succ] at x0 x1 y0 y1 r0 r1
  go_wp2_with fail
  have hgB : wc.grownBy (wc.alloc (.cells #[.slice X xs.length cx, .int .u16 kx, .slice Y ys.length cy6, .int .u16 0, .slice R bs.length cr, .int .u16 kr] 25)) none := grown_alloc (grown_refl _ _) _
  have HS7 := Lib.hid (HS6.out.grow hgB)
  have HY7 := Lib.hid (HY6.out.low hgB)
  have HQ7 := Lib.hid (show Bk (wc.alloc (.cells #[.slice X xs.length cx, .int .u16 kx, .slice Y ys.length cy6, .int .u16 0, .slice R bs.length cr, .int .u16 kr] 25)) wc.heap.size 25 [.slice X xs.length cx, .int .u16 kx, .slice Y ys.length cy6, .int .u16 0, .slice R bs.length cr, .int .u16 kr] from Bk.new)
  clear hgB HS6 HY6 HKY6 x0 x1 y0 y1 r0 r1
  generalize wc.alloc (.cells #[.slice X xs.length cx, .int .u16 kx, .slice Y ys.length cy6, .int .u16 0, .slice R bs.length cr, .int .u16 kr] 25) = w7 at *
  generalize wc.heap.size = q93 at *
  have HZ7 := Lib.hid (show ∀ k, k < 3 → ∃ Z zs cz kz, [Value.slice X xs.length cx, .int .u16 kx, .slice Y ys.length cy6, .int .u16 0, .slice R bs.length cr, .int .u16 kr][k * 2]? = some (.slice Z (List.length zs) cz) ∧
      [Value.slice X xs.length cx, .int .u16 kx, .slice Y ys.length cy6, .int .u16 0, .slice R bs.length cr, .int .u16 kr][k * 2 + 1]? = some (.int .u16 kz) ∧ zs.length ≤ cz ∧ zs.length ≤ 30 ∧ I64s zs ∧ Ints .i64 w7 (fun k => k < w7.heap.size) Z zs from by
    intro k hk
    have : k = 0 ∨ k = 1 ∨ k = 2 := by omega
    rcases this with rfl | rfl | rfl
    · exact ⟨X, xs, cx, kx, rfl, rfl, hxc, by omega, fun x hx => by have := Hwx.out x hx; omega, HS7.out.lows.2.1⟩
    · exact ⟨Y, ys, cy6, 0, rfl, rfl, hyc, by omega, HWY.out, HY7.out⟩
    · exact ⟨R, bs, cr, kr, rfl, rfl, hbl, by omega, HWB.out, HS7.out.lows.1⟩)
  clear HWY HY7 HWB Hwx hxc hyc hyl6 hxm hbl hbm
  go_loopw [95] (fun i wr => ∃ k : Nat, k ≤ 3 ∧ i = .int .i64 k ∧ w7.grownBy wr none) (fun i _ => 3 - (intOf i).toNat)
  case atStart => exact ⟨0, by omega, rfl, grown_refl _ _⟩
  case round =>
    obtain ⟨k, hk3, rfl, hgr⟩ := hrel
    by_cases hlt : k < 3
    · have hlti : (k : Int) < 3 := by omega
      obtain ⟨Z, zs, cz, kz, hz0, hz1, hzc, hzl, hzw, hzi⟩ := HZ7.out k hlt
      have hgc := (gcell hgr).1
      have z0 : wr.cell? ⟨q93, k * 2, none⟩ = some (.slice Z zs.length cz) := by rw [hgc _ _ HQ7.out.hi, HQ7.out.cell]; exact hz0
      have z1 : wr.cell? ⟨q93, k * 2 + 1, none⟩ = some (.int .u16 kz) := by rw [hgc _ _ HQ7.out.hi, HQ7.out.cell]; exact hz1
      have HZr := Lib.hid (hzi.low hgr)
      have HSr := Lib.hid (HS7.out.grow hgr)
      have HWz := Lib.hid hzw
      have HGr := Lib.hid hgr
      clear hz0 hz1 hzi hzw hgr hgc
      go_wp2_with fail
      have hgA : wr.grownBy (wr.alloc (.cells #[.slice Z zs.length cz, .int .u16 kz] 25)) none := grown_alloc (grown_refl _ _) _
      have HZ8 := Lib.hid (show Bk (wr.alloc (.cells #[.slice Z zs.length cz, .int .u16 kz] 25)) wr.heap.size 25 [.slice Z zs.length cz, .int .u16 kz] from Bk.new)
      have HZi := Lib.hid (HZr.out.low hgA)
      have HB8 := Lib.hid ((HSr.out.grow hgA).lows.2.2.1)
      have HS8 := Lib.hid ((HSr.out.grow hgA).lows.2.2.2)
      have HG8 := Lib.hid hgA
      obtain ⟨v1, hv1⟩ : ∃ v, v = lvB zs ss := ⟨_, rfl⟩
      obtain ⟨v2, hv2⟩ : ∃ v, v = lvB zs rs := ⟨_, rfl⟩
      have Hv1 := Lib.hid hv1.symm
      have Hv2 := Lib.hid hv2.symm
      clear hgA HZr HSr z0 z1 hv1 hv2
      generalize wr.alloc (.cells #[.slice Z zs.length cz, .int .u16 kz] 25) = w8 at *
      generalize wr.heap.size = qz at *
      refine wp_region_rely (fun w' => w8.grownBy w' none) (fun _ _ => True)
        [SVal (.agg #[.slice Z zs.length cz, .int .u16 kz]), SVal (.slice B ss.length d), SVal (.bool v1), SVal (.agg #[.slice Z zs.length cz, .int .u16 kz]), SVal (.slice B ss.length d), SVal (.bool v1), SVal (.bool false), SVal (.bool false), SVal (.agg #[.slice Z zs.length cz, .int .u16 kz]), SVal (.slice S rs.length cs), SVal (.bool v2), SVal (.agg #[.slice Z zs.length cz, .int .u16 kz]), SVal (.slice S rs.length cs), SVal (.bool v2), SVal (.bool false), SVal (.bool false)]
        173 (by kernel_rfl) rfl (by kernel_rfl) (grown_drew (grown_refl _ _)) (fun _ => trivial) ?_ ?_ ?_
      · exact ⟨SVal.kept, SVal.kept, SVal.kept, SVal.kept, SVal.kept, SVal.kept, SVal.kept, SVal.kept, SVal.kept, SVal.kept, SVal.kept, SVal.kept, SVal.kept, SVal.kept, SVal.kept, SVal.kept, trivial⟩
      · refine duties_cons ?_ (duties_cons ?_ (duties_cons ?_ (duties_cons ?_ (duties_cons ?_ (duties_cons ?_ (duties_cons ?_ (duties_cons ?_ (duties_cons ?_ (duties_cons ?_ (duties_cons ?_ (duties_cons ?_ (duties_cons ?_ (duties_cons ?_ (duties_cons ?_ (duties_cons ?_ duties_nil)))))))))))))))
        · refine duty_plain rfl fun f w1 hb H => ?_
          have e20 : f 20 = _ := H 20 (by decide)
          clear H
          have hgc := (gcell hb).1
          have k0 := (HZ8.out.grow hb).cell 0
          have k1 := (HZ8.out.grow hb).cell 1
          simp only [List.getElem?_cons_zero, List.getElem?_cons_succ] at k0 k1
          clear hgc
          have HB := Lib.hid hb; clear hb
          go_simp
          exact ⟨HB.out, trivial, rfl⟩
        · refine duty_plain rfl fun f w1 hb H => ?_
          have e14 : f 14 = _ := H 14 (by decide)
          clear H
          have hgc := (gcell hb).1
          go_simp
          exact ⟨hb, trivial, rfl⟩
        · refine duty_plain rfl fun f w1 hb H => ?_
          have e99 : f 99 = _ := H 99 (by decide)
          have e100 : f 100 = _ := H 100 (by decide)
          clear H
          go_simp
          refine (layout_Valid_any _ Z B zs ss cz d kz _ (by omega) (by omega) (fun k hk => hk) HWz.out (HZi.out.low hb) (HB8.out.low hb)).mono ?_
          rintro e w7 ⟨rfl, hg7⟩
          exact ⟨_, rfl, grown_trans hb hg7, trivial, congrArg Value.bool Hv1.out⟩
        · refine duty_plain rfl fun f w1 hb H => ?_
          have e20 : f 20 = _ := H 20 (by decide)
          clear H
          have hgc := (gcell hb).1
          have k0 := (HZ8.out.grow hb).cell 0
          have k1 := (HZ8.out.grow hb).cell 1
          simp only [List.getElem?_cons_zero, List.getElem?_cons_succ] at k0 k1
          clear hgc
          have HB := Lib.hid hb; clear hb
          go_simp
          exact ⟨HB.out, trivial, rfl⟩
        · refine duty_plain rfl fun f w1 hb H => ?_
          have e14 : f 14 = _ := H 14 (by decide)
          clear H
          have hgc := (gcell hb).1
          go_simp
          exact ⟨hb, trivial, rfl⟩
        · refine duty_plain rfl fun f w1 hb H => ?_
          have e102 : f 102 = _ := H 102 (by decide)
          have e103 : f 103 = _ := H 103 (by decide)
          clear H
          go_simp
          refine (ref03_Valid_any _ Z B zs ss cz d kz _ (by omega) (by omega) hzc (fun k hk => hk) HWz.out (HZi.out.low hb) (HB8.out.low hb)).mono ?_
          rintro e w7 ⟨rfl, hg7⟩
          exact ⟨_, rfl, grown_trans hb hg7, trivial, congrArg Value.bool Hv1.out⟩
        · refine duty_plain rfl fun f w1 hb H => ?_
          have e101 : f 101 = _ := H 101 (by decide)
          have e104 : f 104 = _ := H 104 (by decide)
          clear H
          have HB := Lib.hid hb; clear hb
          go_simp
          exact ⟨HB.out, trivial, by cases v1 <;> rfl⟩
        · refine duty_plain rfl fun f w1 hb H => ?_
          have e105 : f 105 = _ := H 105 (by decide)
          clear H
          have hgc := (gcell hb).1
          go_simp
          exact ⟨hb, trivial, rfl⟩
        · refine duty_guard _ _ _ rfl rfl fun f w1 hb H => ⟨H 106 (by decide), ?_⟩
          have e20 : f 20 = _ := H 20 (by decide)
          clear H
          have hgc := (gcell hb).1
          have k0 := (HZ8.out.grow hb).cell 0
          have k1 := (HZ8.out.grow hb).cell 1
          simp only [List.getElem?_cons_zero, List.getElem?_cons_succ] at k0 k1
          clear hgc
          have HB := Lib.hid hb; clear hb
          go_simp
          exact ⟨HB.out, trivial, rfl⟩
        · refine duty_guard _ _ _ rfl rfl fun f w1 hb H => ⟨H 106 (by decide), ?_⟩
          have e1 : f 1 = _ := H 1 (by decide)
          clear H
          have hgc := (gcell hb).1
          go_simp
          exact ⟨hb, trivial, rfl⟩
        · refine duty_guard _ _ _ rfl rfl fun f w1 hb H => ⟨H 106 (by decide), ?_⟩
          have e107 : f 107 = _ := H 107 (by decide)
          have e108 : f 108 = _ := H 108 (by decide)
          clear H
          go_simp
          refine (layout_Valid_any _ Z S zs rs cz cs kz _ (by omega) (by omega) (fun k hk => hk) HWz.out (HZi.out.low hb) (HS8.out.low hb)).mono ?_
          rintro e w7 ⟨rfl, hg7⟩
          exact ⟨_, rfl, grown_trans hb hg7, trivial, congrArg Value.bool Hv2.out⟩
        · refine duty_guard _ _ _ rfl rfl fun f w1 hb H => ⟨H 106 (by decide), ?_⟩
          have e20 : f 20 = _ := H 20 (by decide)
          clear H
          have hgc := (gcell hb).1
          have k0 := (HZ8.out.grow hb).cell 0
          have k1 := (HZ8.out.grow hb).cell 1
          simp only [List.getElem?_cons_zero, List.getElem?_cons_succ] at k0 k1
          clear hgc
          have HB := Lib.hid hb; clear hb
          go_simp
          exact ⟨HB.out, trivial, rfl⟩
        · refine duty_guard _ _ _ rfl rfl fun f w1 hb H => ⟨H 106 (by decide), ?_⟩
          have e1 : f 1 = _ := H 1 (by decide)
          clear H
          have hgc := (gcell hb).1
          go_simp
          exact ⟨hb, trivial, rfl⟩
        · refine duty_guard _ _ _ rfl rfl fun f w1 hb H => ⟨H 106 (by decide), ?_⟩
          have e110 : f 110 = _ := H 110 (by decide)
          have e111 : f 111 = _ := H 111 (by decide)
          clear H
          go_simp
          refine (ref03_Valid_any _ Z S zs rs cz cs kz _ (by omega) (by omega) hzc (fun k hk => hk) HWz.out (HZi.out.low hb) (HS8.out.low hb)).mono ?_
          rintro e w7 ⟨rfl, hg7⟩
          exact ⟨_, rfl, grown_trans hb hg7, trivial, congrArg Value.bool Hv2.out⟩
        · refine duty_guard _ _ _ rfl rfl fun f w1 hb H => ⟨H 106 (by decide), ?_⟩
          have e109 : f 109 = _ := H 109 (by decide)
          have e112 : f 112 = _ := H 112 (by decide)
          clear H
          have HB := Lib.hid hb; clear hb
          go_simp
          exact ⟨HB.out, trivial, by cases v2 <;> rfl⟩
        · refine duty_plain rfl fun f w1 hb H => ?_
          have e106 : f 106 = _ := H 106 (by decide)
          have e113 : f 113 = _ := H 113 (by decide)
          clear H
          have hgc := (gcell hb).1
          go_simp
          exact ⟨hb, trivial, rfl⟩
      · intro f w9 hb hE
        simp only [putAll, Act.put, slotV, List.setIfInBounds_toArray, List.set_cons_succ, List.set_cons_zero]
        simp only [Ends, tagV, SVal, and_true] at hE
        have e114 : f 114 = .bool false := by simp only [hE]
        clear hE
        rw [e114]
        go_wp2_with fail
        go_roundw
        case rel => exact ⟨k + 1, by omega, by go_num, grown_trans (grown_trans HGr.out HG8.out) hb⟩
        case measure => simp [intOf]; omega
    · have hk : k = 3 := by omega
      subst hk
      have HS9 := Lib.hid (HS7.out.grow hgr)
      have H300 := Lib.hid (show 0 ≤ seed % 300 ∧ seed % 300 < 300 from ⟨Int.emod_nonneg _ (by decide), Int.emod_lt_of_pos _ (by decide)⟩)
      clear hgr HS7 HQ7 HZ7
      go_wp2_with fail
      refine (mod_any seed 1073741824 _ HB.out.1 HB.out.2.1 (by omega) (by omega)).mono ?_
      rintro e w' ⟨rfl, rfl⟩
      go_wp2_with fail
      refine (mod_any seed 300 _ HB.out.1 HB.out.2.1 (by omega) (by omega)).mono ?_
      rintro e w' ⟨rfl, rfl⟩
      generalize seed % 1073741824 = sm at *
      generalize seed % 300 = st at *
      go_wp2_with fail
      have hgB : wr.grownBy (wr.alloc (.cells #[.int .i64 seed, .int .i64 sm, .int .i64 st] 3)) none := grown_alloc (grown_refl _ _) _
      have HS10 := Lib.hid (HS9.out.grow hgB)
      have HQ10 := Lib.hid (show Bk (wr.alloc (.cells #[.int .i64 seed, .int .i64 sm, .int .i64 st] 3)) wr.heap.size 3 [.int .i64 seed, .int .i64 sm, .int .i64 st] from Bk.new)
      clear hgB HS9
      generalize wr.alloc (.cells #[.int .i64 seed, .int .i64 sm, .int .i64 st] 3) = w10 at *
      generalize wr.heap.size = q121 at *
      have HZ10 := Lib.hid (show ∀ k, k < 3 → ∃ q : Int, [Value.int .i64 seed, .int .i64 sm, .int .i64 st][k]? = some (.int .i64 q) from by
        intro k hk
        have : k = 0 ∨ k = 1 ∨ k = 2 := by omega
        rcases this with rfl | rfl | rfl
        · exact ⟨_, rfl⟩
        · exact ⟨_, rfl⟩
        · exact ⟨_, rfl⟩)
      clear Hm H300 hk3 hlt
      go_loopw [123] (fun i wr => ∃ k : Nat, k ≤ 3 ∧ i = .int .i64 k ∧ w10.grownBy wr none) (fun i _ => 3 - (intOf i).toNat)
      case atStart => exact ⟨0, by omega, rfl, grown_refl _ _⟩
      case round =>
        obtain ⟨k, hk3, rfl, hgr⟩ := hrel
        by_cases hlt : k < 3
        · have hlti : (k : Int) < 3 := by omega
          obtain ⟨q, hq⟩ := HZ10.out k hlt
          have z0 : wr.cell? ⟨q121, k, none⟩ = some (.int .i64 q) := by rw [(gcell hgr).1 _ _ HQ10.out.hi, HQ10.out.cell]; exact hq
          have HS0 := Lib.hid (HS10.out.grow hgr)
          have HG0 := Lib.hid hgr
          obtain ⟨o1, ho1⟩ : ∃ o, o = outB ss q := ⟨_, rfl⟩
          obtain ⟨k1, hk1⟩ : ∃ o, o = outK ss q := ⟨_, rfl⟩
          obtain ⟨e1, he1⟩ : ∃ o, o = outE ss q := ⟨_, rfl⟩
          have Ho1 := Lib.hid ho1; have Hk1 := Lib.hid hk1; have He1 := Lib.hid he1
          have hlo1 : o1.length ≤ 4 := by rw [ho1]; unfold outB; split; (rw [mkB, mkTo_len]; rename_i h; simp only [mkOk, Bool.and_eq_true] at h; exact ((vsB_iff _).1 h.1).2.1); simp
          clear ho1 hk1 he1
          obtain ⟨o2, ho2⟩ : ∃ o, o = outB rs q := ⟨_, rfl⟩
          obtain ⟨k2, hk2⟩ : ∃ o, o = outK rs q := ⟨_, rfl⟩
          obtain ⟨e2, he2⟩ : ∃ o, o = outE rs q := ⟨_, rfl⟩
          have Ho2 := Lib.hid ho2; have Hk2 := Lib.hid hk2; have He2 := Lib.hid he2
          have hlo2 : o2.length ≤ 4 := by rw [ho2]; unfold outB; split; (rw [mkB, mkTo_len]; rename_i h; simp only [mkOk, Bool.and_eq_true] at h; exact ((vsB_iff _).1 h.1).2.1); simp
          clear ho2 hk2 he2
          clear hq hgr
          go_wp2_with fail
          refine (layout_Make_any _ B ss d q _ (by omega) (fun k hk => hk) HS0.out.lows.2.2.1).mono ?_
          rw [← Ho1.out, ← Hk1.out, ← He1.out]
          rintro e wm1 ⟨P1, p1, rfl, _, _, hI, hg⟩
          have hgA : wm1.grownBy (wm1.alloc (.cells #[.slice P1 o1.length p1, .int .u16 k1] 25)) none := grown_alloc (grown_refl _ _) _
          have hgB := grown_trans hg hgA
          have HS10 := Lib.hid (HS0.out.grow hgB)
          have HG10 := Lib.hid (grown_trans HG0.out hgB)
          have HI1 := Lib.hid (Ints.low (Row.sub hI fun k hk => hk.2 : Ints .i64 wm1 (fun k => k < wm1.heap.size) P1 o1) hgA)
          have HK1 := Lib.hid (show Bk (wm1.alloc (.cells #[.slice P1 o1.length p1, .int .u16 k1] 25)) wm1.heap.size 25 [.slice P1 o1.length p1, .int .u16 k1] from Bk.new)
          clear hgA hgB hg hI HS0 HG0 z0
          go_wp2_with fail
          refine (ref03_Make_any _ B ss d q _ (by omega) (fun k hk => hk) HS10.out.lows.2.2.1).mono ?_
          rw [← Ho1.out, ← Hk1.out, ← He1.out]
          rintro e wm2 ⟨P2, p2, rfl, _, _, hI, hg⟩
          have hgA : wm2.grownBy (wm2.alloc (.cells #[.slice P2 o1.length p2, .int .u16 k1] 25)) none := grown_alloc (grown_refl _ _) _
          have hgB := grown_trans hg hgA
          have HS20 := Lib.hid (HS10.out.grow hgB)
          have HG20 := Lib.hid (grown_trans HG10.out hgB)
          have HI2 := Lib.hid (Ints.low (Row.sub hI fun k hk => hk.2 : Ints .i64 wm2 (fun k => k < wm2.heap.size) P2 o1) hgA)
          have HK2 := Lib.hid (show Bk (wm2.alloc (.cells #[.slice P2 o1.length p2, .int .u16 k1] 25)) wm2.heap.size 25 [.slice P2 o1.length p2, .int .u16 k1] from Bk.new)
          replace HI1 := Lib.hid (HI1.out.low hgB)
          replace HK1 := Lib.hid (HK1.out.grow hgB)
          clear hgA hgB hg hI HS10 HG10
          go_wp2_with fail
          refine (layout_Make_any _ S rs cs q _ (by omega) (fun k hk => hk) HS20.out.lows.2.2.2).mono ?_
          rw [← Ho2.out, ← Hk2.out, ← He2.out]
          rintro e wm3 ⟨P3, p3, rfl, _, _, hI, hg⟩
          have hgA : wm3.grownBy (wm3.alloc (.cells #[.slice P3 o2.length p3, .int .u16 k2] 25)) none := grown_alloc (grown_refl _ _) _
          have hgB := grown_trans hg hgA
          have HS30 := Lib.hid (HS20.out.grow hgB)
          have HG30 := Lib.hid (grown_trans HG20.out hgB)
          have HI3 := Lib.hid (Ints.low (Row.sub hI fun k hk => hk.2 : Ints .i64 wm3 (fun k => k < wm3.heap.size) P3 o2) hgA)
          have HK3 := Lib.hid (show Bk (wm3.alloc (.cells #[.slice P3 o2.length p3, .int .u16 k2] 25)) wm3.heap.size 25 [.slice P3 o2.length p3, .int .u16 k2] from Bk.new)
          replace HI1 := Lib.hid (HI1.out.low hgB)
          replace HK1 := Lib.hid (HK1.out.grow hgB)
          replace HI2 := Lib.hid (HI2.out.low hgB)
          replace HK2 := Lib.hid (HK2.out.grow hgB)
          clear hgA hgB hg hI HS20 HG20
          go_wp2_with fail
          refine (ref03_Make_any _ S rs cs q _ (by omega) (fun k hk => hk) HS30.out.lows.2.2.2).mono ?_
          rw [← Ho2.out, ← Hk2.out, ← He2.out]
          rintro e wm4 ⟨P4, p4, rfl, _, _, hI, hg⟩
          have hgA : wm4.grownBy (wm4.alloc (.cells #[.slice P4 o2.length p4, .int .u16 k2] 25)) none := grown_alloc (grown_refl _ _) _
          have hgB := grown_trans hg hgA
          have HS40 := Lib.hid (HS30.out.grow hgB)
          have HG40 := Lib.hid (grown_trans HG30.out hgB)
          have HI4 := Lib.hid (Ints.low (Row.sub hI fun k hk => hk.2 : Ints .i64 wm4 (fun k => k < wm4.heap.size) P4 o2) hgA)
          have HK4 := Lib.hid (show Bk (wm4.alloc (.cells #[.slice P4 o2.length p4, .int .u16 k2] 25)) wm4.heap.size 25 [.slice P4 o2.length p4, .int .u16 k2] from Bk.new)
          replace HI1 := Lib.hid (HI1.out.low hgB)
          replace HK1 := Lib.hid (HK1.out.grow hgB)
          replace HI2 := Lib.hid (HI2.out.low hgB)
          replace HK2 := Lib.hid (HK2.out.grow hgB)
          replace HI3 := Lib.hid (HI3.out.low hgB)
          replace HK3 := Lib.hid (HK3.out.grow hgB)
          clear hgA hgB hg hI HS30 HG30
          have b10 := HK1.out.cell 0
          have b11 := HK1.out.cell 1
          have b20 := HK2.out.cell 0
          have b21 := HK2.out.cell 1
          have b30 := HK3.out.cell 0
          have b31 := HK3.out.cell 1
          simp only [List.getElem?_cons_zero, List.getElem?_cons_succ] at b10 b11 b20 b21 b30 b31
          have lb := HK3.out.hi
          have lb1 := HK1.out.hi
          have lb2 := HK2.out.hi
          simp only [World.size_alloc] at lb lb1 lb2
          go_wp2_with fail
          refine (ref03_Same_any _ P1 P2 o1 o1 p1 p2 k1 k1 _ (by omega) (by omega) (fun k hk => hk) HI1.out HI2.out).mono ?_
          rintro e w5 ⟨rfl, hg⟩
          rw [← eqB_true rfl rfl]
          clear b10 b11 b20 b21 b30 b31 lb lb1 lb2
          have HI5 := Lib.hid (HI3.out.low hg)
          have HI6 := Lib.hid (HI4.out.low hg)
          have HK5 := Lib.hid (HK3.out.grow hg)
          have HK6 := Lib.hid (HK4.out.grow hg)
          have HG50 := Lib.hid (grown_trans HG40.out hg)
          clear hg HI1 HI2 HI3 HI4 HK1 HK2 HK3 HK4 HG40 HS40
          have b50 := HK5.out.cell 0
          have b51 := HK5.out.cell 1
          have b60 := HK6.out.cell 0
          have b61 := HK6.out.cell 1
          simp only [List.getElem?_cons_zero, List.getElem?_cons_succ] at b50 b51 b60 b61
          have lb := HK6.out.hi
          have lb5 := HK5.out.hi
          go_wp2_with fail
          refine (ref03_Same_any _ P3 P4 o2 o2 p3 p4 k2 k2 _ (by omega) (by omega) (fun k hk => hk) HI5.out HI6.out).mono ?_
          rintro e w6 ⟨rfl, hg⟩
          rw [← eqB_true rfl rfl]
          have HG60 := Lib.hid (grown_trans HG50.out hg)
          clear hg HI5 HI6 HK5 HK6 HG50 b50 b51 b60 b61 lb lb5
          go_wp2_with fail
          go_roundw
          case rel => exact ⟨k + 1, by omega, by go_num, HG60.out⟩
          case measure => simp [intOf]; omega
        · have hk : k = 3 := by omega
          subst hk
          have HG11 := Lib.hid (grown_trans HS10.out.grown hgr)
          clear hgr HS10 HQ10 HZ10
          go_wp2_with (go_at_call 6; refine (awake_any _).mono ?_; rintro e w' ⟨rfl, hg⟩; have HG12 := Lib.hid hg; clear hg)
          go_ret
          exact ⟨rfl, grown_trans HG11.out HG12.out⟩

end Go.Proofs.Ytenobllgfgmjfaa
