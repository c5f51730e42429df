/- The law CacheLooks, walked; no condition. -/
import Derived.Test.YtndmcnddgcifiaaWorked
import Derived.Test.YtndmcnddgcifiaaAwake5
import Derived.Test.YtndmcnddgcifiaaNew
import Derived.Laws.StructEq
set_option linter.unusedVariables false
set_option linter.unusedSimpArgs false
namespace Go.Proofs.Ytndmcnddgcifiaa
open Go.RowKit

def TT (_ : Nat) : Prop := True
theorem rep_tt {w : World} {F : Nat → Prop} {m : Mm} {cs : List Value} (h : rMm.rep w F m cs) : rMm.rep w TT m cs := rMm.sub h fun _ _ => trivial
theorem own_tt {w : World} {fp : List Nat} {m : Mm} {cs : List Value} (h : rMm.own w fp m cs) : rMm.rep w TT m cs := rep_tt (rMm.reads h)
/-- The deck and what was made with it, in a world that has grown out of w0. -/
structure DkW (w0 : World) (L : List Int) (w : World) : Prop where
  grown : w0.grownBy w none
  deck : ∃ j, DeckAt w (fun k => k < w0.heap.size) w0.heap.size L j
theorem DkW.lt {w0 w : World} {L : List Int} (h : DkW w0 L w) : w0.heap.size < w.heap.size := let ⟨_, hj⟩ := h.deck; hj.lt
theorem DkW.low {w0 w : World} {L : List Int} (h : DkW w0 L w) : ∀ k, k < w0.heap.size → k < w.heap.size := fun k hk => by have := h.lt; omega
theorem DkW.deal {w0 w w' : World} {L : List Int} (h : DkW w0 L w) (hd : Deals (fun k => k < w0.heap.size) w0.heap.size L w w') : DkW w0 L w' := ⟨grown_fresh h.grown hd.2 (Nat.le_refl _), hd.1⟩
theorem DkW.none {w0 w w' : World} {L : List Int} (h : DkW w0 L w) (hg : w.grownBy w' none) : DkW w0 L w' := by
  obtain ⟨j, hj⟩ := h.deck
  exact h.deal ((Deals.refl hj).none h.low hg)
theorem DkW.new {w : World} {A : Option Addr} {L : List Int} {c : Nat} (h : Ints .i64 w (fun k => k < w.heap.size) A L) (hl : L.length ≤ 9223372036854775807) (hw : I64s L) :
    DkW w L (w.alloc (.cells #[.slice A L.length c, .int .i64 0] 60)) := ⟨grown_alloc (grown_refl _ _) _, 0, deck_new h (fun _ hk => hk) hl hw⟩

structure LkS (w0 : World) (m : Mm) (a b : Nat) (c : Cel) (q8 q9 q10 q13 : Nat) (U V U2 V2 U3 V3 : Value) (w : World) : Prop where
  grown : w0.grownBy w none
  b8 : Bk w q8 27 [U, V]
  b9 : Bk w q9 30 [.int .u8 c.1, .int .u16 c.2]
  b10 : Bk w q10 27 [U2, V2]
  b13 : Bk w q13 27 [U3, V3]
  r : rMm.rep w TT m [U, V]
  r2 : rMm.rep w TT (fetchM m a) [U2, V2]
  r3 : rMm.rep w TT (storeM m b c) [U3, V3]
theorem LkS.grow {w0 w w' : World} {m : Mm} {a b : Nat} {c : Cel} {q8 q9 q10 q13 : Nat} {U V U2 V2 U3 V3 : Value} (h : LkS w0 m a b c q8 q9 q10 q13 U V U2 V2 U3 V3 w) (hg : w.grownBy w' none) : LkS w0 m a b c q8 q9 q10 q13 U V U2 V2 U3 V3 w' :=
  ⟨grown_trans h.grown hg, h.b8.grow hg, h.b9.grow hg, h.b10.grow hg, h.b13.grow hg, rMm.grow h.r hg, rMm.grow h.r2 hg, rMm.grow h.r3 hg⟩

set_option maxRecDepth 100000 in
set_option maxHeartbeats 4000000 in
theorem lawLooks_any (A : Option Addr) (L : List Int) (cp : Nat) (a0 b0 : Int) (w : World) (hl : L.length ≤ 9223372036854775807) (hw : I64s L)
    (ha0 : -9223372036854775808 ≤ a0) (ha1 : a0 ≤ 9223372036854775807) (hb0 : -9223372036854775808 ≤ b0) (hb1 : b0 ≤ 9223372036854775807) (h : Ints .i64 w (fun k => k < w.heap.size) A L) :
    Calls Try.prog 4 #[.slice A L.length cp, .int .i64 a0, .int .i64 b0] w (BoolGrown true w) := by
  have HDK := Lib.hid (DkW.new (c := cp) h hl hw)
  have HA := Lib.hid (And.intro ha0 ha1)
  have HB := Lib.hid (And.intro hb0 hb1)
  clear h hl hw ha0 ha1 hb0 hb1
  go_enter Try.func4, Try.ntmps4
  go_wp2_with fail
  refine (mkNew_any A L cp w).mono ?_
  rintro e W1 ⟨rfl, rfl⟩
  generalize w.alloc (.cells #[.slice A L.length cp, .int .i64 0] 60) = W1 at *
  go_wp2_with fail
  obtain ⟨j0, hj0⟩ := HDK.out.deck
  refine (worked_any (fun k => k < w.heap.size) w.heap.size L j0 false W1 HDK.out.low hj0).mono ?_
  rintro e w1 ⟨m, u, v, fp, rfl, ho, hnd, hlo, hok, hmv, hcl, hd⟩
  have HD1 := Lib.hid (HDK.out.deal hd)
  have Hok := Lib.hid (And.intro hok (hcl rfl))
  obtain ⟨⟨A1, n1, c1, rfl⟩, B1, m1, d1, rfl⟩ := own_shapes ho
  have hb8 : Bk (w1.alloc (.cells #[.slice A1 n1 c1, .slice B1 m1 d1] 27)) w1.heap.size 27 [.slice A1 n1 c1, .slice B1 m1 d1] := Bk.new
  have hgA : w1.grownBy (w1.alloc (.cells #[.slice A1 n1 c1, .slice B1 m1 d1] 27)) none := grown_alloc (grown_refl _ _) _
  have ho2 := rMm.okeep ho (w' := w1.alloc (.cells #[.slice A1 n1 c1, .slice B1 m1 d1] 27)) fun k hk => hgA.block k (rMm.olive ho k hk) (by simp)
  have HD2 := Lib.hid (HD1.out.none hgA)
  have hW1 := HDK.out.lt
  have hne8 : w.heap.size < w1.heap.size := HD1.out.lt
  clear hd hok hmv hcl hnd ho hj0 hgA
  go_wp2_with fail
  refine (mod_any a0 80 _ HA.out.1 HA.out.2 (by omega) (by omega)).mono ?_
  rintro e w' ⟨rfl, rfl⟩
  go_wp2_with fail
  refine (mod_any b0 80 _ HB.out.1 HB.out.2 (by omega) (by omega)).mono ?_
  rintro e w' ⟨rfl, rfl⟩
  obtain ⟨a, ha⟩ : ∃ a : Nat, a0 % 80 = a := ⟨(a0 % 80).toNat, by omega⟩
  obtain ⟨b, hb⟩ : ∃ b : Nat, b0 % 80 = b := ⟨(b0 % 80).toNat, by omega⟩
  have ha80 : a < 80 := by omega
  have hb80 : b < 80 := by omega
  rw [ha, hb]
  clear ha hb HA HB HDK
  generalize w1.alloc (.cells #[.slice A1 n1 c1, .slice B1 m1 d1] 27) = W2 at *
  generalize hq8 : w1.heap.size = q8 at *
  go_wp2_with fail
  obtain ⟨j1, hj1⟩ := HD2.out.deck
  refine (deckCell_any (fun k => k < w.heap.size) w.heap.size L j1 W2 HD2.out.low hj1).mono ?_
  rintro e w3 ⟨tg, vl, tg0, tg1, vl0, vl1, rfl, hd3⟩
  have HD3 := Lib.hid (HD2.out.deal hd3)
  have hb8 := hb8.keep (hd3.2.block _ hb8.hi (fun e => by injection e with e; omega))
  have hr3 := own_tt (rMm.okeep ho2 (w' := w3) fun k hk => hd3.2.block k (rMm.olive ho2 k hk) (fun e => by injection e with e; have := hlo k hk; omega))
  have hcw := celWf_of tg0 tg1 vl0 vl1
  clear hd3 hj1 ho2 hlo
  obtain ⟨x, hx⟩ : ∃ x : Cel, x = (tg, vl) := ⟨_, rfl⟩
  have hx1 : x.1 = tg := by rw [hx]
  have hx2 : x.2 = vl := by rw [hx]
  rw [← hx] at hcw
  have htg : decide (x.1 ≤ 2) = true := by rw [hx1]; exact decide_eq_true tg1
  rw [← hx1, ← hx2]
  clear hx hx1 hx2 tg0 tg1 vl0 vl1
  have hgB : w3.grownBy (w3.alloc (.cells #[.int .u8 x.1, .int .u16 x.2] 30)) none := grown_alloc (grown_refl _ _) _
  have hb9 : Bk (w3.alloc (.cells #[.int .u8 x.1, .int .u16 x.2] 30)) w3.heap.size 30 [.int .u8 x.1, .int .u16 x.2] := Bk.new
  have hb8 := hb8.grow hgB
  have hr3 := rMm.grow hr3 hgB
  have HG := Lib.hid (HD3.out.none hgB).grown
  have k80 := hb8.cell 0
  have k81 := hb8.cell 1
  simp only [List.getElem?_cons_zero, List.getElem?_cons_succ] at k80 k81
  clear hgB
  go_upto_region 5 with fail
  generalize w3.alloc (.cells #[.int .u8 x.1, .int .u16 x.2] 30) = W3 at *
  generalize hq9 : w3.heap.size = q9 at *
  have Htg := Lib.hid htg
  clear htg
  go_wp2_with fail
  refine (cache_Read_in TT m a (by omega) Hok.out.1 _ _ W3 hr3).mono ?_
  rintro e w4 ⟨u2, v2, fp2, rfl, ho4, _, _, hg4, _⟩
  obtain ⟨⟨A2, n2, c2, rfl⟩, B2, m2, d2, rfl⟩ := own_shapes ho4
  obtain ⟨y, hy⟩ : ∃ y, y = loadM m a := ⟨_, rfl⟩
  rw [← hy]
  clear hy
  have hgC : w4.grownBy ((w4.alloc (.cells #[.slice A2 n2 c2, .slice B2 m2 d2] 27)).alloc (.cells #[.int .u8 y.1, .int .u16 y.2] 30)) none := grown_alloc (grown_alloc (grown_refl _ _) _) _
  have hb10 : Bk ((w4.alloc (.cells #[.slice A2 n2 c2, .slice B2 m2 d2] 27)).alloc (.cells #[.int .u8 y.1, .int .u16 y.2] 30)) w4.heap.size 27 [.slice A2 n2 c2, .slice B2 m2 d2] := Bk.new.grow (grown_alloc (grown_refl _ _) _)
  have hr4 := rMm.grow (own_tt ho4) hgC
  have hgD := grown_trans hg4 hgC
  have hb8 := hb8.grow hgD
  have hb9 := hb9.grow hgD
  have hr := rMm.grow hr3 hgD
  have HG4 := Lib.hid (grown_trans HG.out hgD)
  clear hgC hgD hg4 ho4 hr3 k80 k81
  go_upto_region 6 with fail
  generalize (w4.alloc (.cells #[.slice A2 n2 c2, .slice B2 m2 d2] 27)).alloc (.cells #[.int .u8 y.1, .int .u16 y.2] 30) = W4 at *
  generalize hq10 : w4.heap.size = q10 at *
  have k80 := hb8.cell 0
  have k81 := hb8.cell 1
  have k90 := hb9.cell 0
  have k91 := hb9.cell 1
  simp only [List.getElem?_cons_zero, List.getElem?_cons_succ] at k80 k81 k90 k91
  go_wp2_with fail
  refine (cache_Write_in TT m x hcw b (by omega) Hok.out.1 Htg.out _ _ W4 hr).mono ?_
  rintro e w5 ⟨u3, v3, fp3, rfl, ho5, _, _, hg5⟩
  obtain ⟨⟨A3, n3, c3, rfl⟩, B3, m3, d3, rfl⟩ := own_shapes ho5
  have hgE : w5.grownBy (w5.alloc (.cells #[.slice A3 n3 c3, .slice B3 m3 d3] 27)) none := grown_alloc (grown_refl _ _) _
  have hb13 : Bk (w5.alloc (.cells #[.slice A3 n3 c3, .slice B3 m3 d3] 27)) w5.heap.size 27 [.slice A3 n3 c3, .slice B3 m3 d3] := Bk.new
  have hgF := grown_trans hg5 hgE
  have HS := Lib.hid (show LkS w m a b x q8 q9 q10 w5.heap.size _ _ _ _ _ _ (w5.alloc (.cells #[.slice A3 n3 c3, .slice B3 m3 d3] 27)) from
    ⟨grown_trans HG4.out hgF, hb8.grow hgF, hb9.grow hgF, hb10.grow hgF, hb13, rMm.grow hr hgF, rMm.grow hr4 hgF, rMm.grow (own_tt ho5) hgE⟩)
  have hs5 := hb8.hi
  have hs9 := hb9.hi
  have hs10 := hb10.hi
  have hsz := hg5.size
  clear hgE hgF hb8 hb9 hb10 hb13 hr hr4 ho5 hg5 HG HG4 HD1 HD2 HD3 k80 k81 k90 k91
  go_wp2_with fail
  generalize w5.alloc (.cells #[.slice A3 n3 c3, .slice B3 m3 d3] 27) = W5 at *
  generalize hq13 : w5.heap.size = q13 at *
  go_loopw [52] (fun i wr => ∃ k : Nat, k ≤ 80 ∧ i = .int .i64 k ∧ W5.grownBy wr none) (fun i _ => 80 - (intOf i).toNat)
  case atStart => exact ⟨0, Nat.zero_le _, rfl, grown_refl _ _⟩
  case round =>
    obtain ⟨k, hk, rfl, hgr⟩ := hrel
    have HN := Lib.hid (HS.out.grow hgr)
    have HG0 := Lib.hid hgr
    clear hgr
    by_cases hlt : k < 80
    · have x3 : (k : Int) < 80 := by omega
      have k80 := HN.out.b8.cell 0
      have k81 := HN.out.b8.cell 1
      simp only [List.getElem?_cons_zero, List.getElem?_cons_succ] at k80 k81
      go_wp2_with fail
      refine (cache_See_in TT m k (by omega) Hok.out.1 _ _ wr HN.out.r).mono ?_
      rintro e w6 ⟨rfl, hg6⟩
      obtain ⟨z, hz⟩ : ∃ z, z = seeM m k := ⟨_, rfl⟩
      have hz2 : seeM (fetchM m a) k = z := by rw [hz]; exact see_fetch Hok.out.1 Hok.out.2
      have hz3 : seeM (storeM m b x) k = if k = b then x else z := by rw [hz]; exact see_store Hok.out.1 Hok.out.2 (by omega) x
      rw [← hz]
      have HZ := Lib.hid (And.intro hz2 hz3)
      clear hz hz2 hz3 k80 k81
      have hg6a := grown_trans hg6 (grown_alloc (grown_refl w6 none) (.cells #[.int .u8 z.1, .int .u16 z.2] 30))
      have HN6 := Lib.hid (HN.out.grow hg6a)
      have HGr6 := Lib.hid hg6a
      have hb16 : Bk (w6.alloc (.cells #[.int .u8 z.1, .int .u16 z.2] 30)) w6.heap.size 30 [.int .u8 z.1, .int .u16 z.2] := Bk.new
      clear hg6a hg6
      go_upto_region 13 with fail
      generalize w6.alloc (.cells #[.int .u8 z.1, .int .u16 z.2] 30) = W6 at *
      generalize hq16 : w6.heap.size = q16 at *
      have k80 := HN6.out.b10.cell 0
      have k81 := HN6.out.b10.cell 1
      simp only [List.getElem?_cons_zero, List.getElem?_cons_succ] at k80 k81
      go_wp2_with fail
      refine (cache_See_in TT (fetchM m a) k (by omega) (ok_fetch Hok.out.1 (by omega)) _ _ W6 HN6.out.r2).mono ?_
      rintro e w7 ⟨rfl, hg7⟩
      rw [HZ.out.1]
      have hg7a := grown_trans hg7 (grown_alloc (grown_refl w7 none) (.cells #[.int .u8 z.1, .int .u16 z.2] 30))
      have HN7 := Lib.hid (HN6.out.grow hg7a)
      have HGr7 := Lib.hid (grown_trans HGr6.out hg7a)
      have hb18 : Bk (w7.alloc (.cells #[.int .u8 z.1, .int .u16 z.2] 30)) w7.heap.size 30 [.int .u8 z.1, .int .u16 z.2] := Bk.new
      have hb16 := hb16.grow hg7a
      clear hg7a hg7 k80 k81 HGr6 HN6
      go_upto_region 14 with fail
      generalize w7.alloc (.cells #[.int .u8 z.1, .int .u16 z.2] 30) = W7 at *
      generalize hq18 : w7.heap.size = q18 at *
      have k80 := HN7.out.b13.cell 0
      have k81 := HN7.out.b13.cell 1
      simp only [List.getElem?_cons_zero, List.getElem?_cons_succ] at k80 k81
      go_wp2_with fail
      refine (cache_See_in TT (storeM m b x) k (by omega) (ok_store Hok.out.1 (by omega) x) _ _ W7 HN7.out.r3).mono ?_
      rintro e w8 ⟨rfl, hg8⟩
      rw [HZ.out.2]
      obtain ⟨t, ht⟩ : ∃ t, t = if k = b then x else z := ⟨_, rfl⟩
      rw [← ht]
      have HT := Lib.hid ht
      clear ht
      have hg8a := grown_trans hg8 (grown_alloc (grown_refl w8 none) (.cells #[.int .u8 t.1, .int .u16 t.2] 30))
      have HN8 := Lib.hid (HN7.out.grow hg8a)
      have HGr8 := Lib.hid (grown_trans HGr7.out hg8a)
      have hb20 : Bk (w8.alloc (.cells #[.int .u8 t.1, .int .u16 t.2] 30)) w8.heap.size 30 [.int .u8 t.1, .int .u16 t.2] := Bk.new
      have hb16 := hb16.grow hg8a
      have hb18 := hb18.grow hg8a
      clear hg8a hg8 k80 k81 HGr7 HN7
      go_upto_region 15 with fail
      generalize w8.alloc (.cells #[.int .u8 t.1, .int .u16 t.2] 30) = W8 at *
      generalize hq20 : w8.heap.size = q20 at *
      have i0 := hb16.cell 0
      have i1 := hb16.cell 1
      have j0 := hb18.cell 0
      have j1 := hb18.cell 1
      have m0 := hb20.cell 0
      have m1 := hb20.cell 1
      have n0 := HN8.out.b9.cell 0
      have n1 := HN8.out.b9.cell 1
      simp only [List.getElem?_cons_zero, List.getElem?_cons_succ] at i0 i1 j0 j1 m0 m1 n0 n1
      by_cases hkb : k = b
      · have ht : t = x := by rw [HT.out, if_pos hkb]
        subst ht
        have e1 : ((k : Int) != (b : Int)) = false := by simp [hkb]
        have e2 : ((k : Int) == (b : Int)) = true := by simp [hkb]
        clear hkb HT HZ
        go_wp2_with fail
        go_roundw
        case rel => exact ⟨k + 1, by omega, by go_num, grown_trans HG0.out HGr8.out⟩
        case measure => simp [intOf]; omega
      · have ht : t = z := by rw [HT.out, if_neg hkb]
        subst ht
        have e1 : ((k : Int) != (b : Int)) = true := by simp; omega
        have e2 : ((k : Int) == (b : Int)) = false := by simp; omega
        clear hkb HT HZ
        go_wp2_with fail
        go_roundw
        case rel => exact ⟨k + 1, by omega, by go_num, grown_trans HG0.out HGr8.out⟩
        case measure => simp [intOf]; omega
    · go_wp2_with (go_at_call 13; refine (awake5_any _).mono ?_; rintro e w9 ⟨rfl, hg9⟩; have HG9 := Lib.hid hg9; clear hg9)
      go_ret
      exact ⟨rfl, grown_trans HN.out.grown HG9.out⟩

end Go.Proofs.Ytndmcnddgcifiaa
