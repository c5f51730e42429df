/- The law CacheSteps, walked; no condition. -/
import Derived.Test.YtndmcnddgcifiaaLooks
import Derived.Test.YtndmcnddgcifiaaMSame
import Derived.Test.YtndmcnddgcifiaaFlush
set_option linter.unusedVariables false
set_option linter.unusedSimpArgs false
namespace Go.Proofs.Ytndmcnddgcifiaa
open Go.RowKit

/-- Reading, by both. -/
theorem reads_both (m : Mm) (hok : MmOk m) (a : Int) : ∃ M c err, (∀ F u v (W : World), rMm.rep W F m [u, v] → Calls Try.prog 9 #[.agg #[u, v], .int .i64 a] W (ReadRet M c err W)) ∧
    ∀ F u v (W : World), rMm.rep W F m [u, v] → Calls Try.prog 21 #[.agg #[u, v], .int .i64 a] W (ReadRet M c err W) := by
  by_cases h : Outside a
  · exact ⟨_, _, _, fun F u v W hr => cache_Read_out F m a h u v W hr, fun F u v W _ => ref05_Read_out m a h u v W⟩
  · unfold Outside at h
    obtain ⟨k, rfl⟩ : ∃ k : Nat, a = k := ⟨a.toNat, by omega⟩
    exact ⟨_, _, _, fun F u v W hr => cache_Read_in F m k (by omega) hok u v W hr, fun F u v W hr => ref05_Read_in F m k (by omega) hok u v W hr⟩
theorem sees_both (m : Mm) (hok : MmOk m) (a : Int) : ∃ c err, (∀ F u v (W : World), rMm.rep W F m [u, v] → Calls Try.prog 16 #[.agg #[u, v], .int .i64 a] W (SeePost c err W)) ∧
    ∀ F u v (W : World), rMm.rep W F m [u, v] → Calls Try.prog 22 #[.agg #[u, v], .int .i64 a] W (SeePost c err W) := by
  by_cases h : Outside a
  · exact ⟨_, _, fun F u v W hr => cache_See_out a h u v W (mm_shape hr), fun F u v W _ => ref05_See_out a h u v W⟩
  · unfold Outside at h
    obtain ⟨k, rfl⟩ : ∃ k : Nat, a = k := ⟨a.toNat, by omega⟩
    exact ⟨_, _, fun F u v W hr => cache_See_in F m k (by omega) hok u v W hr, fun F u v W hr => ref05_See_in F m k (by omega) hok u v W hr⟩
theorem writes_both (m : Mm) (hok : MmOk m) (a : Int) (x : Cel) (hx : CelWf x) : ∃ M err, (∀ F u v (W : World), rMm.rep W F m [u, v] → Calls Try.prog 15 #[.agg #[u, v], .int .i64 a, .agg #[.int .u8 x.1, .int .u16 x.2]] W (WriteRet M err W)) ∧
    ∀ F u v (W : World), rMm.rep W F m [u, v] → Calls Try.prog 24 #[.agg #[u, v], .int .i64 a, .agg #[.int .u8 x.1, .int .u16 x.2]] W (WriteRet M err W) := by
  cases ht : decide (x.1 ≤ 2)
  · exact ⟨_, _, fun F u v W hr => cache_Write_bad F m x a ht u v W hr, fun F u v W hr => ref05_Write_bad F m x a ht u v W hr⟩
  · by_cases h : Outside a
    · exact ⟨_, _, fun F u v W hr => cache_Write_out F m x a h ht u v W hr, fun F u v W hr => ref05_Write_out F m x a h ht u v W hr⟩
    · unfold Outside at h
      obtain ⟨k, rfl⟩ : ∃ k : Nat, a = k := ⟨a.toNat, by omega⟩
      exact ⟨_, _, fun F u v W hr => cache_Write_in F m x hx k (by omega) hok ht u v W hr, fun F u v W hr => ref05_Write_in F m x hx k (by omega) hok ht u v W hr⟩

def NG (g : Nat) (b : Nat) : Prop := b ≠ g
/-- What stands all along: the deck, the given cell, the memory, the addresses. -/
structure StS (w0 : World) (L : List Int) (m : Mm) (q5 q8 q39 : Nat) (x : Cel) (U V : Value) (ads : List Int) (w : World) : Prop where
  dk : DkW w0 L w
  b5 : Bk w q5 30 [.int .u8 x.1, .int .u16 x.2]
  b8 : Bk w q8 27 [U, V]
  b39 : Bk w q39 3 (ads.map (.int .i64))
  n5 : q5 ≠ w0.heap.size
  n8 : q8 ≠ w0.heap.size
  n39 : q39 ≠ w0.heap.size
  r : rMm.rep w (NG w0.heap.size) m [U, V]
section
variable {w0 w w' : World} {L : List Int} {m : Mm} {q5 q8 q39 : Nat} {x : Cel} {U V : Value} {ads : List Int}
theorem StS.none (h : StS w0 L m q5 q8 q39 x U V ads w) (hg : w.grownBy w' none) : StS w0 L m q5 q8 q39 x U V ads w' :=
  ⟨h.dk.none hg, h.b5.grow hg, h.b8.grow hg, h.b39.grow hg, h.n5, h.n8, h.n39, rMm.grow h.r hg⟩
theorem StS.deal (h : StS w0 L m q5 q8 q39 x U V ads w) (hd : Deals (fun k => k < w0.heap.size) w0.heap.size L w w') : StS w0 L m q5 q8 q39 x U V ads w' :=
  ⟨h.dk.deal hd, h.b5.keep (hd.2.block _ h.b5.hi (fun e => by injection e with e; exact h.n5 e)), h.b8.keep (hd.2.block _ h.b8.hi (fun e => by injection e with e; exact h.n8 e)), h.b39.keep (hd.2.block _ h.b39.hi (fun e => by injection e with e; exact h.n39 e)), h.n5, h.n8, h.n39, rMm.growx h.r (fun h => h rfl) hd.2⟩
end

/-- A memory that a call gave. -/
def SRm (M : Mm) (v : Value) (w : World) : Prop := ∃ a b, v = .agg #[a, b] ∧ rMm.rep w TT M [a, b]
theorem SRm.kept {M : Mm} : ∀ w w' u, World.grownBy w w' none → SRm M u w → SRm M u w' := fun _ _ _ hg ⟨a, b, e, h⟩ => ⟨a, b, e, rMm.grow h hg⟩

set_option maxRecDepth 100000 in
set_option maxHeartbeats 4000000 in
theorem lawSteps_any (A : Option Addr) (L : List Int) (cp : Nat) (a0 : Int) (x : Cel) (w : World) (hl : L.length ≤ 9223372036854775807) (hw : I64s L)
    (ha0 : -9223372036854775808 ≤ a0) (ha1 : a0 ≤ 9223372036854775807) (hxw : CelWf x) (h : Ints .i64 w (fun k => k < w.heap.size) A L) :
    Calls Try.prog 6 #[.slice A L.length cp, .int .i64 a0, .agg #[.int .u8 x.1, .int .u16 x.2]] w (BoolGrown true w) := by
  have hgX : w.grownBy (w.alloc (.cells #[.int .u8 x.1, .int .u16 x.2] 30)) none := grown_alloc (grown_refl _ _) _
  have hb5 : Bk (w.alloc (.cells #[.int .u8 x.1, .int .u16 x.2] 30)) w.heap.size 30 [.int .u8 x.1, .int .u16 x.2] := Bk.new
  have HDK := Lib.hid (DkW.new (c := cp) (h.low hgX) hl hw)
  have HA := Lib.hid (And.intro ha0 ha1)
  have Hxw := Lib.hid hxw
  have HGX := Lib.hid hgX
  clear h hl hw ha0 ha1 hxw hgX
  go_enter Try.func6, Try.ntmps6
  go_wp2_with fail
  have hq5 : w.heap.size < (w.alloc (.cells #[.int .u8 x.1, .int .u16 x.2] 30)).heap.size := by simp
  generalize w.alloc (.cells #[.int .u8 x.1, .int .u16 x.2] 30) = W0 at *
  refine (mkNew_any A L cp W0).mono ?_
  rintro e W1 ⟨rfl, rfl⟩
  have hb5 := hb5.grow (grown_alloc (grown_refl W0 none) (.cells #[.slice A L.length cp, .int .i64 0] 60))
  generalize W0.alloc (.cells #[.slice A L.length cp, .int .i64 0] 60) = W1 at *
  go_wp2_with fail
  obtain ⟨j0, hj0⟩ := HDK.out.deck
  refine (worked_any (fun k => k < W0.heap.size) W0.heap.size L j0 true W1 HDK.out.low hj0).mono ?_
  rintro e w1 ⟨m, u, v, fp, rfl, ho, hnd, hlo, hok, hmv, hcl, hd⟩
  have HD1 := Lib.hid (HDK.out.deal hd)
  have Hok := Lib.hid hok
  have hW1 := HDK.out.lt
  have hb5 := hb5.keep (hd.2.block _ hb5.hi (fun e => by injection e with e; omega))
  obtain ⟨⟨A1, n1, c1, rfl⟩, B1, m1, d1, rfl⟩ := own_shapes ho
  have hr := rMm.sub (G := NG W0.heap.size) (rMm.reads ho) fun k hk => by have := hlo k hk; show k ≠ _; omega
  have hgA : w1.grownBy (w1.alloc (.cells #[.slice A1 n1 c1, .slice B1 m1 d1] 27)) none := grown_alloc (grown_refl _ _) _
  have hb8 : Bk (w1.alloc (.cells #[.slice A1 n1 c1, .slice B1 m1 d1] 27)) w1.heap.size 27 [.slice A1 n1 c1, .slice B1 m1 d1] := Bk.new
  have hs1 := HD1.out.lt
  have hb5 := hb5.grow hgA
  have hr := rMm.grow hr hgA
  have HD2 := Lib.hid (HD1.out.none hgA)
  clear hd hok hmv hcl hnd hlo ho hj0 hgA HDK
  go_wp2_with fail
  refine (mod_any a0 514 _ HA.out.1 HA.out.2 (by omega) (by omega)).mono ?_
  rintro e w' ⟨rfl, rfl⟩
  have H514 := Lib.hid (show 0 ≤ a0 % 514 ∧ a0 % 514 < 514 from ⟨Int.emod_nonneg _ (by decide), Int.emod_lt_of_pos _ (by decide)⟩)
  have h514a := H514.out.1
  have h514b := H514.out.2
  generalize a0 % 514 = a1 at *
  go_wp2_with fail
  refine (mod_any a0 64 _ HA.out.1 HA.out.2 (by omega) (by omega)).mono ?_
  rintro e w' ⟨rfl, rfl⟩
  have H64 := Lib.hid (show 0 ≤ a0 % 64 ∧ a0 % 64 < 64 from ⟨Int.emod_nonneg _ (by decide), Int.emod_lt_of_pos _ (by decide)⟩)
  generalize a0 % 64 = a2 at *
  generalize w1.alloc (.cells #[.slice A1 n1 c1, .slice B1 m1 d1] 27) = W2 at *
  generalize hq8 : w1.heap.size = q8 at *
  go_wp2_with fail
  obtain ⟨j1, hj1⟩ := HD2.out.deck
  refine (next_any (fun k => k < W0.heap.size) W0.heap.size L j1 64 W2 hj1 (by omega) (by omega)).mono ?_
  rintro e w3 ⟨a3, ha30, ha31, rfl, hd3⟩
  have HD3 := Lib.hid (HD2.out.deal hd3)
  have hb5 := hb5.keep (hd3.2.block _ hb5.hi (fun e => by injection e with e; omega))
  have hb8 := hb8.keep (hd3.2.block _ hb8.hi (fun e => by injection e with e; omega))
  have hr := rMm.growx hr (fun h => h rfl) hd3.2
  have hgB : w3.grownBy (w3.alloc (.cells #[.int .i64 a0, .int .i64 (a1 - 1), .int .i64 a2, .int .i64 a3] 3)) none := grown_alloc (grown_refl _ _) _
  have hb39 : Bk (w3.alloc (.cells #[.int .i64 a0, .int .i64 (a1 - 1), .int .i64 a2, .int .i64 a3] 3)) w3.heap.size 3 ([a0, a1 - 1, a2, a3].map (Value.int .i64)) := Bk.new (vs := [.int .i64 a0, .int .i64 (a1 - 1), .int .i64 a2, .int .i64 a3])
  have hs3 := HD3.out.lt
  have HS := Lib.hid (show StS W0 L m w.heap.size q8 w3.heap.size x _ _ [a0, a1 - 1, a2, a3] _ from ⟨HD3.out.none hgB, hb5.grow hgB, hb8.grow hgB, hb39, by omega, by omega, by omega, rMm.grow hr hgB⟩)
  have HI := Lib.hid (show ∀ k (hk : k < [a0, a1 - 1, a2, a3].length), -9223372036854775808 ≤ [a0, a1 - 1, a2, a3][k] ∧ [a0, a1 - 1, a2, a3][k] ≤ 9223372036854775807 from fun k hk => by
    have := HA.out
    have := H64.out
    have : k = 0 ∨ k = 1 ∨ k = 2 ∨ k = 3 := by simp at hk; omega
    rcases this with rfl | rfl | rfl | rfl <;> simp <;> omega)
  clear hgB hb39 hb8 hb5 hr hd3 hj1 HD1 HD2 HD3
  go_wp2_with fail
  generalize w3.alloc (.cells #[.int .i64 a0, .int .i64 (a1 - 1), .int .i64 a2, .int .i64 a3] 3) = W4 at *
  generalize hq39 : w3.heap.size = q39 at *
  have hadl : [a0, a1 - 1, a2, a3].length = 4 := rfl
  generalize [a0, a1 - 1, a2, a3] = ads at *
  have Hadl := Lib.hid hadl
  have HG0 := Lib.hid HGX.out
  clear hadl h514a h514b H514 H64 HA ha30 ha31
  go_loopw [41] (fun i wr => ∃ k : Nat, k ≤ 4 ∧ i = .int .i64 k ∧ StS W0 L m w.heap.size q8 q39 x (.slice A1 n1 c1) (.slice B1 m1 d1) ads wr) (fun i _ => 4 - (intOf i).toNat)
  case atStart => exact ⟨0, Nat.zero_le _, rfl, HS.out⟩
  case round =>
    clear HS
    obtain ⟨k, hk, rfl, hst⟩ := hrel
    have HN := Lib.hid hst
    clear hst
    by_cases hlt : k < 4
    · have x2 : (0 : Int) ≤ (k : Int) := by omega
      have x3 : (k : Int) < 4 := by omega
      have x5 : (k : Int).toNat = k := by omega
      have hkl : k < ads.length := by rw [Hadl.out]; exact hlt
      obtain ⟨a, ha⟩ : ∃ a, a = ads[k] := ⟨_, rfl⟩
      have g0 : wr.cell? ⟨q39, k, none⟩ = some (.int .i64 a) := by rw [HN.out.b39.cell]; simp [ha, hkl]
      have hai := HI.out k hkl
      rw [← ha] at hai
      have k80 := HN.out.b8.cell 0
      have k81 := HN.out.b8.cell 1
      simp only [List.getElem?_cons_zero, List.getElem?_cons_succ] at k80 k81
      have Hai := Lib.hid hai
      clear ha hai hkl
      obtain ⟨M, cR, err, hRd1, hRd2⟩ := reads_both m Hok.out a
      obtain ⟨cS, errS, hSe1, hSe2⟩ := sees_both m Hok.out a
      have HR1 := Lib.hid hRd1
      have HR2 := Lib.hid hRd2
      have HS1 := Lib.hid hSe1
      have HS2 := Lib.hid hSe2
      clear hRd1 hRd2 hSe1 hSe2
      go_wp2_with fail
      refine (HR1.out _ _ _ wr HN.out.r).mono ?_
      rintro e w5 ⟨u5, v5, fp5, rfl, ho5, hnd5, hf5, hg5, hcw5⟩
      obtain ⟨⟨A5, n5, c5, rfl⟩, B5, m5, d5, rfl⟩ := own_shapes ho5
      have hgC : w5.grownBy ((w5.alloc (.cells #[.slice A5 n5 c5, .slice B5 m5 d5] 27)).alloc (.cells #[.int .u8 cR.1, .int .u16 cR.2] 30)) none := grown_alloc (grown_alloc (grown_refl _ _) _) _
      have hb11 : Bk ((w5.alloc (.cells #[.slice A5 n5 c5, .slice B5 m5 d5] 27)).alloc (.cells #[.int .u8 cR.1, .int .u16 cR.2] 30)) w5.heap.size 27 [.slice A5 n5 c5, .slice B5 m5 d5] := Bk.new.grow (grown_alloc (grown_refl _ _) _)
      have hb12 : Bk ((w5.alloc (.cells #[.slice A5 n5 c5, .slice B5 m5 d5] 27)).alloc (.cells #[.int .u8 cR.1, .int .u16 cR.2] 30)) (w5.heap.size + 1) 30 [.int .u8 cR.1, .int .u16 cR.2] := by
        have h := Bk.new (w := w5.alloc (.cells #[.slice A5 n5 c5, .slice B5 m5 d5] 27)) (t := 30) (vs := [.int .u8 cR.1, .int .u16 cR.2])
        simpa using h
      have hrM := rMm.grow (own_tt ho5) hgC
      have HN5 := Lib.hid (HN.out.none (grown_trans hg5 hgC))
      clear ho5 hnd5 hf5 hg5 hgC k80 k81
      go_upto_region 7 with fail
      generalize (w5.alloc (.cells #[.slice A5 n5 c5, .slice B5 m5 d5] 27)).alloc (.cells #[.int .u8 cR.1, .int .u16 cR.2] 30) = W5 at *
      generalize hq11 : w5.heap.size = q11 at *
      have k80 := HN5.out.b8.cell 0
      have k81 := HN5.out.b8.cell 1
      simp only [List.getElem?_cons_zero, List.getElem?_cons_succ] at k80 k81
      go_wp2_with fail
      refine (HR2.out _ _ _ W5 HN5.out.r).mono ?_
      rintro e w6 ⟨u6, v6, fp6, rfl, ho6, hnd6, hf6, hg6, hcw6⟩
      obtain ⟨⟨A6, n6, c6, rfl⟩, B6, m6, d6, rfl⟩ := own_shapes ho6
      have hgC : w6.grownBy ((w6.alloc (.cells #[.slice A6 n6 c6, .slice B6 m6 d6] 27)).alloc (.cells #[.int .u8 cR.1, .int .u16 cR.2] 30)) none := grown_alloc (grown_alloc (grown_refl _ _) _) _
      have hb14 : Bk ((w6.alloc (.cells #[.slice A6 n6 c6, .slice B6 m6 d6] 27)).alloc (.cells #[.int .u8 cR.1, .int .u16 cR.2] 30)) w6.heap.size 27 [.slice A6 n6 c6, .slice B6 m6 d6] := Bk.new.grow (grown_alloc (grown_refl _ _) _)
      have hb15 : Bk ((w6.alloc (.cells #[.slice A6 n6 c6, .slice B6 m6 d6] 27)).alloc (.cells #[.int .u8 cR.1, .int .u16 cR.2] 30)) (w6.heap.size + 1) 30 [.int .u8 cR.1, .int .u16 cR.2] := by
        have h := Bk.new (w := w6.alloc (.cells #[.slice A6 n6 c6, .slice B6 m6 d6] 27)) (t := 30) (vs := [.int .u8 cR.1, .int .u16 cR.2])
        simpa using h
      have hgD := grown_trans hg6 hgC
      have hrM2 := rMm.grow (own_tt ho6) hgC
      have hrM := rMm.grow hrM hgD
      have hb11 := hb11.grow hgD
      have hb12 := hb12.grow hgD
      have HN6 := Lib.hid (HN5.out.none hgD)
      clear ho6 hnd6 hf6 hg6 hgC hgD k80 k81 HN5 HR1 HR2
      go_upto_region 8 with fail
      generalize (w6.alloc (.cells #[.slice A6 n6 c6, .slice B6 m6 d6] 27)).alloc (.cells #[.int .u8 cR.1, .int .u16 cR.2] 30) = W6 at *
      generalize hq14 : w6.heap.size = q14 at *
      have k80 := HN6.out.b8.cell 0
      have k81 := HN6.out.b8.cell 1
      simp only [List.getElem?_cons_zero, List.getElem?_cons_succ] at k80 k81
      go_wp2_with fail
      refine (HS1.out _ _ _ W6 HN6.out.r).mono ?_
      rintro e w7 ⟨rfl, hg7⟩
      have hgD := grown_trans hg7 (grown_alloc (grown_refl w7 none) (.cells #[.int .u8 cS.1, .int .u16 cS.2] 30))
      have hb17 : Bk (w7.alloc (.cells #[.int .u8 cS.1, .int .u16 cS.2] 30)) w7.heap.size 30 [.int .u8 cS.1, .int .u16 cS.2] := Bk.new
      have hrM := rMm.grow hrM hgD
      have hrM2 := rMm.grow hrM2 hgD
      have hb11 := hb11.grow hgD
      have hb12 := hb12.grow hgD
      have hb14 := hb14.grow hgD
      have hb15 := hb15.grow hgD
      have HN7 := Lib.hid (HN6.out.none hgD)
      clear hg7 hgD k80 k81 HN6
      go_upto_region 9 with fail
      generalize w7.alloc (.cells #[.int .u8 cS.1, .int .u16 cS.2] 30) = W7 at *
      generalize hq17 : w7.heap.size = q17 at *
      have k80 := HN7.out.b8.cell 0
      have k81 := HN7.out.b8.cell 1
      simp only [List.getElem?_cons_zero, List.getElem?_cons_succ] at k80 k81
      go_wp2_with fail
      refine (HS2.out _ _ _ W7 HN7.out.r).mono ?_
      rintro e w8 ⟨rfl, hg8⟩
      have hgD := grown_trans hg8 (grown_alloc (grown_refl w8 none) (.cells #[.int .u8 cS.1, .int .u16 cS.2] 30))
      have hb19 : Bk (w8.alloc (.cells #[.int .u8 cS.1, .int .u16 cS.2] 30)) w8.heap.size 30 [.int .u8 cS.1, .int .u16 cS.2] := Bk.new
      have hrM := rMm.grow hrM hgD
      have hrM2 := rMm.grow hrM2 hgD
      have hb11 := hb11.grow hgD
      have hb12 := hb12.grow hgD
      have hb14 := hb14.grow hgD
      have hb15 := hb15.grow hgD
      have hb17 := hb17.grow hgD
      have HN8 := Lib.hid (HN7.out.none hgD)
      clear hg8 hgD k80 k81 HN7 HS1 HS2
      go_upto_region 10 with fail
      generalize w8.alloc (.cells #[.int .u8 cS.1, .int .u16 cS.2] 30) = W8 at *
      generalize hq19 : w8.heap.size = q19 at *
      have x110 := hb11.cell 0
      have x111 := hb11.cell 1
      have x120 := hb12.cell 0
      have x121 := hb12.cell 1
      have x140 := hb14.cell 0
      have x141 := hb14.cell 1
      have x150 := hb15.cell 0
      have x151 := hb15.cell 1
      have x170 := hb17.cell 0
      have x171 := hb17.cell 1
      have x190 := hb19.cell 0
      have x191 := hb19.cell 1
      simp only [List.getElem?_cons_zero, List.getElem?_cons_succ] at x110 x111 x120 x121 x140 x141 x150 x151 x170 x171 x190 x191
      have z1 : (err != err) = false := by simp
      have z2 : (errS != errS) = false := by simp
      have HM1 := Lib.hid hrM
      have HM2 := Lib.hid hrM2
      have H17 := Lib.hid hb17
      have H19 := Lib.hid hb19
      clear hrM hrM2 hb11 hb12 hb14 hb15 hb17 hb19
      go_wp2_with fail
      refine (ref04_Same_eq TT TT M _ _ _ _ W8 HM1.out HM2.out).mono ?_
      rintro e w9 ⟨rfl, hg9⟩
      have HN9 := Lib.hid (HN8.out.none hg9)
      have x170 := (H17.out.grow hg9).cell 0
      have x171 := (H17.out.grow hg9).cell 1
      have x190 := (H19.out.grow hg9).cell 0
      have x191 := (H19.out.grow hg9).cell 1
      simp only [List.getElem?_cons_zero, List.getElem?_cons_succ] at x170 x171 x190 x191
      clear hg9 HN8 H17 H19 HM1 HM2
      go_wp2_with fail
      clear x170 x171 x190 x191 x110 x111 x120 x121 x140 x141 x150 x151
      obtain ⟨j5, hj5⟩ := HN9.out.dk.deck
      have HJ := Lib.hid hj5.drew
      have Hlow := Lib.hid (show ∀ k, k < W0.heap.size → k < w9.drew.heap.size from HN9.out.dk.low)
      have hq := HN9.out.n5
      have hq' := Ne.symm hq
      have hlt5 := HN9.out.b5.hi
      have k50 := HN9.out.b5.cell 0
      have k51 := HN9.out.b5.cell 1
      simp only [List.getElem?_cons_zero, List.getElem?_cons_succ] at k50 k51
      clear hj5
      go_region_with (first
        | (go_at_call 14; refine (deckCell_any (fun k => k < W0.heap.size) W0.heap.size L j5 _ Hlow.out HJ.out).mono ?_; rintro e w10 ⟨tg, vl, tg0, tg1, vl0, vl1, rfl, hd6⟩; have HN10 := Lib.hid ((HN9.out.none (grown_drew (grown_refl _ _))).deal hd6); have k60 := HN10.out.b5.cell 0; have k61 := HN10.out.b5.cell 1; simp only [List.getElem?_cons_zero, List.getElem?_cons_succ] at k60 k61; clear hd6))
      all_goals (
        have hgE : w10.grownBy (w10.alloc (.cells #[.int .u8 x.1, .int .u16 x.2, .int .u8 tg, .int .u16 vl] 30)) none := grown_alloc (grown_refl _ _) _
        have hb98 : Bk (w10.alloc (.cells #[.int .u8 x.1, .int .u16 x.2, .int .u8 tg, .int .u16 vl] 30)) w10.heap.size 30 [.int .u8 x.1, .int .u16 x.2, .int .u8 tg, .int .u16 vl] := Bk.new
        have HN11 := Lib.hid (HN10.out.none hgE)
        clear hgE k60 k61 k50 k51 hq hq' hlt5 HJ Hlow HN9
        go_wp2_with fail
        simp only [Act.put, List.setIfInBounds_toArray, List.set_cons_succ, List.set_cons_zero, List.getElem_toArray, List.getElem_cons_succ, List.getElem_cons_zero]
        generalize w10.alloc (.cells #[.int .u8 x.1, .int .u16 x.2, .int .u8 tg, .int .u16 vl] 30) = W10 at *
        generalize hq98 : w10.heap.size = q98 at *
        have Hcy := Lib.hid (celWf_of tg0 tg1 vl0 vl1)
        have H98 := Lib.hid hb98
        clear hb98 tg0 tg1 vl0 vl1
        go_loopw [100] (fun i wr => ∃ j : Nat, j ≤ 2 ∧ i = .int .i64 j ∧ StS W0 L m w.heap.size q8 q39 x (.slice A1 n1 c1) (.slice B1 m1 d1) ads wr ∧ Bk wr q98 30 [.int .u8 x.1, .int .u16 x.2, .int .u8 tg, .int .u16 vl]) (fun i _ => 2 - (intOf i).toNat)
        case atStart => exact ⟨0, Nat.zero_le _, rfl, HN11.out, H98.out⟩
        case round =>
          obtain ⟨j, hj, rfl, hst, hb98⟩ := hrel
          have HN12 := Lib.hid hst
          have H98 := Lib.hid hb98
          clear hst hb98
          by_cases hlj : j < 2
          · have x6 : (0 : Int) ≤ (j : Int) := by omega
            have x7 : (j : Int) < 2 := by omega
            have x8 : (j : Int).toNat = j := by omega
            obtain ⟨y, hcw, c0, c1⟩ : ∃ y : Cel, CelWf y ∧ wr.cell? ⟨q98, j * 2, none⟩ = some (.int .u8 y.1) ∧ wr.cell? ⟨q98, j * 2 + 1, none⟩ = some (.int .u16 y.2) := by
              have e : j = 0 ∨ j = 1 := by omega
              rcases e with rfl | rfl
              · exact ⟨x, Hxw.out, H98.out.cell 0, H98.out.cell 1⟩
              · exact ⟨(tg, vl), Hcy.out, H98.out.cell 2, H98.out.cell 3⟩
            have Hcw := Lib.hid hcw
            clear hcw
            go_upto_region 15 with fail
            have hgE : wr.grownBy (wr.alloc (.cells #[.int .u8 y.1, .int .u16 y.2] 30)) none := grown_alloc (grown_refl _ _) _
            have hb22 : Bk (wr.alloc (.cells #[.int .u8 y.1, .int .u16 y.2] 30)) wr.heap.size 30 [.int .u8 y.1, .int .u16 y.2] := Bk.new
            have hb98 := H98.out.grow hgE
            have HN13 := Lib.hid (HN12.out.none hgE)
            clear hgE c0 c1 H98 HN12
            generalize wr.alloc (.cells #[.int .u8 y.1, .int .u16 y.2] 30) = W11 at *
            generalize hq22 : wr.heap.size = q22 at *
            obtain ⟨M2, err2, hWr1, hWr2⟩ := writes_both m Hok.out a y Hcw.out
            have HW1 := Lib.hid hWr1
            have HW2 := Lib.hid hWr2
            clear hWr1 hWr2
            have k80 := HN13.out.b8.cell 0
            have k81 := HN13.out.b8.cell 1
            have k220 := hb22.cell 0
            have k221 := hb22.cell 1
            simp only [List.getElem?_cons_zero, List.getElem?_cons_succ] at k80 k81 k220 k221
            go_wp2_with fail
            refine (HW1.out _ _ _ W11 HN13.out.r).mono ?_
            rintro e w13 ⟨u13, v13, fp13, rfl, ho13, hnd13, hf13, hg13⟩
            obtain ⟨⟨A3, n3, c3, rfl⟩, B3, m3, d3, rfl⟩ := own_shapes ho13
            have hgC : w13.grownBy (w13.alloc (.cells #[.slice A3 n3 c3, .slice B3 m3 d3] 27)) none := grown_alloc (grown_refl _ _) _
            have hb23 : Bk (w13.alloc (.cells #[.slice A3 n3 c3, .slice B3 m3 d3] 27)) w13.heap.size 27 [.slice A3 n3 c3, .slice B3 m3 d3] := Bk.new
            have hgD := grown_trans hg13 hgC
            have hrM := rMm.grow (own_tt ho13) hgC
            have hb98 := hb98.grow hgD
            have hb22 := hb22.grow hgD
            have HN14 := Lib.hid (HN13.out.none hgD)
            clear ho13 hnd13 hf13 hg13 hgC hgD k80 k81 k220 k221 HN13 HW1
            go_upto_region 16 with fail
            generalize w13.alloc (.cells #[.slice A3 n3 c3, .slice B3 m3 d3] 27) = W12 at *
            generalize hq23 : w13.heap.size = q23 at *
            have k80 := HN14.out.b8.cell 0
            have k81 := HN14.out.b8.cell 1
            have k220 := hb22.cell 0
            have k221 := hb22.cell 1
            simp only [List.getElem?_cons_zero, List.getElem?_cons_succ] at k80 k81 k220 k221
            go_wp2_with fail
            refine (HW2.out _ _ _ W12 HN14.out.r).mono ?_
            rintro e w14 ⟨u14, v14, fp14, rfl, ho14, hnd14, hf14, hg14⟩
            obtain ⟨⟨A4, n4, c4, rfl⟩, B4, m4, d4, rfl⟩ := own_shapes ho14
            have hgC : w14.grownBy (w14.alloc (.cells #[.slice A4 n4 c4, .slice B4 m4 d4] 27)) none := grown_alloc (grown_refl _ _) _
            have hb25 : Bk (w14.alloc (.cells #[.slice A4 n4 c4, .slice B4 m4 d4] 27)) w14.heap.size 27 [.slice A4 n4 c4, .slice B4 m4 d4] := Bk.new
            have hgD := grown_trans hg14 hgC
            have hrM2 := rMm.grow (own_tt ho14) hgC
            have hrM := rMm.grow hrM hgD
            have hb98 := hb98.grow hgD
            have hb23 := hb23.grow hgD
            have HN15 := Lib.hid (HN14.out.none hgD)
            clear ho14 hnd14 hf14 hg14 hgC hgD k80 k81 k220 k221 HN14 HW2 hb22
            go_upto_region 17 with fail
            generalize w14.alloc (.cells #[.slice A4 n4 c4, .slice B4 m4 d4] 27) = W13 at *
            generalize hq25 : w14.heap.size = q25 at *
            have x230 := hb23.cell 0
            have x231 := hb23.cell 1
            have x250 := hb25.cell 0
            have x251 := hb25.cell 1
            simp only [List.getElem?_cons_zero, List.getElem?_cons_succ] at x230 x231 x250 x251
            have z1 : (err2 != err2) = false := by simp
            have HM1 := Lib.hid hrM
            have HM2 := Lib.hid hrM2
            have H98 := Lib.hid hb98
            clear hrM hrM2 hb23 hb25 hb98
            go_wp2_with fail
            refine (ref04_Same_eq TT TT M2 _ _ _ _ W13 HM1.out HM2.out).mono ?_
            rintro e w15 ⟨rfl, hg15⟩
            have HN16 := Lib.hid (HN15.out.none hg15)
            have H98' := Lib.hid (H98.out.grow hg15)
            clear hg15 HN15 H98 HM1 HM2
            go_wp2_with fail
            go_roundw
            case rel => exact ⟨j + 1, by omega, by go_num, HN16.out, H98'.out⟩
            case measure => simp [intOf]; omega
          · go_wp2_with fail
            go_roundw
            case rel => exact ⟨k + 1, by omega, by go_num, HN12.out⟩
            case measure => simp [intOf]; omega)
    · have k80 := HN.out.b8.cell 0
      have k81 := HN.out.b8.cell 1
      simp only [List.getElem?_cons_zero, List.getElem?_cons_succ] at k80 k81
      have x3 : ¬ (k : Int) < 4 := by omega
      go_wp2_with fail
      refine wp_region_rely (fun wx => StS W0 L m w.heap.size q8 q39 x (.slice A1 n1 c1) (.slice B1 m1 d1) ads wx) (fun wx wy => wx.grownBy wy none)
        [SVal (.agg #[.slice A1 n1 c1, .slice B1 m1 d1]), SRm (flushM m), SVal (.agg #[.slice A1 n1 c1, .slice B1 m1 d1]), SRm (flushM m), SVal (.bool true), SVal (.bool true), SVal (.agg #[.slice A1 n1 c1, .slice B1 m1 d1]), SRm (dropM m), SVal (.agg #[.slice A1 n1 c1, .slice B1 m1 d1]), SRm (dropM m), SVal (.bool true), SVal (.bool true), SVal (.bool true), SVal (.bool true), SVal (.bool true), SVal (.bool true)]
        144 (by kernel_rfl) rfl (by kernel_rfl) (HN.out.none (grown_drew (grown_refl _ _))) (fun _ => grown_refl _ _) ?_ ?_ ?_
      · exact ⟨SVal.kept, SRm.kept, SVal.kept, SRm.kept, SVal.kept, SVal.kept, SVal.kept, SRm.kept, SVal.kept, SRm.kept, SVal.kept, SVal.kept, SVal.kept, SVal.kept, SVal.kept, SVal.kept, trivial⟩
      · refine duties_cons ?_ (duties_cons ?_ (duties_cons ?_ (duties_cons ?_ (duties_cons ?_ (duties_cons ?_ (duties_cons ?_ (duties_cons ?_ (duties_cons ?_ (duties_cons ?_ (duties_cons ?_ (duties_cons ?_ (duties_cons ?_ (duties_cons ?_ (duties_cons ?_ (duties_cons ?_ duties_nil)))))))))))))))
        · refine duty_plain rfl fun f wx hb H => ?_
          have e8 : f 8 = _ := H 8 (by decide)
          clear H
          have k80 := hb.b8.cell 0
          have k81 := hb.b8.cell 1
          simp only [List.getElem?_cons_zero, List.getElem?_cons_succ] at k80 k81
          have HB := Lib.hid hb
          clear hb
          go_simp
          exact ⟨HB.out, grown_refl _ _, rfl⟩
        · refine duty_plain rfl fun f wx hb H => ?_
          have e129 : f 129 = _ := H 129 (by decide)
          clear H
          have HB := Lib.hid hb
          clear hb
          go_simp
          refine (cache_Flush_any _ m Hok.out _ _ wx HB.out.r).mono ?_
          rintro e w2 ⟨cs2, fp2, rfl, ho2, hnd2, hf2, hg2⟩
          obtain ⟨u2, v2, _, _, e2, _⟩ := mm_owned ho2
          subst e2
          exact ⟨_, rfl, HB.out.none hg2, hg2, _, _, rfl, own_tt ho2⟩
        · refine duty_plain rfl fun f wx hb H => ?_
          have e8 : f 8 = _ := H 8 (by decide)
          clear H
          have k80 := hb.b8.cell 0
          have k81 := hb.b8.cell 1
          simp only [List.getElem?_cons_zero, List.getElem?_cons_succ] at k80 k81
          have HB := Lib.hid hb
          clear hb
          go_simp
          exact ⟨HB.out, grown_refl _ _, rfl⟩
        · refine duty_plain rfl fun f wx hb H => ?_
          have e131 : f 131 = _ := H 131 (by decide)
          clear H
          have HB := Lib.hid hb
          clear hb
          go_simp
          refine (ref05_Flush_any _ m Hok.out _ _ wx HB.out.r).mono ?_
          rintro e w2 ⟨cs2, fp2, rfl, ho2, hnd2, hf2, hg2⟩
          obtain ⟨u2, v2, _, _, e2, _⟩ := mm_owned ho2
          subst e2
          exact ⟨_, rfl, HB.out.none hg2, hg2, _, _, rfl, own_tt ho2⟩
        · refine duty_plain rfl fun f wx hb H => ?_
          obtain ⟨ua, va, ea, ra⟩ : SRm (flushM m) (f 130) wx := H 130 (by decide)
          obtain ⟨ub, vb, eb, rb⟩ : SRm (flushM m) (f 132) wx := H 132 (by decide)
          clear H
          have HRa := Lib.hid ra
          have HRb := Lib.hid rb
          have HB := Lib.hid hb
          clear hb ra rb
          go_simp
          refine (ref04_Same_eq TT TT (flushM m) _ _ _ _ wx HRa.out HRb.out).mono ?_
          rintro e w2 ⟨rfl, hg2⟩
          exact ⟨_, rfl, HB.out.none hg2, hg2, rfl⟩
        · refine duty_plain rfl fun f wx hb H => ?_
          have e133 : f 133 = _ := H 133 (by decide)
          clear H
          have HB := Lib.hid hb
          clear hb
          go_simp
          exact ⟨HB.out, grown_refl _ _, rfl⟩
        · refine duty_guard _ _ _ rfl rfl fun f wx hb H => ⟨H 134 (by decide), ?_⟩
          have e8 : f 8 = _ := H 8 (by decide)
          clear H
          have k80 := hb.b8.cell 0
          have k81 := hb.b8.cell 1
          simp only [List.getElem?_cons_zero, List.getElem?_cons_succ] at k80 k81
          have HB := Lib.hid hb
          clear hb
          go_simp
          exact ⟨HB.out, grown_refl _ _, rfl⟩
        · refine duty_guard _ _ _ rfl rfl fun f wx hb H => ⟨H 134 (by decide), ?_⟩
          have e135 : f 135 = _ := H 135 (by decide)
          clear H
          have HB := Lib.hid hb
          clear hb
          go_simp
          refine (cache_Drop_any _ m _ _ wx HB.out.r).mono ?_
          rintro e w2 ⟨cs2, fp2, rfl, ho2, hnd2, hf2, hg2⟩
          obtain ⟨u2, v2, _, _, e2, _⟩ := mm_owned ho2
          subst e2
          exact ⟨_, rfl, HB.out.none hg2, hg2, _, _, rfl, own_tt ho2⟩
        · refine duty_guard _ _ _ rfl rfl fun f wx hb H => ⟨H 134 (by decide), ?_⟩
          have e8 : f 8 = _ := H 8 (by decide)
          clear H
          have k80 := hb.b8.cell 0
          have k81 := hb.b8.cell 1
          simp only [List.getElem?_cons_zero, List.getElem?_cons_succ] at k80 k81
          have HB := Lib.hid hb
          clear hb
          go_simp
          exact ⟨HB.out, grown_refl _ _, rfl⟩
        · refine duty_guard _ _ _ rfl rfl fun f wx hb H => ⟨H 134 (by decide), ?_⟩
          have e137 : f 137 = _ := H 137 (by decide)
          clear H
          have HB := Lib.hid hb
          clear hb
          go_simp
          refine (ref05_Drop_any _ m _ _ wx HB.out.r).mono ?_
          rintro e w2 ⟨cs2, fp2, rfl, ho2, hnd2, hf2, hg2⟩
          obtain ⟨u2, v2, _, _, e2, _⟩ := mm_owned ho2
          subst e2
          exact ⟨_, rfl, HB.out.none hg2, hg2, _, _, rfl, own_tt ho2⟩
        · refine duty_guard _ _ _ rfl rfl fun f wx hb H => ⟨H 134 (by decide), ?_⟩
          obtain ⟨ua, va, ea, ra⟩ : SRm (dropM m) (f 136) wx := H 136 (by decide)
          obtain ⟨ub, vb, eb, rb⟩ : SRm (dropM m) (f 138) wx := H 138 (by decide)
          clear H
          have HRa := Lib.hid ra
          have HRb := Lib.hid rb
          have HB := Lib.hid hb
          clear hb ra rb
          go_simp
          refine (ref04_Same_eq TT TT (dropM m) _ _ _ _ wx HRa.out HRb.out).mono ?_
          rintro e w2 ⟨rfl, hg2⟩
          exact ⟨_, rfl, HB.out.none hg2, hg2, rfl⟩
        · refine duty_plain rfl fun f wx hb H => ?_
          have e134 : f 134 = _ := H 134 (by decide)
          have e139 : f 139 = _ := H 139 (by decide)
          clear H
          have HB := Lib.hid hb
          clear hb
          go_simp
          exact ⟨HB.out, grown_refl _ _, rfl⟩
        · refine duty_plain rfl fun f wx hb H => ?_
          have e140 : f 140 = _ := H 140 (by decide)
          clear H
          have HB := Lib.hid hb
          clear hb
          go_simp
          exact ⟨HB.out, grown_refl _ _, rfl⟩
        · refine duty_guard _ _ _ rfl rfl fun f wx hb H => ⟨H 141 (by decide), ?_⟩
          clear H
          have HB := Lib.hid hb
          clear hb
          go_simp
          refine (awake5_any _).mono ?_
          rintro e w2 ⟨rfl, hg2⟩
          exact ⟨_, rfl, HB.out.none hg2, hg2, rfl⟩
        · refine duty_plain rfl fun f wx hb H => ?_
          have e141 : f 141 = _ := H 141 (by decide)
          have e142 : f 142 = _ := H 142 (by decide)
          clear H
          have HB := Lib.hid hb
          clear hb
          go_simp
          exact ⟨HB.out, grown_refl _ _, rfl⟩
        · refine duty_plain rfl fun f wx hb H => ?_
          have e143 : f 143 = _ := H 143 (by decide)
          clear H
          have HB := Lib.hid hb
          clear hb
          go_simp
          exact ⟨HB.out, grown_refl _ _, rfl⟩
      · intro f w9 hb hE
        have e6 : f 6 = .bool true := hE.2.2.2.2.2.2.2.2.2.2.2.2.2.2.2.1
        have HB := Lib.hid hb
        clear hb hE
        simp only [putAll, Act.put, slotV, List.setIfInBounds_toArray, List.set_cons_succ, List.set_cons_zero, e6]
        go_wp2_with fail
        go_ret
        exact ⟨rfl, grown_trans HG0.out HB.out.dk.grown⟩

end Go.Proofs.Ytndmcnddgcifiaa
