/- The law CacheForgets, walked; no condition. -/
import Derived.Test.YtndmcnddgcifiaaHides
set_option linter.unusedVariables false
set_option linter.unusedSimpArgs false
namespace Go.Proofs.Ytndmcnddgcifiaa
open Go.RowKit

theorem forgets2 {m : Mm} (h : MmOk m) (hc : Clean m) {a : Nat} (ha : a < 496) (bad : Cel) (ht : (lnAt m (a / 4 % 4)).tag = (a / 4 : Nat)) (x : Mm)
    (hx : x = ⟨m.cells, m.lines.set (a / 4 % 4) ⟨(a / 4 : Nat), (lnAt m (a / 4 % 4)).dirty, (lnAt m (a / 4 % 4)).cells.set (a % 4) bad⟩⟩) :
    MmOk x ∧ loadM (fetchM x (a + 16)) a = (if (lnAt m (a / 4 % 4)).dirty = true then bad else (lnAt m (a / 4 % 4)).cells.getD (a % 4) (0, 0)) ∧ (fetchM (fetchM x (a + 16)) a).cells.getD a (0, 0) = (if (lnAt m (a / 4 % 4)).dirty = true then bad else (lnAt m (a / 4 % 4)).cells.getD (a % 4) (0, 0)) := by
  have hi : a / 4 % 4 < 4 := Nat.mod_lt _ (by omega)
  have hlen : (lnAt m (a / 4 % 4)).cells.length = 4 := by
    rcases h.each _ hi with ⟨g1, _, _⟩ | ⟨u, _, _, _, g4⟩
    · rw [ht] at g1; omega
    · exact g4
  have hxl : lnAt x (a / 4 % 4) = ⟨(a / 4 : Nat), (lnAt m (a / 4 % 4)).dirty, (lnAt m (a / 4 % 4)).cells.set (a % 4) bad⟩ := by
    rw [hx, lnAt_set (by rw [h.lines]; exact hi), if_pos rfl]
  have hok : MmOk x := by
    refine ⟨by rw [hx]; exact h.cells, by rw [hx]; simp [h.lines], fun i hi4 => ?_⟩
    by_cases e : i = a / 4 % 4
    · subst e; rw [hxl]; exact .inr ⟨a / 4, rfl, by omega, rfl, by simpa using hlen⟩
    · rw [hx, lnAt_set (by rw [h.lines]; exact hi), if_neg e]; exact h.each i hi4
  have h16 : (a + 16) / 4 = a / 4 + 4 := by omega
  have h16m : (a + 16) / 4 % 4 = a / 4 % 4 := by omega
  have hne : ¬ (lnAt x (a / 4 % 4)).tag = ((a / 4 + 4 : Nat) : Int) := by rw [hxl]; simp only; omega
  have hy : fetchM x (a + 16) = ⟨backC x.cells (lnAt x (a / 4 % 4)), x.lines.set (a / 4 % 4) ⟨((a + 16) / 4 : Nat), false, ((backC x.cells (lnAt x (a / 4 % 4))).drop (4 * ((a + 16) / 4))).take 4⟩⟩ := by
    unfold fetchM
    rw [h16m, if_neg (by rw [h16]; exact hne)]
  have hyl : lnAt (fetchM x (a + 16)) (a / 4 % 4) = ⟨((a + 16) / 4 : Nat), false, ((backC x.cells (lnAt x (a / 4 % 4))).drop (4 * ((a + 16) / 4))).take 4⟩ := by
    rw [hy, lnAt_set (by rw [hok.lines]; exact hi), if_pos rfl]
  have hz : fetchM (fetchM x (a + 16)) a = ⟨(fetchM x (a + 16)).cells, (fetchM x (a + 16)).lines.set (a / 4 % 4) ⟨(a / 4 : Nat), false, ((fetchM x (a + 16)).cells.drop (4 * (a / 4))).take 4⟩⟩ := by
    have hb0 : backC (fetchM x (a + 16)).cells (lnAt (fetchM x (a + 16)) (a / 4 % 4)) = (fetchM x (a + 16)).cells := by rw [hyl]; rfl
    rw [fetch_miss (m := fetchM x (a + 16)) (a := a) (by rw [hyl]; simp only; omega), hb0]
  have hcell : (fetchM x (a + 16)).cells.getD a (0, 0) = (if (lnAt m (a / 4 % 4)).dirty = true then bad else (lnAt m (a / 4 % 4)).cells.getD (a % 4) (0, 0)) := by
    rw [hy]
    show (backC x.cells (lnAt x (a / 4 % 4))).getD a (0, 0) = _
    cases hd : (lnAt m (a / 4 % 4)).dirty
    · rw [backL_out hok.cells ⟨_, hi, hok.each _ hi⟩ (.inr (by rw [hxl]; exact hd))]
      have e : x.cells.getD a (0, 0) = (lnAt m (a / 4 % 4)).cells.getD (a % 4) (0, 0) := by
        rw [hx, hc _ hi _ ht hd, take4 (Nat.mod_lt _ (by omega)), show 4 * (a / 4) + a % 4 = a by omega]
      rw [e]
      simp
    · rw [backL_in hok.cells ⟨_, hi, hok.each _ hi⟩ (by rw [hxl]) (by rw [hxl]; exact hd), hxl]
      simp [List.getD_eq_getElem?_getD, hlen, Nat.mod_lt]
  have hlz : (fetchM x (a + 16)).lines.length = 4 := fetch_lines_len hok _
  refine ⟨hok, ?_, ?_⟩
  · have e : loadM (fetchM x (a + 16)) a = (fetchM x (a + 16)).cells.getD a (0, 0) := by
      unfold loadM
      rw [hz, lnAt_set (by rw [hlz]; exact hi), if_pos rfl]
      simp only
      rw [take4 (Nat.mod_lt _ (by omega)), show 4 * (a / 4) + a % 4 = a by omega]
    rw [e]; exact hcell
  · rw [hz]; exact hcell

set_option maxRecDepth 100000 in
set_option maxHeartbeats 4000000 in
theorem lawForgets_any (A : Option Addr) (L : List Int) (cp : Nat) (a0 b0 : Int) (w : World) (hl : L.length ≤ 9223372036854775807) (hw : I64s L)
    (ha0 : -9223372036854775808 ≤ a0) (ha1 : a0 ≤ 9223372036854775807) (hb0 : -9223372036854775808 ≤ b0) (hb1 : b0 ≤ 9223372036854775807) (h : Ints .i64 w (fun k => k < w.heap.size) A L) :
    Calls Try.prog 3 #[.slice A L.length cp, .int .i64 a0, .int .i64 b0] w (BoolGrown true w) := by
  have HDK := Lib.hid (DkW.new (c := cp) h hl hw)
  have HA := Lib.hid (And.intro ha0 ha1)
  have HB := Lib.hid (And.intro hb0 hb1)
  clear h hl hw ha0 ha1 hb0 hb1
  go_enter Try.func3, Try.ntmps3
  go_wp2_with fail
  refine (mod_any a0 496 _ HA.out.1 HA.out.2 (by omega) (by omega)).mono ?_
  rintro e w' ⟨rfl, rfl⟩
  obtain ⟨a, ha⟩ : ∃ a : Nat, a0 % 496 = a := ⟨(a0 % 496).toNat, by omega⟩
  have ha496 : a < 496 := by omega
  have ha512 : a < 512 := by omega
  rw [ha]
  clear ha HA
  go_wp2_with fail
  refine (mkNew_any A L cp w).mono ?_
  rintro e W1 ⟨rfl, rfl⟩
  generalize w.alloc (.cells #[.slice A L.length cp, .int .i64 0] 60) = W1 at *
  go_wp2_with fail
  obtain ⟨j0, hj0⟩ := HDK.out.deck
  refine (worked_any (fun k => k < w.heap.size) w.heap.size L j0 false W1 HDK.out.low hj0).mono ?_
  rintro e w1 ⟨m, u, v, fp, rfl, ho, hnd, hlo, hok, hmv, hcl, hd⟩
  have HD1 := Lib.hid (HDK.out.deal hd).grown
  have Hok := Lib.hid (And.intro hok (hcl rfl))
  obtain ⟨⟨A1, n1, c1, rfl⟩, B1, m1, d1, rfl⟩ := own_shapes ho
  have Ho := Lib.hid (own_tt ho)
  clear hd hok hmv hcl hnd ho hj0 HDK hlo
  go_wp2_with fail
  refine (cache_Read_in TT m a (by omega) Hok.out.1 _ _ w1 Ho.out).mono ?_
  rintro e w2 ⟨u2, v2, fp2, rfl, ho2, hnd2, hf2, hg2, hcw2⟩
  have hokM := ok_fetch Hok.out.1 ha512
  have hclM := clean_fetch Hok.out.1 Hok.out.2 ha512
  have htg := fetch_at Hok.out.1 a
  have hlsee : loadM m a = seeM (fetchM m a) a := by unfold loadM seeM; rw [if_pos htg]
  rw [hlsee] at hcw2 ⊢
  clear Hok Ho hlsee
  obtain ⟨qc, cc, ql, cl, rfl, rfl⟩ := own_shape hokM ho2
  generalize fetchM m a = M at *
  have HM := Lib.hid (And.intro hokM (And.intro hclM htg))
  clear hokM hclM htg
  obtain ⟨c, hc⟩ : ∃ c, c = seeM M a := ⟨_, rfl⟩
  rw [← hc] at hcw2 ⊢
  have HC := Lib.hid hc
  clear hc
  have hgC : w2.grownBy ((w2.alloc (.cells #[.slice (some ⟨qc, 0, none⟩) 512 cc, .slice (some ⟨ql, 0, none⟩) 4 cl] 27)).alloc (.cells #[.int .u8 c.1, .int .u16 c.2] 30)) none := grown_alloc (grown_alloc (grown_refl _ _) _) _
  have hb9 : Bk ((w2.alloc (.cells #[.slice (some ⟨qc, 0, none⟩) 512 cc, .slice (some ⟨ql, 0, none⟩) 4 cl] 27)).alloc (.cells #[.int .u8 c.1, .int .u16 c.2] 30)) w2.heap.size 27 [.slice (some ⟨qc, 0, none⟩) 512 cc, .slice (some ⟨ql, 0, none⟩) 4 cl] := Bk.new.grow (grown_alloc (grown_refl _ _) _)
  have hb10 : Bk ((w2.alloc (.cells #[.slice (some ⟨qc, 0, none⟩) 512 cc, .slice (some ⟨ql, 0, none⟩) 4 cl] 27)).alloc (.cells #[.int .u8 c.1, .int .u16 c.2] 30)) (w2.heap.size + 1) 30 [.int .u8 c.1, .int .u16 c.2] := by
    have h := Bk.new (w := w2.alloc (.cells #[.slice (some ⟨qc, 0, none⟩) 512 cc, .slice (some ⟨ql, 0, none⟩) 4 cl] 27)) (t := 30) (vs := [.int .u8 c.1, .int .u16 c.2])
    simpa using h
  have Hr := Lib.hid (rMm.grow (own_tt ho2) hgC)
  have HG := Lib.hid (grown_trans HD1.out (grown_trans hg2 hgC))
  clear ho2 hnd2 hf2 hgC hg2 HD1
  go_upto_region 3 with fail
  generalize (w2.alloc (.cells #[.slice (some ⟨qc, 0, none⟩) 512 cc, .slice (some ⟨ql, 0, none⟩) 4 cl] 27)).alloc (.cells #[.int .u8 c.1, .int .u16 c.2] 30) = W2 at *
  generalize hq9 : w2.heap.size = q9 at *
  have hw2 := HG.out.size
  have k90 := hb9.cell 0
  have k91 := hb9.cell 1
  simp only [List.getElem?_cons_zero, List.getElem?_cons_succ] at k90 k91
  go_wp2_with fail
  refine (ref04_Copy_any TT M _ _ W2 Hr.out).mono ?_
  rintro e w3 ⟨cs3, fp3, rfl, ho3, hnd3, hf3, hg3⟩
  obtain ⟨u3, v3, _, _, e3, _⟩ := mm_owned ho3
  subst e3
  obtain ⟨qx, cx, qy, cy, rfl, rfl⟩ := own_shape HM.out.1 ho3
  have hgD : w3.grownBy (w3.alloc (.cells #[.slice (some ⟨qx, 0, none⟩) 512 cx, .slice (some ⟨qy, 0, none⟩) 4 cy] 27)) none := grown_alloc (grown_refl _ _) _
  have hb12 : Bk (w3.alloc (.cells #[.slice (some ⟨qx, 0, none⟩) 512 cx, .slice (some ⟨qy, 0, none⟩) 4 cy] 27)) w3.heap.size 27 [.slice (some ⟨qx, 0, none⟩) 512 cx, .slice (some ⟨qy, 0, none⟩) 4 cy] := Bk.new
  have hlive := rMm.olive ho3
  have hAt : MemAt (w3.alloc (.cells #[.slice (some ⟨qx, 0, none⟩) 512 cx, .slice (some ⟨qy, 0, none⟩) 4 cy] 27)) w3.heap.size (.slice (some ⟨qx, 0, none⟩) 512 cx) (.slice (some ⟨qy, 0, none⟩) 4 cy) fp3 M :=
    ⟨hb12, rMm.okeep ho3 fun k hk => hgD.block k (hlive k hk) (by simp), List.nodup_cons.2 ⟨fun hk => Nat.lt_irrefl _ (hlive _ hk), hnd3⟩, HM.out.1.cells, HM.out.1.lines⟩
  obtain ⟨i, hi⟩ : ∃ i, i = a / 4 % 4 := ⟨_, rfl⟩
  have hi4 : i < 4 := by omega
  have htg := HM.out.2.2
  rw [← hi] at htg
  have hlen : (lnAt M i).cells.length = 4 := by
    rcases HM.out.1.each _ hi4 with ⟨g1, _, _⟩ | ⟨u, _, _, _, g4⟩
    · rw [htg] at g1; omega
    · exact g4
  obtain ⟨qx', cx', qy', cy', lv, f1, f, f2, c1, c2, e1, e2, e3, hO⟩ := hAt.opened hi4
  cases e1
  cases e2
  obtain ⟨hbd, ⟨_, e, _⟩ | ⟨qz, cz, cs, g, e, ef, h1, h2, hV, howns⟩⟩ := hO.o
  · rw [e] at hlen; cases hlen
  obtain ⟨rfl, rfl, hcwf⟩ := owns_cells howns
  rw [hlen] at e
  subst e ef
  have hf3' : ∀ k, k ∈ fp3 → W2.heap.size ≤ k := hf3
  rw [e3] at hf3'
  have hqz := hf3' qz (by simp)
  have HG := Lib.hid (grown_trans HG.out (grown_trans hg3 hgD))
  clear hAt hb12 hlive ho3 hnd3 hf3 hg3 hgD e3 k90 k91 hb9 hb10 howns hf3'
  go_upto_region 6 with fail
  generalize w3.alloc (.cells #[.slice (some ⟨qx, 0, none⟩) 512 cx, .slice (some ⟨qy, 0, none⟩) 4 cy] 27) = W3 at *
  generalize hq12 : w3.heap.size = q12 at *
  obtain ⟨n, hn⟩ : ∃ n, n = a / 4 := ⟨_, rfl⟩
  have hd1 : (a : Int) / 4 = (n : Int) := by omega
  have hd2 : (n : Int) % 4 = (i : Int) := by omega
  have y1 : (0 : Int) ≤ (i : Int) := by omega
  have y2 : (i : Int) < 4 := by omega
  have y3 : (i : Int).toNat = i := by omega
  obtain ⟨j, hj⟩ : ∃ j, j = a % 4 := ⟨_, rfl⟩
  have hd3 : (a : Int) % 4 = (j : Int) := by omega
  have u1 : (0 : Int) ≤ (j : Int) := by omega
  have u2 : (j : Int) < 4 := by omega
  have u3 : (j : Int).toNat = j := by omega
  have hjl : j < (lnAt M i).cells.length := by omega
  have kd := hO.lines.mid (j := 1) rfl
  have kl := hO.lines.mid (j := 2) rfl
  rw [hO.hc1] at kd kl
  have kb := hO.blk.cell 1
  simp only [List.getElem?_cons_zero, List.getElem?_cons_succ] at kb
  obtain ⟨D, hD⟩ : ∃ D, D = (lnAt M i).dirty := ⟨_, rfl⟩
  rw [← hD] at kd
  obtain ⟨o, ho⟩ : ∃ o, o = (lnAt M i).cells.getD j (0, 0) := ⟨_, rfl⟩
  have ko := row_cell hV hjl
  rw [← ho] at ko
  have ko0 := ko.1
  have ko1 := ko.2
  have fo := hV.free (j * 2 + 1)
  have HD := Lib.hid hD
  have HOo := Lib.hid ho
  have HI := Lib.hid (And.intro hi (And.intro hj (And.intro htg hlen)))
  have HO := Lib.hid hO
  have HV := Lib.hid (And.intro hV (And.intro hcwf (And.intro h1 h2)))
  have hqz' : qz < W3.heap.size := hV.hi
  have HX := Lib.hid (And.intro hn (And.intro hbd hjl))
  clear hD ho hi hj htg hlen hO hV hcwf h1 h2 hn hbd hjl ko
  have Hs := Lib.hid (show 0 ≤ b0 % 16 ∧ b0 % 16 < 16 from ⟨Int.emod_nonneg _ (by decide), Int.emod_lt_of_pos _ (by decide)⟩)
  obtain ⟨s, hs⟩ : ∃ s, s = b0 % 16 := ⟨_, rfl⟩
  rw [← hs] at Hs
  have HS := Lib.hid hs
  clear hs
  have s0 := Hs.out.1
  have s1 := Hs.out.2
  have s2 : IntKind.u64.wrap s = s := by simp [IntKind.wrap, IntKind.bits, IntKind.signed]; omega
  go_wp2_with fail
  have x1 : (0 : Int) ≤ (a : Int) := by omega
  have x2 : (a : Int) < 496 := by omega
  have x3 : (a : Int).toNat = a := by omega
  have hn0 : (0 : Int) ≤ (n : Int) := by omega
  have ht4 : (a : Int).tmod 4 = (j : Int) := by rw [Int.tmod_eq_emod_of_nonneg x1]; exact hd3
  have hj4 : a % 4 = j := HI.out.2.1.symm
  have hr4 : ¬ ((j : Int) < 0) := by omega
  have hr5 : (a : Int) % 4 = (j : Int) := hd3
  go_region_with (go_at_call 8; refine (mod_any b0 16 _ HB.out.1 HB.out.2 (by omega) (by omega)).mono ?_; rintro e w' ⟨rfl, rfl⟩; rw [← HS.out])
  all_goals (
    have hom : o ∈ (lnAt M i).cells := by rw [HOo.out]; simp [List.getD_eq_getElem?_getD, HX.out.2.2]
    have how := celWf_iff.1 (HV.out.2.1 o hom)
    obtain ⟨z0, z1, z2⟩ := flip_u16 o.2 s how.2.2.1 how.2.2.2 s0 s1
    generalize bits .xor .u16 o.2 (IntKind.u16.wrap (2 ^ s.toNat)) = z at *
    have hV2 := HV.out.1.set (.int .u16 z) (j := j * 2 + 1) (by rw [celsV_len]; have := HX.out.2.2; omega)
    rw [celsV_val _ HX.out.2.2, ← HOo.out] at hV2
    have hbw : CelWf (o.1, z) := celWf_iff.2 ⟨how.1, how.2.1, z0, z1⟩
    have hcw3 : ∀ c ∈ (lnAt M i).cells.set j (o.1, z), CelWf c := fun c hc => by
      rcases List.mem_or_eq_of_mem_set hc with hc | rfl
      · exact HV.out.2.1 c hc
      · exact hbw
    have hOS : OSl rCell 30 (W3.setCell ⟨qz, j * 2 + 1, none⟩ (.int .u16 z)) [qz] ((lnAt M i).cells.set j (o.1, z)) (.slice (some ⟨qz, 0, none⟩) 4 cz) :=
      ⟨by simpa using HX.out.2.1, .inr ⟨qz, cz, _, [], by simp [HI.out.2.2.2], rfl, by simpa using HV.out.2.2.1, HV.out.2.2.2, hV2, cells_own _ hcw3⟩⟩
    have hO2 := ((HO.out.lineCells (w' := W3.setCell ⟨qz, j * 2 + 1, none⟩ (.int .u16 z)) (fun k hk => heap_setCell_other _ _ _ _ (fun e => hk (by simp [e]))) hOS).grow (grown_drew (grown_refl _ _)))
    have hgS : W3.grownBy (W3.setCell ⟨qz, j * 2 + 1, none⟩ (.int .u16 z)).drew (some qz) := grown_drew (grown_set (grown_refl W3 (some qz)) (.inl rfl) _)
    have HG2 := Lib.hid (grown_fresh HG.out hgS (by omega))
    obtain ⟨X, hX⟩ : ∃ X, X = setLn M i ⟨(lnAt M i).tag, (lnAt M i).dirty, (lnAt M i).cells.set j (o.1, z)⟩ := ⟨_, rfl⟩
    have hpl := forgets2 HM.out.1 HM.out.2.1 ha496 (o.1, z) HM.out.2.2 X (by rw [hX, ← HI.out.1, ← HI.out.2.1, setLn, HI.out.2.2.1])
    rw [← HI.out.1, ← HI.out.2.1, ← HD.out, ← HOo.out] at hpl
    have hO2' := hO2
    rw [← hX] at hO2
    have HP := Lib.hid hpl
    have hn1 := HI.out.2.2.2
    have hkd := hO2'.lines.mid (j := 1) rfl
    have hkl := hO2'.lines.mid (j := 2) rfl
    rw [hO2'.hc1] at hkd hkl
    rw [lnAt_setLn HM.out.1.lines HO.out.hi] at hkd
    rw [← HD.out] at hkd
    have hko := row_cell (hV2.grow (grown_drew (grown_refl _ _))) (j := j) (by simpa using HX.out.2.2)
    rw [show ((lnAt M i).cells.set j (o.1, z)).getD j (0, 0) = (o.1, z) by simp [List.getD_eq_getElem?_getD, HX.out.2.2]] at hko
    have ko0 := hko.1
    have ko1 := hko.2
    simp only at ko0 ko1
    have HRX := Lib.hid (own_tt hO2.closed.own)
    have HB12 := Lib.hid hO2.closed.blk
    have HO3 := Lib.hid hO2
    have HXD := Lib.hid (show (lnAt X i).dirty = D by rw [hX, lnAt_setLn HM.out.1.lines HO.out.hi, HD.out])
    have hqy4 := hO2.lines.hi
    have hq124 := hO2.blk.hi
    clear hO2 hO2' hpl hX hOS hcw3 hV2 hgS hom how kd kl kb fo hko hbw
    generalize (W3.setCell ⟨qz, j * 2 + 1, none⟩ (.int .u16 z)).drew = W4 at *
    have hgE : W4.grownBy (W4.alloc (.cells #[.int .u8 o.1, .int .u16 z] 30)) none := grown_alloc (grown_refl _ _) _
    have hb13 : Bk (W4.alloc (.cells #[.int .u8 o.1, .int .u16 z] 30)) W4.heap.size 30 [.int .u8 o.1, .int .u16 z] := Bk.new
    have HG5 := Lib.hid (grown_trans HG2.out hgE)
    have HRX5 := Lib.hid (rMm.grow HRX.out hgE)
    have hb12 := HB12.out.grow hgE
    have kd5 := (HO3.out.grow hgE).lines.mid (j := 1) rfl
    rw [HO3.out.hc1, HXD.out] at kd5
    go_upto_region 11 with fail
    generalize W4.alloc (.cells #[.int .u8 o.1, .int .u16 z] 30) = W5 at *
    generalize hq13 : W4.heap.size = q13 at *
    go_upto_region 12 with fail
    obtain ⟨a', ha'⟩ : ∃ a' : Nat, a' = a + 16 := ⟨_, rfl⟩
    have t1 : (a : Int) + 16 = (a' : Int) := by omega
    have t2 : IntKind.i64.wrap (a' : Int) = (a' : Int) := by simp [IntKind.wrap, IntKind.bits, IntKind.signed]; omega
    have t3 : a' < 512 := by omega
    have k120 := hb12.cell 0
    have k121 := hb12.cell 1
    simp only [List.getElem?_cons_zero, List.getElem?_cons_succ] at k120 k121
    have HA' := Lib.hid ha'
    clear ha' kd5 hkd hkl hgE
    go_wp2_with fail
    refine (cache_Read_in TT X a' t3 HP.out.1 _ _ W5 HRX5.out).mono ?_
    rintro e w6 ⟨u6, v6, fp6, rfl, ho6, hnd6, hf6, hg6, hcw6⟩
    have hokY := ok_fetch HP.out.1 t3
    obtain ⟨qe, ce, qf, cf, rfl, rfl⟩ := own_shape hokY ho6
    obtain ⟨y, hy⟩ : ∃ y, y = loadM X a' := ⟨_, rfl⟩
    rw [← hy]
    clear hy
    have hgF : w6.grownBy ((w6.alloc (.cells #[.slice (some ⟨qe, 0, none⟩) 512 ce, .slice (some ⟨qf, 0, none⟩) 4 cf] 27)).alloc (.cells #[.int .u8 y.1, .int .u16 y.2] 30)) none := grown_alloc (grown_alloc (grown_refl _ _) _) _
    have hb15 : Bk ((w6.alloc (.cells #[.slice (some ⟨qe, 0, none⟩) 512 ce, .slice (some ⟨qf, 0, none⟩) 4 cf] 27)).alloc (.cells #[.int .u8 y.1, .int .u16 y.2] 30)) w6.heap.size 27 [.slice (some ⟨qe, 0, none⟩) 512 ce, .slice (some ⟨qf, 0, none⟩) 4 cf] := Bk.new.grow (grown_alloc (grown_refl _ _) _)
    have hb13 := hb13.grow (grown_trans hg6 hgF)
    have HRY := Lib.hid (rMm.grow (own_tt ho6) hgF)
    have HG6 := Lib.hid (grown_trans HG5.out (grown_trans hg6 hgF))
    have HokY := Lib.hid hokY
    clear ho6 hnd6 hf6 hg6 hgF k120 k121 hokY hb12
    go_upto_region 13 with fail
    generalize (w6.alloc (.cells #[.slice (some ⟨qe, 0, none⟩) 512 ce, .slice (some ⟨qf, 0, none⟩) 4 cf] 27)).alloc (.cells #[.int .u8 y.1, .int .u16 y.2] 30) = W6 at *
    generalize hq15 : w6.heap.size = q15 at *
    have k150 := hb15.cell 0
    have k151 := hb15.cell 1
    simp only [List.getElem?_cons_zero, List.getElem?_cons_succ] at k150 k151
    go_wp2_with fail
    refine (cache_Read_in TT (fetchM X a') a (by omega) HokY.out _ _ W6 HRY.out).mono ?_
    rintro e w7 ⟨u7, v7, fp7, rfl, ho7, hnd7, hf7, hg7, hcw7⟩
    have hokZ := ok_fetch HokY.out (show a < 512 by omega)
    obtain ⟨qg, cg, qh, ch, rfl, rfl⟩ := own_shape hokZ ho7
    obtain ⟨b2, hb2, hb3, hv2⟩ : ∃ b2, loadM (fetchM X a') a = (o.1, b2) ∧ (fetchM (fetchM X a') a).cells.getD a (0, 0) = (o.1, b2) ∧ (b2 == z) = D := by
      rw [HA'.out]
      have hp := HP.out.2
      cases hDD : D
      · rw [hDD, if_neg (by simp)] at hp
        exact ⟨o.2, hp.1, hp.2, by simp; exact fun e => z2 e.symm⟩
      · rw [hDD, if_pos rfl] at hp
        exact ⟨z, hp.1, hp.2, by simp⟩
    rw [hb2]
    have hgF : w7.grownBy ((w7.alloc (.cells #[.slice (some ⟨qg, 0, none⟩) 512 cg, .slice (some ⟨qh, 0, none⟩) 4 ch] 27)).alloc (.cells #[.int .u8 o.1, .int .u16 b2] 30)) none := grown_alloc (grown_alloc (grown_refl _ _) _) _
    have hb18 : Bk ((w7.alloc (.cells #[.slice (some ⟨qg, 0, none⟩) 512 cg, .slice (some ⟨qh, 0, none⟩) 4 ch] 27)).alloc (.cells #[.int .u8 o.1, .int .u16 b2] 30)) w7.heap.size 27 [.slice (some ⟨qg, 0, none⟩) 512 cg, .slice (some ⟨qh, 0, none⟩) 4 ch] := Bk.new.grow (grown_alloc (grown_refl _ _) _)
    have hb19 : Bk ((w7.alloc (.cells #[.slice (some ⟨qg, 0, none⟩) 512 cg, .slice (some ⟨qh, 0, none⟩) 4 ch] 27)).alloc (.cells #[.int .u8 o.1, .int .u16 b2] 30)) (w7.heap.size + 1) 30 [.int .u8 o.1, .int .u16 b2] := by
      have h := Bk.new (w := w7.alloc (.cells #[.slice (some ⟨qg, 0, none⟩) 512 cg, .slice (some ⟨qh, 0, none⟩) 4 ch] 27)) (t := 30) (vs := [.int .u8 o.1, .int .u16 b2])
      simpa using h
    have hb13 := hb13.grow (grown_trans hg7 hgF)
    have x4 : (a : Int) < 512 := by omega
    have HRZ := Lib.hid (rMm.grow (own_tt ho7) hgF)
    have HG7 := Lib.hid (grown_trans HG6.out (grown_trans hg7 hgF))
    have HNZ := Lib.hid hokZ.cells
    have HB3 := Lib.hid hb3
    have HV2 := Lib.hid hv2
    clear ho7 hnd7 hf7 hg7 hgF k150 k151 hokZ hb2 hb3 hv2
    go_upto_region 14 with fail
    generalize (w7.alloc (.cells #[.slice (some ⟨qg, 0, none⟩) 512 cg, .slice (some ⟨qh, 0, none⟩) 4 ch] 27)).alloc (.cells #[.int .u8 o.1, .int .u16 b2] 30) = W7 at *
    generalize hq18 : w7.heap.size = q18 at *
    have k180 := hb18.cell 0
    have k181 := hb18.cell 1
    simp only [List.getElem?_cons_zero, List.getElem?_cons_succ] at k180 k181
    have H13 := Lib.hid hb13
    have H18 := Lib.hid hb18
    have H19 := Lib.hid hb19
    clear hb13 hb18 hb19 hb15
    go_wp2_with fail
    refine wp_region_rely (fun w' => W7.grownBy w' none) (fun _ _ => True)
      [SVal (.agg #[.int .u8 o.1, .int .u16 b2]), SVal (.agg #[.int .u8 o.1, .int .u16 z]), SVal (.bool D), SVal (.bool D), SVal (.bool true), SVal (.bool true), SVal (.pointer (some ⟨q18, 0, none⟩)), SVal (.slice (some ⟨qg, 0, none⟩) 512 cg), SVal (.int .i64 a), SVal (.pointer (some ⟨qg, a * 2, none⟩)), SVal (.agg #[.int .u8 o.1, .int .u16 b2]), SVal (.agg #[.int .u8 o.1, .int .u16 z]), SVal (.bool D), SVal (.bool D), SVal (.bool true), SVal (.bool true), SVal (.bool true), SVal (.bool true), SVal (.bool true), SVal (.bool true)]
      128 (by kernel_rfl) rfl (by kernel_rfl) (grown_drew (grown_refl _ _)) (fun _ => trivial) ?_ ?_ ?_
    · exact ⟨SVal.kept, SVal.kept, SVal.kept, SVal.kept, SVal.kept, SVal.kept, SVal.kept, SVal.kept, SVal.kept, SVal.kept, SVal.kept, SVal.kept, SVal.kept, SVal.kept, SVal.kept, SVal.kept, SVal.kept, SVal.kept, SVal.kept, SVal.kept, trivial⟩
    · refine duties_cons ?_ (duties_cons ?_ (duties_cons ?_ (duties_cons ?_ (duties_cons ?_ (duties_cons ?_ (duties_cons ?_ (duties_cons ?_ (duties_cons ?_ (duties_cons ?_ (duties_cons ?_ (duties_cons ?_ (duties_cons ?_ (duties_cons ?_ (duties_cons ?_ (duties_cons ?_ (duties_cons ?_ (duties_cons ?_ (duties_cons ?_ (duties_cons ?_ duties_nil)))))))))))))))))))
      · refine duty_plain rfl fun f w1 hb H => ?_
        have e19 : f 19 = _ := H 19 (by decide)
        clear H
        have HB0 := Lib.hid hb
        have c0 := (H19.out.grow hb).cell 0
        have c1 := (H19.out.grow hb).cell 1
        simp only [List.getElem?_cons_zero, List.getElem?_cons_succ] at c0 c1
        clear hb
        go_simp
        exact ⟨HB0.out, trivial, rfl⟩
      · refine duty_plain rfl fun f w1 hb H => ?_
        have e13 : f 13 = _ := H 13 (by decide)
        clear H
        have HB0 := Lib.hid hb
        have c0 := (H13.out.grow hb).cell 0
        have c1 := (H13.out.grow hb).cell 1
        simp only [List.getElem?_cons_zero, List.getElem?_cons_succ] at c0 c1
        clear hb
        go_simp
        exact ⟨HB0.out, trivial, rfl⟩
      · refine duty_plain rfl fun f w1 hb H => ?_
        have e109 : f 109 = _ := H 109 (by decide)
        have e110 : f 110 = _ := H 110 (by decide)
        clear H
        have hv := HV2.out
        have HB0 := Lib.hid hb
        clear hb
        go_simp
        cases D <;> exact ⟨HB0.out, trivial, rfl⟩
      · refine duty_plain rfl fun f w1 hb H => ?_
        have e14 : f 14 = _ := H 14 (by decide)
        clear H
        have HB0 := Lib.hid hb
        clear hb
        go_simp
        exact ⟨HB0.out, trivial, rfl⟩
      · refine duty_plain rfl fun f w1 hb H => ?_
        have e111 : f 111 = _ := H 111 (by decide)
        have e112 : f 112 = _ := H 112 (by decide)
        clear H
        have HB0 := Lib.hid hb
        clear hb
        go_simp
        exact ⟨HB0.out, trivial, rfl⟩
      · refine duty_plain rfl fun f w1 hb H => ?_
        have e113 : f 113 = _ := H 113 (by decide)
        clear H
        have HB0 := Lib.hid hb
        clear hb
        go_simp
        exact ⟨HB0.out, trivial, rfl⟩
      · refine duty_guard _ _ _ rfl rfl fun f w1 hb H => ⟨H 114 (by decide), ?_⟩
        have e18 : f 18 = _ := H 18 (by decide)
        clear H
        have HB0 := Lib.hid hb
        clear hb
        go_simp
        exact ⟨HB0.out, trivial, rfl⟩
      · refine duty_guard _ _ _ rfl rfl fun f w1 hb H => ⟨H 114 (by decide), ?_⟩
        have e115 : f 115 = _ := H 115 (by decide)
        clear H
        have HB0 := Lib.hid hb
        have c0 := (H18.out.grow hb).cell 0
        simp only [List.getElem?_cons_zero, List.getElem?_cons_succ] at c0
        clear hb
        go_simp
        exact ⟨HB0.out, trivial, rfl⟩
      · refine duty_guard _ _ _ rfl rfl fun f w1 hb H => ⟨H 114 (by decide), ?_⟩
        have e7 : f 7 = _ := H 7 (by decide)
        clear H
        have HB0 := Lib.hid hb
        clear hb
        go_simp
        exact ⟨HB0.out, trivial, rfl⟩
      · refine duty_guard _ _ _ rfl rfl fun f w1 hb H => ⟨H 114 (by decide), ?_⟩
        have e116 : f 116 = _ := H 116 (by decide)
        have e117 : f 117 = _ := H 117 (by decide)
        clear H
        have HB0 := Lib.hid hb
        clear hb
        go_simp
        exact ⟨HB0.out, trivial, rfl⟩
      · refine duty_guard _ _ _ rfl rfl fun f w1 hb H => ⟨H 114 (by decide), ?_⟩
        have e118 : f 118 = _ := H 118 (by decide)
        clear H
        have HB0 := Lib.hid hb
        have hcx := cell_here (rMm.grow HRZ.out hb) HNZ.out ha512
        rw [HB3.out] at hcx
        have kx0 := hcx.1
        have kx1 := hcx.2
        simp only at kx0 kx1
        clear hcx hb
        go_simp
        exact ⟨HB0.out, trivial, rfl⟩
      · refine duty_guard _ _ _ rfl rfl fun f w1 hb H => ⟨H 114 (by decide), ?_⟩
        have e13 : f 13 = _ := H 13 (by decide)
        clear H
        have HB0 := Lib.hid hb
        have c0 := (H13.out.grow hb).cell 0
        have c1 := (H13.out.grow hb).cell 1
        simp only [List.getElem?_cons_zero, List.getElem?_cons_succ] at c0 c1
        clear hb
        go_simp
        exact ⟨HB0.out, trivial, rfl⟩
      · refine duty_guard _ _ _ rfl rfl fun f w1 hb H => ⟨H 114 (by decide), ?_⟩
        have e119 : f 119 = _ := H 119 (by decide)
        have e120 : f 120 = _ := H 120 (by decide)
        clear H
        have hv := HV2.out
        have HB0 := Lib.hid hb
        clear hb
        go_simp
        cases D <;> exact ⟨HB0.out, trivial, rfl⟩
      · refine duty_guard _ _ _ rfl rfl fun f w1 hb H => ⟨H 114 (by decide), ?_⟩
        have e14 : f 14 = _ := H 14 (by decide)
        clear H
        have HB0 := Lib.hid hb
        clear hb
        go_simp
        exact ⟨HB0.out, trivial, rfl⟩
      · refine duty_guard _ _ _ rfl rfl fun f w1 hb H => ⟨H 114 (by decide), ?_⟩
        have e121 : f 121 = _ := H 121 (by decide)
        have e122 : f 122 = _ := H 122 (by decide)
        clear H
        have HB0 := Lib.hid hb
        clear hb
        go_simp
        exact ⟨HB0.out, trivial, rfl⟩
      · refine duty_plain rfl fun f w1 hb H => ?_
        have e114 : f 114 = _ := H 114 (by decide)
        have e123 : f 123 = _ := H 123 (by decide)
        clear H
        have HB0 := Lib.hid hb
        clear hb
        go_simp
        exact ⟨HB0.out, trivial, rfl⟩
      · refine duty_plain rfl fun f w1 hb H => ?_
        have e124 : f 124 = _ := H 124 (by decide)
        clear H
        have HB0 := Lib.hid hb
        clear hb
        go_simp
        exact ⟨HB0.out, trivial, rfl⟩
      · refine duty_guard _ _ _ rfl rfl fun f w1 hb H => ⟨H 125 (by decide), ?_⟩
        clear H
        have HB0 := Lib.hid hb
        clear hb
        go_simp
        refine (awake5_any _).mono ?_
        rintro e w10 ⟨rfl, hg10⟩
        exact ⟨_, rfl, grown_trans HB0.out hg10, trivial, rfl⟩
      · refine duty_plain rfl fun f w1 hb H => ?_
        have e125 : f 125 = _ := H 125 (by decide)
        have e126 : f 126 = _ := H 126 (by decide)
        clear H
        have HB0 := Lib.hid hb
        clear hb
        go_simp
        exact ⟨HB0.out, trivial, rfl⟩
      · refine duty_plain rfl fun f w1 hb H => ?_
        have e127 : f 127 = _ := H 127 (by decide)
        clear H
        have HB0 := Lib.hid hb
        clear hb
        go_simp
        exact ⟨HB0.out, trivial, rfl⟩
    · intro f w9 hb hE
      simp only [putAll, Act.put, slotV, List.setIfInBounds_toArray, List.set_cons_succ, List.set_cons_zero]
      have e6 : f 6 = .bool true := hE.2.2.2.2.2.2.2.2.2.2.2.2.2.2.2.2.2.2.2.1
      have HB9 := Lib.hid hb
      clear hb hE
      rw [e6]
      go_wp2_with fail
      go_ret
      exact ⟨rfl, grown_trans HG7.out HB9.out⟩
    )

end Go.Proofs.Ytndmcnddgcifiaa
