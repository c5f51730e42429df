/- A memory that was read and written, and poked; no condition. -/
import Derived.Test.YtndmcnddgcifiaaSee
import Derived.Test.YtndmcnddgcifiaaWrite
import Derived.Test.YtndmcnddgcifiaaMmV
import Derived.Test.YtndmcnddgcifiaaLayL
import Derived.Deep.RegionWith
set_option linter.unusedVariables false
set_option linter.unusedSimpArgs false
namespace Go.Proofs.Ytndmcnddgcifiaa
open Go.RowKit

theorem celWf_of {t v : Int} (h0 : 0 ≤ t) (h1 : t ≤ 2) (h2 : 0 ≤ v) (h3 : v ≤ 65535) : CelWf (t, v) := by
  refine ⟨?_, ?_⟩ <;> simp [Lit.wf, IntKind.min, IntKind.max, IntKind.signed, IntKind.bits] <;> omega
/-- The memory under way, in block q5. -/
structure WkInv (F : Nat → Prop) (g : Nat) (L : List Int) (w : World) (q4 q5 : Nat) (poke : Bool) (wr : World) : Prop where
  deals : Deals F g L w wr
  res : Bk wr q4 27 [.slice none 0 0, .slice none 0 0]
  mem : ∃ m u v fp, Bk wr q5 27 [u, v] ∧ rMm.own wr fp m [u, v] ∧ fp.Nodup ∧ (∀ b, b ∈ fp → w.heap.size ≤ b ∧ b ≠ q4 ∧ b ≠ q5) ∧ MmOk m ∧ MmV m ∧ (poke = false → Clean m)
def WorkedRet (F : Nat → Prop) (g : Nat) (L : List Int) (poke : Bool) (w : World) (e : Ending) (w' : World) : Prop :=
  ∃ m u v fp, e = .returned (.agg #[u, v]) ∧ rMm.own w' fp m [u, v] ∧ fp.Nodup ∧ (∀ b, b ∈ fp → w.heap.size ≤ b) ∧ MmOk m ∧ MmV m ∧ (poke = false → Clean m) ∧ Deals F g L w w'
theorem own_shapes {w : World} {fp : List Nat} {m : Mm} {u v : Value} (h : rMm.own w fp m [u, v]) : (∃ A n c, u = .slice A n c) ∧ ∃ A n c, v = .slice A n c := mm_shape (rMm.reads h)
/-- A new memory put into the struct. -/
theorem WkInv.put {F : Nat → Prop} {g : Nat} {L : List Int} {w wr w' : World} {q4 q5 : Nat} {poke : Bool} (h : WkInv F g L w q4 q5 poke wr) (hF : ∀ k, F k → k < w.heap.size) (hg : g < w.heap.size) (h4 : w.heap.size ≤ q4) (h5 : w.heap.size ≤ q5) (hne : q4 ≠ q5) (hd : Deals F g L wr w')
    {m : Mm} {u v : Value} {fp : List Nat} (ho : rMm.own w' fp m [u, v]) (hnd : fp.Nodup) (hf : ∀ b, b ∈ fp → wr.heap.size ≤ b) (hok : MmOk m) (hv : MmV m) (hc : poke = false → Clean m) :
    WkInv F g L w q4 q5 poke ((w'.setCell ⟨q5, 0, none⟩ u).setCell ⟨q5, 1, none⟩ v) := by
  have hk : ∀ k, k ≠ q5 → ((w'.setCell ⟨q5, 0, none⟩ u).setCell ⟨q5, 1, none⟩ v).heap[k]? = w'.heap[k]? := fun k hk => by rw [heap_setCell_other _ _ _ _ hk, heap_setCell_other _ _ _ _ hk]
  obtain ⟨m0, u0, v0, f0, hb, _⟩ := h.mem
  have hq5 := hb.hi
  have hq4 := h.res.hi
  have hs := h.deals.2.size
  refine ⟨(Deals.set (Deals.set (h.deals.trans hd) hF hg (p := ⟨q5, 0, none⟩) h5 u) hF hg (p := ⟨q5, 1, none⟩) h5 v), (h.res.keep (hd.2.block _ hq4 (fun e => by injection e with e; omega))).keep (hk _ hne), m, u, v, fp, ?_, rMm.okeep ho fun b hb => hk b (by have := hf b hb; omega), hnd, fun b hb => by have := hf b hb; omega, hok, hv, hc⟩
  exact Bk.set2 (hb.keep (hd.2.block _ hq5 (fun e => by injection e with e; omega))) u v

theorem WkInv.quiet {F : Nat → Prop} {g : Nat} {L : List Int} {w wr w' : World} {q4 q5 : Nat} {poke : Bool} (h : WkInv F g L w q4 q5 poke wr) (hF : ∀ k, F k → k < w.heap.size) (hg : wr.grownBy w' none) : Deals F g L wr w' := by
  obtain ⟨j, hj⟩ := h.deals.1
  exact (Deals.refl hj).none (fun k hk => Nat.lt_of_lt_of_le (hF k hk) h.deals.2.size) hg
theorem WkInv.deal {F : Nat → Prop} {g : Nat} {L : List Int} {w wr w' : World} {q4 q5 : Nat} {poke : Bool} (h : WkInv F g L w q4 q5 poke wr) (hg : g < w.heap.size) (h4 : w.heap.size ≤ q4) (h5 : w.heap.size ≤ q5) (hd : Deals F g L wr w') : WkInv F g L w q4 q5 poke w' := by
  refine ⟨h.deals.trans hd, h.res.keep (hd.2.block _ h.res.hi (fun e => by injection e with e; omega)), ?_⟩
  obtain ⟨m, u, v, fp, h1, h2, h3, h6, h7⟩ := h.mem
  exact ⟨m, u, v, fp, h1.keep (hd.2.block _ h1.hi (fun e => by injection e with e; omega)), rMm.okeep h2 fun b hb => hd.2.block _ (rMm.olive h2 b hb) (fun e => by injection e with e; have := h6 b hb; omega), h3, h6, h7⟩
set_option maxRecDepth 100000 in
set_option maxHeartbeats 4000000 in
theorem worked_any (F : Nat → Prop) (g : Nat) (L : List Int) (i : Nat) (poke : Bool) (w : World) (hF : ∀ k, F k → k < w.heap.size) (hD : DeckAt w F g L i) :
    Calls Try.prog 10 #[.pointer (some ⟨g, 0, none⟩), .bool poke] w (WorkedRet F g L poke w) := by
  have hgw := hD.lt
  have HD := Lib.hid hD
  have HF := Lib.hid hF
  clear hD hF
  go_enter Try.func10, Try.ntmps10
  go_wp2_with fail
  have hgA : w.grownBy (w.alloc (.cells #[.slice none 0 0, .slice none 0 0] 27)) none := grown_alloc (grown_refl _ _) _
  have hb4 : Bk (w.alloc (.cells #[.slice none 0 0, .slice none 0 0] 27)) w.heap.size 27 [.slice none 0 0, .slice none 0 0] := Bk.new
  have hd0 := (Deals.refl HD.out).alloc HF.out (.cells #[.slice none 0 0, .slice none 0 0] 27)
  generalize w.alloc (.cells #[.slice none 0 0, .slice none 0 0] 27) = W1 at *
  refine (fresh_any W1).mono ?_
  rintro e w1 ⟨cs, fp, rfl, ho, hnd, hlo, hg1⟩
  obtain ⟨u, v, f0, g0, rfl, _, hu, hv⟩ := mm_owned ho
  obtain ⟨A1, c1, rfl⟩ := hu.shape
  obtain ⟨B1, d1, rfl⟩ := hv.shape
  have hsz := hgA.size
  have hs2 := hb4.hi
  have hd1 := hd0.none HF.out hg1
  have hgB : w1.grownBy (w1.alloc (.cells #[.slice A1 freshM.cells.length c1, .slice B1 freshM.lines.length d1] 27)) none := grown_alloc (grown_refl _ _) _
  have HI := Lib.hid (show WkInv F g L w w.heap.size w1.heap.size poke (w1.alloc (.cells #[.slice A1 freshM.cells.length c1, .slice B1 freshM.lines.length d1] 27)) from
    ⟨hd1.none HF.out hgB, (hb4.grow hg1).grow hgB, freshM, _, _, fp, Bk.new, rMm.okeep ho fun b hb => heap_alloc_old _ _ (rMm.olive ho b hb), hnd, fun b hb => by have := hlo b hb; have := rMm.olive ho b hb; omega, ok_empty _ (by simp), v_empty _ (fun c hc => by
      have : c = (0, 0) := List.eq_of_mem_replicate hc
      subst this; show (0 : Int) ≤ 2; omega), fun _ => clean_empty _⟩)
  have hs3 := hg1.size
  clear hgA hb4 hd0 ho hnd hlo hu hv hd1 hgB hg1
  go_wp2_with fail
  generalize w1.alloc (.cells #[.slice A1 freshM.cells.length c1, .slice B1 freshM.lines.length d1] 27) = W2 at *
  generalize hq5 : w1.heap.size = q5 at *
  obtain ⟨j0, hj0⟩ := HI.out.deals.1
  refine (next_any F g L j0 20 W2 hj0 (by omega) (by omega)).mono ?_
  rintro e w2 ⟨kk, hk0, hk1, rfl, hd2⟩
  have hh5 : w.heap.size ≤ q5 := by omega
  have hh45 : w.heap.size ≠ q5 := by omega
  have HI2 := Lib.hid (HI.out.deal hgw (Nat.le_refl _) hh5 hd2)
  clear HI hj0 hd2
  obtain ⟨n, rfl⟩ : ∃ n : Nat, kk = n := ⟨kk.toNat, by omega⟩
  go_wp2_with fail
  have hn20 : n ≤ 20 := by omega
  clear hk0 hk1
  go_loopw [6] (fun t wr => ∃ n : Nat, n ≤ 20 ∧ t = .int .i64 n ∧ WkInv F g L w w.heap.size q5 poke wr) (fun t _ => (intOf t).toNat)
  case atStart => exact ⟨n, hn20, rfl, HI2.out⟩
  case round =>
    clear HI2 hn20
    obtain ⟨n, hn, rfl, hinv⟩ := hrel
    have HN := Lib.hid hinv
    clear hinv
    by_cases hpos : 0 < n
    · have x1 : (0 : Int) < (n : Int) := by omega
      have x2 : (n : Int) ≤ 20 := by omega
      obtain ⟨j1, hj1⟩ := HN.out.deals.1
      have HJ := Lib.hid hj1
      clear hj1
      go_wp2_with fail
      refine (next_any F g L j1 60 wr HJ.out (by omega) (by omega)).mono ?_
      rintro e w3 ⟨aa, ha0, ha1, rfl, hd3⟩
      have HN3 := Lib.hid (HN.out.deal hgw (Nat.le_refl _) hh5 hd3)
      obtain ⟨a, rfl⟩ : ∃ a : Nat, aa = a := ⟨aa.toNat, by omega⟩
      have ha : a < 60 := by omega
      clear ha0 ha1 HJ hd3
      obtain ⟨j2, hj2⟩ := HN3.out.deals.1
      have HJ := Lib.hid hj2
      clear hj2
      go_wp2_with fail
      refine (next_any F g L j2 5 w3 HJ.out (by omega) (by omega)).mono ?_
      rintro e w4 ⟨s, hs0, hs1, rfl, hd4⟩
      have HN4 := Lib.hid (HN3.out.deal hgw (Nat.le_refl _) hh5 hd4)
      clear HJ hd4 HN3 HN
      obtain ⟨m, u, v, fp, hb, ho, hnd, hfp, hok, hmv, hcl⟩ := HN4.out.mem
      obtain ⟨⟨A, na, ca, rfl⟩, B, nb, cb, rfl⟩ := own_shapes ho
      have k0 := hb.cell 0
      have k1 := hb.cell 1
      have z0 := hb.free 0
      have z1 := hb.free 1
      have hq5' := hb.hi
      simp only [List.getElem?_cons_zero, List.getElem?_cons_succ] at k0 k1
      have HB := Lib.hid hb
      have HO := Lib.hid ho
      have HP := Lib.hid (And.intro hnd (And.intro hfp (And.intro hok (And.intro hmv hcl))))
      clear hb ho hnd hfp hok hmv hcl
      by_cases s0 : s = 0
      · subst s0
        clear hs0 hs1
        go_wp2_with fail
        refine (ref05_Read_in (fun b => b ∈ fp) m a (by omega) HP.out.2.2.1 _ _ w4 (rMm.reads HO.out)).mono ?_
        rintro e w5 ⟨u5, v5, fp5, rfl, ho5, hnd5, hf5, hg5, hcw⟩
        have HNX := Lib.hid (HN4.out.put HF.out hgw (Nat.le_refl _) hh5 hh45 (HN4.out.quiet HF.out hg5) ho5 hnd5 hf5 (ok_fetch HP.out.2.2.1 (by omega)) (v_fetch HP.out.2.2.1 HP.out.2.2.2.1 a) (fun hp => clean_fetch HP.out.2.2.1 (HP.out.2.2.2.2 hp) (by omega)))
        obtain ⟨⟨A5, n5, c5, rfl⟩, B5, m5, d5, rfl⟩ := own_shapes ho5
        have k0' := (HB.out.grow hg5).cell 0
        have k1' := (HB.out.grow hg5).cell 1
        have z0' := (HB.out.grow hg5).free 0
        have z1' := (HB.out.grow hg5).free 1
        simp only [List.getElem?_cons_zero, List.getElem?_cons_succ] at k0' k1'
        clear ho5 hnd5 hf5 hg5 hcw k0 k1 z0 z1
        go_wp2_with fail
        go_roundw
        case rel => exact ⟨n - 1, by omega, by rw [show ((n - 1 : Nat) : Int) = (n : Int) - 1 by omega], HNX.out⟩
        case measure => simp [intOf]; omega
      · have hs : (s == 0) = false := by simpa using s0
        clear s0
        obtain ⟨j5, hj5⟩ := HN4.out.deals.1
        have HJ := Lib.hid hj5.drew
        have Hlow := Lib.hid (show ∀ k, F k → k < w4.drew.heap.size from fun k hk => Nat.lt_of_lt_of_le (HF.out k hk) HN4.out.deals.2.size)
        clear hj5
        have nq : ¬ q5 = g := by omega
        have nq' : ¬ g = q5 := by omega
        by_cases s1 : s = 1
        · subst s1
          cases poke
          · go_wp2_with fail
            go_roundw
            case rel => exact ⟨n - 1, by omega, by rw [show ((n - 1 : Nat) : Int) = (n : Int) - 1 by omega], HN4.out⟩
            case measure => simp [intOf]; omega
          · go_wp2_with fail
            go_region_with (first
              | (go_at_call 14; refine (deckCell_any F g L j5 _ Hlow.out HJ.out).mono ?_; rintro e w6 ⟨tg, vl, tg0, tg1, vl0, vl1, rfl, hd6⟩; have hB6 := HB.out.keep (hd6.2.block _ HB.out.hi (fun e => by injection e with e; omega)); have j60 := hB6.cell 0; have j61 := hB6.cell 1; simp only [List.getElem?_cons_zero, List.getElem?_cons_succ] at j60 j61; have HB6 := Lib.hid hB6; clear hB6; have HD6 := Lib.hid hd6; clear hd6)
              | (go_at_call 31; refine (ref04_Poke_in (fun b => b ∈ fp) m (tg, vl) (celWf_of tg0 tg1 vl0 vl1) a (by omega) HP.out.2.2.1 (decide_eq_true tg1) _ _ _ (rMm.reads (rMm.okeep HO.out fun b hb => HD6.out.2.block b (rMm.olive HO.out b hb) (fun e => by injection e with e; have := (HP.out.2.1 b hb).1; omega)))).mono ?_; rintro e w7 ⟨u7, v7, fp7, rfl, ho7, hnd7, hf7, hg7⟩; obtain ⟨⟨A7, n7, c7, rfl⟩, B7, m7, d7, rfl⟩ := own_shapes ho7; have hB7 := HB6.out.grow hg7; have j70 := hB7.cell 0; have j71 := hB7.cell 1; have f70 := hB7.free 0; have f71 := hB7.free 1; simp only [List.getElem?_cons_zero, List.getElem?_cons_succ] at j70 j71; clear hB7; have HX7 := Lib.hid (And.intro ho7 (And.intro hnd7 (And.intro hf7 hg7))); clear ho7 hnd7 hf7 hg7))
            all_goals
              have hd7 : Deals F g L w4 w7 := (HD6.out.from_ (grown_any (grown_drew (grown_refl _ _)))).none (fun k hk => Nat.lt_of_lt_of_le (HF.out k hk) HN4.out.deals.2.size) HX7.out.2.2.2
              have HNX := Lib.hid (HN4.out.put HF.out hgw (Nat.le_refl _) hh5 hh45 hd7 HX7.out.1 HX7.out.2.1 (fun b hb => Nat.le_trans HD6.out.2.size (HX7.out.2.2.1 b hb)) (ok_poke HP.out.2.2.1 a (tg, vl)) (v_poke HP.out.2.2.2.1 a tg1) (fun hp => by cases hp))
              clear hd7
              go_wp2_with fail
              go_roundw
              case rel => exact ⟨n - 1, by omega, by rw [show ((n - 1 : Nat) : Int) = (n : Int) - 1 by omega], HNX.out⟩
              case measure => simp [intOf]; omega
        · have hs1' : (s == 1) = false := by simpa using s1
          clear s1
          go_wp2_with fail
          go_region_with (first
            | (go_at_call 14; refine (deckCell_any F g L j5 _ Hlow.out HJ.out).mono ?_; rintro e w6 ⟨tg, vl, tg0, tg1, vl0, vl1, rfl, hd6⟩; have hB6 := HB.out.keep (hd6.2.block _ HB.out.hi (fun e => by injection e with e; omega)); have j60 := hB6.cell 0; have j61 := hB6.cell 1; simp only [List.getElem?_cons_zero, List.getElem?_cons_succ] at j60 j61; have HB6 := Lib.hid hB6; clear hB6; have HD6 := Lib.hid hd6; clear hd6)
            | (go_at_call 24; refine (ref05_Write_in (fun b => b ∈ fp) m (tg, vl) (celWf_of tg0 tg1 vl0 vl1) a (by omega) HP.out.2.2.1 (decide_eq_true tg1) _ _ _ (rMm.reads (rMm.okeep HO.out fun b hb => HD6.out.2.block b (rMm.olive HO.out b hb) (fun e => by injection e with e; have := (HP.out.2.1 b hb).1; omega)))).mono ?_; rintro e w7 ⟨u7, v7, fp7, rfl, ho7, hnd7, hf7, hg7⟩; obtain ⟨⟨A7, n7, c7, rfl⟩, B7, m7, d7, rfl⟩ := own_shapes ho7; have hB7 := HB6.out.grow hg7; have j70 := hB7.cell 0; have j71 := hB7.cell 1; have f70 := hB7.free 0; have f71 := hB7.free 1; simp only [List.getElem?_cons_zero, List.getElem?_cons_succ] at j70 j71; clear hB7; have HX7 := Lib.hid (And.intro ho7 (And.intro hnd7 (And.intro hf7 hg7))); clear ho7 hnd7 hf7 hg7))
          all_goals
            have hd7 : Deals F g L w4 w7 := (HD6.out.from_ (grown_any (grown_drew (grown_refl _ _)))).none (fun k hk => Nat.lt_of_lt_of_le (HF.out k hk) HN4.out.deals.2.size) HX7.out.2.2.2
            have HNX := Lib.hid (HN4.out.put HF.out hgw (Nat.le_refl _) hh5 hh45 hd7 HX7.out.1 HX7.out.2.1 (fun b hb => Nat.le_trans HD6.out.2.size (HX7.out.2.2.1 b hb)) (ok_store HP.out.2.2.1 (by omega) (tg, vl)) (v_store HP.out.2.2.1 HP.out.2.2.2.1 a tg1) (fun hp => clean_store HP.out.2.2.1 (HP.out.2.2.2.2 hp) (by omega) (tg, vl)))
            clear hd7
            go_wp2_with fail
            go_roundw
            case rel => exact ⟨n - 1, by omega, by rw [show ((n - 1 : Nat) : Int) = (n : Int) - 1 by omega], HNX.out⟩
            case measure => simp [intOf]; omega
    · have hn0 : n = 0 := by omega
      subst hn0
      obtain ⟨m, u, v, fp, hb, ho, hnd, hfp, hok, hmv, hcl⟩ := HN.out.mem
      obtain ⟨⟨A, na, ca, rfl⟩, B, nb, cb, rfl⟩ := own_shapes ho
      have k0 := hb.cell 0
      have k1 := hb.cell 1
      have r0 := HN.out.res.cell 0
      have r1 := HN.out.res.cell 1
      have y0 := HN.out.res.free 0
      have y1 := HN.out.res.free 1
      have d5 := HN.out.res.hi
      simp only [List.getElem?_cons_zero, List.getElem?_cons_succ] at k0 k1 r0 r1
      have HO := Lib.hid ho
      have HP := Lib.hid (And.intro hnd (And.intro hfp (And.intro hok (And.intro hmv hcl))))
      clear hb ho hnd hfp hok hmv hcl
      go_wp2_with fail
      refine bodyPost_ret (v := .agg #[.slice A na ca, .slice B nb cb]) (by simp [results, Try.results10, go_sem, r0, r1, d5]) rfl ?_
      exact ⟨m, _, _, fp, rfl, rMm.okeep HO.out fun b hb => by
        have := HP.out.2.1 b hb
        rw [heap_setCell_other _ _ _ _ this.2.1, heap_setCell_other _ _ _ _ this.2.1], HP.out.1, fun b hb => (HP.out.2.1 b hb).1, HP.out.2.2.1, HP.out.2.2.2.1, HP.out.2.2.2.2,
        (HN.out.deals.set HF.out hgw (p := ⟨w.heap.size, 0, none⟩) (Nat.le_refl _) _).set HF.out hgw (p := ⟨w.heap.size, 1, none⟩) (Nat.le_refl _) _⟩

end Go.Proofs.Ytndmcnddgcifiaa
