/- The law CacheTransparent, walked; no condition. -/
import Derived.Test.YtndmcnddgcifiaaValid4
import Derived.Test.YtndmcnddgcifiaaMapC
import Derived.Test.YtndmcnddgcifiaaHides
import Derived.Test.YtndmcnddgcifiaaEmpty
set_option linter.unusedVariables false
set_option linter.unusedSimpArgs false
namespace Go.Proofs.Ytndmcnddgcifiaa
open Go.RowKit Go.Maps

theorem see_fresh (k : Nat) : seeM freshM k = (0, 0) := by
  have e1 : seeM freshM k = freshM.cells.getD k (0, 0) := see_none _ k
  rw [e1]
  unfold freshM
  simp only [List.getD_eq_getElem?_getD, List.getElem?_replicate]
  split <;> rfl
/-- The law's state after n rounds. -/
structure TrS (w0 : World) (L : List Int) (q4 b5 n : Nat) (w : World) : Prop where
  dk : DkW w0 L w
  mem : ∃ m u v, Bk w q4 27 [u, v] ∧ rMm.rep w (fun k => k ≠ w0.heap.size ∧ k ≠ q4 ∧ k ≠ b5) m [u, v] ∧ MmOk m ∧ Clean m ∧ MmV m ∧ PM w b5 n (seeM m)
theorem PM.mono {w : World} {b n n' : Nat} {f : Nat → Cel} (h : PM w b n f) (hn : n ≤ n') : PM w b n' f := let ⟨D, h1, h2⟩ := h; ⟨D, h1.mono hn, h2⟩
theorem PM.eq {w : World} {b n : Nat} {f g : Nat → Cel} (h : PM w b n f) (he : ∀ k, k < 70 → f k = g k) : PM w b n g := let ⟨D, h1, h2⟩ := h; ⟨D, h1, fun k hk => by rw [h2 k hk, he k hk]⟩
theorem DkW.other {w0 w w' : World} {L : List Int} {q : Nat} (h : DkW w0 L w) (hq : w0.heap.size < q) (hg : w.grownBy w' (some q)) : DkW w0 L w' := by
  obtain ⟨j, hj⟩ := h.deck
  refine ⟨grown_fresh h.grown hg (by omega), j, hj.agree hg.size fun k hk => hg.block k ?_ ?_⟩
  · rcases hk with hk | rfl
    · exact h.low k hk
    · exact hj.lt
  · intro e
    injection e with e
    rcases hk with hk | rfl
    · have : k < w0.heap.size := hk
      omega
    · omega
/-- The memory in its variable turned. -/
theorem TrS.put {w0 w w' : World} {L : List Int} {q4 b5 n : Nat} (h : TrS w0 L q4 b5 n w) (h4 : w0.heap.size < q4) (h45 : q4 ≠ b5) (hg : w.grownBy w' none) {m m' : Mm} {u v : Value} {fp : List Nat} (hp : PM w b5 n (seeM m)) (hs : ∀ k, seeM m' k = seeM m k)
    (ho : rMm.own w' fp m' [u, v]) (hf : ∀ k, k ∈ fp → w.heap.size ≤ k) (hok : MmOk m') (hcl : Clean m') (hmv : MmV m') : TrS w0 L q4 b5 (n + 1) ((w'.setCell ⟨q4, 0, none⟩ u).setCell ⟨q4, 1, none⟩ v) := by
  obtain ⟨hdk, m0, u0, v0, hb, _⟩ := h
  have hq4 := hb.hi
  have hb5 : b5 < w.heap.size := by obtain ⟨D, h1, _⟩ := hp; exact h1.lt
  have hk : ∀ k, k ≠ q4 → ((w'.setCell ⟨q4, 0, none⟩ u).setCell ⟨q4, 1, none⟩ v).heap[k]? = w'.heap[k]? := fun k hk => by rw [heap_setCell_other _ _ _ _ hk, heap_setCell_other _ _ _ _ hk]
  have hgs : w'.grownBy ((w'.setCell ⟨q4, 0, none⟩ u).setCell ⟨q4, 1, none⟩ v) (some q4) := grown_set (p := ⟨q4, 1, none⟩) (grown_set (p := ⟨q4, 0, none⟩) (grown_refl w' (some q4)) (.inl rfl) u) (.inl rfl) v
  have hw0 := hdk.lt
  have r1 : rMm.own ((w'.setCell ⟨q4, 0, none⟩ u).setCell ⟨q4, 1, none⟩ v) fp m' [u, v] := rMm.okeep ho fun b hb => hk b (by have := hf b hb; omega)
  have r2 : rMm.rep ((w'.setCell ⟨q4, 0, none⟩ u).setCell ⟨q4, 1, none⟩ v) (fun k => k ≠ w0.heap.size ∧ k ≠ q4 ∧ k ≠ b5) m' [u, v] := rMm.sub (rMm.reads r1) fun k hk => by
    have := hf k hk
    exact ⟨by omega, by omega, by omega⟩
  have h1 := (hp.kept hg (by simp)).kept hgs (fun e => by injection e with e; exact h45 e.symm)
  have h2 : PM ((w'.setCell ⟨q4, 0, none⟩ u).setCell ⟨q4, 1, none⟩ v) b5 (n + 1) (seeM m') := (h1.mono (Nat.le_succ n)).eq fun k _ => (hs k).symm
  have h3 := (hdk.none hg).other h4 hgs
  have h5 : Bk ((w'.setCell ⟨q4, 0, none⟩ u).setCell ⟨q4, 1, none⟩ v) q4 27 [u, v] := Bk.set2 (hb.grow hg) u v
  exact ⟨h3, m', u, v, h5, r2, hok, hcl, hmv, h2⟩
theorem v_flush {m : Mm} (hok : MmOk m) (h : MmV m) : MmV (flushM m) := v_empty _ (flush_v hok h)
theorem wpList_pm_update {ops : Array Oper} {rest : List Oper} {o : Oper} {a : Act} {Q : Exit → Act → World → Prop} {w : World} (hgd : o.guard = none) (m x v : Operand) (hop : o.op = Op.mapUpdate 50 m x v)
    (b n : Nat) (f : Nat → Cel) (hP : PM w b n f) (hn : n < 100) (k : Nat) (hk : k < 70) (c : Cel) (hm : a.eval m = .map (some b)) (hx : a.eval x = .int .i64 k) (hv : a.eval v = .agg #[.int .u8 c.1, .int .u16 c.2])
    (hK : ∀ w', PM w' b (n + 1) (fun j => if j = k then c else f j) → w.grownBy w' (some b) → wpList Try.prog ops Q rest (a.put o.dst undef) w') : wpList Try.prog ops Q (o :: rest) a w := by
  refine wpList_plain hgd fun K' hK' => ?_
  obtain ⟨w', hrun, r1, r2⟩ := hP.update hn hk c
  unfold Oper.wp
  simp [execOp, hop, hm, hx, hv, hrun, Result.andThen]
  exact hK' _ _ (hK w' r1 r2)
theorem TrS.deal {w0 w w' : World} {L : List Int} {q4 b5 n : Nat} (h : TrS w0 L q4 b5 n w) (hd : Deals (fun k => k < w0.heap.size) w0.heap.size L w w') (h4 : q4 ≠ w0.heap.size) (h5 : b5 ≠ w0.heap.size) : TrS w0 L q4 b5 n w' := by
  obtain ⟨hdk, m, u, v, hb, hr, hok, hcl, hmv, hpm⟩ := h
  exact ⟨hdk.deal hd, m, u, v, hb.keep (hd.2.block _ hb.hi (fun e => by injection e with e; exact h4 e)), rMm.growx hr (fun h => h.1 rfl) hd.2, hok, hcl, hmv, hpm.kept hd.2 (fun e => by injection e with e; exact h5 e)⟩
theorem TrS.none {w0 w w' : World} {L : List Int} {q4 b5 n : Nat} (h : TrS w0 L q4 b5 n w) (hg : w.grownBy w' none) : TrS w0 L q4 b5 n w' := by
  obtain ⟨hdk, m, u, v, hb, hr, hok, hcl, hmv, hpm⟩ := h
  exact ⟨hdk.none hg, m, u, v, hb.grow hg, rMm.grow hr hg, hok, hcl, hmv, hpm.kept hg (by simp)⟩

/-- What stands while all is looked at. -/
structure T2 (w0 : World) (q4 q13 b5 : Nat) (m : Mm) (U V : Value) (qc cc ql cl : Nat) (w : World) : Prop where
  grown : w0.grownBy w none
  b4 : Bk w q4 27 [U, V]
  r4 : rMm.rep w TT m [U, V]
  b13 : Bk w q13 27 [.slice (some ⟨qc, 0, none⟩) 512 cc, .slice (some ⟨ql, 0, none⟩) 4 cl]
  r13 : rMm.rep w TT (flushM m) [.slice (some ⟨qc, 0, none⟩) 512 cc, .slice (some ⟨ql, 0, none⟩) 4 cl]
  pm : PM w b5 30 (seeM m)
theorem T2.grow {w0 w w' : World} {q4 q13 b5 : Nat} {m : Mm} {U V : Value} {qc cc ql cl : Nat} (h : T2 w0 q4 q13 b5 m U V qc cc ql cl w) (hg : w.grownBy w' none) : T2 w0 q4 q13 b5 m U V qc cc ql cl w' :=
  ⟨grown_trans h.grown hg, h.b4.grow hg, rMm.grow h.r4 hg, h.b13.grow hg, rMm.grow h.r13 hg, h.pm.kept hg (by simp)⟩

set_option maxRecDepth 100000 in
set_option maxHeartbeats 4000000 in
theorem lawTrans_any (A : Option Addr) (L : List Int) (cp : Nat) (w : World) (hl : L.length ≤ 9223372036854775807) (hw : I64s L) (h : Ints .i64 w (fun k => k < w.heap.size) A L) :
    Calls Try.prog 5 #[.slice A L.length cp] w (BoolGrown true w) := by
  have HDK := Lib.hid (DkW.new (c := cp) h hl hw)
  clear h hl hw
  have hmm := @run_makeMap Try.prog
  go_enter Try.func5, Try.ntmps5
  go_wp2_with fail
  refine (mkNew_any A L cp w).mono ?_
  rintro e W1 ⟨rfl, rfl⟩
  generalize w.alloc (.cells #[.slice A L.length cp, .int .i64 0] 60) = W1 at *
  go_wp2_with fail
  refine (fresh_any W1).mono ?_
  rintro e w1 ⟨cs1, fp1, rfl, ho1, hnd1, hf1, hg1⟩
  obtain ⟨u1, v1, _, _, e1, _⟩ := mm_owned ho1
  subst e1
  obtain ⟨⟨A1, n1, c1, e1⟩, B1, m1, d1, e2⟩ := own_shapes ho1
  subst e1 e2
  go_upto_region 3 with fail
  have hgA : w1.grownBy (w1.alloc (.cells #[.slice A1 n1 c1, .slice B1 m1 d1] 27)) none := grown_alloc (grown_refl _ _) _
  have hb4 : Bk (w1.alloc (.cells #[.slice A1 n1 c1, .slice B1 m1 d1] 27)) w1.heap.size 27 [.slice A1 n1 c1, .slice B1 m1 d1] := Bk.new
  have hW1 := HDK.out.lt
  have hs1 := hg1.size
  have hr := rMm.grow (rMm.sub (G := fun k => k ≠ w.heap.size ∧ k < w1.heap.size) (rMm.live (rMm.sub (rMm.reads ho1) (G := fun k => k ≠ w.heap.size) fun k hk => by have := hf1 k hk; show k ≠ _; omega)) fun k hk => hk) hgA
  have HD1 := Lib.hid (HDK.out.none (grown_trans hg1 hgA))
  clear ho1 hnd1 hf1 HDK hg1
  generalize w1.alloc (.cells #[.slice A1 n1 c1, .slice B1 m1 d1] 27) = W2 at *
  generalize hq4 : w1.heap.size = q4 at *
  have hq4lt := hb4.hi
  have hgM : W2.grownBy (W2.alloc (.map #[] 0)) none := grown_alloc (grown_refl _ _) _
  have HS := Lib.hid (show TrS w L q4 W2.heap.size 0 (W2.alloc (.map #[] 0)) from
    ⟨HD1.out.none hgM, freshM, _, _, hb4.grow hgM, rMm.grow (rMm.sub hr fun k hk => ⟨hk.1, by omega, by omega⟩) hgM, ok_empty _ (by simp [freshM]), clean_empty _, v_empty _ (fun c hc => by simp [freshM] at hc; subst hc; show (0 : Int) ≤ 2; omega), by
      have := PM.made W2
      rwa [show seeM freshM = (fun _ => (0, 0)) from funext see_fresh]⟩)
  clear hb4 hr hgA hgM HD1
  go_wp2_with fail
  have hb5 : q4 < W2.heap.size := hq4lt
  generalize W2.alloc (.map #[] 0) = W3 at *
  generalize hq5 : W2.heap.size = b5 at *
  have hq4d : w.heap.size < q4 := by omega
  clear hmm
  go_loopw [21] (fun i wr => ∃ k : Nat, k ≤ 30 ∧ i = .int .i64 k ∧ TrS w L q4 b5 k wr) (fun i _ => 30 - (intOf i).toNat)
  case atStart => exact ⟨0, Nat.zero_le _, rfl, HS.out⟩
  case round =>
    clear HS
    obtain ⟨k, hk, rfl, hst⟩ := hrel
    have HN := Lib.hid hst
    clear hst
    by_cases hlt : k < 30
    · have x3 : (k : Int) < 30 := by omega
      go_wp2_with fail
      obtain ⟨j1, hj1⟩ := HN.out.dk.deck
      refine (next_any (fun k => k < w.heap.size) w.heap.size L j1 70 wr hj1 (by omega) (by omega)).mono ?_
      rintro e w4 ⟨a0, ha0, ha1, rfl, hd4⟩
      have HN4 := Lib.hid (HN.out.deal hd4 (by omega) (by omega))
      obtain ⟨a, rfl⟩ : ∃ a : Nat, a0 = a := ⟨a0.toNat, by omega⟩
      have ha70 : a < 70 := by omega
      clear hd4 hj1 HN
      go_wp2_with fail
      obtain ⟨j2, hj2⟩ := HN4.out.dk.deck
      refine (next_any (fun k => k < w.heap.size) w.heap.size L j2 4 w4 hj2 (by omega) (by omega)).mono ?_
      rintro e w5 ⟨s, hs0, hs1, rfl, hd5⟩
      have HN5 := Lib.hid (HN4.out.deal hd5 (by omega) (by omega))
      clear hd5 hj2 HN4
      have hq4d : w.heap.size < q4 := by omega
      have hn45 : q4 ≠ b5 := by omega
      obtain ⟨m, u, v, hb, hr, hok, hcl, hmv, hpm⟩ := HN5.out.mem
      obtain ⟨⟨A4, n4, c4, rfl⟩, B4, m4, d4, rfl⟩ := mm_shape hr
      have k0 := hb.cell 0
      have k1 := hb.cell 1
      have z0 := hb.free 0
      have z1 := hb.free 1
      have hq4' := hb.hi
      simp only [List.getElem?_cons_zero, List.getElem?_cons_succ] at k0 k1
      have HB := Lib.hid hb
      have HR := Lib.hid hr
      have HP := Lib.hid (And.intro hok (And.intro hcl hmv))
      have HM := Lib.hid hpm
      clear hb hr hok hcl hmv hpm
      by_cases s0 : s = 0
      · subst s0
        clear hs0 hs1
        go_wp2_with fail
        refine (cache_Read_in _ m a (by omega) HP.out.1 _ _ w5 HR.out).mono ?_
        rintro e w6 ⟨u6, v6, fp6, rfl, ho6, hnd6, hf6, hg6, hcw6⟩
        have hls := load_see HP.out.1 HP.out.2.1 a
        obtain ⟨⟨A6, n6, c6, rfl⟩, B6, m6, d6, rfl⟩ := own_shapes ho6
        rw [hls] at hcw6 ⊢
        obtain ⟨c, hc⟩ : ∃ c, c = seeM m a := ⟨_, rfl⟩
        rw [← hc] at hcw6 ⊢
        have Hc := Lib.hid hc
        have hgC : w6.grownBy ((w6.alloc (.cells #[.slice A6 n6 c6, .slice B6 m6 d6] 27)).alloc (.cells #[.int .u8 c.1, .int .u16 c.2] 30)) none := grown_alloc (grown_alloc (grown_refl _ _) _) _
        have hb7 : Bk ((w6.alloc (.cells #[.slice A6 n6 c6, .slice B6 m6 d6] 27)).alloc (.cells #[.int .u8 c.1, .int .u16 c.2] 30)) w6.heap.size 27 [.slice A6 n6 c6, .slice B6 m6 d6] := Bk.new.grow (grown_alloc (grown_refl _ _) _)
        have hb8 : Bk ((w6.alloc (.cells #[.slice A6 n6 c6, .slice B6 m6 d6] 27)).alloc (.cells #[.int .u8 c.1, .int .u16 c.2] 30)) (w6.heap.size + 1) 30 [.int .u8 c.1, .int .u16 c.2] := by
          have h := Bk.new (w := w6.alloc (.cells #[.slice A6 n6 c6, .slice B6 m6 d6] 27)) (t := 30) (vs := [.int .u8 c.1, .int .u16 c.2])
          simpa using h
        have HO6 := Lib.hid (rMm.okeep ho6 (w' := (w6.alloc (.cells #[.slice A6 n6 c6, .slice B6 m6 d6] 27)).alloc (.cells #[.int .u8 c.1, .int .u16 c.2] 30)) fun b hb => hgC.block b (rMm.olive ho6 b hb) (by simp))
        have HG := Lib.hid (grown_trans hg6 hgC)
        have HF6 := Lib.hid hf6
        clear hls hcw6 hc ho6 hnd6 hf6 hg6 hgC k0 k1 z0 z1
        go_upto_region 15 with fail
        generalize (w6.alloc (.cells #[.slice A6 n6 c6, .slice B6 m6 d6] 27)).alloc (.cells #[.int .u8 c.1, .int .u16 c.2] 30) = W7 at *
        generalize w6.heap.size = q7 at *
        have k70 := hb7.cell 0
        have k71 := hb7.cell 1
        have k80 := hb8.cell 0
        have k81 := hb8.cell 1
        have hB4 := HB.out.grow HG.out
        have k40 := hB4.cell 0
        have k41 := hB4.cell 1
        have z40 := hB4.free 0
        have z41 := hB4.free 1
        simp only [List.getElem?_cons_zero, List.getElem?_cons_succ] at k70 k71 k80 k81 k40 k41
        have hlk := (HM.out.kept HG.out (by simp)).lookup ha70
        rw [← Hc.out] at hlk
        have HNX := Lib.hid (HN5.out.put hq4d hn45 HG.out HM.out (m' := fetchM m a) (fun k => see_fetch HP.out.1 HP.out.2.1) HO6.out HF6.out (ok_fetch HP.out.1 (by omega)) (clean_fetch HP.out.1 HP.out.2.1 (by omega)) (v_fetch HP.out.1 HP.out.2.2 a))
        clear hb7 hb8 hB4
        go_wp2_with fail
        go_roundw
        case rel => exact ⟨k + 1, by omega, by go_num, HNX.out⟩
        case measure => simp [intOf]; omega
      · have hs0' : (s == 0) = false := by simpa using s0
        by_cases s1 : s = 1
        · subst s1
          clear hs0 hs1
          go_wp2_with fail
          refine (cache_Flush_any _ m HP.out.1 _ _ w5 HR.out).mono ?_
          rintro e w6 ⟨cs6, fp6, rfl, ho6, hnd6, hf6, hg6⟩
          obtain ⟨u6, v6, _, _, e6, _⟩ := mm_owned ho6
          subst e6
          obtain ⟨⟨A6, n6, c6, rfl⟩, B6, m6, d6, rfl⟩ := own_shapes ho6
          have HNX := Lib.hid (HN5.out.put hq4d hn45 hg6 HM.out (m' := flushM m) (fun k => see_flush HP.out.1 HP.out.2.1 k) ho6 hf6 (ok_flush HP.out.1).1 (ok_flush HP.out.1).2 (v_flush HP.out.1 HP.out.2.2))
          have hB4 := HB.out.grow hg6
          have k40 := hB4.cell 0
          have k41 := hB4.cell 1
          have z40 := hB4.free 0
          have z41 := hB4.free 1
          simp only [List.getElem?_cons_zero, List.getElem?_cons_succ] at k40 k41
          clear ho6 hnd6 hf6 hg6 hB4 k0 k1 z0 z1
          go_wp2_with fail
          go_roundw
          case rel => exact ⟨k + 1, by omega, by go_num, HNX.out⟩
          case measure => simp [intOf]; omega
        · have hs1' : (s == 1) = false := by simpa using s1
          clear s0 s1 hs0 hs1
          go_wp2_with fail
          obtain ⟨j3, hj3⟩ := HN5.out.dk.deck
          refine (deckCell_any (fun k => k < w.heap.size) w.heap.size L j3 w5 HN5.out.dk.low hj3).mono ?_
          rintro e w6 ⟨tg, vl, tg0, tg1, vl0, vl1, rfl, hd6⟩
          have hgC : w6.grownBy (w6.alloc (.cells #[.int .u8 tg, .int .u16 vl] 30)) none := grown_alloc (grown_refl _ _) _
          have hb10 : Bk (w6.alloc (.cells #[.int .u8 tg, .int .u16 vl] 30)) w6.heap.size 30 [.int .u8 tg, .int .u16 vl] := Bk.new
          have HN7 := Lib.hid ((HN5.out.deal hd6 (by omega) (by omega)).none hgC)
          have hB4 := (HB.out.keep (hd6.2.block _ hq4' (fun e => by injection e with e; omega))).grow hgC
          have hr7 := rMm.grow (rMm.growx HR.out (fun h => h.1 rfl) hd6.2) hgC
          have hpm7 := (HM.out.kept hd6.2 (fun e => by injection e with e; omega)).kept hgC (by simp)
          clear hd6 hj3 hgC k0 k1 z0 z1
          go_upto_region 9 with fail
          generalize w6.alloc (.cells #[.int .u8 tg, .int .u16 vl] 30) = W7 at *
          generalize w6.heap.size = q10 at *
          have k40 := hB4.cell 0
          have k41 := hB4.cell 1
          have k100 := hb10.cell 0
          have k101 := hb10.cell 1
          simp only [List.getElem?_cons_zero, List.getElem?_cons_succ] at k40 k41 k100 k101
          have HB4 := Lib.hid hB4
          have HB10 := Lib.hid hb10
          have HR7 := Lib.hid hr7
          have HM7 := Lib.hid hpm7
          have hq47 := hB4.hi
          have hq107 := hb10.hi
          have hn10 : q4 ≠ q10 := by
            rintro rfl
            have h1 := HB4.out
            have h2 := HB10.out
            unfold Bk at h1 h2
            rw [h1] at h2
            injection h2 with h2
            injection h2 with _ h2
            exact absurd h2 (by decide)
          have hb57 := Lib.hid (show b5 < W7.heap.size by obtain ⟨D, h1, _⟩ := hpm7; exact h1.lt)
          clear hB4 hb10 hr7 hpm7
          go_wp2_with fail
          refine (cache_Write_in _ m (tg, vl) (celWf_of tg0 tg1 vl0 vl1) a (by omega) HP.out.1 (decide_eq_true tg1) _ _ W7 HR7.out).mono ?_
          rintro e w8 ⟨u8, v8, fp8, rfl, ho8, hnd8, hf8, hg8⟩
          obtain ⟨⟨A8, n8, c8, rfl⟩, B8, m8, d8, rfl⟩ := own_shapes ho8
          have hgD : w8.grownBy (w8.alloc (.cells #[.slice A8 n8 c8, .slice B8 m8 d8] 27)) none := grown_alloc (grown_refl _ _) _
          have hb11 : Bk (w8.alloc (.cells #[.slice A8 n8 c8, .slice B8 m8 d8] 27)) w8.heap.size 27 [.slice A8 n8 c8, .slice B8 m8 d8] := Bk.new
          have HO8 := Lib.hid (rMm.okeep ho8 (w' := w8.alloc (.cells #[.slice A8 n8 c8, .slice B8 m8 d8] 27)) fun b hb => hgD.block b (rMm.olive ho8 b hb) (by simp))
          have HG := Lib.hid (grown_trans hg8 hgD)
          have HF8 := Lib.hid hf8
          have hq118 := hg8.size
          clear ho8 hnd8 hf8 hg8 hgD k40 k41 k100 k101
          go_upto_region 10 with fail
          generalize w8.alloc (.cells #[.slice A8 n8 c8, .slice B8 m8 d8] 27) = W9 at *
          generalize w8.heap.size = q11 at *
          have hB4 := HB4.out.grow HG.out
          have hB10 := HB10.out.grow HG.out
          have k40 := hB4.cell 0
          have k41 := hB4.cell 1
          have z40 := hB4.free 0
          have z41 := hB4.free 1
          have k100 := hB10.cell 0
          have k101 := hB10.cell 1
          have k110 := hb11.cell 0
          have k111 := hb11.cell 1
          simp only [List.getElem?_cons_zero, List.getElem?_cons_succ] at k40 k41 k100 k101 k110 k111
          have hn411 : q4 ≠ q11 := by omega
          clear hB4 hB10 hb11
          go_upto_region 12 with fail
          have hgs : W9.grownBy ((W9.setCell ⟨q4, 0, none⟩ (.slice A8 n8 c8)).setCell ⟨q4, 1, none⟩ (.slice B8 m8 d8)) (some q4) := grown_set (p := ⟨q4, 1, none⟩) (grown_set (p := ⟨q4, 0, none⟩) (grown_refl W9 (some q4)) (.inl rfl) _) (.inl rfl) _
          have hPM9 : PM ((W9.setCell ⟨q4, 0, none⟩ (.slice A8 n8 c8)).setCell ⟨q4, 1, none⟩ (.slice B8 m8 d8)).drew b5 k (seeM m) := by
            obtain ⟨D, h1, h2⟩ := (HM7.out.kept HG.out (by simp)).kept hgs (fun e => by injection e with e; exact hn45 e.symm)
            exact ⟨D, h1.drew, h2⟩
          obtain ⟨W10, hrun, hP10, hg10⟩ := hPM9.update (by omega) ha70 (tg, vl)
          have HP10 := Lib.hid hP10
          have HG10 := Lib.hid hg10
          have HGS := Lib.hid hgs
          have HB9 := Lib.hid (HB4.out.grow HG.out)
          have HN9 := Lib.hid (HN7.out.none HG.out)
          clear hP10 hg10 hgs hPM9
          go_region
          have hz : ∀ k, k ≠ q4 → ((W9.setCell ⟨q4, 0, none⟩ (.slice A8 n8 c8)).setCell ⟨q4, 1, none⟩ (.slice B8 m8 d8)).drew.heap[k]? = W9.heap[k]? := fun k hk => by
            show ((W9.setCell ⟨q4, 0, none⟩ (.slice A8 n8 c8)).setCell ⟨q4, 1, none⟩ (.slice B8 m8 d8)).heap[k]? = _
            rw [heap_setCell_other _ _ _ _ hk, heap_setCell_other _ _ _ _ hk]
          have HNX := Lib.hid (show TrS w L q4 b5 (k + 1) W10 from by
            have hdk9 : DkW w L ((W9.setCell ⟨q4, 0, none⟩ (.slice A8 n8 c8)).setCell ⟨q4, 1, none⟩ (.slice B8 m8 d8)) := HN9.out.dk.other hq4d HGS.out
            have hb5w : b5 < W9.heap.size := by obtain ⟨D, h1, _⟩ := HM7.out.kept HG.out (by simp); exact h1.lt
            have hdd : DkW w L ((W9.setCell ⟨q4, 0, none⟩ (.slice A8 n8 c8)).setCell ⟨q4, 1, none⟩ (.slice B8 m8 d8)).drew := by
              obtain ⟨j, hj⟩ := hdk9.deck
              exact ⟨grown_drew hdk9.grown, j, hj.drew⟩
            have hb5d : w.heap.size < b5 := by omega
            refine ⟨hdd.other hb5d HG10.out, storeM m a (tg, vl), .slice A8 n8 c8, .slice B8 m8 d8, ?_, ?_, ok_store HP.out.1 (by omega) (tg, vl), clean_store HP.out.1 HP.out.2.1 (by omega) (tg, vl), v_store HP.out.1 HP.out.2.2 a tg1, HP10.out.eq fun j _ => (see_store HP.out.1 HP.out.2.1 (by omega) (tg, vl)).symm⟩
            · exact (show Bk ((W9.setCell ⟨q4, 0, none⟩ (.slice A8 n8 c8)).setCell ⟨q4, 1, none⟩ (.slice B8 m8 d8)).drew q4 27 [.slice A8 n8 c8, .slice B8 m8 d8] from Bk.set2 HB9.out _ _).keep (HG10.out.block q4 (Bk.set2 HB9.out (.slice A8 n8 c8) (.slice B8 m8 d8)).hi (fun e => by injection e with e; exact hn45 e))
            · have r1 : rMm.own W10 fp8 (storeM m a (tg, vl)) [.slice A8 n8 c8, .slice B8 m8 d8] := rMm.okeep HO8.out fun b hb => by
                have h1 := HF8.out b hb
                have h2 := rMm.olive HO8.out b hb
                rw [HG10.out.block b (by show b < ((W9.setCell ⟨q4, 0, none⟩ (.slice A8 n8 c8)).setCell ⟨q4, 1, none⟩ (.slice B8 m8 d8)).heap.size; rw [set_size, set_size]; exact h2) (fun e => by injection e with e; have := hb57.out; omega)]
                exact hz b (by omega)
              exact rMm.sub (rMm.reads r1) fun k hk => by
                have h1 := HF8.out k hk
                have h2 := hb57.out
                exact ⟨by omega, by omega, by omega⟩)
          clear hrun
          go_wp2_with fail
          go_roundw
          case rel => exact ⟨k + 1, by omega, by go_num, HNX.out⟩
          case measure => simp [intOf]; omega
    · obtain rfl : k = 30 := by omega
      obtain ⟨m, u, v, hb, hr, hok, hcl, hmv, hpm⟩ := HN.out.mem
      obtain ⟨⟨A4, n4, c4, rfl⟩, B4, m4, d4, rfl⟩ := mm_shape hr
      have k0 := hb.cell 0
      have k1 := hb.cell 1
      simp only [List.getElem?_cons_zero, List.getElem?_cons_succ] at k0 k1
      have HB := Lib.hid hb
      have HR := Lib.hid hr
      have HP := Lib.hid (And.intro hok (And.intro hcl hmv))
      have HM := Lib.hid hpm
      have HGr := Lib.hid HN.out.dk.grown
      clear hb hr hok hcl hmv hpm HN hlt
      go_wp2_with fail
      refine (cache_Flush_any _ m HP.out.1 _ _ wr HR.out).mono ?_
      rintro e w6 ⟨cs6, fp6, rfl, ho6, hnd6, hf6, hg6⟩
      obtain ⟨u6, v6, _, _, e6, _⟩ := mm_owned ho6
      subst e6
      have HF := Lib.hid (ok_flush HP.out.1).1
      obtain ⟨qc, cc, ql, cl, rfl, rfl⟩ := own_shape HF.out ho6
      have hgC : w6.grownBy (w6.alloc (.cells #[.slice (some ⟨qc, 0, none⟩) 512 cc, .slice (some ⟨ql, 0, none⟩) 4 cl] 27)) none := grown_alloc (grown_refl _ _) _
      have HT := Lib.hid (show T2 w q4 w6.heap.size b5 m (.slice A4 n4 c4) (.slice B4 m4 d4) qc cc ql cl (w6.alloc (.cells #[.slice (some ⟨qc, 0, none⟩) 512 cc, .slice (some ⟨ql, 0, none⟩) 4 cl] 27)) from
        ⟨grown_trans HGr.out (grown_trans hg6 hgC), (HB.out.grow hg6).grow hgC, rMm.grow (rMm.grow (rep_tt HR.out) hg6) hgC, Bk.new, rMm.grow (own_tt ho6) hgC, (HM.out.kept hg6 (by simp)).kept hgC (by simp)⟩)
      clear ho6 hnd6 hf6 hg6 hgC HGr HB HR HM k0 k1
      go_upto_region 22 with fail
      generalize w6.alloc (.cells #[.slice (some ⟨qc, 0, none⟩) 512 cc, .slice (some ⟨ql, 0, none⟩) 4 cl] 27) = W7 at *
      generalize w6.heap.size = q13 at *
      have k130 := HT.out.b13.cell 0
      simp only [List.getElem?_cons_zero] at k130
      go_wp2_with fail
      clear k130
      go_loopw [72] (fun i wr => ∃ j : Nat, j ≤ 70 ∧ i = .int .i64 j ∧ T2 w q4 q13 b5 m (.slice A4 n4 c4) (.slice B4 m4 d4) qc cc ql cl wr) (fun i _ => 70 - (intOf i).toNat)
      case atStart => exact ⟨0, Nat.zero_le _, rfl, HT.out⟩
      case round =>
        clear HT
        obtain ⟨j, hj, rfl, ht⟩ := hrel
        have HT := Lib.hid ht
        have k40 := ht.b4.cell 0
        have k41 := ht.b4.cell 1
        simp only [List.getElem?_cons_zero, List.getElem?_cons_succ] at k40 k41
        clear ht
        by_cases hj70 : j < 70
        · have x3 : (j : Int) < 70 := by omega
          have x4 : (0 : Int) ≤ (j : Int) := by omega
          have x5 : (j : Int) < 512 := by omega
          have x6 : (j : Int).toNat = j := by omega
          have hj512 : j < 512 := by omega
          go_wp2_with fail
          refine (cache_See_in TT m j (by omega) HP.out.1 _ _ _ HT.out.r4).mono ?_
          rintro e w8 ⟨rfl, hg8⟩
          obtain ⟨c, hc⟩ : ∃ c, c = seeM m j := ⟨_, rfl⟩
          rw [← hc]
          have HC := Lib.hid hc
          have hgC : w8.grownBy (w8.alloc (.cells #[.int .u8 c.1, .int .u16 c.2] 30)) none := grown_alloc (grown_refl _ _) _
          have h15 : Bk (w8.alloc (.cells #[.int .u8 c.1, .int .u16 c.2] 30)) w8.heap.size 30 [.int .u8 c.1, .int .u16 c.2] := Bk.new
          have HT := Lib.hid (HT.out.grow (grown_trans hg8 hgC))
          have HFA := Lib.hid (show c = (flushM m).cells.getD j (0, 0) by
            rw [hc, ← see_flush HP.out.1 HP.out.2.1 j]
            exact see_none _ j)
          clear hc hg8 hgC k40 k41
          go_upto_region 28 with fail
          generalize w8.alloc (.cells #[.int .u8 c.1, .int .u16 c.2] 30) = Wl at *
          generalize w8.heap.size = q15 at *
          have H15 := Lib.hid h15
          clear h15
          refine wp_region_rely (fun w' => Wl.grownBy w' none) (fun _ _ => True)
            [SVal (.int .i64 0), SVal (.bool false), SVal (.bool false), SVal (.agg #[.int .u8 c.1, .int .u16 c.2]), SVal (.map (some b5)), SVal (.int .i64 j), SVal (.agg #[.int .u8 c.1, .int .u16 c.2]), SVal (.bool false), SVal (.bool false), SVal (.bool false), SVal (.pointer (some ⟨q13, 0, none⟩)), SVal (.slice (some ⟨qc, 0, none⟩) 512 cc), SVal (.int .i64 j), SVal (.pointer (some ⟨qc, j * 2, none⟩)), SVal (.agg #[.int .u8 c.1, .int .u16 c.2]), SVal (.map (some b5)), SVal (.int .i64 j), SVal (.agg #[.int .u8 c.1, .int .u16 c.2]), SVal (.bool false), SVal (.bool false)]
            107 (by kernel_rfl) rfl (by kernel_rfl) (grown_drew (grown_refl _ _)) (fun _ => trivial) ?_ ?_ ?_
          · exact ⟨SVal.kept, SVal.kept, SVal.kept, SVal.kept, SVal.kept, SVal.kept, SVal.kept, SVal.kept, SVal.kept, SVal.kept, SVal.kept, SVal.kept, SVal.kept, SVal.kept, SVal.kept, SVal.kept, SVal.kept, SVal.kept, SVal.kept, SVal.kept, trivial⟩
          · refine duties_cons ?_ (duties_cons ?_ (duties_cons ?_ (duties_cons ?_ (duties_cons ?_ (duties_cons ?_ (duties_cons ?_ (duties_cons ?_ (duties_cons ?_ (duties_cons ?_ (duties_cons ?_ (duties_cons ?_ (duties_cons ?_ (duties_cons ?_ (duties_cons ?_ (duties_cons ?_ (duties_cons ?_ (duties_cons ?_ (duties_cons ?_ (duties_cons ?_ duties_nil)))))))))))))))))))
            · refine duty_plain rfl fun f w1 hb H => ?_
              have e16 : f 16 = _ := H 16 (by decide)
              clear H
              have HB0 := Lib.hid hb
              clear hb
              go_simp
              exact ⟨HB0.out, trivial, rfl⟩
            · refine duty_plain rfl fun f w1 hb H => ?_
              have e81 : f 81 = _ := H 81 (by decide)
              clear H
              have HB0 := Lib.hid hb
              clear hb
              go_simp
              exact ⟨HB0.out, trivial, rfl⟩
            · refine duty_plain rfl fun f w1 hb H => ?_
              have e82 : f 82 = _ := H 82 (by decide)
              clear H
              have HB0 := Lib.hid hb
              clear hb
              go_simp
              exact ⟨HB0.out, trivial, rfl⟩
            · refine duty_guard _ _ _ rfl rfl fun f w1 hb H => ⟨H 83 (by decide), ?_⟩
              have e15 : f 15 = _ := H 15 (by decide)
              clear H
              have HB0 := Lib.hid hb
              have c150 := (H15.out.grow hb).cell 0
              have c151 := (H15.out.grow hb).cell 1
              simp only [List.getElem?_cons_zero, List.getElem?_cons_succ] at c150 c151
              clear hb
              go_simp
              exact ⟨HB0.out, trivial, rfl⟩
            · refine duty_guard _ _ _ rfl rfl fun f w1 hb H => ⟨H 83 (by decide), ?_⟩
              have e5 : f 5 = _ := H 5 (by decide)
              clear H
              have HB0 := Lib.hid hb
              clear hb
              go_simp
              exact ⟨HB0.out, trivial, rfl⟩
            · refine duty_guard _ _ _ rfl rfl fun f w1 hb H => ⟨H 83 (by decide), ?_⟩
              have e14 : f 14 = _ := H 14 (by decide)
              clear H
              have HB0 := Lib.hid hb
              clear hb
              go_simp
              exact ⟨HB0.out, trivial, rfl⟩
            · refine duty_guard _ _ _ rfl rfl fun f w1 hb H => ⟨H 83 (by decide), ?_⟩
              have e85 : f 85 = _ := H 85 (by decide)
              have e86 : f 86 = _ := H 86 (by decide)
              clear H
              have HB0 := Lib.hid hb
              have hlk := ((HT.out.grow hb).pm).lookup hj70
              rw [← HC.out] at hlk
              clear hb
              go_simp
              exact ⟨HB0.out, trivial, rfl⟩
            · refine duty_guard _ _ _ rfl rfl fun f w1 hb H => ⟨H 83 (by decide), ?_⟩
              have e84 : f 84 = _ := H 84 (by decide)
              have e87 : f 87 = _ := H 87 (by decide)
              clear H
              have HB0 := Lib.hid hb
              clear hb
              go_simp
              exact ⟨HB0.out, trivial, rfl⟩
            · refine duty_plain rfl fun f w1 hb H => ?_
              have e83 : f 83 = _ := H 83 (by decide)
              have e88 : f 88 = _ := H 88 (by decide)
              clear H
              have HB0 := Lib.hid hb
              clear hb
              go_simp
              exact ⟨HB0.out, trivial, rfl⟩
            · refine duty_plain rfl fun f w1 hb H => ?_
              have e89 : f 89 = _ := H 89 (by decide)
              clear H
              have HB0 := Lib.hid hb
              clear hb
              go_simp
              exact ⟨HB0.out, trivial, rfl⟩
            · refine duty_guard _ _ _ rfl rfl fun f w1 hb H => ⟨H 90 (by decide), ?_⟩
              have e13 : f 13 = _ := H 13 (by decide)
              clear H
              have HB0 := Lib.hid hb
              clear hb
              go_simp
              exact ⟨HB0.out, trivial, rfl⟩
            · refine duty_guard _ _ _ rfl rfl fun f w1 hb H => ⟨H 90 (by decide), ?_⟩
              have e91 : f 91 = _ := H 91 (by decide)
              clear H
              have HB0 := Lib.hid hb
              have c130 := ((HT.out.grow hb).b13).cell 0
              simp only [List.getElem?_cons_zero, List.getElem?_cons_succ] at c130
              clear hb
              go_simp
              exact ⟨HB0.out, trivial, rfl⟩
            · refine duty_guard _ _ _ rfl rfl fun f w1 hb H => ⟨H 90 (by decide), ?_⟩
              have e14 : f 14 = _ := H 14 (by decide)
              clear H
              have HB0 := Lib.hid hb
              clear hb
              go_simp
              exact ⟨HB0.out, trivial, rfl⟩
            · refine duty_guard _ _ _ rfl rfl fun f w1 hb H => ⟨H 90 (by decide), ?_⟩
              have e92 : f 92 = _ := H 92 (by decide)
              have e93 : f 93 = _ := H 93 (by decide)
              clear H
              have HB0 := Lib.hid hb
              clear hb
              go_simp
              exact ⟨HB0.out, trivial, rfl⟩
            · refine duty_guard _ _ _ rfl rfl fun f w1 hb H => ⟨H 90 (by decide), ?_⟩
              have e94 : f 94 = _ := H 94 (by decide)
              clear H
              have HB0 := Lib.hid hb
              have cc0 := (cell_here ((HT.out.grow hb).r13) HF.out.cells hj512).1
              have cc1 := (cell_here ((HT.out.grow hb).r13) HF.out.cells hj512).2
              rw [← HFA.out] at cc0 cc1
              clear hb
              go_simp
              exact ⟨HB0.out, trivial, rfl⟩
            · refine duty_guard _ _ _ rfl rfl fun f w1 hb H => ⟨H 90 (by decide), ?_⟩
              have e5 : f 5 = _ := H 5 (by decide)
              clear H
              have HB0 := Lib.hid hb
              clear hb
              go_simp
              exact ⟨HB0.out, trivial, rfl⟩
            · refine duty_guard _ _ _ rfl rfl fun f w1 hb H => ⟨H 90 (by decide), ?_⟩
              have e14 : f 14 = _ := H 14 (by decide)
              clear H
              have HB0 := Lib.hid hb
              clear hb
              go_simp
              exact ⟨HB0.out, trivial, rfl⟩
            · refine duty_guard _ _ _ rfl rfl fun f w1 hb H => ⟨H 90 (by decide), ?_⟩
              have e96 : f 96 = _ := H 96 (by decide)
              have e97 : f 97 = _ := H 97 (by decide)
              clear H
              have HB0 := Lib.hid hb
              have hlk := ((HT.out.grow hb).pm).lookup hj70
              rw [← HC.out] at hlk
              clear hb
              go_simp
              exact ⟨HB0.out, trivial, rfl⟩
            · refine duty_guard _ _ _ rfl rfl fun f w1 hb H => ⟨H 90 (by decide), ?_⟩
              have e95 : f 95 = _ := H 95 (by decide)
              have e98 : f 98 = _ := H 98 (by decide)
              clear H
              have HB0 := Lib.hid hb
              clear hb
              go_simp
              exact ⟨HB0.out, trivial, rfl⟩
            · refine duty_plain rfl fun f w1 hb H => ?_
              have e90 : f 90 = _ := H 90 (by decide)
              have e99 : f 99 = _ := H 99 (by decide)
              clear H
              have HB0 := Lib.hid hb
              clear hb
              go_simp
              exact ⟨HB0.out, trivial, rfl⟩
          · intro f w9 hb hE
            simp only [putAll, Act.put, slotV, List.setIfInBounds_toArray, List.set_cons_succ, List.set_cons_zero]
            have e100 : f 100 = .bool false := hE.2.2.2.2.2.2.2.2.2.2.2.2.2.2.2.2.2.2.2.1
            have HB9 := Lib.hid hb
            clear hb hE
            rw [e100]
            go_wp2_with fail
            go_roundw
            case rel => exact ⟨j + 1, by omega, by go_num, HT.out.grow HB9.out⟩
            case measure => simp [intOf]; omega
        · obtain rfl : j = 70 := by omega
          go_wp2_with (first
            | (go_at_call 20; refine (ref04_Valid_true TT m HP.out.1 HP.out.2.2 _ _ _ HT.out.r4).mono ?_; rintro e w8 ⟨rfl, hg8⟩; have HG8 := Lib.hid hg8; clear hg8)
            | (go_at_call 13; refine (awake5_any _).mono ?_; rintro e w9 ⟨rfl, hg9⟩; have HG9 := Lib.hid hg9; clear hg9))
          go_ret
          exact ⟨rfl, grown_trans (grown_trans HT.out.grown HG8.out) HG9.out⟩

end Go.Proofs.Ytndmcnddgcifiaa
