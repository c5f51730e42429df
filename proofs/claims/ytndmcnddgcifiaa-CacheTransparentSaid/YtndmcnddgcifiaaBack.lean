/- A line written back, a line fetched in place: the program's own; no condition. -/
import Derived.Test.YtndmcnddgcifiaaFetch
import Derived.Test.YtndmcnddgcifiaaRelyS
set_option linter.unusedVariables false
set_option linter.unusedSimpArgs false
namespace Go.Proofs.Ytndmcnddgcifiaa
open Go.RowKit

theorem ok_row {m : Mm} {w : World} {p i qc cc ql cl : Nat} {lv : Value} {f1 f f2 : List Nat} {c1 c2 : List Value} (h : MemO w p m i qc cc ql cl lv f1 f f2 c1 c2) :
    (∀ x ∈ (lnAt m i).cells, CelWf x) ∧ ((lnAt m i).cells.length = 4 → ∃ b c, lv = .slice (some ⟨b, 0, none⟩) 4 c ∧ 4 ≤ c ∧ c ≤ 9223372036854775807 ∧ VBuf 30 w b (c * 2) (celsV (lnAt m i).cells) ∧ f = [b]) := by
  obtain ⟨_, ⟨_, e, _⟩ | ⟨b, c, cs, g, e1, e2, e3, e4, e5, e6⟩⟩ := h.o
  · rw [e]; exact ⟨by simp, fun h => by cases h⟩
  · obtain ⟨rfl, rfl, hw⟩ := owns_cells e6
    exact ⟨hw, fun h4 => ⟨b, c, by rw [e1, h4], by rw [h4] at e3; exact e3, e4, e5, e2⟩⟩
def BackPost (m : Mm) (w : World) (p i qc cc ql cl : Nat) (lv : Value) (f1 f f2 : List Nat) (c1 c2 : List Value) (e : Ending) (w' : World) : Prop :=
  e = .returned (.tuple #[]) ∧ MemO w' p ⟨backC m.cells (lnAt m i), m.lines⟩ i qc cc ql cl lv f1 f f2 c1 c2 ∧ Turns (fun k => k = qc) w w'

set_option maxRecDepth 100000 in
set_option maxHeartbeats 2000000 in
theorem lines_Back_any (m : Mm) {w : World} {p i qc cc ql cl : Nat} {lv : Value} {f1 f f2 : List Nat} {c1 c2 : List Value} (hok : LnOk i (lnAt m i)) (h : MemO w p m i qc cc ql cl lv f1 f f2 c1 c2) :
    Calls Try.prog 37 #[.pointer (some ⟨p, 0, none⟩), .int .i64 i] w (BackPost m w p i qc cc ql cl lv f1 f f2 c1 c2) := by
  have hi4 := h.hi
  have hx0 : (0 : Int) ≤ (i : Int) := by omega
  have hx1 : (i : Int) < 4 := by omega
  have hx2 : (i : Int).toNat = i := by omega
  have b0 := h.blk.cell 0
  have b1 := h.blk.cell 1
  simp only [List.getElem?_cons_zero, List.getElem?_cons_succ] at b0 b1
  have l0 : w.cell? ⟨ql, i * 3, none⟩ = some (.int .i64 (lnAt m i).tag) := by have := h.lines.mid (j := 0) rfl; rwa [h.hc1] at this
  have l1 : w.cell? ⟨ql, i * 3 + 1, none⟩ = some (.bool (lnAt m i).dirty) := by have := h.lines.mid (j := 1) rfl; rwa [h.hc1] at this
  have l2 : w.cell? ⟨ql, i * 3 + 2, none⟩ = some lv := by have := h.lines.mid (j := 2) rfl; rwa [h.hc1] at this
  obtain ⟨n1, n2, n3, n4⟩ := h.ne
  have hcc := h.hcc
  have hcc' := h.hcc'
  have hps := h.blk.hi
  obtain ⟨LA, lc, hlv⟩ := h.o.shape
  have HH := Lib.hid h
  have Hlv := Lib.hid hlv
  clear n4 h
  cases hdb : (lnAt m i).dirty
  · have hbc : backC m.cells (lnAt m i) = m.cells := by unfold backC; rw [hdb]; rfl
    have Hbc := Lib.hid hbc
    rw [hdb] at l1
    clear hbc hdb
    subst hlv
    go_enter Try.func37, Try.ntmps37
    go_wp2_with fail
    go_quiet (fail)
    go_wp2_with fail
    go_end0
    exact ⟨rfl, by rw [Hbc.out]; exact HH.out.grow (grown_drewN (grown_alloc (grown_refl _ _) _) _), Turns.of_grown (grown_drewN (grown_alloc (grown_refl _ _) _) _)⟩
  · rcases hok with ⟨_, h2, _⟩ | ⟨t, h1, h2, h3, h4⟩
    · rw [h2] at hdb; cases hdb
    obtain ⟨hcw, hrow⟩ := ok_row HH.out
    obtain ⟨b, c, rfl, hc4, hc5, hVl, hf⟩ := hrow h4
    clear hlv Hlv
    rw [h1] at l0
    rw [hdb] at l1
    have t0 : (0 : Int) ≤ (t : Int) := by omega
    have t1 : (t : Int) < 128 := by omega
    have Hdb := Lib.hid hdb
    have H1 := Lib.hid h1
    have H4 := Lib.hid h4
    have HV := Lib.hid hVl
    have HW := Lib.hid hcw
    have w1 : IntKind.i64.wrap ((t : Int) * 4) = (t : Int) * 4 := by rw [IntWalk.i64_in _ (by omega)]
    have w2 : (0 : Int) ≤ (t : Int) * 4 := by omega
    have w3 : ((t : Int) * 4).toNat = t * 4 := by omega
    have w4 : (t : Int) * 4 ≤ 512 := by omega
    have w5 : ¬ cc = t * 4 := by omega
    have w6 : IntKind.i64.wrap ((t : Int) + 1) = (t : Int) + 1 := by rw [IntWalk.i64_in _ (by omega)]
    have w7 : IntKind.i64.wrap (((t : Int) + 1) * 4) = ((t : Int) + 1) * 4 := by rw [IntWalk.i64_in _ (by omega)]
    have w8 : ((t : Int) + 1) * 4 ≤ 512 := by omega
    clear hdb h1 h4 hVl h3 hf hcw
    go_enter Try.func37, Try.ntmps37
    go_wp2_with fail
    go_quiet (fail)
    go_wp2_with fail
    have hgr : w.grownBy ((w.alloc (.cells #[.int .i64 t, .bool true, .slice (some ⟨b, 0, none⟩) 4 c] 40)).drewN nq) none := grown_drewN (grown_alloc (grown_refl _ _) _) _
    have hX : Bk ((w.alloc (.cells #[.int .i64 t, .bool true, .slice (some ⟨b, 0, none⟩) 4 c] 40)).drewN nq) w.heap.size 40 [.int .i64 t, .bool true, .slice (some ⟨b, 0, none⟩) 4 c] := (Bk.new (w := w)).keep rfl
    generalize (w.alloc (.cells #[.int .i64 t, .bool true, .slice (some ⟨b, 0, none⟩) 4 c] 40)).drewN nq = W2 at *
    have hM2 := HH.out.grow hgr
    have HV2 := Lib.hid (HV.out.grow hgr)
    have p0 := hM2.blk.cell 0
    have x0 := hX.cell 0
    have x2 := hX.cell 2
    simp only [List.getElem?_cons_zero, List.getElem?_cons_succ] at p0 x0 x2
    have HM2 := Lib.hid hM2
    have HGR := Lib.hid hgr
    clear hM2 hgr hX b0 b1 l0 l1 l2
    go_still_tail 10, (by kernel_rfl)
    clear w1 w2 w3 w4 w5 w6 w7 w8
    obtain ⟨cur, v1, v2, v3⟩ := HM2.out.cells.eq
    have hmin : Nat.min 4 (512 - t * 4) = 4 := Nat.min_eq_left (by omega)
    have hcl : (celsV (lnAt m i).cells).length = 8 := by rw [celsV_len, H4.out]
    have hml : (celsV m.cells).length = 1024 := by rw [celsV_len, HH.out.n]
    have HV1 := Lib.hid v1
    have HVs := Lib.hid v2
    have HV3 := Lib.hid v3
    have Hmin := Lib.hid hmin
    have Hcl := Lib.hid hcl
    have Hml := Lib.hid hml
    clear v1 v2 v3 hmin hcl hml
    change wpList _ _ _ _ _ W2.drew
    refine wpList_copy_cells 2 rfl (.tmp 38) (.tmp 40) 24 30 rfl Try.underlying24 (by kernel_rfl) qc (t * 4 * 2) (512 - t * 4) (cc - t * 4) rfl ⟨b, 0, none⟩ 4 c rfl cur 30 (celsV (lnAt m i).cells) HV1.out ?c1 ?c2 ?c3 (celsV_one _) ?_
    case c1 => rw [Hmin.out, Hcl.out]
    case c2 =>
      intro j u hj
      obtain ⟨hj1, hj2⟩ := List.getElem?_eq_some_iff.1 hj
      rw [show (⟨b, 0, none⟩ : Addr).add j = ⟨b, j, none⟩ by unfold Addr.add; split <;> simp_all]
      exact (HV2.out.cell hj1).trans (by rw [hj2])
    case c3 => rw [Hcl.out, HVs.out]; omega
    have hcur := HVs.out
    have hcl := Hcl.out
    have hml := Hml.out
    have hb := backC_put (m := m) H1.out Hdb.out
    have hL := VBuf.laid (e := 30) (w := W2.drew) (cs := celsV (lnAt m i).cells) (o := t * 4 * 2) HV1.out HVs.out HV3.out (by omega)
    rw [← celsV_put, ← hb] at hL
    have hM := HM2.out.laid (w' := W2.drew.setRow qc (cur.toList.take (t * 4 * 2) ++ celsV (lnAt m i).cells ++ cur.toList.drop (t * 4 * 2 + (celsV (lnAt m i).cells).length)).toArray) (fun k hk => setRow_other _ _ _ _ hk) (cs := backC m.cells (lnAt m i)) ?d1 ?d2 hL
    case d1 => rw [hb, putAt_len]; exact HH.out.n; rw [H4.out, HH.out.n]; omega
    case d2 =>
      rw [hb]
      intro x hx
      simp only [putAt, List.mem_append] at hx
      rcases hx with (hx | hx) | hx
      · exact HH.out.cwf x (List.mem_of_mem_take hx)
      · exact HW.out x hx
      · exact HH.out.cwf x (List.mem_of_mem_drop hx)
    rw [List.append_assoc] at hM
    have HMM := Lib.hid hM
    clear hM hL hb hcur hcl hml
    go_wp2_with fail
    go_end0
    exact ⟨rfl, HMM.out, (Turns.of_grown HGR.out).drew.row (X := fun k => k = qc) rfl _⟩

def FetchPostL (m : Mm) (a : Nat) (w : World) (p qc cc ql cl : Nat) (f1 f f2 : List Nat) (c1 c2 : List Value) (e : Ending) (w' : World) : Prop :=
  ∃ lv' f', e = .returned (.tuple #[.pointer (some ⟨ql, a / 4 % 4 * 3, none⟩), .int .i64 (a % 4 : Nat), .bool true]) ∧ MemO w' p (fetchM m a) (a / 4 % 4) qc cc ql cl lv' f1 f' f2 c1 c2 ∧ Turns (fun k => k = qc ∨ k = ql) w w' ∧ ∀ k, k ∈ f' → k ∈ f ∨ w.heap.size ≤ k

set_option maxRecDepth 100000 in
set_option maxHeartbeats 2000000 in
theorem lines_Fetch_any (m : Mm) (a : Nat) (ha : a < 512) (hok : MmOk m) {w : World} {p qc cc ql cl : Nat} {lv : Value} {f1 f f2 : List Nat} {c1 c2 : List Value} (h : MemO w p m (a / 4 % 4) qc cc ql cl lv f1 f f2 c1 c2) :
    Calls Try.prog 47 #[.pointer (some ⟨p, 0, none⟩), .int .i64 a] w (FetchPostL m a w p qc cc ql cl f1 f f2 c1 c2) := by
  obtain ⟨n, hn⟩ : ∃ n, n = a / 4 := ⟨_, rfl⟩
  obtain ⟨i, hi⟩ : ∃ i, i = n % 4 := ⟨_, rfl⟩
  obtain ⟨j, hj⟩ : ∃ j, j = a % 4 := ⟨_, rfl⟩
  have hi4 : i < 4 := by omega
  have hn128 : n < 128 := by omega
  unfold FetchPostL
  rw [← hn, ← hi] at h ⊢
  rw [← hj]
  have hd1 : (a : Int) / 4 = (n : Int) := by omega
  have hd2 : (n : Int) % 4 = (i : Int) := by omega
  have hd3 : (a : Int) % 4 = (j : Int) := by omega
  have hx0 : (0 : Int) ≤ (i : Int) := by omega
  have hx1 : (i : Int) < 4 := by omega
  have hx2 : (i : Int).toNat = i := by omega
  have ha0 : (0 : Int) ≤ (a : Int) := by omega
  have ha1 : (a : Int) < 512 := by omega
  have hn0 : (0 : Int) ≤ (n : Int) := by omega
  have hn1 : (n : Int) < 128 := by omega
  have b0 := h.blk.cell 0
  have b1 := h.blk.cell 1
  simp only [List.getElem?_cons_zero, List.getElem?_cons_succ] at b0 b1
  have l0 : w.cell? ⟨ql, i * 3, none⟩ = some (.int .i64 (lnAt m i).tag) := by have := h.lines.mid (j := 0) rfl; rwa [h.hc1] at this
  have l1 : w.cell? ⟨ql, i * 3 + 1, none⟩ = some (.bool (lnAt m i).dirty) := by have := h.lines.mid (j := 1) rfl; rwa [h.hc1] at this
  have l2 : w.cell? ⟨ql, i * 3 + 2, none⟩ = some lv := by have := h.lines.mid (j := 2) rfl; rwa [h.hc1] at this
  have hcc := h.hcc
  have hcc' := h.hcc'
  obtain ⟨LA, lc, hlv⟩ := h.o.shape
  have HH := Lib.hid h
  have Hok := Lib.hid (hok.each i hi4)
  have Hn := Lib.hid hn
  have Hi := Lib.hid hi
  have Hj := Lib.hid hj
  clear h hok hn hi hj
  by_cases ht : (lnAt m i).tag = (n : Int)
  · have hfe : fetchM m a = m := by unfold fetchM; rw [← Hn.out, ← Hi.out, if_pos ht]
    have Hfe := Lib.hid hfe
    have h4 : (lnAt m i).cells.length = 4 := by
      rcases Hok.out with ⟨h1, _, _⟩ | ⟨t, h1, h2, h3, h4⟩
      · rw [ht] at h1; omega
      · exact h4
    rw [h4] at hlv
    subst hlv
    rw [ht] at l0
    clear hfe ht h4
    go_enter Try.func47, Try.ntmps47
    go_wp2_with fail
    go_ret3
    exact ⟨_, f, by simp [Act.eval, hd3], by rw [Hfe.out]; exact HH.out, Turns.refl _ _, fun k hk => .inl hk⟩
  · have htb : ((lnAt m i).tag != (n : Int)) = true := by simpa using ht
    have hfe : fetchM m a = ⟨backC m.cells (lnAt m i), m.lines.set i ⟨(n : Nat), false, ((backC m.cells (lnAt m i)).drop (4 * n)).take 4⟩⟩ := by unfold fetchM; rw [← Hn.out, ← Hi.out, if_neg ht]
    have Hfe := Lib.hid hfe
    clear ht hfe
    go_enter Try.func47, Try.ntmps47
    go_wp2_with fail
    refine (lines_Back_any m Hok.out HH.out).mono ?_
    rintro e wc ⟨rfl, ho, htu⟩
    generalize backC m.cells (lnAt m i) = C at *
    have q0 := ho.blk.cell 0
    have q1 := ho.blk.cell 1
    simp only [List.getElem?_cons_zero, List.getElem?_cons_succ] at q0 q1
    have HO := Lib.hid ho
    have HT := Lib.hid htu
    clear ho htu b0 b1 l0 l1 l2
    go_wp2_with fail
    have w1 : IntKind.i64.wrap ((n : Int) * 4) = (n : Int) * 4 := by rw [IntWalk.i64_in _ (by omega)]
    have w2 : (0 : Int) ≤ (n : Int) * 4 := by omega
    have w3 : ((n : Int) * 4).toNat = n * 4 := by omega
    have w4 : (n : Int) * 4 ≤ 512 := by omega
    have w5 : ¬ cc = n * 4 := by omega
    have w6 : IntKind.i64.wrap ((n : Int) + 1) = (n : Int) + 1 := by rw [IntWalk.i64_in _ (by omega)]
    have w7 : IntKind.i64.wrap (((n : Int) + 1) * 4) = ((n : Int) + 1) * 4 := by rw [IntWalk.i64_in _ (by omega)]
    have w8 : ((n : Int) + 1) * 4 ≤ 512 := by omega
    have w9 : (0 : Int) ≤ ((n : Int) + 1) * 4 := by omega
    have w10 : (n : Int) * 4 ≤ ((n : Int) + 1) * 4 := by omega
    have w11 : (((n : Int) + 1) * 4).toNat = (n + 1) * 4 := by omega
    have w12 : ((n : Int) + 1) * 4 ≤ (cc : Int) := by omega
    have w13 : (n : Int) ≤ (n : Int) + 1 := by omega
    have Hcb := Lib.hid (show cc ≤ 9223372036854775807 from hcc')
    obtain ⟨D, hD⟩ : ∃ D : World → Prop, D = fun w' => ∃ lv' f', MemO w' p (fetchM m a) i qc cc ql cl lv' f1 f' f2 c1 c2 ∧ ∀ k, k ∈ f' → wc.heap.size ≤ k := ⟨_, rfl⟩
    have HD := Lib.hid hD
    clear hD
    have Hql := Lib.hid (show ql < wc.heap.size from HO.out.lines.hi)
    have Hne := Lib.hid (show p ≠ ql ∧ qc ≠ ql from ⟨HO.out.ne.2.1, HO.out.ne.2.2.1⟩)
    have HQ := Lib.hid HO.out.blk
    have hgrow : ∀ {w w' : World}, w.grownBy w' none → RD (fun b => b = ql) D w w' := fun {w w'} hg => ⟨RK.grown0 hg, fun h => by
      rw [HD.out] at h ⊢
      obtain ⟨y, f', h1, h2⟩ := h
      exact ⟨y, f', h1.grow hg, h2⟩⟩
    refine wp_region_rely (fun w' => wc.grownBy w' (some ql) ∧ ∃ x lv' f', MemO w' p (setLn ⟨C, m.lines⟩ i x) i qc cc ql cl lv' f1 f' f2 c1 c2) (RD (fun b => b = ql) D)
      [SVal (.pointer (some ⟨p, 0, none⟩)), SVal (.pointer (some ⟨p, 0, none⟩)), SVal (.pointer (some ⟨p, 1, none⟩)), SVal (.slice (some ⟨ql, 0, none⟩) 4 cl), SVal (.int .i64 i), SVal (.int .i64 n), SVal (.pointer (some ⟨p, 0, none⟩)), SVal (.pointer (some ⟨p, 0, none⟩)), SVal (.pointer (some ⟨p, 0, none⟩)), SVal (.slice (some ⟨qc, 0, none⟩) 512 cc), SVal (.int .i64 n), SVal (.int .i64 ((n : Int) * 4)), SVal (.int .i64 n), SVal (.int .i64 ((n : Int) + 1)), SVal (.int .i64 (((n : Int) + 1) * 4)), SVal (.slice (some ⟨qc, n * 4 * 2, none⟩) ((n + 1) * 4 - n * 4) (cc - n * 4)), SMk rCell 30 wc.heap.size (fun b => b = qc) ((C.drop (n * 4)).take ((n + 1) * 4 - n * 4)), fun v w' => ∃ u, v = .agg #[.int .i64 n, .bool false, u] ∧ SMk rCell 30 wc.heap.size (fun b => b = qc) ((C.drop (n * 4)).take ((n + 1) * 4 - n * 4)) u w', SVal (.pointer (some ⟨ql, i * 3, none⟩)), fun _ w' => D w']
      87 (by kernel_rfl) rfl (by kernel_rfl) ⟨grown_drew (grown_refl _ _), lnAt ⟨C, m.lines⟩ i, lv, f, by rw [show setLn ⟨C, m.lines⟩ i (lnAt ⟨C, m.lines⟩ i) = ⟨C, m.lines⟩ from setLn_self HO.out.n4 hi4]; exact HO.out.keep fun _ _ => rfl⟩ (fun _ => RD.refl _ _ _) ?_ ?_ ?_
    · have hsr : ∀ (w w' : World) v, RD (fun b => b = ql) D w w' → SMk rCell 30 wc.heap.size (fun b => b = qc) ((C.drop (n * 4)).take ((n + 1) * 4 - n * 4)) v w → SMk rCell 30 wc.heap.size (fun b => b = qc) ((C.drop (n * 4)).take ((n + 1) * 4 - n * 4)) v w' := fun w w' v hr h => by
        obtain ⟨cs, h1, h2, h3⟩ := h
        refine ⟨cs, ⟨h1.1, ?_⟩, h2, (Reps.keep (w' := w') (fun b hb' => hr.1.2 b hb'.2 (by rintro rfl; exact Hne.out.2 hb'.1.1.symm)) h3.live).sub fun b hb' => hb'.1⟩
        rcases h1.2 with h | ⟨g, cap, cur, e1, hb, hgg, h⟩
        · exact .inl h
        · exact .inr ⟨g, cap, cur, e1, hb, by rw [hr.1.2 g (Array.getElem?_eq_some_iff.1 hgg).1 (by have := Hql.out; omega)]; exact hgg, h⟩
      exact ⟨SVal.kept, SVal.kept, SVal.kept, SVal.kept, SVal.kept, SVal.kept, SVal.kept, SVal.kept, SVal.kept, SVal.kept, SVal.kept, SVal.kept, SVal.kept, SVal.kept, SVal.kept, SVal.kept, hsr, fun w w' v hr ⟨u, e, h⟩ => ⟨u, e, hsr w w' u hr h⟩, SVal.kept, fun _ _ _ hr h => hr.2 h, trivial⟩
    · refine duties_cons ?_ (duties_cons ?_ (duties_cons ?_ (duties_cons ?_ (duties_cons ?_ (duties_cons ?_ (duties_cons ?_ (duties_cons ?_ (duties_cons ?_ (duties_cons ?_ (duties_cons ?_ (duties_cons ?_ (duties_cons ?_ (duties_cons ?_ (duties_cons ?_ (duties_cons ?_ (duties_cons ?_ (duties_cons ?_ (duties_cons ?_ (duties_cons ?_ duties_nil)))))))))))))))))))
      · refine duty_plain rfl fun f w1 hb H => ?_
        have e0 : f 0 = _ := H 0 (by decide)
        clear H
        have HB := Lib.hid hb; clear hb
        go_simp
        exact ⟨HB.out, RD.refl _ _ _, rfl⟩
      · refine duty_plain rfl fun f w1 hb H => ?_
        have e60 : f 60 = _ := H 60 (by decide)
        clear H
        have HB := Lib.hid hb; clear hb
        go_simp
        exact ⟨HB.out, RD.refl _ _ _, rfl⟩
      · refine duty_plain rfl fun f w1 hb H => ?_
        have e61 : f 61 = _ := H 61 (by decide)
        clear H
        have HB := Lib.hid hb; clear hb
        go_simp
        exact ⟨HB.out, RD.refl _ _ _, rfl⟩
      · refine duty_plain rfl fun f w1 hb H => ?_
        have e62 : f 62 = _ := H 62 (by decide)
        clear H
        have hq := HQ.out.keep (hb.1.block _ HQ.out.hi fun e => by injection e with e; exact Hne.out.1 e)
        have k1 := hq.cell 1
        simp only [List.getElem?_cons_zero, List.getElem?_cons_succ] at k1
        clear hq
        have HB := Lib.hid hb; clear hb
        go_simp
        exact ⟨HB.out, RD.refl _ _ _, rfl⟩
      · refine duty_plain rfl fun f w1 hb H => ?_
        have e8 : f 8 = _ := H 8 (by decide)
        clear H
        have HB := Lib.hid hb; clear hb
        go_simp
        exact ⟨HB.out, RD.refl _ _ _, rfl⟩
      · refine duty_plain rfl fun f w1 hb H => ?_
        have e7 : f 7 = _ := H 7 (by decide)
        clear H
        have HB := Lib.hid hb; clear hb
        go_simp
        exact ⟨HB.out, RD.refl _ _ _, rfl⟩
      · refine duty_plain rfl fun f w1 hb H => ?_
        have e0 : f 0 = _ := H 0 (by decide)
        clear H
        have HB := Lib.hid hb; clear hb
        go_simp
        exact ⟨HB.out, RD.refl _ _ _, rfl⟩
      · refine duty_plain rfl fun f w1 hb H => ?_
        have e66 : f 66 = _ := H 66 (by decide)
        clear H
        have HB := Lib.hid hb; clear hb
        go_simp
        exact ⟨HB.out, RD.refl _ _ _, rfl⟩
      · refine duty_plain rfl fun f w1 hb H => ?_
        have e67 : f 67 = _ := H 67 (by decide)
        clear H
        have HB := Lib.hid hb; clear hb
        go_simp
        exact ⟨HB.out, RD.refl _ _ _, rfl⟩
      · refine duty_plain rfl fun f w1 hb H => ?_
        have e68 : f 68 = _ := H 68 (by decide)
        clear H
        have hq := HQ.out.keep (hb.1.block _ HQ.out.hi fun e => by injection e with e; exact Hne.out.1 e)
        have k0 := hq.cell 0
        simp only [List.getElem?_cons_zero, List.getElem?_cons_succ] at k0
        clear hq
        have HB := Lib.hid hb; clear hb
        go_simp
        exact ⟨HB.out, RD.refl _ _ _, rfl⟩
      · refine duty_plain rfl fun f w1 hb H => ?_
        have e7 : f 7 = _ := H 7 (by decide)
        clear H
        have HB := Lib.hid hb; clear hb
        go_simp
        exact ⟨HB.out, RD.refl _ _ _, rfl⟩
      · refine duty_plain rfl fun f w1 hb H => ?_
        have e70 : f 70 = _ := H 70 (by decide)
        clear H
        have HB := Lib.hid hb; clear hb
        go_simp
        exact ⟨HB.out, RD.refl _ _ _, rfl⟩
      · refine duty_plain rfl fun f w1 hb H => ?_
        have e7 : f 7 = _ := H 7 (by decide)
        clear H
        have HB := Lib.hid hb; clear hb
        go_simp
        exact ⟨HB.out, RD.refl _ _ _, rfl⟩
      · refine duty_plain rfl fun f w1 hb H => ?_
        have e72 : f 72 = _ := H 72 (by decide)
        clear H
        have HB := Lib.hid hb; clear hb
        go_simp
        exact ⟨HB.out, RD.refl _ _ _, rfl⟩
      · refine duty_plain rfl fun f w1 hb H => ?_
        have e73 : f 73 = _ := H 73 (by decide)
        clear H
        have HB := Lib.hid hb; clear hb
        go_simp
        exact ⟨HB.out, RD.refl _ _ _, rfl⟩
      · refine duty_plain rfl fun f w1 hb H => ?_
        have e69 : f 69 = _ := H 69 (by decide)
        have e71 : f 71 = _ := H 71 (by decide)
        have e74 : f 74 = _ := H 74 (by decide)
        clear H
        have HB := Lib.hid hb; clear hb
        go_simp
        exact ⟨HB.out, RD.refl _ _ _, rfl⟩
      · refine duty_plain rfl fun f w1 hb H => ?_
        have e75 : f 75 = _ := H 75 (by decide)
        clear H
        obtain ⟨hb1, x, lv2, f2x, hM⟩ := hb
        have hsrc := sub_cells (C := C) (o := n * 4) (k := (n + 1) * 4 - n * 4) (c' := cc - n * 4) hM.cells HO.out.cwf (by have : C.length = 512 := HO.out.n; omega) (by omega) (by omega) (by have := Hcb.out; omega)
        obtain ⟨v', w', hr, hmk, hg⟩ := run_rcopied (P := Try.prog) (R := rCell) slCell (by decide) 24 (fun b => b = qc) _ _ hsrc
        simp only [execOp, resolve, invoke, builtin, Sem.run_bind, Sem.run_pure, Result.andThen_ok, List.map_toArray, List.map_cons, List.map_nil, evalW, e75, hr, relyUpon]
        exact ⟨⟨grown_trans hb1 (grown_any hg), x, lv2, f2x, hM.grow hg⟩, hgrow hg, hmk.base hb1.size⟩
      · refine duty_plain rfl fun f w1 hb H => ?_
        have e65 : f 65 = _ := H 65 (by decide)
        have s76 := H 76 (by decide)
        clear H
        have hcl : ((C.drop (n * 4)).take ((n + 1) * 4 - n * 4)).length = (n + 1) * 4 - n * 4 := by have : C.length = 512 := HO.out.n; simp; omega
        obtain ⟨A, c, e76⟩ := Mk.shape s76
        rw [hcl] at e76
        clear hcl
        have S76 : Hid (SMk rCell 30 wc.heap.size (fun b => b = qc) ((C.drop (n * 4)).take ((n + 1) * 4 - n * 4)) (f 76) w1) := Lib.hid s76
        clear s76
        rw [e76] at S76
        have HB := Lib.hid hb; clear hb
        go_simp
        exact ⟨HB.out, RD.refl _ _ _, _, rfl, S76.out⟩
      · refine duty_plain rfl fun f w1 hb H => ?_
        have e63 : f 63 = _ := H 63 (by decide)
        have e64 : f 64 = _ := H 64 (by decide)
        clear H
        have HB := Lib.hid hb; clear hb
        go_simp
        exact ⟨HB.out, RD.refl _ _ _, rfl⟩
      · refine duty_plain rfl fun f w1 hb H => ?_
        have s77 := H 77 (by decide)
        have e78 : f 78 = _ := H 78 (by decide)
        clear H
        obtain ⟨u, e77, s76⟩ := s77
        obtain ⟨hb1, x, lv2, f2x, hM⟩ := hb
        have hcl : ((C.drop (n * 4)).take ((n + 1) * 4 - n * 4)).length = (n + 1) * 4 - n * 4 := by have : C.length = 512 := HO.out.n; simp; omega
        obtain ⟨A, c, hu⟩ := Mk.shape s76
        rw [hcl] at hu
        subst hu
        obtain ⟨gp, o1, o2, o3⟩ := (Mk.own flatCell s76).done
        have k0 := hM.lines.mid (j := 0) rfl
        have k1 := hM.lines.mid (j := 1) rfl
        have k2 := hM.lines.mid (j := 2) rfl
        rw [hM.hc1] at k0 k1 k2
        rw [Nat.add_zero] at k0
        have z0 := hM.lines.free (i * 3)
        have z1 := hM.lines.free (i * 3 + 1)
        have z2 := hM.lines.free (i * 3 + 2)
        have hn4 : (setLn ⟨C, m.lines⟩ i x).lines.length = 4 := setLn_len _ HO.out.n4
        have hA := (hM.setTag (n := n) (by simp [Lit.wf, IntKind.min, IntKind.max, IntKind.signed, IntKind.bits]; omega)).setDirty false
        rw [lnAt_setLn hn4 hi4, setLn_setLn] at hA
        have hs : ∀ b j v, ∀ w : World, (w.setCell ⟨ql, j, none⟩ v).heap[b]? = w.heap[b]? ∨ b = ql := fun b j v w => by
            by_cases e : b = ql
            · exact .inr e
            · exact .inl (heap_setCell_other _ _ _ _ e)
        have hlo := HO.out.live
        have hC := hA.setRow (lv' := .slice A ((n + 1) * 4 - n * 4) c) (o1.keep fun b hb2 => by
            have h1 := o3 b hb2; have h2 := Hql.out
            rw [heap_setCell_other _ _ _ _ (show b ≠ ql by omega), heap_setCell_other _ _ _ _ (show b ≠ ql by omega)]) o2 fun k hk hm => by
            have h1 := o3 k hk; have h2 := hlo k (by simp only [List.mem_cons, List.mem_append] at hm ⊢; rcases hm with h | h | h | h | h <;> simp [h])
            omega
        rw [lnAt_setLn hn4 hi4, setLn_setLn, setLn_setLn] at hC
        dsimp only at hC
        have hC2 := hC
        have hfe : setLn ⟨C, m.lines⟩ i ⟨n, false, (C.drop (n * 4)).take ((n + 1) * 4 - n * 4)⟩ = fetchM m a := by
            rw [Hfe.out, show (n + 1) * 4 - n * 4 = 4 by omega, Nat.mul_comm n 4]; rfl
        rw [hfe] at hC
        have HC := Lib.hid hC; have HC2 := Lib.hid hC2; have HB1 := Lib.hid hb1; have H3 := Lib.hid o3
        clear hC hC2 hb1 o1 o2 o3 hA hM s76 hs hlo hfe hcl hn4
        go_simp
        refine ⟨⟨grown_set (grown_set (grown_set HB1.out (.inl rfl) _) (.inl rfl) _) (.inl rfl) _, _, _, _, HC2.out⟩, ⟨RK.set (X := fun b => b = ql) (RK.set (X := fun b => b = ql) (RK.set (X := fun b => b = ql) (p := ⟨ql, i * 3, none⟩) (RK.refl _ _) rfl _) (p := ⟨ql, i * 3 + 1, none⟩) rfl _) (p := ⟨ql, i * 3 + 2, none⟩) rfl _, fun _ => ?_⟩, ?_⟩
        · rw [HD.out]; exact ⟨_, gp, HC.out, H3.out⟩
        · show D _
          rw [HD.out]; exact ⟨_, gp, HC.out, H3.out⟩
    · intro f w9 hb hE
      simp only [putAll, Act.put, slotV, List.setIfInBounds_toArray, List.set_cons_succ, List.set_cons_zero]
      have hD9 : D w9 := hE.2.2.2.2.2.2.2.2.2.2.2.2.2.2.2.2.2.2.2.1
      clear hE
      rw [HD.out] at hD9
      obtain ⟨lv9, f9, hM9, hf9⟩ := hD9
      have r1 := hM9.blk.cell 1
      simp only [List.getElem?_cons_zero, List.getElem?_cons_succ] at r1
      have HM9 := Lib.hid hM9; have HF9 := Lib.hid hf9; have HB9 := Lib.hid hb.1
      clear hM9 hf9 hb
      go_wp2_with fail
      go_ret3
      exact ⟨lv9, f9, by simp [Act.eval, hd3], HM9.out, (HT.out.sub fun k hk => .inl hk).trans ⟨HB9.out.os, HB9.out.tape, HB9.out.output, HB9.out.size, fun k hk hx => HB9.out.block k hk (fun e => by injection e with e; exact hx (.inr e))⟩, fun k hk => .inr (by have := HF9.out k hk; have := HT.out.size; omega)⟩

end Go.Proofs.Ytndmcnddgcifiaa
