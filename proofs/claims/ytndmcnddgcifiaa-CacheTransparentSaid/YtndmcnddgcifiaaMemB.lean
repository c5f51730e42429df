/- Copies of memories: the program's own; no condition. -/
import Derived.Test.YtndmcnddgcifiaaMemA
import Derived.Test.YtndmcnddgcifiaaRelyS
set_option linter.unusedVariables false
set_option linter.unusedSimpArgs false
namespace Go.Proofs.Ytndmcnddgcifiaa
open Go.RowKit

def MmGood (m : Mm) (N : Nat) (F : Nat → Prop) (vs : List Value) (w : World) : Prop :=
  ∃ a b, vs = [a, b] ∧ Mk rCell 30 N w (fun k => F k ∧ k < N) a m.cells ∧ Mk rLn 40 N w (fun k => F k ∧ k < N) b m.lines
theorem MmGood.kept (m : Mm) (N : Nat) (F : Nat → Prop) : GoodK 27 N (MmGood m N F) :=
  fun vs w w' hs hk ⟨a, b, e, h1, h2⟩ => ⟨a, b, e, h1.stays (by decide) (fun _ h => h.2) hs hk, h2.stays (by decide) (fun _ h => h.2) hs hk⟩
def SMmAgg (m : Mm) (N : Nat) (F : Nat → Prop) (v : Value) (w : World) : Prop := ∃ a b, v = .agg #[a, b] ∧ MmGood m N F [a, b] w
def Zm : List Value := [.slice none 0 0, .slice none 0 0]
abbrev RM (m : Mm) (N : Nat) (F : Nat → Prop) := RZ N 27 Zm (MmGood m N F)

/-- Behind k rounds: the first k lines have cells of their own. N9: what was there ahead of the loop. -/
structure CopInv (m : Mm) (w : World) (F : Nat → Prop) (N q2 q N9 : Nat) (a b : Value) (k : Nat) (wr : World) : Prop where
  grown : w.grownBy wr none
  size : N9 ≤ wr.heap.size
  res : Bk wr q2 27 [.slice none 0 0, .slice none 0 0]
  out : Bk wr q 27 [a, b]
  cells : ∃ fpc, OSl rCell 30 wr fpc m.cells a ∧ fpc.Nodup ∧ ∀ x, x ∈ fpc → N ≤ x ∧ x ≠ q ∧ x < N9 ∧ ∀ c, b.ownBlock = some c → x ≠ c
  lines : (b = .slice none 0 0 ∧ m.lines = []) ∨ ∃ ql cl c1 c2 fp, b = .slice (some ⟨ql, 0, none⟩) m.lines.length cl ∧ m.lines.length ≤ cl ∧ cl ≤ 9223372036854775807 ∧ VBuf 40 wr ql (cl * 3) (c1 ++ c2) ∧
    Owns rLn wr fp (m.lines.take k) c1 ∧ Reps rLn wr (fun x => F x ∧ x < N) (m.lines.drop k) c2 ∧ fp.Nodup ∧ (∀ x, x ∈ fp → N9 ≤ x) ∧ N ≤ ql ∧ ql < N9 ∧ ql ≠ q

set_option maxHeartbeats 1000000 in
theorem memory_Copy_any (F : Nat → Prop) (m : Mm) (u v : Value) (w : World) (hm : rMm.rep w F m [u, v]) :
    Calls Try.prog 29 #[.agg #[u, v]] w (OwnRet rMm m w) := by
  obtain ⟨u', v', e, hu, hv⟩ := mm_out hm
  cases e
  have HU := Lib.hid hu
  have HV := Lib.hid hv
  obtain ⟨A, c, rfl, hlc, hcm, hlm⟩ := hv.size_eq
  clear hm hu hv
  go_enter Try.func29, Try.ntmps29
  go_wp2_with fail
  have hg0 : w.grownBy ((w.alloc (.cells #[u, .slice A m.lines.length c] 27)).alloc (.cells #[.slice none 0 0, .slice none 0 0] 27)) none := grown_alloc (grown_alloc (grown_refl w none) _) _
  have hb1 : Bk ((w.alloc (.cells #[u, .slice A m.lines.length c] 27)).alloc (.cells #[.slice none 0 0, .slice none 0 0] 27)) w.heap.size 27 [u, .slice A m.lines.length c] := Bk.new.grow (grown_alloc (grown_refl _ _) _)
  have hb2 : Bk ((w.alloc (.cells #[u, .slice A m.lines.length c] 27)).alloc (.cells #[.slice none 0 0, .slice none 0 0] 27)) (w.heap.size + 1) 27 [.slice none 0 0, .slice none 0 0] := by
    have := (Bk.new (w := w.alloc (.cells #[u, .slice A m.lines.length c] 27)) (t := 27) (vs := [.slice none 0 0, .slice none 0 0]))
    simpa using this
  have hN : w.heap.size + 2 = ((w.alloc (.cells #[u, .slice A m.lines.length c] 27)).alloc (.cells #[.slice none 0 0, .slice none 0 0] 27)).heap.size := by simp
  generalize (w.alloc (.cells #[u, .slice A m.lines.length c] 27)).alloc (.cells #[.slice none 0 0, .slice none 0 0] 27) = W at *
  have HG0 := Lib.hid hg0
  have HB1 := Lib.hid hb1
  have HB2 := Lib.hid hb2
  obtain ⟨q1, hq1⟩ : ∃ q, q = w.heap.size := ⟨_, rfl⟩
  clear hg0 hb1 hb2
  refine wp_region_rely (fun w' => W.grownBy w' none) (RM m W.heap.size F)
    [SVal (.pointer (some ⟨w.heap.size, 0, none⟩)), SVal u, SMk rCell 30 W.heap.size (fun k => F k ∧ k < W.heap.size) m.cells, SVal (.pointer (some ⟨w.heap.size, 1, none⟩)), SVal (.slice A m.lines.length c),
     SMk rLn 40 W.heap.size (fun k => F k ∧ k < W.heap.size) m.lines, SMmAgg m W.heap.size F, SNewB W.heap.size 27 Zm (MmGood m W.heap.size F), SPutB W.heap.size 27 (MmGood m W.heap.size F)]
    31 (by kernel_rfl) rfl (by kernel_rfl) (grown_drew (grown_refl _ _)) (fun _ => RZ.refl _) ?_ ?_ ?_
  · exact ⟨SVal.kept, SVal.kept, SMk.kept (by decide) (fun _ h => h.2), SVal.kept, SVal.kept, SMk.kept (by decide) (fun _ h => h.2), fun w w' v hr ⟨a, b, e, h⟩ => ⟨a, b, e, MmGood.kept _ _ _ _ _ _ hr.1 hr.2.1 h⟩, SNewB.kept, SPutB.kept, trivial⟩
  · refine duties_cons ?_ (duties_cons ?_ (duties_cons ?_ (duties_cons ?_ (duties_cons ?_ (duties_cons ?_ (duties_cons ?_ (duties_cons ?_ (duties_cons ?_ duties_nil))))))))
    · refine duty_plain rfl fun f w1 hb H => ?_
      have e1 : f 1 = _ := H 1 (by decide)
      clear H
      have HB := Lib.hid hb; clear hb
      go_simp
      exact ⟨HB.out, RZ.refl _, rfl⟩
    · refine duty_plain rfl fun f w1 hb H => ?_
      have e6 : f 6 = _ := H 6 (by decide)
      clear H
      have k0 := (HB1.out.grow hb).cell 0
      simp only [List.getElem?_cons_zero, List.getElem?_cons_succ] at k0
      have HB := Lib.hid hb; clear hb
      go_simp
      exact ⟨HB.out, RZ.refl _, rfl⟩
    · refine duty_plain rfl fun f w1 hb H => ?_
      have e7 : f 7 = _ := H 7 (by decide)
      clear H
      go_simp
      refine (cloneC_any (fun k => F k ∧ k < W.heap.size) m.cells u _ ((HU.out.grow HG0.out).live.grow hb)).mono ?_
      rintro e w2 ⟨v2, rfl, hmk, hg2⟩
      exact ⟨_, rfl, grown_trans hb hg2, RZ.grown (MmGood.kept _ _ _) hg2, hmk.base hb.size⟩
    · refine duty_plain rfl fun f w1 hb H => ?_
      have e1 : f 1 = _ := H 1 (by decide)
      clear H
      have HB := Lib.hid hb; clear hb
      go_simp
      exact ⟨HB.out, RZ.refl _, rfl⟩
    · refine duty_plain rfl fun f w1 hb H => ?_
      have e9 : f 9 = _ := H 9 (by decide)
      clear H
      have k0 := (HB1.out.grow hb).cell 1
      simp only [List.getElem?_cons_zero, List.getElem?_cons_succ] at k0
      have HB := Lib.hid hb; clear hb
      go_simp
      exact ⟨HB.out, RZ.refl _, rfl⟩
    · refine duty_plain rfl fun f w1 hb H => ?_
      have e10 : f 10 = _ := H 10 (by decide)
      clear H
      go_simp
      refine (cloneL_any (fun k => F k ∧ k < W.heap.size) m.lines _ _ ((HV.out.grow HG0.out).live.grow hb)).mono ?_
      rintro e w2 ⟨v2, rfl, hmk, hg2⟩
      exact ⟨_, rfl, grown_trans hb hg2, RZ.grown (MmGood.kept _ _ _) hg2, hmk.base hb.size⟩
    · refine duty_plain rfl fun f w1 hb H => ?_
      have s8 : Mk rCell 30 W.heap.size w1 (fun k => F k ∧ k < W.heap.size) (f 8) m.cells := H 8 (by decide)
      have s11 : Mk rLn 40 W.heap.size w1 (fun k => F k ∧ k < W.heap.size) (f 11) m.lines := H 11 (by decide)
      clear H
      obtain ⟨A8, c8, e8⟩ := Mk.shape s8
      obtain ⟨A11, c11, e11⟩ := Mk.shape s11
      have S8 := Lib.hid s8; clear s8
      have S11 := Lib.hid s11; clear s11
      have HB := Lib.hid hb; clear hb
      rw [e8] at S8
      rw [e11] at S11
      go_simp
      exact ⟨HB.out, RZ.refl _, _, _, rfl, _, _, rfl, S8.out, S11.out⟩
    · refine duty_plain rfl fun f w1 hb H => ?_
      clear H
      have HB := Lib.hid hb; clear hb
      go_simp
      exact ⟨grown_alloc HB.out _, RZ.grown (MmGood.kept _ _ _) (grown_alloc (grown_refl _ _) _), SNewB.new (MmGood.kept _ _ _) HB.out.size⟩
    · refine duty_plain rfl fun f w1 hb H => ?_
      have s3 : SNewB W.heap.size 27 Zm (MmGood m W.heap.size F) (f 3) w1 := H 3 (by decide)
      have s12 : SMmAgg m W.heap.size F (f 12) w1 := H 12 (by decide)
      clear H
      obtain ⟨q, vs, e3, hq, hB, hl⟩ := SNewB.bk s3 (fun vs w h => by obtain ⟨a, b, rfl, _⟩ := h; rfl)
      obtain ⟨a, b, e12, hgd⟩ := s12
      have hsh : ∃ A c A' c' , a = .slice A m.cells.length c ∧ b = .slice A' m.lines.length c' := by
        obtain ⟨a', b', e, h1, h2⟩ := hgd
        cases e
        obtain ⟨A, c, e⟩ := h1.shape
        obtain ⟨A', c', e'⟩ := h2.shape
        exact ⟨A, c, A', c', e, e'⟩
      obtain ⟨A8, c8, A9, c9, rfl, rfl⟩ := hsh
      have f0 := hB.free 0
      have f1 := hB.free 1
      have j0 : w1.cell? ⟨q, 0, none⟩ = some (vs.getD 0 undef) := by rw [hB.cell]; match vs, hl with | [x, y], _ => rfl
      have j1 : w1.cell? ⟨q, 1, none⟩ = some (vs.getD 1 undef) := by rw [hB.cell]; match vs, hl with | [x, y], _ => rfl
      have HBB := Lib.hid hB; clear hB
      have HGD := Lib.hid hgd; clear hgd
      have HB := Lib.hid hb; clear hb
      clear s3
      go_simp
      have hput := RZ.put2 (z := Zm) (MmGood.kept m W.heap.size F) hq HBB.out hl HGD.out
      exact ⟨grown_set (grown_set HB.out (.inr hq) _) (.inr hq) _, hput.1, q, rfl, hq, hput.2⟩
  · intro f w9 hb hE
    simp only [putAll, Act.put, slotV, List.setIfInBounds_toArray, List.set_cons_succ, List.set_cons_zero]
    obtain ⟨q, e3, hq, vs, hB, a, b, rfl, hma, hmb⟩ : SPutB W.heap.size 27 (MmGood m W.heap.size F) (f 3) w9 := hE.2.2.2.2.2.2.2.2.1
    clear hE
    rw [e3]
    have hres := HB2.out.grow hb
    have hg9 := grown_trans HG0.out hb
    obtain ⟨fpc, ho1, ho2, ho3⟩ := (hma.own flatCell).done'
    have hI : CopInv m w F W.heap.size (w.heap.size + 1) q w9.heap.size a b 0 w9 := by
      obtain ⟨cs, h1, h2, h3⟩ := hmb
      refine ⟨hg9, Nat.le_refl _, hres, hB, ⟨fpc, ho1, ho2, fun x hx => ⟨(ho3 x hx).1, ?_, ho1.live x hx, ?_⟩⟩, ?_⟩
      · rintro rfl
        obtain ⟨cur, hc⟩ := (ho3 x hx).2.resolve_left (by simp)
        have e := Option.some.inj (hc.symm.trans hB)
        injection e with _ e; exact absurd e (by decide)
      · rintro c hc rfl
        obtain ⟨cur, hcc⟩ := (ho3 x hx).2.resolve_left (by simp)
        rcases h1.2 with ⟨rfl, _⟩ | ⟨g, cap, cur', rfl, hb', hgg, _⟩
        · cases hc
        · injection hc with hc
          have hc : g = x := hc
          subst hc
          have e := Option.some.inj (hcc.symm.trans hgg)
          injection e with _ e; exact absurd e (by decide)
      · rcases h1.2 with ⟨e1, e2⟩ | ⟨g, cap, cur, e1, hb', hgg, hcap, hmax, hsz, htake⟩
        · exact .inl ⟨e1, List.eq_nil_of_length_eq_zero e2⟩
        · refine .inr ⟨g, cap, [], cs, [], e1, hcap, by simpa [maxLen] using hmax, ⟨cur, hgg, hsz, by rw [List.nil_append, h1.1]; exact htake⟩, by simp [Owns], by simpa using h3.sub fun x hx => hx.1, List.nodup_nil, by simp, hb', (Array.getElem?_eq_some_iff.1 hgg).1, ?_⟩
          rintro rfl
          have e := Option.some.inj (hgg.symm.trans hB)
          injection e with _ e; exact absurd e (by decide)
    have HI := Lib.hid hI
    obtain ⟨AA, ca, rfl⟩ := hma.shape
    obtain ⟨AB, cb, rfl⟩ := hmb.shape
    have k1 := hB.cell 1
    simp only [List.getElem?_cons_zero, List.getElem?_cons_succ] at k1
    have hqs := hB.hi
    clear hI hma hmb hB hres hg9 ho1 ho2 ho3 hb
    go_wp2_with fail
    generalize hN9 : w9.heap.size = N9 at *
    generalize hae : Value.slice AA m.cells.length ca = a at *
    generalize hbe : Value.slice AB m.lines.length cb = b at *
    have Hae := Lib.hid hae
    have Hbe := Lib.hid hbe
    clear hae hbe
    go_loopw [16] (fun i wr => ∃ k : Nat, k ≤ m.lines.length ∧ i = .int .i64 k ∧ CopInv m w F W.heap.size (w.heap.size + 1) q N9 a b k wr) (fun i _ => m.lines.length - (intOf i).toNat)
    case atStart => exact ⟨0, Nat.zero_le _, rfl, HI.out⟩
    case round =>
      obtain ⟨k, hk, rfl, hinv⟩ := hrel
      have HN := Lib.hid hinv
      clear hinv HI
      by_cases hlt : k < m.lines.length
      · rcases HN.out.lines with ⟨_, e⟩ | ⟨ql, cl, c1, c2, fp, rfl, hl1, hl2, hV, hO, hR, hnd, hfp, hq1', hq2', hq3'⟩
        · rw [e] at hlt; simp at hlt
        rw [List.drop_eq_getElem_cons hlt] at hR
        have htk : m.lines.take (k + 1) = m.lines.take k ++ [m.lines[k]] := List.take_succ_eq_append_getElem hlt
        generalize m.lines[k] = x at *
        have Htk := Lib.hid htk
        clear htk
        obtain ⟨d1, d2, rfl, hx, hR2⟩ := hR
        obtain ⟨lv, rfl, hwf, hlv⟩ := ln_out hx
        have hc1 : c1.length = k * 3 := by rw [hO.len, List.length_take, Nat.min_eq_left (by omega)]; rfl
        have g0 : wr.cell? ⟨ql, k * 3, none⟩ = some (.int .i64 x.tag) := by rw [← hc1]; exact hV.mid (j := 0) rfl
        have g1 : wr.cell? ⟨ql, k * 3 + 1, none⟩ = some (.bool x.dirty) := by rw [← hc1]; exact hV.mid (j := 1) rfl
        have g2 : wr.cell? ⟨ql, k * 3 + 2, none⟩ = some lv := by rw [← hc1]; exact hV.mid (j := 2) rfl
        obtain ⟨LA, lc, rfl, hl3, hl4, hl5⟩ := hlv.size_eq
        have x2 : (0 : Int) ≤ (k : Int) := by omega
        have x3 : (k : Int) < (m.lines.length : Int) := by omega
        have x5 : (k : Int).toNat = k := by omega
        have hgA : wr.grownBy (wr.alloc (.cells #[.int .i64 x.tag, .bool x.dirty, .slice LA x.cells.length lc] 40)) none := grown_alloc (grown_refl _ _) _
        have hX5 : Bk (wr.alloc (.cells #[.int .i64 x.tag, .bool x.dirty, .slice LA x.cells.length lc] 40)) wr.heap.size 40 [.int .i64 x.tag, .bool x.dirty, .slice LA x.cells.length lc] := Bk.new
        have hs5 : (wr.alloc (.cells #[.int .i64 x.tag, .bool x.dirty, .slice LA x.cells.length lc] 40)).heap.size = wr.heap.size + 1 := by simp
        have Hs5 := Lib.hid hs5
        clear hs5
        have hsz := HN.out.size
        have hqq := HN.out.out.hi
        have HLV := Lib.hid (hlv.grow hgA)
        have HV5 := Lib.hid (hV.grow hgA)
        have HO5 := Lib.hid (hO.grow hgA)
        have HR5 := Lib.hid (hR2.grow hgA)
        have HWF := Lib.hid hwf
        have HF := Lib.hid hfp
        have HFl := Lib.hid hO.live
        have HND := Lib.hid hnd
        have Hc1 := Lib.hid hc1
        have HGA := Lib.hid hgA
        have HX5 := Lib.hid hX5
        have HQ5 := Lib.hid (HN.out.out.grow hgA)
        clear hV hO hR2 hx hlv hwf hfp hnd hc1 hgA hX5
        go_wp2_with fail
        generalize wr.alloc (.cells #[.int .i64 x.tag, .bool x.dirty, .slice LA x.cells.length lc] 40) = W5 at *
        obtain ⟨D, hD⟩ : ∃ D : World → Prop, D = fun w' => ∃ y, VBuf 40 w' ql (cl * 3) (c1 ++ (Value.int .i64 x.tag :: Value.bool x.dirty :: y :: d2)) ∧ Mk rCell 30 W5.heap.size w' (fun x => F x ∧ x < W.heap.size) y x.cells := ⟨_, rfl⟩
        have HD := Lib.hid hD
        clear hD
        refine wp_region_rely (fun w' => W5.grownBy w' (some ql) ∧ ∃ y, VBuf 40 w' ql (cl * 3) (c1 ++ (Value.int .i64 x.tag :: Value.bool x.dirty :: y :: d2))) (RD (fun b => b = ql) D)
          [SVal (.pointer (some ⟨q, 1, none⟩)), SVal (.slice (some ⟨ql, 0, none⟩) m.lines.length cl), SVal (.int .i64 k), SVal (.pointer (some ⟨wr.heap.size, 2, none⟩)), SVal (.slice LA x.cells.length lc), SMk rCell 30 W5.heap.size (fun x => F x ∧ x < W.heap.size) x.cells,
           SVal (.pointer (some ⟨ql, k * 3, none⟩)), SVal (.pointer (some ⟨ql, k * 3 + 2, none⟩)), fun _ w' => D w']
          31 (by kernel_rfl) rfl (by kernel_rfl) ⟨grown_drew (grown_refl _ _), _, HV5.out.keep rfl⟩ (fun _ => RD.refl _ _ _) ?_ ?_ ?_
        · have hsr : ∀ w w' v, RD (fun b => b = ql) D w w' → SMk rCell 30 W5.heap.size (fun x => F x ∧ x < W.heap.size) x.cells v w → SMk rCell 30 W5.heap.size (fun x => F x ∧ x < W.heap.size) x.cells v w' := fun w w' v hr h => by
            obtain ⟨cs, h1, h2, h3⟩ := h
            refine ⟨cs, ⟨h1.1, ?_⟩, h2, (Reps.keep (w' := w') (fun b hb' => hr.1.2 b hb'.2 (by have := hb'.1.1.2; omega)) h3.live).sub fun b hb' => hb'.1⟩
            rcases h1.2 with h | ⟨g, cap, cur, e1, hb, hgg, h⟩
            · exact .inl h
            · exact .inr ⟨g, cap, cur, e1, hb, by rw [hr.1.2 g (Array.getElem?_eq_some_iff.1 hgg).1 (by have := Hs5.out; omega)]; exact hgg, h⟩
          exact ⟨SVal.kept, SVal.kept, SVal.kept, SVal.kept, SVal.kept, hsr, SVal.kept, SVal.kept, fun _ _ _ hr h => hr.2 h, trivial⟩
        · have hrg : ∀ {w w' : World}, w.grownBy w' none → RD (fun b => b = ql) D w w' := fun {w w'} hg => ⟨RK.grown0 hg, fun h => by
            rw [HD.out] at h ⊢
            obtain ⟨y, h1, h2⟩ := h
            exact ⟨y, h1.grow hg, h2.grow hg⟩⟩
          refine duties_cons ?_ (duties_cons ?_ (duties_cons ?_ (duties_cons ?_ (duties_cons ?_ (duties_cons ?_ (duties_cons ?_ (duties_cons ?_ (duties_cons ?_ duties_nil))))))))
          · refine duty_plain rfl fun f w1 hb H => ?_
            have e3 : f 3 = _ := H 3 (by decide)
            clear H
            have HB := Lib.hid hb; clear hb
            go_simp
            exact ⟨HB.out, RD.refl _ _ _, rfl⟩
          · refine duty_plain rfl fun f w1 hb H => ?_
            have e21 : f 21 = _ := H 21 (by decide)
            clear H
            have k1 := (HQ5.out.keep (hb.1.block _ HQ5.out.hi fun e => by injection e with e; omega)).cell 1
            simp only [List.getElem?_cons_zero, List.getElem?_cons_succ] at k1
            have HB := Lib.hid hb; clear hb
            go_simp
            exact ⟨HB.out, RD.refl _ _ _, rfl⟩
          · refine duty_plain rfl fun f w1 hb H => ?_
            have e4 : f 4 = _ := H 4 (by decide)
            clear H
            have HB := Lib.hid hb; clear hb
            go_simp
            exact ⟨HB.out, RD.refl _ _ _, rfl⟩
          · refine duty_plain rfl fun f w1 hb H => ?_
            have e5 : f 5 = _ := H 5 (by decide)
            clear H
            have HB := Lib.hid hb; clear hb
            go_simp
            exact ⟨HB.out, RD.refl _ _ _, rfl⟩
          · refine duty_plain rfl fun f w1 hb H => ?_
            have e24 : f 24 = _ := H 24 (by decide)
            clear H
            have k2 := (HX5.out.keep (hb.1.block _ HX5.out.hi fun e => by injection e with e; omega)).cell 2
            simp only [List.getElem?_cons_zero, List.getElem?_cons_succ] at k2
            have HB := Lib.hid hb; clear hb
            go_simp
            exact ⟨HB.out, RD.refl _ _ _, rfl⟩
          · refine duty_plain rfl fun f w1 hb H => ?_
            have e25 : f 25 = _ := H 25 (by decide)
            clear H
            have hl := HLV.out.live.keep (w' := w1) fun b hb' => hb.1.block b hb'.2 fun e => by injection e with e; have := hb'.1.2; omega
            have HLL := Lib.hid (hl.sub fun b hb' => hb'.1)
            clear hl
            go_simp
            refine (cloneC_any (fun x => F x ∧ x < W.heap.size) x.cells _ _ HLL.out).mono ?_
            rintro e w2 ⟨v2, rfl, hmk, hg2⟩
            obtain ⟨hb1, y, hy⟩ := hb
            exact ⟨_, rfl, ⟨grown_trans hb1 (grown_any hg2), y, hy.grow hg2⟩, hrg hg2, hmk.base hb1.size⟩
          · refine duty_plain rfl fun f w1 hb H => ?_
            have e22 : f 22 = _ := H 22 (by decide)
            have e23 : f 23 = _ := H 23 (by decide)
            clear H
            have HB := Lib.hid hb; clear hb
            go_simp
            exact ⟨HB.out, RD.refl _ _ _, rfl⟩
          · refine duty_plain rfl fun f w1 hb H => ?_
            have e27 : f 27 = _ := H 27 (by decide)
            clear H
            have HB := Lib.hid hb; clear hb
            go_simp
            exact ⟨HB.out, RD.refl _ _ _, rfl⟩
          · refine duty_plain rfl fun f w1 hb H => ?_
            have s26 : Mk rCell 30 W5.heap.size w1 (fun x => F x ∧ x < W.heap.size) (f 26) x.cells := H 26 (by decide)
            have e28 : f 28 = _ := H 28 (by decide)
            clear H
            obtain ⟨hb1, y, hy⟩ := hb
            obtain ⟨A6, c6, e26⟩ := s26.shape
            rw [e26] at s26
            have f2 := hy.free (k * 3 + 2)
            have k2 : w1.cell? ⟨ql, k * 3 + 2, none⟩ = some y := by rw [← Hc1.out]; exact hy.mid (j := 2) rfl
            have HS := Lib.hid s26
            have HB := Lib.hid hb1
            have HY := Lib.hid hy
            clear s26 hb1 hy
            go_simp
            have hv := HY.out.setmid (j := 2) (by simp) (.slice A6 x.cells.length c6)
            rw [Hc1.out] at hv
            have hm := HS.out.setBelow (p := ⟨ql, k * 3 + 2, none⟩) (by have := Hs5.out; dsimp only; omega) (fun h => by have := h.2; dsimp only at this; omega) (.slice A6 x.cells.length c6)
            exact ⟨⟨grown_set HB.out (.inl rfl) _, _, hv⟩, ⟨RK.set (X := fun b => b = ql) (p := ⟨ql, k * 3 + 2, none⟩) (RK.refl _ _) rfl _, fun _ => by rw [HD.out]; exact ⟨_, hv, hm⟩⟩, by rw [HD.out]; exact ⟨_, hv, hm⟩⟩
        · intro f w6 hb hE
          simp only [putAll, Act.put, slotV, List.setIfInBounds_toArray, List.set_cons_succ, List.set_cons_zero]
          have hD6 : D w6 := hE.2.2.2.2.2.2.2.2.1
          clear hE
          rw [HD.out] at hD6
          obtain ⟨y, hV6, hmk6⟩ := hD6
          obtain ⟨gp, ho1, ho2, ho3⟩ := (hmk6.own flatCell).done'
          have hsame : ∀ b, b < wr.heap.size → b ≠ ql → w6.heap[b]? = wr.heap[b]? := fun b h1 h2 => (hb.1.block b (by have := Hs5.out; omega) (fun e => by injection e with e; exact h2 e)).trans (HGA.out.block b h1 (by simp))
          have hgw : wr.grownBy w6 (some ql) := grown_trans (grown_any HGA.out) hb.1
          have hO6 := HO5.out.keep fun b h1 => hb.1.block b (HO5.out.live b h1) (fun e => by injection e with e; have := HF.out b h1; omega)
          have hR6 : Reps rLn w6 (fun x => F x ∧ x < W.heap.size) (m.lines.drop (k + 1)) d2 := (Reps.keep (w' := w6) (fun b h1 => hb.1.block b h1.2 (fun e => by injection e with e; have := h1.1.2; omega)) HR5.out.live).sub fun b h1 => h1.1
          have hI : CopInv m w F W.heap.size (w.heap.size + 1) q N9 a (.slice (some ⟨ql, 0, none⟩) m.lines.length cl) (k + 1) w6 := by
            refine ⟨grown_own HN.out.grown hgw fun e h => by injection h with h; omega, by have := hgw.size; omega, HN.out.res.keep (hsame _ HN.out.res.hi (by omega)), HN.out.out.keep (hsame _ HN.out.out.hi (by omega)), ?_, ?_⟩
            · obtain ⟨fpc, h1, h2, h3⟩ := HN.out.cells
              exact ⟨fpc, h1.keep fun b hb => hsame b (h1.live b hb) ((h3 b hb).2.2.2 ql rfl), h2, h3⟩
            · refine .inr ⟨ql, cl, c1 ++ [.int .i64 x.tag, .bool x.dirty, y], d2, fp ++ gp, rfl, hl1, hl2, by simpa using hV6, ?_, hR6, ?_, ?_, hq1', hq2', hq3'⟩
              · rw [Htk.out]
                exact hO6.append (Owns.single (ln_own HWF.out ho1))
              · exact List.nodup_append.2 ⟨HND.out, ho2, fun b h1 c h2 e => by have := HFl.out b h1; have := (ho3 c h2).1; have := Hs5.out; omega⟩
              · intro b hb'
                rcases List.mem_append.1 hb' with h1 | h1
                · exact HF.out b h1
                · have := (ho3 b h1).1; have := Hs5.out; omega
          have HII := Lib.hid hI
          clear hI hR6 hO6 hgw hsame ho1 ho2 ho3 hmk6 hV6 hb
          go_wp2_with fail
          go_roundw
          case rel => exact ⟨k + 1, by omega, by go_num, HII.out⟩
          case measure => simp [intOf]; omega
      · have hkl : k = m.lines.length := by omega
        subst hkl
        have j0 := HN.out.out.cell 0
        have j1 := HN.out.out.cell 1
        have r2 := HN.out.res.hi
        have r0 := HN.out.res.cell 0
        have r1 := HN.out.res.cell 1
        have f0 := HN.out.res.free 0
        have f1 := HN.out.res.free 1
        simp only [List.getElem?_cons_zero, List.getElem?_cons_succ] at j0 j1 r0 r1
        have ea := Hae.out
        have eb := Hbe.out
        subst ea
        subst eb
        go_wp2_with fail
        refine bodyPost_ret (v := .agg #[.slice AA m.cells.length ca, .slice AB m.lines.length cb]) (by simp [results, Try.results29, go_sem, r0, r1, r2]) rfl ?_
        obtain ⟨fc, h1, h2, h3⟩ := HN.out.cells
        have hset : ∀ b, b ≠ w.heap.size + 1 → ((wr.setCell ⟨w.heap.size + 1, 0, none⟩ (.slice AA m.cells.length ca)).setCell ⟨w.heap.size + 1, 1, none⟩ (.slice AB m.lines.length cb)).heap[b]? = wr.heap[b]? := fun b hb => by
          rw [heap_setCell_other _ _ _ _ hb, heap_setCell_other _ _ _ _ hb]
        have hgr := grown_set (p := ⟨w.heap.size + 1, 1, none⟩) (grown_set (p := ⟨w.heap.size + 1, 0, none⟩) HN.out.grown (.inr (Nat.le_succ _)) (.slice AA m.cells.length ca)) (.inr (Nat.le_succ _)) (.slice AB m.lines.length cb)
        rcases HN.out.lines with ⟨e1, e2⟩ | ⟨ql, cl, c1, c2, fp, e1, hl1, hl2, hV, hO, hR, hnd, hfp, hq1', hq2', hq3'⟩
        · refine ⟨[_, _], fc ++ [], rfl, mm_own (h1.keep fun b hb => hset b (by have := h3 b hb; omega)) ⟨hlm, .inl ⟨e1, e2, rfl⟩⟩, by simpa using h2, fun b hb => by have := h3 b (by simpa using hb); omega, hgr⟩
        · rw [List.take_of_length_le (Nat.le_refl _)] at hO
          rw [List.drop_of_length_le (Nat.le_refl _)] at hR
          have hc2 : c2 = [] := hR
          subst hc2
          rw [List.append_nil] at hV
          refine ⟨[_, _], fc ++ (ql :: fp), rfl, mm_own (h1.keep fun b hb => hset b (by have := h3 b hb; omega)) ⟨hlm, .inr ⟨ql, cl, c1, fp, e1, rfl, hl1, hl2, hV.keep (hset ql (by omega)), hO.keep fun b hb => hset b (by have := hfp b hb; omega)⟩⟩, ?_, ?_, hgr⟩
          · refine List.nodup_append.2 ⟨h2, List.nodup_cons.2 ⟨fun hm => by have := hfp ql hm; omega, hnd⟩, fun b hb c hc e => ?_⟩
            have h4 := h3 b hb
            rcases List.mem_cons.1 hc with h5 | h5
            · exact h4.2.2.2 ql (by rw [e1]; rfl) (e.trans h5)
            · have := hfp c h5; omega
          · intro b hb
            rcases List.mem_append.1 hb with hb | hb
            · have := h3 b hb; omega
            · rcases List.mem_cons.1 hb with rfl | hb
              · omega
              · have := hfp b hb; omega

end Go.Proofs.Ytndmcnddgcifiaa
