/- Empty lines, a memory at the beginning; no condition. -/
import Derived.Test.YtndmcnddgcifiaaMemO
import Derived.Test.YtndmcnddgcifiaaRelyS
import Derived.Laws.MakeOwn
set_option linter.unusedVariables false
set_option linter.unusedSimpArgs false
namespace Go.Proofs.Ytndmcnddgcifiaa
open Go.RowKit

def emC : Nat → List Value
  | 0 => [.int .i64 0, .bool false, .slice none 0 0, .int .i64 0, .bool false, .slice none 0 0, .int .i64 0, .bool false, .slice none 0 0, .int .i64 0, .bool false, .slice none 0 0]
  | 1 => [.int .i64 (-1), .bool false, .slice none 0 0, .int .i64 0, .bool false, .slice none 0 0, .int .i64 0, .bool false, .slice none 0 0, .int .i64 0, .bool false, .slice none 0 0]
  | 2 => [.int .i64 (-1), .bool false, .slice none 0 0, .int .i64 (-1), .bool false, .slice none 0 0, .int .i64 0, .bool false, .slice none 0 0, .int .i64 0, .bool false, .slice none 0 0]
  | 3 => [.int .i64 (-1), .bool false, .slice none 0 0, .int .i64 (-1), .bool false, .slice none 0 0, .int .i64 (-1), .bool false, .slice none 0 0, .int .i64 0, .bool false, .slice none 0 0]
  | _ => [.int .i64 (-1), .bool false, .slice none 0 0, .int .i64 (-1), .bool false, .slice none 0 0, .int .i64 (-1), .bool false, .slice none 0 0, .int .i64 (-1), .bool false, .slice none 0 0]
def EmptyRet (w : World) (e : Ending) (w' : World) : Prop :=
  ∃ q, e = .returned (.slice (some ⟨q, 0, none⟩) 4 4) ∧ OSl rLn 40 w' [q] (List.replicate 4 noLn) (.slice (some ⟨q, 0, none⟩) 4 4) ∧ w.heap.size ≤ q ∧ Bk w' q 40 (emC 4) ∧ w.grownBy w' none
theorem own_noLn (w : World) : rLn.own w [] noLn [.int .i64 (-1), .bool false, .slice none 0 0] := ln_own (x := noLn) (by decide) ⟨by simp [noLn], .inl ⟨rfl, rfl, rfl⟩⟩
theorem own_empty {w : World} {q : Nat} (h : Bk w q 40 (emC 4)) : OSl rLn 40 w [q] (List.replicate 4 noLn) (.slice (some ⟨q, 0, none⟩) 4 4) := by
  refine ⟨by simp, .inr ⟨q, 4, emC 4, [], rfl, rfl, by simp, by omega, ⟨_, h, rfl, rfl⟩, ?_⟩⟩
  have h1 := own_noLn w
  exact ⟨_, _, [], [], rfl, rfl, h1, _, _, [], [], rfl, rfl, h1, _, _, [], [], rfl, rfl, h1, _, _, [], [], rfl, rfl, h1, rfl, rfl⟩
theorem run_make_sl {P : Program} {t e : TypeId} {size bytes : Nat} (T : SlT P t e size bytes) (z : Value) (hz' : ∀ i, P.info? e = some i → i.zero = some z) (w : World) (n : Nat) (hb : bytes ≤ 128) (hn : n ≤ 1099511627776) :
    (Instr.makeSlice t (.int .i64 n) (.int .i64 n)).run P w = .ok (.slice (some ⟨w.heap.size, 0, none⟩) n n) (w.alloc (.cells (madeCells z.cells (n * size)) e)) := by
  obtain ⟨i, z', hi, hz, hsize, hby, hzs⟩ := T.info
  have := run_make (P := P) w t e i z T.under hi (hz' i hi) .i64 .i64 n n (by omega) (by omega) (by
    rw [hby]
    have h1 : (bytes : Int) ≤ 128 := by omega
    have h2 : (bytes : Int) * n ≤ 128 * 1099511627776 := Int.mul_le_mul h1 (by omega) (by omega) (by omega)
    omega) (by omega)
  rw [hsize] at this
  simpa using this
theorem madeCells_two (a b : Value) (n : Nat) : (madeCells #[a, b] (n * 2)).toList = (List.replicate n [a, b]).flatten := by
  induction n with
  | zero => simp [madeCells]
  | succ n ih =>
    rw [List.replicate_succ', List.flatten_append, ← ih, Nat.succ_mul]
    simp [madeCells, Array.toList_range, List.range_succ]
set_option maxHeartbeats 1000000 in
theorem ref04_Empty_any (w : World) : Calls Try.prog 36 #[] w (EmptyRet w) := by
  have hmk : ∀ w : World, (Instr.makeSlice 25 (.int .i64 4) (.int .i64 4)).run Try.prog w = .ok (.slice (some ⟨w.heap.size, 0, none⟩) 4 4) (w.alloc (.cells (emC 0).toArray 40)) := fun w => by
    have hmc : madeCells (Value.agg #[.int .i64 0, .bool false, .slice none 0 0]).cells (4 * rLn.size) = (emC 0).toArray := by kernel_rfl
    have := run_make_sl slLine (.agg #[.int .i64 0, .bool false, .slice none 0 0]) (fun i hi => by
      have h : (Try.prog.info? 40).map (·.zero) = some (some (.agg #[.int .i64 0, .bool false, .slice none 0 0])) := by kernel_rfl
      rw [hi] at h; simpa using h) w 4 (by decide) (by decide)
    rw [hmc] at this
    exact this
  go_enter Try.func36, Try.ntmps36
  go_wp2_with fail
  clear hmk
  have hb : Bk (w.alloc (.cells (emC 0).toArray 40)) w.heap.size 40 (emC 0) := Bk.new
  have HG := Lib.hid (grown_alloc (grown_refl w none) (.cells (emC 0).toArray 40))
  have HB := Lib.hid hb
  clear hb
  go_loopw [6] (fun i wr => ∃ k : Nat, k ≤ 4 ∧ i = .int .i64 k ∧ w.grownBy wr none ∧ Bk wr w.heap.size 40 (emC k)) (fun i _ => 4 - (intOf i).toNat)
  case atStart => exact ⟨0, by omega, rfl, HG.out, HB.out⟩
  case round =>
    obtain ⟨k, hk, rfl, hg, hb⟩ := hrel
    have f0 := hb.free (k * 3)
    have HGr := Lib.hid hg
    have HBr := Lib.hid hb
    have c0 := hb.cell (k * 3)
    clear hg hb
    by_cases hlt : k < 4
    · have x2 : (0 : Int) ≤ (k : Int) := by omega
      have x3 : (k : Int) < 4 := by omega
      have x5 : (k : Int).toNat = k := by omega
      obtain ⟨u, hu⟩ : ∃ u, (emC k)[k * 3]? = some u := by
        have : k = 0 ∨ k = 1 ∨ k = 2 ∨ k = 3 := by omega
        rcases this with rfl | rfl | rfl | rfl <;> exact ⟨_, rfl⟩
      rw [hu] at c0
      clear hu
      have hs : (emC k).set (k * 3) (.int .i64 (-1)) = emC (k + 1) := by
        have : k = 0 ∨ k = 1 ∨ k = 2 ∨ k = 3 := by omega
        rcases this with rfl | rfl | rfl | rfl <;> rfl
      have Hs := Lib.hid hs
      clear hs
      go_wp2_with fail
      go_roundw
      case rel => exact ⟨k + 1, by omega, by go_num, grown_set HGr.out (.inr (Nat.le_refl _)) _, by rw [← Hs.out]; exact HBr.out.set _ _⟩
      case measure => simp [intOf]; omega
    · have hk4 : k = 4 := by omega
      subst hk4
      go_wp2_with fail
      go_ret
      exact ⟨_, rfl, own_empty HBr.out, Nat.le_refl _, HBr.out, HGr.out⟩
set_option maxHeartbeats 1000000 in
theorem memory_Empty_any (w : World) : Calls Try.prog 38 #[] w (EmptyRet w) := by
  have hmk : ∀ w : World, (Instr.makeSlice 25 (.int .i64 4) (.int .i64 4)).run Try.prog w = .ok (.slice (some ⟨w.heap.size, 0, none⟩) 4 4) (w.alloc (.cells (emC 0).toArray 40)) := fun w => by
    have hmc : madeCells (Value.agg #[.int .i64 0, .bool false, .slice none 0 0]).cells (4 * rLn.size) = (emC 0).toArray := by kernel_rfl
    have := run_make_sl slLine (.agg #[.int .i64 0, .bool false, .slice none 0 0]) (fun i hi => by
      have h : (Try.prog.info? 40).map (·.zero) = some (some (.agg #[.int .i64 0, .bool false, .slice none 0 0])) := by kernel_rfl
      rw [hi] at h; simpa using h) w 4 (by decide) (by decide)
    rw [hmc] at this
    exact this
  go_enter Try.func38, Try.ntmps38
  go_wp2_with fail
  clear hmk
  have hb : Bk (w.alloc (.cells (emC 0).toArray 40)) w.heap.size 40 (emC 0) := Bk.new
  have HG := Lib.hid (grown_alloc (grown_refl w none) (.cells (emC 0).toArray 40))
  have HB := Lib.hid hb
  clear hb
  go_loopw [6] (fun i wr => ∃ k : Nat, k ≤ 4 ∧ i = .int .i64 k ∧ w.grownBy wr none ∧ Bk wr w.heap.size 40 (emC k)) (fun i _ => 4 - (intOf i).toNat)
  case atStart => exact ⟨0, by omega, rfl, HG.out, HB.out⟩
  case round =>
    obtain ⟨k, hk, rfl, hg, hb⟩ := hrel
    have f0 := hb.free (k * 3)
    have HGr := Lib.hid hg
    have HBr := Lib.hid hb
    have c0 := hb.cell (k * 3)
    clear hg hb
    by_cases hlt : k < 4
    · have x2 : (0 : Int) ≤ (k : Int) := by omega
      have x3 : (k : Int) < 4 := by omega
      have x5 : (k : Int).toNat = k := by omega
      obtain ⟨u, hu⟩ : ∃ u, (emC k)[k * 3]? = some u := by
        have : k = 0 ∨ k = 1 ∨ k = 2 ∨ k = 3 := by omega
        rcases this with rfl | rfl | rfl | rfl <;> exact ⟨_, rfl⟩
      rw [hu] at c0
      clear hu
      have hs : (emC k).set (k * 3) (.int .i64 (-1)) = emC (k + 1) := by
        have : k = 0 ∨ k = 1 ∨ k = 2 ∨ k = 3 := by omega
        rcases this with rfl | rfl | rfl | rfl <;> rfl
      have Hs := Lib.hid hs
      clear hs
      go_wp2_with fail
      go_roundw
      case rel => exact ⟨k + 1, by omega, by go_num, grown_set HGr.out (.inr (Nat.le_refl _)) _, by rw [← Hs.out]; exact HBr.out.set _ _⟩
      case measure => simp [intOf]; omega
    · have hk4 : k = 4 := by omega
      subst hk4
      go_wp2_with fail
      go_ret
      exact ⟨_, rfl, own_empty HBr.out, Nat.le_refl _, HBr.out, HGr.out⟩

def freshM : Mm := ⟨List.replicate 512 (0, 0), List.replicate 4 noLn⟩
theorem celsV_zero (n : Nat) : celsV (List.replicate n (0, 0)) = (List.replicate n [.int .u8 0, .int .u16 0]).flatten := by
  induction n with
  | zero => rfl
  | succ n ih => rw [List.replicate_succ, List.replicate_succ, List.flatten_cons, ← ih]; rfl
theorem made_cells (w : World) : (Instr.makeSlice 24 (.int .i64 512) (.int .i64 512)).run Try.prog w = .ok (.slice (some ⟨w.heap.size, 0, none⟩) 512 512) (w.alloc (.cells (celsV freshM.cells).toArray 30)) := by
  have hmc : madeCells (Value.agg #[.int .u8 0, .int .u16 0]).cells (512 * rCell.size) = (celsV freshM.cells).toArray := by
    have h := madeCells_two (.int .u8 0) (.int .u16 0) 512
    rw [← celsV_zero] at h
    rw [show freshM.cells = List.replicate 512 (0, 0) from rfl, ← h]
    exact (Array.toArray_toList).symm
  have := run_make_sl slCell (.agg #[.int .u8 0, .int .u16 0]) (fun i hi => by
      have h : (Try.prog.info? 30).map (·.zero) = some (some (.agg #[.int .u8 0, .int .u16 0])) := by kernel_rfl
      rw [hi] at h; simpa using h) w 512 (by decide) (by decide)
  rw [hmc] at this
  exact this

def Zm0 : List Value := [.slice none 0 0, .slice none 0 0]
def FrGood (N : Nat) (vs : List Value) (w : World) : Prop := ∃ q1 q2, vs = [.slice (some ⟨q1, 0, none⟩) 512 512, .slice (some ⟨q2, 0, none⟩) 4 4] ∧ N ≤ q1 ∧ N ≤ q2 ∧ Bk w q1 30 (celsV freshM.cells) ∧ Bk w q2 40 (emC 4)
theorem Bk.stays {w w' : World} {q t e : Nat} {vs : List Value} {N : Nat} (h : Bk w q e vs) (hne : e ≠ t) (hr : ∀ k, k < w.heap.size → (k < N ∨ ∀ cs, w.heap[k]? ≠ some (.cells cs t (0, 0))) → w'.heap[k]? = w.heap[k]?) : Bk w' q e vs :=
  h.keep (hr q h.hi (.inr fun cs hc => by
    have e := Option.some.inj (Eq.trans h.symm hc)
    injection e with _ e; exact hne e))
theorem FrGood.kept (N : Nat) : GoodK 27 N (FrGood N) := fun vs w w' _ hk ⟨q1, q2, e, h1, h2, h3, h4⟩ => ⟨q1, q2, e, h1, h2, h3.stays (by decide) hk, h4.stays (by decide) hk⟩
theorem freshM_wf : ∀ c ∈ freshM.cells, CelWf c := by
  intro c hc
  have : c = (0, 0) := List.eq_of_mem_replicate hc
  subst this
  exact ⟨by decide, by decide⟩
set_option maxRecDepth 100000 in
set_option maxHeartbeats 1000000 in
theorem fresh_any (w : World) : Calls Try.prog 17 #[] w (OwnRet rMm freshM w) := by
  go_enter Try.func17, Try.ntmps17
  go_wp2_with fail
  have hz : (w.alloc (.cells #[.slice none 0 0, .slice none 0 0] 27)).heap.size = w.heap.size + 1 := by simp
  have hb : Bk (w.alloc (.cells #[.slice none 0 0, .slice none 0 0] 27)) w.heap.size 27 Zm0 := Bk.new
  have hg : w.grownBy (w.alloc (.cells #[.slice none 0 0, .slice none 0 0] 27)) none := grown_alloc (grown_refl _ _) _
  generalize w.alloc (.cells #[.slice none 0 0, .slice none 0 0] 27) = W at *
  have HB := Lib.hid hb
  have HG := Lib.hid hg
  have HZ := Lib.hid hz
  clear hb hg hz
  refine wp_region_rely (fun w' => w.grownBy w' none ∧ SNewB w.heap.size 27 Zm0 (FrGood w.heap.size) (.pointer (some ⟨w.heap.size, 0, none⟩)) w') (RZ w.heap.size 27 Zm0 (FrGood w.heap.size))
    [fun v w' => ∃ q, v = .slice (some ⟨q, 0, none⟩) 512 512 ∧ w.heap.size ≤ q ∧ Bk w' q 30 (celsV freshM.cells), fun v w' => ∃ q, v = .slice (some ⟨q, 0, none⟩) 4 4 ∧ w.heap.size ≤ q ∧ Bk w' q 40 (emC 4),
     fun v w' => ∃ a b, v = .agg #[a, b] ∧ FrGood w.heap.size [a, b] w', fun _ w' => GoodB 27 (FrGood w.heap.size) w.heap.size w']
    4 (by kernel_rfl) rfl (by kernel_rfl) ⟨grown_drew HG.out, _, rfl, Nat.le_refl _, .inl HB.out.drew⟩ (fun _ => RZ.refl _) ?_ ?_ ?_
  · exact ⟨fun w w' v hr ⟨q, e, h1, h2⟩ => ⟨q, e, h1, h2.stays (by decide) hr.2.1⟩, fun w w' v hr ⟨q, e, h1, h2⟩ => ⟨q, e, h1, h2.stays (by decide) hr.2.1⟩, fun w w' v hr ⟨a, b, e, h⟩ => ⟨a, b, e, FrGood.kept _ _ _ _ hr.1 hr.2.1 h⟩, fun w1 w' _ hr h => hr.2.2.2 _ (Nat.le_refl _) h, trivial⟩
  · refine duties_cons ?_ (duties_cons ?_ (duties_cons ?_ (duties_cons ?_ duties_nil)))
    · refine duty_plain rfl fun f w1 hb H => ?_
      clear H
      have hr := made_cells w1
      have hgr : w1.grownBy (w1.alloc (.cells (celsV freshM.cells).toArray 30)) none := grown_alloc (grown_refl _ _) _
      have hR := RZ.grown (z := Zm0) (FrGood.kept w.heap.size) hgr
      simp only [execOp, evalW, Sem.run_bind, Sem.run_pure, Result.andThen_ok, hr, relyUpon]
      exact ⟨⟨grown_trans hb.1 hgr, SNewB.kept _ _ _ hR hb.2⟩, hR, w1.heap.size, rfl, hb.1.size, Bk.new⟩
    · refine duty_plain rfl fun f w1 hb H => ?_
      clear H
      go_simp
      refine (ref04_Empty_any _).mono ?_
      rintro e w2 ⟨q, rfl, _, h2, h3, h4⟩
      have hR := RZ.grown (z := Zm0) (FrGood.kept w.heap.size) h4
      exact ⟨_, rfl, ⟨grown_trans hb.1 h4, SNewB.kept _ _ _ hR hb.2⟩, hR, q, rfl, Nat.le_trans hb.1.size h2, h3⟩
    · refine duty_plain rfl fun f w1 hb H => ?_
      obtain ⟨q1, e1, h1, h2⟩ : ∃ q, f 1 = .slice (some ⟨q, 0, none⟩) 512 512 ∧ w.heap.size ≤ q ∧ Bk w1 q 30 (celsV freshM.cells) := H 1 (by decide)
      obtain ⟨q2, e2, h3, h4⟩ : ∃ q, f 2 = .slice (some ⟨q, 0, none⟩) 4 4 ∧ w.heap.size ≤ q ∧ Bk w1 q 40 (emC 4) := H 2 (by decide)
      clear H
      have HBB := Lib.hid hb; clear hb
      have H2 := Lib.hid h2
      have H4 := Lib.hid h4
      clear h2 h4
      go_simp
      exact ⟨HBB.out, RZ.refl _, _, _, rfl, q1, q2, rfl, h1, h3, H2.out, H4.out⟩
    · refine duty_plain rfl fun f w1 hb H => ?_
      have e0 : f 0 = .pointer (some ⟨w.heap.size, 0, none⟩) := H 0 (by decide)
      obtain ⟨a, b, e3, hg3⟩ : ∃ a b, f 3 = .agg #[a, b] ∧ FrGood w.heap.size [a, b] w1 := H 3 (by decide)
      clear H
      obtain ⟨q, vs, e, hq, hB, hl⟩ := SNewB.bk hb.2 (fun vs w h => by obtain ⟨_, _, rfl, _⟩ := h; rfl)
      injection e with e; injection e with e; injection e with e
      subst e
      have hsh : ∃ A n c A' n' c' , a = .slice A n c ∧ b = .slice A' n' c' := by
        obtain ⟨q1, q2, e, _⟩ := hg3
        cases e
        exact ⟨_, _, _, _, _, _, rfl, rfl⟩
      obtain ⟨A8, n8, c8, A9, n9, c9, rfl, rfl⟩ := hsh
      have f0 := hB.free 0
      have f1 := hB.free 1
      have j0 : w1.cell? ⟨w.heap.size, 0, none⟩ = some (vs.getD 0 undef) := by rw [hB.cell]; match vs, hl with | [x, y], _ => rfl
      have j1 : w1.cell? ⟨w.heap.size, 1, none⟩ = some (vs.getD 1 undef) := by rw [hB.cell]; match vs, hl with | [x, y], _ => rfl
      have hput := RZ.put2 (z := Zm0) (FrGood.kept w.heap.size) (Nat.le_refl _) hB hl hg3
      have HP := Lib.hid hput
      have HBB := Lib.hid hb
      clear hput hb hB hg3
      go_simp
      exact ⟨⟨grown_set (grown_set HBB.out.1 (.inr (Nat.le_refl _)) _) (.inr (Nat.le_refl _)) _, _, rfl, Nat.le_refl _, .inr HP.out.2⟩, HP.out.1, HP.out.2⟩
  · intro f w9 hb hE
    simp only [putAll, Act.put, slotV, List.setIfInBounds_toArray, List.set_cons_succ, List.set_cons_zero]
    obtain ⟨vs, hB, q1, q2, rfl, h1, h2, h3, h4⟩ : GoodB 27 (FrGood w.heap.size) w.heap.size w9 := hE.2.2.2.1
    clear hE
    have r0 := hB.cell 0
    have r1 := hB.cell 1
    simp only [List.getElem?_cons_zero, List.getElem?_cons_succ] at r0 r1
    have hne : q1 ≠ q2 := by
      rintro rfl
      have e := Option.some.inj (Eq.trans h3.symm h4)
      injection e with _ e; exact absurd e (by decide)
    go_wp2_with fail
    refine bodyPost_ret (v := .agg #[.slice (some ⟨q1, 0, none⟩) 512 512, .slice (some ⟨q2, 0, none⟩) 4 4]) (by simp [results, Try.results17, go_sem, r0, r1]) rfl ?_
    refine ⟨[_, _], [q1] ++ [q2], rfl, mm_own (m := freshM) ⟨by simp [freshM], .inr ⟨q1, 512, _, [], by simp [freshM], rfl, by simp [freshM], by omega, ⟨_, h3, by simp [freshM, celsV_len, rCell, rPair, rInt], by simp⟩, cells_own _ freshM_wf⟩⟩ (own_empty h4), by simp [hne], ?_, hb.1⟩
    intro k hk
    simp only [List.mem_append, List.mem_singleton] at hk
    rcases hk with rfl | rfl
    · exact h1
    · exact h2

end Go.Proofs.Ytndmcnddgcifiaa
