/- A line fetched in place: the reference; no condition. -/
import Derived.Test.YtndmcnddgcifiaaMemO
import Derived.Test.YtndmcnddgcifiaaRpA
import Derived.StillTailTactics
import Derived.Outline
import Derived.IntWalk
import Derived.Deep.DeepCutAuto
import Derived.Deep.CutBlock
set_option linter.unusedVariables false
set_option linter.unusedSimpArgs false
namespace Go.Proofs.Ytndmcnddgcifiaa
open Go.RowKit

/-- w' is w outside of X, and what is new. -/
structure Turns (X : Nat → Prop) (w w' : World) : Prop where
  os : w'.os = w.os
  tape : w'.tape = w.tape
  output : w'.output = w.output
  size : w.heap.size ≤ w'.heap.size
  block : ∀ k, k < w.heap.size → ¬ X k → w'.heap[k]? = w.heap[k]?
theorem Turns.refl (X : Nat → Prop) (w : World) : Turns X w w := ⟨rfl, rfl, rfl, Nat.le_refl _, fun _ _ _ => rfl⟩
theorem Turns.of_grown {X : Nat → Prop} {w w' : World} (h : w.grownBy w' none) : Turns X w w' := ⟨h.os, h.tape, h.output, h.size, fun k hk _ => h.block k hk (by simp)⟩
theorem Turns.trans {X : Nat → Prop} {a b c : World} (h : Turns X a b) (h' : Turns X b c) : Turns X a c :=
  ⟨h'.os.trans h.os, h'.tape.trans h.tape, h'.output.trans h.output, Nat.le_trans h.size h'.size, fun k hk hx => (h'.block k (Nat.lt_of_lt_of_le hk h.size) hx).trans (h.block k hk hx)⟩
theorem Turns.sub {X Y : Nat → Prop} {a b : World} (h : Turns X a b) (hs : ∀ k, X k → Y k) : Turns Y a b := ⟨h.os, h.tape, h.output, h.size, fun k hk hy => h.block k hk fun hx => hy (hs k hx)⟩
theorem Turns.set {X : Nat → Prop} {a b : World} (h : Turns X a b) {p : Addr} (hp : X p.block ∨ a.heap.size ≤ p.block) (u : Value) : Turns X a (b.setCell p u) :=
  ⟨h.os, h.tape, h.output, by simpa [World.setCell] using h.size, fun k hk hx => (Below.heap_setCell b p u k (by
    rintro rfl
    rcases hp with hp | hp
    · exact hx hp
    · omega)).trans (h.block k hk hx)⟩
theorem Turns.drew {X : Nat → Prop} {a b : World} (h : Turns X a b) : Turns X a b.drew := ⟨h.os, h.tape, h.output, h.size, h.block⟩
theorem Turns.row {X : Nat → Prop} {a b : World} (h : Turns X a b) {q : Nat} (hq : X q) (cs : Array Value) : Turns X a (b.setRow q cs) := by
  refine ⟨h.os, h.tape, h.output, ?_, fun k hk hx => ?_⟩
  · have := h.size; simpa [World.setRow] using this
  · rw [setRow_other b q k cs (by rintro rfl; exact hx hq)]; exact h.block k hk hx
theorem Turns.own {X : Nat → Prop} {a b c : World} (h : a.grownBy b none) (h' : Turns X b c) (hX : ∀ k, X k → a.heap.size ≤ k) : a.grownBy c none :=
  ⟨h'.os.trans h.os, h'.tape.trans h.tape, h'.output.trans h.output, Nat.le_trans h.size h'.size, fun k hk _ => (h'.block k (Nat.lt_of_lt_of_le hk h.size) (fun hx => by have := hX k hx; omega)).trans (h.block k hk (by simp))⟩

section
variable {P : Program} {ops : Array Oper} {rest : List Oper} {o : Oper} {a : Act} {Q : Exit → Act → World → Prop} {w : World}
theorem wpList_copy_cells (k : Nat) (hgd : o.guard = none) (d s : Operand) (t e : TypeId) (ho : o.op = .call { callee := .builtin .copy, args := #[d, s], argTypes := #[t, t] })
    (hu : P.underlying t = some (.slice e)) (hsz : (P.info? e).map (·.size) = some k) (g off dLen dCap : Nat) (hd : a.eval d = .slice (some ⟨g, off, none⟩) dLen dCap) (ad : Addr) (sLen sCap : Nat) (hs : a.eval s = .slice (some ad) sLen sCap)
    (cur : Array Value) (t' : TypeId) (cs : List Value) (hg : w.heap[g]? = some (.cells cur t' (0, 0))) (hn : cs.length = Nat.min sLen dLen * k)
    (hsrc : ∀ j v, cs[j]? = some v → w.cell? (ad.add j) = some v) (hfit : off + cs.length ≤ cur.size) (h1 : ∀ v ∈ cs, v.oneCell' = true)
    (h : wpList P ops Q rest (a.put o.dst (goInt (Nat.min sLen dLen))) (w.setRow g (cur.toList.take off ++ cs ++ cur.toList.drop (off + cs.length)).toArray)) : wpList P ops Q (o :: rest) a w := by
  refine wpList_plain hgd fun K hK => ?_
  have hrun := run_copy_cells (P := P) k w t t o.type e g off dLen dCap ad sLen sCap cur t' cs hu hsz hg hn hsrc hfit h1
  unfold Oper.wp
  simp [execOp, ho, resolve, invoke, builtin, hs, hd, hrun, Result.andThen]
  simp only [List.append_assoc] at h
  exact hK _ _ h
end

theorem backC_put {m : Mm} {i t : Nat} (h : (lnAt m i).tag = (t : Int)) (hd : (lnAt m i).dirty = true) : backC m.cells (lnAt m i) = putAt m.cells (t * 4) (lnAt m i).cells := by
  unfold backC
  rw [if_pos hd, h, Int.toNat_natCast, Nat.mul_comm]
def FetchPost (m : Mm) (a : Nat) (w : World) (p qc cc ql cl : Nat) (f1 f f2 : List Nat) (c1 c2 : List Value) (e : Ending) (w' : World) : Prop :=
  ∃ lv' f', e = .returned (.pointer (some ⟨ql, a / 4 % 4 * 3, none⟩)) ∧ MemO w' p (fetchM m a) (a / 4 % 4) qc cc ql cl lv' f1 f' f2 c1 c2 ∧ Turns (fun k => k = qc ∨ k = ql) w w' ∧ ∀ k, k ∈ f' → k ∈ f ∨ w.heap.size ≤ k

set_option maxRecDepth 100000 in
set_option maxHeartbeats 2000000 in
theorem ref05_Fetch_any (m : Mm) (a : Nat) (ha : a < 512) (hok : MmOk m) {w : World} {p qc cc ql cl : Nat} {lv : Value} {f1 f f2 : List Nat} {c1 c2 : List Value} (h : MemO w p m (a / 4 % 4) qc cc ql cl lv f1 f f2 c1 c2) :
    Calls Try.prog 48 #[.pointer (some ⟨p, 0, none⟩), .int .i64 a] w (FetchPost m a w p qc cc ql cl f1 f f2 c1 c2) := by
  obtain ⟨n, hn⟩ : ∃ n, n = a / 4 := ⟨_, rfl⟩
  obtain ⟨i, hi⟩ : ∃ i, i = n % 4 := ⟨_, rfl⟩
  have hi4 : i < 4 := by omega
  have hn128 : n < 128 := by omega
  unfold FetchPost
  rw [← hn, ← hi] at h ⊢
  have hd1 : (a : Int) / 4 = (n : Int) := by omega
  have hd2 : (n : Int) % 4 = (i : Int) := by omega
  have hx0 : (0 : Int) ≤ (i : Int) := by omega
  have hx1 : (i : Int) < 4 := by omega
  have hx2 : (i : Int).toNat = i := by omega
  have ha0 : (0 : Int) ≤ (a : Int) := by omega
  have ha1 : (a : Int) < 512 := by omega
  have hn0 : (0 : Int) ≤ (n : Int) := by omega
  have hn1 : (n : Int) < 128 := by omega
  have b0 := h.blk.cell 0
  have b1 := h.blk.cell 1
  simp only [List.getElem?_cons_zero, List.getElem?_cons_succ] at b0 b1
  have l0 : w.cell? ⟨ql, i * 3, none⟩ = some (.int .i64 (lnAt m i).tag) := by have := h.lines.mid (j := 0) rfl; rwa [h.hc1] at this
  have l1 : w.cell? ⟨ql, i * 3 + 1, none⟩ = some (.bool (lnAt m i).dirty) := by have := h.lines.mid (j := 1) rfl; rwa [h.hc1] at this
  have l2 : w.cell? ⟨ql, i * 3 + 2, none⟩ = some lv := by have := h.lines.mid (j := 2) rfl; rwa [h.hc1] at this
  have fz0 := h.lines.free (i * 3)
  have fz1 := h.lines.free (i * 3 + 1)
  have fz2 := h.lines.free (i * 3 + 2)
  obtain ⟨n1, n2, n3, n4⟩ := h.ne
  have n1' := Ne.symm n1
  have n2' := Ne.symm n2
  have n3' := Ne.symm n3
  have HN4 := Lib.hid n4
  clear n4
  have hcc := h.hcc
  have hcc' := h.hcc'
  have HH := Lib.hid h
  have Hok := Lib.hid (hok.each i hi4)
  have Hn := Lib.hid hn
  have Hi := Lib.hid hi
  clear h hok hn hi
  by_cases ht : (lnAt m i).tag = (n : Int)
  · have hfe : fetchM m a = m := by unfold fetchM; rw [← Hn.out, ← Hi.out, if_pos ht]
    have Hfe := Lib.hid hfe
    rw [ht] at l0
    clear hfe ht
    go_enter Try.func48, Try.ntmps48
    go_wp2_with fail
    go_ret
    exact ⟨lv, f, rfl, by rw [Hfe.out]; exact HH.out, Turns.refl _ _, fun k hk => .inl hk⟩
  · have htb : ((lnAt m i).tag == (n : Int)) = false := by simpa using ht
    have hfe : fetchM m a = ⟨backC m.cells (lnAt m i), m.lines.set i ⟨(n : Nat), false, ((backC m.cells (lnAt m i)).drop (4 * n)).take 4⟩⟩ := by unfold fetchM; rw [← Hn.out, ← Hi.out, if_neg ht]
    have Hfe := Lib.hid hfe
    have Ht := Lib.hid ht
    clear ht hfe
    have Hc := Lib.hid hcc
    have Hc' := Lib.hid hcc'
    go_enter Try.func48, Try.ntmps48
    go_upto_if 26 with (fail)
    go_cut [] (fun wx => MemO wx p ⟨backC m.cells (lnAt m i), m.lines⟩ i qc cc ql cl lv f1 f f2 c1 c2 ∧ Turns (fun k => k = qc ∨ k = ql) w wx)
    case first =>
      cases hdb : (lnAt m i).dirty
      · have hbc : backC m.cells (lnAt m i) = m.cells := by unfold backC; rw [hdb]; rfl
        have Hbc := Lib.hid hbc
        clear hbc
        go_wp2_with fail
        go_meet
        rw [Hbc.out]
        exact ⟨HH.out, Turns.refl _ _⟩
      · rcases Hok.out with ⟨_, h2, _⟩ | ⟨t, h1, h2, h3, h4⟩
        · rw [h2] at hdb; cases hdb
        have HHl := Lib.hid (show ∀ x ∈ (lnAt m i).cells, CelWf x from by
          obtain ⟨_, ⟨_, e, _⟩ | ⟨b, c, cs, g, e1, e2, e3, e4, e5, e6⟩⟩ := HH.out.o
          · rw [e]; simp
          · exact (owns_cells e6).2.2)
        have hl : ∃ b c, lv = .slice (some ⟨b, 0, none⟩) 4 c ∧ 4 ≤ c ∧ VBuf 30 w b (c * 2) (celsV (lnAt m i).cells) ∧ b ∈ f := by
          obtain ⟨_, ⟨_, e, _⟩ | ⟨b, c, cs, g, e1, e2, e3, e4, e5, e6⟩⟩ := HH.out.o
          · rw [e] at h4; cases h4
          · obtain ⟨rfl, rfl, _⟩ := owns_cells e6
            rw [h4] at e1 e3
            exact ⟨b, c, e1, e3, e5, by rw [e2]; simp⟩
        obtain ⟨b, c, rfl, hc4, hVl, hbf⟩ := hl
        rw [h1] at l0
        rw [hdb] at l1
        have t0 : (0 : Int) ≤ (t : Int) := by omega
        have t1 : (t : Int) < 128 := by omega
        have Hdb := Lib.hid hdb
        have H1 := Lib.hid h1
        have H4 := Lib.hid h4
        have HV := Lib.hid hVl
        have Hbf := Lib.hid hbf
        clear hdb h1 h4 hVl hbf h3
        go_wp2_with fail
        have w1 : IntKind.i64.wrap ((t : Int) * 4) = (t : Int) * 4 := by rw [IntWalk.i64_in _ (by omega)]
        have w2 : (0 : Int) ≤ (t : Int) * 4 := by omega
        have w3 : ((t : Int) * 4).toNat = t * 4 := by omega
        have w4 : (t : Int) * 4 ≤ 512 := by omega
        have w5 : ¬ cc = t * 4 := by omega
        go_still_tail 14, (by kernel_rfl)
        clear w1 w2 w3 w4 w5
        obtain ⟨cur, v1, v2, v3⟩ := HH.out.cells.eq
        have hmin : Nat.min 4 (512 - t * 4) = 4 := Nat.min_eq_left (by omega)
        have hcl : (celsV (lnAt m i).cells).length = 8 := by rw [celsV_len, H4.out]
        have hml : (celsV m.cells).length = 1024 := by rw [celsV_len, HH.out.n]
        have HV1 := Lib.hid v1
        have HV2 := Lib.hid v2
        have HV3 := Lib.hid v3
        have Hmin := Lib.hid hmin
        have Hcl := Lib.hid hcl
        have Hml := Lib.hid hml
        clear v1 v2 v3 hmin hcl hml
        change wpList _ _ _ _ _ w.drew
        refine wpList_copy_cells 2 rfl (.tmp 36) (.tmp 40) 24 30 rfl Try.underlying24 (by kernel_rfl) qc (t * 4 * 2) (512 - t * 4) (cc - t * 4) rfl ⟨b, 0, none⟩ 4 c rfl cur 30 (celsV (lnAt m i).cells) HV1.out ?c1 ?c2 ?c3 (celsV_one _) ?_
        case c1 => rw [Hmin.out, Hcl.out]
        case c2 =>
          intro j u hj
          obtain ⟨hj1, hj2⟩ := List.getElem?_eq_some_iff.1 hj
          rw [show (⟨b, 0, none⟩ : Addr).add j = ⟨b, j, none⟩ by unfold Addr.add; split <;> simp_all]
          exact (HV.out.cell hj1).trans (by rw [hj2])
        case c3 => rw [Hcl.out, HV2.out]; omega
        have hcur := HV2.out
        have hcl := Hcl.out
        have hml := Hml.out
        have hb := backC_put (m := m) H1.out Hdb.out
        have hL := VBuf.laid (e := 30) (w := w.drew) (cs := celsV (lnAt m i).cells) (o := t * 4 * 2) HV1.out HV2.out HV3.out (by omega)
        rw [← celsV_put, ← hb] at hL
        have hM := HH.out.laid (w' := w.drew.setRow qc (cur.toList.take (t * 4 * 2) ++ celsV (lnAt m i).cells ++ cur.toList.drop (t * 4 * 2 + (celsV (lnAt m i).cells).length)).toArray) (fun k hk => setRow_other _ _ _ _ hk) (cs := backC m.cells (lnAt m i)) ?d1 ?d2 hL
        case d1 => rw [hb, putAt_len]; exact HH.out.n; rw [H4.out, HH.out.n]; omega
        case d2 =>
          rw [hb]
          intro x hx
          simp only [putAt, List.mem_append] at hx
          rcases hx with (hx | hx) | hx
          · exact HH.out.cwf x (List.mem_of_mem_take hx)
          · exact HHl.out x hx
          · exact HH.out.cwf x (List.mem_of_mem_drop hx)
        go_wp2_with fail
        go_meet
        exact ⟨hM, (Turns.refl _ _).drew.row (.inl rfl) _⟩
    case rest =>
      obtain ⟨ho, htu⟩ := hcut
      generalize backC m.cells (lnAt m i) = C at *
      have q0 := ho.blk.cell 0
      have q1 := ho.blk.cell 1
      simp only [List.getElem?_cons_zero, List.getElem?_cons_succ] at q0 q1
      have m0 : wc.cell? ⟨ql, i * 3, none⟩ = some (.int .i64 (lnAt m i).tag) := by have := ho.lines.mid (j := 0) rfl; rwa [ho.hc1] at this
      have m1 : wc.cell? ⟨ql, i * 3 + 1, none⟩ = some (.bool (lnAt m i).dirty) := by have := ho.lines.mid (j := 1) rfl; rwa [ho.hc1] at this
      have m2 : wc.cell? ⟨ql, i * 3 + 2, none⟩ = some lv := by have := ho.lines.mid (j := 2) rfl; rwa [ho.hc1] at this
      have y0 := ho.lines.free (i * 3)
      have y1 := ho.lines.free (i * 3 + 1)
      have y2 := ho.lines.free (i * 3 + 2)
      have HO := Lib.hid ho
      have HT := Lib.hid htu
      clear ho htu b0 b1 l0 l1 l2 fz0 fz1 fz2
      go_wp2_with (at_builtin; go_loud (refine wpList_rcopied (R := rCell) rfl _ (.tmp 59) slCell (by decide) rfl (fun b => b = qc) rfl (.slice (some ⟨qc, n * 4 * 2, none⟩) ((n + 1) * 4 - n * 4) (cc - n * 4)) ((C.drop (n * 4)).take ((n + 1) * 4 - n * 4)) rfl ?c1 ?_))
      case c1 => 
        have hc := HO.out.cells
        have hl : C.length = 512 := HO.out.n
        exact sub_cells (C := C) ((hc.other n3 _ _).other n3 _ _) HO.out.cwf (by omega) (by omega) (by omega) (by omega)
      intro v' w6 hmk hg6
      obtain ⟨gp, ho1, ho2, ho3⟩ := (hmk.own flatCell).done
      have hA := (HO.out.setTag (n := n) (by simp [Lit.wf, IntKind.min, IntKind.max, IntKind.signed, IntKind.bits]; omega)).setDirty false
      rw [lnAt_setLn HO.out.n4 hi4, setLn_setLn] at hA
      have hB := hA.grow hg6
      have hcl : ((C.drop (n * 4)).take ((n + 1) * 4 - n * 4)).length = (n + 1) * 4 - n * 4 := by
        have hl : C.length = 512 := HO.out.n
        simp; omega
      obtain ⟨GA, gc, hv⟩ := hmk.shape
      rw [hcl] at hv
      subst hv
      have hlow := hA.live
      have hlow2 : ∀ k, k ∈ p :: qc :: ql :: (f1 ++ f2) → k ∈ p :: qc :: ql :: (f1 ++ f ++ f2) := fun k hk => by
        simp only [List.mem_cons, List.mem_append] at hk ⊢
        rcases hk with h | h | h | h | h <;> simp [h]
      have hC := hB.setRow ho1 ho2 fun k hk hm => by
        have h1 := ho3 k hk
        have h2 := hlow k (hlow2 k hm)
        rw [set_size, set_size] at h2
        omega
      rw [lnAt_setLn HO.out.n4 hi4, setLn_setLn] at hC
      have hT := ((HT.out.set (p := ⟨ql, i * 3, none⟩) (.inl (.inr rfl)) (.int .i64 n)).set (p := ⟨ql, i * 3 + 1, none⟩) (.inl (.inr rfl)) (.bool false)).trans (Turns.of_grown hg6)
      dsimp only at hC
      have hfe : setLn ⟨C, m.lines⟩ i ⟨n, false, (C.drop (n * 4)).take ((n + 1) * 4 - n * 4)⟩ = fetchM m a := by
        rw [Hfe.out, show (n + 1) * 4 - n * 4 = 4 by omega, Nat.mul_comm n 4]; rfl
      rw [hfe] at hC
      have z2 : w6.cell? ⟨ql, i * 3 + 2, none⟩ = some lv := by have := hB.lines.mid (j := 2) rfl; rwa [hB.hc1] at this
      have zf := hB.lines.free (i * 3 + 2)
      have HC := Lib.hid hC
      have HTT := Lib.hid (hT.set (p := ⟨ql, i * 3 + 2, none⟩) (.inl (.inr rfl)) (.slice GA ((n + 1) * 4 - n * 4) gc))
      have HP := Lib.hid ho3
      clear hA hB hC hT hfe hlow hlow2 ho1 ho2 ho3 hg6 hmk hcl
      go_wp2_with fail
      go_ret
      exact ⟨_, gp, rfl, HC.out, HTT.out, fun k hk => .inr (by have := HP.out k hk; have := HT.out.size; omega)⟩

end Go.Proofs.Ytndmcnddgcifiaa
