/- The law CacheHides, walked; no condition. -/
import Derived.Test.YtndmcnddgcifiaaLooks
import Derived.Test.YtndmcnddgcifiaaFlush
import Derived.Test.YtndmcnddgcifiaaLoad
import Derived.Test.YtndmcnddgcifiaaSee
set_option linter.unusedVariables false
set_option linter.unusedSimpArgs false
namespace Go.Proofs.Ytndmcnddgcifiaa
open Go.RowKit

theorem xor_u16 (a b : Nat) (ha : a < 65536) (hb : b < 65536) : bits .xor .u16 (a : Int) (b : Int) = ((a ^^^ b : Nat) : Int) := by
  have hx : a ^^^ b < 2 ^ 16 := Nat.xor_lt_two_pow (by omega) (by omega)
  have h1 : (BitVec.ofInt 16 (a : Int)).toNat = a := by
    rw [BitVec.ofInt_natCast, BitVec.toNat_ofNat]; exact Nat.mod_eq_of_lt (by omega)
  have h2 : (BitVec.ofInt 16 (b : Int)).toNat = b := by
    rw [BitVec.ofInt_natCast, BitVec.toNat_ofNat]; exact Nat.mod_eq_of_lt (by omega)
  show IntKind.u16.wrap ((BitVec.ofInt 16 (a : Int) ^^^ BitVec.ofInt 16 (b : Int)).toNat : Int) = _
  rw [BitVec.toNat_xor, h1, h2]
  simp [IntKind.wrap, IntKind.bits, IntKind.signed]
  omega
/-- One bit of a number of 16 bits turned. -/
theorem flip_u16 (x s : Int) (h0 : 0 ≤ x) (h1 : x ≤ 65535) (s0 : 0 ≤ s) (s1 : s < 16) :
    0 ≤ bits .xor .u16 x (IntKind.u16.wrap (2 ^ s.toNat)) ∧ bits .xor .u16 x (IntKind.u16.wrap (2 ^ s.toNat)) ≤ 65535 ∧ bits .xor .u16 x (IntKind.u16.wrap (2 ^ s.toNat)) ≠ x := by
  obtain ⟨a, rfl⟩ := Int.eq_ofNat_of_zero_le h0
  obtain ⟨n, rfl⟩ := Int.eq_ofNat_of_zero_le s0
  obtain ⟨b, hb⟩ : ∃ b : Nat, b = 2 ^ n := ⟨_, rfl⟩
  have hb0 : 1 ≤ b := by rw [hb]; exact Nat.one_le_two_pow
  have hb1 : b ≤ 2 ^ 15 := by rw [hb]; exact Nat.pow_le_pow_right (by omega) (by omega)
  have e : IntKind.u16.wrap (2 ^ ((n : Int)).toNat) = (b : Int) := by
    have : ((2 : Int) ^ ((n : Int)).toNat) = (b : Int) := by rw [hb]; simp
    rw [this]
    simp [IntKind.wrap, IntKind.bits, IntKind.signed]; omega
  rw [e, xor_u16 a b (by omega) (by omega)]
  have hx : a ^^^ b < 2 ^ 16 := Nat.xor_lt_two_pow (by omega) (by omega)
  refine ⟨by omega, by omega, fun h => ?_⟩
  have e' : a ^^^ b = a := by omega
  have : a ^^^ (a ^^^ b) = b := by rw [← Nat.xor_assoc, Nat.xor_self, Nat.zero_xor]
  rw [e', Nat.xor_self] at this
  omega
theorem celWf_iff {c : Cel} : CelWf c ↔ 0 ≤ c.1 ∧ c.1 ≤ 255 ∧ 0 ≤ c.2 ∧ c.2 ≤ 65535 := by
  unfold CelWf
  simp [Lit.wf, IntKind.min, IntKind.max, IntKind.signed, IntKind.bits]
  omega
theorem celsV_val (cs : List Cel) {k : Nat} (hk : k < cs.length) (z : Int) : (celsV cs).set (k * 2 + 1) (.int .u16 z) = celsV (cs.set k ((cs.getD k (0, 0)).1, z)) := by
  rw [celsV_set]
  have h := (celsV_at hk).1
  obtain ⟨g1, g2⟩ := List.getElem?_eq_some_iff.1 h
  have : (celsV cs).set (k * 2) (.int .u8 (cs.getD k (0, 0)).1) = celsV cs := by rw [← g2, List.set_getElem_self]
  rw [this]
theorem line_dirty {w : World} {F : Nat → Prop} {m : Mm} {u : Value} {ql cl i : Nat} (h : rMm.rep w F m [u, .slice (some ⟨ql, 0, none⟩) 4 cl]) (hi : i < 4) (h4 : m.lines.length = 4) :
    w.cell? ⟨ql, i * 3 + 1, none⟩ = some (.bool (lnAt m i).dirty) := by
  obtain ⟨u', v', e, _, hv⟩ := mm_out h
  cases e
  obtain ⟨b, off, d, cs, e, _, _, _, hx, hc⟩ := hv.at_ (show i < m.lines.length by omega)
  injection e with e1 e2 e3
  injection e1 with e1
  injection e1 with e1 e4
  subst e1 e4
  obtain ⟨v, rfl, _, _⟩ := ln_out hx
  have := hc 1 _ rfl
  rw [show rLn.size = 3 from rfl, Nat.zero_add] at this
  rw [lnAt_eq (by omega)]
  exact this

theorem hides2 {m : Mm} (h : MmOk m) (hc : Clean m) {a : Nat} (ha : a < 512) (bad : Cel) (ht : (lnAt m (a / 4 % 4)).tag = (a / 4 : Nat)) (hd : (lnAt m (a / 4 % 4)).dirty = false) :
    seeM (flushM ⟨m.cells.set a bad, m.lines⟩) a = bad ∧ seeM m a = m.cells.getD a (0, 0) := by
  have hi : a / 4 % 4 < 4 := Nat.mod_lt _ (by omega)
  have hl : a < m.cells.length := by rw [h.cells]; exact ha
  have hx : MmOk ⟨m.cells.set a bad, m.lines⟩ := ⟨by simp [h.cells], h.lines, h.each⟩
  have hset : (m.cells.set a bad).getD a (0, 0) = bad := by simp [List.getD_eq_getElem?_getD, hl]
  constructor
  · have e1 : seeM (flushM ⟨m.cells.set a bad, m.lines⟩) a = (flushM ⟨m.cells.set a bad, m.lines⟩).cells.getD a (0, 0) := see_none _ a
    rw [e1, flush_at hx]
    have e2 : lnAt ⟨m.cells.set a bad, m.lines⟩ (a / 4 % 4) = lnAt m (a / 4 % 4) := rfl
    rw [e2, hd, if_neg (by simp), hset]
  · unfold seeM
    rw [if_pos ht, hc _ hi _ ht hd, take4 (Nat.mod_lt _ (by omega)), show 4 * (a / 4) + a % 4 = a by omega]
theorem cell_here {w : World} {F : Nat → Prop} {m : Mm} {v : Value} {qx cx a : Nat} (h : rMm.rep w F m [.slice (some ⟨qx, 0, none⟩) 512 cx, v]) (hn : m.cells.length = 512) (ha : a < 512) :
    w.cell? ⟨qx, a * 2, none⟩ = some (.int .u8 (m.cells.getD a (0, 0)).1) ∧ w.cell? ⟨qx, a * 2 + 1, none⟩ = some (.int .u16 (m.cells.getD a (0, 0)).2) := by
  obtain ⟨u', v', e, hu, _⟩ := mm_out h
  cases e
  obtain ⟨b, off, d, e, _, _, g1, g2, _⟩ := cell_at hu (show a < m.cells.length by omega)
  injection e with e1 e2 e3
  injection e1 with e1
  injection e1 with e1 e4
  subst e1 e4
  rw [Nat.zero_add] at g1 g2
  exact ⟨g1, g2⟩

structure HdS (w0 : World) (M X : Mm) (c : Cel) (q9 q12 qc cc ql cl qx cx qy cy : Nat) (w : World) : Prop where
  grown : w0.grownBy w none
  b9 : Bk w q9 27 [.slice (some ⟨qc, 0, none⟩) 512 cc, .slice (some ⟨ql, 0, none⟩) 4 cl]
  b10 : Bk w (q9 + 1) 30 [.int .u8 c.1, .int .u16 c.2]
  b12 : Bk w q12 27 [.slice (some ⟨qx, 0, none⟩) 512 cx, .slice (some ⟨qy, 0, none⟩) 4 cy]
  r9 : rMm.rep w TT M [.slice (some ⟨qc, 0, none⟩) 512 cc, .slice (some ⟨ql, 0, none⟩) 4 cl]
  rx : rMm.rep w TT X [.slice (some ⟨qx, 0, none⟩) 512 cx, .slice (some ⟨qy, 0, none⟩) 4 cy]
theorem HdS.grow {w0 w w' : World} {M X : Mm} {c : Cel} {q9 q12 qc cc ql cl qx cx qy cy : Nat} (h : HdS w0 M X c q9 q12 qc cc ql cl qx cx qy cy w) (hg : w.grownBy w' none) : HdS w0 M X c q9 q12 qc cc ql cl qx cx qy cy w' :=
  ⟨grown_trans h.grown hg, h.b9.grow hg, h.b10.grow hg, h.b12.grow hg, rMm.grow h.r9 hg, rMm.grow h.rx hg⟩

set_option maxRecDepth 100000 in
set_option maxHeartbeats 4000000 in
theorem lawHides_any (A : Option Addr) (L : List Int) (cp : Nat) (a0 b0 : Int) (w : World) (hl : L.length ≤ 9223372036854775807) (hw : I64s L)
    (ha0 : -9223372036854775808 ≤ a0) (ha1 : a0 ≤ 9223372036854775807) (hb0 : -9223372036854775808 ≤ b0) (hb1 : b0 ≤ 9223372036854775807) (h : Ints .i64 w (fun k => k < w.heap.size) A L) :
    Calls Try.prog 7 #[.slice A L.length cp, .int .i64 a0, .int .i64 b0] w (BoolGrown true w) := by
  have HDK := Lib.hid (DkW.new (c := cp) h hl hw)
  have HA := Lib.hid (And.intro ha0 ha1)
  have HB := Lib.hid (And.intro hb0 hb1)
  clear h hl hw ha0 ha1 hb0 hb1
  go_enter Try.func7, Try.ntmps7
  go_wp2_with fail
  refine (mkNew_any A L cp w).mono ?_
  rintro e W1 ⟨rfl, rfl⟩
  generalize w.alloc (.cells #[.slice A L.length cp, .int .i64 0] 60) = W1 at *
  go_wp2_with fail
  refine (mod_any a0 512 _ HA.out.1 HA.out.2 (by omega) (by omega)).mono ?_
  rintro e w' ⟨rfl, rfl⟩
  obtain ⟨a, ha⟩ : ∃ a : Nat, a0 % 512 = a := ⟨(a0 % 512).toNat, by omega⟩
  have ha512 : a < 512 := by omega
  rw [ha]
  clear ha HA
  go_wp2_with fail
  obtain ⟨j0, hj0⟩ := HDK.out.deck
  refine (worked_any (fun k => k < w.heap.size) w.heap.size L j0 false W1 HDK.out.low hj0).mono ?_
  rintro e w1 ⟨m, u, v, fp, rfl, ho, hnd, hlo, hok, hmv, hcl, hd⟩
  have HD1 := Lib.hid (HDK.out.deal hd).grown
  have Hok := Lib.hid (And.intro hok (hcl rfl))
  obtain ⟨⟨A1, n1, c1, rfl⟩, B1, m1, d1, rfl⟩ := own_shapes ho
  have Ho := Lib.hid (own_tt ho)
  clear hd hok hmv hcl hnd ho hj0 HDK hlo
  go_wp2_with fail
  refine (cache_Read_in TT m a (by omega) Hok.out.1 _ _ w1 Ho.out).mono ?_
  rintro e w2 ⟨u2, v2, fp2, rfl, ho2, hnd2, hf2, hg2, hcw2⟩
  have hokM := ok_fetch Hok.out.1 ha512
  have hclM := clean_fetch Hok.out.1 Hok.out.2 ha512
  have htg := fetch_at Hok.out.1 a
  have hlsee : loadM m a = seeM (fetchM m a) a := by unfold loadM seeM; rw [if_pos htg]
  rw [hlsee] at hcw2 ⊢
  clear Hok Ho hlsee
  obtain ⟨qc, cc, ql, cl, rfl, rfl⟩ := own_shape hokM ho2
  generalize fetchM m a = M at *
  have HM := Lib.hid (And.intro hokM (And.intro hclM htg))
  clear hokM hclM htg
  obtain ⟨c, hc⟩ : ∃ c, c = seeM M a := ⟨_, rfl⟩
  rw [← hc] at hcw2 ⊢
  have HC := Lib.hid hc
  clear hc
  have hgC : w2.grownBy ((w2.alloc (.cells #[.slice (some ⟨qc, 0, none⟩) 512 cc, .slice (some ⟨ql, 0, none⟩) 4 cl] 27)).alloc (.cells #[.int .u8 c.1, .int .u16 c.2] 30)) none := grown_alloc (grown_alloc (grown_refl _ _) _) _
  have hb9 : Bk ((w2.alloc (.cells #[.slice (some ⟨qc, 0, none⟩) 512 cc, .slice (some ⟨ql, 0, none⟩) 4 cl] 27)).alloc (.cells #[.int .u8 c.1, .int .u16 c.2] 30)) w2.heap.size 27 [.slice (some ⟨qc, 0, none⟩) 512 cc, .slice (some ⟨ql, 0, none⟩) 4 cl] := Bk.new.grow (grown_alloc (grown_refl _ _) _)
  have hb10 : Bk ((w2.alloc (.cells #[.slice (some ⟨qc, 0, none⟩) 512 cc, .slice (some ⟨ql, 0, none⟩) 4 cl] 27)).alloc (.cells #[.int .u8 c.1, .int .u16 c.2] 30)) (w2.heap.size + 1) 30 [.int .u8 c.1, .int .u16 c.2] := by
    have h := Bk.new (w := w2.alloc (.cells #[.slice (some ⟨qc, 0, none⟩) 512 cc, .slice (some ⟨ql, 0, none⟩) 4 cl] 27)) (t := 30) (vs := [.int .u8 c.1, .int .u16 c.2])
    simpa using h
  have Hr := Lib.hid (rMm.grow (own_tt ho2) hgC)
  have HG := Lib.hid (grown_trans HD1.out (grown_trans hg2 hgC))
  clear ho2 hnd2 hf2 hgC hg2 HD1
  go_upto_region 4 with fail
  generalize (w2.alloc (.cells #[.slice (some ⟨qc, 0, none⟩) 512 cc, .slice (some ⟨ql, 0, none⟩) 4 cl] 27)).alloc (.cells #[.int .u8 c.1, .int .u16 c.2] 30) = W2 at *
  generalize hq9 : w2.heap.size = q9 at *
  have hs9 := hb9.hi
  have hs10 := hb10.hi
  have hw2 := HG.out.size
  have Hr9 := Lib.hid (show rMm.rep W2 (fun k => k < W2.heap.size) M _ from rMm.sub (rMm.live Hr.out) fun k h => h.2)
  have k90 := hb9.cell 0
  have k91 := hb9.cell 1
  simp only [List.getElem?_cons_zero, List.getElem?_cons_succ] at k90 k91
  go_wp2_with fail
  refine (ref04_Copy_any TT M _ _ W2 Hr.out).mono ?_
  rintro e w3 ⟨cs3, fp3, rfl, ho3, hnd3, hf3, hg3⟩
  obtain ⟨u3, v3, _, _, e3, _⟩ := mm_owned ho3
  subst e3
  obtain ⟨qx, cx, qy, cy, rfl, rfl⟩ := own_shape HM.out.1 ho3
  have hgD : w3.grownBy (w3.alloc (.cells #[.slice (some ⟨qx, 0, none⟩) 512 cx, .slice (some ⟨qy, 0, none⟩) 4 cy] 27)) none := grown_alloc (grown_refl _ _) _
  have hb12 : Bk (w3.alloc (.cells #[.slice (some ⟨qx, 0, none⟩) 512 cx, .slice (some ⟨qy, 0, none⟩) 4 cy] 27)) w3.heap.size 27 [.slice (some ⟨qx, 0, none⟩) 512 cx, .slice (some ⟨qy, 0, none⟩) 4 cy] := Bk.new
  have hlive := rMm.olive ho3
  have hAt : MemAt (w3.alloc (.cells #[.slice (some ⟨qx, 0, none⟩) 512 cx, .slice (some ⟨qy, 0, none⟩) 4 cy] 27)) w3.heap.size (.slice (some ⟨qx, 0, none⟩) 512 cx) (.slice (some ⟨qy, 0, none⟩) 4 cy) fp3 M :=
    ⟨hb12, rMm.okeep ho3 fun k hk => hgD.block k (hlive k hk) (by simp), List.nodup_cons.2 ⟨fun hk => Nat.lt_irrefl _ (hlive _ hk), hnd3⟩, HM.out.1.cells, HM.out.1.lines⟩
  obtain ⟨qx', cx', qy', cy', lv, f1, f, f2, c1, c2, e1, e2, e3, hO⟩ := hAt.opened (i := a / 4 % 4) (Nat.mod_lt _ (by omega))
  cases e1
  cases e2
  have hf3' : ∀ k, k = w3.heap.size ∨ k ∈ fp3 → W2.heap.size ≤ k := fun k hk => by
    rcases hk with rfl | hk
    · exact hg3.size
    · exact hf3 k hk
  rw [e3] at hf3'
  have hb9 := (hb9.grow hg3).grow hgD
  have hb10 := (hb10.grow hg3).grow hgD
  have Hr9 := Lib.hid (rMm.grow (rMm.grow Hr9.out hg3) hgD)
  have HG := Lib.hid (grown_trans HG.out (grown_trans hg3 hgD))
  have hq12 := hg3.size
  clear hAt hb12 hlive ho3 hnd3 hf3 hg3 hgD e3 k90 k91
  go_upto_region 7 with fail
  generalize w3.alloc (.cells #[.slice (some ⟨qx, 0, none⟩) 512 cx, .slice (some ⟨qy, 0, none⟩) 4 cy] 27) = W3 at *
  generalize hq12 : w3.heap.size = q12 at *
  have k120 := hO.blk.cell 0
  simp only [List.getElem?_cons_zero] at k120
  have hla : a < M.cells.length := by rw [HM.out.1.cells]; exact ha512
  have kx := (row_cell hO.cells hla).2
  have fx := hO.cells.free (a * 2 + 1)
  obtain ⟨y, hy⟩ : ∃ y, y = M.cells.getD a (0, 0) := ⟨_, rfl⟩
  rw [← hy] at kx
  have HY := Lib.hid hy
  have x1 : (0 : Int) ≤ (a : Int) := by omega
  have x2 : (a : Int) < 512 := by omega
  have x3 : (a : Int).toNat = a := by omega
  have HB10 := Lib.hid hb10
  have HB9 := Lib.hid hb9
  have HO := Lib.hid hO
  have hqx : qx < W3.heap.size := hO.cells.hi
  have hq12' : q12 < W3.heap.size := hO.blk.hi
  clear hb9 hb10 hO hy hla
  have Hs := Lib.hid (show 0 ≤ b0 % 16 ∧ b0 % 16 < 16 from ⟨Int.emod_nonneg _ (by decide), Int.emod_lt_of_pos _ (by decide)⟩)
  obtain ⟨s, hs⟩ : ∃ s, s = b0 % 16 := ⟨_, rfl⟩
  rw [← hs] at Hs
  have HS := Lib.hid hs
  clear hs
  have s0 := Hs.out.1
  have s1 := Hs.out.2
  have s2 : IntKind.u64.wrap s = s := by simp [IntKind.wrap, IntKind.bits, IntKind.signed]; omega
  go_region_with (go_at_call 8; refine (mod_any b0 16 _ HB.out.1 HB.out.2 (by omega) (by omega)).mono ?_; rintro e w' ⟨rfl, rfl⟩; rw [← HS.out])
  all_goals (
    have hla : a < M.cells.length := by rw [HM.out.1.cells]; exact ha512
    have hym : y ∈ M.cells := by rw [HY.out]; simp [List.getD_eq_getElem?_getD, hla]
    have hyw := celWf_iff.1 (HO.out.cwf y hym)
    obtain ⟨z0, z1, z2⟩ := flip_u16 y.2 s hyw.2.2.1 hyw.2.2.2 s0 s1
    generalize bits .xor .u16 y.2 (IntKind.u16.wrap (2 ^ s.toNat)) = z at *
    have hV := HO.out.cells.set (.int .u16 z) (j := a * 2 + 1) (by rw [celsV_len]; omega)
    rw [celsV_val _ hla, ← HY.out] at hV
    have hbw : CelWf (y.1, z) := celWf_iff.2 ⟨hyw.1, hyw.2.1, z0, z1⟩
    have hO2 := (HO.out.laid (w' := W3.setCell ⟨qx, a * 2 + 1, none⟩ (.int .u16 z)) (fun k hk => heap_setCell_other _ _ _ _ hk) (by simp [HM.out.1.cells]) (fun c hc => by
      rcases List.mem_or_eq_of_mem_set hc with hc | rfl
      · exact HO.out.cwf c hc
      · exact hbw) hV).grow (grown_drew (grown_refl _ _))
    have hpl := hides HM.out.1 HM.out.2.1 ha512 (y.1, z) HM.out.2.2 (fun e => z2 (by rw [HY.out, ← e]))
    rw [← HC.out] at hpl
    have HP := Lib.hid hpl
    have hqx2 := hf3' qx (.inr (by simp))
    have hq122 := hf3' q12 (.inl rfl)
    have hgS : W3.grownBy (W3.setCell ⟨qx, a * 2 + 1, none⟩ (.int .u16 z)).drew (some qx) := grown_drew (grown_set (grown_refl W3 (some qx)) (.inl rfl) _)
    have HS1 := Lib.hid (show HdS w M ⟨M.cells.set a (y.1, z), M.lines⟩ c q9 q12 qc cc ql cl qx cx qy cy _ from
      ⟨grown_fresh HG.out hgS (by omega), HB9.out.keep (hgS.block _ HB9.out.hi (fun e => by injection e with e; omega)), HB10.out.keep (hgS.block _ HB10.out.hi (fun e => by injection e with e; omega)),
        hO2.closed.blk, rMm.sub (rMm.growx Hr9.out (fun h => by omega) hgS) (fun _ _ => trivial), own_tt hO2.closed.own⟩)
    clear hO2 hV hpl hgS hym hyw kx fx k120
    generalize (W3.setCell ⟨qx, a * 2 + 1, none⟩ (.int .u16 z)).drew = W4 at *
    have k120 := HS1.out.b12.cell 0
    have k121 := HS1.out.b12.cell 1
    simp only [List.getElem?_cons_zero, List.getElem?_cons_succ] at k120 k121
    go_wp2_with fail
    refine (cache_See_in TT _ a ha512 HP.out.1 _ _ W4 HS1.out.rx).mono ?_
    rintro e w5 ⟨rfl, hg5⟩
    rw [HP.out.2.1]
    have hgD := grown_trans hg5 (grown_alloc (grown_refl w5 none) (.cells #[.int .u8 c.1, .int .u16 c.2] 30))
    have hb13 : Bk (w5.alloc (.cells #[.int .u8 c.1, .int .u16 c.2] 30)) w5.heap.size 30 [.int .u8 c.1, .int .u16 c.2] := Bk.new
    have HS2 := Lib.hid (HS1.out.grow hgD)
    clear hg5 hgD k120 k121 HS1
    go_upto_region 9 with fail
    generalize w5.alloc (.cells #[.int .u8 c.1, .int .u16 c.2] 30) = W5 at *
    generalize hq13 : w5.heap.size = q13 at *
    obtain ⟨i, hi⟩ : ∃ i, i = a / 4 % 4 := ⟨_, rfl⟩
    obtain ⟨n, hn⟩ : ∃ n, n = a / 4 := ⟨_, rfl⟩
    have hd1 : (a : Int) / 4 = (n : Int) := by omega
    have hd2 : (n : Int) % 4 = (i : Int) := by omega
    have hi4 : i < 4 := by omega
    have y1 : (0 : Int) ≤ (i : Int) := by omega
    have y2 : (i : Int) < 4 := by omega
    have y3 : (i : Int).toNat = i := by omega
    have kd := line_dirty HS2.out.r9 hi4 HM.out.1.lines
    rw [hi] at kd
    obtain ⟨D, hD⟩ : ∃ D, D = (lnAt M (a / 4 % 4)).dirty := ⟨_, rfl⟩
    rw [← hD] at kd
    rw [← hi] at kd
    have HD := Lib.hid hD
    clear hD
    have k90 := HS2.out.b9.cell 0
    have k91 := HS2.out.b9.cell 1
    have k120 := HS2.out.b12.cell 0
    have k121 := HS2.out.b12.cell 1
    simp only [List.getElem?_cons_zero, List.getElem?_cons_succ] at k90 k91 k120 k121
    have Hi := Lib.hid hi
    have Hn := Lib.hid hn
    clear hi hn
    go_wp2_with fail
    refine (cache_Flush_any TT _ HP.out.1 _ _ W5 HS2.out.rx).mono ?_
    rintro e w6 ⟨cs6, fp6, rfl, ho6, hnd6, hf6, hg6⟩
    obtain ⟨u6, v6, _, _, e6, _⟩ := mm_owned ho6
    subst e6
    have Ho6 := Lib.hid (own_tt ho6)
    have hokF := (ok_flush HP.out.1).1
    clear ho6 hnd6 hf6 k90 k91 k120 k121 kd
    go_wp2_with fail
    refine (cache_See_in TT _ a ha512 hokF _ _ w6 Ho6.out).mono ?_
    rintro e w7 ⟨rfl, hg7⟩
    obtain ⟨b2, hb2, hv2⟩ : ∃ b2, seeM (flushM ⟨M.cells.set a (y.1, z), M.lines⟩) a = (c.1, b2) ∧ (b2 == c.2) = D := by
      have hpd := HP.out.2.2.1
      rw [← HD.out] at hpd
      cases hDD : D
      · obtain ⟨g1, g2⟩ := hides2 HM.out.1 HM.out.2.1 ha512 (y.1, z) HM.out.2.2 (by rw [← HD.out, hDD])
        rw [← HC.out, ← HY.out] at g2
        exact ⟨z, by rw [g1, g2], by rw [g2]; simpa using z2⟩
      · exact ⟨c.2, hpd.2 hDD, by simp⟩
    rw [hb2]
    clear hb2
    have hgD := grown_trans hg6 (grown_trans hg7 (grown_alloc (grown_refl w7 none) (.cells #[.int .u8 c.1, .int .u16 b2] 30)))
    have hb15 : Bk (w7.alloc (.cells #[.int .u8 c.1, .int .u16 b2] 30)) w7.heap.size 30 [.int .u8 c.1, .int .u16 b2] := Bk.new
    have hb13 := hb13.grow hgD
    have HS3 := Lib.hid (HS2.out.grow hgD)
    clear hg6 hg7 hgD HS2 hokF Ho6
    go_upto_region 11 with fail
    generalize w7.alloc (.cells #[.int .u8 c.1, .int .u16 b2] 30) = W6 at *
    generalize hq15 : w7.heap.size = q15 at *
    have k120 := HS3.out.b12.cell 0
    have k121 := HS3.out.b12.cell 1
    simp only [List.getElem?_cons_zero, List.getElem?_cons_succ] at k120 k121
    go_wp2_with fail
    refine (cache_Drop_any TT _ _ _ W6 HS3.out.rx).mono ?_
    rintro e w8 ⟨cs8, fp8, rfl, ho8, hnd8, hf8, hg8⟩
    obtain ⟨u8, v8, _, _, e8, _⟩ := mm_owned ho8
    subst e8
    have Ho8 := Lib.hid (own_tt ho8)
    have hokD := (ok_none HP.out.1.cells).1
    clear ho8 hnd8 hf8 k120 k121
    go_wp2_with fail
    refine (cache_See_in TT _ a ha512 hokD _ _ w8 Ho8.out).mono ?_
    rintro e w9 ⟨rfl, hg9⟩
    have hpd := HP.out.2.2.2
    unfold dropM at hpd
    rw [hpd]
    clear hpd
    have hgD := grown_trans hg8 (grown_trans hg9 (grown_alloc (grown_refl w9 none) (.cells #[.int .u8 y.1, .int .u16 z] 30)))
    have hb17 : Bk (w9.alloc (.cells #[.int .u8 y.1, .int .u16 z] 30)) w9.heap.size 30 [.int .u8 y.1, .int .u16 z] := Bk.new
    have hb13 := hb13.grow hgD
    have hb15 := hb15.grow hgD
    have HS4 := Lib.hid (HS3.out.grow hgD)
    clear hg8 hg9 hgD HS3 hokD Ho8
    go_upto_region 12 with fail
    generalize w9.alloc (.cells #[.int .u8 y.1, .int .u16 z] 30) = W7 at *
    generalize hq17 : w9.heap.size = q17 at *
    have HNX := Lib.hid (show (⟨M.cells.set a (y.1, z), M.lines⟩ : Mm).cells.length = 512 by simp [HM.out.1.cells])
    have HGX := Lib.hid (show (⟨M.cells.set a (y.1, z), M.lines⟩ : Mm).cells.getD a (0, 0) = (y.1, z) by simp [List.getD_eq_getElem?_getD, hla])
    have H13 := Lib.hid hb13
    have H15 := Lib.hid hb15
    have H17 := Lib.hid hb17
    have HV2 := Lib.hid hv2
    have HG7 := Lib.hid HS4.out.grown
    clear hb13 hb15 hb17 hla HP hbw hv2
    refine wp_region_rely (fun w' => W7.grownBy w' none) (fun _ _ => True)
      [SVal (.int .i64 0), SVal (.bool true), SVal (.bool true), SVal (.int .i64 0), SVal (.bool true), SVal (.bool true), SVal (.bool true), SVal (.int .i64 0), SVal (.bool true), SVal (.bool true), SVal (.bool true), SVal (.agg #[.int .u8 c.1, .int .u16 c.2]), SVal (.agg #[.int .u8 c.1, .int .u16 c.2]), SVal (.bool true), SVal (.bool true), SVal (.bool true), SVal (.agg #[.int .u8 c.1, .int .u16 b2]), SVal (.agg #[.int .u8 c.1, .int .u16 c.2]), SVal (.bool D), SVal (.bool D), SVal (.bool true), SVal (.bool true), SVal (.bool true), SVal (.agg #[.int .u8 y.1, .int .u16 z]), SVal (.pointer (some ⟨q12, 0, none⟩)), SVal (.slice (some ⟨qx, 0, none⟩) 512 cx), SVal (.int .i64 a), SVal (.pointer (some ⟨qx, a * 2, none⟩)), SVal (.agg #[.int .u8 y.1, .int .u16 z]), SVal (.bool true), SVal (.bool true), SVal (.bool true), SVal (.bool true), SVal (.bool true), SVal (.bool true)]
      122 (by kernel_rfl) rfl (by kernel_rfl) (grown_drew (grown_refl _ _)) (fun _ => trivial) ?_ ?_ ?_
    · exact ⟨SVal.kept, SVal.kept, SVal.kept, SVal.kept, SVal.kept, SVal.kept, SVal.kept, SVal.kept, SVal.kept, SVal.kept, SVal.kept, SVal.kept, SVal.kept, SVal.kept, SVal.kept, SVal.kept, SVal.kept, SVal.kept, SVal.kept, SVal.kept, SVal.kept, SVal.kept, SVal.kept, SVal.kept, SVal.kept, SVal.kept, SVal.kept, SVal.kept, SVal.kept, SVal.kept, SVal.kept, SVal.kept, SVal.kept, SVal.kept, SVal.kept, trivial⟩
    · refine duties_cons ?_ (duties_cons ?_ (duties_cons ?_ (duties_cons ?_ (duties_cons ?_ (duties_cons ?_ (duties_cons ?_ (duties_cons ?_ (duties_cons ?_ (duties_cons ?_ (duties_cons ?_ (duties_cons ?_ (duties_cons ?_ (duties_cons ?_ (duties_cons ?_ (duties_cons ?_ (duties_cons ?_ (duties_cons ?_ (duties_cons ?_ (duties_cons ?_ (duties_cons ?_ (duties_cons ?_ (duties_cons ?_ (duties_cons ?_ (duties_cons ?_ (duties_cons ?_ (duties_cons ?_ (duties_cons ?_ (duties_cons ?_ (duties_cons ?_ (duties_cons ?_ (duties_cons ?_ (duties_cons ?_ (duties_cons ?_ (duties_cons ?_ duties_nil))))))))))))))))))))))))))))))))))
      · refine duty_plain rfl fun f w1 hb H => ?_
        have e11 : f 11 = _ := H 11 (by decide)
        clear H
        have HB0 := Lib.hid hb; clear hb
        go_simp
        exact ⟨HB0.out, trivial, rfl⟩
      · refine duty_plain rfl fun f w1 hb H => ?_
        have e88 : f 88 = _ := H 88 (by decide)
        clear H
        have HB0 := Lib.hid hb; clear hb
        go_simp
        exact ⟨HB0.out, trivial, rfl⟩
      · refine duty_plain rfl fun f w1 hb H => ?_
        have e89 : f 89 = _ := H 89 (by decide)
        clear H
        have HB0 := Lib.hid hb; clear hb
        go_simp
        exact ⟨HB0.out, trivial, rfl⟩
      · refine duty_guard _ _ _ rfl rfl fun f w1 hb H => ⟨H 90 (by decide), ?_⟩
        have e16 : f 16 = _ := H 16 (by decide)
        clear H
        have HB0 := Lib.hid hb; clear hb
        go_simp
        exact ⟨HB0.out, trivial, rfl⟩
      · refine duty_guard _ _ _ rfl rfl fun f w1 hb H => ⟨H 90 (by decide), ?_⟩
        have e91 : f 91 = _ := H 91 (by decide)
        clear H
        have HB0 := Lib.hid hb; clear hb
        go_simp
        exact ⟨HB0.out, trivial, rfl⟩
      · refine duty_plain rfl fun f w1 hb H => ?_
        have e90 : f 90 = _ := H 90 (by decide)
        have e92 : f 92 = _ := H 92 (by decide)
        clear H
        have HB0 := Lib.hid hb; clear hb
        go_simp
        exact ⟨HB0.out, trivial, rfl⟩
      · refine duty_plain rfl fun f w1 hb H => ?_
        have e93 : f 93 = _ := H 93 (by decide)
        clear H
        have HB0 := Lib.hid hb; clear hb
        go_simp
        exact ⟨HB0.out, trivial, rfl⟩
      · refine duty_guard _ _ _ rfl rfl fun f w1 hb H => ⟨H 94 (by decide), ?_⟩
        have e18 : f 18 = _ := H 18 (by decide)
        clear H
        have HB0 := Lib.hid hb; clear hb
        go_simp
        exact ⟨HB0.out, trivial, rfl⟩
      · refine duty_guard _ _ _ rfl rfl fun f w1 hb H => ⟨H 94 (by decide), ?_⟩
        have e95 : f 95 = _ := H 95 (by decide)
        clear H
        have HB0 := Lib.hid hb; clear hb
        go_simp
        exact ⟨HB0.out, trivial, rfl⟩
      · refine duty_plain rfl fun f w1 hb H => ?_
        have e94 : f 94 = _ := H 94 (by decide)
        have e96 : f 96 = _ := H 96 (by decide)
        clear H
        have HB0 := Lib.hid hb; clear hb
        go_simp
        exact ⟨HB0.out, trivial, rfl⟩
      · refine duty_plain rfl fun f w1 hb H => ?_
        have e97 : f 97 = _ := H 97 (by decide)
        clear H
        have HB0 := Lib.hid hb; clear hb
        go_simp
        exact ⟨HB0.out, trivial, rfl⟩
      · refine duty_guard _ _ _ rfl rfl fun f w1 hb H => ⟨H 98 (by decide), ?_⟩
        have e13 : f 13 = _ := H 13 (by decide)
        clear H
        have HB0 := Lib.hid hb
        have c130 := (H13.out.grow hb).cell 0
        have c131 := (H13.out.grow hb).cell 1
        simp only [List.getElem?_cons_zero, List.getElem?_cons_succ] at c130 c131
        clear hb
        go_simp
        exact ⟨HB0.out, trivial, rfl⟩
      · refine duty_guard _ _ _ rfl rfl fun f w1 hb H => ⟨H 98 (by decide), ?_⟩
        have e10 : f 10 = _ := H 10 (by decide)
        clear H
        have HB0 := Lib.hid hb
        have c4100 := (HS4.out.b10.grow hb).cell 0
        have c4101 := (HS4.out.b10.grow hb).cell 1
        simp only [List.getElem?_cons_zero, List.getElem?_cons_succ] at c4100 c4101
        clear hb
        go_simp
        exact ⟨HB0.out, trivial, rfl⟩
      · refine duty_guard _ _ _ rfl rfl fun f w1 hb H => ⟨H 98 (by decide), ?_⟩
        have e99 : f 99 = _ := H 99 (by decide)
        have e100 : f 100 = _ := H 100 (by decide)
        clear H
        have HB0 := Lib.hid hb; clear hb
        go_simp
        exact ⟨HB0.out, trivial, rfl⟩
      · refine duty_plain rfl fun f w1 hb H => ?_
        have e98 : f 98 = _ := H 98 (by decide)
        have e101 : f 101 = _ := H 101 (by decide)
        clear H
        have HB0 := Lib.hid hb; clear hb
        go_simp
        exact ⟨HB0.out, trivial, rfl⟩
      · refine duty_plain rfl fun f w1 hb H => ?_
        have e102 : f 102 = _ := H 102 (by decide)
        clear H
        have HB0 := Lib.hid hb; clear hb
        go_simp
        exact ⟨HB0.out, trivial, rfl⟩
      · refine duty_guard _ _ _ rfl rfl fun f w1 hb H => ⟨H 103 (by decide), ?_⟩
        have e15 : f 15 = _ := H 15 (by decide)
        clear H
        have HB0 := Lib.hid hb
        have c150 := (H15.out.grow hb).cell 0
        have c151 := (H15.out.grow hb).cell 1
        simp only [List.getElem?_cons_zero, List.getElem?_cons_succ] at c150 c151
        clear hb
        go_simp
        exact ⟨HB0.out, trivial, rfl⟩
      · refine duty_guard _ _ _ rfl rfl fun f w1 hb H => ⟨H 103 (by decide), ?_⟩
        have e10 : f 10 = _ := H 10 (by decide)
        clear H
        have HB0 := Lib.hid hb
        have c4100 := (HS4.out.b10.grow hb).cell 0
        have c4101 := (HS4.out.b10.grow hb).cell 1
        simp only [List.getElem?_cons_zero, List.getElem?_cons_succ] at c4100 c4101
        clear hb
        go_simp
        exact ⟨HB0.out, trivial, rfl⟩
      · refine duty_guard _ _ _ rfl rfl fun f w1 hb H => ⟨H 103 (by decide), ?_⟩
        have e104 : f 104 = _ := H 104 (by decide)
        have e105 : f 105 = _ := H 105 (by decide)
        clear H
        have hv := HV2.out
        have HB0 := Lib.hid hb
        clear hb
        go_simp
        cases D <;> exact ⟨HB0.out, trivial, rfl⟩
      · refine duty_guard _ _ _ rfl rfl fun f w1 hb H => ⟨H 103 (by decide), ?_⟩
        have e14 : f 14 = _ := H 14 (by decide)
        clear H
        have HB0 := Lib.hid hb; clear hb
        go_simp
        exact ⟨HB0.out, trivial, rfl⟩
      · refine duty_guard _ _ _ rfl rfl fun f w1 hb H => ⟨H 103 (by decide), ?_⟩
        have e106 : f 106 = _ := H 106 (by decide)
        have e107 : f 107 = _ := H 107 (by decide)
        clear H
        have HB0 := Lib.hid hb; clear hb
        go_simp
        exact ⟨HB0.out, trivial, rfl⟩
      · refine duty_plain rfl fun f w1 hb H => ?_
        have e103 : f 103 = _ := H 103 (by decide)
        have e108 : f 108 = _ := H 108 (by decide)
        clear H
        have HB0 := Lib.hid hb; clear hb
        go_simp
        exact ⟨HB0.out, trivial, rfl⟩
      · refine duty_plain rfl fun f w1 hb H => ?_
        have e109 : f 109 = _ := H 109 (by decide)
        clear H
        have HB0 := Lib.hid hb; clear hb
        go_simp
        exact ⟨HB0.out, trivial, rfl⟩
      · refine duty_guard _ _ _ rfl rfl fun f w1 hb H => ⟨H 110 (by decide), ?_⟩
        have e17 : f 17 = _ := H 17 (by decide)
        clear H
        have HB0 := Lib.hid hb
        have c170 := (H17.out.grow hb).cell 0
        have c171 := (H17.out.grow hb).cell 1
        simp only [List.getElem?_cons_zero, List.getElem?_cons_succ] at c170 c171
        clear hb
        go_simp
        exact ⟨HB0.out, trivial, rfl⟩
      · refine duty_guard _ _ _ rfl rfl fun f w1 hb H => ⟨H 110 (by decide), ?_⟩
        have e12 : f 12 = _ := H 12 (by decide)
        clear H
        have HB0 := Lib.hid hb; clear hb
        go_simp
        exact ⟨HB0.out, trivial, rfl⟩
      · refine duty_guard _ _ _ rfl rfl fun f w1 hb H => ⟨H 110 (by decide), ?_⟩
        have e112 : f 112 = _ := H 112 (by decide)
        clear H
        have HB0 := Lib.hid hb
        have c4120 := (HS4.out.b12.grow hb).cell 0
        simp only [List.getElem?_cons_zero, List.getElem?_cons_succ] at c4120
        clear hb
        go_simp
        exact ⟨HB0.out, trivial, rfl⟩
      · refine duty_guard _ _ _ rfl rfl fun f w1 hb H => ⟨H 110 (by decide), ?_⟩
        have e8 : f 8 = _ := H 8 (by decide)
        clear H
        have HB0 := Lib.hid hb; clear hb
        go_simp
        exact ⟨HB0.out, trivial, rfl⟩
      · refine duty_guard _ _ _ rfl rfl fun f w1 hb H => ⟨H 110 (by decide), ?_⟩
        have e113 : f 113 = _ := H 113 (by decide)
        have e114 : f 114 = _ := H 114 (by decide)
        clear H
        have HB0 := Lib.hid hb
        clear hb
        go_simp
        exact ⟨HB0.out, trivial, rfl⟩
      · refine duty_guard _ _ _ rfl rfl fun f w1 hb H => ⟨H 110 (by decide), ?_⟩
        have e115 : f 115 = _ := H 115 (by decide)
        clear H
        have HB0 := Lib.hid hb
        have hcx := cell_here (rMm.grow HS4.out.rx hb) HNX.out ha512
        rw [HGX.out] at hcx
        have kx0 := hcx.1
        have kx1 := hcx.2
        simp only at kx0 kx1
        clear hcx hb
        go_simp
        exact ⟨HB0.out, trivial, rfl⟩
      · refine duty_guard _ _ _ rfl rfl fun f w1 hb H => ⟨H 110 (by decide), ?_⟩
        have e111 : f 111 = _ := H 111 (by decide)
        have e116 : f 116 = _ := H 116 (by decide)
        clear H
        have HB0 := Lib.hid hb; clear hb
        go_simp
        exact ⟨HB0.out, trivial, rfl⟩
      · refine duty_plain rfl fun f w1 hb H => ?_
        have e110 : f 110 = _ := H 110 (by decide)
        have e117 : f 117 = _ := H 117 (by decide)
        clear H
        have HB0 := Lib.hid hb; clear hb
        go_simp
        exact ⟨HB0.out, trivial, rfl⟩
      · refine duty_plain rfl fun f w1 hb H => ?_
        have e118 : f 118 = _ := H 118 (by decide)
        clear H
        have HB0 := Lib.hid hb; clear hb
        go_simp
        exact ⟨HB0.out, trivial, rfl⟩
      · refine duty_guard _ _ _ rfl rfl fun f w1 hb H => ⟨H 119 (by decide), ?_⟩
        clear H
        have HB0 := Lib.hid hb
        clear hb
        go_simp
        refine (awake5_any _).mono ?_
        rintro e w10 ⟨rfl, hg10⟩
        exact ⟨_, rfl, grown_trans HB0.out hg10, trivial, rfl⟩
      · refine duty_plain rfl fun f w1 hb H => ?_
        have e119 : f 119 = _ := H 119 (by decide)
        have e120 : f 120 = _ := H 120 (by decide)
        clear H
        have HB0 := Lib.hid hb; clear hb
        go_simp
        exact ⟨HB0.out, trivial, rfl⟩
      · refine duty_plain rfl fun f w1 hb H => ?_
        have e121 : f 121 = _ := H 121 (by decide)
        clear H
        have HB0 := Lib.hid hb; clear hb
        go_simp
        exact ⟨HB0.out, trivial, rfl⟩
    · intro f w9 hb hE
      simp only [putAll, Act.put, slotV, List.setIfInBounds_toArray, List.set_cons_succ, List.set_cons_zero]
      have e6 : f 6 = .bool true := hE.2.2.2.2.2.2.2.2.2.2.2.2.2.2.2.2.2.2.2.2.2.2.2.2.2.2.2.2.2.2.2.2.2.2.1
      have HB9 := Lib.hid hb
      clear hb hE
      rw [e6]
      go_wp2_with fail
      go_ret
      exact ⟨rfl, grown_trans HG7.out HB9.out⟩
    )

end Go.Proofs.Ytndmcnddgcifiaa
