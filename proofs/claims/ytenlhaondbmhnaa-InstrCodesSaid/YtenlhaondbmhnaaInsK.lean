/- The law InstrCodes, walked; no condition. -/
import Derived.Test.YtenlhaondbmhnaaInsG
import Derived.Test.YtenlhaondbmhnaaInsW
import Derived.Test.YtenlhaondbmhnaaSame
import Derived.Test.YtenlhaondbmhnaaBent
namespace Go.Proofs.Ytenlhaondbmhnaa
open Go.RowKit

def encB (op a b c i : Int) : List Int := if ivB op a b c i = true then [op, a, b, c, i / 256, i % 256] else []
def encE (op a b c i : Int) : Int := if ivB op a b c i = true then 0 else 1
def EncPost (xs : List Int) (err : Int) (w : World) (e : Ending) (w' : World) : Prop :=
  ∃ A c, e = .returned (.tuple #[.slice A xs.length c, .int .i64 err]) ∧ Ints .u8 w' (fun k => k < w'.heap.size) A xs ∧ w.grownBy w' none
theorem instr_Encode_any (op a b c i : Int) (w : World) : Calls Try.prog 15 #[.agg #[.int .i64 op, .int .i64 a, .int .i64 b, .int .i64 c, .int .i64 i]] w (EncPost (encB op a b c i) (encE op a b c i) w) := by
  cases hv : ivB op a b c i
  · refine (instr_Encode_no op a b c i w hv).mono ?_
    rintro e w' ⟨rfl, hg⟩
    exact ⟨none, 0, by simp [encB, encE, hv], by simp [encB, hv]; exact Row.nil _ _ _, hg⟩
  · refine (instr_Encode_yes op a b c i w hv).mono ?_
    rintro e w' ⟨A, rfl, hI, hg⟩
    exact ⟨A, 6, by simp [encB, encE, hv], by simp only [encB, hv, if_true]; exact Row.sub hI fun k hk => hk.2, hg⟩
theorem ref06_Encode_any (op a b c i : Int) (w : World) : Calls Try.prog 9 #[.agg #[.int .i64 op, .int .i64 a, .int .i64 b, .int .i64 c, .int .i64 i]] w (EncPost (encB op a b c i) (encE op a b c i) w) := by
  cases hv : ivB op a b c i
  · refine (ref06_Encode_no op a b c i w hv).mono ?_
    rintro e w' ⟨rfl, hg⟩
    exact ⟨none, 0, by simp [encB, encE, hv], by simp [encB, hv]; exact Row.nil _ _ _, hg⟩
  · refine (ref06_Encode_yes op a b c i w hv).mono ?_
    rintro e w' ⟨A, rfl, hI, hg⟩
    exact ⟨A, 6, by simp [encB, encE, hv], by simp only [encB, hv, if_true]; exact Row.sub hI fun k hk => hk.2, hg⟩

/-- Some instruction. -/
def SAgg (v : Value) (_ : World) : Prop := ∃ op a b c i : Int, v = .agg #[.int .i64 op, .int .i64 a, .int .i64 b, .int .i64 c, .int .i64 i]
theorem SAgg.kept {R : World → World → Prop} (w w' : World) (v : Value) (_ : R w w') (h : SAgg v w) : SAgg v w' := h
/-- A row of four instructions above the deck. -/
def SRow (g : Nat) (v : Value) (w : World) : Prop := ∃ (q : Nat) (f : Nat → Int), v = .slice (some ⟨q, 0, none⟩) 4 4 ∧ g < q ∧
  Bk w q 29 [.int .i64 (f 0), .int .i64 (f 1), .int .i64 (f 2), .int .i64 (f 3), .int .i64 (f 4), .int .i64 (f 5), .int .i64 (f 6), .int .i64 (f 7), .int .i64 (f 8), .int .i64 (f 9),
    .int .i64 (f 10), .int .i64 (f 11), .int .i64 (f 12), .int .i64 (f 13), .int .i64 (f 14), .int .i64 (f 15), .int .i64 (f 16), .int .i64 (f 17), .int .i64 (f 18), .int .i64 (f 19)]
theorem SRow.kept {g : Nat} (w w' : World) (v : Value) (hr : Up g w w') (h : SRow g v w) : SRow g v w' :=
  let ⟨q, f, e, hq, hB⟩ := h; ⟨q, f, e, hq, hB.keep (hr.2 q hB.hi (by omega))⟩
def pick20 (x0 x1 x2 x3 x4 x5 x6 x7 x8 x9 x10 x11 x12 x13 x14 x15 x16 x17 x18 x19 : Int) : Nat → Int
  | 0 => x0 | 1 => x1 | 2 => x2 | 3 => x3 | 4 => x4 | 5 => x5 | 6 => x6 | 7 => x7 | 8 => x8 | 9 => x9
  | 10 => x10 | 11 => x11 | 12 => x12 | 13 => x13 | 14 => x14 | 15 => x15 | 16 => x16 | 17 => x17 | 18 => x18 | _ => x19
/-- Targets that a region has made. -/
def STgt (xs : List Int) (v : Value) (w : World) : Prop := ∃ A c, v = .slice A xs.length c ∧ Ints .i64 w (fun k => k < w.heap.size) A xs
theorem STgt.kept {xs : List Int} (w w' : World) (v : Value) (hr : w.grownBy w' none) (h : STgt xs v w) : STgt xs v w' :=
  let ⟨A, c, e, hI⟩ := h; ⟨A, c, e, hI.low hr⟩

set_option maxRecDepth 100000 in
set_option maxHeartbeats 4000000 in
theorem lawCodes_any (op0 a0 b0 c0 i0 : Int) (A : Option Addr) (L : List Int) (cp : Nat) (what by_ pc : Int) (w : World) (hl : L.length ≤ 9223372036854775807) (hw : I64s L)
    (hw0 : -9223372036854775808 ≤ what) (hw1 : what ≤ 9223372036854775807) (hb0 : -9223372036854775808 ≤ by_) (hb1 : by_ ≤ 9223372036854775807) (hp0 : -9223372036854775808 ≤ pc) (hp1 : pc ≤ 9223372036854775807)
    (h : Ints .i64 w (fun k => k < w.heap.size) A L) :
    Calls Try.prog 6 #[.agg #[.int .i64 op0, .int .i64 a0, .int .i64 b0, .int .i64 c0, .int .i64 i0], .slice A L.length cp, .int .i64 what, .int .i64 by_, .int .i64 pc] w (BoolGrown true w) := by
  have hg0 : w.grownBy (w.alloc (.cells #[.int .i64 op0, .int .i64 a0, .int .i64 b0, .int .i64 c0, .int .i64 i0] 29)) none := grown_alloc (grown_refl _ _) _
  have HL := Lib.hid (h.low hg0)
  have HR0 := Lib.hid (show Bk (w.alloc (.cells #[.int .i64 op0, .int .i64 a0, .int .i64 b0, .int .i64 c0, .int .i64 i0] 29)) w.heap.size 29 [.int .i64 op0, .int .i64 a0, .int .i64 b0, .int .i64 c0, .int .i64 i0] from Bk.new)
  have HG0 := Lib.hid hg0
  have HA := Lib.hid (And.intro hw0 hw1)
  have HBb := Lib.hid (And.intro hb0 hb1)
  have HP := Lib.hid (And.intro hp0 hp1)
  clear h hg0 hw0 hw1 hb0 hb1 hp0 hp1
  go_enter Try.func6, Try.ntmps6
  go_wp2_with fail
  generalize w.alloc (.cells #[.int .i64 op0, .int .i64 a0, .int .i64 b0, .int .i64 c0, .int .i64 i0] 29) = W0 at *
  refine (mkNew_any A L cp W0).mono ?_
  rintro e W1 ⟨rfl, rfl⟩
  have hD1 := deck_new (c := cp) HL.out (fun k hk => hk) hl hw
  have hLW : LawW W0 L (W0.alloc (.cells #[.slice A L.length cp, .int .i64 0] 49)) := ⟨grown_alloc (grown_refl _ _) _, 0, hD1⟩
  have HD1 := Lib.hid hD1
  have HLW := Lib.hid hLW
  clear hD1 hLW HL hl hw
  go_wp2_with fail
  refine (deckInstr_any (fun k => k < W0.heap.size) W0.heap.size L 0 _ (fun k hk => by simp; omega) HD1.out).mono ?_
  rintro e w1 ⟨o1, a1, b1, c1, i1, hv1, rfl, hd⟩
  have hlw1 := HLW.out.deal hd
  have HLW1 := Lib.hid (hlw1.alloc (.cells #[.int .i64 o1, .int .i64 a1, .int .i64 b1, .int .i64 c1, .int .i64 i1] 29))
  have hX : Blk W0.heap.size (w1.alloc (.cells #[.int .i64 o1, .int .i64 a1, .int .i64 b1, .int .i64 c1, .int .i64 i1] 29)) w1.heap.size 29 [.int .i64 o1, .int .i64 a1, .int .i64 b1, .int .i64 c1, .int .i64 i1] := Blk.new hlw1.lt
  have HX := Lib.hid hX
  clear hlw1 hd hX HD1 HLW hv1
  go_wp2_with fail
  generalize w1.alloc (.cells #[.int .i64 o1, .int .i64 a1, .int .i64 b1, .int .i64 c1, .int .i64 i1] 29) = w8 at *
  generalize w1.heap.size = q12 at *
  obtain ⟨q5, hq5⟩ : ∃ q, q = w.heap.size := ⟨_, rfl⟩
  refine wp_region_rely (fun w' => LawW W0 L w' ∧ Up W0.heap.size w8 w') (Up W0.heap.size)
    [SVal (.agg #[.int .i64 op0, .int .i64 a0, .int .i64 b0, .int .i64 c0, .int .i64 i0]), SVal (.agg #[.int .i64 o1, .int .i64 a1, .int .i64 b1, .int .i64 c1, .int .i64 i1]), SVal (.agg #[.int .i64 o1, .int .i64 a1, .int .i64 b1, .int .i64 c1, .int .i64 i1]), SVal (.int .i64 what), SVal (.int .i64 by_), SAgg, SVal (.pointer (some ⟨W0.heap.size, 0, none⟩)), SAgg, SVal (.int .i64 what), SVal (.int .i64 by_), SAgg, SRow W0.heap.size, SVal (.int .i64 4), SVal (.int .i64 0)]
    92 (by kernel_rfl) rfl (by kernel_rfl) ⟨HLW1.out.none (grown_drew (grown_refl _ _)), RK.refl _ _⟩ (fun _ => RK.refl _ _) ?_ ?_ ?_
  · exact ⟨SVal.kept, SVal.kept, SVal.kept, SVal.kept, SVal.kept, SAgg.kept, SVal.kept, SAgg.kept, SVal.kept, SVal.kept, SAgg.kept, SRow.kept, SVal.kept, SVal.kept, trivial⟩
  · refine duties_cons ?_ (duties_cons ?_ (duties_cons ?_ (duties_cons ?_ (duties_cons ?_ (duties_cons ?_ (duties_cons ?_ (duties_cons ?_ (duties_cons ?_ (duties_cons ?_ (duties_cons ?_ (duties_cons ?_ (duties_cons ?_ (duties_cons ?_ duties_nil)))))))))))))
    · refine duty_plain rfl fun f w1 hb H => ?_
      have e5 : f 5 = _ := H 5 (by decide)
      clear H
      have hr := HR0.out.keep (hb.1.grown.block _ HR0.out.hi (by simp))
      have k0 := hr.cell 0
      have k1 := hr.cell 1
      have k2 := hr.cell 2
      have k3 := hr.cell 3
      have k4 := hr.cell 4
      simp only [List.getElem?_cons_zero, List.getElem?_cons_succ] at k0 k1 k2 k3 k4
      clear hr
      have HB := Lib.hid hb; clear hb
      go_simp
      exact ⟨HB.out, RK.refl _ _, rfl⟩
    · refine duty_plain rfl fun f w1 hb H => ?_
      have e12 : f 12 = _ := H 12 (by decide)
      clear H
      have hx := HX.out.up hb.2
      have k0 := hx.cell 0
      have k1 := hx.cell 1
      have k2 := hx.cell 2
      have k3 := hx.cell 3
      have k4 := hx.cell 4
      simp only [List.getElem?_cons_zero, List.getElem?_cons_succ] at k0 k1 k2 k3 k4
      clear hx
      have HB := Lib.hid hb; clear hb
      go_simp
      exact ⟨HB.out, RK.refl _ _, rfl⟩
    · refine duty_plain rfl fun f w1 hb H => ?_
      have e12 : f 12 = _ := H 12 (by decide)
      clear H
      have hx := HX.out.up hb.2
      have k0 := hx.cell 0
      have k1 := hx.cell 1
      have k2 := hx.cell 2
      have k3 := hx.cell 3
      have k4 := hx.cell 4
      simp only [List.getElem?_cons_zero, List.getElem?_cons_succ] at k0 k1 k2 k3 k4
      clear hx
      have HB := Lib.hid hb; clear hb
      go_simp
      exact ⟨HB.out, RK.refl _ _, rfl⟩
    · refine duty_plain rfl fun f w1 hb H => ?_
      have e2 : f 2 = _ := H 2 (by decide)
      clear H
      have HB := Lib.hid hb; clear hb
      go_simp
      exact ⟨HB.out, RK.refl _ _, rfl⟩
    · refine duty_plain rfl fun f w1 hb H => ?_
      have e3 : f 3 = _ := H 3 (by decide)
      clear H
      have HB := Lib.hid hb; clear hb
      go_simp
      exact ⟨HB.out, RK.refl _ _, rfl⟩
    · refine duty_plain rfl fun f w1 hb H => ?_
      have e25 : f 25 = _ := H 25 (by decide)
      have e26 : f 26 = _ := H 26 (by decide)
      have e27 : f 27 = _ := H 27 (by decide)
      clear H
      go_simp
      refine (bent_any _ _ _ _ _ what by_ _ HA.out.1 HA.out.2 HBb.out.1 HBb.out.2).mono ?_
      rintro e w7 ⟨p', a', b', c', i', rfl, hg7⟩
      exact ⟨_, rfl, ⟨hb.1.none hg7, hb.2.trans (Up.of_none hg7)⟩, Up.of_none hg7, p', a', b', c', i', rfl⟩
    · refine duty_plain rfl fun f w1 hb H => ?_
      have e11 : f 11 = _ := H 11 (by decide)
      clear H
      have HB := Lib.hid hb; clear hb
      go_simp
      exact ⟨HB.out, RK.refl _ _, rfl⟩
    · refine duty_plain rfl fun f w1 hb H => ?_
      have e29 : f 29 = _ := H 29 (by decide)
      clear H
      obtain ⟨jx, hjx⟩ := hb.1.deck
      go_simp
      refine (deckInstr_any (fun k => k < W0.heap.size) W0.heap.size L jx _ hb.1.low hjx).mono ?_
      rintro e w7 ⟨p', a', b', c', i', _, rfl, hd7⟩
      exact ⟨_, rfl, ⟨hb.1.deal hd7, hb.2.trans hd7.up⟩, hd7.up, p', a', b', c', i', rfl⟩
    · refine duty_plain rfl fun f w1 hb H => ?_
      have e2 : f 2 = _ := H 2 (by decide)
      clear H
      have HB := Lib.hid hb; clear hb
      go_simp
      exact ⟨HB.out, RK.refl _ _, rfl⟩
    · refine duty_plain rfl fun f w1 hb H => ?_
      have e3 : f 3 = _ := H 3 (by decide)
      clear H
      have HB := Lib.hid hb; clear hb
      go_simp
      exact ⟨HB.out, RK.refl _ _, rfl⟩
    · refine duty_plain rfl fun f w1 hb H => ?_
      have s30 := H 30 (by decide)
      have e31 : f 31 = _ := H 31 (by decide)
      have e32 : f 32 = _ := H 32 (by decide)
      clear H
      obtain ⟨p, a, b, c, i, es⟩ := s30
      go_simp
      refine (bent_any _ _ _ _ _ what by_ _ HA.out.1 HA.out.2 HBb.out.1 HBb.out.2).mono ?_
      rintro e w7 ⟨p', a', b', c', i', rfl, hg7⟩
      exact ⟨_, rfl, ⟨hb.1.none hg7, hb.2.trans (Up.of_none hg7)⟩, Up.of_none hg7, p', a', b', c', i', rfl⟩
    · refine duty_plain rfl fun f w1 hb H => ?_
      have e23 : f 23 = _ := H 23 (by decide)
      have e24 : f 24 = _ := H 24 (by decide)
      have s28 := H 28 (by decide)
      have s33 := H 33 (by decide)
      clear H
      obtain ⟨p2, a2, b2, c2, i2, e28⟩ := s28
      obtain ⟨p3, a3, b3, c3, i3, e33⟩ := s33
      have hlt := hb.1.lt
      have HB := Lib.hid hb; clear hb
      go_simp
      exact ⟨⟨HB.out.1.alloc _, HB.out.2.trans (Up.alloc _ _ _)⟩, Up.alloc _ _ _, w1.heap.size, pick20 op0 a0 b0 c0 i0 o1 a1 b1 c1 i1 p2 a2 b2 c2 i2 p3 a3 b3 c3 i3, rfl, hlt, Bk.new⟩
    · refine duty_plain rfl fun f w1 hb H => ?_
      have s34 := H 34 (by decide)
      clear H
      obtain ⟨q, fv, e34, _, _⟩ := s34
      have HB := Lib.hid hb; clear hb
      go_simp
      exact ⟨HB.out, RK.refl _ _, rfl⟩
    · refine duty_plain rfl fun f w1 hb H => ?_
      clear H
      have HB := Lib.hid hb; clear hb
      go_simp
      exact ⟨HB.out, RK.refl _ _, rfl⟩
  · intro f wL hb hE
    simp only [putAll, Act.put, slotV, List.setIfInBounds_toArray, List.set_cons_succ, List.set_cons_zero]
    simp only [Ends, tagV, SVal, and_true] at hE
    have s34 := hE.2.2.2.2.2.2.2.2.2.2.2.1
    have e35 : f 35 = .int .i64 4 := hE.2.2.2.2.2.2.2.2.2.2.2.2.1
    have e36 : f 36 = .int .i64 0 := hE.2.2.2.2.2.2.2.2.2.2.2.2.2
    clear hE
    obtain ⟨q34, fv, e34, hq34, hK⟩ := s34
    rw [e34, e35, e36]
    have HG9 := Lib.hid (grown_trans HG0.out hb.1.grown)
    have HK := Lib.hid hK
    have HZ := Lib.hid (show ∀ k, k < 4 → ∃ o a b c i : Int, wL.cell? ⟨q34, k * 5, none⟩ = some (.int .i64 o) ∧ wL.cell? ⟨q34, k * 5 + 1, none⟩ = some (.int .i64 a) ∧ wL.cell? ⟨q34, k * 5 + 2, none⟩ = some (.int .i64 b) ∧ wL.cell? ⟨q34, k * 5 + 3, none⟩ = some (.int .i64 c) ∧ wL.cell? ⟨q34, k * 5 + 4, none⟩ = some (.int .i64 i) from by
      intro k hk
      have : k = 0 ∨ k = 1 ∨ k = 2 ∨ k = 3 := by omega
      rcases this with rfl | rfl | rfl | rfl <;> exact ⟨_, _, _, _, _, by rw [hK.cell]; rfl, by rw [hK.cell]; rfl, by rw [hK.cell]; rfl, by rw [hK.cell]; rfl, by rw [hK.cell]; rfl⟩)
    obtain ⟨pm, hpm⟩ : ∃ m, m = pc % 64 := ⟨_, rfl⟩
    have Hpb := Lib.hid (show 0 ≤ pm ∧ pm < 64 by omega)
    have Hpm := Lib.hid hpm.symm
    have HP0 := HP
    clear HP hK hb hpm e34 e35 e36 HLW1 HX HR0 HG0
    go_wp2_with fail
    go_loopw [36] (fun i wr => ∃ k : Nat, k ≤ 4 ∧ i = .int .i64 k ∧ wL.grownBy wr none) (fun i _ => 4 - (intOf i).toNat)
    case atStart => exact ⟨0, by omega, rfl, grown_refl _ _⟩
    case round =>
      obtain ⟨k, hk4, rfl, hgr⟩ := hrel
      by_cases hlt : k < 4
      · have hlti : (k : Int) < 4 := by omega
        obtain ⟨o, a, b, c, i, y0, y1, y2, y3, y4⟩ := HZ.out k hlt
        have hgc := (gcell hgr).1
        rw [← hgc _ _ HK.out.hi] at y0 y1 y2 y3 y4
        have HGr := Lib.hid hgr
        clear hgr hgc
        have hgA : wr.grownBy (wr.alloc (.cells #[.int .i64 o, .int .i64 a, .int .i64 b, .int .i64 c, .int .i64 i] 29)) none := grown_alloc (grown_refl _ _) _
        have hKA : Bk (wr.alloc (.cells #[.int .i64 o, .int .i64 a, .int .i64 b, .int .i64 c, .int .i64 i] 29)) wr.heap.size 29 [.int .i64 o, .int .i64 a, .int .i64 b, .int .i64 c, .int .i64 i] := Bk.new
        have HgA := Lib.hid hgA
        have HKA := Lib.hid hKA
        clear hgA hKA
        obtain ⟨xs, hxs⟩ : ∃ xs, xs = encB o a b c i := ⟨_, rfl⟩
        obtain ⟨er, her⟩ : ∃ x, x = encE o a b c i := ⟨_, rfl⟩
        have Hxs := Lib.hid hxs; have Her := Lib.hid her
        clear hxs her
        go_wp2_with fail
        refine (instr_Encode_any o a b c i _).mono ?_
        rw [← Hxs.out, ← Her.out]
        rintro e wa ⟨P, p, rfl, hP, hga⟩
        have hKa := HKA.out.grow hga
        have k0 := hKa.cell 0
        have k1 := hKa.cell 1
        have k2 := hKa.cell 2
        have k3 := hKa.cell 3
        have k4 := hKa.cell 4
        have kl := hKa.hi
        simp only [List.getElem?_cons_zero, List.getElem?_cons_succ] at k0 k1 k2 k3 k4
        have HKa := Lib.hid hKa
        have HPa := Lib.hid hP
        have HGa := Lib.hid (grown_trans (grown_trans HGr.out HgA.out) hga)
        clear hKa hP hga y0 y1 y2 y3 y4 HKA HgA HGr
        go_wp2_with fail
        refine (ref06_Encode_any o a b c i _).mono ?_
        rw [← Hxs.out, ← Her.out]
        rintro e wb ⟨R, r, rfl, hR, hgb⟩
        have HZ8 := Lib.hid (HKa.out.grow hgb)
        have HP := Lib.hid (HPa.out.low hgb)
        have HR := Lib.hid hR
        have HGb := Lib.hid (grown_trans HGa.out hgb)
        clear hR hgb k0 k1 k2 k3 k4 kl HKa HPa HGa Hxs Her
        obtain ⟨s, es⟩ : ∃ s, s = strOfNums xs := ⟨_, rfl⟩
        have Hes := Lib.hid es.symm
        obtain ⟨vb, hvb⟩ : ∃ v, v = ivB o a b c i := ⟨_, rfl⟩
        have Hvb := Lib.hid hvb.symm
        obtain ⟨br, hbr⟩ : ∃ v, v = brB o := ⟨_, rfl⟩
        have Hbr := Lib.hid hbr.symm
        clear es hvb hbr
        go_wp2_with fail
        generalize wr.heap.size = q14 at *
        refine wp_region_rely (fun w' => wb.grownBy w' none) (fun _ _ => True)
          [SVal (.agg #[.int .i64 o, .int .i64 a, .int .i64 b, .int .i64 c, .int .i64 i]), SVal (.bool vb), SVal (.agg #[.int .i64 o, .int .i64 a, .int .i64 b, .int .i64 c, .int .i64 i]), SVal (.bool vb), SVal (.bool false), SVal (.bool false), SVal (.slice P xs.length p), SVal (.string s), SVal (.slice R xs.length r), SVal (.string s), SVal (.bool false), SVal (.bool false), SVal (.bool false), SVal (.int .i64 er), SVal (.int .i64 er), SVal (.bool false), SVal (.bool false), SVal (.bool false), SVal (.pointer (some ⟨q14, 0, none⟩)), SVal (.int .i64 o), SVal (.bool br), SVal (.pointer (some ⟨q14, 0, none⟩)), SVal (.int .i64 o), SVal (.bool br), SVal (.bool false), SVal (.bool false)]
          92 (by kernel_rfl) rfl (by kernel_rfl) (grown_drew (grown_refl _ _)) (fun _ => trivial) ?_ ?_ ?_
        · exact ⟨SVal.kept, SVal.kept, SVal.kept, SVal.kept, SVal.kept, SVal.kept, SVal.kept, SVal.kept, SVal.kept, SVal.kept, SVal.kept, SVal.kept, SVal.kept, SVal.kept, SVal.kept, SVal.kept, SVal.kept, SVal.kept, SVal.kept, SVal.kept, SVal.kept, SVal.kept, SVal.kept, SVal.kept, SVal.kept, SVal.kept, trivial⟩
        · refine duties_cons ?_ (duties_cons ?_ (duties_cons ?_ (duties_cons ?_ (duties_cons ?_ (duties_cons ?_ (duties_cons ?_ (duties_cons ?_ (duties_cons ?_ (duties_cons ?_ (duties_cons ?_ (duties_cons ?_ (duties_cons ?_ (duties_cons ?_ (duties_cons ?_ (duties_cons ?_ (duties_cons ?_ (duties_cons ?_ (duties_cons ?_ (duties_cons ?_ (duties_cons ?_ (duties_cons ?_ (duties_cons ?_ (duties_cons ?_ (duties_cons ?_ (duties_cons ?_ duties_nil)))))))))))))))))))))))))
          · refine duty_plain rfl fun f w1 hb H => ?_
            have e14 : f 14 = _ := H 14 (by decide)
            clear H
            have hgc := (gcell hb).1
            have hz := (HZ8.out.grow hb)
            have k0 := hz.cell 0
            have k1 := hz.cell 1
            have k2 := hz.cell 2
            have k3 := hz.cell 3
            have k4 := hz.cell 4
            simp only [List.getElem?_cons_zero, List.getElem?_cons_succ] at k0 k1 k2 k3 k4
            clear hgc hz
            have HB := Lib.hid hb; clear hb
            go_simp
            exact ⟨HB.out, trivial, rfl⟩
          · refine duty_plain rfl fun f w1 hb H => ?_
            have e50 : f 50 = _ := H 50 (by decide)
            clear H
            go_simp
            refine (instr_Valid_any _ _ _ _ _ _).mono ?_
            rintro e w7 ⟨rfl, hg7⟩
            exact ⟨_, rfl, grown_trans hb hg7, trivial, congrArg Value.bool Hvb.out⟩
          · refine duty_plain rfl fun f w1 hb H => ?_
            have e14 : f 14 = _ := H 14 (by decide)
            clear H
            have hgc := (gcell hb).1
            have hz := (HZ8.out.grow hb)
            have k0 := hz.cell 0
            have k1 := hz.cell 1
            have k2 := hz.cell 2
            have k3 := hz.cell 3
            have k4 := hz.cell 4
            simp only [List.getElem?_cons_zero, List.getElem?_cons_succ] at k0 k1 k2 k3 k4
            clear hgc hz
            have HB := Lib.hid hb; clear hb
            go_simp
            exact ⟨HB.out, trivial, rfl⟩
          · refine duty_plain rfl fun f w1 hb H => ?_
            have e52 : f 52 = _ := H 52 (by decide)
            clear H
            go_simp
            refine (ref06_Valid_any _ _ _ _ _ _).mono ?_
            rintro e w7 ⟨rfl, hg7⟩
            exact ⟨_, rfl, grown_trans hb hg7, trivial, congrArg Value.bool Hvb.out⟩
          · refine duty_plain rfl fun f w1 hb H => ?_
            have e51 : f 51 = _ := H 51 (by decide)
            have e53 : f 53 = _ := H 53 (by decide)
            clear H
            have HB := Lib.hid hb; clear hb
            go_simp
            exact ⟨HB.out, trivial, by cases vb <;> rfl⟩
          · refine duty_plain rfl fun f w1 hb H => ?_
            have e54 : f 54 = _ := H 54 (by decide)
            clear H
            have hgc := (gcell hb).1
            go_simp
            exact ⟨hb, trivial, rfl⟩
          · refine duty_guard _ _ _ rfl rfl fun f w1 hb H => ⟨H 55 (by decide), ?_⟩
            have e15 : f 15 = _ := H 15 (by decide)
            clear H
            have hgc := (gcell hb).1
            go_simp
            exact ⟨hb, trivial, rfl⟩
          · refine duty_guard _ _ _ rfl rfl fun f w1 hb H => ⟨H 55 (by decide), ?_⟩
            have e56 : f 56 = _ := H 56 (by decide)
            clear H
            have hc := str_run p (HP.out.low hb)
            rw [Hes.out] at hc
            have HB := Lib.hid hb; clear hb
            go_simp
            exact ⟨HB.out, trivial, rfl⟩
          · refine duty_guard _ _ _ rfl rfl fun f w1 hb H => ⟨H 55 (by decide), ?_⟩
            have e17 : f 17 = _ := H 17 (by decide)
            clear H
            have hgc := (gcell hb).1
            go_simp
            exact ⟨hb, trivial, rfl⟩
          · refine duty_guard _ _ _ rfl rfl fun f w1 hb H => ⟨H 55 (by decide), ?_⟩
            have e58 : f 58 = _ := H 58 (by decide)
            clear H
            have hc := str_run r (HR.out.low hb)
            rw [Hes.out] at hc
            have HB := Lib.hid hb; clear hb
            go_simp
            exact ⟨HB.out, trivial, rfl⟩
          · refine duty_guard _ _ _ rfl rfl fun f w1 hb H => ⟨H 55 (by decide), ?_⟩
            have e57 : f 57 = _ := H 57 (by decide)
            have e59 : f 59 = _ := H 59 (by decide)
            clear H
            have HB := Lib.hid hb; clear hb
            go_simp
            first | exact ⟨HB.out, trivial, rfl⟩ | exact ⟨HB.out, trivial, by simp⟩ | exact ⟨HB.out, trivial, congrArg Value.bool (by simp)⟩
          · refine duty_plain rfl fun f w1 hb H => ?_
            have e55 : f 55 = _ := H 55 (by decide)
            have e60 : f 60 = _ := H 60 (by decide)
            clear H
            have hgc := (gcell hb).1
            go_simp
            exact ⟨hb, trivial, rfl⟩
          · refine duty_plain rfl fun f w1 hb H => ?_
            have e61 : f 61 = _ := H 61 (by decide)
            clear H
            have hgc := (gcell hb).1
            go_simp
            exact ⟨hb, trivial, rfl⟩
          · refine duty_guard _ _ _ rfl rfl fun f w1 hb H => ⟨H 62 (by decide), ?_⟩
            have e16 : f 16 = _ := H 16 (by decide)
            clear H
            have hgc := (gcell hb).1
            go_simp
            exact ⟨hb, trivial, rfl⟩
          · refine duty_guard _ _ _ rfl rfl fun f w1 hb H => ⟨H 62 (by decide), ?_⟩
            have e18 : f 18 = _ := H 18 (by decide)
            clear H
            have hgc := (gcell hb).1
            go_simp
            exact ⟨hb, trivial, rfl⟩
          · refine duty_guard _ _ _ rfl rfl fun f w1 hb H => ⟨H 62 (by decide), ?_⟩
            have e63 : f 63 = _ := H 63 (by decide)
            have e64 : f 64 = _ := H 64 (by decide)
            clear H
            have HB := Lib.hid hb; clear hb
            go_simp
            first | exact ⟨HB.out, trivial, rfl⟩ | exact ⟨HB.out, trivial, by simp⟩ | exact ⟨HB.out, trivial, congrArg Value.bool (by simp)⟩
          · refine duty_plain rfl fun f w1 hb H => ?_
            have e62 : f 62 = _ := H 62 (by decide)
            have e65 : f 65 = _ := H 65 (by decide)
            clear H
            have hgc := (gcell hb).1
            go_simp
            exact ⟨hb, trivial, rfl⟩
          · refine duty_plain rfl fun f w1 hb H => ?_
            have e66 : f 66 = _ := H 66 (by decide)
            clear H
            have hgc := (gcell hb).1
            go_simp
            exact ⟨hb, trivial, rfl⟩
          · refine duty_guard _ _ _ rfl rfl fun f w1 hb H => ⟨H 67 (by decide), ?_⟩
            have e14 : f 14 = _ := H 14 (by decide)
            clear H
            have hgc := (gcell hb).1
            go_simp
            exact ⟨hb, trivial, rfl⟩
          · refine duty_guard _ _ _ rfl rfl fun f w1 hb H => ⟨H 67 (by decide), ?_⟩
            have e68 : f 68 = _ := H 68 (by decide)
            clear H
            have hgc := (gcell hb).1
            have hz := (HZ8.out.grow hb)
            have k0 := hz.cell 0
            have k1 := hz.cell 1
            have k2 := hz.cell 2
            have k3 := hz.cell 3
            have k4 := hz.cell 4
            simp only [List.getElem?_cons_zero, List.getElem?_cons_succ] at k0 k1 k2 k3 k4
            clear hgc hz
            have HB := Lib.hid hb; clear hb
            go_simp
            exact ⟨HB.out, trivial, rfl⟩
          · refine duty_guard _ _ _ rfl rfl fun f w1 hb H => ⟨H 67 (by decide), ?_⟩
            have e69 : f 69 = _ := H 69 (by decide)
            clear H
            go_simp
            refine (instr_Branch_any _ _).mono ?_
            rintro e w7 ⟨rfl, rfl⟩
            exact ⟨_, rfl, hb, trivial, congrArg Value.bool Hbr.out⟩
          · refine duty_guard _ _ _ rfl rfl fun f w1 hb H => ⟨H 67 (by decide), ?_⟩
            have e14 : f 14 = _ := H 14 (by decide)
            clear H
            have hgc := (gcell hb).1
            go_simp
            exact ⟨hb, trivial, rfl⟩
          · refine duty_guard _ _ _ rfl rfl fun f w1 hb H => ⟨H 67 (by decide), ?_⟩
            have e71 : f 71 = _ := H 71 (by decide)
            clear H
            have hgc := (gcell hb).1
            have hz := (HZ8.out.grow hb)
            have k0 := hz.cell 0
            have k1 := hz.cell 1
            have k2 := hz.cell 2
            have k3 := hz.cell 3
            have k4 := hz.cell 4
            simp only [List.getElem?_cons_zero, List.getElem?_cons_succ] at k0 k1 k2 k3 k4
            clear hgc hz
            have HB := Lib.hid hb; clear hb
            go_simp
            exact ⟨HB.out, trivial, rfl⟩
          · refine duty_guard _ _ _ rfl rfl fun f w1 hb H => ⟨H 67 (by decide), ?_⟩
            have e72 : f 72 = _ := H 72 (by decide)
            clear H
            go_simp
            refine (ref06_Branch_any _ _).mono ?_
            rintro e w7 ⟨rfl, rfl⟩
            exact ⟨_, rfl, hb, trivial, congrArg Value.bool Hbr.out⟩
          · refine duty_guard _ _ _ rfl rfl fun f w1 hb H => ⟨H 67 (by decide), ?_⟩
            have e70 : f 70 = _ := H 70 (by decide)
            have e73 : f 73 = _ := H 73 (by decide)
            clear H
            have HB := Lib.hid hb; clear hb
            go_simp
            exact ⟨HB.out, trivial, by cases br <;> rfl⟩
          · refine duty_plain rfl fun f w1 hb H => ?_
            have e67 : f 67 = _ := H 67 (by decide)
            have e74 : f 74 = _ := H 74 (by decide)
            clear H
            have hgc := (gcell hb).1
            go_simp
            exact ⟨hb, trivial, rfl⟩
        · intro f wd hb hE
          simp only [putAll, Act.put, slotV, List.setIfInBounds_toArray, List.set_cons_succ, List.set_cons_zero]
          simp only [Ends, tagV, SVal, and_true] at hE
          have e75 : f 75 = .bool false := by simp only [hE]
          clear hE
          rw [e75]
          have HZd := Lib.hid (HZ8.out.grow hb)
          have HGd := Lib.hid (grown_trans HGb.out hb)
          clear hb e75 HZ8 HP HR HGb Hes
          go_wp2_with fail
          cases vb
          · skip
            refine wp_region_rely (fun w' => wd.grownBy w' none) (fun _ _ => True)
              [SVal (.agg #[.int .i64 o, .int .i64 a, .int .i64 b, .int .i64 c, .int .i64 i]), SVal (.bool false), SVal (.bool false), SVal (undef), SVal (undef), SVal (undef), SVal (undef), SVal (undef), SVal (undef), SVal (undef), SVal (undef), SVal (undef), SVal (undef), SVal (.bool false)]
              92 (by kernel_rfl) rfl (by kernel_rfl) (grown_drew (grown_refl _ _)) (fun _ => trivial) ?_ ?_ ?_
            · exact ⟨SVal.kept, SVal.kept, SVal.kept, SVal.kept, SVal.kept, SVal.kept, SVal.kept, SVal.kept, SVal.kept, SVal.kept, SVal.kept, SVal.kept, SVal.kept, SVal.kept, trivial⟩
            · refine duties_cons ?_ (duties_cons ?_ (duties_cons ?_ (duties_cons ?_ (duties_cons ?_ (duties_cons ?_ (duties_cons ?_ (duties_cons ?_ (duties_cons ?_ (duties_cons ?_ (duties_cons ?_ (duties_cons ?_ (duties_cons ?_ (duties_cons ?_ duties_nil)))))))))))))
              · refine duty_plain rfl fun f w1 hb H => ?_
                have e14 : f 14 = _ := H 14 (by decide)
                clear H
                have hgc := (gcell hb).1
                have hz := (HZd.out.grow hb)
                have k0 := hz.cell 0
                have k1 := hz.cell 1
                have k2 := hz.cell 2
                have k3 := hz.cell 3
                have k4 := hz.cell 4
                simp only [List.getElem?_cons_zero, List.getElem?_cons_succ] at k0 k1 k2 k3 k4
                clear hgc hz
                have HB := Lib.hid hb; clear hb
                go_simp
                exact ⟨HB.out, trivial, rfl⟩
              · refine duty_plain rfl fun f w1 hb H => ?_
                have e76 : f 76 = _ := H 76 (by decide)
                clear H
                go_simp
                refine (ref06_Valid_any _ _ _ _ _ _).mono ?_
                rintro e w7 ⟨rfl, hg7⟩
                exact ⟨_, rfl, grown_trans hb hg7, trivial, congrArg Value.bool Hvb.out⟩
              · refine duty_plain rfl fun f w1 hb H => ?_
                have e77 : f 77 = _ := H 77 (by decide)
                clear H
                have hgc := (gcell hb).1
                go_simp
                exact ⟨hb, trivial, rfl⟩
              · exact duty_shut _ _ _ rfl rfl fun f w1 hb H => ⟨H 78 (by decide), rfl⟩
              · exact duty_shut _ _ _ rfl rfl fun f w1 hb H => ⟨H 78 (by decide), rfl⟩
              · exact duty_shut _ _ _ rfl rfl fun f w1 hb H => ⟨H 78 (by decide), rfl⟩
              · exact duty_shut _ _ _ rfl rfl fun f w1 hb H => ⟨H 78 (by decide), rfl⟩
              · exact duty_shut _ _ _ rfl rfl fun f w1 hb H => ⟨H 78 (by decide), rfl⟩
              · exact duty_shut _ _ _ rfl rfl fun f w1 hb H => ⟨H 78 (by decide), rfl⟩
              · exact duty_shut _ _ _ rfl rfl fun f w1 hb H => ⟨H 78 (by decide), rfl⟩
              · exact duty_shut _ _ _ rfl rfl fun f w1 hb H => ⟨H 78 (by decide), rfl⟩
              · exact duty_shut _ _ _ rfl rfl fun f w1 hb H => ⟨H 78 (by decide), rfl⟩
              · exact duty_shut _ _ _ rfl rfl fun f w1 hb H => ⟨H 78 (by decide), rfl⟩
              · refine duty_plain rfl fun f w1 hb H => ?_
                have e78 : f 78 = _ := H 78 (by decide)
                have e88 : f 88 = _ := H 88 (by decide)
                clear H
                have hgc := (gcell hb).1
                go_simp
                exact ⟨hb, trivial, rfl⟩
            · intro f we hb hE
              simp only [putAll, Act.put, slotV, List.setIfInBounds_toArray, List.set_cons_succ, List.set_cons_zero]
              simp only [Ends, tagV, SVal, and_true] at hE
              have e89 : f 89 = .bool false := by simp only [hE]
              clear hE
              rw [e89]
              go_wp2_with fail
              go_roundw
              case rel => exact ⟨k + 1, by omega, by go_num, grown_trans HGd.out hb⟩
              case measure => simp [intOf]; omega
          · skip
            refine wp_region_rely (fun w' => wd.grownBy w' none) (fun w w' => w.grownBy w' none)
              [SVal (.agg #[.int .i64 o, .int .i64 a, .int .i64 b, .int .i64 c, .int .i64 i]), SVal (.bool true), SVal (.bool true), SVal (.agg #[.int .i64 o, .int .i64 a, .int .i64 b, .int .i64 c, .int .i64 i]), SVal (.int .i64 pc), SVal (.int .i64 pm), STgt (tgt o i pm), SVal (.agg #[.int .i64 o, .int .i64 a, .int .i64 b, .int .i64 c, .int .i64 i]), SVal (.int .i64 pc), SVal (.int .i64 pm), STgt (tgt o i pm), SVal (.bool true), SVal (.bool false), SVal (.bool false)]
              92 (by kernel_rfl) rfl (by kernel_rfl) (grown_drew (grown_refl _ _)) (fun _ => grown_refl _ _) ?_ ?_ ?_
            · exact ⟨SVal.kept, SVal.kept, SVal.kept, SVal.kept, SVal.kept, SVal.kept, STgt.kept, SVal.kept, SVal.kept, SVal.kept, STgt.kept, SVal.kept, SVal.kept, SVal.kept, trivial⟩
            · refine duties_cons ?_ (duties_cons ?_ (duties_cons ?_ (duties_cons ?_ (duties_cons ?_ (duties_cons ?_ (duties_cons ?_ (duties_cons ?_ (duties_cons ?_ (duties_cons ?_ (duties_cons ?_ (duties_cons ?_ (duties_cons ?_ (duties_cons ?_ duties_nil)))))))))))))
              · refine duty_plain rfl fun f w1 hb H => ?_
                have e14 : f 14 = _ := H 14 (by decide)
                clear H
                have hgc := (gcell hb).1
                have hz := (HZd.out.grow hb)
                have k0 := hz.cell 0
                have k1 := hz.cell 1
                have k2 := hz.cell 2
                have k3 := hz.cell 3
                have k4 := hz.cell 4
                simp only [List.getElem?_cons_zero, List.getElem?_cons_succ] at k0 k1 k2 k3 k4
                clear hgc hz
                have HB := Lib.hid hb; clear hb
                go_simp
                exact ⟨HB.out, grown_refl _ _, rfl⟩
              · refine duty_plain rfl fun f w1 hb H => ?_
                have e76 : f 76 = _ := H 76 (by decide)
                clear H
                go_simp
                refine (ref06_Valid_any _ _ _ _ _ _).mono ?_
                rintro e w7 ⟨rfl, hg7⟩
                exact ⟨_, rfl, grown_trans hb hg7, hg7, congrArg Value.bool Hvb.out⟩
              · refine duty_plain rfl fun f w1 hb H => ?_
                have e77 : f 77 = _ := H 77 (by decide)
                clear H
                have HB := Lib.hid hb; clear hb
                go_simp
                exact ⟨HB.out, grown_refl _ _, rfl⟩
              · refine duty_guard _ _ _ rfl rfl fun f w1 hb H => ⟨H 78 (by decide), ?_⟩
                have e14 : f 14 = _ := H 14 (by decide)
                clear H
                have hgc := (gcell hb).1
                have hz := (HZd.out.grow hb)
                have k0 := hz.cell 0
                have k1 := hz.cell 1
                have k2 := hz.cell 2
                have k3 := hz.cell 3
                have k4 := hz.cell 4
                simp only [List.getElem?_cons_zero, List.getElem?_cons_succ] at k0 k1 k2 k3 k4
                clear hgc hz
                have HB := Lib.hid hb; clear hb
                go_simp
                exact ⟨HB.out, grown_refl _ _, rfl⟩
              · refine duty_guard _ _ _ rfl rfl fun f w1 hb H => ⟨H 78 (by decide), ?_⟩
                have e4 : f 4 = _ := H 4 (by decide)
                clear H
                have HB := Lib.hid hb; clear hb
                go_simp
                exact ⟨HB.out, grown_refl _ _, rfl⟩
              · refine duty_guard _ _ _ rfl rfl fun f w1 hb H => ⟨H 78 (by decide), ?_⟩
                have e80 : f 80 = _ := H 80 (by decide)
                clear H
                go_simp
                refine (mod_any pc 64 _ HP0.out.1 HP0.out.2 (by omega) (by omega)).mono ?_
                rintro e w7 ⟨rfl, rfl⟩
                exact ⟨_, rfl, hb, grown_refl _ _, congrArg (Value.int .i64) Hpm.out⟩
              · refine duty_guard _ _ _ rfl rfl fun f w1 hb H => ⟨H 78 (by decide), ?_⟩
                have e79 : f 79 = _ := H 79 (by decide)
                have e81 : f 81 = _ := H 81 (by decide)
                clear H
                go_simp
                refine (instr_Targets_any o a b c i pm _ Hpb.out.1 Hpb.out.2).mono ?_
                rintro e w7 ⟨A2, c2, rfl, hI, hg7⟩
                exact ⟨_, rfl, grown_trans hb hg7, hg7, A2, c2, rfl, Row.sub hI fun k hk => hk.2⟩
              · refine duty_guard _ _ _ rfl rfl fun f w1 hb H => ⟨H 78 (by decide), ?_⟩
                have e14 : f 14 = _ := H 14 (by decide)
                clear H
                have hgc := (gcell hb).1
                have hz := (HZd.out.grow hb)
                have k0 := hz.cell 0
                have k1 := hz.cell 1
                have k2 := hz.cell 2
                have k3 := hz.cell 3
                have k4 := hz.cell 4
                simp only [List.getElem?_cons_zero, List.getElem?_cons_succ] at k0 k1 k2 k3 k4
                clear hgc hz
                have HB := Lib.hid hb; clear hb
                go_simp
                exact ⟨HB.out, grown_refl _ _, rfl⟩
              · refine duty_guard _ _ _ rfl rfl fun f w1 hb H => ⟨H 78 (by decide), ?_⟩
                have e4 : f 4 = _ := H 4 (by decide)
                clear H
                have HB := Lib.hid hb; clear hb
                go_simp
                exact ⟨HB.out, grown_refl _ _, rfl⟩
              · refine duty_guard _ _ _ rfl rfl fun f w1 hb H => ⟨H 78 (by decide), ?_⟩
                have e84 : f 84 = _ := H 84 (by decide)
                clear H
                go_simp
                refine (mod_any pc 64 _ HP0.out.1 HP0.out.2 (by omega) (by omega)).mono ?_
                rintro e w7 ⟨rfl, rfl⟩
                exact ⟨_, rfl, hb, grown_refl _ _, congrArg (Value.int .i64) Hpm.out⟩
              · refine duty_guard _ _ _ rfl rfl fun f w1 hb H => ⟨H 78 (by decide), ?_⟩
                have e83 : f 83 = _ := H 83 (by decide)
                have e85 : f 85 = _ := H 85 (by decide)
                clear H
                go_simp
                refine (ref06_Targets_any o a b c i pm _ Hpb.out.1 Hpb.out.2).mono ?_
                rintro e w7 ⟨A2, c2, rfl, hI, hg7⟩
                exact ⟨_, rfl, grown_trans hb hg7, hg7, A2, c2, rfl, Row.sub hI fun k hk => hk.2⟩
              · refine duty_guard _ _ _ rfl rfl fun f w1 hb H => ⟨H 78 (by decide), ?_⟩
                have s82 := H 82 (by decide)
                have s86 := H 86 (by decide)
                clear H
                obtain ⟨A2, c2, e82, hI2⟩ := s82
                obtain ⟨A3, c3, e86, hI3⟩ := s86
                have hl2 := (tgt_none o i pm).2
                go_simp
                refine (ref01_SameInts_any _ _ A2 A3 _ _ c2 c3 _ (by omega) (by omega) hI2 hI3).mono ?_
                rintro e w7 ⟨rfl, hg7⟩
                rw [← eqL_true rfl]
                exact ⟨_, rfl, grown_trans hb hg7, hg7, rfl⟩
              · refine duty_guard _ _ _ rfl rfl fun f w1 hb H => ⟨H 78 (by decide), ?_⟩
                have e87 : f 87 = _ := H 87 (by decide)
                clear H
                have HB := Lib.hid hb; clear hb
                go_simp
                exact ⟨HB.out, grown_refl _ _, rfl⟩
              · refine duty_plain rfl fun f w1 hb H => ?_
                have e78 : f 78 = _ := H 78 (by decide)
                have e88 : f 88 = _ := H 88 (by decide)
                clear H
                have HB := Lib.hid hb; clear hb
                go_simp
                exact ⟨HB.out, grown_refl _ _, rfl⟩
            · intro f we hb hE
              simp only [putAll, Act.put, slotV, List.setIfInBounds_toArray, List.set_cons_succ, List.set_cons_zero]
              simp only [Ends, tagV, SVal, and_true] at hE
              have e89 : f 89 = .bool false := hE.2.2.2.2.2.2.2.2.2.2.2.2.2
              clear hE
              rw [e89]
              go_wp2_with fail
              go_roundw
              case rel => exact ⟨k + 1, by omega, by go_num, grown_trans HGd.out hb⟩
              case measure => simp [intOf]; omega

      · have hk : k = 4 := by omega
        subst hk
        have HGx := Lib.hid (grown_trans HG9.out hgr)
        clear hgr
        go_wp2_with (go_at_call 8; refine (awake_any _).mono ?_; rintro e w7 ⟨rfl, hg7⟩; have HGy := Lib.hid (grown_trans HGx.out hg7); clear hg7)
        go_ret
        exact ⟨rfl, HGy.out⟩

end Go.Proofs.Ytenlhaondbmhnaa
