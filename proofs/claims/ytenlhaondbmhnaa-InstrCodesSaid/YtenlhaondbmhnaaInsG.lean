/- The law InstrBack, walked; no condition. -/
import Derived.Test.YtenlhaondbmhnaaInsE
import Derived.Test.YtenlhaondbmhnaaInsF
import Derived.Test.YtenlhaondbmhnaaNew
namespace Go.Proofs.Ytenlhaondbmhnaa
open Go.RowKit

/-- A valid instruction drawn from a new deck. -/
def DrawnPost (w : World) (e : Ending) (w' : World) : Prop :=
  ∃ op a b c i : Int, ivB op a b c i = true ∧ e = .returned (.agg #[.int .i64 op, .int .i64 a, .int .i64 b, .int .i64 c, .int .i64 i]) ∧ w.grownBy w' none ∧ w.heap.size < w'.heap.size
theorem drawn_any (A : Option Addr) (L : List Int) (cp : Nat) (w : World) (h : Ints .i64 w (fun k => k < w.heap.size) A L) (hl : L.length ≤ 9223372036854775807) (hw : I64s L) :
    Calls Try.prog 11 #[.pointer (some ⟨w.heap.size, 0, none⟩), .int .i64 4, .int .i64 64] (w.alloc (.cells #[.slice A L.length cp, .int .i64 0] 49)) (DrawnPost w) := by
  refine (deckInstr_any (fun k => k < w.heap.size) w.heap.size L 0 _ (fun k hk => by simp; omega) (deck_new h (fun k hk => hk) hl hw)).mono ?_
  rintro e w' ⟨op, a, b, c, i, hv, rfl, hd⟩
  exact ⟨op, a, b, c, i, hv, rfl, grown_fresh (grown_alloc (grown_refl w none) _) hd.2 (Nat.le_refl _), by have := hd.2.size; simp at this; omega⟩

theorem enc_bytes {op a b c i : Int} (h : ivB op a b c i = true) : Bytes [op, a, b, c, i / 256, i % 256] := by
  have := iv_range h
  intro x hx
  simp only [List.mem_cons, List.not_mem_nil, or_false] at hx
  rcases hx with rfl | rfl | rfl | rfl | rfl | rfl <;> omega
theorem enc_inj {op a b c i op' a' b' c' i' : Int} (h : ivB op a b c i = true) (h' : ivB op' a' b' c' i' = true) :
    (strOfNums [op, a, b, c, i / 256, i % 256] = strOfNums [op', a', b', c', i' / 256, i' % 256] ↔ (#[Value.int .i64 op, .int .i64 a, .int .i64 b, .int .i64 c, .int .i64 i] : Array Value) = #[.int .i64 op', .int .i64 a', .int .i64 b', .int .i64 c', .int .i64 i']) := by
  rw [str_inj (enc_bytes h) (enc_bytes h')]
  constructor
  · intro e
    simp only [List.cons.injEq, and_true] at e
    obtain ⟨rfl, rfl, rfl, rfl, e1, e2⟩ := e
    have := iv_range h
    have := iv_range h'
    rw [show i = i' by omega]
  · intro e
    simp at e
    obtain ⟨rfl, rfl, rfl, rfl, rfl⟩ := e
    rfl

theorem beq_str (s t : ByteArray) : (s.toList == t.toList) = decide (s = t) := by
  rw [ByteArray.toList_eq, ByteArray.toList_eq]
  apply Bool.eq_iff_iff.2
  simp only [beq_iff_eq, decide_eq_true_eq]
  exact ⟨fun h => ByteArray.ext (Array.toList_inj.1 h), fun h => by rw [h]⟩
theorem five_if {α : Type} (a b c d e : Prop) [Decidable a] [Decidable b] [Decidable c] [Decidable d] [Decidable e] (f : Bool → α) :
    (if a then if b then if c then if d then if e then f true else f false else f false else f false else f false else f false) = f (decide (a ∧ b ∧ c ∧ d ∧ e)) := by
  by_cases a <;> by_cases b <;> by_cases c <;> by_cases d <;> by_cases e <;> simp [*]

set_option maxRecDepth 100000 in
set_option maxHeartbeats 4000000 in
theorem lawBack_any (A B : Option Addr) (L M : List Int) (c d : Nat) (w : World) (hl : L.length ≤ 9223372036854775807) (hw : I64s L) (hm : M.length ≤ 9223372036854775807) (hwm : I64s M)
    (h : Ints .i64 w (fun k => k < w.heap.size) A L) (h' : Ints .i64 w (fun k => k < w.heap.size) B M) :
    Calls Try.prog 4 #[.slice A L.length c, .slice B M.length d] w (BoolGrown true w) := by
  have HL := Lib.hid h
  have HM := Lib.hid h'
  clear h h'
  go_enter Try.func4, Try.ntmps4
  go_wp2_with fail
  refine (mkNew_any A L c w).mono ?_
  rintro e W1 ⟨rfl, rfl⟩
  go_wp2_with fail
  refine (drawn_any A L c w HL.out hl hw).mono ?_
  rintro e w1 ⟨o1, a1, b1, c1, i1, hv1, rfl, hg1, hz1⟩
  have HM1 := Lib.hid (HM.out.low hg1)
  have HV1 := Lib.hid hv1
  have HG1 := Lib.hid hg1
  clear hv1 hg1 HM HL hl hw
  go_wp2_with fail
  refine (mkNew_any B M d w1).mono ?_
  rintro e W1 ⟨rfl, rfl⟩
  go_wp2_with fail
  refine (drawn_any B M d w1 HM1.out hm hwm).mono ?_
  rintro e w2 ⟨o2, a2, b2, c2, i2, hv2, rfl, hg2, hz2⟩
  have HV2 := Lib.hid hv2
  have HG2 := Lib.hid (grown_trans HG1.out hg2)
  clear hv2 hg2 HM1 HG1 hm hwm
  go_wp2_with fail
  have hu1 := Up.alloc w1.heap.size (w2.alloc (.cells #[.int .i64 o1, .int .i64 a1, .int .i64 b1, .int .i64 c1, .int .i64 i1] 29)) (.cells #[.int .i64 o2, .int .i64 a2, .int .i64 b2, .int .i64 c2, .int .i64 i2] 29)
  have hX := (Blk.new (g := w1.heap.size) (w := w2) (t := 29) (vs := [.int .i64 o1, .int .i64 a1, .int .i64 b1, .int .i64 c1, .int .i64 i1]) hz2).up hu1
  have hY := Blk.new (g := w1.heap.size) (w := w2.alloc (.cells #[.int .i64 o1, .int .i64 a1, .int .i64 b1, .int .i64 c1, .int .i64 i1] 29)) (t := 29) (vs := [.int .i64 o2, .int .i64 a2, .int .i64 b2, .int .i64 c2, .int .i64 i2]) (by simp; omega)
  refine (instr_Encode_yes o1 a1 b1 c1 i1 _ HV1.out).mono ?_
  rintro e w3 ⟨P, rfl, hP, hg3⟩
  have HX3 := Lib.hid (hX.up (Up.of_none hg3))
  have HY3 := Lib.hid (hY.up (Up.of_none hg3))
  have HG3 := Lib.hid (grown_trans (grown_alloc (grown_alloc HG2.out _) _) hg3)
  have HP3 := Lib.hid (show Ints .u8 w3 (fun k => k < w3.heap.size) P _ from Row.sub hP fun k hk => hk.2)
  have y0 := HY3.out.cell 0
  have y1 := HY3.out.cell 1
  have y2 := HY3.out.cell 2
  have y3 := HY3.out.cell 3
  have y4 := HY3.out.cell 4
  simp only [List.getElem?_cons_zero, List.getElem?_cons_succ, World.size_alloc] at y0 y1 y2 y3 y4
  clear hu1 hX hY hP hg3 HG2
  go_wp2_with fail
  refine (instr_Encode_yes o2 a2 b2 c2 i2 _ HV2.out).mono ?_
  rintro e w4 ⟨R, rfl, hR, hg4⟩
  have HX4 := Lib.hid (HX3.out.up (Up.of_none hg4))
  have HY4 := Lib.hid (HY3.out.up (Up.of_none hg4))
  have HG4 := Lib.hid (grown_trans HG3.out hg4)
  have HP4 := Lib.hid (HP3.out.low hg4)
  have HR4 := Lib.hid (show Ints .u8 w4 (fun k => k < w4.heap.size) R _ from Row.sub hR fun k hk => hk.2)
  clear hR hg4 HX3 HY3 HG3 HP3 y0 y1 y2 y3 y4
  go_wp2_with fail
  refine instr_Decode_long (fun k => k < w4.heap.size) P [o1, a1, b1, c1, i1 / 256, i1 % 256] 6 o1 a1 b1 c1 (i1 / 256) (i1 % 256) w4 (by simp) (fun k hk => hk) HP4.out (fun x hx => by have := enc_bytes HV1.out x hx; omega) (by simp) rfl rfl rfl rfl rfl rfl _ ?_ ?_
  case refine_2 =>
    intro hor
    exfalso
    rcases hor with hor | hor
    · simp at hor
    · rw [show i1 / 256 * 256 + i1 % 256 = i1 by omega, HV1.out] at hor; cases hor
  intro _ _ w5 hg5
  rw [show i1 / 256 * 256 + i1 % 256 = i1 by omega]
  have HX5 := Lib.hid (HX4.out.up (Up.of_none hg5))
  have HY5 := Lib.hid (HY4.out.up (Up.of_none hg5))
  have HG5 := Lib.hid (grown_trans HG4.out hg5)
  have HP5 := Lib.hid (HP4.out.low hg5)
  have HR5 := Lib.hid (HR4.out.low hg5)
  clear hg5 HX4 HY4 HG4 HP4 HR4
  go_wp2_with fail
  have hG := grown_alloc HG5.out (.cells #[.int .i64 o1, .int .i64 a1, .int .i64 b1, .int .i64 c1, .int .i64 i1] 29)
  have hu := Up.alloc w1.heap.size w5 (.cells #[.int .i64 o1, .int .i64 a1, .int .i64 b1, .int .i64 c1, .int .i64 i1] 29)
  have HX := Lib.hid (HX5.out.up hu)
  have hY := HY5.out.up hu
  simp only [World.size_alloc] at hY
  have HY := Lib.hid hY
  have HZ := Lib.hid (Blk.new (g := w1.heap.size) (w := w5) (t := 29) (vs := [.int .i64 o1, .int .i64 a1, .int .i64 b1, .int .i64 c1, .int .i64 i1]) (by have := HX5.out.hi; omega))
  have HP := Lib.hid (HP5.out.low (grown_alloc (grown_refl _ _) (.cells #[.int .i64 o1, .int .i64 a1, .int .i64 b1, .int .i64 c1, .int .i64 i1] 29)))
  have HR := Lib.hid (HR5.out.low (grown_alloc (grown_refl _ _) (.cells #[.int .i64 o1, .int .i64 a1, .int .i64 b1, .int .i64 c1, .int .i64 i1] 29)))
  have HG := Lib.hid hG
  clear hG hu hY HX5 HY5 HG5 HP5 HR5
  obtain ⟨q11, hq11⟩ : ∃ q, q = w5.heap.size := ⟨_, rfl⟩
  rw [← hq11] at HZ ⊢
  clear hq11
  generalize w5.alloc (.cells #[.int .i64 o1, .int .i64 a1, .int .i64 b1, .int .i64 c1, .int .i64 i1] 29) = w8 at *
  have hinj := enc_inj HV1.out HV2.out
  obtain ⟨s1, e1⟩ : ∃ s, s = strOfNums [o1, a1, b1, c1, i1 / 256, i1 % 256] := ⟨_, rfl⟩
  obtain ⟨s2, e2⟩ : ∃ s, s = strOfNums [o2, a2, b2, c2, i2 / 256, i2 % 256] := ⟨_, rfl⟩
  rw [← e1, ← e2] at hinj
  replace e1 := e1.symm
  replace e2 := e2.symm
  obtain ⟨E, hE1⟩ : ∃ E, E = decide (s1 = s2) := ⟨_, rfl⟩
  have HE1 := Lib.hid (show (s1.toList == s2.toList) = E by rw [beq_str, hE1])
  have HE2 := Lib.hid (show decide (o1 = o2 ∧ a1 = a2 ∧ b1 = b2 ∧ c1 = c2 ∧ i1 = i2) = E by rw [hE1]; simp [hinj])
  clear hinj hE1
  refine wp_region_rely (fun w' => w8.grownBy w' none) (fun _ _ => True)
    [SVal (.int .i64 0), SVal (.bool true), SVal (.bool true), SVal (.int .i64 0), SVal (.bool true), SVal (.bool true), SVal (.bool true), SVal (.int .i64 0), SVal (.bool true), SVal (.bool true), SVal (.bool true), SVal (.agg #[.int .i64 o1, .int .i64 a1, .int .i64 b1, .int .i64 c1, .int .i64 i1]), SVal (.agg #[.int .i64 o1, .int .i64 a1, .int .i64 b1, .int .i64 c1, .int .i64 i1]), SVal (.bool true), SVal (.bool true), SVal (.bool true), SVal (.slice P 6 6), SVal (.string s1), SVal (.slice R 6 6), SVal (.string s2), SVal (.bool E), SVal (.agg #[.int .i64 o1, .int .i64 a1, .int .i64 b1, .int .i64 c1, .int .i64 i1]), SVal (.agg #[.int .i64 o2, .int .i64 a2, .int .i64 b2, .int .i64 c2, .int .i64 i2]), SVal (.bool E), SVal (.bool true), SVal (.bool true), SVal (.bool true), SVal (.slice P 6 6), SVal (.int .i64 6), SVal (.bool true), SVal (.bool true), SVal (.bool true), SVal (.bool true), SVal (.bool true), SVal (.bool true)]
    68 (by kernel_rfl) rfl (by kernel_rfl) (grown_drew (grown_refl _ _)) (fun _ => trivial) ?_ ?_ ?_
  · exact ⟨SVal.kept, SVal.kept, SVal.kept, SVal.kept, SVal.kept, SVal.kept, SVal.kept, SVal.kept, SVal.kept, SVal.kept, SVal.kept, SVal.kept, SVal.kept, SVal.kept, SVal.kept, SVal.kept, SVal.kept, SVal.kept, SVal.kept, SVal.kept, SVal.kept, SVal.kept, SVal.kept, SVal.kept, SVal.kept, SVal.kept, SVal.kept, SVal.kept, SVal.kept, SVal.kept, SVal.kept, SVal.kept, SVal.kept, SVal.kept, SVal.kept, trivial⟩
  · refine duties_cons ?_ (duties_cons ?_ (duties_cons ?_ (duties_cons ?_ (duties_cons ?_ (duties_cons ?_ (duties_cons ?_ (duties_cons ?_ (duties_cons ?_ (duties_cons ?_ (duties_cons ?_ (duties_cons ?_ (duties_cons ?_ (duties_cons ?_ (duties_cons ?_ (duties_cons ?_ (duties_cons ?_ (duties_cons ?_ (duties_cons ?_ (duties_cons ?_ (duties_cons ?_ (duties_cons ?_ (duties_cons ?_ (duties_cons ?_ (duties_cons ?_ (duties_cons ?_ (duties_cons ?_ (duties_cons ?_ (duties_cons ?_ (duties_cons ?_ (duties_cons ?_ (duties_cons ?_ (duties_cons ?_ (duties_cons ?_ (duties_cons ?_ duties_nil))))))))))))))))))))))))))))))))))
    · refine duty_plain rfl fun f w1 hb H => ?_
      have e8 : f 8 = _ := H 8 (by decide)
      clear H
      have hgc := (gcell hb).1
      go_simp
      exact ⟨hb, trivial, rfl⟩
    · refine duty_plain rfl fun f w1 hb H => ?_
      have e34 : f 34 = _ := H 34 (by decide)
      clear H
      have hgc := (gcell hb).1
      go_simp
      exact ⟨hb, trivial, rfl⟩
    · refine duty_plain rfl fun f w1 hb H => ?_
      have e35 : f 35 = _ := H 35 (by decide)
      clear H
      have hgc := (gcell hb).1
      go_simp
      exact ⟨hb, trivial, rfl⟩
    · refine duty_guard _ _ _ rfl rfl fun f w1 hb H => ⟨H 36 (by decide), ?_⟩
      have e10 : f 10 = _ := H 10 (by decide)
      clear H
      have hgc := (gcell hb).1
      go_simp
      exact ⟨hb, trivial, rfl⟩
    · refine duty_guard _ _ _ rfl rfl fun f w1 hb H => ⟨H 36 (by decide), ?_⟩
      have e37 : f 37 = _ := H 37 (by decide)
      clear H
      have hgc := (gcell hb).1
      go_simp
      exact ⟨hb, trivial, rfl⟩
    · refine duty_plain rfl fun f w1 hb H => ?_
      have e36 : f 36 = _ := H 36 (by decide)
      have e38 : f 38 = _ := H 38 (by decide)
      clear H
      have hgc := (gcell hb).1
      go_simp
      exact ⟨hb, trivial, rfl⟩
    · refine duty_plain rfl fun f w1 hb H => ?_
      have e39 : f 39 = _ := H 39 (by decide)
      clear H
      have hgc := (gcell hb).1
      go_simp
      exact ⟨hb, trivial, rfl⟩
    · refine duty_guard _ _ _ rfl rfl fun f w1 hb H => ⟨H 40 (by decide), ?_⟩
      have e12 : f 12 = _ := H 12 (by decide)
      clear H
      have hgc := (gcell hb).1
      go_simp
      exact ⟨hb, trivial, rfl⟩
    · refine duty_guard _ _ _ rfl rfl fun f w1 hb H => ⟨H 40 (by decide), ?_⟩
      have e41 : f 41 = _ := H 41 (by decide)
      clear H
      have hgc := (gcell hb).1
      go_simp
      exact ⟨hb, trivial, rfl⟩
    · refine duty_plain rfl fun f w1 hb H => ?_
      have e40 : f 40 = _ := H 40 (by decide)
      have e42 : f 42 = _ := H 42 (by decide)
      clear H
      have hgc := (gcell hb).1
      go_simp
      exact ⟨hb, trivial, rfl⟩
    · refine duty_plain rfl fun f w1 hb H => ?_
      have e43 : f 43 = _ := H 43 (by decide)
      clear H
      have hgc := (gcell hb).1
      go_simp
      exact ⟨hb, trivial, rfl⟩
    · refine duty_guard _ _ _ rfl rfl fun f w1 hb H => ⟨H 44 (by decide), ?_⟩
      have e11 : f 11 = _ := H 11 (by decide)
      clear H
      have hgc := (gcell hb).1
      have k0 := ((HZ.out.up (Up.of_none hb)).cell 0)
      have k1 := ((HZ.out.up (Up.of_none hb)).cell 1)
      have k2 := ((HZ.out.up (Up.of_none hb)).cell 2)
      have k3 := ((HZ.out.up (Up.of_none hb)).cell 3)
      have k4 := ((HZ.out.up (Up.of_none hb)).cell 4)
      simp only [List.getElem?_cons_zero, List.getElem?_cons_succ] at k0 k1 k2 k3 k4
      clear hgc
      have HB := Lib.hid hb; clear hb
      go_simp
      exact ⟨HB.out, trivial, rfl⟩
    · refine duty_guard _ _ _ rfl rfl fun f w1 hb H => ⟨H 44 (by decide), ?_⟩
      have e5 : f 5 = _ := H 5 (by decide)
      clear H
      have hgc := (gcell hb).1
      have k0 := ((HX.out.up (Up.of_none hb)).cell 0)
      have k1 := ((HX.out.up (Up.of_none hb)).cell 1)
      have k2 := ((HX.out.up (Up.of_none hb)).cell 2)
      have k3 := ((HX.out.up (Up.of_none hb)).cell 3)
      have k4 := ((HX.out.up (Up.of_none hb)).cell 4)
      simp only [List.getElem?_cons_zero, List.getElem?_cons_succ] at k0 k1 k2 k3 k4
      clear hgc
      have HB := Lib.hid hb; clear hb
      go_simp
      exact ⟨HB.out, trivial, rfl⟩
    · refine duty_guard _ _ _ rfl rfl fun f w1 hb H => ⟨H 44 (by decide), ?_⟩
      have e45 : f 45 = _ := H 45 (by decide)
      have e46 : f 46 = _ := H 46 (by decide)
      clear H
      have hgc := (gcell hb).1
      go_simp
      exact ⟨hb, trivial, rfl⟩
    · refine duty_plain rfl fun f w1 hb H => ?_
      have e44 : f 44 = _ := H 44 (by decide)
      have e47 : f 47 = _ := H 47 (by decide)
      clear H
      have hgc := (gcell hb).1
      go_simp
      exact ⟨hb, trivial, rfl⟩
    · refine duty_plain rfl fun f w1 hb H => ?_
      have e48 : f 48 = _ := H 48 (by decide)
      clear H
      have hgc := (gcell hb).1
      go_simp
      exact ⟨hb, trivial, rfl⟩
    · refine duty_guard _ _ _ rfl rfl fun f w1 hb H => ⟨H 49 (by decide), ?_⟩
      have e7 : f 7 = _ := H 7 (by decide)
      clear H
      have hgc := (gcell hb).1
      go_simp
      exact ⟨hb, trivial, rfl⟩
    · refine duty_guard _ _ _ rfl rfl fun f w1 hb H => ⟨H 49 (by decide), ?_⟩
      have e50 : f 50 = _ := H 50 (by decide)
      clear H
      have hc := str_run 6 (HP.out.low hb)
      rw [e1] at hc
      simp only [List.length_cons, List.length_nil, Nat.zero_add, Nat.reduceAdd] at hc
      have HB := Lib.hid hb; clear hb
      go_simp
      exact ⟨HB.out, trivial, rfl⟩
    · refine duty_guard _ _ _ rfl rfl fun f w1 hb H => ⟨H 49 (by decide), ?_⟩
      have e9 : f 9 = _ := H 9 (by decide)
      clear H
      have hgc := (gcell hb).1
      go_simp
      exact ⟨hb, trivial, rfl⟩
    · refine duty_guard _ _ _ rfl rfl fun f w1 hb H => ⟨H 49 (by decide), ?_⟩
      have e52 : f 52 = _ := H 52 (by decide)
      clear H
      have hc := str_run 6 (HR.out.low hb)
      rw [e2] at hc
      simp only [List.length_cons, List.length_nil, Nat.zero_add, Nat.reduceAdd] at hc
      have HB := Lib.hid hb; clear hb
      go_simp
      exact ⟨HB.out, trivial, rfl⟩
    · refine duty_guard _ _ _ rfl rfl fun f w1 hb H => ⟨H 49 (by decide), ?_⟩
      have e51 : f 51 = _ := H 51 (by decide)
      have e53 : f 53 = _ := H 53 (by decide)
      clear H
      have HB := Lib.hid hb; clear hb
      go_simp
      exact ⟨HB.out, trivial, congrArg Value.bool HE1.out⟩
    · refine duty_guard _ _ _ rfl rfl fun f w1 hb H => ⟨H 49 (by decide), ?_⟩
      have e5 : f 5 = _ := H 5 (by decide)
      clear H
      have hgc := (gcell hb).1
      have k0 := ((HX.out.up (Up.of_none hb)).cell 0)
      have k1 := ((HX.out.up (Up.of_none hb)).cell 1)
      have k2 := ((HX.out.up (Up.of_none hb)).cell 2)
      have k3 := ((HX.out.up (Up.of_none hb)).cell 3)
      have k4 := ((HX.out.up (Up.of_none hb)).cell 4)
      simp only [List.getElem?_cons_zero, List.getElem?_cons_succ] at k0 k1 k2 k3 k4
      clear hgc
      have HB := Lib.hid hb; clear hb
      go_simp
      exact ⟨HB.out, trivial, rfl⟩
    · refine duty_guard _ _ _ rfl rfl fun f w1 hb H => ⟨H 49 (by decide), ?_⟩
      have e6 : f 6 = _ := H 6 (by decide)
      clear H
      have hgc := (gcell hb).1
      have k0 := ((HY.out.up (Up.of_none hb)).cell 0)
      have k1 := ((HY.out.up (Up.of_none hb)).cell 1)
      have k2 := ((HY.out.up (Up.of_none hb)).cell 2)
      have k3 := ((HY.out.up (Up.of_none hb)).cell 3)
      have k4 := ((HY.out.up (Up.of_none hb)).cell 4)
      simp only [List.getElem?_cons_zero, List.getElem?_cons_succ] at k0 k1 k2 k3 k4
      clear hgc
      have HB := Lib.hid hb; clear hb
      go_simp
      exact ⟨HB.out, trivial, rfl⟩
    · refine duty_guard _ _ _ rfl rfl fun f w1 hb H => ⟨H 49 (by decide), ?_⟩
      have e55 : f 55 = _ := H 55 (by decide)
      have e56 : f 56 = _ := H 56 (by decide)
      clear H
      have HB := Lib.hid hb; clear hb
      go_simp
      rw [five_if _ _ _ _ _ (fun x => Result.ok (Next.value (Value.bool x)) w1), HE2.out]
      exact ⟨HB.out, trivial, rfl⟩
    · refine duty_guard _ _ _ rfl rfl fun f w1 hb H => ⟨H 49 (by decide), ?_⟩
      have e54 : f 54 = _ := H 54 (by decide)
      have e57 : f 57 = _ := H 57 (by decide)
      clear H
      have HB := Lib.hid hb; clear hb
      go_simp
      exact ⟨HB.out, trivial, by cases E <;> rfl⟩
    · refine duty_plain rfl fun f w1 hb H => ?_
      have e49 : f 49 = _ := H 49 (by decide)
      have e58 : f 58 = _ := H 58 (by decide)
      clear H
      have hgc := (gcell hb).1
      go_simp
      exact ⟨hb, trivial, rfl⟩
    · refine duty_plain rfl fun f w1 hb H => ?_
      have e59 : f 59 = _ := H 59 (by decide)
      clear H
      have hgc := (gcell hb).1
      go_simp
      exact ⟨hb, trivial, rfl⟩
    · refine duty_guard _ _ _ rfl rfl fun f w1 hb H => ⟨H 60 (by decide), ?_⟩
      have e7 : f 7 = _ := H 7 (by decide)
      clear H
      have hgc := (gcell hb).1
      go_simp
      exact ⟨hb, trivial, rfl⟩
    · refine duty_guard _ _ _ rfl rfl fun f w1 hb H => ⟨H 60 (by decide), ?_⟩
      have e61 : f 61 = _ := H 61 (by decide)
      clear H
      have hgc := (gcell hb).1
      go_simp
      exact ⟨hb, trivial, rfl⟩
    · refine duty_guard _ _ _ rfl rfl fun f w1 hb H => ⟨H 60 (by decide), ?_⟩
      have e62 : f 62 = _ := H 62 (by decide)
      clear H
      have hgc := (gcell hb).1
      go_simp
      exact ⟨hb, trivial, rfl⟩
    · refine duty_plain rfl fun f w1 hb H => ?_
      have e60 : f 60 = _ := H 60 (by decide)
      have e63 : f 63 = _ := H 63 (by decide)
      clear H
      have hgc := (gcell hb).1
      go_simp
      exact ⟨hb, trivial, rfl⟩
    · refine duty_plain rfl fun f w1 hb H => ?_
      have e64 : f 64 = _ := H 64 (by decide)
      clear H
      have hgc := (gcell hb).1
      go_simp
      exact ⟨hb, trivial, rfl⟩
    · refine duty_guard _ _ _ rfl rfl fun f w1 hb H => ⟨H 65 (by decide), ?_⟩
      clear H
      go_simp
      refine (awake_any _).mono ?_
      rintro e w7 ⟨rfl, hg7⟩
      exact ⟨_, rfl, grown_trans hb hg7, trivial, rfl⟩
    · refine duty_plain rfl fun f w1 hb H => ?_
      have e65 : f 65 = _ := H 65 (by decide)
      have e66 : f 66 = _ := H 66 (by decide)
      clear H
      have hgc := (gcell hb).1
      go_simp
      exact ⟨hb, trivial, rfl⟩
    · refine duty_plain rfl fun f w1 hb H => ?_
      have e67 : f 67 = _ := H 67 (by decide)
      clear H
      have hgc := (gcell hb).1
      go_simp
      exact ⟨hb, trivial, rfl⟩
  · intro f w9 hb hE
    simp only [putAll, Act.put, slotV, List.setIfInBounds_toArray, List.set_cons_succ, List.set_cons_zero]
    simp only [Ends, tagV, SVal, and_true] at hE
    have e67 : f 67 = .bool true := by simp only [hE]
    have e4 : f 4 = .bool true := by simp only [hE]
    clear hE
    go_wp2_with fail
    refine bodyPost_ret (v := .bool true) (by simp [results, Try.results4, go_sem, e4]) rfl ?_
    exact ⟨rfl, grown_trans HG.out hb⟩

end Go.Proofs.Ytenlhaondbmhnaa
