/- The deck's instructions are valid; no condition. -/
import Derived.Test.YtenlhaondbmhnaaInsD
import Derived.Test.YtenlhaondbmhnaaBlk
import Derived.Test.YtenlhaondbmhnaaWord
import Derived.Deep.DeepCutAuto
import Derived.Deep.CutBlock
namespace Go.Proofs.Ytenlhaondbmhnaa
open Go.RowKit

/-- The world in the middle: the result's block, the instruction's, the table's. -/
structure InsW (F : Nat → Prop) (g : Nat) (L : List Int) (w0 : World) (q6 q7 q8 : Nat) (iv us : List Value) (w : World) : Prop where
  deals : Deals F g L w0 w
  r : Blk g w q6 29 [.int .i64 0, .int .i64 0, .int .i64 0, .int .i64 0, .int .i64 0]
  i : Blk g w q7 29 iv
  u : Blk g w q8 51 us
  h6 : w0.heap.size ≤ q6
  h67 : q6 < q7
  h78 : q7 < q8
theorem InsW.next {F : Nat → Prop} {g : Nat} {L : List Int} {w0 w w' : World} {q6 q7 q8 : Nat} {iv us : List Value} (h : InsW F g L w0 q6 q7 q8 iv us w) (hd : Deals F g L w w') : InsW F g L w0 q6 q7 q8 iv us w' :=
  ⟨h.deals.trans hd, h.r.up hd.up, h.i.up hd.up, h.u.up hd.up, h.h6, h.h67, h.h78⟩
theorem InsW.put {F : Nat → Prop} {g : Nat} {L : List Int} {w0 w : World} {q6 q7 q8 : Nat} {iv us : List Value} (h : InsW F g L w0 q6 q7 q8 iv us w) (hF : ∀ k, F k → k < w0.heap.size) (hg : g < w0.heap.size) (j : Nat) (v : Value) :
    InsW F g L w0 q6 q7 q8 (iv.set j v) us (w.setCell ⟨q7, j, none⟩ v) :=
  ⟨h.deals.set hF hg (by have := h.h6; have := h.h67; dsimp only; omega) v, h.r.other (by have := h.h67; omega) v, h.i.set j v, h.u.other (by have := h.h78; omega) v, h.h6, h.h67, h.h78⟩
theorem InsW.none {F : Nat → Prop} {g : Nat} {L : List Int} {w0 w w' : World} {q6 q7 q8 : Nat} {iv us : List Value} (h : InsW F g L w0 q6 q7 q8 iv us w) (hF : ∀ k, F k → k < w0.heap.size) (hg : w.grownBy w' none) : InsW F g L w0 q6 q7 q8 iv us w' :=
  ⟨h.deals.none hF hg, h.r.up (Up.of_none hg), h.i.up (Up.of_none hg), h.u.up (Up.of_none hg), h.h6, h.h67, h.h78⟩

def InstrPost (F : Nat → Prop) (g : Nat) (L : List Int) (w : World) (e : Ending) (w' : World) : Prop :=
  ∃ op a b c i : Int, ivB op a b c i = true ∧ e = .returned (.agg #[.int .i64 op, .int .i64 a, .int .i64 b, .int .i64 c, .int .i64 i]) ∧ Deals F g L w w'

/-- What is known of the number drawn for an instruction. -/
structure ImmOK (op i : Int) : Prop where
  lo : 0 ≤ i
  none : uI op = false → i = 0
  le : i ≤ mostI op
theorem ik_none {op : Int} (hi : uI op = false) (hj : jmpB op = false) (hl : (op == 15) = false) (hs : (op == 23) = false) : ImmOK op 0 := by
  refine ⟨by omega, fun _ => rfl, ?_⟩
  unfold mostI
  (repeat' split) <;> omega
theorem ik_word {op v : Int} (hi : uI op = true) (hj : jmpB op = false) (hl : (op == 15) = false) (hs : (op == 23) = false) (h0 : 0 ≤ v) (h1 : v ≤ 65535) : ImmOK op v := by
  refine ⟨h0, fun h => (by cases h.symm.trans hi), ?_⟩
  unfold mostI
  rw [if_neg (by simp [hj]), if_neg (by simpa using hl), if_neg (by simpa using hs)]; exact h1
theorem ik_sys {op v : Int} (hs : (op == 23) = true) (h0 : 0 ≤ v) (h1 : v < 16) : ImmOK op v := by
  have e : op = 23 := by simpa using hs
  subst e
  exact ⟨h0, fun h => (by cases h), by show v ≤ mostI 23; have : mostI 23 = 15 := rfl; omega⟩
theorem ik_lea {op v : Int} (hl : (op == 15) = true) (h0 : 0 ≤ v) (h1 : v < 4) : ImmOK op v := by
  have e : op = 15 := by simpa using hl
  subst e
  exact ⟨h0, fun h => (by cases h), by show v ≤ mostI 15; have : mostI 15 = 3 := rfl; omega⟩
theorem ik_jump {op v : Int} (hj : jmpB op = true) (h0 : 0 ≤ v) (h1 : v < 64) : ImmOK op v := by
  refine ⟨h0, fun h => ?_, by unfold mostI; rw [if_pos hj]; omega⟩
  exfalso
  simp only [jmpB, Bool.or_eq_true, beq_iff_eq] at hj
  rcases hj with ((rfl | rfl) | rfl) | rfl <;> cases h
theorem iv_of {op a b c i : Int} (h0 : 0 ≤ op) (h1 : op < 25) (ha : 0 ≤ a ∧ a < 8 ∧ (uA op = false → a = 0)) (hb : 0 ≤ b ∧ b < 8 ∧ (uB op = false → b = 0)) (hc : 0 ≤ c ∧ c < 8 ∧ (uC op = false → c = 0)) (hi : ImmOK op i) : ivB op a b c i = true := by
  have fld : ∀ (u : Bool) (v m : Int), 0 ≤ v → v ≤ m → (u = false → v = 0) → fieldB u v m = true := by
    intro u v m h0 h1 h2
    cases u
    · rw [h2 rfl]; rfl
    · simp only [fieldB, Bool.true_and, Bool.or_eq_true, beq_iff_eq, Bool.and_eq_true, decide_eq_true_eq]; omega
  simp only [ivB, opB, Bool.and_eq_true, decide_eq_true_eq]
  exact ⟨⟨h0, by omega⟩, ⟨⟨fld _ _ _ ha.1 (by omega) ha.2.2, fld _ _ _ hb.1 (by omega) hb.2.2⟩, fld _ _ _ hc.1 (by omega) hc.2.2⟩, fld _ _ _ hi.lo hi.le hi.none⟩

set_option maxRecDepth 100000 in
set_option maxHeartbeats 20000000 in
theorem deckInstr_any (F : Nat → Prop) (g : Nat) (L : List Int) (j : Nat) (w : World) (hF : ∀ k, F k → k < w.heap.size) (h : DeckAt w F g L j) :
    Calls Try.prog 11 #[.pointer (some ⟨g, 0, none⟩), .int .i64 4, .int .i64 64] w (InstrPost F g L w) := by
  have hgw := h.lt
  obtain ⟨⟨j0, h0⟩, hg0⟩ := (Deals.refl h).alloc hF (.cells #[.int .i64 0, .int .i64 0, .int .i64 0, .int .i64 0, .int .i64 0] 29)
  have H0 := Lib.hid h0
  have HD0 := Lib.hid (Deals.alloc (Deals.refl h) hF (.cells #[.int .i64 0, .int .i64 0, .int .i64 0, .int .i64 0, .int .i64 0] 29))
  clear h0 hg0 h
  go_enter Try.func11, Try.ntmps11
  go_wp2_with fail
  refine (next_any F g L j0 25 _ H0.out (by omega) (by omega)).mono ?_
  rintro e w1 ⟨op, ho0, ho1, rfl, hd1⟩
  have HR1 := Lib.hid ((Blk.new (w := w) (t := 29) (vs := [.int .i64 0, .int .i64 0, .int .i64 0, .int .i64 0, .int .i64 0]) hgw).up hd1.up)
  have HD1 := Lib.hid (HD0.out.trans hd1)
  have hz1 : w.heap.size < w1.heap.size := by have := hd1.2.size; simp at this; omega
  clear hd1 H0 HD0
  go_upto_region 2 with fail
  go_cut [7, 8] (fun s7 s8 wx => ∃ q7 q8 : Nat, s7 = .pointer (some ⟨q7, 0, none⟩) ∧ s8 = .pointer (some ⟨q8, 0, none⟩) ∧ InsW F g L w w.heap.size q7 q8 [.int .i64 op, .int .i64 0, .int .i64 0, .int .i64 0, .int .i64 0] [.bool (uA op), .bool (uB op), .bool (uC op), .bool (uI op)] wx)
  case first =>
    go_wp2_with fail
    refine (ref06_Uses_any op _).mono ?_
    rintro e w2 ⟨rfl, hg2⟩
    have HI2 := (Blk.new (g := g) (w := w1) (t := 29) (vs := [.int .i64 op, .int .i64 0, .int .i64 0, .int .i64 0, .int .i64 0]) (by omega)).up (Up.of_none hg2)
    have HR2 := HR1.out.up ((Up.alloc g w1 (.cells #[.int .i64 op, .int .i64 0, .int .i64 0, .int .i64 0, .int .i64 0] 29)).trans (Up.of_none hg2))
    have HD2 := (HD1.out.alloc (fun k hk => by have := hF k hk; omega) (.cells #[.int .i64 op, .int .i64 0, .int .i64 0, .int .i64 0, .int .i64 0] 29)).none hF hg2
    have hz2 : w1.heap.size < w2.heap.size := by have := hg2.size; simp at this; omega
    have hS3 : InsW F g L w w.heap.size w1.heap.size w2.heap.size [.int .i64 op, .int .i64 0, .int .i64 0, .int .i64 0, .int .i64 0] [.bool (uA op), .bool (uB op), .bool (uC op), .bool (uI op)] (w2.alloc (.cells #[.bool (uA op), .bool (uB op), .bool (uC op), .bool (uI op)] 51)) :=
      ⟨HD2.alloc (fun k hk => by have := hF k hk; omega) _, HR2.up (Up.alloc _ _ _), HI2.up (Up.alloc _ _ _), Blk.new (by omega), Nat.le_refl _, hz1, hz2⟩
    go_wp2_with fail
    go_meet
    exact ⟨_, _, rfl, rfl, hS3⟩
  case rest =>
  obtain ⟨q7, q8, rfl, rfl, hS3⟩ := hcut
  have HS3 := Lib.hid hS3
  clear HR1 HD1 hz1 hS3
  have k0 := (HS3.out).i.cell 0
  have k1 := (HS3.out).i.cell 1
  have k2 := (HS3.out).i.cell 2
  have k3 := (HS3.out).i.cell 3
  have k4 := (HS3.out).i.cell 4
  have y0 := (HS3.out).u.cell 0
  have y1 := (HS3.out).u.cell 1
  have y2 := (HS3.out).u.cell 2
  have y3 := (HS3.out).u.cell 3
  have z0 := (HS3.out).r.cell 0
  have z1 := (HS3.out).r.cell 1
  have z2 := (HS3.out).r.cell 2
  have z3 := (HS3.out).r.cell 3
  have z4 := (HS3.out).r.cell 4
  simp only [List.getElem?_cons_zero, List.getElem?_cons_succ, List.set_cons_zero, List.set_cons_succ] at k0 k1 k2 k3 k4 y0 y1 y2 y3 z0 z1 z2 z3 z4
  have fz0 := (HS3.out).i.free 0
  have fz1 := (HS3.out).i.free 1
  have fz2 := (HS3.out).i.free 2
  have fz3 := (HS3.out).i.free 3
  have fz4 := (HS3.out).i.free 4
  have fr0 := (HS3.out).r.free 0
  have fr1 := (HS3.out).r.free 1
  have fr2 := (HS3.out).r.free 2
  have fr3 := (HS3.out).r.free 3
  have fr4 := (HS3.out).r.free 4
  have l6 := (HS3.out).r.hi
  have l7 := (HS3.out).i.hi
  have l8 := (HS3.out).u.hi
  go_upto_if 16 with fail
  go_cut [] (fun wx => ∃ a : Int, (0 ≤ a ∧ a < 8 ∧ (uA op = false → a = 0)) ∧ InsW F g L w w.heap.size q7 q8 [.int .i64 op, .int .i64 a, .int .i64 0, .int .i64 0, .int .i64 0] [.bool (uA op), .bool (uB op), .bool (uC op), .bool (uI op)] wx)
  case first =>
    cases hu : uA op
    · rw [hu] at y0
      go_wp2_with fail
      go_meet
      exact ⟨0, ⟨by omega, by omega, fun _ => rfl⟩, HS3.out⟩
    · rw [hu] at y0
      obtain ⟨jx, hjx⟩ := HS3.out.deals.1
      have HJX := Lib.hid hjx; clear hjx
      go_wp2_with fail
      refine (next_any F g L jx 8 _ HJX.out (by omega) (by omega)).mono ?_
      rintro e wn ⟨v, hva, hvb, rfl, hd⟩
      have HT := Lib.hid (HS3.out.next hd)
      clear k0 k1 k2 k3 k4 y0 y1 y2 y3 z0 z1 z2 z3 z4 fz0 fz1 fz2 fz3 fz4 fr0 fr1 fr2 fr3 fr4 l6 l7 l8
      clear hd HJX
      have k0 := (HT.out).i.cell 0
      have k1 := (HT.out).i.cell 1
      have k2 := (HT.out).i.cell 2
      have k3 := (HT.out).i.cell 3
      have k4 := (HT.out).i.cell 4
      have y0 := (HT.out).u.cell 0
      have y1 := (HT.out).u.cell 1
      have y2 := (HT.out).u.cell 2
      have y3 := (HT.out).u.cell 3
      have z0 := (HT.out).r.cell 0
      have z1 := (HT.out).r.cell 1
      have z2 := (HT.out).r.cell 2
      have z3 := (HT.out).r.cell 3
      have z4 := (HT.out).r.cell 4
      simp only [List.getElem?_cons_zero, List.getElem?_cons_succ, List.set_cons_zero, List.set_cons_succ] at k0 k1 k2 k3 k4 y0 y1 y2 y3 z0 z1 z2 z3 z4
      have fz0 := (HT.out).i.free 0
      have fz1 := (HT.out).i.free 1
      have fz2 := (HT.out).i.free 2
      have fz3 := (HT.out).i.free 3
      have fz4 := (HT.out).i.free 4
      have fr0 := (HT.out).r.free 0
      have fr1 := (HT.out).r.free 1
      have fr2 := (HT.out).r.free 2
      have fr3 := (HT.out).r.free 3
      have fr4 := (HT.out).r.free 4
      have l6 := (HT.out).r.hi
      have l7 := (HT.out).i.hi
      have l8 := (HT.out).u.hi
      go_wp2_with fail
      go_meet
      exact ⟨v, ⟨by omega, by omega, fun h => (by cases hu.symm.trans h)⟩, HT.out.put hF hgw 1 (.int .i64 v)⟩
  case rest =>
  obtain ⟨a, ha, hn0⟩ := hcut
  have Ha := Lib.hid ha; have HN0 := Lib.hid hn0
  clear k0 k1 k2 k3 k4 y0 y1 y2 y3 z0 z1 z2 z3 z4 fz0 fz1 fz2 fz3 fz4 fr0 fr1 fr2 fr3 fr4 l6 l7 l8 HS3 ha hn0
  have k0 := (HN0.out).i.cell 0
  have k1 := (HN0.out).i.cell 1
  have k2 := (HN0.out).i.cell 2
  have k3 := (HN0.out).i.cell 3
  have k4 := (HN0.out).i.cell 4
  have y0 := (HN0.out).u.cell 0
  have y1 := (HN0.out).u.cell 1
  have y2 := (HN0.out).u.cell 2
  have y3 := (HN0.out).u.cell 3
  have z0 := (HN0.out).r.cell 0
  have z1 := (HN0.out).r.cell 1
  have z2 := (HN0.out).r.cell 2
  have z3 := (HN0.out).r.cell 3
  have z4 := (HN0.out).r.cell 4
  simp only [List.getElem?_cons_zero, List.getElem?_cons_succ, List.set_cons_zero, List.set_cons_succ] at k0 k1 k2 k3 k4 y0 y1 y2 y3 z0 z1 z2 z3 z4
  have fz0 := (HN0.out).i.free 0
  have fz1 := (HN0.out).i.free 1
  have fz2 := (HN0.out).i.free 2
  have fz3 := (HN0.out).i.free 3
  have fz4 := (HN0.out).i.free 4
  have fr0 := (HN0.out).r.free 0
  have fr1 := (HN0.out).r.free 1
  have fr2 := (HN0.out).r.free 2
  have fr3 := (HN0.out).r.free 3
  have fr4 := (HN0.out).r.free 4
  have l6 := (HN0.out).r.hi
  have l7 := (HN0.out).i.hi
  have l8 := (HN0.out).u.hi
  go_upto_if 21 with fail
  go_cut [] (fun wx => ∃ b : Int, (0 ≤ b ∧ b < 8 ∧ (uB op = false → b = 0)) ∧ InsW F g L w w.heap.size q7 q8 [.int .i64 op, .int .i64 a, .int .i64 b, .int .i64 0, .int .i64 0] [.bool (uA op), .bool (uB op), .bool (uC op), .bool (uI op)] wx)
  case first =>
    cases hu : uB op
    · rw [hu] at y1
      go_wp2_with fail
      go_meet
      exact ⟨0, ⟨by omega, by omega, fun _ => rfl⟩, HN0.out⟩
    · rw [hu] at y1
      obtain ⟨jx, hjx⟩ := HN0.out.deals.1
      have HJX := Lib.hid hjx; clear hjx
      go_wp2_with fail
      refine (next_any F g L jx 8 _ HJX.out (by omega) (by omega)).mono ?_
      rintro e wn ⟨v, hva, hvb, rfl, hd⟩
      have HT := Lib.hid (HN0.out.next hd)
      clear k0 k1 k2 k3 k4 y0 y1 y2 y3 z0 z1 z2 z3 z4 fz0 fz1 fz2 fz3 fz4 fr0 fr1 fr2 fr3 fr4 l6 l7 l8
      clear hd HJX
      have k0 := (HT.out).i.cell 0
      have k1 := (HT.out).i.cell 1
      have k2 := (HT.out).i.cell 2
      have k3 := (HT.out).i.cell 3
      have k4 := (HT.out).i.cell 4
      have y0 := (HT.out).u.cell 0
      have y1 := (HT.out).u.cell 1
      have y2 := (HT.out).u.cell 2
      have y3 := (HT.out).u.cell 3
      have z0 := (HT.out).r.cell 0
      have z1 := (HT.out).r.cell 1
      have z2 := (HT.out).r.cell 2
      have z3 := (HT.out).r.cell 3
      have z4 := (HT.out).r.cell 4
      simp only [List.getElem?_cons_zero, List.getElem?_cons_succ, List.set_cons_zero, List.set_cons_succ] at k0 k1 k2 k3 k4 y0 y1 y2 y3 z0 z1 z2 z3 z4
      have fz0 := (HT.out).i.free 0
      have fz1 := (HT.out).i.free 1
      have fz2 := (HT.out).i.free 2
      have fz3 := (HT.out).i.free 3
      have fz4 := (HT.out).i.free 4
      have fr0 := (HT.out).r.free 0
      have fr1 := (HT.out).r.free 1
      have fr2 := (HT.out).r.free 2
      have fr3 := (HT.out).r.free 3
      have fr4 := (HT.out).r.free 4
      have l6 := (HT.out).r.hi
      have l7 := (HT.out).i.hi
      have l8 := (HT.out).u.hi
      go_wp2_with fail
      go_meet
      exact ⟨v, ⟨by omega, by omega, fun h => (by cases hu.symm.trans h)⟩, HT.out.put hF hgw 2 (.int .i64 v)⟩
  case rest =>
  obtain ⟨b, hb, hn1⟩ := hcut
  have Hb := Lib.hid hb; have HN1 := Lib.hid hn1
  clear k0 k1 k2 k3 k4 y0 y1 y2 y3 z0 z1 z2 z3 z4 fz0 fz1 fz2 fz3 fz4 fr0 fr1 fr2 fr3 fr4 l6 l7 l8 HN0 hb hn1
  have k0 := (HN1.out).i.cell 0
  have k1 := (HN1.out).i.cell 1
  have k2 := (HN1.out).i.cell 2
  have k3 := (HN1.out).i.cell 3
  have k4 := (HN1.out).i.cell 4
  have y0 := (HN1.out).u.cell 0
  have y1 := (HN1.out).u.cell 1
  have y2 := (HN1.out).u.cell 2
  have y3 := (HN1.out).u.cell 3
  have z0 := (HN1.out).r.cell 0
  have z1 := (HN1.out).r.cell 1
  have z2 := (HN1.out).r.cell 2
  have z3 := (HN1.out).r.cell 3
  have z4 := (HN1.out).r.cell 4
  simp only [List.getElem?_cons_zero, List.getElem?_cons_succ, List.set_cons_zero, List.set_cons_succ] at k0 k1 k2 k3 k4 y0 y1 y2 y3 z0 z1 z2 z3 z4
  have fz0 := (HN1.out).i.free 0
  have fz1 := (HN1.out).i.free 1
  have fz2 := (HN1.out).i.free 2
  have fz3 := (HN1.out).i.free 3
  have fz4 := (HN1.out).i.free 4
  have fr0 := (HN1.out).r.free 0
  have fr1 := (HN1.out).r.free 1
  have fr2 := (HN1.out).r.free 2
  have fr3 := (HN1.out).r.free 3
  have fr4 := (HN1.out).r.free 4
  have l6 := (HN1.out).r.hi
  have l7 := (HN1.out).i.hi
  have l8 := (HN1.out).u.hi
  go_upto_if 26 with fail
  go_cut [] (fun wx => ∃ c : Int, (0 ≤ c ∧ c < 8 ∧ (uC op = false → c = 0)) ∧ InsW F g L w w.heap.size q7 q8 [.int .i64 op, .int .i64 a, .int .i64 b, .int .i64 c, .int .i64 0] [.bool (uA op), .bool (uB op), .bool (uC op), .bool (uI op)] wx)
  case first =>
    cases hu : uC op
    · rw [hu] at y2
      go_wp2_with fail
      go_meet
      exact ⟨0, ⟨by omega, by omega, fun _ => rfl⟩, HN1.out⟩
    · rw [hu] at y2
      obtain ⟨jx, hjx⟩ := HN1.out.deals.1
      have HJX := Lib.hid hjx; clear hjx
      go_wp2_with fail
      refine (next_any F g L jx 8 _ HJX.out (by omega) (by omega)).mono ?_
      rintro e wn ⟨v, hva, hvb, rfl, hd⟩
      have HT := Lib.hid (HN1.out.next hd)
      clear k0 k1 k2 k3 k4 y0 y1 y2 y3 z0 z1 z2 z3 z4 fz0 fz1 fz2 fz3 fz4 fr0 fr1 fr2 fr3 fr4 l6 l7 l8
      clear hd HJX
      have k0 := (HT.out).i.cell 0
      have k1 := (HT.out).i.cell 1
      have k2 := (HT.out).i.cell 2
      have k3 := (HT.out).i.cell 3
      have k4 := (HT.out).i.cell 4
      have y0 := (HT.out).u.cell 0
      have y1 := (HT.out).u.cell 1
      have y2 := (HT.out).u.cell 2
      have y3 := (HT.out).u.cell 3
      have z0 := (HT.out).r.cell 0
      have z1 := (HT.out).r.cell 1
      have z2 := (HT.out).r.cell 2
      have z3 := (HT.out).r.cell 3
      have z4 := (HT.out).r.cell 4
      simp only [List.getElem?_cons_zero, List.getElem?_cons_succ, List.set_cons_zero, List.set_cons_succ] at k0 k1 k2 k3 k4 y0 y1 y2 y3 z0 z1 z2 z3 z4
      have fz0 := (HT.out).i.free 0
      have fz1 := (HT.out).i.free 1
      have fz2 := (HT.out).i.free 2
      have fz3 := (HT.out).i.free 3
      have fz4 := (HT.out).i.free 4
      have fr0 := (HT.out).r.free 0
      have fr1 := (HT.out).r.free 1
      have fr2 := (HT.out).r.free 2
      have fr3 := (HT.out).r.free 3
      have fr4 := (HT.out).r.free 4
      have l6 := (HT.out).r.hi
      have l7 := (HT.out).i.hi
      have l8 := (HT.out).u.hi
      go_wp2_with fail
      go_meet
      exact ⟨v, ⟨by omega, by omega, fun h => (by cases hu.symm.trans h)⟩, HT.out.put hF hgw 3 (.int .i64 v)⟩
  case rest =>
  obtain ⟨c, hc, hn2⟩ := hcut
  have Hc := Lib.hid hc; have HN2 := Lib.hid hn2
  clear k0 k1 k2 k3 k4 y0 y1 y2 y3 z0 z1 z2 z3 z4 fz0 fz1 fz2 fz3 fz4 fr0 fr1 fr2 fr3 fr4 l6 l7 l8 HN1 hc hn2
  have k0 := (HN2.out).i.cell 0
  have k1 := (HN2.out).i.cell 1
  have k2 := (HN2.out).i.cell 2
  have k3 := (HN2.out).i.cell 3
  have k4 := (HN2.out).i.cell 4
  have y0 := (HN2.out).u.cell 0
  have y1 := (HN2.out).u.cell 1
  have y2 := (HN2.out).u.cell 2
  have y3 := (HN2.out).u.cell 3
  have z0 := (HN2.out).r.cell 0
  have z1 := (HN2.out).r.cell 1
  have z2 := (HN2.out).r.cell 2
  have z3 := (HN2.out).r.cell 3
  have z4 := (HN2.out).r.cell 4
  simp only [List.getElem?_cons_zero, List.getElem?_cons_succ, List.set_cons_zero, List.set_cons_succ] at k0 k1 k2 k3 k4 y0 y1 y2 y3 z0 z1 z2 z3 z4
  have fz0 := (HN2.out).i.free 0
  have fz1 := (HN2.out).i.free 1
  have fz2 := (HN2.out).i.free 2
  have fz3 := (HN2.out).i.free 3
  have fz4 := (HN2.out).i.free 4
  have fr0 := (HN2.out).r.free 0
  have fr1 := (HN2.out).r.free 1
  have fr2 := (HN2.out).r.free 2
  have fr3 := (HN2.out).r.free 3
  have fr4 := (HN2.out).r.free 4
  have l6 := (HN2.out).r.hi
  have l7 := (HN2.out).i.hi
  have l8 := (HN2.out).u.hi
  go_upto_block 0 with fail
  go_cut [] (fun wx => ∃ i : Int, ImmOK op i ∧ InsW F g L w w.heap.size q7 q8 [.int .i64 op, .int .i64 a, .int .i64 b, .int .i64 c, .int .i64 i] [.bool (uA op), .bool (uB op), .bool (uC op), .bool (uI op)] wx)
  case first =>
    go_wp2_with fail
    refine (ref06_Jump_any op _).mono ?_
    rintro e w9 ⟨rfl, rfl⟩
    cases hj : jmpB op
    · cases hl : (op == 15)
      · cases hs : (op == 23)
        · cases hi : uI op
          · rw [hi] at y3
            go_wp2_with fail
            go_meet
            exact ⟨0, by apply ik_none <;> assumption, HN2.out⟩
          · rw [hi] at y3
            obtain ⟨jx, hjx⟩ := HN2.out.deals.1
            have HJX := Lib.hid hjx; clear hjx
            go_wp2_with fail
            refine (word_any F g L jx _ HJX.out).mono ?_
            rintro e wn ⟨v, hva, hvb, rfl, hd⟩
            have hcv : IntKind.i64.wrap v = v := IntWalk.i64_in _ (by omega)
            have HT := Lib.hid (HN2.out.next hd)
            clear k0 k1 k2 k3 k4 y0 y1 y2 y3 z0 z1 z2 z3 z4 fz0 fz1 fz2 fz3 fz4 fr0 fr1 fr2 fr3 fr4 l6 l7 l8
            clear hd HJX
            have k0 := (HT.out).i.cell 0
            have k1 := (HT.out).i.cell 1
            have k2 := (HT.out).i.cell 2
            have k3 := (HT.out).i.cell 3
            have k4 := (HT.out).i.cell 4
            have y0 := (HT.out).u.cell 0
            have y1 := (HT.out).u.cell 1
            have y2 := (HT.out).u.cell 2
            have y3 := (HT.out).u.cell 3
            have z0 := (HT.out).r.cell 0
            have z1 := (HT.out).r.cell 1
            have z2 := (HT.out).r.cell 2
            have z3 := (HT.out).r.cell 3
            have z4 := (HT.out).r.cell 4
            simp only [List.getElem?_cons_zero, List.getElem?_cons_succ, List.set_cons_zero, List.set_cons_succ] at k0 k1 k2 k3 k4 y0 y1 y2 y3 z0 z1 z2 z3 z4
            have fz0 := (HT.out).i.free 0
            have fz1 := (HT.out).i.free 1
            have fz2 := (HT.out).i.free 2
            have fz3 := (HT.out).i.free 3
            have fz4 := (HT.out).i.free 4
            have fr0 := (HT.out).r.free 0
            have fr1 := (HT.out).r.free 1
            have fr2 := (HT.out).r.free 2
            have fr3 := (HT.out).r.free 3
            have fr4 := (HT.out).r.free 4
            have l6 := (HT.out).r.hi
            have l7 := (HT.out).i.hi
            have l8 := (HT.out).u.hi
            go_wp2_with fail
            go_meet
            exact ⟨v, by apply ik_word <;> first | assumption | omega, HT.out.put hF hgw 4 (.int .i64 v)⟩
        · obtain ⟨jx, hjx⟩ := HN2.out.deals.1
          have HJX := Lib.hid hjx; clear hjx
          go_wp2_with fail
          refine (next_any F g L jx 16 _ HJX.out (by omega) (by omega)).mono ?_
          rintro e wn ⟨v, hva, hvb, rfl, hd⟩
          have HT := Lib.hid (HN2.out.next hd)
          clear k0 k1 k2 k3 k4 y0 y1 y2 y3 z0 z1 z2 z3 z4 fz0 fz1 fz2 fz3 fz4 fr0 fr1 fr2 fr3 fr4 l6 l7 l8
          clear hd HJX
          have k0 := (HT.out).i.cell 0
          have k1 := (HT.out).i.cell 1
          have k2 := (HT.out).i.cell 2
          have k3 := (HT.out).i.cell 3
          have k4 := (HT.out).i.cell 4
          have y0 := (HT.out).u.cell 0
          have y1 := (HT.out).u.cell 1
          have y2 := (HT.out).u.cell 2
          have y3 := (HT.out).u.cell 3
          have z0 := (HT.out).r.cell 0
          have z1 := (HT.out).r.cell 1
          have z2 := (HT.out).r.cell 2
          have z3 := (HT.out).r.cell 3
          have z4 := (HT.out).r.cell 4
          simp only [List.getElem?_cons_zero, List.getElem?_cons_succ, List.set_cons_zero, List.set_cons_succ] at k0 k1 k2 k3 k4 y0 y1 y2 y3 z0 z1 z2 z3 z4
          have fz0 := (HT.out).i.free 0
          have fz1 := (HT.out).i.free 1
          have fz2 := (HT.out).i.free 2
          have fz3 := (HT.out).i.free 3
          have fz4 := (HT.out).i.free 4
          have fr0 := (HT.out).r.free 0
          have fr1 := (HT.out).r.free 1
          have fr2 := (HT.out).r.free 2
          have fr3 := (HT.out).r.free 3
          have fr4 := (HT.out).r.free 4
          have l6 := (HT.out).r.hi
          have l7 := (HT.out).i.hi
          have l8 := (HT.out).u.hi
          go_wp2_with fail
          go_meet
          exact ⟨v, by apply ik_sys <;> first | assumption | omega, HT.out.put hF hgw 4 (.int .i64 v)⟩
      · obtain ⟨jx, hjx⟩ := HN2.out.deals.1
        have HJX := Lib.hid hjx; clear hjx
        go_wp2_with fail
        refine (next_any F g L jx 4 _ HJX.out (by omega) (by omega)).mono ?_
        rintro e wn ⟨v, hva, hvb, rfl, hd⟩
        have HT := Lib.hid (HN2.out.next hd)
        clear k0 k1 k2 k3 k4 y0 y1 y2 y3 z0 z1 z2 z3 z4 fz0 fz1 fz2 fz3 fz4 fr0 fr1 fr2 fr3 fr4 l6 l7 l8
        clear hd HJX
        have k0 := (HT.out).i.cell 0
        have k1 := (HT.out).i.cell 1
        have k2 := (HT.out).i.cell 2
        have k3 := (HT.out).i.cell 3
        have k4 := (HT.out).i.cell 4
        have y0 := (HT.out).u.cell 0
        have y1 := (HT.out).u.cell 1
        have y2 := (HT.out).u.cell 2
        have y3 := (HT.out).u.cell 3
        have z0 := (HT.out).r.cell 0
        have z1 := (HT.out).r.cell 1
        have z2 := (HT.out).r.cell 2
        have z3 := (HT.out).r.cell 3
        have z4 := (HT.out).r.cell 4
        simp only [List.getElem?_cons_zero, List.getElem?_cons_succ, List.set_cons_zero, List.set_cons_succ] at k0 k1 k2 k3 k4 y0 y1 y2 y3 z0 z1 z2 z3 z4
        have fz0 := (HT.out).i.free 0
        have fz1 := (HT.out).i.free 1
        have fz2 := (HT.out).i.free 2
        have fz3 := (HT.out).i.free 3
        have fz4 := (HT.out).i.free 4
        have fr0 := (HT.out).r.free 0
        have fr1 := (HT.out).r.free 1
        have fr2 := (HT.out).r.free 2
        have fr3 := (HT.out).r.free 3
        have fr4 := (HT.out).r.free 4
        have l6 := (HT.out).r.hi
        have l7 := (HT.out).i.hi
        have l8 := (HT.out).u.hi
        go_wp2_with fail
        go_meet
        exact ⟨v, by apply ik_lea <;> first | assumption | omega, HT.out.put hF hgw 4 (.int .i64 v)⟩
    · obtain ⟨jx, hjx⟩ := HN2.out.deals.1
      have HJX := Lib.hid hjx; clear hjx
      go_wp2_with fail
      refine (next_any F g L jx 64 _ HJX.out (by omega) (by omega)).mono ?_
      rintro e wn ⟨v, hva, hvb, rfl, hd⟩
      have HT := Lib.hid (HN2.out.next hd)
      clear k0 k1 k2 k3 k4 y0 y1 y2 y3 z0 z1 z2 z3 z4 fz0 fz1 fz2 fz3 fz4 fr0 fr1 fr2 fr3 fr4 l6 l7 l8
      clear hd HJX
      have k0 := (HT.out).i.cell 0
      have k1 := (HT.out).i.cell 1
      have k2 := (HT.out).i.cell 2
      have k3 := (HT.out).i.cell 3
      have k4 := (HT.out).i.cell 4
      have y0 := (HT.out).u.cell 0
      have y1 := (HT.out).u.cell 1
      have y2 := (HT.out).u.cell 2
      have y3 := (HT.out).u.cell 3
      have z0 := (HT.out).r.cell 0
      have z1 := (HT.out).r.cell 1
      have z2 := (HT.out).r.cell 2
      have z3 := (HT.out).r.cell 3
      have z4 := (HT.out).r.cell 4
      simp only [List.getElem?_cons_zero, List.getElem?_cons_succ, List.set_cons_zero, List.set_cons_succ] at k0 k1 k2 k3 k4 y0 y1 y2 y3 z0 z1 z2 z3 z4
      have fz0 := (HT.out).i.free 0
      have fz1 := (HT.out).i.free 1
      have fz2 := (HT.out).i.free 2
      have fz3 := (HT.out).i.free 3
      have fz4 := (HT.out).i.free 4
      have fr0 := (HT.out).r.free 0
      have fr1 := (HT.out).r.free 1
      have fr2 := (HT.out).r.free 2
      have fr3 := (HT.out).r.free 3
      have fr4 := (HT.out).r.free 4
      have l6 := (HT.out).r.hi
      have l7 := (HT.out).i.hi
      have l8 := (HT.out).u.hi
      go_wp2_with fail
      go_meet
      exact ⟨v, by apply ik_jump <;> first | assumption | omega, HT.out.put hF hgw 4 (.int .i64 v)⟩
  case rest =>
  obtain ⟨i, hi, hn3⟩ := hcut
  have HI := Lib.hid hi; have HN3 := Lib.hid hn3
  clear k0 k1 k2 k3 k4 y0 y1 y2 y3 z0 z1 z2 z3 z4 fz0 fz1 fz2 fz3 fz4 fr0 fr1 fr2 fr3 fr4 l6 l7 l8 HN2 hi hn3
  have k0 := (HN3.out).i.cell 0
  have k1 := (HN3.out).i.cell 1
  have k2 := (HN3.out).i.cell 2
  have k3 := (HN3.out).i.cell 3
  have k4 := (HN3.out).i.cell 4
  have y0 := (HN3.out).u.cell 0
  have y1 := (HN3.out).u.cell 1
  have y2 := (HN3.out).u.cell 2
  have y3 := (HN3.out).u.cell 3
  have z0 := (HN3.out).r.cell 0
  have z1 := (HN3.out).r.cell 1
  have z2 := (HN3.out).r.cell 2
  have z3 := (HN3.out).r.cell 3
  have z4 := (HN3.out).r.cell 4
  simp only [List.getElem?_cons_zero, List.getElem?_cons_succ, List.set_cons_zero, List.set_cons_succ] at k0 k1 k2 k3 k4 y0 y1 y2 y3 z0 z1 z2 z3 z4
  have fz0 := (HN3.out).i.free 0
  have fz1 := (HN3.out).i.free 1
  have fz2 := (HN3.out).i.free 2
  have fz3 := (HN3.out).i.free 3
  have fz4 := (HN3.out).i.free 4
  have fr0 := (HN3.out).r.free 0
  have fr1 := (HN3.out).r.free 1
  have fr2 := (HN3.out).r.free 2
  have fr3 := (HN3.out).r.free 3
  have fr4 := (HN3.out).r.free 4
  have l6 := (HN3.out).r.hi
  have l7 := (HN3.out).i.hi
  have l8 := (HN3.out).u.hi
  go_wp2_with fail
  refine bodyPost_ret (v := .agg #[.int .i64 op, .int .i64 a, .int .i64 b, .int .i64 c, .int .i64 i]) (by simp [results, Try.results11, go_sem, *]) rfl ?_
  refine ⟨op, a, b, c, i, iv_of ho0 ho1 Ha.out Hb.out Hc.out HI.out, rfl, ?_⟩
  repeat (first | exact HN3.out.deals | refine Deals.set ?_ hF hgw (Nat.le_refl _) _)

end Go.Proofs.Ytenlhaondbmhnaa
