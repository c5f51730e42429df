/- Which instructions are valid, by the program; no condition. -/
import Derived.Test.YtenlhaondbmhnaaInsA
import Derived.Test.YtenlhaondbmhnaaRely
namespace Go.Proofs.Ytenlhaondbmhnaa
open Go.RowKit

def opB (op : Int) : Bool := decide (0 ≤ op) && decide (op ≤ 24)
/-- An instruction is valid. -/
def ivB (op a b c i : Int) : Bool := opB op && (fieldB (uA op) a 7 && fieldB (uB op) b 7 && fieldB (uC op) c 7 && fieldB (uI op) i (mostI op))

set_option maxRecDepth 100000 in
set_option maxHeartbeats 2000000 in
theorem instr_Valid_f1 (op a b c i : Int) (w : World) (h0 : 0 ≤ op) (h1 : op ≤ 24) (p1 : fieldB (uA op) a 7 = false) :
    Calls Try.prog 16 #[.agg #[.int .i64 op, .int .i64 a, .int .i64 b, .int .i64 c, .int .i64 i]] w (BoolGrown (ivB op a b c i) w) := by
  have Hf := Lib.hid (show false = ivB op a b c i by simp [ivB, opB, h0, h1, p1])
  have P1 := Lib.hid p1
  clear p1
  go_enter Try.func16, Try.ntmps16
  go_wp2_with (go_at_call 29; refine (instr_Fields_any op _).mono ?_; rintro e w1 ⟨rfl, hg⟩; have Hg := Lib.hid hg; have hz : w.heap.size < w1.heap.size := (by have := hg.size; simp at this; omega); obtain ⟨hgc, hgf⟩ := gcell hg; clear hg)
  obtain ⟨q1, hq1⟩ : ∃ q, q = w.heap.size := ⟨_, rfl⟩
  obtain ⟨q3, hq3⟩ : ∃ q, q = w1.heap.size := ⟨_, rfl⟩
  have hc : ∀ o, (w1.alloc (.cells #[.bool (uA op), .bool (uB op), .bool (uC op), .bool (uI op)] 56)).cell? ⟨q1, o, none⟩ = (#[Value.int .i64 op, .int .i64 a, .int .i64 b, .int .i64 c, .int .i64 i] : Array Value)[o]? := fun o => by
    rw [hq1, World.cell?_alloc_lt _ _ _ hz, (gcell Hg.out).1 _ _ (by simp)]
    exact World.cell?_alloc_new _ _ _ _
  have hd : ∀ o, (w1.alloc (.cells #[.bool (uA op), .bool (uB op), .bool (uC op), .bool (uI op)] 56)).cell? ⟨q3, o, none⟩ = (#[Value.bool (uA op), .bool (uB op), .bool (uC op), .bool (uI op)] : Array Value)[o]? := fun o => by
    rw [hq3]; exact World.cell?_alloc_new _ _ _ _
  have l1 : q1 < (w1.alloc (.cells #[.bool (uA op), .bool (uB op), .bool (uC op), .bool (uI op)] 56)).heap.size := by simp; omega
  have l3 : q3 < (w1.alloc (.cells #[.bool (uA op), .bool (uB op), .bool (uC op), .bool (uI op)] 56)).heap.size := by simp; omega
  have HG8 := Lib.hid (show w.grownBy (w1.alloc (.cells #[.bool (uA op), .bool (uB op), .bool (uC op), .bool (uI op)] 56)) none from grown_alloc (grown_trans (grown_alloc (grown_refl _ _) _) Hg.out) _)
  rw [← hq1, ← hq3]
  clear hgc hgf Hg hq1 hq3 hz
  generalize w1.alloc (.cells #[.bool (uA op), .bool (uB op), .bool (uC op), .bool (uI op)] 56) = w8 at *
  have c0 := hc 0
  have c1 := hc 1
  have c2 := hc 2
  have c3 := hc 3
  have c4 := hc 4
  have d0 := hd 0
  have d1 := hd 1
  have d2 := hd 2
  have d3 := hd 3
  simp only [List.getElem?_toArray, List.getElem?_cons_zero, List.getElem?_cons_succ] at c0 c1 c2 c3 c4 d0 d1 d2 d3
  clear hc hd
  refine wp_region_rely (fun w' => w8.grownBy w' none) (fun _ _ => True)
    [SVal (.func (.func 30) #[] #[]), SVal (.pointer (some ⟨q3, 0, none⟩)), SVal (.bool (uA op)), SVal (.pointer (some ⟨q1, 1, none⟩)), SVal (.int .i64 a), SVal (.bool false), SVal (.bool false), SVal (undef), SVal (undef), SVal (undef), SVal (undef), SVal (undef), SVal (undef), SVal (.bool false), SVal (.bool false), SVal (undef), SVal (undef), SVal (undef), SVal (undef), SVal (undef), SVal (undef), SVal (.bool false), SVal (.bool false), SVal (undef), SVal (undef), SVal (undef), SVal (undef), SVal (undef), SVal (undef), SVal (undef), SVal (undef), SVal (undef), SVal (.bool false), SVal (.bool false)]
    49 (by kernel_rfl) rfl (by kernel_rfl) (grown_drew (grown_refl _ _)) (fun _ => trivial) ?_ ?_ ?_
  · exact ⟨SVal.kept, SVal.kept, SVal.kept, SVal.kept, SVal.kept, SVal.kept, SVal.kept, SVal.kept, SVal.kept, SVal.kept, SVal.kept, SVal.kept, SVal.kept, SVal.kept, SVal.kept, SVal.kept, SVal.kept, SVal.kept, SVal.kept, SVal.kept, SVal.kept, SVal.kept, SVal.kept, SVal.kept, SVal.kept, SVal.kept, SVal.kept, SVal.kept, SVal.kept, SVal.kept, SVal.kept, SVal.kept, SVal.kept, SVal.kept, trivial⟩
  · refine duties_cons ?_ (duties_cons ?_ (duties_cons ?_ (duties_cons ?_ (duties_cons ?_ (duties_cons ?_ (duties_cons ?_ (duties_cons ?_ (duties_cons ?_ (duties_cons ?_ (duties_cons ?_ (duties_cons ?_ (duties_cons ?_ (duties_cons ?_ (duties_cons ?_ (duties_cons ?_ (duties_cons ?_ (duties_cons ?_ (duties_cons ?_ (duties_cons ?_ (duties_cons ?_ (duties_cons ?_ (duties_cons ?_ (duties_cons ?_ (duties_cons ?_ (duties_cons ?_ (duties_cons ?_ (duties_cons ?_ (duties_cons ?_ (duties_cons ?_ (duties_cons ?_ (duties_cons ?_ (duties_cons ?_ (duties_cons ?_ duties_nil)))))))))))))))))))))))))))))))))
    · refine duty_plain rfl fun f w1 hb H => ?_
      have e4 : f 4 = _ := H 4 (by decide)
      clear H
      have hgc := (gcell hb).1
      go_simp
      exact ⟨hb, trivial, rfl⟩
    · refine duty_plain rfl fun f w1 hb H => ?_
      have e3 : f 3 = _ := H 3 (by decide)
      clear H
      have hgc := (gcell hb).1
      go_simp
      exact ⟨hb, trivial, rfl⟩
    · refine duty_plain rfl fun f w1 hb H => ?_
      have e17 : f 17 = _ := H 17 (by decide)
      clear H
      have hgc := (gcell hb).1
      go_simp
      exact ⟨hb, trivial, rfl⟩
    · refine duty_plain rfl fun f w1 hb H => ?_
      have e1 : f 1 = _ := H 1 (by decide)
      clear H
      have hgc := (gcell hb).1
      go_simp
      exact ⟨hb, trivial, rfl⟩
    · refine duty_plain rfl fun f w1 hb H => ?_
      have e19 : f 19 = _ := H 19 (by decide)
      clear H
      have hgc := (gcell hb).1
      go_simp
      exact ⟨hb, trivial, rfl⟩
    · refine duty_plain rfl fun f w1 hb H => ?_
      have e16 : f 16 = _ := H 16 (by decide)
      have e18 : f 18 = _ := H 18 (by decide)
      have e20 : f 20 = _ := H 20 (by decide)
      clear H
      go_simp
      exact (field_any _ _ _ _).mono fun e w2 h => ⟨_, h.1, h.2 ▸ hb, trivial, by rw [P1.out]; rfl⟩
    · refine duty_plain rfl fun f w1 hb H => ?_
      have e21 : f 21 = _ := H 21 (by decide)
      clear H
      have hgc := (gcell hb).1
      go_simp
      exact ⟨hb, trivial, rfl⟩
    · exact duty_shut _ _ _ rfl rfl fun f w1 hb H => ⟨H 22 (by decide), rfl⟩
    · exact duty_shut _ _ _ rfl rfl fun f w1 hb H => ⟨H 22 (by decide), rfl⟩
    · exact duty_shut _ _ _ rfl rfl fun f w1 hb H => ⟨H 22 (by decide), rfl⟩
    · exact duty_shut _ _ _ rfl rfl fun f w1 hb H => ⟨H 22 (by decide), rfl⟩
    · exact duty_shut _ _ _ rfl rfl fun f w1 hb H => ⟨H 22 (by decide), rfl⟩
    · exact duty_shut _ _ _ rfl rfl fun f w1 hb H => ⟨H 22 (by decide), rfl⟩
    · refine duty_plain rfl fun f w1 hb H => ?_
      have e22 : f 22 = _ := H 22 (by decide)
      have e28 : f 28 = _ := H 28 (by decide)
      clear H
      have hgc := (gcell hb).1
      go_simp
      exact ⟨hb, trivial, rfl⟩
    · refine duty_plain rfl fun f w1 hb H => ?_
      have e29 : f 29 = _ := H 29 (by decide)
      clear H
      have hgc := (gcell hb).1
      go_simp
      exact ⟨hb, trivial, rfl⟩
    · exact duty_shut _ _ _ rfl rfl fun f w1 hb H => ⟨H 30 (by decide), rfl⟩
    · exact duty_shut _ _ _ rfl rfl fun f w1 hb H => ⟨H 30 (by decide), rfl⟩
    · exact duty_shut _ _ _ rfl rfl fun f w1 hb H => ⟨H 30 (by decide), rfl⟩
    · exact duty_shut _ _ _ rfl rfl fun f w1 hb H => ⟨H 30 (by decide), rfl⟩
    · exact duty_shut _ _ _ rfl rfl fun f w1 hb H => ⟨H 30 (by decide), rfl⟩
    · exact duty_shut _ _ _ rfl rfl fun f w1 hb H => ⟨H 30 (by decide), rfl⟩
    · refine duty_plain rfl fun f w1 hb H => ?_
      have e30 : f 30 = _ := H 30 (by decide)
      have e36 : f 36 = _ := H 36 (by decide)
      clear H
      have hgc := (gcell hb).1
      go_simp
      exact ⟨hb, trivial, rfl⟩
    · refine duty_plain rfl fun f w1 hb H => ?_
      have e37 : f 37 = _ := H 37 (by decide)
      clear H
      have hgc := (gcell hb).1
      go_simp
      exact ⟨hb, trivial, rfl⟩
    · exact duty_shut _ _ _ rfl rfl fun f w1 hb H => ⟨H 38 (by decide), rfl⟩
    · exact duty_shut _ _ _ rfl rfl fun f w1 hb H => ⟨H 38 (by decide), rfl⟩
    · exact duty_shut _ _ _ rfl rfl fun f w1 hb H => ⟨H 38 (by decide), rfl⟩
    · exact duty_shut _ _ _ rfl rfl fun f w1 hb H => ⟨H 38 (by decide), rfl⟩
    · exact duty_shut _ _ _ rfl rfl fun f w1 hb H => ⟨H 38 (by decide), rfl⟩
    · exact duty_shut _ _ _ rfl rfl fun f w1 hb H => ⟨H 38 (by decide), rfl⟩
    · exact duty_shut _ _ _ rfl rfl fun f w1 hb H => ⟨H 38 (by decide), rfl⟩
    · exact duty_shut _ _ _ rfl rfl fun f w1 hb H => ⟨H 38 (by decide), rfl⟩
    · exact duty_shut _ _ _ rfl rfl fun f w1 hb H => ⟨H 38 (by decide), rfl⟩
    · refine duty_plain rfl fun f w1 hb H => ?_
      have e38 : f 38 = _ := H 38 (by decide)
      have e47 : f 47 = _ := H 47 (by decide)
      clear H
      have hgc := (gcell hb).1
      go_simp
      exact ⟨hb, trivial, rfl⟩
    · refine duty_plain rfl fun f w1 hb H => ?_
      have e48 : f 48 = _ := H 48 (by decide)
      clear H
      have hgc := (gcell hb).1
      go_simp
      exact ⟨hb, trivial, rfl⟩
  · intro f w9 hb hE
    simp only [putAll, Act.put, slotV, List.setIfInBounds_toArray, List.set_cons_succ, List.set_cons_zero]
    have e2 : f 2 = .bool false := by
      simp only [Ends, tagV, SVal] at hE
      simp [hE]
    rw [e2]
    clear hE e2
    go_wp2
    go_ret
    exact ⟨ret_bool Hf.out, grown_trans HG8.out hb⟩

set_option maxRecDepth 100000 in
set_option maxHeartbeats 2000000 in
theorem instr_Valid_f2 (op a b c i : Int) (w : World) (h0 : 0 ≤ op) (h1 : op ≤ 24) (p1 : fieldB (uA op) a 7 = true) (p2 : fieldB (uB op) b 7 = false) :
    Calls Try.prog 16 #[.agg #[.int .i64 op, .int .i64 a, .int .i64 b, .int .i64 c, .int .i64 i]] w (BoolGrown (ivB op a b c i) w) := by
  have Hf := Lib.hid (show false = ivB op a b c i by simp [ivB, opB, h0, h1, p1, p2])
  have P1 := Lib.hid p1
  have P2 := Lib.hid p2
  clear p1 p2
  go_enter Try.func16, Try.ntmps16
  go_wp2_with (go_at_call 29; refine (instr_Fields_any op _).mono ?_; rintro e w1 ⟨rfl, hg⟩; have Hg := Lib.hid hg; have hz : w.heap.size < w1.heap.size := (by have := hg.size; simp at this; omega); obtain ⟨hgc, hgf⟩ := gcell hg; clear hg)
  obtain ⟨q1, hq1⟩ : ∃ q, q = w.heap.size := ⟨_, rfl⟩
  obtain ⟨q3, hq3⟩ : ∃ q, q = w1.heap.size := ⟨_, rfl⟩
  have hc : ∀ o, (w1.alloc (.cells #[.bool (uA op), .bool (uB op), .bool (uC op), .bool (uI op)] 56)).cell? ⟨q1, o, none⟩ = (#[Value.int .i64 op, .int .i64 a, .int .i64 b, .int .i64 c, .int .i64 i] : Array Value)[o]? := fun o => by
    rw [hq1, World.cell?_alloc_lt _ _ _ hz, (gcell Hg.out).1 _ _ (by simp)]
    exact World.cell?_alloc_new _ _ _ _
  have hd : ∀ o, (w1.alloc (.cells #[.bool (uA op), .bool (uB op), .bool (uC op), .bool (uI op)] 56)).cell? ⟨q3, o, none⟩ = (#[Value.bool (uA op), .bool (uB op), .bool (uC op), .bool (uI op)] : Array Value)[o]? := fun o => by
    rw [hq3]; exact World.cell?_alloc_new _ _ _ _
  have l1 : q1 < (w1.alloc (.cells #[.bool (uA op), .bool (uB op), .bool (uC op), .bool (uI op)] 56)).heap.size := by simp; omega
  have l3 : q3 < (w1.alloc (.cells #[.bool (uA op), .bool (uB op), .bool (uC op), .bool (uI op)] 56)).heap.size := by simp; omega
  have HG8 := Lib.hid (show w.grownBy (w1.alloc (.cells #[.bool (uA op), .bool (uB op), .bool (uC op), .bool (uI op)] 56)) none from grown_alloc (grown_trans (grown_alloc (grown_refl _ _) _) Hg.out) _)
  rw [← hq1, ← hq3]
  clear hgc hgf Hg hq1 hq3 hz
  generalize w1.alloc (.cells #[.bool (uA op), .bool (uB op), .bool (uC op), .bool (uI op)] 56) = w8 at *
  have c0 := hc 0
  have c1 := hc 1
  have c2 := hc 2
  have c3 := hc 3
  have c4 := hc 4
  have d0 := hd 0
  have d1 := hd 1
  have d2 := hd 2
  have d3 := hd 3
  simp only [List.getElem?_toArray, List.getElem?_cons_zero, List.getElem?_cons_succ] at c0 c1 c2 c3 c4 d0 d1 d2 d3
  clear hc hd
  refine wp_region_rely (fun w' => w8.grownBy w' none) (fun _ _ => True)
    [SVal (.func (.func 30) #[] #[]), SVal (.pointer (some ⟨q3, 0, none⟩)), SVal (.bool (uA op)), SVal (.pointer (some ⟨q1, 1, none⟩)), SVal (.int .i64 a), SVal (.bool true), SVal (.bool true), SVal (.func (.func 30) #[] #[]), SVal (.pointer (some ⟨q3, 1, none⟩)), SVal (.bool (uB op)), SVal (.pointer (some ⟨q1, 2, none⟩)), SVal (.int .i64 b), SVal (.bool false), SVal (.bool false), SVal (.bool false), SVal (undef), SVal (undef), SVal (undef), SVal (undef), SVal (undef), SVal (undef), SVal (.bool false), SVal (.bool false), SVal (undef), SVal (undef), SVal (undef), SVal (undef), SVal (undef), SVal (undef), SVal (undef), SVal (undef), SVal (undef), SVal (.bool false), SVal (.bool false)]
    49 (by kernel_rfl) rfl (by kernel_rfl) (grown_drew (grown_refl _ _)) (fun _ => trivial) ?_ ?_ ?_
  · exact ⟨SVal.kept, SVal.kept, SVal.kept, SVal.kept, SVal.kept, SVal.kept, SVal.kept, SVal.kept, SVal.kept, SVal.kept, SVal.kept, SVal.kept, SVal.kept, SVal.kept, SVal.kept, SVal.kept, SVal.kept, SVal.kept, SVal.kept, SVal.kept, SVal.kept, SVal.kept, SVal.kept, SVal.kept, SVal.kept, SVal.kept, SVal.kept, SVal.kept, SVal.kept, SVal.kept, SVal.kept, SVal.kept, SVal.kept, SVal.kept, trivial⟩
  · refine duties_cons ?_ (duties_cons ?_ (duties_cons ?_ (duties_cons ?_ (duties_cons ?_ (duties_cons ?_ (duties_cons ?_ (duties_cons ?_ (duties_cons ?_ (duties_cons ?_ (duties_cons ?_ (duties_cons ?_ (duties_cons ?_ (duties_cons ?_ (duties_cons ?_ (duties_cons ?_ (duties_cons ?_ (duties_cons ?_ (duties_cons ?_ (duties_cons ?_ (duties_cons ?_ (duties_cons ?_ (duties_cons ?_ (duties_cons ?_ (duties_cons ?_ (duties_cons ?_ (duties_cons ?_ (duties_cons ?_ (duties_cons ?_ (duties_cons ?_ (duties_cons ?_ (duties_cons ?_ (duties_cons ?_ (duties_cons ?_ duties_nil)))))))))))))))))))))))))))))))))
    · refine duty_plain rfl fun f w1 hb H => ?_
      have e4 : f 4 = _ := H 4 (by decide)
      clear H
      have hgc := (gcell hb).1
      go_simp
      exact ⟨hb, trivial, rfl⟩
    · refine duty_plain rfl fun f w1 hb H => ?_
      have e3 : f 3 = _ := H 3 (by decide)
      clear H
      have hgc := (gcell hb).1
      go_simp
      exact ⟨hb, trivial, rfl⟩
    · refine duty_plain rfl fun f w1 hb H => ?_
      have e17 : f 17 = _ := H 17 (by decide)
      clear H
      have hgc := (gcell hb).1
      go_simp
      exact ⟨hb, trivial, rfl⟩
    · refine duty_plain rfl fun f w1 hb H => ?_
      have e1 : f 1 = _ := H 1 (by decide)
      clear H
      have hgc := (gcell hb).1
      go_simp
      exact ⟨hb, trivial, rfl⟩
    · refine duty_plain rfl fun f w1 hb H => ?_
      have e19 : f 19 = _ := H 19 (by decide)
      clear H
      have hgc := (gcell hb).1
      go_simp
      exact ⟨hb, trivial, rfl⟩
    · refine duty_plain rfl fun f w1 hb H => ?_
      have e16 : f 16 = _ := H 16 (by decide)
      have e18 : f 18 = _ := H 18 (by decide)
      have e20 : f 20 = _ := H 20 (by decide)
      clear H
      go_simp
      exact (field_any _ _ _ _).mono fun e w2 h => ⟨_, h.1, h.2 ▸ hb, trivial, by rw [P1.out]; rfl⟩
    · refine duty_plain rfl fun f w1 hb H => ?_
      have e21 : f 21 = _ := H 21 (by decide)
      clear H
      have hgc := (gcell hb).1
      go_simp
      exact ⟨hb, trivial, rfl⟩
    · refine duty_guard _ _ _ rfl rfl fun f w1 hb H => ⟨H 22 (by decide), ?_⟩
      have e4 : f 4 = _ := H 4 (by decide)
      clear H
      have hgc := (gcell hb).1
      go_simp
      exact ⟨hb, trivial, rfl⟩
    · refine duty_guard _ _ _ rfl rfl fun f w1 hb H => ⟨H 22 (by decide), ?_⟩
      have e3 : f 3 = _ := H 3 (by decide)
      clear H
      have hgc := (gcell hb).1
      go_simp
      exact ⟨hb, trivial, rfl⟩
    · refine duty_guard _ _ _ rfl rfl fun f w1 hb H => ⟨H 22 (by decide), ?_⟩
      have e24 : f 24 = _ := H 24 (by decide)
      clear H
      have hgc := (gcell hb).1
      go_simp
      exact ⟨hb, trivial, rfl⟩
    · refine duty_guard _ _ _ rfl rfl fun f w1 hb H => ⟨H 22 (by decide), ?_⟩
      have e1 : f 1 = _ := H 1 (by decide)
      clear H
      have hgc := (gcell hb).1
      go_simp
      exact ⟨hb, trivial, rfl⟩
    · refine duty_guard _ _ _ rfl rfl fun f w1 hb H => ⟨H 22 (by decide), ?_⟩
      have e26 : f 26 = _ := H 26 (by decide)
      clear H
      have hgc := (gcell hb).1
      go_simp
      exact ⟨hb, trivial, rfl⟩
    · refine duty_guard _ _ _ rfl rfl fun f w1 hb H => ⟨H 22 (by decide), ?_⟩
      have e23 : f 23 = _ := H 23 (by decide)
      have e25 : f 25 = _ := H 25 (by decide)
      have e27 : f 27 = _ := H 27 (by decide)
      clear H
      go_simp
      exact (field_any _ _ _ _).mono fun e w2 h => ⟨_, h.1, h.2 ▸ hb, trivial, by rw [P2.out]; rfl⟩
    · refine duty_plain rfl fun f w1 hb H => ?_
      have e22 : f 22 = _ := H 22 (by decide)
      have e28 : f 28 = _ := H 28 (by decide)
      clear H
      have hgc := (gcell hb).1
      go_simp
      exact ⟨hb, trivial, rfl⟩
    · refine duty_plain rfl fun f w1 hb H => ?_
      have e29 : f 29 = _ := H 29 (by decide)
      clear H
      have hgc := (gcell hb).1
      go_simp
      exact ⟨hb, trivial, rfl⟩
    · exact duty_shut _ _ _ rfl rfl fun f w1 hb H => ⟨H 30 (by decide), rfl⟩
    · exact duty_shut _ _ _ rfl rfl fun f w1 hb H => ⟨H 30 (by decide), rfl⟩
    · exact duty_shut _ _ _ rfl rfl fun f w1 hb H => ⟨H 30 (by decide), rfl⟩
    · exact duty_shut _ _ _ rfl rfl fun f w1 hb H => ⟨H 30 (by decide), rfl⟩
    · exact duty_shut _ _ _ rfl rfl fun f w1 hb H => ⟨H 30 (by decide), rfl⟩
    · exact duty_shut _ _ _ rfl rfl fun f w1 hb H => ⟨H 30 (by decide), rfl⟩
    · refine duty_plain rfl fun f w1 hb H => ?_
      have e30 : f 30 = _ := H 30 (by decide)
      have e36 : f 36 = _ := H 36 (by decide)
      clear H
      have hgc := (gcell hb).1
      go_simp
      exact ⟨hb, trivial, rfl⟩
    · refine duty_plain rfl fun f w1 hb H => ?_
      have e37 : f 37 = _ := H 37 (by decide)
      clear H
      have hgc := (gcell hb).1
      go_simp
      exact ⟨hb, trivial, rfl⟩
    · exact duty_shut _ _ _ rfl rfl fun f w1 hb H => ⟨H 38 (by decide), rfl⟩
    · exact duty_shut _ _ _ rfl rfl fun f w1 hb H => ⟨H 38 (by decide), rfl⟩
    · exact duty_shut _ _ _ rfl rfl fun f w1 hb H => ⟨H 38 (by decide), rfl⟩
    · exact duty_shut _ _ _ rfl rfl fun f w1 hb H => ⟨H 38 (by decide), rfl⟩
    · exact duty_shut _ _ _ rfl rfl fun f w1 hb H => ⟨H 38 (by decide), rfl⟩
    · exact duty_shut _ _ _ rfl rfl fun f w1 hb H => ⟨H 38 (by decide), rfl⟩
    · exact duty_shut _ _ _ rfl rfl fun f w1 hb H => ⟨H 38 (by decide), rfl⟩
    · exact duty_shut _ _ _ rfl rfl fun f w1 hb H => ⟨H 38 (by decide), rfl⟩
    · exact duty_shut _ _ _ rfl rfl fun f w1 hb H => ⟨H 38 (by decide), rfl⟩
    · refine duty_plain rfl fun f w1 hb H => ?_
      have e38 : f 38 = _ := H 38 (by decide)
      have e47 : f 47 = _ := H 47 (by decide)
      clear H
      have hgc := (gcell hb).1
      go_simp
      exact ⟨hb, trivial, rfl⟩
    · refine duty_plain rfl fun f w1 hb H => ?_
      have e48 : f 48 = _ := H 48 (by decide)
      clear H
      have hgc := (gcell hb).1
      go_simp
      exact ⟨hb, trivial, rfl⟩
  · intro f w9 hb hE
    simp only [putAll, Act.put, slotV, List.setIfInBounds_toArray, List.set_cons_succ, List.set_cons_zero]
    have e2 : f 2 = .bool false := by
      simp only [Ends, tagV, SVal] at hE
      simp [hE]
    rw [e2]
    clear hE e2
    go_wp2
    go_ret
    exact ⟨ret_bool Hf.out, grown_trans HG8.out hb⟩

set_option maxRecDepth 100000 in
set_option maxHeartbeats 2000000 in
theorem instr_Valid_f3 (op a b c i : Int) (w : World) (h0 : 0 ≤ op) (h1 : op ≤ 24) (p1 : fieldB (uA op) a 7 = true) (p2 : fieldB (uB op) b 7 = true) (p3 : fieldB (uC op) c 7 = false) :
    Calls Try.prog 16 #[.agg #[.int .i64 op, .int .i64 a, .int .i64 b, .int .i64 c, .int .i64 i]] w (BoolGrown (ivB op a b c i) w) := by
  have Hf := Lib.hid (show false = ivB op a b c i by simp [ivB, opB, h0, h1, p1, p2, p3])
  have P1 := Lib.hid p1
  have P2 := Lib.hid p2
  have P3 := Lib.hid p3
  clear p1 p2 p3
  go_enter Try.func16, Try.ntmps16
  go_wp2_with (go_at_call 29; refine (instr_Fields_any op _).mono ?_; rintro e w1 ⟨rfl, hg⟩; have Hg := Lib.hid hg; have hz : w.heap.size < w1.heap.size := (by have := hg.size; simp at this; omega); obtain ⟨hgc, hgf⟩ := gcell hg; clear hg)
  obtain ⟨q1, hq1⟩ : ∃ q, q = w.heap.size := ⟨_, rfl⟩
  obtain ⟨q3, hq3⟩ : ∃ q, q = w1.heap.size := ⟨_, rfl⟩
  have hc : ∀ o, (w1.alloc (.cells #[.bool (uA op), .bool (uB op), .bool (uC op), .bool (uI op)] 56)).cell? ⟨q1, o, none⟩ = (#[Value.int .i64 op, .int .i64 a, .int .i64 b, .int .i64 c, .int .i64 i] : Array Value)[o]? := fun o => by
    rw [hq1, World.cell?_alloc_lt _ _ _ hz, (gcell Hg.out).1 _ _ (by simp)]
    exact World.cell?_alloc_new _ _ _ _
  have hd : ∀ o, (w1.alloc (.cells #[.bool (uA op), .bool (uB op), .bool (uC op), .bool (uI op)] 56)).cell? ⟨q3, o, none⟩ = (#[Value.bool (uA op), .bool (uB op), .bool (uC op), .bool (uI op)] : Array Value)[o]? := fun o => by
    rw [hq3]; exact World.cell?_alloc_new _ _ _ _
  have l1 : q1 < (w1.alloc (.cells #[.bool (uA op), .bool (uB op), .bool (uC op), .bool (uI op)] 56)).heap.size := by simp; omega
  have l3 : q3 < (w1.alloc (.cells #[.bool (uA op), .bool (uB op), .bool (uC op), .bool (uI op)] 56)).heap.size := by simp; omega
  have HG8 := Lib.hid (show w.grownBy (w1.alloc (.cells #[.bool (uA op), .bool (uB op), .bool (uC op), .bool (uI op)] 56)) none from grown_alloc (grown_trans (grown_alloc (grown_refl _ _) _) Hg.out) _)
  rw [← hq1, ← hq3]
  clear hgc hgf Hg hq1 hq3 hz
  generalize w1.alloc (.cells #[.bool (uA op), .bool (uB op), .bool (uC op), .bool (uI op)] 56) = w8 at *
  have c0 := hc 0
  have c1 := hc 1
  have c2 := hc 2
  have c3 := hc 3
  have c4 := hc 4
  have d0 := hd 0
  have d1 := hd 1
  have d2 := hd 2
  have d3 := hd 3
  simp only [List.getElem?_toArray, List.getElem?_cons_zero, List.getElem?_cons_succ] at c0 c1 c2 c3 c4 d0 d1 d2 d3
  clear hc hd
  refine wp_region_rely (fun w' => w8.grownBy w' none) (fun _ _ => True)
    [SVal (.func (.func 30) #[] #[]), SVal (.pointer (some ⟨q3, 0, none⟩)), SVal (.bool (uA op)), SVal (.pointer (some ⟨q1, 1, none⟩)), SVal (.int .i64 a), SVal (.bool true), SVal (.bool true), SVal (.func (.func 30) #[] #[]), SVal (.pointer (some ⟨q3, 1, none⟩)), SVal (.bool (uB op)), SVal (.pointer (some ⟨q1, 2, none⟩)), SVal (.int .i64 b), SVal (.bool true), SVal (.bool true), SVal (.bool true), SVal (.func (.func 30) #[] #[]), SVal (.pointer (some ⟨q3, 2, none⟩)), SVal (.bool (uC op)), SVal (.pointer (some ⟨q1, 3, none⟩)), SVal (.int .i64 c), SVal (.bool false), SVal (.bool false), SVal (.bool false), SVal (undef), SVal (undef), SVal (undef), SVal (undef), SVal (undef), SVal (undef), SVal (undef), SVal (undef), SVal (undef), SVal (.bool false), SVal (.bool false)]
    49 (by kernel_rfl) rfl (by kernel_rfl) (grown_drew (grown_refl _ _)) (fun _ => trivial) ?_ ?_ ?_
  · exact ⟨SVal.kept, SVal.kept, SVal.kept, SVal.kept, SVal.kept, SVal.kept, SVal.kept, SVal.kept, SVal.kept, SVal.kept, SVal.kept, SVal.kept, SVal.kept, SVal.kept, SVal.kept, SVal.kept, SVal.kept, SVal.kept, SVal.kept, SVal.kept, SVal.kept, SVal.kept, SVal.kept, SVal.kept, SVal.kept, SVal.kept, SVal.kept, SVal.kept, SVal.kept, SVal.kept, SVal.kept, SVal.kept, SVal.kept, SVal.kept, trivial⟩
  · refine duties_cons ?_ (duties_cons ?_ (duties_cons ?_ (duties_cons ?_ (duties_cons ?_ (duties_cons ?_ (duties_cons ?_ (duties_cons ?_ (duties_cons ?_ (duties_cons ?_ (duties_cons ?_ (duties_cons ?_ (duties_cons ?_ (duties_cons ?_ (duties_cons ?_ (duties_cons ?_ (duties_cons ?_ (duties_cons ?_ (duties_cons ?_ (duties_cons ?_ (duties_cons ?_ (duties_cons ?_ (duties_cons ?_ (duties_cons ?_ (duties_cons ?_ (duties_cons ?_ (duties_cons ?_ (duties_cons ?_ (duties_cons ?_ (duties_cons ?_ (duties_cons ?_ (duties_cons ?_ (duties_cons ?_ (duties_cons ?_ duties_nil)))))))))))))))))))))))))))))))))
    · refine duty_plain rfl fun f w1 hb H => ?_
      have e4 : f 4 = _ := H 4 (by decide)
      clear H
      have hgc := (gcell hb).1
      go_simp
      exact ⟨hb, trivial, rfl⟩
    · refine duty_plain rfl fun f w1 hb H => ?_
      have e3 : f 3 = _ := H 3 (by decide)
      clear H
      have hgc := (gcell hb).1
      go_simp
      exact ⟨hb, trivial, rfl⟩
    · refine duty_plain rfl fun f w1 hb H => ?_
      have e17 : f 17 = _ := H 17 (by decide)
      clear H
      have hgc := (gcell hb).1
      go_simp
      exact ⟨hb, trivial, rfl⟩
    · refine duty_plain rfl fun f w1 hb H => ?_
      have e1 : f 1 = _ := H 1 (by decide)
      clear H
      have hgc := (gcell hb).1
      go_simp
      exact ⟨hb, trivial, rfl⟩
    · refine duty_plain rfl fun f w1 hb H => ?_
      have e19 : f 19 = _ := H 19 (by decide)
      clear H
      have hgc := (gcell hb).1
      go_simp
      exact ⟨hb, trivial, rfl⟩
    · refine duty_plain rfl fun f w1 hb H => ?_
      have e16 : f 16 = _ := H 16 (by decide)
      have e18 : f 18 = _ := H 18 (by decide)
      have e20 : f 20 = _ := H 20 (by decide)
      clear H
      go_simp
      exact (field_any _ _ _ _).mono fun e w2 h => ⟨_, h.1, h.2 ▸ hb, trivial, by rw [P1.out]; rfl⟩
    · refine duty_plain rfl fun f w1 hb H => ?_
      have e21 : f 21 = _ := H 21 (by decide)
      clear H
      have hgc := (gcell hb).1
      go_simp
      exact ⟨hb, trivial, rfl⟩
    · refine duty_guard _ _ _ rfl rfl fun f w1 hb H => ⟨H 22 (by decide), ?_⟩
      have e4 : f 4 = _ := H 4 (by decide)
      clear H
      have hgc := (gcell hb).1
      go_simp
      exact ⟨hb, trivial, rfl⟩
    · refine duty_guard _ _ _ rfl rfl fun f w1 hb H => ⟨H 22 (by decide), ?_⟩
      have e3 : f 3 = _ := H 3 (by decide)
      clear H
      have hgc := (gcell hb).1
      go_simp
      exact ⟨hb, trivial, rfl⟩
    · refine duty_guard _ _ _ rfl rfl fun f w1 hb H => ⟨H 22 (by decide), ?_⟩
      have e24 : f 24 = _ := H 24 (by decide)
      clear H
      have hgc := (gcell hb).1
      go_simp
      exact ⟨hb, trivial, rfl⟩
    · refine duty_guard _ _ _ rfl rfl fun f w1 hb H => ⟨H 22 (by decide), ?_⟩
      have e1 : f 1 = _ := H 1 (by decide)
      clear H
      have hgc := (gcell hb).1
      go_simp
      exact ⟨hb, trivial, rfl⟩
    · refine duty_guard _ _ _ rfl rfl fun f w1 hb H => ⟨H 22 (by decide), ?_⟩
      have e26 : f 26 = _ := H 26 (by decide)
      clear H
      have hgc := (gcell hb).1
      go_simp
      exact ⟨hb, trivial, rfl⟩
    · refine duty_guard _ _ _ rfl rfl fun f w1 hb H => ⟨H 22 (by decide), ?_⟩
      have e23 : f 23 = _ := H 23 (by decide)
      have e25 : f 25 = _ := H 25 (by decide)
      have e27 : f 27 = _ := H 27 (by decide)
      clear H
      go_simp
      exact (field_any _ _ _ _).mono fun e w2 h => ⟨_, h.1, h.2 ▸ hb, trivial, by rw [P2.out]; rfl⟩
    · refine duty_plain rfl fun f w1 hb H => ?_
      have e22 : f 22 = _ := H 22 (by decide)
      have e28 : f 28 = _ := H 28 (by decide)
      clear H
      have hgc := (gcell hb).1
      go_simp
      exact ⟨hb, trivial, rfl⟩
    · refine duty_plain rfl fun f w1 hb H => ?_
      have e29 : f 29 = _ := H 29 (by decide)
      clear H
      have hgc := (gcell hb).1
      go_simp
      exact ⟨hb, trivial, rfl⟩
    · refine duty_guard _ _ _ rfl rfl fun f w1 hb H => ⟨H 30 (by decide), ?_⟩
      have e4 : f 4 = _ := H 4 (by decide)
      clear H
      have hgc := (gcell hb).1
      go_simp
      exact ⟨hb, trivial, rfl⟩
    · refine duty_guard _ _ _ rfl rfl fun f w1 hb H => ⟨H 30 (by decide), ?_⟩
      have e3 : f 3 = _ := H 3 (by decide)
      clear H
      have hgc := (gcell hb).1
      go_simp
      exact ⟨hb, trivial, rfl⟩
    · refine duty_guard _ _ _ rfl rfl fun f w1 hb H => ⟨H 30 (by decide), ?_⟩
      have e32 : f 32 = _ := H 32 (by decide)
      clear H
      have hgc := (gcell hb).1
      go_simp
      exact ⟨hb, trivial, rfl⟩
    · refine duty_guard _ _ _ rfl rfl fun f w1 hb H => ⟨H 30 (by decide), ?_⟩
      have e1 : f 1 = _ := H 1 (by decide)
      clear H
      have hgc := (gcell hb).1
      go_simp
      exact ⟨hb, trivial, rfl⟩
    · refine duty_guard _ _ _ rfl rfl fun f w1 hb H => ⟨H 30 (by decide), ?_⟩
      have e34 : f 34 = _ := H 34 (by decide)
      clear H
      have hgc := (gcell hb).1
      go_simp
      exact ⟨hb, trivial, rfl⟩
    · refine duty_guard _ _ _ rfl rfl fun f w1 hb H => ⟨H 30 (by decide), ?_⟩
      have e31 : f 31 = _ := H 31 (by decide)
      have e33 : f 33 = _ := H 33 (by decide)
      have e35 : f 35 = _ := H 35 (by decide)
      clear H
      go_simp
      exact (field_any _ _ _ _).mono fun e w2 h => ⟨_, h.1, h.2 ▸ hb, trivial, by rw [P3.out]; rfl⟩
    · refine duty_plain rfl fun f w1 hb H => ?_
      have e30 : f 30 = _ := H 30 (by decide)
      have e36 : f 36 = _ := H 36 (by decide)
      clear H
      have hgc := (gcell hb).1
      go_simp
      exact ⟨hb, trivial, rfl⟩
    · refine duty_plain rfl fun f w1 hb H => ?_
      have e37 : f 37 = _ := H 37 (by decide)
      clear H
      have hgc := (gcell hb).1
      go_simp
      exact ⟨hb, trivial, rfl⟩
    · exact duty_shut _ _ _ rfl rfl fun f w1 hb H => ⟨H 38 (by decide), rfl⟩
    · exact duty_shut _ _ _ rfl rfl fun f w1 hb H => ⟨H 38 (by decide), rfl⟩
    · exact duty_shut _ _ _ rfl rfl fun f w1 hb H => ⟨H 38 (by decide), rfl⟩
    · exact duty_shut _ _ _ rfl rfl fun f w1 hb H => ⟨H 38 (by decide), rfl⟩
    · exact duty_shut _ _ _ rfl rfl fun f w1 hb H => ⟨H 38 (by decide), rfl⟩
    · exact duty_shut _ _ _ rfl rfl fun f w1 hb H => ⟨H 38 (by decide), rfl⟩
    · exact duty_shut _ _ _ rfl rfl fun f w1 hb H => ⟨H 38 (by decide), rfl⟩
    · exact duty_shut _ _ _ rfl rfl fun f w1 hb H => ⟨H 38 (by decide), rfl⟩
    · exact duty_shut _ _ _ rfl rfl fun f w1 hb H => ⟨H 38 (by decide), rfl⟩
    · refine duty_plain rfl fun f w1 hb H => ?_
      have e38 : f 38 = _ := H 38 (by decide)
      have e47 : f 47 = _ := H 47 (by decide)
      clear H
      have hgc := (gcell hb).1
      go_simp
      exact ⟨hb, trivial, rfl⟩
    · refine duty_plain rfl fun f w1 hb H => ?_
      have e48 : f 48 = _ := H 48 (by decide)
      clear H
      have hgc := (gcell hb).1
      go_simp
      exact ⟨hb, trivial, rfl⟩
  · intro f w9 hb hE
    simp only [putAll, Act.put, slotV, List.setIfInBounds_toArray, List.set_cons_succ, List.set_cons_zero]
    have e2 : f 2 = .bool false := by
      simp only [Ends, tagV, SVal] at hE
      simp [hE]
    rw [e2]
    clear hE e2
    go_wp2
    go_ret
    exact ⟨ret_bool Hf.out, grown_trans HG8.out hb⟩

set_option maxRecDepth 100000 in
set_option maxHeartbeats 2000000 in
theorem instr_Valid_f4 (op a b c i : Int) (w : World) (h0 : 0 ≤ op) (h1 : op ≤ 24) (p1 : fieldB (uA op) a 7 = true) (p2 : fieldB (uB op) b 7 = true) (p3 : fieldB (uC op) c 7 = true) (p4 : fieldB (uI op) i (mostI op) = false) :
    Calls Try.prog 16 #[.agg #[.int .i64 op, .int .i64 a, .int .i64 b, .int .i64 c, .int .i64 i]] w (BoolGrown (ivB op a b c i) w) := by
  have Hf := Lib.hid (show false = ivB op a b c i by simp [ivB, opB, h0, h1, p1, p2, p3, p4])
  have P1 := Lib.hid p1
  have P2 := Lib.hid p2
  have P3 := Lib.hid p3
  have P4 := Lib.hid p4
  clear p1 p2 p3 p4
  go_enter Try.func16, Try.ntmps16
  go_wp2_with (go_at_call 29; refine (instr_Fields_any op _).mono ?_; rintro e w1 ⟨rfl, hg⟩; have Hg := Lib.hid hg; have hz : w.heap.size < w1.heap.size := (by have := hg.size; simp at this; omega); obtain ⟨hgc, hgf⟩ := gcell hg; clear hg)
  obtain ⟨q1, hq1⟩ : ∃ q, q = w.heap.size := ⟨_, rfl⟩
  obtain ⟨q3, hq3⟩ : ∃ q, q = w1.heap.size := ⟨_, rfl⟩
  have hc : ∀ o, (w1.alloc (.cells #[.bool (uA op), .bool (uB op), .bool (uC op), .bool (uI op)] 56)).cell? ⟨q1, o, none⟩ = (#[Value.int .i64 op, .int .i64 a, .int .i64 b, .int .i64 c, .int .i64 i] : Array Value)[o]? := fun o => by
    rw [hq1, World.cell?_alloc_lt _ _ _ hz, (gcell Hg.out).1 _ _ (by simp)]
    exact World.cell?_alloc_new _ _ _ _
  have hd : ∀ o, (w1.alloc (.cells #[.bool (uA op), .bool (uB op), .bool (uC op), .bool (uI op)] 56)).cell? ⟨q3, o, none⟩ = (#[Value.bool (uA op), .bool (uB op), .bool (uC op), .bool (uI op)] : Array Value)[o]? := fun o => by
    rw [hq3]; exact World.cell?_alloc_new _ _ _ _
  have l1 : q1 < (w1.alloc (.cells #[.bool (uA op), .bool (uB op), .bool (uC op), .bool (uI op)] 56)).heap.size := by simp; omega
  have l3 : q3 < (w1.alloc (.cells #[.bool (uA op), .bool (uB op), .bool (uC op), .bool (uI op)] 56)).heap.size := by simp; omega
  have HG8 := Lib.hid (show w.grownBy (w1.alloc (.cells #[.bool (uA op), .bool (uB op), .bool (uC op), .bool (uI op)] 56)) none from grown_alloc (grown_trans (grown_alloc (grown_refl _ _) _) Hg.out) _)
  rw [← hq1, ← hq3]
  clear hgc hgf Hg hq1 hq3 hz
  generalize w1.alloc (.cells #[.bool (uA op), .bool (uB op), .bool (uC op), .bool (uI op)] 56) = w8 at *
  have c0 := hc 0
  have c1 := hc 1
  have c2 := hc 2
  have c3 := hc 3
  have c4 := hc 4
  have d0 := hd 0
  have d1 := hd 1
  have d2 := hd 2
  have d3 := hd 3
  simp only [List.getElem?_toArray, List.getElem?_cons_zero, List.getElem?_cons_succ] at c0 c1 c2 c3 c4 d0 d1 d2 d3
  clear hc hd
  refine wp_region_rely (fun w' => w8.grownBy w' none) (fun _ _ => True)
    [SVal (.func (.func 30) #[] #[]), SVal (.pointer (some ⟨q3, 0, none⟩)), SVal (.bool (uA op)), SVal (.pointer (some ⟨q1, 1, none⟩)), SVal (.int .i64 a), SVal (.bool true), SVal (.bool true), SVal (.func (.func 30) #[] #[]), SVal (.pointer (some ⟨q3, 1, none⟩)), SVal (.bool (uB op)), SVal (.pointer (some ⟨q1, 2, none⟩)), SVal (.int .i64 b), SVal (.bool true), SVal (.bool true), SVal (.bool true), SVal (.func (.func 30) #[] #[]), SVal (.pointer (some ⟨q3, 2, none⟩)), SVal (.bool (uC op)), SVal (.pointer (some ⟨q1, 3, none⟩)), SVal (.int .i64 c), SVal (.bool true), SVal (.bool true), SVal (.bool true), SVal (.func (.func 30) #[] #[]), SVal (.pointer (some ⟨q3, 3, none⟩)), SVal (.bool (uI op)), SVal (.pointer (some ⟨q1, 4, none⟩)), SVal (.int .i64 i), SVal (.pointer (some ⟨q1, 0, none⟩)), SVal (.int .i64 op), SVal (.int .i64 (mostI op)), SVal (.bool false), SVal (.bool false), SVal (.bool false)]
    49 (by kernel_rfl) rfl (by kernel_rfl) (grown_drew (grown_refl _ _)) (fun _ => trivial) ?_ ?_ ?_
  · exact ⟨SVal.kept, SVal.kept, SVal.kept, SVal.kept, SVal.kept, SVal.kept, SVal.kept, SVal.kept, SVal.kept, SVal.kept, SVal.kept, SVal.kept, SVal.kept, SVal.kept, SVal.kept, SVal.kept, SVal.kept, SVal.kept, SVal.kept, SVal.kept, SVal.kept, SVal.kept, SVal.kept, SVal.kept, SVal.kept, SVal.kept, SVal.kept, SVal.kept, SVal.kept, SVal.kept, SVal.kept, SVal.kept, SVal.kept, SVal.kept, trivial⟩
  · refine duties_cons ?_ (duties_cons ?_ (duties_cons ?_ (duties_cons ?_ (duties_cons ?_ (duties_cons ?_ (duties_cons ?_ (duties_cons ?_ (duties_cons ?_ (duties_cons ?_ (duties_cons ?_ (duties_cons ?_ (duties_cons ?_ (duties_cons ?_ (duties_cons ?_ (duties_cons ?_ (duties_cons ?_ (duties_cons ?_ (duties_cons ?_ (duties_cons ?_ (duties_cons ?_ (duties_cons ?_ (duties_cons ?_ (duties_cons ?_ (duties_cons ?_ (duties_cons ?_ (duties_cons ?_ (duties_cons ?_ (duties_cons ?_ (duties_cons ?_ (duties_cons ?_ (duties_cons ?_ (duties_cons ?_ (duties_cons ?_ duties_nil)))))))))))))))))))))))))))))))))
    · refine duty_plain rfl fun f w1 hb H => ?_
      have e4 : f 4 = _ := H 4 (by decide)
      clear H
      have hgc := (gcell hb).1
      go_simp
      exact ⟨hb, trivial, rfl⟩
    · refine duty_plain rfl fun f w1 hb H => ?_
      have e3 : f 3 = _ := H 3 (by decide)
      clear H
      have hgc := (gcell hb).1
      go_simp
      exact ⟨hb, trivial, rfl⟩
    · refine duty_plain rfl fun f w1 hb H => ?_
      have e17 : f 17 = _ := H 17 (by decide)
      clear H
      have hgc := (gcell hb).1
      go_simp
      exact ⟨hb, trivial, rfl⟩
    · refine duty_plain rfl fun f w1 hb H => ?_
      have e1 : f 1 = _ := H 1 (by decide)
      clear H
      have hgc := (gcell hb).1
      go_simp
      exact ⟨hb, trivial, rfl⟩
    · refine duty_plain rfl fun f w1 hb H => ?_
      have e19 : f 19 = _ := H 19 (by decide)
      clear H
      have hgc := (gcell hb).1
      go_simp
      exact ⟨hb, trivial, rfl⟩
    · refine duty_plain rfl fun f w1 hb H => ?_
      have e16 : f 16 = _ := H 16 (by decide)
      have e18 : f 18 = _ := H 18 (by decide)
      have e20 : f 20 = _ := H 20 (by decide)
      clear H
      go_simp
      exact (field_any _ _ _ _).mono fun e w2 h => ⟨_, h.1, h.2 ▸ hb, trivial, by rw [P1.out]; rfl⟩
    · refine duty_plain rfl fun f w1 hb H => ?_
      have e21 : f 21 = _ := H 21 (by decide)
      clear H
      have hgc := (gcell hb).1
      go_simp
      exact ⟨hb, trivial, rfl⟩
    · refine duty_guard _ _ _ rfl rfl fun f w1 hb H => ⟨H 22 (by decide), ?_⟩
      have e4 : f 4 = _ := H 4 (by decide)
      clear H
      have hgc := (gcell hb).1
      go_simp
      exact ⟨hb, trivial, rfl⟩
    · refine duty_guard _ _ _ rfl rfl fun f w1 hb H => ⟨H 22 (by decide), ?_⟩
      have e3 : f 3 = _ := H 3 (by decide)
      clear H
      have hgc := (gcell hb).1
      go_simp
      exact ⟨hb, trivial, rfl⟩
    · refine duty_guard _ _ _ rfl rfl fun f w1 hb H => ⟨H 22 (by decide), ?_⟩
      have e24 : f 24 = _ := H 24 (by decide)
      clear H
      have hgc := (gcell hb).1
      go_simp
      exact ⟨hb, trivial, rfl⟩
    · refine duty_guard _ _ _ rfl rfl fun f w1 hb H => ⟨H 22 (by decide), ?_⟩
      have e1 : f 1 = _ := H 1 (by decide)
      clear H
      have hgc := (gcell hb).1
      go_simp
      exact ⟨hb, trivial, rfl⟩
    · refine duty_guard _ _ _ rfl rfl fun f w1 hb H => ⟨H 22 (by decide), ?_⟩
      have e26 : f 26 = _ := H 26 (by decide)
      clear H
      have hgc := (gcell hb).1
      go_simp
      exact ⟨hb, trivial, rfl⟩
    · refine duty_guard _ _ _ rfl rfl fun f w1 hb H => ⟨H 22 (by decide), ?_⟩
      have e23 : f 23 = _ := H 23 (by decide)
      have e25 : f 25 = _ := H 25 (by decide)
      have e27 : f 27 = _ := H 27 (by decide)
      clear H
      go_simp
      exact (field_any _ _ _ _).mono fun e w2 h => ⟨_, h.1, h.2 ▸ hb, trivial, by rw [P2.out]; rfl⟩
    · refine duty_plain rfl fun f w1 hb H => ?_
      have e22 : f 22 = _ := H 22 (by decide)
      have e28 : f 28 = _ := H 28 (by decide)
      clear H
      have hgc := (gcell hb).1
      go_simp
      exact ⟨hb, trivial, rfl⟩
    · refine duty_plain rfl fun f w1 hb H => ?_
      have e29 : f 29 = _ := H 29 (by decide)
      clear H
      have hgc := (gcell hb).1
      go_simp
      exact ⟨hb, trivial, rfl⟩
    · refine duty_guard _ _ _ rfl rfl fun f w1 hb H => ⟨H 30 (by decide), ?_⟩
      have e4 : f 4 = _ := H 4 (by decide)
      clear H
      have hgc := (gcell hb).1
      go_simp
      exact ⟨hb, trivial, rfl⟩
    · refine duty_guard _ _ _ rfl rfl fun f w1 hb H => ⟨H 30 (by decide), ?_⟩
      have e3 : f 3 = _ := H 3 (by decide)
      clear H
      have hgc := (gcell hb).1
      go_simp
      exact ⟨hb, trivial, rfl⟩
    · refine duty_guard _ _ _ rfl rfl fun f w1 hb H => ⟨H 30 (by decide), ?_⟩
      have e32 : f 32 = _ := H 32 (by decide)
      clear H
      have hgc := (gcell hb).1
      go_simp
      exact ⟨hb, trivial, rfl⟩
    · refine duty_guard _ _ _ rfl rfl fun f w1 hb H => ⟨H 30 (by decide), ?_⟩
      have e1 : f 1 = _ := H 1 (by decide)
      clear H
      have hgc := (gcell hb).1
      go_simp
      exact ⟨hb, trivial, rfl⟩
    · refine duty_guard _ _ _ rfl rfl fun f w1 hb H => ⟨H 30 (by decide), ?_⟩
      have e34 : f 34 = _ := H 34 (by decide)
      clear H
      have hgc := (gcell hb).1
      go_simp
      exact ⟨hb, trivial, rfl⟩
    · refine duty_guard _ _ _ rfl rfl fun f w1 hb H => ⟨H 30 (by decide), ?_⟩
      have e31 : f 31 = _ := H 31 (by decide)
      have e33 : f 33 = _ := H 33 (by decide)
      have e35 : f 35 = _ := H 35 (by decide)
      clear H
      go_simp
      exact (field_any _ _ _ _).mono fun e w2 h => ⟨_, h.1, h.2 ▸ hb, trivial, by rw [P3.out]; rfl⟩
    · refine duty_plain rfl fun f w1 hb H => ?_
      have e30 : f 30 = _ := H 30 (by decide)
      have e36 : f 36 = _ := H 36 (by decide)
      clear H
      have hgc := (gcell hb).1
      go_simp
      exact ⟨hb, trivial, rfl⟩
    · refine duty_plain rfl fun f w1 hb H => ?_
      have e37 : f 37 = _ := H 37 (by decide)
      clear H
      have hgc := (gcell hb).1
      go_simp
      exact ⟨hb, trivial, rfl⟩
    · refine duty_guard _ _ _ rfl rfl fun f w1 hb H => ⟨H 38 (by decide), ?_⟩
      have e4 : f 4 = _ := H 4 (by decide)
      clear H
      have hgc := (gcell hb).1
      go_simp
      exact ⟨hb, trivial, rfl⟩
    · refine duty_guard _ _ _ rfl rfl fun f w1 hb H => ⟨H 38 (by decide), ?_⟩
      have e3 : f 3 = _ := H 3 (by decide)
      clear H
      have hgc := (gcell hb).1
      go_simp
      exact ⟨hb, trivial, rfl⟩
    · refine duty_guard _ _ _ rfl rfl fun f w1 hb H => ⟨H 38 (by decide), ?_⟩
      have e40 : f 40 = _ := H 40 (by decide)
      clear H
      have hgc := (gcell hb).1
      go_simp
      exact ⟨hb, trivial, rfl⟩
    · refine duty_guard _ _ _ rfl rfl fun f w1 hb H => ⟨H 38 (by decide), ?_⟩
      have e1 : f 1 = _ := H 1 (by decide)
      clear H
      have hgc := (gcell hb).1
      go_simp
      exact ⟨hb, trivial, rfl⟩
    · refine duty_guard _ _ _ rfl rfl fun f w1 hb H => ⟨H 38 (by decide), ?_⟩
      have e42 : f 42 = _ := H 42 (by decide)
      clear H
      have hgc := (gcell hb).1
      go_simp
      exact ⟨hb, trivial, rfl⟩
    · refine duty_guard _ _ _ rfl rfl fun f w1 hb H => ⟨H 38 (by decide), ?_⟩
      have e1 : f 1 = _ := H 1 (by decide)
      clear H
      have hgc := (gcell hb).1
      go_simp
      exact ⟨hb, trivial, rfl⟩
    · refine duty_guard _ _ _ rfl rfl fun f w1 hb H => ⟨H 38 (by decide), ?_⟩
      have e44 : f 44 = _ := H 44 (by decide)
      clear H
      have hgc := (gcell hb).1
      go_simp
      exact ⟨hb, trivial, rfl⟩
    · refine duty_guard _ _ _ rfl rfl fun f w1 hb H => ⟨H 38 (by decide), ?_⟩
      have e45 : f 45 = _ := H 45 (by decide)
      clear H
      go_simp
      exact (instr_most_any _ _).mono fun e w2 h => ⟨_, h.1, h.2 ▸ hb, trivial, rfl⟩
    · refine duty_guard _ _ _ rfl rfl fun f w1 hb H => ⟨H 38 (by decide), ?_⟩
      have e39 : f 39 = _ := H 39 (by decide)
      have e41 : f 41 = _ := H 41 (by decide)
      have e43 : f 43 = _ := H 43 (by decide)
      have e46 : f 46 = _ := H 46 (by decide)
      clear H
      go_simp
      exact (field_any _ _ _ _).mono fun e w2 h => ⟨_, h.1, h.2 ▸ hb, trivial, by rw [P4.out]; rfl⟩
    · refine duty_plain rfl fun f w1 hb H => ?_
      have e38 : f 38 = _ := H 38 (by decide)
      have e47 : f 47 = _ := H 47 (by decide)
      clear H
      have hgc := (gcell hb).1
      go_simp
      exact ⟨hb, trivial, rfl⟩
    · refine duty_plain rfl fun f w1 hb H => ?_
      have e48 : f 48 = _ := H 48 (by decide)
      clear H
      have hgc := (gcell hb).1
      go_simp
      exact ⟨hb, trivial, rfl⟩
  · intro f w9 hb hE
    simp only [putAll, Act.put, slotV, List.setIfInBounds_toArray, List.set_cons_succ, List.set_cons_zero]
    have e2 : f 2 = .bool false := by
      simp only [Ends, tagV, SVal] at hE
      simp [hE]
    rw [e2]
    clear hE e2
    go_wp2
    go_ret
    exact ⟨ret_bool Hf.out, grown_trans HG8.out hb⟩

set_option maxRecDepth 100000 in
set_option maxHeartbeats 2000000 in
theorem instr_Valid_t (op a b c i : Int) (w : World) (h0 : 0 ≤ op) (h1 : op ≤ 24) (p1 : fieldB (uA op) a 7 = true) (p2 : fieldB (uB op) b 7 = true) (p3 : fieldB (uC op) c 7 = true) (p4 : fieldB (uI op) i (mostI op) = true) :
    Calls Try.prog 16 #[.agg #[.int .i64 op, .int .i64 a, .int .i64 b, .int .i64 c, .int .i64 i]] w (BoolGrown (ivB op a b c i) w) := by
  have Hf := Lib.hid (show true = ivB op a b c i by simp [ivB, opB, h0, h1, p1, p2, p3, p4])
  have P1 := Lib.hid p1
  have P2 := Lib.hid p2
  have P3 := Lib.hid p3
  have P4 := Lib.hid p4
  clear p1 p2 p3 p4
  go_enter Try.func16, Try.ntmps16
  go_wp2_with (go_at_call 29; refine (instr_Fields_any op _).mono ?_; rintro e w1 ⟨rfl, hg⟩; have Hg := Lib.hid hg; have hz : w.heap.size < w1.heap.size := (by have := hg.size; simp at this; omega); obtain ⟨hgc, hgf⟩ := gcell hg; clear hg)
  obtain ⟨q1, hq1⟩ : ∃ q, q = w.heap.size := ⟨_, rfl⟩
  obtain ⟨q3, hq3⟩ : ∃ q, q = w1.heap.size := ⟨_, rfl⟩
  have hc : ∀ o, (w1.alloc (.cells #[.bool (uA op), .bool (uB op), .bool (uC op), .bool (uI op)] 56)).cell? ⟨q1, o, none⟩ = (#[Value.int .i64 op, .int .i64 a, .int .i64 b, .int .i64 c, .int .i64 i] : Array Value)[o]? := fun o => by
    rw [hq1, World.cell?_alloc_lt _ _ _ hz, (gcell Hg.out).1 _ _ (by simp)]
    exact World.cell?_alloc_new _ _ _ _
  have hd : ∀ o, (w1.alloc (.cells #[.bool (uA op), .bool (uB op), .bool (uC op), .bool (uI op)] 56)).cell? ⟨q3, o, none⟩ = (#[Value.bool (uA op), .bool (uB op), .bool (uC op), .bool (uI op)] : Array Value)[o]? := fun o => by
    rw [hq3]; exact World.cell?_alloc_new _ _ _ _
  have l1 : q1 < (w1.alloc (.cells #[.bool (uA op), .bool (uB op), .bool (uC op), .bool (uI op)] 56)).heap.size := by simp; omega
  have l3 : q3 < (w1.alloc (.cells #[.bool (uA op), .bool (uB op), .bool (uC op), .bool (uI op)] 56)).heap.size := by simp; omega
  have HG8 := Lib.hid (show w.grownBy (w1.alloc (.cells #[.bool (uA op), .bool (uB op), .bool (uC op), .bool (uI op)] 56)) none from grown_alloc (grown_trans (grown_alloc (grown_refl _ _) _) Hg.out) _)
  rw [← hq1, ← hq3]
  clear hgc hgf Hg hq1 hq3 hz
  generalize w1.alloc (.cells #[.bool (uA op), .bool (uB op), .bool (uC op), .bool (uI op)] 56) = w8 at *
  have c0 := hc 0
  have c1 := hc 1
  have c2 := hc 2
  have c3 := hc 3
  have c4 := hc 4
  have d0 := hd 0
  have d1 := hd 1
  have d2 := hd 2
  have d3 := hd 3
  simp only [List.getElem?_toArray, List.getElem?_cons_zero, List.getElem?_cons_succ] at c0 c1 c2 c3 c4 d0 d1 d2 d3
  clear hc hd
  refine wp_region_rely (fun w' => w8.grownBy w' none) (fun _ _ => True)
    [SVal (.func (.func 30) #[] #[]), SVal (.pointer (some ⟨q3, 0, none⟩)), SVal (.bool (uA op)), SVal (.pointer (some ⟨q1, 1, none⟩)), SVal (.int .i64 a), SVal (.bool true), SVal (.bool true), SVal (.func (.func 30) #[] #[]), SVal (.pointer (some ⟨q3, 1, none⟩)), SVal (.bool (uB op)), SVal (.pointer (some ⟨q1, 2, none⟩)), SVal (.int .i64 b), SVal (.bool true), SVal (.bool true), SVal (.bool true), SVal (.func (.func 30) #[] #[]), SVal (.pointer (some ⟨q3, 2, none⟩)), SVal (.bool (uC op)), SVal (.pointer (some ⟨q1, 3, none⟩)), SVal (.int .i64 c), SVal (.bool true), SVal (.bool true), SVal (.bool true), SVal (.func (.func 30) #[] #[]), SVal (.pointer (some ⟨q3, 3, none⟩)), SVal (.bool (uI op)), SVal (.pointer (some ⟨q1, 4, none⟩)), SVal (.int .i64 i), SVal (.pointer (some ⟨q1, 0, none⟩)), SVal (.int .i64 op), SVal (.int .i64 (mostI op)), SVal (.bool true), SVal (.bool true), SVal (.bool true)]
    49 (by kernel_rfl) rfl (by kernel_rfl) (grown_drew (grown_refl _ _)) (fun _ => trivial) ?_ ?_ ?_
  · exact ⟨SVal.kept, SVal.kept, SVal.kept, SVal.kept, SVal.kept, SVal.kept, SVal.kept, SVal.kept, SVal.kept, SVal.kept, SVal.kept, SVal.kept, SVal.kept, SVal.kept, SVal.kept, SVal.kept, SVal.kept, SVal.kept, SVal.kept, SVal.kept, SVal.kept, SVal.kept, SVal.kept, SVal.kept, SVal.kept, SVal.kept, SVal.kept, SVal.kept, SVal.kept, SVal.kept, SVal.kept, SVal.kept, SVal.kept, SVal.kept, trivial⟩
  · refine duties_cons ?_ (duties_cons ?_ (duties_cons ?_ (duties_cons ?_ (duties_cons ?_ (duties_cons ?_ (duties_cons ?_ (duties_cons ?_ (duties_cons ?_ (duties_cons ?_ (duties_cons ?_ (duties_cons ?_ (duties_cons ?_ (duties_cons ?_ (duties_cons ?_ (duties_cons ?_ (duties_cons ?_ (duties_cons ?_ (duties_cons ?_ (duties_cons ?_ (duties_cons ?_ (duties_cons ?_ (duties_cons ?_ (duties_cons ?_ (duties_cons ?_ (duties_cons ?_ (duties_cons ?_ (duties_cons ?_ (duties_cons ?_ (duties_cons ?_ (duties_cons ?_ (duties_cons ?_ (duties_cons ?_ (duties_cons ?_ duties_nil)))))))))))))))))))))))))))))))))
    · refine duty_plain rfl fun f w1 hb H => ?_
      have e4 : f 4 = _ := H 4 (by decide)
      clear H
      have hgc := (gcell hb).1
      go_simp
      exact ⟨hb, trivial, rfl⟩
    · refine duty_plain rfl fun f w1 hb H => ?_
      have e3 : f 3 = _ := H 3 (by decide)
      clear H
      have hgc := (gcell hb).1
      go_simp
      exact ⟨hb, trivial, rfl⟩
    · refine duty_plain rfl fun f w1 hb H => ?_
      have e17 : f 17 = _ := H 17 (by decide)
      clear H
      have hgc := (gcell hb).1
      go_simp
      exact ⟨hb, trivial, rfl⟩
    · refine duty_plain rfl fun f w1 hb H => ?_
      have e1 : f 1 = _ := H 1 (by decide)
      clear H
      have hgc := (gcell hb).1
      go_simp
      exact ⟨hb, trivial, rfl⟩
    · refine duty_plain rfl fun f w1 hb H => ?_
      have e19 : f 19 = _ := H 19 (by decide)
      clear H
      have hgc := (gcell hb).1
      go_simp
      exact ⟨hb, trivial, rfl⟩
    · refine duty_plain rfl fun f w1 hb H => ?_
      have e16 : f 16 = _ := H 16 (by decide)
      have e18 : f 18 = _ := H 18 (by decide)
      have e20 : f 20 = _ := H 20 (by decide)
      clear H
      go_simp
      exact (field_any _ _ _ _).mono fun e w2 h => ⟨_, h.1, h.2 ▸ hb, trivial, by rw [P1.out]; rfl⟩
    · refine duty_plain rfl fun f w1 hb H => ?_
      have e21 : f 21 = _ := H 21 (by decide)
      clear H
      have hgc := (gcell hb).1
      go_simp
      exact ⟨hb, trivial, rfl⟩
    · refine duty_guard _ _ _ rfl rfl fun f w1 hb H => ⟨H 22 (by decide), ?_⟩
      have e4 : f 4 = _ := H 4 (by decide)
      clear H
      have hgc := (gcell hb).1
      go_simp
      exact ⟨hb, trivial, rfl⟩
    · refine duty_guard _ _ _ rfl rfl fun f w1 hb H => ⟨H 22 (by decide), ?_⟩
      have e3 : f 3 = _ := H 3 (by decide)
      clear H
      have hgc := (gcell hb).1
      go_simp
      exact ⟨hb, trivial, rfl⟩
    · refine duty_guard _ _ _ rfl rfl fun f w1 hb H => ⟨H 22 (by decide), ?_⟩
      have e24 : f 24 = _ := H 24 (by decide)
      clear H
      have hgc := (gcell hb).1
      go_simp
      exact ⟨hb, trivial, rfl⟩
    · refine duty_guard _ _ _ rfl rfl fun f w1 hb H => ⟨H 22 (by decide), ?_⟩
      have e1 : f 1 = _ := H 1 (by decide)
      clear H
      have hgc := (gcell hb).1
      go_simp
      exact ⟨hb, trivial, rfl⟩
    · refine duty_guard _ _ _ rfl rfl fun f w1 hb H => ⟨H 22 (by decide), ?_⟩
      have e26 : f 26 = _ := H 26 (by decide)
      clear H
      have hgc := (gcell hb).1
      go_simp
      exact ⟨hb, trivial, rfl⟩
    · refine duty_guard _ _ _ rfl rfl fun f w1 hb H => ⟨H 22 (by decide), ?_⟩
      have e23 : f 23 = _ := H 23 (by decide)
      have e25 : f 25 = _ := H 25 (by decide)
      have e27 : f 27 = _ := H 27 (by decide)
      clear H
      go_simp
      exact (field_any _ _ _ _).mono fun e w2 h => ⟨_, h.1, h.2 ▸ hb, trivial, by rw [P2.out]; rfl⟩
    · refine duty_plain rfl fun f w1 hb H => ?_
      have e22 : f 22 = _ := H 22 (by decide)
      have e28 : f 28 = _ := H 28 (by decide)
      clear H
      have hgc := (gcell hb).1
      go_simp
      exact ⟨hb, trivial, rfl⟩
    · refine duty_plain rfl fun f w1 hb H => ?_
      have e29 : f 29 = _ := H 29 (by decide)
      clear H
      have hgc := (gcell hb).1
      go_simp
      exact ⟨hb, trivial, rfl⟩
    · refine duty_guard _ _ _ rfl rfl fun f w1 hb H => ⟨H 30 (by decide), ?_⟩
      have e4 : f 4 = _ := H 4 (by decide)
      clear H
      have hgc := (gcell hb).1
      go_simp
      exact ⟨hb, trivial, rfl⟩
    · refine duty_guard _ _ _ rfl rfl fun f w1 hb H => ⟨H 30 (by decide), ?_⟩
      have e3 : f 3 = _ := H 3 (by decide)
      clear H
      have hgc := (gcell hb).1
      go_simp
      exact ⟨hb, trivial, rfl⟩
    · refine duty_guard _ _ _ rfl rfl fun f w1 hb H => ⟨H 30 (by decide), ?_⟩
      have e32 : f 32 = _ := H 32 (by decide)
      clear H
      have hgc := (gcell hb).1
      go_simp
      exact ⟨hb, trivial, rfl⟩
    · refine duty_guard _ _ _ rfl rfl fun f w1 hb H => ⟨H 30 (by decide), ?_⟩
      have e1 : f 1 = _ := H 1 (by decide)
      clear H
      have hgc := (gcell hb).1
      go_simp
      exact ⟨hb, trivial, rfl⟩
    · refine duty_guard _ _ _ rfl rfl fun f w1 hb H => ⟨H 30 (by decide), ?_⟩
      have e34 : f 34 = _ := H 34 (by decide)
      clear H
      have hgc := (gcell hb).1
      go_simp
      exact ⟨hb, trivial, rfl⟩
    · refine duty_guard _ _ _ rfl rfl fun f w1 hb H => ⟨H 30 (by decide), ?_⟩
      have e31 : f 31 = _ := H 31 (by decide)
      have e33 : f 33 = _ := H 33 (by decide)
      have e35 : f 35 = _ := H 35 (by decide)
      clear H
      go_simp
      exact (field_any _ _ _ _).mono fun e w2 h => ⟨_, h.1, h.2 ▸ hb, trivial, by rw [P3.out]; rfl⟩
    · refine duty_plain rfl fun f w1 hb H => ?_
      have e30 : f 30 = _ := H 30 (by decide)
      have e36 : f 36 = _ := H 36 (by decide)
      clear H
      have hgc := (gcell hb).1
      go_simp
      exact ⟨hb, trivial, rfl⟩
    · refine duty_plain rfl fun f w1 hb H => ?_
      have e37 : f 37 = _ := H 37 (by decide)
      clear H
      have hgc := (gcell hb).1
      go_simp
      exact ⟨hb, trivial, rfl⟩
    · refine duty_guard _ _ _ rfl rfl fun f w1 hb H => ⟨H 38 (by decide), ?_⟩
      have e4 : f 4 = _ := H 4 (by decide)
      clear H
      have hgc := (gcell hb).1
      go_simp
      exact ⟨hb, trivial, rfl⟩
    · refine duty_guard _ _ _ rfl rfl fun f w1 hb H => ⟨H 38 (by decide), ?_⟩
      have e3 : f 3 = _ := H 3 (by decide)
      clear H
      have hgc := (gcell hb).1
      go_simp
      exact ⟨hb, trivial, rfl⟩
    · refine duty_guard _ _ _ rfl rfl fun f w1 hb H => ⟨H 38 (by decide), ?_⟩
      have e40 : f 40 = _ := H 40 (by decide)
      clear H
      have hgc := (gcell hb).1
      go_simp
      exact ⟨hb, trivial, rfl⟩
    · refine duty_guard _ _ _ rfl rfl fun f w1 hb H => ⟨H 38 (by decide), ?_⟩
      have e1 : f 1 = _ := H 1 (by decide)
      clear H
      have hgc := (gcell hb).1
      go_simp
      exact ⟨hb, trivial, rfl⟩
    · refine duty_guard _ _ _ rfl rfl fun f w1 hb H => ⟨H 38 (by decide), ?_⟩
      have e42 : f 42 = _ := H 42 (by decide)
      clear H
      have hgc := (gcell hb).1
      go_simp
      exact ⟨hb, trivial, rfl⟩
    · refine duty_guard _ _ _ rfl rfl fun f w1 hb H => ⟨H 38 (by decide), ?_⟩
      have e1 : f 1 = _ := H 1 (by decide)
      clear H
      have hgc := (gcell hb).1
      go_simp
      exact ⟨hb, trivial, rfl⟩
    · refine duty_guard _ _ _ rfl rfl fun f w1 hb H => ⟨H 38 (by decide), ?_⟩
      have e44 : f 44 = _ := H 44 (by decide)
      clear H
      have hgc := (gcell hb).1
      go_simp
      exact ⟨hb, trivial, rfl⟩
    · refine duty_guard _ _ _ rfl rfl fun f w1 hb H => ⟨H 38 (by decide), ?_⟩
      have e45 : f 45 = _ := H 45 (by decide)
      clear H
      go_simp
      exact (instr_most_any _ _).mono fun e w2 h => ⟨_, h.1, h.2 ▸ hb, trivial, rfl⟩
    · refine duty_guard _ _ _ rfl rfl fun f w1 hb H => ⟨H 38 (by decide), ?_⟩
      have e39 : f 39 = _ := H 39 (by decide)
      have e41 : f 41 = _ := H 41 (by decide)
      have e43 : f 43 = _ := H 43 (by decide)
      have e46 : f 46 = _ := H 46 (by decide)
      clear H
      go_simp
      exact (field_any _ _ _ _).mono fun e w2 h => ⟨_, h.1, h.2 ▸ hb, trivial, by rw [P4.out]; rfl⟩
    · refine duty_plain rfl fun f w1 hb H => ?_
      have e38 : f 38 = _ := H 38 (by decide)
      have e47 : f 47 = _ := H 47 (by decide)
      clear H
      have hgc := (gcell hb).1
      go_simp
      exact ⟨hb, trivial, rfl⟩
    · refine duty_plain rfl fun f w1 hb H => ?_
      have e48 : f 48 = _ := H 48 (by decide)
      clear H
      have hgc := (gcell hb).1
      go_simp
      exact ⟨hb, trivial, rfl⟩
  · intro f w9 hb hE
    simp only [putAll, Act.put, slotV, List.setIfInBounds_toArray, List.set_cons_succ, List.set_cons_zero]
    have e2 : f 2 = .bool true := by
      simp only [Ends, tagV, SVal] at hE
      simp [hE]
    rw [e2]
    clear hE e2
    go_wp2
    go_ret
    exact ⟨ret_bool Hf.out, grown_trans HG8.out hb⟩

theorem instr_Valid_any (op a b c i : Int) (w : World) : Calls Try.prog 16 #[.agg #[.int .i64 op, .int .i64 a, .int .i64 b, .int .i64 c, .int .i64 i]] w (BoolGrown (ivB op a b c i) w) := by
  by_cases h0 : 0 ≤ op
  · by_cases h1 : op ≤ 24
    · cases p1 : fieldB (uA op) a 7
      · exact instr_Valid_f1 op a b c i w h0 h1 p1
      · cases p2 : fieldB (uB op) b 7
        · exact instr_Valid_f2 op a b c i w h0 h1 p1 p2
        · cases p3 : fieldB (uC op) c 7
          · exact instr_Valid_f3 op a b c i w h0 h1 p1 p2 p3
          · cases p4 : fieldB (uI op) i (mostI op)
            · exact instr_Valid_f4 op a b c i w h0 h1 p1 p2 p3 p4
            · exact instr_Valid_t op a b c i w h0 h1 p1 p2 p3 p4
    · have Hf := Lib.hid (show false = ivB op a b c i by simp [ivB, opB]; omega)
      go_enter Try.func16, Try.ntmps16
      go_wp2
      go_ret
      exact ⟨ret_bool Hf.out, grown_alloc (grown_refl _ _) _⟩
  · have Hf := Lib.hid (show false = ivB op a b c i by simp [ivB, opB]; omega)
    go_enter Try.func16, Try.ntmps16
    go_wp2
    go_ret
    exact ⟨ret_bool Hf.out, grown_alloc (grown_refl _ _) _⟩

end Go.Proofs.Ytenlhaondbmhnaa
