/- Instructions as bytes; no condition. -/
import Derived.Test.YtenlhaondbmhnaaInsC
namespace Go.Proofs.Ytenlhaondbmhnaa
open Go.RowKit

theorem iv_range {op a b c i : Int} (h : ivB op a b c i = true) : 0 ≤ op ∧ op ≤ 24 ∧ 0 ≤ a ∧ a < 8 ∧ 0 ≤ b ∧ b < 8 ∧ 0 ≤ c ∧ c < 8 ∧ 0 ≤ i ∧ i ≤ 65535 := by
  simp only [ivB, opB, Bool.and_eq_true, decide_eq_true_eq] at h
  obtain ⟨⟨h0, h1⟩, ⟨⟨ha, hb⟩, hc⟩, hi⟩ := h
  have := field_true ha
  have := field_true hb
  have := field_true hc
  have hi' : 0 ≤ i ∧ i ≤ 65535 := by
    by_cases hx : i < 0 ∨ 65535 < i
    · have := imm_out (op := op) hx; rw [hi] at this; cases this
    · omega
  omega

def EncYes (op a b c i : Int) (w : World) (e : Ending) (w' : World) : Prop :=
  ∃ A, e = .returned (.tuple #[.slice A 6 6, .int .i64 0]) ∧ Ints .u8 w' (New w w') A [op, a, b, c, i / 256, i % 256] ∧ w.grownBy w' none
def EncNo (w : World) (e : Ending) (w' : World) : Prop := e = .returned (.tuple #[.slice none 0 0, .int .i64 1]) ∧ w.grownBy w' none

set_option maxRecDepth 100000 in
set_option maxHeartbeats 1000000 in
theorem instr_Encode_no (op a b c i : Int) (w : World) (hv : ivB op a b c i = false) : Calls Try.prog 15 #[.agg #[.int .i64 op, .int .i64 a, .int .i64 b, .int .i64 c, .int .i64 i]] w (EncNo w) := by
  have HV := Lib.hid hv; clear hv
  go_enter Try.func15, Try.ntmps15
  go_wp2_with (go_at_call 16; refine (instr_Valid_any op a b c i _).mono ?_; rintro e w1 ⟨rfl, hg⟩; rw [HV.out]; have Hg := Lib.hid hg; clear hg)
  go_ret2
  exact ⟨rfl, grown_trans (grown_alloc (grown_refl _ _) _) Hg.out⟩
set_option maxRecDepth 100000 in
set_option maxHeartbeats 1000000 in
theorem instr_Encode_yes (op a b c i : Int) (w : World) (hv : ivB op a b c i = true) : Calls Try.prog 15 #[.agg #[.int .i64 op, .int .i64 a, .int .i64 b, .int .i64 c, .int .i64 i]] w (EncYes op a b c i w) := by
  have HV := Lib.hid hv
  obtain ⟨h0, h1, h2, h3, h4, h5, h6, h7, h8, h9⟩ := iv_range hv
  clear hv
  go_enter Try.func15, Try.ntmps15
  go_wp2_with (go_at_call 16; refine (instr_Valid_any op a b c i _).mono ?_; rintro e w1 ⟨rfl, hg⟩; rw [HV.out]; have Hg := Lib.hid hg; have hz : w.heap.size < w1.heap.size := (by have := hg.size; simp at this; omega); obtain ⟨hgc, hgf⟩ := gcell hg; clear hg)
  go_ret2
  refine ⟨_, rfl, fun j hj => ⟨w1.heap.size, 0, rfl, ⟨by omega, by simp⟩, ?_⟩, grown_alloc (grown_trans (grown_alloc (grown_refl _ _) _) Hg.out) _⟩
  rw [Nat.zero_add, World.cell?_alloc_new]
  match j, hj with
  | 0, _ => rfl
  | 1, _ => rfl
  | 2, _ => rfl
  | 3, _ => rfl
  | 4, _ => rfl
  | 5, _ => rfl
set_option maxRecDepth 100000 in
set_option maxHeartbeats 1000000 in
theorem ref06_Encode_no (op a b c i : Int) (w : World) (hv : ivB op a b c i = false) : Calls Try.prog 9 #[.agg #[.int .i64 op, .int .i64 a, .int .i64 b, .int .i64 c, .int .i64 i]] w (EncNo w) := by
  have HV := Lib.hid hv; clear hv
  go_enter Try.func9, Try.ntmps9
  go_wp2_with (go_at_call 18; refine (ref06_Valid_any op a b c i _).mono ?_; rintro e w1 ⟨rfl, hg⟩; rw [HV.out]; have Hg := Lib.hid hg; clear hg)
  go_ret2
  exact ⟨rfl, grown_trans (grown_alloc (grown_refl _ _) _) Hg.out⟩
set_option maxRecDepth 100000 in
set_option maxHeartbeats 1000000 in
theorem ref06_Encode_yes (op a b c i : Int) (w : World) (hv : ivB op a b c i = true) : Calls Try.prog 9 #[.agg #[.int .i64 op, .int .i64 a, .int .i64 b, .int .i64 c, .int .i64 i]] w (EncYes op a b c i w) := by
  have HV := Lib.hid hv
  obtain ⟨h0, h1, h2, h3, h4, h5, h6, h7, h8, h9⟩ := iv_range hv
  clear hv
  go_enter Try.func9, Try.ntmps9
  go_wp2_with (go_at_call 18; refine (ref06_Valid_any op a b c i _).mono ?_; rintro e w1 ⟨rfl, hg⟩; rw [HV.out]; have Hg := Lib.hid hg; have hz : w.heap.size < w1.heap.size := (by have := hg.size; simp at this; omega); obtain ⟨hgc, hgf⟩ := gcell hg; clear hg)
  go_ret2
  refine ⟨_, rfl, fun j hj => ⟨w1.heap.size, 0, rfl, ⟨by omega, by simp⟩, ?_⟩, grown_alloc (grown_trans (grown_alloc (grown_refl _ _) _) Hg.out) _⟩
  rw [Nat.zero_add, World.cell?_alloc_new]
  match j, hj with
  | 0, _ => rfl
  | 1, _ => rfl
  | 2, _ => rfl
  | 3, _ => rfl
  | 4, _ => rfl
  | 5, _ => rfl

theorem or_i64 (x y : Int) (h0 : 0 ≤ x) (h1 : x ≤ 255) (h2 : 0 ≤ y) (h3 : y ≤ 255) : bits BinOp.or IntKind.i64 (x * 256) y = x * 256 + y :=
  bits_join .i64 32 (by decide) (fun n hn hn' => IntWalk.i64_in _ (by omega)) 8 (x * 256) y (by omega) (by omega) (by omega) h2 (by omega) (by omega)

/-- A new struct of m cells. -/
def Has (n0 m : Nat) (v : Value) (w : World) : Prop := ∃ q, v = .pointer (some ⟨q, 0, none⟩) ∧ n0 ≤ q ∧ q < w.heap.size ∧ (∀ j, j < m → ∃ x, w.cell? ⟨q, j, none⟩ = some x) ∧ ∀ j, w.frozen? ⟨q, j, none⟩ = false
/-- .. and what it holds. -/
def Full (n0 : Nat) (vs : List Value) (v : Value) (w : World) : Prop := ∃ q, v = .pointer (some ⟨q, 0, none⟩) ∧ n0 ≤ q ∧ q < w.heap.size ∧ (∀ j, j < vs.length → w.cell? ⟨q, j, none⟩ = vs[j]?) ∧ ∀ j, w.frozen? ⟨q, j, none⟩ = false
def RS (n0 m : Nat) (vs : List Value) (w w' : World) : Prop := w.heap.size ≤ w'.heap.size ∧ (∀ v, Has n0 m v w → Has n0 m v w') ∧ (∀ v, Full n0 vs v w → Full n0 vs v w')
theorem RS.refl (n0 m : Nat) (vs : List Value) (w : World) : RS n0 m vs w w := ⟨Nat.le_refl _, fun _ h => h, fun _ h => h⟩
theorem RS.none {n0 m : Nat} {vs : List Value} {w w' : World} (h : w.grownBy w' none) : RS n0 m vs w w' :=
  ⟨h.size, fun _ ⟨q, e, h0, h1, hc, hf⟩ => ⟨q, e, h0, Nat.lt_of_lt_of_le h1 h.size, fun j hj => by rw [(gcell h).1 _ _ h1]; exact hc j hj, fun j => by rw [(gcell h).2 _ _ h1]; exact hf j⟩,
   fun _ ⟨q, e, h0, h1, hc, hf⟩ => ⟨q, e, h0, Nat.lt_of_lt_of_le h1 h.size, fun j hj => by rw [(gcell h).1 _ _ h1]; exact hc j hj, fun j => by rw [(gcell h).2 _ _ h1]; exact hf j⟩⟩
theorem RS.alloc (n0 m : Nat) (vs : List Value) (w : World) (o : Obj) : RS n0 m vs w (w.alloc o) := RS.none (grown_alloc (grown_refl _ _) _)
theorem Has.new {n0 m : Nat} {w : World} {c : Array Value} {t : Nat} (h : n0 ≤ w.heap.size) (hc : ∀ j, j < m → ∃ x, c[j]? = some x) : Has n0 m (.pointer (some ⟨w.heap.size, 0, none⟩)) (w.alloc (.cells c t)) :=
  ⟨w.heap.size, rfl, h, by simp, fun j hj => let ⟨x, hx⟩ := hc j hj; ⟨x, (World.cell?_alloc_new _ _ _ _).trans hx⟩, fun j => World.frozen?_alloc_at _ _ _ _ rfl⟩
def set5 (w : World) (q : Nat) (a b c d e : Value) : World := ((((w.setCell ⟨q, 0, none⟩ a).setCell ⟨q, 1, none⟩ b).setCell ⟨q, 2, none⟩ c).setCell ⟨q, 3, none⟩ d).setCell ⟨q, 4, none⟩ e
theorem set5_other {w : World} {q b o : Nat} {a1 a2 a3 a4 a5 : Value} (h : b ≠ q) : (set5 w q a1 a2 a3 a4 a5).cell? ⟨b, o, none⟩ = w.cell? ⟨b, o, none⟩ := by
  unfold set5
  have hne : ∀ j, (⟨q, j, none⟩ : Addr) ≠ ⟨b, o, none⟩ := fun j e => h (by injection e with e; exact e.symm)
  rw [World.cell?_setCell_other _ _ _ _ (hne _), World.cell?_setCell_other _ _ _ _ (hne _), World.cell?_setCell_other _ _ _ _ (hne _), World.cell?_setCell_other _ _ _ _ (hne _), World.cell?_setCell_other _ _ _ _ (hne _)]
theorem set5_frozen {w : World} {q : Nat} {a1 a2 a3 a4 a5 : Value} (p : Addr) : (set5 w q a1 a2 a3 a4 a5).frozen? p = w.frozen? p := by
  unfold set5
  rw [World.frozen?_setCell, World.frozen?_setCell, World.frozen?_setCell, World.frozen?_setCell, World.frozen?_setCell]
theorem set5_at {w : World} {q : Nat} {a1 a2 a3 a4 a5 y0 y1 y2 y3 y4 : Value} (k0 : w.cell? ⟨q, 0, none⟩ = some y0) (k1 : w.cell? ⟨q, 1, none⟩ = some y1) (k2 : w.cell? ⟨q, 2, none⟩ = some y2) (k3 : w.cell? ⟨q, 3, none⟩ = some y3) (k4 : w.cell? ⟨q, 4, none⟩ = some y4) :
    ∀ j, j < 5 → (set5 w q a1 a2 a3 a4 a5).cell? ⟨q, j, none⟩ = [a1, a2, a3, a4, a5][j]? := by
  intro j hj
  unfold set5
  match j, hj with
  | 0, _ => simp [World.cell?_setCell_other]; exact World.cell?_setCell_same _ _ _ k0
  | 1, _ => simp [World.cell?_setCell_other]; exact World.cell?_setCell_same _ _ _ (by rw [World.cell?_setCell_other _ _ _ _ (by simp)]; exact k1)
  | 2, _ => simp [World.cell?_setCell_other]; exact World.cell?_setCell_same _ _ _ (by simp [World.cell?_setCell_other]; exact k2)
  | 3, _ => simp [World.cell?_setCell_other]; exact World.cell?_setCell_same _ _ _ (by simp [World.cell?_setCell_other]; exact k3)
  | 4, _ => exact World.cell?_setCell_same _ _ _ (by simp [World.cell?_setCell_other]; exact k4)
theorem full5 {w8 w : World} {q : Nat} {a1 a2 a3 a4 a5 y0 y1 y2 y3 y4 : Value} (hb : w8.grownBy w none) (h0 : w8.heap.size ≤ q) (h1 : q < w.heap.size) (hf : ∀ j, w.frozen? ⟨q, j, none⟩ = false)
    (k0 : w.cell? ⟨q, 0, none⟩ = some y0) (k1 : w.cell? ⟨q, 1, none⟩ = some y1) (k2 : w.cell? ⟨q, 2, none⟩ = some y2) (k3 : w.cell? ⟨q, 3, none⟩ = some y3) (k4 : w.cell? ⟨q, 4, none⟩ = some y4) :
    PostP (fun w' => w8.grownBy w' none) (RS w8.heap.size 5 [a1, a2, a3, a4, a5]) (Full w8.heap.size [a1, a2, a3, a4, a5]) w (.pointer (some ⟨q, 0, none⟩)) (set5 w q a1 a2 a3 a4 a5) := by
  have hat := set5_at (a1 := a1) (a2 := a2) (a3 := a3) (a4 := a4) (a5 := a5) k0 k1 k2 k3 k4
  have hsz : (set5 w q a1 a2 a3 a4 a5).heap.size = w.heap.size := by simp [set5, World.setCell]
  refine ⟨?_, ⟨by omega, ?_, ?_⟩, q, rfl, h0, by omega, hat, fun j => by rw [set5_frozen]; exact hf j⟩
  · unfold set5
    repeat (first | exact hb | refine grown_set ?_ (.inr h0) _)
  · rintro v ⟨q', e, h0', h1', hc, hf'⟩
    refine ⟨q', e, h0', by omega, fun j hj => ?_, fun j => by rw [set5_frozen]; exact hf' j⟩
    by_cases hq : q' = q
    · subst hq
      rw [hat j hj]
      exact ⟨_, List.getElem?_eq_getElem (by simpa using hj)⟩
    · rw [set5_other hq]; exact hc j hj
  · rintro v ⟨q', e, h0', h1', hc, hf'⟩
    refine ⟨q', e, h0', by omega, fun j hj => ?_, fun j => by rw [set5_frozen]; exact hf' j⟩
    by_cases hq : q' = q
    · subst hq
      exact hat j hj
    · rw [set5_other hq]; exact hc j hj

/-- What bytes say. -/
def decOk (xs : List Int) : Bool := decide (xs.length = 6) && ivB (xs.getD 0 0) (xs.getD 1 0) (xs.getD 2 0) (xs.getD 3 0) (xs.getD 4 0 * 256 + xs.getD 5 0)
def DecPost (op a b c i err : Int) (w : World) (e : Ending) (w' : World) : Prop :=
  e = .returned (.tuple #[.agg #[.int .i64 op, .int .i64 a, .int .i64 b, .int .i64 c, .int .i64 i], .int .i64 err]) ∧ w.grownBy w' none

set_option maxHeartbeats 1000000 in
theorem instr_Decode_short (A : Option Addr) (xs : List Int) (cp : Nat) (w : World) (h6 : xs.length < 6) : Calls Try.prog 13 #[.slice A xs.length cp] w (DecPost 0 0 0 0 0 4 w) := by
  go_enter Try.func13, Try.ntmps13
  go_wp2
  exact bodyPost_ret (v := .tuple #[.agg #[.int .i64 0, .int .i64 0, .int .i64 0, .int .i64 0, .int .i64 0], .int .i64 4]) (by simp [results, Try.results13, go_sem]) rfl ⟨rfl, grown_alloc (grown_refl _ _) _⟩

set_option maxRecDepth 100000 in
set_option maxHeartbeats 2000000 in
theorem instr_Decode_long (F : Nat → Prop) (A : Option Addr) (xs : List Int) (cp : Nat) (x0 x1 x2 x3 x4 x5 : Int) (w : World) (hl : xs.length ≤ 9223372036854775807) (hF : ∀ k, F k → k < w.heap.size) (hx : Ints .u8 w F A xs) (hw : ∀ x ∈ xs, 0 ≤ x ∧ x ≤ 255) (h6 : 6 ≤ xs.length)
    (g0 : x0 = xs[0]) (g1 : x1 = xs[1]) (g2 : x2 = xs[2]) (g3 : x3 = xs[3]) (g4 : x4 = xs[4]) (g5 : x5 = xs[5]) (Q : Ending → World → Prop)
    (hyes : xs.length = 6 → ivB x0 x1 x2 x3 (x4 * 256 + x5) = true → ∀ w', w.grownBy w' none → Q (.returned (.tuple #[.agg #[.int .i64 x0, .int .i64 x1, .int .i64 x2, .int .i64 x3, .int .i64 (x4 * 256 + x5)], .int .i64 0])) w')
    (hno : (xs.length ≠ 6 ∨ ivB x0 x1 x2 x3 (x4 * 256 + x5) = false) → ∀ w', w.grownBy w' none → Q (.returned (.tuple #[.agg #[.int .i64 0, .int .i64 0, .int .i64 0, .int .i64 0, .int .i64 0], .int .i64 5])) w') :
    Calls Try.prog 13 #[.slice A xs.length cp] w Q := by
  have HX := hx.keep ((Agree.refl F w).alloc hF (.cells #[.int .i64 0, .int .i64 0, .int .i64 0, .int .i64 0, .int .i64 0] 29))
  obtain ⟨b, off, rfl, hFb, k0⟩ := HX.at_ (i := 0) (by omega)
  obtain ⟨b', off', e1, _, k1⟩ := HX.at_ (i := 1) (by omega)
  cases e1
  obtain ⟨b', off', e1, _, k2⟩ := HX.at_ (i := 2) (by omega)
  cases e1
  obtain ⟨b', off', e1, _, k3⟩ := HX.at_ (i := 3) (by omega)
  cases e1
  obtain ⟨b', off', e1, _, k4⟩ := HX.at_ (i := 4) (by omega)
  cases e1
  obtain ⟨b', off', e1, _, k5⟩ := HX.at_ (i := 5) (by omega)
  cases e1
  have v0 := hw _ (List.getElem_mem (show 0 < xs.length by omega))
  have v1 := hw _ (List.getElem_mem (show 1 < xs.length by omega))
  have v2 := hw _ (List.getElem_mem (show 2 < xs.length by omega))
  have v3 := hw _ (List.getElem_mem (show 3 < xs.length by omega))
  have v4 := hw _ (List.getElem_mem (show 4 < xs.length by omega))
  have v5 := hw _ (List.getElem_mem (show 5 < xs.length by omega))
  rw [← g0] at k0 v0
  rw [← g1] at k1 v1
  rw [← g2] at k2 v2
  rw [← g3] at k3 v3
  rw [← g4] at k4 v4
  rw [← g5] at k5 v5
  rw [Nat.add_zero] at k0
  have hbz : b < w.heap.size := hF b hFb
  clear hx hw HX g0 g1 g2 g3 g4 g5 hF hFb
  have n0 : (0 : Int) < xs.length := by omega
  have m0 : 0 < xs.length := by omega
  have n1 : (1 : Int) < xs.length := by omega
  have n2 : (2 : Int) < xs.length := by omega
  have n3 : (3 : Int) < xs.length := by omega
  have n4 : (4 : Int) < xs.length := by omega
  have n5 : (5 : Int) < xs.length := by omega
  have r0 : IntKind.i64.wrap x0 = x0 := IntWalk.i64_in _ (by omega)
  have r1 : IntKind.i64.wrap x1 = x1 := IntWalk.i64_in _ (by omega)
  have r2 : IntKind.i64.wrap x2 = x2 := IntWalk.i64_in _ (by omega)
  have r3 : IntKind.i64.wrap x3 = x3 := IntWalk.i64_in _ (by omega)
  have r4 : IntKind.i64.wrap x4 = x4 := IntWalk.i64_in _ (by omega)
  have r5 : IntKind.i64.wrap x5 = x5 := IntWalk.i64_in _ (by omega)
  have Hyes := Lib.hid hyes
  have Hno := Lib.hid hno
  clear hyes hno
  go_enter Try.func13, Try.ntmps13
  go_wp2
  have HG8 := Lib.hid (show w.grownBy (w.alloc (.cells #[.int .i64 0, .int .i64 0, .int .i64 0, .int .i64 0, .int .i64 0] 29)) none from grown_alloc (grown_refl _ _) _)
  have hbz8 : b < (w.alloc (.cells #[.int .i64 0, .int .i64 0, .int .i64 0, .int .i64 0, .int .i64 0] 29)).heap.size := by simp; omega
  have hrc : ∀ j, (w.alloc (.cells #[.int .i64 0, .int .i64 0, .int .i64 0, .int .i64 0, .int .i64 0] 29)).cell? ⟨w.heap.size, j, none⟩ = (#[Value.int .i64 0, .int .i64 0, .int .i64 0, .int .i64 0, .int .i64 0] : Array Value)[j]? := fun j => World.cell?_alloc_new _ _ _ _
  have hrf : ∀ j, (w.alloc (.cells #[.int .i64 0, .int .i64 0, .int .i64 0, .int .i64 0, .int .i64 0] 29)).frozen? ⟨w.heap.size, j, none⟩ = false := fun j => World.frozen?_alloc_at _ _ _ _ rfl
  have hrz : w.heap.size < (w.alloc (.cells #[.int .i64 0, .int .i64 0, .int .i64 0, .int .i64 0, .int .i64 0] 29)).heap.size := by simp
  have HRC := Lib.hid hrc
  have HRF := Lib.hid hrf
  clear hrc hrf
  generalize w.alloc (.cells #[.int .i64 0, .int .i64 0, .int .i64 0, .int .i64 0, .int .i64 0] 29) = w8 at *
  refine wp_region_rely (fun w' => w8.grownBy w' none) (RS w8.heap.size 5 [.int .i64 x0, .int .i64 x1, .int .i64 x2, .int .i64 x3, .int .i64 (x4 * 256 + x5)])
    [SVal (.slice (some ⟨b, off, none⟩) xs.length cp), SVal (.pointer (some ⟨b, off, none⟩)), SVal (.int .u8 x0), SVal (.int .i64 x0), SVal (.slice (some ⟨b, off, none⟩) xs.length cp), SVal (.pointer (some ⟨b, off + 1, none⟩)), SVal (.int .u8 x1), SVal (.int .i64 x1), SVal (.slice (some ⟨b, off, none⟩) xs.length cp), SVal (.pointer (some ⟨b, off + 2, none⟩)), SVal (.int .u8 x2), SVal (.int .i64 x2), SVal (.slice (some ⟨b, off, none⟩) xs.length cp), SVal (.pointer (some ⟨b, off + 3, none⟩)), SVal (.int .u8 x3), SVal (.int .i64 x3), SVal (.slice (some ⟨b, off, none⟩) xs.length cp), SVal (.pointer (some ⟨b, off + 4, none⟩)), SVal (.int .u8 x4), SVal (.int .i64 x4), SVal (.int .i64 (x4 * 256)), SVal (.slice (some ⟨b, off, none⟩) xs.length cp), SVal (.pointer (some ⟨b, off + 5, none⟩)), SVal (.int .u8 x5), SVal (.int .i64 x5), SVal (.int .i64 (x4 * 256 + x5)), SVal (.agg #[.int .i64 x0, .int .i64 x1, .int .i64 x2, .int .i64 x3, .int .i64 (x4 * 256 + x5)]), Has w8.heap.size 5, Full w8.heap.size [.int .i64 x0, .int .i64 x1, .int .i64 x2, .int .i64 x3, .int .i64 (x4 * 256 + x5)]]
    46 (by kernel_rfl) rfl (by kernel_rfl) (grown_drew (grown_refl _ _)) (RS.refl _ _ _) ?_ ?_ ?_
  · exact ⟨SVal.kept, SVal.kept, SVal.kept, SVal.kept, SVal.kept, SVal.kept, SVal.kept, SVal.kept, SVal.kept, SVal.kept, SVal.kept, SVal.kept, SVal.kept, SVal.kept, SVal.kept, SVal.kept, SVal.kept, SVal.kept, SVal.kept, SVal.kept, SVal.kept, SVal.kept, SVal.kept, SVal.kept, SVal.kept, SVal.kept, SVal.kept, fun _ _ u h => h.2.1 u, fun _ _ u h => h.2.2 u, trivial⟩
  · refine duties_cons ?_ (duties_cons ?_ (duties_cons ?_ (duties_cons ?_ (duties_cons ?_ (duties_cons ?_ (duties_cons ?_ (duties_cons ?_ (duties_cons ?_ (duties_cons ?_ (duties_cons ?_ (duties_cons ?_ (duties_cons ?_ (duties_cons ?_ (duties_cons ?_ (duties_cons ?_ (duties_cons ?_ (duties_cons ?_ (duties_cons ?_ (duties_cons ?_ (duties_cons ?_ (duties_cons ?_ (duties_cons ?_ (duties_cons ?_ (duties_cons ?_ (duties_cons ?_ (duties_cons ?_ (duties_cons ?_ (duties_cons ?_ duties_nil))))))))))))))))))))))))))))
    · refine duty_plain rfl fun f w1 hb H => ?_
      have e0 : f 0 = _ := H 0 (by decide)
      clear H
      have hgc := (gcell hb).1
      go_simp
      exact ⟨hb, RS.refl _ _ _ _, rfl⟩
    · refine duty_plain rfl fun f w1 hb H => ?_
      have e9 : f 9 = _ := H 9 (by decide)
      clear H
      have hgc := (gcell hb).1
      go_simp
      exact ⟨hb, RS.refl _ _ _ _, rfl⟩
    · refine duty_plain rfl fun f w1 hb H => ?_
      have e10 : f 10 = _ := H 10 (by decide)
      clear H
      have hgc := (gcell hb).1
      go_simp
      exact ⟨hb, RS.refl _ _ _ _, rfl⟩
    · refine duty_plain rfl fun f w1 hb H => ?_
      have e11 : f 11 = _ := H 11 (by decide)
      clear H
      have hgc := (gcell hb).1
      go_simp
      exact ⟨hb, RS.refl _ _ _ _, rfl⟩
    · refine duty_plain rfl fun f w1 hb H => ?_
      have e0 : f 0 = _ := H 0 (by decide)
      clear H
      have hgc := (gcell hb).1
      go_simp
      exact ⟨hb, RS.refl _ _ _ _, rfl⟩
    · refine duty_plain rfl fun f w1 hb H => ?_
      have e13 : f 13 = _ := H 13 (by decide)
      clear H
      have hgc := (gcell hb).1
      go_simp
      exact ⟨hb, RS.refl _ _ _ _, rfl⟩
    · refine duty_plain rfl fun f w1 hb H => ?_
      have e14 : f 14 = _ := H 14 (by decide)
      clear H
      have hgc := (gcell hb).1
      go_simp
      exact ⟨hb, RS.refl _ _ _ _, rfl⟩
    · refine duty_plain rfl fun f w1 hb H => ?_
      have e15 : f 15 = _ := H 15 (by decide)
      clear H
      have hgc := (gcell hb).1
      go_simp
      exact ⟨hb, RS.refl _ _ _ _, rfl⟩
    · refine duty_plain rfl fun f w1 hb H => ?_
      have e0 : f 0 = _ := H 0 (by decide)
      clear H
      have hgc := (gcell hb).1
      go_simp
      exact ⟨hb, RS.refl _ _ _ _, rfl⟩
    · refine duty_plain rfl fun f w1 hb H => ?_
      have e17 : f 17 = _ := H 17 (by decide)
      clear H
      have hgc := (gcell hb).1
      go_simp
      exact ⟨hb, RS.refl _ _ _ _, rfl⟩
    · refine duty_plain rfl fun f w1 hb H => ?_
      have e18 : f 18 = _ := H 18 (by decide)
      clear H
      have hgc := (gcell hb).1
      go_simp
      exact ⟨hb, RS.refl _ _ _ _, rfl⟩
    · refine duty_plain rfl fun f w1 hb H => ?_
      have e19 : f 19 = _ := H 19 (by decide)
      clear H
      have hgc := (gcell hb).1
      go_simp
      exact ⟨hb, RS.refl _ _ _ _, rfl⟩
    · refine duty_plain rfl fun f w1 hb H => ?_
      have e0 : f 0 = _ := H 0 (by decide)
      clear H
      have hgc := (gcell hb).1
      go_simp
      exact ⟨hb, RS.refl _ _ _ _, rfl⟩
    · refine duty_plain rfl fun f w1 hb H => ?_
      have e21 : f 21 = _ := H 21 (by decide)
      clear H
      have hgc := (gcell hb).1
      go_simp
      exact ⟨hb, RS.refl _ _ _ _, rfl⟩
    · refine duty_plain rfl fun f w1 hb H => ?_
      have e22 : f 22 = _ := H 22 (by decide)
      clear H
      have hgc := (gcell hb).1
      go_simp
      exact ⟨hb, RS.refl _ _ _ _, rfl⟩
    · refine duty_plain rfl fun f w1 hb H => ?_
      have e23 : f 23 = _ := H 23 (by decide)
      clear H
      have hgc := (gcell hb).1
      go_simp
      exact ⟨hb, RS.refl _ _ _ _, rfl⟩
    · refine duty_plain rfl fun f w1 hb H => ?_
      have e0 : f 0 = _ := H 0 (by decide)
      clear H
      have hgc := (gcell hb).1
      go_simp
      exact ⟨hb, RS.refl _ _ _ _, rfl⟩
    · refine duty_plain rfl fun f w1 hb H => ?_
      have e25 : f 25 = _ := H 25 (by decide)
      clear H
      have hgc := (gcell hb).1
      go_simp
      exact ⟨hb, RS.refl _ _ _ _, rfl⟩
    · refine duty_plain rfl fun f w1 hb H => ?_
      have e26 : f 26 = _ := H 26 (by decide)
      clear H
      have hgc := (gcell hb).1
      go_simp
      exact ⟨hb, RS.refl _ _ _ _, rfl⟩
    · refine duty_plain rfl fun f w1 hb H => ?_
      have e27 : f 27 = _ := H 27 (by decide)
      clear H
      have hgc := (gcell hb).1
      go_simp
      exact ⟨hb, RS.refl _ _ _ _, rfl⟩
    · refine duty_plain rfl fun f w1 hb H => ?_
      have e28 : f 28 = _ := H 28 (by decide)
      clear H
      have hgc := (gcell hb).1
      have hsh : IntKind.i64.wrap (x4 * 256) = x4 * 256 := IntWalk.i64_in _ (by omega)
      go_simp
      exact ⟨hb, RS.refl _ _ _ _, rfl⟩
    · refine duty_plain rfl fun f w1 hb H => ?_
      have e0 : f 0 = _ := H 0 (by decide)
      clear H
      have hgc := (gcell hb).1
      go_simp
      exact ⟨hb, RS.refl _ _ _ _, rfl⟩
    · refine duty_plain rfl fun f w1 hb H => ?_
      have e30 : f 30 = _ := H 30 (by decide)
      clear H
      have hgc := (gcell hb).1
      go_simp
      exact ⟨hb, RS.refl _ _ _ _, rfl⟩
    · refine duty_plain rfl fun f w1 hb H => ?_
      have e31 : f 31 = _ := H 31 (by decide)
      clear H
      have hgc := (gcell hb).1
      go_simp
      exact ⟨hb, RS.refl _ _ _ _, rfl⟩
    · refine duty_plain rfl fun f w1 hb H => ?_
      have e32 : f 32 = _ := H 32 (by decide)
      clear H
      have hgc := (gcell hb).1
      go_simp
      exact ⟨hb, RS.refl _ _ _ _, rfl⟩
    · refine duty_plain rfl fun f w1 hb H => ?_
      have e29 : f 29 = _ := H 29 (by decide)
      have e33 : f 33 = _ := H 33 (by decide)
      clear H
      have hgc := (gcell hb).1
      have hor : bits BinOp.or IntKind.i64 (x4 * 256) x5 = x4 * 256 + x5 := or_i64 _ _ v4.1 v4.2 v5.1 v5.2
      go_simp
      exact ⟨hb, RS.refl _ _ _ _, rfl⟩
    · refine duty_plain rfl fun f w1 hb H => ?_
      have e12 : f 12 = _ := H 12 (by decide)
      have e16 : f 16 = _ := H 16 (by decide)
      have e20 : f 20 = _ := H 20 (by decide)
      have e24 : f 24 = _ := H 24 (by decide)
      have e34 : f 34 = _ := H 34 (by decide)
      clear H
      have hgc := (gcell hb).1
      go_simp
      exact ⟨hb, RS.refl _ _ _ _, rfl⟩
    · refine duty_plain rfl fun f w1 hb H => ?_
      clear H
      go_simp
      exact ⟨grown_alloc hb _, RS.alloc _ _ _ _ _, Has.new hb.size (by intro j hj; match j, hj with | 0, _ => exact ⟨_, rfl⟩ | 1, _ => exact ⟨_, rfl⟩ | 2, _ => exact ⟨_, rfl⟩ | 3, _ => exact ⟨_, rfl⟩ | 4, _ => exact ⟨_, rfl⟩)⟩
    · refine duty_plain rfl fun f w1 hb H => ?_
      have e35 : f 35 = _ := H 35 (by decide)
      have h4 : Has _ 5 (f 4) w1 := H 4 (by decide)
      clear H
      obtain ⟨q, e4, hq0, hq1, hc, hf⟩ := h4
      obtain ⟨y0, k0⟩ := hc 0 (by omega)
      obtain ⟨y1, k1⟩ := hc 1 (by omega)
      obtain ⟨y2, k2⟩ := hc 2 (by omega)
      obtain ⟨y3, k3⟩ := hc 3 (by omega)
      obtain ⟨y4, k4⟩ := hc 4 (by omega)
      have f0 := hf 0
      have f1 := hf 1
      have f2 := hf 2
      have f3 := hf 3
      have f4 := hf 4
      have HB := Lib.hid hb
      have HF := Lib.hid hf
      clear hb hf hc
      go_simp
      exact full5 HB.out hq0 hq1 HF.out k0 k1 k2 k3 k4
  · intro f w9 hb hE
    simp only [putAll, Act.put, slotV, List.setIfInBounds_toArray, List.set_cons_succ, List.set_cons_zero]
    obtain ⟨q, e4, hq0, hq1, hc, hf⟩ : Full w8.heap.size [.int .i64 x0, .int .i64 x1, .int .i64 x2, .int .i64 x3, .int .i64 (x4 * 256 + x5)] (f 4) w9 := by
      simp only [Ends, tagV, and_true] at hE
      simp only [hE]
    clear hE
    rw [e4]
    have HG9 := Lib.hid (grown_trans HG8.out hb)
    have hrz9 : w.heap.size < w9.heap.size := by have := hb.size; omega
    have hrc : ∀ j, w9.cell? ⟨w.heap.size, j, none⟩ = (#[Value.int .i64 0, .int .i64 0, .int .i64 0, .int .i64 0, .int .i64 0] : Array Value)[j]? := fun j => by rw [(gcell hb).1 _ _ hrz]; exact HRC.out j
    have hrf : ∀ j, w9.frozen? ⟨w.heap.size, j, none⟩ = false := fun j => by rw [(gcell hb).2 _ _ hrz]; exact HRF.out j
    have c0 := hc 0 (by simp)
    have c1 := hc 1 (by simp)
    have c2 := hc 2 (by simp)
    have c3 := hc 3 (by simp)
    have c4 := hc 4 (by simp)
    have z0 := hrc 0
    have z1 := hrc 1
    have z2 := hrc 2
    have z3 := hrc 3
    have z4 := hrc 4
    have y0 := hrf 0
    have y1 := hrf 1
    have y2 := hrf 2
    have y3 := hrf 3
    have y4 := hrf 4
    have hqr : ¬ q = w.heap.size := by omega
    have hrq : ¬ w.heap.size = q := by omega
    clear hc hf hrc hrf hb HG8 HRC HRF hrz hbz8 k0 k1 k2 k3 k4 k5 r0 r1 r2 r3 r4 r5 n0 n1 n2 n3 n4 n5 m0 hbz
    by_cases hlen : xs.length = 6
    · have Hlen := Lib.hid hlen
      have hle : ¬ 6 < xs.length := by omega
      have hle' : xs.length ≤ 6 := by omega
      clear hlen
      cases hiv : ivB x0 x1 x2 x3 (x4 * 256 + x5)
      · have HI := Lib.hid hiv
        have HQ := Lib.hid (Hno.out (.inr hiv))
        clear hiv
        go_wp2_with (go_at_call 16; refine (instr_Valid_any _ _ _ _ _ _).mono ?_; rintro e w7 ⟨rfl, hg⟩; rw [HI.out]; have Hg := Lib.hid hg; have hz := hg.size; have hz' : w.heap.size < w7.heap.size := (by omega); obtain ⟨hgc, hgf⟩ := gcell hg; clear hg)
        refine bodyPost_ret (v := .tuple #[.agg #[.int .i64 0, .int .i64 0, .int .i64 0, .int .i64 0, .int .i64 0], .int .i64 5]) (by simp [results, Try.results13, go_sem, *]) rfl (HQ.out _ ?_)
        repeat (first | exact grown_trans HG9.out Hg.out | refine grown_set ?_ (.inr (by dsimp only; omega)) _)
      · have HI := Lib.hid hiv
        have HQ := Lib.hid (Hyes.out Hlen.out hiv)
        clear hiv
        go_wp2_with (go_at_call 16; refine (instr_Valid_any _ _ _ _ _ _).mono ?_; rintro e w7 ⟨rfl, hg⟩; rw [HI.out]; have Hg := Lib.hid hg; have hz := hg.size; have hz' : w.heap.size < w7.heap.size := (by omega); have hq' : q < w7.heap.size := (by omega); obtain ⟨hgc, hgf⟩ := gcell hg; clear hg)
        refine bodyPost_ret (v := .tuple #[.agg #[.int .i64 x0, .int .i64 x1, .int .i64 x2, .int .i64 x3, .int .i64 (x4 * 256 + x5)], .int .i64 0]) (by simp [results, Try.results13, go_sem, *]) rfl (HQ.out _ ?_)
        repeat (first | exact grown_trans HG9.out Hg.out | refine grown_set ?_ (.inr (by dsimp only; omega)) _)
    · have hle : 6 < xs.length := by omega
      have HQ := Lib.hid (Hno.out (.inl hlen))
      clear hlen
      go_wp2
      refine bodyPost_ret (v := .tuple #[.agg #[.int .i64 0, .int .i64 0, .int .i64 0, .int .i64 0, .int .i64 0], .int .i64 5]) (by simp [results, Try.results13, go_sem, *]) rfl (HQ.out _ ?_)
      repeat (first | exact HG9.out | refine grown_set ?_ (.inr (by dsimp only; omega)) _)
set_option maxHeartbeats 1000000 in
theorem ref06_Decode_short (A : Option Addr) (xs : List Int) (cp : Nat) (w : World) (h6 : xs.length < 6) : Calls Try.prog 14 #[.slice A xs.length cp] w (DecPost 0 0 0 0 0 4 w) := by
  go_enter Try.func14, Try.ntmps14
  go_wp2
  exact bodyPost_ret (v := .tuple #[.agg #[.int .i64 0, .int .i64 0, .int .i64 0, .int .i64 0, .int .i64 0], .int .i64 4]) (by simp [results, Try.results14, go_sem]) rfl ⟨rfl, grown_alloc (grown_refl _ _) _⟩

set_option maxRecDepth 100000 in
set_option maxHeartbeats 2000000 in
theorem ref06_Decode_long (F : Nat → Prop) (A : Option Addr) (xs : List Int) (cp : Nat) (x0 x1 x2 x3 x4 x5 : Int) (w : World) (hl : xs.length ≤ 9223372036854775807) (hF : ∀ k, F k → k < w.heap.size) (hx : Ints .u8 w F A xs) (hw : ∀ x ∈ xs, 0 ≤ x ∧ x ≤ 255) (h6 : 6 ≤ xs.length)
    (g0 : x0 = xs[0]) (g1 : x1 = xs[1]) (g2 : x2 = xs[2]) (g3 : x3 = xs[3]) (g4 : x4 = xs[4]) (g5 : x5 = xs[5]) (Q : Ending → World → Prop)
    (hyes : xs.length = 6 → ivB x0 x1 x2 x3 (x4 * 256 + x5) = true → ∀ w', w.grownBy w' none → Q (.returned (.tuple #[.agg #[.int .i64 x0, .int .i64 x1, .int .i64 x2, .int .i64 x3, .int .i64 (x4 * 256 + x5)], .int .i64 0])) w')
    (hno : (xs.length ≠ 6 ∨ ivB x0 x1 x2 x3 (x4 * 256 + x5) = false) → ∀ w', w.grownBy w' none → Q (.returned (.tuple #[.agg #[.int .i64 0, .int .i64 0, .int .i64 0, .int .i64 0, .int .i64 0], .int .i64 5])) w') :
    Calls Try.prog 14 #[.slice A xs.length cp] w Q := by
  have HX := hx.keep ((Agree.refl F w).alloc hF (.cells #[.int .i64 0, .int .i64 0, .int .i64 0, .int .i64 0, .int .i64 0] 29))
  obtain ⟨b, off, rfl, hFb, k0⟩ := HX.at_ (i := 0) (by omega)
  obtain ⟨b', off', e1, _, k1⟩ := HX.at_ (i := 1) (by omega)
  cases e1
  obtain ⟨b', off', e1, _, k2⟩ := HX.at_ (i := 2) (by omega)
  cases e1
  obtain ⟨b', off', e1, _, k3⟩ := HX.at_ (i := 3) (by omega)
  cases e1
  obtain ⟨b', off', e1, _, k4⟩ := HX.at_ (i := 4) (by omega)
  cases e1
  obtain ⟨b', off', e1, _, k5⟩ := HX.at_ (i := 5) (by omega)
  cases e1
  have v0 := hw _ (List.getElem_mem (show 0 < xs.length by omega))
  have v1 := hw _ (List.getElem_mem (show 1 < xs.length by omega))
  have v2 := hw _ (List.getElem_mem (show 2 < xs.length by omega))
  have v3 := hw _ (List.getElem_mem (show 3 < xs.length by omega))
  have v4 := hw _ (List.getElem_mem (show 4 < xs.length by omega))
  have v5 := hw _ (List.getElem_mem (show 5 < xs.length by omega))
  rw [← g0] at k0 v0
  rw [← g1] at k1 v1
  rw [← g2] at k2 v2
  rw [← g3] at k3 v3
  rw [← g4] at k4 v4
  rw [← g5] at k5 v5
  rw [Nat.add_zero] at k0
  have hbz : b < w.heap.size := hF b hFb
  clear hx hw HX g0 g1 g2 g3 g4 g5 hF hFb
  have n0 : (0 : Int) < xs.length := by omega
  have m0 : 0 < xs.length := by omega
  have n1 : (1 : Int) < xs.length := by omega
  have n2 : (2 : Int) < xs.length := by omega
  have n3 : (3 : Int) < xs.length := by omega
  have n4 : (4 : Int) < xs.length := by omega
  have n5 : (5 : Int) < xs.length := by omega
  have r0 : IntKind.i64.wrap x0 = x0 := IntWalk.i64_in _ (by omega)
  have r1 : IntKind.i64.wrap x1 = x1 := IntWalk.i64_in _ (by omega)
  have r2 : IntKind.i64.wrap x2 = x2 := IntWalk.i64_in _ (by omega)
  have r3 : IntKind.i64.wrap x3 = x3 := IntWalk.i64_in _ (by omega)
  have r4 : IntKind.i64.wrap x4 = x4 := IntWalk.i64_in _ (by omega)
  have r5 : IntKind.i64.wrap x5 = x5 := IntWalk.i64_in _ (by omega)
  have Hyes := Lib.hid hyes
  have Hno := Lib.hid hno
  clear hyes hno
  go_enter Try.func14, Try.ntmps14
  go_wp2
  have HG8 := Lib.hid (show w.grownBy (w.alloc (.cells #[.int .i64 0, .int .i64 0, .int .i64 0, .int .i64 0, .int .i64 0] 29)) none from grown_alloc (grown_refl _ _) _)
  have hbz8 : b < (w.alloc (.cells #[.int .i64 0, .int .i64 0, .int .i64 0, .int .i64 0, .int .i64 0] 29)).heap.size := by simp; omega
  have hrc : ∀ j, (w.alloc (.cells #[.int .i64 0, .int .i64 0, .int .i64 0, .int .i64 0, .int .i64 0] 29)).cell? ⟨w.heap.size, j, none⟩ = (#[Value.int .i64 0, .int .i64 0, .int .i64 0, .int .i64 0, .int .i64 0] : Array Value)[j]? := fun j => World.cell?_alloc_new _ _ _ _
  have hrf : ∀ j, (w.alloc (.cells #[.int .i64 0, .int .i64 0, .int .i64 0, .int .i64 0, .int .i64 0] 29)).frozen? ⟨w.heap.size, j, none⟩ = false := fun j => World.frozen?_alloc_at _ _ _ _ rfl
  have hrz : w.heap.size < (w.alloc (.cells #[.int .i64 0, .int .i64 0, .int .i64 0, .int .i64 0, .int .i64 0] 29)).heap.size := by simp
  have HRC := Lib.hid hrc
  have HRF := Lib.hid hrf
  clear hrc hrf
  generalize w.alloc (.cells #[.int .i64 0, .int .i64 0, .int .i64 0, .int .i64 0, .int .i64 0] 29) = w8 at *
  refine wp_region_rely (fun w' => w8.grownBy w' none) (RS w8.heap.size 5 [.int .i64 x0, .int .i64 x1, .int .i64 x2, .int .i64 x3, .int .i64 (x4 * 256 + x5)])
    [SVal (.slice (some ⟨b, off, none⟩) xs.length cp), SVal (.pointer (some ⟨b, off, none⟩)), SVal (.int .u8 x0), SVal (.int .i64 x0), SVal (.slice (some ⟨b, off, none⟩) xs.length cp), SVal (.pointer (some ⟨b, off + 1, none⟩)), SVal (.int .u8 x1), SVal (.int .i64 x1), SVal (.slice (some ⟨b, off, none⟩) xs.length cp), SVal (.pointer (some ⟨b, off + 2, none⟩)), SVal (.int .u8 x2), SVal (.int .i64 x2), SVal (.slice (some ⟨b, off, none⟩) xs.length cp), SVal (.pointer (some ⟨b, off + 3, none⟩)), SVal (.int .u8 x3), SVal (.int .i64 x3), SVal (.slice (some ⟨b, off, none⟩) xs.length cp), SVal (.pointer (some ⟨b, off + 4, none⟩)), SVal (.int .u8 x4), SVal (.int .i64 x4), SVal (.int .i64 (x4 * 256)), SVal (.slice (some ⟨b, off, none⟩) xs.length cp), SVal (.pointer (some ⟨b, off + 5, none⟩)), SVal (.int .u8 x5), SVal (.int .i64 x5), SVal (.int .i64 (x4 * 256 + x5)), SVal (.agg #[.int .i64 x0, .int .i64 x1, .int .i64 x2, .int .i64 x3, .int .i64 (x4 * 256 + x5)]), Has w8.heap.size 5, Full w8.heap.size [.int .i64 x0, .int .i64 x1, .int .i64 x2, .int .i64 x3, .int .i64 (x4 * 256 + x5)]]
    46 (by kernel_rfl) rfl (by kernel_rfl) (grown_drew (grown_refl _ _)) (RS.refl _ _ _) ?_ ?_ ?_
  · exact ⟨SVal.kept, SVal.kept, SVal.kept, SVal.kept, SVal.kept, SVal.kept, SVal.kept, SVal.kept, SVal.kept, SVal.kept, SVal.kept, SVal.kept, SVal.kept, SVal.kept, SVal.kept, SVal.kept, SVal.kept, SVal.kept, SVal.kept, SVal.kept, SVal.kept, SVal.kept, SVal.kept, SVal.kept, SVal.kept, SVal.kept, SVal.kept, fun _ _ u h => h.2.1 u, fun _ _ u h => h.2.2 u, trivial⟩
  · refine duties_cons ?_ (duties_cons ?_ (duties_cons ?_ (duties_cons ?_ (duties_cons ?_ (duties_cons ?_ (duties_cons ?_ (duties_cons ?_ (duties_cons ?_ (duties_cons ?_ (duties_cons ?_ (duties_cons ?_ (duties_cons ?_ (duties_cons ?_ (duties_cons ?_ (duties_cons ?_ (duties_cons ?_ (duties_cons ?_ (duties_cons ?_ (duties_cons ?_ (duties_cons ?_ (duties_cons ?_ (duties_cons ?_ (duties_cons ?_ (duties_cons ?_ (duties_cons ?_ (duties_cons ?_ (duties_cons ?_ (duties_cons ?_ duties_nil))))))))))))))))))))))))))))
    · refine duty_plain rfl fun f w1 hb H => ?_
      have e0 : f 0 = _ := H 0 (by decide)
      clear H
      have hgc := (gcell hb).1
      go_simp
      exact ⟨hb, RS.refl _ _ _ _, rfl⟩
    · refine duty_plain rfl fun f w1 hb H => ?_
      have e9 : f 9 = _ := H 9 (by decide)
      clear H
      have hgc := (gcell hb).1
      go_simp
      exact ⟨hb, RS.refl _ _ _ _, rfl⟩
    · refine duty_plain rfl fun f w1 hb H => ?_
      have e10 : f 10 = _ := H 10 (by decide)
      clear H
      have hgc := (gcell hb).1
      go_simp
      exact ⟨hb, RS.refl _ _ _ _, rfl⟩
    · refine duty_plain rfl fun f w1 hb H => ?_
      have e11 : f 11 = _ := H 11 (by decide)
      clear H
      have hgc := (gcell hb).1
      go_simp
      exact ⟨hb, RS.refl _ _ _ _, rfl⟩
    · refine duty_plain rfl fun f w1 hb H => ?_
      have e0 : f 0 = _ := H 0 (by decide)
      clear H
      have hgc := (gcell hb).1
      go_simp
      exact ⟨hb, RS.refl _ _ _ _, rfl⟩
    · refine duty_plain rfl fun f w1 hb H => ?_
      have e13 : f 13 = _ := H 13 (by decide)
      clear H
      have hgc := (gcell hb).1
      go_simp
      exact ⟨hb, RS.refl _ _ _ _, rfl⟩
    · refine duty_plain rfl fun f w1 hb H => ?_
      have e14 : f 14 = _ := H 14 (by decide)
      clear H
      have hgc := (gcell hb).1
      go_simp
      exact ⟨hb, RS.refl _ _ _ _, rfl⟩
    · refine duty_plain rfl fun f w1 hb H => ?_
      have e15 : f 15 = _ := H 15 (by decide)
      clear H
      have hgc := (gcell hb).1
      go_simp
      exact ⟨hb, RS.refl _ _ _ _, rfl⟩
    · refine duty_plain rfl fun f w1 hb H => ?_
      have e0 : f 0 = _ := H 0 (by decide)
      clear H
      have hgc := (gcell hb).1
      go_simp
      exact ⟨hb, RS.refl _ _ _ _, rfl⟩
    · refine duty_plain rfl fun f w1 hb H => ?_
      have e17 : f 17 = _ := H 17 (by decide)
      clear H
      have hgc := (gcell hb).1
      go_simp
      exact ⟨hb, RS.refl _ _ _ _, rfl⟩
    · refine duty_plain rfl fun f w1 hb H => ?_
      have e18 : f 18 = _ := H 18 (by decide)
      clear H
      have hgc := (gcell hb).1
      go_simp
      exact ⟨hb, RS.refl _ _ _ _, rfl⟩
    · refine duty_plain rfl fun f w1 hb H => ?_
      have e19 : f 19 = _ := H 19 (by decide)
      clear H
      have hgc := (gcell hb).1
      go_simp
      exact ⟨hb, RS.refl _ _ _ _, rfl⟩
    · refine duty_plain rfl fun f w1 hb H => ?_
      have e0 : f 0 = _ := H 0 (by decide)
      clear H
      have hgc := (gcell hb).1
      go_simp
      exact ⟨hb, RS.refl _ _ _ _, rfl⟩
    · refine duty_plain rfl fun f w1 hb H => ?_
      have e21 : f 21 = _ := H 21 (by decide)
      clear H
      have hgc := (gcell hb).1
      go_simp
      exact ⟨hb, RS.refl _ _ _ _, rfl⟩
    · refine duty_plain rfl fun f w1 hb H => ?_
      have e22 : f 22 = _ := H 22 (by decide)
      clear H
      have hgc := (gcell hb).1
      go_simp
      exact ⟨hb, RS.refl _ _ _ _, rfl⟩
    · refine duty_plain rfl fun f w1 hb H => ?_
      have e23 : f 23 = _ := H 23 (by decide)
      clear H
      have hgc := (gcell hb).1
      go_simp
      exact ⟨hb, RS.refl _ _ _ _, rfl⟩
    · refine duty_plain rfl fun f w1 hb H => ?_
      have e0 : f 0 = _ := H 0 (by decide)
      clear H
      have hgc := (gcell hb).1
      go_simp
      exact ⟨hb, RS.refl _ _ _ _, rfl⟩
    · refine duty_plain rfl fun f w1 hb H => ?_
      have e25 : f 25 = _ := H 25 (by decide)
      clear H
      have hgc := (gcell hb).1
      go_simp
      exact ⟨hb, RS.refl _ _ _ _, rfl⟩
    · refine duty_plain rfl fun f w1 hb H => ?_
      have e26 : f 26 = _ := H 26 (by decide)
      clear H
      have hgc := (gcell hb).1
      go_simp
      exact ⟨hb, RS.refl _ _ _ _, rfl⟩
    · refine duty_plain rfl fun f w1 hb H => ?_
      have e27 : f 27 = _ := H 27 (by decide)
      clear H
      have hgc := (gcell hb).1
      go_simp
      exact ⟨hb, RS.refl _ _ _ _, rfl⟩
    · refine duty_plain rfl fun f w1 hb H => ?_
      have e28 : f 28 = _ := H 28 (by decide)
      clear H
      have hgc := (gcell hb).1
      have hsh : IntKind.i64.wrap (x4 * 256) = x4 * 256 := IntWalk.i64_in _ (by omega)
      go_simp
      exact ⟨hb, RS.refl _ _ _ _, rfl⟩
    · refine duty_plain rfl fun f w1 hb H => ?_
      have e0 : f 0 = _ := H 0 (by decide)
      clear H
      have hgc := (gcell hb).1
      go_simp
      exact ⟨hb, RS.refl _ _ _ _, rfl⟩
    · refine duty_plain rfl fun f w1 hb H => ?_
      have e30 : f 30 = _ := H 30 (by decide)
      clear H
      have hgc := (gcell hb).1
      go_simp
      exact ⟨hb, RS.refl _ _ _ _, rfl⟩
    · refine duty_plain rfl fun f w1 hb H => ?_
      have e31 : f 31 = _ := H 31 (by decide)
      clear H
      have hgc := (gcell hb).1
      go_simp
      exact ⟨hb, RS.refl _ _ _ _, rfl⟩
    · refine duty_plain rfl fun f w1 hb H => ?_
      have e32 : f 32 = _ := H 32 (by decide)
      clear H
      have hgc := (gcell hb).1
      go_simp
      exact ⟨hb, RS.refl _ _ _ _, rfl⟩
    · refine duty_plain rfl fun f w1 hb H => ?_
      have e29 : f 29 = _ := H 29 (by decide)
      have e33 : f 33 = _ := H 33 (by decide)
      clear H
      have hgc := (gcell hb).1
      have hor : bits BinOp.or IntKind.i64 (x4 * 256) x5 = x4 * 256 + x5 := or_i64 _ _ v4.1 v4.2 v5.1 v5.2
      go_simp
      exact ⟨hb, RS.refl _ _ _ _, rfl⟩
    · refine duty_plain rfl fun f w1 hb H => ?_
      have e12 : f 12 = _ := H 12 (by decide)
      have e16 : f 16 = _ := H 16 (by decide)
      have e20 : f 20 = _ := H 20 (by decide)
      have e24 : f 24 = _ := H 24 (by decide)
      have e34 : f 34 = _ := H 34 (by decide)
      clear H
      have hgc := (gcell hb).1
      go_simp
      exact ⟨hb, RS.refl _ _ _ _, rfl⟩
    · refine duty_plain rfl fun f w1 hb H => ?_
      clear H
      go_simp
      exact ⟨grown_alloc hb _, RS.alloc _ _ _ _ _, Has.new hb.size (by intro j hj; match j, hj with | 0, _ => exact ⟨_, rfl⟩ | 1, _ => exact ⟨_, rfl⟩ | 2, _ => exact ⟨_, rfl⟩ | 3, _ => exact ⟨_, rfl⟩ | 4, _ => exact ⟨_, rfl⟩)⟩
    · refine duty_plain rfl fun f w1 hb H => ?_
      have e35 : f 35 = _ := H 35 (by decide)
      have h4 : Has _ 5 (f 4) w1 := H 4 (by decide)
      clear H
      obtain ⟨q, e4, hq0, hq1, hc, hf⟩ := h4
      obtain ⟨y0, k0⟩ := hc 0 (by omega)
      obtain ⟨y1, k1⟩ := hc 1 (by omega)
      obtain ⟨y2, k2⟩ := hc 2 (by omega)
      obtain ⟨y3, k3⟩ := hc 3 (by omega)
      obtain ⟨y4, k4⟩ := hc 4 (by omega)
      have f0 := hf 0
      have f1 := hf 1
      have f2 := hf 2
      have f3 := hf 3
      have f4 := hf 4
      have HB := Lib.hid hb
      have HF := Lib.hid hf
      clear hb hf hc
      go_simp
      exact full5 HB.out hq0 hq1 HF.out k0 k1 k2 k3 k4
  · intro f w9 hb hE
    simp only [putAll, Act.put, slotV, List.setIfInBounds_toArray, List.set_cons_succ, List.set_cons_zero]
    obtain ⟨q, e4, hq0, hq1, hc, hf⟩ : Full w8.heap.size [.int .i64 x0, .int .i64 x1, .int .i64 x2, .int .i64 x3, .int .i64 (x4 * 256 + x5)] (f 4) w9 := by
      simp only [Ends, tagV, and_true] at hE
      simp only [hE]
    clear hE
    rw [e4]
    have HG9 := Lib.hid (grown_trans HG8.out hb)
    have hrz9 : w.heap.size < w9.heap.size := by have := hb.size; omega
    have hrc : ∀ j, w9.cell? ⟨w.heap.size, j, none⟩ = (#[Value.int .i64 0, .int .i64 0, .int .i64 0, .int .i64 0, .int .i64 0] : Array Value)[j]? := fun j => by rw [(gcell hb).1 _ _ hrz]; exact HRC.out j
    have hrf : ∀ j, w9.frozen? ⟨w.heap.size, j, none⟩ = false := fun j => by rw [(gcell hb).2 _ _ hrz]; exact HRF.out j
    have c0 := hc 0 (by simp)
    have c1 := hc 1 (by simp)
    have c2 := hc 2 (by simp)
    have c3 := hc 3 (by simp)
    have c4 := hc 4 (by simp)
    have z0 := hrc 0
    have z1 := hrc 1
    have z2 := hrc 2
    have z3 := hrc 3
    have z4 := hrc 4
    have y0 := hrf 0
    have y1 := hrf 1
    have y2 := hrf 2
    have y3 := hrf 3
    have y4 := hrf 4
    have hqr : ¬ q = w.heap.size := by omega
    have hrq : ¬ w.heap.size = q := by omega
    clear hc hf hrc hrf hb HG8 HRC HRF hrz hbz8 k0 k1 k2 k3 k4 k5 r0 r1 r2 r3 r4 r5 n0 n1 n2 n3 n4 n5 m0 hbz
    by_cases hlen : xs.length = 6
    · have Hlen := Lib.hid hlen
      have hle : ¬ 6 < xs.length := by omega
      have hle' : xs.length ≤ 6 := by omega
      clear hlen
      cases hiv : ivB x0 x1 x2 x3 (x4 * 256 + x5)
      · have HI := Lib.hid hiv
        have HQ := Lib.hid (Hno.out (.inr hiv))
        clear hiv
        go_wp2_with (go_at_call 18; refine (ref06_Valid_any _ _ _ _ _ _).mono ?_; rintro e w7 ⟨rfl, hg⟩; rw [HI.out]; have Hg := Lib.hid hg; have hz := hg.size; have hz' : w.heap.size < w7.heap.size := (by omega); obtain ⟨hgc, hgf⟩ := gcell hg; clear hg)
        refine bodyPost_ret (v := .tuple #[.agg #[.int .i64 0, .int .i64 0, .int .i64 0, .int .i64 0, .int .i64 0], .int .i64 5]) (by simp [results, Try.results14, go_sem, *]) rfl (HQ.out _ ?_)
        repeat (first | exact grown_trans HG9.out Hg.out | refine grown_set ?_ (.inr (by dsimp only; omega)) _)
      · have HI := Lib.hid hiv
        have HQ := Lib.hid (Hyes.out Hlen.out hiv)
        clear hiv
        go_wp2_with (go_at_call 18; refine (ref06_Valid_any _ _ _ _ _ _).mono ?_; rintro e w7 ⟨rfl, hg⟩; rw [HI.out]; have Hg := Lib.hid hg; have hz := hg.size; have hz' : w.heap.size < w7.heap.size := (by omega); have hq' : q < w7.heap.size := (by omega); obtain ⟨hgc, hgf⟩ := gcell hg; clear hg)
        refine bodyPost_ret (v := .tuple #[.agg #[.int .i64 x0, .int .i64 x1, .int .i64 x2, .int .i64 x3, .int .i64 (x4 * 256 + x5)], .int .i64 0]) (by simp [results, Try.results14, go_sem, *]) rfl (HQ.out _ ?_)
        repeat (first | exact grown_trans HG9.out Hg.out | refine grown_set ?_ (.inr (by dsimp only; omega)) _)
    · have hle : 6 < xs.length := by omega
      have HQ := Lib.hid (Hno.out (.inl hlen))
      clear hlen
      go_wp2
      refine bodyPost_ret (v := .tuple #[.agg #[.int .i64 0, .int .i64 0, .int .i64 0, .int .i64 0, .int .i64 0], .int .i64 5]) (by simp [results, Try.results14, go_sem, *]) rfl (HQ.out _ ?_)
      repeat (first | exact HG9.out | refine grown_set ?_ (.inr (by dsimp only; omega)) _)

end Go.Proofs.Ytenlhaondbmhnaa
