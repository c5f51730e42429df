/- Plain predicates on memory: rows of cells that are read within a set of blocks; no condition. -/
import Derived.Test.YtndmcnddgcifiaaRows
import Derived.WalkKit
import Derived.WalkSpells
import Derived.WalkLawsBesides
import Derived.Deep.QuietTactic
import Derived.BigQuiet
import Derived.Lib.Hide
import Derived.Handy
import Derived.OpenShut
set_option linter.unusedVariables false
set_option linter.unusedSimpArgs false
namespace Go.Proofs.Ytndmcnddgcifiaa
open Go.RowKit

theorem ret_int {k : IntKind} {a b : Int} (h : a = b) : Ending.returned (.int k a) = .returned (.int k b) := by rw [h]
theorem ret_bool {a b : Bool} (h : a = b) : Ending.returned (.bool a) = .returned (.bool b) := by rw [h]

/-- The cells cs lie one behind the other from A on, in blocks of F. -/
def Row (w : World) (F : Nat → Prop) (A : Option Addr) (cs : List Value) : Prop :=
  ∀ i (_ : i < cs.length), ∃ b off, A = some ⟨b, off, none⟩ ∧ F b ∧ w.cell? ⟨b, off + i, none⟩ = some cs[i]

def Ints (k : IntKind) (w : World) (F : Nat → Prop) (A : Option Addr) (xs : List Int) : Prop := Row w F A (xs.map (.int k))

/-- w' is w in the blocks of F. -/
def Agree (F : Nat → Prop) (w w' : World) : Prop := ∀ k, F k → w'.heap[k]? = w.heap[k]?

theorem Agree.refl (F : Nat → Prop) (w : World) : Agree F w w := fun _ _ => rfl
theorem Agree.trans {F : Nat → Prop} {a b c : World} (h : Agree F a b) (h' : Agree F b c) : Agree F a c := fun k hk => (h' k hk).trans (h k hk)
theorem Agree.sub {F G : Nat → Prop} {a b : World} (h : Agree F a b) (hs : ∀ k, G k → F k) : Agree G a b := fun k hk => h k (hs k hk)
theorem Agree.drewN {F : Nat → Prop} {a b : World} (h : Agree F a b) (n : Nat) : Agree F a (b.drewN n) := h
theorem Agree.drew {F : Nat → Prop} {a b : World} (h : Agree F a b) : Agree F a b.drew := h
theorem Agree.alloc {F : Nat → Prop} {a b : World} (h : Agree F a b) (hF : ∀ k, F k → k < b.heap.size) (o : Obj) : Agree F a (b.alloc o) :=
  fun k hk => (heap_alloc_old b o (hF k hk)).trans (h k hk)
theorem Agree.setCell {F : Nat → Prop} {a b : World} (h : Agree F a b) {p : Addr} (hp : ¬ F p.block) (u : Value) : Agree F a (b.setCell p u) :=
  fun k hk => (Below.heap_setCell b p u k (fun e => hp (e ▸ hk))).trans (h k hk)
theorem Agree.cell {F : Nat → Prop} {a b : World} (h : Agree F a b) {p : Addr} (hp : F p.block) : b.cell? p = a.cell? p := World.cell?_of_block (h p.block hp)
theorem Agree.frozen {F : Nat → Prop} {a b : World} (h : Agree F a b) {p : Addr} (hp : F p.block) : b.frozen? p = a.frozen? p := World.frozen?_of_block (h p.block hp)
theorem Agree.of_grown {F : Nat → Prop} {a b : World} {row : Option Nat} (h : a.grownBy b row) (hF : ∀ k, F k → k < a.heap.size ∧ some k ≠ row) : Agree F a b :=
  fun k hk => h.block k (hF k hk).1 (hF k hk).2

theorem Row.keep {w w' : World} {F : Nat → Prop} {A : Option Addr} {cs : List Value} (h : Row w F A cs) (ha : Agree F w w') : Row w' F A cs := by
  intro i hi
  obtain ⟨b, off, e, hF, hc⟩ := h i hi
  exact ⟨b, off, e, hF, by rw [ha.cell (p := ⟨b, off + i, none⟩) hF]; exact hc⟩
theorem Row.sub {w : World} {F G : Nat → Prop} {A : Option Addr} {cs : List Value} (h : Row w F A cs) (hs : ∀ k, F k → G k) : Row w G A cs := by
  intro i hi
  obtain ⟨b, off, e, hF, hc⟩ := h i hi
  exact ⟨b, off, e, hs _ hF, hc⟩
theorem Row.nil (w : World) (F : Nat → Prop) (A : Option Addr) : Row w F A [] := fun i hi => absurd hi (by simp)

theorem Ints.keep {k : IntKind} {w w' : World} {F : Nat → Prop} {A : Option Addr} {xs : List Int} (h : Ints k w F A xs) (ha : Agree F w w') : Ints k w' F A xs := Row.keep h ha
theorem Ints.at_ {k : IntKind} {w : World} {F : Nat → Prop} {A : Option Addr} {xs : List Int} (h : Ints k w F A xs) {i : Nat} (hi : i < xs.length) :
    ∃ b off, A = some ⟨b, off, none⟩ ∧ F b ∧ w.cell? ⟨b, off + i, none⟩ = some (.int k xs[i]) := by
  obtain ⟨b, off, e, hF, hc⟩ := h i (by simpa using hi)
  exact ⟨b, off, e, hF, by simpa using hc⟩

theorem grown_refl (w : World) (row : Option Nat) : w.grownBy w row := ⟨rfl, rfl, rfl, Nat.le_refl _, fun _ _ _ => rfl⟩
theorem grown_trans {a b c : World} {row : Option Nat} (h : a.grownBy b row) (h' : b.grownBy c row) : a.grownBy c row :=
  ⟨h'.os.trans h.os, h'.tape.trans h.tape, h'.output.trans h.output, Nat.le_trans h.size h'.size, fun k hk hr => (h'.block k (Nat.lt_of_lt_of_le hk h.size) hr).trans (h.block k hk hr)⟩
theorem grown_any {a b : World} {row : Option Nat} (h : a.grownBy b none) : a.grownBy b row := ⟨h.os, h.tape, h.output, h.size, fun k hk _ => h.block k hk (by simp)⟩
theorem grown_drewN {a b : World} {row : Option Nat} (h : a.grownBy b row) (n : Nat) : a.grownBy (b.drewN n) row := ⟨h.os, h.tape, h.output, h.size, h.block⟩
theorem grown_drew {a b : World} {row : Option Nat} (h : a.grownBy b row) : a.grownBy b.drew row := ⟨h.os, h.tape, h.output, h.size, h.block⟩
theorem grown_alloc {a b : World} {row : Option Nat} (h : a.grownBy b row) (o : Obj) : a.grownBy (b.alloc o) row :=
  grown_trans h (World.grownBy_alloc b o row)
theorem grown_set {a b : World} {row : Option Nat} (h : a.grownBy b row) {p : Addr} (hp : some p.block = row ∨ a.heap.size ≤ p.block) (u : Value) : a.grownBy (b.setCell p u) row :=
  ⟨h.os, h.tape, h.output, by simpa [World.setCell] using h.size, fun k hk hr => (Below.heap_setCell b p u k (fun e => by
    rcases hp with hp | hp
    · exact hr (by rw [e, hp])
    · omega)).trans (h.block k hk hr)⟩
theorem grown_below {a b : World} {row : Option Nat} {B : Nat} (h : a.grownBy b row) (hB : B ≤ a.heap.size) (hr : ∀ k, row = some k → B ≤ k) : Below B a b :=
  (Below.refl B a).grown h hB hr

/-- Behind a call that has turned nothing: every old cell and every old mark reads as before. -/
theorem gcell {W w1 : World} (h : W.grownBy w1 none) : (∀ b o, b < W.heap.size → w1.cell? ⟨b, o, none⟩ = W.cell? ⟨b, o, none⟩) ∧ (∀ b o, b < W.heap.size → w1.frozen? ⟨b, o, none⟩ = W.frozen? ⟨b, o, none⟩) :=
  ⟨fun b _ hb => World.cell?_of_block (h.block b hb (by simp)), fun b _ hb => World.frozen?_of_block (h.block b hb (by simp))⟩
theorem gcellx {W w1 : World} {g : Nat} (h : W.grownBy w1 (some g)) : (∀ b o, b < W.heap.size → ¬ b = g → w1.cell? ⟨b, o, none⟩ = W.cell? ⟨b, o, none⟩) ∧ (∀ b o, b < W.heap.size → ¬ b = g → w1.frozen? ⟨b, o, none⟩ = W.frozen? ⟨b, o, none⟩) :=
  ⟨fun b _ hb hg => World.cell?_of_block (h.block b hb (by simp [hg])), fun b _ hb hg => World.frozen?_of_block (h.block b hb (by simp [hg]))⟩
theorem Row.grown {w w' : World} {F : Nat → Prop} {A : Option Addr} {cs : List Value} (h : Row w F A cs) (hg : w.grownBy w' none) (hF : ∀ k, F k → k < w.heap.size) : Row w' F A cs :=
  h.keep fun k hk => hg.block k (hF k hk) (by simp)
theorem Ints.grown {k : IntKind} {w w' : World} {F : Nat → Prop} {A : Option Addr} {xs : List Int} (h : Ints k w F A xs) (hg : w.grownBy w' none) (hF : ∀ k, F k → k < w.heap.size) : Ints k w' F A xs := Row.grown h hg hF
theorem Ints.grownx {k : IntKind} {w w' : World} {F : Nat → Prop} {A : Option Addr} {xs : List Int} {g : Nat} (h : Ints k w F A xs) (hg : w.grownBy w' (some g)) (hF : ∀ k, F k → k < w.heap.size ∧ ¬ k = g) : Ints k w' F A xs :=
  h.keep fun k hk => hg.block k (hF k hk).1 (by simp [(hF k hk).2])

theorem grown_fresh {a b c : World} {g : Nat} (h : a.grownBy b none) (h' : b.grownBy c (some g)) (hg : a.heap.size ≤ g) : a.grownBy c none :=
  ⟨h'.os.trans h.os, h'.tape.trans h.tape, h'.output.trans h.output, Nat.le_trans h.size h'.size, fun k hk hr => (h'.block k (Nat.lt_of_lt_of_le hk h.size) (fun e => by injection e; omega)).trans (h.block k hk hr)⟩
theorem Ints.low {k : IntKind} {w w' : World} {A : Option Addr} {xs : List Int} (h : Ints k w (fun k => k < w.heap.size) A xs) (hg : w.grownBy w' none) : Ints k w' (fun k => k < w'.heap.size) A xs :=
  Row.sub (Row.grown h hg fun _ h => h) fun k hk => Nat.lt_of_lt_of_le hk hg.size

/-- The words of the row's frame, turned into this text's own. -/
theorem row_ints {k : IntKind} {w : World} {a : Option Addr} {len cap : Nat} {zs : List Int}
    (h : (a = none ∧ len = 0 ∧ cap = 0 ∧ zs = []) ∨ ∃ x, a = some x ∧ len ≤ cap ∧ cap ≤ maxLen ∧ zs.length = cap ∧ (∀ i, i < zs.length → w.cell? (x.add i) = some (.int k (zs.getD i 0))) ∧ ∀ n ∈ zs, (Lit.int k n).wf = true) :
    Ints k w (fun k => k < w.heap.size) a (zs.take len) ∧ (zs.take len).length = len ∧ len ≤ cap ∧ cap ≤ 9223372036854775807 ∧ ∀ n ∈ zs.take len, (Lit.int k n).wf = true := by
  rcases h with ⟨rfl, rfl, rfl, rfl⟩ | ⟨x, rfl, hl, hm, hz, hc, hw⟩
  · exact ⟨Row.nil _ _ _, rfl, Nat.le_refl _, by omega, by simp⟩
  · refine ⟨?_, by simp; omega, hl, by simpa [maxLen] using hm, fun n hn => hw n (List.mem_of_mem_take hn)⟩
    intro i hi
    have hi' : i < len ∧ i < zs.length := by simp at hi; omega
    obtain ⟨b, off, rfl, hc'⟩ := ints_at hc (by omega)
    have h0 := hc' i hi'.2
    refine ⟨b, off, rfl, World.block_lt_of_cell? w _ h0, ?_⟩
    rw [h0]
    simp [hi'.2]

/-- The blocks that w' has and w had not. -/
def New (w w' : World) (k : Nat) : Prop := w.heap.size ≤ k ∧ k < w'.heap.size
def I64s (xs : List Int) : Prop := ∀ x ∈ xs, -9223372036854775808 ≤ x ∧ x ≤ 9223372036854775807
/-- A truth value, and nothing that was there has turned. -/
def BoolGrown (b : Bool) (w : World) (e : Ending) (w' : World) : Prop := e = .returned (.bool b) ∧ w.grownBy w' none
def BoolSame (b : Bool) (w : World) (e : Ending) (w' : World) : Prop := e = .returned (.bool b) ∧ w = w'

def IntSame (a : Int) (w : World) (e : Ending) (w' : World) : Prop := e = .returned (.int .i64 a) ∧ w = w'

end Go.Proofs.Ytndmcnddgcifiaa
