/- Rows of numbers that the call itself has made: copies by append, stores into them; no condition. -/
import Derived.Test.YtenlhaondbmhnaaMem
namespace Go.Proofs.Ytenlhaondbmhnaa
open Go.RowKit

/-- Block g is a row of c cells, none frozen, that begins with xs. -/
structure Buf (k : IntKind) (e : TypeId) (w : World) (g c : Nat) (xs : List Int) : Prop where
  len : xs.length ≤ c
  cap : c ≤ maxLen
  eq : ∃ cur : Array Value, w.heap[g]? = some (.cells cur e (0, 0)) ∧ cur.size = c ∧ cur.toList.take xs.length = xs.map (.int k)
theorem Buf.hi {k : IntKind} {e : TypeId} {w : World} {g c : Nat} {xs : List Int} (h : Buf k e w g c xs) : g < w.heap.size := by
  obtain ⟨cur, h1, _⟩ := h.eq
  exact (Array.getElem?_eq_some_iff.1 h1).1
theorem Buf.cell {k : IntKind} {e : TypeId} {w : World} {g c : Nat} {xs : List Int} (h : Buf k e w g c xs) {j : Nat} (hj : j < xs.length) : w.cell? ⟨g, j, none⟩ = some (.int k xs[j]) := by
  obtain ⟨cur, h1, h2, h3⟩ := h.eq
  rw [cell_of_row _ _ _ _ _ _ h1]
  have h4 : (cur.toList.take xs.length)[j]? = some (.int k xs[j]) := by rw [h3]; simp [hj]
  rw [List.getElem?_take, if_pos hj] at h4
  simpa using h4
theorem Buf.free {k : IntKind} {e : TypeId} {w : World} {g c : Nat} {xs : List Int} (h : Buf k e w g c xs) (j : Nat) : w.frozen? ⟨g, j, none⟩ = false := by
  obtain ⟨cur, h1, _⟩ := h.eq
  exact frozen_of_row _ _ _ _ _ h1
theorem Buf.ints {k : IntKind} {e : TypeId} {w : World} {g c : Nat} {xs : List Int} (h : Buf k e w g c xs) : Ints k w (fun b => b = g) (some ⟨g, 0, none⟩) xs := by
  intro i hi
  have hi' : i < xs.length := by simpa using hi
  exact ⟨g, 0, rfl, rfl, by rw [Nat.zero_add, h.cell hi']; simp⟩
theorem Buf.low {k : IntKind} {e : TypeId} {w : World} {g c : Nat} {xs : List Int} (h : Buf k e w g c xs) : Ints k w (fun b => b < w.heap.size) (some ⟨g, 0, none⟩) xs :=
  Row.sub h.ints fun b hb => by rw [hb]; exact h.hi
theorem Buf.keep {k : IntKind} {e : TypeId} {w w' : World} {g c : Nat} {xs : List Int} (h : Buf k e w g c xs) (hh : w'.heap[g]? = w.heap[g]?) : Buf k e w' g c xs := by
  obtain ⟨cur, h1, h2⟩ := h.eq
  exact ⟨h.len, h.cap, cur, by rw [hh]; exact h1, h2⟩
theorem Buf.grow {k : IntKind} {e : TypeId} {w w' : World} {g c : Nat} {xs : List Int} (h : Buf k e w g c xs) (hg : w.grownBy w' none) : Buf k e w' g c xs := h.keep (hg.block _ h.hi (by simp))
theorem Buf.set {k : IntKind} {e : TypeId} {w : World} {g c : Nat} {xs : List Int} (h : Buf k e w g c xs) (j : Nat) (x : Int) (hj : j < xs.length) : Buf k e (w.setCell ⟨g, j, none⟩ (.int k x)) g c (xs.set j x) := by
  obtain ⟨cur, h1, h2, h3⟩ := h.eq
  refine ⟨by simpa using h.len, h.cap, cur.setIfInBounds j (.int k x), ?_, by simpa using h2, ?_⟩
  · exact heap_setCell_same _ _ _ _ _ _ h1
  · rw [List.length_set, List.map_set, ← h3, Array.toList_setIfInBounds]
    apply List.ext_getElem?
    intro i
    simp only [List.getElem?_take, List.getElem?_set]
    have := h.len
    split <;> (try split) <;> simp_all <;> omega
theorem Buf.tail {k : IntKind} {e : TypeId} {w : World} {g c : Nat} {xs : List Int} (h : Buf k e w g c xs) : Ints k w (fun b => b = g) (some ⟨g, 1, none⟩) xs.tail := by
  intro i hi
  have hi' : i + 1 < xs.length := by simp at hi; omega
  exact ⟨g, 1, rfl, rfl, by rw [Nat.add_comm 1 i, h.cell hi']; simp⟩
theorem Buf.own {k : IntKind} {e : TypeId} {w : World} {g c base : Nat} {xs : List Int} (h : Buf k e w g c xs) (hb : base ≤ g) : w.ownsRow base e 1 (.slice (some ⟨g, 0, none⟩) xs.length c) xs.length (xs.map (.int k)) := by
  obtain ⟨cur, h1, h2, h3⟩ := h.eq
  exact ⟨by simp, .inr ⟨g, c, cur, rfl, hb, h1, h.len, h.cap, by simp [h2], by simpa using h3⟩⟩
theorem Buf.of_own {k : IntKind} {e : TypeId} {w : World} {base n : Nat} {v : Value} {xs : List Int} (h : w.ownsRow base e 1 v n (xs.map (.int k))) (hne : xs ≠ []) :
    ∃ g c, n = xs.length ∧ v = .slice (some ⟨g, 0, none⟩) xs.length c ∧ base ≤ g ∧ Buf k e w g c xs := by
  obtain ⟨h0, h1⟩ := h
  have hl : n = xs.length := by simpa using h0.symm
  subst hl
  rcases h1 with ⟨_, h1⟩ | ⟨g, c, cur, rfl, hb, h1, h2, h3, h4, h5⟩
  · exact absurd (List.length_eq_zero_iff.1 h1) hne
  · exact ⟨g, c, rfl, rfl, hb, h2, h3, cur, h1, by simpa using h4, by simpa using h5⟩

theorem Ints.cells {k : IntKind} {w : World} {F : Nat → Prop} {A : Option Addr} {xs : List Int} (h : Ints k w F A xs) (hne : xs ≠ []) :
    ∃ ad, A = some ad ∧ ∀ (j : Nat) u, (xs.map (Value.int k))[j]? = some u → w.cell? (ad.add j) = some u := by
  have hl : 0 < xs.length := List.length_pos_iff.2 hne
  obtain ⟨b, off, rfl, _, _⟩ := h.at_ hl
  refine ⟨_, rfl, fun j u hj => ?_⟩
  have hj' : j < xs.length := by
    rcases Nat.lt_or_ge j xs.length with h' | h'
    · exact h'
    · simp [h'] at hj
  obtain ⟨b', off', e, _, hc⟩ := h.at_ hj'
  injection e with e; injection e with e1 e2; subst e1; subst e2
  rw [show (⟨b, off, none⟩ : Addr).add j = ⟨b, off + j, none⟩ by simp [Addr.add], hc]
  simpa [hj'] using hj

section
variable {P : Program} {ops : Array Oper} {rest : List Oper} {o : Oper} {a : Act} {Q : Exit → Act → World → Prop} {w : World}
/-- append([]T(nil), src...), src not empty. -/
theorem wpList_copied (k : IntKind) (hgd : o.guard = none) (s x : Operand) (t e : TypeId) (ho : o.op = .call { callee := .builtin .append, args := #[s, x], argTypes := #[t, t] })
    (i : TypeInfo) (bytes : Nat) (ht : P.underlying t = some (.slice e)) (hi : P.info? e = some i) (hz : i.zero = some (.int k 0)) (hsize : i.size = 1) (hby : i.bytes = bytes)
    (hs : a.eval s = .slice none 0 0) (A : Option Addr) (xs : List Int) (cp : Nat) (F : Nat → Prop) (hx : a.eval x = .slice A xs.length cp) (hI : Ints k w F A xs) (hne : xs ≠ [])
    (hm : xs.length ≤ maxLen) (hb : xs.length * bytes ≤ 140737488355328)
    (h : ∀ g c w', Buf k e w' g c xs → w.heap.size ≤ g → w.grownBy w' none → wpList P ops Q rest (a.put o.dst (.slice (some ⟨g, 0, none⟩) xs.length c)) w') : wpList P ops Q (o :: rest) a w := by
  obtain ⟨ad, rfl, hc⟩ := hI.cells hne
  refine wpList_append_own w hgd s x t ho w.heap.size e i (.int k 0) 1 bytes ht hi hz hsize hby rfl (by decide) (.slice none 0 0) 0 [] hs ⟨rfl, .inl ⟨rfl, rfl⟩⟩ ad xs.length cp (xs.map (.int k)) hx (by simp) hc (by simp [Value.oneCell']) (by omega) (by simpa using hb) (Nat.le_refl _) ?_
  intro v' w' hown hg _
  simp only [List.nil_append] at hown
  obtain ⟨g, c, _, rfl, hb, hB⟩ := Buf.of_own hown hne
  exact h g c w' hB hb hg
/-- append(row, src...), row the call's own, src not empty. -/
theorem wpList_joined (k : IntKind) (hgd : o.guard = none) (s x : Operand) (t e : TypeId) (ho : o.op = .call { callee := .builtin .append, args := #[s, x], argTypes := #[t, t] })
    (i : TypeInfo) (bytes : Nat) (ht : P.underlying t = some (.slice e)) (hi : P.info? e = some i) (hz : i.zero = some (.int k 0)) (hsize : i.size = 1) (hby : i.bytes = bytes)
    (base g0 c0 : Nat) (zs : List Int) (hs : a.eval s = .slice (some ⟨g0, 0, none⟩) zs.length c0) (hB : Buf k e w g0 c0 zs) (hb0 : base ≤ g0)
    (A : Option Addr) (xs : List Int) (cp : Nat) (F : Nat → Prop) (hx : a.eval x = .slice A xs.length cp) (hI : Ints k w F A xs) (hne : xs ≠ [])
    (hm : zs.length + xs.length ≤ maxLen) (hb : (zs.length + xs.length) * bytes ≤ 140737488355328)
    (h : ∀ g c w', Buf k e w' g c (zs ++ xs) → base ≤ g → w.grownBy w' (some g0) → wpList P ops Q rest (a.put o.dst (.slice (some ⟨g, 0, none⟩) (zs ++ xs).length c)) w') : wpList P ops Q (o :: rest) a w := by
  obtain ⟨ad, rfl, hc⟩ := hI.cells hne
  refine wpList_append_own w hgd s x t ho base e i (.int k 0) 1 bytes ht hi hz hsize hby rfl (by decide) (.slice (some ⟨g0, 0, none⟩) zs.length c0) zs.length (zs.map (.int k)) hs (hB.own hb0) ad xs.length cp (xs.map (.int k)) hx (by simp) hc (by simp [Value.oneCell']) hm hb (by have := hB.hi; omega) ?_
  intro v' w' hown hg _
  rw [← List.map_append] at hown
  obtain ⟨g, c, _, rfl, hb, hB⟩ := Buf.of_own hown (by simp [hne])
  exact h g c w' hB hb hg
end

end Go.Proofs.Ytenlhaondbmhnaa
