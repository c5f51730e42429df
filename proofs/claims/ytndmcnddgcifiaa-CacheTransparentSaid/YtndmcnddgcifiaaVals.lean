/- Rows of cells that the call itself has made, elements of any number of cells: copies, stores; no condition. -/
import Derived.Test.YtndmcnddgcifiaaMem
import Derived.Laws.CopyRow
set_option linter.unusedVariables false
set_option linter.unusedSimpArgs false
namespace Go.Proofs.Ytndmcnddgcifiaa
open Go.RowKit

/-- Block q begins with the cells vs, none frozen; it has n cells in all. -/
structure VBuf (e : TypeId) (w : World) (q n : Nat) (vs : List Value) : Prop where
  eq : ∃ cur : Array Value, w.heap[q]? = some (.cells cur e (0, 0)) ∧ cur.size = n ∧ cur.toList.take vs.length = vs
section
variable {e : TypeId} {w w' : World} {q n : Nat} {vs : List Value}
theorem VBuf.hi (h : VBuf e w q n vs) : q < w.heap.size := by
  obtain ⟨cur, h1, _⟩ := h.eq
  exact (Array.getElem?_eq_some_iff.1 h1).1
theorem VBuf.le (h : VBuf e w q n vs) : vs.length ≤ n := by
  obtain ⟨cur, _, h2, h3⟩ := h.eq
  have := congrArg List.length h3
  simp at this
  omega
theorem VBuf.cell (h : VBuf e w q n vs) {j : Nat} (hj : j < vs.length) : w.cell? ⟨q, j, none⟩ = some vs[j] := by
  obtain ⟨cur, h1, h2, h3⟩ := h.eq
  rw [cell_of_row _ _ _ _ _ _ h1]
  have h4 : (cur.toList.take vs.length)[j]? = some vs[j] := by rw [h3]; simp [hj]
  rw [List.getElem?_take, if_pos hj] at h4
  simpa using h4
theorem VBuf.mid {c1 d : List Value} (h : VBuf e w q n (c1 ++ d)) {j : Nat} {u : Value} (hj : d[j]? = some u) : w.cell? ⟨q, c1.length + j, none⟩ = some u := by
  obtain ⟨hlt, hu⟩ := List.getElem?_eq_some_iff.1 hj
  rw [h.cell (by rw [List.length_append]; omega), List.getElem_append_right (by omega)]
  simp [hu]
theorem VBuf.free (h : VBuf e w q n vs) (j : Nat) : w.frozen? ⟨q, j, none⟩ = false := by
  obtain ⟨cur, h1, _⟩ := h.eq
  exact frozen_of_row _ _ _ _ _ h1
theorem VBuf.keep (h : VBuf e w q n vs) (hh : w'.heap[q]? = w.heap[q]?) : VBuf e w' q n vs := by
  obtain ⟨cur, h1, h2⟩ := h.eq
  exact ⟨cur, by rw [hh]; exact h1, h2⟩
theorem VBuf.grow (h : VBuf e w q n vs) (hg : w.grownBy w' none) : VBuf e w' q n vs := h.keep (hg.block _ h.hi (by simp))
theorem VBuf.other (h : VBuf e w q n vs) {p : Nat} (hne : q ≠ p) (j : Nat) (v : Value) : VBuf e (w.setCell ⟨p, j, none⟩ v) q n vs := h.keep (heap_setCell_other _ _ _ _ hne)
theorem VBuf.set (h : VBuf e w q n vs) {j : Nat} (v : Value) (hj : j < vs.length) : VBuf e (w.setCell ⟨q, j, none⟩ v) q n (vs.set j v) := by
  have hl := h.le
  obtain ⟨cur, h1, h2, h3⟩ := h.eq
  refine ⟨cur.setIfInBounds j v, heap_setCell_same _ _ _ _ _ _ h1, by simpa using h2, ?_⟩
  rw [List.length_set, Array.toList_setIfInBounds]
  conv => rhs; rw [← h3]
  apply List.ext_getElem?
  intro i
  simp only [List.getElem?_take, List.getElem?_set]
  split <;> (try split) <;> simp_all <;> omega
end

/-- A row over which cells were laid. -/
theorem VBuf.laid {e : TypeId} {w : World} {q n : Nat} {vs cs : List Value} {cur : Array Value} {o : Nat} (h1 : w.heap[q]? = some (.cells cur e (0, 0))) (h2 : cur.size = n) (h3 : cur.toList.take vs.length = vs) (hfit : o + cs.length ≤ vs.length) :
    VBuf e (w.setRow q (cur.toList.take o ++ cs ++ cur.toList.drop (o + cs.length)).toArray) q n (vs.take o ++ cs ++ vs.drop (o + cs.length)) := by
  have hsplit : cur.toList = vs ++ cur.toList.drop vs.length := by
    conv => lhs; rw [← List.take_append_drop vs.length cur.toList, h3]
  generalize cur.toList.drop vs.length = r at hsplit
  have hn : n = vs.length + r.length := by
    rw [← h2, ← Array.length_toList, hsplit]; simp
  refine ⟨_, setRow_heap w q cur _ e _ h1, ?_, ?_⟩
  · rw [hsplit]
    simp
    omega
  · have t1 : (vs ++ r).take o = vs.take o := List.take_append_of_le_length (by omega)
    have t2 : (vs ++ r).drop (o + cs.length) = vs.drop (o + cs.length) ++ r := List.drop_append_of_le_length (by omega)
    rw [hsplit, t1, t2, ← List.append_assoc]
    exact List.take_left' rfl
theorem VBuf.own {e : TypeId} {w : World} {g c n k base : Nat} {vs : List Value} (h : VBuf e w g (c * k) vs) (hv : vs.length = n * k) (hn : n ≤ c) (hc : c ≤ maxLen) (hb : base ≤ g) : w.ownsRow base e k (.slice (some ⟨g, 0, none⟩) n c) n vs := by
  obtain ⟨cur, h1, h2, h3⟩ := h.eq
  exact ⟨hv, .inr ⟨g, c, cur, rfl, hb, h1, hn, hc, h2, by rw [← hv]; exact h3⟩⟩
theorem VBuf.of_own {e : TypeId} {w : World} {n k base : Nat} {v : Value} {vs : List Value} (h : w.ownsRow base e k v n vs) (hne : vs ≠ []) :
    ∃ g c, v = .slice (some ⟨g, 0, none⟩) n c ∧ base ≤ g ∧ n ≤ c ∧ c ≤ maxLen ∧ VBuf e w g (c * k) vs := by
  obtain ⟨h0, h1⟩ := h
  rcases h1 with ⟨_, rfl⟩ | ⟨g, c, cur, rfl, hb, h1, h2, h3, h4, h5⟩
  · exact absurd (List.length_eq_zero_iff.1 (by simpa using h0)) hne
  · exact ⟨g, c, rfl, hb, h2, h3, cur, h1, h4, by rw [h0]; exact h5⟩

section
variable {P : Program} {ops : Array Oper} {rest : List Oper} {o : Oper} {a : Act} {Q : Exit → Act → World → Prop} {w : World}
/-- append([]T(nil), src...), src not empty, T of k cells. -/
theorem wpList_vcopied (k : Nat) (hk : 0 < k) (hgd : o.guard = none) (s x : Operand) (t e : TypeId) (ho : o.op = .call { callee := .builtin .append, args := #[s, x], argTypes := #[t, t] })
    (i : TypeInfo) (z : Value) (bytes : Nat) (ht : P.underlying t = some (.slice e)) (hi : P.info? e = some i) (hz : i.zero = some z) (hsize : i.size = k) (hby : i.bytes = bytes) (hzs : z.cells.size = k)
    (hs : a.eval s = .slice none 0 0) (ad : Addr) (m cp : Nat) (vs : List Value) (hx : a.eval x = .slice (some ad) m cp) (hl : vs.length = m * k) (hc : ∀ j u, vs[j]? = some u → w.cell? (ad.add j) = some u) (h1 : ∀ u ∈ vs, u.oneCell' = true) (hne : vs ≠ [])
    (hm : m ≤ maxLen) (hb : m * bytes ≤ 140737488355328)
    (h : ∀ g c w', m ≤ c → c ≤ maxLen → VBuf e w' g (c * k) vs → w.heap.size ≤ g → w.grownBy w' none → wpList P ops Q rest (a.put o.dst (.slice (some ⟨g, 0, none⟩) m c)) w') : wpList P ops Q (o :: rest) a w := by
  refine wpList_append_own w hgd s x t ho w.heap.size e i z k bytes ht hi hz hsize hby hzs hk (.slice none 0 0) 0 [] hs ⟨by simp, .inl ⟨rfl, rfl⟩⟩ ad m cp vs hx hl hc h1 (by omega) (by simpa using hb) (Nat.le_refl _) ?_
  intro v' w' hown hg _
  simp only [List.nil_append, Nat.zero_add] at hown
  obtain ⟨g, c, rfl, hb, hn, hcm, hB⟩ := VBuf.of_own hown hne
  exact h g c w' hn hcm hB hb hg
/-- append(row, src...), row nil or the call's own, src not empty, T of k cells. -/
theorem wpList_vjoined (k : Nat) (hk : 0 < k) (hgd : o.guard = none) (s x : Operand) (t e : TypeId) (ho : o.op = .call { callee := .builtin .append, args := #[s, x], argTypes := #[t, t] })
    (i : TypeInfo) (z : Value) (bytes : Nat) (ht : P.underlying t = some (.slice e)) (hi : P.info? e = some i) (hz : i.zero = some z) (hsize : i.size = k) (hby : i.bytes = bytes) (hzs : z.cells.size = k)
    (base : Nat) (v : Value) (n : Nat) (us : List Value) (hs : a.eval s = v) (hown : w.ownsRow base e k v n us) (hbase : base ≤ w.heap.size)
    (ad : Addr) (m cp : Nat) (vs : List Value) (hx : a.eval x = .slice (some ad) m cp) (hl : vs.length = m * k) (hc : ∀ j u, vs[j]? = some u → w.cell? (ad.add j) = some u) (h1 : ∀ u ∈ vs, u.oneCell' = true) (hne : vs ≠ [])
    (hm : n + m ≤ maxLen) (hb : (n + m) * bytes ≤ 140737488355328)
    (h : ∀ g c w', n + m ≤ c → c ≤ maxLen → VBuf e w' g (c * k) (us ++ vs) → base ≤ g → w.grownBy w' v.ownBlock → wpList P ops Q rest (a.put o.dst (.slice (some ⟨g, 0, none⟩) (n + m) c)) w') : wpList P ops Q (o :: rest) a w := by
  refine wpList_append_own w hgd s x t ho base e i z k bytes ht hi hz hsize hby hzs hk v n us hs hown ad m cp vs hx hl hc h1 hm hb hbase ?_
  intro v' w' hown hg _
  obtain ⟨g, c, rfl, hb, hn, hcm, hB⟩ := VBuf.of_own hown (by simp [hne])
  exact h g c w' hn hcm hB hb hg
end

section
variable {P : Program}
theorem run_copy_cells (k : Nat) (w : World) (dT sT ty elem : TypeId) (g o dLen dCap : Nat) (a : Addr) (sLen sCap : Nat) (cur : Array Value) (t : TypeId) (cs : List Value)
    (hu : P.underlying dT = some (.slice elem)) (hs : (P.info? elem).map (·.size) = some k)
    (hg : w.heap[g]? = some (.cells cur t (0, 0))) (hn : cs.length = Nat.min sLen dLen * k)
    (hsrc : ∀ j v, cs[j]? = some v → w.cell? (a.add j) = some v) (hfit : o + cs.length ≤ cur.size) (h1 : ∀ v ∈ cs, v.oneCell' = true) :
    (Builtin.copy_ #[dT, sT] ty #[.slice (some ⟨g, o, none⟩) dLen dCap, .slice (some a) sLen sCap]).run P w =
      .ok (goInt (Nat.min sLen dLen)) (w.setRow g (cur.toList.take o ++ cs ++ cur.toList.drop (o + cs.length)).toArray) := by
  have hl := run_loadCells_list (P := P) w a cs hsrc
  have hst := run_storeCells_at P g o t cs 0 cur w hg (by simpa using hfit) h1
  cases hq : P.info? elem with
  | none => simp [hq] at hs
  | some i =>
    have hi : i.size = k := by simpa [hq] using hs
    simp [Builtin.copy_, run_underlying hu, Builtin.lenOf, Builtin.firstCells, sizeOf, typeInfo, hq, hi, ← hn, hl, hst]
end

end Go.Proofs.Ytndmcnddgcifiaa
