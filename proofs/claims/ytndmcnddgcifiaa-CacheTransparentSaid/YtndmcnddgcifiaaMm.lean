/- A memory with lines in front of it, in plain Lean: reading, writing, looking; no condition. -/
import Derived.Test.YtndmcnddgcifiaaMem
set_option linter.unusedVariables false
set_option linter.unusedSimpArgs false
namespace Go.Proofs.Ytndmcnddgcifiaa

abbrev Cel := Int × Int
structure Ln where
  tag : Int
  dirty : Bool
  cells : List Cel
structure Mm where
  cells : List Cel
  lines : List Ln
def noLn : Ln := ⟨-1, false, []⟩
def lnAt (m : Mm) (i : Nat) : Ln := m.lines.getD i noLn
def putAt (cs : List Cel) (o : Nat) (xs : List Cel) : List Cel := cs.take o ++ xs ++ cs.drop (o + xs.length)
def backC (cs : List Cel) (x : Ln) : List Cel := if x.dirty = true then putAt cs (4 * x.tag.toNat) x.cells else cs
def fetchM (m : Mm) (a : Nat) : Mm :=
  if (lnAt m (a / 4 % 4)).tag = (a / 4 : Nat) then m
  else ⟨backC m.cells (lnAt m (a / 4 % 4)), m.lines.set (a / 4 % 4) ⟨(a / 4 : Nat), false, ((backC m.cells (lnAt m (a / 4 % 4))).drop (4 * (a / 4))).take 4⟩⟩
def loadM (m : Mm) (a : Nat) : Cel := (lnAt (fetchM m a) (a / 4 % 4)).cells.getD (a % 4) (0, 0)
def storeM (m : Mm) (a : Nat) (c : Cel) : Mm :=
  ⟨(fetchM m a).cells, (fetchM m a).lines.set (a / 4 % 4) ⟨(a / 4 : Nat), true, (lnAt (fetchM m a) (a / 4 % 4)).cells.set (a % 4) c⟩⟩
def seeM (m : Mm) (a : Nat) : Cel := if (lnAt m (a / 4 % 4)).tag = (a / 4 : Nat) then (lnAt m (a / 4 % 4)).cells.getD (a % 4) (0, 0) else m.cells.getD a (0, 0)

/-- Line i of a memory is empty, or holds a line of its place. -/
def LnOk (i : Nat) (x : Ln) : Prop := (x.tag = -1 ∧ x.dirty = false ∧ x.cells = []) ∨ (∃ t : Nat, x.tag = t ∧ t < 128 ∧ t % 4 = i ∧ x.cells.length = 4)
structure MmOk (m : Mm) : Prop where
  cells : m.cells.length = 512
  lines : m.lines.length = 4
  each : ∀ i, i < 4 → LnOk i (lnAt m i)
/-- .. and what is not dirty is as in memory. -/
def Clean (m : Mm) : Prop := ∀ i, i < 4 → ∀ t : Nat, (lnAt m i).tag = t → (lnAt m i).dirty = false → (lnAt m i).cells = (m.cells.drop (4 * t)).take 4

theorem putAt_len {cs xs : List Cel} {o : Nat} (h : o + xs.length ≤ cs.length) : (putAt cs o xs).length = cs.length := by
  simp [putAt]; omega
theorem putAt_in {cs xs : List Cel} {o j : Nat} (h : o + xs.length ≤ cs.length) (hj : j < xs.length) (d : Cel) : (putAt cs o xs).getD (o + j) d = xs.getD j d := by
  simp only [putAt, List.getD_eq_getElem?_getD]
  rw [List.append_assoc, List.getElem?_append_right (by simp; omega), List.getElem?_append_left (by simp; omega)]
  congr 2
  simp; omega
theorem putAt_out {cs xs : List Cel} {o k : Nat} (h : o + xs.length ≤ cs.length) (hk : k < o ∨ o + xs.length ≤ k) (d : Cel) : (putAt cs o xs).getD k d = cs.getD k d := by
  simp only [putAt, List.getD_eq_getElem?_getD]
  rcases hk with hk | hk
  · rw [List.append_assoc, List.getElem?_append_left (by simp; omega), List.getElem?_take, if_pos hk]
  · rw [List.getElem?_append_right (by simp; omega), List.getElem?_drop]
    congr 2
    simp; omega
theorem take4 {cs : List Cel} {n j : Nat} (hj : j < 4) (d : Cel) : ((cs.drop (4 * n)).take 4).getD j d = cs.getD (4 * n + j) d := by
  simp [List.getD_eq_getElem?_getD, List.getElem?_take, hj]
theorem lnAt_set {cs : List Cel} {ls : List Ln} {i k : Nat} {x : Ln} (hi : i < ls.length) : lnAt ⟨cs, ls.set i x⟩ k = if k = i then x else ls.getD k noLn := by
  unfold lnAt
  simp only [List.getD_eq_getElem?_getD, List.getElem?_set]
  by_cases h : k = i
  · subst h; simp [hi]
  · simp [h, Ne.symm h]
theorem backC_len {m : Mm} (h : MmOk m) {i : Nat} (hi : i < 4) : (backC m.cells (lnAt m i)).length = 512 := by
  unfold backC
  split
  · rename_i hd
    rcases h.each i hi with ⟨_, h2, _⟩ | ⟨t, h1, h2, h3, h4⟩
    · rw [h2] at hd; cases hd
    · rw [putAt_len]; exact h.cells
      rw [h4, h.cells, h1]; simp; omega
  · exact h.cells
/-- Writing a line back turns its own addresses alone. -/
theorem backC_out {m : Mm} (h : MmOk m) {i k : Nat} (hi : i < 4) (hk : (lnAt m i).tag ≠ (k / 4 : Nat)) : (backC m.cells (lnAt m i)).getD k (0, 0) = m.cells.getD k (0, 0) := by
  unfold backC
  split
  · rename_i hd
    rcases h.each i hi with ⟨_, h2, _⟩ | ⟨t, h1, h2, h3, h4⟩
    · rw [h2] at hd; cases hd
    · rw [h1] at hk ⊢
      refine putAt_out (by rw [h4, h.cells]; simp; omega) ?_ _
      rw [h4]
      simp only [Int.toNat_natCast]
      omega
  · rfl
theorem backC_in {m : Mm} (h : MmOk m) (hc : Clean m) {i k : Nat} (hi : i < 4) (hk : (lnAt m i).tag = (k / 4 : Nat)) : (backC m.cells (lnAt m i)).getD k (0, 0) = (lnAt m i).cells.getD (k % 4) (0, 0) := by
  unfold backC
  rcases h.each i hi with ⟨h1, _, _⟩ | ⟨t, h1, h2, h3, h4⟩
  · rw [h1] at hk; omega
  · have ht : t = k / 4 := by omega
    split
    · rw [h1]
      have := putAt_in (cs := m.cells) (xs := (lnAt m i).cells) (o := 4 * t) (j := k % 4) (by rw [h4, h.cells]; omega) (by omega) (0, 0)
      rw [← this]
      simp only [Int.toNat_natCast]
      congr 1
      omega
    · rename_i hd
      rw [hc i hi t h1 (by simpa using hd), take4 (by omega)]
      congr 1
      omega
theorem see_fetch {m : Mm} (h : MmOk m) (hc : Clean m) {a k : Nat} : seeM (fetchM m a) k = seeM m k := by
  unfold fetchM
  split
  · rfl
  · rename_i hne
    have hi : a / 4 % 4 < 4 := Nat.mod_lt _ (by omega)
    have hki : k / 4 % 4 < 4 := Nat.mod_lt _ (by omega)
    unfold seeM
    rw [lnAt_set (by rw [h.lines]; exact hi)]
    by_cases e : k / 4 % 4 = a / 4 % 4
    · rw [if_pos e]
      by_cases e2 : k / 4 = a / 4
      · rw [if_pos (by simp [e2])]
        simp only
        rw [if_neg (by rw [e, e2]; exact hne), take4 (Nat.mod_lt _ (by omega)), show 4 * (a / 4) + k % 4 = k by omega]
        exact backC_out h hi (by rw [e2]; exact hne)
      · rw [if_neg (by simp; omega)]
        simp only
        rw [e]
        by_cases e3 : (lnAt m (a / 4 % 4)).tag = (k / 4 : Nat)
        · rw [if_pos e3, backC_in h hc hi e3]
        · rw [if_neg e3, backC_out h hi e3]
    · rw [if_neg e]
      have e0 : m.lines.getD (k / 4 % 4) noLn = lnAt m (k / 4 % 4) := rfl
      rw [e0]
      by_cases e3 : (lnAt m (k / 4 % 4)).tag = (k / 4 : Nat)
      · rw [if_pos e3, if_pos e3]
      · rw [if_neg e3, if_neg e3]
        refine backC_out h hi fun e4 => ?_
        rcases h.each _ hi with ⟨h1, _, _⟩ | ⟨t, h1, h2, h3, h4⟩
        · rw [h1] at e4; omega
        · rw [h1] at e4
          have : t = k / 4 := by omega
          omega

theorem fetch_at {m : Mm} (h : MmOk m) (a : Nat) : (lnAt (fetchM m a) (a / 4 % 4)).tag = (a / 4 : Nat) := by
  unfold fetchM
  have hi : a / 4 % 4 < 4 := Nat.mod_lt _ (by omega)
  split
  · assumption
  · rw [lnAt_set (by rw [h.lines]; exact hi), if_pos rfl]
theorem fetch_other {m : Mm} (h : MmOk m) {a i : Nat} (hi : i ≠ a / 4 % 4) : lnAt (fetchM m a) i = lnAt m i := by
  unfold fetchM
  have hi' : a / 4 % 4 < 4 := Nat.mod_lt _ (by omega)
  split
  · rfl
  · rw [lnAt_set (by rw [h.lines]; exact hi'), if_neg hi]; rfl
theorem fetch_cells_len {m : Mm} (h : MmOk m) (a : Nat) : (fetchM m a).cells.length = 512 := by
  unfold fetchM
  split
  · exact h.cells
  · exact backC_len h (Nat.mod_lt _ (by omega))
theorem fetch_lines_len {m : Mm} (h : MmOk m) (a : Nat) : (fetchM m a).lines.length = 4 := by
  unfold fetchM
  split
  · exact h.lines
  · simp [h.lines]
theorem ok_fetch {m : Mm} (h : MmOk m) {a : Nat} (ha : a < 512) : MmOk (fetchM m a) := by
  refine ⟨fetch_cells_len h a, fetch_lines_len h a, fun i hi => ?_⟩
  by_cases e : i = a / 4 % 4
  · subst e
    by_cases ht : (lnAt m (a / 4 % 4)).tag = (a / 4 : Nat)
    · unfold fetchM
      rw [if_pos ht]
      exact h.each _ hi
    · unfold fetchM
      rw [if_neg ht, lnAt_set (by rw [h.lines]; exact hi), if_pos rfl]
      exact .inr ⟨a / 4, rfl, by omega, rfl, by simp [backC_len h hi]; omega⟩
  · rw [fetch_other h e]; exact h.each i hi
theorem part_eq {cs ds : List Cel} {o : Nat} (hc : o + 4 ≤ cs.length) (hd : o + 4 ≤ ds.length) (h : ∀ j, j < 4 → cs.getD (o + j) (0, 0) = ds.getD (o + j) (0, 0)) : (cs.drop o).take 4 = (ds.drop o).take 4 := by
  apply List.ext_getElem
  · simp; omega
  · intro j h1 h2
    have hj : j < 4 := by simp at h1; omega
    have := h j hj
    rw [List.getD_eq_getElem?_getD, List.getD_eq_getElem?_getD, List.getElem?_eq_getElem (by omega), List.getElem?_eq_getElem (by omega)] at this
    simpa using this
theorem clean_fetch {m : Mm} (h : MmOk m) (hc : Clean m) {a : Nat} (ha : a < 512) : Clean (fetchM m a) := by
  intro i hi t ht hd
  by_cases hn : (lnAt m (a / 4 % 4)).tag = (a / 4 : Nat)
  · unfold fetchM at ht hd ⊢
    rw [if_pos hn] at ht hd ⊢
    exact hc i hi t ht hd
  · have hi' : a / 4 % 4 < 4 := Nat.mod_lt _ (by omega)
    by_cases e : i = a / 4 % 4
    · subst e
      have h1 := fetch_at h a
      rw [h1] at ht
      have : t = a / 4 := by omega
      subst this
      unfold fetchM
      rw [if_neg hn, lnAt_set (by rw [h.lines]; exact hi'), if_pos rfl]
    · rw [fetch_other h e] at ht hd ⊢
      rw [hc i hi t ht hd]
      have hcs : (fetchM m a).cells = backC m.cells (lnAt m (a / 4 % 4)) := by unfold fetchM; rw [if_neg hn]
      rw [hcs]
      rcases h.each i hi with ⟨h1, _, _⟩ | ⟨t', h1, h2, h3, h4⟩
      · rw [h1] at ht; omega
      · have : t' = t := by rw [h1] at ht; omega
        subst this
        refine part_eq (by rw [h.cells]; omega) (by rw [backC_len h hi']; omega) fun j hj => ?_
        refine (backC_out h hi' fun e4 => ?_).symm
        rcases h.each _ hi' with ⟨g1, _, _⟩ | ⟨u, g1, g2, g3, g4⟩
        · rw [g1] at e4; omega
        · rw [g1] at e4
          omega
theorem load_see {m : Mm} (h : MmOk m) (hc : Clean m) (a : Nat) : loadM m a = seeM m a := by
  rw [← see_fetch h hc (a := a)]
  unfold loadM seeM
  rw [if_pos (fetch_at h a)]
theorem see_store {m : Mm} (h : MmOk m) (hc : Clean m) {a k : Nat} (ha : a < 512) (c : Cel) : seeM (storeM m a c) k = if k = a then c else seeM m k := by
  have h1 := ok_fetch h ha
  have hi : a / 4 % 4 < 4 := Nat.mod_lt _ (by omega)
  rw [← see_fetch h hc (a := a) (k := k)]
  have hlen : (lnAt (fetchM m a) (a / 4 % 4)).cells.length = 4 := by
    rcases h1.each _ hi with ⟨g1, _, _⟩ | ⟨u, _, _, _, g4⟩
    · rw [fetch_at h a] at g1; omega
    · exact g4
  by_cases e3 : k = a
  · subst e3
    rw [if_pos rfl]
    unfold storeM seeM
    rw [lnAt_set (by rw [h1.lines]; exact hi), if_pos rfl, if_pos rfl]
    simp [List.getD_eq_getElem?_getD, hlen, Nat.mod_lt]
  · rw [if_neg e3]
    unfold storeM seeM
    rw [lnAt_set (by rw [h1.lines]; exact hi)]
    by_cases e : k / 4 % 4 = a / 4 % 4
    · rw [if_pos e, e, fetch_at h a]
      by_cases e2 : k / 4 = a / 4
      · rw [if_pos (by rw [e2]), if_pos (by rw [e2])]
        simp only [List.getD_eq_getElem?_getD]
        rw [List.getElem?_set_ne (by omega)]
      · rw [if_neg (show ¬ (((a / 4 : Nat) : Int) = ((k / 4 : Nat) : Int)) by omega), if_neg (show ¬ (((a / 4 : Nat) : Int) = ((k / 4 : Nat) : Int)) by omega)]
    · rw [if_neg e]
      rfl
theorem ok_store {m : Mm} (h : MmOk m) {a : Nat} (ha : a < 512) (c : Cel) : MmOk (storeM m a c) := by
  have h1 := ok_fetch h ha
  have hi : a / 4 % 4 < 4 := Nat.mod_lt _ (by omega)
  refine ⟨h1.cells, by simp [storeM, h1.lines], fun i hi4 => ?_⟩
  unfold storeM
  rw [lnAt_set (by rw [h1.lines]; exact hi)]
  by_cases e : i = a / 4 % 4
  · rw [if_pos e]
    subst e
    have hlen : (lnAt (fetchM m a) (a / 4 % 4)).cells.length = 4 := by
      rcases h1.each _ hi with ⟨g1, _, _⟩ | ⟨u, _, _, _, g4⟩
      · rw [fetch_at h a] at g1; omega
      · exact g4
    exact .inr ⟨a / 4, rfl, by omega, rfl, by simpa using hlen⟩
  · rw [if_neg e]
    exact h1.each i hi4
theorem clean_store {m : Mm} (h : MmOk m) (hc : Clean m) {a : Nat} (ha : a < 512) (c : Cel) : Clean (storeM m a c) := by
  have h1 := ok_fetch h ha
  have hi : a / 4 % 4 < 4 := Nat.mod_lt _ (by omega)
  intro i hi4 t ht hd
  unfold storeM at ht hd ⊢
  rw [lnAt_set (by rw [h1.lines]; exact hi)] at ht hd ⊢
  by_cases e : i = a / 4 % 4
  · rw [if_pos e] at hd
    cases hd
  · rw [if_neg e] at ht hd ⊢
    exact clean_fetch h hc ha i hi4 t ht hd

def flushM (m : Mm) : Mm := ⟨m.lines.foldl backC m.cells, List.replicate 4 noLn⟩
def dropM (m : Mm) : Mm := ⟨m.cells, List.replicate 4 noLn⟩
def LnOk' (x : Ln) : Prop := ∃ i, i < 4 ∧ LnOk i x
theorem backL_len {cs : List Cel} {x : Ln} (hc : cs.length = 512) (hx : LnOk' x) : (backC cs x).length = 512 := by
  obtain ⟨i, _, hx⟩ := hx
  unfold backC
  split
  · rename_i hd
    rcases hx with ⟨_, h2, _⟩ | ⟨t, h1, h2, h3, h4⟩
    · rw [h2] at hd; cases hd
    · rw [putAt_len]; exact hc
      rw [h4, hc, h1]; simp; omega
  · exact hc
theorem backL_out {cs : List Cel} {x : Ln} {k : Nat} (hc : cs.length = 512) (hx : LnOk' x) (hk : x.tag ≠ (k / 4 : Nat) ∨ x.dirty = false) : (backC cs x).getD k (0, 0) = cs.getD k (0, 0) := by
  obtain ⟨i, _, hx⟩ := hx
  unfold backC
  split
  · rename_i hd
    rcases hx with ⟨_, h2, _⟩ | ⟨t, h1, h2, h3, h4⟩
    · rw [h2] at hd; cases hd
    · rcases hk with hk | hk
      · rw [h1] at hk ⊢
        refine putAt_out (by rw [h4, hc]; simp; omega) ?_ _
        rw [h4]
        simp only [Int.toNat_natCast]
        omega
      · rw [hk] at hd; cases hd
  · rfl
theorem backL_in {cs : List Cel} {x : Ln} {k : Nat} (hc : cs.length = 512) (hx : LnOk' x) (hk : x.tag = (k / 4 : Nat)) (hd : x.dirty = true) : (backC cs x).getD k (0, 0) = x.cells.getD (k % 4) (0, 0) := by
  obtain ⟨i, _, hx⟩ := hx
  unfold backC
  rw [if_pos hd]
  rcases hx with ⟨_, h2, _⟩ | ⟨t, h1, h2, h3, h4⟩
  · rw [h2] at hd; cases hd
  · have ht : t = k / 4 := by omega
    rw [h1]
    have := putAt_in (cs := cs) (xs := x.cells) (o := 4 * t) (j := k % 4) (by rw [h4, hc]; omega) (by omega) (0, 0)
    rw [← this]
    simp only [Int.toNat_natCast]
    congr 1
    omega
theorem fold_len : ∀ {ls : List Ln} {cs : List Cel}, cs.length = 512 → (∀ x ∈ ls, LnOk' x) → (ls.foldl backC cs).length = 512
  | [], _, hc, _ => hc
  | x :: r, _, hc, h => fold_len (ls := r) (backL_len hc (h x (List.mem_cons_self ..))) fun y hy => h y (List.mem_cons_of_mem _ hy)
theorem fold_out {k : Nat} : ∀ {ls : List Ln} {cs : List Cel}, cs.length = 512 → (∀ x ∈ ls, LnOk' x ∧ (x.tag ≠ (k / 4 : Nat) ∨ x.dirty = false)) → (ls.foldl backC cs).getD k (0, 0) = cs.getD k (0, 0)
  | [], _, _, _ => rfl
  | x :: r, cs, hc, h => by
    have hx := h x (List.mem_cons_self ..)
    rw [List.foldl_cons, fold_out (ls := r) (backL_len hc hx.1) fun y hy => h y (List.mem_cons_of_mem _ hy)]
    exact backL_out hc hx.1 hx.2
theorem fold_in {k : Nat} {x : Ln} : ∀ {ls : List Ln} {cs : List Cel}, cs.length = 512 → (∀ y ∈ ls, LnOk' y) → x ∈ ls → x.tag = (k / 4 : Nat) → x.dirty = true → (∀ y ∈ ls, y.tag = (k / 4 : Nat) → y = x) → (ls.foldl backC cs).getD k (0, 0) = x.cells.getD (k % 4) (0, 0)
  | [], _, _, _, hx, _, _, _ => absurd hx (by simp)
  | y :: r, cs, hc, h, hx, ht, hd, hu => by
    rw [List.foldl_cons]
    by_cases hr : x ∈ r
    · exact fold_in (ls := r) (backL_len hc (h y (List.mem_cons_self ..))) (fun z hz => h z (List.mem_cons_of_mem _ hz)) hr ht hd fun z hz => hu z (List.mem_cons_of_mem _ hz)
    · have e : y = x := by
        rcases List.mem_cons.1 hx with e | e
        · exact e.symm
        · exact absurd e hr
      subst e
      rw [fold_out (ls := r) (backL_len hc (h y (List.mem_cons_self ..))) fun z hz => ⟨h z (List.mem_cons_of_mem _ hz), .inl fun e => hr (by rw [← hu z (List.mem_cons_of_mem _ hz) e]; exact hz)⟩]
      exact backL_in hc (h y (List.mem_cons_self ..)) ht hd
theorem mem_lines {m : Mm} (h : MmOk m) {x : Ln} (hx : x ∈ m.lines) : ∃ i, i < 4 ∧ x = lnAt m i := by
  obtain ⟨i, hi, rfl⟩ := List.getElem_of_mem hx
  exact ⟨i, by rw [← h.lines]; exact hi, by simp [lnAt, List.getD_eq_getElem?_getD, hi]⟩
theorem lines_ok {m : Mm} (h : MmOk m) : ∀ x ∈ m.lines, LnOk' x := fun x hx => by
  obtain ⟨i, hi, rfl⟩ := mem_lines h hx
  exact ⟨i, hi, h.each i hi⟩
theorem line_of_tag {m : Mm} (h : MmOk m) {i t : Nat} (hi : i < 4) (ht : (lnAt m i).tag = t) : i = t % 4 := by
  rcases h.each i hi with ⟨h1, _, _⟩ | ⟨u, h1, _, h3, _⟩
  · rw [h1] at ht; omega
  · rw [h1] at ht; omega
theorem see_none (cs : List Cel) (k : Nat) : seeM ⟨cs, List.replicate 4 noLn⟩ k = cs.getD k (0, 0) := by
  have e : lnAt ⟨cs, List.replicate 4 noLn⟩ (k / 4 % 4) = noLn := by
    unfold lnAt
    simp only [List.getD_eq_getElem?_getD, List.getElem?_replicate]
    split <;> rfl
  unfold seeM
  rw [e, if_neg (by show ¬ (-1 : Int) = _; omega)]
theorem flush_at {m : Mm} (h : MmOk m) (k : Nat) : (flushM m).cells.getD k (0, 0) = if (lnAt m (k / 4 % 4)).tag = (k / 4 : Nat) ∧ (lnAt m (k / 4 % 4)).dirty = true then (lnAt m (k / 4 % 4)).cells.getD (k % 4) (0, 0) else m.cells.getD k (0, 0) := by
  have hi : k / 4 % 4 < 4 := Nat.mod_lt _ (by omega)
  have hmem : lnAt m (k / 4 % 4) ∈ m.lines := by
    unfold lnAt
    rw [List.getD_eq_getElem?_getD, List.getElem?_eq_getElem (by rw [h.lines]; exact hi)]
    exact List.getElem_mem _
  split
  · rename_i hb
    refine fold_in h.cells (lines_ok h) hmem hb.1 hb.2 fun y hy ht => ?_
    obtain ⟨i, hi', rfl⟩ := mem_lines h hy
    rw [line_of_tag h hi' ht]
  · rename_i hb
    refine fold_out h.cells fun y hy => ⟨lines_ok h y hy, ?_⟩
    obtain ⟨i, hi', rfl⟩ := mem_lines h hy
    by_cases ht : (lnAt m i).tag = (k / 4 : Nat)
    · right
      have e := line_of_tag h hi' ht
      subst e
      cases hd : (lnAt m (k / 4 % 4)).dirty
      · rfl
      · exact absurd ⟨ht, hd⟩ hb
    · exact .inl ht
theorem see_flush {m : Mm} (h : MmOk m) (hc : Clean m) (k : Nat) : seeM (flushM m) k = seeM m k := by
  have hi : k / 4 % 4 < 4 := Nat.mod_lt _ (by omega)
  have e1 : seeM (flushM m) k = (flushM m).cells.getD k (0, 0) := see_none _ k
  rw [e1, flush_at h]
  unfold seeM
  by_cases ht : (lnAt m (k / 4 % 4)).tag = (k / 4 : Nat)
  · rw [if_pos ht]
    cases hd : (lnAt m (k / 4 % 4)).dirty
    · rw [if_neg (by simp), hc _ hi _ ht hd, take4 (Nat.mod_lt _ (by omega)), show 4 * (k / 4) + k % 4 = k by omega]
    · rw [if_pos ⟨ht, rfl⟩]
  · rw [if_neg ht, if_neg (fun hb => ht hb.1)]
theorem ok_none {cs : List Cel} (h : cs.length = 512) : MmOk ⟨cs, List.replicate 4 noLn⟩ ∧ Clean ⟨cs, List.replicate 4 noLn⟩ := by
  have e : ∀ i, lnAt ⟨cs, List.replicate 4 noLn⟩ i = noLn := fun i => by
    unfold lnAt
    simp only [List.getD_eq_getElem?_getD, List.getElem?_replicate]
    split <;> rfl
  exact ⟨⟨h, by simp, fun i _ => by rw [e]; exact .inl ⟨rfl, rfl, rfl⟩⟩, fun i _ t ht _ => by rw [e] at ht; exact absurd ht (by show ¬ (-1 : Int) = _; omega)⟩
theorem ok_flush {m : Mm} (h : MmOk m) : MmOk (flushM m) ∧ Clean (flushM m) := ok_none (fold_len h.cells (lines_ok h))

theorem fetch_miss {m : Mm} {a : Nat} (h : ¬ (lnAt m (a / 4 % 4)).tag = (a / 4 : Nat)) :
    fetchM m a = ⟨backC m.cells (lnAt m (a / 4 % 4)), m.lines.set (a / 4 % 4) ⟨(a / 4 : Nat), false, ((backC m.cells (lnAt m (a / 4 % 4))).drop (4 * (a / 4))).take 4⟩⟩ := by
  unfold fetchM
  rw [if_neg h]
/-- A word of memory changed behind the lines. -/
theorem hides {m : Mm} (h : MmOk m) (hc : Clean m) {a : Nat} (ha : a < 512) (bad : Cel) (ht : (lnAt m (a / 4 % 4)).tag = (a / 4 : Nat)) (hb : bad ≠ m.cells.getD a (0, 0)) :
    MmOk ⟨m.cells.set a bad, m.lines⟩ ∧ seeM ⟨m.cells.set a bad, m.lines⟩ a = seeM m a ∧ (seeM (flushM ⟨m.cells.set a bad, m.lines⟩) a = seeM m a ↔ (lnAt m (a / 4 % 4)).dirty = true) ∧
      seeM (dropM ⟨m.cells.set a bad, m.lines⟩) a = bad := by
  have hi : a / 4 % 4 < 4 := Nat.mod_lt _ (by omega)
  have hl : a < m.cells.length := by rw [h.cells]; exact ha
  have hx : MmOk ⟨m.cells.set a bad, m.lines⟩ := ⟨by simp [h.cells], h.lines, h.each⟩
  have hset : (m.cells.set a bad).getD a (0, 0) = bad := by simp [List.getD_eq_getElem?_getD, hl]
  have hs : seeM m a = (lnAt m (a / 4 % 4)).cells.getD (a % 4) (0, 0) := by unfold seeM; rw [if_pos ht]
  refine ⟨hx, ?_, ?_, ?_⟩
  · rw [hs]; unfold seeM; exact if_pos ht
  · have e1 : seeM (flushM ⟨m.cells.set a bad, m.lines⟩) a = (flushM ⟨m.cells.set a bad, m.lines⟩).cells.getD a (0, 0) := see_none _ a
    rw [e1, flush_at hx, hs]
    have e2 : lnAt ⟨m.cells.set a bad, m.lines⟩ (a / 4 % 4) = lnAt m (a / 4 % 4) := rfl
    rw [e2]
    cases hd : (lnAt m (a / 4 % 4)).dirty
    · rw [if_neg (by simp), hset]
      simp only [Bool.false_eq_true, iff_false]
      intro e
      rw [hc _ hi _ ht hd, take4 (Nat.mod_lt _ (by omega)), show 4 * (a / 4) + a % 4 = a by omega] at e
      exact hb e
    · rw [if_pos ⟨ht, rfl⟩]
      simp
  · exact (see_none _ a).trans hset

/-- A word of a line changed, the line put away and fetched again. -/
theorem forgets {m : Mm} (h : MmOk m) (hc : Clean m) {a : Nat} (ha : a < 496) (bad : Cel) (ht : (lnAt m (a / 4 % 4)).tag = (a / 4 : Nat)) (hb : bad ≠ (lnAt m (a / 4 % 4)).cells.getD (a % 4) (0, 0)) (x : Mm)
    (hx : x = ⟨m.cells, m.lines.set (a / 4 % 4) ⟨(a / 4 : Nat), (lnAt m (a / 4 % 4)).dirty, (lnAt m (a / 4 % 4)).cells.set (a % 4) bad⟩⟩) :
    MmOk x ∧ (loadM (fetchM x (a + 16)) a = bad ↔ (lnAt m (a / 4 % 4)).dirty = true) ∧ ((fetchM (fetchM x (a + 16)) a).cells.getD a (0, 0) = bad ↔ (lnAt m (a / 4 % 4)).dirty = true) := by
  have hi : a / 4 % 4 < 4 := Nat.mod_lt _ (by omega)
  have hlen : (lnAt m (a / 4 % 4)).cells.length = 4 := by
    rcases h.each _ hi with ⟨g1, _, _⟩ | ⟨u, _, _, _, g4⟩
    · rw [ht] at g1; omega
    · exact g4
  have hxl : lnAt x (a / 4 % 4) = ⟨(a / 4 : Nat), (lnAt m (a / 4 % 4)).dirty, (lnAt m (a / 4 % 4)).cells.set (a % 4) bad⟩ := by
    rw [hx, lnAt_set (by rw [h.lines]; exact hi), if_pos rfl]
  have hok : MmOk x := by
    refine ⟨by rw [hx]; exact h.cells, by rw [hx]; simp [h.lines], fun i hi4 => ?_⟩
    by_cases e : i = a / 4 % 4
    · subst e; rw [hxl]; exact .inr ⟨a / 4, rfl, by omega, rfl, by simpa using hlen⟩
    · rw [hx, lnAt_set (by rw [h.lines]; exact hi), if_neg e]; exact h.each i hi4
  have h16 : (a + 16) / 4 = a / 4 + 4 := by omega
  have h16m : (a + 16) / 4 % 4 = a / 4 % 4 := by omega
  have hne : ¬ (lnAt x (a / 4 % 4)).tag = ((a / 4 + 4 : Nat) : Int) := by rw [hxl]; simp only; omega
  have hy : fetchM x (a + 16) = ⟨backC x.cells (lnAt x (a / 4 % 4)), x.lines.set (a / 4 % 4) ⟨((a + 16) / 4 : Nat), false, ((backC x.cells (lnAt x (a / 4 % 4))).drop (4 * ((a + 16) / 4))).take 4⟩⟩ := by
    unfold fetchM
    rw [h16m, if_neg (by rw [h16]; exact hne)]
  have hyl : lnAt (fetchM x (a + 16)) (a / 4 % 4) = ⟨((a + 16) / 4 : Nat), false, ((backC x.cells (lnAt x (a / 4 % 4))).drop (4 * ((a + 16) / 4))).take 4⟩ := by
    rw [hy, lnAt_set (by rw [hok.lines]; exact hi), if_pos rfl]
  have hz : fetchM (fetchM x (a + 16)) a = ⟨(fetchM x (a + 16)).cells, (fetchM x (a + 16)).lines.set (a / 4 % 4) ⟨(a / 4 : Nat), false, ((fetchM x (a + 16)).cells.drop (4 * (a / 4))).take 4⟩⟩ := by
    have hb0 : backC (fetchM x (a + 16)).cells (lnAt (fetchM x (a + 16)) (a / 4 % 4)) = (fetchM x (a + 16)).cells := by rw [hyl]; rfl
    rw [fetch_miss (m := fetchM x (a + 16)) (a := a) (by rw [hyl]; simp only; omega), hb0]
  have hcell : (fetchM x (a + 16)).cells.getD a (0, 0) = bad ↔ (lnAt m (a / 4 % 4)).dirty = true := by
    rw [hy]
    show (backC x.cells (lnAt x (a / 4 % 4))).getD a (0, 0) = bad ↔ _
    cases hd : (lnAt m (a / 4 % 4)).dirty
    · rw [backL_out hok.cells ⟨_, hi, hok.each _ hi⟩ (.inr (by rw [hxl]; exact hd))]
      have e : x.cells.getD a (0, 0) = (lnAt m (a / 4 % 4)).cells.getD (a % 4) (0, 0) := by
        rw [hx, hc _ hi _ ht hd, take4 (Nat.mod_lt _ (by omega)), show 4 * (a / 4) + a % 4 = a by omega]
      rw [e]
      simp only [Bool.false_eq_true, iff_false]
      exact fun e => hb e.symm
    · rw [backL_in hok.cells ⟨_, hi, hok.each _ hi⟩ (by rw [hxl]) (by rw [hxl]; exact hd), hxl]
      simp [List.getD_eq_getElem?_getD, hlen, Nat.mod_lt]
  have hlz : (fetchM x (a + 16)).lines.length = 4 := fetch_lines_len hok _
  refine ⟨hok, ?_, ?_⟩
  · have e : loadM (fetchM x (a + 16)) a = (fetchM x (a + 16)).cells.getD a (0, 0) := by
      unfold loadM
      rw [hz, lnAt_set (by rw [hlz]; exact hi), if_pos rfl]
      simp only
      rw [take4 (Nat.mod_lt _ (by omega)), show 4 * (a / 4) + a % 4 = a by omega]
    rw [e]; exact hcell
  · rw [hz]; exact hcell

end Go.Proofs.Ytndmcnddgcifiaa
