/- Memories whose cells are valid; no condition. -/
import Derived.Test.YtndmcnddgcifiaaMm
set_option linter.unusedVariables false
set_option linter.unusedSimpArgs false
namespace Go.Proofs.Ytndmcnddgcifiaa

def CelV (c : Cel) : Prop := c.1 ≤ 2
structure MmV (m : Mm) : Prop where
  cells : ∀ c ∈ m.cells, CelV c
  lines : ∀ i, i < 4 → ∀ c ∈ (lnAt m i).cells, CelV c
theorem putAt_v {cs xs : List Cel} {o : Nat} (h : ∀ c ∈ cs, CelV c) (hx : ∀ c ∈ xs, CelV c) : ∀ c ∈ putAt cs o xs, CelV c := by
  intro c hc
  simp only [putAt, List.mem_append] at hc
  rcases hc with (hc | hc) | hc
  · exact h c (List.mem_of_mem_take hc)
  · exact hx c hc
  · exact h c (List.mem_of_mem_drop hc)
theorem backC_v {cs : List Cel} {x : Ln} (h : ∀ c ∈ cs, CelV c) (hx : ∀ c ∈ x.cells, CelV c) : ∀ c ∈ backC cs x, CelV c := by
  unfold backC
  split
  · exact putAt_v h hx
  · exact h
theorem v_fetch {m : Mm} (hok : MmOk m) (h : MmV m) (a : Nat) : MmV (fetchM m a) := by
  have hi : a / 4 % 4 < 4 := Nat.mod_lt _ (by omega)
  unfold fetchM
  split
  · exact h
  · have hb := backC_v h.cells (h.lines _ hi)
    refine ⟨hb, fun i hi4 c hc => ?_⟩
    rw [lnAt_set (by rw [hok.lines]; exact hi)] at hc
    split at hc
    · exact hb c (List.mem_of_mem_drop (List.mem_of_mem_take hc))
    · exact h.lines i hi4 c hc
theorem v_store {m : Mm} (hok : MmOk m) (h : MmV m) (a : Nat) {v : Cel} (hv : CelV v) : MmV (storeM m a v) := by
  have hi : a / 4 % 4 < 4 := Nat.mod_lt _ (by omega)
  have hf := v_fetch hok h a
  refine ⟨hf.cells, fun i hi4 c hc => ?_⟩
  unfold storeM at hc
  rw [lnAt_set (by rw [fetch_lines_len hok]; exact hi)] at hc
  split at hc
  · rcases List.mem_or_eq_of_mem_set hc with hc | rfl
    · exact hf.lines _ hi c hc
    · exact hv
  · exact hf.lines i hi4 c hc
theorem v_load {m : Mm} (hok : MmOk m) (h : MmV m) {a : Nat} (ha : a < 512) : CelV (loadM m a) := by
  have hi : a / 4 % 4 < 4 := Nat.mod_lt _ (by omega)
  unfold loadM
  rw [List.getD_eq_getElem?_getD]
  cases hg : (lnAt (fetchM m a) (a / 4 % 4)).cells[a % 4]? with
  | none => show (0 : Int) ≤ 2; omega
  | some c => exact (v_fetch hok h a).lines _ hi c (List.mem_of_getElem? hg)
def pokeM' (m : Mm) (a : Nat) (x : Cel) : Mm := ⟨m.cells.set a x, m.lines⟩
theorem ok_poke {m : Mm} (h : MmOk m) (a : Nat) (x : Cel) : MmOk (pokeM' m a x) := ⟨by simp [pokeM', h.cells], h.lines, fun i hi => h.each i hi⟩
theorem v_poke {m : Mm} (h : MmV m) (a : Nat) {x : Cel} (hx : CelV x) : MmV (pokeM' m a x) :=
  ⟨fun c hc => by
    rcases List.mem_or_eq_of_mem_set hc with hc | rfl
    · exact h.cells c hc
    · exact hx, h.lines⟩
theorem ok_empty (cs : List Cel) (hc : cs.length = 512) : MmOk ⟨cs, List.replicate 4 noLn⟩ := by
  refine ⟨hc, by simp, fun i hi => .inl ?_⟩
  have : i = 0 ∨ i = 1 ∨ i = 2 ∨ i = 3 := by omega
  rcases this with rfl | rfl | rfl | rfl <;> exact ⟨rfl, rfl, rfl⟩
theorem ln_empty (cs : List Cel) {i : Nat} (hi : i < 4) : lnAt ⟨cs, List.replicate 4 noLn⟩ i = noLn := by
  have : i = 0 ∨ i = 1 ∨ i = 2 ∨ i = 3 := by omega
  rcases this with rfl | rfl | rfl | rfl <;> rfl
theorem clean_empty (cs : List Cel) : Clean ⟨cs, List.replicate 4 noLn⟩ := fun i hi t ht => by
  rw [ln_empty cs hi] at ht
  have : (-1 : Int) = (t : Int) := ht
  omega
theorem v_empty (cs : List Cel) (h : ∀ c ∈ cs, CelV c) : MmV ⟨cs, List.replicate 4 noLn⟩ := ⟨h, fun i hi c hc => by rw [ln_empty cs hi] at hc; simp [noLn] at hc⟩
theorem flush_v {m : Mm} (hok : MmOk m) (h : MmV m) : ∀ c ∈ (flushM m).cells, CelV c := by
  have hl : ∀ x ∈ m.lines, ∀ c ∈ x.cells, CelV c := fun x hx c hc => by
    obtain ⟨i, hi, rfl⟩ := List.getElem_of_mem hx
    have h4 := hok.lines
    have : lnAt m i = m.lines[i] := by unfold lnAt; simp [List.getD_eq_getElem?_getD, hi]
    exact h.lines i (by omega) c (by rw [this]; exact hc)
  have key : ∀ (ls : List Ln) (cs : List Cel), (∀ c ∈ cs, CelV c) → (∀ x ∈ ls, ∀ c ∈ x.cells, CelV c) → ∀ c ∈ ls.foldl backC cs, CelV c := by
    intro ls
    induction ls with
    | nil => intro cs h1 _; exact h1
    | cons x r ih => intro cs h1 h2; exact ih _ (backC_v h1 (h2 x (by simp))) fun y hy => h2 y (by simp [hy])
  exact key _ _ h.cells hl
end Go.Proofs.Ytndmcnddgcifiaa
