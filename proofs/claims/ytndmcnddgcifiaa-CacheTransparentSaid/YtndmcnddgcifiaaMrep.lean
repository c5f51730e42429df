/- How a memory with lines lies in memory: as it is read, and as the call that has made it owns it; no condition. -/
import Derived.Test.YtndmcnddgcifiaaMm
import Derived.Test.YtndmcnddgcifiaaVals
set_option linter.unusedVariables false
set_option linter.unusedSimpArgs false
namespace Go.Proofs.Ytndmcnddgcifiaa
open Go.RowKit

def celV (c : Cel) : List Value := [.int .u8 c.1, .int .u16 c.2]
def celsV (cs : List Cel) : List Value := cs.flatMap celV
theorem celsV_len (cs : List Cel) : (celsV cs).length = cs.length * 2 := by
  induction cs with
  | nil => rfl
  | cons c r ih => simp [celsV, celV] at ih ⊢; omega
theorem celsV_at : ∀ {cs : List Cel} {i : Nat} (_ : i < cs.length), (celsV cs)[i * 2]? = some (.int .u8 (cs.getD i (0, 0)).1) ∧ (celsV cs)[i * 2 + 1]? = some (.int .u16 (cs.getD i (0, 0)).2)
  | c :: r, 0, _ => by simp [celsV, celV]
  | c :: r, i + 1, h => by
    have := celsV_at (cs := r) (i := i) (by simpa using h)
    rw [show (i + 1) * 2 = i * 2 + 1 + 1 by omega]
    simpa [celsV, celV] using this
theorem celsV_one (cs : List Cel) : ∀ u ∈ celsV cs, u.oneCell' = true := by
  intro u hu
  simp only [celsV, List.mem_flatMap] at hu
  obtain ⟨c, _, hc⟩ := hu
  simp only [celV, List.mem_cons, List.not_mem_nil, or_false] at hc
  rcases hc with rfl | rfl <;> rfl
theorem celsV_append (a b : List Cel) : celsV (a ++ b) = celsV a ++ celsV b := by simp [celsV]
theorem celsV_drop : ∀ (cs : List Cel) (n : Nat), celsV (cs.drop n) = (celsV cs).drop (n * 2)
  | [], n => by simp [celsV]
  | c :: r, 0 => by simp
  | c :: r, n + 1 => by
    have := celsV_drop r n
    rw [show (n + 1) * 2 = n * 2 + 1 + 1 by omega]
    simpa [celsV, celV] using this
theorem celsV_take : ∀ (cs : List Cel) (n : Nat), celsV (cs.take n) = (celsV cs).take (n * 2)
  | [], n => by simp [celsV]
  | c :: r, 0 => by simp [celsV]
  | c :: r, n + 1 => by
    have := celsV_take r n
    rw [show (n + 1) * 2 = n * 2 + 1 + 1 by omega]
    simpa [celsV, celV] using this
theorem celsV_put (cs xs : List Cel) (o : Nat) : celsV (putAt cs o xs) = (celsV cs).take (o * 2) ++ celsV xs ++ (celsV cs).drop (o * 2 + (celsV xs).length) := by
  unfold putAt
  rw [celsV_append, celsV_append, celsV_take, celsV_drop, celsV_len]
  congr 2
  omega

theorem celsV_set : ∀ (cs : List Cel) (k : Nat) (c : Cel), celsV (cs.set k c) = ((celsV cs).set (k * 2) (.int .u8 c.1)).set (k * 2 + 1) (.int .u16 c.2)
  | [], k, c => by simp [celsV]
  | x :: r, 0, c => by simp [celsV, celV]
  | x :: r, k + 1, c => by
    have := celsV_set r k c
    rw [show (k + 1) * 2 = k * 2 + 1 + 1 by omega]
    simpa [celsV, celV] using this

/-- A slice of cells that can be read in blocks of F. -/
def RCells (w : World) (F : Nat → Prop) (v : Value) (cs : List Cel) : Prop := ∃ A c, v = .slice A cs.length c ∧ cs.length ≤ c ∧ Row w F A (celsV cs)
theorem RCells.keep {w w' : World} {F : Nat → Prop} {v : Value} {cs : List Cel} (h : RCells w F v cs) (ha : Agree F w w') : RCells w' F v cs :=
  let ⟨A, c, e, hc, hr⟩ := h; ⟨A, c, e, hc, hr.keep ha⟩
theorem RCells.sub {w : World} {F G : Nat → Prop} {v : Value} {cs : List Cel} (h : RCells w F v cs) (hs : ∀ k, F k → G k) : RCells w G v cs :=
  let ⟨A, c, e, hc, hr⟩ := h; ⟨A, c, e, hc, hr.sub hs⟩

def lnV (x : Ln) (s : Value) : List Value := [.int .i64 x.tag, .bool x.dirty, s]
/-- A memory that can be read in blocks of F. -/
structure RMem (w : World) (F : Nat → Prop) (v : Value) (m : Mm) : Prop where
  ok : ∃ cv A c ss, v = .agg #[cv, .slice A 4 c] ∧ 4 ≤ c ∧ RCells w F cv m.cells ∧ List.length ss = 4 ∧
    (∀ i, i < 4 → ∀ j u, (lnV (lnAt m i) (ss.getD i undef))[j]? = some u → ∃ b o, A = some ⟨b, o, none⟩ ∧ F b ∧ w.cell? ⟨b, o + (i * 3 + j), none⟩ = some u) ∧
    ∀ i, i < 4 → RCells w F (ss.getD i undef) (lnAt m i).cells
theorem RMem.keep {w w' : World} {F : Nat → Prop} {v : Value} {m : Mm} (h : RMem w F v m) (ha : Agree F w w') : RMem w' F v m := by
  obtain ⟨cv, A, c, ss, e, hc, h1, h2, h3, h4⟩ := h.ok
  refine ⟨cv, A, c, ss, e, hc, h1.keep ha, h2, fun i hi j u hu => ?_, fun i hi => (h4 i hi).keep ha⟩
  obtain ⟨b, o, e', hF, hcell⟩ := h3 i hi j u hu
  exact ⟨b, o, e', hF, by rw [ha.cell (p := ⟨b, o + (i * 3 + j), none⟩) hF]; exact hcell⟩
theorem RMem.grown {w w' : World} {v : Value} {m : Mm} (h : RMem w (fun k => k < w.heap.size) v m) (hg : w.grownBy w' none) : RMem w' (fun k => k < w'.heap.size) v m := by
  have h1 := h.keep (w' := w') fun k hk => hg.block k hk (by simp)
  obtain ⟨cv, A, c, ss, e, hc, h1, h2, h3, h4⟩ := h1.ok
  have hs : ∀ k, k < w.heap.size → k < w'.heap.size := fun k hk => Nat.lt_of_lt_of_le hk hg.size
  refine ⟨cv, A, c, ss, e, hc, h1.sub hs, h2, fun i hi j u hu => ?_, fun i hi => (h4 i hi).sub hs⟩
  obtain ⟨b, o, e', hF, hcell⟩ := h3 i hi j u hu
  exact ⟨b, o, e', hs _ hF, hcell⟩

end Go.Proofs.Ytndmcnddgcifiaa
