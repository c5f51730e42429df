/- For every list of numbers, every number and every cell the law CacheSteps returns true and changes nothing; no condition. -/
import Derived.Test.YtndmcnddgcifiaaRows
import Derived.WalkKit
import Derived.ProofKit
import Derived.OpenShut
import Derived.ShutString
import Derived.ChangeOld
import Derived.Below
import Derived.Test.YtndmcnddgcifiaaSteps
set_option linter.unusedVariables false
set_option linter.unusedSimpArgs false
namespace Go.Proofs.Ytndmcnddgcifiaa.cacheSteps
open Go.ChangeShapes Go.WideShapes Go.ChangeAt Go.RowKit
set_option linter.unusedVariables false

theorem own : ownKnob Try.prog.godebug = none := by kernel_rfl
theorem laidOut : laidOutB Try.prog = true := by kernel_rfl
theorem cells8 : Try.prog.cellsOf 5 = 1 := by kernel_rfl
theorem cells16 : Try.prog.cellsOf 28 = 1 := by kernel_rfl
theorem cellsL : Try.prog.cellsOf 30 = 2 := by kernel_rfl
theorem two_of {cs : Array Value} (h : cs.size = 2) : ∃ a b, cs = #[a, b] := by
  refine ⟨cs[0], cs[1], ?_⟩
  apply Array.ext
  · simpa using h
  · intro i h1 h2
    have : i = 0 ∨ i = 1 := by omega
    rcases this with rfl | rfl <;> rfl
theorem two_list {α : Type} {xs : List α} (h : xs.length = 2) : ∃ a b, xs = [a, b] := by
  match xs, h with
  | [a, b], _ => exact ⟨_, _, rfl⟩
theorem open_cell {H : Type} {enc : TypeId × Value → H} {w : World} {base : Nat} {spare : Nat → Bool} {held : Bool} {fuel : Nat} {c0 c1 : Value} {x : DataW H × List MemPlace}
    (h : DataW.trod enc Try.prog w base spare held fuel 30 [c0, c1] = some x) :
    ∃ a b : Int, c0 = .int .u8 a ∧ c1 = .int .u16 b ∧ (Lit.int .u8 a).wf = true ∧ (Lit.int .u16 b).wf = true := by
  obtain ⟨xs, n, _, _, _, hlen, hall⟩ := DataW.trod_struct Try.underlying30 h
  obtain ⟨x0, x1, rfl⟩ := two_list (show xs.length = 2 from hlen)
  have g0 : DataW.trod enc Try.prog w base spare held n 5 (([c0, c1].drop 0).take (Try.prog.cellsOf 5)) = some x0 := hall 0 _ rfl
  have g1 : DataW.trod enc Try.prog w base spare held n 28 (([c0, c1].drop 1).take (Try.prog.cellsOf 28)) = some x1 := hall 1 _ rfl
  obtain ⟨z0, e0, r0⟩ := DataW.trod_int Try.underlying5 g0
  obtain ⟨z1, e1, r1⟩ := DataW.trod_int Try.underlying28 g1
  rw [cells8] at e0
  rw [cells16] at e1
  simp at e0 e1
  exact ⟨z0, z1, e0, e1, r0.2, r1.2⟩

/-- A slice of integers that came in. -/
def IsRow (k : IntKind) (w : World) (a : Option Addr) (len cap : Nat) (zs : List Int) : Prop :=
  (a = none ∧ len = 0 ∧ cap = 0 ∧ zs = []) ∨
  ∃ x, a = some x ∧ len ≤ cap ∧ cap ≤ maxLen ∧ zs.length = cap ∧ (∀ i, i < zs.length → w.cell? (x.add i) = some (.int k (zs.getD i 0))) ∧ ∀ n ∈ zs, (Lit.int k n).wf = true

theorem walk (a1 : Option Addr) (len1 cap1 : Nat) (z1 : List Int) (x2 a b : Int) (w : World)
    (w1 : IsRow .i64 w a1 len1 cap1 z1) (w2 : (Lit.int .i64 x2).wf = true) (hx : CelWf (a, b)) :
    Calls Try.prog 6 #[.slice a1 len1 cap1, .int .i64 x2, .agg #[.int .u8 a, .int .u16 b]] w fun e w' => e = .returned (.bool true) ∧ Below w.heap.size w w' := by
  obtain ⟨hI1, hl1, hlc1, hc1, hwf1⟩ := row_ints w1
  have b2 := bounds_i64 w2
  have h := lawSteps_any a1 (z1.take len1) cap1 x2 (a, b) w (by omega) (fun x hx => bounds_i64 (hwf1 x hx)) b2.1 b2.2 hx hI1
  rw [hl1] at h
  exact h.mono fun e w' ⟨he, hg⟩ => ⟨he, grown_below hg (Nat.le_refl _) (by simp)⟩

set_option maxRecDepth 100000 in
theorem lifted (os : Os) (started : os.Started) (H : Type) (enc : TypeId × Value → H) :
    ReturnsInHanded {} Try.checked os 6 .any (Rows.cacheStepsSpec.pre6 enc Try.prog Try.f6 Rows.cacheStepsRow.domain false) (Rows.cacheStepsSpec.post enc Try.prog Try.f6 false true false false) := by
  refine returnsInHanded_of_change (C := Try.checked) own started (by kernel_rfl) Try.func6
    (ChangeSpec.witness6 (enc := enc) (C := Try.checked) false ⟨#[], #[.slice none 0 0, .int .i64 0, .agg #[.int .u8 0, .int .u16 0]], []⟩ 8 (by kernel_rfl) (by kernel_rfl) (by kernel_rfl) (by kernel_rfl)) ?_
  intro W base args ds gs before hval0 hW hcnd _
  have hval : ∀ (j : Nat) t v, Try.f6.params[j]? = some t → args[j]? = some v → Value.okWide Try.prog W .any base t v := hval0
  have hW' := hW
  obtain ⟨p, q, hA0, hV, rfl, hfz, hnd⟩ := hW
  have hA : DataW.TrodAll enc Try.prog W 0 (fun _ => true) true Try.f6.params.toList args.toList ds p := hA0
  rw [Try.params6] at hA hval
  obtain ⟨v0, vs0, d0, ds0, p0, q0, hargs, rfl, rfl, h0, r0⟩ := trodAll_cons hA
  obtain ⟨v1, vs1, d1, ds1, p1, q1, rfl, rfl, rfl, h1, r1⟩ := trodAll_cons r0
  obtain ⟨v2, vs2, d2, ds2, p2, q2, rfl, rfl, rfl, h2, r2⟩ := trodAll_cons r1
  obtain ⟨rfl, rfl, rfl⟩ := trodAll_nil r2
  obtain rfl : args = #[v0, v1, v2] := by cases args; simp_all
  obtain ⟨rfl, rfl⟩ := trodVars_none hV
  obtain ⟨cs, rfl, hsz⟩ := okWide_struct Try.underlying30 (hval 2 30 v2 rfl rfl)
  rw [cellsL] at hsz
  obtain ⟨c0, c1, hcs0⟩ := two_of hsz
  subst hcs0
  have k2 := h2
  have lt2 : ∀ x ∈ p2, x.block < W.heap.size := by obtain ⟨m, hm⟩ := k2; exact DataW.trod_lt m _ _ _ hm
  obtain ⟨a, b, hc0, hc1, hw0, hw1⟩ : ∃ a b : Int, c0 = .int .u8 a ∧ c1 = .int .u16 b ∧ (Lit.int .u8 a).wf = true ∧ (Lit.int .u16 b).wf = true := by
    obtain ⟨fuel, hf⟩ := h2
    exact open_cell hf
  subst hc0 hc1
  obtain ⟨a1, len1, cap1, rfl⟩ := okWide_slice Try.underlying22 (hval 0 22 v0 rfl rfl)
  have k1 := h0
  have lt1 : ∀ x ∈ p0, x.block < W.heap.size := by obtain ⟨m, hm⟩ := k1; exact DataW.trod_lt m _ _ _ hm
  obtain ⟨z1, w1⟩ : ∃ zs, IsRow .i64 W a1 len1 cap1 zs := by
    obtain ⟨fuel, hf⟩ := h0
    rcases open_ints Try.underlying22 Try.underlying3 (by kernel_rfl) hf with ⟨hcs, _⟩ | ⟨x, l, c, zs, hcs, _, hl, hm, hz, _, hcell, hwz⟩
    · simp [Value.cells] at hcs
      obtain ⟨rfl, rfl, rfl⟩ := hcs
      exact ⟨[], .inl ⟨rfl, rfl, rfl, rfl⟩⟩
    · simp [Value.cells] at hcs
      obtain ⟨rfl, rfl, rfl⟩ := hcs
      exact ⟨zs, .inr ⟨_, rfl, hl, hm, by simpa using hz, hcell, hwz⟩⟩
  obtain ⟨x2, rfl, rfl, rfl, w2⟩ := open_int Try.underlying3 (hval 1 3 v1 rfl rfl) h1
  clear hA0 hval0
  refine (walk a1 len1 cap1 z1 x2 a b W w1 w2 ⟨hw0, hw1⟩).mono fun e W' ⟨he, bel⟩ => ?_
  subst he
  exact ⟨_, rfl, _, _, _, [], _, [], hW', trodAll_mk1 (shut_bool Try.underlying4 _), (trodAll_cons_mk (Below.trod laidOut (by kernel_rfl) (of_decide_eq_true (by kernel_rfl)) k1 bel lt1) (trodAll_cons_mk (shut_int Try.underlying3 w2) (trodAll_cons_mk (Below.trod laidOut (by kernel_rfl) (of_decide_eq_true (by kernel_rfl)) k2 bel lt2) trodAll_mk0))), rfl, bel.frame _, fun h => by cases h⟩

theorem over : Rows.cacheStepsRow.holds Try.pinned (OpenSpec.ofChange Rows.cacheStepsSpec) :=
  OpenClaim.holds_of_wide 6 Try.f6 rfl rfl rfl rfl rfl rfl rfl ⟨rfl, rfl, rfl, rfl, rfl⟩ rfl rfl rfl rfl rfl (by kernel_rfl) Try.func6 (by kernel_rfl)
    (of_decide_eq_true (by kernel_rfl)) (by unfold Func.isWrapper; first | (rw [if_pos (by decide +kernel)]; kernel_rfl) | (rw [if_neg (by decide +kernel)]; exact ⟨rfl, rfl⟩))
    (fun os started H enc _ => lifted os started H enc)

end Go.Proofs.Ytndmcnddgcifiaa.cacheSteps
namespace Go.Proofs.Ytndmcnddgcifiaa
theorem cacheSteps_holds : Rows.CacheStepsSaid := cacheSteps.over
#print axioms cacheSteps_holds
end Go.Proofs.Ytndmcnddgcifiaa
