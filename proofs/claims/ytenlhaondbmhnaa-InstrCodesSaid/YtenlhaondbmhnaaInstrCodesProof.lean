/- For every instruction, every list of numbers and three numbers the law InstrCodes returns true and changes nothing; no condition. -/
import Derived.Test.YtenlhaondbmhnaaRows
import Derived.WalkKit
import Derived.ProofKit
import Derived.OpenShut
import Derived.ShutString
import Derived.ChangeOld
import Derived.Below
import Derived.Test.YtenlhaondbmhnaaInsK
namespace Go.Proofs.Ytenlhaondbmhnaa.instrCodes
open Go.ChangeShapes Go.WideShapes Go.ChangeAt Go.RowKit
set_option linter.unusedVariables false

theorem own : ownKnob Try.prog.godebug = none := by kernel_rfl
theorem laidOut : laidOutB Try.prog = true := by kernel_rfl
theorem cellsI : Try.prog.cellsOf 3 = 1 := by kernel_rfl
theorem cellsL : Try.prog.cellsOf 29 = 5 := by kernel_rfl
theorem five_of {cs : Array Value} (h : cs.size = 5) : ∃ a b c d e, cs = #[a, b, c, d, e] := by
  refine ⟨cs[0], cs[1], cs[2], cs[3], cs[4], ?_⟩
  apply Array.ext
  · simpa using h
  · intro i h1 h2
    have : i = 0 ∨ i = 1 ∨ i = 2 ∨ i = 3 ∨ i = 4 := by omega
    rcases this with rfl | rfl | rfl | rfl | rfl <;> rfl
theorem five_list {α : Type} {xs : List α} (h : xs.length = 5) : ∃ a b c d e, xs = [a, b, c, d, e] := by
  match xs, h with
  | [a, b, c, d, e], _ => exact ⟨_, _, _, _, _, rfl⟩
theorem open_instr {H : Type} {enc : TypeId × Value → H} {w : World} {base : Nat} {spare : Nat → Bool} {held : Bool} {fuel : Nat} {c0 c1 c2 c3 c4 : Value} {x : DataW H × List MemPlace}
    (h : DataW.trod enc Try.prog w base spare held fuel 29 [c0, c1, c2, c3, c4] = some x) :
    ∃ o a b c i : Int, c0 = .int .i64 o ∧ c1 = .int .i64 a ∧ c2 = .int .i64 b ∧ c3 = .int .i64 c ∧ c4 = .int .i64 i := by
  obtain ⟨xs, n, _, _, _, hlen, hall⟩ := DataW.trod_struct Try.underlying29 h
  obtain ⟨x0, x1, x2, x3, x4, rfl⟩ := five_list (show xs.length = 5 from hlen)
  have g0 : DataW.trod enc Try.prog w base spare held n 3 (([c0, c1, c2, c3, c4].drop 0).take (Try.prog.cellsOf 3)) = some x0 := hall 0 _ rfl
  have g1 : DataW.trod enc Try.prog w base spare held n 3 (([c0, c1, c2, c3, c4].drop 1).take (Try.prog.cellsOf 3)) = some x1 := hall 1 _ rfl
  have g2 : DataW.trod enc Try.prog w base spare held n 3 (([c0, c1, c2, c3, c4].drop 2).take (Try.prog.cellsOf 3)) = some x2 := hall 2 _ rfl
  have g3 : DataW.trod enc Try.prog w base spare held n 3 (([c0, c1, c2, c3, c4].drop 3).take (Try.prog.cellsOf 3)) = some x3 := hall 3 _ rfl
  have g4 : DataW.trod enc Try.prog w base spare held n 3 (([c0, c1, c2, c3, c4].drop 4).take (Try.prog.cellsOf 3)) = some x4 := hall 4 _ rfl
  obtain ⟨z0, e0, _⟩ := DataW.trod_int Try.underlying3 g0
  obtain ⟨z1, e1, _⟩ := DataW.trod_int Try.underlying3 g1
  obtain ⟨z2, e2, _⟩ := DataW.trod_int Try.underlying3 g2
  obtain ⟨z3, e3, _⟩ := DataW.trod_int Try.underlying3 g3
  obtain ⟨z4, e4, _⟩ := DataW.trod_int Try.underlying3 g4
  rw [cellsI] at e0 e1 e2 e3 e4
  simp at e0 e1 e2 e3 e4
  exact ⟨z0, z1, z2, z3, z4, e0, e1, e2, e3, e4⟩

/-- A slice of integers that came in. -/
def IsRow (k : IntKind) (w : World) (a : Option Addr) (len cap : Nat) (zs : List Int) : Prop :=
  (a = none ∧ len = 0 ∧ cap = 0 ∧ zs = []) ∨
  ∃ x, a = some x ∧ len ≤ cap ∧ cap ≤ maxLen ∧ zs.length = cap ∧ (∀ i, i < zs.length → w.cell? (x.add i) = some (.int k (zs.getD i 0))) ∧ ∀ n ∈ zs, (Lit.int k n).wf = true

theorem walk (o a b c i : Int) (a1 : Option Addr) (len1 cap1 : Nat) (z1 : List Int) (x2 x3 x4 : Int) (w : World)
    (w1 : IsRow .i64 w a1 len1 cap1 z1) (w2 : (Lit.int .i64 x2).wf = true) (w3 : (Lit.int .i64 x3).wf = true) (w4 : (Lit.int .i64 x4).wf = true) :
    Calls Try.prog 6 #[.agg #[.int .i64 o, .int .i64 a, .int .i64 b, .int .i64 c, .int .i64 i], .slice a1 len1 cap1, .int .i64 x2, .int .i64 x3, .int .i64 x4] w fun e w' => e = .returned (.bool true) ∧ Below w.heap.size w w' := by
  obtain ⟨hI1, hl1, hlc1, hc1, hwf1⟩ := row_ints w1
  have b2 := bounds_i64 w2
  have b3 := bounds_i64 w3
  have b4 := bounds_i64 w4
  have h := lawCodes_any o a b c i a1 (z1.take len1) cap1 x2 x3 x4 w (by omega) (fun x hx => bounds_i64 (hwf1 x hx)) b2.1 b2.2 b3.1 b3.2 b4.1 b4.2 hI1
  rw [hl1] at h
  exact h.mono fun e w' ⟨he, hg⟩ => ⟨he, grown_below hg (Nat.le_refl _) (by simp)⟩

set_option maxRecDepth 100000 in
theorem lifted (os : Os) (started : os.Started) (H : Type) (enc : TypeId × Value → H) :
    ReturnsInHanded {} Try.checked os 6 .any (Rows.instrCodesSpec.pre6 enc Try.prog Try.f6 Rows.instrCodesRow.domain false) (Rows.instrCodesSpec.post enc Try.prog Try.f6 false true false false) := by
  refine returnsInHanded_of_change (C := Try.checked) own started (by kernel_rfl) Try.func6
    (ChangeSpec.witness6 (enc := enc) (C := Try.checked) false ⟨#[], #[.agg #[.int .i64 0, .int .i64 0, .int .i64 0, .int .i64 0, .int .i64 0], .slice none 0 0, .int .i64 0, .int .i64 0, .int .i64 0], []⟩ 8 (by kernel_rfl) (by kernel_rfl) (by kernel_rfl) (by kernel_rfl)) ?_
  intro W base args ds gs before hval0 hW hcnd _
  have hval : ∀ (j : Nat) t v, Try.f6.params[j]? = some t → args[j]? = some v → Value.okWide Try.prog W .any base t v := hval0
  have hW' := hW
  obtain ⟨p, q, hA0, hV, rfl, hfz, hnd⟩ := hW
  have hA : DataW.TrodAll enc Try.prog W 0 (fun _ => true) true Try.f6.params.toList args.toList ds p := hA0
  rw [Try.params6] at hA hval
  obtain ⟨v0, vs0, d0, ds0, p0, q0, hargs, rfl, rfl, h0, r0⟩ := trodAll_cons hA
  obtain ⟨v1, vs1, d1, ds1, p1, q1, rfl, rfl, rfl, h1, r1⟩ := trodAll_cons r0
  obtain ⟨v2, vs2, d2, ds2, p2, q2, rfl, rfl, rfl, h2, r2⟩ := trodAll_cons r1
  obtain ⟨v3, vs3, d3, ds3, p3, q3, rfl, rfl, rfl, h3, r3⟩ := trodAll_cons r2
  obtain ⟨v4, vs4, d4, ds4, p4, q4, rfl, rfl, rfl, h4, r4⟩ := trodAll_cons r3
  obtain ⟨rfl, rfl, rfl⟩ := trodAll_nil r4
  obtain rfl : args = #[v0, v1, v2, v3, v4] := by cases args; simp_all
  obtain ⟨rfl, rfl⟩ := trodVars_none hV
  obtain ⟨cs, rfl, hsz⟩ := okWide_struct Try.underlying29 (hval 0 29 v0 rfl rfl)
  rw [cellsL] at hsz
  obtain ⟨c0, c1, c2, c3, c4, hcs0⟩ := five_of hsz
  subst hcs0
  have k0 := h0
  have lt0 : ∀ x ∈ p0, x.block < W.heap.size := by obtain ⟨m, hm⟩ := k0; exact DataW.trod_lt m _ _ _ hm
  obtain ⟨o, a, b, c, i, hc0, hc1, hc2, hc3, hc4⟩ : ∃ o a b c i : Int, c0 = .int .i64 o ∧ c1 = .int .i64 a ∧ c2 = .int .i64 b ∧ c3 = .int .i64 c ∧ c4 = .int .i64 i := by
    obtain ⟨fuel, hf⟩ := h0
    exact open_instr hf
  subst hc0 hc1 hc2 hc3 hc4
  obtain ⟨a1, len1, cap1, rfl⟩ := okWide_slice Try.underlying23 (hval 1 23 v1 rfl rfl)
  have k1 := h1
  have lt1 : ∀ x ∈ p1, x.block < W.heap.size := by obtain ⟨m, hm⟩ := k1; exact DataW.trod_lt m _ _ _ hm
  obtain ⟨z1, w1⟩ : ∃ zs, IsRow .i64 W a1 len1 cap1 zs := by
    obtain ⟨fuel, hf⟩ := h1
    rcases open_ints Try.underlying23 Try.underlying3 (by kernel_rfl) hf with ⟨hcs, _⟩ | ⟨x, l, c, zs, hcs, _, hl, hm, hz, _, hcell, hwz⟩
    · simp [Value.cells] at hcs
      obtain ⟨rfl, rfl, rfl⟩ := hcs
      exact ⟨[], .inl ⟨rfl, rfl, rfl, rfl⟩⟩
    · simp [Value.cells] at hcs
      obtain ⟨rfl, rfl, rfl⟩ := hcs
      exact ⟨zs, .inr ⟨_, rfl, hl, hm, by simpa using hz, hcell, hwz⟩⟩
  obtain ⟨x2, rfl, rfl, rfl, w2⟩ := open_int Try.underlying3 (hval 2 3 v2 rfl rfl) h2
  obtain ⟨x3, rfl, rfl, rfl, w3⟩ := open_int Try.underlying3 (hval 3 3 v3 rfl rfl) h3
  obtain ⟨x4, rfl, rfl, rfl, w4⟩ := open_int Try.underlying3 (hval 4 3 v4 rfl rfl) h4
  clear hA0 hval0
  refine (walk o a b c i a1 len1 cap1 z1 x2 x3 x4 W w1 w2 w3 w4).mono fun e W' ⟨he, bel⟩ => ?_
  subst he
  exact ⟨_, rfl, _, _, _, [], _, [], hW', trodAll_mk1 (shut_bool Try.underlying4 _), (trodAll_cons_mk (Below.trod laidOut (by kernel_rfl) (of_decide_eq_true (by kernel_rfl)) k0 bel lt0) (trodAll_cons_mk (Below.trod laidOut (by kernel_rfl) (of_decide_eq_true (by kernel_rfl)) k1 bel lt1) (trodAll_cons_mk (shut_int Try.underlying3 w2) (trodAll_cons_mk (shut_int Try.underlying3 w3) (trodAll_cons_mk (shut_int Try.underlying3 w4) trodAll_mk0))))), rfl, bel.frame _, fun h => by cases h⟩

theorem over : Rows.instrCodesRow.holds Try.pinned (OpenSpec.ofChange Rows.instrCodesSpec) :=
  OpenClaim.holds_of_wide 6 Try.f6 rfl rfl rfl rfl rfl rfl rfl ⟨rfl, rfl, rfl, rfl, rfl⟩ rfl rfl rfl rfl rfl (by kernel_rfl) Try.func6 (by kernel_rfl)
    (of_decide_eq_true (by kernel_rfl)) (by unfold Func.isWrapper; first | (rw [if_pos (by decide +kernel)]; kernel_rfl) | (rw [if_neg (by decide +kernel)]; exact ⟨rfl, rfl⟩))
    (fun os started H enc _ => lifted os started H enc)

end Go.Proofs.Ytenlhaondbmhnaa.instrCodes
namespace Go.Proofs.Ytenlhaondbmhnaa
theorem instrCodes_holds : Rows.InstrCodesSaid := instrCodes.over
#print axioms instrCodes_holds
end Go.Proofs.Ytenlhaondbmhnaa
