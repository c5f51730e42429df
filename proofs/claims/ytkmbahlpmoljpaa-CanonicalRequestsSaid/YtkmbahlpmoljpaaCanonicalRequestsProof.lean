/- For every input the law CanonicalRequests returns true and changes nothing; no condition. -/
import Derived.Test.YtkmbahlpmoljpaaRows
import Derived.WalkKit
import Derived.ProofKit
import Derived.OpenShut
import Derived.ShutString
import Derived.ChangeOld
import Derived.Below
import Derived.Test.YtkmbahlpmoljpaaQn
namespace Go.Proofs.Ytkmbahlpmoljpaa.canonicalRequests
open Go.ChangeShapes Go.WideShapes Go.ChangeAt Go.RowKit
set_option linter.unusedVariables false

theorem own : ownKnob Try.prog.godebug = none := by kernel_rfl
theorem laidOut : laidOutB Try.prog = true := by kernel_rfl

theorem run {h0 : HL den [I64, I64, I64, I64, I64, I64, (.row false (.pair (.int .u8) (.pair (.int .u16) (.pair I64 I64)))), (.row false (.pair (.int .u8) (.pair (.int .u16) (.pair I64 I64))))]} {h1 : HL den [(.row false (.int .u8))]} {h2 : HL den [(.row false I64)]} {h3 : HL den [I64]} {h4 : HL den [I64]} (g0 : GoodL [I64, I64, I64, I64, I64, I64, (.row false (.pair (.int .u8) (.pair (.int .u16) (.pair I64 I64)))), (.row false (.pair (.int .u8) (.pair (.int .u16) (.pair I64 I64))))] h0) (g1 : GoodL [(.row false (.int .u8))] h1) (g2 : GoodL [(.row false I64)] h2) (g3 : GoodL [I64] h3) (g4 : GoodL [I64] h4) :
    runF E0 TT noB (NN + 10) 3 [.agg (encL [I64, I64, I64, I64, I64, I64, (.row false (.pair (.int .u8) (.pair (.int .u16) (.pair I64 I64)))), (.row false (.pair (.int .u8) (.pair (.int .u16) (.pair I64 I64))))] h0), (encL [(.row false (.int .u8))] h1).headD .dead, (encL [(.row false I64)] h2).headD .dead, (encL [I64] h3).headD .dead, (encL [I64] h4).headD .dead] [] = some (⟨[.v (.bool true)], [.one]⟩, []) :=
  k_law13_CanonicalRequests 10 (Nat.le_refl _) (appL [I64, I64, I64, I64, I64, I64, (.row false (.pair (.int .u8) (.pair (.int .u16) (.pair I64 I64)))), (.row false (.pair (.int .u8) (.pair (.int .u16) (.pair I64 I64))))] _ h0 (appL [(.row false (.int .u8))] _ h1 (appL [(.row false I64)] _ h2 (appL [I64] _ h3 (appL [I64] _ h4 ()))))) (true, ()) ([.d .bool true], [.one], []) (law_CanonicalRequests g0 g1 g2 g3 g4) rfl

theorem walk {w : World} {h0 : HL den [I64, I64, I64, I64, I64, I64, (.row false (.pair (.int .u8) (.pair (.int .u16) (.pair I64 I64)))), (.row false (.pair (.int .u8) (.pair (.int .u16) (.pair I64 I64))))]} {h1 : HL den [(.row false (.int .u8))]} {h2 : HL den [(.row false I64)]} {h3 : HL den [I64]} {h4 : HL den [I64]} {cs0 : Array Value} {v1 : Value} {v2 : Value} {v3 : Value} {v4 : Value} (g0 : GoodL [I64, I64, I64, I64, I64, I64, (.row false (.pair (.int .u8) (.pair (.int .u16) (.pair I64 I64)))), (.row false (.pair (.int .u8) (.pair (.int .u16) (.pair I64 I64))))] h0) (g1 : GoodL [(.row false (.int .u8))] h1) (g2 : GoodL [(.row false I64)] h2) (g3 : GoodL [I64] h3) (g4 : GoodL [I64] h4) (r0 : RelL w (encL [I64, I64, I64, I64, I64, I64, (.row false (.pair (.int .u8) (.pair (.int .u16) (.pair I64 I64)))), (.row false (.pair (.int .u8) (.pair (.int .u16) (.pair I64 I64))))] h0) cs0.toList) (r1 : RelL w (encL [(.row false (.int .u8))] h1) [v1]) (r2 : RelL w (encL [(.row false I64)] h2) [v2]) (r3 : RelL w (encL [I64] h3) [v3]) (r4 : RelL w (encL [I64] h4) [v4]) :
    Calls Try.prog 3 #[.agg cs0, v1, v2, v3, v4] w fun e w' => e = .returned (.bool true) ∧ Below w.heap.size w w' :=
  (calls_flat (avs := [.agg cs0, v1, v2, v3, v4]) (runF_ok tt_ok e0_ok noB_ok (NN + 10)) (run g0 g1 g2 g3 g4) rfl rfl fun j hj hj' => by
    match j, hj with
    | 0, _ => exact plain_agg r0
    | 1, _ => exact plain_one r1
    | 2, _ => exact plain_one r2
    | 3, _ => exact plain_one r3
    | 4, _ => exact plain_one r4).2

set_option maxRecDepth 100000 in
theorem lifted (os : Os) (started : os.Started) (H : Type) (enc : TypeId × Value → H) :
    ReturnsInHanded {} Try.checked os 3 .any (Rows.canonicalRequestsSpec.pre6 enc Try.prog Try.f3 Rows.canonicalRequestsRow.domain false) (Rows.canonicalRequestsSpec.post enc Try.prog Try.f3 false true false false) := by
  refine returnsInHanded_of_change (C := Try.checked) own started (by kernel_rfl) Try.func3
    (ChangeSpec.witness6 (enc := enc) (C := Try.checked) false ⟨#[], #[.agg #[.int .i64 0, .int .i64 0, .int .i64 0, .int .i64 0, .int .i64 0, .int .i64 0, .slice none 0 0, .slice none 0 0], .slice none 0 0, .slice none 0 0, .int .i64 0, .int .i64 0], []⟩ 8 (by kernel_rfl) (by kernel_rfl) (by kernel_rfl) (by kernel_rfl)) ?_
  intro W base args ds gs before hval0 hW hcnd _
  have hval : ∀ (j : Nat) t v, Try.f3.params[j]? = some t → args[j]? = some v → Value.okWide Try.prog W .any base t v := hval0
  have hW' := hW
  obtain ⟨p, q, hA0, hV, rfl, hfz, hnd⟩ := hW
  have hA : DataW.TrodAll enc Try.prog W 0 (fun _ => true) true Try.f3.params.toList args.toList ds p := hA0
  rw [Try.params3] at hA hval
  obtain ⟨v0, vs0, d0, ds0, p0, q0, hargs, rfl, rfl, t0, s0⟩ := trodAll_cons hA
  obtain ⟨v1, vs1, d1, ds1, p1, q1, rfl, rfl, rfl, t1, s1⟩ := trodAll_cons s0
  obtain ⟨v2, vs2, d2, ds2, p2, q2, rfl, rfl, rfl, t2, s2⟩ := trodAll_cons s1
  obtain ⟨v3, vs3, d3, ds3, p3, q3, rfl, rfl, rfl, t3, s3⟩ := trodAll_cons s2
  obtain ⟨v4, vs4, d4, ds4, p4, q4, rfl, rfl, rfl, t4, s4⟩ := trodAll_cons s3
  obtain ⟨rfl, rfl, rfl⟩ := trodAll_nil s4
  obtain rfl : args = #[v0, v1, v2, v3, v4] := by cases args; simp_all
  obtain ⟨rfl, rfl⟩ := trodVars_none hV
  obtain ⟨cs0, rfl, _⟩ := okWide_struct Try.underlying24 (hval 0 24 v0 rfl rfl)
  have lt0 : ∀ x ∈ p0, x.block < W.heap.size := by obtain ⟨m, hm⟩ := t0; exact DataW.trod_lt m _ _ _ hm
  obtain ⟨h0, g0, r0⟩ := intake_arg 30 (L := [I64, I64, I64, I64, I64, I64, (.row false (.pair (.int .u8) (.pair (.int .u16) (.pair I64 I64)))), (.row false (.pair (.int .u8) (.pair (.int .u16) (.pair I64 I64))))]) (by kernel_rfl) t0
  obtain ⟨a1, len1, cap1, rfl⟩ := okWide_slice Try.underlying25 (hval 1 25 v1 rfl rfl)
  have lt1 : ∀ x ∈ p1, x.block < W.heap.size := by obtain ⟨m, hm⟩ := t1; exact DataW.trod_lt m _ _ _ hm
  obtain ⟨h1, g1, r1⟩ := intake_arg 30 (L := [(.row false (.int .u8))]) (by kernel_rfl) t1
  obtain ⟨a2, len2, cap2, rfl⟩ := okWide_slice Try.underlying26 (hval 2 26 v2 rfl rfl)
  have lt2 : ∀ x ∈ p2, x.block < W.heap.size := by obtain ⟨m, hm⟩ := t2; exact DataW.trod_lt m _ _ _ hm
  obtain ⟨h2, g2, r2⟩ := intake_arg 30 (L := [(.row false I64)]) (by kernel_rfl) t2
  obtain ⟨x3, rfl⟩ := okWide_int Try.underlying3 (hval 3 3 v3 rfl rfl)
  have lt3 : ∀ x ∈ p3, x.block < W.heap.size := by obtain ⟨m, hm⟩ := t3; exact DataW.trod_lt m _ _ _ hm
  obtain ⟨h3, g3, r3⟩ := intake_arg 30 (L := [I64]) (by kernel_rfl) t3
  obtain ⟨x4, rfl⟩ := okWide_int Try.underlying3 (hval 4 3 v4 rfl rfl)
  have lt4 : ∀ x ∈ p4, x.block < W.heap.size := by obtain ⟨m, hm⟩ := t4; exact DataW.trod_lt m _ _ _ hm
  obtain ⟨h4, g4, r4⟩ := intake_arg 30 (L := [I64]) (by kernel_rfl) t4
  clear hA0 hval0
  refine (walk g0 g1 g2 g3 g4 r0 r1 r2 r3 r4).mono fun e W' ⟨he, bel⟩ => ?_
  subst he
  exact ⟨_, rfl, _, _, _, [], _, [], hW', trodAll_mk1 (shut_bool Try.underlying4 _), (trodAll_cons_mk (Below.trod laidOut (by kernel_rfl) (of_decide_eq_true (by kernel_rfl)) t0 bel lt0) (trodAll_cons_mk (Below.trod laidOut (by kernel_rfl) (of_decide_eq_true (by kernel_rfl)) t1 bel lt1) (trodAll_cons_mk (Below.trod laidOut (by kernel_rfl) (of_decide_eq_true (by kernel_rfl)) t2 bel lt2) (trodAll_cons_mk (Below.trod laidOut (by kernel_rfl) (of_decide_eq_true (by kernel_rfl)) t3 bel lt3) (trodAll_cons_mk (Below.trod laidOut (by kernel_rfl) (of_decide_eq_true (by kernel_rfl)) t4 bel lt4) trodAll_mk0))))), rfl, bel.frame _, fun h => by cases h⟩

theorem over : Rows.canonicalRequestsRow.holds Try.pinned (OpenSpec.ofChange Rows.canonicalRequestsSpec) :=
  OpenClaim.holds_of_wide 3 Try.f3 rfl rfl rfl rfl rfl rfl rfl ⟨rfl, rfl, rfl, rfl, rfl⟩ rfl rfl rfl rfl rfl (by kernel_rfl) Try.func3 (by kernel_rfl)
    (of_decide_eq_true (by kernel_rfl)) (by unfold Func.isWrapper; first | (rw [if_pos (by decide +kernel)]; kernel_rfl) | (rw [if_neg (by decide +kernel)]; exact ⟨rfl, rfl⟩))
    (fun os started H enc _ => lifted os started H enc)

end Go.Proofs.Ytkmbahlpmoljpaa.canonicalRequests
namespace Go.Proofs.Ytkmbahlpmoljpaa
theorem canonicalRequests_holds : Rows.CanonicalRequestsSaid := canonicalRequests.over
#print axioms canonicalRequests_holds
end Go.Proofs.Ytkmbahlpmoljpaa
