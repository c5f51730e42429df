/- For every input the law ThreadValid returns true and changes nothing; no condition. -/
import Derived.Test.YtpodeigolpjeeaaGreatRows
import Derived.WalkKit
import Derived.ProofKit
import Derived.OpenShut
import Derived.ShutString
import Derived.ChangeOld
import Derived.Below
import Derived.Test.YtpodeigolpjeeaaGreatSf
namespace Go.Proofs.YtpodeigolpjeeaaGreat.threadValid
open Go.ChangeShapes Go.WideShapes Go.ChangeAt Go.RowKit
set_option linter.unusedVariables false

theorem own : ownKnob Tryz.prog.godebug = none := by kernel_rfl
theorem laidOut : laidOutB Tryz.prog = true := by kernel_rfl

theorem run {h0 : HL den [I64, (.row false (.pair (.int .u8) (.int .u16))), I64, I64, I64, I64, I64, (.int .u16)]} {h1 : HL den [I64]} {h2 : HL den [(.int .u8), (.int .u16)]} {h3 : HL den [(.row false I64)]} {h4 : HL den [I64]} {h5 : HL den [I64]} (g0 : GoodL [I64, (.row false (.pair (.int .u8) (.int .u16))), I64, I64, I64, I64, I64, (.int .u16)] h0) (g1 : GoodL [I64] h1) (g2 : GoodL [(.int .u8), (.int .u16)] h2) (g3 : GoodL [(.row false I64)] h3) (g4 : GoodL [I64] h4) (g5 : GoodL [I64] h5) :
    runF E0 TT noB (NN + 11) 4 [.agg (encL [I64, (.row false (.pair (.int .u8) (.int .u16))), I64, I64, I64, I64, I64, (.int .u16)] h0), (encL [I64] h1).headD .dead, .agg (encL [(.int .u8), (.int .u16)] h2), (encL [(.row false I64)] h3).headD .dead, (encL [I64] h4).headD .dead, (encL [I64] h5).headD .dead] [] = some (⟨[.v (.bool true)], [.one]⟩, []) :=
  k_law10_ThreadValid 11 (Nat.le_refl _) (appL [I64, (.row false (.pair (.int .u8) (.int .u16))), I64, I64, I64, I64, I64, (.int .u16)] _ h0 (appL [I64] _ h1 (appL [(.int .u8), (.int .u16)] _ h2 (appL [(.row false I64)] _ h3 (appL [I64] _ h4 (appL [I64] _ h5 ())))))) (true, ()) ([.d .bool true], [.one], []) (law_ThreadValid g0 g1 g2 g3 g4 g5) rfl

theorem walk {w : World} {h0 : HL den [I64, (.row false (.pair (.int .u8) (.int .u16))), I64, I64, I64, I64, I64, (.int .u16)]} {h1 : HL den [I64]} {h2 : HL den [(.int .u8), (.int .u16)]} {h3 : HL den [(.row false I64)]} {h4 : HL den [I64]} {h5 : HL den [I64]} {cs0 : Array Value} {v1 : Value} {cs2 : Array Value} {v3 : Value} {v4 : Value} {v5 : Value} (g0 : GoodL [I64, (.row false (.pair (.int .u8) (.int .u16))), I64, I64, I64, I64, I64, (.int .u16)] h0) (g1 : GoodL [I64] h1) (g2 : GoodL [(.int .u8), (.int .u16)] h2) (g3 : GoodL [(.row false I64)] h3) (g4 : GoodL [I64] h4) (g5 : GoodL [I64] h5) (r0 : RelL w (encL [I64, (.row false (.pair (.int .u8) (.int .u16))), I64, I64, I64, I64, I64, (.int .u16)] h0) cs0.toList) (r1 : RelL w (encL [I64] h1) [v1]) (r2 : RelL w (encL [(.int .u8), (.int .u16)] h2) cs2.toList) (r3 : RelL w (encL [(.row false I64)] h3) [v3]) (r4 : RelL w (encL [I64] h4) [v4]) (r5 : RelL w (encL [I64] h5) [v5]) :
    Calls Tryz.prog 4 #[.agg cs0, v1, .agg cs2, v3, v4, v5] w fun e w' => e = .returned (.bool true) ∧ Below w.heap.size w w' :=
  (calls_flat (avs := [.agg cs0, v1, .agg cs2, v3, v4, v5]) (runF_ok tt_ok e0_ok noB_ok (NN + 11)) (run g0 g1 g2 g3 g4 g5) rfl rfl fun j hj hj' => by
    match j, hj with
    | 0, _ => exact plain_agg r0
    | 1, _ => exact plain_one r1
    | 2, _ => exact plain_agg r2
    | 3, _ => exact plain_one r3
    | 4, _ => exact plain_one r4
    | 5, _ => exact plain_one r5).2

set_option maxRecDepth 100000 in
theorem lifted (os : Os) (started : os.Started) (H : Type) (enc : TypeId × Value → H) :
    ReturnsInHanded {} Tryz.checked os 4 .any (Rows.threadValidSpec.pre6 enc Tryz.prog Tryz.f4 Rows.threadValidRow.domain false) (Rows.threadValidSpec.post enc Tryz.prog Tryz.f4 false true false false) := by
  refine returnsInHanded_of_change (C := Tryz.checked) own started (by kernel_rfl) Tryz.func4
    (ChangeSpec.witness6 (enc := enc) (C := Tryz.checked) false ⟨#[], #[.agg #[.int .i64 0, .slice none 0 0, .int .i64 0, .int .i64 0, .int .i64 0, .int .i64 0, .int .i64 0, .int .u16 0], .int .i64 0, .agg #[.int .u8 0, .int .u16 0], .slice none 0 0, .int .i64 0, .int .i64 0], []⟩ 8 (by kernel_rfl) (by kernel_rfl) (by kernel_rfl) (by kernel_rfl)) ?_
  intro W base args ds gs before hval0 hW hcnd _
  have hval : ∀ (j : Nat) t v, Tryz.f4.params[j]? = some t → args[j]? = some v → Value.okWide Tryz.prog W .any base t v := hval0
  have hW' := hW
  obtain ⟨p, q, hA0, hV, rfl, hfz, hnd⟩ := hW
  have hA : DataW.TrodAll enc Tryz.prog W 0 (fun _ => true) true Tryz.f4.params.toList args.toList ds p := hA0
  rw [Tryz.params4] at hA hval
  obtain ⟨v0, vs0, d0, ds0, p0, q0, hargs, rfl, rfl, t0, s0⟩ := trodAll_cons hA
  obtain ⟨v1, vs1, d1, ds1, p1, q1, rfl, rfl, rfl, t1, s1⟩ := trodAll_cons s0
  obtain ⟨v2, vs2, d2, ds2, p2, q2, rfl, rfl, rfl, t2, s2⟩ := trodAll_cons s1
  obtain ⟨v3, vs3, d3, ds3, p3, q3, rfl, rfl, rfl, t3, s3⟩ := trodAll_cons s2
  obtain ⟨v4, vs4, d4, ds4, p4, q4, rfl, rfl, rfl, t4, s4⟩ := trodAll_cons s3
  obtain ⟨v5, vs5, d5, ds5, p5, q5, rfl, rfl, rfl, t5, s5⟩ := trodAll_cons s4
  obtain ⟨rfl, rfl, rfl⟩ := trodAll_nil s5
  obtain rfl : args = #[v0, v1, v2, v3, v4, v5] := by cases args; simp_all
  obtain ⟨rfl, rfl⟩ := trodVars_none hV
  obtain ⟨cs0, rfl, _⟩ := okWide_struct Tryz.underlying43 (hval 0 43 v0 rfl rfl)
  have lt0 : ∀ x ∈ p0, x.block < W.heap.size := by obtain ⟨m, hm⟩ := t0; exact DataW.trod_lt m _ _ _ hm
  obtain ⟨h0, g0, r0⟩ := intake_arg 30 (L := [I64, (.row false (.pair (.int .u8) (.int .u16))), I64, I64, I64, I64, I64, (.int .u16)]) (by kernel_rfl) t0
  obtain ⟨x1, rfl⟩ := okWide_int Tryz.underlying3 (hval 1 3 v1 rfl rfl)
  have lt1 : ∀ x ∈ p1, x.block < W.heap.size := by obtain ⟨m, hm⟩ := t1; exact DataW.trod_lt m _ _ _ hm
  obtain ⟨h1, g1, r1⟩ := intake_arg 30 (L := [I64]) (by kernel_rfl) t1
  obtain ⟨cs2, rfl, _⟩ := okWide_struct Tryz.underlying47 (hval 2 47 v2 rfl rfl)
  have lt2 : ∀ x ∈ p2, x.block < W.heap.size := by obtain ⟨m, hm⟩ := t2; exact DataW.trod_lt m _ _ _ hm
  obtain ⟨h2, g2, r2⟩ := intake_arg 30 (L := [(.int .u8), (.int .u16)]) (by kernel_rfl) t2
  obtain ⟨a3, len3, cap3, rfl⟩ := okWide_slice Tryz.underlying22 (hval 3 22 v3 rfl rfl)
  have lt3 : ∀ x ∈ p3, x.block < W.heap.size := by obtain ⟨m, hm⟩ := t3; exact DataW.trod_lt m _ _ _ hm
  obtain ⟨h3, g3, r3⟩ := intake_arg 30 (L := [(.row false I64)]) (by kernel_rfl) t3
  obtain ⟨x4, rfl⟩ := okWide_int Tryz.underlying3 (hval 4 3 v4 rfl rfl)
  have lt4 : ∀ x ∈ p4, x.block < W.heap.size := by obtain ⟨m, hm⟩ := t4; exact DataW.trod_lt m _ _ _ hm
  obtain ⟨h4, g4, r4⟩ := intake_arg 30 (L := [I64]) (by kernel_rfl) t4
  obtain ⟨x5, rfl⟩ := okWide_int Tryz.underlying3 (hval 5 3 v5 rfl rfl)
  have lt5 : ∀ x ∈ p5, x.block < W.heap.size := by obtain ⟨m, hm⟩ := t5; exact DataW.trod_lt m _ _ _ hm
  obtain ⟨h5, g5, r5⟩ := intake_arg 30 (L := [I64]) (by kernel_rfl) t5
  clear hA0 hval0
  refine (walk g0 g1 g2 g3 g4 g5 r0 r1 r2 r3 r4 r5).mono fun e W' ⟨he, bel⟩ => ?_
  subst he
  exact ⟨_, rfl, _, _, _, [], _, [], hW', trodAll_mk1 (shut_bool Tryz.underlying4 _), (trodAll_cons_mk (Below.trod laidOut (by kernel_rfl) (of_decide_eq_true (by kernel_rfl)) t0 bel lt0) (trodAll_cons_mk (Below.trod laidOut (by kernel_rfl) (of_decide_eq_true (by kernel_rfl)) t1 bel lt1) (trodAll_cons_mk (Below.trod laidOut (by kernel_rfl) (of_decide_eq_true (by kernel_rfl)) t2 bel lt2) (trodAll_cons_mk (Below.trod laidOut (by kernel_rfl) (of_decide_eq_true (by kernel_rfl)) t3 bel lt3) (trodAll_cons_mk (Below.trod laidOut (by kernel_rfl) (of_decide_eq_true (by kernel_rfl)) t4 bel lt4) (trodAll_cons_mk (Below.trod laidOut (by kernel_rfl) (of_decide_eq_true (by kernel_rfl)) t5 bel lt5) trodAll_mk0)))))), rfl, bel.frame _, fun h => by cases h⟩

theorem over : Rows.threadValidRow.holds Tryz.pinned (OpenSpec.ofChange Rows.threadValidSpec) :=
  OpenClaim.holds_of_wide 4 Tryz.f4 rfl rfl rfl rfl rfl rfl rfl ⟨rfl, rfl, rfl, rfl, rfl⟩ rfl rfl rfl rfl rfl (by kernel_rfl) Tryz.func4 (by kernel_rfl)
    (of_decide_eq_true (by kernel_rfl)) (by unfold Func.isWrapper; first | (rw [if_pos (by decide +kernel)]; kernel_rfl) | (rw [if_neg (by decide +kernel)]; exact ⟨rfl, rfl⟩))
    (fun os started H enc _ => lifted os started H enc)

end Go.Proofs.YtpodeigolpjeeaaGreat.threadValid
namespace Go.Proofs.YtpodeigolpjeeaaGreat
theorem threadValid_holds : Rows.ThreadValidSaid := threadValid.over
#print axioms threadValid_holds
end Go.Proofs.YtpodeigolpjeeaaGreat
