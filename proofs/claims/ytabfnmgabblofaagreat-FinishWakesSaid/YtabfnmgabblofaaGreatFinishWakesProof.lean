/- For every input the law FinishWakes returns true and changes nothing;no condition. -/
import Derived.Test.YtabfnmgabblofaaGreatRows
import Derived.WalkKit
import Derived.ProofKit
import Derived.OpenShut
import Derived.ShutString
import Derived.ChangeOld
import Derived.Below
import Derived.Test.YtabfnmgabblofaaGreatWf
namespace Go.Proofs.YtabfnmgabblofaaGreat.finishWakes
open Go.ChangeShapes Go.WideShapes Go.ChangeAt Go.RowKit
set_option linter.unusedVariables false

abbrev LL0:List CT:=[(.int .u8),(.int .u16),I64,I64,(.row false (.pair (.int .u8) (.pair (.int .u16) (.pair I64 I64)))),I64,.bool]
theorem own:ownKnob Tryz.prog.godebug=none:=by kernel_rfl
theorem laidOut:laidOutB Tryz.prog=true:=by kernel_rfl

theorem run {h0:HL den LL0} {h1:HL den [(.row false I64)]} {h2:HL den [I64]} (g0:GoodL LL0 h0) (g1:GoodL [(.row false I64)] h1) (g2:GoodL [I64] h2) :
    runF E0 TT noB (NN + 13) 6 [.agg (encL LL0 h0),(encL [(.row false I64)] h1).headD .dead,(encL [I64] h2).headD .dead] []=some (⟨[.v (.bool true)],[.one]⟩,[]) :=
  k_law14_FinishWakes 13 (Nat.le_refl _) (appL LL0 _ h0 (appL [(.row false I64)] _ h1 (appL [I64] _ h2 ()))) (true,()) ([.d .bool true],[.one],[]) (law_FinishWakes g0 g1 g2) rfl

theorem walk {w:World} {h0:HL den LL0} {h1:HL den [(.row false I64)]} {h2:HL den [I64]} {cs0:Array Value} {v1:Value} {v2:Value} (g0:GoodL LL0 h0) (g1:GoodL [(.row false I64)] h1) (g2:GoodL [I64] h2) (r0:RelL w (encL LL0 h0) cs0.toList) (r1:RelL w (encL [(.row false I64)] h1) [v1]) (r2:RelL w (encL [I64] h2) [v2]) :
    Calls Tryz.prog 6 #[.agg cs0,v1,v2] w λe w'=>e=.returned (.bool true)/\Below w.heap.size w w' :=
  (calls_flat (avs:=[.agg cs0,v1,v2]) (runF_ok tt_ok e0_ok noB_ok (NN + 13)) (run g0 g1 g2) rfl rfl λj hj hj'=>by
    match j,hj with
    | 0,_=>exact plain_agg r0
    | 1,_=>exact plain_one r1
    | 2,_=>exact plain_one r2).2

set_option maxRecDepth 100000 in
theorem lifted (os:Os) (started:os.Started) (H:Type) (enc:TypeId × Value->H) :
    ReturnsInHanded {} Tryz.checked os 6 .any (Rows.finishWakesSpec.pre6 enc Tryz.prog Tryz.f6 Rows.finishWakesRow.domain false) (Rows.finishWakesSpec.post enc Tryz.prog Tryz.f6 false true false false):=by
  refine returnsInHanded_of_change (C:=Tryz.checked) own started (by kernel_rfl) Tryz.func6
    (ChangeSpec.witness6 (enc:=enc) (C:=Tryz.checked) false ⟨#[],#[.agg #[.int .u8 0,.int .u16 0,.int .i64 0,.int .i64 0,.slice none 0 0,.int .i64 0,.bool false],.slice none 0 0,.int .i64 0],[]⟩ 8 (by kernel_rfl) (by kernel_rfl) (by kernel_rfl) (by kernel_rfl)) ?_
  intro W base args ds gs before hval0 hW hcnd _
  have hval:∀ (j:Nat) t v,Tryz.f6.params[j]?=some t->args[j]?=some v->Value.okWide Tryz.prog W .any base t v:=hval0
  have hW':=hW
  obtain ⟨p,q,hA0,hV,rfl,hfz,hnd⟩:=hW
  have hA:DataW.TrodAll enc Tryz.prog W 0 (λ_=>true) true Tryz.f6.params.toList args.toList ds p:=hA0
  rw[Tryz.params6] at hA hval
  obtain ⟨v0,vs0,d0,ds0,p0,q0,hargs,rfl,rfl,t0,s0⟩:=trodAll_cons hA
  obtain ⟨v1,vs1,d1,ds1,p1,q1,rfl,rfl,rfl,t1,s1⟩:=trodAll_cons s0
  obtain ⟨v2,vs2,d2,ds2,p2,q2,rfl,rfl,rfl,t2,s2⟩:=trodAll_cons s1
  obtain ⟨rfl,rfl,rfl⟩:=trodAll_nil s2
  obtain rfl:args=#[v0,v1,v2]:=by cases args;simp_all
  obtain ⟨rfl,rfl⟩:=trodVars_none hV
  obtain ⟨cs0,rfl,_⟩:=okWide_struct Tryz.underlying45 (hval 0 45 v0 rfl rfl)
  have lt0:∀ x ∈ p0,x.block < W.heap.size:=by obtain ⟨m,hm⟩:=t0;exact DataW.trod_lt m _ _ _ hm
  obtain ⟨h0,g0,r0⟩:=intake_arg 30 (L:=LL0) (by kernel_rfl) t0
  obtain ⟨a1,len1,cap1,rfl⟩:=okWide_slice Tryz.underlying22 (hval 1 22 v1 rfl rfl)
  have lt1:∀ x ∈ p1,x.block < W.heap.size:=by obtain ⟨m,hm⟩:=t1;exact DataW.trod_lt m _ _ _ hm
  obtain ⟨h1,g1,r1⟩:=intake_arg 30 (L:=[(.row false I64)]) (by kernel_rfl) t1
  obtain ⟨x2,rfl⟩:=okWide_int Tryz.underlying3 (hval 2 3 v2 rfl rfl)
  have lt2:∀ x ∈ p2,x.block < W.heap.size:=by obtain ⟨m,hm⟩:=t2;exact DataW.trod_lt m _ _ _ hm
  obtain ⟨h2,g2,r2⟩:=intake_arg 30 (L:=[I64]) (by kernel_rfl) t2
  clear hA0 hval0
  refine (walk g0 g1 g2 r0 r1 r2).mono λe W' ⟨he,bel⟩=>?_
  subst he
  exact ⟨_,rfl,_,_,_,[],_,[],hW',trodAll_mk1 (shut_bool Tryz.underlying4 _),(trodAll_cons_mk (Below.trod laidOut (by kernel_rfl) (of_decide_eq_true (by kernel_rfl)) t0 bel lt0) (trodAll_cons_mk (Below.trod laidOut (by kernel_rfl) (of_decide_eq_true (by kernel_rfl)) t1 bel lt1) (trodAll_cons_mk (Below.trod laidOut (by kernel_rfl) (of_decide_eq_true (by kernel_rfl)) t2 bel lt2) trodAll_mk0))),rfl,bel.frame _,λh=>by cases h⟩

noncomputable abbrev P0:=Tryz.pinned.checked.prog
abbrev R0:=Rows.finishWakesRow
abbrev S0:=Rows.finishWakesSpec
theorem band {a b:Bool} (h:a=true) (g:b=true):(a && b)=true:=by rw[h,g];rfl
theorem pre1:(R0.wf (OpenSpec.ofChange S0) && laidOutB P0 && mapsRowed P0 && Tryz.f6.params.all (P0.readableRec ·) && namedTie P0 R0.named S0.vars && (R0.stops == []) && (P0.stops == []) && (R0.knobs == []) && (P0.stopKnobs == []) && (R0.inPlace == P0.inPlace 6) && (R0.unfollowed == P0.unfollowed 6) && (R0.recurses == P0.recurses 6) && (R0.named == P0.varsNamed 6))=true:=by kernel_rfl
theorem key1:(R0.plainKeys == P0.plainKeys)=true:=by kernel_rfl
theorem hear1:P0.stopsHeard=true:=by kernel_rfl
theorem may1:P0.mayEnter=true:=by kernel_rfl
theorem lift1:(R0.lifted == P0.liftsFinal)=true:=by kernel_rfl
theorem closed1:joinedFacts P0 6 Tryz.f6 S0 R0=true:=(band (band (band (band (band (band (band (band (band (band (band (band (band (band (band (band (band (band (band pre1 (by kernel_rfl)) (by kernel_rfl)) (by kernel_rfl)) (by kernel_rfl)) (by kernel_rfl)) (by kernel_rfl)) (by kernel_rfl)) (by kernel_rfl)) (by kernel_rfl)) key1) (by kernel_rfl)) hear1) may1) lift1) (by kernel_rfl)) (by kernel_rfl)) (by kernel_rfl)) (by kernel_rfl)) (by kernel_rfl))
theorem over:Rows.finishWakesRow.holds Tryz.pinned (OpenSpec.ofChange Rows.finishWakesSpec) :=
  OpenClaim.holds_of_wide 6 Tryz.f6 rfl rfl rfl rfl rfl rfl rfl ⟨rfl,rfl,rfl,rfl,rfl⟩ rfl rfl rfl rfl rfl (by kernel_rfl) Tryz.func6 closed1
    (of_decide_eq_true (by kernel_rfl)) (by unfold Func.isWrapper;first | (rw[if_pos (by decide +kernel)];kernel_rfl) | (rw[if_neg (by decide +kernel)];exact ⟨rfl,rfl⟩))
    (λos started H enc _=>lifted os started H enc)

end Go.Proofs.YtabfnmgabblofaaGreat.finishWakes
namespace Go.Proofs.YtabfnmgabblofaaGreat
theorem finishWakes_holds:Rows.FinishWakesSaid:=finishWakes.over
#print axioms finishWakes_holds
end Go.Proofs.YtabfnmgabblofaaGreat
