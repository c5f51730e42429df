/- For every input the law ProgramBytes returns true and changes nothing;no condition. -/
import Derived.Test.YtgphpfjngblbiaaRows
import Derived.WalkKit
import Derived.ProofKit
import Derived.OpenShut
import Derived.ShutString
import Derived.ChangeOld
import Derived.Below
import Derived.Test.YtgphpfjngblbiaaWe
namespace Go.Proofs.Ytgphpfjngblbiaa.programBytes
open Go.ChangeShapes Go.WideShapes Go.ChangeAt Go.RowKit
set_option linter.unusedVariables false

abbrev LL0:List CT:=[(.row false (.pair I64 (.pair I64 (.pair I64 (.pair I64 I64))))),(.row false I64),(.row false (.row false (.int .u16)))]
abbrev LL1:List CT:=[(.row false (.int .u8))]
theorem own:ownKnob Try.prog.godebug=none:=by kernel_rfl
theorem laidOut:laidOutB Try.prog=true:=by kernel_rfl

theorem run {h0:HL den LL1} {h1:HL den LL0} {h2:HL den [(.row false I64)]} {h3:HL den [I64]} {h4:HL den [I64]} {h5:HL den [I64]} (g0:GoodL LL1 h0) (g1:GoodL LL0 h1) (g2:GoodL [(.row false I64)] h2) (g3:GoodL [I64] h3) (g4:GoodL [I64] h4) (g5:GoodL [I64] h5) :
    runF E0 TT libB (NN + 8) 5 [(encL LL1 h0).headD .dead,.agg (encL LL0 h1),(encL [(.row false I64)] h2).headD .dead,(encL [I64] h3).headD .dead,(encL [I64] h4).headD .dead,(encL [I64] h5).headD .dead] []=some (⟨[.v (.bool true)],[.one]⟩,[]) :=
  k_law08_ProgramBytes 8 (Nat.le_refl _) (appL LL1 _ h0 (appL LL0 _ h1 (appL [(.row false I64)] _ h2 (appL [I64] _ h3 (appL [I64] _ h4 (appL [I64] _ h5 ())))))) (true,()) ([.d .bool true],[.one],[]) (law_ProgramBytes g0 g1 g2 g3 g4 g5) rfl

theorem walk {w:World} {h0:HL den LL1} {h1:HL den LL0} {h2:HL den [(.row false I64)]} {h3:HL den [I64]} {h4:HL den [I64]} {h5:HL den [I64]} {v0:Value} {cs1:Array Value} {v2:Value} {v3:Value} {v4:Value} {v5:Value} (g0:GoodL LL1 h0) (g1:GoodL LL0 h1) (g2:GoodL [(.row false I64)] h2) (g3:GoodL [I64] h3) (g4:GoodL [I64] h4) (g5:GoodL [I64] h5) (r0:RelL w (encL LL1 h0) [v0]) (r1:RelL w (encL LL0 h1) cs1.toList) (r2:RelL w (encL [(.row false I64)] h2) [v2]) (r3:RelL w (encL [I64] h3) [v3]) (r4:RelL w (encL [I64] h4) [v4]) (r5:RelL w (encL [I64] h5) [v5]) :
    Calls Try.prog 5 #[v0,.agg cs1,v2,v3,v4,v5] w λe w'=>e=.returned (.bool true)/\Below w.heap.size w w' :=
  (calls_flat (avs:=[v0,.agg cs1,v2,v3,v4,v5]) (runF_ok tt_ok e0_ok libB_ok (NN + 8)) (run g0 g1 g2 g3 g4 g5) rfl rfl λj hj hj'=>by
    match j,hj with
    | 0,_=>exact plain_one r0
    | 1,_=>exact plain_agg r1
    | 2,_=>exact plain_one r2
    | 3,_=>exact plain_one r3
    | 4,_=>exact plain_one r4
    | 5,_=>exact plain_one r5).2

set_option maxRecDepth 100000 in
theorem lifted (os:Os) (started:os.Started) (H:Type) (enc:TypeId × Value->H) :
    ReturnsInHanded {} Try.checked os 5 .any (Rows.programBytesSpec.pre6 enc Try.prog Try.f5 Rows.programBytesRow.domain false) (Rows.programBytesSpec.post enc Try.prog Try.f5 false true false false):=by
  refine returnsInHanded_of_change (C:=Try.checked) own started (by kernel_rfl) Try.func5
    (ChangeSpec.witness6 (enc:=enc) (C:=Try.checked) false ⟨#[],#[.slice none 0 0,.agg #[.slice none 0 0,.slice none 0 0,.slice none 0 0],.slice none 0 0,.int .i64 0,.int .i64 0,.int .i64 0],[]⟩ 8 (by kernel_rfl) (by kernel_rfl) (by kernel_rfl) (by kernel_rfl)) ?_
  intro W base args ds gs before hval0 hW hcnd _
  have hval:∀ (j:Nat) t v,Try.f5.params[j]?=some t->args[j]?=some v->Value.okWide Try.prog W .any base t v:=hval0
  have hW':=hW
  obtain ⟨p,q,hA0,hV,rfl,hfz,hnd⟩:=hW
  have hA:DataW.TrodAll enc Try.prog W 0 (λ_=>true) true Try.f5.params.toList args.toList ds p:=hA0
  rw[Try.params5] at hA hval
  obtain ⟨v0,vs0,d0,ds0,p0,q0,hargs,rfl,rfl,t0,s0⟩:=trodAll_cons hA
  obtain ⟨v1,vs1,d1,ds1,p1,q1,rfl,rfl,rfl,t1,s1⟩:=trodAll_cons s0
  obtain ⟨v2,vs2,d2,ds2,p2,q2,rfl,rfl,rfl,t2,s2⟩:=trodAll_cons s1
  obtain ⟨v3,vs3,d3,ds3,p3,q3,rfl,rfl,rfl,t3,s3⟩:=trodAll_cons s2
  obtain ⟨v4,vs4,d4,ds4,p4,q4,rfl,rfl,rfl,t4,s4⟩:=trodAll_cons s3
  obtain ⟨v5,vs5,d5,ds5,p5,q5,rfl,rfl,rfl,t5,s5⟩:=trodAll_cons s4
  obtain ⟨rfl,rfl,rfl⟩:=trodAll_nil s5
  obtain rfl:args=#[v0,v1,v2,v3,v4,v5]:=by cases args;simp_all
  obtain ⟨rfl,rfl⟩:=trodVars_none hV
  obtain ⟨a0,len0,cap0,rfl⟩:=okWide_slice Try.underlying65 (hval 0 65 v0 rfl rfl)
  have lt0:∀ x ∈ p0,x.block < W.heap.size:=by obtain ⟨m,hm⟩:=t0;exact DataW.trod_lt m _ _ _ hm
  obtain ⟨h0,g0,r0⟩:=intake_arg 30 (L:=LL1) (by kernel_rfl) t0
  obtain ⟨cs1,rfl,_⟩:=okWide_struct Try.underlying26 (hval 1 26 v1 rfl rfl)
  have lt1:∀ x ∈ p1,x.block < W.heap.size:=by obtain ⟨m,hm⟩:=t1;exact DataW.trod_lt m _ _ _ hm
  obtain ⟨h1,g1,r1⟩:=intake_arg 30 (L:=LL0) (by kernel_rfl) t1
  obtain ⟨a2,len2,cap2,rfl⟩:=okWide_slice Try.underlying23 (hval 2 23 v2 rfl rfl)
  have lt2:∀ x ∈ p2,x.block < W.heap.size:=by obtain ⟨m,hm⟩:=t2;exact DataW.trod_lt m _ _ _ hm
  obtain ⟨h2,g2,r2⟩:=intake_arg 30 (L:=[(.row false I64)]) (by kernel_rfl) t2
  obtain ⟨x3,rfl⟩:=okWide_int Try.underlying3 (hval 3 3 v3 rfl rfl)
  have lt3:∀ x ∈ p3,x.block < W.heap.size:=by obtain ⟨m,hm⟩:=t3;exact DataW.trod_lt m _ _ _ hm
  obtain ⟨h3,g3,r3⟩:=intake_arg 30 (L:=[I64]) (by kernel_rfl) t3
  obtain ⟨x4,rfl⟩:=okWide_int Try.underlying3 (hval 4 3 v4 rfl rfl)
  have lt4:∀ x ∈ p4,x.block < W.heap.size:=by obtain ⟨m,hm⟩:=t4;exact DataW.trod_lt m _ _ _ hm
  obtain ⟨h4,g4,r4⟩:=intake_arg 30 (L:=[I64]) (by kernel_rfl) t4
  obtain ⟨x5,rfl⟩:=okWide_int Try.underlying3 (hval 5 3 v5 rfl rfl)
  have lt5:∀ x ∈ p5,x.block < W.heap.size:=by obtain ⟨m,hm⟩:=t5;exact DataW.trod_lt m _ _ _ hm
  obtain ⟨h5,g5,r5⟩:=intake_arg 30 (L:=[I64]) (by kernel_rfl) t5
  clear hA0 hval0
  refine (walk g0 g1 g2 g3 g4 g5 r0 r1 r2 r3 r4 r5).mono λe W' ⟨he,bel⟩=>?_
  subst he
  exact ⟨_,rfl,_,_,_,[],_,[],hW',trodAll_mk1 (shut_bool Try.underlying4 _),(trodAll_cons_mk (Below.trod laidOut (by kernel_rfl) (of_decide_eq_true (by kernel_rfl)) t0 bel lt0) (trodAll_cons_mk (Below.trod laidOut (by kernel_rfl) (of_decide_eq_true (by kernel_rfl)) t1 bel lt1) (trodAll_cons_mk (Below.trod laidOut (by kernel_rfl) (of_decide_eq_true (by kernel_rfl)) t2 bel lt2) (trodAll_cons_mk (Below.trod laidOut (by kernel_rfl) (of_decide_eq_true (by kernel_rfl)) t3 bel lt3) (trodAll_cons_mk (Below.trod laidOut (by kernel_rfl) (of_decide_eq_true (by kernel_rfl)) t4 bel lt4) (trodAll_cons_mk (Below.trod laidOut (by kernel_rfl) (of_decide_eq_true (by kernel_rfl)) t5 bel lt5) trodAll_mk0)))))),rfl,bel.frame _,λh=>by cases h⟩

noncomputable abbrev P0:=Try.pinned.checked.prog
abbrev R0:=Rows.programBytesRow
abbrev S0:=Rows.programBytesSpec
theorem band {a b:Bool} (h:a=true) (g:b=true):(a && b)=true:=by rw[h,g];rfl
theorem pre1:(R0.wf (OpenSpec.ofChange S0) && laidOutB P0 && mapsRowed P0 && Try.f5.params.all (P0.readableRec ·) && namedTie P0 R0.named S0.vars && (R0.stops == []) && (P0.stops == []) && (R0.knobs == []) && (P0.stopKnobs == []) && (R0.inPlace == P0.inPlace 5) && (R0.unfollowed == P0.unfollowed 5) && (R0.recurses == P0.recurses 5) && (R0.named == P0.varsNamed 5))=true:=by kernel_rfl
theorem key1:(R0.plainKeys == P0.plainKeys)=true:=by kernel_rfl
theorem hear1:P0.stopsHeard=true:=by kernel_rfl
theorem may1:P0.mayEnter=true:=by kernel_rfl
theorem lift1:(R0.lifted == P0.liftsFinal)=true:=by kernel_rfl
theorem closed1:joinedFacts P0 5 Try.f5 S0 R0=true:=(band (band (band (band (band (band (band (band (band (band (band (band (band (band (band (band (band (band (band pre1 (by kernel_rfl)) (by kernel_rfl)) (by kernel_rfl)) (by kernel_rfl)) (by kernel_rfl)) (by kernel_rfl)) (by kernel_rfl)) (by kernel_rfl)) (by kernel_rfl)) key1) (by kernel_rfl)) hear1) may1) lift1) (by kernel_rfl)) (by kernel_rfl)) (by kernel_rfl)) (by kernel_rfl)) (by kernel_rfl))
theorem over:Rows.programBytesRow.holds Try.pinned (OpenSpec.ofChange Rows.programBytesSpec) :=
  OpenClaim.holds_of_wide 5 Try.f5 rfl rfl rfl rfl rfl rfl rfl ⟨rfl,rfl,rfl,rfl,rfl⟩ rfl rfl rfl rfl rfl (by kernel_rfl) Try.func5 closed1
    (of_decide_eq_true (by kernel_rfl)) (by unfold Func.isWrapper;first | (rw[if_pos (by decide +kernel)];kernel_rfl) | (rw[if_neg (by decide +kernel)];exact ⟨rfl,rfl⟩))
    (λos started H enc _=>lifted os started H enc)

end Go.Proofs.Ytgphpfjngblbiaa.programBytes
namespace Go.Proofs.Ytgphpfjngblbiaa
theorem programBytes_holds:Rows.ProgramBytesSaid:=programBytes.over
#print axioms programBytes_holds
end Go.Proofs.Ytgphpfjngblbiaa
