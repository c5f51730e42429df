/- For every input the law FinishOnly returns true and changes nothing;no condition. -/
import Derived.Test.YtabfnmgabblofaaGreatRows
import Derived.WalkKit
import Derived.ProofKit
import Derived.OpenShut
import Derived.ShutString
import Derived.ChangeOld
import Derived.Below
import Derived.Test.YtabfnmgabblofaaGreatHf
namespace Go.Proofs.YtabfnmgabblofaaGreat.finishOnly
open Go.ChangeShapes Go.WideShapes Go.ChangeAt Go.RowKit
set_option linter.unusedVariables false

theorem own:ownKnob Tryz.prog.godebug=none:=by kernel_rfl
theorem laidOut:laidOutB Tryz.prog=true:=by kernel_rfl

theorem run {h0:HL den [(.row false I64)]} (g0:GoodL [(.row false I64)] h0) :
    runF E0 TT noB (NN + 13) 4 [(encL [(.row false I64)] h0).headD .dead] []=some (⟨[.v (.bool true)],[.one]⟩,[]) :=
  k_law14_FinishOnly 13 (Nat.le_refl _) (appL [(.row false I64)] _ h0 ()) (true,()) ([.d .bool true],[.one],[]) (law_FinishOnly g0) rfl

theorem walk {w:World} {h0:HL den [(.row false I64)]} {v0:Value} (g0:GoodL [(.row false I64)] h0) (r0:RelL w (encL [(.row false I64)] h0) [v0]) :
    Calls Tryz.prog 4 #[v0] w λe w'=>e=.returned (.bool true)/\Below w.heap.size w w' :=
  (calls_flat (avs:=[v0]) (runF_ok tt_ok e0_ok noB_ok (NN + 13)) (run g0) rfl rfl λj hj hj'=>by
    match j,hj with
    | 0,_=>exact plain_one r0).2

set_option maxRecDepth 100000 in
theorem lifted (os:Os) (started:os.Started) (H:Type) (enc:TypeId × Value->H) :
    ReturnsInHanded {} Tryz.checked os 4 .any (Rows.finishOnlySpec.pre6 enc Tryz.prog Tryz.f4 Rows.finishOnlyRow.domain false) (Rows.finishOnlySpec.post enc Tryz.prog Tryz.f4 false true false false):=by
  refine returnsInHanded_of_change (C:=Tryz.checked) own started (by kernel_rfl) Tryz.func4
    (ChangeSpec.witness6 (enc:=enc) (C:=Tryz.checked) false ⟨#[],#[.slice none 0 0],[]⟩ 8 (by kernel_rfl) (by kernel_rfl) (by kernel_rfl) (by kernel_rfl)) ?_
  intro W base args ds gs before hval0 hW hcnd _
  have hval:∀ (j:Nat) t v,Tryz.f4.params[j]?=some t->args[j]?=some v->Value.okWide Tryz.prog W .any base t v:=hval0
  have hW':=hW
  obtain ⟨p,q,hA0,hV,rfl,hfz,hnd⟩:=hW
  have hA:DataW.TrodAll enc Tryz.prog W 0 (λ_=>true) true Tryz.f4.params.toList args.toList ds p:=hA0
  rw[Tryz.params4] at hA hval
  obtain ⟨v0,vs0,d0,ds0,p0,q0,hargs,rfl,rfl,t0,s0⟩:=trodAll_cons hA
  obtain ⟨rfl,rfl,rfl⟩:=trodAll_nil s0
  obtain rfl:args=#[v0]:=by cases args;simp_all
  obtain ⟨rfl,rfl⟩:=trodVars_none hV
  obtain ⟨a0,len0,cap0,rfl⟩:=okWide_slice Tryz.underlying22 (hval 0 22 v0 rfl rfl)
  have lt0:∀ x ∈ p0,x.block < W.heap.size:=by obtain ⟨m,hm⟩:=t0;exact DataW.trod_lt m _ _ _ hm
  obtain ⟨h0,g0,r0⟩:=intake_arg 30 (L:=[(.row false I64)]) (by kernel_rfl) t0
  clear hA0 hval0
  refine (walk g0 r0).mono λe W' ⟨he,bel⟩=>?_
  subst he
  exact ⟨_,rfl,_,_,_,[],_,[],hW',trodAll_mk1 (shut_bool Tryz.underlying4 _),(trodAll_cons_mk (Below.trod laidOut (by kernel_rfl) (of_decide_eq_true (by kernel_rfl)) t0 bel lt0) trodAll_mk0),rfl,bel.frame _,λh=>by cases h⟩

noncomputable abbrev P0:=Tryz.pinned.checked.prog
abbrev R0:=Rows.finishOnlyRow
abbrev S0:=Rows.finishOnlySpec
theorem band {a b:Bool} (h:a=true) (g:b=true):(a && b)=true:=by rw[h,g];rfl
theorem pre1:(R0.wf (OpenSpec.ofChange S0) && laidOutB P0 && mapsRowed P0 && Tryz.f4.params.all (P0.readableRec ·) && namedTie P0 R0.named S0.vars && (R0.stops == []) && (P0.stops == []) && (R0.knobs == []) && (P0.stopKnobs == []) && (R0.inPlace == P0.inPlace 4) && (R0.unfollowed == P0.unfollowed 4) && (R0.recurses == P0.recurses 4) && (R0.named == P0.varsNamed 4))=true:=by kernel_rfl
theorem key1:(R0.plainKeys == P0.plainKeys)=true:=by kernel_rfl
theorem hear1:P0.stopsHeard=true:=by kernel_rfl
theorem may1:P0.mayEnter=true:=by kernel_rfl
theorem lift1:(R0.lifted == P0.liftsFinal)=true:=by kernel_rfl
theorem closed1:joinedFacts P0 4 Tryz.f4 S0 R0=true:=(band (band (band (band (band (band (band (band (band (band (band (band (band (band (band (band (band (band (band pre1 (by kernel_rfl)) (by kernel_rfl)) (by kernel_rfl)) (by kernel_rfl)) (by kernel_rfl)) (by kernel_rfl)) (by kernel_rfl)) (by kernel_rfl)) (by kernel_rfl)) key1) (by kernel_rfl)) hear1) may1) lift1) (by kernel_rfl)) (by kernel_rfl)) (by kernel_rfl)) (by kernel_rfl)) (by kernel_rfl))
theorem over:Rows.finishOnlyRow.holds Tryz.pinned (OpenSpec.ofChange Rows.finishOnlySpec) :=
  OpenClaim.holds_of_wide 4 Tryz.f4 rfl rfl rfl rfl rfl rfl rfl ⟨rfl,rfl,rfl,rfl,rfl⟩ rfl rfl rfl rfl rfl (by kernel_rfl) Tryz.func4 closed1
    (of_decide_eq_true (by kernel_rfl)) (by unfold Func.isWrapper;first | (rw[if_pos (by decide +kernel)];kernel_rfl) | (rw[if_neg (by decide +kernel)];exact ⟨rfl,rfl⟩))
    (λos started H enc _=>lifted os started H enc)

end Go.Proofs.YtabfnmgabblofaaGreat.finishOnly
namespace Go.Proofs.YtabfnmgabblofaaGreat
theorem finishOnly_holds:Rows.FinishOnlySaid:=finishOnly.over
#print axioms finishOnly_holds
end Go.Proofs.YtabfnmgabblofaaGreat
