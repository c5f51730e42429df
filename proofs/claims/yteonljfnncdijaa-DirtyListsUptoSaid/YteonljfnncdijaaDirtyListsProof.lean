/- For every input the law DirtyLists returns true and changes nothing;no condition. -/
import Derived.Test.YteonljfnncdijaaRows
import Derived.WalkKit
import Derived.ProofKit
import Derived.OpenShut
import Derived.ShutString
import Derived.ChangeOld
import Derived.Below
import Derived.JoinedCond
import Derived.Test.YteonljfnncdijaaDd
namespace Go.Proofs.Yteonljfnncdijaa.dirtyLists
open Go.ChangeShapes Go.WideShapes Go.ChangeAt Go.RowKit
set_option linter.unusedVariables false

abbrev LL0:List CT:=[(.row false (.int .u8))]
theorem own:ownKnob Try.prog.godebug=none:=by kernel_rfl
theorem laidOut:laidOutB Try.prog=true:=by kernel_rfl

theorem run {h0:HL den LL0} {h1:HL den LL0} {h2:HL den [I64]} (g0:GoodL LL0 h0) (g1:GoodL LL0 h1) (g2:GoodL [I64] h2) (hz:sizL LL0 h0 + (sizL LL0 h1 + (sizL [I64] h2 + (0))) <= 1048576) :
    runF E0 TT libB (NN + 4) 3 [(encL LL0 h0).headD .dead,(encL LL0 h1).headD .dead,(encL [I64] h2).headD .dead] []=some (⟨[.v (.bool true)],[.one]⟩,[]) :=
  k_law27_DirtyLists 4 (Nat.le_refl _) (appL LL0 _ h0 (appL LL0 _ h1 (appL [I64] _ h2 ()))) (true,()) ([.d .bool true],[.one],[]) (law_DirtyLists g0 g1 g2 hz) rfl

theorem walk {w:World} {h0:HL den LL0} {h1:HL den LL0} {h2:HL den [I64]} {v0:Value} {v1:Value} {v2:Value} (g0:GoodL LL0 h0) (g1:GoodL LL0 h1) (g2:GoodL [I64] h2) (hz:sizL LL0 h0 + (sizL LL0 h1 + (sizL [I64] h2 + (0))) <= 1048576) (r0:RelL w (encL LL0 h0) [v0]) (r1:RelL w (encL LL0 h1) [v1]) (r2:RelL w (encL [I64] h2) [v2]) :
    Calls Try.prog 3 #[v0,v1,v2] w λe w'=>e=.returned (.bool true)/\Below w.heap.size w w' :=
  (calls_flat (avs:=[v0,v1,v2]) (runF_ok tt_ok e0_ok libB_ok (NN + 4)) (run g0 g1 g2 hz) rfl rfl λj hj hj'=>by
    match j,hj with
    | 0,_=>exact plain_one r0
    | 1,_=>exact plain_one r1
    | 2,_=>exact plain_one r2).2

set_option maxRecDepth 100000 in
theorem all_sum {H:Type}:∀ ds:List (DataW H),Rows.uptoBulkAll ds=(ds.map Rows.uptoBulk).sum
  | []=>by rw[Rows.uptoBulkAll];rfl
  | d :: r=>by rw[Rows.uptoBulkAll,all_sum r];rfl
theorem bulkB {H:Type}:Bulk (Rows.uptoBulk (H:=H)):=⟨λl=>by cases l <;> simp [Rows.uptoBulk],by rw[Rows.uptoBulk];exact Nat.le_refl _,λes rs=>by rw[Rows.uptoBulk,all_sum];omega,λxs=>by rw[Rows.uptoBulk,all_sum];omega⟩
set_option maxRecDepth 100000 in
theorem lifted (os:Os) (started:os.Started) (H:Type) (enc:TypeId × Value->H) (F:Stop.Interp) :
    ReturnsInHanded {} Try.checked os 3 .any ((Rows.OpenSpec.upto Rows.dirtyListsSpec).pre6 enc Try.prog Try.f3 Rows.dirtyListsUptoRow.domain false) (((Rows.OpenSpec.upto Rows.dirtyListsSpec).at F).post enc Try.prog Try.f3 false true false false):=by
  refine returnsInHanded_of_cond (C:=Try.checked) (s:=Rows.OpenSpec.upto Rows.dirtyListsSpec) (k:=Rows.uptoSmall) rfl own started (by kernel_rfl) Try.func3
    (OpenSpec.witness (enc:=enc) (C:=Try.checked) (s:=Rows.OpenSpec.upto Rows.dirtyListsSpec) (k:=Rows.uptoSmall) rfl false ⟨#[],#[.slice none 0 0,.slice none 0 0,.int .i64 0],[]⟩ 8 (by kernel_rfl) (by kernel_rfl) (by kernel_rfl)
      (x:=([.nil,.nil,.lit (.int .i64 0)],[],[])) (by kernel_rfl) rfl (by simp [Rows.uptoSmall,Rows.uptoBulkAll,Rows.uptoBulk])) ?_
  intro W base args ds gs before hval0 hW hcnd hk _
  have hval:∀ (j:Nat) t v,Try.f3.params[j]?=some t->args[j]?=some v->Value.okWide Try.prog W .any base t v:=hval0
  have hW':=hW
  obtain ⟨p,q,hA0,hV,rfl,hfz,hnd⟩:=hW
  have hA:DataW.TrodAll enc Try.prog W 0 (λ_=>true) true Try.f3.params.toList args.toList ds p:=hA0
  rw[Try.params3] at hA hval
  obtain ⟨v0,vs0,d0,ds0,p0,q0,hargs,rfl,rfl,t0,s0⟩:=trodAll_cons hA
  obtain ⟨v1,vs1,d1,ds1,p1,q1,rfl,rfl,rfl,t1,s1⟩:=trodAll_cons s0
  obtain ⟨v2,vs2,d2,ds2,p2,q2,rfl,rfl,rfl,t2,s2⟩:=trodAll_cons s1
  obtain ⟨rfl,rfl,rfl⟩:=trodAll_nil s2
  obtain rfl:args=#[v0,v1,v2]:=by cases args;simp_all
  obtain ⟨rfl,rfl⟩:=trodVars_none hV
  obtain ⟨a0,len0,cap0,rfl⟩:=okWide_slice Try.underlying22 (hval 0 22 v0 rfl rfl)
  have lt0:∀ x ∈ p0,x.block < W.heap.size:=by obtain ⟨m,hm⟩:=t0;exact DataW.trod_lt m _ _ _ hm
  obtain ⟨h0,g0,r0,z0⟩:=intake_arg bulkB 30 (L:=LL0) (by kernel_rfl) t0
  obtain ⟨a1,len1,cap1,rfl⟩:=okWide_slice Try.underlying22 (hval 1 22 v1 rfl rfl)
  have lt1:∀ x ∈ p1,x.block < W.heap.size:=by obtain ⟨m,hm⟩:=t1;exact DataW.trod_lt m _ _ _ hm
  obtain ⟨h1,g1,r1,z1⟩:=intake_arg bulkB 30 (L:=LL0) (by kernel_rfl) t1
  obtain ⟨x2,rfl⟩:=okWide_int Try.underlying3 (hval 2 3 v2 rfl rfl)
  have lt2:∀ x ∈ p2,x.block < W.heap.size:=by obtain ⟨m,hm⟩:=t2;exact DataW.trod_lt m _ _ _ hm
  obtain ⟨h2,g2,r2,z2⟩:=intake_arg bulkB 30 (L:=[I64]) (by kernel_rfl) t2
  clear hA0 hval0
  have hz:sizL LL0 h0 + (sizL LL0 h1 + (sizL [I64] h2 + (0))) <= 1048576:=by
    have:=of_decide_eq_true hk
    simp only [List.append_nil,Rows.uptoBulkAll] at this
    omega
  refine (walk g0 g1 g2 hz r0 r1 r2).mono λe W' ⟨he,bel⟩=>?_
  subst he
  exact ⟨_,rfl,_,_,_,[],_,[],hW',trodAll_mk1 (shut_bool Try.underlying4 _),(trodAll_cons_mk (Below.trod laidOut (by kernel_rfl) (of_decide_eq_true (by kernel_rfl)) t0 bel lt0) (trodAll_cons_mk (Below.trod laidOut (by kernel_rfl) (of_decide_eq_true (by kernel_rfl)) t1 bel lt1) (trodAll_cons_mk (Below.trod laidOut (by kernel_rfl) (of_decide_eq_true (by kernel_rfl)) t2 bel lt2) trodAll_mk0))),rfl,bel.frame _,λh=>by cases h⟩

noncomputable abbrev P0:=Try.pinned.checked.prog
abbrev R0:=Rows.dirtyListsRow
abbrev S0:=Rows.dirtyListsSpec
theorem band {a b:Bool} (h:a=true) (g:b=true):(a && b)=true:=by rw[h,g];rfl
theorem pre1:(Rows.dirtyListsUptoRow.wf (OpenSpec.ofChange (Rows.OpenSpec.upto S0).bare) && laidOutB P0 && mapsRowed P0 && Try.f3.params.all (P0.readableRec ·) && namedTie P0 Rows.dirtyListsUptoRow.named (Rows.OpenSpec.upto S0).bare.vars && (Rows.dirtyListsUptoRow.stops == []) && (P0.stops == []) && (Rows.dirtyListsUptoRow.knobs == []) && (P0.stopKnobs == []) && (Rows.dirtyListsUptoRow.inPlace == P0.inPlace 3) && (Rows.dirtyListsUptoRow.unfollowed == P0.unfollowed 3) && (Rows.dirtyListsUptoRow.recurses == P0.recurses 3) && (Rows.dirtyListsUptoRow.named == P0.varsNamed 3))=true:=by kernel_rfl
theorem key1:(Rows.dirtyListsUptoRow.plainKeys == P0.plainKeys)=true:=by kernel_rfl
theorem hear1:P0.stopsHeard=true:=by kernel_rfl
theorem may1:P0.mayEnter=true:=by kernel_rfl
theorem lift1:(Rows.dirtyListsUptoRow.lifted == P0.liftsFinal)=true:=by kernel_rfl
theorem closed1:joinedFacts P0 3 Try.f3 (Rows.OpenSpec.upto S0).bare Rows.dirtyListsUptoRow=true:=(band (band (band (band (band (band (band (band (band (band (band (band (band (band (band (band (band (band (band pre1 (by kernel_rfl)) (by kernel_rfl)) (by kernel_rfl)) (by kernel_rfl)) (by kernel_rfl)) (by kernel_rfl)) (by kernel_rfl)) (by kernel_rfl)) (by kernel_rfl)) key1) (by kernel_rfl)) hear1) may1) lift1) (by kernel_rfl)) (by kernel_rfl)) (by kernel_rfl)) (by kernel_rfl)) (by kernel_rfl))
theorem over:Rows.dirtyListsUptoRow.holds Try.pinned (Rows.OpenSpec.upto Rows.dirtyListsSpec) :=
  OpenClaim.holds_of_cond 3 Try.f3 rfl rfl rfl rfl rfl rfl rfl ⟨rfl,rfl,rfl,rfl,rfl⟩ rfl rfl rfl rfl rfl (by kernel_rfl) Try.func3 closed1
    (of_decide_eq_true (by kernel_rfl)) (by unfold Func.isWrapper;first | (rw[if_pos (by decide +kernel)];kernel_rfl) | (rw[if_neg (by decide +kernel)];exact ⟨rfl,rfl⟩))
    (λos started H enc _ F=>lifted os started H enc F)

end Go.Proofs.Yteonljfnncdijaa.dirtyLists
namespace Go.Proofs.Yteonljfnncdijaa
theorem dirtyLists_holds:Rows.DirtyListsUptoSaid:=dirtyLists.over
#print axioms dirtyLists_holds
end Go.Proofs.Yteonljfnncdijaa
