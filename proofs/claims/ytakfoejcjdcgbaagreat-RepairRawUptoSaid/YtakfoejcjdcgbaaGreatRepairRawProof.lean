/- For every input the law RepairRaw returns true and changes nothing;no condition. -/
import Derived.Test.YtakfoejcjdcgbaaGreatRows
import Derived.WalkKit
import Derived.ProofKit
import Derived.OpenShut
import Derived.ShutString
import Derived.ChangeOld
import Derived.Below
import Derived.JoinedCond
import Derived.Test.YtakfoejcjdcgbaaGreatRf
namespace Go.Proofs.YtakfoejcjdcgbaaGreat.repairRaw
open Go.ChangeShapes Go.WideShapes Go.ChangeAt Go.RowKit
set_option linter.unusedVariables false

abbrev LL0:List CT:=[I64,I64,(.row false (.row false (.pair (.int .u8) (.pair (.int .u16) (.pair I64 I64))))),(.row false (.pair I64 (.pair I64 (.pair I64 (.pair I64 (.pair I64 (.pair I64 (.pair (.int .u16) (.row false (.pair (.int .u8) (.pair (.int .u16) (.pair I64 I64)))))))))))),(.row false (.pair I64 I64)),I64]
abbrev LL1:List CT:=[(.row false (.pair (.row false (.row false (.pair (.int .u8) (.pair (.int .u16) (.pair I64 I64))))) (.row false (.pair I64 (.pair I64 (.pair I64 (.pair I64 (.pair I64 (.pair I64 (.pair (.int .u16) (.row false (.pair (.int .u8) (.pair (.int .u16) (.pair I64 I64))))))))))))))]
theorem own:ownKnob Tryz.prog.godebug=none:=by kernel_rfl
theorem laidOut:laidOutB Tryz.prog=true:=by kernel_rfl

theorem run {h0:HL den LL1} {h1:HL den [(.row false .bool)]} {h2:HL den [I64,I64]} {h3:HL den [I64]} {h4:HL den LL0} {h5:HL den [I64]} (g0:GoodL LL1 h0) (g1:GoodL [(.row false .bool)] h1) (g2:GoodL [I64,I64] h2) (g3:GoodL [I64] h3) (g4:GoodL LL0 h4) (g5:GoodL [I64] h5) (hz:sizL LL1 h0 + (sizL [(.row false .bool)] h1 + (sizL [I64,I64] h2 + (sizL [I64] h3 + (sizL LL0 h4 + (sizL [I64] h5 + (0)))))) <= 1048576) :
    runF E0 TT libBj (NN + 11) 3 [(encL LL1 h0).headD .dead,(encL [(.row false .bool)] h1).headD .dead,.agg (encL [I64,I64] h2),(encL [I64] h3).headD .dead,.agg (encL LL0 h4),(encL [I64] h5).headD .dead] []=some (⟨[.v (.bool true)],[.one]⟩,[]) :=
  k_law34_RepairRaw 11 (Nat.le_refl _) (appL LL1 _ h0 (appL [(.row false .bool)] _ h1 (appL [I64,I64] _ h2 (appL [I64] _ h3 (appL LL0 _ h4 (appL [I64] _ h5 ())))))) (true,()) ([.d .bool true],[.one],[]) (law_RepairRaw g0 g1 g2 g3 g4 g5 hz) rfl

theorem walk {w:World} {h0:HL den LL1} {h1:HL den [(.row false .bool)]} {h2:HL den [I64,I64]} {h3:HL den [I64]} {h4:HL den LL0} {h5:HL den [I64]} {v0:Value} {v1:Value} {cs2:Array Value} {v3:Value} {cs4:Array Value} {v5:Value} (g0:GoodL LL1 h0) (g1:GoodL [(.row false .bool)] h1) (g2:GoodL [I64,I64] h2) (g3:GoodL [I64] h3) (g4:GoodL LL0 h4) (g5:GoodL [I64] h5) (hz:sizL LL1 h0 + (sizL [(.row false .bool)] h1 + (sizL [I64,I64] h2 + (sizL [I64] h3 + (sizL LL0 h4 + (sizL [I64] h5 + (0)))))) <= 1048576) (r0:RelL w (encL LL1 h0) [v0]) (r1:RelL w (encL [(.row false .bool)] h1) [v1]) (r2:RelL w (encL [I64,I64] h2) cs2.toList) (r3:RelL w (encL [I64] h3) [v3]) (r4:RelL w (encL LL0 h4) cs4.toList) (r5:RelL w (encL [I64] h5) [v5]) :
    Calls Tryz.prog 3 #[v0,v1,.agg cs2,v3,.agg cs4,v5] w λe w'=>e=.returned (.bool true)/\Below w.heap.size w w' :=
  (calls_flat (avs:=[v0,v1,.agg cs2,v3,.agg cs4,v5]) (runF_ok tt_ok e0_ok libBj_ok (NN + 11)) (run g0 g1 g2 g3 g4 g5 hz) rfl rfl λj hj hj'=>by
    match j,hj with
    | 0,_=>exact plain_one r0
    | 1,_=>exact plain_one r1
    | 2,_=>exact plain_agg r2
    | 3,_=>exact plain_one r3
    | 4,_=>exact plain_agg r4
    | 5,_=>exact plain_one r5).2

set_option maxRecDepth 100000 in
theorem all_sum {H:Type}:∀ ds:List (DataW H),Rows.uptoBulkAll ds=(ds.map Rows.uptoBulk).sum
  | []=>by rw[Rows.uptoBulkAll];rfl
  | d :: r=>by rw[Rows.uptoBulkAll,all_sum r];rfl
theorem bulkB {H:Type}:Bulk (Rows.uptoBulk (H:=H)):=⟨λl=>by cases l <;> simp [Rows.uptoBulk],by rw[Rows.uptoBulk];exact Nat.le_refl _,λes rs=>by rw[Rows.uptoBulk,all_sum];omega,λxs=>by rw[Rows.uptoBulk,all_sum];omega⟩
set_option maxRecDepth 100000 in
theorem lifted (os:Os) (started:os.Started) (H:Type) (enc:TypeId × Value->H) (F:Stop.Interp) :
    ReturnsInHanded {} Tryz.checked os 3 .any ((Rows.OpenSpec.upto Rows.repairRawSpec).pre6 enc Tryz.prog Tryz.f3 Rows.repairRawUptoRow.domain false) (((Rows.OpenSpec.upto Rows.repairRawSpec).at F).post enc Tryz.prog Tryz.f3 false true false false):=by
  refine returnsInHanded_of_cond (C:=Tryz.checked) (s:=Rows.OpenSpec.upto Rows.repairRawSpec) (k:=Rows.uptoSmall) rfl own started (by kernel_rfl) Tryz.func3
    (OpenSpec.witness (enc:=enc) (C:=Tryz.checked) (s:=Rows.OpenSpec.upto Rows.repairRawSpec) (k:=Rows.uptoSmall) rfl false ⟨#[],#[.slice none 0 0,.slice none 0 0,.agg #[.int .i64 0,.int .i64 0],.int .i64 0,.agg #[.int .i64 0,.int .i64 0,.slice none 0 0,.slice none 0 0,.slice none 0 0,.int .i64 0],.int .i64 0],[]⟩ 8 (by kernel_rfl) (by kernel_rfl) (by kernel_rfl)
      (x:=([.nil,.nil,.agg [.lit (.int .i64 0),.lit (.int .i64 0)],.lit (.int .i64 0),.agg [.lit (.int .i64 0),.lit (.int .i64 0),.agg [.nil,.nil],.nil,.lit (.int .i64 0)],.lit (.int .i64 0)],[],[])) (by kernel_rfl) rfl (by simp [Rows.uptoSmall,Rows.uptoBulkAll,Rows.uptoBulk])) ?_
  intro W base args ds gs before hval0 hW hcnd hk _
  have hval:∀ (j:Nat) t v,Tryz.f3.params[j]?=some t->args[j]?=some v->Value.okWide Tryz.prog W .any base t v:=hval0
  have hW':=hW
  obtain ⟨p,q,hA0,hV,rfl,hfz,hnd⟩:=hW
  have hA:DataW.TrodAll enc Tryz.prog W 0 (λ_=>true) true Tryz.f3.params.toList args.toList ds p:=hA0
  rw[Tryz.params3] at hA hval
  obtain ⟨v0,vs0,d0,ds0,p0,q0,hargs,rfl,rfl,t0,s0⟩:=trodAll_cons hA
  obtain ⟨v1,vs1,d1,ds1,p1,q1,rfl,rfl,rfl,t1,s1⟩:=trodAll_cons s0
  obtain ⟨v2,vs2,d2,ds2,p2,q2,rfl,rfl,rfl,t2,s2⟩:=trodAll_cons s1
  obtain ⟨v3,vs3,d3,ds3,p3,q3,rfl,rfl,rfl,t3,s3⟩:=trodAll_cons s2
  obtain ⟨v4,vs4,d4,ds4,p4,q4,rfl,rfl,rfl,t4,s4⟩:=trodAll_cons s3
  obtain ⟨v5,vs5,d5,ds5,p5,q5,rfl,rfl,rfl,t5,s5⟩:=trodAll_cons s4
  obtain ⟨rfl,rfl,rfl⟩:=trodAll_nil s5
  obtain rfl:args=#[v0,v1,v2,v3,v4,v5]:=by cases args;simp_all
  obtain ⟨rfl,rfl⟩:=trodVars_none hV
  obtain ⟨a0,len0,cap0,rfl⟩:=okWide_slice Tryz.underlying22 (hval 0 22 v0 rfl rfl)
  have lt0:∀ x ∈ p0,x.block < W.heap.size:=by obtain ⟨m,hm⟩:=t0;exact DataW.trod_lt m _ _ _ hm
  obtain ⟨h0,g0,r0,z0⟩:=intake_arg bulkB 30 (L:=LL1) (by kernel_rfl) t0
  obtain ⟨a1,len1,cap1,rfl⟩:=okWide_slice Tryz.underlying23 (hval 1 23 v1 rfl rfl)
  have lt1:∀ x ∈ p1,x.block < W.heap.size:=by obtain ⟨m,hm⟩:=t1;exact DataW.trod_lt m _ _ _ hm
  obtain ⟨h1,g1,r1,z1⟩:=intake_arg bulkB 30 (L:=[(.row false .bool)]) (by kernel_rfl) t1
  obtain ⟨cs2,rfl,_⟩:=okWide_struct Tryz.underlying25 (hval 2 25 v2 rfl rfl)
  have lt2:∀ x ∈ p2,x.block < W.heap.size:=by obtain ⟨m,hm⟩:=t2;exact DataW.trod_lt m _ _ _ hm
  obtain ⟨h2,g2,r2,z2⟩:=intake_arg bulkB 30 (L:=[I64,I64]) (by kernel_rfl) t2
  obtain ⟨x3,rfl⟩:=okWide_int Tryz.underlying3 (hval 3 3 v3 rfl rfl)
  have lt3:∀ x ∈ p3,x.block < W.heap.size:=by obtain ⟨m,hm⟩:=t3;exact DataW.trod_lt m _ _ _ hm
  obtain ⟨h3,g3,r3,z3⟩:=intake_arg bulkB 30 (L:=[I64]) (by kernel_rfl) t3
  obtain ⟨cs4,rfl,_⟩:=okWide_struct Tryz.underlying32 (hval 4 32 v4 rfl rfl)
  have lt4:∀ x ∈ p4,x.block < W.heap.size:=by obtain ⟨m,hm⟩:=t4;exact DataW.trod_lt m _ _ _ hm
  obtain ⟨h4,g4,r4,z4⟩:=intake_arg bulkB 30 (L:=LL0) (by kernel_rfl) t4
  obtain ⟨x5,rfl⟩:=okWide_int Tryz.underlying3 (hval 5 3 v5 rfl rfl)
  have lt5:∀ x ∈ p5,x.block < W.heap.size:=by obtain ⟨m,hm⟩:=t5;exact DataW.trod_lt m _ _ _ hm
  obtain ⟨h5,g5,r5,z5⟩:=intake_arg bulkB 30 (L:=[I64]) (by kernel_rfl) t5
  clear hA0 hval0
  have hz:sizL LL1 h0 + (sizL [(.row false .bool)] h1 + (sizL [I64,I64] h2 + (sizL [I64] h3 + (sizL LL0 h4 + (sizL [I64] h5 + (0)))))) <= 1048576:=by
    have:=of_decide_eq_true hk
    simp only [List.append_nil,Rows.uptoBulkAll] at this
    omega
  refine (walk g0 g1 g2 g3 g4 g5 hz r0 r1 r2 r3 r4 r5).mono λe W' ⟨he,bel⟩=>?_
  subst he
  exact ⟨_,rfl,_,_,_,[],_,[],hW',trodAll_mk1 (shut_bool Tryz.underlying4 _),(trodAll_cons_mk (Below.trod laidOut (by kernel_rfl) (of_decide_eq_true (by kernel_rfl)) t0 bel lt0) (trodAll_cons_mk (Below.trod laidOut (by kernel_rfl) (of_decide_eq_true (by kernel_rfl)) t1 bel lt1) (trodAll_cons_mk (Below.trod laidOut (by kernel_rfl) (of_decide_eq_true (by kernel_rfl)) t2 bel lt2) (trodAll_cons_mk (Below.trod laidOut (by kernel_rfl) (of_decide_eq_true (by kernel_rfl)) t3 bel lt3) (trodAll_cons_mk (Below.trod laidOut (by kernel_rfl) (of_decide_eq_true (by kernel_rfl)) t4 bel lt4) (trodAll_cons_mk (Below.trod laidOut (by kernel_rfl) (of_decide_eq_true (by kernel_rfl)) t5 bel lt5) trodAll_mk0)))))),rfl,bel.frame _,λh=>by cases h⟩

noncomputable abbrev P0:=Tryz.pinned.checked.prog
abbrev R0:=Rows.repairRawRow
abbrev S0:=Rows.repairRawSpec
theorem band {a b:Bool} (h:a=true) (g:b=true):(a && b)=true:=by rw[h,g];rfl
theorem pre1:(Rows.repairRawUptoRow.wf (OpenSpec.ofChange (Rows.OpenSpec.upto S0).bare) && laidOutB P0 && mapsRowed P0 && Tryz.f3.params.all (P0.readableRec ·) && namedTie P0 Rows.repairRawUptoRow.named (Rows.OpenSpec.upto S0).bare.vars && (Rows.repairRawUptoRow.stops == []) && (P0.stops == []) && (Rows.repairRawUptoRow.knobs == []) && (P0.stopKnobs == []) && (Rows.repairRawUptoRow.inPlace == P0.inPlace 3) && (Rows.repairRawUptoRow.unfollowed == P0.unfollowed 3) && (Rows.repairRawUptoRow.recurses == P0.recurses 3) && (Rows.repairRawUptoRow.named == P0.varsNamed 3))=true:=by kernel_rfl
theorem key1:(Rows.repairRawUptoRow.plainKeys == P0.plainKeys)=true:=by kernel_rfl
theorem hear1:P0.stopsHeard=true:=by kernel_rfl
theorem may1:P0.mayEnter=true:=by kernel_rfl
theorem lift1:(Rows.repairRawUptoRow.lifted == P0.liftsFinal)=true:=by kernel_rfl
theorem closed1:joinedFacts P0 3 Tryz.f3 (Rows.OpenSpec.upto S0).bare Rows.repairRawUptoRow=true:=(band (band (band (band (band (band (band (band (band (band (band (band (band (band (band (band (band (band (band pre1 (by kernel_rfl)) (by kernel_rfl)) (by kernel_rfl)) (by kernel_rfl)) (by kernel_rfl)) (by kernel_rfl)) (by kernel_rfl)) (by kernel_rfl)) (by kernel_rfl)) key1) (by kernel_rfl)) hear1) may1) lift1) (by kernel_rfl)) (by kernel_rfl)) (by kernel_rfl)) (by kernel_rfl)) (by kernel_rfl))
theorem over:Rows.repairRawUptoRow.holds Tryz.pinned (Rows.OpenSpec.upto Rows.repairRawSpec) :=
  OpenClaim.holds_of_cond 3 Tryz.f3 rfl rfl rfl rfl rfl rfl rfl ⟨rfl,rfl,rfl,rfl,rfl⟩ rfl rfl rfl rfl rfl (by kernel_rfl) Tryz.func3 closed1
    (of_decide_eq_true (by kernel_rfl)) (by unfold Func.isWrapper;first | (rw[if_pos (by decide +kernel)];kernel_rfl) | (rw[if_neg (by decide +kernel)];exact ⟨rfl,rfl⟩))
    (λos started H enc _ F=>lifted os started H enc F)

end Go.Proofs.YtakfoejcjdcgbaaGreat.repairRaw
namespace Go.Proofs.YtakfoejcjdcgbaaGreat
theorem repairRaw_holds:Rows.RepairRawUptoSaid:=repairRaw.over
#print axioms repairRaw_holds
end Go.Proofs.YtakfoejcjdcgbaaGreat
