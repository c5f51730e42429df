/- Part of the proof; no condition. -/
import Derived.Test.YtdcpgpngdcfhhaaGreatMd
import Derived.WalkKit
import Derived.WalkSpells
import Derived.Handy
import Derived.OpenShut
set_option linter.unusedVariables false
set_option linter.unusedSimpArgs false
namespace Go.Proofs.YtdcpgpngdcfhhaaGreat
open Go.RowKit
set_option maxRecDepth 100000
def nM(a0:LDIn) (a1:List (Int)) (a2:List LI) (a3:Int) (a4:List (Int)) (a5:Int) (a6:LDCe) (a7:LDLn) (a8:LDTh):Option (T16):=
(dT a3).bind fun x0=>
(dF a8 x0).bind fun x1=>
(dF a8 x0).bind fun x2=>
let x3:=(dI (List.length a0));
bif (decide (x2.2.2.1≥x3)) then ((eQ x0 2 a8).bind fun(x4,x5,_)=>
some (x4,a4,a5,a6,a7,x5,())) else
(dF a8 x0).bind fun x4=>
(dT x4.2.2.1).bind fun x5=>
(dF a0 x5).bind fun x6=>
(dF a8 x0).bind fun x7=>
let x8:=(w64 (x7.2.2.1+1));
(dF a8 x0).bind fun x9=>
(dT x6.2.1).bind fun ac=>
(dF a8 x0).bind fun ae=>
(dF ae.2.1 ac).bind fun af=>
(dF a8 x0).bind fun ag=>
(dF ag.2.1 ac).bind fun ah=>
(dF a8 x0).bind fun ai=>
(dT x6.2.2.1).bind fun aj=>
(dF a8 x0).bind fun ak=>
(dF ak.2.1 aj).bind fun am=>
(dF a8 x0).bind fun an=>
(dF an.2.1 aj).bind fun ap=>
(match (bif (x6.1==0) then (some (.inl (x0,x8,a4,a5,a6,a7,a8,x6.1,x6.2.1,x6.2.2.1,x6.2.2.2.1,x6.2.2.2.2,()))) else
bif (x6.1==1) then ((dF a8 x0).bind fun aq=>
let av:=(wk .u16 x6.2.2.2.2);
(dT x6.2.1).bind fun ax=>
(dF a8 x0).bind fun ay=>
(dF ay.2.1 ax).bind fun az=>
(dF a8 x0).bind fun aA=>
(dF aA.2.1 ax).bind fun aB=>
let aD:=(List.modify a8 x0 fun e=>(e.1,((List.modify e.2.1 ax fun e=>(0,av)),e.2.2)));
some (.inl (x0,x8,a4,a5,a6,a7,aD,x6.1,x6.2.1,x6.2.2.1,x6.2.2.2.1,x6.2.2.2.2,()))) else
bif (x6.1==2) then ((dF a8 x0).bind fun aq=>
(dT x6.2.1).bind fun av=>
(dF a8 x0).bind fun ax=>
(dF ax.2.1 av).bind fun ay=>
(dF a8 x0).bind fun az=>
(dF az.2.1 av).bind fun aA=>
let aB:=(List.modify a8 x0 fun e=>(e.1,((List.modify e.2.1 av fun e=>(ap.1,ap.2)),e.2.2)));
some (.inl (x0,x8,a4,a5,a6,a7,aB,x6.1,x6.2.1,x6.2.2.1,x6.2.2.2.1,x6.2.2.2.2,()))) else
bif (x6.1==15) then ((dF a8 x0).bind fun aq=>
(dT x6.2.2.2.2).bind fun av=>
(dF a4 av).bind fun ax=>
let ay:=(wk .u16 ax);
(dT x6.2.1).bind fun az=>
(dF a8 x0).bind fun aA=>
(dF aA.2.1 az).bind fun aB=>
(dF a8 x0).bind fun aD=>
(dF aD.2.1 az).bind fun aE=>
let aF:=(List.modify a8 x0 fun e=>(e.1,((List.modify e.2.1 az fun e=>(1,ay)),e.2.2)));
some (.inl (x0,x8,a4,a5,a6,a7,aF,x6.1,x6.2.1,x6.2.2.1,x6.2.2.2.1,x6.2.2.2.2,()))) else
bif (x6.1==16) then ((bif (x6.1==17) then (some (x0,x8,a4,a5,a6,a7,a8,a0,a1,a2,x6.1,x6.2.1,x6.2.2.1,x6.2.2.2.1,x6.2.2.2.2,ap.1,ap.2,ah.1,ah.2,())) else
some (x0,x8,a4,a5,a6,a7,a8,a0,a1,a2,x6.1,x6.2.1,x6.2.2.1,x6.2.2.2.1,x6.2.2.2.2,ap.1,ap.2,ap.1,ap.2,()):Option (T2V)).bind fun(aq,av,ax,ay,az,aA,aB,aD,aE,aF,aG,aH,aI,aJ,aK,aL,aM,aO,aP,_)=>
let aQ:=(wk .u16 aK);
(fc ax ay aE aO aP aQ false).bind fun(aR,aS,aT,_)=>
bif (aT != 0) then ((eQ aq aT aB).bind fun(aU,aV,_)=>
some (.inr (aU,ax,ay,az,aA,aV,()))) else
bif (aG==16) then ((dF aB aq).bind fun aU=>
let aV:=(wk .i64 aS);
(kM aV az aA).bind fun(aW,aY,aZ,ba,_)=>
(dT aH).bind fun bc=>
(dF aB aq).bind fun bd=>
(dF bd.2.1 bc).bind fun be=>
(dF aB aq).bind fun bf=>
(dF bf.2.1 bc).bind fun bg=>
let bh:=(List.modify aB aq fun e=>(e.1,((List.modify e.2.1 bc fun e=>(aW,aY)),e.2.2)));
some (.inl (aq,av,ax,ay,aZ,ba,bh,aG,aH,aI,aJ,aK,()))) else
let aU:=(wk .i64 aS);
(ir aU aL aM az aA).bind fun(aV,aW,_)=>
some (.inl (aq,av,ax,ay,aV,aW,aB,aG,aH,aI,aJ,aK,()))) else
bif (x6.1==17) then ((bif (x6.1==17) then (some (x0,x8,a4,a5,a6,a7,a8,a0,a1,a2,x6.1,x6.2.1,x6.2.2.1,x6.2.2.2.1,x6.2.2.2.2,ap.1,ap.2,ah.1,ah.2,())) else
some (x0,x8,a4,a5,a6,a7,a8,a0,a1,a2,x6.1,x6.2.1,x6.2.2.1,x6.2.2.2.1,x6.2.2.2.2,ap.1,ap.2,ap.1,ap.2,()):Option (T2V)).bind fun(aq,av,ax,ay,az,aA,aB,aD,aE,aF,aG,aH,aI,aJ,aK,aL,aM,aO,aP,_)=>
let aQ:=(wk .u16 aK);
(fc ax ay aE aO aP aQ false).bind fun(aR,aS,aT,_)=>
bif (aT != 0) then ((eQ aq aT aB).bind fun(aU,aV,_)=>
some (.inr (aU,ax,ay,az,aA,aV,()))) else
bif (aG==16) then ((dF aB aq).bind fun aU=>
let aV:=(wk .i64 aS);
(kM aV az aA).bind fun(aW,aY,aZ,ba,_)=>
(dT aH).bind fun bc=>
(dF aB aq).bind fun bd=>
(dF bd.2.1 bc).bind fun be=>
(dF aB aq).bind fun bf=>
(dF bf.2.1 bc).bind fun bg=>
let bh:=(List.modify aB aq fun e=>(e.1,((List.modify e.2.1 bc fun e=>(aW,aY)),e.2.2)));
some (.inl (aq,av,ax,ay,aZ,ba,bh,aG,aH,aI,aJ,aK,()))) else
let aU:=(wk .i64 aS);
(ir aU aL aM az aA).bind fun(aV,aW,_)=>
some (.inl (aq,av,ax,ay,aV,aW,aB,aG,aH,aI,aJ,aK,()))) else
bif (x6.1==18) then (some (.inl (x0,x6.2.2.2.2,a4,a5,a6,a7,a8,x6.1,x6.2.1,x6.2.2.1,x6.2.2.2.1,x6.2.2.2.2,()))) else
bif (x6.1==19) then (bif (ah.1 != 0) then ((eQ x0 3 a8).bind fun(aq,av,_)=>
some (.inr (aq,a4,a5,a6,a7,av,()))) else
bif ((ah.2==0)==(x6.1==19)) then (some (.inl (x0,x6.2.2.2.2,a4,a5,a6,a7,a8,x6.1,x6.2.1,x6.2.2.1,x6.2.2.2.1,x6.2.2.2.2,()))) else
some (.inl (x0,x8,a4,a5,a6,a7,a8,x6.1,x6.2.1,x6.2.2.1,x6.2.2.2.1,x6.2.2.2.2,()))) else
bif (x6.1==20) then (bif (ah.1 != 0) then ((eQ x0 3 a8).bind fun(aq,av,_)=>
some (.inr (aq,a4,a5,a6,a7,av,()))) else
bif ((ah.2==0)==(x6.1==19)) then (some (.inl (x0,x6.2.2.2.2,a4,a5,a6,a7,a8,x6.1,x6.2.1,x6.2.2.1,x6.2.2.2.1,x6.2.2.2.2,()))) else
some (.inl (x0,x8,a4,a5,a6,a7,a8,x6.1,x6.2.1,x6.2.2.1,x6.2.2.2.1,x6.2.2.2.2,()))) else
bif (x6.1==21) then ((dF a8 x0).bind fun aq=>
let av:=(wk .u16 x8);
(dT x6.2.1).bind fun ax=>
(dF a8 x0).bind fun ay=>
(dF ay.2.1 ax).bind fun az=>
(dF a8 x0).bind fun aA=>
(dF aA.2.1 ax).bind fun aB=>
let aD:=(List.modify a8 x0 fun e=>(e.1,((List.modify e.2.1 ax fun e=>(0,av)),e.2.2)));
some (.inl (x0,x6.2.2.2.2,a4,a5,a6,a7,aD,x6.1,x6.2.1,x6.2.2.1,x6.2.2.2.1,x6.2.2.2.2,()))) else
bif (x6.1==22) then (bif (ah.1 != 0) then ((eQ x0 3 a8).bind fun(aq,av,_)=>
some (.inr (aq,a4,a5,a6,a7,av,()))) else
bif (decide (ah.2 > 255)) then ((eQ x0 2 a8).bind fun(aq,av,_)=>
some (.inr (aq,a4,a5,a6,a7,av,()))) else
let aq:=(wk .i64 ah.2);
some (.inl (x0,aq,a4,a5,a6,a7,a8,x6.1,x6.2.1,x6.2.2.1,x6.2.2.2.1,x6.2.2.2.2,()))) else
bif (x6.1==24) then ((dF a8 x0).bind fun aq=>
bif (aq.2.2.2.2.2.1==(-1)) then ((eQ x0 1 a8).bind fun(av,ax,_)=>
some (.inr (av,a4,a5,a6,a7,ax,()))) else
(dF a8 x0).bind fun av=>
(dF a8 x0).bind fun ax=>
let ay:=(List.modify a8 x0 fun e=>(e.1,(e.2.1,(e.2.2.1,(e.2.2.2.1,(e.2.2.2.2.1,((-1),e.2.2.2.2.2.2)))))));
some (.inl (x0,av.2.2.2.2.2.1,a4,a5,a6,a7,ay,x6.1,x6.2.1,x6.2.2.1,x6.2.2.2.1,x6.2.2.2.2,()))) else
bif (x6.1==23) then ((dF a8 x0).bind fun aq=>
let av:=(List.modify a8 x0 fun e=>(2,e.2));
(dF av x0).bind fun ax=>
let ay:=(List.modify av x0 fun e=>(e.1,(e.2.1,(x8,e.2.2.2))));
some (.inr (1,a4,a5,a6,a7,ay,()))) else
(dF a8 x0).bind fun aq=>
(dT x6.2.2.2.1).bind fun av=>
(dF a8 x0).bind fun ax=>
(dF ax.2.1 av).bind fun ay=>
(dF a8 x0).bind fun az=>
(dF az.2.1 av).bind fun aA=>
(pM a4 a5 a1 x6.1 ap.1 ap.2 aA.1 aA.2).bind fun(aB,aD,aE,_)=>
bif (aE != 0) then ((eQ x0 aE a8).bind fun(aF,aG,_)=>
some (.inr (aF,a4,a5,a6,a7,aG,()))) else
(dF a8 x0).bind fun aF=>
(dT x6.2.1).bind fun aG=>
(dF a8 x0).bind fun aH=>
(dF aH.2.1 aG).bind fun aI=>
(dF a8 x0).bind fun aJ=>
(dF aJ.2.1 aG).bind fun aK=>
let aL:=(List.modify a8 x0 fun e=>(e.1,((List.modify e.2.1 aG fun e=>(aB,aD)),e.2.2)));
some (.inl (x0,x8,a4,a5,a6,a7,aL,x6.1,x6.2.1,x6.2.2.1,x6.2.2.2.1,x6.2.2.2.2,())):Option ((Nat×Int×LI×Int×LDCe×LDLn×LDTh×T0L)⊕T16)) with
| none=>none
| some (.inl (aq,av,ax,ay,az,aA,aB,aD,aE,aF,aG,aH,_))=>
(dF aB aq).bind fun aI=>
let aJ:=(List.modify aB aq fun e=>(e.1,(e.2.1,(av,e.2.2.2))));
((ko aD).bind fun(aK,_)=>
bif aK then ((dF aJ aq).bind fun aL=>
let aM:=(w64 (aL.2.2.2.1+1));
(dF aJ aq).bind fun aO=>
let aP:=(List.modify aJ aq fun e=>(e.1,(e.2.1,(e.2.2.1,(aM,e.2.2.2.2)))));
some (ax,ay,az,aA,aP,())) else
some (ax,ay,az,aA,aJ,()):Option (T0T)).bind fun(aK,aL,aM,aO,aP,_)=>
some ((-1),aK,aL,aM,aO,aP,())
| some (.inr (aq,av,ax,ay,az,aA,_))=>
some (aq,av,ax,ay,az,aA,()))
noncomputable def Dl:X.Cfg:=⟨E0,[t7,py,t8,of,yk,qA],[],[⟨17,0,qE,[(.normal,(qS [(pP 1 4),(pP 3 8),(7,.ptr ⟨4,4,[((),(8,0))]⟩ [0,0]),(pP 8 18),(sP 9 I64),(pP 11 24),(pP 12 26)] [(4,(uL [RI,CW,(.row true KCe),iC,oD])),(8,(uL [eU,RI,(.row false RW)])),(18,(uL [I64,I64,I64,I64,I64])),(24,(uL [CB,CW])),(26,(uL [CB,CW]))]))]⟩,⟨8,1,qE,[(.normal,(qS [(pP 1 4),(7,.ptr ⟨4,4,[((),(8,0))]⟩ [0,0]),(pP 8 18),(sP 9 I64)] [(4,(uL [RI,CW,(.row true KCe),iC,oD])),(18,(uL [I64,I64,I64,I64,I64]))])),(.ret,(qS [(pP 1 4),(sP 6 I64)] [(4,(uL [RI,CW,(.row true KCe),iC,oD]))]))]⟩,⟨52,2,qE,[(.normal,(qS [(pP 1 4)] [(4,(uL [RI,CW,(.row true KCe),iC,oD]))]))]⟩]⟩
def wq:Ctr:=⟨146,63,[.agg (uL [eU,RI,(.row false RW)]),.ptr ⟨4,0,[]⟩ [0],shU I64],[(4,(uL [RI,CW,(.row true KCe),iC,oD]))],[⟨(uL [I64]),[.one],[(4,(uL [RI,CW,(.row true KCe),iC,oD]))]⟩],ap9 nM⟩
theorem Da:Lk 4 wq:=ls (C:=Dl) rfl (aC Bf (aC tH (aC Bg (aC rC (aC FF (aC wS aN)))))) (by kernel_rfl) fun h=>by kernel_rfl
def ox:T2D→Option (T2D⊕T1p):=fun(v0,v1,v2,v3,v4,v5,v6,v7,v8,v9,v10,v11,v12,v13,v14,_)=>
(nM v2 v3 v4 v0 v10 v11 v12 v13 v14).bind fun(x0,x1,x2,x3,x4,x5,_)=>
bif (x0 != (-1)) then (some (.inr (x0,0,x1,x2,x3,x4,x5,()))) else
(dT v0).bind fun x6=>
(dF x5 x6).bind fun x7=>
(dF x5 x6).bind fun x8=>
bif (x8.2.2.2.1==v1) then (some (.inr (0,0,x1,x2,x3,x4,x5,()))) else
some (.inl (v0,v1,v2,v3,v4,v5,v6,v7,v8,v9,x1,x2,x3,x4,x5,()))
def lm(a0:LDIn) (a1:List (Int)) (a2:List LI) (a3:List (Int)) (a4:Int) (a5:LDCe) (a6:LDLn) (a7:LDTh) (a8:Int) (a9:Int):Option (LI×Int×LDCe×LDLn×LDTh×T02):=
((io a0 a1 a2 a3 a4 a5 a6 a7).bind fun(x0,_)=>
bif (!x0) then (some (a8,a9,true,a0,a1,a2,a3,a4,a5,a6,a7,(),0,(),(),(),())) else
bif (decide (a8 < 0)) then (some (a8,a9,true,a0,a1,a2,a3,a4,a5,a6,a7,(),0,(),(),(),())) else
bif (decide (a8≥4)) then (some (a8,a9,true,a0,a1,a2,a3,a4,a5,a6,a7,(),0,(),(),(),())) else
bif (decide (a9 < 1)) then (some (a8,a9,true,a0,a1,a2,a3,a4,a5,a6,a7,(),0,(),(),(),())) else
some (a8,a9,(decide (a9 > 64)),a0,a1,a2,a3,a4,a5,a6,a7,(),0,(),(),(),()):Option (Int×Int×Bool×LDIn×LI×LLI×LI×Int×LDCe×LDLn×LDTh×T0V)).bind fun(x0,x1,x2,x3,x4,x5,x6,x7,x8,x9,ac,ae,af,ag,ah,ai,_)=>
bif x2 then (some ([],0,[],[],[],0,1,())) else
(g9 x6 x7 x8 x9 ac).bind fun(aj,ak,am,an,ap,_)=>
(dT x0).bind fun aq=>
(dF ac aq).bind fun av=>
bif (av.1 != 1) then (some (aj,ak,am,an,ap,3,0,())) else
(dT x0).bind fun ax=>
(dF ap ax).bind fun ay=>
(dF ap ax).bind fun az=>
let aA:=(w64 (az.2.2.2.1+x1));
(dO ox NN (x0,aA,x3,x4,x5,ae,af,ag,ah,ai,aj,ak,am,an,ap,())).bind fun(aB,aD,aE,aF,aG,aH,aI,_)=>
some (aE,aF,aG,aH,aI,aB,aD,())
noncomputable def zI:X.Cfg:=⟨E0,[lM,kV,wq],[],[⟨2,0,qE,[(.normal,(qS [(sP 2 I64),(sP 3 I64),(pP 4 10),(pP 5 12),(pP 8 18),(sP 33 .bool)] [(10,(uL [eU,RI,(.row false RW)])),(12,(uL [RI,CW,eG,eS,fB])),(18,(uL [N1,CW,N1,N1,N1]))]))]⟩,⟨9,1,(qS [(sP 2 I64),(pP 4 10),(pP 8 18),(pP 11 24),(sP 12 I64)] [(10,(uL [eU,RI,(.row false RW)])),(18,(uL [N1,CW,N1,N1,N1])),(24,(uL [RI,CW,(.row true KCe),iC,oD]))]),[(.ret,(qS [(pP 8 18),(sP 9 I64),(sP 10 I64)] [(18,(uL [RI,CW,(.row true KCe),iC,oD]))]))]⟩]⟩
def rZ:Ctr:=⟨127,64,[.agg (uL [eU,RI,(.row false RW)]),.agg (uL [RI,CW,eG,eS,fB]),shU I64,shU I64],[],[⟨(uL [RI,CW,(.row true KCe),iC,oD,I64,I64]),[.agg 5,.one,.one],[]⟩],ap10 lm⟩
theorem yX:Lk 5 rZ:=ls (C:=zI) rfl (aC nW (aC mT (aC Da aN))) (by kernel_rfl) fun h=>by kernel_rfl
def jw(a0:Int):Option (ByteArray×Unit):=
let x0:ByteArray:=(bytes []);
(bif (a0==0) then (some (a0,true,())) else
bif (a0==8) then (some (a0,true,())) else
bif (a0==9) then (some (a0,true,())) else
bif (a0==11) then (some (a0,true,())) else
some (a0,(a0==12),()):Option (T01)).bind fun(x1,x2,_)=>
bif x2 then (let x3:ByteArray:=(bytes [78]);
some (x3,())) else
bif (x1==1) then (let x3:ByteArray:=(bytes [72,80,78]);
some (x3,())) else
bif (x1==2) then (let x3:ByteArray:=(bytes [72,80,78]);
some (x3,())) else
bif (x1==3) then (let x3:ByteArray:=(bytes [78,78]);
some (x3,())) else
bif (x1==4) then (let x3:ByteArray:=(bytes [72]);
some (x3,())) else
bif (x1==5) then (let x3:ByteArray:=(bytes [72,78]);
some (x3,())) else
bif (x1==10) then (let x3:ByteArray:=(bytes [78,88]);
some (x3,())) else
bif (x1==13) then (let x3:ByteArray:=(bytes [78,80,78]);
some (x3,())) else
bif (x1==14) then (let x3:ByteArray:=(bytes [78,80,78]);
some (x3,())) else
let x3:ByteArray:=(bytes []);
some (x3,())
noncomputable def zC:X.Cfg:=⟨E0,[],[],[⟨3,0,qE,[(.normal,(qS [(sP 3 I64),(sP 4 .bool)] []))]⟩]⟩
def lL:Ctr:=⟨147,65,(uL [I64]),[],[⟨(uL [.str]),[.one],[]⟩],ap1 jw⟩
theorem nV:Lk 1 lL:=ls (C:=zC) rfl aN (by kernel_rfl) fun h=>by kernel_rfl
def kJ(a0:Int) (a1:Int):Option (Bool×Unit):=
bif (a0==78) then (some ((a1==0),())) else
bif (a0==72) then (some ((a1==2),())) else
bif (a0==80) then (some ((a1==1),())) else
some (true,())
noncomputable def BI:X.Cfg:=⟨E0,[],[],[]⟩
def pq:Ctr:=⟨148,66,(uL [CB,CB]),[],[⟨(uL [.bool]),[.one],[]⟩],ap2 kJ⟩
theorem tE:Lk 1 pq:=ls (C:=BI) rfl aN (by kernel_rfl) fun h=>by kernel_rfl
def gN(a0:Int):Option (Int×Unit):=
bif (decide (a0 < 0)) then (some ((-1),())) else
bif (decide (a0 > 15)) then (some ((-1),())) else
bif (a0==1) then (some (1,())) else
bif (a0==13) then (some (1,())) else
bif (a0==2) then (some (2,())) else
bif (a0==14) then (some (2,())) else
some (0,())
noncomputable def xf:X.Cfg:=⟨E0,[],[],[]⟩
def iI:Ctr:=⟨131,67,(uL [I64]),[],[⟨(uL [I64]),[.one],[]⟩],ap1 gN⟩
theorem ky:Lk 1 iI:=ls (C:=xf) rfl aN (by kernel_rfl) fun h=>by kernel_rfl
def kn(a0:List (Int)) (a1:Int) (a2:List (Int)) (a3:Int) (a4:Int) (a5:Int):Option (T02):=
bif (a3 != 1) then (some (0,3,())) else
let x0:=(wk .i64 a4);
(eO a0 a1 a2 x0).bind fun(x1,x2,x3,_)=>
(bif (!x3) then (some (true,a3,a4,())) else
bif (decide (a5 < 0)) then (some (true,a3,a4,())) else
(dT x1).bind fun x4=>
(dF a2 x4).bind fun x5=>
let x6:=(w64 (x5 - x2));
some ((decide (a5 > x6)),a3,a4,()):Option (T0b)).bind fun(x4,x5,x6,_)=>
bif x4 then (some (0,4,())) else
let x7:=(wk .i64 x6);
some (x7,0,())
noncomputable def xj:X.Cfg:=⟨E0,[ic],[],[⟨6,0,qE,[(.normal,(qS [(pP 6 14),(sP 41 .bool)] [(14,(uL [CB,CW]))]))]⟩]⟩
def qz:Ctr:=⟨149,68,[.agg (uL [RI,CW]),shU RI,.agg (uL [CB,CW]),shU I64],[],[⟨(uL [I64,I64]),[.one,.one],[]⟩],ap6 kn⟩
theorem wR:Lk 2 qz:=ls (C:=xj) rfl (aC jK aN) (by kernel_rfl) fun h=>by kernel_rfl
def kY:T2X→Option (T2X⊕((Int×Unit)⊕(Int×ByteArray×Int×Int×Bool×T2K))):=fun(v0,v1,v2,v3,v4,v5,v6,v7,v8,v9,v10,v11,v12,v13,v14,v15,v16,v17,v18,v19,_)=>
bif (decide (v3 < v2)) then ((dT v3).bind fun x0=>
(xM v1 x0).bind fun x1=>
(dT v3).bind fun x2=>
(dF v13 x2).bind fun x3=>
(kJ x1 x3.1).bind fun(x4,_)=>
bif (!x4) then (some (.inr (.inl (6,())))) else
let x5:=(w64 (v3+1));
some (.inl (v0,v1,v2,x5,v4,v5,v6,v7,v8,v9,v10,v11,v12,v13,v14,v15,v16,v17,v18,v19,()))) else
some (.inr (.inr (v0,v1,v2,v3,false,v4,v5,v6,v7,v8,v9,v10,v11,v12,v13,v14,v15,v16,v17,v18,v19,())))
def ll(a0:LDIn) (a1:List (Int)) (a2:List LI) (a3:List (Int)) (a4:Int) (a5:LDCe) (a6:LDLn) (a7:LDTh) (a8:Int):Option (Int×Unit):=
(dT a8).bind fun x0=>
(dF a7 x0).bind fun x1=>
let x2:=(w64 (x1.2.2.1 - 1));
(dT x2).bind fun x3=>
(dF a0 x3).bind fun x4=>
(jw x4.2.2.2.2).bind fun(x5,_)=>
let x6:=(yr x5);
(match dO kY NN (x4.2.2.2.2,x5,x6,0,a0,a1,a2,a3,a4,a5,a6,a7,x1.1,x1.2.1,x1.2.2.1,x1.2.2.2.1,x1.2.2.2.2.1,x1.2.2.2.2.2.1,x1.2.2.2.2.2.2.1,x1.2.2.2.2.2.2.2,()) with
| none=>none
| some (.inl (x7,_))=>
some (x7,())
| some (.inr (x7,x8,x9,ac,ae,af,ag,ah,ai,aj,ak,am,an,ap,aq,av,ax,ay,az,aA,aB,_))=>
(gN x7).bind fun(aD,_)=>
bif (decide (aD > 0)) then ((dF aq 1).bind fun aE=>
(dF aq 2).bind fun aF=>
let aG:=(wk .i64 aF.2);
(kn ai aj ag aE.1 aE.2 aG).bind fun(aH,aI,_)=>
bif (aI != 0) then (some (6,())) else
(dF aq 2).bind fun aJ=>
bif (decide (aJ.2 > 16)) then (some (6,())) else
(bif (x7==10) then ((dF aq 0).bind fun aK=>
let aL:=(wk .i64 aK.2);
let aM:=(dI (List.length af));
some ((decide (aL≥aM)),())) else
bif (x7==12) then ((dF aq 0).bind fun aK=>
let aL:=(wk .i64 aK.2);
let aM:=(dI (List.length af));
some ((decide (aL≥aM)),())) else
some (false,()):Option (Bool×Unit)).bind fun(aK,_)=>
bif aK then (some (6,())) else
some (0,())) else
(bif (x7==10) then ((dF aq 0).bind fun aE=>
let aF:=(wk .i64 aE.2);
let aG:=(dI (List.length af));
some ((decide (aF≥aG)),())) else
bif (x7==12) then ((dF aq 0).bind fun aE=>
let aF:=(wk .i64 aE.2);
let aG:=(dI (List.length af));
some ((decide (aF≥aG)),())) else
some (false,()):Option (Bool×Unit)).bind fun(aE,_)=>
bif aE then (some (6,())) else
some (0,()))
noncomputable def zF:X.Cfg:=⟨E0,[lL,pq,iI,qz],[],[⟨6,0,(qS [(pP 3 8),(pP 4 10),(pP 7 16),(sP 8 I64),(sP 9 .str),(sP 29 I64),(sP 30 I64)] [(8,(uL [eU,RI,(.row false RW)])),(10,(uL [RI,CW,eG,eS,fB])),(16,(uL [I64,eG,I64,I64,I64,I64,I64,CW]))]),[(.ret,(qS [(sP 6 I64)] [])),(.exit 0,(qS [(pP 3 8),(pP 4 10),(pP 7 16),(sP 8 I64),(sP 9 .str),(sP 29 I64),(sP 30 I64),(sP 31 .bool)] [(8,(uL [eU,RI,(.row false RW)])),(10,(uL [RI,CW,eG,eS,fB])),(16,(uL [I64,eG,I64,I64,I64,I64,I64,CW]))]))]⟩,⟨19,1,qE,[(.normal,(qS [(sP 93 .bool)] []))]⟩]⟩
def rY:Ctr:=⟨128,69,[.agg (uL [eU,RI,(.row false RW)]),.agg (uL [RI,CW,eG,eS,fB]),shU I64],[],[⟨(uL [I64]),[.one],[]⟩],ap9 ll⟩
theorem yW:Lk 3 rY:=ls (C:=zF) rfl (aC nV (aC tE (aC ky (aC wR aN)))) (by kernel_rfl) fun h=>by kernel_rfl
def km(a0:Int) (a1:LDCe) (a2:Int) (a3:Int) (a4:Int) (a5:Int) (a6:Int) (a7:Int):Option (T1D):=
bif (dU 4 0 (List.length a1)) then let x0:LDCe:=(List.append [] a1);
some (a0,x0,a2,a3,a4,a5,a6,a7,()) else none
noncomputable def xg:X.Cfg:=⟨E0,[],[],[]⟩
def qy:Ctr:=⟨150,70,[.agg (uL [I64,eG,I64,I64,I64,I64,I64,CW])],[],[⟨(uL [I64,(.row true KCe),I64,I64,I64,I64,I64,CW]),[.agg 8],[]⟩],ap8 km⟩
theorem wQ:Lk 1 qy:=ls (C:=xg) rfl aN (by kernel_rfl) fun h=>by kernel_rfl
def l6(a0:Int) (a1:LDCe) (a2:Int) (a3:Int) (a4:Int) (a5:Int) (a6:Int) (a7:Int) (a8:Int) (a9:Int):Option (T1D):=
(km a0 a1 a2 a3 a4 a5 a6 a7).bind fun(x0,x1,x2,x3,x4,x5,x6,x7,_)=>
some (4,x1,x2,x3,x4,x5,a8,a9,())
noncomputable def Dn:X.Cfg:=⟨E0,[qy],[],[]⟩
def q7:Ctr:=⟨129,71,[.agg (uL [I64,eG,I64,I64,I64,I64,I64,CW]),shU I64,shU CW],[],[⟨(uL [I64,(.row true KCe),I64,I64,I64,I64,I64,CW]),[.agg 8],[]⟩],ap10 l6⟩
theorem vm:Lk 2 q7:=ls (C:=Dn) rfl (aC wQ aN) (by kernel_rfl) fun h=>by kernel_rfl
def f9(a0:Int):Option (Int×Unit):=
bif (decide (a0 < 0)) then (some ((-1),())) else
bif (decide (a0 > 15)) then (some ((-1),())) else
(jw a0).bind fun(x0,_)=>
let x1:=(yr x0);
some (x1,())
noncomputable def sX:X.Cfg:=⟨E0,[lL],[],[]⟩
def j8:Ctr:=⟨130,72,(uL [I64]),[],[⟨(uL [I64]),[.one],[]⟩],ap1 f9⟩
theorem nw:Lk 2 j8:=ls (C:=sX) rfl (aC nV aN) (by kernel_rfl) fun h=>by kernel_rfl
def gp(a0:List (Int)) (a1:Int) (a2:List (Int)) (a3:Int) (a4:Int):Option (T0s):=
bif (a3==0) then (some (0,a4,0,0,())) else
bif (a3==2) then (let x0:Int:=(wk .u16 (a4 - a1));
some (2,x0,0,0,())) else
let x0:=(wk .i64 a4);
(eO a0 a1 a2 x0).bind fun(x1,x2,x3,_)=>
bif x3 then (some (1,0,x1,x2,())) else
let x4:=(wk .i64 a4);
some (1,0,(-1),x4,())
noncomputable def zV:X.Cfg:=⟨E0,[ic],[],[]⟩
def lO:Ctr:=⟨43,73,[.agg (uL [RI,CW]),shU RI,.agg (uL [CB,CW])],[],[⟨(uL [CB,CW,I64,I64]),[.agg 4],[]⟩],ap5 gp⟩
theorem nY:Lk 2 lO:=ls (C:=zV) rfl (aC jK aN) (by kernel_rfl) fun h=>by kernel_rfl
def kL(a0:LDCe) (a1:LDLn) (a2:Int):Option (T02):=
let x0:=(w64 (Int.tdiv a2 4));
let x1:=(Int.tmod x0 4);
(dT x1).bind fun x2=>
(dF a1 x2).bind fun x3=>
bif (x3.1==x0) then (let x4:Int:=(Int.tmod a2 4);
(dT x4).bind fun x5=>
(dF x3.2.2 x5).bind fun x6=>
some (x6.1,x6.2,())) else
(dT a2).bind fun x4=>
(dF a0 x4).bind fun x5=>
some (x5.1,x5.2,())
noncomputable def BS:X.Cfg:=⟨E0,[],[],[]⟩
def pB:Ctr:=⟨44,74,[.agg (uL [eG,eS]),shU I64],[],[⟨(uL [CB,CW]),[.agg 2],[]⟩],ap3 kL⟩
theorem tJ:Lk 1 pB:=ls (C:=BS) rfl aN (by kernel_rfl) fun h=>by kernel_rfl
def g7:T3y→Option (T3y⊕(Int×Int×T3t)):=fun(v0,v1,v2,v3,v4,v5,v6,v7,v8,v9,v10,v11,v12,v13,v14,v15,v16,v17,v18,v19,v20,v21,v22,v23,v24,v25,v26,v27,v28,v29,v30,v31,v32,v33,v34,v35,v36,v37,v38,_)=>
bif (decide (v1 < v0)) then ((dT v1).bind fun x0=>
(dF v24 x0).bind fun x1=>
(gp v18 v19 v3 x1.1 x1.2).bind fun(x2,x3,x4,x5,_)=>
let x6:LDCn:=[(x2,(x3,(x4,x5)))];
bif (dU 24 (List.length v37) (List.length x6)) then let x7:LDCn:=(List.append v37 x6);
let x8:=(w64 (v1+1));
some (.inl (v0,x8,v2,v3,v4,v5,v6,v7,v8,v9,v10,v11,v12,v13,v14,v15,v16,v17,v18,v19,v20,v21,v22,v23,v24,v25,v26,v27,v28,v29,v30,v31,v32,v33,v34,v35,v36,x7,v38,())) else none) else
some (.inr (v0,v1,false,v2,v3,v4,v5,v6,v7,v8,v9,v10,v11,v12,v13,v14,v15,v16,v17,v18,v19,v20,v21,v22,v23,v24,v25,v26,v27,v28,v29,v30,v31,v32,v33,v34,v35,v36,v37,v38,()))
def gZ:T3x→Option (T3x⊕T3B):=fun(v0,v1,v2,v3,v4,v5,v6,v7,v8,v9,v10,v11,v12,v13,v14,v15,v16,v17,v18,v19,v20,v21,v22,v23,v24,v25,v26,v27,v28,v29,v30,v31,v32,v33,v34,v35,v36,v37,v38,_)=>
bif (decide (v1 < v0)) then ((dF v24 1).bind fun x0=>
let x1:=(wk .i64 x0.2);
let x2:=(w64 (x1+v1));
(kL v20 v21 x2).bind fun(x3,x4,_)=>
(gp v18 v19 v3 x3 x4).bind fun(x5,x6,x7,x8,_)=>
let x9:LDCn:=[(x5,(x6,(x7,x8)))];
bif (dU 24 (List.length v38) (List.length x9)) then let ac:LDCn:=(List.append v38 x9);
let ae:=(w64 (v1+1));
some (.inl (v0,ae,v2,v3,v4,v5,v6,v7,v8,v9,v10,v11,v12,v13,v14,v15,v16,v17,v18,v19,v20,v21,v22,v23,v24,v25,v26,v27,v28,v29,v30,v31,v32,v33,v34,v35,v36,v37,ac,())) else none) else
some (.inr (v0,v1,false,v2,v3,v4,v5,v6,v7,v8,v9,v10,v11,v12,v13,v14,v15,v16,v17,v18,v19,v20,v21,v22,v23,v24,v25,v26,v27,v28,v29,v30,v31,v32,v33,v34,v35,v36,v37,v38,()))
def kK(a0:LDIn) (a1:List (Int)) (a2:List LI) (a3:List (Int)) (a4:Int) (a5:LDCe) (a6:LDLn) (a7:LDTh) (a8:Int) (a9:Int):Option (LI×Int×LDCe×LDLn×LDTh×Int×Int×Int×Int×Int×Int×LDCn×LDCn×Int×Unit):=
(lm a0 a1 a2 a3 a4 a5 a6 a7 a8 a9).bind fun(x0,x1,x2,x3,x4,x5,x6,_)=>
bif (x6 != 0) then (some ([],0,[],[],[],0,0,0,0,0,0,[],[],x6,())) else
(dT a8).bind fun x7=>
(dF x4 x7).bind fun x8=>
(dF x4 x7).bind fun x9=>
(dF x4 x7).bind fun ac=>
(match (bif (x5==2) then (some (.inl ((),0,(),(),(),0,0,0,0,0,0,(),(),x0,x1,x2,x3,x4,a8,x5,x9.2.2.2.2.2.2.1,x9.2.2.2.1,x9.2.2.1,0,(),(),()))) else
bif (x5==1) then ((ll a0 a1 a2 x0 x1 x2 x3 x4 a8).bind fun(ae,_)=>
bif (ae != 0) then ((l6 x9.1 ac.2.1 x9.2.2.1 x9.2.2.2.1 x9.2.2.2.2.1 x9.2.2.2.2.2.1 x9.2.2.2.2.2.2.1 x9.2.2.2.2.2.2.2 ae 0).bind fun(af,ag,ah,ai,aj,ak,am,an,_)=>
(dT a8).bind fun ap=>
(dF x4 ap).bind fun aq=>
(dF x4 ap).bind fun av=>
let ax:=(List.modify x4 ap fun e=>(af,(ag,(ah,(ai,(aj,(ak,(am,an))))))));
some (.inl ((),0,(),(),(),0,0,0,0,0,0,(),(),x0,x1,x2,x3,ax,a8,2,ae,x9.2.2.2.1,x9.2.2.1,0,(),(),()))) else
let af:=(w64 (x9.2.2.1 - 1));
(dT af).bind fun ag=>
(dF a0 ag).bind fun ah=>
(f9 ah.2.2.2.2).bind fun(ai,_)=>
(dO g7 NN (ai,0,a0,a1,a2,(),0,(),(),(),0,0,0,0,0,0,(),(),x0,x1,x2,x3,x4,x9.1,ac.2.1,x9.2.2.1,x9.2.2.2.1,x9.2.2.2.2.1,x9.2.2.2.2.2.1,x9.2.2.2.2.2.2.1,x9.2.2.2.2.2.2.2,a8,x5,0,x9.2.2.2.1,x9.2.2.1,ah.2.2.2.2,[],(),())).bind fun(aj,ak,am,an,ap,aq,av,ax,ay,az,aA,aB,aD,aE,aF,aG,aH,aI,aJ,aK,aL,aM,aO,aP,aQ,aR,aS,aT,aU,aV,aW,aY,aZ,ba,bc,bd,be,bf,bg,bh,_)=>
(gN bf).bind fun(bi,_)=>
bif (bi==1) then ((dF aR 2).bind fun bj=>
let bk:=(wk .i64 bj.2);
(dO gZ NN (bk,0,an,ap,aq,av,ax,ay,az,aA,aB,aD,aE,aF,aG,aH,aI,aJ,aK,aL,aM,aO,aP,aQ,aR,aS,aT,aU,aV,aW,aY,aZ,ba,bc,bd,be,bf,bg,[],())).bind fun(bl,bm,bn,bo,bp,bq,bt,bv,bx,bA,bB,bC,bD,bE,bF,bG,bH,bI,bJ,bK,bL,bM,bN,bO,bP,bQ,bR,bS,bT,bU,bV,bW,bY,bZ,b8,b9,ca,cd,cf,cg,_)=>
some (.inr (.inl (bl,bm,bn,bo,bp,bq,bt,bv,bx,bA,bB,bC,bD,bE,bF,bG,bH,bI,bJ,bK,bL,bM,bN,bO,bP,bQ,bR,bS,bT,bU,bV,bW,bY,bZ,b8,b9,ca,cd,cf,cg,())))) else
some (.inr (.inr (.inl (false,an,ap,aq,av,ax,ay,az,aA,aB,aD,aE,aF,aG,aH,aI,aJ,aK,aL,aM,aO,aP,aQ,aR,aS,aT,aU,aV,aW,aY,aZ,ba,bc,bd,be,bf,bg,bh,()))))) else
some (.inr (.inr (.inr (a8,false,a0,a1,a2,(),0,(),(),(),0,0,0,0,0,0,(),(),x0,x1,x2,x3,x4,x9.1,ac.2.1,x9.2.2.1,x9.2.2.2.1,x9.2.2.2.2.1,x9.2.2.2.2.2.1,x9.2.2.2.2.2.2.1,x9.2.2.2.2.2.2.2,a8,x5,0,x9.2.2.2.1,x9.2.2.1,0,(),(),())))):Option ((Unit×Int×Unit×Unit×Unit×Int×Int×Int×Int×Int×Int×Unit×Unit×LI×Int×LDCe×LDLn×LDTh×T1y)⊕(T3B⊕(T3t⊕(Int×Bool×LDIn×LI×LLI×Unit×Int×Unit×Unit×Unit×Int×Int×Int×Int×Int×Int×Unit×Unit×LI×Int×LDCe×LDLn×LDTh×Int×LDCe×Int×Int×Int×Int×Int×Int×T1y))))) with
| none=>none
| some (.inl (ae,af,ag,ah,ai,aj,ak,am,an,ap,aq,av,ax,ay,az,aA,aB,aD,aE,aF,aG,aH,aI,aJ,aK,aL,_))=>
some (ay,az,aA,aB,aD,aE,aF,aG,aH,aI,aJ,[],[],0,())
| some (.inr (.inl (ae,af,ag,ah,ai,aj,ak,am,an,ap,aq,av,ax,ay,az,aA,aB,aD,aE,aF,aG,aH,aI,aJ,aK,aL,aM,aO,aP,aQ,aR,aS,aT,aU,aV,aW,aY,aZ,ba,bc,_)))=>
some (aF,aG,aH,aI,aJ,aT,aU,aV,aW,aY,aZ,ba,bc,0,())
| some (.inr (.inr (.inl (ae,af,ag,ah,ai,aj,ak,am,an,ap,aq,av,ax,ay,az,aA,aB,aD,aE,aF,aG,aH,aI,aJ,aK,aL,aM,aO,aP,aQ,aR,aS,aT,aU,aV,aW,aY,aZ,_))))=>
some (aD,aE,aF,aG,aH,aR,aS,aT,aU,aV,aW,aY,[],0,())
| some (.inr (.inr (.inr (ae,af,ag,ah,ai,aj,ak,am,an,ap,aq,av,ax,ay,az,aA,aB,aD,aE,aF,aG,aH,aI,aJ,aK,aL,aM,aO,aP,aQ,aR,aS,aT,aU,aV,aW,aY,aZ,ba,_))))=>
some (aE,aF,aG,aH,aI,aS,aT,aU,aV,aW,aY,[],[],0,()))
noncomputable def BJ:X.Cfg:=⟨E0,[rZ,rY,q7,j8,lO,iI,pB],[],[⟨19,0,(qS [(pP 4 10),(pP 8 18),(pP 9 20),(pP 11 24),(pP 14 30),(pP 15 32),(sP 80 I64),(sP 81 I64)] [(10,(uL [eU,RI,(.row false RW)])),(18,(uL [N1,CW,N1,N1,N1])),(20,(uL [I64,I64,I64,I64,I64,I64,N1,N1])),(24,(uL [RI,CW,(.row true KCe),iC,(.row true Ke)])),(30,(uL [I64,eG,I64,I64,I64,I64,I64,CW])),(32,(uL [I64,I64,I64,I64,I64,I64,(.row true KCn),N1]))]),[(.exit 1,(qS [(pP 4 10),(pP 8 18),(pP 9 20),(pP 11 24),(pP 14 30),(pP 15 32),(sP 80 I64),(sP 81 I64),(sP 82 .bool)] [(10,(uL [eU,RI,(.row false RW)])),(18,(uL [N1,CW,N1,N1,N1])),(20,(uL [I64,I64,I64,I64,I64,I64,N1,N1])),(24,(uL [RI,CW,(.row true KCe),iC,(.row true Ke)])),(30,(uL [I64,eG,I64,I64,I64,I64,I64,CW])),(32,(uL [I64,I64,I64,I64,I64,I64,(.row true KCn),N1]))]))]⟩,⟨26,1,(qS [(pP 4 10),(pP 8 18),(pP 9 20),(pP 11 24),(pP 14 30),(pP 15 32),(sP 109 I64),(sP 110 I64)] [(10,(uL [eU,RI,(.row false RW)])),(18,(uL [N1,CW,N1,N1,N1])),(20,(uL [I64,I64,I64,I64,I64,I64,N1,N1])),(24,(uL [RI,CW,(.row true KCe),iC,(.row true Ke)])),(30,(uL [I64,eG,I64,I64,I64,I64,I64,CW])),(32,(uL [I64,I64,I64,I64,I64,I64,(.row true KCn),(.row true KCn)]))]),[(.exit 3,(qS [(pP 4 10),(pP 8 18),(pP 9 20),(pP 11 24),(pP 14 30),(pP 15 32),(sP 109 I64),(sP 110 I64),(sP 111 .bool)] [(10,(uL [eU,RI,(.row false RW)])),(18,(uL [N1,CW,N1,N1,N1])),(20,(uL [I64,I64,I64,I64,I64,I64,N1,N1])),(24,(uL [RI,CW,(.row true KCe),iC,(.row true Ke)])),(30,(uL [I64,eG,I64,I64,I64,I64,I64,CW])),(32,(uL [I64,I64,I64,I64,I64,I64,(.row true KCn),(.row true KCn)]))]))]⟩,⟨7,2,qE,[(.normal,(qS [(pP 8 18),(pP 9 20),(pP 11 24),(pP 15 32)] [(18,(uL [N1,CW,N1,N1,N1])),(20,(uL [I64,I64,I64,I64,I64,I64,N1,N1])),(24,(uL [RI,CW,(.row true KCe),iC,(.row true Ke)])),(32,(uL [I64,I64,I64,I64,I64,I64,N1,N1]))])),(.normal,(qS [(pP 4 10),(pP 8 18),(pP 9 20),(pP 11 24),(pP 14 30),(pP 15 32),(sP 109 I64),(sP 110 I64),(sP 111 .bool)] [(10,(uL [eU,RI,(.row false RW)])),(18,(uL [N1,CW,N1,N1,N1])),(20,(uL [I64,I64,I64,I64,I64,I64,N1,N1])),(24,(uL [RI,CW,(.row true KCe),iC,(.row true Ke)])),(30,(uL [I64,eG,I64,I64,I64,I64,I64,CW])),(32,(uL [I64,I64,I64,I64,I64,I64,(.row true KCn),(.row true KCn)]))])),(.normal,(qS [(pP 4 10),(pP 8 18),(pP 9 20),(pP 11 24),(pP 14 30),(pP 15 32),(sP 103 .bool)] [(10,(uL [eU,RI,(.row false RW)])),(18,(uL [N1,CW,N1,N1,N1])),(20,(uL [I64,I64,I64,I64,I64,I64,N1,N1])),(24,(uL [RI,CW,(.row true KCe),iC,(.row true Ke)])),(30,(uL [I64,eG,I64,I64,I64,I64,I64,CW])),(32,(uL [I64,I64,I64,I64,I64,I64,(.row true KCn),N1]))])),(.normal,(qS [(sP 2 I64),(pP 4 10),(pP 8 18),(pP 9 20),(pP 11 24),(pP 14 30),(pP 15 32),(sP 51 .bool)] [(10,(uL [eU,RI,(.row false RW)])),(18,(uL [N1,CW,N1,N1,N1])),(20,(uL [I64,I64,I64,I64,I64,I64,N1,N1])),(24,(uL [RI,CW,(.row true KCe),iC,(.row true Ke)])),(30,(uL [I64,eG,I64,I64,I64,I64,I64,CW])),(32,(uL [I64,I64,I64,I64,I64,I64,N1,N1]))]))]⟩]⟩
def t6:Ctr:=⟨100,75,[.agg (uL [eU,RI,(.row false RW)]),.agg (uL [RI,CW,eG,eS,fB]),shU I64,shU I64],[],[⟨(uL [RI,CW,eG,eS,fB,I64,I64,I64,I64,I64,I64,dY,dY,I64]),[.agg 5,.agg 8,.one],[]⟩],ap10 kK⟩
theorem Be:Lk 6 t6:=ls (C:=BJ) rfl (aC yX (aC yW (aC vm (aC nw (aC nY (aC ky (aC tJ aN))))))) (by kernel_rfl) fun h=>by kernel_rfl
def gY:T1Z→Option (T1Z⊕T29):=fun(v0,v1,v2,v3,v4,v5,v6,v7,v8,_)=>
bif (decide (v2 < v1)) then ((dT v2).bind fun x0=>
(dF v0 x0).bind fun x1=>
bif (dU 8 0 (List.length x1)) then let x2:List (Int):=(List.append [] x1);
bif (dU 24 (List.length v8) (List.length [x2])) then let x3:List LI:=(List.append v8 [x2]);
let x4:=(w64 (v2+1));
some (.inl (v0,v1,x4,v3,v4,v5,v6,v7,x3,())) else none else none) else
some (.inr (v0,v1,v2,false,v3,v4,v5,v6,v7,v8,()))
def i9(a0:List (Int)) (a1:List LI):Option (T07):=
bif (dU 8 0 (List.length a0)) then let x0:List (Int):=(List.append [] a0);
let x1:=(dI (List.length a1));
(dO gY NN (a1,x1,0,a0,a1,(),(),x0,[],())).bind fun(x2,x3,x4,x5,x6,x7,x8,x9,ac,ae,_)=>
some (ac,ae,()) else none
noncomputable def BG:X.Cfg:=⟨E0,[],[(21,(.row true I64)),(22,(.row true I64))],[(lx 4 0 [(pP 2 6),(pP 3 8),(sP 11 (.row false RI)),(sP 12 I64),(sP 13 I64)] [(4,(uL [RI,(.row false RI)])),(6,(uL [N1,N1])),(8,(uL [(.row true I64),(.row true (.row true I64))]))] 14)]⟩
def mX:Ctr:=⟨151,76,[.agg (uL [RI,(.row false RI)])],[],[⟨(uL [(.row true I64),(.row true (.row true I64))]),[.agg 2],[]⟩],ap2 i9⟩
theorem o6:Lk 1 mX:=ls (C:=BG) rfl aN (by kernel_rfl) fun h=>by kernel_rfl
def i8(a0:List (Int)) (a1:List LI) (a2:Int) (a3:Int):Option (LI×LLI×T01):=
(i9 a0 a1).bind fun(x0,x1,_)=>
(bif (decide (a2 < 0)) then (some (a2,true,(),(),x0,x1,())) else
bif (decide (a2≥4)) then (some (a2,true,(),(),x0,x1,())) else
(dT a2).bind fun x2=>
(dF a0 x2).bind fun x3=>
some (a2,(x3 != a3),(),(),x0,x1,()):Option (T10)).bind fun(x2,x3,x4,x5,x6,x7,_)=>
bif x3 then (some (x6,x7,(-1),false,())) else
(dT x2).bind fun x8=>
(dF x6 x8).bind fun x9=>
(dF x6 x8).bind fun ac=>
let ae:=(List.modify x6 x8 fun e=>(-1));
(dT x2).bind fun af=>
(dF x7 af).bind fun ag=>
(dF x7 af).bind fun ah=>
(dF x7 af).bind fun ai=>
let aj:=(dI (List.length ai));
bif (decide (aj > 0)) then ((dT x2).bind fun ak=>
(dF x7 ak).bind fun am=>
(dF x7 ak).bind fun an=>
(dF x7 ak).bind fun ap=>
(dF ap 0).bind fun aq=>
(dF x7 ak).bind fun av=>
(dF av 0).bind fun ax=>
(dT x2).bind fun ay=>
(dF ae ay).bind fun az=>
(dF ae ay).bind fun aA=>
let aB:=(List.modify ae ay fun e=>ax);
(dT x2).bind fun aD=>
(dF x7 aD).bind fun aE=>
(dF x7 aD).bind fun aF=>
(dF x7 aD).bind fun aG=>
bif (ji 1 (List.length aG) (List.length aG)) then (dF x7 aD).bind fun aH=>
(dT x2).bind fun aI=>
(dF x7 aI).bind fun aJ=>
(dF x7 aD).bind fun aK=>
(dF x7 aI).bind fun aL=>
let aM:=(List.modify x7 aI fun e=>(na aK 1 (Nat.sub (List.length aG) 1)));
(dT x2).bind fun aO=>
(dF aB aO).bind fun aP=>
some (aB,aM,aP,true,()) else none) else
(dT x2).bind fun ak=>
(dF ae ak).bind fun am=>
some (ae,x7,am,true,())
noncomputable def BE:X.Cfg:=⟨E0,[mX],[],[⟨3,0,qE,[(.normal,(qS [(sP 1 I64),(pP 6 14),(pP 9 20),(sP 26 .bool)] [(14,(uL [N1,N1])),(20,(uL [(.row true I64),(.row true (.row true I64))]))]))]⟩]⟩
def mW:Ctr:=⟨132,77,[.agg (uL [RI,(.row false RI)]),shU I64,shU I64],[],[⟨(uL [RI,(.row false RI),I64,.bool]),[.agg 2,.one,.one],[]⟩],ap4 i8⟩
theorem o5:Lk 2 mW:=ls (C:=BE) rfl (aC o6 aN) (by kernel_rfl) fun h=>by kernel_rfl
def dV(a0:Int) (a1:Bool):Option (T1m):=
(bif (!a1) then (some (65535,0,0,0,0,(),0,false,())) else
some (a0,0,0,0,0,(),0,false,()):Option (Int×T1m)).bind fun(x0,x1,x2,x3,x4,x5,x6,x7,_)=>
let x8:=(wk .u16 x0);
some (0,x8,0,0,(),(-1),false,())
noncomputable def zp:X.Cfg:=⟨E0,[],[],[⟨1,0,qE,[(.normal,(qS [(sP 0 I64),(pP 4 10)] [(10,(uL [CB,CW,I64,I64,N1,I64,.bool]))]))]⟩]⟩
def jQ:Ctr:=⟨152,78,(uL [I64,.bool]),[],[⟨(uL [CB,CW,I64,I64,N1,I64,.bool]),[.agg 7],[]⟩],ap2 dV⟩
theorem lG:Lk 1 jQ:=ls (C:=zp) rfl aN (by kernel_rfl) fun h=>by kernel_rfl
def lZ:T2A→Option (T2A⊕((Int×T07)⊕(Int×Int×LLI×Int×Int×LI×T1J))):=fun(v0,v1,v2,v3,v4,v5,v6,v7,v8,v9,v10,v11,v12,v13,_)=>
bif (decide (v7 < v6)) then ((dT v7).bind fun x0=>
(dF v5 x0).bind fun x1=>
bif (x1==v1) then (some (.inr (.inl (2,v12,v13,())))) else
let x2:=(w64 (v7+1));
some (.inl (v0,v1,v2,v3,v4,v5,v6,x2,v8,v9,v10,v11,v12,v13,()))) else
some (.inr (.inr (v0,v1,v2,v3,v4,v5,v6,v7,false,v8,v9,v10,v11,v12,v13,())))
def lY:T2d→Option (T2d⊕((Int×T07)⊕(Int×Int×T29))):=fun(v0,v1,v2,v3,v4,v5,v6,v7,v8,v9,v10,_)=>
bif (decide (v4 < v3)) then ((dT v4).bind fun x0=>
(dF v2 x0).bind fun x1=>
let x2:=(dI (List.length x1));
(match dO lZ NN (v0,v1,v2,v3,v4,x1,x2,0,v5,v6,v7,v8,v9,v10,()) with
| none=>none
| some (.inl (x3,x4,x5,_))=>
some (.inr (.inl (x3,x4,x5,())))
| some (.inr (x3,x4,x5,x6,x7,x8,x9,ac,ae,af,ag,ah,ai,aj,ak,_))=>
let am:=(w64 (x7+1));
some (.inl (x3,x4,x5,x6,am,af,ag,ah,ai,aj,ak,())))) else
some (.inr (.inr (v0,v1,v2,v3,v4,false,v5,v6,v7,v8,v9,v10,())))
def mI(a0:List (Int)) (a1:List LI) (a2:Int) (a3:Int):Option (LI×LLI×Int×Unit):=
(i9 a0 a1).bind fun(x0,x1,_)=>
(bif (decide (a2 < 0)) then (some (a2,a3,true,a0,a1,(),(),x0,x1,())) else
bif (decide (a2≥4)) then (some (a2,a3,true,a0,a1,(),(),x0,x1,())) else
(dT a2).bind fun x2=>
(dF a0 x2).bind fun x3=>
some (a2,a3,(x3==a3),a0,a1,(),(),x0,x1,()):Option (T1J)).bind fun(x2,x3,x4,x5,x6,x7,x8,x9,ac,_)=>
bif x4 then (some (x9,ac,2,())) else
let ae:=(dI (List.length x6));
(match dO lY NN (x2,x3,x6,ae,0,x5,x6,x7,x8,x9,ac,()) with
| none=>none
| some (.inl (af,ag,ah,_))=>
some (ag,ah,af,())
| some (.inr (af,ag,ah,ai,aj,ak,am,an,ap,aq,av,ax,_))=>
(dT af).bind fun ay=>
(dF am ay).bind fun az=>
bif (az==(-1)) then ((dT af).bind fun aA=>
(dF av aA).bind fun aB=>
(dF av aA).bind fun aD=>
let aE:=(List.modify av aA fun e=>ag);
some (aE,ax,0,())) else
(dT af).bind fun aA=>
(dF ax aA).bind fun aB=>
(dF ax aA).bind fun aD=>
(dF ax aA).bind fun aE=>
bif (dU 8 (List.length aE) (List.length [ag])) then let aF:List (Int):=(List.append aE [ag]);
(dT af).bind fun aG=>
(dF ax aG).bind fun aH=>
(dF ax aG).bind fun aI=>
bif (Nat.beq aG aA) then let aJ:List LI:=(List.modify ax aG fun e=>aF);
some (av,aJ,1,()) else none else none)
noncomputable def BD:X.Cfg:=⟨E0,[mX],[],[⟨3,0,qE,[(.normal,(qS [(sP 1 I64),(sP 2 I64),(pP 3 8),(pP 6 14),(pP 8 18),(sP 29 .bool)] [(8,(uL [RI,(.row false RI)])),(14,(uL [N1,N1])),(18,(uL [(.row true I64),(.row true (.row true I64))]))]))]⟩,⟨13,1,(qS [(sP 1 I64),(sP 2 I64),(pP 3 8),(pP 6 14),(pP 8 18),(sP 32 (.row false RI)),(sP 33 I64),(sP 34 I64),(sP 38 RI),(sP 39 I64),(sP 40 I64)] [(8,(uL [RI,(.row false RI)])),(14,(uL [N1,N1])),(18,(uL [(.row true I64),(.row true (.row true I64))]))]),[(.ret,(qS [(pP 6 14),(sP 7 I64)] [(14,(uL [(.row true I64),(.row true (.row true I64))]))])),(.exit 2,(qS [(sP 1 I64),(sP 2 I64),(pP 3 8),(pP 6 14),(pP 8 18),(sP 32 (.row false RI)),(sP 33 I64),(sP 34 I64),(sP 38 RI),(sP 39 I64),(sP 40 I64),(sP 41 .bool)] [(8,(uL [RI,(.row false RI)])),(14,(uL [N1,N1])),(18,(uL [(.row true I64),(.row true (.row true I64))]))]))]⟩,⟨7,2,(qS [(sP 1 I64),(sP 2 I64),(pP 3 8),(pP 6 14),(pP 8 18),(sP 32 (.row false RI)),(sP 33 I64),(sP 34 I64)] [(8,(uL [RI,(.row false RI)])),(14,(uL [N1,N1])),(18,(uL [(.row true I64),(.row true (.row true I64))]))]),[(.ret,(qS [(pP 6 14),(sP 7 I64)] [(14,(uL [(.row true I64),(.row true (.row true I64))]))])),(.exit 0,(qS [(sP 1 I64),(sP 2 I64),(pP 3 8),(pP 6 14),(pP 8 18),(sP 32 (.row false RI)),(sP 33 I64),(sP 34 I64),(sP 35 .bool)] [(8,(uL [RI,(.row false RI)])),(14,(uL [N1,N1])),(18,(uL [(.row true I64),(.row true (.row true I64))]))]))]⟩]⟩
def tY:Ctr:=⟨153,79,[.agg (uL [RI,(.row false RI)]),shU I64,shU I64],[],[⟨(uL [(.row true I64),(.row true (.row true I64)),I64]),[.agg 2,.one],[]⟩],ap4 mI⟩
theorem Bc:Lk 2 tY:=ls (C:=BD) rfl (aC o6 aN) (by kernel_rfl) fun h=>by kernel_rfl
def jx(a0:Int) (a1:Int) (a2:Int) (a3:Int) (a4:Int) (a5:Int) (a6:LDCn) (a7:LDCn):Option (Bool×Unit):=
bif (decide (a0≥0)) then (bif (decide (a0 < 4)) then (bif (decide (a1≥0)) then (bif (decide (a1≤3)) then (bif (decide (a2≥0)) then (bif (decide (a2≤6)) then (bif (decide (a3≥0)) then (bif (decide (a3≤1099511627776)) then (bif (decide (a4≥0)) then (bif (decide (a4≤255)) then (bif (decide (a5≥0)) then (bif (decide (a5≤15)) then ((eW a6 3).bind fun(x0,_)=>
bif x0 then ((eW a7 16).bind fun(x1,_)=>
some (x1,())) else
some (false,())) else
some (false,())) else
some (false,())) else
some (false,())) else
some (false,())) else
some (false,())) else
some (false,())) else
some (false,())) else
some (false,())) else
some (false,())) else
some (false,())) else
some (false,())) else
some (false,())
noncomputable def zD:X.Cfg:=⟨E0,[fT],[],[]⟩
def oe:Ctr:=⟨155,80,[.agg (uL [I64,I64,I64,I64,I64,I64,dY,dY])],[],[⟨(uL [.bool]),[.one],[]⟩],ap8 jx⟩
theorem rB:Lk 3 oe:=ls (C:=zD) rfl (aC gy aN) (by kernel_rfl) fun h=>by kernel_rfl
def oI(a0:Int):Option (Bool×Unit):=
bif (decide (a0≥1)) then (bif (decide (a0≤7)) then (some (true,())) else
bif (a0==13) then (some (true,())) else
some ((a0==14),())) else
bif (a0==13) then (some (true,())) else
some ((a0==14),())
noncomputable def Bv:X.Cfg:=⟨E0,[],[],[]⟩
def tT:Ctr:=⟨168,81,(uL [I64]),[],[⟨(uL [.bool]),[.one],[]⟩],ap1 oI⟩
theorem A7:Lk 1 tT:=ls (C:=Bv) rfl aN (by kernel_rfl) fun h=>by kernel_rfl
def gH:T2m→Option (T2m⊕((Bool×Unit)⊕(ByteArray×LDCn×Int×Int×Bool×T1x))):=fun(v0,v1,v2,v3,v4,v5,v6,v7,v8,v9,v10,v11,_)=>
bif (decide (v3 < v2)) then ((dT v3).bind fun x0=>
(dF v1 x0).bind fun x1=>
(dT v3).bind fun x2=>
(xM v0 x2).bind fun x3=>
(kJ x3 x1.1).bind fun(x4,_)=>
bif (!x4) then (some (.inr (.inl (false,())))) else
let x5:=(w64 (v3+1));
some (.inl (v0,v1,v2,x5,v4,v5,v6,v7,v8,v9,v10,v11,()))) else
some (.inr (.inr (v0,v1,v2,v3,false,v4,v5,v6,v7,v8,v9,v10,v11,())))
def lk(a0:Int) (a1:Int) (a2:Int) (a3:Int) (a4:Int) (a5:Int) (a6:LDCn) (a7:LDCn):Option (Bool×Unit):=
(jw a5).bind fun(x0,_)=>
let x1:=(yr x0);
let x2:=(dI (List.length a6));
bif (x1 != x2) then (some (false,())) else
let x3:=(dI (List.length a6));
(match dO gH NN (x0,a6,x3,0,a0,a1,a2,a3,a4,a5,a6,a7,()) with
| none=>none
| some (.inl (x4,_))=>
some (x4,())
| some (.inr (x4,x5,x6,x7,x8,x9,ac,ae,af,ag,ah,ai,aj,_))=>
some (true,()))
noncomputable def zE:X.Cfg:=⟨E0,[lL,pq],[],[⟨7,0,(qS [(sP 3 .str),(sP 16 dY),(sP 17 I64),(sP 18 I64)] [(4,(uL [I64,I64,I64,I64,I64,I64,dY,dY]))]),[(.ret,(qS [(sP 2 .bool)] [])),(.exit 0,(qS [(sP 3 .str),(sP 16 dY),(sP 17 I64),(sP 18 I64),(sP 19 .bool)] [(4,(uL [I64,I64,I64,I64,I64,I64,dY,dY]))]))]⟩]⟩
def rX:Ctr:=⟨169,82,[.agg (uL [I64,I64,I64,I64,I64,I64,dY,dY])],[],[⟨(uL [.bool]),[.one],[]⟩],ap8 lk⟩
theorem yV:Lk 2 rX:=ls (C:=zE) rfl (aC nV (aC tE aN)) (by kernel_rfl) fun h=>by kernel_rfl
def gi(a0:List LDCn) (a1:LDOp) (a2:Int):Option (Bool×Unit):=
bif (decide (a2≥0)) then (let x0:Int:=(dI (List.length a1));
bif (decide (a2 < x0)) then ((dT a2).bind fun x1=>
(dF a1 x1).bind fun x2=>
some ((x2.1 != (-1)),())) else
some (false,())) else
some (false,())
noncomputable def By:X.Cfg:=⟨E0,[],[],[]⟩
def kU:Ctr:=⟨184,83,[.agg (uL [(.row false dY),gh]),shU I64],[],[⟨(uL [.bool]),[.one],[]⟩],ap3 gi⟩
theorem mS:Lk 1 kU:=ls (C:=By) rfl aN (by kernel_rfl) fun h=>by kernel_rfl
def ov:T2g→Option (T2g⊕(LDCn×Nat×Int×Int×Int×Bool×T1h)):=fun(v0,v1,v2,v3,v4,v5,v6,v7,v8,v9,v10,_)=>
bif (decide (v4 < v3)) then (((dF v9 v1).bind fun x0=>
let x1:=(w64 (x0.2.1+v4));
let x2:=(dI (List.length v10));
bif (decide (x1 < x2)) then ((dF v9 v1).bind fun x3=>
let x4:=(w64 (x3.2.1+v4));
(dT v4).bind fun x5=>
(dF v0 x5).bind fun x6=>
(dT x4).bind fun x7=>
(dF v10 x7).bind fun x8=>
(dF v10 x7).bind fun x9=>
let ac:=(List.modify v10 x7 fun e=>(x6.1,(x6.2.1,(x6.2.2.1,x6.2.2.2))));
some (v0,v1,v2,v3,v4,v5,v6,v7,v8,v9,ac,())) else
(dT v4).bind fun x3=>
(dF v0 x3).bind fun x4=>
let x5:LDCn:=[(x4.1,(x4.2.1,(x4.2.2.1,x4.2.2.2)))];
bif (dU 24 (List.length v10) (List.length x5)) then let x6:LDCn:=(List.append v10 x5);
some (v0,v1,v2,v3,v4,v5,v6,v7,v8,v9,x6,()) else none:Option (T2g)).bind fun(x0,x1,x2,x3,x4,x5,x6,x7,x8,x9,ac,_)=>
let ae:=(w64 (x4+1));
some (.inl (x0,x1,x2,x3,ae,x5,x6,x7,x8,x9,ac,()))) else
some (.inr (v0,v1,v2,v3,v4,false,v5,v6,v7,v8,v9,v10,()))
def ld(a0:List LDCn) (a1:LDOp) (a2:Int) (a3:LDCn):Option (LLCn×LDOp×T01):=
(fv a0 a1).bind fun(x0,x1,_)=>
((gi a0 a1 a2).bind fun(x2,_)=>
bif (!x2) then (some (a2,a3,true,(),(),x0,x1,())) else
(dT a2).bind fun x3=>
(dF a1 x3).bind fun x4=>
bif (!x4.2.2) then (some (a2,a3,true,(),(),x0,x1,())) else
let x5:=(dI (List.length a3));
(eW a3 x5).bind fun(x6,_)=>
some (a2,a3,(!x6),(),(),x0,x1,()):Option (Int×LDCn×T0I)).bind fun(x2,x3,x4,x5,x6,x7,x8,_)=>
bif x4 then (some (x7,x8,0,false,())) else
(dT x2).bind fun x9=>
(dF x8 x9).bind fun ac=>
let ae:=(dI (List.length x3));
(dF x8 x9).bind fun af=>
let ag:=(w64 (64 - af.2.1));
let ah:=(mmR false ae ag);
(dF x8 x9).bind fun ai=>
(dT ai.1).bind fun aj=>
(dF x7 aj).bind fun ak=>
(dF x7 aj).bind fun am=>
(dF x7 aj).bind fun an=>
(dO ov NN (x3,x9,ah,ah,0,x5,x6,x7,aj,x8,an,())).bind fun(ap,aq,av,ax,ay,az,aA,aB,aD,aE,aF,aG,_)=>
(dF aF aq).bind fun aH=>
(dT aH.1).bind fun aI=>
(dF aD aI).bind fun aJ=>
(dF aD aI).bind fun aK=>
bif (Nat.beq aI aE) then let aL:List LDCn:=(List.modify aD aI fun e=>aG);
(dF aF aq).bind fun aM=>
let aO:=(w64 (aM.2.1+av));
(dF aF aq).bind fun aP=>
let aQ:=(List.modify aF aq fun e=>(e.1,(aO,e.2.2)));
some (aL,aQ,av,true,()) else none
noncomputable def zt:X.Cfg:=⟨E0,[ib,kU,fT],[],[⟨3,0,qE,[(.normal,(qS [(sP 1 I64),(sP 2 dY),(pP 6 14),(pP 9 20),(sP 35 .bool)] [(14,(uL [N1,N1])),(20,(uL [(.row true (.row true KCn)),(.row true KOp)]))]))]⟩,⟨13,1,qE,[(.normal,(qS [(sP 2 dY),(pP 6 14),(pP 9 20),(10,.ptr ⟨20,1,[((),(3,0))]⟩ [0,0]),(sP 11 I64),(12,.pk ⟨27,0,[]⟩ [0,0]),(sP 57 I64),(sP 58 I64)] [(14,(uL [N1,N1])),(20,[.gap (.row true KCn) () () 0,shU (.row true KOp)]),(27,(uL [(.row true KCn)]))]))]⟩,(lx 10 2 [(sP 2 dY),(pP 6 14),(pP 9 20),(10,.ptr ⟨20,1,[((),(3,0))]⟩ [0,0]),(sP 11 I64),(12,.pk ⟨27,0,[]⟩ [0,0]),(sP 57 I64),(sP 58 I64)] [(14,(uL [N1,N1])),(20,[.gap (.row true KCn) () () 0,shU (.row true KOp)]),(27,(uL [(.row true KCn)]))] 59)]⟩
def rS:Ctr:=⟨170,84,[.agg (uL [(.row false dY),gh]),shU I64,shU dY],[],[⟨(uL [(.row true (.row true KCn)),(.row true KOp),I64,.bool]),[.agg 2,.one,.one],[]⟩],ap4 ld⟩
theorem yQ:Lk 3 rS:=ls (C:=zt) rfl (aC je (aC mS (aC gy aN))) (by kernel_rfl) fun h=>by kernel_rfl
def mG(a0:List LDCn) (a1:LDOp) (a2:Int) (a3:Int):Option ((LLCn×LDOp×Unit×Bool×Unit)⊕(LLCn×LDOp×LDCn×Bool×Unit)):=
(fv a0 a1).bind fun(x0,x1,_)=>
((gi a0 a1 a2).bind fun(x2,_)=>
bif (!x2) then (some (a2,a3,true,a0,a1,(),(),x0,x1,())) else
bif (decide (a3 < 0)) then (some (a2,a3,true,a0,a1,(),(),x0,x1,())) else
(dT a2).bind fun x3=>
(dF a1 x3).bind fun x4=>
some (a2,a3,x4.2.2,a0,a1,(),(),x0,x1,()):Option (T1K)).bind fun(x2,x3,x4,x5,x6,x7,x8,x9,ac,_)=>
bif x4 then (some (.inl (x9,ac,(),false,()))) else
(dT x2).bind fun ae=>
(dF ac ae).bind fun af=>
(dF ac ae).bind fun ag=>
(dT ag.1).bind fun ah=>
(dF x9 ah).bind fun ai=>
(dF x9 ah).bind fun aj=>
(dF x9 ah).bind fun ak=>
let am:=(dI (List.length ak));
(dF ac ae).bind fun an=>
let ap:=(w64 (am - an.2.1));
let aq:=(mmR false x3 ap);
(dF ac ae).bind fun av=>
(dF ac ae).bind fun ax=>
let ay:=(w64 (ax.2.1+aq));
(dT av.2.1).bind fun az=>
(dT ay).bind fun aA=>
bif (ji az aA (List.length ak)) then let aB:LDCn:=(na ak az (Nat.sub aA az));
bif (dU 24 0 (List.length aB)) then let aD:LDCn:=(List.append [] aB);
(dF ac ae).bind fun aE=>
let aF:=(w64 (aE.2.1+aq));
(dF ac ae).bind fun aG=>
let aH:=(List.modify ac ae fun e=>(e.1,(aF,e.2.2)));
some (.inr (x9,aH,aD,true,())) else none else none
noncomputable def BA:X.Cfg:=⟨E0,[ib,kU],[],[⟨3,0,qE,[(.normal,(qS [(sP 1 I64),(sP 2 I64),(pP 6 14),(pP 9 20),(sP 31 .bool)] [(8,(uL [(.row false dY),gh])),(14,(uL [N1,N1])),(20,(uL [(.row true (.row true KCn)),(.row true KOp)]))]))]⟩]⟩
def tW:Ctr:=⟨171,85,[.agg (uL [(.row false dY),gh]),shU I64,shU I64],[],[⟨(uL [(.row true (.row true KCn)),(.row true KOp),N1,.bool]),[.agg 2,.one,.one],[]⟩,⟨(uL [(.row true dY),(.row true KOp),(.row true KCn),.bool]),[.agg 2,.one,.one],[]⟩],ap4 mG⟩
theorem Ba:Lk 2 tW:=ls (C:=BA) rfl (aC je (aC mS aN)) (by kernel_rfl) fun h=>by kernel_rfl
def oK:T1N→Option (T1N⊕(Int×T1K)):=fun(v0,v1,v2,v3,v4,v5,v6,v7,v8,_)=>
let x0:=(dI (List.length v4));
bif (decide (v2 < x0)) then ((dT v2).bind fun x1=>
(dF v4 x1).bind fun x2=>
bif (x2.1 != (-1)) then (let x3:Int:=(w64 (v2+1));
some (.inl (v0,v1,x3,v3,v4,v5,v6,v7,v8,()))) else
some (.inr (v0,v1,v2,false,v3,v4,v5,v6,v7,v8,()))) else
some (.inr (v0,v1,v2,false,v3,v4,v5,v6,v7,v8,()))
def oJ:T1M→Option (T1M⊕(Int×Int×T1w)):=fun(v0,v1,v2,v3,v4,v5,v6,v7,v8,_)=>
bif (decide (v4 < v3)) then (((dT v4).bind fun x0=>
(dF v8 x0).bind fun x1=>
(dF v8 x0).bind fun x2=>
bif (x2.1==v0) then ((dT v4).bind fun x3=>
(dF v8 x3).bind fun x4=>
(dF v8 x3).bind fun x5=>
let x6:=(List.modify v8 x3 fun e=>(e.1,(0,e.2.2)));
some (v0,v1,v2,v3,v4,v5,v6,v7,x6,())) else
some (v0,v1,v2,v3,v4,v5,v6,v7,v8,()):Option (T1M)).bind fun(x0,x1,x2,x3,x4,x5,x6,x7,x8,_)=>
let x9:=(w64 (x4+1));
some (.inl (x0,x1,x2,x3,x9,x5,x6,x7,x8,()))) else
some (.inr (v0,v1,v2,v3,v4,false,v5,v6,v7,v8,()))
def mH(a0:List LDCn) (a1:LDOp) (a2:Int) (a3:Int):Option (LLCn×LDOp×Int×Unit):=
(fv a0 a1).bind fun(x0,x1,_)=>
(dO oK NN (a2,a3,0,a0,a1,(),(),x0,x1,())).bind fun(x2,x3,x4,x5,x6,x7,x8,x9,ac,ae,_)=>
(bif (decide (x2 < 0)) then (some (x2,x3,x4,true,x8,x9,ac,ae,())) else
let af:=(dI (List.length x6));
bif (decide (x2≥af)) then (some (x2,x3,x4,true,x8,x9,ac,ae,())) else
bif (decide (x3 < 0)) then (some (x2,x3,x4,true,x8,x9,ac,ae,())) else
bif (decide (x3 > 2)) then (some (x2,x3,x4,true,x8,x9,ac,ae,())) else
let ag:=(dI (List.length x7));
some (x2,x3,x4,(x4==ag),x8,x9,ac,ae,()):Option (T1w)).bind fun(af,ag,ah,ai,aj,ak,am,an,_)=>
bif ai then (some (am,an,(-1),())) else
bif (ag==1) then ((dT af).bind fun ap=>
(dF am ap).bind fun aq=>
(dF am ap).bind fun av=>
let ax:=(List.modify am ap fun e=>[]);
let ay:=(dI (List.length an));
(dO oJ NN (af,ag,ah,ay,0,aj,ak,ax,an,())).bind fun(az,aA,aB,aD,aE,aF,aG,aH,aI,aJ,_)=>
(dT aB).bind fun aK=>
(dF aJ aK).bind fun aL=>
(dF aJ aK).bind fun aM=>
let aO:=(List.modify aJ aK fun e=>(az,(0,(decide (aA > 0)))));
(bif (aA==2) then ((dT az).bind fun aP=>
(dF aI aP).bind fun aQ=>
(dF aI aP).bind fun aR=>
(dF aI aP).bind fun aS=>
let aT:=(dI (List.length aS));
(dT aB).bind fun aU=>
(dF aO aU).bind fun aV=>
(dF aO aU).bind fun aW=>
let aY:=(List.modify aO aU fun e=>(e.1,(aT,e.2.2)));
some (aB,aG,aH,aI,aY,())) else
some (aB,aG,aH,aI,aO,()):Option (T0O)).bind fun(aP,aQ,aR,aS,aT,_)=>
some (aS,aT,aP,())) else
(dT ah).bind fun ap=>
(dF an ap).bind fun aq=>
(dF an ap).bind fun av=>
let ax:=(List.modify an ap fun e=>(af,(0,(decide (ag > 0)))));
(bif (ag==2) then ((dT af).bind fun ay=>
(dF am ay).bind fun az=>
(dF am ay).bind fun aA=>
(dF am ay).bind fun aB=>
let aD:=(dI (List.length aB));
(dT ah).bind fun aE=>
(dF ax aE).bind fun aF=>
(dF ax aE).bind fun aG=>
let aH:=(List.modify ax aE fun e=>(e.1,(aD,e.2.2)));
some (ah,aj,ak,am,aH,())) else
some (ah,aj,ak,am,ax,()):Option (T0O)).bind fun(ay,az,aA,aB,aD,_)=>
some (aB,aD,ay,())
noncomputable def BB:X.Cfg:=⟨E0,[ib],[],[(lx 4 0 [(sP 1 I64),(sP 2 I64),(pP 3 8),(pP 6 14),(pP 8 18),(sP 9 I64)] [(8,(uL [(.row false dY),gh])),(14,(uL [N1,N1])),(18,(uL [(.row true (.row true KCn)),(.row true KOp)]))] 26),⟨8,1,qE,[(.normal,(qS [(sP 1 I64),(sP 2 I64),(pP 6 14),(pP 8 18),(sP 9 I64),(sP 52 .bool)] [(14,(uL [N1,N1])),(18,(uL [(.row true (.row true KCn)),(.row true KOp)]))]))]⟩,⟨17,2,qE,[(.normal,(qS [(sP 1 I64),(sP 2 I64),(pP 6 14),(pP 8 18),(sP 9 I64),(sP 62 I64),(sP 63 I64)] [(14,(uL [N1,N1])),(18,(uL [(.row true (.row true KCn)),(.row true KOp)]))]))]⟩,⟨14,3,(qS [(sP 1 I64),(sP 2 I64),(pP 6 14),(pP 8 18),(sP 9 I64),(sP 62 I64),(sP 63 I64)] [(14,(uL [N1,N1])),(18,(uL [(.row true (.row true KCn)),(.row true KOp)]))]),[(.exit 2,(qS [(sP 1 I64),(sP 2 I64),(pP 6 14),(pP 8 18),(sP 9 I64),(sP 62 I64),(sP 63 I64),(sP 64 .bool)] [(14,(uL [N1,N1])),(18,(uL [(.row true (.row true KCn)),(.row true KOp)]))]))]⟩,⟨21,4,qE,[(.normal,(qS [(pP 6 14),(pP 8 18),(sP 9 I64)] [(14,(uL [N1,N1])),(18,(uL [(.row true (.row true KCn)),(.row true KOp)]))]))]⟩]⟩
def tX:Ctr:=⟨172,86,[.agg (uL [(.row false dY),gh]),shU I64,shU I64],[],[⟨(uL [(.row true (.row true KCn)),(.row true KOp),I64]),[.agg 2,.one],[]⟩],ap4 mH⟩
theorem Bb:Lk 2 tX:=ls (C:=BB) rfl (aC je aN) (by kernel_rfl) fun h=>by kernel_rfl
def lf(a0:List LDCn) (a1:LDOp) (a2:Int):Option (LLCn×LDOp×Bool×Unit):=
(fv a0 a1).bind fun(x0,x1,_)=>
(gi a0 a1 a2).bind fun(x2,_)=>
bif (!x2) then (some (x0,x1,false,())) else
(dT a2).bind fun x3=>
(dF x1 x3).bind fun x4=>
(dF x1 x3).bind fun x5=>
let x6:=(List.modify x1 x3 fun e=>((-1),(0,false)));
some (x0,x6,true,())
noncomputable def zw:X.Cfg:=⟨E0,[ib,kU],[],[]⟩
def rT:Ctr:=⟨173,87,[.agg (uL [(.row false dY),gh]),shU I64],[],[⟨(uL [(.row true (.row true KCn)),(.row true KOp),.bool]),[.agg 2,.one],[]⟩],ap3 lf⟩
theorem yR:Lk 2 rT:=ls (C:=zw) rfl (aC je (aC mS aN)) (by kernel_rfl) fun h=>by kernel_rfl
def mF(a0:List LDCn) (a1:LDOp) (a2:Int) (a3:Int):Option (LLCn×LDOp×Bool×Unit):=
(fv a0 a1).bind fun(x0,x1,_)=>
((gi a0 a1 a2).bind fun(x2,_)=>
bif (!x2) then (some (a2,a3,true,(),(),x0,x1,())) else
bif (decide (a3 < 0)) then (some (a2,a3,true,(),(),x0,x1,())) else
(dT a2).bind fun x3=>
(dF a1 x3).bind fun x4=>
(dT x4.1).bind fun x5=>
(dF a0 x5).bind fun x6=>
let x7:=(dI (List.length x6));
some (a2,a3,(decide (a3 > x7)),(),(),x0,x1,()):Option (T1k)).bind fun(x2,x3,x4,x5,x6,x7,x8,_)=>
bif x4 then (some (x7,x8,false,())) else
(dT x2).bind fun x9=>
(dF x8 x9).bind fun ac=>
(dF x8 x9).bind fun ae=>
let af:=(List.modify x8 x9 fun e=>(e.1,(x3,e.2.2)));
some (x7,af,true,())
noncomputable def Bz:X.Cfg:=⟨E0,[ib,kU],[],[⟨3,0,qE,[(.normal,(qS [(sP 1 I64),(sP 2 I64),(pP 6 14),(pP 8 18),(sP 33 .bool)] [(14,(uL [N1,N1])),(18,(uL [(.row true (.row true KCn)),(.row true KOp)]))]))]⟩]⟩
def tV:Ctr:=⟨174,88,[.agg (uL [(.row false dY),gh]),shU I64,shU I64],[],[⟨(uL [(.row true (.row true KCn)),(.row true KOp),.bool]),[.agg 2,.one],[]⟩],ap4 mF⟩
theorem A9:Lk 2 tV:=ls (C:=Bz) rfl (aC je (aC mS aN)) (by kernel_rfl) fun h=>by kernel_rfl
def mE(a0:LDOu) (a1:Int) (a2:LDCn):Option (LDOu×T01):=
(i7 a0).bind fun(x0,_)=>
(bif (decide (a1 < 0)) then (some (a0,a1,a2,true,x0,())) else
bif (decide (a1≥2)) then (some (a0,a1,a2,true,x0,())) else
let x1:=(dI (List.length a0));
bif (decide (x1≥200)) then (some (a0,a1,a2,true,x0,())) else
let x2:=(dI (List.length a2));
some (a0,a1,a2,(decide (x2 > 16)),x0,()):Option (LDOu×Int×LDCn×Bool×LDOu×Unit)).bind fun(x1,x2,x3,x4,x5,_)=>
bif x4 then (some (x5,0,false,())) else
let x6:=(dI (List.length x1));
bif (dU 24 0 (List.length x3)) then let x7:LDCn:=(List.append [] x3);
let x8:LDOu:=[(x6,(x2,x7))];
bif (dU 40 (List.length x5) (List.length x8)) then let x9:LDOu:=(List.append x5 x8);
let ac:=(dI (List.length x3));
some (x9,ac,true,()) else none else none
noncomputable def Bw:X.Cfg:=⟨E0,[pj],[(36,DU),(37,DU)],[⟨3,0,qE,[(.normal,(qS [(sP 0 iD),(sP 1 I64),(sP 2 dY),(9,.pk ⟨21,0,[]⟩ [0,0]),(sP 27 .bool)] [(21,(uL [(.row true DU)]))]))]⟩]⟩
def tU:Ctr:=⟨175,89,(uL [iD,I64,dY]),[],[⟨(uL [(.row true DU),I64,.bool]),[.one,.one,.one],[]⟩],ap3 mE⟩
theorem A8:Lk 2 tU:=ls (C:=Bw) rfl (aC tC aN) (by kernel_rfl) fun h=>by kernel_rfl
def fM:T1o→Option (T1o⊕(Int×Int×LI×Int×Int×Bool×LLI×LDCn×Unit)):=fun(v0,v1,v2,v3,v4,v5,v6,_)=>
bif (decide (v4 < v3)) then ((dT v4).bind fun x0=>
(dF v2 x0).bind fun x1=>
let x2:LDCn:=[(0,(x1,(0,0)))];
bif (dU 24 (List.length v6) (List.length x2)) then let x3:LDCn:=(List.append v6 x2);
let x4:=(w64 (v4+1));
some (.inl (v0,v1,v2,v3,x4,v5,x3,())) else none) else
some (.inr (v0,v1,v2,v3,v4,false,v5,v6,()))
def jo(a0:List LI) (a1:Int) (a2:Int):Option ((LLI×Unit×Bool×Unit)⊕(LLI×LDCn×Bool×Unit)):=
(ff a0).bind fun(x0,_)=>
(bif (decide (a1 < 0)) then (some (a0,a1,a2,true,x0,())) else
let x1:=(dI (List.length a0));
bif (decide (a1≥x1)) then (some (a0,a1,a2,true,x0,())) else
some (a0,a1,a2,(decide (a2 < 0)),x0,()):Option (LLI×Int×Int×Bool×LLI×Unit)).bind fun(x1,x2,x3,x4,x5,_)=>
bif x4 then (some (.inl (x5,(),false,()))) else
(dT x2).bind fun x6=>
(dF x1 x6).bind fun x7=>
let x8:=(dI (List.length x7));
let x9:=(mmR false x3 x8);
(dT x2).bind fun ac=>
(dF x1 ac).bind fun ae=>
(dT x9).bind fun af=>
bif (ji 0 af (List.length ae)) then let ag:List (Int):=(na ae 0 (Nat.sub af 0));
let ah:=(dI (List.length ag));
(dO fM NN (x2,x9,ag,ah,0,x5,[],())).bind fun(ai,aj,ak,am,an,ap,aq,av,_)=>
(dT ai).bind fun ax=>
(dF aq ax).bind fun ay=>
(dF aq ax).bind fun az=>
(dF aq ax).bind fun aA=>
(dT aj).bind fun aB=>
bif (ji aB (List.length aA) (List.length aA)) then (dF aq ax).bind fun aD=>
(dT ai).bind fun aE=>
(dF aq aE).bind fun aF=>
(dF aq ax).bind fun aG=>
(dF aq aE).bind fun aH=>
let aI:=(List.modify aq aE fun e=>(na aG aB (Nat.sub (List.length aA) aB)));
some (.inr (aI,av,true,())) else none else none
noncomputable def vA:X.Cfg:=⟨E0,[gS],[],[⟨3,0,qE,[(.normal,(qS [(sP 0 (.row false RW)),(sP 1 I64),(sP 2 I64),(9,.pk ⟨21,0,[]⟩ [0,0]),(sP 27 .bool)] [(21,(uL [(.row true (.row true CW))]))]))]⟩,(lx 9 1 [(sP 1 I64),(9,.pk ⟨21,0,[]⟩ [0,0]),(sP 10 I64),(11,.pk ⟨25,0,[]⟩ [0,0]),(sP 41 RW),(sP 42 I64),(sP 43 I64)] [(21,(uL [(.row true (.row true CW))])),(25,(uL [(.row true KCn)]))] 44)]⟩
def ph:Ctr:=⟨176,90,(uL [(.row false RW),I64,I64]),[],[⟨(uL [(.row true (.row true CW)),N1,.bool]),[.one,.one,.one],[]⟩,⟨(uL [(.row true RW),(.row true KCn),.bool]),[.one,.one,.one],[]⟩],ap3 jo⟩
theorem vh:Lk 2 ph:=ls (C:=vA) rfl (aC jJ aN) (by kernel_rfl) fun h=>by kernel_rfl
def rf:T3q→Option (T3q⊕(LDCn×Int×Int×Bool×T3i)):=fun(v0,v1,v2,v3,v4,v5,v6,v7,v8,v9,v10,v11,v12,v13,v14,v15,v16,v17,v18,v19,v20,v21,v22,v23,v24,v25,v26,v27,v28,v29,v30,v31,v32,v33,v34,v35,v36,_)=>
bif (decide (v2 < v1)) then ((dT v2).bind fun x0=>
(dF v0 x0).bind fun x1=>
let x2:=(wk .i64 x1.2.1);
(dT v2).bind fun x3=>
(dF v36 x3).bind fun x4=>
(dF v36 x3).bind fun x5=>
let x6:=(List.modify v36 x3 fun e=>x2);
let x7:=(w64 (v2+1));
some (.inl (v0,v1,x7,v3,v4,v5,v6,v7,v8,v9,v10,v11,v12,v13,v14,v15,v16,v17,v18,v19,v20,v21,v22,v23,v24,v25,v26,v27,v28,v29,v30,v31,v32,v33,v34,v35,x6,()))) else
some (.inr (v0,v1,v2,false,v3,v4,v5,v6,v7,v8,v9,v10,v11,v12,v13,v14,v15,v16,v17,v18,v19,v20,v21,v22,v23,v24,v25,v26,v27,v28,v29,v30,v31,v32,v33,v34,v35,v36,()))
def nb(a0:List (Int)) (a1:List (Int)) (a2:List LI) (a3:List LDCn) (a4:LDOp) (a5:LDOu) (a6:Int) (a7:Int) (a8:Int) (a9:Int) (a10:Int) (a11:Int) (a12:LDCn) (a13:LDCn):Option (LI×LI×LLI×LLCn×LDOp×LDOu×Int×Int×Int×Int×LDCn×Int×Bool×Int×Unit):=
((im a0 a1 a2 a3 a4 a5).bind fun(x0,_)=>
bif (!x0) then (some (true,a0,a1,a2,a3,a4,a5,a6,a7,a8,a9,a10,a11,a12,a13,(),(),(),(),(),(),0,0,0,0,(),0,false,())) else
(jx a6 a7 a8 a9 a10 a11 a12 a13).bind fun(x1,_)=>
bif (!x1) then (some (true,a0,a1,a2,a3,a4,a5,a6,a7,a8,a9,a10,a11,a12,a13,(),(),(),(),(),(),0,0,0,0,(),0,false,())) else
bif (a7 != 1) then (some (true,a0,a1,a2,a3,a4,a5,a6,a7,a8,a9,a10,a11,a12,a13,(),(),(),(),(),(),0,0,0,0,(),0,false,())) else
(oI a11).bind fun(x2,_)=>
bif (!x2) then (some (true,a0,a1,a2,a3,a4,a5,a6,a7,a8,a9,a10,a11,a12,a13,(),(),(),(),(),(),0,0,0,0,(),0,false,())) else
(lk a6 a7 a8 a9 a10 a11 a12 a13).bind fun(x3,_)=>
bif (!x3) then (some (true,a0,a1,a2,a3,a4,a5,a6,a7,a8,a9,a10,a11,a12,a13,(),(),(),(),(),(),0,0,0,0,(),0,false,())) else
(gN a11).bind fun(x4,_)=>
bif (x4==2) then ((dF a12 2).bind fun x5=>
some ((decide (x5.2.1 > 16)),a0,a1,a2,a3,a4,a5,a6,a7,a8,a9,a10,a11,a12,a13,(),(),(),(),(),(),0,0,0,0,(),0,false,())) else
some (false,a0,a1,a2,a3,a4,a5,a6,a7,a8,a9,a10,a11,a12,a13,(),(),(),(),(),(),0,0,0,0,(),0,false,()):Option (Bool×LI×LI×LLI×LLCn×LDOp×LDOu×Int×Int×Int×Int×Int×Int×LDCn×LDCn×Unit×Unit×Unit×Unit×Unit×Unit×T1m)).bind fun(x0,x1,x2,x3,x4,x5,x6,x7,x8,x9,ac,ae,af,ag,ah,ai,aj,ak,am,an,ap,aq,av,ax,ay,az,aA,aB,_)=>
bif x0 then (some ([],[],[],[],[],[],0,0,0,0,[],0,false,1,())) else
(kH x1 x2 x3 x4 x5 x6).bind fun(aD,aE,aF,aG,aH,aI,_)=>
let aJ:List (Int):=[0,0,0];
let aK:=(dI (List.length ag));
(dO rf NN (ag,aK,0,x1,x2,x3,x4,x5,x6,x7,x8,x9,ac,ae,af,ag,ah,ai,aj,ak,am,an,ap,aq,av,ax,ay,az,aA,aB,aD,aE,aF,aG,aH,aI,aJ,())).bind fun(aL,aM,aO,aP,aQ,aR,aS,aT,aU,aV,aW,aY,aZ,ba,bc,bd,be,bf,bg,bh,bi,bj,bk,bl,bm,bn,bo,bp,bq,bt,bv,bx,bA,bB,bC,bD,bE,bF,_)=>
(dV 0 false).bind fun(bG,bH,bI,bJ,bK,bL,bM,_)=>
(match (bif (bd==1) then ((dF bF 0).bind fun bN=>
(dF bF 0).bind fun bO=>
(ld aT aU bO bf).bind fun(bP,bQ,bR,bS,_)=>
(dV bR bS).bind fun(bT,bU,bV,bW,bY,bZ,b8,_)=>
some (.inl (bg,bh,bi,bj,bk,bl,bm,bn,bo,bp,bq,bt,bv,bx,bA,bB,bP,bQ,bE,bT,bU,bV,bW,[],bZ,b8,()))) else
bif (bd==2) then ((dF bF 0).bind fun bN=>
(dF bF 0).bind fun bO=>
(dF bF 2).bind fun bP=>
(dF bF 2).bind fun bQ=>
(match mG aT aU bO bQ with
| none=>none
| some (.inl (bR,bS,bT,bU,_))=>
(dV 0 bU).bind fun(bV,bW,bY,bZ,b8,b9,ca,_)=>
some (.inl (bg,bh,bi,bj,bk,bl,bm,bn,bo,bp,bq,bt,bv,bx,bA,bB,bR,bS,bE,bV,bW,bY,bZ,[],b9,ca,()))
| some (.inr (bR,bS,bT,bU,_))=>
let bV:=(dI (List.length bT));
(dV bV bU).bind fun(bW,bY,bZ,b8,b9,ca,cd,_)=>
some (.inl (bg,bh,bi,bj,bk,bl,bm,bn,bo,bp,bq,bt,bv,bx,bA,bB,bR,bS,bE,bW,bY,bZ,b8,bT,ca,cd,())))) else
bif (bd==3) then ((dF bF 0).bind fun bN=>
(dF bF 0).bind fun bO=>
(dF bF 1).bind fun bP=>
(dF bF 1).bind fun bQ=>
(mH aT aU bO bQ).bind fun(bR,bS,bT,_)=>
bif (decide (bT≥0)) then (let bU:Int:=(wk .u16 bT);
some (.inr (.inl (bg,bh,bi,bj,bk,bl,bm,bn,bo,bp,bq,bt,bv,bx,bA,bB,bR,bS,bE,2,bU,0,0,bK,bL,bM,())))) else
some (.inr (.inl (bg,bh,bi,bj,bk,bl,bm,bn,bo,bp,bq,bt,bv,bx,bA,bB,bR,bS,bE,bG,bH,bI,bJ,bK,bL,bM,())))) else
bif (bd==4) then ((dF bF 0).bind fun bN=>
(dF bF 0).bind fun bO=>
(lf aT aU bO).bind fun(bP,bQ,bR,_)=>
(dV 0 bR).bind fun(bS,bT,bU,bV,bW,bY,bZ,_)=>
some (.inl (bg,bh,bi,bj,bk,bl,bm,bn,bo,bp,bq,bt,bv,bx,bA,bB,bP,bQ,bE,bS,bT,bU,bV,[],bY,bZ,()))) else
bif (bd==5) then ((dF bF 0).bind fun bN=>
(dF bF 0).bind fun bO=>
(dF bF 1).bind fun bP=>
(dF bF 1).bind fun bQ=>
(mF aT aU bO bQ).bind fun(bR,bS,bT,_)=>
(dV 0 bT).bind fun(bU,bV,bW,bY,bZ,b8,b9,_)=>
some (.inl (bg,bh,bi,bj,bk,bl,bm,bn,bo,bp,bq,bt,bv,bx,bA,bB,bR,bS,bE,bU,bV,bW,bY,[],b8,b9,()))) else
bif (bd==6) then (let bN:Int:=(dI (List.length aQ));
bif (decide (bN > 0)) then ((dF aQ 0).bind fun bO=>
let bP:=(wk .i64 bO);
(dV bP true).bind fun(bQ,bR,bS,bT,bU,bV,bW,_)=>
bif (ji 1 (List.length bx) (List.length bx)) then let bY:List (Int):=(na bx 1 (Nat.sub (List.length bx) 1));
some (.inr (.inr (.inl (bg,bh,bi,bj,bk,bl,bm,bn,bo,bp,bq,bt,bv,bY,bA,bB,bC,bD,bE,bQ,bR,bS,bT,bU,bV,bW,())))) else none) else
some (.inr (.inl (bg,bh,bi,bj,bk,bl,bm,bn,bo,bp,bq,bt,bv,bx,bA,bB,bC,bD,bE,bG,bH,bI,bJ,bK,bL,bM,())))) else
bif (bd==7) then (let bN:Int:=(dI (List.length aR));
bif (decide (bN > 0)) then ((dF aR 0).bind fun bO=>
let bP:=(wk .i64 bO);
(dV bP true).bind fun(bQ,bR,bS,bT,bU,bV,bW,_)=>
bif (ji 1 (List.length bA) (List.length bA)) then let bY:List (Int):=(na bA 1 (Nat.sub (List.length bA) 1));
some (.inr (.inr (.inr (.inl (bg,bh,bi,bj,bk,bl,bm,bn,bo,bp,bq,bt,bv,bx,bY,bB,bC,bD,bE,bQ,bR,bS,bT,bU,bV,bW,()))))) else none) else
some (.inr (.inl (bg,bh,bi,bj,bk,bl,bm,bn,bo,bp,bq,bt,bv,bx,bA,bB,bC,bD,bE,bG,bH,bI,bJ,bK,bL,bM,())))) else
bif (bd==13) then ((dF bF 0).bind fun bN=>
(dF bF 0).bind fun bO=>
(mE aV bO bf).bind fun(bP,bQ,bR,_)=>
(dV bQ bR).bind fun(bS,bT,bU,bV,bW,bY,bZ,_)=>
some (.inr (.inl (bg,bh,bi,bj,bk,bl,bm,bn,bo,bp,bq,bt,bv,bx,bA,bB,bC,bD,bP,bS,bT,bU,bV,bW,bY,bZ,())))) else
bif (bd==14) then ((dF bF 0).bind fun bN=>
(dF bF 0).bind fun bO=>
(dF bF 2).bind fun bP=>
(dF bF 2).bind fun bQ=>
(match jo aS bO bQ with
| none=>none
| some (.inl (bR,bS,bT,_))=>
(dV 0 bT).bind fun(bU,bV,bW,bY,bZ,b8,b9,_)=>
some (.inr (.inl (bg,bh,bi,bj,bk,bl,bm,bn,bo,bp,bq,bt,bv,bx,bA,bR,bC,bD,bE,bU,bV,bW,bY,bS,b8,b9,())))
| some (.inr (bR,bS,bT,_))=>
let bU:=(dI (List.length bS));
(dV bU bT).bind fun(bV,bW,bY,bZ,b8,b9,ca,_)=>
some (.inr (.inr (.inr (.inr (bg,bh,bi,bj,bk,bl,bm,bn,bo,bp,bq,bt,bv,bx,bA,bR,bC,bD,bE,bV,bW,bY,bZ,bS,b9,ca,()))))))) else
some (.inr (.inl (bg,bh,bi,bj,bk,bl,bm,bn,bo,bp,bq,bt,bv,bx,bA,bB,bC,bD,bE,bG,bH,bI,bJ,bK,bL,bM,()))):Option (T38⊕(T39⊕(T39⊕(T39⊕T38))))) with
| none=>none
| some (.inl (bN,bO,bP,bQ,bR,bS,bT,bU,bV,bW,bY,bZ,b8,b9,ca,cd,cf,cg,ch,ci,cj,cl,cn,cq,cr,cu,_))=>
some (b9,ca,cd,cf,cg,ch,ci,cj,cl,cn,cq,cr,cu,0,())
| some (.inr (.inl (bN,bO,bP,bQ,bR,bS,bT,bU,bV,bW,bY,bZ,b8,b9,ca,cd,cf,cg,ch,ci,cj,cl,cn,cq,cr,cu,_)))=>
some (b9,ca,cd,cf,cg,ch,ci,cj,cl,cn,[],cr,cu,0,())
| some (.inr (.inr (.inl (bN,bO,bP,bQ,bR,bS,bT,bU,bV,bW,bY,bZ,b8,b9,ca,cd,cf,cg,ch,ci,cj,cl,cn,cq,cr,cu,_))))=>
some (b9,ca,cd,cf,cg,ch,ci,cj,cl,cn,[],cr,cu,0,())
| some (.inr (.inr (.inr (.inl (bN,bO,bP,bQ,bR,bS,bT,bU,bV,bW,bY,bZ,b8,b9,ca,cd,cf,cg,ch,ci,cj,cl,cn,cq,cr,cu,_)))))=>
some (b9,ca,cd,cf,cg,ch,ci,cj,cl,cn,[],cr,cu,0,())
| some (.inr (.inr (.inr (.inr (bN,bO,bP,bQ,bR,bS,bT,bU,bV,bW,bY,bZ,b8,b9,ca,cd,cf,cg,ch,ci,cj,cl,cn,cq,cr,cu,_)))))=>
some (b9,ca,cd,cf,cg,ch,ci,cj,cl,cn,cq,cr,cu,0,()))
noncomputable def FM:X.Cfg:=⟨E0,[lK,oe,tT,rX,iI,pf,jQ,rS,tW,tX,rT,tV,tU,ph],[],[⟨2,0,qE,[(.normal,(qS [(pP 2 6),(pP 3 8),(pP 4 10),(pP 5 12),(sP 67 .bool)] [(6,(uL [RW,RW,(.row false RW),(.row false dY),gh,iD])),(8,(uL [I64,I64,I64,I64,I64,I64,dY,dY])),(10,(uL [N1,N1,N1,N1,N1,N1])),(12,(uL [CB,CW,I64,I64,N1,I64,.bool]))]))]⟩,(lx 8 1 [(pP 2 6),(pP 3 8),(pP 4 10),(pP 5 12),(pP 7 16),(8,.pk ⟨19,0,[]⟩ [0,0]),(sP 74 dY),(sP 75 I64),(sP 76 I64)] [(6,(uL [RW,RW,(.row false RW),(.row false dY),gh,iD])),(8,(uL [I64,I64,I64,I64,I64,I64,dY,dY])),(10,(uL [N1,N1,N1,N1,N1,N1])),(12,(uL [CB,CW,I64,I64,N1,I64,.bool])),(16,(uL [(.row true CW),(.row true CW),(.row true (.row true CW)),(.row true (.row true KCn)),(.row true KOp),(.row true DU)])),(19,(uL [(.row true I64)]))] 77),⟨14,2,qE,[(.normal,(qS [(pP 4 10),(pP 5 12),(pP 7 16),(pP 11 24)] [(10,(uL [N1,N1,N1,N1,N1,N1])),(12,(uL [CB,CW,I64,I64,N1,I64,.bool])),(16,(uL [(.row true CW),(.row true CW),(.row true (.row true CW)),(.row false dY),gh,(.row true DU)])),(24,(uL [CB,CW,I64,I64,(.row true KCn),I64,.bool]))])),(.normal,(qS [(pP 4 10),(pP 5 12),(pP 7 16),(pP 11 24)] [(10,(uL [N1,N1,N1,N1,N1,N1])),(12,(uL [CB,CW,I64,I64,N1,I64,.bool])),(16,(uL [(.row true CW),(.row true CW),(.row true (.row true CW)),(.row true (.row true KCn)),(.row true KOp),(.row true DU)])),(24,(uL [CB,CW,I64,I64,N1,I64,.bool]))])),(.normal,(qS [(pP 4 10),(pP 5 12),(pP 7 16),(pP 11 24)] [(10,(uL [N1,N1,N1,N1,N1,N1])),(12,(uL [CB,CW,I64,I64,N1,I64,.bool])),(16,(uL [RW,(.row true CW),(.row true (.row true CW)),(.row true (.row true KCn)),(.row true KOp),(.row true DU)])),(24,(uL [CB,CW,I64,I64,N1,I64,.bool]))])),(.normal,(qS [(pP 4 10),(pP 5 12),(pP 7 16),(pP 11 24)] [(10,(uL [N1,N1,N1,N1,N1,N1])),(12,(uL [CB,CW,I64,I64,N1,I64,.bool])),(16,(uL [(.row true CW),RW,(.row true (.row true CW)),(.row true (.row true KCn)),(.row true KOp),(.row true DU)])),(24,(uL [CB,CW,I64,I64,N1,I64,.bool]))])),(.normal,(qS [(pP 4 10),(pP 5 12),(pP 7 16),(pP 11 24)] [(10,(uL [N1,N1,N1,N1,N1,N1])),(12,(uL [CB,CW,I64,I64,N1,I64,.bool])),(16,(uL [(.row true CW),(.row true CW),(.row true RW),(.row true (.row true KCn)),(.row true KOp),(.row true DU)])),(24,(uL [CB,CW,I64,I64,(.row true KCn),I64,.bool]))]))]⟩]⟩
def yj:Ctr:=⟨154,91,[.agg (uL [RW,RW,(.row false RW),(.row false dY),gh,iD]),.agg (uL [I64,I64,I64,I64,I64,I64,dY,dY])],[],[⟨(uL [RW,RW,(.row false RW),(.row false dY),gh,iD,CB,CW,I64,I64,dY,I64,.bool,I64]),[.agg 6,.agg 7,.one],[]⟩],ap14 nb⟩
theorem FE:Lk 5 yj:=ls (C:=FM) rfl (aC nU (aC rB (aC A7 (aC yV (aC ky (aC tB (aC lG (aC yQ (aC Ba (aC Bb (aC yR (aC A9 (aC A8 (aC vh aN)))))))))))))) (by kernel_rfl) fun h=>by kernel_rfl
def jl:T3c→Option (T3c⊕(T34⊕(LDTh×Int×Int×Bool×T34))):=fun(v0,v1,v2,v3,v4,v5,v6,v7,v8,v9,v10,v11,v12,v13,v14,v15,v16,v17,v18,v19,v20,v21,v22,v23,v24,v25,v26,v27,_)=>
bif (decide (v2 < v1)) then ((dT v2).bind fun x0=>
(dF v0 x0).bind fun x1=>
bif (x1.1==0) then ((dV v2 true).bind fun(x2,x3,x4,x5,x6,x7,x8,_)=>
some (.inr (.inl (v3,v4,v5,v6,v7,v8,v9,v10,v11,v12,v13,v14,v15,v16,v17,v18,v19,v20,x2,x3,x4,x5,x6,v2,x8,())))) else
let x2:=(w64 (v2+1));
some (.inl (v0,v1,x2,v3,v4,v5,v6,v7,v8,v9,v10,v11,v12,v13,v14,v15,v16,v17,v18,v19,v20,v21,v22,v23,v24,v25,v26,v27,()))) else
some (.inr (.inr (v0,v1,v2,false,v3,v4,v5,v6,v7,v8,v9,v10,v11,v12,v13,v14,v15,v16,v17,v18,v19,v20,v21,v22,v23,v24,v25,v26,v27,())))
def jm(a0:Int) (a1:Int) (a2:Int) (a3:Int) (a4:Int) (a5:Int) (a6:LDCn) (a7:LDCn) (a8:LDIn) (a9:List (Int)) (a10:List LI) (a11:List (Int)) (a12:Int) (a13:LDCe) (a14:LDLn) (a15:LDTh) (a16:List (Int)) (a17:List (Int)) (a18:List LI) (a19:List LDCn) (a20:LDOp) (a21:LDOu) (a22:List (Int)) (a23:List LI) (a24:LDEn) (a25:List (Int)):Option (Int×Int×Int×Int×LDCn×T2W):=
(bif (a5==0) then (some (a5,true,a8,a9,a10,a11,a12,a13,a14,a15,a16,a17,a18,a19,a20,a21,a22,a23,a24,a25,a0,a1,a2,a3,a4,a5,a6,a7,0,0,0,0,(),0,false,())) else
bif (a5==12) then (some (a5,true,a8,a9,a10,a11,a12,a13,a14,a15,a16,a17,a18,a19,a20,a21,a22,a23,a24,a25,a0,a1,a2,a3,a4,a5,a6,a7,0,0,0,0,(),0,false,())) else
some (a5,(a5==15),a8,a9,a10,a11,a12,a13,a14,a15,a16,a17,a18,a19,a20,a21,a22,a23,a24,a25,a0,a1,a2,a3,a4,a5,a6,a7,0,0,0,0,(),0,false,()):Option (T3j)).bind fun(x0,x1,x2,x3,x4,x5,x6,x7,x8,x9,ac,ae,af,ag,ah,ai,aj,ak,am,an,ap,aq,av,ax,ay,az,aA,aB,aD,aE,aF,aG,aH,aI,aJ,_)=>
bif x1 then ((dV 0 true).bind fun(aK,aL,aM,aO,aP,aQ,aR,_)=>
some (aK,aL,aM,aO,[],aQ,aR,x2,x3,x4,x5,x6,x7,x8,x9,ac,ae,af,ag,ah,ai,aj,ak,am,an,())) else
bif (x0==8) then ((dF aA 0).bind fun aK=>
let aL:=(wk .i64 aK.2.1);
(mI aj ak aL ap).bind fun(aM,aO,aP,_)=>
(dV 0 (aP != 2)).bind fun(aQ,aR,aS,aT,aU,aV,aW,_)=>
some (aQ,aR,aS,aT,[],aV,(aP==1),x2,x3,x4,x5,x6,x7,x8,x9,ac,ae,af,ag,ah,ai,aM,aO,am,an,())) else
bif (x0==9) then ((dF aA 0).bind fun aK=>
let aL:=(wk .i64 aK.2.1);
(i8 aj ak aL ap).bind fun(aM,aO,aP,aQ,_)=>
(dV 0 aQ).bind fun(aR,aS,aT,aU,aV,aW,aY,_)=>
some (aR,aS,aT,aU,[],aW,aY,x2,x3,x4,x5,x6,x7,x8,x9,ac,ae,af,ag,ah,ai,aM,aO,am,an,())) else
bif (x0==10) then (let aK:Int:=(dI (List.length x9));
(match dO jl NN (x9,aK,0,x2,x3,x4,x5,x6,x7,x8,x9,ac,ae,af,ag,ah,ai,aj,ak,am,an,aD,aE,aF,aG,aH,aI,aJ,()) with
| none=>none
| some (.inl (aL,aM,aO,aP,aQ,aR,aS,aT,aU,aV,aW,aY,aZ,ba,bc,bd,be,bf,bg,bh,bi,bj,bk,bl,bm,_))=>
some (bg,bh,bi,bj,[],bl,bm,aL,aM,aO,aP,aQ,aR,aS,aT,aU,aV,aW,aY,aZ,ba,bc,bd,be,bf,())
| some (.inr (aL,aM,aO,aP,aQ,aR,aS,aT,aU,aV,aW,aY,aZ,ba,bc,bd,be,bf,bg,bh,bi,bj,bk,bl,bm,bn,bo,bp,bq,_))=>
(dV 0 false).bind fun(bt,bv,bx,bA,bB,bC,bD,_)=>
some (bt,bv,bx,bA,[],bC,bD,aQ,aR,aS,aT,aU,aV,aW,aY,aZ,ba,bc,bd,be,bf,bg,bh,bi,bj,()))) else
bif (x0==11) then ((dF aA 0).bind fun aK=>
let aL:=(wk .i64 aK.2.1);
(bif (aL==ap) then (some (aL,true,x2,x3,x4,x5,x6,x7,x8,x9,ac,ae,af,ag,ah,ai,aj,ak,am,an,ap,aq,av,ax,ay,az,aA,aB,aD,aE,aF,aG,aH,aI,aJ,())) else
bif (decide (aL≥4)) then (some (aL,true,x2,x3,x4,x5,x6,x7,x8,x9,ac,ae,af,ag,ah,ai,aj,ak,am,an,ap,aq,av,ax,ay,az,aA,aB,aD,aE,aF,aG,aH,aI,aJ,())) else
(dT aL).bind fun aM=>
(dF x9 aM).bind fun aO=>
some (aL,(aO.1==0),x2,x3,x4,x5,x6,x7,x8,x9,ac,ae,af,ag,ah,ai,aj,ak,am,an,ap,aq,av,ax,ay,az,aA,aB,aD,aE,aF,aG,aH,aI,aJ,()):Option (T3j)).bind fun(aM,aO,aP,aQ,aR,aS,aT,aU,aV,aW,aY,aZ,ba,bc,bd,be,bf,bg,bh,bi,bj,bk,bl,bm,bn,bo,bp,bq,bt,bv,bx,bA,bB,bC,bD,_)=>
bif aO then ((dV 0 false).bind fun(bE,bF,bG,bH,bI,bJ,bK,_)=>
some (bE,bF,bG,bH,[],bJ,bK,aP,aQ,aR,aS,aT,aU,aV,aW,aY,aZ,ba,bc,bd,be,bf,bg,bh,bi,())) else
(dT aM).bind fun bE=>
(dF aW bE).bind fun bF=>
bif (bF.1==4) then (let bG:Int:=(wk .i64 bF.2.2.2.2.2.2.2);
(dV bG true).bind fun(bH,bI,bJ,bK,bL,bM,bN,_)=>
some (bH,bI,bJ,bK,[],bM,bN,aP,aQ,aR,aS,aT,aU,aV,aW,aY,aZ,ba,bc,bd,be,bf,bg,bh,bi,())) else
(dT bj).bind fun bG=>
(dF bi bG).bind fun bH=>
(dF bi bG).bind fun bI=>
let bJ:=(List.modify bi bG fun e=>aM);
(dV 0 true).bind fun(bK,bL,bM,bN,bO,bP,bQ,_)=>
some (bK,bL,bM,bN,[],bP,true,aP,aQ,aR,aS,aT,aU,aV,aW,aY,aZ,ba,bc,bd,be,bf,bg,bh,bJ,())) else
(nb ac ae af ag ah ai ap aq av ax ay az aA aB).bind fun(aK,aL,aM,aO,aP,aQ,aR,aS,aT,aU,aV,aW,aY,aZ,_)=>
some (aR,aS,aT,aU,aV,aW,aY,x2,x3,x4,x5,x6,x7,x8,x9,aK,aL,aM,aO,aP,aQ,aj,ak,am,an,())
noncomputable def vz:X.Cfg:=⟨E0,[jQ,tY,mW,yj],[],[⟨3,0,qE,[(.normal,(qS [(pP 0 2),(pP 3 8),(pP 4 10),(sP 21 I64),(sP 22 .bool)] [(2,(uL [eU,RI,(.row false RW),RI,CW,eG,eS,fB,RW,RW,(.row false RW),(.row false dY),gh,iD,RI,(.row false RI),(.row true rb),(.row true I64)])),(8,(uL [I64,I64,I64,I64,I64,I64,dY,dY])),(10,(uL [CB,CW,I64,I64,N1,I64,.bool]))]))]⟩,⟨20,1,(qS [(pP 0 2),(pP 4 10),(sP 87 fB),(sP 88 I64),(sP 89 I64)] [(2,(uL [eU,RI,(.row false RW),RI,CW,eG,eS,fB,RW,RW,(.row false RW),(.row false dY),gh,iD,RI,(.row false RI),(.row true rb),(.row true I64)])),(10,(uL [CB,CW,I64,I64,N1,I64,.bool]))]),[(.ret,(qS [(pP 0 2),(pP 4 10)] [(2,(uL [eU,RI,(.row false RW),RI,CW,eG,eS,fB,RW,RW,(.row false RW),(.row false dY),gh,iD,RI,(.row false RI),(.row true rb),(.row true I64)])),(10,(uL [CB,CW,I64,I64,N1,I64,.bool]))])),(.exit 1,(qS [(pP 0 2),(pP 4 10),(sP 87 fB),(sP 88 I64),(sP 89 I64),(sP 90 .bool)] [(2,(uL [eU,RI,(.row false RW),RI,CW,eG,eS,fB,RW,RW,(.row false RW),(.row false dY),gh,iD,RI,(.row false RI),(.row true rb),(.row true I64)])),(10,(uL [CB,CW,I64,I64,N1,I64,.bool]))]))]⟩,⟨33,2,qE,[(.normal,(qS [(pP 0 2),(pP 3 8),(pP 4 10),(sP 14 I64),(sP 131 .bool)] [(2,(uL [eU,RI,(.row false RW),RI,CW,eG,eS,fB,RW,RW,(.row false RW),(.row false dY),gh,iD,RI,(.row false RI),(.row true rb),(.row true I64)])),(8,(uL [I64,I64,I64,I64,I64,I64,dY,dY])),(10,(uL [CB,CW,I64,I64,N1,I64,.bool]))]))]⟩]⟩
def pe:Ctr:=⟨133,92,[.ptr ⟨2,0,[]⟩ [0],.agg (uL [I64,I64,I64,I64,I64,I64,dY,dY])],[(2,(uL [eU,RI,(.row false RW),RI,CW,eG,eS,fB,RW,RW,(.row false RW),(.row false dY),gh,iD,RI,(.row false RI),(.row true rb),(.row true I64)]))],[⟨(uL [CB,CW,I64,I64,dY,I64,.bool]),[.agg 7],[(2,(uL [eU,RI,(.row false RW),RI,CW,eG,eS,fB,RW,RW,(.row false RW),(.row false dY),gh,iD,RI,(.row false RI),(.row true rb),(.row true I64)]))]⟩],ap26 jm⟩
theorem vg:Lk 6 pe:=ls (C:=vz) rfl (aC lG (aC Bc (aC o5 (aC FE aN)))) (by kernel_rfl) fun h=>by kernel_rfl
def ju(a0:Int) (a1:Int) (a2:Int) (a3:Int) (a4:LDCn) (a5:Int) (a6:Bool):Option (Bool×Unit):=
(ja a0 a1 a2 a3).bind fun(x0,_)=>
bif x0 then ((eW a4 16).bind fun(x1,_)=>
bif x1 then (bif (decide (a5≥(-1))) then (some ((decide (a5 < 4)),())) else
some (false,())) else
some (false,())) else
some (false,())
noncomputable def zx:X.Cfg:=⟨E0,[pt,fT],[],[]⟩
def od:Ctr:=⟨156,93,[.agg (uL [CB,CW,I64,I64,dY,I64,.bool])],[],[⟨(uL [.bool]),[.one],[]⟩],ap7 ju⟩
theorem rA:Lk 3 od:=ls (C:=zx) rfl (aC tF (aC gy aN)) (by kernel_rfl) fun h=>by kernel_rfl
def fV(a0:List (Int)) (a1:Int) (a2:List (Int)) (a3:Int) (a4:Int) (a5:Int) (a6:Int):Option (T0e):=
(fW a2 a3 a4 a5 a6).bind fun(x0,_)=>
bif (!x0) then (some (0,0,1,())) else
bif (a3==0) then (some (0,a4,0,())) else
bif (a3==2) then (let x1:Int:=(wk .u16 (a4+a1));
some (2,x1,0,())) else
(dT a5).bind fun x1=>
(dF a0 x1).bind fun x2=>
let x3:=(w64 (x2+a6));
let x4:=(wk .u16 x3);
some (1,x4,0,())
noncomputable def Dp:X.Cfg:=⟨E0,[iJ],[],[]⟩
def oi:Ctr:=⟨64,94,[.agg (uL [RI,CW]),shU RI,.agg (uL [CB,CW,I64,I64])],[],[⟨(uL [CB,CW,I64]),[.agg 2,.one],[]⟩],ap7 fV⟩
theorem qT:Lk 3 oi:=ls (C:=Dp) rfl (aC kz aN) (by kernel_rfl) fun h=>by kernel_rfl
def jD(a0:List (Int)) (a1:Int) (a2:List (Int)) (a3:Int) (a4:Int):Option (T02):=
(fa a2 a3 a4).bind fun(x0,_)=>
bif (!x0) then (some (0,6,())) else
(dT a3).bind fun x1=>
(dF a0 x1).bind fun x2=>
let x3:=(w64 (x2+a4));
some (x3,0,())
noncomputable def vH:X.Cfg:=⟨E0,[iK],[],[]⟩
def pD:Ctr:=⟨177,95,[.agg (uL [RI,CW]),shU RI,.agg (uL [I64,I64])],[],[⟨(uL [I64,I64]),[.one,.one],[]⟩],ap5 jD⟩
theorem vp:Lk 2 pD:=ls (C:=vH) rfl (aC kA aN) (by kernel_rfl) fun h=>by kernel_rfl
def rh:Option (T1D):=
bif (qO 8 8 2) then let x0:LDCe:=(List.replicate 8 (0,0));
some (0,x0,0,0,(-1),(-1),0,0,()) else none
noncomputable def zL:X.Cfg:=⟨E0,[],[],[]⟩
def r8:Ctr:=⟨185,96,[],[],[⟨(uL [I64,(.row true KCe),I64,I64,I64,I64,I64,CW]),[.agg 8],[]⟩],fun h=>rh⟩
theorem y8:Lk 1 r8:=ls (C:=zL) rfl aN (by kernel_rfl) fun h=>by kernel_rfl
def nN(a0:Int) (a1:Int) (a2:Int):Option (T1D):=
(rh).bind fun(x0,x1,x2,x3,x4,x5,x6,x7,_)=>
(dF x1 0).bind fun x8=>
(dF x1 0).bind fun x9=>
let ac:=(List.modify x1 0 fun e=>(a1,a2));
some (1,ac,a0,x3,x4,x5,x6,x7,())
noncomputable def Dm:X.Cfg:=⟨E0,[r8],[],[]⟩
def wt:Ctr:=⟨178,97,[shU I64,.agg (uL [CB,CW])],[],[⟨(uL [I64,(.row true KCe),I64,I64,I64,I64,I64,CW]),[.agg 8],[]⟩],ap3 nN⟩
theorem Db:Lk 2 wt:=ls (C:=Dm) rfl (aC y8 aN) (by kernel_rfl) fun h=>by kernel_rfl
def ki:T3d→Option (T3d⊕(T0Y⊕T3e)):=fun(v0,v1,v2,v3,v4,v5,v6,v7,v8,v9,v10,v11,v12,v13,v14,v15,v16,v17,v18,v19,v20,v21,v22,v23,v24,v25,v26,v27,v28,v29,v30,_)=>
bif (decide (v3 < v2)) then ((dT v3).bind fun x0=>
(dF v1 x0).bind fun x1=>
(fV v4 v5 v10 x1.1 x1.2.1 x1.2.2.1 x1.2.2.2).bind fun(x2,x3,x4,_)=>
bif (x4 != 0) then (some (.inr (.inl (false,v4,v5,v6,v7,v8,())))) else
(fa v10 v29 v30).bind fun(x5,_)=>
bif (!x5) then (some (.inr (.inl (false,v4,v5,v6,v7,v8,())))) else
(jD v4 v5 v10 v29 v30).bind fun(x6,x7,_)=>
(ir x6 x2 x3 v6 v7).bind fun(x8,x9,_)=>
let ac:=(w64 (v30+1));
let ae:=(w64 (v3+1));
some (.inl (v0,v1,v2,ae,v4,v5,x8,x9,v8,v9,v10,v11,v12,v13,v14,v15,v16,v17,v18,v19,v20,v21,v22,v23,v24,v25,v26,v27,v28,v29,ac,()))) else
some (.inr (.inr (v0,v1,v2,v3,false,v4,v5,v6,v7,v8,v9,v10,v11,v12,v13,v14,v15,v16,v17,v18,v19,v20,v21,v22,v23,v24,v25,v26,v27,v28,v29,v30,())))
def nK(a0:LDIn) (a1:List (Int)) (a2:List LI) (a3:Int) (a4:Int) (a5:Int) (a6:Int) (a7:Int) (a8:Int) (a9:LDCn) (a10:LDCn) (a11:Int) (a12:Int) (a13:Int) (a14:Int) (a15:LDCn) (a16:Int) (a17:Bool) (a18:List (Int)) (a19:Int) (a20:LDCe) (a21:LDLn) (a22:LDTh):Option (T0Y):=
(dT a3).bind fun x0=>
(dF a22 x0).bind fun x1=>
(fV a18 a19 a1 a11 a12 a13 a14).bind fun(x2,x3,x4,_)=>
bif (x4 != 0) then (some (false,a18,a19,a20,a21,a22,())) else
(match ((gN a8).bind fun(x5,_)=>
bif (x5==2) then (let x6:Int:=(dI (List.length a15));
bif (decide (x6 > 0)) then ((dF a9 1).bind fun x7=>
(dF a9 1).bind fun x8=>
(dF a9 1).bind fun x9=>
(fW a1 x9.1 x9.2.1 x9.2.2.1 x9.2.2.2).bind fun(ac,_)=>
bif (!ac) then (some (.inl (false,a18,a19,a20,a21,a22,()))) else
(dF a9 1).bind fun ae=>
bif (ae.1 != 1) then (some (.inl (false,a18,a19,a20,a21,a22,()))) else
let af:=(dI (List.length a15));
(match dO ki NN (x0,a15,af,0,a18,a19,a20,a21,a22,a0,a1,a2,a3,a4,a5,a6,a7,a8,a9,a10,a11,a12,a13,a14,a15,a16,a17,x2,x3,x7.2.2.1,x8.2.2.2,()) with
| none=>none
| some (.inl (ag,ah,ai,aj,ak,am,_))=>
some (.inl (ag,ah,ai,aj,ak,am,()))
| some (.inr (ag,ah,ai,aj,ak,am,an,ap,aq,av,ax,ay,az,aA,aB,aD,aE,aF,aG,aH,aI,aJ,aK,aL,aM,aO,aP,aQ,aR,aS,aT,aU,_))=>
some (.inr (.inl (ag,ah,ai,aj,ak,am,an,ap,aq,av,ax,ay,az,aA,aB,aD,aE,aF,aG,aH,aI,aJ,aK,aL,aM,aO,aP,aQ,aR,aS,aT,aU,()))))) else
some (.inr (.inr (x0,false,a18,a19,a20,a21,a22,a0,a1,a2,a3,a4,a5,a6,a7,a8,a9,a10,a11,a12,a13,a14,a15,a16,a17,x2,x3,())))) else
some (.inr (.inr (x0,false,a18,a19,a20,a21,a22,a0,a1,a2,a3,a4,a5,a6,a7,a8,a9,a10,a11,a12,a13,a14,a15,a16,a17,x2,x3,()))):Option (T0Y⊕(T3e⊕(Nat×Bool×T35)))) with
| none=>none
| some (.inl (x5,x6,x7,x8,x9,ac,_))=>
some (x5,x6,x7,x8,x9,ac,())
| some (.inr (.inl (x5,x6,x7,x8,x9,ac,ae,af,ag,ah,ai,aj,ak,am,an,ap,aq,av,ax,ay,az,aA,aB,aD,aE,aF,aG,aH,aI,aJ,aK,aL,_)))=>
(match (bif (ax==12) then ((dF ay 0).bind fun aM=>
let aO:=(wk .i64 aM.2.1);
bif (decide (aO > 255)) then (some (.inl (false,ac,ae,af,ag,ah,()))) else
(dF ay 0).bind fun aP=>
bif (aP.1 != 0) then (some (.inl (false,ac,ae,af,ag,ah,()))) else
(dF ay 0).bind fun aQ=>
let aR:=(wk .i64 aQ.2.1);
(dF ah x5).bind fun aS=>
let aT:=(List.modify ah x5 fun e=>(e.1,(e.2.1,(e.2.2.1,(e.2.2.2.1,(aR,e.2.2.2.2.2))))));
some (.inr (x5,ac,ae,af,ag,aT,ai,aj,ak,am,an,ap,aq,av,ax,ay,az,aA,aB,aD,aE,aF,aG,aH,aI,aJ,()))) else
some (.inr (x5,ac,ae,af,ag,ah,ai,aj,ak,am,an,ap,aq,av,ax,ay,az,aA,aB,aD,aE,aF,aG,aH,aI,aJ,())):Option (T0Y⊕T37)) with
| none=>none
| some (.inl (aM,aO,aP,aQ,aR,aS,_))=>
some (aM,aO,aP,aQ,aR,aS,())
| some (.inr (aM,aO,aP,aQ,aR,aS,aT,aU,aV,aW,aY,aZ,ba,bc,bd,be,bf,bg,bh,bi,bj,bk,bl,bm,bn,bo,_))=>
(match (bif (bd==10) then (bif (decide (bl≥0)) then ((dF be 1).bind fun bp=>
(fV aO aP aU bp.1 bp.2.1 bp.2.2.1 bp.2.2.2).bind fun(bq,bt,bv,_)=>
(bif (bv != 0) then (some (aM,true,aO,aP,aQ,aR,aS,aW,aY,aZ,ba,bc,bd,be,bf,bg,bh,bi,bj,bk,bl,bm,bn,bo,bq,bt,())) else
(dT bl).bind fun bx=>
(dF aS bx).bind fun bA=>
(dF aS bx).bind fun bB=>
bif (bB.1 != 0) then (some (aM,true,aO,aP,aQ,aR,aS,aW,aY,aZ,ba,bc,bd,be,bf,bg,bh,bi,bj,bk,bl,bm,bn,bo,bq,bt,())) else
(dF be 0).bind fun bC=>
let bD:=(wk .i64 bC.2.1);
bif (decide (bD > 255)) then (some (aM,true,aO,aP,aQ,aR,aS,aW,aY,aZ,ba,bc,bd,be,bf,bg,bh,bi,bj,bk,bl,bm,bn,bo,bq,bt,())) else
(dF be 0).bind fun bE=>
some (aM,(bE.1 != 0),aO,aP,aQ,aR,aS,aW,aY,aZ,ba,bc,bd,be,bf,bg,bh,bi,bj,bk,bl,bm,bn,bo,bq,bt,()):Option (T36)).bind fun(bx,bA,bB,bC,bD,bE,bF,bG,bH,bI,bJ,bK,bL,bM,bN,bO,bP,bQ,bR,bS,bT,bU,bV,bW,bY,bZ,_)=>
bif bA then (some (.inl (false,bB,bC,bD,bE,bF,()))) else
(dF bM 0).bind fun b8=>
let b9:=(wk .i64 b8.2.1);
(nN b9 bY bZ).bind fun(ca,cd,cf,cg,ch,ci,cj,cl,_)=>
(dT bT).bind fun cn=>
(dF bF cn).bind fun cq=>
(dF bF cn).bind fun cr=>
let cu:=(List.modify bF cn fun e=>(ca,(cd,(cf,(cg,(ch,(ci,(cj,cl))))))));
some (.inr (bx,bB,bC,bD,bE,cu,bG,bH,bI,bJ,bK,bL,bM,bN,bV,bW,()))) else
some (.inr (aM,aO,aP,aQ,aR,aS,aW,aY,aZ,ba,bc,bd,be,bf,bn,bo,()))) else
some (.inr (aM,aO,aP,aQ,aR,aS,aW,aY,aZ,ba,bc,bd,be,bf,bn,bo,())):Option (T0Y⊕T2L)) with
| none=>none
| some (.inl (bp,bq,bt,bv,bx,bA,_))=>
some (bp,bq,bt,bv,bx,bA,())
| some (.inr (bp,bq,bt,bv,bx,bA,bB,bC,bD,bE,bF,bG,bH,bI,bJ,bK,_))=>
(dF bA bp).bind fun bL=>
(dF bA bp).bind fun bM=>
(dF bM.2.1 0).bind fun bN=>
(dF bA bp).bind fun bO=>
(dF bO.2.1 0).bind fun bP=>
let bQ:=(List.modify bA bp fun e=>(e.1,((List.modify e.2.1 0 fun e=>(bJ,bK)),e.2.2)));
(dF bQ bp).bind fun bR=>
let bS:=(List.modify bQ bp fun e=>(1,e.2));
some (true,bq,bt,bv,bx,bS,())))
| some (.inr (.inr (x5,x6,x7,x8,x9,ac,ae,af,ag,ah,ai,aj,ak,am,an,ap,aq,av,ax,ay,az,aA,aB,aD,aE,aF,aG,_)))=>
(match (bif (ap==12) then ((dF aq 0).bind fun aH=>
let aI:=(wk .i64 aH.2.1);
bif (decide (aI > 255)) then (some (.inl (false,x7,x8,x9,ac,ae,()))) else
(dF aq 0).bind fun aJ=>
bif (aJ.1 != 0) then (some (.inl (false,x7,x8,x9,ac,ae,()))) else
(dF aq 0).bind fun aK=>
let aL:=(wk .i64 aK.2.1);
(dF ae x5).bind fun aM=>
let aO:=(List.modify ae x5 fun e=>(e.1,(e.2.1,(e.2.2.1,(e.2.2.2.1,(aL,e.2.2.2.2.2))))));
some (.inr (x5,x7,x8,x9,ac,aO,af,ag,ah,ai,aj,ak,am,an,ap,aq,av,ax,ay,az,aA,aB,aD,aE,aF,aG,()))) else
some (.inr (x5,x7,x8,x9,ac,ae,af,ag,ah,ai,aj,ak,am,an,ap,aq,av,ax,ay,az,aA,aB,aD,aE,aF,aG,())):Option (T0Y⊕T37)) with
| none=>none
| some (.inl (aH,aI,aJ,aK,aL,aM,_))=>
some (aH,aI,aJ,aK,aL,aM,())
| some (.inr (aH,aI,aJ,aK,aL,aM,aO,aP,aQ,aR,aS,aT,aU,aV,aW,aY,aZ,ba,bc,bd,be,bf,bg,bh,bi,bj,_))=>
(match (bif (aW==10) then (bif (decide (bg≥0)) then ((dF aY 1).bind fun bk=>
(fV aI aJ aP bk.1 bk.2.1 bk.2.2.1 bk.2.2.2).bind fun(bl,bm,bn,_)=>
(bif (bn != 0) then (some (aH,true,aI,aJ,aK,aL,aM,aR,aS,aT,aU,aV,aW,aY,aZ,ba,bc,bd,be,bf,bg,bh,bi,bj,bl,bm,())) else
(dT bg).bind fun bo=>
(dF aM bo).bind fun bp=>
(dF aM bo).bind fun bq=>
bif (bq.1 != 0) then (some (aH,true,aI,aJ,aK,aL,aM,aR,aS,aT,aU,aV,aW,aY,aZ,ba,bc,bd,be,bf,bg,bh,bi,bj,bl,bm,())) else
(dF aY 0).bind fun bt=>
let bv:=(wk .i64 bt.2.1);
bif (decide (bv > 255)) then (some (aH,true,aI,aJ,aK,aL,aM,aR,aS,aT,aU,aV,aW,aY,aZ,ba,bc,bd,be,bf,bg,bh,bi,bj,bl,bm,())) else
(dF aY 0).bind fun bx=>
some (aH,(bx.1 != 0),aI,aJ,aK,aL,aM,aR,aS,aT,aU,aV,aW,aY,aZ,ba,bc,bd,be,bf,bg,bh,bi,bj,bl,bm,()):Option (T36)).bind fun(bo,bp,bq,bt,bv,bx,bA,bB,bC,bD,bE,bF,bG,bH,bI,bJ,bK,bL,bM,bN,bO,bP,bQ,bR,bS,bT,_)=>
bif bp then (some (.inl (false,bq,bt,bv,bx,bA,()))) else
(dF bH 0).bind fun bU=>
let bV:=(wk .i64 bU.2.1);
(nN bV bS bT).bind fun(bW,bY,bZ,b8,b9,ca,cd,cf,_)=>
(dT bO).bind fun cg=>
(dF bA cg).bind fun ch=>
(dF bA cg).bind fun ci=>
let cj:=(List.modify bA cg fun e=>(bW,(bY,(bZ,(b8,(b9,(ca,(cd,cf))))))));
some (.inr (bo,bq,bt,bv,bx,cj,bB,bC,bD,bE,bF,bG,bH,bI,bQ,bR,()))) else
some (.inr (aH,aI,aJ,aK,aL,aM,aR,aS,aT,aU,aV,aW,aY,aZ,bi,bj,()))) else
some (.inr (aH,aI,aJ,aK,aL,aM,aR,aS,aT,aU,aV,aW,aY,aZ,bi,bj,())):Option (T0Y⊕T2L)) with
| none=>none
| some (.inl (bk,bl,bm,bn,bo,bp,_))=>
some (bk,bl,bm,bn,bo,bp,())
| some (.inr (bk,bl,bm,bn,bo,bp,bq,bt,bv,bx,bA,bB,bC,bD,bE,bF,_))=>
(dF bp bk).bind fun bG=>
(dF bp bk).bind fun bH=>
(dF bH.2.1 0).bind fun bI=>
(dF bp bk).bind fun bJ=>
(dF bJ.2.1 0).bind fun bK=>
let bL:=(List.modify bp bk fun e=>(e.1,((List.modify e.2.1 0 fun e=>(bE,bF)),e.2.2)));
(dF bL bk).bind fun bM=>
let bN:=(List.modify bL bk fun e=>(1,e.2));
some (true,bl,bm,bn,bo,bN,()))))
noncomputable def Dj:X.Cfg:=⟨E0,[oi,iI,iJ,iK,pD,of,wt],[],[⟨13,0,(qS [(pP 1 4),(pP 4 10),(pP 6 14),(pP 7 16),(9,.ptr ⟨4,4,[((),(8,0))]⟩ [0,0]),(pP 10 22),(pP 12 26),(sP 80 dY),(sP 81 I64),(sP 82 I64)] [(4,(uL [RI,CW,(.row true KCe),iC,oD])),(10,(uL [eU,RI,(.row false RW)])),(14,(uL [I64,I64,I64,I64,I64,I64,dY,dY])),(16,(uL [CB,CW,I64,I64,dY,I64,.bool])),(22,(uL [CB,CW])),(26,(uL [I64,I64]))]),[(.ret,(qS [(pP 1 4),(sP 8 .bool)] [(4,(uL [RI,CW,(.row true KCe),iC,oD]))])),(.exit 0,(qS [(pP 1 4),(pP 4 10),(pP 6 14),(pP 7 16),(9,.ptr ⟨4,4,[((),(8,0))]⟩ [0,0]),(pP 10 22),(pP 12 26),(sP 80 dY),(sP 81 I64),(sP 82 I64),(sP 83 .bool)] [(4,(uL [RI,CW,(.row true KCe),iC,oD])),(10,(uL [eU,RI,(.row false RW)])),(14,(uL [I64,I64,I64,I64,I64,I64,dY,dY])),(16,(uL [CB,CW,I64,I64,dY,I64,.bool])),(22,(uL [CB,CW])),(26,(uL [I64,I64]))]))]⟩,⟨6,1,qE,[(.ret,(qS [(pP 1 4),(sP 8 .bool)] [(4,(uL [RI,CW,(.row true KCe),iC,oD]))])),(.normal,(qS [(pP 1 4),(pP 4 10),(pP 6 14),(pP 7 16),(9,.ptr ⟨4,4,[((),(8,0))]⟩ [0,0]),(pP 10 22),(pP 12 26),(sP 80 dY),(sP 81 I64),(sP 82 I64),(sP 83 .bool)] [(4,(uL [RI,CW,(.row true KCe),iC,oD])),(10,(uL [eU,RI,(.row false RW)])),(14,(uL [I64,I64,I64,I64,I64,I64,dY,dY])),(16,(uL [CB,CW,I64,I64,dY,I64,.bool])),(22,(uL [CB,CW])),(26,(uL [I64,I64]))])),(.normal,(qS [(pP 1 4),(pP 4 10),(pP 6 14),(pP 7 16),(9,.ptr ⟨4,4,[((),(8,0))]⟩ [0,0]),(pP 10 22),(sP 51 .bool)] [(4,(uL [RI,CW,(.row true KCe),iC,oD])),(10,(uL [eU,RI,(.row false RW)])),(14,(uL [I64,I64,I64,I64,I64,I64,dY,dY])),(16,(uL [CB,CW,I64,I64,dY,I64,.bool])),(22,(uL [CB,CW]))]))]⟩,⟨24,2,qE,[(.ret,(qS [(pP 1 4),(sP 8 .bool)] [(4,(uL [RI,CW,(.row true KCe),iC,oD]))])),(.normal,(qS [(pP 1 4),(pP 4 10),(pP 6 14),(pP 7 16),(9,.ptr ⟨4,4,[((),(8,0))]⟩ [0,0]),(pP 10 22)] [(4,(uL [RI,CW,(.row true KCe),iC,oD])),(10,(uL [eU,RI,(.row false RW)])),(14,(uL [I64,I64,I64,I64,I64,I64,dY,dY])),(16,(uL [CB,CW,I64,I64,dY,I64,.bool])),(22,(uL [CB,CW]))]))]⟩,⟨33,3,qE,[(.normal,(qS [(pP 1 4),(pP 6 14),(pP 7 16),(9,.ptr ⟨4,4,[((),(8,0))]⟩ [0,0]),(pP 10 22),(pP 19 40),(sP 207 .bool)] [(4,(uL [RI,CW,(.row true KCe),iC,oD])),(14,(uL [I64,I64,I64,I64,I64,I64,dY,dY])),(16,(uL [CB,CW,I64,I64,dY,I64,.bool])),(22,(uL [CB,CW])),(40,(uL [CB,CW]))]))]⟩,⟨29,4,qE,[(.ret,(qS [(pP 1 4),(sP 8 .bool)] [(4,(uL [RI,CW,(.row true KCe),iC,oD]))])),(.normal,(qS [(pP 1 4),(9,.ptr ⟨4,4,[((),(8,0))]⟩ [0,0]),(pP 10 22)] [(4,(uL [RI,CW,(.row true KCe),iC,oD])),(14,(uL [I64,I64,I64,I64,I64,I64,dY,dY])),(22,(uL [CB,CW]))]))]⟩]⟩
def wn:Ctr:=⟨157,98,[.agg (uL [eU,RI,(.row false RW)]),.ptr ⟨4,0,[]⟩ [0],.agg (uL [I64,I64,I64,I64,I64,I64,dY,dY]),.agg (uL [CB,CW,I64,I64,dY,I64,.bool])],[(4,(uL [RI,CW,(.row true KCe),iC,oD]))],[⟨(uL [.bool]),[.one],[(4,(uL [RI,CW,(.row true KCe),iC,oD]))]⟩],ap23 nK⟩
theorem C8:Lk 4 wn:=ls (C:=Dj) rfl (aC qT (aC ky (aC kz (aC kA (aC vp (aC rC (aC Db aN))))))) (by kernel_rfl) fun h=>by kernel_rfl
def nL(a0:LDIn) (a1:List (Int)) (a2:List LI) (a3:List (Int)) (a4:Int) (a5:LDCe) (a6:LDLn) (a7:LDTh) (a8:Int) (a9:Int) (a10:Int) (a11:Int) (a12:Int) (a13:Int) (a14:LDCn) (a15:LDCn) (a16:Int) (a17:Int) (a18:Int) (a19:Int) (a20:LDCn) (a21:Int) (a22:Bool):Option (T1c):=
((io a0 a1 a2 a3 a4 a5 a6 a7).bind fun(x0,_)=>
bif (!x0) then (some (true,a0,a1,a2,a3,a4,a5,a6,a7,a8,a9,a10,a11,a12,a13,a14,a15,a16,a17,a18,a19,a20,a21,a22,(),0,(),(),(),())) else
(jx a8 a9 a10 a11 a12 a13 a14 a15).bind fun(x1,_)=>
bif (!x1) then (some (true,a0,a1,a2,a3,a4,a5,a6,a7,a8,a9,a10,a11,a12,a13,a14,a15,a16,a17,a18,a19,a20,a21,a22,(),0,(),(),(),())) else
bif (a9 != 1) then (some (true,a0,a1,a2,a3,a4,a5,a6,a7,a8,a9,a10,a11,a12,a13,a14,a15,a16,a17,a18,a19,a20,a21,a22,(),0,(),(),(),())) else
let x2:=(dI (List.length a14));
(f9 a13).bind fun(x3,_)=>
bif (x2 != x3) then (some (true,a0,a1,a2,a3,a4,a5,a6,a7,a8,a9,a10,a11,a12,a13,a14,a15,a16,a17,a18,a19,a20,a21,a22,(),0,(),(),(),())) else
(ju a16 a17 a18 a19 a20 a21 a22).bind fun(x4,_)=>
bif (!x4) then (some (true,a0,a1,a2,a3,a4,a5,a6,a7,a8,a9,a10,a11,a12,a13,a14,a15,a16,a17,a18,a19,a20,a21,a22,(),0,(),(),(),())) else
(dT a8).bind fun x5=>
(dF a7 x5).bind fun x6=>
some ((x6.1 != 2),a0,a1,a2,a3,a4,a5,a6,a7,a8,a9,a10,a11,a12,a13,a14,a15,a16,a17,a18,a19,a20,a21,a22,(),0,(),(),(),()):Option (Bool×LDIn×LI×LLI×LI×Int×LDCe×LDLn×LDTh×Int×Int×Int×Int×Int×Int×LDCn×LDCn×T2p)).bind fun(x0,x1,x2,x3,x4,x5,x6,x7,x8,x9,ac,ae,af,ag,ah,ai,aj,ak,am,an,ap,aq,av,ax,ay,az,aA,aB,aD,_)=>
bif x0 then (some (x4,x5,x6,x7,x8,false,())) else
(g9 x4 x5 x6 x7 x8).bind fun(aE,aF,aG,aH,aI,_)=>
bif (ah==0) then ((dT x9).bind fun aJ=>
(dF aI aJ).bind fun aK=>
(dF aI aJ).bind fun aL=>
(dF ai 0).bind fun aM=>
(dF aI aJ).bind fun aO=>
(l6 aL.1 aO.2.1 aL.2.2.1 aL.2.2.2.1 aL.2.2.2.2.1 aL.2.2.2.2.2.1 aL.2.2.2.2.2.2.1 aL.2.2.2.2.2.2.2 0 aM.2.1).bind fun(aP,aQ,aR,aS,aT,aU,aV,aW,_)=>
(dT x9).bind fun aY=>
(dF aI aY).bind fun aZ=>
(dF aI aY).bind fun ba=>
let bc:=(List.modify aI aY fun e=>(aP,(aQ,(aR,(aS,(aT,(aU,(aV,aW))))))));
some (aE,aF,aG,aH,bc,true,())) else
bif ax then ((dT x9).bind fun aJ=>
(dF aI aJ).bind fun aK=>
(dF aI aJ).bind fun aL=>
let aM:=(List.modify aI aJ fun e=>(3,e.2));
some (aE,aF,aG,aH,aM,true,())) else
(nK x1 x2 x3 x9 ac ae af ag ah ai aj ak am an ap aq av ax aE aF aG aH aI).bind fun(aJ,aK,aL,aM,aO,aP,_)=>
bif (!aJ) then (some (x4,x5,x6,x7,x8,false,())) else
some (aK,aL,aM,aO,aP,true,())
noncomputable def Dk:X.Cfg:=⟨E0,[lM,oe,j8,od,kV,q7,wn],[],[⟨2,0,qE,[(.normal,(qS [(pP 4 10),(pP 5 12),(pP 6 14),(pP 7 16),(pP 8 18),(sP 48 .bool)] [(10,(uL [eU,RI,(.row false RW)])),(12,(uL [RI,CW,eG,eS,fB])),(14,(uL [I64,I64,I64,I64,I64,I64,dY,dY])),(16,(uL [CB,CW,I64,I64,dY,I64,.bool])),(18,(uL [N1,CW,N1,N1,N1]))]))]⟩]⟩
def wo:Ctr:=⟨134,99,[.agg (uL [eU,RI,(.row false RW)]),.agg (uL [RI,CW,eG,eS,fB]),.agg (uL [I64,I64,I64,I64,I64,I64,dY,dY]),.agg (uL [CB,CW,I64,I64,dY,I64,.bool])],[],[⟨(uL [RI,CW,eG,eS,fB,.bool]),[.agg 5,.one],[]⟩],ap23 nL⟩
theorem C9:Lk 5 wo:=ls (C:=Dk) rfl (aC nW (aC rB (aC nw (aC rA (aC mT (aC vm (aC C8 aN))))))) (by kernel_rfl) fun h=>by kernel_rfl
def kI(a0:LDIn) (a1:List (Int)) (a2:List LI) (a3:List (Int)) (a4:Int) (a5:LDCe) (a6:LDLn) (a7:LDTh) (a8:Int) (a9:Int) (a10:Int) (a11:Int) (a12:Int) (a13:LDCn) (a14:Int) (a15:Bool):Option (T1c):=
((io a0 a1 a2 a3 a4 a5 a6 a7).bind fun(x0,_)=>
bif (!x0) then (some (a8,true,a0,a1,a2,a3,a4,a5,a6,a7,a9,a10,a11,a12,a13,a14,a15,(),0,(),(),(),())) else
(ju a9 a10 a11 a12 a13 a14 a15).bind fun(x1,_)=>
bif (!x1) then (some (a8,true,a0,a1,a2,a3,a4,a5,a6,a7,a9,a10,a11,a12,a13,a14,a15,(),0,(),(),(),())) else
bif (decide (a8 < 0)) then (some (a8,true,a0,a1,a2,a3,a4,a5,a6,a7,a9,a10,a11,a12,a13,a14,a15,(),0,(),(),(),())) else
bif (decide (a8≥4)) then (some (a8,true,a0,a1,a2,a3,a4,a5,a6,a7,a9,a10,a11,a12,a13,a14,a15,(),0,(),(),(),())) else
(dT a8).bind fun x2=>
(dF a7 x2).bind fun x3=>
some (a8,(x3.1 != 3),a0,a1,a2,a3,a4,a5,a6,a7,a9,a10,a11,a12,a13,a14,a15,(),0,(),(),(),()):Option (Int×Bool×LDIn×LI×LLI×LI×Int×LDCe×LDLn×LDTh×T2p)).bind fun(x0,x1,x2,x3,x4,x5,x6,x7,x8,x9,ac,ae,af,ag,ah,ai,aj,ak,am,an,ap,aq,_)=>
bif x1 then (some (x5,x6,x7,x8,x9,false,())) else
(fV x5 x6 x3 ac ae af ag).bind fun(av,ax,ay,_)=>
bif (ay != 0) then (some (x5,x6,x7,x8,x9,false,())) else
(g9 x5 x6 x7 x8 x9).bind fun(az,aA,aB,aD,aE,_)=>
(dT x0).bind fun aF=>
(dF aE aF).bind fun aG=>
(dF aE aF).bind fun aH=>
(dF aE aF).bind fun aI=>
(dF aI.2.1 0).bind fun aJ=>
(dF aE aF).bind fun aK=>
(dF aK.2.1 0).bind fun aL=>
let aM:=(List.modify aE aF fun e=>(e.1,((List.modify e.2.1 0 fun e=>(av,ax)),e.2.2)));
(dT x0).bind fun aO=>
(dF aM aO).bind fun aP=>
(dF aM aO).bind fun aQ=>
let aR:=(List.modify aM aO fun e=>(1,e.2));
some (az,aA,aB,aD,aR,true,())
noncomputable def BH:X.Cfg:=⟨E0,[lM,od,oi,kV],[],[⟨2,0,qE,[(.normal,(qS [(sP 2 I64),(pP 4 10),(pP 5 12),(pP 7 16),(pP 8 18),(sP 38 .bool)] [(10,(uL [eU,RI,(.row false RW)])),(12,(uL [RI,CW,eG,eS,fB])),(16,(uL [CB,CW,I64,I64,dY,I64,.bool])),(18,(uL [N1,CW,N1,N1,N1]))]))]⟩]⟩
def pn:Ctr:=⟨158,100,[.agg (uL [eU,RI,(.row false RW)]),.agg (uL [RI,CW,eG,eS,fB]),shU I64,.agg (uL [CB,CW,I64,I64,dY,I64,.bool])],[],[⟨(uL [RI,CW,eG,eS,fB,.bool]),[.agg 5,.one],[]⟩],ap16 kI⟩
theorem tD:Lk 5 pn:=ls (C:=BH) rfl (aC nW (aC rA (aC qT (aC mT aN)))) (by kernel_rfl) fun h=>by kernel_rfl
def mC(a0:Int) (a1:Int) (a2:LDIn) (a3:List (Int)) (a4:List LI) (a5:List (Int)) (a6:Int) (a7:LDCe) (a8:LDLn) (a9:LDTh) (a10:List (Int)) (a11:List (Int)) (a12:List LI) (a13:List LDCn) (a14:LDOp) (a15:LDOu) (a16:List (Int)) (a17:List LI) (a18:LDEn) (a19:List (Int)):Option (T2Q):=
let x0:=(wk .i64 a1);
(dV x0 true).bind fun(x1,x2,x3,x4,x5,x6,x7,_)=>
(kI a2 a3 a4 a5 a6 a7 a8 a9 a0 x1 x2 x3 x4 [] x6 x7).bind fun(x8,x9,ac,ae,af,ag,_)=>
let ah:LDEn:=[(4,(a0,(0,(0,(0,(0,(0,(0,(0,([],([],(x1,(x2,(x3,(x4,([],(x6,x7)))))))))))))))))];
bif (dU 184 (List.length a18) (List.length ah)) then let ai:LDEn:=(List.append a18 ah);
some (a2,a3,a4,x8,x9,ac,ae,af,a10,a11,a12,a13,a14,a15,a16,a17,ai,a19,()) else none
noncomputable def Bs:X.Cfg:=⟨E0,[jQ,pn],[(35,Ix),(36,Ix)],[]⟩
def tR:Ctr:=⟨135,101,[.ptr ⟨2,0,[]⟩ [0],shU I64,shU CW],[(2,(uL [eU,RI,(.row false RW),RI,CW,eG,eS,fB,RW,RW,(.row false RW),(.row false dY),gh,iD,RI,(.row false RI),(.row true rb),(.row true I64)]))],[⟨[],[],[(2,(uL [eU,RI,(.row false RW),RI,CW,eG,eS,fB,RW,RW,(.row false RW),(.row false dY),gh,iD,RI,(.row false RI),(.row true rb),(.row true I64)]))]⟩],ap20 mC⟩
theorem A5:Lk 6 tR:=ls (C:=Bs) rfl (aC lG (aC tD aN)) (by kernel_rfl) fun h=>by kernel_rfl
def iF(a0:Int) (a1:Int) (a2:Int) (a3:Int) (a4:Int) (a5:Int) (a6:LDCn) (a7:LDCn) (a8:LDIn) (a9:List (Int)) (a10:List LI) (a11:List (Int)) (a12:Int) (a13:LDCe) (a14:LDLn) (a15:LDTh) (a16:List (Int)) (a17:List (Int)) (a18:List LI) (a19:List LDCn) (a20:LDOp) (a21:LDOu) (a22:List (Int)) (a23:List LI) (a24:LDEn) (a25:List (Int)):Option (T2Q):=
(bif (a5==9) then ((dF a6 0).bind fun x0=>
let x1:=(wk .i64 x0.2.1);
(i8 a22 a23 x1 a0).bind fun(x2,x3,x4,x5,_)=>
some (x4,a8,a9,a10,a11,a12,a13,a14,a15,a16,a17,a18,a19,a20,a21,a22,a23,a24,a25,a0,a1,a2,a3,a4,a5,a6,a7,())) else
some ((-1),a8,a9,a10,a11,a12,a13,a14,a15,a16,a17,a18,a19,a20,a21,a22,a23,a24,a25,a0,a1,a2,a3,a4,a5,a6,a7,()):Option (Int×LDIn×LI×LLI×LI×Int×LDCe×LDLn×LDTh×LI×LI×LLI×LLCn×LDOp×LDOu×LI×LLI×LDEn×LI×T1x)).bind fun(x0,x1,x2,x3,x4,x5,x6,x7,x8,x9,ac,ae,af,ag,ah,ai,aj,ak,am,an,ap,aq,av,ax,ay,az,aA,_)=>
(jm an ap aq av ax ay az aA x1 x2 x3 x4 x5 x6 x7 x8 x9 ac ae af ag ah ai aj ak am).bind fun(aB,aD,aE,aF,aG,aH,aI,aJ,aK,aL,aM,aO,aP,aQ,aR,aS,aT,aU,aV,aW,aY,aZ,ba,bc,bd,_)=>
(nL aJ aK aL aM aO aP aQ aR an ap aq av ax ay az aA aB aD aE aF aG aH aI).bind fun(be,bf,bg,bh,bi,bj,_)=>
let bk:LDEn:=[(2,(an,(0,(an,(ap,(aq,(av,(ax,(ay,(az,(aA,(aB,(aD,(aE,(aF,(aG,(aH,aI)))))))))))))))))];
bif (dU 184 (List.length bc) (List.length bk)) then let bl:LDEn:=(List.append bc bk);
bif (decide (x0≥0)) then ((mC x0 0 aJ aK aL be bf bg bh bi aS aT aU aV aW aY aZ ba bl bd).bind fun(bm,bn,bo,bp,bq,bt,bv,bx,bA,bB,bC,bD,bE,bF,bG,bH,bI,bJ,_)=>
some (bm,bn,bo,bp,bq,bt,bv,bx,bA,bB,bC,bD,bE,bF,bG,bH,bI,bJ,())) else
some (aJ,aK,aL,be,bf,bg,bh,bi,aS,aT,aU,aV,aW,aY,aZ,ba,bl,bd,()) else none
noncomputable def xd:X.Cfg:=⟨E0,[mW,pe,wo,tR],[(56,Ix),(57,Ix)],[⟨2,0,qE,[(.normal,(qS [(pP 0 2),(pP 3 8),(sP 4 I64)] [(2,(uL [eU,RI,(.row false RW),RI,CW,eG,eS,fB,RW,RW,(.row false RW),(.row false dY),gh,iD,RI,(.row false RI),(.row true rb),(.row true I64)])),(8,(uL [I64,I64,I64,I64,I64,I64,dY,dY]))]))]⟩]⟩
def qw:Ctr:=⟨101,102,[.ptr ⟨2,0,[]⟩ [0],.agg (uL [I64,I64,I64,I64,I64,I64,dY,dY])],[(2,(uL [eU,RI,(.row false RW),RI,CW,eG,eS,fB,RW,RW,(.row false RW),(.row false dY),gh,iD,RI,(.row false RI),(.row true rb),(.row true I64)]))],[⟨[],[],[(2,(uL [eU,RI,(.row false RW),RI,CW,eG,eS,fB,RW,RW,(.row false RW),(.row false dY),gh,iD,RI,(.row false RI),(.row true rb),(.row true I64)]))]⟩],ap26 iF⟩
theorem wO:Lk 7 qw:=ls (C:=xd) rfl (aC o5 (aC vg (aC C9 (aC A5 aN)))) (by kernel_rfl) fun h=>by kernel_rfl
def oN:T2r→Option (T2r⊕(Int×Int×Int×Int×Nat×T1v)):=fun(v0,v1,v2,v3,v4,v5,v6,v7,v8,v9,v10,v11,_)=>
bif (decide (v6 < v5)) then (((dT v6).bind fun x0=>
(dF v10 v4).bind fun x1=>
(dF x1 x0).bind fun x2=>
(dF v10 v4).bind fun x3=>
(dF x3 x0).bind fun x4=>
bif (x4 != v0) then (bif (dU 8 (List.length v11) (List.length [x4])) then let x5:List (Int):=(List.append v11 [x4]);
some (v0,v1,v2,v3,v4,v5,v6,v7,v8,v9,v10,x5,()) else none) else
some (v0,v1,v2,v3,v4,v5,v6,v7,v8,v9,v10,v11,()):Option (T2r)).bind fun(x0,x1,x2,x3,x4,x5,x6,x7,x8,x9,ac,ae,_)=>
let af:=(w64 (x6+1));
some (.inl (x0,x1,x2,x3,x4,x5,af,x7,x8,x9,ac,ae,()))) else
some (.inr (v0,v1,v2,v3,v4,v5,v6,false,v7,v8,v9,v10,v11,()))
def oM:T1n→Option (T1n⊕(Int×T1j)):=fun(v0,v1,v2,v3,v4,v5,v6,_)=>
bif (decide (v2 < v1)) then ((dT v2).bind fun x0=>
(dF v6 x0).bind fun x1=>
(dF v6 x0).bind fun x2=>
(dF v6 x0).bind fun x3=>
let x4:=(dI (List.length x3));
(dO oN NN (v0,v2,v1,v2,x0,x4,0,v3,v4,v5,v6,[],())).bind fun(x5,x6,x7,x8,x9,ac,ae,af,ag,ah,ai,aj,ak,_)=>
(dT x6).bind fun am=>
(dF aj am).bind fun an=>
(dF aj am).bind fun ap=>
let aq:=(List.modify aj am fun e=>ak);
let av:=(w64 (x8+1));
some (.inl (x5,x7,av,ag,ah,ai,aq,()))) else
some (.inr (v0,v1,v2,false,v3,v4,v5,v6,()))
def oL:T1z→Option (T1z⊕(Int×T1v)):=fun(v0,v1,v2,v3,v4,v5,v6,v7,_)=>
bif (decide (v2 < v1)) then ((i8 v5 v6 v2 v0).bind fun(x0,x1,x2,x3,_)=>
(bif x3 then (bif (decide (x2≥0)) then (bif (dU 8 (List.length v7) (List.length [x2])) then let x4:List (Int):=(List.append v7 [x2]);
some (v0,v1,v2,v3,v4,v5,v6,x4,x0,x1,()) else none) else
some (v0,v1,v2,v3,v4,v5,v6,v7,x0,x1,())) else
some (v0,v1,v2,v3,v4,v5,v6,v7,x0,x1,()):Option (Int×Int×Int×Unit×Unit×LI×LLI×LI×T07)).bind fun(x4,x5,x6,x7,x8,x9,ac,ae,af,ag,_)=>
let ah:=(w64 (x6+1));
some (.inl (x4,x5,ah,x7,x8,af,ag,ae,()))) else
some (.inr (v0,v1,v2,false,v3,v4,v5,v6,v7,()))
def mJ(a0:List (Int)) (a1:List LI) (a2:Int):Option (T0o):=
(i9 a0 a1).bind fun(x0,x1,_)=>
let x2:=(dI (List.length x1));
(dO oM NN (a2,x2,0,(),(),x0,x1,())).bind fun(x3,x4,x5,x6,x7,x8,x9,ac,_)=>
let ae:=(dI (List.length x9));
(dO oL NN (x3,ae,0,x7,x8,x9,ac,[],())).bind fun(af,ag,ah,ai,aj,ak,am,an,ap,_)=>
some (am,an,ap,())
noncomputable def BF:X.Cfg:=⟨E0,[mX,mW],[],[⟨15,0,qE,[(.normal,(qS [(sP 1 I64),(pP 4 10),(pP 6 14),(sP 7 I64),(9,.pk ⟨21,0,[]⟩ [0,0]),(20,.pk ⟨14,1,[]⟩ [0,0]),(sP 21 I64),(sP 22 I64),(27,.pk ⟨14,1,[((),(1,0))]⟩ [0,0,0]),(sP 28 I64),(sP 29 I64)] [(10,(uL [N1,N1])),(14,(uL [(.row true I64),(.row true (.row true I64))])),(21,(uL [(.row true I64)]))]))]⟩,⟨12,1,(qS [(sP 1 I64),(pP 4 10),(pP 6 14),(sP 7 I64),(9,.pk ⟨21,0,[]⟩ [0,0]),(20,.pk ⟨14,1,[]⟩ [0,0]),(sP 21 I64),(sP 22 I64),(27,.pk ⟨14,1,[((),(1,0))]⟩ [0,0,0]),(sP 28 I64),(sP 29 I64)] [(10,(uL [N1,N1])),(14,(uL [(.row true I64),(.row true (.row true I64))])),(21,(uL [(.row true I64)]))]),[(.exit 2,(qS [(sP 1 I64),(pP 4 10),(pP 6 14),(sP 7 I64),(9,.pk ⟨21,0,[]⟩ [0,0]),(20,.pk ⟨14,1,[]⟩ [0,0]),(sP 21 I64),(sP 22 I64),(27,.pk ⟨14,1,[((),(1,0))]⟩ [0,0,0]),(sP 28 I64),(sP 29 I64),(sP 30 .bool)] [(10,(uL [N1,N1])),(14,(uL [(.row true I64),(.row true (.row true I64))])),(21,(uL [(.row true I64)]))]))]⟩,(lx 4 2 [(sP 1 I64),(pP 4 10),(pP 6 14),(20,.pk ⟨14,1,[]⟩ [0,0]),(sP 21 I64),(sP 22 I64)] [(10,(uL [N1,N1])),(14,(uL [(.row true I64),(.row true (.row true I64))]))] 23),⟨27,3,qE,[(.normal,(qS [(sP 1 I64),(pP 4 10),(pP 6 14),(12,.pk ⟨27,0,[]⟩ [0,0]),(pP 14 30),(sP 49 I64),(sP 50 I64)] [(10,(uL [N1,N1])),(14,(uL [RI,(.row false RI)])),(27,(uL [(.row true I64)])),(30,(uL [RI,(.row false RI)]))]))]⟩,⟨21,4,(qS [(sP 1 I64),(pP 4 10),(pP 6 14),(12,.pk ⟨27,0,[]⟩ [0,0]),(sP 49 I64),(sP 50 I64)] [(10,(uL [N1,N1])),(14,(uL [RI,(.row false RI)])),(27,(uL [(.row true I64)]))]),[(.exit 4,(qS [(sP 1 I64),(pP 4 10),(pP 6 14),(12,.pk ⟨27,0,[]⟩ [0,0]),(sP 49 I64),(sP 50 I64),(sP 51 .bool)] [(10,(uL [N1,N1])),(14,(uL [RI,(.row false RI)])),(27,(uL [(.row true I64)]))]))]⟩]⟩
def tZ:Ctr:=⟨136,103,[.agg (uL [RI,(.row false RI)]),shU I64],[],[⟨(uL [RI,(.row false RI),(.row true I64)]),[.agg 2,.one],[]⟩],ap3 mJ⟩
theorem Bd:Lk 3 tZ:=ls (C:=BF) rfl (aC o6 (aC o5 aN)) (by kernel_rfl) fun h=>by kernel_rfl
def iE(a0:Int) (a1:Int) (a2:LDIn) (a3:List (Int)) (a4:List LI) (a5:List (Int)) (a6:Int) (a7:LDCe) (a8:LDLn) (a9:LDTh) (a10:List (Int)) (a11:List (Int)) (a12:List LI) (a13:List LDCn) (a14:LDOp) (a15:LDOu) (a16:List (Int)) (a17:List LI) (a18:LDEn):Option (LDIn×LI×LLI×LI×Int×LDCe×LDLn×LDTh×LI×LI×LLI×LLCn×LDOp×LDOu×LI×LLI×LDEn×Unit):=
let x0:=(wk .i64 a1);
(dV x0 true).bind fun(x1,x2,x3,x4,x5,x6,x7,_)=>
(kI a2 a3 a4 a5 a6 a7 a8 a9 a0 x1 x2 x3 x4 [] x6 x7).bind fun(x8,x9,ac,ae,af,ag,_)=>
let ah:LDEn:=[(4,(a0,(0,(0,(0,(0,(0,(0,(0,([],([],(x1,(x2,(x3,(x4,([],(x6,x7)))))))))))))))))];
bif (dU 184 (List.length a18) (List.length ah)) then let ai:LDEn:=(List.append a18 ah);
some (a2,a3,a4,x8,x9,ac,ae,af,a10,a11,a12,a13,a14,a15,a16,a17,ai,()) else none
noncomputable def w7:X.Cfg:=⟨E0,[jQ,pn],[(35,Ix),(36,Ix)],[]⟩
def qt:Ctr:=⟨135,104,[.ptr ⟨2,0,[]⟩ [0],shU I64,shU CW],[(2,(uL [eU,RI,(.row false RW),RI,CW,eG,eS,fB,RW,RW,(.row false RW),(.row false dY),gh,iD,RI,(.row false RI),(.row true rb)]))],[⟨[],[],[(2,(uL [eU,RI,(.row false RW),RI,CW,eG,eS,fB,RW,RW,(.row false RW),(.row false dY),gh,iD,RI,(.row false RI),(.row true rb)]))]⟩],ap19 iE⟩
theorem wL:Lk 6 qt:=ls (C:=w7) rfl (aC lG (aC tD aN)) (by kernel_rfl) fun h=>by kernel_rfl
def ot:T32→Option (T32⊕(Int×Int×Int×Bool×T2U)):=fun(v0,v1,v2,v3,v4,v5,v6,v7,v8,v9,v10,v11,v12,v13,v14,v15,v16,v17,v18,v19,v20,v21,_)=>
bif (decide (v2 < v1)) then ((dT v2).bind fun x0=>
(dF v21 x0).bind fun x1=>
(dF v21 x0).bind fun x2=>
(iE x2 0 v3 v4 v5 v6 v7 v8 v9 v10 v11 v12 v13 v14 v15 v16 v17 v18 v19).bind fun(x3,x4,x5,x6,x7,x8,x9,ac,ae,af,ag,ah,ai,aj,ak,am,an,_)=>
let ap:=(w64 (v2+1));
some (.inl (v0,v1,ap,x3,x4,x5,x6,x7,x8,x9,ac,ae,af,ag,ah,ai,aj,ak,am,an,v20,v21,()))) else
some (.inr (v0,v1,v2,false,v3,v4,v5,v6,v7,v8,v9,v10,v11,v12,v13,v14,v15,v16,v17,v18,v19,v20,v21,()))
def oq:T31→Option (T31⊕(Int×Int×T2W)):=fun(v0,v1,v2,v3,v4,v5,v6,v7,v8,v9,v10,v11,v12,v13,v14,v15,v16,v17,v18,v19,v20,_)=>
bif (decide (v2 < v1)) then (((dT v2).bind fun x0=>
(dF v20 x0).bind fun x1=>
(dF v20 x0).bind fun x2=>
bif (x2==v0) then ((dT v0).bind fun x3=>
(dF v10 x3).bind fun x4=>
(iE v2 x4.2.2.2.2.2.2.2 v3 v4 v5 v6 v7 v8 v9 v10 v11 v12 v13 v14 v15 v16 v17 v18 v19).bind fun(x5,x6,x7,x8,x9,ac,ae,af,ag,ah,ai,aj,ak,am,an,ap,aq,_)=>
(dT v2).bind fun av=>
(dF v20 av).bind fun ax=>
(dF v20 av).bind fun ay=>
let az:=(List.modify v20 av fun e=>(-1));
some (v0,v1,v2,x5,x6,x7,x8,x9,ac,ae,af,ag,ah,ai,aj,ak,am,an,ap,aq,az,())) else
some (v0,v1,v2,v3,v4,v5,v6,v7,v8,v9,v10,v11,v12,v13,v14,v15,v16,v17,v18,v19,v20,()):Option (T31)).bind fun(x0,x1,x2,x3,x4,x5,x6,x7,x8,x9,ac,ae,af,ag,ah,ai,aj,ak,am,an,ap,_)=>
let aq:=(w64 (x2+1));
some (.inl (x0,x1,aq,x3,x4,x5,x6,x7,x8,x9,ac,ae,af,ag,ah,ai,aj,ak,am,an,ap,()))) else
some (.inr (v0,v1,v2,false,v3,v4,v5,v6,v7,v8,v9,v10,v11,v12,v13,v14,v15,v16,v17,v18,v19,v20,()))
def jn(a0:Int) (a1:LDIn) (a2:List (Int)) (a3:List LI) (a4:List (Int)) (a5:Int) (a6:LDCe) (a7:LDLn) (a8:LDTh) (a9:List (Int)) (a10:List (Int)) (a11:List LI) (a12:List LDCn) (a13:LDOp) (a14:LDOu) (a15:List (Int)) (a16:List LI) (a17:LDEn) (a18:List (Int)):Option (T2Q):=
(mJ a15 a16 a0).bind fun(x0,x1,x2,_)=>
let x3:=(dI (List.length x2));
(dO ot NN (a0,x3,0,a1,a2,a3,a4,a5,a6,a7,a8,a9,a10,a11,a12,a13,a14,x0,x1,a17,a18,x2,())).bind fun(x4,x5,x6,x7,x8,x9,ac,ae,af,ag,ah,ai,aj,ak,am,an,ap,aq,av,ax,ay,az,aA,_)=>
let aB:=(dI (List.length az));
(dO oq NN (x4,aB,0,x8,x9,ac,ae,af,ag,ah,ai,aj,ak,am,an,ap,aq,av,ax,ay,az,())).bind fun(aD,aE,aF,aG,aH,aI,aJ,aK,aL,aM,aO,aP,aQ,aR,aS,aT,aU,aV,aW,aY,aZ,ba,_)=>
some (aH,aI,aJ,aK,aL,aM,aO,aP,aQ,aR,aS,aT,aU,aV,aW,aY,aZ,ba,())
noncomputable def zn:X.Cfg:=⟨E0,[tZ,qt],[],[(lx 4 0 [(pP 0 2),(sP 1 I64),(23,.pk ⟨13,0,[]⟩ [0,0]),(sP 24 I64),(sP 25 I64)] [(2,(uL [eU,RI,(.row false RW),RI,CW,eG,eS,fB,RW,RW,(.row false RW),(.row false dY),gh,iD,RI,(.row false RI),(.row true rb),(.row true I64)])),(13,(uL [(.row true I64)]))] 26),⟨13,1,qE,[(.normal,(qS [(pP 0 2),(sP 1 I64),(36,.pk ⟨2,17,[]⟩ [0,0]),(sP 37 I64),(sP 38 I64)] [(2,(uL [eU,RI,(.row false RW),RI,CW,eG,eS,fB,RW,RW,(.row false RW),(.row false dY),gh,iD,RI,(.row false RI),(.row true rb),(.row true I64)]))]))]⟩,⟨10,2,(qS [(pP 0 2),(sP 1 I64),(36,.pk ⟨2,17,[]⟩ [0,0]),(sP 37 I64),(sP 38 I64)] [(2,(uL [eU,RI,(.row false RW),RI,CW,eG,eS,fB,RW,RW,(.row false RW),(.row false dY),gh,iD,RI,(.row false RI),(.row true rb),(.row true I64)]))]),[(.exit 2,(qS [(pP 0 2),(sP 1 I64),(36,.pk ⟨2,17,[]⟩ [0,0]),(sP 37 I64),(sP 38 I64),(sP 39 .bool)] [(2,(uL [eU,RI,(.row false RW),RI,CW,eG,eS,fB,RW,RW,(.row false RW),(.row false dY),gh,iD,RI,(.row false RI),(.row true rb),(.row true I64)]))]))]⟩]⟩
def rP:Ctr:=⟨102,105,[.ptr ⟨2,0,[]⟩ [0],shU I64],[(2,(uL [eU,RI,(.row false RW),RI,CW,eG,eS,fB,RW,RW,(.row false RW),(.row false dY),gh,iD,RI,(.row false RI),(.row true rb),(.row true I64)]))],[⟨[],[],[(2,(uL [eU,RI,(.row false RW),RI,CW,eG,eS,fB,RW,RW,(.row false RW),(.row false dY),gh,iD,RI,(.row false RI),(.row true rb),(.row true I64)]))]⟩],ap19 jn⟩
theorem yN:Lk 7 rP:=ls (C:=zn) rfl (aC Bd (aC wL aN)) (by kernel_rfl) fun h=>by kernel_rfl
def mD(a0:LDIn) (a1:List (Int)) (a2:List LI) (a3:List (Int)) (a4:Int) (a5:LDCe) (a6:LDLn) (a7:LDTh) (a8:List (Int)) (a9:List (Int)) (a10:List LI) (a11:List LDCn) (a12:LDOp) (a13:LDOu) (a14:List (Int)) (a15:List LI) (a16:LDEn) (a17:List (Int)) (a18:Int) (a19:Int) (a20:Bool):Option (LDIn×LI×LLI×LI×Int×LDCe×LDLn×LDTh×LI×LI×LLI×LLCn×LDOp×LDOu×LI×LLI×LDEn×T06):=
(lp a7).bind fun(x0,_)=>
let x1:=(dI (List.length x0));
bif (x1==0) then (some ([],[],[],[],0,[],[],[],[],[],[],[],[],[],[],[],[],[],15,())) else
let x2:=(dI (List.length a16));
bif (decide (x2 > 192)) then (some ([],[],[],[],0,[],[],[],[],[],[],[],[],[],[],[],[],[],3,())) else
let x3:=(dI (List.length x0));
(gt a18 x3).bind fun(x4,_)=>
(dT x4).bind fun x5=>
(dF x0 x5).bind fun x6=>
(dF x0 x5).bind fun x7=>
(gt a19 64).bind fun(x8,_)=>
let x9:=(w64 (1+x8));
(kg a0 a1 a2 a3 a4 a5 a6 a7 a8 a9 a10 a11 a12 a13 a14 a15 a16 a17).bind fun(ac,ae,af,ag,ah,ai,aj,ak,am,an,ap,aq,av,ax,ay,az,aA,aB,_)=>
(match (bif a20 then ((lX ag ah ai aj ak x7).bind fun(aD,_)=>
bif aD then ((jt ag ah ai aj ak x7).bind fun(aE,aF,aG,aH,aI,aJ,_)=>
let aK:LDEn:=[(3,(x7,(0,(0,(0,(0,(0,(0,(0,([],([],(0,(0,(0,(0,([],(0,false)))))))))))))))))];
bif (dU 184 (List.length aA) (List.length aK)) then let aL:LDEn:=(List.append aA aK);
some (.inl (x7,x9,(),(),(),(),0,(),(),(),(),(),(),(),(),(),(),(),(),(),ac,ae,af,aE,aF,aG,aH,aI,am,an,ap,aq,av,ax,ay,az,aL,aB,())) else none) else
some (.inr (x7,x9,(),(),(),(),0,(),(),(),(),(),(),(),(),(),(),(),(),(),ac,ae,af,ag,ah,ai,aj,ak,am,an,ap,aq,av,ax,ay,az,aA,aB,()))) else
some (.inr (x7,x9,(),(),(),(),0,(),(),(),(),(),(),(),(),(),(),(),(),(),ac,ae,af,ag,ah,ai,aj,ak,am,an,ap,aq,av,ax,ay,az,aA,aB,())):Option (T3v⊕T3v)) with
| none=>none
| some (.inl (aD,aE,aF,aG,aH,aI,aJ,aK,aL,aM,aO,aP,aQ,aR,aS,aT,aU,aV,aW,aY,aZ,ba,bc,bd,be,bf,bg,bh,bi,bj,bk,bl,bm,bn,bo,bp,bq,bt,_))=>
(kK aZ ba bc bd be bf bg bh aD aE).bind fun(bv,bx,bA,bB,bC,bD,bE,bF,bG,bH,bI,bJ,bK,bL,_)=>
let bM:LDEn:=[(1,(aD,(aE,(bD,(bE,(bF,(bG,(bH,(bI,(bJ,(bK,(0,(0,(0,(0,([],(0,false)))))))))))))))))];
bif (dU 184 (List.length bq) (List.length bM)) then let bN:LDEn:=(List.append bq bM);
(bif (bE==1) then ((iF bD bE bF bG bH bI bJ bK aZ ba bc bv bx bA bB bC bi bj bk bl bm bn bo bp bN bt).bind fun(bO,bP,bQ,bR,bS,bT,bU,bV,bW,bY,bZ,b8,b9,ca,cd,cf,cg,ch,_)=>
some (aD,aF,aG,aH,aI,aJ,aK,aL,aM,aO,aP,aQ,aR,aS,aT,aU,aV,aW,aY,bO,bP,bQ,bR,bS,bT,bU,bV,bW,bY,bZ,b8,b9,ca,cd,cf,cg,ch,())) else
some (aD,aF,aG,aH,aI,aJ,aK,aL,aM,aO,aP,aQ,aR,aS,aT,aU,aV,aW,aY,aZ,ba,bc,bv,bx,bA,bB,bC,bi,bj,bk,bl,bm,bn,bo,bp,bN,bt,()):Option (T3o)).bind fun(bO,bP,bQ,bR,bS,bT,bU,bV,bW,bY,bZ,b8,b9,ca,cd,cf,cg,ch,ci,cj,cl,cn,cq,cr,cu,cw,cx,cy,cz,cD,cE,cF,cG,cH,cI,cJ,cK,_)=>
((dT bO).bind fun cL=>
(dF cx cL).bind fun cM=>
bif (cM.1==4) then ((jn bO cj cl cn cq cr cu cw cx cy cz cD cE cF cG cH cI cJ cK).bind fun(cN,cO,cP,cQ,cR,cS,cT,cU,cV,cW,cX,cY,cZ,c7,c8,c9,dc,de,_)=>
some (bP,bQ,bR,bS,bT,bU,bV,bW,bY,bZ,b8,b9,ca,cd,cf,cg,ch,ci,cN,cO,cP,cQ,cR,cS,cT,cU,cV,cW,cX,cY,cZ,c7,c8,c9,dc,de,())) else
some (bP,bQ,bR,bS,bT,bU,bV,bW,bY,bZ,b8,b9,ca,cd,cf,cg,ch,ci,cj,cl,cn,cq,cr,cu,cw,cx,cy,cz,cD,cE,cF,cG,cH,cI,cJ,cK,()):Option (T3l)).bind fun(cL,cM,cN,cO,cP,cQ,cR,cS,cT,cU,cV,cW,cX,cY,cZ,c7,c8,c9,dc,de,df,dg,dh,dk,dl,dm,dn,dp,dq,dx,dy,dz,dA,dB,dC,dD,_)=>
some (dc,de,df,dg,dh,dk,dl,dm,dn,dp,dq,dx,dy,dz,dA,dB,dC,dD,0,()) else none
| some (.inr (aD,aE,aF,aG,aH,aI,aJ,aK,aL,aM,aO,aP,aQ,aR,aS,aT,aU,aV,aW,aY,aZ,ba,bc,bd,be,bf,bg,bh,bi,bj,bk,bl,bm,bn,bo,bp,bq,bt,_))=>
(kK aZ ba bc bd be bf bg bh aD aE).bind fun(bv,bx,bA,bB,bC,bD,bE,bF,bG,bH,bI,bJ,bK,bL,_)=>
let bM:LDEn:=[(1,(aD,(aE,(bD,(bE,(bF,(bG,(bH,(bI,(bJ,(bK,(0,(0,(0,(0,([],(0,false)))))))))))))))))];
bif (dU 184 (List.length bq) (List.length bM)) then let bN:LDEn:=(List.append bq bM);
(bif (bE==1) then ((iF bD bE bF bG bH bI bJ bK aZ ba bc bv bx bA bB bC bi bj bk bl bm bn bo bp bN bt).bind fun(bO,bP,bQ,bR,bS,bT,bU,bV,bW,bY,bZ,b8,b9,ca,cd,cf,cg,ch,_)=>
some (aD,aF,aG,aH,aI,aJ,aK,aL,aM,aO,aP,aQ,aR,aS,aT,aU,aV,aW,aY,bO,bP,bQ,bR,bS,bT,bU,bV,bW,bY,bZ,b8,b9,ca,cd,cf,cg,ch,())) else
some (aD,aF,aG,aH,aI,aJ,aK,aL,aM,aO,aP,aQ,aR,aS,aT,aU,aV,aW,aY,aZ,ba,bc,bv,bx,bA,bB,bC,bi,bj,bk,bl,bm,bn,bo,bp,bN,bt,()):Option (T3o)).bind fun(bO,bP,bQ,bR,bS,bT,bU,bV,bW,bY,bZ,b8,b9,ca,cd,cf,cg,ch,ci,cj,cl,cn,cq,cr,cu,cw,cx,cy,cz,cD,cE,cF,cG,cH,cI,cJ,cK,_)=>
((dT bO).bind fun cL=>
(dF cx cL).bind fun cM=>
bif (cM.1==4) then ((jn bO cj cl cn cq cr cu cw cx cy cz cD cE cF cG cH cI cJ cK).bind fun(cN,cO,cP,cQ,cR,cS,cT,cU,cV,cW,cX,cY,cZ,c7,c8,c9,dc,de,_)=>
some (bP,bQ,bR,bS,bT,bU,bV,bW,bY,bZ,b8,b9,ca,cd,cf,cg,ch,ci,cN,cO,cP,cQ,cR,cS,cT,cU,cV,cW,cX,cY,cZ,c7,c8,c9,dc,de,())) else
some (bP,bQ,bR,bS,bT,bU,bV,bW,bY,bZ,b8,b9,ca,cd,cf,cg,ch,ci,cj,cl,cn,cq,cr,cu,cw,cx,cy,cz,cD,cE,cF,cG,cH,cI,cJ,cK,()):Option (T3l)).bind fun(cL,cM,cN,cO,cP,cQ,cR,cS,cT,cU,cV,cW,cX,cY,cZ,c7,c8,c9,dc,de,df,dg,dh,dk,dl,dm,dn,dp,dq,dx,dy,dz,dA,dB,dC,dD,_)=>
some (dc,de,df,dg,dh,dk,dl,dm,dn,dp,dq,dx,dy,dz,dA,dB,dC,dD,0,()) else none)
noncomputable def Bt:X.Cfg:=⟨E0,[r7,q8,qv,qZ,pm,t6,qw,rP],[(60,Ix),(61,Ix),(82,Ix),(83,Ix)],[⟨11,0,qE,[(.normal,(qS [(pP 4 10),(sP 7 I64),(sP 8 I64),(pP 9 20)] [(10,(uL [N1,N1,N1,N1,CW,N1,N1,N1,N1,N1,N1,N1,N1,N1,N1,N1,N1,N1])),(20,(uL [eU,RI,(.row false RW),RI,CW,(.row true KCe),iC,oD,RW,RW,(.row false RW),(.row false dY),gh,iD,RI,(.row false RI),(.row true rb),(.row true I64)]))])),(.normal,(qS [(pP 4 10),(sP 7 I64),(sP 8 I64),(pP 9 20)] [(10,(uL [N1,N1,N1,N1,CW,N1,N1,N1,N1,N1,N1,N1,N1,N1,N1,N1,N1,N1])),(20,(uL [eU,RI,(.row false RW),RI,CW,eG,eS,fB,RW,RW,(.row false RW),(.row false dY),gh,iD,RI,(.row false RI),(.row true rb),(.row true I64)]))]))]⟩,⟨17,1,qE,[(.normal,(qS [(pP 4 10),(sP 7 I64),(pP 9 20)] [(10,(uL [N1,N1,N1,N1,CW,N1,N1,N1,N1,N1,N1,N1,N1,N1,N1,N1,N1,N1])),(20,(uL [eU,RI,(.row false RW),RI,CW,eG,eS,fB,RW,RW,(.row false RW),(.row false dY),gh,iD,RI,(.row false RI),(.row true rb),(.row true I64)]))]))]⟩,⟨19,2,qE,[(.normal,(qS [(pP 4 10),(pP 9 20)] [(10,(uL [N1,N1,N1,N1,CW,N1,N1,N1,N1,N1,N1,N1,N1,N1,N1,N1,N1,N1])),(20,(uL [eU,RI,(.row false RW),RI,CW,eG,eS,fB,RW,RW,(.row false RW),(.row false dY),gh,iD,RI,(.row false RI),(.row true rb),(.row true I64)]))]))]⟩]⟩
def tS:Ctr:=⟨56,106,[.agg (uL [eU,RI,(.row false RW),RI,CW,eG,eS,fB,RW,RW,(.row false RW),(.row false dY),gh,iD,RI,(.row false RI),ER,RI]),.agg (uL [I64,I64,.bool])],[],[⟨(uL [eU,RI,(.row false RW),RI,CW,eG,eS,fB,RW,RW,(.row false RW),(.row false dY),gh,iD,RI,(.row false RI),(.row true rb),(.row true I64),I64]),[.agg 18,.one],[]⟩],ap21 mD⟩
theorem A6:Lk 8 tS:=ls (C:=Bt) rfl (aC yZ (aC vq (aC wN (aC vk (aC vj (aC Be (aC wO (aC yN aN)))))))) (by kernel_rfl) fun h=>by kernel_rfl
def nQ:T3z→Option (T3z⊕((Int×Bool×LI×Int×Unit×Unit×Unit×Unit×Int×Unit×Unit×Unit×Unit×Unit×Unit×Unit×Unit×Unit×Unit×Unit×Unit×Unit×LDIn×LI×LLI×LI×Int×LDCe×LDLn×LDTh×LI×LI×LLI×LLCn×LDOp×LDOu×LI×LLI×LDEn×LI×T2Q)⊕(Int×Bool×T3w))):=fun(v0,v1,v2,v3,v4,v5,v6,v7,v8,v9,v10,v11,v12,v13,v14,v15,v16,v17,v18,v19,v20,v21,v22,v23,v24,v25,v26,v27,v28,v29,v30,v31,v32,v33,v34,v35,v36,v37,v38,_)=>
bif (decide (v0 > 0)) then ((lE v1 v2).bind fun(x0,x1,x2,x3,x4,_)=>
(mD v21 v22 v23 v24 v25 v26 v27 v28 v29 v30 v31 v32 v33 v34 v35 v36 v37 v38 x0 x1 x2).bind fun(x5,x6,x7,x8,x9,ac,ae,af,ag,ah,ai,aj,ak,am,an,ap,aq,av,ax,_)=>
bif (ax != 0) then (some (.inr (.inl (v0,true,x3,x4,v3,v4,v5,v6,v7,v8,v9,v10,v11,v12,v13,v14,v15,v16,v17,v18,v19,v20,v21,v22,v23,v24,v25,v26,v27,v28,v29,v30,v31,v32,v33,v34,v35,v36,v37,v38,x5,x6,x7,x8,x9,ac,ae,af,ag,ah,ai,aj,ak,am,an,ap,aq,av,())))) else
let ay:=(w64 (v0 - 1));
some (.inl (ay,x3,x4,v3,v4,v5,v6,v7,v8,v9,v10,v11,v12,v13,v14,v15,v16,v17,v18,v19,v20,x5,x6,x7,x8,x9,ac,ae,af,ag,ah,ai,aj,ak,am,an,ap,aq,av,()))) else
some (.inr (.inr (v0,false,v1,v2,v3,v4,v5,v6,v7,v8,v9,v10,v11,v12,v13,v14,v15,v16,v17,v18,v19,v20,v21,v22,v23,v24,v25,v26,v27,v28,v29,v30,v31,v32,v33,v34,v35,v36,v37,v38,())))
def pO(a0:List (Int)) (a1:Int):Option (LDIn×LI×LLI×LI×Int×LDCe×LDLn×LDTh×LI×LI×LLI×LLCn×LDOp×LDOu×LI×LLI×LDEn×LI×T06):=
(kq a0 a1).bind fun(x0,x1,x2,x3,x4,_)=>
(lD x1 x3 x4).bind fun(x5,x6,x7,x8,_)=>
(kt x7 x8).bind fun(x9,ac,ae,af,ag,ah,ai,aj,_)=>
(lc x0 x1 x2 x5 x6 x9 ac ae af ag []).bind fun(ak,am,an,ap,aq,av,ax,ay,az,aA,aB,aD,aE,aF,aG,aH,aI,aJ,aK,_)=>
(dG 16 ai aj).bind fun(aL,aM,aO,_)=>
let aP:=(w64 (3+aL));
(match dO nQ NN (aP,aM,aO,(),(),(),(),0,(),(),(),(),(),(),(),(),(),(),(),(),(),ak,am,an,ap,aq,av,ax,ay,az,aA,aB,aD,aE,aF,aG,aH,[],aJ,()) with
| none=>none
| some (.inl (aQ,aR,aS,aT,aU,aV,aW,aY,aZ,ba,bc,bd,be,bf,bg,bh,bi,bj,bk,bl,bm,bn,bo,bp,bq,bt,bv,bx,bA,bB,bC,bD,bE,bF,bG,bH,bI,bJ,bK,bL,bM,bN,bO,bP,bQ,bR,bS,bT,bU,bV,bW,bY,bZ,b8,b9,ca,cd,cf,_))=>
some (bo,bp,bq,bt,bv,bx,bA,bB,bC,bD,bE,bF,bG,bH,bI,bJ,bK,bL,aS,aT,())
| some (.inr (aQ,aR,aS,aT,aU,aV,aW,aY,aZ,ba,bc,bd,be,bf,bg,bh,bi,bj,bk,bl,bm,bn,bo,bp,bq,bt,bv,bx,bA,bB,bC,bD,bE,bF,bG,bH,bI,bJ,bK,bL,_))=>
some (bo,bp,bq,bt,bv,bx,bA,bB,bC,bD,bE,bF,bG,bH,bI,bJ,bK,bL,aS,aT,()))
noncomputable def FP:X.Cfg:=⟨E0,[qF,sj,qG,rQ,eZ,sm,tS],[],[⟨5,0,(qS [(pP 0 2),(pP 2 6),(pP 4 10),(sP 6 I64)] [(2,(uL [RI,I64])),(6,(uL [N1,N1,N1,N1,CW,N1,N1,N1,N1,N1,N1,N1,N1,N1,N1,N1,N1,N1])),(10,(uL [eU,RI,(.row false RW),RI,CW,eG,eS,fB,RW,RW,(.row false RW),(.row false dY),gh,iD,RI,(.row false RI),(.row true rb),(.row true I64)]))]),[(.exit 0,(qS [(pP 0 2),(pP 2 6),(pP 4 10),(sP 6 I64),(pP 7 16),(sP 37 .bool)] [(2,(uL [RI,I64])),(6,(uL [N1,N1,N1,N1,CW,N1,N1,N1,N1,N1,N1,N1,N1,N1,N1,N1,N1,N1])),(10,(uL [eU,RI,(.row false RW),RI,CW,eG,eS,fB,RW,RW,(.row false RW),(.row false dY),gh,iD,RI,(.row false RI),ER,RI])),(16,(uL [eU,RI,(.row false RW),RI,CW,eG,eS,fB,RW,RW,(.row false RW),(.row false dY),gh,iD,RI,(.row false RI),(.row true rb),(.row true I64)]))])),(.exit 0,(qS [(pP 0 2),(pP 2 6),(pP 4 10),(sP 6 I64),(sP 26 .bool)] [(2,(uL [RI,I64])),(6,(uL [N1,N1,N1,N1,CW,N1,N1,N1,N1,N1,N1,N1,N1,N1,N1,N1,N1,N1])),(10,(uL [eU,RI,(.row false RW),RI,CW,eG,eS,fB,RW,RW,(.row false RW),(.row false dY),gh,iD,RI,(.row false RI),(.row true rb),(.row true I64)]))]))]⟩]⟩
def ym:Ctr:=⟨26,107,[.ptr ⟨2,0,[]⟩ [0]],[(2,(uL [RI,I64]))],[⟨(uL [eU,RI,(.row false RW),RI,CW,eG,eS,fB,RW,RW,(.row false RW),(.row false dY),gh,iD,RI,(.row false RI),ER,RI]),[.agg 18],[(2,(uL [RI,I64]))]⟩],ap2 pO⟩
theorem FH:Lk 9 ym:=ls (C:=FP) rfl (aC wW (aC zj (aC wX (aC yO (aC fi (aC zk (aC A6 aN))))))) (by kernel_rfl) fun h=>by kernel_rfl
def fP:T2y→Option (T2y⊕(LI×Int×LI×Int×Int×Int×Int×Bool×T17)):=fun(v0,v1,v2,v3,v4,v5,v6,v7,v8,v9,v10,v11,v12,_)=>
bif (decide (v6 < v5)) then ((dT v1).bind fun x0=>
(dF v9 x0).bind fun x1=>
let x2:=(w64 (x1+v6));
(kL v7 v8 x2).bind fun(x3,x4,_)=>
(gp v9 v10 v0 x3 x4).bind fun(x5,x6,x7,x8,_)=>
let x9:LDCn:=[(x5,(x6,(x7,x8)))];
bif (dU 24 (List.length v12) (List.length x9)) then let ac:LDCn:=(List.append v12 x9);
let ae:=(w64 (v6+1));
some (.inl (v0,v1,v2,v3,v4,v5,ae,v7,v8,v9,v10,v11,ac,())) else none) else
some (.inr (v0,v1,v2,v3,v4,v5,v6,false,v7,v8,v9,v10,v11,v12,()))
def fO:T1V→Option (T1V⊕(LI×LI×Int×Int×Bool×T0P)):=fun(v0,v1,v2,v3,v4,v5,v6,v7,v8,_)=>
bif (decide (v3 < v2)) then ((dT v3).bind fun x0=>
(dF v1 x0).bind fun x1=>
(dO fP NN (v0,v3,v1,v2,v3,x1,0,v4,v5,v6,v7,v8,[],())).bind fun(x2,x3,x4,x5,x6,x7,x8,x9,ac,ae,af,ag,ah,ai,_)=>
bif (dU 24 (List.length ah) (List.length [ai])) then let aj:List LDCn:=(List.append ah [ai]);
let ak:=(w64 (x6+1));
some (.inl (x2,x4,x5,ak,ac,ae,af,ag,aj,())) else none) else
some (.inr (v0,v1,v2,v3,false,v4,v5,v6,v7,v8,()))
def jA(a0:LDCe) (a1:LDLn) (a2:List (Int)) (a3:Int) (a4:List (Int)):Option (LLCn×Unit):=
let x0:=(dI (List.length a4));
(dO fO NN (a4,a4,x0,0,a0,a1,a2,a3,[],())).bind fun(x1,x2,x3,x4,x5,x6,x7,x8,x9,ac,_)=>
some (ac,())
noncomputable def vF:X.Cfg:=⟨E0,[pB,lO],[(41,(.row true KCn)),(42,(.row true KCn))],[⟨12,0,(qS [(sP 2 RI),(pP 3 8),(pP 4 10),(7,.pk ⟨17,0,[]⟩ [0,0]),(sP 8 I64),(10,.pk ⟨23,0,[]⟩ [0,0]),(sP 12 RI),(sP 13 I64),(sP 14 I64),(sP 19 I64),(sP 20 I64)] [(8,(uL [eG,eS])),(10,(uL [RI,CW])),(17,(uL [(.row true (.row true KCn))])),(23,(uL [(.row true KCn)]))]),[(.exit 2,(qS [(sP 2 RI),(pP 3 8),(pP 4 10),(7,.pk ⟨17,0,[]⟩ [0,0]),(sP 8 I64),(10,.pk ⟨23,0,[]⟩ [0,0]),(sP 12 RI),(sP 13 I64),(sP 14 I64),(sP 19 I64),(sP 20 I64),(sP 21 .bool)] [(8,(uL [eG,eS])),(10,(uL [RI,CW])),(17,(uL [(.row true (.row true KCn))])),(23,(uL [(.row true KCn)]))]))]⟩,(lx 4 1 [(sP 2 RI),(pP 3 8),(pP 4 10),(7,.pk ⟨17,0,[]⟩ [0,0]),(sP 12 RI),(sP 13 I64),(sP 14 I64)] [(8,(uL [eG,eS])),(10,(uL [RI,CW])),(17,(uL [(.row true (.row true KCn))]))] 15)]⟩
def pA:Ctr:=⟨18,108,[.agg (uL [eG,eS]),.agg (uL [RI,CW]),shU RI],[],[⟨(uL [(.row true (.row true KCn))]),[.one],[]⟩],ap5 jA⟩
theorem vo:Lk 3 pA:=ls (C:=vF) rfl (aC tJ (aC nY aN)) (by kernel_rfl) fun h=>by kernel_rfl
def gG:T3h→Option (T3h⊕(LDTh×Int×Int×LDCe×Int×Int×Bool×T3b)):=fun(v0,v1,v2,v3,v4,v5,v6,v7,v8,v9,v10,v11,v12,v13,v14,v15,v16,v17,v18,v19,v20,v21,v22,v23,v24,v25,v26,v27,v28,v29,v30,v31,v32,v33,_)=>
bif (decide (v5 < v4)) then ((dT v5).bind fun x0=>
(dF v3 x0).bind fun x1=>
(gp v9 v10 v7 x1.1 x1.2).bind fun(x2,x3,x4,x5,_)=>
let x6:LDCn:=[(x2,(x3,(x4,x5)))];
bif (dU 24 (List.length v33) (List.length x6)) then let x7:LDCn:=(List.append v33 x6);
let x8:=(w64 (v5+1));
some (.inl (v0,v1,v2,v3,v4,x8,v6,v7,v8,v9,v10,v11,v12,v13,v14,v15,v16,v17,v18,v19,v20,v21,v22,v23,v24,v25,v26,v27,v28,v29,v30,v31,v32,x7,())) else none) else
some (.inr (v0,v1,v2,v3,v4,v5,false,v6,v7,v8,v9,v10,v11,v12,v13,v14,v15,v16,v17,v18,v19,v20,v21,v22,v23,v24,v25,v26,v27,v28,v29,v30,v31,v32,v33,()))
def gF:T2E→Option (T2E⊕(LDTh×Int×Int×Bool×T2s)):=fun(v0,v1,v2,v3,v4,v5,v6,v7,v8,v9,v10,v11,v12,v13,v14,_)=>
bif (decide (v2 < v1)) then ((dT v2).bind fun x0=>
(dF v0 x0).bind fun x1=>
let x2:=(dI (List.length x1.2.1));
(dO gG NN (v0,v1,v2,x1.2.1,x2,0,v3,v4,v5,v6,v7,v8,v9,v10,v11,v12,v13,v14,x1.1,x1.2.1,x1.2.2.1,x1.2.2.2.1,x1.2.2.2.2.1,x1.2.2.2.2.2.1,x1.2.2.2.2.2.2.1,x1.2.2.2.2.2.2.2,x1.1,x1.2.2.1,x1.2.2.2.1,x1.2.2.2.2.1,x1.2.2.2.2.2.1,x1.2.2.2.2.2.2.1,x1.2.2.2.2.2.2.2,[],())).bind fun(x3,x4,x5,x6,x7,x8,x9,ac,ae,af,ag,ah,ai,aj,ak,am,an,ap,aq,av,ax,ay,az,aA,aB,aD,aE,aF,aG,aH,aI,aJ,aK,aL,aM,_)=>
let aO:LDTs:=[(aF,(aG,(aH,(aI,(aJ,(aK,(aL,aM)))))))];
bif (dU 80 (List.length aq) (List.length aO)) then let aP:LDTs:=(List.append aq aO);
let aQ:=(w64 (x5+1));
some (.inl (x3,x4,aQ,ac,ae,af,ag,ah,ai,aj,ak,am,an,ap,aP,())) else none) else
some (.inr (v0,v1,v2,false,v3,v4,v5,v6,v7,v8,v9,v10,v11,v12,v13,v14,()))
def lj(a0:LDIn) (a1:List (Int)) (a2:List LI) (a3:List (Int)) (a4:Int) (a5:LDCe) (a6:LDLn) (a7:LDTh):Option (T09):=
(jA a5 a6 a3 a4 a1).bind fun(x0,_)=>
let x1:=(dI (List.length a7));
(dO gF NN (a7,x1,0,a0,a1,a2,a3,a4,a5,a6,a7,(),(),x0,[],())).bind fun(x2,x3,x4,x5,x6,x7,x8,x9,ac,ae,af,ag,ah,ai,aj,ak,_)=>
some (aj,ak,())
noncomputable def zB:X.Cfg:=⟨E0,[pA,lO],[(63,EU),(64,EU)],[⟨12,0,(qS [(pP 2 6),(pP 3 8),(pP 4 10),(pP 5 12),(pP 8 18),(sP 20 fB),(sP 21 I64),(sP 22 I64),(sP 42 eG),(sP 43 I64),(sP 44 I64)] [(6,(uL [eU,RI,(.row false RW)])),(8,(uL [RI,CW,eG,eS,fB])),(10,(uL [N1,N1])),(12,(uL [(.row true (.row true KCn)),(.row true EU)])),(16,(uL [I64,eG,I64,I64,I64,I64,I64,CW])),(18,(uL [I64,I64,I64,I64,I64,I64,CW,(.row true KCn)]))]),[(.exit 2,(qS [(pP 2 6),(pP 3 8),(pP 4 10),(pP 5 12),(pP 8 18),(sP 20 fB),(sP 21 I64),(sP 22 I64),(sP 42 eG),(sP 43 I64),(sP 44 I64),(sP 45 .bool)] [(6,(uL [eU,RI,(.row false RW)])),(8,(uL [RI,CW,eG,eS,fB])),(10,(uL [N1,N1])),(12,(uL [(.row true (.row true KCn)),(.row true EU)])),(16,(uL [I64,eG,I64,I64,I64,I64,I64,CW])),(18,(uL [I64,I64,I64,I64,I64,I64,CW,(.row true KCn)]))]))]⟩,(lx 4 1 [(pP 2 6),(pP 3 8),(pP 4 10),(pP 5 12),(sP 20 fB),(sP 21 I64),(sP 22 I64)] [(6,(uL [eU,RI,(.row false RW)])),(8,(uL [RI,CW,eG,eS,fB])),(10,(uL [N1,N1])),(12,(uL [(.row true (.row true KCn)),(.row true EU)]))] 23)]⟩
def rW:Ctr:=⟨24,109,[.agg (uL [eU,RI,(.row false RW)]),.agg (uL [RI,CW,eG,eS,fB])],[],[⟨(uL [(.row true (.row true KCn)),(.row true EU)]),[.agg 2],[]⟩],ap8 lj⟩
theorem yU:Lk 4 rW:=ls (C:=zB) rfl (aC vo (aC nY aN)) (by kernel_rfl) fun h=>by kernel_rfl
def gJ:Int×T0m→Option ((Int×T0m)⊕(Int×T0A)):=fun(v0,v1,v2,v3,_)=>
bif (decide (v3 < v2)) then ((dT v3).bind fun x0=>
(dF v1 x0).bind fun x1=>
let x2:=(w64 (v0+x1));
let x3:=(w64 (v3+1));
some (.inl (x2,v1,v2,x3,()))) else
some (.inr (v0,v1,v2,v3,false,()))
def ly(a0:List (Int)):Option (Int×Unit):=
let x0:=(dI (List.length a0));
(dO gJ NN (0,a0,x0,0,())).bind fun(x1,x2,x3,x4,x5,_)=>
some (x1,())
noncomputable def zX:X.Cfg:=⟨E0,[],[],[(lx 4 0 [(sP 3 I64),(sP 6 RI),(sP 7 I64),(sP 8 I64)] [] 9)]⟩
def se:Ctr:=⟨59,110,(uL [RI]),[],[⟨(uL [I64]),[.one],[]⟩],ap1 ly⟩
theorem ze:Lk 1 se:=ls (C:=zX) rfl aN (by kernel_rfl) fun h=>by kernel_rfl
def nO:Int×LI×T0s→Option ((Int×LI×T0s)⊕(T0e⊕T1r)):=fun(v0,v1,v2,v3,v4,v5,_)=>
bif (decide (v3 < v2)) then ((dT v3).bind fun x0=>
(dF v1 x0).bind fun x1=>
(match (bif (decide (v0≥0)) then (bif (decide (v0 < x1)) then (some (.inl (0,v3,v0,()))) else
some (.inr (v0,v3,x1,v1,v2,v3,false,v4,v5,()))) else
some (.inr (v0,v3,x1,v1,v2,v3,false,v4,v5,())):Option (T0e⊕(Int×Int×T1r))) with
| none=>none
| some (.inl (x2,x3,x4,_))=>
some (.inr (.inl (x2,x3,x4,())))
| some (.inr (x2,x3,x4,x5,x6,x7,x8,x9,ac,_))=>
let ae:=(w64 (x2 - x4));
let af:=(w64 (x7+1));
some (.inl (ae,x5,x6,af,x9,ac,())))) else
some (.inr (.inr (v0,v1,v2,v3,false,v4,v5,())))
def pN(a0:List (Int)) (a1:Int):Option (T0e):=
let x0:=(dI (List.length a0));
(match dO nO NN (a1,a0,x0,0,0,0,()) with
| none=>none
| some (.inl (x1,x2,x3,_))=>
some (x2,x3,x1,())
| some (.inr (x1,x2,x3,x4,x5,x6,x7,_))=>
some (0,0,6,()))
noncomputable def FO:X.Cfg:=⟨E0,[],[],[⟨8,0,qE,[(.ret,(qS [(pP 4 10),(sP 5 I64)] [(10,(uL [I64,I64]))])),(.normal,(qS [(sP 1 I64),(pP 4 10),(sP 6 I64),(sP 7 I64),(sP 8 RI),(sP 9 I64),(sP 10 I64),(sP 21 .bool)] [(10,(uL [I64,I64]))]))]⟩,⟨3,1,(qS [(sP 1 I64),(pP 4 10),(sP 8 RI),(sP 9 I64),(sP 10 I64)] [(10,(uL [I64,I64]))]),[(.ret,(qS [(pP 4 10),(sP 5 I64)] [(10,(uL [I64,I64]))])),(.exit 0,(qS [(sP 1 I64),(pP 4 10),(sP 8 RI),(sP 9 I64),(sP 10 I64),(sP 11 .bool)] [(10,(uL [I64,I64]))]))]⟩]⟩
def yl:Ctr:=⟨58,111,(uL [RI,I64]),[],[⟨(uL [I64,I64,I64]),[.agg 2,.one],[]⟩],ap2 pN⟩
theorem FG:Lk 1 yl:=ls (C:=FO) rfl aN (by kernel_rfl) fun h=>by kernel_rfl
def kQ(a0:List (Int)) (a1:List (Int)) (a2:Int):Option (T13):=
(dG 6 a1 a2).bind fun(x0,x1,x2,_)=>
bif (x0==4) then ((ly a0).bind fun(x3,_)=>
(dG x3 x1 x2).bind fun(x4,x5,x6,_)=>
(pN a0 x4).bind fun(x7,x8,x9,_)=>
some (1,0,x7,x8,x5,x6,())) else
bif (x0==5) then ((dG 10 x1 x2).bind fun(x3,x4,x5,_)=>
let x6:=(wk .u16 x3);
some (2,x6,0,0,x4,x5,())) else
(gv x1 x2).bind fun(x3,x4,x5,_)=>
some (0,x3,0,0,x4,x5,())
noncomputable def B6:X.Cfg:=⟨E0,[eZ,se,yl,j9],[],[]⟩
def uh:Ctr:=⟨28,112,[.ptr ⟨2,0,[]⟩ [0],shU RI],[(2,(uL [RI,I64]))],[⟨(uL [CB,CW,I64,I64]),[.agg 4],[(2,(uL [RI,I64]))]⟩],ap3 kQ⟩
theorem Bp:Lk 5 uh:=ls (C:=B6) rfl (aC fi (aC ze (aC FG (aC mg aN)))) (by kernel_rfl) fun h=>by kernel_rfl
def fN:LDTs×LDTs×T02→Option ((LDTs×LDTs×T02)⊕((Bool×Unit)⊕(LDTs×LDTs×T0d))):=fun(v0,v1,v2,v3,_)=>
bif (decide (v3 < v2)) then ((dT v3).bind fun x0=>
(dF v1 x0).bind fun x1=>
(bif (decide (x1.1≥0)) then (bif (decide (x1.1≤4)) then (bif (decide (x1.2.1≥0)) then (bif (decide (x1.2.1≤255)) then (bif (decide (x1.2.2.1≥0)) then (bif (decide (x1.2.2.1≤1099511627776)) then (bif (decide (x1.2.2.2.1≥(-1))) then (bif (decide (x1.2.2.2.1≤255)) then (bif (decide (x1.2.2.2.2.1≥(-1))) then (bif (decide (x1.2.2.2.2.1≤255)) then (bif (decide (x1.2.2.2.2.2.1≥0)) then (some (v0,(decide (x1.2.2.2.2.2.1≤6)),v1,v2,v3,x1.1,x1.2.1,x1.2.2.1,x1.2.2.2.1,x1.2.2.2.2.1,x1.2.2.2.2.2.1,x1.2.2.2.2.2.2.1,x1.2.2.2.2.2.2.2,())) else
some (v0,false,v1,v2,v3,x1.1,x1.2.1,x1.2.2.1,x1.2.2.2.1,x1.2.2.2.2.1,x1.2.2.2.2.2.1,x1.2.2.2.2.2.2.1,x1.2.2.2.2.2.2.2,())) else
some (v0,false,v1,v2,v3,x1.1,x1.2.1,x1.2.2.1,x1.2.2.2.1,x1.2.2.2.2.1,x1.2.2.2.2.2.1,x1.2.2.2.2.2.2.1,x1.2.2.2.2.2.2.2,())) else
some (v0,false,v1,v2,v3,x1.1,x1.2.1,x1.2.2.1,x1.2.2.2.1,x1.2.2.2.2.1,x1.2.2.2.2.2.1,x1.2.2.2.2.2.2.1,x1.2.2.2.2.2.2.2,())) else
some (v0,false,v1,v2,v3,x1.1,x1.2.1,x1.2.2.1,x1.2.2.2.1,x1.2.2.2.2.1,x1.2.2.2.2.2.1,x1.2.2.2.2.2.2.1,x1.2.2.2.2.2.2.2,())) else
some (v0,false,v1,v2,v3,x1.1,x1.2.1,x1.2.2.1,x1.2.2.2.1,x1.2.2.2.2.1,x1.2.2.2.2.2.1,x1.2.2.2.2.2.2.1,x1.2.2.2.2.2.2.2,())) else
some (v0,false,v1,v2,v3,x1.1,x1.2.1,x1.2.2.1,x1.2.2.2.1,x1.2.2.2.2.1,x1.2.2.2.2.2.1,x1.2.2.2.2.2.2.1,x1.2.2.2.2.2.2.2,())) else
some (v0,false,v1,v2,v3,x1.1,x1.2.1,x1.2.2.1,x1.2.2.2.1,x1.2.2.2.2.1,x1.2.2.2.2.2.1,x1.2.2.2.2.2.2.1,x1.2.2.2.2.2.2.2,())) else
some (v0,false,v1,v2,v3,x1.1,x1.2.1,x1.2.2.1,x1.2.2.2.1,x1.2.2.2.2.1,x1.2.2.2.2.2.1,x1.2.2.2.2.2.2.1,x1.2.2.2.2.2.2.2,())) else
some (v0,false,v1,v2,v3,x1.1,x1.2.1,x1.2.2.1,x1.2.2.2.1,x1.2.2.2.2.1,x1.2.2.2.2.2.1,x1.2.2.2.2.2.2.1,x1.2.2.2.2.2.2.2,())) else
some (v0,false,v1,v2,v3,x1.1,x1.2.1,x1.2.2.1,x1.2.2.2.1,x1.2.2.2.2.1,x1.2.2.2.2.2.1,x1.2.2.2.2.2.2.1,x1.2.2.2.2.2.2.2,())) else
some (v0,false,v1,v2,v3,x1.1,x1.2.1,x1.2.2.1,x1.2.2.2.1,x1.2.2.2.2.1,x1.2.2.2.2.2.1,x1.2.2.2.2.2.2.1,x1.2.2.2.2.2.2.2,()):Option (LDTs×Bool×LDTs×T22)).bind fun(x2,x3,x4,x5,x6,x7,x8,x9,ac,ae,af,ag,ah,_)=>
(bif (!x3) then (some (x2,x4,x5,x6,true,())) else
let ai:=(dI (List.length ah));
bif (ai != 8) then (some (x2,x4,x5,x6,true,())) else
(eW ah 8).bind fun(aj,_)=>
some (x2,x4,x5,x6,(!aj),()):Option (LDTs×LDTs×T0d)).bind fun(ai,aj,ak,am,an,_)=>
bif an then (some (.inr (.inl (false,())))) else
let ap:=(w64 (am+1));
some (.inl (ai,aj,ak,ap,()))) else
some (.inr (.inr (v0,v1,v2,v3,false,())))
def jv(a0:LDTs):Option (Bool×Unit):=
let x0:=(dI (List.length a0));
(match dO fN NN (a0,a0,x0,0,()) with
| none=>none
| some (.inl (x1,_))=>
some (x1,())
| some (.inr (x1,x2,x3,x4,x5,_))=>
let x6:=(dI (List.length x1));
some ((x6==4),()))
noncomputable def vD:X.Cfg:=⟨E0,[fT],[],[⟨8,0,qE,[(.normal,(qS [(sP 0 (.row false qb)),(pP 4 10),(sP 5 .bool),(sP 6 (.row false qb)),(sP 7 I64),(sP 8 I64)] [(10,(uL [I64,I64,I64,I64,I64,I64,CW,dY]))]))]⟩,⟨9,1,qE,[(.normal,(qS [(sP 0 (.row false qb)),(sP 6 (.row false qb)),(sP 7 I64),(sP 8 I64),(sP 83 .bool)] []))]⟩,⟨3,2,(qS [(sP 0 (.row false qb)),(sP 6 (.row false qb)),(sP 7 I64),(sP 8 I64)] []),[(.ret,(qS [(sP 2 .bool)] [])),(.exit 0,(qS [(sP 0 (.row false qb)),(sP 6 (.row false qb)),(sP 7 I64),(sP 8 I64),(sP 9 .bool)] []))]⟩]⟩
def po:Ctr:=⟨104,113,(uL [(.row false qb)]),[],[⟨(uL [.bool]),[.one],[]⟩],ap1 jv⟩
theorem vl:Lk 3 po:=ls (C:=vD) rfl (aC gy aN) (by kernel_rfl) fun h=>by kernel_rfl
def gE:T1H→Option (T1H⊕((Bool×Unit)⊕(LLCn×Int×Int×Bool×T0Q))):=fun(v0,v1,v2,v3,v4,v5,v6,v7,_)=>
bif (decide (v2 < v1)) then ((dT v2).bind fun x0=>
(dF v0 x0).bind fun x1=>
let x2:=(dI (List.length x1));
(dT v2).bind fun x3=>
(dF v4 x3).bind fun x4=>
bif (x2 != x4) then (some (.inr (.inl (false,())))) else
(eW x1 32).bind fun(x5,_)=>
bif (!x5) then (some (.inr (.inl (false,())))) else
let x6:=(w64 (v2+1));
some (.inl (v0,v1,x6,v3,v4,v5,v6,v7,()))) else
some (.inr (.inr (v0,v1,v2,false,v3,v4,v5,v6,v7,())))
def li(a0:LDIn) (a1:List (Int)) (a2:List LI) (a3:List LDCn) (a4:LDTs):Option (Bool×Unit):=
((iq a0 a1 a2).bind fun(x0,_)=>
bif (x0 != 0) then (some (true,a0,a1,a2,a3,a4,())) else
let x1:=(dI (List.length a3));
let x2:=(dI (List.length a1));
bif (x1 != x2) then (some (true,a0,a1,a2,a3,a4,())) else
(jv a4).bind fun(x3,_)=>
some ((!x3),a0,a1,a2,a3,a4,()):Option (Bool×T0Q)).bind fun(x0,x1,x2,x3,x4,x5,_)=>
bif x0 then (some (false,())) else
let x6:=(dI (List.length x4));
(match dO gE NN (x4,x6,0,x1,x2,x3,x4,x5,()) with
| none=>none
| some (.inl (x7,_))=>
some (x7,())
| some (.inr (x7,x8,x9,ac,ae,af,ag,ah,ai,_))=>
some (true,()))
noncomputable def zA:X.Cfg:=⟨E0,[lN,po,fT],[],[⟨2,0,qE,[(.normal,(qS [(pP 2 6),(pP 3 8),(sP 24 .bool)] [(6,(uL [eU,RI,(.row false RW)])),(8,(uL [(.row false dY),(.row false qb)]))]))]⟩,⟨6,1,(qS [(pP 2 6),(sP 26 (.row false dY)),(sP 27 I64),(sP 28 I64)] [(6,(uL [eU,RI,(.row false RW)])),(8,(uL [(.row false dY),(.row false qb)]))]),[(.ret,(qS [(sP 4 .bool)] [])),(.exit 0,(qS [(pP 2 6),(sP 26 (.row false dY)),(sP 27 I64),(sP 28 I64),(sP 29 .bool)] [(6,(uL [eU,RI,(.row false RW)])),(8,(uL [(.row false dY),(.row false qb)]))]))]⟩]⟩
def rV:Ctr:=⟨60,114,[.agg (uL [eU,RI,(.row false RW)]),.agg (uL [(.row false dY),(.row false qb)])],[],[⟨(uL [.bool]),[.one],[]⟩],ap5 li⟩
theorem yT:Lk 4 rV:=ls (C:=zA) rfl (aC nX (aC vl (aC gy aN))) (by kernel_rfl) fun h=>by kernel_rfl
def gD:LDTs×Int×Int×LLCn×LDTs×LLCn×Unit→Option ((LDTs×Int×Int×LLCn×LDTs×LLCn×Unit)⊕(LDTs×Int×Int×Bool×LLCn×LDTs×LLCn×Unit)):=fun(v0,v1,v2,v3,v4,v5,_)=>
bif (decide (v2 < v1)) then ((dT v2).bind fun x0=>
(dF v0 x0).bind fun x1=>
let x2:List LDCn:=[x1.2.2.2.2.2.2.2];
bif (dU 24 (List.length v5) (List.length x2)) then let x3:List LDCn:=(List.append v5 x2);
let x4:=(w64 (v2+1));
some (.inl (v0,v1,x4,v3,v4,x3,())) else none) else
some (.inr (v0,v1,v2,false,v3,v4,v5,()))
def lh(a0:List LDCn) (a1:LDTs):Option (LLCn×Unit):=
bif (dU 24 0 (List.length a0)) then let x0:List LDCn:=(List.append [] a0);
let x1:=(dI (List.length a1));
(dO gD NN (a1,x1,0,a0,a1,x0,())).bind fun(x2,x3,x4,x5,x6,x7,x8,_)=>
some (x8,()) else none
noncomputable def zy:X.Cfg:=⟨E0,[],[(8,(.row true KCn)),(19,(.row true KCn)),(20,(.row true KCn))],[(lx 4 0 [(3,.pk ⟨9,0,[]⟩ [0,0]),(sP 10 (.row false qb)),(sP 11 I64),(sP 12 I64)] [(4,(uL [(.row false dY),(.row false qb)])),(9,(uL [(.row true dY)]))] 13)]⟩
def rU:Ctr:=⟨62,115,[.agg (uL [(.row false dY),(.row false qb)])],[],[⟨(uL [(.row true dY)]),[.one],[]⟩],ap2 lh⟩
theorem yS:Lk 1 rU:=ls (C:=zy) rfl aN (by kernel_rfl) fun h=>by kernel_rfl
def f8:T2O→Option (T2O⊕(T0Z⊕(Int×Int×LDCn×T2G))):=fun(v0,v1,v2,v3,v4,v5,v6,v7,v8,v9,v10,v11,v12,v13,v14,v15,v16,v17,_)=>
bif (decide (v4 < v3)) then ((dT v4).bind fun x0=>
(dF v2 x0).bind fun x1=>
(fW v6 x1.1 x1.2.1 x1.2.2.1 x1.2.2.2).bind fun(x2,_)=>
bif (!x2) then (some (.inr (.inl (false,(),0,(),(),(),())))) else
let x3:=(w64 (v4+1));
some (.inl (v0,v1,v2,v3,x3,v5,v6,v7,v8,v9,v10,v11,v12,v13,v14,v15,v16,v17,()))) else
some (.inr (.inr (v0,v1,v2,v3,v4,false,v5,v6,v7,v8,v9,v10,v11,v12,v13,v14,v15,v16,v17,())))
def f7:T2C→Option (T2C⊕(T0Z⊕T2G)):=fun(v0,v1,v2,v3,v4,v5,v6,v7,v8,v9,v10,v11,v12,v13,v14,_)=>
bif (decide (v1 < v0)) then ((dT v1).bind fun x0=>
(dF v14 x0).bind fun x1=>
(dF v14 x0).bind fun x2=>
let x3:=(dI (List.length x2));
(match dO f8 NN (v0,v1,x2,x3,0,v2,v3,v4,v5,v6,v7,v8,v9,v10,v11,v12,v13,v14,()) with
| none=>none
| some (.inl (x4,x5,x6,x7,x8,x9,_))=>
some (.inr (.inl (x4,x5,x6,x7,x8,x9,())))
| some (.inr (x4,x5,x6,x7,x8,x9,ac,ae,af,ag,ah,ai,aj,ak,am,an,ap,aq,av,_))=>
let ax:=(w64 (x5+1));
some (.inl (x4,ax,ac,ae,af,ag,ah,ai,aj,ak,am,an,ap,aq,av,())))) else
some (.inr (.inr (v0,v1,false,v2,v3,v4,v5,v6,v7,v8,v9,v10,v11,v12,v13,v14,())))
def nd:T33→Option (T33⊕(Int×LLCn×Int×Int×LDCn×T2Y)):=fun(v0,v1,v2,v3,v4,v5,v6,v7,v8,v9,v10,v11,v12,v13,v14,v15,v16,v17,v18,v19,v20,v21,v22,v23,_)=>
bif (decide (v6 < v5)) then ((dT v6).bind fun x0=>
(dF v4 x0).bind fun x1=>
(dT v0).bind fun x2=>
(dF v10 x2).bind fun x3=>
let x4:=(w64 (x3+v6));
(fV v10 v11 v8 x1.1 x1.2.1 x1.2.2.1 x1.2.2.2).bind fun(x5,x6,x7,_)=>
(dT x4).bind fun x8=>
(dF v21 x8).bind fun x9=>
(dF v21 x8).bind fun ac=>
let ae:=(List.modify v21 x8 fun e=>(x5,x6));
let af:=(w64 (v6+1));
some (.inl (v0,v1,v2,v3,v4,v5,af,v7,v8,v9,v10,v11,v12,v13,v14,v15,v16,v17,v18,v19,v20,ae,v22,v23,()))) else
some (.inr (v0,v1,v2,v3,v4,v5,v6,false,v7,v8,v9,v10,v11,v12,v13,v14,v15,v16,v17,v18,v19,v20,v21,v22,v23,()))
def nc:T30→Option (T30⊕(LLCn×T2Y)):=fun(v0,v1,v2,v3,v4,v5,v6,v7,v8,v9,v10,v11,v12,v13,v14,v15,v16,v17,v18,v19,_)=>
bif (decide (v2 < v1)) then ((dT v2).bind fun x0=>
(dF v0 x0).bind fun x1=>
let x2:=(dI (List.length x1));
(dO nd NN (v2,v0,v1,v2,x1,x2,0,v3,v4,v5,v6,v7,v8,v9,v10,v11,v12,v13,v14,v15,v16,v17,v18,v19,())).bind fun(x3,x4,x5,x6,x7,x8,x9,ac,ae,af,ag,ah,ai,aj,ak,am,an,ap,aq,av,ax,ay,az,aA,aB,_)=>
let aD:=(w64 (x6+1));
some (.inl (x4,x5,aD,ae,af,ag,ah,ai,aj,ak,am,an,ap,aq,av,ax,ay,az,aA,aB,()))) else
some (.inr (v0,v1,v2,false,v3,v4,v5,v6,v7,v8,v9,v10,v11,v12,v13,v14,v15,v16,v17,v18,v19,()))
def f6:T3A→Option (T3A⊕(LDTs×Int×Int×LDCn×Int×Int×Bool×T3f)):=fun(v0,v1,v2,v3,v4,v5,v6,v7,v8,v9,v10,v11,v12,v13,v14,v15,v16,v17,v18,v19,v20,v21,v22,v23,v24,v25,v26,v27,v28,v29,v30,v31,v32,v33,v34,v35,v36,v37,v38,_)=>
bif (decide (v5 < v4)) then ((dT v5).bind fun x0=>
(dF v3 x0).bind fun x1=>
(fV v9 v10 v7 x1.1 x1.2.1 x1.2.2.1 x1.2.2.2).bind fun(x2,x3,x4,_)=>
let x5:LDCe:=[(x2,x3)];
bif (dU 4 (List.length v32) (List.length x5)) then let x6:LDCe:=(List.append v32 x5);
let x7:=(w64 (v5+1));
some (.inl (v0,v1,v2,v3,v4,x7,v6,v7,v8,v9,v10,v11,v12,v13,v14,v15,v16,v17,v18,v19,v20,v21,v22,v23,v24,v25,v26,v27,v28,v29,v30,v31,x6,v33,v34,v35,v36,v37,v38,())) else none) else
some (.inr (v0,v1,v2,v3,v4,v5,false,v6,v7,v8,v9,v10,v11,v12,v13,v14,v15,v16,v17,v18,v19,v20,v21,v22,v23,v24,v25,v26,v27,v28,v29,v30,v31,v32,v33,v34,v35,v36,v37,v38,()))
def fZ:T2Z→Option (T2Z⊕(LDTs×Int×Int×Bool×T2M)):=fun(v0,v1,v2,v3,v4,v5,v6,v7,v8,v9,v10,v11,v12,v13,v14,v15,v16,v17,v18,v19,_)=>
bif (decide (v2 < v1)) then ((dT v2).bind fun x0=>
(dF v0 x0).bind fun x1=>
let x2:=(dI (List.length x1.2.2.2.2.2.2.2));
(dO f6 NN (v0,v1,v2,x1.2.2.2.2.2.2.2,x2,0,v3,v4,v5,v6,v7,v8,v9,v10,v11,v12,v13,v14,v15,v16,v17,v18,v19,x1.1,x1.2.1,x1.2.2.1,x1.2.2.2.1,x1.2.2.2.2.1,x1.2.2.2.2.2.1,x1.2.2.2.2.2.2.1,x1.2.2.2.2.2.2.2,x1.1,[],x1.2.1,x1.2.2.1,x1.2.2.2.1,x1.2.2.2.2.1,x1.2.2.2.2.2.1,x1.2.2.2.2.2.2.1,())).bind fun(x3,x4,x5,x6,x7,x8,x9,ac,ae,af,ag,ah,ai,aj,ak,am,an,ap,aq,av,ax,ay,az,aA,aB,aD,aE,aF,aG,aH,aI,aJ,aK,aL,aM,aO,aP,aQ,aR,aS,_)=>
let aT:LDTh:=[(aK,(aL,(aM,(aO,(aP,(aQ,(aR,aS)))))))];
bif (dU 80 (List.length aA) (List.length aT)) then let aU:LDTh:=(List.append aA aT);
let aV:=(w64 (x5+1));
some (.inl (x3,x4,aV,ac,ae,af,ag,ah,ai,aj,ak,am,an,ap,aq,av,ax,ay,az,aU,())) else none) else
some (.inr (v0,v1,v2,false,v3,v4,v5,v6,v7,v8,v9,v10,v11,v12,v13,v14,v15,v16,v17,v18,v19,()))
def kj(a0:LDIn) (a1:List (Int)) (a2:List LI) (a3:List (Int)) (a4:Int) (a5:List LDCn) (a6:LDTs):Option (T1c):=
(li a0 a1 a2 a5 a6).bind fun(x0,_)=>
bif (!x0) then (some ([],0,[],[],[],false,())) else
(gn a3 a4 a1).bind fun(x1,_)=>
bif (!x1) then (some ([],0,[],[],[],false,())) else
(lh a5 a6).bind fun(x2,_)=>
let x3:=(dI (List.length x2));
(match dO f7 NN (x3,0,a0,a1,a2,a3,a4,a5,a6,(),0,(),(),(),x2,()) with
| none=>none
| some (.inl (x4,x5,x6,x7,x8,x9,_))=>
some ([],x6,[],[],[],x4,())
| some (.inr (x4,x5,x6,x7,x8,x9,ac,ae,af,ag,ah,ai,aj,ak,am,an,_))=>
bif (dU 8 0 (List.length ac)) then let ap:List (Int):=(List.append [] ac);
bif (qO 512 512 2) then let aq:LDCe:=(List.replicate 512 (0,0));
(lw).bind fun(av,_)=>
let ax:=(dI (List.length af));
(dO nc NN (af,ax,0,x7,x8,x9,ac,ae,af,ag,ah,ai,aj,ak,am,ap,ae,aq,av,(),())).bind fun(ay,az,aA,aB,aD,aE,aF,aG,aH,aI,aJ,aK,aL,aM,aO,aP,aQ,aR,aS,aT,aU,_)=>
let aV:=(dI (List.length aJ));
(dO fZ NN (aJ,aV,0,aD,aE,aF,aG,aH,aI,aJ,aK,aL,aM,aO,aP,aQ,aR,aS,aT,[],())).bind fun(aW,aY,aZ,ba,bc,bd,be,bf,bg,bh,bi,bj,bk,bl,bm,bn,bo,bp,bq,bt,bv,_)=>
some (bo,bp,bq,bt,bv,true,()) else none else none)
noncomputable def xe:X.Cfg:=⟨E0,[rV,jR,rU,iJ,oh,oi],[(150,L1),(151,L1)],[⟨12,0,(qS [(pP 3 8),(pP 4 10),(pP 5 12),(pP 6 14),(37,.pk ⟨77,0,[]⟩ [0,0]),(sP 38 I64),(sP 39 I64),(sP 43 dY),(sP 44 I64),(sP 45 I64)] [(8,(uL [eU,RI,(.row false RW)])),(10,(uL [RI,CW])),(12,(uL [(.row false dY),(.row false qb)])),(14,(uL [N1,CW,N1,N1,N1])),(77,(uL [(.row true dY)]))]),[(.ret,(qS [(pP 6 14),(sP 7 .bool)] [(14,(uL [N1,CW,N1,N1,N1]))])),(.exit 2,(qS [(pP 3 8),(pP 4 10),(pP 5 12),(pP 6 14),(37,.pk ⟨77,0,[]⟩ [0,0]),(sP 38 I64),(sP 39 I64),(sP 43 dY),(sP 44 I64),(sP 45 I64),(sP 46 .bool)] [(8,(uL [eU,RI,(.row false RW)])),(10,(uL [RI,CW])),(12,(uL [(.row false dY),(.row false qb)])),(14,(uL [N1,CW,N1,N1,N1])),(77,(uL [(.row true dY)]))]))]⟩,⟨6,1,(qS [(pP 3 8),(pP 4 10),(pP 5 12),(pP 6 14),(37,.pk ⟨77,0,[]⟩ [0,0]),(sP 38 I64),(sP 39 I64)] [(8,(uL [eU,RI,(.row false RW)])),(10,(uL [RI,CW])),(12,(uL [(.row false dY),(.row false qb)])),(14,(uL [N1,CW,N1,N1,N1])),(77,(uL [(.row true dY)]))]),[(.ret,(qS [(pP 6 14),(sP 7 .bool)] [(14,(uL [N1,CW,N1,N1,N1]))])),(.exit 0,(qS [(pP 3 8),(pP 4 10),(pP 5 12),(pP 6 14),(37,.pk ⟨77,0,[]⟩ [0,0]),(sP 38 I64),(sP 39 I64),(sP 40 .bool)] [(8,(uL [eU,RI,(.row false RW)])),(10,(uL [RI,CW])),(12,(uL [(.row false dY),(.row false qb)])),(14,(uL [N1,CW,N1,N1,N1])),(77,(uL [(.row true dY)]))]))]⟩,⟨28,2,(qS [(pP 3 8),(pP 4 10),(pP 5 12),(pP 6 14),(pP 12 26),(sP 13 I64),(sP 68 (.row false dY)),(sP 69 I64),(sP 70 I64),(sP 75 dY),(sP 76 I64),(sP 77 I64)] [(8,(uL [eU,RI,(.row false RW)])),(10,(uL [RI,CW])),(12,(uL [(.row false dY),(.row false qb)])),(14,(uL [N1,CW,N1,N1,N1])),(26,(uL [RI,CW,(.row true KCe),iC,N1]))]),[(.exit 6,(qS [(pP 3 8),(pP 4 10),(pP 5 12),(pP 6 14),(pP 12 26),(sP 13 I64),(sP 68 (.row false dY)),(sP 69 I64),(sP 70 I64),(sP 75 dY),(sP 76 I64),(sP 77 I64),(sP 78 .bool)] [(8,(uL [eU,RI,(.row false RW)])),(10,(uL [RI,CW])),(12,(uL [(.row false dY),(.row false qb)])),(14,(uL [N1,CW,N1,N1,N1])),(26,(uL [RI,CW,(.row true KCe),iC,N1]))]))]⟩,⟨22,3,(qS [(pP 3 8),(pP 4 10),(pP 5 12),(pP 6 14),(pP 12 26),(sP 68 (.row false dY)),(sP 69 I64),(sP 70 I64)] [(8,(uL [eU,RI,(.row false RW)])),(10,(uL [RI,CW])),(12,(uL [(.row false dY),(.row false qb)])),(14,(uL [N1,CW,N1,N1,N1])),(26,(uL [RI,CW,(.row true KCe),iC,N1]))]),[(.exit 4,(qS [(pP 3 8),(pP 4 10),(pP 5 12),(pP 6 14),(pP 12 26),(sP 68 (.row false dY)),(sP 69 I64),(sP 70 I64),(sP 71 .bool)] [(8,(uL [eU,RI,(.row false RW)])),(10,(uL [RI,CW])),(12,(uL [(.row false dY),(.row false qb)])),(14,(uL [N1,CW,N1,N1,N1])),(26,(uL [RI,CW,(.row true KCe),iC,N1]))]))]⟩,⟨43,4,(qS [(pP 3 8),(pP 4 10),(pP 6 14),(pP 12 26),(pP 19 40),(sP 104 (.row false qb)),(sP 105 I64),(sP 106 I64),(sP 126 dY),(sP 127 I64),(sP 128 I64)] [(8,(uL [eU,RI,(.row false RW)])),(10,(uL [RI,CW])),(12,(uL [(.row false dY),(.row false qb)])),(14,(uL [N1,CW,N1,N1,N1])),(26,(uL [RI,CW,(.row true KCe),iC,oD])),(38,(uL [I64,I64,I64,I64,I64,I64,CW,dY])),(40,(uL [I64,(.row true KCe),I64,I64,I64,I64,I64,CW]))]),[(.exit 10,(qS [(pP 3 8),(pP 4 10),(pP 6 14),(pP 12 26),(pP 19 40),(sP 104 (.row false qb)),(sP 105 I64),(sP 106 I64),(sP 126 dY),(sP 127 I64),(sP 128 I64),(sP 129 .bool)] [(8,(uL [eU,RI,(.row false RW)])),(10,(uL [RI,CW])),(12,(uL [(.row false dY),(.row false qb)])),(14,(uL [N1,CW,N1,N1,N1])),(26,(uL [RI,CW,(.row true KCe),iC,oD])),(38,(uL [I64,I64,I64,I64,I64,I64,CW,dY])),(40,(uL [I64,(.row true KCe),I64,I64,I64,I64,I64,CW]))]))]⟩,⟨35,5,(qS [(pP 3 8),(pP 4 10),(pP 6 14),(pP 12 26),(sP 104 (.row false qb)),(sP 105 I64),(sP 106 I64)] [(8,(uL [eU,RI,(.row false RW)])),(10,(uL [RI,CW])),(12,(uL [(.row false dY),(.row false qb)])),(14,(uL [N1,CW,N1,N1,N1])),(26,(uL [RI,CW,(.row true KCe),iC,oD]))]),[(.exit 8,(qS [(pP 3 8),(pP 4 10),(pP 6 14),(pP 12 26),(sP 104 (.row false qb)),(sP 105 I64),(sP 106 I64),(sP 107 .bool)] [(8,(uL [eU,RI,(.row false RW)])),(10,(uL [RI,CW])),(12,(uL [(.row false dY),(.row false qb)])),(14,(uL [N1,CW,N1,N1,N1])),(26,(uL [RI,CW,(.row true KCe),iC,oD]))]))]⟩]⟩
def qx:Ctr:=⟨29,116,[.agg (uL [eU,RI,(.row false RW)]),.agg (uL [RI,CW]),.agg (uL [(.row false dY),(.row false qb)])],[],[⟨(uL [RI,CW,(.row true KCe),iC,oD,.bool]),[.agg 5,.one],[]⟩],ap7 kj⟩
theorem wP:Lk 5 qx:=ls (C:=xe) rfl (aC yT (aC lH (aC yS (aC kz (aC rE (aC qT aN)))))) (by kernel_rfl) fun h=>by kernel_rfl
def j3:T3n→Option (T3n⊕T3u):=fun(v0,v1,v2,v3,v4,v5,v6,v7,v8,v9,v10,v11,v12,v13,v14,v15,v16,v17,v18,v19,v20,v21,v22,v23,v24,v25,v26,v27,v28,v29,v30,v31,v32,v33,v34,v35,v36,_)=>
bif (decide (v1 < v0)) then (((dG 3 v2 v3).bind fun(x0,x1,x2,_)=>
bif (x0==0) then ((dF v35 0).bind fun x3=>
(dF v35 0).bind fun x4=>
(kQ v13 x1 x2).bind fun(x5,x6,x7,x8,x9,ac,_)=>
(dT v1).bind fun ae=>
(dF v35 0).bind fun af=>
(dF af ae).bind fun ag=>
(dF v35 0).bind fun ah=>
(dF ah ae).bind fun ai=>
let aj:=(List.modify v35 0 fun e=>(List.modify e ae fun e=>(x5,(x6,(x7,x8)))));
some (v0,v1,x9,ac,v4,v5,v6,v7,v8,v9,v10,v11,v12,v13,v14,v15,v16,v17,v18,v19,v20,v21,v22,v23,v24,v25,v26,v27,v28,v29,v30,v31,v32,v33,v34,aj,v36,())) else
some (v0,v1,x1,x2,v4,v5,v6,v7,v8,v9,v10,v11,v12,v13,v14,v15,v16,v17,v18,v19,v20,v21,v22,v23,v24,v25,v26,v27,v28,v29,v30,v31,v32,v33,v34,v35,v36,()):Option (T3n)).bind fun(x0,x1,x2,x3,x4,x5,x6,x7,x8,x9,ac,ae,af,ag,ah,ai,aj,ak,am,an,ap,aq,av,ax,ay,az,aA,aB,aD,aE,aF,aG,aH,aI,aJ,aK,aL,_)=>
let aM:=(w64 (x1+1));
some (.inl (x0,aM,x2,x3,x4,x5,x6,x7,x8,x9,ac,ae,af,ag,ah,ai,aj,ak,am,an,ap,aq,av,ax,ay,az,aA,aB,aD,aE,aF,aG,aH,aI,aJ,aK,aL,()))) else
some (.inr (v0,v1,false,v2,v3,v4,v5,v6,v7,v8,v9,v10,v11,v12,v13,v14,v15,v16,v17,v18,v19,v20,v21,v22,v23,v24,v25,v26,v27,v28,v29,v30,v31,v32,v33,v34,v35,v36,()))
def nh:T3C→Option (T3C⊕(Int×Int×Int×T3u)):=fun(v0,v1,v2,v3,v4,v5,v6,v7,v8,v9,v10,v11,v12,v13,v14,v15,v16,v17,v18,v19,v20,v21,v22,v23,v24,v25,v26,v27,v28,v29,v30,v31,v32,v33,v34,v35,v36,v37,v38,v39,_)=>
bif (decide (v4 < v3)) then (((dG 3 v5 v6).bind fun(x0,x1,x2,_)=>
bif (x0==0) then ((dT v0).bind fun x3=>
(dF v39 x3).bind fun x4=>
(dF v39 x3).bind fun x5=>
(kQ v16 x1 x2).bind fun(x6,x7,x8,x9,ac,ae,_)=>
(dT v4).bind fun af=>
(dF v39 x3).bind fun ag=>
(dF ag.2.2.2.2.2.2.2 af).bind fun ah=>
(dF v39 x3).bind fun ai=>
(dF ai.2.2.2.2.2.2.2 af).bind fun aj=>
let ak:=(List.modify v39 x3 fun e=>(e.1,(e.2.1,(e.2.2.1,(e.2.2.2.1,(e.2.2.2.2.1,(e.2.2.2.2.2.1,(e.2.2.2.2.2.2.1,(List.modify e.2.2.2.2.2.2.2 af fun e=>(x6,(x7,(x8,x9))))))))))));
some (v0,v1,v2,v3,v4,ac,ae,v7,v8,v9,v10,v11,v12,v13,v14,v15,v16,v17,v18,v19,v20,v21,v22,v23,v24,v25,v26,v27,v28,v29,v30,v31,v32,v33,v34,v35,v36,v37,v38,ak,())) else
some (v0,v1,v2,v3,v4,x1,x2,v7,v8,v9,v10,v11,v12,v13,v14,v15,v16,v17,v18,v19,v20,v21,v22,v23,v24,v25,v26,v27,v28,v29,v30,v31,v32,v33,v34,v35,v36,v37,v38,v39,()):Option (T3C)).bind fun(x0,x1,x2,x3,x4,x5,x6,x7,x8,x9,ac,ae,af,ag,ah,ai,aj,ak,am,an,ap,aq,av,ax,ay,az,aA,aB,aD,aE,aF,aG,aH,aI,aJ,aK,aL,aM,aO,aP,_)=>
let aQ:=(w64 (x4+1));
some (.inl (x0,x1,x2,x3,aQ,x5,x6,x7,x8,x9,ac,ae,af,ag,ah,ai,aj,ak,am,an,ap,aq,av,ax,ay,az,aA,aB,aD,aE,aF,aG,aH,aI,aJ,aK,aL,aM,aO,aP,()))) else
some (.inr (v0,v1,v2,v3,v4,false,v5,v6,v7,v8,v9,v10,v11,v12,v13,v14,v15,v16,v17,v18,v19,v20,v21,v22,v23,v24,v25,v26,v27,v28,v29,v30,v31,v32,v33,v34,v35,v36,v37,v38,v39,()))
def j0:T3n→Option (T3n⊕T3u):=fun(v0,v1,v2,v3,v4,v5,v6,v7,v8,v9,v10,v11,v12,v13,v14,v15,v16,v17,v18,v19,v20,v21,v22,v23,v24,v25,v26,v27,v28,v29,v30,v31,v32,v33,v34,v35,v36,_)=>
bif (decide (v1 < v0)) then (((dT v1).bind fun x0=>
(dF v36 x0).bind fun x1=>
(dF v36 x0).bind fun x2=>
(dF v36 x0).bind fun x3=>
let x4:=(dI (List.length x3.2.2.2.2.2.2.2));
(dO nh NN (v1,v0,v1,x4,0,v2,v3,v4,v5,v6,v7,v8,v9,v10,v11,v12,v13,v14,v15,v16,v17,v18,v19,v20,v21,v22,v23,v24,v25,v26,v27,v28,v29,v30,v31,v32,v33,v34,v35,v36,())).bind fun(x5,x6,x7,x8,x9,ac,ae,af,ag,ah,ai,aj,ak,am,an,ap,aq,av,ax,ay,az,aA,aB,aD,aE,aF,aG,aH,aI,aJ,aK,aL,aM,aO,aP,aQ,aR,aS,aT,aU,aV,_)=>
(dG 4 ae af).bind fun(aW,aY,aZ,_)=>
bif (aW==0) then ((dG 5 aY aZ).bind fun(ba,bc,bd,_)=>
(dT x5).bind fun be=>
(dF aV be).bind fun bf=>
(dF aV be).bind fun bg=>
let bh:=(List.modify aV be fun e=>(ba,e.2));
some (x6,x7,bc,bd,ag,ah,ai,aj,ak,am,an,ap,aq,av,ax,ay,az,aA,aB,aD,aE,aF,aG,aH,aI,aJ,aK,aL,aM,aO,aP,aQ,aR,aS,aT,aU,bh,())) else
some (x6,x7,aY,aZ,ag,ah,ai,aj,ak,am,an,ap,aq,av,ax,ay,az,aA,aB,aD,aE,aF,aG,aH,aI,aJ,aK,aL,aM,aO,aP,aQ,aR,aS,aT,aU,aV,()):Option (T3n)).bind fun(x0,x1,x2,x3,x4,x5,x6,x7,x8,x9,ac,ae,af,ag,ah,ai,aj,ak,am,an,ap,aq,av,ax,ay,az,aA,aB,aD,aE,aF,aG,aH,aI,aJ,aK,aL,_)=>
let aM:=(w64 (x1+1));
some (.inl (x0,aM,x2,x3,x4,x5,x6,x7,x8,x9,ac,ae,af,ag,ah,ai,aj,ak,am,an,ap,aq,av,ax,ay,az,aA,aB,aD,aE,aF,aG,aH,aI,aJ,aK,aL,()))) else
some (.inr (v0,v1,false,v2,v3,v4,v5,v6,v7,v8,v9,v10,v11,v12,v13,v14,v15,v16,v17,v18,v19,v20,v21,v22,v23,v24,v25,v26,v27,v28,v29,v30,v31,v32,v33,v34,v35,v36,()))
def iG(a0:List (Int)) (a1:Int):Option (LDIn×LI×LLI×LI×Int×LDCe×LDLn×LDTh×T06):=
(pO a0 a1).bind fun(x0,x1,x2,x3,x4,x5,x6,x7,x8,x9,ac,ae,af,ag,ah,ai,aj,ak,am,an,_)=>
(match ((dG 3 am an).bind fun(ap,aq,av,_)=>
bif (ap==0) then ((lj x0 x1 x2 x3 x4 x5 x6 x7).bind fun(ax,ay,_)=>
(dF ax 0).bind fun az=>
(dF ax 0).bind fun aA=>
(dF ax 0).bind fun aB=>
let aD:=(dI (List.length aB));
(dO j3 NN (aD,0,aq,av,(),(),(),(),0,(),(),(),x0,x1,x2,x3,x4,x5,x6,x7,x8,x9,ac,ae,af,ag,ah,ai,aj,ak,x3,x4,x5,x6,x7,ax,ay,())).bind fun(aE,aF,aG,aH,aI,aJ,aK,aL,aM,aO,aP,aQ,aR,aS,aT,aU,aV,aW,aY,aZ,ba,bc,bd,be,bf,bg,bh,bi,bj,bk,bl,bm,bn,bo,bp,bq,bt,bv,_)=>
let bx:=(dI (List.length bv));
(dO j0 NN (bx,0,aH,aI,aJ,aK,aL,aM,aO,aP,aQ,aR,aS,aT,aU,aV,aW,aY,aZ,ba,bc,bd,be,bf,bg,bh,bi,bj,bk,bl,bm,bn,bo,bp,bq,bt,bv,())).bind fun(bA,bB,bC,bD,bE,bF,bG,bH,bI,bJ,bK,bL,bM,bN,bO,bP,bQ,bR,bS,bT,bU,bV,bW,bY,bZ,b8,b9,ca,cd,cf,cg,ch,ci,cj,cl,cn,cq,cr,_)=>
(kj bN bO bP ch ci cq cr).bind fun(cu,cw,cx,cy,cz,cD,_)=>
bif cD then (some (.inl (bD,bE,bF,bG,bH,bI,bJ,bK,bL,bM,bN,bO,bP,bQ,bR,bS,bT,bU,bV,bW,bY,bZ,b8,b9,ca,cd,cf,cg,cu,cw,cx,cy,cz,()))) else
some (.inr (bD,bE,bF,bG,bH,bI,bJ,bK,bL,bM,bN,bO,bP,bQ,bR,bS,bT,bU,bV,bW,bY,bZ,b8,b9,ca,cd,cf,cg,ch,ci,cj,cl,cn,()))) else
some (.inr (aq,av,(),(),(),(),0,(),(),(),x0,x1,x2,x3,x4,x5,x6,x7,x8,x9,ac,ae,af,ag,ah,ai,aj,ak,x3,x4,x5,x6,x7,())):Option (T3g⊕T3g)) with
| none=>none
| some (.inl (ap,aq,av,ax,ay,az,aA,aB,aD,aE,aF,aG,aH,aI,aJ,aK,aL,aM,aO,aP,aQ,aR,aS,aT,aU,aV,aW,aY,aZ,ba,bc,bd,be,_))=>
some (aF,aG,aH,aZ,ba,bc,bd,be,ap,aq,())
| some (.inr (ap,aq,av,ax,ay,az,aA,aB,aD,aE,aF,aG,aH,aI,aJ,aK,aL,aM,aO,aP,aQ,aR,aS,aT,aU,aV,aW,aY,aZ,ba,bc,bd,be,_))=>
some (aF,aG,aH,aZ,ba,bc,bd,be,ap,aq,()))
noncomputable def xw:X.Cfg:=⟨E0,[ym,eZ,rW,uh,qx],[],[⟨11,0,qE,[(.normal,(qS [(pP 0 2),(pP 2 6),(pP 3 8),(pP 4 10),(pP 5 12),(pP 6 14),(sP 27 I64),(sP 28 I64)] [(2,(uL [RI,I64])),(6,(uL [N1,N1,N1])),(8,(uL [N1,CW,N1,N1,N1])),(10,(uL [eU,RI,(.row false RW),RI,CW,eG,eS,fB,RW,RW,(.row false RW),(.row false dY),gh,iD,RI,(.row false RI),ER,RI])),(12,(uL [RI,CW,eG,eS,fB])),(14,(uL [(.row true (.row true KCn)),(.row true EU)]))]))]⟩,(lx 8 1 [(pP 0 2),(pP 2 6),(pP 3 8),(pP 4 10),(pP 5 12),(pP 6 14),(sP 27 I64),(sP 28 I64)] [(2,(uL [RI,I64])),(6,(uL [N1,N1,N1])),(8,(uL [N1,CW,N1,N1,N1])),(10,(uL [eU,RI,(.row false RW),RI,CW,eG,eS,fB,RW,RW,(.row false RW),(.row false dY),gh,iD,RI,(.row false RI),ER,RI])),(12,(uL [RI,CW,eG,eS,fB])),(14,(uL [(.row true (.row true KCn)),(.row true EU)]))] 29),⟨26,2,qE,[(.normal,(qS [(pP 0 2),(pP 2 6),(pP 3 8),(pP 4 10),(pP 5 12),(pP 6 14),(sP 8 I64),(sP 48 I64),(sP 49 I64),(sP 58 I64),(sP 59 I64)] [(2,(uL [RI,I64])),(6,(uL [N1,N1,N1])),(8,(uL [N1,CW,N1,N1,N1])),(10,(uL [eU,RI,(.row false RW),RI,CW,eG,eS,fB,RW,RW,(.row false RW),(.row false dY),gh,iD,RI,(.row false RI),ER,RI])),(12,(uL [RI,CW,eG,eS,fB])),(14,(uL [(.row true (.row true KCn)),(.row true EU)]))]))]⟩,⟨23,3,(qS [(pP 0 2),(pP 2 6),(pP 3 8),(pP 4 10),(pP 5 12),(pP 6 14),(sP 8 I64),(sP 48 I64),(sP 49 I64),(sP 58 I64),(sP 59 I64)] [(2,(uL [RI,I64])),(6,(uL [N1,N1,N1])),(8,(uL [N1,CW,N1,N1,N1])),(10,(uL [eU,RI,(.row false RW),RI,CW,eG,eS,fB,RW,RW,(.row false RW),(.row false dY),gh,iD,RI,(.row false RI),ER,RI])),(12,(uL [RI,CW,eG,eS,fB])),(14,(uL [(.row true (.row true KCn)),(.row true EU)]))]),[(.exit 4,(qS [(pP 0 2),(pP 2 6),(pP 3 8),(pP 4 10),(pP 5 12),(pP 6 14),(sP 8 I64),(sP 48 I64),(sP 49 I64),(sP 58 I64),(sP 59 I64),(sP 60 .bool)] [(2,(uL [RI,I64])),(6,(uL [N1,N1,N1])),(8,(uL [N1,CW,N1,N1,N1])),(10,(uL [eU,RI,(.row false RW),RI,CW,eG,eS,fB,RW,RW,(.row false RW),(.row false dY),gh,iD,RI,(.row false RI),ER,RI])),(12,(uL [RI,CW,eG,eS,fB])),(14,(uL [(.row true (.row true KCn)),(.row true EU)]))]))]⟩,⟨19,4,qE,[(.normal,(qS [(pP 0 2),(pP 2 6),(pP 3 8),(pP 4 10),(pP 5 12),(pP 6 14),(sP 48 I64),(sP 49 I64)] [(2,(uL [RI,I64])),(6,(uL [N1,N1,N1])),(8,(uL [N1,CW,N1,N1,N1])),(10,(uL [eU,RI,(.row false RW),RI,CW,eG,eS,fB,RW,RW,(.row false RW),(.row false dY),gh,iD,RI,(.row false RI),ER,RI])),(12,(uL [RI,CW,eG,eS,fB])),(14,(uL [(.row true (.row true KCn)),(.row true EU)]))]))]⟩,⟨16,5,(qS [(pP 0 2),(pP 2 6),(pP 3 8),(pP 4 10),(pP 5 12),(pP 6 14),(sP 48 I64),(sP 49 I64)] [(2,(uL [RI,I64])),(6,(uL [N1,N1,N1])),(8,(uL [N1,CW,N1,N1,N1])),(10,(uL [eU,RI,(.row false RW),RI,CW,eG,eS,fB,RW,RW,(.row false RW),(.row false dY),gh,iD,RI,(.row false RI),ER,RI])),(12,(uL [RI,CW,eG,eS,fB])),(14,(uL [(.row true (.row true KCn)),(.row true EU)]))]),[(.exit 2,(qS [(pP 0 2),(pP 2 6),(pP 3 8),(pP 4 10),(pP 5 12),(pP 6 14),(sP 48 I64),(sP 49 I64),(sP 50 .bool)] [(2,(uL [RI,I64])),(6,(uL [N1,N1,N1])),(8,(uL [N1,CW,N1,N1,N1])),(10,(uL [eU,RI,(.row false RW),RI,CW,eG,eS,fB,RW,RW,(.row false RW),(.row false dY),gh,iD,RI,(.row false RI),ER,RI])),(12,(uL [RI,CW,eG,eS,fB])),(14,(uL [(.row true (.row true KCn)),(.row true EU)]))]))]⟩,⟨3,6,qE,[(.normal,(qS [(pP 0 2),(pP 2 6),(pP 3 8),(pP 4 10),(pP 5 12)] [(2,(uL [RI,I64])),(6,(uL [N1,N1,N1])),(8,(uL [N1,CW,N1,N1,N1])),(10,(uL [eU,RI,(.row false RW),RI,CW,eG,eS,fB,RW,RW,(.row false RW),(.row false dY),gh,iD,RI,(.row false RI),ER,RI])),(12,(uL [RI,CW,(.row true KCe),iC,oD]))])),(.normal,(qS [(pP 0 2),(pP 2 6),(pP 3 8),(pP 4 10),(pP 5 12)] [(2,(uL [RI,I64])),(6,(uL [N1,N1,N1])),(8,(uL [N1,CW,N1,N1,N1])),(10,(uL [eU,RI,(.row false RW),RI,CW,eG,eS,fB,RW,RW,(.row false RW),(.row false dY),gh,iD,RI,(.row false RI),ER,RI])),(12,(uL [RI,CW,eG,eS,fB]))]))]⟩]⟩
def m8:Ctr:=⟨8,117,[.ptr ⟨2,0,[]⟩ [0]],[(2,(uL [RI,I64]))],[⟨(uL [eU,RI,(.row false RW),RI,CW,eG,eS,fB]),[.agg 3,.agg 5],[(2,(uL [RI,I64]))]⟩],ap2 iG⟩
theorem qn:Lk 10 m8:=ls (C:=xw) rfl (aC FH (aC fi (aC yU (aC Bp (aC wP aN))))) (by kernel_rfl) fun h=>by kernel_rfl
def j4(a0:List (Int)) (a1:Int):Option (T0u):=
let x0:List (Int):=[0,0,0,1,2];
(dG 5 a0 a1).bind fun(x1,x2,x3,_)=>
(dT x1).bind fun x4=>
(dF x0 x4).bind fun x5=>
(dF x0 x4).bind fun x6=>
let x7:=(wk .u8 x6);
(gv x2 x3).bind fun(x8,x9,ac,_)=>
some (x7,x8,x9,ac,())
noncomputable def Du:X.Cfg:=⟨E0,[eZ,j9],[],[]⟩
def q9:Ctr:=⟨10,118,[.ptr ⟨2,0,[]⟩ [0]],[(2,(uL [RI,I64]))],[⟨(uL [CB,CW]),[.agg 2],[(2,(uL [RI,I64]))]⟩],ap2 j4⟩
theorem vt:Lk 5 q9:=ls (C:=Du) rfl (aC fi (aC mg aN)) (by kernel_rfl) fun h=>by kernel_rfl
def kG(a0:Int) (a1:Int):Option (Bool×Unit):=
some ((decide (a0≤2)),())
noncomputable def Br:X.Cfg:=⟨E0,[],[],[]⟩
def pd:Ctr:=⟨32,119,[.agg (uL [CB,CW])],[],[⟨(uL [.bool]),[.one],[]⟩],ap2 kG⟩
theorem tA:Lk 1 pd:=ls (C:=Br) rfl aN (by kernel_rfl) fun h=>by kernel_rfl
def fh(a0:Int):Option (Bool×Unit):=
bif (decide (a0 < 0)) then (some (true,())) else
some ((decide (a0≥512)),())
noncomputable def uq:X.Cfg:=⟨E0,[],[],[]⟩
def la:Ctr:=⟨33,120,(uL [I64]),[],[⟨(uL [.bool]),[.one],[]⟩],ap1 fh⟩
theorem oB:Lk 1 la:=ls (C:=uq) rfl aN (by kernel_rfl) fun h=>by kernel_rfl
def fC(a0:LDCe):Option (LDCe×Unit):=
bif (dU 4 0 (List.length a0)) then let x0:LDCe:=(List.append [] a0);
some (x0,()) else none
noncomputable def qV:X.Cfg:=⟨E0,[],[],[]⟩
def mp:Ctr:=⟨65,121,(uL [eG]),[],[⟨(uL [(.row true KCe)]),[.one],[]⟩],ap1 fC⟩
theorem qR:Lk 1 mp:=ls (C:=qV) rfl aN (by kernel_rfl) fun h=>by kernel_rfl
def gl(a0:LDLn):Option (LDLn×Unit):=
bif (dU 40 0 (List.length a0)) then let x0:LDLn:=(List.append [] a0);
some (x0,()) else none
noncomputable def qU:X.Cfg:=⟨E0,[],[(5,L3),(7,L3)],[]⟩
def mo:Ctr:=⟨66,122,(uL [eS]),[],[⟨(uL [(.row true KA)]),[.one],[]⟩],ap1 gl⟩
theorem qQ:Lk 1 mo:=ls (C:=qU) rfl aN (by kernel_rfl) fun h=>by kernel_rfl
def iZ:Int×T0N→Option ((Int×T0N)⊕(Int×Int×Bool×T0E)):=fun(v0,v1,v2,v3,v4,v5,_)=>
bif (decide (v1 < v0)) then ((dT v1).bind fun x0=>
(dF v5 x0).bind fun x1=>
(dF v5 x0).bind fun x2=>
(fC x2.2.2).bind fun(x3,_)=>
(dT v1).bind fun x4=>
(dF v5 x4).bind fun x5=>
(dF v5 x4).bind fun x6=>
let x7:=(List.modify v5 x4 fun e=>(e.1,(e.2.1,x3)));
let x8:=(w64 (v1+1));
some (.inl (v0,x8,v2,v3,v4,x7,()))) else
some (.inr (v0,v1,false,v2,v3,v4,v5,()))
def lB(a0:LDCe) (a1:LDLn):Option (T04):=
(fC a0).bind fun(x0,_)=>
(gl a1).bind fun(x1,_)=>
let x2:=(dI (List.length x1));
(dO iZ NN (x2,0,(),(),x0,x1,())).bind fun(x3,x4,x5,x6,x7,x8,x9,_)=>
some (x8,x9,())
noncomputable def Ac:X.Cfg:=⟨E0,[mp,mo],[],[(lx 4 0 [(pP 2 6),(pP 3 8),(14,.pk ⟨8,1,[]⟩ [0,0]),(sP 15 I64),(sP 16 I64)] [(6,(uL [N1,N1])),(8,(uL [(.row true KCe),(.row true KA)]))] 17)]⟩
def si:Ctr:=⟨34,123,[.agg (uL [eG,eS])],[],[⟨(uL [(.row true KCe),(.row true KA)]),[.agg 2],[]⟩],ap2 lB⟩
theorem zi:Lk 2 si:=ls (C:=Ac) rfl (aC qR (aC qQ aN)) (by kernel_rfl) fun h=>by kernel_rfl
def fr(a0:LDCe) (a1:LDLn) (a2:Int) (a3:Int) (a4:Int):Option (T0j):=
(kG a3 a4).bind fun(x0,_)=>
bif (!x0) then (some ([],[],1,())) else
(fh a2).bind fun(x1,_)=>
bif x1 then (some ([],[],6,())) else
let x2:=(dI (List.length a0));
bif (decide (a2≥x2)) then (some ([],[],6,())) else
(lB a0 a1).bind fun(x3,x4,_)=>
(dT a2).bind fun x5=>
(dF x3 x5).bind fun x6=>
(dF x3 x5).bind fun x7=>
let x8:=(List.modify x3 x5 fun e=>(a3,a4));
some (x8,x4,0,())
noncomputable def z0:X.Cfg:=⟨E0,[pd,la,si],[],[]⟩
def oj:Ctr:=⟨11,124,[.agg (uL [eG,eS]),shU I64,.agg (uL [CB,CW])],[],[⟨(uL [(.row true KCe),(.row true KA),I64]),[.agg 2,.one],[]⟩],ap5 fr⟩
theorem rF:Lk 3 oj:=ls (C:=z0) rfl (aC tA (aC oB (aC zi aN))) (by kernel_rfl) fun h=>by kernel_rfl
def hJ(a0:LDCe) (a1:LDLn) (a2:Int) (a3:Int) (a4:Int):Option (T0j):=
(fQ a3 a4).bind fun(x0,_)=>
bif (!x0) then (some ([],[],1,())) else
bif (decide (a2 < 0)) then (some ([],[],6,())) else
bif (decide (a2≥512)) then (some ([],[],6,())) else
(kO a0 a1).bind fun(x1,x2,_)=>
(dT a2).bind fun x3=>
(dF x1 x3).bind fun x4=>
(dF x1 x3).bind fun x5=>
let x6:=(List.modify x1 x3 fun e=>(a3,a4));
some (x6,x2,0,())
noncomputable def BV:X.Cfg:=⟨E0,[lQ,pC],[],[]⟩
def ua:Ctr:=⟨12,125,[.agg (uL [eG,eS]),shU I64,.agg (uL [CB,CW])],[],[⟨(uL [(.row true KCe),iC,I64]),[.agg 2,.one],[]⟩],ap5 hJ⟩
theorem Bi:Lk 2 ua:=ls (C:=BV) rfl (aC n5 (aC tK aN)) (by kernel_rfl) fun h=>by kernel_rfl
def jE:LDCe×T0i→Option ((LDCe×T0i)⊕((Bool×Unit)⊕(LDCe×T0x))):=fun(v0,v1,v2,v3,_)=>
bif (decide (v3 < v2)) then ((dT v3).bind fun x0=>
(dF v0 x0).bind fun x1=>
(dT v3).bind fun x2=>
(dF v1 x2).bind fun x3=>
bif (!((x1.1==x3.1) && ((x1.2==x3.2) && true))) then (some (.inr (.inl (false,())))) else
let x4:=(w64 (v3+1));
some (.inl (v0,v1,v2,x4,()))) else
some (.inr (.inr (v0,v1,v2,v3,false,())))
def kP(a0:LDCe) (a1:LDCe):Option (Bool×Unit):=
let x0:=(dI (List.length a0));
let x1:=(dI (List.length a1));
bif (x0 != x1) then (some (false,())) else
let x2:=(dI (List.length a0));
(match dO jE NN (a0,a1,x2,0,()) with
| none=>none
| some (.inl (x3,_))=>
some (x3,())
| some (.inr (x3,x4,x5,x6,x7,_))=>
some (true,()))
noncomputable def B2:X.Cfg:=⟨E0,[],[],[⟨6,0,(qS [(sP 0 eG),(sP 1 eG),(sP 12 I64),(sP 13 I64)] []),[(.ret,(qS [(sP 4 .bool)] [])),(.exit 0,(qS [(sP 0 eG),(sP 1 eG),(sP 12 I64),(sP 13 I64),(sP 14 .bool)] []))]⟩]⟩
def ue:Ctr:=⟨37,126,(uL [eG,eG]),[],[⟨(uL [.bool]),[.one],[]⟩],ap2 kP⟩
theorem Bm:Lk 1 ue:=ls (C:=B2) rfl aN (by kernel_rfl) fun h=>by kernel_rfl
def jC:Int×Int×T0y→Option ((Int×Int×T0y)⊕((Bool×Unit)⊕T1i)):=fun(v0,v1,v2,v3,v4,v5,_)=>
bif (decide (v1 < v0)) then ((dT v1).bind fun x0=>
(dF v3 x0).bind fun x1=>
(dT v1).bind fun x2=>
(dF v5 x2).bind fun x3=>
(bif (x1.1 != x3.1) then (some (v0,v1,true,v2,v3,v4,v5,())) else
bif (!(x1.2.1==x3.2.1)) then (some (v0,v1,true,v2,v3,v4,v5,())) else
(kP x1.2.2 x3.2.2).bind fun(x4,_)=>
some (v0,v1,(!x4),v2,v3,v4,v5,()):Option (T1i)).bind fun(x4,x5,x6,x7,x8,x9,ac,_)=>
bif x6 then (some (.inr (.inl (false,())))) else
let ae:=(w64 (x5+1));
some (.inl (x4,ae,x7,x8,x9,ac,()))) else
some (.inr (.inr (v0,v1,false,v2,v3,v4,v5,())))
def kN(a0:LDCe) (a1:LDLn) (a2:LDCe) (a3:LDLn):Option (Bool×Unit):=
(kP a0 a2).bind fun(x0,_)=>
bif (!x0) then (some (false,())) else
let x1:=(dI (List.length a1));
let x2:=(dI (List.length a3));
bif (x1 != x2) then (some (false,())) else
let x3:=(dI (List.length a1));
(match dO jC NN (x3,0,a0,a1,a2,a3,()) with
| none=>none
| some (.inl (x4,_))=>
some (x4,())
| some (.inr (x4,x5,x6,x7,x8,x9,ac,_))=>
some (true,()))
noncomputable def BU:X.Cfg:=⟨E0,[ue],[],[⟨12,0,qE,[(.normal,(qS [(pP 2 6),(pP 3 8),(sP 25 I64),(sP 26 I64),(sP 58 .bool)] [(6,(uL [eG,eS])),(8,(uL [eG,eS]))]))]⟩,⟨6,1,(qS [(pP 2 6),(pP 3 8),(sP 25 I64),(sP 26 I64)] [(6,(uL [eG,eS])),(8,(uL [eG,eS]))]),[(.ret,(qS [(sP 4 .bool)] [])),(.exit 0,(qS [(pP 2 6),(pP 3 8),(sP 25 I64),(sP 26 I64),(sP 27 .bool)] [(6,(uL [eG,eS])),(8,(uL [eG,eS]))]))]⟩]⟩
def t9:Ctr:=⟨13,127,[.agg (uL [eG,eS]),.agg (uL [eG,eS])],[],[⟨(uL [.bool]),[.one],[]⟩],ap4 kN⟩
theorem Bh:Lk 2 t9:=ls (C:=BU) rfl (aC Bm aN) (by kernel_rfl) fun h=>by kernel_rfl
def ft(a0:LDCe) (a1:LDLn) (a2:Int):Option (T0e):=
(fh a2).bind fun(x0,_)=>
bif x0 then (some (0,0,6,())) else
let x1:=(dI (List.length a0));
bif (decide (a2≥x1)) then (some (0,0,6,())) else
(dT a2).bind fun x2=>
(dF a0 x2).bind fun x3=>
some (x3.1,x3.2,0,())
noncomputable def Aa:X.Cfg:=⟨E0,[la],[],[]⟩
def lR:Ctr:=⟨14,128,[.agg (uL [eG,eS]),shU I64],[],[⟨(uL [CB,CW,I64]),[.agg 2,.one],[]⟩],ap3 ft⟩
theorem n6:Lk 2 lR:=ls (C:=Aa) rfl (aC oB aN) (by kernel_rfl) fun h=>by kernel_rfl
def hU(a0:LDCe) (a1:LDLn) (a2:Int):Option (T0e):=
bif (decide (a2 < 0)) then (some (0,0,6,())) else
bif (decide (a2≥512)) then (some (0,0,6,())) else
(dT a2).bind fun x0=>
(dF a0 x0).bind fun x1=>
some (x1.1,x1.2,0,())
noncomputable def BW:X.Cfg:=⟨E0,[],[],[]⟩
def ub:Ctr:=⟨15,129,[.agg (uL [eG,eS]),shU I64],[],[⟨(uL [CB,CW,I64]),[.agg 2,.one],[]⟩],ap3 hU⟩
theorem Bj:Lk 1 ub:=ls (C:=BW) rfl aN (by kernel_rfl) fun h=>by kernel_rfl
def sB:T0C→Option (T0C⊕((Bool×Unit)⊕(LI×T0A))):=fun(v0,v1,v2,v3,_)=>
bif (decide (v3 < v2)) then ((dT v3).bind fun x0=>
(dF v1 x0).bind fun x1=>
bif (decide (x1 < 1)) then (some (.inr (.inl (false,())))) else
bif (decide (x1 > 32)) then (some (.inr (.inl (false,())))) else
let x2:=(w64 (v3+1));
some (.inl (v0,v1,v2,x2,()))) else
some (.inr (.inr (v0,v1,v2,v3,false,())))
def qd(a0:List (Int)):Option (Bool×Unit):=
let x0:=(dI (List.length a0));
(match dO sB NN (a0,a0,x0,0,()) with
| none=>none
| some (.inl (x1,_))=>
some (x1,())
| some (.inr (x1,x2,x3,x4,x5,_))=>
let x6:=(dI (List.length x1));
bif (decide (x6≥1)) then (let x7:Int:=(dI (List.length x1));
some ((decide (x7≤4)),())) else
some (false,()))
noncomputable def wZ:X.Cfg:=⟨E0,[],[],[⟨3,0,(qS [(sP 0 RI),(sP 5 RI),(sP 6 I64),(sP 7 I64)] []),[(.ret,(qS [(sP 2 .bool)] [])),(.exit 0,(qS [(sP 0 RI),(sP 5 RI),(sP 6 I64),(sP 7 I64),(sP 8 .bool)] []))]⟩]⟩
def qr:Ctr:=⟨108,130,(uL [RI]),[],[⟨(uL [.bool]),[.one],[]⟩],ap1 qd⟩
theorem wK:Lk 1 qr:=ls (C:=wZ) rfl aN (by kernel_rfl) fun h=>by kernel_rfl
def sF:T28→Option (T28⊕((Bool×Unit)⊕T2i)):=fun(v0,v1,v2,v3,v4,v5,v6,v7,v8,v9,_)=>
bif (decide (v7 < v6)) then ((match ((dT v7).bind fun x0=>
(dF v8 x0).bind fun x1=>
(dT v7).bind fun x2=>
(dF v0 x2).bind fun x3=>
let x4:=(w64 (x1+x3));
bif (decide (v2≤x4)) then ((dT v7).bind fun x5=>
(dF v8 x5).bind fun x6=>
(dT v1).bind fun x7=>
(dF v0 x7).bind fun x8=>
let x9:=(w64 (v2+x8));
bif (decide (x6≤x9)) then (some (.inl (false,()))) else
some (.inr (v0,v1,v2,v3,v4,v5,v6,v7,false,v8,v9,()))) else
some (.inr (v0,v1,v2,v3,v4,v5,v6,v7,false,v8,v9,())):Option ((Bool×Unit)⊕T2i)) with
| none=>none
| some (.inl (x0,_))=>
some (.inr (.inl (x0,())))
| some (.inr (x0,x1,x2,x3,x4,x5,x6,x7,x8,x9,ac,_))=>
let ae:=(w64 (x7+1));
some (.inl (x0,x1,x2,x3,x4,x5,x6,ae,x9,ac,())))) else
some (.inr (.inr (v0,v1,v2,v3,v4,v5,v6,v7,false,v8,v9,())))
def sE:T1d→Option (T1d⊕((Bool×Unit)⊕(LI×T1b))):=fun(v0,v1,v2,v3,v4,v5,_)=>
bif (decide (v3 < v2)) then ((dT v3).bind fun x0=>
(dF v1 x0).bind fun x1=>
(bif (decide (x1 < 0)) then (some (v0,v3,x1,v1,v2,v3,true,v4,v5,())) else
bif (decide (x1≥512)) then (some (v0,v3,x1,v1,v2,v3,true,v4,v5,())) else
(dT v3).bind fun x2=>
(dF v0 x2).bind fun x3=>
let x4:=(w64 (x1+x3));
some (v0,v3,x1,v1,v2,v3,(decide (x4 > 512)),v4,v5,()):Option (T1T)).bind fun(x2,x3,x4,x5,x6,x7,x8,x9,ac,_)=>
bif x8 then (some (.inr (.inl (false,())))) else
(match dO sF NN (x2,x3,x4,x5,x6,x7,x3,0,x9,ac,()) with
| none=>none
| some (.inl (ae,_))=>
some (.inr (.inl (ae,())))
| some (.inr (ae,af,ag,ah,ai,aj,ak,am,an,ap,aq,_))=>
let av:=(w64 (aj+1));
some (.inl (ae,ah,ai,av,ap,aq,())))) else
some (.inr (.inr (v0,v1,v2,v3,false,v4,v5,())))
def qj(a0:List (Int)) (a1:Int) (a2:List (Int)):Option (Bool×Unit):=
(qd a2).bind fun(x0,_)=>
bif (!x0) then (some (false,())) else
let x1:=(dI (List.length a0));
let x2:=(dI (List.length a2));
bif (x1 != x2) then (some (false,())) else
let x3:=(dI (List.length a0));
(match dO sE NN (a2,a0,x3,0,a0,a1,()) with
| none=>none
| some (.inl (x4,_))=>
some (x4,())
| some (.inr (x4,x5,x6,x7,x8,x9,ac,_))=>
some (true,()))
noncomputable def xr:X.Cfg:=⟨E0,[qr],[],[⟨12,0,qE,[(.normal,(qS [(sP 1 RI),(pP 2 6),(sP 5 I64),(sP 6 I64),(sP 20 RI),(sP 21 I64),(sP 22 I64),(sP 41 .bool)] [(6,(uL [RI,CW]))]))]⟩,⟨18,1,qE,[(.ret,(qS [(sP 4 .bool)] [])),(.normal,(qS [(sP 1 RI),(pP 2 6),(sP 5 I64),(sP 6 I64),(sP 20 RI),(sP 21 I64),(sP 22 I64),(sP 42 I64),(sP 43 I64),(sP 71 .bool)] [(6,(uL [RI,CW]))]))]⟩,⟨15,2,(qS [(sP 1 RI),(pP 2 6),(sP 5 I64),(sP 6 I64),(sP 20 RI),(sP 21 I64),(sP 22 I64),(sP 42 I64),(sP 43 I64)] [(6,(uL [RI,CW]))]),[(.ret,(qS [(sP 4 .bool)] [])),(.exit 2,(qS [(sP 1 RI),(pP 2 6),(sP 5 I64),(sP 6 I64),(sP 20 RI),(sP 21 I64),(sP 22 I64),(sP 42 I64),(sP 43 I64),(sP 44 .bool)] [(6,(uL [RI,CW]))]))]⟩,⟨6,3,(qS [(sP 1 RI),(pP 2 6),(sP 20 RI),(sP 21 I64),(sP 22 I64)] [(6,(uL [RI,CW]))]),[(.ret,(qS [(sP 4 .bool)] [])),(.exit 0,(qS [(sP 1 RI),(pP 2 6),(sP 20 RI),(sP 21 I64),(sP 22 I64),(sP 23 .bool)] [(6,(uL [RI,CW]))]))]⟩]⟩
def qD:Ctr:=⟨67,131,[.agg (uL [RI,CW]),shU RI],[],[⟨(uL [.bool]),[.one],[]⟩],ap3 qj⟩
theorem wV:Lk 2 qD:=ls (C:=xr) rfl (aC wK aN) (by kernel_rfl) fun h=>by kernel_rfl
def sD:T0f→Option (T0f⊕(Int×Int×Bool×LDLn×Unit)):=fun(v0,v1,v2,_)=>
bif (decide (v1 < v0)) then ((dT v1).bind fun x0=>
(dF v2 x0).bind fun x1=>
(dF v2 x0).bind fun x2=>
let x3:=(List.modify v2 x0 fun e=>((-1),e.2));
let x4:=(w64 (v1+1));
some (.inl (v0,x4,x3,()))) else
some (.inr (v0,v1,false,v2,()))
def qi:Option (LDLn×Unit):=
bif (qO 4 4 3) then let x0:LDLn:=(List.replicate 4 (0,(false,[])));
let x1:=(dI (List.length x0));
(dO sD NN (x1,0,x0,())).bind fun(x2,x3,x4,x5,_)=>
some (x5,()) else none
noncomputable def xq:X.Cfg:=⟨E0,[],[(3,L3)],[(lx 4 0 [(1,.pk ⟨5,0,[]⟩ [0,0]),(sP 5 I64),(sP 6 I64)] [(5,(uL [iC]))] 7)]⟩
def qC:Ctr:=⟨68,132,[],[],[⟨(uL [iC]),[.one],[]⟩],fun h=>qi⟩
theorem wU:Lk 1 qC:=ls (C:=xq) rfl aN (by kernel_rfl) fun h=>by kernel_rfl
def sA:LI×Int×Int×LDCe×Unit→Option ((LI×Int×Int×LDCe×Unit)⊕(LI×Int×Int×Bool×LDCe×Unit)):=fun(v0,v1,v2,v3,_)=>
bif (decide (v2 < v1)) then ((dT v2).bind fun x0=>
(dF v0 x0).bind fun x1=>
let x2:LDCe:=[(0,x1)];
bif (dU 4 (List.length v3) (List.length x2)) then let x3:LDCe:=(List.append v3 x2);
let x4:=(w64 (v2+1));
some (.inl (v0,v1,x4,x3,())) else none) else
some (.inr (v0,v1,v2,false,v3,()))
def qc(a0:List (Int)):Option (LDCe×Unit):=
let x0:=(dI (List.length a0));
(dO sA NN (a0,x0,0,[],())).bind fun(x1,x2,x3,x4,x5,_)=>
some (x5,())
noncomputable def wY:X.Cfg:=⟨E0,[],[],[(lx 4 0 [(3,.pk ⟨9,0,[]⟩ [0,0]),(sP 6 RW),(sP 7 I64),(sP 8 I64)] [(9,(uL [(.row true KCe)]))] 9)]⟩
def qq:Ctr:=⟨69,133,(uL [RW]),[],[⟨(uL [(.row true KCe)]),[.one],[]⟩],ap1 qc⟩
theorem wJ:Lk 1 qq:=ls (C:=wY) rfl aN (by kernel_rfl) fun h=>by kernel_rfl
def ul:T2u→Option (T2u⊕(T0h⊕T2z)):=fun(v0,v1,v2,v3,v4,v5,v6,v7,v8,v9,v10,v11,_)=>
bif (decide (v2 < v1)) then ((match ((dT v2).bind fun x0=>
(dF v0 x0).bind fun x1=>
let x2:=(dI (List.length x1));
(dT v2).bind fun x3=>
(dF v4 x3).bind fun x4=>
bif (decide (x2 > x4)) then (some (.inl (1,(),(),()))) else
(dT v2).bind fun x5=>
(dF v6 x5).bind fun x6=>
(dT x6).bind fun x7=>
bif (ji x7 (List.length v10) (List.length v10)) then (qc x1).bind fun(x8,_)=>
bif (ji x7 (Nat.add x7 (Nat.min (List.length x8) (Nat.sub (List.length v10) x7))) (List.length v10)) then bif (Nat.blt 0 (Nat.min (List.length x8) (Nat.sub (List.length v10) x7))) then (let x9:LDCe:=(nR v10 x7 (Nat.min (List.length x8) (Nat.sub (List.length v10) x7)) x8);
let ac:=(dI (Nat.min (List.length x8) (Nat.sub (List.length v10) x7)));
some (.inr (v0,v1,v2,v3,v4,v5,v6,v7,v8,v9,x9,v11,()))) else
let x9:=(dI (Nat.min (List.length x8) (Nat.sub (List.length v10) x7)));
some (.inr (v0,v1,v2,v3,v4,v5,v6,v7,v8,v9,v10,v11,())) else none else none:Option (T0h⊕T2u)) with
| none=>none
| some (.inl (x0,x1,x2,_))=>
some (.inr (.inl (x0,x1,x2,())))
| some (.inr (x0,x1,x2,x3,x4,x5,x6,x7,x8,x9,ac,ae,_))=>
let af:=(w64 (x2+1));
some (.inl (x0,x1,af,x3,x4,x5,x6,x7,x8,x9,ac,ae,())))) else
some (.inr (.inr (v0,v1,v2,false,v3,v4,v5,v6,v7,v8,v9,v10,v11,())))
def rj(a0:LDIn) (a1:List (Int)) (a2:List LI) (a3:List (Int)) (a4:Int):Option (T0j):=
(qj a3 a4 a1).bind fun(x0,_)=>
bif (!x0) then (some ([],[],1,())) else
let x1:=(dI (List.length a2));
let x2:=(dI (List.length a1));
bif (x1 != x2) then (some ([],[],1,())) else
bif (qO 512 512 2) then let x3:LDCe:=(List.replicate 512 (0,0));
(qi).bind fun(x4,_)=>
let x5:=(dI (List.length a2));
(match dO ul NN (a2,x5,0,a0,a1,a2,a3,a4,(),(),x3,x4,()) with
| none=>none
| some (.inl (x6,x7,x8,_))=>
some ([],[],x6,())
| some (.inr (x6,x7,x8,x9,ac,ae,af,ag,ah,ai,aj,ak,am,_))=>
some (ak,am,0,())) else none
noncomputable def Ab:X.Cfg:=⟨E0,[qD,qC,qq],[],[⟨10,0,qE,[(.ret,(qS [(pP 4 10),(sP 5 I64)] [(10,(uL [N1,N1]))])),(.normal,(qS [(pP 2 6),(pP 3 8),(pP 4 10),(pP 6 14),(sP 28 (.row false RW)),(sP 29 I64),(sP 30 I64)] [(6,(uL [eU,RI,(.row false RW)])),(8,(uL [RI,CW])),(10,(uL [N1,N1])),(14,(uL [(.row true KCe),iC]))]))]⟩,⟨7,1,(qS [(pP 2 6),(pP 3 8),(pP 4 10),(pP 6 14),(sP 28 (.row false RW)),(sP 29 I64),(sP 30 I64)] [(6,(uL [eU,RI,(.row false RW)])),(8,(uL [RI,CW])),(10,(uL [N1,N1])),(14,(uL [(.row true KCe),iC]))]),[(.ret,(qS [(pP 4 10),(sP 5 I64)] [(10,(uL [N1,N1]))])),(.exit 0,(qS [(pP 2 6),(pP 3 8),(pP 4 10),(pP 6 14),(sP 28 (.row false RW)),(sP 29 I64),(sP 30 I64),(sP 31 .bool)] [(6,(uL [eU,RI,(.row false RW)])),(8,(uL [RI,CW])),(10,(uL [N1,N1])),(14,(uL [(.row true KCe),iC]))]))]⟩]⟩
def sg:Ctr:=⟨38,134,[.agg (uL [eU,RI,(.row false RW)]),.agg (uL [RI,CW])],[],[⟨(uL [(.row true KCe),iC,I64]),[.agg 2,.one],[]⟩],ap5 rj⟩
theorem zh:Lk 3 sg:=ls (C:=Ab) rfl (aC wV (aC wU (aC wJ aN))) (by kernel_rfl) fun h=>by kernel_rfl
def oz(a0:Int) (a1:Int):Option (Bool×Unit):=
(kG a0 a1).bind fun(x0,_)=>
some ((!x0),())
noncomputable def ur:X.Cfg:=⟨E0,[pd],[],[]⟩
def oC:Ctr:=⟨110,135,[.agg (uL [CB,CW])],[],[⟨(uL [.bool]),[.one],[]⟩],ap2 oz⟩
theorem up:Lk 2 oC:=ls (C:=ur) rfl (aC tA aN) (by kernel_rfl) fun h=>by kernel_rfl
def my:T0i→Option (T0i⊕((Int×Unit)⊕T0x)):=fun(v0,v1,v2,_)=>
bif (decide (v2 < v1)) then ((dT v2).bind fun x0=>
(dF v0 x0).bind fun x1=>
(oz x1.1 x1.2).bind fun(x2,_)=>
bif x2 then (some (.inr (.inl (v2,())))) else
let x3:=(w64 (v2+1));
some (.inl (v0,v1,x3,()))) else
some (.inr (.inr (v0,v1,v2,false,())))
def jk(a0:LDCe):Option (Int×Unit):=
let x0:=(dI (List.length a0));
(match dO my NN (a0,x0,0,()) with
| none=>none
| some (.inl (x1,_))=>
some (x1,())
| some (.inr (x1,x2,x3,x4,_))=>
some ((-1),()))
noncomputable def n7:X.Cfg:=⟨E0,[oC],[],[⟨3,0,(qS [(sP 0 eG),(1,.fn 110 []),(sP 7 I64),(sP 8 I64)] []),[(.ret,(qS [(sP 4 I64)] [])),(.exit 0,(qS [(sP 0 eG),(1,.fn 110 []),(sP 7 I64),(sP 8 I64),(sP 9 .bool)] []))]⟩]⟩
def jP:Ctr:=⟨139,136,[shU eG,.fn 110 []],[],[⟨(uL [I64]),[.one],[]⟩],ap1 jk⟩
theorem nT:Lk 3 jP:=ls (C:=n7) rfl (aC up aN) (by kernel_rfl) fun h=>by kernel_rfl
def iu(a0:LDCe):Option (Bool×Unit):=
(jk a0).bind fun(x0,_)=>
some ((decide (x0≥0)),())
noncomputable def mB:X.Cfg:=⟨E0,[jP],[],[]⟩
def iw:Ctr:=⟨109,137,[shU eG,.fn 110 []],[],[⟨(uL [.bool]),[.one],[]⟩],ap1 iu⟩
theorem mA:Lk 4 iw:=ls (C:=mB) rfl (aC nT aN) (by kernel_rfl) fun h=>by kernel_rfl
def mZ(a0:LDCe) (a1:Int):Option (Bool×Unit):=
let x0:=(dI (List.length a0));
bif (x0==a1) then ((iu a0).bind fun(x1,_)=>
some ((!x1),())) else
some (false,())
noncomputable def xo:X.Cfg:=⟨E0,[iw],[],[]⟩
def m7:Ctr:=⟨70,138,(uL [eG,I64]),[],[⟨(uL [.bool]),[.one],[]⟩],ap2 mZ⟩
theorem qm:Lk 5 m7:=ls (C:=xo) rfl (aC mA aN) (by kernel_rfl) fun h=>by kernel_rfl
def ri(a0:Int) (a1:Int) (a2:Bool) (a3:LDCe):Option (Bool×Unit):=
bif (a1==(-1)) then (bif (!a2) then (let x0:Int:=(dI (List.length a3));
some ((x0==0),())) else
some (false,())) else
bif (decide (a1≥0)) then (bif (decide (a1 < 128)) then (let x0:Int:=(Int.tmod a1 4);
bif (x0==a0) then ((mZ a3 4).bind fun(x1,_)=>
some (x1,())) else
some (false,())) else
some (false,())) else
some (false,())
noncomputable def zZ:X.Cfg:=⟨E0,[m7],[],[]⟩
def sf:Ctr:=⟨71,139,[shU I64,.agg (uL [I64,.bool,eG])],[],[⟨(uL [.bool]),[.one],[]⟩],ap4 ri⟩
theorem zg:Lk 6 sf:=ls (C:=zZ) rfl (aC qm aN) (by kernel_rfl) fun h=>by kernel_rfl
def sC:T0R→Option (T0R⊕((Bool×Unit)⊕T1a)):=fun(v0,v1,v2,v3,v4,_)=>
bif (decide (v2 < v1)) then ((dT v2).bind fun x0=>
(dF v0 x0).bind fun x1=>
(ri v2 x1.1 x1.2.1 x1.2.2).bind fun(x2,_)=>
bif (!x2) then (some (.inr (.inl (false,())))) else
let x3:=(w64 (v2+1));
some (.inl (v0,v1,x3,v3,v4,()))) else
some (.inr (.inr (v0,v1,v2,false,v3,v4,())))
def qh(a0:LDCe) (a1:LDLn):Option (Bool×Unit):=
(mZ a0 512).bind fun(x0,_)=>
bif (!x0) then (some (false,())) else
let x1:=(dI (List.length a1));
bif (x1 != 4) then (some (false,())) else
let x2:=(dI (List.length a1));
(match dO sC NN (a1,x2,0,a0,a1,()) with
| none=>none
| some (.inl (x3,_))=>
some (x3,())
| some (.inr (x3,x4,x5,x6,x7,x8,_))=>
some (true,()))
noncomputable def xp:X.Cfg:=⟨E0,[m7,sf],[],[⟨6,0,(qS [(sP 16 eS),(sP 17 I64),(sP 18 I64)] [(4,(uL [eG,eS]))]),[(.ret,(qS [(sP 2 .bool)] [])),(.exit 0,(qS [(sP 16 eS),(sP 17 I64),(sP 18 I64),(sP 19 .bool)] [(4,(uL [eG,eS]))]))]⟩]⟩
def qB:Ctr:=⟨39,140,[.agg (uL [eG,eS])],[],[⟨(uL [.bool]),[.one],[]⟩],ap2 qh⟩
theorem wT:Lk 7 qB:=ls (C:=xp) rfl (aC qm (aC zg aN)) (by kernel_rfl) fun h=>by kernel_rfl
def lC:Option (Bool×Unit):=
let x0:List (Int):=[7,8];
(rj [] [3] [x0] [1] 0).bind fun(x1,x2,x3,_)=>
(ft x1 x2 2).bind fun(x4,x5,x6,_)=>
bif (x3==0) then (bif (x6==0) then (bif (x5==8) then (let x7:Int:=(dI (List.length x1));
bif (x7==512) then (let x8:Int:=(dI (List.length x2));
bif (x8==4) then ((qh x1 x2).bind fun(x9,_)=>
some (x9,())) else
some (false,())) else
some (false,())) else
some (false,())) else
some (false,())) else
some (false,())
noncomputable def Ad:X.Cfg:=⟨E0,[sg,lR,qB],[(8,(.row true CW))],[]⟩
def ol:Ctr:=⟨16,141,[],[],[⟨(uL [.bool]),[.one],[]⟩],fun h=>lC⟩
theorem rG:Lk 8 ol:=ls (C:=Ad) rfl (aC zh (aC n6 (aC wT aN))) (by kernel_rfl) fun h=>by kernel_rfl
def gP:T2I→Option (T2I⊕((Bool×Unit)⊕(Int×Int×Int×Int×Int×Bool×T2c))):=fun(v0,v1,v2,v3,v4,v5,v6,v7,v8,v9,v10,v11,v12,v13,v14,v15,_)=>
bif (decide (v4 < v3)) then ((dT v4).bind fun x0=>
(dF v15 x0).bind fun x1=>
(dF v15 x0).bind fun x2=>
(fr v9 v10 v0 x2.1 x2.2).bind fun(x3,x4,x5,_)=>
(hJ v9 v10 v0 x2.1 x2.2).bind fun(x6,x7,x8,_)=>
bif (x5 != x8) then (some (.inr (.inl (false,())))) else
(kN x3 x4 x6 x7).bind fun(x9,_)=>
bif (!x9) then (some (.inr (.inl (false,())))) else
let ac:=(w64 (v4+1));
some (.inl (v0,v1,v2,v3,ac,v5,v6,v7,v8,v9,v10,v11,v12,v13,v14,v15,()))) else
some (.inr (.inr (v0,v1,v2,v3,v4,false,v5,v6,v7,v8,v9,v10,v11,v12,v13,v14,v15,())))
def gO:T2q→Option (T2q⊕((Bool×Unit)⊕(Int×Int×Bool×T24))):=fun(v0,v1,v2,v3,v4,v5,v6,v7,v8,v9,v10,v11,_)=>
bif (decide (v1 < v0)) then ((dT v1).bind fun x0=>
(dF v11 x0).bind fun x1=>
(dF v11 x0).bind fun x2=>
(j4 v9 v10).bind fun(x3,x4,x5,x6,_)=>
let x7:LDCe:=[(v2,v3),(x3,x4)];
let x8:=(dI (List.length x7));
(match dO gP NN (x2,v0,v1,x8,0,v2,v3,v4,v5,v6,v7,v8,x5,x6,v11,x7,()) with
| none=>none
| some (.inl (x9,_))=>
some (.inr (.inl (x9,())))
| some (.inr (x9,ac,ae,af,ag,ah,ai,aj,ak,am,an,ap,aq,av,ax,ay,az,_))=>
(ft an ap x9).bind fun(aA,aB,aD,_)=>
(hU an ap x9).bind fun(aE,aF,aG,_)=>
bif (!((aA==aE) && ((aB==aF) && true))) then (some (.inr (.inl (false,())))) else
bif (aD != aG) then (some (.inr (.inl (false,())))) else
let aH:=(w64 (ae+1));
some (.inl (ac,aH,ai,aj,ak,am,an,ap,aq,av,ax,ay,())))) else
some (.inr (.inr (v0,v1,false,v2,v3,v4,v5,v6,v7,v8,v9,v10,v11,())))
def i3(a0:List (Int)) (a1:Int) (a2:Int) (a3:Int):Option (Bool×Unit):=
(iG a0 0).bind fun(x0,x1,x2,x3,x4,x5,x6,x7,x8,x9,_)=>
(lA a1 514).bind fun(ac,_)=>
let ae:=(w64 (ac - 1));
(lA a1 120).bind fun(af,_)=>
let ag:List (Int):=[a1,ae,af];
let ah:=(dI (List.length ag));
(match dO gO NN (ah,0,a2,a3,x3,x4,x5,x6,x7,x8,x9,ag,()) with
| none=>none
| some (.inl (ai,_))=>
some (ai,())
| some (.inr (ai,aj,ak,am,an,ap,aq,av,ax,ay,az,aA,aB,_))=>
(lC).bind fun(aD,_)=>
some (aD,()))
noncomputable def qW:X.Cfg:=⟨E0,[m8,uM,q9,oj,ua,t9,lR,ub,ol],[],[⟨12,0,(qS [(pP 5 12),(pP 7 48),(pP 9 20),(sP 11 I64),(35,.pk ⟨73,0,[]⟩ [0,0]),(sP 36 I64),(sP 37 I64),(44,.pk ⟨91,0,[]⟩ [0,0]),(sP 45 I64),(sP 46 I64)] [(12,(uL [CB,CW])),(20,(uL [RI,CW,eG,eS,fB])),(48,(uL [RI,I64])),(73,(uL [(.row true I64)])),(91,(uL [(.row true KCe)]))]),[(.ret,(qS [(sP 6 .bool)] [])),(.exit 2,(qS [(pP 5 12),(pP 7 48),(pP 9 20),(sP 11 I64),(35,.pk ⟨73,0,[]⟩ [0,0]),(sP 36 I64),(sP 37 I64),(44,.pk ⟨91,0,[]⟩ [0,0]),(sP 45 I64),(sP 46 I64),(sP 47 .bool)] [(12,(uL [CB,CW])),(20,(uL [RI,CW,eG,eS,fB])),(48,(uL [RI,I64])),(73,(uL [(.row true I64)])),(91,(uL [(.row true KCe)]))]))]⟩,⟨5,1,(qS [(pP 5 12),(pP 7 48),(pP 9 20),(35,.pk ⟨73,0,[]⟩ [0,0]),(sP 36 I64),(sP 37 I64)] [(12,(uL [CB,CW])),(20,(uL [RI,CW,eG,eS,fB])),(48,(uL [RI,I64])),(73,(uL [(.row true I64)]))]),[(.ret,(qS [(sP 6 .bool)] [])),(.exit 0,(qS [(pP 5 12),(pP 7 48),(pP 9 20),(35,.pk ⟨73,0,[]⟩ [0,0]),(sP 36 I64),(sP 37 I64),(sP 38 .bool)] [(12,(uL [CB,CW])),(20,(uL [RI,CW,eG,eS,fB])),(48,(uL [RI,I64])),(73,(uL [(.row true I64)]))]))]⟩]⟩
def mq:Ctr:=⟨3,142,[shU RI,shU I64,.agg (uL [CB,CW])],[],[⟨(uL [.bool]),[.one],[]⟩],ap4 i3⟩
theorem k_law04_MemoryPokes:Lk 11 mq:=ls (C:=qW) rfl (aC qn (aC zf (aC vt (aC rF (aC Bi (aC Bh (aC n6 (aC Bj (aC rG aN))))))))) (by kernel_rfl) fun h=>by kernel_rfl
def iy:T2B→Option (T2B⊕((Bool×Unit)⊕T2H)):=fun(v0,v1,v2,v3,v4,v5,v6,v7,v8,v9,v10,v11,v12,v13,v14,_)=>
bif (decide (v3 < v2)) then ((dT v3).bind fun x0=>
(dF v13 x0).bind fun x1=>
(dF v13 x0).bind fun x2=>
(bif (v3 != v0) then ((dT v3).bind fun x3=>
(dF v6 x3).bind fun x4=>
bif (!((x2.1==x4.1) && ((x2.2==x4.2) && true))) then (some (v0,v1,v2,v3,true,v4,v5,v6,v7,v8,v9,v10,v11,v12,v13,v14,())) else
bif (v3==v0) then (some (v0,v1,v2,v3,(!((x2.1==v9) && ((x2.2==v10) && true))),v4,v5,v6,v7,v8,v9,v10,v11,v12,v13,v14,())) else
some (v0,v1,v2,v3,false,v4,v5,v6,v7,v8,v9,v10,v11,v12,v13,v14,())) else
bif (v3==v0) then (some (v0,v1,v2,v3,(!((x2.1==v9) && ((x2.2==v10) && true))),v4,v5,v6,v7,v8,v9,v10,v11,v12,v13,v14,())) else
some (v0,v1,v2,v3,false,v4,v5,v6,v7,v8,v9,v10,v11,v12,v13,v14,()):Option (T2H)).bind fun(x3,x4,x5,x6,x7,x8,x9,ac,ae,af,ag,ah,ai,aj,ak,am,_)=>
bif x7 then (some (.inr (.inl (false,())))) else
let an:=(w64 (x6+1));
some (.inl (x3,x4,x5,an,x8,x9,ac,ae,af,ag,ah,ai,aj,ak,am,()))) else
some (.inr (.inr (v0,v1,v2,v3,false,v4,v5,v6,v7,v8,v9,v10,v11,v12,v13,v14,())))
def jZ(a0:List (Int)) (a1:Int) (a2:Int):Option (Bool×Unit):=
(iG a0 0).bind fun(x0,x1,x2,x3,x4,x5,x6,x7,x8,x9,_)=>
(lA a1 512).bind fun(ac,_)=>
(lA a2 512).bind fun(ae,_)=>
(j4 x8 x9).bind fun(af,ag,ah,ai,_)=>
(j4 ah ai).bind fun(aj,ak,am,an,_)=>
(fr x5 x6 ac af ag).bind fun(ap,aq,av,_)=>
bif (av != 0) then (some (false,())) else
let ax:=(dI (List.length ap));
bif (ax != 512) then (some (false,())) else
let ay:=(dI (List.length ap));
(match dO iy NN (ac,ae,ay,0,x3,x4,x5,x6,x7,af,ag,aj,ak,ap,aq,()) with
| none=>none
| some (.inl (az,_))=>
some (az,())
| some (.inr (az,aA,aB,aD,aE,aF,aG,aH,aI,aJ,aK,aL,aM,aO,aP,aQ,_))=>
(fr aP aQ aA aM aO).bind fun(aR,aS,aT,_)=>
(ft aR aS az).bind fun(aU,aV,aW,_)=>
(bif (az==aA) then (some (aT,aW,aM,aO,aU,aV,())) else
some (aT,aW,aK,aL,aU,aV,()):Option (T12)).bind fun(aY,aZ,ba,bc,bd,be,_)=>
bif (aY==0) then (bif (aZ==0) then (bif ((bd==ba) && ((be==bc) && true)) then ((lC).bind fun(bf,_)=>
some (bf,())) else
some (false,())) else
some (false,())) else
some (false,()))
noncomputable def sY:X.Cfg:=⟨E0,[m8,uM,q9,oj,lR,ol],[],[⟨16,0,qE,[(.normal,(qS [(sP 1 I64),(sP 2 I64),(pP 9 20),(pP 10 22),(pP 11 24),(pP 12 26),(52,.pk ⟨26,0,[]⟩ [0,0]),(sP 53 I64),(sP 54 I64),(sP 81 .bool)] [(20,(uL [RI,CW,eG,eS,fB])),(22,(uL [CB,CW])),(24,(uL [CB,CW])),(26,(uL [(.row true KCe),(.row true KA)]))]))]⟩,⟨11,1,(qS [(sP 1 I64),(sP 2 I64),(pP 9 20),(pP 10 22),(pP 11 24),(pP 12 26),(52,.pk ⟨26,0,[]⟩ [0,0]),(sP 53 I64),(sP 54 I64)] [(20,(uL [RI,CW,eG,eS,fB])),(22,(uL [CB,CW])),(24,(uL [CB,CW])),(26,(uL [(.row true KCe),(.row true KA)]))]),[(.ret,(qS [(sP 6 .bool)] [])),(.exit 0,(qS [(sP 1 I64),(sP 2 I64),(pP 9 20),(pP 10 22),(pP 11 24),(pP 12 26),(52,.pk ⟨26,0,[]⟩ [0,0]),(sP 53 I64),(sP 54 I64),(sP 55 .bool)] [(20,(uL [RI,CW,eG,eS,fB])),(22,(uL [CB,CW])),(24,(uL [CB,CW])),(26,(uL [(.row true KCe),(.row true KA)]))]))]⟩,⟨20,2,qE,[(.normal,(qS [(pP 10 22),(sP 17 I64),(pP 18 38),(sP 19 I64)] [(22,(uL [CB,CW])),(38,(uL [CB,CW]))]))]⟩]⟩
def nA:Ctr:=⟨4,143,(uL [RI,I64,I64]),[],[⟨(uL [.bool]),[.one],[]⟩],ap3 jZ⟩
theorem k_law04_MemoryOne:Lk 11 nA:=ls (C:=sY) rfl (aC qn (aC zf (aC vt (aC rF (aC n6 (aC rG aN)))))) (by kernel_rfl) fun h=>by kernel_rfl
end Go.Proofs.YtdcpgpngdcfhhaaGreat
namespace Go.Proofs.YtdcpgpngdcfhhaaGreat
set_option maxRecDepth 100000
end Go.Proofs.YtdcpgpngdcfhhaaGreat
namespace Go.Proofs.YtdcpgpngdcfhhaaGreat
open Go.RowKit
theorem M5:(Tryz.prog.funcs.all fun fn=>!(fn.name=="runtime.NumGoroutine"))=true:=by kernel_rfl
theorem Fz:pH Tryz.prog 7:=by
 obtain⟨fn,hf,hb⟩:∃fn,Tryz.prog.funcs[7]?=some fn∧fn.body.isSome=true:=by
  have hs:(match Tryz.prog.funcs[7]? with | some fn=>fn.body.isSome | none=>false)=true:=by kernel_rfl
  cases h:Tryz.prog.funcs[7]? with
  | none=>rw[h] at hs;cases hs
  | some fn=>rw[h] at hs;exact⟨fn,rfl,hs⟩
 obtain⟨c,hc⟩:=Option.isSome_iff_exists.1 hb;refine Cg hf ?_ hc;obtain⟨hlt,he⟩:=Array.getElem?_eq_some_iff.1 hf;have:=Array.all_eq_true.1 M5 7 hlt;rw[he] at this;simpa using this
def L0(x:Value) (w:World) (e:Ending) (w':World):Prop:=e=.returned (.pointer (some ⟨w.heap.size,0,none⟩))∧w'=w.alloc (.cells #[x,.int .i64 0] 66)
theorem Lr(x:Value) (hx:x.oneCell'=true) (w:World) :
 Calls Tryz.prog 7 #[x] w (L0 x w):=by
 cases x
 all_goals first
  | (go_enter Tryz.func7,Tryz.ntmps7
     go_wp2
     go_ret
     exact⟨rfl,rfl⟩)
  | simp[Value.oneCell'] at hx
theorem e0_ok:IA Tryz.prog E0:=by
 intro f n tm h;simp only[E0] at h;split at h
 ·rename_i e;subst e
  injection h with h
  injection h with h1 h2
  subst h1 h2;refine⟨Fz,fun x hx=>?_,66,fun l2 w hl hone=>?_⟩
  ·simp only[List.mem_cons,List.not_mem_nil,or_false] at hx;rcases hx with hx | hx
   ·injection hx
   ·injection hx with hx;rw[hx];rfl
  ·match l2,hl with
   | [x],_=>exact Lr x (hone x (by simp[bxV])) w
 ·simp at h
def Ok{α:Type}(o:Option α) (Q:α→Prop):Prop:=∃a,o=some a∧Q a
section
variable {α β:Type}
theorem Ok.ret{a:α}{Q:α→Prop}(h:Q a):Ok (some a) Q:=⟨a,rfl,h⟩
theorem Ok.bind{o:Option α}{f:α→Option β}{P:α→Prop}{Q:β→Prop}(h:Ok o P) (h2:∀a,P a→Ok (f a) Q):Ok (o.bind f) Q:=by
 obtain⟨a,rfl,h1⟩:=h;exact h2 a h1
theorem Ok.mono{o:Option α}{P Q:α→Prop}(h:Ok o P) (h2:∀a,P a→Q a):Ok o Q:=by
 obtain⟨a,e,h1⟩:=h;exact⟨a,e,h2 a h1⟩
theorem Ok.cond{c:Bool}{a b:Option α}{Q:α→Prop}(h1:c=true→Ok a Q) (h2:c=false→Ok b Q):Ok (bif c then a else b) Q:=by
 cases c with
 | true=>exact h1 rfl
 | false=>exact h2 rfl
class BP (b:Bool) (P N:outParam Prop):Prop where
 t:b=true→P
 f:b=false→N
instance (priority:=low) bpVar {b:Bool}:BP b (b=true) (b=false):=⟨id,id⟩
instance Nx {p:Prop} {i:Decidable p}:BP (@decide p i) p (¬ p):=⟨of_decide_eq_true,of_decide_eq_false⟩
instance NJ {α:Type} [BEq α] [LawfulBEq α] {a b:α}:BP (a==b) (a=b) (¬ a=b):=⟨eq_of_beq,fun h=>beq_eq_false_iff_ne.1 h⟩
instance NI {α:Type} [BEq α] [LawfulBEq α] {a b:α}:BP (a != b) (¬ a=b) (a=b):=⟨fun h=>bne_iff_ne.1 h,fun h=>bne_eq_false_iff_eq.1 h⟩
instance Nw {b:Bool} {P N:Prop} [h:BP b P N]:BP (!b) N P:=⟨fun e=>h.f (by simpa using e),fun e=>h.t (by simpa using e)⟩
theorem Ok.cb{c:Bool}{P N:Prop} [h:BP c P N] {a b:Option α}{Q:α→Prop}(h1:P→Ok a Q) (h2:N→Ok b Q):Ok (bif c then a else b) Q:=by
 cases hc:c with
 | true=>exact h1 (h.t hc)
 | false=>exact h2 (h.f hc)
theorem Ok.get{l:List α}{i:Nat}{f:α→Option β}{Q:β→Prop}(h:i < l.length) (h2:∀a,l[i]?=some a→Ok (f a) Q):Ok ((dF l i).bind f) Q:=by
 have e:dF l i=some l[i]:=oGE h;rw[e];exact h2 _ (oGE h)
theorem Ok.nat{x:Int}{f:Nat→Option β}{Q:β→Prop}(h:0≤x) (h2:∀n:Nat,x=n→Ok (f n) Q):Ok ((dT x).bind f) Q:=by
 obtain⟨n,rfl⟩:∃n:Nat,x=n:=⟨x.toNat,by omega⟩;exact h2 n rfl
theorem Ok.val{v:α}{f:α→Option β}{Q:β→Prop}(h:∀x,x=v→Ok (f x) Q):Ok (f v) Q:=h v rfl
theorem Ok.need{c:Bool}{a b:Option α}{Q:α→Prop}(hc:c=true) (h1:Ok a Q):Ok (bif c then a else b) Q:=by rw[hc];exact h1
theorem Ok.iter{S T:Type}{f:S→Option (S⊕T)}(P:S→Prop) (R:T→Prop) (m:S→Nat) {n:Nat}{s:S}(hs:P s) (hm:m s < n)
 (h:∀s,P s→Ok (f s) fun r=>match r with | .inl s'=>P s'∧m s' < m s | .inr t=>R t):Ok (dO f n s) R:=by
 induction n generalizing s with
 | zero=>omega
 | succ n ih=>
  obtain⟨r,e,hr⟩:=h s hs
  cases r with
  | inl s'=>
   obtain⟨t,e2,hq⟩:=ih hr.1 (by have:=hr.2;omega);exact⟨t,by simp only[dO,e,oBS];exact e2,hq⟩
  | inr t=>exact⟨t,by simp[dO,e],hr⟩
theorem Ok.loop{S T:Type}{f:S→Option (S⊕T)}{g:T→Option β}{Q:β→Prop}(P:S→Prop) (R:T→Prop) (m:S→Nat) {n:Nat}{s:S}(hs:P s) (hm:m s < n)
 (h:∀s,P s→Ok (f s) fun r=>match r with | .inl s'=>P s'∧m s' < m s | .inr t=>R t) (hg:∀t,R t→Ok (g t) Q):Ok ((dO f n s).bind g) Q:=(Ok.iter P R m hs hm h).bind hg
end
theorem dL{x:Int}(h1:-9223372036854775808≤x) (h2:x≤9223372036854775807):w64 x=x:=IE h1 h2
theorem dH(n:Nat):dT (n:Int)=some n:=rfl
theorem dQ(n:Nat):dI n=(n:Int):=rfl
theorem dK{α:Type}{l:List α}{i:Nat}{a:α}(h:l[i]?=some a):a∈l:=List.mem_of_getElem? h
def W16(x:Int):Prop:=0≤x∧x≤65535
theorem dS{x:Int}(h0:0≤x) (h1:x≤65535):wk .u16 x=x:=by
 unfold wk;rw[yp];omega
theorem dP{x:Int}(h0:-9223372036854775808≤x) (h1:x≤9223372036854775807):wk .i64 x=x:=dL h0 h1
theorem dN{b n m:Nat}(h:b≤1000∧n+m≤1000000):dU b n m=true:=by
 have:(n+m)*b≤1000000*1000:=Nat.mul_le_mul h.2 h.1;simp only[dU,Bool.and_eq_true,decide_eq_true_eq];omega
structure DOk (l:List Int) (k:Int):Prop where
 num:∀x∈l,DV x
 len:l.length≤maxLen
 lo:0≤k
 hi:k≤l.length
theorem DOk.start{l:List Int}(h:∀x∈l,DV x) (hl:l.length≤maxLen):DOk l 0:=⟨h,hl,by omega,by omega⟩
theorem Kq{a b:Int}(ha:DV a) (hb:0 < b) (hb2:b≤9223372036854775807):∃v,gt a b=some (v,())∧0≤v∧v < b:=by
 have hne:(b != 0)=true:=by simp;omega
 have hm:Int.tmod a b < b:=Int.tmod_lt_of_pos a hb
 have hm2:-b < Int.tmod a b:=by
  have:=Int.tmod_lt_of_pos (-a) hb;rw[Int.neg_tmod] at this;omega
 unfold gt;simp only[hne,cond_true];by_cases h:Int.tmod a b < 0
 ·refine⟨Int.tmod a b+b,?_,by omega,by omega⟩;simp only[h,decide_true,cond_true,oBS];rw[dL (by omega) (by omega)]
 ·refine⟨Int.tmod a b,?_,by omega,hm⟩;simp only[h,decide_false,cond_false,oBS]
section
variable {β:Type} {l:List Int} {k n:Int} {Q:β→Prop}
theorem Mq{a b:Int}{f:Int×Unit→Option β}(ha:DV a) (hb:0 < b) (hb2:b≤9223372036854775807) (K:∀v,0≤v→v < b→Ok (f (v,())) Q):Ok ((gt a b).bind f) Q:=by
 obtain⟨v,e,h0,h1⟩:=Kq ha hb hb2;rw[e];exact K v h0 h1
theorem eY{f:Int×List Int×Int×Unit→Option β}(h:DOk l k) (hn:0 < n) (hn2:n≤9223372036854775807) (K:∀v k',0≤v→v < n→DOk l k'→Ok (f (v,l,k',())) Q):Ok ((dG n l k).bind f) Q:=by
 have hl:=h.len;have hlo:=h.lo;have hhi:=h.hi
 have hmx:maxLen≤9223372036854775807:=by decide
 by_cases hk:k≥(l.length:Int)
 ·have e:dG n l k=some (0,l,k,()):=by unfold dG;simp[dQ,hk]
  rw[e];exact K 0 k (by omega) hn h
 ·obtain⟨j,rfl⟩:∃j:Nat,k=j:=⟨k.toNat,by omega⟩
  have hj:j < l.length:=by omega
  obtain⟨v,hv,h0,h1⟩:=Kq (h.num _ (List.getElem_mem hj)) hn hn2
  have e:dG n l j=some (v,l,(j:Int)+1,()):=by
   unfold dG;delta dI
   try dsimp only
   rw[dL (x:=(j:Int)+1) (by omega) (by omega),dL (x:=(j:Int)+1 - 1) (by omega) (by omega)];rw[show (j:Int)+1 - 1=j by omega,dH];simp only[hk,decide_false,cond_false,oBS,dF,oGE hj,lA,hv]
  rw[e];exact K v _ h0 h1 ⟨h.num,hl,by omega,by omega⟩
theorem AA{f:Int×List Int×Int×Unit→Option β}(h:DOk l k) (K:∀v k',0≤v→v≤65535→DOk l k'→Ok (f (v,l,k',())) Q):Ok ((gv l k).bind f) Q:=by
 have hw:Ok (gv l k) fun r=>∃v k',r=(v,l,k',())∧0≤v∧v≤65535∧DOk l k':=by
  unfold gv
  (with_reducible refine eY (by assumption) (by omega) (by omega) (fun v k a b d=>?_);try dsimp only)
  refine Ok.bind (P:=fun r=>∃b,r=(v,b,l,k,())) ?_ ?_
  ·repeat ((with_reducible refine Ok.cb (fun hc=>?_) (fun hc=>?_));· exact Ok.ret ⟨_,rfl⟩)
   exact Ok.ret ⟨_,rfl⟩
  ·rintro _ ⟨b,rfl⟩;dsimp only;refine Ok.cond (fun _=>?_) fun _=>?_
   ·(with_reducible refine eY (by assumption) (by omega) (by omega) (fun v k a b d=>?_);try dsimp only)
    (simp (disch:=omega) only [dL,dS,dP,dQ])
    exact Ok.ret ⟨_,_,rfl,by omega,by omega,by assumption⟩
   ·(with_reducible refine Ok.cb (fun hc=>?_) (fun hc=>?_))
    ·(with_reducible refine eY (by assumption) (by omega) (by omega) (fun v k a b d=>?_);try dsimp only)
     (simp (disch:=omega) only [dL,dS,dP,dQ])
     exact Ok.ret ⟨_,_,rfl,by omega,by omega,by assumption⟩
    ·(with_reducible refine eY (by assumption) (by omega) (by omega) (fun v k a b d=>?_);try dsimp only)
     (simp (disch:=omega) only [dL,dS,dP,dQ])
     exact Ok.ret ⟨_,_,rfl,by omega,by omega,by assumption⟩
 refine hw.bind ?_;rintro _ ⟨v,k',rfl,h0,h1,h2⟩;exact K v k' h0 h1 h2
end
def wA(s:List Int):Prop:=1≤s.length∧s.length≤4∧∀x∈s,1≤x∧x≤32
theorem M2{P:Int→Prop}{a b c:Int}(ha:P a) (hb:P b) (hc:P c):∀x∈[a,b,c],P x:=by
 intro x hx;simp only[List.mem_cons,List.not_mem_nil,or_false] at hx
 rcases hx with rfl | rfl | rfl<;>assumption
theorem IO{l:List Int}{k:Int}(h:DOk l k):Ok (mM l k) fun r=>∃s k',r=(s,l,k',())∧wA s∧DOk l k':=by
 unfold mM
 (with_reducible refine eY (by assumption) (by omega) (by omega) (fun v0 k0 a0 b0 d0=>?_);try dsimp only)
 (simp (disch:=omega) only [dL,dS,dP,dQ])
 (with_reducible refine eY (by assumption) (by omega) (by omega) (fun v1 k1 a1 b1 d1=>?_);try dsimp only)
 refine Ok.loop (P:=fun((c,l',k',s,_):Int×List Int×Int×List Int×Unit)=>l'=l∧DOk l k'∧0≤c∧c+s.length≤4∧1≤s.length∧∀x∈s,1≤x∧x≤32)
  (R:=fun((_,_,l',k',s,_):Int×Bool×List Int×Int×List Int×Unit)=>l'=l∧DOk l k'∧wA s) (m:=fun s=>s.1.toNat) ⟨rfl,d1,a1,by simp;omega,by simp,by simp;omega⟩ (by unfold NN;dsimp only;omega) ?_ ?_
 ·rintro⟨c,l',k3,s,_⟩ ⟨rfl,hd3,hc0,hcs,hs1,hs⟩;dsimp only at *;unfold oR;dsimp only
  (with_reducible refine Ok.cb (fun hc=>?_) (fun hc=>?_))
  ·(with_reducible refine eY (by assumption) (by omega) (by omega) (fun v2 k2 a2 b2 d2=>?_);try dsimp only)
   (with_reducible refine Ok.nat (by omega) (fun j hj=>?_);try dsimp only)
   have hmem:∀x∈[(6:Int),12,32],6≤x∧x≤32:=M2 (by omega) (by omega) (by omega);refine Ok.get (by simp;omega) fun a ha=>?_;have h6:=hmem a (dK ha);refine Ok.get (by simp;omega) fun b hb=>?_;have h7:=hmem b (dK hb)
   (with_reducible refine eY (by assumption) (by omega) (by omega) (fun v3 k3 a3 b3 d3=>?_);try dsimp only)
   (simp (disch:=omega) only [dL,dS,dP,dQ])
   refine Ok.need (dN (by simp;omega)) ?_;refine Ok.ret ⟨⟨rfl,by assumption,by omega,?_,?_,?_⟩,?_⟩
   ·simp;omega
   ·simp
   ·intro x hx;simp only[List.append_eq,List.mem_append,List.mem_cons,List.not_mem_nil,or_false] at hx;rcases hx with hx | rfl
    ·exact hs x hx
    ·omega
   ·dsimp only;omega
  ·exact Ok.ret ⟨rfl,hd3,hs1,by dsimp only;omega,hs⟩
 ·rintro⟨a,b,l',k3,s,_⟩ ⟨rfl,hd3,hs⟩;exact Ok.ret ⟨_,_,rfl,hs,hd3⟩
def nH(op:Int):Bool:=!(op==18 || op==23 || op==0 || op==24)
def nG(op:Int):Bool:=!(op==18 || op==23 || op==0 || op==24 || op==1 || op==15 || op==19 || op==20 || op==21 || op==22)
def nF(op:Int):Bool:=!(op==18 || op==23 || op==0 || op==24 || op==1 || op==15 || op==19 || op==20 || op==21 || op==22 || op==2 || op==16 || op==17)
def nE(op:Int):Bool:=op==1 || op==15 || op==19 || op==20 || op==21 || op==16 || op==17 || op==18 || op==23
def lI(op:Int):Bool:=op==18 || op==19 || op==20 || op==21
theorem Gk{op:Int}(h0:0≤op) (h1:op≤24):jc op=some (nH op,nG op,nF op,nE op,()):=by
 obtain⟨n,rfl⟩:∃n:Nat,op=n:=⟨op.toNat,by omega⟩
 have hn:n < 25:=by omega
 have key:∀n:Fin 25,(jc ((n.val:Nat):Int)).map (fun x=>(x.1,x.2.1,x.2.2.1,x.2.2.2.1))=some (nH (n.val:Nat),nG (n.val:Nat),nF (n.val:Nat),nE (n.val:Nat)):=by decide
 have:=key ⟨n,hn⟩;dsimp only at this
 cases h:jc (n:Int) with
 | none=>rw[h] at this;cases this
 | some x=>
  obtain⟨a,b,c,d,_⟩:=x;rw[h] at this;simp only[Option.map_some,oSJ,oPJ] at this;rw[this.1,this.2.1,this.2.2.1,this.2.2.2]
theorem vv(op:Int):gj op=some (lI op,()):=by
 unfold gj lI;cases op==18<;>cases op==19<;>cases op==20<;>cases op==21<;>rfl
structure gT (n m:Int) (i:DIn):Prop where
 op:0≤i.1∧i.1≤24
 a:0≤i.2.1∧i.2.1 < 8∧(nH i.1=false→i.2.1=0)
 b:0≤i.2.2.1∧i.2.2.1 < 8∧(nG i.1=false→i.2.2.1=0)
 c:0≤i.2.2.2.1∧i.2.2.2.1 < 8∧(nF i.1=false→i.2.2.2.1=0)
 imm:0≤i.2.2.2.2∧i.2.2.2.2≤65535∧(nE i.1=false→i.2.2.2.2=0)
 lea:i.1=15→i.2.2.2.2 < n
 sys:i.1=23→i.2.2.2.2≤15
 jmp:lI i.1=true→i.2.2.2.2 < m
theorem ins_mk{n m o a b c i:Int}(ho:0≤o∧o≤24) (ha:0≤a∧a < 8) (hb:0≤b∧b < 8) (hc:0≤c∧c < 8) (hi:0≤i∧i≤65535) (hA:nH o=true∨a=0) (hB:nG o=true∨b=0) (hC:nF o=true∨c=0) (hI:nE o=true∨i=0)
 (hl:o=15→i < n) (hs:o=23→i≤15) (hj:lI o=true→i < m):gT n m (o,a,b,c,i):=
 ⟨ho,⟨ha.1,ha.2,fun h=>hA.elim (fun h'=>by rw[show nH o=false from h] at h';cases h') id⟩,⟨hb.1,hb.2,fun h=>hB.elim (fun h'=>by rw[show nG o=false from h] at h';cases h') id⟩,
  ⟨hc.1,hc.2,fun h=>hC.elim (fun h'=>by rw[show nF o=false from h] at h';cases h') id⟩,⟨hi.1,hi.2,fun h=>hI.elim (fun h'=>by rw[show nE o=false from h] at h';cases h') id⟩,hl,hs,hj⟩
theorem A3{n m r v:Int}(h:0≤r∧r < 8) (hv:0≤v∧v≤65535):gT n m (1,r,0,0,v):=ins_mk (by decide) h (by decide) (by decide) hv (.inl (by decide)) (.inr rfl) (.inr rfl) (.inl (by decide)) (by omega) (by omega) (fun h=>absurd h (by decide))
theorem CX{n m r v:Int}(h:0≤r∧r < 8) (hv:0≤v∧v < 8):gT n m (2,r,v,0,0):=ins_mk (by decide) h hv (by decide) (by decide) (.inl (by decide)) (.inl (by decide)) (.inr rfl) (.inr rfl) (by omega) (by omega) (fun h=>absurd h (by decide))
theorem uS{n m v:Int}(hv:0≤v∧v≤15):gT n m (23,0,0,0,v):=ins_mk (by decide) (by decide) (by decide) (by decide) (by omega) (.inr rfl) (.inr rfl) (.inr rfl) (.inl (by decide)) (by omega) (by omega) (fun h=>absurd h (by decide))
theorem C4{n m r v:Int}(h:0≤r∧r < 8) (hv:0≤v∧v < n) (hn:n≤4):gT n m (15,r,0,0,v):=ins_mk (by decide) h (by decide) (by decide) (by omega) (.inl (by decide)) (.inr rfl) (.inr rfl) (.inl (by decide)) (by omega) (by omega) (fun h=>absurd h (by decide))
theorem Gp{n m o a b v:Int}(ho:o=16∨o=17) (h:0≤a∧a < 8) (hb:0≤b∧b < 8) (hv:0≤v∧v≤65535):gT n m (o,a,b,0,v):=by
 rcases ho with rfl | rfl
 ·exact ins_mk (by decide) h hb (by decide) hv (.inl (by decide)) (.inl (by decide)) (.inr rfl) (.inl (by decide)) (by omega) (by omega) (fun h=>absurd h (by decide))
 ·exact ins_mk (by decide) h hb (by decide) hv (.inl (by decide)) (.inl (by decide)) (.inr rfl) (.inl (by decide)) (by omega) (by omega) (fun h=>absurd h (by decide))
theorem CS{n m o a b c:Int}(ho:3≤o∧o≤14) (h:0≤a∧a < 8) (hb:0≤b∧b < 8) (hc:0≤c∧c < 8):gT n m (o,a,b,c,0):=
 ins_mk (by omega) h hb hc (by decide) (.inl (by unfold nH;simp;omega)) (.inl (by unfold nG;simp;omega)) (.inl (by unfold nF;simp;omega)) (.inr rfl) (by omega) (by omega) (fun h=>by unfold lI at h;simp at h;omega)
theorem Lz{n m v:Int}(hv:0≤v∧v≤65535) (hm:v < m):gT n m (18,0,0,0,v):=ins_mk (by decide) (by decide) (by decide) (by decide) hv (.inr rfl) (.inr rfl) (.inr rfl) (.inl (by decide)) (by omega) (by omega) (fun _=>hm)
theorem Le{n m:Int}:gT n m (24,0,0,0,0):=ins_mk (by decide) (by decide) (by decide) (by decide) (by decide) (.inr rfl) (.inr rfl) (.inr rfl) (.inr rfl) (by omega) (by omega) (fun h=>absurd h (by decide))
theorem gT.mono{n m m':Int}{i:DIn}(h:gT n m i) (hm:m≤m'):gT n m' i:=⟨h.op,h.a,h.b,h.c,h.imm,h.lea,h.sys,fun hj=>by have:=h.jmp hj;omega⟩
theorem De{n m a v:Int}(h:0≤a∧a < 8) (hv:0≤v∧v≤65535) (hm:v < m):gT n m (20,a,0,0,v):=ins_mk (by decide) h (by decide) (by decide) hv (.inl (by decide)) (.inr rfl) (.inr rfl) (.inl (by decide)) (by omega) (by omega) (fun _=>hm)
theorem JH{n most k:Int}{l:List Int}(h:DOk l k) (hn:1≤n∧n≤4) (hm:1≤most∧most≤100):Ok (mN n most l k) fun r=>∃o a b c i k',r=(o,a,b,c,i,l,k',())∧gT n most (o,a,b,c,i)∧DOk l k':=by
 unfold mN
 (with_reducible refine eY (by assumption) (by omega) (by omega) (fun v0 k0 a0 b0 d0=>?_);try dsimp only)
 rw[Gk (by omega) (by omega)];simp only[oBS];refine Ok.bind (P:=fun r=>∃x k',r=(n,most,l,k',0,0,0,0,0,v0,x,0,0,0,nH v0,nG v0,nF v0,nE v0,())∧0≤x∧x < 8∧(nH v0=false→x=0)∧DOk l k') ?_ ?_
 ·refine Ok.cond (fun hc=>?_) fun hc=>Ok.ret ⟨_,_,rfl,by omega,by omega,fun _=>rfl,d0⟩
  (with_reducible refine eY (by assumption) (by omega) (by omega) (fun v1 k1 a1 b1 d1=>?_);try dsimp only)
  exact Ok.ret ⟨_,_,rfl,a1,b1,(fun hh=>by rw[hc] at hh;cases hh),d1⟩
 rintro _ ⟨xa,k1,rfl,ha0,ha1,ha2,d1⟩;dsimp only;refine Ok.bind (P:=fun r=>∃x k',r=(n,most,l,k',0,0,0,0,0,v0,xa,x,0,0,nH v0,nG v0,nF v0,nE v0,())∧0≤x∧x < 8∧(nG v0=false→x=0)∧DOk l k') ?_ ?_
 ·refine Ok.cond (fun hc=>?_) fun hc=>Ok.ret ⟨_,_,rfl,by omega,by omega,fun _=>rfl,d1⟩
  (with_reducible refine eY (by assumption) (by omega) (by omega) (fun v2 k2 a2 b2 d2=>?_);try dsimp only)
  exact Ok.ret ⟨_,_,rfl,a2,b2,(fun hh=>by rw[hc] at hh;cases hh),d2⟩
 rintro _ ⟨xb,k2,rfl,hb0,hb1,hb2,d2⟩;dsimp only;refine Ok.bind (P:=fun r=>∃x k',r=(n,most,l,k',0,0,0,0,0,v0,xa,xb,x,0,nH v0,nG v0,nF v0,nE v0,())∧0≤x∧x < 8∧(nF v0=false→x=0)∧DOk l k') ?_ ?_
 ·refine Ok.cond (fun hc=>?_) fun hc=>Ok.ret ⟨_,_,rfl,by omega,by omega,fun _=>rfl,d2⟩
  (with_reducible refine eY (by assumption) (by omega) (by omega) (fun v3 k3 a3 b3 d3=>?_);try dsimp only)
  exact Ok.ret ⟨_,_,rfl,a3,b3,(fun hh=>by rw[hc] at hh;cases hh),d3⟩
 rintro _ ⟨xc,k3,rfl,hc0,hc1,hc2,d3⟩;dsimp only;rw[vv];simp only[oBS];refine Ok.bind (P:=fun r=>∃x k',r=(l,k',0,0,0,0,0,v0,xa,xb,xc,x,())∧0≤x∧x≤65535∧(nE v0=false→x=0)∧(v0=15→x < n)∧(v0=23→x≤15)∧(lI v0=true→x < most)∧DOk l k') ?_ ?_
 ·refine Ok.cond (fun hj=>?_) fun hj=>?_
  ·(with_reducible refine eY (by assumption) (by omega) (by omega) (fun v4 k4 a4 b4 d4=>?_);try dsimp only)
   have hj:lI v0=true:=hj
   have hne:v0≠15∧v0≠23:=by constructor<;>(rintro rfl;exact absurd hj (by decide))
   exact Ok.ret ⟨_,_,rfl,a4,by omega,(fun hh=>by
    have:nE v0=true:=by unfold lI at hj;unfold nE;simp at hj ⊢;omega
    rw[this] at hh;cases hh),by omega,by omega,fun _=>b4,d4⟩
  ·(with_reducible refine Ok.cb (fun hc5=>?_) (fun hc5=>?_))
   ·subst hc5
    (with_reducible refine eY (by assumption) (by omega) (by omega) (fun v4 k4 a4 b4 d4=>?_);try dsimp only)
    exact Ok.ret ⟨_,_,rfl,a4,by omega,fun hh=>absurd hh (by decide),by omega,by omega,fun hh=>absurd hh (by decide),d4⟩
   ·(with_reducible refine Ok.cb (fun hc6=>?_) (fun hc6=>?_))
    ·subst hc6
     (with_reducible refine eY (by assumption) (by omega) (by omega) (fun v4 k4 a4 b4 d4=>?_);try dsimp only)
     exact Ok.ret ⟨_,_,rfl,a4,by omega,fun hh=>absurd hh (by decide),by omega,by omega,fun hh=>absurd hh (by decide),d4⟩
    ·refine Ok.cond (fun hu=>?_) fun hu=>?_
     ·(with_reducible refine AA (by assumption) (fun v4 k4 a4 b4 d4=>?_);try dsimp only)
      (simp (disch:=omega) only [dL,dS,dP,dQ])
      exact Ok.ret ⟨_,_,rfl,a4,by omega,(fun hh=>by rw[hu] at hh;cases hh),by omega,by omega,(fun hh=>by rw[show lI v0=false from hj] at hh;cases hh),d4⟩
     ·exact Ok.ret ⟨_,_,rfl,by omega,by omega,fun _=>rfl,by omega,by omega,(fun hh=>by rw[show lI v0=false from hj] at hh;cases hh),d3⟩
 rintro _ ⟨xi,k4,rfl,hi0,hi1,hi2,hi3,hi4,hi5,d4⟩;exact Ok.ret ⟨_,_,_,_,_,_,rfl,⟨⟨a0,by dsimp only;omega⟩,⟨ha0,ha1,ha2⟩,⟨hb0,hb1,hb2⟩,⟨hc0,hc1,hc2⟩,⟨hi0,hi1,hi2⟩,hi3,hi4,hi5⟩,d4⟩
theorem Ok.getP{α β:Type}{l:List α}{i:Nat}{f:α→Option β}{Q:β→Prop}(P:α→Prop) (h:i < l.length) (hP:∀x∈l,P x) (h2:∀a,P a→Ok (f a) Q):Ok ((dF l i).bind f) Q:=Ok.get h fun a ha=>h2 a (hP a (dK ha))
theorem dX{α:Type}{P:α→Prop}:∀x∈([]:List α),P x:=fun _ h=>by cases h
theorem all_cons{α:Type}{P:α→Prop}{a:α}{l:List α}(h:P a) (h2:∀x∈l,P x):∀x∈a :: l,P x:=fun x hx=>by
 rcases List.mem_cons.1 hx with rfl | hx
 ·exact h
 ·exact h2 x hx
theorem Ms(a b:Int):hZ a b=some (1,a,0,0,b,()):=rfl
theorem Mp(a b:Int):lz a b=some (2,a,b,0,0,()):=rfl
theorem Kk(a:Int):gu a=some (23,0,0,0,a,()):=rfl
theorem Nt{x:Int}(h:1≤x):1≤mmR false 5 x∧mmR false 5 x≤5:=by
 unfold mmR;simp only[Bool.false_eq_true,if_false];split<;>omega
def ES(n at_:Int) (l:List Int) (r:List DIn×List Int×Int×Unit):Prop:=∃xs k',r=(xs,l,k',())∧1≤xs.length∧xs.length≤6∧(∀i∈xs,gT n (at_+xs.length) i)∧DOk l k'
theorem yE{n at_:Int}{l:List Int}{xs:List DIn}{k:Int}(h1:1≤xs.length∧xs.length≤6) (h2:∀i∈xs,gT n (at_+xs.length) i) (h3:DOk l k):Ok (some (xs,l,k,())) (ES n at_ l):=Ok.ret ⟨xs,k,rfl,h1.1,h1.2,h2,h3⟩
theorem Lp{s l:List Int}{at_ k:Int}(h:DOk l k) (hs:wA s) (ha:0≤at_∧at_≤99):Ok (nP s (at_+1) at_ l k) (ES s.length at_ l):=by
 obtain⟨hs1,hs4,hsz⟩:=hs
 have hn:1≤(s.length:Int)∧(s.length:Int)≤4:=by omega
 unfold nP;delta dI;simp only[Ms,Mp,Kk,oBS]
 (with_reducible refine eY (by assumption) (by omega) (by omega) (fun vr kr ar br dr=>?_);try dsimp only)
 refine Ok.nat (by omega) fun j hj=>?_;refine Ok.getP (fun a=>1≤a∧a≤32) (by omega) hsz fun z hz=>?_
 (simp (disch:=omega) only [dL,dS,dP,dQ])
 have h5:=Nt (x:=z+1) (by omega);generalize mmR false 5 (z+1)=mm at h5
 (with_reducible refine eY (by assumption) (by omega) (by omega) (fun vu ku au bu du=>?_);try dsimp only)
 (with_reducible refine eY (by assumption) (by omega) (by omega) (fun vw kw aw bw dw=>?_);try dsimp only)
 iterate 19
  (with_reducible refine Ok.cb (fun hcc=>?_) (fun hcc=>?_))
  ·repeat (first | (simp (disch:=omega) only [dL,dS,dP,dQ]) | (with_reducible refine eY (by assumption) (by omega) (by omega) (fun v k a b d=>?_);try dsimp only) | (with_reducible refine AA (by assumption) (fun v k a b d=>?_);try dsimp only) | (with_reducible refine Ok.nat (by omega) (fun j hj=>?_);try dsimp only) | ((with_reducible first | refine Ok.getP (fun a=>1≤a∧a≤32) (by omega) (by assumption) (fun e he=>?_) | refine Ok.getP (fun a=>3≤a∧a≤14) (by simp only[List.length_cons,List.length_nil];omega) (by (first | exact (all_cons (by omega) (all_cons (by omega) dX)) | exact (all_cons (by omega) (all_cons (by omega) (all_cons (by omega) dX))) | exact (all_cons (by omega) (all_cons (by omega) (all_cons (by omega) (all_cons (by omega) (all_cons (by omega) (all_cons (by omega) (all_cons (by omega) (all_cons (by omega) dX)))))))))) (fun e he=>?_) | refine Ok.getP (fun a=>0≤a∧a≤15) (by simp only[List.length_cons,List.length_nil];omega) (by (first | exact (all_cons (by omega) (all_cons (by omega) dX)) | exact (all_cons (by omega) (all_cons (by omega) (all_cons (by omega) dX))) | exact (all_cons (by omega) (all_cons (by omega) (all_cons (by omega) (all_cons (by omega) (all_cons (by omega) (all_cons (by omega) (all_cons (by omega) (all_cons (by omega) dX)))))))))) (fun e he=>?_) | refine Ok.getP (fun a=>1≤a∧a≤100) (by simp only[List.length_cons,List.length_nil];omega) (by (first | exact (all_cons (by omega) (all_cons (by omega) dX)) | exact (all_cons (by omega) (all_cons (by omega) (all_cons (by omega) dX))) | exact (all_cons (by omega) (all_cons (by omega) (all_cons (by omega) (all_cons (by omega) (all_cons (by omega) (all_cons (by omega) (all_cons (by omega) (all_cons (by omega) dX)))))))))) (fun e he=>?_));try dsimp only) | (with_reducible refine Ok.need (dN (by first | omega | simp)) ?_;try dsimp only) | (refine Ok.getP (fun(a:List DIn)=>(1≤a.length∧a.length≤6)∧∀i∈a,gT s.length (at_+a.length) i) (by simp only[List.length_cons,List.length_nil];omega) (all_cons ⟨by simp,by ((repeat' (first | exact dX | refine all_cons ?_ ?_ | exact A3 (by omega) (by omega) | exact CX (by omega) (by omega) | exact uS (by omega) | exact C4 (by omega) (by omega) (by omega) | exact Gp (by omega) (by omega) (by omega) (by omega) | exact CS (by omega) (by omega) (by omega) (by omega) | exact De (by omega) (by omega) (by simp only[List.length_cons,List.length_nil];omega)));done)⟩ (all_cons ⟨by simp,by ((repeat' (first | exact dX | refine all_cons ?_ ?_ | exact A3 (by omega) (by omega) | exact CX (by omega) (by omega) | exact uS (by omega) | exact C4 (by omega) (by omega) (by omega) | exact Gp (by omega) (by omega) (by omega) (by omega) | exact CS (by omega) (by omega) (by omega) (by omega) | exact De (by omega) (by omega) (by simp only[List.length_cons,List.length_nil];omega)));done)⟩ dX)) (fun e he=>?_);try dsimp only))
   first
    | exact yE he.1 he.2 (by assumption)
    | (refine yE (by simp) ?_ (by assumption);try simp only[List.append_eq,List.cons_append,List.nil_append]
       ((repeat' (first | exact dX | refine all_cons ?_ ?_ | exact A3 (by omega) (by omega) | exact CX (by omega) (by omega) | exact uS (by omega) | exact C4 (by omega) (by omega) (by omega) | exact Gp (by omega) (by omega) (by omega) (by omega) | exact CS (by omega) (by omega) (by omega) (by omega) | exact De (by omega) (by omega) (by simp only[List.length_cons,List.length_nil];omega)));done))
 refine (JH (by assumption) hn (by omega)).bind ?_;rintro _ ⟨o,a,b,c,i,k',rfl,hi,hd⟩;exact yE (by simp) (all_cons (hi.mono (by simp)) dX) hd
theorem iA{α:Type}{P:α→Prop}{l m:List α}(h:∀x∈l,P x) (h2:∀x∈m,P x):∀x∈List.append l m,P x:=fun x hx=>(List.mem_append.1 (show x∈l++m from hx)).elim (h x) (h2 x)
theorem eJ{α:Type}(l m:List α):(List.append l m).length=l.length+m.length:=List.length_append
theorem nB{l:List Int}{k n:Int}(h:DOk l k) (hn:0≤n∧n≤1000):Ok (fw n l k) fun r=>∃ws k',r=(ws,l,k',())∧(ws.length:Int)≤n∧(∀w∈ws,W16 w)∧DOk l k':=by
 unfold fw
 (simp (disch:=omega) only [dL,dS,dP,dQ])
 (with_reducible refine eY (by assumption) (by omega) (by omega) (fun v0 k0 a0 b0 d0=>?_);try dsimp only)
 refine Ok.loop (P:=fun((c,l',k',s,_):Int×List Int×Int×List Int×Unit)=>l'=l∧DOk l k'∧0≤c∧c+s.length≤n∧∀x∈s,W16 x)
  (R:=fun((_,_,l',k',s,_):Int×Bool×List Int×Int×List Int×Unit)=>l'=l∧DOk l k'∧(s.length:Int)≤n∧∀x∈s,W16 x) (m:=fun s=>s.1.toNat) ⟨rfl,d0,a0,by simp;omega,dX⟩ (by unfold NN;dsimp only;omega) ?_ ?_
 ·rintro⟨c,l',k3,s,_⟩ ⟨rfl,hd3,hc0,hcs,hs⟩;dsimp only at *;unfold oQ;dsimp only
  (with_reducible refine Ok.cb (fun hcc=>?_) (fun hcc=>?_))
  ·(with_reducible refine AA (by assumption) (fun v1 k1 a1 b1 d1=>?_);try dsimp only)
   refine Ok.need (dN (by simp;omega)) ?_
   (simp (disch:=omega) only [dL,dS,dP,dQ])
   exact Ok.ret ⟨⟨rfl,by assumption,by omega,by rw[eJ];simp;omega,iA hs (all_cons ⟨a1,b1⟩ dX)⟩,by dsimp only;omega⟩
  ·exact Ok.ret ⟨rfl,hd3,by dsimp only;omega,hs⟩
 ·rintro⟨a,b,l',k3,s,_⟩ ⟨rfl,hd3,hs,hw⟩;exact Ok.ret ⟨_,_,rfl,hs,hw,hd3⟩
structure jW (code:List DIn) (s:List Int) (d:List (List Int)):Prop where
 sz:wA s
 len:d.length=s.length
 fit:∀(j:Nat) x n,d[j]?=some x→s[j]?=some n→(x.length:Int)≤n
 num:∀x∈d,∀w∈x,W16 w
 clen:1≤code.length∧code.length≤64
 ins:∀i∈code,gT s.length code.length i
theorem Ey{code:List DIn}{s:List Int}{d:List (List Int)}{l:List Int}{k:Int}(hp:jW code s d) :
 Ok (dO fA NN ((code.length:Int),0,l,k,(),(),(),code,s,d,())) fun r=>∃a b c,r=(a,b,c,l,k,(),(),(),code,s,d,()):=by
 have:=Ok.loop (f:=fA) (n:=NN) (g:=fun t=>some t) (Q:=fun r=>∃a b c,r=(a,b,c,l,k,(),(),(),code,s,d,())) (s:=((code.length:Int),0,l,k,(),(),(),code,s,d,()))
  (P:=fun s'=>∃i:Int,s'=((code.length:Int),i,l,k,(),(),(),code,s,d,())∧0≤i∧i≤code.length) (R:=fun r=>∃a b c,r=(a,b,c,l,k,(),(),(),code,s,d,())) (m:=fun s=>(s.1 - s.2.1).toNat) ⟨0,rfl,by omega,by omega⟩ (by unfold NN;dsimp only;have:=hp.clen;omega) ?_ (fun t ht=>Ok.ret ht)
 ·obtain⟨a,e,h⟩:=this;refine⟨a,?_,h⟩
  cases hl:dO fA NN ((code.length:Int),0,l,k,(),(),(),code,s,d,()) with
  | none=>rw[hl] at e;cases e
  | some x=>rw[hl] at e;exact e
 ·rintro _ ⟨i,rfl,hi0,hi1⟩;unfold fA;dsimp only;have hc:=hp.clen
  (with_reducible refine Ok.cb (fun hcc=>?_) (fun hcc=>?_))
  ·refine Ok.bind (P:=fun r=>r=((code.length:Int),i,l,k,(),(),(),code,s,d,())) ?_ ?_
   ·(with_reducible refine Ok.nat (by omega) (fun j hj=>?_);try dsimp only)
    refine Ok.get (by omega) fun x hx=>?_;have hin:=hp.ins x (dK hx);rw[vv];simp only[oBS];refine Ok.cond (fun hjp=>?_) fun _=>Ok.ret rfl;refine Ok.nat (by omega) fun j2 hj2=>?_;refine Ok.get (by omega) fun y hy=>?_
    have hjj:j2=j:=by omega
    subst hjj;rw[hx] at hy
    injection hy with hy
    subst hy;have:=hin.jmp hjp;refine Ok.cond (fun hcc=>?_) (fun hcc=>?_)
    ·have h9:(x.2.2.2.2:Int)≥(code.length:Int):=of_decide_eq_true hcc;omega
    ·exact Ok.ret rfl
   ·rintro _ rfl;dsimp only
    (simp (disch:=omega) only [dL,dS,dP,dQ])
    exact Ok.ret ⟨⟨i+1,rfl,by omega,by omega⟩,by dsimp only;omega⟩
  ·exact Ok.ret ⟨_,_,_,rfl⟩
theorem Fn{l:List Int}{k:Int}(h:DOk l k):Ok (kq l k) fun r=>∃code s d k',r=(code,s,d,l,k',())∧jW code s d∧DOk l k':=by
 unfold kq;refine (IO h).bind ?_;rintro _ ⟨s,k1,rfl,hs,hd⟩;obtain⟨hs1,hs4,hsz⟩:=id hs;dsimp only;delta dI
 try dsimp only
 refine Ok.loop (P:=fun s'=>∃k' d,s'=((s.length:Int),(d.length:Int),l,k',(),(),(),(),s,d,())∧DOk l k'∧d.length≤s.length∧(∀(j:Nat) x n,d[j]?=some x→s[j]?=some n→(x.length:Int)≤n)∧∀x∈d,∀w∈x,W16 w)
  (R:=fun r=>∃a b c k' d,r=(a,b,c,l,k',(),(),(),(),s,d,())∧DOk l k'∧d.length=s.length∧(∀(j:Nat) x n,d[j]?=some x→s[j]?=some n→(x.length:Int)≤n)∧∀x∈d,∀w∈x,W16 w)
  (m:=fun s=>(s.1 - s.2.1).toNat) ⟨k1,[],rfl,hd,by simp,by simp,dX⟩ (by unfold NN;dsimp only;omega) ?_ ?_
 ·rintro _ ⟨k',d,rfl,hd',hdl,hfit,hnum⟩;unfold ng;dsimp only
  (with_reducible refine Ok.cb (fun hcc=>?_) (fun hcc=>?_))
  ·(with_reducible refine Ok.nat (by omega) (fun j hj=>?_);try dsimp only)
   refine Ok.get (by omega) fun x hx=>?_;refine Ok.get (by omega) fun y hy=>?_
   have hj':j=d.length:=by omega
   subst hj';have hy2:=hsz y (dK hy);refine (nB hd' ⟨by omega,by omega⟩).bind ?_;rintro _ ⟨ws,k2,rfl,hwl,hww,hd2⟩;dsimp only;refine Ok.need (dN (by simp;omega)) ?_
   (simp (disch:=omega) only [dL,dS,dP,dQ])
   refine Ok.ret ⟨⟨k2,List.append d [ws],by rw[eJ];simp,hd2,by rw[eJ];simp;omega,?_,iA hnum (all_cons hww dX)⟩,by dsimp only;omega⟩;intro i x n hx hn;rw[show List.append d [ws]=d++[ws] from rfl,List.getElem?_append] at hx;split at hx
   ·exact hfit i x n hx hn
   ·rename_i hge
    have:i - d.length=0:=by
     rcases Nat.eq_zero_or_pos (i - d.length) with h | h
     ·exact h
     ·rw[List.getElem?_eq_none (by simp;omega)] at hx;cases hx
    have hi:i=d.length:=by omega
    subst hi;simp at hx;subst hx;rw[hy] at hn
    injection hn with hn
    omega
  ·exact Ok.ret ⟨_,_,_,_,_,rfl,hd',by omega,hfit,hnum⟩
 rintro _ ⟨a,b,c,k2,d,rfl,hd2,hdl,hfit,hnum⟩;dsimp only
 (with_reducible refine eY (by assumption) (by omega) (by omega) (fun v0 k0 a0 b0 d0=>?_);try dsimp only)
 (simp (disch:=omega) only [dL,dS,dP,dQ])
 refine Ok.loop (P:=fun s'=>∃i k' code,s'=(i,l,k',(),(),(),code,s,d,())∧0≤i∧i≤12∧DOk l k'∧code.length≤62∧∀i∈code,gT s.length code.length i)
  (R:=fun r=>∃a b k' code,r=(a,b,l,k',(),(),(),code,s,d,())∧DOk l k'∧code.length≤62∧∀i∈code,gT s.length code.length i)
  (m:=fun s=>s.1.toNat) ⟨_,_,[],rfl,by omega,by omega,d0,by simp,dX⟩ (by unfold NN;dsimp only;omega) ?_ ?_
 ·rintro _ ⟨i,k',code,rfl,hi0,hi1,hd',hcl,hins⟩;unfold ne;dsimp only
  (with_reducible refine Ok.cb (fun hcc=>?_) (fun hcc=>?_))
  ·refine Ok.bind (P:=fun r=>∃k' code,r=(i,l,k',(),(),(),code,s,d,())∧DOk l k'∧code.length≤62∧∀i∈code,gT s.length code.length i) ?_ ?_
   ·(simp (disch:=omega) only [dL,dS,dP,dQ])
    refine (Lp hd' hs ⟨by omega,by omega⟩).bind ?_;rintro _ ⟨xs,k3,rfl,hx1,hx6,hxs,hd3⟩;dsimp only
    (simp (disch:=omega) only [dL,dS,dP,dQ])
    (with_reducible refine Ok.cb (fun hcc=>?_) (fun hcc=>?_))
    ·refine Ok.need (dN (by omega)) ?_;refine Ok.ret ⟨_,_,rfl,hd3,by rw[eJ];omega,?_⟩;rw[eJ];exact iA (fun i hi=>(hins i hi).mono (by omega)) (fun i hi=>(hxs i hi).mono (by omega))
    ·exact Ok.ret ⟨_,_,rfl,hd3,hcl,hins⟩
   ·rintro _ ⟨k3,code2,rfl,hd3,hcl2,hins2⟩;dsimp only
    (simp (disch:=omega) only [dL,dS,dP,dQ])
    exact Ok.ret ⟨⟨_,_,_,rfl,by omega,by omega,hd3,hcl2,hins2⟩,by dsimp only;omega⟩
  ·exact Ok.ret ⟨_,_,_,_,rfl,hd',hcl,hins⟩
 rintro _ ⟨a,b,k3,code,rfl,hd3,hcl,hins⟩;dsimp only;refine Ok.bind (P:=fun r=>∃k' code,r=(l,k',(),(),(),code,s,d,())∧DOk l k'∧code.length≤63∧∀i∈code,gT s.length (code.length+1) i) ?_ ?_
 ·(with_reducible refine eY (by assumption) (by omega) (by omega) (fun v1 k1 a1 b1 d1=>?_);try dsimp only)
  (with_reducible refine Ok.cb (fun hcc=>?_) (fun hcc=>?_))
  ·(simp (disch:=omega) only [dL,dS,dP,dQ])
   (with_reducible refine eY (by assumption) (by omega) (by omega) (fun v2 k2 a2 b2 d2=>?_);try dsimp only)
   refine Ok.need (dN (by simp;omega)) ?_;refine Ok.ret ⟨_,_,rfl,d2,by rw[eJ];simp;omega,?_⟩;rw[eJ];exact iA (fun i hi=>(hins i hi).mono (by simp;omega)) (all_cons (Lz (by omega) (by simp;omega)) dX)
  ·(with_reducible refine Ok.cb (fun hcc=>?_) (fun hcc=>?_))
   ·refine Ok.need (dN (by simp;omega)) ?_;refine Ok.ret ⟨_,_,rfl,d1,by rw[eJ];simp;omega,?_⟩;rw[eJ];exact iA (fun i hi=>(hins i hi).mono (by simp;omega)) (all_cons Le dX)
   ·exact Ok.ret ⟨_,_,rfl,d1,by omega,fun i hi=>(hins i hi).mono (by omega)⟩
 rintro _ ⟨k4,code2,rfl,hd4,hcl2,hins2⟩;dsimp only
 (with_reducible refine eY (by assumption) (by omega) (by omega) (fun v3 k3 a3 b3 d3=>?_);try dsimp only)
 simp only[Ms,Kk,oBS];refine Ok.need (dN (by simp;omega)) ?_;simp only[eJ];refine Ok.cond (fun hc=>?_) fun _=>?_
 ·have hall:∀i∈List.append code2 [(1,0,0,0,v3),(23,0,0,0,0)],gT s.length (code2.length+1) i:=iA hins2 (all_cons (A3 (by omega) (by omega)) (all_cons (uS (by omega)) dX));simp only[decide_eq_true_eq] at hc
  have hcn:(code2.length:Int)+2 > 64:=by
   have:((code2.length + [((1:Int),(0:Int),(0:Int),(0:Int),v3),(23,0,0,0,0)].length:Nat):Int) > 64:=hc;simpa using this
  have h63:code2.length=63:=by omega
  refine Ok.need (by rw[h63];rfl) ?_
  have hlen:(na (List.append code2 [((1:Int),(0:Int),(0:Int),(0:Int),v3),(23,0,0,0,0)]) 0 (Nat.sub 64 0)).length=64:=by
   unfold na;rw[List.length_take,List.drop_zero,eJ,h63];rfl
  have hp:jW (na (List.append code2 [((1:Int),(0:Int),(0:Int),(0:Int),v3),(23,0,0,0,0)]) 0 (Nat.sub 64 0)) s d:=by
   refine⟨hs,hdl,hfit,hnum,by rw[hlen];decide,fun i hi=>?_⟩;rw[hlen];refine (hall i ?_).mono (by omega);unfold na at hi;exact List.mem_of_mem_drop (List.mem_of_mem_take hi)
  refine (Ey (l:=l) (k:=_) hp).bind ?_;rintro _ ⟨a,b,c,rfl⟩;exact Ok.ret ⟨_,_,_,_,rfl,hp,d3⟩
 ·have hp:jW (List.append code2 [(1,0,0,0,v3),(23,0,0,0,0)]) s d:=by
   refine⟨hs,hdl,hfit,hnum,?_,?_⟩
   ·rw[eJ];rename_i hc;have hcn:¬ ((code2.length + [((1:Int),(0:Int),(0:Int),(0:Int),v3),(23,0,0,0,0)].length:Nat):Int) > 64:=of_decide_eq_false hc;simp only[List.length_cons,List.length_nil] at hcn ⊢;omega
   ·rw[eJ];exact iA (fun i hi=>(hins2 i hi).mono (by simp)) (all_cons (A3 (by omega) (by omega)) (all_cons (uS (by omega)) dX))
  have hf:=Ey (l:=l) (k:=k3) hp;rw[eJ] at hf;refine hf.bind ?_;rintro _ ⟨a,b,c,rfl⟩;exact Ok.ret ⟨_,_,_,_,rfl,hp,d3⟩
theorem EO{P:Int→Prop}{s:List Int}{i:Nat}{x:Int}(h:∀(j:Nat) y,j < i→s[j]?=some y→P y) (hx:s[i]?=some x) (hp:P x):∀(j:Nat) y,j < i+1→s[j]?=some y→P y:=by
 intro j y hj hy;by_cases hji:j=i
 ·subst hji;rw[hx] at hy
  injection hy with hy
  subst hy;exact hp
 ·exact h j y (by omega) hy
theorem Gj{s:List Int}(hl:s.length≤1000):Ok (gr s) fun r=>r.1=true↔wA s:=by
 unfold gr;delta dI
 try dsimp only
 obtain⟨t,e,ht⟩:=Ok.iter (f:=k8) (n:=NN) (s:=(s,s,(s.length:Int),0,())) (P:=fun s'=>∃i:Nat,s'=(s,s,(s.length:Int),(i:Int),())∧i≤s.length∧∀(j:Nat) y,j < i→s[j]?=some y→1≤y∧y≤32)
  (R:=fun r=>(r=.inl (false,())∧∃y∈s,¬ (1≤y∧y≤32))∨((∃a b c d,r=.inr (s,a,b,c,d,()))∧∀y∈s,1≤y∧y≤32)) (m:=fun s'=>(s'.2.2.1 - s'.2.2.2.1).toNat) ⟨0,rfl,by omega,fun j y hj=>by omega⟩ (by unfold NN;dsimp only;omega) (by
   rintro _ ⟨i,rfl,hi,hall⟩;unfold k8;dsimp only
   (with_reducible refine Ok.cb (fun hcc=>?_) (fun hcc=>?_))
   ·rw[dH];simp only[oBS];refine Ok.get (by omega) fun x hx=>?_
    (with_reducible refine Ok.cb (fun hcd=>?_) (fun hcd=>?_))
    ·exact Ok.ret (.inl ⟨rfl,x,dK hx,by omega⟩)
    ·(with_reducible refine Ok.cb (fun hce=>?_) (fun hce=>?_))
     ·exact Ok.ret (.inl ⟨rfl,x,dK hx,by omega⟩)
     ·(simp (disch:=omega) only [dL,dS,dP,dQ])
      exact Ok.ret ⟨⟨i+1,rfl,by omega,EO hall hx ⟨by omega,by omega⟩⟩,by dsimp only;omega⟩
   ·refine Ok.ret (.inr ⟨⟨_,_,_,_,rfl⟩,fun y hy=>?_⟩);obtain⟨j,hj⟩:=List.getElem?_of_mem hy
    exact hall j y (by have:=(oGS hj).1;omega) hj)
 rw[e];rcases ht with ⟨rfl,y,hy,hn⟩ | ⟨⟨a,b,c,d,rfl⟩,hall⟩
 ·exact Ok.ret ⟨fun h=>(by cases h),fun h=>absurd (h.2.2 y hy) hn⟩
 ·dsimp only
  (with_reducible refine Ok.cb (fun hcc=>?_) (fun hcc=>?_))
  ·exact Ok.ret ⟨fun h=>⟨by omega,(by have:=of_decide_eq_true h;omega),hall⟩,fun h=>decide_eq_true (by have:=h.2.1;omega)⟩
  ·exact Ok.ret ⟨fun h=>(by cases h),fun h=>by have:=h.1;omega⟩
abbrev VS(xs:List Int):Prop:=wA xs
theorem Dy{l:List Int}{k:Nat}(h:k < l.length):l.getD k 0=l[k]:=by simp[List.getD,h]
def uv(bs ss:List Int) (i:Nat):Prop:=
 0≤bs.getD i 0∧bs.getD i 0+ss.getD i 0≤512∧∀k,k < i→¬ (bs.getD i 0≤bs.getD k 0+ss.getD k 0∧bs.getD k 0≤bs.getD i 0+ss.getD i 0)
def LV(bs ss:List Int):Prop:=VS ss∧bs.length=ss.length∧∀i,i < bs.length→uv bs ss i
theorem VS.at_{ss:List Int}(h:VS ss) {i:Nat}(hi:i < ss.length):1≤ss[i]∧ss[i]≤32:=h.2.2 _ (List.getElem_mem hi)
def ql(ss:List Int) (seed:Int):Nat→List Int×Int
 | 0=>(List.replicate ss.length 0,1+seed / ss.length % 50)
 | k+1=>((ql ss seed k).1.set (((k+seed) % ss.length).toNat) (ql ss seed k).2,(ql ss seed k).2+(ss.getD ((k+seed) % ss.length).toNat 0+1+seed / (50*ss.length) % 40))
def mkB(ss:List Int) (seed:Int):List Int:=(ql ss seed ss.length).1
theorem JA(ss:List Int) (seed:Int) (k:Nat):(ql ss seed k).1.length=ss.length:=by
 induction k with
 | zero=>simp[ql]
 | succ k ih=>simp[ql,ih]
theorem VS.getD{ss:List Int}(h:VS ss) {i:Nat}(hi:i < ss.length):1≤ss.getD i 0∧ss.getD i 0≤32:=by rw[Dy hi];exact h.at_ hi
theorem Kn{n k:Nat}{seed:Int}(hn:1≤n):0≤((k:Int)+seed) % n∧((k:Int)+seed) % n < n:=
 ⟨Int.emod_nonneg _ (by omega),Int.emod_lt_of_pos _ (by omega)⟩
theorem Lt{ss:List Int}{seed:Int}(h:VS ss) (hs:0≤seed) (k:Nat):1≤(ql ss seed k).2∧(ql ss seed k).2≤50+72*k:=by
 induction k with
 | zero=>simp only[ql];have:=Int.emod_nonneg (seed / (ss.length:Int)) (show (50:Int)≠0 by decide);have:=Int.emod_lt_of_pos (seed / (ss.length:Int)) (show (0:Int) < 50 by decide);omega
 | succ k ih=>
  simp only[ql];have hr:=Kn (k:=k) (seed:=seed) h.1;have:=h.getD (i:=(((k:Int)+seed) % ss.length).toNat) (by omega);have:=Int.emod_nonneg (seed / (50*(ss.length:Int))) (show (40:Int)≠0 by decide);have:=Int.emod_lt_of_pos (seed / (50*(ss.length:Int))) (show (0:Int) < 40 by decide);omega
theorem HK{ss:List Int}(h0:1≤ss.length) (h1:ss.length≤4):(∃a,ss=[a])∨(∃a b,ss=[a,b])∨(∃a b c,ss=[a,b,c])∨(∃a b c d,ss=[a,b,c,d]):=by
 match ss,h0,h1 with
 | [a],_,_=>exact .inl ⟨a,rfl⟩
 | [a,b],_,_=>exact .inr (.inl ⟨a,b,rfl⟩)
 | [a,b,c],_,_=>exact .inr (.inr (.inl ⟨a,b,c,rfl⟩))
 | [a,b,c,d],_,_=>exact .inr (.inr (.inr ⟨a,b,c,d,rfl⟩))
theorem uz{P:Nat→Prop}(h0:P 0):∀i,i < 1→P i:=fun i hi=>by
 match i,hi with
 | 0,_=>exact h0
theorem yA{P:Nat→Prop}(h0:P 0) (h1:P 1):∀i,i < 2→P i:=fun i hi=>by
 match i,hi with
 | 0,_=>exact h0
 | 1,_=>exact h1
theorem Ef{P:Nat→Prop}(h0:P 0) (h1:P 1) (h2:P 2):∀i,i < 3→P i:=fun i hi=>by
 match i,hi with
 | 0,_=>exact h0
 | 1,_=>exact h1
 | 2,_=>exact h2
theorem Jg{P:Nat→Prop}(h0:P 0) (h1:P 1) (h2:P 2) (h3:P 3):∀i,i < 4→P i:=fun i hi=>by
 match i,hi with
 | 0,_=>exact h0
 | 1,_=>exact h1
 | 2,_=>exact h2
 | 3,_=>exact h3
def IC(b s:Int):Prop:=0≤b∧b+s≤512
def fK(b s b' s':Int):Prop:=¬ (b≤b'+s'∧b'≤b+s)
theorem LV1{a x:Int}(hv:VS [a]) (h:IC x a):LV [x] [a]:=
 ⟨hv,rfl,uz ⟨h.1,h.2,fun k hk=>by omega⟩⟩
theorem LV2{a b x y:Int}(hv:VS [a,b]) (h:IC x a) (h':IC y b) (h1:fK y b x a):LV [x,y] [a,b]:=
 ⟨hv,rfl,yA ⟨h.1,h.2,fun k hk=>by omega⟩ ⟨h'.1,h'.2,uz h1⟩⟩
theorem LV3{a b c x y z:Int}(hv:VS [a,b,c]) (h:IC x a) (h':IC y b) (h'':IC z c) (h1:fK y b x a) (h2:fK z c x a) (h3:fK z c y b):LV [x,y,z] [a,b,c]:=
 ⟨hv,rfl,Ef ⟨h.1,h.2,fun k hk=>by omega⟩ ⟨h'.1,h'.2,uz h1⟩ ⟨h''.1,h''.2,yA h2 h3⟩⟩
theorem LV4{a b c d x y z u:Int}(hv:VS [a,b,c,d]) (h:IC x a) (h':IC y b) (h'':IC z c) (h''':IC u d) (h1:fK y b x a) (h2:fK z c x a) (h3:fK z c y b) (h4:fK u d x a) (h5:fK u d y b) (h6:fK u d z c):LV [x,y,z,u] [a,b,c,d]:=
 ⟨hv,rfl,Jg ⟨h.1,h.2,fun k hk=>by omega⟩ ⟨h'.1,h'.2,uz h1⟩ ⟨h''.1,h''.2,yA h2 h3⟩ ⟨h'''.1,h'''.2,Ef h4 h5 h6⟩⟩
theorem MO{ss:List Int}(hv:VS ss) {seed:Int}(hs:0≤seed):LV (mkB ss seed) ss:=by
 have hv0:=hv;rcases HK hv.1 hv.2.1 with ⟨a,rfl⟩ | ⟨a,b,rfl⟩ | ⟨a,b,c,rfl⟩ | ⟨a,b,c,d,rfl⟩
 ·obtain⟨_,_,hx⟩:=hv;have ha:=hx a (by simp)
  have e0:(((0:Nat):Int)+seed) % 1=0:=by omega
  have hB:mkB [a] seed=[1+seed / 1 % 50]:=by simp[mkB,ql,List.replicate]
  rw[hB];exact LV1 hv0 ⟨by omega,by omega⟩
 ·obtain⟨_,_,hx⟩:=hv;have ha:=hx a (by simp);have hb:=hx b (by simp);rcases (show seed % 2=0∨seed % 2=1 by omega) with ht | ht
  ·have e1:(1+seed) % 2=1:=by omega
   simp only[mkB,ql,List.length_cons,List.length_nil,List.replicate];simp[ht,e1];exact LV2 hv0 ⟨by omega,by omega⟩ ⟨by omega,by omega⟩ (by unfold fK;omega)
  ·have e1:(1+seed) % 2=0:=by omega
   simp only[mkB,ql,List.length_cons,List.length_nil,List.replicate];simp[ht,e1];exact LV2 hv0 ⟨by omega,by omega⟩ ⟨by omega,by omega⟩ (by unfold fK;omega)
 ·obtain⟨_,_,hx⟩:=hv;have ha:=hx a (by simp);have hb:=hx b (by simp);have hc:=hx c (by simp);rcases (show seed % 3=0∨seed % 3=1∨seed % 3=2 by omega) with ht | ht | ht
  ·have e1:(1+seed) % 3=1:=by omega
   have e2:(2+seed) % 3=2:=by omega
   simp only[mkB,ql,List.length_cons,List.length_nil,List.replicate];simp[ht,e1,e2];exact LV3 hv0 ⟨by omega,by omega⟩ ⟨by omega,by omega⟩ ⟨by omega,by omega⟩ (by unfold fK;omega) (by unfold fK;omega) (by unfold fK;omega)
  ·have e1:(1+seed) % 3=2:=by omega
   have e2:(2+seed) % 3=0:=by omega
   simp only[mkB,ql,List.length_cons,List.length_nil,List.replicate];simp[ht,e1,e2];exact LV3 hv0 ⟨by omega,by omega⟩ ⟨by omega,by omega⟩ ⟨by omega,by omega⟩ (by unfold fK;omega) (by unfold fK;omega) (by unfold fK;omega)
  ·have e1:(1+seed) % 3=0:=by omega
   have e2:(2+seed) % 3=1:=by omega
   simp only[mkB,ql,List.length_cons,List.length_nil,List.replicate];simp[ht,e1,e2];exact LV3 hv0 ⟨by omega,by omega⟩ ⟨by omega,by omega⟩ ⟨by omega,by omega⟩ (by unfold fK;omega) (by unfold fK;omega) (by unfold fK;omega)
 ·obtain⟨_,_,hx⟩:=hv;have ha:=hx a (by simp);have hb:=hx b (by simp);have hc:=hx c (by simp);have hd:=hx d (by simp)
  have hq:∀q g:Int,q=1+seed / 4 % 50→g=seed / (50*4) % 40→1≤q∧q≤50∧0≤g∧g < 40:=fun q g e e'=>by subst e;subst e';omega
  rcases (show seed % 4=0∨seed % 4=1∨seed % 4=2∨seed % 4=3 by omega) with ht | ht | ht | ht
  ·have e1:(1+seed) % 4=1:=by omega
   have e2:(2+seed) % 4=2:=by omega
   have e3:(3+seed) % 4=3:=by omega
   simp only[mkB,ql,List.length_cons,List.length_nil,List.replicate];simp[ht,e1,e2,e3];exact LV4 hv0 ⟨by omega,by omega⟩ ⟨by omega,by omega⟩ ⟨by omega,by omega⟩ ⟨by omega,by omega⟩ (by unfold fK;omega) (by unfold fK;omega) (by unfold fK;omega) (by unfold fK;omega) (by unfold fK;omega) (by unfold fK;omega)
  ·have e1:(1+seed) % 4=2:=by omega
   have e2:(2+seed) % 4=3:=by omega
   have e3:(3+seed) % 4=0:=by omega
   simp only[mkB,ql,List.length_cons,List.length_nil,List.replicate];simp[ht,e1,e2,e3];exact LV4 hv0 ⟨by omega,by omega⟩ ⟨by omega,by omega⟩ ⟨by omega,by omega⟩ ⟨by omega,by omega⟩ (by unfold fK;omega) (by unfold fK;omega) (by unfold fK;omega) (by unfold fK;omega) (by unfold fK;omega) (by unfold fK;omega)
  ·have e1:(1+seed) % 4=3:=by omega
   have e2:(2+seed) % 4=0:=by omega
   have e3:(3+seed) % 4=1:=by omega
   simp only[mkB,ql,List.length_cons,List.length_nil,List.replicate];simp[ht,e1,e2,e3];exact LV4 hv0 ⟨by omega,by omega⟩ ⟨by omega,by omega⟩ ⟨by omega,by omega⟩ ⟨by omega,by omega⟩ (by unfold fK;omega) (by unfold fK;omega) (by unfold fK;omega) (by unfold fK;omega) (by unfold fK;omega) (by unfold fK;omega)
  ·have e1:(1+seed) % 4=0:=by omega
   have e2:(2+seed) % 4=1:=by omega
   have e3:(3+seed) % 4=2:=by omega
   simp only[mkB,ql,List.length_cons,List.length_nil,List.replicate];simp[ht,e1,e2,e3];exact LV4 hv0 ⟨by omega,by omega⟩ ⟨by omega,by omega⟩ ⟨by omega,by omega⟩ ⟨by omega,by omega⟩ (by unfold fK;omega) (by unfold fK;omega) (by unfold fK;omega) (by unfold fK;omega) (by unfold fK;omega) (by unfold fK;omega)
theorem xZ{α:Type}(l:List α) (i:Nat) (a:α):List.modify l i (fun _=>a)=l.set i a:=by
 apply List.ext_getElem?;intro j;rw[List.getElem?_modify,List.getElem?_set];by_cases h:i=j
 ·subst h;simp only[if_true];by_cases hl:i < l.length
  ·simp[hl]
  ·simp[hl,List.getElem?_eq_none (Nat.le_of_not_lt hl)]
 ·simp[h]
theorem Lw{s:List Int}{seed:Int}(hs:wA s) (h0:0≤seed) (h1:seed≤1073741824):Ok (mL s seed) fun r=>∃key,r=(mkB s seed,key,0,())∧W16 key:=by
 obtain⟨hs1,hs4,hsz⟩:=id hs;unfold mL;delta dI
 try dsimp only
 refine Ok.bind (P:=fun r=>r=(s,seed,false,(),0,())) ?_ ?_
 ·refine (Gj (by omega)).bind ?_;rintro⟨v,_⟩ hv;have hv:v=true:=hv.2 hs;subst hv;simp only[Bool.not_true,cond_false]
  (with_reducible refine Ok.cb (fun hcb=>?_) (fun hcb=>?_))
  ·omega
  ·exact Ok.ret (by rw[decide_eq_false (by omega)])
 rintro _ rfl;dsimp only;refine Ok.cond (fun h=>by cases h) fun _=>?_;rw[dH];simp only[oBS];refine Ok.need (by unfold qO;rw[Bool.and_eq_true];exact⟨decide_eq_true rfl,decide_eq_true (by omega)⟩) ?_;refine Ok.need (by rw[bne_iff_ne];omega) ?_;have hd1:Int.tdiv seed s.length=seed / s.length:=Int.tdiv_eq_ediv_of_nonneg h0;have hq:0≤seed / (s.length:Int)∧seed / (s.length:Int)≤seed:=⟨Int.ediv_nonneg h0 (by omega),Int.ediv_le_self _ h0⟩;have hm1:Int.tmod (seed / (s.length:Int)) 50=seed / (s.length:Int) % 50:=Int.tmod_eq_emod_of_nonneg hq.1
 have hm2:0≤seed / (s.length:Int) % 50∧seed / (s.length:Int) % 50 < 50:=by omega
 rw[hd1,dL (x:=seed / (s.length:Int)) (by omega) (by omega),hm1,dL (x:=1+seed / (s.length:Int) % 50) (by omega) (by omega)]
 have hkey:W16 (wk .u16 (w64 (40503*seed))):=by
  unfold wk;rw[yp];exact⟨by omega,by omega⟩
 generalize wk .u16 (w64 (40503*seed))=key at hkey
 refine Ok.loop (P:=fun s'=>∃k:Nat,s'=(s,seed,(s.length:Int),(ql s seed k).2,(s.length:Int),(k:Int),(),0,(ql s seed k).1,key,())∧k≤s.length) (R:=fun r=>∃a b c d e f g h,r=(a,b,c,d,e,f,g,(),h,(ql s seed s.length).1,key,()))
  (m:=fun s'=>(s'.2.2.2.2.1 - s'.2.2.2.2.2.1).toNat) ⟨0,rfl,by omega⟩ (by unfold NN;dsimp only;omega) ?_ ?_
 ·rintro _ ⟨k,rfl,hk⟩;unfold oP;dsimp only;have hb:=Lt hs h0 k
  (with_reducible refine Ok.cb (fun hcc=>?_) (fun hcc=>?_))
  ·have hr:=Kn (k:=k) (seed:=seed) hs1;rw[dL (x:=(k:Int)+seed) (by omega) (by omega)];refine Ok.need (by rw[bne_iff_ne];omega) ?_;rw[Int.tmod_eq_emod_of_nonneg (show 0≤(k:Int)+seed by omega)];refine Ok.nat hr.1 fun r hrr=>?_;have hl:=JA s seed k;refine Ok.get (by omega) fun x hx=>?_;refine Ok.get (by omega) fun y hy=>?_;refine Ok.nat hr.1 fun r2 hrr2=>?_
   have:r2=r:=by omega
   subst this;refine Ok.get (by omega) fun z hz=>?_;have hz2:=hsz z (dK hz);rw[dL (x:=z+1) (by omega) (by omega),dL (x:=50*(s.length:Int)) (by omega) (by omega)];refine Ok.need (by rw[bne_iff_ne];omega) ?_;have hd2:Int.tdiv seed (50*(s.length:Int))=seed / (50*s.length):=Int.tdiv_eq_ediv_of_nonneg h0;have hq2:0≤seed / (50*(s.length:Int))∧seed / (50*(s.length:Int))≤seed:=⟨Int.ediv_nonneg h0 (by omega),Int.ediv_le_self _ h0⟩;have hm3:Int.tmod (seed / (50*(s.length:Int))) 40=seed / (50*s.length) % 40:=Int.tmod_eq_emod_of_nonneg hq2.1;rw[hd2,dL (x:=seed / (50*(s.length:Int))) (by omega) (by omega),hm3];generalize hg:seed / (50*(s.length:Int)) % 40=g
   have hg2:0≤g∧g < 40:=by omega
   rw[dL (x:=z+1+g) (by omega) (by omega),dL (x:=(ql s seed k).2+(z+1+g)) (by omega) (by omega),dL (x:=(k:Int)+1) (by omega) (by omega),xZ]
   have e1:(ql s seed (k+1)).1=(ql s seed k).1.set r2 (ql s seed k).2:=by
    simp only[ql];rw[hrr];rfl
   have e2:(ql s seed (k+1)).2=(ql s seed k).2+(z+1+g):=by
    simp only[ql];rw[hrr,hg,Int.toNat_natCast,List.getD_eq_getElem?_getD,hz];rfl
   refine Ok.ret ⟨⟨k+1,?_,by omega⟩,by dsimp only;omega⟩;rw[e1,e2];rfl
  ·have:k=s.length:=by omega
   subst this;exact Ok.ret ⟨_,_,_,_,_,_,_,_,rfl⟩
 ·rintro _ ⟨a,b,c,d,e,f,g,h,rfl⟩;exact Ok.ret ⟨key,rfl,hkey⟩
theorem mt{S T:Type}{f:S→Option (S⊕T)}(st:Nat→S) {n N:Nat}{t:T}(hn:n < N) (h:∀i,i < n→Ok (f (st i)) (·=.inl (st (i+1)))) (he:Ok (f (st n)) (·=.inr t)):dO f N (st 0)=some t:=by
 have key:∀k i,i+k=n→∀N,k < N→dO f N (st i)=some t:=by
  intro k
  induction k with
  | zero=>
   intro i hi N hN;obtain⟨x,e,hx⟩:=he
   have:i=n:=by omega
   subst this;obtain⟨N',rfl⟩:∃N',N=N'+1:=⟨N - 1,by omega⟩;simp only[dO,e,hx,oBS]
  | succ k ih=>
   intro i hi N hN;obtain⟨x,e,hx⟩:=h i (by omega);obtain⟨N',rfl⟩:∃N',N=N'+1:=⟨N - 1,by omega⟩;simp only[dO,e,hx,oBS];exact ih (i+1) (by omega) N' (by omega)
 exact key n 0 (by omega) N hn
theorem Ok.eq{α:Type}{o:Option α}{a:α}(h:Ok o (·=a)):o=some a:=by
 obtain⟨x,e,rfl⟩:=h;exact e
theorem ej{l:List Int}{k:Nat}{x:Int}(h:l[k]?=some x):l.getD k 0=x:=by rw[List.getD_eq_getElem?_getD,h];rfl
theorem xK{s:List Int}(h:wA s):gr s=some (true,()):=by
 obtain⟨⟨v,u⟩,e,hv⟩:=Gj (s:=s) (by have:=h.2.1;omega);have hv:v=true:=hv.2 h;rw[e,hv]
theorem pJ{bs ss:List Int}{key:Int}(h:LV bs ss):gn bs key ss=some (true,()):=by
 obtain⟨hs,hl,hr⟩:=h;have h4:=hs.2.1;unfold gn;rw[xK hs];delta dI;simp only[oBS,Bool.not_true,cond_false,hl,bne_self_eq_false]
 have e:dO iX NN (ss,bs,(ss.length:Int),0,bs,key,())=some (.inr (ss,bs,(ss.length:Int),(ss.length:Int),false,bs,key,())):=by
  refine mt (st:=fun i=>(ss,bs,(ss.length:Int),(i:Int),bs,key,())) (n:=ss.length) (by unfold NN;omega) ?_ ?_
  ·intro i hi;unfold iX;dsimp only;have hri:=hr i (by omega);unfold uv at hri
   (with_reducible refine Ok.cb (fun hca=>?_) (fun hca=>?_))
   ·rw[dH];simp only[oBS];refine Ok.get (by omega) fun b hb=>?_;rw[ej hb] at hri
    (with_reducible refine Ok.cb (fun hcb=>?_) (fun hcb=>?_))
    ·omega
    ·refine Ok.get (by omega) fun z hz=>?_;rw[ej hz] at hri;have hz2:=hs.2.2 z (dK hz)
     (simp (disch:=omega) only [dL,dS,dP,dQ])
     (with_reducible refine Ok.cb (fun hcc=>?_) (fun hcc=>?_))
     ·omega
     ·refine Ok.need (by unfold ji;simp;omega) ?_
      have hwl:(na bs 0 (Nat.sub i 0)).length=i:=by unfold na;rw[List.length_take,List.drop_zero];show min i _=i;omega
      rw[hwl]
      have e:dO iY NN (ss,(i:Int),b,bs,(ss.length:Int),(i:Int),na bs 0 (Nat.sub i 0),(i:Int),0,bs,key,())=some (.inr (ss,(i:Int),b,bs,(ss.length:Int),(i:Int),na bs 0 (Nat.sub i 0),(i:Int),(i:Int),false,bs,key,())):=by
       refine mt (st:=fun j=>(ss,(i:Int),b,bs,(ss.length:Int),(i:Int),na bs 0 (Nat.sub i 0),(i:Int),(j:Int),bs,key,())) (n:=i) (by unfold NN;omega) ?_ ?_
       ·intro j hj;unfold iY;dsimp only
        (with_reducible refine Ok.cb (fun hca=>?_) (fun hca=>?_))
        ·rw[dH,dH];simp only[oBS]
         have hx:(dF (na bs 0 (Nat.sub i 0)) j)=bs[j]?:=by
          unfold dF na;rw[List.getElem?_take,List.drop_zero];exact if_pos hj
         rw[hx];obtain⟨c,hc⟩:∃c,bs[j]?=some c:=⟨_,oGE (by omega)⟩;obtain⟨y,hy⟩:∃y,ss[j]?=some y:=⟨_,oGE (by omega)⟩;have hy2:=hs.2.2 y (dK hy);have hz':dF ss i=some z:=hz;have hy':dF ss j=some y:=hy;rw[hc,hz',hy'];simp only[oBS];have hrj:=(hr j (by omega)).1;have hrj2:=(hr j (by omega)).2.1;rw[ej hc] at hrj hrj2;rw[ej hy] at hrj2;have hap:=hri.2.2 j hj;rw[ej hc,ej hy] at hap;rw[dL (x:=b+z) (by omega) (by omega),dL (x:=c+y) (by omega) (by omega)];by_cases h1:b+z≥c
         ·have h2:¬ c+y≥b:=by omega
          simp only[h1,h2,decide_true,decide_false,cond_true,cond_false]
          (simp (disch:=omega) only [dL,dS,dP,dQ])
          exact Ok.ret rfl
         ·simp only[h1,decide_false,cond_false]
          (simp (disch:=omega) only [dL,dS,dP,dQ])
          exact Ok.ret rfl
        ·omega
       ·unfold iY;dsimp only
        (with_reducible refine Ok.cb (fun hca=>?_) (fun hca=>?_))
        ·omega
        ·exact Ok.ret rfl
      rw[e]
      (simp (disch:=omega) only [dL,dS,dP,dQ])
      exact Ok.ret rfl
   ·omega
  ·unfold iX;dsimp only
   (with_reducible refine Ok.cb (fun hca=>?_) (fun hca=>?_))
   ·omega
   ·exact Ok.ret rfl
 rw[e]
theorem HX{n m o a b c i:Int}(h:gT n m (o,a,b,c,i)) (hn:n≤4) (hm:m≤64):lr o a b c i=some (true,()):=by
 obtain⟨⟨o0,o1⟩,⟨a0,a1,a2⟩,⟨b0,b1,b2⟩,⟨c0,c1,c2⟩,⟨i0,i1,i2⟩,hl,hs,hj⟩:=h;dsimp only at *
 have step:∀(k:Nat) (x:Int) (u:Bool),k < 3→[a,b,c][k]?=some x→(k=0→u=nH o)→(k=1→u=nG o)→(k=2→u=nF o)→0≤x→x < 8→(u=false→x=0) →
  Ok (iV (3,(k:Int),o,a,b,c,i,nH o,nG o,nF o,nE o,[a,b,c],())) (·=.inl (3,((k+1:Nat):Int),o,a,b,c,i,nH o,nG o,nF o,nE o,[a,b,c],())):=by
  intro k x u hk hx h0 h1 h2 hx0 hx1 hx2;unfold iV;dsimp only
  (with_reducible refine Ok.cb (fun hca=>?_) (fun hca=>?_))
  ·rw[dH];simp only[oBS];rw[show dF [a,b,c] k=some x from hx];simp only[oBS];rw[decide_eq_false (show ¬ x < 0 by omega),decide_eq_false (show ¬ x≥8 by omega)];simp only[cond_false];have fin:Ok (some ((3:Int),(k:Int),false,o,a,b,c,i,nH o,nG o,nF o,nE o,[a,b,c],())) (·=((3:Int),(k:Int),false,o,a,b,c,i,nH o,nG o,nF o,nE o,[a,b,c],())):=Ok.ret rfl
   have fin2:u=false→(x != 0)=false:=fun h=>by rw[hx2 h];rfl
   refine Ok.bind (P:=(·=((3:Int),(k:Int),false,o,a,b,c,i,nH o,nG o,nF o,nE o,[a,b,c],()))) ?_ ?_
   ·rcases (show k=0∨k=1∨k=2 by omega) with rfl | rfl | rfl
    ·rw[← h0 rfl] at fin ⊢;refine Ok.need rfl ?_;refine Ok.cond (fun hu=>?_) fun _=>fin;rw[fin2 (by simpa using hu)];exact fin
    ·rw[← h1 rfl] at fin ⊢;refine Ok.cond (fun hu=>by cases hu) fun _=>Ok.need rfl (Ok.cond (fun hu=>?_) fun _=>fin);rw[fin2 (by simpa using hu)];exact fin
    ·rw[← h2 rfl] at fin ⊢;refine Ok.cond (fun hu=>by cases hu) fun _=>Ok.cond (fun hu=>by cases hu) fun _=>Ok.need rfl (Ok.cond (fun hu=>?_) fun _=>fin);rw[fin2 (by simpa using hu)];exact fin
   ·rintro _ rfl;dsimp only;rw[dL (x:=(k:Int)+1) (by omega) (by omega)];exact Ok.ret rfl
  ·omega
 have e:dO iV NN (3,0,o,a,b,c,i,nH o,nG o,nF o,nE o,[a,b,c],())=some (.inr (3,3,false,o,a,b,c,i,nH o,nG o,nF o,nE o,[a,b,c],())):=by
  refine mt (st:=fun k=>(3,(k:Int),o,a,b,c,i,nH o,nG o,nF o,nE o,[a,b,c],())) (n:=3) (by unfold NN;omega) ?_ ?_
  ·intro k hk;rcases (show k=0∨k=1∨k=2 by omega) with rfl | rfl | rfl
   ·exact step 0 a _ (by omega) rfl (fun _=>rfl) (by omega) (by omega) a0 a1 a2
   ·exact step 1 b _ (by omega) rfl (by omega) (fun _=>rfl) (by omega) b0 b1 b2
   ·exact step 2 c _ (by omega) rfl (by omega) (by omega) (fun _=>rfl) c0 c1 c2
  ·exact Ok.ret rfl
 refine Ok.eq ?_;unfold lr;rw[decide_eq_false (show ¬ o < 0 by omega),decide_eq_false (show ¬ o > 24 by omega),Gk o0 o1];simp only[cond_false,oBS];rw[show dI [a,b,c].length=3 from rfl,e];dsimp only;rw[decide_eq_false (show ¬ i < 0 by omega),decide_eq_false (show ¬ i > 65535 by omega)];simp only[cond_false];refine Ok.bind (P:=(·=(false,o,a,b,c,i,()))) ?_ ?_
 ·refine Ok.cond (fun hu=>?_) fun _=>Ok.ret rfl;exact Ok.ret (by rw[i2 (by simpa using hu)];rfl)
 rintro _ rfl;dsimp only;rw[vv];simp only[cond_false,oBS];refine Ok.cond (fun hu=>?_) fun _=>?_
 ·exact Ok.ret (by rw[decide_eq_true (by have:=hj hu;omega)])
 ·(with_reducible refine Ok.cb (fun hcc=>?_) (fun hcc=>?_))
  ·exact Ok.ret (by rw[decide_eq_true (by have:=hl hcc;omega)])
  ·(with_reducible refine Ok.cb (fun hcd=>?_) (fun hcd=>?_))
   ·exact Ok.ret (by rw[decide_eq_true (by have:=hs hcd;omega)])
   ·exact Ok.ret rfl
theorem Ar{code:List DIn}{s:List Int}{d:List (List Int)}(h:jW code s d):iq code s d=some (0,()):=by
 have hs:=h.sz;have hs4:=hs.2.1;have hc:=h.clen;have hl:=h.len
 have e0:dO iU NN (d,(d.length:Int),0,code,s,d,())=some (.inr (d,(d.length:Int),(d.length:Int),false,code,s,d,())):=by
  refine mt (st:=fun k=>(d,(d.length:Int),(k:Int),code,s,d,())) (n:=d.length) (by unfold NN;omega) ?_ ?_
  ·intro k hk;unfold iU;dsimp only
   (with_reducible refine Ok.cb (fun hca=>?_) (fun hca=>?_))
   ·rw[dH];delta dI;simp only[oBS];refine Ok.get (by omega) fun x hx=>?_;refine Ok.get (by omega) fun y hy=>?_;have:=h.fit k x y hx hy
    (with_reducible refine Ok.cb (fun hcb=>?_) (fun hcb=>?_))
    ·omega
    ·(simp (disch:=omega) only [dL,dS,dP,dQ])
     exact Ok.ret rfl
   ·omega
  ·unfold iU;dsimp only
   (with_reducible refine Ok.cb (fun hca=>?_) (fun hca=>?_))
   ·omega
   ·exact Ok.ret rfl
 have e1:dO iT NN (code,(code.length:Int),0,code,s,d,())=some (.inr (code,(code.length:Int),(code.length:Int),false,code,s,d,())):=by
  refine mt (st:=fun k=>(code,(code.length:Int),(k:Int),code,s,d,())) (n:=code.length) (by unfold NN;omega) ?_ ?_
  ·intro k hk;unfold iT;dsimp only
   (with_reducible refine Ok.cb (fun hca=>?_) (fun hca=>?_))
   ·rw[dH];simp only[oBS];refine Ok.get (by omega) fun x hx=>?_;obtain⟨o,a,b,c,i⟩:=x;rw[HX (h.ins _ (dK hx)) (by omega) (by omega)];simp only[oBS,Bool.not_true,cond_false]
    (simp (disch:=omega) only [dL,dS,dP,dQ])
    exact Ok.ret rfl
   ·omega
  ·unfold iT;dsimp only
   (with_reducible refine Ok.cb (fun hca=>?_) (fun hca=>?_))
   ·omega
   ·exact Ok.ret rfl
 have e3:dO iS NN (code,(code.length:Int),0,code,s,d,())=some (.inr (code,(code.length:Int),(code.length:Int),false,code,s,d,())):=by
  refine mt (st:=fun k=>(code,(code.length:Int),(k:Int),code,s,d,())) (n:=code.length) (by unfold NN;omega) ?_ ?_
  ·intro k hk;unfold iS;dsimp only
   (with_reducible refine Ok.cb (fun hca=>?_) (fun hca=>?_))
   ·rw[dH];simp only[oBS];refine Ok.get (by omega) fun x hx=>?_;have hp:=h.ins x (dK hx);rw[vv];simp only[oBS];refine Ok.bind (P:=(·=(code,(code.length:Int),(k:Int),false,code,s,d,()))) ?_ ?_
    ·refine Ok.cond (fun hj=>?_) fun _=>?_
     ·have:=hp.jmp hj
      (with_reducible refine Ok.cb (fun hcb=>?_) (fun hcb=>?_))
      ·have hcb:x.2.2.2.2≥(code.length:Int):=hcb;omega
      ·(with_reducible refine Ok.cb (fun hcc=>?_) (fun hcc=>?_))
       ·exact Ok.ret (by rw[decide_eq_false (show ¬ x.2.2.2.2≥dI s.length by rw[dQ];have:=hp.lea hcc;omega)])
       ·exact Ok.ret rfl
     ·(with_reducible refine Ok.cb (fun hcc=>?_) (fun hcc=>?_))
      ·exact Ok.ret (by rw[decide_eq_false (show ¬ x.2.2.2.2≥dI s.length by rw[dQ];have:=hp.lea hcc;omega)])
      ·exact Ok.ret rfl
    ·rintro _ rfl;dsimp only;simp only[cond_false]
     (simp (disch:=omega) only [dL,dS,dP,dQ])
     exact Ok.ret rfl
   ·omega
  ·unfold iS;dsimp only
   (with_reducible refine Ok.cb (fun hca=>?_) (fun hca=>?_))
   ·omega
   ·exact Ok.ret rfl
 refine Ok.eq ?_;unfold iq;rw[xK hs];delta dI;simp only[oBS,Bool.not_true,cond_false,hl,bne_self_eq_false];rw[hl] at e0;rw[e0];dsimp only
 (with_reducible refine Ok.cb (fun hca=>?_) (fun hca=>?_))
 ·omega
 ·(with_reducible refine Ok.cb (fun hcb=>?_) (fun hcb=>?_))
  ·omega
  ·rw[e1];dsimp only;rw[e3];exact Ok.ret rfl
def RK(bs ss:List Int) (a:Int):Prop:=∃(j:Nat) (b z:Int),bs[j]?=some b∧ss[j]?=some z∧b≤a∧a < b+z
def mw(K:Int→Prop) (c:DCe):Prop:=0≤c.1∧c.1≤2∧0≤c.2∧c.2≤65535∧(c.1=1→K c.2)
theorem mw.mono{K K':Int→Prop}{c:DCe}(h:mw K c) (hk:∀a,K a→K' a):mw K' c:=⟨h.1,h.2.1,h.2.2.1,h.2.2.2.1,fun e=>hk _ (h.2.2.2.2 e)⟩
theorem kT{K:Int→Prop}{v:Int}(h:0≤v∧v≤65535):mw K (0,v):=⟨by dsimp only;omega,by dsimp only;omega,h.1,h.2,fun e=>absurd (show (0:Int)=1 from e) (by decide)⟩
def MN(K:Int→Prop) (i:Nat) (x:DLn):Prop:=(x.1=-1∧x.2.1=false∧x.2.2=[])∨(0≤x.1∧x.1 < 128∧x.1 % 4=i∧x.2.2.length=4∧∀c∈x.2.2,mw K c)
def M0(cs:List DCe) (x:DLn):Prop:=x.1=-1∨x.2.1=true∨∀o:Nat,o < 4→cs[(x.1*4).toNat+o]?=x.2.2[o]?
structure i6 (K:Int→Prop) (cs:List DCe) (ls:List DLn):Prop where
 clen:cs.length=512
 cells:∀c∈cs,mw K c
 llen:ls.length=4
 lines:∀(i:Nat) x,ls[i]?=some x→MN K i x
 coh:∀(i:Nat) x,ls[i]?=some x→M0 cs x
structure wz (K:Int→Prop) (n:Int) (t:DTh):Prop where
 state:0≤t.1∧t.1≤4
 len:t.2.1.length=8
 regs:∀c∈t.2.1,mw K c
 pc:0≤t.2.2.1∧t.2.2.1≤255
 count:0≤t.2.2.2.1∧t.2.2.2.1≤n
 handler:-1≤t.2.2.2.2.1∧t.2.2.2.2.1≤255
 saved:-1≤t.2.2.2.2.2.1∧t.2.2.2.2.2.1≤255
 trap:0≤t.2.2.2.2.2.2.1∧t.2.2.2.2.2.2.1≤6
 code:W16 t.2.2.2.2.2.2.2
structure MOk (n:Int) (ss bs:List Int) (cs:List DCe) (ls:List DLn) (ts:List DTh):Prop where
 lay:LV bs ss
 mem:i6 (RK bs ss) cs ls
 tlen:ts.length=4
 thr:∀t∈ts,wz (RK bs ss) n t
theorem EP{K:Int→Prop}{l:List DCe}(hl:l.length≤1000) (h:∀c∈l,mw K c):l7 l=some (true,()):=by
 have e:dO kp NN (l,(l.length:Int),0,())=some (.inr (l,(l.length:Int),(l.length:Int),false,())):=by
  refine mt (st:=fun k=>(l,(l.length:Int),(k:Int),())) (n:=l.length) (by unfold NN;omega) ?_ ?_
  ·intro k hk;unfold kp;dsimp only
   (with_reducible refine Ok.cb (fun hca=>?_) (fun hca=>?_))
   ·rw[dH];simp only[oBS];refine Ok.get (by omega) fun x hx=>?_;have:=h x (dK hx);unfold fQ;rw[decide_eq_true (show x.1≤2 from this.2.1)];simp only[oBS,Bool.not_true,cond_false]
    (simp (disch:=omega) only [dL,dS,dP,dQ])
    exact Ok.ret rfl
   ·omega
  ·unfold kp;dsimp only
   (with_reducible refine Ok.cb (fun hca=>?_) (fun hca=>?_))
   ·omega
   ·exact Ok.ret rfl
 refine Ok.eq ?_;unfold l7;delta dI
 try dsimp only
 rw[e];exact Ok.ret rfl
theorem EZ{K:Int→Prop}{cs:List DCe}{ls:List DLn}(h:i6 K cs ls):lu cs ls=some (true,()):=by
 obtain⟨h1,h2,h3,h4,_⟩:=h
 have e:dO iW NN (ls,4,0,cs,ls,())=some (.inr (ls,4,4,false,cs,ls,())):=by
  refine mt (st:=fun k=>(ls,4,(k:Int),cs,ls,())) (n:=4) (by unfold NN;omega) ?_ ?_
  ·intro k hk;unfold iW;dsimp only
   (with_reducible refine Ok.cb (fun hca=>?_) (fun hca=>?_))
   ·rw[dH];simp only[oBS];refine Ok.get (by omega) fun x hx=>?_;rcases h4 k x hx with ⟨e1,e2,e3⟩ | ⟨g1,g2,g3,g4,g5⟩
    ·rw[e1,e2,e3];simp only[beq_self_eq_true,cond_true,cond_false]
     (simp (disch:=omega) only [dL,dS,dP,dQ])
     exact Ok.ret rfl
    ·rw[show (x.1==-1)=false by rw[beq_eq_false_iff_ne];omega,decide_eq_false (show ¬ x.1 < 0 by omega),decide_eq_false (show ¬ x.1≥128 by omega),Int.tmod_eq_emod_of_nonneg g1,g3,g4,EP (by omega) g5];simp only[cond_false,bne_self_eq_false,oBS,Bool.not_true];refine Ok.bind (P:=(·=(ls,4,(k:Int),false,cs,ls,()))) ?_ ?_
     ·refine Ok.cond (fun h=>by cases h) fun _=>Ok.ret rfl
     ·rintro _ rfl;dsimp only;simp only[cond_false]
      (simp (disch:=omega) only [dL,dS,dP,dQ])
      exact Ok.ret rfl
   ·omega
  ·unfold iW;exact Ok.ret rfl
 refine Ok.eq ?_;unfold lu;delta dI;simp only[h1,h3,EP (show cs.length≤1000 by omega) h2,oBS,Bool.not_true];refine Ok.bind (P:=(·=(false,cs,ls,()))) ?_ ?_
 ·exact Ok.ret rfl
 ·rintro _ rfl;dsimp only;simp only[cond_false];rw[h3,show ((4:Nat):Int)=4 from rfl,e];exact Ok.ret rfl
theorem EY{K:Int→Prop}{t:DTh}(h:wz K 1099511627776 t):ln t.1 t.2.1 t.2.2.1 t.2.2.2.1 t.2.2.2.2.1 t.2.2.2.2.2.1 t.2.2.2.2.2.2.1 t.2.2.2.2.2.2.2=some (true,()):=by
 obtain⟨⟨a1,a2⟩,hl,hr,⟨b1,b2⟩,⟨c1,c2⟩,⟨d1,d2⟩,⟨e1,e2⟩,⟨f1,f2⟩,_⟩:=h;obtain⟨s,rs,pc,ct,ha,sa,tr,co⟩:=t;dsimp only at *
 have e:dO iR NN (rs,(rs.length:Int),0,s,rs,pc,ct,ha,sa,tr,co,())=some (.inr (rs,(rs.length:Int),(rs.length:Int),false,s,rs,pc,ct,ha,sa,tr,co,())):=by
  refine mt (st:=fun k=>(rs,(rs.length:Int),(k:Int),s,rs,pc,ct,ha,sa,tr,co,())) (n:=rs.length) (by unfold NN;omega) ?_ ?_
  ·intro k hk;unfold iR;dsimp only
   (with_reducible refine Ok.cb (fun hca=>?_) (fun hca=>?_))
   ·rw[dH];simp only[oBS];refine Ok.get (by omega) fun x hx=>?_;have:=hr x (dK hx);unfold fQ;rw[decide_eq_true (show x.1≤2 from this.2.1)];simp only[oBS,Bool.not_true,cond_false]
    (simp (disch:=omega) only [dL,dS,dP,dQ])
    exact Ok.ret rfl
   ·omega
  ·unfold iR;dsimp only
   (with_reducible refine Ok.cb (fun hca=>?_) (fun hca=>?_))
   ·omega
   ·exact Ok.ret rfl
 refine Ok.eq ?_;unfold ln;delta dI
 try dsimp only
 rw[e];dsimp only;rw[hl];refine Ok.need (decide_eq_true a1) (Ok.need (decide_eq_true a2) (Ok.need rfl (Ok.need (decide_eq_true b1) (Ok.need (decide_eq_true b2) (Ok.need (decide_eq_true c1) (Ok.need (decide_eq_true c2) (Ok.need (decide_eq_true d1) (Ok.need (decide_eq_true d2) (Ok.need (decide_eq_true e1) (Ok.need (decide_eq_true e2) (Ok.need (decide_eq_true f1) ?_)))))))))));exact Ok.ret (by rw[decide_eq_true f2])
theorem sw{code:List DIn}{ss bs:List Int}{d:List (List Int)}{n key:Int}{cs:List DCe}{ls:List DLn}{ts:List DTh}(hp:jW code ss d) (h:MOk n ss bs cs ls ts) (hn:n≤1099511627776):io code ss d bs key cs ls ts=some (true,()):=by
 obtain⟨h1,h2,h3,h4⟩:=h
 have e:dO kZ NN (ts,4,0,bs,key,cs,ls,ts,())=some (.inr (ts,4,4,false,bs,key,cs,ls,ts,())):=by
  refine mt (st:=fun k=>(ts,4,(k:Int),bs,key,cs,ls,ts,())) (n:=4) (by unfold NN;omega) ?_ ?_
  ·intro k hk;unfold kZ;dsimp only
   (with_reducible refine Ok.cb (fun hca=>?_) (fun hca=>?_))
   ·rw[dH];simp only[oBS];refine Ok.get (by omega) fun x hx=>?_;have ht:=h4 x (dK hx);rw[EY ⟨ht.state,ht.len,ht.regs,ht.pc,⟨ht.count.1,by have:=ht.count.2;omega⟩,ht.handler,ht.saved,ht.trap,ht.code⟩];simp only[oBS,Bool.not_true,cond_false]
    (simp (disch:=omega) only [dL,dS,dP,dQ])
    exact Ok.ret rfl
   ·omega
  ·exact Ok.ret rfl
 refine Ok.eq ?_;unfold io;rw[Ar hp,pJ h1,EZ h2];delta dI;simp only[oBS,Bool.not_true,cond_false,bne_self_eq_false,h3];refine Ok.cond (fun h=>by cases h) fun _=>?_;rw[show ((4:Nat):Int)=4 from rfl,e];exact Ok.ret rfl
def eK:List DLn:=[(-1,false,[]),(-1,false,[]),(-1,false,[]),(-1,false,[])]
theorem ED:lw=some (eK,()):=by kernel_rfl
theorem Ch{K:Int→Prop}{cs:List DCe}(h:cs.length=512) (hc:∀c∈cs,mw K c):i6 K cs eK:=by
 have key:∀(i:Nat) x,eK[i]?=some x→x=(-1,false,[]):=fun i x hx=>by
  have:=dK hx;simp only[eK,List.mem_cons,List.not_mem_nil,or_false,or_self] at this;exact this
 exact⟨h,hc,rfl,fun i x hx=>by rw[key i x hx];exact .inl ⟨rfl,rfl,rfl⟩,fun i x hx=>by rw[key i x hx];exact .inl rfl⟩
theorem it{α:Type}{P:α→Prop}{l:List α}{i:Nat}{f:α→α}(h:∀x∈l,P x) (hf:∀x,P x→P (f x)):∀x∈List.modify l i f,P x:=by
 intro x hx;obtain⟨j,hj⟩:=List.getElem?_of_mem hx;rw[List.getElem?_modify] at hj
 cases hl:l[j]? with
 | none=>rw[hl] at hj;cases hj
 | some y=>
  rw[hl] at hj;have hy:=h y (dK hl)
  injection hj with hj
  subst hj;split
  ·exact hf y hy
  ·exact hy
theorem Lx{code:List DIn}{ss bs:List Int}{d:List (List Int)}{key:Int}(hp:jW code ss d) (hl:LV bs ss):Ok (mK code ss d bs key) fun r=>∃cs,r=(cs,eK,0,())∧cs.length=512∧∀c∈cs,mw (fun _=>False) c:=by
 unfold mK;rw[pJ hl,ED];delta dI;simp only[oBS,Bool.not_true,cond_false,hp.len,bne_self_eq_false];refine Ok.need (by decide) ?_
 obtain⟨t,e,ht⟩:=Ok.iter (f:=l8) (n:=NN) (s:=(d,(ss.length:Int),0,code,ss,d,bs,key,(),(),List.replicate 512 (0,0),eK,()))
  (P:=fun s'=>∃k:Nat,∃cs,s'=(d,(ss.length:Int),(k:Int),code,ss,d,bs,key,(),(),cs,eK,())∧k≤ss.length∧cs.length=512∧∀c∈cs,mw (fun _=>False) c)
  (R:=fun r=>∃a b c e cs,r=.inr (a,b,c,e,code,ss,d,bs,key,(),(),cs,eK,())∧cs.length=512∧∀c∈cs,mw (fun _=>False) c) (m:=fun s'=>(s'.2.1 - s'.2.2.1).toNat)
  ⟨0,_,rfl,by omega,List.length_replicate,fun c hc=>by rw[List.eq_of_mem_replicate hc];exact kT (by decide)⟩ (by unfold NN;dsimp only;have:=hp.sz.2.1;omega) (by
   rintro _ ⟨k,cs,rfl,hk,hc1,hc2⟩;unfold l8;dsimp only;have hlen:=hp.len;have hs4:=hp.sz.2.1
   (with_reducible refine Ok.cb (fun hca=>?_) (fun hca=>?_))
   ·rw[dH];delta dI;simp only[oBS];refine Ok.get (by omega) fun x hx=>?_;refine Ok.get (by omega) fun y hy=>?_;have hf:=hp.fit k x y hx hy;have hy2:=hp.sz.2.2 y (dK hy);have hnum:=hp.num x (dK hx);obtain⟨_,hbl,hr⟩:=hl;have hrk:=hr k (by omega);unfold uv at hrk;obtain⟨b,hb⟩:∃b,bs[k]?=some b:=⟨_,oGE (by omega)⟩;rw[ej hb,ej hy] at hrk
    (with_reducible refine Ok.cb (fun hcb=>?_) (fun hcb=>?_))
    ·omega
    ·refine Ok.loop (P:=fun s'=>∃j:Nat,∃cs,s'=((k:Int),d,(ss.length:Int),(k:Int),x,(x.length:Int),(j:Int),code,ss,d,bs,key,(),(),cs,eK,())∧j≤x.length∧cs.length=512∧∀c∈cs,mw (fun _=>False) c)
      (R:=fun r=>∃a b c e cs,r=(a,d,(ss.length:Int),(k:Int),b,c,e,false,code,ss,d,bs,key,(),(),cs,eK,())∧cs.length=512∧∀c∈cs,mw (fun _=>False) c) (m:=fun s'=>(s'.2.2.2.2.2.1 - s'.2.2.2.2.2.2.1).toNat)
      ⟨0,cs,rfl,by omega,hc1,hc2⟩ (by unfold NN;dsimp only;omega) ?_ ?_
     ·rintro _ ⟨j,cs,rfl,hj,hc1,hc2⟩;unfold oO;dsimp only
      (with_reducible refine Ok.cb (fun hcc=>?_) (fun hcc=>?_))
      ·rw[dH,dH];simp only[oBS];refine Ok.get (by omega) fun v hv=>?_;have hv2:=hnum v (dK hv);rw[show dF bs k=some b from hb];simp only[oBS]
       (simp (disch:=omega) only [dL,dS,dP,dQ])
       refine Ok.nat (by omega) fun a ha=>?_;refine Ok.get (by omega) fun c hc=>?_;refine Ok.get (by omega) fun c' hc'=>?_;exact Ok.ret ⟨⟨j+1,_,rfl,by omega,by rw[List.length_modify];exact hc1,it hc2 fun z hz=>⟨hz.1,hz.2.1,hv2.1,hv2.2,hz.2.2.2.2⟩⟩,by dsimp only;omega⟩
      ·exact Ok.ret ⟨_,_,_,_,_,rfl,hc1,hc2⟩
     ·rintro _ ⟨a,b,c,e,cs,rfl,hc1,hc2⟩;dsimp only
      (simp (disch:=omega) only [dL,dS,dP,dQ])
      exact Ok.ret ⟨⟨k+1,_,rfl,by omega,hc1,hc2⟩,by dsimp only;omega⟩
   ·exact Ok.ret ⟨_,_,_,_,_,rfl,hc1,hc2⟩)
 rw[e];obtain⟨a,b,c,e,cs,rfl,hc1,hc2⟩:=ht;exact Ok.ret ⟨cs,rfl,hc1,hc2⟩
theorem Ma{K:Int→Prop}:∀c∈List.replicate 8 ((0:Int),(0:Int)),mw K c:=fun c hc=>by rw[List.eq_of_mem_replicate hc];exact kT (by decide)
theorem KH{K:Int→Prop}{s:Int}(h:0≤s∧s≤4):wz K 0 (s,List.replicate 8 (0,0),0,0,-1,-1,0,0):=
 ⟨h,rfl,Ma,⟨by dsimp only;omega,by dsimp only;omega⟩,⟨by dsimp only;omega,by dsimp only;omega⟩,⟨by dsimp only;omega,by dsimp only;omega⟩,⟨by dsimp only;omega,by dsimp only;omega⟩,⟨by dsimp only;omega,by dsimp only;omega⟩,⟨by dsimp only;omega,by dsimp only;omega⟩⟩
theorem IL{code:List DIn}{ss bs:List Int}{d:List (List Int)}{key:Int}(hp:jW code ss d) (hl:LV bs ss):Ok (lq code ss d bs key) fun r=>∃cs ts,r=(bs,key,cs,eK,ts,0,())∧MOk 0 ss bs cs eK ts:=by
 unfold lq;rw[Ar hp,pJ hl];simp only[oBS,Bool.not_true,cond_false,bne_self_eq_false];refine (Lx hp hl).bind ?_;rintro _ ⟨cs,rfl,hc1,hc2⟩;dsimp only;have hbl:=hl.2.1;have hs4:=hp.sz.2.1;refine Ok.need (dN (by omega)) ?_;rw[show List.append [] bs=bs from rfl]
 refine Ok.loop (P:=fun s'=>∃k:Nat,∃ts,s'=((k:Int),(),0,(),(),(),bs,key,cs,eK,ts,())∧k≤4∧ts.length=k∧∀t∈ts,wz (RK bs ss) 0 t)
  (R:=fun r=>∃a b ts,r=(a,b,(),0,(),(),(),bs,key,cs,eK,ts,())∧ts.length=4∧∀t∈ts,wz (RK bs ss) 0 t) (m:=fun s'=>(4 - s'.1).toNat) ⟨0,[],rfl,by omega,rfl,dX⟩ (by unfold NN;dsimp only;omega) ?_ ?_
 ·rintro _ ⟨k,ts,rfl,hk,ht1,ht2⟩;unfold oy;dsimp only
  (with_reducible refine Ok.cb (fun hca=>?_) (fun hca=>?_))
  ·refine Ok.need (by decide) ?_;refine Ok.bind (P:=fun r=>∃s,(0≤s∧s≤4)∧r=((k:Int),(),0,(),(),(),bs,key,cs,eK,ts,s,List.replicate 8 (0,0),0,0,-1,-1,0,0,())) ?_ ?_
   ·(with_reducible refine Ok.cb (fun hcb=>?_) (fun hcb=>?_))
    ·exact Ok.ret ⟨1,by decide,rfl⟩
    ·exact Ok.ret ⟨0,by decide,rfl⟩
   ·rintro _ ⟨s,hs,rfl⟩;dsimp only;refine Ok.need (dN (by simp;omega)) ?_
    (simp (disch:=omega) only [dL,dS,dP,dQ])
    exact Ok.ret ⟨⟨k+1,_,rfl,by omega,by rw[eJ,ht1];rfl,iA ht2 (all_cons (KH hs) dX)⟩,by dsimp only;omega⟩
  ·exact Ok.ret ⟨_,_,_,rfl,by omega,ht2⟩
 ·rintro _ ⟨a,b,ts,rfl,ht1,ht2⟩;exact Ok.ret ⟨cs,ts,rfl,hl,Ch hc1 fun c hc=>(hc2 c hc).mono fun _ h=>h.elim,ht1,ht2⟩
end Go.Proofs.YtdcpgpngdcfhhaaGreat
