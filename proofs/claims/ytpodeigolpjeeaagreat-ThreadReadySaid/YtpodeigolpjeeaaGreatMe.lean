/- Part of the proof; no condition. -/
import Derived.Test.YtpodeigolpjeeaaGreatMd
import Derived.WalkKit
import Derived.WalkSpells
import Derived.Handy
import Derived.OpenShut
set_option linter.unusedVariables false
set_option linter.unusedSimpArgs false
namespace Go.Proofs.YtpodeigolpjeeaaGreat
open Go.RowKit
set_option maxRecDepth 100000
def ng(a0:LDIn) (a1:List (Int)) (a2:List LI) (a3:Int) (a4:List (Int)) (a5:Int) (a6:LDCe) (a7:LDLn) (a8:LDTh):Option (T0V):=
(dV a3).bind fun x0=>
(dF a8 x0).bind fun x1=>
(dF a8 x0).bind fun x2=>
let x3:=(dJ (List.length a0));
bif (decide (x2.2.2.1≥x3)) then ((eQ x0 2 a8).bind fun(x4,x5,_)=>
some (x4,a4,a5,a6,a7,x5,())) else
(dF a8 x0).bind fun x4=>
(dV x4.2.2.1).bind fun x5=>
(dF a0 x5).bind fun x6=>
(dF a8 x0).bind fun x7=>
let x8:=(w64 (x7.2.2.1+1));
(dF a8 x0).bind fun x9=>
(dV x6.2.1).bind fun ac=>
(dF a8 x0).bind fun ae=>
(dF ae.2.1 ac).bind fun af=>
(dF a8 x0).bind fun ag=>
(dF ag.2.1 ac).bind fun ah=>
(dF a8 x0).bind fun ai=>
(dV x6.2.2.1).bind fun aj=>
(dF a8 x0).bind fun ak=>
(dF ak.2.1 aj).bind fun am=>
(dF a8 x0).bind fun an=>
(dF an.2.1 aj).bind fun ap=>
(match (bif (x6.1==0) then (some (.inl (x0,x8,a4,a5,a6,a7,a8,x6.1,x6.2.1,x6.2.2.1,x6.2.2.2.1,x6.2.2.2.2,()))) else
bif (x6.1==1) then ((dF a8 x0).bind fun aq=>
let av:=(wk .u16 x6.2.2.2.2);
(dV x6.2.1).bind fun ax=>
(dF a8 x0).bind fun ay=>
(dF ay.2.1 ax).bind fun az=>
(dF a8 x0).bind fun aA=>
(dF aA.2.1 ax).bind fun aB=>
let aD:=(List.modify a8 x0 fun e=>(e.1,((List.modify e.2.1 ax fun e=>(0,av)),e.2.2)));
some (.inl (x0,x8,a4,a5,a6,a7,aD,x6.1,x6.2.1,x6.2.2.1,x6.2.2.2.1,x6.2.2.2.2,()))) else
bif (x6.1==2) then ((dF a8 x0).bind fun aq=>
(dV x6.2.1).bind fun av=>
(dF a8 x0).bind fun ax=>
(dF ax.2.1 av).bind fun ay=>
(dF a8 x0).bind fun az=>
(dF az.2.1 av).bind fun aA=>
let aB:=(List.modify a8 x0 fun e=>(e.1,((List.modify e.2.1 av fun e=>(ap.1,ap.2)),e.2.2)));
some (.inl (x0,x8,a4,a5,a6,a7,aB,x6.1,x6.2.1,x6.2.2.1,x6.2.2.2.1,x6.2.2.2.2,()))) else
bif (x6.1==15) then ((dF a8 x0).bind fun aq=>
(dV x6.2.2.2.2).bind fun av=>
(dF a4 av).bind fun ax=>
let ay:=(wk .u16 ax);
(dV x6.2.1).bind fun az=>
(dF a8 x0).bind fun aA=>
(dF aA.2.1 az).bind fun aB=>
(dF a8 x0).bind fun aD=>
(dF aD.2.1 az).bind fun aE=>
let aF:=(List.modify a8 x0 fun e=>(e.1,((List.modify e.2.1 az fun e=>(1,ay)),e.2.2)));
some (.inl (x0,x8,a4,a5,a6,a7,aF,x6.1,x6.2.1,x6.2.2.1,x6.2.2.2.1,x6.2.2.2.2,()))) else
bif (x6.1==16) then ((bif (x6.1==17) then (some (x0,x8,a4,a5,a6,a7,a8,a0,a1,a2,x6.1,x6.2.1,x6.2.2.1,x6.2.2.2.1,x6.2.2.2.2,ap.1,ap.2,ah.1,ah.2,())) else
some (x0,x8,a4,a5,a6,a7,a8,a0,a1,a2,x6.1,x6.2.1,x6.2.2.1,x6.2.2.2.1,x6.2.2.2.2,ap.1,ap.2,ap.1,ap.2,()):Option (T2y)).bind fun(aq,av,ax,ay,az,aA,aB,aD,aE,aF,aG,aH,aI,aJ,aK,aL,aM,aO,aP,_)=>
let aQ:=(wk .u16 aK);
(fb ax ay aE aO aP aQ false).bind fun(aR,aS,aT,_)=>
bif (aT != 0) then ((eQ aq aT aB).bind fun(aU,aV,_)=>
some (.inr (aU,ax,ay,az,aA,aV,()))) else
bif (aG==16) then ((dF aB aq).bind fun aU=>
let aV:=(wk .i64 aS);
(ky aV az aA).bind fun(aW,aY,aZ,ba,_)=>
(dV aH).bind fun bc=>
(dF aB aq).bind fun bd=>
(dF bd.2.1 bc).bind fun be=>
(dF aB aq).bind fun bf=>
(dF bf.2.1 bc).bind fun bg=>
let bh:=(List.modify aB aq fun e=>(e.1,((List.modify e.2.1 bc fun e=>(aW,aY)),e.2.2)));
some (.inl (aq,av,ax,ay,aZ,ba,bh,aG,aH,aI,aJ,aK,()))) else
let aU:=(wk .i64 aS);
(ic aU aL aM az aA).bind fun(aV,aW,_)=>
some (.inl (aq,av,ax,ay,aV,aW,aB,aG,aH,aI,aJ,aK,()))) else
bif (x6.1==17) then ((bif (x6.1==17) then (some (x0,x8,a4,a5,a6,a7,a8,a0,a1,a2,x6.1,x6.2.1,x6.2.2.1,x6.2.2.2.1,x6.2.2.2.2,ap.1,ap.2,ah.1,ah.2,())) else
some (x0,x8,a4,a5,a6,a7,a8,a0,a1,a2,x6.1,x6.2.1,x6.2.2.1,x6.2.2.2.1,x6.2.2.2.2,ap.1,ap.2,ap.1,ap.2,()):Option (T2y)).bind fun(aq,av,ax,ay,az,aA,aB,aD,aE,aF,aG,aH,aI,aJ,aK,aL,aM,aO,aP,_)=>
let aQ:=(wk .u16 aK);
(fb ax ay aE aO aP aQ false).bind fun(aR,aS,aT,_)=>
bif (aT != 0) then ((eQ aq aT aB).bind fun(aU,aV,_)=>
some (.inr (aU,ax,ay,az,aA,aV,()))) else
bif (aG==16) then ((dF aB aq).bind fun aU=>
let aV:=(wk .i64 aS);
(ky aV az aA).bind fun(aW,aY,aZ,ba,_)=>
(dV aH).bind fun bc=>
(dF aB aq).bind fun bd=>
(dF bd.2.1 bc).bind fun be=>
(dF aB aq).bind fun bf=>
(dF bf.2.1 bc).bind fun bg=>
let bh:=(List.modify aB aq fun e=>(e.1,((List.modify e.2.1 bc fun e=>(aW,aY)),e.2.2)));
some (.inl (aq,av,ax,ay,aZ,ba,bh,aG,aH,aI,aJ,aK,()))) else
let aU:=(wk .i64 aS);
(ic aU aL aM az aA).bind fun(aV,aW,_)=>
some (.inl (aq,av,ax,ay,aV,aW,aB,aG,aH,aI,aJ,aK,()))) else
bif (x6.1==18) then (some (.inl (x0,x6.2.2.2.2,a4,a5,a6,a7,a8,x6.1,x6.2.1,x6.2.2.1,x6.2.2.2.1,x6.2.2.2.2,()))) else
bif (x6.1==19) then (bif (ah.1 != 0) then ((eQ x0 3 a8).bind fun(aq,av,_)=>
some (.inr (aq,a4,a5,a6,a7,av,()))) else
bif ((ah.2==0)==(x6.1==19)) then (some (.inl (x0,x6.2.2.2.2,a4,a5,a6,a7,a8,x6.1,x6.2.1,x6.2.2.1,x6.2.2.2.1,x6.2.2.2.2,()))) else
some (.inl (x0,x8,a4,a5,a6,a7,a8,x6.1,x6.2.1,x6.2.2.1,x6.2.2.2.1,x6.2.2.2.2,()))) else
bif (x6.1==20) then (bif (ah.1 != 0) then ((eQ x0 3 a8).bind fun(aq,av,_)=>
some (.inr (aq,a4,a5,a6,a7,av,()))) else
bif ((ah.2==0)==(x6.1==19)) then (some (.inl (x0,x6.2.2.2.2,a4,a5,a6,a7,a8,x6.1,x6.2.1,x6.2.2.1,x6.2.2.2.1,x6.2.2.2.2,()))) else
some (.inl (x0,x8,a4,a5,a6,a7,a8,x6.1,x6.2.1,x6.2.2.1,x6.2.2.2.1,x6.2.2.2.2,()))) else
bif (x6.1==21) then ((dF a8 x0).bind fun aq=>
let av:=(wk .u16 x8);
(dV x6.2.1).bind fun ax=>
(dF a8 x0).bind fun ay=>
(dF ay.2.1 ax).bind fun az=>
(dF a8 x0).bind fun aA=>
(dF aA.2.1 ax).bind fun aB=>
let aD:=(List.modify a8 x0 fun e=>(e.1,((List.modify e.2.1 ax fun e=>(0,av)),e.2.2)));
some (.inl (x0,x6.2.2.2.2,a4,a5,a6,a7,aD,x6.1,x6.2.1,x6.2.2.1,x6.2.2.2.1,x6.2.2.2.2,()))) else
bif (x6.1==22) then (bif (ah.1 != 0) then ((eQ x0 3 a8).bind fun(aq,av,_)=>
some (.inr (aq,a4,a5,a6,a7,av,()))) else
bif (decide (ah.2 > 255)) then ((eQ x0 2 a8).bind fun(aq,av,_)=>
some (.inr (aq,a4,a5,a6,a7,av,()))) else
let aq:=(wk .i64 ah.2);
some (.inl (x0,aq,a4,a5,a6,a7,a8,x6.1,x6.2.1,x6.2.2.1,x6.2.2.2.1,x6.2.2.2.2,()))) else
bif (x6.1==24) then ((dF a8 x0).bind fun aq=>
bif (aq.2.2.2.2.2.1==(-1)) then ((eQ x0 1 a8).bind fun(av,ax,_)=>
some (.inr (av,a4,a5,a6,a7,ax,()))) else
(dF a8 x0).bind fun av=>
(dF a8 x0).bind fun ax=>
let ay:=(List.modify a8 x0 fun e=>(e.1,(e.2.1,(e.2.2.1,(e.2.2.2.1,(e.2.2.2.2.1,((-1),e.2.2.2.2.2.2)))))));
some (.inl (x0,av.2.2.2.2.2.1,a4,a5,a6,a7,ay,x6.1,x6.2.1,x6.2.2.1,x6.2.2.2.1,x6.2.2.2.2,()))) else
bif (x6.1==23) then ((dF a8 x0).bind fun aq=>
let av:=(List.modify a8 x0 fun e=>(2,e.2));
(dF av x0).bind fun ax=>
let ay:=(List.modify av x0 fun e=>(e.1,(e.2.1,(x8,e.2.2.2))));
some (.inr (1,a4,a5,a6,a7,ay,()))) else
(dF a8 x0).bind fun aq=>
(dV x6.2.2.2.1).bind fun av=>
(dF a8 x0).bind fun ax=>
(dF ax.2.1 av).bind fun ay=>
(dF a8 x0).bind fun az=>
(dF az.2.1 av).bind fun aA=>
(pb a4 a5 a1 x6.1 ap.1 ap.2 aA.1 aA.2).bind fun(aB,aD,aE,_)=>
bif (aE != 0) then ((eQ x0 aE a8).bind fun(aF,aG,_)=>
some (.inr (aF,a4,a5,a6,a7,aG,()))) else
(dF a8 x0).bind fun aF=>
(dV x6.2.1).bind fun aG=>
(dF a8 x0).bind fun aH=>
(dF aH.2.1 aG).bind fun aI=>
(dF a8 x0).bind fun aJ=>
(dF aJ.2.1 aG).bind fun aK=>
let aL:=(List.modify a8 x0 fun e=>(e.1,((List.modify e.2.1 aG fun e=>(aB,aD)),e.2.2)));
some (.inl (x0,x8,a4,a5,a6,a7,aL,x6.1,x6.2.1,x6.2.2.1,x6.2.2.2.1,x6.2.2.2.2,())):Option ((Nat×Int×LI×Int×LDCe×LDLn×LDTh×T0D)⊕T0V)) with
| none=>none
| some (.inl (aq,av,ax,ay,az,aA,aB,aD,aE,aF,aG,aH,_))=>
(dF aB aq).bind fun aI=>
let aJ:=(List.modify aB aq fun e=>(e.1,(e.2.1,(av,e.2.2.2))));
((j4 aD).bind fun(aK,_)=>
bif aK then ((dF aJ aq).bind fun aL=>
let aM:=(w64 (aL.2.2.2.1+1));
(dF aJ aq).bind fun aO=>
let aP:=(List.modify aJ aq fun e=>(e.1,(e.2.1,(e.2.2.1,(aM,e.2.2.2.2)))));
some (ax,ay,az,aA,aP,())) else
some (ax,ay,az,aA,aJ,()):Option (T0J)).bind fun(aK,aL,aM,aO,aP,_)=>
some ((-1),aK,aL,aM,aO,aP,())
| some (.inr (aq,av,ax,ay,az,aA,_))=>
some (aq,av,ax,ay,az,aA,()))
noncomputable def B5:X.Cfg:=⟨E0,[sV,oT,sW,nK,w9,pZ],[],[⟨17,0,qE,[(.normal,(qS [(pP 1 4),(pP 3 8),(7,.ptr ⟨4,4,[((),(8,0))]⟩ [0,0]),(pP 8 18),(sP 9 I64),(pP 11 24),(pP 12 26)] [(4,(uL [RI,CW,(.row true KCe),i6,n6])),(8,(uL [eW,RI,(.row false RW)])),(18,(uL [I64,I64,I64,I64,I64])),(24,(uL [CB,CW])),(26,(uL [CB,CW]))]))]⟩,⟨8,1,qE,[(.normal,(qS [(pP 1 4),(7,.ptr ⟨4,4,[((),(8,0))]⟩ [0,0]),(pP 8 18),(sP 9 I64)] [(4,(uL [RI,CW,(.row true KCe),i6,n6])),(18,(uL [I64,I64,I64,I64,I64]))])),(.ret,(qS [(pP 1 4),(sP 6 I64)] [(4,(uL [RI,CW,(.row true KCe),i6,n6]))]))]⟩,⟨52,2,qE,[(.normal,(qS [(pP 1 4)] [(4,(uL [RI,CW,(.row true KCe),i6,n6]))]))]⟩]⟩
def ve:Ctr:=⟨116,63,[.agg (uL [eW,RI,(.row false RW)]),.ptr ⟨4,0,[]⟩ [0],shU I64],[(4,(uL [RI,CW,(.row true KCe),i6,n6]))],[⟨(uL [I64]),[.one],[(4,(uL [RI,CW,(.row true KCe),i6,n6]))]⟩],ap9 ng⟩
theorem BR:Lk 4 ve:=ls (C:=B5) rfl (aC Ac (aC sx (aC Ad (aC qJ (aC Es (aC vH aN)))))) (by kernel_rfl) fun h=>by kernel_rfl
def nW:T2i→Option (T2i⊕T1c):=fun(v0,v1,v2,v3,v4,v5,v6,v7,v8,v9,v10,v11,v12,v13,v14,_)=>
(ng v2 v3 v4 v0 v10 v11 v12 v13 v14).bind fun(x0,x1,x2,x3,x4,x5,_)=>
bif (x0 != (-1)) then (some (.inr (x0,0,x1,x2,x3,x4,x5,()))) else
(dV v0).bind fun x6=>
(dF x5 x6).bind fun x7=>
(dF x5 x6).bind fun x8=>
bif (x8.2.2.2.1==v1) then (some (.inr (0,0,x1,x2,x3,x4,x5,()))) else
some (.inl (v0,v1,v2,v3,v4,v5,v6,v7,v8,v9,x1,x2,x3,x4,x5,()))
def kV(a0:LDIn) (a1:List (Int)) (a2:List LI) (a3:List (Int)) (a4:Int) (a5:LDCe) (a6:LDLn) (a7:LDTh) (a8:Int) (a9:Int):Option (LI×Int×LDCe×LDLn×LDTh×T02):=
((ia a0 a1 a2 a3 a4 a5 a6 a7).bind fun(x0,_)=>
bif (!x0) then (some (a8,a9,true,a0,a1,a2,a3,a4,a5,a6,a7,(),0,(),(),(),())) else
bif (decide (a8 < 0)) then (some (a8,a9,true,a0,a1,a2,a3,a4,a5,a6,a7,(),0,(),(),(),())) else
bif (decide (a8≥4)) then (some (a8,a9,true,a0,a1,a2,a3,a4,a5,a6,a7,(),0,(),(),(),())) else
bif (decide (a9 < 1)) then (some (a8,a9,true,a0,a1,a2,a3,a4,a5,a6,a7,(),0,(),(),(),())) else
some (a8,a9,(decide (a9 > 64)),a0,a1,a2,a3,a4,a5,a6,a7,(),0,(),(),(),()):Option (Int×Int×Bool×LDIn×LI×LLI×LI×Int×LDCe×LDLn×LDTh×T0L)).bind fun(x0,x1,x2,x3,x4,x5,x6,x7,x8,x9,ac,ae,af,ag,ah,ai,_)=>
bif x2 then (some ([],0,[],[],[],0,1,())) else
(gV x6 x7 x8 x9 ac).bind fun(aj,ak,am,an,ap,_)=>
(dV x0).bind fun aq=>
(dF ac aq).bind fun av=>
bif (av.1 != 1) then (some (aj,ak,am,an,ap,3,0,())) else
(dV x0).bind fun ax=>
(dF ap ax).bind fun ay=>
(dF ap ax).bind fun az=>
let aA:=(w64 (az.2.2.2.1+x1));
(dQ nW NN (x0,aA,x3,x4,x5,ae,af,ag,ah,ai,aj,ak,am,an,ap,())).bind fun(aB,aD,aE,aF,aG,aH,aI,_)=>
some (aE,aF,aG,aH,aI,aB,aD,())
noncomputable def yz:X.Cfg:=⟨E0,[lp,kF,ve],[],[⟨2,0,qE,[(.normal,(qS [(sP 2 I64),(sP 3 I64),(pP 4 10),(pP 5 12),(pP 8 18),(sP 33 .bool)] [(10,(uL [eW,RI,(.row false RW)])),(12,(uL [RI,CW,eS,fq,fw])),(18,(uL [N1,CW,N1,N1,N1]))]))]⟩,⟨9,1,(qS [(sP 2 I64),(pP 4 10),(pP 8 18),(pP 11 24),(sP 12 I64)] [(10,(uL [eW,RI,(.row false RW)])),(18,(uL [N1,CW,N1,N1,N1])),(24,(uL [RI,CW,(.row true KCe),i6,n6]))]),[(.ret,(qS [(pP 8 18),(sP 9 I64),(sP 10 I64)] [(18,(uL [RI,CW,(.row true KCe),i6,n6]))]))]⟩]⟩
def re:Ctr:=⟨102,64,[.agg (uL [eW,RI,(.row false RW)]),.agg (uL [RI,CW,eS,fq,fw]),shU I64,shU I64],[],[⟨(uL [RI,CW,(.row true KCe),i6,n6,I64,I64]),[.agg 5,.one,.one],[]⟩],ap10 kV⟩
theorem xR:Lk 5 re:=ls (C:=yz) rfl (aC ny (aC mu (aC BR aN))) (by kernel_rfl) fun h=>by kernel_rfl
def ji(a0:Int):Option (ByteArray×Unit):=
let x0:ByteArray:=(bytes []);
(bif (a0==0) then (some (a0,true,())) else
bif (a0==8) then (some (a0,true,())) else
bif (a0==9) then (some (a0,true,())) else
bif (a0==11) then (some (a0,true,())) else
some (a0,(a0==12),()):Option (T01)).bind fun(x1,x2,_)=>
bif x2 then (let x3:ByteArray:=(bytes [78]);
some (x3,())) else
bif (x1==1) then (let x3:ByteArray:=(bytes [72,80,78]);
some (x3,())) else
bif (x1==2) then (let x3:ByteArray:=(bytes [72,80,78]);
some (x3,())) else
bif (x1==3) then (let x3:ByteArray:=(bytes [78,78]);
some (x3,())) else
bif (x1==4) then (let x3:ByteArray:=(bytes [72]);
some (x3,())) else
bif (x1==5) then (let x3:ByteArray:=(bytes [72,78]);
some (x3,())) else
bif (x1==10) then (let x3:ByteArray:=(bytes [78,88]);
some (x3,())) else
bif (x1==13) then (let x3:ByteArray:=(bytes [78,80,78]);
some (x3,())) else
bif (x1==14) then (let x3:ByteArray:=(bytes [78,80,78]);
some (x3,())) else
let x3:ByteArray:=(bytes []);
some (x3,())
noncomputable def yr:X.Cfg:=⟨E0,[],[],[⟨3,0,qE,[(.normal,(qS [(sP 3 I64),(sP 4 .bool)] []))]⟩]⟩
def ln:Ctr:=⟨117,65,(uL [I64]),[],[⟨(uL [.str]),[.one],[]⟩],ap1 ji⟩
theorem nw:Lk 1 ln:=ls (C:=yr) rfl aN (by kernel_rfl) fun h=>by kernel_rfl
def kt(a0:Int) (a1:Int):Option (Bool×Unit):=
bif (a0==78) then (some ((a1==0),())) else
bif (a0==72) then (some ((a1==2),())) else
bif (a0==80) then (some ((a1==1),())) else
some (true,())
noncomputable def AE:X.Cfg:=⟨E0,[],[],[]⟩
def oP:Ctr:=⟨118,66,(uL [CB,CB]),[],[⟨(uL [.bool]),[.one],[]⟩],ap2 kt⟩
theorem sr:Lk 1 oP:=ls (C:=AE) rfl aN (by kernel_rfl) fun h=>by kernel_rfl
def gI(a0:Int):Option (Int×Unit):=
bif (decide (a0 < 0)) then (some ((-1),())) else
bif (decide (a0 > 15)) then (some ((-1),())) else
bif (a0==1) then (some (1,())) else
bif (a0==13) then (some (1,())) else
bif (a0==2) then (some (2,())) else
bif (a0==14) then (some (2,())) else
some (0,())
noncomputable def vV:X.Cfg:=⟨E0,[],[],[]⟩
def ix:Ctr:=⟨105,67,(uL [I64]),[],[⟨(uL [I64]),[.one],[]⟩],ap1 gI⟩
theorem kf:Lk 1 ix:=ls (C:=vV) rfl aN (by kernel_rfl) fun h=>by kernel_rfl
def j3(a0:List (Int)) (a1:Int) (a2:List (Int)) (a3:Int) (a4:Int) (a5:Int):Option (T02):=
bif (a3 != 1) then (some (0,3,())) else
let x0:=(wk .i64 a4);
(eO a0 a1 a2 x0).bind fun(x1,x2,x3,_)=>
(bif (!x3) then (some (true,a3,a4,())) else
bif (decide (a5 < 0)) then (some (true,a3,a4,())) else
(dV x1).bind fun x4=>
(dF a2 x4).bind fun x5=>
let x6:=(w64 (x5 - x2));
some ((decide (a5 > x6)),a3,a4,()):Option (T0b)).bind fun(x4,x5,x6,_)=>
bif x4 then (some (0,4,())) else
let x7:=(wk .i64 x6);
some (x7,0,())
noncomputable def vY:X.Cfg:=⟨E0,[g8],[],[⟨6,0,qE,[(.normal,(qS [(pP 6 14),(sP 41 .bool)] [(14,(uL [CB,CW]))]))]⟩]⟩
def pY:Ctr:=⟨119,68,[.agg (uL [RI,CW]),shU RI,.agg (uL [CB,CW]),shU I64],[],[⟨(uL [I64,I64]),[.one,.one],[]⟩],ap6 j3⟩
theorem vG:Lk 2 pY:=ls (C:=vY) rfl (aC jx aN) (by kernel_rfl) fun h=>by kernel_rfl
def kI:T2A→Option (T2A⊕((Int×Unit)⊕(Int×ByteArray×Int×Int×Bool×T2n))):=fun(v0,v1,v2,v3,v4,v5,v6,v7,v8,v9,v10,v11,v12,v13,v14,v15,v16,v17,v18,v19,_)=>
bif (decide (v3 < v2)) then ((dV v3).bind fun x0=>
(wF v1 x0).bind fun x1=>
(dV v3).bind fun x2=>
(dF v13 x2).bind fun x3=>
(kt x1 x3.1).bind fun(x4,_)=>
bif (!x4) then (some (.inr (.inl (6,())))) else
let x5:=(w64 (v3+1));
some (.inl (v0,v1,v2,x5,v4,v5,v6,v7,v8,v9,v10,v11,v12,v13,v14,v15,v16,v17,v18,v19,()))) else
some (.inr (.inr (v0,v1,v2,v3,false,v4,v5,v6,v7,v8,v9,v10,v11,v12,v13,v14,v15,v16,v17,v18,v19,())))
def kU(a0:LDIn) (a1:List (Int)) (a2:List LI) (a3:List (Int)) (a4:Int) (a5:LDCe) (a6:LDLn) (a7:LDTh) (a8:Int):Option (Int×Unit):=
(dV a8).bind fun x0=>
(dF a7 x0).bind fun x1=>
let x2:=(w64 (x1.2.2.1 - 1));
(dV x2).bind fun x3=>
(dF a0 x3).bind fun x4=>
(ji x4.2.2.2.2).bind fun(x5,_)=>
let x6:=(xn x5);
(match dQ kI NN (x4.2.2.2.2,x5,x6,0,a0,a1,a2,a3,a4,a5,a6,a7,x1.1,x1.2.1,x1.2.2.1,x1.2.2.2.1,x1.2.2.2.2.1,x1.2.2.2.2.2.1,x1.2.2.2.2.2.2.1,x1.2.2.2.2.2.2.2,()) with
| none=>none
| some (.inl (x7,_))=>
some (x7,())
| some (.inr (x7,x8,x9,ac,ae,af,ag,ah,ai,aj,ak,am,an,ap,aq,av,ax,ay,az,aA,aB,_))=>
(gI x7).bind fun(aD,_)=>
bif (decide (aD > 0)) then ((dF aq 1).bind fun aE=>
(dF aq 2).bind fun aF=>
let aG:=(wk .i64 aF.2);
(j3 ai aj ag aE.1 aE.2 aG).bind fun(aH,aI,_)=>
bif (aI != 0) then (some (6,())) else
(dF aq 2).bind fun aJ=>
bif (decide (aJ.2 > 16)) then (some (6,())) else
(bif (x7==10) then ((dF aq 0).bind fun aK=>
let aL:=(wk .i64 aK.2);
let aM:=(dJ (List.length af));
some ((decide (aL≥aM)),())) else
bif (x7==12) then ((dF aq 0).bind fun aK=>
let aL:=(wk .i64 aK.2);
let aM:=(dJ (List.length af));
some ((decide (aL≥aM)),())) else
some (false,()):Option (Bool×Unit)).bind fun(aK,_)=>
bif aK then (some (6,())) else
some (0,())) else
(bif (x7==10) then ((dF aq 0).bind fun aE=>
let aF:=(wk .i64 aE.2);
let aG:=(dJ (List.length af));
some ((decide (aF≥aG)),())) else
bif (x7==12) then ((dF aq 0).bind fun aE=>
let aF:=(wk .i64 aE.2);
let aG:=(dJ (List.length af));
some ((decide (aF≥aG)),())) else
some (false,()):Option (Bool×Unit)).bind fun(aE,_)=>
bif aE then (some (6,())) else
some (0,()))
noncomputable def yw:X.Cfg:=⟨E0,[ln,oP,ix,pY],[],[⟨6,0,(qS [(pP 3 8),(pP 4 10),(pP 7 16),(sP 8 I64),(sP 9 .str),(sP 29 I64),(sP 30 I64)] [(8,(uL [eW,RI,(.row false RW)])),(10,(uL [RI,CW,eS,fq,fw])),(16,(uL [I64,eS,I64,I64,I64,I64,I64,CW]))]),[(.ret,(qS [(sP 6 I64)] [])),(.exit 0,(qS [(pP 3 8),(pP 4 10),(pP 7 16),(sP 8 I64),(sP 9 .str),(sP 29 I64),(sP 30 I64),(sP 31 .bool)] [(8,(uL [eW,RI,(.row false RW)])),(10,(uL [RI,CW,eS,fq,fw])),(16,(uL [I64,eS,I64,I64,I64,I64,I64,CW]))]))]⟩,⟨19,1,qE,[(.normal,(qS [(sP 93 .bool)] []))]⟩]⟩
def rd:Ctr:=⟨103,69,[.agg (uL [eW,RI,(.row false RW)]),.agg (uL [RI,CW,eS,fq,fw]),shU I64],[],[⟨(uL [I64]),[.one],[]⟩],ap9 kU⟩
theorem xQ:Lk 3 rd:=ls (C:=yw) rfl (aC nw (aC sr (aC kf (aC vG aN)))) (by kernel_rfl) fun h=>by kernel_rfl
def j0(a0:Int) (a1:LDCe) (a2:Int) (a3:Int) (a4:Int) (a5:Int) (a6:Int) (a7:Int):Option (T1q):=
bif (dU 4 0 (List.length a1)) then let x0:LDCe:=(List.append [] a1);
some (a0,x0,a2,a3,a4,a5,a6,a7,()) else none
noncomputable def vW:X.Cfg:=⟨E0,[],[],[]⟩
def pX:Ctr:=⟨45,70,[.agg (uL [I64,eS,I64,I64,I64,I64,I64,CW])],[],[⟨(uL [I64,(.row true KCe),I64,I64,I64,I64,I64,CW]),[.agg 8],[]⟩],ap8 j0⟩
theorem vF:Lk 1 pX:=ls (C:=vW) rfl aN (by kernel_rfl) fun h=>by kernel_rfl
def lF(a0:Int) (a1:LDCe) (a2:Int) (a3:Int) (a4:Int) (a5:Int) (a6:Int) (a7:Int) (a8:Int) (a9:Int):Option (T1q):=
(j0 a0 a1 a2 a3 a4 a5 a6 a7).bind fun(x0,x1,x2,x3,x4,x5,x6,x7,_)=>
some (4,x1,x2,x3,x4,x5,a8,a9,())
noncomputable def B7:X.Cfg:=⟨E0,[pX],[],[]⟩
def ql:Ctr:=⟨26,71,[.agg (uL [I64,eS,I64,I64,I64,I64,I64,CW]),shU I64,shU CW],[],[⟨(uL [I64,(.row true KCe),I64,I64,I64,I64,I64,CW]),[.agg 8],[]⟩],ap10 lF⟩
theorem up:Lk 2 ql:=ls (C:=B7) rfl (aC vF aN) (by kernel_rfl) fun h=>by kernel_rfl
def f7(a0:Int):Option (Int×Unit):=
bif (decide (a0 < 0)) then (some ((-1),())) else
bif (decide (a0 > 15)) then (some ((-1),())) else
(ji a0).bind fun(x0,_)=>
let x1:=(xn x0);
some (x1,())
noncomputable def rV:X.Cfg:=⟨E0,[ln],[],[]⟩
def jT:Ctr:=⟨104,72,(uL [I64]),[],[⟨(uL [I64]),[.one],[]⟩],ap1 f7⟩
theorem mW:Lk 2 jT:=ls (C:=rV) rfl (aC nw aN) (by kernel_rfl) fun h=>by kernel_rfl
def gk(a0:List (Int)) (a1:Int) (a2:List (Int)) (a3:Int) (a4:Int):Option (T0o):=
bif (a3==0) then (some (0,a4,0,0,())) else
bif (a3==2) then (let x0:Int:=(wk .u16 (a4 - a1));
some (2,x0,0,0,())) else
let x0:=(wk .i64 a4);
(eO a0 a1 a2 x0).bind fun(x1,x2,x3,_)=>
bif x3 then (some (1,0,x1,x2,())) else
let x4:=(wk .i64 a4);
some (1,0,(-1),x4,())
noncomputable def yM:X.Cfg:=⟨E0,[g8],[],[]⟩
def lr:Ctr:=⟨53,73,[.agg (uL [RI,CW]),shU RI,.agg (uL [CB,CW])],[],[⟨(uL [CB,CW,I64,I64]),[.agg 4],[]⟩],ap5 gk⟩
theorem nA:Lk 2 lr:=ls (C:=yM) rfl (aC jx aN) (by kernel_rfl) fun h=>by kernel_rfl
def kx(a0:LDCe) (a1:LDLn) (a2:Int):Option (T02):=
let x0:=(w64 (Int.tdiv a2 4));
let x1:=(Int.tmod x0 4);
(dV x1).bind fun x2=>
(dF a1 x2).bind fun x3=>
bif (x3.1==x0) then (let x4:Int:=(Int.tmod a2 4);
(dV x4).bind fun x5=>
(dF x3.2.2 x5).bind fun x6=>
some (x6.1,x6.2,())) else
(dV a2).bind fun x4=>
(dF a0 x4).bind fun x5=>
some (x5.1,x5.2,())
noncomputable def AN:X.Cfg:=⟨E0,[],[],[]⟩
def oW:Ctr:=⟨85,74,[.agg (uL [eS,fq]),shU I64],[],[⟨(uL [CB,CW]),[.agg 2],[]⟩],ap3 kx⟩
theorem sA:Lk 1 oW:=ls (C:=AN) rfl aN (by kernel_rfl) fun h=>by kernel_rfl
def gT:T3b→Option (T3b⊕(Int×Int×T36)):=fun(v0,v1,v2,v3,v4,v5,v6,v7,v8,v9,v10,v11,v12,v13,v14,v15,v16,v17,v18,v19,v20,v21,v22,v23,v24,v25,v26,v27,v28,v29,v30,v31,v32,v33,v34,v35,v36,v37,v38,_)=>
bif (decide (v1 < v0)) then ((dV v1).bind fun x0=>
(dF v24 x0).bind fun x1=>
(gk v18 v19 v3 x1.1 x1.2).bind fun(x2,x3,x4,x5,_)=>
let x6:LDCn:=[(x2,(x3,(x4,x5)))];
bif (dU 24 (List.length v37) (List.length x6)) then let x7:LDCn:=(List.append v37 x6);
let x8:=(w64 (v1+1));
some (.inl (v0,x8,v2,v3,v4,v5,v6,v7,v8,v9,v10,v11,v12,v13,v14,v15,v16,v17,v18,v19,v20,v21,v22,v23,v24,v25,v26,v27,v28,v29,v30,v31,v32,v33,v34,v35,v36,x7,v38,())) else none) else
some (.inr (v0,v1,false,v2,v3,v4,v5,v6,v7,v8,v9,v10,v11,v12,v13,v14,v15,v16,v17,v18,v19,v20,v21,v22,v23,v24,v25,v26,v27,v28,v29,v30,v31,v32,v33,v34,v35,v36,v37,v38,()))
def gS:T3a→Option (T3a⊕T3e):=fun(v0,v1,v2,v3,v4,v5,v6,v7,v8,v9,v10,v11,v12,v13,v14,v15,v16,v17,v18,v19,v20,v21,v22,v23,v24,v25,v26,v27,v28,v29,v30,v31,v32,v33,v34,v35,v36,v37,v38,_)=>
bif (decide (v1 < v0)) then ((dF v24 1).bind fun x0=>
let x1:=(wk .i64 x0.2);
let x2:=(w64 (x1+v1));
(kx v20 v21 x2).bind fun(x3,x4,_)=>
(gk v18 v19 v3 x3 x4).bind fun(x5,x6,x7,x8,_)=>
let x9:LDCn:=[(x5,(x6,(x7,x8)))];
bif (dU 24 (List.length v38) (List.length x9)) then let ac:LDCn:=(List.append v38 x9);
let ae:=(w64 (v1+1));
some (.inl (v0,ae,v2,v3,v4,v5,v6,v7,v8,v9,v10,v11,v12,v13,v14,v15,v16,v17,v18,v19,v20,v21,v22,v23,v24,v25,v26,v27,v28,v29,v30,v31,v32,v33,v34,v35,v36,v37,ac,())) else none) else
some (.inr (v0,v1,false,v2,v3,v4,v5,v6,v7,v8,v9,v10,v11,v12,v13,v14,v15,v16,v17,v18,v19,v20,v21,v22,v23,v24,v25,v26,v27,v28,v29,v30,v31,v32,v33,v34,v35,v36,v37,v38,()))
def kv(a0:LDIn) (a1:List (Int)) (a2:List LI) (a3:List (Int)) (a4:Int) (a5:LDCe) (a6:LDLn) (a7:LDTh) (a8:Int) (a9:Int):Option (LI×Int×LDCe×LDLn×LDTh×Int×Int×Int×Int×Int×Int×LDCn×LDCn×Int×Unit):=
(kV a0 a1 a2 a3 a4 a5 a6 a7 a8 a9).bind fun(x0,x1,x2,x3,x4,x5,x6,_)=>
bif (x6 != 0) then (some ([],0,[],[],[],0,0,0,0,0,0,[],[],x6,())) else
(dV a8).bind fun x7=>
(dF x4 x7).bind fun x8=>
(dF x4 x7).bind fun x9=>
(dF x4 x7).bind fun ac=>
(match (bif (x5==2) then (some (.inl ((),0,(),(),(),0,0,0,0,0,0,(),(),x0,x1,x2,x3,x4,a8,x5,x9.2.2.2.2.2.2.1,x9.2.2.2.1,x9.2.2.1,0,(),(),()))) else
bif (x5==1) then ((kU a0 a1 a2 x0 x1 x2 x3 x4 a8).bind fun(ae,_)=>
bif (ae != 0) then ((lF x9.1 ac.2.1 x9.2.2.1 x9.2.2.2.1 x9.2.2.2.2.1 x9.2.2.2.2.2.1 x9.2.2.2.2.2.2.1 x9.2.2.2.2.2.2.2 ae 0).bind fun(af,ag,ah,ai,aj,ak,am,an,_)=>
(dV a8).bind fun ap=>
(dF x4 ap).bind fun aq=>
(dF x4 ap).bind fun av=>
let ax:=(List.modify x4 ap fun e=>(af,(ag,(ah,(ai,(aj,(ak,(am,an))))))));
some (.inl ((),0,(),(),(),0,0,0,0,0,0,(),(),x0,x1,x2,x3,ax,a8,2,ae,x9.2.2.2.1,x9.2.2.1,0,(),(),()))) else
let af:=(w64 (x9.2.2.1 - 1));
(dV af).bind fun ag=>
(dF a0 ag).bind fun ah=>
(f7 ah.2.2.2.2).bind fun(ai,_)=>
(dQ gT NN (ai,0,a0,a1,a2,(),0,(),(),(),0,0,0,0,0,0,(),(),x0,x1,x2,x3,x4,x9.1,ac.2.1,x9.2.2.1,x9.2.2.2.1,x9.2.2.2.2.1,x9.2.2.2.2.2.1,x9.2.2.2.2.2.2.1,x9.2.2.2.2.2.2.2,a8,x5,0,x9.2.2.2.1,x9.2.2.1,ah.2.2.2.2,[],(),())).bind fun(aj,ak,am,an,ap,aq,av,ax,ay,az,aA,aB,aD,aE,aF,aG,aH,aI,aJ,aK,aL,aM,aO,aP,aQ,aR,aS,aT,aU,aV,aW,aY,aZ,ba,bc,bd,be,bf,bg,bh,_)=>
(gI bf).bind fun(bi,_)=>
bif (bi==1) then ((dF aR 2).bind fun bj=>
let bk:=(wk .i64 bj.2);
(dQ gS NN (bk,0,an,ap,aq,av,ax,ay,az,aA,aB,aD,aE,aF,aG,aH,aI,aJ,aK,aL,aM,aO,aP,aQ,aR,aS,aT,aU,aV,aW,aY,aZ,ba,bc,bd,be,bf,bg,[],())).bind fun(bl,bm,bn,bo,bp,bq,bt,bv,bx,bA,bB,bC,bD,bE,bF,bG,bH,bI,bJ,bK,bL,bM,bN,bO,bP,bQ,bR,bS,bT,bU,bV,bW,bY,bZ,b8,b9,ca,cd,cf,cg,_)=>
some (.inr (.inl (bl,bm,bn,bo,bp,bq,bt,bv,bx,bA,bB,bC,bD,bE,bF,bG,bH,bI,bJ,bK,bL,bM,bN,bO,bP,bQ,bR,bS,bT,bU,bV,bW,bY,bZ,b8,b9,ca,cd,cf,cg,())))) else
some (.inr (.inr (.inl (false,an,ap,aq,av,ax,ay,az,aA,aB,aD,aE,aF,aG,aH,aI,aJ,aK,aL,aM,aO,aP,aQ,aR,aS,aT,aU,aV,aW,aY,aZ,ba,bc,bd,be,bf,bg,bh,()))))) else
some (.inr (.inr (.inr (a8,false,a0,a1,a2,(),0,(),(),(),0,0,0,0,0,0,(),(),x0,x1,x2,x3,x4,x9.1,ac.2.1,x9.2.2.1,x9.2.2.2.1,x9.2.2.2.2.1,x9.2.2.2.2.2.1,x9.2.2.2.2.2.2.1,x9.2.2.2.2.2.2.2,a8,x5,0,x9.2.2.2.1,x9.2.2.1,0,(),(),())))):Option ((Unit×Int×Unit×Unit×Unit×Int×Int×Int×Int×Int×Int×Unit×Unit×LI×Int×LDCe×LDLn×LDTh×T1l)⊕(T3e⊕(T36⊕(Int×Bool×LDIn×LI×LLI×Unit×Int×Unit×Unit×Unit×Int×Int×Int×Int×Int×Int×Unit×Unit×LI×Int×LDCe×LDLn×LDTh×Int×LDCe×Int×Int×Int×Int×Int×Int×T1l))))) with
| none=>none
| some (.inl (ae,af,ag,ah,ai,aj,ak,am,an,ap,aq,av,ax,ay,az,aA,aB,aD,aE,aF,aG,aH,aI,aJ,aK,aL,_))=>
some (ay,az,aA,aB,aD,aE,aF,aG,aH,aI,aJ,[],[],0,())
| some (.inr (.inl (ae,af,ag,ah,ai,aj,ak,am,an,ap,aq,av,ax,ay,az,aA,aB,aD,aE,aF,aG,aH,aI,aJ,aK,aL,aM,aO,aP,aQ,aR,aS,aT,aU,aV,aW,aY,aZ,ba,bc,_)))=>
some (aF,aG,aH,aI,aJ,aT,aU,aV,aW,aY,aZ,ba,bc,0,())
| some (.inr (.inr (.inl (ae,af,ag,ah,ai,aj,ak,am,an,ap,aq,av,ax,ay,az,aA,aB,aD,aE,aF,aG,aH,aI,aJ,aK,aL,aM,aO,aP,aQ,aR,aS,aT,aU,aV,aW,aY,aZ,_))))=>
some (aD,aE,aF,aG,aH,aR,aS,aT,aU,aV,aW,aY,[],0,())
| some (.inr (.inr (.inr (ae,af,ag,ah,ai,aj,ak,am,an,ap,aq,av,ax,ay,az,aA,aB,aD,aE,aF,aG,aH,aI,aJ,aK,aL,aM,aO,aP,aQ,aR,aS,aT,aU,aV,aW,aY,aZ,ba,_))))=>
some (aE,aF,aG,aH,aI,aS,aT,aU,aV,aW,aY,[],[],0,()))
noncomputable def AF:X.Cfg:=⟨E0,[re,rd,ql,jT,lr,ix,oW],[],[⟨19,0,(qS [(pP 4 10),(pP 8 18),(pP 9 20),(pP 11 24),(pP 14 30),(pP 15 32),(sP 80 I64),(sP 81 I64)] [(10,(uL [eW,RI,(.row false RW)])),(18,(uL [N1,CW,N1,N1,N1])),(20,(uL [I64,I64,I64,I64,I64,I64,N1,N1])),(24,(uL [RI,CW,(.row true KCe),i6,(.row true I3)])),(30,(uL [I64,eS,I64,I64,I64,I64,I64,CW])),(32,(uL [I64,I64,I64,I64,I64,I64,(.row true KCn),N1]))]),[(.exit 1,(qS [(pP 4 10),(pP 8 18),(pP 9 20),(pP 11 24),(pP 14 30),(pP 15 32),(sP 80 I64),(sP 81 I64),(sP 82 .bool)] [(10,(uL [eW,RI,(.row false RW)])),(18,(uL [N1,CW,N1,N1,N1])),(20,(uL [I64,I64,I64,I64,I64,I64,N1,N1])),(24,(uL [RI,CW,(.row true KCe),i6,(.row true I3)])),(30,(uL [I64,eS,I64,I64,I64,I64,I64,CW])),(32,(uL [I64,I64,I64,I64,I64,I64,(.row true KCn),N1]))]))]⟩,⟨26,1,(qS [(pP 4 10),(pP 8 18),(pP 9 20),(pP 11 24),(pP 14 30),(pP 15 32),(sP 109 I64),(sP 110 I64)] [(10,(uL [eW,RI,(.row false RW)])),(18,(uL [N1,CW,N1,N1,N1])),(20,(uL [I64,I64,I64,I64,I64,I64,N1,N1])),(24,(uL [RI,CW,(.row true KCe),i6,(.row true I3)])),(30,(uL [I64,eS,I64,I64,I64,I64,I64,CW])),(32,(uL [I64,I64,I64,I64,I64,I64,(.row true KCn),(.row true KCn)]))]),[(.exit 3,(qS [(pP 4 10),(pP 8 18),(pP 9 20),(pP 11 24),(pP 14 30),(pP 15 32),(sP 109 I64),(sP 110 I64),(sP 111 .bool)] [(10,(uL [eW,RI,(.row false RW)])),(18,(uL [N1,CW,N1,N1,N1])),(20,(uL [I64,I64,I64,I64,I64,I64,N1,N1])),(24,(uL [RI,CW,(.row true KCe),i6,(.row true I3)])),(30,(uL [I64,eS,I64,I64,I64,I64,I64,CW])),(32,(uL [I64,I64,I64,I64,I64,I64,(.row true KCn),(.row true KCn)]))]))]⟩,⟨7,2,qE,[(.normal,(qS [(pP 8 18),(pP 9 20),(pP 11 24),(pP 15 32)] [(18,(uL [N1,CW,N1,N1,N1])),(20,(uL [I64,I64,I64,I64,I64,I64,N1,N1])),(24,(uL [RI,CW,(.row true KCe),i6,(.row true I3)])),(32,(uL [I64,I64,I64,I64,I64,I64,N1,N1]))])),(.normal,(qS [(pP 4 10),(pP 8 18),(pP 9 20),(pP 11 24),(pP 14 30),(pP 15 32),(sP 109 I64),(sP 110 I64),(sP 111 .bool)] [(10,(uL [eW,RI,(.row false RW)])),(18,(uL [N1,CW,N1,N1,N1])),(20,(uL [I64,I64,I64,I64,I64,I64,N1,N1])),(24,(uL [RI,CW,(.row true KCe),i6,(.row true I3)])),(30,(uL [I64,eS,I64,I64,I64,I64,I64,CW])),(32,(uL [I64,I64,I64,I64,I64,I64,(.row true KCn),(.row true KCn)]))])),(.normal,(qS [(pP 4 10),(pP 8 18),(pP 9 20),(pP 11 24),(pP 14 30),(pP 15 32),(sP 103 .bool)] [(10,(uL [eW,RI,(.row false RW)])),(18,(uL [N1,CW,N1,N1,N1])),(20,(uL [I64,I64,I64,I64,I64,I64,N1,N1])),(24,(uL [RI,CW,(.row true KCe),i6,(.row true I3)])),(30,(uL [I64,eS,I64,I64,I64,I64,I64,CW])),(32,(uL [I64,I64,I64,I64,I64,I64,(.row true KCn),N1]))])),(.normal,(qS [(sP 2 I64),(pP 4 10),(pP 8 18),(pP 9 20),(pP 11 24),(pP 14 30),(pP 15 32),(sP 51 .bool)] [(10,(uL [eW,RI,(.row false RW)])),(18,(uL [N1,CW,N1,N1,N1])),(20,(uL [I64,I64,I64,I64,I64,I64,N1,N1])),(24,(uL [RI,CW,(.row true KCe),i6,(.row true I3)])),(30,(uL [I64,eS,I64,I64,I64,I64,I64,CW])),(32,(uL [I64,I64,I64,I64,I64,I64,N1,N1]))]))]⟩]⟩
def sU:Ctr:=⟨82,75,[.agg (uL [eW,RI,(.row false RW)]),.agg (uL [RI,CW,eS,fq,fw]),shU I64,shU I64],[],[⟨(uL [RI,CW,eS,fq,fw,I64,I64,I64,I64,I64,I64,dY,dY,I64]),[.agg 5,.agg 8,.one],[]⟩],ap10 kv⟩
theorem Ab:Lk 6 sU:=ls (C:=AF) rfl (aC xR (aC xQ (aC up (aC mW (aC nA (aC kf (aC sA aN))))))) (by kernel_rfl) fun h=>by kernel_rfl
def gR:T1L→Option (T1L⊕T1U):=fun(v0,v1,v2,v3,v4,v5,v6,v7,v8,_)=>
bif (decide (v2 < v1)) then ((dV v2).bind fun x0=>
(dF v0 x0).bind fun x1=>
bif (dU 8 0 (List.length x1)) then let x2:List (Int):=(List.append [] x1);
bif (dU 24 (List.length v8) (List.length [x2])) then let x3:List LI:=(List.append v8 [x2]);
let x4:=(w64 (v2+1));
some (.inl (v0,v1,x4,v3,v4,v5,v6,v7,x3,())) else none else none) else
some (.inr (v0,v1,v2,false,v3,v4,v5,v6,v7,v8,()))
def iU(a0:List (Int)) (a1:List LI):Option (T07):=
bif (dU 8 0 (List.length a0)) then let x0:List (Int):=(List.append [] a0);
let x1:=(dJ (List.length a1));
(dQ gR NN (a1,x1,0,a0,a1,(),(),x0,[],())).bind fun(x2,x3,x4,x5,x6,x7,x8,x9,ac,ae,_)=>
some (ac,ae,()) else none
noncomputable def AC:X.Cfg:=⟨E0,[],[(21,(.row true I64)),(22,(.row true I64))],[(lx 4 0 [(pP 2 6),(pP 3 8),(sP 11 (.row false RI)),(sP 12 I64),(sP 13 I64)] [(4,(uL [RI,(.row false RI)])),(6,(uL [N1,N1])),(8,(uL [(.row true I64),(.row true (.row true I64))]))] 14)]⟩
def mA:Ctr:=⟨120,76,[.agg (uL [RI,(.row false RI)])],[],[⟨(uL [(.row true I64),(.row true (.row true I64))]),[.agg 2],[]⟩],ap2 iU⟩
theorem oB:Lk 1 mA:=ls (C:=AC) rfl aN (by kernel_rfl) fun h=>by kernel_rfl
def iT(a0:List (Int)) (a1:List LI) (a2:Int) (a3:Int):Option (LI×LLI×T01):=
(iU a0 a1).bind fun(x0,x1,_)=>
(bif (decide (a2 < 0)) then (some (a2,true,(),(),x0,x1,())) else
bif (decide (a2≥4)) then (some (a2,true,(),(),x0,x1,())) else
(dV a2).bind fun x2=>
(dF a0 x2).bind fun x3=>
some (a2,(x3 != a3),(),(),x0,x1,()):Option (T0Q)).bind fun(x2,x3,x4,x5,x6,x7,_)=>
bif x3 then (some (x6,x7,(-1),false,())) else
(dV x2).bind fun x8=>
(dF x6 x8).bind fun x9=>
(dF x6 x8).bind fun ac=>
let ae:=(List.modify x6 x8 fun e=>(-1));
(dV x2).bind fun af=>
(dF x7 af).bind fun ag=>
(dF x7 af).bind fun ah=>
(dF x7 af).bind fun ai=>
let aj:=(dJ (List.length ai));
bif (decide (aj > 0)) then ((dV x2).bind fun ak=>
(dF x7 ak).bind fun am=>
(dF x7 ak).bind fun an=>
(dF x7 ak).bind fun ap=>
(dF ap 0).bind fun aq=>
(dF x7 ak).bind fun av=>
(dF av 0).bind fun ax=>
(dV x2).bind fun ay=>
(dF ae ay).bind fun az=>
(dF ae ay).bind fun aA=>
let aB:=(List.modify ae ay fun e=>ax);
(dV x2).bind fun aD=>
(dF x7 aD).bind fun aE=>
(dF x7 aD).bind fun aF=>
(dF x7 aD).bind fun aG=>
bif (jG 1 (List.length aG) (List.length aG)) then (dF x7 aD).bind fun aH=>
(dV x2).bind fun aI=>
(dF x7 aI).bind fun aJ=>
(dF x7 aD).bind fun aK=>
(dF x7 aI).bind fun aL=>
let aM:=(List.modify x7 aI fun e=>(mI aK 1 (Nat.sub (List.length aG) 1)));
(dV x2).bind fun aO=>
(dF aB aO).bind fun aP=>
some (aB,aM,aP,true,()) else none) else
(dV x2).bind fun ak=>
(dF ae ak).bind fun am=>
some (ae,x7,am,true,())
noncomputable def AA:X.Cfg:=⟨E0,[mA],[],[⟨3,0,qE,[(.normal,(qS [(sP 1 I64),(pP 6 14),(pP 9 20),(sP 26 .bool)] [(14,(uL [N1,N1])),(20,(uL [(.row true I64),(.row true (.row true I64))]))]))]⟩]⟩
def mz:Ctr:=⟨106,77,[.agg (uL [RI,(.row false RI)]),shU I64,shU I64],[],[⟨(uL [RI,(.row false RI),I64,.bool]),[.agg 2,.one,.one],[]⟩],ap4 iT⟩
theorem oA:Lk 2 mz:=ls (C:=AA) rfl (aC oB aN) (by kernel_rfl) fun h=>by kernel_rfl
def dT(a0:Int) (a1:Bool):Option (T19):=
(bif (!a1) then (some (65535,0,0,0,0,(),0,false,())) else
some (a0,0,0,0,0,(),0,false,()):Option (Int×T19)).bind fun(x0,x1,x2,x3,x4,x5,x6,x7,_)=>
let x8:=(wk .u16 x0);
some (0,x8,0,0,(),(-1),false,())
noncomputable def yh:X.Cfg:=⟨E0,[],[],[⟨1,0,qE,[(.normal,(qS [(sP 0 I64),(pP 4 10)] [(10,(uL [CB,CW,I64,I64,N1,I64,.bool]))]))]⟩]⟩
def jD:Ctr:=⟨121,78,(uL [I64,.bool]),[],[⟨(uL [CB,CW,I64,I64,N1,I64,.bool]),[.agg 7],[]⟩],ap2 dT⟩
theorem li:Lk 1 jD:=ls (C:=yh) rfl aN (by kernel_rfl) fun h=>by kernel_rfl
def lE:T2g→Option (T2g⊕((Int×T07)⊕(Int×Int×LLI×Int×Int×LI×T1w))):=fun(v0,v1,v2,v3,v4,v5,v6,v7,v8,v9,v10,v11,v12,v13,_)=>
bif (decide (v7 < v6)) then ((dV v7).bind fun x0=>
(dF v5 x0).bind fun x1=>
bif (x1==v1) then (some (.inr (.inl (2,v12,v13,())))) else
let x2:=(w64 (v7+1));
some (.inl (v0,v1,v2,v3,v4,v5,v6,x2,v8,v9,v10,v11,v12,v13,()))) else
some (.inr (.inr (v0,v1,v2,v3,v4,v5,v6,v7,false,v8,v9,v10,v11,v12,v13,())))
def lD:T1X→Option (T1X⊕((Int×T07)⊕(Int×Int×T1U))):=fun(v0,v1,v2,v3,v4,v5,v6,v7,v8,v9,v10,_)=>
bif (decide (v4 < v3)) then ((dV v4).bind fun x0=>
(dF v2 x0).bind fun x1=>
let x2:=(dJ (List.length x1));
(match dQ lE NN (v0,v1,v2,v3,v4,x1,x2,0,v5,v6,v7,v8,v9,v10,()) with
| none=>none
| some (.inl (x3,x4,x5,_))=>
some (.inr (.inl (x3,x4,x5,())))
| some (.inr (x3,x4,x5,x6,x7,x8,x9,ac,ae,af,ag,ah,ai,aj,ak,_))=>
let am:=(w64 (x7+1));
some (.inl (x3,x4,x5,x6,am,af,ag,ah,ai,aj,ak,())))) else
some (.inr (.inr (v0,v1,v2,v3,v4,false,v5,v6,v7,v8,v9,v10,())))
def mg(a0:List (Int)) (a1:List LI) (a2:Int) (a3:Int):Option (LI×LLI×Int×Unit):=
(iU a0 a1).bind fun(x0,x1,_)=>
(bif (decide (a2 < 0)) then (some (a2,a3,true,a0,a1,(),(),x0,x1,())) else
bif (decide (a2≥4)) then (some (a2,a3,true,a0,a1,(),(),x0,x1,())) else
(dV a2).bind fun x2=>
(dF a0 x2).bind fun x3=>
some (a2,a3,(x3==a3),a0,a1,(),(),x0,x1,()):Option (T1w)).bind fun(x2,x3,x4,x5,x6,x7,x8,x9,ac,_)=>
bif x4 then (some (x9,ac,2,())) else
let ae:=(dJ (List.length x6));
(match dQ lD NN (x2,x3,x6,ae,0,x5,x6,x7,x8,x9,ac,()) with
| none=>none
| some (.inl (af,ag,ah,_))=>
some (ag,ah,af,())
| some (.inr (af,ag,ah,ai,aj,ak,am,an,ap,aq,av,ax,_))=>
(dV af).bind fun ay=>
(dF am ay).bind fun az=>
bif (az==(-1)) then ((dV af).bind fun aA=>
(dF av aA).bind fun aB=>
(dF av aA).bind fun aD=>
let aE:=(List.modify av aA fun e=>ag);
some (aE,ax,0,())) else
(dV af).bind fun aA=>
(dF ax aA).bind fun aB=>
(dF ax aA).bind fun aD=>
(dF ax aA).bind fun aE=>
bif (dU 8 (List.length aE) (List.length [ag])) then let aF:List (Int):=(List.append aE [ag]);
(dV af).bind fun aG=>
(dF ax aG).bind fun aH=>
(dF ax aG).bind fun aI=>
bif (Nat.beq aG aA) then let aJ:List LI:=(List.modify ax aG fun e=>aF);
some (av,aJ,1,()) else none else none)
noncomputable def Az:X.Cfg:=⟨E0,[mA],[],[⟨3,0,qE,[(.normal,(qS [(sP 1 I64),(sP 2 I64),(pP 3 8),(pP 6 14),(pP 8 18),(sP 29 .bool)] [(8,(uL [RI,(.row false RI)])),(14,(uL [N1,N1])),(18,(uL [(.row true I64),(.row true (.row true I64))]))]))]⟩,⟨13,1,(qS [(sP 1 I64),(sP 2 I64),(pP 3 8),(pP 6 14),(pP 8 18),(sP 32 (.row false RI)),(sP 33 I64),(sP 34 I64),(sP 38 RI),(sP 39 I64),(sP 40 I64)] [(8,(uL [RI,(.row false RI)])),(14,(uL [N1,N1])),(18,(uL [(.row true I64),(.row true (.row true I64))]))]),[(.ret,(qS [(pP 6 14),(sP 7 I64)] [(14,(uL [(.row true I64),(.row true (.row true I64))]))])),(.exit 2,(qS [(sP 1 I64),(sP 2 I64),(pP 3 8),(pP 6 14),(pP 8 18),(sP 32 (.row false RI)),(sP 33 I64),(sP 34 I64),(sP 38 RI),(sP 39 I64),(sP 40 I64),(sP 41 .bool)] [(8,(uL [RI,(.row false RI)])),(14,(uL [N1,N1])),(18,(uL [(.row true I64),(.row true (.row true I64))]))]))]⟩,⟨7,2,(qS [(sP 1 I64),(sP 2 I64),(pP 3 8),(pP 6 14),(pP 8 18),(sP 32 (.row false RI)),(sP 33 I64),(sP 34 I64)] [(8,(uL [RI,(.row false RI)])),(14,(uL [N1,N1])),(18,(uL [(.row true I64),(.row true (.row true I64))]))]),[(.ret,(qS [(pP 6 14),(sP 7 I64)] [(14,(uL [(.row true I64),(.row true (.row true I64))]))])),(.exit 0,(qS [(sP 1 I64),(sP 2 I64),(pP 3 8),(pP 6 14),(pP 8 18),(sP 32 (.row false RI)),(sP 33 I64),(sP 34 I64),(sP 35 .bool)] [(8,(uL [RI,(.row false RI)])),(14,(uL [N1,N1])),(18,(uL [(.row true I64),(.row true (.row true I64))]))]))]⟩]⟩
def sS:Ctr:=⟨122,79,[.agg (uL [RI,(.row false RI)]),shU I64,shU I64],[],[⟨(uL [(.row true I64),(.row true (.row true I64)),I64]),[.agg 2,.one],[]⟩],ap4 mg⟩
theorem z0:Lk 2 sS:=ls (C:=Az) rfl (aC oB aN) (by kernel_rfl) fun h=>by kernel_rfl
def jj(a0:Int) (a1:Int) (a2:Int) (a3:Int) (a4:Int) (a5:Int) (a6:LDCn) (a7:LDCn):Option (Bool×Unit):=
bif (decide (a0≥0)) then (bif (decide (a0 < 4)) then (bif (decide (a1≥0)) then (bif (decide (a1≤3)) then (bif (decide (a2≥0)) then (bif (decide (a2≤6)) then (bif (decide (a3≥0)) then (bif (decide (a3≤1099511627776)) then (bif (decide (a4≥0)) then (bif (decide (a4≤255)) then (bif (decide (a5≥0)) then (bif (decide (a5≤15)) then ((eV a6 3).bind fun(x0,_)=>
bif x0 then ((eV a7 16).bind fun(x1,_)=>
some (x1,())) else
some (false,())) else
some (false,())) else
some (false,())) else
some (false,())) else
some (false,())) else
some (false,())) else
some (false,())) else
some (false,())) else
some (false,())) else
some (false,())) else
some (false,())) else
some (false,())) else
some (false,())
noncomputable def yu:X.Cfg:=⟨E0,[fQ],[],[]⟩
def nJ:Ctr:=⟨124,80,[.agg (uL [I64,I64,I64,I64,I64,I64,dY,dY])],[],[⟨(uL [.bool]),[.one],[]⟩],ap8 jj⟩
theorem qI:Lk 3 nJ:=ls (C:=yu) rfl (aC gr aN) (by kernel_rfl) fun h=>by kernel_rfl
def oc(a0:Int):Option (Bool×Unit):=
bif (decide (a0≥1)) then (bif (decide (a0≤7)) then (some (true,())) else
bif (a0==13) then (some (true,())) else
some ((a0==14),())) else
bif (a0==13) then (some (true,())) else
some ((a0==14),())
noncomputable def Ar:X.Cfg:=⟨E0,[],[],[]⟩
def sM:Ctr:=⟨135,81,(uL [I64]),[],[⟨(uL [.bool]),[.one],[]⟩],ap1 oc⟩
theorem zV:Lk 1 sM:=ls (C:=Ar) rfl aN (by kernel_rfl) fun h=>by kernel_rfl
def gz:T24→Option (T24⊕((Bool×Unit)⊕(ByteArray×LDCn×Int×Int×Bool×T1k))):=fun(v0,v1,v2,v3,v4,v5,v6,v7,v8,v9,v10,v11,_)=>
bif (decide (v3 < v2)) then ((dV v3).bind fun x0=>
(dF v1 x0).bind fun x1=>
(dV v3).bind fun x2=>
(wF v0 x2).bind fun x3=>
(kt x3 x1.1).bind fun(x4,_)=>
bif (!x4) then (some (.inr (.inl (false,())))) else
let x5:=(w64 (v3+1));
some (.inl (v0,v1,v2,x5,v4,v5,v6,v7,v8,v9,v10,v11,()))) else
some (.inr (.inr (v0,v1,v2,v3,false,v4,v5,v6,v7,v8,v9,v10,v11,())))
def kT(a0:Int) (a1:Int) (a2:Int) (a3:Int) (a4:Int) (a5:Int) (a6:LDCn) (a7:LDCn):Option (Bool×Unit):=
(ji a5).bind fun(x0,_)=>
let x1:=(xn x0);
let x2:=(dJ (List.length a6));
bif (x1 != x2) then (some (false,())) else
let x3:=(dJ (List.length a6));
(match dQ gz NN (x0,a6,x3,0,a0,a1,a2,a3,a4,a5,a6,a7,()) with
| none=>none
| some (.inl (x4,_))=>
some (x4,())
| some (.inr (x4,x5,x6,x7,x8,x9,ac,ae,af,ag,ah,ai,aj,_))=>
some (true,()))
noncomputable def yv:X.Cfg:=⟨E0,[ln,oP],[],[⟨7,0,(qS [(sP 3 .str),(sP 16 dY),(sP 17 I64),(sP 18 I64)] [(4,(uL [I64,I64,I64,I64,I64,I64,dY,dY]))]),[(.ret,(qS [(sP 2 .bool)] [])),(.exit 0,(qS [(sP 3 .str),(sP 16 dY),(sP 17 I64),(sP 18 I64),(sP 19 .bool)] [(4,(uL [I64,I64,I64,I64,I64,I64,dY,dY]))]))]⟩]⟩
def rb:Ctr:=⟨136,82,[.agg (uL [I64,I64,I64,I64,I64,I64,dY,dY])],[],[⟨(uL [.bool]),[.one],[]⟩],ap8 kT⟩
theorem xP:Lk 2 rb:=ls (C:=yv) rfl (aC nw (aC sr aN)) (by kernel_rfl) fun h=>by kernel_rfl
def gg(a0:List LDCn) (a1:LDOp) (a2:Int):Option (Bool×Unit):=
bif (decide (a2≥0)) then (let x0:Int:=(dJ (List.length a1));
bif (decide (a2 < x0)) then ((dV a2).bind fun x1=>
(dF a1 x1).bind fun x2=>
some ((x2.1 != (-1)),())) else
some (false,())) else
some (false,())
noncomputable def Au:X.Cfg:=⟨E0,[],[],[]⟩
def kE:Ctr:=⟨150,83,[.agg (uL [(.row false dY),gf]),shU I64],[],[⟨(uL [.bool]),[.one],[]⟩],ap3 gg⟩
theorem mt:Lk 1 kE:=ls (C:=Au) rfl aN (by kernel_rfl) fun h=>by kernel_rfl
def nV:T20→Option (T20⊕(LDCn×Nat×Int×Int×Int×Bool×T15)):=fun(v0,v1,v2,v3,v4,v5,v6,v7,v8,v9,v10,_)=>
bif (decide (v4 < v3)) then (((dF v9 v1).bind fun x0=>
let x1:=(w64 (x0.2.1+v4));
let x2:=(dJ (List.length v10));
bif (decide (x1 < x2)) then ((dF v9 v1).bind fun x3=>
let x4:=(w64 (x3.2.1+v4));
(dV v4).bind fun x5=>
(dF v0 x5).bind fun x6=>
(dV x4).bind fun x7=>
(dF v10 x7).bind fun x8=>
(dF v10 x7).bind fun x9=>
let ac:=(List.modify v10 x7 fun e=>(x6.1,(x6.2.1,(x6.2.2.1,x6.2.2.2))));
some (v0,v1,v2,v3,v4,v5,v6,v7,v8,v9,ac,())) else
(dV v4).bind fun x3=>
(dF v0 x3).bind fun x4=>
let x5:LDCn:=[(x4.1,(x4.2.1,(x4.2.2.1,x4.2.2.2)))];
bif (dU 24 (List.length v10) (List.length x5)) then let x6:LDCn:=(List.append v10 x5);
some (v0,v1,v2,v3,v4,v5,v6,v7,v8,v9,x6,()) else none:Option (T20)).bind fun(x0,x1,x2,x3,x4,x5,x6,x7,x8,x9,ac,_)=>
let ae:=(w64 (x4+1));
some (.inl (x0,x1,x2,x3,ae,x5,x6,x7,x8,x9,ac,()))) else
some (.inr (v0,v1,v2,v3,v4,false,v5,v6,v7,v8,v9,v10,()))
def kO(a0:List LDCn) (a1:LDOp) (a2:Int) (a3:LDCn):Option (LLCn×LDOp×T01):=
(ft a0 a1).bind fun(x0,x1,_)=>
((gg a0 a1 a2).bind fun(x2,_)=>
bif (!x2) then (some (a2,a3,true,(),(),x0,x1,())) else
(dV a2).bind fun x3=>
(dF a1 x3).bind fun x4=>
bif (!x4.2.2) then (some (a2,a3,true,(),(),x0,x1,())) else
let x5:=(dJ (List.length a3));
(eV a3 x5).bind fun(x6,_)=>
some (a2,a3,(!x6),(),(),x0,x1,()):Option (Int×LDCn×T0A)).bind fun(x2,x3,x4,x5,x6,x7,x8,_)=>
bif x4 then (some (x7,x8,0,false,())) else
(dV x2).bind fun x9=>
(dF x8 x9).bind fun ac=>
let ae:=(dJ (List.length x3));
(dF x8 x9).bind fun af=>
let ag:=(w64 (64 - af.2.1));
let ah:=(mmR false ae ag);
(dF x8 x9).bind fun ai=>
(dV ai.1).bind fun aj=>
(dF x7 aj).bind fun ak=>
(dF x7 aj).bind fun am=>
(dF x7 aj).bind fun an=>
(dQ nV NN (x3,x9,ah,ah,0,x5,x6,x7,aj,x8,an,())).bind fun(ap,aq,av,ax,ay,az,aA,aB,aD,aE,aF,aG,_)=>
(dF aF aq).bind fun aH=>
(dV aH.1).bind fun aI=>
(dF aD aI).bind fun aJ=>
(dF aD aI).bind fun aK=>
bif (Nat.beq aI aE) then let aL:List LDCn:=(List.modify aD aI fun e=>aG);
(dF aF aq).bind fun aM=>
let aO:=(w64 (aM.2.1+av));
(dF aF aq).bind fun aP=>
let aQ:=(List.modify aF aq fun e=>(e.1,(aO,e.2.2)));
some (aL,aQ,av,true,()) else none
noncomputable def yk:X.Cfg:=⟨E0,[g7,kE,fQ],[],[⟨3,0,qE,[(.normal,(qS [(sP 1 I64),(sP 2 dY),(pP 6 14),(pP 9 20),(sP 35 .bool)] [(14,(uL [N1,N1])),(20,(uL [(.row true (.row true KCn)),(.row true KOp)]))]))]⟩,⟨13,1,qE,[(.normal,(qS [(sP 2 dY),(pP 6 14),(pP 9 20),(10,.ptr ⟨20,1,[((),(3,0))]⟩ [0,0]),(sP 11 I64),(12,.pk ⟨27,0,[]⟩ [0,0]),(sP 57 I64),(sP 58 I64)] [(14,(uL [N1,N1])),(20,[.gap (.row true KCn) () () 0,shU (.row true KOp)]),(27,(uL [(.row true KCn)]))]))]⟩,(lx 10 2 [(sP 2 dY),(pP 6 14),(pP 9 20),(10,.ptr ⟨20,1,[((),(3,0))]⟩ [0,0]),(sP 11 I64),(12,.pk ⟨27,0,[]⟩ [0,0]),(sP 57 I64),(sP 58 I64)] [(14,(uL [N1,N1])),(20,[.gap (.row true KCn) () () 0,shU (.row true KOp)]),(27,(uL [(.row true KCn)]))] 59)]⟩
def qZ:Ctr:=⟨137,84,[.agg (uL [(.row false dY),gf]),shU I64,shU dY],[],[⟨(uL [(.row true (.row true KCn)),(.row true KOp),I64,.bool]),[.agg 2,.one,.one],[]⟩],ap4 kO⟩
theorem xK:Lk 3 qZ:=ls (C:=yk) rfl (aC iZ (aC mt (aC gr aN))) (by kernel_rfl) fun h=>by kernel_rfl
def me(a0:List LDCn) (a1:LDOp) (a2:Int) (a3:Int):Option ((LLCn×LDOp×Unit×Bool×Unit)⊕(LLCn×LDOp×LDCn×Bool×Unit)):=
(ft a0 a1).bind fun(x0,x1,_)=>
((gg a0 a1 a2).bind fun(x2,_)=>
bif (!x2) then (some (a2,a3,true,a0,a1,(),(),x0,x1,())) else
bif (decide (a3 < 0)) then (some (a2,a3,true,a0,a1,(),(),x0,x1,())) else
(dV a2).bind fun x3=>
(dF a1 x3).bind fun x4=>
some (a2,a3,x4.2.2,a0,a1,(),(),x0,x1,()):Option (T1x)).bind fun(x2,x3,x4,x5,x6,x7,x8,x9,ac,_)=>
bif x4 then (some (.inl (x9,ac,(),false,()))) else
(dV x2).bind fun ae=>
(dF ac ae).bind fun af=>
(dF ac ae).bind fun ag=>
(dV ag.1).bind fun ah=>
(dF x9 ah).bind fun ai=>
(dF x9 ah).bind fun aj=>
(dF x9 ah).bind fun ak=>
let am:=(dJ (List.length ak));
(dF ac ae).bind fun an=>
let ap:=(w64 (am - an.2.1));
let aq:=(mmR false x3 ap);
(dF ac ae).bind fun av=>
(dF ac ae).bind fun ax=>
let ay:=(w64 (ax.2.1+aq));
(dV av.2.1).bind fun az=>
(dV ay).bind fun aA=>
bif (jG az aA (List.length ak)) then let aB:LDCn:=(mI ak az (Nat.sub aA az));
bif (dU 24 0 (List.length aB)) then let aD:LDCn:=(List.append [] aB);
(dF ac ae).bind fun aE=>
let aF:=(w64 (aE.2.1+aq));
(dF ac ae).bind fun aG=>
let aH:=(List.modify ac ae fun e=>(e.1,(aF,e.2.2)));
some (.inr (x9,aH,aD,true,())) else none else none
noncomputable def Aw:X.Cfg:=⟨E0,[g7,kE],[],[⟨3,0,qE,[(.normal,(qS [(sP 1 I64),(sP 2 I64),(pP 6 14),(pP 9 20),(sP 31 .bool)] [(8,(uL [(.row false dY),gf])),(14,(uL [N1,N1])),(20,(uL [(.row true (.row true KCn)),(.row true KOp)]))]))]⟩]⟩
def sQ:Ctr:=⟨138,85,[.agg (uL [(.row false dY),gf]),shU I64,shU I64],[],[⟨(uL [(.row true (.row true KCn)),(.row true KOp),N1,.bool]),[.agg 2,.one,.one],[]⟩,⟨(uL [(.row true dY),(.row true KOp),(.row true KCn),.bool]),[.agg 2,.one,.one],[]⟩],ap4 me⟩
theorem zY:Lk 2 sQ:=ls (C:=Aw) rfl (aC iZ (aC mt aN)) (by kernel_rfl) fun h=>by kernel_rfl
def oe:T1A→Option (T1A⊕(Int×T1x)):=fun(v0,v1,v2,v3,v4,v5,v6,v7,v8,_)=>
let x0:=(dJ (List.length v4));
bif (decide (v2 < x0)) then ((dV v2).bind fun x1=>
(dF v4 x1).bind fun x2=>
bif (x2.1 != (-1)) then (let x3:Int:=(w64 (v2+1));
some (.inl (v0,v1,x3,v3,v4,v5,v6,v7,v8,()))) else
some (.inr (v0,v1,v2,false,v3,v4,v5,v6,v7,v8,()))) else
some (.inr (v0,v1,v2,false,v3,v4,v5,v6,v7,v8,()))
def od:T1z→Option (T1z⊕(Int×Int×T1j)):=fun(v0,v1,v2,v3,v4,v5,v6,v7,v8,_)=>
bif (decide (v4 < v3)) then (((dV v4).bind fun x0=>
(dF v8 x0).bind fun x1=>
(dF v8 x0).bind fun x2=>
bif (x2.1==v0) then ((dV v4).bind fun x3=>
(dF v8 x3).bind fun x4=>
(dF v8 x3).bind fun x5=>
let x6:=(List.modify v8 x3 fun e=>(e.1,(0,e.2.2)));
some (v0,v1,v2,v3,v4,v5,v6,v7,x6,())) else
some (v0,v1,v2,v3,v4,v5,v6,v7,v8,()):Option (T1z)).bind fun(x0,x1,x2,x3,x4,x5,x6,x7,x8,_)=>
let x9:=(w64 (x4+1));
some (.inl (x0,x1,x2,x3,x9,x5,x6,x7,x8,()))) else
some (.inr (v0,v1,v2,v3,v4,false,v5,v6,v7,v8,()))
def mf(a0:List LDCn) (a1:LDOp) (a2:Int) (a3:Int):Option (LLCn×LDOp×Int×Unit):=
(ft a0 a1).bind fun(x0,x1,_)=>
(dQ oe NN (a2,a3,0,a0,a1,(),(),x0,x1,())).bind fun(x2,x3,x4,x5,x6,x7,x8,x9,ac,ae,_)=>
(bif (decide (x2 < 0)) then (some (x2,x3,x4,true,x8,x9,ac,ae,())) else
let af:=(dJ (List.length x6));
bif (decide (x2≥af)) then (some (x2,x3,x4,true,x8,x9,ac,ae,())) else
bif (decide (x3 < 0)) then (some (x2,x3,x4,true,x8,x9,ac,ae,())) else
bif (decide (x3 > 2)) then (some (x2,x3,x4,true,x8,x9,ac,ae,())) else
let ag:=(dJ (List.length x7));
some (x2,x3,x4,(x4==ag),x8,x9,ac,ae,()):Option (T1j)).bind fun(af,ag,ah,ai,aj,ak,am,an,_)=>
bif ai then (some (am,an,(-1),())) else
bif (ag==1) then ((dV af).bind fun ap=>
(dF am ap).bind fun aq=>
(dF am ap).bind fun av=>
let ax:=(List.modify am ap fun e=>[]);
let ay:=(dJ (List.length an));
(dQ od NN (af,ag,ah,ay,0,aj,ak,ax,an,())).bind fun(az,aA,aB,aD,aE,aF,aG,aH,aI,aJ,_)=>
(dV aB).bind fun aK=>
(dF aJ aK).bind fun aL=>
(dF aJ aK).bind fun aM=>
let aO:=(List.modify aJ aK fun e=>(az,(0,(decide (aA > 0)))));
(bif (aA==2) then ((dV az).bind fun aP=>
(dF aI aP).bind fun aQ=>
(dF aI aP).bind fun aR=>
(dF aI aP).bind fun aS=>
let aT:=(dJ (List.length aS));
(dV aB).bind fun aU=>
(dF aO aU).bind fun aV=>
(dF aO aU).bind fun aW=>
let aY:=(List.modify aO aU fun e=>(e.1,(aT,e.2.2)));
some (aB,aG,aH,aI,aY,())) else
some (aB,aG,aH,aI,aO,()):Option (T0F)).bind fun(aP,aQ,aR,aS,aT,_)=>
some (aS,aT,aP,())) else
(dV ah).bind fun ap=>
(dF an ap).bind fun aq=>
(dF an ap).bind fun av=>
let ax:=(List.modify an ap fun e=>(af,(0,(decide (ag > 0)))));
(bif (ag==2) then ((dV af).bind fun ay=>
(dF am ay).bind fun az=>
(dF am ay).bind fun aA=>
(dF am ay).bind fun aB=>
let aD:=(dJ (List.length aB));
(dV ah).bind fun aE=>
(dF ax aE).bind fun aF=>
(dF ax aE).bind fun aG=>
let aH:=(List.modify ax aE fun e=>(e.1,(aD,e.2.2)));
some (ah,aj,ak,am,aH,())) else
some (ah,aj,ak,am,ax,()):Option (T0F)).bind fun(ay,az,aA,aB,aD,_)=>
some (aB,aD,ay,())
noncomputable def Ax:X.Cfg:=⟨E0,[g7],[],[(lx 4 0 [(sP 1 I64),(sP 2 I64),(pP 3 8),(pP 6 14),(pP 8 18),(sP 9 I64)] [(8,(uL [(.row false dY),gf])),(14,(uL [N1,N1])),(18,(uL [(.row true (.row true KCn)),(.row true KOp)]))] 26),⟨8,1,qE,[(.normal,(qS [(sP 1 I64),(sP 2 I64),(pP 6 14),(pP 8 18),(sP 9 I64),(sP 52 .bool)] [(14,(uL [N1,N1])),(18,(uL [(.row true (.row true KCn)),(.row true KOp)]))]))]⟩,⟨17,2,qE,[(.normal,(qS [(sP 1 I64),(sP 2 I64),(pP 6 14),(pP 8 18),(sP 9 I64),(sP 62 I64),(sP 63 I64)] [(14,(uL [N1,N1])),(18,(uL [(.row true (.row true KCn)),(.row true KOp)]))]))]⟩,⟨14,3,(qS [(sP 1 I64),(sP 2 I64),(pP 6 14),(pP 8 18),(sP 9 I64),(sP 62 I64),(sP 63 I64)] [(14,(uL [N1,N1])),(18,(uL [(.row true (.row true KCn)),(.row true KOp)]))]),[(.exit 2,(qS [(sP 1 I64),(sP 2 I64),(pP 6 14),(pP 8 18),(sP 9 I64),(sP 62 I64),(sP 63 I64),(sP 64 .bool)] [(14,(uL [N1,N1])),(18,(uL [(.row true (.row true KCn)),(.row true KOp)]))]))]⟩,⟨21,4,qE,[(.normal,(qS [(pP 6 14),(pP 8 18),(sP 9 I64)] [(14,(uL [N1,N1])),(18,(uL [(.row true (.row true KCn)),(.row true KOp)]))]))]⟩]⟩
def sR:Ctr:=⟨139,86,[.agg (uL [(.row false dY),gf]),shU I64,shU I64],[],[⟨(uL [(.row true (.row true KCn)),(.row true KOp),I64]),[.agg 2,.one],[]⟩],ap4 mf⟩
theorem zZ:Lk 2 sR:=ls (C:=Ax) rfl (aC iZ aN) (by kernel_rfl) fun h=>by kernel_rfl
def kP(a0:List LDCn) (a1:LDOp) (a2:Int):Option (LLCn×LDOp×Bool×Unit):=
(ft a0 a1).bind fun(x0,x1,_)=>
(gg a0 a1 a2).bind fun(x2,_)=>
bif (!x2) then (some (x0,x1,false,())) else
(dV a2).bind fun x3=>
(dF x1 x3).bind fun x4=>
(dF x1 x3).bind fun x5=>
let x6:=(List.modify x1 x3 fun e=>((-1),(0,false)));
some (x0,x6,true,())
noncomputable def ym:X.Cfg:=⟨E0,[g7,kE],[],[]⟩
def q7:Ctr:=⟨140,87,[.agg (uL [(.row false dY),gf]),shU I64],[],[⟨(uL [(.row true (.row true KCn)),(.row true KOp),.bool]),[.agg 2,.one],[]⟩],ap3 kP⟩
theorem xL:Lk 2 q7:=ls (C:=ym) rfl (aC iZ (aC mt aN)) (by kernel_rfl) fun h=>by kernel_rfl
def md(a0:List LDCn) (a1:LDOp) (a2:Int) (a3:Int):Option (LLCn×LDOp×Bool×Unit):=
(ft a0 a1).bind fun(x0,x1,_)=>
((gg a0 a1 a2).bind fun(x2,_)=>
bif (!x2) then (some (a2,a3,true,(),(),x0,x1,())) else
bif (decide (a3 < 0)) then (some (a2,a3,true,(),(),x0,x1,())) else
(dV a2).bind fun x3=>
(dF a1 x3).bind fun x4=>
(dV x4.1).bind fun x5=>
(dF a0 x5).bind fun x6=>
let x7:=(dJ (List.length x6));
some (a2,a3,(decide (a3 > x7)),(),(),x0,x1,()):Option (T17)).bind fun(x2,x3,x4,x5,x6,x7,x8,_)=>
bif x4 then (some (x7,x8,false,())) else
(dV x2).bind fun x9=>
(dF x8 x9).bind fun ac=>
(dF x8 x9).bind fun ae=>
let af:=(List.modify x8 x9 fun e=>(e.1,(x3,e.2.2)));
some (x7,af,true,())
noncomputable def Av:X.Cfg:=⟨E0,[g7,kE],[],[⟨3,0,qE,[(.normal,(qS [(sP 1 I64),(sP 2 I64),(pP 6 14),(pP 8 18),(sP 33 .bool)] [(14,(uL [N1,N1])),(18,(uL [(.row true (.row true KCn)),(.row true KOp)]))]))]⟩]⟩
def sO:Ctr:=⟨141,88,[.agg (uL [(.row false dY),gf]),shU I64,shU I64],[],[⟨(uL [(.row true (.row true KCn)),(.row true KOp),.bool]),[.agg 2,.one],[]⟩],ap4 md⟩
theorem zX:Lk 2 sO:=ls (C:=Av) rfl (aC iZ (aC mt aN)) (by kernel_rfl) fun h=>by kernel_rfl
def mc(a0:LDOu) (a1:Int) (a2:LDCn):Option (LDOu×T01):=
(iS a0).bind fun(x0,_)=>
(bif (decide (a1 < 0)) then (some (a0,a1,a2,true,x0,())) else
bif (decide (a1≥2)) then (some (a0,a1,a2,true,x0,())) else
let x1:=(dJ (List.length a0));
bif (decide (x1≥200)) then (some (a0,a1,a2,true,x0,())) else
let x2:=(dJ (List.length a2));
some (a0,a1,a2,(decide (x2 > 16)),x0,()):Option (LDOu×Int×LDCn×Bool×LDOu×Unit)).bind fun(x1,x2,x3,x4,x5,_)=>
bif x4 then (some (x5,0,false,())) else
let x6:=(dJ (List.length x1));
bif (dU 24 0 (List.length x3)) then let x7:LDCn:=(List.append [] x3);
let x8:LDOu:=[(x6,(x2,x7))];
bif (dU 40 (List.length x5) (List.length x8)) then let x9:LDOu:=(List.append x5 x8);
let ac:=(dJ (List.length x3));
some (x9,ac,true,()) else none else none
noncomputable def As:X.Cfg:=⟨E0,[oL],[(36,CG),(37,CG)],[⟨3,0,qE,[(.normal,(qS [(sP 0 it),(sP 1 I64),(sP 2 dY),(9,.pk ⟨21,0,[]⟩ [0,0]),(sP 27 .bool)] [(21,(uL [(.row true CG)]))]))]⟩]⟩
def sN:Ctr:=⟨142,89,(uL [it,I64,dY]),[],[⟨(uL [(.row true CG),I64,.bool]),[.one,.one,.one],[]⟩],ap3 mc⟩
theorem zW:Lk 2 sN:=ls (C:=As) rfl (aC so aN) (by kernel_rfl) fun h=>by kernel_rfl
def fK:T1b→Option (T1b⊕(Int×Int×LI×Int×Int×Bool×LLI×LDCn×Unit)):=fun(v0,v1,v2,v3,v4,v5,v6,_)=>
bif (decide (v4 < v3)) then ((dV v4).bind fun x0=>
(dF v2 x0).bind fun x1=>
let x2:LDCn:=[(0,(x1,(0,0)))];
bif (dU 24 (List.length v6) (List.length x2)) then let x3:LDCn:=(List.append v6 x2);
let x4:=(w64 (v4+1));
some (.inl (v0,v1,v2,v3,x4,v5,x3,())) else none) else
some (.inr (v0,v1,v2,v3,v4,false,v5,v6,()))
def jc(a0:List LI) (a1:Int) (a2:Int):Option ((LLI×Unit×Bool×Unit)⊕(LLI×LDCn×Bool×Unit)):=
(fe a0).bind fun(x0,_)=>
(bif (decide (a1 < 0)) then (some (a0,a1,a2,true,x0,())) else
let x1:=(dJ (List.length a0));
bif (decide (a1≥x1)) then (some (a0,a1,a2,true,x0,())) else
some (a0,a1,a2,(decide (a2 < 0)),x0,()):Option (LLI×Int×Int×Bool×LLI×Unit)).bind fun(x1,x2,x3,x4,x5,_)=>
bif x4 then (some (.inl (x5,(),false,()))) else
(dV x2).bind fun x6=>
(dF x1 x6).bind fun x7=>
let x8:=(dJ (List.length x7));
let x9:=(mmR false x3 x8);
(dV x2).bind fun ac=>
(dF x1 ac).bind fun ae=>
(dV x9).bind fun af=>
bif (jG 0 af (List.length ae)) then let ag:List (Int):=(mI ae 0 (Nat.sub af 0));
let ah:=(dJ (List.length ag));
(dQ fK NN (x2,x9,ag,ah,0,x5,[],())).bind fun(ai,aj,ak,am,an,ap,aq,av,_)=>
(dV ai).bind fun ax=>
(dF aq ax).bind fun ay=>
(dF aq ax).bind fun az=>
(dF aq ax).bind fun aA=>
(dV aj).bind fun aB=>
bif (jG aB (List.length aA) (List.length aA)) then (dF aq ax).bind fun aD=>
(dV ai).bind fun aE=>
(dF aq aE).bind fun aF=>
(dF aq ax).bind fun aG=>
(dF aq aE).bind fun aH=>
let aI:=(List.modify aq aE fun e=>(mI aG aB (Nat.sub (List.length aA) aB)));
some (.inr (aI,av,true,())) else none else none
noncomputable def uz:X.Cfg:=⟨E0,[gL],[],[⟨3,0,qE,[(.normal,(qS [(sP 0 (.row false RW)),(sP 1 I64),(sP 2 I64),(9,.pk ⟨21,0,[]⟩ [0,0]),(sP 27 .bool)] [(21,(uL [(.row true (.row true CW))]))]))]⟩,(lx 9 1 [(sP 1 I64),(9,.pk ⟨21,0,[]⟩ [0,0]),(sP 10 I64),(11,.pk ⟨25,0,[]⟩ [0,0]),(sP 41 RW),(sP 42 I64),(sP 43 I64)] [(21,(uL [(.row true (.row true CW))])),(25,(uL [(.row true KCn)]))] 44)]⟩
def oJ:Ctr:=⟨143,90,(uL [(.row false RW),I64,I64]),[],[⟨(uL [(.row true (.row true CW)),N1,.bool]),[.one,.one,.one],[]⟩,⟨(uL [(.row true RW),(.row true KCn),.bool]),[.one,.one,.one],[]⟩],ap3 jc⟩
theorem uj:Lk 2 oJ:=ls (C:=uz) rfl (aC jw aN) (by kernel_rfl) fun h=>by kernel_rfl
def qr:T33→Option (T33⊕(LDCn×Int×Int×Bool×T2V)):=fun(v0,v1,v2,v3,v4,v5,v6,v7,v8,v9,v10,v11,v12,v13,v14,v15,v16,v17,v18,v19,v20,v21,v22,v23,v24,v25,v26,v27,v28,v29,v30,v31,v32,v33,v34,v35,v36,_)=>
bif (decide (v2 < v1)) then ((dV v2).bind fun x0=>
(dF v0 x0).bind fun x1=>
let x2:=(wk .i64 x1.2.1);
(dV v2).bind fun x3=>
(dF v36 x3).bind fun x4=>
(dF v36 x3).bind fun x5=>
let x6:=(List.modify v36 x3 fun e=>x2);
let x7:=(w64 (v2+1));
some (.inl (v0,v1,x7,v3,v4,v5,v6,v7,v8,v9,v10,v11,v12,v13,v14,v15,v16,v17,v18,v19,v20,v21,v22,v23,v24,v25,v26,v27,v28,v29,v30,v31,v32,v33,v34,v35,x6,()))) else
some (.inr (v0,v1,v2,false,v3,v4,v5,v6,v7,v8,v9,v10,v11,v12,v13,v14,v15,v16,v17,v18,v19,v20,v21,v22,v23,v24,v25,v26,v27,v28,v29,v30,v31,v32,v33,v34,v35,v36,()))
def mJ(a0:List (Int)) (a1:List (Int)) (a2:List LI) (a3:List LDCn) (a4:LDOp) (a5:LDOu) (a6:Int) (a7:Int) (a8:Int) (a9:Int) (a10:Int) (a11:Int) (a12:LDCn) (a13:LDCn):Option (LI×LI×LLI×LLCn×LDOp×LDOu×Int×Int×Int×Int×LDCn×Int×Bool×Int×Unit):=
((hZ a0 a1 a2 a3 a4 a5).bind fun(x0,_)=>
bif (!x0) then (some (true,a0,a1,a2,a3,a4,a5,a6,a7,a8,a9,a10,a11,a12,a13,(),(),(),(),(),(),0,0,0,0,(),0,false,())) else
(jj a6 a7 a8 a9 a10 a11 a12 a13).bind fun(x1,_)=>
bif (!x1) then (some (true,a0,a1,a2,a3,a4,a5,a6,a7,a8,a9,a10,a11,a12,a13,(),(),(),(),(),(),0,0,0,0,(),0,false,())) else
bif (a7 != 1) then (some (true,a0,a1,a2,a3,a4,a5,a6,a7,a8,a9,a10,a11,a12,a13,(),(),(),(),(),(),0,0,0,0,(),0,false,())) else
(oc a11).bind fun(x2,_)=>
bif (!x2) then (some (true,a0,a1,a2,a3,a4,a5,a6,a7,a8,a9,a10,a11,a12,a13,(),(),(),(),(),(),0,0,0,0,(),0,false,())) else
(kT a6 a7 a8 a9 a10 a11 a12 a13).bind fun(x3,_)=>
bif (!x3) then (some (true,a0,a1,a2,a3,a4,a5,a6,a7,a8,a9,a10,a11,a12,a13,(),(),(),(),(),(),0,0,0,0,(),0,false,())) else
(gI a11).bind fun(x4,_)=>
bif (x4==2) then ((dF a12 2).bind fun x5=>
some ((decide (x5.2.1 > 16)),a0,a1,a2,a3,a4,a5,a6,a7,a8,a9,a10,a11,a12,a13,(),(),(),(),(),(),0,0,0,0,(),0,false,())) else
some (false,a0,a1,a2,a3,a4,a5,a6,a7,a8,a9,a10,a11,a12,a13,(),(),(),(),(),(),0,0,0,0,(),0,false,()):Option (Bool×LI×LI×LLI×LLCn×LDOp×LDOu×Int×Int×Int×Int×Int×Int×LDCn×LDCn×Unit×Unit×Unit×Unit×Unit×Unit×T19)).bind fun(x0,x1,x2,x3,x4,x5,x6,x7,x8,x9,ac,ae,af,ag,ah,ai,aj,ak,am,an,ap,aq,av,ax,ay,az,aA,aB,_)=>
bif x0 then (some ([],[],[],[],[],[],0,0,0,0,[],0,false,1,())) else
(kp x1 x2 x3 x4 x5 x6).bind fun(aD,aE,aF,aG,aH,aI,_)=>
let aJ:List (Int):=[0,0,0];
let aK:=(dJ (List.length ag));
(dQ qr NN (ag,aK,0,x1,x2,x3,x4,x5,x6,x7,x8,x9,ac,ae,af,ag,ah,ai,aj,ak,am,an,ap,aq,av,ax,ay,az,aA,aB,aD,aE,aF,aG,aH,aI,aJ,())).bind fun(aL,aM,aO,aP,aQ,aR,aS,aT,aU,aV,aW,aY,aZ,ba,bc,bd,be,bf,bg,bh,bi,bj,bk,bl,bm,bn,bo,bp,bq,bt,bv,bx,bA,bB,bC,bD,bE,bF,_)=>
(dT 0 false).bind fun(bG,bH,bI,bJ,bK,bL,bM,_)=>
(match (bif (bd==1) then ((dF bF 0).bind fun bN=>
(dF bF 0).bind fun bO=>
(kO aT aU bO bf).bind fun(bP,bQ,bR,bS,_)=>
(dT bR bS).bind fun(bT,bU,bV,bW,bY,bZ,b8,_)=>
some (.inl (bg,bh,bi,bj,bk,bl,bm,bn,bo,bp,bq,bt,bv,bx,bA,bB,bP,bQ,bE,bT,bU,bV,bW,[],bZ,b8,()))) else
bif (bd==2) then ((dF bF 0).bind fun bN=>
(dF bF 0).bind fun bO=>
(dF bF 2).bind fun bP=>
(dF bF 2).bind fun bQ=>
(match me aT aU bO bQ with
| none=>none
| some (.inl (bR,bS,bT,bU,_))=>
(dT 0 bU).bind fun(bV,bW,bY,bZ,b8,b9,ca,_)=>
some (.inl (bg,bh,bi,bj,bk,bl,bm,bn,bo,bp,bq,bt,bv,bx,bA,bB,bR,bS,bE,bV,bW,bY,bZ,[],b9,ca,()))
| some (.inr (bR,bS,bT,bU,_))=>
let bV:=(dJ (List.length bT));
(dT bV bU).bind fun(bW,bY,bZ,b8,b9,ca,cd,_)=>
some (.inl (bg,bh,bi,bj,bk,bl,bm,bn,bo,bp,bq,bt,bv,bx,bA,bB,bR,bS,bE,bW,bY,bZ,b8,bT,ca,cd,())))) else
bif (bd==3) then ((dF bF 0).bind fun bN=>
(dF bF 0).bind fun bO=>
(dF bF 1).bind fun bP=>
(dF bF 1).bind fun bQ=>
(mf aT aU bO bQ).bind fun(bR,bS,bT,_)=>
bif (decide (bT≥0)) then (let bU:Int:=(wk .u16 bT);
some (.inr (.inl (bg,bh,bi,bj,bk,bl,bm,bn,bo,bp,bq,bt,bv,bx,bA,bB,bR,bS,bE,2,bU,0,0,bK,bL,bM,())))) else
some (.inr (.inl (bg,bh,bi,bj,bk,bl,bm,bn,bo,bp,bq,bt,bv,bx,bA,bB,bR,bS,bE,bG,bH,bI,bJ,bK,bL,bM,())))) else
bif (bd==4) then ((dF bF 0).bind fun bN=>
(dF bF 0).bind fun bO=>
(kP aT aU bO).bind fun(bP,bQ,bR,_)=>
(dT 0 bR).bind fun(bS,bT,bU,bV,bW,bY,bZ,_)=>
some (.inl (bg,bh,bi,bj,bk,bl,bm,bn,bo,bp,bq,bt,bv,bx,bA,bB,bP,bQ,bE,bS,bT,bU,bV,[],bY,bZ,()))) else
bif (bd==5) then ((dF bF 0).bind fun bN=>
(dF bF 0).bind fun bO=>
(dF bF 1).bind fun bP=>
(dF bF 1).bind fun bQ=>
(md aT aU bO bQ).bind fun(bR,bS,bT,_)=>
(dT 0 bT).bind fun(bU,bV,bW,bY,bZ,b8,b9,_)=>
some (.inl (bg,bh,bi,bj,bk,bl,bm,bn,bo,bp,bq,bt,bv,bx,bA,bB,bR,bS,bE,bU,bV,bW,bY,[],b8,b9,()))) else
bif (bd==6) then (let bN:Int:=(dJ (List.length aQ));
bif (decide (bN > 0)) then ((dF aQ 0).bind fun bO=>
let bP:=(wk .i64 bO);
(dT bP true).bind fun(bQ,bR,bS,bT,bU,bV,bW,_)=>
bif (jG 1 (List.length bx) (List.length bx)) then let bY:List (Int):=(mI bx 1 (Nat.sub (List.length bx) 1));
some (.inr (.inr (.inl (bg,bh,bi,bj,bk,bl,bm,bn,bo,bp,bq,bt,bv,bY,bA,bB,bC,bD,bE,bQ,bR,bS,bT,bU,bV,bW,())))) else none) else
some (.inr (.inl (bg,bh,bi,bj,bk,bl,bm,bn,bo,bp,bq,bt,bv,bx,bA,bB,bC,bD,bE,bG,bH,bI,bJ,bK,bL,bM,())))) else
bif (bd==7) then (let bN:Int:=(dJ (List.length aR));
bif (decide (bN > 0)) then ((dF aR 0).bind fun bO=>
let bP:=(wk .i64 bO);
(dT bP true).bind fun(bQ,bR,bS,bT,bU,bV,bW,_)=>
bif (jG 1 (List.length bA) (List.length bA)) then let bY:List (Int):=(mI bA 1 (Nat.sub (List.length bA) 1));
some (.inr (.inr (.inr (.inl (bg,bh,bi,bj,bk,bl,bm,bn,bo,bp,bq,bt,bv,bx,bY,bB,bC,bD,bE,bQ,bR,bS,bT,bU,bV,bW,()))))) else none) else
some (.inr (.inl (bg,bh,bi,bj,bk,bl,bm,bn,bo,bp,bq,bt,bv,bx,bA,bB,bC,bD,bE,bG,bH,bI,bJ,bK,bL,bM,())))) else
bif (bd==13) then ((dF bF 0).bind fun bN=>
(dF bF 0).bind fun bO=>
(mc aV bO bf).bind fun(bP,bQ,bR,_)=>
(dT bQ bR).bind fun(bS,bT,bU,bV,bW,bY,bZ,_)=>
some (.inr (.inl (bg,bh,bi,bj,bk,bl,bm,bn,bo,bp,bq,bt,bv,bx,bA,bB,bC,bD,bP,bS,bT,bU,bV,bW,bY,bZ,())))) else
bif (bd==14) then ((dF bF 0).bind fun bN=>
(dF bF 0).bind fun bO=>
(dF bF 2).bind fun bP=>
(dF bF 2).bind fun bQ=>
(match jc aS bO bQ with
| none=>none
| some (.inl (bR,bS,bT,_))=>
(dT 0 bT).bind fun(bU,bV,bW,bY,bZ,b8,b9,_)=>
some (.inr (.inl (bg,bh,bi,bj,bk,bl,bm,bn,bo,bp,bq,bt,bv,bx,bA,bR,bC,bD,bE,bU,bV,bW,bY,bS,b8,b9,())))
| some (.inr (bR,bS,bT,_))=>
let bU:=(dJ (List.length bS));
(dT bU bT).bind fun(bV,bW,bY,bZ,b8,b9,ca,_)=>
some (.inr (.inr (.inr (.inr (bg,bh,bi,bj,bk,bl,bm,bn,bo,bp,bq,bt,bv,bx,bA,bR,bC,bD,bE,bV,bW,bY,bZ,bS,b9,ca,()))))))) else
some (.inr (.inl (bg,bh,bi,bj,bk,bl,bm,bn,bo,bp,bq,bt,bv,bx,bA,bB,bC,bD,bE,bG,bH,bI,bJ,bK,bL,bM,()))):Option (T2L⊕(T2M⊕(T2M⊕(T2M⊕T2L))))) with
| none=>none
| some (.inl (bN,bO,bP,bQ,bR,bS,bT,bU,bV,bW,bY,bZ,b8,b9,ca,cd,cf,cg,ch,ci,cj,cl,cn,cq,cr,cu,_))=>
some (b9,ca,cd,cf,cg,ch,ci,cj,cl,cn,cq,cr,cu,0,())
| some (.inr (.inl (bN,bO,bP,bQ,bR,bS,bT,bU,bV,bW,bY,bZ,b8,b9,ca,cd,cf,cg,ch,ci,cj,cl,cn,cq,cr,cu,_)))=>
some (b9,ca,cd,cf,cg,ch,ci,cj,cl,cn,[],cr,cu,0,())
| some (.inr (.inr (.inl (bN,bO,bP,bQ,bR,bS,bT,bU,bV,bW,bY,bZ,b8,b9,ca,cd,cf,cg,ch,ci,cj,cl,cn,cq,cr,cu,_))))=>
some (b9,ca,cd,cf,cg,ch,ci,cj,cl,cn,[],cr,cu,0,())
| some (.inr (.inr (.inr (.inl (bN,bO,bP,bQ,bR,bS,bT,bU,bV,bW,bY,bZ,b8,b9,ca,cd,cf,cg,ch,ci,cj,cl,cn,cq,cr,cu,_)))))=>
some (b9,ca,cd,cf,cg,ch,ci,cj,cl,cn,[],cr,cu,0,())
| some (.inr (.inr (.inr (.inr (bN,bO,bP,bQ,bR,bS,bT,bU,bV,bW,bY,bZ,b8,b9,ca,cd,cf,cg,ch,ci,cj,cl,cn,cq,cr,cu,_)))))=>
some (b9,ca,cd,cf,cg,ch,ci,cj,cl,cn,cq,cr,cu,0,()))
noncomputable def Ey:X.Cfg:=⟨E0,[lm,nJ,sM,rb,ix,oI,jD,qZ,sQ,sR,q7,sO,sN,oJ],[],[⟨2,0,qE,[(.normal,(qS [(pP 2 6),(pP 3 8),(pP 4 10),(pP 5 12),(sP 67 .bool)] [(6,(uL [RW,RW,(.row false RW),(.row false dY),gf,it])),(8,(uL [I64,I64,I64,I64,I64,I64,dY,dY])),(10,(uL [N1,N1,N1,N1,N1,N1])),(12,(uL [CB,CW,I64,I64,N1,I64,.bool]))]))]⟩,(lx 8 1 [(pP 2 6),(pP 3 8),(pP 4 10),(pP 5 12),(pP 7 16),(8,.pk ⟨19,0,[]⟩ [0,0]),(sP 74 dY),(sP 75 I64),(sP 76 I64)] [(6,(uL [RW,RW,(.row false RW),(.row false dY),gf,it])),(8,(uL [I64,I64,I64,I64,I64,I64,dY,dY])),(10,(uL [N1,N1,N1,N1,N1,N1])),(12,(uL [CB,CW,I64,I64,N1,I64,.bool])),(16,(uL [(.row true CW),(.row true CW),(.row true (.row true CW)),(.row true (.row true KCn)),(.row true KOp),(.row true CG)])),(19,(uL [(.row true I64)]))] 77),⟨14,2,qE,[(.normal,(qS [(pP 4 10),(pP 5 12),(pP 7 16),(pP 11 24)] [(10,(uL [N1,N1,N1,N1,N1,N1])),(12,(uL [CB,CW,I64,I64,N1,I64,.bool])),(16,(uL [(.row true CW),(.row true CW),(.row true (.row true CW)),(.row false dY),gf,(.row true CG)])),(24,(uL [CB,CW,I64,I64,(.row true KCn),I64,.bool]))])),(.normal,(qS [(pP 4 10),(pP 5 12),(pP 7 16),(pP 11 24)] [(10,(uL [N1,N1,N1,N1,N1,N1])),(12,(uL [CB,CW,I64,I64,N1,I64,.bool])),(16,(uL [(.row true CW),(.row true CW),(.row true (.row true CW)),(.row true (.row true KCn)),(.row true KOp),(.row true CG)])),(24,(uL [CB,CW,I64,I64,N1,I64,.bool]))])),(.normal,(qS [(pP 4 10),(pP 5 12),(pP 7 16),(pP 11 24)] [(10,(uL [N1,N1,N1,N1,N1,N1])),(12,(uL [CB,CW,I64,I64,N1,I64,.bool])),(16,(uL [RW,(.row true CW),(.row true (.row true CW)),(.row true (.row true KCn)),(.row true KOp),(.row true CG)])),(24,(uL [CB,CW,I64,I64,N1,I64,.bool]))])),(.normal,(qS [(pP 4 10),(pP 5 12),(pP 7 16),(pP 11 24)] [(10,(uL [N1,N1,N1,N1,N1,N1])),(12,(uL [CB,CW,I64,I64,N1,I64,.bool])),(16,(uL [(.row true CW),RW,(.row true (.row true CW)),(.row true (.row true KCn)),(.row true KOp),(.row true CG)])),(24,(uL [CB,CW,I64,I64,N1,I64,.bool]))])),(.normal,(qS [(pP 4 10),(pP 5 12),(pP 7 16),(pP 11 24)] [(10,(uL [N1,N1,N1,N1,N1,N1])),(12,(uL [CB,CW,I64,I64,N1,I64,.bool])),(16,(uL [(.row true CW),(.row true CW),(.row true RW),(.row true (.row true KCn)),(.row true KOp),(.row true CG)])),(24,(uL [CB,CW,I64,I64,(.row true KCn),I64,.bool]))]))]⟩]⟩
def w8:Ctr:=⟨123,91,[.agg (uL [RW,RW,(.row false RW),(.row false dY),gf,it]),.agg (uL [I64,I64,I64,I64,I64,I64,dY,dY])],[],[⟨(uL [RW,RW,(.row false RW),(.row false dY),gf,it,CB,CW,I64,I64,dY,I64,.bool,I64]),[.agg 6,.agg 7,.one],[]⟩],ap14 mJ⟩
theorem Er:Lk 5 w8:=ls (C:=Ey) rfl (aC nv (aC qI (aC zV (aC xP (aC kf (aC sn (aC li (aC xK (aC zY (aC zZ (aC xL (aC zX (aC zW (aC uj aN)))))))))))))) (by kernel_rfl) fun h=>by kernel_rfl
def i9:T2P→Option (T2P⊕(T2H⊕(LDTh×Int×Int×Bool×T2H))):=fun(v0,v1,v2,v3,v4,v5,v6,v7,v8,v9,v10,v11,v12,v13,v14,v15,v16,v17,v18,v19,v20,v21,v22,v23,v24,v25,v26,v27,_)=>
bif (decide (v2 < v1)) then ((dV v2).bind fun x0=>
(dF v0 x0).bind fun x1=>
bif (x1.1==0) then ((dT v2 true).bind fun(x2,x3,x4,x5,x6,x7,x8,_)=>
some (.inr (.inl (v3,v4,v5,v6,v7,v8,v9,v10,v11,v12,v13,v14,v15,v16,v17,v18,v19,v20,x2,x3,x4,x5,x6,v2,x8,())))) else
let x2:=(w64 (v2+1));
some (.inl (v0,v1,x2,v3,v4,v5,v6,v7,v8,v9,v10,v11,v12,v13,v14,v15,v16,v17,v18,v19,v20,v21,v22,v23,v24,v25,v26,v27,()))) else
some (.inr (.inr (v0,v1,v2,false,v3,v4,v5,v6,v7,v8,v9,v10,v11,v12,v13,v14,v15,v16,v17,v18,v19,v20,v21,v22,v23,v24,v25,v26,v27,())))
def ja(a0:Int) (a1:Int) (a2:Int) (a3:Int) (a4:Int) (a5:Int) (a6:LDCn) (a7:LDCn) (a8:LDIn) (a9:List (Int)) (a10:List LI) (a11:List (Int)) (a12:Int) (a13:LDCe) (a14:LDLn) (a15:LDTh) (a16:List (Int)) (a17:List (Int)) (a18:List LI) (a19:List LDCn) (a20:LDOp) (a21:LDOu) (a22:List (Int)) (a23:List LI) (a24:LDEn) (a25:List (Int)):Option (Int×Int×Int×Int×LDCn×T2z):=
(bif (a5==0) then (some (a5,true,a8,a9,a10,a11,a12,a13,a14,a15,a16,a17,a18,a19,a20,a21,a22,a23,a24,a25,a0,a1,a2,a3,a4,a5,a6,a7,0,0,0,0,(),0,false,())) else
bif (a5==12) then (some (a5,true,a8,a9,a10,a11,a12,a13,a14,a15,a16,a17,a18,a19,a20,a21,a22,a23,a24,a25,a0,a1,a2,a3,a4,a5,a6,a7,0,0,0,0,(),0,false,())) else
some (a5,(a5==15),a8,a9,a10,a11,a12,a13,a14,a15,a16,a17,a18,a19,a20,a21,a22,a23,a24,a25,a0,a1,a2,a3,a4,a5,a6,a7,0,0,0,0,(),0,false,()):Option (T2W)).bind fun(x0,x1,x2,x3,x4,x5,x6,x7,x8,x9,ac,ae,af,ag,ah,ai,aj,ak,am,an,ap,aq,av,ax,ay,az,aA,aB,aD,aE,aF,aG,aH,aI,aJ,_)=>
bif x1 then ((dT 0 true).bind fun(aK,aL,aM,aO,aP,aQ,aR,_)=>
some (aK,aL,aM,aO,[],aQ,aR,x2,x3,x4,x5,x6,x7,x8,x9,ac,ae,af,ag,ah,ai,aj,ak,am,an,())) else
bif (x0==8) then ((dF aA 0).bind fun aK=>
let aL:=(wk .i64 aK.2.1);
(mg aj ak aL ap).bind fun(aM,aO,aP,_)=>
(dT 0 (aP != 2)).bind fun(aQ,aR,aS,aT,aU,aV,aW,_)=>
some (aQ,aR,aS,aT,[],aV,(aP==1),x2,x3,x4,x5,x6,x7,x8,x9,ac,ae,af,ag,ah,ai,aM,aO,am,an,())) else
bif (x0==9) then ((dF aA 0).bind fun aK=>
let aL:=(wk .i64 aK.2.1);
(iT aj ak aL ap).bind fun(aM,aO,aP,aQ,_)=>
(dT 0 aQ).bind fun(aR,aS,aT,aU,aV,aW,aY,_)=>
some (aR,aS,aT,aU,[],aW,aY,x2,x3,x4,x5,x6,x7,x8,x9,ac,ae,af,ag,ah,ai,aM,aO,am,an,())) else
bif (x0==10) then (let aK:Int:=(dJ (List.length x9));
(match dQ i9 NN (x9,aK,0,x2,x3,x4,x5,x6,x7,x8,x9,ac,ae,af,ag,ah,ai,aj,ak,am,an,aD,aE,aF,aG,aH,aI,aJ,()) with
| none=>none
| some (.inl (aL,aM,aO,aP,aQ,aR,aS,aT,aU,aV,aW,aY,aZ,ba,bc,bd,be,bf,bg,bh,bi,bj,bk,bl,bm,_))=>
some (bg,bh,bi,bj,[],bl,bm,aL,aM,aO,aP,aQ,aR,aS,aT,aU,aV,aW,aY,aZ,ba,bc,bd,be,bf,())
| some (.inr (aL,aM,aO,aP,aQ,aR,aS,aT,aU,aV,aW,aY,aZ,ba,bc,bd,be,bf,bg,bh,bi,bj,bk,bl,bm,bn,bo,bp,bq,_))=>
(dT 0 false).bind fun(bt,bv,bx,bA,bB,bC,bD,_)=>
some (bt,bv,bx,bA,[],bC,bD,aQ,aR,aS,aT,aU,aV,aW,aY,aZ,ba,bc,bd,be,bf,bg,bh,bi,bj,()))) else
bif (x0==11) then ((dF aA 0).bind fun aK=>
let aL:=(wk .i64 aK.2.1);
(bif (aL==ap) then (some (aL,true,x2,x3,x4,x5,x6,x7,x8,x9,ac,ae,af,ag,ah,ai,aj,ak,am,an,ap,aq,av,ax,ay,az,aA,aB,aD,aE,aF,aG,aH,aI,aJ,())) else
bif (decide (aL≥4)) then (some (aL,true,x2,x3,x4,x5,x6,x7,x8,x9,ac,ae,af,ag,ah,ai,aj,ak,am,an,ap,aq,av,ax,ay,az,aA,aB,aD,aE,aF,aG,aH,aI,aJ,())) else
(dV aL).bind fun aM=>
(dF x9 aM).bind fun aO=>
some (aL,(aO.1==0),x2,x3,x4,x5,x6,x7,x8,x9,ac,ae,af,ag,ah,ai,aj,ak,am,an,ap,aq,av,ax,ay,az,aA,aB,aD,aE,aF,aG,aH,aI,aJ,()):Option (T2W)).bind fun(aM,aO,aP,aQ,aR,aS,aT,aU,aV,aW,aY,aZ,ba,bc,bd,be,bf,bg,bh,bi,bj,bk,bl,bm,bn,bo,bp,bq,bt,bv,bx,bA,bB,bC,bD,_)=>
bif aO then ((dT 0 false).bind fun(bE,bF,bG,bH,bI,bJ,bK,_)=>
some (bE,bF,bG,bH,[],bJ,bK,aP,aQ,aR,aS,aT,aU,aV,aW,aY,aZ,ba,bc,bd,be,bf,bg,bh,bi,())) else
(dV aM).bind fun bE=>
(dF aW bE).bind fun bF=>
bif (bF.1==4) then (let bG:Int:=(wk .i64 bF.2.2.2.2.2.2.2);
(dT bG true).bind fun(bH,bI,bJ,bK,bL,bM,bN,_)=>
some (bH,bI,bJ,bK,[],bM,bN,aP,aQ,aR,aS,aT,aU,aV,aW,aY,aZ,ba,bc,bd,be,bf,bg,bh,bi,())) else
(dV bj).bind fun bG=>
(dF bi bG).bind fun bH=>
(dF bi bG).bind fun bI=>
let bJ:=(List.modify bi bG fun e=>aM);
(dT 0 true).bind fun(bK,bL,bM,bN,bO,bP,bQ,_)=>
some (bK,bL,bM,bN,[],bP,true,aP,aQ,aR,aS,aT,aU,aV,aW,aY,aZ,ba,bc,bd,be,bf,bg,bh,bJ,())) else
(mJ ac ae af ag ah ai ap aq av ax ay az aA aB).bind fun(aK,aL,aM,aO,aP,aQ,aR,aS,aT,aU,aV,aW,aY,aZ,_)=>
some (aR,aS,aT,aU,aV,aW,aY,x2,x3,x4,x5,x6,x7,x8,x9,aK,aL,aM,aO,aP,aQ,aj,ak,am,an,())
noncomputable def uy:X.Cfg:=⟨E0,[jD,sS,mz,w8],[],[⟨3,0,qE,[(.normal,(qS [(pP 0 2),(pP 3 8),(pP 4 10),(sP 21 I64),(sP 22 .bool)] [(2,(uL [eW,RI,(.row false RW),RI,CW,eS,fq,fw,RW,RW,(.row false RW),(.row false dY),gf,it,RI,(.row false RI),(.row true qo),(.row true I64)])),(8,(uL [I64,I64,I64,I64,I64,I64,dY,dY])),(10,(uL [CB,CW,I64,I64,N1,I64,.bool]))]))]⟩,⟨20,1,(qS [(pP 0 2),(pP 4 10),(sP 87 fw),(sP 88 I64),(sP 89 I64)] [(2,(uL [eW,RI,(.row false RW),RI,CW,eS,fq,fw,RW,RW,(.row false RW),(.row false dY),gf,it,RI,(.row false RI),(.row true qo),(.row true I64)])),(10,(uL [CB,CW,I64,I64,N1,I64,.bool]))]),[(.ret,(qS [(pP 0 2),(pP 4 10)] [(2,(uL [eW,RI,(.row false RW),RI,CW,eS,fq,fw,RW,RW,(.row false RW),(.row false dY),gf,it,RI,(.row false RI),(.row true qo),(.row true I64)])),(10,(uL [CB,CW,I64,I64,N1,I64,.bool]))])),(.exit 1,(qS [(pP 0 2),(pP 4 10),(sP 87 fw),(sP 88 I64),(sP 89 I64),(sP 90 .bool)] [(2,(uL [eW,RI,(.row false RW),RI,CW,eS,fq,fw,RW,RW,(.row false RW),(.row false dY),gf,it,RI,(.row false RI),(.row true qo),(.row true I64)])),(10,(uL [CB,CW,I64,I64,N1,I64,.bool]))]))]⟩,⟨33,2,qE,[(.normal,(qS [(pP 0 2),(pP 3 8),(pP 4 10),(sP 14 I64),(sP 131 .bool)] [(2,(uL [eW,RI,(.row false RW),RI,CW,eS,fq,fw,RW,RW,(.row false RW),(.row false dY),gf,it,RI,(.row false RI),(.row true qo),(.row true I64)])),(8,(uL [I64,I64,I64,I64,I64,I64,dY,dY])),(10,(uL [CB,CW,I64,I64,N1,I64,.bool]))]))]⟩]⟩
def oH:Ctr:=⟨107,92,[.ptr ⟨2,0,[]⟩ [0],.agg (uL [I64,I64,I64,I64,I64,I64,dY,dY])],[(2,(uL [eW,RI,(.row false RW),RI,CW,eS,fq,fw,RW,RW,(.row false RW),(.row false dY),gf,it,RI,(.row false RI),(.row true qo),(.row true I64)]))],[⟨(uL [CB,CW,I64,I64,dY,I64,.bool]),[.agg 7],[(2,(uL [eW,RI,(.row false RW),RI,CW,eS,fq,fw,RW,RW,(.row false RW),(.row false dY),gf,it,RI,(.row false RI),(.row true qo),(.row true I64)]))]⟩],ap26 ja⟩
theorem ui:Lk 6 oH:=ls (C:=uy) rfl (aC li (aC z0 (aC oA (aC Er aN)))) (by kernel_rfl) fun h=>by kernel_rfl
def jg(a0:Int) (a1:Int) (a2:Int) (a3:Int) (a4:LDCn) (a5:Int) (a6:Bool):Option (Bool×Unit):=
(iV a0 a1 a2 a3).bind fun(x0,_)=>
bif x0 then ((eV a4 16).bind fun(x1,_)=>
bif x1 then (bif (decide (a5≥(-1))) then (some ((decide (a5 < 4)),())) else
some (false,())) else
some (false,())) else
some (false,())
noncomputable def yn:X.Cfg:=⟨E0,[oQ,fQ],[],[]⟩
def nI:Ctr:=⟨125,93,[.agg (uL [CB,CW,I64,I64,dY,I64,.bool])],[],[⟨(uL [.bool]),[.one],[]⟩],ap7 jg⟩
theorem qH:Lk 3 nI:=ls (C:=yn) rfl (aC su (aC gr aN)) (by kernel_rfl) fun h=>by kernel_rfl
def fS(a0:List (Int)) (a1:Int) (a2:List (Int)) (a3:Int) (a4:Int) (a5:Int) (a6:Int):Option (T0d):=
(fT a2 a3 a4 a5 a6).bind fun(x0,_)=>
bif (!x0) then (some (0,0,1,())) else
bif (a3==0) then (some (0,a4,0,())) else
bif (a3==2) then (let x1:Int:=(wk .u16 (a4+a1));
some (2,x1,0,())) else
(dV a5).bind fun x1=>
(dF a0 x1).bind fun x2=>
let x3:=(w64 (x2+a6));
let x4:=(wk .u16 x3);
some (1,x4,0,())
noncomputable def B9:X.Cfg:=⟨E0,[iy],[],[]⟩
def nN:Ctr:=⟨62,94,[.agg (uL [RI,CW]),shU RI,.agg (uL [CB,CW,I64,I64])],[],[⟨(uL [CB,CW,I64]),[.agg 2,.one],[]⟩],ap7 fS⟩
theorem qg:Lk 3 nN:=ls (C:=B9) rfl (aC kg aN) (by kernel_rfl) fun h=>by kernel_rfl
def jo(a0:List (Int)) (a1:Int) (a2:List (Int)) (a3:Int) (a4:Int):Option (T02):=
(eZ a2 a3 a4).bind fun(x0,_)=>
bif (!x0) then (some (0,6,())) else
(dV a3).bind fun x1=>
(dF a0 x1).bind fun x2=>
let x3:=(w64 (x2+a4));
some (x3,0,())
noncomputable def uG:X.Cfg:=⟨E0,[iz],[],[]⟩
def oY:Ctr:=⟨144,95,[.agg (uL [RI,CW]),shU RI,.agg (uL [I64,I64])],[],[⟨(uL [I64,I64]),[.one,.one],[]⟩],ap5 jo⟩
theorem ut:Lk 2 oY:=ls (C:=uG) rfl (aC ki aN) (by kernel_rfl) fun h=>by kernel_rfl
def qt:Option (T1q):=
bif (qD 8 8 2) then let x0:LDCe:=(List.replicate 8 (0,0));
some (0,x0,0,0,(-1),(-1),0,0,()) else none
noncomputable def yC:X.Cfg:=⟨E0,[],[],[]⟩
def ri:Ctr:=⟨19,96,[],[],[⟨(uL [I64,(.row true KCe),I64,I64,I64,I64,I64,CW]),[.agg 8],[]⟩],fun h=>qt⟩
theorem xU:Lk 1 ri:=ls (C:=yC) rfl aN (by kernel_rfl) fun h=>by kernel_rfl
def nh(a0:Int) (a1:Int) (a2:Int):Option (T1q):=
(qt).bind fun(x0,x1,x2,x3,x4,x5,x6,x7,_)=>
(dF x1 0).bind fun x8=>
(dF x1 0).bind fun x9=>
let ac:=(List.modify x1 0 fun e=>(a1,a2));
some (1,ac,a0,x3,x4,x5,x6,x7,())
noncomputable def B6:X.Cfg:=⟨E0,[ri],[],[]⟩
def vf:Ctr:=⟨17,97,[shU I64,.agg (uL [CB,CW])],[],[⟨(uL [I64,(.row true KCe),I64,I64,I64,I64,I64,CW]),[.agg 8],[]⟩],ap3 nh⟩
theorem BS:Lk 2 vf:=ls (C:=B6) rfl (aC xU aN) (by kernel_rfl) fun h=>by kernel_rfl
def jY:T2Q→Option (T2Q⊕(T0O⊕T2R)):=fun(v0,v1,v2,v3,v4,v5,v6,v7,v8,v9,v10,v11,v12,v13,v14,v15,v16,v17,v18,v19,v20,v21,v22,v23,v24,v25,v26,v27,v28,v29,v30,_)=>
bif (decide (v3 < v2)) then ((dV v3).bind fun x0=>
(dF v1 x0).bind fun x1=>
(fS v4 v5 v10 x1.1 x1.2.1 x1.2.2.1 x1.2.2.2).bind fun(x2,x3,x4,_)=>
bif (x4 != 0) then (some (.inr (.inl (false,v4,v5,v6,v7,v8,())))) else
(eZ v10 v29 v30).bind fun(x5,_)=>
bif (!x5) then (some (.inr (.inl (false,v4,v5,v6,v7,v8,())))) else
(jo v4 v5 v10 v29 v30).bind fun(x6,x7,_)=>
(ic x6 x2 x3 v6 v7).bind fun(x8,x9,_)=>
let ac:=(w64 (v30+1));
let ae:=(w64 (v3+1));
some (.inl (v0,v1,v2,ae,v4,v5,x8,x9,v8,v9,v10,v11,v12,v13,v14,v15,v16,v17,v18,v19,v20,v21,v22,v23,v24,v25,v26,v27,v28,v29,ac,()))) else
some (.inr (.inr (v0,v1,v2,v3,false,v4,v5,v6,v7,v8,v9,v10,v11,v12,v13,v14,v15,v16,v17,v18,v19,v20,v21,v22,v23,v24,v25,v26,v27,v28,v29,v30,())))
def nd(a0:LDIn) (a1:List (Int)) (a2:List LI) (a3:Int) (a4:Int) (a5:Int) (a6:Int) (a7:Int) (a8:Int) (a9:LDCn) (a10:LDCn) (a11:Int) (a12:Int) (a13:Int) (a14:Int) (a15:LDCn) (a16:Int) (a17:Bool) (a18:List (Int)) (a19:Int) (a20:LDCe) (a21:LDLn) (a22:LDTh):Option (T0O):=
(dV a3).bind fun x0=>
(dF a22 x0).bind fun x1=>
(fS a18 a19 a1 a11 a12 a13 a14).bind fun(x2,x3,x4,_)=>
bif (x4 != 0) then (some (false,a18,a19,a20,a21,a22,())) else
(match ((gI a8).bind fun(x5,_)=>
bif (x5==2) then (let x6:Int:=(dJ (List.length a15));
bif (decide (x6 > 0)) then ((dF a9 1).bind fun x7=>
(dF a9 1).bind fun x8=>
(dF a9 1).bind fun x9=>
(fT a1 x9.1 x9.2.1 x9.2.2.1 x9.2.2.2).bind fun(ac,_)=>
bif (!ac) then (some (.inl (false,a18,a19,a20,a21,a22,()))) else
(dF a9 1).bind fun ae=>
bif (ae.1 != 1) then (some (.inl (false,a18,a19,a20,a21,a22,()))) else
let af:=(dJ (List.length a15));
(match dQ jY NN (x0,a15,af,0,a18,a19,a20,a21,a22,a0,a1,a2,a3,a4,a5,a6,a7,a8,a9,a10,a11,a12,a13,a14,a15,a16,a17,x2,x3,x7.2.2.1,x8.2.2.2,()) with
| none=>none
| some (.inl (ag,ah,ai,aj,ak,am,_))=>
some (.inl (ag,ah,ai,aj,ak,am,()))
| some (.inr (ag,ah,ai,aj,ak,am,an,ap,aq,av,ax,ay,az,aA,aB,aD,aE,aF,aG,aH,aI,aJ,aK,aL,aM,aO,aP,aQ,aR,aS,aT,aU,_))=>
some (.inr (.inl (ag,ah,ai,aj,ak,am,an,ap,aq,av,ax,ay,az,aA,aB,aD,aE,aF,aG,aH,aI,aJ,aK,aL,aM,aO,aP,aQ,aR,aS,aT,aU,()))))) else
some (.inr (.inr (x0,false,a18,a19,a20,a21,a22,a0,a1,a2,a3,a4,a5,a6,a7,a8,a9,a10,a11,a12,a13,a14,a15,a16,a17,x2,x3,())))) else
some (.inr (.inr (x0,false,a18,a19,a20,a21,a22,a0,a1,a2,a3,a4,a5,a6,a7,a8,a9,a10,a11,a12,a13,a14,a15,a16,a17,x2,x3,()))):Option (T0O⊕(T2R⊕(Nat×Bool×T2I)))) with
| none=>none
| some (.inl (x5,x6,x7,x8,x9,ac,_))=>
some (x5,x6,x7,x8,x9,ac,())
| some (.inr (.inl (x5,x6,x7,x8,x9,ac,ae,af,ag,ah,ai,aj,ak,am,an,ap,aq,av,ax,ay,az,aA,aB,aD,aE,aF,aG,aH,aI,aJ,aK,aL,_)))=>
(match (bif (ax==12) then ((dF ay 0).bind fun aM=>
let aO:=(wk .i64 aM.2.1);
bif (decide (aO > 255)) then (some (.inl (false,ac,ae,af,ag,ah,()))) else
(dF ay 0).bind fun aP=>
bif (aP.1 != 0) then (some (.inl (false,ac,ae,af,ag,ah,()))) else
(dF ay 0).bind fun aQ=>
let aR:=(wk .i64 aQ.2.1);
(dF ah x5).bind fun aS=>
let aT:=(List.modify ah x5 fun e=>(e.1,(e.2.1,(e.2.2.1,(e.2.2.2.1,(aR,e.2.2.2.2.2))))));
some (.inr (x5,ac,ae,af,ag,aT,ai,aj,ak,am,an,ap,aq,av,ax,ay,az,aA,aB,aD,aE,aF,aG,aH,aI,aJ,()))) else
some (.inr (x5,ac,ae,af,ag,ah,ai,aj,ak,am,an,ap,aq,av,ax,ay,az,aA,aB,aD,aE,aF,aG,aH,aI,aJ,())):Option (T0O⊕T2K)) with
| none=>none
| some (.inl (aM,aO,aP,aQ,aR,aS,_))=>
some (aM,aO,aP,aQ,aR,aS,())
| some (.inr (aM,aO,aP,aQ,aR,aS,aT,aU,aV,aW,aY,aZ,ba,bc,bd,be,bf,bg,bh,bi,bj,bk,bl,bm,bn,bo,_))=>
(match (bif (bd==10) then (bif (decide (bl≥0)) then ((dF be 1).bind fun bp=>
(fS aO aP aU bp.1 bp.2.1 bp.2.2.1 bp.2.2.2).bind fun(bq,bt,bv,_)=>
(bif (bv != 0) then (some (aM,true,aO,aP,aQ,aR,aS,aW,aY,aZ,ba,bc,bd,be,bf,bg,bh,bi,bj,bk,bl,bm,bn,bo,bq,bt,())) else
(dV bl).bind fun bx=>
(dF aS bx).bind fun bA=>
(dF aS bx).bind fun bB=>
bif (bB.1 != 0) then (some (aM,true,aO,aP,aQ,aR,aS,aW,aY,aZ,ba,bc,bd,be,bf,bg,bh,bi,bj,bk,bl,bm,bn,bo,bq,bt,())) else
(dF be 0).bind fun bC=>
let bD:=(wk .i64 bC.2.1);
bif (decide (bD > 255)) then (some (aM,true,aO,aP,aQ,aR,aS,aW,aY,aZ,ba,bc,bd,be,bf,bg,bh,bi,bj,bk,bl,bm,bn,bo,bq,bt,())) else
(dF be 0).bind fun bE=>
some (aM,(bE.1 != 0),aO,aP,aQ,aR,aS,aW,aY,aZ,ba,bc,bd,be,bf,bg,bh,bi,bj,bk,bl,bm,bn,bo,bq,bt,()):Option (T2J)).bind fun(bx,bA,bB,bC,bD,bE,bF,bG,bH,bI,bJ,bK,bL,bM,bN,bO,bP,bQ,bR,bS,bT,bU,bV,bW,bY,bZ,_)=>
bif bA then (some (.inl (false,bB,bC,bD,bE,bF,()))) else
(dF bM 0).bind fun b8=>
let b9:=(wk .i64 b8.2.1);
(nh b9 bY bZ).bind fun(ca,cd,cf,cg,ch,ci,cj,cl,_)=>
(dV bT).bind fun cn=>
(dF bF cn).bind fun cq=>
(dF bF cn).bind fun cr=>
let cu:=(List.modify bF cn fun e=>(ca,(cd,(cf,(cg,(ch,(ci,(cj,cl))))))));
some (.inr (bx,bB,bC,bD,bE,cu,bG,bH,bI,bJ,bK,bL,bM,bN,bV,bW,()))) else
some (.inr (aM,aO,aP,aQ,aR,aS,aW,aY,aZ,ba,bc,bd,be,bf,bn,bo,()))) else
some (.inr (aM,aO,aP,aQ,aR,aS,aW,aY,aZ,ba,bc,bd,be,bf,bn,bo,())):Option (T0O⊕T2o)) with
| none=>none
| some (.inl (bp,bq,bt,bv,bx,bA,_))=>
some (bp,bq,bt,bv,bx,bA,())
| some (.inr (bp,bq,bt,bv,bx,bA,bB,bC,bD,bE,bF,bG,bH,bI,bJ,bK,_))=>
(dF bA bp).bind fun bL=>
(dF bA bp).bind fun bM=>
(dF bM.2.1 0).bind fun bN=>
(dF bA bp).bind fun bO=>
(dF bO.2.1 0).bind fun bP=>
let bQ:=(List.modify bA bp fun e=>(e.1,((List.modify e.2.1 0 fun e=>(bJ,bK)),e.2.2)));
(dF bQ bp).bind fun bR=>
let bS:=(List.modify bQ bp fun e=>(1,e.2));
some (true,bq,bt,bv,bx,bS,())))
| some (.inr (.inr (x5,x6,x7,x8,x9,ac,ae,af,ag,ah,ai,aj,ak,am,an,ap,aq,av,ax,ay,az,aA,aB,aD,aE,aF,aG,_)))=>
(match (bif (ap==12) then ((dF aq 0).bind fun aH=>
let aI:=(wk .i64 aH.2.1);
bif (decide (aI > 255)) then (some (.inl (false,x7,x8,x9,ac,ae,()))) else
(dF aq 0).bind fun aJ=>
bif (aJ.1 != 0) then (some (.inl (false,x7,x8,x9,ac,ae,()))) else
(dF aq 0).bind fun aK=>
let aL:=(wk .i64 aK.2.1);
(dF ae x5).bind fun aM=>
let aO:=(List.modify ae x5 fun e=>(e.1,(e.2.1,(e.2.2.1,(e.2.2.2.1,(aL,e.2.2.2.2.2))))));
some (.inr (x5,x7,x8,x9,ac,aO,af,ag,ah,ai,aj,ak,am,an,ap,aq,av,ax,ay,az,aA,aB,aD,aE,aF,aG,()))) else
some (.inr (x5,x7,x8,x9,ac,ae,af,ag,ah,ai,aj,ak,am,an,ap,aq,av,ax,ay,az,aA,aB,aD,aE,aF,aG,())):Option (T0O⊕T2K)) with
| none=>none
| some (.inl (aH,aI,aJ,aK,aL,aM,_))=>
some (aH,aI,aJ,aK,aL,aM,())
| some (.inr (aH,aI,aJ,aK,aL,aM,aO,aP,aQ,aR,aS,aT,aU,aV,aW,aY,aZ,ba,bc,bd,be,bf,bg,bh,bi,bj,_))=>
(match (bif (aW==10) then (bif (decide (bg≥0)) then ((dF aY 1).bind fun bk=>
(fS aI aJ aP bk.1 bk.2.1 bk.2.2.1 bk.2.2.2).bind fun(bl,bm,bn,_)=>
(bif (bn != 0) then (some (aH,true,aI,aJ,aK,aL,aM,aR,aS,aT,aU,aV,aW,aY,aZ,ba,bc,bd,be,bf,bg,bh,bi,bj,bl,bm,())) else
(dV bg).bind fun bo=>
(dF aM bo).bind fun bp=>
(dF aM bo).bind fun bq=>
bif (bq.1 != 0) then (some (aH,true,aI,aJ,aK,aL,aM,aR,aS,aT,aU,aV,aW,aY,aZ,ba,bc,bd,be,bf,bg,bh,bi,bj,bl,bm,())) else
(dF aY 0).bind fun bt=>
let bv:=(wk .i64 bt.2.1);
bif (decide (bv > 255)) then (some (aH,true,aI,aJ,aK,aL,aM,aR,aS,aT,aU,aV,aW,aY,aZ,ba,bc,bd,be,bf,bg,bh,bi,bj,bl,bm,())) else
(dF aY 0).bind fun bx=>
some (aH,(bx.1 != 0),aI,aJ,aK,aL,aM,aR,aS,aT,aU,aV,aW,aY,aZ,ba,bc,bd,be,bf,bg,bh,bi,bj,bl,bm,()):Option (T2J)).bind fun(bo,bp,bq,bt,bv,bx,bA,bB,bC,bD,bE,bF,bG,bH,bI,bJ,bK,bL,bM,bN,bO,bP,bQ,bR,bS,bT,_)=>
bif bp then (some (.inl (false,bq,bt,bv,bx,bA,()))) else
(dF bH 0).bind fun bU=>
let bV:=(wk .i64 bU.2.1);
(nh bV bS bT).bind fun(bW,bY,bZ,b8,b9,ca,cd,cf,_)=>
(dV bO).bind fun cg=>
(dF bA cg).bind fun ch=>
(dF bA cg).bind fun ci=>
let cj:=(List.modify bA cg fun e=>(bW,(bY,(bZ,(b8,(b9,(ca,(cd,cf))))))));
some (.inr (bo,bq,bt,bv,bx,cj,bB,bC,bD,bE,bF,bG,bH,bI,bQ,bR,()))) else
some (.inr (aH,aI,aJ,aK,aL,aM,aR,aS,aT,aU,aV,aW,aY,aZ,bi,bj,()))) else
some (.inr (aH,aI,aJ,aK,aL,aM,aR,aS,aT,aU,aV,aW,aY,aZ,bi,bj,())):Option (T0O⊕T2o)) with
| none=>none
| some (.inl (bk,bl,bm,bn,bo,bp,_))=>
some (bk,bl,bm,bn,bo,bp,())
| some (.inr (bk,bl,bm,bn,bo,bp,bq,bt,bv,bx,bA,bB,bC,bD,bE,bF,_))=>
(dF bp bk).bind fun bG=>
(dF bp bk).bind fun bH=>
(dF bH.2.1 0).bind fun bI=>
(dF bp bk).bind fun bJ=>
(dF bJ.2.1 0).bind fun bK=>
let bL:=(List.modify bp bk fun e=>(e.1,((List.modify e.2.1 0 fun e=>(bE,bF)),e.2.2)));
(dF bL bk).bind fun bM=>
let bN:=(List.modify bL bk fun e=>(1,e.2));
some (true,bl,bm,bn,bo,bN,()))))
noncomputable def B3:X.Cfg:=⟨E0,[nN,ix,iy,iz,oY,nK,vf],[],[⟨13,0,(qS [(pP 1 4),(pP 4 10),(pP 6 14),(pP 7 16),(9,.ptr ⟨4,4,[((),(8,0))]⟩ [0,0]),(pP 10 22),(pP 12 26),(sP 80 dY),(sP 81 I64),(sP 82 I64)] [(4,(uL [RI,CW,(.row true KCe),i6,n6])),(10,(uL [eW,RI,(.row false RW)])),(14,(uL [I64,I64,I64,I64,I64,I64,dY,dY])),(16,(uL [CB,CW,I64,I64,dY,I64,.bool])),(22,(uL [CB,CW])),(26,(uL [I64,I64]))]),[(.ret,(qS [(pP 1 4),(sP 8 .bool)] [(4,(uL [RI,CW,(.row true KCe),i6,n6]))])),(.exit 0,(qS [(pP 1 4),(pP 4 10),(pP 6 14),(pP 7 16),(9,.ptr ⟨4,4,[((),(8,0))]⟩ [0,0]),(pP 10 22),(pP 12 26),(sP 80 dY),(sP 81 I64),(sP 82 I64),(sP 83 .bool)] [(4,(uL [RI,CW,(.row true KCe),i6,n6])),(10,(uL [eW,RI,(.row false RW)])),(14,(uL [I64,I64,I64,I64,I64,I64,dY,dY])),(16,(uL [CB,CW,I64,I64,dY,I64,.bool])),(22,(uL [CB,CW])),(26,(uL [I64,I64]))]))]⟩,⟨6,1,qE,[(.ret,(qS [(pP 1 4),(sP 8 .bool)] [(4,(uL [RI,CW,(.row true KCe),i6,n6]))])),(.normal,(qS [(pP 1 4),(pP 4 10),(pP 6 14),(pP 7 16),(9,.ptr ⟨4,4,[((),(8,0))]⟩ [0,0]),(pP 10 22),(pP 12 26),(sP 80 dY),(sP 81 I64),(sP 82 I64),(sP 83 .bool)] [(4,(uL [RI,CW,(.row true KCe),i6,n6])),(10,(uL [eW,RI,(.row false RW)])),(14,(uL [I64,I64,I64,I64,I64,I64,dY,dY])),(16,(uL [CB,CW,I64,I64,dY,I64,.bool])),(22,(uL [CB,CW])),(26,(uL [I64,I64]))])),(.normal,(qS [(pP 1 4),(pP 4 10),(pP 6 14),(pP 7 16),(9,.ptr ⟨4,4,[((),(8,0))]⟩ [0,0]),(pP 10 22),(sP 51 .bool)] [(4,(uL [RI,CW,(.row true KCe),i6,n6])),(10,(uL [eW,RI,(.row false RW)])),(14,(uL [I64,I64,I64,I64,I64,I64,dY,dY])),(16,(uL [CB,CW,I64,I64,dY,I64,.bool])),(22,(uL [CB,CW]))]))]⟩,⟨24,2,qE,[(.ret,(qS [(pP 1 4),(sP 8 .bool)] [(4,(uL [RI,CW,(.row true KCe),i6,n6]))])),(.normal,(qS [(pP 1 4),(pP 4 10),(pP 6 14),(pP 7 16),(9,.ptr ⟨4,4,[((),(8,0))]⟩ [0,0]),(pP 10 22)] [(4,(uL [RI,CW,(.row true KCe),i6,n6])),(10,(uL [eW,RI,(.row false RW)])),(14,(uL [I64,I64,I64,I64,I64,I64,dY,dY])),(16,(uL [CB,CW,I64,I64,dY,I64,.bool])),(22,(uL [CB,CW]))]))]⟩,⟨33,3,qE,[(.normal,(qS [(pP 1 4),(pP 6 14),(pP 7 16),(9,.ptr ⟨4,4,[((),(8,0))]⟩ [0,0]),(pP 10 22),(pP 19 40),(sP 207 .bool)] [(4,(uL [RI,CW,(.row true KCe),i6,n6])),(14,(uL [I64,I64,I64,I64,I64,I64,dY,dY])),(16,(uL [CB,CW,I64,I64,dY,I64,.bool])),(22,(uL [CB,CW])),(40,(uL [CB,CW]))]))]⟩,⟨29,4,qE,[(.ret,(qS [(pP 1 4),(sP 8 .bool)] [(4,(uL [RI,CW,(.row true KCe),i6,n6]))])),(.normal,(qS [(pP 1 4),(9,.ptr ⟨4,4,[((),(8,0))]⟩ [0,0]),(pP 10 22)] [(4,(uL [RI,CW,(.row true KCe),i6,n6])),(14,(uL [I64,I64,I64,I64,I64,I64,dY,dY])),(22,(uL [CB,CW]))]))]⟩]⟩
def u7:Ctr:=⟨126,98,[.agg (uL [eW,RI,(.row false RW)]),.ptr ⟨4,0,[]⟩ [0],.agg (uL [I64,I64,I64,I64,I64,I64,dY,dY]),.agg (uL [CB,CW,I64,I64,dY,I64,.bool])],[(4,(uL [RI,CW,(.row true KCe),i6,n6]))],[⟨(uL [.bool]),[.one],[(4,(uL [RI,CW,(.row true KCe),i6,n6]))]⟩],ap23 nd⟩
theorem BO:Lk 4 u7:=ls (C:=B3) rfl (aC qg (aC kf (aC kg (aC ki (aC ut (aC qJ (aC BS aN))))))) (by kernel_rfl) fun h=>by kernel_rfl
def ne(a0:LDIn) (a1:List (Int)) (a2:List LI) (a3:List (Int)) (a4:Int) (a5:LDCe) (a6:LDLn) (a7:LDTh) (a8:Int) (a9:Int) (a10:Int) (a11:Int) (a12:Int) (a13:Int) (a14:LDCn) (a15:LDCn) (a16:Int) (a17:Int) (a18:Int) (a19:Int) (a20:LDCn) (a21:Int) (a22:Bool):Option (T10):=
((ia a0 a1 a2 a3 a4 a5 a6 a7).bind fun(x0,_)=>
bif (!x0) then (some (true,a0,a1,a2,a3,a4,a5,a6,a7,a8,a9,a10,a11,a12,a13,a14,a15,a16,a17,a18,a19,a20,a21,a22,(),0,(),(),(),())) else
(jj a8 a9 a10 a11 a12 a13 a14 a15).bind fun(x1,_)=>
bif (!x1) then (some (true,a0,a1,a2,a3,a4,a5,a6,a7,a8,a9,a10,a11,a12,a13,a14,a15,a16,a17,a18,a19,a20,a21,a22,(),0,(),(),(),())) else
bif (a9 != 1) then (some (true,a0,a1,a2,a3,a4,a5,a6,a7,a8,a9,a10,a11,a12,a13,a14,a15,a16,a17,a18,a19,a20,a21,a22,(),0,(),(),(),())) else
let x2:=(dJ (List.length a14));
(f7 a13).bind fun(x3,_)=>
bif (x2 != x3) then (some (true,a0,a1,a2,a3,a4,a5,a6,a7,a8,a9,a10,a11,a12,a13,a14,a15,a16,a17,a18,a19,a20,a21,a22,(),0,(),(),(),())) else
(jg a16 a17 a18 a19 a20 a21 a22).bind fun(x4,_)=>
bif (!x4) then (some (true,a0,a1,a2,a3,a4,a5,a6,a7,a8,a9,a10,a11,a12,a13,a14,a15,a16,a17,a18,a19,a20,a21,a22,(),0,(),(),(),())) else
(dV a8).bind fun x5=>
(dF a7 x5).bind fun x6=>
some ((x6.1 != 2),a0,a1,a2,a3,a4,a5,a6,a7,a8,a9,a10,a11,a12,a13,a14,a15,a16,a17,a18,a19,a20,a21,a22,(),0,(),(),(),()):Option (Bool×LDIn×LI×LLI×LI×Int×LDCe×LDLn×LDTh×Int×Int×Int×Int×Int×Int×LDCn×LDCn×T27)).bind fun(x0,x1,x2,x3,x4,x5,x6,x7,x8,x9,ac,ae,af,ag,ah,ai,aj,ak,am,an,ap,aq,av,ax,ay,az,aA,aB,aD,_)=>
bif x0 then (some (x4,x5,x6,x7,x8,false,())) else
(gV x4 x5 x6 x7 x8).bind fun(aE,aF,aG,aH,aI,_)=>
bif (ah==0) then ((dV x9).bind fun aJ=>
(dF aI aJ).bind fun aK=>
(dF aI aJ).bind fun aL=>
(dF ai 0).bind fun aM=>
(dF aI aJ).bind fun aO=>
(lF aL.1 aO.2.1 aL.2.2.1 aL.2.2.2.1 aL.2.2.2.2.1 aL.2.2.2.2.2.1 aL.2.2.2.2.2.2.1 aL.2.2.2.2.2.2.2 0 aM.2.1).bind fun(aP,aQ,aR,aS,aT,aU,aV,aW,_)=>
(dV x9).bind fun aY=>
(dF aI aY).bind fun aZ=>
(dF aI aY).bind fun ba=>
let bc:=(List.modify aI aY fun e=>(aP,(aQ,(aR,(aS,(aT,(aU,(aV,aW))))))));
some (aE,aF,aG,aH,bc,true,())) else
bif ax then ((dV x9).bind fun aJ=>
(dF aI aJ).bind fun aK=>
(dF aI aJ).bind fun aL=>
let aM:=(List.modify aI aJ fun e=>(3,e.2));
some (aE,aF,aG,aH,aM,true,())) else
(nd x1 x2 x3 x9 ac ae af ag ah ai aj ak am an ap aq av ax aE aF aG aH aI).bind fun(aJ,aK,aL,aM,aO,aP,_)=>
bif (!aJ) then (some (x4,x5,x6,x7,x8,false,())) else
some (aK,aL,aM,aO,aP,true,())
noncomputable def B4:X.Cfg:=⟨E0,[lp,nJ,jT,nI,kF,ql,u7],[],[⟨2,0,qE,[(.normal,(qS [(pP 4 10),(pP 5 12),(pP 6 14),(pP 7 16),(pP 8 18),(sP 48 .bool)] [(10,(uL [eW,RI,(.row false RW)])),(12,(uL [RI,CW,eS,fq,fw])),(14,(uL [I64,I64,I64,I64,I64,I64,dY,dY])),(16,(uL [CB,CW,I64,I64,dY,I64,.bool])),(18,(uL [N1,CW,N1,N1,N1]))]))]⟩]⟩
def u9:Ctr:=⟨108,99,[.agg (uL [eW,RI,(.row false RW)]),.agg (uL [RI,CW,eS,fq,fw]),.agg (uL [I64,I64,I64,I64,I64,I64,dY,dY]),.agg (uL [CB,CW,I64,I64,dY,I64,.bool])],[],[⟨(uL [RI,CW,eS,fq,fw,.bool]),[.agg 5,.one],[]⟩],ap23 ne⟩
theorem BQ:Lk 5 u9:=ls (C:=B4) rfl (aC ny (aC qI (aC mW (aC qH (aC mu (aC up (aC BO aN))))))) (by kernel_rfl) fun h=>by kernel_rfl
def kq(a0:LDIn) (a1:List (Int)) (a2:List LI) (a3:List (Int)) (a4:Int) (a5:LDCe) (a6:LDLn) (a7:LDTh) (a8:Int) (a9:Int) (a10:Int) (a11:Int) (a12:Int) (a13:LDCn) (a14:Int) (a15:Bool):Option (T10):=
((ia a0 a1 a2 a3 a4 a5 a6 a7).bind fun(x0,_)=>
bif (!x0) then (some (a8,true,a0,a1,a2,a3,a4,a5,a6,a7,a9,a10,a11,a12,a13,a14,a15,(),0,(),(),(),())) else
(jg a9 a10 a11 a12 a13 a14 a15).bind fun(x1,_)=>
bif (!x1) then (some (a8,true,a0,a1,a2,a3,a4,a5,a6,a7,a9,a10,a11,a12,a13,a14,a15,(),0,(),(),(),())) else
bif (decide (a8 < 0)) then (some (a8,true,a0,a1,a2,a3,a4,a5,a6,a7,a9,a10,a11,a12,a13,a14,a15,(),0,(),(),(),())) else
bif (decide (a8≥4)) then (some (a8,true,a0,a1,a2,a3,a4,a5,a6,a7,a9,a10,a11,a12,a13,a14,a15,(),0,(),(),(),())) else
(dV a8).bind fun x2=>
(dF a7 x2).bind fun x3=>
some (a8,(x3.1 != 3),a0,a1,a2,a3,a4,a5,a6,a7,a9,a10,a11,a12,a13,a14,a15,(),0,(),(),(),()):Option (Int×Bool×LDIn×LI×LLI×LI×Int×LDCe×LDLn×LDTh×T27)).bind fun(x0,x1,x2,x3,x4,x5,x6,x7,x8,x9,ac,ae,af,ag,ah,ai,aj,ak,am,an,ap,aq,_)=>
bif x1 then (some (x5,x6,x7,x8,x9,false,())) else
(fS x5 x6 x3 ac ae af ag).bind fun(av,ax,ay,_)=>
bif (ay != 0) then (some (x5,x6,x7,x8,x9,false,())) else
(gV x5 x6 x7 x8 x9).bind fun(az,aA,aB,aD,aE,_)=>
(dV x0).bind fun aF=>
(dF aE aF).bind fun aG=>
(dF aE aF).bind fun aH=>
(dF aE aF).bind fun aI=>
(dF aI.2.1 0).bind fun aJ=>
(dF aE aF).bind fun aK=>
(dF aK.2.1 0).bind fun aL=>
let aM:=(List.modify aE aF fun e=>(e.1,((List.modify e.2.1 0 fun e=>(av,ax)),e.2.2)));
(dV x0).bind fun aO=>
(dF aM aO).bind fun aP=>
(dF aM aO).bind fun aQ=>
let aR:=(List.modify aM aO fun e=>(1,e.2));
some (az,aA,aB,aD,aR,true,())
noncomputable def AD:X.Cfg:=⟨E0,[lp,nI,nN,kF],[],[⟨2,0,qE,[(.normal,(qS [(sP 2 I64),(pP 4 10),(pP 5 12),(pP 7 16),(pP 8 18),(sP 38 .bool)] [(10,(uL [eW,RI,(.row false RW)])),(12,(uL [RI,CW,eS,fq,fw])),(16,(uL [CB,CW,I64,I64,dY,I64,.bool])),(18,(uL [N1,CW,N1,N1,N1]))]))]⟩]⟩
def oN:Ctr:=⟨127,100,[.agg (uL [eW,RI,(.row false RW)]),.agg (uL [RI,CW,eS,fq,fw]),shU I64,.agg (uL [CB,CW,I64,I64,dY,I64,.bool])],[],[⟨(uL [RI,CW,eS,fq,fw,.bool]),[.agg 5,.one],[]⟩],ap16 kq⟩
theorem sq:Lk 5 oN:=ls (C:=AD) rfl (aC ny (aC qH (aC qg (aC mu aN)))) (by kernel_rfl) fun h=>by kernel_rfl
def ma(a0:Int) (a1:Int) (a2:LDIn) (a3:List (Int)) (a4:List LI) (a5:List (Int)) (a6:Int) (a7:LDCe) (a8:LDLn) (a9:LDTh) (a10:List (Int)) (a11:List (Int)) (a12:List LI) (a13:List LDCn) (a14:LDOp) (a15:LDOu) (a16:List (Int)) (a17:List LI) (a18:LDEn) (a19:List (Int)):Option (T2t):=
let x0:=(wk .i64 a1);
(dT x0 true).bind fun(x1,x2,x3,x4,x5,x6,x7,_)=>
(kq a2 a3 a4 a5 a6 a7 a8 a9 a0 x1 x2 x3 x4 [] x6 x7).bind fun(x8,x9,ac,ae,af,ag,_)=>
let ah:LDEn:=[(4,(a0,(0,(0,(0,(0,(0,(0,(0,([],([],(x1,(x2,(x3,(x4,([],(x6,x7)))))))))))))))))];
bif (dU 184 (List.length a18) (List.length ah)) then let ai:LDEn:=(List.append a18 ah);
some (a2,a3,a4,x8,x9,ac,ae,af,a10,a11,a12,a13,a14,a15,a16,a17,ai,a19,()) else none
noncomputable def Ao:X.Cfg:=⟨E0,[jD,oN],[(35,Hj),(36,Hj)],[]⟩
def sK:Ctr:=⟨109,101,[.ptr ⟨2,0,[]⟩ [0],shU I64,shU CW],[(2,(uL [eW,RI,(.row false RW),RI,CW,eS,fq,fw,RW,RW,(.row false RW),(.row false dY),gf,it,RI,(.row false RI),(.row true qo),(.row true I64)]))],[⟨[],[],[(2,(uL [eW,RI,(.row false RW),RI,CW,eS,fq,fw,RW,RW,(.row false RW),(.row false dY),gf,it,RI,(.row false RI),(.row true qo),(.row true I64)]))]⟩],ap20 ma⟩
theorem zT:Lk 6 sK:=ls (C:=Ao) rfl (aC li (aC sq aN)) (by kernel_rfl) fun h=>by kernel_rfl
def iv(a0:Int) (a1:Int) (a2:Int) (a3:Int) (a4:Int) (a5:Int) (a6:LDCn) (a7:LDCn) (a8:LDIn) (a9:List (Int)) (a10:List LI) (a11:List (Int)) (a12:Int) (a13:LDCe) (a14:LDLn) (a15:LDTh) (a16:List (Int)) (a17:List (Int)) (a18:List LI) (a19:List LDCn) (a20:LDOp) (a21:LDOu) (a22:List (Int)) (a23:List LI) (a24:LDEn) (a25:List (Int)):Option (T2t):=
(bif (a5==9) then ((dF a6 0).bind fun x0=>
let x1:=(wk .i64 x0.2.1);
(iT a22 a23 x1 a0).bind fun(x2,x3,x4,x5,_)=>
some (x4,a8,a9,a10,a11,a12,a13,a14,a15,a16,a17,a18,a19,a20,a21,a22,a23,a24,a25,a0,a1,a2,a3,a4,a5,a6,a7,())) else
some ((-1),a8,a9,a10,a11,a12,a13,a14,a15,a16,a17,a18,a19,a20,a21,a22,a23,a24,a25,a0,a1,a2,a3,a4,a5,a6,a7,()):Option (Int×LDIn×LI×LLI×LI×Int×LDCe×LDLn×LDTh×LI×LI×LLI×LLCn×LDOp×LDOu×LI×LLI×LDEn×LI×T1k)).bind fun(x0,x1,x2,x3,x4,x5,x6,x7,x8,x9,ac,ae,af,ag,ah,ai,aj,ak,am,an,ap,aq,av,ax,ay,az,aA,_)=>
(ja an ap aq av ax ay az aA x1 x2 x3 x4 x5 x6 x7 x8 x9 ac ae af ag ah ai aj ak am).bind fun(aB,aD,aE,aF,aG,aH,aI,aJ,aK,aL,aM,aO,aP,aQ,aR,aS,aT,aU,aV,aW,aY,aZ,ba,bc,bd,_)=>
(ne aJ aK aL aM aO aP aQ aR an ap aq av ax ay az aA aB aD aE aF aG aH aI).bind fun(be,bf,bg,bh,bi,bj,_)=>
let bk:LDEn:=[(2,(an,(0,(an,(ap,(aq,(av,(ax,(ay,(az,(aA,(aB,(aD,(aE,(aF,(aG,(aH,aI)))))))))))))))))];
bif (dU 184 (List.length bc) (List.length bk)) then let bl:LDEn:=(List.append bc bk);
bif (decide (x0≥0)) then ((ma x0 0 aJ aK aL be bf bg bh bi aS aT aU aV aW aY aZ ba bl bd).bind fun(bm,bn,bo,bp,bq,bt,bv,bx,bA,bB,bC,bD,bE,bF,bG,bH,bI,bJ,_)=>
some (bm,bn,bo,bp,bq,bt,bv,bx,bA,bB,bC,bD,bE,bF,bG,bH,bI,bJ,())) else
some (aJ,aK,aL,be,bf,bg,bh,bi,aS,aT,aU,aV,aW,aY,aZ,ba,bl,bd,()) else none
noncomputable def vT:X.Cfg:=⟨E0,[mz,oH,u9,sK],[(56,Hj),(57,Hj)],[⟨2,0,qE,[(.normal,(qS [(pP 0 2),(pP 3 8),(sP 4 I64)] [(2,(uL [eW,RI,(.row false RW),RI,CW,eS,fq,fw,RW,RW,(.row false RW),(.row false dY),gf,it,RI,(.row false RI),(.row true qo),(.row true I64)])),(8,(uL [I64,I64,I64,I64,I64,I64,dY,dY]))]))]⟩]⟩
def pV:Ctr:=⟨83,102,[.ptr ⟨2,0,[]⟩ [0],.agg (uL [I64,I64,I64,I64,I64,I64,dY,dY])],[(2,(uL [eW,RI,(.row false RW),RI,CW,eS,fq,fw,RW,RW,(.row false RW),(.row false dY),gf,it,RI,(.row false RI),(.row true qo),(.row true I64)]))],[⟨[],[],[(2,(uL [eW,RI,(.row false RW),RI,CW,eS,fq,fw,RW,RW,(.row false RW),(.row false dY),gf,it,RI,(.row false RI),(.row true qo),(.row true I64)]))]⟩],ap26 iv⟩
theorem vD:Lk 7 pV:=ls (C:=vT) rfl (aC oA (aC ui (aC BQ (aC zT aN)))) (by kernel_rfl) fun h=>by kernel_rfl
def oh:T28→Option (T28⊕(Int×Int×Int×Int×Nat×T1i)):=fun(v0,v1,v2,v3,v4,v5,v6,v7,v8,v9,v10,v11,_)=>
bif (decide (v6 < v5)) then (((dV v6).bind fun x0=>
(dF v10 v4).bind fun x1=>
(dF x1 x0).bind fun x2=>
(dF v10 v4).bind fun x3=>
(dF x3 x0).bind fun x4=>
bif (x4 != v0) then (bif (dU 8 (List.length v11) (List.length [x4])) then let x5:List (Int):=(List.append v11 [x4]);
some (v0,v1,v2,v3,v4,v5,v6,v7,v8,v9,v10,x5,()) else none) else
some (v0,v1,v2,v3,v4,v5,v6,v7,v8,v9,v10,v11,()):Option (T28)).bind fun(x0,x1,x2,x3,x4,x5,x6,x7,x8,x9,ac,ae,_)=>
let af:=(w64 (x6+1));
some (.inl (x0,x1,x2,x3,x4,x5,af,x7,x8,x9,ac,ae,()))) else
some (.inr (v0,v1,v2,v3,v4,v5,v6,false,v7,v8,v9,v10,v11,()))
def og:T1a→Option (T1a⊕(Int×T16)):=fun(v0,v1,v2,v3,v4,v5,v6,_)=>
bif (decide (v2 < v1)) then ((dV v2).bind fun x0=>
(dF v6 x0).bind fun x1=>
(dF v6 x0).bind fun x2=>
(dF v6 x0).bind fun x3=>
let x4:=(dJ (List.length x3));
(dQ oh NN (v0,v2,v1,v2,x0,x4,0,v3,v4,v5,v6,[],())).bind fun(x5,x6,x7,x8,x9,ac,ae,af,ag,ah,ai,aj,ak,_)=>
(dV x6).bind fun am=>
(dF aj am).bind fun an=>
(dF aj am).bind fun ap=>
let aq:=(List.modify aj am fun e=>ak);
let av:=(w64 (x8+1));
some (.inl (x5,x7,av,ag,ah,ai,aq,()))) else
some (.inr (v0,v1,v2,false,v3,v4,v5,v6,()))
def of:T1m→Option (T1m⊕(Int×T1i)):=fun(v0,v1,v2,v3,v4,v5,v6,v7,_)=>
bif (decide (v2 < v1)) then ((iT v5 v6 v2 v0).bind fun(x0,x1,x2,x3,_)=>
(bif x3 then (bif (decide (x2≥0)) then (bif (dU 8 (List.length v7) (List.length [x2])) then let x4:List (Int):=(List.append v7 [x2]);
some (v0,v1,v2,v3,v4,v5,v6,x4,x0,x1,()) else none) else
some (v0,v1,v2,v3,v4,v5,v6,v7,x0,x1,())) else
some (v0,v1,v2,v3,v4,v5,v6,v7,x0,x1,()):Option (Int×Int×Int×Unit×Unit×LI×LLI×LI×T07)).bind fun(x4,x5,x6,x7,x8,x9,ac,ae,af,ag,_)=>
let ah:=(w64 (x6+1));
some (.inl (x4,x5,ah,x7,x8,af,ag,ae,()))) else
some (.inr (v0,v1,v2,false,v3,v4,v5,v6,v7,()))
def mh(a0:List (Int)) (a1:List LI) (a2:Int):Option (T0k):=
(iU a0 a1).bind fun(x0,x1,_)=>
let x2:=(dJ (List.length x1));
(dQ og NN (a2,x2,0,(),(),x0,x1,())).bind fun(x3,x4,x5,x6,x7,x8,x9,ac,_)=>
let ae:=(dJ (List.length x9));
(dQ of NN (x3,ae,0,x7,x8,x9,ac,[],())).bind fun(af,ag,ah,ai,aj,ak,am,an,ap,_)=>
some (am,an,ap,())
noncomputable def AB:X.Cfg:=⟨E0,[mA,mz],[],[⟨15,0,qE,[(.normal,(qS [(sP 1 I64),(pP 4 10),(pP 6 14),(sP 7 I64),(9,.pk ⟨21,0,[]⟩ [0,0]),(20,.pk ⟨14,1,[]⟩ [0,0]),(sP 21 I64),(sP 22 I64),(27,.pk ⟨14,1,[((),(1,0))]⟩ [0,0,0]),(sP 28 I64),(sP 29 I64)] [(10,(uL [N1,N1])),(14,(uL [(.row true I64),(.row true (.row true I64))])),(21,(uL [(.row true I64)]))]))]⟩,⟨12,1,(qS [(sP 1 I64),(pP 4 10),(pP 6 14),(sP 7 I64),(9,.pk ⟨21,0,[]⟩ [0,0]),(20,.pk ⟨14,1,[]⟩ [0,0]),(sP 21 I64),(sP 22 I64),(27,.pk ⟨14,1,[((),(1,0))]⟩ [0,0,0]),(sP 28 I64),(sP 29 I64)] [(10,(uL [N1,N1])),(14,(uL [(.row true I64),(.row true (.row true I64))])),(21,(uL [(.row true I64)]))]),[(.exit 2,(qS [(sP 1 I64),(pP 4 10),(pP 6 14),(sP 7 I64),(9,.pk ⟨21,0,[]⟩ [0,0]),(20,.pk ⟨14,1,[]⟩ [0,0]),(sP 21 I64),(sP 22 I64),(27,.pk ⟨14,1,[((),(1,0))]⟩ [0,0,0]),(sP 28 I64),(sP 29 I64),(sP 30 .bool)] [(10,(uL [N1,N1])),(14,(uL [(.row true I64),(.row true (.row true I64))])),(21,(uL [(.row true I64)]))]))]⟩,(lx 4 2 [(sP 1 I64),(pP 4 10),(pP 6 14),(20,.pk ⟨14,1,[]⟩ [0,0]),(sP 21 I64),(sP 22 I64)] [(10,(uL [N1,N1])),(14,(uL [(.row true I64),(.row true (.row true I64))]))] 23),⟨27,3,qE,[(.normal,(qS [(sP 1 I64),(pP 4 10),(pP 6 14),(12,.pk ⟨27,0,[]⟩ [0,0]),(pP 14 30),(sP 49 I64),(sP 50 I64)] [(10,(uL [N1,N1])),(14,(uL [RI,(.row false RI)])),(27,(uL [(.row true I64)])),(30,(uL [RI,(.row false RI)]))]))]⟩,⟨21,4,(qS [(sP 1 I64),(pP 4 10),(pP 6 14),(12,.pk ⟨27,0,[]⟩ [0,0]),(sP 49 I64),(sP 50 I64)] [(10,(uL [N1,N1])),(14,(uL [RI,(.row false RI)])),(27,(uL [(.row true I64)]))]),[(.exit 4,(qS [(sP 1 I64),(pP 4 10),(pP 6 14),(12,.pk ⟨27,0,[]⟩ [0,0]),(sP 49 I64),(sP 50 I64),(sP 51 .bool)] [(10,(uL [N1,N1])),(14,(uL [RI,(.row false RI)])),(27,(uL [(.row true I64)]))]))]⟩]⟩
def sT:Ctr:=⟨110,103,[.agg (uL [RI,(.row false RI)]),shU I64],[],[⟨(uL [RI,(.row false RI),(.row true I64)]),[.agg 2,.one],[]⟩],ap3 mh⟩
theorem Aa:Lk 3 sT:=ls (C:=AB) rfl (aC oB (aC oA aN)) (by kernel_rfl) fun h=>by kernel_rfl
def iu(a0:Int) (a1:Int) (a2:LDIn) (a3:List (Int)) (a4:List LI) (a5:List (Int)) (a6:Int) (a7:LDCe) (a8:LDLn) (a9:LDTh) (a10:List (Int)) (a11:List (Int)) (a12:List LI) (a13:List LDCn) (a14:LDOp) (a15:LDOu) (a16:List (Int)) (a17:List LI) (a18:LDEn):Option (LDIn×LI×LLI×LI×Int×LDCe×LDLn×LDTh×LI×LI×LLI×LLCn×LDOp×LDOu×LI×LLI×LDEn×Unit):=
let x0:=(wk .i64 a1);
(dT x0 true).bind fun(x1,x2,x3,x4,x5,x6,x7,_)=>
(kq a2 a3 a4 a5 a6 a7 a8 a9 a0 x1 x2 x3 x4 [] x6 x7).bind fun(x8,x9,ac,ae,af,ag,_)=>
let ah:LDEn:=[(4,(a0,(0,(0,(0,(0,(0,(0,(0,([],([],(x1,(x2,(x3,(x4,([],(x6,x7)))))))))))))))))];
bif (dU 184 (List.length a18) (List.length ah)) then let ai:LDEn:=(List.append a18 ah);
some (a2,a3,a4,x8,x9,ac,ae,af,a10,a11,a12,a13,a14,a15,a16,a17,ai,()) else none
noncomputable def vP:X.Cfg:=⟨E0,[jD,oN],[(35,Hj),(36,Hj)],[]⟩
def pS:Ctr:=⟨109,104,[.ptr ⟨2,0,[]⟩ [0],shU I64,shU CW],[(2,(uL [eW,RI,(.row false RW),RI,CW,eS,fq,fw,RW,RW,(.row false RW),(.row false dY),gf,it,RI,(.row false RI),(.row true qo)]))],[⟨[],[],[(2,(uL [eW,RI,(.row false RW),RI,CW,eS,fq,fw,RW,RW,(.row false RW),(.row false dY),gf,it,RI,(.row false RI),(.row true qo)]))]⟩],ap19 iu⟩
theorem vA:Lk 6 pS:=ls (C:=vP) rfl (aC li (aC sq aN)) (by kernel_rfl) fun h=>by kernel_rfl
def nT:T2F→Option (T2F⊕(Int×Int×Int×Bool×T2x)):=fun(v0,v1,v2,v3,v4,v5,v6,v7,v8,v9,v10,v11,v12,v13,v14,v15,v16,v17,v18,v19,v20,v21,_)=>
bif (decide (v2 < v1)) then ((dV v2).bind fun x0=>
(dF v21 x0).bind fun x1=>
(dF v21 x0).bind fun x2=>
(iu x2 0 v3 v4 v5 v6 v7 v8 v9 v10 v11 v12 v13 v14 v15 v16 v17 v18 v19).bind fun(x3,x4,x5,x6,x7,x8,x9,ac,ae,af,ag,ah,ai,aj,ak,am,an,_)=>
let ap:=(w64 (v2+1));
some (.inl (v0,v1,ap,x3,x4,x5,x6,x7,x8,x9,ac,ae,af,ag,ah,ai,aj,ak,am,an,v20,v21,()))) else
some (.inr (v0,v1,v2,false,v3,v4,v5,v6,v7,v8,v9,v10,v11,v12,v13,v14,v15,v16,v17,v18,v19,v20,v21,()))
def nS:T2E→Option (T2E⊕(Int×Int×T2z)):=fun(v0,v1,v2,v3,v4,v5,v6,v7,v8,v9,v10,v11,v12,v13,v14,v15,v16,v17,v18,v19,v20,_)=>
bif (decide (v2 < v1)) then (((dV v2).bind fun x0=>
(dF v20 x0).bind fun x1=>
(dF v20 x0).bind fun x2=>
bif (x2==v0) then ((dV v0).bind fun x3=>
(dF v10 x3).bind fun x4=>
(iu v2 x4.2.2.2.2.2.2.2 v3 v4 v5 v6 v7 v8 v9 v10 v11 v12 v13 v14 v15 v16 v17 v18 v19).bind fun(x5,x6,x7,x8,x9,ac,ae,af,ag,ah,ai,aj,ak,am,an,ap,aq,_)=>
(dV v2).bind fun av=>
(dF v20 av).bind fun ax=>
(dF v20 av).bind fun ay=>
let az:=(List.modify v20 av fun e=>(-1));
some (v0,v1,v2,x5,x6,x7,x8,x9,ac,ae,af,ag,ah,ai,aj,ak,am,an,ap,aq,az,())) else
some (v0,v1,v2,v3,v4,v5,v6,v7,v8,v9,v10,v11,v12,v13,v14,v15,v16,v17,v18,v19,v20,()):Option (T2E)).bind fun(x0,x1,x2,x3,x4,x5,x6,x7,x8,x9,ac,ae,af,ag,ah,ai,aj,ak,am,an,ap,_)=>
let aq:=(w64 (x2+1));
some (.inl (x0,x1,aq,x3,x4,x5,x6,x7,x8,x9,ac,ae,af,ag,ah,ai,aj,ak,am,an,ap,()))) else
some (.inr (v0,v1,v2,false,v3,v4,v5,v6,v7,v8,v9,v10,v11,v12,v13,v14,v15,v16,v17,v18,v19,v20,()))
def jb(a0:Int) (a1:LDIn) (a2:List (Int)) (a3:List LI) (a4:List (Int)) (a5:Int) (a6:LDCe) (a7:LDLn) (a8:LDTh) (a9:List (Int)) (a10:List (Int)) (a11:List LI) (a12:List LDCn) (a13:LDOp) (a14:LDOu) (a15:List (Int)) (a16:List LI) (a17:LDEn) (a18:List (Int)):Option (T2t):=
(mh a15 a16 a0).bind fun(x0,x1,x2,_)=>
let x3:=(dJ (List.length x2));
(dQ nT NN (a0,x3,0,a1,a2,a3,a4,a5,a6,a7,a8,a9,a10,a11,a12,a13,a14,x0,x1,a17,a18,x2,())).bind fun(x4,x5,x6,x7,x8,x9,ac,ae,af,ag,ah,ai,aj,ak,am,an,ap,aq,av,ax,ay,az,aA,_)=>
let aB:=(dJ (List.length az));
(dQ nS NN (x4,aB,0,x8,x9,ac,ae,af,ag,ah,ai,aj,ak,am,an,ap,aq,av,ax,ay,az,())).bind fun(aD,aE,aF,aG,aH,aI,aJ,aK,aL,aM,aO,aP,aQ,aR,aS,aT,aU,aV,aW,aY,aZ,ba,_)=>
some (aH,aI,aJ,aK,aL,aM,aO,aP,aQ,aR,aS,aT,aU,aV,aW,aY,aZ,ba,())
noncomputable def yf:X.Cfg:=⟨E0,[sT,pS],[],[(lx 4 0 [(pP 0 2),(sP 1 I64),(23,.pk ⟨13,0,[]⟩ [0,0]),(sP 24 I64),(sP 25 I64)] [(2,(uL [eW,RI,(.row false RW),RI,CW,eS,fq,fw,RW,RW,(.row false RW),(.row false dY),gf,it,RI,(.row false RI),(.row true qo),(.row true I64)])),(13,(uL [(.row true I64)]))] 26),⟨13,1,qE,[(.normal,(qS [(pP 0 2),(sP 1 I64),(36,.pk ⟨2,17,[]⟩ [0,0]),(sP 37 I64),(sP 38 I64)] [(2,(uL [eW,RI,(.row false RW),RI,CW,eS,fq,fw,RW,RW,(.row false RW),(.row false dY),gf,it,RI,(.row false RI),(.row true qo),(.row true I64)]))]))]⟩,⟨10,2,(qS [(pP 0 2),(sP 1 I64),(36,.pk ⟨2,17,[]⟩ [0,0]),(sP 37 I64),(sP 38 I64)] [(2,(uL [eW,RI,(.row false RW),RI,CW,eS,fq,fw,RW,RW,(.row false RW),(.row false dY),gf,it,RI,(.row false RI),(.row true qo),(.row true I64)]))]),[(.exit 2,(qS [(pP 0 2),(sP 1 I64),(36,.pk ⟨2,17,[]⟩ [0,0]),(sP 37 I64),(sP 38 I64),(sP 39 .bool)] [(2,(uL [eW,RI,(.row false RW),RI,CW,eS,fq,fw,RW,RW,(.row false RW),(.row false dY),gf,it,RI,(.row false RI),(.row true qo),(.row true I64)]))]))]⟩]⟩
def qW:Ctr:=⟨84,105,[.ptr ⟨2,0,[]⟩ [0],shU I64],[(2,(uL [eW,RI,(.row false RW),RI,CW,eS,fq,fw,RW,RW,(.row false RW),(.row false dY),gf,it,RI,(.row false RI),(.row true qo),(.row true I64)]))],[⟨[],[],[(2,(uL [eW,RI,(.row false RW),RI,CW,eS,fq,fw,RW,RW,(.row false RW),(.row false dY),gf,it,RI,(.row false RI),(.row true qo),(.row true I64)]))]⟩],ap19 jb⟩
theorem xH:Lk 7 qW:=ls (C:=yf) rfl (aC Aa (aC vA aN)) (by kernel_rfl) fun h=>by kernel_rfl
def mb(a0:LDIn) (a1:List (Int)) (a2:List LI) (a3:List (Int)) (a4:Int) (a5:LDCe) (a6:LDLn) (a7:LDTh) (a8:List (Int)) (a9:List (Int)) (a10:List LI) (a11:List LDCn) (a12:LDOp) (a13:LDOu) (a14:List (Int)) (a15:List LI) (a16:LDEn) (a17:List (Int)) (a18:Int) (a19:Int) (a20:Bool):Option (LDIn×LI×LLI×LI×Int×LDCe×LDLn×LDTh×LI×LI×LLI×LLCn×LDOp×LDOu×LI×LLI×LDEn×T06):=
(kX a7).bind fun(x0,_)=>
let x1:=(dJ (List.length x0));
bif (x1==0) then (some ([],[],[],[],0,[],[],[],[],[],[],[],[],[],[],[],[],[],15,())) else
let x2:=(dJ (List.length a16));
bif (decide (x2 > 192)) then (some ([],[],[],[],0,[],[],[],[],[],[],[],[],[],[],[],[],[],3,())) else
let x3:=(dJ (List.length x0));
(iO a18 x3).bind fun(x4,_)=>
(dV x4).bind fun x5=>
(dF x0 x5).bind fun x6=>
(dF x0 x5).bind fun x7=>
(iO a19 64).bind fun(x8,_)=>
let x9:=(w64 (1+x8));
(jX a0 a1 a2 a3 a4 a5 a6 a7 a8 a9 a10 a11 a12 a13 a14 a15 a16 a17).bind fun(ac,ae,af,ag,ah,ai,aj,ak,am,an,ap,aq,av,ax,ay,az,aA,aB,_)=>
(match (bif a20 then ((lC ag ah ai aj ak x7).bind fun(aD,_)=>
bif aD then ((jf ag ah ai aj ak x7).bind fun(aE,aF,aG,aH,aI,aJ,_)=>
let aK:LDEn:=[(3,(x7,(0,(0,(0,(0,(0,(0,(0,([],([],(0,(0,(0,(0,([],(0,false)))))))))))))))))];
bif (dU 184 (List.length aA) (List.length aK)) then let aL:LDEn:=(List.append aA aK);
some (.inl (x7,x9,(),(),(),(),0,(),(),(),(),(),(),(),(),(),(),(),(),(),ac,ae,af,aE,aF,aG,aH,aI,am,an,ap,aq,av,ax,ay,az,aL,aB,())) else none) else
some (.inr (x7,x9,(),(),(),(),0,(),(),(),(),(),(),(),(),(),(),(),(),(),ac,ae,af,ag,ah,ai,aj,ak,am,an,ap,aq,av,ax,ay,az,aA,aB,()))) else
some (.inr (x7,x9,(),(),(),(),0,(),(),(),(),(),(),(),(),(),(),(),(),(),ac,ae,af,ag,ah,ai,aj,ak,am,an,ap,aq,av,ax,ay,az,aA,aB,())):Option (T38⊕T38)) with
| none=>none
| some (.inl (aD,aE,aF,aG,aH,aI,aJ,aK,aL,aM,aO,aP,aQ,aR,aS,aT,aU,aV,aW,aY,aZ,ba,bc,bd,be,bf,bg,bh,bi,bj,bk,bl,bm,bn,bo,bp,bq,bt,_))=>
(kv aZ ba bc bd be bf bg bh aD aE).bind fun(bv,bx,bA,bB,bC,bD,bE,bF,bG,bH,bI,bJ,bK,bL,_)=>
let bM:LDEn:=[(1,(aD,(aE,(bD,(bE,(bF,(bG,(bH,(bI,(bJ,(bK,(0,(0,(0,(0,([],(0,false)))))))))))))))))];
bif (dU 184 (List.length bq) (List.length bM)) then let bN:LDEn:=(List.append bq bM);
(bif (bE==1) then ((iv bD bE bF bG bH bI bJ bK aZ ba bc bv bx bA bB bC bi bj bk bl bm bn bo bp bN bt).bind fun(bO,bP,bQ,bR,bS,bT,bU,bV,bW,bY,bZ,b8,b9,ca,cd,cf,cg,ch,_)=>
some (aD,aF,aG,aH,aI,aJ,aK,aL,aM,aO,aP,aQ,aR,aS,aT,aU,aV,aW,aY,bO,bP,bQ,bR,bS,bT,bU,bV,bW,bY,bZ,b8,b9,ca,cd,cf,cg,ch,())) else
some (aD,aF,aG,aH,aI,aJ,aK,aL,aM,aO,aP,aQ,aR,aS,aT,aU,aV,aW,aY,aZ,ba,bc,bv,bx,bA,bB,bC,bi,bj,bk,bl,bm,bn,bo,bp,bN,bt,()):Option (T31)).bind fun(bO,bP,bQ,bR,bS,bT,bU,bV,bW,bY,bZ,b8,b9,ca,cd,cf,cg,ch,ci,cj,cl,cn,cq,cr,cu,cw,cx,cy,cz,cD,cE,cF,cG,cH,cI,cJ,cK,_)=>
((dV bO).bind fun cL=>
(dF cx cL).bind fun cM=>
bif (cM.1==4) then ((jb bO cj cl cn cq cr cu cw cx cy cz cD cE cF cG cH cI cJ cK).bind fun(cN,cO,cP,cQ,cR,cS,cT,cU,cV,cW,cX,cY,cZ,c7,c8,c9,dc,de,_)=>
some (bP,bQ,bR,bS,bT,bU,bV,bW,bY,bZ,b8,b9,ca,cd,cf,cg,ch,ci,cN,cO,cP,cQ,cR,cS,cT,cU,cV,cW,cX,cY,cZ,c7,c8,c9,dc,de,())) else
some (bP,bQ,bR,bS,bT,bU,bV,bW,bY,bZ,b8,b9,ca,cd,cf,cg,ch,ci,cj,cl,cn,cq,cr,cu,cw,cx,cy,cz,cD,cE,cF,cG,cH,cI,cJ,cK,()):Option (T2Y)).bind fun(cL,cM,cN,cO,cP,cQ,cR,cS,cT,cU,cV,cW,cX,cY,cZ,c7,c8,c9,dc,de,df,dg,dh,dk,dl,dm,dn,dp,dq,dx,dy,dz,dA,dB,dC,dD,_)=>
some (dc,de,df,dg,dh,dk,dl,dm,dn,dp,dq,dx,dy,dz,dA,dB,dC,dD,0,()) else none
| some (.inr (aD,aE,aF,aG,aH,aI,aJ,aK,aL,aM,aO,aP,aQ,aR,aS,aT,aU,aV,aW,aY,aZ,ba,bc,bd,be,bf,bg,bh,bi,bj,bk,bl,bm,bn,bo,bp,bq,bt,_))=>
(kv aZ ba bc bd be bf bg bh aD aE).bind fun(bv,bx,bA,bB,bC,bD,bE,bF,bG,bH,bI,bJ,bK,bL,_)=>
let bM:LDEn:=[(1,(aD,(aE,(bD,(bE,(bF,(bG,(bH,(bI,(bJ,(bK,(0,(0,(0,(0,([],(0,false)))))))))))))))))];
bif (dU 184 (List.length bq) (List.length bM)) then let bN:LDEn:=(List.append bq bM);
(bif (bE==1) then ((iv bD bE bF bG bH bI bJ bK aZ ba bc bv bx bA bB bC bi bj bk bl bm bn bo bp bN bt).bind fun(bO,bP,bQ,bR,bS,bT,bU,bV,bW,bY,bZ,b8,b9,ca,cd,cf,cg,ch,_)=>
some (aD,aF,aG,aH,aI,aJ,aK,aL,aM,aO,aP,aQ,aR,aS,aT,aU,aV,aW,aY,bO,bP,bQ,bR,bS,bT,bU,bV,bW,bY,bZ,b8,b9,ca,cd,cf,cg,ch,())) else
some (aD,aF,aG,aH,aI,aJ,aK,aL,aM,aO,aP,aQ,aR,aS,aT,aU,aV,aW,aY,aZ,ba,bc,bv,bx,bA,bB,bC,bi,bj,bk,bl,bm,bn,bo,bp,bN,bt,()):Option (T31)).bind fun(bO,bP,bQ,bR,bS,bT,bU,bV,bW,bY,bZ,b8,b9,ca,cd,cf,cg,ch,ci,cj,cl,cn,cq,cr,cu,cw,cx,cy,cz,cD,cE,cF,cG,cH,cI,cJ,cK,_)=>
((dV bO).bind fun cL=>
(dF cx cL).bind fun cM=>
bif (cM.1==4) then ((jb bO cj cl cn cq cr cu cw cx cy cz cD cE cF cG cH cI cJ cK).bind fun(cN,cO,cP,cQ,cR,cS,cT,cU,cV,cW,cX,cY,cZ,c7,c8,c9,dc,de,_)=>
some (bP,bQ,bR,bS,bT,bU,bV,bW,bY,bZ,b8,b9,ca,cd,cf,cg,ch,ci,cN,cO,cP,cQ,cR,cS,cT,cU,cV,cW,cX,cY,cZ,c7,c8,c9,dc,de,())) else
some (bP,bQ,bR,bS,bT,bU,bV,bW,bY,bZ,b8,b9,ca,cd,cf,cg,ch,ci,cj,cl,cn,cq,cr,cu,cw,cx,cy,cz,cD,cE,cF,cG,cH,cI,cJ,cK,()):Option (T2Y)).bind fun(cL,cM,cN,cO,cP,cQ,cR,cS,cT,cU,cV,cW,cX,cY,cZ,c7,c8,c9,dc,de,df,dg,dh,dk,dl,dm,dn,dp,dq,dx,dy,dz,dA,dB,dC,dD,_)=>
some (dc,de,df,dg,dh,dk,dl,dm,dn,dp,dq,dx,dy,dz,dA,dB,dC,dD,0,()) else none)
noncomputable def Ap:X.Cfg:=⟨E0,[rh,qm,pU,qk,oM,sU,pV,qW],[(60,Hj),(61,Hj),(82,Hj),(83,Hj)],[⟨11,0,qE,[(.normal,(qS [(pP 4 10),(sP 7 I64),(sP 8 I64),(pP 9 20)] [(10,(uL [N1,N1,N1,N1,CW,N1,N1,N1,N1,N1,N1,N1,N1,N1,N1,N1,N1,N1])),(20,(uL [eW,RI,(.row false RW),RI,CW,(.row true KCe),i6,n6,RW,RW,(.row false RW),(.row false dY),gf,it,RI,(.row false RI),(.row true qo),(.row true I64)]))])),(.normal,(qS [(pP 4 10),(sP 7 I64),(sP 8 I64),(pP 9 20)] [(10,(uL [N1,N1,N1,N1,CW,N1,N1,N1,N1,N1,N1,N1,N1,N1,N1,N1,N1,N1])),(20,(uL [eW,RI,(.row false RW),RI,CW,eS,fq,fw,RW,RW,(.row false RW),(.row false dY),gf,it,RI,(.row false RI),(.row true qo),(.row true I64)]))]))]⟩,⟨17,1,qE,[(.normal,(qS [(pP 4 10),(sP 7 I64),(pP 9 20)] [(10,(uL [N1,N1,N1,N1,CW,N1,N1,N1,N1,N1,N1,N1,N1,N1,N1,N1,N1,N1])),(20,(uL [eW,RI,(.row false RW),RI,CW,eS,fq,fw,RW,RW,(.row false RW),(.row false dY),gf,it,RI,(.row false RI),(.row true qo),(.row true I64)]))]))]⟩,⟨19,2,qE,[(.normal,(qS [(pP 4 10),(pP 9 20)] [(10,(uL [N1,N1,N1,N1,CW,N1,N1,N1,N1,N1,N1,N1,N1,N1,N1,N1,N1,N1])),(20,(uL [eW,RI,(.row false RW),RI,CW,eS,fq,fw,RW,RW,(.row false RW),(.row false dY),gf,it,RI,(.row false RI),(.row true qo),(.row true I64)]))]))]⟩]⟩
def sL:Ctr:=⟨50,106,[.agg (uL [eW,RI,(.row false RW),RI,CW,eS,fq,fw,RW,RW,(.row false RW),(.row false dY),gf,it,RI,(.row false RI),DG,RI]),.agg (uL [I64,I64,.bool])],[],[⟨(uL [eW,RI,(.row false RW),RI,CW,eS,fq,fw,RW,RW,(.row false RW),(.row false dY),gf,it,RI,(.row false RI),(.row true qo),(.row true I64),I64]),[.agg 18,.one],[]⟩],ap21 mb⟩
theorem zU:Lk 8 sL:=ls (C:=Ap) rfl (aC xT (aC uu (aC vC (aC um (aC ul (aC Ab (aC vD (aC xH aN)))))))) (by kernel_rfl) fun h=>by kernel_rfl
def nn:T3c→Option (T3c⊕((Int×Bool×LI×Int×Unit×Unit×Unit×Unit×Int×Unit×Unit×Unit×Unit×Unit×Unit×Unit×Unit×Unit×Unit×Unit×Unit×Unit×LDIn×LI×LLI×LI×Int×LDCe×LDLn×LDTh×LI×LI×LLI×LLCn×LDOp×LDOu×LI×LLI×LDEn×LI×T2t)⊕(Int×Bool×T39))):=fun(v0,v1,v2,v3,v4,v5,v6,v7,v8,v9,v10,v11,v12,v13,v14,v15,v16,v17,v18,v19,v20,v21,v22,v23,v24,v25,v26,v27,v28,v29,v30,v31,v32,v33,v34,v35,v36,v37,v38,_)=>
bif (decide (v0 > 0)) then ((ld v1 v2).bind fun(x0,x1,x2,x3,x4,_)=>
(mb v21 v22 v23 v24 v25 v26 v27 v28 v29 v30 v31 v32 v33 v34 v35 v36 v37 v38 x0 x1 x2).bind fun(x5,x6,x7,x8,x9,ac,ae,af,ag,ah,ai,aj,ak,am,an,ap,aq,av,ax,_)=>
bif (ax != 0) then (some (.inr (.inl (v0,true,x3,x4,v3,v4,v5,v6,v7,v8,v9,v10,v11,v12,v13,v14,v15,v16,v17,v18,v19,v20,v21,v22,v23,v24,v25,v26,v27,v28,v29,v30,v31,v32,v33,v34,v35,v36,v37,v38,x5,x6,x7,x8,x9,ac,ae,af,ag,ah,ai,aj,ak,am,an,ap,aq,av,())))) else
let ay:=(w64 (v0 - 1));
some (.inl (ay,x3,x4,v3,v4,v5,v6,v7,v8,v9,v10,v11,v12,v13,v14,v15,v16,v17,v18,v19,v20,x5,x6,x7,x8,x9,ac,ae,af,ag,ah,ai,aj,ak,am,an,ap,aq,av,()))) else
some (.inr (.inr (v0,false,v1,v2,v3,v4,v5,v6,v7,v8,v9,v10,v11,v12,v13,v14,v15,v16,v17,v18,v19,v20,v21,v22,v23,v24,v25,v26,v27,v28,v29,v30,v31,v32,v33,v34,v35,v36,v37,v38,())))
def pe(a0:List (Int)) (a1:Int):Option (LDIn×LI×LLI×LI×Int×LDCe×LDLn×LDTh×LI×LI×LLI×LLCn×LDOp×LDOu×LI×LLI×LDEn×LI×T06):=
(j6 a0 a1).bind fun(x0,x1,x2,x3,x4,_)=>
(lc x1 x3 x4).bind fun(x5,x6,x7,x8,_)=>
(j7 x7 x8).bind fun(x9,ac,ae,af,ag,ah,ai,aj,_)=>
(kN x0 x1 x2 x5 x6 x9 ac ae af ag []).bind fun(ak,am,an,ap,aq,av,ax,ay,az,aA,aB,aD,aE,aF,aG,aH,aI,aJ,aK,_)=>
(dG 16 ai aj).bind fun(aL,aM,aO,_)=>
let aP:=(w64 (3+aL));
(match dQ nn NN (aP,aM,aO,(),(),(),(),0,(),(),(),(),(),(),(),(),(),(),(),(),(),ak,am,an,ap,aq,av,ax,ay,az,aA,aB,aD,aE,aF,aG,aH,[],aJ,()) with
| none=>none
| some (.inl (aQ,aR,aS,aT,aU,aV,aW,aY,aZ,ba,bc,bd,be,bf,bg,bh,bi,bj,bk,bl,bm,bn,bo,bp,bq,bt,bv,bx,bA,bB,bC,bD,bE,bF,bG,bH,bI,bJ,bK,bL,bM,bN,bO,bP,bQ,bR,bS,bT,bU,bV,bW,bY,bZ,b8,b9,ca,cd,cf,_))=>
some (bo,bp,bq,bt,bv,bx,bA,bB,bC,bD,bE,bF,bG,bH,bI,bJ,bK,bL,aS,aT,())
| some (.inr (aQ,aR,aS,aT,aU,aV,aW,aY,aZ,ba,bc,bd,be,bf,bg,bh,bi,bj,bk,bl,bm,bn,bo,bp,bq,bt,bv,bx,bA,bB,bC,bD,bE,bF,bG,bH,bI,bJ,bK,bL,_))=>
some (bo,bp,bq,bt,bv,bx,bA,bB,bC,bD,bE,bF,bG,bH,bI,bJ,bK,bL,aS,aT,()))
noncomputable def EB:X.Cfg:=⟨E0,[p6,rq,p7,qX,fi,ru,sL],[],[⟨5,0,(qS [(pP 0 2),(pP 2 6),(pP 4 10),(sP 6 I64)] [(2,(uL [RI,I64])),(6,(uL [N1,N1,N1,N1,CW,N1,N1,N1,N1,N1,N1,N1,N1,N1,N1,N1,N1,N1])),(10,(uL [eW,RI,(.row false RW),RI,CW,eS,fq,fw,RW,RW,(.row false RW),(.row false dY),gf,it,RI,(.row false RI),(.row true qo),(.row true I64)]))]),[(.exit 0,(qS [(pP 0 2),(pP 2 6),(pP 4 10),(sP 6 I64),(pP 7 16),(sP 37 .bool)] [(2,(uL [RI,I64])),(6,(uL [N1,N1,N1,N1,CW,N1,N1,N1,N1,N1,N1,N1,N1,N1,N1,N1,N1,N1])),(10,(uL [eW,RI,(.row false RW),RI,CW,eS,fq,fw,RW,RW,(.row false RW),(.row false dY),gf,it,RI,(.row false RI),DG,RI])),(16,(uL [eW,RI,(.row false RW),RI,CW,eS,fq,fw,RW,RW,(.row false RW),(.row false dY),gf,it,RI,(.row false RI),(.row true qo),(.row true I64)]))])),(.exit 0,(qS [(pP 0 2),(pP 2 6),(pP 4 10),(sP 6 I64),(sP 26 .bool)] [(2,(uL [RI,I64])),(6,(uL [N1,N1,N1,N1,CW,N1,N1,N1,N1,N1,N1,N1,N1,N1,N1,N1,N1,N1])),(10,(uL [eW,RI,(.row false RW),RI,CW,eS,fq,fw,RW,RW,(.row false RW),(.row false dY),gf,it,RI,(.row false RI),(.row true qo),(.row true I64)]))]))]⟩]⟩
def xe:Ctr:=⟨29,107,[.ptr ⟨2,0,[]⟩ [0]],[(2,(uL [RI,I64]))],[⟨(uL [eW,RI,(.row false RW),RI,CW,eS,fq,fw,RW,RW,(.row false RW),(.row false dY),gf,it,RI,(.row false RI),DG,RI]),[.agg 18],[(2,(uL [RI,I64]))]⟩],ap2 pe⟩
theorem Eu:Lk 9 xe:=ls (C:=EB) rfl (aC vJ (aC yb (aC vK (aC xI (aC fC (aC yc (aC zU aN))))))) (by kernel_rfl) fun h=>by kernel_rfl
def fN:T2f→Option (T2f⊕(LI×Int×LI×Int×Int×Int×Int×Bool×T0W)):=fun(v0,v1,v2,v3,v4,v5,v6,v7,v8,v9,v10,v11,v12,_)=>
bif (decide (v6 < v5)) then ((dV v1).bind fun x0=>
(dF v9 x0).bind fun x1=>
let x2:=(w64 (x1+v6));
(kx v7 v8 x2).bind fun(x3,x4,_)=>
(gk v9 v10 v0 x3 x4).bind fun(x5,x6,x7,x8,_)=>
let x9:LDCn:=[(x5,(x6,(x7,x8)))];
bif (dU 24 (List.length v12) (List.length x9)) then let ac:LDCn:=(List.append v12 x9);
let ae:=(w64 (v6+1));
some (.inl (v0,v1,v2,v3,v4,v5,ae,v7,v8,v9,v10,v11,ac,())) else none) else
some (.inr (v0,v1,v2,v3,v4,v5,v6,false,v7,v8,v9,v10,v11,v12,()))
def fM:T1H→Option (T1H⊕(LI×LI×Int×Int×Bool×T0G)):=fun(v0,v1,v2,v3,v4,v5,v6,v7,v8,_)=>
bif (decide (v3 < v2)) then ((dV v3).bind fun x0=>
(dF v1 x0).bind fun x1=>
(dQ fN NN (v0,v3,v1,v2,v3,x1,0,v4,v5,v6,v7,v8,[],())).bind fun(x2,x3,x4,x5,x6,x7,x8,x9,ac,ae,af,ag,ah,ai,_)=>
bif (dU 24 (List.length ah) (List.length [ai])) then let aj:List LDCn:=(List.append ah [ai]);
let ak:=(w64 (x6+1));
some (.inl (x2,x4,x5,ak,ac,ae,af,ag,aj,())) else none) else
some (.inr (v0,v1,v2,v3,false,v4,v5,v6,v7,v8,()))
def jm(a0:LDCe) (a1:LDLn) (a2:List (Int)) (a3:Int) (a4:List (Int)):Option (LLCn×Unit):=
let x0:=(dJ (List.length a4));
(dQ fM NN (a4,a4,x0,0,a0,a1,a2,a3,[],())).bind fun(x1,x2,x3,x4,x5,x6,x7,x8,x9,ac,_)=>
some (ac,())
noncomputable def uE:X.Cfg:=⟨E0,[oW,lr],[(41,(.row true KCn)),(42,(.row true KCn))],[⟨12,0,(qS [(sP 2 RI),(pP 3 8),(pP 4 10),(7,.pk ⟨17,0,[]⟩ [0,0]),(sP 8 I64),(10,.pk ⟨23,0,[]⟩ [0,0]),(sP 12 RI),(sP 13 I64),(sP 14 I64),(sP 19 I64),(sP 20 I64)] [(8,(uL [eS,fq])),(10,(uL [RI,CW])),(17,(uL [(.row true (.row true KCn))])),(23,(uL [(.row true KCn)]))]),[(.exit 2,(qS [(sP 2 RI),(pP 3 8),(pP 4 10),(7,.pk ⟨17,0,[]⟩ [0,0]),(sP 8 I64),(10,.pk ⟨23,0,[]⟩ [0,0]),(sP 12 RI),(sP 13 I64),(sP 14 I64),(sP 19 I64),(sP 20 I64),(sP 21 .bool)] [(8,(uL [eS,fq])),(10,(uL [RI,CW])),(17,(uL [(.row true (.row true KCn))])),(23,(uL [(.row true KCn)]))]))]⟩,(lx 4 1 [(sP 2 RI),(pP 3 8),(pP 4 10),(7,.pk ⟨17,0,[]⟩ [0,0]),(sP 12 RI),(sP 13 I64),(sP 14 I64)] [(8,(uL [eS,fq])),(10,(uL [RI,CW])),(17,(uL [(.row true (.row true KCn))]))] 15)]⟩
def oV:Ctr:=⟨52,108,[.agg (uL [eS,fq]),.agg (uL [RI,CW]),shU RI],[],[⟨(uL [(.row true (.row true KCn))]),[.one],[]⟩],ap5 jm⟩
theorem ur:Lk 3 oV:=ls (C:=uE) rfl (aC sA (aC nA aN)) (by kernel_rfl) fun h=>by kernel_rfl
def gy:T2U→Option (T2U⊕(LDTh×Int×Int×LDCe×Int×Int×Bool×T2O)):=fun(v0,v1,v2,v3,v4,v5,v6,v7,v8,v9,v10,v11,v12,v13,v14,v15,v16,v17,v18,v19,v20,v21,v22,v23,v24,v25,v26,v27,v28,v29,v30,v31,v32,v33,_)=>
bif (decide (v5 < v4)) then ((dV v5).bind fun x0=>
(dF v3 x0).bind fun x1=>
(gk v9 v10 v7 x1.1 x1.2).bind fun(x2,x3,x4,x5,_)=>
let x6:LDCn:=[(x2,(x3,(x4,x5)))];
bif (dU 24 (List.length v33) (List.length x6)) then let x7:LDCn:=(List.append v33 x6);
let x8:=(w64 (v5+1));
some (.inl (v0,v1,v2,v3,v4,x8,v6,v7,v8,v9,v10,v11,v12,v13,v14,v15,v16,v17,v18,v19,v20,v21,v22,v23,v24,v25,v26,v27,v28,v29,v30,v31,v32,x7,())) else none) else
some (.inr (v0,v1,v2,v3,v4,v5,false,v6,v7,v8,v9,v10,v11,v12,v13,v14,v15,v16,v17,v18,v19,v20,v21,v22,v23,v24,v25,v26,v27,v28,v29,v30,v31,v32,v33,()))
def gw:T2j→Option (T2j⊕(LDTh×Int×Int×Bool×T29)):=fun(v0,v1,v2,v3,v4,v5,v6,v7,v8,v9,v10,v11,v12,v13,v14,_)=>
bif (decide (v2 < v1)) then ((dV v2).bind fun x0=>
(dF v0 x0).bind fun x1=>
let x2:=(dJ (List.length x1.2.1));
(dQ gy NN (v0,v1,v2,x1.2.1,x2,0,v3,v4,v5,v6,v7,v8,v9,v10,v11,v12,v13,v14,x1.1,x1.2.1,x1.2.2.1,x1.2.2.2.1,x1.2.2.2.2.1,x1.2.2.2.2.2.1,x1.2.2.2.2.2.2.1,x1.2.2.2.2.2.2.2,x1.1,x1.2.2.1,x1.2.2.2.1,x1.2.2.2.2.1,x1.2.2.2.2.2.1,x1.2.2.2.2.2.2.1,x1.2.2.2.2.2.2.2,[],())).bind fun(x3,x4,x5,x6,x7,x8,x9,ac,ae,af,ag,ah,ai,aj,ak,am,an,ap,aq,av,ax,ay,az,aA,aB,aD,aE,aF,aG,aH,aI,aJ,aK,aL,aM,_)=>
let aO:LDTs:=[(aF,(aG,(aH,(aI,(aJ,(aK,(aL,aM)))))))];
bif (dU 80 (List.length aq) (List.length aO)) then let aP:LDTs:=(List.append aq aO);
let aQ:=(w64 (x5+1));
some (.inl (x3,x4,aQ,ac,ae,af,ag,ah,ai,aj,ak,am,an,ap,aP,())) else none) else
some (.inr (v0,v1,v2,false,v3,v4,v5,v6,v7,v8,v9,v10,v11,v12,v13,v14,()))
def kS(a0:LDIn) (a1:List (Int)) (a2:List LI) (a3:List (Int)) (a4:Int) (a5:LDCe) (a6:LDLn) (a7:LDTh):Option (T09):=
(jm a5 a6 a3 a4 a1).bind fun(x0,_)=>
let x1:=(dJ (List.length a7));
(dQ gw NN (a7,x1,0,a0,a1,a2,a3,a4,a5,a6,a7,(),(),x0,[],())).bind fun(x2,x3,x4,x5,x6,x7,x8,x9,ac,ae,af,ag,ah,ai,aj,ak,_)=>
some (aj,ak,())
noncomputable def yq:X.Cfg:=⟨E0,[oV,lr],[(63,DJ),(64,DJ)],[⟨12,0,(qS [(pP 2 6),(pP 3 8),(pP 4 10),(pP 5 12),(pP 8 18),(sP 20 fw),(sP 21 I64),(sP 22 I64),(sP 42 eS),(sP 43 I64),(sP 44 I64)] [(6,(uL [eW,RI,(.row false RW)])),(8,(uL [RI,CW,eS,fq,fw])),(10,(uL [N1,N1])),(12,(uL [(.row true (.row true KCn)),(.row true DJ)])),(16,(uL [I64,eS,I64,I64,I64,I64,I64,CW])),(18,(uL [I64,I64,I64,I64,I64,I64,CW,(.row true KCn)]))]),[(.exit 2,(qS [(pP 2 6),(pP 3 8),(pP 4 10),(pP 5 12),(pP 8 18),(sP 20 fw),(sP 21 I64),(sP 22 I64),(sP 42 eS),(sP 43 I64),(sP 44 I64),(sP 45 .bool)] [(6,(uL [eW,RI,(.row false RW)])),(8,(uL [RI,CW,eS,fq,fw])),(10,(uL [N1,N1])),(12,(uL [(.row true (.row true KCn)),(.row true DJ)])),(16,(uL [I64,eS,I64,I64,I64,I64,I64,CW])),(18,(uL [I64,I64,I64,I64,I64,I64,CW,(.row true KCn)]))]))]⟩,(lx 4 1 [(pP 2 6),(pP 3 8),(pP 4 10),(pP 5 12),(sP 20 fw),(sP 21 I64),(sP 22 I64)] [(6,(uL [eW,RI,(.row false RW)])),(8,(uL [RI,CW,eS,fq,fw])),(10,(uL [N1,N1])),(12,(uL [(.row true (.row true KCn)),(.row true DJ)]))] 23)]⟩
def ra:Ctr:=⟨31,109,[.agg (uL [eW,RI,(.row false RW)]),.agg (uL [RI,CW,eS,fq,fw])],[],[⟨(uL [(.row true (.row true KCn)),(.row true DJ)]),[.agg 2],[]⟩],ap8 kS⟩
theorem xO:Lk 4 ra:=ls (C:=yq) rfl (aC ur (aC nA aN)) (by kernel_rfl) fun h=>by kernel_rfl
def gE:Int×T0i→Option ((Int×T0i)⊕(Int×LI×T0c)):=fun(v0,v1,v2,v3,_)=>
bif (decide (v3 < v2)) then ((dV v3).bind fun x0=>
(dF v1 x0).bind fun x1=>
let x2:=(w64 (v0+x1));
let x3:=(w64 (v3+1));
some (.inl (x2,v1,v2,x3,()))) else
some (.inr (v0,v1,v2,v3,false,()))
def la(a0:List (Int)):Option (Int×Unit):=
let x0:=(dJ (List.length a0));
(dQ gE NN (0,a0,x0,0,())).bind fun(x1,x2,x3,x4,x5,_)=>
some (x1,())
noncomputable def yO:X.Cfg:=⟨E0,[],[],[(lx 4 0 [(sP 3 I64),(sP 6 RI),(sP 7 I64),(sP 8 I64)] [] 9)]⟩
def ro:Ctr:=⟨55,110,(uL [RI]),[],[⟨(uL [I64]),[.one],[]⟩],ap1 la⟩
theorem xZ:Lk 1 ro:=ls (C:=yO) rfl aN (by kernel_rfl) fun h=>by kernel_rfl
def ni:Int×LI×T0o→Option ((Int×LI×T0o)⊕(T0d⊕T1e)):=fun(v0,v1,v2,v3,v4,v5,_)=>
bif (decide (v3 < v2)) then ((dV v3).bind fun x0=>
(dF v1 x0).bind fun x1=>
(match (bif (decide (v0≥0)) then (bif (decide (v0 < x1)) then (some (.inl (0,v3,v0,()))) else
some (.inr (v0,v3,x1,v1,v2,v3,false,v4,v5,()))) else
some (.inr (v0,v3,x1,v1,v2,v3,false,v4,v5,())):Option (T0d⊕(Int×Int×T1e))) with
| none=>none
| some (.inl (x2,x3,x4,_))=>
some (.inr (.inl (x2,x3,x4,())))
| some (.inr (x2,x3,x4,x5,x6,x7,x8,x9,ac,_))=>
let ae:=(w64 (x2 - x4));
let af:=(w64 (x7+1));
some (.inl (ae,x5,x6,af,x9,ac,())))) else
some (.inr (.inr (v0,v1,v2,v3,false,v4,v5,())))
def pd(a0:List (Int)) (a1:Int):Option (T0d):=
let x0:=(dJ (List.length a0));
(match dQ ni NN (a1,a0,x0,0,0,0,()) with
| none=>none
| some (.inl (x1,x2,x3,_))=>
some (x2,x3,x1,())
| some (.inr (x1,x2,x3,x4,x5,x6,x7,_))=>
some (0,0,6,()))
noncomputable def EA:X.Cfg:=⟨E0,[],[],[⟨8,0,qE,[(.ret,(qS [(pP 4 10),(sP 5 I64)] [(10,(uL [I64,I64]))])),(.normal,(qS [(sP 1 I64),(pP 4 10),(sP 6 I64),(sP 7 I64),(sP 8 RI),(sP 9 I64),(sP 10 I64),(sP 21 .bool)] [(10,(uL [I64,I64]))]))]⟩,⟨3,1,(qS [(sP 1 I64),(pP 4 10),(sP 8 RI),(sP 9 I64),(sP 10 I64)] [(10,(uL [I64,I64]))]),[(.ret,(qS [(pP 4 10),(sP 5 I64)] [(10,(uL [I64,I64]))])),(.exit 0,(qS [(sP 1 I64),(pP 4 10),(sP 8 RI),(sP 9 I64),(sP 10 I64),(sP 11 .bool)] [(10,(uL [I64,I64]))]))]⟩]⟩
def xd:Ctr:=⟨54,111,(uL [RI,I64]),[],[⟨(uL [I64,I64,I64]),[.agg 2,.one],[]⟩],ap2 pd⟩
theorem Et:Lk 1 xd:=ls (C:=EA) rfl aN (by kernel_rfl) fun h=>by kernel_rfl
def kz(a0:List (Int)) (a1:List (Int)) (a2:Int):Option (Int×Int×T0q):=
(dG 6 a1 a2).bind fun(x0,x1,x2,_)=>
bif (x0==4) then ((la a0).bind fun(x3,_)=>
(dG x3 x1 x2).bind fun(x4,x5,x6,_)=>
(pd a0 x4).bind fun(x7,x8,x9,_)=>
some (1,0,x7,x8,x5,x6,())) else
bif (x0==5) then ((dG 10 x1 x2).bind fun(x3,x4,x5,_)=>
let x6:=(wk .u16 x3);
some (2,x6,0,0,x4,x5,())) else
(gY x1 x2).bind fun(x3,x4,x5,_)=>
some (0,x3,0,0,x4,x5,())
noncomputable def AV:X.Cfg:=⟨E0,[fi,ro,xd,lV],[],[]⟩
def s8:Ctr:=⟨32,112,[.ptr ⟨2,0,[]⟩ [0],shU RI],[(2,(uL [RI,I64]))],[⟨(uL [CB,CW,I64,I64]),[.agg 4],[(2,(uL [RI,I64]))]⟩],ap3 kz⟩
theorem Aj:Lk 5 s8:=ls (C:=AV) rfl (aC fC (aC xZ (aC Et (aC nC aN)))) (by kernel_rfl) fun h=>by kernel_rfl
def fL:LDTs×LDTs×T02→Option ((LDTs×LDTs×T02)⊕((Bool×Unit)⊕(LDTs×LDTs×T0c))):=fun(v0,v1,v2,v3,_)=>
bif (decide (v3 < v2)) then ((dV v3).bind fun x0=>
(dF v1 x0).bind fun x1=>
(bif (decide (x1.1≥0)) then (bif (decide (x1.1≤4)) then (bif (decide (x1.2.1≥0)) then (bif (decide (x1.2.1≤255)) then (bif (decide (x1.2.2.1≥0)) then (bif (decide (x1.2.2.1≤1099511627776)) then (bif (decide (x1.2.2.2.1≥(-1))) then (bif (decide (x1.2.2.2.1≤255)) then (bif (decide (x1.2.2.2.2.1≥(-1))) then (bif (decide (x1.2.2.2.2.1≤255)) then (bif (decide (x1.2.2.2.2.2.1≥0)) then (some (v0,(decide (x1.2.2.2.2.2.1≤6)),v1,v2,v3,x1.1,x1.2.1,x1.2.2.1,x1.2.2.2.1,x1.2.2.2.2.1,x1.2.2.2.2.2.1,x1.2.2.2.2.2.2.1,x1.2.2.2.2.2.2.2,())) else
some (v0,false,v1,v2,v3,x1.1,x1.2.1,x1.2.2.1,x1.2.2.2.1,x1.2.2.2.2.1,x1.2.2.2.2.2.1,x1.2.2.2.2.2.2.1,x1.2.2.2.2.2.2.2,())) else
some (v0,false,v1,v2,v3,x1.1,x1.2.1,x1.2.2.1,x1.2.2.2.1,x1.2.2.2.2.1,x1.2.2.2.2.2.1,x1.2.2.2.2.2.2.1,x1.2.2.2.2.2.2.2,())) else
some (v0,false,v1,v2,v3,x1.1,x1.2.1,x1.2.2.1,x1.2.2.2.1,x1.2.2.2.2.1,x1.2.2.2.2.2.1,x1.2.2.2.2.2.2.1,x1.2.2.2.2.2.2.2,())) else
some (v0,false,v1,v2,v3,x1.1,x1.2.1,x1.2.2.1,x1.2.2.2.1,x1.2.2.2.2.1,x1.2.2.2.2.2.1,x1.2.2.2.2.2.2.1,x1.2.2.2.2.2.2.2,())) else
some (v0,false,v1,v2,v3,x1.1,x1.2.1,x1.2.2.1,x1.2.2.2.1,x1.2.2.2.2.1,x1.2.2.2.2.2.1,x1.2.2.2.2.2.2.1,x1.2.2.2.2.2.2.2,())) else
some (v0,false,v1,v2,v3,x1.1,x1.2.1,x1.2.2.1,x1.2.2.2.1,x1.2.2.2.2.1,x1.2.2.2.2.2.1,x1.2.2.2.2.2.2.1,x1.2.2.2.2.2.2.2,())) else
some (v0,false,v1,v2,v3,x1.1,x1.2.1,x1.2.2.1,x1.2.2.2.1,x1.2.2.2.2.1,x1.2.2.2.2.2.1,x1.2.2.2.2.2.2.1,x1.2.2.2.2.2.2.2,())) else
some (v0,false,v1,v2,v3,x1.1,x1.2.1,x1.2.2.1,x1.2.2.2.1,x1.2.2.2.2.1,x1.2.2.2.2.2.1,x1.2.2.2.2.2.2.1,x1.2.2.2.2.2.2.2,())) else
some (v0,false,v1,v2,v3,x1.1,x1.2.1,x1.2.2.1,x1.2.2.2.1,x1.2.2.2.2.1,x1.2.2.2.2.2.1,x1.2.2.2.2.2.2.1,x1.2.2.2.2.2.2.2,())) else
some (v0,false,v1,v2,v3,x1.1,x1.2.1,x1.2.2.1,x1.2.2.2.1,x1.2.2.2.2.1,x1.2.2.2.2.2.1,x1.2.2.2.2.2.2.1,x1.2.2.2.2.2.2.2,())) else
some (v0,false,v1,v2,v3,x1.1,x1.2.1,x1.2.2.1,x1.2.2.2.1,x1.2.2.2.2.1,x1.2.2.2.2.2.1,x1.2.2.2.2.2.2.1,x1.2.2.2.2.2.2.2,()):Option (LDTs×Bool×LDTs×T1O)).bind fun(x2,x3,x4,x5,x6,x7,x8,x9,ac,ae,af,ag,ah,_)=>
(bif (!x3) then (some (x2,x4,x5,x6,true,())) else
let ai:=(dJ (List.length ah));
bif (ai != 8) then (some (x2,x4,x5,x6,true,())) else
(eV ah 8).bind fun(aj,_)=>
some (x2,x4,x5,x6,(!aj),()):Option (LDTs×LDTs×T0c)).bind fun(ai,aj,ak,am,an,_)=>
bif an then (some (.inr (.inl (false,())))) else
let ap:=(w64 (am+1));
some (.inl (ai,aj,ak,ap,()))) else
some (.inr (.inr (v0,v1,v2,v3,false,())))
def jh(a0:LDTs):Option (Bool×Unit):=
let x0:=(dJ (List.length a0));
(match dQ fL NN (a0,a0,x0,0,()) with
| none=>none
| some (.inl (x1,_))=>
some (x1,())
| some (.inr (x1,x2,x3,x4,x5,_))=>
let x6:=(dJ (List.length x1));
some ((x6==4),()))
noncomputable def uC:X.Cfg:=⟨E0,[fQ],[],[⟨8,0,qE,[(.normal,(qS [(sP 0 (.row false pE)),(pP 4 10),(sP 5 .bool),(sP 6 (.row false pE)),(sP 7 I64),(sP 8 I64)] [(10,(uL [I64,I64,I64,I64,I64,I64,CW,dY]))]))]⟩,⟨9,1,qE,[(.normal,(qS [(sP 0 (.row false pE)),(sP 6 (.row false pE)),(sP 7 I64),(sP 8 I64),(sP 83 .bool)] []))]⟩,⟨3,2,(qS [(sP 0 (.row false pE)),(sP 6 (.row false pE)),(sP 7 I64),(sP 8 I64)] []),[(.ret,(qS [(sP 2 .bool)] [])),(.exit 0,(qS [(sP 0 (.row false pE)),(sP 6 (.row false pE)),(sP 7 I64),(sP 8 I64),(sP 9 .bool)] []))]⟩]⟩
def oO:Ctr:=⟨88,113,(uL [(.row false pE)]),[],[⟨(uL [.bool]),[.one],[]⟩],ap1 jh⟩
theorem uo:Lk 3 oO:=ls (C:=uC) rfl (aC gr aN) (by kernel_rfl) fun h=>by kernel_rfl
def gv:T1u→Option (T1u⊕((Bool×Unit)⊕(LLCn×Int×Int×Bool×T0H))):=fun(v0,v1,v2,v3,v4,v5,v6,v7,_)=>
bif (decide (v2 < v1)) then ((dV v2).bind fun x0=>
(dF v0 x0).bind fun x1=>
let x2:=(dJ (List.length x1));
(dV v2).bind fun x3=>
(dF v4 x3).bind fun x4=>
bif (x2 != x4) then (some (.inr (.inl (false,())))) else
(eV x1 32).bind fun(x5,_)=>
bif (!x5) then (some (.inr (.inl (false,())))) else
let x6:=(w64 (v2+1));
some (.inl (v0,v1,x6,v3,v4,v5,v6,v7,()))) else
some (.inr (.inr (v0,v1,v2,false,v3,v4,v5,v6,v7,())))
def kR(a0:LDIn) (a1:List (Int)) (a2:List LI) (a3:List LDCn) (a4:LDTs):Option (Bool×Unit):=
((ib a0 a1 a2).bind fun(x0,_)=>
bif (x0 != 0) then (some (true,a0,a1,a2,a3,a4,())) else
let x1:=(dJ (List.length a3));
let x2:=(dJ (List.length a1));
bif (x1 != x2) then (some (true,a0,a1,a2,a3,a4,())) else
(jh a4).bind fun(x3,_)=>
some ((!x3),a0,a1,a2,a3,a4,()):Option (Bool×T0H)).bind fun(x0,x1,x2,x3,x4,x5,_)=>
bif x0 then (some (false,())) else
let x6:=(dJ (List.length x4));
(match dQ gv NN (x4,x6,0,x1,x2,x3,x4,x5,()) with
| none=>none
| some (.inl (x7,_))=>
some (x7,())
| some (.inr (x7,x8,x9,ac,ae,af,ag,ah,ai,_))=>
some (true,()))
noncomputable def yp:X.Cfg:=⟨E0,[lq,oO,fQ],[],[⟨2,0,qE,[(.normal,(qS [(pP 2 6),(pP 3 8),(sP 24 .bool)] [(6,(uL [eW,RI,(.row false RW)])),(8,(uL [(.row false dY),(.row false pE)]))]))]⟩,⟨6,1,(qS [(pP 2 6),(sP 26 (.row false dY)),(sP 27 I64),(sP 28 I64)] [(6,(uL [eW,RI,(.row false RW)])),(8,(uL [(.row false dY),(.row false pE)]))]),[(.ret,(qS [(sP 4 .bool)] [])),(.exit 0,(qS [(pP 2 6),(sP 26 (.row false dY)),(sP 27 I64),(sP 28 I64),(sP 29 .bool)] [(6,(uL [eW,RI,(.row false RW)])),(8,(uL [(.row false dY),(.row false pE)]))]))]⟩]⟩
def q9:Ctr:=⟨57,114,[.agg (uL [eW,RI,(.row false RW)]),.agg (uL [(.row false dY),(.row false pE)])],[],[⟨(uL [.bool]),[.one],[]⟩],ap5 kR⟩
theorem xN:Lk 4 q9:=ls (C:=yp) rfl (aC nz (aC uo (aC gr aN))) (by kernel_rfl) fun h=>by kernel_rfl
def gu:LDTs×Int×Int×LLCn×LDTs×LLCn×Unit→Option ((LDTs×Int×Int×LLCn×LDTs×LLCn×Unit)⊕(LDTs×Int×Int×Bool×LLCn×LDTs×LLCn×Unit)):=fun(v0,v1,v2,v3,v4,v5,_)=>
bif (decide (v2 < v1)) then ((dV v2).bind fun x0=>
(dF v0 x0).bind fun x1=>
let x2:List LDCn:=[x1.2.2.2.2.2.2.2];
bif (dU 24 (List.length v5) (List.length x2)) then let x3:List LDCn:=(List.append v5 x2);
let x4:=(w64 (v2+1));
some (.inl (v0,v1,x4,v3,v4,x3,())) else none) else
some (.inr (v0,v1,v2,false,v3,v4,v5,()))
def kQ(a0:List LDCn) (a1:LDTs):Option (LLCn×Unit):=
bif (dU 24 0 (List.length a0)) then let x0:List LDCn:=(List.append [] a0);
let x1:=(dJ (List.length a1));
(dQ gu NN (a1,x1,0,a0,a1,x0,())).bind fun(x2,x3,x4,x5,x6,x7,x8,_)=>
some (x8,()) else none
noncomputable def yo:X.Cfg:=⟨E0,[],[(8,(.row true KCn)),(19,(.row true KCn)),(20,(.row true KCn))],[(lx 4 0 [(3,.pk ⟨9,0,[]⟩ [0,0]),(sP 10 (.row false pE)),(sP 11 I64),(sP 12 I64)] [(4,(uL [(.row false dY),(.row false pE)])),(9,(uL [(.row true dY)]))] 13)]⟩
def q8:Ctr:=⟨59,115,[.agg (uL [(.row false dY),(.row false pE)])],[],[⟨(uL [(.row true dY)]),[.one],[]⟩],ap2 kQ⟩
theorem xM:Lk 1 q8:=ls (C:=yo) rfl aN (by kernel_rfl) fun h=>by kernel_rfl
def f6:T2r→Option (T2r⊕(T0P⊕(Int×Int×LDCn×T2l))):=fun(v0,v1,v2,v3,v4,v5,v6,v7,v8,v9,v10,v11,v12,v13,v14,v15,v16,v17,_)=>
bif (decide (v4 < v3)) then ((dV v4).bind fun x0=>
(dF v2 x0).bind fun x1=>
(fT v6 x1.1 x1.2.1 x1.2.2.1 x1.2.2.2).bind fun(x2,_)=>
bif (!x2) then (some (.inr (.inl (false,(),0,(),(),(),())))) else
let x3:=(w64 (v4+1));
some (.inl (v0,v1,v2,v3,x3,v5,v6,v7,v8,v9,v10,v11,v12,v13,v14,v15,v16,v17,()))) else
some (.inr (.inr (v0,v1,v2,v3,v4,false,v5,v6,v7,v8,v9,v10,v11,v12,v13,v14,v15,v16,v17,())))
def fZ:T2h→Option (T2h⊕(T0P⊕T2l)):=fun(v0,v1,v2,v3,v4,v5,v6,v7,v8,v9,v10,v11,v12,v13,v14,_)=>
bif (decide (v1 < v0)) then ((dV v1).bind fun x0=>
(dF v14 x0).bind fun x1=>
(dF v14 x0).bind fun x2=>
let x3:=(dJ (List.length x2));
(match dQ f6 NN (v0,v1,x2,x3,0,v2,v3,v4,v5,v6,v7,v8,v9,v10,v11,v12,v13,v14,()) with
| none=>none
| some (.inl (x4,x5,x6,x7,x8,x9,_))=>
some (.inr (.inl (x4,x5,x6,x7,x8,x9,())))
| some (.inr (x4,x5,x6,x7,x8,x9,ac,ae,af,ag,ah,ai,aj,ak,am,an,ap,aq,av,_))=>
let ax:=(w64 (x5+1));
some (.inl (x4,ax,ac,ae,af,ag,ah,ai,aj,ak,am,an,ap,aq,av,())))) else
some (.inr (.inr (v0,v1,false,v2,v3,v4,v5,v6,v7,v8,v9,v10,v11,v12,v13,v14,())))
def mL:T2G→Option (T2G⊕(Int×LLCn×Int×Int×LDCn×T2B)):=fun(v0,v1,v2,v3,v4,v5,v6,v7,v8,v9,v10,v11,v12,v13,v14,v15,v16,v17,v18,v19,v20,v21,v22,v23,_)=>
bif (decide (v6 < v5)) then ((dV v6).bind fun x0=>
(dF v4 x0).bind fun x1=>
(dV v0).bind fun x2=>
(dF v10 x2).bind fun x3=>
let x4:=(w64 (x3+v6));
(fS v10 v11 v8 x1.1 x1.2.1 x1.2.2.1 x1.2.2.2).bind fun(x5,x6,x7,_)=>
(dV x4).bind fun x8=>
(dF v21 x8).bind fun x9=>
(dF v21 x8).bind fun ac=>
let ae:=(List.modify v21 x8 fun e=>(x5,x6));
let af:=(w64 (v6+1));
some (.inl (v0,v1,v2,v3,v4,v5,af,v7,v8,v9,v10,v11,v12,v13,v14,v15,v16,v17,v18,v19,v20,ae,v22,v23,()))) else
some (.inr (v0,v1,v2,v3,v4,v5,v6,false,v7,v8,v9,v10,v11,v12,v13,v14,v15,v16,v17,v18,v19,v20,v21,v22,v23,()))
def mK:T2D→Option (T2D⊕(LLCn×T2B)):=fun(v0,v1,v2,v3,v4,v5,v6,v7,v8,v9,v10,v11,v12,v13,v14,v15,v16,v17,v18,v19,_)=>
bif (decide (v2 < v1)) then ((dV v2).bind fun x0=>
(dF v0 x0).bind fun x1=>
let x2:=(dJ (List.length x1));
(dQ mL NN (v2,v0,v1,v2,x1,x2,0,v3,v4,v5,v6,v7,v8,v9,v10,v11,v12,v13,v14,v15,v16,v17,v18,v19,())).bind fun(x3,x4,x5,x6,x7,x8,x9,ac,ae,af,ag,ah,ai,aj,ak,am,an,ap,aq,av,ax,ay,az,aA,aB,_)=>
let aD:=(w64 (x6+1));
some (.inl (x4,x5,aD,ae,af,ag,ah,ai,aj,ak,am,an,ap,aq,av,ax,ay,az,aA,aB,()))) else
some (.inr (v0,v1,v2,false,v3,v4,v5,v6,v7,v8,v9,v10,v11,v12,v13,v14,v15,v16,v17,v18,v19,()))
def fY:T3d→Option (T3d⊕(LDTs×Int×Int×LDCn×Int×Int×Bool×T2S)):=fun(v0,v1,v2,v3,v4,v5,v6,v7,v8,v9,v10,v11,v12,v13,v14,v15,v16,v17,v18,v19,v20,v21,v22,v23,v24,v25,v26,v27,v28,v29,v30,v31,v32,v33,v34,v35,v36,v37,v38,_)=>
bif (decide (v5 < v4)) then ((dV v5).bind fun x0=>
(dF v3 x0).bind fun x1=>
(fS v9 v10 v7 x1.1 x1.2.1 x1.2.2.1 x1.2.2.2).bind fun(x2,x3,x4,_)=>
let x5:LDCe:=[(x2,x3)];
bif (dU 4 (List.length v32) (List.length x5)) then let x6:LDCe:=(List.append v32 x5);
let x7:=(w64 (v5+1));
some (.inl (v0,v1,v2,v3,v4,x7,v6,v7,v8,v9,v10,v11,v12,v13,v14,v15,v16,v17,v18,v19,v20,v21,v22,v23,v24,v25,v26,v27,v28,v29,v30,v31,x6,v33,v34,v35,v36,v37,v38,())) else none) else
some (.inr (v0,v1,v2,v3,v4,v5,false,v6,v7,v8,v9,v10,v11,v12,v13,v14,v15,v16,v17,v18,v19,v20,v21,v22,v23,v24,v25,v26,v27,v28,v29,v30,v31,v32,v33,v34,v35,v36,v37,v38,()))
def fX:T2C→Option (T2C⊕(LDTs×Int×Int×Bool×T2p)):=fun(v0,v1,v2,v3,v4,v5,v6,v7,v8,v9,v10,v11,v12,v13,v14,v15,v16,v17,v18,v19,_)=>
bif (decide (v2 < v1)) then ((dV v2).bind fun x0=>
(dF v0 x0).bind fun x1=>
let x2:=(dJ (List.length x1.2.2.2.2.2.2.2));
(dQ fY NN (v0,v1,v2,x1.2.2.2.2.2.2.2,x2,0,v3,v4,v5,v6,v7,v8,v9,v10,v11,v12,v13,v14,v15,v16,v17,v18,v19,x1.1,x1.2.1,x1.2.2.1,x1.2.2.2.1,x1.2.2.2.2.1,x1.2.2.2.2.2.1,x1.2.2.2.2.2.2.1,x1.2.2.2.2.2.2.2,x1.1,[],x1.2.1,x1.2.2.1,x1.2.2.2.1,x1.2.2.2.2.1,x1.2.2.2.2.2.1,x1.2.2.2.2.2.2.1,())).bind fun(x3,x4,x5,x6,x7,x8,x9,ac,ae,af,ag,ah,ai,aj,ak,am,an,ap,aq,av,ax,ay,az,aA,aB,aD,aE,aF,aG,aH,aI,aJ,aK,aL,aM,aO,aP,aQ,aR,aS,_)=>
let aT:LDTh:=[(aK,(aL,(aM,(aO,(aP,(aQ,(aR,aS)))))))];
bif (dU 80 (List.length aA) (List.length aT)) then let aU:LDTh:=(List.append aA aT);
let aV:=(w64 (x5+1));
some (.inl (x3,x4,aV,ac,ae,af,ag,ah,ai,aj,ak,am,an,ap,aq,av,ax,ay,az,aU,())) else none) else
some (.inr (v0,v1,v2,false,v3,v4,v5,v6,v7,v8,v9,v10,v11,v12,v13,v14,v15,v16,v17,v18,v19,()))
def jZ(a0:LDIn) (a1:List (Int)) (a2:List LI) (a3:List (Int)) (a4:Int) (a5:List LDCn) (a6:LDTs):Option (T10):=
(kR a0 a1 a2 a5 a6).bind fun(x0,_)=>
bif (!x0) then (some ([],0,[],[],[],false,())) else
(gj a3 a4 a1).bind fun(x1,_)=>
bif (!x1) then (some ([],0,[],[],[],false,())) else
(kQ a5 a6).bind fun(x2,_)=>
let x3:=(dJ (List.length x2));
(match dQ fZ NN (x3,0,a0,a1,a2,a3,a4,a5,a6,(),0,(),(),(),x2,()) with
| none=>none
| some (.inl (x4,x5,x6,x7,x8,x9,_))=>
some ([],x6,[],[],[],x4,())
| some (.inr (x4,x5,x6,x7,x8,x9,ac,ae,af,ag,ah,ai,aj,ak,am,an,_))=>
bif (dU 8 0 (List.length ac)) then let ap:List (Int):=(List.append [] ac);
bif (qD 512 512 2) then let aq:LDCe:=(List.replicate 512 (0,0));
(k9).bind fun(av,_)=>
let ax:=(dJ (List.length af));
(dQ mK NN (af,ax,0,x7,x8,x9,ac,ae,af,ag,ah,ai,aj,ak,am,ap,ae,aq,av,(),())).bind fun(ay,az,aA,aB,aD,aE,aF,aG,aH,aI,aJ,aK,aL,aM,aO,aP,aQ,aR,aS,aT,aU,_)=>
let aV:=(dJ (List.length aJ));
(dQ fX NN (aJ,aV,0,aD,aE,aF,aG,aH,aI,aJ,aK,aL,aM,aO,aP,aQ,aR,aS,aT,[],())).bind fun(aW,aY,aZ,ba,bc,bd,be,bf,bg,bh,bi,bj,bk,bl,bm,bn,bo,bp,bq,bt,bv,_)=>
some (bo,bp,bq,bt,bv,true,()) else none else none)
noncomputable def vU:X.Cfg:=⟨E0,[q9,jE,q8,iy,nM,nN],[(150,KL),(151,KL)],[⟨12,0,(qS [(pP 3 8),(pP 4 10),(pP 5 12),(pP 6 14),(37,.pk ⟨77,0,[]⟩ [0,0]),(sP 38 I64),(sP 39 I64),(sP 43 dY),(sP 44 I64),(sP 45 I64)] [(8,(uL [eW,RI,(.row false RW)])),(10,(uL [RI,CW])),(12,(uL [(.row false dY),(.row false pE)])),(14,(uL [N1,CW,N1,N1,N1])),(77,(uL [(.row true dY)]))]),[(.ret,(qS [(pP 6 14),(sP 7 .bool)] [(14,(uL [N1,CW,N1,N1,N1]))])),(.exit 2,(qS [(pP 3 8),(pP 4 10),(pP 5 12),(pP 6 14),(37,.pk ⟨77,0,[]⟩ [0,0]),(sP 38 I64),(sP 39 I64),(sP 43 dY),(sP 44 I64),(sP 45 I64),(sP 46 .bool)] [(8,(uL [eW,RI,(.row false RW)])),(10,(uL [RI,CW])),(12,(uL [(.row false dY),(.row false pE)])),(14,(uL [N1,CW,N1,N1,N1])),(77,(uL [(.row true dY)]))]))]⟩,⟨6,1,(qS [(pP 3 8),(pP 4 10),(pP 5 12),(pP 6 14),(37,.pk ⟨77,0,[]⟩ [0,0]),(sP 38 I64),(sP 39 I64)] [(8,(uL [eW,RI,(.row false RW)])),(10,(uL [RI,CW])),(12,(uL [(.row false dY),(.row false pE)])),(14,(uL [N1,CW,N1,N1,N1])),(77,(uL [(.row true dY)]))]),[(.ret,(qS [(pP 6 14),(sP 7 .bool)] [(14,(uL [N1,CW,N1,N1,N1]))])),(.exit 0,(qS [(pP 3 8),(pP 4 10),(pP 5 12),(pP 6 14),(37,.pk ⟨77,0,[]⟩ [0,0]),(sP 38 I64),(sP 39 I64),(sP 40 .bool)] [(8,(uL [eW,RI,(.row false RW)])),(10,(uL [RI,CW])),(12,(uL [(.row false dY),(.row false pE)])),(14,(uL [N1,CW,N1,N1,N1])),(77,(uL [(.row true dY)]))]))]⟩,⟨28,2,(qS [(pP 3 8),(pP 4 10),(pP 5 12),(pP 6 14),(pP 12 26),(sP 13 I64),(sP 68 (.row false dY)),(sP 69 I64),(sP 70 I64),(sP 75 dY),(sP 76 I64),(sP 77 I64)] [(8,(uL [eW,RI,(.row false RW)])),(10,(uL [RI,CW])),(12,(uL [(.row false dY),(.row false pE)])),(14,(uL [N1,CW,N1,N1,N1])),(26,(uL [RI,CW,(.row true KCe),i6,N1]))]),[(.exit 6,(qS [(pP 3 8),(pP 4 10),(pP 5 12),(pP 6 14),(pP 12 26),(sP 13 I64),(sP 68 (.row false dY)),(sP 69 I64),(sP 70 I64),(sP 75 dY),(sP 76 I64),(sP 77 I64),(sP 78 .bool)] [(8,(uL [eW,RI,(.row false RW)])),(10,(uL [RI,CW])),(12,(uL [(.row false dY),(.row false pE)])),(14,(uL [N1,CW,N1,N1,N1])),(26,(uL [RI,CW,(.row true KCe),i6,N1]))]))]⟩,⟨22,3,(qS [(pP 3 8),(pP 4 10),(pP 5 12),(pP 6 14),(pP 12 26),(sP 68 (.row false dY)),(sP 69 I64),(sP 70 I64)] [(8,(uL [eW,RI,(.row false RW)])),(10,(uL [RI,CW])),(12,(uL [(.row false dY),(.row false pE)])),(14,(uL [N1,CW,N1,N1,N1])),(26,(uL [RI,CW,(.row true KCe),i6,N1]))]),[(.exit 4,(qS [(pP 3 8),(pP 4 10),(pP 5 12),(pP 6 14),(pP 12 26),(sP 68 (.row false dY)),(sP 69 I64),(sP 70 I64),(sP 71 .bool)] [(8,(uL [eW,RI,(.row false RW)])),(10,(uL [RI,CW])),(12,(uL [(.row false dY),(.row false pE)])),(14,(uL [N1,CW,N1,N1,N1])),(26,(uL [RI,CW,(.row true KCe),i6,N1]))]))]⟩,⟨43,4,(qS [(pP 3 8),(pP 4 10),(pP 6 14),(pP 12 26),(pP 19 40),(sP 104 (.row false pE)),(sP 105 I64),(sP 106 I64),(sP 126 dY),(sP 127 I64),(sP 128 I64)] [(8,(uL [eW,RI,(.row false RW)])),(10,(uL [RI,CW])),(12,(uL [(.row false dY),(.row false pE)])),(14,(uL [N1,CW,N1,N1,N1])),(26,(uL [RI,CW,(.row true KCe),i6,n6])),(38,(uL [I64,I64,I64,I64,I64,I64,CW,dY])),(40,(uL [I64,(.row true KCe),I64,I64,I64,I64,I64,CW]))]),[(.exit 10,(qS [(pP 3 8),(pP 4 10),(pP 6 14),(pP 12 26),(pP 19 40),(sP 104 (.row false pE)),(sP 105 I64),(sP 106 I64),(sP 126 dY),(sP 127 I64),(sP 128 I64),(sP 129 .bool)] [(8,(uL [eW,RI,(.row false RW)])),(10,(uL [RI,CW])),(12,(uL [(.row false dY),(.row false pE)])),(14,(uL [N1,CW,N1,N1,N1])),(26,(uL [RI,CW,(.row true KCe),i6,n6])),(38,(uL [I64,I64,I64,I64,I64,I64,CW,dY])),(40,(uL [I64,(.row true KCe),I64,I64,I64,I64,I64,CW]))]))]⟩,⟨35,5,(qS [(pP 3 8),(pP 4 10),(pP 6 14),(pP 12 26),(sP 104 (.row false pE)),(sP 105 I64),(sP 106 I64)] [(8,(uL [eW,RI,(.row false RW)])),(10,(uL [RI,CW])),(12,(uL [(.row false dY),(.row false pE)])),(14,(uL [N1,CW,N1,N1,N1])),(26,(uL [RI,CW,(.row true KCe),i6,n6]))]),[(.exit 8,(qS [(pP 3 8),(pP 4 10),(pP 6 14),(pP 12 26),(sP 104 (.row false pE)),(sP 105 I64),(sP 106 I64),(sP 107 .bool)] [(8,(uL [eW,RI,(.row false RW)])),(10,(uL [RI,CW])),(12,(uL [(.row false dY),(.row false pE)])),(14,(uL [N1,CW,N1,N1,N1])),(26,(uL [RI,CW,(.row true KCe),i6,n6]))]))]⟩]⟩
def pW:Ctr:=⟨33,116,[.agg (uL [eW,RI,(.row false RW)]),.agg (uL [RI,CW]),.agg (uL [(.row false dY),(.row false pE)])],[],[⟨(uL [RI,CW,(.row true KCe),i6,n6,.bool]),[.agg 5,.one],[]⟩],ap7 jZ⟩
theorem vE:Lk 5 pW:=ls (C:=vU) rfl (aC xN (aC lj (aC xM (aC kg (aC qL (aC qg aN)))))) (by kernel_rfl) fun h=>by kernel_rfl
def jP:T30→Option (T30⊕T37):=fun(v0,v1,v2,v3,v4,v5,v6,v7,v8,v9,v10,v11,v12,v13,v14,v15,v16,v17,v18,v19,v20,v21,v22,v23,v24,v25,v26,v27,v28,v29,v30,v31,v32,v33,v34,v35,v36,_)=>
bif (decide (v1 < v0)) then (((dG 3 v2 v3).bind fun(x0,x1,x2,_)=>
bif (x0==0) then ((dF v35 0).bind fun x3=>
(dF v35 0).bind fun x4=>
(kz v13 x1 x2).bind fun(x5,x6,x7,x8,x9,ac,_)=>
(dV v1).bind fun ae=>
(dF v35 0).bind fun af=>
(dF af ae).bind fun ag=>
(dF v35 0).bind fun ah=>
(dF ah ae).bind fun ai=>
let aj:=(List.modify v35 0 fun e=>(List.modify e ae fun e=>(x5,(x6,(x7,x8)))));
some (v0,v1,x9,ac,v4,v5,v6,v7,v8,v9,v10,v11,v12,v13,v14,v15,v16,v17,v18,v19,v20,v21,v22,v23,v24,v25,v26,v27,v28,v29,v30,v31,v32,v33,v34,aj,v36,())) else
some (v0,v1,x1,x2,v4,v5,v6,v7,v8,v9,v10,v11,v12,v13,v14,v15,v16,v17,v18,v19,v20,v21,v22,v23,v24,v25,v26,v27,v28,v29,v30,v31,v32,v33,v34,v35,v36,()):Option (T30)).bind fun(x0,x1,x2,x3,x4,x5,x6,x7,x8,x9,ac,ae,af,ag,ah,ai,aj,ak,am,an,ap,aq,av,ax,ay,az,aA,aB,aD,aE,aF,aG,aH,aI,aJ,aK,aL,_)=>
let aM:=(w64 (x1+1));
some (.inl (x0,aM,x2,x3,x4,x5,x6,x7,x8,x9,ac,ae,af,ag,ah,ai,aj,ak,am,an,ap,aq,av,ax,ay,az,aA,aB,aD,aE,aF,aG,aH,aI,aJ,aK,aL,()))) else
some (.inr (v0,v1,false,v2,v3,v4,v5,v6,v7,v8,v9,v10,v11,v12,v13,v14,v15,v16,v17,v18,v19,v20,v21,v22,v23,v24,v25,v26,v27,v28,v29,v30,v31,v32,v33,v34,v35,v36,()))
def mO:T3f→Option (T3f⊕(Int×Int×Int×T37)):=fun(v0,v1,v2,v3,v4,v5,v6,v7,v8,v9,v10,v11,v12,v13,v14,v15,v16,v17,v18,v19,v20,v21,v22,v23,v24,v25,v26,v27,v28,v29,v30,v31,v32,v33,v34,v35,v36,v37,v38,v39,_)=>
bif (decide (v4 < v3)) then (((dG 3 v5 v6).bind fun(x0,x1,x2,_)=>
bif (x0==0) then ((dV v0).bind fun x3=>
(dF v39 x3).bind fun x4=>
(dF v39 x3).bind fun x5=>
(kz v16 x1 x2).bind fun(x6,x7,x8,x9,ac,ae,_)=>
(dV v4).bind fun af=>
(dF v39 x3).bind fun ag=>
(dF ag.2.2.2.2.2.2.2 af).bind fun ah=>
(dF v39 x3).bind fun ai=>
(dF ai.2.2.2.2.2.2.2 af).bind fun aj=>
let ak:=(List.modify v39 x3 fun e=>(e.1,(e.2.1,(e.2.2.1,(e.2.2.2.1,(e.2.2.2.2.1,(e.2.2.2.2.2.1,(e.2.2.2.2.2.2.1,(List.modify e.2.2.2.2.2.2.2 af fun e=>(x6,(x7,(x8,x9))))))))))));
some (v0,v1,v2,v3,v4,ac,ae,v7,v8,v9,v10,v11,v12,v13,v14,v15,v16,v17,v18,v19,v20,v21,v22,v23,v24,v25,v26,v27,v28,v29,v30,v31,v32,v33,v34,v35,v36,v37,v38,ak,())) else
some (v0,v1,v2,v3,v4,x1,x2,v7,v8,v9,v10,v11,v12,v13,v14,v15,v16,v17,v18,v19,v20,v21,v22,v23,v24,v25,v26,v27,v28,v29,v30,v31,v32,v33,v34,v35,v36,v37,v38,v39,()):Option (T3f)).bind fun(x0,x1,x2,x3,x4,x5,x6,x7,x8,x9,ac,ae,af,ag,ah,ai,aj,ak,am,an,ap,aq,av,ax,ay,az,aA,aB,aD,aE,aF,aG,aH,aI,aJ,aK,aL,aM,aO,aP,_)=>
let aQ:=(w64 (x4+1));
some (.inl (x0,x1,x2,x3,aQ,x5,x6,x7,x8,x9,ac,ae,af,ag,ah,ai,aj,ak,am,an,ap,aq,av,ax,ay,az,aA,aB,aD,aE,aF,aG,aH,aI,aJ,aK,aL,aM,aO,aP,()))) else
some (.inr (v0,v1,v2,v3,v4,false,v5,v6,v7,v8,v9,v10,v11,v12,v13,v14,v15,v16,v17,v18,v19,v20,v21,v22,v23,v24,v25,v26,v27,v28,v29,v30,v31,v32,v33,v34,v35,v36,v37,v38,v39,()))
def jO:T30→Option (T30⊕T37):=fun(v0,v1,v2,v3,v4,v5,v6,v7,v8,v9,v10,v11,v12,v13,v14,v15,v16,v17,v18,v19,v20,v21,v22,v23,v24,v25,v26,v27,v28,v29,v30,v31,v32,v33,v34,v35,v36,_)=>
bif (decide (v1 < v0)) then (((dV v1).bind fun x0=>
(dF v36 x0).bind fun x1=>
(dF v36 x0).bind fun x2=>
(dF v36 x0).bind fun x3=>
let x4:=(dJ (List.length x3.2.2.2.2.2.2.2));
(dQ mO NN (v1,v0,v1,x4,0,v2,v3,v4,v5,v6,v7,v8,v9,v10,v11,v12,v13,v14,v15,v16,v17,v18,v19,v20,v21,v22,v23,v24,v25,v26,v27,v28,v29,v30,v31,v32,v33,v34,v35,v36,())).bind fun(x5,x6,x7,x8,x9,ac,ae,af,ag,ah,ai,aj,ak,am,an,ap,aq,av,ax,ay,az,aA,aB,aD,aE,aF,aG,aH,aI,aJ,aK,aL,aM,aO,aP,aQ,aR,aS,aT,aU,aV,_)=>
(dG 4 ae af).bind fun(aW,aY,aZ,_)=>
bif (aW==0) then ((dG 5 aY aZ).bind fun(ba,bc,bd,_)=>
(dV x5).bind fun be=>
(dF aV be).bind fun bf=>
(dF aV be).bind fun bg=>
let bh:=(List.modify aV be fun e=>(ba,e.2));
some (x6,x7,bc,bd,ag,ah,ai,aj,ak,am,an,ap,aq,av,ax,ay,az,aA,aB,aD,aE,aF,aG,aH,aI,aJ,aK,aL,aM,aO,aP,aQ,aR,aS,aT,aU,bh,())) else
some (x6,x7,aY,aZ,ag,ah,ai,aj,ak,am,an,ap,aq,av,ax,ay,az,aA,aB,aD,aE,aF,aG,aH,aI,aJ,aK,aL,aM,aO,aP,aQ,aR,aS,aT,aU,aV,()):Option (T30)).bind fun(x0,x1,x2,x3,x4,x5,x6,x7,x8,x9,ac,ae,af,ag,ah,ai,aj,ak,am,an,ap,aq,av,ax,ay,az,aA,aB,aD,aE,aF,aG,aH,aI,aJ,aK,aL,_)=>
let aM:=(w64 (x1+1));
some (.inl (x0,aM,x2,x3,x4,x5,x6,x7,x8,x9,ac,ae,af,ag,ah,ai,aj,ak,am,an,ap,aq,av,ax,ay,az,aA,aB,aD,aE,aF,aG,aH,aI,aJ,aK,aL,()))) else
some (.inr (v0,v1,false,v2,v3,v4,v5,v6,v7,v8,v9,v10,v11,v12,v13,v14,v15,v16,v17,v18,v19,v20,v21,v22,v23,v24,v25,v26,v27,v28,v29,v30,v31,v32,v33,v34,v35,v36,()))
def j8(a0:List (Int)) (a1:Int):Option (LDIn×LI×LLI×LI×Int×LDCe×LDLn×LDTh×T06):=
(pe a0 a1).bind fun(x0,x1,x2,x3,x4,x5,x6,x7,x8,x9,ac,ae,af,ag,ah,ai,aj,ak,am,an,_)=>
(match ((dG 3 am an).bind fun(ap,aq,av,_)=>
bif (ap==0) then ((kS x0 x1 x2 x3 x4 x5 x6 x7).bind fun(ax,ay,_)=>
(dF ax 0).bind fun az=>
(dF ax 0).bind fun aA=>
(dF ax 0).bind fun aB=>
let aD:=(dJ (List.length aB));
(dQ jP NN (aD,0,aq,av,(),(),(),(),0,(),(),(),x0,x1,x2,x3,x4,x5,x6,x7,x8,x9,ac,ae,af,ag,ah,ai,aj,ak,x3,x4,x5,x6,x7,ax,ay,())).bind fun(aE,aF,aG,aH,aI,aJ,aK,aL,aM,aO,aP,aQ,aR,aS,aT,aU,aV,aW,aY,aZ,ba,bc,bd,be,bf,bg,bh,bi,bj,bk,bl,bm,bn,bo,bp,bq,bt,bv,_)=>
let bx:=(dJ (List.length bv));
(dQ jO NN (bx,0,aH,aI,aJ,aK,aL,aM,aO,aP,aQ,aR,aS,aT,aU,aV,aW,aY,aZ,ba,bc,bd,be,bf,bg,bh,bi,bj,bk,bl,bm,bn,bo,bp,bq,bt,bv,())).bind fun(bA,bB,bC,bD,bE,bF,bG,bH,bI,bJ,bK,bL,bM,bN,bO,bP,bQ,bR,bS,bT,bU,bV,bW,bY,bZ,b8,b9,ca,cd,cf,cg,ch,ci,cj,cl,cn,cq,cr,_)=>
(jZ bN bO bP ch ci cq cr).bind fun(cu,cw,cx,cy,cz,cD,_)=>
bif cD then (some (.inl (bD,bE,bF,bG,bH,bI,bJ,bK,bL,bM,bN,bO,bP,bQ,bR,bS,bT,bU,bV,bW,bY,bZ,b8,b9,ca,cd,cf,cg,cu,cw,cx,cy,cz,()))) else
some (.inr (bD,bE,bF,bG,bH,bI,bJ,bK,bL,bM,bN,bO,bP,bQ,bR,bS,bT,bU,bV,bW,bY,bZ,b8,b9,ca,cd,cf,cg,ch,ci,cj,cl,cn,()))) else
some (.inr (aq,av,(),(),(),(),0,(),(),(),x0,x1,x2,x3,x4,x5,x6,x7,x8,x9,ac,ae,af,ag,ah,ai,aj,ak,x3,x4,x5,x6,x7,())):Option (T2T⊕T2T)) with
| none=>none
| some (.inl (ap,aq,av,ax,ay,az,aA,aB,aD,aE,aF,aG,aH,aI,aJ,aK,aL,aM,aO,aP,aQ,aR,aS,aT,aU,aV,aW,aY,aZ,ba,bc,bd,be,_))=>
some (aF,aG,aH,aZ,ba,bc,bd,be,ap,aq,())
| some (.inr (ap,aq,av,ax,ay,az,aA,aB,aD,aE,aF,aG,aH,aI,aJ,aK,aL,aM,aO,aP,aQ,aR,aS,aT,aU,aV,aW,aY,aZ,ba,bc,bd,be,_))=>
some (aF,aG,aH,aZ,ba,bc,bd,be,ap,aq,()))
noncomputable def wl:X.Cfg:=⟨E0,[xe,fi,ra,s8,pW],[],[⟨11,0,qE,[(.normal,(qS [(pP 0 2),(pP 2 6),(pP 3 8),(pP 4 10),(pP 5 12),(pP 6 14),(sP 27 I64),(sP 28 I64)] [(2,(uL [RI,I64])),(6,(uL [N1,N1,N1])),(8,(uL [N1,CW,N1,N1,N1])),(10,(uL [eW,RI,(.row false RW),RI,CW,eS,fq,fw,RW,RW,(.row false RW),(.row false dY),gf,it,RI,(.row false RI),DG,RI])),(12,(uL [RI,CW,eS,fq,fw])),(14,(uL [(.row true (.row true KCn)),(.row true DJ)]))]))]⟩,(lx 8 1 [(pP 0 2),(pP 2 6),(pP 3 8),(pP 4 10),(pP 5 12),(pP 6 14),(sP 27 I64),(sP 28 I64)] [(2,(uL [RI,I64])),(6,(uL [N1,N1,N1])),(8,(uL [N1,CW,N1,N1,N1])),(10,(uL [eW,RI,(.row false RW),RI,CW,eS,fq,fw,RW,RW,(.row false RW),(.row false dY),gf,it,RI,(.row false RI),DG,RI])),(12,(uL [RI,CW,eS,fq,fw])),(14,(uL [(.row true (.row true KCn)),(.row true DJ)]))] 29),⟨26,2,qE,[(.normal,(qS [(pP 0 2),(pP 2 6),(pP 3 8),(pP 4 10),(pP 5 12),(pP 6 14),(sP 8 I64),(sP 48 I64),(sP 49 I64),(sP 58 I64),(sP 59 I64)] [(2,(uL [RI,I64])),(6,(uL [N1,N1,N1])),(8,(uL [N1,CW,N1,N1,N1])),(10,(uL [eW,RI,(.row false RW),RI,CW,eS,fq,fw,RW,RW,(.row false RW),(.row false dY),gf,it,RI,(.row false RI),DG,RI])),(12,(uL [RI,CW,eS,fq,fw])),(14,(uL [(.row true (.row true KCn)),(.row true DJ)]))]))]⟩,⟨23,3,(qS [(pP 0 2),(pP 2 6),(pP 3 8),(pP 4 10),(pP 5 12),(pP 6 14),(sP 8 I64),(sP 48 I64),(sP 49 I64),(sP 58 I64),(sP 59 I64)] [(2,(uL [RI,I64])),(6,(uL [N1,N1,N1])),(8,(uL [N1,CW,N1,N1,N1])),(10,(uL [eW,RI,(.row false RW),RI,CW,eS,fq,fw,RW,RW,(.row false RW),(.row false dY),gf,it,RI,(.row false RI),DG,RI])),(12,(uL [RI,CW,eS,fq,fw])),(14,(uL [(.row true (.row true KCn)),(.row true DJ)]))]),[(.exit 4,(qS [(pP 0 2),(pP 2 6),(pP 3 8),(pP 4 10),(pP 5 12),(pP 6 14),(sP 8 I64),(sP 48 I64),(sP 49 I64),(sP 58 I64),(sP 59 I64),(sP 60 .bool)] [(2,(uL [RI,I64])),(6,(uL [N1,N1,N1])),(8,(uL [N1,CW,N1,N1,N1])),(10,(uL [eW,RI,(.row false RW),RI,CW,eS,fq,fw,RW,RW,(.row false RW),(.row false dY),gf,it,RI,(.row false RI),DG,RI])),(12,(uL [RI,CW,eS,fq,fw])),(14,(uL [(.row true (.row true KCn)),(.row true DJ)]))]))]⟩,⟨19,4,qE,[(.normal,(qS [(pP 0 2),(pP 2 6),(pP 3 8),(pP 4 10),(pP 5 12),(pP 6 14),(sP 48 I64),(sP 49 I64)] [(2,(uL [RI,I64])),(6,(uL [N1,N1,N1])),(8,(uL [N1,CW,N1,N1,N1])),(10,(uL [eW,RI,(.row false RW),RI,CW,eS,fq,fw,RW,RW,(.row false RW),(.row false dY),gf,it,RI,(.row false RI),DG,RI])),(12,(uL [RI,CW,eS,fq,fw])),(14,(uL [(.row true (.row true KCn)),(.row true DJ)]))]))]⟩,⟨16,5,(qS [(pP 0 2),(pP 2 6),(pP 3 8),(pP 4 10),(pP 5 12),(pP 6 14),(sP 48 I64),(sP 49 I64)] [(2,(uL [RI,I64])),(6,(uL [N1,N1,N1])),(8,(uL [N1,CW,N1,N1,N1])),(10,(uL [eW,RI,(.row false RW),RI,CW,eS,fq,fw,RW,RW,(.row false RW),(.row false dY),gf,it,RI,(.row false RI),DG,RI])),(12,(uL [RI,CW,eS,fq,fw])),(14,(uL [(.row true (.row true KCn)),(.row true DJ)]))]),[(.exit 2,(qS [(pP 0 2),(pP 2 6),(pP 3 8),(pP 4 10),(pP 5 12),(pP 6 14),(sP 48 I64),(sP 49 I64),(sP 50 .bool)] [(2,(uL [RI,I64])),(6,(uL [N1,N1,N1])),(8,(uL [N1,CW,N1,N1,N1])),(10,(uL [eW,RI,(.row false RW),RI,CW,eS,fq,fw,RW,RW,(.row false RW),(.row false dY),gf,it,RI,(.row false RI),DG,RI])),(12,(uL [RI,CW,eS,fq,fw])),(14,(uL [(.row true (.row true KCn)),(.row true DJ)]))]))]⟩,⟨3,6,qE,[(.normal,(qS [(pP 0 2),(pP 2 6),(pP 3 8),(pP 4 10),(pP 5 12)] [(2,(uL [RI,I64])),(6,(uL [N1,N1,N1])),(8,(uL [N1,CW,N1,N1,N1])),(10,(uL [eW,RI,(.row false RW),RI,CW,eS,fq,fw,RW,RW,(.row false RW),(.row false dY),gf,it,RI,(.row false RI),DG,RI])),(12,(uL [RI,CW,(.row true KCe),i6,n6]))])),(.normal,(qS [(pP 0 2),(pP 2 6),(pP 3 8),(pP 4 10),(pP 5 12)] [(2,(uL [RI,I64])),(6,(uL [N1,N1,N1])),(8,(uL [N1,CW,N1,N1,N1])),(10,(uL [eW,RI,(.row false RW),RI,CW,eS,fq,fw,RW,RW,(.row false RW),(.row false dY),gf,it,RI,(.row false RI),DG,RI])),(12,(uL [RI,CW,eS,fq,fw]))]))]⟩]⟩
def p8:Ctr:=⟨8,117,[.ptr ⟨2,0,[]⟩ [0]],[(2,(uL [RI,I64]))],[⟨(uL [eW,RI,(.row false RW),RI,CW,eS,fq,fw]),[.agg 3,.agg 5],[(2,(uL [RI,I64]))]⟩],ap2 j8⟩
theorem vL:Lk 10 p8:=ls (C:=wl) rfl (aC Eu (aC fC (aC xO (aC Aj (aC vE aN))))) (by kernel_rfl) fun h=>by kernel_rfl
def fW:T0t→Option (T0t⊕(LDTh×Int×Int×T00)):=fun(v0,v1,v2,v3,_)=>
bif (decide (v2 < v1)) then (((dV v2).bind fun x0=>
(dF v0 x0).bind fun x1=>
bif (x1.1==1) then (bif (dU 8 (List.length v3) (List.length [v2])) then let x2:List (Int):=(List.append v3 [v2]);
some (v0,v1,v2,x2,()) else none) else
some (v0,v1,v2,v3,()):Option (T0t)).bind fun(x0,x1,x2,x3,_)=>
let x4:=(w64 (x2+1));
some (.inl (x0,x1,x4,x3,()))) else
some (.inr (v0,v1,v2,false,v3,()))
def jV(a0:LDTh):Option (LI×Unit):=
let x0:=(dJ (List.length a0));
(dQ fW NN (a0,x0,0,[],())).bind fun(x1,x2,x3,x4,x5,_)=>
some (x5,())
noncomputable def vN:X.Cfg:=⟨E0,[],[],[⟨7,0,qE,[(.normal,(qS [(3,.pk ⟨9,0,[]⟩ [0,0]),(sP 6 fw),(sP 7 I64),(sP 8 I64)] [(9,(uL [(.row true I64)]))]))]⟩,(lx 4 1 [(3,.pk ⟨9,0,[]⟩ [0,0]),(sP 6 fw),(sP 7 I64),(sP 8 I64)] [(9,(uL [(.row true I64)]))] 9)]⟩
def pR:Ctr:=⟨9,118,(uL [fw]),[],[⟨(uL [(.row true I64)]),[.one],[]⟩],ap1 jV⟩
theorem vz:Lk 1 pR:=ls (C:=vN) rfl aN (by kernel_rfl) fun h=>by kernel_rfl
def pJ:Option (T1q):=
bif (qD 8 8 2) then let x0:LDCe:=(List.replicate 8 (0,0));
some (0,x0,0,0,(-1),(-1),0,0,()) else none
noncomputable def wg:X.Cfg:=⟨E0,[],[],[]⟩
def p5:Ctr:=⟨41,119,[],[],[⟨(uL [I64,(.row true KCe),I64,I64,I64,I64,I64,CW]),[.agg 8],[]⟩],fun h=>pJ⟩
theorem vI:Lk 1 p5:=ls (C:=wg) rfl aN (by kernel_rfl) fun h=>by kernel_rfl
def mC:Option (T1q):=
(pJ).bind fun(x0,x1,x2,x3,x4,x5,x6,x7,_)=>
some (x0,x1,x2,x3,x4,x5,x6,x7,())
noncomputable def vO:X.Cfg:=⟨E0,[p5],[],[]⟩
def mF:Ctr:=⟨18,120,[],[],[⟨(uL [I64,(.row true KCe),I64,I64,I64,I64,I64,CW]),[.agg 8],[]⟩],fun h=>mC⟩
theorem pM:Lk 2 mF:=ls (C:=vO) rfl (aC vI aN) (by kernel_rfl) fun h=>by kernel_rfl
def sc(a0:Int) (a1:Int) (a2:Int):Option (T1q):=
(mC).bind fun(x0,x1,x2,x3,x4,x5,x6,x7,_)=>
(dF x1 0).bind fun x8=>
(dF x1 0).bind fun x9=>
let ac:=(List.modify x1 0 fun e=>(a1,a2));
some (1,ac,a0,x3,x4,x5,x6,x7,())
noncomputable def Am:X.Cfg:=⟨E0,[mF],[],[]⟩
def sI:Ctr:=⟨16,121,[shU I64,.agg (uL [CB,CW])],[],[⟨(uL [I64,(.row true KCe),I64,I64,I64,I64,I64,CW]),[.agg 8],[]⟩],ap3 sc⟩
theorem zR:Lk 3 sI:=ls (C:=Am) rfl (aC pM aN) (by kernel_rfl) fun h=>by kernel_rfl
def ff(a0:Int) (a1:Int) (a2:Int):Option (Bool×Unit):=
bif (decide (a0≥a1)) then (some ((decide (a0≤a2)),())) else
some (false,())
noncomputable def tu:X.Cfg:=⟨E0,[],[],[]⟩
def n5:Ctr:=⟨34,122,(uL [I64,I64,I64]),[],[⟨(uL [.bool]),[.one],[]⟩],ap3 ff⟩
theorem to:Lk 1 n5:=ls (C:=tu) rfl aN (by kernel_rfl) fun h=>by kernel_rfl
def sb(a0:Int) (a1:Int):Option (Bool×Unit):=
some ((decide (a0≤2)),())
noncomputable def Al:X.Cfg:=⟨E0,[],[],[]⟩
def sH:Ctr:=⟨37,123,[.agg (uL [CB,CW])],[],[⟨(uL [.bool]),[.one],[]⟩],ap2 sb⟩
theorem zQ:Lk 1 sH:=ls (C:=Al) rfl aN (by kernel_rfl) fun h=>by kernel_rfl
def nR(a0:Int) (a1:Int):Option (Bool×Unit):=
(sb a0 a1).bind fun(x0,_)=>
some ((!x0),())
noncomputable def tp:X.Cfg:=⟨E0,[sH],[],[]⟩
def nZ:Ctr:=⟨36,124,[.agg (uL [CB,CW])],[],[⟨(uL [.bool]),[.one],[]⟩],ap2 nR⟩
theorem tn:Lk 2 nZ:=ls (C:=tp) rfl (aC zQ aN) (by kernel_rfl) fun h=>by kernel_rfl
def l6:T0f→Option (T0f⊕((Int×Unit)⊕(LDCe×T0c))):=fun(v0,v1,v2,_)=>
bif (decide (v2 < v1)) then ((dV v2).bind fun x0=>
(dF v0 x0).bind fun x1=>
(nR x1.1 x1.2).bind fun(x2,_)=>
bif x2 then (some (.inr (.inl (v2,())))) else
let x3:=(w64 (v2+1));
some (.inl (v0,v1,x3,()))) else
some (.inr (.inr (v0,v1,v2,false,())))
def i8(a0:LDCe):Option (Int×Unit):=
let x0:=(dJ (List.length a0));
(match dQ l6 NN (a0,x0,0,()) with
| none=>none
| some (.inl (x1,_))=>
some (x1,())
| some (.inr (x1,x2,x3,x4,_))=>
some ((-1),()))
noncomputable def nD:X.Cfg:=⟨E0,[nZ],[],[⟨3,0,(qS [(sP 0 eS),(1,.fn 36 []),(sP 7 I64),(sP 8 I64)] []),[(.ret,(qS [(sP 4 I64)] [])),(.exit 0,(qS [(sP 0 eS),(1,.fn 36 []),(sP 7 I64),(sP 8 I64),(sP 9 .bool)] []))]⟩]⟩
def jC:Ctr:=⟨63,125,[shU eS,.fn 36 []],[],[⟨(uL [I64]),[.one],[]⟩],ap1 i8⟩
theorem nu:Lk 3 jC:=ls (C:=nD) rfl (aC tn aN) (by kernel_rfl) fun h=>by kernel_rfl
def ii(a0:LDCe):Option (Bool×Unit):=
(i8 a0).bind fun(x0,_)=>
some ((decide (x0≥0)),())
noncomputable def l9:X.Cfg:=⟨E0,[jC],[],[]⟩
def im:Ctr:=⟨35,126,[shU eS,.fn 36 []],[],[⟨(uL [.bool]),[.one],[]⟩],ap1 ii⟩
theorem l8:Lk 4 im:=ls (C:=l9) rfl (aC nu aN) (by kernel_rfl) fun h=>by kernel_rfl
def pF(a0:Int) (a1:LDCe) (a2:Int) (a3:Int) (a4:Int) (a5:Int) (a6:Int) (a7:Int):Option (Bool×Unit):=
(ff a0 0 4).bind fun(x0,_)=>
bif x0 then (let x1:Int:=(dJ (List.length a1));
bif (x1==8) then ((ii a1).bind fun(x2,_)=>
bif (!x2) then ((ff a2 0 255).bind fun(x3,_)=>
bif x3 then ((ff a3 0 1099511627776).bind fun(x4,_)=>
bif x4 then ((ff a4 (-1) 255).bind fun(x5,_)=>
bif x5 then ((ff a5 (-1) 255).bind fun(x6,_)=>
bif x6 then ((ff a6 0 6).bind fun(x7,_)=>
some (x7,())) else
some (false,())) else
some (false,())) else
some (false,())) else
some (false,())) else
some (false,())) else
some (false,())) else
some (false,())
noncomputable def vM:X.Cfg:=⟨E0,[n5,im],[],[]⟩
def pQ:Ctr:=⟨12,127,[.agg (uL [I64,eS,I64,I64,I64,I64,I64,CW])],[],[⟨(uL [.bool]),[.one],[]⟩],ap8 pF⟩
theorem vy:Lk 5 pQ:=ls (C:=vM) rfl (aC to (aC l8 aN)) (by kernel_rfl) fun h=>by kernel_rfl
def tV(a0:Int) (a1:Int):Option (Int×Unit):=
bif (a1 != 0) then let x0:Int:=(Int.tmod a0 a1);
(bif (decide (x0 < 0)) then (let x1:Int:=(w64 (x0+a1));
some (x1,())) else
some (x0,()):Option (Int×Unit)).bind fun(x1,_)=>
some (x1,()) else none
noncomputable def Cb:X.Cfg:=⟨E0,[],[],[⟨2,0,qE,[(.normal,(qS [(sP 5 I64)] []))]⟩]⟩
def vh:Ctr:=⟨44,128,(uL [I64,I64]),[],[⟨(uL [I64]),[.one],[]⟩],ap2 tV⟩
theorem BU:Lk 1 vh:=ls (C:=Cb) rfl aN (by kernel_rfl) fun h=>by kernel_rfl
def sd(a0:Int) (a1:LDCe) (a2:Int) (a3:Int) (a4:Int) (a5:Int) (a6:Int) (a7:Int) (a8:Int):Option (T02):=
(tV a8 8).bind fun(x0,_)=>
let x1:=(dJ (List.length a1));
bif (decide (x0 < x1)) then ((dV x0).bind fun x2=>
(dF a1 x2).bind fun x3=>
some (x3.1,x3.2,())) else
some (0,0,())
noncomputable def An:X.Cfg:=⟨E0,[vh],[],[]⟩
def sJ:Ctr:=⟨22,129,[.agg (uL [I64,eS,I64,I64,I64,I64,I64,CW]),shU I64],[],[⟨(uL [CB,CW]),[.agg 2],[]⟩],ap9 sd⟩
theorem zS:Lk 2 sJ:=ls (C:=An) rfl (aC BU aN) (by kernel_rfl) fun h=>by kernel_rfl
def nj:Option (Bool×Unit):=
(sc 3 0 7).bind fun(x0,x1,x2,x3,x4,x5,x6,x7,_)=>
(pF x0 x1 x2 x3 x4 x5 x6 x7).bind fun(x8,_)=>
bif x8 then (bif (x2==3) then ((sd x0 x1 x2 x3 x4 x5 x6 x7 0).bind fun(x9,ac,_)=>
bif (ac==7) then ((mC).bind fun(ae,af,ag,ah,ai,aj,ak,am,_)=>
some ((ae==0),())) else
some (false,())) else
some (false,())) else
some (false,())
noncomputable def yQ:X.Cfg:=⟨E0,[sI,pQ,sJ,mF],[],[]⟩
def rp:Ctr:=⟨10,130,[],[],[⟨(uL [.bool]),[.one],[]⟩],fun h=>nj⟩
theorem ya:Lk 6 rp:=ls (C:=yQ) rfl (aC zR (aC vy (aC zS (aC pM aN)))) (by kernel_rfl) fun h=>by kernel_rfl
def gJ:T1S→Option (T1S⊕((Bool×Unit)⊕(Int×LDTh×Int×Int×Bool×T11))):=fun(v0,v1,v2,v3,v4,v5,v6,v7,v8,v9,_)=>
bif (decide (v3 < v2)) then ((dV v3).bind fun x0=>
(dF v1 x0).bind fun x1=>
bif (x1.1 != 1) then (let x2:Int:=(w64 (v3+1));
some (.inl (v0,v1,v2,x2,v4,v5,v6,v7,v8,v9,()))) else
let x2:=(dJ (List.length v9));
bif (decide (v0≥x2)) then (some (.inr (.inl (false,())))) else
(dV v0).bind fun x3=>
(dF v9 x3).bind fun x4=>
(dF v9 x3).bind fun x5=>
bif (x5 != v3) then (some (.inr (.inl (false,())))) else
let x6:=(w64 (v0+1));
let x7:=(w64 (v3+1));
some (.inl (x6,v1,v2,x7,v4,v5,v6,v7,v8,v9,()))) else
some (.inr (.inr (v0,v1,v2,v3,false,v4,v5,v6,v7,v8,v9,())))
def iP(a0:List (Int)):Option (Bool×Unit):=
(j8 a0 0).bind fun(x0,x1,x2,x3,x4,x5,x6,x7,x8,x9,_)=>
(jV x7).bind fun(ac,_)=>
let ae:=(dJ (List.length x7));
(match dQ gJ NN (0,x7,ae,0,x3,x4,x5,x6,x7,ac,()) with
| none=>none
| some (.inl (af,_))=>
some (af,())
| some (.inr (af,ag,ah,ai,aj,ak,am,an,ap,aq,av,_))=>
let ax:=(dJ (List.length av));
bif (af==ax) then ((nj).bind fun(ay,_)=>
some (ay,())) else
some (false,()))
noncomputable def qh:X.Cfg:=⟨E0,[p8,pR,rp],[],[⟨6,0,(qS [(5,.pk ⟨13,0,[]⟩ [0,0]),(sP 6 I64),(sP 19 fw),(sP 20 I64),(sP 21 I64)] [(10,(uL [RI,CW,eS,fq,fw])),(13,(uL [(.row true I64)]))]),[(.ret,(qS [(sP 2 .bool)] [])),(.exit 0,(qS [(5,.pk ⟨13,0,[]⟩ [0,0]),(sP 6 I64),(sP 19 fw),(sP 20 I64),(sP 21 I64),(sP 22 .bool)] [(10,(uL [RI,CW,eS,fq,fw])),(13,(uL [(.row true I64)]))]))]⟩]⟩
def lU:Ctr:=⟨3,131,(uL [RI]),[],[⟨(uL [.bool]),[.one],[]⟩],ap1 iP⟩
theorem k_law10_ThreadReady:Lk 11 lU:=ls (C:=qh) rfl (aC vL (aC vz (aC ya aN))) (by kernel_rfl) fun h=>by kernel_rfl
end Go.Proofs.YtpodeigolpjeeaaGreat
namespace Go.Proofs.YtpodeigolpjeeaaGreat
set_option maxRecDepth 100000
end Go.Proofs.YtpodeigolpjeeaaGreat
namespace Go.Proofs.YtpodeigolpjeeaaGreat
open Go.RowKit
theorem LQ:(Tryz.prog.funcs.all fun fn=>!(fn.name=="runtime.NumGoroutine"))=true:=by kernel_rfl
theorem Ek:o6 Tryz.prog 7:=by
 obtain⟨fn,hf,hb⟩:∃fn,Tryz.prog.funcs[7]?=some fn∧fn.body.isSome=true:=by
  have hs:(match Tryz.prog.funcs[7]? with | some fn=>fn.body.isSome | none=>false)=true:=by kernel_rfl
  cases h:Tryz.prog.funcs[7]? with
  | none=>rw[h] at hs;cases hs
  | some fn=>rw[h] at hs;exact⟨fn,rfl,hs⟩
 obtain⟨c,hc⟩:=Option.isSome_iff_exists.1 hb;refine A7 hf ?_ hc;obtain⟨hlt,he⟩:=Array.getElem?_eq_some_iff.1 hf;have:=Array.all_eq_true.1 LQ 7 hlt;rw[he] at this;simpa using this
def KK(x:Value) (w:World) (e:Ending) (w':World):Prop:=e=.returned (.pointer (some ⟨w.heap.size,0,none⟩))∧w'=w.alloc (.cells #[x,.int .i64 0] 62)
theorem Ke(x:Value) (hx:x.oneCell'=true) (w:World) :
 Calls Tryz.prog 7 #[x] w (KK x w):=by
 cases x
 all_goals first
  | (go_enter Tryz.func7,Tryz.ntmps7
     go_wp2
     go_ret
     exact⟨rfl,rfl⟩)
  | simp[Value.oneCell'] at hx
theorem e0_ok:Hn Tryz.prog E0:=by
 intro f n tm h;simp only[E0] at h;split at h
 ·rename_i e;subst e
  injection h with h
  injection h with h1 h2
  subst h1 h2;refine⟨Ek,fun x hx=>?_,62,fun l2 w hl hone=>?_⟩
  ·simp only[List.mem_cons,List.not_mem_nil,or_false] at hx;rcases hx with hx | hx
   ·injection hx
   ·injection hx with hx;rw[hx];rfl
  ·match l2,hl with
   | [x],_=>exact Ke x (hone x (by simp[bxV])) w
 ·simp at h
def Ok{α:Type}(o:Option α) (Q:α→Prop):Prop:=∃a,o=some a∧Q a
section
variable {α β:Type}
theorem Ok.ret{a:α}{Q:α→Prop}(h:Q a):Ok (some a) Q:=⟨a,rfl,h⟩
theorem Ok.bind{o:Option α}{f:α→Option β}{P:α→Prop}{Q:β→Prop}(h:Ok o P) (h2:∀a,P a→Ok (f a) Q):Ok (o.bind f) Q:=by
 obtain⟨a,rfl,h1⟩:=h;exact h2 a h1
theorem Ok.mono{o:Option α}{P Q:α→Prop}(h:Ok o P) (h2:∀a,P a→Q a):Ok o Q:=by
 obtain⟨a,e,h1⟩:=h;exact⟨a,e,h2 a h1⟩
theorem Ok.cond{c:Bool}{a b:Option α}{Q:α→Prop}(h1:c=true→Ok a Q) (h2:c=false→Ok b Q):Ok (bif c then a else b) Q:=by
 cases c with
 | true=>exact h1 rfl
 | false=>exact h2 rfl
class BP (b:Bool) (P N:outParam Prop):Prop where
 t:b=true→P
 f:b=false→N
instance (priority:=low) bpVar {b:Bool}:BP b (b=true) (b=false):=⟨id,id⟩
instance Mj {p:Prop} {i:Decidable p}:BP (@decide p i) p (¬ p):=⟨of_decide_eq_true,of_decide_eq_false⟩
instance Mw {α:Type} [BEq α] [LawfulBEq α] {a b:α}:BP (a==b) (a=b) (¬ a=b):=⟨eq_of_beq,fun h=>beq_eq_false_iff_ne.1 h⟩
instance Mv {α:Type} [BEq α] [LawfulBEq α] {a b:α}:BP (a != b) (¬ a=b) (a=b):=⟨fun h=>bne_iff_ne.1 h,fun h=>bne_eq_false_iff_eq.1 h⟩
instance Mi {b:Bool} {P N:Prop} [h:BP b P N]:BP (!b) N P:=⟨fun e=>h.f (by simpa using e),fun e=>h.t (by simpa using e)⟩
theorem Ok.cb{c:Bool}{P N:Prop} [h:BP c P N] {a b:Option α}{Q:α→Prop}(h1:P→Ok a Q) (h2:N→Ok b Q):Ok (bif c then a else b) Q:=by
 cases hc:c with
 | true=>exact h1 (h.t hc)
 | false=>exact h2 (h.f hc)
theorem Ok.get{l:List α}{i:Nat}{f:α→Option β}{Q:β→Prop}(h:i < l.length) (h2:∀a,l[i]?=some a→Ok (f a) Q):Ok ((dF l i).bind f) Q:=by
 have e:dF l i=some l[i]:=List.getElem?_eq_getElem h;rw[e];exact h2 _ (List.getElem?_eq_getElem h)
theorem Ok.nat{x:Int}{f:Nat→Option β}{Q:β→Prop}(h:0≤x) (h2:∀n:Nat,x=n→Ok (f n) Q):Ok ((dV x).bind f) Q:=by
 obtain⟨n,rfl⟩:∃n:Nat,x=n:=⟨x.toNat,by omega⟩;exact h2 n rfl
theorem Ok.val{v:α}{f:α→Option β}{Q:β→Prop}(h:∀x,x=v→Ok (f x) Q):Ok (f v) Q:=h v rfl
theorem Ok.need{c:Bool}{a b:Option α}{Q:α→Prop}(hc:c=true) (h1:Ok a Q):Ok (bif c then a else b) Q:=by rw[hc];exact h1
theorem Ok.iter{S T:Type}{f:S→Option (S⊕T)}(P:S→Prop) (R:T→Prop) (m:S→Nat) {n:Nat}{s:S}(hs:P s) (hm:m s < n)
 (h:∀s,P s→Ok (f s) fun r=>match r with | .inl s'=>P s'∧m s' < m s | .inr t=>R t):Ok (dQ f n s) R:=by
 induction n generalizing s with
 | zero=>omega
 | succ n ih=>
  obtain⟨r,e,hr⟩:=h s hs
  cases r with
  | inl s'=>
   obtain⟨t,e2,hq⟩:=ih hr.1 (by have:=hr.2;omega);exact⟨t,by simp only[dQ,e,Option.bind_some];exact e2,hq⟩
  | inr t=>exact⟨t,by simp[dQ,e],hr⟩
theorem Ok.loop{S T:Type}{f:S→Option (S⊕T)}{g:T→Option β}{Q:β→Prop}(P:S→Prop) (R:T→Prop) (m:S→Nat) {n:Nat}{s:S}(hs:P s) (hm:m s < n)
 (h:∀s,P s→Ok (f s) fun r=>match r with | .inl s'=>P s'∧m s' < m s | .inr t=>R t) (hg:∀t,R t→Ok (g t) Q):Ok ((dQ f n s).bind g) Q:=(Ok.iter P R m hs hm h).bind hg
end
theorem dL{x:Int}(h1:-9223372036854775808≤x) (h2:x≤9223372036854775807):w64 x=x:=Hr h1 h2
theorem dH(n:Nat):dV (n:Int)=some n:=rfl
theorem dP(n:Nat):dJ n=(n:Int):=rfl
theorem dK{α:Type}{l:List α}{i:Nat}{a:α}(h:l[i]?=some a):a∈l:=List.mem_of_getElem? h
def W16(x:Int):Prop:=0≤x∧x≤65535
theorem dS{x:Int}(h0:0≤x) (h1:x≤65535):wk .u16 x=x:=by
 unfold wk;rw[xj];omega
theorem dO{x:Int}(h0:-9223372036854775808≤x) (h1:x≤9223372036854775807):wk .i64 x=x:=dL h0 h1
theorem dN{b n m:Nat}(h:b≤1000∧n+m≤1000000):dU b n m=true:=by
 have:(n+m)*b≤1000000*1000:=Nat.mul_le_mul h.2 h.1;simp only[dU,Bool.and_eq_true,decide_eq_true_eq];omega
structure DOk (l:List Int) (k:Int):Prop where
 num:∀x∈l,KM x
 len:l.length≤maxLen
 lo:0≤k
 hi:k≤l.length
theorem DOk.start{l:List Int}(h:∀x∈l,KM x) (hl:l.length≤maxLen):DOk l 0:=⟨h,hl,by omega,by omega⟩
theorem Jf{a b:Int}(ha:KM a) (hb:0 < b) (hb2:b≤9223372036854775807):∃v,iO a b=some (v,())∧0≤v∧v < b:=by
 have hne:(b != 0)=true:=by simp;omega
 have hm:Int.tmod a b < b:=Int.tmod_lt_of_pos a hb
 have hm2:-b < Int.tmod a b:=by
  have:=Int.tmod_lt_of_pos (-a) hb;rw[Int.neg_tmod] at this;omega
 unfold iO;simp only[hne,cond_true];by_cases h:Int.tmod a b < 0
 ·refine⟨Int.tmod a b+b,?_,by omega,by omega⟩;simp only[h,decide_true,cond_true,Option.bind_some];rw[dL (by omega) (by omega)]
 ·refine⟨Int.tmod a b,?_,by omega,hm⟩;simp only[h,decide_false,cond_false,Option.bind_some]
section
variable {β:Type} {l:List Int} {k n:Int} {Q:β→Prop}
theorem K9{a b:Int}{f:Int×Unit→Option β}(ha:KM a) (hb:0 < b) (hb2:b≤9223372036854775807) (K:∀v,0≤v→v < b→Ok (f (v,())) Q):Ok ((iO a b).bind f) Q:=by
 obtain⟨v,e,h0,h1⟩:=Jf ha hb hb2;rw[e];exact K v h0 h1
theorem eY{f:Int×List Int×Int×Unit→Option β}(h:DOk l k) (hn:0 < n) (hn2:n≤9223372036854775807) (K:∀v k',0≤v→v < n→DOk l k'→Ok (f (v,l,k',())) Q):Ok ((dG n l k).bind f) Q:=by
 have hl:=h.len;have hlo:=h.lo;have hhi:=h.hi
 have hmx:maxLen≤9223372036854775807:=by decide
 by_cases hk:k≥(l.length:Int)
 ·have e:dG n l k=some (0,l,k,()):=by unfold dG;simp[dP,hk]
  rw[e];exact K 0 k (by omega) hn h
 ·obtain⟨j,rfl⟩:∃j:Nat,k=j:=⟨k.toNat,by omega⟩
  have hj:j < l.length:=by omega
  obtain⟨v,hv,h0,h1⟩:=Jf (h.num _ (List.getElem_mem hj)) hn hn2
  have e:dG n l j=some (v,l,(j:Int)+1,()):=by
   unfold dG;delta dJ
   try dsimp only
   rw[dL (x:=(j:Int)+1) (by omega) (by omega),dL (x:=(j:Int)+1 - 1) (by omega) (by omega)];rw[show (j:Int)+1 - 1=j by omega,dH];simp only[hk,decide_false,cond_false,Option.bind_some,dF,List.getElem?_eq_getElem hj,xm,hv]
  rw[e];exact K v _ h0 h1 ⟨h.num,hl,by omega,by omega⟩
theorem CH{f:Int×List Int×Int×Unit→Option β}(h:DOk l k) (K:∀v k',0≤v→v≤65535→DOk l k'→Ok (f (v,l,k',())) Q):Ok ((gY l k).bind f) Q:=by
 have hw:Ok (gY l k) fun r=>∃v k',r=(v,l,k',())∧0≤v∧v≤65535∧DOk l k':=by
  unfold gY
  (with_reducible refine eY (by assumption) (by omega) (by omega) (fun v k a b d=>?_);try dsimp only)
  refine Ok.bind (P:=fun r=>∃b,r=(v,b,l,k,())) ?_ ?_
  ·repeat ((with_reducible refine Ok.cb (fun hc=>?_) (fun hc=>?_));· exact Ok.ret ⟨_,rfl⟩)
   exact Ok.ret ⟨_,rfl⟩
  ·rintro _ ⟨b,rfl⟩;dsimp only;refine Ok.cond (fun _=>?_) fun _=>?_
   ·(with_reducible refine eY (by assumption) (by omega) (by omega) (fun v k a b d=>?_);try dsimp only)
    (simp (disch:=omega) only [dL,dS,dO,dP])
    exact Ok.ret ⟨_,_,rfl,by omega,by omega,by assumption⟩
   ·(with_reducible refine Ok.cb (fun hc=>?_) (fun hc=>?_))
    ·(with_reducible refine eY (by assumption) (by omega) (by omega) (fun v k a b d=>?_);try dsimp only)
     (simp (disch:=omega) only [dL,dS,dO,dP])
     exact Ok.ret ⟨_,_,rfl,by omega,by omega,by assumption⟩
    ·(with_reducible refine eY (by assumption) (by omega) (by omega) (fun v k a b d=>?_);try dsimp only)
     (simp (disch:=omega) only [dL,dS,dO,dP])
     exact Ok.ret ⟨_,_,rfl,by omega,by omega,by assumption⟩
 refine hw.bind ?_;rintro _ ⟨v,k',rfl,h0,h1,h2⟩;exact K v k' h0 h1 h2
end
def vm(s:List Int):Prop:=1≤s.length∧s.length≤4∧∀x∈s,1≤x∧x≤32
theorem LN{P:Int→Prop}{a b c:Int}(ha:P a) (hb:P b) (hc:P c):∀x∈[a,b,c],P x:=by
 intro x hx;simp only[List.mem_cons,List.not_mem_nil,or_false] at hx
 rcases hx with rfl | rfl | rfl<;>assumption
theorem HB{l:List Int}{k:Int}(h:DOk l k):Ok (mn l k) fun r=>∃s k',r=(s,l,k',())∧vm s∧DOk l k':=by
 unfold mn
 (with_reducible refine eY (by assumption) (by omega) (by omega) (fun v0 k0 a0 b0 d0=>?_);try dsimp only)
 (simp (disch:=omega) only [dL,dS,dO,dP])
 (with_reducible refine eY (by assumption) (by omega) (by omega) (fun v1 k1 a1 b1 d1=>?_);try dsimp only)
 refine Ok.loop (P:=fun((c,l',k',s,_):Int×List Int×Int×List Int×Unit)=>l'=l∧DOk l k'∧0≤c∧c+s.length≤4∧1≤s.length∧∀x∈s,1≤x∧x≤32)
  (R:=fun((_,_,l',k',s,_):Int×Bool×List Int×Int×List Int×Unit)=>l'=l∧DOk l k'∧vm s) (m:=fun s=>s.1.toNat) ⟨rfl,d1,a1,by simp;omega,by simp,by simp;omega⟩ (by unfold NN;dsimp only;omega) ?_ ?_
 ·rintro⟨c,l',k3,s,_⟩ ⟨rfl,hd3,hc0,hcs,hs1,hs⟩;dsimp only at *;unfold om;dsimp only
  (with_reducible refine Ok.cb (fun hc=>?_) (fun hc=>?_))
  ·(with_reducible refine eY (by assumption) (by omega) (by omega) (fun v2 k2 a2 b2 d2=>?_);try dsimp only)
   (with_reducible refine Ok.nat (by omega) (fun j hj=>?_);try dsimp only)
   have hmem:∀x∈[(6:Int),12,32],6≤x∧x≤32:=LN (by omega) (by omega) (by omega);refine Ok.get (by simp;omega) fun a ha=>?_;have h6:=hmem a (dK ha);refine Ok.get (by simp;omega) fun b hb=>?_;have h7:=hmem b (dK hb)
   (with_reducible refine eY (by assumption) (by omega) (by omega) (fun v3 k3 a3 b3 d3=>?_);try dsimp only)
   (simp (disch:=omega) only [dL,dS,dO,dP])
   refine Ok.need (dN (by simp;omega)) ?_;refine Ok.ret ⟨⟨rfl,by assumption,by omega,?_,?_,?_⟩,?_⟩
   ·simp;omega
   ·simp
   ·intro x hx;simp only[List.append_eq,List.mem_append,List.mem_cons,List.not_mem_nil,or_false] at hx;rcases hx with hx | rfl
    ·exact hs x hx
    ·omega
   ·dsimp only;omega
  ·exact Ok.ret ⟨rfl,hd3,hs1,by dsimp only;omega,hs⟩
 ·rintro⟨a,b,l',k3,s,_⟩ ⟨rfl,hd3,hs⟩;exact Ok.ret ⟨_,_,rfl,hs,hd3⟩
def na(op:Int):Bool:=!(op==18 || op==23 || op==0 || op==24)
def m9(op:Int):Bool:=!(op==18 || op==23 || op==0 || op==24 || op==1 || op==15 || op==19 || op==20 || op==21 || op==22)
def m8(op:Int):Bool:=!(op==18 || op==23 || op==0 || op==24 || op==1 || op==15 || op==19 || op==20 || op==21 || op==22 || op==2 || op==16 || op==17)
def m7(op:Int):Bool:=op==1 || op==15 || op==19 || op==20 || op==21 || op==16 || op==17 || op==18 || op==23
def lk(op:Int):Bool:=op==18 || op==19 || op==20 || op==21
theorem E6{op:Int}(h0:0≤op) (h1:op≤24):iX op=some (na op,m9 op,m8 op,m7 op,()):=by
 obtain⟨n,rfl⟩:∃n:Nat,op=n:=⟨op.toNat,by omega⟩
 have hn:n < 25:=by omega
 have key:∀n:Fin 25,(iX ((n.val:Nat):Int)).map (fun x=>(x.1,x.2.1,x.2.2.1,x.2.2.2.1))=some (na (n.val:Nat),m9 (n.val:Nat),m8 (n.val:Nat),m7 (n.val:Nat)):=by decide
 have:=key ⟨n,hn⟩;dsimp only at this
 cases h:iX (n:Int) with
 | none=>rw[h] at this;cases this
 | some x=>
  obtain⟨a,b,c,d,_⟩:=x;rw[h] at this;simp only[Option.map_some,Option.some.injEq,Prod.mk.injEq] at this;rw[this.1,this.2.1,this.2.2.1,this.2.2.2]
theorem uv(op:Int):gh op=some (lk op,()):=by
 unfold gh lk;cases op==18<;>cases op==19<;>cases op==20<;>cases op==21<;>rfl
structure gM (n m:Int) (i:DIn):Prop where
 op:0≤i.1∧i.1≤24
 a:0≤i.2.1∧i.2.1 < 8∧(na i.1=false→i.2.1=0)
 b:0≤i.2.2.1∧i.2.2.1 < 8∧(m9 i.1=false→i.2.2.1=0)
 c:0≤i.2.2.2.1∧i.2.2.2.1 < 8∧(m8 i.1=false→i.2.2.2.1=0)
 imm:0≤i.2.2.2.2∧i.2.2.2.2≤65535∧(m7 i.1=false→i.2.2.2.2=0)
 lea:i.1=15→i.2.2.2.2 < n
 sys:i.1=23→i.2.2.2.2≤15
 jmp:lk i.1=true→i.2.2.2.2 < m
theorem ins_mk{n m o a b c i:Int}(ho:0≤o∧o≤24) (ha:0≤a∧a < 8) (hb:0≤b∧b < 8) (hc:0≤c∧c < 8) (hi:0≤i∧i≤65535) (hA:na o=true∨a=0) (hB:m9 o=true∨b=0) (hC:m8 o=true∨c=0) (hI:m7 o=true∨i=0)
 (hl:o=15→i < n) (hs:o=23→i≤15) (hj:lk o=true→i < m):gM n m (o,a,b,c,i):=
 ⟨ho,⟨ha.1,ha.2,fun h=>hA.elim (fun h'=>by rw[show na o=false from h] at h';cases h') id⟩,⟨hb.1,hb.2,fun h=>hB.elim (fun h'=>by rw[show m9 o=false from h] at h';cases h') id⟩,
  ⟨hc.1,hc.2,fun h=>hC.elim (fun h'=>by rw[show m8 o=false from h] at h';cases h') id⟩,⟨hi.1,hi.2,fun h=>hI.elim (fun h'=>by rw[show m7 o=false from h] at h';cases h') id⟩,hl,hs,hj⟩
theorem zO{n m r v:Int}(h:0≤r∧r < 8) (hv:0≤v∧v≤65535):gM n m (1,r,0,0,v):=ins_mk (by decide) h (by decide) (by decide) hv (.inl (by decide)) (.inr rfl) (.inr rfl) (.inl (by decide)) (by omega) (by omega) (fun h=>absurd h (by decide))
theorem BG{n m r v:Int}(h:0≤r∧r < 8) (hv:0≤v∧v < 8):gM n m (2,r,v,0,0):=ins_mk (by decide) h hv (by decide) (by decide) (.inl (by decide)) (.inl (by decide)) (.inr rfl) (.inr rfl) (by omega) (by omega) (fun h=>absurd h (by decide))
theorem tW{n m v:Int}(hv:0≤v∧v≤15):gM n m (23,0,0,0,v):=ins_mk (by decide) (by decide) (by decide) (by decide) (by omega) (.inr rfl) (.inr rfl) (.inr rfl) (.inl (by decide)) (by omega) (by omega) (fun h=>absurd h (by decide))
theorem BK{n m r v:Int}(h:0≤r∧r < 8) (hv:0≤v∧v < n) (hn:n≤4):gM n m (15,r,0,0,v):=ins_mk (by decide) h (by decide) (by decide) (by omega) (.inl (by decide)) (.inr rfl) (.inr rfl) (.inl (by decide)) (by omega) (by omega) (fun h=>absurd h (by decide))
theorem Fb{n m o a b v:Int}(ho:o=16∨o=17) (h:0≤a∧a < 8) (hb:0≤b∧b < 8) (hv:0≤v∧v≤65535):gM n m (o,a,b,0,v):=by
 rcases ho with rfl | rfl
 ·exact ins_mk (by decide) h hb (by decide) hv (.inl (by decide)) (.inl (by decide)) (.inr rfl) (.inl (by decide)) (by omega) (by omega) (fun h=>absurd h (by decide))
 ·exact ins_mk (by decide) h hb (by decide) hv (.inl (by decide)) (.inl (by decide)) (.inr rfl) (.inl (by decide)) (by omega) (by omega) (fun h=>absurd h (by decide))
theorem BD{n m o a b c:Int}(ho:3≤o∧o≤14) (h:0≤a∧a < 8) (hb:0≤b∧b < 8) (hc:0≤c∧c < 8):gM n m (o,a,b,c,0):=
 ins_mk (by omega) h hb hc (by decide) (.inl (by unfold na;simp;omega)) (.inl (by unfold m9;simp;omega)) (.inl (by unfold m8;simp;omega)) (.inr rfl) (by omega) (by omega) (fun h=>by unfold lk at h;simp at h;omega)
theorem Kl{n m v:Int}(hv:0≤v∧v≤65535) (hm:v < m):gM n m (18,0,0,0,v):=ins_mk (by decide) (by decide) (by decide) (by decide) hv (.inr rfl) (.inr rfl) (.inr rfl) (.inl (by decide)) (by omega) (by omega) (fun _=>hm)
theorem J2{n m:Int}:gM n m (24,0,0,0,0):=ins_mk (by decide) (by decide) (by decide) (by decide) (by decide) (.inr rfl) (.inr rfl) (.inr rfl) (.inr rfl) (by omega) (by omega) (fun h=>absurd h (by decide))
theorem gM.mono{n m m':Int}{i:DIn}(h:gM n m i) (hm:m≤m'):gM n m' i:=⟨h.op,h.a,h.b,h.c,h.imm,h.lea,h.sys,fun hj=>by have:=h.jmp hj;omega⟩
theorem BW{n m a v:Int}(h:0≤a∧a < 8) (hv:0≤v∧v≤65535) (hm:v < m):gM n m (20,a,0,0,v):=ins_mk (by decide) h (by decide) (by decide) hv (.inl (by decide)) (.inr rfl) (.inr rfl) (.inl (by decide)) (by omega) (by omega) (fun _=>hm)
theorem Iv{n most k:Int}{l:List Int}(h:DOk l k) (hn:1≤n∧n≤4) (hm:1≤most∧most≤100):Ok (mo n most l k) fun r=>∃o a b c i k',r=(o,a,b,c,i,l,k',())∧gM n most (o,a,b,c,i)∧DOk l k':=by
 unfold mo
 (with_reducible refine eY (by assumption) (by omega) (by omega) (fun v0 k0 a0 b0 d0=>?_);try dsimp only)
 rw[E6 (by omega) (by omega)];simp only[Option.bind_some];refine Ok.bind (P:=fun r=>∃x k',r=(n,most,l,k',0,0,0,0,0,v0,x,0,0,0,na v0,m9 v0,m8 v0,m7 v0,())∧0≤x∧x < 8∧(na v0=false→x=0)∧DOk l k') ?_ ?_
 ·refine Ok.cond (fun hc=>?_) fun hc=>Ok.ret ⟨_,_,rfl,by omega,by omega,fun _=>rfl,d0⟩
  (with_reducible refine eY (by assumption) (by omega) (by omega) (fun v1 k1 a1 b1 d1=>?_);try dsimp only)
  exact Ok.ret ⟨_,_,rfl,a1,b1,(fun hh=>by rw[hc] at hh;cases hh),d1⟩
 rintro _ ⟨xa,k1,rfl,ha0,ha1,ha2,d1⟩;dsimp only;refine Ok.bind (P:=fun r=>∃x k',r=(n,most,l,k',0,0,0,0,0,v0,xa,x,0,0,na v0,m9 v0,m8 v0,m7 v0,())∧0≤x∧x < 8∧(m9 v0=false→x=0)∧DOk l k') ?_ ?_
 ·refine Ok.cond (fun hc=>?_) fun hc=>Ok.ret ⟨_,_,rfl,by omega,by omega,fun _=>rfl,d1⟩
  (with_reducible refine eY (by assumption) (by omega) (by omega) (fun v2 k2 a2 b2 d2=>?_);try dsimp only)
  exact Ok.ret ⟨_,_,rfl,a2,b2,(fun hh=>by rw[hc] at hh;cases hh),d2⟩
 rintro _ ⟨xb,k2,rfl,hb0,hb1,hb2,d2⟩;dsimp only;refine Ok.bind (P:=fun r=>∃x k',r=(n,most,l,k',0,0,0,0,0,v0,xa,xb,x,0,na v0,m9 v0,m8 v0,m7 v0,())∧0≤x∧x < 8∧(m8 v0=false→x=0)∧DOk l k') ?_ ?_
 ·refine Ok.cond (fun hc=>?_) fun hc=>Ok.ret ⟨_,_,rfl,by omega,by omega,fun _=>rfl,d2⟩
  (with_reducible refine eY (by assumption) (by omega) (by omega) (fun v3 k3 a3 b3 d3=>?_);try dsimp only)
  exact Ok.ret ⟨_,_,rfl,a3,b3,(fun hh=>by rw[hc] at hh;cases hh),d3⟩
 rintro _ ⟨xc,k3,rfl,hc0,hc1,hc2,d3⟩;dsimp only;rw[uv];simp only[Option.bind_some];refine Ok.bind (P:=fun r=>∃x k',r=(l,k',0,0,0,0,0,v0,xa,xb,xc,x,())∧0≤x∧x≤65535∧(m7 v0=false→x=0)∧(v0=15→x < n)∧(v0=23→x≤15)∧(lk v0=true→x < most)∧DOk l k') ?_ ?_
 ·refine Ok.cond (fun hj=>?_) fun hj=>?_
  ·(with_reducible refine eY (by assumption) (by omega) (by omega) (fun v4 k4 a4 b4 d4=>?_);try dsimp only)
   have hj:lk v0=true:=hj
   have hne:v0≠15∧v0≠23:=by constructor<;>(rintro rfl;exact absurd hj (by decide))
   exact Ok.ret ⟨_,_,rfl,a4,by omega,(fun hh=>by
    have:m7 v0=true:=by unfold lk at hj;unfold m7;simp at hj ⊢;omega
    rw[this] at hh;cases hh),by omega,by omega,fun _=>b4,d4⟩
  ·(with_reducible refine Ok.cb (fun hc5=>?_) (fun hc5=>?_))
   ·subst hc5
    (with_reducible refine eY (by assumption) (by omega) (by omega) (fun v4 k4 a4 b4 d4=>?_);try dsimp only)
    exact Ok.ret ⟨_,_,rfl,a4,by omega,fun hh=>absurd hh (by decide),by omega,by omega,fun hh=>absurd hh (by decide),d4⟩
   ·(with_reducible refine Ok.cb (fun hc6=>?_) (fun hc6=>?_))
    ·subst hc6
     (with_reducible refine eY (by assumption) (by omega) (by omega) (fun v4 k4 a4 b4 d4=>?_);try dsimp only)
     exact Ok.ret ⟨_,_,rfl,a4,by omega,fun hh=>absurd hh (by decide),by omega,by omega,fun hh=>absurd hh (by decide),d4⟩
    ·refine Ok.cond (fun hu=>?_) fun hu=>?_
     ·(with_reducible refine CH (by assumption) (fun v4 k4 a4 b4 d4=>?_);try dsimp only)
      (simp (disch:=omega) only [dL,dS,dO,dP])
      exact Ok.ret ⟨_,_,rfl,a4,by omega,(fun hh=>by rw[hu] at hh;cases hh),by omega,by omega,(fun hh=>by rw[show lk v0=false from hj] at hh;cases hh),d4⟩
     ·exact Ok.ret ⟨_,_,rfl,by omega,by omega,fun _=>rfl,by omega,by omega,(fun hh=>by rw[show lk v0=false from hj] at hh;cases hh),d3⟩
 rintro _ ⟨xi,k4,rfl,hi0,hi1,hi2,hi3,hi4,hi5,d4⟩;exact Ok.ret ⟨_,_,_,_,_,_,rfl,⟨⟨a0,by dsimp only;omega⟩,⟨ha0,ha1,ha2⟩,⟨hb0,hb1,hb2⟩,⟨hc0,hc1,hc2⟩,⟨hi0,hi1,hi2⟩,hi3,hi4,hi5⟩,d4⟩
theorem Ok.getP{α β:Type}{l:List α}{i:Nat}{f:α→Option β}{Q:β→Prop}(P:α→Prop) (h:i < l.length) (hP:∀x∈l,P x) (h2:∀a,P a→Ok (f a) Q):Ok ((dF l i).bind f) Q:=Ok.get h fun a ha=>h2 a (hP a (dK ha))
theorem dX{α:Type}{P:α→Prop}:∀x∈([]:List α),P x:=fun _ h=>by cases h
theorem all_cons{α:Type}{P:α→Prop}{a:α}{l:List α}(h:P a) (h2:∀x∈l,P x):∀x∈a :: l,P x:=fun x hx=>by
 rcases List.mem_cons.1 hx with rfl | hx
 ·exact h
 ·exact h2 x hx
theorem Lb(a b:Int):gX a b=some (1,a,0,0,b,()):=rfl
theorem K8(a b:Int):lb a b=some (2,a,b,0,0,()):=rfl
theorem I9(a:Int):gn a=some (23,0,0,0,a,()):=rfl
theorem Mf{x:Int}(h:1≤x):1≤mmR false 5 x∧mmR false 5 x≤5:=by
 unfold mmR;simp only[Bool.false_eq_true,if_false];split<;>omega
def DH(n at_:Int) (l:List Int) (r:List DIn×List Int×Int×Unit):Prop:=∃xs k',r=(xs,l,k',())∧1≤xs.length∧xs.length≤6∧(∀i∈xs,gM n (at_+xs.length) i)∧DOk l k'
theorem xz{n at_:Int}{l:List Int}{xs:List DIn}{k:Int}(h1:1≤xs.length∧xs.length≤6) (h2:∀i∈xs,gM n (at_+xs.length) i) (h3:DOk l k):Ok (some (xs,l,k,())) (DH n at_ l):=Ok.ret ⟨xs,k,rfl,h1.1,h1.2,h2,h3⟩
theorem Kc{s l:List Int}{at_ k:Int}(h:DOk l k) (hs:vm s) (ha:0≤at_∧at_≤99):Ok (nk s (at_+1) at_ l k) (DH s.length at_ l):=by
 obtain⟨hs1,hs4,hsz⟩:=hs
 have hn:1≤(s.length:Int)∧(s.length:Int)≤4:=by omega
 unfold nk;delta dJ;simp only[Lb,K8,I9,Option.bind_some]
 (with_reducible refine eY (by assumption) (by omega) (by omega) (fun vr kr ar br dr=>?_);try dsimp only)
 refine Ok.nat (by omega) fun j hj=>?_;refine Ok.getP (fun a=>1≤a∧a≤32) (by omega) hsz fun z hz=>?_
 (simp (disch:=omega) only [dL,dS,dO,dP])
 have h5:=Mf (x:=z+1) (by omega);generalize mmR false 5 (z+1)=mm at h5
 (with_reducible refine eY (by assumption) (by omega) (by omega) (fun vu ku au bu du=>?_);try dsimp only)
 (with_reducible refine eY (by assumption) (by omega) (by omega) (fun vw kw aw bw dw=>?_);try dsimp only)
 iterate 19
  (with_reducible refine Ok.cb (fun hcc=>?_) (fun hcc=>?_))
  ·repeat (first | (simp (disch:=omega) only [dL,dS,dO,dP]) | (with_reducible refine eY (by assumption) (by omega) (by omega) (fun v k a b d=>?_);try dsimp only) | (with_reducible refine CH (by assumption) (fun v k a b d=>?_);try dsimp only) | (with_reducible refine Ok.nat (by omega) (fun j hj=>?_);try dsimp only) | ((with_reducible first | refine Ok.getP (fun a=>1≤a∧a≤32) (by omega) (by assumption) (fun e he=>?_) | refine Ok.getP (fun a=>3≤a∧a≤14) (by simp only[List.length_cons,List.length_nil];omega) (by (first | exact (all_cons (by omega) (all_cons (by omega) dX)) | exact (all_cons (by omega) (all_cons (by omega) (all_cons (by omega) dX))) | exact (all_cons (by omega) (all_cons (by omega) (all_cons (by omega) (all_cons (by omega) (all_cons (by omega) (all_cons (by omega) (all_cons (by omega) (all_cons (by omega) dX)))))))))) (fun e he=>?_) | refine Ok.getP (fun a=>0≤a∧a≤15) (by simp only[List.length_cons,List.length_nil];omega) (by (first | exact (all_cons (by omega) (all_cons (by omega) dX)) | exact (all_cons (by omega) (all_cons (by omega) (all_cons (by omega) dX))) | exact (all_cons (by omega) (all_cons (by omega) (all_cons (by omega) (all_cons (by omega) (all_cons (by omega) (all_cons (by omega) (all_cons (by omega) (all_cons (by omega) dX)))))))))) (fun e he=>?_) | refine Ok.getP (fun a=>1≤a∧a≤100) (by simp only[List.length_cons,List.length_nil];omega) (by (first | exact (all_cons (by omega) (all_cons (by omega) dX)) | exact (all_cons (by omega) (all_cons (by omega) (all_cons (by omega) dX))) | exact (all_cons (by omega) (all_cons (by omega) (all_cons (by omega) (all_cons (by omega) (all_cons (by omega) (all_cons (by omega) (all_cons (by omega) (all_cons (by omega) dX)))))))))) (fun e he=>?_));try dsimp only) | (with_reducible refine Ok.need (dN (by first | omega | simp)) ?_;try dsimp only) | (refine Ok.getP (fun(a:List DIn)=>(1≤a.length∧a.length≤6)∧∀i∈a,gM s.length (at_+a.length) i) (by simp only[List.length_cons,List.length_nil];omega) (all_cons ⟨by simp,by ((repeat' (first | exact dX | refine all_cons ?_ ?_ | exact zO (by omega) (by omega) | exact BG (by omega) (by omega) | exact tW (by omega) | exact BK (by omega) (by omega) (by omega) | exact Fb (by omega) (by omega) (by omega) (by omega) | exact BD (by omega) (by omega) (by omega) (by omega) | exact BW (by omega) (by omega) (by simp only[List.length_cons,List.length_nil];omega)));done)⟩ (all_cons ⟨by simp,by ((repeat' (first | exact dX | refine all_cons ?_ ?_ | exact zO (by omega) (by omega) | exact BG (by omega) (by omega) | exact tW (by omega) | exact BK (by omega) (by omega) (by omega) | exact Fb (by omega) (by omega) (by omega) (by omega) | exact BD (by omega) (by omega) (by omega) (by omega) | exact BW (by omega) (by omega) (by simp only[List.length_cons,List.length_nil];omega)));done)⟩ dX)) (fun e he=>?_);try dsimp only))
   first
    | exact xz he.1 he.2 (by assumption)
    | (refine xz (by simp) ?_ (by assumption);try simp only[List.append_eq,List.cons_append,List.nil_append]
       ((repeat' (first | exact dX | refine all_cons ?_ ?_ | exact zO (by omega) (by omega) | exact BG (by omega) (by omega) | exact tW (by omega) | exact BK (by omega) (by omega) (by omega) | exact Fb (by omega) (by omega) (by omega) (by omega) | exact BD (by omega) (by omega) (by omega) (by omega) | exact BW (by omega) (by omega) (by simp only[List.length_cons,List.length_nil];omega)));done))
 refine (Iv (by assumption) hn (by omega)).bind ?_;rintro _ ⟨o,a,b,c,i,k',rfl,hi,hd⟩;exact xz (by simp) (all_cons (hi.mono (by simp)) dX) hd
theorem ir{α:Type}{P:α→Prop}{l m:List α}(h:∀x∈l,P x) (h2:∀x∈m,P x):∀x∈List.append l m,P x:=fun x hx=>(List.mem_append.1 (show x∈l++m from hx)).elim (h x) (h2 x)
theorem eJ{α:Type}(l m:List α):(List.append l m).length=l.length+m.length:=List.length_append
theorem mZ{l:List Int}{k n:Int}(h:DOk l k) (hn:0≤n∧n≤1000):Ok (fu n l k) fun r=>∃ws k',r=(ws,l,k',())∧(ws.length:Int)≤n∧(∀w∈ws,W16 w)∧DOk l k':=by
 unfold fu
 (simp (disch:=omega) only [dL,dS,dO,dP])
 (with_reducible refine eY (by assumption) (by omega) (by omega) (fun v0 k0 a0 b0 d0=>?_);try dsimp only)
 refine Ok.loop (P:=fun((c,l',k',s,_):Int×List Int×Int×List Int×Unit)=>l'=l∧DOk l k'∧0≤c∧c+s.length≤n∧∀x∈s,W16 x)
  (R:=fun((_,_,l',k',s,_):Int×Bool×List Int×Int×List Int×Unit)=>l'=l∧DOk l k'∧(s.length:Int)≤n∧∀x∈s,W16 x) (m:=fun s=>s.1.toNat) ⟨rfl,d0,a0,by simp;omega,dX⟩ (by unfold NN;dsimp only;omega) ?_ ?_
 ·rintro⟨c,l',k3,s,_⟩ ⟨rfl,hd3,hc0,hcs,hs⟩;dsimp only at *;unfold ol;dsimp only
  (with_reducible refine Ok.cb (fun hcc=>?_) (fun hcc=>?_))
  ·(with_reducible refine CH (by assumption) (fun v1 k1 a1 b1 d1=>?_);try dsimp only)
   refine Ok.need (dN (by simp;omega)) ?_
   (simp (disch:=omega) only [dL,dS,dO,dP])
   exact Ok.ret ⟨⟨rfl,by assumption,by omega,by rw[eJ];simp;omega,ir hs (all_cons ⟨a1,b1⟩ dX)⟩,by dsimp only;omega⟩
  ·exact Ok.ret ⟨rfl,hd3,by dsimp only;omega,hs⟩
 ·rintro⟨a,b,l',k3,s,_⟩ ⟨rfl,hd3,hs,hw⟩;exact Ok.ret ⟨_,_,rfl,hs,hw,hd3⟩
structure jL (code:List DIn) (s:List Int) (d:List (List Int)):Prop where
 sz:vm s
 len:d.length=s.length
 fit:∀(j:Nat) x n,d[j]?=some x→s[j]?=some n→(x.length:Int)≤n
 num:∀x∈d,∀w∈x,W16 w
 clen:1≤code.length∧code.length≤64
 ins:∀i∈code,gM s.length code.length i
theorem Dm{code:List DIn}{s:List Int}{d:List (List Int)}{l:List Int}{k:Int}(hp:jL code s d) :
 Ok (dQ fv NN ((code.length:Int),0,l,k,(),(),(),code,s,d,())) fun r=>∃a b c,r=(a,b,c,l,k,(),(),(),code,s,d,()):=by
 have:=Ok.loop (f:=fv) (n:=NN) (g:=fun t=>some t) (Q:=fun r=>∃a b c,r=(a,b,c,l,k,(),(),(),code,s,d,())) (s:=((code.length:Int),0,l,k,(),(),(),code,s,d,()))
  (P:=fun s'=>∃i:Int,s'=((code.length:Int),i,l,k,(),(),(),code,s,d,())∧0≤i∧i≤code.length) (R:=fun r=>∃a b c,r=(a,b,c,l,k,(),(),(),code,s,d,())) (m:=fun s=>(s.1 - s.2.1).toNat) ⟨0,rfl,by omega,by omega⟩ (by unfold NN;dsimp only;have:=hp.clen;omega) ?_ (fun t ht=>Ok.ret ht)
 ·obtain⟨a,e,h⟩:=this;refine⟨a,?_,h⟩
  cases hl:dQ fv NN ((code.length:Int),0,l,k,(),(),(),code,s,d,()) with
  | none=>rw[hl] at e;cases e
  | some x=>rw[hl] at e;exact e
 ·rintro _ ⟨i,rfl,hi0,hi1⟩;unfold fv;dsimp only;have hc:=hp.clen
  (with_reducible refine Ok.cb (fun hcc=>?_) (fun hcc=>?_))
  ·refine Ok.bind (P:=fun r=>r=((code.length:Int),i,l,k,(),(),(),code,s,d,())) ?_ ?_
   ·(with_reducible refine Ok.nat (by omega) (fun j hj=>?_);try dsimp only)
    refine Ok.get (by omega) fun x hx=>?_;have hin:=hp.ins x (dK hx);rw[uv];simp only[Option.bind_some];refine Ok.cond (fun hjp=>?_) fun _=>Ok.ret rfl;refine Ok.nat (by omega) fun j2 hj2=>?_;refine Ok.get (by omega) fun y hy=>?_
    have hjj:j2=j:=by omega
    subst hjj;rw[hx] at hy
    injection hy with hy
    subst hy;have:=hin.jmp hjp;refine Ok.cond (fun hcc=>?_) (fun hcc=>?_)
    ·have h9:(x.2.2.2.2:Int)≥(code.length:Int):=of_decide_eq_true hcc;omega
    ·exact Ok.ret rfl
   ·rintro _ rfl;dsimp only
    (simp (disch:=omega) only [dL,dS,dO,dP])
    exact Ok.ret ⟨⟨i+1,rfl,by omega,by omega⟩,by dsimp only;omega⟩
  ·exact Ok.ret ⟨_,_,_,rfl⟩
theorem D9{l:List Int}{k:Int}(h:DOk l k):Ok (j6 l k) fun r=>∃code s d k',r=(code,s,d,l,k',())∧jL code s d∧DOk l k':=by
 unfold j6;refine (HB h).bind ?_;rintro _ ⟨s,k1,rfl,hs,hd⟩;obtain⟨hs1,hs4,hsz⟩:=id hs;dsimp only;delta dJ
 try dsimp only
 refine Ok.loop (P:=fun s'=>∃k' d,s'=((s.length:Int),(d.length:Int),l,k',(),(),(),(),s,d,())∧DOk l k'∧d.length≤s.length∧(∀(j:Nat) x n,d[j]?=some x→s[j]?=some n→(x.length:Int)≤n)∧∀x∈d,∀w∈x,W16 w)
  (R:=fun r=>∃a b c k' d,r=(a,b,c,l,k',(),(),(),(),s,d,())∧DOk l k'∧d.length=s.length∧(∀(j:Nat) x n,d[j]?=some x→s[j]?=some n→(x.length:Int)≤n)∧∀x∈d,∀w∈x,W16 w)
  (m:=fun s=>(s.1 - s.2.1).toNat) ⟨k1,[],rfl,hd,by simp,by simp,dX⟩ (by unfold NN;dsimp only;omega) ?_ ?_
 ·rintro _ ⟨k',d,rfl,hd',hdl,hfit,hnum⟩;unfold mN;dsimp only
  (with_reducible refine Ok.cb (fun hcc=>?_) (fun hcc=>?_))
  ·(with_reducible refine Ok.nat (by omega) (fun j hj=>?_);try dsimp only)
   refine Ok.get (by omega) fun x hx=>?_;refine Ok.get (by omega) fun y hy=>?_
   have hj':j=d.length:=by omega
   subst hj';have hy2:=hsz y (dK hy);refine (mZ hd' ⟨by omega,by omega⟩).bind ?_;rintro _ ⟨ws,k2,rfl,hwl,hww,hd2⟩;dsimp only;refine Ok.need (dN (by simp;omega)) ?_
   (simp (disch:=omega) only [dL,dS,dO,dP])
   refine Ok.ret ⟨⟨k2,List.append d [ws],by rw[eJ];simp,hd2,by rw[eJ];simp;omega,?_,ir hnum (all_cons hww dX)⟩,by dsimp only;omega⟩;intro i x n hx hn;rw[show List.append d [ws]=d++[ws] from rfl,List.getElem?_append] at hx;split at hx
   ·exact hfit i x n hx hn
   ·rename_i hge
    have:i - d.length=0:=by
     rcases Nat.eq_zero_or_pos (i - d.length) with h | h
     ·exact h
     ·rw[List.getElem?_eq_none (by simp;omega)] at hx;cases hx
    have hi:i=d.length:=by omega
    subst hi;simp at hx;subst hx;rw[hy] at hn
    injection hn with hn
    omega
  ·exact Ok.ret ⟨_,_,_,_,_,rfl,hd',by omega,hfit,hnum⟩
 rintro _ ⟨a,b,c,k2,d,rfl,hd2,hdl,hfit,hnum⟩;dsimp only
 (with_reducible refine eY (by assumption) (by omega) (by omega) (fun v0 k0 a0 b0 d0=>?_);try dsimp only)
 (simp (disch:=omega) only [dL,dS,dO,dP])
 refine Ok.loop (P:=fun s'=>∃i k' code,s'=(i,l,k',(),(),(),code,s,d,())∧0≤i∧i≤12∧DOk l k'∧code.length≤62∧∀i∈code,gM s.length code.length i)
  (R:=fun r=>∃a b k' code,r=(a,b,l,k',(),(),(),code,s,d,())∧DOk l k'∧code.length≤62∧∀i∈code,gM s.length code.length i)
  (m:=fun s=>s.1.toNat) ⟨_,_,[],rfl,by omega,by omega,d0,by simp,dX⟩ (by unfold NN;dsimp only;omega) ?_ ?_
 ·rintro _ ⟨i,k',code,rfl,hi0,hi1,hd',hcl,hins⟩;unfold mM;dsimp only
  (with_reducible refine Ok.cb (fun hcc=>?_) (fun hcc=>?_))
  ·refine Ok.bind (P:=fun r=>∃k' code,r=(i,l,k',(),(),(),code,s,d,())∧DOk l k'∧code.length≤62∧∀i∈code,gM s.length code.length i) ?_ ?_
   ·(simp (disch:=omega) only [dL,dS,dO,dP])
    refine (Kc hd' hs ⟨by omega,by omega⟩).bind ?_;rintro _ ⟨xs,k3,rfl,hx1,hx6,hxs,hd3⟩;dsimp only
    (simp (disch:=omega) only [dL,dS,dO,dP])
    (with_reducible refine Ok.cb (fun hcc=>?_) (fun hcc=>?_))
    ·refine Ok.need (dN (by omega)) ?_;refine Ok.ret ⟨_,_,rfl,hd3,by rw[eJ];omega,?_⟩;rw[eJ];exact ir (fun i hi=>(hins i hi).mono (by omega)) (fun i hi=>(hxs i hi).mono (by omega))
    ·exact Ok.ret ⟨_,_,rfl,hd3,hcl,hins⟩
   ·rintro _ ⟨k3,code2,rfl,hd3,hcl2,hins2⟩;dsimp only
    (simp (disch:=omega) only [dL,dS,dO,dP])
    exact Ok.ret ⟨⟨_,_,_,rfl,by omega,by omega,hd3,hcl2,hins2⟩,by dsimp only;omega⟩
  ·exact Ok.ret ⟨_,_,_,_,rfl,hd',hcl,hins⟩
 rintro _ ⟨a,b,k3,code,rfl,hd3,hcl,hins⟩;dsimp only;refine Ok.bind (P:=fun r=>∃k' code,r=(l,k',(),(),(),code,s,d,())∧DOk l k'∧code.length≤63∧∀i∈code,gM s.length (code.length+1) i) ?_ ?_
 ·(with_reducible refine eY (by assumption) (by omega) (by omega) (fun v1 k1 a1 b1 d1=>?_);try dsimp only)
  (with_reducible refine Ok.cb (fun hcc=>?_) (fun hcc=>?_))
  ·(simp (disch:=omega) only [dL,dS,dO,dP])
   (with_reducible refine eY (by assumption) (by omega) (by omega) (fun v2 k2 a2 b2 d2=>?_);try dsimp only)
   refine Ok.need (dN (by simp;omega)) ?_;refine Ok.ret ⟨_,_,rfl,d2,by rw[eJ];simp;omega,?_⟩;rw[eJ];exact ir (fun i hi=>(hins i hi).mono (by simp;omega)) (all_cons (Kl (by omega) (by simp;omega)) dX)
  ·(with_reducible refine Ok.cb (fun hcc=>?_) (fun hcc=>?_))
   ·refine Ok.need (dN (by simp;omega)) ?_;refine Ok.ret ⟨_,_,rfl,d1,by rw[eJ];simp;omega,?_⟩;rw[eJ];exact ir (fun i hi=>(hins i hi).mono (by simp;omega)) (all_cons J2 dX)
   ·exact Ok.ret ⟨_,_,rfl,d1,by omega,fun i hi=>(hins i hi).mono (by omega)⟩
 rintro _ ⟨k4,code2,rfl,hd4,hcl2,hins2⟩;dsimp only
 (with_reducible refine eY (by assumption) (by omega) (by omega) (fun v3 k3 a3 b3 d3=>?_);try dsimp only)
 simp only[Lb,I9,Option.bind_some];refine Ok.need (dN (by simp;omega)) ?_;simp only[eJ];refine Ok.cond (fun hc=>?_) fun _=>?_
 ·have hall:∀i∈List.append code2 [(1,0,0,0,v3),(23,0,0,0,0)],gM s.length (code2.length+1) i:=ir hins2 (all_cons (zO (by omega) (by omega)) (all_cons (tW (by omega)) dX));simp only[decide_eq_true_eq] at hc
  have hcn:(code2.length:Int)+2 > 64:=by
   have:((code2.length + [((1:Int),(0:Int),(0:Int),(0:Int),v3),(23,0,0,0,0)].length:Nat):Int) > 64:=hc;simpa using this
  have h63:code2.length=63:=by omega
  refine Ok.need (by rw[h63];rfl) ?_
  have hlen:(mI (List.append code2 [((1:Int),(0:Int),(0:Int),(0:Int),v3),(23,0,0,0,0)]) 0 (Nat.sub 64 0)).length=64:=by
   unfold mI;rw[List.length_take,List.drop_zero,eJ,h63];rfl
  have hp:jL (mI (List.append code2 [((1:Int),(0:Int),(0:Int),(0:Int),v3),(23,0,0,0,0)]) 0 (Nat.sub 64 0)) s d:=by
   refine⟨hs,hdl,hfit,hnum,by rw[hlen];decide,fun i hi=>?_⟩;rw[hlen];refine (hall i ?_).mono (by omega);unfold mI at hi;exact List.mem_of_mem_drop (List.mem_of_mem_take hi)
  refine (Dm (l:=l) (k:=_) hp).bind ?_;rintro _ ⟨a,b,c,rfl⟩;exact Ok.ret ⟨_,_,_,_,rfl,hp,d3⟩
 ·have hp:jL (List.append code2 [(1,0,0,0,v3),(23,0,0,0,0)]) s d:=by
   refine⟨hs,hdl,hfit,hnum,?_,?_⟩
   ·rw[eJ];rename_i hc;have hcn:¬ ((code2.length + [((1:Int),(0:Int),(0:Int),(0:Int),v3),(23,0,0,0,0)].length:Nat):Int) > 64:=of_decide_eq_false hc;simp only[List.length_cons,List.length_nil] at hcn ⊢;omega
   ·rw[eJ];exact ir (fun i hi=>(hins2 i hi).mono (by simp)) (all_cons (zO (by omega) (by omega)) (all_cons (tW (by omega)) dX))
  have hf:=Dm (l:=l) (k:=k3) hp;rw[eJ] at hf;refine hf.bind ?_;rintro _ ⟨a,b,c,rfl⟩;exact Ok.ret ⟨_,_,_,_,rfl,hp,d3⟩
theorem DD{P:Int→Prop}{s:List Int}{i:Nat}{x:Int}(h:∀(j:Nat) y,j < i→s[j]?=some y→P y) (hx:s[i]?=some x) (hp:P x):∀(j:Nat) y,j < i+1→s[j]?=some y→P y:=by
 intro j y hj hy;by_cases hji:j=i
 ·subst hji;rw[hx] at hy
  injection hy with hy
  subst hy;exact hp
 ·exact h j y (by omega) hy
theorem E5{s:List Int}(hl:s.length≤1000):Ok (gl s) fun r=>r.1=true↔vm s:=by
 unfold gl;delta dJ
 try dsimp only
 obtain⟨t,e,ht⟩:=Ok.iter (f:=kK) (n:=NN) (s:=(s,s,(s.length:Int),0,())) (P:=fun s'=>∃i:Nat,s'=(s,s,(s.length:Int),(i:Int),())∧i≤s.length∧∀(j:Nat) y,j < i→s[j]?=some y→1≤y∧y≤32)
  (R:=fun r=>(r=.inl (false,())∧∃y∈s,¬ (1≤y∧y≤32))∨((∃a b c d,r=.inr (s,a,b,c,d,()))∧∀y∈s,1≤y∧y≤32)) (m:=fun s'=>(s'.2.2.1 - s'.2.2.2.1).toNat) ⟨0,rfl,by omega,fun j y hj=>by omega⟩ (by unfold NN;dsimp only;omega) (by
   rintro _ ⟨i,rfl,hi,hall⟩;unfold kK;dsimp only
   (with_reducible refine Ok.cb (fun hcc=>?_) (fun hcc=>?_))
   ·rw[dH];simp only[Option.bind_some];refine Ok.get (by omega) fun x hx=>?_
    (with_reducible refine Ok.cb (fun hcd=>?_) (fun hcd=>?_))
    ·exact Ok.ret (.inl ⟨rfl,x,dK hx,by omega⟩)
    ·(with_reducible refine Ok.cb (fun hce=>?_) (fun hce=>?_))
     ·exact Ok.ret (.inl ⟨rfl,x,dK hx,by omega⟩)
     ·(simp (disch:=omega) only [dL,dS,dO,dP])
      exact Ok.ret ⟨⟨i+1,rfl,by omega,DD hall hx ⟨by omega,by omega⟩⟩,by dsimp only;omega⟩
   ·refine Ok.ret (.inr ⟨⟨_,_,_,_,rfl⟩,fun y hy=>?_⟩);obtain⟨j,hj⟩:=List.getElem?_of_mem hy
    exact hall j y (by have:=(List.getElem?_eq_some_iff.1 hj).1;omega) hj)
 rw[e];rcases ht with ⟨rfl,y,hy,hn⟩ | ⟨⟨a,b,c,d,rfl⟩,hall⟩
 ·exact Ok.ret ⟨fun h=>(by cases h),fun h=>absurd (h.2.2 y hy) hn⟩
 ·dsimp only
  (with_reducible refine Ok.cb (fun hcc=>?_) (fun hcc=>?_))
  ·exact Ok.ret ⟨fun h=>⟨by omega,(by have:=of_decide_eq_true h;omega),hall⟩,fun h=>decide_eq_true (by have:=h.2.1;omega)⟩
  ·exact Ok.ret ⟨fun h=>(by cases h),fun h=>by have:=h.1;omega⟩
abbrev VS(xs:List Int):Prop:=vm xs
theorem Ci{l:List Int}{k:Nat}(h:k < l.length):l.getD k 0=l[k]:=by simp[List.getD,h]
def tA(bs ss:List Int) (i:Nat):Prop:=
 0≤bs.getD i 0∧bs.getD i 0+ss.getD i 0≤512∧∀k,k < i→¬ (bs.getD i 0≤bs.getD k 0+ss.getD k 0∧bs.getD k 0≤bs.getD i 0+ss.getD i 0)
def LV(bs ss:List Int):Prop:=VS ss∧bs.length=ss.length∧∀i,i < bs.length→tA bs ss i
theorem VS.at_{ss:List Int}(h:VS ss) {i:Nat}(hi:i < ss.length):1≤ss[i]∧ss[i]≤32:=h.2.2 _ (List.getElem_mem hi)
def pL(ss:List Int) (seed:Int):Nat→List Int×Int
 | 0=>(List.replicate ss.length 0,1+seed / ss.length % 50)
 | k+1=>((pL ss seed k).1.set (((k+seed) % ss.length).toNat) (pL ss seed k).2,(pL ss seed k).2+(ss.getD ((k+seed) % ss.length).toNat 0+1+seed / (50*ss.length) % 40))
def mkB(ss:List Int) (seed:Int):List Int:=(pL ss seed ss.length).1
theorem Io(ss:List Int) (seed:Int) (k:Nat):(pL ss seed k).1.length=ss.length:=by
 induction k with
 | zero=>simp[pL]
 | succ k ih=>simp[pL,ih]
theorem VS.getD{ss:List Int}(h:VS ss) {i:Nat}(hi:i < ss.length):1≤ss.getD i 0∧ss.getD i 0≤32:=by rw[Ci hi];exact h.at_ hi
theorem Jc{n k:Nat}{seed:Int}(hn:1≤n):0≤((k:Int)+seed) % n∧((k:Int)+seed) % n < n:=
 ⟨Int.emod_nonneg _ (by omega),Int.emod_lt_of_pos _ (by omega)⟩
theorem Kf{ss:List Int}{seed:Int}(h:VS ss) (hs:0≤seed) (k:Nat):1≤(pL ss seed k).2∧(pL ss seed k).2≤50+72*k:=by
 induction k with
 | zero=>simp only[pL];have:=Int.emod_nonneg (seed / (ss.length:Int)) (show (50:Int)≠0 by decide);have:=Int.emod_lt_of_pos (seed / (ss.length:Int)) (show (0:Int) < 50 by decide);omega
 | succ k ih=>
  simp only[pL];have hr:=Jc (k:=k) (seed:=seed) h.1;have:=h.getD (i:=(((k:Int)+seed) % ss.length).toNat) (by omega);have:=Int.emod_nonneg (seed / (50*(ss.length:Int))) (show (40:Int)≠0 by decide);have:=Int.emod_lt_of_pos (seed / (50*(ss.length:Int))) (show (0:Int) < 40 by decide);omega
theorem Gs{ss:List Int}(h0:1≤ss.length) (h1:ss.length≤4):(∃a,ss=[a])∨(∃a b,ss=[a,b])∨(∃a b c,ss=[a,b,c])∨(∃a b c d,ss=[a,b,c,d]):=by
 match ss,h0,h1 with
 | [a],_,_=>exact .inl ⟨a,rfl⟩
 | [a,b],_,_=>exact .inr (.inl ⟨a,b,rfl⟩)
 | [a,b,c],_,_=>exact .inr (.inr (.inl ⟨a,b,c,rfl⟩))
 | [a,b,c,d],_,_=>exact .inr (.inr (.inr ⟨a,b,c,d,rfl⟩))
theorem tE{P:Nat→Prop}(h0:P 0):∀i,i < 1→P i:=fun i hi=>by
 match i,hi with
 | 0,_=>exact h0
theorem xw{P:Nat→Prop}(h0:P 0) (h1:P 1):∀i,i < 2→P i:=fun i hi=>by
 match i,hi with
 | 0,_=>exact h0
 | 1,_=>exact h1
theorem C5{P:Nat→Prop}(h0:P 0) (h1:P 1) (h2:P 2):∀i,i < 3→P i:=fun i hi=>by
 match i,hi with
 | 0,_=>exact h0
 | 1,_=>exact h1
 | 2,_=>exact h2
theorem H6{P:Nat→Prop}(h0:P 0) (h1:P 1) (h2:P 2) (h3:P 3):∀i,i < 4→P i:=fun i hi=>by
 match i,hi with
 | 0,_=>exact h0
 | 1,_=>exact h1
 | 2,_=>exact h2
 | 3,_=>exact h3
def Hp(b s:Int):Prop:=0≤b∧b+s≤512
def fI(b s b' s':Int):Prop:=¬ (b≤b'+s'∧b'≤b+s)
theorem LV1{a x:Int}(hv:VS [a]) (h:Hp x a):LV [x] [a]:=
 ⟨hv,rfl,tE ⟨h.1,h.2,fun k hk=>by omega⟩⟩
theorem LV2{a b x y:Int}(hv:VS [a,b]) (h:Hp x a) (h':Hp y b) (h1:fI y b x a):LV [x,y] [a,b]:=
 ⟨hv,rfl,xw ⟨h.1,h.2,fun k hk=>by omega⟩ ⟨h'.1,h'.2,tE h1⟩⟩
theorem LV3{a b c x y z:Int}(hv:VS [a,b,c]) (h:Hp x a) (h':Hp y b) (h'':Hp z c) (h1:fI y b x a) (h2:fI z c x a) (h3:fI z c y b):LV [x,y,z] [a,b,c]:=
 ⟨hv,rfl,C5 ⟨h.1,h.2,fun k hk=>by omega⟩ ⟨h'.1,h'.2,tE h1⟩ ⟨h''.1,h''.2,xw h2 h3⟩⟩
theorem LV4{a b c d x y z u:Int}(hv:VS [a,b,c,d]) (h:Hp x a) (h':Hp y b) (h'':Hp z c) (h''':Hp u d) (h1:fI y b x a) (h2:fI z c x a) (h3:fI z c y b) (h4:fI u d x a) (h5:fI u d y b) (h6:fI u d z c):LV [x,y,z,u] [a,b,c,d]:=
 ⟨hv,rfl,H6 ⟨h.1,h.2,fun k hk=>by omega⟩ ⟨h'.1,h'.2,tE h1⟩ ⟨h''.1,h''.2,xw h2 h3⟩ ⟨h'''.1,h'''.2,C5 h4 h5 h6⟩⟩
theorem Lx{ss:List Int}(hv:VS ss) {seed:Int}(hs:0≤seed):LV (mkB ss seed) ss:=by
 have hv0:=hv;rcases Gs hv.1 hv.2.1 with ⟨a,rfl⟩ | ⟨a,b,rfl⟩ | ⟨a,b,c,rfl⟩ | ⟨a,b,c,d,rfl⟩
 ·obtain⟨_,_,hx⟩:=hv;have ha:=hx a (by simp)
  have e0:(((0:Nat):Int)+seed) % 1=0:=by omega
  have hB:mkB [a] seed=[1+seed / 1 % 50]:=by simp[mkB,pL,List.replicate]
  rw[hB];exact LV1 hv0 ⟨by omega,by omega⟩
 ·obtain⟨_,_,hx⟩:=hv;have ha:=hx a (by simp);have hb:=hx b (by simp);rcases (show seed % 2=0∨seed % 2=1 by omega) with ht | ht
  ·have e1:(1+seed) % 2=1:=by omega
   simp only[mkB,pL,List.length_cons,List.length_nil,List.replicate];simp[ht,e1];exact LV2 hv0 ⟨by omega,by omega⟩ ⟨by omega,by omega⟩ (by unfold fI;omega)
  ·have e1:(1+seed) % 2=0:=by omega
   simp only[mkB,pL,List.length_cons,List.length_nil,List.replicate];simp[ht,e1];exact LV2 hv0 ⟨by omega,by omega⟩ ⟨by omega,by omega⟩ (by unfold fI;omega)
 ·obtain⟨_,_,hx⟩:=hv;have ha:=hx a (by simp);have hb:=hx b (by simp);have hc:=hx c (by simp);rcases (show seed % 3=0∨seed % 3=1∨seed % 3=2 by omega) with ht | ht | ht
  ·have e1:(1+seed) % 3=1:=by omega
   have e2:(2+seed) % 3=2:=by omega
   simp only[mkB,pL,List.length_cons,List.length_nil,List.replicate];simp[ht,e1,e2];exact LV3 hv0 ⟨by omega,by omega⟩ ⟨by omega,by omega⟩ ⟨by omega,by omega⟩ (by unfold fI;omega) (by unfold fI;omega) (by unfold fI;omega)
  ·have e1:(1+seed) % 3=2:=by omega
   have e2:(2+seed) % 3=0:=by omega
   simp only[mkB,pL,List.length_cons,List.length_nil,List.replicate];simp[ht,e1,e2];exact LV3 hv0 ⟨by omega,by omega⟩ ⟨by omega,by omega⟩ ⟨by omega,by omega⟩ (by unfold fI;omega) (by unfold fI;omega) (by unfold fI;omega)
  ·have e1:(1+seed) % 3=0:=by omega
   have e2:(2+seed) % 3=1:=by omega
   simp only[mkB,pL,List.length_cons,List.length_nil,List.replicate];simp[ht,e1,e2];exact LV3 hv0 ⟨by omega,by omega⟩ ⟨by omega,by omega⟩ ⟨by omega,by omega⟩ (by unfold fI;omega) (by unfold fI;omega) (by unfold fI;omega)
 ·obtain⟨_,_,hx⟩:=hv;have ha:=hx a (by simp);have hb:=hx b (by simp);have hc:=hx c (by simp);have hd:=hx d (by simp)
  have hq:∀q g:Int,q=1+seed / 4 % 50→g=seed / (50*4) % 40→1≤q∧q≤50∧0≤g∧g < 40:=fun q g e e'=>by subst e;subst e';omega
  rcases (show seed % 4=0∨seed % 4=1∨seed % 4=2∨seed % 4=3 by omega) with ht | ht | ht | ht
  ·have e1:(1+seed) % 4=1:=by omega
   have e2:(2+seed) % 4=2:=by omega
   have e3:(3+seed) % 4=3:=by omega
   simp only[mkB,pL,List.length_cons,List.length_nil,List.replicate];simp[ht,e1,e2,e3];exact LV4 hv0 ⟨by omega,by omega⟩ ⟨by omega,by omega⟩ ⟨by omega,by omega⟩ ⟨by omega,by omega⟩ (by unfold fI;omega) (by unfold fI;omega) (by unfold fI;omega) (by unfold fI;omega) (by unfold fI;omega) (by unfold fI;omega)
  ·have e1:(1+seed) % 4=2:=by omega
   have e2:(2+seed) % 4=3:=by omega
   have e3:(3+seed) % 4=0:=by omega
   simp only[mkB,pL,List.length_cons,List.length_nil,List.replicate];simp[ht,e1,e2,e3];exact LV4 hv0 ⟨by omega,by omega⟩ ⟨by omega,by omega⟩ ⟨by omega,by omega⟩ ⟨by omega,by omega⟩ (by unfold fI;omega) (by unfold fI;omega) (by unfold fI;omega) (by unfold fI;omega) (by unfold fI;omega) (by unfold fI;omega)
  ·have e1:(1+seed) % 4=3:=by omega
   have e2:(2+seed) % 4=0:=by omega
   have e3:(3+seed) % 4=1:=by omega
   simp only[mkB,pL,List.length_cons,List.length_nil,List.replicate];simp[ht,e1,e2,e3];exact LV4 hv0 ⟨by omega,by omega⟩ ⟨by omega,by omega⟩ ⟨by omega,by omega⟩ ⟨by omega,by omega⟩ (by unfold fI;omega) (by unfold fI;omega) (by unfold fI;omega) (by unfold fI;omega) (by unfold fI;omega) (by unfold fI;omega)
  ·have e1:(1+seed) % 4=0:=by omega
   have e2:(2+seed) % 4=1:=by omega
   have e3:(3+seed) % 4=2:=by omega
   simp only[mkB,pL,List.length_cons,List.length_nil,List.replicate];simp[ht,e1,e2,e3];exact LV4 hv0 ⟨by omega,by omega⟩ ⟨by omega,by omega⟩ ⟨by omega,by omega⟩ ⟨by omega,by omega⟩ (by unfold fI;omega) (by unfold fI;omega) (by unfold fI;omega) (by unfold fI;omega) (by unfold fI;omega) (by unfold fI;omega)
theorem wS{α:Type}(l:List α) (i:Nat) (a:α):List.modify l i (fun _=>a)=l.set i a:=by
 apply List.ext_getElem?;intro j;rw[List.getElem?_modify,List.getElem?_set];by_cases h:i=j
 ·subst h;simp only[if_true];by_cases hl:i < l.length
  ·simp[hl]
  ·simp[hl,List.getElem?_eq_none (Nat.le_of_not_lt hl)]
 ·simp[h]
theorem Ki{s:List Int}{seed:Int}(hs:vm s) (h0:0≤seed) (h1:seed≤1073741824):Ok (ml s seed) fun r=>∃key,r=(mkB s seed,key,0,())∧W16 key:=by
 obtain⟨hs1,hs4,hsz⟩:=id hs;unfold ml;delta dJ
 try dsimp only
 refine Ok.bind (P:=fun r=>r=(s,seed,false,(),0,())) ?_ ?_
 ·refine (E5 (by omega)).bind ?_;rintro⟨v,_⟩ hv;have hv:v=true:=hv.2 hs;subst hv;simp only[Bool.not_true,cond_false]
  (with_reducible refine Ok.cb (fun hcb=>?_) (fun hcb=>?_))
  ·omega
  ·exact Ok.ret (by rw[decide_eq_false (by omega)])
 rintro _ rfl;dsimp only;refine Ok.cond (fun h=>by cases h) fun _=>?_;rw[dH];simp only[Option.bind_some];refine Ok.need (by unfold qD;rw[Bool.and_eq_true];exact⟨decide_eq_true rfl,decide_eq_true (by omega)⟩) ?_;refine Ok.need (by rw[bne_iff_ne];omega) ?_;have hd1:Int.tdiv seed s.length=seed / s.length:=Int.tdiv_eq_ediv_of_nonneg h0;have hq:0≤seed / (s.length:Int)∧seed / (s.length:Int)≤seed:=⟨Int.ediv_nonneg h0 (by omega),Int.ediv_le_self _ h0⟩;have hm1:Int.tmod (seed / (s.length:Int)) 50=seed / (s.length:Int) % 50:=Int.tmod_eq_emod_of_nonneg hq.1
 have hm2:0≤seed / (s.length:Int) % 50∧seed / (s.length:Int) % 50 < 50:=by omega
 rw[hd1,dL (x:=seed / (s.length:Int)) (by omega) (by omega),hm1,dL (x:=1+seed / (s.length:Int) % 50) (by omega) (by omega)]
 have hkey:W16 (wk .u16 (w64 (40503*seed))):=by
  unfold wk;rw[xj];exact⟨by omega,by omega⟩
 generalize wk .u16 (w64 (40503*seed))=key at hkey
 refine Ok.loop (P:=fun s'=>∃k:Nat,s'=(s,seed,(s.length:Int),(pL s seed k).2,(s.length:Int),(k:Int),(),0,(pL s seed k).1,key,())∧k≤s.length) (R:=fun r=>∃a b c d e f g h,r=(a,b,c,d,e,f,g,(),h,(pL s seed s.length).1,key,()))
  (m:=fun s'=>(s'.2.2.2.2.1 - s'.2.2.2.2.2.1).toNat) ⟨0,rfl,by omega⟩ (by unfold NN;dsimp only;omega) ?_ ?_
 ·rintro _ ⟨k,rfl,hk⟩;unfold oj;dsimp only;have hb:=Kf hs h0 k
  (with_reducible refine Ok.cb (fun hcc=>?_) (fun hcc=>?_))
  ·have hr:=Jc (k:=k) (seed:=seed) hs1;rw[dL (x:=(k:Int)+seed) (by omega) (by omega)];refine Ok.need (by rw[bne_iff_ne];omega) ?_;rw[Int.tmod_eq_emod_of_nonneg (show 0≤(k:Int)+seed by omega)];refine Ok.nat hr.1 fun r hrr=>?_;have hl:=Io s seed k;refine Ok.get (by omega) fun x hx=>?_;refine Ok.get (by omega) fun y hy=>?_;refine Ok.nat hr.1 fun r2 hrr2=>?_
   have:r2=r:=by omega
   subst this;refine Ok.get (by omega) fun z hz=>?_;have hz2:=hsz z (dK hz);rw[dL (x:=z+1) (by omega) (by omega),dL (x:=50*(s.length:Int)) (by omega) (by omega)];refine Ok.need (by rw[bne_iff_ne];omega) ?_;have hd2:Int.tdiv seed (50*(s.length:Int))=seed / (50*s.length):=Int.tdiv_eq_ediv_of_nonneg h0;have hq2:0≤seed / (50*(s.length:Int))∧seed / (50*(s.length:Int))≤seed:=⟨Int.ediv_nonneg h0 (by omega),Int.ediv_le_self _ h0⟩;have hm3:Int.tmod (seed / (50*(s.length:Int))) 40=seed / (50*s.length) % 40:=Int.tmod_eq_emod_of_nonneg hq2.1;rw[hd2,dL (x:=seed / (50*(s.length:Int))) (by omega) (by omega),hm3];generalize hg:seed / (50*(s.length:Int)) % 40=g
   have hg2:0≤g∧g < 40:=by omega
   rw[dL (x:=z+1+g) (by omega) (by omega),dL (x:=(pL s seed k).2+(z+1+g)) (by omega) (by omega),dL (x:=(k:Int)+1) (by omega) (by omega),wS]
   have e1:(pL s seed (k+1)).1=(pL s seed k).1.set r2 (pL s seed k).2:=by
    simp only[pL];rw[hrr];rfl
   have e2:(pL s seed (k+1)).2=(pL s seed k).2+(z+1+g):=by
    simp only[pL];rw[hrr,hg,Int.toNat_natCast,List.getD_eq_getElem?_getD,hz];rfl
   refine Ok.ret ⟨⟨k+1,?_,by omega⟩,by dsimp only;omega⟩;rw[e1,e2];rfl
  ·have:k=s.length:=by omega
   subst this;exact Ok.ret ⟨_,_,_,_,_,_,_,_,rfl⟩
 ·rintro _ ⟨a,b,c,d,e,f,g,h,rfl⟩;exact Ok.ret ⟨key,rfl,hkey⟩
theorem mH{S T:Type}{f:S→Option (S⊕T)}(st:Nat→S) {n N:Nat}{t:T}(hn:n < N) (h:∀i,i < n→Ok (f (st i)) (·=.inl (st (i+1)))) (he:Ok (f (st n)) (·=.inr t)):dQ f N (st 0)=some t:=by
 have key:∀k i,i+k=n→∀N,k < N→dQ f N (st i)=some t:=by
  intro k
  induction k with
  | zero=>
   intro i hi N hN;obtain⟨x,e,hx⟩:=he
   have:i=n:=by omega
   subst this;obtain⟨N',rfl⟩:∃N',N=N'+1:=⟨N - 1,by omega⟩;simp only[dQ,e,hx,Option.bind_some]
  | succ k ih=>
   intro i hi N hN;obtain⟨x,e,hx⟩:=h i (by omega);obtain⟨N',rfl⟩:∃N',N=N'+1:=⟨N - 1,by omega⟩;simp only[dQ,e,hx,Option.bind_some];exact ih (i+1) (by omega) N' (by omega)
 exact key n 0 (by omega) N hn
theorem Ok.eq{α:Type}{o:Option α}{a:α}(h:Ok o (·=a)):o=some a:=by
 obtain⟨x,e,rfl⟩:=h;exact e
theorem ej{l:List Int}{k:Nat}{x:Int}(h:l[k]?=some x):l.getD k 0=x:=by rw[List.getD_eq_getElem?_getD,h];rfl
theorem wD{s:List Int}(h:vm s):gl s=some (true,()):=by
 obtain⟨⟨v,u⟩,e,hv⟩:=E5 (s:=s) (by have:=h.2.1;omega);have hv:v=true:=hv.2 h;rw[e,hv]
theorem o8{bs ss:List Int}{key:Int}(h:LV bs ss):gj bs key ss=some (true,()):=by
 obtain⟨hs,hl,hr⟩:=h;have h4:=hs.2.1;unfold gj;rw[wD hs];delta dJ;simp only[Option.bind_some,Bool.not_true,cond_false,hl,bne_self_eq_false]
 have e:dQ iM NN (ss,bs,(ss.length:Int),0,bs,key,())=some (.inr (ss,bs,(ss.length:Int),(ss.length:Int),false,bs,key,())):=by
  refine mH (st:=fun i=>(ss,bs,(ss.length:Int),(i:Int),bs,key,())) (n:=ss.length) (by unfold NN;omega) ?_ ?_
  ·intro i hi;unfold iM;dsimp only;have hri:=hr i (by omega);unfold tA at hri
   (with_reducible refine Ok.cb (fun hca=>?_) (fun hca=>?_))
   ·rw[dH];simp only[Option.bind_some];refine Ok.get (by omega) fun b hb=>?_;rw[ej hb] at hri
    (with_reducible refine Ok.cb (fun hcb=>?_) (fun hcb=>?_))
    ·omega
    ·refine Ok.get (by omega) fun z hz=>?_;rw[ej hz] at hri;have hz2:=hs.2.2 z (dK hz)
     (simp (disch:=omega) only [dL,dS,dO,dP])
     (with_reducible refine Ok.cb (fun hcc=>?_) (fun hcc=>?_))
     ·omega
     ·refine Ok.need (by unfold jG;simp;omega) ?_
      have hwl:(mI bs 0 (Nat.sub i 0)).length=i:=by unfold mI;rw[List.length_take,List.drop_zero];show min i _=i;omega
      rw[hwl]
      have e:dQ iN NN (ss,(i:Int),b,bs,(ss.length:Int),(i:Int),mI bs 0 (Nat.sub i 0),(i:Int),0,bs,key,())=some (.inr (ss,(i:Int),b,bs,(ss.length:Int),(i:Int),mI bs 0 (Nat.sub i 0),(i:Int),(i:Int),false,bs,key,())):=by
       refine mH (st:=fun j=>(ss,(i:Int),b,bs,(ss.length:Int),(i:Int),mI bs 0 (Nat.sub i 0),(i:Int),(j:Int),bs,key,())) (n:=i) (by unfold NN;omega) ?_ ?_
       ·intro j hj;unfold iN;dsimp only
        (with_reducible refine Ok.cb (fun hca=>?_) (fun hca=>?_))
        ·rw[dH,dH];simp only[Option.bind_some]
         have hx:(dF (mI bs 0 (Nat.sub i 0)) j)=bs[j]?:=by
          unfold dF mI;rw[List.getElem?_take,List.drop_zero];exact if_pos hj
         rw[hx];obtain⟨c,hc⟩:∃c,bs[j]?=some c:=⟨_,List.getElem?_eq_getElem (by omega)⟩;obtain⟨y,hy⟩:∃y,ss[j]?=some y:=⟨_,List.getElem?_eq_getElem (by omega)⟩;have hy2:=hs.2.2 y (dK hy);have hz':dF ss i=some z:=hz;have hy':dF ss j=some y:=hy;rw[hc,hz',hy'];simp only[Option.bind_some];have hrj:=(hr j (by omega)).1;have hrj2:=(hr j (by omega)).2.1;rw[ej hc] at hrj hrj2;rw[ej hy] at hrj2;have hap:=hri.2.2 j hj;rw[ej hc,ej hy] at hap;rw[dL (x:=b+z) (by omega) (by omega),dL (x:=c+y) (by omega) (by omega)];by_cases h1:b+z≥c
         ·have h2:¬ c+y≥b:=by omega
          simp only[h1,h2,decide_true,decide_false,cond_true,cond_false]
          (simp (disch:=omega) only [dL,dS,dO,dP])
          exact Ok.ret rfl
         ·simp only[h1,decide_false,cond_false]
          (simp (disch:=omega) only [dL,dS,dO,dP])
          exact Ok.ret rfl
        ·omega
       ·unfold iN;dsimp only
        (with_reducible refine Ok.cb (fun hca=>?_) (fun hca=>?_))
        ·omega
        ·exact Ok.ret rfl
      rw[e]
      (simp (disch:=omega) only [dL,dS,dO,dP])
      exact Ok.ret rfl
   ·omega
  ·unfold iM;dsimp only
   (with_reducible refine Ok.cb (fun hca=>?_) (fun hca=>?_))
   ·omega
   ·exact Ok.ret rfl
 rw[e]
theorem GD{n m o a b c i:Int}(h:gM n m (o,a,b,c,i)) (hn:n≤4) (hm:m≤64):kZ o a b c i=some (true,()):=by
 obtain⟨⟨o0,o1⟩,⟨a0,a1,a2⟩,⟨b0,b1,b2⟩,⟨c0,c1,c2⟩,⟨i0,i1,i2⟩,hl,hs,hj⟩:=h;dsimp only at *
 have step:∀(k:Nat) (x:Int) (u:Bool),k < 3→[a,b,c][k]?=some x→(k=0→u=na o)→(k=1→u=m9 o)→(k=2→u=m8 o)→0≤x→x < 8→(u=false→x=0) →
  Ok (iK (3,(k:Int),o,a,b,c,i,na o,m9 o,m8 o,m7 o,[a,b,c],())) (·=.inl (3,((k+1:Nat):Int),o,a,b,c,i,na o,m9 o,m8 o,m7 o,[a,b,c],())):=by
  intro k x u hk hx h0 h1 h2 hx0 hx1 hx2;unfold iK;dsimp only
  (with_reducible refine Ok.cb (fun hca=>?_) (fun hca=>?_))
  ·rw[dH];simp only[Option.bind_some];rw[show dF [a,b,c] k=some x from hx];simp only[Option.bind_some];rw[decide_eq_false (show ¬ x < 0 by omega),decide_eq_false (show ¬ x≥8 by omega)];simp only[cond_false];have fin:Ok (some ((3:Int),(k:Int),false,o,a,b,c,i,na o,m9 o,m8 o,m7 o,[a,b,c],())) (·=((3:Int),(k:Int),false,o,a,b,c,i,na o,m9 o,m8 o,m7 o,[a,b,c],())):=Ok.ret rfl
   have fin2:u=false→(x != 0)=false:=fun h=>by rw[hx2 h];rfl
   refine Ok.bind (P:=(·=((3:Int),(k:Int),false,o,a,b,c,i,na o,m9 o,m8 o,m7 o,[a,b,c],()))) ?_ ?_
   ·rcases (show k=0∨k=1∨k=2 by omega) with rfl | rfl | rfl
    ·rw[← h0 rfl] at fin ⊢;refine Ok.need rfl ?_;refine Ok.cond (fun hu=>?_) fun _=>fin;rw[fin2 (by simpa using hu)];exact fin
    ·rw[← h1 rfl] at fin ⊢;refine Ok.cond (fun hu=>by cases hu) fun _=>Ok.need rfl (Ok.cond (fun hu=>?_) fun _=>fin);rw[fin2 (by simpa using hu)];exact fin
    ·rw[← h2 rfl] at fin ⊢;refine Ok.cond (fun hu=>by cases hu) fun _=>Ok.cond (fun hu=>by cases hu) fun _=>Ok.need rfl (Ok.cond (fun hu=>?_) fun _=>fin);rw[fin2 (by simpa using hu)];exact fin
   ·rintro _ rfl;dsimp only;rw[dL (x:=(k:Int)+1) (by omega) (by omega)];exact Ok.ret rfl
  ·omega
 have e:dQ iK NN (3,0,o,a,b,c,i,na o,m9 o,m8 o,m7 o,[a,b,c],())=some (.inr (3,3,false,o,a,b,c,i,na o,m9 o,m8 o,m7 o,[a,b,c],())):=by
  refine mH (st:=fun k=>(3,(k:Int),o,a,b,c,i,na o,m9 o,m8 o,m7 o,[a,b,c],())) (n:=3) (by unfold NN;omega) ?_ ?_
  ·intro k hk;rcases (show k=0∨k=1∨k=2 by omega) with rfl | rfl | rfl
   ·exact step 0 a _ (by omega) rfl (fun _=>rfl) (by omega) (by omega) a0 a1 a2
   ·exact step 1 b _ (by omega) rfl (by omega) (fun _=>rfl) (by omega) b0 b1 b2
   ·exact step 2 c _ (by omega) rfl (by omega) (by omega) (fun _=>rfl) c0 c1 c2
  ·exact Ok.ret rfl
 refine Ok.eq ?_;unfold kZ;rw[decide_eq_false (show ¬ o < 0 by omega),decide_eq_false (show ¬ o > 24 by omega),E6 o0 o1];simp only[cond_false,Option.bind_some];rw[show dJ [a,b,c].length=3 from rfl,e];dsimp only;rw[decide_eq_false (show ¬ i < 0 by omega),decide_eq_false (show ¬ i > 65535 by omega)];simp only[cond_false];refine Ok.bind (P:=(·=(false,o,a,b,c,i,()))) ?_ ?_
 ·refine Ok.cond (fun hu=>?_) fun _=>Ok.ret rfl;exact Ok.ret (by rw[i2 (by simpa using hu)];rfl)
 rintro _ rfl;dsimp only;rw[uv];simp only[cond_false,Option.bind_some];refine Ok.cond (fun hu=>?_) fun _=>?_
 ·exact Ok.ret (by rw[decide_eq_true (by have:=hj hu;omega)])
 ·(with_reducible refine Ok.cb (fun hcc=>?_) (fun hcc=>?_))
  ·exact Ok.ret (by rw[decide_eq_true (by have:=hl hcc;omega)])
  ·(with_reducible refine Ok.cb (fun hcd=>?_) (fun hcd=>?_))
   ·exact Ok.ret (by rw[decide_eq_true (by have:=hs hcd;omega)])
   ·exact Ok.ret rfl
theorem zd{code:List DIn}{s:List Int}{d:List (List Int)}(h:jL code s d):ib code s d=some (0,()):=by
 have hs:=h.sz;have hs4:=hs.2.1;have hc:=h.clen;have hl:=h.len
 have e0:dQ iJ NN (d,(d.length:Int),0,code,s,d,())=some (.inr (d,(d.length:Int),(d.length:Int),false,code,s,d,())):=by
  refine mH (st:=fun k=>(d,(d.length:Int),(k:Int),code,s,d,())) (n:=d.length) (by unfold NN;omega) ?_ ?_
  ·intro k hk;unfold iJ;dsimp only
   (with_reducible refine Ok.cb (fun hca=>?_) (fun hca=>?_))
   ·rw[dH];delta dJ;simp only[Option.bind_some];refine Ok.get (by omega) fun x hx=>?_;refine Ok.get (by omega) fun y hy=>?_;have:=h.fit k x y hx hy
    (with_reducible refine Ok.cb (fun hcb=>?_) (fun hcb=>?_))
    ·omega
    ·(simp (disch:=omega) only [dL,dS,dO,dP])
     exact Ok.ret rfl
   ·omega
  ·unfold iJ;dsimp only
   (with_reducible refine Ok.cb (fun hca=>?_) (fun hca=>?_))
   ·omega
   ·exact Ok.ret rfl
 have e1:dQ iI NN (code,(code.length:Int),0,code,s,d,())=some (.inr (code,(code.length:Int),(code.length:Int),false,code,s,d,())):=by
  refine mH (st:=fun k=>(code,(code.length:Int),(k:Int),code,s,d,())) (n:=code.length) (by unfold NN;omega) ?_ ?_
  ·intro k hk;unfold iI;dsimp only
   (with_reducible refine Ok.cb (fun hca=>?_) (fun hca=>?_))
   ·rw[dH];simp only[Option.bind_some];refine Ok.get (by omega) fun x hx=>?_;obtain⟨o,a,b,c,i⟩:=x;rw[GD (h.ins _ (dK hx)) (by omega) (by omega)];simp only[Option.bind_some,Bool.not_true,cond_false]
    (simp (disch:=omega) only [dL,dS,dO,dP])
    exact Ok.ret rfl
   ·omega
  ·unfold iI;dsimp only
   (with_reducible refine Ok.cb (fun hca=>?_) (fun hca=>?_))
   ·omega
   ·exact Ok.ret rfl
 have e3:dQ iH NN (code,(code.length:Int),0,code,s,d,())=some (.inr (code,(code.length:Int),(code.length:Int),false,code,s,d,())):=by
  refine mH (st:=fun k=>(code,(code.length:Int),(k:Int),code,s,d,())) (n:=code.length) (by unfold NN;omega) ?_ ?_
  ·intro k hk;unfold iH;dsimp only
   (with_reducible refine Ok.cb (fun hca=>?_) (fun hca=>?_))
   ·rw[dH];simp only[Option.bind_some];refine Ok.get (by omega) fun x hx=>?_;have hp:=h.ins x (dK hx);rw[uv];simp only[Option.bind_some];refine Ok.bind (P:=(·=(code,(code.length:Int),(k:Int),false,code,s,d,()))) ?_ ?_
    ·refine Ok.cond (fun hj=>?_) fun _=>?_
     ·have:=hp.jmp hj
      (with_reducible refine Ok.cb (fun hcb=>?_) (fun hcb=>?_))
      ·have hcb:x.2.2.2.2≥(code.length:Int):=hcb;omega
      ·(with_reducible refine Ok.cb (fun hcc=>?_) (fun hcc=>?_))
       ·exact Ok.ret (by rw[decide_eq_false (show ¬ x.2.2.2.2≥dJ s.length by rw[dP];have:=hp.lea hcc;omega)])
       ·exact Ok.ret rfl
     ·(with_reducible refine Ok.cb (fun hcc=>?_) (fun hcc=>?_))
      ·exact Ok.ret (by rw[decide_eq_false (show ¬ x.2.2.2.2≥dJ s.length by rw[dP];have:=hp.lea hcc;omega)])
      ·exact Ok.ret rfl
    ·rintro _ rfl;dsimp only;simp only[cond_false]
     (simp (disch:=omega) only [dL,dS,dO,dP])
     exact Ok.ret rfl
   ·omega
  ·unfold iH;dsimp only
   (with_reducible refine Ok.cb (fun hca=>?_) (fun hca=>?_))
   ·omega
   ·exact Ok.ret rfl
 refine Ok.eq ?_;unfold ib;rw[wD hs];delta dJ;simp only[Option.bind_some,Bool.not_true,cond_false,hl,bne_self_eq_false];rw[hl] at e0;rw[e0];dsimp only
 (with_reducible refine Ok.cb (fun hca=>?_) (fun hca=>?_))
 ·omega
 ·(with_reducible refine Ok.cb (fun hcb=>?_) (fun hcb=>?_))
  ·omega
  ·rw[e1];dsimp only;rw[e3];exact Ok.ret rfl
def RK(bs ss:List Int) (a:Int):Prop:=∃(j:Nat) (b z:Int),bs[j]?=some b∧ss[j]?=some z∧b≤a∧a < b+z
def lZ(K:Int→Prop) (c:DCe):Prop:=0≤c.1∧c.1≤2∧0≤c.2∧c.2≤65535∧(c.1=1→K c.2)
theorem lZ.mono{K K':Int→Prop}{c:DCe}(h:lZ K c) (hk:∀a,K a→K' a):lZ K' c:=⟨h.1,h.2.1,h.2.2.1,h.2.2.2.1,fun e=>hk _ (h.2.2.2.2 e)⟩
theorem kD{K:Int→Prop}{v:Int}(h:0≤v∧v≤65535):lZ K (0,v):=⟨by dsimp only;omega,by dsimp only;omega,h.1,h.2,fun e=>absurd (show (0:Int)=1 from e) (by decide)⟩
def LK(K:Int→Prop) (i:Nat) (x:DLn):Prop:=(x.1=-1∧x.2.1=false∧x.2.2=[])∨(0≤x.1∧x.1 < 128∧x.1 % 4=i∧x.2.2.length=4∧∀c∈x.2.2,lZ K c)
structure jJ (K:Int→Prop) (cs:List DCe) (ls:List DLn):Prop where
 clen:cs.length=512
 cells:∀c∈cs,lZ K c
 llen:ls.length=4
 lines:∀(i:Nat) x,ls[i]?=some x→LK K i x
structure vl (K:Int→Prop) (n:Int) (t:DTh):Prop where
 state:0≤t.1∧t.1≤4
 len:t.2.1.length=8
 regs:∀c∈t.2.1,lZ K c
 pc:0≤t.2.2.1∧t.2.2.1≤255
 count:0≤t.2.2.2.1∧t.2.2.2.1≤n
 handler:-1≤t.2.2.2.2.1∧t.2.2.2.2.1≤255
 saved:-1≤t.2.2.2.2.2.1∧t.2.2.2.2.2.1≤255
 trap:0≤t.2.2.2.2.2.2.1∧t.2.2.2.2.2.2.1≤6
 code:W16 t.2.2.2.2.2.2.2
structure MOk (n:Int) (ss bs:List Int) (cs:List DCe) (ls:List DLn) (ts:List DTh):Prop where
 lay:LV bs ss
 mem:jJ (RK bs ss) cs ls
 tlen:ts.length=4
 thr:∀t∈ts,vl (RK bs ss) n t
theorem DE{K:Int→Prop}{l:List DCe}(hl:l.length≤1000) (h:∀c∈l,lZ K c):lG l=some (true,()):=by
 have e:dQ j5 NN (l,(l.length:Int),0,())=some (.inr (l,(l.length:Int),(l.length:Int),false,())):=by
  refine mH (st:=fun k=>(l,(l.length:Int),(k:Int),())) (n:=l.length) (by unfold NN;omega) ?_ ?_
  ·intro k hk;unfold j5;dsimp only
   (with_reducible refine Ok.cb (fun hca=>?_) (fun hca=>?_))
   ·rw[dH];simp only[Option.bind_some];refine Ok.get (by omega) fun x hx=>?_;have:=h x (dK hx);unfold jp;rw[decide_eq_true (show x.1≤2 from this.2.1)];simp only[Option.bind_some,Bool.not_true,cond_false]
    (simp (disch:=omega) only [dL,dS,dO,dP])
    exact Ok.ret rfl
   ·omega
  ·unfold j5;dsimp only
   (with_reducible refine Ok.cb (fun hca=>?_) (fun hca=>?_))
   ·omega
   ·exact Ok.ret rfl
 refine Ok.eq ?_;unfold lG;delta dJ
 try dsimp only
 rw[e];exact Ok.ret rfl
theorem DO{K:Int→Prop}{cs:List DCe}{ls:List DLn}(h:jJ K cs ls):k8 cs ls=some (true,()):=by
 obtain⟨h1,h2,h3,h4⟩:=h
 have e:dQ iL NN (ls,4,0,cs,ls,())=some (.inr (ls,4,4,false,cs,ls,())):=by
  refine mH (st:=fun k=>(ls,4,(k:Int),cs,ls,())) (n:=4) (by unfold NN;omega) ?_ ?_
  ·intro k hk;unfold iL;dsimp only
   (with_reducible refine Ok.cb (fun hca=>?_) (fun hca=>?_))
   ·rw[dH];simp only[Option.bind_some];refine Ok.get (by omega) fun x hx=>?_;rcases h4 k x hx with ⟨e1,e2,e3⟩ | ⟨g1,g2,g3,g4,g5⟩
    ·rw[e1,e2,e3];simp only[beq_self_eq_true,cond_true,cond_false]
     (simp (disch:=omega) only [dL,dS,dO,dP])
     exact Ok.ret rfl
    ·rw[show (x.1==-1)=false by rw[beq_eq_false_iff_ne];omega,decide_eq_false (show ¬ x.1 < 0 by omega),decide_eq_false (show ¬ x.1≥128 by omega),Int.tmod_eq_emod_of_nonneg g1,g3,g4,DE (by omega) g5];simp only[cond_false,bne_self_eq_false,Option.bind_some,Bool.not_true];refine Ok.bind (P:=(·=(ls,4,(k:Int),false,cs,ls,()))) ?_ ?_
     ·refine Ok.cond (fun h=>by cases h) fun _=>Ok.ret rfl
     ·rintro _ rfl;dsimp only;simp only[cond_false]
      (simp (disch:=omega) only [dL,dS,dO,dP])
      exact Ok.ret rfl
   ·omega
  ·unfold iL;exact Ok.ret rfl
 refine Ok.eq ?_;unfold k8;delta dJ;simp only[h1,h3,DE (show cs.length≤1000 by omega) h2,Option.bind_some,Bool.not_true];refine Ok.bind (P:=(·=(false,cs,ls,()))) ?_ ?_
 ·exact Ok.ret rfl
 ·rintro _ rfl;dsimp only;simp only[cond_false];rw[h3,show ((4:Nat):Int)=4 from rfl,e];exact Ok.ret rfl
theorem DN{K:Int→Prop}{t:DTh}(h:vl K 1099511627776 t):kW t.1 t.2.1 t.2.2.1 t.2.2.2.1 t.2.2.2.2.1 t.2.2.2.2.2.1 t.2.2.2.2.2.2.1 t.2.2.2.2.2.2.2=some (true,()):=by
 obtain⟨⟨a1,a2⟩,hl,hr,⟨b1,b2⟩,⟨c1,c2⟩,⟨d1,d2⟩,⟨e1,e2⟩,⟨f1,f2⟩,_⟩:=h;obtain⟨s,rs,pc,ct,ha,sa,tr,co⟩:=t;dsimp only at *
 have e:dQ iG NN (rs,(rs.length:Int),0,s,rs,pc,ct,ha,sa,tr,co,())=some (.inr (rs,(rs.length:Int),(rs.length:Int),false,s,rs,pc,ct,ha,sa,tr,co,())):=by
  refine mH (st:=fun k=>(rs,(rs.length:Int),(k:Int),s,rs,pc,ct,ha,sa,tr,co,())) (n:=rs.length) (by unfold NN;omega) ?_ ?_
  ·intro k hk;unfold iG;dsimp only
   (with_reducible refine Ok.cb (fun hca=>?_) (fun hca=>?_))
   ·rw[dH];simp only[Option.bind_some];refine Ok.get (by omega) fun x hx=>?_;have:=hr x (dK hx);unfold jp;rw[decide_eq_true (show x.1≤2 from this.2.1)];simp only[Option.bind_some,Bool.not_true,cond_false]
    (simp (disch:=omega) only [dL,dS,dO,dP])
    exact Ok.ret rfl
   ·omega
  ·unfold iG;dsimp only
   (with_reducible refine Ok.cb (fun hca=>?_) (fun hca=>?_))
   ·omega
   ·exact Ok.ret rfl
 refine Ok.eq ?_;unfold kW;delta dJ
 try dsimp only
 rw[e];dsimp only;rw[hl];refine Ok.need (decide_eq_true a1) (Ok.need (decide_eq_true a2) (Ok.need rfl (Ok.need (decide_eq_true b1) (Ok.need (decide_eq_true b2) (Ok.need (decide_eq_true c1) (Ok.need (decide_eq_true c2) (Ok.need (decide_eq_true d1) (Ok.need (decide_eq_true d2) (Ok.need (decide_eq_true e1) (Ok.need (decide_eq_true e2) (Ok.need (decide_eq_true f1) ?_)))))))))));exact Ok.ret (by rw[decide_eq_true f2])
theorem rB{code:List DIn}{ss bs:List Int}{d:List (List Int)}{n key:Int}{cs:List DCe}{ls:List DLn}{ts:List DTh}(hp:jL code ss d) (h:MOk n ss bs cs ls ts) (hn:n≤1099511627776):ia code ss d bs key cs ls ts=some (true,()):=by
 obtain⟨h1,h2,h3,h4⟩:=h
 have e:dQ kJ NN (ts,4,0,bs,key,cs,ls,ts,())=some (.inr (ts,4,4,false,bs,key,cs,ls,ts,())):=by
  refine mH (st:=fun k=>(ts,4,(k:Int),bs,key,cs,ls,ts,())) (n:=4) (by unfold NN;omega) ?_ ?_
  ·intro k hk;unfold kJ;dsimp only
   (with_reducible refine Ok.cb (fun hca=>?_) (fun hca=>?_))
   ·rw[dH];simp only[Option.bind_some];refine Ok.get (by omega) fun x hx=>?_;have ht:=h4 x (dK hx);rw[DN ⟨ht.state,ht.len,ht.regs,ht.pc,⟨ht.count.1,by have:=ht.count.2;omega⟩,ht.handler,ht.saved,ht.trap,ht.code⟩];simp only[Option.bind_some,Bool.not_true,cond_false]
    (simp (disch:=omega) only [dL,dS,dO,dP])
    exact Ok.ret rfl
   ·omega
  ·exact Ok.ret rfl
 refine Ok.eq ?_;unfold ia;rw[zd hp,o8 h1,DO h2];delta dJ;simp only[Option.bind_some,Bool.not_true,cond_false,bne_self_eq_false,h3];refine Ok.cond (fun h=>by cases h) fun _=>?_;rw[show ((4:Nat):Int)=4 from rfl,e];exact Ok.ret rfl
def eK:List DLn:=[(-1,false,[]),(-1,false,[]),(-1,false,[]),(-1,false,[])]
theorem Dr:k9=some (eK,()):=by kernel_rfl
theorem A8{K:Int→Prop}{cs:List DCe}(h:cs.length=512) (hc:∀c∈cs,lZ K c):jJ K cs eK:=⟨h,hc,rfl,fun i x hx=>by
 have:x=(-1,false,[]):=by
  have:=dK hx;simp only[eK,List.mem_cons,List.not_mem_nil,or_false,or_self] at this;exact this
 subst this
 exact .inl ⟨rfl,rfl,rfl⟩⟩
theorem ig{α:Type}{P:α→Prop}{l:List α}{i:Nat}{f:α→α}(h:∀x∈l,P x) (hf:∀x,P x→P (f x)):∀x∈List.modify l i f,P x:=by
 intro x hx;obtain⟨j,hj⟩:=List.getElem?_of_mem hx;rw[List.getElem?_modify] at hj
 cases hl:l[j]? with
 | none=>rw[hl] at hj;cases hj
 | some y=>
  rw[hl] at hj;have hy:=h y (dK hl)
  injection hj with hj
  subst hj;split
  ·exact hf y hy
  ·exact hy
theorem Kj{code:List DIn}{ss bs:List Int}{d:List (List Int)}{key:Int}(hp:jL code ss d) (hl:LV bs ss):Ok (mi code ss d bs key) fun r=>∃cs,r=(cs,eK,0,())∧cs.length=512∧∀c∈cs,lZ (fun _=>False) c:=by
 unfold mi;rw[o8 hl,Dr];delta dJ;simp only[Option.bind_some,Bool.not_true,cond_false,hp.len,bne_self_eq_false];refine Ok.need (by decide) ?_
 obtain⟨t,e,ht⟩:=Ok.iter (f:=lH) (n:=NN) (s:=(d,(ss.length:Int),0,code,ss,d,bs,key,(),(),List.replicate 512 (0,0),eK,()))
  (P:=fun s'=>∃k:Nat,∃cs,s'=(d,(ss.length:Int),(k:Int),code,ss,d,bs,key,(),(),cs,eK,())∧k≤ss.length∧cs.length=512∧∀c∈cs,lZ (fun _=>False) c)
  (R:=fun r=>∃a b c e cs,r=.inr (a,b,c,e,code,ss,d,bs,key,(),(),cs,eK,())∧cs.length=512∧∀c∈cs,lZ (fun _=>False) c) (m:=fun s'=>(s'.2.1 - s'.2.2.1).toNat)
  ⟨0,_,rfl,by omega,List.length_replicate,fun c hc=>by rw[List.eq_of_mem_replicate hc];exact kD (by decide)⟩ (by unfold NN;dsimp only;have:=hp.sz.2.1;omega) (by
   rintro _ ⟨k,cs,rfl,hk,hc1,hc2⟩;unfold lH;dsimp only;have hlen:=hp.len;have hs4:=hp.sz.2.1
   (with_reducible refine Ok.cb (fun hca=>?_) (fun hca=>?_))
   ·rw[dH];delta dJ;simp only[Option.bind_some];refine Ok.get (by omega) fun x hx=>?_;refine Ok.get (by omega) fun y hy=>?_;have hf:=hp.fit k x y hx hy;have hy2:=hp.sz.2.2 y (dK hy);have hnum:=hp.num x (dK hx);obtain⟨_,hbl,hr⟩:=hl;have hrk:=hr k (by omega);unfold tA at hrk;obtain⟨b,hb⟩:∃b,bs[k]?=some b:=⟨_,List.getElem?_eq_getElem (by omega)⟩;rw[ej hb,ej hy] at hrk
    (with_reducible refine Ok.cb (fun hcb=>?_) (fun hcb=>?_))
    ·omega
    ·refine Ok.loop (P:=fun s'=>∃j:Nat,∃cs,s'=((k:Int),d,(ss.length:Int),(k:Int),x,(x.length:Int),(j:Int),code,ss,d,bs,key,(),(),cs,eK,())∧j≤x.length∧cs.length=512∧∀c∈cs,lZ (fun _=>False) c)
      (R:=fun r=>∃a b c e cs,r=(a,d,(ss.length:Int),(k:Int),b,c,e,false,code,ss,d,bs,key,(),(),cs,eK,())∧cs.length=512∧∀c∈cs,lZ (fun _=>False) c) (m:=fun s'=>(s'.2.2.2.2.2.1 - s'.2.2.2.2.2.2.1).toNat)
      ⟨0,cs,rfl,by omega,hc1,hc2⟩ (by unfold NN;dsimp only;omega) ?_ ?_
     ·rintro _ ⟨j,cs,rfl,hj,hc1,hc2⟩;unfold oi;dsimp only
      (with_reducible refine Ok.cb (fun hcc=>?_) (fun hcc=>?_))
      ·rw[dH,dH];simp only[Option.bind_some];refine Ok.get (by omega) fun v hv=>?_;have hv2:=hnum v (dK hv);rw[show dF bs k=some b from hb];simp only[Option.bind_some]
       (simp (disch:=omega) only [dL,dS,dO,dP])
       refine Ok.nat (by omega) fun a ha=>?_;refine Ok.get (by omega) fun c hc=>?_;refine Ok.get (by omega) fun c' hc'=>?_;exact Ok.ret ⟨⟨j+1,_,rfl,by omega,by rw[List.length_modify];exact hc1,ig hc2 fun z hz=>⟨hz.1,hz.2.1,hv2.1,hv2.2,hz.2.2.2.2⟩⟩,by dsimp only;omega⟩
      ·exact Ok.ret ⟨_,_,_,_,_,rfl,hc1,hc2⟩
     ·rintro _ ⟨a,b,c,e,cs,rfl,hc1,hc2⟩;dsimp only
      (simp (disch:=omega) only [dL,dS,dO,dP])
      exact Ok.ret ⟨⟨k+1,_,rfl,by omega,hc1,hc2⟩,by dsimp only;omega⟩
   ·exact Ok.ret ⟨_,_,_,_,_,rfl,hc1,hc2⟩)
 rw[e];obtain⟨a,b,c,e,cs,rfl,hc1,hc2⟩:=ht;exact Ok.ret ⟨cs,rfl,hc1,hc2⟩
theorem KT{K:Int→Prop}:∀c∈List.replicate 8 ((0:Int),(0:Int)),lZ K c:=fun c hc=>by rw[List.eq_of_mem_replicate hc];exact kD (by decide)
theorem Jv{K:Int→Prop}{s:Int}(h:0≤s∧s≤4):vl K 0 (s,List.replicate 8 (0,0),0,0,-1,-1,0,0):=
 ⟨h,rfl,KT,⟨by dsimp only;omega,by dsimp only;omega⟩,⟨by dsimp only;omega,by dsimp only;omega⟩,⟨by dsimp only;omega,by dsimp only;omega⟩,⟨by dsimp only;omega,by dsimp only;omega⟩,⟨by dsimp only;omega,by dsimp only;omega⟩,⟨by dsimp only;omega,by dsimp only;omega⟩⟩
theorem Hy{code:List DIn}{ss bs:List Int}{d:List (List Int)}{key:Int}(hp:jL code ss d) (hl:LV bs ss):Ok (kY code ss d bs key) fun r=>∃cs ts,r=(bs,key,cs,eK,ts,0,())∧MOk 0 ss bs cs eK ts:=by
 unfold kY;rw[zd hp,o8 hl];simp only[Option.bind_some,Bool.not_true,cond_false,bne_self_eq_false];refine (Kj hp hl).bind ?_;rintro _ ⟨cs,rfl,hc1,hc2⟩;dsimp only;have hbl:=hl.2.1;have hs4:=hp.sz.2.1;refine Ok.need (dN (by omega)) ?_;rw[show List.append [] bs=bs from rfl]
 refine Ok.loop (P:=fun s'=>∃k:Nat,∃ts,s'=((k:Int),(),0,(),(),(),bs,key,cs,eK,ts,())∧k≤4∧ts.length=k∧∀t∈ts,vl (RK bs ss) 0 t)
  (R:=fun r=>∃a b ts,r=(a,b,(),0,(),(),(),bs,key,cs,eK,ts,())∧ts.length=4∧∀t∈ts,vl (RK bs ss) 0 t) (m:=fun s'=>(4 - s'.1).toNat) ⟨0,[],rfl,by omega,rfl,dX⟩ (by unfold NN;dsimp only;omega) ?_ ?_
 ·rintro _ ⟨k,ts,rfl,hk,ht1,ht2⟩;unfold nX;dsimp only
  (with_reducible refine Ok.cb (fun hca=>?_) (fun hca=>?_))
  ·refine Ok.need (by decide) ?_;refine Ok.bind (P:=fun r=>∃s,(0≤s∧s≤4)∧r=((k:Int),(),0,(),(),(),bs,key,cs,eK,ts,s,List.replicate 8 (0,0),0,0,-1,-1,0,0,())) ?_ ?_
   ·(with_reducible refine Ok.cb (fun hcb=>?_) (fun hcb=>?_))
    ·exact Ok.ret ⟨1,by decide,rfl⟩
    ·exact Ok.ret ⟨0,by decide,rfl⟩
   ·rintro _ ⟨s,hs,rfl⟩;dsimp only;refine Ok.need (dN (by simp;omega)) ?_
    (simp (disch:=omega) only [dL,dS,dO,dP])
    exact Ok.ret ⟨⟨k+1,_,rfl,by omega,by rw[eJ,ht1];rfl,ir ht2 (all_cons (Jv hs) dX)⟩,by dsimp only;omega⟩
  ·exact Ok.ret ⟨_,_,_,rfl,by omega,ht2⟩
 ·rintro _ ⟨a,b,ts,rfl,ht1,ht2⟩;exact Ok.ret ⟨cs,ts,rfl,hl,A8 hc1 fun c hc=>(hc2 c hc).mono fun _ h=>h.elim,ht1,ht2⟩
def Pr(ss:List Int) (c:DCn):Prop:=
 ((c.1=0∨c.1=2)∧c.2.2.1=0∧c.2.2.2=0∧W16 c.2.1)∨(c.1=1∧c.2.1=0∧0≤c.2.2.1∧∃n,ss[c.2.2.1.toNat]?=some n∧0≤c.2.2.2∧c.2.2.2 < n)
theorem Bg{ss:List Int}{c:DCn}(hs:vm ss) (h:Pr ss c):iV c.1 c.2.1 c.2.2.1 c.2.2.2=some (true,()):=by
 refine Ok.eq ?_;unfold iV;rcases h with ⟨h1,h2,h3,_⟩ | ⟨h1,h2,h3,n,h4,h5,h6⟩
 ·rw[h2,h3]
  rcases h1 with h1 | h1<;>rw[h1]<;>exact Ok.ret rfl
 ·have hn:=hs.2.2 n (dK h4);have hl:=(List.getElem?_eq_some_iff.1 h4).1;have hs4:=hs.2.1;rw[h1,h2,show (c.2.2.1==-1)=false by rw[beq_eq_false_iff_ne];omega];refine Ok.cond (fun h=>by cases h) fun _=>Ok.cond (fun h=>by cases h) fun _=>Ok.need rfl ?_;refine Ok.cond (fun h=>by cases h) fun _=>Ok.need rfl ?_;exact Ok.need (decide_eq_true h3) (Ok.need (decide_eq_true (by omega)) (Ok.need (decide_eq_true h5) (Ok.ret (by rw[decide_eq_true (show c.2.2.2 < 32 by omega)]))))
theorem i3{ss:List Int}{l:List DCn}{n:Int}(hs:vm ss) (h:∀c∈l,Pr ss c) (hn:(l.length:Int)≤n) (hl:l.length≤1000):eV l n=some (true,()):=by
 have e:dQ iF NN (l,n,l,(l.length:Int),0,())=some (.inr (l,n,l,(l.length:Int),(l.length:Int),false,())):=by
  refine mH (st:=fun k=>(l,n,l,(l.length:Int),(k:Int),())) (n:=l.length) (by unfold NN;omega) ?_ ?_
  ·intro k hk;unfold iF;dsimp only
   (with_reducible refine Ok.cb (fun hca=>?_) (fun hca=>?_))
   ·rw[dH];simp only[Option.bind_some];refine Ok.get (by omega) fun x hx=>?_;rw[Bg hs (h x (dK hx))];simp only[Option.bind_some,Bool.not_true,cond_false]
    (simp (disch:=omega) only [dL,dS,dO,dP])
    exact Ok.ret rfl
   ·omega
  ·unfold iF;dsimp only
   (with_reducible refine Ok.cb (fun hca=>?_) (fun hca=>?_))
   ·omega
   ·exact Ok.ret rfl
 refine Ok.eq ?_;unfold eV;delta dJ
 try dsimp only
 rw[e];exact Ok.ret (congrArg (fun b=>(b,())) (decide_eq_true hn))
def KJ(d:List (List DCn)) (o:DOp):Prop:=(o.1=-1∧o.2.1=0∧o.2.2=false)∨(0≤o.1∧∃x,d[o.1.toNat]?=some x∧0≤o.2.1∧o.2.1≤x.length)
structure fc (ss:List Int) (d:List (List DCn)) (os:List DOp):Prop where
 dlen:d.length≤4
 flen:∀x∈d,x.length≤64
 cells:∀x∈d,∀c∈x,Pr ss c
 olen:os.length=8
 opens:∀o∈os,KJ d o
theorem wA{ss:List Int}{d:List (List DCn)}{os:List DOp}(hs:vm ss) (h:fc ss d os):je d os=some (true,()):=by
 obtain⟨h1,h2,h3,h4,h5⟩:=h
 have e0:dQ iE NN (d,(d.length:Int),0,d,os,())=some (.inr (d,(d.length:Int),(d.length:Int),false,d,os,())):=by
  refine mH (st:=fun k=>(d,(d.length:Int),(k:Int),d,os,())) (n:=d.length) (by unfold NN;omega) ?_ ?_
  ·intro k hk;unfold iE;dsimp only
   (with_reducible refine Ok.cb (fun hca=>?_) (fun hca=>?_))
   ·rw[dH];simp only[Option.bind_some];refine Ok.get (by omega) fun x hx=>?_;have:=h2 x (dK hx);rw[i3 hs (h3 x (dK hx)) (by omega) (by omega)];simp only[Option.bind_some,Bool.not_true,cond_false]
    (simp (disch:=omega) only [dL,dS,dO,dP])
    exact Ok.ret rfl
   ·omega
  ·unfold iE;dsimp only
   (with_reducible refine Ok.cb (fun hca=>?_) (fun hca=>?_))
   ·omega
   ·exact Ok.ret rfl
 have e2:dQ kH NN (os,8,0,d,os,())=some (.inr (os,8,8,false,d,os,())):=by
  refine mH (st:=fun k=>(os,8,(k:Int),d,os,())) (n:=8) (by unfold NN;omega) ?_ ?_
  ·intro k hk;unfold kH;dsimp only
   (with_reducible refine Ok.cb (fun hca=>?_) (fun hca=>?_))
   ·rw[dH];simp only[Option.bind_some];refine Ok.get (by omega) fun x hx=>?_;obtain⟨f,o,w⟩:=x;refine Ok.bind (P:=(·=(os,8,(k:Int),false,d,os,f,o,w,()))) ?_ ?_
    ·rcases h5 _ (dK hx) with ⟨g1,g2,g3⟩ | ⟨g1,y,g2,g3,g4⟩
     ·have g1:f=-1:=g1;have g2:o=0:=g2;have g3:w=false:=g3;subst g1 g2 g3;dsimp only;refine Ok.need rfl (Ok.cond (fun h=>by cases h) fun _=>Ok.cond (fun h=>by cases h) fun _=>Ok.cond (fun h=>by cases h) fun _=>Ok.cond (fun h=>?_) fun _=>Ok.cond (fun h=>by cases h) fun _=>Ok.ret rfl);have h:(-1:Int)≥(d.length:Int):=of_decide_eq_true h;omega
     ·dsimp only at g1 g2 g3 g4 ⊢;have hl:=(List.getElem?_eq_some_iff.1 g2).1;rw[show (f==-1)=false by rw[beq_eq_false_iff_ne];omega,decide_eq_false (show ¬ f < -1 by omega)];simp only[cond_false];refine Ok.cond (fun h=>?_) fun _=>Ok.need (decide_eq_true g1) ?_
      ·have h:f≥(d.length:Int):=of_decide_eq_true h;omega
      ·rw[decide_eq_false (show ¬ o < 0 by omega)];simp only[cond_false];refine Ok.nat g1 fun j hj=>?_;refine Ok.get (by omega) fun z hz=>?_
       have hjj:j=f.toNat:=by omega
       subst hjj;rw[g2] at hz
       injection hz with hz
       subst hz;exact Ok.ret (by rw[decide_eq_false (show ¬ o > dJ y.length from fun h=>by rw[dP] at h;omega)])
    ·rintro _ rfl;dsimp only;simp only[cond_false]
     (simp (disch:=omega) only [dL,dS,dO,dP])
     exact Ok.ret rfl
   ·omega
  ·exact Ok.ret rfl
 refine Ok.eq ?_;unfold je;delta dJ
 try dsimp only
 (with_reducible refine Ok.cb (fun hca=>?_) (fun hca=>?_))
 ·omega
 ·rw[h4];refine Ok.cond (fun h=>by cases h) fun _=>?_;rw[e0];dsimp only;rw[h4,show ((8:Nat):Int)=8 from rfl,e2];exact Ok.ret rfl
def LJ(ss:List Int) (i:Nat) (x:DOu):Prop:=x.1=i∧0≤x.2.1∧x.2.1 < 2∧x.2.2.length≤16∧∀c∈x.2.2,Pr ss c
structure vn (ss:List Int) (ck rn:List Int) (ins:List (List Int)) (d:List (List DCn)) (os:List DOp) (us:List DOu):Prop where
 clock:ck.length≤64∧∀w∈ck,W16 w
 rand:rn.length≤64∧∀w∈rn,W16 w
 ilen:ins.length≤2
 inp:∀x∈ins,x.length≤64∧∀w∈x,W16 w
 files:fc ss d os
 ulen:us.length≤200
 outs:∀(i:Nat) x,us[i]?=some x→LJ ss i x
theorem Ef{ss:List Int}{us:List DOu}(hl:us.length≤200) (h:∀(i:Nat) x,us[i]?=some x→LJ ss i x):jd us=some (true,()):=by
 have e:dQ gK NN (us,(us.length:Int),0,())=some (.inr (us,(us.length:Int),(us.length:Int),false,())):=by
  refine mH (st:=fun k=>(us,(us.length:Int),(k:Int),())) (n:=us.length) (by unfold NN;omega) ?_ ?_
  ·intro k hk;unfold gK;dsimp only
   (with_reducible refine Ok.cb (fun hca=>?_) (fun hca=>?_))
   ·rw[dH];simp only[Option.bind_some];refine Ok.get (by omega) fun x hx=>?_;obtain⟨g1,g2,g3,g4,g5⟩:=h k x hx;rw[g1,decide_eq_false (show ¬ x.2.1 < 0 by omega),decide_eq_false (show ¬ x.2.1≥2 by omega)];simp only[bne_self_eq_false,cond_false,Option.bind_some];refine Ok.cond (fun h=>?_) fun _=>?_
    ·have h:(x.2.2.length:Int) > 16:=of_decide_eq_true h;omega
    ·(simp (disch:=omega) only [dL,dS,dO,dP])
     exact Ok.ret rfl
   ·omega
  ·unfold gK;dsimp only
   (with_reducible refine Ok.cb (fun hca=>?_) (fun hca=>?_))
   ·omega
   ·exact Ok.ret rfl
 refine Ok.eq ?_;unfold jd;delta dJ
 try dsimp only
 rw[e];exact Ok.ret rfl
theorem rA{ss ck rn:List Int}{ins:List (List Int)}{d:List (List DCn)}{os:List DOp}{us:List DOu}(hs:vm ss) (h:vn ss ck rn ins d os us):hZ ck rn ins d os us=some (true,()):=by
 have e0:dQ iD NN (ins,(ins.length:Int),0,ck,rn,ins,d,os,us,())=some (.inr (ins,(ins.length:Int),(ins.length:Int),false,ck,rn,ins,d,os,us,())):=by
  refine mH (st:=fun k=>(ins,(ins.length:Int),(k:Int),ck,rn,ins,d,os,us,())) (n:=ins.length) (by unfold NN;have:=h.ilen;omega) ?_ ?_
  ·intro k hk;have hil:=h.ilen;unfold iD;dsimp only
   (with_reducible refine Ok.cb (fun hca=>?_) (fun hca=>?_))
   ·rw[dH];delta dJ;simp only[Option.bind_some];refine Ok.get (by omega) fun x hx=>?_;have:=(h.inp x (dK hx)).1
    (with_reducible refine Ok.cb (fun hcb=>?_) (fun hcb=>?_))
    ·omega
    ·(simp (disch:=omega) only [dL,dS,dO,dP])
     exact Ok.ret rfl
   ·omega
  ·unfold iD;dsimp only
   (with_reducible refine Ok.cb (fun hca=>?_) (fun hca=>?_))
   ·omega
   ·exact Ok.ret rfl
 have e1:dQ iC NN (us,(us.length:Int),0,ck,rn,ins,d,os,us,())=some (.inr (us,(us.length:Int),(us.length:Int),false,ck,rn,ins,d,os,us,())):=by
  refine mH (st:=fun k=>(us,(us.length:Int),(k:Int),ck,rn,ins,d,os,us,())) (n:=us.length) (by unfold NN;have:=h.ulen;omega) ?_ ?_
  ·intro k hk;have hul:=h.ulen;unfold iC;dsimp only
   (with_reducible refine Ok.cb (fun hca=>?_) (fun hca=>?_))
   ·rw[dH];simp only[Option.bind_some];refine Ok.get (by omega) fun x hx=>?_;obtain⟨_,_,_,g4,g5⟩:=h.outs k x hx;rw[i3 hs g5 (by omega) (by omega)];simp only[Option.bind_some,Bool.not_true,cond_false]
    (simp (disch:=omega) only [dL,dS,dO,dP])
    exact Ok.ret rfl
   ·omega
  ·unfold iC;dsimp only
   (with_reducible refine Ok.cb (fun hca=>?_) (fun hca=>?_))
   ·omega
   ·exact Ok.ret rfl
 have c1:=h.clock.1;have c2:=h.rand.1;have c3:=h.ilen;have c4:=h.ulen;refine Ok.eq ?_;unfold hZ;delta dJ
 try dsimp only
 rw[e0];dsimp only;rw[e1];dsimp only;refine Ok.need (decide_eq_true (show (ck.length:Int)≤64 by omega)) (Ok.need (decide_eq_true (show (rn.length:Int)≤64 by omega)) (Ok.need (decide_eq_true (show (ins.length:Int)≤2 by omega)) ?_));rw[wA hs h.files];simp only[Option.bind_some,cond_true];refine Ok.need (decide_eq_true (show (us.length:Int)≤200 by omega)) ?_;rw[Ef h.ulen h.outs];exact Ok.ret rfl
def nF:List DOp:=List.replicate 8 (-1,0,false)
theorem If(a:List (List Int)):dQ pI NN (a,8,0,(),(),(),List.replicate 8 (0,(0,false)),())=some (a,8,8,false,(),(),(),nF,()):=by
 rfl
theorem Ik{ss:List Int}{a:List (List Int)}(hs:vm ss) (hl:a.length≤4) (h:∀x∈a,x.length≤64∧∀w∈x,W16 w):Ok (nc a) fun r=>∃d,r=(d,nF,0,())∧fc ss d nF:=by
 unfold nc;refine Ok.need (by decide) ?_;dsimp only;rw[show dJ (List.replicate 8 ((0:Int),((0:Int),false))).length=8 from rfl,If];delta dJ;simp only[Option.bind_some]
 refine Ok.loop (P:=fun s'=>∃k:Nat,∃d,s'=(a,(a.length:Int),(k:Int),(),(),d,nF,())∧k≤a.length∧d.length=k∧(∀x∈d,x.length≤64)∧∀x∈d,∀c∈x,Pr ss c)
  (R:=fun r=>∃e b c f d,r=(e,b,c,f,(),(),d,nF,())∧d.length≤4∧(∀x∈d,x.length≤64)∧∀x∈d,∀c∈x,Pr ss c) (m:=fun s'=>(s'.2.1 - s'.2.2.1).toNat) ⟨0,[],rfl,by omega,rfl,dX,dX⟩ (by unfold NN;dsimp only;omega) ?_ ?_
 ·rintro _ ⟨k,d,rfl,hk,hd1,hd2,hd3⟩;unfold pG;dsimp only
  (with_reducible refine Ok.cb (fun hca=>?_) (fun hca=>?_))
  ·rw[dH];delta dJ;simp only[Option.bind_some];refine Ok.get (by omega) fun x hx=>?_;obtain⟨hx1,hx2⟩:=h x (dK hx)
   refine Ok.loop (P:=fun s'=>∃j:Nat,∃l,s'=(a,(a.length:Int),(k:Int),x,(x.length:Int),(j:Int),(),(),d,nF,l,())∧j≤x.length∧l.length=j∧∀c∈l,Pr ss c)
    (R:=fun r=>∃b c e f l,r=(a,(a.length:Int),(k:Int),b,c,e,f,(),(),d,nF,l,())∧l.length≤64∧∀c∈l,Pr ss c) (m:=fun s'=>(s'.2.2.2.2.1 - s'.2.2.2.2.2.1).toNat) ⟨0,[],rfl,by omega,rfl,dX⟩ (by unfold NN;dsimp only;omega) ?_ ?_
   ·rintro _ ⟨j,l,rfl,hj,hl1,hl2⟩;unfold pH;dsimp only
    (with_reducible refine Ok.cb (fun hcb=>?_) (fun hcb=>?_))
    ·rw[dH];simp only[Option.bind_some];refine Ok.get (by omega) fun v hv=>?_;refine Ok.need (dN (by simp;omega)) ?_
     (simp (disch:=omega) only [dL,dS,dO,dP])
     exact Ok.ret ⟨⟨j+1,_,rfl,by omega,by rw[eJ,hl1];rfl,ir hl2 (all_cons (.inl ⟨.inl rfl,rfl,rfl,hx2 v (dK hv)⟩) dX)⟩,by dsimp only;omega⟩
    ·exact Ok.ret ⟨_,_,_,_,_,rfl,by omega,hl2⟩
   ·rintro _ ⟨b,c,e,f,l,rfl,hl1,hl2⟩;dsimp only;refine Ok.need (dN (by simp;omega)) ?_
    (simp (disch:=omega) only [dL,dS,dO,dP])
    exact Ok.ret ⟨⟨k+1,_,rfl,by omega,by rw[eJ,hd1];rfl,ir hd2 (all_cons hl1 dX),ir hd3 (all_cons hl2 dX)⟩,by dsimp only;omega⟩
  ·exact Ok.ret ⟨_,_,_,_,_,rfl,by omega,hd2,hd3⟩
 ·rintro _ ⟨e,b,c,f,d,rfl,hd1,hd2,hd3⟩;have hf:fc ss d nF:=⟨hd1,hd2,hd3,rfl,fun o ho=>by rw[List.eq_of_mem_replicate ho];exact .inl ⟨rfl,rfl,rfl⟩⟩;dsimp only;rw[wA hs hf];simp only[Option.bind_some,Bool.not_true,cond_false];exact Ok.ret ⟨d,rfl,hf⟩
theorem uR{a:List (List Int)}(hl:a.length≤1000) (h:∀x∈a,x.length≤1000):fe a=some (a,()):=by
 have e:dQ fa NN (a,(a.length:Int),0,[],())=some (a,(a.length:Int),(a.length:Int),false,a,()):=by
  have:=mH (f:=fa) (N:=NN) (st:=fun k=>(a,(a.length:Int),(k:Int),a.take k,())) (n:=a.length) (t:=(a,(a.length:Int),(a.length:Int),false,a,())) (by unfold NN;omega) ?_ ?_
  ·exact this
  ·intro k hk;unfold fa;dsimp only
   (with_reducible refine Ok.cb (fun hca=>?_) (fun hca=>?_))
   ·rw[dH];simp only[Option.bind_some];refine Ok.get (by omega) fun x hx=>?_;have:=h x (dK hx);refine Ok.need (dN (by omega)) (Ok.need (dN (by simp;omega)) ?_)
    (simp (disch:=omega) only [dL,dS,dO,dP])
    refine Ok.ret ?_;rw[List.take_add_one,hx];rfl
   ·omega
  ·unfold fa;dsimp only
   (with_reducible refine Ok.cb (fun hca=>?_) (fun hca=>?_))
   ·omega
   ·rw[List.take_length];exact Ok.ret rfl
 refine Ok.eq ?_;unfold fe;delta dJ
 try dsimp only
 rw[e];exact Ok.ret rfl
theorem Ee{ss l:List Int}{k:Int}(hs:vm ss) (h:DOk l k):Ok (j7 l k) fun r=>∃ck rn ins d os k',r=(ck,rn,ins,d,os,(),l,k',())∧vn ss ck rn ins d os []∧DOk l k':=by
 unfold j7;refine (mZ h (by decide)).bind ?_;rintro _ ⟨w1,k1,rfl,h1,g1,d1⟩;dsimp only;refine (mZ d1 (by decide)).bind ?_;rintro _ ⟨w2,k2,rfl,h2,g2,d2⟩;dsimp only;refine (mZ d2 (by decide)).bind ?_;rintro _ ⟨w3,k3,rfl,h3,g3,d3⟩;dsimp only;refine (mZ d3 (by decide)).bind ?_;rintro _ ⟨w4,k4,rfl,h4,g4,d4⟩;dsimp only;refine (mZ d4 (by decide)).bind ?_;rintro _ ⟨w5,k5,rfl,h5,g5,d5⟩;dsimp only;refine (mZ d5 (by decide)).bind ?_;rintro _ ⟨w6,k6,rfl,h6,g6,d6⟩;dsimp only;refine Ok.bind (P:=fun r=>∃ck rn ins d os,r=(ck,rn,ins,d,os,(),0,())∧vn ss ck rn ins d os []) ?_ ?_
 ·unfold nb;refine (Ik (ss:=ss) (a:=[w1,w2]) hs (by simp) (all_cons ⟨by omega,g1⟩ (all_cons ⟨by omega,g2⟩ dX))).bind ?_;rintro _ ⟨d,rfl,hf⟩;dsimp only;refine Ok.cond (fun h=>by cases h) fun _=>?_;refine Ok.need (dN (by omega)) (Ok.need (dN (by omega)) ?_);have ho:vn ss w5 w6 [w3,w4] d nF []:=⟨⟨by omega,g5⟩,⟨by omega,g6⟩,by simp,all_cons ⟨by omega,g3⟩ (all_cons ⟨by omega,g4⟩ dX),hf,by simp,fun i x hx=>by simp at hx⟩;rw[uR (by simp) (all_cons (by omega) (all_cons (by omega) dX))];simp only[Option.bind_some];rw[show List.append [] w5=w5 from rfl,show List.append [] w6=w6 from rfl,rA hs ho];exact Ok.ret ⟨_,_,_,_,_,rfl,ho⟩
 ·rintro _ ⟨ck,rn,ins,d,os,rfl,ho⟩;exact Ok.ret ⟨_,_,_,_,_,_,rfl,ho,d6⟩
theorem Ak{ss:List Int}{r o n:Int}(h1:0≤r) (h2:ss[r.toNat]?=some n) (h3:0≤o) (h4:o < n):eZ ss r o=some (true,()):=by
 refine Ok.eq ?_;have hl:=(List.getElem?_eq_some_iff.1 h2).1;unfold eZ;refine Ok.need (decide_eq_true h1) (Ok.need (decide_eq_true (show r < (ss.length:Int) by omega)) (Ok.need (decide_eq_true h3) ?_));obtain⟨j,rfl⟩:∃j:Nat,r=j:=⟨r.toNat,by omega⟩;rw[dH];simp only[Option.bind_some];rw[show dF ss j=some n from h2];simp only[Option.bind_some];exact Ok.ret (by rw[decide_eq_true h4])
theorem lM{ss:List Int}{c:DCn}(h:Pr ss c):fT ss c.1 c.2.1 c.2.2.1 c.2.2.2=some (true,()):=by
 refine Ok.eq ?_;unfold fT;rcases h with ⟨h1,h2,h3,_⟩ | ⟨h1,h2,h3,n,h4,h5,h6⟩
 ·rw[h2,h3]
  rcases h1 with h1 | h1<;>rw[h1]<;>exact Ok.ret rfl
 ·rw[h1,h2,Ak h3 h4 h5 h6];exact Ok.ret rfl
theorem BC{ss:List Int}{d:List (List DCn)}{os:List DOp}(h:fc ss d os):jW ss d os=some (true,()):=by
 obtain⟨h1,h2,h3,h4,h5⟩:=h
 have e0:dQ hU NN (ss,d,(d.length:Int),0,d,os,())=some (.inr (ss,d,(d.length:Int),(d.length:Int),false,d,os,())):=by
  refine mH (st:=fun k=>(ss,d,(d.length:Int),(k:Int),d,os,())) (n:=d.length) (by unfold NN;omega) ?_ ?_
  ·intro k hk;unfold hU;dsimp only
   (with_reducible refine Ok.cb (fun hca=>?_) (fun hca=>?_))
   ·rw[dH];delta dJ;simp only[Option.bind_some];refine Ok.get (by omega) fun x hx=>?_;have hx1:=h2 x (dK hx)
    have e:dQ hY NN (ss,d,(d.length:Int),(k:Int),x,(x.length:Int),0,d,os,())=some (.inr (ss,d,(d.length:Int),(k:Int),x,(x.length:Int),(x.length:Int),false,d,os,())):=by
     refine mH (st:=fun j=>(ss,d,(d.length:Int),(k:Int),x,(x.length:Int),(j:Int),d,os,())) (n:=x.length) (by unfold NN;omega) ?_ ?_
     ·intro j hj;unfold hY;dsimp only
      (with_reducible refine Ok.cb (fun hca=>?_) (fun hca=>?_))
      ·rw[dH];simp only[Option.bind_some];refine Ok.get (by omega) fun y hy=>?_;rw[lM (h3 x (dK hx) y (dK hy))];simp only[Option.bind_some,Bool.not_true,cond_false]
       (simp (disch:=omega) only [dL,dS,dO,dP])
       exact Ok.ret rfl
      ·omega
     ·unfold hY;dsimp only
      (with_reducible refine Ok.cb (fun hca=>?_) (fun hca=>?_))
      ·omega
      ·exact Ok.ret rfl
    rw[e];dsimp only
    (simp (disch:=omega) only [dL,dS,dO,dP])
    exact Ok.ret rfl
   ·omega
  ·unfold hU;dsimp only
   (with_reducible refine Ok.cb (fun hca=>?_) (fun hca=>?_))
   ·omega
   ·exact Ok.ret rfl
 refine Ok.eq ?_;unfold jW;delta dJ
 try dsimp only
 rw[e0];exact Ok.ret rfl
theorem copy17_ok{d:List (List DCn)}{os:List DOp}(h1:d.length≤1000) (h2:∀x∈d,x.length≤1000) (h3:os.length≤1000):ft d os=some (d,os,()):=by
 have e:dQ gQ NN (d,(d.length:Int),0,d,os,(),(),[],os,())=some (d,(d.length:Int),(d.length:Int),false,d,os,(),(),d,os,()):=by
  have:=mH (f:=gQ) (N:=NN) (st:=fun k=>(d,(d.length:Int),(k:Int),d,os,(),(),d.take k,os,())) (n:=d.length) (t:=(d,(d.length:Int),(d.length:Int),false,d,os,(),(),d,os,())) (by unfold NN;omega) ?_ ?_
  ·exact this
  ·intro k hk;unfold gQ;dsimp only
   (with_reducible refine Ok.cb (fun hca=>?_) (fun hca=>?_))
   ·rw[dH];simp only[Option.bind_some];refine Ok.get (by omega) fun x hx=>?_;have:=h2 x (dK hx);refine Ok.need (dN (by omega)) (Ok.need (dN (by simp;omega)) ?_)
    (simp (disch:=omega) only [dL,dS,dO,dP])
    refine Ok.ret ?_;rw[List.take_add_one,hx];rfl
   ·omega
  ·unfold gQ;dsimp only
   (with_reducible refine Ok.cb (fun hca=>?_) (fun hca=>?_))
   ·omega
   ·rw[List.take_length];exact Ok.ret rfl
 refine Ok.eq ?_;unfold ft;refine Ok.need (dN (by omega)) ?_;rw[show List.append [] os=os from rfl];delta dJ
 try dsimp only
 rw[e];exact Ok.ret rfl
theorem Bb{us:List DOu}(h1:us.length≤1000) (h2:∀x∈us,x.2.2.length≤1000):iS us=some (us,()):=by
 have e:dQ gP NN (us,(us.length:Int),0,[],())=some (us,(us.length:Int),(us.length:Int),false,us,()):=by
  have:=mH (f:=gP) (N:=NN) (st:=fun k=>(us,(us.length:Int),(k:Int),us.take k,())) (n:=us.length) (t:=(us,(us.length:Int),(us.length:Int),false,us,())) (by unfold NN;omega) ?_ ?_
  ·exact this
  ·intro k hk;unfold gP;dsimp only
   (with_reducible refine Ok.cb (fun hca=>?_) (fun hca=>?_))
   ·rw[dH];simp only[Option.bind_some];refine Ok.get (by omega) fun x hx=>?_;have:=h2 x (dK hx);refine Ok.need (dN (by omega)) (Ok.need (dN (by simp;omega)) ?_)
    (simp (disch:=omega) only [dL,dS,dO,dP])
    refine Ok.ret ?_;rw[List.take_add_one,hx];rfl
   ·omega
  ·unfold gP;dsimp only
   (with_reducible refine Ok.cb (fun hca=>?_) (fun hca=>?_))
   ·omega
   ·rw[List.take_length];exact Ok.ret rfl
 refine Ok.eq ?_;unfold iS;delta dJ
 try dsimp only
 rw[e];exact Ok.ret rfl
theorem Ba{ss ck rn:List Int}{ins:List (List Int)}{d:List (List DCn)}{os:List DOp}{us:List DOu}(h:vn ss ck rn ins d os us):kp ck rn ins d os us=some (ck,rn,ins,d,os,us,()):=by
 have h1:=h.clock.1;have h2:=h.rand.1;have h3:=h.ilen;have h4:=h.ulen;have h5:=h.files.olen;have h6:=h.files.dlen;refine Ok.eq ?_;unfold kp;refine Ok.need (dN (by omega)) (Ok.need (dN (by omega)) ?_)
 rw[uR (by omega) (fun x hx=>by have:=(h.inp x hx).1;omega),copy17_ok (by omega) (fun x hx=>by have:=h.files.flen x hx;omega) (by omega),Bb (by omega) (fun x hx=>by
  obtain⟨i,hi⟩:=List.getElem?_of_mem hx;have:=(h.outs i x hi).2.2.2.1
  omega)]
 exact Ok.ret rfl
theorem Gp:qb=some ([-1,-1,-1,-1],[[],[],[],[]],()):=by kernel_rfl
structure g9 (ow:List Int) (qs:List (List Int)):Prop where
 olen:ow.length=4
 qlen:qs.length=4
 owner:∀o∈ow,-1≤o∧o≤3
 queue:∀q∈qs,q.Nodup∧∀t∈q,0≤t∧t≤3
theorem Gi:∀{n:Nat}{q:List Int},q.Nodup→(∀t∈q,0≤t∧t < n)→q.length≤n:=by
 intro n
 induction n with
 | zero=>
  intro q _ h
  cases q with
  | nil=>simp
  | cons x q=>have:=h x (by simp);omega
 | succ n ih=>
  intro q hq h;have h1:(q.erase (n:Int)).Nodup:=hq.erase _
  have h2:∀t∈q.erase (n:Int),0≤t∧t < n:=fun t ht=>by
   have hm:=(hq.mem_erase_iff).1 ht;have:=h t hm.2;have:=hm.1;omega
  have h3:=ih h1 h2;have h4:=List.length_erase (a:=(n:Int)) (l:=q);split at h4<;>omega
theorem g9.qlen4{ow:List Int}{qs:List (List Int)}(h:g9 ow qs) {q:List Int}(hq:q∈qs):q.length≤4:=Gi (h.queue q hq).1 fun t ht=>by have:=(h.queue q hq).2 t ht;omega
theorem La:g9 [-1,-1,-1,-1] [[],[],[],[]]:=⟨rfl,rfl,by decide,by decide⟩
theorem IS{code:List DIn}{ss bs:List Int}{dt:List (List Int)}{key:Int}{ck rn:List Int}{ins:List (List Int)}{d:List (List DCn)}{os:List DOp}{us:List DOu}(hp:jL code ss dt) (hl:LV bs ss) (ho:vn ss ck rn ins d os us) :
 Ok (kN code ss dt bs key ck rn ins d os us) fun r=>∃cs ts,r=(code,ss,dt,bs,key,cs,eK,ts,ck,rn,ins,d,os,us,[-1,-1,-1,-1],[[],[],[],[]],(),[-1,-1,-1,-1],0,())∧MOk 0 ss bs cs eK ts:=by
 unfold kN;refine (Hy hp hl).bind ?_;rintro _ ⟨cs,ts,rfl,hm⟩;dsimp only;rw[rA hp.sz ho,BC ho.files,Ba ho,Gp];simp only[Option.bind_some,Bool.not_true,cond_false,bne_self_eq_false]
 have e:dQ nU NN (0,(),(),(),(),0,(),(),(),(),(),(),(),(),(),(),(),(),(),code,ss,dt,bs,key,cs,eK,ts,ck,rn,ins,d,os,us,[-1,-1,-1,-1],[[],[],[],[]],(),[],())
  = some (4,false,(),(),(),(),0,(),(),(),(),(),(),(),(),(),(),(),(),(),code,ss,dt,bs,key,cs,eK,ts,ck,rn,ins,d,os,us,[-1,-1,-1,-1],[[],[],[],[]],(),[-1,-1,-1,-1],()):=rfl
 rw[e];exact Ok.ret ⟨cs,ts,rfl,hm⟩
end Go.Proofs.YtpodeigolpjeeaaGreat
