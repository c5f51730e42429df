/- Part of the proof; no condition. -/
import Derived.Test.YtoldehogdgdhmaaGreatMd
import Derived.WalkKit
import Derived.WalkSpells
import Derived.Handy
import Derived.OpenShut
set_option linter.unusedVariables false
set_option linter.unusedSimpArgs false
namespace Go.Proofs.YtoldehogdgdhmaaGreat
open Go.RowKit
set_option maxRecDepth 100000
noncomputable section
def nB(a0:Int)(a1:Int)(a2:Int)(a3:Int)(a4:Int)(a5:Int)(a6:LDCn)(a7:LDCn)(a8:Int)(a9:Int)(a10:Int)(a11:Int)(a12:Int)(a13:Int)(a14:LDCn)(a15:LDCn):Option (Bool×Unit):=
bif(a0==a8)then(bif(a1==a9)then(bif(a2==a10)then(bif(a3==a11)then(bif(a4==a12)then(bif(a5==a13)then((fX a6 a14).bind λ(x0,_)=>
bif x0 then((fX a7 a15).bind λ(x1,_)=>
some (x1,()))else
some (false,()))else
some (false,()))else
some (false,()))else
some (false,()))else
some (false,()))else
some (false,()))else
some (false,())
def DB:X.Cfg:=⟨E0,[lc],[],[]⟩
def wd:Ctr:=⟨50,140,[.agg uac,.agg uac],[],[⟨uab,[.one],[]⟩],ap16 nB⟩
theorem C5:Lk 2 wd:=ls DB (aC ox aN)
def nA(a0:Int)(a1:Int)(a2:Int)(a3:Int)(a4:LDCn)(a5:Int)(a6:Bool)(a7:Int)(a8:Int)(a9:Int)(a10:Int)(a11:LDCn)(a12:Int)(a13:Bool):Option (Bool×Unit):=
let x0:Bool:=((a0==a7)&&((a1==a8)&&((a2==a9)&&((a3==a10)&&true))));
bif x0 then((fX a4 a11).bind λ(x1,_)=>
bif x1 then(bif(a5==a12)then(some ((a6==a13),()))else
some (false,()))else
some (false,()))else
some (false,())
def Dy:X.Cfg:=⟨E0,[lc],[],[]⟩
def vY:Ctr:=⟨39,141,[.agg Xad,.agg Xad],[],[⟨uab,[.one],[]⟩],ap14 nA⟩
theorem C3:Lk 2 vY:=ls Dy (aC ox aN)
def mM:LDEn×T0i->Option ((LDEn×T0i)⊕((Bool×Unit)⊕(LDEn×T0y))):=λ(v0,v1,v2,v3,_)=>
bif(decide (v3<v2))then(((d9 v3).bind λx0=>
(dJ v0 x0).bind λx1=>
(d9 v3).bind λx2=>
(dJ v1 x2).bind λx3=>
bif(x1.1 != x3.1)then(some (v0,v1,v2,v3,true,()))else
(d9 v3).bind λx4=>
(dJ v0 x4).bind λx5=>
(d9 v3).bind λx6=>
(dJ v1 x6).bind λx7=>
bif(x5.2.1 != x7.2.1)then(some (v0,v1,v2,v3,true,()))else
(d9 v3).bind λx8=>
(dJ v0 x8).bind λx9=>
(d9 v3).bind λac=>
(dJ v1 ac).bind λae=>
bif(x9.2.2.1 != ae.2.2.1)then(some (v0,v1,v2,v3,true,()))else
(d9 v3).bind λaf=>
(dJ v0 af).bind λag=>
(d9 v3).bind λah=>
(dJ v1 ah).bind λai=>
(nB ag.2.2.2.1 ag.2.2.2.2.1 ag.2.2.2.2.2.1 ag.2.2.2.2.2.2.1 ag.2.2.2.2.2.2.2.1 ag.2.2.2.2.2.2.2.2.1 ag.2.2.2.2.2.2.2.2.2.1 ag.2.2.2.2.2.2.2.2.2.2.1 ai.2.2.2.1 ai.2.2.2.2.1 ai.2.2.2.2.2.1 ai.2.2.2.2.2.2.1 ai.2.2.2.2.2.2.2.1 ai.2.2.2.2.2.2.2.2.1 ai.2.2.2.2.2.2.2.2.2.1 ai.2.2.2.2.2.2.2.2.2.2.1).bind λ(aj,_)=>
bif(!aj)then(some (v0,v1,v2,v3,true,()))else
(d9 v3).bind λak=>
(dJ v0 ak).bind λam=>
(d9 v3).bind λan=>
(dJ v1 an).bind λap=>
(nA am.2.2.2.2.2.2.2.2.2.2.2.1 am.2.2.2.2.2.2.2.2.2.2.2.2.1 am.2.2.2.2.2.2.2.2.2.2.2.2.2.1 am.2.2.2.2.2.2.2.2.2.2.2.2.2.2.1 am.2.2.2.2.2.2.2.2.2.2.2.2.2.2.2.1 am.2.2.2.2.2.2.2.2.2.2.2.2.2.2.2.2.1 am.2.2.2.2.2.2.2.2.2.2.2.2.2.2.2.2.2 ap.2.2.2.2.2.2.2.2.2.2.2.1 ap.2.2.2.2.2.2.2.2.2.2.2.2.1 ap.2.2.2.2.2.2.2.2.2.2.2.2.2.1 ap.2.2.2.2.2.2.2.2.2.2.2.2.2.2.1 ap.2.2.2.2.2.2.2.2.2.2.2.2.2.2.2.1 ap.2.2.2.2.2.2.2.2.2.2.2.2.2.2.2.2.1 ap.2.2.2.2.2.2.2.2.2.2.2.2.2.2.2.2.2).bind λ(aq,_)=>
some (v0,v1,v2,v3,(!aq),()):Option (LDEn×T0y)).bind λ(x0,x1,x2,x3,x4,_)=>
bif x4 then(some (.inr (.inl (false,()))))else
let x5:=w64 (x3+1);
some (.inl (x0,x1,x2,x5,())))else
some (.inr (.inr (v0,v1,v2,v3,false,())))
def jF(a0:LDEn)(a1:LDEn):Option (Bool×Unit):=
let x0:=dO a0.length;
let x1:=dO a1.length;
bif(x0 != x1)then(some (false,()))else
let x2:=dO a0.length;
(match dX mM NN (a0,a1,x2,0,())with
|none=>none
|some (.inl (x3,_))=>
some (x3,())
|some (.inr (x3,_))=>
some (true,()))
def Dj:X.Cfg:=⟨E0,[wd,vY],[],[⟨11,0,qE,[(.normal,qS [sP 0 xe,sP 1 xe,Uaa 12,Uaa 13,Xaa 80] [])]⟩,⟨6,1,qS [sP 0 xe,sP 1 xe,Uaa 12,Uaa 13] [],[(.ret,qS [Xaa 4] []),(.exit 0,qS [sP 0 xe,sP 1 xe,Uaa 12,Uaa 13,Xaa 14] [])]⟩]⟩
def qR:Ctr:=⟨21,142,uL [xe,xe],[],[⟨uab,[.one],[]⟩],ap2 jF⟩
theorem vt:Lk 3 qR:=ls Dj (aC C5 (aC C3 aN))
def n9(a0:Int)(a1:Int)(a2:Int)(a3:Int)(a4:Int)(a5:Int)(a6:Int)(a7:Int)(a8:Int)(a9:LDCn)(a10:LDCn)(a11:Int)(a12:Int)(a13:Int)(a14:Int)(a15:LDCn)(a16:Int)(a17:Bool)(a18:List (Int))(a19:List (Int×Int×Int×Int×Int×Int×LDCn×LDCn)):Option (T1O):=
(d9 a1).bind λx0=>
(dJ a18 x0).bind λx1=>
((dJ a18 x0).bind λx2=>
bif(x2 != 2)then(some (x0,a16,true,a18,a19,a0,a1,a2,a3,a4,a5,a6,a7,a8,a9,a10,a11,a12,a13,a14,a15,a16,a17,()))else
(d9 a1).bind λx3=>
(dJ a19 x3).bind λx4=>
(dJ a19 x3).bind λx5=>
(fU a3 a4 a5 a6 a7 a8 a9 a10 x5.1 x5.2.1 x5.2.2.1 x5.2.2.2.1 x5.2.2.2.2.1 x5.2.2.2.2.2.1 x5.2.2.2.2.2.2.1 x5.2.2.2.2.2.2.2).bind λ(x6,_)=>
bif(!x6)then(some (x0,a16,true,a18,a19,a0,a1,a2,a3,a4,a5,a6,a7,a8,a9,a10,a11,a12,a13,a14,a15,a16,a17,()))else
bif(a16 != (-1))then((d9 a16).bind λx7=>
(dJ a18 x7).bind λx8=>
(dJ a18 x7).bind λx9=>
bif(x9 != 0)then(some (x0,a16,true,a18,a19,a0,a1,a2,a3,a4,a5,a6,a7,a8,a9,a10,a11,a12,a13,a14,a15,a16,a17,()))else
some (x0,a16,(a8 != 10),a18,a19,a0,a1,a2,a3,a4,a5,a6,a7,a8,a9,a10,a11,a12,a13,a14,a15,a16,a17,()))else
some (x0,a16,false,a18,a19,a0,a1,a2,a3,a4,a5,a6,a7,a8,a9,a10,a11,a12,a13,a14,a15,a16,a17,()):Option (Nat×Int×Bool×LI×(List (Int×Int×Int×Int×Int×Int×LDCn×LDCn))×T2m)).bind λ(x2,x3,x4,x5,x6,x7,x8,x9,ac,ae,af,ag,ah,ai,aj,ak,am,an,ap,aq,av,ax,ay,_)=>
bif x4 then(some (false,x5,x6,()))else
(bif(ai==0)then((dJ x5 x2).bind λaz=>
let aA:=List.modify x5 x2 λe=>4;
some (x3,aA,x6,()))else
bif ay then((dJ x5 x2).bind λaz=>
let aA:=List.modify x5 x2 λe=>3;
some (x3,aA,x6,()))else
(dJ x5 x2).bind λaz=>
let aA:=List.modify x5 x2 λe=>1;
some (x3,aA,x6,()):Option (T1U)).bind λ(az,aA,aB,_)=>
(bif(az != (-1))then((d9 az).bind λaD=>
(dJ aA aD).bind λaE=>
(dJ aA aD).bind λaF=>
let aG:=List.modify aA aD λe=>1;
some (aG,aB,()))else
some (aA,aB,()):Option (T1I)).bind λ(aD,aE,_)=>
some (true,aD,aE,())
def u3:X.Cfg:=⟨E0,[nZ],[],[⟨3,0,qE,[(.normal,(qS [Zaa 0 3,Zaa 1 5,zaa 5,(7,.ptr ⟨3,0,[((),(1,0))]⟩ [0,0]),Uaa 8,Xaa 47] [(3,yac),(5,[shU (uaa (.pair I64 (.pair I64 (.pair I64 (.pair I64 (.pair I64 (.pair I64 (.pair d7 d7))))))))]),(12,Zag)]))]⟩,⟨5,1,qE,[(.normal,(qS [Zaa 0 3,Zaa 1 5,Uaa 8] [(3,yac),(5,[shU (uaa (.pair I64 (.pair I64 (.pair I64 (.pair I64 (.pair I64 (.pair I64 (.pair d7 d7))))))))])]))]⟩,⟨8,2,qE,[(.normal,(qS [Zaa 0 3,Zaa 1 5] [(3,yac),(5,[shU (uaa (.pair I64 (.pair I64 (.pair I64 (.pair I64 (.pair I64 (.pair I64 (.pair d7 d7))))))))])]))]⟩]⟩
def oG:Ctr:=⟨65,143,[.pk ⟨3,0,[]⟩ [0,0],.pk ⟨5,0,[]⟩ [0,0],.agg Zag],[(3,yac),(5,[shU (uaa (.pair I64 (.pair I64 (.pair I64 (.pair I64 (.pair I64 (.pair I64 (.pair d7 d7))))))))])],[⟨uab,[.one],[(3,yac),(5,[shU (uaa (.pair I64 (.pair I64 (.pair I64 (.pair I64 (.pair I64 (.pair I64 (.pair d7 d7))))))))]),(1000000,[]),(1000001,[])]⟩],ap20 n9⟩
theorem uU:Lk 3 oG:=ls u3 (aC rV aN)
def pO(a0:Int)(a1:Int)(a2:Int)(a3:Int)(a4:Int)(a5:Int)(a6:Int)(a7:Int)(a8:Int)(a9:LDCn)(a10:LDCn)(a11:Int)(a12:Int)(a13:Int)(a14:Int)(a15:LDCn)(a16:Int)(a17:Bool)(a18:List (Int))(a19:List (Int×Int×Int×Int×Int×Int×LDCn×LDCn)):Option (T1O):=
(d9 a1).bind λx0=>
(dJ a18 x0).bind λx1=>
(match(bif(a0==1)then((dJ a18 x0).bind λx2=>
bif(x2 != 1)then(some (.inl (false,a18,a19,())))else
(d9 a1).bind λx3=>
(dJ a19 x3).bind λx4=>
(dJ a19 x3).bind λx5=>
let x6:=(List.modify a19 x3 λe=>(a3,(a4,(a5,(a6,(a7,(a8,(a9,a10))))))));
bif(a4==2)then((dJ a18 x0).bind λx7=>
let x8:=List.modify a18 x0 λe=>4;
some (.inr (x8,x6,())))else
bif(a4==1)then((dJ a18 x0).bind λx7=>
let x8:=List.modify a18 x0 λe=>2;
some (.inr (x8,x6,())))else
some (.inr (a18,x6,())))else
bif(a0==2)then((n9 a0 a1 a2 a3 a4 a5 a6 a7 a8 a9 a10 a11 a12 a13 a14 a15 a16 a17 a18 a19).bind λ(x2,x3,x4,_)=>
some (.inl (x2,x3,x4,())))else
bif(a0==3)then((dJ a18 x0).bind λx2=>
some (.inl ((x2==1),a18,a19,())))else
bif(a0==4)then((dJ a18 x0).bind λx2=>
bif(x2 != 3)then(some (.inl (false,a18,a19,())))else
(dJ a18 x0).bind λx3=>
let x4:=List.modify a18 x0 λe=>1;
some (.inr (x4,a19,())))else
some (.inr (a18,a19,())):Option (T1O⊕T1I))with
|none=>none
|some (.inl (x2,x3,x4,_))=>
some (x2,x3,x4,())
|some (.inr (x2,x3,_))=>
some (true,x2,x3,()))
def wJ:X.Cfg:=⟨E0,[oG],[],[⟨2,0,qE,[(.ret,(qS [Zaa 0 3,Zaa 1 5,Xaa 6] [(3,yac),(5,[shU (uaa (.pair I64 (.pair I64 (.pair I64 (.pair I64 (.pair I64 (.pair I64 (.pair d7 d7))))))))])])),(.normal,(qS [Zaa 0 3,Zaa 1 5] [(3,yac),(5,[shU (uaa (.pair I64 (.pair I64 (.pair I64 (.pair I64 (.pair I64 (.pair I64 (.pair d7 d7))))))))])]))]⟩]⟩
def pT:Ctr:=⟨32,144,[.pk ⟨3,0,[]⟩ [0,0],.pk ⟨5,0,[]⟩ [0,0],.agg Zag],[(3,yac),(5,[shU (uaa (.pair I64 (.pair I64 (.pair I64 (.pair I64 (.pair I64 (.pair I64 (.pair d7 d7))))))))])],[⟨uab,[.one],[(3,yac),(5,[shU (uaa (.pair I64 (.pair I64 (.pair I64 (.pair I64 (.pair I64 (.pair I64 (.pair d7 d7))))))))]),(1000000,[]),(1000001,[])]⟩],ap20 pO⟩
theorem wF:Lk 4 pT:=ls wJ (aC uU aN)
def sX:T2b->Option (T2b⊕((Bool×Unit×Unit)⊕(LDEn×Int×Int×T1O))):=λ(v0,v1,v2,v3,v4,_)=>
bif(decide (v2<v1))then((d9 v2).bind λx0=>
(dJ v0 x0).bind λx1=>
(eZ x1.1 x1.2.1 x1.2.2.1 x1.2.2.2.1 x1.2.2.2.2.1 x1.2.2.2.2.2.1 x1.2.2.2.2.2.2.1 x1.2.2.2.2.2.2.2.1 x1.2.2.2.2.2.2.2.2.1 x1.2.2.2.2.2.2.2.2.2.1 x1.2.2.2.2.2.2.2.2.2.2.1 x1.2.2.2.2.2.2.2.2.2.2.2.1 x1.2.2.2.2.2.2.2.2.2.2.2.2.1 x1.2.2.2.2.2.2.2.2.2.2.2.2.2.1 x1.2.2.2.2.2.2.2.2.2.2.2.2.2.2.1 x1.2.2.2.2.2.2.2.2.2.2.2.2.2.2.2.1 x1.2.2.2.2.2.2.2.2.2.2.2.2.2.2.2.2.1 x1.2.2.2.2.2.2.2.2.2.2.2.2.2.2.2.2.2).bind λ(x2,_)=>
bif(!x2)then(some (.inr (.inl (false,(),()))))else
(pO x1.1 x1.2.1 x1.2.2.1 x1.2.2.2.1 x1.2.2.2.2.1 x1.2.2.2.2.2.1 x1.2.2.2.2.2.2.1 x1.2.2.2.2.2.2.2.1 x1.2.2.2.2.2.2.2.2.1 x1.2.2.2.2.2.2.2.2.2.1 x1.2.2.2.2.2.2.2.2.2.2.1 x1.2.2.2.2.2.2.2.2.2.2.2.1 x1.2.2.2.2.2.2.2.2.2.2.2.2.1 x1.2.2.2.2.2.2.2.2.2.2.2.2.2.1 x1.2.2.2.2.2.2.2.2.2.2.2.2.2.2.1 x1.2.2.2.2.2.2.2.2.2.2.2.2.2.2.2.1 x1.2.2.2.2.2.2.2.2.2.2.2.2.2.2.2.2.1 x1.2.2.2.2.2.2.2.2.2.2.2.2.2.2.2.2.2 v3 v4).bind λ(x3,x4)=>
bif(!x3)then(some (.inr (.inl (false,(),()))))else
let x6:=w64 (v2+1);
some (.inl (v0,v1,x6,x4)))else
some (.inr (.inr (v0,v1,v2,false,v3,v4,())))
def ql(a0:LDEn):Option (T06):=
bif(rJ 4 4 1)then let x0:List (Int):=(List.replicate 4 0);
(dJ x0 0).bind λx1=>
(dJ x0 0).bind λx2=>
let x3:=List.modify x0 0 λe=>1;
bif(rJ 4 4 8)then let x4:List (Int×Int×Int×Int×Int×Int×LDCn×LDCn):=(List.replicate 4 (0,(0,(0,(0,(0,(0,([],[]))))))));
let x5:=dO a0.length;
(match dX sX NN (a0,x5,0,x3,x4,())with
|none=>none
|some (.inl (x6,x7,_))=>
some ([],x6,())
|some (.inr (x6,x7,x8,x9,ac,ae,_))=>
some (ac,true,()))else none else none
def yf:X.Cfg:=⟨E0,[lz,pT],[(11,(.pair I64 (.pair I64 (.pair I64 (.pair I64 (.pair I64 (.pair I64 (.pair (uaa KCn) (uaa KCn)))))))))],[⟨6,0,(qS [Zaa 4 11,Zaa 5 13,sP 12 xe,Uaa 13,Uaa 14] [(11,yac),(13,[shU (uaa (.pair I64 (.pair I64 (.pair I64 (.pair I64 (.pair I64 (.pair I64 (.pair d7 d7))))))))])]),[(.ret,(qS [Zaa 2 7,Xaa 3] [(7,uL [N1])])),(.exit 0,(qS [Zaa 4 11,Zaa 5 13,sP 12 xe,Uaa 13,Uaa 14,Xaa 15] [(11,yac),(13,[shU (uaa (.pair I64 (.pair I64 (.pair I64 (.pair I64 (.pair I64 (.pair I64 (.pair d7 d7))))))))])]))]⟩]⟩
def rf:Ctr:=⟨12,145,uL [xe],[],[⟨uL [(uaa I64),.bool],[.one,.one],[]⟩],ap1 ql⟩
theorem xS:Lk 8 rf:=ls yf (aC nY (aC wF aN))
def mn:Option (Bool×Unit):=
let x0:LDEn:=[(1,(0,(1,(0,(1,(0,(0,(0,(15,([],([],(0,(0,(0,(0,([],(0,false)))))))))))))))))];
(ql x0).bind λ(x1,x2,_)=>
let x3:LDEn:=[(1,(0,(1,(0,(1,(0,(0,(0,(15,([],([],(0,(0,(0,(0,([],(0,false)))))))))))))))))];
(fk x3).bind λ(x4,x5,_)=>
(eZ 1 0 1 0 1 0 0 0 15 [] [] 0 0 0 0 [] 0 false).bind λ(x6,_)=>
bif x6 then(bif x2 then(let x7:Int:=(dO x1.length);
bif(x7==4)then((dJ x1 0).bind λx8=>
(dJ x1 0).bind λx9=>
bif(x9==2)then(bif(x5==0)then(let ac:Int:=(dO x4.length);
some ((ac==18),()))else
some (false,()))else
some (false,()))else
some (false,()))else
some (false,()))else
some (false,())
def BT:X.Cfg:=⟨E0,[rf,iP,lz],[(10,FO),(16,FO)],[]⟩
def pA:Ctr:=⟨14,146,[],[],[⟨uab,[.one],[]⟩],λh=>mn⟩
theorem tL:Lk 12 pA:=ls BT (aC xS (aC kH (aC nY aN)))
def ko(a0:List (Int))(a1:List (Int)):Option (Bool×Unit):=
(mF a0 0).bind λ(x0,x1,x2,x3,x4,x5,x6,x7,x8,x9,ac,ae,af,ag,ah,ai,aj,_)=>
(mF a1 0).bind λ(ap,aq,av,ax,ay,az,aA,aB,aD,aE,aF,aG,aH,aI,aJ,aK,aL,_)=>
(fk aj).bind λ(aQ,aR,_)=>
(fk aL).bind λ(aS,aT,_)=>
(iG aQ).bind λ(aU,aV,_)=>
bif(aR==0)then(bif(aT==0)then(bif(aV==0)then((jF aU aj).bind λ(aW,_)=>
bif aW then(let aY:ByteArray:=(lX aQ);
let aZ:ByteArray:=(lX aS);
(jF aj aL).bind λ(ba,_)=>
bif((Ix aY aZ)==ba)then((mn).bind λ(bc,_)=>
some (bc,()))else
some (false,()))else
some (false,()))else
some (false,()))else
some (false,()))else
some (false,())
def tR:X.Cfg:=⟨E0,[vf,iP,nc,qR,pA],[],[]⟩
def nT:Ctr:=⟨6,147,uL [RI,RI],[],[⟨uab,[.one],[]⟩],ap2 ko⟩
theorem k_law20_RecordBack:Lk 13 nT:=ls tR (aC Ai (aC kH (aC qI (aC vt (aC tL aN)))))
def jA(a0:List (Int))(a1:Int):Option (Bool×Unit):=
(mF a0 0).bind λ(x0,x1,x2,x3,x4,x5,x6,x7,x8,x9,ac,ae,af,ag,ah,ai,aj,_)=>
let ap:=dO aj.length;
let aq:=w64 (ap+1);
(rr a1 aq).bind λ(av,_)=>
(d9 av).bind λax=>
bif(gi 0 ax aj.length)then let ay:LDEn:=(lO aj 0 (Nat.sub ax 0));
(fk ay).bind λ(az,aA,_)=>
(d9 av).bind λaB=>
bif(gi aB aj.length aj.length)then let aD:LDEn:=(lO aj aB (Nat.sub aj.length aB));
(fk aD).bind λ(aE,aF,_)=>
(fk aj).bind λ(aG,aH,_)=>
bif(dV 1 0 az.length)then let aI:List (Int):=(List.append [] az);
bif(dV 1 aI.length aE.length)then let aJ:List (Int):=(List.append aI aE);
(iG aJ).bind λ(aK,aL,_)=>
bif(aA==0)then(bif(aF==0)then(bif(aH==0)then(bif(aL==0)then(let aM:ByteArray:=(lX az);
let aO:ByteArray:=(lX aE);
bif(Ec aM aO)then let aP:ByteArray:=(KH aM aO);
let aQ:ByteArray:=(lX aG);
bif(Ix aP aQ)then((jF aK aj).bind λ(aR,_)=>
bif aR then((mn).bind λ(aS,_)=>
some (aS,()))else
some (false,()))else
some (false,())else none)else
some (false,()))else
some (false,()))else
some (false,()))else
some (false,())else none else none else none else none
def sG:X.Cfg:=⟨E0,[vf,Cc,iP,nc,qR,pA],[],[]⟩
def nd:Ctr:=⟨7,148,yab,[],[⟨uab,[.one],[]⟩],ap2 jA⟩
theorem k_law20_RecordJoins:Lk 13 nd:=ls sG (aC Ai (aC Gq (aC kH (aC qI (aC vt (aC tL aN))))))
end
end Go.Proofs.YtoldehogdgdhmaaGreat
namespace Go.Proofs.YtoldehogdgdhmaaGreat
set_option maxRecDepth 100000
noncomputable section
end
end Go.Proofs.YtoldehogdgdhmaaGreat
namespace Go.Proofs.YtoldehogdgdhmaaGreat
open Go.RowKit
theorem P9:(Tryz.prog.funcs.all λfn=>!(fn.name=="runtime.NumGoroutine"))=true:=by kernel_rfl
theorem HJ:oJ Tryz.prog 8:=by
 obtain⟨fn,hf,hb⟩:∃fn,Tryz.prog.funcs[8]?=some fn/\fn.body.isSome=true:=by
  have hs:(match Tryz.prog.funcs[8]? with|some fn=>fn.body.isSome|none=>false)=true:=by kernel_rfl
  cases h:Tryz.prog.funcs[8]? with
  |none=>rw[h]at hs;cases hs
  |some fn=>rw[h]at hs;exact⟨fn,rfl,hs⟩
 obtain⟨c,hc⟩:=Option.isSome_iff_exists.1 hb;refine D3 hf ?_ hc;obtain⟨hlt,he⟩:=Array.getElem?_eq_some_iff.1 hf;have:=Array.all_eq_true.1 P9 8 hlt;rw[he]at this;simpa using this
def OL(x:Value)(w:World)(e:Ending)(w':World):Prop:=e=.returned (.pointer (some ⟨w.heap.size,0,none⟩))/\w'=w.alloc (.cells #[x,.int .i64 0] 90)
theorem N5(x:Value)(hx:x.oneCell'=true)(w:World):
 Calls Tryz.prog 8 #[x] w (OL x w):=by
 cases x
 all_goals first
  |(go_enter Tryz.func8,Tryz.ntmps8
    go_wp2
    go_ret
    exact⟨rfl,rfl⟩)
  |simp[Value.oneCell']at hx
theorem Px:Cg Tryz.prog E0:=by
 intro f n tm h;simp only[E0]at h;split at h
 ·rename_i e;subst e
  injection h with h
  injection h with h1 h2
  subst h1 h2;refine⟨HJ,λx hx=>?_,90,λl2 w hl Zs=>?_⟩
  ·simp only[List.mem_cons,List.not_mem_nil,or_false]at hx;rcases hx with hx|hx
   ·injection hx
   ·injection hx with hx;rw[hx];rfl
  ·match l2,hl with
   | [x],_=>exact N5 x (Zs x (by simp[bxV])) w
 ·simp at h
theorem e0_ok:Ej Tryz.prog E0:=Mz Px
def Ok{α:Type}(o:Option α)(Q:α->Prop):Prop:=∃a,o=some a/\Q a
section
variable {α β:Type}
theorem Ok.ret{a:α}{Q:α->Prop}(h:Q a):Ok (some a) Q:=⟨a,rfl,h⟩
theorem Ok.bind{o:Option α}{f:α->Option β}{P:α->Prop}{Q:β->Prop}(h:Ok o P)(h2:∀a,P a->Ok (f a) Q):Ok (o.bind f) Q:=by
 obtain⟨a,rfl,h1⟩:=h
 simp_all
theorem Ok.mono{o:Option α}{P Q:α->Prop}(h:Ok o P)(h2:∀a,P a->Q a):Ok o Q:=by
 have ⟨a,e,h1⟩:=h;exact⟨a,e,h2 a h1⟩
theorem Ok.cond{c:Bool}{a b:Option α}{Q:α->Prop}(h1:c=true->Ok a Q)(h2:c=false->Ok b Q):Ok (bif c then a else b) Q:=by
 grind
class BP (b:Bool) (P N:outParam Prop):Prop where
 t:b=true->P
 f:b=false->N
instance (priority:=low) bpVar {b:Bool}:BP b (b=true) (b=false):=⟨id,id⟩
instance QE {p:Prop}{i:Decidable p}:BP (@decide p i) p (¬p):=⟨of_decide_eq_true,of_decide_eq_false⟩
instance QR {α:Type}[BEq α][LawfulBEq α]{a b:α}:BP (a==b) (a=b) (¬a=b):=⟨eq_of_beq,λh=>beq_eq_false_iff_ne.1 h⟩
instance QQ {α:Type}[BEq α][LawfulBEq α]{a b:α}:BP (a != b) (¬a=b) (a=b):=⟨λh=>bne_iff_ne.1 h,λh=>bne_eq_false_iff_eq.1 h⟩
instance QD {b:Bool}{P N:Prop}[h:BP b P N]:BP (!b) N P:=⟨λe=>h.f (by simpa using e),λe=>h.t (by simpa using e)⟩
theorem dE{c:Bool}{P N:Prop}[h:BP c P N]{a b:Option α}{Q:α->Prop}(h1:P->Ok a Q)(h2:N->Ok b Q):Ok (bif c then a else b) Q:=by
 cases hc:c with
 |true=>exact h1 (h.t hc)
 |false=>exact h2 (h.f hc)
theorem Ok.get{l:List α}{i:Nat}{f:α->Option β}{Q:β->Prop}(h:i<l.length)(h2:∀a,l[i]?=some a->Ok (f a) Q):Ok ((dJ l i).bind f) Q:=by
 have e:dJ l i=some l[i]:=oGE h
 simp_all
theorem Ok.nat{x:Int}{f:Nat->Option β}{Q:β->Prop}(h:0<=x)(h2:∀n:Nat,x=n->Ok (f n) Q):Ok ((d9 x).bind f) Q:=by
 obtain⟨n,rfl⟩:∃n:Nat,x=n:=⟨x.toNat,by omega⟩;exact h2 n rfl
theorem Ok.val{v:α}{f:α->Option β}{Q:β->Prop}(h:∀x,x=v->Ok (f x) Q):Ok (f v) Q:=h v rfl
theorem dG{c:Bool}{a b:Option α}{Q:α->Prop}(hc:c=true)(h1:Ok a Q):Ok (bif c then a else b) Q:=by simp_all
theorem g7{S T:Type}{f:S->Option (S⊕T)}(P:S->Prop)(R:T->Prop)(m:S->Nat){n:Nat}{s:S}(hs:P s)(hm:m s<n)
 (h:∀s,P s->Ok (f s) λr=>match r with|.inl s'=>P s'/\m s'<m s|.inr t=>R t):Ok (dX f n s) R:=by
 induction n generalizing s with
 |zero=>omega
 |succ n ih=>
  have ⟨r,e,hr⟩:=h s hs
  cases r with
  |inl s'=>
   have ⟨t,e2,hq⟩:=ih hr.1 (by omega);exact⟨t,by simp[dX,e];exact e2,hq⟩
  |inr t=>exact⟨t,by simp[dX,e],hr⟩
theorem Ok.loop{S T:Type}{f:S->Option (S⊕T)}{g:T->Option β}{Q:β->Prop}(P:S->Prop)(R:T->Prop)(m:S->Nat){n:Nat}{s:S}(hs:P s)(hm:m s<n)
 (h:∀s,P s->Ok (f s) λr=>match r with|.inl s'=>P s'/\m s'<m s|.inr t=>R t)(hg:∀t,R t->Ok (g t) Q):Ok ((dX f n s).bind g) Q:=(g7 P R m hs hm h).bind hg
end
theorem dP{x:Int}(h1:-9223372036854775808<=x)(h2:x<=9223372036854775807):w64 x=x:=wrap_i64 h1 h2
theorem dM(n:Nat):d9 (n:Int)=some n:=rfl
theorem dQ(n:Nat):dO n=(n:Int):=rfl
theorem dR{α:Type}{l:List α}{i:Nat}{a:α}(h:l[i]?=some a):a∈l:=List.mem_of_getElem? h
def W16(x:Int):Prop:=0<=x/\x<=65535
theorem dY{x:Int}(h0:0<=x)(h1:x<=65535):wk .u16 x=x:=by
 unfold wk;rw[wP];omega
theorem dT{x:Int}(h0:-9223372036854775808<=x)(h1:x<=9223372036854775807):wk .i64 x=x:=dP h0 h1
theorem dW{b n m:Nat}(h:b<=1000/\n+m<=1000000):dV b n m=true:=by
 have:=Nat.mul_le_mul h.2 h.1;simp[dV];omega
structure DOk (l:List Int)(k:Int):Prop where
 num:∀x∈l,K4 x
 len:l.length<=maxLen
 lo:0<=k
 hi:k<=l.length
theorem DOk.start{l:List Int}(h:∀x∈l,K4 x)(hl:l.length<=maxLen):DOk l 0:=⟨h,hl,by omega,by omega⟩
theorem MV{a b:Int}(ha:K4 a)(hb:0<b)(ZY:b<=9223372036854775807):∃v,jz a b=some (v,())/\0<=v/\v<b:=by
 have hne:(b != 0)=true:=by simp;omega
 have hm:=Int.tmod_lt_of_pos a hb
 have hm2:-b<Int.tmod a b:=by
  have:=Int.tmod_lt_of_pos (-a) hb;rw[Int.neg_tmod]at this;omega
 unfold jz;simp[hne];by_cases h:Int.tmod a b<0
 ·refine⟨Int.tmod a b+b,?_,by omega,by omega⟩;simp[h,decide_true];rw[dP (by omega) (by omega)]
 ·refine⟨Int.tmod a b,?_,by omega,hm⟩;simp[h,decide_false,oCF]
section
variable {β:Type} {l:List Int} {k n:Int} {Q:β->Prop}
theorem N6{a b:Int}{f:Int×Unit->Option β}(ha:K4 a)(hb:0<b)(ZY:b<=9223372036854775807)(K:∀v,0<=v->v<b->Ok (f (v,())) Q):Ok ((jz a b).bind f) Q:=by
 have ⟨v,e,h0,h1⟩:=MV ha hb ZY
 simp_all
theorem gn{f:Int×List Int×Int×Unit->Option β}(h:DOk l k)(hn:0<n)(hn2:n<=9223372036854775807)(K:∀v k',0<=v->v<n->DOk l k'->Ok (f (v,l,k',())) Q):Ok ((dL n l k).bind f) Q:=by
 have hl:=h.len;have UM:=h.lo
 have Xx:maxLen<=9223372036854775807:=by decide
 by_cases hk:k>=(l.length:Int)
 ·have e:dL n l k=some (0,l,k,()):=by unfold dL;simp[dQ,hk]
  simp_all
 ·obtain⟨j,rfl⟩:∃j:Nat,k=j:=⟨k.toNat,by omega⟩
  have hj:j<l.length:=by omega
  obtain⟨v,hv,h0,h1⟩:=MV (h.num _ (List.getElem_mem hj)) hn hn2
  have e:dL n l j=some (v,l,(j:Int)+1,()):=by
   unfold dL;delta dO
   try dsimp only
   rw[dP (x:=(j:Int)+1) (by omega) (by omega),dP (x:=(j:Int)+1-1) (by omega) (by omega)];rw[show(j:Int)+1-1=j by omega,dM];simp[hk,decide_false,oCF,oBS,dJ,oGE hj,rr,hv]
  rw[e];exact K v _ h0 h1 ⟨h.num,hl,by omega,by omega⟩
theorem IA{f:Int×List Int×Int×Unit->Option β}(h:DOk l k)(K:∀v k',0<=v->v<=65535->DOk l k'->Ok (f (v,l,k',())) Q):Ok ((jB l k).bind f) Q:=by
 have hw:Ok (jB l k) λr=>∃v k',r=(v,l,k',())/\0<=v/\v<=65535/\DOk l k':=by
  unfold jB
  (with_reducible refine gn (by assumption) (by omega) (by omega) (λv k a b d=>?_);try dsimp only)
  refine Ok.bind (P:=λr=>∃b,r=(v,b,l,k,())) ?_ ?_
  ·repeat ((with_reducible refine dE (λhc=>?_) λhc=>?_);· exact Ok.ret ⟨_,rfl⟩)
   exact Ok.ret ⟨_,rfl⟩
  ·rintro _ ⟨b,rfl⟩;refine Ok.cond (λ_=>?_) λ_=>?_
   ·(with_reducible refine gn (by assumption) (by omega) (by omega) (λv k a b d=>?_);try dsimp only)
    (simp (disch:=omega) only [dP,dY,dT,dQ])
    exact Ok.ret ⟨_,_,rfl,by omega,by omega,by assumption⟩
   ·(with_reducible refine dE (λhc=>?_) λhc=>?_)
    ·(with_reducible refine gn (by assumption) (by omega) (by omega) (λv k a b d=>?_);try dsimp only)
     (simp (disch:=omega) only [dP,dY,dT,dQ])
     exact Ok.ret ⟨_,_,rfl,by omega,by omega,by assumption⟩
    ·(with_reducible refine gn (by omega) (by omega) (by omega) (λv k a b d=>?_);try dsimp only)
     (simp (disch:=omega) only [dP,dY,dT,dQ])
     exact Ok.ret ⟨_,_,rfl,by omega,by omega,by omega⟩
 refine hw.bind ?_
 simp_all
end
def zK(s:List Int):Prop:=1<=s.length/\s.length<=4/\∀x∈s,1<=x/\x<=32
theorem Qv{P:Int->Prop}{a b c:Int}(ha:P a)(hb:P b)(hc:P c):∀x∈[a,b,c],P x:=by
 simp_all
theorem Lc{l:List Int}{k:Int}(h:DOk l k):Ok (nH l k) λr=>∃s k',r=(s,l,k',())/\zK s/\DOk l k':=by
 unfold nH
 (with_reducible refine gn (by assumption) (by omega) (by omega) (λv0 k0 a0 b0 d0=>?_);try dsimp only)
 (simp (disch:=omega) only [dP,dY,dT,dQ])
 (with_reducible refine gn (by assumption) (by omega) (by omega) (λv1 k1 a1 b1 d1=>?_);try dsimp only)
 refine Ok.loop (P:=λ((c,l',k',s,_):Int×List Int×Int×List Int×Unit)=>l'=l/\DOk l k'/\0<=c/\c+s.length<=4/\1<=s.length/\∀x∈s,1<=x/\x<=32)
  (R:=λ((_,_,l',k',s,_):Int×Bool×List Int×Int×List Int×Unit)=>l'=l/\DOk l k'/\zK s) (m:=λs=>s.1.toNat) ⟨rfl,d1,a1,by simp;omega,by simp,by simp;omega⟩ (by unfold NN;dsimp only;omega) ?_ ?_
 ·rintro⟨c,l',k3,s,_⟩ ⟨rfl,XT,hc0,Vy,hs1,hs⟩;dsimp only at *;unfold qn;dsimp only
  (with_reducible refine dE (λhc=>?_) λhc=>?_)
  ·(with_reducible refine gn (by assumption) (by omega) (by omega) (λv2 k2 a2 b2 d2=>?_);try dsimp only)
   (with_reducible refine Ok.nat (by omega) (λj hj=>?_);try dsimp only)
   have Zn:∀x∈[(6:Int),12,32],6<=x/\x<=32:=by simp_all
   refine Ok.get (by simp;omega) λa ha=>?_;refine Ok.get (by simp;omega) λb hb=>?_;have h7:=Zn b (dR hb)
   (with_reducible refine gn (by assumption) (by omega) (by omega) (λv3 k3 a3 b3 d3=>?_);try dsimp only)
   (simp (disch:=omega) only [dP,dY,dT,dQ])
   refine dG (dW (by simp;omega)) ?_;refine Ok.ret ⟨⟨rfl,by assumption,by omega,?_,?_,?_⟩,?_⟩
   ·simp;omega
   ·simp
   ·intro x hx;simp at hx;rcases hx with hx|rfl
    ·exact hs x hx
    ·omega
   ·dsimp only;omega
  ·exact Ok.ret ⟨rfl,XT,hs1,by dsimp only;omega,hs⟩
 ·rintro⟨a,b,l',k3,s,_⟩ ⟨rfl,XT,hs⟩;exact Ok.ret ⟨_,_,rfl,hs,XT⟩
def pY(op:Int):Bool:=!(op==18||op==23||op==0||op==24)
def pX(op:Int):Bool:=!(op==18||op==23||op==0||op==24||op==1||op==15||op==19||op==20||op==21||op==22)
def pW(op:Int):Bool:=!(op==18||op==23||op==0||op==24||op==1||op==15||op==19||op==20||op==21||op==22||op==2||op==16||op==17)
def pV(op:Int):Bool:=op==1||op==15||op==19||op==20||op==21||op==16||op==17||op==18||op==23
def ng(op:Int):Bool:=op==18||op==19||op==20||op==21
theorem IE{op:Int}(h0:0<=op)(h1:op<=24):jK op=some (pY op,pX op,pW op,pV op,()):=by
 obtain⟨n,rfl⟩:∃n:Nat,op=n:=⟨op.toNat,by omega⟩
 have hn:n<25:=by omega
 have key:∀n:Fin 25,(jK ((n.val:Nat):Int)).map (λx=>(x.1,x.2.1,x.2.2.1,x.2.2.2.1))=some (pY (n.val:Nat),pX (n.val:Nat),pW (n.val:Nat),pV (n.val:Nat)):=by decide
 have:=key ⟨n,hn⟩
 cases h:jK (n:Int)with
 |none=>simp_all
 |some x=>
  obtain⟨a,b,c,d,_⟩:=x
  simp_all
theorem xT(op:Int):gO op=some (ng op,()):=by
 unfold gO ng
 grind
structure is (n m:Int)(i:DIn):Prop where
 op:0<=i.1/\i.1<=24
 a:0<=i.2.1/\i.2.1<8/\(pY i.1=false->i.2.1=0)
 b:0<=i.2.2.1/\i.2.2.1<8/\(pX i.1=false->i.2.2.1=0)
 c:0<=i.2.2.2.1/\i.2.2.2.1<8/\(pW i.1=false->i.2.2.2.1=0)
 imm:0<=i.2.2.2.2/\i.2.2.2.2<=65535/\(pV i.1=false->i.2.2.2.2=0)
 lea:i.1=15->i.2.2.2.2<n
 sys:i.1=23->i.2.2.2.2<=15
 jmp:ng i.1=true->i.2.2.2.2<m
theorem ins_mk{n m o a b c i:Int}(ho:0<=o/\o<=24)(ha:0<=a/\a<8)(hb:0<=b/\b<8)(hc:0<=c/\c<8)(hi:0<=i/\i<=65535)(hA:pY o=true\/a=0)(hB:pX o=true\/b=0)(hC:pW o=true\/c=0)(hI:pV o=true\/i=0)
 (hl:o=15->i<n)(hs:o=23->i<=15)(hj:ng o=true->i<m):is n m (o,a,b,c,i):=
 ⟨ho,⟨ha.1,ha.2,λh=>hA.elim (λh'=>by simp_all) id⟩,⟨hb.1,hb.2,λh=>hB.elim (λh'=>by simp_all) id⟩,
  ⟨hc.1,hc.2,λh=>hC.elim (λh'=>by simp_all) id⟩,⟨hi.1,hi.2,λh=>hI.elim (λh'=>by simp_all) id⟩,hl,hs,hj⟩
theorem CN{n m r v:Int}(h:0<=r/\r<8)(hv:0<=v/\v<=65535):is n m (1,r,0,0,v):=ins_mk (by decide) h (by decide) (by decide) hv (.inl (by decide)) (.inr rfl) (.inr rfl) (.inl (by decide)) (by omega) (by omega) (λh=>absurd h (by decide))
theorem EL{n m r v:Int}(h:0<=r/\r<8)(hv:0<=v/\v<8):is n m (2,r,v,0,0):=ins_mk (by decide) h hv (by decide) (by decide) (.inl (by decide)) (.inl (by decide)) (.inr rfl) (.inr rfl) (by omega) (by omega) (λh=>absurd h (by decide))
theorem xp{n m v:Int}(hv:0<=v/\v<=15):is n m (23,0,0,0,v):=ins_mk (by decide) (by decide) (by decide) (by decide) (by omega) (.inr rfl) (.inr rfl) (.inr rfl) (.inl (by decide)) (by omega) (by omega) (λh=>absurd h (by decide))
theorem EQ{n m r v:Int}(h:0<=r/\r<8)(hv:0<=v/\v<n)(hn:n<=4):is n m (15,r,0,0,v):=ins_mk (by decide) h (by decide) (by decide) (by omega) (.inl (by decide)) (.inr rfl) (.inr rfl) (.inl (by decide)) (by omega) (by omega) (λh=>absurd h (by decide))
theorem IH{n m o a b v:Int}(ho:o=16\/o=17)(h:0<=a/\a<8)(hb:0<=b/\b<8)(hv:0<=v/\v<=65535):is n m (o,a,b,0,v):=by
 rcases ho with rfl|rfl
 all_goals exact ins_mk (by decide) h hb (by decide) hv (.inl (by decide)) (.inl (by decide)) (.inr rfl) (.inl (by decide)) (by omega) (by omega) (λh=>absurd h (by decide))
theorem EI{n m o a b c:Int}(ho:3<=o/\o<=14)(h:0<=a/\a<8)(hb:0<=b/\b<8)(hc:0<=c/\c<8):is n m (o,a,b,c,0):=
 ins_mk (by omega) h hb hc (by decide) (.inl (by unfold pY;simp;omega)) (.inl (by unfold pX;simp;omega)) (.inl (by unfold pW;simp;omega)) (.inr rfl) (by omega) (by omega) (λh=>by unfold ng at h;simp at h;omega)
theorem Oc{n m v:Int}(hv:0<=v/\v<=65535)(hm:v<m):is n m (18,0,0,0,v):=ins_mk (by decide) (by decide) (by decide) (by decide) hv (.inr rfl) (.inr rfl) (.inr rfl) (.inl (by decide)) (by omega) (by omega) (λ_=>hm)
theorem NT{n m:Int}:is n m (24,0,0,0,0):=ins_mk (by decide) (by decide) (by decide) (by decide) (by decide) (.inr rfl) (.inr rfl) (.inr rfl) (.inr rfl) (by omega) (by omega) (λh=>absurd h (by decide))
theorem is.mono{n m m':Int}{i:DIn}(h:is n m i)(hm:m<=m'):is n m' i:=⟨h.op,h.a,h.b,h.c,h.imm,h.lea,h.sys,λhj=>by have:=h.jmp hj;omega⟩
theorem E2{n m a v:Int}(h:0<=a/\a<8)(hv:0<=v/\v<=65535)(hm:v<m):is n m (20,a,0,0,v):=ins_mk (by decide) h (by decide) (by decide) hv (.inl (by decide)) (.inr rfl) (.inr rfl) (.inl (by decide)) (by omega) (by omega) (λ_=>hm)
theorem L9{n XQ k:Int}{l:List Int}(h:DOk l k)(hn:1<=n/\n<=4)(hm:1<=XQ/\XQ<=100):Ok (nI n XQ l k) λr=>∃o a b c i k',r=(o,a,b,c,i,l,k',())/\is n XQ (o,a,b,c,i)/\DOk l k':=by
 unfold nI
 (with_reducible refine gn (by assumption) (by omega) (by omega) (λv0 k0 a0 b0 d0=>?_);try dsimp only)
 rw[IE (by omega) (by omega)];simp only[oBS];refine Ok.bind (P:=λr=>∃x k',r=(n,XQ,l,k',0,0,0,0,0,v0,x,0,0,0,pY v0,pX v0,pW v0,pV v0,())/\0<=x/\x<8/\(pY v0=false->x=0)/\DOk l k') ?_ ?_
 ·refine Ok.cond (λhc=>?_) λhc=>Ok.ret ⟨_,_,rfl,by omega,by omega,λ_=>rfl,d0⟩
  (with_reducible refine gn (by assumption) (by omega) (by omega) (λv1 k1 a1 b1 d1=>?_);try dsimp only)
  exact Ok.ret ⟨_,_,rfl,a1,b1,(λhh=>by rw[hc]at hh;cases hh),d1⟩
 rintro _ ⟨xa,k1,rfl,ha0,Xv,WP,d1⟩;dsimp only;refine Ok.bind (P:=λr=>∃x k',r=(n,XQ,l,k',0,0,0,0,0,v0,xa,x,0,0,pY v0,pX v0,pW v0,pV v0,())/\0<=x/\x<8/\(pX v0=false->x=0)/\DOk l k') ?_ ?_
 ·refine Ok.cond (λhc=>?_) λhc=>Ok.ret ⟨_,_,rfl,by omega,by omega,λ_=>rfl,d1⟩
  (with_reducible refine gn (by assumption) (by omega) (by omega) (λv2 k2 a2 b2 d2=>?_);try dsimp only)
  exact Ok.ret ⟨_,_,rfl,a2,b2,(λhh=>by rw[hc]at hh;cases hh),d2⟩
 rintro _ ⟨xb,k2,rfl,Os,hb1,ZY,d2⟩;dsimp only;refine Ok.bind (P:=λr=>∃x k',r=(n,XQ,l,k',0,0,0,0,0,v0,xa,xb,x,0,pY v0,pX v0,pW v0,pV v0,())/\0<=x/\x<8/\(pW v0=false->x=0)/\DOk l k') ?_ ?_
 ·refine Ok.cond (λhc=>?_) λhc=>Ok.ret ⟨_,_,rfl,by omega,by omega,λ_=>rfl,d2⟩
  (with_reducible refine gn (by assumption) (by omega) (by omega) (λv3 k3 a3 b3 d3=>?_);try dsimp only)
  exact Ok.ret ⟨_,_,rfl,a3,b3,(λhh=>by rw[hc]at hh;cases hh),d3⟩
 rintro _ ⟨xc,k3,rfl,hc0,ZO,ZK,d3⟩;dsimp only;rw[xT];simp only[oBS];refine Ok.bind (P:=λr=>∃x k',r=(l,k',0,0,0,0,0,v0,xa,xb,xc,x,())/\0<=x/\x<=65535/\(pV v0=false->x=0)/\(v0=15->x<n)/\(v0=23->x<=15)/\(ng v0=true->x<XQ)/\DOk l k') ?_ ?_
 ·refine Ok.cond (λhj=>?_) λhj=>?_
  ·(with_reducible refine gn (by assumption) (by omega) (by omega) (λv4 k4 a4 b4 d4=>?_);try dsimp only)
   have hne:v0≠15/\v0≠23:=by constructor<;>(rintro rfl;exact absurd hj (by decide))
   exact Ok.ret ⟨_,_,rfl,a4,by omega,(λhh=>by
    have:pV v0=true:=by unfold ng at hj;unfold pV;simp at hj⊢;omega
    rw[this]at hh;cases hh),by omega,by omega,λ_=>b4,d4⟩
  ·(with_reducible refine dE (λhc5=>?_) λhc5=>?_)
   ·subst hc5
    (with_reducible refine gn (by assumption) (by omega) (by omega) (λv4 k4 a4 b4 d4=>?_);try dsimp only)
    exact Ok.ret ⟨_,_,rfl,a4,by omega,λhh=>absurd hh (by decide),by omega,by omega,λhh=>absurd hh (by decide),d4⟩
   ·(with_reducible refine dE (λhc6=>?_) λhc6=>?_)
    ·subst hc6
     (with_reducible refine gn (by assumption) (by omega) (by omega) (λv4 k4 a4 b4 d4=>?_);try dsimp only)
     exact Ok.ret ⟨_,_,rfl,a4,by omega,λhh=>absurd hh (by decide),by omega,by omega,λhh=>absurd hh (by decide),d4⟩
    ·refine Ok.cond (λhu=>?_) λhu=>?_
     ·(with_reducible refine IA (by assumption) (λv4 k4 a4 b4 d4=>?_);try dsimp only)
      (simp (disch:=omega) only [dP,dY,dT,dQ])
      exact Ok.ret ⟨_,_,rfl,a4,by omega,(λhh=>by rw[hu]at hh;cases hh),by omega,by omega,(λhh=>by rw[show ng v0=false from hj]at hh;cases hh),d4⟩
     ·exact Ok.ret ⟨_,_,rfl,by omega,by omega,λ_=>rfl,by omega,by omega,(λhh=>by rw[show ng v0=false from hj]at hh;cases hh),d3⟩
 rintro _ ⟨xi,k4,rfl,Q',WR,YZ,UI,hi4,hi5,d4⟩;exact Ok.ret ⟨_,_,_,_,_,_,rfl,⟨⟨a0,by dsimp only;omega⟩,⟨ha0,Xv,WP⟩,⟨Os,hb1,ZY⟩,⟨hc0,ZO,ZK⟩,⟨Q',WR,YZ⟩,UI,hi4,hi5⟩,d4⟩
theorem mD{α β:Type}{l:List α}{i:Nat}{f:α->Option β}{Q:β->Prop}(P:α->Prop)(h:i<l.length)(hP:∀x∈l,P x)(h2:∀a,P a->Ok (f a) Q):Ok ((dJ l i).bind f) Q:=Ok.get h λa ha=>h2 a (hP a (dR ha))
theorem eq{α:Type}{P:α->Prop}:∀x∈([]:List α),P x:=λ_ h=>by cases h
theorem all_cons{α:Type}{P:α->Prop}{a:α}{l:List α}(h:P a)(h2:∀x∈l,P x):∀x∈a::l,P x:=by
 simp_all
theorem Pl(a b:Int):iH a b=some (1,a,0,0,b,()):=rfl
theorem Pj(a b:Int):ml a b=some (2,a,b,0,0,()):=rfl
theorem MP(a:Int):gU a=some (23,0,0,0,a,()):=rfl
theorem QA{x:Int}(h:1<=x):1<=mmR false 5 x/\mmR false 5 x<=5:=by
 unfold mmR;simp;omega
def GT(n at_:Int)(l:List Int)(r:List DIn×List Int×Int×Unit):Prop:=∃xs k',r=(xs,l,k',())/\1<=xs.length/\xs.length<=6/\(∀i∈xs,is n (at_+xs.length) i)/\DOk l k'
theorem AL{n at_:Int}{l:List Int}{xs:List DIn}{k:Int}(h1:1<=xs.length/\xs.length<=6)(h2:∀i∈xs,is n (at_+xs.length) i)(h3:DOk l k):Ok (some (xs,l,k,())) (GT n at_ l):=Ok.ret ⟨xs,k,rfl,h1.1,h1.2,h2,h3⟩
theorem N4{s l:List Int}{at_ k:Int}(h:DOk l k)(hs:zK s)(ha:0<=at_/\at_<=99):Ok (oZ s (at_+1) at_ l k) (GT s.length at_ l):=by
 obtain⟨hs1,WJ,hsz⟩:=hs
 have hn:1<=(s.length:Int)/\(s.length:Int)<=4:=by omega
 unfold oZ;delta dO;simp only[Pl,Pj,MP,oBS]
 (with_reducible refine gn (by assumption) (by omega) (by omega) (λvr kr ar br dr=>?_);try dsimp only)
 refine Ok.nat (by omega) λj hj=>?_;refine mD (λa=>1<=a/\a<=32) (by omega) hsz λz hz=>?_
 (simp (disch:=omega) only [dP,dY,dT,dQ])
 have h5:=QA (x:=z+1) (by omega);generalize mmR false 5 (z+1)=mm at h5
 (with_reducible refine gn (by assumption) (by omega) (by omega) (λvu ku au bu du=>?_);try dsimp only)
 (with_reducible refine gn (by assumption) (by omega) (by omega) (λvw kw aw bw dw=>?_);try dsimp only)
 iterate 19
  (with_reducible refine dE (λhcc=>?_) λhcc=>?_)
  ·repeat (first|(simp (disch:=omega) only [dP,dY,dT,dQ])|(with_reducible refine gn (by assumption) (by omega) (by omega) (λv k a b d=>?_);try dsimp only)|(with_reducible refine IA (by assumption) (λv k a b d=>?_);try dsimp only)|(with_reducible refine Ok.nat (by omega) (λj hj=>?_);try dsimp only)|((with_reducible first|refine mD (λa=>1<=a/\a<=32) (by omega) (by assumption) (λe he=>?_)|refine mD (λa=>3<=a/\a<=14) (by simp only[oLC,List.length_nil];omega) (by(first|exact(all_cons (by omega) (all_cons (by omega) eq))|exact(all_cons (by omega) (all_cons (by omega) (all_cons (by omega) eq)))|exact(all_cons (by omega) (all_cons (by omega) (all_cons (by omega) (all_cons (by omega) (all_cons (by omega) (all_cons (by omega) (all_cons (by omega) (all_cons (by omega) eq)))))))))) (λe he=>?_)|refine mD (λa=>0<=a/\a<=15) (by simp only[oLC,List.length_nil];omega) (by(first|exact(all_cons (by omega) (all_cons (by omega) eq))|exact(all_cons (by omega) (all_cons (by omega) (all_cons (by omega) eq)))|exact(all_cons (by omega) (all_cons (by omega) (all_cons (by omega) (all_cons (by omega) (all_cons (by omega) (all_cons (by omega) (all_cons (by omega) (all_cons (by omega) eq)))))))))) (λe he=>?_)|refine mD (λa=>1<=a/\a<=100) (by simp only[oLC,List.length_nil];omega) (by(first|exact(all_cons (by omega) (all_cons (by omega) eq))|exact(all_cons (by omega) (all_cons (by omega) (all_cons (by omega) eq)))|exact(all_cons (by omega) (all_cons (by omega) (all_cons (by omega) (all_cons (by omega) (all_cons (by omega) (all_cons (by omega) (all_cons (by omega) (all_cons (by omega) eq)))))))))) (λe he=>?_));try dsimp only)|(with_reducible refine dG (dW (by first|omega|simp)) ?_;try dsimp only)|(refine mD (λ(a:List DIn)=>(1<=a.length/\a.length<=6)/\∀i∈a,is s.length (at_+a.length) i) (by simp only[oLC,List.length_nil];omega) (all_cons ⟨by simp,by((repeat' (first|exact eq|refine all_cons ?_ ?_|exact CN (by omega) (by omega)|exact EL (by omega) (by omega)|exact xp (by omega)|exact EQ (by omega) (by omega) (by omega)|exact IH (by omega) (by omega) (by omega) (by omega)|exact EI (by omega) (by omega) (by omega) (by omega)|exact E2 (by omega) (by omega) (by simp only[oLC,List.length_nil];omega)));done)⟩ (all_cons ⟨by simp,by((repeat' (first|exact eq|refine all_cons ?_ ?_|exact CN (by omega) (by omega)|exact EL (by omega) (by omega)|exact xp (by omega)|exact EQ (by omega) (by omega) (by omega)|exact IH (by omega) (by omega) (by omega) (by omega)|exact EI (by omega) (by omega) (by omega) (by omega)|exact E2 (by omega) (by omega) (by simp only[oLC,List.length_nil];omega)));done)⟩ eq)) (λe he=>?_);try dsimp only))
   first
    |exact AL he.1 he.2 (by assumption)
    |(refine AL (by simp) ?_ (by assumption);try simp only[List.append_eq,List.cons_append,List.nil_append]
      ((repeat' (first|exact eq|refine all_cons ?_ ?_|exact CN (by omega) (by omega)|exact EL (by omega) (by omega)|exact xp (by omega)|exact EQ (by omega) (by omega) (by omega)|exact IH (by omega) (by omega) (by omega) (by omega)|exact EI (by omega) (by omega) (by omega) (by omega)|exact E2 (by omega) (by omega) (by simp only[oLC,List.length_nil];omega)));done))
 refine(L9 (by assumption) hn (by omega)).bind ?_;rintro _ ⟨o,a,b,c,i,k',rfl,hi,hd⟩;exact AL (by simp) (all_cons (hi.mono (by simp)) eq) hd
theorem iK{α:Type}{P:α->Prop}{l m:List α}(h:∀x∈l,P x)(h2:∀x∈m,P x):∀x∈List.append l m,P x:=λx hx=>(List.mem_append.1 (show x∈l++m from hx)).elim (h x) (h2 x)
theorem fe{α:Type}(l m:List α):(List.append l m).length=l.length+m.length:=List.length_append
theorem oM{l:List Int}{k n:Int}(h:DOk l k)(hn:0<=n/\n<=1000):Ok (fW n l k) λr=>∃ws k',r=(ws,l,k',())/\(ws.length:Int)<=n/\(∀w∈ws,W16 w)/\DOk l k':=by
 unfold fW
 (simp (disch:=omega) only [dP,dY,dT,dQ])
 (with_reducible refine gn (by assumption) (by omega) (by omega) (λv0 k0 a0 b0 d0=>?_);try dsimp only)
 refine Ok.loop (P:=λ((c,l',k',s,_):Int×List Int×Int×List Int×Unit)=>l'=l/\DOk l k'/\0<=c/\c+s.length<=n/\∀x∈s,W16 x)
  (R:=λ((_,_,l',k',s,_):Int×Bool×List Int×Int×List Int×Unit)=>l'=l/\DOk l k'/\(s.length:Int)<=n/\∀x∈s,W16 x) (m:=λs=>s.1.toNat) ⟨rfl,d0,a0,by simp;omega,eq⟩ (by unfold NN;dsimp only;omega) ?_ ?_
 ·rintro⟨c,l',k3,s,_⟩ ⟨rfl,XT,hc0,Vy,hs⟩;unfold qm;dsimp only
  (with_reducible refine dE (λhcc=>?_) λhcc=>?_)
  ·(with_reducible refine IA (by assumption) (λv1 k1 a1 b1 d1=>?_);try dsimp only)
   refine dG (dW (by simp;omega)) ?_
   (simp (disch:=omega) only [dP,dY,dT,dQ])
   exact Ok.ret ⟨⟨rfl,by omega,by omega,by rw[fe];simp;omega,iK hs (all_cons ⟨a1,b1⟩ eq)⟩,by omega⟩
  ·exact Ok.ret ⟨rfl,XT,by dsimp only;omega,hs⟩
 ·rintro⟨a,b,l',k3,s,_⟩ ⟨rfl,XT,hs,hw⟩;exact Ok.ret ⟨_,_,rfl,hs,hw,XT⟩
structure ne (code:List DIn)(s:List Int)(d:List (List Int)):Prop where
 sz:zK s
 len:d.length=s.length
 fit:∀(j:Nat) x n,d[j]?=some x->s[j]?=some n->(x.length:Int)<=n
 num:∀x∈d,∀w∈x,W16 w
 clen:1<=code.length/\code.length<=64
 ins:∀i∈code,is s.length code.length i
theorem Gz{code:List DIn}{s:List Int}{d:List (List Int)}{l:List Int}{k:Int}(hp:ne code s d):
 Ok (dX gH NN ((code.length:Int),0,l,k,(),(),(),code,s,d,())) λr=>∃a b c,r=(a,b,c,l,k,(),(),(),code,s,d,()):=by
 have:=Ok.loop (f:=gH) (n:=NN) (Q:=λr=>∃a b c,r=(a,b,c,l,k,(),(),(),code,s,d,())) (s:=((code.length:Int),0,l,k,(),(),(),code,s,d,()))
  (P:=λs'=>∃i:Int,s'=((code.length:Int),i,l,k,(),(),(),code,s,d,())/\0<=i/\i<=code.length) (R:=λr=>∃a b c,r=(a,b,c,l,k,(),(),(),code,s,d,())) (m:=λs=>(s.1-s.2.1).toNat) ⟨0,rfl,by omega,by omega⟩ (by unfold NN;dsimp only;have:=hp.clen;omega) ?_ (λt ht=>Ok.ret ht)
 ·simp_all
 ·rintro _ ⟨i,rfl,Q',WR⟩;unfold gH;dsimp only;have hc:=hp.clen
  (with_reducible refine dE (λhcc=>?_) λhcc=>?_)
  ·refine Ok.bind (P:=λr=>r=((code.length:Int),i,l,k,(),(),(),code,s,d,())) ?_ ?_
   ·(with_reducible refine Ok.nat (by omega) (λj hj=>?_);try dsimp only)
    refine Ok.get (by omega) λx hx=>?_;have hin:=hp.ins x (dR hx);rw[xT];refine Ok.cond (λhjp=>?_) λ_=>Ok.ret rfl;refine Ok.nat (by omega) λj2 hj2=>?_;refine Ok.get (by omega) λy hy=>?_
    have hjj:j2=j:=by omega
    subst hjj;rw[hx]at hy
    injection hy with hy
    subst hy;have:=hin.jmp hjp;refine Ok.cond (λhcc=>?_) (λhcc=>?_)
    ·have h9:(x.2.2.2.2:Int)>=(code.length:Int):=of_decide_eq_true hcc;omega
    ·exact Ok.ret rfl
   ·rintro _ rfl;dsimp only
    (simp (disch:=omega) only [dP,dY,dT,dQ])
    exact Ok.ret ⟨⟨i+1,rfl,by omega,by omega⟩,by dsimp only;omega⟩
  ·exact Ok.ret ⟨_,_,_,rfl⟩
theorem Hw{l:List Int}{k:Int}(h:DOk l k):Ok (lp l k) λr=>∃code s d k',r=(code,s,d,l,k',())/\ne code s d/\DOk l k':=by
 unfold lp;refine(Lc h).bind ?_;rintro _ ⟨s,k1,rfl,hs,hd⟩;obtain⟨hs1,WJ,hsz⟩:=id hs;dsimp only;delta dO
 try dsimp only
 refine Ok.loop (P:=λs'=>∃k' d,s'=((s.length:Int),(d.length:Int),l,k',(),(),(),(),s,d,())/\DOk l k'/\d.length<=s.length/\(∀(j:Nat) x n,d[j]?=some x->s[j]?=some n->(x.length:Int)<=n)/\∀x∈d,∀w∈x,W16 w)
  (R:=λr=>∃a b c k' d,r=(a,b,c,l,k',(),(),(),(),s,d,())/\DOk l k'/\d.length=s.length/\(∀(j:Nat) x n,d[j]?=some x->s[j]?=some n->(x.length:Int)<=n)/\∀x∈d,∀w∈x,W16 w)
  (m:=λs=>(s.1-s.2.1).toNat) ⟨k1,[],rfl,hd,by simp,by simp,eq⟩ (by unfold NN;dsimp only;omega) ?_ ?_
 ·rintro _ ⟨k',d,rfl,YA,SX,ZX,Xk⟩;unfold oc;dsimp only
  (with_reducible refine dE (λhcc=>?_) λhcc=>?_)
  ·(with_reducible refine Ok.nat (by omega) (λj hj=>?_);try dsimp only)
   refine Ok.get (by omega) λx hx=>?_;refine Ok.get (by omega) λy hy=>?_
   have ZT:j=d.length:=by omega
   subst ZT;have WN:=hsz y (dR hy);refine(oM YA ⟨by omega,by omega⟩).bind ?_;rintro _ ⟨ws,k2,rfl,Ul,hww,hd2⟩;dsimp only;refine dG (dW (by simp;omega)) ?_
   (simp (disch:=omega) only [dP,dY,dT,dQ])
   refine Ok.ret ⟨⟨k2,List.append d [ws],by rw[fe];simp,hd2,by rw[fe];simp;omega,?_,iK Xk (all_cons hww eq)⟩,by dsimp only;omega⟩;intro i x n hx hn;rw[show List.append d [ws]=d++[ws]from rfl,List.getElem?_append]at hx;split at hx
   ·exact ZX i x n hx hn
   ·rename_i VY
    have:i-d.length=0:=by
     rcases Nat.eq_zero_or_pos (i-d.length)with h|h
     ·exact h
     ·rw[oGN (by simp;omega)]at hx;cases hx
    have hi:i=d.length:=by omega
    subst hi;simp at hx;subst hx;rw[hy]at hn
    injection hn with hn
    omega
  ·exact Ok.ret ⟨_,_,_,_,_,rfl,YA,by omega,ZX,Xk⟩
 rintro _ ⟨a,b,c,k2,d,rfl,hd2,SX,ZX,Xk⟩;dsimp only
 (with_reducible refine gn (by assumption) (by omega) (by omega) (λv0 k0 a0 b0 d0=>?_);try dsimp only)
 (simp (disch:=omega) only [dP,dY,dT,dQ])
 refine Ok.loop (P:=λs'=>∃i k' code,s'=(i,l,k',(),(),(),code,s,d,())/\0<=i/\i<=12/\DOk l k'/\code.length<=62/\∀i∈code,is s.length code.length i)
  (R:=λr=>∃a b k' code,r=(a,b,l,k',(),(),(),code,s,d,())/\DOk l k'/\code.length<=62/\∀i∈code,is s.length code.length i)
  (m:=λs=>s.1.toNat) ⟨_,_,[],rfl,by omega,by omega,d0,by simp,eq⟩ (by unfold NN;dsimp only;omega) ?_ ?_
 ·rintro _ ⟨i,k',code,rfl,Q',WR,YA,Zm,Yk⟩;unfold oa;dsimp only
  (with_reducible refine dE (λhcc=>?_) λhcc=>?_)
  ·refine Ok.bind (P:=λr=>∃k' code,r=(i,l,k',(),(),(),code,s,d,())/\DOk l k'/\code.length<=62/\∀i∈code,is s.length code.length i) ?_ ?_
   ·(simp (disch:=omega) only [dP,dY,dT,dQ])
    refine(N4 YA hs ⟨by omega,by omega⟩).bind ?_;rintro _ ⟨xs,k3,rfl,Z2,hx6,RQ,XT⟩;dsimp only
    (simp (disch:=omega) only [dP,dY,dT,dQ])
    (with_reducible refine dE (λhcc=>?_) λhcc=>?_)
    ·refine dG (dW (by omega)) ?_;refine Ok.ret ⟨_,_,rfl,XT,by rw[fe];omega,?_⟩;rw[fe];exact iK (λi hi=>(Yk i hi).mono (by omega)) (λi hi=>(RQ i hi).mono (by omega))
    ·exact Ok.ret ⟨_,_,rfl,XT,Zm,Yk⟩
   ·rintro _ ⟨k3,YW,rfl,XT,SS,W6⟩;dsimp only
    (simp (disch:=omega) only [dP,dY,dT,dQ])
    exact Ok.ret ⟨⟨_,_,_,rfl,by omega,by omega,XT,SS,W6⟩,by dsimp only;omega⟩
  ·exact Ok.ret ⟨_,_,_,_,rfl,YA,Zm,Yk⟩
 rintro _ ⟨a,b,k3,code,rfl,XT,Zm,Yk⟩;dsimp only;refine Ok.bind (P:=λr=>∃k' code,r=(l,k',(),(),(),code,s,d,())/\DOk l k'/\code.length<=63/\∀i∈code,is s.length (code.length+1) i) ?_ ?_
 ·(with_reducible refine gn (by assumption) (by omega) (by omega) (λv1 k1 a1 b1 d1=>?_);try dsimp only)
  (with_reducible refine dE (λhcc=>?_) λhcc=>?_)
  ·(simp (disch:=omega) only [dP,dY,dT,dQ])
   (with_reducible refine gn (by assumption) (by omega) (by omega) (λv2 k2 a2 b2 d2=>?_);try dsimp only)
   refine dG (dW (by simp;omega)) ?_;refine Ok.ret ⟨_,_,rfl,d2,by rw[fe];simp;omega,?_⟩;rw[fe];exact iK (λi hi=>(Yk i hi).mono (by simp;omega)) (all_cons (Oc (by omega) (by simp;omega)) eq)
  ·(with_reducible refine dE (λhcc=>?_) λhcc=>?_)
   ·refine dG (dW (by simp;omega)) ?_;refine Ok.ret ⟨_,_,rfl,d1,by rw[fe];simp;omega,?_⟩;rw[fe];exact iK (λi hi=>(Yk i hi).mono (by simp;omega)) (all_cons NT eq)
   ·exact Ok.ret ⟨_,_,rfl,d1,by omega,λi hi=>(Yk i hi).mono (by omega)⟩
 rintro _ ⟨k4,YW,rfl,hd4,SS,W6⟩;dsimp only
 (with_reducible refine gn (by assumption) (by omega) (by omega) (λv3 k3 a3 b3 d3=>?_);try dsimp only)
 simp only[Pl,MP,oBS];refine dG (dW (by simp;omega)) ?_;simp only[fe];refine Ok.cond (λhc=>?_) λ_=>?_
 ·have ZM:∀i∈List.append YW [(1,0,0,0,v3),(23,0,0,0,0)],is s.length (YW.length+1) i:=iK W6 (all_cons (CN (by omega) (by omega)) (all_cons (xp (by omega)) eq));simp only[oDE]at hc
  have hcn:(YW.length:Int)+2>64:=by
   have:((YW.length + [((1:Int),(0:Int),(0:Int),(0:Int),v3),(23,0,0,0,0)].length:Nat):Int)>64:=hc;simpa using this
  have h63:YW.length=63:=by omega
  refine dG (by rw[h63];rfl) ?_
  have hlen:(lO (List.append YW [((1:Int),(0:Int),(0:Int),(0:Int),v3),(23,0,0,0,0)]) 0 (Nat.sub 64 0)).length=64:=by
   unfold lO;rw[oLT,List.drop_zero,fe,h63];rfl
  have hp:ne (lO (List.append YW [((1:Int),(0:Int),(0:Int),(0:Int),v3),(23,0,0,0,0)]) 0 (Nat.sub 64 0)) s d:=by
   refine⟨hs,SX,ZX,Xk,by rw[hlen];decide,λi hi=>?_⟩;rw[hlen];refine(ZM i ?_).mono (by omega);unfold lO at hi;exact List.mem_of_mem_drop (List.mem_of_mem_take hi)
  refine(Gz (l:=l) (k:=_) hp).bind ?_;rintro _ ⟨a,b,c,rfl⟩;exact Ok.ret ⟨_,_,_,_,rfl,hp,d3⟩
 ·have hp:ne (List.append YW [(1,0,0,0,v3),(23,0,0,0,0)]) s d:=by
   refine⟨hs,SX,ZX,Xk,?_,?_⟩
   ·rw[fe];rename_i hc;have hcn:¬((YW.length + [((1:Int),(0:Int),(0:Int),(0:Int),v3),(23,0,0,0,0)].length:Nat):Int)>64:=of_decide_eq_false hc;simp only[oLC,List.length_nil]at hcn⊢;omega
   ·rw[fe];exact iK (λi hi=>(W6 i hi).mono (by simp)) (all_cons (CN (by omega) (by omega)) (all_cons (xp (by omega)) eq))
  have hf:=Gz (l:=l) (k:=k3) hp;rw[fe]at hf;refine hf.bind ?_;rintro _ ⟨a,b,c,rfl⟩;exact Ok.ret ⟨_,_,_,_,rfl,hp,d3⟩
theorem GQ{P:Int->Prop}{s:List Int}{i:Nat}{x:Int}(h:∀(j:Nat) y,j<i->s[j]?=some y->P y)(hx:s[i]?=some x)(hp:P x):∀(j:Nat) y,j<i+1->s[j]?=some y->P y:=by
 grind
theorem ID{s:List Int}(hl:s.length<=1000):Ok (gS s) λr=>r.1=true↔zK s:=by
 unfold gS;delta dO
 try dsimp only
 obtain⟨t,e,ht⟩:=g7 (f:=lS) (n:=NN) (s:=(s,s,(s.length:Int),0,())) (P:=λs'=>∃i:Nat,s'=(s,s,(s.length:Int),(i:Int),())/\i<=s.length/\∀(j:Nat) y,j<i->s[j]?=some y->1<=y/\y<=32)
  (R:=λr=>(r=.inl (false,())/\∃y∈s,¬(1<=y/\y<=32))\/((∃a b c d,r=.inr (s,a,b,c,d,()))/\∀y∈s,1<=y/\y<=32)) (m:=λs'=>(s'.2.2.1-s'.2.2.2.1).toNat) ⟨0,rfl,by omega,λj y hj=>by omega⟩ (by unfold NN;dsimp only;omega) (by
   rintro _ ⟨i,rfl,hi,ZM⟩;unfold lS
   (with_reducible refine dE (λhcc=>?_) λhcc=>?_)
   ·rw[dM];refine Ok.get (by omega) λx hx=>?_
    (with_reducible refine dE (λXg=>?_) λXg=>?_)
    ·exact Ok.ret (.inl ⟨rfl,x,dR hx,by omega⟩)
    ·(with_reducible refine dE (λX2=>?_) λX2=>?_)
     ·exact Ok.ret (.inl ⟨rfl,x,dR hx,by omega⟩)
     ·(simp (disch:=omega) only [dP,dY,dT,dQ])
      exact Ok.ret ⟨⟨i+1,rfl,by omega,GQ ZM hx ⟨by omega,by omega⟩⟩,by dsimp only;omega⟩
   ·refine Ok.ret (.inr ⟨⟨_,_,_,_,rfl⟩,λy hy=>?_⟩);have ⟨j,hj⟩:=List.getElem?_of_mem hy
    exact ZM j y (by have:=(oGS hj).1;omega) hj)
 rw[e]
 rcases ht with⟨rfl,y,hy,hn⟩|⟨⟨a,b,c,d,rfl⟩,ZM⟩
 ·exact Ok.ret ⟨λh=>(by cases h),λh=>absurd (h.2.2 y hy) hn⟩
 ·dsimp only
  (with_reducible refine dE (λhcc=>?_) λhcc=>?_)
  ·exact Ok.ret ⟨λh=>⟨by omega,(by have:=of_decide_eq_true h;omega),ZM⟩,λh=>oDT (by have:=h.2.1;omega)⟩
  ·exact Ok.ret ⟨λh=>(by cases h),λh=>by have:=h.1;omega⟩
abbrev VS(xs:List Int):Prop:=zK xs
theorem Kp{l:List Int}{k:Nat}(h:k<l.length):l.getD k 0=l[k]:=by simp[List.getD,h]
def zL(bs ss:List Int)(i:Nat):Prop:=
 0<=bs.getD i 0/\bs.getD i 0+ss.getD i 0<=512/\∀k,k<i->¬(bs.getD i 0<=bs.getD k 0+ss.getD k 0/\bs.getD k 0<=bs.getD i 0+ss.getD i 0)
def LV(bs ss:List Int):Prop:=VS ss/\bs.length=ss.length/\∀i,i<bs.length->zL bs ss i
theorem VS.at_{ss:List Int}(h:VS ss){i:Nat}(hi:i<ss.length):1<=ss[i]/\ss[i]<=32:=h.2.2 _ (List.getElem_mem hi)
def rU(ss:List Int)(seed:Int):Nat->List Int×Int
 |0=>(List.replicate ss.length 0,1+seed/ss.length%50)
 |k+1=>((rU ss seed k).1.set (((k+seed)%ss.length).toNat) (rU ss seed k).2,(rU ss seed k).2+(ss.getD ((k+seed)%ss.length).toNat 0+1+seed/(50*ss.length)%40))
def mkB(ss:List Int)(seed:Int):List Int:=(rU ss seed ss.length).1
theorem L3(ss:List Int)(seed:Int)(k:Nat):(rU ss seed k).1.length=ss.length:=by
 induction k with
 |zero=>simp[rU]
 |succ k ih=>simp[rU,ih]
theorem VS.getD{ss:List Int}(h:VS ss){i:Nat}(hi:i<ss.length):1<=ss.getD i 0/\ss.getD i 0<=32:=by rw[Kp hi];exact h.at_ hi
theorem MS{n k:Nat}{seed:Int}(hn:1<=n):0<=((k:Int)+seed)%n/\((k:Int)+seed)%n<n:=
 ⟨Int.emod_nonneg _ (by omega),Int.emod_lt_of_pos _ (by omega)⟩
theorem N7{ss:List Int}{seed:Int}(h:VS ss)(hs:0<=seed)(k:Nat):1<=(rU ss seed k).2/\(rU ss seed k).2<=50+72*k:=by
 induction k with
 |zero=>simp[rU];omega
 |succ k ih=>
  simp only[rU];have hr:=MS (k:=k) (seed:=seed) h.1;have:=h.getD (i:=(((k:Int)+seed)%ss.length).toNat) (by omega);omega
theorem J2{ss:List Int}(h0:1<=ss.length)(h1:ss.length<=4):(∃a,ss=[a])\/(∃a b,ss=[a,b])\/(∃a b c,ss=[a,b,c])\/(∃a b c d,ss=[a,b,c,d]):=by
 match ss,h0,h1 with
 | [a],_,_=>simp_all
 | [a,b],_,_=>simp_all
 | [a,b,c],_,_=>simp_all
 | [a,b,c,d],_,_=>simp_all
theorem wU{P:Nat->Prop}(h0:P 0):∀i,i<1->P i:=by
 simp_all
theorem AH{P:Nat->Prop}(h0:P 0)(h1:P 1):∀i,i<2->P i:=by
 grind
theorem Gd{P:Nat->Prop}(h0:P 0)(h1:P 1)(h2:P 2):∀i,i<3->P i:=by
 grind
theorem LD{P:Nat->Prop}(h0:P 0)(h1:P 1)(h2:P 2)(h3:P 3):∀i,i<4->P i:=by
 grind
def K3(b s:Int):Prop:=0<=b/\b+s<=512
def ge(b s b' s':Int):Prop:=¬(b<=b'+s'/\b'<=b+s)
theorem LV1{a x:Int}(hv:VS [a])(h:K3 x a):LV [x] [a]:=
 ⟨hv,rfl,wU ⟨h.1,h.2,λk hk=>by omega⟩⟩
theorem LV2{a b x y:Int}(hv:VS [a,b])(h:K3 x a)(h':K3 y b)(h1:ge y b x a):LV [x,y] [a,b]:=
 ⟨hv,rfl,AH ⟨h.1,h.2,λk hk=>by omega⟩ ⟨h'.1,h'.2,wU h1⟩⟩
theorem LV3{a b c x y z:Int}(hv:VS [a,b,c])(h:K3 x a)(h':K3 y b)(SD:K3 z c)(h1:ge y b x a)(h2:ge z c x a)(h3:ge z c y b):LV [x,y,z] [a,b,c]:=
 ⟨hv,rfl,Gd ⟨h.1,h.2,λk hk=>by omega⟩ ⟨h'.1,h'.2,wU h1⟩ ⟨SD.1,SD.2,AH h2 h3⟩⟩
theorem LV4{a b c d x y z u:Int}(hv:VS [a,b,c,d])(h:K3 x a)(h':K3 y b)(SD:K3 z c)(SE:K3 u d)(h1:ge y b x a)(h2:ge z c x a)(h3:ge z c y b)(h4:ge u d x a)(h5:ge u d y b)(h6:ge u d z c):LV [x,y,z,u] [a,b,c,d]:=
 ⟨hv,rfl,LD ⟨h.1,h.2,λk hk=>by omega⟩ ⟨h'.1,h'.2,wU h1⟩ ⟨SD.1,SD.2,AH h2 h3⟩ ⟨SE.1,SE.2,Gd h4 h5 h6⟩⟩
theorem PP{ss:List Int}(hv:VS ss){seed:Int}(hs:0<=seed):LV (mkB ss seed) ss:=by
 have Yn:=hv
 rcases J2 hv.1 hv.2.1 with⟨a,rfl⟩|⟨a,b,rfl⟩|⟨a,b,c,rfl⟩|⟨a,b,c,d,rfl⟩
 ·obtain⟨_,_,hx⟩:=hv;have ha:=hx a (by simp)
  have e0:(((0:Nat):Int)+seed)%1=0:=by omega
  have hB:mkB [a] seed=[1+seed/1%50]:=by simp[mkB,rU,List.replicate]
  rw[hB];exact LV1 Yn ⟨by omega,by omega⟩
 ·obtain⟨_,_,hx⟩:=hv;have ha:=hx a (by simp);have hb:=hx b (by simp)
  rcases(show seed%2=0\/seed%2=1 by omega)with ht|ht
  ·have e1:(1+seed)%2=1:=by omega
   simp only[mkB,rU,oLC,List.length_nil,List.replicate];simp[ht,e1];exact LV2 Yn ⟨by omega,by omega⟩ ⟨by omega,by omega⟩ (by unfold ge;omega)
  ·have e1:(1+seed)%2=0:=by omega
   simp only[mkB,rU,oLC,List.length_nil,List.replicate];simp[ht,e1];exact LV2 Yn ⟨by omega,by omega⟩ ⟨by omega,by omega⟩ (by unfold ge;omega)
 ·obtain⟨_,_,hx⟩:=hv;have ha:=hx a (by simp);have hb:=hx b (by simp);have hc:=hx c (by simp)
  rcases(show seed%3=0\/seed%3=1\/seed%3=2 by omega)with ht|ht|ht
  ·have e1:(1+seed)%3=1:=by omega
   have e2:(2+seed)%3=2:=by omega
   simp only[mkB,rU,oLC,List.length_nil,List.replicate];simp[ht,e1,e2];exact LV3 Yn ⟨by omega,by omega⟩ ⟨by omega,by omega⟩ ⟨by omega,by omega⟩ (by unfold ge;omega) (by unfold ge;omega) (by unfold ge;omega)
  ·have e1:(1+seed)%3=2:=by omega
   have e2:(2+seed)%3=0:=by omega
   simp only[mkB,rU,oLC,List.length_nil,List.replicate];simp[ht,e1,e2];exact LV3 Yn ⟨by omega,by omega⟩ ⟨by omega,by omega⟩ ⟨by omega,by omega⟩ (by unfold ge;omega) (by unfold ge;omega) (by unfold ge;omega)
  ·have e1:(1+seed)%3=0:=by omega
   have e2:(2+seed)%3=1:=by omega
   simp only[mkB,rU,oLC,List.length_nil,List.replicate];simp[ht,e1,e2];exact LV3 Yn ⟨by omega,by omega⟩ ⟨by omega,by omega⟩ ⟨by omega,by omega⟩ (by unfold ge;omega) (by unfold ge;omega) (by unfold ge;omega)
 ·obtain⟨_,_,hx⟩:=hv;have ha:=hx a (by simp);have hb:=hx b (by simp);have hc:=hx c (by simp);have hd:=hx d (by simp)
  have hq:∀q g:Int,q=1+seed/4%50->g=seed/(50*4)%40->1<=q/\q<=50/\0<=g/\g<40:=λq g e e'=>by subst e;subst e';omega
  rcases(show seed%4=0\/seed%4=1\/seed%4=2\/seed%4=3 by omega)with ht|ht|ht|ht
  ·have e1:(1+seed)%4=1:=by omega
   have e2:(2+seed)%4=2:=by omega
   have e3:(3+seed)%4=3:=by omega
   simp only[mkB,rU,oLC,List.length_nil,List.replicate];simp[ht,e1,e2,e3];exact LV4 Yn ⟨by omega,by omega⟩ ⟨by omega,by omega⟩ ⟨by omega,by omega⟩ ⟨by omega,by omega⟩ (by unfold ge;omega) (by unfold ge;omega) (by unfold ge;omega) (by unfold ge;omega) (by unfold ge;omega) (by unfold ge;omega)
  ·have e1:(1+seed)%4=2:=by omega
   have e2:(2+seed)%4=3:=by omega
   have e3:(3+seed)%4=0:=by omega
   simp only[mkB,rU,oLC,List.length_nil,List.replicate];simp[ht,e1,e2,e3];exact LV4 Yn ⟨by omega,by omega⟩ ⟨by omega,by omega⟩ ⟨by omega,by omega⟩ ⟨by omega,by omega⟩ (by unfold ge;omega) (by unfold ge;omega) (by unfold ge;omega) (by unfold ge;omega) (by unfold ge;omega) (by unfold ge;omega)
  ·have e1:(1+seed)%4=3:=by omega
   have e2:(2+seed)%4=0:=by omega
   have e3:(3+seed)%4=1:=by omega
   simp only[mkB,rU,oLC,List.length_nil,List.replicate];simp[ht,e1,e2,e3];exact LV4 Yn ⟨by omega,by omega⟩ ⟨by omega,by omega⟩ ⟨by omega,by omega⟩ ⟨by omega,by omega⟩ (by unfold ge;omega) (by unfold ge;omega) (by unfold ge;omega) (by unfold ge;omega) (by unfold ge;omega) (by unfold ge;omega)
  ·have e1:(1+seed)%4=0:=by omega
   have e2:(2+seed)%4=1:=by omega
   have e3:(3+seed)%4=2:=by omega
   simp only[mkB,rU,oLC,List.length_nil,List.replicate];simp[ht,e1,e2,e3];exact LV4 Yn ⟨by omega,by omega⟩ ⟨by omega,by omega⟩ ⟨by omega,by omega⟩ ⟨by omega,by omega⟩ (by unfold ge;omega) (by unfold ge;omega) (by unfold ge;omega) (by unfold ge;omega) (by unfold ge;omega) (by unfold ge;omega)
theorem HK{α:Type}(l:List α)(i:Nat)(a:α):List.modify l i (λ_=>a)=l.set i a:=by
 apply List.ext_getElem?
 grind
theorem N9{s:List Int}{seed:Int}(hs:zK s)(h0:0<=seed)(h1:seed<=1073741824):Ok (nG s seed) λr=>∃key,r=(mkB s seed,key,0,())/\W16 key:=by
 obtain⟨hs1,WJ,hsz⟩:=id hs;unfold nG;delta dO
 try dsimp only
 refine Ok.bind (P:=λr=>r=(s,seed,false,(),0,())) ?_ ?_
 ·refine(ID (by omega)).bind ?_;rintro⟨v,_⟩ hv;have hv:v=true:=hv.2 hs;subst hv;simp only[oNT,oCF]
  (with_reducible refine dE (λZZ=>?_) λZZ=>?_)
  ·omega
  ·exact Ok.ret (by rw[oDF (by omega)])
 rintro _ rfl;dsimp only;refine Ok.cond (λh=>by cases h) λ_=>?_;rw[dM];simp only[oBS];refine dG (by unfold rJ;rw[oBA];exact⟨oDT rfl,oDT (by omega)⟩) ?_;refine dG (by rw[bne_iff_ne];omega) ?_;have YN:Int.tdiv seed s.length=seed/s.length:=Int.tdiv_eq_ediv_of_nonneg h0;have hq:0<=seed/(s.length:Int)/\seed/(s.length:Int)<=seed:=⟨Int.ediv_nonneg h0 (by omega),Int.ediv_le_self _ h0⟩;have Ue:Int.tmod (seed/(s.length:Int)) 50=seed/(s.length:Int)%50:=Int.tmod_eq_emod_of_nonneg hq.1;rw[YN,dP (x:=seed/(s.length:Int)) (by omega) (by omega),Ue,dP (x:=1+seed/(s.length:Int)%50) (by omega) (by omega)]
 have Wi:W16 (wk .u16 (w64 (40503*seed))):=by
  unfold wk;rw[wP];exact⟨by omega,by omega⟩
 generalize wk .u16 (w64 (40503*seed))=key at Wi
 refine Ok.loop (P:=λs'=>∃k:Nat,s'=(s,seed,(s.length:Int),(rU s seed k).2,(s.length:Int),(k:Int),(),0,(rU s seed k).1,key,())/\k<=s.length) (R:=λr=>∃a b c d e f g h,r=(a,b,c,d,e,f,g,(),h,(rU s seed s.length).1,key,()))
  (m:=λs'=>(s'.2.2.2.2.1-s'.2.2.2.2.2.1).toNat) ⟨0,rfl,by omega⟩ (by unfold NN;dsimp only;omega) ?_ ?_
 ·rintro _ ⟨k,rfl,hk⟩;unfold qk;dsimp only;have hb:=N7 hs h0 k
  (with_reducible refine dE (λhcc=>?_) λhcc=>?_)
  ·have hr:=MS (k:=k) (seed:=seed) hs1;rw[dP (x:=(k:Int)+seed) (by omega) (by omega)];refine dG (by rw[bne_iff_ne];omega) ?_;rw[Int.tmod_eq_emod_of_nonneg (show 0<=(k:Int)+seed by omega)];refine Ok.nat hr.1 λr WV=>?_;have hl:=L3 s seed k;refine Ok.get (by omega) λx hx=>?_;refine Ok.get (by omega) λy hy=>?_;refine Ok.nat hr.1 λr2 hrr2=>?_
   have:r2=r:=by omega
   subst this;refine Ok.get (by omega) λz hz=>?_;have Xc:=hsz z (dR hz);rw[dP (x:=z+1) (by omega) (by omega),dP (x:=50*(s.length:Int)) (by omega) (by omega)];refine dG (by rw[bne_iff_ne];omega) ?_;have hd2:Int.tdiv seed (50*(s.length:Int))=seed/(50*s.length):=Int.tdiv_eq_ediv_of_nonneg h0;have YD:0<=seed/(50*(s.length:Int))/\seed/(50*(s.length:Int))<=seed:=⟨Int.ediv_nonneg h0 (by omega),Int.ediv_le_self _ h0⟩;have VH:Int.tmod (seed/(50*(s.length:Int))) 40=seed/(50*s.length)%40:=Int.tmod_eq_emod_of_nonneg YD.1;rw[hd2,dP (x:=seed/(50*(s.length:Int))) (by omega) (by omega),VH];generalize hg:seed/(50*(s.length:Int))%40=g
   have ZA:0<=g/\g<40:=by omega
   rw[dP (x:=z+1+g) (by omega) (by omega),dP (x:=(rU s seed k).2+(z+1+g)) (by omega) (by omega),dP (x:=(k:Int)+1) (by omega) (by omega),HK]
   have e1:(rU s seed (k+1)).1=(rU s seed k).1.set r2 (rU s seed k).2:=by
    simp only[rU];rw[WV];rfl
   have e2:(rU s seed (k+1)).2=(rU s seed k).2+(z+1+g):=by
    simp only[rU];rw[WV,hg,oTN,oGD,hz];rfl
   refine Ok.ret ⟨⟨k+1,?_,by omega⟩,by dsimp only;omega⟩;rw[e1,e2];rfl
  ·have:k=s.length:=by omega
   subst this;exact Ok.ret ⟨_,_,_,_,_,_,_,_,rfl⟩
 ·rintro _ ⟨a,b,c,d,e,f,g,h,rfl⟩;exact Ok.ret ⟨key,rfl,Wi⟩
theorem tu{S T:Type}{f:S->Option (S⊕T)}(st:Nat->S){n N:Nat}{t:T}(hn:n<N)(h:∀i,i<n->Ok (f (st i)) (·=.inl (st (i+1))))(he:Ok (f (st n)) (·=.inr t)):dX f N (st 0)=some t:=by
 have key:∀k i,i+k=n->∀N,k<N->dX f N (st i)=some t:=by
  intro k
  induction k with
  |zero=>
   intro i hi N hN;obtain⟨x,e,hx⟩:=he
   have:i=n:=by omega
   subst this;obtain⟨N',rfl⟩:∃N',N=N'+1:=⟨N-1,by omega⟩;simp[dX,e,hx]
  |succ k ih=>
   intro i hi N hN;have ⟨x,e,hx⟩:=h i (by omega);obtain⟨N',rfl⟩:∃N',N=N'+1:=⟨N-1,by omega⟩;simp[dX,e,hx];exact ih (i+1) (by omega) N' (by omega)
 simp_all
theorem eY{α:Type}{o:Option α}{a:α}(h:Ok o (·=a)):o=some a:=by
 obtain⟨x,e,rfl⟩:=h;exact e
theorem fA{l:List Int}{k:Nat}{x:Int}(h:l[k]?=some x):l.getD k 0=x:=by simp_all
theorem zR{s:List Int}(h:zK s):gS s=some (true,()):=by
 have ⟨⟨v,u⟩,e,hv⟩:=ID (s:=s) (by have:=h.2.1;omega)
 simp_all
theorem uz{bs ss:List Int}{key:Int}(h:LV bs ss):iY bs key ss=some (true,()):=by
 obtain⟨hs,hl,hr⟩:=h;have h4:=hs.2.1;unfold iY;rw[zR hs];delta dO;simp only[oBS,oNT,oCF,hl,bne_self_eq_false]
 have e:dX jv NN (ss,bs,(ss.length:Int),0,bs,key,())=some (.inr (ss,bs,(ss.length:Int),(ss.length:Int),false,bs,key,())):=by
  refine tu (st:=λi=>(ss,bs,(ss.length:Int),(i:Int),bs,key,())) (n:=ss.length) (by unfold NN;omega) ?_ ?_
  ·intro i hi;unfold jv;dsimp only;have Sq:=hr i (by omega);unfold zL at Sq
   (with_reducible refine dE (λZ9=>?_) λZ9=>?_)
   ·rw[dM];simp only[oBS];refine Ok.get (by omega) λb hb=>?_;rw[fA hb]at Sq
    (with_reducible refine dE (λZZ=>?_) λZZ=>?_)
    ·omega
    ·refine Ok.get (by omega) λz hz=>?_;rw[fA hz]at Sq;have Xc:=hs.2.2 z (dR hz)
     (simp (disch:=omega) only [dP,dY,dT,dQ])
     (with_reducible refine dE (λhcc=>?_) λhcc=>?_)
     ·omega
     ·refine dG (by unfold gi;simp;omega) ?_
      have Ul:(lO bs 0 (Nat.sub i 0)).length=i:=by unfold lO;rw[oLT,List.drop_zero];show min i _=i;omega
      rw[Ul]
      have e:dX jw NN (ss,(i:Int),b,bs,(ss.length:Int),(i:Int),lO bs 0 (Nat.sub i 0),(i:Int),0,bs,key,())=some (.inr (ss,(i:Int),b,bs,(ss.length:Int),(i:Int),lO bs 0 (Nat.sub i 0),(i:Int),(i:Int),false,bs,key,())):=by
       refine tu (st:=λj=>(ss,(i:Int),b,bs,(ss.length:Int),(i:Int),lO bs 0 (Nat.sub i 0),(i:Int),(j:Int),bs,key,())) (n:=i) (by unfold NN;omega) ?_ ?_
       ·intro j hj;unfold jw;dsimp only
        (with_reducible refine dE (λZ9=>?_) λZ9=>?_)
        ·rw[dM,dM];simp only[oBS]
         have hx:(dJ (lO bs 0 (Nat.sub i 0)) j)=bs[j]?:=by
          unfold dJ lO;rw[List.getElem?_take,List.drop_zero];exact oIP hj
         rw[hx];obtain⟨c,hc⟩:∃c,bs[j]?=some c:=⟨_,oGE (by omega)⟩;obtain⟨y,hy⟩:∃y,ss[j]?=some y:=⟨_,oGE (by omega)⟩;have WN:=hs.2.2 y (dR hy);have TL:dJ ss i=some z:=hz;have WB:dJ ss j=some y:=hy;rw[hc,TL,WB];simp only[oBS];have Sr:=(hr j (by omega)).1;have Tv:=(hr j (by omega)).2.1;rw[fA hc]at Sr Tv;rw[fA hy]at Tv;have VW:=Sq.2.2 j hj;rw[fA hc,fA hy]at VW;rw[dP (x:=b+z) (by omega) (by omega),dP (x:=c+y) (by omega) (by omega)];by_cases h1:b+z>=c
         ·have h2:¬c+y>=b:=by omega
          simp only[h1,h2,decide_true,decide_false,oCT,oCF]
          (simp (disch:=omega) only [dP,dY,dT,dQ])
          exact Ok.ret rfl
         ·simp only[h1,decide_false,oCF]
          (simp (disch:=omega) only [dP,dY,dT,dQ])
          exact Ok.ret rfl
        ·omega
       ·unfold jw;dsimp only
        (with_reducible refine dE (λZ9=>?_) λZ9=>?_)
        ·omega
        ·exact Ok.ret rfl
      rw[e]
      (simp (disch:=omega) only [dP,dY,dT,dQ])
      exact Ok.ret rfl
   ·omega
  ·unfold jv;dsimp only
   (with_reducible refine dE (λZ9=>?_) λZ9=>?_)
   ·omega
   ·exact Ok.ret rfl
 rw[e]
theorem Kg{n m o a b c i:Int}(h:is n m (o,a,b,c,i))(hn:n<=4)(hm:m<=64):mi o a b c i=some (true,()):=by
 obtain⟨⟨o0,o1⟩,⟨a0,a1,a2⟩,⟨b0,b1,b2⟩,⟨c0,c1,c2⟩,⟨i0,i1,i2⟩,hl,hs,hj⟩:=h;dsimp only at *
 have Yq:∀(k:Nat)(x:Int)(u:Bool),k<3->[a,b,c][k]?=some x->(k=0->u=pY o)->(k=1->u=pX o)->(k=2->u=pW o)->0<=x->x<8->(u=false->x=0)->
  Ok (jt (3,(k:Int),o,a,b,c,i,pY o,pX o,pW o,pV o,[a,b,c],())) (·=.inl (3,((k+1:Nat):Int),o,a,b,c,i,pY o,pX o,pW o,pV o,[a,b,c],())):=by
  intro k x u hk hx h0 h1 h2 hx0 Z2 X8;unfold jt;dsimp only
  (with_reducible refine dE (λZ9=>?_) λZ9=>?_)
  ·rw[dM];simp only[oBS];rw[show dJ [a,b,c] k=some x from hx];simp only[oBS];rw[oDF (show ¬x<0 by omega),oDF (show ¬x>=8 by omega)];simp only[oCF];have ZV:Ok (some ((3:Int),(k:Int),false,o,a,b,c,i,pY o,pX o,pW o,pV o,[a,b,c],())) (·=((3:Int),(k:Int),false,o,a,b,c,i,pY o,pX o,pW o,pV o,[a,b,c],())):=Ok.ret rfl
   have Ur:u=false->(x != 0)=false:=λh=>by rw[X8 h];rfl
   refine Ok.bind (P:=(·=((3:Int),(k:Int),false,o,a,b,c,i,pY o,pX o,pW o,pV o,[a,b,c],()))) ?_ ?_
   ·rcases(show k=0\/k=1\/k=2 by omega)with rfl|rfl|rfl
    ·rw[<- h0 rfl]at ZV⊢;refine dG rfl ?_;refine Ok.cond (λhu=>?_) λ_=>ZV;rw[Ur (by simpa using hu)];exact ZV
    ·rw[<- h1 rfl]at ZV⊢;refine Ok.cond (λhu=>by cases hu) λ_=>dG rfl (Ok.cond (λhu=>?_) λ_=>ZV);rw[Ur (by simpa using hu)];exact ZV
    ·rw[<- h2 rfl]at ZV⊢;refine Ok.cond (λhu=>by cases hu) λ_=>Ok.cond (λhu=>by cases hu) λ_=>dG rfl (Ok.cond (λhu=>?_) λ_=>ZV);rw[Ur (by simpa using hu)];exact ZV
   ·rintro _ rfl;dsimp only;rw[dP (x:=(k:Int)+1) (by omega) (by omega)];exact Ok.ret rfl
  ·omega
 have e:dX jt NN (3,0,o,a,b,c,i,pY o,pX o,pW o,pV o,[a,b,c],())=some (.inr (3,3,false,o,a,b,c,i,pY o,pX o,pW o,pV o,[a,b,c],())):=by
  refine tu (st:=λk=>(3,(k:Int),o,a,b,c,i,pY o,pX o,pW o,pV o,[a,b,c],())) (n:=3) (by unfold NN;omega) ?_ ?_
  ·intro k hk
   rcases(show k=0\/k=1\/k=2 by omega)with rfl|rfl|rfl
   ·exact Yq 0 a _ (by omega) rfl (λ_=>rfl) (by omega) (by omega) a0 a1 a2
   ·exact Yq 1 b _ (by omega) rfl (by omega) (λ_=>rfl) (by omega) b0 b1 b2
   ·exact Yq 2 c _ (by omega) rfl (by omega) (by omega) (λ_=>rfl) c0 c1 c2
  ·exact Ok.ret rfl
 refine eY ?_;unfold mi;rw[oDF (show ¬o<0 by omega),oDF (show ¬o>24 by omega),IE o0 o1];simp only[oCF,oBS];rw[show dO [a,b,c].length=3 from rfl,e];dsimp only;rw[oDF (show ¬i<0 by omega),oDF (show ¬i>65535 by omega)];simp only[oCF];refine Ok.bind (P:=(·=(false,o,a,b,c,i,()))) ?_ ?_
 ·refine Ok.cond (λhu=>?_) λ_=>Ok.ret rfl;exact Ok.ret (by rw[i2 (by simpa using hu)];rfl)
 rintro _ rfl;dsimp only;rw[xT];simp only[oCF,oBS];refine Ok.cond (λhu=>?_) λ_=>?_
 ·exact Ok.ret (by rw[oDT (by have:=hj hu;omega)])
 ·(with_reducible refine dE (λhcc=>?_) λhcc=>?_)
  ·exact Ok.ret (by rw[oDT (by have:=hl hcc;omega)])
  ·(with_reducible refine dE (λXg=>?_) λXg=>?_)
   ·exact Ok.ret (by rw[oDT (by have:=hs Xg;omega)])
   ·exact Ok.ret rfl
theorem GH{code:List DIn}{s:List Int}{d:List (List Int)}(h:ne code s d):j8 code s d=some (0,()):=by
 have hs:=h.sz;have WJ:=hs.2.1;have hc:=h.clen;have hl:=h.len
 have e0:dX jq NN (d,(d.length:Int),0,code,s,d,())=some (.inr (d,(d.length:Int),(d.length:Int),false,code,s,d,())):=by
  refine tu (st:=λk=>(d,(d.length:Int),(k:Int),code,s,d,())) (n:=d.length) (by unfold NN;omega) ?_ ?_
  ·intro k hk;unfold jq;dsimp only
   (with_reducible refine dE (λZ9=>?_) λZ9=>?_)
   ·rw[dM];delta dO;simp only[oBS];refine Ok.get (by omega) λx hx=>?_;refine Ok.get (by omega) λy hy=>?_;have:=h.fit k x y hx hy
    (with_reducible refine dE (λZZ=>?_) λZZ=>?_)
    ·omega
    ·(simp (disch:=omega) only [dP,dY,dT,dQ])
     exact Ok.ret rfl
   ·omega
  ·unfold jq;dsimp only
   (with_reducible refine dE (λZ9=>?_) λZ9=>?_)
   ·omega
   ·exact Ok.ret rfl
 have e1:dX jp NN (code,(code.length:Int),0,code,s,d,())=some (.inr (code,(code.length:Int),(code.length:Int),false,code,s,d,())):=by
  refine tu (st:=λk=>(code,(code.length:Int),(k:Int),code,s,d,())) (n:=code.length) (by unfold NN;omega) ?_ ?_
  ·intro k hk;unfold jp;dsimp only
   (with_reducible refine dE (λZ9=>?_) λZ9=>?_)
   ·rw[dM];simp only[oBS];refine Ok.get (by omega) λx hx=>?_;obtain⟨o,a,b,c,i⟩:=x;rw[Kg (h.ins _ (dR hx)) (by omega) (by omega)]
    (simp (disch:=omega) only [dP,dY,dT,dQ])
    exact Ok.ret rfl
   ·omega
  ·unfold jp;dsimp only
   (with_reducible refine dE (λZ9=>?_) λZ9=>?_)
   ·omega
   ·exact Ok.ret rfl
 have e3:dX jo NN (code,(code.length:Int),0,code,s,d,())=some (.inr (code,(code.length:Int),(code.length:Int),false,code,s,d,())):=by
  refine tu (st:=λk=>(code,(code.length:Int),(k:Int),code,s,d,())) (n:=code.length) (by unfold NN;omega) ?_ ?_
  ·intro k hk;unfold jo;dsimp only
   (with_reducible refine dE (λZ9=>?_) λZ9=>?_)
   ·rw[dM];simp only[oBS];refine Ok.get (by omega) λx hx=>?_;have hp:=h.ins x (dR hx);rw[xT];simp only[oBS];refine Ok.bind (P:=(·=(code,(code.length:Int),(k:Int),false,code,s,d,()))) ?_ ?_
    ·refine Ok.cond (λhj=>?_) λ_=>?_
     ·have:=hp.jmp hj
      (with_reducible refine dE (λZZ=>?_) λZZ=>?_)
      ·have ZZ:x.2.2.2.2>=(code.length:Int):=ZZ;omega
      ·(with_reducible refine dE (λhcc=>?_) λhcc=>?_)
       ·exact Ok.ret (by rw[oDF (show ¬x.2.2.2.2>=dO s.length by rw[dQ];have:=hp.lea hcc;omega)])
       ·exact Ok.ret rfl
     ·(with_reducible refine dE (λhcc=>?_) λhcc=>?_)
      ·exact Ok.ret (by rw[oDF (show ¬x.2.2.2.2>=dO s.length by rw[dQ];have:=hp.lea hcc;omega)])
      ·exact Ok.ret rfl
    ·rintro _ rfl;dsimp only;simp only[oCF]
     (simp (disch:=omega) only [dP,dY,dT,dQ])
     exact Ok.ret rfl
   ·omega
  ·unfold jo;dsimp only
   (with_reducible refine dE (λZ9=>?_) λZ9=>?_)
   ·omega
   ·exact Ok.ret rfl
 refine eY ?_;unfold j8;rw[zR hs];delta dO;simp only[oBS,oNT,oCF,hl,bne_self_eq_false];rw[hl]at e0;rw[e0];dsimp only
 (with_reducible refine dE (λZ9=>?_) λZ9=>?_)
 ·omega
 ·(with_reducible refine dE (λZZ=>?_) λZZ=>?_)
  ·omega
  ·rw[e1];dsimp only;rw[e3];exact Ok.ret rfl
def RK(bs ss:List Int)(a:Int):Prop:=∃(j:Nat)(b z:Int),bs[j]?=some b/\ss[j]?=some z/\b<=a/\a<b+z
def n6(K:Int->Prop)(c:DCe):Prop:=0<=c.1/\c.1<=2/\0<=c.2/\c.2<=65535/\(c.1=1->K c.2)
theorem n6.mono{K K':Int->Prop}{c:DCe}(h:n6 K c)(hk:∀a,K a->K' a):n6 K' c:=⟨h.1,h.2.1,h.2.2.1,h.2.2.2.1,λe=>hk _ (h.2.2.2.2 e)⟩
theorem l7{K:Int->Prop}{v:Int}(h:0<=v/\v<=65535):n6 K (0,v):=⟨by omega,by omega,h.1,h.2,λe=>absurd (show(0:Int)=1 from e) (by decide)⟩
def PO(K:Int->Prop)(i:Nat)(x:DLn):Prop:=(x.1=-1/\x.2.1=false/\x.2.2=[])\/(0<=x.1/\x.1<128/\x.1%4=i/\x.2.2.length=4/\∀c∈x.2.2,n6 K c)
def P4(cs:List DCe)(x:DLn):Prop:=x.1=-1\/x.2.1=true\/∀o:Nat,o<4->cs[(x.1*4).toNat+o]?=x.2.2[o]?
structure lf (K:Int->Prop)(cs:List DCe)(ls:List DLn):Prop where
 clen:cs.length=512
 cells:∀c∈cs,n6 K c
 llen:ls.length=4
 lines:∀(i:Nat) x,ls[i]?=some x->PO K i x
 coh:∀(i:Nat) x,ls[i]?=some x->P4 cs x
structure yO (K:Int->Prop)(n:Int)(t:DTh):Prop where
 state:0<=t.1/\t.1<=4
 len:t.2.1.length=8
 regs:∀c∈t.2.1,n6 K c
 pc:0<=t.2.2.1/\t.2.2.1<=255
 count:0<=t.2.2.2.1/\t.2.2.2.1<=n
 handler:-1<=t.2.2.2.2.1/\t.2.2.2.2.1<=255
 saved:-1<=t.2.2.2.2.2.1/\t.2.2.2.2.2.1<=255
 trap:0<=t.2.2.2.2.2.2.1/\t.2.2.2.2.2.2.1<=6
 code:W16 t.2.2.2.2.2.2.2
structure MOk (n:Int)(ss bs:List Int)(cs:List DCe)(ls:List DLn)(ts:List DTh):Prop where
 lay:LV bs ss
 mem:lf (RK bs ss) cs ls
 tlen:ts.length=4
 thr:∀t∈ts,yO (RK bs ss) n t
theorem GR{K:Int->Prop}{l:List DCe}(hl:l.length<=1000)(h:∀c∈l,n6 K c):mR l=some (true,()):=by
 have e:dX ln NN (l,(l.length:Int),0,())=some (.inr (l,(l.length:Int),(l.length:Int),false,())):=by
  refine tu (st:=λk=>(l,(l.length:Int),(k:Int),())) (n:=l.length) (by unfold NN;omega) ?_ ?_
  ·intro k hk;unfold ln
   (with_reducible refine dE (λZ9=>?_) λZ9=>?_)
   ·rw[dM];refine Ok.get (by omega) λx hx=>?_;have:=h x (dR hx);unfold ki;rw[oDT (show x.1<=2 from this.2.1)]
    (simp (disch:=omega) only [dP,dY,dT,dQ])
    exact Ok.ret rfl
   ·omega
  ·unfold ln
   (with_reducible refine dE (λZ9=>?_) λZ9=>?_)
   ·omega
   ·exact Ok.ret rfl
 refine eY ?_;unfold mR;delta dO
 try dsimp only
 rw[e];exact Ok.ret rfl
theorem GZ{K:Int->Prop}{cs:List DCe}{ls:List DLn}(h:lf K cs ls):mj cs ls=some (true,()):=by
 obtain⟨h1,h2,h3,h4,_⟩:=h
 have e:dX ju NN (ls,4,0,cs,ls,())=some (.inr (ls,4,4,false,cs,ls,())):=by
  refine tu (st:=λk=>(ls,4,(k:Int),cs,ls,())) (n:=4) (by unfold NN;omega) ?_ ?_
  ·intro k hk;unfold ju;dsimp only
   (with_reducible refine dE (λZ9=>?_) λZ9=>?_)
   ·rw[dM];simp only[oBS];refine Ok.get (by omega) λx hx=>?_
    rcases h4 k x hx with⟨e1,e2,e3⟩|⟨g1,g2,g3,g4,g5⟩
    ·rw[e1,e2,e3]
     (simp (disch:=omega) only [dP,dY,dT,dQ])
     exact Ok.ret rfl
    ·rw[show(x.1==-1)=false by rw[beq_eq_false_iff_ne];omega,oDF (show ¬x.1<0 by omega),oDF (show ¬x.1>=128 by omega),Int.tmod_eq_emod_of_nonneg g1,g3,g4,GR (by omega) g5];simp;refine Ok.bind (P:=(·=(ls,4,(k:Int),false,cs,ls,()))) ?_ ?_
     ·refine Ok.cond (λh=>by cases h) λ_=>Ok.ret rfl
     ·rintro _ rfl;dsimp only;simp only[oCF]
      (simp (disch:=omega) only [dP,dY,dT,dQ])
      exact Ok.ret rfl
   ·omega
  ·unfold ju;exact Ok.ret rfl
 refine eY ?_;unfold mj;delta dO;simp only[h1,h3,GR (show cs.length<=1000 by omega) h2,oBS,oNT];refine Ok.bind (P:=(·=(false,cs,ls,()))) ?_ ?_
 ·exact Ok.ret rfl
 ·rintro _ rfl;dsimp only;simp only[oCF];rw[h3,show((4:Nat):Int)=4 from rfl,e];exact Ok.ret rfl
theorem GY{K:Int->Prop}{t:DTh}(h:yO K 1099511627776 t):mf t.1 t.2.1 t.2.2.1 t.2.2.2.1 t.2.2.2.2.1 t.2.2.2.2.2.1 t.2.2.2.2.2.2.1 t.2.2.2.2.2.2.2=some (true,()):=by
 obtain⟨⟨a1,a2⟩,hl,hr,⟨b1,b2⟩,⟨c1,c2⟩,⟨d1,d2⟩,⟨e1,e2⟩,⟨f1,f2⟩,_⟩:=h;obtain⟨s,rs,pc,ct,ha,sa,tr,co⟩:=t;dsimp only at *
 have e:dX jn NN (rs,(rs.length:Int),0,s,rs,pc,ct,ha,sa,tr,co,())=some (.inr (rs,(rs.length:Int),(rs.length:Int),false,s,rs,pc,ct,ha,sa,tr,co,())):=by
  refine tu (st:=λk=>(rs,(rs.length:Int),(k:Int),s,rs,pc,ct,ha,sa,tr,co,())) (n:=rs.length) (by unfold NN;omega) ?_ ?_
  ·intro k hk;unfold jn
   (with_reducible refine dE (λZ9=>?_) λZ9=>?_)
   ·rw[dM];refine Ok.get (by omega) λx hx=>?_;have:=hr x (dR hx);unfold ki;rw[oDT (show x.1<=2 from this.2.1)]
    (simp (disch:=omega) only [dP,dY,dT,dQ])
    exact Ok.ret rfl
   ·omega
  ·unfold jn
   (with_reducible refine dE (λZ9=>?_) λZ9=>?_)
   ·omega
   ·exact Ok.ret rfl
 refine eY ?_;unfold mf;delta dO
 try dsimp only
 rw[e];dsimp only;rw[hl];refine dG (oDT a1) (dG (oDT a2) (dG rfl (dG (oDT b1) (dG (oDT b2) (dG (oDT c1) (dG (oDT c2) (dG (oDT d1) (dG (oDT d2) (dG (oDT e1) (dG (oDT e2) (dG (oDT f1) ?_)))))))))));exact Ok.ret (by simp_all)
theorem uy{code:List DIn}{ss bs:List Int}{d:List (List Int)}{n key:Int}{cs:List DCe}{ls:List DLn}{ts:List DTh}(hp:ne code ss d)(h:MOk n ss bs cs ls ts)(hn:n<=1099511627776):iX code ss d bs key cs ls ts=some (true,()):=by
 have ⟨h1,h2,h3,h4⟩:=h
 have e:dX lR NN (ts,4,0,bs,key,cs,ls,ts,())=some (.inr (ts,4,4,false,bs,key,cs,ls,ts,())):=by
  refine tu (st:=λk=>(ts,4,(k:Int),bs,key,cs,ls,ts,())) (n:=4) (by unfold NN;omega) ?_ ?_
  ·intro k hk;unfold lR
   (with_reducible refine dE (λZ9=>?_) λZ9=>?_)
   ·rw[dM];refine Ok.get (by omega) λx hx=>?_;have ht:=h4 x (dR hx);rw[GY ⟨ht.state,ht.len,ht.regs,ht.pc,⟨ht.count.1,by have:=ht.count.2;omega⟩,ht.handler,ht.saved,ht.trap,ht.code⟩]
    (simp (disch:=omega) only [dP,dY,dT,dQ])
    exact Ok.ret rfl
   ·omega
  ·exact Ok.ret rfl
 refine eY ?_;unfold iX;rw[GH hp,uz h1,GZ h2];delta dO;simp only[oBS,oNT,oCF,bne_self_eq_false,h3];rw[show((4:Nat):Int)=4 from rfl,e];exact Ok.ret rfl
def ib:List DLn:=[(-1,false,[]),(-1,false,[]),(-1,false,[]),(-1,false,[])]
theorem Mr:oY=some (ib,()):=by kernel_rfl
theorem Kx{K:Int->Prop}{cs:List DCe}(h:cs.length=512)(hc:∀c∈cs,n6 K c):lf K cs ib:=by
 have key:∀(i:Nat) x,ib[i]?=some x->x=(-1,false,[]):=λi x hx=>by
  have:=dR hx;simp[ib]at this;exact this
 exact⟨h,hc,rfl,λi x hx=>by rw[key i x hx];exact .inl ⟨rfl,rfl,rfl⟩,λi x hx=>by rw[key i x hx];exact .inl rfl⟩
theorem i5{α:Type}{P:α->Prop}{l:List α}{i:Nat}{f:α->α}(h:∀x∈l,P x)(hf:∀x,P x->P (f x)):∀x∈List.modify l i f,P x:=by
 intro x hx;have ⟨j,hj⟩:=List.getElem?_of_mem hx
 grind
theorem Oa{code:List DIn}{ss bs:List Int}{d:List (List Int)}{key:Int}(hp:ne code ss d)(hl:LV bs ss):Ok (nE code ss d bs key) λr=>∃cs,r=(cs,ib,0,())/\cs.length=512/\∀c∈cs,n6 (λ_=>False) c:=by
 unfold nE;rw[uz hl,Mr];delta dO;simp only[oBS,oNT,oCF,hp.len,bne_self_eq_false];refine dG (by decide) ?_
 obtain⟨t,e,ht⟩:=g7 (f:=mS) (n:=NN) (s:=(d,(ss.length:Int),0,code,ss,d,bs,key,(),(),List.replicate 512 (0,0),ib,()))
  (P:=λs'=>∃k:Nat,∃cs,s'=(d,(ss.length:Int),(k:Int),code,ss,d,bs,key,(),(),cs,ib,())/\k<=ss.length/\cs.length=512/\∀c∈cs,n6 (λ_=>False) c)
  (R:=λr=>∃a b c e cs,r=.inr (a,b,c,e,code,ss,d,bs,key,(),(),cs,ib,())/\cs.length=512/\∀c∈cs,n6 (λ_=>False) c) (m:=λs'=>(s'.2.1-s'.2.2.1).toNat)
  ⟨0,_,rfl,by omega,List.length_replicate,λc hc=>by rw[List.eq_of_mem_replicate hc];exact l7 (by decide)⟩ (by unfold NN;dsimp only;have:=hp.sz.2.1;omega) (by
   rintro _ ⟨k,cs,rfl,hk,ZO,ZK⟩;unfold mS;dsimp only;have hlen:=hp.len;have WJ:=hp.sz.2.1
   (with_reducible refine dE (λZ9=>?_) λZ9=>?_)
   ·rw[dM];delta dO;simp only[oBS];refine Ok.get (by omega) λx hx=>?_;refine Ok.get (by omega) λy hy=>?_;have hf:=hp.fit k x y hx hy;have Xk:=hp.num x (dR hx);obtain⟨_,U8,hr⟩:=hl;have Vl:=hr k (by omega);unfold zL at Vl;obtain⟨b,hb⟩:∃b,bs[k]?=some b:=⟨_,oGE (by omega)⟩;rw[fA hb,fA hy]at Vl
    (with_reducible refine dE (λZZ=>?_) λZZ=>?_)
    ·omega
    ·refine Ok.loop (P:=λs'=>∃j:Nat,∃cs,s'=((k:Int),d,(ss.length:Int),(k:Int),x,(x.length:Int),(j:Int),code,ss,d,bs,key,(),(),cs,ib,())/\j<=x.length/\cs.length=512/\∀c∈cs,n6 (λ_=>False) c)
      (R:=λr=>∃a b c e cs,r=(a,d,(ss.length:Int),(k:Int),b,c,e,false,code,ss,d,bs,key,(),(),cs,ib,())/\cs.length=512/\∀c∈cs,n6 (λ_=>False) c) (m:=λs'=>(s'.2.2.2.2.2.1-s'.2.2.2.2.2.2.1).toNat)
      ⟨0,cs,rfl,by omega,ZO,ZK⟩ (by unfold NN;dsimp only;omega) ?_ ?_
     ·rintro _ ⟨j,cs,rfl,hj,ZO,ZK⟩;unfold qj;dsimp only
      (with_reducible refine dE (λhcc=>?_) λhcc=>?_)
      ·rw[dM,dM];simp only[oBS];refine Ok.get (by omega) λv hv=>?_;have Xq:=Xk v (dR hv);rw[show dJ bs k=some b from hb];simp only[oBS]
       (simp (disch:=omega) only [dP,dY,dT,dQ])
       refine Ok.nat (by omega) λa ha=>?_;refine Ok.get (by omega) λc hc=>?_;refine Ok.get (by omega) λc' XC=>?_;exact Ok.ret ⟨⟨j+1,_,rfl,by omega,by rw[oLM];exact ZO,i5 ZK λz hz=>⟨hz.1,hz.2.1,Xq.1,Xq.2,hz.2.2.2.2⟩⟩,by dsimp only;omega⟩
      ·exact Ok.ret ⟨_,_,_,_,_,rfl,ZO,ZK⟩
     ·rintro _ ⟨a,b,c,e,cs,rfl,ZO,ZK⟩;dsimp only
      (simp (disch:=omega) only [dP,dY,dT,dQ])
      exact Ok.ret ⟨⟨k+1,_,rfl,by omega,ZO,ZK⟩,by dsimp only;omega⟩
   ·exact Ok.ret ⟨_,_,_,_,_,rfl,ZO,ZK⟩)
 rw[e];obtain⟨a,b,c,e,cs,rfl,ZO,ZK⟩:=ht;exact Ok.ret ⟨cs,rfl,ZO,ZK⟩
theorem OV{K:Int->Prop}:∀c∈List.replicate 8 ((0:Int),(0:Int)),n6 K c:=λc hc=>by rw[List.eq_of_mem_replicate hc];exact l7 (by decide)
theorem Nh{K:Int->Prop}{s:Int}(h:0<=s/\s<=4):yO K 0 (s,List.replicate 8 (0,0),0,0,-1,-1,0,0):=
 ⟨h,rfl,OV,⟨by simp_all,by simp_all⟩,⟨by simp_all,by simp_all⟩,⟨by simp_all,by simp_all⟩,⟨by simp_all,by simp_all⟩,⟨by simp_all,by simp_all⟩,⟨by simp_all,by simp_all⟩⟩
theorem K8{code:List DIn}{ss bs:List Int}{d:List (List Int)}{key:Int}(hp:ne code ss d)(hl:LV bs ss):Ok (mh code ss d bs key) λr=>∃cs ts,r=(bs,key,cs,ib,ts,0,())/\MOk 0 ss bs cs ib ts:=by
 unfold mh;rw[GH hp,uz hl];refine(Oa hp hl).bind ?_;rintro _ ⟨cs,rfl,ZO,ZK⟩;dsimp only;have U8:=hl.2.1;have WJ:=hp.sz.2.1;refine dG (dW (by omega)) ?_
 refine Ok.loop (P:=λs'=>∃k:Nat,∃ts,s'=((k:Int),(),0,(),(),(),bs,key,cs,ib,ts,())/\k<=4/\ts.length=k/\∀t∈ts,yO (RK bs ss) 0 t)
  (R:=λr=>∃a b ts,r=(a,b,(),0,(),(),(),bs,key,cs,ib,ts,())/\ts.length=4/\∀t∈ts,yO (RK bs ss) 0 t) (m:=λs'=>(4-s'.1).toNat) ⟨0,[],rfl,by omega,rfl,eq⟩ (by unfold NN;dsimp only;omega) ?_ ?_
 ·rintro _ ⟨k,ts,rfl,hk,XY,Y9⟩;unfold pN;dsimp only
  (with_reducible refine dE (λZ9=>?_) λZ9=>?_)
  ·refine dG (by decide) ?_;refine Ok.bind (P:=λr=>∃s,(0<=s/\s<=4)/\r=((k:Int),(),0,(),(),(),bs,key,cs,ib,ts,s,List.replicate 8 (0,0),0,0,-1,-1,0,0,())) ?_ ?_
   ·(with_reducible refine dE (λZZ=>?_) λZZ=>?_)
    ·exact Ok.ret ⟨1,by decide,rfl⟩
    ·exact Ok.ret ⟨0,by decide,rfl⟩
   ·rintro _ ⟨s,hs,rfl⟩;dsimp only;refine dG (dW (by simp;omega)) ?_
    (simp (disch:=omega) only [dP,dY,dT,dQ])
    exact Ok.ret ⟨⟨k+1,_,rfl,by omega,by rw[fe,XY];rfl,iK Y9 (all_cons (Nh hs) eq)⟩,by dsimp only;omega⟩
  ·exact Ok.ret ⟨_,_,_,rfl,by omega,Y9⟩
 ·rintro _ ⟨a,b,ts,rfl,XY,Y9⟩;exact Ok.ret ⟨cs,ts,rfl,hl,Kx ZO λc hc=>(ZK c hc).mono λ_ h=>h.elim,XY,Y9⟩
def Pr(ss:List Int)(c:DCn):Prop:=
 ((c.1=0\/c.1=2)/\c.2.2.1=0/\c.2.2.2=0/\W16 c.2.1)\/(c.1=1/\c.2.1=0/\0<=c.2.2.1/\∃n,ss[c.2.2.1.toNat]?=some n/\0<=c.2.2.2/\c.2.2.2<n)
theorem Eb{ss:List Int}{c:DCn}(hs:zK ss)(h:Pr ss c):jI c.1 c.2.1 c.2.2.1 c.2.2.2=some (true,()):=by
 refine eY ?_;unfold jI
 rcases h with⟨h1,h2,h3,_⟩|⟨h1,h2,h3,n,h4,h5,h6⟩
 ·rw[h2,h3]
  rcases h1 with h1|h1<;>rw[h1]<;>exact Ok.ret rfl
 ·have hn:=hs.2.2 n (dR h4);have hl:=(oGS h4).1;have WJ:=hs.2.1;rw[h1,h2,show(c.2.2.1==-1)=false by rw[beq_eq_false_iff_ne];omega];refine Ok.cond (λh=>by cases h) λ_=>Ok.cond (λh=>by cases h) λ_=>dG rfl ?_;refine Ok.cond (λh=>by cases h) λ_=>dG rfl ?_;exact dG (oDT h3) (dG (oDT (by omega)) (dG (oDT h5) (Ok.ret (by rw[oDT (show c.2.2.2<32 by omega)]))))
theorem mH{ss:List Int}{l:List DCn}{n:Int}(hs:zK ss)(h:∀c∈l,Pr ss c)(hn:(l.length:Int)<=n)(hl:l.length<=1000):fR l n=some (true,()):=by
 have e:dX jm NN (l,n,l,(l.length:Int),0,())=some (.inr (l,n,l,(l.length:Int),(l.length:Int),false,())):=by
  refine tu (st:=λk=>(l,n,l,(l.length:Int),(k:Int),())) (n:=l.length) (by unfold NN;omega) ?_ ?_
  ·intro k hk;unfold jm
   (with_reducible refine dE (λZ9=>?_) λZ9=>?_)
   ·rw[dM];refine Ok.get (by omega) λx hx=>?_;rw[Eb hs (h x (dR hx))]
    (simp (disch:=omega) only [dP,dY,dT,dQ])
    exact Ok.ret rfl
   ·omega
  ·unfold jm
   (with_reducible refine dE (λZ9=>?_) λZ9=>?_)
   ·omega
   ·exact Ok.ret rfl
 refine eY ?_;unfold fR;delta dO
 try dsimp only
 rw[e];exact Ok.ret (congrArg (λb=>(b,())) (oDT hn))
def OK(d:List (List DCn))(o:DOp):Prop:=(o.1=-1/\o.2.1=0/\o.2.2=false)\/(0<=o.1/\∃x,d[o.1.toNat]?=some x/\0<=o.2.1/\o.2.1<=x.length)
structure fE (ss:List Int)(d:List (List DCn))(os:List DOp):Prop where
 dlen:d.length<=4
 flen:∀x∈d,x.length<=64
 cells:∀x∈d,∀c∈x,Pr ss c
 olen:os.length=8
 opens:∀o∈os,OK d o
theorem zO{ss:List Int}{d:List (List DCn)}{os:List DOp}(hs:zK ss)(h:fE ss d os):jZ d os=some (true,()):=by
 obtain⟨h1,h2,h3,h4,h5⟩:=h
 have e0:dX jl NN (d,(d.length:Int),0,d,os,())=some (.inr (d,(d.length:Int),(d.length:Int),false,d,os,())):=by
  refine tu (st:=λk=>(d,(d.length:Int),(k:Int),d,os,())) (n:=d.length) (by unfold NN;omega) ?_ ?_
  ·intro k hk;unfold jl;dsimp only
   (with_reducible refine dE (λZ9=>?_) λZ9=>?_)
   ·rw[dM];simp only[oBS];refine Ok.get (by omega) λx hx=>?_;have:=h2 x (dR hx);rw[mH hs (h3 x (dR hx)) (by omega) (by omega)];simp only[oBS,oNT,oCF]
    (simp (disch:=omega) only [dP,dY,dT,dQ])
    exact Ok.ret rfl
   ·omega
  ·unfold jl;dsimp only
   (with_reducible refine dE (λZ9=>?_) λZ9=>?_)
   ·omega
   ·exact Ok.ret rfl
 have e2:dX lP NN (os,8,0,d,os,())=some (.inr (os,8,8,false,d,os,())):=by
  refine tu (st:=λk=>(os,8,(k:Int),d,os,())) (n:=8) (by unfold NN;omega) ?_ ?_
  ·intro k hk;unfold lP;dsimp only
   (with_reducible refine dE (λZ9=>?_) λZ9=>?_)
   ·rw[dM];simp only[oBS];refine Ok.get (by omega) λx hx=>?_;obtain⟨f,o,w⟩:=x;refine Ok.bind (P:=(·=(os,8,(k:Int),false,d,os,f,o,w,()))) ?_ ?_
    ·rcases h5 _ (dR hx)with⟨g1,g2,g3⟩|⟨g1,y,g2,g3,g4⟩
     ·have g1:f=-1:=g1;have g2:o=0:=g2;have g3:w=false:=g3;subst g1 g2 g3;dsimp only;refine dG rfl (Ok.cond (λh=>by cases h) λ_=>Ok.cond (λh=>by cases h) λ_=>Ok.cond (λh=>by cases h) λ_=>Ok.cond (λh=>?_) λ_=>Ok.cond (λh=>by cases h) λ_=>Ok.ret rfl);have h:(-1:Int)>=(d.length:Int):=of_decide_eq_true h;omega
     ·dsimp only at g1 g2 g3 g4⊢;have hl:=(oGS g2).1;rw[show(f==-1)=false by rw[beq_eq_false_iff_ne];omega,oDF (show ¬f < -1 by omega)];simp only[oCF];refine Ok.cond (λh=>?_) λ_=>dG (oDT g1) ?_
      ·have h:f>=(d.length:Int):=of_decide_eq_true h;omega
      ·rw[oDF (show ¬o<0 by omega)];simp only[oCF];refine Ok.nat g1 λj hj=>?_;refine Ok.get (by omega) λz hz=>?_
       have hjj:j=f.toNat:=by omega
       subst hjj;rw[g2]at hz
       injection hz with hz
       subst hz;exact Ok.ret (by rw[oDF (show ¬o>dO y.length from λh=>by rw[dQ]at h;omega)])
    ·rintro _ rfl;dsimp only;simp only[oCF]
     (simp (disch:=omega) only [dP,dY,dT,dQ])
     exact Ok.ret rfl
   ·omega
  ·exact Ok.ret rfl
 refine eY ?_;unfold jZ;delta dO
 try dsimp only
 (with_reducible refine dE (λZ9=>?_) λZ9=>?_)
 ·omega
 ·rw[h4];rw[e0];dsimp only;rw[h4,show((8:Nat):Int)=8 from rfl,e2];exact Ok.ret rfl
def P2(ss:List Int)(i:Nat)(x:DOu):Prop:=x.1=i/\0<=x.2.1/\x.2.1<2/\x.2.2.length<=16/\∀c∈x.2.2,Pr ss c
structure yP (ss:List Int)(ck rn:List Int)(ins:List (List Int))(d:List (List DCn))(os:List DOp)(us:List DOu):Prop where
 clock:ck.length<=64/\∀w∈ck,W16 w
 rand:rn.length<=64/\∀w∈rn,W16 w
 ilen:ins.length<=2
 inp:∀x∈ins,x.length<=64/\∀w∈x,W16 w
 files:fE ss d os
 ulen:us.length<=200
 outs:∀(i:Nat) x,us[i]?=some x->P2 ss i x
theorem HC{ss:List Int}{us:List DOu}(hl:us.length<=200)(h:∀(i:Nat) x,us[i]?=some x->P2 ss i x):jY us=some (true,()):=by
 have e:dX io NN (us,(us.length:Int),0,())=some (.inr (us,(us.length:Int),(us.length:Int),false,())):=by
  refine tu (st:=λk=>(us,(us.length:Int),(k:Int),())) (n:=us.length) (by unfold NN;omega) ?_ ?_
  ·intro k hk;unfold io
   (with_reducible refine dE (λZ9=>?_) λZ9=>?_)
   ·rw[dM];refine Ok.get (by omega) λx hx=>?_;have ⟨g1,g2,g3,g4,g5⟩:=h k x hx;rw[g1,oDF (show ¬x.2.1<0 by omega),oDF (show ¬x.2.1>=2 by omega)];simp;refine Ok.cond (λh=>?_) λ_=>?_
    ·have h:(x.2.2.length:Int)>16:=of_decide_eq_true h;omega
    ·(simp (disch:=omega) only [dP,dY,dT,dQ])
     exact Ok.ret rfl
   ·omega
  ·unfold io
   (with_reducible refine dE (λZ9=>?_) λZ9=>?_)
   ·omega
   ·exact Ok.ret rfl
 refine eY ?_;unfold jY;delta dO
 try dsimp only
 rw[e];exact Ok.ret rfl
theorem ux{ss ck rn:List Int}{ins:List (List Int)}{d:List (List DCn)}{os:List DOp}{us:List DOu}(hs:zK ss)(h:yP ss ck rn ins d os us):iW ck rn ins d os us=some (true,()):=by
 have e0:dX jk NN (ins,(ins.length:Int),0,ck,rn,ins,d,os,us,())=some (.inr (ins,(ins.length:Int),(ins.length:Int),false,ck,rn,ins,d,os,us,())):=by
  refine tu (st:=λk=>(ins,(ins.length:Int),(k:Int),ck,rn,ins,d,os,us,())) (n:=ins.length) (by unfold NN;have:=h.ilen;omega) ?_ ?_
  ·intro k hk;have YP:=h.ilen;unfold jk;dsimp only
   (with_reducible refine dE (λZ9=>?_) λZ9=>?_)
   ·rw[dM];delta dO;simp only[oBS];refine Ok.get (by omega) λx hx=>?_;have:=(h.inp x (dR hx)).1
    (with_reducible refine dE (λZZ=>?_) λZZ=>?_)
    ·omega
    ·(simp (disch:=omega) only [dP,dY,dT,dQ])
     exact Ok.ret rfl
   ·omega
  ·unfold jk;dsimp only
   (with_reducible refine dE (λZ9=>?_) λZ9=>?_)
   ·omega
   ·exact Ok.ret rfl
 have e1:dX jj NN (us,(us.length:Int),0,ck,rn,ins,d,os,us,())=some (.inr (us,(us.length:Int),(us.length:Int),false,ck,rn,ins,d,os,us,())):=by
  refine tu (st:=λk=>(us,(us.length:Int),(k:Int),ck,rn,ins,d,os,us,())) (n:=us.length) (by unfold NN;have:=h.ulen;omega) ?_ ?_
  ·intro k hk;have hul:=h.ulen;unfold jj;dsimp only
   (with_reducible refine dE (λZ9=>?_) λZ9=>?_)
   ·rw[dM];simp only[oBS];refine Ok.get (by omega) λx hx=>?_;obtain⟨_,_,_,g4,g5⟩:=h.outs k x hx;rw[mH hs g5 (by omega) (by omega)]
    (simp (disch:=omega) only [dP,dY,dT,dQ])
    exact Ok.ret rfl
   ·omega
  ·unfold jj;dsimp only
   (with_reducible refine dE (λZ9=>?_) λZ9=>?_)
   ·omega
   ·exact Ok.ret rfl
 have c1:=h.clock.1;have c2:=h.rand.1;have c3:=h.ilen;have c4:=h.ulen;refine eY ?_;unfold iW;delta dO
 try dsimp only
 rw[e0];dsimp only;rw[e1];dsimp only;refine dG (oDT (show(ck.length:Int)<=64 by omega)) (dG (oDT (show(rn.length:Int)<=64 by omega)) (dG (oDT (show(ins.length:Int)<=2 by omega)) ?_));rw[zO hs h.files];refine dG (oDT (show(us.length:Int)<=200 by omega)) ?_;rw[HC h.ulen h.outs];exact Ok.ret rfl
def pi:List DOp:=List.replicate 8 (-1,0,false)
theorem LP(a:List (List Int)):dX rS NN (a,8,0,(),(),(),List.replicate 8 (0,(0,false)),())=some (a,8,8,false,(),(),(),pi,()):=by
 rfl
theorem LW{ss:List Int}{a:List (List Int)}(hs:zK ss)(hl:a.length<=4)(h:∀x∈a,x.length<=64/\∀w∈x,W16 w):Ok (oS a) λr=>∃d,r=(d,pi,0,())/\fE ss d pi:=by
 unfold oS;refine dG (by decide) ?_;dsimp only;rw[show dO (List.replicate 8 ((0:Int),((0:Int),false))).length=8 from rfl,LP];delta dO;simp only[oBS]
 refine Ok.loop (P:=λs'=>∃k:Nat,∃d,s'=(a,(a.length:Int),(k:Int),(),(),d,pi,())/\k<=a.length/\d.length=k/\(∀x∈d,x.length<=64)/\∀x∈d,∀c∈x,Pr ss c)
  (R:=λr=>∃e b c f d,r=(e,b,c,f,(),(),d,pi,())/\d.length<=4/\(∀x∈d,x.length<=64)/\∀x∈d,∀c∈x,Pr ss c) (m:=λs'=>(s'.2.1-s'.2.2.1).toNat) ⟨0,[],rfl,by omega,rfl,eq,eq⟩ (by unfold NN;dsimp only;omega) ?_ ?_
 ·rintro _ ⟨k,d,rfl,hk,YN,hd2,XT⟩;unfold rQ;dsimp only
  (with_reducible refine dE (λZ9=>?_) λZ9=>?_)
  ·rw[dM];delta dO;simp only[oBS];refine Ok.get (by omega) λx hx=>?_;obtain⟨Z2,X8⟩:=h x (dR hx)
   refine Ok.loop (P:=λs'=>∃j:Nat,∃l,s'=(a,(a.length:Int),(k:Int),x,(x.length:Int),(j:Int),(),(),d,pi,l,())/\j<=x.length/\l.length=j/\∀c∈l,Pr ss c)
    (R:=λr=>∃b c e f l,r=(a,(a.length:Int),(k:Int),b,c,e,f,(),(),d,pi,l,())/\l.length<=64/\∀c∈l,Pr ss c) (m:=λs'=>(s'.2.2.2.2.1-s'.2.2.2.2.2.1).toNat) ⟨0,[],rfl,by omega,rfl,eq⟩ (by unfold NN;dsimp only;omega) ?_ ?_
   ·rintro _ ⟨j,l,rfl,hj,XU,Yl⟩;unfold rR;dsimp only
    (with_reducible refine dE (λZZ=>?_) λZZ=>?_)
    ·rw[dM];simp only[oBS];refine Ok.get (by omega) λv hv=>?_;refine dG (dW (by simp;omega)) ?_
     (simp (disch:=omega) only [dP,dY,dT,dQ])
     exact Ok.ret ⟨⟨j+1,_,rfl,by omega,by rw[fe,XU];rfl,iK Yl (all_cons (.inl ⟨.inl rfl,rfl,rfl,X8 v (dR hv)⟩) eq)⟩,by dsimp only;omega⟩
    ·exact Ok.ret ⟨_,_,_,_,_,rfl,by omega,Yl⟩
   ·rintro _ ⟨b,c,e,f,l,rfl,XU,Yl⟩;dsimp only;refine dG (dW (by simp;omega)) ?_
    (simp (disch:=omega) only [dP,dY,dT,dQ])
    exact Ok.ret ⟨⟨k+1,_,rfl,by omega,by rw[fe,YN];rfl,iK hd2 (all_cons XU eq),iK XT (all_cons Yl eq)⟩,by dsimp only;omega⟩
  ·exact Ok.ret ⟨_,_,_,_,_,rfl,by omega,hd2,XT⟩
 ·rintro _ ⟨e,b,c,f,d,rfl,YN,hd2,XT⟩;have hf:fE ss d pi:=⟨YN,hd2,XT,rfl,λo ho=>by rw[List.eq_of_mem_replicate ho];exact .inl ⟨rfl,rfl,rfl⟩⟩;dsimp only;rw[zO hs hf];exact Ok.ret ⟨d,rfl,hf⟩
theorem yw{a:List (List Int)}(hl:a.length<=1000)(h:∀x∈a,x.length<=1000):fI a=some (a,()):=by
 have e:dX fB NN (a,(a.length:Int),0,[],())=some (a,(a.length:Int),(a.length:Int),false,a,()):=by
  have:=tu (f:=fB) (N:=NN) (st:=λk=>(a,(a.length:Int),(k:Int),a.take k,())) (n:=a.length) (t:=(a,(a.length:Int),(a.length:Int),false,a,())) (by unfold NN;omega) ?_ ?_
  ·exact this
  ·intro k hk;unfold fB
   (with_reducible refine dE (λZ9=>?_) λZ9=>?_)
   ·rw[dM];refine Ok.get (by omega) λx hx=>?_;have:=h x (dR hx);refine dG (dW (by omega)) (dG (dW (by simp;omega)) ?_)
    (simp (disch:=omega) only [dP,dY,dT,dQ])
    refine Ok.ret ?_;rw[List.take_add_one,hx];rfl
   ·omega
  ·unfold fB
   (with_reducible refine dE (λZ9=>?_) λZ9=>?_)
   ·omega
   ·rw[List.take_length];exact Ok.ret rfl
 refine eY ?_;unfold fI;delta dO
 try dsimp only
 rw[e];exact Ok.ret rfl
theorem HB{ss l:List Int}{k:Int}(hs:zK ss)(h:DOk l k):Ok (lq l k) λr=>∃ck rn ins d os k',r=(ck,rn,ins,d,os,(),l,k',())/\yP ss ck rn ins d os []/\DOk l k':=by
 unfold lq;refine(oM h (by decide)).bind ?_;rintro _ ⟨w1,k1,rfl,h1,g1,d1⟩;refine(oM d1 (by decide)).bind ?_;rintro _ ⟨w2,k2,rfl,h2,g2,d2⟩;dsimp only;refine(oM d2 (by decide)).bind ?_;rintro _ ⟨w3,k3,rfl,h3,g3,d3⟩;dsimp only;refine(oM d3 (by decide)).bind ?_;rintro _ ⟨w4,k4,rfl,h4,g4,d4⟩;dsimp only;refine(oM d4 (by decide)).bind ?_;rintro _ ⟨w5,k5,rfl,h5,g5,d5⟩;dsimp only;refine(oM d5 (by decide)).bind ?_;rintro _ ⟨w6,k6,rfl,h6,g6,d6⟩;dsimp only;refine Ok.bind (P:=λr=>∃ck rn ins d os,r=(ck,rn,ins,d,os,(),0,())/\yP ss ck rn ins d os []) ?_ ?_
 ·unfold oR;refine(LW (ss:=ss) (a:=[w1,w2]) hs (by simp) (all_cons ⟨by omega,g1⟩ (all_cons ⟨by omega,g2⟩ eq))).bind ?_;rintro _ ⟨d,rfl,hf⟩;refine Ok.cond (λh=>by cases h) λ_=>?_;refine dG (dW (by omega)) (dG (dW (by omega)) ?_);have ho:yP ss w5 w6 [w3,w4] d pi []:=⟨⟨by omega,g5⟩,⟨by omega,g6⟩,by simp,all_cons ⟨by omega,g3⟩ (all_cons ⟨by omega,g4⟩ eq),hf,by simp,λi x hx=>by simp_all⟩;rw[yw (by simp) (all_cons (by omega) (all_cons (by omega) eq))];simp only[oBS];rw[show List.append [] w5=w5 from rfl,show List.append [] w6=w6 from rfl,ux hs ho];exact Ok.ret ⟨_,_,_,_,_,rfl,ho⟩
 ·rintro _ ⟨ck,rn,ins,d,os,rfl,ho⟩;exact Ok.ret ⟨_,_,_,_,_,_,rfl,ho,d6⟩
theorem De{ss:List Int}{r o n:Int}(h1:0<=r)(h2:ss[r.toNat]?=some n)(h3:0<=o)(h4:o<n):fV ss r o=some (true,()):=by
 refine eY ?_;have hl:=(oGS h2).1;refine dG (oDT h1) (dG (oDT (show r<(ss.length:Int) by omega)) (dG (oDT h3) ?_));obtain⟨j,rfl⟩:∃j:Nat,r=j:=⟨r.toNat,by omega⟩;rw[dM];simp;rw[show dJ ss j=some n from h2];exact Ok.ret (by simp_all)
theorem o6{ss:List Int}{c:DCn}(h:Pr ss c):hJ ss c.1 c.2.1 c.2.2.1 c.2.2.2=some (true,()):=by
 refine eY ?_;unfold hJ
 rcases h with⟨h1,h2,h3,_⟩|⟨h1,h2,h3,n,h4,h5,h6⟩
 ·rw[h2,h3]
  rcases h1 with h1|h1<;>rw[h1]<;>exact Ok.ret rfl
 ·rw[h1,h2,De h3 h4 h5 h6];exact Ok.ret rfl
theorem EH{ss:List Int}{d:List (List DCn)}{os:List DOp}(h:fE ss d os):lh ss d os=some (true,()):=by
 obtain⟨h1,h2,h3,h4,h5⟩:=h
 have e0:dX iU NN (ss,d,(d.length:Int),0,d,os,())=some (.inr (ss,d,(d.length:Int),(d.length:Int),false,d,os,())):=by
  refine tu (st:=λk=>(ss,d,(d.length:Int),(k:Int),d,os,())) (n:=d.length) (by unfold NN;omega) ?_ ?_
  ·intro k hk;unfold iU;dsimp only
   (with_reducible refine dE (λZ9=>?_) λZ9=>?_)
   ·rw[dM];delta dO;refine Ok.get (by omega) λx hx=>?_;have Z2:=h2 x (dR hx)
    have e:dX iV NN (ss,d,(d.length:Int),(k:Int),x,(x.length:Int),0,d,os,())=some (.inr (ss,d,(d.length:Int),(k:Int),x,(x.length:Int),(x.length:Int),false,d,os,())):=by
     refine tu (st:=λj=>(ss,d,(d.length:Int),(k:Int),x,(x.length:Int),(j:Int),d,os,())) (n:=x.length) (by unfold NN;omega) ?_ ?_
     ·intro j hj;unfold iV
      (with_reducible refine dE (λZ9=>?_) λZ9=>?_)
      ·rw[dM];refine Ok.get (by omega) λy hy=>?_;rw[o6 (h3 x (dR hx) y (dR hy))]
       (simp (disch:=omega) only [dP,dY,dT,dQ])
       exact Ok.ret rfl
      ·omega
     ·unfold iV
      (with_reducible refine dE (λZ9=>?_) λZ9=>?_)
      ·omega
      ·exact Ok.ret rfl
    rw[e];dsimp only
    (simp (disch:=omega) only [dP,dY,dT,dQ])
    exact Ok.ret rfl
   ·omega
  ·unfold iU;dsimp only
   (with_reducible refine dE (λZ9=>?_) λZ9=>?_)
   ·omega
   ·exact Ok.ret rfl
 refine eY ?_;unfold lh;delta dO
 try dsimp only
 rw[e0];exact Ok.ret rfl
theorem copy17_ok{d:List (List DCn)}{os:List DOp}(h1:d.length<=1000)(h2:∀x∈d,x.length<=1000)(h3:os.length<=1000):gh d os=some (d,os,()):=by
 have e:dX iy NN (d,(d.length:Int),0,d,os,(),(),[],os,())=some (d,(d.length:Int),(d.length:Int),false,d,os,(),(),d,os,()):=by
  have:=tu (f:=iy) (N:=NN) (st:=λk=>(d,(d.length:Int),(k:Int),d,os,(),(),d.take k,os,())) (n:=d.length) (t:=(d,(d.length:Int),(d.length:Int),false,d,os,(),(),d,os,())) (by unfold NN;omega) ?_ ?_
  ·exact this
  ·intro k hk;unfold iy
   (with_reducible refine dE (λZ9=>?_) λZ9=>?_)
   ·rw[dM];refine Ok.get (by omega) λx hx=>?_;have:=h2 x (dR hx);refine dG (dW (by omega)) (dG (dW (by simp;omega)) ?_)
    (simp (disch:=omega) only [dP,dY,dT,dQ])
    refine Ok.ret ?_;rw[List.take_add_one,hx];rfl
   ·omega
  ·unfold iy
   (with_reducible refine dE (λZ9=>?_) λZ9=>?_)
   ·omega
   ·rw[List.take_length];exact Ok.ret rfl
 refine eY ?_;refine dG (dW (by omega)) ?_;rw[show List.append [] os=os from rfl];delta dO
 try dsimp only
 rw[e];exact Ok.ret rfl
theorem D6{us:List DOu}(h1:us.length<=1000)(h2:∀x∈us,x.2.2.length<=1000):jG us=some (us,()):=by
 have e:dX iw NN (us,(us.length:Int),0,[],())=some (us,(us.length:Int),(us.length:Int),false,us,()):=by
  have:=tu (f:=iw) (N:=NN) (st:=λk=>(us,(us.length:Int),(k:Int),us.take k,())) (n:=us.length) (t:=(us,(us.length:Int),(us.length:Int),false,us,())) (by unfold NN;omega) ?_ ?_
  ·exact this
  ·intro k hk;unfold iw
   (with_reducible refine dE (λZ9=>?_) λZ9=>?_)
   ·rw[dM];refine Ok.get (by omega) λx hx=>?_;have:=h2 x (dR hx);refine dG (dW (by omega)) (dG (dW (by simp;omega)) ?_)
    (simp (disch:=omega) only [dP,dY,dT,dQ])
    refine Ok.ret ?_;rw[List.take_add_one,hx];rfl
   ·omega
  ·unfold iw
   (with_reducible refine dE (λZ9=>?_) λZ9=>?_)
   ·omega
   ·rw[List.take_length];exact Ok.ret rfl
 refine eY ?_;unfold jG;delta dO
 try dsimp only
 rw[e];exact Ok.ret rfl
theorem D5{ss ck rn:List Int}{ins:List (List Int)}{d:List (List DCn)}{os:List DOp}{us:List DOu}(h:yP ss ck rn ins d os us):nn ck rn ins d os us=some (ck,rn,ins,d,os,us,()):=by
 have h1:=h.clock.1;have h2:=h.rand.1;have h3:=h.ilen;have h4:=h.ulen;have h5:=h.files.olen;have h6:=h.files.dlen;refine eY ?_;refine dG (dW (by omega)) (dG (dW (by omega)) ?_)
 rw[yw (by omega) (λx hx=>by have:=(h.inp x hx).1;omega),copy17_ok (by omega) (λx hx=>by have:=h.files.flen x hx;omega) (by omega),D6 (by omega) (λx hx=>by
  have ⟨i,hi⟩:=List.getElem?_of_mem hx;have:=(h.outs i x hi).2.2.2.1
  omega)]
 exact Ok.ret rfl
theorem JY:sq=some ([-1,-1,-1,-1],[[],[],[],[]],()):=by kernel_rfl
structure iQ (ow:List Int)(qs:List (List Int)):Prop where
 olen:ow.length=4
 qlen:qs.length=4
 owner:∀o∈ow,-1<=o/\o<=3
 queue:∀q∈qs,q.Nodup/\∀t∈q,0<=t/\t<=3
theorem JQ:∀{n:Nat}{q:List Int},q.Nodup->(∀t∈q,0<=t/\t<n)->q.length<=n:=by
 intro n
 induction n with
 |zero=>
  intro q _ h
  cases q with
  |nil=>simp
  |cons x q=>have:=h x (by simp);omega
 |succ n ih=>
  intro q hq h;have h1:(q.erase (n:Int)).Nodup:=hq.erase _
  have h2:∀t∈q.erase (n:Int),0<=t/\t<n:=λt ht=>by
   have hm:=(hq.mem_erase_iff).1 ht;have:=h t hm.2;omega
  have h3:=ih h1 h2;have h4:=List.length_erase (a:=(n:Int)) (l:=q);split at h4<;>omega
theorem iQ.qlen4{ow:List Int}{qs:List (List Int)}(h:iQ ow qs){q:List Int}(hq:q∈qs):q.length<=4:=JQ (h.queue q hq).1 λt ht=>by have:=(h.queue q hq).2 t ht;omega
theorem Pk:iQ [-1,-1,-1,-1] [[],[],[],[]]:=⟨rfl,rfl,by decide,by decide⟩
theorem MA{code:List DIn}{ss bs:List Int}{dt:List (List Int)}{key:Int}{ck rn:List Int}{ins:List (List Int)}{d:List (List DCn)}{os:List DOp}{us:List DOu}(hp:ne code ss dt)(hl:LV bs ss)(ho:yP ss ck rn ins d os us):
 Ok (oQ code ss dt bs key ck rn ins d os us) λr=>∃cs ts,r=(code,ss,dt,bs,key,cs,ib,ts,ck,rn,ins,d,os,us,[-1,-1,-1,-1],[[],[],[],[]],(),[-1,-1,-1,-1],0,())/\MOk 0 ss bs cs ib ts:=by
 refine(K8 hp hl).bind ?_;rintro _ ⟨cs,ts,rfl,hm⟩;rw[ux hp.sz ho,EH ho.files,D5 ho,JY];exact Ok.ret ⟨cs,ts,rfl,hm⟩
theorem PO.len{K:Int->Prop}{i:Nat}{x:DLn}(h:PO K i x):x.2.2.length<=4:=by
 rcases h with⟨_,_,h⟩|⟨_,_,_,h,_⟩
 ·simp_all
 ·omega
theorem Kz{K:Int->Prop}{cs:List DCe}{ls:List DLn}(h:lf K cs ls):nF cs ls=some (cs,ls,()):=by
 obtain⟨h1,h2,h3,h4,_⟩:=h
 have e:dX iE NN (ls,(ls.length:Int),0,cs,ls,(),(),cs,[],())=some (ls,(ls.length:Int),(ls.length:Int),false,cs,ls,(),(),cs,ls,()):=by
  have:=tu (f:=iE) (N:=NN) (st:=λk=>(ls,(ls.length:Int),(k:Int),cs,ls,(),(),cs,ls.take k,())) (n:=ls.length) (t:=(ls,(ls.length:Int),(ls.length:Int),false,cs,ls,(),(),cs,ls,())) (by unfold NN;omega) ?_ ?_
  ·exact this
  ·intro k hk;unfold iE
   (with_reducible refine dE (λZ9=>?_) λZ9=>?_)
   ·rw[dM];refine Ok.get (by omega) λx hx=>?_;have:=(h4 k x hx).len;refine dG (dW (by omega)) (dG (dW (by simp;omega)) ?_)
    (simp (disch:=omega) only [dP,dY,dT,dQ])
    refine Ok.ret ?_;rw[List.take_add_one,hx];rfl
   ·omega
  ·unfold iE
   (with_reducible refine dE (λZ9=>?_) λZ9=>?_)
   ·omega
   ·rw[List.take_length];exact Ok.ret rfl
 refine eY ?_;unfold nF;refine dG (dW (by omega)) ?_;rw[show List.append [] cs=cs from rfl];delta dO
 try dsimp only
 rw[e];exact Ok.ret rfl
theorem tX{n key:Int}{ss bs:List Int}{cs:List DCe}{ls:List DLn}{ts:List DTh}(h:MOk n ss bs cs ls ts):iD bs key cs ls ts=some (bs,key,cs,ls,ts,()):=by
 obtain⟨h1,h2,h3,h4⟩:=h;have hb:=h1.2.1;have WJ:=h1.1.2.1
 have e:dX iC NN (ts,(ts.length:Int),0,bs,key,cs,ls,ts,(),0,(),(),(),bs,key,cs,ls,[],())=some (ts,(ts.length:Int),(ts.length:Int),false,bs,key,cs,ls,ts,(),0,(),(),(),bs,key,cs,ls,ts,()):=by
  have:=tu (f:=iC) (N:=NN) (st:=λk=>(ts,(ts.length:Int),(k:Int),bs,key,cs,ls,ts,(),0,(),(),(),bs,key,cs,ls,ts.take k,())) (n:=ts.length) (t:=(ts,(ts.length:Int),(ts.length:Int),false,bs,key,cs,ls,ts,(),0,(),(),(),bs,key,cs,ls,ts,())) (by unfold NN;omega) ?_ ?_
  ·exact this
  ·intro k hk;unfold iC;dsimp only
   (with_reducible refine dE (λZ9=>?_) λZ9=>?_)
   ·rw[dM];refine Ok.get (by omega) λx hx=>?_;have:=(h4 x (dR hx)).len;refine dG (dW (by omega)) (dG (dW (by simp;omega)) ?_)
    (simp (disch:=omega) only [dP,dY,dT,dQ])
    refine Ok.ret ?_;rw[List.take_add_one,hx];rfl
   ·omega
  ·unfold iC
   (with_reducible refine dE (λZ9=>?_) λZ9=>?_)
   ·omega
   ·rw[List.take_length];exact Ok.ret rfl
 refine eY ?_;unfold iD;refine dG (dW (by omega)) ?_;rw[Kz h2,show List.append [] bs=bs from rfl];delta dO;simp;rw[e];exact Ok.ret rfl
theorem rz{α:Type}{l:List α}{i:Nat}{f:α->α}{a:α}(h:l[i]?=some a):(List.modify l i f)[i]?=some (f a):=by simp_all
theorem i4{α:Type}(l:List α)(i:Nat)(f g:α->α):List.modify (List.modify l i f) i g=List.modify l i λa=>g (f a):=by
 apply List.ext_getElem?
 grind
theorem MOk.thread{n:Int}{ss bs:List Int}{cs:List DCe}{ls:List DLn}{ts:List DTh}(h:MOk n ss bs cs ls ts){i:Nat}{t:DTh}{f:DTh->DTh}(ht:ts[i]?=some t)(hf:yO (RK bs ss) n (f t)):MOk n ss bs cs ls (List.modify ts i f):=by
 refine⟨h.lay,h.mem,by rw[oLM];exact h.tlen,λx hx=>?_⟩;have ⟨j,hj⟩:=List.getElem?_of_mem hx;by_cases hij:i=j
 ·simp_all
 ·simp[hij]at hj
  have:ts[j]?=some x:=by simp_all
  exact h.thr x (dR this)
theorem MY{n key:Int}{ss bs:List Int}{cs:List DCe}{ls:List DLn}{ts:List DTh}(h:MOk n ss bs cs ls ts)(i:Int):Ok (mN bs key cs ls ts i) λr=>r.1=true->0<=i/\i<4/\∀t,ts[i.toNat]?=some t->t.2.2.2.2.1≠-1:=by
 unfold mN;delta dO;have:=h.tlen
 (with_reducible refine dE (λZ9=>?_) λZ9=>?_)
 ·exact Ok.ret (λh=>by cases h)
 ·(with_reducible refine dE (λZZ=>?_) λZZ=>?_)
  ·exact Ok.ret (λh=>by cases h)
  ·refine Ok.nat (by omega) λj hj=>?_;refine Ok.get (by omega) λt ht=>?_;subst hj
   (with_reducible refine dE (λhcc=>?_) λhcc=>?_)
   ·(with_reducible refine dE (λXg=>?_) λXg=>?_)
    ·exact Ok.ret (λ_=>⟨by omega,by omega,λt' ZJ=>by
      rw[oTN,ht]at ZJ
      injection ZJ with ZJ
      rw[<- ZJ]
      exact Xg⟩)
    ·exact Ok.ret (λh=>by cases h)
   ·exact Ok.ret (λh=>by cases h)
theorem Ng{n Xd:Int}{ts:List DTh}{i:Nat}{t:DTh}(ht:ts[i]?=some t):fv i Xd ts=some (2,List.modify ts i λt=>(4,t.2.1,t.2.2.1,t.2.2.2.1,t.2.2.2.2.1,t.2.2.2.2.2.1,Xd,0),()):=by
 refine eY ?_;have hl:=(oGS ht).1;refine Ok.get hl λ_ _=>?_;refine Ok.get (by simp_all) λ_ _=>?_;refine Ok.get (by simp_all) λ_ _=>?_;rw[i4,i4];exact Ok.ret rfl
theorem yO.ended{K:Int->Prop}{n Xd:Int}{t:DTh}(h:yO K n t)(hw:0<=Xd/\Xd<=6):yO K n (4,t.2.1,t.2.2.1,t.2.2.2.1,t.2.2.2.2.1,t.2.2.2.2.2.1,Xd,0):=
 ⟨⟨by omega,by omega⟩,h.len,h.regs,h.pc,h.count,h.handler,h.saved,hw,⟨by simp_all,by simp_all⟩⟩
theorem uK{ss bs:List Int}{key a:Int}(h:LV bs ss)(ha:0<=a/\a<=65535):Ok (fi bs key ss a) λr=>(r.2.2.1=true->∃b n,0<=r.1/\bs[r.1.toNat]?=some b/\ss[r.1.toNat]?=some n/\0<=r.2.1/\r.2.1<n/\a=b+r.2.1):=by
 obtain⟨hs,hl,hr⟩:=h;have WJ:=hs.2.1;unfold fi;delta dO
 try dsimp only
 obtain⟨t,e,ht⟩:=g7 (f:=eK) (n:=NN) (s:=(ss,a,bs,(bs.length:Int),0,bs,key,0,0,())) (P:=λs'=>∃k:Nat,s'=(ss,a,bs,(bs.length:Int),(k:Int),bs,key,0,0,())/\k<=bs.length)
  (R:=λr=>(∃x y,r=.inl (true,x,y,())/\∃b n,0<=x/\bs[x.toNat]?=some b/\ss[x.toNat]?=some n/\0<=y/\y<n/\a=b+y)\/∃z,r=.inr z) (m:=λs'=>(s'.2.2.2.1-s'.2.2.2.2.1).toNat) ⟨0,rfl,by omega⟩ (by unfold NN;dsimp only;omega) (by
   rintro _ ⟨k,rfl,hk⟩;unfold eK;dsimp only
   (with_reducible refine dE (λZ9=>?_) λZ9=>?_)
   ·rw[dM];simp only[oBS];obtain⟨b,hb⟩:∃b,bs[k]?=some b:=⟨_,oGE (by omega)⟩;obtain⟨y,hy⟩:∃y,ss[k]?=some y:=⟨_,oGE (by omega)⟩;have WN:=hs.2.2 y (dR hy);have Vl:=hr k (by omega);unfold zL at Vl;rw[fA hb,fA hy]at Vl;rw[show dJ bs k=some b from hb];rw[show dJ ss k=some y from hy];simp only[oBS];rw[dP (x:=b+y) (by omega) (by omega)];by_cases h1:a>=b
    ·by_cases h2:a<b+y
     ·simp only[h1,h2,decide_true,oCT];rw[dP (x:=a-b) (by omega) (by omega)];exact Ok.ret (.inl ⟨_,_,rfl,b,y,by omega,by rw[oTN];exact hb,by rw[oTN];exact hy,by omega,by omega,by omega⟩)
     ·simp only[h1,h2,decide_true,decide_false,oCT,oCF]
      (simp (disch:=omega) only [dP,dY,dT,dQ])
      exact Ok.ret ⟨⟨k+1,rfl,by omega⟩,by dsimp only;omega⟩
    ·simp only[h1,decide_false,oCF]
     (simp (disch:=omega) only [dP,dY,dT,dQ])
     exact Ok.ret ⟨⟨k+1,rfl,by omega⟩,by dsimp only;omega⟩
   ·exact Ok.ret (.inr ⟨_,rfl⟩))
 rw[e]
 rcases ht with⟨x,y,rfl,WM⟩|⟨z,rfl⟩
 ·exact Ok.ret λ_=>WM
 ·exact Ok.ret λh=>by cases h
theorem Al{ss:List Int}{r o:Int}:Ok (fV ss r o) λx=>x.1=true->0<=r/\0<=o/\∃n,ss[r.toNat]?=some n/\o<n:=by
 unfold fV;delta dO
 (with_reducible refine dE (λZ9=>?_) λZ9=>?_)
 ·(with_reducible refine dE (λZZ=>?_) λZZ=>?_)
  ·(with_reducible refine dE (λhcc=>?_) λhcc=>?_)
   ·refine Ok.nat (by omega) λj hj=>?_;refine Ok.get (by omega) λn hn=>?_;exact Ok.ret λh=>⟨by omega,by omega,n,by simp_all,of_decide_eq_true h⟩
   ·exact Ok.ret λh=>by cases h
  ·exact Ok.ret λh=>by cases h
 ·exact Ok.ret λh=>by cases h
theorem xF{ss bs:List Int}{key tag v n:Int}{back:Bool}(h:LV bs ss)(hv:W16 v)(hn:W16 n):Ok (fC bs key ss tag v n back) λr=>∃t x e,r=(t,x,e,())/\n6 (RK bs ss) (t,x)/\0<=e/\e<=6/\(e=0->x<512):=by
 have hz:∀e:Int,0<e->e<=6->∃t x e',((0:Int),(0:Int),e,())=(t,x,e',())/\n6 (RK bs ss) (t,x)/\0<=e'/\e'<=6/\(e'=0->x<512):=λe h1 h2=>⟨0,0,e,rfl,l7 (by decide),by omega,h2,by omega⟩;obtain⟨v0,v1⟩:=hv;obtain⟨n0,n1⟩:=hn;unfold fC
 (with_reducible refine dE (λZ9=>?_) λZ9=>?_)
 ·exact Ok.ret (hz 3 (by decide) (by decide))
 ·rw[dT (x:=v) (by omega) (by omega),dT (x:=n) (by omega) (by omega)];refine(uK h ⟨v0,v1⟩).bind ?_;rintro⟨r,o,ok,_⟩ YU;dsimp only at YU⊢
  (with_reducible refine dE (λZZ=>?_) λZZ=>?_)
  ·exact Ok.ret (hz 4 (by decide) (by decide))
  ·obtain⟨b,z,hr0,hb,hzz,ho0,ho1,_⟩:=YU ZZ;have Xc:=h.1.2.2 z (dR hzz);refine Ok.bind (P:=λx=>∃o',x=(ss,bs,key,0,0,r,o',())/\-70000<=o'/\o'<=70000) ?_ ?_
   ·refine Ok.cond (λ_=>?_) λ_=>?_
    all_goals
     (simp (disch:=omega) only [dP,dY,dT,dQ])
     exact Ok.ret ⟨_,rfl,by omega,by omega⟩
   rintro _ ⟨o',rfl,Xl,Rq⟩;dsimp only;refine Al.bind ?_;rintro⟨q,_⟩ hin;dsimp only at hin⊢
   (with_reducible refine dE (λhcc=>?_) λhcc=>?_)
   ·exact Ok.ret (hz 4 (by decide) (by decide))
   ·obtain⟨_,g1,m,g2,g3⟩:=hin hcc;refine Ok.nat hr0 λj hj=>?_;subst hj;rw[oTN]at hb g2;have hjl:=(oGS hb).1;have Sr:=h.2.2 j hjl;unfold zL at Sr;rw[fA hb,fA g2]at Sr;rw[show dJ bs j=some b from hb];simp only[oBS];rw[dP (x:=b+o') (by omega) (by omega),dY (x:=b+o') (by omega) (by omega)];exact Ok.ret ⟨_,_,_,rfl,⟨by dsimp only;omega,by dsimp only;omega,by dsimp only;omega,by dsimp only;omega,λ_=>⟨j,b,m,hb,g2,by dsimp only;omega,by dsimp only;omega⟩⟩,by decide,by decide,λ_=>by omega⟩
theorem lf.line{K:Int->Prop}{cs:List DCe}{ls:List DLn}(h:lf K cs ls){i:Nat}{x:DLn}{f:DLn->DLn}(hx:ls[i]?=some x)(hf:PO K i (f x))(hg:P4 cs (f x)):lf K cs (List.modify ls i f):=by
 have key:∀(j:Nat) y,(List.modify ls i f)[j]?=some y->PO K j y/\P4 cs y:=λj y hy=>by
  by_cases hij:i=j
  ·simp_all
  ·simp[hij]at hy;exact⟨h.lines j y (by simp_all),h.coh j y (by simp_all)⟩
 exact⟨h.clen,h.cells,by rw[oLM];exact h.llen,λj y hy=>(key j y hy).1,λj y hy=>(key j y hy).2⟩
theorem Hd{cs xs:List DCe}{lo k:Nat}(h1:lo+4<=cs.length)(h3:4<=xs.length)(hk:k<lo\/lo+4<=k):(qp cs lo 4 xs)[k]?=cs[k]?:=by
 unfold qp;rcases hk with hk|hk
 ·rw[List.append_assoc,List.getElem?_append_left (by rw[oLT];omega),List.getElem?_take_of_lt hk]
 ·rw[List.getElem?_append_right (by simp;omega),List.getElem?_drop];congr 1;simp;omega
theorem II{K:Int->Prop}{cs xs:List DCe}{lo n:Nat}(h1:cs.length=512)(h2:lo+n<=512)(h3:n<=xs.length)(hc:∀c∈cs,n6 K c)(hx:∀c∈xs,n6 K c):(qp cs lo n xs).length=512/\∀c∈qp cs lo n xs,n6 K c:=by
 unfold qp;refine⟨?_,λc hh=>?_⟩
 ·simp;omega
 ·simp only[List.mem_append]at hh
  rcases hh with(hh|hh)|hh
  ·exact hc c (List.mem_of_mem_take hh)
  ·exact hx c (List.mem_of_mem_take hh)
  ·exact hc c (List.mem_of_mem_drop hh)
theorem GA{K:Int->Prop}{cs:List DCe}{ls:List DLn}{a:Int}(h:lf K cs ls)(ha:0<=a/\a<512):Ok (ke a cs ls) λr=>∃i Z3 Z1 x,r=(i,Z3,Z1,())/\lf K Z3 Z1/\Z1[i]?=some x/\x.1=a/4/\x.2.2.length=4:=by
 obtain⟨a0,a1⟩:=ha;obtain⟨h1,h2,h3,h4,h5⟩:=id h;unfold ke;rw[Int.tdiv_eq_ediv_of_nonneg a0,dP (x:=a/4) (by omega) (by omega)];dsimp only;rw[Int.tmod_eq_emod_of_nonneg (show 0<=a/4 by omega)];refine Ok.nat (by omega) λi hi=>?_
 have YP:i<ls.length:=by omega
 obtain⟨x,hx⟩:∃x,ls[i]?=some x:=⟨_,oGE YP⟩;have hg:dJ ls i=some x:=hx;have hL:=h4 i x hx;simp only[hg,oBS]
 (with_reducible refine dE (λZ9=>?_) λZ9=>?_)
 ·refine Ok.ret ⟨i,cs,ls,x,rfl,h,hx,Z9,?_⟩
  rcases hL with⟨g1,_,_⟩|⟨_,_,_,g,_⟩
  ·omega
  ·exact g
 ·refine Ok.bind (P:=λr=>∃Z3,r=(a/4,i,Z3,ls,())/\Z3.length=512/\(∀c∈Z3,n6 K c)/\∀(j:Nat) y,ls[j]?=some y->P4 Z3 y) ?_ ?_
  ·refine Ok.cond (λhd=>?_) λ_=>Ok.ret ⟨cs,rfl,h1,h2,h5⟩
   rcases hL with⟨_,g,_⟩|⟨g1,g2,g3,g4,g5⟩
   ·rw[g]at hd;cases hd
   ·rw[dP (x:=x.1*4) (by omega) (by omega)];refine Ok.nat (by omega) λq hq=>?_;refine dG (by unfold gi;simp;omega) ?_
    try simp only[hg,oBS]
    rw[g4,h1]
    have Rk:Nat.min 4 (Nat.sub 512 q)=4:=by
     show min 4 (512-q)=4;omega
    rw[Rk];refine dG (by unfold gi;simp;omega) ?_;refine dG rfl ?_;obtain⟨s1,s2⟩:=II (lo:=q) (n:=4) h1 (by omega) (by omega) h2 g5;refine Ok.ret ⟨_,rfl,s1,s2,λj y hy=>?_⟩;by_cases hij:j=i
    ·subst hij;rw[hx]at hy
     injection hy with hy
     subst hy;exact .inr (.inl hd)
    ·rcases h5 j y hy with g|g|g
     ·exact .inl g
     ·exact .inr (.inl g)
     ·rcases h4 j y hy with⟨g',_,_⟩|⟨y1,y2,y3,y4,y5⟩
      ·exact .inl g'
      ·refine .inr (.inr λo ho=>?_);rw[Hd (by omega) (by omega) (by omega)];exact g o ho
  rintro _ ⟨Z3,rfl,c1,c2,c3⟩;dsimp only;rw[dP (x:=a/4*4) (by omega) (by omega),dP (x:=a/4+1) (by omega) (by omega),dP (x:=(a/4+1)*4) (by omega) (by omega)];simp only[hg,oBS];refine Ok.get (by rw[oLM];exact YP) λ_ _=>?_;refine Ok.nat (by omega) λq hq=>?_;refine Ok.nat (by omega) λq2 YD=>?_;refine dG (by unfold gi;simp;omega) ?_
  have hw:(lO Z3 q (Nat.sub q2 q)).length=4:=by
   unfold lO;rw[oLT,List.length_drop];show min (q2-q) _=4;omega
  refine dG (dW (by omega)) ?_;refine Ok.get (by rw[oLM,oLM];exact YP) λ_ _=>?_;rw[i4,i4,show List.append [] (lO Z3 q (Nat.sub q2 q))=lO Z3 q (Nat.sub q2 q)from rfl];have Zn:lf K Z3 ls:=⟨c1,c2,h3,h4,c3⟩;refine Ok.ret ⟨i,Z3,_,_,rfl,Zn.line hx (.inr ⟨by dsimp only;omega,by dsimp only;omega,by dsimp only;omega,hw,λc hc=>c2 c ?_⟩) (.inr (.inr λo ho=>?_)),rz hx,rfl,hw⟩
  ·dsimp only at hc;unfold lO at hc;exact List.mem_of_mem_drop (List.mem_of_mem_take hc)
  ·dsimp only;unfold lO;rw[hq,oTN,List.getElem?_take_of_lt (show o<Nat.sub q2 q by show o<q2-q;omega),List.getElem?_drop]
theorem J0{K:Int->Prop}{cs:List DCe}{ls:List DLn}{a:Int}(h:lf K cs ls)(ha:0<=a/\a<512):Ok (nD a cs ls) λr=>∃t v Z3 Z1,r=(t,v,Z3,Z1,())/\n6 K (t,v)/\lf K Z3 Z1:=by
 refine(GA h ha).bind ?_;rintro _ ⟨i,Z3,Z1,x,rfl,hm,hx,Z2,X8⟩;have hg:dJ Z1 i=some x:=hx;simp[hg];rw[Int.tmod_eq_emod_of_nonneg ha.1];refine Ok.nat (by omega) λj hj=>?_;refine Ok.get (by omega) λ_ _=>?_;refine Ok.get (by omega) λc hc=>?_
 have ZK:n6 K c:=by
  rcases hm.lines i x hx with⟨_,_,g⟩|⟨_,_,_,_,g⟩
  ·omega
  ·exact g c (dR hc)
 exact Ok.ret ⟨_,_,_,_,rfl,ZK,hm⟩
theorem zU{K:Int->Prop}{cs:List DCe}{ls:List DLn}{a t v:Int}(h:lf K cs ls)(ha:0<=a/\a<512)(hc:n6 K (t,v)):Ok (j9 a t v cs ls) λr=>∃Z3 Z1,r=(Z3,Z1,())/\lf K Z3 Z1:=by
 refine(GA h ha).bind ?_;rintro _ ⟨i,Z3,Z1,x,rfl,hm,hx,Z2,X8⟩;have hg:dJ Z1 i=some x:=hx;have YP:=(oGS hx).1;simp[hg];rw[Int.tmod_eq_emod_of_nonneg ha.1];refine Ok.nat (by omega) λj hj=>?_;refine Ok.get (by omega) λ_ _=>?_;refine Ok.get (by omega) λ_ _=>?_;refine Ok.get (by simp_all) λ_ _=>?_;rw[i4];refine Ok.ret ⟨_,_,rfl,hm.line hx ?_ (.inr (.inl rfl))⟩
 rcases hm.lines i x hx with⟨_,_,g⟩|⟨g1,g2,g3,g4,g5⟩
 ·omega
 ·exact .inr ⟨g1,g2,g3,by simp_all,i5 g5 λ_ _=>hc⟩
theorem oN(x:Int):W16 (wk .u16 x):=by
 unfold wk;rw[wP];exact⟨by omega,by omega⟩
theorem MD{ss bs:List Int}{key t v t' v':Int}(h:LV bs ss)(hv:W16 v)(YK:W16 v'):Ok (j7 bs key ss t v t' v') λ_=>True:=by
 obtain⟨v0,v1⟩:=hv;obtain⟨u0,u1⟩:=YK;unfold j7;rw[dT (x:=v) (by omega) (by omega),dT (by omega) (by omega)];refine(uK h ⟨v0,v1⟩).bind ?_;rintro⟨r,o,ok,_⟩ _;refine(uK h ⟨u0,u1⟩).bind ?_;rintro⟨r',o',ok',_⟩ _;cases ok<;>cases ok'<;>exact Ok.ret trivial
theorem Fo(b:Bool):jJ b=some (0,(bif b then 1 else 0),()):=by cases b<;>rfl
theorem Ph{op b c:Int}(hb:W16 b)(hc:W16 c):Ok (j6 op b c) λr=>∃v e,r=(0,v,e,())/\W16 v/\0<=e/\e<=6:=by
 obtain⟨b0,b1⟩:=hb;obtain⟨c0,c1⟩:=hc;have ZV:∀x:Int,W16 x->Ok (some ((0:Int),x,(0:Int),())) λr=>∃v e,r=(0,v,e,())/\W16 v/\0<=e/\e<=6:=λx h=>Ok.ret ⟨x,0,rfl,h,by decide,by decide⟩;have z5:Ok (some ((0:Int),(0:Int),(5:Int),())) λr=>∃v e,r=(0,v,e,())/\W16 v/\0<=e/\e<=6:=Ok.ret ⟨0,5,rfl,⟨by decide,by decide⟩,by decide,by decide⟩;have hw:=oN;unfold j6
 (with_reducible refine dE (λZ9=>?_) λZ9=>?_)
 ·exact ZV _ (oN _)
 (with_reducible refine dE (λZZ=>?_) λZZ=>?_)
 ·exact ZV _ (oN _)
 (with_reducible refine dE (λhcc=>?_) λhcc=>?_)
 ·exact ZV _ (oN _)
 have hq:∀X:Option (Int×Int×Int×Unit),c≠0->(X=(bif(op==6)then(bif(c != 0)then some ((0:Int),wk .u16 (Int.tdiv b c),(0:Int),())else none)else bif(c != 0)then some ((0:Int),Int.tmod b c,(0:Int),())else none))->Ok X λr=>∃v e,r=(0,v,e,())/\W16 v/\0<=e/\e<=6:=by
  rintro _ hne rfl;refine Ok.cond (λ_=>dG (by rw[bne_iff_ne];exact hne) (ZV _ (oN _))) λ_=>dG (by rw[bne_iff_ne];exact hne) (ZV _ ?_);rw[Int.tmod_eq_emod_of_nonneg b0];have h1:=Int.emod_nonneg b hne;have h2:=Int.emod_lt_of_pos b (show 0<c by omega);exact⟨h1,by omega⟩
 (with_reducible refine dE (λXg=>?_) λXg=>?_)
 ·(with_reducible refine dE (λX2=>?_) λX2=>?_)
  ·exact z5
  ·simp_all
 (with_reducible refine dE (λXg=>?_) λXg=>?_)
 ·(with_reducible refine dE (λX2=>?_) λX2=>?_)
  ·exact z5
  ·simp_all
 (with_reducible refine dE (λVw=>?_) λVw=>?_)
 ·exact ZV _ (hw _)
 (with_reducible refine dE (λVw=>?_) λVw=>?_)
 ·exact ZV _ (hw _)
 (with_reducible refine dE (λVw=>?_) λVw=>?_)
 ·exact ZV _ (hw _)
 (with_reducible refine dE (λVw=>?_) λVw=>?_)
 ·rw[Int.tmod_eq_emod_of_nonneg c0];refine Ok.nat (by omega) λj hj=>?_;exact ZV _ (hw _)
 (with_reducible refine dE (λVw=>?_) λVw=>?_)
 ·rw[Int.tmod_eq_emod_of_nonneg c0];refine Ok.nat (by omega) λj hj=>ZV _ ?_;show W16 (Int.fdiv b (2 ^ (min j 16)));have hp:(0:Int)<2 ^ (min j 16):=Int.pow_pos (by decide);rw[Int.fdiv_eq_ediv_of_nonneg _ (by omega)];exact⟨Int.ediv_nonneg b0 (by omega),by have:=Int.ediv_le_self (2 ^ (min j 16)) b0;omega⟩
 rw[Fo];refine ZV _ ?_;cases decide (b<c)
 ·exact⟨by decide,by decide⟩
 ·exact⟨by decide,by decide⟩
def Na(K:Int->Prop)(r:Int×Int×Int×Unit):Prop:=∃t v e,r=(t,v,e,())/\n6 K (t,v)/\0<=e/\e<=6
theorem qM{K:Int->Prop}{t v e:Int}(h:n6 K (t,v))(h0:0<=e)(h1:e<=6):Ok (some (t,v,e,())) (Na K):=Ok.ret ⟨t,v,e,rfl,h,h0,h1⟩
theorem wW{K:Int->Prop}{v:Int}(h:W16 v):n6 K (0,v):=l7 h
theorem D1{K:Int->Prop}(b:Bool):n6 K (0,bif b then 1 else 0):=wW (by cases b<;>exact⟨by decide,by decide⟩)
theorem sR{K:Int->Prop}:n6 K (0,0):=wW ⟨by decide,by decide⟩
theorem Qh{ss bs:List Int}{key op t v t' v':Int}(h:LV bs ss)(hb:n6 (RK bs ss) (t,v))(hc:n6 (RK bs ss) (t',v')):Ok (rq bs key ss op t v t' v') (Na (RK bs ss)):=by
 obtain⟨t0,t2,v0,v1,_⟩:=hb;obtain⟨u0,u2,w0,w1,_⟩:=hc;dsimp only at t0 t2 v0 v1 u0 u2 w0 w1;obtain⟨_,eN,n1,n2,rfl,WT,hn2,hn3⟩:=Ph (op:=op) (b:=v) (c:=v') ⟨v0,v1⟩ ⟨w0,w1⟩;obtain⟨_,eA,a1,a2,a3,rfl,Xv,WP,ha3,_⟩:=xF (key:=key) (tag:=t) (back:=false) h (v:=v) (n:=v') ⟨v0,v1⟩ ⟨w0,w1⟩;obtain⟨_,eB,b1,b2,b3,rfl,hb1,ZY,U7,_⟩:=xF (key:=key) (tag:=t') (back:=false) h (v:=v') (n:=v) ⟨w0,w1⟩ ⟨v0,v1⟩;obtain⟨_,eC,c1,c2,c3,rfl,ZO,ZK,SL,_⟩:=xF (key:=key) (tag:=t) (back:=true) h (v:=v) (n:=v') ⟨v0,v1⟩ ⟨w0,w1⟩;obtain⟨⟨p1,p2,p3,p4,ok,_⟩,eP,_⟩:=MD (key:=key) (t:=t) (t':=t') h (v:=v) (v':=v') ⟨v0,v1⟩ ⟨w0,w1⟩;unfold rq
 (with_reducible refine dE (λZ9=>?_) λZ9=>?_)
 ·exact qM sR (by decide) (by decide)
 (with_reducible refine dE (λZZ=>?_) λZZ=>?_)
 ·exact qM sR (by decide) (by decide)
 cases h14:(op==14)with
 |true=>
  simp only[oCT,Fo,oBS];exact qM (D1 _) (by decide) (by decide)
 |false=>
  simp only[oCF,eN,eA,eB,eC,eP,oBS]
  rcases(show t=0\/t=1\/t=2 by omega)with rfl|rfl|rfl<;>rcases(show t'=0\/t'=1\/t'=2 by omega)with rfl|rfl|rfl
  all_goals
   cases h3:(op==3)<;>cases h4:(op==4)<;>cases h13:(op==13)<;>simp only[Int.reduceBEq,oCT,oCF,oBS,h3,h4,h13,Fo,eN,eA,eB,eC,eP,BEq.rfl]
  all_goals first
   |exact qM (wW WT) hn2 hn3
   |exact qM Xv WP ha3
   |exact qM hb1 ZY U7
   |exact qM ZO ZK SL
   |exact qM sR (by decide) (by decide)
   |(cases ok<;>first
    |exact qM sR (by decide) (by decide)
    |exact qM (D1 _) (by decide) (by decide)
    |exact qM (wW (oN _)) (by decide) (by decide))
theorem KE{l:List Int}{k:Int}(h:DOk l k):Ok (mp l k) λr=>∃t b s k',r=(t,b,s,l,k',())/\0<=t/\t<4/\0<=b/\b<=63/\DOk l k':=by
 unfold mp
 (with_reducible refine gn (by omega) (by omega) (by omega) (λv0 k0 a0 b0 d0=>?_);try dsimp only)
 (with_reducible refine gn (by omega) (by omega) (by omega) (λv1 k1 a1 b1 d1=>?_);try dsimp only)
 (with_reducible refine Ok.nat (by omega) (λj1 hj1=>?_);try dsimp only)
 have hm:∀x∈[(0:Int),1,2,3,7,63],0<=x/\x<=63:=by simp_all
 refine Ok.get (by simp;omega) λx hx=>?_;refine Ok.get (by simp;omega) λy hy=>?_;have WN:=hm y (dR hy)
 (with_reducible refine gn (by omega) (by omega) (by omega) (λv2 k2 a2 b2 d2=>?_);try dsimp only)
 exact Ok.ret ⟨_,_,_,_,rfl,a0,b0,WN.1,WN.2,d2⟩
def iq:List DTh->Int->List Int
 | [],_=>[]
 |t::ts,i=>if t.1=1 then i::iq ts (i+1)else iq ts (i+1)
theorem AI(a b:List DTh)(i:Int):iq (a++b) i=iq a i++iq b (i+a.length):=by
 induction a generalizing i with
 |nil=>simp[iq]
 |cons t a ih=>
  simp[iq,ih];rw[show i+1+(a.length:Int)=i+((a.length+1:Nat):Int) by omega];split<;>rfl
theorem Ac(a:List DTh)(i:Int):(iq a i).length<=a.length:=by
 induction a generalizing i with
 |nil=>simp[iq]
 |cons t a ih=>
  simp[iq];have:=ih (i+1);split<;>simp<;>omega
theorem Hr{a:List DTh}{i x:Int}(h:x∈iq a i):i<=x/\x<i+a.length/\∃t,a[(x-i).toNat]?=some t/\t.1=1:=by
 induction a generalizing i with
 |nil=>simp[iq]at h
 |cons t a ih=>
  simp[iq]at h
  have key:x∈iq a (i+1)->i<=x/\x<i+((t::a).length:Int)/\∃t',(t::a)[(x-i).toNat]?=some t'/\t'.1=1:=by
   intro h;have ⟨h1,h2,t',h3,h4⟩:=ih h;refine⟨by omega,by simp;omega,t',?_,h4⟩;rw[show(x-i).toNat=(x-(i+1)).toNat+1 by omega,List.getElem?_cons_succ];exact h3
  split at h
  ·rename_i ht;rcases List.mem_cons.1 h with rfl|h
   ·exact⟨by omega,by simp;omega,t,by simp,ht⟩
   ·exact key h
  ·exact key h
theorem LF{ts:List DTh}(h:ts.length<=1000):mg ts=some (iq ts 0,()):=by
 have e:dX gX NN (ts,(ts.length:Int),0,[],())=some (ts,(ts.length:Int),(ts.length:Int),false,iq ts 0,()):=by
  have:=tu (f:=gX) (N:=NN) (st:=λk=>(ts,(ts.length:Int),(k:Int),iq (ts.take k) 0,())) (n:=ts.length) (t:=(ts,(ts.length:Int),(ts.length:Int),false,iq ts 0,())) (by unfold NN;omega) ?_ ?_
  ·exact this
  ·intro k hk;unfold gX;dsimp only
   (with_reducible refine dE (λZ9=>?_) λZ9=>?_)
   ·rw[dM];simp;obtain⟨x,hx⟩:∃x,ts[k]?=some x:=⟨_,oGE hk⟩;rw[show dJ ts k=some x from hx];simp;have hlen:=Ac (ts.take k) 0;rw[oLT]at hlen
    have Vf:iq (ts.take (k+1)) 0=iq (ts.take k) 0++(if x.1=1 then[(k:Int)]else[]):=by
     rw[List.take_add_one,hx,AI];congr 1;rw[oLT,show 0+((min k ts.length:Nat):Int)=(k:Int) by omega];simp only[Option.toList,iq]
    refine Ok.bind (P:=(·=(ts,(ts.length:Int),(k:Int),iq (ts.take (k+1)) 0,()))) ?_ ?_
    ·(with_reducible refine dE (λZZ=>?_) λZZ=>?_)
     ·refine dG (dW (by simp;omega)) ?_;rw[Vf,oIP ZZ];exact Ok.ret rfl
     ·rw[Vf,oIN ZZ,List.append_nil];exact Ok.ret rfl
    ·rintro _ rfl
     (simp (disch:=omega) only [dP,dY,dT,dQ])
     exact Ok.ret rfl
   ·omega
  ·unfold gX;dsimp only
   (with_reducible refine dE (λZ9=>?_) λZ9=>?_)
   ·omega
   ·rw[List.take_length];exact Ok.ret rfl
 refine eY ?_;unfold mg;delta dO
 try dsimp only
 rw[e];exact Ok.ret rfl
theorem yx{ow:List Int}{qs:List (List Int)}(h:iQ ow qs):lE ow qs=some (ow,qs,()):=by
 have hq4:∀q∈qs,q.length<=4:=λq hq=>h.qlen4 hq;obtain⟨h1,h2,h3,h4⟩:=h
 have e:dX iz NN (qs,(qs.length:Int),0,ow,qs,(),(),ow,[],())=some (qs,(qs.length:Int),(qs.length:Int),false,ow,qs,(),(),ow,qs,()):=by
  have:=tu (f:=iz) (N:=NN) (st:=λk=>(qs,(qs.length:Int),(k:Int),ow,qs,(),(),ow,qs.take k,())) (n:=qs.length) (t:=(qs,(qs.length:Int),(qs.length:Int),false,ow,qs,(),(),ow,qs,())) (by unfold NN;omega) ?_ ?_
  ·exact this
  ·intro k hk;unfold iz
   (with_reducible refine dE (λZ9=>?_) λZ9=>?_)
   ·rw[dM];refine Ok.get (by omega) λx hx=>?_;have:=hq4 x (dR hx);refine dG (dW (by omega)) (dG (dW (by simp;omega)) ?_)
    (simp (disch:=omega) only [dP,dY,dT,dQ])
    refine Ok.ret ?_;rw[List.take_add_one,hx];rfl
   ·omega
  ·unfold iz
   (with_reducible refine dE (λZ9=>?_) λZ9=>?_)
   ·omega
   ·rw[List.take_length];exact Ok.ret rfl
 refine eY ?_;refine dG (dW (by omega)) ?_;rw[show List.append [] ow=ow from rfl];delta dO
 try dsimp only
 rw[e];exact Ok.ret rfl
theorem Fj{ow:List Int}{qs:List (List Int)}{lock t:Int}(h:iQ ow qs):Ok (jH ow qs lock t) λr=>∃Zc qs' n b,r=(Zc,qs',n,b,())/\iQ Zc qs'/\-1<=n/\n<=3:=by
 unfold jH;rw[yx h];obtain⟨h1,h2,h3,h4⟩:=id h;refine Ok.bind (P:=λr=>∃b,r=(lock,b,(),(),ow,qs,())/\(b=false->0<=lock/\lock<4)) ?_ ?_
 ·(with_reducible refine dE (λZ9=>?_) λZ9=>?_)
  ·exact Ok.ret ⟨true,rfl,λh=>by cases h⟩
  ·(with_reducible refine dE (λZZ=>?_) λZZ=>?_)
   ·exact Ok.ret ⟨true,rfl,λh=>by cases h⟩
   ·refine Ok.nat (by omega) λj hj=>?_;refine Ok.get (by omega) λx hx=>?_;exact Ok.ret ⟨_,rfl,λ_=>⟨by omega,by omega⟩⟩
 rintro _ ⟨b,rfl,hb⟩;dsimp only;refine Ok.cond (λ_=>Ok.ret ⟨_,_,_,_,rfl,h,by omega,by omega⟩) λQS=>?_;obtain⟨l0,l1⟩:=hb QS;obtain⟨j,rfl⟩:∃j:Nat,lock=j:=⟨lock.toNat,by omega⟩;obtain⟨o,ho⟩:∃o,ow[j]?=some o:=⟨_,oGE (by omega)⟩;obtain⟨q,hq⟩:∃q,qs[j]?=some q:=⟨_,oGE (by omega)⟩;have go:dJ ow j=some o:=ho;have gq:dJ qs j=some q:=hq;have gm:∀f:Int->Int,dJ (List.modify ow j f) j=some (f o):=λf=>rz ho;have gm2:∀f g:Int->Int,dJ (List.modify (List.modify ow j f) j g) j=some (g (f o)):=λf g=>rz (rz ho);delta dO;simp only[dM,oBS,go,gq,gm,gm2];have XU:iQ (List.modify ow j λ_=>-1) qs:=⟨by rw[oLM];exact h1,h2,i5 h3 λ_ _=>⟨by omega,by omega⟩,h4⟩
 (with_reducible refine dE (λhcc=>?_) λhcc=>?_)
 ·obtain⟨x,hx⟩:∃x,q[0]?=some x:=⟨_,oGE (by omega)⟩;have gx:dJ q 0=some x:=hx;have X8:=(h4 q (dR hq)).2 x (dR hx);simp only[gx,oBS];refine dG (by unfold gi;simp;omega) ?_;refine Ok.ret ⟨_,_,_,_,rfl,⟨by rw[oLM,oLM];exact h1,by rw[oLM];exact h2,i5 (i5 h3 λ_ _=>⟨by omega,by omega⟩) λ_ _=>⟨by omega,by omega⟩,i5 h4 λ_ _=>?_⟩,by omega,by omega⟩;obtain⟨q1,q2⟩:=h4 q (dR hq);unfold lO;have hs:(List.take (Nat.sub q.length 1) (List.drop 1 q)).Sublist q:=(List.take_sublist _ _).trans (List.drop_sublist _ _);exact⟨q1.sublist hs,λt ht=>q2 t (hs.subset ht)⟩
 ·exact Ok.ret ⟨_,_,_,_,rfl,XU,by omega,by omega⟩
theorem HI{q:List Int}{x:Int}(h:q.Nodup)(hx:x ∉ q):(q++[x]).Nodup:=by
 grind
theorem Ot{ow:List Int}{qs:List (List Int)}{t:Int}(h:iQ ow qs):Ok (nz ow qs t) λr=>∃Zc qs' nx,r=(Zc,qs',nx,())/\iQ Zc qs'/\nx.length<=4/\∀x∈nx,0<=x/\x<=3:=by
 unfold nz;rw[yx h];delta dO;simp only[oBS];have h2:=h.qlen;refine Ok.loop (P:=λs'=>∃k:Nat,∃qs',s'=(t,(qs.length:Int),(k:Int),(),(),ow,qs',())/\k<=qs.length/\iQ ow qs') (R:=λr=>∃a b c qs',r=(t,a,b,c,(),(),ow,qs',())/\iQ ow qs') (m:=λs'=>(s'.2.1-s'.2.2.1).toNat) ⟨0,qs,rfl,by omega,h⟩ (by unfold NN;dsimp only;omega) ?_ ?_
 ·rintro _ ⟨k,qs',rfl,hk,hl⟩;obtain⟨g1,g2,g3,g4⟩:=id hl;unfold qg;dsimp only
  (with_reducible refine dE (λZ9=>?_) λZ9=>?_)
  ·obtain⟨q,hq⟩:∃q,qs'[k]?=some q:=⟨_,oGE (by omega)⟩;have gq:dJ qs' k=some q:=hq;obtain⟨q1,q2⟩:=g4 q (dR hq);have q3:=hl.qlen4 (dR hq);delta dO;simp only[dM,oBS,gq]
   refine Ok.loop (P:=λs'=>∃j:Nat,∃l,s'=(t,(k:Int),(qs.length:Int),(k:Int),k,(q.length:Int),(j:Int),(),(),ow,qs',l,())/\j<=q.length/\l.Sublist (q.take j))
    (R:=λr=>∃a b c d l,r=(t,(k:Int),(qs.length:Int),(k:Int),a,b,c,d,(),(),ow,qs',l,())/\l.Sublist q) (m:=λs'=>(s'.2.2.2.2.2.1-s'.2.2.2.2.2.2.1).toNat) ⟨0,[],rfl,by omega,by simp⟩ (by unfold NN;dsimp only;omega) ?_ ?_
   ·rintro _ ⟨j,l,rfl,hj,Z'⟩;unfold qi;dsimp only
    (with_reducible refine dE (λZZ=>?_) λZZ=>?_)
    ·obtain⟨x,hx⟩:∃x,q[j]?=some x:=⟨_,oGE (by omega)⟩;have gx:dJ q j=some x:=hx;simp only[dM,oBS,gq,gx];have Td:=Z'.length_le;rw[oLT]at Td
     have WW:q.take (j+1)=q.take j++[x]:=by rw[List.take_add_one,hx];rfl
     refine Ok.bind (P:=λr=>∃l',r=(t,(k:Int),(qs.length:Int),(k:Int),k,(q.length:Int),(j:Int),(),(),ow,qs',l',())/\l'.Sublist (q.take (j+1))) ?_ ?_
     ·refine Ok.cond (λ_=>dG (dW (by simp;omega)) (Ok.ret ⟨_,rfl,?_⟩)) λ_=>Ok.ret ⟨l,rfl,?_⟩
      ·rw[WW];exact Z'.append (List.Sublist.refl _)
      ·rw[WW];exact Z'.trans (List.sublist_append_left _ _)
     ·rintro _ ⟨l',rfl,hs⟩;dsimp only
      (simp (disch:=omega) only [dP,dY,dT,dQ])
      exact Ok.ret ⟨⟨j+1,l',rfl,by omega,hs⟩,by dsimp only;omega⟩
    ·exact Ok.ret ⟨_,_,_,_,l,rfl,Z'.trans (List.take_sublist _ _)⟩
   ·rintro _ ⟨a,b,c,d,l,rfl,hs⟩;dsimp only;simp only[dM,oBS,gq]
    (simp (disch:=omega) only [dP,dY,dT,dQ])
    exact Ok.ret ⟨⟨k+1,_,rfl,by omega,⟨g1,by rw[oLM];exact g2,g3,i5 g4 λ_ _=>⟨q1.sublist hs,λt ht=>q2 t (hs.subset ht)⟩⟩⟩,by dsimp only;omega⟩
  ·exact Ok.ret ⟨_,_,_,qs',rfl,hl⟩
 ·rintro _ ⟨a,b,c,qs',rfl,hl⟩;dsimp only
  refine Ok.loop (P:=λs'=>∃k:Nat,∃Zc qs' nx,s'=(t,4,(k:Int),(),(),Zc,qs',nx,())/\k<=4/\nx.length<=k/\iQ Zc qs'/\∀x∈nx,0<=x/\x<=3) (R:=λr=>∃a b c Zc qs' nx,r=(t,a,b,c,(),(),Zc,qs',nx,())/\iQ Zc qs'/\nx.length<=4/\∀x∈nx,0<=x/\x<=3) (m:=λs'=>(4-s'.2.2.1).toNat)
   ⟨0,ow,qs',[],by rw[hl.olen];rfl,by omega,by simp,hl,eq⟩ (by unfold NN;dsimp only;omega) ?_ ?_
  ·rintro _ ⟨k,Zc,qs',nx,rfl,hk,XG,YL,XW⟩;unfold qf;dsimp only
   (with_reducible refine dE (λZ9=>?_) λZ9=>?_)
   ·refine(Fj YL).bind ?_;rintro _ ⟨ow2,qs2,n,bb,rfl,Yl,n0,n1⟩;dsimp only;refine Ok.bind (P:=λr=>∃Sv,r=(t,4,(k:Int),(),(),Zc,qs',Sv,ow2,qs2,())/\Sv.length<=k+1/\∀x∈Sv,0<=x/\x<=3) ?_ ?_
    ·refine Ok.cond (λ_=>?_) λ_=>Ok.ret ⟨nx,rfl,by omega,XW⟩
     (with_reducible refine dE (λZZ=>?_) λZZ=>?_)
     ·refine dG (dW (by simp;omega)) (Ok.ret ⟨_,rfl,by rw[fe];simp;omega,iK XW (all_cons ⟨by omega,n1⟩ eq)⟩)
     ·exact Ok.ret ⟨nx,rfl,by omega,XW⟩
    ·rintro _ ⟨Sv,rfl,WT,hn2⟩;dsimp only
     (simp (disch:=omega) only [dP,dY,dT,dQ])
     exact Ok.ret ⟨⟨k+1,_,_,_,rfl,by omega,WT,Yl,hn2⟩,by dsimp only;omega⟩
   ·exact Ok.ret ⟨_,_,_,_,_,_,rfl,YL,by omega,XW⟩
  ·rintro _ ⟨a,b,c,Zc,qs',nx,rfl,YL,hn4,XW⟩;exact Ok.ret ⟨_,_,_,rfl,YL,hn4,XW⟩
theorem Nj{ow:List Int}{qs:List (List Int)}{lock t:Int}(h:iQ ow qs)(ht:0<=t/\t<=3):Ok (ny ow qs lock t) λr=>∃Zc qs' n,r=(Zc,qs',n,())/\iQ Zc qs':=by
 unfold ny;rw[yx h];simp only[oBS];obtain⟨h1,h2,h3,h4⟩:=id h;refine Ok.bind (P:=λr=>∃b,r=(lock,t,b,ow,qs,(),(),ow,qs,())/\(b=false->0<=lock/\lock<4)) ?_ ?_
 ·(with_reducible refine dE (λZ9=>?_) λZ9=>?_)
  ·exact Ok.ret ⟨true,rfl,λh=>by cases h⟩
  ·(with_reducible refine dE (λZZ=>?_) λZZ=>?_)
   ·exact Ok.ret ⟨true,rfl,λh=>by cases h⟩
   ·refine Ok.nat (by omega) λj hj=>?_;refine Ok.get (by omega) λx hx=>?_;exact Ok.ret ⟨_,rfl,λ_=>⟨by omega,by omega⟩⟩
 rintro _ ⟨b,rfl,hb⟩;dsimp only;refine Ok.cond (λ_=>Ok.ret ⟨_,_,_,rfl,h⟩) λQS=>?_;obtain⟨l0,l1⟩:=hb QS;delta dO
 try dsimp only
 obtain⟨r,e,hr⟩:=g7 (f:=mO) (n:=NN) (s:=(lock,t,qs,(qs.length:Int),0,ow,qs,(),(),ow,qs,())) (P:=λs'=>∃k:Nat,s'=(lock,t,qs,(qs.length:Int),(k:Int),ow,qs,(),(),ow,qs,())/\k<=qs.length/\∀(i:Nat) q,i<k->qs[i]?=some q->t ∉ q)
  (R:=λr=>r=.inl (2,ow,qs,())\/((∃a b c,r=.inr (lock,t,a,b,c,false,ow,qs,(),(),ow,qs,()))/\∀q∈qs,t ∉ q)) (m:=λs'=>(s'.2.2.2.1-s'.2.2.2.2.1).toNat) ⟨0,rfl,by omega,λi q hi=>by omega⟩ (by unfold NN;dsimp only;omega) (by
   rintro _ ⟨k,rfl,hk,ZM⟩;unfold mO;dsimp only
   (with_reducible refine dE (λZ9=>?_) λZ9=>?_)
   ·obtain⟨q,hq⟩:∃q,qs[k]?=some q:=⟨_,oGE (by omega)⟩;have gq:dJ qs k=some q:=hq;have q3:=h.qlen4 (dR hq);delta dO;simp only[dM,oBS,gq]
    obtain⟨r,e,hr⟩:=g7 (f:=mP) (n:=NN) (s:=(lock,t,qs,(qs.length:Int),(k:Int),q,(q.length:Int),0,ow,qs,(),(),ow,qs,())) (P:=λs'=>∃j:Nat,s'=(lock,t,qs,(qs.length:Int),(k:Int),q,(q.length:Int),(j:Int),ow,qs,(),(),ow,qs,())/\j<=q.length/\∀(i:Nat) x,i<j->q[i]?=some x->x≠t)
     (R:=λr=>r=.inl (2,ow,qs,())\/((∃a b c,r=.inr (lock,t,qs,(qs.length:Int),(k:Int),a,b,c,false,ow,qs,(),(),ow,qs,()))/\t ∉ q)) (m:=λs'=>(s'.2.2.2.2.2.2.1-s'.2.2.2.2.2.2.2.1).toNat) ⟨0,rfl,by omega,λi x hi=>by omega⟩ (by unfold NN;dsimp only;omega) (by
      rintro _ ⟨j,rfl,hj,hne⟩;unfold mP;dsimp only
      (with_reducible refine dE (λZZ=>?_) λZZ=>?_)
      ·obtain⟨x,hx⟩:∃x,q[j]?=some x:=⟨_,oGE (by omega)⟩;have gx:dJ q j=some x:=hx;simp only[dM,oBS,gx]
       (with_reducible refine dE (λhcc=>?_) λhcc=>?_)
       ·exact Ok.ret (.inl rfl)
       ·(simp (disch:=omega) only [dP,dY,dT,dQ])
        exact Ok.ret ⟨⟨j+1,rfl,by omega,GQ hne hx hcc⟩,by dsimp only;omega⟩
      ·refine Ok.ret (.inr ⟨⟨_,_,_,rfl⟩,λhm=>?_⟩);obtain⟨i,hi⟩:=List.getElem?_of_mem hm
       exact hne i t (by have:=(oGS hi).1;omega) hi rfl)
    rw[e];rcases hr with rfl|⟨⟨a,b,c,rfl⟩,Tk⟩
    ·exact Ok.ret (.inl rfl)
    ·dsimp only
     (simp (disch:=omega) only [dP,dY,dT,dQ])
     refine Ok.ret ⟨⟨k+1,rfl,by omega,λi q' hi Uh=>?_⟩,by dsimp only;omega⟩;by_cases hik:i=k
     ·simp_all
     ·exact ZM i q' (by omega) Uh
   ·refine Ok.ret (.inr ⟨⟨_,_,_,rfl⟩,λq hq=>?_⟩);obtain⟨i,hi⟩:=List.getElem?_of_mem hq
    exact ZM i q (by have:=(oGS hi).1;omega) hi)
 rw[e];rcases hr with rfl|⟨⟨a,b,c,rfl⟩,Tk⟩
 ·exact Ok.ret ⟨_,_,_,rfl,h⟩
 ·dsimp only;obtain⟨j,rfl⟩:∃j:Nat,lock=j:=⟨lock.toNat,by omega⟩;obtain⟨o,ho⟩:∃o,ow[j]?=some o:=⟨_,oGE (by omega)⟩;obtain⟨q,hq⟩:∃q,qs[j]?=some q:=⟨_,oGE (by omega)⟩;have go:dJ ow j=some o:=ho;have gq:dJ qs j=some q:=hq;simp only[dM,oBS,go,gq]
  (with_reducible refine dE (λXg=>?_) λXg=>?_)
  ·exact Ok.ret ⟨_,_,_,rfl,⟨by rw[oLM];exact h1,h2,i5 h3 λ_ _=>⟨by omega,ht.2⟩,h4⟩⟩
  ·have q3:=h.qlen4 (dR hq);refine dG (dW (by simp;omega)) (dG (by simp) (Ok.ret ⟨_,_,_,rfl,⟨h1,by rw[oLM];exact h2,h3,i5 h4 λ_ _=>⟨?_,?_⟩⟩⟩))
   ·exact HI (h4 q (dR hq)).1 (Tk q (dR hq))
   ·exact iK (h4 q (dR hq)).2 (all_cons ht eq)
theorem eX{α:Type}{l:List α}{i:Nat}{a:α}(h:l[i]?=some a)(f:α->α):List.modify l i f=l.set i (f a):=by
 apply List.ext_getElem?
 grind
theorem iJ{α:Type}{l:List α}{i:Nat}(h:i<l.length)(a:α):dJ (l.set i a) i=some a:=by
 show(l.set i a)[i]?=some a
 simp_all
theorem oe{α:Type}{l:List α}{i:Nat}(h:i<l.length)(a:α)(f:α->α):List.modify (l.set i a) i f=l.set i (f a):=by
 rw[eX (iJ h a),List.set_set]
theorem lT{α:Type}{P:α->Prop}{l:List α}{i:Nat}{a:α}(h:∀x∈l,P x)(ha:P a):∀x∈l.set i a,P x:=by
 grind
theorem MOk.set{n:Int}{ss bs:List Int}{cs Z3:List DCe}{ls Z1:List DLn}{ts:List DTh}(h:MOk n ss bs cs ls ts)(hm:lf (RK bs ss) Z3 Z1){i:Nat}{t:DTh}(ht:yO (RK bs ss) n t):MOk n ss bs Z3 Z1 (ts.set i t):=
 ⟨h.lay,hm,by rw[List.length_set];exact h.tlen,lT h.thr ht⟩
def QN(code:List DIn)(t:DTh)(s:Int)(t':DTh):Prop:=
 (s=-1/\t'.1=1/\((t'.2.2.2.1=t.2.2.2.1/\t'.2.2.1=t.2.2.1+1)\/t'.2.2.2.1=t.2.2.2.1+1))\/(s=2/\t'.1=4/\t'.2.2.2.1=t.2.2.2.1)\/
  (s=1/\t'.1=2/\t'.2.2.2.1=t.2.2.2.1/\∃i:DIn,1<=t'.2.2.1/\code[(t'.2.2.1-1).toNat]?=some i/\i.1=23)
def FM(n key:Int)(code:List DIn)(ss bs:List Int)(ts:List DTh)(i:Nat)(t:DTh)(r:Int×List Int×Int×List DCe×List DLn×List DTh×Unit):Prop:=
 ∃s Z3 Z1 t',r=(s,bs,key,Z3,Z1,ts.set i t',())/\lf (RK bs ss) Z3 Z1/\yO (RK bs ss) n t'/\QN code t s t'
theorem mX{n key:Int}{code:List DIn}{ss bs:List Int}{ts:List DTh}{i:Nat}{t t':DTh}{Z3:List DCe}{Z1:List DLn}(hm:lf (RK bs ss) Z3 Z1)(ht:yO (RK bs ss) n t')(h1:t'.1=1)
 (h:(t'.2.2.2.1=t.2.2.2.1/\t'.2.2.1=t.2.2.1+1)\/t'.2.2.2.1=t.2.2.2.1+1):Ok (some (-1,bs,key,Z3,Z1,ts.set i t',())) (FM n key code ss bs ts i t):=Ok.ret ⟨_,_,_,_,rfl,hm,ht,.inl ⟨rfl,h1,h⟩⟩
theorem mq{n key Xd:Int}{code:List DIn}{ss bs:List Int}{ts:List DTh}{i:Nat}{t:DTh}{Z3:List DCe}{Z1:List DLn}(hm:lf (RK bs ss) Z3 Z1)(ht:yO (RK bs ss) n t)(hw:0<=Xd/\Xd<=6):
 Ok (some (2,bs,key,Z3,Z1,ts.set i (4,t.2.1,t.2.2.1,t.2.2.2.1,t.2.2.2.2.1,t.2.2.2.2.2.1,Xd,0),())) (FM n key code ss bs ts i t):=Ok.ret ⟨_,_,_,_,rfl,hm,ht.ended hw,.inr (.inl ⟨rfl,rfl,rfl⟩)⟩
theorem gZ(op:Int):lm op=some (ng op||op==22||op==24,()):=by
 unfold lm;rw[xT]
 grind
set_option maxHeartbeats 4000000 in
theorem Pg{n key:Int}{code:List DIn}{ss bs:List Int}{d:List (List Int)}{cs:List DCe}{ls:List DLn}{ts:List DTh}{i:Nat}{t:DTh}(hp:ne code ss d)(h:MOk n ss bs cs ls ts)(ht:ts[i]?=some t)(hs:t.1=1)
 (hc:t.2.2.2.1+1<=n)(hn:n<=1099511627776):Ok (oV code ss d (i:Int) bs key cs ls ts) (FM n key code ss bs ts i t):=by
 have hok:=h.thr t (dR ht);have hm:=h.mem;obtain⟨_,hl,hr,⟨p0,p1⟩,⟨c0,c1⟩,ha,⟨s0,s1⟩,⟨r0,r1⟩,hco⟩:=id hok;obtain⟨st,rs,pc,ct,hd,sa,tr,co⟩:=t;dsimp only at *;subst hs;have YP:=(oGS ht).1;have hg:dJ ts i=some (1,rs,pc,ct,hd,sa,tr,co):=ht;have e1:∀f:DTh->DTh,List.modify ts i f=ts.set i (f (1,rs,pc,ct,hd,sa,tr,co)):=λf=>eX ht f;have e2:∀x,dJ (ts.set i x) i=some x:=λx=>iJ YP x;have e3:∀(x:DTh)(f:DTh->DTh),List.modify (ts.set i x) i f=ts.set i (f x):=λx f=>oe YP x f
 have eT:∀Xd,fv (i:Nat) Xd ts=some (2,ts.set i (4,rs,pc,ct,hd,sa,Xd,0),()):=λXd=>by rw[Ng (n:=n) ht,e1]
 have mk:∀{R1:List DCe}{RZ ct' R2:Int},R1.length=8->(∀c∈R1,n6 (RK bs ss) c)->0<=RZ/\RZ<=255->0<=ct'/\ct'<=n->-1<=R2/\R2<=255->yO (RK bs ss) n (1,R1,RZ,ct',hd,R2,tr,co):=
  λh1 h2 h3 h4 h5=>⟨⟨show(0:Int)<=1 by decide,show(1:Int)<=4 by decide⟩,h1,h2,h3,h4,ha,h5,⟨r0,r1⟩,hco⟩
 unfold oV;rw[dM];delta dO;simp only[hg,oBS]
 (with_reducible refine dE (λZ9=>?_) λZ9=>?_)
 ·rw[eT 2];exact mq hm hok (by decide)
 refine Ok.nat p0 λj hj=>?_;subst hj;have Zm:=hp.clen;refine Ok.get (by omega) λx hx=>?_;obtain⟨op,A,B,C,I⟩:=x;obtain⟨⟨o0,o1⟩,⟨A0,A1,_⟩,⟨B0,B1,_⟩,⟨C0,C1,_⟩,⟨I0,I1,_⟩,Ri,hsys,VE⟩:=hp.ins _ (dR hx);dsimp only at *;obtain⟨A,rfl⟩:∃k:Nat,A=k:=⟨A.toNat,by omega⟩;obtain⟨B,rfl⟩:∃k:Nat,B=k:=⟨B.toNat,by omega⟩;obtain⟨C,rfl⟩:∃k:Nat,C=k:=⟨C.toNat,by omega⟩;obtain⟨I,rfl⟩:∃k:Nat,I=k:=⟨I.toNat,by omega⟩;obtain⟨⟨ta,va⟩,gA⟩:∃c,dJ rs A=some c:=⟨_,oGE (by omega)⟩;obtain⟨⟨tb,vb⟩,gB⟩:∃c,dJ rs B=some c:=⟨_,oGE (by omega)⟩;obtain⟨⟨tc,vc⟩,gC⟩:∃c,dJ rs C=some c:=⟨_,oGE (by omega)⟩;have cA:=hr _ (dR gA);have cB:=hr _ (dR gB);have cC:=hr _ (dR gC);have eR:∀f:DCe->DCe,List.modify rs A f=rs.set A (f (ta,va)):=λf=>eX gA f;have w1:w64 ((j:Int)+1)=(j:Int)+1:=dP (by omega) (by omega);have wI:wk .u16 (I:Int)=I:=dY (by omega) (by omega);have Ze:∀{c:DCe},n6 (RK bs ss) c->(rs.set A c).length=8/\∀x∈rs.set A c,n6 (RK bs ss) x:=λhc=>⟨by rw[List.length_set];exact hl,lT hr hc⟩;have wc:w64 (ct+1)=ct+1:=dP (by omega) (by omega);simp only[dM,hg,gA,gB,oBS,w1,wI]
 rcases(show op=0\/op=1\/op=2\/op=15\/op=16\/op=17\/op=18\/op=19\/op=20\/op=21\/op=22\/op=23\/op=24\/(3<=op/\op<=14) by omega)with rfl|rfl|rfl|rfl|rfl|rfl|rfl|rfl|rfl|rfl|rfl|rfl|rfl|⟨q0,q1⟩
 all_goals try simp only[Int.reduceBEq,oCT,oCF,dM,hg,gA,gB,gC,e1,e2,e3,eR,eT,oBS,w1,wI,wc,gZ,ng,Bool.or_false,Bool.or_true,Bool.or_self,bne_self_eq_false]
 ·exact mX hm (mk hl hr (by omega) (by omega) (by omega)) rfl (.inl ⟨rfl,rfl⟩)
 ·exact mX hm (mk (Ze (l7 (by omega))).1 (Ze (l7 (by omega))).2 (by omega) (by omega) (by omega)) rfl (.inl ⟨rfl,rfl⟩)
 ·exact mX hm (mk (Ze cB).1 (Ze cB).2 (by omega) (by omega) (by omega)) rfl (.inl ⟨rfl,rfl⟩)
 ·have hI:=Ri rfl;have U8:=h.lay.2.1;obtain⟨b,hb⟩:∃b,bs[I]?=some b:=⟨_,oGE (by omega)⟩;obtain⟨z,hz⟩:∃z,ss[I]?=some z:=⟨_,oGE (by omega)⟩;have XX:=h.lay.2.2 I (by omega);unfold zL at XX;rw[fA hb,fA hz]at XX;have Xc:=h.lay.1.2.2 z (dR hz);have wb:wk .u16 b=b:=dY (by omega) (by omega);have gb:dJ bs I=some b:=hb;simp only[gb,wb,Int.reduceBEq,oCT,oCF,dM,hg,gA,gB,gC,e1,e2,e3,eR,eT,oBS,w1,wI,wc,gZ,ng,Bool.or_false,Bool.or_true,Bool.or_self,bne_self_eq_false];have ZZ:n6 (RK bs ss) (1,b):=⟨by dsimp only;omega,by dsimp only;omega,by dsimp only;omega,by dsimp only;omega,λ_=>⟨I,b,z,hb,hz,by dsimp only;omega,by dsimp only;omega⟩⟩;exact mX hm (mk (Ze ZZ).1 (Ze ZZ).2 (by omega) (by omega) (by omega)) rfl (.inl ⟨rfl,rfl⟩)
 ·obtain⟨_,em,t1,x1,e,rfl,ZO,Vz,VA,WA⟩:=xF (key:=key) (tag:=tb) (v:=vb) (n:=(I:Int)) (back:=false) h.lay ⟨cB.2.2.1,cB.2.2.2.1⟩ ⟨by omega,by omega⟩;simp only[em,oBS];by_cases hne:e=0
  ·subst hne;have wx:wk .i64 x1=x1:=dT (by have:=ZO.2.2.1;dsimp only at this;omega) (by have:=ZO.2.2.2.1;dsimp only at this;omega);obtain⟨_,el,t2,x2,Vq,VR,rfl,ZK,hm2⟩:=J0 (a:=x1) hm ⟨ZO.2.2.1,WA rfl⟩;simp only[wx,el,Int.reduceBEq,oCT,oCF,dM,hg,gA,gB,gC,e1,e2,e3,eR,eT,oBS,w1,wI,wc,gZ,ng,Bool.or_false,Bool.or_true,Bool.or_self,bne_self_eq_false];exact mX hm2 (mk (Ze ZK).1 (Ze ZK).2 (by omega) (by omega) (by omega)) rfl (.inl ⟨rfl,rfl⟩)
  ·simp only[bne_iff_ne.2 hne,oCT];exact mq hm hok ⟨Vz,VA⟩
 ·obtain⟨_,em,t1,x1,e,rfl,ZO,Vz,VA,WA⟩:=xF (key:=key) (tag:=ta) (v:=va) (n:=(I:Int)) (back:=false) h.lay ⟨cA.2.2.1,cA.2.2.2.1⟩ ⟨by omega,by omega⟩;simp only[em,oBS];by_cases hne:e=0
  ·subst hne;have wx:wk .i64 x1=x1:=dT (by have:=ZO.2.2.1;dsimp only at this;omega) (by have:=ZO.2.2.2.1;dsimp only at this;omega);obtain⟨_,el,Vq,VR,rfl,hm2⟩:=zU (a:=x1) (t:=tb) (v:=vb) hm ⟨ZO.2.2.1,WA rfl⟩ cB;simp only[wx,el,Int.reduceBEq,oCT,oCF,dM,hg,gA,gB,gC,e1,e2,e3,eR,eT,oBS,w1,wI,wc,gZ,ng,Bool.or_false,Bool.or_true,Bool.or_self,bne_self_eq_false];exact mX hm2 (mk hl hr (by omega) (by omega) (by omega)) rfl (.inl ⟨rfl,rfl⟩)
  ·simp only[bne_iff_ne.2 hne,oCT];exact mq hm hok ⟨Vz,VA⟩
 ·have:=VE (by decide);exact mX hm (mk hl hr (by omega) (by omega) (by omega)) rfl (.inr rfl)
 ·have:=VE (by decide);by_cases hta:ta=0
  ·subst hta
   cases va==0 with
   |true=>
    simp only[BEq.rfl,Int.reduceBEq,oCT,oCF,dM,hg,gA,gB,gC,e1,e2,e3,eR,eT,oBS,w1,wI,wc,gZ,ng,Bool.or_false,Bool.or_true,Bool.or_self,bne_self_eq_false];exact mX hm (mk hl hr (by omega) (by omega) (by omega)) rfl (.inr rfl)
   |false=>
    simp only[show(false==true)=false from rfl,Int.reduceBEq,oCT,oCF,dM,hg,gA,gB,gC,e1,e2,e3,eR,eT,oBS,w1,wI,wc,gZ,ng,Bool.or_false,Bool.or_true,Bool.or_self,bne_self_eq_false];exact mX hm (mk hl hr (by omega) (by omega) (by omega)) rfl (.inr rfl)
  ·simp only[bne_iff_ne.2 hta,oCT];exact mq hm hok (by decide)
 ·have:=VE (by decide);by_cases hta:ta=0
  ·subst hta
   cases va==0 with
   |true=>
    simp only[show(true==false)=false from rfl,Int.reduceBEq,oCT,oCF,dM,hg,gA,gB,gC,e1,e2,e3,eR,eT,oBS,w1,wI,wc,gZ,ng,Bool.or_false,Bool.or_true,Bool.or_self,bne_self_eq_false];exact mX hm (mk hl hr (by omega) (by omega) (by omega)) rfl (.inr rfl)
   |false=>
    simp only[BEq.rfl,Int.reduceBEq,oCT,oCF,dM,hg,gA,gB,gC,e1,e2,e3,eR,eT,oBS,w1,wI,wc,gZ,ng,Bool.or_false,Bool.or_true,Bool.or_self,bne_self_eq_false];exact mX hm (mk hl hr (by omega) (by omega) (by omega)) rfl (.inr rfl)
  ·simp only[bne_iff_ne.2 hta,oCT];exact mq hm hok (by decide)
 ·have:=VE (by decide);have wj:wk .u16 ((j:Int)+1)=(j:Int)+1:=dY (by omega) (by omega);rw[wj];exact mX hm (mk (Ze (l7 (by omega))).1 (Ze (l7 (by omega))).2 (by omega) (by omega) (by omega)) rfl (.inr rfl)
 ·by_cases hta:ta=0
  ·subst hta;have wa:wk .i64 va=va:=dT (by have:=cA.2.2.1;dsimp only at this;omega) (by have:=cA.2.2.2.1;dsimp only at this;omega);have a0:=cA.2.2.1;dsimp only at a0;by_cases hva:va>255
   ·simp only[oDT hva,bne_self_eq_false,oCT,oCF];exact mq hm hok (by decide)
   ·simp only[oDF hva,wa,Int.reduceBEq,oCT,oCF,dM,hg,gA,gB,gC,e1,e2,e3,eR,eT,oBS,w1,wI,wc,gZ,ng,Bool.or_false,Bool.or_true,Bool.or_self,bne_self_eq_false];exact mX hm (mk hl hr (by omega) (by omega) (by omega)) rfl (.inr rfl)
  ·simp only[bne_iff_ne.2 hta,oCT];exact mq hm hok (by decide)
 ·refine Ok.ret ⟨_,_,_,_,rfl,hm,⟨⟨show(0:Int)<=2 by decide,show(2:Int)<=4 by decide⟩,hl,hr,⟨by dsimp only;omega,by dsimp only;omega⟩,⟨c0,by dsimp only;omega⟩,ha,⟨s0,s1⟩,⟨r0,r1⟩,hco⟩,.inr (.inr ⟨rfl,rfl,rfl,(23,(A:Int),(B:Int),(C:Int),(I:Int)),by dsimp only;omega,?_,rfl⟩)⟩;dsimp only;rw[show(j:Int)+1-1=(j:Int) by omega,oTN];exact hx
 ·by_cases hsa:sa=-1
  ·simp only[beq_iff_eq.2 hsa,oCT];exact mq hm hok (by decide)
  ·simp only[oBF hsa,Int.reduceBEq,oCT,oCF,dM,hg,gA,gB,gC,e1,e2,e3,eR,eT,oBS,w1,wI,wc,gZ,ng,Bool.or_false,Bool.or_true,Bool.or_self,bne_self_eq_false];exact mX hm (mk hl hr (by omega) (by omega) (by omega)) rfl (.inr rfl)
 ·obtain⟨_,ed,t1,x1,e,rfl,ZO,Vz,VA⟩:=Qh (key:=key) (op:=op) h.lay cB cC;have n0:(op==0)=false:=oBF (by omega);have n1:(op==1)=false:=oBF (by omega);have n2:(op==2)=false:=oBF (by omega);have n15:(op==15)=false:=oBF (by omega);have n16:(op==16)=false:=oBF (by omega);have n17:(op==17)=false:=oBF (by omega);have n18:(op==18)=false:=oBF (by omega);have n19:(op==19)=false:=oBF (by omega);have n20:(op==20)=false:=oBF (by omega);have n21:(op==21)=false:=oBF (by omega);have n22:(op==22)=false:=oBF (by omega);have n23:(op==23)=false:=oBF (by omega);have n24:(op==24)=false:=oBF (by omega);simp only[n0,n1,n2,n15,n16,n17,n18,n19,n20,n21,n22,n23,n24,ed,Int.reduceBEq,oCT,oCF,dM,hg,gA,gB,gC,e1,e2,e3,eR,eT,oBS,w1,wI,wc,gZ,ng,Bool.or_false,Bool.or_true,Bool.or_self,bne_self_eq_false];by_cases hne:e=0
  ·subst hne;simp only[n18,n19,n20,n21,n22,n24,Int.reduceBEq,oCT,oCF,dM,hg,gA,gB,gC,e1,e2,e3,eR,eT,oBS,w1,wI,wc,gZ,ng,Bool.or_false,Bool.or_true,Bool.or_self,bne_self_eq_false];exact mX hm (mk (Ze ZO).1 (Ze ZO).2 (by omega) (by omega) (by omega)) rfl (.inl ⟨rfl,rfl⟩)
  ·simp only[bne_iff_ne.2 hne,oCT];exact mq hm hok ⟨Vz,VA⟩
theorem yO.mono{K:Int->Prop}{n m:Int}{t:DTh}(h:yO K n t)(hm:n<=m):yO K m t:=⟨h.state,h.len,h.regs,h.pc,⟨h.count.1,by have:=h.count.2;omega⟩,h.handler,h.saved,h.trap,h.code⟩
theorem MOk.mono{n m:Int}{ss bs:List Int}{cs:List DCe}{ls:List DLn}{ts:List DTh}(h:MOk n ss bs cs ls ts)(hm:n<=m):MOk m ss bs cs ls ts:=⟨h.lay,h.mem,h.tlen,λt ht=>(h.thr t ht).mono hm⟩
theorem AC{α:Type}{l:List α}{i:Nat}{a:α}(h:l[i]?=some a):l.set i a=l:=by
 apply List.ext_getElem?
 grind
def Qt(code:List DIn)(s:Int)(t':DTh):Prop:=
 (s=0/\t'.1=1)\/(s=2/\t'.1=4)\/(s=1/\t'.1=2/\∃i:DIn,1<=t'.2.2.1/\code[(t'.2.2.1-1).toNat]?=some i/\i.1=23)
def OH(n key:Int)(code:List DIn)(ss bs:List Int)(ts:List DTh)(i:Nat)(r:List Int×Int×List DCe×List DLn×List DTh×Int×Int×Unit):Prop:=
 ∃s Z3 Z1 t',r=(bs,key,Z3,Z1,ts.set i t',s,0,())/\lf (RK bs ss) Z3 Z1/\yO (RK bs ss) n t'/\((s=3/\ts[i]?=some t'/\t'.1≠1)\/Qt code s t')
def P7(i:Nat)(s:Int×Int×(List DIn)×(List (Int))×(List (List (Int)))×Unit×Int×Unit×Unit×Unit×(List (Int))×Int×(List DCe)×(List DLn)×(List DTh)×Unit):Nat:=
 match s.2.2.2.2.2.2.2.2.2.2.2.2.2.2.1[i]? with
 |some t=>((s.2.1-t.2.2.2.1)*256+(255-t.2.2.1)).toNat
 |none=>0
theorem Er{i:Nat}{a b k:Int}{code:List DIn}{ss bs:List Int}{d:List (List Int)}{cs:List DCe}{ls:List DLn}{ts:List DTh}{t:DTh}(h:ts[i]?=some t):P7 i (a,b,code,ss,d,(),0,(),(),(),bs,k,cs,ls,ts,())=((b-t.2.2.2.1)*256+(255-t.2.2.1)).toNat:=by
 unfold P7
 simp_all
theorem Lb{n key k:Int}{code:List DIn}{ss bs:List Int}{d:List (List Int)}{cs:List DCe}{ls:List DLn}{ts:List DTh}{i:Nat}(hp:ne code ss d)(h:MOk n ss bs cs ls ts)(Yu:0<=n)(hn:n+64<=1099511627776)(hi:i<4)(hk:1<=k/\k<=64):
 Ok (me code ss d bs key cs ls ts (i:Int) k) (OH (n+64) key code ss bs ts i):=by
 have Xp:=h.tlen;obtain⟨t,ht⟩:∃t,ts[i]?=some t:=⟨_,oGE (by omega)⟩;have hg:dJ ts i=some t:=ht
 have YP:i<ts.length:=by omega
 have hok:=h.thr t (dR ht);unfold me;rw[uy hp h (by omega)];simp;rw[oDF (show ¬(i:Int)<0 by omega),oDF (show ¬(i:Int)>=4 by omega),oDF (show ¬k<1 by omega),oDF (show ¬k>64 by omega)];simp only[oBS,oCF,tX h,dM,hg]
 (with_reducible refine dE (λZ9=>?_) λZ9=>?_)
 ·refine Ok.ret ⟨3,cs,ls,t,?_,h.mem,hok.mono (by omega),.inl ⟨rfl,ht,Z9⟩⟩;rw[AC ht]
 have T9:=hok.count;have hpc:=hok.pc;rw[dP (x:=t.2.2.2.1+k) (by omega) (by omega)]
 refine Ok.loop (P:=λs'=>∃Z3 Z1 t',s'=((i:Int),t.2.2.2.1+k,code,ss,d,(),0,(),(),(),bs,key,Z3,Z1,ts.set i t',())/\lf (RK bs ss) Z3 Z1/\yO (RK bs ss) (n+64) t'/\t'.1=1/\t'.2.2.2.1<t.2.2.2.1+k)
  (R:=λr=>∃s Z3 Z1 t',r=(s,0,bs,key,Z3,Z1,ts.set i t',())/\lf (RK bs ss) Z3 Z1/\yO (RK bs ss) (n+64) t'/\Qt code s t') (m:=P7 i) ⟨cs,ls,t,by rw[AC ht],h.mem,hok.mono (by omega),Z9,by omega⟩ ?_ ?_ ?_
 ·rw[Er ht];unfold NN;omega
 ·rintro _ ⟨Z3,Z1,t',rfl,hm,X6,hr,hlt⟩;have ZJ:(ts.set i t')[i]?=some t':=iJ YP t';unfold pM;dsimp only;refine(Pg hp (((h.mono (show n<=n+64 by omega)).set hm X6):MOk (n+64) ss bs Z3 Z1 (ts.set i t')) ZJ hr (by omega) (by omega)).bind ?_;rintro _ ⟨s,Vq,VR,t2,rfl,hm2,Wt,Y8⟩;dsimp only;rw[List.set_set]
  (with_reducible refine dE (λZZ=>?_) λZZ=>?_)
  ·refine Ok.ret ⟨_,_,_,_,rfl,hm2,Wt,?_⟩
   rcases Y8 with⟨q,_⟩|⟨q1,q2,_⟩|⟨q1,q2,_,q3⟩
   ·exact absurd q ZZ
   ·exact .inr (.inl ⟨q1,q2⟩)
   ·exact .inr (.inr ⟨q1,q2,q3⟩)
  ·rw[dM];simp only[oBS,iJ YP];have h0:=Wt.count;have h1:=Wt.pc;have h2:=X6.pc
   rcases Y8 with⟨_,q1,q2⟩|⟨q1,_⟩|⟨q1,_⟩
   ·(with_reducible refine dE (λhcc=>?_) λhcc=>?_)
    ·exact Ok.ret ⟨_,_,_,_,rfl,hm2,Wt,.inl ⟨rfl,q1⟩⟩
    ·refine Ok.ret ⟨⟨_,_,_,rfl,hm2,Wt,q1,by omega⟩,?_⟩;rw[Er ZJ,Er (iJ YP t2)];omega
   ·omega
   ·omega
 ·rintro _ ⟨s,Z3,Z1,t',rfl,hm,X6,hs⟩;exact Ok.ret ⟨_,_,_,_,rfl,hm,X6,.inr hs⟩
def Jv(bs ss:List Int)(a:Int):Nat->Nat->Option (Int×Int)
 |0,_=>none
 |n+1,k=>if bs.getD k 0<=a/\a<bs.getD k 0+ss.getD k 0 then some ((k:Int),a-bs.getD k 0)else Jv bs ss a n (k+1)
def LC(bs ss:List Int)(a:Int):Option (Int×Int):=Jv bs ss a bs.length 0
theorem Jt{bs ss:List Int}{a r o:Int}:∀{n k:Nat},k+n=bs.length->bs.length=ss.length->Jv bs ss a n k=some (r,o)->∃(j:Nat)(b z:Int),r=j/\o=a-b/\bs[j]?=some b/\ss[j]?=some z/\b<=a/\a<b+z:=by
 intro n
 induction n with
 |zero=>intro k _ _ h;cases h
 |succ n ih=>
  intro k hk hl h;simp only[Jv]at h;split at h
  ·rename_i hh
   injection h with h
   injection h with h1 h2
   refine⟨k,_,_,h1.symm,h2.symm,?_,?_,hh.1,hh.2⟩
   all_goals rw[Kp (by omega)];exact oGE (by omega)
  ·exact ih (by omega) hl h
theorem Ju{bs ss:List Int}{a:Int}:∀{n k:Nat},k+n=bs.length->Jv bs ss a n k=none->∀(j:Nat)(b z:Int),k<=j->bs[j]?=some b->ss[j]?=some z->¬(b<=a/\a<b+z):=by
 intro n
 induction n with
 |zero=>
  simp_all
 |succ n ih=>
  intro k hk h j b z hj hb hz;simp[Jv]at h;split at h
  ·cases h
  ·rename_i hh;by_cases hjk:j=k
   ·simp_all
   ·exact ih (by omega) h j b z (by omega) hb hz
theorem Cy{bs ss:List Int}{a r o:Int}(hl:bs.length=ss.length)(h:LC bs ss a=some (r,o)):∃(j:Nat)(b z:Int),r=j/\o=a-b/\bs[j]?=some b/\ss[j]?=some z/\b<=a/\a<b+z:=Jt (by omega) hl h
theorem NY{bs ss:List Int}{a:Int}(h:RK bs ss a):∃r o,LC bs ss a=some (r,o):=by
 cases e:LC bs ss a with
 |some x=>exact⟨x.1,x.2,rfl⟩
 |none=>
  have ⟨j,b,z,h1,h2,h3,h4⟩:=h;exact absurd ⟨h3,h4⟩ (Ju (by omega) e j b z (by omega) h1 h2)
theorem Aa{bs ss:List Int}{key a:Int}(h:LV bs ss)(ha:W16 a):fi bs key ss a=some (match LC bs ss a with|some (r,o)=>(r,o,true,())|none=>(0,0,false,())):=by
 obtain⟨hs,hl,hr⟩:=h;obtain⟨a0,a1⟩:=ha;have WJ:=hs.2.1
 have RU:∀(n k N:Nat),k+n=bs.length->n<N->dX eK N (ss,a,bs,(bs.length:Int),(k:Int),bs,key,0,0,())=some (match Jv bs ss a n k with|some (r,o)=>.inl (true,r,o,())|none=>.inr (ss,a,bs,(bs.length:Int),(bs.length:Int),false,bs,key,0,0,())):=by
  intro n
  induction n with
  |zero=>
   intro k N hk hN;obtain⟨N,rfl⟩:∃M,N=M+1:=⟨N-1,by omega⟩
   obtain rfl:k=bs.length:=by omega
   have e:eK (ss,a,bs,(bs.length:Int),(bs.length:Int),bs,key,0,0,())=some (.inr (.inr (ss,a,bs,(bs.length:Int),(bs.length:Int),false,bs,key,0,0,()))):=by
    refine eY ?_;unfold eK;dsimp only
    (with_reducible refine dE (λZ9=>?_) λZ9=>?_)
    ·omega
    ·exact Ok.ret rfl
   simp only[dX,e,oBS,Jv]
  |succ n ih=>
   intro k N hk hN;obtain⟨N,rfl⟩:∃M,N=M+1:=⟨N-1,by omega⟩;obtain⟨b,hb⟩:∃b,bs[k]?=some b:=⟨_,oGE (by omega)⟩;obtain⟨z,hz⟩:∃z,ss[k]?=some z:=⟨_,oGE (by omega)⟩;have Xc:=hs.2.2 z (dR hz);have Vl:=hr k (by omega);unfold zL at Vl;rw[fA hb,fA hz]at Vl;by_cases hh:b<=a/\a<b+z
   ·have e:eK (ss,a,bs,(bs.length:Int),(k:Int),bs,key,0,0,())=some (.inr (.inl (true,(k:Int),a-b,()))):=by
     refine eY ?_;unfold eK;dsimp only;rw[oDT (show(k:Int)<bs.length by omega),dM];simp only[oCT,oBS,show dJ bs k=some b from hb,show dJ ss k=some z from hz];rw[oDT (show a>=b by omega),dP (x:=b+z) (by omega) (by omega),oDT hh.2,dP (x:=a-b) (by omega) (by omega)];exact Ok.ret rfl
    simp only[dX,e,oBS,Jv,fA hb,fA hz,oIP hh]
   ·have e:eK (ss,a,bs,(bs.length:Int),(k:Int),bs,key,0,0,())=some (.inl (ss,a,bs,(bs.length:Int),((k+1:Nat):Int),bs,key,0,0,())):=by
     refine eY ?_;unfold eK;dsimp only;rw[oDT (show(k:Int)<bs.length by omega),dM];simp only[oCT,oBS,show dJ bs k=some b from hb,show dJ ss k=some z from hz];rw[dP (x:=b+z) (by omega) (by omega)];by_cases h1:a>=b
     ·rw[oDT h1,oDF (show ¬a<b+z by omega)];simp only[oCT,oCF];rw[dP (x:=(k:Int)+1) (by omega) (by omega)];exact Ok.ret rfl
     ·rw[oDF h1];simp only[oCF];rw[dP (x:=(k:Int)+1) (by omega) (by omega)];exact Ok.ret rfl
    simp only[dX,e,oBS,Jv,fA hb,fA hz,oIN hh];exact ih (k+1) N (by omega) (by omega)
 unfold fi LC;delta dO
 try dsimp only
 rw[show dX eK NN (ss,a,bs,(bs.length:Int),0,bs,key,0,0,())=_ from RU bs.length 0 NN (by omega) (by unfold NN;omega)]
 cases Jv bs ss a bs.length 0 with
 |some x=>rfl
 |none=>rfl
def vM(bs ss:List Int)(key:Int)(c:DCe):DCn:=
 if c.1=0 then(0,c.2,0,0)else if c.1=2 then(2,wk .u16 (c.2-key),0,0)else match LC bs ss c.2 with|some (r,o)=>(1,0,r,o)|none=>(1,0,-1,c.2)
theorem At{K:Int->Prop}{bs ss:List Int}{key:Int}{c:DCe}(h:LV bs ss)(hc:n6 K c):kf bs key ss c.1 c.2=some ((vM bs ss key c).1,(vM bs ss key c).2.1,(vM bs ss key c).2.2.1,(vM bs ss key c).2.2.2,()):=by
 have ⟨c0,c1,c2,c3,_⟩:=hc;unfold kf vM;rw[dT (by omega) (by omega)];dsimp only;rw[Aa h ⟨c2,c3⟩]
 rcases(show c.1=0\/c.1=1\/c.1=2 by omega)with e|e|e<;>rw[e]
 ·rfl
 ·simp
  cases LC bs ss c.2 with
  |some x=>rfl
  |none=>rfl
 ·rfl
theorem n7(x:Int):W16 (wk .u16 x):=oN x
theorem KJ{bs ss:List Int}{key:Int}{c:DCe}(h:LV bs ss)(hc:n6 (RK bs ss) c):Pr ss (vM bs ss key c):=by
 have ⟨c0,c1,c2,c3,c4⟩:=hc;unfold vM
 rcases(show c.1=0\/c.1=1\/c.1=2 by omega)with e|e|e
 ·rw[oIP e];exact .inl ⟨.inl rfl,rfl,rfl,c2,c3⟩
 ·rw[oIN (by omega),oIN (by omega)];have ⟨r,o,hro⟩:=NY (c4 e);rw[hro];obtain⟨j,b,z,rfl,rfl,h1,h2,h3,h4⟩:=Cy h.2.1 hro;exact .inr ⟨rfl,rfl,by simp_all,z,by simp_all,by simp_all,by dsimp only;omega⟩
 ·rw[oIN (by omega),oIP e];exact .inl ⟨.inr rfl,rfl,rfl,n7 _⟩
theorem GK{K:Int->Prop}{bs ss:List Int}{key:Int}{c:DCe}(hc:n6 K c):(vM bs ss key c).1=c.1/\(c.1=0->(vM bs ss key c).2.1=c.2):=by
 have ⟨c0,c1,_⟩:=hc;unfold vM
 rcases(show c.1=0\/c.1=1\/c.1=2 by omega)with e|e|e
 ·simp_all
 ·rw[oIN (by omega),oIN (by omega)]
  cases LC bs ss c.2 with
  |some x=>simp_all
  |none=>simp_all
 ·simp_all
def HO(cs:List DCe)(ls:List DLn)(a:Int):DCe:=
 match ls[(a/4%4).toNat]? with
 |some x=>if x.1=a/4 then x.2.2.getD (a%4).toNat (0,0)else cs.getD a.toNat (0,0)
 |none=>(0,0)
theorem getD_some{α:Type}{l:List α}{k:Nat}{d x:α}(h:l[k]?=some x):l.getD k d=x:=by simp_all
theorem JX{K:Int->Prop}{cs:List DCe}{ls:List DLn}{a:Int}(h:lf K cs ls)(ha:0<=a/\a<512):nC cs ls a=some ((HO cs ls a).1,(HO cs ls a).2,())/\n6 K (HO cs ls a):=by
 obtain⟨a0,a1⟩:=ha;obtain⟨h1,h2,h3,h4,_⟩:=id h;unfold nC HO;rw[Int.tdiv_eq_ediv_of_nonneg a0,dP (x:=a/4) (by omega) (by omega)];dsimp only;rw[Int.tmod_eq_emod_of_nonneg (show 0<=a/4 by omega),Int.tmod_eq_emod_of_nonneg a0];obtain⟨i,hi⟩:∃i:Nat,a/4%4=i:=⟨(a/4%4).toNat,by omega⟩;rw[hi,dM,oTN];obtain⟨x,hx⟩:∃x,ls[i]?=some x:=⟨_,oGE (by omega)⟩;simp only[oBS,show dJ ls i=some x from hx,hx];by_cases hq:x.1=a/4
 ·rcases h4 i x hx with⟨g,_,_⟩|⟨_,_,_,g4,g5⟩
  ·omega
  ·obtain⟨j,hj⟩:∃j:Nat,a%4=j:=⟨(a%4).toNat,by omega⟩;obtain⟨y,hy⟩:∃y,x.2.2[j]?=some y:=⟨_,oGE (by omega)⟩;rw[hj,dM,oTN,oIP hq,getD_some hy,beq_iff_eq.2 hq];simp only[oCT,oBS,show dJ x.2.2 j=some y from hy];exact⟨trivial,g5 y (dR hy)⟩
 ·obtain⟨j,rfl⟩:∃j:Nat,a=j:=⟨a.toNat,by omega⟩;obtain⟨y,hy⟩:∃y,cs[j]?=some y:=⟨_,oGE (by omega)⟩;rw[oIN hq,oBF hq,dM,oTN,getD_some hy];simp only[oCF,oBS,show dJ cs j=some y from hy];exact⟨trivial,h2 y (dR hy)⟩
def kB(call:Int):List Int:=
 if call=0\/call=8\/call=9\/call=11\/call=12 then[78]else if call=1\/call=2 then[72,80,78]else if call=3 then[78,78]else if call=4 then[72]else if call=5 then[72,78]
 else if call=10 then[78,88]else if call=13\/call=14 then[78,80,78]else[]
theorem J7(call:Int):(kB call).length<=3:=by
 unfold kB
 repeat' split
 all_goals simp
def BOk(b:ByteArray)(l:List Int):Prop:=AA b=(l.length:Int)/\∀j:Nat,zT b j=l[j]?
theorem QI:BOk (bytes []) []:=⟨rfl,λj=>rfl⟩
theorem QH{a:Nat}(h:a<256):BOk (bytes [a]) [(a:Int)]:=⟨rfl,λj=>by
 match j with
 |0=>show some (((UInt8.ofNat a).toNat:Nat):Int)=some (a:Int);simp;omega
 |n+1=>rfl⟩
theorem QG{a b:Nat}(h:a<256)(hb:b<256):BOk (bytes [a,b]) [(a:Int),(b:Int)]:=⟨rfl,λj=>by
 match j with
 |0=>show some (((UInt8.ofNat a).toNat:Nat):Int)=some (a:Int);simp;omega
 |1=>show some (((UInt8.ofNat b).toNat:Nat):Int)=some (b:Int);simp;omega
 |n+2=>rfl⟩
theorem QF{a b c:Nat}(h:a<256)(hb:b<256)(hc:c<256):BOk (bytes [a,b,c]) [(a:Int),(b:Int),(c:Int)]:=⟨rfl,λj=>by
 match j with
 |0=>show some (((UInt8.ofNat a).toNat:Nat):Int)=some (a:Int);simp;omega
 |1=>show some (((UInt8.ofNat b).toNat:Nat):Int)=some (b:Int);simp;omega
 |2=>show some (((UInt8.ofNat c).toNat:Nat):Int)=some (c:Int);simp;omega
 |n+3=>rfl⟩
theorem ve{call:Int}(h:0<=call/\call<=15):call=0\/call=1\/call=2\/call=3\/call=4\/call=5\/call=6\/call=7\/call=8\/call=9\/call=10\/call=11\/call=12\/call=13\/call=14\/call=15:=by omega
theorem AS{call:Int}(h:0<=call/\call<=15):∃b,j4 call=some (b,())/\BOk b (kB call):=by
 rcases ve h with rfl|rfl|rfl|rfl|rfl|rfl|rfl|rfl|rfl|rfl|rfl|rfl|rfl|rfl|rfl|rfl
 all_goals first
  |exact⟨_,rfl,QI⟩
  |exact⟨_,rfl,QH (by decide)⟩
  |exact⟨_,rfl,QG (by decide) (by decide)⟩
  |exact⟨_,rfl,QF (by decide) (by decide) (by decide)⟩
def Mm(k t:Int):Bool:=if k=78 then t==0 else if k=72 then t==2 else if k=80 then t==1 else true
theorem Kt(k t:Int):lG k t=some (Mm k t,()):=by
 unfold lG Mm;by_cases h1:k=78
 ·simp[h1]
 ·by_cases h2:k=72
  ·simp[h2]
  ·by_cases h3:k=80
   ·simp[h3]
   ·simp[h1,h2,h3,oBF h1,oBF h2,oBF h3]
def rF(call:Int):Int:=if call=1\/call=13 then 1 else if call=2\/call=14 then 2 else 0
theorem ur{call:Int}(h:0<=call/\call<=15):g9 call=some (rF call,()):=by
 rcases ve h with rfl|rfl|rfl|rfl|rfl|rfl|rfl|rfl|rfl|rfl|rfl|rfl|rfl|rfl|rfl|rfl<;>rfl
theorem wu{call:Int}(h:0<=call/\call<=15):gF call=some (((kB call).length:Int),()):=by
 have ⟨b,e,hb⟩:=AS h;unfold gF;rw[oDF (show ¬call<0 by omega),oDF (show ¬call>15 by omega),e];simp[hb.1]
theorem IB{bs ss:List Int}{key t v n:Int}(h:LV bs ss)(hv:W16 v)(hn:0<=n/\n<=65535):Ok (ll bs key ss t v n) λr=>∃a e,r=(a,e,())/\(e=0->t=1/\a=v/\∃(j:Nat)(b z:Int),bs[j]?=some b/\ss[j]?=some z/\b<=v/\v+n<=b+z/\v<b+z):=by
 obtain⟨v0,v1⟩:=hv;unfold ll
 (with_reducible refine dE (λZ9=>?_) λZ9=>?_)
 ·exact Ok.ret ⟨_,_,rfl,λh=>by omega⟩
 rw[dT (x:=v) (by omega) (by omega)];dsimp only;rw[Aa h ⟨v0,v1⟩];simp only[oBS]
 cases e:LC bs ss v with
 |none=>exact Ok.ret ⟨_,_,rfl,λh=>by omega⟩
 |some x=>
  obtain⟨r,o⟩:=x;obtain⟨j,b,z,rfl,rfl,h1,h2,h3,h4⟩:=Cy h.2.1 e;have hj:=(oGS h1).1;have hr:=h.2.2 j hj;unfold zL at hr;rw[fA h1,fA h2]at hr;rw[oDF (show ¬n<0 by omega),dM];simp only[oNT,oCF,oBS,show dJ ss j=some z from h2];rw[dP (x:=z-(v-b)) (by omega) (by omega)]
  (with_reducible refine dE (λZZ=>?_) λZZ=>?_)
  ·exact Ok.ret ⟨_,_,rfl,λh=>by omega⟩
  ·exact Ok.ret ⟨_,_,rfl,λ_=>⟨Z9,dT (by omega) (by omega),j,b,z,h1,h2,h3,by omega,h4⟩⟩
structure KZ (call:Int)(m:Int)(bs ss:List Int)(rs:List DCe):Prop where
 fit:∀(j:Nat) k c,(kB call)[j]?=some k->rs[j]?=some c->Mm k c.1=true
 buf:0<rF call->∃p q,rs[1]?=some p/\rs[2]?=some q/\q.2<=16/\p.1=1/\∃(j:Nat)(b z:Int),bs[j]?=some b/\ss[j]?=some z/\b<=p.2/\p.2+q.2<=b+z
 code:call=10\/call=12->∃c,rs[0]?=some c/\c.2<m
theorem FE{call m:Int}{bs ss:List Int}{rs:List DCe}(h:KZ call m bs ss rs):Ok (some ((0:Int),())) λr=>∃e,r=(e,())/\0<=e/\e<=6/\(e=0->KZ call m bs ss rs):=Ok.ret ⟨0,rfl,by decide,by decide,λ_=>h⟩
theorem yC{call m:Int}{bs ss:List Int}{rs:List DCe}:Ok (some ((6:Int),())) λr=>∃e,r=(e,())/\0<=e/\e<=6/\(e=0->KZ call m bs ss rs):=Ok.ret ⟨6,rfl,by decide,by decide,λh=>absurd h (by decide)⟩
theorem Im{n key:Int}{code:List DIn}{ss bs:List Int}{d:List (List Int)}{cs:List DCe}{ls:List DLn}{ts:List DTh}{i:Nat}{t:DTh}{x:DIn}(h:MOk n ss bs cs ls ts)(ht:ts[i]?=some t)(hp1:1<=t.2.2.1)
 (hx:code[(t.2.2.1-1).toNat]?=some x)(hc:0<=x.2.2.2.2/\x.2.2.2.2<=15):Ok (md code ss d bs key cs ls ts (i:Int)) λr=>∃e,r=(e,())/\0<=e/\e<=6/\(e=0->KZ x.2.2.2.2 code.length bs ss t.2.1):=by
 have hok:=h.thr t (dR ht);obtain⟨_,hl,hr,⟨p0,p1⟩,_⟩:=id hok;obtain⟨o,A,B,C,call⟩:=x;dsimp only at hc⊢;obtain⟨b,eb,hb1,ZY⟩:=AS hc;have hk3:=J7 call;obtain⟨st,rs,pc,rest⟩:=t;dsimp only at *;obtain⟨j,hj⟩:∃j:Nat,pc-1=j:=⟨(pc-1).toNat,by omega⟩;rw[hj,oTN]at hx;unfold md;rw[dM];simp only[oBS,show dJ ts i=some (st,rs,pc,rest)from ht];rw[dP (x:=pc-1) (by omega) (by omega),hj,dM];simp only[oBS,show dJ code j=some (o,A,B,C,call)from hx,eb,hb1];obtain⟨c0,hc0⟩:∃c,rs[0]?=some c:=⟨_,oGE (by omega)⟩;obtain⟨c1,ZO⟩:∃c,rs[1]?=some c:=⟨_,oGE (by omega)⟩;obtain⟨c2,ZK⟩:∃c,rs[2]?=some c:=⟨_,oGE (by omega)⟩;have v0:=hr c0 (dR hc0);have v1:=hr c1 (dR ZO);have v2:=hr c2 (dR ZK);have g0:dJ rs 0=some c0:=hc0;have g1:dJ rs 1=some c1:=ZO;have g2:dJ rs 2=some c2:=ZK
 obtain⟨y,e,hy⟩:=g7 (f:=lQ) (n:=NN) (s:=(call,b,((kB call).length:Int),0,code,ss,d,bs,key,cs,ls,ts,st,rs,pc,rest.1,rest.2.1,rest.2.2.1,rest.2.2.2.1,rest.2.2.2.2,()))
  (P:=λs'=>∃q:Nat,s'=(call,b,((kB call).length:Int),(q:Int),code,ss,d,bs,key,cs,ls,ts,st,rs,pc,rest.1,rest.2.1,rest.2.2.1,rest.2.2.2.1,rest.2.2.2.2,())/\q<=(kB call).length/\∀(j:Nat) k c,j<q->(kB call)[j]?=some k->rs[j]?=some c->Mm k c.1=true)
  (R:=λr=>r=.inl (6,())\/(∃q,r=.inr (call,b,((kB call).length:Int),q,false,code,ss,d,bs,key,cs,ls,ts,st,rs,pc,rest.1,rest.2.1,rest.2.2.1,rest.2.2.2.1,rest.2.2.2.2,())/\∀(j:Nat) k c,(kB call)[j]?=some k->rs[j]?=some c->Mm k c.1=true))
  (m:=λs'=>(s'.2.2.1-s'.2.2.2.1).toNat) ⟨0,rfl,by omega,λj k c hj=>by omega⟩ (by unfold NN;dsimp only;omega) (by
   rintro _ ⟨q,rfl,hq,ZX⟩;unfold lQ;dsimp only
   (with_reducible refine dE (λZ9=>?_) λZ9=>?_)
   ·rw[dM];obtain⟨k,hk⟩:∃k,(kB call)[q]?=some k:=⟨_,oGE (by omega)⟩;obtain⟨c,QZ⟩:∃c,rs[q]?=some c:=⟨_,oGE (by omega)⟩;simp only[oBS,ZY q,hk,show dJ rs q=some c from QZ,Kt]
    (with_reducible refine dE (λZZ=>?_) λZZ=>?_)
    ·exact Ok.ret (.inl rfl)
    ·rw[dP (x:=(q:Int)+1) (by omega) (by omega)];refine Ok.ret ⟨⟨q+1,rfl,by omega,λj' k' c' ZT h1 h2=>?_⟩,by dsimp only;omega⟩;by_cases hjq:j'=q
     ·subst hjq;rw[hk]at h1;rw[QZ]at h2;cases h1;cases h2;exact ZZ
     ·exact ZX j' k' c' (by omega) h1 h2
   ·refine Ok.ret (.inr ⟨_,rfl,λj k c h1 h2=>ZX j k c ?_ h1 h2⟩);have:=(oGS h1).1
    omega)
 rw[e];rcases hy with rfl|⟨q,rfl,ZX⟩
 ·exact yC
 dsimp only;rw[ur hc];delta dO;simp only[oBS,g0,g1,g2];rw[dT (x:=c2.2) (by have:=v2.2.2.1;omega) (by have:=v2.2.2.2.1;omega),dT (x:=c0.2) (by have:=v0.2.2.1;omega) (by have:=v0.2.2.2.1;omega)]
 have ZV:(0<rF call->∃p q,rs[1]?=some p/\rs[2]?=some q/\q.2<=16/\p.1=1/\∃(j:Nat)(b z:Int),bs[j]?=some b/\ss[j]?=some z/\b<=p.2/\p.2+q.2<=b+z)->Ok ((bif(call==10)then(some ((decide (c0.2>=(code.length:Int))),()))else
  bif(call==12)then(some ((decide (c0.2>=(code.length:Int))),()))else some (false,()):Option (Bool×Unit)).bind λ(x35,_)=>bif x35 then(some ((6:Int),()))else some (0,()))
  λr=>∃e,r=(e,())/\0<=e/\e<=6/\(e=0->KZ call code.length bs ss rs):=by
  intro hbuf;by_cases q10:call=10
  ·simp only[beq_iff_eq.2 q10,oCT,oBS]
   (with_reducible refine dE (λZZ=>?_) λZZ=>?_)
   ·exact yC
   ·exact FE ⟨ZX,hbuf,λ_=>⟨c0,hc0,by omega⟩⟩
  ·by_cases q12:call=12
   ·simp only[oBF q10,beq_iff_eq.2 q12,oCT,oCF,oBS]
    (with_reducible refine dE (λZZ=>?_) λZZ=>?_)
    ·exact yC
    ·exact FE ⟨ZX,hbuf,λ_=>⟨c0,hc0,by omega⟩⟩
   ·simp only[oBF q10,oBF q12,oCF,oBS];exact FE ⟨ZX,hbuf,λh=>by omega⟩
 (with_reducible refine dE (λZ9=>?_) λZ9=>?_)
 ·refine(IB (t:=c1.1) (v:=c1.2) (n:=c2.2) h.lay ⟨v1.2.2.1,v1.2.2.2.1⟩ ⟨v2.2.2.1,v2.2.2.2.1⟩).bind ?_;rintro _ ⟨a,e,rfl,he⟩;dsimp only
  (with_reducible refine dE (λZZ=>?_) λZZ=>?_)
  ·exact yC
  obtain⟨w1,_,j,b',z,w2,w3,w4,w5,w6⟩:=he ZZ
  (with_reducible refine dE (λhcc=>?_) λhcc=>?_)
  ·exact yC
  exact ZV λ_=>⟨c1,c2,ZO,ZK,by omega,w1,j,b',z,w2,w3,w4,w5⟩
 ·exact ZV λh=>by omega
structure wO (n:Int)(ss:List Int)(i stop trap count pc call:Int)(args data:List DCn):Prop where
 hthr:0<=i/\i<4
 hstop:0<=stop/\stop<=3
 htrap:0<=trap/\trap<=6
 hcnt:0<=count/\count<=n
 hpc:0<=pc/\pc<=255
 hcall:0<=call/\call<=15
 hargs:args.length<=3/\∀c∈args,Pr ss c
 hdata:data.length<=16/\∀c∈data,Pr ss c
 hkind:stop=1->args.length=(kB call).length/\∀(j:Nat) k a,(kB call)[j]?=some k->args[j]?=some a->Mm k a.1=true
 hbuf:stop=1->rF call=2->∃a,args[2]?=some a/\a.2.1<=16
def Qu(stop trap:Int)(t':DTh):Prop:=(stop=0/\t'.1=1)\/(stop=1/\t'.1=2)\/(stop=2/\t'.1=4/\t'.2.2.2.2.2.2.1=trap)\/(stop=3/\t'.1≠1)
def GS(n key:Int)(ss bs:List Int)(ts:List DTh)(i:Nat)(r:(List (Int))×Int×(List DCe)×(List DLn)×(List DTh)×Int×Int×Int×Int×Int×Int×(List DCn)×(List DCn)×Int×Unit):Prop:=
 ∃Z3 Z1 t' stop trap call args data,r=(bs,key,Z3,Z1,ts.set i t',(i:Int),stop,trap,t'.2.2.2.1,t'.2.2.1,call,args,data,0,())/\lf (RK bs ss) Z3 Z1/\yO (RK bs ss) n t' /\
  wO n ss i stop trap t'.2.2.2.1 t'.2.2.1 call args data/\Qu stop trap t'/\(stop=3->ts[i]?=some t')
theorem wT{n:Int}{ss bs:List Int}{i:Nat}{t':DTh}{stop trap:Int}(hi:i<4)(ht:yO (RK bs ss) n t')(hs:0<=stop/\stop<=3)(hs1:stop≠1)(htr:0<=trap/\trap<=6):wO n ss i stop trap t'.2.2.2.1 t'.2.2.1 0 [] []:=
 ⟨⟨by omega,by omega⟩,hs,htr,ht.count,ht.pc,by decide,⟨by decide,eq⟩,⟨by decide,eq⟩,λh=>absurd h hs1,λh=>absurd h hs1⟩
theorem tC{α β:Type}(f:α->β){l:List α}{k:Nat}{x:α}(h:l[k]?=some x):(l.take k).map f++[f x]=(l.take (k+1)).map f:=by
 rw[List.take_add_one,h];simp
theorem yV{β:Type}(f:Nat->β)(k:Nat):(List.range k).map f++[f k]=(List.range (k+1)).map f:=by
 rw[List.range_succ];simp
set_option maxHeartbeats 4000000 in
theorem xo{n key k:Int}{code:List DIn}{ss bs:List Int}{d:List (List Int)}{cs:List DCe}{ls:List DLn}{ts:List DTh}{i:Nat}(hp:ne code ss d)(h:MOk n ss bs cs ls ts)(Yu:0<=n)(hn:n+64<=1099511627776)(hi:i<4)(hk:1<=k/\k<=64):
 Ok (lH code ss d bs key cs ls ts (i:Int) k) (GS (n+64) key ss bs ts i):=by
 have Xp:=h.tlen
 have YP:i<ts.length:=by omega
 unfold lH;refine(Lb hp h Yu hn hi hk).bind ?_;rintro _ ⟨s,Z3,Z1,t',rfl,hm,ZJ,hs⟩;have hM:MOk (n+64) ss bs Z3 Z1 (ts.set i t'):=(h.mono (show n<=n+64 by omega)).set hm ZJ;have Ub:(ts.set i t')[i]?=some t':=iJ YP t';dsimp only;simp only[bne_self_eq_false,oCF,dM,oBS,iJ YP]
 rcases hs with⟨rfl,hs1,Y8⟩|⟨rfl,hs1⟩|⟨rfl,hs1⟩|⟨rfl,hs1,x,Y8,Ss,WJ⟩
 ·exact Ok.ret ⟨_,_,_,_,_,_,_,_,rfl,hm,ZJ,wT hi ZJ (by decide) (by decide) (by decide),.inr (.inr (.inr ⟨rfl,Y8⟩)),λ_=>hs1⟩
 ·exact Ok.ret ⟨_,_,_,_,_,_,_,_,rfl,hm,ZJ,wT hi ZJ (by decide) (by decide) (by decide),.inl ⟨rfl,hs1⟩,λh=>absurd h (by decide)⟩
 ·exact Ok.ret ⟨_,_,_,_,_,_,_,_,rfl,hm,ZJ,wT hi ZJ (by decide) (by decide) ZJ.trap,.inr (.inr (.inl ⟨rfl,hs1,rfl⟩)),λh=>absurd h (by decide)⟩
 ·have Yk:=hp.ins x (dR Ss);have hcall:0<=x.2.2.2.2/\x.2.2.2.2<=15:=⟨Yk.imm.1,Yk.sys WJ⟩;obtain⟨_,ec,e,rfl,Vz,VA,SU⟩:=Im (key:=key) (d:=d) hM Ub Y8 Ss hcall;obtain⟨o,A,B,C,call⟩:=x;dsimp only at hcall SU;have hk3:=J7 call;have hl8:=ZJ.len;obtain⟨j,hj⟩:∃j:Nat,t'.2.2.1-1=j:=⟨(t'.2.2.1-1).toNat,by omega⟩;have hpc:=ZJ.pc;rw[hj,oTN]at Ss;rw[dP (x:=t'.2.2.1-1) (by omega) (by omega),hj];simp only[Int.reduceBEq,oCT,oCF,ec,oBS,dM,show dJ code j=some (o,A,B,C,call)from Ss,wu hcall];by_cases hne:e=0
  ·subst hne;obtain⟨ZX,hbuf,_⟩:=SU rfl
   have e1:dX iB NN (((kB call).length:Int),0,code,ss,d,(),0,(),(),(),0,0,0,0,0,0,(),(),bs,key,Z3,Z1,ts.set i t',t'.1,t'.2.1,t'.2.2.1,t'.2.2.2.1,t'.2.2.2.2.1,t'.2.2.2.2.2.1,t'.2.2.2.2.2.2.1,t'.2.2.2.2.2.2.2,(i:Int),1,0,t'.2.2.2.1,t'.2.2.1,call,[],(),())=
    some (((kB call).length:Int),((kB call).length:Int),false,code,ss,d,(),0,(),(),(),0,0,0,0,0,0,(),(),bs,key,Z3,Z1,ts.set i t',t'.1,t'.2.1,t'.2.2.1,t'.2.2.2.1,t'.2.2.2.2.1,t'.2.2.2.2.2.1,t'.2.2.2.2.2.2.1,t'.2.2.2.2.2.2.2,(i:Int),1,0,t'.2.2.2.1,t'.2.2.1,call,(t'.2.1.take (kB call).length).map (vM bs ss key),(),()):=by
    refine tu (f:=iB) (N:=NN) (st:=λq=>(((kB call).length:Int),(q:Int),code,ss,d,(),0,(),(),(),0,0,0,0,0,0,(),(),bs,key,Z3,Z1,ts.set i t',t'.1,t'.2.1,t'.2.2.1,t'.2.2.2.1,t'.2.2.2.2.1,t'.2.2.2.2.2.1,t'.2.2.2.2.2.2.1,t'.2.2.2.2.2.2.2,(i:Int),1,0,t'.2.2.2.1,t'.2.2.1,call,(t'.2.1.take q).map (vM bs ss key),(),())) (n:=(kB call).length) (by unfold NN;omega) ?_ ?_
    ·intro q hq;unfold iB;dsimp only;rw[oDT (show(q:Int)<(kB call).length by omega),dM];simp only[oCT,oBS];refine Ok.get (by omega) λc hc=>?_;rw[At h.lay (ZJ.regs c (dR hc))];simp only[oBS];refine dG (dW (by simp;omega)) ?_;rw[dP (x:=(q:Int)+1) (by omega) (by omega)];refine Ok.ret ?_;rw[<- tC (vM bs ss key) hc];rfl
    ·unfold iB;dsimp only;rw[oDF (show ¬((kB call).length:Int)<(kB call).length by omega)];exact Ok.ret rfl
   have hargs:((t'.2.1.take (kB call).length).map (vM bs ss key)).length=(kB call).length:=by rw[List.length_map,oLT];omega
   have S5:∀(j:Nat) a,((t'.2.1.take (kB call).length).map (vM bs ss key))[j]?=some a->∃c,t'.2.1[j]?=some c/\a=vM bs ss key c:=by
    intro j a ha;rw[List.getElem?_map]at ha
    cases hc:(t'.2.1.take (kB call).length)[j]? with
    |none=>rw[hc]at ha;cases ha
    |some c=>
     rw[hc]at ha
     injection ha with ha
     refine⟨c,?_,ha.symm⟩;rw[List.getElem?_take]at hc;split at hc
     ·exact hc
     ·cases hc
   have Vu:∀c∈(t'.2.1.take (kB call).length).map (vM bs ss key),Pr ss c:=by
    intro c hc;obtain⟨c',XC,rfl⟩:=List.mem_map.1 hc;exact KJ h.lay (ZJ.regs c' (List.mem_of_mem_take XC))
   have UL:∀(j:Nat) k a,(kB call)[j]?=some k->((t'.2.1.take (kB call).length).map (vM bs ss key))[j]?=some a->Mm k a.1=true:=by
    intro j k a hk ha;obtain⟨c,hc,rfl⟩:=S5 j a ha;rw[(GK (ZJ.regs c (dR hc))).1];exact ZX j k c hk hc
   have SJ:rF call=2->∃a,((t'.2.1.take (kB call).length).map (vM bs ss key))[2]?=some a/\a.2.1<=16:=by
    intro hb;obtain⟨p,q,hp1,YD,Ts,_⟩:=hbuf (by omega)
    have hkk:(kB call)[2]?=some 78:=by
     have:call=2\/call=14:=by unfold rF at hb;split at hb<;>first|omega|(split at hb<;>omega)
     rcases this with rfl|rfl<;>rfl
    have hf:=ZX 2 78 q hkk YD;have hl3:=(oGS hkk).1;refine⟨vM bs ss key q,?_,?_⟩
    ·rw[List.getElem?_map,List.getElem?_take,oIP hl3,YD];rfl
    ·have hq:=(GK (bs:=bs) (ss:=ss) (key:=key) (ZJ.regs q (dR YD))).2 (by unfold Mm at hf;simpa using hf);rw[hq];exact Ts
   simp only[e1,bne_self_eq_false,oCF,oBS,ur hcall]
   have ZV:∀data:List DCn,data.length<=16->(∀c∈data,Pr ss c)->Ok (some (bs,key,Z3,Z1,ts.set i t',(i:Int),(1:Int),(0:Int),t'.2.2.2.1,t'.2.2.1,call,(t'.2.1.take (kB call).length).map (vM bs ss key),data,(0:Int),())) (GS (n+64) key ss bs ts i):=
    λdata h1 h2=>Ok.ret ⟨_,_,_,_,_,_,_,_,rfl,hm,ZJ,⟨⟨by omega,by omega⟩,by decide,by decide,ZJ.count,ZJ.pc,hcall,⟨by omega,Vu⟩,⟨h1,h2⟩,λ_=>⟨hargs,UL⟩,λ_=>SJ⟩,.inr (.inl ⟨rfl,hs1⟩),λh=>absurd h (by decide)⟩
   by_cases hb1:rF call=1
   ·obtain⟨p,q,hp1,YD,Ts,_,jr,b,z,SK,QV,hbz3,hbz4⟩:=hbuf (by omega);have hp':=ZJ.regs p (dR hp1);have Uh:=ZJ.regs q (dR YD);have hjr:=(oGS SK).1;have Tt:=h.lay.2.2 jr hjr;unfold zL at Tt;rw[fA SK,fA QV]at Tt;obtain⟨m,hqm⟩:∃m:Nat,q.2=m:=⟨q.2.toNat,by have:=Uh.2.2.1;omega⟩
    have e2:dX iA NN ((m:Int),0,code,ss,d,(),0,(),(),(),0,0,0,0,0,0,(),(),bs,key,Z3,Z1,ts.set i t',t'.1,t'.2.1,t'.2.2.1,t'.2.2.2.1,t'.2.2.2.2.1,t'.2.2.2.2.2.1,t'.2.2.2.2.2.2.1,t'.2.2.2.2.2.2.2,(i:Int),1,0,t'.2.2.2.1,t'.2.2.1,call,(t'.2.1.take (kB call).length).map (vM bs ss key),[],())=
     some ((m:Int),(m:Int),false,code,ss,d,(),0,(),(),(),0,0,0,0,0,0,(),(),bs,key,Z3,Z1,ts.set i t',t'.1,t'.2.1,t'.2.2.1,t'.2.2.2.1,t'.2.2.2.2.1,t'.2.2.2.2.2.1,t'.2.2.2.2.2.2.1,t'.2.2.2.2.2.2.2,(i:Int),1,0,t'.2.2.2.1,t'.2.2.1,call,(t'.2.1.take (kB call).length).map (vM bs ss key),(List.range m).map (λj:Nat=>vM bs ss key (HO Z3 Z1 (p.2+(j:Int)))),()):=by
     refine tu (f:=iA) (N:=NN) (st:=λq=>((m:Int),(q:Int),code,ss,d,(),0,(),(),(),0,0,0,0,0,0,(),(),bs,key,Z3,Z1,ts.set i t',t'.1,t'.2.1,t'.2.2.1,t'.2.2.2.1,t'.2.2.2.2.1,t'.2.2.2.2.2.1,t'.2.2.2.2.2.2.1,t'.2.2.2.2.2.2.2,(i:Int),1,0,t'.2.2.2.1,t'.2.2.1,call,(t'.2.1.take (kB call).length).map (vM bs ss key),(List.range q).map (λj:Nat=>vM bs ss key (HO Z3 Z1 (p.2+(j:Int)))),())) (n:=m) (by unfold NN;omega) ?_ ?_
     ·intro v hv;unfold iA;dsimp only;have Sn:=hp'.2.2.1;have hp01:=hp'.2.2.2.1;rw[oDT (show(v:Int)<m by omega)];simp only[oCT,oBS,show dJ t'.2.1 1=some p from hp1];rw[dT (x:=p.2) (by omega) (by omega),dP (x:=p.2+v) (by omega) (by omega)];obtain⟨Sf,Sg⟩:=JX (a:=p.2+v) hm ⟨by omega,by omega⟩;rw[Sf];simp only[oBS];rw[At h.lay Sg];simp only[oBS];refine dG (dW (by simp;omega)) ?_;rw[dP (x:=(v:Int)+1) (by omega) (by omega)];refine Ok.ret ?_;rw[<- yV];rfl
     ·unfold iA;dsimp only;rw[oDF (show ¬(m:Int)<m by omega)];exact Ok.ret rfl
    simp only[hb1,BEq.rfl,oCT,show dJ t'.2.1 2=some q from YD,oBS];rw[dT (x:=q.2) (by omega) (by omega),hqm,e2];simp only[oBS];refine ZV _ (by rw[List.length_map,List.length_range];omega) ?_;intro c hc;obtain⟨v,hv,rfl⟩:=List.mem_map.1 hc;have hv:=List.mem_range.1 hv;have Sn:=hp'.2.2.1;exact KJ h.lay (JX (a:=p.2+v) hm ⟨by omega,by omega⟩).2
   ·simp only[oBF hb1,oCF];exact ZV [] (by decide) eq
  ·unfold mQ lk;simp only[bne_iff_ne.2 hne,oCT];rw[dW (show 4<=1000/\0+t'.2.1.length<=1000000 by omega)];simp only[oCT,oBS,dM,iJ YP,oe YP];exact Ok.ret ⟨_,_,_,_,_,_,_,_,rfl,hm,ZJ.ended ⟨Vz,VA⟩,wT hi (ZJ.ended ⟨Vz,VA⟩) (by decide) (by decide) ⟨Vz,VA⟩,.inr (.inr (.inl ⟨rfl,rfl,rfl⟩)),λh=>absurd h (by decide)⟩
theorem EM{a b:Int}:mmR false a b<=a/\mmR false a b<=b/\(mmR false a b=a\/mmR false a b=b):=by
 unfold mmR;simp;omega
theorem ru{α:Type}{l:List α}{i j:Nat}(h:i≠j)(a:α):(l.set i a)[j]?=l[j]?:=by
 simp_all
theorem OK.setFile{d:List (List DCn)}{o:DOp}{f:Nat}{x y:List DCn}(h:OK d o)(hf:d[f]?=some x)(WM:x.length<=y.length):OK (d.set f y) o:=by
 rcases h with h|⟨h1,z,h2,h3,h4⟩
 ·exact .inl h
 ·refine .inr ⟨h1,?_⟩;by_cases e:f=o.1.toNat
  ·subst e;rw[hf]at h2;cases h2;exact⟨y,iJ (oGS hf).1 y,h3,by omega⟩
  ·simp_all
theorem fE.setFile{ss:List Int}{d:List (List DCn)}{os:List DOp}{f:Nat}{x y:List DCn}(h:fE ss d os)(hf:d[f]?=some x)(h64:y.length<=64)(hc:∀c∈y,Pr ss c)(WM:x.length<=y.length):fE ss (d.set f y) os:=
 ⟨by rw[List.length_set];exact h.dlen,lT h.flen h64,lT h.cells hc,h.olen,λo ho=>(h.opens o ho).setFile hf WM⟩
theorem fE.setOpen{ss:List Int}{d:List (List DCn)}{os:List DOp}{i:Nat}{o:DOp}(h:fE ss d os)(ho:OK d o):fE ss d (os.set i o):=
 ⟨h.dlen,h.flen,h.cells,by rw[List.length_set];exact h.olen,lT h.opens ho⟩
theorem AM{ss:List Int}{d:List (List DCn)}{os:List DOp}{h:Int}(hF:fE ss d os):∃b,gN d os h=some (b,())/\(b=true->∃(j f:Nat)(o:DOp)(x:List DCn),h=j/\j<8/\os[j]?=some o/\o.1=f/\d[f]?=some x/\0<=o.2.1/\o.2.1<=x.length):=by
 have:Ok (gN d os h) λr=>∃b,r=(b,())/\(b=true->∃(j f:Nat)(o:DOp)(x:List DCn),h=j/\j<8/\os[j]?=some o/\o.1=f/\d[f]?=some x/\0<=o.2.1/\o.2.1<=x.length):=by
  unfold gN;delta dO
  (with_reducible refine dE (λZ9=>?_) λZ9=>?_)
  ·(with_reducible refine dE (λZZ=>?_) λZZ=>?_)
   ·refine Ok.nat (by omega) λj hj=>?_;have h8:=hF.olen;refine Ok.get (by omega) λo ho=>?_;refine Ok.ret ⟨_,rfl,λhb=>?_⟩
    rcases hF.opens o (dR ho)with⟨h1,_⟩|⟨h1,x,h2,h3,h4⟩
    ·simp_all
    ·exact⟨j,o.1.toNat,o,x,hj,by omega,ho,by omega,h2,h3,h4⟩
   ·exact Ok.ret ⟨_,rfl,λh=>by cases h⟩
  ·exact Ok.ret ⟨_,rfl,λh=>by cases h⟩
 obtain⟨_,e,b,rfl,hb⟩:=this;exact⟨b,e,hb⟩
theorem tW{ss:List Int}{d:List (List DCn)}{os:List DOp}(h:fE ss d os):gh d os=some (d,os,()):=
 copy17_ok (by have:=h.dlen;omega) (λx hx=>by have:=h.flen x hx;omega) (by have:=h.olen;omega)
theorem GX{ss:List Int}{d:List (List DCn)}{os:List DOp}{h:Int}{l:List DCn}(hs:zK ss)(hF:fE ss d os)(hl:l.length<=16)(VG:∀c∈l,Pr ss c):
 Ok (ma d os h l) λr=>∃d' Zb n b,r=(d',Zb,n,b,())/\fE ss d' Zb/\0<=n/\n<=16:=by
 obtain⟨b,eo,hb⟩:=AM (h:=h) hF;unfold ma;rw[tW hF];simp only[oBS,eo]
 cases b with
 |false=>
  simp only[Bool.not_false,oCT,oBS];exact Ok.ret ⟨_,_,_,_,rfl,hF,by decide,by decide⟩
 |true=>
  obtain⟨j,f,o,x,rfl,hj,ho,hof,hx,o0,o1⟩:=hb rfl;have hg:dJ os j=some o:=ho;have Wf:dJ d f=some x:=hx;have hjl:=(oGS ho).1;have Zp:=(oGS hx).1;have UV:=hF.flen x (dR hx);simp only[oNT,oCF,dM,oBS,hg]
  cases hw:o.2.2 with
  |false=>
   simp only[Bool.not_false,oCT,oBS];exact Ok.ret ⟨_,_,_,_,rfl,hF,by decide,by decide⟩
  |true=>
   delta dO;simp only[oNT,oCF,oBS,mH (n:=(l.length:Int)) hs VG (by omega) (by omega),dM,hg,hof,Wf];rw[dP (x:=64-o.2.1) (by omega) (by omega)];obtain⟨m1,m2,m3⟩:=EM (a:=(l.length:Int)) (b:=64-o.2.1);generalize mmR false (l.length:Int) (64-o.2.1)=k at m1 m2 m3
   refine Ok.loop (P:=λs'=>∃(i:Nat)(y:List DCn),s'=(l,j,k,k,(i:Int),(),(),d,f,os,y,())/\(i:Int)<=k/\(∀c∈y,Pr ss c)/\x.length<=y.length/\o.2.1+i<=y.length/\y.length<=64)
    (R:=λr=>∃y:List DCn,r=(l,j,k,k,k,false,(),(),d,f,os,y,())/\(∀c∈y,Pr ss c)/\x.length<=y.length/\o.2.1+k<=y.length/\y.length<=64) (m:=λs'=>(k-s'.2.2.2.2.1).toNat) ⟨0,x,rfl,by omega,hF.cells x (dR hx),by omega,by omega,UV⟩ (by unfold NN;dsimp only;omega) ?_ ?_
   ·rintro _ ⟨i,y,rfl,hi,hy,WM,hoy,UW⟩;unfold pL;dsimp only
    (with_reducible refine dE (λZ9=>?_) λZ9=>?_)
    ·delta dO;simp only[hg,oBS,dM];rw[dP (x:=o.2.1+i) (by omega) (by omega)];obtain⟨c,hc⟩:∃c,l[i]?=some c:=⟨_,oGE (by omega)⟩;have ZD:dJ l i=some c:=hc;have T8:=VG c (dR hc);simp only[ZD,oBS];refine Ok.bind (P:=λr=>∃y':List DCn,r=(l,j,k,k,(i:Int),(),(),d,f,os,y',())/\(∀c∈y',Pr ss c)/\x.length<=y'.length/\o.2.1+i+1<=y'.length/\y'.length<=64) ?_ ?_
     ·(with_reducible refine dE (λZZ=>?_) λZZ=>?_)
      ·refine Ok.nat (by omega) λq hq=>?_;refine Ok.get (by omega) λ_ hz=>?_;refine Ok.get (by omega) λ_ _=>?_;rw[eX hz];exact Ok.ret ⟨_,rfl,lT hy T8,by rw[List.length_set];omega,by rw[List.length_set];omega,by rw[List.length_set];omega⟩
      ·refine dG (dW (by simp;omega)) ?_;exact Ok.ret ⟨_,rfl,iK hy (all_cons T8 eq),by rw[fe];omega,by rw[fe,List.length_singleton];omega,by rw[fe,List.length_singleton];omega⟩
     ·rintro _ ⟨y',rfl,g1,g2,g3,g4⟩;dsimp only;rw[dP (x:=(i:Int)+1) (by omega) (by omega)];exact Ok.ret ⟨⟨i+1,y',rfl,by omega,g1,g2,by omega,g4⟩,by dsimp only;omega⟩
    ·obtain rfl:(i:Int)=k:=by omega
     exact Ok.ret ⟨y,rfl,hy,WM,hoy,UW⟩
   ·rintro _ ⟨y,rfl,hy,WM,hoy,UW⟩;dsimp only;simp only[hg,oBS,hof,dM,Wf];refine dG (by simp) ?_;rw[dP (x:=o.2.1+k) (by omega) (by omega),eX hx,eX ho];refine Ok.ret ⟨_,_,_,_,rfl,(hF.setFile hx UW hy WM).setOpen (.inr ⟨by dsimp only;omega,y,?_,by dsimp only;omega,by dsimp only;omega⟩),by omega,by omega⟩;dsimp only;rw[hof,oTN];exact iJ Zp y
theorem Jy{ss:List Int}{d:List (List DCn)}{os:List DOp}{h n:Int}(hF:fE ss d os)(hn:0<=n/\n<=65535):
 Ok (nv d os h n) λr=>(∃d' Zb,r=.inl (d',Zb,(),false,())/\fE ss d' Zb)\/(∃d' Zb l,r=.inr (d',Zb,l,true,())/\fE ss d' Zb/\(l.length:Int)<=n/\l.length<=64/\∀c∈l,Pr ss c):=by
 obtain⟨b,eo,hb⟩:=AM (h:=h) hF;unfold nv;rw[tW hF];simp only[oBS,eo]
 cases b with
 |false=>
  exact Ok.ret (.inl ⟨_,_,rfl,hF⟩)
 |true=>
  obtain⟨j,f,o,x,rfl,hj,ho,hof,hx,o0,o1⟩:=hb rfl;have hg:dJ os j=some o:=ho;have Wf:dJ d f=some x:=hx;have UV:=hF.flen x (dR hx);rw[oDF (show ¬n<0 by omega)];simp only[oNT,oCF,dM,oBS,hg]
  cases hw:o.2.2 with
  |true=>exact Ok.ret (.inl ⟨_,_,rfl,hF⟩)
  |false=>
   delta dO;simp only[oCF,dM,oBS,hg,hof,Wf];rw[dP (x:=(x.length:Int)-o.2.1) (by omega) (by omega)];obtain⟨m1,m2,m3⟩:=EM (a:=n) (b:=(x.length:Int)-o.2.1);generalize mmR false n ((x.length:Int)-o.2.1)=k at m1 m2 m3;rw[dP (x:=o.2.1+k) (by omega) (by omega)];refine Ok.nat o0 λp hp=>?_;refine Ok.nat (by omega) λq hq=>?_;refine dG (by unfold gi;simp;omega) ?_
   have hw2:(lO x p (Nat.sub q p)).length=q-p:=by
    unfold lO;rw[oLT,List.length_drop];show min (q-p) _=q-p;omega
   refine dG (dW (by omega)) ?_;rw[eX ho];refine Ok.ret (.inr ⟨_,_,_,rfl,hF.setOpen (.inr ⟨by dsimp only;omega,x,by dsimp only;rw[hof,oTN];exact hx,by dsimp only;omega,by dsimp only;omega⟩),?_,?_,?_⟩)
   ·rw[fe,hw2];simp;omega
   ·rw[fe,hw2];simp;omega
   ·refine iK eq λc hc=>hF.cells x (dR hx) c ?_;unfold lO at hc;exact List.mem_of_mem_drop (List.mem_of_mem_take hc)
theorem Ii{ss:List Int}{d:List (List DCn)}{os:List DOp}{h:Int}(hF:fE ss d os):Ok (mb d os h) λr=>∃d' Zb b,r=(d',Zb,b,())/\fE ss d' Zb:=by
 have ⟨b,eo,hb⟩:=AM (h:=h) hF;unfold mb;rw[tW hF];simp only[eo]
 cases b with
 |false=>exact Ok.ret ⟨_,_,_,rfl,hF⟩
 |true=>
  obtain⟨j,f,o,x,rfl,hj,ho,hof,hx,o0,o1⟩:=hb rfl;have hg:dJ os j=some o:=ho;simp only[dM,oBS,hg];rw[eX ho];exact Ok.ret ⟨_,_,_,rfl,hF.setOpen (.inl ⟨rfl,rfl,rfl⟩)⟩
theorem Jk{ss:List Int}{d:List (List DCn)}{os:List DOp}{h n:Int}(hF:fE ss d os):Ok (nu d os h n) λr=>∃d' Zb b,r=(d',Zb,b,())/\fE ss d' Zb:=by
 obtain⟨b,eo,hb⟩:=AM (h:=h) hF;unfold nu;rw[tW hF];simp only[eo]
 cases b with
 |false=>
  exact Ok.ret ⟨_,_,_,rfl,hF⟩
 |true=>
  obtain⟨j,f,o,x,rfl,hj,ho,hof,hx,o0,o1⟩:=hb rfl;have hg:dJ os j=some o:=ho;have Wf:dJ d f=some x:=hx;delta dO;simp only[oNT,oCF,dM,oBS,hg,hof,Wf];by_cases hn:n<0
  ·simp only[oDT hn,oCT,oBS];exact Ok.ret ⟨_,_,_,rfl,hF⟩
  ·simp only[oDF hn,oCF,oBS]
   (with_reducible refine dE (λZ9=>?_) λZ9=>?_)
   ·exact Ok.ret ⟨_,_,_,rfl,hF⟩
   ·simp only[dM,oBS,hg];rw[eX ho];exact Ok.ret ⟨_,_,_,rfl,hF.setOpen (.inr ⟨by dsimp only;omega,x,by simp_all,by dsimp only;omega,by dsimp only;omega⟩)⟩
theorem LQ{ss:List Int}{d:List (List DCn)}{os:List DOp}{file mode:Int}(hF:fE ss d os):Ok (nw d os file mode) λr=>∃d' Zb h,r=(d',Zb,h,())/\fE ss d' Zb/\-1<=h/\h<=7:=by
 have h8:=hF.olen;have hd4:=hF.dlen;unfold nw;rw[tW hF];simp only[oBS];refine Ok.loop (P:=λs'=>∃i:Nat,s'=(file,mode,(i:Int),d,os,(),(),d,os,())/\i<=8) (R:=λr=>∃i:Nat,r=(file,mode,(i:Int),false,d,os,(),(),d,os,())/\i<=8) (m:=λs'=>(8-s'.2.2.1).toNat) ⟨0,rfl,by omega⟩ (by unfold NN;dsimp only;omega) ?_ ?_
 ·rintro _ ⟨i,rfl,hi⟩;unfold qe;delta dO;simp only[h8,dM,oBS]
  (with_reducible refine dE (λZ9=>?_) λZ9=>?_)
  ·refine Ok.get (by omega) λo ho=>?_
   (with_reducible refine dE (λZZ=>?_) λZZ=>?_)
   ·rw[dP (x:=(i:Int)+1) (by omega) (by omega)];exact Ok.ret ⟨⟨i+1,rfl,by omega⟩,by dsimp only;omega⟩
   ·exact Ok.ret ⟨i,rfl,hi⟩
  ·exact Ok.ret ⟨i,rfl,hi⟩
 rintro _ ⟨i,rfl,hi⟩;delta dO;simp only[h8];have bad:fE ss d os/\(-1:Int)<=-1/\(-1:Int)<=7:=⟨hF,by decide,by decide⟩;refine Ok.bind (P:=λr=>(∃b:Bool,r=(file,mode,(i:Int),b,(),(),d,os,())/\(b=false->0<=file/\file<d.length/\i<8))) ?_ ?_
 ·(with_reducible refine dE (λZ9=>?_) λZ9=>?_)
  ·exact Ok.ret ⟨true,rfl,λh=>by cases h⟩
  (with_reducible refine dE (λZZ=>?_) λZZ=>?_)
  ·exact Ok.ret ⟨true,rfl,λh=>by cases h⟩
  (with_reducible refine dE (λhcc=>?_) λhcc=>?_)
  ·exact Ok.ret ⟨true,rfl,λh=>by cases h⟩
  (with_reducible refine dE (λXg=>?_) λXg=>?_)
  ·exact Ok.ret ⟨true,rfl,λh=>by cases h⟩
  exact Ok.ret ⟨_,rfl,λh=>⟨by omega,by omega,by rw[beq_eq_false_iff_ne]at h;omega⟩⟩
 rintro _ ⟨b,rfl,hb⟩;dsimp only
 cases b with
 |true=>exact Ok.ret ⟨_,_,_,rfl,bad⟩
 |false=>
  obtain⟨f0,f1,hi8⟩:=hb rfl;obtain⟨f,rfl⟩:∃f:Nat,file=f:=⟨file.toNat,by omega⟩;obtain⟨x,hx⟩:∃x,d[f]?=some x:=⟨_,oGE (by omega)⟩;obtain⟨o,ho⟩:∃o,os[i]?=some o:=⟨_,oGE (by omega)⟩;have Wf:dJ d f=some x:=hx;have hg:dJ os i=some o:=ho;have Zp:=(oGS hx).1;have YP:=(oGS ho).1;simp only[oCF,dM,oBS,Wf,hg];by_cases h1:mode=1
  ·subst h1;simp only[BEq.rfl,oCT];rw[eX hx];simp only[h8]
   refine Ok.loop (P:=λs'=>∃(q:Nat)(Zb:List DOp),s'=((f:Int),1,(i:Int),((8:Nat):Int),(q:Int),(),(),d.set f [],Zb,())/\q<=8/\Zb.length=8/\(∀(j:Nat) o,j<q->Zb[j]?=some o->OK (d.set f []) o)/\∀j:Nat,q<=j->Zb[j]?=os[j]?)
    (R:=λr=>∃(z:Int)(Zb:List DOp),r=((f:Int),1,(i:Int),((8:Nat):Int),z,false,(),(),d.set f [],Zb,())/\fE ss (d.set f []) Zb) (m:=λs'=>(8-s'.2.2.2.2.1).toNat) ⟨0,os,rfl,by omega,h8,λj o hj=>by omega,λ_ _=>rfl⟩ (by unfold NN;dsimp only;omega) ?_ ?_
   ·rintro _ ⟨q,Zb,rfl,hq,YL,ha,hr⟩;unfold qd;dsimp only
    (with_reducible refine dE (λZ9=>?_) λZ9=>?_)
    ·obtain⟨o',Zi⟩:∃o',Zb[q]?=some o':=⟨_,oGE (by omega)⟩;have UG:dJ Zb q=some o':=Zi;have hop:=hF.opens o' (dR (by rw[<- hr q (by omega)];exact Zi));simp only[dM,oBS,UG];refine Ok.bind (P:=λr=>∃o2:DOp,OK (d.set f []) o2/\r=((f:Int),1,(i:Int),((8:Nat):Int),(q:Int),(),(),d.set f [],Zb.set q o2,())) ?_ ?_
     ·by_cases hof:o'.1=f
      ·simp only[beq_iff_eq.2 hof,oCT];rw[eX Zi];exact Ok.ret ⟨_,.inr ⟨by dsimp only;omega,[],by dsimp only;rw[hof,oTN];exact iJ Zp [],by dsimp only;omega,by simp⟩,rfl⟩
      ·simp only[oBF hof,oCF];refine Ok.ret ⟨o',?_,by rw[AC Zi]⟩;rcases hop with h|⟨g1,z,g2,g3⟩
       ·exact .inl h
       ·exact .inr ⟨g1,z,by rw[ru (by omega)];exact g2,g3⟩
     ·rintro _ ⟨o2,Rs,rfl⟩;dsimp only;rw[dP (x:=(q:Int)+1) (by omega) (by omega)];refine Ok.ret ⟨⟨q+1,_,rfl,by omega,by rw[List.length_set];exact YL,λj o hj hjo=>?_,λj hj=>?_⟩,by dsimp only;omega⟩
      ·by_cases e:q=j
       ·subst e;rw[show(Zb.set q o2)[q]?=some o2 from iJ (by omega) o2]at hjo;cases hjo;exact Rs
       ·rw[ru e]at hjo;exact ha j o (by omega) hjo
      ·rw[ru (by omega)];exact hr j (by omega)
    ·refine Ok.ret ⟨_,_,rfl,⟨by rw[List.length_set];exact hd4,lT hF.flen (by simp),lT hF.cells eq,YL,λo' Zi=>?_⟩⟩;obtain⟨j,hj⟩:=List.getElem?_of_mem Zi;have:=(oGS hj).1;exact ha j o' (by omega) hj
   ·rintro _ ⟨z,Zb,rfl,R7⟩;have YL:=R7.olen;obtain⟨o',Zi⟩:∃o',Zb[i]?=some o':=⟨_,oGE (by omega)⟩;have UG:dJ Zb i=some o':=Zi;simp only[dM,oBS,UG,show((1:Int)==2)=false from rfl,oCF];rw[eX Zi];exact Ok.ret ⟨_,_,_,rfl,R7.setOpen (.inr ⟨by dsimp only;omega,[],by dsimp only;rw[oTN];exact iJ Zp [],by dsimp only;omega,by simp⟩),by omega,by omega⟩
  ·simp only[oBF h1,oCF];rw[eX ho];by_cases h2:mode=2
   ·subst h2;simp only[BEq.rfl,oCT,oBS,iJ YP,oe YP];exact Ok.ret ⟨_,_,_,rfl,hF.setOpen (.inr ⟨by dsimp only;omega,x,by dsimp only;rw[oTN];exact hx,by dsimp only;omega,by dsimp only;omega⟩),by omega,by omega⟩
   ·simp only[oBF h2,oCF,oBS];exact Ok.ret ⟨_,_,_,rfl,hF.setOpen (.inr ⟨by dsimp only;omega,x,by dsimp only;rw[oTN];exact hx,by dsimp only;omega,by dsimp only;omega⟩),by omega,by omega⟩
theorem gf(n:Int)(b:Bool):∃v,d8 n b=some (0,v,0,0,(),-1,false,())/\W16 v:=by
 cases b with
 |true=>exact⟨_,rfl,n7 _⟩
 |false=>exact⟨_,rfl,n7 _⟩
theorem kS{ss:List Int}{v:Int}(h:W16 v):Pr ss (0,v,0,0):=.inl ⟨.inl rfl,rfl,rfl,h⟩
theorem Pd{ss:List Int}{v:Int}(h:W16 v):Pr ss (2,v,0,0):=.inl ⟨.inr rfl,rfl,rfl,h⟩
theorem Jj{ss:List Int}{us:List DOu}{sk:Int}{l:List DCn}(hu:us.length<=200)(ho:∀(i:Nat) x,us[i]?=some x->P2 ss i x)(hl:l.length<=16)(VG:∀c∈l,Pr ss c):
 Ok (nq us sk l) λr=>∃Up n b,r=(Up,n,b,())/\Up.length<=200/\∀(i:Nat) x,Up[i]?=some x->P2 ss i x:=by
 have hc:jG us=some (us,()):=D6 (by omega) λx hx=>by
  obtain⟨j,hj⟩:=List.getElem?_of_mem hx;have:=(ho j x hj).2.2.2.1;omega
 unfold nq;rw[hc];delta dO;refine Ok.bind (P:=λr=>∃b:Bool,r=(us,sk,l,b,us,())/\(b=false->0<=sk/\sk<2/\us.length<200)) ?_ ?_
 ·(with_reducible refine dE (λZ9=>?_) λZ9=>?_)
  ·exact Ok.ret ⟨true,rfl,λh=>by cases h⟩
  (with_reducible refine dE (λZZ=>?_) λZZ=>?_)
  ·exact Ok.ret ⟨true,rfl,λh=>by cases h⟩
  (with_reducible refine dE (λhcc=>?_) λhcc=>?_)
  ·exact Ok.ret ⟨true,rfl,λh=>by cases h⟩
  exact Ok.ret ⟨_,rfl,λh=>⟨by omega,by omega,by omega⟩⟩
 rintro _ ⟨b,rfl,hb⟩;dsimp only
 cases b with
 |true=>exact Ok.ret ⟨_,_,_,rfl,hu,ho⟩
 |false=>
  obtain⟨s0,s1,hlt⟩:=hb rfl;simp only[oCF];refine dG (dW (by omega)) (dG (dW (by simp;omega)) ?_);refine Ok.ret ⟨_,_,_,rfl,by rw[fe];simp;omega,λi x hx=>?_⟩;simp at hx;rw[List.getElem?_append]at hx;split at hx
  ·exact ho i x hx
  ·rename_i hi;obtain⟨q,hq⟩:∃q,i-us.length=q:=⟨_,rfl⟩;rw[hq]at hx
   cases q with
   |zero=>
    have:x=((us.length:Int),sk,l):=by simp_all
    subst this;exact⟨by dsimp only;omega,s0,s1,hl,VG⟩
   |succ q=>simp at hx
theorem Cz{ss:List Int}{ins:List (List Int)}{sk n:Int}(hi:ins.length<=2)(h:∀x∈ins,x.length<=64/\∀w∈x,W16 w)(hn:0<=n/\n<=65535):
 Ok (jX ins sk n) λr=>(∃Yp,r=.inl (Yp,(),false,())/\Yp.length<=2/\∀x∈Yp,x.length<=64/\∀w∈x,W16 w)\/
  (∃Yp l,r=.inr (Yp,l,true,())/\(Yp.length<=2/\∀x∈Yp,x.length<=64/\∀w∈x,W16 w)/\(l.length:Int)<=n/\l.length<=64/\∀c∈l,Pr ss c):=by
 unfold jX;rw[yw (by omega) (λx hx=>by have:=(h x hx).1;omega)];delta dO;simp only[oBS];refine Ok.bind (P:=λr=>∃b:Bool,r=(ins,sk,n,b,ins,())/\(b=false->0<=sk/\sk<ins.length)) ?_ ?_
 ·(with_reducible refine dE (λZ9=>?_) λZ9=>?_)
  ·exact Ok.ret ⟨true,rfl,λh=>by cases h⟩
  (with_reducible refine dE (λZZ=>?_) λZZ=>?_)
  ·exact Ok.ret ⟨true,rfl,λh=>by cases h⟩
  exact Ok.ret ⟨_,rfl,λ_=>⟨by omega,by omega⟩⟩
 rintro _ ⟨b,rfl,hb⟩;dsimp only
 cases b with
 |true=>exact Ok.ret (Or.inl ⟨_,rfl,hi,h⟩)
 |false=>
 obtain⟨s0,s1⟩:=hb rfl;obtain⟨j,rfl⟩:∃j:Nat,sk=j:=⟨sk.toNat,by omega⟩;obtain⟨x,hx⟩:∃x,ins[j]?=some x:=⟨_,oGE (by omega)⟩;have Wf:dJ ins j=some x:=hx;have hjl:=(oGS hx).1;obtain⟨UV,hxw⟩:=h x (dR hx);simp only[oCF,oBS,dM,Wf];obtain⟨m1,m2,m3⟩:=EM (a:=n) (b:=(x.length:Int));generalize mmR false n (x.length:Int)=k at m1 m2 m3;obtain⟨q,rfl⟩:∃q:Nat,k=q:=⟨k.toNat,by omega⟩;simp only[dM,oBS];refine dG (by unfold gi;simp;omega) ?_
 have hw:lO x 0 (Nat.sub q 0)=x.take q:=by unfold lO;rw[List.drop_zero];rfl
 have Ul:(x.take q).length=q:=by rw[oLT];omega
 rw[hw];simp only[Ul]
 have e:dX gg NN ((j:Int),(q:Int),x.take q,(q:Int),0,ins,[],())=some ((j:Int),(q:Int),x.take q,(q:Int),(q:Int),false,ins,(x.take q).map (λw=>(0,w,0,0)),()):=by
  have:=tu (f:=gg) (N:=NN) (st:=λi=>((j:Int),(q:Int),x.take q,(q:Int),(i:Int),ins,((x.take q).take i).map (λw=>((0:Int),w,(0:Int),(0:Int))),())) (n:=q) (t:=((j:Int),(q:Int),x.take q,(q:Int),(q:Int),false,ins,(x.take q).map (λw=>((0:Int),w,(0:Int),(0:Int))),())) (by unfold NN;omega) ?_ ?_
  ·exact this
  ·intro i hi;unfold gg;dsimp only;rw[oDT (show(i:Int)<q by omega),dM];simp only[oCT,oBS];refine Ok.get (by omega) λw hw=>?_;refine dG (dW (by simp;omega)) ?_;rw[dP (x:=(i:Int)+1) (by omega) (by omega)];refine Ok.ret ?_;rw[<- tC (λw=>((0:Int),w,(0:Int),(0:Int))) hw];rfl
  ·unfold gg;dsimp only;rw[oDF (show ¬(q:Int)<q by omega)];refine Ok.ret ?_;rw[show(x.take q).take q=x.take q from List.take_of_length_le (by omega)]
 rw[e];simp only[dM,oBS,Wf];refine dG (by unfold gi;simp;omega) ?_;rw[eX hx]
 have hd:∀c∈lO x q (Nat.sub x.length q),c∈x:=λc hc=>by
  unfold lO at hc;exact List.mem_of_mem_drop (List.mem_of_mem_take hc)
 have SX:(lO x q (Nat.sub x.length q)).length<=64:=by
  unfold lO;rw[oLT,List.length_drop];omega
 refine Ok.ret (.inr ⟨_,_,rfl,⟨by rw[List.length_set];exact hi,lT h ⟨SX,λw hw=>hxw w (hd w hw)⟩⟩,by rw[List.length_map,Ul];omega,by rw[List.length_map,Ul];omega,λc hc=>?_⟩);obtain⟨w,hw,rfl⟩:=List.mem_map.1 hc;exact kS (hxw w (List.mem_of_mem_take hw))
theorem zQ{n:Int}{ss:List Int}{i stop trap count pc call:Int}{args data:List DCn}(hs:zK ss)(h:wO n ss i stop trap count pc call args data)(hn:n<=1099511627776):j5 i stop trap count pc call args data=some (true,()):=by
 have ⟨⟨a1,a2⟩,⟨b1,b2⟩,⟨c1,c2⟩,⟨d1,d2⟩,⟨e1,e2⟩,⟨f1,f2⟩,⟨g1,g2⟩,⟨k1,k2⟩,_,_⟩:=h;refine eY ?_;unfold j5;rw[mH hs g2 (by omega) (by omega),mH hs k2 (by omega) (by omega)];refine dG (oDT a1) (dG (oDT (by omega)) (dG (oDT b1) (dG (oDT b2) (dG (oDT c1) (dG (oDT c2) (dG (oDT d1) (dG (oDT (by omega)) (dG (oDT e1) (dG (oDT e2) (dG (oDT f1) (dG (oDT f2) ?_)))))))))));exact Ok.ret rfl
theorem HR{n:Int}{ss:List Int}{i trap count pc call:Int}{args data:List DCn}(h:wO n ss i 1 trap count pc call args data):mc i 1 trap count pc call args data=some (true,()):=by
 obtain⟨hl,hk⟩:=h.hkind rfl;obtain⟨b,eb,hb1,ZY⟩:=AS h.hcall;have h3:=J7 call
 have e:dX gW NN (b,args,(args.length:Int),0,i,1,trap,count,pc,call,args,data,())=some (.inr (b,args,(args.length:Int),(args.length:Int),false,i,1,trap,count,pc,call,args,data,())):=by
  refine tu (f:=gW) (N:=NN) (st:=λq=>(b,args,(args.length:Int),(q:Int),i,1,trap,count,pc,call,args,data,())) (n:=args.length) (by unfold NN;omega) ?_ ?_
  ·intro q hq;obtain⟨k,hkq⟩:∃k,(kB call)[q]?=some k:=⟨_,oGE (by omega)⟩;obtain⟨a,ha⟩:∃a,args[q]?=some a:=⟨_,oGE (by omega)⟩;unfold gW;dsimp only;rw[oDT (show(q:Int)<args.length by omega),dM];simp only[oCT,oBS,show dJ args q=some a from ha,ZY q,hkq,Kt,hk q k a hkq ha,oCF];rw[dP (x:=(q:Int)+1) (by omega) (by omega)];exact Ok.ret rfl
  ·unfold gW;dsimp only;rw[oDF (show ¬(args.length:Int)<args.length by omega)];exact Ok.ret rfl
 unfold mc;delta dO
 simp_all
def OG(call:Int):Bool:=decide ((1<=call/\call<=7)\/call=13\/call=14)
theorem OF{call:Int}(h:0<=call/\call<=15):qc call=some (OG call,()):=by
 rcases ve h with rfl|rfl|rfl|rfl|rfl|rfl|rfl|rfl|rfl|rfl|rfl|rfl|rfl|rfl|rfl|rfl<;>rfl
structure Qm (ss:List Int)(t v r o:Int)(data:List DCn)(sp:Int)(w:Bool):Prop where
 val:Pr ss (t,v,r,o)
 dat:data.length<=64/\∀c∈data,Pr ss c
 spn:-1<=sp/\sp<=3
def DoP(ss:List Int)(r:(List (Int))×(List (Int))×(List (List (Int)))×(List (List DCn))×(List DOp)×(List DOu)×Int×Int×Int×Int×(List DCn)×Int×Bool×Int×Unit):Prop:=
 ∃ck rn ins d os us t v rg o data,r=(ck,rn,ins,d,os,us,t,v,rg,o,data,-1,false,0,())/\yP ss ck rn ins d os us/\Pr ss (t,v,rg,o)/\data.length<=16/\∀c∈data,Pr ss c
theorem kJ{ss:List Int}{ck rn:List Int}{ins:List (List Int)}{d:List (List DCn)}{os:List DOp}{us:List DOu}{t v rg o:Int}{data:List DCn}(h:yP ss ck rn ins d os us)(hv:Pr ss (t,v,rg,o))(hd:data.length<=16/\∀c∈data,Pr ss c):
 Ok (some (ck,rn,ins,d,os,us,t,v,rg,o,data,(-1:Int),false,(0:Int),())) (DoP ss):=Ok.ret ⟨_,_,_,_,_,_,_,_,_,_,_,rfl,h,hv,hd⟩
theorem Pr.val{ss:List Int}{c:DCn}(h:Pr ss c):W16 c.2.1:=by
 rcases h with⟨_,_,_,h⟩|⟨_,h,_⟩
 ·exact h
 ·rw[h];exact⟨by decide,by decide⟩
theorem PF{n:Int}{ss:List Int}{i trap count pc call:Int}{args data:List DCn}(h:wO n ss i 1 trap count pc call args data):rF call=0\/rF call=1\/(rF call=2/\∃a,args[2]?=some a/\a.2.1<=16):=by
 by_cases h2:rF call=2
 ·exact .inr (.inr ⟨h2,h.hbuf rfl h2⟩)
 ·have:rF call=0\/rF call=1\/rF call=2:=by unfold rF;split<;>first|omega|(split<;>omega)
  omega
theorem xj{α:Type}{a b:Option α}{Q:α->Prop}(h:Ok a Q)(e:b=a):Ok b Q:=by simp_all
set_option maxHeartbeats 4000000 in
theorem Ou{n:Int}{ss:List Int}{ck rn:List Int}{ins:List (List Int)}{d:List (List DCn)}{os:List DOp}{us:List DOu}{i trap count pc call:Int}{args data:List DCn}(hs:zK ss)(hO:yP ss ck rn ins d os us)(hR:wO n ss i 1 trap count pc call args data)
 (ha:OG call=true)(hn:n<=1099511627776):Ok (n8 ck rn ins d os us i 1 trap count pc call args data) (DoP ss):=by
 have hc:=hR.hcall;have WQ:=hR.hdata;have VW:=hR.hargs;unfold n8;rw[ux hs hO,zQ hs hR hn,OF hc,ha,HR hR,ur hc];simp only[oBS,oNT,oCF,bne_self_eq_false];refine Ok.bind (P:=λr=>r=(false,ck,rn,ins,d,os,us,i,1,trap,count,pc,call,args,data,(),(),(),(),(),(),0,0,0,0,(),0,false,())) ?_ ?_
 ·rcases PF hR with h|h|⟨h,a,h2,h3⟩
  ·rw[h];exact Ok.ret rfl
  ·rw[h];exact Ok.ret rfl
  ·rw[h];simp only[BEq.rfl,oCT,show dJ args 2=some a from h2,oBS];rw[oDF (show ¬a.2.1>16 by omega)];exact Ok.ret rfl
 rintro _ rfl;dsimp only;delta dO;simp only[oCF,D5 hO,oBS]
 refine Ok.loop (P:=λs'=>∃(k:Nat)(vs:List Int),s'=(args,(args.length:Int),(k:Int),ck,rn,ins,d,os,us,i,1,trap,count,pc,call,args,data,(),(),(),(),(),(),0,0,0,0,(),0,false,ck,rn,ins,d,os,us,vs,())/\k<=args.length/\vs.length=3/\(∀v∈vs,W16 v)/\∀(j:Nat) a,j<k->args[j]?=some a->vs[j]?=some a.2.1)
  (R:=λr=>∃(z:Int)(vs:List Int),r=(args,(args.length:Int),z,false,ck,rn,ins,d,os,us,i,1,trap,count,pc,call,args,data,(),(),(),(),(),(),0,0,0,0,(),0,false,ck,rn,ins,d,os,us,vs,())/\vs.length=3/\(∀v∈vs,W16 v)/\∀(j:Nat) a,args[j]?=some a->vs[j]?=some a.2.1) (m:=λs'=>(s'.2.1-s'.2.2.1).toNat)
  ⟨0,[0,0,0],rfl,by omega,rfl,all_cons ⟨by decide,by decide⟩ (all_cons ⟨by decide,by decide⟩ (all_cons ⟨by decide,by decide⟩ eq)),λj a hj=>by omega⟩ (by unfold NN;dsimp only;omega) ?_ ?_
 ·rintro _ ⟨k,vs,rfl,hk,Su,Uk,hva⟩;unfold sV;dsimp only
  (with_reducible refine dE (λZ9=>?_) λZ9=>?_)
  ·simp only[dM,oBS];refine Ok.get (by omega) λa hak=>?_;have hw:=(VW.2 a (dR hak)).val;refine Ok.get (by omega) λv hv=>?_;refine Ok.get (by omega) λ_ _=>?_;rw[dT (x:=a.2.1) (by have:=hw.1;omega) (by have:=hw.2;omega),dP (x:=(k:Int)+1) (by omega) (by omega),eX hv];refine Ok.ret ⟨⟨k+1,_,rfl,by omega,by rw[List.length_set];exact Su,lT Uk hw,λj a' hj T7=>?_⟩,by dsimp only;omega⟩;by_cases e:k=j
   ·subst e;rw[hak]at T7;cases T7;exact iJ (by omega) _
   ·rw[ru e];exact hva j a' (by omega) T7
  ·refine Ok.ret ⟨_,vs,rfl,Su,Uk,λj a T7=>hva j a ?_ T7⟩;have:=(oGS T7).1;omega
 rintro _ ⟨z,vs,rfl,Su,Uk,hva⟩;obtain⟨v0,T4,Yn⟩:=gf 0 false
 obtain⟨a0,a1,a2,rfl⟩:∃a b c,vs=[a,b,c]:=by
  match vs,Su with
  | [a,b,c],_=>exact⟨a,b,c,rfl⟩
 have w0:W16 a0:=Uk a0 (by simp);have w1:W16 a1:=Uk a1 (by simp);have w2:W16 a2:=Uk a2 (by simp);have g0:dJ [a0,a1,a2] 0=some a0:=rfl;have g1:dJ [a0,a1,a2] 1=some a1:=rfl;have g2:dJ [a0,a1,a2] 2=some a2:=rfl
 have Sz:rF call=2->a2<=16:=λh=>by
  obtain⟨a,h2,h3⟩:=hR.hbuf rfl h;have:=hva 2 a h2
  have:a2=a.2.1:=by simpa using this
  omega
 have Zy:([]:List DCn).length<=16/\∀c∈([]:List DCn),Pr ss c:=⟨by decide,eq⟩;dsimp only;simp only[T4,oBS,g0,g1,g2];rcases ve hc with rfl|rfl|rfl|rfl|rfl|rfl|rfl|rfl|rfl|rfl|rfl|rfl|rfl|rfl|rfl|rfl
 all_goals first|(exact absurd ha (by decide))|simp only[Int.reduceBEq,oCT,oCF]
 ·obtain⟨_,e,d1,Uo,m,b,rfl,hF,_⟩:=GX (h:=a0) hs hO.files WQ.1 WQ.2;obtain⟨v,ev,hv⟩:=gf m b;simp only[e,ev,oBS];exact kJ ⟨hO.clock,hO.rand,hO.ilen,hO.inp,hF,hO.ulen,hO.outs⟩ (kS hv) Zy
 ·have Ym:=Sz rfl;obtain⟨_,e,hr⟩:=Jy (h:=a0) (n:=a2) hO.files w2
  rcases hr with⟨d1,Uo,rfl,hF⟩|⟨d1,Uo,l,rfl,hF,hl,_,VG⟩
  ·simp only[e,T4,oBS];exact kJ ⟨hO.clock,hO.rand,hO.ilen,hO.inp,hF,hO.ulen,hO.outs⟩ (kS Yn) Zy
  ·obtain⟨v,ev,hv⟩:=gf (l.length:Int) true;simp only[e,ev,oBS];exact kJ ⟨hO.clock,hO.rand,hO.ilen,hO.inp,hF,hO.ulen,hO.outs⟩ (kS hv) ⟨by omega,VG⟩
 ·obtain⟨_,e,d1,Uo,h,rfl,hF,h0,h7⟩:=LQ (file:=a0) (mode:=a1) hO.files;simp only[e,oBS];have VK:yP ss ck rn ins d1 Uo us:=⟨hO.clock,hO.rand,hO.ilen,hO.inp,hF,hO.ulen,hO.outs⟩;by_cases hh:h>=0
  ·simp only[oDT hh,oCT];exact kJ VK (Pd (n7 _)) Zy
  ·simp only[oDF hh,oCF];exact kJ VK (kS Yn) Zy
 ·obtain⟨_,e,d1,Uo,b,rfl,hF⟩:=Ii (h:=a0) hO.files;obtain⟨v,ev,hv⟩:=gf 0 b;simp only[e,ev,oBS];exact kJ ⟨hO.clock,hO.rand,hO.ilen,hO.inp,hF,hO.ulen,hO.outs⟩ (kS hv) Zy
 ·obtain⟨_,e,d1,Uo,b,rfl,hF⟩:=Jk (h:=a0) (n:=a1) hO.files;obtain⟨v,ev,hv⟩:=gf 0 b;simp only[e,ev,oBS];exact kJ ⟨hO.clock,hO.rand,hO.ilen,hO.inp,hF,hO.ulen,hO.outs⟩ (kS hv) Zy
 ·cases ck with
  |nil=>exact kJ hO (kS Yn) Zy
  |cons x ck=>
   obtain⟨v,ev,hv⟩:=gf (wk .i64 x) true
   have hw:lO (x::ck) 1 (Nat.sub (x::ck).length 1)=ck:=by unfold lO;simp
   refine xj (kJ (ck:=ck) ⟨⟨by have:=hO.clock.1;simp at this;omega,λw hw=>hO.clock.2 w (by simp[hw])⟩,hO.rand,hO.ilen,hO.inp,hO.files,hO.ulen,hO.outs⟩ (kS hv) Zy) ?_;simp only[oLC,show dJ (x::ck) 0=some x from rfl,oBS,ev];have hd:∀inst:Decidable (((ck.length+1:Nat):Int)>0),@decide _ inst=true:=λinst=>oDT (by omega);rw[oLC]at hw;rw[hd,show gi 1 (ck.length+1) (ck.length+1)=true by unfold gi;simp,hw];rfl
 ·cases rn with
  |nil=>exact kJ hO (kS Yn) Zy
  |cons x rn=>
   obtain⟨v,ev,hv⟩:=gf (wk .i64 x) true
   have hw:lO (x::rn) 1 (Nat.sub (x::rn).length 1)=rn:=by unfold lO;simp
   refine xj (kJ (rn:=rn) ⟨hO.clock,⟨by have:=hO.rand.1;simp at this;omega,λw hw=>hO.rand.2 w (by simp[hw])⟩,hO.ilen,hO.inp,hO.files,hO.ulen,hO.outs⟩ (kS hv) Zy) ?_;simp only[oLC,show dJ (x::rn) 0=some x from rfl,oBS,ev];have hd:∀inst:Decidable (((rn.length+1:Nat):Int)>0),@decide _ inst=true:=λinst=>oDT (by omega);rw[oLC]at hw;rw[hd,show gi 1 (rn.length+1) (rn.length+1)=true by unfold gi;simp,hw];rfl
 ·obtain⟨_,e,us1,m,b,rfl,hu,ho⟩:=Jj (sk:=a0) hO.ulen hO.outs WQ.1 WQ.2;obtain⟨v,ev,hv⟩:=gf m b;simp only[e,ev,oBS];exact kJ ⟨hO.clock,hO.rand,hO.ilen,hO.inp,hO.files,hu,ho⟩ (kS hv) Zy
 ·have Ym:=Sz rfl;obtain⟨_,e,hr⟩:=Cz (ss:=ss) (sk:=a0) (n:=a2) hO.ilen hO.inp w2
  rcases hr with⟨in1,rfl,WR,YZ⟩|⟨in1,l,rfl,⟨WR,YZ⟩,hl,_,VG⟩
  ·simp only[e,T4,oBS];exact kJ ⟨hO.clock,hO.rand,WR,YZ,hO.files,hO.ulen,hO.outs⟩ (kS Yn) Zy
  ·obtain⟨v,ev,hv⟩:=gf (l.length:Int) true;simp only[e,ev,oBS];exact kJ ⟨hO.clock,hO.rand,WR,YZ,hO.files,hO.ulen,hO.outs⟩ (kS hv) ⟨by omega,VG⟩
def Gf(bs:List Int)(key:Int)(c:DCn):DCe:=if c.1=0 then(0,c.2.1)else if c.1=2 then(2,wk .u16 (c.2.1+key))else(1,wk .u16 (bs.getD c.2.2.1.toNat 0+c.2.2.2))
theorem Gk{bs ss:List Int}(h:LV bs ss){r o n:Int}(h1:0<=r)(h2:ss[r.toNat]?=some n)(h3:0<=o)(h4:o<n):∃b,bs[r.toNat]?=some b/\0<=b+o/\b+o<512/\b<=b+o/\b+o<b+n:=by
 have ⟨hs,hl,hr⟩:=h;have hj:=(oGS h2).1;have ⟨b,hb⟩:∃b,bs[r.toNat]?=some b:=⟨_,oGE (by omega)⟩;have WV:=hr r.toNat (by omega);unfold zL at WV;rw[fA hb,fA h2]at WV;exact⟨b,hb,by omega,by omega,by omega,by omega⟩
theorem Ge{bs ss:List Int}{key:Int}{c:DCn}(h:LV bs ss)(hc:Pr ss c):iF bs key ss c.1 c.2.1 c.2.2.1 c.2.2.2=some ((Gf bs key c).1,(Gf bs key c).2,0,())/\n6 (RK bs ss) (Gf bs key c):=by
 unfold iF Gf;rw[o6 hc]
 rcases hc with⟨h1|h1,h2,h3,h4⟩|⟨h1,h2,h3,n,h5,h6,h7⟩
 ·rw[h1];exact⟨rfl,l7 h4⟩
 ·rw[h1];exact⟨rfl,(show(0:Int)<=2 by decide),(show(2:Int)<=2 by decide),(n7 _).1,(n7 _).2,λe=>absurd (show(2:Int)=1 from e) (by decide)⟩
 ·obtain⟨b,hb,b0,b1,b2,b3⟩:=Gk h h3 h5 h6 h7;obtain⟨j,hj⟩:∃j:Nat,c.2.2.1=j:=⟨c.2.2.1.toNat,by omega⟩;rw[hj]at hb h5⊢;rw[h1,fA hb];simp[Int.reduceBEq,Int.reduceEq,oCF,if_false,dM,oBS,show dJ bs j=some b from hb];rw[dP (by omega) (by omega),dY (by omega) (by omega)];exact⟨rfl,by omega,by omega,by omega,by omega,λ_=>⟨j,b,n,hb,h5,b2,b3⟩⟩
theorem Iq{bs ss:List Int}{key r o n:Int}(h:LV bs ss)(h1:0<=r)(h2:ss[r.toNat]?=some n)(h3:0<=o)(h4:o<n):∃a,kg bs key ss r o=some (a,0,())/\0<=a/\a<512/\a=bs.getD r.toNat 0+o:=by
 have ⟨b,hb,b0,b1,_⟩:=Gk h h1 h2 h3 h4;obtain⟨j,rfl⟩:∃j:Nat,r=j:=⟨r.toNat,by omega⟩;unfold kg;rw[De h1 h2 h3 h4];simp[dM,show dJ bs j=some b from hb];rw[dP (by omega) (by omega)]
 simp_all
theorem LX(pc t v:Int):oW pc t v=some (1,[(t,v),(0,0),(0,0),(0,0),(0,0),(0,0),(0,0),(0,0)],pc,0,-1,-1,0,0,()):=rfl
def Qn(n key:Int)(ss bs:List Int)(r:Bool×(List (Int))×Int×(List DCe)×(List DLn)×(List DTh)×Unit):Prop:=∃b Z3 Z1 Zl,r=(b,bs,key,Z3,Z1,Zl,())/\(b=true->MOk n ss bs Z3 Z1 Zl)
theorem xB{n key:Int}{ss bs:List Int}{cs:List DCe}{ls:List DLn}{ts:List DTh}:Ok (some (false,bs,key,cs,ls,ts,())) (Qn n key ss bs):=Ok.ret ⟨_,_,_,_,rfl,λh=>by cases h⟩
theorem qb{n key ct cv:Int}{ss bs:List Int}{cs:List DCe}{ls:List DLn}{ts:List DTh}{i:Nat}(h:MOk n ss bs cs ls ts)(hi:i<4)(hc:n6 (RK bs ss) (ct,cv)):
 Ok ((dJ ts i).bind λ_=>(dJ ts i).bind λx75=>(dJ x75.2.1 0).bind λ_=>(dJ ts i).bind λx77=>(dJ x77.2.1 0).bind λ_=>(dJ (List.modify ts i λe=>(e.1,((List.modify e.2.1 0 λ_=>(ct,cv)),e.2.2))) i).bind λ_=>
  some (true,bs,key,cs,ls,List.modify (List.modify ts i λe=>(e.1,((List.modify e.2.1 0 λ_=>(ct,cv)),e.2.2))) i λe=>((1:Int),e.2),())) (Qn n key ss bs):=by
 have Xp:=h.tlen;have ⟨t,ht⟩:∃t,ts[i]?=some t:=⟨_,oGE (by omega)⟩;have hg:dJ ts i=some t:=ht;have YP:=(oGS ht).1;have hok:=h.thr t (dR ht);have ⟨c,hc0⟩:∃c,t.2.1[0]?=some c:=⟨_,oGE (by have:=hok.len;omega)⟩;simp[hg,show dJ t.2.1 0=some c from hc0,eX ht,eX hc0,iJ YP,oe YP];exact Ok.ret ⟨_,_,_,_,rfl,λ_=>h.set h.mem ⟨⟨show(0:Int)<=1 by decide,show(1:Int)<=4 by decide⟩,by dsimp only;rw[List.length_set];exact hok.len,lT hok.regs hc,hok.pc,hok.count,hok.handler,hok.saved,hok.trap,hok.code⟩⟩
theorem G8{K:Int->Prop}{n pc:Int}{rs:List DCe}(hl:rs.length=8)(hr:∀c∈rs,n6 K c)(hp:0<=pc/\pc<=255)(hn:0<=n):yO K n (1,rs,pc,0,-1,-1,0,0):=
 ⟨⟨show(0:Int)<=1 by decide,show(1:Int)<=4 by decide⟩,hl,hr,hp,⟨show(0:Int)<=0 by decide,hn⟩,⟨show(-1:Int)<=-1 by decide,show(-1:Int)<=255 by decide⟩,⟨show(-1:Int)<=-1 by decide,show(-1:Int)<=255 by decide⟩,⟨show(0:Int)<=0 by decide,show(0:Int)<=6 by decide⟩,⟨show(0:Int)<=0 by decide,show(0:Int)<=65535 by decide⟩⟩
theorem MOk.mk_mem{n:Int}{ss bs:List Int}{cs Z3:List DCe}{ls Z1:List DLn}{ts:List DTh}(h:MOk n ss bs cs ls ts)(hm:lf (RK bs ss) Z3 Z1):MOk n ss bs Z3 Z1 ts:=⟨h.lay,hm,h.tlen,h.thr⟩
set_option maxHeartbeats 4000000 in
theorem LJ{n m key:Int}{code:List DIn}{ss bs:List Int}{dd:List (List Int)}{cs:List DCe}{ls:List DLn}{ts:List DTh}{i:Nat}{trap count pc call:Int}{args data:List DCn}{t v rg o sp:Int}{dat:List DCn}{w:Bool}(h:MOk n ss bs cs ls ts)(hi:i<4)
 (hR:wO m ss (i:Int) 1 trap count pc call args data)(hv:Pr ss (t,v,rg,o))(hd:dat.length<=16/\∀c∈dat,Pr ss c)(ZC:-1<=sp/\sp<=3):
 Ok (oT code ss dd (i:Int) 1 trap count pc call args data t v rg o dat sp w bs key cs ls ts) (Qn n key ss bs):=by
 have hL:=h.lay;have Xp:=h.tlen;obtain⟨Zr,Yt⟩:=hR.hkind rfl;have hargs:=hR.hargs;obtain⟨VN,Yv⟩:=Ge (key:=key) hL hv;obtain⟨th,X6⟩:∃th,ts[i]?=some th:=⟨_,oGE (by omega)⟩;have hok:=h.thr th (dR X6);have hc0:=hok.count;have YP:=(oGS X6).1;dsimp only at VN;unfold oT;delta dO;rw[dM,VN,ur hR.hcall];simp only[oBS,bne_self_eq_false,oCF];refine Ok.get YP λ_ _=>?_;have ZV:=qb (key:=key) (ct:=(Gf bs key (t,v,rg,o)).1) (cv:=(Gf bs key (t,v,rg,o)).2) h hi Yv
 have buf:rF call=2->dat.length>0->∃a:DCn,args[1]?=some a/\Pr ss a/\a.1=1/\∃y,dX lj NN (i,dat,(dat.length:Int),0,bs,key,cs,ls,ts,code,ss,dd,(i:Int),1,trap,count,pc,call,args,data,t,v,rg,o,dat,sp,w,(Gf bs key (t,v,rg,o)).1,(Gf bs key (t,v,rg,o)).2,a.2.2.1,a.2.2.2,())=some y /\
  ((∃Z3 Z1,y=.inl (false,bs,key,Z3,Z1,ts,()))\/(∃Z3 Z1 z f,y=.inr (i,dat,(dat.length:Int),z,false,bs,key,Z3,Z1,ts,code,ss,dd,(i:Int),1,trap,count,pc,call,args,data,t,v,rg,o,dat,sp,w,(Gf bs key (t,v,rg,o)).1,(Gf bs key (t,v,rg,o)).2,a.2.2.1,f,())/\lf (RK bs ss) Z3 Z1)):=by
  intro hb Z0
  have hkk:(kB call)[1]?=some 80:=by
   have:call=2\/call=14:=by unfold rF at hb;split at hb<;>first|omega|(split at hb<;>omega)
   rcases this with rfl|rfl<;>rfl
  have XU:=(oGS hkk).1;obtain⟨a,ha⟩:∃a,args[1]?=some a:=⟨_,oGE (by omega)⟩;have VW:=hargs.2 a (dR ha);have ZX:=Yt 1 80 a hkk ha
  have Xv:a.1=1:=by unfold Mm at ZX;simpa using ZX
  have ha32:0<=a.2.2.2/\a.2.2.2<=32:=by
   rcases VW with⟨g,_⟩|⟨_,_,_,z,g1,g2,g3⟩
   ·omega
   ·have:=hL.1.2.2 z (dR g1);omega
  refine⟨a,ha,VW,Xv,?_⟩
  refine g7 (f:=lj) (n:=NN) (P:=λs'=>∃k:Nat,∃Z3 Z1,s'=(i,dat,(dat.length:Int),(k:Int),bs,key,Z3,Z1,ts,code,ss,dd,(i:Int),1,trap,count,pc,call,args,data,t,v,rg,o,dat,sp,w,(Gf bs key (t,v,rg,o)).1,(Gf bs key (t,v,rg,o)).2,a.2.2.1,a.2.2.2+k,())/\k<=dat.length/\lf (RK bs ss) Z3 Z1)
   (R:=λy=>(∃Z3 Z1,y=.inl (false,bs,key,Z3,Z1,ts,()))\/(∃Z3 Z1 z f,y=.inr (i,dat,(dat.length:Int),z,false,bs,key,Z3,Z1,ts,code,ss,dd,(i:Int),1,trap,count,pc,call,args,data,t,v,rg,o,dat,sp,w,(Gf bs key (t,v,rg,o)).1,(Gf bs key (t,v,rg,o)).2,a.2.2.1,f,())/\lf (RK bs ss) Z3 Z1))
   (m:=λs'=>(s'.2.2.1-s'.2.2.2.1).toNat) ⟨0,cs,ls,by simp,by omega,h.mem⟩ (by unfold NN;dsimp only;omega) ?_
  rintro _ ⟨k,Z3,Z1,rfl,hk,hm⟩;unfold lj;dsimp only
  (with_reducible refine dE (λZ9=>?_) λZ9=>?_)
  ·rw[dM];simp only[oBS];refine Ok.get (by omega) λc hc=>?_;obtain⟨Z8,XX⟩:=Ge (key:=key) hL (hd.2 c (dR hc));rw[Z8];simp only[oBS,bne_self_eq_false,oCF];refine Al.bind ?_;rintro⟨q,_⟩ hin;dsimp only at hin⊢
   (with_reducible refine dE (λZZ=>?_) λZZ=>?_)
   ·exact Ok.ret (.inl ⟨_,_,rfl⟩)
   ·obtain⟨g1,g2,z,g3,g4⟩:=hin ZZ;obtain⟨ad,ea,a0,a1,_⟩:=Iq (key:=key) hL g1 g3 g2 g4;rw[ea];simp only[oBS];refine(zU hm ⟨a0,a1⟩ XX).bind ?_;rintro _ ⟨Vq,VR,rfl,hm2⟩;dsimp only;rw[dP (x:=a.2.2.2+k+1) (by omega) (by omega),dP (x:=(k:Int)+1) (by omega) (by omega)];exact Ok.ret ⟨⟨k+1,_,_,by rw[show a.2.2.2+((k+1:Nat):Int)=a.2.2.2+k+1 by omega];rfl,by omega,hm2⟩,by dsimp only;omega⟩
  ·exact Ok.ret (.inr ⟨_,_,_,_,rfl,hm⟩)
 rcases ve hR.hcall with rfl|rfl|rfl|rfl|rfl|rfl|rfl|rfl|rfl|rfl|rfl|rfl|rfl|rfl|rfl|rfl
 case inr.inr.inl=>
  simp only[show((rF 2)==2)=true from rfl,oCT];by_cases Z0:dat.length>0
  ·obtain⟨a,ha,VW,Xv,y,ey,hy⟩:=buf rfl Z0;simp only[oDT (show((dat.length:Nat):Int)>0 by omega),oCT,show dJ args 1=some a from ha,oBS,o6 VW,oNT,oCF,bne_eq_false_iff_eq.2 Xv,ey]
   rcases hy with⟨Z3,Z1,rfl⟩|⟨Z3,Z1,z,f,rfl,hm⟩
   ·exact xB
   ·simp only[Int.reduceBEq,oCF];exact qb (h.mk_mem hm) hi Yv
  ·simp only[oDF (show ¬((dat.length:Nat):Int)>0 by omega),oCF,Int.reduceBEq];exact ZV
 case inr.inr.inr.inr.inr.inr.inr.inr.inr.inr.inr.inr.inr.inr.inl=>
  simp only[show((rF 14)==2)=true from rfl,oCT];by_cases Z0:dat.length>0
  ·obtain⟨a,ha,VW,Xv,y,ey,hy⟩:=buf rfl Z0;simp only[oDT (show((dat.length:Nat):Int)>0 by omega),oCT,show dJ args 1=some a from ha,oBS,o6 VW,oNT,oCF,bne_eq_false_iff_eq.2 Xv,ey]
   rcases hy with⟨Z3,Z1,rfl⟩|⟨Z3,Z1,z,f,rfl,hm⟩
   ·exact xB
   ·simp only[Int.reduceBEq,oCF];exact qb (h.mk_mem hm) hi Yv
  ·simp only[oDF (show ¬((dat.length:Nat):Int)>0 by omega),oCF,Int.reduceBEq];exact ZV
 case inr.inr.inr.inr.inr.inr.inr.inr.inr.inr.inr.inr.inl=>
  obtain⟨a,ha⟩:∃a,args[0]?=some a:=⟨_,oGE (by rw[Zr];decide)⟩;have hva:=(hargs.2 a (dR ha)).val;simp only[show((rF 12)==2)=false from rfl,oCF,Int.reduceBEq,oCT,show dJ args 0=some a from ha,oBS];rw[dT (x:=a.2.1) (by have:=hva.1;omega) (by have:=hva.2;omega)];by_cases h1:a.2.1>255
  ·simp only[oDT h1,oCT];exact xB
  by_cases h2:a.1=0
  ·simp only[oDF h1,oCF,bne_eq_false_iff_eq.2 h2,show dJ ts i=some th from X6,oBS,eX X6];exact qb (h.set h.mem ⟨hok.state,hok.len,hok.regs,hok.pc,hok.count,⟨by dsimp only;have:=hva.1;omega,by dsimp only;omega⟩,hok.saved,hok.trap,hok.code⟩) hi Yv
  ·simp only[oDF h1,oCF,bne_iff_ne.2 h2,oCT];exact xB
 case inr.inr.inr.inr.inr.inr.inr.inr.inr.inr.inl=>
  obtain⟨a,ha⟩:∃a,args[0]?=some a:=⟨_,oGE (by rw[Zr];decide)⟩;obtain⟨c,hc⟩:∃c,args[1]?=some c:=⟨_,oGE (by rw[Zr];decide)⟩;have hva:=(hargs.2 a (dR ha)).val;obtain⟨Z8,XX⟩:=Ge (key:=key) hL (hargs.2 c (dR hc));simp only[show((rF 10)==2)=false from rfl,oCF,Int.reduceBEq,oCT];by_cases hsp0:sp>=0
  ·obtain⟨j,rfl⟩:∃j:Nat,sp=j:=⟨sp.toNat,by omega⟩;obtain⟨tj,RG⟩:∃tj,ts[j]?=some tj:=⟨_,oGE (by omega)⟩;simp only[oDT hsp0,oCT,show dJ args 0=some a from ha,show dJ args 1=some c from hc,oBS,Z8,bne_self_eq_false,oCF,dM,show dJ ts j=some tj from RG];rw[dT (x:=a.2.1) (by have:=hva.1;omega) (by have:=hva.2;omega)];by_cases h0:tj.1=0
   ·by_cases h1:a.2.1>255
    ·simp only[bne_eq_false_iff_eq.2 h0,oCF,oDT h1,oCT,oBS];exact xB
    by_cases h2:a.1=0
    ·simp only[bne_eq_false_iff_eq.2 h0,oDF h1,oCF,bne_eq_false_iff_eq.2 h2,oBS,show dJ args 0=some a from ha,dT (x:=a.2.1) (by have:=hva.1;omega) (by have:=hva.2;omega),LX,dM,show dJ ts j=some tj from RG,eX RG];refine qb (h.set h.mem (G8 rfl (all_cons XX ?_) ⟨hva.1,by omega⟩ (by omega))) hi Yv;exact all_cons (l7 (by decide)) (all_cons (l7 (by decide)) (all_cons (l7 (by decide)) (all_cons (l7 (by decide)) (all_cons (l7 (by decide)) (all_cons (l7 (by decide)) (all_cons (l7 (by decide)) eq))))))
    ·simp only[bne_eq_false_iff_eq.2 h0,oDF h1,oCF,bne_iff_ne.2 h2,oCT,oBS];exact xB
   ·simp only[bne_iff_ne.2 h0,oCT,oBS];exact xB
  ·simp only[oDF hsp0,oCF];exact ZV
 all_goals
  simp only[show((rF 0)==2)=false from rfl,show((rF 1)==2)=false from rfl,show((rF 3)==2)=false from rfl,show((rF 4)==2)=false from rfl,show((rF 5)==2)=false from rfl,show((rF 6)==2)=false from rfl,show((rF 7)==2)=false from rfl,
   show((rF 8)==2)=false from rfl,show((rF 9)==2)=false from rfl,show((rF 11)==2)=false from rfl,show((rF 13)==2)=false from rfl,show((rF 15)==2)=false from rfl,oCF,Int.reduceBEq]
  exact ZV
def iR(c:Int×Int×Int×Int):Prop:=
 ((c.1=0\/c.1=2)/\c.2.2.1=0/\c.2.2.2=0/\0<=c.2.1/\c.2.1<=65535)\/
 (c.1=1/\c.2.1=0/\((c.2.2.1=-1/\0<=c.2.2.2/\c.2.2.2<=65535)\/(0<=c.2.2.1/\c.2.2.1<4/\0<=c.2.2.2/\c.2.2.2<32)))
structure M8 (a0 a1 a2 a3 a4 a5:Int)(a6 a7:List (Int×Int×Int×Int)):Prop where
 thread:0<=a0/\a0<=3
 stop:0<=a1/\a1<=3
 trap:0<=a2/\a2<=6
 count:0<=a3/\a3<=1099511627776
 pc:0<=a4/\a4<=255
 call:0<=a5/\a5<=15
 args:(∀c∈a6,iR c)/\a6.length<=3
 data:(∀c∈a7,iR c)/\a7.length<=16
theorem Pr.cell{ss:List Int}{c:DCn}(hs:zK ss)(h:Pr ss c):iR c:=by
 rcases h with⟨h1,h2,h3,h4⟩|⟨h1,h2,h3,n,h4,h5,h6⟩
 ·exact .inl ⟨h1,h2,h3,h4.1,h4.2⟩
 ·have hn:=hs.2.2 n (dR h4);have hl:=(oGS h4).1;have WJ:=hs.2.1;exact .inr ⟨h1,h2,.inr ⟨h3,by omega,h5,by omega⟩⟩
theorem wO.z{n:Int}{ss:List Int}{i stop trap count pc call:Int}{args data:List DCn}(hs:zK ss)(h:wO n ss i stop trap count pc call args data)(hn:n<=1099511627776):M8 i stop trap count pc call args data:=
 ⟨⟨h.hthr.1,by have:=h.hthr.2;omega⟩,h.hstop,h.htrap,⟨h.hcnt.1,by have:=h.hcnt.2;omega⟩,h.hpc,h.hcall,⟨λc hc=>(h.hargs.2 c hc).cell hs,h.hargs.1⟩,⟨λc hc=>(h.hdata.2 c hc).cell hs,h.hdata.1⟩⟩
inductive ww:DEn->Prop
 |slice {i k stop trap count pc call:Int} {args data:List DCn}:M8 i stop trap count pc call args data->stop≠3->1<=k/\k<=64->ww (1,i,k,i,stop,trap,count,pc,call,args,data,0,0,0,0,[],0,false)
 |result {i trap count pc call:Int} {args data:List DCn} {t v rg o sp:Int} {dat:List DCn} {w:Bool}:M8 i 1 trap count pc call args data->iR (t,v,rg,o)->(∀c∈dat,iR c)/\dat.length<=16->-1<=sp/\sp<=3->ww (2,i,0,i,1,trap,count,pc,call,args,data,t,v,rg,o,dat,sp,w)
 |signal {i:Int}:0<=i/\i<=3->ww (3,i,0,0,0,0,0,0,0,[],[],0,0,0,0,[],0,false)
 |wake {i v:Int}:0<=i/\i<=3->W16 v->ww (4,i,0,0,0,0,0,0,0,[],[],0,v,0,0,[],-1,false)
theorem r6{rec:List DEn}{x:DEn}(h:∀e∈rec,ww e)(hx:ww x):∀e∈List.append rec [x],ww e:=iK h (λe he=>by rw[List.mem_singleton.1 he];exact hx)
def OR(js:List Int):Prop:=∀(u:Nat)(j:Int),js[u]?=some j->j≠u
theorem OR.set{js:List Int}{i:Nat}{x:Int}(h:OR js)(hx:x≠i):OR (js.set i x):=by
 intro u j hj;rw[List.getElem?_set]at hj;split at hj
 ·rename_i hiu;subst hiu;split at hj
  ·injection hj with hj
   rw[<- hj];exact hx
  ·cases hj
 ·exact h u j hj
theorem ms{S T:Type}{f:S->Option (S⊕T)}(P:S->Prop)(Q:T->Prop)(m:S->Nat)
 (h:∀s,P s->(∃s',f s=some (.inl s')/\P s'/\m s'<m s)\/∃t,f s=some (.inr t)/\Q t):∀n s,P s->m s<n->∃t,dX f n s=some t/\Q t:=by
 intro n
 induction n with
 |zero=>omega
 |succ n ih=>
  intro s hp hm
  rcases h s hp with⟨s',e,hp',hm'⟩|⟨t,e,hq⟩
  ·have ⟨t,e2,hq⟩:=ih s' hp' (by omega);exact⟨t,by simp[dX,e];exact e2,hq⟩
  ·exact⟨t,by simp[dX,e],hq⟩
theorem OY{x:Int}(h0:0<=x)(h1:x<=65535):wk .u16 x=x:=by
 unfold wk;rw[wP];omega
theorem eH{b n m:Nat}(hb:b<=1000)(h:n+m<=1000000):dV b n m=true:=by
 have h2:=Nat.mul_le_mul h hb;simp[dV];omega
def be:Nat->Int->List Int
 |0,_=>[]
 |n+1,v=>(v/256 ^ n)%256::be n v
theorem kN:∀(n:Nat)(v:Int),(be n v).length=n:=by
 intro n
 induction n with
 |zero=>intro v;rfl
 |succ n ih=>intro v;simp[be,ih]
theorem Eo(x:Int):wk .u8 x=x%256:=Nc x
theorem O8(v:Int){n:Nat}(h:n<=7):shR .shr .i64 v (8*n)=v/256 ^ n:=by
 have e:min (8*n) (IntKind.bits .i64)=8*n:=by simp[IntKind.bits];omega
 have e2:(2:Int) ^ (8*n)=256 ^ n:=by rw[Int.pow_mul];rfl
 show v.fdiv (2 ^ (min (8*n) (IntKind.bits .i64)))=_
 grind
theorem LH(v:Int):∀(n:Nat),n<=7->∀(m:Nat)(b:List Int),n<m->b.length+n<=100000->dX jf m ((n:Int)-1,v,b,())=some (-1,v,false,b++be n v,()):=by
 intro n
 induction n with
 |zero=>
  intro _ m b hm _;obtain⟨m,rfl⟩:∃m',m=m'+1:=⟨m-1,by omega⟩;simp[dX,jf,be]
 |succ n ih=>
  intro hn m b hm hb;obtain⟨m,rfl⟩:∃m',m=m'+1:=⟨m-1,by omega⟩
  have e1:((n+1:Nat):Int)-1=n:=by omega
  have e2:w64 (8*(n:Int))=((8*n:Nat):Int):=by rw[dP (by omega) (by omega)];omega
  have e3:w64 ((n:Int)-1)=(n:Int)-1:=dP (by omega) (by omega)
  have Ty:jf (((n+1:Nat):Int)-1,v,b,())=some (.inl ((n:Int)-1,v,b++[(v/256 ^ n)%256],())):=by
   unfold jf;rw[e1]
   have h0:decide ((n:Int)>=0)=true:=by simp
   simp only[h0,e2,dM,oBS,O8 v (by omega:n<=7),Eo,e3];rw[eH (by decide) (by simp;omega)];rfl
  simp only[dX,Ty,oBS];rw[ih (by omega) m _ (by omega) (by simp;omega)];simp[be]
theorem xA{n:Nat}{v:Int}{b:List Int}(hn:n<=7)(hb:b.length<=90000):fL n v b=some (b++be n v,()):=by
 unfold fL;rw[dP (x:=(n:Int)-1) (by omega) (by omega)];simp[LH v n hn NN b (by unfold NN;omega) (by omega)]
def cb(c:Int×Int×Int×Int):List Int:=if c.1=1 then[1,c.2.2.1+1]++be 2 c.2.2.2 else[c.1,0]++be 2 c.2.1
theorem As(c:Int×Int×Int×Int):(cb c).length=4:=by
 unfold cb;split<;>simp[kN]
theorem KF{c:Int×Int×Int×Int}{b:List Int}(h:iR c)(hb:b.length<=80000):iI c.1 c.2.1 c.2.2.1 c.2.2.2 b=some (b++cb c,()):=by
 obtain⟨t,v,r,o⟩:=c;unfold iI cb
 rcases h with⟨h1,h2,h3,h4,h5⟩|⟨h1,h2,h3⟩
 ·simp only at h1 h2 h3 h4 h5
  have ht:(t==1)=false:=by simp;omega
  simp only[ht,oCF];rw[eH (by decide) (by simp;omega)];have e:wk .i64 v=v:=wrap_i64 (by omega) (by omega);have hp:=xA (n:=2) (v:=v) (b:=b.append [t,0]) (by decide) (by show(b++[t,0]).length<=90000;simp;omega)
  simp_all
 ·simp only at h1 h2 h3;subst h1;simp only[beq_self_eq_true,oCT];rw[dP (x:=r+1) (by omega) (by omega),Eo,Int.emod_eq_of_lt (by omega) (by omega)];rw[eH (by decide) (by simp;omega)];simp only[oCT];have hp:=xA (n:=2) (v:=o) (b:=b.append [1,r+1]) (by decide) (by show(b++[1,r+1]).length<=90000;simp;omega)
  simp_all
theorem yl:∀l:List (Int×Int×Int×Int),(l.flatMap cb).length=4*l.length:=by
 intro l
 induction l with
 |nil=>rfl
 |cons x l ih=>rw[List.flatMap_cons,List.length_append,ih,As,oLC];omega
def lb(xs:List (Int×Int×Int×Int)):List Int:=(xs.length:Int)::xs.flatMap cb
theorem EO{xs:List (Int×Int×Int×Int)}{b:List Int}(h:∀c∈xs,iR c)(hl:xs.length<=255)(hb:b.length<=70000):gP xs b=some (b++lb xs,()):=by
 unfold gP;simp only[dQ,Eo];rw[Int.emod_eq_of_lt (by omega) (by omega),eH (by decide) (by simp;omega)]
 obtain⟨t,e,x6,x7,rfl⟩:=ms (f:=mT)
  (λs=>∃i:Nat,i<=xs.length/\s=(xs,(xs.length:Int),(i:Int),b++(xs.length:Int)::(xs.take i).flatMap cb,()))
  (λt=>∃x6 x7,t=(xs,(xs.length:Int),x6,x7,b++lb xs,()))
  (λs=>(s.2.1-s.2.2.1).toNat) (by
   rintro _ ⟨i,hi,rfl⟩;unfold mT;by_cases hn:(i:Int)<xs.length
   ·left
    have YZ:i<xs.length:=by omega
    have Zp:((xs.take i).flatMap cb).length<=4*i:=by
     rw[yl,oLT];omega
    have WW:(xs.take (i+1)).flatMap cb=(xs.take i).flatMap cb++cb xs[i]:=by
     rw[List.take_succ_eq_append_getElem YZ,List.flatMap_append];simp
    simp only[hn,decide_true,oCT,dM,oBS,dJ,oGE YZ];rw[KF (h _ (List.getElem_mem YZ)) (by rw[List.length_append,oLC];omega)];rw[dP (x:=(i:Int)+1) (by omega) (by omega)];refine⟨_,rfl,⟨i+1,by omega,?_⟩,by simp only;omega⟩
    simp_all
   ·right;simp only[hn,decide_false,oCF]
    have:i=xs.length:=by omega
    subst this
    exact⟨_,rfl,_,_,by rw[List.take_length];rfl⟩) NN (xs,(xs.length:Int),0,b.append [(xs.length:Int)],()) ⟨0,by omega,by simp⟩ (by show((xs.length:Int)-0).toNat<NN;unfold NN;omega)
 simp_all
theorem Ab{c:Int×Int×Int×Int}(h:iR c):g8 c.1 c.2.1 c.2.2.1 c.2.2.2=some (true,()):=by
 obtain⟨t,v,r,o⟩:=c;unfold g8
 rcases h with⟨h1,h2,h3,h4,h5⟩|⟨h1,h2,h3⟩
 ·simp only at h1 h2 h3 h4 h5;subst h2;subst h3
  rcases h1 with rfl|rfl<;>rfl
 ·simp only at h1 h2 h3;subst h1;subst h2
  rcases h3 with⟨rfl,h4,h5⟩|⟨h4,h5,h6,h7⟩
  ·simp[h4,h5]
  ·have hr:(r==-1)=false:=by simp;omega
   simp[hr,h4,h5,h6,h7]
theorem su{xs:List (Int×Int×Int×Int)}{n:Int}(h:∀c∈xs,iR c)(hl:(xs.length:Int)<=n)(hn:n<=1000):gE xs n=some (true,()):=by
 have Yj:fH xs=some (-1,()):=by
  unfold fH
  obtain⟨t,e,x1,x2,x3,x4,rfl⟩:=ms (f:=fZ)
   (λs=>∃i:Nat,i<=xs.length/\s=(xs,(xs.length:Int),(i:Int),()))
   (λt=>∃x1 x2 x3 x4,t=.inr (x1,x2,x3,x4,()))
   (λs=>(s.2.1-s.2.2.1).toNat) (by
    rintro _ ⟨i,hi,rfl⟩;unfold fZ;by_cases hn2:(i:Int)<xs.length
    ·left
     have YZ:i<xs.length:=by omega
     simp only[hn2,decide_true,oCT,dM,oBS,dJ,oGE YZ,kZ,Ab (h _ (List.getElem_mem YZ)),oNT,oCF];rw[dP (x:=(i:Int)+1) (by omega) (by omega)];exact⟨_,rfl,⟨i+1,by omega,rfl⟩,by simp only;omega⟩
    ·right;simp only[hn2,decide_false,oCF]
     exact⟨_,rfl,_,_,_,_,rfl⟩) NN (xs,(xs.length:Int),0,()) ⟨0,by omega,rfl⟩ (by show((xs.length:Int)-0).toNat<NN;unfold NN;omega)
  simp only[dQ,e]
 unfold gE f8;simp only[dQ,hl,decide_true,oCT,Yj,oBS];rfl
section
variable {a0 a1 a2 a3 a4 a5:Int} {a6 a7:List (Int×Int×Int×Int)}
theorem sU(h:M8 a0 a1 a2 a3 a4 a5 a6 a7):iv a0 a1 a2 a3 a4 a5 a6 a7=some (true,()):=by
 have hv:∀{x lo hi:Int},lo<=x/\x<=hi->ff x lo hi=some (true,()):=by
  intro x lo hi hx;unfold ff;simp[hx.1,hx.2]
 unfold iv;simp only[hv h.thread,hv h.stop,hv h.trap,hv h.count,hv h.pc,hv h.call,oBS,oCT];rw[su h.args.1 (by have:=h.args.2;omega) (by decide)];simp only[oBS,oCT];rw[su h.data.1 (by have:=h.data.2;omega) (by decide)];rfl
def rb(a0 a1 a2 a3 a4 a5:Int)(a6 a7:List (Int×Int×Int×Int)):List Int:=a0::a1::a2::(be 6 a3++a4::a5::(lb a6++lb a7))
theorem J3(xs:List (Int×Int×Int×Int)):(lb xs).length=4*xs.length+1:=by unfold lb;rw[oLC,yl]
theorem Cd(h:M8 a0 a1 a2 a3 a4 a5 a6 a7):gG a0 a1 a2 a3 a4 a5 a6 a7=some (rb a0 a1 a2 a3 a4 a5 a6 a7,0,()):=by
 have hu:∀{x:Int},0<=x->x<=255->wk .u8 x=x:=λh0 h1=>by rw[Eo];exact Int.emod_eq_of_lt h0 (by omega)
 obtain⟨⟨t0,t1⟩,⟨s0,s1⟩,⟨r0,r1⟩,⟨c0,c1⟩,⟨p0,p1⟩,⟨q0,q1⟩,⟨g1,g2⟩,g3,g4⟩:=h;unfold gG;rw[sU ⟨⟨t0,t1⟩,⟨s0,s1⟩,⟨r0,r1⟩,⟨c0,c1⟩,⟨p0,p1⟩,⟨q0,q1⟩,⟨g1,g2⟩,g3,g4⟩];simp only[oBS,oNT,oCF,hu t0 (by omega),hu s0 (by omega),hu r0 (by omega),hu p0 p1,hu q0 (by omega)];have hp:=xA (n:=6) (v:=a3) (b:=[a0,a1,a2]) (by decide) (by simp);rw[show((6:Nat):Int)=6 from rfl]at hp;rw[hp];simp only[oBS];rw[eH (by decide) (by simp[kN])];simp only[oCT];rw[EO g1 (by omega) (by show(([a0,a1,a2]++be 6 a3)++[a4,a5]).length<=70000;simp[kN])];simp only[oBS];rw[EO g3 (by omega) (by show((([a0,a1,a2]++be 6 a3)++[a4,a5])++lb a6).length<=70000;simp[kN,J3];omega)];simp only[oBS];show some (((([a0,a1,a2]++be 6 a3)++[a4,a5])++lb a6)++lb a7,0,())=_;unfold rb;simp
end
theorem LO{v x:Int}(h0:0<=v)(h1:v<281474976710656)(x0:0<=x)(x1:x<=255):arR .or .i64 (shR .shl .i64 v 8) (wk .i64 x)=v*256+x:=by
 have e1:shR .shl .i64 v 8=v*256:=by
  show IntKind.wrap .i64 (v*2 ^ (min 8 (IntKind.bits .i64)))=_
  have:(2:Int) ^ (min 8 (IntKind.bits .i64))=256:=by rfl
  rw[this];exact wrap_i64 (by omega) (by omega)
 have e2:wk .i64 x=x:=wrap_i64 (by omega) (by omega);rw[e1,e2];obtain⟨n,rfl⟩:∃n:Nat,v=n:=⟨v.toNat,by omega⟩;obtain⟨m,rfl⟩:∃m:Nat,x=m:=⟨x.toNat,by omega⟩;show IntKind.wrap .i64 ((BitVec.ofInt 64 ((n:Int)*256) ||| BitVec.ofInt 64 (m:Int)).toNat:Int)=_
 have e3:BitVec.ofInt 64 ((n:Int)*256)=BitVec.ofNat 64 (n*256):=by
  rw[show(n:Int)*256=((n*256:Nat):Int) by omega];exact BitVec.ofInt_natCast _ _
 have e4:BitVec.ofInt 64 (m:Int)=BitVec.ofNat 64 m:=BitVec.ofInt_natCast _ _
 have e5:(n*256 ||| m)=n*256+m:=by
  have:=Nat.shiftLeft_add_eq_or_of_lt (i:=8) (b:=m) (by omega) n;rw[Nat.shiftLeft_eq]at this;exact this.symm
 rw[e3,e4,BitVec.toNat_or,BitVec.toNat_ofNat,BitVec.toNat_ofNat,Nat.mod_eq_of_lt (by omega),Nat.mod_eq_of_lt (by omega),e5];rw[wrap_i64 (by omega) (by omega)];omega
def val(v:Int):List Int->Int
 | []=>v
 |x::r=>val (v*256+x) r
theorem G6:∀(n:Nat)(u v:Int),0<=v->val u (be n v)=u*256 ^ n+v%256 ^ n:=by
 intro n
 induction n with
 |zero=>intro u v h0;simp[be,val]
 |succ n ih=>
  intro u v h0;simp only[be,val];rw[ih _ v h0];obtain⟨k,rfl⟩:∃k:Nat,v=k:=⟨v.toNat,by omega⟩;have h:=Nat.mod_mul (a:=256 ^ n) (b:=256) (x:=k);have h2:((k%(256 ^ n*256):Nat):Int)=((k%256 ^ n+256 ^ n*(k/256 ^ n%256):Nat):Int):=congrArg _ h;simp only[Int.natCast_add,Int.natCast_mul,Int.natCast_emod,Int.natCast_ediv,Int.natCast_pow]at h2;rw[Int.pow_succ];rw[show((256:Nat):Int)=256 from rfl]at h2;rw[h2,Int.add_mul,Int.mul_assoc,Int.mul_comm 256 (256 ^ n),Int.mul_comm ((k:Int)/256 ^ n%256) (256 ^ n)];omega
theorem O2{n:Nat}{v:Int}(h0:0<=v)(h1:v<256 ^ n):val 0 (be n v)=v:=by
 rw[G6 n 0 v h0,Int.emod_eq_of_lt h0 h1];omega
def Byt(l:List Int):Prop:=∀x∈l,0<=x/\x<=255
theorem G7:∀(a b:List Int)(u:Int),val u (a++b)=val (val u a) b:=by
 intro a
 induction a with
 |nil=>intro b u;rfl
 |cons x a ih=>intro b u;exact ih b _
theorem O1:∀(l:List Int)(u:Int),Byt l->0<=u->0<=val u l/\val u l<(u+1)*256 ^ l.length:=by
 intro l
 induction l with
 |nil=>intro u _ h;simp[val];omega
 |cons x l ih=>
  intro u hb h;have hx:=hb x (by simp);obtain⟨h1,h2⟩:=ih (u*256+x) (λy hy=>hb y (by simp[hy])) (by omega);refine⟨h1,Int.lt_of_lt_of_le h2 ?_⟩;rw[oLC,Int.pow_succ,Int.mul_comm (256 ^ l.length) 256,<- Int.mul_assoc];exact Int.mul_le_mul_of_nonneg_right (by omega) (Int.le_of_lt (Int.pow_pos (by decide)))
theorem CK{ys rest:List Int}{n:Nat}(hb:Byt ys)(hn:ys.length=n)(h6:n<=6):dI n (ys++rest) false=some (val 0 ys,rest,false,()):=by
 have W':eS n (ys++rest) false=some (ys,rest,false,()):=by
  unfold eS
  have h1:¬((n:Int)>((ys++rest).length:Int)):=by rw[List.length_append];omega
  have h2:gi 0 n (ys++rest).length=true:=by simp[gi];omega
  have h3:gi n (ys++rest).length (ys++rest).length=true:=by simp[gi];omega
  have h4:lO (ys++rest) 0 (Nat.sub n 0)=ys:=by
   show((ys++rest).drop 0).take (n-0)=ys;rw[List.drop_zero,Nat.sub_zero,<- hn,List.take_left]
  have h5:lO (ys++rest) n (Nat.sub (ys++rest).length n)=rest:=by
   show((ys++rest).drop n).take ((ys++rest).length-n)=rest;rw[<- hn,List.drop_left,List.length_append,Nat.add_sub_cancel_left,List.take_length]
  simp only[oCF,dQ,h1,decide_false,dM,oBS,h2,oCT,h3,h4,h5]
 unfold dI;simp only[W',oBS,dQ]
 obtain⟨t,e,x6,x7,x8,x9,rfl⟩:=ms (f:=f9)
  (λs=>∃i:Nat,i<=ys.length/\s=(val 0 (ys.take i),ys,(ys.length:Int),(i:Int),rest,false,()))
  (λt=>∃x6 x7 x8 x9,t=(val 0 ys,x6,x7,x8,x9,rest,false,()))
  (λs=>(s.2.2.1-s.2.2.2.1).toNat) (by
   rintro _ ⟨i,hi,rfl⟩;unfold f9;by_cases hlt:(i:Int)<ys.length
   ·left
    have YZ:i<ys.length:=by omega
    have hx:=hb _ (List.getElem_mem YZ);have hv:=O1 (ys.take i) 0 (λx hx=>hb x (List.mem_of_mem_take hx)) (by omega);rw[oLT,Nat.min_eq_left hi]at hv
    have hp:(256:Int) ^ i<=256 ^ 5:=by
     have:=Nat.pow_le_pow_right (n:=256) (by decide) (show i<=5 by omega)
     have h2:((256 ^ i:Nat):Int)<=((256 ^ 5:Nat):Int):=by exact_mod_cast this
     simpa using h2
    have hp5:(256:Int) ^ 5=1099511627776:=by decide
    simp only[hlt,decide_true,oCT,dM,oBS,dJ,oGE YZ];rw[LO hv.1 (by omega) hx.1 hx.2,dP (x:=(i:Int)+1) (by omega) (by omega)];refine⟨_,rfl,⟨i+1,by omega,?_⟩,by simp only;omega⟩;rw[List.take_succ_eq_append_getElem YZ,G7];rfl
   ·right;simp only[hlt,decide_false,oCF]
    have:i=ys.length:=by omega
    subst this
    exact⟨_,rfl,_,_,_,_,by rw[List.take_length]⟩) NN (0,ys,(ys.length:Int),0,rest,false,()) ⟨0,by omega,by simp[val]⟩ (by show((ys.length:Int)-0).toNat<NN;unfold NN;omega)
 simp only[e,oBS]
theorem wt:∀(n:Nat)(v:Int),Byt (be n v):=by
 intro n
 induction n with
 |zero=>intro v x h;simp[be]at h
 |succ n ih=>
  intro v x h;rcases List.mem_cons.1 h with rfl|h
  ·exact⟨Int.emod_nonneg _ (by decide),by have:=Int.emod_lt_of_pos (v/256 ^ n) (show(0:Int)<256 by decide);omega⟩
  ·exact ih v x h
theorem fS{x:Int}{rest:List Int}(h0:0<=x)(h1:x<=255):dI 1 (x::rest) false=some (x,rest,false,()):=by
 have h:=CK (ys:=[x]) (rest:=rest) (n:=1) (λy hy=>by rw[List.mem_singleton.1 hy];exact⟨h0,h1⟩) rfl (by decide)
 have e:val 0 [x]=x:=by simp[val]
 rw[e]at h;exact h
theorem qy{n:Nat}{v:Int}{rest:List Int}(hn:n<=6)(h0:0<=v)(h1:v<256 ^ n):dI n (be n v++rest) false=some (v,rest,false,()):=by
 have h:=CK (ys:=be n v) (rest:=rest) (n:=n) (wt n v) (kN n v) hn;rw[O2 h0 h1]at h;exact h
theorem xz{c:Int×Int×Int×Int}{rest:List Int}(h:iR c):fb (cb c++rest) false=some (c.1,c.2.1,c.2.2.1,c.2.2.2,rest,false,()):=by
 obtain⟨t,v,r,o⟩:=c;unfold fb cb
 rcases h with⟨h1,h2,h3,h4,h5⟩|⟨h1,h2,h3⟩
 ·simp only at h1 h2 h3 h4 h5;subst h2;subst h3
  have Y9:¬t=1:=by omega
  simp only[oIN Y9,List.cons_append,List.nil_append];rw[fS (by omega) (by omega)];simp only[oBS];rw[fS (by decide) (by decide)];simp only[oBS];have h2:=qy (n:=2) (v:=v) (rest:=rest) (by decide) h4 (by show v<65536;omega);rw[show((2:Nat):Int)=2 from rfl]at h2;rw[h2]
  have et:wk .u8 t=t:=by rw[Eo];exact Int.emod_eq_of_lt (by omega) (by omega)
  have hb:(t==1)=false:=by simpa using Y9
  simp only[oBS,et,hb,oCF,OY h4 h5]
 ·simp only at h1 h2 h3;subst h1;subst h2
  have hr:-1<=r/\r<4/\0<=o/\o<=65535:=by omega
  simp only[if_true,List.cons_append,List.nil_append];rw[fS (by decide) (by decide)];simp only[oBS];rw[fS (by omega) (by omega)];simp only[oBS];have h2:=qy (n:=2) (v:=o) (rest:=rest) (by decide) hr.2.2.1 (by show o<65536;omega);rw[show((2:Nat):Int)=2 from rfl]at h2;rw[h2]
  have et:wk .u8 1=1:=by rw[Eo];rfl
  simp only[oBS,et,beq_self_eq_true,oCT];rw[dP (by omega) (by omega),show r+1-1=r by omega]
theorem sw{xs:List (Int×Int×Int×Int)}{rest:List Int}(h:∀c∈xs,iR c)(hl:xs.length<=255):eU (lb xs++rest) false=some (xs,rest,false,()):=by
 unfold eU lb;rw[List.cons_append,fS (by omega) (by omega)];simp only[oBS]
 obtain⟨t,e,x4,x5,rfl⟩:=ms (f:=gp)
  (λs=>∃i:Nat,i<=xs.length/\s=((xs.length:Int)-i,(xs.drop i).flatMap cb++rest,false,xs.take i,()))
  (λt=>∃x4 x5,t=(x4,x5,rest,false,xs,()))
  (λs=>s.1.toNat) (by
   rintro _ ⟨i,hi,rfl⟩;unfold gp;by_cases hlt:i<xs.length
   ·left
    have h0:(xs.length:Int)-i>0:=by omega
    rw[List.drop_eq_getElem_cons hlt,List.flatMap_cons,List.append_assoc];simp only[h0,decide_true,oCT,Bool.not_false];rw[xz (h _ (List.getElem_mem hlt))];simp only[oBS];rw[eH (by decide) (by simp;omega),dP (x:=(xs.length:Int)-i-1) (by omega) (by omega)];refine⟨_,rfl,⟨i+1,by omega,?_⟩,by simp only;omega⟩;rw[List.take_succ_eq_append_getElem hlt,show(xs.length:Int)-((i+1:Nat):Int)=xs.length-i-1 by omega];rfl
   ·right
    have:i=xs.length:=by omega
    subst this
    have h0:¬((xs.length:Int)-xs.length>0):=by omega
    simp only[h0,decide_false,oCF,List.drop_length,List.take_length,List.flatMap_nil,List.nil_append]
    exact⟨_,rfl,_,_,rfl⟩) NN ((xs.length:Int),xs.flatMap cb++rest,false,[],()) ⟨0,by omega,by simp⟩ (by show((xs.length:Int)).toNat<NN;unfold NN;omega)
 simp only[e,oBS]
theorem wq(b:List Int):kt b b=some (true,()):=by
 unfold kt Ix;simp
section
variable {a0 a1 a2 a3 a4 a5:Int} {a6 a7:List (Int×Int×Int×Int)}
theorem Jx(h:M8 a0 a1 a2 a3 a4 a5 a6 a7):jx (rb a0 a1 a2 a3 a4 a5 a6 a7)=some (a0,a1,a2,a3,a4,a5,a6,a7,0,()):=by
 have Uy:=Cd h;obtain⟨⟨t0,t1⟩,⟨s0,s1⟩,⟨r0,r1⟩,⟨c0,c1⟩,⟨p0,p1⟩,⟨q0,q1⟩,⟨g1,g2⟩,g3,g4⟩:=h;have h6:=qy (n:=6) (v:=a3) (rest:=a4::a5::(lb a6++lb a7)) (by decide) c0 (by show a3<281474976710656;omega);rw[show((6:Nat):Int)=6 from rfl]at h6;have h7:=sw (rest:=[]) g3 (by omega);rw[List.append_nil]at h7;unfold jx;have e0:dI 1 (rb a0 a1 a2 a3 a4 a5 a6 a7) false=some (a0,a1::a2::(be 6 a3++a4::a5::(lb a6++lb a7)),false,()):=fS t0 (by omega);simp only[e0,oBS,fS s0 (show a1<=255 by omega),fS r0 (show a2<=255 by omega),h6,fS p0 p1,fS q0 (show a5<=255 by omega),sw g1 (show a6.length<=255 by omega),h7,oCF,Uy,dQ,List.length_nil,wq];rfl
end
theorem qu{a b:List (Int×Int×Int×Int)}(ha:a.length<=1000):∃r,fX a b=some (r,())/\(r=true↔a=b):=by
 unfold fX;simp only[dQ];by_cases hl:a.length=b.length
 ·have hb:((a.length:Int) != (b.length:Int))=false:=by simp[hl]
  simp only[hb,oCF]
  obtain⟨t,e,ht⟩:=ms (f:=i8)
   (λs=>∃i:Nat,i<=a.length/\s=(a,b,(a.length:Int),(i:Int),())/\a.take i=b.take i)
   (λt=>(t=.inl (false,())/\a≠b)\/((∃x3 x4 x5 x6 x7,t=.inr (x3,x4,x5,x6,x7,()))/\a=b))
   (λs=>(s.2.2.1-s.2.2.2.1).toNat) (by
    rintro _ ⟨i,hi,rfl,WW⟩;unfold i8;by_cases hlt:(i:Int)<a.length
    ·have YZ:i<a.length:=by omega
     have UI:i<b.length:=by omega
     simp only[hlt,decide_true,oCT,dM,oBS,dJ,oGE YZ,oGE UI];by_cases he:a[i]=b[i]
     ·left;simp only[he,beq_self_eq_true,Bool.and_self,oNT,oCF];rw[dP (x:=(i:Int)+1) (by omega) (by omega)];refine⟨_,rfl,⟨i+1,by omega,rfl,?_⟩,by simp only;omega⟩;rw[List.take_succ_eq_append_getElem YZ,List.take_succ_eq_append_getElem UI,WW,he]
     ·right
      have hf:((a[i].1==b[i].1)&&((a[i].2.1==b[i].2.1)&&((a[i].2.2.1==b[i].2.2.1)&&((a[i].2.2.2==b[i].2.2.2)&&true))))=false:=by
       cases hq:((a[i].1==b[i].1)&&((a[i].2.1==b[i].2.1)&&((a[i].2.2.1==b[i].2.2.1)&&((a[i].2.2.2==b[i].2.2.2)&&true))))with
       |false=>rfl
       |true=>
        simp only[oBA,beq_iff_eq,and_true]at hq;exact absurd (Prod.ext hq.1 (Prod.ext hq.2.1 (Prod.ext hq.2.2.1 hq.2.2.2))) he
      simp only[hf,Bool.not_false,oCT];exact⟨_,rfl,.inl ⟨rfl,λh=>he (by subst h;rfl)⟩⟩
    ·right;simp only[hlt,decide_false,oCF]
     have:i=a.length:=by omega
     subst this;refine⟨_,rfl,.inr ⟨⟨_,_,_,_,_,rfl⟩,?_⟩⟩;rw[List.take_length]at WW
     rw[WW,hl,List.take_length]) NN (a,b,(a.length:Int),0,()) ⟨0,by omega,rfl,by simp⟩ (by show((a.length:Int)-0).toNat<NN;unfold NN;omega)
  rcases ht with⟨rfl,hne⟩|⟨⟨x3,x4,x5,x6,x7,rfl⟩,UF⟩
  ·exact⟨false,by simp only[e],by simp[hne]⟩
  ·exact⟨true,by simp only[e],by simp[UF]⟩
 ·have hb:((a.length:Int) != (b.length:Int))=true:=by simp;omega
  simp only[hb,oCT];exact⟨false,rfl,by simp;intro h;exact hl (by rw[h])⟩
theorem NR{a0 a1 a2 a3 a4 a5:Int}{a6 a7:List (Int×Int×Int×Int)}{b0 b1 b2 b3 b4 b5:Int}{b6 b7:List (Int×Int×Int×Int)}(h6:a6.length<=1000)(h7:a7.length<=1000):
 ∃r,nB a0 a1 a2 a3 a4 a5 a6 a7 b0 b1 b2 b3 b4 b5 b6 b7=some (r,())/\(r=true↔a0=b0/\a1=b1/\a2=b2/\a3=b3/\a4=b4/\a5=b5/\a6=b6/\a7=b7):=by
 obtain⟨r,e1,g1⟩:=qu (b:=b6) h6;obtain⟨s,e2,g2⟩:=qu (b:=b7) h7;unfold nB;by_cases k0:a0=b0
 ·by_cases k1:a1=b1
  ·by_cases k2:a2=b2
   ·by_cases k3:a3=b3
    ·by_cases k4:a4=b4
     ·by_cases k5:a5=b5
      ·subst k0 k1 k2 k3 k4 k5
       cases r with
       |true=>
        refine⟨s,by simp[e1,e2],?_⟩;rw[g2];have:=g1.1 rfl;simp[this]
       |false=>
        refine⟨false,by simp[e1],?_⟩
        have:a6≠b6:=λh=>by simpa using g1.2 h
        simp[this]
      ·exact⟨false,by have kb:=oBF k5;simp[k0,k1,k2,k3,k4,kb],by simp[k5]⟩
     ·exact⟨false,by have kb:=oBF k4;simp[k0,k1,k2,k3,kb],by simp[k4]⟩
    ·exact⟨false,by have kb:=oBF k3;simp[k0,k1,k2,kb],by simp[k3]⟩
   ·exact⟨false,by have kb:=oBF k2;simp[k0,k1,kb],by simp[k2]⟩
  ·exact⟨false,by have kb:=oBF k1;simp[k0,kb],by simp[k1]⟩
 ·exact⟨false,by have kb:=oBF k0;simp[kb],by simp[k0]⟩
theorem mI(l:List Int):(lX l).data.toList=l.map λn=>UInt8.ofNat n.toNat:=by
 have key:∀(l:List Int)(r:ByteArray),(l.foldl (λr n=>r.push (UInt8.ofNat n.toNat)) r).data.toList=r.data.toList++l.map λn=>UInt8.ofNat n.toNat:=by
  intro l
  induction l with
  |nil=>intro r;simp
  |cons x l ih=>intro r;rw[List.foldl_cons,ih];simp[ByteArray.push]
 unfold lX;rw[key];rfl
theorem Mp{a b:List Int}(ha:Byt a)(hb:Byt b):Ix (lX a) (lX b)=true↔a=b:=by
 unfold Ix;rw[ByteArray.toList_eq,ByteArray.toList_eq,mI,mI,beq_iff_eq];refine⟨λh=>?_,λh=>by rw[h]⟩
 induction a generalizing b with
 |nil=>cases b with
  |nil=>rfl
  |cons y b=>simp at h
 |cons x a ih=>
  cases b with
  |nil=>simp at h
  |cons y b=>
   simp only[List.map_cons,List.cons.injEq]at h;have e:=ih (λz hz=>ha z (List.mem_cons_of_mem _ hz)) (λz hz=>hb z (List.mem_cons_of_mem _ hz)) h.2;have p:=ha x List.mem_cons_self;have q:=hb y List.mem_cons_self
   have e0:x.toNat=y.toNat:=by
    have:=congrArg UInt8.toNat h.1;simpa[UInt8.toNat_ofNat',Nat.mod_eq_of_lt (show x.toNat<256 by omega),Nat.mod_eq_of_lt (show y.toNat<256 by omega)]using this
   rw[e,show x=y by omega]
theorem byt_append{a b:List Int}(ha:Byt a)(hb:Byt b):Byt (a++b):=λx hx=>(List.mem_append.1 hx).elim (ha x) (hb x)
theorem fq{x:Int}{l:List Int}(h:0<=x/\x<=255)(hl:Byt l):Byt (x::l):=λy hy=>(List.mem_cons.1 hy).elim (λe=>e▸h) (hl y)
theorem M2{c:Int×Int×Int×Int}(h:iR c):Byt (cb c):=by
 obtain⟨t,v,r,o⟩:=c;unfold cb
 rcases h with⟨h1,h2,h3,h4,h5⟩|⟨h1,h2,h3⟩
 ·simp only at h1 h2 h3 h4 h5;rw[oIN (by show ¬t=1;omega)];exact fq (by show 0<=t/\t<=255;omega) (fq (by decide) (wt _ _))
 ·simp only at h1 h2 h3;rw[oIP h1];exact fq (by decide) (fq (by show 0<=r+1/\r+1<=255;omega) (wt _ _))
theorem KK{xs:List (Int×Int×Int×Int)}(h:∀c∈xs,iR c)(hl:xs.length<=255):Byt (lb xs):=by
 refine fq (by omega) λx hx=>?_;obtain⟨c,hc,hx⟩:=List.mem_flatMap.1 hx;exact M2 (h c hc) x hx
theorem M0{a0 a1 a2 a3 a4 a5:Int}{a6 a7:List (Int×Int×Int×Int)}(h:M8 a0 a1 a2 a3 a4 a5 a6 a7):Byt (rb a0 a1 a2 a3 a4 a5 a6 a7):=by
 obtain⟨⟨t0,t1⟩,⟨s0,s1⟩,⟨r0,r1⟩,⟨c0,c1⟩,⟨p0,p1⟩,⟨q0,q1⟩,⟨g1,g2⟩,g3,g4⟩:=h;exact fq (by omega) (fq (by omega) (fq (by omega) (byt_append (wt _ _) (fq (by omega) (fq (by omega) (byt_append (KK g1 (by omega)) (KK g3 (by omega))))))))
theorem uB{x:Int}(h0:0<=x)(h1:x<=255):wk .u8 x=x:=by rw[Eo];exact Int.emod_eq_of_lt h0 (by omega)
theorem J5{α:Type}(a b:List α):List.append a b=a++b:=rfl
theorem vn{a0 a1 a2 a3 a4 a5:Int}{a6 a7:List DCn}:(rb a0 a1 a2 a3 a4 a5 a6 a7).length=13+4*a6.length+4*a7.length:=by
 unfold rb;simp only[oLC,List.length_append,kN,J3];omega
theorem Ga{ys rest:List Int}:eS (ys.length:Int) (ys++rest) false=some (ys,rest,false,()):=by
 unfold eS
 have h1:¬((ys.length:Int)>((ys++rest).length:Int)):=by rw[List.length_append];omega
 have h2:gi 0 ys.length (ys++rest).length=true:=by simp[gi]
 have h3:gi ys.length (ys++rest).length (ys++rest).length=true:=by simp[gi]
 have h4:lO (ys++rest) 0 (Nat.sub ys.length 0)=ys:=by
  show((ys++rest).drop 0).take (ys.length-0)=ys;rw[List.drop_zero,Nat.sub_zero,List.take_left]
 have h5:lO (ys++rest) ys.length (Nat.sub (ys++rest).length ys.length)=rest:=by
  show((ys++rest).drop ys.length).take ((ys++rest).length-ys.length)=rest;rw[List.drop_left,List.length_append,Nat.add_sub_cancel_left,List.take_length]
 simp only[oCF,dQ,h1,decide_false,dM,oBS,h2,oCT,h3,h4,h5]
def xb(t v rg o:Int)(dat:List DCn)(sp:Int)(w:Bool):List Int:=cb (t,v,rg,o)++(sp+1)::(bif w then 1 else 0)::lb dat
def wb:DEn->List Int
 |(k,i,n,a0,a1,a2,a3,a4,a5,a6,a7,t,v,rg,o,dat,sp,w)=>
  k::i::n::(be 2 (if k=1\/k=2 then rb a0 a1 a2 a3 a4 a5 a6 a7 else[]).length++((if k=1\/k=2 then rb a0 a1 a2 a3 a4 a5 a6 a7 else[])++(if k=2\/k=4 then xb t v rg o dat sp w else[])))
theorem AO{v:Int}(h:W16 v):iR (0,v,0,0):=.inl ⟨.inl rfl,rfl,rfl,h.1,h.2⟩
theorem nilc:(∀c∈([]:List DCn),iR c)/\([]:List DCn).length<=16:=⟨(λc hc=>by cases hc),by decide⟩
theorem MN{t v rg o sp:Int}{dat:List DCn}{w:Bool}:(xb t v rg o dat sp w).length=7+4*dat.length:=by
 unfold xb;simp only[oLC,List.length_append,As,J3];omega
section
variable (i n a0 a1 a2 a3 a4 a5:Int) (a6 a7:List DCn) (t v rg o:Int) (dat:List DCn) (sp:Int) (w:Bool)
theorem wb1:wb (1,i,n,a0,a1,a2,a3,a4,a5,a6,a7,t,v,rg,o,dat,sp,w)=1::i::n::(be 2 (rb a0 a1 a2 a3 a4 a5 a6 a7).length++rb a0 a1 a2 a3 a4 a5 a6 a7):=by simp[wb]
theorem wb2:wb (2,i,n,a0,a1,a2,a3,a4,a5,a6,a7,t,v,rg,o,dat,sp,w)=2::i::n::(be 2 (rb a0 a1 a2 a3 a4 a5 a6 a7).length++(rb a0 a1 a2 a3 a4 a5 a6 a7++xb t v rg o dat sp w)):=by simp[wb]
theorem wb3:wb (3,i,n,a0,a1,a2,a3,a4,a5,a6,a7,t,v,rg,o,dat,sp,w)=3::i::n::be 2 0:=by simp[wb]
theorem wb4:wb (4,i,n,a0,a1,a2,a3,a4,a5,a6,a7,t,v,rg,o,dat,sp,w)=4::i::n::(be 2 0++xb t v rg o dat sp w):=by simp[wb]
end
theorem O0{e:DEn}(h:ww e):(wb e).length<=165:=by
 cases h with
 |slice hr _ _=>
  have h1:=hr.args.2;have h2:=hr.data.2;simp only[wb1,oLC,List.length_append,kN,vn];omega
 |result hr _ hd _=>
  have h1:=hr.args.2;have h2:=hr.data.2;have h3:=hd.2;simp only[wb2,oLC,List.length_append,kN,vn,MN];omega
 |signal _=>
  simp only[wb3,oLC,List.length_append,kN];omega
 |wake _ _=>
  simp only[wb4,oLC,List.length_append,kN,MN,List.length_nil];omega
theorem MZ{t v rg o sp:Int}{dat:List DCn}{w:Bool}(hc:iR (t,v,rg,o))(hd:(∀c∈dat,iR c)/\dat.length<=16)(hs:-1<=sp/\sp<=3):Byt (xb t v rg o dat sp w):=
 byt_append (M2 hc) (fq (by omega) (fq (by cases w<;>decide) (KK hd.1 (by have:=hd.2;omega))))
theorem PE{e:DEn}(h:ww e):Byt (wb e):=by
 cases h with
 |slice hr _ hk=>rw[wb1];exact fq (by decide) (fq (by have:=hr.thread;omega) (fq (by omega) (byt_append (wt _ _) (M0 hr))))
 |result hr hc hd hs=>rw[wb2];exact fq (by decide) (fq (by have:=hr.thread;omega) (fq (by decide) (byt_append (wt _ _) (byt_append (M0 hr) (MZ hc hd hs)))))
 |signal hi=>rw[wb3];exact fq (by decide) (fq (by omega) (fq (by decide) (wt _ _)))
 |wake hi hv=>rw[wb4];exact fq (by decide) (fq (by omega) (fq (by decide) (byt_append (wt _ _) (MZ (AO hv) nilc (by decide)))))
def enV(e:DEn):Option (Bool×Unit):=eZ e.1 e.2.1 e.2.2.1 e.2.2.2.1 e.2.2.2.2.1 e.2.2.2.2.2.1 e.2.2.2.2.2.2.1 e.2.2.2.2.2.2.2.1 e.2.2.2.2.2.2.2.2.1 e.2.2.2.2.2.2.2.2.2.1 e.2.2.2.2.2.2.2.2.2.2.1 e.2.2.2.2.2.2.2.2.2.2.2.1 e.2.2.2.2.2.2.2.2.2.2.2.2.1 e.2.2.2.2.2.2.2.2.2.2.2.2.2.1 e.2.2.2.2.2.2.2.2.2.2.2.2.2.2.1 e.2.2.2.2.2.2.2.2.2.2.2.2.2.2.2.1 e.2.2.2.2.2.2.2.2.2.2.2.2.2.2.2.2.1 e.2.2.2.2.2.2.2.2.2.2.2.2.2.2.2.2.2
def enW(e:DEn)(b:List Int):Option (List Int×Unit):=fj e.1 e.2.1 e.2.2.1 e.2.2.2.1 e.2.2.2.2.1 e.2.2.2.2.2.1 e.2.2.2.2.2.2.1 e.2.2.2.2.2.2.2.1 e.2.2.2.2.2.2.2.2.1 e.2.2.2.2.2.2.2.2.2.1 e.2.2.2.2.2.2.2.2.2.2.1 e.2.2.2.2.2.2.2.2.2.2.2.1 e.2.2.2.2.2.2.2.2.2.2.2.2.1 e.2.2.2.2.2.2.2.2.2.2.2.2.2.1 e.2.2.2.2.2.2.2.2.2.2.2.2.2.2.1 e.2.2.2.2.2.2.2.2.2.2.2.2.2.2.2.1 e.2.2.2.2.2.2.2.2.2.2.2.2.2.2.2.2.1 e.2.2.2.2.2.2.2.2.2.2.2.2.2.2.2.2.2 b
theorem O6:∀xs:List DCn,∃r,fu xs []=some (r,())
 | []=>⟨true,by kernel_rfl⟩
 |x::xs=>⟨false,by
  have h:(((x::xs).length:Int) != (([]:List DCn).length:Int))=true:=by
   rw[bne_iff_ne,oLC,List.length_nil];omega
  unfold fu
  simp only[dQ,h,oCT]⟩
theorem Jm(a0 a1 a2 a3 a4 a5:Int)(a6 a7:List DCn):∃r,fU a0 a1 a2 a3 a4 a5 a6 a7 0 0 0 0 0 0 [] []=some (r,()):=by
 obtain⟨r,e1⟩:=O6 a6;obtain⟨s,e2⟩:=O6 a7;unfold fU;rw[e1,e2];cases a0==0<;>cases a1==0<;>cases a2==0<;>cases a3==0<;>cases a4==0<;>cases a5==0<;>cases r<;>exact⟨_,rfl⟩
theorem OT:M8 0 0 0 0 0 0 [] []:=⟨by decide,by decide,by decide,by decide,by decide,by decide,⟨(λc hc=>by cases hc),by decide⟩,nilc⟩
theorem Cv:fU 0 0 0 0 0 0 [] [] 0 0 0 0 0 0 [] []=some (true,()):=by
 have h:fu [] []=some (true,()):=by kernel_rfl
 unfold fU;simp only[beq_self_eq_true,oCT,h,oBS]
theorem DW{t v rg o sp:Int}{dat:List DCn}{w:Bool}(hc:iR (t,v,rg,o))(hd:(∀c∈dat,iR c)/\dat.length<=16)(hs:-1<=sp/\sp<=3):hU t v rg o dat sp w=some (true,()):=by
 unfold hU;have h1:g8 t v rg o=some (true,()):=Ab hc;have h2:=su (n:=16) hd.1 (by have:=hd.2;omega) (by decide);simp only[h1,h2,oBS,oCT,oDT (show sp>=-1 from hs.1),oDT (show sp<4 by omega)]
theorem Ag:gY 0 0 0 0 [] 0 false=some (true,()):=by kernel_rfl
theorem Ib{e:DEn}(h:ww e):enV e=some (true,()):=by
 cases h with
 | @slice i k stop trap count pc call args data hr hs hk=>
  obtain⟨r,er⟩:=Jm i stop trap count pc call args data;show eZ 1 i k i stop trap count pc call args data 0 0 0 0 [] 0 false=_;unfold eZ;have hi:=hr.thread;rw[oDF (show ¬i<0 by omega),oDF (show ¬i>=4 by omega),sU hr,er,Ag];simp only[oCF,oCT,oBS,beq_self_eq_true,oDT hk.1,oDT hk.2,bne_iff_ne.2 hs]
 | @result i trap count pc call args data t v rg o sp dat w hr hc hd hs=>
  obtain⟨r,er⟩:=Jm i 1 trap count pc call args data;show eZ 2 i 0 i 1 trap count pc call args data t v rg o dat sp w=_;unfold eZ;have hi:=hr.thread;rw[oDF (show ¬i<0 by omega),oDF (show ¬i>=4 by omega),sU hr,er,DW hc hd hs];simp only[oCF,oCT,oBS,beq_self_eq_true,Int.reduceBEq]
 | @signal i hi=>
  show eZ 3 i 0 0 0 0 0 0 0 [] [] 0 0 0 0 [] 0 false=_;unfold eZ;rw[oDF (show ¬i<0 by omega),oDF (show ¬i>=4 by omega),sU OT,Cv,Ag];simp only[oCF,oCT,oBS,beq_self_eq_true,Int.reduceBEq]
 | @wake i v hi hv=>
  show eZ 4 i 0 0 0 0 0 0 0 [] [] 0 v 0 0 [] (-1) false=_;unfold eZ;rw[oDF (show ¬i<0 by omega),oDF (show ¬i>=4 by omega),sU OT,Cv,DW (AO hv) nilc (by decide)];simp only[oCF,oCT,oBS,beq_self_eq_true,Int.reduceBEq,dQ,List.length_nil,Bool.not_false];rfl
theorem KT{t v rg o sp:Int}{dat:List DCn}{w:Bool}{b:List Int}(hc:iR (t,v,rg,o))(hd:(∀c∈dat,iR c)/\dat.length<=16)(hs:-1<=sp/\sp<=3)(hb:b.length<=60000):
 iI t v rg o b=some (b++cb (t,v,rg,o),())/\wk .u8 (w64 (sp+1))=sp+1/\dV 1 (List.length (b++cb (t,v,rg,o))) (List.length [sp+1])=true/\(∀x:Int,dV 1 (List.length (List.append (b++cb (t,v,rg,o)) [sp+1])) (List.length [x])=true)/\
 ∀x:Int,gP dat (List.append (List.append (b++cb (t,v,rg,o)) [sp+1]) [x])=some (b++(cb (t,v,rg,o)++(sp+1)::x::lb dat),()):=by
 have h4:=As (t,v,rg,o);refine⟨KF hc (by omega),?_,eH (by decide) (by simp only[List.length_append,oLC,List.length_nil];omega),λx=>eH (by decide) (by rw[J5];simp only[List.length_append,oLC,List.length_nil];omega),λx=>?_⟩
 ·rw[dP (by omega) (by omega),uB (by omega) (by omega)]
 ·rw[EO hd.1 (by have:=hd.2;omega) (by rw[J5,J5];simp only[List.length_append,oLC,List.length_nil];omega)];simp only[J5,List.append_assoc,List.cons_append,List.nil_append]
theorem Ia{e:DEn}(h:ww e){b:List Int}(hb:b.length<=50000):enW e b=some (b++wb e,()):=by
 cases h with
 | @slice i k stop trap count pc call args data hr hs hk=>
  show fj 1 i k i stop trap count pc call args data 0 0 0 0 [] 0 false b=_;have hi:=hr.thread;have l1:=hr.args.2;have l2:=hr.data.2
  have hl:(rb i stop trap count pc call args data).length<=100:=by rw[vn];omega
  have hp:∀b':List Int,b'.length<=90000->fL 2 ((rb i stop trap count pc call args data).length:Int) b'=some (b'++be 2 ((rb i stop trap count pc call args data).length:Int),()):=λb' h=>xA (n:=2) (by decide) h;unfold fj iZ eI;simp only[beq_self_eq_true,oCT,oCF,oBS,Cd hr,uB (x:=1) (by decide) (by decide),uB (x:=i) (by omega) (by omega),uB (x:=k) (by omega) (by omega),dQ,Int.reduceBEq,Bool.not_false,J5];rw[eH (by decide) (by simp only[oLC,List.length_nil];omega),oCT,hp _ (by simp only[List.length_append,oLC,List.length_nil];omega)];simp only[oBS];rw[eH (by decide) (by simp only[List.length_append,oLC,List.length_nil,kN];omega),oCT];simp only[wb1,List.append_assoc,List.cons_append,List.nil_append]
 | @result i trap count pc call args data t v rg o sp dat w hr hc hd hs=>
  show fj 2 i 0 i 1 trap count pc call args data t v rg o dat sp w b=_;have hi:=hr.thread;have l1:=hr.args.2;have l2:=hr.data.2
  have hl:(rb i 1 trap count pc call args data).length<=100:=by rw[vn];omega
  have hp:∀b':List Int,b'.length<=90000->fL 2 ((rb i 1 trap count pc call args data).length:Int) b'=some (b'++be 2 ((rb i 1 trap count pc call args data).length:Int),()):=λb' h=>xA (n:=2) (by decide) h;unfold fj iZ eI;simp only[beq_self_eq_true,oCT,oCF,oBS,Cd hr,uB (x:=2) (by decide) (by decide),uB (x:=i) (by omega) (by omega),uB (x:=0) (by decide) (by decide),dQ,Int.reduceBEq,oNT,J5];rw[eH (by decide) (by simp only[oLC,List.length_nil];omega),oCT,hp _ (by simp only[List.length_append,oLC,List.length_nil];omega)];simp only[oBS];rw[eH (by decide) (by simp only[List.length_append,oLC,List.length_nil,kN];omega),oCT];obtain⟨e1,e2,e3,e4,e5⟩:=KT (w:=w) (b:=((b++[(2:Int),i,0])++be 2 ((rb i 1 trap count pc call args data).length:Int))++rb i 1 trap count pc call args data) hc hd hs (by simp only[List.length_append,oLC,List.length_nil,kN];omega);simp only[J5]at e1 e2 e3 e4 e5;rw[e1];simp only[oBS,e2];rw[e3]
  cases w with
  |true=>
   simp only[oCT];rw[eH (by decide) (by simp only[List.length_append,oLC,List.length_nil,kN,As];omega)];simp only[oCT,oBS];rw[e5 1,wb2];simp only[oBS,xb,oCT,List.append_assoc,List.cons_append,List.nil_append]
  |false=>
   simp only[oCT,oCF];rw[eH (by decide) (by simp only[List.length_append,oLC,List.length_nil,kN,As];omega)];simp only[oCT,oBS];rw[e5 0,wb2];simp only[oBS,xb,oCF,List.append_assoc,List.cons_append,List.nil_append]
 | @signal i hi=>
  show fj 3 i 0 0 0 0 0 0 0 [] [] 0 0 0 0 [] 0 false b=_;have hp:∀b':List Int,b'.length<=90000->fL 2 0 b'=some (b'++be 2 0,()):=λb' h=>xA (n:=2) (by decide) h;unfold fj iZ eI;simp only[Int.reduceBEq,oCF,oBS,uB (x:=3) (by decide) (by decide),uB (x:=i) (by omega) (by omega),uB (x:=0) (by decide) (by decide),Bool.not_false,J5];rw[eH (by decide) (by simp only[oLC,List.length_nil];omega),oCT,hp _ (by simp only[List.length_append,oLC,List.length_nil];omega)];simp only[oBS];rw[eH (by decide) (by simp only[List.length_append,oLC,List.length_nil,kN];omega),wb3];simp only[oCT,List.append_assoc,List.cons_append,List.nil_append]
 | @wake i v hi hv=>
  show fj 4 i 0 0 0 0 0 0 0 [] [] 0 v 0 0 [] (-1) false b=_;have hp:∀b':List Int,b'.length<=90000->fL 2 0 b'=some (b'++be 2 0,()):=λb' h=>xA (n:=2) (by decide) h;unfold fj iZ eI;simp only[Int.reduceBEq,oCF,oBS,uB (x:=4) (by decide) (by decide),uB (x:=i) (by omega) (by omega),uB (x:=0) (by decide) (by decide),oNT,J5];rw[eH (by decide) (by simp only[oLC,List.length_nil];omega),oCT,hp _ (by simp only[List.length_append,oLC,List.length_nil];omega)];simp only[oBS];rw[eH (by decide) (by simp only[List.length_append,oLC,List.length_nil,kN];omega),oCT];obtain⟨e1,e2,e3,e4,e5⟩:=KT (w:=false) (sp:=-1) (b:=(b++[(4:Int),i,0])++be 2 0) (AO hv) nilc (by decide) (by simp only[List.length_append,oLC,List.length_nil,kN];omega);simp only[J5]at e1 e2 e3 e4 e5;rw[e1];simp only[oBS,e2];rw[e3];simp only[oCT];rw[eH (by decide) (by simp only[List.length_append,oLC,List.length_nil,kN,As];omega)];simp only[oCT,oBS];rw[e5 0,wb4];simp only[oBS,xb,oCF,List.append_assoc,List.cons_append,List.nil_append]
theorem FQ{t v rg o sp:Int}{dat:List DCn}{w:Bool}{rest:List Int}(hc:iR (t,v,rg,o))(hd:(∀c∈dat,iR c)/\dat.length<=16)(hs:-1<=sp/\sp<=3):
 fb (xb t v rg o dat sp w++rest) false=some (t,v,rg,o,(sp+1)::(bif w then 1 else 0)::(lb dat++rest),false,())/\dI 1 ((sp+1)::(bif w then 1 else 0)::(lb dat++rest)) false=some (sp+1,(bif w then 1 else 0)::(lb dat++rest),false,())/\
 w64 (sp+1-1)=sp/\dI 1 ((bif w then 1 else 0)::(lb dat++rest)) false=some (bif w then 1 else 0,lb dat++rest,false,())/\((bif w then 1 else 0:Int)==1)=w/\eU (lb dat++rest) false=some (dat,rest,false,()):=by
 refine⟨?_,fS (by omega) (by omega),?_,fS (by cases w<;>decide) (by cases w<;>decide),by cases w<;>rfl,sw hd.1 (by have:=hd.2;omega)⟩
 ·have h:=xz (rest:=(sp+1)::(bif w then 1 else 0)::(lb dat++rest)) hc;unfold xb;rw[List.append_assoc];exact h
 ·rw[dP (by omega) (by omega)];omega
def enR(e:DEn)(rest:List Int):(Int×Int×Int×Int×Int×Int×Int×Int×Int×(List DCn)×(List DCn)×Int×Int×Int×Int×(List DCn)×Int×Bool×Bool×(List (Int))×Bool×Unit):=(e.1,e.2.1,e.2.2.1,e.2.2.2.1,e.2.2.2.2.1,e.2.2.2.2.2.1,e.2.2.2.2.2.2.1,e.2.2.2.2.2.2.2.1,e.2.2.2.2.2.2.2.2.1,e.2.2.2.2.2.2.2.2.2.1,e.2.2.2.2.2.2.2.2.2.2.1,e.2.2.2.2.2.2.2.2.2.2.2.1,e.2.2.2.2.2.2.2.2.2.2.2.2.1,e.2.2.2.2.2.2.2.2.2.2.2.2.2.1,e.2.2.2.2.2.2.2.2.2.2.2.2.2.2.1,e.2.2.2.2.2.2.2.2.2.2.2.2.2.2.2.1,e.2.2.2.2.2.2.2.2.2.2.2.2.2.2.2.2.1,e.2.2.2.2.2.2.2.2.2.2.2.2.2.2.2.2.2,true,rest,false,())
theorem Qr{r:List Int}:dI 2 (be 2 0++r) false=some (0,r,false,()):=qy (n:=2) (by decide) (by decide) (by decide)
theorem Pf{r:List Int}:eS 0 r false=some ([],r,false,()):=Ga (ys:=[]) (rest:=r)
theorem Kv{e:DEn}(h:ww e){rest:List Int}:gT (wb e++rest) false=some (enR e rest):=by
 have hbe:=λ(n:Nat)(hn:n<=65535)(r:List Int)=>qy (n:=2) (v:=(n:Int)) (rest:=r) (by decide) (by omega) (by show(n:Int)<65536;omega);have hrp:=λ(x r:List Int)=>Ga (ys:=x) (rest:=r)
 cases h with
 | @slice i k stop trap count pc call args data hr hs hk=>
  have hi:=hr.thread;have l1:=hr.args.2;have l2:=hr.data.2
  have hl:(rb i stop trap count pc call args data).length<=100:=by rw[vn];omega
  have XU:0<(rb i stop trap count pc call args data).length:=by rw[vn];omega
  rw[wb1];unfold gT eI;simp only[List.cons_append,List.append_assoc];rw[fS (by decide) (by decide),oBS];dsimp only;rw[fS (by omega) (by omega),oBS];dsimp only;rw[fS (by omega) (by omega),oBS];dsimp only;rw[show(2:Int)=((2:Nat):Int)from rfl,hbe _ (by omega),oBS];dsimp only;rw[hrp,oBS];dsimp only;rw[dQ,oDT (by omega),oCT,Jx hr];rfl
 | @result i trap count pc call args data t v rg o sp dat w hr hc hd hs=>
  have hi:=hr.thread;have l1:=hr.args.2;have l2:=hr.data.2
  have hl:(rb i 1 trap count pc call args data).length<=100:=by rw[vn];omega
  have XU:0<(rb i 1 trap count pc call args data).length:=by rw[vn];omega
  obtain⟨e1,e2,e3,e4,e5,e6⟩:=FQ (w:=w) (rest:=rest) hc hd hs;rw[wb2];unfold gT eI;simp only[List.cons_append,List.append_assoc];rw[fS (by decide) (by decide),oBS];dsimp only;rw[fS (by omega) (by omega),oBS];dsimp only;rw[fS (by decide) (by decide),oBS];dsimp only;rw[show dI 2=dI ((2:Nat):Int)from rfl,hbe _ (by omega),oBS];dsimp only;rw[hrp,oBS];dsimp only;rw[dQ,oDT (by omega),oCT,Jx hr,oBS];dsimp only;simp only[beq_self_eq_true,oCT,oBS,e1,e2,e3,e4,e5,e6];rfl
 | @signal i hi=>
  rw[wb3];unfold gT eI;simp only[List.cons_append];rw[fS (by decide) (by decide),oBS];dsimp only;rw[fS (by omega) (by omega),oBS];dsimp only;rw[fS (by decide) (by decide),oBS];dsimp only;rw[Qr,oBS];dsimp only;rw[Pf,oBS];rfl
 | @wake i v hi hv=>
  obtain⟨e1,e2,e3,e4,e5,e6⟩:=FQ (w:=false) (sp:=-1) (rest:=rest) (AO hv) nilc (by decide);rw[wb4];unfold gT eI;simp only[List.cons_append,List.append_assoc];rw[fS (by decide) (by decide),oBS];dsimp only;rw[fS (by omega) (by omega),oBS];dsimp only;rw[fS (by decide) (by decide),oBS];dsimp only;rw[Qr,oBS];dsimp only;rw[Pf,oBS];dsimp only;simp only[oCF]at e1 e2 e4 e5;simp only[dQ,List.length_nil,show decide (((0:Nat):Int)>0)=false from rfl,Int.reduceBEq,oCT,oCF,oBS,e1,e2,e3,e4,e5,e6,beq_self_eq_true];rfl
theorem Oq{e:DEn}(h:ww e):i3 e.1 e.2.1 e.2.2.1 e.2.2.2.1 e.2.2.2.2.1 e.2.2.2.2.2.1 e.2.2.2.2.2.2.1 e.2.2.2.2.2.2.2.1 e.2.2.2.2.2.2.2.2.1 e.2.2.2.2.2.2.2.2.2.1 e.2.2.2.2.2.2.2.2.2.2.1 e.2.2.2.2.2.2.2.2.2.2.2.1 e.2.2.2.2.2.2.2.2.2.2.2.2.1 e.2.2.2.2.2.2.2.2.2.2.2.2.2.1 e.2.2.2.2.2.2.2.2.2.2.2.2.2.2.1 e.2.2.2.2.2.2.2.2.2.2.2.2.2.2.2.1 e.2.2.2.2.2.2.2.2.2.2.2.2.2.2.2.2.1 e.2.2.2.2.2.2.2.2.2.2.2.2.2.2.2.2.2=some (false,()):=by
 have hv:=Ib h;unfold enV at hv;unfold i3;rw[hv];rfl
theorem Qk{l:List DEn}(h:∀e∈l,ww e)(hl:l.length<=1000):fr l=some (false,()):=by
 have Yj:fG l=some (-1,()):=by
  unfold fG
  obtain⟨t,e,x1,x2,x3,x4,rfl⟩:=ms (f:=fY)
   (λs=>∃i:Nat,i<=l.length/\s=(l,(l.length:Int),(i:Int),()))
   (λt=>∃x1 x2 x3 x4,t=.inr (x1,x2,x3,x4,()))
   (λs=>(s.2.1-s.2.2.1).toNat) (by
    rintro _ ⟨i,hi,rfl⟩;unfold fY;by_cases hn2:(i:Int)<l.length
    ·left
     have YZ:i<l.length:=by omega
     simp only[hn2,decide_true,oCT,dM,oBS,dJ,oGE YZ];rw[Oq (h _ (List.getElem_mem YZ)),dP (x:=(i:Int)+1) (by omega) (by omega)];exact⟨_,rfl,⟨i+1,by omega,rfl⟩,by simp only;omega⟩
    ·right;simp only[hn2,decide_false,oCF]
     exact⟨_,rfl,_,_,_,_,rfl⟩) NN (l,(l.length:Int),0,()) ⟨0,by omega,rfl⟩ (by show((l.length:Int)-0).toNat<NN;unfold NN;omega)
  simp only[dQ,e]
 unfold fr;rw[Yj];rfl
theorem OZ{e:DEn}(h:ww e):0<(wb e).length:=by cases h<;>simp[wb]
def eb(l:List DEn):List Int:=l.flatMap wb
theorem GG:∀{l:List DEn},(∀e∈l,ww e)->(eb l).length<=165*l.length:=by
 intro l
 induction l with
 |nil=>intro _;exact Nat.le_refl _
 |cons x l ih=>
  intro h;have h1:=O0 (h x (by simp));have h2:=ih λe he=>h e (by simp[he]);unfold eb at *;rw[List.flatMap_cons,List.length_append,oLC];omega
theorem M1{l:List DEn}(h:∀e∈l,ww e):Byt (eb l):=by
 intro x hx;obtain⟨c,hc,hx⟩:=List.mem_flatMap.1 hx;exact PE (h c hc) x hx
theorem oC{l:List DEn}(h:∀e∈l,ww e)(hl:l.length<=200):fk l=some (eb l,0,()):=by
 unfold fk;rw[Qk h (by omega)];delta dO;simp only[oBS,oCF];rw[oDF (show ¬(l.length:Int)>200 by omega)];simp only[oCF]
 obtain⟨t,e,x3,x4,x5,x6,rfl⟩:=ms (f:=kj)
  (λs=>∃i:Nat,i<=l.length/\s=(l,(l.length:Int),(i:Int),eb (l.take i),()))
  (λt=>∃x3 x4 x5 x6,t=(x3,x4,x5,x6,eb l,()))
  (λs=>(s.2.1-s.2.2.1).toNat) (by
   rintro _ ⟨i,hi,rfl⟩;unfold kj;by_cases hn:(i:Int)<l.length
   ·left
    have YZ:i<l.length:=by omega
    have hlen:=GG (l:=l.take i) λe he=>h e (List.mem_of_mem_take he);rw[oLT]at hlen;have hw:=Ia (h _ (List.getElem_mem YZ)) (b:=eb (l.take i)) (by omega);unfold enW at hw;simp only[hn,decide_true,oCT,dM,oBS,dJ,oGE YZ];rw[hw,dP (x:=(i:Int)+1) (by omega) (by omega)];refine⟨_,rfl,⟨i+1,by omega,?_⟩,by simp only;omega⟩;unfold eb;rw[List.take_succ_eq_append_getElem YZ,List.flatMap_append];simp
   ·right;simp only[hn,decide_false,oCF]
    have:i=l.length:=by omega
    subst this
    exact⟨_,rfl,_,_,_,_,by rw[List.take_length]⟩) NN (l,(l.length:Int),0,[],()) ⟨0,by omega,by simp[eb]⟩ (by show((l.length:Int)-0).toNat<NN;unfold NN;omega)
 rw[e];rfl
theorem tU{l:List DEn}(h:∀e∈l,ww e)(hl:l.length<=200):iG (eb l)=some (l,0,()):=by
 have hlen:=GG h;unfold iG;delta dO;dsimp only;rw[oDF (show ¬((eb l).length:Int)>65536 by omega)];simp only[oCF]
 obtain⟨t,e,x3,x4,rfl⟩:=ms (f:=km)
  (λs=>∃i:Nat,i<=l.length/\s=(eb l,true,l.take i,eb (l.drop i),false,()))
  (λt=>∃x3 x4,t=(eb l,true,x3,l,x4,false,()))
  (λs=>s.2.2.2.1.length) (by
   rintro _ ⟨i,hi,rfl⟩;unfold km;by_cases hlt:i<l.length
   ·left;have he:=h _ (List.getElem_mem hlt)
    have hd:eb (l.drop i)=wb l[i]++eb (l.drop (i+1)):=by
     unfold eb;rw[List.drop_eq_getElem_cons hlt,List.flatMap_cons]
    have hw:=OZ he;rw[hd];delta dO;dsimp only;rw[oDT (show((wb l[i]++eb (l.drop (i+1))).length:Int)>0 by rw[List.length_append];omega)];simp only[oCT,Bool.not_false];rw[Kv he];simp only[oBS,enR];rw[eH (by decide) (by rw[oLT,oLC,List.length_nil];omega)];simp only[oCT];refine⟨_,rfl,⟨i+1,by omega,?_⟩,by simp only[List.length_append];omega⟩;rw[List.take_succ_eq_append_getElem hlt];rfl
   ·right
    have:i=l.length:=by omega
    subst this;rw[List.drop_length,List.take_length]
    exact⟨_,rfl,_,_,rfl⟩) NN (eb l,true,[],eb l,false,()) ⟨0,by omega,by simp⟩ (by show(eb l).length<NN;unfold NN;omega)
 rw[e];simp only[oBS,oCF,oC h hl,oNT,bne_self_eq_false,wq]
theorem Lz{t v rg o sp:Int}{dat:List DCn}{w:Bool}{t' v' rg' o' sp':Int}{dat':List DCn}{w':Bool}(hd:dat.length<=1000):
 ∃r,nA t v rg o dat sp w t' v' rg' o' dat' sp' w'=some (r,())/\(r=true↔(t=t'/\v=v'/\rg=rg'/\o=o')/\dat=dat'/\sp=sp'/\w=w'):=by
 obtain⟨r,e1,g1⟩:=qu (b:=dat') hd;unfold nA;dsimp only;rw[e1]
 cases hq:((t==t')&&((v==v')&&((rg==rg')&&((o==o')&&true))))with
 |false=>
  refine⟨false,rfl,by simp,λ⟨⟨h1,h2,h3,h4⟩,_⟩=>?_⟩;subst h1 h2 h3 h4;simp at hq
 |true=>
  have YD:t=t'/\v=v'/\rg=rg'/\o=o':=by simpa using hq
  cases r with
  |false=>
   refine⟨false,rfl,by simp,λ⟨_,h,_⟩=>?_⟩;have:=g1.2 h;cases this
  |true=>
   have WQ:=g1.1 rfl;by_cases hs:sp=sp'
   ·subst hs;refine⟨w==w',by simp only[oCT,oBS,beq_self_eq_true],?_⟩;rw[beq_iff_eq];exact⟨λh=>⟨YD,WQ,rfl,h⟩,λh=>h.2.2.2⟩
   ·simp only[oCT,oCF,oBS,oBF hs];exact⟨false,rfl,by simp,λh=>absurd h.2.2.1 hs⟩
theorem yu{a b:List DEn}(ha:∀e∈a,ww e)(hl:a.length<=1000):∃r,jF a b=some (r,())/\(r=true↔a=b):=by
 unfold jF;simp only[dQ];by_cases hlen:a.length=b.length
 ·have hb:((a.length:Int) != (b.length:Int))=false:=by simp[hlen]
  simp only[hb,oCF]
  obtain⟨t,e,ht⟩:=ms (f:=mM)
   (λs=>∃i:Nat,i<=a.length/\s=(a,b,(a.length:Int),(i:Int),())/\a.take i=b.take i)
   (λt=>(t=.inl (false,())/\a≠b)\/((∃x3 x4 x5 x6 x7,t=.inr (x3,x4,x5,x6,x7,()))/\a=b))
   (λs=>(s.2.2.1-s.2.2.2.1).toNat) (by
    rintro _ ⟨i,hi,rfl,WW⟩;unfold mM;by_cases hlt:(i:Int)<a.length
    ·have YZ:i<a.length:=by omega
     have UI:i<b.length:=by omega
     have he:=ha _ (List.getElem_mem YZ);have hne:∀{k:Prop},(a[i]=b[i]->k)->¬k->a≠b:=λf g h=>g (f (by subst h;rfl));generalize hx:a[i]=x at he hne;generalize hy:b[i]=y at hne;obtain⟨x0,x1,x2,x3,x4,x5,x6,x7,x8,x9,R4,x11,x12,x13,x14,x15,x16,x17⟩:=x;obtain⟨y0,y1,y2,y3,y4,y5,y6,y7,y8,y9,y10,y11,y12,y13,y14,y15,y16,y17⟩:=y
     have hb:x9.length<=1000/\R4.length<=1000/\x15.length<=1000:=by
      cases he with
      |slice hr _ _=>exact⟨by have:=hr.args.2;omega,by have:=hr.data.2;omega,by decide⟩
      |result hr _ hd _=>exact⟨by have:=hr.args.2;omega,by have:=hr.data.2;omega,by have:=hd.2;omega⟩
      |signal _=>exact⟨by decide,by decide,by decide⟩
      |wake _ _=>exact⟨by decide,by decide,by decide⟩
     simp only[hlt,decide_true,oCT,dM,oBS,dJ,oGE YZ,oGE UI,hx,hy];by_cases k0:x0=y0
     ·by_cases k1:x1=y1
      ·by_cases k2:x2=y2
       ·obtain⟨r,e1,g1⟩:=NR (a0:=x3) (a1:=x4) (a2:=x5) (a3:=x6) (a4:=x7) (a5:=x8) (b0:=y3) (b1:=y4) (b2:=y5) (b3:=y6) (b4:=y7) (b5:=y8) (b6:=y9) (b7:=y10) hb.1 hb.2.1;obtain⟨s,e2,g2⟩:=Lz (t:=x11) (v:=x12) (rg:=x13) (o:=x14) (sp:=x16) (w:=x17) (t':=y11) (v':=y12) (rg':=y13) (o':=y14) (dat':=y15) (sp':=y16) (w':=y17) hb.2.2;rw[e1]
        cases r with
        |true=>
         rw[e2]
         cases s with
         |true=>
          left;obtain⟨h3,h4,h5,h6,h7,h8,h9,ZP⟩:=g1.1 rfl;obtain⟨⟨Ya,WH,h13,h14⟩,ds,f6,f7⟩:=g2.1 rfl;simp only[bne_eq_false_iff_eq.2 k0,bne_eq_false_iff_eq.2 k1,bne_eq_false_iff_eq.2 k2,oNT,oCF,oBS];rw[dP (x:=(i:Int)+1) (by omega) (by omega)];refine⟨_,rfl,⟨i+1,by omega,rfl,?_⟩,by simp only;omega⟩;rw[List.take_succ_eq_append_getElem YZ,List.take_succ_eq_append_getElem UI,WW,hx,hy,k0,k1,k2,h3,h4,h5,h6,h7,h8,h9,ZP,Ya,WH,h13,h14,ds,f6,f7]
         |false=>
          right;simp only[bne_eq_false_iff_eq.2 k0,bne_eq_false_iff_eq.2 k1,bne_eq_false_iff_eq.2 k2,oNT,Bool.not_false,oCF,oCT,oBS];refine⟨_,rfl,.inl ⟨rfl,hne (k:=false=true) (λh=>g2.2 ?_) (by decide)⟩⟩;simp only[oPJ]at h;obtain⟨_,_,_,_,_,_,_,_,_,_,_,Ya,WH,h13,h14,ds,f6,f7⟩:=h;exact⟨⟨Ya,WH,h13,h14⟩,ds,f6,f7⟩
        |false=>
         right;simp only[bne_eq_false_iff_eq.2 k0,bne_eq_false_iff_eq.2 k1,bne_eq_false_iff_eq.2 k2,Bool.not_false,oCF,oCT,oBS];refine⟨_,rfl,.inl ⟨rfl,hne (k:=false=true) (λh=>g1.2 ?_) (by decide)⟩⟩;simp only[oPJ]at h;obtain⟨_,_,_,h3,h4,h5,h6,h7,h8,h9,ZP,_⟩:=h;exact⟨h3,h4,h5,h6,h7,h8,h9,ZP⟩
       ·right;simp only[bne_eq_false_iff_eq.2 k0,bne_eq_false_iff_eq.2 k1,bne_iff_ne.2 k2,oCF,oCT,oBS];exact⟨_,rfl,.inl ⟨rfl,hne (λh=>congrArg (λe=>e.2.2.1) h) k2⟩⟩
      ·right;simp only[bne_eq_false_iff_eq.2 k0,bne_iff_ne.2 k1,oCF,oCT,oBS];exact⟨_,rfl,.inl ⟨rfl,hne (λh=>congrArg (λe=>e.2.1) h) k1⟩⟩
     ·right;simp only[bne_iff_ne.2 k0,oCT,oBS];exact⟨_,rfl,.inl ⟨rfl,hne (λh=>congrArg (λe=>e.1) h) k0⟩⟩
    ·right;simp only[hlt,decide_false,oCF]
     have:i=a.length:=by omega
     subst this;refine⟨_,rfl,.inr ⟨⟨_,_,_,_,_,rfl⟩,?_⟩⟩;rw[List.take_length]at WW
     rw[WW,hlen,List.take_length]) NN (a,b,(a.length:Int),0,()) ⟨0,by omega,rfl,by simp⟩ (by show((a.length:Int)-0).toNat<NN;unfold NN;omega)
  rcases ht with⟨rfl,hne⟩|⟨⟨x3,x4,x5,x6,x7,rfl⟩,UF⟩
  ·exact⟨false,by simp only[e],by simp[hne]⟩
  ·exact⟨true,by simp only[e],by simp[UF]⟩
 ·have hb:((a.length:Int) != (b.length:Int))=true:=by simp;omega
  simp only[hb,oCT];exact⟨false,rfl,by simp;intro h;exact hlen (by rw[h])⟩
theorem zP{ss:List Int}{t v rg o sp:Int}{dat:List DCn}{w:Bool}(hs:zK ss)(hv:Pr ss (t,v,rg,o))(hd:dat.length<=16/\∀c∈dat,Pr ss c)(ZC:-1<=sp/\sp<=3):j3 t v rg o dat sp w=some (true,()):=by
 refine eY ?_;unfold j3;rw[show jI t v rg o=some (true,())from Eb hs hv,mH hs hd.2 (by omega) (by omega)];refine dG (oDT ZC.1) ?_;exact Ok.ret (by rw[oDT (show sp<4 by omega)])
theorem PM{n m key:Int}{code:List DIn}{ss bs:List Int}{dd:List (List Int)}{cs:List DCe}{ls:List DLn}{ts:List DTh}{i:Nat}{trap count pc call:Int}{args data:List DCn}{t v rg o sp:Int}{dat:List DCn}{w:Bool}(hp:ne code ss dd)(h:MOk n ss bs cs ls ts)(hi:i<4)
 (hn:n<=1099511627776)(hm:m<=1099511627776)(hR:wO m ss (i:Int) 1 trap count pc call args data)(hv:Pr ss (t,v,rg,o))(hd:dat.length<=16/\∀c∈dat,Pr ss c)(ZC:-1<=sp/\sp<=3):
 Ok (oU code ss dd bs key cs ls ts (i:Int) 1 trap count pc call args data t v rg o dat sp w) λr=>∃Z3 Z1 Zl b,r=(bs,key,Z3,Z1,Zl,b,())/\MOk n ss bs Z3 Z1 Zl:=by
 have Xp:=h.tlen;obtain⟨Zr,Yt⟩:=hR.hkind rfl;obtain⟨th,X6⟩:∃th,ts[i]?=some th:=⟨_,oGE (by omega)⟩;have hok:=h.thr th (dR X6)
 have YP:=by omega
 have hg:dJ ts i=some th:=X6;unfold oU;delta dO;rw[uy hp h hn,zQ hp.sz hR hm,wu hR.hcall,zP hp.sz hv hd ZC,Zr];simp only[oBS,oNT,oCF,bne_self_eq_false,dM,hg];by_cases h2:th.1=2
 ·simp only[bne_eq_false_iff_eq.2 h2,oCF,tX h,oBS,dM,hg];by_cases hc0:call=0
  ·subst hc0;obtain⟨a,ha⟩:∃a,args[0]?=some a:=⟨_,oGE (by rw[Zr];decide)⟩;have hva:=(hR.hargs.2 a (dR ha)).val;simp only[BEq.rfl,oCT,show dJ args 0=some a from ha,oBS];unfold mQ lk;rw[dW (show 4<=1000/\0+th.2.1.length<=1000000 by have:=hok.len;omega)];simp only[oCT,oBS,eX X6];exact Ok.ret ⟨_,_,_,_,rfl,h.set h.mem ⟨⟨show(0:Int)<=4 by decide,show(4:Int)<=4 by decide⟩,by dsimp only;rw[fe];simpa using hok.len,iK eq hok.regs,hok.pc,hok.count,hok.handler,hok.saved,⟨show(0:Int)<=0 by decide,show(0:Int)<=6 by decide⟩,hva⟩⟩
  ·simp only[oBF hc0,oCF]
   cases w with
   |true=>
    simp only[oCT,eX X6];exact Ok.ret ⟨_,_,_,_,rfl,h.set h.mem ⟨⟨show(0:Int)<=3 by decide,show(3:Int)<=4 by decide⟩,hok.len,hok.regs,hok.pc,hok.count,hok.handler,hok.saved,hok.trap,hok.code⟩⟩
   |false=>
    refine(LJ h hi hR hv hd ZC).bind ?_;rintro _ ⟨b,Z3,Z1,Zl,rfl,hb⟩;dsimp only
    cases b with
    |true=>exact Ok.ret ⟨_,_,_,_,rfl,hb rfl⟩
    |false=>exact Ok.ret ⟨_,_,_,_,rfl,h⟩
 ·simp only[bne_iff_ne.2 h2,oCT];exact Ok.ret ⟨_,_,_,_,rfl,h⟩
theorem KV{n key:Int}{code:List DIn}{ss bs:List Int}{dd:List (List Int)}{cs:List DCe}{ls:List DLn}{ts:List DTh}{i t v rg o sp:Int}{dat:List DCn}{w:Bool}(hp:ne code ss dd)(h:MOk n ss bs cs ls ts)
 (hn:n<=1099511627776)(hv:Pr ss (t,v,rg,o))(hd:dat.length<=16/\∀c∈dat,Pr ss c)(ZC:-1<=sp/\sp<=3):
 Ok (lF code ss dd bs key cs ls ts i t v rg o dat sp w) λr=>∃Z3 Z1 Zl b,r=(bs,key,Z3,Z1,Zl,b,())/\MOk n ss bs Z3 Z1 Zl:=by
 have Xp:=h.tlen;obtain⟨VN,Yv⟩:=Ge (key:=key) h.lay hv;unfold lF;rw[uy hp h hn,zP hp.sz hv hd ZC];simp only[oBS,oNT,oCF];by_cases h1:i<0
 ·simp only[oDT h1,oCT];exact Ok.ret ⟨_,_,_,_,rfl,h⟩
 by_cases h2:i>=4
 ·simp only[oDF h1,oDT h2,oCT,oCF,oBS];exact Ok.ret ⟨_,_,_,_,rfl,h⟩
 obtain⟨i,rfl⟩:∃k:Nat,i=k:=⟨i.toNat,by omega⟩;obtain⟨th,X6⟩:∃th,ts[i]?=some th:=⟨_,oGE (by omega)⟩;have hok:=h.thr th (dR X6);have YP:=(oGS X6).1;have hg:dJ ts i=some th:=X6;obtain⟨c,hc0⟩:∃c,th.2.1[0]?=some c:=⟨_,oGE (by have:=hok.len;omega)⟩;simp only[oDF h1,oDF h2,oCF,dM,oBS,hg];by_cases h3:th.1=3
 ·simp only[bne_eq_false_iff_eq.2 h3,oCF,VN,oBS,bne_self_eq_false,tX h,dM,hg,show dJ th.2.1 0=some c from hc0,eX X6,eX hc0,iJ YP,oe YP];exact Ok.ret ⟨_,_,_,_,rfl,h.set h.mem ⟨⟨show(0:Int)<=1 by decide,show(1:Int)<=4 by decide⟩,by dsimp only;rw[List.length_set];exact hok.len,lT hok.regs Yv,hok.pc,hok.count,hok.handler,hok.saved,hok.trap,hok.code⟩⟩
 ·simp only[bne_iff_ne.2 h3,oCT];exact Ok.ret ⟨_,_,_,_,rfl,h⟩
theorem Ic{n key:Int}{ss bs:List Int}{cs:List DCe}{ls:List DLn}{ts:List DTh}(h:MOk n ss bs cs ls ts)(i:Int):Ok (j0 bs key cs ls ts i) λr=>∃Zl b,r=(bs,key,cs,ls,Zl,b,())/\MOk n ss bs cs ls Zl/\∀(j:Nat) t',Zl[j]?=some t'->∃t,ts[j]?=some t/\t'.1=t.1:=by
 unfold j0;rw[tX h];simp only[oBS];refine(MY h i).bind ?_;rintro⟨b,_⟩ hb;dsimp only at hb⊢
 (with_reducible refine dE (λZ9=>?_) λZ9=>?_)
 ·exact Ok.ret ⟨ts,false,rfl,h,λj t' e=>⟨t',e,rfl⟩⟩
 ·have hb:=hb Z9;have Xp:=h.tlen;obtain⟨hb1,ZY,U7⟩:=hb;refine Ok.nat hb1 λj hj=>?_;subst hj;refine Ok.get (by omega) λt ht=>?_;refine Ok.get (by omega) λt1 XY=>?_;refine Ok.get (by omega) λt2 Y9=>?_;refine Ok.get (by omega) λt3 ht3=>?_;rw[ht]at XY Y9 ht3
  injection XY with XY
  injection Y9 with Y9
  subst XY Y9;refine Ok.get (by rw[oLM];omega) λt4 RE=>?_;have hne:=U7 t (by rw[oTN];exact ht);have hok:=h.thr t (dR ht);rw[i4];refine Ok.ret ⟨_,_,rfl,h.thread ht ⟨hok.state,hok.len,hok.regs,⟨by have:=hok.handler;dsimp only;omega,hok.handler.2⟩,hok.count,hok.handler,⟨by have:=hok.pc;dsimp only;omega,hok.pc.2⟩,hok.trap,hok.code⟩,λu t' e=>?_⟩;rw[List.getElem?_modify]at e
  cases hu:ts[u]? with
  |none=>rw[hu]at e;split at e<;>cases e
  |some t0=>
   rw[hu]at e;refine⟨t0,rfl,?_⟩;split at e<;>(injection e with e;rw[<- e])
structure jD (n:Int)(q:Nat)(code:List DIn)(ss:List Int)(dt:List (List Int))(bs:List Int)(cs:List DCe)(ls:List DLn)(ts:List DTh)(ck rn:List Int)(ins:List (List Int))(d:List (List DCn))(os:List DOp)(us:List DOu)(ow:List Int)(qs:List (List Int))(rec:List DEn)(js:List Int):Prop where
 prog:ne code ss dt
 mach:MOk n ss bs cs ls ts
 outs:yP ss ck rn ins d os us
 lock:iQ ow qs
 rlen:rec.length<=q
 jlen:js.length=4
 rent:∀e∈rec,ww e
 jne:OR js
def Ql(n key:Int)(q:Nat)(code:List DIn)(ss:List Int)(dt:List (List Int))(bs:List Int)(r:(List DIn)×(List (Int))×(List (List (Int)))×(List (Int))×Int×(List DCe)×(List DLn)×(List DTh)×(List (Int))×(List (Int))×(List (List (Int)))×(List (List DCn))×(List DOp)×(List DOu)×(List (Int))×(List (List (Int)))×(List DEn)×(List (Int))×Unit):Prop:=
 ∃cs ls ts ck rn ins d os us ow qs rec js,r=(code,ss,dt,bs,key,cs,ls,ts,ck,rn,ins,d,os,us,ow,qs,rec,js,())/\jD n q code ss dt bs cs ls ts ck rn ins d os us ow qs rec js
theorem IC{n:Int}{q:Nat}{code:List DIn}{ss:List Int}{dt:List (List Int)}{bs:List Int}{key:Int}{cs:List DCe}{ls:List DLn}{ts:List DTh}{ck rn:List Int}{ins:List (List Int)}{d:List (List DCn)}{os:List DOp}{us:List DOu}{ow:List Int}{qs:List (List Int)}{rec:List DEn}{js:List Int}{i v:Int}(h:jD n q code ss dt bs cs ls ts ck rn ins d os us ow qs rec js)(hn:n<=1099511627776)(hq:q<=900)(hv:W16 v)(hi:0<=i/\i<=3):
 Ok (ni i v code ss dt bs key cs ls ts ck rn ins d os us ow qs rec js) (Ql n key (q+1) code ss dt bs):=by
 unfold ni;rw[dT (x:=v) (by have:=hv.1;omega) (by have:=hv.2;omega)];obtain⟨v2,ev,Xq⟩:=gf v true;simp only[ev,oBS];refine(KV h.prog h.mach hn (kS Xq) ⟨by decide,eq⟩ (by decide)).bind ?_;rintro _ ⟨Z3,Z1,Zl,b,rfl,hM⟩;dsimp only;have hr:=h.rlen;refine dG (dW (by simp;omega)) ?_;exact Ok.ret ⟨_,_,_,_,_,_,_,_,_,_,_,_,_,rfl,h.prog,hM,h.outs,h.lock,by rw[fe];simp;omega,h.jlen,r6 h.rent (.wake hi Xq),h.jne⟩
theorem FR{n:Int}{q:Nat}{code:List DIn}{ss:List Int}{dt:List (List Int)}{bs:List Int}{key:Int}{cs:List DCe}{ls:List DLn}{ts:List DTh}{ck rn:List Int}{ins:List (List Int)}{d:List (List DCn)}{os:List DOp}{us:List DOu}{ow:List Int}{qs:List (List Int)}{rec:List DEn}{js:List Int}{i v:Int}(h:jD n q code ss dt bs cs ls ts ck rn ins d os us ow qs rec js)(hn:n<=1099511627776)(hq:q<=900)(hv:W16 v)(hi:0<=i/\i<=3):
 Ok (jd i v code ss dt bs key cs ls ts ck rn ins d os us ow qs rec) λr=>∃Z3 Z1 Zl TX,r=(code,ss,dt,bs,key,Z3,Z1,Zl,ck,rn,ins,d,os,us,ow,qs,TX,())/\jD n (q+1) code ss dt bs Z3 Z1 Zl ck rn ins d os us ow qs TX js:=by
 unfold jd;rw[dT (x:=v) (by have:=hv.1;omega) (by have:=hv.2;omega)];obtain⟨v2,ev,Xq⟩:=gf v true;simp only[ev,oBS];refine(KV h.prog h.mach hn (kS Xq) ⟨by decide,eq⟩ (by decide)).bind ?_;rintro _ ⟨Z3,Z1,Zl,b,rfl,hM⟩;dsimp only;have hr:=h.rlen;refine dG (dW (by simp;omega)) ?_;exact Ok.ret ⟨_,_,_,_,rfl,h.prog,hM,h.outs,h.lock,by rw[fe];simp;omega,h.jlen,r6 h.rent (.wake hi Xq),h.jne⟩
def Qo(n key:Int)(q:Nat)(code:List DIn)(ss:List Int)(dt:List (List Int))(bs:List Int)(cs:List DCe)(ls:List DLn)(ts:List DTh)(rec:List DEn)(r:Int×Int×Int×Int×(List DCn)×Int×Bool×(List DIn)×(List (Int))×(List (List (Int)))×(List (Int))×Int×(List DCe)×(List DLn)×(List DTh)×(List (Int))×(List (Int))×(List (List (Int)))×(List (List DCn))×(List DOp)×(List DOu)×(List (Int))×(List (List (Int)))×(List DEn)×(List (Int))×Unit):Prop:=
 ∃t v rg o dat sp w ck rn ins d os us ow qs js,r=(t,v,rg,o,dat,sp,w,code,ss,dt,bs,key,cs,ls,ts,ck,rn,ins,d,os,us,ow,qs,rec,js,())/\jD n q code ss dt bs cs ls ts ck rn ins d os us ow qs rec js/\Pr ss (t,v,rg,o)/\(dat.length<=16/\∀c∈dat,Pr ss c)/\-1<=sp/\sp<=3
set_option maxHeartbeats 4000000 in
theorem Hx{n m:Int}{q:Nat}{code:List DIn}{ss:List Int}{dt:List (List Int)}{bs:List Int}{key:Int}{cs:List DCe}{ls:List DLn}{ts:List DTh}{ck rn:List Int}{ins:List (List Int)}{d:List (List DCn)}{os:List DOp}{us:List DOu}{ow:List Int}{qs:List (List Int)}{rec:List DEn}{js:List Int}{i:Nat}{trap count pc call:Int}{args data:List DCn}(h:jD n q code ss dt bs cs ls ts ck rn ins d os us ow qs rec js)(hi:i<4)(hm:m<=1099511627776)(hR:wO m ss (i:Int) 1 trap count pc call args data):
 Ok (jV (i:Int) 1 trap count pc call args data code ss dt bs key cs ls ts ck rn ins d os us ow qs rec js) (Qo n key q code ss dt bs cs ls ts rec):=by
 obtain⟨Zr,_⟩:=hR.hkind rfl;have Xp:=h.mach.tlen;obtain⟨v0,T4,Yn⟩:=gf 0 true;obtain⟨v1,ev1,V2⟩:=gf 0 false;have Zy:([]:List DCn).length<=16/\∀c∈([]:List DCn),Pr ss c:=⟨by decide,eq⟩
 have ZV:∀{v:Int}{w:Bool}{Zc:List Int}{qs':List (List Int)}{TN:List Int},W16 v->iQ Zc qs'->TN.length=4->OR TN->Ok (some ((0:Int),v,(0:Int),(0:Int),([]:List DCn),(-1:Int),w,code,ss,dt,bs,key,cs,ls,ts,ck,rn,ins,d,os,us,Zc,qs',rec,TN,())) (Qo n key q code ss dt bs cs ls ts rec):=
  λhv hl hj Se=>Ok.ret ⟨_,_,_,_,_,_,_,_,_,_,_,_,_,_,_,_,rfl,⟨h.prog,h.mach,h.outs,hl,h.rlen,hj,h.rent,Se⟩,kS hv,Zy,by decide,by decide⟩
 have hdo:OG call=true->Ok ((n8 ck rn ins d os us (i:Int) 1 trap count pc call args data).bind λ(x35,x36,x37,x38,x39,x40,x41,x42,x43,x44,x45,x46,x47,x48,_)=>some (x41,x42,x43,x44,x45,x46,x47,code,ss,dt,bs,key,cs,ls,ts,x35,x36,x37,x38,x39,x40,ow,qs,rec,js,())) (Qo n key q code ss dt bs cs ls ts rec):=by
  intro ha;refine(Ou h.prog.sz h.outs hR ha hm).bind ?_;rintro _ ⟨ck',rn',Yp,d',Zb,Up,t,v,rg,o,dat,rfl,hO,hv,YN,hd2⟩;exact Ok.ret ⟨_,_,_,_,_,_,_,_,_,_,_,_,_,_,_,_,rfl,⟨h.prog,h.mach,hO,h.lock,h.rlen,h.jlen,h.rent,h.jne⟩,hv,⟨YN,hd2⟩,by decide,by decide⟩
 have Uq:0<(kB call).length->∃a,dJ args 0=some a/\W16 a.2.1/\wk .i64 a.2.1=a.2.1:=λhl=>by
  obtain⟨a,ha⟩:∃a,args[0]?=some a:=⟨_,oGE (by omega)⟩;have hva:=(hR.hargs.2 a (dR ha)).val;exact⟨a,ha,hva,dT (by have:=hva.1;omega) (by have:=hva.2;omega)⟩
 unfold jV;delta dO
 try dsimp only
 rcases ve hR.hcall with rfl|rfl|rfl|rfl|rfl|rfl|rfl|rfl|rfl|rfl|rfl|rfl|rfl|rfl|rfl|rfl
 all_goals simp only[Int.reduceBEq,oCT,oCF,oBS,T4,ev1]
 all_goals first
  |exact hdo rfl
  |exact ZV Yn h.lock h.jlen h.jne
  |skip
 ·obtain⟨a,ga,ha,wa⟩:=Uq (by decide);simp only[ga,oBS,wa];refine(Nj h.lock (by omega)).bind ?_;rintro _ ⟨Zc,qs',Ru,rfl,hl⟩;dsimp only;obtain⟨v,ev,hv⟩:=gf 0 (Ru != 2);simp only[ev,oBS];exact ZV hv hl h.jlen h.jne
 ·obtain⟨a,ga,ha,wa⟩:=Uq (by decide);simp only[ga,oBS,wa];refine(Fj h.lock).bind ?_;rintro _ ⟨Zc,qs',nx,b,rfl,hl,_⟩;dsimp only;obtain⟨v,ev,hv⟩:=gf 0 b;simp only[ev,oBS];exact ZV hv hl h.jlen h.jne
 ·obtain⟨y,e,hy⟩:=g7 (f:=jU) (n:=NN) (s:=(ts,(ts.length:Int),0,code,ss,dt,bs,key,cs,ls,ts,ck,rn,ins,d,os,us,ow,qs,rec,js,0,0,0,0,(),0,false,()))
   (P:=λs'=>∃k:Nat,s'=(ts,(ts.length:Int),(k:Int),code,ss,dt,bs,key,cs,ls,ts,ck,rn,ins,d,os,us,ow,qs,rec,js,0,0,0,0,(),0,false,())/\k<=4)
   (R:=λy=>(∃v k,y=.inl (code,ss,dt,bs,key,cs,ls,ts,ck,rn,ins,d,os,us,ow,qs,rec,js,0,v,0,0,(),k,false,())/\W16 v/\0<=k/\k<=3)\/(∃a b c f,y=.inr (a,b,c,f,code,ss,dt,bs,key,cs,ls,ts,ck,rn,ins,d,os,us,ow,qs,rec,js,0,0,0,0,(),0,false,())))
   (m:=λs'=>(s'.2.1-s'.2.2.1).toNat) ⟨0,rfl,by omega⟩ (by unfold NN;dsimp only;omega) (by
    rintro _ ⟨k,rfl,hk⟩;unfold jU;dsimp only
    (with_reducible refine dE (λZ9=>?_) λZ9=>?_)
    ·obtain⟨t,ht⟩:∃t,ts[k]?=some t:=⟨_,oGE (by omega)⟩;simp only[dM,oBS,show dJ ts k=some t from ht]
     (with_reducible refine dE (λZZ=>?_) λZZ=>?_)
     ·obtain⟨v,ev,hv⟩:=gf (k:Int) true;simp only[ev,oBS];exact Ok.ret (.inl ⟨_,_,rfl,hv,by omega,by omega⟩)
     ·rw[dP (x:=(k:Int)+1) (by omega) (by omega)];exact Ok.ret ⟨⟨k+1,rfl,by omega⟩,by dsimp only;omega⟩
    ·exact Ok.ret (.inr ⟨_,_,_,_,rfl⟩))
  simp only[e]
  rcases hy with⟨v,k,rfl,hv,k0,k3⟩|⟨a,b,c,f,rfl⟩
  ·exact Ok.ret ⟨_,_,_,_,_,_,_,_,_,_,_,_,_,_,_,_,rfl,⟨h.prog,h.mach,h.outs,h.lock,h.rlen,h.jlen,h.rent,h.jne⟩,kS hv,Zy,by omega,by omega⟩
  ·simp only[ev1,oBS];exact ZV V2 h.lock h.jlen h.jne
 ·obtain⟨a,ga,ha,wa⟩:=Uq (by decide);simp only[ga,oBS,wa];obtain⟨j,hj⟩:∃j:Nat,a.2.1=j:=⟨a.2.1.toNat,by have:=ha.1;omega⟩;simp only[hj];by_cases h1:(j:Int)=i
  ·simp only[beq_iff_eq.2 h1,oCT,oBS,ev1];exact ZV V2 h.lock h.jlen h.jne
  by_cases h2:(j:Int)>=4
  ·simp only[oBF h1,oDT h2,oCT,oCF,oBS,ev1];exact ZV V2 h.lock h.jlen h.jne
  obtain⟨t,ht⟩:∃t,ts[j]?=some t:=⟨_,oGE (by omega)⟩;simp only[oBF h1,oDF h2,oCF,oBS,dM,show dJ ts j=some t from ht]
  cases t.1==0 with
  |true=>
   simp only[oCT,ev1,oBS];exact ZV V2 h.lock h.jlen h.jne
  |false=>
   simp only[oCF,dM,oBS,show dJ ts j=some t from ht]
   cases t.1==4 with
   |true=>
    obtain⟨v,ev,hv⟩:=gf (wk .i64 t.2.2.2.2.2.2.2) true;simp only[oCT,ev,oBS];exact ZV hv h.lock h.jlen h.jne
   |false=>
    obtain⟨z,hz⟩:∃z,js[i]?=some z:=⟨_,oGE (by have:=h.jlen;omega)⟩;simp only[oCF,show dJ js i=some z from hz,oBS,T4,eX hz];exact ZV Yn h.lock (by rw[List.length_set];exact h.jlen) (h.jne.set h1)
theorem yE{n m:Int}{q:Nat}{code:List DIn}{ss:List Int}{dt:List (List Int)}{bs:List Int}{key:Int}{cs:List DCe}{ls:List DLn}{ts:List DTh}{ck rn:List Int}{ins:List (List Int)}{d:List (List DCn)}{os:List DOp}{us:List DOu}{ow:List Int}{qs:List (List Int)}{rec:List DEn}{js:List Int}{i:Nat}{trap count pc call:Int}{args data:List DCn}(h:jD n q code ss dt bs cs ls ts ck rn ins d os us ow qs rec js)(hi:i<4)(hn:n<=1099511627776)(hm:m<=1099511627776)(hq:q<=800)(hR:wO m ss (i:Int) 1 trap count pc call args data):
 Ok (je (i:Int) 1 trap count pc call args data code ss dt bs key cs ls ts ck rn ins d os us ow qs rec js) (Ql n key (q+2) code ss dt bs):=by
 obtain⟨Zr,_⟩:=hR.hkind rfl;unfold je;refine Ok.bind (P:=λr=>∃nx,r=(nx,code,ss,dt,bs,key,cs,ls,ts,ck,rn,ins,d,os,us,ow,qs,rec,js,(i:Int),1,trap,count,pc,call,args,data,())/\nx<=3) ?_ ?_
 ·by_cases h9:call=9
  ·subst h9;obtain⟨a,ha⟩:∃a,args[0]?=some a:=⟨_,oGE (by rw[Zr];decide)⟩;simp only[BEq.rfl,oCT,show dJ args 0=some a from ha,oBS];refine(Fj h.lock).bind ?_;rintro _ ⟨Zc,qs',nx,b,rfl,hl,XW⟩;exact Ok.ret ⟨nx,rfl,XW.2⟩
  ·simp only[oBF h9,oCF];exact Ok.ret ⟨_,rfl,by decide⟩
 rintro _ ⟨nx,rfl,XW⟩;dsimp only;refine(Hx h hi hm hR).bind ?_;rintro _ ⟨t,v,rg,o,dat,sp,w,ck',rn',Yp,d',Zb,Up,Zc,qs',TN,rfl,h2,hv,hd,hs1,Y8⟩;dsimp only;refine(PM h.prog h.mach hi hn hm hR hv hd ⟨hs1,Y8⟩).bind ?_;rintro _ ⟨Z3,Z1,Zl,b,rfl,hM⟩;dsimp only;have hr:=h.rlen;refine dG (dW (by simp;omega)) ?_;have h3:jD n (q+1) code ss dt bs Z3 Z1 Zl ck' rn' Yp d' Zb Up Zc qs' (List.append rec [(2,(i:Int),0,(i:Int),1,trap,count,pc,call,args,data,t,v,rg,o,dat,sp,w)]) TN:=⟨h2.prog,hM,h2.outs,h2.lock,by rw[fe];simp;omega,h2.jlen,r6 h2.rent (.result (hR.z h.prog.sz hm) (hv.cell h.prog.sz) ⟨λc hc=>(hd.2 c hc).cell h.prog.sz,hd.1⟩ ⟨hs1,Y8⟩),h2.jne⟩
 (with_reducible refine dE (λZ9=>?_) λZ9=>?_)
 ·refine(IC h3 hn (by omega) ⟨by decide,by decide⟩ ⟨by omega,XW⟩).bind ?_;rintro _ ⟨T3,Un,R3,ck3,rn3,ins3,d3,os3,us3,ow3,qs3,U0,js3,rfl,h4⟩;exact Ok.ret ⟨_,_,_,_,_,_,_,_,_,_,_,_,_,rfl,h4⟩
 ·have h4:=h3;exact Ok.ret ⟨_,_,_,_,_,_,_,_,_,_,_,_,_,rfl,h4.prog,h4.mach,h4.outs,h4.lock,by have:=h4.rlen;omega,h4.jlen,h4.rent,h4.jne⟩
theorem BZ{n:Int}{q:Nat}{code:List DIn}{ss:List Int}{dt:List (List Int)}{bs:List Int}{key:Int}{cs:List DCe}{ls:List DLn}{ts:List DTh}{ck rn:List Int}{ins:List (List Int)}{d:List (List DCn)}{os:List DOp}{us:List DOu}{ow:List Int}{qs:List (List Int)}{rec:List DEn}{js:List Int}{i:Nat}(h:jD n q code ss dt bs cs ls ts ck rn ins d os us ow qs rec js)(hi:i<4)(hn:n<=1099511627776)(hq:q<=800):
 Ok (jW (i:Int) code ss dt bs key cs ls ts ck rn ins d os us ow qs rec js) (Ql n key (q+7) code ss dt bs):=by
 unfold jW;delta dO
 try dsimp only
 refine(Ot h.lock).bind ?_;rintro _ ⟨Zc,qs',nx,rfl,hl,hn4,XW⟩;dsimp only
 refine Ok.loop (P:=λs'=>∃k:Nat,∃cs ls ts rec,s'=((i:Int),(nx.length:Int),(k:Int),code,ss,dt,bs,key,cs,ls,ts,ck,rn,ins,d,os,us,Zc,qs',rec,js,nx,())/\k<=nx.length/\jD n (q+k) code ss dt bs cs ls ts ck rn ins d os us Zc qs' rec js)
  (R:=λr=>∃a b f cs ls ts rec,r=((i:Int),a,b,f,code,ss,dt,bs,key,cs,ls,ts,ck,rn,ins,d,os,us,Zc,qs',rec,js,nx,())/\jD n (q+4) code ss dt bs cs ls ts ck rn ins d os us Zc qs' rec js) (m:=λs'=>(s'.2.1-s'.2.2.1).toNat)
  ⟨0,cs,ls,ts,rec,rfl,by omega,h.prog,h.mach,h.outs,hl,by have:=h.rlen;omega,h.jlen,h.rent,h.jne⟩ (by unfold NN;dsimp only;omega) ?_ ?_
 ·rintro _ ⟨k,Vq,VR,ts2,WE,rfl,hk,h2⟩;unfold pK;dsimp only
  (with_reducible refine dE (λZ9=>?_) λZ9=>?_)
  ·obtain⟨x,hx⟩:∃x,nx[k]?=some x:=⟨_,oGE (by omega)⟩;simp only[dM,oBS,show dJ nx k=some x from hx];refine(FR h2 hn (by omega) ⟨by decide,by decide⟩ (XW x (dR hx))).bind ?_;rintro _ ⟨T3,Un,R3,U0,rfl,h3⟩;dsimp only;rw[dP (x:=(k:Int)+1) (by omega) (by omega)];exact Ok.ret ⟨⟨k+1,_,_,_,_,rfl,by omega,h3⟩,by dsimp only;omega⟩
  ·exact Ok.ret ⟨_,_,_,_,_,_,_,rfl,h2.prog,h2.mach,h2.outs,h2.lock,by have:=h2.rlen;omega,h2.jlen,h2.rent,h2.jne⟩
 rintro _ ⟨a,b,f,Vq,VR,ts2,WE,rfl,h2⟩;dsimp only
 refine Ok.loop (P:=λs'=>∃k c:Nat,∃cs ls ts rec js,s'=((i:Int),4,(k:Int),code,ss,dt,bs,key,cs,ls,ts,ck,rn,ins,d,os,us,Zc,qs',rec,js,())/\(k<=4/\c<=k/\(i<k->c+1<=k))/\jD n (q+4+c) code ss dt bs cs ls ts ck rn ins d os us Zc qs' rec js)
  (R:=λr=>∃a b c f cs ls ts rec js,r=(a,b,c,f,code,ss,dt,bs,key,cs,ls,ts,ck,rn,ins,d,os,us,Zc,qs',rec,js,())/\jD n (q+7) code ss dt bs cs ls ts ck rn ins d os us Zc qs' rec js) (m:=λs'=>(s'.2.1-s'.2.2.1).toNat)
  ⟨0,0,Vq,VR,ts2,WE,js,by rw[h.jlen];rfl,by omega,h2⟩ (by unfold NN;dsimp only;have:=h.jlen;omega) ?_ ?_
 ·rintro _ ⟨k,c,Vq,VR,ts2,WE,TO,rfl,hk,h2⟩;unfold pJ;dsimp only
  (with_reducible refine dE (λZ9=>?_) λZ9=>?_)
  ·obtain⟨x,hx⟩:∃x,TO[k]?=some x:=⟨_,oGE (by have:=h2.jlen;omega)⟩;obtain⟨t,ht⟩:∃t,ts2[i]?=some t:=⟨_,oGE (by have:=h2.mach.tlen;omega)⟩;have htc:=(h2.mach.thr t (dR ht)).code;simp only[dM,oBS,show dJ TO k=some x from hx,show dJ ts2 i=some t from ht];refine Ok.bind (P:=λr=>∃cs ls ts rec js,r=((i:Int),4,(k:Int),code,ss,dt,bs,key,cs,ls,ts,ck,rn,ins,d,os,us,Zc,qs',rec,js,())/\∃c':Nat,(c'<=k+1/\(i<k+1->c'<=k))/\jD n (q+4+c') code ss dt bs cs ls ts ck rn ins d os us Zc qs' rec js) ?_ ?_
   ·(with_reducible refine dE (λZZ=>?_) λZZ=>?_)
    ·have hki:x≠(k:Int):=h2.jne k x hx;refine(FR h2 hn (by omega) htc (by omega)).bind ?_;rintro _ ⟨T3,Un,R3,U0,rfl,h3⟩;simp only[dM,oBS,show dJ TO k=some x from hx,eX hx];exact Ok.ret ⟨_,_,_,_,_,rfl,c+1,by omega,h3.prog,h3.mach,h3.outs,h3.lock,by have:=h3.rlen;omega,by rw[List.length_set];exact h3.jlen,h3.rent,h3.jne.set (by omega)⟩
    ·exact Ok.ret ⟨_,_,_,_,_,rfl,c,by omega,h2.prog,h2.mach,h2.outs,h2.lock,by have:=h2.rlen;omega,h2.jlen,h2.rent,h2.jne⟩
   ·rintro _ ⟨T3,Un,R3,U0,js3,rfl,c',XC,h3⟩;dsimp only;rw[dP (x:=(k:Int)+1) (by omega) (by omega)];exact Ok.ret ⟨⟨k+1,c',_,_,_,_,_,rfl,by omega,h3⟩,by dsimp only;omega⟩
  ·exact Ok.ret ⟨_,_,_,_,_,_,_,_,_,rfl,h2.prog,h2.mach,h2.outs,h2.lock,by have:=h2.rlen;omega,h2.jlen,h2.rent,h2.jne⟩
 ·rintro _ ⟨a,b,c,f,Vq,VR,ts2,WE,TO,rfl,h2⟩;exact Ok.ret ⟨_,_,_,_,_,_,_,_,_,_,_,_,_,rfl,h2⟩
end Go.Proofs.YtoldehogdgdhmaaGreat
