/- Part of the proof; no condition. -/
import Derived.Test.YtoldehogdgdhmaaGreatRd
import Derived.WalkKit
import Derived.WalkSpells
import Derived.Handy
import Derived.OpenShut
set_option linter.unusedVariables false
set_option linter.unusedSimpArgs false
namespace Go.Proofs.YtoldehogdgdhmaaGreat
open Go.RowKit
set_option maxRecDepth 100000
noncomputable section
def mF:LDEn×T03->Option ((LDEn×T03)⊕((Int×Unit)⊕(LDEn×T0c))):=λ(v0,v1,v2,_)=>
bif(decide (v2<v1))then((eq v2).bind λx0=>
(dJ v0 x0).bind λx1=>
(nV x1.1 x1.2.1 x1.2.2.1 x1.2.2.2.1 x1.2.2.2.2.1 x1.2.2.2.2.2.1 x1.2.2.2.2.2.2.1 x1.2.2.2.2.2.2.2.1 x1.2.2.2.2.2.2.2.2.1 x1.2.2.2.2.2.2.2.2.2.1 x1.2.2.2.2.2.2.2.2.2.2.1 x1.2.2.2.2.2.2.2.2.2.2.2.1 x1.2.2.2.2.2.2.2.2.2.2.2.2.1 x1.2.2.2.2.2.2.2.2.2.2.2.2.2.1 x1.2.2.2.2.2.2.2.2.2.2.2.2.2.2.1 x1.2.2.2.2.2.2.2.2.2.2.2.2.2.2.2.1 x1.2.2.2.2.2.2.2.2.2.2.2.2.2.2.2.2.1 x1.2.2.2.2.2.2.2.2.2.2.2.2.2.2.2.2.2).bind λ(x2,_)=>
bif x2 then(some (.inr (.inl (v2,()))))else
let x3:=w64 (v2+1);
some (.inl (v0,v1,x3,())))else
some (.inr (.inr (v0,v1,v2,false,())))
def jw(a0:LDEn):Option (Int×Unit):=
let x0:=dO a0.length;
(match dY mF NN (a0,x0,0,())with
|none=>none
|some (.inl (x1,_))=>
some (x1,())
|some (.inr (x1,_))=>
some ((-1),()))
def oi:X.Cfg:=⟨E0,[ou],[],[⟨3,0,(qS [sP 0 Cd,(1,.fn 43 []),Uaa 7,Uaa 8] []),[(.ret,qS [Uaa 4] []),(.exit 0,(qS [sP 0 Cd,(1,.fn 43 []),Uaa 7,Uaa 8,Xaa 9] []))]⟩]⟩
def jE:Ctr:=⟨71,134,[shU Cd,.fn 43 []],[],[⟨Xac,[.one],[]⟩],ap1 jw⟩
theorem of:Lk 9 jE:=ls oi (aC uS aN)
def iu(a0:LDEn):Option (Bool×Unit):=
(jw a0).bind λ(x0,_)=>
some ((decide (x0>=0)),())
def mU:X.Cfg:=⟨E0,[jE],[],[]⟩
def iI:Ctr:=⟨42,135,[shU Cd,.fn 43 []],[],[⟨uab,[.one],[]⟩],ap1 iu⟩
theorem mS:Lk 10 iI:=ls mU (aC of aN)
def sO(a0:Int):Option (Bool×Unit):=
bif(a0==1)then(some (true,()))else
some ((a0==2),())
def BR:X.Cfg:=⟨E0,[],[],[]⟩
def uh:Ctr:=⟨72,136,Xac,[],[⟨uab,[.one],[]⟩],ap1 sO⟩
theorem Ba:Lk 1 uh:=ls BR aN
def yP:T0f->Option (T0f⊕T0p):=λ(v0,v1,v2,_)=>
bif(decide (v0>=0))then(let x0:Int:=(w64 (8*v0));
(eq x0).bind λx1=>
let x2:Int:=(shR .shr .i64 v1 x1);
let x3:=wk .u8 x2;
bif(dW 1 v2.length (List.length [x3]))then let x4:List (Int):=(List.append v2 [x3]);
let x5:=w64 (v0-1);
some (.inl (x5,v1,x4,()))else none)else
some (.inr (v0,v1,false,v2,()))
def kP(a0:Int)(a1:Int)(a2:List (Int)):Option (LI×Unit):=
let x0:=w64 (a0-1);
(dY yP NN (x0,a1,a2,())).bind λ(x1,x2,x3,x4,_)=>
some (x4,())
def Fb:X.Cfg:=⟨E0,[],[],[(lx 3 0 [Zaa 0 3,Uaa 1,Uaa 2] [(3,Zae)] 10)]⟩
def pm:Ctr:=⟨74,137,[.pk ⟨3,0,[]⟩ [0,0],shU I64,shU I64],[(3,Zae)],[⟨Zae,[.one],[(3,[])]⟩],ap3 kP⟩
theorem su:Lk 1 pm:=ls Fb aN
def nA(a0:Int)(a1:Int)(a2:Int)(a3:Int)(a4:List (Int)):Option (LI×Unit):=
bif(a0==1)then(let x0:Int:=(w64 (a2+1));
let x1:=wk .u8 x0;
let x2:List (Int):=[a0,x1];
bif(dW 1 a4.length x2.length)then let x3:List (Int):=(List.append a4 x2);
(kP 2 a3 x3).bind λ(x4,_)=>
some (x4,())else none)else
let x0:List (Int):=[a0,0];
bif(dW 1 a4.length x0.length)then let x1:List (Int):=(List.append a4 x0);
let x2:=wk .i64 a1;
(kP 2 x2 x1).bind λ(x3,_)=>
some (x3,())else none
def DL:X.Cfg:=⟨E0,[pm],[],[]⟩
def qW:Ctr:=⟨76,138,[.pk ⟨3,0,[]⟩ [0,0],.agg Zaf],[(3,Zae)],[⟨Zae,[.one],[(3,[])]⟩],ap5 nA⟩
theorem vC:Lk 2 qW:=ls DL (aC su aN)
def xe:LDCn×T0f->Option ((LDCn×T0f)⊕(LDCn×T0p)):=λ(v0,v1,v2,v3,_)=>
bif(decide (v2<v1))then((eq v2).bind λx0=>
(dJ v0 x0).bind λx1=>
(nA x1.1 x1.2.1 x1.2.2.1 x1.2.2.2 v3).bind λ(x2,_)=>
let x3:=w64 (v2+1);
some (.inl (v0,v1,x3,x2,())))else
some (.inr (v0,v1,v2,false,v3,()))
def lu(a0:LDCn)(a1:List (Int)):Option (LI×Unit):=
let x0:=dO a0.length;
let x1:=wk .u8 x0;
bif(dW 1 a1.length (List.length [x1]))then let x2:List (Int):=(List.append a1 [x1]);
let x3:=dO a0.length;
(dY xe NN (a0,x3,0,x2,())).bind λ(x4,x5,x6,x7,x8,_)=>
some (x8,())else none
def DK:X.Cfg:=⟨E0,[qW],[],[(lx 4 0 [Zaa 0 3,sP 13 ej,Uaa 14,Uaa 15] [(3,Zae)] 16)]⟩
def qV:Ctr:=⟨77,139,[.pk ⟨3,0,[]⟩ [0,0],shU ej],[(3,Zae)],[⟨Zae,[.one],[(3,[])]⟩],ap2 lu⟩
theorem vB:Lk 3 qV:=ls DK (aC vC aN)
def nW(a0:Int)(a1:Int)(a2:Int)(a3:Int)(a4:Int)(a5:Int)(a6:LDCn)(a7:LDCn):Option (T07):=
(fZ a0 a1 a2 a3 a4 a5 a6 a7).bind λ(x0,_)=>
bif(!x0)then(some ([],1,()))else
let x1:=wk .u8 a0;
let x2:=wk .u8 a1;
let x3:=wk .u8 a2;
let x4:List (Int):=[x1,x2,x3];
(kP 6 a3 x4).bind λ(x5,_)=>
let x6:=wk .u8 a4;
let x7:=wk .u8 a5;
let x8:List (Int):=[x6,x7];
bif(dW 1 x5.length x8.length)then let x9:List (Int):=(List.append x5 x8);
(lu a6 x9).bind λ(ac,_)=>
(lu a7 ac).bind λ(ae,_)=>
some (ae,0,())else none
def u4:X.Cfg:=⟨E0,[mZ,pm,qV],[],[]⟩
def ov:Ctr:=⟨73,140,[.agg yac],[],[⟨uL [(uaa CB),I64],[.one,.one],[]⟩],ap8 nW⟩
theorem uT:Lk 7 ov:=ls u4 (aC qp (aC su (aC vB aN)))
def lK(a0:Int):Option (Bool×Unit):=
bif(a0==2)then(some (true,()))else
some ((a0==4),())
def wA:X.Cfg:=⟨E0,[],[],[]⟩
def pK:Ctr:=⟨75,141,Xac,[],[⟨uab,[.one],[]⟩],ap1 lK⟩
theorem wv:Lk 1 pK:=ls wA aN
def rO(a0:Int)(a1:Int)(a2:Int)(a3:Int)(a4:Int)(a5:Int)(a6:Int)(a7:Int)(a8:Int)(a9:LDCn)(a10:LDCn)(a11:Int)(a12:Int)(a13:Int)(a14:Int)(a15:LDCn)(a16:Int)(a17:Bool)(a18:List (Int)):Option (LI×Unit):=
(sO a0).bind λ(x0,_)=>
bif x0 then((nW a3 a4 a5 a6 a7 a8 a9 a10).bind λ(x1,x2,_)=>
let x3:=wk .u8 a0;
let x4:=wk .u8 a1;
let x5:=wk .u8 a2;
let x6:List (Int):=[x3,x4,x5];
bif(dW 1 a18.length x6.length)then let x7:List (Int):=(List.append a18 x6);
let x8:=dO x1.length;
(kP 2 x8 x7).bind λ(x9,_)=>
bif(dW 1 x9.length x1.length)then let ac:List (Int):=(List.append x9 x1);
(lK a0).bind λ(ae,_)=>
bif(!ae)then(some (ac,()))else
(nA a11 a12 a13 a14 ac).bind λ(af,_)=>
let ag:=w64 (a16+1);
let ah:=wk .u8 ag;
bif(dW 1 af.length (List.length [ah]))then let ai:List (Int):=(List.append af [ah]);
(bif a17 then(bif(dW 1 ai.length (List.length [1]))then let aj:List (Int):=(List.append ai [1]);
some (aj,a0,a1,a2,a3,a4,a5,a6,a7,a8,a9,a10,a11,a12,a13,a14,a15,a16,a17,())else none)else
bif(dW 1 ai.length (List.length [0]))then let aj:List (Int):=(List.append ai [0]);
some (aj,a0,a1,a2,a3,a4,a5,a6,a7,a8,a9,a10,a11,a12,a13,a14,a15,a16,a17,())else none:Option (T2s)).bind λ(aj,ak,am,an,ap,aq,av,ax,ay,az,aA,aB,aD,aE,aF,aG,aH,_)=>
(lu aH aj).bind λ(aK,_)=>
some (aK,())else none else none else none)else
let x1:=wk .u8 a0;
let x2:=wk .u8 a1;
let x3:=wk .u8 a2;
let x4:List (Int):=[x1,x2,x3];
bif(dW 1 a18.length x4.length)then let x5:List (Int):=(List.append a18 x4);
(kP 2 0 x5).bind λ(x6,_)=>
bif(dW 1 x6.length 0)then(lK a0).bind λ(x7,_)=>
bif(!x7)then(some (x6,()))else
(nA a11 a12 a13 a14 x6).bind λ(x8,_)=>
let x9:=w64 (a16+1);
let ac:=wk .u8 x9;
bif(dW 1 x8.length (List.length [ac]))then let ae:List (Int):=(List.append x8 [ac]);
(bif a17 then(bif(dW 1 ae.length (List.length [1]))then let af:List (Int):=(List.append ae [1]);
some (af,a0,a1,a2,a3,a4,a5,a6,a7,a8,a9,a10,a11,a12,a13,a14,a15,a16,a17,())else none)else
bif(dW 1 ae.length (List.length [0]))then let af:List (Int):=(List.append ae [0]);
some (af,a0,a1,a2,a3,a4,a5,a6,a7,a8,a9,a10,a11,a12,a13,a14,a15,a16,a17,())else none:Option (T2s)).bind λ(af,ag,ah,ai,aj,ak,am,an,ap,aq,av,ax,ay,az,aA,aB,aD,aE,aF,_)=>
(lu aD af).bind λ(aG,_)=>
some (aG,())else none else none else none
def zp:X.Cfg:=⟨E0,[uh,ov,pm,pK,qW,qV],[],[⟨10,0,qE,[(.normal,qS [Zaa 0 3,zaa 3] [(3,Zae),(8,Uag)])]⟩]⟩
def r9:Ctr:=⟨44,142,[.pk ⟨3,0,[]⟩ [0,0],.agg Uag],[(3,Zae)],[⟨Zae,[.one],[(3,[])]⟩],ap19 rO⟩
theorem y8:Lk 8 r9:=ls zp (aC Ba (aC uT (aC su (aC wv (aC vC (aC vB aN))))))
def sQ:LDEn×T0f->Option ((LDEn×T0f)⊕(LDEn×T0p)):=λ(v0,v1,v2,v3,_)=>
bif(decide (v2<v1))then((eq v2).bind λx0=>
(dJ v0 x0).bind λx1=>
(rO x1.1 x1.2.1 x1.2.2.1 x1.2.2.2.1 x1.2.2.2.2.1 x1.2.2.2.2.2.1 x1.2.2.2.2.2.2.1 x1.2.2.2.2.2.2.2.1 x1.2.2.2.2.2.2.2.2.1 x1.2.2.2.2.2.2.2.2.2.1 x1.2.2.2.2.2.2.2.2.2.2.1 x1.2.2.2.2.2.2.2.2.2.2.2.1 x1.2.2.2.2.2.2.2.2.2.2.2.2.1 x1.2.2.2.2.2.2.2.2.2.2.2.2.2.1 x1.2.2.2.2.2.2.2.2.2.2.2.2.2.2.1 x1.2.2.2.2.2.2.2.2.2.2.2.2.2.2.2.1 x1.2.2.2.2.2.2.2.2.2.2.2.2.2.2.2.2.1 x1.2.2.2.2.2.2.2.2.2.2.2.2.2.2.2.2.2 v3).bind λ(x2,_)=>
let x3:=w64 (v2+1);
some (.inl (v0,v1,x3,x2,())))else
some (.inr (v0,v1,v2,false,v3,()))
def qa(a0:LDEn):Option (T07):=
(iu a0).bind λ(x0,_)=>
bif x0 then(some ([],1,()))else
let x1:=dO a0.length;
bif(decide (x1>200))then(some ([],3,()))else
let x2:=dO a0.length;
(dY sQ NN (a0,x2,0,[],())).bind λ(x3,x4,x5,x6,x7,_)=>
some (x7,0,())
def yb:X.Cfg:=⟨E0,[iI,r9],[],[(lx 10 0 [Zaa 4 11,sP 12 Cd,Uaa 13,Uaa 14] [(11,Zae)] 15)]⟩
def qU:Ctr:=⟨18,143,uL [Cd],[],[⟨uL [(uaa CB),I64],[.one,.one],[]⟩],ap1 qa⟩
theorem xN:Lk 11 qU:=ls yb (aC mS (aC y8 aN))
def oN:Option (Bool×Unit):=
let x0:LDEn:=[(1,(0,(1,(0,(1,(0,(0,(0,(15,([],([],(0,(0,(0,(0,([],(0,false)))))))))))))))))];
(fv x0).bind λ(x1,x2,_)=>
let x3:LDEn:=[(1,(0,(1,(0,(1,(0,(0,(0,(15,([],([],(0,(0,(0,(0,([],(0,false)))))))))))))))))];
(qa x3).bind λ(x4,x5,_)=>
(eU 1 0 1 0 1 0 0 0 15 [] [] 0 0 0 0 [] 0 false).bind λ(x6,_)=>
bif x6 then(bif x2 then(let x7:Int:=(dO x1.length);
bif(x7==4)then((dJ x1 0).bind λx8=>
(dJ x1 0).bind λx9=>
bif(x9==2)then(bif(x5==0)then(let ac:Int:=(dO x4.length);
some ((ac==18),()))else
some (false,()))else
some (false,()))else
some (false,()))else
some (false,()))else
some (false,())
def BS:X.Cfg:=⟨E0,[m6,qU,li],[(10,Im),(16,Im)],[]⟩
def ui:Ctr:=⟨14,144,[],[],[⟨uab,[.one],[]⟩],λh=>oN⟩
theorem Bb:Lk 12 ui:=ls BS (aC qv (aC xN (aC nR aN)))
def iW:T0w->Option (T0w⊕((Bool×Unit)⊕(LDCn×T0v))):=λ(v0,v1,v2,v3,_)=>
bif(decide (v3<v2))then((eq v3).bind λx0=>
(dJ v0 x0).bind λx1=>
(eq v3).bind λx2=>
(dJ v1 x2).bind λx3=>
let x4:Bool:=(!((x1.1==x3.1)&&((x1.2.1==x3.2.1)&&((x1.2.2.1==x3.2.2.1)&&((x1.2.2.2==x3.2.2.2)&&true)))));
bif x4 then(some (.inr (.inl (false,()))))else
let x5:=w64 (v3+1);
some (.inl (v0,v1,v2,x5,())))else
some (.inr (.inr (v0,v1,v2,v3,false,())))
def fX(a0:LDCn)(a1:LDCn):Option (Bool×Unit):=
let x0:=dO a0.length;
let x1:=dO a1.length;
bif(x0 != x1)then(some (false,()))else
let x2:=dO a0.length;
(match dY iW NN (a0,a1,x2,0,())with
|none=>none
|some (.inl (x3,_))=>
some (x3,())
|some (.inr (x3,_))=>
some (true,()))
def uY:X.Cfg:=⟨E0,[],[],[⟨6,0,qS [sP 0 ej,sP 1 ej,Uaa 12,Uaa 13] [],[(.ret,qS [Xaa 4] []),(.exit 0,qS [sP 0 ej,sP 1 ej,Uaa 12,Uaa 13,Xaa 14] [])]⟩]⟩
def oq:Ctr:=⟨57,147,uL [ej,ej],[],[⟨uab,[.one],[]⟩],ap2 fX⟩
theorem uQ:Lk 1 oq:=ls uY aN
def nq(a0:Int)(a1:Int)(a2:Int)(a3:Int)(a4:Int)(a5:Int)(a6:LDCn)(a7:LDCn)(a8:Int)(a9:Int)(a10:Int)(a11:Int)(a12:Int)(a13:Int)(a14:LDCn)(a15:LDCn):Option (Bool×Unit):=
bif(a0==a8)then(bif(a1==a9)then(bif(a2==a10)then(bif(a3==a11)then(bif(a4==a12)then(bif(a5==a13)then((fX a6 a14).bind λ(x0,_)=>
bif x0 then((fX a7 a15).bind λ(x1,_)=>
some (x1,()))else
some (false,()))else
some (false,()))else
some (false,()))else
some (false,()))else
some (false,()))else
some (false,()))else
some (false,())
def fP(a0:LDCn):Option (LDCn×Unit):=
bif(dW 24 0 a0.length)then let x0:LDCn:=(List.append [] a0);
some (x0,())else none
def rG:X.Cfg:=⟨E0,[],[],[]⟩
def iY:Ctr:=⟨99,171,uL [ej],[],[⟨Zag,[.one],[]⟩],ap1 fP⟩
theorem lO:Lk 1 iY:=ls rG aN
def lF:T0z->Option (T0z⊕(LDOu×T0o)):=λ(v0,v1,v2,v3,_)=>
bif(decide (v2<v1))then((eq v2).bind λx0=>
(dJ v0 x0).bind λx1=>
(fP x1.2.2).bind λ(x2,_)=>
let x3:LDOu:=[(x1.1,(x1.2.1,x2))];
bif(dW 40 v3.length x3.length)then let x4:LDOu:=(List.append v3 x3);
let x5:=w64 (v2+1);
some (.inl (v0,v1,x5,x4,()))else none)else
some (.inr (v0,v1,v2,false,v3,()))
def lV(a0:LDOu):Option (LDOu×Unit):=
let x0:=dO a0.length;
(dY lF NN (a0,x0,0,[],())).bind λ(x1,x2,x3,x4,x5,_)=>
some (x5,())
def Bk:X.Cfg:=⟨E0,[iY],[(18,vg),(19,vg)],[(lx 4 0 [Zaa 3 9,sP 6 iM,Uaa 7,Uaa 8] [(9,yaf)] 9)]⟩
def tS:Ctr:=⟨98,172,uL [iM],[],[⟨yaf,[.one],[]⟩],ap1 lV⟩
theorem AR:Lk 2 tS:=ls Bk (aC lO aN)
def lU(a0:LDOu)(a1:Int)(a2:LDCn):Option (LDOu×T02):=
(lV a0).bind λ(x0,_)=>
(bif(decide (a1<0))then(some (a0,a1,a2,true,x0,()))else
bif(decide (a1>=2))then(some (a0,a1,a2,true,x0,()))else
let x1:=dO a0.length;
bif(decide (x1>=200))then(some (a0,a1,a2,true,x0,()))else
let x2:=dO a2.length;
some (a0,a1,a2,(decide (x2>16)),x0,()):Option (LDOu×Int×LDCn×T00)).bind λ(x1,x2,x3,x4,x5,_)=>
bif x4 then(some (x5,0,false,()))else
let x6:=dO x1.length;
(fP x3).bind λ(x7,_)=>
let x8:LDOu:=[(x6,(x2,x7))];
bif(dW 40 x5.length x8.length)then let x9:LDOu:=(List.append x5 x8);
let ac:=dO x3.length;
some (x9,ac,true,())else none
def Bj:X.Cfg:=⟨E0,[tS,iY],[(36,vg),(37,vg)],[⟨3,0,qE,[(.normal,qS [sP 0 iM,Uaa 1,sP 2 ej,Zaa 9 21,Xaa 27] [(21,yaf)])]⟩]⟩
def tR:Ctr:=⟨58,173,uL [iM,I64,ej],[],[⟨yaj,[.one,.one,.one],[]⟩],ap3 lU⟩
theorem AQ:Lk 3 tR:=ls Bj (aC AR (aC lO aN))
def jt:T0x->Option (T0x⊕(LDEn×T0o)):=λ(v0,v1,v2,v3,_)=>
bif(decide (v2<v1))then(((eq v2).bind λx0=>
(dJ v0 x0).bind λx1=>
(bif(x1.1==2)then(bif(x1.2.2.2.2.2.2.2.2.1==13)then(let x2:Int:=(dO x1.2.2.2.2.2.2.2.2.2.1.length);
bif(decide (x2>0))then(bif(x1.2.2.2.2.2.2.2.2.2.2.2.1==0)then(some (v0,v1,v2,(x1.2.2.2.2.2.2.2.2.2.2.2.2.1 != 65535),v3,x1.1,x1.2.1,x1.2.2.1,x1.2.2.2.1,x1.2.2.2.2.1,x1.2.2.2.2.2.1,x1.2.2.2.2.2.2.1,x1.2.2.2.2.2.2.2.1,x1.2.2.2.2.2.2.2.2.1,x1.2.2.2.2.2.2.2.2.2.1,x1.2.2.2.2.2.2.2.2.2.2.1,x1.2.2.2.2.2.2.2.2.2.2.2.1,x1.2.2.2.2.2.2.2.2.2.2.2.2.1,x1.2.2.2.2.2.2.2.2.2.2.2.2.2.1,x1.2.2.2.2.2.2.2.2.2.2.2.2.2.2.1,x1.2.2.2.2.2.2.2.2.2.2.2.2.2.2.2.1,x1.2.2.2.2.2.2.2.2.2.2.2.2.2.2.2.2.1,x1.2.2.2.2.2.2.2.2.2.2.2.2.2.2.2.2.2,()))else
some (v0,v1,v2,false,v3,x1.1,x1.2.1,x1.2.2.1,x1.2.2.2.1,x1.2.2.2.2.1,x1.2.2.2.2.2.1,x1.2.2.2.2.2.2.1,x1.2.2.2.2.2.2.2.1,x1.2.2.2.2.2.2.2.2.1,x1.2.2.2.2.2.2.2.2.2.1,x1.2.2.2.2.2.2.2.2.2.2.1,x1.2.2.2.2.2.2.2.2.2.2.2.1,x1.2.2.2.2.2.2.2.2.2.2.2.2.1,x1.2.2.2.2.2.2.2.2.2.2.2.2.2.1,x1.2.2.2.2.2.2.2.2.2.2.2.2.2.2.1,x1.2.2.2.2.2.2.2.2.2.2.2.2.2.2.2.1,x1.2.2.2.2.2.2.2.2.2.2.2.2.2.2.2.2.1,x1.2.2.2.2.2.2.2.2.2.2.2.2.2.2.2.2.2,()))else
some (v0,v1,v2,false,v3,x1.1,x1.2.1,x1.2.2.1,x1.2.2.2.1,x1.2.2.2.2.1,x1.2.2.2.2.2.1,x1.2.2.2.2.2.2.1,x1.2.2.2.2.2.2.2.1,x1.2.2.2.2.2.2.2.2.1,x1.2.2.2.2.2.2.2.2.2.1,x1.2.2.2.2.2.2.2.2.2.2.1,x1.2.2.2.2.2.2.2.2.2.2.2.1,x1.2.2.2.2.2.2.2.2.2.2.2.2.1,x1.2.2.2.2.2.2.2.2.2.2.2.2.2.1,x1.2.2.2.2.2.2.2.2.2.2.2.2.2.2.1,x1.2.2.2.2.2.2.2.2.2.2.2.2.2.2.2.1,x1.2.2.2.2.2.2.2.2.2.2.2.2.2.2.2.2.1,x1.2.2.2.2.2.2.2.2.2.2.2.2.2.2.2.2.2,()))else
some (v0,v1,v2,false,v3,x1.1,x1.2.1,x1.2.2.1,x1.2.2.2.1,x1.2.2.2.2.1,x1.2.2.2.2.2.1,x1.2.2.2.2.2.2.1,x1.2.2.2.2.2.2.2.1,x1.2.2.2.2.2.2.2.2.1,x1.2.2.2.2.2.2.2.2.2.1,x1.2.2.2.2.2.2.2.2.2.2.1,x1.2.2.2.2.2.2.2.2.2.2.2.1,x1.2.2.2.2.2.2.2.2.2.2.2.2.1,x1.2.2.2.2.2.2.2.2.2.2.2.2.2.1,x1.2.2.2.2.2.2.2.2.2.2.2.2.2.2.1,x1.2.2.2.2.2.2.2.2.2.2.2.2.2.2.2.1,x1.2.2.2.2.2.2.2.2.2.2.2.2.2.2.2.2.1,x1.2.2.2.2.2.2.2.2.2.2.2.2.2.2.2.2.2,()))else
some (v0,v1,v2,false,v3,x1.1,x1.2.1,x1.2.2.1,x1.2.2.2.1,x1.2.2.2.2.1,x1.2.2.2.2.2.1,x1.2.2.2.2.2.2.1,x1.2.2.2.2.2.2.2.1,x1.2.2.2.2.2.2.2.2.1,x1.2.2.2.2.2.2.2.2.2.1,x1.2.2.2.2.2.2.2.2.2.2.1,x1.2.2.2.2.2.2.2.2.2.2.2.1,x1.2.2.2.2.2.2.2.2.2.2.2.2.1,x1.2.2.2.2.2.2.2.2.2.2.2.2.2.1,x1.2.2.2.2.2.2.2.2.2.2.2.2.2.2.1,x1.2.2.2.2.2.2.2.2.2.2.2.2.2.2.2.1,x1.2.2.2.2.2.2.2.2.2.2.2.2.2.2.2.2.1,x1.2.2.2.2.2.2.2.2.2.2.2.2.2.2.2.2.2,()):Option (LDEn×Int×Int×Bool×LDOu×T2m)).bind λ(x2,x3,x4,x5,x6,x7,x8,x9,ac,ae,af,ag,ah,ai,aj,ak,_)=>
bif x5 then((dJ aj 0).bind λaz=>
let aA:=wk .i64 az.2.1;
(lU x6 aA ak).bind λ(aB,_)=>
some (x2,x3,x4,aB,()))else
some (x2,x3,x4,x6,()):Option (T0x)).bind λ(x0,x1,x2,x3,_)=>
let x4:=w64 (x2+1);
some (.inl (x0,x1,x4,x3,())))else
some (.inr (v0,v1,v2,false,v3,()))
def jn(a0:LDEn):Option (LDOu×Unit):=
let x0:=dO a0.length;
(dY jt NN (a0,x0,0,[],())).bind λ(x1,x2,x3,x4,x5,_)=>
some (x5,())
def wB:X.Cfg:=⟨E0,[tR],[],[⟨10,0,qE,[(.normal,qS [Zaa 3 9,zaa 5,sP 7 Cd,Uaa 8,Uaa 9,Xaa 41] [(9,yaf),(12,Uag)])]⟩,⟨7,1,qE,[(.normal,qS [Zaa 3 9,sP 7 Cd,Uaa 8,Uaa 9] [(9,yaf)])]⟩,(lx 4 2 [Zaa 3 9,sP 7 Cd,Uaa 8,Uaa 9] [(9,yaf)] 10)]⟩
def pL:Ctr:=⟨25,174,uL [Cd],[],[⟨yaf,[.one],[]⟩],ap1 jn⟩
theorem ww:Lk 4 pL:=ls wB (aC AQ aN)
def mG:LDOu×T0j->Option ((LDOu×T0j)⊕((Bool×Unit)⊕(LDOu×T0y))):=λ(v0,v1,v2,v3,_)=>
bif(decide (v3<v2))then(((eq v3).bind λx0=>
(dJ v0 x0).bind λx1=>
(eq v3).bind λx2=>
(dJ v1 x2).bind λx3=>
bif(x1.1 != x3.1)then(some (v0,v1,v2,v3,true,()))else
(eq v3).bind λx4=>
(dJ v0 x4).bind λx5=>
(eq v3).bind λx6=>
(dJ v1 x6).bind λx7=>
bif(x5.2.1 != x7.2.1)then(some (v0,v1,v2,v3,true,()))else
(eq v3).bind λx8=>
(dJ v0 x8).bind λx9=>
(eq v3).bind λac=>
(dJ v1 ac).bind λae=>
(fX x9.2.2 ae.2.2).bind λ(af,_)=>
some (v0,v1,v2,v3,(!af),()):Option (LDOu×T0y)).bind λ(x0,x1,x2,x3,x4,_)=>
bif x4 then(some (.inr (.inl (false,()))))else
let x5:=w64 (x3+1);
some (.inl (x0,x1,x2,x5,())))else
some (.inr (.inr (v0,v1,v2,v3,false,())))
def ne(a0:LDOu)(a1:LDOu):Option (Bool×Unit):=
let x0:=dO a0.length;
let x1:=dO a1.length;
bif(x0 != x1)then(some (false,()))else
let x2:=dO a0.length;
(match dY mG NN (a0,a1,x2,0,())with
|none=>none
|some (.inl (x3,_))=>
some (x3,())
|some (.inr (x3,_))=>
some (true,()))
def Dk:X.Cfg:=⟨E0,[oq],[],[⟨11,0,qE,[(.normal,qS [sP 0 iM,sP 1 iM,Uaa 12,Uaa 13,Xaa 53] [])]⟩,⟨6,1,qS [sP 0 iM,sP 1 iM,Uaa 12,Uaa 13] [],[(.ret,qS [Xaa 4] []),(.exit 0,qS [sP 0 iM,sP 1 iM,Uaa 12,Uaa 13,Xaa 14] [])]⟩]⟩
def vN:Ctr:=⟨24,175,uL [iM,iM],[],[⟨uab,[.one],[]⟩],ap2 ne⟩
theorem CU:Lk 2 vN:=ls Dk (aC uQ aN)
def gg:T2A->Option (T2A⊕((Bool×Unit)⊕(Int×LDTh×T2y))):=λ(v0,v1,v2,v3,v4,v5,v6,v7,v8,v9,v10,v11,v12,v13,v14,v15,v16,v17,v18,v19,v20,v21,v22,_)=>
bif(decide (v3<v2))then((eq v3).bind λx0=>
(dJ v1 x0).bind λx1=>
(eq v3).bind λx2=>
(dJ v22 x2).bind λx3=>
(dJ v22 x2).bind λx4=>
bif(x4 != x1.1)then(some (.inr (.inl (false,()))))else
let x5:=w64 (v3+1);
some (.inl (v0,v1,v2,x5,v4,v5,v6,v7,v8,v9,v10,v11,v12,v13,v14,v15,v16,v17,v18,v19,v20,v21,v22,())))else
some (.inr (.inr (v0,v1,v2,v3,false,v4,v5,v6,v7,v8,v9,v10,v11,v12,v13,v14,v15,v16,v17,v18,v19,v20,v21,v22,())))
def j8(a0:List (Int))(a1:Int):Option (Bool×Unit):=
(rl a0 0).bind λ(x0,x1,x2,x3,x4,x5,x6,x7,x8,x9,ac,ae,af,ag,ah,ai,aj,ak,_)=>
(fv aj).bind λ(ap,aq,_)=>
bif(!aq)then(some (false,()))else
let av:=dO ap.length;
bif(av != 4)then(some (false,()))else
let ax:=dO x7.length;
(match dY gg NN (a1,x7,ax,0,x0,x1,x2,x3,x4,x5,x6,x7,x8,x9,ac,ae,af,ag,ah,ai,aj,ak,ap,())with
|none=>none
|some (.inl (ay,_))=>
some (ay,())
|some (.inr (ay,az,aA,aB,aD,aE,aF,aG,aH,aI,aJ,aK,aL,aM,aO,aP,aQ,aR,aS,aT,aU,aV,_))=>
let aZ:=dO aV.length;
let ba:=w64 (aZ+1);
(rk ay ba).bind λ(bc,_)=>
(eq bc).bind λbd=>
bif(gY 0 bd aV.length)then let bf:LDEn:=(lT aV 0 (Nat.sub bd 0));
(fv bf).bind λ(bg,bh,_)=>
bif bh then(let bi:Int:=(dO bg.length);
bif(bi==4)then((jn aV).bind λ(bj,_)=>
(ne bj aS).bind λ(bk,_)=>
bif bk then((jX aL).bind λ(bl,_)=>
let bm:=dO bl.length;
bif(decide (bm<=4))then((oN).bind λ(bn,_)=>
some (bn,()))else
some (false,()))else
some (false,()))else
some (false,()))else
some (false,())else none)
def tL:X.Cfg:=⟨E0,[Ap,m6,Ca,pL,vN,pd,ui],[],[⟨8,0,qS [Uaa 1,zaa 5,Zaa 6 15,sP 30 i4,Uaa 31,Uaa 32] [(12,uah),(15,uac)],[(.ret,qS [Xaa 4] []),(.exit 0,qS [Uaa 1,zaa 5,Zaa 6 15,sP 30 i4,Uaa 31,Uaa 32,Xaa 33] [(12,uah),(15,uac)])]⟩]⟩
def nN:Ctr:=⟨5,176,yab,[],[⟨uab,[.one],[]⟩],ap2 j8⟩
theorem k_law20_RecordRuns:Lk 13 nN:=ls tL (aC HM (aC qv (aC Gj (aC ww (aC CU (aC tC (aC Bb aN)))))))
end
end Go.Proofs.YtoldehogdgdhmaaGreat
namespace Go.Proofs.YtoldehogdgdhmaaGreat
set_option maxRecDepth 100000
noncomputable section
end
end Go.Proofs.YtoldehogdgdhmaaGreat
namespace Go.Proofs.YtoldehogdgdhmaaGreat
open Go.RowKit
theorem Qd:(Tryz.prog.funcs.all λfn=>!(fn.name=="runtime.NumGoroutine"))=true:=by kernel_rfl
theorem HB:oz Tryz.prog 8:=by
 obtain⟨fn,hf,hb⟩:∃fn,Tryz.prog.funcs[8]?=some fn/\fn.body.isSome=true:=by
  have hs:(match Tryz.prog.funcs[8]? with|some fn=>fn.body.isSome|none=>false)=true:=by kernel_rfl
  cases h:Tryz.prog.funcs[8]? with
  |none=>rw[h]at hs;cases hs
  |some fn=>rw[h]at hs;exact⟨fn,rfl,hs⟩
 obtain⟨c,hc⟩:=Option.isSome_iff_exists.1 hb;refine D1 hf ?_ hc;obtain⟨hlt,he⟩:=Array.getElem?_eq_some_iff.1 hf;have:=Array.all_eq_true.1 Qd 8 hlt;rw[he]at this;simpa using this
def OL(x:Value)(w:World)(e:Ending)(w':World):Prop:=e=.returned (.pointer (some ⟨w.heap.size,0,none⟩))/\w'=w.alloc (.cells #[x,.int .i64 0] 90)
theorem N4(x:Value)(hx:x.oneCell'=true)(w:World):
 Calls Tryz.prog 8 #[x] w (OL x w):=by
 cases x
 all_goals first
  |(go_enter Tryz.func8,Tryz.ntmps8
    go_wp2
    go_ret
    exact⟨rfl,rfl⟩)
  |simp[Value.oneCell']at hx
theorem PD:Ce Tryz.prog E0:=by
 intro f n tm h;simp only[E0]at h;split at h
 ·rename_i e;subst e
  injection h with h
  injection h with h1 h2
  subst h1 h2;refine⟨HB,λx hx=>?_,90,λl2 w hl Zk=>?_⟩
  ·simp only[List.mem_cons,List.not_mem_nil,or_false]at hx;rcases hx with hx|hx
   ·injection hx
   ·injection hx with hx;rw[hx];rfl
  ·match l2,hl with
   | [x],_=>exact N4 x (Zk x (by simp[bxV])) w
 ·simp at h
theorem e0_ok:Ed Tryz.prog E0:=Mo PD
def Ok{α:Type}(o:Option α)(Q:α->Prop):Prop:=∃a,o=some a/\Q a
section
variable {α β:Type}
theorem Ok.ret{a:α}{Q:α->Prop}(h:Q a):Ok (some a) Q:=⟨a,rfl,h⟩
theorem Ok.bind{o:Option α}{f:α->Option β}{P:α->Prop}{Q:β->Prop}(h:Ok o P)(h2:∀a,P a->Ok (f a) Q):Ok (o.bind f) Q:=by
 obtain⟨a,rfl,h1⟩:=h
 simp_all
theorem Ok.mono{o:Option α}{P Q:α->Prop}(h:Ok o P)(h2:∀a,P a->Q a):Ok o Q:=by
 have ⟨a,e,h1⟩:=h;exact⟨a,e,h2 a h1⟩
theorem Ok.cond{c:Bool}{a b:Option α}{Q:α->Prop}(h1:c=true->Ok a Q)(h2:c=false->Ok b Q):Ok (bif c then a else b) Q:=by
 grind
class BP (b:Bool) (P N:outParam Prop):Prop where
 t:b=true->P
 f:b=false->N
instance (priority:=low) bpVar {b:Bool}:BP b (b=true) (b=false):=⟨id,id⟩
instance QL {p:Prop}{i:Decidable p}:BP (@decide p i) p (¬p):=⟨of_decide_eq_true,of_decide_eq_false⟩
instance QY {α:Type}[BEq α][LawfulBEq α]{a b:α}:BP (a==b) (a=b) (¬a=b):=⟨eq_of_beq,λh=>beq_eq_false_iff_ne.1 h⟩
instance QX {α:Type}[BEq α][LawfulBEq α]{a b:α}:BP (a != b) (¬a=b) (a=b):=⟨λh=>bne_iff_ne.1 h,λh=>bne_eq_false_iff_eq.1 h⟩
instance QK {b:Bool}{P N:Prop}[h:BP b P N]:BP (!b) N P:=⟨λe=>h.f (by simpa using e),λe=>h.t (by simpa using e)⟩
theorem dF{c:Bool}{P N:Prop}[h:BP c P N]{a b:Option α}{Q:α->Prop}(h1:P->Ok a Q)(h2:N->Ok b Q):Ok (bif c then a else b) Q:=by
 cases hc:c with
 |true=>exact h1 (h.t hc)
 |false=>exact h2 (h.f hc)
theorem Ok.get{l:List α}{i:Nat}{f:α->Option β}{Q:β->Prop}(h:i<l.length)(h2:∀a,l[i]?=some a->Ok (f a) Q):Ok ((dJ l i).bind f) Q:=by
 have e:dJ l i=some l[i]:=oGE h
 simp_all
theorem Ok.nat{x:Int}{f:Nat->Option β}{Q:β->Prop}(h:0<=x)(h2:∀n:Nat,x=n->Ok (f n) Q):Ok ((eq x).bind f) Q:=by
 obtain⟨n,rfl⟩:∃n:Nat,x=n:=⟨x.toNat,by omega⟩;exact h2 n rfl
theorem Ok.val{v:α}{f:α->Option β}{Q:β->Prop}(h:∀x,x=v->Ok (f x) Q):Ok (f v) Q:=h v rfl
theorem dH{c:Bool}{a b:Option α}{Q:α->Prop}(hc:c=true)(h1:Ok a Q):Ok (bif c then a else b) Q:=by simp_all
theorem gy{S T:Type}{f:S->Option (S⊕T)}(P:S->Prop)(R:T->Prop)(m:S->Nat){n:Nat}{s:S}(hs:P s)(hm:m s<n)
 (h:∀s,P s->Ok (f s) λr=>match r with|.inl s'=>P s'/\m s'<m s|.inr t=>R t):Ok (dY f n s) R:=by
 induction n generalizing s with
 |zero=>omega
 |succ n ih=>
  have ⟨r,e,hr⟩:=h s hs
  cases r with
  |inl s'=>
   have ⟨t,e2,hq⟩:=ih hr.1 (by omega);exact⟨t,by simp[dY,e];exact e2,hq⟩
  |inr t=>exact⟨t,by simp[dY,e],hr⟩
theorem Ok.loop{S T:Type}{f:S->Option (S⊕T)}{g:T->Option β}{Q:β->Prop}(P:S->Prop)(R:T->Prop)(m:S->Nat){n:Nat}{s:S}(hs:P s)(hm:m s<n)
 (h:∀s,P s->Ok (f s) λr=>match r with|.inl s'=>P s'/\m s'<m s|.inr t=>R t)(hg:∀t,R t->Ok (g t) Q):Ok ((dY f n s).bind g) Q:=(gy P R m hs hm h).bind hg
end
theorem dQ{x:Int}(h1:-9223372036854775808<=x)(h2:x<=9223372036854775807):w64 x=x:=wrap_i64 h1 h2
theorem dL(n:Nat):eq (n:Int)=some n:=rfl
theorem dR(n:Nat):dO n=(n:Int):=rfl
theorem dP{α:Type}{l:List α}{i:Nat}{a:α}(h:l[i]?=some a):a∈l:=List.mem_of_getElem? h
def W16(x:Int):Prop:=0<=x/\x<=65535
theorem dZ{x:Int}(h0:0<=x)(h1:x<=65535):wk .u16 x=x:=by
 unfold wk;rw[Av];omega
theorem dT{x:Int}(h0:-9223372036854775808<=x)(h1:x<=9223372036854775807):wk .i64 x=x:=dQ h0 h1
theorem dU{b n m:Nat}(h:b<=1000/\n+m<=1000000):dW b n m=true:=by
 have:=Nat.mul_le_mul h.2 h.1;simp[dW];omega
structure DOk (l:List Int)(k:Int):Prop where
 num:∀x∈l,KV x
 len:l.length<=maxLen
 lo:0<=k
 hi:k<=l.length
theorem DOk.start{l:List Int}(h:∀x∈l,KV x)(hl:l.length<=maxLen):DOk l 0:=⟨h,hl,by omega,by omega⟩
theorem MR{a b:Int}(ha:KV a)(hb:0<b)(ZU:b<=9223372036854775807):∃v,jq a b=some (v,())/\0<=v/\v<b:=by
 have hne:(b != 0)=true:=by simp;omega
 have hm:=Int.tmod_lt_of_pos a hb
 have hm2:-b<Int.tmod a b:=by
  have:=Int.tmod_lt_of_pos (-a) hb;rw[Int.neg_tmod]at this;omega
 unfold jq;simp[hne];by_cases h:Int.tmod a b<0
 ·refine⟨Int.tmod a b+b,?_,by omega,by omega⟩;simp[h,decide_true];rw[dQ (by omega) (by omega)]
 ·refine⟨Int.tmod a b,?_,by omega,hm⟩;simp[h,decide_false,oCF]
section
variable {β:Type} {l:List Int} {k n:Int} {Q:β->Prop}
theorem N5{a b:Int}{f:Int×Unit->Option β}(ha:KV a)(hb:0<b)(ZU:b<=9223372036854775807)(K:∀v,0<=v->v<b->Ok (f (v,())) Q):Ok ((jq a b).bind f) Q:=by
 have ⟨v,e,h0,h1⟩:=MR ha hb ZU
 simp_all
theorem gj{f:Int×List Int×Int×Unit->Option β}(h:DOk l k)(hn:0<n)(hn2:n<=9223372036854775807)(K:∀v k',0<=v->v<n->DOk l k'->Ok (f (v,l,k',())) Q):Ok ((dM n l k).bind f) Q:=by
 have hl:=h.len;have TZ:=h.lo
 have Xx:maxLen<=9223372036854775807:=by decide
 by_cases hk:k>=(l.length:Int)
 ·have e:dM n l k=some (0,l,k,()):=by unfold dM;simp[dR,hk]
  simp_all
 ·obtain⟨j,rfl⟩:∃j:Nat,k=j:=⟨k.toNat,by omega⟩
  have hj:j<l.length:=by omega
  obtain⟨v,hv,h0,h1⟩:=MR (h.num _ (List.getElem_mem hj)) hn hn2
  have e:dM n l j=some (v,l,(j:Int)+1,()):=by
   unfold dM;delta dO
   try dsimp only
   rw[dQ (x:=(j:Int)+1) (by omega) (by omega),dQ (x:=(j:Int)+1-1) (by omega) (by omega)];rw[show(j:Int)+1-1=j by omega,dL];simp[hk,decide_false,oCF,oBS,dJ,oGE hj,rk,hv]
  rw[e];exact K v _ h0 h1 ⟨h.num,hl,by omega,by omega⟩
theorem Is{f:Int×List Int×Int×Unit->Option β}(h:DOk l k)(K:∀v k',0<=v->v<=65535->DOk l k'->Ok (f (v,l,k',())) Q):Ok ((ju l k).bind f) Q:=by
 have hw:Ok (ju l k) λr=>∃v k',r=(v,l,k',())/\0<=v/\v<=65535/\DOk l k':=by
  unfold ju
  (with_reducible refine gj (by assumption) (by omega) (by omega) (λv k a b d=>?_);try dsimp only)
  refine Ok.bind (P:=λr=>∃b,r=(v,b,l,k,())) ?_ ?_
  ·repeat ((with_reducible refine dF (λhc=>?_) λhc=>?_);· exact Ok.ret ⟨_,rfl⟩)
   exact Ok.ret ⟨_,rfl⟩
  ·rintro _ ⟨b,rfl⟩;refine Ok.cond (λ_=>?_) λ_=>?_
   ·(with_reducible refine gj (by assumption) (by omega) (by omega) (λv k a b d=>?_);try dsimp only)
    (simp (disch:=omega) only [dQ,dZ,dT,dR])
    exact Ok.ret ⟨_,_,rfl,by omega,by omega,by assumption⟩
   ·(with_reducible refine dF (λhc=>?_) λhc=>?_)
    ·(with_reducible refine gj (by assumption) (by omega) (by omega) (λv k a b d=>?_);try dsimp only)
     (simp (disch:=omega) only [dQ,dZ,dT,dR])
     exact Ok.ret ⟨_,_,rfl,by omega,by omega,by assumption⟩
    ·(with_reducible refine gj (by omega) (by omega) (by omega) (λv k a b d=>?_);try dsimp only)
     (simp (disch:=omega) only [dQ,dZ,dT,dR])
     exact Ok.ret ⟨_,_,rfl,by omega,by omega,by omega⟩
 refine hw.bind ?_
 simp_all
end
def yM(s:List Int):Prop:=1<=s.length/\s.length<=4/\∀x∈s,1<=x/\x<=32
theorem QC{P:Int->Prop}{a b c:Int}(ha:P a)(hb:P b)(hc:P c):∀x∈[a,b,c],P x:=by
 simp_all
theorem K4{l:List Int}{k:Int}(h:DOk l k):Ok (nB l k) λr=>∃s k',r=(s,l,k',())/\yM s/\DOk l k':=by
 unfold nB
 (with_reducible refine gj (by assumption) (by omega) (by omega) (λv0 k0 a0 b0 d0=>?_);try dsimp only)
 (simp (disch:=omega) only [dQ,dZ,dT,dR])
 (with_reducible refine gj (by assumption) (by omega) (by omega) (λv1 k1 a1 b1 d1=>?_);try dsimp only)
 refine Ok.loop (P:=λ((c,l',k',s,_):Int×List Int×Int×List Int×Unit)=>l'=l/\DOk l k'/\0<=c/\c+s.length<=4/\1<=s.length/\∀x∈s,1<=x/\x<=32)
  (R:=λ((_,_,l',k',s,_):Int×Bool×List Int×Int×List Int×Unit)=>l'=l/\DOk l k'/\yM s) (m:=λs=>s.1.toNat) ⟨rfl,d1,a1,by simp;omega,by simp,by simp;omega⟩ (by unfold NN;dsimp only;omega) ?_ ?_
 ·rintro⟨c,l',k3,s,_⟩ ⟨rfl,Xv,hc0,Vg,hs1,hs⟩;dsimp only at *;unfold qc;dsimp only
  (with_reducible refine dF (λhc=>?_) λhc=>?_)
  ·(with_reducible refine gj (by assumption) (by omega) (by omega) (λv2 k2 a2 b2 d2=>?_);try dsimp only)
   (with_reducible refine Ok.nat (by omega) (λj hj=>?_);try dsimp only)
   have Zf:∀x∈[(6:Int),12,32],6<=x/\x<=32:=by simp_all
   refine Ok.get (by simp;omega) λa ha=>?_;refine Ok.get (by simp;omega) λb hb=>?_;have h7:=Zf b (dP hb)
   (with_reducible refine gj (by assumption) (by omega) (by omega) (λv3 k3 a3 b3 d3=>?_);try dsimp only)
   (simp (disch:=omega) only [dQ,dZ,dT,dR])
   refine dH (dU (by simp;omega)) ?_;refine Ok.ret ⟨⟨rfl,by assumption,by omega,?_,?_,?_⟩,?_⟩
   ·simp;omega
   ·simp
   ·intro x hx;simp at hx;rcases hx with hx|rfl
    ·exact hs x hx
    ·omega
   ·dsimp only;omega
  ·exact Ok.ret ⟨rfl,Xv,hs1,by dsimp only;omega,hs⟩
 ·rintro⟨a,b,l',k3,s,_⟩ ⟨rfl,Xv,hs⟩;exact Ok.ret ⟨_,_,rfl,hs,Xv⟩
def pQ(op:Int):Bool:=!(op==18||op==23||op==0||op==24)
def pO(op:Int):Bool:=!(op==18||op==23||op==0||op==24||op==1||op==15||op==19||op==20||op==21||op==22)
def pN(op:Int):Bool:=!(op==18||op==23||op==0||op==24||op==1||op==15||op==19||op==20||op==21||op==22||op==2||op==16||op==17)
def pM(op:Int):Bool:=op==1||op==15||op==19||op==20||op==21||op==16||op==17||op==18||op==23
def m7(op:Int):Bool:=op==18||op==19||op==20||op==21
theorem Iw{op:Int}(h0:0<=op)(h1:op<=24):jz op=some (pQ op,pO op,pN op,pM op,()):=by
 obtain⟨n,rfl⟩:∃n:Nat,op=n:=⟨op.toNat,by omega⟩
 have hn:n<25:=by omega
 have key:∀n:Fin 25,(jz ((n.val:Nat):Int)).map (λx=>(x.1,x.2.1,x.2.2.1,x.2.2.2.1))=some (pQ (n.val:Nat),pO (n.val:Nat),pN (n.val:Nat),pM (n.val:Nat)):=by decide
 have:=key ⟨n,hn⟩
 cases h:jz (n:Int)with
 |none=>simp_all
 |some x=>
  obtain⟨a,b,c,d,_⟩:=x
  simp_all
theorem xO(op:Int):gO op=some (m7 op,()):=by
 unfold gO m7
 grind
structure iq (n m:Int)(i:DIn):Prop where
 op:0<=i.1/\i.1<=24
 a:0<=i.2.1/\i.2.1<8/\(pQ i.1=false->i.2.1=0)
 b:0<=i.2.2.1/\i.2.2.1<8/\(pO i.1=false->i.2.2.1=0)
 c:0<=i.2.2.2.1/\i.2.2.2.1<8/\(pN i.1=false->i.2.2.2.1=0)
 imm:0<=i.2.2.2.2/\i.2.2.2.2<=65535/\(pM i.1=false->i.2.2.2.2=0)
 lea:i.1=15->i.2.2.2.2<n
 sys:i.1=23->i.2.2.2.2<=15
 jmp:m7 i.1=true->i.2.2.2.2<m
theorem ins_mk{n m o a b c i:Int}(ho:0<=o/\o<=24)(ha:0<=a/\a<8)(hb:0<=b/\b<8)(hc:0<=c/\c<8)(hi:0<=i/\i<=65535)(hA:pQ o=true\/a=0)(hB:pO o=true\/b=0)(hC:pN o=true\/c=0)(hI:pM o=true\/i=0)
 (hl:o=15->i<n)(hs:o=23->i<=15)(hj:m7 o=true->i<m):iq n m (o,a,b,c,i):=
 ⟨ho,⟨ha.1,ha.2,λh=>hA.elim (λh'=>by simp_all) id⟩,⟨hb.1,hb.2,λh=>hB.elim (λh'=>by simp_all) id⟩,
  ⟨hc.1,hc.2,λh=>hC.elim (λh'=>by simp_all) id⟩,⟨hi.1,hi.2,λh=>hI.elim (λh'=>by simp_all) id⟩,hl,hs,hj⟩
theorem CN{n m r v:Int}(h:0<=r/\r<8)(hv:0<=v/\v<=65535):iq n m (1,r,0,0,v):=ins_mk (by decide) h (by decide) (by decide) hv (.inl (by decide)) (.inr rfl) (.inr rfl) (.inl (by decide)) (by omega) (by omega) (λh=>absurd h (by decide))
theorem EI{n m r v:Int}(h:0<=r/\r<8)(hv:0<=v/\v<8):iq n m (2,r,v,0,0):=ins_mk (by decide) h hv (by decide) (by decide) (.inl (by decide)) (.inl (by decide)) (.inr rfl) (.inr rfl) (by omega) (by omega) (λh=>absurd h (by decide))
theorem xf{n m v:Int}(hv:0<=v/\v<=15):iq n m (23,0,0,0,v):=ins_mk (by decide) (by decide) (by decide) (by decide) (by omega) (.inr rfl) (.inr rfl) (.inr rfl) (.inl (by decide)) (by omega) (by omega) (λh=>absurd h (by decide))
theorem EM{n m r v:Int}(h:0<=r/\r<8)(hv:0<=v/\v<n)(hn:n<=4):iq n m (15,r,0,0,v):=ins_mk (by decide) h (by decide) (by decide) (by omega) (.inl (by decide)) (.inr rfl) (.inr rfl) (.inl (by decide)) (by omega) (by omega) (λh=>absurd h (by decide))
theorem IA{n m o a b v:Int}(ho:o=16\/o=17)(h:0<=a/\a<8)(hb:0<=b/\b<8)(hv:0<=v/\v<=65535):iq n m (o,a,b,0,v):=by
 rcases ho with rfl|rfl
 all_goals exact ins_mk (by decide) h hb (by decide) hv (.inl (by decide)) (.inl (by decide)) (.inr rfl) (.inl (by decide)) (by omega) (by omega) (λh=>absurd h (by decide))
theorem EF{n m o a b c:Int}(ho:3<=o/\o<=14)(h:0<=a/\a<8)(hb:0<=b/\b<8)(hc:0<=c/\c<8):iq n m (o,a,b,c,0):=
 ins_mk (by omega) h hb hc (by decide) (.inl (by unfold pQ;simp;omega)) (.inl (by unfold pO;simp;omega)) (.inl (by unfold pN;simp;omega)) (.inr rfl) (by omega) (by omega) (λh=>by unfold m7 at h;simp at h;omega)
theorem Ob{n m v:Int}(hv:0<=v/\v<=65535)(hm:v<m):iq n m (18,0,0,0,v):=ins_mk (by decide) (by decide) (by decide) (by decide) hv (.inr rfl) (.inr rfl) (.inr rfl) (.inl (by decide)) (by omega) (by omega) (λ_=>hm)
theorem NR{n m:Int}:iq n m (24,0,0,0,0):=ins_mk (by decide) (by decide) (by decide) (by decide) (by decide) (.inr rfl) (.inr rfl) (.inr rfl) (.inr rfl) (by omega) (by omega) (λh=>absurd h (by decide))
theorem iq.mono{n m m':Int}{i:DIn}(h:iq n m i)(hm:m<=m'):iq n m' i:=⟨h.op,h.a,h.b,h.c,h.imm,h.lea,h.sys,λhj=>by have:=h.jmp hj;omega⟩
theorem EX{n m a v:Int}(h:0<=a/\a<8)(hv:0<=v/\v<=65535)(hm:v<m):iq n m (20,a,0,0,v):=ins_mk (by decide) h (by decide) (by decide) hv (.inl (by decide)) (.inr rfl) (.inr rfl) (.inl (by decide)) (by omega) (by omega) (λ_=>hm)
theorem LY{n Xs k:Int}{l:List Int}(h:DOk l k)(hn:1<=n/\n<=4)(hm:1<=Xs/\Xs<=100):Ok (nC n Xs l k) λr=>∃o a b c i k',r=(o,a,b,c,i,l,k',())/\iq n Xs (o,a,b,c,i)/\DOk l k':=by
 unfold nC
 (with_reducible refine gj (by assumption) (by omega) (by omega) (λv0 k0 a0 b0 d0=>?_);try dsimp only)
 rw[Iw (by omega) (by omega)];simp only[oBS];refine Ok.bind (P:=λr=>∃x k',r=(n,Xs,l,k',0,0,0,0,0,v0,x,0,0,0,pQ v0,pO v0,pN v0,pM v0,())/\0<=x/\x<8/\(pQ v0=false->x=0)/\DOk l k') ?_ ?_
 ·refine Ok.cond (λhc=>?_) λhc=>Ok.ret ⟨_,_,rfl,by omega,by omega,λ_=>rfl,d0⟩
  (with_reducible refine gj (by assumption) (by omega) (by omega) (λv1 k1 a1 b1 d1=>?_);try dsimp only)
  exact Ok.ret ⟨_,_,rfl,a1,b1,(λhh=>by rw[hc]at hh;cases hh),d1⟩
 rintro _ ⟨xa,k1,rfl,Ro,Yh,X1,d1⟩;dsimp only;refine Ok.bind (P:=λr=>∃x k',r=(n,Xs,l,k',0,0,0,0,0,v0,xa,x,0,0,pQ v0,pO v0,pN v0,pM v0,())/\0<=x/\x<8/\(pO v0=false->x=0)/\DOk l k') ?_ ?_
 ·refine Ok.cond (λhc=>?_) λhc=>Ok.ret ⟨_,_,rfl,by omega,by omega,λ_=>rfl,d1⟩
  (with_reducible refine gj (by assumption) (by omega) (by omega) (λv2 k2 a2 b2 d2=>?_);try dsimp only)
  exact Ok.ret ⟨_,_,rfl,a2,b2,(λhh=>by rw[hc]at hh;cases hh),d2⟩
 rintro _ ⟨xb,k2,rfl,RX,ZJ,ZU,d2⟩;dsimp only;refine Ok.bind (P:=λr=>∃x k',r=(n,Xs,l,k',0,0,0,0,0,v0,xa,xb,x,0,pQ v0,pO v0,pN v0,pM v0,())/\0<=x/\x<8/\(pN v0=false->x=0)/\DOk l k') ?_ ?_
 ·refine Ok.cond (λhc=>?_) λhc=>Ok.ret ⟨_,_,rfl,by omega,by omega,λ_=>rfl,d2⟩
  (with_reducible refine gj (by assumption) (by omega) (by omega) (λv3 k3 a3 b3 d3=>?_);try dsimp only)
  exact Ok.ret ⟨_,_,rfl,a3,b3,(λhh=>by rw[hc]at hh;cases hh),d3⟩
 rintro _ ⟨xc,k3,rfl,hc0,ZK,ZB,d3⟩;dsimp only;rw[xO];simp only[oBS];refine Ok.bind (P:=λr=>∃x k',r=(l,k',0,0,0,0,0,v0,xa,xb,xc,x,())/\0<=x/\x<=65535/\(pM v0=false->x=0)/\(v0=15->x<n)/\(v0=23->x<=15)/\(m7 v0=true->x<Xs)/\DOk l k') ?_ ?_
 ·refine Ok.cond (λhj=>?_) λhj=>?_
  ·(with_reducible refine gj (by assumption) (by omega) (by omega) (λv4 k4 a4 b4 d4=>?_);try dsimp only)
   have hne:v0≠15/\v0≠23:=by constructor<;>(rintro rfl;exact absurd hj (by decide))
   exact Ok.ret ⟨_,_,rfl,a4,by omega,(λhh=>by
    have:pM v0=true:=by unfold m7 at hj;unfold pM;simp at hj⊢;omega
    rw[this]at hh;cases hh),by omega,by omega,λ_=>b4,d4⟩
  ·(with_reducible refine dF (λhc5=>?_) λhc5=>?_)
   ·subst hc5
    (with_reducible refine gj (by assumption) (by omega) (by omega) (λv4 k4 a4 b4 d4=>?_);try dsimp only)
    exact Ok.ret ⟨_,_,rfl,a4,by omega,λhh=>absurd hh (by decide),by omega,by omega,λhh=>absurd hh (by decide),d4⟩
   ·(with_reducible refine dF (λhc6=>?_) λhc6=>?_)
    ·subst hc6
     (with_reducible refine gj (by assumption) (by omega) (by omega) (λv4 k4 a4 b4 d4=>?_);try dsimp only)
     exact Ok.ret ⟨_,_,rfl,a4,by omega,λhh=>absurd hh (by decide),by omega,by omega,λhh=>absurd hh (by decide),d4⟩
    ·refine Ok.cond (λhu=>?_) λhu=>?_
     ·(with_reducible refine Is (by assumption) (λv4 k4 a4 b4 d4=>?_);try dsimp only)
      (simp (disch:=omega) only [dQ,dZ,dT,dR])
      exact Ok.ret ⟨_,_,rfl,a4,by omega,(λhh=>by rw[hu]at hh;cases hh),by omega,by omega,(λhh=>by rw[show m7 v0=false from hj]at hh;cases hh),d4⟩
     ·exact Ok.ret ⟨_,_,rfl,by omega,by omega,λ_=>rfl,by omega,by omega,(λhh=>by rw[show m7 v0=false from hj]at hh;cases hh),d3⟩
 rintro _ ⟨xi,k4,rfl,hi0,Xf,Zn,UW,hi4,hi5,d4⟩;exact Ok.ret ⟨_,_,_,_,_,_,rfl,⟨⟨a0,by dsimp only;omega⟩,⟨Ro,Yh,X1⟩,⟨RX,ZJ,ZU⟩,⟨hc0,ZK,ZB⟩,⟨hi0,Xf,Zn⟩,UW,hi4,hi5⟩,d4⟩
theorem mu{α β:Type}{l:List α}{i:Nat}{f:α->Option β}{Q:β->Prop}(P:α->Prop)(h:i<l.length)(hP:∀x∈l,P x)(h2:∀a,P a->Ok (f a) Q):Ok ((dJ l i).bind f) Q:=Ok.get h λa ha=>h2 a (hP a (dP ha))
theorem ek{α:Type}{P:α->Prop}:∀x∈([]:List α),P x:=λ_ h=>by cases h
theorem all_cons{α:Type}{P:α->Prop}{a:α}{l:List α}(h:P a)(h2:∀x∈l,P x):∀x∈a::l,P x:=by
 simp_all
theorem Pq(a b:Int):iG a b=some (1,a,0,0,b,()):=rfl
theorem Po(a b:Int):me a b=some (2,a,b,0,0,()):=rfl
theorem MH(a:Int):gT a=some (23,0,0,0,a,()):=rfl
theorem QH{x:Int}(h:1<=x):1<=mmR false 5 x/\mmR false 5 x<=5:=by
 unfold mmR;simp;omega
def GN(n at_:Int)(l:List Int)(r:List DIn×List Int×Int×Unit):Prop:=∃xs k',r=(xs,l,k',())/\1<=xs.length/\xs.length<=6/\(∀i∈xs,iq n (at_+xs.length) i)/\DOk l k'
theorem AJ{n at_:Int}{l:List Int}{xs:List DIn}{k:Int}(h1:1<=xs.length/\xs.length<=6)(h2:∀i∈xs,iq n (at_+xs.length) i)(h3:DOk l k):Ok (some (xs,l,k,())) (GN n at_ l):=Ok.ret ⟨xs,k,rfl,h1.1,h1.2,h2,h3⟩
theorem N3{s l:List Int}{at_ k:Int}(h:DOk l k)(hs:yM s)(ha:0<=at_/\at_<=99):Ok (oO s (at_+1) at_ l k) (GN s.length at_ l):=by
 obtain⟨hs1,Wd,hsz⟩:=hs
 have hn:1<=(s.length:Int)/\(s.length:Int)<=4:=by omega
 unfold oO;delta dO;simp only[Pq,Po,MH,oBS]
 (with_reducible refine gj (by assumption) (by omega) (by omega) (λvr kr ar br dr=>?_);try dsimp only)
 refine Ok.nat (by omega) λj hj=>?_;refine mu (λa=>1<=a/\a<=32) (by omega) hsz λz hz=>?_
 (simp (disch:=omega) only [dQ,dZ,dT,dR])
 have h5:=QH (x:=z+1) (by omega);generalize mmR false 5 (z+1)=mm at h5
 (with_reducible refine gj (by assumption) (by omega) (by omega) (λvu ku au bu du=>?_);try dsimp only)
 (with_reducible refine gj (by assumption) (by omega) (by omega) (λvw kw aw bw dw=>?_);try dsimp only)
 iterate 19
  (with_reducible refine dF (λhcc=>?_) λhcc=>?_)
  ·repeat (first|(simp (disch:=omega) only [dQ,dZ,dT,dR])|(with_reducible refine gj (by assumption) (by omega) (by omega) (λv k a b d=>?_);try dsimp only)|(with_reducible refine Is (by assumption) (λv k a b d=>?_);try dsimp only)|(with_reducible refine Ok.nat (by omega) (λj hj=>?_);try dsimp only)|((with_reducible first|refine mu (λa=>1<=a/\a<=32) (by omega) (by assumption) (λe he=>?_)|refine mu (λa=>3<=a/\a<=14) (by simp only[oLC,List.length_nil];omega) (by(first|exact(all_cons (by omega) (all_cons (by omega) ek))|exact(all_cons (by omega) (all_cons (by omega) (all_cons (by omega) ek)))|exact(all_cons (by omega) (all_cons (by omega) (all_cons (by omega) (all_cons (by omega) (all_cons (by omega) (all_cons (by omega) (all_cons (by omega) (all_cons (by omega) ek)))))))))) (λe he=>?_)|refine mu (λa=>0<=a/\a<=15) (by simp only[oLC,List.length_nil];omega) (by(first|exact(all_cons (by omega) (all_cons (by omega) ek))|exact(all_cons (by omega) (all_cons (by omega) (all_cons (by omega) ek)))|exact(all_cons (by omega) (all_cons (by omega) (all_cons (by omega) (all_cons (by omega) (all_cons (by omega) (all_cons (by omega) (all_cons (by omega) (all_cons (by omega) ek)))))))))) (λe he=>?_)|refine mu (λa=>1<=a/\a<=100) (by simp only[oLC,List.length_nil];omega) (by(first|exact(all_cons (by omega) (all_cons (by omega) ek))|exact(all_cons (by omega) (all_cons (by omega) (all_cons (by omega) ek)))|exact(all_cons (by omega) (all_cons (by omega) (all_cons (by omega) (all_cons (by omega) (all_cons (by omega) (all_cons (by omega) (all_cons (by omega) (all_cons (by omega) ek)))))))))) (λe he=>?_));try dsimp only)|(with_reducible refine dH (dU (by first|omega|simp)) ?_;try dsimp only)|(refine mu (λ(a:List DIn)=>(1<=a.length/\a.length<=6)/\∀i∈a,iq s.length (at_+a.length) i) (by simp only[oLC,List.length_nil];omega) (all_cons ⟨by simp,by((repeat' (first|exact ek|refine all_cons ?_ ?_|exact CN (by omega) (by omega)|exact EI (by omega) (by omega)|exact xf (by omega)|exact EM (by omega) (by omega) (by omega)|exact IA (by omega) (by omega) (by omega) (by omega)|exact EF (by omega) (by omega) (by omega) (by omega)|exact EX (by omega) (by omega) (by simp only[oLC,List.length_nil];omega)));done)⟩ (all_cons ⟨by simp,by((repeat' (first|exact ek|refine all_cons ?_ ?_|exact CN (by omega) (by omega)|exact EI (by omega) (by omega)|exact xf (by omega)|exact EM (by omega) (by omega) (by omega)|exact IA (by omega) (by omega) (by omega) (by omega)|exact EF (by omega) (by omega) (by omega) (by omega)|exact EX (by omega) (by omega) (by simp only[oLC,List.length_nil];omega)));done)⟩ ek)) (λe he=>?_);try dsimp only))
   first
    |exact AJ he.1 he.2 (by assumption)
    |(refine AJ (by simp) ?_ (by assumption);try simp only[List.append_eq,List.cons_append,List.nil_append]
      ((repeat' (first|exact ek|refine all_cons ?_ ?_|exact CN (by omega) (by omega)|exact EI (by omega) (by omega)|exact xf (by omega)|exact EM (by omega) (by omega) (by omega)|exact IA (by omega) (by omega) (by omega) (by omega)|exact EF (by omega) (by omega) (by omega) (by omega)|exact EX (by omega) (by omega) (by simp only[oLC,List.length_nil];omega)));done))
 refine(LY (by assumption) hn (by omega)).bind ?_;rintro _ ⟨o,a,b,c,i,k',rfl,hi,hd⟩;exact AJ (by simp) (all_cons (hi.mono (by simp)) ek) hd
theorem gU{α:Type}{P:α->Prop}{l m:List α}(h:∀x∈l,P x)(h2:∀x∈m,P x):∀x∈List.append l m,P x:=λx hx=>(List.mem_append.1 (show x∈l++m from hx)).elim (h x) (h2 x)
theorem fq{α:Type}(l m:List α):(List.append l m).length=l.length+m.length:=List.length_append
theorem oE{l:List Int}{k n:Int}(h:DOk l k)(hn:0<=n/\n<=1000):Ok (fV n l k) λr=>∃ws k',r=(ws,l,k',())/\(ws.length:Int)<=n/\(∀w∈ws,W16 w)/\DOk l k':=by
 unfold fV
 (simp (disch:=omega) only [dQ,dZ,dT,dR])
 (with_reducible refine gj (by assumption) (by omega) (by omega) (λv0 k0 a0 b0 d0=>?_);try dsimp only)
 refine Ok.loop (P:=λ((c,l',k',s,_):Int×List Int×Int×List Int×Unit)=>l'=l/\DOk l k'/\0<=c/\c+s.length<=n/\∀x∈s,W16 x)
  (R:=λ((_,_,l',k',s,_):Int×Bool×List Int×Int×List Int×Unit)=>l'=l/\DOk l k'/\(s.length:Int)<=n/\∀x∈s,W16 x) (m:=λs=>s.1.toNat) ⟨rfl,d0,a0,by simp;omega,ek⟩ (by unfold NN;dsimp only;omega) ?_ ?_
 ·rintro⟨c,l',k3,s,_⟩ ⟨rfl,Xv,hc0,Vg,hs⟩;unfold qb;dsimp only
  (with_reducible refine dF (λhcc=>?_) λhcc=>?_)
  ·(with_reducible refine Is (by assumption) (λv1 k1 a1 b1 d1=>?_);try dsimp only)
   refine dH (dU (by simp;omega)) ?_
   (simp (disch:=omega) only [dQ,dZ,dT,dR])
   exact Ok.ret ⟨⟨rfl,by omega,by omega,by rw[fq];simp;omega,gU hs (all_cons ⟨a1,b1⟩ ek)⟩,by omega⟩
  ·exact Ok.ret ⟨rfl,Xv,by dsimp only;omega,hs⟩
 ·rintro⟨a,b,l',k3,s,_⟩ ⟨rfl,Xv,hs,hw⟩;exact Ok.ret ⟨_,_,rfl,hs,hw,Xv⟩
structure lR (code:List DIn)(s:List Int)(d:List (List Int)):Prop where
 sz:yM s
 len:d.length=s.length
 fit:∀(j:Nat) x n,d[j]?=some x->s[j]?=some n->(x.length:Int)<=n
 num:∀x∈d,∀w∈x,W16 w
 clen:1<=code.length/\code.length<=64
 ins:∀i∈code,iq s.length code.length i
theorem Gu{code:List DIn}{s:List Int}{d:List (List Int)}{l:List Int}{k:Int}(hp:lR code s d):
 Ok (dY gE NN ((code.length:Int),0,l,k,(),(),(),code,s,d,())) λr=>∃a b c,r=(a,b,c,l,k,(),(),(),code,s,d,()):=by
 have:=Ok.loop (f:=gE) (n:=NN) (Q:=λr=>∃a b c,r=(a,b,c,l,k,(),(),(),code,s,d,())) (s:=((code.length:Int),0,l,k,(),(),(),code,s,d,()))
  (P:=λs'=>∃i:Int,s'=((code.length:Int),i,l,k,(),(),(),code,s,d,())/\0<=i/\i<=code.length) (R:=λr=>∃a b c,r=(a,b,c,l,k,(),(),(),code,s,d,())) (m:=λs=>(s.1-s.2.1).toNat) ⟨0,rfl,by omega,by omega⟩ (by unfold NN;dsimp only;have:=hp.clen;omega) ?_ (λt ht=>Ok.ret ht)
 ·simp_all
 ·rintro _ ⟨i,rfl,hi0,Xf⟩;unfold gE;dsimp only;have hc:=hp.clen
  (with_reducible refine dF (λhcc=>?_) λhcc=>?_)
  ·refine Ok.bind (P:=λr=>r=((code.length:Int),i,l,k,(),(),(),code,s,d,())) ?_ ?_
   ·(with_reducible refine Ok.nat (by omega) (λj hj=>?_);try dsimp only)
    refine Ok.get (by omega) λx hx=>?_;have hin:=hp.ins x (dP hx);rw[xO];refine Ok.cond (λhjp=>?_) λ_=>Ok.ret rfl;refine Ok.nat (by omega) λj2 hj2=>?_;refine Ok.get (by omega) λy hy=>?_
    have hjj:j2=j:=by omega
    subst hjj;rw[hx]at hy
    injection hy with hy
    subst hy;have:=hin.jmp hjp;refine Ok.cond (λhcc=>?_) (λhcc=>?_)
    ·have h9:(x.2.2.2.2:Int)>=(code.length:Int):=of_decide_eq_true hcc;omega
    ·exact Ok.ret rfl
   ·rintro _ rfl;dsimp only
    (simp (disch:=omega) only [dQ,dZ,dT,dR])
    exact Ok.ret ⟨⟨i+1,rfl,by omega,by omega⟩,by dsimp only;omega⟩
  ·exact Ok.ret ⟨_,_,_,rfl⟩
theorem Hq{l:List Int}{k:Int}(h:DOk l k):Ok (kZ l k) λr=>∃code s d k',r=(code,s,d,l,k',())/\lR code s d/\DOk l k':=by
 unfold kZ;refine(K4 h).bind ?_;rintro _ ⟨s,k1,rfl,hs,hd⟩;obtain⟨hs1,Wd,hsz⟩:=id hs;dsimp only;delta dO
 try dsimp only
 refine Ok.loop (P:=λs'=>∃k' d,s'=((s.length:Int),(d.length:Int),l,k',(),(),(),(),s,d,())/\DOk l k'/\d.length<=s.length/\(∀(j:Nat) x n,d[j]?=some x->s[j]?=some n->(x.length:Int)<=n)/\∀x∈d,∀w∈x,W16 w)
  (R:=λr=>∃a b c k' d,r=(a,b,c,l,k',(),(),(),(),s,d,())/\DOk l k'/\d.length=s.length/\(∀(j:Nat) x n,d[j]?=some x->s[j]?=some n->(x.length:Int)<=n)/\∀x∈d,∀w∈x,W16 w)
  (m:=λs=>(s.1-s.2.1).toNat) ⟨k1,[],rfl,hd,by simp,by simp,ek⟩ (by unfold NN;dsimp only;omega) ?_ ?_
 ·rintro _ ⟨k',d,rfl,Yv,To,Z0,WT⟩;unfold nY;dsimp only
  (with_reducible refine dF (λhcc=>?_) λhcc=>?_)
  ·(with_reducible refine Ok.nat (by omega) (λj hj=>?_);try dsimp only)
   refine Ok.get (by omega) λx hx=>?_;refine Ok.get (by omega) λy hy=>?_
   have ZQ:j=d.length:=by omega
   subst ZQ;have Wh:=hsz y (dP hy);refine(oE Yv ⟨by omega,by omega⟩).bind ?_;rintro _ ⟨ws,k2,rfl,Tx,hww,hd2⟩;dsimp only;refine dH (dU (by simp;omega)) ?_
   (simp (disch:=omega) only [dQ,dZ,dT,dR])
   refine Ok.ret ⟨⟨k2,List.append d [ws],by rw[fq];simp,hd2,by rw[fq];simp;omega,?_,gU WT (all_cons hww ek)⟩,by dsimp only;omega⟩;intro i x n hx hn;rw[show List.append d [ws]=d++[ws]from rfl,List.getElem?_append]at hx;split at hx
   ·exact Z0 i x n hx hn
   ·rename_i Vi
    have:i-d.length=0:=by
     rcases Nat.eq_zero_or_pos (i-d.length)with h|h
     ·exact h
     ·rw[oGN (by simp;omega)]at hx;cases hx
    have hi:i=d.length:=by omega
    subst hi;simp at hx;subst hx;rw[hy]at hn
    injection hn with hn
    omega
  ·exact Ok.ret ⟨_,_,_,_,_,rfl,Yv,by omega,Z0,WT⟩
 rintro _ ⟨a,b,c,k2,d,rfl,hd2,To,Z0,WT⟩;dsimp only
 (with_reducible refine gj (by assumption) (by omega) (by omega) (λv0 k0 a0 b0 d0=>?_);try dsimp only)
 (simp (disch:=omega) only [dQ,dZ,dT,dR])
 refine Ok.loop (P:=λs'=>∃i k' code,s'=(i,l,k',(),(),(),code,s,d,())/\0<=i/\i<=12/\DOk l k'/\code.length<=62/\∀i∈code,iq s.length code.length i)
  (R:=λr=>∃a b k' code,r=(a,b,l,k',(),(),(),code,s,d,())/\DOk l k'/\code.length<=62/\∀i∈code,iq s.length code.length i)
  (m:=λs=>s.1.toNat) ⟨_,_,[],rfl,by omega,by omega,d0,by simp,ek⟩ (by unfold NN;dsimp only;omega) ?_ ?_
 ·rintro _ ⟨i,k',code,rfl,hi0,Xf,Yv,Ze,X4⟩;unfold nX;dsimp only
  (with_reducible refine dF (λhcc=>?_) λhcc=>?_)
  ·refine Ok.bind (P:=λr=>∃k' code,r=(i,l,k',(),(),(),code,s,d,())/\DOk l k'/\code.length<=62/\∀i∈code,iq s.length code.length i) ?_ ?_
   ·(simp (disch:=omega) only [dQ,dZ,dT,dR])
    refine(N3 Yv hs ⟨by omega,by omega⟩).bind ?_;rintro _ ⟨xs,k3,rfl,ZZ,hx6,UG,Xv⟩;dsimp only
    (simp (disch:=omega) only [dQ,dZ,dT,dR])
    (with_reducible refine dF (λhcc=>?_) λhcc=>?_)
    ·refine dH (dU (by omega)) ?_;refine Ok.ret ⟨_,_,rfl,Xv,by rw[fq];omega,?_⟩;rw[fq];exact gU (λi hi=>(X4 i hi).mono (by omega)) (λi hi=>(UG i hi).mono (by omega))
    ·exact Ok.ret ⟨_,_,rfl,Xv,Ze,X4⟩
   ·rintro _ ⟨k3,YJ,rfl,Xv,R6,WC⟩;dsimp only
    (simp (disch:=omega) only [dQ,dZ,dT,dR])
    exact Ok.ret ⟨⟨_,_,_,rfl,by omega,by omega,Xv,R6,WC⟩,by dsimp only;omega⟩
  ·exact Ok.ret ⟨_,_,_,_,rfl,Yv,Ze,X4⟩
 rintro _ ⟨a,b,k3,code,rfl,Xv,Ze,X4⟩;dsimp only;refine Ok.bind (P:=λr=>∃k' code,r=(l,k',(),(),(),code,s,d,())/\DOk l k'/\code.length<=63/\∀i∈code,iq s.length (code.length+1) i) ?_ ?_
 ·(with_reducible refine gj (by assumption) (by omega) (by omega) (λv1 k1 a1 b1 d1=>?_);try dsimp only)
  (with_reducible refine dF (λhcc=>?_) λhcc=>?_)
  ·(simp (disch:=omega) only [dQ,dZ,dT,dR])
   (with_reducible refine gj (by assumption) (by omega) (by omega) (λv2 k2 a2 b2 d2=>?_);try dsimp only)
   refine dH (dU (by simp;omega)) ?_;refine Ok.ret ⟨_,_,rfl,d2,by rw[fq];simp;omega,?_⟩;rw[fq];exact gU (λi hi=>(X4 i hi).mono (by simp;omega)) (all_cons (Ob (by omega) (by simp;omega)) ek)
  ·(with_reducible refine dF (λhcc=>?_) λhcc=>?_)
   ·refine dH (dU (by simp;omega)) ?_;refine Ok.ret ⟨_,_,rfl,d1,by rw[fq];simp;omega,?_⟩;rw[fq];exact gU (λi hi=>(X4 i hi).mono (by simp;omega)) (all_cons NR ek)
   ·exact Ok.ret ⟨_,_,rfl,d1,by omega,λi hi=>(X4 i hi).mono (by omega)⟩
 rintro _ ⟨k4,YJ,rfl,hd4,R6,WC⟩;dsimp only
 (with_reducible refine gj (by assumption) (by omega) (by omega) (λv3 k3 a3 b3 d3=>?_);try dsimp only)
 simp only[Pq,MH,oBS];refine dH (dU (by simp;omega)) ?_;simp only[fq];refine Ok.cond (λhc=>?_) λ_=>?_
 ·have ZI:∀i∈List.append YJ [(1,0,0,0,v3),(23,0,0,0,0)],iq s.length (YJ.length+1) i:=gU WC (all_cons (CN (by omega) (by omega)) (all_cons (xf (by omega)) ek));simp only[oDE]at hc
  have hcn:(YJ.length:Int)+2>64:=by
   have:((YJ.length + [((1:Int),(0:Int),(0:Int),(0:Int),v3),(23,0,0,0,0)].length:Nat):Int)>64:=hc;simpa using this
  have h63:YJ.length=63:=by omega
  refine dH (by rw[h63];rfl) ?_
  have hlen:(lT (List.append YJ [((1:Int),(0:Int),(0:Int),(0:Int),v3),(23,0,0,0,0)]) 0 (Nat.sub 64 0)).length=64:=by
   unfold lT;rw[oLT,List.drop_zero,fq,h63];rfl
  have hp:lR (lT (List.append YJ [((1:Int),(0:Int),(0:Int),(0:Int),v3),(23,0,0,0,0)]) 0 (Nat.sub 64 0)) s d:=by
   refine⟨hs,To,Z0,WT,by rw[hlen];decide,λi hi=>?_⟩;rw[hlen];refine(ZI i ?_).mono (by omega);unfold lT at hi;exact List.mem_of_mem_drop (List.mem_of_mem_take hi)
  refine(Gu (l:=l) (k:=_) hp).bind ?_;rintro _ ⟨a,b,c,rfl⟩;exact Ok.ret ⟨_,_,_,_,rfl,hp,d3⟩
 ·have hp:lR (List.append YJ [(1,0,0,0,v3),(23,0,0,0,0)]) s d:=by
   refine⟨hs,To,Z0,WT,?_,?_⟩
   ·rw[fq];rename_i hc;have hcn:¬((YJ.length + [((1:Int),(0:Int),(0:Int),(0:Int),v3),(23,0,0,0,0)].length:Nat):Int)>64:=of_decide_eq_false hc;simp only[oLC,List.length_nil]at hcn⊢;omega
   ·rw[fq];exact gU (λi hi=>(WC i hi).mono (by simp)) (all_cons (CN (by omega) (by omega)) (all_cons (xf (by omega)) ek))
  have hf:=Gu (l:=l) (k:=k3) hp;rw[fq]at hf;refine hf.bind ?_;rintro _ ⟨a,b,c,rfl⟩;exact Ok.ret ⟨_,_,_,_,rfl,hp,d3⟩
theorem GK{P:Int->Prop}{s:List Int}{i:Nat}{x:Int}(h:∀(j:Nat) y,j<i->s[j]?=some y->P y)(hx:s[i]?=some x)(hp:P x):∀(j:Nat) y,j<i+1->s[j]?=some y->P y:=by
 grind
theorem Iv{s:List Int}(hl:s.length<=1000):Ok (gS s) λr=>r.1=true↔yM s:=by
 unfold gS;delta dO
 try dsimp only
 obtain⟨t,e,ht⟩:=gy (f:=lJ) (n:=NN) (s:=(s,s,(s.length:Int),0,())) (P:=λs'=>∃i:Nat,s'=(s,s,(s.length:Int),(i:Int),())/\i<=s.length/\∀(j:Nat) y,j<i->s[j]?=some y->1<=y/\y<=32)
  (R:=λr=>(r=.inl (false,())/\∃y∈s,¬(1<=y/\y<=32))\/((∃a b c d,r=.inr (s,a,b,c,d,()))/\∀y∈s,1<=y/\y<=32)) (m:=λs'=>(s'.2.2.1-s'.2.2.2.1).toNat) ⟨0,rfl,by omega,λj y hj=>by omega⟩ (by unfold NN;dsimp only;omega) (by
   rintro _ ⟨i,rfl,hi,ZI⟩;unfold lJ
   (with_reducible refine dF (λhcc=>?_) λhcc=>?_)
   ·rw[dL];refine Ok.get (by omega) λx hx=>?_
    (with_reducible refine dF (λWM=>?_) λWM=>?_)
    ·exact Ok.ret (.inl ⟨rfl,x,dP hx,by omega⟩)
    ·(with_reducible refine dF (λYm=>?_) λYm=>?_)
     ·exact Ok.ret (.inl ⟨rfl,x,dP hx,by omega⟩)
     ·(simp (disch:=omega) only [dQ,dZ,dT,dR])
      exact Ok.ret ⟨⟨i+1,rfl,by omega,GK ZI hx ⟨by omega,by omega⟩⟩,by dsimp only;omega⟩
   ·refine Ok.ret (.inr ⟨⟨_,_,_,_,rfl⟩,λy hy=>?_⟩);have ⟨j,hj⟩:=List.getElem?_of_mem hy
    exact ZI j y (by have:=(oGS hj).1;omega) hj)
 rw[e]
 rcases ht with⟨rfl,y,hy,hn⟩|⟨⟨a,b,c,d,rfl⟩,ZI⟩
 ·exact Ok.ret ⟨λh=>(by cases h),λh=>absurd (h.2.2 y hy) hn⟩
 ·dsimp only
  (with_reducible refine dF (λhcc=>?_) λhcc=>?_)
  ·exact Ok.ret ⟨λh=>⟨by omega,(by have:=of_decide_eq_true h;omega),ZI⟩,λh=>oDT (by have:=h.2.1;omega)⟩
  ·exact Ok.ret ⟨λh=>(by cases h),λh=>by have:=h.1;omega⟩
abbrev VS(xs:List Int):Prop:=yM xs
theorem Kg{l:List Int}{k:Nat}(h:k<l.length):l.getD k 0=l[k]:=by simp[List.getD,h]
def yI(bs ss:List Int)(i:Nat):Prop:=
 0<=bs.getD i 0/\bs.getD i 0+ss.getD i 0<=512/\∀k,k<i->¬(bs.getD i 0<=bs.getD k 0+ss.getD k 0/\bs.getD k 0<=bs.getD i 0+ss.getD i 0)
def LV(bs ss:List Int):Prop:=VS ss/\bs.length=ss.length/\∀i,i<bs.length->yI bs ss i
theorem VS.at_{ss:List Int}(h:VS ss){i:Nat}(hi:i<ss.length):1<=ss[i]/\ss[i]<=32:=h.2.2 _ (List.getElem_mem hi)
def rQ(ss:List Int)(seed:Int):Nat->List Int×Int
 |0=>(List.replicate ss.length 0,1+seed/ss.length%50)
 |k+1=>((rQ ss seed k).1.set (((k+seed)%ss.length).toNat) (rQ ss seed k).2,(rQ ss seed k).2+(ss.getD ((k+seed)%ss.length).toNat 0+1+seed/(50*ss.length)%40))
def mkB(ss:List Int)(seed:Int):List Int:=(rQ ss seed ss.length).1
theorem LP(ss:List Int)(seed:Int)(k:Nat):(rQ ss seed k).1.length=ss.length:=by
 induction k with
 |zero=>simp[rQ]
 |succ k ih=>simp[rQ,ih]
theorem VS.getD{ss:List Int}(h:VS ss){i:Nat}(hi:i<ss.length):1<=ss.getD i 0/\ss.getD i 0<=32:=by rw[Kg hi];exact h.at_ hi
theorem MM{n k:Nat}{seed:Int}(hn:1<=n):0<=((k:Int)+seed)%n/\((k:Int)+seed)%n<n:=
 ⟨Int.emod_nonneg _ (by omega),Int.emod_lt_of_pos _ (by omega)⟩
theorem N6{ss:List Int}{seed:Int}(h:VS ss)(hs:0<=seed)(k:Nat):1<=(rQ ss seed k).2/\(rQ ss seed k).2<=50+72*k:=by
 induction k with
 |zero=>simp[rQ];omega
 |succ k ih=>
  simp only[rQ];have hr:=MM (k:=k) (seed:=seed) h.1;have:=h.getD (i:=(((k:Int)+seed)%ss.length).toNat) (by omega);omega
theorem JV{ss:List Int}(h0:1<=ss.length)(h1:ss.length<=4):(∃a,ss=[a])\/(∃a b,ss=[a,b])\/(∃a b c,ss=[a,b,c])\/(∃a b c d,ss=[a,b,c,d]):=by
 match ss,h0,h1 with
 | [a],_,_=>simp_all
 | [a,b],_,_=>simp_all
 | [a,b,c],_,_=>simp_all
 | [a,b,c,d],_,_=>simp_all
theorem wM{P:Nat->Prop}(h0:P 0):∀i,i<1->P i:=by
 simp_all
theorem AF{P:Nat->Prop}(h0:P 0)(h1:P 1):∀i,i<2->P i:=by
 grind
theorem F5{P:Nat->Prop}(h0:P 0)(h1:P 1)(h2:P 2):∀i,i<3->P i:=by
 grind
theorem Lw{P:Nat->Prop}(h0:P 0)(h1:P 1)(h2:P 2)(h3:P 3):∀i,i<4->P i:=by
 grind
def KU(b s:Int):Prop:=0<=b/\b+s<=512
def gc(b s b' s':Int):Prop:=¬(b<=b'+s'/\b'<=b+s)
theorem LV1{a x:Int}(hv:VS [a])(h:KU x a):LV [x] [a]:=
 ⟨hv,rfl,wM ⟨h.1,h.2,λk hk=>by omega⟩⟩
theorem LV2{a b x y:Int}(hv:VS [a,b])(h:KU x a)(h':KU y b)(h1:gc y b x a):LV [x,y] [a,b]:=
 ⟨hv,rfl,AF ⟨h.1,h.2,λk hk=>by omega⟩ ⟨h'.1,h'.2,wM h1⟩⟩
theorem LV3{a b c x y z:Int}(hv:VS [a,b,c])(h:KU x a)(h':KU y b)(RO:KU z c)(h1:gc y b x a)(h2:gc z c x a)(h3:gc z c y b):LV [x,y,z] [a,b,c]:=
 ⟨hv,rfl,F5 ⟨h.1,h.2,λk hk=>by omega⟩ ⟨h'.1,h'.2,wM h1⟩ ⟨RO.1,RO.2,AF h2 h3⟩⟩
theorem LV4{a b c d x y z u:Int}(hv:VS [a,b,c,d])(h:KU x a)(h':KU y b)(RO:KU z c)(RP:KU u d)(h1:gc y b x a)(h2:gc z c x a)(h3:gc z c y b)(h4:gc u d x a)(h5:gc u d y b)(h6:gc u d z c):LV [x,y,z,u] [a,b,c,d]:=
 ⟨hv,rfl,Lw ⟨h.1,h.2,λk hk=>by omega⟩ ⟨h'.1,h'.2,wM h1⟩ ⟨RO.1,RO.2,AF h2 h3⟩ ⟨RP.1,RP.2,F5 h4 h5 h6⟩⟩
theorem PU{ss:List Int}(hv:VS ss){seed:Int}(hs:0<=seed):LV (mkB ss seed) ss:=by
 have Yz:=hv
 rcases JV hv.1 hv.2.1 with⟨a,rfl⟩|⟨a,b,rfl⟩|⟨a,b,c,rfl⟩|⟨a,b,c,d,rfl⟩
 ·obtain⟨_,_,hx⟩:=hv;have ha:=hx a (by simp)
  have e0:(((0:Nat):Int)+seed)%1=0:=by omega
  have hB:mkB [a] seed=[1+seed/1%50]:=by simp[mkB,rQ,List.replicate]
  rw[hB];exact LV1 Yz ⟨by omega,by omega⟩
 ·obtain⟨_,_,hx⟩:=hv;have ha:=hx a (by simp);have hb:=hx b (by simp)
  rcases(show seed%2=0\/seed%2=1 by omega)with ht|ht
  ·have e1:(1+seed)%2=1:=by omega
   simp only[mkB,rQ,oLC,List.length_nil,List.replicate];simp[ht,e1];exact LV2 Yz ⟨by omega,by omega⟩ ⟨by omega,by omega⟩ (by unfold gc;omega)
  ·have e1:(1+seed)%2=0:=by omega
   simp only[mkB,rQ,oLC,List.length_nil,List.replicate];simp[ht,e1];exact LV2 Yz ⟨by omega,by omega⟩ ⟨by omega,by omega⟩ (by unfold gc;omega)
 ·obtain⟨_,_,hx⟩:=hv;have ha:=hx a (by simp);have hb:=hx b (by simp);have hc:=hx c (by simp)
  rcases(show seed%3=0\/seed%3=1\/seed%3=2 by omega)with ht|ht|ht
  ·have e1:(1+seed)%3=1:=by omega
   have e2:(2+seed)%3=2:=by omega
   simp only[mkB,rQ,oLC,List.length_nil,List.replicate];simp[ht,e1,e2];exact LV3 Yz ⟨by omega,by omega⟩ ⟨by omega,by omega⟩ ⟨by omega,by omega⟩ (by unfold gc;omega) (by unfold gc;omega) (by unfold gc;omega)
  ·have e1:(1+seed)%3=2:=by omega
   have e2:(2+seed)%3=0:=by omega
   simp only[mkB,rQ,oLC,List.length_nil,List.replicate];simp[ht,e1,e2];exact LV3 Yz ⟨by omega,by omega⟩ ⟨by omega,by omega⟩ ⟨by omega,by omega⟩ (by unfold gc;omega) (by unfold gc;omega) (by unfold gc;omega)
  ·have e1:(1+seed)%3=0:=by omega
   have e2:(2+seed)%3=1:=by omega
   simp only[mkB,rQ,oLC,List.length_nil,List.replicate];simp[ht,e1,e2];exact LV3 Yz ⟨by omega,by omega⟩ ⟨by omega,by omega⟩ ⟨by omega,by omega⟩ (by unfold gc;omega) (by unfold gc;omega) (by unfold gc;omega)
 ·obtain⟨_,_,hx⟩:=hv;have ha:=hx a (by simp);have hb:=hx b (by simp);have hc:=hx c (by simp);have hd:=hx d (by simp)
  have hq:∀q g:Int,q=1+seed/4%50->g=seed/(50*4)%40->1<=q/\q<=50/\0<=g/\g<40:=λq g e e'=>by subst e;subst e';omega
  rcases(show seed%4=0\/seed%4=1\/seed%4=2\/seed%4=3 by omega)with ht|ht|ht|ht
  ·have e1:(1+seed)%4=1:=by omega
   have e2:(2+seed)%4=2:=by omega
   have e3:(3+seed)%4=3:=by omega
   simp only[mkB,rQ,oLC,List.length_nil,List.replicate];simp[ht,e1,e2,e3];exact LV4 Yz ⟨by omega,by omega⟩ ⟨by omega,by omega⟩ ⟨by omega,by omega⟩ ⟨by omega,by omega⟩ (by unfold gc;omega) (by unfold gc;omega) (by unfold gc;omega) (by unfold gc;omega) (by unfold gc;omega) (by unfold gc;omega)
  ·have e1:(1+seed)%4=2:=by omega
   have e2:(2+seed)%4=3:=by omega
   have e3:(3+seed)%4=0:=by omega
   simp only[mkB,rQ,oLC,List.length_nil,List.replicate];simp[ht,e1,e2,e3];exact LV4 Yz ⟨by omega,by omega⟩ ⟨by omega,by omega⟩ ⟨by omega,by omega⟩ ⟨by omega,by omega⟩ (by unfold gc;omega) (by unfold gc;omega) (by unfold gc;omega) (by unfold gc;omega) (by unfold gc;omega) (by unfold gc;omega)
  ·have e1:(1+seed)%4=3:=by omega
   have e2:(2+seed)%4=0:=by omega
   have e3:(3+seed)%4=1:=by omega
   simp only[mkB,rQ,oLC,List.length_nil,List.replicate];simp[ht,e1,e2,e3];exact LV4 Yz ⟨by omega,by omega⟩ ⟨by omega,by omega⟩ ⟨by omega,by omega⟩ ⟨by omega,by omega⟩ (by unfold gc;omega) (by unfold gc;omega) (by unfold gc;omega) (by unfold gc;omega) (by unfold gc;omega) (by unfold gc;omega)
  ·have e1:(1+seed)%4=0:=by omega
   have e2:(2+seed)%4=1:=by omega
   have e3:(3+seed)%4=2:=by omega
   simp only[mkB,rQ,oLC,List.length_nil,List.replicate];simp[ht,e1,e2,e3];exact LV4 Yz ⟨by omega,by omega⟩ ⟨by omega,by omega⟩ ⟨by omega,by omega⟩ ⟨by omega,by omega⟩ (by unfold gc;omega) (by unfold gc;omega) (by unfold gc;omega) (by unfold gc;omega) (by unfold gc;omega) (by unfold gc;omega)
theorem HC{α:Type}(l:List α)(i:Nat)(a:α):List.modify l i (λ_=>a)=l.set i a:=by
 apply List.ext_getElem?
 grind
theorem N8{s:List Int}{seed:Int}(hs:yM s)(h0:0<=seed)(h1:seed<=1073741824):Ok (nz s seed) λr=>∃key,r=(mkB s seed,key,0,())/\W16 key:=by
 obtain⟨hs1,Wd,hsz⟩:=id hs;unfold nz;delta dO
 try dsimp only
 refine Ok.bind (P:=λr=>r=(s,seed,false,(),0,())) ?_ ?_
 ·refine(Iv (by omega)).bind ?_;rintro⟨v,_⟩ hv;have hv:v=true:=hv.2 hs;subst hv;simp only[oNT,oCF]
  (with_reducible refine dF (λZX=>?_) λZX=>?_)
  ·omega
  ·exact Ok.ret (by rw[oDF (by omega)])
 rintro _ rfl;dsimp only;refine Ok.cond (λh=>by cases h) λ_=>?_;rw[dL];simp only[oBS];refine dH (by unfold pR;rw[oBA];exact⟨oDT rfl,oDT (by omega)⟩) ?_;refine dH (by rw[bne_iff_ne];omega) ?_;have Yw:Int.tdiv seed s.length=seed/s.length:=Int.tdiv_eq_ediv_of_nonneg h0;have hq:0<=seed/(s.length:Int)/\seed/(s.length:Int)<=seed:=⟨Int.ediv_nonneg h0 (by omega),Int.ediv_le_self _ h0⟩;have Ts:Int.tmod (seed/(s.length:Int)) 50=seed/(s.length:Int)%50:=Int.tmod_eq_emod_of_nonneg hq.1;rw[Yw,dQ (x:=seed/(s.length:Int)) (by omega) (by omega),Ts,dQ (x:=1+seed/(s.length:Int)%50) (by omega) (by omega)]
 have VD:W16 (wk .u16 (w64 (40503*seed))):=by
  unfold wk;rw[Av];exact⟨by omega,by omega⟩
 generalize wk .u16 (w64 (40503*seed))=key at VD
 refine Ok.loop (P:=λs'=>∃k:Nat,s'=(s,seed,(s.length:Int),(rQ s seed k).2,(s.length:Int),(k:Int),(),0,(rQ s seed k).1,key,())/\k<=s.length) (R:=λr=>∃a b c d e f g h,r=(a,b,c,d,e,f,g,(),h,(rQ s seed s.length).1,key,()))
  (m:=λs'=>(s'.2.2.2.2.1-s'.2.2.2.2.2.1).toNat) ⟨0,rfl,by omega⟩ (by unfold NN;dsimp only;omega) ?_ ?_
 ·rintro _ ⟨k,rfl,hk⟩;unfold p9;dsimp only;have hb:=N6 hs h0 k
  (with_reducible refine dF (λhcc=>?_) λhcc=>?_)
  ·have hr:=MM (k:=k) (seed:=seed) hs1;rw[dQ (x:=(k:Int)+seed) (by omega) (by omega)];refine dH (by rw[bne_iff_ne];omega) ?_;rw[Int.tmod_eq_emod_of_nonneg (show 0<=(k:Int)+seed by omega)];refine Ok.nat hr.1 λr Wq=>?_;have hl:=LP s seed k;refine Ok.get (by omega) λx hx=>?_;refine Ok.get (by omega) λy hy=>?_;refine Ok.nat hr.1 λr2 hrr2=>?_
   have:r2=r:=by omega
   subst this;refine Ok.get (by omega) λz hz=>?_;have hz2:=hsz z (dP hz);rw[dQ (x:=z+1) (by omega) (by omega),dQ (x:=50*(s.length:Int)) (by omega) (by omega)];refine dH (by rw[bne_iff_ne];omega) ?_;have hd2:Int.tdiv seed (50*(s.length:Int))=seed/(50*s.length):=Int.tdiv_eq_ediv_of_nonneg h0;have Y5:0<=seed/(50*(s.length:Int))/\seed/(50*(s.length:Int))<=seed:=⟨Int.ediv_nonneg h0 (by omega),Int.ediv_le_self _ h0⟩;have UZ:Int.tmod (seed/(50*(s.length:Int))) 40=seed/(50*s.length)%40:=Int.tmod_eq_emod_of_nonneg Y5.1;rw[hd2,dQ (x:=seed/(50*(s.length:Int))) (by omega) (by omega),UZ];generalize hg:seed/(50*(s.length:Int))%40=g
   have Zs:0<=g/\g<40:=by omega
   rw[dQ (x:=z+1+g) (by omega) (by omega),dQ (x:=(rQ s seed k).2+(z+1+g)) (by omega) (by omega),dQ (x:=(k:Int)+1) (by omega) (by omega),HC]
   have e1:(rQ s seed (k+1)).1=(rQ s seed k).1.set r2 (rQ s seed k).2:=by
    simp only[rQ];rw[Wq];rfl
   have e2:(rQ s seed (k+1)).2=(rQ s seed k).2+(z+1+g):=by
    simp only[rQ];rw[Wq,hg,oTN,oGD,hz];rfl
   refine Ok.ret ⟨⟨k+1,?_,by omega⟩,by dsimp only;omega⟩;rw[e1,e2];rfl
  ·have:k=s.length:=by omega
   subst this;exact Ok.ret ⟨_,_,_,_,_,_,_,_,rfl⟩
 ·rintro _ ⟨a,b,c,d,e,f,g,h,rfl⟩;exact Ok.ret ⟨key,rfl,VD⟩
theorem sJ{S T:Type}{f:S->Option (S⊕T)}(st:Nat->S){n N:Nat}{t:T}(hn:n<N)(h:∀i,i<n->Ok (f (st i)) (·=.inl (st (i+1))))(he:Ok (f (st n)) (·=.inr t)):dY f N (st 0)=some t:=by
 have key:∀k i,i+k=n->∀N,k<N->dY f N (st i)=some t:=by
  intro k
  induction k with
  |zero=>
   intro i hi N hN;obtain⟨x,e,hx⟩:=he
   have:i=n:=by omega
   subst this;obtain⟨N',rfl⟩:∃N',N=N'+1:=⟨N-1,by omega⟩;simp[dY,e,hx]
  |succ k ih=>
   intro i hi N hN;have ⟨x,e,hx⟩:=h i (by omega);obtain⟨N',rfl⟩:∃N',N=N'+1:=⟨N-1,by omega⟩;simp[dY,e,hx];exact ih (i+1) (by omega) N' (by omega)
 simp_all
theorem eZ{α:Type}{o:Option α}{a:α}(h:Ok o (·=a)):o=some a:=by
 obtain⟨x,e,rfl⟩:=h;exact e
theorem ff{l:List Int}{k:Nat}{x:Int}(h:l[k]?=some x):l.getD k 0=x:=by simp_all
theorem zJ{s:List Int}(h:yM s):gS s=some (true,()):=by
 have ⟨⟨v,u⟩,e,hv⟩:=Iv (s:=s) (by have:=h.2.1;omega)
 simp_all
theorem ut{bs ss:List Int}{key:Int}(h:LV bs ss):iS bs key ss=some (true,()):=by
 obtain⟨hs,hl,hr⟩:=h;have h4:=hs.2.1;unfold iS;rw[zJ hs];delta dO;simp only[oBS,oNT,oCF,hl,bne_self_eq_false]
 have e:dY jl NN (ss,bs,(ss.length:Int),0,bs,key,())=some (.inr (ss,bs,(ss.length:Int),(ss.length:Int),false,bs,key,())):=by
  refine sJ (st:=λi=>(ss,bs,(ss.length:Int),(i:Int),bs,key,())) (n:=ss.length) (by unfold NN;omega) ?_ ?_
  ·intro i hi;unfold jl;dsimp only;have RC:=hr i (by omega);unfold yI at RC
   (with_reducible refine dF (λZ9=>?_) λZ9=>?_)
   ·rw[dL];simp only[oBS];refine Ok.get (by omega) λb hb=>?_;rw[ff hb]at RC
    (with_reducible refine dF (λZX=>?_) λZX=>?_)
    ·omega
    ·refine Ok.get (by omega) λz hz=>?_;rw[ff hz]at RC;have hz2:=hs.2.2 z (dP hz)
     (simp (disch:=omega) only [dQ,dZ,dT,dR])
     (with_reducible refine dF (λhcc=>?_) λhcc=>?_)
     ·omega
     ·refine dH (by unfold gY;simp;omega) ?_
      have Tx:(lT bs 0 (Nat.sub i 0)).length=i:=by unfold lT;rw[oLT,List.drop_zero];show min i _=i;omega
      rw[Tx]
      have e:dY jm NN (ss,(i:Int),b,bs,(ss.length:Int),(i:Int),lT bs 0 (Nat.sub i 0),(i:Int),0,bs,key,())=some (.inr (ss,(i:Int),b,bs,(ss.length:Int),(i:Int),lT bs 0 (Nat.sub i 0),(i:Int),(i:Int),false,bs,key,())):=by
       refine sJ (st:=λj=>(ss,(i:Int),b,bs,(ss.length:Int),(i:Int),lT bs 0 (Nat.sub i 0),(i:Int),(j:Int),bs,key,())) (n:=i) (by unfold NN;omega) ?_ ?_
       ·intro j hj;unfold jm;dsimp only
        (with_reducible refine dF (λZ9=>?_) λZ9=>?_)
        ·rw[dL,dL];simp only[oBS]
         have hx:(dJ (lT bs 0 (Nat.sub i 0)) j)=bs[j]?:=by
          unfold dJ lT;rw[List.getElem?_take,List.drop_zero];exact oIP hj
         rw[hx];obtain⟨c,hc⟩:∃c,bs[j]?=some c:=⟨_,oGE (by omega)⟩;obtain⟨y,hy⟩:∃y,ss[j]?=some y:=⟨_,oGE (by omega)⟩;have Wh:=hs.2.2 y (dP hy);have V4:dJ ss i=some z:=hz;have V3:dJ ss j=some y:=hy;rw[hc,V4,V3];simp only[oBS];have RD:=(hr j (by omega)).1;have SL:=(hr j (by omega)).2.1;rw[ff hc]at RD SL;rw[ff hy]at SL;have XT:=RC.2.2 j hj;rw[ff hc,ff hy]at XT;rw[dQ (x:=b+z) (by omega) (by omega),dQ (x:=c+y) (by omega) (by omega)];by_cases h1:b+z>=c
         ·have h2:¬c+y>=b:=by omega
          simp only[h1,h2,decide_true,decide_false,oCT,oCF]
          (simp (disch:=omega) only [dQ,dZ,dT,dR])
          exact Ok.ret rfl
         ·simp only[h1,decide_false,oCF]
          (simp (disch:=omega) only [dQ,dZ,dT,dR])
          exact Ok.ret rfl
        ·omega
       ·unfold jm;dsimp only
        (with_reducible refine dF (λZ9=>?_) λZ9=>?_)
        ·omega
        ·exact Ok.ret rfl
      rw[e]
      (simp (disch:=omega) only [dQ,dZ,dT,dR])
      exact Ok.ret rfl
   ·omega
  ·unfold jl;dsimp only
   (with_reducible refine dF (λZ9=>?_) λZ9=>?_)
   ·omega
   ·exact Ok.ret rfl
 rw[e]
theorem J7{n m o a b c i:Int}(h:iq n m (o,a,b,c,i))(hn:n<=4)(hm:m<=64):mc o a b c i=some (true,()):=by
 obtain⟨⟨o0,o1⟩,⟨a0,a1,a2⟩,⟨b0,b1,b2⟩,⟨c0,c1,c2⟩,⟨i0,i1,i2⟩,hl,hs,hj⟩:=h;dsimp only at *
 have X9:∀(k:Nat)(x:Int)(u:Bool),k<3->[a,b,c][k]?=some x->(k=0->u=pQ o)->(k=1->u=pO o)->(k=2->u=pN o)->0<=x->x<8->(u=false->x=0)->
  Ok (jj (3,(k:Int),o,a,b,c,i,pQ o,pO o,pN o,pM o,[a,b,c],())) (·=.inl (3,((k+1:Nat):Int),o,a,b,c,i,pQ o,pO o,pN o,pM o,[a,b,c],())):=by
  intro k x u hk hx h0 h1 h2 hx0 ZZ XN;unfold jj;dsimp only
  (with_reducible refine dF (λZ9=>?_) λZ9=>?_)
  ·rw[dL];simp only[oBS];rw[show dJ [a,b,c] k=some x from hx];simp only[oBS];rw[oDF (show ¬x<0 by omega),oDF (show ¬x>=8 by omega)];simp only[oCF];have ZV:Ok (some ((3:Int),(k:Int),false,o,a,b,c,i,pQ o,pO o,pN o,pM o,[a,b,c],())) (·=((3:Int),(k:Int),false,o,a,b,c,i,pQ o,pO o,pN o,pM o,[a,b,c],())):=Ok.ret rfl
   have TD:u=false->(x != 0)=false:=λh=>by rw[XN h];rfl
   refine Ok.bind (P:=(·=((3:Int),(k:Int),false,o,a,b,c,i,pQ o,pO o,pN o,pM o,[a,b,c],()))) ?_ ?_
   ·rcases(show k=0\/k=1\/k=2 by omega)with rfl|rfl|rfl
    ·rw[<- h0 rfl]at ZV⊢;refine dH rfl ?_;refine Ok.cond (λhu=>?_) λ_=>ZV;rw[TD (by simpa using hu)];exact ZV
    ·rw[<- h1 rfl]at ZV⊢;refine Ok.cond (λhu=>by cases hu) λ_=>dH rfl (Ok.cond (λhu=>?_) λ_=>ZV);rw[TD (by simpa using hu)];exact ZV
    ·rw[<- h2 rfl]at ZV⊢;refine Ok.cond (λhu=>by cases hu) λ_=>Ok.cond (λhu=>by cases hu) λ_=>dH rfl (Ok.cond (λhu=>?_) λ_=>ZV);rw[TD (by simpa using hu)];exact ZV
   ·rintro _ rfl;dsimp only;rw[dQ (x:=(k:Int)+1) (by omega) (by omega)];exact Ok.ret rfl
  ·omega
 have e:dY jj NN (3,0,o,a,b,c,i,pQ o,pO o,pN o,pM o,[a,b,c],())=some (.inr (3,3,false,o,a,b,c,i,pQ o,pO o,pN o,pM o,[a,b,c],())):=by
  refine sJ (st:=λk=>(3,(k:Int),o,a,b,c,i,pQ o,pO o,pN o,pM o,[a,b,c],())) (n:=3) (by unfold NN;omega) ?_ ?_
  ·intro k hk
   rcases(show k=0\/k=1\/k=2 by omega)with rfl|rfl|rfl
   ·exact X9 0 a _ (by omega) rfl (λ_=>rfl) (by omega) (by omega) a0 a1 a2
   ·exact X9 1 b _ (by omega) rfl (by omega) (λ_=>rfl) (by omega) b0 b1 b2
   ·exact X9 2 c _ (by omega) rfl (by omega) (by omega) (λ_=>rfl) c0 c1 c2
  ·exact Ok.ret rfl
 refine eZ ?_;unfold mc;rw[oDF (show ¬o<0 by omega),oDF (show ¬o>24 by omega),Iw o0 o1];simp only[oCF,oBS];rw[show dO [a,b,c].length=3 from rfl,e];dsimp only;rw[oDF (show ¬i<0 by omega),oDF (show ¬i>65535 by omega)];simp only[oCF];refine Ok.bind (P:=(·=(false,o,a,b,c,i,()))) ?_ ?_
 ·refine Ok.cond (λhu=>?_) λ_=>Ok.ret rfl;exact Ok.ret (by rw[i2 (by simpa using hu)];rfl)
 rintro _ rfl;dsimp only;rw[xO];simp only[oCF,oBS];refine Ok.cond (λhu=>?_) λ_=>?_
 ·exact Ok.ret (by rw[oDT (by have:=hj hu;omega)])
 ·(with_reducible refine dF (λhcc=>?_) λhcc=>?_)
  ·exact Ok.ret (by rw[oDT (by have:=hl hcc;omega)])
  ·(with_reducible refine dF (λWM=>?_) λWM=>?_)
   ·exact Ok.ret (by rw[oDT (by have:=hs WM;omega)])
   ·exact Ok.ret rfl
theorem GC{code:List DIn}{s:List Int}{d:List (List Int)}(h:lR code s d):j0 code s d=some (0,()):=by
 have hs:=h.sz;have Wd:=hs.2.1;have hc:=h.clen;have hl:=h.len
 have e0:dY ji NN (d,(d.length:Int),0,code,s,d,())=some (.inr (d,(d.length:Int),(d.length:Int),false,code,s,d,())):=by
  refine sJ (st:=λk=>(d,(d.length:Int),(k:Int),code,s,d,())) (n:=d.length) (by unfold NN;omega) ?_ ?_
  ·intro k hk;unfold ji;dsimp only
   (with_reducible refine dF (λZ9=>?_) λZ9=>?_)
   ·rw[dL];delta dO;simp only[oBS];refine Ok.get (by omega) λx hx=>?_;refine Ok.get (by omega) λy hy=>?_;have:=h.fit k x y hx hy
    (with_reducible refine dF (λZX=>?_) λZX=>?_)
    ·omega
    ·(simp (disch:=omega) only [dQ,dZ,dT,dR])
     exact Ok.ret rfl
   ·omega
  ·unfold ji;dsimp only
   (with_reducible refine dF (λZ9=>?_) λZ9=>?_)
   ·omega
   ·exact Ok.ret rfl
 have e1:dY jh NN (code,(code.length:Int),0,code,s,d,())=some (.inr (code,(code.length:Int),(code.length:Int),false,code,s,d,())):=by
  refine sJ (st:=λk=>(code,(code.length:Int),(k:Int),code,s,d,())) (n:=code.length) (by unfold NN;omega) ?_ ?_
  ·intro k hk;unfold jh;dsimp only
   (with_reducible refine dF (λZ9=>?_) λZ9=>?_)
   ·rw[dL];simp only[oBS];refine Ok.get (by omega) λx hx=>?_;obtain⟨o,a,b,c,i⟩:=x;rw[J7 (h.ins _ (dP hx)) (by omega) (by omega)]
    (simp (disch:=omega) only [dQ,dZ,dT,dR])
    exact Ok.ret rfl
   ·omega
  ·unfold jh;dsimp only
   (with_reducible refine dF (λZ9=>?_) λZ9=>?_)
   ·omega
   ·exact Ok.ret rfl
 have e3:dY jg NN (code,(code.length:Int),0,code,s,d,())=some (.inr (code,(code.length:Int),(code.length:Int),false,code,s,d,())):=by
  refine sJ (st:=λk=>(code,(code.length:Int),(k:Int),code,s,d,())) (n:=code.length) (by unfold NN;omega) ?_ ?_
  ·intro k hk;unfold jg;dsimp only
   (with_reducible refine dF (λZ9=>?_) λZ9=>?_)
   ·rw[dL];simp only[oBS];refine Ok.get (by omega) λx hx=>?_;have hp:=h.ins x (dP hx);rw[xO];simp only[oBS];refine Ok.bind (P:=(·=(code,(code.length:Int),(k:Int),false,code,s,d,()))) ?_ ?_
    ·refine Ok.cond (λhj=>?_) λ_=>?_
     ·have:=hp.jmp hj
      (with_reducible refine dF (λZX=>?_) λZX=>?_)
      ·have ZX:x.2.2.2.2>=(code.length:Int):=ZX;omega
      ·(with_reducible refine dF (λhcc=>?_) λhcc=>?_)
       ·exact Ok.ret (by rw[oDF (show ¬x.2.2.2.2>=dO s.length by rw[dR];have:=hp.lea hcc;omega)])
       ·exact Ok.ret rfl
     ·(with_reducible refine dF (λhcc=>?_) λhcc=>?_)
      ·exact Ok.ret (by rw[oDF (show ¬x.2.2.2.2>=dO s.length by rw[dR];have:=hp.lea hcc;omega)])
      ·exact Ok.ret rfl
    ·rintro _ rfl;dsimp only;simp only[oCF]
     (simp (disch:=omega) only [dQ,dZ,dT,dR])
     exact Ok.ret rfl
   ·omega
  ·unfold jg;dsimp only
   (with_reducible refine dF (λZ9=>?_) λZ9=>?_)
   ·omega
   ·exact Ok.ret rfl
 refine eZ ?_;unfold j0;rw[zJ hs];delta dO;simp only[oBS,oNT,oCF,hl,bne_self_eq_false];rw[hl]at e0;rw[e0];dsimp only
 (with_reducible refine dF (λZ9=>?_) λZ9=>?_)
 ·omega
 ·(with_reducible refine dF (λZX=>?_) λZX=>?_)
  ·omega
  ·rw[e1];dsimp only;rw[e3];exact Ok.ret rfl
def RK(bs ss:List Int)(a:Int):Prop:=∃(j:Nat)(b z:Int),bs[j]?=some b/\ss[j]?=some z/\b<=a/\a<b+z
def m8(K:Int->Prop)(c:DCe):Prop:=0<=c.1/\c.1<=2/\0<=c.2/\c.2<=65535/\(c.1=1->K c.2)
theorem m8.mono{K K':Int->Prop}{c:DCe}(h:m8 K c)(hk:∀a,K a->K' a):m8 K' c:=⟨h.1,h.2.1,h.2.2.1,h.2.2.2.1,λe=>hk _ (h.2.2.2.2 e)⟩
theorem iH{K:Int->Prop}{v:Int}(h:0<=v/\v<=65535):m8 K (0,v):=⟨by omega,by omega,h.1,h.2,λe=>absurd (show(0:Int)=1 from e) (by decide)⟩
def PT(K:Int->Prop)(i:Nat)(x:DLn):Prop:=(x.1=-1/\x.2.1=false/\x.2.2=[])\/(0<=x.1/\x.1<128/\x.1%4=i/\x.2.2.length=4/\∀c∈x.2.2,m8 K c)
def P8(cs:List DCe)(x:DLn):Prop:=x.1=-1\/x.2.1=true\/∀o:Nat,o<4->cs[(x.1*4).toNat+o]?=x.2.2[o]?
structure jJ (K:Int->Prop)(cs:List DCe)(ls:List DLn):Prop where
 clen:cs.length=512
 cells:∀c∈cs,m8 K c
 llen:ls.length=4
 lines:∀(i:Nat) x,ls[i]?=some x->PT K i x
 coh:∀(i:Nat) x,ls[i]?=some x->P8 cs x
structure yH (K:Int->Prop)(n:Int)(t:DTh):Prop where
 state:0<=t.1/\t.1<=4
 len:t.2.1.length=8
 regs:∀c∈t.2.1,m8 K c
 pc:0<=t.2.2.1/\t.2.2.1<=255
 count:0<=t.2.2.2.1/\t.2.2.2.1<=n
 handler:-1<=t.2.2.2.2.1/\t.2.2.2.2.1<=255
 saved:-1<=t.2.2.2.2.2.1/\t.2.2.2.2.2.1<=255
 trap:0<=t.2.2.2.2.2.2.1/\t.2.2.2.2.2.2.1<=6
 code:W16 t.2.2.2.2.2.2.2
structure MOk (n:Int)(ss bs:List Int)(cs:List DCe)(ls:List DLn)(ts:List DTh):Prop where
 lay:LV bs ss
 mem:jJ (RK bs ss) cs ls
 tlen:ts.length=4
 thr:∀t∈ts,yH (RK bs ss) n t
theorem GL{K:Int->Prop}{l:List DCe}(hl:l.length<=1000)(h:∀c∈l,m8 K c):mK l=some (true,()):=by
 have e:dY kY NN (l,(l.length:Int),0,())=some (.inr (l,(l.length:Int),(l.length:Int),false,())):=by
  refine sJ (st:=λk=>(l,(l.length:Int),(k:Int),())) (n:=l.length) (by unfold NN;omega) ?_ ?_
  ·intro k hk;unfold kY
   (with_reducible refine dF (λZ9=>?_) λZ9=>?_)
   ·rw[dL];refine Ok.get (by omega) λx hx=>?_;have:=h x (dP hx);unfold j7;rw[oDT (show x.1<=2 from this.2.1)]
    (simp (disch:=omega) only [dQ,dZ,dT,dR])
    exact Ok.ret rfl
   ·omega
  ·unfold kY
   (with_reducible refine dF (λZ9=>?_) λZ9=>?_)
   ·omega
   ·exact Ok.ret rfl
 refine eZ ?_;unfold mK;delta dO
 try dsimp only
 rw[e];exact Ok.ret rfl
theorem GT{K:Int->Prop}{cs:List DCe}{ls:List DLn}(h:jJ K cs ls):md cs ls=some (true,()):=by
 obtain⟨h1,h2,h3,h4,_⟩:=h
 have e:dY jk NN (ls,4,0,cs,ls,())=some (.inr (ls,4,4,false,cs,ls,())):=by
  refine sJ (st:=λk=>(ls,4,(k:Int),cs,ls,())) (n:=4) (by unfold NN;omega) ?_ ?_
  ·intro k hk;unfold jk;dsimp only
   (with_reducible refine dF (λZ9=>?_) λZ9=>?_)
   ·rw[dL];simp only[oBS];refine Ok.get (by omega) λx hx=>?_
    rcases h4 k x hx with⟨e1,e2,e3⟩|⟨g1,g2,g3,g4,g5⟩
    ·rw[e1,e2,e3]
     (simp (disch:=omega) only [dQ,dZ,dT,dR])
     exact Ok.ret rfl
    ·rw[show(x.1==-1)=false by rw[beq_eq_false_iff_ne];omega,oDF (show ¬x.1<0 by omega),oDF (show ¬x.1>=128 by omega),Int.tmod_eq_emod_of_nonneg g1,g3,g4,GL (by omega) g5];simp;refine Ok.bind (P:=(·=(ls,4,(k:Int),false,cs,ls,()))) ?_ ?_
     ·refine Ok.cond (λh=>by cases h) λ_=>Ok.ret rfl
     ·rintro _ rfl;dsimp only;simp only[oCF]
      (simp (disch:=omega) only [dQ,dZ,dT,dR])
      exact Ok.ret rfl
   ·omega
  ·unfold jk;exact Ok.ret rfl
 refine eZ ?_;unfold md;delta dO;simp only[h1,h3,GL (show cs.length<=1000 by omega) h2,oBS,oNT];refine Ok.bind (P:=(·=(false,cs,ls,()))) ?_ ?_
 ·exact Ok.ret rfl
 ·rintro _ rfl;dsimp only;simp only[oCF];rw[h3,show((4:Nat):Int)=4 from rfl,e];exact Ok.ret rfl
theorem GS{K:Int->Prop}{t:DTh}(h:yH K 1099511627776 t):ma t.1 t.2.1 t.2.2.1 t.2.2.2.1 t.2.2.2.2.1 t.2.2.2.2.2.1 t.2.2.2.2.2.2.1 t.2.2.2.2.2.2.2=some (true,()):=by
 obtain⟨⟨a1,a2⟩,hl,hr,⟨b1,b2⟩,⟨c1,c2⟩,⟨d1,d2⟩,⟨e1,e2⟩,⟨f1,f2⟩,_⟩:=h;obtain⟨s,rs,pc,ct,ha,sa,tr,co⟩:=t;dsimp only at *
 have e:dY jf NN (rs,(rs.length:Int),0,s,rs,pc,ct,ha,sa,tr,co,())=some (.inr (rs,(rs.length:Int),(rs.length:Int),false,s,rs,pc,ct,ha,sa,tr,co,())):=by
  refine sJ (st:=λk=>(rs,(rs.length:Int),(k:Int),s,rs,pc,ct,ha,sa,tr,co,())) (n:=rs.length) (by unfold NN;omega) ?_ ?_
  ·intro k hk;unfold jf
   (with_reducible refine dF (λZ9=>?_) λZ9=>?_)
   ·rw[dL];refine Ok.get (by omega) λx hx=>?_;have:=hr x (dP hx);unfold j7;rw[oDT (show x.1<=2 from this.2.1)]
    (simp (disch:=omega) only [dQ,dZ,dT,dR])
    exact Ok.ret rfl
   ·omega
  ·unfold jf
   (with_reducible refine dF (λZ9=>?_) λZ9=>?_)
   ·omega
   ·exact Ok.ret rfl
 refine eZ ?_;unfold ma;delta dO
 try dsimp only
 rw[e];dsimp only;rw[hl];refine dH (oDT a1) (dH (oDT a2) (dH rfl (dH (oDT b1) (dH (oDT b2) (dH (oDT c1) (dH (oDT c2) (dH (oDT d1) (dH (oDT d2) (dH (oDT e1) (dH (oDT e2) (dH (oDT f1) ?_)))))))))));exact Ok.ret (by simp_all)
theorem re{code:List DIn}{ss bs:List Int}{d:List (List Int)}{n key:Int}{cs:List DCe}{ls:List DLn}{ts:List DTh}(hp:lR code ss d)(h:MOk n ss bs cs ls ts)(hn:n<=1099511627776):iR code ss d bs key cs ls ts=some (true,()):=by
 have ⟨h1,h2,h3,h4⟩:=h
 have e:dY lI NN (ts,4,0,bs,key,cs,ls,ts,())=some (.inr (ts,4,4,false,bs,key,cs,ls,ts,())):=by
  refine sJ (st:=λk=>(ts,4,(k:Int),bs,key,cs,ls,ts,())) (n:=4) (by unfold NN;omega) ?_ ?_
  ·intro k hk;unfold lI
   (with_reducible refine dF (λZ9=>?_) λZ9=>?_)
   ·rw[dL];refine Ok.get (by omega) λx hx=>?_;have ht:=h4 x (dP hx);rw[GS ⟨ht.state,ht.len,ht.regs,ht.pc,⟨ht.count.1,by have:=ht.count.2;omega⟩,ht.handler,ht.saved,ht.trap,ht.code⟩]
    (simp (disch:=omega) only [dQ,dZ,dT,dR])
    exact Ok.ret rfl
   ·omega
  ·exact Ok.ret rfl
 refine eZ ?_;unfold iR;rw[GC hp,ut h1,GT h2];delta dO;simp only[oBS,oNT,oCF,bne_self_eq_false,h3];rw[show((4:Nat):Int)=4 from rfl,e];exact Ok.ret rfl
def gI:List DLn:=[(-1,false,[]),(-1,false,[]),(-1,false,[]),(-1,false,[])]
theorem Mg:oM=some (gI,()):=by kernel_rfl
theorem Kn{K:Int->Prop}{cs:List DCe}(h:cs.length=512)(hc:∀c∈cs,m8 K c):jJ K cs gI:=by
 have key:∀(i:Nat) x,gI[i]?=some x->x=(-1,false,[]):=λi x hx=>by
  have:=dP hx;simp[gI]at this;exact this
 exact⟨h,hc,rfl,λi x hx=>by rw[key i x hx];exact .inl ⟨rfl,rfl,rfl⟩,λi x hx=>by rw[key i x hx];exact .inl rfl⟩
theorem jC{α:Type}{P:α->Prop}{l:List α}{i:Nat}{f:α->α}(h:∀x∈l,P x)(hf:∀x,P x->P (f x)):∀x∈List.modify l i f,P x:=by
 intro x hx;have ⟨j,hj⟩:=List.getElem?_of_mem hx
 grind
theorem N9{code:List DIn}{ss bs:List Int}{d:List (List Int)}{key:Int}(hp:lR code ss d)(hl:LV bs ss):Ok (nw code ss d bs key) λr=>∃cs,r=(cs,gI,0,())/\cs.length=512/\∀c∈cs,m8 (λ_=>False) c:=by
 unfold nw;rw[ut hl,Mg];delta dO;simp only[oBS,oNT,oCF,hp.len,bne_self_eq_false];refine dH (by decide) ?_
 obtain⟨t,e,ht⟩:=gy (f:=mL) (n:=NN) (s:=(d,(ss.length:Int),0,code,ss,d,bs,key,(),(),List.replicate 512 (0,0),gI,()))
  (P:=λs'=>∃k:Nat,∃cs,s'=(d,(ss.length:Int),(k:Int),code,ss,d,bs,key,(),(),cs,gI,())/\k<=ss.length/\cs.length=512/\∀c∈cs,m8 (λ_=>False) c)
  (R:=λr=>∃a b c e cs,r=.inr (a,b,c,e,code,ss,d,bs,key,(),(),cs,gI,())/\cs.length=512/\∀c∈cs,m8 (λ_=>False) c) (m:=λs'=>(s'.2.1-s'.2.2.1).toNat)
  ⟨0,_,rfl,by omega,List.length_replicate,λc hc=>by rw[List.eq_of_mem_replicate hc];exact iH (by decide)⟩ (by unfold NN;dsimp only;have:=hp.sz.2.1;omega) (by
   rintro _ ⟨k,cs,rfl,hk,ZK,ZB⟩;unfold mL;dsimp only;have hlen:=hp.len;have Wd:=hp.sz.2.1
   (with_reducible refine dF (λZ9=>?_) λZ9=>?_)
   ·rw[dL];delta dO;simp only[oBS];refine Ok.get (by omega) λx hx=>?_;refine Ok.get (by omega) λy hy=>?_;have hf:=hp.fit k x y hx hy;have WT:=hp.num x (dP hx);obtain⟨_,Up,hr⟩:=hl;have Vk:=hr k (by omega);unfold yI at Vk;obtain⟨b,hb⟩:∃b,bs[k]?=some b:=⟨_,oGE (by omega)⟩;rw[ff hb,ff hy]at Vk
    (with_reducible refine dF (λZX=>?_) λZX=>?_)
    ·omega
    ·refine Ok.loop (P:=λs'=>∃j:Nat,∃cs,s'=((k:Int),d,(ss.length:Int),(k:Int),x,(x.length:Int),(j:Int),code,ss,d,bs,key,(),(),cs,gI,())/\j<=x.length/\cs.length=512/\∀c∈cs,m8 (λ_=>False) c)
      (R:=λr=>∃a b c e cs,r=(a,d,(ss.length:Int),(k:Int),b,c,e,false,code,ss,d,bs,key,(),(),cs,gI,())/\cs.length=512/\∀c∈cs,m8 (λ_=>False) c) (m:=λs'=>(s'.2.2.2.2.2.1-s'.2.2.2.2.2.2.1).toNat)
      ⟨0,cs,rfl,by omega,ZK,ZB⟩ (by unfold NN;dsimp only;omega) ?_ ?_
     ·rintro _ ⟨j,cs,rfl,hj,ZK,ZB⟩;unfold p8;dsimp only
      (with_reducible refine dF (λhcc=>?_) λhcc=>?_)
      ·rw[dL,dL];simp only[oBS];refine Ok.get (by omega) λv hv=>?_;have XB:=WT v (dP hv);rw[show dJ bs k=some b from hb];simp only[oBS]
       (simp (disch:=omega) only [dQ,dZ,dT,dR])
       refine Ok.nat (by omega) λa ha=>?_;refine Ok.get (by omega) λc hc=>?_;refine Ok.get (by omega) λc' Xd=>?_;exact Ok.ret ⟨⟨j+1,_,rfl,by omega,by rw[oLM];exact ZK,jC ZB λz hz=>⟨hz.1,hz.2.1,XB.1,XB.2,hz.2.2.2.2⟩⟩,by dsimp only;omega⟩
      ·exact Ok.ret ⟨_,_,_,_,_,rfl,ZK,ZB⟩
     ·rintro _ ⟨a,b,c,e,cs,rfl,ZK,ZB⟩;dsimp only
      (simp (disch:=omega) only [dQ,dZ,dT,dR])
      exact Ok.ret ⟨⟨k+1,_,rfl,by omega,ZK,ZB⟩,by dsimp only;omega⟩
   ·exact Ok.ret ⟨_,_,_,_,_,rfl,ZK,ZB⟩)
 rw[e];obtain⟨a,b,c,e,cs,rfl,ZK,ZB⟩:=ht;exact Ok.ret ⟨cs,rfl,ZK,ZB⟩
theorem O1{K:Int->Prop}:∀c∈List.replicate 8 ((0:Int),(0:Int)),m8 K c:=λc hc=>by rw[List.eq_of_mem_replicate hc];exact iH (by decide)
theorem Nc{K:Int->Prop}{s:Int}(h:0<=s/\s<=4):yH K 0 (s,List.replicate 8 (0,0),0,0,-1,-1,0,0):=
 ⟨h,rfl,O1,⟨by simp_all,by simp_all⟩,⟨by simp_all,by simp_all⟩,⟨by simp_all,by simp_all⟩,⟨by simp_all,by simp_all⟩,⟨by simp_all,by simp_all⟩,⟨by simp_all,by simp_all⟩⟩
def Pr(ss:List Int)(c:DCn):Prop:=
 ((c.1=0\/c.1=2)/\c.2.2.1=0/\c.2.2.2=0/\W16 c.2.1)\/(c.1=1/\c.2.1=0/\0<=c.2.2.1/\∃n,ss[c.2.2.1.toNat]?=some n/\0<=c.2.2.2/\c.2.2.2<n)
theorem D7{ss:List Int}{c:DCn}(hs:yM ss)(h:Pr ss c):gN c.1 c.2.1 c.2.2.1 c.2.2.2=some (true,()):=by
 refine eZ ?_;unfold gN
 rcases h with⟨h1,h2,h3,_⟩|⟨h1,h2,h3,n,h4,h5,h6⟩
 ·rw[h2,h3]
  rcases h1 with h1|h1<;>rw[h1]<;>exact Ok.ret rfl
 ·have hn:=hs.2.2 n (dP h4);have hl:=(oGS h4).1;have Wd:=hs.2.1;rw[h1,h2,show(c.2.2.1==-1)=false by rw[beq_eq_false_iff_ne];omega];refine Ok.cond (λh=>by cases h) λ_=>Ok.cond (λh=>by cases h) λ_=>dH rfl ?_;refine Ok.cond (λh=>by cases h) λ_=>dH rfl ?_;exact dH (oDT h3) (dH (oDT (by omega)) (dH (oDT h5) (Ok.ret (by rw[oDT (show c.2.2.2<32 by omega)]))))
theorem mA{ss:List Int}{l:List DCn}{n:Int}(hs:yM ss)(h:∀c∈l,Pr ss c)(hn:(l.length:Int)<=n)(hl:l.length<=1000):fu l n=some (true,()):=by
 have e:dY gd NN (l,n,l,(l.length:Int),0,())=some (.inr (l,n,l,(l.length:Int),(l.length:Int),false,())):=by
  refine sJ (st:=λk=>(l,n,l,(l.length:Int),(k:Int),())) (n:=l.length) (by unfold NN;omega) ?_ ?_
  ·intro k hk;unfold gd
   (with_reducible refine dF (λZ9=>?_) λZ9=>?_)
   ·rw[dL];refine Ok.get (by omega) λx hx=>?_;rw[D7 hs (h x (dP hx))]
    (simp (disch:=omega) only [dQ,dZ,dT,dR])
    exact Ok.ret rfl
   ·omega
  ·unfold gd
   (with_reducible refine dF (λZ9=>?_) λZ9=>?_)
   ·omega
   ·exact Ok.ret rfl
 refine eZ ?_;unfold fu;delta dO
 try dsimp only
 rw[e];exact Ok.ret (congrArg (λb=>(b,())) (oDT hn))
def OK(d:List (List DCn))(o:DOp):Prop:=(o.1=-1/\o.2.1=0/\o.2.2=false)\/(0<=o.1/\∃x,d[o.1.toNat]?=some x/\0<=o.2.1/\o.2.1<=x.length)
structure fH (ss:List Int)(d:List (List DCn))(os:List DOp):Prop where
 dlen:d.length<=4
 flen:∀x∈d,x.length<=64
 cells:∀x∈d,∀c∈x,Pr ss c
 olen:os.length=8
 opens:∀o∈os,OK d o
theorem zI{ss:List Int}{d:List (List DCn)}{os:List DOp}(hs:yM ss)(h:fH ss d os):jS d os=some (true,()):=by
 obtain⟨h1,h2,h3,h4,h5⟩:=h
 have e0:dY je NN (d,(d.length:Int),0,d,os,())=some (.inr (d,(d.length:Int),(d.length:Int),false,d,os,())):=by
  refine sJ (st:=λk=>(d,(d.length:Int),(k:Int),d,os,())) (n:=d.length) (by unfold NN;omega) ?_ ?_
  ·intro k hk;unfold je;dsimp only
   (with_reducible refine dF (λZ9=>?_) λZ9=>?_)
   ·rw[dL];simp only[oBS];refine Ok.get (by omega) λx hx=>?_;have:=h2 x (dP hx);rw[mA hs (h3 x (dP hx)) (by omega) (by omega)];simp only[oBS,oNT,oCF]
    (simp (disch:=omega) only [dQ,dZ,dT,dR])
    exact Ok.ret rfl
   ·omega
  ·unfold je;dsimp only
   (with_reducible refine dF (λZ9=>?_) λZ9=>?_)
   ·omega
   ·exact Ok.ret rfl
 have e2:dY lG NN (os,8,0,d,os,())=some (.inr (os,8,8,false,d,os,())):=by
  refine sJ (st:=λk=>(os,8,(k:Int),d,os,())) (n:=8) (by unfold NN;omega) ?_ ?_
  ·intro k hk;unfold lG;dsimp only
   (with_reducible refine dF (λZ9=>?_) λZ9=>?_)
   ·rw[dL];simp only[oBS];refine Ok.get (by omega) λx hx=>?_;obtain⟨f,o,w⟩:=x;refine Ok.bind (P:=(·=(os,8,(k:Int),false,d,os,f,o,w,()))) ?_ ?_
    ·rcases h5 _ (dP hx)with⟨g1,g2,g3⟩|⟨g1,y,g2,g3,g4⟩
     ·have g1:f=-1:=g1;have g2:o=0:=g2;have g3:w=false:=g3;subst g1 g2 g3;dsimp only;refine dH rfl (Ok.cond (λh=>by cases h) λ_=>Ok.cond (λh=>by cases h) λ_=>Ok.cond (λh=>by cases h) λ_=>Ok.cond (λh=>?_) λ_=>Ok.cond (λh=>by cases h) λ_=>Ok.ret rfl);have h:(-1:Int)>=(d.length:Int):=of_decide_eq_true h;omega
     ·dsimp only at g1 g2 g3 g4⊢;have hl:=(oGS g2).1;rw[show(f==-1)=false by rw[beq_eq_false_iff_ne];omega,oDF (show ¬f < -1 by omega)];simp only[oCF];refine Ok.cond (λh=>?_) λ_=>dH (oDT g1) ?_
      ·have h:f>=(d.length:Int):=of_decide_eq_true h;omega
      ·rw[oDF (show ¬o<0 by omega)];simp only[oCF];refine Ok.nat g1 λj hj=>?_;refine Ok.get (by omega) λz hz=>?_
       have hjj:j=f.toNat:=by omega
       subst hjj;rw[g2]at hz
       injection hz with hz
       subst hz;exact Ok.ret (by rw[oDF (show ¬o>dO y.length from λh=>by rw[dR]at h;omega)])
    ·rintro _ rfl;dsimp only;simp only[oCF]
     (simp (disch:=omega) only [dQ,dZ,dT,dR])
     exact Ok.ret rfl
   ·omega
  ·exact Ok.ret rfl
 refine eZ ?_;unfold jS;delta dO
 try dsimp only
 (with_reducible refine dF (λZ9=>?_) λZ9=>?_)
 ·omega
 ·rw[h4];rw[e0];dsimp only;rw[h4,show((8:Nat):Int)=8 from rfl,e2];exact Ok.ret rfl
def OV(ss:List Int)(i:Nat)(x:DOu):Prop:=x.1=i/\0<=x.2.1/\x.2.1<2/\x.2.2.length<=16/\∀c∈x.2.2,Pr ss c
structure rI (ss:List Int)(ck rn:List Int)(ins:List (List Int))(d:List (List DCn))(os:List DOp)(us:List DOu):Prop where
 clock:ck.length<=64/\∀w∈ck,W16 w
 rand:rn.length<=64/\∀w∈rn,W16 w
 ilen:ins.length<=2
 inp:∀x∈ins,x.length<=64/\∀w∈x,W16 w
 files:fH ss d os
 ulen:us.length<=200
 outs:∀(i:Nat) x,us[i]?=some x->OV ss i x
theorem Hw{ss:List Int}{us:List DOu}(hl:us.length<=200)(h:∀(i:Nat) x,us[i]?=some x->OV ss i x):jR us=some (true,()):=by
 have e:dY ig NN (us,(us.length:Int),0,())=some (.inr (us,(us.length:Int),(us.length:Int),false,())):=by
  refine sJ (st:=λk=>(us,(us.length:Int),(k:Int),())) (n:=us.length) (by unfold NN;omega) ?_ ?_
  ·intro k hk;unfold ig
   (with_reducible refine dF (λZ9=>?_) λZ9=>?_)
   ·rw[dL];refine Ok.get (by omega) λx hx=>?_;have ⟨g1,g2,g3,g4,g5⟩:=h k x hx;rw[g1,oDF (show ¬x.2.1<0 by omega),oDF (show ¬x.2.1>=2 by omega)];simp;refine Ok.cond (λh=>?_) λ_=>?_
    ·have h:(x.2.2.length:Int)>16:=of_decide_eq_true h;omega
    ·(simp (disch:=omega) only [dQ,dZ,dT,dR])
     exact Ok.ret rfl
   ·omega
  ·unfold ig
   (with_reducible refine dF (λZ9=>?_) λZ9=>?_)
   ·omega
   ·exact Ok.ret rfl
 refine eZ ?_;unfold jR;delta dO
 try dsimp only
 rw[e];exact Ok.ret rfl
theorem ra{ss ck rn:List Int}{ins:List (List Int)}{d:List (List DCn)}{os:List DOp}{us:List DOu}(hs:yM ss)(h:rI ss ck rn ins d os us):iQ ck rn ins d os us=some (true,()):=by
 have e0:dY jd NN (ins,(ins.length:Int),0,ck,rn,ins,d,os,us,())=some (.inr (ins,(ins.length:Int),(ins.length:Int),false,ck,rn,ins,d,os,us,())):=by
  refine sJ (st:=λk=>(ins,(ins.length:Int),(k:Int),ck,rn,ins,d,os,us,())) (n:=ins.length) (by unfold NN;have:=h.ilen;omega) ?_ ?_
  ·intro k hk;have Y0:=h.ilen;unfold jd;dsimp only
   (with_reducible refine dF (λZ9=>?_) λZ9=>?_)
   ·rw[dL];delta dO;simp only[oBS];refine Ok.get (by omega) λx hx=>?_;have:=(h.inp x (dP hx)).1
    (with_reducible refine dF (λZX=>?_) λZX=>?_)
    ·omega
    ·(simp (disch:=omega) only [dQ,dZ,dT,dR])
     exact Ok.ret rfl
   ·omega
  ·unfold jd;dsimp only
   (with_reducible refine dF (λZ9=>?_) λZ9=>?_)
   ·omega
   ·exact Ok.ret rfl
 have e1:dY jc NN (us,(us.length:Int),0,ck,rn,ins,d,os,us,())=some (.inr (us,(us.length:Int),(us.length:Int),false,ck,rn,ins,d,os,us,())):=by
  refine sJ (st:=λk=>(us,(us.length:Int),(k:Int),ck,rn,ins,d,os,us,())) (n:=us.length) (by unfold NN;have:=h.ulen;omega) ?_ ?_
  ·intro k hk;have hul:=h.ulen;unfold jc;dsimp only
   (with_reducible refine dF (λZ9=>?_) λZ9=>?_)
   ·rw[dL];simp only[oBS];refine Ok.get (by omega) λx hx=>?_;obtain⟨_,_,_,g4,g5⟩:=h.outs k x hx;rw[mA hs g5 (by omega) (by omega)]
    (simp (disch:=omega) only [dQ,dZ,dT,dR])
    exact Ok.ret rfl
   ·omega
  ·unfold jc;dsimp only
   (with_reducible refine dF (λZ9=>?_) λZ9=>?_)
   ·omega
   ·exact Ok.ret rfl
 have c1:=h.clock.1;have c2:=h.rand.1;have c3:=h.ilen;have c4:=h.ulen;refine eZ ?_;unfold iQ;delta dO
 try dsimp only
 rw[e0];dsimp only;rw[e1];dsimp only;refine dH (oDT (show(ck.length:Int)<=64 by omega)) (dH (oDT (show(rn.length:Int)<=64 by omega)) (dH (oDT (show(ins.length:Int)<=2 by omega)) ?_));rw[zI hs h.files];refine dH (oDT (show(us.length:Int)<=200 by omega)) ?_;rw[Hw h.ulen h.outs];exact Ok.ret rfl
def o7:List DOp:=List.replicate 8 (-1,0,false)
theorem LE(a:List (List Int)):dY rN NN (a,8,0,(),(),(),List.replicate 8 (0,(0,false)),())=some (a,8,8,false,(),(),(),o7,()):=by
 rfl
theorem LK{ss:List Int}{a:List (List Int)}(hs:yM ss)(hl:a.length<=4)(h:∀x∈a,x.length<=64/\∀w∈x,W16 w):Ok (oJ a) λr=>∃d,r=(d,o7,0,())/\fH ss d o7:=by
 unfold oJ;refine dH (by decide) ?_;dsimp only;rw[show dO (List.replicate 8 ((0:Int),((0:Int),false))).length=8 from rfl,LE];delta dO;simp only[oBS]
 refine Ok.loop (P:=λs'=>∃k:Nat,∃d,s'=(a,(a.length:Int),(k:Int),(),(),d,o7,())/\k<=a.length/\d.length=k/\(∀x∈d,x.length<=64)/\∀x∈d,∀c∈x,Pr ss c)
  (R:=λr=>∃e b c f d,r=(e,b,c,f,(),(),d,o7,())/\d.length<=4/\(∀x∈d,x.length<=64)/\∀x∈d,∀c∈x,Pr ss c) (m:=λs'=>(s'.2.1-s'.2.2.1).toNat) ⟨0,[],rfl,by omega,rfl,ek,ek⟩ (by unfold NN;dsimp only;omega) ?_ ?_
 ·rintro _ ⟨k,d,rfl,hk,Yw,hd2,Xv⟩;unfold rL;dsimp only
  (with_reducible refine dF (λZ9=>?_) λZ9=>?_)
  ·rw[dL];delta dO;simp only[oBS];refine Ok.get (by omega) λx hx=>?_;obtain⟨ZZ,XN⟩:=h x (dP hx)
   refine Ok.loop (P:=λs'=>∃j:Nat,∃l,s'=(a,(a.length:Int),(k:Int),x,(x.length:Int),(j:Int),(),(),d,o7,l,())/\j<=x.length/\l.length=j/\∀c∈l,Pr ss c)
    (R:=λr=>∃b c e f l,r=(a,(a.length:Int),(k:Int),b,c,e,f,(),(),d,o7,l,())/\l.length<=64/\∀c∈l,Pr ss c) (m:=λs'=>(s'.2.2.2.2.1-s'.2.2.2.2.2.1).toNat) ⟨0,[],rfl,by omega,rfl,ek⟩ (by unfold NN;dsimp only;omega) ?_ ?_
   ·rintro _ ⟨j,l,rfl,hj,XF,X5⟩;unfold rM;dsimp only
    (with_reducible refine dF (λZX=>?_) λZX=>?_)
    ·rw[dL];simp only[oBS];refine Ok.get (by omega) λv hv=>?_;refine dH (dU (by simp;omega)) ?_
     (simp (disch:=omega) only [dQ,dZ,dT,dR])
     exact Ok.ret ⟨⟨j+1,_,rfl,by omega,by rw[fq,XF];rfl,gU X5 (all_cons (.inl ⟨.inl rfl,rfl,rfl,XN v (dP hv)⟩) ek)⟩,by dsimp only;omega⟩
    ·exact Ok.ret ⟨_,_,_,_,_,rfl,by omega,X5⟩
   ·rintro _ ⟨b,c,e,f,l,rfl,XF,X5⟩;dsimp only;refine dH (dU (by simp;omega)) ?_
    (simp (disch:=omega) only [dQ,dZ,dT,dR])
    exact Ok.ret ⟨⟨k+1,_,rfl,by omega,by rw[fq,Yw];rfl,gU hd2 (all_cons XF ek),gU Xv (all_cons X5 ek)⟩,by dsimp only;omega⟩
  ·exact Ok.ret ⟨_,_,_,_,_,rfl,by omega,hd2,Xv⟩
 ·rintro _ ⟨e,b,c,f,d,rfl,Yw,hd2,Xv⟩;have hf:fH ss d o7:=⟨Yw,hd2,Xv,rfl,λo ho=>by rw[List.eq_of_mem_replicate ho];exact .inl ⟨rfl,rfl,rfl⟩⟩;dsimp only;rw[zI hs hf];exact Ok.ret ⟨d,rfl,hf⟩
theorem ym{a:List (List Int)}(hl:a.length<=1000)(h:∀x∈a,x.length<=1000):fJ a=some (a,()):=by
 have e:dY fD NN (a,(a.length:Int),0,[],())=some (a,(a.length:Int),(a.length:Int),false,a,()):=by
  have:=sJ (f:=fD) (N:=NN) (st:=λk=>(a,(a.length:Int),(k:Int),a.take k,())) (n:=a.length) (t:=(a,(a.length:Int),(a.length:Int),false,a,())) (by unfold NN;omega) ?_ ?_
  ·exact this
  ·intro k hk;unfold fD
   (with_reducible refine dF (λZ9=>?_) λZ9=>?_)
   ·rw[dL];refine Ok.get (by omega) λx hx=>?_;have:=h x (dP hx);refine dH (dU (by omega)) (dH (dU (by simp;omega)) ?_)
    (simp (disch:=omega) only [dQ,dZ,dT,dR])
    refine Ok.ret ?_;rw[List.take_add_one,hx];rfl
   ·omega
  ·unfold fD
   (with_reducible refine dF (λZ9=>?_) λZ9=>?_)
   ·omega
   ·rw[List.take_length];exact Ok.ret rfl
 refine eZ ?_;unfold fJ;delta dO
 try dsimp only
 rw[e];exact Ok.ret rfl
theorem Hu{ss l:List Int}{k:Int}(hs:yM ss)(h:DOk l k):Ok (k8 l k) λr=>∃ck rn ins d os k',r=(ck,rn,ins,d,os,(),l,k',())/\rI ss ck rn ins d os []/\DOk l k':=by
 unfold k8;refine(oE h (by decide)).bind ?_;rintro _ ⟨w1,k1,rfl,h1,g1,d1⟩;refine(oE d1 (by decide)).bind ?_;rintro _ ⟨w2,k2,rfl,h2,g2,d2⟩;dsimp only;refine(oE d2 (by decide)).bind ?_;rintro _ ⟨w3,k3,rfl,h3,g3,d3⟩;dsimp only;refine(oE d3 (by decide)).bind ?_;rintro _ ⟨w4,k4,rfl,h4,g4,d4⟩;dsimp only;refine(oE d4 (by decide)).bind ?_;rintro _ ⟨w5,k5,rfl,h5,g5,d5⟩;dsimp only;refine(oE d5 (by decide)).bind ?_;rintro _ ⟨w6,k6,rfl,h6,g6,d6⟩;dsimp only;refine Ok.bind (P:=λr=>∃ck rn ins d os,r=(ck,rn,ins,d,os,(),0,())/\rI ss ck rn ins d os []) ?_ ?_
 ·unfold oI;refine(LK (ss:=ss) (a:=[w1,w2]) hs (by simp) (all_cons ⟨by omega,g1⟩ (all_cons ⟨by omega,g2⟩ ek))).bind ?_;rintro _ ⟨d,rfl,hf⟩;refine Ok.cond (λh=>by cases h) λ_=>?_;refine dH (dU (by omega)) (dH (dU (by omega)) ?_);have ho:rI ss w5 w6 [w3,w4] d o7 []:=⟨⟨by omega,g5⟩,⟨by omega,g6⟩,by simp,all_cons ⟨by omega,g3⟩ (all_cons ⟨by omega,g4⟩ ek),hf,by simp,λi x hx=>by simp_all⟩;rw[ym (by simp) (all_cons (by omega) (all_cons (by omega) ek))];simp only[oBS];rw[show List.append [] w5=w5 from rfl,show List.append [] w6=w6 from rfl,ra hs ho];exact Ok.ret ⟨_,_,_,_,_,rfl,ho⟩
 ·rintro _ ⟨ck,rn,ins,d,os,rfl,ho⟩;exact Ok.ret ⟨_,_,_,_,_,_,rfl,ho,d6⟩
theorem xP{ss:List Int}{r o n:Int}(h1:0<=r)(h2:ss[r.toNat]?=some n)(h3:0<=o)(h4:o<n):fT ss r o=some (true,()):=by
 refine eZ ?_;have hl:=(oGS h2).1;refine dH (oDT h1) (dH (oDT (show r<(ss.length:Int) by omega)) (dH (oDT h3) ?_));obtain⟨j,rfl⟩:∃j:Nat,r=j:=⟨r.toNat,by omega⟩;rw[dL];simp;rw[show dJ ss j=some n from h2];exact Ok.ret (by simp_all)
theorem kR{ss:List Int}{c:DCn}(h:Pr ss c):hJ ss c.1 c.2.1 c.2.2.1 c.2.2.2=some (true,()):=by
 refine eZ ?_;unfold hJ
 rcases h with⟨h1,h2,h3,_⟩|⟨h1,h2,h3,n,h4,h5,h6⟩
 ·rw[h2,h3]
  rcases h1 with h1|h1<;>rw[h1]<;>exact Ok.ret rfl
 ·rw[h1,h2,xP h3 h4 h5 h6];exact Ok.ret rfl
theorem ED{ss:List Int}{d:List (List DCn)}{os:List DOp}(h:fH ss d os):kU ss d os=some (true,()):=by
 obtain⟨h1,h2,h3,h4,h5⟩:=h
 have e0:dY iO NN (ss,d,(d.length:Int),0,d,os,())=some (.inr (ss,d,(d.length:Int),(d.length:Int),false,d,os,())):=by
  refine sJ (st:=λk=>(ss,d,(d.length:Int),(k:Int),d,os,())) (n:=d.length) (by unfold NN;omega) ?_ ?_
  ·intro k hk;unfold iO;dsimp only
   (with_reducible refine dF (λZ9=>?_) λZ9=>?_)
   ·rw[dL];delta dO;refine Ok.get (by omega) λx hx=>?_;have ZZ:=h2 x (dP hx)
    have e:dY iP NN (ss,d,(d.length:Int),(k:Int),x,(x.length:Int),0,d,os,())=some (.inr (ss,d,(d.length:Int),(k:Int),x,(x.length:Int),(x.length:Int),false,d,os,())):=by
     refine sJ (st:=λj=>(ss,d,(d.length:Int),(k:Int),x,(x.length:Int),(j:Int),d,os,())) (n:=x.length) (by unfold NN;omega) ?_ ?_
     ·intro j hj;unfold iP
      (with_reducible refine dF (λZ9=>?_) λZ9=>?_)
      ·rw[dL];refine Ok.get (by omega) λy hy=>?_;rw[kR (h3 x (dP hx) y (dP hy))]
       (simp (disch:=omega) only [dQ,dZ,dT,dR])
       exact Ok.ret rfl
      ·omega
     ·unfold iP
      (with_reducible refine dF (λZ9=>?_) λZ9=>?_)
      ·omega
      ·exact Ok.ret rfl
    rw[e];dsimp only
    (simp (disch:=omega) only [dQ,dZ,dT,dR])
    exact Ok.ret rfl
   ·omega
  ·unfold iO;dsimp only
   (with_reducible refine dF (λZ9=>?_) λZ9=>?_)
   ·omega
   ·exact Ok.ret rfl
 refine eZ ?_;unfold kU;delta dO
 try dsimp only
 rw[e0];exact Ok.ret rfl
theorem copy17_ok{d:List (List DCn)}{os:List DOp}(h1:d.length<=1000)(h2:∀x∈d,x.length<=1000)(h3:os.length<=1000):gf d os=some (d,os,()):=by
 have e:dY iy NN (d,(d.length:Int),0,d,os,(),(),[],os,())=some (d,(d.length:Int),(d.length:Int),false,d,os,(),(),d,os,()):=by
  have:=sJ (f:=iy) (N:=NN) (st:=λk=>(d,(d.length:Int),(k:Int),d,os,(),(),d.take k,os,())) (n:=d.length) (t:=(d,(d.length:Int),(d.length:Int),false,d,os,(),(),d,os,())) (by unfold NN;omega) ?_ ?_
  ·exact this
  ·intro k hk;unfold iy
   (with_reducible refine dF (λZ9=>?_) λZ9=>?_)
   ·rw[dL];refine Ok.get (by omega) λx hx=>?_;have:=h2 x (dP hx);refine dH (dU (by omega)) (dH (dU (by simp;omega)) ?_)
    (simp (disch:=omega) only [dQ,dZ,dT,dR])
    refine Ok.ret ?_;rw[List.take_add_one,hx];rfl
   ·omega
  ·unfold iy
   (with_reducible refine dF (λZ9=>?_) λZ9=>?_)
   ·omega
   ·rw[List.take_length];exact Ok.ret rfl
 refine eZ ?_;refine dH (dU (by omega)) ?_;rw[show List.append [] os=os from rfl];delta dO
 try dsimp only
 rw[e];exact Ok.ret rfl
theorem yo{us:List DOu}(h1:us.length<=1000)(h2:∀x∈us,x.2.2.length<=1000):iw us=some (us,()):=by
 have e:dY iv NN (us,(us.length:Int),0,[],())=some (us,(us.length:Int),(us.length:Int),false,us,()):=by
  have:=sJ (f:=iv) (N:=NN) (st:=λk=>(us,(us.length:Int),(k:Int),us.take k,())) (n:=us.length) (t:=(us,(us.length:Int),(us.length:Int),false,us,())) (by unfold NN;omega) ?_ ?_
  ·exact this
  ·intro k hk;unfold iv
   (with_reducible refine dF (λZ9=>?_) λZ9=>?_)
   ·rw[dL];refine Ok.get (by omega) λx hx=>?_;have:=h2 x (dP hx);refine dH (dU (by omega)) (dH (dU (by simp;omega)) ?_)
    (simp (disch:=omega) only [dQ,dZ,dT,dR])
    refine Ok.ret ?_;rw[List.take_add_one,hx];rfl
   ·omega
  ·unfold iv
   (with_reducible refine dF (λZ9=>?_) λZ9=>?_)
   ·omega
   ·rw[List.take_length];exact Ok.ret rfl
 refine eZ ?_;unfold iw;delta dO
 try dsimp only
 rw[e];exact Ok.ret rfl
theorem yn{ss ck rn:List Int}{ins:List (List Int)}{d:List (List DCn)}{os:List DOp}{us:List DOu}(h:rI ss ck rn ins d os us):nc ck rn ins d os us=some (ck,rn,ins,d,os,us,()):=by
 have h1:=h.clock.1;have h2:=h.rand.1;have h3:=h.ilen;have h4:=h.ulen;have h5:=h.files.olen;have h6:=h.files.dlen;refine eZ ?_;refine dH (dU (by omega)) (dH (dU (by omega)) ?_)
 rw[ym (by omega) (λx hx=>by have:=(h.inp x hx).1;omega),copy17_ok (by omega) (λx hx=>by have:=h.files.flen x hx;omega) (by omega),yo (by omega) (λx hx=>by
  have ⟨i,hi⟩:=List.getElem?_of_mem hx;have:=(h.outs i x hi).2.2.2.1
  omega)]
 exact Ok.ret rfl
theorem JQ:si=some ([-1,-1,-1,-1],[[],[],[],[]],()):=by kernel_rfl
structure ib (ow:List Int)(qs:List (List Int)):Prop where
 olen:ow.length=4
 qlen:qs.length=4
 owner:∀o∈ow,-1<=o/\o<=3
 queue:∀q∈qs,q.Nodup/\∀t∈q,0<=t/\t<=3
theorem JI:∀{n:Nat}{q:List Int},q.Nodup->(∀t∈q,0<=t/\t<n)->q.length<=n:=by
 intro n
 induction n with
 |zero=>
  intro q _ h
  cases q with
  |nil=>simp
  |cons x q=>have:=h x (by simp);omega
 |succ n ih=>
  intro q hq h;have h1:(q.erase (n:Int)).Nodup:=hq.erase _
  have h2:∀t∈q.erase (n:Int),0<=t/\t<n:=λt ht=>by
   have hm:=(hq.mem_erase_iff).1 ht;have:=h t hm.2;omega
  have h3:=ih h1 h2;have h4:=List.length_erase (a:=(n:Int)) (l:=q);split at h4<;>omega
theorem ib.qlen4{ow:List Int}{qs:List (List Int)}(h:ib ow qs){q:List Int}(hq:q∈qs):q.length<=4:=JI (h.queue q hq).1 λt ht=>by have:=(h.queue q hq).2 t ht;omega
theorem Pp:ib [-1,-1,-1,-1] [[],[],[],[]]:=⟨rfl,rfl,by decide,by decide⟩
theorem PT.len{K:Int->Prop}{i:Nat}{x:DLn}(h:PT K i x):x.2.2.length<=4:=by
 rcases h with⟨_,_,h⟩|⟨_,_,_,h,_⟩
 ·simp_all
 ·omega
theorem Kp{K:Int->Prop}{cs:List DCe}{ls:List DLn}(h:jJ K cs ls):ny cs ls=some (cs,ls,()):=by
 obtain⟨h1,h2,h3,h4,_⟩:=h
 have e:dY iE NN (ls,(ls.length:Int),0,cs,ls,(),(),cs,[],())=some (ls,(ls.length:Int),(ls.length:Int),false,cs,ls,(),(),cs,ls,()):=by
  have:=sJ (f:=iE) (N:=NN) (st:=λk=>(ls,(ls.length:Int),(k:Int),cs,ls,(),(),cs,ls.take k,())) (n:=ls.length) (t:=(ls,(ls.length:Int),(ls.length:Int),false,cs,ls,(),(),cs,ls,())) (by unfold NN;omega) ?_ ?_
  ·exact this
  ·intro k hk;unfold iE
   (with_reducible refine dF (λZ9=>?_) λZ9=>?_)
   ·rw[dL];refine Ok.get (by omega) λx hx=>?_;have:=(h4 k x hx).len;refine dH (dU (by omega)) (dH (dU (by simp;omega)) ?_)
    (simp (disch:=omega) only [dQ,dZ,dT,dR])
    refine Ok.ret ?_;rw[List.take_add_one,hx];rfl
   ·omega
  ·unfold iE
   (with_reducible refine dF (λZ9=>?_) λZ9=>?_)
   ·omega
   ·rw[List.take_length];exact Ok.ret rfl
 refine eZ ?_;unfold ny;refine dH (dU (by omega)) ?_;rw[show List.append [] cs=cs from rfl];delta dO
 try dsimp only
 rw[e];exact Ok.ret rfl
theorem qz{n key:Int}{ss bs:List Int}{cs:List DCe}{ls:List DLn}{ts:List DTh}(h:MOk n ss bs cs ls ts):iD bs key cs ls ts=some (bs,key,cs,ls,ts,()):=by
 obtain⟨h1,h2,h3,h4⟩:=h;have hb:=h1.2.1;have Wd:=h1.1.2.1
 have e:dY iC NN (ts,(ts.length:Int),0,bs,key,cs,ls,ts,(),0,(),(),(),bs,key,cs,ls,[],())=some (ts,(ts.length:Int),(ts.length:Int),false,bs,key,cs,ls,ts,(),0,(),(),(),bs,key,cs,ls,ts,()):=by
  have:=sJ (f:=iC) (N:=NN) (st:=λk=>(ts,(ts.length:Int),(k:Int),bs,key,cs,ls,ts,(),0,(),(),(),bs,key,cs,ls,ts.take k,())) (n:=ts.length) (t:=(ts,(ts.length:Int),(ts.length:Int),false,bs,key,cs,ls,ts,(),0,(),(),(),bs,key,cs,ls,ts,())) (by unfold NN;omega) ?_ ?_
  ·exact this
  ·intro k hk;unfold iC;dsimp only
   (with_reducible refine dF (λZ9=>?_) λZ9=>?_)
   ·rw[dL];refine Ok.get (by omega) λx hx=>?_;have:=(h4 x (dP hx)).len;refine dH (dU (by omega)) (dH (dU (by simp;omega)) ?_)
    (simp (disch:=omega) only [dQ,dZ,dT,dR])
    refine Ok.ret ?_;rw[List.take_add_one,hx];rfl
   ·omega
  ·unfold iC
   (with_reducible refine dF (λZ9=>?_) λZ9=>?_)
   ·omega
   ·rw[List.take_length];exact Ok.ret rfl
 refine eZ ?_;unfold iD;refine dH (dU (by omega)) ?_;rw[Kp h2,show List.append [] bs=bs from rfl];delta dO;simp;rw[e];exact Ok.ret rfl
theorem rq{α:Type}{l:List α}{i:Nat}{f:α->α}{a:α}(h:l[i]?=some a):(List.modify l i f)[i]?=some (f a):=by simp_all
theorem iT{α:Type}(l:List α)(i:Nat)(f g:α->α):List.modify (List.modify l i f) i g=List.modify l i λa=>g (f a):=by
 apply List.ext_getElem?
 grind
theorem MOk.thread{n:Int}{ss bs:List Int}{cs:List DCe}{ls:List DLn}{ts:List DTh}(h:MOk n ss bs cs ls ts){i:Nat}{t:DTh}{f:DTh->DTh}(ht:ts[i]?=some t)(hf:yH (RK bs ss) n (f t)):MOk n ss bs cs ls (List.modify ts i f):=by
 refine⟨h.lay,h.mem,by rw[oLM];exact h.tlen,λx hx=>?_⟩;have ⟨j,hj⟩:=List.getElem?_of_mem hx;by_cases hij:i=j
 ·simp_all
 ·simp[hij]at hj
  have:ts[j]?=some x:=by simp_all
  exact h.thr x (dP this)
theorem MW{n key:Int}{ss bs:List Int}{cs:List DCe}{ls:List DLn}{ts:List DTh}(h:MOk n ss bs cs ls ts)(i:Int):Ok (mH bs key cs ls ts i) λr=>r.1=true->0<=i/\i<4/\∀t,ts[i.toNat]?=some t->t.2.2.2.2.1≠-1:=by
 unfold mH;delta dO;have:=h.tlen
 (with_reducible refine dF (λZ9=>?_) λZ9=>?_)
 ·exact Ok.ret (λh=>by cases h)
 ·(with_reducible refine dF (λZX=>?_) λZX=>?_)
  ·exact Ok.ret (λh=>by cases h)
  ·refine Ok.nat (by omega) λj hj=>?_;refine Ok.get (by omega) λt ht=>?_;subst hj
   (with_reducible refine dF (λhcc=>?_) λhcc=>?_)
   ·(with_reducible refine dF (λWM=>?_) λWM=>?_)
    ·exact Ok.ret (λ_=>⟨by omega,by omega,λt' ZR=>by
      rw[oTN,ht]at ZR
      injection ZR with ZR
      rw[<- ZR]
      exact WM⟩)
    ·exact Ok.ret (λh=>by cases h)
   ·exact Ok.ret (λh=>by cases h)
theorem Nb{n WJ:Int}{ts:List DTh}{i:Nat}{t:DTh}(ht:ts[i]?=some t):fA i WJ ts=some (2,List.modify ts i λt=>(4,t.2.1,t.2.2.1,t.2.2.2.1,t.2.2.2.2.1,t.2.2.2.2.2.1,WJ,0),()):=by
 refine eZ ?_;have hl:=(oGS ht).1;refine Ok.get hl λ_ _=>?_;refine Ok.get (by simp_all) λ_ _=>?_;refine Ok.get (by simp_all) λ_ _=>?_;rw[iT,iT];exact Ok.ret rfl
theorem yH.ended{K:Int->Prop}{n WJ:Int}{t:DTh}(h:yH K n t)(hw:0<=WJ/\WJ<=6):yH K n (4,t.2.1,t.2.2.1,t.2.2.2.1,t.2.2.2.2.1,t.2.2.2.2.2.1,WJ,0):=
 ⟨⟨by omega,by omega⟩,h.len,h.regs,h.pc,h.count,h.handler,h.saved,hw,⟨by simp_all,by simp_all⟩⟩
theorem uE{ss bs:List Int}{key a:Int}(h:LV bs ss)(ha:0<=a/\a<=65535):Ok (fj bs key ss a) λr=>(r.2.2.1=true->∃b n,0<=r.1/\bs[r.1.toNat]?=some b/\ss[r.1.toNat]?=some n/\0<=r.2.1/\r.2.1<n/\a=b+r.2.1):=by
 obtain⟨hs,hl,hr⟩:=h;have Wd:=hs.2.1;unfold fj;delta dO
 try dsimp only
 obtain⟨t,e,ht⟩:=gy (f:=eM) (n:=NN) (s:=(ss,a,bs,(bs.length:Int),0,bs,key,0,0,())) (P:=λs'=>∃k:Nat,s'=(ss,a,bs,(bs.length:Int),(k:Int),bs,key,0,0,())/\k<=bs.length)
  (R:=λr=>(∃x y,r=.inl (true,x,y,())/\∃b n,0<=x/\bs[x.toNat]?=some b/\ss[x.toNat]?=some n/\0<=y/\y<n/\a=b+y)\/∃z,r=.inr z) (m:=λs'=>(s'.2.2.2.1-s'.2.2.2.2.1).toNat) ⟨0,rfl,by omega⟩ (by unfold NN;dsimp only;omega) (by
   rintro _ ⟨k,rfl,hk⟩;unfold eM;dsimp only
   (with_reducible refine dF (λZ9=>?_) λZ9=>?_)
   ·rw[dL];simp only[oBS];obtain⟨b,hb⟩:∃b,bs[k]?=some b:=⟨_,oGE (by omega)⟩;obtain⟨y,hy⟩:∃y,ss[k]?=some y:=⟨_,oGE (by omega)⟩;have Wh:=hs.2.2 y (dP hy);have Vk:=hr k (by omega);unfold yI at Vk;rw[ff hb,ff hy]at Vk;rw[show dJ bs k=some b from hb];rw[show dJ ss k=some y from hy];simp only[oBS];rw[dQ (x:=b+y) (by omega) (by omega)];by_cases h1:a>=b
    ·by_cases h2:a<b+y
     ·simp only[h1,h2,decide_true,oCT];rw[dQ (x:=a-b) (by omega) (by omega)];exact Ok.ret (.inl ⟨_,_,rfl,b,y,by omega,by rw[oTN];exact hb,by rw[oTN];exact hy,by omega,by omega,by omega⟩)
     ·simp only[h1,h2,decide_true,decide_false,oCT,oCF]
      (simp (disch:=omega) only [dQ,dZ,dT,dR])
      exact Ok.ret ⟨⟨k+1,rfl,by omega⟩,by dsimp only;omega⟩
    ·simp only[h1,decide_false,oCF]
     (simp (disch:=omega) only [dQ,dZ,dT,dR])
     exact Ok.ret ⟨⟨k+1,rfl,by omega⟩,by dsimp only;omega⟩
   ·exact Ok.ret (.inr ⟨_,rfl⟩))
 rw[e]
 rcases ht with⟨x,y,rfl,Wg⟩|⟨z,rfl⟩
 ·exact Ok.ret λ_=>Wg
 ·exact Ok.ret λh=>by cases h
theorem Ae{ss:List Int}{r o:Int}:Ok (fT ss r o) λx=>x.1=true->0<=r/\0<=o/\∃n,ss[r.toNat]?=some n/\o<n:=by
 unfold fT;delta dO
 (with_reducible refine dF (λZ9=>?_) λZ9=>?_)
 ·(with_reducible refine dF (λZX=>?_) λZX=>?_)
  ·(with_reducible refine dF (λhcc=>?_) λhcc=>?_)
   ·refine Ok.nat (by omega) λj hj=>?_;refine Ok.get (by omega) λn hn=>?_;exact Ok.ret λh=>⟨by omega,by omega,n,by simp_all,of_decide_eq_true h⟩
   ·exact Ok.ret λh=>by cases h
  ·exact Ok.ret λh=>by cases h
 ·exact Ok.ret λh=>by cases h
theorem xA{ss bs:List Int}{key tag v n:Int}{back:Bool}(h:LV bs ss)(hv:W16 v)(hn:W16 n):Ok (fE bs key ss tag v n back) λr=>∃t x e,r=(t,x,e,())/\m8 (RK bs ss) (t,x)/\0<=e/\e<=6/\(e=0->x<512):=by
 have hz:∀e:Int,0<e->e<=6->∃t x e',((0:Int),(0:Int),e,())=(t,x,e',())/\m8 (RK bs ss) (t,x)/\0<=e'/\e'<=6/\(e'=0->x<512):=λe h1 h2=>⟨0,0,e,rfl,iH (by decide),by omega,h2,by omega⟩;obtain⟨v0,v1⟩:=hv;obtain⟨n0,n1⟩:=hn;unfold fE
 (with_reducible refine dF (λZ9=>?_) λZ9=>?_)
 ·exact Ok.ret (hz 3 (by decide) (by decide))
 ·rw[dT (x:=v) (by omega) (by omega),dT (x:=n) (by omega) (by omega)];refine(uE h ⟨v0,v1⟩).bind ?_;rintro⟨r,o,ok,_⟩ YH;dsimp only at YH⊢
  (with_reducible refine dF (λZX=>?_) λZX=>?_)
  ·exact Ok.ret (hz 4 (by decide) (by decide))
  ·obtain⟨b,z,hr0,hb,hzz,ho0,ho1,_⟩:=YH ZX;have hz2:=h.1.2.2 z (dP hzz);refine Ok.bind (P:=λx=>∃o',x=(ss,bs,key,0,0,r,o',())/\-70000<=o'/\o'<=70000) ?_ ?_
   ·refine Ok.cond (λ_=>?_) λ_=>?_
    all_goals
     (simp (disch:=omega) only [dQ,dZ,dT,dR])
     exact Ok.ret ⟨_,rfl,by omega,by omega⟩
   rintro _ ⟨o',rfl,WU,ho3⟩;dsimp only;refine Ae.bind ?_;rintro⟨q,_⟩ hin;dsimp only at hin⊢
   (with_reducible refine dF (λhcc=>?_) λhcc=>?_)
   ·exact Ok.ret (hz 4 (by decide) (by decide))
   ·obtain⟨_,g1,m,g2,g3⟩:=hin hcc;refine Ok.nat hr0 λj hj=>?_;subst hj;rw[oTN]at hb g2;have hjl:=(oGS hb).1;have RD:=h.2.2 j hjl;unfold yI at RD;rw[ff hb,ff g2]at RD;rw[show dJ bs j=some b from hb];simp only[oBS];rw[dQ (x:=b+o') (by omega) (by omega),dZ (x:=b+o') (by omega) (by omega)];exact Ok.ret ⟨_,_,_,rfl,⟨by dsimp only;omega,by dsimp only;omega,by dsimp only;omega,by dsimp only;omega,λ_=>⟨j,b,m,hb,g2,by dsimp only;omega,by dsimp only;omega⟩⟩,by decide,by decide,λ_=>by omega⟩
theorem jJ.line{K:Int->Prop}{cs:List DCe}{ls:List DLn}(h:jJ K cs ls){i:Nat}{x:DLn}{f:DLn->DLn}(hx:ls[i]?=some x)(hf:PT K i (f x))(hg:P8 cs (f x)):jJ K cs (List.modify ls i f):=by
 have key:∀(j:Nat) y,(List.modify ls i f)[j]?=some y->PT K j y/\P8 cs y:=λj y hy=>by
  by_cases hij:i=j
  ·simp_all
  ·simp[hij]at hy;exact⟨h.lines j y (by simp_all),h.coh j y (by simp_all)⟩
 exact⟨h.clen,h.cells,by rw[oLM];exact h.llen,λj y hy=>(key j y hy).1,λj y hy=>(key j y hy).2⟩
theorem GZ{cs xs:List DCe}{lo k:Nat}(h1:lo+4<=cs.length)(h3:4<=xs.length)(hk:k<lo\/lo+4<=k):(qd cs lo 4 xs)[k]?=cs[k]?:=by
 unfold qd;rcases hk with hk|hk
 ·rw[List.append_assoc,List.getElem?_append_left (by rw[oLT];omega),List.getElem?_take_of_lt hk]
 ·rw[List.getElem?_append_right (by simp;omega),List.getElem?_drop];congr 1;simp;omega
theorem IB{K:Int->Prop}{cs xs:List DCe}{lo n:Nat}(h1:cs.length=512)(h2:lo+n<=512)(h3:n<=xs.length)(hc:∀c∈cs,m8 K c)(hx:∀c∈xs,m8 K c):(qd cs lo n xs).length=512/\∀c∈qd cs lo n xs,m8 K c:=by
 unfold qd;refine⟨?_,λc hh=>?_⟩
 ·simp;omega
 ·simp only[List.mem_append]at hh
  rcases hh with(hh|hh)|hh
  ·exact hc c (List.mem_of_mem_take hh)
  ·exact hx c (List.mem_of_mem_take hh)
  ·exact hc c (List.mem_of_mem_drop hh)
theorem Gv{K:Int->Prop}{cs:List DCe}{ls:List DLn}{a:Int}(h:jJ K cs ls)(ha:0<=a/\a<512):Ok (j4 a cs ls) λr=>∃i Z5 Z2 x,r=(i,Z5,Z2,())/\jJ K Z5 Z2/\Z2[i]?=some x/\x.1=a/4/\x.2.2.length=4:=by
 obtain⟨a0,a1⟩:=ha;obtain⟨h1,h2,h3,h4,h5⟩:=id h;unfold j4;rw[Int.tdiv_eq_ediv_of_nonneg a0,dQ (x:=a/4) (by omega) (by omega)];dsimp only;rw[Int.tmod_eq_emod_of_nonneg (show 0<=a/4 by omega)];refine Ok.nat (by omega) λi hi=>?_
 have Y0:i<ls.length:=by omega
 obtain⟨x,hx⟩:∃x,ls[i]?=some x:=⟨_,oGE Y0⟩;have hg:dJ ls i=some x:=hx;have hL:=h4 i x hx;simp only[hg,oBS]
 (with_reducible refine dF (λZ9=>?_) λZ9=>?_)
 ·refine Ok.ret ⟨i,cs,ls,x,rfl,h,hx,Z9,?_⟩
  rcases hL with⟨g1,_,_⟩|⟨_,_,_,g,_⟩
  ·omega
  ·exact g
 ·refine Ok.bind (P:=λr=>∃Z5,r=(a/4,i,Z5,ls,())/\Z5.length=512/\(∀c∈Z5,m8 K c)/\∀(j:Nat) y,ls[j]?=some y->P8 Z5 y) ?_ ?_
  ·refine Ok.cond (λhd=>?_) λ_=>Ok.ret ⟨cs,rfl,h1,h2,h5⟩
   rcases hL with⟨_,g,_⟩|⟨g1,g2,g3,g4,g5⟩
   ·rw[g]at hd;cases hd
   ·rw[dQ (x:=x.1*4) (by omega) (by omega)];refine Ok.nat (by omega) λq hq=>?_;refine dH (by unfold gY;simp;omega) ?_
    try simp only[hg,oBS]
    rw[g4,h1]
    have hmin:Nat.min 4 (Nat.sub 512 q)=4:=by
     show min 4 (512-q)=4;omega
    rw[hmin];refine dH (by unfold gY;simp;omega) ?_;refine dH rfl ?_;obtain⟨s1,s2⟩:=IB (lo:=q) (n:=4) h1 (by omega) (by omega) h2 g5;refine Ok.ret ⟨_,rfl,s1,s2,λj y hy=>?_⟩;by_cases hij:j=i
    ·subst hij;rw[hx]at hy
     injection hy with hy
     subst hy;exact .inr (.inl hd)
    ·rcases h5 j y hy with g|g|g
     ·exact .inl g
     ·exact .inr (.inl g)
     ·rcases h4 j y hy with⟨g',_,_⟩|⟨y1,y2,y3,y4,y5⟩
      ·exact .inl g'
      ·refine .inr (.inr λo ho=>?_);rw[GZ (by omega) (by omega) (by omega)];exact g o ho
  rintro _ ⟨Z5,rfl,c1,c2,c3⟩;dsimp only;rw[dQ (x:=a/4*4) (by omega) (by omega),dQ (x:=a/4+1) (by omega) (by omega),dQ (x:=(a/4+1)*4) (by omega) (by omega)];simp only[hg,oBS];refine Ok.get (by rw[oLM];exact Y0) λ_ _=>?_;refine Ok.nat (by omega) λq hq=>?_;refine Ok.nat (by omega) λq2 Y5=>?_;refine dH (by unfold gY;simp;omega) ?_
  have hw:(lT Z5 q (Nat.sub q2 q)).length=4:=by
   unfold lT;rw[oLT,List.length_drop];show min (q2-q) _=4;omega
  refine dH (dU (by omega)) ?_;refine Ok.get (by rw[oLM,oLM];exact Y0) λ_ _=>?_;rw[iT,iT,show List.append [] (lT Z5 q (Nat.sub q2 q))=lT Z5 q (Nat.sub q2 q)from rfl];have Zf:jJ K Z5 ls:=⟨c1,c2,h3,h4,c3⟩;refine Ok.ret ⟨i,Z5,_,_,rfl,Zf.line hx (.inr ⟨by dsimp only;omega,by dsimp only;omega,by dsimp only;omega,hw,λc hc=>c2 c ?_⟩) (.inr (.inr λo ho=>?_)),rq hx,rfl,hw⟩
  ·dsimp only at hc;unfold lT at hc;exact List.mem_of_mem_drop (List.mem_of_mem_take hc)
  ·dsimp only;unfold lT;rw[hq,oTN,List.getElem?_take_of_lt (show o<Nat.sub q2 q by show o<q2-q;omega),List.getElem?_drop]
theorem JS{K:Int->Prop}{cs:List DCe}{ls:List DLn}{a:Int}(h:jJ K cs ls)(ha:0<=a/\a<512):Ok (nv a cs ls) λr=>∃t v Z5 Z2,r=(t,v,Z5,Z2,())/\m8 K (t,v)/\jJ K Z5 Z2:=by
 refine(Gv h ha).bind ?_;rintro _ ⟨i,Z5,Z2,x,rfl,hm,hx,ZZ,XN⟩;have hg:dJ Z2 i=some x:=hx;simp[hg];rw[Int.tmod_eq_emod_of_nonneg ha.1];refine Ok.nat (by omega) λj hj=>?_;refine Ok.get (by omega) λ_ _=>?_;refine Ok.get (by omega) λc hc=>?_
 have ZB:m8 K c:=by
  rcases hm.lines i x hx with⟨_,_,g⟩|⟨_,_,_,_,g⟩
  ·omega
  ·exact g c (dP hc)
 exact Ok.ret ⟨_,_,_,_,rfl,ZB,hm⟩
theorem uw{K:Int->Prop}{cs:List DCe}{ls:List DLn}{a t v:Int}(h:jJ K cs ls)(ha:0<=a/\a<512)(hc:m8 K (t,v)):Ok (j3 a t v cs ls) λr=>∃Z5 Z2,r=(Z5,Z2,())/\jJ K Z5 Z2:=by
 refine(Gv h ha).bind ?_;rintro _ ⟨i,Z5,Z2,x,rfl,hm,hx,ZZ,XN⟩;have hg:dJ Z2 i=some x:=hx;have Y0:=(oGS hx).1;simp[hg];rw[Int.tmod_eq_emod_of_nonneg ha.1];refine Ok.nat (by omega) λj hj=>?_;refine Ok.get (by omega) λ_ _=>?_;refine Ok.get (by omega) λ_ _=>?_;refine Ok.get (by simp_all) λ_ _=>?_;rw[iT];refine Ok.ret ⟨_,_,rfl,hm.line hx ?_ (.inr (.inl rfl))⟩
 rcases hm.lines i x hx with⟨_,_,g⟩|⟨g1,g2,g3,g4,g5⟩
 ·omega
 ·exact .inr ⟨g1,g2,g3,by simp_all,jC g5 λ_ _=>hc⟩
theorem oF(x:Int):W16 (wk .u16 x):=by
 unfold wk;rw[Av];exact⟨by omega,by omega⟩
theorem Mr{ss bs:List Int}{key t v t' v':Int}(h:LV bs ss)(hv:W16 v)(Yy:W16 v'):Ok (jZ bs key ss t v t' v') λ_=>True:=by
 obtain⟨v0,v1⟩:=hv;obtain⟨u0,u1⟩:=Yy;unfold jZ;rw[dT (x:=v) (by omega) (by omega),dT (by omega) (by omega)];refine(uE h ⟨v0,v1⟩).bind ?_;rintro⟨r,o,ok,_⟩ _;refine(uE h ⟨u0,u1⟩).bind ?_;rintro⟨r',o',ok',_⟩ _;cases ok<;>cases ok'<;>exact Ok.ret trivial
theorem Fi(b:Bool):jy b=some (0,(bif b then 1 else 0),()):=by cases b<;>rfl
theorem Pm{op b c:Int}(hb:W16 b)(hc:W16 c):Ok (jY op b c) λr=>∃v e,r=(0,v,e,())/\W16 v/\0<=e/\e<=6:=by
 obtain⟨b0,b1⟩:=hb;obtain⟨c0,c1⟩:=hc;have ZV:∀x:Int,W16 x->Ok (some ((0:Int),x,(0:Int),())) λr=>∃v e,r=(0,v,e,())/\W16 v/\0<=e/\e<=6:=λx h=>Ok.ret ⟨x,0,rfl,h,by decide,by decide⟩;have z5:Ok (some ((0:Int),(0:Int),(5:Int),())) λr=>∃v e,r=(0,v,e,())/\W16 v/\0<=e/\e<=6:=Ok.ret ⟨0,5,rfl,⟨by decide,by decide⟩,by decide,by decide⟩;have hw:=oF;unfold jY
 (with_reducible refine dF (λZ9=>?_) λZ9=>?_)
 ·exact ZV _ (oF _)
 (with_reducible refine dF (λZX=>?_) λZX=>?_)
 ·exact ZV _ (oF _)
 (with_reducible refine dF (λhcc=>?_) λhcc=>?_)
 ·exact ZV _ (oF _)
 have hq:∀X:Option (Int×Int×Int×Unit),c≠0->(X=(bif(op==6)then(bif(c != 0)then some ((0:Int),wk .u16 (Int.tdiv b c),(0:Int),())else none)else bif(c != 0)then some ((0:Int),Int.tmod b c,(0:Int),())else none))->Ok X λr=>∃v e,r=(0,v,e,())/\W16 v/\0<=e/\e<=6:=by
  rintro _ hne rfl;refine Ok.cond (λ_=>dH (by rw[bne_iff_ne];exact hne) (ZV _ (oF _))) λ_=>dH (by rw[bne_iff_ne];exact hne) (ZV _ ?_);rw[Int.tmod_eq_emod_of_nonneg b0];have h1:=Int.emod_nonneg b hne;have h2:=Int.emod_lt_of_pos b (show 0<c by omega);exact⟨h1,by omega⟩
 (with_reducible refine dF (λWM=>?_) λWM=>?_)
 ·(with_reducible refine dF (λYm=>?_) λYm=>?_)
  ·exact z5
  ·simp_all
 (with_reducible refine dF (λWM=>?_) λWM=>?_)
 ·(with_reducible refine dF (λYm=>?_) λYm=>?_)
  ·exact z5
  ·simp_all
 (with_reducible refine dF (λUQ=>?_) λUQ=>?_)
 ·exact ZV _ (hw _)
 (with_reducible refine dF (λUQ=>?_) λUQ=>?_)
 ·exact ZV _ (hw _)
 (with_reducible refine dF (λUQ=>?_) λUQ=>?_)
 ·exact ZV _ (hw _)
 (with_reducible refine dF (λUQ=>?_) λUQ=>?_)
 ·rw[Int.tmod_eq_emod_of_nonneg c0];refine Ok.nat (by omega) λj hj=>?_;exact ZV _ (hw _)
 (with_reducible refine dF (λUQ=>?_) λUQ=>?_)
 ·rw[Int.tmod_eq_emod_of_nonneg c0];refine Ok.nat (by omega) λj hj=>ZV _ ?_;show W16 (Int.fdiv b (2 ^ (min j 16)));have hp:(0:Int)<2 ^ (min j 16):=Int.pow_pos (by decide);rw[Int.fdiv_eq_ediv_of_nonneg _ (by omega)];exact⟨Int.ediv_nonneg b0 (by omega),by have:=Int.ediv_le_self (2 ^ (min j 16)) b0;omega⟩
 rw[Fi];refine ZV _ ?_;cases decide (b<c)
 ·exact⟨by decide,by decide⟩
 ·exact⟨by decide,by decide⟩
def M6(K:Int->Prop)(r:Int×Int×Int×Unit):Prop:=∃t v e,r=(t,v,e,())/\m8 K (t,v)/\0<=e/\e<=6
theorem qy{K:Int->Prop}{t v e:Int}(h:m8 K (t,v))(h0:0<=e)(h1:e<=6):Ok (some (t,v,e,())) (M6 K):=Ok.ret ⟨t,v,e,rfl,h,h0,h1⟩
theorem wP{K:Int->Prop}{v:Int}(h:W16 v):m8 K (0,v):=iH h
theorem DY{K:Int->Prop}(b:Bool):m8 K (0,bif b then 1 else 0):=wP (by cases b<;>exact⟨by decide,by decide⟩)
theorem sL{K:Int->Prop}:m8 K (0,0):=wP ⟨by decide,by decide⟩
theorem Qm{ss bs:List Int}{key op t v t' v':Int}(h:LV bs ss)(hb:m8 (RK bs ss) (t,v))(hc:m8 (RK bs ss) (t',v')):Ok (rj bs key ss op t v t' v') (M6 (RK bs ss)):=by
 obtain⟨t0,t2,v0,v1,_⟩:=hb;obtain⟨u0,u2,w0,w1,_⟩:=hc;dsimp only at t0 t2 v0 v1 u0 u2 w0 w1;obtain⟨_,eN,n1,n2,rfl,Wn,hn2,hn3⟩:=Pm (op:=op) (b:=v) (c:=v') ⟨v0,v1⟩ ⟨w0,w1⟩;obtain⟨_,eA,a1,a2,a3,rfl,Yh,X1,ha3,_⟩:=xA (key:=key) (tag:=t) (back:=false) h (v:=v) (n:=v') ⟨v0,v1⟩ ⟨w0,w1⟩;obtain⟨_,eB,b1,b2,b3,rfl,ZJ,ZU,Vf,_⟩:=xA (key:=key) (tag:=t') (back:=false) h (v:=v') (n:=v) ⟨w0,w1⟩ ⟨v0,v1⟩;obtain⟨_,eC,c1,c2,c3,rfl,ZK,ZB,R1,_⟩:=xA (key:=key) (tag:=t) (back:=true) h (v:=v) (n:=v') ⟨v0,v1⟩ ⟨w0,w1⟩;obtain⟨⟨p1,p2,p3,p4,ok,_⟩,eP,_⟩:=Mr (key:=key) (t:=t) (t':=t') h (v:=v) (v':=v') ⟨v0,v1⟩ ⟨w0,w1⟩;unfold rj
 (with_reducible refine dF (λZ9=>?_) λZ9=>?_)
 ·exact qy sL (by decide) (by decide)
 (with_reducible refine dF (λZX=>?_) λZX=>?_)
 ·exact qy sL (by decide) (by decide)
 cases h14:(op==14)with
 |true=>
  simp only[oCT,Fi,oBS];exact qy (DY _) (by decide) (by decide)
 |false=>
  simp only[oCF,eN,eA,eB,eC,eP,oBS]
  rcases(show t=0\/t=1\/t=2 by omega)with rfl|rfl|rfl<;>rcases(show t'=0\/t'=1\/t'=2 by omega)with rfl|rfl|rfl
  all_goals
   cases h3:(op==3)<;>cases h4:(op==4)<;>cases h13:(op==13)<;>simp only[Int.reduceBEq,oCT,oCF,oBS,h3,h4,h13,Fi,eN,eA,eB,eC,eP,BEq.rfl]
  all_goals first
   |exact qy (wP Wn) hn2 hn3
   |exact qy Yh X1 ha3
   |exact qy ZJ ZU Vf
   |exact qy ZK ZB R1
   |exact qy sL (by decide) (by decide)
   |(cases ok<;>first
    |exact qy sL (by decide) (by decide)
    |exact qy (DY _) (by decide) (by decide)
    |exact qy (wP (oF _)) (by decide) (by decide))
theorem Kv{l:List Int}{k:Int}(h:DOk l k):Ok (mg l k) λr=>∃t b s k',r=(t,b,s,l,k',())/\0<=t/\t<4/\0<=b/\b<=63/\DOk l k':=by
 unfold mg
 (with_reducible refine gj (by omega) (by omega) (by omega) (λv0 k0 a0 b0 d0=>?_);try dsimp only)
 (with_reducible refine gj (by omega) (by omega) (by omega) (λv1 k1 a1 b1 d1=>?_);try dsimp only)
 (with_reducible refine Ok.nat (by omega) (λj1 hj1=>?_);try dsimp only)
 have hm:∀x∈[(0:Int),1,2,3,7,63],0<=x/\x<=63:=by simp_all
 refine Ok.get (by simp;omega) λx hx=>?_;refine Ok.get (by simp;omega) λy hy=>?_;have Wh:=hm y (dP hy)
 (with_reducible refine gj (by omega) (by omega) (by omega) (λv2 k2 a2 b2 d2=>?_);try dsimp only)
 exact Ok.ret ⟨_,_,_,_,rfl,a0,b0,Wh.1,Wh.2,d2⟩
def gZ:List DTh->Int->List Int
 | [],_=>[]
 |t::ts,i=>if t.1=1 then i::gZ ts (i+1)else gZ ts (i+1)
theorem AG(a b:List DTh)(i:Int):gZ (a++b) i=gZ a i++gZ b (i+a.length):=by
 induction a generalizing i with
 |nil=>simp[gZ]
 |cons t a ih=>
  simp[gZ,ih];rw[show i+1+(a.length:Int)=i+((a.length+1:Nat):Int) by omega];split<;>rfl
theorem uH(a:List DTh)(i:Int):(gZ a i).length<=a.length:=by
 induction a generalizing i with
 |nil=>simp[gZ]
 |cons t a ih=>
  simp[gZ];have:=ih (i+1);split<;>simp<;>omega
theorem Hl{a:List DTh}{i x:Int}(h:x∈gZ a i):i<=x/\x<i+a.length/\∃t,a[(x-i).toNat]?=some t/\t.1=1:=by
 induction a generalizing i with
 |nil=>simp[gZ]at h
 |cons t a ih=>
  simp[gZ]at h
  have key:x∈gZ a (i+1)->i<=x/\x<i+((t::a).length:Int)/\∃t',(t::a)[(x-i).toNat]?=some t'/\t'.1=1:=by
   intro h;have ⟨h1,h2,t',h3,h4⟩:=ih h;refine⟨by omega,by simp;omega,t',?_,h4⟩;rw[show(x-i).toNat=(x-(i+1)).toNat+1 by omega,List.getElem?_cons_succ];exact h3
  split at h
  ·rename_i ht;rcases List.mem_cons.1 h with rfl|h
   ·exact⟨by omega,by simp;omega,t,by simp,ht⟩
   ·exact key h
  ·exact key h
theorem F6{ts:List DTh}(h:ts.length<=1000):jX ts=some (gZ ts 0,()):=by
 have e:dY gX NN (ts,(ts.length:Int),0,[],())=some (ts,(ts.length:Int),(ts.length:Int),false,gZ ts 0,()):=by
  have:=sJ (f:=gX) (N:=NN) (st:=λk=>(ts,(ts.length:Int),(k:Int),gZ (ts.take k) 0,())) (n:=ts.length) (t:=(ts,(ts.length:Int),(ts.length:Int),false,gZ ts 0,())) (by unfold NN;omega) ?_ ?_
  ·exact this
  ·intro k hk;unfold gX;dsimp only
   (with_reducible refine dF (λZ9=>?_) λZ9=>?_)
   ·rw[dL];simp;obtain⟨x,hx⟩:∃x,ts[k]?=some x:=⟨_,oGE hk⟩;rw[show dJ ts k=some x from hx];simp;have hlen:=uH (ts.take k) 0;rw[oLT]at hlen
    have XY:gZ (ts.take (k+1)) 0=gZ (ts.take k) 0++(if x.1=1 then[(k:Int)]else[]):=by
     rw[List.take_add_one,hx,AG];congr 1;rw[oLT,show 0+((min k ts.length:Nat):Int)=(k:Int) by omega];simp only[Option.toList,gZ]
    refine Ok.bind (P:=(·=(ts,(ts.length:Int),(k:Int),gZ (ts.take (k+1)) 0,()))) ?_ ?_
    ·(with_reducible refine dF (λZX=>?_) λZX=>?_)
     ·refine dH (dU (by simp;omega)) ?_;rw[XY,oIP ZX];exact Ok.ret rfl
     ·rw[XY,oIN ZX,List.append_nil];exact Ok.ret rfl
    ·rintro _ rfl
     (simp (disch:=omega) only [dQ,dZ,dT,dR])
     exact Ok.ret rfl
   ·omega
  ·unfold gX;dsimp only
   (with_reducible refine dF (λZ9=>?_) λZ9=>?_)
   ·omega
   ·rw[List.take_length];exact Ok.ret rfl
 refine eZ ?_;unfold jX;delta dO
 try dsimp only
 rw[e];exact Ok.ret rfl
theorem yp{ow:List Int}{qs:List (List Int)}(h:ib ow qs):ln ow qs=some (ow,qs,()):=by
 have hq4:∀q∈qs,q.length<=4:=λq hq=>h.qlen4 hq;obtain⟨h1,h2,h3,h4⟩:=h
 have e:dY iz NN (qs,(qs.length:Int),0,ow,qs,(),(),ow,[],())=some (qs,(qs.length:Int),(qs.length:Int),false,ow,qs,(),(),ow,qs,()):=by
  have:=sJ (f:=iz) (N:=NN) (st:=λk=>(qs,(qs.length:Int),(k:Int),ow,qs,(),(),ow,qs.take k,())) (n:=qs.length) (t:=(qs,(qs.length:Int),(qs.length:Int),false,ow,qs,(),(),ow,qs,())) (by unfold NN;omega) ?_ ?_
  ·exact this
  ·intro k hk;unfold iz
   (with_reducible refine dF (λZ9=>?_) λZ9=>?_)
   ·rw[dL];refine Ok.get (by omega) λx hx=>?_;have:=hq4 x (dP hx);refine dH (dU (by omega)) (dH (dU (by simp;omega)) ?_)
    (simp (disch:=omega) only [dQ,dZ,dT,dR])
    refine Ok.ret ?_;rw[List.take_add_one,hx];rfl
   ·omega
  ·unfold iz
   (with_reducible refine dF (λZ9=>?_) λZ9=>?_)
   ·omega
   ·rw[List.take_length];exact Ok.ret rfl
 refine eZ ?_;refine dH (dU (by omega)) ?_;rw[show List.append [] ow=ow from rfl];delta dO
 try dsimp only
 rw[e];exact Ok.ret rfl
theorem z0{q:List Int}{x:Int}(h:q.Nodup)(hx:x ∉ q):(q++[x]).Nodup:=by
 grind
theorem dX{α:Type}{l:List α}{i:Nat}{a:α}(h:l[i]?=some a)(f:α->α):List.modify l i f=l.set i (f a):=by
 apply List.ext_getElem?
 grind
theorem f9{α:Type}{l:List α}{i:Nat}(h:i<l.length)(a:α):dJ (l.set i a) i=some a:=by
 show(l.set i a)[i]?=some a
 simp_all
theorem my{α:Type}{l:List α}{i:Nat}(h:i<l.length)(a:α)(f:α->α):List.modify (l.set i a) i f=l.set i (f a):=by
 rw[dX (f9 h a),List.set_set]
theorem km{α:Type}{P:α->Prop}{l:List α}{i:Nat}{a:α}(h:∀x∈l,P x)(ha:P a):∀x∈l.set i a,P x:=by
 grind
theorem MOk.set{n:Int}{ss bs:List Int}{cs Z5:List DCe}{ls Z2:List DLn}{ts:List DTh}(h:MOk n ss bs cs ls ts)(hm:jJ (RK bs ss) Z5 Z2){i:Nat}{t:DTh}(ht:yH (RK bs ss) n t):MOk n ss bs Z5 Z2 (ts.set i t):=
 ⟨h.lay,hm,by rw[List.length_set];exact h.tlen,km h.thr ht⟩
def QU(code:List DIn)(t:DTh)(s:Int)(t':DTh):Prop:=
 (s=-1/\t'.1=1/\((t'.2.2.2.1=t.2.2.2.1/\t'.2.2.1=t.2.2.1+1)\/t'.2.2.2.1=t.2.2.2.1+1))\/(s=2/\t'.1=4/\t'.2.2.2.1=t.2.2.2.1)\/
  (s=1/\t'.1=2/\t'.2.2.2.1=t.2.2.2.1/\∃i:DIn,1<=t'.2.2.1/\code[(t'.2.2.1-1).toNat]?=some i/\i.1=23)
def FH(n key:Int)(code:List DIn)(ss bs:List Int)(ts:List DTh)(i:Nat)(t:DTh)(r:Int×List Int×Int×List DCe×List DLn×List DTh×Unit):Prop:=
 ∃s Z5 Z2 t',r=(s,bs,key,Z5,Z2,ts.set i t',())/\jJ (RK bs ss) Z5 Z2/\yH (RK bs ss) n t'/\QU code t s t'
theorem mQ{n key:Int}{code:List DIn}{ss bs:List Int}{ts:List DTh}{i:Nat}{t t':DTh}{Z5:List DCe}{Z2:List DLn}(hm:jJ (RK bs ss) Z5 Z2)(ht:yH (RK bs ss) n t')(h1:t'.1=1)
 (h:(t'.2.2.2.1=t.2.2.2.1/\t'.2.2.1=t.2.2.1+1)\/t'.2.2.2.1=t.2.2.2.1+1):Ok (some (-1,bs,key,Z5,Z2,ts.set i t',())) (FH n key code ss bs ts i t):=Ok.ret ⟨_,_,_,_,rfl,hm,ht,.inl ⟨rfl,h1,h⟩⟩
theorem mh{n key WJ:Int}{code:List DIn}{ss bs:List Int}{ts:List DTh}{i:Nat}{t:DTh}{Z5:List DCe}{Z2:List DLn}(hm:jJ (RK bs ss) Z5 Z2)(ht:yH (RK bs ss) n t)(hw:0<=WJ/\WJ<=6):
 Ok (some (2,bs,key,Z5,Z2,ts.set i (4,t.2.1,t.2.2.1,t.2.2.2.1,t.2.2.2.2.1,t.2.2.2.2.2.1,WJ,0),())) (FH n key code ss bs ts i t):=Ok.ret ⟨_,_,_,_,rfl,hm,ht.ended hw,.inr (.inl ⟨rfl,rfl,rfl⟩)⟩
theorem g7(op:Int):kX op=some (m7 op||op==22||op==24,()):=by
 unfold kX;rw[xO]
 grind
set_option maxHeartbeats 4000000 in
theorem Pl{n key:Int}{code:List DIn}{ss bs:List Int}{d:List (List Int)}{cs:List DCe}{ls:List DLn}{ts:List DTh}{i:Nat}{t:DTh}(hp:lR code ss d)(h:MOk n ss bs cs ls ts)(ht:ts[i]?=some t)(hs:t.1=1)
 (hc:t.2.2.2.1+1<=n)(hn:n<=1099511627776):Ok (oK code ss d (i:Int) bs key cs ls ts) (FH n key code ss bs ts i t):=by
 have hok:=h.thr t (dP ht);have hm:=h.mem;obtain⟨_,hl,hr,⟨p0,p1⟩,⟨c0,c1⟩,ha,⟨s0,s1⟩,⟨r0,r1⟩,hco⟩:=id hok;obtain⟨st,rs,pc,ct,hd,sa,tr,co⟩:=t;dsimp only at *;subst hs;have Y0:=(oGS ht).1;have hg:dJ ts i=some (1,rs,pc,ct,hd,sa,tr,co):=ht;have e1:∀f:DTh->DTh,List.modify ts i f=ts.set i (f (1,rs,pc,ct,hd,sa,tr,co)):=λf=>dX ht f;have e2:∀x,dJ (ts.set i x) i=some x:=λx=>f9 Y0 x;have e3:∀(x:DTh)(f:DTh->DTh),List.modify (ts.set i x) i f=ts.set i (f x):=λx f=>my Y0 x f
 have eT:∀WJ,fA (i:Nat) WJ ts=some (2,ts.set i (4,rs,pc,ct,hd,sa,WJ,0),()):=λWJ=>by rw[Nb (n:=n) ht,e1]
 have mk:∀{Re:List DCe}{Rc ct' Rf:Int},Re.length=8->(∀c∈Re,m8 (RK bs ss) c)->0<=Rc/\Rc<=255->0<=ct'/\ct'<=n->-1<=Rf/\Rf<=255->yH (RK bs ss) n (1,Re,Rc,ct',hd,Rf,tr,co):=
  λh1 h2 h3 h4 h5=>⟨⟨show(0:Int)<=1 by decide,show(1:Int)<=4 by decide⟩,h1,h2,h3,h4,ha,h5,⟨r0,r1⟩,hco⟩
 unfold oK;rw[dL];delta dO;simp only[hg,oBS]
 (with_reducible refine dF (λZ9=>?_) λZ9=>?_)
 ·rw[eT 2];exact mh hm hok (by decide)
 refine Ok.nat p0 λj hj=>?_;subst hj;have Ze:=hp.clen;refine Ok.get (by omega) λx hx=>?_;obtain⟨op,A,B,C,I⟩:=x;obtain⟨⟨o0,o1⟩,⟨A0,A1,_⟩,⟨B0,B1,_⟩,⟨C0,C1,_⟩,⟨I0,I1,_⟩,hlea,hsys,UY⟩:=hp.ins _ (dP hx);dsimp only at *;obtain⟨A,rfl⟩:∃k:Nat,A=k:=⟨A.toNat,by omega⟩;obtain⟨B,rfl⟩:∃k:Nat,B=k:=⟨B.toNat,by omega⟩;obtain⟨C,rfl⟩:∃k:Nat,C=k:=⟨C.toNat,by omega⟩;obtain⟨I,rfl⟩:∃k:Nat,I=k:=⟨I.toNat,by omega⟩;obtain⟨⟨ta,va⟩,gA⟩:∃c,dJ rs A=some c:=⟨_,oGE (by omega)⟩;obtain⟨⟨tb,vb⟩,gB⟩:∃c,dJ rs B=some c:=⟨_,oGE (by omega)⟩;obtain⟨⟨tc,vc⟩,gC⟩:∃c,dJ rs C=some c:=⟨_,oGE (by omega)⟩;have cA:=hr _ (dP gA);have cB:=hr _ (dP gB);have cC:=hr _ (dP gC);have eR:∀f:DCe->DCe,List.modify rs A f=rs.set A (f (ta,va)):=λf=>dX gA f;have w1:w64 ((j:Int)+1)=(j:Int)+1:=dQ (by omega) (by omega);have wI:wk .u16 (I:Int)=I:=dZ (by omega) (by omega);have Y6:∀{c:DCe},m8 (RK bs ss) c->(rs.set A c).length=8/\∀x∈rs.set A c,m8 (RK bs ss) x:=λhc=>⟨by rw[List.length_set];exact hl,km hr hc⟩;have wc:w64 (ct+1)=ct+1:=dQ (by omega) (by omega);simp only[dL,hg,gA,gB,oBS,w1,wI]
 rcases(show op=0\/op=1\/op=2\/op=15\/op=16\/op=17\/op=18\/op=19\/op=20\/op=21\/op=22\/op=23\/op=24\/(3<=op/\op<=14) by omega)with rfl|rfl|rfl|rfl|rfl|rfl|rfl|rfl|rfl|rfl|rfl|rfl|rfl|⟨q0,q1⟩
 all_goals try simp only[Int.reduceBEq,oCT,oCF,dL,hg,gA,gB,gC,e1,e2,e3,eR,eT,oBS,w1,wI,wc,g7,m7,Bool.or_false,Bool.or_true,Bool.or_self,bne_self_eq_false]
 ·exact mQ hm (mk hl hr (by omega) (by omega) (by omega)) rfl (.inl ⟨rfl,rfl⟩)
 ·exact mQ hm (mk (Y6 (iH (by omega))).1 (Y6 (iH (by omega))).2 (by omega) (by omega) (by omega)) rfl (.inl ⟨rfl,rfl⟩)
 ·exact mQ hm (mk (Y6 cB).1 (Y6 cB).2 (by omega) (by omega) (by omega)) rfl (.inl ⟨rfl,rfl⟩)
 ·have hI:=hlea rfl;have Up:=h.lay.2.1;obtain⟨b,hb⟩:∃b,bs[I]?=some b:=⟨_,oGE (by omega)⟩;obtain⟨z,hz⟩:∃z,ss[I]?=some z:=⟨_,oGE (by omega)⟩;have Yb:=h.lay.2.2 I (by omega);unfold yI at Yb;rw[ff hb,ff hz]at Yb;have hz2:=h.lay.1.2.2 z (dP hz);have wb:wk .u16 b=b:=dZ (by omega) (by omega);have gb:dJ bs I=some b:=hb;simp only[gb,wb,Int.reduceBEq,oCT,oCF,dL,hg,gA,gB,gC,e1,e2,e3,eR,eT,oBS,w1,wI,wc,g7,m7,Bool.or_false,Bool.or_true,Bool.or_self,bne_self_eq_false];have ZX:m8 (RK bs ss) (1,b):=⟨by dsimp only;omega,by dsimp only;omega,by dsimp only;omega,by dsimp only;omega,λ_=>⟨I,b,z,hb,hz,by dsimp only;omega,by dsimp only;omega⟩⟩;exact mQ hm (mk (Y6 ZX).1 (Y6 ZX).2 (by omega) (by omega) (by omega)) rfl (.inl ⟨rfl,rfl⟩)
 ·obtain⟨_,em,t1,x1,e,rfl,ZK,US,UT,VZ⟩:=xA (key:=key) (tag:=tb) (v:=vb) (n:=(I:Int)) (back:=false) h.lay ⟨cB.2.2.1,cB.2.2.2.1⟩ ⟨by omega,by omega⟩;simp only[em,oBS];by_cases hne:e=0
  ·subst hne;have wx:wk .i64 x1=x1:=dT (by have:=ZK.2.2.1;dsimp only at this;omega) (by have:=ZK.2.2.2.1;dsimp only at this;omega);obtain⟨_,el,t2,x2,Va,Vn,rfl,ZB,hm2⟩:=JS (a:=x1) hm ⟨ZK.2.2.1,VZ rfl⟩;simp only[wx,el,Int.reduceBEq,oCT,oCF,dL,hg,gA,gB,gC,e1,e2,e3,eR,eT,oBS,w1,wI,wc,g7,m7,Bool.or_false,Bool.or_true,Bool.or_self,bne_self_eq_false];exact mQ hm2 (mk (Y6 ZB).1 (Y6 ZB).2 (by omega) (by omega) (by omega)) rfl (.inl ⟨rfl,rfl⟩)
  ·simp only[bne_iff_ne.2 hne,oCT];exact mh hm hok ⟨US,UT⟩
 ·obtain⟨_,em,t1,x1,e,rfl,ZK,US,UT,VZ⟩:=xA (key:=key) (tag:=ta) (v:=va) (n:=(I:Int)) (back:=false) h.lay ⟨cA.2.2.1,cA.2.2.2.1⟩ ⟨by omega,by omega⟩;simp only[em,oBS];by_cases hne:e=0
  ·subst hne;have wx:wk .i64 x1=x1:=dT (by have:=ZK.2.2.1;dsimp only at this;omega) (by have:=ZK.2.2.2.1;dsimp only at this;omega);obtain⟨_,el,Va,Vn,rfl,hm2⟩:=uw (a:=x1) (t:=tb) (v:=vb) hm ⟨ZK.2.2.1,VZ rfl⟩ cB;simp only[wx,el,Int.reduceBEq,oCT,oCF,dL,hg,gA,gB,gC,e1,e2,e3,eR,eT,oBS,w1,wI,wc,g7,m7,Bool.or_false,Bool.or_true,Bool.or_self,bne_self_eq_false];exact mQ hm2 (mk hl hr (by omega) (by omega) (by omega)) rfl (.inl ⟨rfl,rfl⟩)
  ·simp only[bne_iff_ne.2 hne,oCT];exact mh hm hok ⟨US,UT⟩
 ·have:=UY (by decide);exact mQ hm (mk hl hr (by omega) (by omega) (by omega)) rfl (.inr rfl)
 ·have:=UY (by decide);by_cases hta:ta=0
  ·subst hta
   cases va==0 with
   |true=>
    simp only[BEq.rfl,Int.reduceBEq,oCT,oCF,dL,hg,gA,gB,gC,e1,e2,e3,eR,eT,oBS,w1,wI,wc,g7,m7,Bool.or_false,Bool.or_true,Bool.or_self,bne_self_eq_false];exact mQ hm (mk hl hr (by omega) (by omega) (by omega)) rfl (.inr rfl)
   |false=>
    simp only[show(false==true)=false from rfl,Int.reduceBEq,oCT,oCF,dL,hg,gA,gB,gC,e1,e2,e3,eR,eT,oBS,w1,wI,wc,g7,m7,Bool.or_false,Bool.or_true,Bool.or_self,bne_self_eq_false];exact mQ hm (mk hl hr (by omega) (by omega) (by omega)) rfl (.inr rfl)
  ·simp only[bne_iff_ne.2 hta,oCT];exact mh hm hok (by decide)
 ·have:=UY (by decide);by_cases hta:ta=0
  ·subst hta
   cases va==0 with
   |true=>
    simp only[show(true==false)=false from rfl,Int.reduceBEq,oCT,oCF,dL,hg,gA,gB,gC,e1,e2,e3,eR,eT,oBS,w1,wI,wc,g7,m7,Bool.or_false,Bool.or_true,Bool.or_self,bne_self_eq_false];exact mQ hm (mk hl hr (by omega) (by omega) (by omega)) rfl (.inr rfl)
   |false=>
    simp only[BEq.rfl,Int.reduceBEq,oCT,oCF,dL,hg,gA,gB,gC,e1,e2,e3,eR,eT,oBS,w1,wI,wc,g7,m7,Bool.or_false,Bool.or_true,Bool.or_self,bne_self_eq_false];exact mQ hm (mk hl hr (by omega) (by omega) (by omega)) rfl (.inr rfl)
  ·simp only[bne_iff_ne.2 hta,oCT];exact mh hm hok (by decide)
 ·have:=UY (by decide);have wj:wk .u16 ((j:Int)+1)=(j:Int)+1:=dZ (by omega) (by omega);rw[wj];exact mQ hm (mk (Y6 (iH (by omega))).1 (Y6 (iH (by omega))).2 (by omega) (by omega) (by omega)) rfl (.inr rfl)
 ·by_cases hta:ta=0
  ·subst hta;have wa:wk .i64 va=va:=dT (by have:=cA.2.2.1;dsimp only at this;omega) (by have:=cA.2.2.2.1;dsimp only at this;omega);have a0:=cA.2.2.1;dsimp only at a0;by_cases hva:va>255
   ·simp only[oDT hva,bne_self_eq_false,oCT,oCF];exact mh hm hok (by decide)
   ·simp only[oDF hva,wa,Int.reduceBEq,oCT,oCF,dL,hg,gA,gB,gC,e1,e2,e3,eR,eT,oBS,w1,wI,wc,g7,m7,Bool.or_false,Bool.or_true,Bool.or_self,bne_self_eq_false];exact mQ hm (mk hl hr (by omega) (by omega) (by omega)) rfl (.inr rfl)
  ·simp only[bne_iff_ne.2 hta,oCT];exact mh hm hok (by decide)
 ·refine Ok.ret ⟨_,_,_,_,rfl,hm,⟨⟨show(0:Int)<=2 by decide,show(2:Int)<=4 by decide⟩,hl,hr,⟨by dsimp only;omega,by dsimp only;omega⟩,⟨c0,by dsimp only;omega⟩,ha,⟨s0,s1⟩,⟨r0,r1⟩,hco⟩,.inr (.inr ⟨rfl,rfl,rfl,(23,(A:Int),(B:Int),(C:Int),(I:Int)),by dsimp only;omega,?_,rfl⟩)⟩;dsimp only;rw[show(j:Int)+1-1=(j:Int) by omega,oTN];exact hx
 ·by_cases hsa:sa=-1
  ·simp only[beq_iff_eq.2 hsa,oCT];exact mh hm hok (by decide)
  ·simp only[oBF hsa,Int.reduceBEq,oCT,oCF,dL,hg,gA,gB,gC,e1,e2,e3,eR,eT,oBS,w1,wI,wc,g7,m7,Bool.or_false,Bool.or_true,Bool.or_self,bne_self_eq_false];exact mQ hm (mk hl hr (by omega) (by omega) (by omega)) rfl (.inr rfl)
 ·obtain⟨_,ed,t1,x1,e,rfl,ZK,US,UT⟩:=Qm (key:=key) (op:=op) h.lay cB cC;have n0:(op==0)=false:=oBF (by omega);have n1:(op==1)=false:=oBF (by omega);have n2:(op==2)=false:=oBF (by omega);have n15:(op==15)=false:=oBF (by omega);have n16:(op==16)=false:=oBF (by omega);have n17:(op==17)=false:=oBF (by omega);have n18:(op==18)=false:=oBF (by omega);have n19:(op==19)=false:=oBF (by omega);have n20:(op==20)=false:=oBF (by omega);have n21:(op==21)=false:=oBF (by omega);have n22:(op==22)=false:=oBF (by omega);have n23:(op==23)=false:=oBF (by omega);have n24:(op==24)=false:=oBF (by omega);simp only[n0,n1,n2,n15,n16,n17,n18,n19,n20,n21,n22,n23,n24,ed,Int.reduceBEq,oCT,oCF,dL,hg,gA,gB,gC,e1,e2,e3,eR,eT,oBS,w1,wI,wc,g7,m7,Bool.or_false,Bool.or_true,Bool.or_self,bne_self_eq_false];by_cases hne:e=0
  ·subst hne;simp only[n18,n19,n20,n21,n22,n24,Int.reduceBEq,oCT,oCF,dL,hg,gA,gB,gC,e1,e2,e3,eR,eT,oBS,w1,wI,wc,g7,m7,Bool.or_false,Bool.or_true,Bool.or_self,bne_self_eq_false];exact mQ hm (mk (Y6 ZK).1 (Y6 ZK).2 (by omega) (by omega) (by omega)) rfl (.inl ⟨rfl,rfl⟩)
  ·simp only[bne_iff_ne.2 hne,oCT];exact mh hm hok ⟨US,UT⟩
theorem yH.mono{K:Int->Prop}{n m:Int}{t:DTh}(h:yH K n t)(hm:n<=m):yH K m t:=⟨h.state,h.len,h.regs,h.pc,⟨h.count.1,by have:=h.count.2;omega⟩,h.handler,h.saved,h.trap,h.code⟩
theorem MOk.mono{n m:Int}{ss bs:List Int}{cs:List DCe}{ls:List DLn}{ts:List DTh}(h:MOk n ss bs cs ls ts)(hm:n<=m):MOk m ss bs cs ls ts:=⟨h.lay,h.mem,h.tlen,λt ht=>(h.thr t ht).mono hm⟩
theorem AA{α:Type}{l:List α}{i:Nat}{a:α}(h:l[i]?=some a):l.set i a=l:=by
 apply List.ext_getElem?
 grind
def Qz(code:List DIn)(s:Int)(t':DTh):Prop:=
 (s=0/\t'.1=1)\/(s=2/\t'.1=4)\/(s=1/\t'.1=2/\∃i:DIn,1<=t'.2.2.1/\code[(t'.2.2.1-1).toNat]?=some i/\i.1=23)
def OH(n key:Int)(code:List DIn)(ss bs:List Int)(ts:List DTh)(i:Nat)(r:List Int×Int×List DCe×List DLn×List DTh×Int×Int×Unit):Prop:=
 ∃s Z5 Z2 t',r=(bs,key,Z5,Z2,ts.set i t',s,0,())/\jJ (RK bs ss) Z5 Z2/\yH (RK bs ss) n t'/\((s=3/\ts[i]?=some t'/\t'.1≠1)\/Qz code s t')
def Qb(i:Nat)(s:Int×Int×(List DIn)×(List (Int))×(List (List (Int)))×Unit×Int×Unit×Unit×Unit×(List (Int))×Int×(List DCe)×(List DLn)×(List DTh)×Unit):Nat:=
 match s.2.2.2.2.2.2.2.2.2.2.2.2.2.2.1[i]? with
 |some t=>((s.2.1-t.2.2.2.1)*256+(255-t.2.2.1)).toNat
 |none=>0
theorem Ej{i:Nat}{a b k:Int}{code:List DIn}{ss bs:List Int}{d:List (List Int)}{cs:List DCe}{ls:List DLn}{ts:List DTh}{t:DTh}(h:ts[i]?=some t):Qb i (a,b,code,ss,d,(),0,(),(),(),bs,k,cs,ls,ts,())=((b-t.2.2.2.1)*256+(255-t.2.2.1)).toNat:=by
 unfold Qb
 simp_all
theorem K3{n key k:Int}{code:List DIn}{ss bs:List Int}{d:List (List Int)}{cs:List DCe}{ls:List DLn}{ts:List DTh}{i:Nat}(hp:lR code ss d)(h:MOk n ss bs cs ls ts)(hn0:0<=n)(hn:n+64<=1099511627776)(hi:i<4)(hk:1<=k/\k<=64):
 Ok (l9 code ss d bs key cs ls ts (i:Int) k) (OH (n+64) key code ss bs ts i):=by
 have Yc:=h.tlen;obtain⟨t,ht⟩:∃t,ts[i]?=some t:=⟨_,oGE (by omega)⟩;have hg:dJ ts i=some t:=ht
 have Y0:i<ts.length:=by omega
 have hok:=h.thr t (dP ht);unfold l9;rw[re hp h (by omega)];simp;rw[oDF (show ¬(i:Int)<0 by omega),oDF (show ¬(i:Int)>=4 by omega),oDF (show ¬k<1 by omega),oDF (show ¬k>64 by omega)];simp only[oBS,oCF,qz h,dL,hg]
 (with_reducible refine dF (λZ9=>?_) λZ9=>?_)
 ·refine Ok.ret ⟨3,cs,ls,t,?_,h.mem,hok.mono (by omega),.inl ⟨rfl,ht,Z9⟩⟩;rw[AA ht]
 have Tm:=hok.count;have hpc:=hok.pc;rw[dQ (x:=t.2.2.2.1+k) (by omega) (by omega)]
 refine Ok.loop (P:=λs'=>∃Z5 Z2 t',s'=((i:Int),t.2.2.2.1+k,code,ss,d,(),0,(),(),(),bs,key,Z5,Z2,ts.set i t',())/\jJ (RK bs ss) Z5 Z2/\yH (RK bs ss) (n+64) t'/\t'.1=1/\t'.2.2.2.1<t.2.2.2.1+k)
  (R:=λr=>∃s Z5 Z2 t',r=(s,0,bs,key,Z5,Z2,ts.set i t',())/\jJ (RK bs ss) Z5 Z2/\yH (RK bs ss) (n+64) t'/\Qz code s t') (m:=Qb i) ⟨cs,ls,t,by rw[AA ht],h.mem,hok.mono (by omega),Z9,by omega⟩ ?_ ?_ ?_
 ·rw[Ej ht];unfold NN;omega
 ·rintro _ ⟨Z5,Z2,t',rfl,hm,Zv,hr,hlt⟩;have ZR:(ts.set i t')[i]?=some t':=f9 Y0 t';unfold pE;dsimp only;refine(Pl hp (((h.mono (show n<=n+64 by omega)).set hm Zv):MOk (n+64) ss bs Z5 Z2 (ts.set i t')) ZR hr (by omega) (by omega)).bind ?_;rintro _ ⟨s,Va,Vn,t2,rfl,hm2,VP,YN⟩;dsimp only;rw[List.set_set]
  (with_reducible refine dF (λZX=>?_) λZX=>?_)
  ·refine Ok.ret ⟨_,_,_,_,rfl,hm2,VP,?_⟩
   rcases YN with⟨q,_⟩|⟨q1,q2,_⟩|⟨q1,q2,_,q3⟩
   ·exact absurd q ZX
   ·exact .inr (.inl ⟨q1,q2⟩)
   ·exact .inr (.inr ⟨q1,q2,q3⟩)
  ·rw[dL];simp only[oBS,f9 Y0];have h0:=VP.count;have h1:=VP.pc;have h2:=Zv.pc
   rcases YN with⟨_,q1,q2⟩|⟨q1,_⟩|⟨q1,_⟩
   ·(with_reducible refine dF (λhcc=>?_) λhcc=>?_)
    ·exact Ok.ret ⟨_,_,_,_,rfl,hm2,VP,.inl ⟨rfl,q1⟩⟩
    ·refine Ok.ret ⟨⟨_,_,_,rfl,hm2,VP,q1,by omega⟩,?_⟩;rw[Ej ZR,Ej (f9 Y0 t2)];omega
   ·omega
   ·omega
 ·rintro _ ⟨s,Z5,Z2,t',rfl,hm,Zv,hs⟩;exact Ok.ret ⟨_,_,_,_,rfl,hm,Zv,.inr hs⟩
def Jl(bs ss:List Int)(a:Int):Nat->Nat->Option (Int×Int)
 |0,_=>none
 |n+1,k=>if bs.getD k 0<=a/\a<bs.getD k 0+ss.getD k 0 then some ((k:Int),a-bs.getD k 0)else Jl bs ss a n (k+1)
def Lv(bs ss:List Int)(a:Int):Option (Int×Int):=Jl bs ss a bs.length 0
theorem Jj{bs ss:List Int}{a r o:Int}:∀{n k:Nat},k+n=bs.length->bs.length=ss.length->Jl bs ss a n k=some (r,o)->∃(j:Nat)(b z:Int),r=j/\o=a-b/\bs[j]?=some b/\ss[j]?=some z/\b<=a/\a<b+z:=by
 intro n
 induction n with
 |zero=>intro k _ _ h;cases h
 |succ n ih=>
  intro k hk hl h;simp only[Jl]at h;split at h
  ·rename_i hh
   injection h with h
   injection h with h1 h2
   refine⟨k,_,_,h1.symm,h2.symm,?_,?_,hh.1,hh.2⟩
   all_goals rw[Kg (by omega)];exact oGE (by omega)
  ·exact ih (by omega) hl h
theorem Jk{bs ss:List Int}{a:Int}:∀{n k:Nat},k+n=bs.length->Jl bs ss a n k=none->∀(j:Nat)(b z:Int),k<=j->bs[j]?=some b->ss[j]?=some z->¬(b<=a/\a<b+z):=by
 intro n
 induction n with
 |zero=>
  simp_all
 |succ n ih=>
  intro k hk h j b z hj hb hz;simp[Jl]at h;split at h
  ·cases h
  ·rename_i hh;by_cases hjk:j=k
   ·simp_all
   ·exact ih (by omega) h j b z (by omega) hb hz
theorem xr{bs ss:List Int}{a r o:Int}(hl:bs.length=ss.length)(h:Lv bs ss a=some (r,o)):∃(j:Nat)(b z:Int),r=j/\o=a-b/\bs[j]?=some b/\ss[j]?=some z/\b<=a/\a<b+z:=Jj (by omega) hl h
theorem Jm{bs ss:List Int}{a:Int}(h:RK bs ss a):∃r o,Lv bs ss a=some (r,o):=by
 cases e:Lv bs ss a with
 |some x=>exact⟨x.1,x.2,rfl⟩
 |none=>
  have ⟨j,b,z,h1,h2,h3,h4⟩:=h;exact absurd ⟨h3,h4⟩ (Jk (by omega) e j b z (by omega) h1 h2)
theorem zT{bs ss:List Int}{key a:Int}(h:LV bs ss)(ha:W16 a):fj bs key ss a=some (match Lv bs ss a with|some (r,o)=>(r,o,true,())|none=>(0,0,false,())):=by
 obtain⟨hs,hl,hr⟩:=h;obtain⟨a0,a1⟩:=ha;have Wd:=hs.2.1
 have Q8:∀(n k N:Nat),k+n=bs.length->n<N->dY eM N (ss,a,bs,(bs.length:Int),(k:Int),bs,key,0,0,())=some (match Jl bs ss a n k with|some (r,o)=>.inl (true,r,o,())|none=>.inr (ss,a,bs,(bs.length:Int),(bs.length:Int),false,bs,key,0,0,())):=by
  intro n
  induction n with
  |zero=>
   intro k N hk hN;obtain⟨N,rfl⟩:∃M,N=M+1:=⟨N-1,by omega⟩
   obtain rfl:k=bs.length:=by omega
   have e:eM (ss,a,bs,(bs.length:Int),(bs.length:Int),bs,key,0,0,())=some (.inr (.inr (ss,a,bs,(bs.length:Int),(bs.length:Int),false,bs,key,0,0,()))):=by
    refine eZ ?_;unfold eM;dsimp only
    (with_reducible refine dF (λZ9=>?_) λZ9=>?_)
    ·omega
    ·exact Ok.ret rfl
   simp only[dY,e,oBS,Jl]
  |succ n ih=>
   intro k N hk hN;obtain⟨N,rfl⟩:∃M,N=M+1:=⟨N-1,by omega⟩;obtain⟨b,hb⟩:∃b,bs[k]?=some b:=⟨_,oGE (by omega)⟩;obtain⟨z,hz⟩:∃z,ss[k]?=some z:=⟨_,oGE (by omega)⟩;have hz2:=hs.2.2 z (dP hz);have Vk:=hr k (by omega);unfold yI at Vk;rw[ff hb,ff hz]at Vk;by_cases hh:b<=a/\a<b+z
   ·have e:eM (ss,a,bs,(bs.length:Int),(k:Int),bs,key,0,0,())=some (.inr (.inl (true,(k:Int),a-b,()))):=by
     refine eZ ?_;unfold eM;dsimp only;rw[oDT (show(k:Int)<bs.length by omega),dL];simp only[oCT,oBS,show dJ bs k=some b from hb,show dJ ss k=some z from hz];rw[oDT (show a>=b by omega),dQ (x:=b+z) (by omega) (by omega),oDT hh.2,dQ (x:=a-b) (by omega) (by omega)];exact Ok.ret rfl
    simp only[dY,e,oBS,Jl,ff hb,ff hz,oIP hh]
   ·have e:eM (ss,a,bs,(bs.length:Int),(k:Int),bs,key,0,0,())=some (.inl (ss,a,bs,(bs.length:Int),((k+1:Nat):Int),bs,key,0,0,())):=by
     refine eZ ?_;unfold eM;dsimp only;rw[oDT (show(k:Int)<bs.length by omega),dL];simp only[oCT,oBS,show dJ bs k=some b from hb,show dJ ss k=some z from hz];rw[dQ (x:=b+z) (by omega) (by omega)];by_cases h1:a>=b
     ·rw[oDT h1,oDF (show ¬a<b+z by omega)];simp only[oCT,oCF];rw[dQ (x:=(k:Int)+1) (by omega) (by omega)];exact Ok.ret rfl
     ·rw[oDF h1];simp only[oCF];rw[dQ (x:=(k:Int)+1) (by omega) (by omega)];exact Ok.ret rfl
    simp only[dY,e,oBS,Jl,ff hb,ff hz,oIN hh];exact ih (k+1) N (by omega) (by omega)
 unfold fj Lv;delta dO
 try dsimp only
 rw[show dY eM NN (ss,a,bs,(bs.length:Int),0,bs,key,0,0,())=_ from Q8 bs.length 0 NN (by omega) (by unfold NN;omega)]
 cases Jl bs ss a bs.length 0 with
 |some x=>rfl
 |none=>rfl
def rz(bs ss:List Int)(key:Int)(c:DCe):DCn:=
 if c.1=0 then(0,c.2,0,0)else if c.1=2 then(2,wk .u16 (c.2-key),0,0)else match Lv bs ss c.2 with|some (r,o)=>(1,0,r,o)|none=>(1,0,-1,c.2)
theorem Am{K:Int->Prop}{bs ss:List Int}{key:Int}{c:DCe}(h:LV bs ss)(hc:m8 K c):j5 bs key ss c.1 c.2=some ((rz bs ss key c).1,(rz bs ss key c).2.1,(rz bs ss key c).2.2.1,(rz bs ss key c).2.2.2,()):=by
 have ⟨c0,c1,c2,c3,_⟩:=hc;unfold j5 rz;rw[dT (by omega) (by omega)];dsimp only;rw[zT h ⟨c2,c3⟩]
 rcases(show c.1=0\/c.1=1\/c.1=2 by omega)with e|e|e<;>rw[e]
 ·rfl
 ·simp
  cases Lv bs ss c.2 with
  |some x=>rfl
  |none=>rfl
 ·rfl
theorem jM(x:Int):W16 (wk .u16 x):=oF x
theorem Ky{bs ss:List Int}{key:Int}{c:DCe}(h:LV bs ss)(hc:m8 (RK bs ss) c):Pr ss (rz bs ss key c):=by
 have ⟨c0,c1,c2,c3,c4⟩:=hc;unfold rz
 rcases(show c.1=0\/c.1=1\/c.1=2 by omega)with e|e|e
 ·rw[oIP e];exact .inl ⟨.inl rfl,rfl,rfl,c2,c3⟩
 ·rw[oIN (by omega),oIN (by omega)];have ⟨r,o,hro⟩:=Jm (c4 e);rw[hro];obtain⟨j,b,z,rfl,rfl,h1,h2,h3,h4⟩:=xr h.2.1 hro;exact .inr ⟨rfl,rfl,by simp_all,z,by simp_all,by simp_all,by dsimp only;omega⟩
 ·rw[oIN (by omega),oIP e];exact .inl ⟨.inr rfl,rfl,rfl,jM _⟩
theorem wW{K:Int->Prop}{bs ss:List Int}{key:Int}{c:DCe}(hc:m8 K c):(rz bs ss key c).1=c.1/\(c.1=0->(rz bs ss key c).2.1=c.2):=by
 have ⟨c0,c1,_⟩:=hc;unfold rz
 rcases(show c.1=0\/c.1=1\/c.1=2 by omega)with e|e|e
 ·simp_all
 ·rw[oIN (by omega),oIN (by omega)]
  cases Lv bs ss c.2 with
  |some x=>simp_all
  |none=>simp_all
 ·simp_all
def HF(cs:List DCe)(ls:List DLn)(a:Int):DCe:=
 match ls[(a/4%4).toNat]? with
 |some x=>if x.1=a/4 then x.2.2.getD (a%4).toNat (0,0)else cs.getD a.toNat (0,0)
 |none=>(0,0)
theorem getD_some{α:Type}{l:List α}{k:Nat}{d x:α}(h:l[k]?=some x):l.getD k d=x:=by simp_all
theorem JP{K:Int->Prop}{cs:List DCe}{ls:List DLn}{a:Int}(h:jJ K cs ls)(ha:0<=a/\a<512):nu cs ls a=some ((HF cs ls a).1,(HF cs ls a).2,())/\m8 K (HF cs ls a):=by
 obtain⟨a0,a1⟩:=ha;obtain⟨h1,h2,h3,h4,_⟩:=id h;unfold nu HF;rw[Int.tdiv_eq_ediv_of_nonneg a0,dQ (x:=a/4) (by omega) (by omega)];dsimp only;rw[Int.tmod_eq_emod_of_nonneg (show 0<=a/4 by omega),Int.tmod_eq_emod_of_nonneg a0];obtain⟨i,hi⟩:∃i:Nat,a/4%4=i:=⟨(a/4%4).toNat,by omega⟩;rw[hi,dL,oTN];obtain⟨x,hx⟩:∃x,ls[i]?=some x:=⟨_,oGE (by omega)⟩;simp only[oBS,show dJ ls i=some x from hx,hx];by_cases hq:x.1=a/4
 ·rcases h4 i x hx with⟨g,_,_⟩|⟨_,_,_,g4,g5⟩
  ·omega
  ·obtain⟨j,hj⟩:∃j:Nat,a%4=j:=⟨(a%4).toNat,by omega⟩;obtain⟨y,hy⟩:∃y,x.2.2[j]?=some y:=⟨_,oGE (by omega)⟩;rw[hj,dL,oTN,oIP hq,getD_some hy,beq_iff_eq.2 hq];simp only[oCT,oBS,show dJ x.2.2 j=some y from hy];exact⟨trivial,g5 y (dP hy)⟩
 ·obtain⟨j,rfl⟩:∃j:Nat,a=j:=⟨a.toNat,by omega⟩;obtain⟨y,hy⟩:∃y,cs[j]?=some y:=⟨_,oGE (by omega)⟩;rw[oIN hq,oBF hq,dL,oTN,getD_some hy];simp only[oCF,oBS,show dJ cs j=some y from hy];exact⟨trivial,h2 y (dP hy)⟩
def kB(call:Int):List Int:=
 if call=0\/call=8\/call=9\/call=11\/call=12 then[78]else if call=1\/call=2 then[72,80,78]else if call=3 then[78,78]else if call=4 then[72]else if call=5 then[72,78]
 else if call=10 then[78,88]else if call=13\/call=14 then[78,80,78]else[]
theorem JY(call:Int):(kB call).length<=3:=by
 unfold kB
 repeat' split
 all_goals simp
def BOk(b:ByteArray)(l:List Int):Prop:=Ax b=(l.length:Int)/\∀j:Nat,zM b j=l[j]?
theorem QP:BOk (bytes []) []:=⟨rfl,λj=>rfl⟩
theorem QO{a:Nat}(h:a<256):BOk (bytes [a]) [(a:Int)]:=⟨rfl,λj=>by
 match j with
 |0=>show some (((UInt8.ofNat a).toNat:Nat):Int)=some (a:Int);simp;omega
 |n+1=>rfl⟩
theorem QN{a b:Nat}(h:a<256)(hb:b<256):BOk (bytes [a,b]) [(a:Int),(b:Int)]:=⟨rfl,λj=>by
 match j with
 |0=>show some (((UInt8.ofNat a).toNat:Nat):Int)=some (a:Int);simp;omega
 |1=>show some (((UInt8.ofNat b).toNat:Nat):Int)=some (b:Int);simp;omega
 |n+2=>rfl⟩
theorem QM{a b c:Nat}(h:a<256)(hb:b<256)(hc:c<256):BOk (bytes [a,b,c]) [(a:Int),(b:Int),(c:Int)]:=⟨rfl,λj=>by
 match j with
 |0=>show some (((UInt8.ofNat a).toNat:Nat):Int)=some (a:Int);simp;omega
 |1=>show some (((UInt8.ofNat b).toNat:Nat):Int)=some (b:Int);simp;omega
 |2=>show some (((UInt8.ofNat c).toNat:Nat):Int)=some (c:Int);simp;omega
 |n+3=>rfl⟩
theorem qC{call:Int}(h:0<=call/\call<=15):call=0\/call=1\/call=2\/call=3\/call=4\/call=5\/call=6\/call=7\/call=8\/call=9\/call=10\/call=11\/call=12\/call=13\/call=14\/call=15:=by omega
theorem AP{call:Int}(h:0<=call/\call<=15):∃b,jV call=some (b,())/\BOk b (kB call):=by
 rcases qC h with rfl|rfl|rfl|rfl|rfl|rfl|rfl|rfl|rfl|rfl|rfl|rfl|rfl|rfl|rfl|rfl
 all_goals first
  |exact⟨_,rfl,QP⟩
  |exact⟨_,rfl,QO (by decide)⟩
  |exact⟨_,rfl,QN (by decide) (by decide)⟩
  |exact⟨_,rfl,QM (by decide) (by decide) (by decide)⟩
def HY(k t:Int):Bool:=if k=78 then t==0 else if k=72 then t==2 else if k=80 then t==1 else true
theorem Kk(k t:Int):lq k t=some (HY k t,()):=by
 unfold lq HY;by_cases h1:k=78
 ·simp[h1]
 ·by_cases h2:k=72
  ·simp[h2]
  ·by_cases h3:k=80
   ·simp[h3]
   ·simp[h1,h2,h3,oBF h1,oBF h2,oBF h3]
def kH(call:Int):Int:=if call=1\/call=13 then 1 else if call=2\/call=14 then 2 else 0
theorem ox{call:Int}(h:0<=call/\call<=15):g9 call=some (kH call,()):=by
 rcases qC h with rfl|rfl|rfl|rfl|rfl|rfl|rfl|rfl|rfl|rfl|rfl|rfl|rfl|rfl|rfl|rfl<;>rfl
theorem q7{call:Int}(h:0<=call/\call<=15):gD call=some (((kB call).length:Int),()):=by
 have ⟨b,e,hb⟩:=AP h;unfold gD;rw[oDF (show ¬call<0 by omega),oDF (show ¬call>15 by omega),e];simp[hb.1]
theorem It{bs ss:List Int}{key t v n:Int}(h:LV bs ss)(hv:W16 v)(hn:0<=n/\n<=65535):Ok (kW bs key ss t v n) λr=>∃a e,r=(a,e,())/\(e=0->t=1/\a=v/\∃(j:Nat)(b z:Int),bs[j]?=some b/\ss[j]?=some z/\b<=v/\v+n<=b+z/\v<b+z):=by
 obtain⟨v0,v1⟩:=hv;unfold kW
 (with_reducible refine dF (λZ9=>?_) λZ9=>?_)
 ·exact Ok.ret ⟨_,_,rfl,λh=>by omega⟩
 rw[dT (x:=v) (by omega) (by omega)];dsimp only;rw[zT h ⟨v0,v1⟩];simp only[oBS]
 cases e:Lv bs ss v with
 |none=>exact Ok.ret ⟨_,_,rfl,λh=>by omega⟩
 |some x=>
  obtain⟨r,o⟩:=x;obtain⟨j,b,z,rfl,rfl,h1,h2,h3,h4⟩:=xr h.2.1 e;have hj:=(oGS h1).1;have hr:=h.2.2 j hj;unfold yI at hr;rw[ff h1,ff h2]at hr;rw[oDF (show ¬n<0 by omega),dL];simp only[oNT,oCF,oBS,show dJ ss j=some z from h2];rw[dQ (x:=z-(v-b)) (by omega) (by omega)]
  (with_reducible refine dF (λZX=>?_) λZX=>?_)
  ·exact Ok.ret ⟨_,_,rfl,λh=>by omega⟩
  ·exact Ok.ret ⟨_,_,rfl,λ_=>⟨Z9,dT (by omega) (by omega),j,b,z,h1,h2,h3,by omega,h4⟩⟩
structure KQ (call:Int)(m:Int)(bs ss:List Int)(rs:List DCe):Prop where
 fit:∀(j:Nat) k c,(kB call)[j]?=some k->rs[j]?=some c->HY k c.1=true
 buf:0<kH call->∃p q,rs[1]?=some p/\rs[2]?=some q/\q.2<=16/\p.1=1/\∃(j:Nat)(b z:Int),bs[j]?=some b/\ss[j]?=some z/\b<=p.2/\p.2+q.2<=b+z
 code:call=10\/call=12->∃c,rs[0]?=some c/\c.2<m
theorem FA{call m:Int}{bs ss:List Int}{rs:List DCe}(h:KQ call m bs ss rs):Ok (some ((0:Int),())) λr=>∃e,r=(e,())/\0<=e/\e<=6/\(e=0->KQ call m bs ss rs):=Ok.ret ⟨0,rfl,by decide,by decide,λ_=>h⟩
theorem yw{call m:Int}{bs ss:List Int}{rs:List DCe}:Ok (some ((6:Int),())) λr=>∃e,r=(e,())/\0<=e/\e<=6/\(e=0->KQ call m bs ss rs):=Ok.ret ⟨6,rfl,by decide,by decide,λh=>absurd h (by decide)⟩
theorem Id{n key:Int}{code:List DIn}{ss bs:List Int}{d:List (List Int)}{cs:List DCe}{ls:List DLn}{ts:List DTh}{i:Nat}{t:DTh}{x:DIn}(h:MOk n ss bs cs ls ts)(ht:ts[i]?=some t)(hp1:1<=t.2.2.1)
 (hx:code[(t.2.2.1-1).toNat]?=some x)(hc:0<=x.2.2.2.2/\x.2.2.2.2<=15):Ok (l8 code ss d bs key cs ls ts (i:Int)) λr=>∃e,r=(e,())/\0<=e/\e<=6/\(e=0->KQ x.2.2.2.2 code.length bs ss t.2.1):=by
 have hok:=h.thr t (dP ht);obtain⟨_,hl,hr,⟨p0,p1⟩,_⟩:=id hok;obtain⟨o,A,B,C,call⟩:=x;dsimp only at hc⊢;obtain⟨b,eb,ZJ,ZU⟩:=AP hc;have Xw:=JY call;obtain⟨st,rs,pc,rest⟩:=t;dsimp only at *;obtain⟨j,hj⟩:∃j:Nat,pc-1=j:=⟨(pc-1).toNat,by omega⟩;rw[hj,oTN]at hx;unfold l8;rw[dL];simp only[oBS,show dJ ts i=some (st,rs,pc,rest)from ht];rw[dQ (x:=pc-1) (by omega) (by omega),hj,dL];simp only[oBS,show dJ code j=some (o,A,B,C,call)from hx,eb,ZJ];obtain⟨c0,hc0⟩:∃c,rs[0]?=some c:=⟨_,oGE (by omega)⟩;obtain⟨c1,ZK⟩:∃c,rs[1]?=some c:=⟨_,oGE (by omega)⟩;obtain⟨c2,ZB⟩:∃c,rs[2]?=some c:=⟨_,oGE (by omega)⟩;have v0:=hr c0 (dP hc0);have v1:=hr c1 (dP ZK);have v2:=hr c2 (dP ZB);have g0:dJ rs 0=some c0:=hc0;have g1:dJ rs 1=some c1:=ZK;have g2:dJ rs 2=some c2:=ZB
 obtain⟨y,e,hy⟩:=gy (f:=lH) (n:=NN) (s:=(call,b,((kB call).length:Int),0,code,ss,d,bs,key,cs,ls,ts,st,rs,pc,rest.1,rest.2.1,rest.2.2.1,rest.2.2.2.1,rest.2.2.2.2,()))
  (P:=λs'=>∃q:Nat,s'=(call,b,((kB call).length:Int),(q:Int),code,ss,d,bs,key,cs,ls,ts,st,rs,pc,rest.1,rest.2.1,rest.2.2.1,rest.2.2.2.1,rest.2.2.2.2,())/\q<=(kB call).length/\∀(j:Nat) k c,j<q->(kB call)[j]?=some k->rs[j]?=some c->HY k c.1=true)
  (R:=λr=>r=.inl (6,())\/(∃q,r=.inr (call,b,((kB call).length:Int),q,false,code,ss,d,bs,key,cs,ls,ts,st,rs,pc,rest.1,rest.2.1,rest.2.2.1,rest.2.2.2.1,rest.2.2.2.2,())/\∀(j:Nat) k c,(kB call)[j]?=some k->rs[j]?=some c->HY k c.1=true))
  (m:=λs'=>(s'.2.2.1-s'.2.2.2.1).toNat) ⟨0,rfl,by omega,λj k c hj=>by omega⟩ (by unfold NN;dsimp only;omega) (by
   rintro _ ⟨q,rfl,hq,Z0⟩;unfold lH;dsimp only
   (with_reducible refine dF (λZ9=>?_) λZ9=>?_)
   ·rw[dL];obtain⟨k,hk⟩:∃k,(kB call)[q]?=some k:=⟨_,oGE (by omega)⟩;obtain⟨c,hcq⟩:∃c,rs[q]?=some c:=⟨_,oGE (by omega)⟩;simp only[oBS,ZU q,hk,show dJ rs q=some c from hcq,Kk]
    (with_reducible refine dF (λZX=>?_) λZX=>?_)
    ·exact Ok.ret (.inl rfl)
    ·rw[dQ (x:=(q:Int)+1) (by omega) (by omega)];refine Ok.ret ⟨⟨q+1,rfl,by omega,λj' k' c' ZQ h1 h2=>?_⟩,by dsimp only;omega⟩;by_cases hjq:j'=q
     ·subst hjq;rw[hk]at h1;rw[hcq]at h2;cases h1;cases h2;exact ZX
     ·exact Z0 j' k' c' (by omega) h1 h2
   ·refine Ok.ret (.inr ⟨_,rfl,λj k c h1 h2=>Z0 j k c ?_ h1 h2⟩);have:=(oGS h1).1
    omega)
 rw[e];rcases hy with rfl|⟨q,rfl,Z0⟩
 ·exact yw
 dsimp only;rw[ox hc];delta dO;simp only[oBS,g0,g1,g2];rw[dT (x:=c2.2) (by have:=v2.2.2.1;omega) (by have:=v2.2.2.2.1;omega),dT (x:=c0.2) (by have:=v0.2.2.1;omega) (by have:=v0.2.2.2.1;omega)]
 have ZV:(0<kH call->∃p q,rs[1]?=some p/\rs[2]?=some q/\q.2<=16/\p.1=1/\∃(j:Nat)(b z:Int),bs[j]?=some b/\ss[j]?=some z/\b<=p.2/\p.2+q.2<=b+z)->Ok ((bif(call==10)then(some ((decide (c0.2>=(code.length:Int))),()))else
  bif(call==12)then(some ((decide (c0.2>=(code.length:Int))),()))else some (false,()):Option (Bool×Unit)).bind λ(x35,_)=>bif x35 then(some ((6:Int),()))else some (0,()))
  λr=>∃e,r=(e,())/\0<=e/\e<=6/\(e=0->KQ call code.length bs ss rs):=by
  intro hbuf;by_cases q10:call=10
  ·simp only[beq_iff_eq.2 q10,oCT,oBS]
   (with_reducible refine dF (λZX=>?_) λZX=>?_)
   ·exact yw
   ·exact FA ⟨Z0,hbuf,λ_=>⟨c0,hc0,by omega⟩⟩
  ·by_cases q12:call=12
   ·simp only[oBF q10,beq_iff_eq.2 q12,oCT,oCF,oBS]
    (with_reducible refine dF (λZX=>?_) λZX=>?_)
    ·exact yw
    ·exact FA ⟨Z0,hbuf,λ_=>⟨c0,hc0,by omega⟩⟩
   ·simp only[oBF q10,oBF q12,oCF,oBS];exact FA ⟨Z0,hbuf,λh=>by omega⟩
 (with_reducible refine dF (λZ9=>?_) λZ9=>?_)
 ·refine(It (t:=c1.1) (v:=c1.2) (n:=c2.2) h.lay ⟨v1.2.2.1,v1.2.2.2.1⟩ ⟨v2.2.2.1,v2.2.2.2.1⟩).bind ?_;rintro _ ⟨a,e,rfl,he⟩;dsimp only
  (with_reducible refine dF (λZX=>?_) λZX=>?_)
  ·exact yw
  obtain⟨w1,_,j,b',z,w2,w3,w4,w5,w6⟩:=he ZX
  (with_reducible refine dF (λhcc=>?_) λhcc=>?_)
  ·exact yw
  exact ZV λ_=>⟨c1,c2,ZK,ZB,by omega,w1,j,b',z,w2,w3,w4,w5⟩
 ·exact ZV λh=>by omega
structure sH (n:Int)(ss:List Int)(i stop trap count pc call:Int)(args data:List DCn):Prop where
 hthr:0<=i/\i<4
 hstop:0<=stop/\stop<=3
 htrap:0<=trap/\trap<=6
 hcnt:0<=count/\count<=n
 hpc:0<=pc/\pc<=255
 hcall:0<=call/\call<=15
 hargs:args.length<=3/\∀c∈args,Pr ss c
 hdata:data.length<=16/\∀c∈data,Pr ss c
 hkind:stop=1->args.length=(kB call).length/\∀(j:Nat) k a,(kB call)[j]?=some k->args[j]?=some a->HY k a.1=true
 hbuf:stop=1->kH call=2->∃a,args[2]?=some a/\a.2.1<=16
def Qw(stop trap:Int)(t':DTh):Prop:=(stop=0/\t'.1=1)\/(stop=1/\t'.1=2)\/(stop=2/\t'.1=4/\t'.2.2.2.2.2.2.1=trap)\/(stop=3/\t'.1≠1)
theorem LS{bs ss:List Int}(h:LV bs ss){r r':Nat}{b z b' z' o o':Int}(hne:r≠r')(hb:bs[r]?=some b)(hz:ss[r]?=some z)(Y8:bs[r']?=some b')(V4:ss[r']?=some z')(h0:0<=o)(h1:o<z)(h0':0<=o')(Uk:o'<z'):b+o≠b'+o':=by
 obtain⟨_,hl,hg⟩:=h;have l1:=(oGS hb).1;have l2:=(oGS Y8).1;have g1:=hg r l1;have g2:=hg r' l2;unfold yI at g1 g2;rw[ff hb,ff hz]at g1;rw[ff Y8,ff V4]at g2;by_cases hlt:r'<r
 ·have:=g1.2.2 r' hlt;rw[ff Y8,ff V4]at this;omega
 ·have:=g2.2.2 r (by omega);rw[ff hb,ff hz]at this;omega
theorem Ot{bs ss:List Int}{key:Int}{p q:DCe}(h:LV bs ss)(hp:m8 (RK bs ss) p)(hq:m8 (RK bs ss) q)(hp1:p.1=1){j:Nat}{b z:Int}(hb:bs[j]?=some b)(hz:ss[j]?=some z)(h1:b<=p.2)(h2:p.2+q.2<=b+z):
 ∃z',ss[(rz bs ss key p).2.2.1.toNat]?=some z'/\(rz bs ss key p).2.2.2+q.2<=z':=by
 obtain⟨_,_,_,_,Vk⟩:=hp;obtain⟨r,o,e⟩:=Jm (Vk hp1);obtain⟨j',b',z',rfl,rfl,k1,k2,k3,k4⟩:=xr h.2.1 e;have hq0:=hq.2.2.1
 have hc:rz bs ss key p=(1,0,(j':Int),p.2-b'):=by
  unfold rz;rw[oIN (by omega),oIN (by omega),e]
 rw[hc];refine⟨z',by simpa using k2,?_⟩;show p.2-b'+q.2<=z';by_cases hjj:j'=j
 ·subst hjj;rw[k1]at hb;rw[k2]at hz
  injection hb with hb
  injection hz with hz
  omega
 ·by_cases hq1:q.2=0
  ·omega
  ·exact absurd (show b'+(p.2-b')=b+(p.2-b) by omega) (LS h hjj k1 k2 hb hz (by omega) (by omega) (by omega) (by omega))
def KN(ss:List Int)(call:Int)(args:List DCn):Prop:=(kH call=2->∃a q z,args[1]?=some a/\args[2]?=some q/\ss[a.2.2.1.toNat]?=some z/\a.2.2.2+q.2.1<=z)/\(call=10\/call=12->∃a,args[0]?=some a/\a.1=0/\a.2.1<=255)
def GM(n key:Int)(ss bs:List Int)(ts:List DTh)(i:Nat)(r:(List (Int))×Int×(List DCe)×(List DLn)×(List DTh)×Int×Int×Int×Int×Int×Int×(List DCn)×(List DCn)×Int×Unit):Prop:=
 ∃Z5 Z2 t' stop trap call args data,r=(bs,key,Z5,Z2,ts.set i t',(i:Int),stop,trap,t'.2.2.2.1,t'.2.2.1,call,args,data,0,())/\jJ (RK bs ss) Z5 Z2/\yH (RK bs ss) n t' /\
  sH n ss i stop trap t'.2.2.2.1 t'.2.2.1 call args data/\Qw stop trap t'/\(stop=3->ts[i]?=some t')/\(stop=1->KN ss call args)
theorem wL{n:Int}{ss bs:List Int}{i:Nat}{t':DTh}{stop trap:Int}(hi:i<4)(ht:yH (RK bs ss) n t')(hs:0<=stop/\stop<=3)(hs1:stop≠1)(htr:0<=trap/\trap<=6):sH n ss i stop trap t'.2.2.2.1 t'.2.2.1 0 [] []:=
 ⟨⟨by omega,by omega⟩,hs,htr,ht.count,ht.pc,by decide,⟨by decide,ek⟩,⟨by decide,ek⟩,λh=>absurd h hs1,λh=>absurd h hs1⟩
theorem tp{α β:Type}(f:α->β){l:List α}{k:Nat}{x:α}(h:l[k]?=some x):(l.take k).map f++[f x]=(l.take (k+1)).map f:=by
 rw[List.take_add_one,h];simp
theorem yR{β:Type}(f:Nat->β)(k:Nat):(List.range k).map f++[f k]=(List.range (k+1)).map f:=by
 rw[List.range_succ];simp
set_option maxHeartbeats 4000000 in
theorem xd{n key k:Int}{code:List DIn}{ss bs:List Int}{d:List (List Int)}{cs:List DCe}{ls:List DLn}{ts:List DTh}{i:Nat}(hp:lR code ss d)(h:MOk n ss bs cs ls ts)(hn0:0<=n)(hn:n+64<=1099511627776)(hi:i<4)(hk:1<=k/\k<=64):
 Ok (lr code ss d bs key cs ls ts (i:Int) k) (GM (n+64) key ss bs ts i):=by
 have Yc:=h.tlen
 have Y0:i<ts.length:=by omega
 unfold lr;refine(K3 hp h hn0 hn hi hk).bind ?_;rintro _ ⟨s,Z5,Z2,t',rfl,hm,ZR,hs⟩;have hM:MOk (n+64) ss bs Z5 Z2 (ts.set i t'):=(h.mono (show n<=n+64 by omega)).set hm ZR;have Tq:(ts.set i t')[i]?=some t':=f9 Y0 t';dsimp only;simp only[bne_self_eq_false,oCF,dL,oBS,f9 Y0]
 rcases hs with⟨rfl,hs1,YN⟩|⟨rfl,hs1⟩|⟨rfl,hs1⟩|⟨rfl,hs1,x,YN,RE,Wd⟩
 ·exact Ok.ret ⟨_,_,_,_,_,_,_,_,rfl,hm,ZR,wL hi ZR (by decide) (by decide) (by decide),.inr (.inr (.inr ⟨rfl,YN⟩)),λ_=>hs1,λh=>absurd h (by decide)⟩
 ·exact Ok.ret ⟨_,_,_,_,_,_,_,_,rfl,hm,ZR,wL hi ZR (by decide) (by decide) (by decide),.inl ⟨rfl,hs1⟩,λh=>absurd h (by decide),λh=>absurd h (by decide)⟩
 ·exact Ok.ret ⟨_,_,_,_,_,_,_,_,rfl,hm,ZR,wL hi ZR (by decide) (by decide) ZR.trap,.inr (.inr (.inl ⟨rfl,hs1,rfl⟩)),λh=>absurd h (by decide),λh=>absurd h (by decide)⟩
 ·have X4:=hp.ins x (dP RE);have hcall:0<=x.2.2.2.2/\x.2.2.2.2<=15:=⟨X4.imm.1,X4.sys Wd⟩;obtain⟨_,ec,e,rfl,US,UT,R8⟩:=Id (key:=key) (d:=d) hM Tq YN RE hcall;obtain⟨o,A,B,C,call⟩:=x;dsimp only at hcall R8;have Xw:=JY call;have hl8:=ZR.len;obtain⟨j,hj⟩:∃j:Nat,t'.2.2.1-1=j:=⟨(t'.2.2.1-1).toNat,by omega⟩;have hpc:=ZR.pc;rw[hj,oTN]at RE;rw[dQ (x:=t'.2.2.1-1) (by omega) (by omega),hj];simp only[Int.reduceBEq,oCT,oCF,ec,oBS,dL,show dJ code j=some (o,A,B,C,call)from RE,q7 hcall];by_cases hne:e=0
  ·subst hne;obtain⟨Z0,hbuf,Yd⟩:=R8 rfl
   have e1:dY iB NN (((kB call).length:Int),0,code,ss,d,(),0,(),(),(),0,0,0,0,0,0,(),(),bs,key,Z5,Z2,ts.set i t',t'.1,t'.2.1,t'.2.2.1,t'.2.2.2.1,t'.2.2.2.2.1,t'.2.2.2.2.2.1,t'.2.2.2.2.2.2.1,t'.2.2.2.2.2.2.2,(i:Int),1,0,t'.2.2.2.1,t'.2.2.1,call,[],(),())=
    some (((kB call).length:Int),((kB call).length:Int),false,code,ss,d,(),0,(),(),(),0,0,0,0,0,0,(),(),bs,key,Z5,Z2,ts.set i t',t'.1,t'.2.1,t'.2.2.1,t'.2.2.2.1,t'.2.2.2.2.1,t'.2.2.2.2.2.1,t'.2.2.2.2.2.2.1,t'.2.2.2.2.2.2.2,(i:Int),1,0,t'.2.2.2.1,t'.2.2.1,call,(t'.2.1.take (kB call).length).map (rz bs ss key),(),()):=by
    refine sJ (f:=iB) (N:=NN) (st:=λq=>(((kB call).length:Int),(q:Int),code,ss,d,(),0,(),(),(),0,0,0,0,0,0,(),(),bs,key,Z5,Z2,ts.set i t',t'.1,t'.2.1,t'.2.2.1,t'.2.2.2.1,t'.2.2.2.2.1,t'.2.2.2.2.2.1,t'.2.2.2.2.2.2.1,t'.2.2.2.2.2.2.2,(i:Int),1,0,t'.2.2.2.1,t'.2.2.1,call,(t'.2.1.take q).map (rz bs ss key),(),())) (n:=(kB call).length) (by unfold NN;omega) ?_ ?_
    ·intro q hq;unfold iB;dsimp only;rw[oDT (show(q:Int)<(kB call).length by omega),dL];simp only[oCT,oBS];refine Ok.get (by omega) λc hc=>?_;rw[Am h.lay (ZR.regs c (dP hc))];simp only[oBS];refine dH (dU (by simp;omega)) ?_;rw[dQ (x:=(q:Int)+1) (by omega) (by omega)];refine Ok.ret ?_;rw[<- tp (rz bs ss key) hc];rfl
    ·unfold iB;dsimp only;rw[oDF (show ¬((kB call).length:Int)<(kB call).length by omega)];exact Ok.ret rfl
   have hargs:((t'.2.1.take (kB call).length).map (rz bs ss key)).length=(kB call).length:=by rw[List.length_map,oLT];omega
   have Sl:∀(j:Nat) a,((t'.2.1.take (kB call).length).map (rz bs ss key))[j]?=some a->∃c,t'.2.1[j]?=some c/\a=rz bs ss key c:=by
    intro j a ha;rw[List.getElem?_map]at ha
    cases hc:(t'.2.1.take (kB call).length)[j]? with
    |none=>rw[hc]at ha;cases ha
    |some c=>
     rw[hc]at ha
     injection ha with ha
     refine⟨c,?_,ha.symm⟩;rw[List.getElem?_take]at hc;split at hc
     ·exact hc
     ·cases hc
   have UO:∀c∈(t'.2.1.take (kB call).length).map (rz bs ss key),Pr ss c:=by
    intro c hc;obtain⟨c',Xd,rfl⟩:=List.mem_map.1 hc;exact Ky h.lay (ZR.regs c' (List.mem_of_mem_take Xd))
   have TY:∀(j:Nat) k a,(kB call)[j]?=some k->((t'.2.1.take (kB call).length).map (rz bs ss key))[j]?=some a->HY k a.1=true:=by
    intro j k a hk ha;obtain⟨c,hc,rfl⟩:=Sl j a ha;rw[(wW (ZR.regs c (dP hc))).1];exact Z0 j k c hk hc
   have RZ:kH call=2->∃a,((t'.2.1.take (kB call).length).map (rz bs ss key))[2]?=some a/\a.2.1<=16:=by
    intro hb;obtain⟨p,q,hp1,Y5,T5,_⟩:=hbuf (by omega)
    have hkk:(kB call)[2]?=some 78:=by
     have:call=2\/call=14:=by unfold kH at hb;split at hb<;>first|omega|(split at hb<;>omega)
     rcases this with rfl|rfl<;>rfl
    have hf:=Z0 2 78 q hkk Y5;have hl3:=(oGS hkk).1;refine⟨rz bs ss key q,?_,?_⟩
    ·rw[List.getElem?_map,List.getElem?_take,oIP hl3,Y5];rfl
    ·have hq:=(wW (bs:=bs) (ss:=ss) (key:=key) (ZR.regs q (dP Y5))).2 (by unfold HY at hf;simpa using hf);rw[hq];exact T5
   simp only[e1,bne_self_eq_false,oCF,oBS,ox hcall]
   have TR:KN ss call ((t'.2.1.take (kB call).length).map (rz bs ss key)):=by
    refine⟨λhb=>?_,λhcc=>?_⟩
    ·obtain⟨p,q,hp1,Y5,T5,Tt,jr,b,z,ZJ,hz1,ZU,Vf⟩:=hbuf (by omega)
     have hkk:(kB call)[1]?=some 80/\(kB call)[2]?=some 78:=by
      have:call=2\/call=14:=by unfold kH at hb;split at hb<;>first|omega|(split at hb<;>omega)
      rcases this with rfl|rfl<;>exact⟨rfl,rfl⟩
     have hl3:=(oGS hkk.2).1;have hf:=Z0 2 78 q hkk.2 Y5;have hq:=(wW (bs:=bs) (ss:=ss) (key:=key) (ZR.regs q (dP Y5))).2 (by unfold HY at hf;simpa using hf);obtain⟨z',g1,g2⟩:=Ot (key:=key) h.lay (ZR.regs p (dP hp1)) (ZR.regs q (dP Y5)) Tt ZJ hz1 ZU Vf;refine⟨rz bs ss key p,rz bs ss key q,z',by rw[List.getElem?_map,List.getElem?_take,oIP (by omega),hp1];rfl,by rw[List.getElem?_map,List.getElem?_take,oIP hl3,Y5];rfl,g1,by rw[hq];exact g2⟩
    ·obtain⟨c,hc0,Ze⟩:=Yd hcc
     have hkk:(kB call)[0]?=some 78:=by rcases hcc with rfl|rfl<;>rfl
     have Wl:=(oGS hkk).1;have hf:=Z0 0 78 c hkk hc0;have hq:=wW (bs:=bs) (ss:=ss) (key:=key) (ZR.regs c (dP hc0));refine⟨rz bs ss key c,by rw[List.getElem?_map,List.getElem?_take,oIP Wl,hc0];rfl,?_,?_⟩
     ·rw[hq.1];unfold HY at hf;simpa using hf
     ·rw[hq.2 (by unfold HY at hf;simpa using hf)];have:=hp.clen;omega
   have ZV:∀data:List DCn,data.length<=16->(∀c∈data,Pr ss c)->Ok (some (bs,key,Z5,Z2,ts.set i t',(i:Int),(1:Int),(0:Int),t'.2.2.2.1,t'.2.2.1,call,(t'.2.1.take (kB call).length).map (rz bs ss key),data,(0:Int),())) (GM (n+64) key ss bs ts i):=
    λdata h1 h2=>Ok.ret ⟨_,_,_,_,_,_,_,_,rfl,hm,ZR,⟨⟨by omega,by omega⟩,by decide,by decide,ZR.count,ZR.pc,hcall,⟨by omega,UO⟩,⟨h1,h2⟩,λ_=>⟨hargs,TY⟩,λ_=>RZ⟩,.inr (.inl ⟨rfl,hs1⟩),λh=>absurd h (by decide),λ_=>TR⟩
   by_cases ZJ:kH call=1
   ·obtain⟨p,q,hp1,Y5,T5,_,jr,b,z,R0,hbz2,hbz3,hbz4⟩:=hbuf (by omega);have hp':=ZR.regs p (dP hp1);have Wc:=ZR.regs q (dP Y5);have hjr:=(oGS R0).1;have SJ:=h.lay.2.2 jr hjr;unfold yI at SJ;rw[ff R0,ff hbz2]at SJ;obtain⟨m,hqm⟩:∃m:Nat,q.2=m:=⟨q.2.toNat,by have:=Wc.2.2.1;omega⟩
    have e2:dY iA NN ((m:Int),0,code,ss,d,(),0,(),(),(),0,0,0,0,0,0,(),(),bs,key,Z5,Z2,ts.set i t',t'.1,t'.2.1,t'.2.2.1,t'.2.2.2.1,t'.2.2.2.2.1,t'.2.2.2.2.2.1,t'.2.2.2.2.2.2.1,t'.2.2.2.2.2.2.2,(i:Int),1,0,t'.2.2.2.1,t'.2.2.1,call,(t'.2.1.take (kB call).length).map (rz bs ss key),[],())=
     some ((m:Int),(m:Int),false,code,ss,d,(),0,(),(),(),0,0,0,0,0,0,(),(),bs,key,Z5,Z2,ts.set i t',t'.1,t'.2.1,t'.2.2.1,t'.2.2.2.1,t'.2.2.2.2.1,t'.2.2.2.2.2.1,t'.2.2.2.2.2.2.1,t'.2.2.2.2.2.2.2,(i:Int),1,0,t'.2.2.2.1,t'.2.2.1,call,(t'.2.1.take (kB call).length).map (rz bs ss key),(List.range m).map (λj:Nat=>rz bs ss key (HF Z5 Z2 (p.2+(j:Int)))),()):=by
     refine sJ (f:=iA) (N:=NN) (st:=λq=>((m:Int),(q:Int),code,ss,d,(),0,(),(),(),0,0,0,0,0,0,(),(),bs,key,Z5,Z2,ts.set i t',t'.1,t'.2.1,t'.2.2.1,t'.2.2.2.1,t'.2.2.2.2.1,t'.2.2.2.2.2.1,t'.2.2.2.2.2.2.1,t'.2.2.2.2.2.2.2,(i:Int),1,0,t'.2.2.2.1,t'.2.2.1,call,(t'.2.1.take (kB call).length).map (rz bs ss key),(List.range q).map (λj:Nat=>rz bs ss key (HF Z5 Z2 (p.2+(j:Int)))),())) (n:=m) (by unfold NN;omega) ?_ ?_
     ·intro v hv;unfold iA;dsimp only;have Tt:=hp'.2.2.1;have hp01:=hp'.2.2.2.1;rw[oDT (show(v:Int)<m by omega)];simp only[oCT,oBS,show dJ t'.2.1 1=some p from hp1];rw[dT (x:=p.2) (by omega) (by omega),dQ (x:=p.2+v) (by omega) (by omega)];obtain⟨Ru,Rw⟩:=JP (a:=p.2+v) hm ⟨by omega,by omega⟩;rw[Ru];simp only[oBS];rw[Am h.lay Rw];simp only[oBS];refine dH (dU (by simp;omega)) ?_;rw[dQ (x:=(v:Int)+1) (by omega) (by omega)];refine Ok.ret ?_;rw[<- yR];rfl
     ·unfold iA;dsimp only;rw[oDF (show ¬(m:Int)<m by omega)];exact Ok.ret rfl
    simp only[ZJ,BEq.rfl,oCT,show dJ t'.2.1 2=some q from Y5,oBS];rw[dT (x:=q.2) (by omega) (by omega),hqm,e2];simp only[oBS];refine ZV _ (by rw[List.length_map,List.length_range];omega) ?_;intro c hc;obtain⟨v,hv,rfl⟩:=List.mem_map.1 hc;have hv:=List.mem_range.1 hv;have Tt:=hp'.2.2.1;exact Ky h.lay (JP (a:=p.2+v) hm ⟨by omega,by omega⟩).2
   ·simp only[oBF ZJ,oCF];exact ZV [] (by decide) ek
  ·unfold kO i8;simp only[bne_iff_ne.2 hne,oCT];rw[dU (show 4<=1000/\0+t'.2.1.length<=1000000 by omega)];simp only[oCT,oBS,dL,f9 Y0,my Y0];exact Ok.ret ⟨_,_,_,_,_,_,_,_,rfl,hm,ZR.ended ⟨US,UT⟩,wL hi (ZR.ended ⟨US,UT⟩) (by decide) (by decide) ⟨US,UT⟩,.inr (.inr (.inl ⟨rfl,rfl,rfl⟩)),λh=>absurd h (by decide),λh=>absurd h (by decide)⟩
theorem EJ{a b:Int}:mmR false a b<=a/\mmR false a b<=b/\(mmR false a b=a\/mmR false a b=b):=by
 unfold mmR;simp;omega
theorem n5{α:Type}{l:List α}{i j:Nat}(h:i≠j)(a:α):(l.set i a)[j]?=l[j]?:=by
 simp_all
theorem OK.setFile{d:List (List DCn)}{o:DOp}{f:Nat}{x y:List DCn}(h:OK d o)(hf:d[f]?=some x)(Wg:x.length<=y.length):OK (d.set f y) o:=by
 rcases h with h|⟨h1,z,h2,h3,h4⟩
 ·exact .inl h
 ·refine .inr ⟨h1,?_⟩;by_cases e:f=o.1.toNat
  ·subst e;rw[hf]at h2;cases h2;exact⟨y,f9 (oGS hf).1 y,h3,by omega⟩
  ·simp_all
theorem fH.setFile{ss:List Int}{d:List (List DCn)}{os:List DOp}{f:Nat}{x y:List DCn}(h:fH ss d os)(hf:d[f]?=some x)(h64:y.length<=64)(hc:∀c∈y,Pr ss c)(Wg:x.length<=y.length):fH ss (d.set f y) os:=
 ⟨by rw[List.length_set];exact h.dlen,km h.flen h64,km h.cells hc,h.olen,λo ho=>(h.opens o ho).setFile hf Wg⟩
theorem fH.setOpen{ss:List Int}{d:List (List DCn)}{os:List DOp}{i:Nat}{o:DOp}(h:fH ss d os)(ho:OK d o):fH ss d (os.set i o):=
 ⟨h.dlen,h.flen,h.cells,by rw[List.length_set];exact h.olen,km h.opens ho⟩
theorem AK{ss:List Int}{d:List (List DCn)}{os:List DOp}{h:Int}(hF:fH ss d os):∃b,gL d os h=some (b,())/\(b=true->∃(j f:Nat)(o:DOp)(x:List DCn),h=j/\j<8/\os[j]?=some o/\o.1=f/\d[f]?=some x/\0<=o.2.1/\o.2.1<=x.length):=by
 have:Ok (gL d os h) λr=>∃b,r=(b,())/\(b=true->∃(j f:Nat)(o:DOp)(x:List DCn),h=j/\j<8/\os[j]?=some o/\o.1=f/\d[f]?=some x/\0<=o.2.1/\o.2.1<=x.length):=by
  unfold gL;delta dO
  (with_reducible refine dF (λZ9=>?_) λZ9=>?_)
  ·(with_reducible refine dF (λZX=>?_) λZX=>?_)
   ·refine Ok.nat (by omega) λj hj=>?_;have h8:=hF.olen;refine Ok.get (by omega) λo ho=>?_;refine Ok.ret ⟨_,rfl,λhb=>?_⟩
    rcases hF.opens o (dP ho)with⟨h1,_⟩|⟨h1,x,h2,h3,h4⟩
    ·simp_all
    ·exact⟨j,o.1.toNat,o,x,hj,by omega,ho,by omega,h2,h3,h4⟩
   ·exact Ok.ret ⟨_,rfl,λh=>by cases h⟩
  ·exact Ok.ret ⟨_,rfl,λh=>by cases h⟩
 obtain⟨_,e,b,rfl,hb⟩:=this;exact⟨b,e,hb⟩
theorem tP{ss:List Int}{d:List (List DCn)}{os:List DOp}(h:fH ss d os):gf d os=some (d,os,()):=
 copy17_ok (by have:=h.dlen;omega) (λx hx=>by have:=h.flen x hx;omega) (by have:=h.olen;omega)
theorem zH{ss:List Int}{d:List (List DCn)}{os:List DOp}{h:Int}{l:List DCn}(hs:yM ss)(hF:fH ss d os)(hl:l.length<=16)(WS:∀c∈l,Pr ss c):
 Ok (lX d os h l) λr=>∃d' Y1 n b,r=(d',Y1,n,b,())/\fH ss d' Y1/\0<=n/\n<=16:=by
 obtain⟨b,eo,hb⟩:=AK (h:=h) hF;unfold lX;rw[tP hF];simp only[oBS,eo]
 cases b with
 |false=>
  simp only[Bool.not_false,oCT,oBS];exact Ok.ret ⟨_,_,_,_,rfl,hF,by decide,by decide⟩
 |true=>
  obtain⟨j,f,o,x,rfl,hj,ho,hof,hx,o0,o1⟩:=hb rfl;have hg:dJ os j=some o:=ho;have VA:dJ d f=some x:=hx;have hjl:=(oGS ho).1;have Zg:=(oGS hx).1;have Ub:=hF.flen x (dP hx);simp only[oNT,oCF,dL,oBS,hg]
  cases hw:o.2.2 with
  |false=>
   simp only[Bool.not_false,oCT,oBS];exact Ok.ret ⟨_,_,_,_,rfl,hF,by decide,by decide⟩
  |true=>
   delta dO;simp only[oNT,oCF,oBS,mA (n:=(l.length:Int)) hs WS (by omega) (by omega),dL,hg,hof,VA];rw[dQ (x:=64-o.2.1) (by omega) (by omega)];obtain⟨m1,m2,m3⟩:=EJ (a:=(l.length:Int)) (b:=64-o.2.1);generalize mmR false (l.length:Int) (64-o.2.1)=k at m1 m2 m3
   refine Ok.loop (P:=λs'=>∃(i:Nat)(y:List DCn),s'=(l,j,k,k,(i:Int),(),(),d,f,os,y,())/\(i:Int)<=k/\(∀c∈y,Pr ss c)/\x.length<=y.length/\o.2.1+i<=y.length/\y.length<=64)
    (R:=λr=>∃y:List DCn,r=(l,j,k,k,k,false,(),(),d,f,os,y,())/\(∀c∈y,Pr ss c)/\x.length<=y.length/\o.2.1+k<=y.length/\y.length<=64) (m:=λs'=>(k-s'.2.2.2.2.1).toNat) ⟨0,x,rfl,by omega,hF.cells x (dP hx),by omega,by omega,Ub⟩ (by unfold NN;dsimp only;omega) ?_ ?_
   ·rintro _ ⟨i,y,rfl,hi,hy,Wg,hoy,Uc⟩;unfold pD;dsimp only
    (with_reducible refine dF (λZ9=>?_) λZ9=>?_)
    ·delta dO;simp only[hg,oBS,dL];rw[dQ (x:=o.2.1+i) (by omega) (by omega)];obtain⟨c,hc⟩:∃c,l[i]?=some c:=⟨_,oGE (by omega)⟩;have ZC:dJ l i=some c:=hc;have Us:=WS c (dP hc);simp only[ZC,oBS];refine Ok.bind (P:=λr=>∃y':List DCn,r=(l,j,k,k,(i:Int),(),(),d,f,os,y',())/\(∀c∈y',Pr ss c)/\x.length<=y'.length/\o.2.1+i+1<=y'.length/\y'.length<=64) ?_ ?_
     ·(with_reducible refine dF (λZX=>?_) λZX=>?_)
      ·refine Ok.nat (by omega) λq hq=>?_;refine Ok.get (by omega) λ_ hz=>?_;refine Ok.get (by omega) λ_ _=>?_;rw[dX hz];exact Ok.ret ⟨_,rfl,km hy Us,by rw[List.length_set];omega,by rw[List.length_set];omega,by rw[List.length_set];omega⟩
      ·refine dH (dU (by simp;omega)) ?_;exact Ok.ret ⟨_,rfl,gU hy (all_cons Us ek),by rw[fq];omega,by rw[fq,List.length_singleton];omega,by rw[fq,List.length_singleton];omega⟩
     ·rintro _ ⟨y',rfl,g1,g2,g3,g4⟩;dsimp only;rw[dQ (x:=(i:Int)+1) (by omega) (by omega)];exact Ok.ret ⟨⟨i+1,y',rfl,by omega,g1,g2,by omega,g4⟩,by dsimp only;omega⟩
    ·obtain rfl:(i:Int)=k:=by omega
     exact Ok.ret ⟨y,rfl,hy,Wg,hoy,Uc⟩
   ·rintro _ ⟨y,rfl,hy,Wg,hoy,Uc⟩;dsimp only;simp only[hg,oBS,hof,dL,VA];refine dH (by simp) ?_;rw[dQ (x:=o.2.1+k) (by omega) (by omega),dX hx,dX ho];refine Ok.ret ⟨_,_,_,_,rfl,(hF.setFile hx Uc hy Wg).setOpen (.inr ⟨by dsimp only;omega,y,?_,by dsimp only;omega,by dsimp only;omega⟩),by omega,by omega⟩;dsimp only;rw[hof,oTN];exact f9 Zg y
theorem Cy{ss:List Int}{d:List (List DCn)}{os:List DOp}{h n:Int}(hF:fH ss d os)(hn:0<=n/\n<=65535):
 Ok (nh d os h n) λr=>(∃d' Y1,r=.inl (d',Y1,(),false,())/\fH ss d' Y1)\/(∃d' Y1 l,r=.inr (d',Y1,l,true,())/\fH ss d' Y1/\(l.length:Int)<=n/\l.length<=64/\∀c∈l,Pr ss c):=by
 obtain⟨b,eo,hb⟩:=AK (h:=h) hF;unfold nh;rw[tP hF];simp only[oBS,eo]
 cases b with
 |false=>
  exact Ok.ret (.inl ⟨_,_,rfl,hF⟩)
 |true=>
  obtain⟨j,f,o,x,rfl,hj,ho,hof,hx,o0,o1⟩:=hb rfl;have hg:dJ os j=some o:=ho;have VA:dJ d f=some x:=hx;have Ub:=hF.flen x (dP hx);rw[oDF (show ¬n<0 by omega)];simp only[oNT,oCF,dL,oBS,hg]
  cases hw:o.2.2 with
  |true=>exact Ok.ret (.inl ⟨_,_,rfl,hF⟩)
  |false=>
   delta dO;simp only[oCF,dL,oBS,hg,hof,VA];rw[dQ (x:=(x.length:Int)-o.2.1) (by omega) (by omega)];obtain⟨m1,m2,m3⟩:=EJ (a:=n) (b:=(x.length:Int)-o.2.1);generalize mmR false n ((x.length:Int)-o.2.1)=k at m1 m2 m3;rw[dQ (x:=o.2.1+k) (by omega) (by omega)];refine Ok.nat o0 λp hp=>?_;refine Ok.nat (by omega) λq hq=>?_;refine dH (by unfold gY;simp;omega) ?_
   have S0:(lT x p (Nat.sub q p)).length=q-p:=by
    unfold lT;rw[oLT,List.length_drop];show min (q-p) _=q-p;omega
   refine dH (dU (by omega)) ?_;rw[dX ho];refine Ok.ret (.inr ⟨_,_,_,rfl,hF.setOpen (.inr ⟨by dsimp only;omega,x,by dsimp only;rw[hof,oTN];exact hx,by dsimp only;omega,by dsimp only;omega⟩),?_,?_,?_⟩)
   ·rw[fq,S0];simp;omega
   ·rw[fq,S0];simp;omega
   ·refine gU ek λc hc=>hF.cells x (dP hx) c ?_;unfold lT at hc;exact List.mem_of_mem_drop (List.mem_of_mem_take hc)
theorem Al{ss:List Int}{d:List (List DCn)}{os:List DOp}{h:Int}(hF:fH ss d os):Ok (lY d os h) λr=>∃d' Y1 b,r=(d',Y1,b,())/\fH ss d' Y1:=by
 have ⟨b,eo,hb⟩:=AK (h:=h) hF;unfold lY;rw[tP hF];simp only[eo]
 cases b with
 |false=>exact Ok.ret ⟨_,_,_,rfl,hF⟩
 |true=>
  obtain⟨j,f,o,x,rfl,hj,ho,hof,hx,o0,o1⟩:=hb rfl;have hg:dJ os j=some o:=ho;simp only[dL,oBS,hg];rw[dX ho];exact Ok.ret ⟨_,_,_,rfl,hF.setOpen (.inl ⟨rfl,rfl,rfl⟩)⟩
theorem Cw{ss:List Int}{d:List (List DCn)}{os:List DOp}{h n:Int}(hF:fH ss d os):Ok (ng d os h n) λr=>∃d' Y1 b,r=(d',Y1,b,())/\fH ss d' Y1:=by
 obtain⟨b,eo,hb⟩:=AK (h:=h) hF;unfold ng;rw[tP hF];simp only[eo]
 cases b with
 |false=>
  exact Ok.ret ⟨_,_,_,rfl,hF⟩
 |true=>
  obtain⟨j,f,o,x,rfl,hj,ho,hof,hx,o0,o1⟩:=hb rfl;have hg:dJ os j=some o:=ho;have VA:dJ d f=some x:=hx;delta dO;simp only[oNT,oCF,dL,oBS,hg,hof,VA];by_cases hn:n<0
  ·simp only[oDT hn,oCT,oBS];exact Ok.ret ⟨_,_,_,rfl,hF⟩
  ·simp only[oDF hn,oCF,oBS]
   (with_reducible refine dF (λZ9=>?_) λZ9=>?_)
   ·exact Ok.ret ⟨_,_,_,rfl,hF⟩
   ·simp only[dL,oBS,hg];rw[dX ho];exact Ok.ret ⟨_,_,_,rfl,hF.setOpen (.inr ⟨by dsimp only;omega,x,by simp_all,by dsimp only;omega,by dsimp only;omega⟩)⟩
theorem Gd{ss:List Int}{d:List (List DCn)}{os:List DOp}{file mode:Int}(hF:fH ss d os):Ok (ni d os file mode) λr=>∃d' Y1 h,r=(d',Y1,h,())/\fH ss d' Y1/\-1<=h/\h<=7:=by
 have h8:=hF.olen;have hd4:=hF.dlen;unfold ni;rw[tP hF];simp only[oBS];refine Ok.loop (P:=λs'=>∃i:Nat,s'=(file,mode,(i:Int),d,os,(),(),d,os,())/\i<=8) (R:=λr=>∃i:Nat,r=(file,mode,(i:Int),false,d,os,(),(),d,os,())/\i<=8) (m:=λs'=>(8-s'.2.2.1).toNat) ⟨0,rfl,by omega⟩ (by unfold NN;dsimp only;omega) ?_ ?_
 ·rintro _ ⟨i,rfl,hi⟩;unfold pZ;delta dO;simp only[h8,dL,oBS]
  (with_reducible refine dF (λZ9=>?_) λZ9=>?_)
  ·refine Ok.get (by omega) λo ho=>?_
   (with_reducible refine dF (λZX=>?_) λZX=>?_)
   ·rw[dQ (x:=(i:Int)+1) (by omega) (by omega)];exact Ok.ret ⟨⟨i+1,rfl,by omega⟩,by dsimp only;omega⟩
   ·exact Ok.ret ⟨i,rfl,hi⟩
  ·exact Ok.ret ⟨i,rfl,hi⟩
 rintro _ ⟨i,rfl,hi⟩;delta dO;simp only[h8];have bad:fH ss d os/\(-1:Int)<=-1/\(-1:Int)<=7:=⟨hF,by decide,by decide⟩;refine Ok.bind (P:=λr=>(∃b:Bool,r=(file,mode,(i:Int),b,(),(),d,os,())/\(b=false->0<=file/\file<d.length/\i<8))) ?_ ?_
 ·(with_reducible refine dF (λZ9=>?_) λZ9=>?_)
  ·exact Ok.ret ⟨true,rfl,λh=>by cases h⟩
  (with_reducible refine dF (λZX=>?_) λZX=>?_)
  ·exact Ok.ret ⟨true,rfl,λh=>by cases h⟩
  (with_reducible refine dF (λhcc=>?_) λhcc=>?_)
  ·exact Ok.ret ⟨true,rfl,λh=>by cases h⟩
  (with_reducible refine dF (λWM=>?_) λWM=>?_)
  ·exact Ok.ret ⟨true,rfl,λh=>by cases h⟩
  exact Ok.ret ⟨_,rfl,λh=>⟨by omega,by omega,by rw[beq_eq_false_iff_ne]at h;omega⟩⟩
 rintro _ ⟨b,rfl,hb⟩;dsimp only
 cases b with
 |true=>exact Ok.ret ⟨_,_,_,rfl,bad⟩
 |false=>
  obtain⟨f0,f1,hi8⟩:=hb rfl;obtain⟨f,rfl⟩:∃f:Nat,file=f:=⟨file.toNat,by omega⟩;obtain⟨x,hx⟩:∃x,d[f]?=some x:=⟨_,oGE (by omega)⟩;obtain⟨o,ho⟩:∃o,os[i]?=some o:=⟨_,oGE (by omega)⟩;have VA:dJ d f=some x:=hx;have hg:dJ os i=some o:=ho;have Zg:=(oGS hx).1;have Y0:=(oGS ho).1;simp only[oCF,dL,oBS,VA,hg];by_cases h1:mode=1
  ·subst h1;simp only[BEq.rfl,oCT];rw[dX hx];simp only[h8]
   refine Ok.loop (P:=λs'=>∃(q:Nat)(Y1:List DOp),s'=((f:Int),1,(i:Int),((8:Nat):Int),(q:Int),(),(),d.set f [],Y1,())/\q<=8/\Y1.length=8/\(∀(j:Nat) o,j<q->Y1[j]?=some o->OK (d.set f []) o)/\∀j:Nat,q<=j->Y1[j]?=os[j]?)
    (R:=λr=>∃(z:Int)(Y1:List DOp),r=((f:Int),1,(i:Int),((8:Nat):Int),z,false,(),(),d.set f [],Y1,())/\fH ss (d.set f []) Y1) (m:=λs'=>(8-s'.2.2.2.2.1).toNat) ⟨0,os,rfl,by omega,h8,λj o hj=>by omega,λ_ _=>rfl⟩ (by unfold NN;dsimp only;omega) ?_ ?_
   ·rintro _ ⟨q,Y1,rfl,hq,YG,ha,hr⟩;unfold pY;dsimp only
    (with_reducible refine dF (λZ9=>?_) λZ9=>?_)
    ·obtain⟨o',Zb⟩:∃o',Y1[q]?=some o':=⟨_,oGE (by omega)⟩;have TS:dJ Y1 q=some o':=Zb;have hop:=hF.opens o' (dP (by rw[<- hr q (by omega)];exact Zb));simp only[dL,oBS,TS];refine Ok.bind (P:=λr=>∃o2:DOp,OK (d.set f []) o2/\r=((f:Int),1,(i:Int),((8:Nat):Int),(q:Int),(),(),d.set f [],Y1.set q o2,())) ?_ ?_
     ·by_cases hof:o'.1=f
      ·simp only[beq_iff_eq.2 hof,oCT];rw[dX Zb];exact Ok.ret ⟨_,.inr ⟨by dsimp only;omega,[],by dsimp only;rw[hof,oTN];exact f9 Zg [],by dsimp only;omega,by simp⟩,rfl⟩
      ·simp only[oBF hof,oCF];refine Ok.ret ⟨o',?_,by rw[AA Zb]⟩;rcases hop with h|⟨g1,z,g2,g3⟩
       ·exact .inl h
       ·exact .inr ⟨g1,z,by rw[n5 (by omega)];exact g2,g3⟩
     ·rintro _ ⟨o2,hop2,rfl⟩;dsimp only;rw[dQ (x:=(q:Int)+1) (by omega) (by omega)];refine Ok.ret ⟨⟨q+1,_,rfl,by omega,by rw[List.length_set];exact YG,λj o hj hjo=>?_,λj hj=>?_⟩,by dsimp only;omega⟩
      ·by_cases e:q=j
       ·subst e;rw[show(Y1.set q o2)[q]?=some o2 from f9 (by omega) o2]at hjo;cases hjo;exact hop2
       ·rw[n5 e]at hjo;exact ha j o (by omega) hjo
      ·rw[n5 (by omega)];exact hr j (by omega)
    ·refine Ok.ret ⟨_,_,rfl,⟨by rw[List.length_set];exact hd4,km hF.flen (by simp),km hF.cells ek,YG,λo' Zb=>?_⟩⟩;obtain⟨j,hj⟩:=List.getElem?_of_mem Zb;have:=(oGS hj).1;exact ha j o' (by omega) hj
   ·rintro _ ⟨z,Y1,rfl,Tl⟩;have YG:=Tl.olen;obtain⟨o',Zb⟩:∃o',Y1[i]?=some o':=⟨_,oGE (by omega)⟩;have TS:dJ Y1 i=some o':=Zb;simp only[dL,oBS,TS,show((1:Int)==2)=false from rfl,oCF];rw[dX Zb];exact Ok.ret ⟨_,_,_,rfl,Tl.setOpen (.inr ⟨by dsimp only;omega,[],by dsimp only;rw[oTN];exact f9 Zg [],by dsimp only;omega,by simp⟩),by omega,by omega⟩
  ·simp only[oBF h1,oCF];rw[dX ho];by_cases h2:mode=2
   ·subst h2;simp only[BEq.rfl,oCT,oBS,f9 Y0,my Y0];exact Ok.ret ⟨_,_,_,rfl,hF.setOpen (.inr ⟨by dsimp only;omega,x,by dsimp only;rw[oTN];exact hx,by dsimp only;omega,by dsimp only;omega⟩),by omega,by omega⟩
   ·simp only[oBF h2,oCF,oBS];exact Ok.ret ⟨_,_,_,rfl,hF.setOpen (.inr ⟨by dsimp only;omega,x,by dsimp only;rw[oTN];exact hx,by dsimp only;omega,by dsimp only;omega⟩),by omega,by omega⟩
theorem fk(n:Int)(b:Bool):∃v,d7 n b=some (0,v,0,0,(),-1,false,())/\W16 v:=by
 cases b with
 |true=>exact⟨_,rfl,jM _⟩
 |false=>exact⟨_,rfl,jM _⟩
theorem Na(n:Int)(b:Bool):∃v,d7 n b=some (0,v,0,0,(),-1,false,())/\W16 v/\(b=false->v=65535)/\(b=true->0<=n->n<=1000->v≠65535):=by
 unfold d7
 cases b with
 |true=>exact⟨_,rfl,jM _,(λh=>by cases h),λ_ h0 h1=>by rw[dZ h0 (by omega)];omega⟩
 |false=>exact⟨_,rfl,jM _,λ_=>by decide,(λh=>by cases h)⟩
theorem fW{ss:List Int}{v:Int}(h:W16 v):Pr ss (0,v,0,0):=.inl ⟨.inl rfl,rfl,rfl,h⟩
theorem MN{ss:List Int}{v:Int}(h:W16 v):Pr ss (2,v,0,0):=.inl ⟨.inr rfl,rfl,rfl,h⟩
theorem Jc{ss:List Int}{us:List DOu}{sk:Int}{l:List DCn}(hu:us.length<=200)(ho:∀(i:Nat) x,us[i]?=some x->OV ss i x)(hl:l.length<=16)(WS:∀c∈l,Pr ss c):
 Ok (jx us sk l) λr=>∃Yj n b,r=(Yj,n,b,())/\Yj.length<=200/\∀(i:Nat) x,Yj[i]?=some x->OV ss i x:=by
 have hc:iw us=some (us,()):=yo (by omega) λx hx=>by
  obtain⟨j,hj⟩:=List.getElem?_of_mem hx;have:=(ho j x hj).2.2.2.1;omega
 unfold jx;rw[hc];delta dO;refine Ok.bind (P:=λr=>∃b:Bool,r=(us,sk,l,b,us,())/\(b=false->0<=sk/\sk<2/\us.length<200)) ?_ ?_
 ·(with_reducible refine dF (λZ9=>?_) λZ9=>?_)
  ·exact Ok.ret ⟨true,rfl,λh=>by cases h⟩
  (with_reducible refine dF (λZX=>?_) λZX=>?_)
  ·exact Ok.ret ⟨true,rfl,λh=>by cases h⟩
  (with_reducible refine dF (λhcc=>?_) λhcc=>?_)
  ·exact Ok.ret ⟨true,rfl,λh=>by cases h⟩
  exact Ok.ret ⟨_,rfl,λh=>⟨by omega,by omega,by omega⟩⟩
 rintro _ ⟨b,rfl,hb⟩;dsimp only
 cases b with
 |true=>exact Ok.ret ⟨_,_,_,rfl,hu,ho⟩
 |false=>
  obtain⟨s0,s1,hlt⟩:=hb rfl;simp only[oCF];refine dH (dU (by omega)) (dH (dU (by simp;omega)) ?_);refine Ok.ret ⟨_,_,_,rfl,by rw[fq];simp;omega,λi x hx=>?_⟩;simp at hx;rw[List.getElem?_append]at hx;split at hx
  ·exact ho i x hx
  ·rename_i hi;obtain⟨q,hq⟩:∃q,i-us.length=q:=⟨_,rfl⟩;rw[hq]at hx
   cases q with
   |zero=>
    have:x=((us.length:Int),sk,l):=by simp_all
    subst this;exact⟨by dsimp only;omega,s0,s1,hl,WS⟩
   |succ q=>simp at hx
theorem Lq{ss:List Int}{us:List DOu}{sk:Int}{l:List DCn}(hu:us.length<=200)(ho:∀(i:Nat) x,us[i]?=some x->OV ss i x)(hl:l.length<=16)(WS:∀c∈l,Pr ss c):
 Ok (jx us sk l) λr=>∃Yj n b,r=(Yj,n,b,())/\Yj.length<=200/\(∀(i:Nat) x,Yj[i]?=some x->OV ss i x)/\((b=false/\Yj=us)\/(b=true/\n=l.length/\Yj=us++[((us.length:Int),sk,l)]/\0<=sk/\sk<2/\us.length<200)):=by
 have hc:iw us=some (us,()):=yo (by omega) λx hx=>by
  obtain⟨j,hj⟩:=List.getElem?_of_mem hx;have:=(ho j x hj).2.2.2.1;omega
 unfold jx;rw[hc];delta dO;simp only[oBS];refine Ok.bind (P:=λr=>∃b:Bool,r=(us,sk,l,b,us,())/\(b=false->0<=sk/\sk<2/\us.length<200)) ?_ ?_
 ·(with_reducible refine dF (λZ9=>?_) λZ9=>?_)
  ·exact Ok.ret ⟨true,rfl,λh=>by cases h⟩
  (with_reducible refine dF (λZX=>?_) λZX=>?_)
  ·exact Ok.ret ⟨true,rfl,λh=>by cases h⟩
  (with_reducible refine dF (λhcc=>?_) λhcc=>?_)
  ·exact Ok.ret ⟨true,rfl,λh=>by cases h⟩
  exact Ok.ret ⟨_,rfl,λh=>⟨by omega,by omega,by omega⟩⟩
 rintro _ ⟨b,rfl,hb⟩;dsimp only
 cases b with
 |true=>exact Ok.ret ⟨_,_,_,rfl,hu,ho,.inl ⟨rfl,rfl⟩⟩
 |false=>
  obtain⟨s0,s1,hlt⟩:=hb rfl;simp only[oCF];refine dH (dU (by omega)) (dH (dU (by simp;omega)) ?_);refine Ok.ret ⟨_,_,_,rfl,by rw[fq];simp;omega,λi x hx=>?_,.inr ⟨rfl,rfl,rfl,s0,s1,by omega⟩⟩;simp only[List.append_eq,List.nil_append]at hx;rw[List.getElem?_append]at hx;split at hx
  ·exact ho i x hx
  ·rename_i hi;obtain⟨q,hq⟩:∃q,i-us.length=q:=⟨_,rfl⟩;rw[hq]at hx
   cases q with
   |zero=>
    have:x=((us.length:Int),sk,l):=by simpa using hx.symm
    subst this;exact⟨by dsimp only;omega,s0,s1,hl,WS⟩
   |succ q=>simp at hx
theorem vl{ss:List Int}{ins:List (List Int)}{sk n:Int}(hi:ins.length<=2)(h:∀x∈ins,x.length<=64/\∀w∈x,W16 w)(hn:0<=n/\n<=65535):
 Ok (jQ ins sk n) λr=>(∃X8,r=.inl (X8,(),false,())/\X8.length<=2/\∀x∈X8,x.length<=64/\∀w∈x,W16 w)\/
  (∃X8 l,r=.inr (X8,l,true,())/\(X8.length<=2/\∀x∈X8,x.length<=64/\∀w∈x,W16 w)/\(l.length:Int)<=n/\l.length<=64/\∀c∈l,Pr ss c):=by
 unfold jQ;rw[ym (by omega) (λx hx=>by have:=(h x hx).1;omega)];delta dO;simp only[oBS];refine Ok.bind (P:=λr=>∃b:Bool,r=(ins,sk,n,b,ins,())/\(b=false->0<=sk/\sk<ins.length)) ?_ ?_
 ·(with_reducible refine dF (λZ9=>?_) λZ9=>?_)
  ·exact Ok.ret ⟨true,rfl,λh=>by cases h⟩
  (with_reducible refine dF (λZX=>?_) λZX=>?_)
  ·exact Ok.ret ⟨true,rfl,λh=>by cases h⟩
  exact Ok.ret ⟨_,rfl,λ_=>⟨by omega,by omega⟩⟩
 rintro _ ⟨b,rfl,hb⟩;dsimp only
 cases b with
 |true=>exact Ok.ret (Or.inl ⟨_,rfl,hi,h⟩)
 |false=>
 obtain⟨s0,s1⟩:=hb rfl;obtain⟨j,rfl⟩:∃j:Nat,sk=j:=⟨sk.toNat,by omega⟩;obtain⟨x,hx⟩:∃x,ins[j]?=some x:=⟨_,oGE (by omega)⟩;have VA:dJ ins j=some x:=hx;have hjl:=(oGS hx).1;obtain⟨Ub,hxw⟩:=h x (dP hx);simp only[oCF,oBS,dL,VA];obtain⟨m1,m2,m3⟩:=EJ (a:=n) (b:=(x.length:Int));generalize mmR false n (x.length:Int)=k at m1 m2 m3;obtain⟨q,rfl⟩:∃q:Nat,k=q:=⟨k.toNat,by omega⟩;simp only[dL,oBS];refine dH (by unfold gY;simp;omega) ?_
 have hw:lT x 0 (Nat.sub q 0)=x.take q:=by unfold lT;rw[List.drop_zero];rfl
 have Tx:(x.take q).length=q:=by rw[oLT];omega
 rw[hw];simp only[Tx]
 have e:dY ge NN ((j:Int),(q:Int),x.take q,(q:Int),0,ins,[],())=some ((j:Int),(q:Int),x.take q,(q:Int),(q:Int),false,ins,(x.take q).map (λw=>(0,w,0,0)),()):=by
  have:=sJ (f:=ge) (N:=NN) (st:=λi=>((j:Int),(q:Int),x.take q,(q:Int),(i:Int),ins,((x.take q).take i).map (λw=>((0:Int),w,(0:Int),(0:Int))),())) (n:=q) (t:=((j:Int),(q:Int),x.take q,(q:Int),(q:Int),false,ins,(x.take q).map (λw=>((0:Int),w,(0:Int),(0:Int))),())) (by unfold NN;omega) ?_ ?_
  ·exact this
  ·intro i hi;unfold ge;dsimp only;rw[oDT (show(i:Int)<q by omega),dL];simp only[oCT,oBS];refine Ok.get (by omega) λw hw=>?_;refine dH (dU (by simp;omega)) ?_;rw[dQ (x:=(i:Int)+1) (by omega) (by omega)];refine Ok.ret ?_;rw[<- tp (λw=>((0:Int),w,(0:Int),(0:Int))) hw];rfl
  ·unfold ge;dsimp only;rw[oDF (show ¬(q:Int)<q by omega)];refine Ok.ret ?_;rw[show(x.take q).take q=x.take q from List.take_of_length_le (by omega)]
 rw[e];simp only[dL,oBS,VA];refine dH (by unfold gY;simp;omega) ?_;rw[dX hx]
 have hd:∀c∈lT x q (Nat.sub x.length q),c∈x:=λc hc=>by
  unfold lT at hc;exact List.mem_of_mem_drop (List.mem_of_mem_take hc)
 have To:(lT x q (Nat.sub x.length q)).length<=64:=by
  unfold lT;rw[oLT,List.length_drop];omega
 refine Ok.ret (.inr ⟨_,_,rfl,⟨by rw[List.length_set];exact hi,km h ⟨To,λw hw=>hxw w (hd w hw)⟩⟩,by rw[List.length_map,Tx];omega,by rw[List.length_map,Tx];omega,λc hc=>?_⟩);obtain⟨w,hw,rfl⟩:=List.mem_map.1 hc;exact fW (hxw w (List.mem_of_mem_take hw))
theorem rd{n:Int}{ss:List Int}{i stop trap count pc call:Int}{args data:List DCn}(hs:yM ss)(h:sH n ss i stop trap count pc call args data)(hn:n<=1099511627776):jW i stop trap count pc call args data=some (true,()):=by
 have ⟨⟨a1,a2⟩,⟨b1,b2⟩,⟨c1,c2⟩,⟨d1,d2⟩,⟨e1,e2⟩,⟨f1,f2⟩,⟨g1,g2⟩,⟨k1,k2⟩,_,_⟩:=h;refine eZ ?_;unfold jW;rw[mA hs g2 (by omega) (by omega),mA hs k2 (by omega) (by omega)];refine dH (oDT a1) (dH (oDT (by omega)) (dH (oDT b1) (dH (oDT b2) (dH (oDT c1) (dH (oDT c2) (dH (oDT d1) (dH (oDT (by omega)) (dH (oDT e1) (dH (oDT e2) (dH (oDT f1) (dH (oDT f2) ?_)))))))))));exact Ok.ret rfl
theorem Ab{n:Int}{ss:List Int}{i trap count pc call:Int}{args data:List DCn}(h:sH n ss i 1 trap count pc call args data):lZ i 1 trap count pc call args data=some (true,()):=by
 obtain⟨hl,hk⟩:=h.hkind rfl;obtain⟨b,eb,ZJ,ZU⟩:=AP h.hcall;have h3:=JY call
 have e:dY gW NN (b,args,(args.length:Int),0,i,1,trap,count,pc,call,args,data,())=some (.inr (b,args,(args.length:Int),(args.length:Int),false,i,1,trap,count,pc,call,args,data,())):=by
  refine sJ (f:=gW) (N:=NN) (st:=λq=>(b,args,(args.length:Int),(q:Int),i,1,trap,count,pc,call,args,data,())) (n:=args.length) (by unfold NN;omega) ?_ ?_
  ·intro q hq;obtain⟨k,hkq⟩:∃k,(kB call)[q]?=some k:=⟨_,oGE (by omega)⟩;obtain⟨a,ha⟩:∃a,args[q]?=some a:=⟨_,oGE (by omega)⟩;unfold gW;dsimp only;rw[oDT (show(q:Int)<args.length by omega),dL];simp only[oCT,oBS,show dJ args q=some a from ha,ZU q,hkq,Kk,hk q k a hkq ha,oCF];rw[dQ (x:=(q:Int)+1) (by omega) (by omega)];exact Ok.ret rfl
  ·unfold gW;dsimp only;rw[oDF (show ¬(args.length:Int)<args.length by omega)];exact Ok.ret rfl
 unfold lZ;delta dO
 simp_all
def Mx(call:Int):Bool:=decide ((1<=call/\call<=7)\/call=13\/call=14)
theorem KJ{call:Int}(h:0<=call/\call<=15):pX call=some (Mx call,()):=by
 rcases qC h with rfl|rfl|rfl|rfl|rfl|rfl|rfl|rfl|rfl|rfl|rfl|rfl|rfl|rfl|rfl|rfl<;>rfl
structure Qr (ss:List Int)(t v r o:Int)(data:List DCn)(sp:Int)(w:Bool):Prop where
 val:Pr ss (t,v,r,o)
 dat:data.length<=64/\∀c∈data,Pr ss c
 spn:-1<=sp/\sp<=3
def KM(us Yj:List DOu)(call:Int)(args data:List DCn)(t v:Int):Prop:=(call≠13/\Yj=us)\/(call=13/\t=0/\((Yj=us/\v=65535)\/(v≠65535/\∃a,args[0]?=some a/\Yj=us++[((us.length:Int),a.2.1,data)]/\0<=a.2.1/\a.2.1<2/\us.length<200)))
def OY(call:Int)(args dat:List DCn):Prop:=dat≠[]->kH call=2/\∃q:DCn,args[2]?=some q/\(dat.length:Int)<=q.2.1
def DoX(ss:List Int)(RG:List DOu)(call:Int)(args UL:List DCn)(r:(List (Int))×(List (Int))×(List (List (Int)))×(List (List DCn))×(List DOp)×(List DOu)×Int×Int×Int×Int×(List DCn)×Int×Bool×Int×Unit):Prop:=
 ∃ck rn ins d os us t v rg o data,r=(ck,rn,ins,d,os,us,t,v,rg,o,data,-1,false,0,())/\rI ss ck rn ins d os us/\Pr ss (t,v,rg,o)/\(data.length<=16/\∀c∈data,Pr ss c)/\KM RG us call args UL t v/\OY call args data
theorem kz{ss:List Int}{RG:List DOu}{call:Int}{args UL:List DCn}{ck rn:List Int}{ins:List (List Int)}{d:List (List DCn)}{os:List DOp}{us:List DOu}{t v rg o:Int}{data:List DCn}(h:rI ss ck rn ins d os us)(hv:Pr ss (t,v,rg,o))(hd:data.length<=16/\∀c∈data,Pr ss c)
 (hu:KM RG us call args UL t v)(hp:OY call args data):Ok (some (ck,rn,ins,d,os,us,t,v,rg,o,data,(-1:Int),false,(0:Int),())) (DoX ss RG call args UL):=Ok.ret ⟨_,_,_,_,_,_,_,_,_,_,_,rfl,h,hv,hd,hu,hp⟩
theorem ij{call:Int}{args:List DCn}:OY call args []:=λh=>absurd rfl h
def DoP(ss:List Int)(r:(List (Int))×(List (Int))×(List (List (Int)))×(List (List DCn))×(List DOp)×(List DOu)×Int×Int×Int×Int×(List DCn)×Int×Bool×Int×Unit):Prop:=
 ∃ck rn ins d os us t v rg o data,r=(ck,rn,ins,d,os,us,t,v,rg,o,data,-1,false,0,())/\rI ss ck rn ins d os us/\Pr ss (t,v,rg,o)/\data.length<=16/\∀c∈data,Pr ss c
theorem kA{ss:List Int}{ck rn:List Int}{ins:List (List Int)}{d:List (List DCn)}{os:List DOp}{us:List DOu}{t v rg o:Int}{data:List DCn}(h:rI ss ck rn ins d os us)(hv:Pr ss (t,v,rg,o))(hd:data.length<=16/\∀c∈data,Pr ss c):
 Ok (some (ck,rn,ins,d,os,us,t,v,rg,o,data,(-1:Int),false,(0:Int),())) (DoP ss):=Ok.ret ⟨_,_,_,_,_,_,_,_,_,_,_,rfl,h,hv,hd⟩
theorem Pr.val{ss:List Int}{c:DCn}(h:Pr ss c):W16 c.2.1:=by
 rcases h with⟨_,_,_,h⟩|⟨_,h,_⟩
 ·exact h
 ·rw[h];exact⟨by decide,by decide⟩
theorem MX{n:Int}{ss:List Int}{i trap count pc call:Int}{args data:List DCn}(h:sH n ss i 1 trap count pc call args data):kH call=0\/kH call=1\/(kH call=2/\∃a,args[2]?=some a/\a.2.1<=16):=by
 by_cases h2:kH call=2
 ·exact .inr (.inr ⟨h2,h.hbuf rfl h2⟩)
 ·have:kH call=0\/kH call=1\/kH call=2:=by unfold kH;split<;>first|omega|(split<;>omega)
  omega
theorem oC{α:Type}{a b:Option α}{Q:α->Prop}(h:Ok a Q)(e:b=a):Ok b Q:=by simp_all
set_option maxHeartbeats 4000000 in
theorem Qn{n:Int}{ss:List Int}{ck rn:List Int}{ins:List (List Int)}{d:List (List DCn)}{os:List DOp}{us:List DOu}{i trap count pc call:Int}{args data:List DCn}(hs:yM ss)(hO:rI ss ck rn ins d os us)(hR:sH n ss i 1 trap count pc call args data)
 (ha:Mx call=true)(hn:n<=1099511627776):Ok (kL ck rn ins d os us i 1 trap count pc call args data) (DoP ss):=by
 have hc:=hR.hcall;have X2:=hR.hdata;have XT:=hR.hargs;unfold kL;rw[ra hs hO,rd hs hR hn,KJ hc,ha,Ab hR,ox hc];simp only[oBS,oNT,oCF,bne_self_eq_false];refine Ok.bind (P:=λr=>r=(false,ck,rn,ins,d,os,us,i,1,trap,count,pc,call,args,data,(),(),(),(),(),(),0,0,0,0,(),0,false,())) ?_ ?_
 ·rcases MX hR with h|h|⟨h,a,h2,h3⟩
  ·rw[h];exact Ok.ret rfl
  ·rw[h];exact Ok.ret rfl
  ·rw[h];simp only[BEq.rfl,oCT,show dJ args 2=some a from h2,oBS];rw[oDF (show ¬a.2.1>16 by omega)];exact Ok.ret rfl
 rintro _ rfl;dsimp only;delta dO;simp only[oCF,yn hO,oBS]
 refine Ok.loop (P:=λs'=>∃(k:Nat)(vs:List Int),s'=(args,(args.length:Int),(k:Int),ck,rn,ins,d,os,us,i,1,trap,count,pc,call,args,data,(),(),(),(),(),(),0,0,0,0,(),0,false,ck,rn,ins,d,os,us,vs,())/\k<=args.length/\vs.length=3/\(∀v∈vs,W16 v)/\∀(j:Nat) a,j<k->args[j]?=some a->vs[j]?=some a.2.1)
  (R:=λr=>∃(z:Int)(vs:List Int),r=(args,(args.length:Int),z,false,ck,rn,ins,d,os,us,i,1,trap,count,pc,call,args,data,(),(),(),(),(),(),0,0,0,0,(),0,false,ck,rn,ins,d,os,us,vs,())/\vs.length=3/\(∀v∈vs,W16 v)/\∀(j:Nat) a,args[j]?=some a->vs[j]?=some a.2.1) (m:=λs'=>(s'.2.1-s'.2.2.1).toNat)
  ⟨0,[0,0,0],rfl,by omega,rfl,all_cons ⟨by decide,by decide⟩ (all_cons ⟨by decide,by decide⟩ (all_cons ⟨by decide,by decide⟩ ek)),λj a hj=>by omega⟩ (by unfold NN;dsimp only;omega) ?_ ?_
 ·rintro _ ⟨k,vs,rfl,hk,VV,Wr,hva⟩;unfold oH;dsimp only
  (with_reducible refine dF (λZ9=>?_) λZ9=>?_)
  ·simp only[dL,oBS];refine Ok.get (by omega) λa RV=>?_;have hw:=(XT.2 a (dP RV)).val;refine Ok.get (by omega) λv hv=>?_;refine Ok.get (by omega) λ_ _=>?_;rw[dT (x:=a.2.1) (by have:=hw.1;omega) (by have:=hw.2;omega),dQ (x:=(k:Int)+1) (by omega) (by omega),dX hv];refine Ok.ret ⟨⟨k+1,_,rfl,by omega,by rw[List.length_set];exact VV,km Wr hw,λj a' hj Wj=>?_⟩,by dsimp only;omega⟩;by_cases e:k=j
   ·subst e;rw[RV]at Wj;cases Wj;exact f9 (by omega) _
   ·rw[n5 e];exact hva j a' (by omega) Wj
  ·refine Ok.ret ⟨_,vs,rfl,VV,Wr,λj a Wj=>hva j a ?_ Wj⟩;have:=(oGS Wj).1;omega
 rintro _ ⟨z,vs,rfl,VV,Wr,hva⟩;obtain⟨v0,Vb,Yz⟩:=fk 0 false
 obtain⟨a0,a1,a2,rfl⟩:∃a b c,vs=[a,b,c]:=by
  match vs,VV with
  | [a,b,c],_=>exact⟨a,b,c,rfl⟩
 have w0:W16 a0:=Wr a0 (by simp);have w1:W16 a1:=Wr a1 (by simp);have w2:W16 a2:=Wr a2 (by simp);have g0:dJ [a0,a1,a2] 0=some a0:=rfl;have g1:dJ [a0,a1,a2] 1=some a1:=rfl;have g2:dJ [a0,a1,a2] 2=some a2:=rfl
 have Vo:kH call=2->a2<=16:=λh=>by
  obtain⟨a,h2,h3⟩:=hR.hbuf rfl h;have:=hva 2 a h2
  have:a2=a.2.1:=by simpa using this
  omega
 have ZW:([]:List DCn).length<=16/\∀c∈([]:List DCn),Pr ss c:=⟨by decide,ek⟩;dsimp only;simp only[Vb,oBS,g0,g1,g2];rcases qC hc with rfl|rfl|rfl|rfl|rfl|rfl|rfl|rfl|rfl|rfl|rfl|rfl|rfl|rfl|rfl|rfl
 all_goals first|(exact absurd ha (by decide))|simp only[Int.reduceBEq,oCT,oCF]
 ·obtain⟨_,e,d1,Wv,m,b,rfl,hF,_⟩:=zH (h:=a0) hs hO.files X2.1 X2.2;obtain⟨v,ev,hv⟩:=fk m b;simp only[e,ev,oBS];exact kA ⟨hO.clock,hO.rand,hO.ilen,hO.inp,hF,hO.ulen,hO.outs⟩ (fW hv) ZW
 ·have Yi:=Vo rfl;obtain⟨_,e,hr⟩:=Cy (h:=a0) (n:=a2) hO.files w2
  rcases hr with⟨d1,Wv,rfl,hF⟩|⟨d1,Wv,l,rfl,hF,hl,_,WS⟩
  ·simp only[e,Vb,oBS];exact kA ⟨hO.clock,hO.rand,hO.ilen,hO.inp,hF,hO.ulen,hO.outs⟩ (fW Yz) ZW
  ·obtain⟨v,ev,hv⟩:=fk (l.length:Int) true;simp only[e,ev,oBS];exact kA ⟨hO.clock,hO.rand,hO.ilen,hO.inp,hF,hO.ulen,hO.outs⟩ (fW hv) ⟨by omega,WS⟩
 ·obtain⟨_,e,d1,Wv,h,rfl,hF,h0,h7⟩:=Gd (file:=a0) (mode:=a1) hO.files;simp only[e,oBS];have WW:rI ss ck rn ins d1 Wv us:=⟨hO.clock,hO.rand,hO.ilen,hO.inp,hF,hO.ulen,hO.outs⟩;by_cases hh:h>=0
  ·simp only[oDT hh,oCT];exact kA WW (MN (jM _)) ZW
  ·simp only[oDF hh,oCF];exact kA WW (fW Yz) ZW
 ·obtain⟨_,e,d1,Wv,b,rfl,hF⟩:=Al (h:=a0) hO.files;obtain⟨v,ev,hv⟩:=fk 0 b;simp only[e,ev,oBS];exact kA ⟨hO.clock,hO.rand,hO.ilen,hO.inp,hF,hO.ulen,hO.outs⟩ (fW hv) ZW
 ·obtain⟨_,e,d1,Wv,b,rfl,hF⟩:=Cw (h:=a0) (n:=a1) hO.files;obtain⟨v,ev,hv⟩:=fk 0 b;simp only[e,ev,oBS];exact kA ⟨hO.clock,hO.rand,hO.ilen,hO.inp,hF,hO.ulen,hO.outs⟩ (fW hv) ZW
 ·cases ck with
  |nil=>exact kA hO (fW Yz) ZW
  |cons x ck=>
   obtain⟨v,ev,hv⟩:=fk (wk .i64 x) true
   have hw:lT (x::ck) 1 (Nat.sub (x::ck).length 1)=ck:=by unfold lT;simp
   refine oC (kA (ck:=ck) ⟨⟨by have:=hO.clock.1;simp at this;omega,λw hw=>hO.clock.2 w (by simp[hw])⟩,hO.rand,hO.ilen,hO.inp,hO.files,hO.ulen,hO.outs⟩ (fW hv) ZW) ?_;simp only[oLC,show dJ (x::ck) 0=some x from rfl,oBS,ev];have hd:∀inst:Decidable (((ck.length+1:Nat):Int)>0),@decide _ inst=true:=λinst=>oDT (by omega);rw[oLC]at hw;rw[hd,show gY 1 (ck.length+1) (ck.length+1)=true by unfold gY;simp,hw];rfl
 ·cases rn with
  |nil=>exact kA hO (fW Yz) ZW
  |cons x rn=>
   obtain⟨v,ev,hv⟩:=fk (wk .i64 x) true
   have hw:lT (x::rn) 1 (Nat.sub (x::rn).length 1)=rn:=by unfold lT;simp
   refine oC (kA (rn:=rn) ⟨hO.clock,⟨by have:=hO.rand.1;simp at this;omega,λw hw=>hO.rand.2 w (by simp[hw])⟩,hO.ilen,hO.inp,hO.files,hO.ulen,hO.outs⟩ (fW hv) ZW) ?_;simp only[oLC,show dJ (x::rn) 0=some x from rfl,oBS,ev];have hd:∀inst:Decidable (((rn.length+1:Nat):Int)>0),@decide _ inst=true:=λinst=>oDT (by omega);rw[oLC]at hw;rw[hd,show gY 1 (rn.length+1) (rn.length+1)=true by unfold gY;simp,hw];rfl
 ·obtain⟨_,e,us1,m,b,rfl,hu,ho⟩:=Jc (sk:=a0) hO.ulen hO.outs X2.1 X2.2;obtain⟨v,ev,hv⟩:=fk m b;simp only[e,ev,oBS];exact kA ⟨hO.clock,hO.rand,hO.ilen,hO.inp,hO.files,hu,ho⟩ (fW hv) ZW
 ·have Yi:=Vo rfl;obtain⟨_,e,hr⟩:=vl (ss:=ss) (sk:=a0) (n:=a2) hO.ilen hO.inp w2
  rcases hr with⟨Q6,rfl,Xf,Zn⟩|⟨Q6,l,rfl,⟨Xf,Zn⟩,hl,_,WS⟩
  ·simp only[e,Vb,oBS];exact kA ⟨hO.clock,hO.rand,Xf,Zn,hO.files,hO.ulen,hO.outs⟩ (fW Yz) ZW
  ·obtain⟨v,ev,hv⟩:=fk (l.length:Int) true;simp only[e,ev,oBS];exact kA ⟨hO.clock,hO.rand,Xf,Zn,hO.files,hO.ulen,hO.outs⟩ (fW hv) ⟨by omega,WS⟩
set_option maxHeartbeats 4000000 in
theorem PG{n:Int}{ss:List Int}{ck rn:List Int}{ins:List (List Int)}{d:List (List DCn)}{os:List DOp}{us:List DOu}{i trap count pc call:Int}{args data:List DCn}(hs:yM ss)(hO:rI ss ck rn ins d os us)(hR:sH n ss i 1 trap count pc call args data)
 (ha:Mx call=true)(hn:n<=1099511627776):Ok (kL ck rn ins d os us i 1 trap count pc call args data) (DoX ss us call args data):=by
 have hc:=hR.hcall;have X2:=hR.hdata;have XT:=hR.hargs;unfold kL;rw[ra hs hO,rd hs hR hn,KJ hc,ha,Ab hR,ox hc];simp only[oBS,oNT,oCF,bne_self_eq_false];refine Ok.bind (P:=λr=>r=(false,ck,rn,ins,d,os,us,i,1,trap,count,pc,call,args,data,(),(),(),(),(),(),0,0,0,0,(),0,false,())) ?_ ?_
 ·rcases MX hR with h|h|⟨h,a,h2,h3⟩
  ·rw[h];exact Ok.ret rfl
  ·rw[h];exact Ok.ret rfl
  ·rw[h];simp only[BEq.rfl,oCT,show dJ args 2=some a from h2,oBS];rw[oDF (show ¬a.2.1>16 by omega)];exact Ok.ret rfl
 rintro _ rfl;dsimp only;delta dO;simp only[oCF,yn hO,oBS]
 refine Ok.loop (P:=λs'=>∃(k:Nat)(vs:List Int),s'=(args,(args.length:Int),(k:Int),ck,rn,ins,d,os,us,i,1,trap,count,pc,call,args,data,(),(),(),(),(),(),0,0,0,0,(),0,false,ck,rn,ins,d,os,us,vs,())/\k<=args.length/\vs.length=3/\(∀v∈vs,W16 v)/\∀(j:Nat) a,j<k->args[j]?=some a->vs[j]?=some a.2.1)
  (R:=λr=>∃(z:Int)(vs:List Int),r=(args,(args.length:Int),z,false,ck,rn,ins,d,os,us,i,1,trap,count,pc,call,args,data,(),(),(),(),(),(),0,0,0,0,(),0,false,ck,rn,ins,d,os,us,vs,())/\vs.length=3/\(∀v∈vs,W16 v)/\∀(j:Nat) a,args[j]?=some a->vs[j]?=some a.2.1) (m:=λs'=>(s'.2.1-s'.2.2.1).toNat)
  ⟨0,[0,0,0],rfl,by omega,rfl,all_cons ⟨by decide,by decide⟩ (all_cons ⟨by decide,by decide⟩ (all_cons ⟨by decide,by decide⟩ ek)),λj a hj=>by omega⟩ (by unfold NN;dsimp only;omega) ?_ ?_
 ·rintro _ ⟨k,vs,rfl,hk,VV,Wr,hva⟩;unfold oH;dsimp only
  (with_reducible refine dF (λZ9=>?_) λZ9=>?_)
  ·simp only[dL,oBS];refine Ok.get (by omega) λa RV=>?_;have hw:=(XT.2 a (dP RV)).val;refine Ok.get (by omega) λv hv=>?_;refine Ok.get (by omega) λ_ _=>?_;rw[dT (x:=a.2.1) (by have:=hw.1;omega) (by have:=hw.2;omega),dQ (x:=(k:Int)+1) (by omega) (by omega),dX hv];refine Ok.ret ⟨⟨k+1,_,rfl,by omega,by rw[List.length_set];exact VV,km Wr hw,λj a' hj Wj=>?_⟩,by dsimp only;omega⟩;by_cases e:k=j
   ·subst e;rw[RV]at Wj;cases Wj;exact f9 (by omega) _
   ·rw[n5 e];exact hva j a' (by omega) Wj
  ·refine Ok.ret ⟨_,vs,rfl,VV,Wr,λj a Wj=>hva j a ?_ Wj⟩;have:=(oGS Wj).1;omega
 rintro _ ⟨z,vs,rfl,VV,Wr,hva⟩;obtain⟨v0,Vb,Yz⟩:=fk 0 false
 obtain⟨a0,a1,a2,rfl⟩:∃a b c,vs=[a,b,c]:=by
  match vs,VV with
  | [a,b,c],_=>exact⟨a,b,c,rfl⟩
 have w0:W16 a0:=Wr a0 (by simp);have w1:W16 a1:=Wr a1 (by simp);have w2:W16 a2:=Wr a2 (by simp);have g0:dJ [a0,a1,a2] 0=some a0:=rfl;have g1:dJ [a0,a1,a2] 1=some a1:=rfl;have g2:dJ [a0,a1,a2] 2=some a2:=rfl
 have Vo:kH call=2->a2<=16:=λh=>by
  obtain⟨a,h2,h3⟩:=hR.hbuf rfl h;have:=hva 2 a h2
  have:a2=a.2.1:=by simpa using this
  omega
 have a2x:kH call=2->∀{l:List DCn},(l.length:Int)<=a2->∃q:DCn,args[2]?=some q/\(l.length:Int)<=q.2.1:=λh l hl=>by
  obtain⟨a,h2,h3⟩:=hR.hbuf rfl h;have:=hva 2 a h2
  have e2:a2=a.2.1:=by simpa using this
  exact⟨a,h2,by omega⟩
 have ZW:([]:List DCn).length<=16/\∀c∈([]:List DCn),Pr ss c:=⟨by decide,ek⟩;dsimp only;simp only[Vb,oBS,g0,g1,g2];rcases qC hc with rfl|rfl|rfl|rfl|rfl|rfl|rfl|rfl|rfl|rfl|rfl|rfl|rfl|rfl|rfl|rfl
 all_goals first|(exact absurd ha (by decide))|simp only[Int.reduceBEq,oCT,oCF]
 ·obtain⟨_,e,d1,Wv,m,b,rfl,hF,_⟩:=zH (h:=a0) hs hO.files X2.1 X2.2;obtain⟨v,ev,hv⟩:=fk m b;simp only[e,ev,oBS];exact kz ⟨hO.clock,hO.rand,hO.ilen,hO.inp,hF,hO.ulen,hO.outs⟩ (fW hv) ZW (.inl ⟨by decide,rfl⟩) ij
 ·have Yi:=Vo rfl;obtain⟨_,e,hr⟩:=Cy (h:=a0) (n:=a2) hO.files w2
  rcases hr with⟨d1,Wv,rfl,hF⟩|⟨d1,Wv,l,rfl,hF,hl,_,WS⟩
  ·simp only[e,Vb,oBS];exact kz ⟨hO.clock,hO.rand,hO.ilen,hO.inp,hF,hO.ulen,hO.outs⟩ (fW Yz) ZW (.inl ⟨by decide,rfl⟩) ij
  ·obtain⟨v,ev,hv⟩:=fk (l.length:Int) true;simp only[e,ev,oBS];exact kz ⟨hO.clock,hO.rand,hO.ilen,hO.inp,hF,hO.ulen,hO.outs⟩ (fW hv) ⟨by omega,WS⟩ (.inl ⟨by decide,rfl⟩) (λ_=>⟨rfl,a2x rfl hl⟩)
 ·obtain⟨_,e,d1,Wv,h,rfl,hF,h0,h7⟩:=Gd (file:=a0) (mode:=a1) hO.files;simp only[e,oBS];have WW:rI ss ck rn ins d1 Wv us:=⟨hO.clock,hO.rand,hO.ilen,hO.inp,hF,hO.ulen,hO.outs⟩;by_cases hh:h>=0
  ·simp only[oDT hh,oCT];exact kz WW (MN (jM _)) ZW (.inl ⟨by decide,rfl⟩) ij
  ·simp only[oDF hh,oCF];exact kz WW (fW Yz) ZW (.inl ⟨by decide,rfl⟩) ij
 ·obtain⟨_,e,d1,Wv,b,rfl,hF⟩:=Al (h:=a0) hO.files;obtain⟨v,ev,hv⟩:=fk 0 b;simp only[e,ev,oBS];exact kz ⟨hO.clock,hO.rand,hO.ilen,hO.inp,hF,hO.ulen,hO.outs⟩ (fW hv) ZW (.inl ⟨by decide,rfl⟩) ij
 ·obtain⟨_,e,d1,Wv,b,rfl,hF⟩:=Cw (h:=a0) (n:=a1) hO.files;obtain⟨v,ev,hv⟩:=fk 0 b;simp only[e,ev,oBS];exact kz ⟨hO.clock,hO.rand,hO.ilen,hO.inp,hF,hO.ulen,hO.outs⟩ (fW hv) ZW (.inl ⟨by decide,rfl⟩) ij
 ·cases ck with
  |nil=>exact kz hO (fW Yz) ZW (.inl ⟨by decide,rfl⟩) ij
  |cons x ck=>
   obtain⟨v,ev,hv⟩:=fk (wk .i64 x) true
   have hw:lT (x::ck) 1 (Nat.sub (x::ck).length 1)=ck:=by unfold lT;simp
   refine oC (kz (ck:=ck) ⟨⟨by have:=hO.clock.1;simp at this;omega,λw hw=>hO.clock.2 w (by simp[hw])⟩,hO.rand,hO.ilen,hO.inp,hO.files,hO.ulen,hO.outs⟩ (fW hv) ZW (.inl ⟨by decide,rfl⟩) ij) ?_;simp only[oLC,show dJ (x::ck) 0=some x from rfl,oBS,ev];have hd:∀inst:Decidable (((ck.length+1:Nat):Int)>0),@decide _ inst=true:=λinst=>oDT (by omega);rw[oLC]at hw;rw[hd,show gY 1 (ck.length+1) (ck.length+1)=true by unfold gY;simp,hw];rfl
 ·cases rn with
  |nil=>exact kz hO (fW Yz) ZW (.inl ⟨by decide,rfl⟩) ij
  |cons x rn=>
   obtain⟨v,ev,hv⟩:=fk (wk .i64 x) true
   have hw:lT (x::rn) 1 (Nat.sub (x::rn).length 1)=rn:=by unfold lT;simp
   refine oC (kz (rn:=rn) ⟨hO.clock,⟨by have:=hO.rand.1;simp at this;omega,λw hw=>hO.rand.2 w (by simp[hw])⟩,hO.ilen,hO.inp,hO.files,hO.ulen,hO.outs⟩ (fW hv) ZW (.inl ⟨by decide,rfl⟩) ij) ?_;simp only[oLC,show dJ (x::rn) 0=some x from rfl,oBS,ev];have hd:∀inst:Decidable (((rn.length+1:Nat):Int)>0),@decide _ inst=true:=λinst=>oDT (by omega);rw[oLC]at hw;rw[hd,show gY 1 (rn.length+1) (rn.length+1)=true by unfold gY;simp,hw];rfl
 ·obtain⟨_,e,us1,m,b,rfl,hu,ho,hx⟩:=Lq (sk:=a0) hO.ulen hO.outs X2.1 X2.2;obtain⟨v,ev,hv,N0,Os⟩:=Na m b
  have SN:KM us us1 13 args data 0 v:=by
   refine .inr ⟨rfl,rfl,?_⟩
   rcases hx with⟨hb,hu⟩|⟨hb,hm,hu,s0,s1,hlt⟩
   ·exact .inl ⟨hu,N0 hb⟩
   ·obtain⟨Zy,_⟩:=hR.hkind rfl;obtain⟨a,ha⟩:∃a,args[0]?=some a:=⟨_,oGE (by rw[Zy];decide)⟩
    have e0:a0=a.2.1:=by simpa using hva 0 a ha
    exact .inr ⟨Os hb (by omega) (by have:=X2.1;omega),a,ha,by rw[hu,e0],by omega,by omega,hlt⟩
  simp only[e,ev,oBS];exact kz ⟨hO.clock,hO.rand,hO.ilen,hO.inp,hO.files,hu,ho⟩ (fW hv) ZW SN ij
 ·have Yi:=Vo rfl;obtain⟨_,e,hr⟩:=vl (ss:=ss) (sk:=a0) (n:=a2) hO.ilen hO.inp w2
  rcases hr with⟨Q6,rfl,Xf,Zn⟩|⟨Q6,l,rfl,⟨Xf,Zn⟩,hl,_,WS⟩
  ·simp only[e,Vb,oBS];exact kz ⟨hO.clock,hO.rand,Xf,Zn,hO.files,hO.ulen,hO.outs⟩ (fW Yz) ZW (.inl ⟨by decide,rfl⟩) ij
  ·obtain⟨v,ev,hv⟩:=fk (l.length:Int) true;simp only[e,ev,oBS];exact kz ⟨hO.clock,hO.rand,Xf,Zn,hO.files,hO.ulen,hO.outs⟩ (fW hv) ⟨by omega,WS⟩ (.inl ⟨by decide,rfl⟩) (λ_=>⟨rfl,a2x rfl hl⟩)
def wN(bs:List Int)(key:Int)(c:DCn):DCe:=if c.1=0 then(0,c.2.1)else if c.1=2 then(2,wk .u16 (c.2.1+key))else(1,wk .u16 (bs.getD c.2.2.1.toNat 0+c.2.2.2))
theorem Ga{bs ss:List Int}(h:LV bs ss){r o n:Int}(h1:0<=r)(h2:ss[r.toNat]?=some n)(h3:0<=o)(h4:o<n):∃b,bs[r.toNat]?=some b/\0<=b+o/\b+o<512/\b<=b+o/\b+o<b+n:=by
 have ⟨hs,hl,hr⟩:=h;have hj:=(oGS h2).1;have ⟨b,hb⟩:∃b,bs[r.toNat]?=some b:=⟨_,oGE (by omega)⟩;have Wq:=hr r.toNat (by omega);unfold yI at Wq;rw[ff hb,ff h2]at Wq;exact⟨b,hb,by omega,by omega,by omega,by omega⟩
theorem xt{bs ss:List Int}{key:Int}{c:DCn}(h:LV bs ss)(hc:Pr ss c):iF bs key ss c.1 c.2.1 c.2.2.1 c.2.2.2=some ((wN bs key c).1,(wN bs key c).2,0,())/\m8 (RK bs ss) (wN bs key c):=by
 unfold iF wN;rw[kR hc]
 rcases hc with⟨h1|h1,h2,h3,h4⟩|⟨h1,h2,h3,n,h5,h6,h7⟩
 ·rw[h1];exact⟨rfl,iH h4⟩
 ·rw[h1];exact⟨rfl,(show(0:Int)<=2 by decide),(show(2:Int)<=2 by decide),(jM _).1,(jM _).2,λe=>absurd (show(2:Int)=1 from e) (by decide)⟩
 ·obtain⟨b,hb,b0,b1,b2,b3⟩:=Ga h h3 h5 h6 h7;obtain⟨j,hj⟩:∃j:Nat,c.2.2.1=j:=⟨c.2.2.1.toNat,by omega⟩;rw[hj]at hb h5⊢;rw[h1,ff hb];simp[Int.reduceBEq,Int.reduceEq,oCF,if_false,dL,oBS,show dJ bs j=some b from hb];rw[dQ (by omega) (by omega),dZ (by omega) (by omega)];exact⟨rfl,by omega,by omega,by omega,by omega,λ_=>⟨j,b,n,hb,h5,b2,b3⟩⟩
theorem Aq{bs ss:List Int}{key r o n:Int}(h:LV bs ss)(h1:0<=r)(h2:ss[r.toNat]?=some n)(h3:0<=o)(h4:o<n):∃a,j6 bs key ss r o=some (a,0,())/\0<=a/\a<512/\a=bs.getD r.toNat 0+o:=by
 have ⟨b,hb,b0,b1,_⟩:=Ga h h1 h2 h3 h4;obtain⟨j,rfl⟩:∃j:Nat,r=j:=⟨r.toNat,by omega⟩;unfold j6;rw[xP h1 h2 h3 h4];simp[dL,show dJ bs j=some b from hb];rw[dQ (by omega) (by omega)]
 simp_all
theorem Ge(pc t v:Int):oL pc t v=some (1,[(t,v),(0,0),(0,0),(0,0),(0,0),(0,0),(0,0),(0,0)],pc,0,-1,-1,0,0,()):=rfl
def Qt(n key:Int)(ss bs:List Int)(r:Bool×(List (Int))×Int×(List DCe)×(List DLn)×(List DTh)×Unit):Prop:=∃b Z5 Z2 ZP,r=(b,bs,key,Z5,Z2,ZP,())/\(b=true->MOk n ss bs Z5 Z2 ZP)
theorem xu{n key:Int}{ss bs:List Int}{cs:List DCe}{ls:List DLn}{ts:List DTh}:Ok (some (false,bs,key,cs,ls,ts,())) (Qt n key ss bs):=Ok.ret ⟨_,_,_,_,rfl,λh=>by cases h⟩
theorem pW{n key ct cv:Int}{ss bs:List Int}{cs:List DCe}{ls:List DLn}{ts:List DTh}{i:Nat}(h:MOk n ss bs cs ls ts)(hi:i<4)(hc:m8 (RK bs ss) (ct,cv)):
 Ok ((dJ ts i).bind λ_=>(dJ ts i).bind λRh=>(dJ Rh.2.1 0).bind λ_=>(dJ ts i).bind λRi=>(dJ Ri.2.1 0).bind λ_=>(dJ (List.modify ts i λe=>(e.1,((List.modify e.2.1 0 λ_=>(ct,cv)),e.2.2))) i).bind λ_=>
  some (true,bs,key,cs,ls,List.modify (List.modify ts i λe=>(e.1,((List.modify e.2.1 0 λ_=>(ct,cv)),e.2.2))) i λe=>((1:Int),e.2),())) (Qt n key ss bs):=by
 have Yc:=h.tlen;have ⟨t,ht⟩:∃t,ts[i]?=some t:=⟨_,oGE (by omega)⟩;have hg:dJ ts i=some t:=ht;have Y0:=(oGS ht).1;have hok:=h.thr t (dP ht);have ⟨c,hc0⟩:∃c,t.2.1[0]?=some c:=⟨_,oGE (by have:=hok.len;omega)⟩;simp[hg,show dJ t.2.1 0=some c from hc0,dX ht,dX hc0,f9 Y0,my Y0];exact Ok.ret ⟨_,_,_,_,rfl,λ_=>h.set h.mem ⟨⟨show(0:Int)<=1 by decide,show(1:Int)<=4 by decide⟩,by dsimp only;rw[List.length_set];exact hok.len,km hok.regs hc,hok.pc,hok.count,hok.handler,hok.saved,hok.trap,hok.code⟩⟩
theorem zK{K:Int->Prop}{n pc:Int}{rs:List DCe}(hl:rs.length=8)(hr:∀c∈rs,m8 K c)(hp:0<=pc/\pc<=255)(hn:0<=n):yH K n (1,rs,pc,0,-1,-1,0,0):=
 ⟨⟨show(0:Int)<=1 by decide,show(1:Int)<=4 by decide⟩,hl,hr,hp,⟨show(0:Int)<=0 by decide,hn⟩,⟨show(-1:Int)<=-1 by decide,show(-1:Int)<=255 by decide⟩,⟨show(-1:Int)<=-1 by decide,show(-1:Int)<=255 by decide⟩,⟨show(0:Int)<=0 by decide,show(0:Int)<=6 by decide⟩,⟨show(0:Int)<=0 by decide,show(0:Int)<=65535 by decide⟩⟩
theorem MOk.mk_mem{n:Int}{ss bs:List Int}{cs Z5:List DCe}{ls Z2:List DLn}{ts:List DTh}(h:MOk n ss bs cs ls ts)(hm:jJ (RK bs ss) Z5 Z2):MOk n ss bs Z5 Z2 ts:=⟨h.lay,hm,h.tlen,h.thr⟩
set_option maxHeartbeats 4000000 in
theorem Lz{n m key:Int}{code:List DIn}{ss bs:List Int}{dd:List (List Int)}{cs:List DCe}{ls:List DLn}{ts:List DTh}{i:Nat}{trap count pc call:Int}{args data:List DCn}{t v rg o sp:Int}{dat:List DCn}{w:Bool}(h:MOk n ss bs cs ls ts)(hi:i<4)
 (hR:sH m ss (i:Int) 1 trap count pc call args data)(hv:Pr ss (t,v,rg,o))(hd:dat.length<=16/\∀c∈dat,Pr ss c)(ZF:-1<=sp/\sp<=3):
 Ok (kM code ss dd (i:Int) 1 trap count pc call args data t v rg o dat sp w bs key cs ls ts) (Qt n key ss bs):=by
 have hL:=h.lay;have Yc:=h.tlen;obtain⟨Zy,Yp⟩:=hR.hkind rfl;have hargs:=hR.hargs;obtain⟨Xm,Zh⟩:=xt (key:=key) hL hv;obtain⟨th,Zv⟩:∃th,ts[i]?=some th:=⟨_,oGE (by omega)⟩;have hok:=h.thr th (dP Zv);have hc0:=hok.count;have Y0:=(oGS Zv).1;dsimp only at Xm;unfold kM;delta dO;rw[dL,Xm,ox hR.hcall];simp only[oBS,bne_self_eq_false,oCF];refine Ok.get Y0 λ_ _=>?_;have ZV:=pW (key:=key) (ct:=(wN bs key (t,v,rg,o)).1) (cv:=(wN bs key (t,v,rg,o)).2) h hi Zh
 have buf:kH call=2->dat.length>0->∃a:DCn,args[1]?=some a/\Pr ss a/\a.1=1/\∃y,dY gl NN (i,dat,(dat.length:Int),0,bs,key,cs,ls,ts,code,ss,dd,(i:Int),1,trap,count,pc,call,args,data,t,v,rg,o,dat,sp,w,(wN bs key (t,v,rg,o)).1,(wN bs key (t,v,rg,o)).2,a.2.2.1,a.2.2.2,())=some y /\
  ((∃Z5 Z2,y=.inl (false,bs,key,Z5,Z2,ts,()))\/(∃Z5 Z2 z f,y=.inr (i,dat,(dat.length:Int),z,false,bs,key,Z5,Z2,ts,code,ss,dd,(i:Int),1,trap,count,pc,call,args,data,t,v,rg,o,dat,sp,w,(wN bs key (t,v,rg,o)).1,(wN bs key (t,v,rg,o)).2,a.2.2.1,f,())/\jJ (RK bs ss) Z5 Z2)):=by
  intro hb Z1
  have hkk:(kB call)[1]?=some 80:=by
   have:call=2\/call=14:=by unfold kH at hb;split at hb<;>first|omega|(split at hb<;>omega)
   rcases this with rfl|rfl<;>rfl
  have XF:=(oGS hkk).1;obtain⟨a,ha⟩:∃a,args[1]?=some a:=⟨_,oGE (by omega)⟩;have XT:=hargs.2 a (dP ha);have Z0:=Yp 1 80 a hkk ha
  have Yh:a.1=1:=by unfold HY at Z0;simpa using Z0
  have ha32:0<=a.2.2.2/\a.2.2.2<=32:=by
   rcases XT with⟨g,_⟩|⟨_,_,_,z,g1,g2,g3⟩
   ·omega
   ·have:=hL.1.2.2 z (dP g1);omega
  refine⟨a,ha,XT,Yh,?_⟩
  refine gy (f:=gl) (n:=NN) (P:=λs'=>∃k:Nat,∃Z5 Z2,s'=(i,dat,(dat.length:Int),(k:Int),bs,key,Z5,Z2,ts,code,ss,dd,(i:Int),1,trap,count,pc,call,args,data,t,v,rg,o,dat,sp,w,(wN bs key (t,v,rg,o)).1,(wN bs key (t,v,rg,o)).2,a.2.2.1,a.2.2.2+k,())/\k<=dat.length/\jJ (RK bs ss) Z5 Z2)
   (R:=λy=>(∃Z5 Z2,y=.inl (false,bs,key,Z5,Z2,ts,()))\/(∃Z5 Z2 z f,y=.inr (i,dat,(dat.length:Int),z,false,bs,key,Z5,Z2,ts,code,ss,dd,(i:Int),1,trap,count,pc,call,args,data,t,v,rg,o,dat,sp,w,(wN bs key (t,v,rg,o)).1,(wN bs key (t,v,rg,o)).2,a.2.2.1,f,())/\jJ (RK bs ss) Z5 Z2))
   (m:=λs'=>(s'.2.2.1-s'.2.2.2.1).toNat) ⟨0,cs,ls,by simp,by omega,h.mem⟩ (by unfold NN;dsimp only;omega) ?_
  rintro _ ⟨k,Z5,Z2,rfl,hk,hm⟩;unfold gl;dsimp only
  (with_reducible refine dF (λZ9=>?_) λZ9=>?_)
  ·rw[dL];simp only[oBS];refine Ok.get (by omega) λc hc=>?_;obtain⟨Z7,Yb⟩:=xt (key:=key) hL (hd.2 c (dP hc));rw[Z7];simp only[oBS,bne_self_eq_false,oCF];refine Ae.bind ?_;rintro⟨q,_⟩ hin;dsimp only at hin⊢
   (with_reducible refine dF (λZX=>?_) λZX=>?_)
   ·exact Ok.ret (.inl ⟨_,_,rfl⟩)
   ·obtain⟨g1,g2,z,g3,g4⟩:=hin ZX;obtain⟨ad,ea,a0,a1,_⟩:=Aq (key:=key) hL g1 g3 g2 g4;rw[ea];simp only[oBS];refine(uw hm ⟨a0,a1⟩ Yb).bind ?_;rintro _ ⟨Va,Vn,rfl,hm2⟩;dsimp only;rw[dQ (x:=a.2.2.2+k+1) (by omega) (by omega),dQ (x:=(k:Int)+1) (by omega) (by omega)];exact Ok.ret ⟨⟨k+1,_,_,by rw[show a.2.2.2+((k+1:Nat):Int)=a.2.2.2+k+1 by omega];rfl,by omega,hm2⟩,by dsimp only;omega⟩
  ·exact Ok.ret (.inr ⟨_,_,_,_,rfl,hm⟩)
 rcases qC hR.hcall with rfl|rfl|rfl|rfl|rfl|rfl|rfl|rfl|rfl|rfl|rfl|rfl|rfl|rfl|rfl|rfl
 case inr.inr.inl=>
  simp only[show((kH 2)==2)=true from rfl,oCT];by_cases Z1:dat.length>0
  ·obtain⟨a,ha,XT,Yh,y,ey,hy⟩:=buf rfl Z1;simp only[oDT (show((dat.length:Nat):Int)>0 by omega),oCT,show dJ args 1=some a from ha,oBS,kR XT,oNT,oCF,bne_eq_false_iff_eq.2 Yh,ey]
   rcases hy with⟨Z5,Z2,rfl⟩|⟨Z5,Z2,z,f,rfl,hm⟩
   ·exact xu
   ·simp only[Int.reduceBEq,oCF];exact pW (h.mk_mem hm) hi Zh
  ·simp only[oDF (show ¬((dat.length:Nat):Int)>0 by omega),oCF,Int.reduceBEq];exact ZV
 case inr.inr.inr.inr.inr.inr.inr.inr.inr.inr.inr.inr.inr.inr.inl=>
  simp only[show((kH 14)==2)=true from rfl,oCT];by_cases Z1:dat.length>0
  ·obtain⟨a,ha,XT,Yh,y,ey,hy⟩:=buf rfl Z1;simp only[oDT (show((dat.length:Nat):Int)>0 by omega),oCT,show dJ args 1=some a from ha,oBS,kR XT,oNT,oCF,bne_eq_false_iff_eq.2 Yh,ey]
   rcases hy with⟨Z5,Z2,rfl⟩|⟨Z5,Z2,z,f,rfl,hm⟩
   ·exact xu
   ·simp only[Int.reduceBEq,oCF];exact pW (h.mk_mem hm) hi Zh
  ·simp only[oDF (show ¬((dat.length:Nat):Int)>0 by omega),oCF,Int.reduceBEq];exact ZV
 case inr.inr.inr.inr.inr.inr.inr.inr.inr.inr.inr.inr.inl=>
  obtain⟨a,ha⟩:∃a,args[0]?=some a:=⟨_,oGE (by rw[Zy];decide)⟩;have hva:=(hargs.2 a (dP ha)).val;simp only[show((kH 12)==2)=false from rfl,oCF,Int.reduceBEq,oCT,show dJ args 0=some a from ha,oBS];rw[dT (x:=a.2.1) (by have:=hva.1;omega) (by have:=hva.2;omega)];by_cases h1:a.2.1>255
  ·simp only[oDT h1,oCT];exact xu
  by_cases h2:a.1=0
  ·simp only[oDF h1,oCF,bne_eq_false_iff_eq.2 h2,show dJ ts i=some th from Zv,oBS,dX Zv];exact pW (h.set h.mem ⟨hok.state,hok.len,hok.regs,hok.pc,hok.count,⟨by dsimp only;have:=hva.1;omega,by dsimp only;omega⟩,hok.saved,hok.trap,hok.code⟩) hi Zh
  ·simp only[oDF h1,oCF,bne_iff_ne.2 h2,oCT];exact xu
 case inr.inr.inr.inr.inr.inr.inr.inr.inr.inr.inl=>
  obtain⟨a,ha⟩:∃a,args[0]?=some a:=⟨_,oGE (by rw[Zy];decide)⟩;obtain⟨c,hc⟩:∃c,args[1]?=some c:=⟨_,oGE (by rw[Zy];decide)⟩;have hva:=(hargs.2 a (dP ha)).val;obtain⟨Z7,Yb⟩:=xt (key:=key) hL (hargs.2 c (dP hc));simp only[show((kH 10)==2)=false from rfl,oCF,Int.reduceBEq,oCT];by_cases hsp0:sp>=0
  ·obtain⟨j,rfl⟩:∃j:Nat,sp=j:=⟨sp.toNat,by omega⟩;obtain⟨tj,XA⟩:∃tj,ts[j]?=some tj:=⟨_,oGE (by omega)⟩;simp only[oDT hsp0,oCT,show dJ args 0=some a from ha,show dJ args 1=some c from hc,oBS,Z7,bne_self_eq_false,oCF,dL,show dJ ts j=some tj from XA];rw[dT (x:=a.2.1) (by have:=hva.1;omega) (by have:=hva.2;omega)];by_cases h0:tj.1=0
   ·by_cases h1:a.2.1>255
    ·simp only[bne_eq_false_iff_eq.2 h0,oCF,oDT h1,oCT,oBS];exact xu
    by_cases h2:a.1=0
    ·simp only[bne_eq_false_iff_eq.2 h0,oDF h1,oCF,bne_eq_false_iff_eq.2 h2,oBS,show dJ args 0=some a from ha,dT (x:=a.2.1) (by have:=hva.1;omega) (by have:=hva.2;omega),Ge,dL,show dJ ts j=some tj from XA,dX XA];refine pW (h.set h.mem (zK rfl (all_cons Yb ?_) ⟨hva.1,by omega⟩ (by omega))) hi Zh;exact all_cons (iH (by decide)) (all_cons (iH (by decide)) (all_cons (iH (by decide)) (all_cons (iH (by decide)) (all_cons (iH (by decide)) (all_cons (iH (by decide)) (all_cons (iH (by decide)) ek))))))
    ·simp only[bne_eq_false_iff_eq.2 h0,oDF h1,oCF,bne_iff_ne.2 h2,oCT,oBS];exact xu
   ·simp only[bne_iff_ne.2 h0,oCT,oBS];exact xu
  ·simp only[oDF hsp0,oCF];exact ZV
 all_goals
  simp only[show((kH 0)==2)=false from rfl,show((kH 1)==2)=false from rfl,show((kH 3)==2)=false from rfl,show((kH 4)==2)=false from rfl,show((kH 5)==2)=false from rfl,show((kH 6)==2)=false from rfl,show((kH 7)==2)=false from rfl,
   show((kH 8)==2)=false from rfl,show((kH 9)==2)=false from rfl,show((kH 11)==2)=false from rfl,show((kH 13)==2)=false from rfl,show((kH 15)==2)=false from rfl,oCF,Int.reduceBEq]
  exact ZV
def QB(n key:Int)(ss bs X:List Int)(i:Nat)(r:Bool×(List (Int))×Int×(List DCe)×(List DLn)×(List DTh)×Unit):Prop:=∃Z5 Z2 ZP,r=(true,bs,key,Z5,Z2,ZP,())/\MOk n ss bs Z5 Z2 ZP/\ZP.map (·.1)=X.set i 1
def Ay(st:List Int)(sp:Int):List Int:=if sp=-1 then st else st.set sp.toNat 1
theorem CL{ts:List DTh}{i:Nat}{t t':DTh}(h:ts[i]?=some t)(e:t'.1=t.1):(ts.set i t').map (·.1)=ts.map (·.1):=by
 rw[List.map_set,e];apply List.ext_getElem?;intro j;rw[List.getElem?_set];split
 ·rename_i hij;subst hij;rw[List.getElem?_map,h,List.length_map,oIP (oGS h).1];rfl
 ·rfl
theorem ri{n key ct cv:Int}{ss bs:List Int}{cs:List DCe}{ls:List DLn}{ts:List DTh}{i:Nat}{X:List Int}(h:MOk n ss bs cs ls ts)(hX:ts.map (·.1)=X)(hi:i<4)(hc:m8 (RK bs ss) (ct,cv)):
 Ok ((dJ ts i).bind λ_=>(dJ ts i).bind λRh=>(dJ Rh.2.1 0).bind λ_=>(dJ ts i).bind λRi=>(dJ Ri.2.1 0).bind λ_=>(dJ (List.modify ts i λe=>(e.1,((List.modify e.2.1 0 λ_=>(ct,cv)),e.2.2))) i).bind λ_=>
  some (true,bs,key,cs,ls,List.modify (List.modify ts i λe=>(e.1,((List.modify e.2.1 0 λ_=>(ct,cv)),e.2.2))) i λe=>((1:Int),e.2),())) (QB n key ss bs X i):=by
 have Yc:=h.tlen;obtain⟨t,ht⟩:∃t,ts[i]?=some t:=⟨_,oGE (by omega)⟩;have hg:dJ ts i=some t:=ht;have Y0:=(oGS ht).1;have hok:=h.thr t (dP ht);obtain⟨c,hc0⟩:∃c,t.2.1[0]?=some c:=⟨_,oGE (by have:=hok.len;omega)⟩;simp only[hg,oBS,show dJ t.2.1 0=some c from hc0,dX ht,dX hc0,f9 Y0,my Y0];refine Ok.ret ⟨_,_,_,rfl,h.set h.mem ⟨⟨show(0:Int)<=1 by decide,show(1:Int)<=4 by decide⟩,by dsimp only;rw[List.length_set];exact hok.len,km hok.regs hc,hok.pc,hok.count,hok.handler,hok.saved,hok.trap,hok.code⟩,by rw[List.map_set,hX]⟩
set_option maxHeartbeats 4000000 in
theorem NY{n m key:Int}{code:List DIn}{ss bs:List Int}{dd:List (List Int)}{cs:List DCe}{ls:List DLn}{ts:List DTh}{i:Nat}{trap count pc call:Int}{args data:List DCn}{t v rg o sp:Int}{dat:List DCn}{w:Bool}(h:MOk n ss bs cs ls ts)(hi:i<4)
 (hR:sH m ss (i:Int) 1 trap count pc call args data)(hv:Pr ss (t,v,rg,o))(hd:dat.length<=16/\∀c∈dat,Pr ss c)(hF:KN ss call args)(hD:OY call args dat)(hS:sp=-1\/(call=10/\∃j:Nat,sp=j/\j<4/\∃tj,ts[j]?=some tj/\tj.1=0)):
 Ok (kM code ss dd (i:Int) 1 trap count pc call args data t v rg o dat sp w bs key cs ls ts) (QB n key ss bs (Ay (ts.map (·.1)) sp) i):=by
 have hL:=h.lay;have Yc:=h.tlen;obtain⟨Zy,Yp⟩:=hR.hkind rfl;have hargs:=hR.hargs;obtain⟨Xm,Zh⟩:=xt (key:=key) hL hv;obtain⟨th,Zv⟩:∃th,ts[i]?=some th:=⟨_,oGE (by omega)⟩;have hok:=h.thr th (dP Zv);have hc0:=hok.count;have Y0:=(oGS Zv).1;dsimp only at Xm;unfold kM;delta dO;rw[dL,Xm,ox hR.hcall];simp only[oBS,bne_self_eq_false,oCF];refine Ok.get Y0 λ_ _=>?_
 have hX:call≠10->ts.map (·.1)=Ay (ts.map (·.1)) sp:=λhc=>by
  rcases hS with rfl|⟨ZT,_⟩
  ·rfl
  ·exact absurd ZT hc
 have ZV:=λhc:call≠10=>ri (key:=key) (ct:=(wN bs key (t,v,rg,o)).1) (cv:=(wN bs key (t,v,rg,o)).2) h (hX hc) hi Zh
 have buf:kH call=2->dat.length>0->∃a:DCn,args[1]?=some a/\Pr ss a/\a.1=1/\∃y,dY gl NN (i,dat,(dat.length:Int),0,bs,key,cs,ls,ts,code,ss,dd,(i:Int),1,trap,count,pc,call,args,data,t,v,rg,o,dat,sp,w,(wN bs key (t,v,rg,o)).1,(wN bs key (t,v,rg,o)).2,a.2.2.1,a.2.2.2,())=some y /\
  (∃Z5 Z2 z f,y=.inr (i,dat,(dat.length:Int),z,false,bs,key,Z5,Z2,ts,code,ss,dd,(i:Int),1,trap,count,pc,call,args,data,t,v,rg,o,dat,sp,w,(wN bs key (t,v,rg,o)).1,(wN bs key (t,v,rg,o)).2,a.2.2.1,f,())/\jJ (RK bs ss) Z5 Z2):=by
  intro hb Z1
  have hkk:(kB call)[1]?=some 80:=by
   have:call=2\/call=14:=by unfold kH at hb;split at hb<;>first|omega|(split at hb<;>omega)
   rcases this with rfl|rfl<;>rfl
  have XF:=(oGS hkk).1;obtain⟨a,ha⟩:∃a,args[1]?=some a:=⟨_,oGE (by omega)⟩;have XT:=hargs.2 a (dP ha);have Z0:=Yp 1 80 a hkk ha
  have Yh:a.1=1:=by unfold HY at Z0;simpa using Z0
  have ha32:0<=a.2.2.2/\a.2.2.2<=32:=by
   rcases XT with⟨g,_⟩|⟨_,_,_,z,g1,g2,g3⟩
   ·omega
   ·have:=hL.1.2.2 z (dP g1);omega
  obtain⟨a',q',z',Xu,Wc,V4,Yi⟩:=hF.1 hb;rw[ha]at Xu
  injection Xu with Xu
  subst Xu;obtain⟨_,q2,Y5,To⟩:=hD (λe=>by rw[e]at Z1;exact absurd Z1 (by decide));rw[Wc]at Y5
  injection Y5 with Y5
  subst Y5
  have Ro:0<=a.2.2.1:=by
   rcases XT with⟨g,_⟩|⟨_,_,g,_⟩
   ·omega
   ·exact g
  refine⟨a,ha,XT,Yh,?_⟩
  refine gy (f:=gl) (n:=NN) (P:=λs'=>∃k:Nat,∃Z5 Z2,s'=(i,dat,(dat.length:Int),(k:Int),bs,key,Z5,Z2,ts,code,ss,dd,(i:Int),1,trap,count,pc,call,args,data,t,v,rg,o,dat,sp,w,(wN bs key (t,v,rg,o)).1,(wN bs key (t,v,rg,o)).2,a.2.2.1,a.2.2.2+k,())/\k<=dat.length/\jJ (RK bs ss) Z5 Z2)
   (R:=λy=>(∃Z5 Z2 z f,y=.inr (i,dat,(dat.length:Int),z,false,bs,key,Z5,Z2,ts,code,ss,dd,(i:Int),1,trap,count,pc,call,args,data,t,v,rg,o,dat,sp,w,(wN bs key (t,v,rg,o)).1,(wN bs key (t,v,rg,o)).2,a.2.2.1,f,())/\jJ (RK bs ss) Z5 Z2))
   (m:=λs'=>(s'.2.2.1-s'.2.2.2.1).toNat) ⟨0,cs,ls,by simp,by omega,h.mem⟩ (by unfold NN;dsimp only;omega) ?_
  rintro _ ⟨k,Z5,Z2,rfl,hk,hm⟩;unfold gl;dsimp only
  (with_reducible refine dF (λZ9=>?_) λZ9=>?_)
  ·rw[dL];simp only[oBS];refine Ok.get (by omega) λc hc=>?_;obtain⟨Z7,Yb⟩:=xt (key:=key) hL (hd.2 c (dP hc));rw[Z7];simp only[oBS,bne_self_eq_false,oCF];rw[xP Ro V4 (show 0<=a.2.2.2+k by omega) (show a.2.2.2+k<z' by omega)];simp only[oBS,oNT,oCF]
   ·obtain⟨ad,ea,a0,a1,_⟩:=Aq (key:=key) hL Ro V4 (show 0<=a.2.2.2+k by omega) (show a.2.2.2+k<z' by omega);rw[ea];simp only[oBS];refine(uw hm ⟨a0,a1⟩ Yb).bind ?_;rintro _ ⟨Va,Vn,rfl,hm2⟩;dsimp only;rw[dQ (x:=a.2.2.2+k+1) (by omega) (by omega),dQ (x:=(k:Int)+1) (by omega) (by omega)];exact Ok.ret ⟨⟨k+1,_,_,by rw[show a.2.2.2+((k+1:Nat):Int)=a.2.2.2+k+1 by omega];rfl,by omega,hm2⟩,by dsimp only;omega⟩
  ·exact Ok.ret ⟨_,_,_,_,rfl,hm⟩
 rcases qC hR.hcall with rfl|rfl|rfl|rfl|rfl|rfl|rfl|rfl|rfl|rfl|rfl|rfl|rfl|rfl|rfl|rfl
 case inr.inr.inl=>
  simp only[show((kH 2)==2)=true from rfl,oCT];by_cases Z1:dat.length>0
  ·obtain⟨a,ha,XT,Yh,y,ey,hy⟩:=buf rfl Z1;simp only[oDT (show((dat.length:Nat):Int)>0 by omega),oCT,show dJ args 1=some a from ha,oBS,kR XT,oNT,oCF,bne_eq_false_iff_eq.2 Yh,ey];obtain⟨Z5,Z2,z,f,rfl,hm⟩:=hy;simp only[Int.reduceBEq,oCF];exact ri (h.mk_mem hm) (hX (by decide)) hi Zh
  ·simp only[oDF (show ¬((dat.length:Nat):Int)>0 by omega),oCF,Int.reduceBEq];exact ZV (by decide)
 case inr.inr.inr.inr.inr.inr.inr.inr.inr.inr.inr.inr.inr.inr.inl=>
  simp only[show((kH 14)==2)=true from rfl,oCT];by_cases Z1:dat.length>0
  ·obtain⟨a,ha,XT,Yh,y,ey,hy⟩:=buf rfl Z1;simp only[oDT (show((dat.length:Nat):Int)>0 by omega),oCT,show dJ args 1=some a from ha,oBS,kR XT,oNT,oCF,bne_eq_false_iff_eq.2 Yh,ey];obtain⟨Z5,Z2,z,f,rfl,hm⟩:=hy;simp only[Int.reduceBEq,oCF];exact ri (h.mk_mem hm) (hX (by decide)) hi Zh
  ·simp only[oDF (show ¬((dat.length:Nat):Int)>0 by omega),oCF,Int.reduceBEq];exact ZV (by decide)
 case inr.inr.inr.inr.inr.inr.inr.inr.inr.inr.inr.inr.inl=>
  obtain⟨a,ha⟩:∃a,args[0]?=some a:=⟨_,oGE (by rw[Zy];decide)⟩;have hva:=(hargs.2 a (dP ha)).val;simp only[show((kH 12)==2)=false from rfl,oCF,Int.reduceBEq,oCT,show dJ args 0=some a from ha,oBS];rw[dT (x:=a.2.1) (by have:=hva.1;omega) (by have:=hva.2;omega)];obtain⟨a',Xu,h2,h1⟩:=hF.2 (.inr rfl);rw[ha]at Xu
  injection Xu with Xu
  subst Xu
  have h1:¬a.2.1>255:=by omega
  ·simp only[oDF h1,oCF,bne_eq_false_iff_eq.2 h2,show dJ ts i=some th from Zv,oBS,dX Zv];exact ri (h.set h.mem ⟨hok.state,hok.len,hok.regs,hok.pc,hok.count,⟨by dsimp only;have:=hva.1;omega,by dsimp only;omega⟩,hok.saved,hok.trap,hok.code⟩) ((CL (t':=(th.1,th.2.1,th.2.2.1,th.2.2.2.1,a.2.1,th.2.2.2.2.2)) Zv rfl).trans (hX (by decide))) hi Zh
 case inr.inr.inr.inr.inr.inr.inr.inr.inr.inr.inl=>
  obtain⟨a,ha⟩:∃a,args[0]?=some a:=⟨_,oGE (by rw[Zy];decide)⟩;obtain⟨c,hc⟩:∃c,args[1]?=some c:=⟨_,oGE (by rw[Zy];decide)⟩;have hva:=(hargs.2 a (dP ha)).val;obtain⟨Z7,Yb⟩:=xt (key:=key) hL (hargs.2 c (dP hc));simp only[show((kH 10)==2)=false from rfl,oCF,Int.reduceBEq,oCT];rcases hS with rfl|⟨_,j,rfl,hj4,tj,XA,h0⟩
  ·simp only[oDF (show ¬(-1:Int)>=0 by decide),oCF];exact ri h rfl hi Zh
  ·obtain⟨a',Xu,h2,h1⟩:=hF.2 (.inl rfl);rw[ha]at Xu
   injection Xu with Xu
   subst Xu
   have h1:¬a.2.1>255:=by omega
   simp only[oDT (show(j:Int)>=0 by omega),oCT,show dJ args 0=some a from ha,show dJ args 1=some c from hc,oBS,Z7,bne_self_eq_false,oCF,dL,show dJ ts j=some tj from XA];rw[dT (x:=a.2.1) (by have:=hva.1;omega) (by have:=hva.2;omega)];simp only[bne_eq_false_iff_eq.2 h0,oDF h1,oCF,bne_eq_false_iff_eq.2 h2,oBS,show dJ args 0=some a from ha,dT (x:=a.2.1) (by have:=hva.1;omega) (by have:=hva.2;omega),Ge,dL,show dJ ts j=some tj from XA,dX XA];refine ri (h.set h.mem (zK rfl (all_cons Yb ?_) ⟨hva.1,by omega⟩ (by omega))) ?_ hi Zh
   ·exact all_cons (iH (by decide)) (all_cons (iH (by decide)) (all_cons (iH (by decide)) (all_cons (iH (by decide)) (all_cons (iH (by decide)) (all_cons (iH (by decide)) (all_cons (iH (by decide)) ek))))))
   ·unfold Ay;rw[List.map_set,oIN (by omega),oTN]
 all_goals
  simp only[show((kH 0)==2)=false from rfl,show((kH 1)==2)=false from rfl,show((kH 3)==2)=false from rfl,show((kH 4)==2)=false from rfl,show((kH 5)==2)=false from rfl,show((kH 6)==2)=false from rfl,show((kH 7)==2)=false from rfl,
   show((kH 8)==2)=false from rfl,show((kH 9)==2)=false from rfl,show((kH 11)==2)=false from rfl,show((kH 13)==2)=false from rfl,show((kH 15)==2)=false from rfl,oCF,Int.reduceBEq]
  exact ZV (by decide)
def InQ(qs:List (List Int))(x:Int):Prop:=∃(j:Nat)(q:List Int),qs[j]?=some q/\x∈q
def yK(qs:List (List Int)):Prop:=∀(i j:Nat)(q r:List Int)(x:Int),qs[i]?=some q->qs[j]?=some r->x∈q->x∈r->i=j
def MB(qs:List (List Int))(n:Int)(qs':List (List Int)):Prop:=(n=-1/\qs'=qs)\/∃(j:Nat)(q:List Int),qs[j]?=some (n::q)/\qs'=qs.set j q
def KL(qs:List (List Int))(t U1:Int)(qs':List (List Int)):Prop:=(U1≠1/\qs'=qs)\/(U1=1/\(∀q∈qs,t ∉ q)/\∃(j:Nat)(q:List Int),qs[j]?=some q/\qs'=qs.set j (q++[t]))
theorem nS{α:Type}{l:List α}{i j:Nat}{a b:α}(h:(l.set i a)[j]?=some b):(i=j/\b=a)\/(i≠j/\l[j]?=some b):=by
 rw[List.getElem?_set]at h;split at h
 ·rename_i e;split at h
  ·injection h with h;exact .inl ⟨e,h.symm⟩
  ·cases h
 ·rename_i e;exact .inr ⟨e,h⟩
theorem N2{ow:List Int}{qs qs':List (List Int)}{n:Int}(hl:ib ow qs)(hX:yK qs)(h:MB qs n qs')(hn:n≠-1):InQ qs n/\yK qs'/\∀y,InQ qs' y->InQ qs y/\y≠n:=by
 rcases h with⟨h,_⟩|⟨j,q,hj,rfl⟩
 ·exact absurd h hn
 ·have Zr:=(hl.queue _ (dP hj)).1;rw[List.nodup_cons]at Zr;refine⟨⟨j,_,hj,List.mem_cons_self ..⟩,λa b u v x ha hb hu hv=>?_,λy hy=>?_⟩
  ·rcases nS ha with⟨e1,e2⟩|⟨e1,e2⟩
   ·rcases nS hb with⟨e3,e4⟩|⟨e3,e4⟩
    ·exact e1.symm.trans e3
    ·exact e1▸hX j b _ v x hj e4 (List.mem_cons_of_mem _ (e2▸hu)) hv
   ·rcases nS hb with⟨e3,e4⟩|⟨e3,e4⟩
    ·exact e3▸hX a j u _ x e2 hj hu (List.mem_cons_of_mem _ (e4▸hv))
    ·exact hX a b u v x e2 e4 hu hv
  ·obtain⟨a,u,ha,hu⟩:=hy
   rcases nS ha with⟨e1,e2⟩|⟨e1,e2⟩
   ·subst e2;exact⟨⟨j,_,hj,List.mem_cons_of_mem _ hu⟩,λe=>Zr.1 (e▸hu)⟩
   ·refine⟨⟨a,u,e2,hu⟩,λe=>e1 ?_⟩;exact hX j a _ u n hj e2 (List.mem_cons_self ..) (e▸hu)
theorem Pi{qs qs':List (List Int)}{t U1:Int}(hX:yK qs)(h:KL qs t U1 qs'):yK qs'/\∀y,InQ qs' y->InQ qs y\/(y=t/\U1=1):=by
 rcases h with⟨_,rfl⟩|⟨h1,Xi,j,q,hj,rfl⟩
 ·exact⟨hX,λy hy=>.inl hy⟩
 ·refine⟨λa b u v x ha hb hu hv=>?_,λy hy=>?_⟩
  ·have key:∀(b:Nat)(v:List Int),j≠b->qs[b]?=some v->x∈q++[t]->x∈v->j=b:=λb v hne hb hu hv=>by
    rcases List.mem_append.1 hu with hu|hu
    ·exact hX j b q v x hj hb hu hv
    ·exact absurd (List.mem_singleton.1 hu▸hv) (Xi v (dP hb))
   rcases nS ha with⟨e1,e2⟩|⟨e1,e2⟩
   ·rcases nS hb with⟨e3,e4⟩|⟨e3,e4⟩
    ·exact e1.symm.trans e3
    ·exact e1▸key b v e3 e4 (e2▸hu) hv
   ·rcases nS hb with⟨e3,e4⟩|⟨e3,e4⟩
    ·exact e3▸(key a u e1 e2 (e4▸hv) hu).symm
    ·exact hX a b u v x e2 e4 hu hv
  ·obtain⟨a,u,ha,hu⟩:=hy
   rcases nS ha with⟨e1,e2⟩|⟨e1,e2⟩
   ·subst e2;rcases List.mem_append.1 hu with hu|hu
    ·exact .inl ⟨j,q,hj,hu⟩
    ·exact .inr ⟨List.mem_singleton.1 hu,h1⟩
   ·exact .inl ⟨a,u,e2,hu⟩
structure MA (qs:List (List Int))(nx:List Int)(qs':List (List Int)):Prop where
 was:∀x∈nx,InQ qs x
 nd:nx.Nodup
 now:∀y,InQ qs' y->InQ qs y/\y ∉ nx
 cross:yK qs'
theorem MA.nil{qs:List (List Int)}(h:yK qs):MA qs [] qs:=⟨ek,List.nodup_nil,λy hy=>⟨hy,by simp⟩,h⟩
theorem MA.snoc{ow:List Int}{qs qs1 Ug:List (List Int)}{nx:List Int}{n:Int}(h:MA qs nx qs1)(hl:ib ow qs1)(hn:n>=0)(hp:MB qs1 n Ug):MA qs (List.append nx [n]) Ug:=by
 obtain⟨h1,h2,h3⟩:=N2 hl h.cross hp (by omega);obtain⟨g1,g2⟩:=h.now n h1;refine⟨gU h.was (all_cons g1 ek),z0 h.nd g2,λy hy=>?_,h2⟩;obtain⟨k1,k2⟩:=h3 y hy;obtain⟨k3,k4⟩:=h.now y k1;refine⟨k3,λhm=>?_⟩;rcases List.mem_append.1 hm with hm|hm
 ·exact k4 hm
 ·exact k2 (List.mem_singleton.1 hm)
theorem wJ{α:Type}{l:List α}{i:Nat}{a:α}(h:l[i]?=some a):l.set i a=l:=by
 apply List.ext_getElem?;intro j;rw[List.getElem?_set];split
 ·rename_i e;subst e;split
  ·exact h.symm
  ·rename_i hn;rw[oGN (by omega)]
 ·rfl
theorem Gp{ow:List Int}{qs:List (List Int)}{lock t:Int}(h:ib ow qs):Ok (gM ow qs lock t) λr=>∃Zi qs' n b,r=(Zi,qs',n,b,())/\ib Zi qs'/\(-1<=n/\n<=3)/\MB qs n qs'/\(n>=0->b=true):=by
 unfold gM;rw[yp h];simp only[oBS];obtain⟨h1,h2,h3,h4⟩:=id h;refine Ok.bind (P:=λr=>∃b,r=(lock,b,(),(),ow,qs,())/\(b=false->0<=lock/\lock<4)) ?_ ?_
 ·(with_reducible refine dF (λZ9=>?_) λZ9=>?_)
  ·exact Ok.ret ⟨true,rfl,λh=>by cases h⟩
  ·(with_reducible refine dF (λZX=>?_) λZX=>?_)
   ·exact Ok.ret ⟨true,rfl,λh=>by cases h⟩
   ·refine Ok.nat (by omega) λj hj=>?_;refine Ok.get (by omega) λx hx=>?_;exact Ok.ret ⟨_,rfl,λ_=>⟨by omega,by omega⟩⟩
 rintro _ ⟨b,rfl,hb⟩;dsimp only;refine Ok.cond (λ_=>Ok.ret ⟨_,_,_,_,rfl,h,by omega,.inl ⟨rfl,rfl⟩,λhn=>absurd hn (by decide)⟩) λhbf=>?_;obtain⟨l0,l1⟩:=hb hbf;obtain⟨j,rfl⟩:∃j:Nat,lock=j:=⟨lock.toNat,by omega⟩;obtain⟨o,ho⟩:∃o,ow[j]?=some o:=⟨_,oGE (by omega)⟩;obtain⟨q,hq⟩:∃q,qs[j]?=some q:=⟨_,oGE (by omega)⟩;have go:dJ ow j=some o:=ho;have gq:dJ qs j=some q:=hq;have gm:∀f:Int->Int,dJ (List.modify ow j f) j=some (f o):=λf=>rq ho;have gm2:∀f g:Int->Int,dJ (List.modify (List.modify ow j f) j g) j=some (g (f o)):=λf g=>rq (rq ho);delta dO;simp only[dL,oBS,go,gq,gm,gm2];have XF:ib (List.modify ow j λ_=>-1) qs:=⟨by rw[oLM];exact h1,h2,jC h3 λ_ _=>⟨by omega,by omega⟩,h4⟩
 (with_reducible refine dF (λhcc=>?_) λhcc=>?_)
 ·obtain⟨x,hx⟩:∃x,q[0]?=some x:=⟨_,oGE (by omega)⟩;have gx:dJ q 0=some x:=hx;have XN:=(h4 q (dP hq)).2 x (dP hx);simp only[gx,oBS];refine dH (by unfold gY;simp;omega) ?_
  obtain⟨y,q',rfl⟩:∃y q',q=y::q':=by
   cases q with
   |nil=>cases hx
   |cons y q'=>exact⟨y,q',rfl⟩
  obtain rfl:y=x:=by injection hx
  have hw:lT (y::q') 1 (Nat.sub (y::q').length 1)=q':=by
   show((y::q').drop 1).take ((y::q').length-1)=q';rw[List.drop_succ_cons,List.drop_zero,oLC,Nat.add_sub_cancel,List.take_length]
  refine Ok.ret ⟨_,_,_,_,rfl,⟨by rw[oLM,oLM];exact h1,by rw[oLM];exact h2,jC (jC h3 λ_ _=>⟨by omega,by omega⟩) λ_ _=>⟨by omega,by omega⟩,jC h4 λ_ _=>?_⟩,by omega,.inr ⟨j,q',hq,by rw[hw,dX hq]⟩,λ_=>rfl⟩;obtain⟨q1,q2⟩:=h4 _ (dP hq);unfold lT;have hs:(List.take (Nat.sub (y::q').length 1) (List.drop 1 (y::q'))).Sublist (y::q'):=(List.take_sublist _ _).trans (List.drop_sublist _ _);exact⟨q1.sublist hs,λt ht=>q2 t (hs.subset ht)⟩
 ·exact Ok.ret ⟨_,_,_,_,rfl,XF,by omega,.inl ⟨rfl,rfl⟩,λ_=>rfl⟩
theorem O5{ow:List Int}{qs:List (List Int)}{lock t:Int}(h:ib ow qs)(ht:0<=t/\t<=3):Ok (nj ow qs lock t) λr=>∃Zi qs' n,r=(Zi,qs',n,())/\ib Zi qs'/\KL qs t n qs':=by
 unfold nj;rw[yp h];simp only[oBS];obtain⟨h1,h2,h3,h4⟩:=id h;refine Ok.bind (P:=λr=>∃b,r=(lock,t,b,ow,qs,(),(),ow,qs,())/\(b=false->0<=lock/\lock<4)) ?_ ?_
 ·(with_reducible refine dF (λZ9=>?_) λZ9=>?_)
  ·exact Ok.ret ⟨true,rfl,λh=>by cases h⟩
  ·(with_reducible refine dF (λZX=>?_) λZX=>?_)
   ·exact Ok.ret ⟨true,rfl,λh=>by cases h⟩
   ·refine Ok.nat (by omega) λj hj=>?_;refine Ok.get (by omega) λx hx=>?_;exact Ok.ret ⟨_,rfl,λ_=>⟨by omega,by omega⟩⟩
 rintro _ ⟨b,rfl,hb⟩;dsimp only;refine Ok.cond (λ_=>Ok.ret ⟨_,_,_,rfl,h,.inl ⟨by decide,rfl⟩⟩) λhbf=>?_;obtain⟨l0,l1⟩:=hb hbf;delta dO
 try dsimp only
 obtain⟨r,e,hr⟩:=gy (f:=mI) (n:=NN) (s:=(lock,t,qs,(qs.length:Int),0,ow,qs,(),(),ow,qs,())) (P:=λs'=>∃k:Nat,s'=(lock,t,qs,(qs.length:Int),(k:Int),ow,qs,(),(),ow,qs,())/\k<=qs.length/\∀(i:Nat) q,i<k->qs[i]?=some q->t ∉ q)
  (R:=λr=>r=.inl (2,ow,qs,())\/((∃a b c,r=.inr (lock,t,a,b,c,false,ow,qs,(),(),ow,qs,()))/\∀q∈qs,t ∉ q)) (m:=λs'=>(s'.2.2.2.1-s'.2.2.2.2.1).toNat) ⟨0,rfl,by omega,λi q hi=>by omega⟩ (by unfold NN;dsimp only;omega) (by
   rintro _ ⟨k,rfl,hk,ZI⟩;unfold mI;dsimp only
   (with_reducible refine dF (λZ9=>?_) λZ9=>?_)
   ·obtain⟨q,hq⟩:∃q,qs[k]?=some q:=⟨_,oGE (by omega)⟩;have gq:dJ qs k=some q:=hq;have q3:=h.qlen4 (dP hq);delta dO;simp only[dL,oBS,gq]
    obtain⟨r,e,hr⟩:=gy (f:=mJ) (n:=NN) (s:=(lock,t,qs,(qs.length:Int),(k:Int),q,(q.length:Int),0,ow,qs,(),(),ow,qs,())) (P:=λs'=>∃j:Nat,s'=(lock,t,qs,(qs.length:Int),(k:Int),q,(q.length:Int),(j:Int),ow,qs,(),(),ow,qs,())/\j<=q.length/\∀(i:Nat) x,i<j->q[i]?=some x->x≠t)
     (R:=λr=>r=.inl (2,ow,qs,())\/((∃a b c,r=.inr (lock,t,qs,(qs.length:Int),(k:Int),a,b,c,false,ow,qs,(),(),ow,qs,()))/\t ∉ q)) (m:=λs'=>(s'.2.2.2.2.2.2.1-s'.2.2.2.2.2.2.2.1).toNat) ⟨0,rfl,by omega,λi x hi=>by omega⟩ (by unfold NN;dsimp only;omega) (by
      rintro _ ⟨j,rfl,hj,hne⟩;unfold mJ;dsimp only
      (with_reducible refine dF (λZX=>?_) λZX=>?_)
      ·obtain⟨x,hx⟩:∃x,q[j]?=some x:=⟨_,oGE (by omega)⟩;have gx:dJ q j=some x:=hx;simp only[dL,oBS,gx]
       (with_reducible refine dF (λhcc=>?_) λhcc=>?_)
       ·exact Ok.ret (.inl rfl)
       ·(simp (disch:=omega) only [dQ,dZ,dT,dR])
        exact Ok.ret ⟨⟨j+1,rfl,by omega,GK hne hx hcc⟩,by dsimp only;omega⟩
      ·refine Ok.ret (.inr ⟨⟨_,_,_,rfl⟩,λhm=>?_⟩);obtain⟨i,hi⟩:=List.getElem?_of_mem hm
       exact hne i t (by have:=(oGS hi).1;omega) hi rfl)
    rw[e];rcases hr with rfl|⟨⟨a,b,c,rfl⟩,Xi⟩
    ·exact Ok.ret (.inl rfl)
    ·dsimp only
     (simp (disch:=omega) only [dQ,dZ,dT,dR])
     refine Ok.ret ⟨⟨k+1,rfl,by omega,λi q' hi Wc=>?_⟩,by dsimp only;omega⟩;by_cases hik:i=k
     ·subst hik;rw[hq]at Wc
      injection Wc with Wc
      rw[<- Wc];exact Xi
     ·exact ZI i q' (by omega) Wc
   ·refine Ok.ret (.inr ⟨⟨_,_,_,rfl⟩,λq hq=>?_⟩);obtain⟨i,hi⟩:=List.getElem?_of_mem hq
    exact ZI i q (by have:=(oGS hi).1;omega) hi)
 rw[e];rcases hr with rfl|⟨⟨a,b,c,rfl⟩,Xi⟩
 ·exact Ok.ret ⟨_,_,_,rfl,h,.inl ⟨by decide,rfl⟩⟩
 ·dsimp only;obtain⟨j,rfl⟩:∃j:Nat,lock=j:=⟨lock.toNat,by omega⟩;obtain⟨o,ho⟩:∃o,ow[j]?=some o:=⟨_,oGE (by omega)⟩;obtain⟨q,hq⟩:∃q,qs[j]?=some q:=⟨_,oGE (by omega)⟩;have go:dJ ow j=some o:=ho;have gq:dJ qs j=some q:=hq;simp only[dL,oBS,go,gq]
  (with_reducible refine dF (λWM=>?_) λWM=>?_)
  ·exact Ok.ret ⟨_,_,_,rfl,⟨by rw[oLM];exact h1,h2,jC h3 λ_ _=>⟨by omega,ht.2⟩,h4⟩,.inl ⟨by decide,rfl⟩⟩
  ·have q3:=h.qlen4 (dP hq);refine dH (dU (by simp;omega)) (dH (by simp) (Ok.ret ⟨_,_,_,rfl,⟨h1,by rw[oLM];exact h2,h3,jC h4 λ_ _=>⟨?_,?_⟩⟩,.inr ⟨rfl,Xi,j,q,hq,by rw[dX hq];rfl⟩⟩))
   ·exact z0 (h4 q (dP hq)).1 (Xi q (dP hq))
   ·exact gU (h4 q (dP hq)).2 (all_cons ht ek)
theorem PF{ow:List Int}{qs:List (List Int)}{t:Int}(h:ib ow qs)(ht:¬InQ qs t)(hX:yK qs):Ok (nn ow qs t) λr=>∃Zi qs' nx,r=(Zi,qs',nx,())/\ib Zi qs'/\nx.length<=4/\(∀x∈nx,0<=x/\x<=3)/\MA qs nx qs':=by
 unfold nn;rw[yp h];delta dO;simp only[oBS];have h2:=h.qlen;have Xi:∀(k:Nat) q,qs[k]?=some q->t ∉ q:=λk q hq hm=>ht ⟨k,q,hq,hm⟩;refine Ok.loop (P:=λs'=>∃k:Nat,s'=(t,(qs.length:Int),(k:Int),(),(),ow,qs,())/\k<=qs.length) (R:=λr=>∃a b c,r=(t,a,b,c,(),(),ow,qs,())) (m:=λs'=>(s'.2.1-s'.2.2.1).toNat) ⟨0,rfl,by omega⟩ (by unfold NN;dsimp only;omega) ?_ ?_
 ·rintro _ ⟨k,rfl,hk⟩;unfold p6;dsimp only
  (with_reducible refine dF (λZ9=>?_) λZ9=>?_)
  ·obtain⟨q,hq⟩:∃q,qs[k]?=some q:=⟨_,oGE (by omega)⟩;have gq:dJ qs k=some q:=hq;have q3:=h.qlen4 (dP hq);delta dO;simp only[dL,oBS,gq]
   refine Ok.loop (P:=λs'=>∃j:Nat,s'=(t,(k:Int),(qs.length:Int),(k:Int),k,(q.length:Int),(j:Int),(),(),ow,qs,q.take j,())/\j<=q.length)
    (R:=λr=>∃a b c d,r=(t,(k:Int),(qs.length:Int),(k:Int),a,b,c,d,(),(),ow,qs,q,())) (m:=λs'=>(s'.2.2.2.2.2.1-s'.2.2.2.2.2.2.1).toNat) ⟨0,rfl,by omega⟩ (by unfold NN;dsimp only;omega) ?_ ?_
   ·rintro _ ⟨j,rfl,hj⟩;unfold p7;dsimp only
    (with_reducible refine dF (λZX=>?_) λZX=>?_)
    ·obtain⟨x,hx⟩:∃x,q[j]?=some x:=⟨_,oGE (by omega)⟩;have gx:dJ q j=some x:=hx;have Q1:x≠t:=λe=>Xi k q hq (e▸dP hx);simp only[dL,oBS,gq,gx,bne_iff_ne.2 Q1,oCT]
     have Rv:(q.take j).length<=4:=by rw[oLT];omega
     rw[dU (by simp;omega)];simp only[oCT,oBS]
     (simp (disch:=omega) only [dQ,dZ,dT,dR])
     exact Ok.ret ⟨⟨j+1,by rw[List.take_add_one,hx];rfl,by omega⟩,by dsimp only;omega⟩
    ·have:j=q.length:=by omega
     subst this;exact Ok.ret ⟨_,_,_,_,by rw[List.take_length]⟩
   ·rintro _ ⟨a,b,c,d,rfl⟩;dsimp only;simp only[dL,oBS,gq];rw[dX hq,wJ hq]
    (simp (disch:=omega) only [dQ,dZ,dT,dR])
    exact Ok.ret ⟨⟨k+1,rfl,by omega⟩,by dsimp only;omega⟩
  ·exact Ok.ret ⟨_,_,_,rfl⟩
 ·rintro _ ⟨a,b,c,rfl⟩;dsimp only
  refine Ok.loop (P:=λs'=>∃k:Nat,∃Zi qs' nx,s'=(t,4,(k:Int),(),(),Zi,qs',nx,())/\k<=4/\nx.length<=k/\ib Zi qs'/\(∀x∈nx,0<=x/\x<=3)/\MA qs nx qs') (R:=λr=>∃a b c Zi qs' nx,r=(t,a,b,c,(),(),Zi,qs',nx,())/\ib Zi qs'/\nx.length<=4/\(∀x∈nx,0<=x/\x<=3)/\MA qs nx qs') (m:=λs'=>(4-s'.2.2.1).toNat)
   ⟨0,ow,qs,[],by rw[h.olen];rfl,by omega,by simp,h,ek,.nil hX⟩ (by unfold NN;dsimp only;omega) ?_ ?_
  ·rintro _ ⟨k,Zi,qs',nx,rfl,hk,X6,YG,Xy,hp⟩;unfold p5;dsimp only
   (with_reducible refine dF (λZ9=>?_) λZ9=>?_)
   ·refine(Gp YG).bind ?_;rintro _ ⟨ow2,Ug,n,bb,rfl,X5,⟨n0,n1⟩,XH,hbt⟩;dsimp only;refine Ok.bind (P:=λr=>∃S7,r=(t,4,(k:Int),(),(),Zi,qs',S7,ow2,Ug,())/\S7.length<=k+1/\(∀x∈S7,0<=x/\x<=3)/\MA qs S7 Ug) ?_ ?_
    ·by_cases hn:n>=0
     ·have hb:bb=true:=hbt hn;subst hb;simp only[oCT,oDT hn];refine dH (dU (by simp;omega)) (Ok.ret ⟨_,rfl,by rw[fq];simp;omega,gU Xy (all_cons ⟨by omega,n1⟩ ek),hp.snoc YG hn XH⟩)
     ·have hq:Ug=qs':=by
       rcases XH with⟨_,e⟩|⟨j,q,hj,_⟩
       ·exact e
       ·have:=((YG.queue _ (dP hj)).2 n (List.mem_cons_self ..)).1;omega
      subst hq
      cases bb with
      |true=>simp only[oCT,oDF hn,oCF];exact Ok.ret ⟨nx,rfl,by omega,Xy,hp⟩
      |false=>exact Ok.ret ⟨nx,rfl,by omega,Xy,hp⟩
    ·rintro _ ⟨S7,rfl,Wn,hn2,hp2⟩;dsimp only
     (simp (disch:=omega) only [dQ,dZ,dT,dR])
     exact Ok.ret ⟨⟨k+1,_,_,_,rfl,by omega,Wn,X5,hn2,hp2⟩,by dsimp only;omega⟩
   ·exact Ok.ret ⟨_,_,_,_,_,_,rfl,YG,by omega,Xy,hp⟩
  ·rintro _ ⟨a,b,c,Zi,qs',nx,rfl,YG,hn4,Xy,hp⟩;exact Ok.ret ⟨_,_,_,rfl,YG,hn4,Xy,hp⟩
def lS(c:Int×Int×Int×Int):Prop:=
 ((c.1=0\/c.1=2)/\c.2.2.1=0/\c.2.2.2=0/\0<=c.2.1/\c.2.1<=65535)\/
 (c.1=1/\c.2.1=0/\((c.2.2.1=-1/\0<=c.2.2.2/\c.2.2.2<=65535)\/(0<=c.2.2.1/\c.2.2.1<4/\0<=c.2.2.2/\c.2.2.2<32)))
structure M4 (a0 a1 a2 a3 a4 a5:Int)(a6 a7:List (Int×Int×Int×Int)):Prop where
 thread:0<=a0/\a0<=3
 stop:0<=a1/\a1<=3
 trap:0<=a2/\a2<=6
 count:0<=a3/\a3<=1099511627776
 pc:0<=a4/\a4<=255
 call:0<=a5/\a5<=15
 args:(∀c∈a6,lS c)/\a6.length<=3
 data:(∀c∈a7,lS c)/\a7.length<=16
theorem Pr.cell{ss:List Int}{c:DCn}(hs:yM ss)(h:Pr ss c):lS c:=by
 rcases h with⟨h1,h2,h3,h4⟩|⟨h1,h2,h3,n,h4,h5,h6⟩
 ·exact .inl ⟨h1,h2,h3,h4.1,h4.2⟩
 ·have hn:=hs.2.2 n (dP h4);have hl:=(oGS h4).1;have Wd:=hs.2.1;exact .inr ⟨h1,h2,.inr ⟨h3,by omega,h5,by omega⟩⟩
theorem sH.z{n:Int}{ss:List Int}{i stop trap count pc call:Int}{args data:List DCn}(hs:yM ss)(h:sH n ss i stop trap count pc call args data)(hn:n<=1099511627776):M4 i stop trap count pc call args data:=
 ⟨⟨h.hthr.1,by have:=h.hthr.2;omega⟩,h.hstop,h.htrap,⟨h.hcnt.1,by have:=h.hcnt.2;omega⟩,h.hpc,h.hcall,⟨λc hc=>(h.hargs.2 c hc).cell hs,h.hargs.1⟩,⟨λc hc=>(h.hdata.2 c hc).cell hs,h.hdata.1⟩⟩
inductive As:DEn->Prop
 |slice {i k stop trap count pc call:Int} {args data:List DCn}:M4 i stop trap count pc call args data->stop≠3->1<=k/\k<=64->As (1,i,k,i,stop,trap,count,pc,call,args,data,0,0,0,0,[],0,false)
 |result {i trap count pc call:Int} {args data:List DCn} {t v rg o sp:Int} {dat:List DCn} {w:Bool}:M4 i 1 trap count pc call args data->lS (t,v,rg,o)->(∀c∈dat,lS c)/\dat.length<=16->-1<=sp/\sp<=3->As (2,i,0,i,1,trap,count,pc,call,args,data,t,v,rg,o,dat,sp,w)
 |signal {i:Int}:0<=i/\i<=3->As (3,i,0,0,0,0,0,0,0,[],[],0,0,0,0,[],0,false)
 |wake {i t v rg o:Int}:0<=i/\i<=3->lS (t,v,rg,o)->As (4,i,0,0,0,0,0,0,0,[],[],t,v,rg,o,[],-1,false)
theorem Gz{rec:List DEn}{x:DEn}(h:∀e∈rec,As e)(hx:As x):∀e∈List.append rec [x],As e:=gU h (λe he=>by rw[List.mem_singleton.1 he];exact hx)
def OW(js:List Int):Prop:=∀(u:Nat)(j:Int),js[u]?=some j->j≠u
theorem OW.set{js:List Int}{i:Nat}{x:Int}(h:OW js)(hx:x≠i):OW (js.set i x):=by
 intro u j hj;rw[List.getElem?_set]at hj;split at hj
 ·rename_i hiu;subst hiu;split at hj
  ·injection hj with hj
   rw[<- hj];exact hx
  ·cases hj
 ·exact h u j hj
theorem k9{S T:Type}{f:S->Option (S⊕T)}(P:S->Prop)(Q:T->Prop)(m:S->Nat)
 (h:∀s,P s->(∃s',f s=some (.inl s')/\P s'/\m s'<m s)\/∃t,f s=some (.inr t)/\Q t):∀n s,P s->m s<n->∃t,dY f n s=some t/\Q t:=by
 intro n
 induction n with
 |zero=>omega
 |succ n ih=>
  intro s hp hm
  rcases h s hp with⟨s',e,hp',hm'⟩|⟨t,e,hq⟩
  ·have ⟨t,e2,hq⟩:=ih s' hp' (by omega);exact⟨t,by simp[dY,e];exact e2,hq⟩
  ·exact⟨t,by simp[dY,e],hq⟩
theorem sG{b n m:Nat}(hb:b<=1000)(h:n+m<=1000000):dW b n m=true:=by
 have h2:=Nat.mul_le_mul h hb;simp[dW];omega
def be:Nat->Int->List Int
 |0,_=>[]
 |n+1,v=>(v/256 ^ n)%256::be n v
def cb(c:Int×Int×Int×Int):List Int:=if c.1=1 then[1,c.2.2.1+1]++be 2 c.2.2.2 else[c.1,0]++be 2 c.2.1
def lb(xs:List (Int×Int×Int×Int)):List Int:=(xs.length:Int)::xs.flatMap cb
theorem zU{c:Int×Int×Int×Int}(h:lS c):fS c.1 c.2.1 c.2.2.1 c.2.2.2=some (true,()):=by
 obtain⟨t,v,r,o⟩:=c;unfold fS
 rcases h with⟨h1,h2,h3,h4,h5⟩|⟨h1,h2,h3⟩
 ·simp only at h1 h2 h3 h4 h5;subst h2;subst h3
  rcases h1 with rfl|rfl<;>rfl
 ·simp only at h1 h2 h3;subst h1;subst h2
  rcases h3 with⟨rfl,h4,h5⟩|⟨h4,h5,h6,h7⟩
  ·simp[h4,h5]
  ·have hr:(r==-1)=false:=by simp;omega
   simp[hr,h4,h5,h6,h7]
theorem sm{xs:List (Int×Int×Int×Int)}{n:Int}(h:∀c∈xs,lS c)(hl:(xs.length:Int)<=n)(hn:n<=1000):fC xs n=some (true,()):=by
 have Ye:fc xs=some (-1,()):=by
  unfold fc
  obtain⟨t,e,x1,x2,x3,x4,rfl⟩:=k9 (f:=fe)
   (λs=>∃i:Nat,i<=xs.length/\s=(xs,(xs.length:Int),(i:Int),()))
   (λt=>∃x1 x2 x3 x4,t=.inr (x1,x2,x3,x4,()))
   (λs=>(s.2.1-s.2.2.1).toNat) (by
    rintro _ ⟨i,hi,rfl⟩;unfold fe;by_cases hn2:(i:Int)<xs.length
    ·left
     have Zn:i<xs.length:=by omega
     simp only[hn2,decide_true,oCT,dL,oBS,dJ,oGE Zn,iN,zU (h _ (List.getElem_mem Zn)),oNT,oCF];rw[dQ (x:=(i:Int)+1) (by omega) (by omega)];exact⟨_,rfl,⟨i+1,by omega,rfl⟩,by simp only;omega⟩
    ·right;simp only[hn2,decide_false,oCF]
     exact⟨_,rfl,_,_,_,_,rfl⟩) NN (xs,(xs.length:Int),0,()) ⟨0,by omega,rfl⟩ (by show((xs.length:Int)-0).toNat<NN;unfold NN;omega)
  simp only[dR,e]
 unfold fC ft;simp only[dR,hl,decide_true,oCT,Ye,oBS];rfl
section
variable {a0 a1 a2 a3 a4 a5:Int} {a6 a7:List (Int×Int×Int×Int)}
theorem wE(h:M4 a0 a1 a2 a3 a4 a5 a6 a7):fZ a0 a1 a2 a3 a4 a5 a6 a7=some (true,()):=by
 have hv:∀{x lo hi:Int},lo<=x/\x<=hi->eV x lo hi=some (true,()):=by
  intro x lo hi hx;unfold eV;simp[hx.1,hx.2]
 unfold fZ;simp only[hv h.thread,hv h.stop,hv h.trap,hv h.count,hv h.pc,hv h.call,oBS,oCT];rw[sm h.args.1 (by have:=h.args.2;omega) (by decide)];simp only[oBS,oCT];rw[sm h.data.1 (by have:=h.data.2;omega) (by decide)];rfl
def rb(a0 a1 a2 a3 a4 a5:Int)(a6 a7:List (Int×Int×Int×Int)):List Int:=a0::a1::a2::(be 6 a3++a4::a5::(lb a6++lb a7))
end
def val(v:Int):List Int->Int
 | []=>v
 |x::r=>val (v*256+x) r
section
variable {a0 a1 a2 a3 a4 a5:Int} {a6 a7:List (Int×Int×Int×Int)}
end
theorem lw{a b:List (Int×Int×Int×Int)}(ha:a.length<=1000):∃r,fX a b=some (r,())/\(r=true↔a=b):=by
 unfold fX;simp only[dR];by_cases hl:a.length=b.length
 ·have hb:((a.length:Int) != (b.length:Int))=false:=by simp[hl]
  simp only[hb,oCF]
  obtain⟨t,e,ht⟩:=k9 (f:=iW)
   (λs=>∃i:Nat,i<=a.length/\s=(a,b,(a.length:Int),(i:Int),())/\a.take i=b.take i)
   (λt=>(t=.inl (false,())/\a≠b)\/((∃x3 x4 x5 x6 x7,t=.inr (x3,x4,x5,x6,x7,()))/\a=b))
   (λs=>(s.2.2.1-s.2.2.2.1).toNat) (by
    rintro _ ⟨i,hi,rfl,VU⟩;unfold iW;by_cases hlt:(i:Int)<a.length
    ·have Zn:i<a.length:=by omega
     have UW:i<b.length:=by omega
     simp only[hlt,decide_true,oCT,dL,oBS,dJ,oGE Zn,oGE UW];by_cases he:a[i]=b[i]
     ·left;simp only[he,beq_self_eq_true,Bool.and_self,oNT,oCF];rw[dQ (x:=(i:Int)+1) (by omega) (by omega)];refine⟨_,rfl,⟨i+1,by omega,rfl,?_⟩,by simp only;omega⟩;rw[List.take_succ_eq_append_getElem Zn,List.take_succ_eq_append_getElem UW,VU,he]
     ·right
      have hf:((a[i].1==b[i].1)&&((a[i].2.1==b[i].2.1)&&((a[i].2.2.1==b[i].2.2.1)&&((a[i].2.2.2==b[i].2.2.2)&&true))))=false:=by
       cases hq:((a[i].1==b[i].1)&&((a[i].2.1==b[i].2.1)&&((a[i].2.2.1==b[i].2.2.1)&&((a[i].2.2.2==b[i].2.2.2)&&true))))with
       |false=>rfl
       |true=>
        simp only[oBA,beq_iff_eq,and_true]at hq;exact absurd (Prod.ext hq.1 (Prod.ext hq.2.1 (Prod.ext hq.2.2.1 hq.2.2.2))) he
      simp only[hf,Bool.not_false,oCT];exact⟨_,rfl,.inl ⟨rfl,λh=>he (by subst h;rfl)⟩⟩
    ·right;simp only[hlt,decide_false,oCF]
     have:i=a.length:=by omega
     subst this;refine⟨_,rfl,.inr ⟨⟨_,_,_,_,_,rfl⟩,?_⟩⟩;rw[List.take_length]at VU
     rw[VU,hl,List.take_length]) NN (a,b,(a.length:Int),0,()) ⟨0,by omega,rfl,by simp⟩ (by show((a.length:Int)-0).toNat<NN;unfold NN;omega)
  rcases ht with⟨rfl,hne⟩|⟨⟨x3,x4,x5,x6,x7,rfl⟩,TQ⟩
  ·exact⟨false,by simp only[e],by simp[hne]⟩
  ·exact⟨true,by simp only[e],by simp[TQ]⟩
 ·have hb:((a.length:Int) != (b.length:Int))=true:=by simp;omega
  simp only[hb,oCT];exact⟨false,rfl,by simp;intro h;exact hl (by rw[h])⟩
theorem NP{a0 a1 a2 a3 a4 a5:Int}{a6 a7:List (Int×Int×Int×Int)}{b0 b1 b2 b3 b4 b5:Int}{b6 b7:List (Int×Int×Int×Int)}(h6:a6.length<=1000)(h7:a7.length<=1000):
 ∃r,nq a0 a1 a2 a3 a4 a5 a6 a7 b0 b1 b2 b3 b4 b5 b6 b7=some (r,())/\(r=true↔a0=b0/\a1=b1/\a2=b2/\a3=b3/\a4=b4/\a5=b5/\a6=b6/\a7=b7):=by
 obtain⟨r,e1,g1⟩:=lw (b:=b6) h6;obtain⟨s,e2,g2⟩:=lw (b:=b7) h7;unfold nq;by_cases k0:a0=b0
 ·by_cases k1:a1=b1
  ·by_cases k2:a2=b2
   ·by_cases k3:a3=b3
    ·by_cases k4:a4=b4
     ·by_cases k5:a5=b5
      ·subst k0 k1 k2 k3 k4 k5
       cases r with
       |true=>
        refine⟨s,by simp[e1,e2],?_⟩;rw[g2];have:=g1.1 rfl;simp[this]
       |false=>
        refine⟨false,by simp[e1],?_⟩
        have:a6≠b6:=λh=>by simpa using g1.2 h
        simp[this]
      ·exact⟨false,by have kb:=oBF k5;simp[k0,k1,k2,k3,k4,kb],by simp[k5]⟩
     ·exact⟨false,by have kb:=oBF k4;simp[k0,k1,k2,k3,kb],by simp[k4]⟩
    ·exact⟨false,by have kb:=oBF k3;simp[k0,k1,k2,kb],by simp[k3]⟩
   ·exact⟨false,by have kb:=oBF k2;simp[k0,k1,kb],by simp[k2]⟩
  ·exact⟨false,by have kb:=oBF k1;simp[k0,kb],by simp[k1]⟩
 ·exact⟨false,by have kb:=oBF k0;simp[kb],by simp[k0]⟩
theorem MI{a b:List DCn}(ha:a.length<=1000):∃r,eJ a b=some (r,())/\(r=true↔a=b):=by
 unfold eJ;simp only[dR];by_cases hl:a.length=b.length
 ·have hb:((a.length:Int) != (b.length:Int))=false:=by simp[hl]
  simp only[hb,oCF]
  obtain⟨t,e,ht⟩:=k9 (f:=fr)
   (λs=>∃i:Nat,i<=a.length/\s=(a,b,(a.length:Int),(i:Int),())/\a.take i=b.take i)
   (λt=>(t=.inl (false,())/\a≠b)\/((∃x3 x4 x5 x6 x7,t=.inr (x3,x4,x5,x6,x7,()))/\a=b))
   (λs=>(s.2.2.1-s.2.2.2.1).toNat) (by
    rintro _ ⟨i,hi,rfl,VU⟩;unfold fr;by_cases hlt:(i:Int)<a.length
    ·have Zn:i<a.length:=by omega
     have UW:i<b.length:=by omega
     simp only[hlt,decide_true,oCT,dL,oBS,dJ,oGE Zn,oGE UW];by_cases he:a[i]=b[i]
     ·left;simp only[he,beq_self_eq_true,Bool.and_self,oNT,oCF];rw[dQ (x:=(i:Int)+1) (by omega) (by omega)];refine⟨_,rfl,⟨i+1,by omega,rfl,?_⟩,by simp only;omega⟩;rw[List.take_succ_eq_append_getElem Zn,List.take_succ_eq_append_getElem UW,VU,he]
     ·right
      have hf:((a[i].1==b[i].1)&&((a[i].2.1==b[i].2.1)&&((a[i].2.2.1==b[i].2.2.1)&&((a[i].2.2.2==b[i].2.2.2)&&true))))=false:=by
       cases hq:((a[i].1==b[i].1)&&((a[i].2.1==b[i].2.1)&&((a[i].2.2.1==b[i].2.2.1)&&((a[i].2.2.2==b[i].2.2.2)&&true))))with
       |false=>rfl
       |true=>
        simp only[oBA,beq_iff_eq,and_true]at hq;exact absurd (Prod.ext hq.1 (Prod.ext hq.2.1 (Prod.ext hq.2.2.1 hq.2.2.2))) he
      simp only[hf,Bool.not_false,oCT];exact⟨_,rfl,.inl ⟨rfl,λh=>he (by subst h;rfl)⟩⟩
    ·right;simp only[hlt,decide_false,oCF]
     have:i=a.length:=by omega
     subst this;refine⟨_,rfl,.inr ⟨⟨_,_,_,_,_,rfl⟩,?_⟩⟩;rw[List.take_length]at VU
     rw[VU,hl,List.take_length]) NN (a,b,(a.length:Int),0,()) ⟨0,by omega,rfl,by simp⟩ (by show((a.length:Int)-0).toNat<NN;unfold NN;omega)
  rcases ht with⟨rfl,hne⟩|⟨⟨x3,x4,x5,x6,x7,rfl⟩,TQ⟩
  ·exact⟨false,by simp only[e],by simp[hne]⟩
  ·exact⟨true,by simp only[e],by simp[TQ]⟩
 ·have hb:((a.length:Int) != (b.length:Int))=true:=by simp;omega
  simp only[hb,oCT];exact⟨false,rfl,by simp;intro h;exact hl (by rw[h])⟩
theorem Pd{a0 a1 a2 a3 a4 a5:Int}{a6 a7:List DCn}{b0 b1 b2 b3 b4 b5:Int}{b6 b7:List DCn}(h6:a6.length<=1000)(h7:a7.length<=1000):
 ∃r,fh a0 a1 a2 a3 a4 a5 a6 a7 b0 b1 b2 b3 b4 b5 b6 b7=some (r,())/\nq a0 a1 a2 a3 a4 a5 a6 a7 b0 b1 b2 b3 b4 b5 b6 b7=some (r,())/\(r=true↔a0=b0/\a1=b1/\a2=b2/\a3=b3/\a4=b4/\a5=b5/\a6=b6/\a7=b7):=by
 obtain⟨r,e,g⟩:=NP (a0:=a0) (a1:=a1) (a2:=a2) (a3:=a3) (a4:=a4) (a5:=a5) (b0:=b0) (b1:=b1) (b2:=b2) (b3:=b3) (b4:=b4) (b5:=b5) (b6:=b6) (b7:=b7) h6 h7;refine⟨r,?_,e,g⟩;rw[<- e];obtain⟨u,e1,g1⟩:=MI (b:=b6) h6;obtain⟨v,e2,g2⟩:=MI (b:=b7) h7;obtain⟨u',e1',g1'⟩:=lw (b:=b6) h6;obtain⟨v',e2',g2'⟩:=lw (b:=b7) h7
 obtain rfl:u=u':=by rw[Bool.eq_iff_iff,g1,g1']
 obtain rfl:v=v':=by rw[Bool.eq_iff_iff,g2,g2']
 unfold fh nq;rw[e1,e2,e1',e2']
def xb(t v rg o:Int)(dat:List DCn)(sp:Int)(w:Bool):List Int:=cb (t,v,rg,o)++(sp+1)::(bif w then 1 else 0)::lb dat
def wb:DEn->List Int
 |(k,i,n,a0,a1,a2,a3,a4,a5,a6,a7,t,v,rg,o,dat,sp,w)=>
  k::i::n::(be 2 (if k=1\/k=2 then rb a0 a1 a2 a3 a4 a5 a6 a7 else[]).length++((if k=1\/k=2 then rb a0 a1 a2 a3 a4 a5 a6 a7 else[])++(if k=2\/k=4 then xb t v rg o dat sp w else[])))
theorem nilc:(∀c∈([]:List DCn),lS c)/\([]:List DCn).length<=16:=⟨(λc hc=>by cases hc),by decide⟩
section
variable (i n a0 a1 a2 a3 a4 a5:Int) (a6 a7:List DCn) (t v rg o:Int) (dat:List DCn) (sp:Int) (w:Bool)
end
def enV(e:DEn):Option (Bool×Unit):=eU e.1 e.2.1 e.2.2.1 e.2.2.2.1 e.2.2.2.2.1 e.2.2.2.2.2.1 e.2.2.2.2.2.2.1 e.2.2.2.2.2.2.2.1 e.2.2.2.2.2.2.2.2.1 e.2.2.2.2.2.2.2.2.2.1 e.2.2.2.2.2.2.2.2.2.2.1 e.2.2.2.2.2.2.2.2.2.2.2.1 e.2.2.2.2.2.2.2.2.2.2.2.2.1 e.2.2.2.2.2.2.2.2.2.2.2.2.2.1 e.2.2.2.2.2.2.2.2.2.2.2.2.2.2.1 e.2.2.2.2.2.2.2.2.2.2.2.2.2.2.2.1 e.2.2.2.2.2.2.2.2.2.2.2.2.2.2.2.2.1 e.2.2.2.2.2.2.2.2.2.2.2.2.2.2.2.2.2
theorem O9:∀xs:List DCn,∃r,eJ xs []=some (r,())
 | []=>⟨true,by kernel_rfl⟩
 |x::xs=>⟨false,by
  have h:(((x::xs).length:Int) != (([]:List DCn).length:Int))=true:=by
   rw[bne_iff_ne,oLC,List.length_nil];omega
  unfold eJ
  simp only[dR,h,oCT]⟩
theorem Et(a0 a1 a2 a3 a4 a5:Int)(a6 a7:List DCn):∃r,fh a0 a1 a2 a3 a4 a5 a6 a7 0 0 0 0 0 0 [] []=some (r,()):=by
 obtain⟨r,e1⟩:=O9 a6;obtain⟨s,e2⟩:=O9 a7;unfold fh;rw[e1,e2];cases a0==0<;>cases a1==0<;>cases a2==0<;>cases a3==0<;>cases a4==0<;>cases a5==0<;>cases r<;>exact⟨_,rfl⟩
theorem OZ:M4 0 0 0 0 0 0 [] []:=⟨by decide,by decide,by decide,by decide,by decide,by decide,⟨(λc hc=>by cases hc),by decide⟩,nilc⟩
theorem Ct:fh 0 0 0 0 0 0 [] [] 0 0 0 0 0 0 [] []=some (true,()):=by
 have h:eJ [] []=some (true,()):=by kernel_rfl
 unfold fh;simp only[beq_self_eq_true,oCT,h,oBS]
theorem DS{t v rg o sp:Int}{dat:List DCn}{w:Bool}(hc:lS (t,v,rg,o))(hd:(∀c∈dat,lS c)/\dat.length<=16)(hs:-1<=sp/\sp<=3):fU t v rg o dat sp w=some (true,()):=by
 unfold fU;have h1:fS t v rg o=some (true,()):=zU hc;have h2:=sm (n:=16) hd.1 (by have:=hd.2;omega) (by decide);simp only[h1,h2,oBS,oCT,oDT (show sp>=-1 from hs.1),oDT (show sp<4 by omega)]
theorem zZ:fL 0 0 0 0 [] 0 false=some (true,()):=by kernel_rfl
theorem H3{e:DEn}(h:As e):enV e=some (true,()):=by
 cases h with
 | @slice i k stop trap count pc call args data hr hs hk=>
  obtain⟨r,er⟩:=Et i stop trap count pc call args data;show eU 1 i k i stop trap count pc call args data 0 0 0 0 [] 0 false=_;unfold eU;have hi:=hr.thread;rw[oDF (show ¬i<0 by omega),oDF (show ¬i>=4 by omega),wE hr,er,zZ];simp only[oCF,oCT,oBS,beq_self_eq_true,oDT hk.1,oDT hk.2,bne_iff_ne.2 hs]
 | @result i trap count pc call args data t v rg o sp dat w hr hc hd hs=>
  obtain⟨r,er⟩:=Et i 1 trap count pc call args data;show eU 2 i 0 i 1 trap count pc call args data t v rg o dat sp w=_;unfold eU;have hi:=hr.thread;rw[oDF (show ¬i<0 by omega),oDF (show ¬i>=4 by omega),wE hr,er,DS hc hd hs];simp only[oCF,oCT,oBS,beq_self_eq_true,Int.reduceBEq]
 | @signal i hi=>
  show eU 3 i 0 0 0 0 0 0 0 [] [] 0 0 0 0 [] 0 false=_;unfold eU;rw[oDF (show ¬i<0 by omega),oDF (show ¬i>=4 by omega),wE OZ,Ct,zZ];simp only[oCF,oCT,oBS,beq_self_eq_true,Int.reduceBEq]
 | @wake i t v rg o hi hv=>
  show eU 4 i 0 0 0 0 0 0 0 [] [] t v rg o [] (-1) false=_;unfold eU;rw[oDF (show ¬i<0 by omega),oDF (show ¬i>=4 by omega),wE OZ,Ct,DS (hv) nilc (by decide)];simp only[oCF,oCT,oBS,beq_self_eq_true,Int.reduceBEq,dR,List.length_nil,Bool.not_false];rfl
def eb(l:List DEn):List Int:=l.flatMap wb
def mt(c:Int×Int×Int×Int):Prop:=
 ((c.1=0\/c.1=2)/\c.2.2.1=0/\c.2.2.2=0)\/
 (c.1=1/\c.2.1=0/\((c.2.2.1=-1/\0<=c.2.2.2/\c.2.2.2<=65535)\/(0<=c.2.2.1/\c.2.2.1<4/\0<=c.2.2.2/\c.2.2.2<32)))
instance (c:Int×Int×Int×Int):Decidable (mt c):=by unfold mt;exact inferInstance
def ON(c:Int×Int×Int×Int):Prop:=0<=c.2.1/\c.2.1<=65535
theorem mt.ok{c:Int×Int×Int×Int}(h:mt c)(t:ON c):lS c:=by
 rcases h with⟨h1,h2,h3⟩|h
 ·exact .inl ⟨h1,h2,h3,t.1,t.2⟩
 ·exact .inr h
theorem lS.v{c:Int×Int×Int×Int}(h:lS c):mt c:=by
 rcases h with⟨h1,h2,h3,_⟩|h
 ·exact .inl ⟨h1,h2,h3⟩
 ·exact .inr h
theorem wF{P:Prop}[Decidable P]{b:Bool}(h:b=true↔P):some (b,())=some (decide P,()):=by
 rw[show b=decide P by grind]
theorem Cx(c:Int×Int×Int×Int):fS c.1 c.2.1 c.2.2.1 c.2.2.2=some (decide (mt c),()):=by
 obtain⟨t,v,r,o⟩:=c;unfold fS mt;simp only;by_cases h0:t=0
 ·by_cases hr:r=0<;>by_cases ho:o=0<;>simp[Bool.cond_eq_ite,h0,hr,ho]
 by_cases h2:t=2
 ·by_cases hr:r=0<;>by_cases ho:o=0<;>simp[Bool.cond_eq_ite,h2,hr,ho]
 by_cases h1:t=1
 ·subst h1;by_cases hv:v=0
  ·by_cases hr:r=-1
   ·subst hr;by_cases ho:0<=o<;>by_cases hp:o<=65535<;>simp[Bool.cond_eq_ite,hv,ho,hp]
   ·by_cases r0:0<=r<;>by_cases r1:r<4<;>by_cases o0:0<=o<;>by_cases o1:o<32<;>simp[Bool.cond_eq_ite,hv,hr,r0,r1,o0,o1]
  ·by_cases hr:r=-1
   ·subst hr;by_cases ho:0<=o<;>simp[Bool.cond_eq_ite,hv,ho]
   ·simp[Bool.cond_eq_ite,hv,hr]
 ·simp[Bool.cond_eq_ite,h0,h1,h2]
theorem Jo(c:Int×Int×Int×Int):gN c.1 c.2.1 c.2.2.1 c.2.2.2=some (decide (mt c),()):=by
 obtain⟨t,v,r,o⟩:=c;unfold gN mt;simp only;by_cases h0:t=0
 ·by_cases hr:r=0<;>by_cases ho:o=0<;>simp[Bool.cond_eq_ite,h0,hr,ho]
 by_cases h2:t=2
 ·by_cases hr:r=0<;>by_cases ho:o=0<;>simp[Bool.cond_eq_ite,h2,hr,ho]
 by_cases h1:t=1
 ·subst h1;by_cases hv:v=0
  ·by_cases hr:r=-1
   ·subst hr;by_cases ho:0<=o<;>by_cases hp:o<=65535<;>simp[Bool.cond_eq_ite,hv,ho,hp]
   ·by_cases r0:0<=r<;>by_cases r1:r<4<;>by_cases o0:0<=o<;>by_cases o1:o<32<;>simp[Bool.cond_eq_ite,hv,hr,r0,r1,o0,o1]
  ·by_cases hr:r=-1
   ·subst hr;by_cases ho:0<=o<;>simp[Bool.cond_eq_ite,hv,ho]
   ·simp[Bool.cond_eq_ite,hv,hr]
 ·simp[Bool.cond_eq_ite,h0,h1,h2]
theorem MT{α:Type}{xs:List α}{i:Nat}(h:i<xs.length):dJ xs i=some xs[i]:=oGE h
theorem GJ{α:Type}{P:α->Prop}{xs:List α}{i:Nat}(h:i<xs.length)(ha:∀x∈xs.take i,P x)(hx:P xs[i]):∀x∈xs.take (i+1),P x:=by
 intro x hm;rw[List.take_succ_eq_append_getElem h]at hm;rcases List.mem_append.1 hm with h1|h1
 all_goals simp_all
theorem OQ{xs:List (Int×Int×Int×Int)}{n:Int}(hl:xs.length<=100000):fu xs n=some (decide ((∀c∈xs,mt c)/\(xs.length:Int)<=n),()):=by
 unfold fu
 obtain⟨t,e,ht⟩:=k9 (f:=gd)
  (λs=>∃i:Nat,i<=xs.length/\s=(xs,n,xs,(xs.length:Int),(i:Int),())/\∀c∈xs.take i,mt c)
  (λt=>(t=.inl (false,())/\¬ ∀c∈xs,mt c)\/((∃x3 x4 x5 x6,t=.inr (xs,n,x3,x4,x5,x6,()))/\∀c∈xs,mt c))
  (λs=>(s.2.2.2.1-s.2.2.2.2.1).toNat) (by
   rintro _ ⟨i,hi,rfl,hv⟩;unfold gd;by_cases hn:(i:Int)<xs.length
   ·have Zn:i<xs.length:=by omega
    simp only[hn,decide_true,oCT,dL,oBS,MT Zn,Jo];by_cases hc:mt xs[i]
    ·left;simp only[hc,decide_true,oNT,oCF];rw[dQ (x:=(i:Int)+1) (by omega) (by omega)];exact⟨_,rfl,⟨i+1,by omega,rfl,GJ Zn hv hc⟩,by simp only;omega⟩
    ·right;simp only[hc,decide_false,Bool.not_false,oCT];exact⟨_,rfl,.inl ⟨rfl,λh=>hc (h _ (List.getElem_mem Zn))⟩⟩
   ·right;simp only[hn,decide_false,oCF]
    have:i=xs.length:=by omega
    subst this
    exact⟨_,rfl,.inr ⟨⟨_,_,_,_,rfl⟩,by simp_all⟩⟩) NN (xs,n,xs,(xs.length:Int),0,()) ⟨0,by omega,rfl,by simp⟩ (by show((xs.length:Int)-0).toNat<NN;unfold NN;omega)
 simp only[dR,e]
 rcases ht with⟨rfl,h⟩|⟨⟨x3,x4,x5,x6,rfl⟩,h⟩
 ·simp only;exact wF ⟨λq=>absurd q (by decide),λq=>absurd q.1 h⟩
 ·simp only;exact wF ⟨λq=>⟨h,of_decide_eq_true q⟩,λq=>oDT q.2⟩
theorem uF{xs:List (Int×Int×Int×Int)}{n:Int}(hl:xs.length<=100000):fC xs n=some (decide ((∀c∈xs,mt c)/\(xs.length:Int)<=n),()):=by
 have Ye:∃v,fc xs=some (v,())/\(v<0↔∀c∈xs,mt c):=by
  unfold fc
  obtain⟨t,e,ht⟩:=k9 (f:=fe)
   (λs=>∃i:Nat,i<=xs.length/\s=(xs,(xs.length:Int),(i:Int),())/\∀c∈xs.take i,mt c)
   (λt=>(∃v,0<=v/\t=.inl (v,())/\¬ ∀c∈xs,mt c)\/((∃x1 x2 x3 x4,t=.inr (x1,x2,x3,x4,()))/\∀c∈xs,mt c))
   (λs=>(s.2.1-s.2.2.1).toNat) (by
    rintro _ ⟨i,hi,rfl,hv⟩;unfold fe;by_cases hn2:(i:Int)<xs.length
    ·have Zn:i<xs.length:=by omega
     simp only[hn2,decide_true,oCT,dL,oBS,MT Zn,iN,Cx];by_cases hc:mt xs[i]
     ·left;simp only[hc,decide_true,oNT,oCF];rw[dQ (x:=(i:Int)+1) (by omega) (by omega)];exact⟨_,rfl,⟨i+1,by omega,rfl,GJ Zn hv hc⟩,by simp only;omega⟩
     ·right;simp only[hc,decide_false,Bool.not_false,oCT];exact⟨_,rfl,.inl ⟨_,by omega,rfl,λh=>hc (h _ (List.getElem_mem Zn))⟩⟩
    ·right;simp only[hn2,decide_false,oCF]
     have:i=xs.length:=by omega
     subst this
     exact⟨_,rfl,.inr ⟨⟨_,_,_,_,rfl⟩,by rw[List.take_length]at hv;exact hv⟩⟩) NN (xs,(xs.length:Int),0,()) ⟨0,by omega,rfl,by simp⟩ (by show((xs.length:Int)-0).toNat<NN;unfold NN;omega)
  simp only[dR,e]
  rcases ht with⟨v,hv,rfl,h⟩|⟨⟨x1,x2,x3,x4,rfl⟩,h⟩
  ·exact⟨v,rfl,by constructor<;>intro h2<;>first|omega|exact absurd h2 h⟩
  ·simp_all
 obtain⟨v,e,hv⟩:=Ye;unfold fC ft;simp only[dR];by_cases hln:(xs.length:Int)<=n
 ·simp only[hln,decide_true,oCT,e,oBS];exact wF (by rw[<- hv];simp)
 ·simp only[hln,decide_false,oCF];exact wF (by simp)
def Ip(a0 a1 a2 a3 a4 a5:Int)(a6 a7:List (Int×Int×Int×Int)):Prop:=
 (0<=a0/\a0<=3)/\(0<=a1/\a1<=3)/\(0<=a2/\a2<=6)/\(0<=a3/\a3<=1099511627776)/\(0<=a4/\a4<=255)/\(0<=a5/\a5<=15)/\((∀c∈a6,mt c)/\(a6.length:Int)<=3)/\((∀c∈a7,mt c)/\(a7.length:Int)<=16)
instance (a0 a1 a2 a3 a4 a5:Int) (a6 a7:List (Int×Int×Int×Int)):Decidable (Ip a0 a1 a2 a3 a4 a5 a6 a7):=by unfold Ip;exact inferInstance
section
variable {a0 a1 a2 a3 a4 a5:Int} {a6 a7:List (Int×Int×Int×Int)}
theorem Ip.ok(h:Ip a0 a1 a2 a3 a4 a5 a6 a7)(t6:∀c∈a6,ON c)(t7:∀c∈a7,ON c):M4 a0 a1 a2 a3 a4 a5 a6 a7:=by
 obtain⟨h0,h1,h2,h3,h4,h5,⟨h6,l6⟩,h7,l7⟩:=h;exact⟨h0,h1,h2,h3,h4,h5,⟨λc hc=>(h6 c hc).ok (t6 c hc),by omega⟩,λc hc=>(h7 c hc).ok (t7 c hc),by omega⟩
theorem M4.v(h:M4 a0 a1 a2 a3 a4 a5 a6 a7):Ip a0 a1 a2 a3 a4 a5 a6 a7:=by
 obtain⟨h0,h1,h2,h3,h4,h5,⟨h6,l6⟩,h7,l7⟩:=h;exact⟨h0,h1,h2,h3,h4,h5,⟨λc hc=>(h6 c hc).v,by omega⟩,λc hc=>(h7 c hc).v,by omega⟩
theorem KA{P Q:Prop}[Decidable P][Decidable Q]{o:Option (Bool×Unit)}(h:P->o=some (decide Q,())):(bif decide P then o else some (false,()))=some (decide (P/\Q),()):=by
 by_cases hp:P
 ·simp only[hp,decide_true,oCT,true_and];exact h hp
 ·simp only[hp,decide_false,oCF,false_and]
theorem Ew(x lo hi:Int):eV x lo hi=some (decide (lo<=x/\x<=hi),()):=by
 unfold eV;exact KA λ_=>rfl
theorem Hk(l6:a6.length<=100000)(l7:a7.length<=100000):fZ a0 a1 a2 a3 a4 a5 a6 a7=some (decide (Ip a0 a1 a2 a3 a4 a5 a6 a7),()):=by
 unfold fZ Ip
 iterate 6
  rw[Ew];simp only[oBS];refine KA λ_=>?_
 rw[uF l6];simp only[oBS];refine KA λ_=>?_;rw[uF l7];rfl
end
abbrev DLa:Type:=Int×Int×Int×Int×Int×Int×(List DCn)×(List DCn)
def EnS(e:DEn):Prop:=e.2.2.2.2.2.2.2.2.2.1.length<=1000/\e.2.2.2.2.2.2.2.2.2.2.1.length<=1000/\e.2.2.2.2.2.2.2.2.2.2.2.2.2.2.2.1.length<=1000
def Sm(s:List Int×List DLa):Prop:=s.1.length=4/\s.2.length=4/\∀x∈s.2,x.2.2.2.2.2.2.1.length<=1000/\x.2.2.2.2.2.2.2.length<=1000
theorem MJ{a b:List DCn}(ha:a.length<=1000):∃r,eJ a b=some (r,()):=by
 unfold eJ;simp only[dR];by_cases hl:a.length=b.length
 ·have hb:((a.length:Int) != (b.length:Int))=false:=by simp[hl]
  simp only[hb,oCF]
  obtain⟨t,e,ht⟩:=k9 (f:=fr)
   (λs=>∃i:Nat,i<=a.length/\s=(a,b,(a.length:Int),(i:Int),()))
   (λt=>t=.inl (false,())\/∃x3 x4 x5 x6 x7,t=.inr (x3,x4,x5,x6,x7,()))
   (λs=>(s.2.2.1-s.2.2.2.1).toNat) (by
    rintro _ ⟨i,hi,rfl⟩;unfold fr;by_cases hlt:(i:Int)<a.length
    ·have Zn:i<a.length:=by omega
     have UW:i<b.length:=by omega
     simp only[hlt,decide_true,oCT,dL,oBS,dJ,oGE Zn,oGE UW]
     cases(!((a[i].1==b[i].1)&&((a[i].2.1==b[i].2.1)&&((a[i].2.2.1==b[i].2.2.1)&&((a[i].2.2.2==b[i].2.2.2)&&true)))))with
     |true=>exact .inr ⟨_,rfl,.inl rfl⟩
     |false=>
      left;simp only[oCF];rw[dQ (x:=(i:Int)+1) (by omega) (by omega)];exact⟨_,rfl,⟨i+1,by omega,rfl⟩,by simp only;omega⟩
    ·right;simp only[hlt,decide_false,oCF]
     exact⟨_,rfl,.inr ⟨_,_,_,_,_,rfl⟩⟩) NN (a,b,(a.length:Int),0,()) ⟨0,by omega,rfl⟩ (by show((a.length:Int)-0).toNat<NN;unfold NN;omega)
  rcases ht with rfl|⟨x3,x4,x5,x6,x7,rfl⟩
  ·exact⟨false,by simp only[e]⟩
  ·exact⟨true,by simp only[e]⟩
 ·have hb:((a.length:Int) != (b.length:Int))=true:=by simp;omega
  simp only[hb,oCT];exact⟨false,rfl⟩
theorem Pe{a0 a1 a2 a3 a4 a5:Int}{a6 a7:List DCn}{b0 b1 b2 b3 b4 b5:Int}{b6 b7:List DCn}(h6:a6.length<=1000)(h7:a7.length<=1000):∃r,fh a0 a1 a2 a3 a4 a5 a6 a7 b0 b1 b2 b3 b4 b5 b6 b7=some (r,()):=by
 obtain⟨r,e1⟩:=MJ (b:=b6) h6;obtain⟨s,e2⟩:=MJ (b:=b7) h7;unfold fh;rw[e1,e2];cases a0==b0<;>cases a1==b1<;>cases a2==b2<;>cases a3==b3<;>cases a4==b4<;>cases a5==b5<;>cases r<;>exact⟨_,rfl⟩
theorem Ma{t v rg o sp:Int}{dat:List DCn}{w:Bool}(hd:dat.length<=1000):∃b,fU t v rg o dat sp w=some (b,())/\(b=true->-1<=sp/\sp<4):=by
 unfold fU;have h1:=Cx (t,v,rg,o);simp only at h1;rw[h1,uF (by omega)];simp only[oBS];cases decide (mt (t,v,rg,o))<;>cases decide ((∀c∈dat,mt c)/\(dat.length:Int)<=16)
 ·exact⟨false,rfl,λh=>by cases h⟩
 ·exact⟨false,rfl,λh=>by cases h⟩
 ·exact⟨false,rfl,λh=>by cases h⟩
 ·simp only[oCT];by_cases hs:sp>=-1
  ·rw[oDT hs];exact⟨_,rfl,λh=>⟨hs,of_decide_eq_true h⟩⟩
  ·rw[oDF hs];exact⟨false,rfl,λh=>by cases h⟩
theorem JH{t v rg o sp:Int}{dat:List DCn}{w:Bool}:∃b,fL t v rg o dat sp w=some (b,()):=by
 unfold fL;dsimp only;cases((t==0)&&((v==0)&&((rg==0)&&((o==0)&&true))))<;>cases(dO (List.length dat))==0<;>cases sp==0<;>exact⟨_,rfl⟩
theorem D0{e:DEn}(h:EnS e):∃b,enV e=some (b,())/\(b=true->(0<=e.2.1/\e.2.1<4)/\(e.1=2->-1<=e.2.2.2.2.2.2.2.2.2.2.2.2.2.2.2.2.1/\e.2.2.2.2.2.2.2.2.2.2.2.2.2.2.2.2.1<4)):=by
 obtain⟨a0,a1,a2,a3,a4,a5,a6,a7,a8,a9,a10,a11,a12,a13,a14,a15,a16,a17⟩:=e;obtain⟨h9,ZT,Rk⟩:=h;simp only at h9 ZT Rk;have F:∃b,(some (false,()):Option (Bool×Unit))=some (b,())/\(b=true->(0<=a1/\a1<4)/\(a0=2->-1<=a16/\a16<4)):=⟨false,rfl,λh=>by cases h⟩;show ∃b,eU a0 a1 a2 a3 a4 a5 a6 a7 a8 a9 a10 a11 a12 a13 a14 a15 a16 a17=some (b,())/\(b=true->(0<=a1/\a1<4)/\(a0=2->-1<=a16/\a16<4));unfold eU;by_cases h1:a1<0
 ·rw[oDT h1];exact F
 by_cases h2:a1>=4
 ·rw[oDF h1,oDT h2];exact F
 rw[oDF h1,oDF h2,Hk (by omega) (by omega)]
 have hthr:0<=a1/\a1<4:=by omega
 obtain⟨x1,e1⟩:=Et a3 a4 a5 a6 a7 a8 a9 a10;obtain⟨nb,e2⟩:=JH (t:=a11) (v:=a12) (rg:=a13) (o:=a14) (sp:=a16) (dat:=a15) (w:=a17);obtain⟨fb,e3,hf⟩:=Ma (t:=a11) (v:=a12) (rg:=a13) (o:=a14) (sp:=a16) (w:=a17) Rk;rw[e1,e2,e3];simp only[oCF,oBS];have N:∀b:Bool,a0≠2->∃c,(some (b,()):Option (Bool×Unit))=some (c,())/\(c=true->(0<=a1/\a1<4)/\(a0=2->-1<=a16/\a16<4)):=λb hn=>⟨b,rfl,λ_=>⟨hthr,λh=>absurd h hn⟩⟩
 have W:∀b:Bool,a0≠2->∃c,(bif fb then bif a16==-1 then bif !a17 then some ((dO (List.length a15))==0,())else some (false,())else some (false,())else some (false,()):Option (Bool×Unit))=some (c,())/\(c=true->(0<=a1/\a1<4)/\(a0=2->-1<=a16/\a16<4)):=λ_ hn=>by
  cases fb<;>cases a16==-1<;>cases a17<;>exact N _ hn
 by_cases k1:a0=1
 ·have hn:a0≠2:=by omega
  simp only[beq_iff_eq.2 k1,oCT]
  cases decide (Ip a3 a4 a5 a6 a7 a8 a9 a10)<;>cases decide (a2>=1)<;>cases decide (a2<=64)<;>cases a3==a1<;>cases a4 != 3<;>first|exact F|exact N _ hn
 by_cases k2:a0=2
 ·simp only[oBF k1,beq_iff_eq.2 k2,oCT,oCF];have Q:∃c,(some (fb,()):Option (Bool×Unit))=some (c,())/\(c=true->(0<=a1/\a1<4)/\(a0=2->-1<=a16/\a16<4)):=⟨fb,rfl,λh=>⟨hthr,λ_=>hf h⟩⟩
  cases decide (Ip a3 a4 a5 a6 a7 a8 a9 a10)<;>cases a2==0<;>cases a3==a1<;>cases a4==1<;>first|exact F|exact Q
 by_cases k3:a0=3
 ·simp only[oBF k1,oBF k2,beq_iff_eq.2 k3,oCT,oCF]
  cases decide (Ip a3 a4 a5 a6 a7 a8 a9 a10)<;>cases a2==0<;>cases x1<;>first|exact F|exact N _ k2
 by_cases k4:a0=4
 ·simp only[oBF k1,oBF k2,oBF k3,beq_iff_eq.2 k4,oCT,oCF]
  cases decide (Ip a3 a4 a5 a6 a7 a8 a9 a10)<;>cases a2==0<;>cases x1<;>first|exact F|exact W true k2
 ·simp only[oBF k1,oBF k2,oBF k3,oBF k4,oCF];cases decide (Ip a3 a4 a5 a6 a7 a8 a9 a10)<;>exact F
def enF(e:DEn)(st:List Int)(la:List DLa):Option (Bool×List Int×List DLa×Unit):=fm e.1 e.2.1 e.2.2.1 e.2.2.2.1 e.2.2.2.2.1 e.2.2.2.2.2.1 e.2.2.2.2.2.2.1 e.2.2.2.2.2.2.2.1 e.2.2.2.2.2.2.2.2.1 e.2.2.2.2.2.2.2.2.2.1 e.2.2.2.2.2.2.2.2.2.2.1 e.2.2.2.2.2.2.2.2.2.2.2.1 e.2.2.2.2.2.2.2.2.2.2.2.2.1 e.2.2.2.2.2.2.2.2.2.2.2.2.2.1 e.2.2.2.2.2.2.2.2.2.2.2.2.2.2.1 e.2.2.2.2.2.2.2.2.2.2.2.2.2.2.2.1 e.2.2.2.2.2.2.2.2.2.2.2.2.2.2.2.2.1 e.2.2.2.2.2.2.2.2.2.2.2.2.2.2.2.2.2 st la
theorem JU{α:Type}(l:List α)(i:Nat)(f:α->α){n:Nat}(h:l.length=n):(List.modify l i f).length=n:=by rw[oLM];exact h
theorem Sm.st{st:List Int}{la:List DLa}(h:Sm (st,la))(i:Nat)(f:Int->Int):Sm (List.modify st i f,la):=⟨JU st i f h.1,h.2⟩
theorem Sm.la{st:List Int}{la:List DLa}(h:Sm (st,la))(i:Nat)(x:DLa)(hx:x.2.2.2.2.2.2.1.length<=1000/\x.2.2.2.2.2.2.2.length<=1000):Sm (st,List.modify la i λ_=>x):=by
 refine⟨h.1,JU la i _ h.2.1,λy hy=>?_⟩;obtain⟨j,hj⟩:=List.getElem?_of_mem hy;rw[List.getElem?_modify]at hj
 cases hl:la[j]? with
 |none=>rw[hl]at hj;split at hj<;>cases hj
 |some z=>
  rw[hl]at hj;split at hj
  ·injection hj with hj;rw[<- hj];exact hx
  ·injection hj with hj;rw[<- hj];exact h.2.2 z (dP hl)
def OM(r:Bool×List Int×List DLa×Unit):Prop:=∃b st la,r=(b,st,la,())/\Sm (st,la)
theorem If{a0 a2 a3 a4 a5 a6 a7 a8 a11 a12 a13 a14 a16:Int}{i:Nat}{a9 a10 a15:List DCn}{a17:Bool}{st:List Int}{la:List DLa}(hs:Sm (st,la))(h9:a9.length<=1000)(ZT:a10.length<=1000)(hi:i<4)(ZF:-1<=a16/\a16<4):
 Ok (fY a0 i a2 a3 a4 a5 a6 a7 a8 a9 a10 a11 a12 a13 a14 a15 a16 a17 st la) OM:=by
 have h4:st.length=4:=hs.1;obtain⟨x,hx⟩:∃x,st[i]?=some x:=⟨_,oGE (by omega)⟩;obtain⟨y,hy⟩:∃y,la[i]?=some y:=⟨_,oGE (by have:la.length=4:=hs.2.1;omega)⟩;obtain⟨r,er⟩:=Pe (a0:=a3) (a1:=a4) (a2:=a5) (a3:=a6) (a4:=a7) (a5:=a8) (b0:=y.1) (b1:=y.2.1) (b2:=y.2.2.1) (b3:=y.2.2.2.1) (b4:=y.2.2.2.2.1) (b5:=y.2.2.2.2.2.1) (b6:=y.2.2.2.2.2.2.1) (b7:=y.2.2.2.2.2.2.2) h9 ZT;unfold fY;simp only[dL,oBS,show dJ st i=some x from hx,show dJ la i=some y from hy,er];refine Ok.bind (P:=λq=>∃b:Bool,q=(i,a16,b,st,la,a0,(i:Int),a2,a3,a4,a5,a6,a7,a8,a9,a10,a11,a12,a13,a14,a15,a16,a17,())) ?_ ?_
 ·cases x != 2 with
  |true=>exact Ok.ret ⟨_,rfl⟩
  |false=>
   simp only[oCF]
   cases r with
   |false=>exact Ok.ret ⟨_,rfl⟩
   |true=>
    simp only[oNT,oCF];by_cases hk:a16=-1
    ·simp only[bne_eq_false_iff_eq.2 hk,oCF];exact Ok.ret ⟨_,rfl⟩
    ·simp only[bne_iff_ne.2 hk,oCT];obtain⟨k,rfl⟩:∃k:Nat,a16=k:=⟨a16.toNat,by omega⟩;obtain⟨z,hz⟩:∃z,st[k]?=some z:=⟨_,oGE (by omega)⟩;simp only[dL,oBS,show dJ st k=some z from hz];cases z != 0<;>exact Ok.ret ⟨_,rfl⟩
 ·rintro _ ⟨b,rfl⟩;dsimp only
  cases b with
  |true=>exact Ok.ret ⟨_,_,_,rfl,hs⟩
  |false=>
   simp only[oCF,show dJ st i=some x from hx,oBS];refine Ok.bind (P:=λq=>∃WI,q=(a16,WI,la,())/\Sm (WI,la)) ?_ ?_
   ·cases a8==0<;>cases a17<;>exact Ok.ret ⟨_,rfl,hs.st _ _⟩
   ·rintro _ ⟨WI,rfl,hs'⟩;dsimp only;by_cases hk:a16=-1
    ·simp only[bne_eq_false_iff_eq.2 hk,oCF,oBS];exact Ok.ret ⟨_,_,_,rfl,hs'⟩
    ·simp only[bne_iff_ne.2 hk,oCT];obtain⟨k,rfl⟩:∃k:Nat,a16=k:=⟨a16.toNat,by omega⟩;obtain⟨z,hz⟩:∃z,WI[k]?=some z:=⟨_,oGE (by have:WI.length=4:=hs'.1;omega)⟩;simp only[dL,oBS,show dJ WI k=some z from hz];exact Ok.ret ⟨_,_,_,rfl,hs'.st _ _⟩
theorem DT{e:DEn}{st:List Int}{la:List DLa}(hs:Sm (st,la))(he:EnS e)(hi:0<=e.2.1/\e.2.1<4)(hk:e.1=2->-1<=e.2.2.2.2.2.2.2.2.2.2.2.2.2.2.2.2.1/\e.2.2.2.2.2.2.2.2.2.2.2.2.2.2.2.2.1<4):Ok (enF e st la) OM:=by
 obtain⟨a0,a1,a2,a3,a4,a5,a6,a7,a8,a9,a10,a11,a12,a13,a14,a15,a16,a17⟩:=e;obtain⟨h9,ZT,Rk⟩:=he;simp only at h9 ZT Rk hi hk;obtain⟨i,rfl⟩:∃i:Nat,a1=i:=⟨a1.toNat,by omega⟩;have h4:st.length=4:=hs.1;obtain⟨x,hx⟩:∃x,st[i]?=some x:=⟨_,oGE (by omega)⟩;obtain⟨y,hy⟩:∃y,la[i]?=some y:=⟨_,oGE (by have:la.length=4:=hs.2.1;omega)⟩;show Ok (fm a0 i a2 a3 a4 a5 a6 a7 a8 a9 a10 a11 a12 a13 a14 a15 a16 a17 st la) OM;unfold fm;simp only[dL,oBS,show dJ st i=some x from hx,show dJ la i=some y from hy];by_cases k1:a0=1
 ·simp only[beq_iff_eq.2 k1,oCT]
  cases x != 1 with
  |true=>exact Ok.ret ⟨_,_,_,rfl,hs⟩
  |false=>
   have YL:=hs.la i (a3,a4,a5,a6,a7,a8,a9,a10) ⟨h9,ZT⟩
   cases a4==2 with
   |true=>exact Ok.ret ⟨_,_,_,rfl,YL.st _ _⟩
   |false=>cases a4==1 with
    |true=>exact Ok.ret ⟨_,_,_,rfl,YL.st _ _⟩
    |false=>exact Ok.ret ⟨_,_,_,rfl,YL⟩
 by_cases k2:a0=2
 ·simp only[oBF k1,beq_iff_eq.2 k2,oCT,oCF];obtain⟨_,e,b,WI,U9,rfl,h⟩:=If (a0:=a0) (a2:=a2) (a3:=a3) (a4:=a4) (a5:=a5) (a6:=a6) (a7:=a7) (a8:=a8) (a11:=a11) (a12:=a12) (a13:=a13) (a14:=a14) (a15:=a15) (a17:=a17) hs h9 ZT (show i<4 by omega) (hk k2);simp only[e,oBS];exact Ok.ret ⟨_,_,_,rfl,h⟩
 by_cases k3:a0=3
 ·simp only[oBF k1,oBF k2,beq_iff_eq.2 k3,oCT,oCF];exact Ok.ret ⟨_,_,_,rfl,hs⟩
 by_cases k4:a0=4
 ·simp only[oBF k1,oBF k2,oBF k3,beq_iff_eq.2 k4,oCT,oCF]
  cases x != 3 with
  |true=>exact Ok.ret ⟨_,_,_,rfl,hs⟩
  |false=>exact Ok.ret ⟨_,_,_,rfl,hs.st _ _⟩
 ·simp only[oBF k1,oBF k2,oBF k3,oBF k4,oCF];exact Ok.ret ⟨_,_,_,rfl,hs⟩
def stp(s:List Int×List DLa)(e:DEn):Option (List Int×List DLa):=
 match enV e with
 |some (true,_)=>match enF e s.1 s.2 with
  |some (true,st,la,_)=>some (st,la)
  |_=>none
 |_=>none
def uq(l:List DEn)(s:List Int×List DLa):Option (List Int×List DLa):=l.foldlM stp s
theorem oQ(l m:List DEn)(s:List Int×List DLa):uq (l++m) s=(uq l s).bind (uq m):=by
 unfold uq;exact List.foldlM_append
def s0:List Int×List DLa:=([1,0,0,0],List.replicate 4 (0,(0,(0,(0,(0,(0,([],[]))))))))
theorem sm0:Sm s0:=⟨rfl,rfl,λx hx=>by rw[List.eq_of_mem_replicate hx];exact⟨by decide,by decide⟩⟩
theorem FP{l:List DEn}(h:∀e∈l,EnS e)(hl:l.length<=100000):(∃st la,uq l s0=some (st,la)/\fv l=some (st,true,()))\/(uq l s0=none/\fv l=some ([],false,())):=by
 unfold fv;rw[show pR 4 4 1=true from rfl,show pR 4 4 8=true from rfl];simp only[oCT,dR];rw[show dJ (List.replicate 4 (0:Int)) 0=some 0 from rfl];simp only[oBS];rw[show List.modify (List.replicate 4 (0:Int)) 0 (λ_=>1)=s0.1 from rfl]
 obtain⟨t,e,ht⟩:=k9 (f:=ii)
  (λs=>∃i:Nat,∃st la,i<=l.length/\s=(l,(l.length:Int),(i:Int),st,la,())/\uq (l.take i) s0=some (st,la)/\Sm (st,la))
  (λt=>(t=.inl (false,(),())/\uq l s0=none)\/∃x1 x2 x3 x4 st la,t=.inr (x1,x2,x3,x4,st,la,())/\uq l s0=some (st,la))
  (λs=>(s.2.1-s.2.2.1).toNat) (by
   rintro _ ⟨i,st,la,hi,rfl,hst,hs⟩;unfold ii;by_cases hn:(i:Int)<l.length
   ·have Zn:i<l.length:=by omega
    have he:=h _ (List.getElem_mem Zn)
    have VM:uq l s0=(stp (st,la) l[i]).bind (uq (l.drop (i+1))):=by
     have e1:l=l.take i++l[i]::l.drop (i+1):=by
      rw[<- List.drop_eq_getElem_cons Zn,List.take_append_drop]
     rw[show uq l s0=uq (l.take i++l[i]::l.drop (i+1)) s0 from congrArg (λq=>uq q s0) e1,oQ,hst];rfl
    have XY:uq (l.take (i+1)) s0=stp (st,la) l[i]:=by
     rw[List.take_succ_eq_append_getElem Zn,oQ,hst];show(stp (st,la) l[i]).bind (λs=>some s)=_;cases stp (st,la) l[i]<;>rfl
    obtain⟨b,ev,hv⟩:=D0 he;unfold enV at ev;simp only[hn,decide_true,oCT,dL,oBS,dJ,oGE Zn];rw[ev]
    cases b with
    |false=>
     right;refine⟨_,rfl,.inl ⟨rfl,?_⟩⟩;rw[VM];unfold stp enV;rw[ev];rfl
    |true=>
     obtain⟨h1,h2⟩:=hv rfl;obtain⟨_,ef,b,WI,U9,rfl,hs'⟩:=DT hs he h1 h2;have ef':=ef;unfold enF at ef;simp only[oBS,oNT,oCF];rw[ef]
     have SQ:stp (st,la) l[i]=if b=true then some (WI,U9)else none:=by
      unfold stp enV;rw[ev];simp only[ef'];cases b<;>rfl
     cases b with
     |false=>
      right;refine⟨_,rfl,.inl ⟨rfl,?_⟩⟩;rw[VM,SQ];rfl
     |true=>
      left;simp only[oBS,oNT,oCF];rw[dQ (x:=(i:Int)+1) (by omega) (by omega)];exact⟨_,rfl,⟨i+1,WI,U9,by omega,rfl,by rw[XY,SQ];rfl,hs'⟩,by simp only;omega⟩
   ·right;simp only[hn,decide_false,oCF]
    have:i=l.length:=by omega
    subst this;rw[List.take_length]at hst
    exact⟨_,rfl,.inr ⟨_,_,_,_,_,_,rfl,hst⟩⟩) NN (l,(l.length:Int),0,s0.1,s0.2,()) ⟨0,s0.1,s0.2,by omega,rfl,rfl,sm0⟩ (by show((l.length:Int)-0).toNat<NN;unfold NN;omega)
 have e':dY ii NN (l,(l.length:Int),0,s0.1,List.replicate 4 (0,(0,(0,(0,(0,(0,([],[]))))))),())=some t:=e
 rcases ht with⟨rfl,YC⟩|⟨x1,x2,x3,x4,st,la,rfl,Q2⟩
 ·exact .inr ⟨YC,by simp only[e']⟩
 ·exact .inl ⟨st,la,Q2,by simp only[e']⟩
theorem o5{e:DEn}{st WI:List Int}{la U9:List DLa}(he:As e)(hf:enF e st la=some (true,WI,U9,())):stp (st,la) e=some (WI,U9):=by
 unfold stp;rw[H3 he];simp only[hf]
section
variable {st:List Int} {la:List DLa} {i:Nat}
theorem GV(hi:i<4)(hx:st[i]?=some 1):stp (st,la) (3,(i:Int),0,0,0,0,0,0,0,[],[],0,0,0,0,[],0,false)=some (st,la):=by
 refine o5 (.signal (by omega)) ?_;unfold enF fm;simp only[dL,oBS,show dJ st i=some 1 from hx,Int.reduceBEq,oCT,oCF,beq_self_eq_true]
theorem KY{t v rg o:Int}(hi:i<4)(hx:st[i]?=some 3)(hc:lS (t,v,rg,o)):stp (st,la) (4,(i:Int),0,0,0,0,0,0,0,[],[],t,v,rg,o,[],-1,false)=some (st.set i 1,la):=by
 refine o5 (.wake (by omega) hc) ?_;unfold enF fm;simp only[dL,oBS,show dJ st i=some 3 from hx,Int.reduceBEq,oCT,oCF,bne_self_eq_false,dX hx]
theorem Iz{k stop trap count pc call:Int}{args data:List DCn}(YL:la.length=4)(hi:i<4)(hx:st[i]?=some 1)(he:As (1,(i:Int),k,(i:Int),stop,trap,count,pc,call,args,data,0,0,0,0,[],0,false)):
 stp (st,la) (1,(i:Int),k,(i:Int),stop,trap,count,pc,call,args,data,0,0,0,0,[],0,false)=some (if stop=2 then st.set i 4 else if stop=1 then st.set i 2 else st,la.set i ((i:Int),stop,trap,count,pc,call,args,data)):=by
 refine o5 he ?_;obtain⟨y,hy⟩:∃y,la[i]?=some y:=⟨_,oGE (by omega)⟩;unfold enF fm;simp only[dL,oBS,show dJ st i=some 1 from hx,show dJ la i=some y from hy,beq_self_eq_true,oCT,oCF,bne_self_eq_false,dX hy];by_cases h2:stop=2
 ·simp only[beq_iff_eq.2 h2,oCT,dX hx,oIP h2]
 ·by_cases h1:stop=1
  ·simp only[oBF h2,beq_iff_eq.2 h1,oCT,oCF,dX hx,oIN h2,oIP h1]
  ·simp only[oBF h2,oBF h1,oCF,oIN h2,oIN h1]
theorem GW{trap count pc call:Int}{args data:List DCn}{t v rg o sp:Int}{dat:List DCn}{w:Bool}(hst:st.length=4)(hi:i<4)(hx:st[i]?=some 2)(hl:la[i]?=some ((i:Int),1,trap,count,pc,call,args,data))
 (he:As (2,(i:Int),0,(i:Int),1,trap,count,pc,call,args,data,t,v,rg,o,dat,sp,w))(ZF:sp=-1\/∃m:Nat,sp=m/\st[m]?=some 0/\call=10):
 ∃s1,s1=st.set i (if call=0 then 4 else if w=true then 3 else 1)/\stp (st,la) (2,(i:Int),0,(i:Int),1,trap,count,pc,call,args,data,t,v,rg,o,dat,sp,w)=some (if sp=-1 then s1 else s1.set sp.toNat 1,la):=by
 refine⟨_,rfl,o5 he ?_⟩
 have hz:args.length<=1000/\data.length<=1000:=by
  cases he with
  |result hr _ _ _=>exact⟨by have:=hr.args.2;omega,by have:=hr.data.2;omega⟩
 obtain⟨r,e1,_,g1⟩:=Pd (a0:=(i:Int)) (a1:=1) (a2:=trap) (a3:=count) (a4:=pc) (a5:=call) (b0:=(i:Int)) (b1:=1) (b2:=trap) (b3:=count) (b4:=pc) (b5:=call) (b6:=args) (b7:=data) hz.1 hz.2;obtain rfl:r=true:=g1.2 ⟨rfl,rfl,rfl,rfl,rfl,rfl,rfl,rfl⟩
 have ans:fY 2 (i:Int) 0 (i:Int) 1 trap count pc call args data t v rg o dat sp w st la=some (true,if sp=-1 then st.set i (if call=0 then 4 else if w=true then 3 else 1)else(st.set i (if call=0 then 4 else if w=true then 3 else 1)).set sp.toNat 1,la,()):=by
  have il:i<st.length:=by omega
  have m2:(bif call==0 then((dJ st i).bind λx25=>let Th:List Int:=List.modify st i λe=>4;some (sp,Th,la,()))else bif w then((dJ st i).bind λx25=>let Th:List Int:=List.modify st i λe=>3;some (sp,Th,la,()))else(dJ st i).bind λx25=>let Th:List Int:=List.modify st i λe=>1;some (sp,Th,la,()):Option (Int×List Int×List DLa×Unit))=some (sp,st.set i (if call=0 then 4 else if w=true then 3 else 1),la,()):=by
   by_cases hc:call=0
   ·simp only[beq_iff_eq.2 hc,oCT,show dJ st i=some 2 from hx,oBS,dX hx,oIP hc]
   ·cases w with
    |true=>simp only[oBF hc,oCF,oCT,show dJ st i=some 2 from hx,oBS,dX hx,oIN hc,if_true]
    |false=>simp only[oBF hc,oCF,show dJ st i=some 2 from hx,oBS,dX hx,oIN hc,Bool.false_eq_true,if_false]
  unfold fY;simp only[dL,oBS,show dJ st i=some 2 from hx,bne_self_eq_false,oCF,show dJ la i=some ((i:Int),1,trap,count,pc,call,args,data)from hl,e1,oNT];rcases ZF with rfl|⟨m,rfl,hm,hcall⟩
  ·simp only[bne_self_eq_false,oCF,oBS,if_true];rw[m2];rfl
  ·have hne:((m:Int) != -1)=true:=by rw[bne_iff_ne];omega
   have hml:=(oGS hm).1;obtain⟨z,hz2⟩:∃z,(st.set i (if call=0 then 4 else if w=true then 3 else 1))[m]?=some z:=⟨_,oGE (by rw[List.length_set];exact hml)⟩;simp only[hne,oCT,dL,oBS,show dJ st m=some 0 from hm,bne_self_eq_false,oCF,hcall];rw[hcall]at m2 hz2;rw[m2];simp only[oBS,hne,oCT,dL,show dJ _ m=some z from hz2,dX hz2,oIN (show ¬(m:Int)=-1 by omega),oTN]
 unfold enF fm;simp only[dL,oBS,show dJ st i=some 2 from hx,Int.reduceBEq,oCT,oCF,ans]
end
def zX(us:List DOu):DEn->List DOu
 |(k,_,_,_,_,_,_,_,call,args,data,t,v,_,_,_,_,_)=>
  if k=2/\call=13/\t=0/\v≠65535 then(match args with
   | []=>us
   |a::_=>if 0<=a.2.1/\a.2.1<2/\us.length<200/\data.length<=16 then us++[((us.length:Int),a.2.1,data)]else us)else us
def CE(l:List DEn):List DOu:=l.foldl zX []
theorem s8(l:List DEn)(e:DEn):CE (l++[e])=zX (CE l) e:=by
 unfold CE;rw[List.foldl_append];rfl
theorem EE{us Yj:List DOu}{i trap count pc call:Int}{args data:List DCn}{t v rg o sp:Int}{dat:List DCn}{w:Bool}(h:KM us Yj call args data t v)(hd:data.length<=16):zX us (2,i,0,i,1,trap,count,pc,call,args,data,t,v,rg,o,dat,sp,w)=Yj:=by
 rcases h with⟨h1,rfl⟩|⟨rfl,rfl,⟨rfl,rfl⟩|⟨hv,a,ha,rfl,h0,h1,h2⟩⟩
 ·simp only[zX];rw[oIN (λh=>h1 h.2.1)]
 ·simp[zX]
 ·cases args with
  |nil=>cases ha
  |cons b args=>
   injection ha with ha
   subst ha;show(if(2:Int)=2/\(13:Int)=13/\(0:Int)=0/\v≠65535 then(if 0<=b.2.1/\b.2.1<2/\us.length<200/\data.length<=16 then us++[((us.length:Int),b.2.1,data)]else us)else us)=_;rw[oIP ⟨rfl,rfl,rfl,hv⟩,oIP ⟨h0,h1,h2,hd⟩]
end Go.Proofs.YtoldehogdgdhmaaGreat
