/- Part of the proof; no condition. -/
import Derived.Test.YtoldehogdgdhmaaGreatCd
import Derived.WalkKit
import Derived.WalkSpells
import Derived.Handy
import Derived.OpenShut
set_option linter.unusedVariables false
set_option linter.unusedSimpArgs false
namespace Go.Proofs.YtoldehogdgdhmaaGreat
open Go.RowKit
set_option maxRecDepth 100000
noncomputable section
def fm:T0k->Option (T0k⊕((Int×Unit)⊕T0D)):=λ(v0,v1,v2,_)=>
bif(decide (v2<v1))then((eq v2).bind λx0=>
(dM v0 x0).bind λx1=>
(g7 x1.1 x1.2.1 x1.2.2.1 x1.2.2.2.1 x1.2.2.2.2.1 x1.2.2.2.2.2.1 x1.2.2.2.2.2.2.1 x1.2.2.2.2.2.2.2.1 x1.2.2.2.2.2.2.2.2.1 x1.2.2.2.2.2.2.2.2.2.1 x1.2.2.2.2.2.2.2.2.2.2.1 x1.2.2.2.2.2.2.2.2.2.2.2.1 x1.2.2.2.2.2.2.2.2.2.2.2.2.1 x1.2.2.2.2.2.2.2.2.2.2.2.2.2.1 x1.2.2.2.2.2.2.2.2.2.2.2.2.2.2.1 x1.2.2.2.2.2.2.2.2.2.2.2.2.2.2.2.1 x1.2.2.2.2.2.2.2.2.2.2.2.2.2.2.2.2.1 x1.2.2.2.2.2.2.2.2.2.2.2.2.2.2.2.2.2).bind λ(x2,_)=>
bif x2 then(some (.inr (.inl (v2,()))))else
let x3:=w64 (v2+1);
some (.inl (v0,v1,x3,())))else
some (.inr (.inr (v0,v1,v2,false,())))
def fi(a0:LDEn):Option (Int×Unit):=
let x0:=dQ a0.length;
(match dZ fm NN (a0,x0,0,())with
|none=>none
|some (.inl (x1,_))=>
some (x1,())
|some (.inr (x1,_))=>
some ((-1),()))
def o5:X.Cfg:=⟨E0,[pe],[],[⟨3,0,(qS [sP 0 jw,(1,.fn 43 []),Ul 7,Ul 8] []),[(.ret,qS [Ul 4] []),(.exit 0,(qS [sP 0 jw,(1,.fn 43 []),Ul 7,Ul 8,Um 9] []))]⟩]⟩
def j7:Ctr:=⟨71,134,[shU jw,.fn 43 []],[],[⟨zab,[.one],[]⟩],ap1 fi⟩
theorem oV:Lk 9 j7:=ls o5 (aC vq aN)
def fr(a0:LDEn):Option (Bool×Unit):=
(fi a0).bind λ(x0,_)=>
some ((decide (x0>=0)),())
def nG:X.Cfg:=⟨E0,[j7],[],[]⟩
def i4:Ctr:=⟨42,135,[shU jw,.fn 43 []],[],[⟨Up,[.one],[]⟩],ap1 fr⟩
theorem nE:Lk 10 i4:=ls nG (aC oV aN)
def jj(a0:Int):Option (Bool×Unit):=
bif(a0==1)then(some (true,()))else
some ((a0==2),())
def CL:X.Cfg:=⟨E0,[],[],[]⟩
def uG:Ctr:=⟨72,136,zab,[],[⟨Up,[.one],[]⟩],ap1 jj⟩
theorem BZ:Lk 1 uG:=ls CL aN
def jA:T0g->Option (T0g⊕T0u):=λ(v0,v1,v2,_)=>
bif(decide (v0>=0))then(let x0:Int:=(w64 (8*v0));
(eq x0).bind λx1=>
let x2:Int:=(shR .shr .i64 v1 x1);
let x3:=wk .u8 x2;
bif(dW 1 v2.length (List.length [x3]))then let x4:List (Int):=(List.append v2 [x3]);
let x5:=w64 (v0-1);
some (.inl (x5,v1,x4,()))else none)else
some (.inr (v0,v1,false,v2,()))
def fY(a0:Int)(a1:Int)(a2:List (Int)):Option (LI×Unit):=
let x0:=w64 (a0-1);
(dZ jA NN (x0,a1,a2,())).bind λ(x1,x2,x3,x4,_)=>
some (x4,())
def Gn:X.Cfg:=⟨E0,[],[],[(lx 3 0 [Un 0 3,Ul 1,Ul 2] [(3,yab)] 10)]⟩
def p7:Ctr:=⟨74,137,[.pk ⟨3,0,[]⟩ [0,0],shU I64,shU I64],[(3,yab)],[⟨yab,[.one],[(3,[])]⟩],ap3 fY⟩
theorem s8:Lk 1 p7:=ls Gn aN
def iY(a0:Int)(a1:Int)(a2:Int)(a3:Int)(a4:List (Int)):Option (LI×Unit):=
bif(a0==1)then(let x0:Int:=(w64 (a2+1));
let x1:=wk .u8 x0;
let x2:List (Int):=[a0,x1];
bif(dW 1 a4.length x2.length)then let x3:List (Int):=(List.append a4 x2);
(fY 2 a3 x3).bind λ(x4,_)=>
some (x4,())else none)else
let x0:List (Int):=[a0,0];
bif(dW 1 a4.length x0.length)then let x1:List (Int):=(List.append a4 x0);
let x2:=wk .i64 a1;
(fY 2 x2 x1).bind λ(x3,_)=>
some (x3,())else none
def EQ:X.Cfg:=⟨E0,[p7],[],[]⟩
def rN:Ctr:=⟨76,138,[.pk ⟨3,0,[]⟩ [0,0],.agg Xad],[(3,yab)],[⟨yab,[.one],[(3,[])]⟩],ap5 iY⟩
theorem wq:Lk 2 rN:=ls EQ (aC s8 aN)
def ny:T0B->Option (T0B⊕(LDCn×T0u)):=λ(v0,v1,v2,v3,_)=>
bif(decide (v2<v1))then((eq v2).bind λx0=>
(dM v0 x0).bind λx1=>
(iY x1.1 x1.2.1 x1.2.2.1 x1.2.2.2 v3).bind λ(x2,_)=>
let x3:=w64 (v2+1);
some (.inl (v0,v1,x3,x2,())))else
some (.inr (v0,v1,v2,false,v3,()))
def ig(a0:LDCn)(a1:List (Int)):Option (LI×Unit):=
let x0:=dQ a0.length;
let x1:=wk .u8 x0;
bif(dW 1 a1.length (List.length [x1]))then let x2:List (Int):=(List.append a1 [x1]);
let x3:=dQ a0.length;
(dZ ny NN (a0,x3,0,x2,())).bind λ(x4,x5,x6,x7,x8,_)=>
some (x8,())else none
def EP:X.Cfg:=⟨E0,[rN],[],[(lx 4 0 [Un 0 3,sP 13 ej,Ul 14,Ul 15] [(3,yab)] 16)]⟩
def rM:Ctr:=⟨77,139,[.pk ⟨3,0,[]⟩ [0,0],shU ej],[(3,yab)],[⟨yab,[.one],[(3,[])]⟩],ap2 ig⟩
theorem wo:Lk 3 rM:=ls EP (aC wq aN)
def jk(a0:Int)(a1:Int)(a2:Int)(a3:Int)(a4:Int)(a5:Int)(a6:LDCn)(a7:LDCn):Option (T07):=
(gw a0 a1 a2 a3 a4 a5 a6 a7).bind λ(x0,_)=>
bif(!x0)then(some ([],1,()))else
let x1:=wk .u8 a0;
let x2:=wk .u8 a1;
let x3:=wk .u8 a2;
let x4:List (Int):=[x1,x2,x3];
(fY 6 a3 x4).bind λ(x5,_)=>
let x6:=wk .u8 a4;
let x7:=wk .u8 a5;
let x8:List (Int):=[x6,x7];
bif(dW 1 x5.length x8.length)then let x9:List (Int):=(List.append x5 x8);
(ig a6 x9).bind λ(ac,_)=>
(ig a7 ac).bind λ(ae,_)=>
some (ae,0,())else none
def vD:X.Cfg:=⟨E0,[nL,p7,rM],[],[]⟩
def pf:Ctr:=⟨73,140,[.agg yaa],[],[⟨zah,[.one,.one],[]⟩],ap8 jk⟩
theorem vt:Lk 7 pf:=ls vD (aC q7 (aC s8 (aC wo aN)))
def fX(a0:Int):Option (Bool×Unit):=
bif(a0==2)then(some (true,()))else
some ((a0==4),())
def xo:X.Cfg:=⟨E0,[],[],[]⟩
def qq:Ctr:=⟨75,141,zab,[],[⟨Up,[.one],[]⟩],ap1 fX⟩
theorem xk:Lk 1 qq:=ls xo aN
def fD(a0:Int)(a1:Int)(a2:Int)(a3:Int)(a4:Int)(a5:Int)(a6:Int)(a7:Int)(a8:Int)(a9:LDCn)(a10:LDCn)(a11:Int)(a12:Int)(a13:Int)(a14:Int)(a15:LDCn)(a16:Int)(a17:Bool)(a18:List (Int)):Option (LI×Unit):=
(jj a0).bind λ(x0,_)=>
bif x0 then((jk a3 a4 a5 a6 a7 a8 a9 a10).bind λ(x1,x2,_)=>
let x3:=wk .u8 a0;
let x4:=wk .u8 a1;
let x5:=wk .u8 a2;
let x6:List (Int):=[x3,x4,x5];
bif(dW 1 a18.length x6.length)then let x7:List (Int):=(List.append a18 x6);
let x8:=dQ x1.length;
(fY 2 x8 x7).bind λ(x9,_)=>
bif(dW 1 x9.length x1.length)then let ac:List (Int):=(List.append x9 x1);
(fX a0).bind λ(ae,_)=>
bif(!ae)then(some (ac,()))else
(iY a11 a12 a13 a14 ac).bind λ(af,_)=>
let ag:=w64 (a16+1);
let ah:=wk .u8 ag;
bif(dW 1 af.length (List.length [ah]))then let ai:List (Int):=(List.append af [ah]);
(bif a17 then(bif(dW 1 ai.length (List.length [1]))then let aj:List (Int):=(List.append ai [1]);
some (aj,a0,a1,a2,a3,a4,a5,a6,a7,a8,a9,a10,a11,a12,a13,a14,a15,a16,a17,())else none)else
bif(dW 1 ai.length (List.length [0]))then let aj:List (Int):=(List.append ai [0]);
some (aj,a0,a1,a2,a3,a4,a5,a6,a7,a8,a9,a10,a11,a12,a13,a14,a15,a16,a17,())else none:Option (T2J)).bind λ(aj,ak,am,an,ap,aq,av,ax,ay,az,aA,aB,aD,aE,aF,aG,aH,_)=>
(ig aH aj).bind λ(aK,_)=>
some (aK,())else none else none else none)else
let x1:=wk .u8 a0;
let x2:=wk .u8 a1;
let x3:=wk .u8 a2;
let x4:List (Int):=[x1,x2,x3];
bif(dW 1 a18.length x4.length)then let x5:List (Int):=(List.append a18 x4);
(fY 2 0 x5).bind λ(x6,_)=>
bif(dW 1 x6.length 0)then(fX a0).bind λ(x7,_)=>
bif(!x7)then(some (x6,()))else
(iY a11 a12 a13 a14 x6).bind λ(x8,_)=>
let x9:=w64 (a16+1);
let ac:=wk .u8 x9;
bif(dW 1 x8.length (List.length [ac]))then let ae:List (Int):=(List.append x8 [ac]);
(bif a17 then(bif(dW 1 ae.length (List.length [1]))then let af:List (Int):=(List.append ae [1]);
some (af,a0,a1,a2,a3,a4,a5,a6,a7,a8,a9,a10,a11,a12,a13,a14,a15,a16,a17,())else none)else
bif(dW 1 ae.length (List.length [0]))then let af:List (Int):=(List.append ae [0]);
some (af,a0,a1,a2,a3,a4,a5,a6,a7,a8,a9,a10,a11,a12,a13,a14,a15,a16,a17,())else none:Option (T2J)).bind λ(af,ag,ah,ai,aj,ak,am,an,ap,aq,av,ax,ay,az,aA,aB,aD,aE,aF,_)=>
(ig aD af).bind λ(aG,_)=>
some (aG,())else none else none else none
def Af:X.Cfg:=⟨E0,[uG,pf,p7,qq,rN,rM],[],[⟨10,0,qE,[(.normal,qS [Un 0 3,Uk 3] [(3,yab),(8,Uad)])]⟩]⟩
def sQ:Ctr:=⟨44,142,[.pk ⟨3,0,[]⟩ [0,0],.agg Uad],[(3,yab)],[⟨yab,[.one],[(3,[])]⟩],ap19 fD⟩
theorem zL:Lk 8 sQ:=ls Af (aC BZ (aC vt (aC s8 (aC xk (aC wq (aC wo aN))))))
def kM:T0E->Option (T0E⊕(LDEn×T0u)):=λ(v0,v1,v2,v3,_)=>
bif(decide (v2<v1))then((eq v2).bind λx0=>
(dM v0 x0).bind λx1=>
(fD x1.1 x1.2.1 x1.2.2.1 x1.2.2.2.1 x1.2.2.2.2.1 x1.2.2.2.2.2.1 x1.2.2.2.2.2.2.1 x1.2.2.2.2.2.2.2.1 x1.2.2.2.2.2.2.2.2.1 x1.2.2.2.2.2.2.2.2.2.1 x1.2.2.2.2.2.2.2.2.2.2.1 x1.2.2.2.2.2.2.2.2.2.2.2.1 x1.2.2.2.2.2.2.2.2.2.2.2.2.1 x1.2.2.2.2.2.2.2.2.2.2.2.2.2.1 x1.2.2.2.2.2.2.2.2.2.2.2.2.2.2.1 x1.2.2.2.2.2.2.2.2.2.2.2.2.2.2.2.1 x1.2.2.2.2.2.2.2.2.2.2.2.2.2.2.2.2.1 x1.2.2.2.2.2.2.2.2.2.2.2.2.2.2.2.2.2 v3).bind λ(x2,_)=>
let x3:=w64 (v2+1);
some (.inl (v0,v1,x3,x2,())))else
some (.inr (v0,v1,v2,false,v3,()))
def fE(a0:LDEn):Option (T07):=
(fr a0).bind λ(x0,_)=>
bif x0 then(some ([],1,()))else
let x1:=dQ a0.length;
bif(decide (x1>200))then(some ([],3,()))else
let x2:=dQ a0.length;
(dZ kM NN (a0,x2,0,[],())).bind λ(x3,x4,x5,x6,x7,_)=>
some (x7,0,())
def yL:X.Cfg:=⟨E0,[i4,sQ],[],[(lx 10 0 [Un 4 11,sP 12 jw,Ul 13,Ul 14] [(11,yab)] 15)]⟩
def nN:Ctr:=⟨18,143,Uaf,[],[⟨zah,[.one,.one],[]⟩],ap1 fE⟩
theorem rd:Lk 11 nN:=ls yL (aC nE (aC zL aN))
def mL:Option (Bool×Unit):=
let x0:LDEn:=[(1,(0,(1,(0,(1,(0,(0,(0,(15,([],([],(0,(0,(0,(0,([],(0,false)))))))))))))))))];
(qM x0).bind λ(x1,x2,_)=>
let x3:LDEn:=[(1,(0,(1,(0,(1,(0,(0,(0,(15,([],([],(0,(0,(0,(0,([],(0,false)))))))))))))))))];
(fE x3).bind λ(x4,x5,_)=>
(eM 1 0 1 0 1 0 0 0 15 [] [] 0 0 0 0 [] 0 false).bind λ(x6,_)=>
bif x6 then(bif x2 then(let x7:Int:=(dQ x1.length);
bif(x7==4)then((dM x1 0).bind λx8=>
(dM x1 0).bind λx9=>
bif(x9==2)then(bif(x5==0)then(let ac:Int:=(dQ x4.length);
some ((ac==18),()))else
some (false,()))else
some (false,()))else
some (false,()))else
some (false,()))else
some (false,())
def CO:X.Cfg:=⟨E0,[rJ,nN,jF],[(10,w7),(16,w7)],[]⟩
def uJ:Ctr:=⟨14,144,[],[],[⟨Up,[.one],[]⟩],λh=>mL⟩
theorem B4:Lk 12 uJ:=ls CO (aC yu (aC rd (aC lM aN)))
def mj:T0F->Option (T0F⊕((Bool×Unit)⊕T0U)):=λ(v0,v1,v2,v3,_)=>
bif(decide (v3<v2))then((eq v3).bind λx0=>
(dM v1 x0).bind λx1=>
(let x2:=dQ x1.2.2.2.2.2.2.2.2.2.1.length;
bif(decide (x2>30))then(some (v0,v1,v2,v3,true,()))else
let x3:=dQ x1.2.2.2.2.2.2.2.2.2.2.1.length;
bif(decide (x3>30))then(some (v0,v1,v2,v3,true,()))else
let x4:=dQ x1.2.2.2.2.2.2.2.2.2.2.2.2.2.2.2.1.length;
some (v0,v1,v2,v3,(decide (x4>30)),()):Option (T0U)).bind λ(x2,x3,x4,x5,x6,_)=>
bif x6 then(some (.inr (.inl (false,()))))else
let x7:=w64 (x5+1);
some (.inl (x2,x3,x4,x7,())))else
some (.inr (.inr (v0,v1,v2,v3,false,())))
def mK(a0:LDEn):Option (Bool×Unit):=
let x0:=dQ a0.length;
(match dZ mj NN (a0,a0,x0,0,())with
|none=>none
|some (.inl (x1,_))=>
some (x1,())
|some (.inr (x1,_))=>
let x6:=dQ x1.length;
some ((decide (x6<=30)),()))
def CN:X.Cfg:=⟨E0,[],[],[⟨8,0,qE,[(.normal,qS [sP 0 jw,sP 5 jw,Ul 6,Ul 7,Um 29] [])]⟩,⟨3,1,qS [sP 0 jw,sP 5 jw,Ul 6,Ul 7] [],[(.ret,qS [Um 2] []),(.exit 0,qS [sP 0 jw,sP 5 jw,Ul 6,Ul 7,Um 8] [])]⟩]⟩
def uI:Ctr:=⟨15,146,Uaf,[],[⟨Up,[.one],[]⟩],ap1 mK⟩
theorem B3:Lk 1 uI:=ls CN aN
def jq:T0C->Option (T0C⊕((Bool×Unit)⊕(LDCn×T0A))):=λ(v0,v1,v2,v3,_)=>
bif(decide (v3<v2))then((eq v3).bind λx0=>
(dM v0 x0).bind λx1=>
(eq v3).bind λx2=>
(dM v1 x2).bind λx3=>
let x4:Bool:=(!((x1.1==x3.1)&&((x1.2.1==x3.2.1)&&((x1.2.2.1==x3.2.2.1)&&((x1.2.2.2==x3.2.2.2)&&true)))));
bif x4 then(some (.inr (.inl (false,()))))else
let x5:=w64 (v3+1);
some (.inl (v0,v1,v2,x5,())))else
some (.inr (.inr (v0,v1,v2,v3,false,())))
def gt(a0:LDCn)(a1:LDCn):Option (Bool×Unit):=
let x0:=dQ a0.length;
let x1:=dQ a1.length;
bif(x0 != x1)then(some (false,()))else
let x2:=dQ a0.length;
(match dZ jq NN (a0,a1,x2,0,())with
|none=>none
|some (.inl (x3,_))=>
some (x3,())
|some (.inr (x3,_))=>
some (true,()))
def vA:X.Cfg:=⟨E0,[],[],[⟨6,0,qS [sP 0 ej,sP 1 ej,Ul 12,Ul 13] [],[(.ret,qS [Um 4] []),(.exit 0,qS [sP 0 ej,sP 1 ej,Ul 12,Ul 13,Um 14] [])]⟩]⟩
def ly:Ctr:=⟨57,147,uL [ej,ej],[],[⟨Up,[.one],[]⟩],ap2 gt⟩
theorem o4:Lk 1 ly:=ls vA aN
def iO(a0:Int)(a1:Int)(a2:Int)(a3:Int)(a4:LDCn)(a5:Int)(a6:Bool)(a7:Int)(a8:Int)(a9:Int)(a10:Int)(a11:LDCn)(a12:Int)(a13:Bool):Option (Bool×Unit):=
let x0:Bool:=((a0==a7)&&((a1==a8)&&((a2==a9)&&((a3==a10)&&true))));
bif x0 then((gt a4 a11).bind λ(x1,_)=>
bif x1 then(bif(a5==a12)then(some ((a6==a13),()))else
some (false,()))else
some (false,()))else
some (false,())
def Ex:X.Cfg:=⟨E0,[ly],[],[]⟩
def rz:Ctr:=⟨39,148,[.agg yac,.agg yac],[],[⟨Up,[.one],[]⟩],ap14 iO⟩
theorem wd:Lk 2 rz:=ls Ex (aC o4 aN)
def iR(a0:Int)(a1:Int)(a2:Int)(a3:Int)(a4:Int)(a5:Int)(a6:LDCn)(a7:LDCn)(a8:Int)(a9:Int)(a10:Int)(a11:Int)(a12:Int)(a13:Int)(a14:LDCn)(a15:LDCn):Option (Bool×Unit):=
bif(a0==a8)then(bif(a1==a9)then(bif(a2==a10)then(bif(a3==a11)then(bif(a4==a12)then(bif(a5==a13)then((gt a6 a14).bind λ(x0,_)=>
bif x0 then((gt a7 a15).bind λ(x1,_)=>
some (x1,()))else
some (false,()))else
some (false,()))else
some (false,()))else
some (false,()))else
some (false,()))else
some (false,()))else
some (false,())
def EB:X.Cfg:=⟨E0,[ly],[],[]⟩
def rC:Ctr:=⟨50,149,[.agg yaa,.agg yaa],[],[⟨Up,[.one],[]⟩],ap16 iR⟩
theorem wh:Lk 2 rC:=ls EB (aC o4 aN)
def kq(a0:Int)(a1:Int)(a2:Int)(a3:Int)(a4:Int)(a5:Int)(a6:LDCn)(a7:LDCn):Option (Bool×Unit):=
(iR a0 a1 a2 a3 a4 a5 a6 a7 0 0 0 0 0 0 [] []).bind λ(x0,_)=>
some (x0,())
def yC:X.Cfg:=⟨E0,[rC],[],[]⟩
def rm:Ctr:=⟨41,150,[.agg yaa],[],[⟨Up,[.one],[]⟩],ap8 kq⟩
theorem yi:Lk 3 rm:=ls yC (aC wh aN)
def jf(a0:Int)(a1:Int)(a2:Int)(a3:Int)(a4:Int)(a5:Int)(a6:Int)(a7:Int)(a8:Int)(a9:LDCn)(a10:LDCn)(a11:Int)(a12:Int)(a13:Int)(a14:Int)(a15:LDCn)(a16:Int)(a17:Bool):Option (Bool×Unit):=
bif(decide (a1<0))then(some (false,()))else
bif(decide (a1>=4))then(some (false,()))else
bif(a0==1)then(bif(decide (a2>=1))then(bif(decide (a2<=64))then((fG a3 a4 a5 a6 a7 a8 a9 a10).bind λ(x0,_)=>
bif x0 then(bif(a3==a1)then(bif(a4 != 3)then((iO a11 a12 a13 a14 a15 a16 a17 0 0 0 0 [] 0 false).bind λ(x1,_)=>
some (x1,()))else
some (false,()))else
some (false,()))else
some (false,()))else
some (false,()))else
some (false,()))else
bif(a0==2)then(bif(a2==0)then((fG a3 a4 a5 a6 a7 a8 a9 a10).bind λ(x0,_)=>
bif x0 then(bif(a3==a1)then(bif(a4==1)then((f9 a11 a12 a13 a14 a15 a16 a17).bind λ(x1,_)=>
some (x1,()))else
some (false,()))else
some (false,()))else
some (false,()))else
some (false,()))else
bif(a0==3)then(bif(a2==0)then((kq a3 a4 a5 a6 a7 a8 a9 a10).bind λ(x0,_)=>
bif x0 then((iO a11 a12 a13 a14 a15 a16 a17 0 0 0 0 [] 0 false).bind λ(x1,_)=>
some (x1,()))else
some (false,()))else
some (false,()))else
bif(a0==4)then(bif(a2==0)then((kq a3 a4 a5 a6 a7 a8 a9 a10).bind λ(x0,_)=>
bif x0 then((f9 a11 a12 a13 a14 a15 a16 a17).bind λ(x1,_)=>
bif x1 then(bif(a16==(-1))then(bif(!a17)then(let x2:Int:=(dQ a15.length);
some ((x2==0),()))else
some (false,()))else
some (false,()))else
some (false,()))else
some (false,()))else
some (false,()))else
some (false,())
def Cd:X.Cfg:=⟨E0,[ld,rz,mV,rm],[],[]⟩
def pW:Ctr:=⟨17,151,[.agg Uad],[],[⟨Up,[.one],[]⟩],ap18 jf⟩
theorem tU:Lk 4 pW:=ls Cd (aC mR (aC wd (aC pN (aC yi aN))))
def gY:T0g->Option (T0g⊕T0u):=λ(v0,v1,v2,_)=>
bif(decide (v1>0))then(let x0:Int:=(w64 (v1-1));
let x1:=w64 (8*x0);
let x2:=wk .u64 x1;
(eq x2).bind λx3=>
let x4:Int:=(shR .shr .i64 v0 x3);
let x5:=wk .u8 x4;
bif(dW 1 v2.length (List.length [x5]))then let x6:List (Int):=(List.append v2 [x5]);
let x7:=w64 (v1-1);
some (.inl (v0,x7,x6,()))else none)else
some (.inr (v0,v1,false,v2,()))
def gh(a0:Int)(a1:Int):Option (LI×Unit):=
(dZ gY NN (a0,a1,[],())).bind λ(x0,x1,x2,x3,_)=>
some (x3,())
def zY:X.Cfg:=⟨E0,[],[],[(lx 3 0 [Ul 0,Ul 1,Un 5 13] [(13,yab)] 7)]⟩
def oF:Ctr:=⟨78,152,Zaa,[],[⟨yab,[.one],[]⟩],ap2 gh⟩
theorem sD:Lk 1 oF:=ls zY aN
def nq:T0B->Option (T0B⊕(LDCn×T0u)):=λ(v0,v1,v2,v3,_)=>
bif(decide (v2<v1))then(((eq v2).bind λx0=>
(dM v0 x0).bind λx1=>
bif(x1.1==1)then(let x2:Int:=(w64 (x1.2.2.1+1));
let x3:=wk .u8 x2;
let x4:List (Int):=[x1.1,x3];
bif(dW 1 v3.length x4.length)then let x5:List (Int):=(List.append v3 x4);
(gh x1.2.2.2 2).bind λ(x6,_)=>
bif(dW 1 x5.length x6.length)then let x7:List (Int):=(List.append x5 x6);
some (v0,v1,v2,x7,())else none else none)else
let x2:List (Int):=[x1.1,0];
bif(dW 1 v3.length x2.length)then let x3:List (Int):=(List.append v3 x2);
let x4:=wk .i64 x1.2.1;
(gh x4 2).bind λ(x5,_)=>
bif(dW 1 x3.length x5.length)then let x6:List (Int):=(List.append x3 x5);
some (v0,v1,v2,x6,())else none else none:Option (T0B)).bind λ(x0,x1,x2,x3,_)=>
let x4:=w64 (x2+1);
some (.inl (x0,x1,x4,x3,())))else
some (.inr (v0,v1,v2,false,v3,()))
def gi(a0:LDCn):Option (LI×Unit):=
let x0:=dQ a0.length;
let x1:=wk .u8 x0;
let x2:=dQ a0.length;
(dZ nq NN (a0,x2,0,[x1],())).bind λ(x3,x4,x5,x6,x7,_)=>
some (x7,())
def Ey:X.Cfg:=⟨E0,[oF],[],[⟨7,0,qE,[(.normal,qS [Un 3 9,sP 10 ej,Ul 11,Ul 12] [(9,yab)])]⟩,(lx 4 1 [Un 3 9,sP 10 ej,Ul 11,Ul 12] [(9,yab)] 13)]⟩
def rA:Ctr:=⟨46,153,uL [ej],[],[⟨yab,[.one],[]⟩],ap1 gi⟩
theorem we:Lk 2 rA:=ls Ey (aC sD aN)
def kz(a0:Int)(a1:Int)(a2:Int)(a3:Int)(a4:Int)(a5:Int)(a6:LDCn)(a7:LDCn):Option (T07):=
(fG a0 a1 a2 a3 a4 a5 a6 a7).bind λ(x0,_)=>
bif(!x0)then(some ([],1,()))else
let x1:=wk .u8 a0;
let x2:=wk .u8 a1;
let x3:=wk .u8 a2;
let x4:List (Int):=[x1,x2,x3];
(gh a3 6).bind λ(x5,_)=>
bif(dW 1 x4.length x5.length)then let x6:List (Int):=(List.append x4 x5);
let x7:=wk .u8 a4;
let x8:=wk .u8 a5;
let x9:List (Int):=[x7,x8];
bif(dW 1 x6.length x9.length)then let ac:List (Int):=(List.append x6 x9);
(gi a6).bind λ(ae,_)=>
bif(dW 1 ac.length ae.length)then let af:List (Int):=(List.append ac ae);
(gi a7).bind λ(ag,_)=>
bif(dW 1 af.length ag.length)then let ah:List (Int):=(List.append af ag);
some (ah,0,())else none else none else none else none
def Cl:X.Cfg:=⟨E0,[ld,oF,rA],[],[]⟩
def ur:Ctr:=⟨45,154,[.agg yaa],[],[⟨zah,[.one,.one],[]⟩],ap8 kz⟩
theorem BK:Lk 4 ur:=ls Cl (aC mR (aC sD (aC we aN)))
def fN:T0V->Option (T0V⊕((Int×Unit×Unit)⊕(LDEn×LDEn×T0u))):=λ(v0,v1,v2,v3,v4,_)=>
bif(decide (v3<v2))then((match((eq v3).bind λx0=>
(dM v1 x0).bind λx1=>
(jf x1.1 x1.2.1 x1.2.2.1 x1.2.2.2.1 x1.2.2.2.2.1 x1.2.2.2.2.2.1 x1.2.2.2.2.2.2.1 x1.2.2.2.2.2.2.2.1 x1.2.2.2.2.2.2.2.2.1 x1.2.2.2.2.2.2.2.2.2.1 x1.2.2.2.2.2.2.2.2.2.2.1 x1.2.2.2.2.2.2.2.2.2.2.2.1 x1.2.2.2.2.2.2.2.2.2.2.2.2.1 x1.2.2.2.2.2.2.2.2.2.2.2.2.2.1 x1.2.2.2.2.2.2.2.2.2.2.2.2.2.2.1 x1.2.2.2.2.2.2.2.2.2.2.2.2.2.2.2.1 x1.2.2.2.2.2.2.2.2.2.2.2.2.2.2.2.2.1 x1.2.2.2.2.2.2.2.2.2.2.2.2.2.2.2.2.2).bind λ(x2,_)=>
bif(!x2)then(some (.inl (1,(),())))else
(bif(x1.1==1)then((kz x1.2.2.2.1 x1.2.2.2.2.1 x1.2.2.2.2.2.1 x1.2.2.2.2.2.2.1 x1.2.2.2.2.2.2.2.1 x1.2.2.2.2.2.2.2.2.1 x1.2.2.2.2.2.2.2.2.2.1 x1.2.2.2.2.2.2.2.2.2.2.1).bind λ(x3,x4,_)=>
some (v0,v1,v2,v3,v4,x1.1,x1.2.1,x1.2.2.1,x1.2.2.2.1,x1.2.2.2.2.1,x1.2.2.2.2.2.1,x1.2.2.2.2.2.2.1,x1.2.2.2.2.2.2.2.1,x1.2.2.2.2.2.2.2.2.1,x1.2.2.2.2.2.2.2.2.2.1,x1.2.2.2.2.2.2.2.2.2.2.1,x1.2.2.2.2.2.2.2.2.2.2.2.1,x1.2.2.2.2.2.2.2.2.2.2.2.2.1,x1.2.2.2.2.2.2.2.2.2.2.2.2.2.1,x1.2.2.2.2.2.2.2.2.2.2.2.2.2.2.1,x1.2.2.2.2.2.2.2.2.2.2.2.2.2.2.2.1,x1.2.2.2.2.2.2.2.2.2.2.2.2.2.2.2.2.1,x1.2.2.2.2.2.2.2.2.2.2.2.2.2.2.2.2.2,x3,()))else
bif(x1.1==2)then((kz x1.2.2.2.1 x1.2.2.2.2.1 x1.2.2.2.2.2.1 x1.2.2.2.2.2.2.1 x1.2.2.2.2.2.2.2.1 x1.2.2.2.2.2.2.2.2.1 x1.2.2.2.2.2.2.2.2.2.1 x1.2.2.2.2.2.2.2.2.2.2.1).bind λ(x3,x4,_)=>
some (v0,v1,v2,v3,v4,x1.1,x1.2.1,x1.2.2.1,x1.2.2.2.1,x1.2.2.2.2.1,x1.2.2.2.2.2.1,x1.2.2.2.2.2.2.1,x1.2.2.2.2.2.2.2.1,x1.2.2.2.2.2.2.2.2.1,x1.2.2.2.2.2.2.2.2.2.1,x1.2.2.2.2.2.2.2.2.2.2.1,x1.2.2.2.2.2.2.2.2.2.2.2.1,x1.2.2.2.2.2.2.2.2.2.2.2.2.1,x1.2.2.2.2.2.2.2.2.2.2.2.2.2.1,x1.2.2.2.2.2.2.2.2.2.2.2.2.2.2.1,x1.2.2.2.2.2.2.2.2.2.2.2.2.2.2.2.1,x1.2.2.2.2.2.2.2.2.2.2.2.2.2.2.2.2.1,x1.2.2.2.2.2.2.2.2.2.2.2.2.2.2.2.2.2,x3,()))else
some (v0,v1,v2,v3,v4,x1.1,x1.2.1,x1.2.2.1,x1.2.2.2.1,x1.2.2.2.2.1,x1.2.2.2.2.2.1,x1.2.2.2.2.2.2.1,x1.2.2.2.2.2.2.2.1,x1.2.2.2.2.2.2.2.2.1,x1.2.2.2.2.2.2.2.2.2.1,x1.2.2.2.2.2.2.2.2.2.2.1,x1.2.2.2.2.2.2.2.2.2.2.2.1,x1.2.2.2.2.2.2.2.2.2.2.2.2.1,x1.2.2.2.2.2.2.2.2.2.2.2.2.2.1,x1.2.2.2.2.2.2.2.2.2.2.2.2.2.2.1,x1.2.2.2.2.2.2.2.2.2.2.2.2.2.2.2.1,x1.2.2.2.2.2.2.2.2.2.2.2.2.2.2.2.2.1,x1.2.2.2.2.2.2.2.2.2.2.2.2.2.2.2.2.2,[],()):Option (LDEn×LDEn×Int×Int×LI×Int×Int×Int×Int×Int×Int×Int×Int×Int×LDCn×LDCn×Int×Int×Int×Int×LDCn×T0c)).bind λ(x3,x4,x5,x6,x7,x8,x9,ac,ae,af,ag,ah,ai,aj,ak,am,an,ap,aq,av,ax,ay,az,aA,_)=>
let aB:=wk .u8 x8;
let aD:=wk .u8 x9;
let aE:=wk .u8 ac;
let aF:=dQ aA.length;
let aG:Int:=(shR .shr .i64 aF 8);
let aH:=wk .u8 aG;
let aI:=dQ aA.length;
let aJ:=wk .u8 aI;
let aK:List (Int):=[aB,aD,aE,aH,aJ];
bif(dW 1 x7.length aK.length)then let aL:List (Int):=(List.append x7 aK);
bif(dW 1 aL.length aA.length)then let aM:List (Int):=(List.append aL aA);
bif(x8==2)then((bif az then(some (x3,1,x4,x5,x6,aM,x8,x9,ac,ae,af,ag,ah,ai,aj,ak,am,an,ap,aq,av,ax,ay,az,()))else
some (x3,0,x4,x5,x6,aM,x8,x9,ac,ae,af,ag,ah,ai,aj,ak,am,an,ap,aq,av,ax,ay,az,()):Option (T2Q)).bind λ(aO,aP,aQ,aR,aS,aT,aU,aV,aW,aY,aZ,ba,bc,bd,bf,bg,bh,bi,bj,bk,bl,bm,bn,bo,_)=>
let bp:LDCn:=[(bi,(bj,(bk,bl)))];
(gi bp).bind λ(bq,_)=>
bif(gF 1 bq.length bq.length)then bif(dW 1 aT.length (List.length (my bq 1 (Nat.sub bq.length 1))))then let bt:List (Int):=(List.append aT (my bq 1 (Nat.sub bq.length 1)));
let bv:=w64 (bn+1);
let bx:=wk .u8 bv;
let bz:List (Int):=[bx,aP];
bif(dW 1 bt.length bz.length)then let bA:List (Int):=(List.append bt bz);
(gi bm).bind λ(bB,_)=>
bif(dW 1 bA.length bB.length)then let bC:List (Int):=(List.append bA bB);
some (.inr (aO,aQ,aR,aS,bC,()))else none else none else none else none)else
bif(x8==4)then((bif az then(some (x3,1,x4,x5,x6,aM,x8,x9,ac,ae,af,ag,ah,ai,aj,ak,am,an,ap,aq,av,ax,ay,az,()))else
some (x3,0,x4,x5,x6,aM,x8,x9,ac,ae,af,ag,ah,ai,aj,ak,am,an,ap,aq,av,ax,ay,az,()):Option (T2Q)).bind λ(aO,aP,aQ,aR,aS,aT,aU,aV,aW,aY,aZ,ba,bc,bd,bf,bg,bh,bi,bj,bk,bl,bm,bn,bo,_)=>
let bp:LDCn:=[(bi,(bj,(bk,bl)))];
(gi bp).bind λ(bq,_)=>
bif(gF 1 bq.length bq.length)then bif(dW 1 aT.length (List.length (my bq 1 (Nat.sub bq.length 1))))then let bt:List (Int):=(List.append aT (my bq 1 (Nat.sub bq.length 1)));
let bv:=w64 (bn+1);
let bx:=wk .u8 bv;
let bz:List (Int):=[bx,aP];
bif(dW 1 bt.length bz.length)then let bA:List (Int):=(List.append bt bz);
(gi bm).bind λ(bB,_)=>
bif(dW 1 bA.length bB.length)then let bC:List (Int):=(List.append bA bB);
some (.inr (aO,aQ,aR,aS,bC,()))else none else none else none else none)else
some (.inr (x3,x4,x5,x6,aM,()))else none else none:Option ((Int×Unit×Unit)⊕T0V))with
|none=>none
|some (.inl (x0,x1,_))=>
some (.inr (.inl (x0,x1,())))
|some (.inr (x0,x1,x2,x3,x4,_))=>
let x5:=w64 (x3+1);
some (.inl (x0,x1,x2,x5,x4,()))))else
some (.inr (.inr (v0,v1,v2,v3,false,v4,())))
def gO(a0:LDEn):Option (T07):=
let x0:=dQ a0.length;
(match dZ fN NN (a0,a0,x0,0,[],())with
|none=>none
|some (.inl (x1,x2,_))=>
some ([],x1,())
|some (.inr (x1,x2,x3,x4,x5,x6,_))=>
let x7:=dQ x1.length;
bif(decide (x7>200))then(some ([],3,()))else
some (x6,0,()))
def zX:X.Cfg:=⟨E0,[pW,ur,rA],[],[⟨13,0,qE,[(.normal,qS [sP 0 jw,Un 4 11,Uk 6,Un 7 17,sP 9 jw,Ul 10,Ul 11] [(11,yab),(14,Uad),(17,yab)])]⟩,⟨19,1,qE,[(.normal,qS [sP 0 jw,Un 4 11,Uk 6,sP 8 CB,sP 9 jw,Ul 10,Ul 11] [(11,yab),(14,Uad)])]⟩,⟨7,2,qE,[(.ret,(qS [Un 2 7,Ul 3] [(7,uL [N1])])),(.normal,qS [sP 0 jw,Un 4 11,sP 9 jw,Ul 10,Ul 11] [(11,yab)])]⟩,⟨4,3,qS [sP 0 jw,Un 4 11,sP 9 jw,Ul 10,Ul 11] [(11,yab)],[(.ret,(qS [Un 2 7,Ul 3] [(7,uL [N1])])),(.exit 0,qS [sP 0 jw,Un 4 11,sP 9 jw,Ul 10,Ul 11,Um 12] [(11,yab)])]⟩]⟩
def sL:Ctr:=⟨19,155,Uaf,[],[⟨zah,[.one,.one],[]⟩],ap1 gO⟩
theorem zH:Lk 5 sL:=ls zX (aC tU (aC BK (aC we aN)))
def kK(a0:Int)(a1:Int)(a2:Int)(a3:Int)(a4:Int)(a5:Int)(a6:Int)(a7:Int)(a8:Int)(a9:LDCn)(a10:LDCn)(a11:Int)(a12:Int)(a13:Int)(a14:Int)(a15:LDCn)(a16:Int)(a17:Bool)(a18:Int)(a19:Int)(a20:Int)(a21:Int)(a22:Int)(a23:Int)(a24:Int)(a25:Int)(a26:Int)(a27:LDCn)(a28:LDCn)(a29:Int)(a30:Int)(a31:Int)(a32:Int)(a33:LDCn)(a34:Int)(a35:Bool):Option (Bool×Unit):=
bif(a0==a18)then(bif(a1==a19)then(bif(a2==a20)then((fB a3 a4 a5 a6 a7 a8 a9 a10 a21 a22 a23 a24 a25 a26 a27 a28).bind λ(x0,_)=>
bif x0 then(let x1:Bool:=((a11==a29)&&((a12==a30)&&((a13==a31)&&((a14==a32)&&true))));
bif x1 then((eV a15 a33).bind λ(x2,_)=>
bif x2 then(bif(a16==a34)then(some ((a17==a35),()))else
some (false,()))else
some (false,()))else
some (false,()))else
some (false,()))else
some (false,()))else
some (false,()))else
some (false,())
def yK:X.Cfg:=⟨E0,[lN,ju],[],[]⟩
def rK:Ctr:=⟨48,156,[.agg Uad,.agg Uad],[],[⟨Up,[.one],[]⟩],λh=>kK h.1 h.2.1 h.2.2.1 h.2.2.2.1 h.2.2.2.2.1 h.2.2.2.2.2.1 h.2.2.2.2.2.2.1 h.2.2.2.2.2.2.2.1 h.2.2.2.2.2.2.2.2.1 h.2.2.2.2.2.2.2.2.2.1 h.2.2.2.2.2.2.2.2.2.2.1 h.2.2.2.2.2.2.2.2.2.2.2.1 h.2.2.2.2.2.2.2.2.2.2.2.2.1 h.2.2.2.2.2.2.2.2.2.2.2.2.2.1 h.2.2.2.2.2.2.2.2.2.2.2.2.2.2.1 h.2.2.2.2.2.2.2.2.2.2.2.2.2.2.2.1 h.2.2.2.2.2.2.2.2.2.2.2.2.2.2.2.2.1 h.2.2.2.2.2.2.2.2.2.2.2.2.2.2.2.2.2.1 h.2.2.2.2.2.2.2.2.2.2.2.2.2.2.2.2.2.2.1 h.2.2.2.2.2.2.2.2.2.2.2.2.2.2.2.2.2.2.2.1 h.2.2.2.2.2.2.2.2.2.2.2.2.2.2.2.2.2.2.2.2.1 h.2.2.2.2.2.2.2.2.2.2.2.2.2.2.2.2.2.2.2.2.2.1 h.2.2.2.2.2.2.2.2.2.2.2.2.2.2.2.2.2.2.2.2.2.2.1 h.2.2.2.2.2.2.2.2.2.2.2.2.2.2.2.2.2.2.2.2.2.2.2.1 h.2.2.2.2.2.2.2.2.2.2.2.2.2.2.2.2.2.2.2.2.2.2.2.2.1 h.2.2.2.2.2.2.2.2.2.2.2.2.2.2.2.2.2.2.2.2.2.2.2.2.2.1 h.2.2.2.2.2.2.2.2.2.2.2.2.2.2.2.2.2.2.2.2.2.2.2.2.2.2.1 h.2.2.2.2.2.2.2.2.2.2.2.2.2.2.2.2.2.2.2.2.2.2.2.2.2.2.2.1 h.2.2.2.2.2.2.2.2.2.2.2.2.2.2.2.2.2.2.2.2.2.2.2.2.2.2.2.2.1 h.2.2.2.2.2.2.2.2.2.2.2.2.2.2.2.2.2.2.2.2.2.2.2.2.2.2.2.2.2.1 h.2.2.2.2.2.2.2.2.2.2.2.2.2.2.2.2.2.2.2.2.2.2.2.2.2.2.2.2.2.2.1 h.2.2.2.2.2.2.2.2.2.2.2.2.2.2.2.2.2.2.2.2.2.2.2.2.2.2.2.2.2.2.2.1 h.2.2.2.2.2.2.2.2.2.2.2.2.2.2.2.2.2.2.2.2.2.2.2.2.2.2.2.2.2.2.2.2.1 h.2.2.2.2.2.2.2.2.2.2.2.2.2.2.2.2.2.2.2.2.2.2.2.2.2.2.2.2.2.2.2.2.2.1 h.2.2.2.2.2.2.2.2.2.2.2.2.2.2.2.2.2.2.2.2.2.2.2.2.2.2.2.2.2.2.2.2.2.2.1 h.2.2.2.2.2.2.2.2.2.2.2.2.2.2.2.2.2.2.2.2.2.2.2.2.2.2.2.2.2.2.2.2.2.2.2.1⟩
theorem yv:Lk 3 rK:=ls yK (aC oC (aC mr aN))
def gv:T0F->Option (T0F⊕((Bool×Unit)⊕T0U)):=λ(v0,v1,v2,v3,_)=>
bif(decide (v3<v2))then((eq v3).bind λx0=>
(dM v1 x0).bind λx1=>
(eq v3).bind λx2=>
(dM v0 x2).bind λx3=>
(kK x1.1 x1.2.1 x1.2.2.1 x1.2.2.2.1 x1.2.2.2.2.1 x1.2.2.2.2.2.1 x1.2.2.2.2.2.2.1 x1.2.2.2.2.2.2.2.1 x1.2.2.2.2.2.2.2.2.1 x1.2.2.2.2.2.2.2.2.2.1 x1.2.2.2.2.2.2.2.2.2.2.1 x1.2.2.2.2.2.2.2.2.2.2.2.1 x1.2.2.2.2.2.2.2.2.2.2.2.2.1 x1.2.2.2.2.2.2.2.2.2.2.2.2.2.1 x1.2.2.2.2.2.2.2.2.2.2.2.2.2.2.1 x1.2.2.2.2.2.2.2.2.2.2.2.2.2.2.2.1 x1.2.2.2.2.2.2.2.2.2.2.2.2.2.2.2.2.1 x1.2.2.2.2.2.2.2.2.2.2.2.2.2.2.2.2.2 x3.1 x3.2.1 x3.2.2.1 x3.2.2.2.1 x3.2.2.2.2.1 x3.2.2.2.2.2.1 x3.2.2.2.2.2.2.1 x3.2.2.2.2.2.2.2.1 x3.2.2.2.2.2.2.2.2.1 x3.2.2.2.2.2.2.2.2.2.1 x3.2.2.2.2.2.2.2.2.2.2.1 x3.2.2.2.2.2.2.2.2.2.2.2.1 x3.2.2.2.2.2.2.2.2.2.2.2.2.1 x3.2.2.2.2.2.2.2.2.2.2.2.2.2.1 x3.2.2.2.2.2.2.2.2.2.2.2.2.2.2.1 x3.2.2.2.2.2.2.2.2.2.2.2.2.2.2.2.1 x3.2.2.2.2.2.2.2.2.2.2.2.2.2.2.2.2.1 x3.2.2.2.2.2.2.2.2.2.2.2.2.2.2.2.2.2).bind λ(x4,_)=>
bif(!x4)then(some (.inr (.inl (false,()))))else
let x5:=w64 (v3+1);
some (.inl (v0,v1,v2,x5,())))else
some (.inr (.inr (v0,v1,v2,v3,false,())))
def gX(a0:LDEn)(a1:LDEn):Option (Bool×Unit):=
let x0:=dQ a0.length;
let x1:=dQ a1.length;
bif(x0 != x1)then(some (false,()))else
let x2:=dQ a0.length;
(match dZ gv NN (a1,a0,x2,0,())with
|none=>none
|some (.inl (x3,_))=>
some (x3,())
|some (.inr (x3,_))=>
some (true,()))
def o7:X.Cfg:=⟨E0,[rK],[],[⟨6,0,(qS [sP 1 jw,(2,.fn 48 []),sP 15 jw,Ul 16,Ul 17] []),[(.ret,qS [Um 6] []),(.exit 0,(qS [sP 1 jw,(2,.fn 48 []),sP 15 jw,Ul 16,Ul 17,Um 18] []))]⟩]⟩
def j9:Ctr:=⟨47,157,[shU jw,shU jw,.fn 48 []],[],[⟨Up,[.one],[]⟩],ap2 gX⟩
theorem oY:Lk 4 j9:=ls o7 (aC yv aN)
def kL(a0:LDEn)(a1:LDEn):Option (Bool×Unit):=
(gX a0 a1).bind λ(x0,_)=>
some (x0,())
def CM:X.Cfg:=⟨E0,[j9],[],[]⟩
def uH:Ctr:=⟨20,158,uL [jw,jw],[],[⟨Up,[.one],[]⟩],ap2 kL⟩
theorem B2:Lk 5 uH:=ls CM (aC oY aN)
def ng:T0F->Option (T0F⊕((Bool×Unit)⊕T0U)):=λ(v0,v1,v2,v3,_)=>
bif(decide (v3<v2))then(((eq v3).bind λx0=>
(dM v0 x0).bind λx1=>
(eq v3).bind λx2=>
(dM v1 x2).bind λx3=>
bif(x1.1 != x3.1)then(some (v0,v1,v2,v3,true,()))else
(eq v3).bind λx4=>
(dM v0 x4).bind λx5=>
(eq v3).bind λx6=>
(dM v1 x6).bind λx7=>
bif(x5.2.1 != x7.2.1)then(some (v0,v1,v2,v3,true,()))else
(eq v3).bind λx8=>
(dM v0 x8).bind λx9=>
(eq v3).bind λac=>
(dM v1 ac).bind λae=>
bif(x9.2.2.1 != ae.2.2.1)then(some (v0,v1,v2,v3,true,()))else
(eq v3).bind λaf=>
(dM v0 af).bind λag=>
(eq v3).bind λah=>
(dM v1 ah).bind λai=>
(iR ag.2.2.2.1 ag.2.2.2.2.1 ag.2.2.2.2.2.1 ag.2.2.2.2.2.2.1 ag.2.2.2.2.2.2.2.1 ag.2.2.2.2.2.2.2.2.1 ag.2.2.2.2.2.2.2.2.2.1 ag.2.2.2.2.2.2.2.2.2.2.1 ai.2.2.2.1 ai.2.2.2.2.1 ai.2.2.2.2.2.1 ai.2.2.2.2.2.2.1 ai.2.2.2.2.2.2.2.1 ai.2.2.2.2.2.2.2.2.1 ai.2.2.2.2.2.2.2.2.2.1 ai.2.2.2.2.2.2.2.2.2.2.1).bind λ(aj,_)=>
bif(!aj)then(some (v0,v1,v2,v3,true,()))else
(eq v3).bind λak=>
(dM v0 ak).bind λam=>
(eq v3).bind λan=>
(dM v1 an).bind λap=>
(iO am.2.2.2.2.2.2.2.2.2.2.2.1 am.2.2.2.2.2.2.2.2.2.2.2.2.1 am.2.2.2.2.2.2.2.2.2.2.2.2.2.1 am.2.2.2.2.2.2.2.2.2.2.2.2.2.2.1 am.2.2.2.2.2.2.2.2.2.2.2.2.2.2.2.1 am.2.2.2.2.2.2.2.2.2.2.2.2.2.2.2.2.1 am.2.2.2.2.2.2.2.2.2.2.2.2.2.2.2.2.2 ap.2.2.2.2.2.2.2.2.2.2.2.1 ap.2.2.2.2.2.2.2.2.2.2.2.2.1 ap.2.2.2.2.2.2.2.2.2.2.2.2.2.1 ap.2.2.2.2.2.2.2.2.2.2.2.2.2.2.1 ap.2.2.2.2.2.2.2.2.2.2.2.2.2.2.2.1 ap.2.2.2.2.2.2.2.2.2.2.2.2.2.2.2.2.1 ap.2.2.2.2.2.2.2.2.2.2.2.2.2.2.2.2.2).bind λ(aq,_)=>
some (v0,v1,v2,v3,(!aq),()):Option (T0U)).bind λ(x0,x1,x2,x3,x4,_)=>
bif x4 then(some (.inr (.inl (false,()))))else
let x5:=w64 (x3+1);
some (.inl (x0,x1,x2,x5,())))else
some (.inr (.inr (v0,v1,v2,v3,false,())))
def nU(a0:LDEn)(a1:LDEn):Option (Bool×Unit):=
let x0:=dQ a0.length;
let x1:=dQ a1.length;
bif(x0 != x1)then(some (false,()))else
let x2:=dQ a0.length;
(match dZ ng NN (a0,a1,x2,0,())with
|none=>none
|some (.inl (x3,_))=>
some (x3,())
|some (.inr (x3,_))=>
some (true,()))
def Eg:X.Cfg:=⟨E0,[rC,rz],[],[⟨11,0,qE,[(.normal,qS [sP 0 jw,sP 1 jw,Ul 12,Ul 13,Um 80] [])]⟩,⟨6,1,qS [sP 0 jw,sP 1 jw,Ul 12,Ul 13] [],[(.ret,qS [Um 4] []),(.exit 0,qS [sP 0 jw,sP 1 jw,Ul 12,Ul 13,Um 14] [])]⟩]⟩
def wE:Ctr:=⟨21,159,uL [jw,jw],[],[⟨Up,[.one],[]⟩],ap2 nU⟩
theorem DT:Lk 3 wE:=ls Eg (aC wh (aC wd aN))
def fL:T28->Option (T28⊕((Bool×Unit)⊕(LDEn×LDEn×Int×Int×T1s))):=λ(v0,v1,v2,v3,v4,v5,v6,v7)=>
bif(decide (v6<v5))then((eq v6).bind λx0=>
(dM v4 x0).bind λx1=>
(eM x1.1 x1.2.1 x1.2.2.1 x1.2.2.2.1 x1.2.2.2.2.1 x1.2.2.2.2.2.1 x1.2.2.2.2.2.2.1 x1.2.2.2.2.2.2.2.1 x1.2.2.2.2.2.2.2.2.1 x1.2.2.2.2.2.2.2.2.2.1 x1.2.2.2.2.2.2.2.2.2.2.1 x1.2.2.2.2.2.2.2.2.2.2.2.1 x1.2.2.2.2.2.2.2.2.2.2.2.2.1 x1.2.2.2.2.2.2.2.2.2.2.2.2.2.1 x1.2.2.2.2.2.2.2.2.2.2.2.2.2.2.1 x1.2.2.2.2.2.2.2.2.2.2.2.2.2.2.2.1 x1.2.2.2.2.2.2.2.2.2.2.2.2.2.2.2.2.1 x1.2.2.2.2.2.2.2.2.2.2.2.2.2.2.2.2.2).bind λ(x2,_)=>
(jf x1.1 x1.2.1 x1.2.2.1 x1.2.2.2.1 x1.2.2.2.2.1 x1.2.2.2.2.2.1 x1.2.2.2.2.2.2.1 x1.2.2.2.2.2.2.2.1 x1.2.2.2.2.2.2.2.2.1 x1.2.2.2.2.2.2.2.2.2.1 x1.2.2.2.2.2.2.2.2.2.2.1 x1.2.2.2.2.2.2.2.2.2.2.2.1 x1.2.2.2.2.2.2.2.2.2.2.2.2.1 x1.2.2.2.2.2.2.2.2.2.2.2.2.2.1 x1.2.2.2.2.2.2.2.2.2.2.2.2.2.2.1 x1.2.2.2.2.2.2.2.2.2.2.2.2.2.2.2.1 x1.2.2.2.2.2.2.2.2.2.2.2.2.2.2.2.2.1 x1.2.2.2.2.2.2.2.2.2.2.2.2.2.2.2.2.2).bind λ(x3,_)=>
bif(!(x2==x3))then(some (.inr (.inl (false,()))))else
let x4:=w64 (v6+1);
some (.inl (v0,v1,v2,v3,v4,v5,x4,v7)))else
some (.inr (.inr (v0,v1,v2,v3,v4,v5,v6,false,v7)))
def fK:T1a->Option (T1a⊕((Bool×Unit)⊕T1s)):=λ(v0,v1,v2,v3,v4,v5,_)=>
bif(decide (v2<v1))then((eq v2).bind λx0=>
(dM v5 x0).bind λx1=>
(dM v5 x0).bind λx2=>
let x3:=dQ x2.length;
(match dZ fL NN (v0,x2,v1,v2,x2,x3,0,v3,v4,v5,())with
|none=>none
|some (.inl (x4,_))=>
some (.inr (.inl (x4,())))
|some (.inr (x4,x5,x6,x7,x8,x9,ac,ae,af))=>
(fE x5).bind λ(ai,aj,_)=>
(gO x5).bind λ(ak,am,_)=>
(let an:ByteArray:=(Dc ai);
let ap:ByteArray:=(Dc ak);
bif(!(P1 an ap))then(some (x4,x6,x7,true,af))else
bif(aj != am)then(some (x4,x6,x7,true,af))else
(lT x5).bind λ(aq,_)=>
(kL x5 aq).bind λ(av,_)=>
bif(!av)then(some (x4,x6,x7,true,af))else
(kL x5 x4).bind λ(ax,_)=>
(nU x5 x4).bind λ(ay,_)=>
some (x4,x6,x7,(!(ax==ay)),af):Option (T1s)).bind λ(an,ap,aq,av,ax,ay,az,_)=>
bif av then(some (.inr (.inl (false,()))))else
let aA:=w64 (aq+1);
some (.inl (an,ap,aA,ax,ay,az,()))))else
some (.inr (.inr (v0,v1,v2,false,v3,v4,v5,())))
def gE:T0f->Option (T0f⊕(Int×Int×Bool×LDEn×Unit)):=λ(v0,v1,v2,_)=>
bif(decide (v1<v0))then((eq v1).bind λx0=>
(dM v2 x0).bind λx1=>
(dM v2 x0).bind λx2=>
let x3:=(List.modify v2 x0 λe=>(3,(0,(0,(0,(0,(0,(0,(0,(0,([],([],(0,(0,(0,(0,([],(0,false))))))))))))))))));
let x4:=w64 (v1+1);
some (.inl (v0,x4,x3,())))else
some (.inr (v0,v1,false,v2,()))
def jT(a0:LDEn)(a1:List (Int)):Option (Bool×Unit):=
(mK a0).bind λ(x0,_)=>
bif(!x0)then((mL).bind λ(x1,_)=>
some (x1,()))else
(iX a1 0).bind λ(x1,x2,x3,_)=>
(iX x2 x3).bind λ(x4,x5,x6,_)=>
let x7:List LDEn:=[a0,x1,x4];
let x8:=dQ x7.length;
(match dZ fK NN (a0,x8,0,x5,x6,x7,())with
|none=>none
|some (.inl (x9,_))=>
some (x9,())
|some (.inr (x9,ac,ae,af,ag,ah,ai,_))=>
(dJ 2 ag ah).bind λ(aj,_)=>
let an:=w64 (200+aj);
(eq an).bind λap=>
(eq an).bind λaq=>
bif(qW ap aq 18)then let av:LDEn:=(List.replicate ap (0,(0,(0,(0,(0,(0,(0,(0,(0,([],([],(0,(0,(0,(0,([],(0,false))))))))))))))))));
let ax:=dQ av.length;
(dZ gE NN (ax,0,av,())).bind λ(ay,az,aA,aB,_)=>
(fE aB).bind λ(aD,aE,_)=>
(gO aB).bind λ(aF,aG,_)=>
bif(aE==aG)then((mL).bind λ(aH,_)=>
some (aH,()))else
some (false,())else none)
def s9:X.Cfg:=⟨E0,[uI,uJ,rL,jF,pW,nN,sL,ro,uH,wE,fu],[(31,(Ui w7)),(89,w7)],[⟨14,0,qS [sP 0 jw,pP 5 52,sP 7 jw,Un 31 65,Ul 32,Ul 33,sP 37 jw,Ul 38,Ul 39] [(52,Uo),(65,uag)],[(.ret,qS [Um 4] []),(.exit 2,qS [sP 0 jw,pP 5 52,sP 7 jw,Un 31 65,Ul 32,Ul 33,sP 37 jw,Ul 38,Ul 39,Um 40] [(52,Uo),(65,uag)])]⟩,⟨23,1,qE,[(.normal,qS [sP 0 jw,pP 5 52,Un 31 65,Ul 32,Ul 33,Um 84] [(52,Uo),(65,uag)])]⟩,⟨7,2,qS [sP 0 jw,pP 5 52,Un 31 65,Ul 32,Ul 33] [(52,Uo),(65,uag)],[(.ret,qS [Um 4] []),(.exit 0,qS [sP 0 jw,pP 5 52,Un 31 65,Ul 32,Ul 33,Um 34] [(52,Uo),(65,uag)])]⟩,⟨28,3,qS [Un 14 31,Ul 91,Ul 92] [(31,zaf)],[(.exit 4,qS [Un 14 31,Ul 91,Ul 92,Um 93] [(31,zaf)])]⟩]⟩
def nO:Ctr:=⟨4,160,uL [jw,RI],[],[⟨Up,[.one],[]⟩],ap2 jT⟩
theorem k_law20_RecordCodes:Lk 13 nO:=ls s9 (aC B3 (aC B4 (aC yw (aC lM (aC tU (aC rd (aC zH (aC vV (aC B2 (aC DT (aC fw aN)))))))))))
end
end Go.Proofs.YtoldehogdgdhmaaGreat
namespace Go.Proofs.YtoldehogdgdhmaaGreat
set_option maxRecDepth 100000
noncomputable section
end
end Go.Proofs.YtoldehogdgdhmaaGreat
namespace Go.Proofs.YtoldehogdgdhmaaGreat
open Go.RowKit
theorem Rk:(Tryz.prog.funcs.all λfn=>!(fn.name=="runtime.NumGoroutine"))=true:=by kernel_rfl
theorem IP:rS Tryz.prog 8:=by
 obtain⟨fn,hf,hb⟩:∃fn,Tryz.prog.funcs[8]?=some fn/\fn.body.isSome=true:=by
  have hs:(match Tryz.prog.funcs[8]? with|some fn=>fn.body.isSome|none=>false)=true:=by kernel_rfl
  cases h:Tryz.prog.funcs[8]? with
  |none=>rw[h]at hs;cases hs
  |some fn=>rw[h]at hs;exact⟨fn,rfl,hs⟩
 obtain⟨c,hc⟩:=Option.isSome_iff_exists.1 hb;refine E8 hf ?_ hc;obtain⟨hlt,he⟩:=Array.getElem?_eq_some_iff.1 hf;have:=Array.all_eq_true.1 Rk 8 hlt;rw[he]at this;simpa using this
def PX(x:Value)(w:World)(e:Ending)(w':World):Prop:=e=.returned (.pointer (some ⟨w.heap.size,0,none⟩))/\w'=w.alloc (.cells #[x,.int .i64 0] 90)
theorem Pi(x:Value)(hx:x.oneCell'=true)(w:World):
 Calls Tryz.prog 8 #[x] w (PX x w):=by
 cases x
 all_goals first
  |(go_enter Tryz.func8,Tryz.ntmps8
    go_wp2
    go_ret
    exact⟨rfl,rfl⟩)
  |simp[Value.oneCell']at hx
theorem QI:Df Tryz.prog E0:=by
 intro f n tm h;simp only[E0]at h;split at h
 ·rename_i e;subst e
  injection h with h
  injection h with h1 h2
  subst h1 h2;refine⟨IP,λx hx=>?_,90,λl2 w hl Zl=>?_⟩
  ·simp only[List.mem_cons,List.not_mem_nil,or_false]at hx;rcases hx with hx|hx
   ·injection hx
   ·injection hx with hx;rw[hx];rfl
  ·match l2,hl with
   | [x],_=>exact Pi x (Zl x (by simp[bxV])) w
 ·simp at h
theorem e0_ok:Fq Tryz.prog E0:=NK QI
def Ok{α:Type}(o:Option α)(Q:α->Prop):Prop:=∃a,o=some a/\Q a
section
variable {α β:Type}
theorem Ok.ret{a:α}{Q:α->Prop}(h:Q a):Ok (some a) Q:=⟨a,rfl,h⟩
theorem Ok.bind{o:Option α}{f:α->Option β}{P:α->Prop}{Q:β->Prop}(h:Ok o P)(h2:∀a,P a->Ok (f a) Q):Ok (o.bind f) Q:=by
 obtain⟨a,rfl,h1⟩:=h
 simp_all
theorem Ok.mono{o:Option α}{P Q:α->Prop}(h:Ok o P)(h2:∀a,P a->Q a):Ok o Q:=by
 have ⟨a,e,h1⟩:=h;exact⟨a,e,h2 a h1⟩
theorem Ok.cond{c:Bool}{a b:Option α}{Q:α->Prop}(h1:c=true->Ok a Q)(h2:c=false->Ok b Q):Ok (bif c then a else b) Q:=by
 grind
class BP (b:Bool) (P N:outParam Prop):Prop where
 t:b=true->P
 f:b=false->N
instance (priority:=low) bpVar {b:Bool}:BP b (b=true) (b=false):=⟨id,id⟩
instance RR {p:Prop}{i:Decidable p}:BP (@decide p i) p (¬p):=⟨of_decide_eq_true,of_decide_eq_false⟩
instance R6 {α:Type}[BEq α][LawfulBEq α]{a b:α}:BP (a==b) (a=b) (¬a=b):=⟨eq_of_beq,λh=>beq_eq_false_iff_ne.1 h⟩
instance R5 {α:Type}[BEq α][LawfulBEq α]{a b:α}:BP (a != b) (¬a=b) (a=b):=⟨λh=>bne_iff_ne.1 h,λh=>bne_eq_false_iff_eq.1 h⟩
instance RQ {b:Bool}{P N:Prop}[h:BP b P N]:BP (!b) N P:=⟨λe=>h.f (by simpa using e),λe=>h.t (by simpa using e)⟩
theorem dI{c:Bool}{P N:Prop}[h:BP c P N]{a b:Option α}{Q:α->Prop}(h1:P->Ok a Q)(h2:N->Ok b Q):Ok (bif c then a else b) Q:=by
 cases hc:c with
 |true=>exact h1 (h.t hc)
 |false=>exact h2 (h.f hc)
theorem Ok.get{l:List α}{i:Nat}{f:α->Option β}{Q:β->Prop}(h:i<l.length)(h2:∀a,l[i]?=some a->Ok (f a) Q):Ok ((dM l i).bind f) Q:=by
 have e:dM l i=some l[i]:=oGE h
 simp_all
theorem Ok.nat{x:Int}{f:Nat->Option β}{Q:β->Prop}(h:0<=x)(h2:∀n:Nat,x=n->Ok (f n) Q):Ok ((eq x).bind f) Q:=by
 obtain⟨n,rfl⟩:∃n:Nat,x=n:=⟨x.toNat,by omega⟩;exact h2 n rfl
theorem Ok.val{v:α}{f:α->Option β}{Q:β->Prop}(h:∀x,x=v->Ok (f x) Q):Ok (f v) Q:=h v rfl
theorem dK{c:Bool}{a b:Option α}{Q:α->Prop}(hc:c=true)(h1:Ok a Q):Ok (bif c then a else b) Q:=by simp_all
theorem iv{S T:Type}{f:S->Option (S⊕T)}(P:S->Prop)(R:T->Prop)(m:S->Nat){n:Nat}{s:S}(hs:P s)(hm:m s<n)
 (h:∀s,P s->Ok (f s) λr=>match r with|.inl s'=>P s'/\m s'<m s|.inr t=>R t):Ok (dZ f n s) R:=by
 induction n generalizing s with
 |zero=>omega
 |succ n ih=>
  have ⟨r,e,hr⟩:=h s hs
  cases r with
  |inl s'=>
   have ⟨t,e2,hq⟩:=ih hr.1 (by omega);exact⟨t,by simp[dZ,e];exact e2,hq⟩
  |inr t=>exact⟨t,by simp[dZ,e],hr⟩
theorem Ok.loop{S T:Type}{f:S->Option (S⊕T)}{g:T->Option β}{Q:β->Prop}(P:S->Prop)(R:T->Prop)(m:S->Nat){n:Nat}{s:S}(hs:P s)(hm:m s<n)
 (h:∀s,P s->Ok (f s) λr=>match r with|.inl s'=>P s'/\m s'<m s|.inr t=>R t)(hg:∀t,R t->Ok (g t) Q):Ok ((dZ f n s).bind g) Q:=(iv P R m hs hm h).bind hg
end
theorem dR{x:Int}(h1:-9223372036854775808<=x)(h2:x<=9223372036854775807):w64 x=x:=Bi h1 h2
theorem dO(n:Nat):eq (n:Int)=some n:=rfl
theorem dT(n:Nat):dQ n=(n:Int):=rfl
theorem dU{α:Type}{l:List α}{i:Nat}{a:α}(h:l[i]?=some a):a∈l:=List.mem_of_getElem? h
def W16(x:Int):Prop:=0<=x/\x<=65535
theorem ek{x:Int}(h0:0<=x)(h1:x<=65535):wk .u16 x=x:=by
 unfold wk;rw[xt];omega
theorem dY{x:Int}(h0:-9223372036854775808<=x)(h1:x<=9223372036854775807):wk .i64 x=x:=dR h0 h1
theorem ee{b n m:Nat}(h:b<=1000/\n+m<=1000000):dW b n m=true:=by
 have:=Nat.mul_le_mul h.2 h.1;simp[dW];omega
structure DOk (l:List Int)(k:Int):Prop where
 num:∀x∈l,PZ x
 len:l.length<=maxLen
 lo:0<=k
 hi:k<=l.length
theorem DOk.start{l:List Int}(h:∀x∈l,PZ x)(hl:l.length<=maxLen):DOk l 0:=⟨h,hl,by omega,by omega⟩
theorem Ob{a b:Int}(ha:PZ a)(hb:0<b)(hb2:b<=9223372036854775807):∃v,jS a b=some (v,())/\0<=v/\v<b:=by
 have hne:(b != 0)=true:=by simp;omega
 have hm:=Int.tmod_lt_of_pos a hb
 have hm2:-b<Int.tmod a b:=by
  have:=Int.tmod_lt_of_pos (-a) hb;rw[Int.neg_tmod]at this;omega
 unfold jS;simp[hne];by_cases h:Int.tmod a b<0
 ·refine⟨Int.tmod a b+b,?_,by omega,by omega⟩;simp[h,decide_true];rw[dR (by omega) (by omega)]
 ·refine⟨Int.tmod a b,?_,by omega,hm⟩;simp[h,decide_false,oCF]
section
variable {β:Type} {l:List Int} {k n:Int} {Q:β->Prop}
theorem Qs{a b:Int}{f:Int×Unit->Option β}(ha:PZ a)(hb:0<b)(hb2:b<=9223372036854775807)(K:∀v,0<=v->v<b->Ok (f (v,())) Q):Ok ((jS a b).bind f) Q:=by
 have ⟨v,e,h0,h1⟩:=Ob ha hb hb2
 simp_all
theorem fv{f:Int×List Int×Int×Unit->Option β}(h:DOk l k)(hn:0<n)(hn2:n<=9223372036854775807)(K:∀v k',0<=v->v<n->DOk l k'->Ok (f (v,l,k',())) Q):Ok ((dJ n l k).bind f) Q:=by
 have hl:=h.len;have hlo:=h.lo
 have Xi:maxLen<=9223372036854775807:=by decide
 by_cases hk:k>=(l.length:Int)
 ·have e:dJ n l k=some (0,l,k,()):=by unfold dJ;simp[dT,hk]
  simp_all
 ·obtain⟨j,rfl⟩:∃j:Nat,k=j:=⟨k.toNat,by omega⟩
  have hj:j<l.length:=by omega
  obtain⟨v,hv,h0,h1⟩:=Ob (h.num _ (List.getElem_mem hj)) hn hn2
  have e:dJ n l j=some (v,l,(j:Int)+1,()):=by
   unfold dJ;delta dQ
   try dsimp only
   rw[dR (x:=(j:Int)+1) (by omega) (by omega),dR (x:=(j:Int)+1-1) (by omega) (by omega)];rw[show(j:Int)+1-1=j by omega,dO];simp[hk,decide_false,oCF,oBS,dM,oGE hj,Bm,hv]
  rw[e];exact K v _ h0 h1 ⟨h.num,hl,by omega,by omega⟩
theorem JC{f:Int×List Int×Int×Unit->Option β}(h:DOk l k)(K:∀v k',0<=v->v<=65535->DOk l k'->Ok (f (v,l,k',())) Q):Ok ((gP l k).bind f) Q:=by
 have hw:Ok (gP l k) λr=>∃v k',r=(v,l,k',())/\0<=v/\v<=65535/\DOk l k':=by
  unfold gP
  (with_reducible refine fv (by assumption) (by omega) (by omega) (λv k a b d=>?_);try dsimp only)
  refine Ok.bind (P:=λr=>∃b,r=(v,b,l,k,())) ?_ ?_
  ·repeat ((with_reducible refine dI (λhc=>?_) λhc=>?_);· exact Ok.ret ⟨_,rfl⟩)
   exact Ok.ret ⟨_,rfl⟩
  ·rintro _ ⟨b,rfl⟩;refine Ok.cond (λ_=>?_) λ_=>?_
   ·(with_reducible refine fv (by assumption) (by omega) (by omega) (λv k a b d=>?_);try dsimp only)
    (simp (disch:=omega) only [dR,ek,dY,dT])
    exact Ok.ret ⟨_,_,rfl,by omega,by omega,by assumption⟩
   ·(with_reducible refine dI (λhc=>?_) λhc=>?_)
    ·(with_reducible refine fv (by assumption) (by omega) (by omega) (λv k a b d=>?_);try dsimp only)
     (simp (disch:=omega) only [dR,ek,dY,dT])
     exact Ok.ret ⟨_,_,rfl,by omega,by omega,by assumption⟩
    ·(with_reducible refine fv (by omega) (by omega) (by omega) (λv k a b d=>?_);try dsimp only)
     (simp (disch:=omega) only [dR,ek,dY,dT])
     exact Ok.ret ⟨_,_,rfl,by omega,by omega,by omega⟩
 refine hw.bind ?_
 simp_all
end
def At(s:List Int):Prop:=1<=s.length/\s.length<=4/\∀x∈s,1<=x/\x<=32
theorem RF{P:Int->Prop}{a b c:Int}(ha:P a)(hb:P b)(hc:P c):∀x∈[a,b,c],P x:=by
 simp_all
theorem Mk{l:List Int}{k:Int}(h:DOk l k):Ok (of l k) λr=>∃s k',r=(s,l,k',())/\At s/\DOk l k':=by
 unfold of
 (with_reducible refine fv (by assumption) (by omega) (by omega) (λv0 k0 a0 b0 d0=>?_);try dsimp only)
 (simp (disch:=omega) only [dR,ek,dY,dT])
 (with_reducible refine fv (by assumption) (by omega) (by omega) (λv1 k1 a1 b1 d1=>?_);try dsimp only)
 refine Ok.loop (P:=λ((c,l',k',s,_):Int×List Int×Int×List Int×Unit)=>l'=l/\DOk l k'/\0<=c/\c+s.length<=4/\1<=s.length/\∀x∈s,1<=x/\x<=32)
  (R:=λ((_,_,l',k',s,_):Int×Bool×List Int×Int×List Int×Unit)=>l'=l/\DOk l k'/\At s) (m:=λs=>s.1.toNat) ⟨rfl,d1,a1,by simp;omega,by simp,by simp;omega⟩ (by unfold NN;dsimp only;omega) ?_ ?_
 ·rintro⟨c,l',k3,s,_⟩ ⟨rfl,XT,hc0,VZ,hs1,hs⟩;dsimp only at *;unfold qP;dsimp only
  (with_reducible refine dI (λhc=>?_) λhc=>?_)
  ·(with_reducible refine fv (by assumption) (by omega) (by omega) (λv2 k2 a2 b2 d2=>?_);try dsimp only)
   (with_reducible refine Ok.nat (by omega) (λj hj=>?_);try dsimp only)
   have Zs:∀x∈[(6:Int),12,32],6<=x/\x<=32:=by simp_all
   refine Ok.get (by simp;omega) λa ha=>?_;refine Ok.get (by simp;omega) λb hb=>?_;have h7:=Zs b (dU hb)
   (with_reducible refine fv (by assumption) (by omega) (by omega) (λv3 k3 a3 b3 d3=>?_);try dsimp only)
   (simp (disch:=omega) only [dR,ek,dY,dT])
   refine dK (ee (by simp;omega)) ?_;refine Ok.ret ⟨⟨rfl,by assumption,by omega,?_,?_,?_⟩,?_⟩
   ·simp;omega
   ·simp
   ·intro x hx;simp at hx;rcases hx with hx|rfl
    ·exact hs x hx
    ·omega
   ·dsimp only;omega
  ·exact Ok.ret ⟨rfl,XT,hs1,by dsimp only;omega,hs⟩
 ·rintro⟨a,b,l',k3,s,_⟩ ⟨rfl,XT,hs⟩;exact Ok.ret ⟨_,_,rfl,hs,XT⟩
def qw(op:Int):Bool:=!(op==18||op==23||op==0||op==24)
def qv(op:Int):Bool:=!(op==18||op==23||op==0||op==24||op==1||op==15||op==19||op==20||op==21||op==22)
def qu(op:Int):Bool:=!(op==18||op==23||op==0||op==24||op==1||op==15||op==19||op==20||op==21||op==22||op==2||op==16||op==17)
def qt(op:Int):Bool:=op==1||op==15||op==19||op==20||op==21||op==16||op==17||op==18||op==23
def nR(op:Int):Bool:=op==18||op==19||op==20||op==21
theorem JG{op:Int}(h0:0<=op)(h1:op<=24):j3 op=some (qw op,qv op,qu op,qt op,()):=by
 obtain⟨n,rfl⟩:∃n:Nat,op=n:=⟨op.toNat,by omega⟩
 have hn:n<25:=by omega
 have key:∀n:Fin 25,(j3 ((n.val:Nat):Int)).map (λx=>(x.1,x.2.1,x.2.2.1,x.2.2.2.1))=some (qw (n.val:Nat),qv (n.val:Nat),qu (n.val:Nat),qt (n.val:Nat)):=by decide
 have:=key ⟨n,hn⟩
 cases h:j3 (n:Int)with
 |none=>simp_all
 |some x=>
  obtain⟨a,b,c,d,_⟩:=x
  simp_all
theorem yx(op:Int):ie op=some (nR op,()):=by
 unfold ie nR
 grind
structure iF (n m:Int)(i:DIn):Prop where
 op:0<=i.1/\i.1<=24
 a:0<=i.2.1/\i.2.1<8/\(qw i.1=false->i.2.1=0)
 b:0<=i.2.2.1/\i.2.2.1<8/\(qv i.1=false->i.2.2.1=0)
 c:0<=i.2.2.2.1/\i.2.2.2.1<8/\(qu i.1=false->i.2.2.2.1=0)
 imm:0<=i.2.2.2.2/\i.2.2.2.2<=65535/\(qt i.1=false->i.2.2.2.2=0)
 lea:i.1=15->i.2.2.2.2<n
 sys:i.1=23->i.2.2.2.2<=15
 jmp:nR i.1=true->i.2.2.2.2<m
theorem ins_mk{n m o a b c i:Int}(ho:0<=o/\o<=24)(ha:0<=a/\a<8)(hb:0<=b/\b<8)(hc:0<=c/\c<8)(hi:0<=i/\i<=65535)(hA:qw o=true\/a=0)(hB:qv o=true\/b=0)(hC:qu o=true\/c=0)(hI:qt o=true\/i=0)
 (hl:o=15->i<n)(hs:o=23->i<=15)(hj:nR o=true->i<m):iF n m (o,a,b,c,i):=
 ⟨ho,⟨ha.1,ha.2,λh=>hA.elim (λh'=>by simp_all) id⟩,⟨hb.1,hb.2,λh=>hB.elim (λh'=>by simp_all) id⟩,
  ⟨hc.1,hc.2,λh=>hC.elim (λh'=>by simp_all) id⟩,⟨hi.1,hi.2,λh=>hI.elim (λh'=>by simp_all) id⟩,hl,hs,hj⟩
theorem DO{n m r v:Int}(h:0<=r/\r<8)(hv:0<=v/\v<=65535):iF n m (1,r,0,0,v):=ins_mk (by decide) h (by decide) (by decide) hv (.inl (by decide)) (.inr rfl) (.inr rfl) (.inl (by decide)) (by omega) (by omega) (λh=>absurd h (by decide))
theorem FR{n m r v:Int}(h:0<=r/\r<8)(hv:0<=v/\v<8):iF n m (2,r,v,0,0):=ins_mk (by decide) h hv (by decide) (by decide) (.inl (by decide)) (.inl (by decide)) (.inr rfl) (.inr rfl) (by omega) (by omega) (λh=>absurd h (by decide))
theorem xS{n m v:Int}(hv:0<=v/\v<=15):iF n m (23,0,0,0,v):=ins_mk (by decide) (by decide) (by decide) (by decide) (by omega) (.inr rfl) (.inr rfl) (.inr rfl) (.inl (by decide)) (by omega) (by omega) (λh=>absurd h (by decide))
theorem FW{n m r v:Int}(h:0<=r/\r<8)(hv:0<=v/\v<n)(hn:n<=4):iF n m (15,r,0,0,v):=ins_mk (by decide) h (by decide) (by decide) (by omega) (.inl (by decide)) (.inr rfl) (.inr rfl) (.inl (by decide)) (by omega) (by omega) (λh=>absurd h (by decide))
theorem JK{n m o a b v:Int}(ho:o=16\/o=17)(h:0<=a/\a<8)(hb:0<=b/\b<8)(hv:0<=v/\v<=65535):iF n m (o,a,b,0,v):=by
 rcases ho with rfl|rfl
 all_goals exact ins_mk (by decide) h hb (by decide) hv (.inl (by decide)) (.inl (by decide)) (.inr rfl) (.inl (by decide)) (by omega) (by omega) (λh=>absurd h (by decide))
theorem FO{n m o a b c:Int}(ho:3<=o/\o<=14)(h:0<=a/\a<8)(hb:0<=b/\b<8)(hc:0<=c/\c<8):iF n m (o,a,b,c,0):=
 ins_mk (by omega) h hb hc (by decide) (.inl (by unfold qw;simp;omega)) (.inl (by unfold qv;simp;omega)) (.inl (by unfold qu;simp;omega)) (.inr rfl) (by omega) (by omega) (λh=>by unfold nR at h;simp at h;omega)
theorem Po{n m v:Int}(hv:0<=v/\v<=65535)(hm:v<m):iF n m (18,0,0,0,v):=ins_mk (by decide) (by decide) (by decide) (by decide) hv (.inr rfl) (.inr rfl) (.inr rfl) (.inl (by decide)) (by omega) (by omega) (λ_=>hm)
theorem O6{n m:Int}:iF n m (24,0,0,0,0):=ins_mk (by decide) (by decide) (by decide) (by decide) (by decide) (.inr rfl) (.inr rfl) (.inr rfl) (.inr rfl) (by omega) (by omega) (λh=>absurd h (by decide))
theorem iF.mono{n m m':Int}{i:DIn}(h:iF n m i)(hm:m<=m'):iF n m' i:=⟨h.op,h.a,h.b,h.c,h.imm,h.lea,h.sys,λhj=>by have:=h.jmp hj;omega⟩
theorem F7{n m a v:Int}(h:0<=a/\a<8)(hv:0<=v/\v<=65535)(hm:v<m):iF n m (20,a,0,0,v):=ins_mk (by decide) h (by decide) (by decide) hv (.inl (by decide)) (.inr rfl) (.inr rfl) (.inl (by decide)) (by omega) (by omega) (λ_=>hm)
theorem Nf{n XQ k:Int}{l:List Int}(h:DOk l k)(hn:1<=n/\n<=4)(hm:1<=XQ/\XQ<=100):Ok (og n XQ l k) λr=>∃o a b c i k',r=(o,a,b,c,i,l,k',())/\iF n XQ (o,a,b,c,i)/\DOk l k':=by
 unfold og
 (with_reducible refine fv (by assumption) (by omega) (by omega) (λv0 k0 a0 b0 d0=>?_);try dsimp only)
 rw[JG (by omega) (by omega)];simp only[oBS];refine Ok.bind (P:=λr=>∃x k',r=(n,XQ,l,k',0,0,0,0,0,v0,x,0,0,0,qw v0,qv v0,qu v0,qt v0,())/\0<=x/\x<8/\(qw v0=false->x=0)/\DOk l k') ?_ ?_
 ·refine Ok.cond (λhc=>?_) λhc=>Ok.ret ⟨_,_,rfl,by omega,by omega,λ_=>rfl,d0⟩
  (with_reducible refine fv (by assumption) (by omega) (by omega) (λv1 k1 a1 b1 d1=>?_);try dsimp only)
  exact Ok.ret ⟨_,_,rfl,a1,b1,(λhh=>by rw[hc]at hh;cases hh),d1⟩
 rintro _ ⟨xa,k1,rfl,ha0,Xw,Xx,d1⟩;dsimp only;refine Ok.bind (P:=λr=>∃x k',r=(n,XQ,l,k',0,0,0,0,0,v0,xa,x,0,0,qw v0,qv v0,qu v0,qt v0,())/\0<=x/\x<8/\(qv v0=false->x=0)/\DOk l k') ?_ ?_
 ·refine Ok.cond (λhc=>?_) λhc=>Ok.ret ⟨_,_,rfl,by omega,by omega,λ_=>rfl,d1⟩
  (with_reducible refine fv (by assumption) (by omega) (by omega) (λv2 k2 a2 b2 d2=>?_);try dsimp only)
  exact Ok.ret ⟨_,_,rfl,a2,b2,(λhh=>by rw[hc]at hh;cases hh),d2⟩
 rintro _ ⟨xb,k2,rfl,SB,hb1,hb2,d2⟩;dsimp only;refine Ok.bind (P:=λr=>∃x k',r=(n,XQ,l,k',0,0,0,0,0,v0,xa,xb,x,0,qw v0,qv v0,qu v0,qt v0,())/\0<=x/\x<8/\(qu v0=false->x=0)/\DOk l k') ?_ ?_
 ·refine Ok.cond (λhc=>?_) λhc=>Ok.ret ⟨_,_,rfl,by omega,by omega,λ_=>rfl,d2⟩
  (with_reducible refine fv (by assumption) (by omega) (by omega) (λv3 k3 a3 b3 d3=>?_);try dsimp only)
  exact Ok.ret ⟨_,_,rfl,a3,b3,(λhh=>by rw[hc]at hh;cases hh),d3⟩
 rintro _ ⟨xc,k3,rfl,hc0,ZQ,ZK,d3⟩;dsimp only;rw[yx];simp only[oBS];refine Ok.bind (P:=λr=>∃x k',r=(l,k',0,0,0,0,0,v0,xa,xb,xc,x,())/\0<=x/\x<=65535/\(qt v0=false->x=0)/\(v0=15->x<n)/\(v0=23->x<=15)/\(nR v0=true->x<XQ)/\DOk l k') ?_ ?_
 ·refine Ok.cond (λhj=>?_) λhj=>?_
  ·(with_reducible refine fv (by assumption) (by omega) (by omega) (λv4 k4 a4 b4 d4=>?_);try dsimp only)
   have hne:v0≠15/\v0≠23:=by constructor<;>(rintro rfl;exact absurd hj (by decide))
   exact Ok.ret ⟨_,_,rfl,a4,by omega,(λhh=>by
    have:qt v0=true:=by unfold nR at hj;unfold qt;simp at hj⊢;omega
    rw[this]at hh;cases hh),by omega,by omega,λ_=>b4,d4⟩
  ·(with_reducible refine dI (λhc5=>?_) λhc5=>?_)
   ·subst hc5
    (with_reducible refine fv (by assumption) (by omega) (by omega) (λv4 k4 a4 b4 d4=>?_);try dsimp only)
    exact Ok.ret ⟨_,_,rfl,a4,by omega,λhh=>absurd hh (by decide),by omega,by omega,λhh=>absurd hh (by decide),d4⟩
   ·(with_reducible refine dI (λhc6=>?_) λhc6=>?_)
    ·subst hc6
     (with_reducible refine fv (by assumption) (by omega) (by omega) (λv4 k4 a4 b4 d4=>?_);try dsimp only)
     exact Ok.ret ⟨_,_,rfl,a4,by omega,λhh=>absurd hh (by decide),by omega,by omega,λhh=>absurd hh (by decide),d4⟩
    ·refine Ok.cond (λhu=>?_) λhu=>?_
     ·(with_reducible refine JC (by assumption) (λv4 k4 a4 b4 d4=>?_);try dsimp only)
      (simp (disch:=omega) only [dR,ek,dY,dT])
      exact Ok.ret ⟨_,_,rfl,a4,by omega,(λhh=>by rw[hu]at hh;cases hh),by omega,by omega,(λhh=>by rw[show nR v0=false from hj]at hh;cases hh),d4⟩
     ·exact Ok.ret ⟨_,_,rfl,by omega,by omega,λ_=>rfl,by omega,by omega,(λhh=>by rw[show nR v0=false from hj]at hh;cases hh),d3⟩
 rintro _ ⟨xi,k4,rfl,hi0,WT,ZT,WU,hi4,hi5,d4⟩;exact Ok.ret ⟨_,_,_,_,_,_,rfl,⟨⟨a0,by dsimp only;omega⟩,⟨ha0,Xw,Xx⟩,⟨SB,hb1,hb2⟩,⟨hc0,ZQ,ZK⟩,⟨hi0,WT,ZT⟩,WU,hi4,hi5⟩,d4⟩
theorem m0{α β:Type}{l:List α}{i:Nat}{f:α->Option β}{Q:β->Prop}(P:α->Prop)(h:i<l.length)(hP:∀x∈l,P x)(h2:∀a,P a->Ok (f a) Q):Ok ((dM l i).bind f) Q:=Ok.get h λa ha=>h2 a (hP a (dU ha))
theorem eG{α:Type}{P:α->Prop}:∀x∈([]:List α),P x:=λ_ h=>by cases h
theorem all_cons{α:Type}{P:α->Prop}{a:α}{l:List α}(h:P a)(h2:∀x∈l,P x):∀x∈a::l,P x:=by
 simp_all
theorem Qu(a b:Int):iW a b=some (1,a,0,0,b,()):=rfl
theorem Qr(a b:Int):mJ a b=some (2,a,b,0,0,()):=rfl
theorem N4(a:Int):iq a=some (23,0,0,0,a,()):=rfl
theorem RM{x:Int}(h:1<=x):1<=mmR false 5 x/\mmR false 5 x<=5:=by
 unfold mmR;simp;omega
def Ia(n at_:Int)(l:List Int)(r:List DIn×List Int×Int×Unit):Prop:=∃xs k',r=(xs,l,k',())/\1<=xs.length/\xs.length<=6/\(∀i∈xs,iF n (at_+xs.length) i)/\DOk l k'
theorem By{n at_:Int}{l:List Int}{xs:List DIn}{k:Int}(h1:1<=xs.length/\xs.length<=6)(h2:∀i∈xs,iF n (at_+xs.length) i)(h3:DOk l k):Ok (some (xs,l,k,())) (Ia n at_ l):=Ok.ret ⟨xs,k,rfl,h1.1,h1.2,h2,h3⟩
theorem Ph{s l:List Int}{at_ k:Int}(h:DOk l k)(hs:At s)(ha:0<=at_/\at_<=99):Ok (pH s (at_+1) at_ l k) (Ia s.length at_ l):=by
 obtain⟨hs1,WL,hsz⟩:=hs
 have hn:1<=(s.length:Int)/\(s.length:Int)<=4:=by omega
 unfold pH;delta dQ;simp only[Qu,Qr,N4,oBS]
 (with_reducible refine fv (by assumption) (by omega) (by omega) (λvr kr ar br dr=>?_);try dsimp only)
 refine Ok.nat (by omega) λj hj=>?_;refine m0 (λa=>1<=a/\a<=32) (by omega) hsz λz hz=>?_
 (simp (disch:=omega) only [dR,ek,dY,dT])
 have h5:=RM (x:=z+1) (by omega);generalize mmR false 5 (z+1)=mm at h5
 (with_reducible refine fv (by assumption) (by omega) (by omega) (λvu ku au bu du=>?_);try dsimp only)
 (with_reducible refine fv (by assumption) (by omega) (by omega) (λvw kw aw bw dw=>?_);try dsimp only)
 iterate 19
  (with_reducible refine dI (λhcc=>?_) λhcc=>?_)
  ·repeat (first|(simp (disch:=omega) only [dR,ek,dY,dT])|(with_reducible refine fv (by assumption) (by omega) (by omega) (λv k a b d=>?_);try dsimp only)|(with_reducible refine JC (by assumption) (λv k a b d=>?_);try dsimp only)|(with_reducible refine Ok.nat (by omega) (λj hj=>?_);try dsimp only)|((with_reducible first|refine m0 (λa=>1<=a/\a<=32) (by omega) (by assumption) (λe he=>?_)|refine m0 (λa=>3<=a/\a<=14) (by simp only[oLC,List.length_nil];omega) (by(first|exact(all_cons (by omega) (all_cons (by omega) eG))|exact(all_cons (by omega) (all_cons (by omega) (all_cons (by omega) eG)))|exact(all_cons (by omega) (all_cons (by omega) (all_cons (by omega) (all_cons (by omega) (all_cons (by omega) (all_cons (by omega) (all_cons (by omega) (all_cons (by omega) eG)))))))))) (λe he=>?_)|refine m0 (λa=>0<=a/\a<=15) (by simp only[oLC,List.length_nil];omega) (by(first|exact(all_cons (by omega) (all_cons (by omega) eG))|exact(all_cons (by omega) (all_cons (by omega) (all_cons (by omega) eG)))|exact(all_cons (by omega) (all_cons (by omega) (all_cons (by omega) (all_cons (by omega) (all_cons (by omega) (all_cons (by omega) (all_cons (by omega) (all_cons (by omega) eG)))))))))) (λe he=>?_)|refine m0 (λa=>1<=a/\a<=100) (by simp only[oLC,List.length_nil];omega) (by(first|exact(all_cons (by omega) (all_cons (by omega) eG))|exact(all_cons (by omega) (all_cons (by omega) (all_cons (by omega) eG)))|exact(all_cons (by omega) (all_cons (by omega) (all_cons (by omega) (all_cons (by omega) (all_cons (by omega) (all_cons (by omega) (all_cons (by omega) (all_cons (by omega) eG)))))))))) (λe he=>?_));try dsimp only)|(with_reducible refine dK (ee (by first|omega|simp)) ?_;try dsimp only)|(refine m0 (λ(a:List DIn)=>(1<=a.length/\a.length<=6)/\∀i∈a,iF s.length (at_+a.length) i) (by simp only[oLC,List.length_nil];omega) (all_cons ⟨by simp,by((repeat' (first|exact eG|refine all_cons ?_ ?_|exact DO (by omega) (by omega)|exact FR (by omega) (by omega)|exact xS (by omega)|exact FW (by omega) (by omega) (by omega)|exact JK (by omega) (by omega) (by omega) (by omega)|exact FO (by omega) (by omega) (by omega) (by omega)|exact F7 (by omega) (by omega) (by simp only[oLC,List.length_nil];omega)));done)⟩ (all_cons ⟨by simp,by((repeat' (first|exact eG|refine all_cons ?_ ?_|exact DO (by omega) (by omega)|exact FR (by omega) (by omega)|exact xS (by omega)|exact FW (by omega) (by omega) (by omega)|exact JK (by omega) (by omega) (by omega) (by omega)|exact FO (by omega) (by omega) (by omega) (by omega)|exact F7 (by omega) (by omega) (by simp only[oLC,List.length_nil];omega)));done)⟩ eG)) (λe he=>?_);try dsimp only))
   first
    |exact By he.1 he.2 (by assumption)
    |(refine By (by simp) ?_ (by assumption);try simp only[List.append_eq,List.cons_append,List.nil_append]
      ((repeat' (first|exact eG|refine all_cons ?_ ?_|exact DO (by omega) (by omega)|exact FR (by omega) (by omega)|exact xS (by omega)|exact FW (by omega) (by omega) (by omega)|exact JK (by omega) (by omega) (by omega) (by omega)|exact FO (by omega) (by omega) (by omega) (by omega)|exact F7 (by omega) (by omega) (by simp only[oLC,List.length_nil];omega)));done))
 refine(Nf (by assumption) hn (by omega)).bind ?_;rintro _ ⟨o,a,b,c,i,k',rfl,hi,hd⟩;exact By (by simp) (all_cons (hi.mono (by simp)) eG) hd
theorem ir{α:Type}{P:α->Prop}{l m:List α}(h:∀x∈l,P x)(h2:∀x∈m,P x):∀x∈List.append l m,P x:=λx hx=>(List.mem_append.1 (show x∈l++m from hx)).elim (h x) (h2 x)
theorem ft{α:Type}(l m:List α):(List.append l m).length=l.length+m.length:=List.length_append
theorem pt{l:List Int}{k n:Int}(h:DOk l k)(hn:0<=n/\n<=1000):Ok (gl n l k) λr=>∃ws k',r=(ws,l,k',())/\(ws.length:Int)<=n/\(∀w∈ws,W16 w)/\DOk l k':=by
 unfold gl
 (simp (disch:=omega) only [dR,ek,dY,dT])
 (with_reducible refine fv (by assumption) (by omega) (by omega) (λv0 k0 a0 b0 d0=>?_);try dsimp only)
 refine Ok.loop (P:=λ((c,l',k',s,_):Int×List Int×Int×List Int×Unit)=>l'=l/\DOk l k'/\0<=c/\c+s.length<=n/\∀x∈s,W16 x)
  (R:=λ((_,_,l',k',s,_):Int×Bool×List Int×Int×List Int×Unit)=>l'=l/\DOk l k'/\(s.length:Int)<=n/\∀x∈s,W16 x) (m:=λs=>s.1.toNat) ⟨rfl,d0,a0,by simp;omega,eG⟩ (by unfold NN;dsimp only;omega) ?_ ?_
 ·rintro⟨c,l',k3,s,_⟩ ⟨rfl,XT,hc0,VZ,hs⟩;unfold qO;dsimp only
  (with_reducible refine dI (λhcc=>?_) λhcc=>?_)
  ·(with_reducible refine JC (by assumption) (λv1 k1 a1 b1 d1=>?_);try dsimp only)
   refine dK (ee (by simp;omega)) ?_
   (simp (disch:=omega) only [dR,ek,dY,dT])
   exact Ok.ret ⟨⟨rfl,by omega,by omega,by rw[ft];simp;omega,ir hs (all_cons ⟨a1,b1⟩ eG)⟩,by omega⟩
  ·exact Ok.ret ⟨rfl,XT,by dsimp only;omega,hs⟩
 ·rintro⟨a,b,l',k3,s,_⟩ ⟨rfl,XT,hs,hw⟩;exact Ok.ret ⟨_,_,rfl,hs,hw,XT⟩
structure nQ (code:List DIn)(s:List Int)(d:List (List Int)):Prop where
 sz:At s
 len:d.length=s.length
 fit:∀(j:Nat) x n,d[j]?=some x->s[j]?=some n->(x.length:Int)<=n
 num:∀x∈d,∀w∈x,W16 w
 clen:1<=code.length/\code.length<=64
 ins:∀i∈code,iF s.length code.length i
theorem HJ{code:List DIn}{s:List Int}{d:List (List Int)}{l:List Int}{k:Int}(hp:nQ code s d):
 Ok (dZ g8 NN ((code.length:Int),0,l,k,(),(),(),code,s,d,())) λr=>∃a b c,r=(a,b,c,l,k,(),(),(),code,s,d,()):=by
 have:=Ok.loop (f:=g8) (n:=NN) (Q:=λr=>∃a b c,r=(a,b,c,l,k,(),(),(),code,s,d,())) (s:=((code.length:Int),0,l,k,(),(),(),code,s,d,()))
  (P:=λs'=>∃i:Int,s'=((code.length:Int),i,l,k,(),(),(),code,s,d,())/\0<=i/\i<=code.length) (R:=λr=>∃a b c,r=(a,b,c,l,k,(),(),(),code,s,d,())) (m:=λs=>(s.1-s.2.1).toNat) ⟨0,rfl,by omega,by omega⟩ (by unfold NN;dsimp only;have:=hp.clen;omega) ?_ (λt ht=>Ok.ret ht)
 ·simp_all
 ·rintro _ ⟨i,rfl,hi0,WT⟩;unfold g8;dsimp only;have hc:=hp.clen
  (with_reducible refine dI (λhcc=>?_) λhcc=>?_)
  ·refine Ok.bind (P:=λr=>r=((code.length:Int),i,l,k,(),(),(),code,s,d,())) ?_ ?_
   ·(with_reducible refine Ok.nat (by omega) (λj hj=>?_);try dsimp only)
    refine Ok.get (by omega) λx hx=>?_;have hin:=hp.ins x (dU hx);rw[yx];refine Ok.cond (λhjp=>?_) λ_=>Ok.ret rfl;refine Ok.nat (by omega) λj2 hj2=>?_;refine Ok.get (by omega) λy hy=>?_
    have hjj:j2=j:=by omega
    subst hjj;rw[hx]at hy
    injection hy with hy
    subst hy;have:=hin.jmp hjp;refine Ok.cond (λhcc=>?_) (λhcc=>?_)
    ·have h9:(x.2.2.2.2:Int)>=(code.length:Int):=of_decide_eq_true hcc;omega
    ·exact Ok.ret rfl
   ·rintro _ rfl;dsimp only
    (simp (disch:=omega) only [dR,ek,dY,dT])
    exact Ok.ret ⟨⟨i+1,rfl,by omega,by omega⟩,by dsimp only;omega⟩
  ·exact Ok.ret ⟨_,_,_,rfl⟩
theorem ID{l:List Int}{k:Int}(h:DOk l k):Ok (lH l k) λr=>∃code s d k',r=(code,s,d,l,k',())/\nQ code s d/\DOk l k':=by
 unfold lH;refine(Mk h).bind ?_;rintro _ ⟨s,k1,rfl,hs,hd⟩;obtain⟨hs1,WL,hsz⟩:=id hs;dsimp only;delta dQ
 try dsimp only
 refine Ok.loop (P:=λs'=>∃k' d,s'=((s.length:Int),(d.length:Int),l,k',(),(),(),(),s,d,())/\DOk l k'/\d.length<=s.length/\(∀(j:Nat) x n,d[j]?=some x->s[j]?=some n->(x.length:Int)<=n)/\∀x∈d,∀w∈x,W16 w)
  (R:=λr=>∃a b c k' d,r=(a,b,c,l,k',(),(),(),(),s,d,())/\DOk l k'/\d.length=s.length/\(∀(j:Nat) x n,d[j]?=some x->s[j]?=some n->(x.length:Int)<=n)/\∀x∈d,∀w∈x,W16 w)
  (m:=λs=>(s.1-s.2.1).toNat) ⟨k1,[],rfl,hd,by simp,by simp,eG⟩ (by unfold NN;dsimp only;omega) ?_ ?_
 ·rintro _ ⟨k',d,rfl,YB,SS,ZR,Xj⟩;unfold oL;dsimp only
  (with_reducible refine dI (λhcc=>?_) λhcc=>?_)
  ·(with_reducible refine Ok.nat (by omega) (λj hj=>?_);try dsimp only)
   refine Ok.get (by omega) λx hx=>?_;refine Ok.get (by omega) λy hy=>?_
   have ZU:j=d.length:=by omega
   subst ZU;have WP:=hsz y (dU hy);refine(pt YB ⟨by omega,by omega⟩).bind ?_;rintro _ ⟨ws,k2,rfl,Uc,hww,hd2⟩;dsimp only;refine dK (ee (by simp;omega)) ?_
   (simp (disch:=omega) only [dR,ek,dY,dT])
   refine Ok.ret ⟨⟨k2,List.append d [ws],by rw[ft];simp,hd2,by rw[ft];simp;omega,?_,ir Xj (all_cons hww eG)⟩,by dsimp only;omega⟩;intro i x n hx hn;rw[show List.append d [ws]=d++[ws]from rfl,List.getElem?_append]at hx;split at hx
   ·exact ZR i x n hx hn
   ·rename_i V4
    have:i-d.length=0:=by
     rcases Nat.eq_zero_or_pos (i-d.length)with h|h
     ·exact h
     ·rw[oGN (by simp;omega)]at hx;cases hx
    have hi:i=d.length:=by omega
    subst hi;simp at hx;subst hx;rw[hy]at hn
    injection hn with hn
    omega
  ·exact Ok.ret ⟨_,_,_,_,_,rfl,YB,by omega,ZR,Xj⟩
 rintro _ ⟨a,b,c,k2,d,rfl,hd2,SS,ZR,Xj⟩;dsimp only
 (with_reducible refine fv (by assumption) (by omega) (by omega) (λv0 k0 a0 b0 d0=>?_);try dsimp only)
 (simp (disch:=omega) only [dR,ek,dY,dT])
 refine Ok.loop (P:=λs'=>∃i k' code,s'=(i,l,k',(),(),(),code,s,d,())/\0<=i/\i<=12/\DOk l k'/\code.length<=62/\∀i∈code,iF s.length code.length i)
  (R:=λr=>∃a b k' code,r=(a,b,l,k',(),(),(),code,s,d,())/\DOk l k'/\code.length<=62/\∀i∈code,iF s.length code.length i)
  (m:=λs=>s.1.toNat) ⟨_,_,[],rfl,by omega,by omega,d0,by simp,eG⟩ (by unfold NN;dsimp only;omega) ?_ ?_
 ·rintro _ ⟨i,k',code,rfl,hi0,WT,YB,Zf,Yg⟩;unfold oK;dsimp only
  (with_reducible refine dI (λhcc=>?_) λhcc=>?_)
  ·refine Ok.bind (P:=λr=>∃k' code,r=(i,l,k',(),(),(),code,s,d,())/\DOk l k'/\code.length<=62/\∀i∈code,iF s.length code.length i) ?_ ?_
   ·(simp (disch:=omega) only [dR,ek,dY,dT])
    refine(Ph YB hs ⟨by omega,by omega⟩).bind ?_;rintro _ ⟨xs,k3,rfl,Z1,hx6,hxs,XT⟩;dsimp only
    (simp (disch:=omega) only [dR,ek,dY,dT])
    (with_reducible refine dI (λhcc=>?_) λhcc=>?_)
    ·refine dK (ee (by omega)) ?_;refine Ok.ret ⟨_,_,rfl,XT,by rw[ft];omega,?_⟩;rw[ft];exact ir (λi hi=>(Yg i hi).mono (by omega)) (λi hi=>(hxs i hi).mono (by omega))
    ·exact Ok.ret ⟨_,_,rfl,XT,Zf,Yg⟩
   ·rintro _ ⟨k3,YX,rfl,XT,SM,W7⟩;dsimp only
    (simp (disch:=omega) only [dR,ek,dY,dT])
    exact Ok.ret ⟨⟨_,_,_,rfl,by omega,by omega,XT,SM,W7⟩,by dsimp only;omega⟩
  ·exact Ok.ret ⟨_,_,_,_,rfl,YB,Zf,Yg⟩
 rintro _ ⟨a,b,k3,code,rfl,XT,Zf,Yg⟩;dsimp only;refine Ok.bind (P:=λr=>∃k' code,r=(l,k',(),(),(),code,s,d,())/\DOk l k'/\code.length<=63/\∀i∈code,iF s.length (code.length+1) i) ?_ ?_
 ·(with_reducible refine fv (by assumption) (by omega) (by omega) (λv1 k1 a1 b1 d1=>?_);try dsimp only)
  (with_reducible refine dI (λhcc=>?_) λhcc=>?_)
  ·(simp (disch:=omega) only [dR,ek,dY,dT])
   (with_reducible refine fv (by assumption) (by omega) (by omega) (λv2 k2 a2 b2 d2=>?_);try dsimp only)
   refine dK (ee (by simp;omega)) ?_;refine Ok.ret ⟨_,_,rfl,d2,by rw[ft];simp;omega,?_⟩;rw[ft];exact ir (λi hi=>(Yg i hi).mono (by simp;omega)) (all_cons (Po (by omega) (by simp;omega)) eG)
  ·(with_reducible refine dI (λhcc=>?_) λhcc=>?_)
   ·refine dK (ee (by simp;omega)) ?_;refine Ok.ret ⟨_,_,rfl,d1,by rw[ft];simp;omega,?_⟩;rw[ft];exact ir (λi hi=>(Yg i hi).mono (by simp;omega)) (all_cons O6 eG)
   ·exact Ok.ret ⟨_,_,rfl,d1,by omega,λi hi=>(Yg i hi).mono (by omega)⟩
 rintro _ ⟨k4,YX,rfl,hd4,SM,W7⟩;dsimp only
 (with_reducible refine fv (by assumption) (by omega) (by omega) (λv3 k3 a3 b3 d3=>?_);try dsimp only)
 simp only[Qu,N4,oBS];refine dK (ee (by simp;omega)) ?_;simp only[ft];refine Ok.cond (λhc=>?_) λ_=>?_
 ·have ZI:∀i∈List.append YX [(1,0,0,0,v3),(23,0,0,0,0)],iF s.length (YX.length+1) i:=ir W7 (all_cons (DO (by omega) (by omega)) (all_cons (xS (by omega)) eG));simp only[oDE]at hc
  have hcn:(YX.length:Int)+2>64:=by
   have:((YX.length + [((1:Int),(0:Int),(0:Int),(0:Int),v3),(23,0,0,0,0)].length:Nat):Int)>64:=hc;simpa using this
  have h63:YX.length=63:=by omega
  refine dK (by rw[h63];rfl) ?_
  have hlen:(my (List.append YX [((1:Int),(0:Int),(0:Int),(0:Int),v3),(23,0,0,0,0)]) 0 (Nat.sub 64 0)).length=64:=by
   unfold my;rw[oLT,List.drop_zero,ft,h63];rfl
  have hp:nQ (my (List.append YX [((1:Int),(0:Int),(0:Int),(0:Int),v3),(23,0,0,0,0)]) 0 (Nat.sub 64 0)) s d:=by
   refine⟨hs,SS,ZR,Xj,by rw[hlen];decide,λi hi=>?_⟩;rw[hlen];refine(ZI i ?_).mono (by omega);unfold my at hi;exact List.mem_of_mem_drop (List.mem_of_mem_take hi)
  refine(HJ (l:=l) (k:=_) hp).bind ?_;rintro _ ⟨a,b,c,rfl⟩;exact Ok.ret ⟨_,_,_,_,rfl,hp,d3⟩
 ·have hp:nQ (List.append YX [(1,0,0,0,v3),(23,0,0,0,0)]) s d:=by
   refine⟨hs,SS,ZR,Xj,?_,?_⟩
   ·rw[ft];rename_i hc;have hcn:¬((YX.length + [((1:Int),(0:Int),(0:Int),(0:Int),v3),(23,0,0,0,0)].length:Nat):Int)>64:=of_decide_eq_false hc;simp only[oLC,List.length_nil]at hcn⊢;omega
   ·rw[ft];exact ir (λi hi=>(W7 i hi).mono (by simp)) (all_cons (DO (by omega) (by omega)) (all_cons (xS (by omega)) eG))
  have hf:=HJ (l:=l) (k:=k3) hp;rw[ft]at hf;refine hf.bind ?_;rintro _ ⟨a,b,c,rfl⟩;exact Ok.ret ⟨_,_,_,_,rfl,hp,d3⟩
theorem H7{P:Int->Prop}{s:List Int}{i:Nat}{x:Int}(h:∀(j:Nat) y,j<i->s[j]?=some y->P y)(hx:s[i]?=some x)(hp:P x):∀(j:Nat) y,j<i+1->s[j]?=some y->P y:=by
 grind
theorem JF{s:List Int}(hl:s.length<=1000):Ok (io s) λr=>r.1=true↔At s:=by
 unfold io;delta dQ
 try dsimp only
 obtain⟨t,e,ht⟩:=iv (f:=mi) (n:=NN) (s:=(s,s,(s.length:Int),0,())) (P:=λs'=>∃i:Nat,s'=(s,s,(s.length:Int),(i:Int),())/\i<=s.length/\∀(j:Nat) y,j<i->s[j]?=some y->1<=y/\y<=32)
  (R:=λr=>(r=.inl (false,())/\∃y∈s,¬(1<=y/\y<=32))\/((∃a b c d,r=.inr (s,a,b,c,d,()))/\∀y∈s,1<=y/\y<=32)) (m:=λs'=>(s'.2.2.1-s'.2.2.2.1).toNat) ⟨0,rfl,by omega,λj y hj=>by omega⟩ (by unfold NN;dsimp only;omega) (by
   rintro _ ⟨i,rfl,hi,ZI⟩;unfold mi
   (with_reducible refine dI (λhcc=>?_) λhcc=>?_)
   ·rw[dO];refine Ok.get (by omega) λx hx=>?_
    (with_reducible refine dI (λXe=>?_) λXe=>?_)
    ·exact Ok.ret (.inl ⟨rfl,x,dU hx,by omega⟩)
    ·(with_reducible refine dI (λWe=>?_) λWe=>?_)
     ·exact Ok.ret (.inl ⟨rfl,x,dU hx,by omega⟩)
     ·(simp (disch:=omega) only [dR,ek,dY,dT])
      exact Ok.ret ⟨⟨i+1,rfl,by omega,H7 ZI hx ⟨by omega,by omega⟩⟩,by dsimp only;omega⟩
   ·refine Ok.ret (.inr ⟨⟨_,_,_,_,rfl⟩,λy hy=>?_⟩);have ⟨j,hj⟩:=List.getElem?_of_mem hy
    exact ZI j y (by have:=(oGS hj).1;omega) hj)
 rw[e]
 rcases ht with⟨rfl,y,hy,hn⟩|⟨⟨a,b,c,d,rfl⟩,ZI⟩
 ·exact Ok.ret ⟨λh=>(by cases h),λh=>absurd (h.2.2 y hy) hn⟩
 ·dsimp only
  (with_reducible refine dI (λhcc=>?_) λhcc=>?_)
  ·exact Ok.ret ⟨λh=>⟨by omega,(by have:=of_decide_eq_true h;omega),ZI⟩,λh=>oDT (by have:=h.2.1;omega)⟩
  ·exact Ok.ret ⟨λh=>(by cases h),λh=>by have:=h.1;omega⟩
abbrev VS(xs:List Int):Prop:=At xs
theorem Lu{l:List Int}{k:Nat}(h:k<l.length):l.getD k 0=l[k]:=by simp[List.getD,h]
def Au(bs ss:List Int)(i:Nat):Prop:=
 0<=bs.getD i 0/\bs.getD i 0+ss.getD i 0<=512/\∀k,k<i->¬(bs.getD i 0<=bs.getD k 0+ss.getD k 0/\bs.getD k 0<=bs.getD i 0+ss.getD i 0)
def LV(bs ss:List Int):Prop:=VS ss/\bs.length=ss.length/\∀i,i<bs.length->Au bs ss i
theorem VS.at_{ss:List Int}(h:VS ss){i:Nat}(hi:i<ss.length):1<=ss[i]/\ss[i]<=32:=h.2.2 _ (List.getElem_mem hi)
def sB(ss:List Int)(seed:Int):Nat->List Int×Int
 |0=>(List.replicate ss.length 0,1+seed/ss.length%50)
 |k+1=>((sB ss seed k).1.set (((k+seed)%ss.length).toNat) (sB ss seed k).2,(sB ss seed k).2+(ss.getD ((k+seed)%ss.length).toNat 0+1+seed/(50*ss.length)%40))
def mkB(ss:List Int)(seed:Int):List Int:=(sB ss seed ss.length).1
theorem M6(ss:List Int)(seed:Int)(k:Nat):(sB ss seed k).1.length=ss.length:=by
 induction k with
 |zero=>simp[sB]
 |succ k ih=>simp[sB,ih]
theorem VS.getD{ss:List Int}(h:VS ss){i:Nat}(hi:i<ss.length):1<=ss.getD i 0/\ss.getD i 0<=32:=by rw[Lu hi];exact h.at_ hi
theorem N9{n k:Nat}{seed:Int}(hn:1<=n):0<=((k:Int)+seed)%n/\((k:Int)+seed)%n<n:=
 ⟨Int.emod_nonneg _ (by omega),Int.emod_lt_of_pos _ (by omega)⟩
theorem Pj{ss:List Int}{seed:Int}(h:VS ss)(hs:0<=seed)(k:Nat):1<=(sB ss seed k).2/\(sB ss seed k).2<=50+72*k:=by
 induction k with
 |zero=>simp[sB];omega
 |succ k ih=>
  simp only[sB];have hr:=N9 (k:=k) (seed:=seed) h.1;have:=h.getD (i:=(((k:Int)+seed)%ss.length).toNat) (by omega);omega
theorem K7{ss:List Int}(h0:1<=ss.length)(h1:ss.length<=4):(∃a,ss=[a])\/(∃a b,ss=[a,b])\/(∃a b c,ss=[a,b,c])\/(∃a b c d,ss=[a,b,c,d]):=by
 match ss,h0,h1 with
 | [a],_,_=>simp_all
 | [a,b],_,_=>simp_all
 | [a,b,c],_,_=>simp_all
 | [a,b,c,d],_,_=>simp_all
theorem xy{P:Nat->Prop}(h0:P 0):∀i,i<1->P i:=by
 simp_all
theorem Bu{P:Nat->Prop}(h0:P 0)(h1:P 1):∀i,i<2->P i:=by
 grind
theorem Hm{P:Nat->Prop}(h0:P 0)(h1:P 1)(h2:P 2):∀i,i<3->P i:=by
 grind
theorem MK{P:Nat->Prop}(h0:P 0)(h1:P 1)(h2:P 2)(h3:P 3):∀i,i<4->P i:=by
 grind
def Mb(b s:Int):Prop:=0<=b/\b+s<=512
def gG(b s b' s':Int):Prop:=¬(b<=b'+s'/\b'<=b+s)
theorem LV1{a x:Int}(hv:VS [a])(h:Mb x a):LV [x] [a]:=
 ⟨hv,rfl,xy ⟨h.1,h.2,λk hk=>by omega⟩⟩
theorem LV2{a b x y:Int}(hv:VS [a,b])(h:Mb x a)(h':Mb y b)(h1:gG y b x a):LV [x,y] [a,b]:=
 ⟨hv,rfl,Bu ⟨h.1,h.2,λk hk=>by omega⟩ ⟨h'.1,h'.2,xy h1⟩⟩
theorem LV3{a b c x y z:Int}(hv:VS [a,b,c])(h:Mb x a)(h':Mb y b)(Sv:Mb z c)(h1:gG y b x a)(h2:gG z c x a)(h3:gG z c y b):LV [x,y,z] [a,b,c]:=
 ⟨hv,rfl,Hm ⟨h.1,h.2,λk hk=>by omega⟩ ⟨h'.1,h'.2,xy h1⟩ ⟨Sv.1,Sv.2,Bu h2 h3⟩⟩
theorem LV4{a b c d x y z u:Int}(hv:VS [a,b,c,d])(h:Mb x a)(h':Mb y b)(Sv:Mb z c)(Sw:Mb u d)(h1:gG y b x a)(h2:gG z c x a)(h3:gG z c y b)(h4:gG u d x a)(h5:gG u d y b)(h6:gG u d z c):LV [x,y,z,u] [a,b,c,d]:=
 ⟨hv,rfl,MK ⟨h.1,h.2,λk hk=>by omega⟩ ⟨h'.1,h'.2,xy h1⟩ ⟨Sv.1,Sv.2,Bu h2 h3⟩ ⟨Sw.1,Sw.2,Hm h4 h5 h6⟩⟩
theorem QY{ss:List Int}(hv:VS ss){seed:Int}(hs:0<=seed):LV (mkB ss seed) ss:=by
 have Yl:=hv
 rcases K7 hv.1 hv.2.1 with⟨a,rfl⟩|⟨a,b,rfl⟩|⟨a,b,c,rfl⟩|⟨a,b,c,d,rfl⟩
 ·obtain⟨_,_,hx⟩:=hv;have ha:=hx a (by simp)
  have e0:(((0:Nat):Int)+seed)%1=0:=by omega
  have hB:mkB [a] seed=[1+seed/1%50]:=by simp[mkB,sB,List.replicate]
  rw[hB];exact LV1 Yl ⟨by omega,by omega⟩
 ·obtain⟨_,_,hx⟩:=hv;have ha:=hx a (by simp);have hb:=hx b (by simp)
  rcases(show seed%2=0\/seed%2=1 by omega)with ht|ht
  ·have e1:(1+seed)%2=1:=by omega
   simp only[mkB,sB,oLC,List.length_nil,List.replicate];simp[ht,e1];exact LV2 Yl ⟨by omega,by omega⟩ ⟨by omega,by omega⟩ (by unfold gG;omega)
  ·have e1:(1+seed)%2=0:=by omega
   simp only[mkB,sB,oLC,List.length_nil,List.replicate];simp[ht,e1];exact LV2 Yl ⟨by omega,by omega⟩ ⟨by omega,by omega⟩ (by unfold gG;omega)
 ·obtain⟨_,_,hx⟩:=hv;have ha:=hx a (by simp);have hb:=hx b (by simp);have hc:=hx c (by simp)
  rcases(show seed%3=0\/seed%3=1\/seed%3=2 by omega)with ht|ht|ht
  ·have e1:(1+seed)%3=1:=by omega
   have e2:(2+seed)%3=2:=by omega
   simp only[mkB,sB,oLC,List.length_nil,List.replicate];simp[ht,e1,e2];exact LV3 Yl ⟨by omega,by omega⟩ ⟨by omega,by omega⟩ ⟨by omega,by omega⟩ (by unfold gG;omega) (by unfold gG;omega) (by unfold gG;omega)
  ·have e1:(1+seed)%3=2:=by omega
   have e2:(2+seed)%3=0:=by omega
   simp only[mkB,sB,oLC,List.length_nil,List.replicate];simp[ht,e1,e2];exact LV3 Yl ⟨by omega,by omega⟩ ⟨by omega,by omega⟩ ⟨by omega,by omega⟩ (by unfold gG;omega) (by unfold gG;omega) (by unfold gG;omega)
  ·have e1:(1+seed)%3=0:=by omega
   have e2:(2+seed)%3=1:=by omega
   simp only[mkB,sB,oLC,List.length_nil,List.replicate];simp[ht,e1,e2];exact LV3 Yl ⟨by omega,by omega⟩ ⟨by omega,by omega⟩ ⟨by omega,by omega⟩ (by unfold gG;omega) (by unfold gG;omega) (by unfold gG;omega)
 ·obtain⟨_,_,hx⟩:=hv;have ha:=hx a (by simp);have hb:=hx b (by simp);have hc:=hx c (by simp);have hd:=hx d (by simp)
  have hq:∀q g:Int,q=1+seed/4%50->g=seed/(50*4)%40->1<=q/\q<=50/\0<=g/\g<40:=λq g e e'=>by subst e;subst e';omega
  rcases(show seed%4=0\/seed%4=1\/seed%4=2\/seed%4=3 by omega)with ht|ht|ht|ht
  ·have e1:(1+seed)%4=1:=by omega
   have e2:(2+seed)%4=2:=by omega
   have e3:(3+seed)%4=3:=by omega
   simp only[mkB,sB,oLC,List.length_nil,List.replicate];simp[ht,e1,e2,e3];exact LV4 Yl ⟨by omega,by omega⟩ ⟨by omega,by omega⟩ ⟨by omega,by omega⟩ ⟨by omega,by omega⟩ (by unfold gG;omega) (by unfold gG;omega) (by unfold gG;omega) (by unfold gG;omega) (by unfold gG;omega) (by unfold gG;omega)
  ·have e1:(1+seed)%4=2:=by omega
   have e2:(2+seed)%4=3:=by omega
   have e3:(3+seed)%4=0:=by omega
   simp only[mkB,sB,oLC,List.length_nil,List.replicate];simp[ht,e1,e2,e3];exact LV4 Yl ⟨by omega,by omega⟩ ⟨by omega,by omega⟩ ⟨by omega,by omega⟩ ⟨by omega,by omega⟩ (by unfold gG;omega) (by unfold gG;omega) (by unfold gG;omega) (by unfold gG;omega) (by unfold gG;omega) (by unfold gG;omega)
  ·have e1:(1+seed)%4=3:=by omega
   have e2:(2+seed)%4=0:=by omega
   have e3:(3+seed)%4=1:=by omega
   simp only[mkB,sB,oLC,List.length_nil,List.replicate];simp[ht,e1,e2,e3];exact LV4 Yl ⟨by omega,by omega⟩ ⟨by omega,by omega⟩ ⟨by omega,by omega⟩ ⟨by omega,by omega⟩ (by unfold gG;omega) (by unfold gG;omega) (by unfold gG;omega) (by unfold gG;omega) (by unfold gG;omega) (by unfold gG;omega)
  ·have e1:(1+seed)%4=0:=by omega
   have e2:(2+seed)%4=1:=by omega
   have e3:(3+seed)%4=2:=by omega
   simp only[mkB,sB,oLC,List.length_nil,List.replicate];simp[ht,e1,e2,e3];exact LV4 Yl ⟨by omega,by omega⟩ ⟨by omega,by omega⟩ ⟨by omega,by omega⟩ ⟨by omega,by omega⟩ (by unfold gG;omega) (by unfold gG;omega) (by unfold gG;omega) (by unfold gG;omega) (by unfold gG;omega) (by unfold gG;omega)
theorem IQ{α:Type}(l:List α)(i:Nat)(a:α):List.modify l i (λ_=>a)=l.set i a:=by
 apply List.ext_getElem?
 grind
theorem Pl{s:List Int}{seed:Int}(hs:At s)(h0:0<=seed)(h1:seed<=1073741824):Ok (od s seed) λr=>∃key,r=(mkB s seed,key,0,())/\W16 key:=by
 obtain⟨hs1,WL,hsz⟩:=id hs;unfold od;delta dQ
 try dsimp only
 refine Ok.bind (P:=λr=>r=(s,seed,false,(),0,())) ?_ ?_
 ·refine(JF (by omega)).bind ?_;rintro⟨v,_⟩ hv;have hv:v=true:=hv.2 hs;subst hv;simp only[oNT,oCF]
  (with_reducible refine dI (λZZ=>?_) λZZ=>?_)
  ·omega
  ·exact Ok.ret (by rw[oDF (by omega)])
 rintro _ rfl;dsimp only;refine Ok.cond (λh=>by cases h) λ_=>?_;rw[dO];simp only[oBS];refine dK (by unfold qW;rw[oBA];exact⟨oDT rfl,oDT (by omega)⟩) ?_;refine dK (by rw[bne_iff_ne];omega) ?_;have YL:Int.tdiv seed s.length=seed/s.length:=Int.tdiv_eq_ediv_of_nonneg h0;have hq:0<=seed/(s.length:Int)/\seed/(s.length:Int)<=seed:=⟨Int.ediv_nonneg h0 (by omega),Int.ediv_le_self _ h0⟩;have T7:Int.tmod (seed/(s.length:Int)) 50=seed/(s.length:Int)%50:=Int.tmod_eq_emod_of_nonneg hq.1;rw[YL,dR (x:=seed/(s.length:Int)) (by omega) (by omega),T7,dR (x:=1+seed/(s.length:Int)%50) (by omega) (by omega)]
 have Wn:W16 (wk .u16 (w64 (40503*seed))):=by
  unfold wk;rw[xt];exact⟨by omega,by omega⟩
 generalize wk .u16 (w64 (40503*seed))=key at Wn
 refine Ok.loop (P:=λs'=>∃k:Nat,s'=(s,seed,(s.length:Int),(sB s seed k).2,(s.length:Int),(k:Int),(),0,(sB s seed k).1,key,())/\k<=s.length) (R:=λr=>∃a b c d e f g h,r=(a,b,c,d,e,f,g,(),h,(sB s seed s.length).1,key,()))
  (m:=λs'=>(s'.2.2.2.2.1-s'.2.2.2.2.2.1).toNat) ⟨0,rfl,by omega⟩ (by unfold NN;dsimp only;omega) ?_ ?_
 ·rintro _ ⟨k,rfl,hk⟩;unfold qL;dsimp only;have hb:=Pj hs h0 k
  (with_reducible refine dI (λhcc=>?_) λhcc=>?_)
  ·have hr:=N9 (k:=k) (seed:=seed) hs1;rw[dR (x:=(k:Int)+seed) (by omega) (by omega)];refine dK (by rw[bne_iff_ne];omega) ?_;rw[Int.tmod_eq_emod_of_nonneg (show 0<=(k:Int)+seed by omega)];refine Ok.nat hr.1 λr WZ=>?_;have hl:=M6 s seed k;refine Ok.get (by omega) λx hx=>?_;refine Ok.get (by omega) λy hy=>?_;refine Ok.nat hr.1 λr2 hrr2=>?_
   have:r2=r:=by omega
   subst this;refine Ok.get (by omega) λz hz=>?_;have hz2:=hsz z (dU hz);rw[dR (x:=z+1) (by omega) (by omega),dR (x:=50*(s.length:Int)) (by omega) (by omega)];refine dK (by rw[bne_iff_ne];omega) ?_;have hd2:Int.tdiv seed (50*(s.length:Int))=seed/(50*s.length):=Int.tdiv_eq_ediv_of_nonneg h0;have YR:0<=seed/(50*(s.length:Int))/\seed/(50*(s.length:Int))<=seed:=⟨Int.ediv_nonneg h0 (by omega),Int.ediv_le_self _ h0⟩;have VH:Int.tmod (seed/(50*(s.length:Int))) 40=seed/(50*s.length)%40:=Int.tmod_eq_emod_of_nonneg YR.1;rw[hd2,dR (x:=seed/(50*(s.length:Int))) (by omega) (by omega),VH];generalize hg:seed/(50*(s.length:Int))%40=g
   have ZB:0<=g/\g<40:=by omega
   rw[dR (x:=z+1+g) (by omega) (by omega),dR (x:=(sB s seed k).2+(z+1+g)) (by omega) (by omega),dR (x:=(k:Int)+1) (by omega) (by omega),IQ]
   have e1:(sB s seed (k+1)).1=(sB s seed k).1.set r2 (sB s seed k).2:=by
    simp only[sB];rw[WZ];rfl
   have e2:(sB s seed (k+1)).2=(sB s seed k).2+(z+1+g):=by
    simp only[sB];rw[WZ,hg,oTN,oGD,hz];rfl
   refine Ok.ret ⟨⟨k+1,?_,by omega⟩,by dsimp only;omega⟩;rw[e1,e2];rfl
  ·have:k=s.length:=by omega
   subst this;exact Ok.ret ⟨_,_,_,_,_,_,_,_,rfl⟩
 ·rintro _ ⟨a,b,c,d,e,f,g,h,rfl⟩;exact Ok.ret ⟨key,rfl,Wn⟩
theorem s6{S T:Type}{f:S->Option (S⊕T)}(st:Nat->S){n N:Nat}{t:T}(hn:n<N)(h:∀i,i<n->Ok (f (st i)) (·=.inl (st (i+1))))(he:Ok (f (st n)) (·=.inr t)):dZ f N (st 0)=some t:=by
 have key:∀k i,i+k=n->∀N,k<N->dZ f N (st i)=some t:=by
  intro k
  induction k with
  |zero=>
   intro i hi N hN;obtain⟨x,e,hx⟩:=he
   have:i=n:=by omega
   subst this;obtain⟨N',rfl⟩:∃N',N=N'+1:=⟨N-1,by omega⟩;simp[dZ,e,hx]
  |succ k ih=>
   intro i hi N hN;have ⟨x,e,hx⟩:=h i (by omega);obtain⟨N',rfl⟩:∃N',N=N'+1:=⟨N-1,by omega⟩;simp[dZ,e,hx];exact ih (i+1) (by omega) N' (by omega)
 simp_all
theorem ff{α:Type}{o:Option α}{a:α}(h:Ok o (·=a)):o=some a:=by
 obtain⟨x,e,rfl⟩:=h;exact e
theorem fO{l:List Int}{k:Nat}{x:Int}(h:l[k]?=some x):l.getD k 0=x:=by simp_all
theorem AB{s:List Int}(h:At s):io s=some (true,()):=by
 have ⟨⟨v,u⟩,e,hv⟩:=JF (s:=s) (by have:=h.2.1;omega)
 simp_all
theorem uU{bs ss:List Int}{key:Int}(h:LV bs ss):ji bs key ss=some (true,()):=by
 obtain⟨hs,hl,hr⟩:=h;have h4:=hs.2.1;unfold ji;rw[AB hs];delta dQ;simp only[oBS,oNT,oCF,hl,bne_self_eq_false]
 have e:dZ jQ NN (ss,bs,(ss.length:Int),0,bs,key,())=some (.inr (ss,bs,(ss.length:Int),(ss.length:Int),false,bs,key,())):=by
  refine s6 (st:=λi=>(ss,bs,(ss.length:Int),(i:Int),bs,key,())) (n:=ss.length) (by unfold NN;omega) ?_ ?_
  ·intro i hi;unfold jQ;dsimp only;have R9:=hr i (by omega);unfold Au at R9
   (with_reducible refine dI (λZ9=>?_) λZ9=>?_)
   ·rw[dO];simp only[oBS];refine Ok.get (by omega) λb hb=>?_;rw[fO hb]at R9
    (with_reducible refine dI (λZZ=>?_) λZZ=>?_)
    ·omega
    ·refine Ok.get (by omega) λz hz=>?_;rw[fO hz]at R9;have hz2:=hs.2.2 z (dU hz)
     (simp (disch:=omega) only [dR,ek,dY,dT])
     (with_reducible refine dI (λhcc=>?_) λhcc=>?_)
     ·omega
     ·refine dK (by unfold gF;simp;omega) ?_
      have Uc:(my bs 0 (Nat.sub i 0)).length=i:=by unfold my;rw[oLT,List.drop_zero];show min i _=i;omega
      rw[Uc]
      have e:dZ jR NN (ss,(i:Int),b,bs,(ss.length:Int),(i:Int),my bs 0 (Nat.sub i 0),(i:Int),0,bs,key,())=some (.inr (ss,(i:Int),b,bs,(ss.length:Int),(i:Int),my bs 0 (Nat.sub i 0),(i:Int),(i:Int),false,bs,key,())):=by
       refine s6 (st:=λj=>(ss,(i:Int),b,bs,(ss.length:Int),(i:Int),my bs 0 (Nat.sub i 0),(i:Int),(j:Int),bs,key,())) (n:=i) (by unfold NN;omega) ?_ ?_
       ·intro j hj;unfold jR;dsimp only
        (with_reducible refine dI (λZ9=>?_) λZ9=>?_)
        ·rw[dO,dO];simp only[oBS]
         have hx:(dM (my bs 0 (Nat.sub i 0)) j)=bs[j]?:=by
          unfold dM my;rw[List.getElem?_take,List.drop_zero];exact oIP hj
         rw[hx];obtain⟨c,hc⟩:∃c,bs[j]?=some c:=⟨_,oGE (by omega)⟩;obtain⟨y,hy⟩:∃y,ss[j]?=some y:=⟨_,oGE (by omega)⟩;have WP:=hs.2.2 y (dU hy);have UV:dM ss i=some z:=hz;have WE:dM ss j=some y:=hy;rw[hc,UV,WE];simp only[oBS];have R':=(hr j (by omega)).1;have To:=(hr j (by omega)).2.1;rw[fO hc]at R' To;rw[fO hy]at To;have VY:=R9.2.2 j hj;rw[fO hc,fO hy]at VY;rw[dR (x:=b+z) (by omega) (by omega),dR (x:=c+y) (by omega) (by omega)];by_cases h1:b+z>=c
         ·have h2:¬c+y>=b:=by omega
          simp only[h1,h2,decide_true,decide_false,oCT,oCF]
          (simp (disch:=omega) only [dR,ek,dY,dT])
          exact Ok.ret rfl
         ·simp only[h1,decide_false,oCF]
          (simp (disch:=omega) only [dR,ek,dY,dT])
          exact Ok.ret rfl
        ·omega
       ·unfold jR;dsimp only
        (with_reducible refine dI (λZ9=>?_) λZ9=>?_)
        ·omega
        ·exact Ok.ret rfl
      rw[e]
      (simp (disch:=omega) only [dR,ek,dY,dT])
      exact Ok.ret rfl
   ·omega
  ·unfold jQ;dsimp only
   (with_reducible refine dI (λZ9=>?_) λZ9=>?_)
   ·omega
   ·exact Ok.ret rfl
 rw[e]
theorem Lj{n m o a b c i:Int}(h:iF n m (o,a,b,c,i))(hn:n<=4)(hm:m<=64):mH o a b c i=some (true,()):=by
 obtain⟨⟨o0,o1⟩,⟨a0,a1,a2⟩,⟨b0,b1,b2⟩,⟨c0,c1,c2⟩,⟨i0,i1,i2⟩,hl,hs,hj⟩:=h;dsimp only at *
 have Yn:∀(k:Nat)(x:Int)(u:Bool),k<3->[a,b,c][k]?=some x->(k=0->u=qw o)->(k=1->u=qv o)->(k=2->u=qu o)->0<=x->x<8->(u=false->x=0)->
  Ok (jO (3,(k:Int),o,a,b,c,i,qw o,qv o,qu o,qt o,[a,b,c],())) (·=.inl (3,((k+1:Nat):Int),o,a,b,c,i,qw o,qv o,qu o,qt o,[a,b,c],())):=by
  intro k x u hk hx h0 h1 h2 hx0 Z1 X9;unfold jO;dsimp only
  (with_reducible refine dI (λZ9=>?_) λZ9=>?_)
  ·rw[dO];simp only[oBS];rw[show dM [a,b,c] k=some x from hx];simp only[oBS];rw[oDF (show ¬x<0 by omega),oDF (show ¬x>=8 by omega)];simp only[oCF];have ZX:Ok (some ((3:Int),(k:Int),false,o,a,b,c,i,qw o,qv o,qu o,qt o,[a,b,c],())) (·=((3:Int),(k:Int),false,o,a,b,c,i,qw o,qv o,qu o,qt o,[a,b,c],())):=Ok.ret rfl
   have Ut:u=false->(x != 0)=false:=λh=>by rw[X9 h];rfl
   refine Ok.bind (P:=(·=((3:Int),(k:Int),false,o,a,b,c,i,qw o,qv o,qu o,qt o,[a,b,c],()))) ?_ ?_
   ·rcases(show k=0\/k=1\/k=2 by omega)with rfl|rfl|rfl
    ·rw[<- h0 rfl]at ZX⊢;refine dK rfl ?_;refine Ok.cond (λhu=>?_) λ_=>ZX;rw[Ut (by simpa using hu)];exact ZX
    ·rw[<- h1 rfl]at ZX⊢;refine Ok.cond (λhu=>by cases hu) λ_=>dK rfl (Ok.cond (λhu=>?_) λ_=>ZX);rw[Ut (by simpa using hu)];exact ZX
    ·rw[<- h2 rfl]at ZX⊢;refine Ok.cond (λhu=>by cases hu) λ_=>Ok.cond (λhu=>by cases hu) λ_=>dK rfl (Ok.cond (λhu=>?_) λ_=>ZX);rw[Ut (by simpa using hu)];exact ZX
   ·rintro _ rfl;dsimp only;rw[dR (x:=(k:Int)+1) (by omega) (by omega)];exact Ok.ret rfl
  ·omega
 have e:dZ jO NN (3,0,o,a,b,c,i,qw o,qv o,qu o,qt o,[a,b,c],())=some (.inr (3,3,false,o,a,b,c,i,qw o,qv o,qu o,qt o,[a,b,c],())):=by
  refine s6 (st:=λk=>(3,(k:Int),o,a,b,c,i,qw o,qv o,qu o,qt o,[a,b,c],())) (n:=3) (by unfold NN;omega) ?_ ?_
  ·intro k hk
   rcases(show k=0\/k=1\/k=2 by omega)with rfl|rfl|rfl
   ·exact Yn 0 a _ (by omega) rfl (λ_=>rfl) (by omega) (by omega) a0 a1 a2
   ·exact Yn 1 b _ (by omega) rfl (by omega) (λ_=>rfl) (by omega) b0 b1 b2
   ·exact Yn 2 c _ (by omega) rfl (by omega) (by omega) (λ_=>rfl) c0 c1 c2
  ·exact Ok.ret rfl
 refine ff ?_;unfold mH;rw[oDF (show ¬o<0 by omega),oDF (show ¬o>24 by omega),JG o0 o1];simp only[oCF,oBS];rw[show dQ [a,b,c].length=3 from rfl,e];dsimp only;rw[oDF (show ¬i<0 by omega),oDF (show ¬i>65535 by omega)];simp only[oCF];refine Ok.bind (P:=(·=(false,o,a,b,c,i,()))) ?_ ?_
 ·refine Ok.cond (λhu=>?_) λ_=>Ok.ret rfl;exact Ok.ret (by rw[i2 (by simpa using hu)];rfl)
 rintro _ rfl;dsimp only;rw[yx];simp only[oCF,oBS];refine Ok.cond (λhu=>?_) λ_=>?_
 ·exact Ok.ret (by rw[oDT (by have:=hj hu;omega)])
 ·(with_reducible refine dI (λhcc=>?_) λhcc=>?_)
  ·exact Ok.ret (by rw[oDT (by have:=hl hcc;omega)])
  ·(with_reducible refine dI (λXe=>?_) λXe=>?_)
   ·exact Ok.ret (by rw[oDT (by have:=hs Xe;omega)])
   ·exact Ok.ret rfl
theorem HS{code:List DIn}{s:List Int}{d:List (List Int)}(h:nQ code s d):kE code s d=some (0,()):=by
 have hs:=h.sz;have WL:=hs.2.1;have hc:=h.clen;have hl:=h.len
 have e0:dZ jN NN (d,(d.length:Int),0,code,s,d,())=some (.inr (d,(d.length:Int),(d.length:Int),false,code,s,d,())):=by
  refine s6 (st:=λk=>(d,(d.length:Int),(k:Int),code,s,d,())) (n:=d.length) (by unfold NN;omega) ?_ ?_
  ·intro k hk;unfold jN;dsimp only
   (with_reducible refine dI (λZ9=>?_) λZ9=>?_)
   ·rw[dO];delta dQ;simp only[oBS];refine Ok.get (by omega) λx hx=>?_;refine Ok.get (by omega) λy hy=>?_;have:=h.fit k x y hx hy
    (with_reducible refine dI (λZZ=>?_) λZZ=>?_)
    ·omega
    ·(simp (disch:=omega) only [dR,ek,dY,dT])
     exact Ok.ret rfl
   ·omega
  ·unfold jN;dsimp only
   (with_reducible refine dI (λZ9=>?_) λZ9=>?_)
   ·omega
   ·exact Ok.ret rfl
 have e1:dZ jM NN (code,(code.length:Int),0,code,s,d,())=some (.inr (code,(code.length:Int),(code.length:Int),false,code,s,d,())):=by
  refine s6 (st:=λk=>(code,(code.length:Int),(k:Int),code,s,d,())) (n:=code.length) (by unfold NN;omega) ?_ ?_
  ·intro k hk;unfold jM;dsimp only
   (with_reducible refine dI (λZ9=>?_) λZ9=>?_)
   ·rw[dO];simp only[oBS];refine Ok.get (by omega) λx hx=>?_;obtain⟨o,a,b,c,i⟩:=x;rw[Lj (h.ins _ (dU hx)) (by omega) (by omega)]
    (simp (disch:=omega) only [dR,ek,dY,dT])
    exact Ok.ret rfl
   ·omega
  ·unfold jM;dsimp only
   (with_reducible refine dI (λZ9=>?_) λZ9=>?_)
   ·omega
   ·exact Ok.ret rfl
 have e3:dZ jL NN (code,(code.length:Int),0,code,s,d,())=some (.inr (code,(code.length:Int),(code.length:Int),false,code,s,d,())):=by
  refine s6 (st:=λk=>(code,(code.length:Int),(k:Int),code,s,d,())) (n:=code.length) (by unfold NN;omega) ?_ ?_
  ·intro k hk;unfold jL;dsimp only
   (with_reducible refine dI (λZ9=>?_) λZ9=>?_)
   ·rw[dO];simp only[oBS];refine Ok.get (by omega) λx hx=>?_;have hp:=h.ins x (dU hx);rw[yx];simp only[oBS];refine Ok.bind (P:=(·=(code,(code.length:Int),(k:Int),false,code,s,d,()))) ?_ ?_
    ·refine Ok.cond (λhj=>?_) λ_=>?_
     ·have:=hp.jmp hj
      (with_reducible refine dI (λZZ=>?_) λZZ=>?_)
      ·have ZZ:x.2.2.2.2>=(code.length:Int):=ZZ;omega
      ·(with_reducible refine dI (λhcc=>?_) λhcc=>?_)
       ·exact Ok.ret (by rw[oDF (show ¬x.2.2.2.2>=dQ s.length by rw[dT];have:=hp.lea hcc;omega)])
       ·exact Ok.ret rfl
     ·(with_reducible refine dI (λhcc=>?_) λhcc=>?_)
      ·exact Ok.ret (by rw[oDF (show ¬x.2.2.2.2>=dQ s.length by rw[dT];have:=hp.lea hcc;omega)])
      ·exact Ok.ret rfl
    ·rintro _ rfl;dsimp only;simp only[oCF]
     (simp (disch:=omega) only [dR,ek,dY,dT])
     exact Ok.ret rfl
   ·omega
  ·unfold jL;dsimp only
   (with_reducible refine dI (λZ9=>?_) λZ9=>?_)
   ·omega
   ·exact Ok.ret rfl
 refine ff ?_;unfold kE;rw[AB hs];delta dQ;simp only[oBS,oNT,oCF,hl,bne_self_eq_false];rw[hl]at e0;rw[e0];dsimp only
 (with_reducible refine dI (λZ9=>?_) λZ9=>?_)
 ·omega
 ·(with_reducible refine dI (λZZ=>?_) λZZ=>?_)
  ·omega
  ·rw[e1];dsimp only;rw[e3];exact Ok.ret rfl
def RK(bs ss:List Int)(a:Int):Prop:=∃(j:Nat)(b z:Int),bs[j]?=some b/\ss[j]?=some z/\b<=a/\a<b+z
def oG(K:Int->Prop)(c:DCe):Prop:=0<=c.1/\c.1<=2/\0<=c.2/\c.2<=65535/\(c.1=1->K c.2)
theorem oG.mono{K K':Int->Prop}{c:DCe}(h:oG K c)(hk:∀a,K a->K' a):oG K' c:=⟨h.1,h.2.1,h.2.2.1,h.2.2.2.1,λe=>hk _ (h.2.2.2.2 e)⟩
theorem ms{K:Int->Prop}{v:Int}(h:0<=v/\v<=65535):oG K (0,v):=⟨by omega,by omega,h.1,h.2,λe=>absurd (show(0:Int)=1 from e) (by decide)⟩
def QX(K:Int->Prop)(i:Nat)(x:DLn):Prop:=(x.1=-1/\x.2.1=false/\x.2.2=[])\/(0<=x.1/\x.1<128/\x.1%4=i/\x.2.2.length=4/\∀c∈x.2.2,oG K c)
def Rg(cs:List DCe)(x:DLn):Prop:=x.1=-1\/x.2.1=true\/∀o:Nat,o<4->cs[(x.1*4).toNat+o]?=x.2.2[o]?
structure lz (K:Int->Prop)(cs:List DCe)(ls:List DLn):Prop where
 clen:cs.length=512
 cells:∀c∈cs,oG K c
 llen:ls.length=4
 lines:∀(i:Nat) x,ls[i]?=some x->QX K i x
 coh:∀(i:Nat) x,ls[i]?=some x->Rg cs x
structure zr (K:Int->Prop)(n:Int)(t:DTh):Prop where
 state:0<=t.1/\t.1<=4
 len:t.2.1.length=8
 regs:∀c∈t.2.1,oG K c
 pc:0<=t.2.2.1/\t.2.2.1<=255
 count:0<=t.2.2.2.1/\t.2.2.2.1<=n
 handler:-1<=t.2.2.2.2.1/\t.2.2.2.2.1<=255
 saved:-1<=t.2.2.2.2.2.1/\t.2.2.2.2.2.1<=255
 trap:0<=t.2.2.2.2.2.2.1/\t.2.2.2.2.2.2.1<=6
 code:W16 t.2.2.2.2.2.2.2
structure MOk (n:Int)(ss bs:List Int)(cs:List DCe)(ls:List DLn)(ts:List DTh):Prop where
 lay:LV bs ss
 mem:lz (RK bs ss) cs ls
 tlen:ts.length=4
 thr:∀t∈ts,zr (RK bs ss) n t
theorem H8{K:Int->Prop}{l:List DCe}(hl:l.length<=1000)(h:∀c∈l,oG K c):nv l=some (true,()):=by
 have e:dZ lG NN (l,(l.length:Int),0,())=some (.inr (l,(l.length:Int),(l.length:Int),false,())):=by
  refine s6 (st:=λk=>(l,(l.length:Int),(k:Int),())) (n:=l.length) (by unfold NN;omega) ?_ ?_
  ·intro k hk;unfold lG
   (with_reducible refine dI (λZ9=>?_) λZ9=>?_)
   ·rw[dO];refine Ok.get (by omega) λx hx=>?_;have:=h x (dU hx);unfold kJ;rw[oDT (show x.1<=2 from this.2.1)]
    (simp (disch:=omega) only [dR,ek,dY,dT])
    exact Ok.ret rfl
   ·omega
  ·unfold lG
   (with_reducible refine dI (λZ9=>?_) λZ9=>?_)
   ·omega
   ·exact Ok.ret rfl
 refine ff ?_;unfold nv;delta dQ
 try dsimp only
 rw[e];exact Ok.ret rfl
theorem Ig{K:Int->Prop}{cs:List DCe}{ls:List DLn}(h:lz K cs ls):mI cs ls=some (true,()):=by
 obtain⟨h1,h2,h3,h4,_⟩:=h
 have e:dZ jP NN (ls,4,0,cs,ls,())=some (.inr (ls,4,4,false,cs,ls,())):=by
  refine s6 (st:=λk=>(ls,4,(k:Int),cs,ls,())) (n:=4) (by unfold NN;omega) ?_ ?_
  ·intro k hk;unfold jP;dsimp only
   (with_reducible refine dI (λZ9=>?_) λZ9=>?_)
   ·rw[dO];simp only[oBS];refine Ok.get (by omega) λx hx=>?_
    rcases h4 k x hx with⟨e1,e2,e3⟩|⟨g1,g2,g3,g4,g5⟩
    ·rw[e1,e2,e3]
     (simp (disch:=omega) only [dR,ek,dY,dT])
     exact Ok.ret rfl
    ·rw[show(x.1==-1)=false by rw[beq_eq_false_iff_ne];omega,oDF (show ¬x.1<0 by omega),oDF (show ¬x.1>=128 by omega),Int.tmod_eq_emod_of_nonneg g1,g3,g4,H8 (by omega) g5];simp;refine Ok.bind (P:=(·=(ls,4,(k:Int),false,cs,ls,()))) ?_ ?_
     ·refine Ok.cond (λh=>by cases h) λ_=>Ok.ret rfl
     ·rintro _ rfl;dsimp only;simp only[oCF]
      (simp (disch:=omega) only [dR,ek,dY,dT])
      exact Ok.ret rfl
   ·omega
  ·unfold jP;exact Ok.ret rfl
 refine ff ?_;unfold mI;delta dQ;simp only[h1,h3,H8 (show cs.length<=1000 by omega) h2,oBS,oNT];refine Ok.bind (P:=(·=(false,cs,ls,()))) ?_ ?_
 ·exact Ok.ret rfl
 ·rintro _ rfl;dsimp only;simp only[oCF];rw[h3,show((4:Nat):Int)=4 from rfl,e];exact Ok.ret rfl
theorem If{K:Int->Prop}{t:DTh}(h:zr K 1099511627776 t):mE t.1 t.2.1 t.2.2.1 t.2.2.2.1 t.2.2.2.2.1 t.2.2.2.2.2.1 t.2.2.2.2.2.2.1 t.2.2.2.2.2.2.2=some (true,()):=by
 obtain⟨⟨a1,a2⟩,hl,hr,⟨b1,b2⟩,⟨c1,c2⟩,⟨d1,d2⟩,⟨e1,e2⟩,⟨f1,f2⟩,_⟩:=h;obtain⟨s,rs,pc,ct,ha,sa,tr,co⟩:=t;dsimp only at *
 have e:dZ jK NN (rs,(rs.length:Int),0,s,rs,pc,ct,ha,sa,tr,co,())=some (.inr (rs,(rs.length:Int),(rs.length:Int),false,s,rs,pc,ct,ha,sa,tr,co,())):=by
  refine s6 (st:=λk=>(rs,(rs.length:Int),(k:Int),s,rs,pc,ct,ha,sa,tr,co,())) (n:=rs.length) (by unfold NN;omega) ?_ ?_
  ·intro k hk;unfold jK
   (with_reducible refine dI (λZ9=>?_) λZ9=>?_)
   ·rw[dO];refine Ok.get (by omega) λx hx=>?_;have:=hr x (dU hx);unfold kJ;rw[oDT (show x.1<=2 from this.2.1)]
    (simp (disch:=omega) only [dR,ek,dY,dT])
    exact Ok.ret rfl
   ·omega
  ·unfold jK
   (with_reducible refine dI (λZ9=>?_) λZ9=>?_)
   ·omega
   ·exact Ok.ret rfl
 refine ff ?_;unfold mE;delta dQ
 try dsimp only
 rw[e];dsimp only;rw[hl];refine dK (oDT a1) (dK (oDT a2) (dK rfl (dK (oDT b1) (dK (oDT b2) (dK (oDT c1) (dK (oDT c2) (dK (oDT d1) (dK (oDT d2) (dK (oDT e1) (dK (oDT e2) (dK (oDT f1) ?_)))))))))));exact Ok.ret (by simp_all)
theorem uT{code:List DIn}{ss bs:List Int}{d:List (List Int)}{n key:Int}{cs:List DCe}{ls:List DLn}{ts:List DTh}(hp:nQ code ss d)(h:MOk n ss bs cs ls ts)(hn:n<=1099511627776):jh code ss d bs key cs ls ts=some (true,()):=by
 have ⟨h1,h2,h3,h4⟩:=h
 have e:dZ mh NN (ts,4,0,bs,key,cs,ls,ts,())=some (.inr (ts,4,4,false,bs,key,cs,ls,ts,())):=by
  refine s6 (st:=λk=>(ts,4,(k:Int),bs,key,cs,ls,ts,())) (n:=4) (by unfold NN;omega) ?_ ?_
  ·intro k hk;unfold mh
   (with_reducible refine dI (λZ9=>?_) λZ9=>?_)
   ·rw[dO];refine Ok.get (by omega) λx hx=>?_;have ht:=h4 x (dU hx);rw[If ⟨ht.state,ht.len,ht.regs,ht.pc,⟨ht.count.1,by have:=ht.count.2;omega⟩,ht.handler,ht.saved,ht.trap,ht.code⟩]
    (simp (disch:=omega) only [dR,ek,dY,dT])
    exact Ok.ret rfl
   ·omega
  ·exact Ok.ret rfl
 refine ff ?_;unfold jh;rw[HS hp,uU h1,Ig h2];delta dQ;simp only[oBS,oNT,oCF,bne_self_eq_false,h3];rw[show((4:Nat):Int)=4 from rfl,e];exact Ok.ret rfl
def iA:List DLn:=[(-1,false,[]),(-1,false,[]),(-1,false,[]),(-1,false,[])]
theorem Ny:pF=some (iA,()):=by kernel_rfl
theorem LC{K:Int->Prop}{cs:List DCe}(h:cs.length=512)(hc:∀c∈cs,oG K c):lz K cs iA:=by
 have key:∀(i:Nat) x,iA[i]?=some x->x=(-1,false,[]):=λi x hx=>by
  have:=dU hx;simp[iA]at this;exact this
 exact⟨h,hc,rfl,λi x hx=>by rw[key i x hx];exact .inl ⟨rfl,rfl,rfl⟩,λi x hx=>by rw[key i x hx];exact .inl rfl⟩
theorem jn{α:Type}{P:α->Prop}{l:List α}{i:Nat}{f:α->α}(h:∀x∈l,P x)(hf:∀x,P x->P (f x)):∀x∈List.modify l i f,P x:=by
 intro x hx;have ⟨j,hj⟩:=List.getElem?_of_mem hx
 grind
theorem Pm{code:List DIn}{ss bs:List Int}{d:List (List Int)}{key:Int}(hp:nQ code ss d)(hl:LV bs ss):Ok (oa code ss d bs key) λr=>∃cs,r=(cs,iA,0,())/\cs.length=512/\∀c∈cs,oG (λ_=>False) c:=by
 unfold oa;rw[uU hl,Ny];delta dQ;simp only[oBS,oNT,oCF,hp.len,bne_self_eq_false];refine dK (by decide) ?_
 obtain⟨t,e,ht⟩:=iv (f:=nw) (n:=NN) (s:=(d,(ss.length:Int),0,code,ss,d,bs,key,(),(),List.replicate 512 (0,0),iA,()))
  (P:=λs'=>∃k:Nat,∃cs,s'=(d,(ss.length:Int),(k:Int),code,ss,d,bs,key,(),(),cs,iA,())/\k<=ss.length/\cs.length=512/\∀c∈cs,oG (λ_=>False) c)
  (R:=λr=>∃a b c e cs,r=.inr (a,b,c,e,code,ss,d,bs,key,(),(),cs,iA,())/\cs.length=512/\∀c∈cs,oG (λ_=>False) c) (m:=λs'=>(s'.2.1-s'.2.2.1).toNat)
  ⟨0,_,rfl,by omega,List.length_replicate,λc hc=>by rw[List.eq_of_mem_replicate hc];exact ms (by decide)⟩ (by unfold NN;dsimp only;have:=hp.sz.2.1;omega) (by
   rintro _ ⟨k,cs,rfl,hk,ZQ,ZK⟩;unfold nw;dsimp only;have hlen:=hp.len;have WL:=hp.sz.2.1
   (with_reducible refine dI (λZ9=>?_) λZ9=>?_)
   ·rw[dO];delta dQ;simp only[oBS];refine Ok.get (by omega) λx hx=>?_;refine Ok.get (by omega) λy hy=>?_;have hf:=hp.fit k x y hx hy;have Xj:=hp.num x (dU hx);obtain⟨_,U7,hr⟩:=hl;have Vl:=hr k (by omega);unfold Au at Vl;obtain⟨b,hb⟩:∃b,bs[k]?=some b:=⟨_,oGE (by omega)⟩;rw[fO hb,fO hy]at Vl
    (with_reducible refine dI (λZZ=>?_) λZZ=>?_)
    ·omega
    ·refine Ok.loop (P:=λs'=>∃j:Nat,∃cs,s'=((k:Int),d,(ss.length:Int),(k:Int),x,(x.length:Int),(j:Int),code,ss,d,bs,key,(),(),cs,iA,())/\j<=x.length/\cs.length=512/\∀c∈cs,oG (λ_=>False) c)
      (R:=λr=>∃a b c e cs,r=(a,d,(ss.length:Int),(k:Int),b,c,e,false,code,ss,d,bs,key,(),(),cs,iA,())/\cs.length=512/\∀c∈cs,oG (λ_=>False) c) (m:=λs'=>(s'.2.2.2.2.2.1-s'.2.2.2.2.2.2.1).toNat)
      ⟨0,cs,rfl,by omega,ZQ,ZK⟩ (by unfold NN;dsimp only;omega) ?_ ?_
     ·rintro _ ⟨j,cs,rfl,hj,ZQ,ZK⟩;unfold qK;dsimp only
      (with_reducible refine dI (λhcc=>?_) λhcc=>?_)
      ·rw[dO,dO];simp only[oBS];refine Ok.get (by omega) λv hv=>?_;have XY:=Xj v (dU hv);rw[show dM bs k=some b from hb];simp only[oBS]
       (simp (disch:=omega) only [dR,ek,dY,dT])
       refine Ok.nat (by omega) λa ha=>?_;refine Ok.get (by omega) λc hc=>?_;refine Ok.get (by omega) λc' X0=>?_;exact Ok.ret ⟨⟨j+1,_,rfl,by omega,by rw[oLM];exact ZQ,jn ZK λz hz=>⟨hz.1,hz.2.1,XY.1,XY.2,hz.2.2.2.2⟩⟩,by dsimp only;omega⟩
      ·exact Ok.ret ⟨_,_,_,_,_,rfl,ZQ,ZK⟩
     ·rintro _ ⟨a,b,c,e,cs,rfl,ZQ,ZK⟩;dsimp only
      (simp (disch:=omega) only [dR,ek,dY,dT])
      exact Ok.ret ⟨⟨k+1,_,rfl,by omega,ZQ,ZK⟩,by dsimp only;omega⟩
   ·exact Ok.ret ⟨_,_,_,_,_,rfl,ZQ,ZK⟩)
 rw[e];obtain⟨a,b,c,e,cs,rfl,ZQ,ZK⟩:=ht;exact Ok.ret ⟨cs,rfl,ZQ,ZK⟩
theorem P9{K:Int->Prop}:∀c∈List.replicate 8 ((0:Int),(0:Int)),oG K c:=λc hc=>by rw[List.eq_of_mem_replicate hc];exact ms (by decide)
theorem Oy{K:Int->Prop}{s:Int}(h:0<=s/\s<=4):zr K 0 (s,List.replicate 8 (0,0),0,0,-1,-1,0,0):=
 ⟨h,rfl,P9,⟨by simp_all,by simp_all⟩,⟨by simp_all,by simp_all⟩,⟨by simp_all,by simp_all⟩,⟨by simp_all,by simp_all⟩,⟨by simp_all,by simp_all⟩,⟨by simp_all,by simp_all⟩⟩
theorem Mh{code:List DIn}{ss bs:List Int}{d:List (List Int)}{key:Int}(hp:nQ code ss d)(hl:LV bs ss):Ok (mG code ss d bs key) λr=>∃cs ts,r=(bs,key,cs,iA,ts,0,())/\MOk 0 ss bs cs iA ts:=by
 unfold mG;rw[HS hp,uU hl];refine(Pm hp hl).bind ?_;rintro _ ⟨cs,rfl,ZQ,ZK⟩;dsimp only;have U7:=hl.2.1;have WL:=hp.sz.2.1;refine dK (ee (by omega)) ?_
 refine Ok.loop (P:=λs'=>∃k:Nat,∃ts,s'=((k:Int),(),0,(),(),(),bs,key,cs,iA,ts,())/\k<=4/\ts.length=k/\∀t∈ts,zr (RK bs ss) 0 t)
  (R:=λr=>∃a b ts,r=(a,b,(),0,(),(),(),bs,key,cs,iA,ts,())/\ts.length=4/\∀t∈ts,zr (RK bs ss) 0 t) (m:=λs'=>(4-s'.1).toNat) ⟨0,[],rfl,by omega,rfl,eG⟩ (by unfold NN;dsimp only;omega) ?_ ?_
 ·rintro _ ⟨k,ts,rfl,hk,XX,Y5⟩;unfold qj;dsimp only
  (with_reducible refine dI (λZ9=>?_) λZ9=>?_)
  ·refine dK (by decide) ?_;refine Ok.bind (P:=λr=>∃s,(0<=s/\s<=4)/\r=((k:Int),(),0,(),(),(),bs,key,cs,iA,ts,s,List.replicate 8 (0,0),0,0,-1,-1,0,0,())) ?_ ?_
   ·(with_reducible refine dI (λZZ=>?_) λZZ=>?_)
    ·exact Ok.ret ⟨1,by decide,rfl⟩
    ·exact Ok.ret ⟨0,by decide,rfl⟩
   ·rintro _ ⟨s,hs,rfl⟩;dsimp only;refine dK (ee (by simp;omega)) ?_
    (simp (disch:=omega) only [dR,ek,dY,dT])
    exact Ok.ret ⟨⟨k+1,_,rfl,by omega,by rw[ft,XX];rfl,ir Y5 (all_cons (Oy hs) eG)⟩,by dsimp only;omega⟩
  ·exact Ok.ret ⟨_,_,_,rfl,by omega,Y5⟩
 ·rintro _ ⟨a,b,ts,rfl,XX,Y5⟩;exact Ok.ret ⟨cs,ts,rfl,hl,LC ZQ λc hc=>(ZK c hc).mono λ_ h=>h.elim,XX,Y5⟩
def Pr(ss:List Int)(c:DCn):Prop:=
 ((c.1=0\/c.1=2)/\c.2.2.1=0/\c.2.2.2=0/\W16 c.2.1)\/(c.1=1/\c.2.1=0/\0<=c.2.2.1/\∃n,ss[c.2.2.1.toNat]?=some n/\0<=c.2.2.2/\c.2.2.2<n)
theorem Fh{ss:List Int}{c:DCn}(hs:At ss)(h:Pr ss c):ic c.1 c.2.1 c.2.2.1 c.2.2.2=some (true,()):=by
 refine ff ?_;unfold ic
 rcases h with⟨h1,h2,h3,_⟩|⟨h1,h2,h3,n,h4,h5,h6⟩
 ·rw[h2,h3]
  rcases h1 with h1|h1<;>rw[h1]<;>exact Ok.ret rfl
 ·have hn:=hs.2.2 n (dU h4);have hl:=(oGS h4).1;have WL:=hs.2.1;rw[h1,h2,show(c.2.2.1==-1)=false by rw[beq_eq_false_iff_ne];omega];refine Ok.cond (λh=>by cases h) λ_=>Ok.cond (λh=>by cases h) λ_=>dK rfl ?_;refine Ok.cond (λh=>by cases h) λ_=>dK rfl ?_;exact dK (oDT h3) (dK (oDT (by omega)) (dK (oDT h5) (Ok.ret (by rw[oDT (show c.2.2.2<32 by omega)]))))
theorem m9{ss:List Int}{l:List DCn}{n:Int}(hs:At ss)(h:∀c∈l,Pr ss c)(hn:(l.length:Int)<=n)(hl:l.length<=1000):fH l n=some (true,()):=by
 have e:dZ gH NN (l,n,l,(l.length:Int),0,())=some (.inr (l,n,l,(l.length:Int),(l.length:Int),false,())):=by
  refine s6 (st:=λk=>(l,n,l,(l.length:Int),(k:Int),())) (n:=l.length) (by unfold NN;omega) ?_ ?_
  ·intro k hk;unfold gH
   (with_reducible refine dI (λZ9=>?_) λZ9=>?_)
   ·rw[dO];refine Ok.get (by omega) λx hx=>?_;rw[Fh hs (h x (dU hx))]
    (simp (disch:=omega) only [dR,ek,dY,dT])
    exact Ok.ret rfl
   ·omega
  ·unfold gH
   (with_reducible refine dI (λZ9=>?_) λZ9=>?_)
   ·omega
   ·exact Ok.ret rfl
 refine ff ?_;unfold fH;delta dQ
 try dsimp only
 rw[e];exact Ok.ret (congrArg (λb=>(b,())) (oDT hn))
def PW(d:List (List DCn))(o:DOp):Prop:=(o.1=-1/\o.2.1=0/\o.2.2=false)\/(0<=o.1/\∃x,d[o.1.toNat]?=some x/\0<=o.2.1/\o.2.1<=x.length)
structure fU (ss:List Int)(d:List (List DCn))(os:List DOp):Prop where
 dlen:d.length<=4
 flen:∀x∈d,x.length<=64
 cells:∀x∈d,∀c∈x,Pr ss c
 olen:os.length=8
 opens:∀o∈os,PW d o
theorem Ay{ss:List Int}{d:List (List DCn)}{os:List DOp}(hs:At ss)(h:fU ss d os):kx d os=some (true,()):=by
 obtain⟨h1,h2,h3,h4,h5⟩:=h
 have e0:dZ jJ NN (d,(d.length:Int),0,d,os,())=some (.inr (d,(d.length:Int),(d.length:Int),false,d,os,())):=by
  refine s6 (st:=λk=>(d,(d.length:Int),(k:Int),d,os,())) (n:=d.length) (by unfold NN;omega) ?_ ?_
  ·intro k hk;unfold jJ;dsimp only
   (with_reducible refine dI (λZ9=>?_) λZ9=>?_)
   ·rw[dO];simp only[oBS];refine Ok.get (by omega) λx hx=>?_;have:=h2 x (dU hx);rw[m9 hs (h3 x (dU hx)) (by omega) (by omega)];simp only[oBS,oNT,oCF]
    (simp (disch:=omega) only [dR,ek,dY,dT])
    exact Ok.ret rfl
   ·omega
  ·unfold jJ;dsimp only
   (with_reducible refine dI (λZ9=>?_) λZ9=>?_)
   ·omega
   ·exact Ok.ret rfl
 have e2:dZ mf NN (os,8,0,d,os,())=some (.inr (os,8,8,false,d,os,())):=by
  refine s6 (st:=λk=>(os,8,(k:Int),d,os,())) (n:=8) (by unfold NN;omega) ?_ ?_
  ·intro k hk;unfold mf;dsimp only
   (with_reducible refine dI (λZ9=>?_) λZ9=>?_)
   ·rw[dO];simp only[oBS];refine Ok.get (by omega) λx hx=>?_;obtain⟨f,o,w⟩:=x;refine Ok.bind (P:=(·=(os,8,(k:Int),false,d,os,f,o,w,()))) ?_ ?_
    ·rcases h5 _ (dU hx)with⟨g1,g2,g3⟩|⟨g1,y,g2,g3,g4⟩
     ·have g1:f=-1:=g1;have g2:o=0:=g2;have g3:w=false:=g3;subst g1 g2 g3;dsimp only;refine dK rfl (Ok.cond (λh=>by cases h) λ_=>Ok.cond (λh=>by cases h) λ_=>Ok.cond (λh=>by cases h) λ_=>Ok.cond (λh=>?_) λ_=>Ok.cond (λh=>by cases h) λ_=>Ok.ret rfl);have h:(-1:Int)>=(d.length:Int):=of_decide_eq_true h;omega
     ·dsimp only at g1 g2 g3 g4⊢;have hl:=(oGS g2).1;rw[show(f==-1)=false by rw[beq_eq_false_iff_ne];omega,oDF (show ¬f < -1 by omega)];simp only[oCF];refine Ok.cond (λh=>?_) λ_=>dK (oDT g1) ?_
      ·have h:f>=(d.length:Int):=of_decide_eq_true h;omega
      ·rw[oDF (show ¬o<0 by omega)];simp only[oCF];refine Ok.nat g1 λj hj=>?_;refine Ok.get (by omega) λz hz=>?_
       have hjj:j=f.toNat:=by omega
       subst hjj;rw[g2]at hz
       injection hz with hz
       subst hz;exact Ok.ret (by rw[oDF (show ¬o>dQ y.length from λh=>by rw[dT]at h;omega)])
    ·rintro _ rfl;dsimp only;simp only[oCF]
     (simp (disch:=omega) only [dR,ek,dY,dT])
     exact Ok.ret rfl
   ·omega
  ·exact Ok.ret rfl
 refine ff ?_;unfold kx;delta dQ
 try dsimp only
 (with_reducible refine dI (λZ9=>?_) λZ9=>?_)
 ·omega
 ·rw[h4];rw[e0];dsimp only;rw[h4,show((8:Nat):Int)=8 from rfl,e2];exact Ok.ret rfl
def Re(ss:List Int)(i:Nat)(x:DOu):Prop:=x.1=i/\0<=x.2.1/\x.2.1<2/\x.2.2.length<=16/\∀c∈x.2.2,Pr ss c
structure zt (ss:List Int)(ck rn:List Int)(ins:List (List Int))(d:List (List DCn))(os:List DOp)(us:List DOu):Prop where
 clock:ck.length<=64/\∀w∈ck,W16 w
 rand:rn.length<=64/\∀w∈rn,W16 w
 ilen:ins.length<=2
 inp:∀x∈ins,x.length<=64/\∀w∈x,W16 w
 files:fU ss d os
 ulen:us.length<=200
 outs:∀(i:Nat) x,us[i]?=some x->Re ss i x
theorem IJ{ss:List Int}{us:List DOu}(hl:us.length<=200)(h:∀(i:Nat) x,us[i]?=some x->Re ss i x):kv us=some (true,()):=by
 have e:dZ iC NN (us,(us.length:Int),0,())=some (.inr (us,(us.length:Int),(us.length:Int),false,())):=by
  refine s6 (st:=λk=>(us,(us.length:Int),(k:Int),())) (n:=us.length) (by unfold NN;omega) ?_ ?_
  ·intro k hk;unfold iC
   (with_reducible refine dI (λZ9=>?_) λZ9=>?_)
   ·rw[dO];refine Ok.get (by omega) λx hx=>?_;have ⟨g1,g2,g3,g4,g5⟩:=h k x hx;rw[g1,oDF (show ¬x.2.1<0 by omega),oDF (show ¬x.2.1>=2 by omega)];simp;refine Ok.cond (λh=>?_) λ_=>?_
    ·have h:(x.2.2.length:Int)>16:=of_decide_eq_true h;omega
    ·(simp (disch:=omega) only [dR,ek,dY,dT])
     exact Ok.ret rfl
   ·omega
  ·unfold iC
   (with_reducible refine dI (λZ9=>?_) λZ9=>?_)
   ·omega
   ·exact Ok.ret rfl
 refine ff ?_;unfold kv;delta dQ
 try dsimp only
 rw[e];exact Ok.ret rfl
theorem uS{ss ck rn:List Int}{ins:List (List Int)}{d:List (List DCn)}{os:List DOp}{us:List DOu}(hs:At ss)(h:zt ss ck rn ins d os us):jg ck rn ins d os us=some (true,()):=by
 have e0:dZ jI NN (ins,(ins.length:Int),0,ck,rn,ins,d,os,us,())=some (.inr (ins,(ins.length:Int),(ins.length:Int),false,ck,rn,ins,d,os,us,())):=by
  refine s6 (st:=λk=>(ins,(ins.length:Int),(k:Int),ck,rn,ins,d,os,us,())) (n:=ins.length) (by unfold NN;have:=h.ilen;omega) ?_ ?_
  ·intro k hk;have YN:=h.ilen;unfold jI;dsimp only
   (with_reducible refine dI (λZ9=>?_) λZ9=>?_)
   ·rw[dO];delta dQ;simp only[oBS];refine Ok.get (by omega) λx hx=>?_;have:=(h.inp x (dU hx)).1
    (with_reducible refine dI (λZZ=>?_) λZZ=>?_)
    ·omega
    ·(simp (disch:=omega) only [dR,ek,dY,dT])
     exact Ok.ret rfl
   ·omega
  ·unfold jI;dsimp only
   (with_reducible refine dI (λZ9=>?_) λZ9=>?_)
   ·omega
   ·exact Ok.ret rfl
 have e1:dZ jH NN (us,(us.length:Int),0,ck,rn,ins,d,os,us,())=some (.inr (us,(us.length:Int),(us.length:Int),false,ck,rn,ins,d,os,us,())):=by
  refine s6 (st:=λk=>(us,(us.length:Int),(k:Int),ck,rn,ins,d,os,us,())) (n:=us.length) (by unfold NN;have:=h.ulen;omega) ?_ ?_
  ·intro k hk;have hul:=h.ulen;unfold jH;dsimp only
   (with_reducible refine dI (λZ9=>?_) λZ9=>?_)
   ·rw[dO];simp only[oBS];refine Ok.get (by omega) λx hx=>?_;obtain⟨_,_,_,g4,g5⟩:=h.outs k x hx;rw[m9 hs g5 (by omega) (by omega)]
    (simp (disch:=omega) only [dR,ek,dY,dT])
    exact Ok.ret rfl
   ·omega
  ·unfold jH;dsimp only
   (with_reducible refine dI (λZ9=>?_) λZ9=>?_)
   ·omega
   ·exact Ok.ret rfl
 have c1:=h.clock.1;have c2:=h.rand.1;have c3:=h.ilen;have c4:=h.ulen;refine ff ?_;unfold jg;delta dQ
 try dsimp only
 rw[e0];dsimp only;rw[e1];dsimp only;refine dK (oDT (show(ck.length:Int)<=64 by omega)) (dK (oDT (show(rn.length:Int)<=64 by omega)) (dK (oDT (show(ins.length:Int)<=2 by omega)) ?_));rw[Ay hs h.files];refine dK (oDT (show(us.length:Int)<=200 by omega)) ?_;rw[IJ h.ulen h.outs];exact Ok.ret rfl
def pU:List DOp:=List.replicate 8 (-1,0,false)
theorem MU(a:List (List Int)):dZ sA NN (a,8,0,(),(),(),List.replicate 8 (0,(0,false)),())=some (a,8,8,false,(),(),(),pU,()):=by
 rfl
theorem M0{ss:List Int}{a:List (List Int)}(hs:At ss)(hl:a.length<=4)(h:∀x∈a,x.length<=64/\∀w∈x,W16 w):Ok (pA a) λr=>∃d,r=(d,pU,0,())/\fU ss d pU:=by
 unfold pA;refine dK (by decide) ?_;dsimp only;rw[show dQ (List.replicate 8 ((0:Int),((0:Int),false))).length=8 from rfl,MU];delta dQ;simp only[oBS]
 refine Ok.loop (P:=λs'=>∃k:Nat,∃d,s'=(a,(a.length:Int),(k:Int),(),(),d,pU,())/\k<=a.length/\d.length=k/\(∀x∈d,x.length<=64)/\∀x∈d,∀c∈x,Pr ss c)
  (R:=λr=>∃e b c f d,r=(e,b,c,f,(),(),d,pU,())/\d.length<=4/\(∀x∈d,x.length<=64)/\∀x∈d,∀c∈x,Pr ss c) (m:=λs'=>(s'.2.1-s'.2.2.1).toNat) ⟨0,[],rfl,by omega,rfl,eG,eG⟩ (by unfold NN;dsimp only;omega) ?_ ?_
 ·rintro _ ⟨k,d,rfl,hk,YL,hd2,XT⟩;unfold sx;dsimp only
  (with_reducible refine dI (λZ9=>?_) λZ9=>?_)
  ·rw[dO];delta dQ;simp only[oBS];refine Ok.get (by omega) λx hx=>?_;obtain⟨Z1,X9⟩:=h x (dU hx)
   refine Ok.loop (P:=λs'=>∃j:Nat,∃l,s'=(a,(a.length:Int),(k:Int),x,(x.length:Int),(j:Int),(),(),d,pU,l,())/\j<=x.length/\l.length=j/\∀c∈l,Pr ss c)
    (R:=λr=>∃b c e f l,r=(a,(a.length:Int),(k:Int),b,c,e,f,(),(),d,pU,l,())/\l.length<=64/\∀c∈l,Pr ss c) (m:=λs'=>(s'.2.2.2.2.1-s'.2.2.2.2.2.1).toNat) ⟨0,[],rfl,by omega,rfl,eG⟩ (by unfold NN;dsimp only;omega) ?_ ?_
   ·rintro _ ⟨j,l,rfl,hj,Xy,Yh⟩;unfold sy;dsimp only
    (with_reducible refine dI (λZZ=>?_) λZZ=>?_)
    ·rw[dO];simp only[oBS];refine Ok.get (by omega) λv hv=>?_;refine dK (ee (by simp;omega)) ?_
     (simp (disch:=omega) only [dR,ek,dY,dT])
     exact Ok.ret ⟨⟨j+1,_,rfl,by omega,by rw[ft,Xy];rfl,ir Yh (all_cons (.inl ⟨.inl rfl,rfl,rfl,X9 v (dU hv)⟩) eG)⟩,by dsimp only;omega⟩
    ·exact Ok.ret ⟨_,_,_,_,_,rfl,by omega,Yh⟩
   ·rintro _ ⟨b,c,e,f,l,rfl,Xy,Yh⟩;dsimp only;refine dK (ee (by simp;omega)) ?_
    (simp (disch:=omega) only [dR,ek,dY,dT])
    exact Ok.ret ⟨⟨k+1,_,rfl,by omega,by rw[ft,YL];rfl,ir hd2 (all_cons Xy eG),ir XT (all_cons Yh eG)⟩,by dsimp only;omega⟩
  ·exact Ok.ret ⟨_,_,_,_,_,rfl,by omega,hd2,XT⟩
 ·rintro _ ⟨e,b,c,f,d,rfl,YL,hd2,XT⟩;have hf:fU ss d pU:=⟨YL,hd2,XT,rfl,λo ho=>by rw[List.eq_of_mem_replicate ho];exact .inl ⟨rfl,rfl,rfl⟩⟩;dsimp only;rw[Ay hs hf];exact Ok.ret ⟨d,rfl,hf⟩
theorem yW{a:List (List Int)}(hl:a.length<=1000)(h:∀x∈a,x.length<=1000):fV a=some (a,()):=by
 have e:dZ fR NN (a,(a.length:Int),0,[],())=some (a,(a.length:Int),(a.length:Int),false,a,()):=by
  have:=s6 (f:=fR) (N:=NN) (st:=λk=>(a,(a.length:Int),(k:Int),a.take k,())) (n:=a.length) (t:=(a,(a.length:Int),(a.length:Int),false,a,())) (by unfold NN;omega) ?_ ?_
  ·exact this
  ·intro k hk;unfold fR
   (with_reducible refine dI (λZ9=>?_) λZ9=>?_)
   ·rw[dO];refine Ok.get (by omega) λx hx=>?_;have:=h x (dU hx);refine dK (ee (by omega)) (dK (ee (by simp;omega)) ?_)
    (simp (disch:=omega) only [dR,ek,dY,dT])
    refine Ok.ret ?_;rw[List.take_add_one,hx];rfl
   ·omega
  ·unfold fR
   (with_reducible refine dI (λZ9=>?_) λZ9=>?_)
   ·omega
   ·rw[List.take_length];exact Ok.ret rfl
 refine ff ?_;unfold fV;delta dQ
 try dsimp only
 rw[e];exact Ok.ret rfl
theorem II{ss l:List Int}{k:Int}(hs:At ss)(h:DOk l k):Ok (lI l k) λr=>∃ck rn ins d os k',r=(ck,rn,ins,d,os,(),l,k',())/\zt ss ck rn ins d os []/\DOk l k':=by
 unfold lI;refine(pt h (by decide)).bind ?_;rintro _ ⟨w1,k1,rfl,h1,g1,d1⟩;refine(pt d1 (by decide)).bind ?_;rintro _ ⟨w2,k2,rfl,h2,g2,d2⟩;dsimp only;refine(pt d2 (by decide)).bind ?_;rintro _ ⟨w3,k3,rfl,h3,g3,d3⟩;dsimp only;refine(pt d3 (by decide)).bind ?_;rintro _ ⟨w4,k4,rfl,h4,g4,d4⟩;dsimp only;refine(pt d4 (by decide)).bind ?_;rintro _ ⟨w5,k5,rfl,h5,g5,d5⟩;dsimp only;refine(pt d5 (by decide)).bind ?_;rintro _ ⟨w6,k6,rfl,h6,g6,d6⟩;dsimp only;refine Ok.bind (P:=λr=>∃ck rn ins d os,r=(ck,rn,ins,d,os,(),0,())/\zt ss ck rn ins d os []) ?_ ?_
 ·unfold pz;refine(M0 (ss:=ss) (a:=[w1,w2]) hs (by simp) (all_cons ⟨by omega,g1⟩ (all_cons ⟨by omega,g2⟩ eG))).bind ?_;rintro _ ⟨d,rfl,hf⟩;refine Ok.cond (λh=>by cases h) λ_=>?_;refine dK (ee (by omega)) (dK (ee (by omega)) ?_);have ho:zt ss w5 w6 [w3,w4] d pU []:=⟨⟨by omega,g5⟩,⟨by omega,g6⟩,by simp,all_cons ⟨by omega,g3⟩ (all_cons ⟨by omega,g4⟩ eG),hf,by simp,λi x hx=>by simp_all⟩;rw[yW (by simp) (all_cons (by omega) (all_cons (by omega) eG))];simp only[oBS];rw[show List.append [] w5=w5 from rfl,show List.append [] w6=w6 from rfl,uS hs ho];exact Ok.ret ⟨_,_,_,_,_,rfl,ho⟩
 ·rintro _ ⟨ck,rn,ins,d,os,rfl,ho⟩;exact Ok.ret ⟨_,_,_,_,_,_,rfl,ho,d6⟩
theorem Ec{ss:List Int}{r o n:Int}(h1:0<=r)(h2:ss[r.toNat]?=some n)(h3:0<=o)(h4:o<n):gj ss r o=some (true,()):=by
 refine ff ?_;have hl:=(oGS h2).1;refine dK (oDT h1) (dK (oDT (show r<(ss.length:Int) by omega)) (dK (oDT h3) ?_));obtain⟨j,rfl⟩:∃j:Nat,r=j:=⟨r.toNat,by omega⟩;rw[dO];simp;rw[show dM ss j=some n from h2];exact Ok.ret (by simp_all)
theorem pK{ss:List Int}{c:DCn}(h:Pr ss c):iy ss c.1 c.2.1 c.2.2.1 c.2.2.2=some (true,()):=by
 refine ff ?_;unfold iy
 rcases h with⟨h1,h2,h3,_⟩|⟨h1,h2,h3,n,h4,h5,h6⟩
 ·rw[h2,h3]
  rcases h1 with h1|h1<;>rw[h1]<;>exact Ok.ret rfl
 ·rw[h1,h2,Ec h3 h4 h5 h6];exact Ok.ret rfl
theorem FN{ss:List Int}{d:List (List DCn)}{os:List DOp}(h:fU ss d os):lA ss d os=some (true,()):=by
 obtain⟨h1,h2,h3,h4,h5⟩:=h
 have e0:dZ jd NN (ss,d,(d.length:Int),0,d,os,())=some (.inr (ss,d,(d.length:Int),(d.length:Int),false,d,os,())):=by
  refine s6 (st:=λk=>(ss,d,(d.length:Int),(k:Int),d,os,())) (n:=d.length) (by unfold NN;omega) ?_ ?_
  ·intro k hk;unfold jd;dsimp only
   (with_reducible refine dI (λZ9=>?_) λZ9=>?_)
   ·rw[dO];delta dQ;refine Ok.get (by omega) λx hx=>?_;have Z1:=h2 x (dU hx)
    have e:dZ je NN (ss,d,(d.length:Int),(k:Int),x,(x.length:Int),0,d,os,())=some (.inr (ss,d,(d.length:Int),(k:Int),x,(x.length:Int),(x.length:Int),false,d,os,())):=by
     refine s6 (st:=λj=>(ss,d,(d.length:Int),(k:Int),x,(x.length:Int),(j:Int),d,os,())) (n:=x.length) (by unfold NN;omega) ?_ ?_
     ·intro j hj;unfold je
      (with_reducible refine dI (λZ9=>?_) λZ9=>?_)
      ·rw[dO];refine Ok.get (by omega) λy hy=>?_;rw[pK (h3 x (dU hx) y (dU hy))]
       (simp (disch:=omega) only [dR,ek,dY,dT])
       exact Ok.ret rfl
      ·omega
     ·unfold je
      (with_reducible refine dI (λZ9=>?_) λZ9=>?_)
      ·omega
      ·exact Ok.ret rfl
    rw[e];dsimp only
    (simp (disch:=omega) only [dR,ek,dY,dT])
    exact Ok.ret rfl
   ·omega
  ·unfold jd;dsimp only
   (with_reducible refine dI (λZ9=>?_) λZ9=>?_)
   ·omega
   ·exact Ok.ret rfl
 refine ff ?_;unfold lA;delta dQ
 try dsimp only
 rw[e0];exact Ok.ret rfl
theorem copy17_ok{d:List (List DCn)}{os:List DOp}(h1:d.length<=1000)(h2:∀x∈d,x.length<=1000)(h3:os.length<=1000):gK d os=some (d,os,()):=by
 have e:dZ iM NN (d,(d.length:Int),0,d,os,(),(),[],os,())=some (d,(d.length:Int),(d.length:Int),false,d,os,(),(),d,os,()):=by
  have:=s6 (f:=iM) (N:=NN) (st:=λk=>(d,(d.length:Int),(k:Int),d,os,(),(),d.take k,os,())) (n:=d.length) (t:=(d,(d.length:Int),(d.length:Int),false,d,os,(),(),d,os,())) (by unfold NN;omega) ?_ ?_
  ·exact this
  ·intro k hk;unfold iM
   (with_reducible refine dI (λZ9=>?_) λZ9=>?_)
   ·rw[dO];refine Ok.get (by omega) λx hx=>?_;have:=h2 x (dU hx);refine dK (ee (by omega)) (dK (ee (by simp;omega)) ?_)
    (simp (disch:=omega) only [dR,ek,dY,dT])
    refine Ok.ret ?_;rw[List.take_add_one,hx];rfl
   ·omega
  ·unfold iM
   (with_reducible refine dI (λZ9=>?_) λZ9=>?_)
   ·omega
   ·rw[List.take_length];exact Ok.ret rfl
 refine ff ?_;refine dK (ee (by omega)) ?_;rw[show List.append [] os=os from rfl];delta dQ
 try dsimp only
 rw[e];exact Ok.ret rfl
theorem Fc{us:List DOu}(h1:us.length<=1000)(h2:∀x∈us,x.2.2.length<=1000):jY us=some (us,()):=by
 have e:dZ iL NN (us,(us.length:Int),0,[],())=some (us,(us.length:Int),(us.length:Int),false,us,()):=by
  have:=s6 (f:=iL) (N:=NN) (st:=λk=>(us,(us.length:Int),(k:Int),us.take k,())) (n:=us.length) (t:=(us,(us.length:Int),(us.length:Int),false,us,())) (by unfold NN;omega) ?_ ?_
  ·exact this
  ·intro k hk;unfold iL
   (with_reducible refine dI (λZ9=>?_) λZ9=>?_)
   ·rw[dO];refine Ok.get (by omega) λx hx=>?_;have:=h2 x (dU hx);refine dK (ee (by omega)) (dK (ee (by simp;omega)) ?_)
    (simp (disch:=omega) only [dR,ek,dY,dT])
    refine Ok.ret ?_;rw[List.take_add_one,hx];rfl
   ·omega
  ·unfold iL
   (with_reducible refine dI (λZ9=>?_) λZ9=>?_)
   ·omega
   ·rw[List.take_length];exact Ok.ret rfl
 refine ff ?_;unfold jY;delta dQ
 try dsimp only
 rw[e];exact Ok.ret rfl
theorem Fb{ss ck rn:List Int}{ins:List (List Int)}{d:List (List DCn)}{os:List DOp}{us:List DOu}(h:zt ss ck rn ins d os us):nV ck rn ins d os us=some (ck,rn,ins,d,os,us,()):=by
 have h1:=h.clock.1;have h2:=h.rand.1;have h3:=h.ilen;have h4:=h.ulen;have h5:=h.files.olen;have h6:=h.files.dlen;refine ff ?_;refine dK (ee (by omega)) (dK (ee (by omega)) ?_)
 rw[yW (by omega) (λx hx=>by have:=(h.inp x hx).1;omega),copy17_ok (by omega) (λx hx=>by have:=h.files.flen x hx;omega) (by omega),Fc (by omega) (λx hx=>by
  have ⟨i,hi⟩:=List.getElem?_of_mem hx;have:=(h.outs i x hi).2.2.2.1
  omega)]
 exact Ok.ret rfl
theorem K2:sW=some ([-1,-1,-1,-1],[[],[],[],[]],()):=by kernel_rfl
structure i8 (ow:List Int)(qs:List (List Int)):Prop where
 olen:ow.length=4
 qlen:qs.length=4
 owner:∀o∈ow,-1<=o/\o<=3
 queue:∀q∈qs,q.Nodup/\∀t∈q,0<=t/\t<=3
theorem KT:∀{n:Nat}{q:List Int},q.Nodup->(∀t∈q,0<=t/\t<n)->q.length<=n:=by
 intro n
 induction n with
 |zero=>
  intro q _ h
  cases q with
  |nil=>simp
  |cons x q=>have:=h x (by simp);omega
 |succ n ih=>
  intro q hq h;have h1:(q.erase (n:Int)).Nodup:=hq.erase _
  have h2:∀t∈q.erase (n:Int),0<=t/\t<n:=λt ht=>by
   have hm:=(hq.mem_erase_iff).1 ht;have:=h t hm.2;omega
  have h3:=ih h1 h2;have h4:=List.length_erase (a:=(n:Int)) (l:=q);split at h4<;>omega
theorem i8.qlen4{ow:List Int}{qs:List (List Int)}(h:i8 ow qs){q:List Int}(hq:q∈qs):q.length<=4:=KT (h.queue q hq).1 λt ht=>by have:=(h.queue q hq).2 t ht;omega
theorem Qt:i8 [-1,-1,-1,-1] [[],[],[],[]]:=⟨rfl,rfl,by decide,by decide⟩
theorem NL{code:List DIn}{ss bs:List Int}{dt:List (List Int)}{key:Int}{ck rn:List Int}{ins:List (List Int)}{d:List (List DCn)}{os:List DOp}{us:List DOu}(hp:nQ code ss dt)(hl:LV bs ss)(ho:zt ss ck rn ins d os us):
 Ok (py code ss dt bs key ck rn ins d os us) λr=>∃cs ts,r=(code,ss,dt,bs,key,cs,iA,ts,ck,rn,ins,d,os,us,[-1,-1,-1,-1],[[],[],[],[]],(),[-1,-1,-1,-1],0,())/\MOk 0 ss bs cs iA ts:=by
 refine(Mh hp hl).bind ?_;rintro _ ⟨cs,ts,rfl,hm⟩;rw[uS hp.sz ho,FN ho.files,Fb ho,K2];exact Ok.ret ⟨cs,ts,rfl,hm⟩
theorem QX.len{K:Int->Prop}{i:Nat}{x:DLn}(h:QX K i x):x.2.2.length<=4:=by
 rcases h with⟨_,_,h⟩|⟨_,_,_,h,_⟩
 ·simp_all
 ·omega
theorem LF{K:Int->Prop}{cs:List DCe}{ls:List DLn}(h:lz K cs ls):oc cs ls=some (cs,ls,()):=by
 obtain⟨h1,h2,h3,h4,_⟩:=h
 have e:dZ iU NN (ls,(ls.length:Int),0,cs,ls,(),(),cs,[],())=some (ls,(ls.length:Int),(ls.length:Int),false,cs,ls,(),(),cs,ls,()):=by
  have:=s6 (f:=iU) (N:=NN) (st:=λk=>(ls,(ls.length:Int),(k:Int),cs,ls,(),(),cs,ls.take k,())) (n:=ls.length) (t:=(ls,(ls.length:Int),(ls.length:Int),false,cs,ls,(),(),cs,ls,())) (by unfold NN;omega) ?_ ?_
  ·exact this
  ·intro k hk;unfold iU
   (with_reducible refine dI (λZ9=>?_) λZ9=>?_)
   ·rw[dO];refine Ok.get (by omega) λx hx=>?_;have:=(h4 k x hx).len;refine dK (ee (by omega)) (dK (ee (by simp;omega)) ?_)
    (simp (disch:=omega) only [dR,ek,dY,dT])
    refine Ok.ret ?_;rw[List.take_add_one,hx];rfl
   ·omega
  ·unfold iU
   (with_reducible refine dI (λZ9=>?_) λZ9=>?_)
   ·omega
   ·rw[List.take_length];exact Ok.ret rfl
 refine ff ?_;unfold oc;refine dK (ee (by omega)) ?_;rw[show List.append [] cs=cs from rfl];delta dQ
 try dsimp only
 rw[e];exact Ok.ret rfl
theorem ui{n key:Int}{ss bs:List Int}{cs:List DCe}{ls:List DLn}{ts:List DTh}(h:MOk n ss bs cs ls ts):iT bs key cs ls ts=some (bs,key,cs,ls,ts,()):=by
 obtain⟨h1,h2,h3,h4⟩:=h;have hb:=h1.2.1;have WL:=h1.1.2.1
 have e:dZ iS NN (ts,(ts.length:Int),0,bs,key,cs,ls,ts,(),0,(),(),(),bs,key,cs,ls,[],())=some (ts,(ts.length:Int),(ts.length:Int),false,bs,key,cs,ls,ts,(),0,(),(),(),bs,key,cs,ls,ts,()):=by
  have:=s6 (f:=iS) (N:=NN) (st:=λk=>(ts,(ts.length:Int),(k:Int),bs,key,cs,ls,ts,(),0,(),(),(),bs,key,cs,ls,ts.take k,())) (n:=ts.length) (t:=(ts,(ts.length:Int),(ts.length:Int),false,bs,key,cs,ls,ts,(),0,(),(),(),bs,key,cs,ls,ts,())) (by unfold NN;omega) ?_ ?_
  ·exact this
  ·intro k hk;unfold iS;dsimp only
   (with_reducible refine dI (λZ9=>?_) λZ9=>?_)
   ·rw[dO];refine Ok.get (by omega) λx hx=>?_;have:=(h4 x (dU hx)).len;refine dK (ee (by omega)) (dK (ee (by simp;omega)) ?_)
    (simp (disch:=omega) only [dR,ek,dY,dT])
    refine Ok.ret ?_;rw[List.take_add_one,hx];rfl
   ·omega
  ·unfold iS
   (with_reducible refine dI (λZ9=>?_) λZ9=>?_)
   ·omega
   ·rw[List.take_length];exact Ok.ret rfl
 refine ff ?_;unfold iT;refine dK (ee (by omega)) ?_;rw[LF h2,show List.append [] bs=bs from rfl];delta dQ;simp;rw[e];exact Ok.ret rfl
theorem r9{α:Type}{l:List α}{i:Nat}{f:α->α}{a:α}(h:l[i]?=some a):(List.modify l i f)[i]?=some (f a):=by simp_all
theorem jm{α:Type}(l:List α)(i:Nat)(f g:α->α):List.modify (List.modify l i f) i g=List.modify l i λa=>g (f a):=by
 apply List.ext_getElem?
 grind
theorem MOk.thread{n:Int}{ss bs:List Int}{cs:List DCe}{ls:List DLn}{ts:List DTh}(h:MOk n ss bs cs ls ts){i:Nat}{t:DTh}{f:DTh->DTh}(ht:ts[i]?=some t)(hf:zr (RK bs ss) n (f t)):MOk n ss bs cs ls (List.modify ts i f):=by
 refine⟨h.lay,h.mem,by rw[oLM];exact h.tlen,λx hx=>?_⟩;have ⟨j,hj⟩:=List.getElem?_of_mem hx;by_cases hij:i=j
 ·simp_all
 ·simp[hij]at hj
  have:ts[j]?=some x:=by simp_all
  exact h.thr x (dU this)
theorem Of{n key:Int}{ss bs:List Int}{cs:List DCe}{ls:List DLn}{ts:List DTh}(h:MOk n ss bs cs ls ts)(i:Int):Ok (ni bs key cs ls ts i) λr=>r.1=true->0<=i/\i<4/\∀t,ts[i.toNat]?=some t->t.2.2.2.2.1≠-1:=by
 unfold ni;delta dQ;have:=h.tlen
 (with_reducible refine dI (λZ9=>?_) λZ9=>?_)
 ·exact Ok.ret (λh=>by cases h)
 ·(with_reducible refine dI (λZZ=>?_) λZZ=>?_)
  ·exact Ok.ret (λh=>by cases h)
  ·refine Ok.nat (by omega) λj hj=>?_;refine Ok.get (by omega) λt ht=>?_;subst hj
   (with_reducible refine dI (λhcc=>?_) λhcc=>?_)
   ·(with_reducible refine dI (λXe=>?_) λXe=>?_)
    ·exact Ok.ret (λ_=>⟨by omega,by omega,λt' ZL=>by
      rw[oTN,ht]at ZL
      injection ZL with ZL
      rw[<- ZL]
      exact Xe⟩)
    ·exact Ok.ret (λh=>by cases h)
   ·exact Ok.ret (λh=>by cases h)
theorem Ow{n Xb:Int}{ts:List DTh}{i:Nat}{t:DTh}(ht:ts[i]?=some t):fJ i Xb ts=some (2,List.modify ts i λt=>(4,t.2.1,t.2.2.1,t.2.2.2.1,t.2.2.2.2.1,t.2.2.2.2.2.1,Xb,0),()):=by
 refine ff ?_;have hl:=(oGS ht).1;refine Ok.get hl λ_ _=>?_;refine Ok.get (by simp_all) λ_ _=>?_;refine Ok.get (by simp_all) λ_ _=>?_;rw[jm,jm];exact Ok.ret rfl
theorem zr.ended{K:Int->Prop}{n Xb:Int}{t:DTh}(h:zr K n t)(hw:0<=Xb/\Xb<=6):zr K n (4,t.2.1,t.2.2.1,t.2.2.2.1,t.2.2.2.2.1,t.2.2.2.2.2.1,Xb,0):=
 ⟨⟨by omega,by omega⟩,h.len,h.regs,h.pc,h.count,h.handler,h.saved,hw,⟨by simp_all,by simp_all⟩⟩
theorem u7{ss bs:List Int}{key a:Int}(h:LV bs ss)(ha:0<=a/\a<=65535):Ok (fC bs key ss a) λr=>(r.2.2.1=true->∃b n,0<=r.1/\bs[r.1.toNat]?=some b/\ss[r.1.toNat]?=some n/\0<=r.2.1/\r.2.1<n/\a=b+r.2.1):=by
 obtain⟨hs,hl,hr⟩:=h;have WL:=hs.2.1;unfold fC;delta dQ
 try dsimp only
 obtain⟨t,e,ht⟩:=iv (f:=eQ) (n:=NN) (s:=(ss,a,bs,(bs.length:Int),0,bs,key,0,0,())) (P:=λs'=>∃k:Nat,s'=(ss,a,bs,(bs.length:Int),(k:Int),bs,key,0,0,())/\k<=bs.length)
  (R:=λr=>(∃x y,r=.inl (true,x,y,())/\∃b n,0<=x/\bs[x.toNat]?=some b/\ss[x.toNat]?=some n/\0<=y/\y<n/\a=b+y)\/∃z,r=.inr z) (m:=λs'=>(s'.2.2.2.1-s'.2.2.2.2.1).toNat) ⟨0,rfl,by omega⟩ (by unfold NN;dsimp only;omega) (by
   rintro _ ⟨k,rfl,hk⟩;unfold eQ;dsimp only
   (with_reducible refine dI (λZ9=>?_) λZ9=>?_)
   ·rw[dO];simp only[oBS];obtain⟨b,hb⟩:∃b,bs[k]?=some b:=⟨_,oGE (by omega)⟩;obtain⟨y,hy⟩:∃y,ss[k]?=some y:=⟨_,oGE (by omega)⟩;have WP:=hs.2.2 y (dU hy);have Vl:=hr k (by omega);unfold Au at Vl;rw[fO hb,fO hy]at Vl;rw[show dM bs k=some b from hb];rw[show dM ss k=some y from hy];simp only[oBS];rw[dR (x:=b+y) (by omega) (by omega)];by_cases h1:a>=b
    ·by_cases h2:a<b+y
     ·simp only[h1,h2,decide_true,oCT];rw[dR (x:=a-b) (by omega) (by omega)];exact Ok.ret (.inl ⟨_,_,rfl,b,y,by omega,by rw[oTN];exact hb,by rw[oTN];exact hy,by omega,by omega,by omega⟩)
     ·simp only[h1,h2,decide_true,decide_false,oCT,oCF]
      (simp (disch:=omega) only [dR,ek,dY,dT])
      exact Ok.ret ⟨⟨k+1,rfl,by omega⟩,by dsimp only;omega⟩
    ·simp only[h1,decide_false,oCF]
     (simp (disch:=omega) only [dR,ek,dY,dT])
     exact Ok.ret ⟨⟨k+1,rfl,by omega⟩,by dsimp only;omega⟩
   ·exact Ok.ret (.inr ⟨_,rfl⟩))
 rw[e]
 rcases ht with⟨x,y,rfl,WO⟩|⟨z,rfl⟩
 ·exact Ok.ret λ_=>WO
 ·exact Ok.ret λh=>by cases h
theorem AZ{ss:List Int}{r o:Int}:Ok (gj ss r o) λx=>x.1=true->0<=r/\0<=o/\∃n,ss[r.toNat]?=some n/\o<n:=by
 unfold gj;delta dQ
 (with_reducible refine dI (λZ9=>?_) λZ9=>?_)
 ·(with_reducible refine dI (λZZ=>?_) λZZ=>?_)
  ·(with_reducible refine dI (λhcc=>?_) λhcc=>?_)
   ·refine Ok.nat (by omega) λj hj=>?_;refine Ok.get (by omega) λn hn=>?_;exact Ok.ret λh=>⟨by omega,by omega,n,by simp_all,of_decide_eq_true h⟩
   ·exact Ok.ret λh=>by cases h
  ·exact Ok.ret λh=>by cases h
 ·exact Ok.ret λh=>by cases h
theorem yf{ss bs:List Int}{key tag v n:Int}{back:Bool}(h:LV bs ss)(hv:W16 v)(hn:W16 n):Ok (fS bs key ss tag v n back) λr=>∃t x e,r=(t,x,e,())/\oG (RK bs ss) (t,x)/\0<=e/\e<=6/\(e=0->x<512):=by
 have hz:∀e:Int,0<e->e<=6->∃t x e',((0:Int),(0:Int),e,())=(t,x,e',())/\oG (RK bs ss) (t,x)/\0<=e'/\e'<=6/\(e'=0->x<512):=λe h1 h2=>⟨0,0,e,rfl,ms (by decide),by omega,h2,by omega⟩;obtain⟨v0,v1⟩:=hv;obtain⟨n0,n1⟩:=hn;unfold fS
 (with_reducible refine dI (λZ9=>?_) λZ9=>?_)
 ·exact Ok.ret (hz 3 (by decide) (by decide))
 ·rw[dY (x:=v) (by omega) (by omega),dY (x:=n) (by omega) (by omega)];refine(u7 h ⟨v0,v1⟩).bind ?_;rintro⟨r,o,ok,_⟩ YW;dsimp only at YW⊢
  (with_reducible refine dI (λZZ=>?_) λZZ=>?_)
  ·exact Ok.ret (hz 4 (by decide) (by decide))
  ·obtain⟨b,z,hr0,hb,hzz,ho0,ho1,_⟩:=YW ZZ;have hz2:=h.1.2.2 z (dU hzz);refine Ok.bind (P:=λx=>∃o',x=(ss,bs,key,0,0,r,o',())/\-70000<=o'/\o'<=70000) ?_ ?_
   ·refine Ok.cond (λ_=>?_) λ_=>?_
    all_goals
     (simp (disch:=omega) only [dR,ek,dY,dT])
     exact Ok.ret ⟨_,rfl,by omega,by omega⟩
   rintro _ ⟨o',rfl,Xk,ho3⟩;dsimp only;refine AZ.bind ?_;rintro⟨q,_⟩ hin;dsimp only at hin⊢
   (with_reducible refine dI (λhcc=>?_) λhcc=>?_)
   ·exact Ok.ret (hz 4 (by decide) (by decide))
   ·obtain⟨_,g1,m,g2,g3⟩:=hin hcc;refine Ok.nat hr0 λj hj=>?_;subst hj;rw[oTN]at hb g2;have hjl:=(oGS hb).1;have R':=h.2.2 j hjl;unfold Au at R';rw[fO hb,fO g2]at R';rw[show dM bs j=some b from hb];simp only[oBS];rw[dR (x:=b+o') (by omega) (by omega),ek (x:=b+o') (by omega) (by omega)];exact Ok.ret ⟨_,_,_,rfl,⟨by dsimp only;omega,by dsimp only;omega,by dsimp only;omega,by dsimp only;omega,λ_=>⟨j,b,m,hb,g2,by dsimp only;omega,by dsimp only;omega⟩⟩,by decide,by decide,λ_=>by omega⟩
theorem lz.line{K:Int->Prop}{cs:List DCe}{ls:List DLn}(h:lz K cs ls){i:Nat}{x:DLn}{f:DLn->DLn}(hx:ls[i]?=some x)(hf:QX K i (f x))(hg:Rg cs (f x)):lz K cs (List.modify ls i f):=by
 have key:∀(j:Nat) y,(List.modify ls i f)[j]?=some y->QX K j y/\Rg cs y:=λj y hy=>by
  by_cases hij:i=j
  ·simp_all
  ·simp[hij]at hy;exact⟨h.lines j y (by simp_all),h.coh j y (by simp_all)⟩
 exact⟨h.clen,h.cells,by rw[oLM];exact h.llen,λj y hy=>(key j y hy).1,λj y hy=>(key j y hy).2⟩
theorem Il{cs xs:List DCe}{lo k:Nat}(h1:lo+4<=cs.length)(h3:4<=xs.length)(hk:k<lo\/lo+4<=k):(qQ cs lo 4 xs)[k]?=cs[k]?:=by
 unfold qQ;rcases hk with hk|hk
 ·rw[List.append_assoc,List.getElem?_append_left (by rw[oLT];omega),List.getElem?_take_of_lt hk]
 ·rw[List.getElem?_append_right (by simp;omega),List.getElem?_drop];congr 1;simp;omega
theorem JL{K:Int->Prop}{cs xs:List DCe}{lo n:Nat}(h1:cs.length=512)(h2:lo+n<=512)(h3:n<=xs.length)(hc:∀c∈cs,oG K c)(hx:∀c∈xs,oG K c):(qQ cs lo n xs).length=512/\∀c∈qQ cs lo n xs,oG K c:=by
 unfold qQ;refine⟨?_,λc hh=>?_⟩
 ·simp;omega
 ·simp only[List.mem_append]at hh
  rcases hh with(hh|hh)|hh
  ·exact hc c (List.mem_of_mem_take hh)
  ·exact hx c (List.mem_of_mem_take hh)
  ·exact hc c (List.mem_of_mem_drop hh)
theorem HK{K:Int->Prop}{cs:List DCe}{ls:List DLn}{a:Int}(h:lz K cs ls)(ha:0<=a/\a<512):Ok (kG a cs ls) λr=>∃i Z3 Z0 x,r=(i,Z3,Z0,())/\lz K Z3 Z0/\Z0[i]?=some x/\x.1=a/4/\x.2.2.length=4:=by
 obtain⟨a0,a1⟩:=ha;obtain⟨h1,h2,h3,h4,h5⟩:=id h;unfold kG;rw[Int.tdiv_eq_ediv_of_nonneg a0,dR (x:=a/4) (by omega) (by omega)];dsimp only;rw[Int.tmod_eq_emod_of_nonneg (show 0<=a/4 by omega)];refine Ok.nat (by omega) λi hi=>?_
 have YN:i<ls.length:=by omega
 obtain⟨x,hx⟩:∃x,ls[i]?=some x:=⟨_,oGE YN⟩;have hg:dM ls i=some x:=hx;have hL:=h4 i x hx;simp only[hg,oBS]
 (with_reducible refine dI (λZ9=>?_) λZ9=>?_)
 ·refine Ok.ret ⟨i,cs,ls,x,rfl,h,hx,Z9,?_⟩
  rcases hL with⟨g1,_,_⟩|⟨_,_,_,g,_⟩
  ·omega
  ·exact g
 ·refine Ok.bind (P:=λr=>∃Z3,r=(a/4,i,Z3,ls,())/\Z3.length=512/\(∀c∈Z3,oG K c)/\∀(j:Nat) y,ls[j]?=some y->Rg Z3 y) ?_ ?_
  ·refine Ok.cond (λhd=>?_) λ_=>Ok.ret ⟨cs,rfl,h1,h2,h5⟩
   rcases hL with⟨_,g,_⟩|⟨g1,g2,g3,g4,g5⟩
   ·rw[g]at hd;cases hd
   ·rw[dR (x:=x.1*4) (by omega) (by omega)];refine Ok.nat (by omega) λq hq=>?_;refine dK (by unfold gF;simp;omega) ?_
    try simp only[hg,oBS]
    rw[g4,h1]
    have hmin:Nat.min 4 (Nat.sub 512 q)=4:=by
     show min 4 (512-q)=4;omega
    rw[hmin];refine dK (by unfold gF;simp;omega) ?_;refine dK rfl ?_;obtain⟨s1,s2⟩:=JL (lo:=q) (n:=4) h1 (by omega) (by omega) h2 g5;refine Ok.ret ⟨_,rfl,s1,s2,λj y hy=>?_⟩;by_cases hij:j=i
    ·subst hij;rw[hx]at hy
     injection hy with hy
     subst hy;exact .inr (.inl hd)
    ·rcases h5 j y hy with g|g|g
     ·exact .inl g
     ·exact .inr (.inl g)
     ·rcases h4 j y hy with⟨g',_,_⟩|⟨y1,y2,y3,y4,y5⟩
      ·exact .inl g'
      ·refine .inr (.inr λo ho=>?_);rw[Il (by omega) (by omega) (by omega)];exact g o ho
  rintro _ ⟨Z3,rfl,c1,c2,c3⟩;dsimp only;rw[dR (x:=a/4*4) (by omega) (by omega),dR (x:=a/4+1) (by omega) (by omega),dR (x:=(a/4+1)*4) (by omega) (by omega)];simp only[hg,oBS];refine Ok.get (by rw[oLM];exact YN) λ_ _=>?_;refine Ok.nat (by omega) λq hq=>?_;refine Ok.nat (by omega) λq2 YR=>?_;refine dK (by unfold gF;simp;omega) ?_
  have hw:(my Z3 q (Nat.sub q2 q)).length=4:=by
   unfold my;rw[oLT,List.length_drop];show min (q2-q) _=4;omega
  refine dK (ee (by omega)) ?_;refine Ok.get (by rw[oLM,oLM];exact YN) λ_ _=>?_;rw[jm,jm,show List.append [] (my Z3 q (Nat.sub q2 q))=my Z3 q (Nat.sub q2 q)from rfl];have Zs:lz K Z3 ls:=⟨c1,c2,h3,h4,c3⟩;refine Ok.ret ⟨i,Z3,_,_,rfl,Zs.line hx (.inr ⟨by dsimp only;omega,by dsimp only;omega,by dsimp only;omega,hw,λc hc=>c2 c ?_⟩) (.inr (.inr λo ho=>?_)),r9 hx,rfl,hw⟩
  ·dsimp only at hc;unfold my at hc;exact List.mem_of_mem_drop (List.mem_of_mem_take hc)
  ·dsimp only;unfold my;rw[hq,oTN,List.getElem?_take_of_lt (show o<Nat.sub q2 q by show o<q2-q;omega),List.getElem?_drop]
theorem K4{K:Int->Prop}{cs:List DCe}{ls:List DLn}{a:Int}(h:lz K cs ls)(ha:0<=a/\a<512):Ok (n9 a cs ls) λr=>∃t v Z3 Z0,r=(t,v,Z3,Z0,())/\oG K (t,v)/\lz K Z3 Z0:=by
 refine(HK h ha).bind ?_;rintro _ ⟨i,Z3,Z0,x,rfl,hm,hx,Z1,X9⟩;have hg:dM Z0 i=some x:=hx;simp[hg];rw[Int.tmod_eq_emod_of_nonneg ha.1];refine Ok.nat (by omega) λj hj=>?_;refine Ok.get (by omega) λ_ _=>?_;refine Ok.get (by omega) λc hc=>?_
 have ZK:oG K c:=by
  rcases hm.lines i x hx with⟨_,_,g⟩|⟨_,_,_,_,g⟩
  ·omega
  ·exact g c (dU hc)
 exact Ok.ret ⟨_,_,_,_,rfl,ZK,hm⟩
theorem AD{K:Int->Prop}{cs:List DCe}{ls:List DLn}{a t v:Int}(h:lz K cs ls)(ha:0<=a/\a<512)(hc:oG K (t,v)):Ok (kF a t v cs ls) λr=>∃Z3 Z0,r=(Z3,Z0,())/\lz K Z3 Z0:=by
 refine(HK h ha).bind ?_;rintro _ ⟨i,Z3,Z0,x,rfl,hm,hx,Z1,X9⟩;have hg:dM Z0 i=some x:=hx;have YN:=(oGS hx).1;simp[hg];rw[Int.tmod_eq_emod_of_nonneg ha.1];refine Ok.nat (by omega) λj hj=>?_;refine Ok.get (by omega) λ_ _=>?_;refine Ok.get (by omega) λ_ _=>?_;refine Ok.get (by simp_all) λ_ _=>?_;rw[jm];refine Ok.ret ⟨_,_,rfl,hm.line hx ?_ (.inr (.inl rfl))⟩
 rcases hm.lines i x hx with⟨_,_,g⟩|⟨g1,g2,g3,g4,g5⟩
 ·omega
 ·exact .inr ⟨g1,g2,g3,by simp_all,jn g5 λ_ _=>hc⟩
theorem pu(x:Int):W16 (wk .u16 x):=by
 unfold wk;rw[xt];exact⟨by omega,by omega⟩
theorem NP{ss bs:List Int}{key t v t' v':Int}(h:LV bs ss)(hv:W16 v)(YJ:W16 v'):Ok (kD bs key ss t v t' v') λ_=>True:=by
 obtain⟨v0,v1⟩:=hv;obtain⟨u0,u1⟩:=YJ;unfold kD;rw[dY (x:=v) (by omega) (by omega),dY (by omega) (by omega)];refine(u7 h ⟨v0,v1⟩).bind ?_;rintro⟨r,o,ok,_⟩ _;refine(u7 h ⟨u0,u1⟩).bind ?_;rintro⟨r',o',ok',_⟩ _;cases ok<;>cases ok'<;>exact Ok.ret trivial
theorem Gw(b:Bool):j0 b=some (0,(bif b then 1 else 0),()):=by cases b<;>rfl
theorem Qo{op b c:Int}(hb:W16 b)(hc:W16 c):Ok (kC op b c) λr=>∃v e,r=(0,v,e,())/\W16 v/\0<=e/\e<=6:=by
 obtain⟨b0,b1⟩:=hb;obtain⟨c0,c1⟩:=hc;have ZX:∀x:Int,W16 x->Ok (some ((0:Int),x,(0:Int),())) λr=>∃v e,r=(0,v,e,())/\W16 v/\0<=e/\e<=6:=λx h=>Ok.ret ⟨x,0,rfl,h,by decide,by decide⟩;have z5:Ok (some ((0:Int),(0:Int),(5:Int),())) λr=>∃v e,r=(0,v,e,())/\W16 v/\0<=e/\e<=6:=Ok.ret ⟨0,5,rfl,⟨by decide,by decide⟩,by decide,by decide⟩;have hw:=pu;unfold kC
 (with_reducible refine dI (λZ9=>?_) λZ9=>?_)
 ·exact ZX _ (pu _)
 (with_reducible refine dI (λZZ=>?_) λZZ=>?_)
 ·exact ZX _ (pu _)
 (with_reducible refine dI (λhcc=>?_) λhcc=>?_)
 ·exact ZX _ (pu _)
 have hq:∀X:Option (Int×Int×Int×Unit),c≠0->(X=(bif(op==6)then(bif(c != 0)then some ((0:Int),wk .u16 (Int.tdiv b c),(0:Int),())else none)else bif(c != 0)then some ((0:Int),Int.tmod b c,(0:Int),())else none))->Ok X λr=>∃v e,r=(0,v,e,())/\W16 v/\0<=e/\e<=6:=by
  rintro _ hne rfl;refine Ok.cond (λ_=>dK (by rw[bne_iff_ne];exact hne) (ZX _ (pu _))) λ_=>dK (by rw[bne_iff_ne];exact hne) (ZX _ ?_);rw[Int.tmod_eq_emod_of_nonneg b0];have h1:=Int.emod_nonneg b hne;have h2:=Int.emod_lt_of_pos b (show 0<c by omega);exact⟨h1,by omega⟩
 (with_reducible refine dI (λXe=>?_) λXe=>?_)
 ·(with_reducible refine dI (λWe=>?_) λWe=>?_)
  ·exact z5
  ·simp_all
 (with_reducible refine dI (λXe=>?_) λXe=>?_)
 ·(with_reducible refine dI (λWe=>?_) λWe=>?_)
  ·exact z5
  ·simp_all
 (with_reducible refine dI (λVx=>?_) λVx=>?_)
 ·exact ZX _ (hw _)
 (with_reducible refine dI (λVx=>?_) λVx=>?_)
 ·exact ZX _ (hw _)
 (with_reducible refine dI (λVx=>?_) λVx=>?_)
 ·exact ZX _ (hw _)
 (with_reducible refine dI (λVx=>?_) λVx=>?_)
 ·rw[Int.tmod_eq_emod_of_nonneg c0];refine Ok.nat (by omega) λj hj=>?_;exact ZX _ (hw _)
 (with_reducible refine dI (λVx=>?_) λVx=>?_)
 ·rw[Int.tmod_eq_emod_of_nonneg c0];refine Ok.nat (by omega) λj hj=>ZX _ ?_;show W16 (Int.fdiv b (2 ^ (min j 16)));have hp:(0:Int)<2 ^ (min j 16):=Int.pow_pos (by decide);rw[Int.fdiv_eq_ediv_of_nonneg _ (by omega)];exact⟨Int.ediv_nonneg b0 (by omega),by have:=Int.ediv_le_self (2 ^ (min j 16)) b0;omega⟩
 rw[Gw];refine ZX _ ?_;cases decide (b<c)
 ·exact⟨by decide,by decide⟩
 ·exact⟨by decide,by decide⟩
def On(K:Int->Prop)(r:Int×Int×Int×Unit):Prop:=∃t v e,r=(t,v,e,())/\oG K (t,v)/\0<=e/\e<=6
theorem ri{K:Int->Prop}{t v e:Int}(h:oG K (t,v))(h0:0<=e)(h1:e<=6):Ok (some (t,v,e,())) (On K):=Ok.ret ⟨t,v,e,rfl,h,h0,h1⟩
theorem xC{K:Int->Prop}{v:Int}(h:W16 v):oG K (0,v):=ms h
theorem E5{K:Int->Prop}(b:Bool):oG K (0,bif b then 1 else 0):=xC (by cases b<;>exact⟨by decide,by decide⟩)
theorem tB{K:Int->Prop}:oG K (0,0):=xC ⟨by decide,by decide⟩
theorem Rr{ss bs:List Int}{key op t v t' v':Int}(h:LV bs ss)(hb:oG (RK bs ss) (t,v))(hc:oG (RK bs ss) (t',v')):Ok (rW bs key ss op t v t' v') (On (RK bs ss)):=by
 obtain⟨t0,t2,v0,v1,_⟩:=hb;obtain⟨u0,u2,w0,w1,_⟩:=hc;dsimp only at t0 t2 v0 v1 u0 u2 w0 w1;obtain⟨_,eN,n1,n2,rfl,WV,hn2,hn3⟩:=Qo (op:=op) (b:=v) (c:=v') ⟨v0,v1⟩ ⟨w0,w1⟩;obtain⟨_,eA,a1,a2,a3,rfl,Xw,Xx,ha3,_⟩:=yf (key:=key) (tag:=t) (back:=false) h (v:=v) (n:=v') ⟨v0,v1⟩ ⟨w0,w1⟩;obtain⟨_,eB,b1,b2,b3,rfl,hb1,hb2,U6,_⟩:=yf (key:=key) (tag:=t') (back:=false) h (v:=v') (n:=v) ⟨w0,w1⟩ ⟨v0,v1⟩;obtain⟨_,eC,c1,c2,c3,rfl,ZQ,ZK,SH,_⟩:=yf (key:=key) (tag:=t) (back:=true) h (v:=v) (n:=v') ⟨v0,v1⟩ ⟨w0,w1⟩;obtain⟨⟨p1,p2,p3,p4,ok,_⟩,eP,_⟩:=NP (key:=key) (t:=t) (t':=t') h (v:=v) (v':=v') ⟨v0,v1⟩ ⟨w0,w1⟩;unfold rW
 (with_reducible refine dI (λZ9=>?_) λZ9=>?_)
 ·exact ri tB (by decide) (by decide)
 (with_reducible refine dI (λZZ=>?_) λZZ=>?_)
 ·exact ri tB (by decide) (by decide)
 cases h14:(op==14)with
 |true=>
  simp only[oCT,Gw,oBS];exact ri (E5 _) (by decide) (by decide)
 |false=>
  simp only[oCF,eN,eA,eB,eC,eP,oBS]
  rcases(show t=0\/t=1\/t=2 by omega)with rfl|rfl|rfl<;>rcases(show t'=0\/t'=1\/t'=2 by omega)with rfl|rfl|rfl
  all_goals
   cases h3:(op==3)<;>cases h4:(op==4)<;>cases h13:(op==13)<;>simp only[Int.reduceBEq,oCT,oCF,oBS,h3,h4,h13,Gw,eN,eA,eB,eC,eP,BEq.rfl]
  all_goals first
   |exact ri (xC WV) hn2 hn3
   |exact ri Xw Xx ha3
   |exact ri hb1 hb2 U6
   |exact ri ZQ ZK SH
   |exact ri tB (by decide) (by decide)
   |(cases ok<;>first
    |exact ri tB (by decide) (by decide)
    |exact ri (E5 _) (by decide) (by decide)
    |exact ri (xC (pu _)) (by decide) (by decide))
theorem LL{l:List Int}{k:Int}(h:DOk l k):Ok (mO l k) λr=>∃t b s k',r=(t,b,s,l,k',())/\0<=t/\t<4/\0<=b/\b<=63/\DOk l k':=by
 unfold mO
 (with_reducible refine fv (by omega) (by omega) (by omega) (λv0 k0 a0 b0 d0=>?_);try dsimp only)
 (with_reducible refine fv (by omega) (by omega) (by omega) (λv1 k1 a1 b1 d1=>?_);try dsimp only)
 (with_reducible refine Ok.nat (by omega) (λj1 hj1=>?_);try dsimp only)
 have hm:∀x∈[(0:Int),1,2,3,7,63],0<=x/\x<=63:=by simp_all
 refine Ok.get (by simp;omega) λx hx=>?_;refine Ok.get (by simp;omega) λy hy=>?_;have WP:=hm y (dU hy)
 (with_reducible refine fv (by omega) (by omega) (by omega) (λv2 k2 a2 b2 d2=>?_);try dsimp only)
 exact Ok.ret ⟨_,_,_,_,rfl,a0,b0,WP.1,WP.2,d2⟩
def iD:List DTh->Int->List Int
 | [],_=>[]
 |t::ts,i=>if t.1=1 then i::iD ts (i+1)else iD ts (i+1)
theorem Bv(a b:List DTh)(i:Int):iD (a++b) i=iD a i++iD b (i+a.length):=by
 induction a generalizing i with
 |nil=>simp[iD]
 |cons t a ih=>
  simp[iD,ih];rw[show i+1+(a.length:Int)=i+((a.length+1:Nat):Int) by omega];split<;>rfl
theorem AO(a:List DTh)(i:Int):(iD a i).length<=a.length:=by
 induction a generalizing i with
 |nil=>simp[iD]
 |cons t a ih=>
  simp[iD];have:=ih (i+1);split<;>simp<;>omega
theorem Iz{a:List DTh}{i x:Int}(h:x∈iD a i):i<=x/\x<i+a.length/\∃t,a[(x-i).toNat]?=some t/\t.1=1:=by
 induction a generalizing i with
 |nil=>simp[iD]at h
 |cons t a ih=>
  simp[iD]at h
  have key:x∈iD a (i+1)->i<=x/\x<i+((t::a).length:Int)/\∃t',(t::a)[(x-i).toNat]?=some t'/\t'.1=1:=by
   intro h;have ⟨h1,h2,t',h3,h4⟩:=ih h;refine⟨by omega,by simp;omega,t',?_,h4⟩;rw[show(x-i).toNat=(x-(i+1)).toNat+1 by omega,List.getElem?_cons_succ];exact h3
  split at h
  ·rename_i ht;rcases List.mem_cons.1 h with rfl|h
   ·exact⟨by omega,by simp;omega,t,by simp,ht⟩
   ·exact key h
  ·exact key h
theorem MM{ts:List DTh}(h:ts.length<=1000):mF ts=some (iD ts 0,()):=by
 have e:dZ it NN (ts,(ts.length:Int),0,[],())=some (ts,(ts.length:Int),(ts.length:Int),false,iD ts 0,()):=by
  have:=s6 (f:=it) (N:=NN) (st:=λk=>(ts,(ts.length:Int),(k:Int),iD (ts.take k) 0,())) (n:=ts.length) (t:=(ts,(ts.length:Int),(ts.length:Int),false,iD ts 0,())) (by unfold NN;omega) ?_ ?_
  ·exact this
  ·intro k hk;unfold it;dsimp only
   (with_reducible refine dI (λZ9=>?_) λZ9=>?_)
   ·rw[dO];simp;obtain⟨x,hx⟩:∃x,ts[k]?=some x:=⟨_,oGE hk⟩;rw[show dM ts k=some x from hx];simp;have hlen:=AO (ts.take k) 0;rw[oLT]at hlen
    have Vd:iD (ts.take (k+1)) 0=iD (ts.take k) 0++(if x.1=1 then[(k:Int)]else[]):=by
     rw[List.take_add_one,hx,Bv];congr 1;rw[oLT,show 0+((min k ts.length:Nat):Int)=(k:Int) by omega];simp only[Option.toList,iD]
    refine Ok.bind (P:=(·=(ts,(ts.length:Int),(k:Int),iD (ts.take (k+1)) 0,()))) ?_ ?_
    ·(with_reducible refine dI (λZZ=>?_) λZZ=>?_)
     ·refine dK (ee (by simp;omega)) ?_;rw[Vd,oIP ZZ];exact Ok.ret rfl
     ·rw[Vd,oIN ZZ,List.append_nil];exact Ok.ret rfl
    ·rintro _ rfl
     (simp (disch:=omega) only [dR,ek,dY,dT])
     exact Ok.ret rfl
   ·omega
  ·unfold it;dsimp only
   (with_reducible refine dI (λZ9=>?_) λZ9=>?_)
   ·omega
   ·rw[List.take_length];exact Ok.ret rfl
 refine ff ?_;unfold mF;delta dQ
 try dsimp only
 rw[e];exact Ok.ret rfl
theorem yX{ow:List Int}{qs:List (List Int)}(h:i8 ow qs):lU ow qs=some (ow,qs,()):=by
 have hq4:∀q∈qs,q.length<=4:=λq hq=>h.qlen4 hq;obtain⟨h1,h2,h3,h4⟩:=h
 have e:dZ iN NN (qs,(qs.length:Int),0,ow,qs,(),(),ow,[],())=some (qs,(qs.length:Int),(qs.length:Int),false,ow,qs,(),(),ow,qs,()):=by
  have:=s6 (f:=iN) (N:=NN) (st:=λk=>(qs,(qs.length:Int),(k:Int),ow,qs,(),(),ow,qs.take k,())) (n:=qs.length) (t:=(qs,(qs.length:Int),(qs.length:Int),false,ow,qs,(),(),ow,qs,())) (by unfold NN;omega) ?_ ?_
  ·exact this
  ·intro k hk;unfold iN
   (with_reducible refine dI (λZ9=>?_) λZ9=>?_)
   ·rw[dO];refine Ok.get (by omega) λx hx=>?_;have:=hq4 x (dU hx);refine dK (ee (by omega)) (dK (ee (by simp;omega)) ?_)
    (simp (disch:=omega) only [dR,ek,dY,dT])
    refine Ok.ret ?_;rw[List.take_add_one,hx];rfl
   ·omega
  ·unfold iN
   (with_reducible refine dI (λZ9=>?_) λZ9=>?_)
   ·omega
   ·rw[List.take_length];exact Ok.ret rfl
 refine ff ?_;refine dK (ee (by omega)) ?_;rw[show List.append [] ow=ow from rfl];delta dQ
 try dsimp only
 rw[e];exact Ok.ret rfl
theorem Gs{ow:List Int}{qs:List (List Int)}{lock t:Int}(h:i8 ow qs):Ok (jZ ow qs lock t) λr=>∃Zc qs' n b,r=(Zc,qs',n,b,())/\i8 Zc qs'/\-1<=n/\n<=3:=by
 unfold jZ;rw[yX h];obtain⟨h1,h2,h3,h4⟩:=id h;refine Ok.bind (P:=λr=>∃b,r=(lock,b,(),(),ow,qs,())/\(b=false->0<=lock/\lock<4)) ?_ ?_
 ·(with_reducible refine dI (λZ9=>?_) λZ9=>?_)
  ·exact Ok.ret ⟨true,rfl,λh=>by cases h⟩
  ·(with_reducible refine dI (λZZ=>?_) λZZ=>?_)
   ·exact Ok.ret ⟨true,rfl,λh=>by cases h⟩
   ·refine Ok.nat (by omega) λj hj=>?_;refine Ok.get (by omega) λx hx=>?_;exact Ok.ret ⟨_,rfl,λ_=>⟨by omega,by omega⟩⟩
 rintro _ ⟨b,rfl,hb⟩;dsimp only;refine Ok.cond (λ_=>Ok.ret ⟨_,_,_,_,rfl,h,by omega,by omega⟩) λhbf=>?_;obtain⟨l0,l1⟩:=hb hbf;obtain⟨j,rfl⟩:∃j:Nat,lock=j:=⟨lock.toNat,by omega⟩;obtain⟨o,ho⟩:∃o,ow[j]?=some o:=⟨_,oGE (by omega)⟩;obtain⟨q,hq⟩:∃q,qs[j]?=some q:=⟨_,oGE (by omega)⟩;have go:dM ow j=some o:=ho;have gq:dM qs j=some q:=hq;have gm:∀f:Int->Int,dM (List.modify ow j f) j=some (f o):=λf=>r9 ho;have gm2:∀f g:Int->Int,dM (List.modify (List.modify ow j f) j g) j=some (g (f o)):=λf g=>r9 (r9 ho);delta dQ;simp only[dO,oBS,go,gq,gm,gm2];have Xy:i8 (List.modify ow j λ_=>-1) qs:=⟨by rw[oLM];exact h1,h2,jn h3 λ_ _=>⟨by omega,by omega⟩,h4⟩
 (with_reducible refine dI (λhcc=>?_) λhcc=>?_)
 ·obtain⟨x,hx⟩:∃x,q[0]?=some x:=⟨_,oGE (by omega)⟩;have gx:dM q 0=some x:=hx;have X9:=(h4 q (dU hq)).2 x (dU hx);simp only[gx,oBS];refine dK (by unfold gF;simp;omega) ?_;refine Ok.ret ⟨_,_,_,_,rfl,⟨by rw[oLM,oLM];exact h1,by rw[oLM];exact h2,jn (jn h3 λ_ _=>⟨by omega,by omega⟩) λ_ _=>⟨by omega,by omega⟩,jn h4 λ_ _=>?_⟩,by omega,by omega⟩;obtain⟨q1,q2⟩:=h4 q (dU hq);unfold my;have hs:(List.take (Nat.sub q.length 1) (List.drop 1 q)).Sublist q:=(List.take_sublist _ _).trans (List.drop_sublist _ _);exact⟨q1.sublist hs,λt ht=>q2 t (hs.subset ht)⟩
 ·exact Ok.ret ⟨_,_,_,_,rfl,Xy,by omega,by omega⟩
theorem IO{q:List Int}{x:Int}(h:q.Nodup)(hx:x ∉ q):(q++[x]).Nodup:=by
 grind
theorem PC{ow:List Int}{qs:List (List Int)}{t:Int}(h:i8 ow qs):Ok (n7 ow qs t) λr=>∃Zc qs' nx,r=(Zc,qs',nx,())/\i8 Zc qs'/\nx.length<=4/\∀x∈nx,0<=x/\x<=3:=by
 unfold n7;rw[yX h];delta dQ;simp only[oBS];have h2:=h.qlen;refine Ok.loop (P:=λs'=>∃k:Nat,∃qs',s'=(t,(qs.length:Int),(k:Int),(),(),ow,qs',())/\k<=qs.length/\i8 ow qs') (R:=λr=>∃a b c qs',r=(t,a,b,c,(),(),ow,qs',())/\i8 ow qs') (m:=λs'=>(s'.2.1-s'.2.2.1).toNat) ⟨0,qs,rfl,by omega,h⟩ (by unfold NN;dsimp only;omega) ?_ ?_
 ·rintro _ ⟨k,qs',rfl,hk,hl⟩;obtain⟨g1,g2,g3,g4⟩:=id hl;unfold qH;dsimp only
  (with_reducible refine dI (λZ9=>?_) λZ9=>?_)
  ·obtain⟨q,hq⟩:∃q,qs'[k]?=some q:=⟨_,oGE (by omega)⟩;have gq:dM qs' k=some q:=hq;obtain⟨q1,q2⟩:=g4 q (dU hq);have q3:=hl.qlen4 (dU hq);delta dQ;simp only[dO,oBS,gq]
   refine Ok.loop (P:=λs'=>∃j:Nat,∃l,s'=(t,(k:Int),(qs.length:Int),(k:Int),k,(q.length:Int),(j:Int),(),(),ow,qs',l,())/\j<=q.length/\l.Sublist (q.take j))
    (R:=λr=>∃a b c d l,r=(t,(k:Int),(qs.length:Int),(k:Int),a,b,c,d,(),(),ow,qs',l,())/\l.Sublist q) (m:=λs'=>(s'.2.2.2.2.2.1-s'.2.2.2.2.2.2.1).toNat) ⟨0,[],rfl,by omega,by simp⟩ (by unfold NN;dsimp only;omega) ?_ ?_
   ·rintro _ ⟨j,l,rfl,hj,Z'⟩;unfold qI;dsimp only
    (with_reducible refine dI (λZZ=>?_) λZZ=>?_)
    ·obtain⟨x,hx⟩:∃x,q[j]?=some x:=⟨_,oGE (by omega)⟩;have gx:dM q j=some x:=hx;simp only[dO,oBS,gq,gx];have S6:=Z'.length_le;rw[oLT]at S6
     have Yv:q.take (j+1)=q.take j++[x]:=by rw[List.take_add_one,hx];rfl
     refine Ok.bind (P:=λr=>∃l',r=(t,(k:Int),(qs.length:Int),(k:Int),k,(q.length:Int),(j:Int),(),(),ow,qs',l',())/\l'.Sublist (q.take (j+1))) ?_ ?_
     ·refine Ok.cond (λ_=>dK (ee (by simp;omega)) (Ok.ret ⟨_,rfl,?_⟩)) λ_=>Ok.ret ⟨l,rfl,?_⟩
      ·rw[Yv];exact Z'.append (List.Sublist.refl _)
      ·rw[Yv];exact Z'.trans (List.sublist_append_left _ _)
     ·rintro _ ⟨l',rfl,hs⟩;dsimp only
      (simp (disch:=omega) only [dR,ek,dY,dT])
      exact Ok.ret ⟨⟨j+1,l',rfl,by omega,hs⟩,by dsimp only;omega⟩
    ·exact Ok.ret ⟨_,_,_,_,l,rfl,Z'.trans (List.take_sublist _ _)⟩
   ·rintro _ ⟨a,b,c,d,l,rfl,hs⟩;dsimp only;simp only[dO,oBS,gq]
    (simp (disch:=omega) only [dR,ek,dY,dT])
    exact Ok.ret ⟨⟨k+1,_,rfl,by omega,⟨g1,by rw[oLM];exact g2,g3,jn g4 λ_ _=>⟨q1.sublist hs,λt ht=>q2 t (hs.subset ht)⟩⟩⟩,by dsimp only;omega⟩
  ·exact Ok.ret ⟨_,_,_,qs',rfl,hl⟩
 ·rintro _ ⟨a,b,c,qs',rfl,hl⟩;dsimp only
  refine Ok.loop (P:=λs'=>∃k:Nat,∃Zc qs' nx,s'=(t,4,(k:Int),(),(),Zc,qs',nx,())/\k<=4/\nx.length<=k/\i8 Zc qs'/\∀x∈nx,0<=x/\x<=3) (R:=λr=>∃a b c Zc qs' nx,r=(t,a,b,c,(),(),Zc,qs',nx,())/\i8 Zc qs'/\nx.length<=4/\∀x∈nx,0<=x/\x<=3) (m:=λs'=>(4-s'.2.2.1).toNat)
   ⟨0,ow,qs',[],by rw[hl.olen];rfl,by omega,by simp,hl,eG⟩ (by unfold NN;dsimp only;omega) ?_ ?_
  ·rintro _ ⟨k,Zc,qs',nx,rfl,hk,Yk,YK,XU⟩;unfold qG;dsimp only
   (with_reducible refine dI (λZ9=>?_) λZ9=>?_)
   ·refine(Gs YK).bind ?_;rintro _ ⟨ow2,qs2,n,bb,rfl,Yh,n0,n1⟩;dsimp only;refine Ok.bind (P:=λr=>∃Sg,r=(t,4,(k:Int),(),(),Zc,qs',Sg,ow2,qs2,())/\Sg.length<=k+1/\∀x∈Sg,0<=x/\x<=3) ?_ ?_
    ·refine Ok.cond (λ_=>?_) λ_=>Ok.ret ⟨nx,rfl,by omega,XU⟩
     (with_reducible refine dI (λZZ=>?_) λZZ=>?_)
     ·refine dK (ee (by simp;omega)) (Ok.ret ⟨_,rfl,by rw[ft];simp;omega,ir XU (all_cons ⟨by omega,n1⟩ eG)⟩)
     ·exact Ok.ret ⟨nx,rfl,by omega,XU⟩
    ·rintro _ ⟨Sg,rfl,WV,hn2⟩;dsimp only
     (simp (disch:=omega) only [dR,ek,dY,dT])
     exact Ok.ret ⟨⟨k+1,_,_,_,rfl,by omega,WV,Yh,hn2⟩,by dsimp only;omega⟩
   ·exact Ok.ret ⟨_,_,_,_,_,_,rfl,YK,by omega,XU⟩
  ·rintro _ ⟨a,b,c,Zc,qs',nx,rfl,YK,hn4,XU⟩;exact Ok.ret ⟨_,_,_,rfl,YK,hn4,XU⟩
theorem OA{ow:List Int}{qs:List (List Int)}{lock t:Int}(h:i8 ow qs)(ht:0<=t/\t<=3):Ok (n6 ow qs lock t) λr=>∃Zc qs' n,r=(Zc,qs',n,())/\i8 Zc qs':=by
 unfold n6;rw[yX h];simp only[oBS];obtain⟨h1,h2,h3,h4⟩:=id h;refine Ok.bind (P:=λr=>∃b,r=(lock,t,b,ow,qs,(),(),ow,qs,())/\(b=false->0<=lock/\lock<4)) ?_ ?_
 ·(with_reducible refine dI (λZ9=>?_) λZ9=>?_)
  ·exact Ok.ret ⟨true,rfl,λh=>by cases h⟩
  ·(with_reducible refine dI (λZZ=>?_) λZZ=>?_)
   ·exact Ok.ret ⟨true,rfl,λh=>by cases h⟩
   ·refine Ok.nat (by omega) λj hj=>?_;refine Ok.get (by omega) λx hx=>?_;exact Ok.ret ⟨_,rfl,λ_=>⟨by omega,by omega⟩⟩
 rintro _ ⟨b,rfl,hb⟩;dsimp only;refine Ok.cond (λ_=>Ok.ret ⟨_,_,_,rfl,h⟩) λhbf=>?_;obtain⟨l0,l1⟩:=hb hbf;delta dQ
 try dsimp only
 obtain⟨r,e,hr⟩:=iv (f:=nj) (n:=NN) (s:=(lock,t,qs,(qs.length:Int),0,ow,qs,(),(),ow,qs,())) (P:=λs'=>∃k:Nat,s'=(lock,t,qs,(qs.length:Int),(k:Int),ow,qs,(),(),ow,qs,())/\k<=qs.length/\∀(i:Nat) q,i<k->qs[i]?=some q->t ∉ q)
  (R:=λr=>r=.inl (2,ow,qs,())\/((∃a b c,r=.inr (lock,t,a,b,c,false,ow,qs,(),(),ow,qs,()))/\∀q∈qs,t ∉ q)) (m:=λs'=>(s'.2.2.2.1-s'.2.2.2.2.1).toNat) ⟨0,rfl,by omega,λi q hi=>by omega⟩ (by unfold NN;dsimp only;omega) (by
   rintro _ ⟨k,rfl,hk,ZI⟩;unfold nj;dsimp only
   (with_reducible refine dI (λZ9=>?_) λZ9=>?_)
   ·obtain⟨q,hq⟩:∃q,qs[k]?=some q:=⟨_,oGE (by omega)⟩;have gq:dM qs k=some q:=hq;have q3:=h.qlen4 (dU hq);delta dQ;simp only[dO,oBS,gq]
    obtain⟨r,e,hr⟩:=iv (f:=nn) (n:=NN) (s:=(lock,t,qs,(qs.length:Int),(k:Int),q,(q.length:Int),0,ow,qs,(),(),ow,qs,())) (P:=λs'=>∃j:Nat,s'=(lock,t,qs,(qs.length:Int),(k:Int),q,(q.length:Int),(j:Int),ow,qs,(),(),ow,qs,())/\j<=q.length/\∀(i:Nat) x,i<j->q[i]?=some x->x≠t)
     (R:=λr=>r=.inl (2,ow,qs,())\/((∃a b c,r=.inr (lock,t,qs,(qs.length:Int),(k:Int),a,b,c,false,ow,qs,(),(),ow,qs,()))/\t ∉ q)) (m:=λs'=>(s'.2.2.2.2.2.2.1-s'.2.2.2.2.2.2.2.1).toNat) ⟨0,rfl,by omega,λi x hi=>by omega⟩ (by unfold NN;dsimp only;omega) (by
      rintro _ ⟨j,rfl,hj,hne⟩;unfold nn;dsimp only
      (with_reducible refine dI (λZZ=>?_) λZZ=>?_)
      ·obtain⟨x,hx⟩:∃x,q[j]?=some x:=⟨_,oGE (by omega)⟩;have gx:dM q j=some x:=hx;simp only[dO,oBS,gx]
       (with_reducible refine dI (λhcc=>?_) λhcc=>?_)
       ·exact Ok.ret (.inl rfl)
       ·(simp (disch:=omega) only [dR,ek,dY,dT])
        exact Ok.ret ⟨⟨j+1,rfl,by omega,H7 hne hx hcc⟩,by dsimp only;omega⟩
      ·refine Ok.ret (.inr ⟨⟨_,_,_,rfl⟩,λhm=>?_⟩);obtain⟨i,hi⟩:=List.getElem?_of_mem hm
       exact hne i t (by have:=(oGS hi).1;omega) hi rfl)
    rw[e];rcases hr with rfl|⟨⟨a,b,c,rfl⟩,Tc⟩
    ·exact Ok.ret (.inl rfl)
    ·dsimp only
     (simp (disch:=omega) only [dR,ek,dY,dT])
     refine Ok.ret ⟨⟨k+1,rfl,by omega,λi q' hi T9=>?_⟩,by dsimp only;omega⟩;by_cases hik:i=k
     ·simp_all
     ·exact ZI i q' (by omega) T9
   ·refine Ok.ret (.inr ⟨⟨_,_,_,rfl⟩,λq hq=>?_⟩);obtain⟨i,hi⟩:=List.getElem?_of_mem hq
    exact ZI i q (by have:=(oGS hi).1;omega) hi)
 rw[e];rcases hr with rfl|⟨⟨a,b,c,rfl⟩,Tc⟩
 ·exact Ok.ret ⟨_,_,_,rfl,h⟩
 ·dsimp only;obtain⟨j,rfl⟩:∃j:Nat,lock=j:=⟨lock.toNat,by omega⟩;obtain⟨o,ho⟩:∃o,ow[j]?=some o:=⟨_,oGE (by omega)⟩;obtain⟨q,hq⟩:∃q,qs[j]?=some q:=⟨_,oGE (by omega)⟩;have go:dM ow j=some o:=ho;have gq:dM qs j=some q:=hq;simp only[dO,oBS,go,gq]
  (with_reducible refine dI (λXe=>?_) λXe=>?_)
  ·exact Ok.ret ⟨_,_,_,rfl,⟨by rw[oLM];exact h1,h2,jn h3 λ_ _=>⟨by omega,ht.2⟩,h4⟩⟩
  ·have q3:=h.qlen4 (dU hq);refine dK (ee (by simp;omega)) (dK (by simp) (Ok.ret ⟨_,_,_,rfl,⟨h1,by rw[oLM];exact h2,h3,jn h4 λ_ _=>⟨?_,?_⟩⟩⟩))
   ·exact IO (h4 q (dU hq)).1 (Tc q (dU hq))
   ·exact ir (h4 q (dU hq)).2 (all_cons ht eG)
theorem fc{α:Type}{l:List α}{i:Nat}{a:α}(h:l[i]?=some a)(f:α->α):List.modify l i f=l.set i (f a):=by
 apply List.ext_getElem?
 grind
theorem i3{α:Type}{l:List α}{i:Nat}(h:i<l.length)(a:α):dM (l.set i a) i=some a:=by
 show(l.set i a)[i]?=some a
 simp_all
theorem oN{α:Type}{l:List α}{i:Nat}(h:i<l.length)(a:α)(f:α->α):List.modify (l.set i a) i f=l.set i (f a):=by
 rw[fc (i3 h a),List.set_set]
theorem mn{α:Type}{P:α->Prop}{l:List α}{i:Nat}{a:α}(h:∀x∈l,P x)(ha:P a):∀x∈l.set i a,P x:=by
 grind
theorem MOk.set{n:Int}{ss bs:List Int}{cs Z3:List DCe}{ls Z0:List DLn}{ts:List DTh}(h:MOk n ss bs cs ls ts)(hm:lz (RK bs ss) Z3 Z0){i:Nat}{t:DTh}(ht:zr (RK bs ss) n t):MOk n ss bs Z3 Z0 (ts.set i t):=
 ⟨h.lay,hm,by rw[List.length_set];exact h.tlen,mn h.thr ht⟩
def R2(code:List DIn)(t:DTh)(s:Int)(t':DTh):Prop:=
 (s=-1/\t'.1=1/\((t'.2.2.2.1=t.2.2.2.1/\t'.2.2.1=t.2.2.1+1)\/t'.2.2.2.1=t.2.2.2.1+1))\/(s=2/\t'.1=4/\t'.2.2.2.1=t.2.2.2.1)\/
  (s=1/\t'.1=2/\t'.2.2.2.1=t.2.2.2.1/\∃i:DIn,1<=t'.2.2.1/\code[(t'.2.2.1-1).toNat]?=some i/\i.1=23)
def GS(n key:Int)(code:List DIn)(ss bs:List Int)(ts:List DTh)(i:Nat)(t:DTh)(r:Int×List Int×Int×List DCe×List DLn×List DTh×Unit):Prop:=
 ∃s Z3 Z0 t',r=(s,bs,key,Z3,Z0,ts.set i t',())/\lz (RK bs ss) Z3 Z0/\zr (RK bs ss) n t'/\R2 code t s t'
theorem nD{n key:Int}{code:List DIn}{ss bs:List Int}{ts:List DTh}{i:Nat}{t t':DTh}{Z3:List DCe}{Z0:List DLn}(hm:lz (RK bs ss) Z3 Z0)(ht:zr (RK bs ss) n t')(h1:t'.1=1)
 (h:(t'.2.2.2.1=t.2.2.2.1/\t'.2.2.1=t.2.2.1+1)\/t'.2.2.2.1=t.2.2.2.1+1):Ok (some (-1,bs,key,Z3,Z0,ts.set i t',())) (GS n key code ss bs ts i t):=Ok.ret ⟨_,_,_,_,rfl,hm,ht,.inl ⟨rfl,h1,h⟩⟩
theorem mP{n key Xb:Int}{code:List DIn}{ss bs:List Int}{ts:List DTh}{i:Nat}{t:DTh}{Z3:List DCe}{Z0:List DLn}(hm:lz (RK bs ss) Z3 Z0)(ht:zr (RK bs ss) n t)(hw:0<=Xb/\Xb<=6):
 Ok (some (2,bs,key,Z3,Z0,ts.set i (4,t.2.1,t.2.2.1,t.2.2.2.1,t.2.2.2.2.1,t.2.2.2.2.2.1,Xb,0),())) (GS n key code ss bs ts i t):=Ok.ret ⟨_,_,_,_,rfl,hm,ht.ended hw,.inr (.inl ⟨rfl,rfl,rfl⟩)⟩
theorem iu(op:Int):lF op=some (nR op||op==22||op==24,()):=by
 unfold lF;rw[yx]
 grind
set_option maxHeartbeats 4000000 in
theorem Qn{n key:Int}{code:List DIn}{ss bs:List Int}{d:List (List Int)}{cs:List DCe}{ls:List DLn}{ts:List DTh}{i:Nat}{t:DTh}(hp:nQ code ss d)(h:MOk n ss bs cs ls ts)(ht:ts[i]?=some t)(hs:t.1=1)
 (hc:t.2.2.2.1+1<=n)(hn:n<=1099511627776):Ok (pD code ss d (i:Int) bs key cs ls ts) (GS n key code ss bs ts i t):=by
 have hok:=h.thr t (dU ht);have hm:=h.mem;obtain⟨_,hl,hr,⟨p0,p1⟩,⟨c0,c1⟩,ha,⟨s0,s1⟩,⟨r0,r1⟩,hco⟩:=id hok;obtain⟨st,rs,pc,ct,hd,sa,tr,co⟩:=t;dsimp only at *;subst hs;have YN:=(oGS ht).1;have hg:dM ts i=some (1,rs,pc,ct,hd,sa,tr,co):=ht;have e1:∀f:DTh->DTh,List.modify ts i f=ts.set i (f (1,rs,pc,ct,hd,sa,tr,co)):=λf=>fc ht f;have e2:∀x,dM (ts.set i x) i=some x:=λx=>i3 YN x;have e3:∀(x:DTh)(f:DTh->DTh),List.modify (ts.set i x) i f=ts.set i (f x):=λx f=>oN YN x f
 have eT:∀Xb,fJ (i:Nat) Xb ts=some (2,ts.set i (4,rs,pc,ct,hd,sa,Xb,0),()):=λXb=>by rw[Ow (n:=n) ht,e1]
 have mk:∀{rs':List DCe}{pc' ct' sa':Int},rs'.length=8->(∀c∈rs',oG (RK bs ss) c)->0<=pc'/\pc'<=255->0<=ct'/\ct'<=n->-1<=sa'/\sa'<=255->zr (RK bs ss) n (1,rs',pc',ct',hd,sa',tr,co):=
  λh1 h2 h3 h4 h5=>⟨⟨show(0:Int)<=1 by decide,show(1:Int)<=4 by decide⟩,h1,h2,h3,h4,ha,h5,⟨r0,r1⟩,hco⟩
 unfold pD;rw[dO];delta dQ;simp only[hg,oBS]
 (with_reducible refine dI (λZ9=>?_) λZ9=>?_)
 ·rw[eT 2];exact mP hm hok (by decide)
 refine Ok.nat p0 λj hj=>?_;subst hj;have Zf:=hp.clen;refine Ok.get (by omega) λx hx=>?_;obtain⟨op,A,B,C,I⟩:=x;obtain⟨⟨o0,o1⟩,⟨A0,A1,_⟩,⟨B0,B1,_⟩,⟨C0,C1,_⟩,⟨I0,I1,_⟩,hlea,hsys,VE⟩:=hp.ins _ (dU hx);dsimp only at *;obtain⟨A,rfl⟩:∃k:Nat,A=k:=⟨A.toNat,by omega⟩;obtain⟨B,rfl⟩:∃k:Nat,B=k:=⟨B.toNat,by omega⟩;obtain⟨C,rfl⟩:∃k:Nat,C=k:=⟨C.toNat,by omega⟩;obtain⟨I,rfl⟩:∃k:Nat,I=k:=⟨I.toNat,by omega⟩;obtain⟨⟨ta,va⟩,gA⟩:∃c,dM rs A=some c:=⟨_,oGE (by omega)⟩;obtain⟨⟨tb,vb⟩,gB⟩:∃c,dM rs B=some c:=⟨_,oGE (by omega)⟩;obtain⟨⟨tc,vc⟩,gC⟩:∃c,dM rs C=some c:=⟨_,oGE (by omega)⟩;have cA:=hr _ (dU gA);have cB:=hr _ (dU gB);have cC:=hr _ (dU gC);have eR:∀f:DCe->DCe,List.modify rs A f=rs.set A (f (ta,va)):=λf=>fc gA f;have w1:w64 ((j:Int)+1)=(j:Int)+1:=dR (by omega) (by omega);have wI:wk .u16 (I:Int)=I:=ek (by omega) (by omega);have Zi:∀{c:DCe},oG (RK bs ss) c->(rs.set A c).length=8/\∀x∈rs.set A c,oG (RK bs ss) x:=λhc=>⟨by rw[List.length_set];exact hl,mn hr hc⟩;have wc:w64 (ct+1)=ct+1:=dR (by omega) (by omega);simp only[dO,hg,gA,gB,oBS,w1,wI]
 rcases(show op=0\/op=1\/op=2\/op=15\/op=16\/op=17\/op=18\/op=19\/op=20\/op=21\/op=22\/op=23\/op=24\/(3<=op/\op<=14) by omega)with rfl|rfl|rfl|rfl|rfl|rfl|rfl|rfl|rfl|rfl|rfl|rfl|rfl|⟨q0,q1⟩
 all_goals try simp only[Int.reduceBEq,oCT,oCF,dO,hg,gA,gB,gC,e1,e2,e3,eR,eT,oBS,w1,wI,wc,iu,nR,Bool.or_false,Bool.or_true,Bool.or_self,bne_self_eq_false]
 ·exact nD hm (mk hl hr (by omega) (by omega) (by omega)) rfl (.inl ⟨rfl,rfl⟩)
 ·exact nD hm (mk (Zi (ms (by omega))).1 (Zi (ms (by omega))).2 (by omega) (by omega) (by omega)) rfl (.inl ⟨rfl,rfl⟩)
 ·exact nD hm (mk (Zi cB).1 (Zi cB).2 (by omega) (by omega) (by omega)) rfl (.inl ⟨rfl,rfl⟩)
 ·have hI:=hlea rfl;have U7:=h.lay.2.1;obtain⟨b,hb⟩:∃b,bs[I]?=some b:=⟨_,oGE (by omega)⟩;obtain⟨z,hz⟩:∃z,ss[I]?=some z:=⟨_,oGE (by omega)⟩;have XW:=h.lay.2.2 I (by omega);unfold Au at XW;rw[fO hb,fO hz]at XW;have hz2:=h.lay.1.2.2 z (dU hz);have wb:wk .u16 b=b:=ek (by omega) (by omega);have gb:dM bs I=some b:=hb;simp only[gb,wb,Int.reduceBEq,oCT,oCF,dO,hg,gA,gB,gC,e1,e2,e3,eR,eT,oBS,w1,wI,wc,iu,nR,Bool.or_false,Bool.or_true,Bool.or_self,bne_self_eq_false];have ZZ:oG (RK bs ss) (1,b):=⟨by dsimp only;omega,by dsimp only;omega,by dsimp only;omega,by dsimp only;omega,λ_=>⟨I,b,z,hb,hz,by dsimp only;omega,by dsimp only;omega⟩⟩;exact nD hm (mk (Zi ZZ).1 (Zi ZZ).2 (by omega) (by omega) (by omega)) rfl (.inl ⟨rfl,rfl⟩)
 ·obtain⟨_,em,t1,x1,e,rfl,ZQ,Vz,VA,WC⟩:=yf (key:=key) (tag:=tb) (v:=vb) (n:=(I:Int)) (back:=false) h.lay ⟨cB.2.2.1,cB.2.2.2.1⟩ ⟨by omega,by omega⟩;simp only[em,oBS];by_cases hne:e=0
  ·subst hne;have wx:wk .i64 x1=x1:=dY (by have:=ZQ.2.2.1;dsimp only at this;omega) (by have:=ZQ.2.2.2.1;dsimp only at this;omega);obtain⟨_,el,t2,x2,Vr,VT,rfl,ZK,hm2⟩:=K4 (a:=x1) hm ⟨ZQ.2.2.1,WC rfl⟩;simp only[wx,el,Int.reduceBEq,oCT,oCF,dO,hg,gA,gB,gC,e1,e2,e3,eR,eT,oBS,w1,wI,wc,iu,nR,Bool.or_false,Bool.or_true,Bool.or_self,bne_self_eq_false];exact nD hm2 (mk (Zi ZK).1 (Zi ZK).2 (by omega) (by omega) (by omega)) rfl (.inl ⟨rfl,rfl⟩)
  ·simp only[bne_iff_ne.2 hne,oCT];exact mP hm hok ⟨Vz,VA⟩
 ·obtain⟨_,em,t1,x1,e,rfl,ZQ,Vz,VA,WC⟩:=yf (key:=key) (tag:=ta) (v:=va) (n:=(I:Int)) (back:=false) h.lay ⟨cA.2.2.1,cA.2.2.2.1⟩ ⟨by omega,by omega⟩;simp only[em,oBS];by_cases hne:e=0
  ·subst hne;have wx:wk .i64 x1=x1:=dY (by have:=ZQ.2.2.1;dsimp only at this;omega) (by have:=ZQ.2.2.2.1;dsimp only at this;omega);obtain⟨_,el,Vr,VT,rfl,hm2⟩:=AD (a:=x1) (t:=tb) (v:=vb) hm ⟨ZQ.2.2.1,WC rfl⟩ cB;simp only[wx,el,Int.reduceBEq,oCT,oCF,dO,hg,gA,gB,gC,e1,e2,e3,eR,eT,oBS,w1,wI,wc,iu,nR,Bool.or_false,Bool.or_true,Bool.or_self,bne_self_eq_false];exact nD hm2 (mk hl hr (by omega) (by omega) (by omega)) rfl (.inl ⟨rfl,rfl⟩)
  ·simp only[bne_iff_ne.2 hne,oCT];exact mP hm hok ⟨Vz,VA⟩
 ·have:=VE (by decide);exact nD hm (mk hl hr (by omega) (by omega) (by omega)) rfl (.inr rfl)
 ·have:=VE (by decide);by_cases hta:ta=0
  ·subst hta
   cases va==0 with
   |true=>
    simp only[BEq.rfl,Int.reduceBEq,oCT,oCF,dO,hg,gA,gB,gC,e1,e2,e3,eR,eT,oBS,w1,wI,wc,iu,nR,Bool.or_false,Bool.or_true,Bool.or_self,bne_self_eq_false];exact nD hm (mk hl hr (by omega) (by omega) (by omega)) rfl (.inr rfl)
   |false=>
    simp only[show(false==true)=false from rfl,Int.reduceBEq,oCT,oCF,dO,hg,gA,gB,gC,e1,e2,e3,eR,eT,oBS,w1,wI,wc,iu,nR,Bool.or_false,Bool.or_true,Bool.or_self,bne_self_eq_false];exact nD hm (mk hl hr (by omega) (by omega) (by omega)) rfl (.inr rfl)
  ·simp only[bne_iff_ne.2 hta,oCT];exact mP hm hok (by decide)
 ·have:=VE (by decide);by_cases hta:ta=0
  ·subst hta
   cases va==0 with
   |true=>
    simp only[show(true==false)=false from rfl,Int.reduceBEq,oCT,oCF,dO,hg,gA,gB,gC,e1,e2,e3,eR,eT,oBS,w1,wI,wc,iu,nR,Bool.or_false,Bool.or_true,Bool.or_self,bne_self_eq_false];exact nD hm (mk hl hr (by omega) (by omega) (by omega)) rfl (.inr rfl)
   |false=>
    simp only[BEq.rfl,Int.reduceBEq,oCT,oCF,dO,hg,gA,gB,gC,e1,e2,e3,eR,eT,oBS,w1,wI,wc,iu,nR,Bool.or_false,Bool.or_true,Bool.or_self,bne_self_eq_false];exact nD hm (mk hl hr (by omega) (by omega) (by omega)) rfl (.inr rfl)
  ·simp only[bne_iff_ne.2 hta,oCT];exact mP hm hok (by decide)
 ·have:=VE (by decide);have wj:wk .u16 ((j:Int)+1)=(j:Int)+1:=ek (by omega) (by omega);rw[wj];exact nD hm (mk (Zi (ms (by omega))).1 (Zi (ms (by omega))).2 (by omega) (by omega) (by omega)) rfl (.inr rfl)
 ·by_cases hta:ta=0
  ·subst hta;have wa:wk .i64 va=va:=dY (by have:=cA.2.2.1;dsimp only at this;omega) (by have:=cA.2.2.2.1;dsimp only at this;omega);have a0:=cA.2.2.1;dsimp only at a0;by_cases hva:va>255
   ·simp only[oDT hva,bne_self_eq_false,oCT,oCF];exact mP hm hok (by decide)
   ·simp only[oDF hva,wa,Int.reduceBEq,oCT,oCF,dO,hg,gA,gB,gC,e1,e2,e3,eR,eT,oBS,w1,wI,wc,iu,nR,Bool.or_false,Bool.or_true,Bool.or_self,bne_self_eq_false];exact nD hm (mk hl hr (by omega) (by omega) (by omega)) rfl (.inr rfl)
  ·simp only[bne_iff_ne.2 hta,oCT];exact mP hm hok (by decide)
 ·refine Ok.ret ⟨_,_,_,_,rfl,hm,⟨⟨show(0:Int)<=2 by decide,show(2:Int)<=4 by decide⟩,hl,hr,⟨by dsimp only;omega,by dsimp only;omega⟩,⟨c0,by dsimp only;omega⟩,ha,⟨s0,s1⟩,⟨r0,r1⟩,hco⟩,.inr (.inr ⟨rfl,rfl,rfl,(23,(A:Int),(B:Int),(C:Int),(I:Int)),by dsimp only;omega,?_,rfl⟩)⟩;dsimp only;rw[show(j:Int)+1-1=(j:Int) by omega,oTN];exact hx
 ·by_cases hsa:sa=-1
  ·simp only[beq_iff_eq.2 hsa,oCT];exact mP hm hok (by decide)
  ·simp only[oBF hsa,Int.reduceBEq,oCT,oCF,dO,hg,gA,gB,gC,e1,e2,e3,eR,eT,oBS,w1,wI,wc,iu,nR,Bool.or_false,Bool.or_true,Bool.or_self,bne_self_eq_false];exact nD hm (mk hl hr (by omega) (by omega) (by omega)) rfl (.inr rfl)
 ·obtain⟨_,ed,t1,x1,e,rfl,ZQ,Vz,VA⟩:=Rr (key:=key) (op:=op) h.lay cB cC;have n0:(op==0)=false:=oBF (by omega);have n1:(op==1)=false:=oBF (by omega);have n2:(op==2)=false:=oBF (by omega);have n15:(op==15)=false:=oBF (by omega);have n16:(op==16)=false:=oBF (by omega);have n17:(op==17)=false:=oBF (by omega);have n18:(op==18)=false:=oBF (by omega);have n19:(op==19)=false:=oBF (by omega);have n20:(op==20)=false:=oBF (by omega);have n21:(op==21)=false:=oBF (by omega);have n22:(op==22)=false:=oBF (by omega);have n23:(op==23)=false:=oBF (by omega);have n24:(op==24)=false:=oBF (by omega);simp only[n0,n1,n2,n15,n16,n17,n18,n19,n20,n21,n22,n23,n24,ed,Int.reduceBEq,oCT,oCF,dO,hg,gA,gB,gC,e1,e2,e3,eR,eT,oBS,w1,wI,wc,iu,nR,Bool.or_false,Bool.or_true,Bool.or_self,bne_self_eq_false];by_cases hne:e=0
  ·subst hne;simp only[n18,n19,n20,n21,n22,n24,Int.reduceBEq,oCT,oCF,dO,hg,gA,gB,gC,e1,e2,e3,eR,eT,oBS,w1,wI,wc,iu,nR,Bool.or_false,Bool.or_true,Bool.or_self,bne_self_eq_false];exact nD hm (mk (Zi ZQ).1 (Zi ZQ).2 (by omega) (by omega) (by omega)) rfl (.inl ⟨rfl,rfl⟩)
  ·simp only[bne_iff_ne.2 hne,oCT];exact mP hm hok ⟨Vz,VA⟩
theorem zr.mono{K:Int->Prop}{n m:Int}{t:DTh}(h:zr K n t)(hm:n<=m):zr K m t:=⟨h.state,h.len,h.regs,h.pc,⟨h.count.1,by have:=h.count.2;omega⟩,h.handler,h.saved,h.trap,h.code⟩
theorem MOk.mono{n m:Int}{ss bs:List Int}{cs:List DCe}{ls:List DLn}{ts:List DTh}(h:MOk n ss bs cs ls ts)(hm:n<=m):MOk m ss bs cs ls ts:=⟨h.lay,h.mem,h.tlen,λt ht=>(h.thr t ht).mono hm⟩
theorem Bq{α:Type}{l:List α}{i:Nat}{a:α}(h:l[i]?=some a):l.set i a=l:=by
 apply List.ext_getElem?
 grind
def RD(code:List DIn)(s:Int)(t':DTh):Prop:=
 (s=0/\t'.1=1)\/(s=2/\t'.1=4)\/(s=1/\t'.1=2/\∃i:DIn,1<=t'.2.2.1/\code[(t'.2.2.1-1).toNat]?=some i/\i.1=23)
def PU(n key:Int)(code:List DIn)(ss bs:List Int)(ts:List DTh)(i:Nat)(r:List Int×Int×List DCe×List DLn×List DTh×Int×Int×Unit):Prop:=
 ∃s Z3 Z0 t',r=(bs,key,Z3,Z0,ts.set i t',s,0,())/\lz (RK bs ss) Z3 Z0/\zr (RK bs ss) n t'/\((s=3/\ts[i]?=some t'/\t'.1≠1)\/RD code s t')
def Rj(i:Nat)(s:Int×Int×(List DIn)×(List (Int))×(List (List (Int)))×Unit×Int×Unit×Unit×Unit×(List (Int))×Int×(List DCe)×(List DLn)×(List DTh)×Unit):Nat:=
 match s.2.2.2.2.2.2.2.2.2.2.2.2.2.2.1[i]? with
 |some t=>((s.2.1-t.2.2.2.1)*256+(255-t.2.2.1)).toNat
 |none=>0
theorem Fv{i:Nat}{a b k:Int}{code:List DIn}{ss bs:List Int}{d:List (List Int)}{cs:List DCe}{ls:List DLn}{ts:List DTh}{t:DTh}(h:ts[i]?=some t):Rj i (a,b,code,ss,d,(),0,(),(),(),bs,k,cs,ls,ts,())=((b-t.2.2.2.1)*256+(255-t.2.2.1)).toNat:=by
 unfold Rj
 simp_all
theorem Mj{n key k:Int}{code:List DIn}{ss bs:List Int}{d:List (List Int)}{cs:List DCe}{ls:List DLn}{ts:List DTh}{i:Nat}(hp:nQ code ss d)(h:MOk n ss bs cs ls ts)(Yj:0<=n)(hn:n+64<=1099511627776)(hi:i<4)(hk:1<=k/\k<=64):
 Ok (mD code ss d bs key cs ls ts (i:Int) k) (PU (n+64) key code ss bs ts i):=by
 have Xo:=h.tlen;obtain⟨t,ht⟩:∃t,ts[i]?=some t:=⟨_,oGE (by omega)⟩;have hg:dM ts i=some t:=ht
 have YN:i<ts.length:=by omega
 have hok:=h.thr t (dU ht);unfold mD;rw[uT hp h (by omega)];simp;rw[oDF (show ¬(i:Int)<0 by omega),oDF (show ¬(i:Int)>=4 by omega),oDF (show ¬k<1 by omega),oDF (show ¬k>64 by omega)];simp only[oBS,oCF,ui h,dO,hg]
 (with_reducible refine dI (λZ9=>?_) λZ9=>?_)
 ·refine Ok.ret ⟨3,cs,ls,t,?_,h.mem,hok.mono (by omega),.inl ⟨rfl,ht,Z9⟩⟩;rw[Bq ht]
 have T1:=hok.count;have hpc:=hok.pc;rw[dR (x:=t.2.2.2.1+k) (by omega) (by omega)]
 refine Ok.loop (P:=λs'=>∃Z3 Z0 t',s'=((i:Int),t.2.2.2.1+k,code,ss,d,(),0,(),(),(),bs,key,Z3,Z0,ts.set i t',())/\lz (RK bs ss) Z3 Z0/\zr (RK bs ss) (n+64) t'/\t'.1=1/\t'.2.2.2.1<t.2.2.2.1+k)
  (R:=λr=>∃s Z3 Z0 t',r=(s,0,bs,key,Z3,Z0,ts.set i t',())/\lz (RK bs ss) Z3 Z0/\zr (RK bs ss) (n+64) t'/\RD code s t') (m:=Rj i) ⟨cs,ls,t,by rw[Bq ht],h.mem,hok.mono (by omega),Z9,by omega⟩ ?_ ?_ ?_
 ·rw[Fv ht];unfold NN;omega
 ·rintro _ ⟨Z3,Z0,t',rfl,hm,X7,hr,hlt⟩;have ZL:(ts.set i t')[i]?=some t':=i3 YN t';unfold qi;dsimp only;refine(Qn hp (((h.mono (show n<=n+64 by omega)).set hm X7):MOk (n+64) ss bs Z3 Z0 (ts.set i t')) ZL hr (by omega) (by omega)).bind ?_;rintro _ ⟨s,Vr,VT,t2,rfl,hm2,Wy,Y9⟩;dsimp only;rw[List.set_set]
  (with_reducible refine dI (λZZ=>?_) λZZ=>?_)
  ·refine Ok.ret ⟨_,_,_,_,rfl,hm2,Wy,?_⟩
   rcases Y9 with⟨q,_⟩|⟨q1,q2,_⟩|⟨q1,q2,_,q3⟩
   ·exact absurd q ZZ
   ·exact .inr (.inl ⟨q1,q2⟩)
   ·exact .inr (.inr ⟨q1,q2,q3⟩)
  ·rw[dO];simp only[oBS,i3 YN];have h0:=Wy.count;have h1:=Wy.pc;have h2:=X7.pc
   rcases Y9 with⟨_,q1,q2⟩|⟨q1,_⟩|⟨q1,_⟩
   ·(with_reducible refine dI (λhcc=>?_) λhcc=>?_)
    ·exact Ok.ret ⟨_,_,_,_,rfl,hm2,Wy,.inl ⟨rfl,q1⟩⟩
    ·refine Ok.ret ⟨⟨_,_,_,rfl,hm2,Wy,q1,by omega⟩,?_⟩;rw[Fv ZL,Fv (i3 YN t2)];omega
   ·omega
   ·omega
 ·rintro _ ⟨s,Z3,Z0,t',rfl,hm,X7,hs⟩;exact Ok.ret ⟨_,_,_,_,rfl,hm,X7,.inr hs⟩
def Ky(bs ss:List Int)(a:Int):Nat->Nat->Option (Int×Int)
 |0,_=>none
 |n+1,k=>if bs.getD k 0<=a/\a<bs.getD k 0+ss.getD k 0 then some ((k:Int),a-bs.getD k 0)else Ky bs ss a n (k+1)
def MI(bs ss:List Int)(a:Int):Option (Int×Int):=Ky bs ss a bs.length 0
theorem Kw{bs ss:List Int}{a r o:Int}:∀{n k:Nat},k+n=bs.length->bs.length=ss.length->Ky bs ss a n k=some (r,o)->∃(j:Nat)(b z:Int),r=j/\o=a-b/\bs[j]?=some b/\ss[j]?=some z/\b<=a/\a<b+z:=by
 intro n
 induction n with
 |zero=>intro k _ _ h;cases h
 |succ n ih=>
  intro k hk hl h;simp only[Ky]at h;split at h
  ·rename_i hh
   injection h with h
   injection h with h1 h2
   refine⟨k,_,_,h1.symm,h2.symm,?_,?_,hh.1,hh.2⟩
   all_goals rw[Lu (by omega)];exact oGE (by omega)
  ·exact ih (by omega) hl h
theorem Kx{bs ss:List Int}{a:Int}:∀{n k:Nat},k+n=bs.length->Ky bs ss a n k=none->∀(j:Nat)(b z:Int),k<=j->bs[j]?=some b->ss[j]?=some z->¬(b<=a/\a<b+z):=by
 intro n
 induction n with
 |zero=>
  simp_all
 |succ n ih=>
  intro k hk h j b z hj hb hz;simp[Ky]at h;split at h
  ·cases h
  ·rename_i hh;by_cases hjk:j=k
   ·simp_all
   ·exact ih (by omega) h j b z (by omega) hb hz
theorem Dx{bs ss:List Int}{a r o:Int}(hl:bs.length=ss.length)(h:MI bs ss a=some (r,o)):∃(j:Nat)(b z:Int),r=j/\o=a-b/\bs[j]?=some b/\ss[j]?=some z/\b<=a/\a<b+z:=Kw (by omega) hl h
theorem Pb{bs ss:List Int}{a:Int}(h:RK bs ss a):∃r o,MI bs ss a=some (r,o):=by
 cases e:MI bs ss a with
 |some x=>exact⟨x.1,x.2,rfl⟩
 |none=>
  have ⟨j,b,z,h1,h2,h3,h4⟩:=h;exact absurd ⟨h3,h4⟩ (Kx (by omega) e j b z (by omega) h1 h2)
theorem AK{bs ss:List Int}{key a:Int}(h:LV bs ss)(ha:W16 a):fC bs key ss a=some (match MI bs ss a with|some (r,o)=>(r,o,true,())|none=>(0,0,false,())):=by
 obtain⟨hs,hl,hr⟩:=h;obtain⟨a0,a1⟩:=ha;have WL:=hs.2.1
 have key1:∀(n k N:Nat),k+n=bs.length->n<N->dZ eQ N (ss,a,bs,(bs.length:Int),(k:Int),bs,key,0,0,())=some (match Ky bs ss a n k with|some (r,o)=>.inl (true,r,o,())|none=>.inr (ss,a,bs,(bs.length:Int),(bs.length:Int),false,bs,key,0,0,())):=by
  intro n
  induction n with
  |zero=>
   intro k N hk hN;obtain⟨N,rfl⟩:∃M,N=M+1:=⟨N-1,by omega⟩
   obtain rfl:k=bs.length:=by omega
   have e:eQ (ss,a,bs,(bs.length:Int),(bs.length:Int),bs,key,0,0,())=some (.inr (.inr (ss,a,bs,(bs.length:Int),(bs.length:Int),false,bs,key,0,0,()))):=by
    refine ff ?_;unfold eQ;dsimp only
    (with_reducible refine dI (λZ9=>?_) λZ9=>?_)
    ·omega
    ·exact Ok.ret rfl
   simp only[dZ,e,oBS,Ky]
  |succ n ih=>
   intro k N hk hN;obtain⟨N,rfl⟩:∃M,N=M+1:=⟨N-1,by omega⟩;obtain⟨b,hb⟩:∃b,bs[k]?=some b:=⟨_,oGE (by omega)⟩;obtain⟨z,hz⟩:∃z,ss[k]?=some z:=⟨_,oGE (by omega)⟩;have hz2:=hs.2.2 z (dU hz);have Vl:=hr k (by omega);unfold Au at Vl;rw[fO hb,fO hz]at Vl;by_cases hh:b<=a/\a<b+z
   ·have e:eQ (ss,a,bs,(bs.length:Int),(k:Int),bs,key,0,0,())=some (.inr (.inl (true,(k:Int),a-b,()))):=by
     refine ff ?_;unfold eQ;dsimp only;rw[oDT (show(k:Int)<bs.length by omega),dO];simp only[oCT,oBS,show dM bs k=some b from hb,show dM ss k=some z from hz];rw[oDT (show a>=b by omega),dR (x:=b+z) (by omega) (by omega),oDT hh.2,dR (x:=a-b) (by omega) (by omega)];exact Ok.ret rfl
    simp only[dZ,e,oBS,Ky,fO hb,fO hz,oIP hh]
   ·have e:eQ (ss,a,bs,(bs.length:Int),(k:Int),bs,key,0,0,())=some (.inl (ss,a,bs,(bs.length:Int),((k+1:Nat):Int),bs,key,0,0,())):=by
     refine ff ?_;unfold eQ;dsimp only;rw[oDT (show(k:Int)<bs.length by omega),dO];simp only[oCT,oBS,show dM bs k=some b from hb,show dM ss k=some z from hz];rw[dR (x:=b+z) (by omega) (by omega)];by_cases h1:a>=b
     ·rw[oDT h1,oDF (show ¬a<b+z by omega)];simp only[oCT,oCF];rw[dR (x:=(k:Int)+1) (by omega) (by omega)];exact Ok.ret rfl
     ·rw[oDF h1];simp only[oCF];rw[dR (x:=(k:Int)+1) (by omega) (by omega)];exact Ok.ret rfl
    simp only[dZ,e,oBS,Ky,fO hb,fO hz,oIN hh];exact ih (k+1) N (by omega) (by omega)
 unfold fC MI;delta dQ
 try dsimp only
 rw[show dZ eQ NN (ss,a,bs,(bs.length:Int),0,bs,key,0,0,())=_ from key1 bs.length 0 NN (by omega) (by unfold NN;omega)]
 cases Ky bs ss a bs.length 0 with
 |some x=>rfl
 |none=>rfl
def wB(bs ss:List Int)(key:Int)(c:DCe):DCn:=
 if c.1=0 then(0,c.2,0,0)else if c.1=2 then(2,wk .u16 (c.2-key),0,0)else match MI bs ss c.2 with|some (r,o)=>(1,0,r,o)|none=>(1,0,-1,c.2)
theorem A9{K:Int->Prop}{bs ss:List Int}{key:Int}{c:DCe}(h:LV bs ss)(hc:oG K c):kH bs key ss c.1 c.2=some ((wB bs ss key c).1,(wB bs ss key c).2.1,(wB bs ss key c).2.2.1,(wB bs ss key c).2.2.2,()):=by
 have ⟨c0,c1,c2,c3,_⟩:=hc;unfold kH wB;rw[dY (by omega) (by omega)];dsimp only;rw[AK h ⟨c2,c3⟩]
 rcases(show c.1=0\/c.1=1\/c.1=2 by omega)with e|e|e<;>rw[e]
 ·rfl
 ·simp
  cases MI bs ss c.2 with
  |some x=>rfl
  |none=>rfl
 ·rfl
theorem oH(x:Int):W16 (wk .u16 x):=pu x
theorem LO{bs ss:List Int}{key:Int}{c:DCe}(h:LV bs ss)(hc:oG (RK bs ss) c):Pr ss (wB bs ss key c):=by
 have ⟨c0,c1,c2,c3,c4⟩:=hc;unfold wB
 rcases(show c.1=0\/c.1=1\/c.1=2 by omega)with e|e|e
 ·rw[oIP e];exact .inl ⟨.inl rfl,rfl,rfl,c2,c3⟩
 ·rw[oIN (by omega),oIN (by omega)];have ⟨r,o,hro⟩:=Pb (c4 e);rw[hro];obtain⟨j,b,z,rfl,rfl,h1,h2,h3,h4⟩:=Dx h.2.1 hro;exact .inr ⟨rfl,rfl,by simp_all,z,by simp_all,by simp_all,by dsimp only;omega⟩
 ·rw[oIN (by omega),oIP e];exact .inl ⟨.inr rfl,rfl,rfl,oH _⟩
theorem HW{K:Int->Prop}{bs ss:List Int}{key:Int}{c:DCe}(hc:oG K c):(wB bs ss key c).1=c.1/\(c.1=0->(wB bs ss key c).2.1=c.2):=by
 have ⟨c0,c1,_⟩:=hc;unfold wB
 rcases(show c.1=0\/c.1=1\/c.1=2 by omega)with e|e|e
 ·simp_all
 ·rw[oIN (by omega),oIN (by omega)]
  cases MI bs ss c.2 with
  |some x=>simp_all
  |none=>simp_all
 ·simp_all
def IT(cs:List DCe)(ls:List DLn)(a:Int):DCe:=
 match ls[(a/4%4).toNat]? with
 |some x=>if x.1=a/4 then x.2.2.getD (a%4).toNat (0,0)else cs.getD a.toNat (0,0)
 |none=>(0,0)
theorem getD_some{α:Type}{l:List α}{k:Nat}{d x:α}(h:l[k]?=some x):l.getD k d=x:=by simp_all
theorem K1{K:Int->Prop}{cs:List DCe}{ls:List DLn}{a:Int}(h:lz K cs ls)(ha:0<=a/\a<512):n8 cs ls a=some ((IT cs ls a).1,(IT cs ls a).2,())/\oG K (IT cs ls a):=by
 obtain⟨a0,a1⟩:=ha;obtain⟨h1,h2,h3,h4,_⟩:=id h;unfold n8 IT;rw[Int.tdiv_eq_ediv_of_nonneg a0,dR (x:=a/4) (by omega) (by omega)];dsimp only;rw[Int.tmod_eq_emod_of_nonneg (show 0<=a/4 by omega),Int.tmod_eq_emod_of_nonneg a0];obtain⟨i,hi⟩:∃i:Nat,a/4%4=i:=⟨(a/4%4).toNat,by omega⟩;rw[hi,dO,oTN];obtain⟨x,hx⟩:∃x,ls[i]?=some x:=⟨_,oGE (by omega)⟩;simp only[oBS,show dM ls i=some x from hx,hx];by_cases hq:x.1=a/4
 ·rcases h4 i x hx with⟨g,_,_⟩|⟨_,_,_,g4,g5⟩
  ·omega
  ·obtain⟨j,hj⟩:∃j:Nat,a%4=j:=⟨(a%4).toNat,by omega⟩;obtain⟨y,hy⟩:∃y,x.2.2[j]?=some y:=⟨_,oGE (by omega)⟩;rw[hj,dO,oTN,oIP hq,getD_some hy,beq_iff_eq.2 hq];simp only[oCT,oBS,show dM x.2.2 j=some y from hy];exact⟨trivial,g5 y (dU hy)⟩
 ·obtain⟨j,rfl⟩:∃j:Nat,a=j:=⟨a.toNat,by omega⟩;obtain⟨y,hy⟩:∃y,cs[j]?=some y:=⟨_,oGE (by omega)⟩;rw[oIN hq,oBF hq,dO,oTN,getD_some hy];simp only[oCF,oBS,show dM cs j=some y from hy];exact⟨trivial,h2 y (dU hy)⟩
def kB(call:Int):List Int:=
 if call=0\/call=8\/call=9\/call=11\/call=12 then[78]else if call=1\/call=2 then[72,80,78]else if call=3 then[78,78]else if call=4 then[72]else if call=5 then[72,78]
 else if call=10 then[78,88]else if call=13\/call=14 then[78,80,78]else[]
theorem Lb(call:Int):(kB call).length<=3:=by
 unfold kB
 repeat' split
 all_goals simp
def BOk(b:ByteArray)(l:List Int):Prop:=Bo b=(l.length:Int)/\∀j:Nat,AC b j=l[j]?
theorem RV:BOk (bytes []) []:=⟨rfl,λj=>rfl⟩
theorem RU{a:Nat}(h:a<256):BOk (bytes [a]) [(a:Int)]:=⟨rfl,λj=>by
 match j with
 |0=>show some (((UInt8.ofNat a).toNat:Nat):Int)=some (a:Int);simp;omega
 |n+1=>rfl⟩
theorem RT{a b:Nat}(h:a<256)(hb:b<256):BOk (bytes [a,b]) [(a:Int),(b:Int)]:=⟨rfl,λj=>by
 match j with
 |0=>show some (((UInt8.ofNat a).toNat:Nat):Int)=some (a:Int);simp;omega
 |1=>show some (((UInt8.ofNat b).toNat:Nat):Int)=some (b:Int);simp;omega
 |n+2=>rfl⟩
theorem RS{a b c:Nat}(h:a<256)(hb:b<256)(hc:c<256):BOk (bytes [a,b,c]) [(a:Int),(b:Int),(c:Int)]:=⟨rfl,λj=>by
 match j with
 |0=>show some (((UInt8.ofNat a).toNat:Nat):Int)=some (a:Int);simp;omega
 |1=>show some (((UInt8.ofNat b).toNat:Nat):Int)=some (b:Int);simp;omega
 |2=>show some (((UInt8.ofNat c).toNat:Nat):Int)=some (c:Int);simp;omega
 |n+3=>rfl⟩
theorem vH{call:Int}(h:0<=call/\call<=15):call=0\/call=1\/call=2\/call=3\/call=4\/call=5\/call=6\/call=7\/call=8\/call=9\/call=10\/call=11\/call=12\/call=13\/call=14\/call=15:=by omega
theorem BE{call:Int}(h:0<=call/\call<=15):∃b,kA call=some (b,())/\BOk b (kB call):=by
 rcases vH h with rfl|rfl|rfl|rfl|rfl|rfl|rfl|rfl|rfl|rfl|rfl|rfl|rfl|rfl|rfl|rfl
 all_goals first
  |exact⟨_,rfl,RV⟩
  |exact⟨_,rfl,RU (by decide)⟩
  |exact⟨_,rfl,RT (by decide) (by decide)⟩
  |exact⟨_,rfl,RS (by decide) (by decide) (by decide)⟩
def Ns(k t:Int):Bool:=if k=78 then t==0 else if k=72 then t==2 else if k=80 then t==1 else true
theorem Ly(k t:Int):lW k t=some (Ns k t,()):=by
 unfold lW Ns;by_cases h1:k=78
 ·simp[h1]
 ·by_cases h2:k=72
  ·simp[h2]
  ·by_cases h3:k=80
   ·simp[h3]
   ·simp[h1,h2,h3,oBF h1,oBF h2,oBF h3]
def sf(call:Int):Int:=if call=1\/call=13 then 1 else if call=2\/call=14 then 2 else 0
theorem uO{call:Int}(h:0<=call/\call<=15):iw call=some (sf call,()):=by
 rcases vH h with rfl|rfl|rfl|rfl|rfl|rfl|rfl|rfl|rfl|rfl|rfl|rfl|rfl|rfl|rfl|rfl<;>rfl
theorem wY{call:Int}(h:0<=call/\call<=15):gZ call=some (((kB call).length:Int),()):=by
 have ⟨b,e,hb⟩:=BE h;unfold gZ;rw[oDF (show ¬call<0 by omega),oDF (show ¬call>15 by omega),e];simp[hb.1]
theorem JD{bs ss:List Int}{key t v n:Int}(h:LV bs ss)(hv:W16 v)(hn:0<=n/\n<=65535):Ok (lE bs key ss t v n) λr=>∃a e,r=(a,e,())/\(e=0->t=1/\a=v/\∃(j:Nat)(b z:Int),bs[j]?=some b/\ss[j]?=some z/\b<=v/\v+n<=b+z/\v<b+z):=by
 obtain⟨v0,v1⟩:=hv;unfold lE
 (with_reducible refine dI (λZ9=>?_) λZ9=>?_)
 ·exact Ok.ret ⟨_,_,rfl,λh=>by omega⟩
 rw[dY (x:=v) (by omega) (by omega)];dsimp only;rw[AK h ⟨v0,v1⟩];simp only[oBS]
 cases e:MI bs ss v with
 |none=>exact Ok.ret ⟨_,_,rfl,λh=>by omega⟩
 |some x=>
  obtain⟨r,o⟩:=x;obtain⟨j,b,z,rfl,rfl,h1,h2,h3,h4⟩:=Dx h.2.1 e;have hj:=(oGS h1).1;have hr:=h.2.2 j hj;unfold Au at hr;rw[fO h1,fO h2]at hr;rw[oDF (show ¬n<0 by omega),dO];simp only[oNT,oCF,oBS,show dM ss j=some z from h2];rw[dR (x:=z-(v-b)) (by omega) (by omega)]
  (with_reducible refine dI (λZZ=>?_) λZZ=>?_)
  ·exact Ok.ret ⟨_,_,rfl,λh=>by omega⟩
  ·exact Ok.ret ⟨_,_,rfl,λ_=>⟨Z9,dY (by omega) (by omega),j,b,z,h1,h2,h3,by omega,h4⟩⟩
structure L8 (call:Int)(m:Int)(bs ss:List Int)(rs:List DCe):Prop where
 fit:∀(j:Nat) k c,(kB call)[j]?=some k->rs[j]?=some c->Ns k c.1=true
 buf:0<sf call->∃p q,rs[1]?=some p/\rs[2]?=some q/\q.2<=16/\p.1=1/\∃(j:Nat)(b z:Int),bs[j]?=some b/\ss[j]?=some z/\b<=p.2/\p.2+q.2<=b+z
 code:call=10\/call=12->∃c,rs[0]?=some c/\c.2<m
theorem GL{call m:Int}{bs ss:List Int}{rs:List DCe}(h:L8 call m bs ss rs):Ok (some ((0:Int),())) λr=>∃e,r=(e,())/\0<=e/\e<=6/\(e=0->L8 call m bs ss rs):=Ok.ret ⟨0,rfl,by decide,by decide,λ_=>h⟩
theorem zd{call m:Int}{bs ss:List Int}{rs:List DCe}:Ok (some ((6:Int),())) λr=>∃e,r=(e,())/\0<=e/\e<=6/\(e=0->L8 call m bs ss rs):=Ok.ret ⟨6,rfl,by decide,by decide,λh=>absurd h (by decide)⟩
theorem Jp{n key:Int}{code:List DIn}{ss bs:List Int}{d:List (List Int)}{cs:List DCe}{ls:List DLn}{ts:List DTh}{i:Nat}{t:DTh}{x:DIn}(h:MOk n ss bs cs ls ts)(ht:ts[i]?=some t)(hp1:1<=t.2.2.1)
 (hx:code[(t.2.2.1-1).toNat]?=some x)(hc:0<=x.2.2.2.2/\x.2.2.2.2<=15):Ok (mC code ss d bs key cs ls ts (i:Int)) λr=>∃e,r=(e,())/\0<=e/\e<=6/\(e=0->L8 x.2.2.2.2 code.length bs ss t.2.1):=by
 have hok:=h.thr t (dU ht);obtain⟨_,hl,hr,⟨p0,p1⟩,_⟩:=id hok;obtain⟨o,A,B,C,call⟩:=x;dsimp only at hc⊢;obtain⟨b,eb,hb1,hb2⟩:=BE hc;have hk3:=Lb call;obtain⟨st,rs,pc,rest⟩:=t;dsimp only at *;obtain⟨j,hj⟩:∃j:Nat,pc-1=j:=⟨(pc-1).toNat,by omega⟩;rw[hj,oTN]at hx;unfold mC;rw[dO];simp only[oBS,show dM ts i=some (st,rs,pc,rest)from ht];rw[dR (x:=pc-1) (by omega) (by omega),hj,dO];simp only[oBS,show dM code j=some (o,A,B,C,call)from hx,eb,hb1];obtain⟨c0,hc0⟩:∃c,rs[0]?=some c:=⟨_,oGE (by omega)⟩;obtain⟨c1,ZQ⟩:∃c,rs[1]?=some c:=⟨_,oGE (by omega)⟩;obtain⟨c2,ZK⟩:∃c,rs[2]?=some c:=⟨_,oGE (by omega)⟩;have v0:=hr c0 (dU hc0);have v1:=hr c1 (dU ZQ);have v2:=hr c2 (dU ZK);have g0:dM rs 0=some c0:=hc0;have g1:dM rs 1=some c1:=ZQ;have g2:dM rs 2=some c2:=ZK
 obtain⟨y,e,hy⟩:=iv (f:=mg) (n:=NN) (s:=(call,b,((kB call).length:Int),0,code,ss,d,bs,key,cs,ls,ts,st,rs,pc,rest.1,rest.2.1,rest.2.2.1,rest.2.2.2.1,rest.2.2.2.2,()))
  (P:=λs'=>∃q:Nat,s'=(call,b,((kB call).length:Int),(q:Int),code,ss,d,bs,key,cs,ls,ts,st,rs,pc,rest.1,rest.2.1,rest.2.2.1,rest.2.2.2.1,rest.2.2.2.2,())/\q<=(kB call).length/\∀(j:Nat) k c,j<q->(kB call)[j]?=some k->rs[j]?=some c->Ns k c.1=true)
  (R:=λr=>r=.inl (6,())\/(∃q,r=.inr (call,b,((kB call).length:Int),q,false,code,ss,d,bs,key,cs,ls,ts,st,rs,pc,rest.1,rest.2.1,rest.2.2.1,rest.2.2.2.1,rest.2.2.2.2,())/\∀(j:Nat) k c,(kB call)[j]?=some k->rs[j]?=some c->Ns k c.1=true))
  (m:=λs'=>(s'.2.2.1-s'.2.2.2.1).toNat) ⟨0,rfl,by omega,λj k c hj=>by omega⟩ (by unfold NN;dsimp only;omega) (by
   rintro _ ⟨q,rfl,hq,ZR⟩;unfold mg;dsimp only
   (with_reducible refine dI (λZ9=>?_) λZ9=>?_)
   ·rw[dO];obtain⟨k,hk⟩:∃k,(kB call)[q]?=some k:=⟨_,oGE (by omega)⟩;obtain⟨c,hcq⟩:∃c,rs[q]?=some c:=⟨_,oGE (by omega)⟩;simp only[oBS,hb2 q,hk,show dM rs q=some c from hcq,Ly]
    (with_reducible refine dI (λZZ=>?_) λZZ=>?_)
    ·exact Ok.ret (.inl rfl)
    ·rw[dR (x:=(q:Int)+1) (by omega) (by omega)];refine Ok.ret ⟨⟨q+1,rfl,by omega,λj' k' c' ZU h1 h2=>?_⟩,by dsimp only;omega⟩;by_cases hjq:j'=q
     ·subst hjq;rw[hk]at h1;rw[hcq]at h2;cases h1;cases h2;exact ZZ
     ·exact ZR j' k' c' (by omega) h1 h2
   ·refine Ok.ret (.inr ⟨_,rfl,λj k c h1 h2=>ZR j k c ?_ h1 h2⟩);have:=(oGS h1).1
    omega)
 rw[e];rcases hy with rfl|⟨q,rfl,ZR⟩
 ·exact zd
 dsimp only;rw[uO hc];delta dQ;simp only[oBS,g0,g1,g2];rw[dY (x:=c2.2) (by have:=v2.2.2.1;omega) (by have:=v2.2.2.2.1;omega),dY (x:=c0.2) (by have:=v0.2.2.1;omega) (by have:=v0.2.2.2.1;omega)]
 have ZX:(0<sf call->∃p q,rs[1]?=some p/\rs[2]?=some q/\q.2<=16/\p.1=1/\∃(j:Nat)(b z:Int),bs[j]?=some b/\ss[j]?=some z/\b<=p.2/\p.2+q.2<=b+z)->Ok ((bif(call==10)then(some ((decide (c0.2>=(code.length:Int))),()))else
  bif(call==12)then(some ((decide (c0.2>=(code.length:Int))),()))else some (false,()):Option (Bool×Unit)).bind λ(x35,_)=>bif x35 then(some ((6:Int),()))else some (0,()))
  λr=>∃e,r=(e,())/\0<=e/\e<=6/\(e=0->L8 call code.length bs ss rs):=by
  intro hbuf;by_cases q10:call=10
  ·simp only[beq_iff_eq.2 q10,oCT,oBS]
   (with_reducible refine dI (λZZ=>?_) λZZ=>?_)
   ·exact zd
   ·exact GL ⟨ZR,hbuf,λ_=>⟨c0,hc0,by omega⟩⟩
  ·by_cases q12:call=12
   ·simp only[oBF q10,beq_iff_eq.2 q12,oCT,oCF,oBS]
    (with_reducible refine dI (λZZ=>?_) λZZ=>?_)
    ·exact zd
    ·exact GL ⟨ZR,hbuf,λ_=>⟨c0,hc0,by omega⟩⟩
   ·simp only[oBF q10,oBF q12,oCF,oBS];exact GL ⟨ZR,hbuf,λh=>by omega⟩
 (with_reducible refine dI (λZ9=>?_) λZ9=>?_)
 ·refine(JD (t:=c1.1) (v:=c1.2) (n:=c2.2) h.lay ⟨v1.2.2.1,v1.2.2.2.1⟩ ⟨v2.2.2.1,v2.2.2.2.1⟩).bind ?_;rintro _ ⟨a,e,rfl,he⟩;dsimp only
  (with_reducible refine dI (λZZ=>?_) λZZ=>?_)
  ·exact zd
  obtain⟨w1,_,j,b',z,w2,w3,w4,w5,w6⟩:=he ZZ
  (with_reducible refine dI (λhcc=>?_) λhcc=>?_)
  ·exact zd
  exact ZX λ_=>⟨c1,c2,ZQ,ZK,by omega,w1,j,b',z,w2,w3,w4,w5⟩
 ·exact ZX λh=>by omega
structure xr (n:Int)(ss:List Int)(i stop trap count pc call:Int)(args data:List DCn):Prop where
 hthr:0<=i/\i<4
 hstop:0<=stop/\stop<=3
 htrap:0<=trap/\trap<=6
 hcnt:0<=count/\count<=n
 hpc:0<=pc/\pc<=255
 hcall:0<=call/\call<=15
 hargs:args.length<=3/\∀c∈args,Pr ss c
 hdata:data.length<=16/\∀c∈data,Pr ss c
 hkind:stop=1->args.length=(kB call).length/\∀(j:Nat) k a,(kB call)[j]?=some k->args[j]?=some a->Ns k a.1=true
 hbuf:stop=1->sf call=2->∃a,args[2]?=some a/\a.2.1<=16
def RE(stop trap:Int)(t':DTh):Prop:=(stop=0/\t'.1=1)\/(stop=1/\t'.1=2)\/(stop=2/\t'.1=4/\t'.2.2.2.2.2.2.1=trap)\/(stop=3/\t'.1≠1)
def H9(n key:Int)(ss bs:List Int)(ts:List DTh)(i:Nat)(r:(List (Int))×Int×(List DCe)×(List DLn)×(List DTh)×Int×Int×Int×Int×Int×Int×(List DCn)×(List DCn)×Int×Unit):Prop:=
 ∃Z3 Z0 t' stop trap call args data,r=(bs,key,Z3,Z0,ts.set i t',(i:Int),stop,trap,t'.2.2.2.1,t'.2.2.1,call,args,data,0,())/\lz (RK bs ss) Z3 Z0/\zr (RK bs ss) n t' /\
  xr n ss i stop trap t'.2.2.2.1 t'.2.2.1 call args data/\RE stop trap t'/\(stop=3->ts[i]?=some t')
theorem xx{n:Int}{ss bs:List Int}{i:Nat}{t':DTh}{stop trap:Int}(hi:i<4)(ht:zr (RK bs ss) n t')(hs:0<=stop/\stop<=3)(hs1:stop≠1)(htr:0<=trap/\trap<=6):xr n ss i stop trap t'.2.2.2.1 t'.2.2.1 0 [] []:=
 ⟨⟨by omega,by omega⟩,hs,htr,ht.count,ht.pc,by decide,⟨by decide,eG⟩,⟨by decide,eG⟩,λh=>absurd h hs1,λh=>absurd h hs1⟩
theorem tS{α β:Type}(f:α->β){l:List α}{k:Nat}{x:α}(h:l[k]?=some x):(l.take k).map f++[f x]=(l.take (k+1)).map f:=by
 rw[List.take_add_one,h];simp
theorem zC{β:Type}(f:Nat->β)(k:Nat):(List.range k).map f++[f k]=(List.range (k+1)).map f:=by
 rw[List.range_succ];simp
set_option maxHeartbeats 4000000 in
theorem xR{n key k:Int}{code:List DIn}{ss bs:List Int}{d:List (List Int)}{cs:List DCe}{ls:List DLn}{ts:List DTh}{i:Nat}(hp:nQ code ss d)(h:MOk n ss bs cs ls ts)(Yj:0<=n)(hn:n+64<=1099511627776)(hi:i<4)(hk:1<=k/\k<=64):
 Ok (lX code ss d bs key cs ls ts (i:Int) k) (H9 (n+64) key ss bs ts i):=by
 have Xo:=h.tlen
 have YN:i<ts.length:=by omega
 unfold lX;refine(Mj hp h Yj hn hi hk).bind ?_;rintro _ ⟨s,Z3,Z0,t',rfl,hm,ZL,hs⟩;have hM:MOk (n+64) ss bs Z3 Z0 (ts.set i t'):=(h.mono (show n<=n+64 by omega)).set hm ZL;have I':(ts.set i t')[i]?=some t':=i3 YN t';dsimp only;simp only[bne_self_eq_false,oCF,dO,oBS,i3 YN]
 rcases hs with⟨rfl,hs1,Y9⟩|⟨rfl,hs1⟩|⟨rfl,hs1⟩|⟨rfl,hs1,x,Y9,Sc,WL⟩
 ·exact Ok.ret ⟨_,_,_,_,_,_,_,_,rfl,hm,ZL,xx hi ZL (by decide) (by decide) (by decide),.inr (.inr (.inr ⟨rfl,Y9⟩)),λ_=>hs1⟩
 ·exact Ok.ret ⟨_,_,_,_,_,_,_,_,rfl,hm,ZL,xx hi ZL (by decide) (by decide) (by decide),.inl ⟨rfl,hs1⟩,λh=>absurd h (by decide)⟩
 ·exact Ok.ret ⟨_,_,_,_,_,_,_,_,rfl,hm,ZL,xx hi ZL (by decide) (by decide) ZL.trap,.inr (.inr (.inl ⟨rfl,hs1,rfl⟩)),λh=>absurd h (by decide)⟩
 ·have Yg:=hp.ins x (dU Sc);have hcall:0<=x.2.2.2.2/\x.2.2.2.2<=15:=⟨Yg.imm.1,Yg.sys WL⟩;obtain⟨_,ec,e,rfl,Vz,VA,SO⟩:=Jp (key:=key) (d:=d) hM I' Y9 Sc hcall;obtain⟨o,A,B,C,call⟩:=x;dsimp only at hcall SO;have hk3:=Lb call;have hl8:=ZL.len;obtain⟨j,hj⟩:∃j:Nat,t'.2.2.1-1=j:=⟨(t'.2.2.1-1).toNat,by omega⟩;have hpc:=ZL.pc;rw[hj,oTN]at Sc;rw[dR (x:=t'.2.2.1-1) (by omega) (by omega),hj];simp only[Int.reduceBEq,oCT,oCF,ec,oBS,dO,show dM code j=some (o,A,B,C,call)from Sc,wY hcall];by_cases hne:e=0
  ·subst hne;obtain⟨ZR,hbuf,_⟩:=SO rfl
   have e1:dZ iQ NN (((kB call).length:Int),0,code,ss,d,(),0,(),(),(),0,0,0,0,0,0,(),(),bs,key,Z3,Z0,ts.set i t',t'.1,t'.2.1,t'.2.2.1,t'.2.2.2.1,t'.2.2.2.2.1,t'.2.2.2.2.2.1,t'.2.2.2.2.2.2.1,t'.2.2.2.2.2.2.2,(i:Int),1,0,t'.2.2.2.1,t'.2.2.1,call,[],(),())=
    some (((kB call).length:Int),((kB call).length:Int),false,code,ss,d,(),0,(),(),(),0,0,0,0,0,0,(),(),bs,key,Z3,Z0,ts.set i t',t'.1,t'.2.1,t'.2.2.1,t'.2.2.2.1,t'.2.2.2.2.1,t'.2.2.2.2.2.1,t'.2.2.2.2.2.2.1,t'.2.2.2.2.2.2.2,(i:Int),1,0,t'.2.2.2.1,t'.2.2.1,call,(t'.2.1.take (kB call).length).map (wB bs ss key),(),()):=by
    refine s6 (f:=iQ) (N:=NN) (st:=λq=>(((kB call).length:Int),(q:Int),code,ss,d,(),0,(),(),(),0,0,0,0,0,0,(),(),bs,key,Z3,Z0,ts.set i t',t'.1,t'.2.1,t'.2.2.1,t'.2.2.2.1,t'.2.2.2.2.1,t'.2.2.2.2.2.1,t'.2.2.2.2.2.2.1,t'.2.2.2.2.2.2.2,(i:Int),1,0,t'.2.2.2.1,t'.2.2.1,call,(t'.2.1.take q).map (wB bs ss key),(),())) (n:=(kB call).length) (by unfold NN;omega) ?_ ?_
    ·intro q hq;unfold iQ;dsimp only;rw[oDT (show(q:Int)<(kB call).length by omega),dO];simp only[oCT,oBS];refine Ok.get (by omega) λc hc=>?_;rw[A9 h.lay (ZL.regs c (dU hc))];simp only[oBS];refine dK (ee (by simp;omega)) ?_;rw[dR (x:=(q:Int)+1) (by omega) (by omega)];refine Ok.ret ?_;rw[<- tS (wB bs ss key) hc];rfl
    ·unfold iQ;dsimp only;rw[oDF (show ¬((kB call).length:Int)<(kB call).length by omega)];exact Ok.ret rfl
   have hargs:((t'.2.1.take (kB call).length).map (wB bs ss key)).length=(kB call).length:=by rw[List.length_map,oLT];omega
   have SY:∀(j:Nat) a,((t'.2.1.take (kB call).length).map (wB bs ss key))[j]?=some a->∃c,t'.2.1[j]?=some c/\a=wB bs ss key c:=by
    intro j a ha;rw[List.getElem?_map]at ha
    cases hc:(t'.2.1.take (kB call).length)[j]? with
    |none=>rw[hc]at ha;cases ha
    |some c=>
     rw[hc]at ha
     injection ha with ha
     refine⟨c,?_,ha.symm⟩;rw[List.getElem?_take]at hc;split at hc
     ·exact hc
     ·cases hc
   have Vv:∀c∈(t'.2.1.take (kB call).length).map (wB bs ss key),Pr ss c:=by
    intro c hc;obtain⟨c',X0,rfl⟩:=List.mem_map.1 hc;exact LO h.lay (ZL.regs c' (List.mem_of_mem_take X0))
   have UK:∀(j:Nat) k a,(kB call)[j]?=some k->((t'.2.1.take (kB call).length).map (wB bs ss key))[j]?=some a->Ns k a.1=true:=by
    intro j k a hk ha;obtain⟨c,hc,rfl⟩:=SY j a ha;rw[(HW (ZL.regs c (dU hc))).1];exact ZR j k c hk hc
   have SE:sf call=2->∃a,((t'.2.1.take (kB call).length).map (wB bs ss key))[2]?=some a/\a.2.1<=16:=by
    intro hb;obtain⟨p,q,hp1,YR,Tl,_⟩:=hbuf (by omega)
    have hkk:(kB call)[2]?=some 78:=by
     have:call=2\/call=14:=by unfold sf at hb;split at hb<;>first|omega|(split at hb<;>omega)
     rcases this with rfl|rfl<;>rfl
    have hf:=ZR 2 78 q hkk YR;have hl3:=(oGS hkk).1;refine⟨wB bs ss key q,?_,?_⟩
    ·rw[List.getElem?_map,List.getElem?_take,oIP hl3,YR];rfl
    ·have hq:=(HW (bs:=bs) (ss:=ss) (key:=key) (ZL.regs q (dU YR))).2 (by unfold Ns at hf;simpa using hf);rw[hq];exact Tl
   simp only[e1,bne_self_eq_false,oCF,oBS,uO hcall]
   have ZX:∀data:List DCn,data.length<=16->(∀c∈data,Pr ss c)->Ok (some (bs,key,Z3,Z0,ts.set i t',(i:Int),(1:Int),(0:Int),t'.2.2.2.1,t'.2.2.1,call,(t'.2.1.take (kB call).length).map (wB bs ss key),data,(0:Int),())) (H9 (n+64) key ss bs ts i):=
    λdata h1 h2=>Ok.ret ⟨_,_,_,_,_,_,_,_,rfl,hm,ZL,⟨⟨by omega,by omega⟩,by decide,by decide,ZL.count,ZL.pc,hcall,⟨by omega,Vv⟩,⟨h1,h2⟩,λ_=>⟨hargs,UK⟩,λ_=>SE⟩,.inr (.inl ⟨rfl,hs1⟩),λh=>absurd h (by decide)⟩
   by_cases hb1:sf call=1
   ·obtain⟨p,q,hp1,YR,Tl,_,jr,b,z,SG,hbz2,hbz3,hbz4⟩:=hbuf (by omega);have hp':=ZL.regs p (dU hp1);have T9:=ZL.regs q (dU YR);have hjr:=(oGS SG).1;have Tm:=h.lay.2.2 jr hjr;unfold Au at Tm;rw[fO SG,fO hbz2]at Tm;obtain⟨m,hqm⟩:∃m:Nat,q.2=m:=⟨q.2.toNat,by have:=T9.2.2.1;omega⟩
    have e2:dZ iP NN ((m:Int),0,code,ss,d,(),0,(),(),(),0,0,0,0,0,0,(),(),bs,key,Z3,Z0,ts.set i t',t'.1,t'.2.1,t'.2.2.1,t'.2.2.2.1,t'.2.2.2.2.1,t'.2.2.2.2.2.1,t'.2.2.2.2.2.2.1,t'.2.2.2.2.2.2.2,(i:Int),1,0,t'.2.2.2.1,t'.2.2.1,call,(t'.2.1.take (kB call).length).map (wB bs ss key),[],())=
     some ((m:Int),(m:Int),false,code,ss,d,(),0,(),(),(),0,0,0,0,0,0,(),(),bs,key,Z3,Z0,ts.set i t',t'.1,t'.2.1,t'.2.2.1,t'.2.2.2.1,t'.2.2.2.2.1,t'.2.2.2.2.2.1,t'.2.2.2.2.2.2.1,t'.2.2.2.2.2.2.2,(i:Int),1,0,t'.2.2.2.1,t'.2.2.1,call,(t'.2.1.take (kB call).length).map (wB bs ss key),(List.range m).map (λj:Nat=>wB bs ss key (IT Z3 Z0 (p.2+(j:Int)))),()):=by
     refine s6 (f:=iP) (N:=NN) (st:=λq=>((m:Int),(q:Int),code,ss,d,(),0,(),(),(),0,0,0,0,0,0,(),(),bs,key,Z3,Z0,ts.set i t',t'.1,t'.2.1,t'.2.2.1,t'.2.2.2.1,t'.2.2.2.2.1,t'.2.2.2.2.2.1,t'.2.2.2.2.2.2.1,t'.2.2.2.2.2.2.2,(i:Int),1,0,t'.2.2.2.1,t'.2.2.1,call,(t'.2.1.take (kB call).length).map (wB bs ss key),(List.range q).map (λj:Nat=>wB bs ss key (IT Z3 Z0 (p.2+(j:Int)))),())) (n:=m) (by unfold NN;omega) ?_ ?_
     ·intro v hv;unfold iP;dsimp only;have Q':=hp'.2.2.1;have hp01:=hp'.2.2.2.1;rw[oDT (show(v:Int)<m by omega)];simp only[oCT,oBS,show dM t'.2.1 1=some p from hp1];rw[dY (x:=p.2) (by omega) (by omega),dR (x:=p.2+v) (by omega) (by omega)];obtain⟨N0,Os⟩:=K1 (a:=p.2+v) hm ⟨by omega,by omega⟩;rw[N0];simp only[oBS];rw[A9 h.lay Os];simp only[oBS];refine dK (ee (by simp;omega)) ?_;rw[dR (x:=(v:Int)+1) (by omega) (by omega)];refine Ok.ret ?_;rw[<- zC];rfl
     ·unfold iP;dsimp only;rw[oDF (show ¬(m:Int)<m by omega)];exact Ok.ret rfl
    simp only[hb1,BEq.rfl,oCT,show dM t'.2.1 2=some q from YR,oBS];rw[dY (x:=q.2) (by omega) (by omega),hqm,e2];simp only[oBS];refine ZX _ (by rw[List.length_map,List.length_range];omega) ?_;intro c hc;obtain⟨v,hv,rfl⟩:=List.mem_map.1 hc;have hv:=List.mem_range.1 hv;have Q':=hp'.2.2.1;exact LO h.lay (K1 (a:=p.2+v) hm ⟨by omega,by omega⟩).2
   ·simp only[oBF hb1,oCF];exact ZX [] (by decide) eG
  ·unfold nu lD;simp only[bne_iff_ne.2 hne,oCT];rw[ee (show 4<=1000/\0+t'.2.1.length<=1000000 by omega)];simp only[oCT,oBS,dO,i3 YN,oN YN];exact Ok.ret ⟨_,_,_,_,_,_,_,_,rfl,hm,ZL.ended ⟨Vz,VA⟩,xx hi (ZL.ended ⟨Vz,VA⟩) (by decide) (by decide) ⟨Vz,VA⟩,.inr (.inr (.inl ⟨rfl,rfl,rfl⟩)),λh=>absurd h (by decide)⟩
theorem FS{a b:Int}:mmR false a b<=a/\mmR false a b<=b/\(mmR false a b=a\/mmR false a b=b):=by
 unfold mmR;simp;omega
theorem rY{α:Type}{l:List α}{i j:Nat}(h:i≠j)(a:α):(l.set i a)[j]?=l[j]?:=by
 simp_all
theorem PW.setFile{d:List (List DCn)}{o:DOp}{f:Nat}{x y:List DCn}(h:PW d o)(hf:d[f]?=some x)(WO:x.length<=y.length):PW (d.set f y) o:=by
 rcases h with h|⟨h1,z,h2,h3,h4⟩
 ·exact .inl h
 ·refine .inr ⟨h1,?_⟩;by_cases e:f=o.1.toNat
  ·subst e;rw[hf]at h2;cases h2;exact⟨y,i3 (oGS hf).1 y,h3,by omega⟩
  ·simp_all
theorem fU.setFile{ss:List Int}{d:List (List DCn)}{os:List DOp}{f:Nat}{x y:List DCn}(h:fU ss d os)(hf:d[f]?=some x)(h64:y.length<=64)(hc:∀c∈y,Pr ss c)(WO:x.length<=y.length):fU ss (d.set f y) os:=
 ⟨by rw[List.length_set];exact h.dlen,mn h.flen h64,mn h.cells hc,h.olen,λo ho=>(h.opens o ho).setFile hf WO⟩
theorem fU.setOpen{ss:List Int}{d:List (List DCn)}{os:List DOp}{i:Nat}{o:DOp}(h:fU ss d os)(ho:PW d o):fU ss d (os.set i o):=
 ⟨h.dlen,h.flen,h.cells,by rw[List.length_set];exact h.olen,mn h.opens ho⟩
theorem Bz{ss:List Int}{d:List (List DCn)}{os:List DOp}{h:Int}(hF:fU ss d os):∃b,ib d os h=some (b,())/\(b=true->∃(j f:Nat)(o:DOp)(x:List DCn),h=j/\j<8/\os[j]?=some o/\o.1=f/\d[f]?=some x/\0<=o.2.1/\o.2.1<=x.length):=by
 have:Ok (ib d os h) λr=>∃b,r=(b,())/\(b=true->∃(j f:Nat)(o:DOp)(x:List DCn),h=j/\j<8/\os[j]?=some o/\o.1=f/\d[f]?=some x/\0<=o.2.1/\o.2.1<=x.length):=by
  unfold ib;delta dQ
  (with_reducible refine dI (λZ9=>?_) λZ9=>?_)
  ·(with_reducible refine dI (λZZ=>?_) λZZ=>?_)
   ·refine Ok.nat (by omega) λj hj=>?_;have h8:=hF.olen;refine Ok.get (by omega) λo ho=>?_;refine Ok.ret ⟨_,rfl,λhb=>?_⟩
    rcases hF.opens o (dU ho)with⟨h1,_⟩|⟨h1,x,h2,h3,h4⟩
    ·simp_all
    ·exact⟨j,o.1.toNat,o,x,hj,by omega,ho,by omega,h2,h3,h4⟩
   ·exact Ok.ret ⟨_,rfl,λh=>by cases h⟩
  ·exact Ok.ret ⟨_,rfl,λh=>by cases h⟩
 obtain⟨_,e,b,rfl,hb⟩:=this;exact⟨b,e,hb⟩
theorem uh{ss:List Int}{d:List (List DCn)}{os:List DOp}(h:fU ss d os):gK d os=some (d,os,()):=
 copy17_ok (by have:=h.dlen;omega) (λx hx=>by have:=h.flen x hx;omega) (by have:=h.olen;omega)
theorem Ie{ss:List Int}{d:List (List DCn)}{os:List DOp}{h:Int}{l:List DCn}(hs:At ss)(hF:fU ss d os)(hl:l.length<=16)(VG:∀c∈l,Pr ss c):
 Ok (mz d os h l) λr=>∃d' Zb n b,r=(d',Zb,n,b,())/\fU ss d' Zb/\0<=n/\n<=16:=by
 obtain⟨b,eo,hb⟩:=Bz (h:=h) hF;unfold mz;rw[uh hF];simp only[oBS,eo]
 cases b with
 |false=>
  simp only[Bool.not_false,oCT,oBS];exact Ok.ret ⟨_,_,_,_,rfl,hF,by decide,by decide⟩
 |true=>
  obtain⟨j,f,o,x,rfl,hj,ho,hof,hx,o0,o1⟩:=hb rfl;have hg:dM os j=some o:=ho;have Wl:dM d f=some x:=hx;have hjl:=(oGS ho).1;have Zx:=(oGS hx).1;have UT:=hF.flen x (dU hx);simp only[oNT,oCF,dO,oBS,hg]
  cases hw:o.2.2 with
  |false=>
   simp only[Bool.not_false,oCT,oBS];exact Ok.ret ⟨_,_,_,_,rfl,hF,by decide,by decide⟩
  |true=>
   delta dQ;simp only[oNT,oCF,oBS,m9 (n:=(l.length:Int)) hs VG (by omega) (by omega),dO,hg,hof,Wl];rw[dR (x:=64-o.2.1) (by omega) (by omega)];obtain⟨m1,m2,m3⟩:=FS (a:=(l.length:Int)) (b:=64-o.2.1);generalize mmR false (l.length:Int) (64-o.2.1)=k at m1 m2 m3
   refine Ok.loop (P:=λs'=>∃(i:Nat)(y:List DCn),s'=(l,j,k,k,(i:Int),(),(),d,f,os,y,())/\(i:Int)<=k/\(∀c∈y,Pr ss c)/\x.length<=y.length/\o.2.1+i<=y.length/\y.length<=64)
    (R:=λr=>∃y:List DCn,r=(l,j,k,k,k,false,(),(),d,f,os,y,())/\(∀c∈y,Pr ss c)/\x.length<=y.length/\o.2.1+k<=y.length/\y.length<=64) (m:=λs'=>(k-s'.2.2.2.2.1).toNat) ⟨0,x,rfl,by omega,hF.cells x (dU hx),by omega,by omega,UT⟩ (by unfold NN;dsimp only;omega) ?_ ?_
   ·rintro _ ⟨i,y,rfl,hi,hy,WO,hoy,UU⟩;unfold qg;dsimp only
    (with_reducible refine dI (λZ9=>?_) λZ9=>?_)
    ·delta dQ;simp only[hg,oBS,dO];rw[dR (x:=o.2.1+i) (by omega) (by omega)];obtain⟨c,hc⟩:∃c,l[i]?=some c:=⟨_,oGE (by omega)⟩;have ZE:dM l i=some c:=hc;have U':=VG c (dU hc);simp only[ZE,oBS];refine Ok.bind (P:=λr=>∃y':List DCn,r=(l,j,k,k,(i:Int),(),(),d,f,os,y',())/\(∀c∈y',Pr ss c)/\x.length<=y'.length/\o.2.1+i+1<=y'.length/\y'.length<=64) ?_ ?_
     ·(with_reducible refine dI (λZZ=>?_) λZZ=>?_)
      ·refine Ok.nat (by omega) λq hq=>?_;refine Ok.get (by omega) λ_ hz=>?_;refine Ok.get (by omega) λ_ _=>?_;rw[fc hz];exact Ok.ret ⟨_,rfl,mn hy U',by rw[List.length_set];omega,by rw[List.length_set];omega,by rw[List.length_set];omega⟩
      ·refine dK (ee (by simp;omega)) ?_;exact Ok.ret ⟨_,rfl,ir hy (all_cons U' eG),by rw[ft];omega,by rw[ft,List.length_singleton];omega,by rw[ft,List.length_singleton];omega⟩
     ·rintro _ ⟨y',rfl,g1,g2,g3,g4⟩;dsimp only;rw[dR (x:=(i:Int)+1) (by omega) (by omega)];exact Ok.ret ⟨⟨i+1,y',rfl,by omega,g1,g2,by omega,g4⟩,by dsimp only;omega⟩
    ·obtain rfl:(i:Int)=k:=by omega
     exact Ok.ret ⟨y,rfl,hy,WO,hoy,UU⟩
   ·rintro _ ⟨y,rfl,hy,WO,hoy,UU⟩;dsimp only;simp only[hg,oBS,hof,dO,Wl];refine dK (by simp) ?_;rw[dR (x:=o.2.1+k) (by omega) (by omega),fc hx,fc ho];refine Ok.ret ⟨_,_,_,_,rfl,(hF.setFile hx UU hy WO).setOpen (.inr ⟨by dsimp only;omega,y,?_,by dsimp only;omega,by dsimp only;omega⟩),by omega,by omega⟩;dsimp only;rw[hof,oTN];exact i3 Zx y
theorem KB{ss:List Int}{d:List (List DCn)}{os:List DOp}{h n:Int}(hF:fU ss d os)(hn:0<=n/\n<=65535):
 Ok (nY d os h n) λr=>(∃d' Zb,r=.inl (d',Zb,(),false,())/\fU ss d' Zb)\/(∃d' Zb l,r=.inr (d',Zb,l,true,())/\fU ss d' Zb/\(l.length:Int)<=n/\l.length<=64/\∀c∈l,Pr ss c):=by
 obtain⟨b,eo,hb⟩:=Bz (h:=h) hF;unfold nY;rw[uh hF];simp only[oBS,eo]
 cases b with
 |false=>
  exact Ok.ret (.inl ⟨_,_,rfl,hF⟩)
 |true=>
  obtain⟨j,f,o,x,rfl,hj,ho,hof,hx,o0,o1⟩:=hb rfl;have hg:dM os j=some o:=ho;have Wl:dM d f=some x:=hx;have UT:=hF.flen x (dU hx);rw[oDF (show ¬n<0 by omega)];simp only[oNT,oCF,dO,oBS,hg]
  cases hw:o.2.2 with
  |true=>exact Ok.ret (.inl ⟨_,_,rfl,hF⟩)
  |false=>
   delta dQ;simp only[oCF,dO,oBS,hg,hof,Wl];rw[dR (x:=(x.length:Int)-o.2.1) (by omega) (by omega)];obtain⟨m1,m2,m3⟩:=FS (a:=n) (b:=(x.length:Int)-o.2.1);generalize mmR false n ((x.length:Int)-o.2.1)=k at m1 m2 m3;rw[dR (x:=o.2.1+k) (by omega) (by omega)];refine Ok.nat o0 λp hp=>?_;refine Ok.nat (by omega) λq hq=>?_;refine dK (by unfold gF;simp;omega) ?_
   have hw2:(my x p (Nat.sub q p)).length=q-p:=by
    unfold my;rw[oLT,List.length_drop];show min (q-p) _=q-p;omega
   refine dK (ee (by omega)) ?_;rw[fc ho];refine Ok.ret (.inr ⟨_,_,_,rfl,hF.setOpen (.inr ⟨by dsimp only;omega,x,by dsimp only;rw[hof,oTN];exact hx,by dsimp only;omega,by dsimp only;omega⟩),?_,?_,?_⟩)
   ·rw[ft,hw2];simp;omega
   ·rw[ft,hw2];simp;omega
   ·refine ir eG λc hc=>hF.cells x (dU hx) c ?_;unfold my at hc;exact List.mem_of_mem_drop (List.mem_of_mem_take hc)
theorem Jl{ss:List Int}{d:List (List DCn)}{os:List DOp}{h:Int}(hF:fU ss d os):Ok (mA d os h) λr=>∃d' Zb b,r=(d',Zb,b,())/\fU ss d' Zb:=by
 have ⟨b,eo,hb⟩:=Bz (h:=h) hF;unfold mA;rw[uh hF];simp only[eo]
 cases b with
 |false=>exact Ok.ret ⟨_,_,_,rfl,hF⟩
 |true=>
  obtain⟨j,f,o,x,rfl,hj,ho,hof,hx,o0,o1⟩:=hb rfl;have hg:dM os j=some o:=ho;simp only[dO,oBS,hg];rw[fc ho];exact Ok.ret ⟨_,_,_,rfl,hF.setOpen (.inl ⟨rfl,rfl,rfl⟩)⟩
theorem Km{ss:List Int}{d:List (List DCn)}{os:List DOp}{h n:Int}(hF:fU ss d os):Ok (nX d os h n) λr=>∃d' Zb b,r=(d',Zb,b,())/\fU ss d' Zb:=by
 obtain⟨b,eo,hb⟩:=Bz (h:=h) hF;unfold nX;rw[uh hF];simp only[eo]
 cases b with
 |false=>
  exact Ok.ret ⟨_,_,_,rfl,hF⟩
 |true=>
  obtain⟨j,f,o,x,rfl,hj,ho,hof,hx,o0,o1⟩:=hb rfl;have hg:dM os j=some o:=ho;have Wl:dM d f=some x:=hx;delta dQ;simp only[oNT,oCF,dO,oBS,hg,hof,Wl];by_cases hn:n<0
  ·simp only[oDT hn,oCT,oBS];exact Ok.ret ⟨_,_,_,rfl,hF⟩
  ·simp only[oDF hn,oCF,oBS]
   (with_reducible refine dI (λZ9=>?_) λZ9=>?_)
   ·exact Ok.ret ⟨_,_,_,rfl,hF⟩
   ·simp only[dO,oBS,hg];rw[fc ho];exact Ok.ret ⟨_,_,_,rfl,hF.setOpen (.inr ⟨by dsimp only;omega,x,by simp_all,by dsimp only;omega,by dsimp only;omega⟩)⟩
theorem MV{ss:List Int}{d:List (List DCn)}{os:List DOp}{file mode:Int}(hF:fU ss d os):Ok (nZ d os file mode) λr=>∃d' Zb h,r=(d',Zb,h,())/\fU ss d' Zb/\-1<=h/\h<=7:=by
 have h8:=hF.olen;have hd4:=hF.dlen;unfold nZ;rw[uh hF];simp only[oBS];refine Ok.loop (P:=λs'=>∃i:Nat,s'=(file,mode,(i:Int),d,os,(),(),d,os,())/\i<=8) (R:=λr=>∃i:Nat,r=(file,mode,(i:Int),false,d,os,(),(),d,os,())/\i<=8) (m:=λs'=>(8-s'.2.2.1).toNat) ⟨0,rfl,by omega⟩ (by unfold NN;dsimp only;omega) ?_ ?_
 ·rintro _ ⟨i,rfl,hi⟩;unfold qF;delta dQ;simp only[h8,dO,oBS]
  (with_reducible refine dI (λZ9=>?_) λZ9=>?_)
  ·refine Ok.get (by omega) λo ho=>?_
   (with_reducible refine dI (λZZ=>?_) λZZ=>?_)
   ·rw[dR (x:=(i:Int)+1) (by omega) (by omega)];exact Ok.ret ⟨⟨i+1,rfl,by omega⟩,by dsimp only;omega⟩
   ·exact Ok.ret ⟨i,rfl,hi⟩
  ·exact Ok.ret ⟨i,rfl,hi⟩
 rintro _ ⟨i,rfl,hi⟩;delta dQ;simp only[h8];have bad:fU ss d os/\(-1:Int)<=-1/\(-1:Int)<=7:=⟨hF,by decide,by decide⟩;refine Ok.bind (P:=λr=>(∃b:Bool,r=(file,mode,(i:Int),b,(),(),d,os,())/\(b=false->0<=file/\file<d.length/\i<8))) ?_ ?_
 ·(with_reducible refine dI (λZ9=>?_) λZ9=>?_)
  ·exact Ok.ret ⟨true,rfl,λh=>by cases h⟩
  (with_reducible refine dI (λZZ=>?_) λZZ=>?_)
  ·exact Ok.ret ⟨true,rfl,λh=>by cases h⟩
  (with_reducible refine dI (λhcc=>?_) λhcc=>?_)
  ·exact Ok.ret ⟨true,rfl,λh=>by cases h⟩
  (with_reducible refine dI (λXe=>?_) λXe=>?_)
  ·exact Ok.ret ⟨true,rfl,λh=>by cases h⟩
  exact Ok.ret ⟨_,rfl,λh=>⟨by omega,by omega,by rw[beq_eq_false_iff_ne]at h;omega⟩⟩
 rintro _ ⟨b,rfl,hb⟩;dsimp only
 cases b with
 |true=>exact Ok.ret ⟨_,_,_,rfl,bad⟩
 |false=>
  obtain⟨f0,f1,hi8⟩:=hb rfl;obtain⟨f,rfl⟩:∃f:Nat,file=f:=⟨file.toNat,by omega⟩;obtain⟨x,hx⟩:∃x,d[f]?=some x:=⟨_,oGE (by omega)⟩;obtain⟨o,ho⟩:∃o,os[i]?=some o:=⟨_,oGE (by omega)⟩;have Wl:dM d f=some x:=hx;have hg:dM os i=some o:=ho;have Zx:=(oGS hx).1;have YN:=(oGS ho).1;simp only[oCF,dO,oBS,Wl,hg];by_cases h1:mode=1
  ·subst h1;simp only[BEq.rfl,oCT];rw[fc hx];simp only[h8]
   refine Ok.loop (P:=λs'=>∃(q:Nat)(Zb:List DOp),s'=((f:Int),1,(i:Int),((8:Nat):Int),(q:Int),(),(),d.set f [],Zb,())/\q<=8/\Zb.length=8/\(∀(j:Nat) o,j<q->Zb[j]?=some o->PW (d.set f []) o)/\∀j:Nat,q<=j->Zb[j]?=os[j]?)
    (R:=λr=>∃(z:Int)(Zb:List DOp),r=((f:Int),1,(i:Int),((8:Nat):Int),z,false,(),(),d.set f [],Zb,())/\fU ss (d.set f []) Zb) (m:=λs'=>(8-s'.2.2.2.2.1).toNat) ⟨0,os,rfl,by omega,h8,λj o hj=>by omega,λ_ _=>rfl⟩ (by unfold NN;dsimp only;omega) ?_ ?_
   ·rintro _ ⟨q,Zb,rfl,hq,YK,ha,hr⟩;unfold qD;dsimp only
    (with_reducible refine dI (λZ9=>?_) λZ9=>?_)
    ·obtain⟨o',Zp⟩:∃o',Zb[q]?=some o':=⟨_,oGE (by omega)⟩;have UG:dM Zb q=some o':=Zp;have hop:=hF.opens o' (dU (by rw[<- hr q (by omega)];exact Zp));simp only[dO,oBS,UG];refine Ok.bind (P:=λr=>∃o2:DOp,PW (d.set f []) o2/\r=((f:Int),1,(i:Int),((8:Nat):Int),(q:Int),(),(),d.set f [],Zb.set q o2,())) ?_ ?_
     ·by_cases hof:o'.1=f
      ·simp only[beq_iff_eq.2 hof,oCT];rw[fc Zp];exact Ok.ret ⟨_,.inr ⟨by dsimp only;omega,[],by dsimp only;rw[hof,oTN];exact i3 Zx [],by dsimp only;omega,by simp⟩,rfl⟩
      ·simp only[oBF hof,oCF];refine Ok.ret ⟨o',?_,by rw[Bq Zp]⟩;rcases hop with h|⟨g1,z,g2,g3⟩
       ·exact .inl h
       ·exact .inr ⟨g1,z,by rw[rY (by omega)];exact g2,g3⟩
     ·rintro _ ⟨o2,hop2,rfl⟩;dsimp only;rw[dR (x:=(q:Int)+1) (by omega) (by omega)];refine Ok.ret ⟨⟨q+1,_,rfl,by omega,by rw[List.length_set];exact YK,λj o hj hjo=>?_,λj hj=>?_⟩,by dsimp only;omega⟩
      ·by_cases e:q=j
       ·subst e;rw[show(Zb.set q o2)[q]?=some o2 from i3 (by omega) o2]at hjo;cases hjo;exact hop2
       ·rw[rY e]at hjo;exact ha j o (by omega) hjo
      ·rw[rY (by omega)];exact hr j (by omega)
    ·refine Ok.ret ⟨_,_,rfl,⟨by rw[List.length_set];exact hd4,mn hF.flen (by simp),mn hF.cells eG,YK,λo' Zp=>?_⟩⟩;obtain⟨j,hj⟩:=List.getElem?_of_mem Zp;have:=(oGS hj).1;exact ha j o' (by omega) hj
   ·rintro _ ⟨z,Zb,rfl,TZ⟩;have YK:=TZ.olen;obtain⟨o',Zp⟩:∃o',Zb[i]?=some o':=⟨_,oGE (by omega)⟩;have UG:dM Zb i=some o':=Zp;simp only[dO,oBS,UG,show((1:Int)==2)=false from rfl,oCF];rw[fc Zp];exact Ok.ret ⟨_,_,_,rfl,TZ.setOpen (.inr ⟨by dsimp only;omega,[],by dsimp only;rw[oTN];exact i3 Zx [],by dsimp only;omega,by simp⟩),by omega,by omega⟩
  ·simp only[oBF h1,oCF];rw[fc ho];by_cases h2:mode=2
   ·subst h2;simp only[BEq.rfl,oCT,oBS,i3 YN,oN YN];exact Ok.ret ⟨_,_,_,rfl,hF.setOpen (.inr ⟨by dsimp only;omega,x,by dsimp only;rw[oTN];exact hx,by dsimp only;omega,by dsimp only;omega⟩),by omega,by omega⟩
   ·simp only[oBF h2,oCF,oBS];exact Ok.ret ⟨_,_,_,rfl,hF.setOpen (.inr ⟨by dsimp only;omega,x,by dsimp only;rw[oTN];exact hx,by dsimp only;omega,by dsimp only;omega⟩),by omega,by omega⟩
theorem gI(n:Int)(b:Bool):∃v,eu n b=some (0,v,0,0,(),-1,false,())/\W16 v:=by
 cases b with
 |true=>exact⟨_,rfl,oH _⟩
 |false=>exact⟨_,rfl,oH _⟩
theorem j5{ss:List Int}{v:Int}(h:W16 v):Pr ss (0,v,0,0):=.inl ⟨.inl rfl,rfl,rfl,h⟩
theorem Ql{ss:List Int}{v:Int}(h:W16 v):Pr ss (2,v,0,0):=.inl ⟨.inr rfl,rfl,rfl,h⟩
theorem Kl{ss:List Int}{us:List DOu}{sk:Int}{l:List DCn}(hu:us.length<=200)(ho:∀(i:Nat) x,us[i]?=some x->Re ss i x)(hl:l.length<=16)(VG:∀c∈l,Pr ss c):
 Ok (nW us sk l) λr=>∃Uh n b,r=(Uh,n,b,())/\Uh.length<=200/\∀(i:Nat) x,Uh[i]?=some x->Re ss i x:=by
 have hc:jY us=some (us,()):=Fc (by omega) λx hx=>by
  obtain⟨j,hj⟩:=List.getElem?_of_mem hx;have:=(ho j x hj).2.2.2.1;omega
 unfold nW;rw[hc];delta dQ;refine Ok.bind (P:=λr=>∃b:Bool,r=(us,sk,l,b,us,())/\(b=false->0<=sk/\sk<2/\us.length<200)) ?_ ?_
 ·(with_reducible refine dI (λZ9=>?_) λZ9=>?_)
  ·exact Ok.ret ⟨true,rfl,λh=>by cases h⟩
  (with_reducible refine dI (λZZ=>?_) λZZ=>?_)
  ·exact Ok.ret ⟨true,rfl,λh=>by cases h⟩
  (with_reducible refine dI (λhcc=>?_) λhcc=>?_)
  ·exact Ok.ret ⟨true,rfl,λh=>by cases h⟩
  exact Ok.ret ⟨_,rfl,λh=>⟨by omega,by omega,by omega⟩⟩
 rintro _ ⟨b,rfl,hb⟩;dsimp only
 cases b with
 |true=>exact Ok.ret ⟨_,_,_,rfl,hu,ho⟩
 |false=>
  obtain⟨s0,s1,hlt⟩:=hb rfl;simp only[oCF];refine dK (ee (by omega)) (dK (ee (by simp;omega)) ?_);refine Ok.ret ⟨_,_,_,rfl,by rw[ft];simp;omega,λi x hx=>?_⟩;simp at hx;rw[List.getElem?_append]at hx;split at hx
  ·exact ho i x hx
  ·rename_i hi;obtain⟨q,hq⟩:∃q,i-us.length=q:=⟨_,rfl⟩;rw[hq]at hx
   cases q with
   |zero=>
    have:x=((us.length:Int),sk,l):=by simp_all
    subst this;exact⟨by dsimp only;omega,s0,s1,hl,VG⟩
   |succ q=>simp at hx
theorem DC{ss:List Int}{ins:List (List Int)}{sk n:Int}(hi:ins.length<=2)(h:∀x∈ins,x.length<=64/\∀w∈x,W16 w)(hn:0<=n/\n<=65535):
 Ok (kt ins sk n) λr=>(∃Ym,r=.inl (Ym,(),false,())/\Ym.length<=2/\∀x∈Ym,x.length<=64/\∀w∈x,W16 w)\/
  (∃Ym l,r=.inr (Ym,l,true,())/\(Ym.length<=2/\∀x∈Ym,x.length<=64/\∀w∈x,W16 w)/\(l.length:Int)<=n/\l.length<=64/\∀c∈l,Pr ss c):=by
 unfold kt;rw[yW (by omega) (λx hx=>by have:=(h x hx).1;omega)];delta dQ;simp only[oBS];refine Ok.bind (P:=λr=>∃b:Bool,r=(ins,sk,n,b,ins,())/\(b=false->0<=sk/\sk<ins.length)) ?_ ?_
 ·(with_reducible refine dI (λZ9=>?_) λZ9=>?_)
  ·exact Ok.ret ⟨true,rfl,λh=>by cases h⟩
  (with_reducible refine dI (λZZ=>?_) λZZ=>?_)
  ·exact Ok.ret ⟨true,rfl,λh=>by cases h⟩
  exact Ok.ret ⟨_,rfl,λ_=>⟨by omega,by omega⟩⟩
 rintro _ ⟨b,rfl,hb⟩;dsimp only
 cases b with
 |true=>exact Ok.ret (Or.inl ⟨_,rfl,hi,h⟩)
 |false=>
 obtain⟨s0,s1⟩:=hb rfl;obtain⟨j,rfl⟩:∃j:Nat,sk=j:=⟨sk.toNat,by omega⟩;obtain⟨x,hx⟩:∃x,ins[j]?=some x:=⟨_,oGE (by omega)⟩;have Wl:dM ins j=some x:=hx;have hjl:=(oGS hx).1;obtain⟨UT,hxw⟩:=h x (dU hx);simp only[oCF,oBS,dO,Wl];obtain⟨m1,m2,m3⟩:=FS (a:=n) (b:=(x.length:Int));generalize mmR false n (x.length:Int)=k at m1 m2 m3;obtain⟨q,rfl⟩:∃q:Nat,k=q:=⟨k.toNat,by omega⟩;simp only[dO,oBS];refine dK (by unfold gF;simp;omega) ?_
 have hw:my x 0 (Nat.sub q 0)=x.take q:=by unfold my;rw[List.drop_zero];rfl
 have Uc:(x.take q).length=q:=by rw[oLT];omega
 rw[hw];simp only[Uc]
 have e:dZ gJ NN ((j:Int),(q:Int),x.take q,(q:Int),0,ins,[],())=some ((j:Int),(q:Int),x.take q,(q:Int),(q:Int),false,ins,(x.take q).map (λw=>(0,w,0,0)),()):=by
  have:=s6 (f:=gJ) (N:=NN) (st:=λi=>((j:Int),(q:Int),x.take q,(q:Int),(i:Int),ins,((x.take q).take i).map (λw=>((0:Int),w,(0:Int),(0:Int))),())) (n:=q) (t:=((j:Int),(q:Int),x.take q,(q:Int),(q:Int),false,ins,(x.take q).map (λw=>((0:Int),w,(0:Int),(0:Int))),())) (by unfold NN;omega) ?_ ?_
  ·exact this
  ·intro i hi;unfold gJ;dsimp only;rw[oDT (show(i:Int)<q by omega),dO];simp only[oCT,oBS];refine Ok.get (by omega) λw hw=>?_;refine dK (ee (by simp;omega)) ?_;rw[dR (x:=(i:Int)+1) (by omega) (by omega)];refine Ok.ret ?_;rw[<- tS (λw=>((0:Int),w,(0:Int),(0:Int))) hw];rfl
  ·unfold gJ;dsimp only;rw[oDF (show ¬(q:Int)<q by omega)];refine Ok.ret ?_;rw[show(x.take q).take q=x.take q from List.take_of_length_le (by omega)]
 rw[e];simp only[dO,oBS,Wl];refine dK (by unfold gF;simp;omega) ?_;rw[fc hx]
 have hd:∀c∈my x q (Nat.sub x.length q),c∈x:=λc hc=>by
  unfold my at hc;exact List.mem_of_mem_drop (List.mem_of_mem_take hc)
 have SS:(my x q (Nat.sub x.length q)).length<=64:=by
  unfold my;rw[oLT,List.length_drop];omega
 refine Ok.ret (.inr ⟨_,_,rfl,⟨by rw[List.length_set];exact hi,mn h ⟨SS,λw hw=>hxw w (hd w hw)⟩⟩,by rw[List.length_map,Uc];omega,by rw[List.length_map,Uc];omega,λc hc=>?_⟩);obtain⟨w,hw,rfl⟩:=List.mem_map.1 hc;exact j5 (hxw w (List.mem_of_mem_take hw))
theorem AA{n:Int}{ss:List Int}{i stop trap count pc call:Int}{args data:List DCn}(hs:At ss)(h:xr n ss i stop trap count pc call args data)(hn:n<=1099511627776):fG i stop trap count pc call args data=some (true,()):=by
 have ⟨⟨a1,a2⟩,⟨b1,b2⟩,⟨c1,c2⟩,⟨d1,d2⟩,⟨e1,e2⟩,⟨f1,f2⟩,⟨g1,g2⟩,⟨k1,k2⟩,_,_⟩:=h;refine ff ?_;unfold fG;rw[m9 hs g2 (by omega) (by omega),m9 hs k2 (by omega) (by omega)];refine dK (oDT a1) (dK (oDT (by omega)) (dK (oDT b1) (dK (oDT b2) (dK (oDT c1) (dK (oDT c2) (dK (oDT d1) (dK (oDT (by omega)) (dK (oDT e1) (dK (oDT e2) (dK (oDT f1) (dK (oDT f2) ?_)))))))))));exact Ok.ret rfl
theorem IW{n:Int}{ss:List Int}{i trap count pc call:Int}{args data:List DCn}(h:xr n ss i 1 trap count pc call args data):mB i 1 trap count pc call args data=some (true,()):=by
 obtain⟨hl,hk⟩:=h.hkind rfl;obtain⟨b,eb,hb1,hb2⟩:=BE h.hcall;have h3:=Lb call
 have e:dZ is NN (b,args,(args.length:Int),0,i,1,trap,count,pc,call,args,data,())=some (.inr (b,args,(args.length:Int),(args.length:Int),false,i,1,trap,count,pc,call,args,data,())):=by
  refine s6 (f:=is) (N:=NN) (st:=λq=>(b,args,(args.length:Int),(q:Int),i,1,trap,count,pc,call,args,data,())) (n:=args.length) (by unfold NN;omega) ?_ ?_
  ·intro q hq;obtain⟨k,hkq⟩:∃k,(kB call)[q]?=some k:=⟨_,oGE (by omega)⟩;obtain⟨a,ha⟩:∃a,args[q]?=some a:=⟨_,oGE (by omega)⟩;unfold is;dsimp only;rw[oDT (show(q:Int)<args.length by omega),dO];simp only[oCT,oBS,show dM args q=some a from ha,hb2 q,hkq,Ly,hk q k a hkq ha,oCF];rw[dR (x:=(q:Int)+1) (by omega) (by omega)];exact Ok.ret rfl
  ·unfold is;dsimp only;rw[oDF (show ¬(args.length:Int)<args.length by omega)];exact Ok.ret rfl
 unfold mB;delta dQ
 simp_all
def PT(call:Int):Bool:=decide ((1<=call/\call<=7)\/call=13\/call=14)
theorem PS{call:Int}(h:0<=call/\call<=15):qC call=some (PT call,()):=by
 rcases vH h with rfl|rfl|rfl|rfl|rfl|rfl|rfl|rfl|rfl|rfl|rfl|rfl|rfl|rfl|rfl|rfl<;>rfl
structure Rw (ss:List Int)(t v r o:Int)(data:List DCn)(sp:Int)(w:Bool):Prop where
 val:Pr ss (t,v,r,o)
 dat:data.length<=64/\∀c∈data,Pr ss c
 spn:-1<=sp/\sp<=3
def DoP(ss:List Int)(r:(List (Int))×(List (Int))×(List (List (Int)))×(List (List DCn))×(List DOp)×(List DOu)×Int×Int×Int×Int×(List DCn)×Int×Bool×Int×Unit):Prop:=
 ∃ck rn ins d os us t v rg o data,r=(ck,rn,ins,d,os,us,t,v,rg,o,data,-1,false,0,())/\zt ss ck rn ins d os us/\Pr ss (t,v,rg,o)/\data.length<=16/\∀c∈data,Pr ss c
theorem kX{ss:List Int}{ck rn:List Int}{ins:List (List Int)}{d:List (List DCn)}{os:List DOp}{us:List DOu}{t v rg o:Int}{data:List DCn}(h:zt ss ck rn ins d os us)(hv:Pr ss (t,v,rg,o))(hd:data.length<=16/\∀c∈data,Pr ss c):
 Ok (some (ck,rn,ins,d,os,us,t,v,rg,o,data,(-1:Int),false,(0:Int),())) (DoP ss):=Ok.ret ⟨_,_,_,_,_,_,_,_,_,_,_,rfl,h,hv,hd⟩
theorem Pr.val{ss:List Int}{c:DCn}(h:Pr ss c):W16 c.2.1:=by
 rcases h with⟨_,_,_,h⟩|⟨_,h,_⟩
 ·exact h
 ·rw[h];exact⟨by decide,by decide⟩
theorem QO{n:Int}{ss:List Int}{i trap count pc call:Int}{args data:List DCn}(h:xr n ss i 1 trap count pc call args data):sf call=0\/sf call=1\/(sf call=2/\∃a,args[2]?=some a/\a.2.1<=16):=by
 by_cases h2:sf call=2
 ·exact .inr (.inr ⟨h2,h.hbuf rfl h2⟩)
 ·have:sf call=0\/sf call=1\/sf call=2:=by unfold sf;split<;>first|omega|(split<;>omega)
  omega
theorem xM{α:Type}{a b:Option α}{Q:α->Prop}(h:Ok a Q)(e:b=a):Ok b Q:=by simp_all
set_option maxHeartbeats 4000000 in
theorem PD{n:Int}{ss:List Int}{ck rn:List Int}{ins:List (List Int)}{d:List (List DCn)}{os:List DOp}{us:List DOu}{i trap count pc call:Int}{args data:List DCn}(hs:At ss)(hO:zt ss ck rn ins d os us)(hR:xr n ss i 1 trap count pc call args data)
 (ha:PT call=true)(hn:n<=1099511627776):Ok (oI ck rn ins d os us i 1 trap count pc call args data) (DoP ss):=by
 have hc:=hR.hcall;have WR:=hR.hdata;have VY:=hR.hargs;unfold oI;rw[uS hs hO,AA hs hR hn,PS hc,ha,IW hR,uO hc];simp only[oBS,oNT,oCF,bne_self_eq_false];refine Ok.bind (P:=λr=>r=(false,ck,rn,ins,d,os,us,i,1,trap,count,pc,call,args,data,(),(),(),(),(),(),0,0,0,0,(),0,false,())) ?_ ?_
 ·rcases QO hR with h|h|⟨h,a,h2,h3⟩
  ·rw[h];exact Ok.ret rfl
  ·rw[h];exact Ok.ret rfl
  ·rw[h];simp only[BEq.rfl,oCT,show dM args 2=some a from h2,oBS];rw[oDF (show ¬a.2.1>16 by omega)];exact Ok.ret rfl
 rintro _ rfl;dsimp only;delta dQ;simp only[oCF,Fb hO,oBS]
 refine Ok.loop (P:=λs'=>∃(k:Nat)(vs:List Int),s'=(args,(args.length:Int),(k:Int),ck,rn,ins,d,os,us,i,1,trap,count,pc,call,args,data,(),(),(),(),(),(),0,0,0,0,(),0,false,ck,rn,ins,d,os,us,vs,())/\k<=args.length/\vs.length=3/\(∀v∈vs,W16 v)/\∀(j:Nat) a,j<k->args[j]?=some a->vs[j]?=some a.2.1)
  (R:=λr=>∃(z:Int)(vs:List Int),r=(args,(args.length:Int),z,false,ck,rn,ins,d,os,us,i,1,trap,count,pc,call,args,data,(),(),(),(),(),(),0,0,0,0,(),0,false,ck,rn,ins,d,os,us,vs,())/\vs.length=3/\(∀v∈vs,W16 v)/\∀(j:Nat) a,args[j]?=some a->vs[j]?=some a.2.1) (m:=λs'=>(s'.2.1-s'.2.2.1).toNat)
  ⟨0,[0,0,0],rfl,by omega,rfl,all_cons ⟨by decide,by decide⟩ (all_cons ⟨by decide,by decide⟩ (all_cons ⟨by decide,by decide⟩ eG)),λj a hj=>by omega⟩ (by unfold NN;dsimp only;omega) ?_ ?_
 ·rintro _ ⟨k,vs,rfl,hk,Sd,Ub,hva⟩;unfold tE;dsimp only
  (with_reducible refine dI (λZ9=>?_) λZ9=>?_)
  ·simp only[dO,oBS];refine Ok.get (by omega) λa hak=>?_;have hw:=(VY.2 a (dU hak)).val;refine Ok.get (by omega) λv hv=>?_;refine Ok.get (by omega) λ_ _=>?_;rw[dY (x:=a.2.1) (by have:=hw.1;omega) (by have:=hw.2;omega),dR (x:=(k:Int)+1) (by omega) (by omega),fc hv];refine Ok.ret ⟨⟨k+1,_,rfl,by omega,by rw[List.length_set];exact Sd,mn Ub hw,λj a' hj T0=>?_⟩,by dsimp only;omega⟩;by_cases e:k=j
   ·subst e;rw[hak]at T0;cases T0;exact i3 (by omega) _
   ·rw[rY e];exact hva j a' (by omega) T0
  ·refine Ok.ret ⟨_,vs,rfl,Sd,Ub,λj a T0=>hva j a ?_ T0⟩;have:=(oGS T0).1;omega
 rintro _ ⟨z,vs,rfl,Sd,Ub,hva⟩;obtain⟨v0,TW,Yl⟩:=gI 0 false
 obtain⟨a0,a1,a2,rfl⟩:∃a b c,vs=[a,b,c]:=by
  match vs,Sd with
  | [a,b,c],_=>exact⟨a,b,c,rfl⟩
 have w0:W16 a0:=Ub a0 (by simp);have w1:W16 a1:=Ub a1 (by simp);have w2:W16 a2:=Ub a2 (by simp);have g0:dM [a0,a1,a2] 0=some a0:=rfl;have g1:dM [a0,a1,a2] 1=some a1:=rfl;have g2:dM [a0,a1,a2] 2=some a2:=rfl
 have So:sf call=2->a2<=16:=λh=>by
  obtain⟨a,h2,h3⟩:=hR.hbuf rfl h;have:=hva 2 a h2
  have:a2=a.2.1:=by simpa using this
  omega
 have Zz:([]:List DCn).length<=16/\∀c∈([]:List DCn),Pr ss c:=⟨by decide,eG⟩;dsimp only;simp only[TW,oBS,g0,g1,g2];rcases vH hc with rfl|rfl|rfl|rfl|rfl|rfl|rfl|rfl|rfl|rfl|rfl|rfl|rfl|rfl|rfl|rfl
 all_goals first|(exact absurd ha (by decide))|simp only[Int.reduceBEq,oCT,oCF]
 ·obtain⟨_,e,d1,Uf,m,b,rfl,hF,_⟩:=Ie (h:=a0) hs hO.files WR.1 WR.2;obtain⟨v,ev,hv⟩:=gI m b;simp only[e,ev,oBS];exact kX ⟨hO.clock,hO.rand,hO.ilen,hO.inp,hF,hO.ulen,hO.outs⟩ (j5 hv) Zz
 ·have X2:=So rfl;obtain⟨_,e,hr⟩:=KB (h:=a0) (n:=a2) hO.files w2
  rcases hr with⟨d1,Uf,rfl,hF⟩|⟨d1,Uf,l,rfl,hF,hl,_,VG⟩
  ·simp only[e,TW,oBS];exact kX ⟨hO.clock,hO.rand,hO.ilen,hO.inp,hF,hO.ulen,hO.outs⟩ (j5 Yl) Zz
  ·obtain⟨v,ev,hv⟩:=gI (l.length:Int) true;simp only[e,ev,oBS];exact kX ⟨hO.clock,hO.rand,hO.ilen,hO.inp,hF,hO.ulen,hO.outs⟩ (j5 hv) ⟨by omega,VG⟩
 ·obtain⟨_,e,d1,Uf,h,rfl,hF,h0,h7⟩:=MV (file:=a0) (mode:=a1) hO.files;simp only[e,oBS];have VJ:zt ss ck rn ins d1 Uf us:=⟨hO.clock,hO.rand,hO.ilen,hO.inp,hF,hO.ulen,hO.outs⟩;by_cases hh:h>=0
  ·simp only[oDT hh,oCT];exact kX VJ (Ql (oH _)) Zz
  ·simp only[oDF hh,oCF];exact kX VJ (j5 Yl) Zz
 ·obtain⟨_,e,d1,Uf,b,rfl,hF⟩:=Jl (h:=a0) hO.files;obtain⟨v,ev,hv⟩:=gI 0 b;simp only[e,ev,oBS];exact kX ⟨hO.clock,hO.rand,hO.ilen,hO.inp,hF,hO.ulen,hO.outs⟩ (j5 hv) Zz
 ·obtain⟨_,e,d1,Uf,b,rfl,hF⟩:=Km (h:=a0) (n:=a1) hO.files;obtain⟨v,ev,hv⟩:=gI 0 b;simp only[e,ev,oBS];exact kX ⟨hO.clock,hO.rand,hO.ilen,hO.inp,hF,hO.ulen,hO.outs⟩ (j5 hv) Zz
 ·cases ck with
  |nil=>exact kX hO (j5 Yl) Zz
  |cons x ck=>
   obtain⟨v,ev,hv⟩:=gI (wk .i64 x) true
   have hw:my (x::ck) 1 (Nat.sub (x::ck).length 1)=ck:=by unfold my;simp
   refine xM (kX (ck:=ck) ⟨⟨by have:=hO.clock.1;simp at this;omega,λw hw=>hO.clock.2 w (by simp[hw])⟩,hO.rand,hO.ilen,hO.inp,hO.files,hO.ulen,hO.outs⟩ (j5 hv) Zz) ?_;simp only[oLC,show dM (x::ck) 0=some x from rfl,oBS,ev];have hd:∀inst:Decidable (((ck.length+1:Nat):Int)>0),@decide _ inst=true:=λinst=>oDT (by omega);rw[oLC]at hw;rw[hd,show gF 1 (ck.length+1) (ck.length+1)=true by unfold gF;simp,hw];rfl
 ·cases rn with
  |nil=>exact kX hO (j5 Yl) Zz
  |cons x rn=>
   obtain⟨v,ev,hv⟩:=gI (wk .i64 x) true
   have hw:my (x::rn) 1 (Nat.sub (x::rn).length 1)=rn:=by unfold my;simp
   refine xM (kX (rn:=rn) ⟨hO.clock,⟨by have:=hO.rand.1;simp at this;omega,λw hw=>hO.rand.2 w (by simp[hw])⟩,hO.ilen,hO.inp,hO.files,hO.ulen,hO.outs⟩ (j5 hv) Zz) ?_;simp only[oLC,show dM (x::rn) 0=some x from rfl,oBS,ev];have hd:∀inst:Decidable (((rn.length+1:Nat):Int)>0),@decide _ inst=true:=λinst=>oDT (by omega);rw[oLC]at hw;rw[hd,show gF 1 (rn.length+1) (rn.length+1)=true by unfold gF;simp,hw];rfl
 ·obtain⟨_,e,us1,m,b,rfl,hu,ho⟩:=Kl (sk:=a0) hO.ulen hO.outs WR.1 WR.2;obtain⟨v,ev,hv⟩:=gI m b;simp only[e,ev,oBS];exact kX ⟨hO.clock,hO.rand,hO.ilen,hO.inp,hO.files,hu,ho⟩ (j5 hv) Zz
 ·have X2:=So rfl;obtain⟨_,e,hr⟩:=DC (ss:=ss) (sk:=a0) (n:=a2) hO.ilen hO.inp w2
  rcases hr with⟨in1,rfl,WT,ZT⟩|⟨in1,l,rfl,⟨WT,ZT⟩,hl,_,VG⟩
  ·simp only[e,TW,oBS];exact kX ⟨hO.clock,hO.rand,WT,ZT,hO.files,hO.ulen,hO.outs⟩ (j5 Yl) Zz
  ·obtain⟨v,ev,hv⟩:=gI (l.length:Int) true;simp only[e,ev,oBS];exact kX ⟨hO.clock,hO.rand,WT,ZT,hO.files,hO.ulen,hO.outs⟩ (j5 hv) ⟨by omega,VG⟩
def Ho(bs:List Int)(key:Int)(c:DCn):DCe:=if c.1=0 then(0,c.2.1)else if c.1=2 then(2,wk .u16 (c.2.1+key))else(1,wk .u16 (bs.getD c.2.2.1.toNat 0+c.2.2.2))
theorem Hs{bs ss:List Int}(h:LV bs ss){r o n:Int}(h1:0<=r)(h2:ss[r.toNat]?=some n)(h3:0<=o)(h4:o<n):∃b,bs[r.toNat]?=some b/\0<=b+o/\b+o<512/\b<=b+o/\b+o<b+n:=by
 have ⟨hs,hl,hr⟩:=h;have hj:=(oGS h2).1;have ⟨b,hb⟩:∃b,bs[r.toNat]?=some b:=⟨_,oGE (by omega)⟩;have WZ:=hr r.toNat (by omega);unfold Au at WZ;rw[fO hb,fO h2]at WZ;exact⟨b,hb,by omega,by omega,by omega,by omega⟩
theorem Hn{bs ss:List Int}{key:Int}{c:DCn}(h:LV bs ss)(hc:Pr ss c):iV bs key ss c.1 c.2.1 c.2.2.1 c.2.2.2=some ((Ho bs key c).1,(Ho bs key c).2,0,())/\oG (RK bs ss) (Ho bs key c):=by
 unfold iV Ho;rw[pK hc]
 rcases hc with⟨h1|h1,h2,h3,h4⟩|⟨h1,h2,h3,n,h5,h6,h7⟩
 ·rw[h1];exact⟨rfl,ms h4⟩
 ·rw[h1];exact⟨rfl,(show(0:Int)<=2 by decide),(show(2:Int)<=2 by decide),(oH _).1,(oH _).2,λe=>absurd (show(2:Int)=1 from e) (by decide)⟩
 ·obtain⟨b,hb,b0,b1,b2,b3⟩:=Hs h h3 h5 h6 h7;obtain⟨j,hj⟩:∃j:Nat,c.2.2.1=j:=⟨c.2.2.1.toNat,by omega⟩;rw[hj]at hb h5⊢;rw[h1,fO hb];simp[Int.reduceBEq,Int.reduceEq,oCF,if_false,dO,oBS,show dM bs j=some b from hb];rw[dR (by omega) (by omega),ek (by omega) (by omega)];exact⟨rfl,by omega,by omega,by omega,by omega,λ_=>⟨j,b,n,hb,h5,b2,b3⟩⟩
theorem Jt{bs ss:List Int}{key r o n:Int}(h:LV bs ss)(h1:0<=r)(h2:ss[r.toNat]?=some n)(h3:0<=o)(h4:o<n):∃a,kI bs key ss r o=some (a,0,())/\0<=a/\a<512/\a=bs.getD r.toNat 0+o:=by
 have ⟨b,hb,b0,b1,_⟩:=Hs h h1 h2 h3 h4;obtain⟨j,rfl⟩:∃j:Nat,r=j:=⟨r.toNat,by omega⟩;unfold kI;rw[Ec h1 h2 h3 h4];simp[dO,show dM bs j=some b from hb];rw[dR (by omega) (by omega)]
 simp_all
theorem M1(pc t v:Int):pE pc t v=some (1,[(t,v),(0,0),(0,0),(0,0),(0,0),(0,0),(0,0),(0,0)],pc,0,-1,-1,0,0,()):=rfl
def Rx(n key:Int)(ss bs:List Int)(r:Bool×(List (Int))×Int×(List DCe)×(List DLn)×(List DTh)×Unit):Prop:=∃b Z3 Z0 Zr,r=(b,bs,key,Z3,Z0,Zr,())/\(b=true->MOk n ss bs Z3 Z0 Zr)
theorem yb{n key:Int}{ss bs:List Int}{cs:List DCe}{ls:List DLn}{ts:List DTh}:Ok (some (false,bs,key,cs,ls,ts,())) (Rx n key ss bs):=Ok.ret ⟨_,_,_,_,rfl,λh=>by cases h⟩
theorem qB{n key ct cv:Int}{ss bs:List Int}{cs:List DCe}{ls:List DLn}{ts:List DTh}{i:Nat}(h:MOk n ss bs cs ls ts)(hi:i<4)(hc:oG (RK bs ss) (ct,cv)):
 Ok ((dM ts i).bind λ_=>(dM ts i).bind λx75=>(dM x75.2.1 0).bind λ_=>(dM ts i).bind λx77=>(dM x77.2.1 0).bind λ_=>(dM (List.modify ts i λe=>(e.1,((List.modify e.2.1 0 λ_=>(ct,cv)),e.2.2))) i).bind λ_=>
  some (true,bs,key,cs,ls,List.modify (List.modify ts i λe=>(e.1,((List.modify e.2.1 0 λ_=>(ct,cv)),e.2.2))) i λe=>((1:Int),e.2),())) (Rx n key ss bs):=by
 have Xo:=h.tlen;have ⟨t,ht⟩:∃t,ts[i]?=some t:=⟨_,oGE (by omega)⟩;have hg:dM ts i=some t:=ht;have YN:=(oGS ht).1;have hok:=h.thr t (dU ht);have ⟨c,hc0⟩:∃c,t.2.1[0]?=some c:=⟨_,oGE (by have:=hok.len;omega)⟩;simp[hg,show dM t.2.1 0=some c from hc0,fc ht,fc hc0,i3 YN,oN YN];exact Ok.ret ⟨_,_,_,_,rfl,λ_=>h.set h.mem ⟨⟨show(0:Int)<=1 by decide,show(1:Int)<=4 by decide⟩,by dsimp only;rw[List.length_set];exact hok.len,mn hok.regs hc,hok.pc,hok.count,hok.handler,hok.saved,hok.trap,hok.code⟩⟩
theorem Ih{K:Int->Prop}{n pc:Int}{rs:List DCe}(hl:rs.length=8)(hr:∀c∈rs,oG K c)(hp:0<=pc/\pc<=255)(hn:0<=n):zr K n (1,rs,pc,0,-1,-1,0,0):=
 ⟨⟨show(0:Int)<=1 by decide,show(1:Int)<=4 by decide⟩,hl,hr,hp,⟨show(0:Int)<=0 by decide,hn⟩,⟨show(-1:Int)<=-1 by decide,show(-1:Int)<=255 by decide⟩,⟨show(-1:Int)<=-1 by decide,show(-1:Int)<=255 by decide⟩,⟨show(0:Int)<=0 by decide,show(0:Int)<=6 by decide⟩,⟨show(0:Int)<=0 by decide,show(0:Int)<=65535 by decide⟩⟩
theorem MOk.mk_mem{n:Int}{ss bs:List Int}{cs Z3:List DCe}{ls Z0:List DLn}{ts:List DTh}(h:MOk n ss bs cs ls ts)(hm:lz (RK bs ss) Z3 Z0):MOk n ss bs Z3 Z0 ts:=⟨h.lay,hm,h.tlen,h.thr⟩
set_option maxHeartbeats 4000000 in
theorem MP{n m key:Int}{code:List DIn}{ss bs:List Int}{dd:List (List Int)}{cs:List DCe}{ls:List DLn}{ts:List DTh}{i:Nat}{trap count pc call:Int}{args data:List DCn}{t v rg o sp:Int}{dat:List DCn}{w:Bool}(h:MOk n ss bs cs ls ts)(hi:i<4)
 (hR:xr m ss (i:Int) 1 trap count pc call args data)(hv:Pr ss (t,v,rg,o))(hd:dat.length<=16/\∀c∈dat,Pr ss c)(ZC:-1<=sp/\sp<=3):
 Ok (pB code ss dd (i:Int) 1 trap count pc call args data t v rg o dat sp w bs key cs ls ts) (Rx n key ss bs):=by
 have hL:=h.lay;have Xo:=h.tlen;obtain⟨YU,Yc⟩:=hR.hkind rfl;have hargs:=hR.hargs;obtain⟨VL,Yq⟩:=Hn (key:=key) hL hv;obtain⟨th,X7⟩:∃th,ts[i]?=some th:=⟨_,oGE (by omega)⟩;have hok:=h.thr th (dU X7);have hc0:=hok.count;have YN:=(oGS X7).1;dsimp only at VL;unfold pB;delta dQ;rw[dO,VL,uO hR.hcall];simp only[oBS,bne_self_eq_false,oCF];refine Ok.get YN λ_ _=>?_;have ZX:=qB (key:=key) (ct:=(Ho bs key (t,v,rg,o)).1) (cv:=(Ho bs key (t,v,rg,o)).2) h hi Yq
 have buf:sf call=2->dat.length>0->∃a:DCn,args[1]?=some a/\Pr ss a/\a.1=1/\∃y,dZ lC NN (i,dat,(dat.length:Int),0,bs,key,cs,ls,ts,code,ss,dd,(i:Int),1,trap,count,pc,call,args,data,t,v,rg,o,dat,sp,w,(Ho bs key (t,v,rg,o)).1,(Ho bs key (t,v,rg,o)).2,a.2.2.1,a.2.2.2,())=some y /\
  ((∃Z3 Z0,y=.inl (false,bs,key,Z3,Z0,ts,()))\/(∃Z3 Z0 z f,y=.inr (i,dat,(dat.length:Int),z,false,bs,key,Z3,Z0,ts,code,ss,dd,(i:Int),1,trap,count,pc,call,args,data,t,v,rg,o,dat,sp,w,(Ho bs key (t,v,rg,o)).1,(Ho bs key (t,v,rg,o)).2,a.2.2.1,f,())/\lz (RK bs ss) Z3 Z0)):=by
  intro hb ZS
  have hkk:(kB call)[1]?=some 80:=by
   have:call=2\/call=14:=by unfold sf at hb;split at hb<;>first|omega|(split at hb<;>omega)
   rcases this with rfl|rfl<;>rfl
  have Xy:=(oGS hkk).1;obtain⟨a,ha⟩:∃a,args[1]?=some a:=⟨_,oGE (by omega)⟩;have VY:=hargs.2 a (dU ha);have ZR:=Yc 1 80 a hkk ha
  have Xw:a.1=1:=by unfold Ns at ZR;simpa using ZR
  have ha32:0<=a.2.2.2/\a.2.2.2<=32:=by
   rcases VY with⟨g,_⟩|⟨_,_,_,z,g1,g2,g3⟩
   ·omega
   ·have:=hL.1.2.2 z (dU g1);omega
  refine⟨a,ha,VY,Xw,?_⟩
  refine iv (f:=lC) (n:=NN) (P:=λs'=>∃k:Nat,∃Z3 Z0,s'=(i,dat,(dat.length:Int),(k:Int),bs,key,Z3,Z0,ts,code,ss,dd,(i:Int),1,trap,count,pc,call,args,data,t,v,rg,o,dat,sp,w,(Ho bs key (t,v,rg,o)).1,(Ho bs key (t,v,rg,o)).2,a.2.2.1,a.2.2.2+k,())/\k<=dat.length/\lz (RK bs ss) Z3 Z0)
   (R:=λy=>(∃Z3 Z0,y=.inl (false,bs,key,Z3,Z0,ts,()))\/(∃Z3 Z0 z f,y=.inr (i,dat,(dat.length:Int),z,false,bs,key,Z3,Z0,ts,code,ss,dd,(i:Int),1,trap,count,pc,call,args,data,t,v,rg,o,dat,sp,w,(Ho bs key (t,v,rg,o)).1,(Ho bs key (t,v,rg,o)).2,a.2.2.1,f,())/\lz (RK bs ss) Z3 Z0))
   (m:=λs'=>(s'.2.2.1-s'.2.2.2.1).toNat) ⟨0,cs,ls,by simp,by omega,h.mem⟩ (by unfold NN;dsimp only;omega) ?_
  rintro _ ⟨k,Z3,Z0,rfl,hk,hm⟩;unfold lC;dsimp only
  (with_reducible refine dI (λZ9=>?_) λZ9=>?_)
  ·rw[dO];simp only[oBS];refine Ok.get (by omega) λc hc=>?_;obtain⟨Z7,XW⟩:=Hn (key:=key) hL (hd.2 c (dU hc));rw[Z7];simp only[oBS,bne_self_eq_false,oCF];refine AZ.bind ?_;rintro⟨q,_⟩ hin;dsimp only at hin⊢
   (with_reducible refine dI (λZZ=>?_) λZZ=>?_)
   ·exact Ok.ret (.inl ⟨_,_,rfl⟩)
   ·obtain⟨g1,g2,z,g3,g4⟩:=hin ZZ;obtain⟨ad,ea,a0,a1,_⟩:=Jt (key:=key) hL g1 g3 g2 g4;rw[ea];simp only[oBS];refine(AD hm ⟨a0,a1⟩ XW).bind ?_;rintro _ ⟨Vr,VT,rfl,hm2⟩;dsimp only;rw[dR (x:=a.2.2.2+k+1) (by omega) (by omega),dR (x:=(k:Int)+1) (by omega) (by omega)];exact Ok.ret ⟨⟨k+1,_,_,by rw[show a.2.2.2+((k+1:Nat):Int)=a.2.2.2+k+1 by omega];rfl,by omega,hm2⟩,by dsimp only;omega⟩
  ·exact Ok.ret (.inr ⟨_,_,_,_,rfl,hm⟩)
 rcases vH hR.hcall with rfl|rfl|rfl|rfl|rfl|rfl|rfl|rfl|rfl|rfl|rfl|rfl|rfl|rfl|rfl|rfl
 case inr.inr.inl=>
  simp only[show((sf 2)==2)=true from rfl,oCT];by_cases ZS:dat.length>0
  ·obtain⟨a,ha,VY,Xw,y,ey,hy⟩:=buf rfl ZS;simp only[oDT (show((dat.length:Nat):Int)>0 by omega),oCT,show dM args 1=some a from ha,oBS,pK VY,oNT,oCF,bne_eq_false_iff_eq.2 Xw,ey]
   rcases hy with⟨Z3,Z0,rfl⟩|⟨Z3,Z0,z,f,rfl,hm⟩
   ·exact yb
   ·simp only[Int.reduceBEq,oCF];exact qB (h.mk_mem hm) hi Yq
  ·simp only[oDF (show ¬((dat.length:Nat):Int)>0 by omega),oCF,Int.reduceBEq];exact ZX
 case inr.inr.inr.inr.inr.inr.inr.inr.inr.inr.inr.inr.inr.inr.inl=>
  simp only[show((sf 14)==2)=true from rfl,oCT];by_cases ZS:dat.length>0
  ·obtain⟨a,ha,VY,Xw,y,ey,hy⟩:=buf rfl ZS;simp only[oDT (show((dat.length:Nat):Int)>0 by omega),oCT,show dM args 1=some a from ha,oBS,pK VY,oNT,oCF,bne_eq_false_iff_eq.2 Xw,ey]
   rcases hy with⟨Z3,Z0,rfl⟩|⟨Z3,Z0,z,f,rfl,hm⟩
   ·exact yb
   ·simp only[Int.reduceBEq,oCF];exact qB (h.mk_mem hm) hi Yq
  ·simp only[oDF (show ¬((dat.length:Nat):Int)>0 by omega),oCF,Int.reduceBEq];exact ZX
 case inr.inr.inr.inr.inr.inr.inr.inr.inr.inr.inr.inr.inl=>
  obtain⟨a,ha⟩:∃a,args[0]?=some a:=⟨_,oGE (by rw[YU];decide)⟩;have hva:=(hargs.2 a (dU ha)).val;simp only[show((sf 12)==2)=false from rfl,oCF,Int.reduceBEq,oCT,show dM args 0=some a from ha,oBS];rw[dY (x:=a.2.1) (by have:=hva.1;omega) (by have:=hva.2;omega)];by_cases h1:a.2.1>255
  ·simp only[oDT h1,oCT];exact yb
  by_cases h2:a.1=0
  ·simp only[oDF h1,oCF,bne_eq_false_iff_eq.2 h2,show dM ts i=some th from X7,oBS,fc X7];exact qB (h.set h.mem ⟨hok.state,hok.len,hok.regs,hok.pc,hok.count,⟨by dsimp only;have:=hva.1;omega,by dsimp only;omega⟩,hok.saved,hok.trap,hok.code⟩) hi Yq
  ·simp only[oDF h1,oCF,bne_iff_ne.2 h2,oCT];exact yb
 case inr.inr.inr.inr.inr.inr.inr.inr.inr.inr.inl=>
  obtain⟨a,ha⟩:∃a,args[0]?=some a:=⟨_,oGE (by rw[YU];decide)⟩;obtain⟨c,hc⟩:∃c,args[1]?=some c:=⟨_,oGE (by rw[YU];decide)⟩;have hva:=(hargs.2 a (dU ha)).val;obtain⟨Z7,XW⟩:=Hn (key:=key) hL (hargs.2 c (dU hc));simp only[show((sf 10)==2)=false from rfl,oCF,Int.reduceBEq,oCT];by_cases hsp0:sp>=0
  ·obtain⟨j,rfl⟩:∃j:Nat,sp=j:=⟨sp.toNat,by omega⟩;obtain⟨tj,htj⟩:∃tj,ts[j]?=some tj:=⟨_,oGE (by omega)⟩;simp only[oDT hsp0,oCT,show dM args 0=some a from ha,show dM args 1=some c from hc,oBS,Z7,bne_self_eq_false,oCF,dO,show dM ts j=some tj from htj];rw[dY (x:=a.2.1) (by have:=hva.1;omega) (by have:=hva.2;omega)];by_cases h0:tj.1=0
   ·by_cases h1:a.2.1>255
    ·simp only[bne_eq_false_iff_eq.2 h0,oCF,oDT h1,oCT,oBS];exact yb
    by_cases h2:a.1=0
    ·simp only[bne_eq_false_iff_eq.2 h0,oDF h1,oCF,bne_eq_false_iff_eq.2 h2,oBS,show dM args 0=some a from ha,dY (x:=a.2.1) (by have:=hva.1;omega) (by have:=hva.2;omega),M1,dO,show dM ts j=some tj from htj,fc htj];refine qB (h.set h.mem (Ih rfl (all_cons XW ?_) ⟨hva.1,by omega⟩ (by omega))) hi Yq;exact all_cons (ms (by decide)) (all_cons (ms (by decide)) (all_cons (ms (by decide)) (all_cons (ms (by decide)) (all_cons (ms (by decide)) (all_cons (ms (by decide)) (all_cons (ms (by decide)) eG))))))
    ·simp only[bne_eq_false_iff_eq.2 h0,oDF h1,oCF,bne_iff_ne.2 h2,oCT,oBS];exact yb
   ·simp only[bne_iff_ne.2 h0,oCT,oBS];exact yb
  ·simp only[oDF hsp0,oCF];exact ZX
 all_goals
  simp only[show((sf 0)==2)=false from rfl,show((sf 1)==2)=false from rfl,show((sf 3)==2)=false from rfl,show((sf 4)==2)=false from rfl,show((sf 5)==2)=false from rfl,show((sf 6)==2)=false from rfl,show((sf 7)==2)=false from rfl,
   show((sf 8)==2)=false from rfl,show((sf 9)==2)=false from rfl,show((sf 11)==2)=false from rfl,show((sf 13)==2)=false from rfl,show((sf 15)==2)=false from rfl,oCF,Int.reduceBEq]
  exact ZX
def fP(c:Int×Int×Int×Int):Prop:=
 ((c.1=0\/c.1=2)/\c.2.2.1=0/\c.2.2.2=0/\0<=c.2.1/\c.2.1<=65535)\/
 (c.1=1/\c.2.1=0/\((c.2.2.1=-1/\0<=c.2.2.2/\c.2.2.2<=65535)\/(0<=c.2.2.1/\c.2.2.1<4/\0<=c.2.2.2/\c.2.2.2<32)))
structure Jx (a0 a1 a2 a3 a4 a5:Int)(a6 a7:List (Int×Int×Int×Int)):Prop where
 thread:0<=a0/\a0<=3
 stop:0<=a1/\a1<=3
 trap:0<=a2/\a2<=6
 count:0<=a3/\a3<=1099511627776
 pc:0<=a4/\a4<=255
 call:0<=a5/\a5<=15
 args:(∀c∈a6,fP c)/\a6.length<=3
 data:(∀c∈a7,fP c)/\a7.length<=16
theorem Pr.cell{ss:List Int}{c:DCn}(hs:At ss)(h:Pr ss c):fP c:=by
 rcases h with⟨h1,h2,h3,h4⟩|⟨h1,h2,h3,n,h4,h5,h6⟩
 ·exact .inl ⟨h1,h2,h3,h4.1,h4.2⟩
 ·have hn:=hs.2.2 n (dU h4);have hl:=(oGS h4).1;have WL:=hs.2.1;exact .inr ⟨h1,h2,.inr ⟨h3,by omega,h5,by omega⟩⟩
theorem xr.z{n:Int}{ss:List Int}{i stop trap count pc call:Int}{args data:List DCn}(hs:At ss)(h:xr n ss i stop trap count pc call args data)(hn:n<=1099511627776):Jx i stop trap count pc call args data:=
 ⟨⟨h.hthr.1,by have:=h.hthr.2;omega⟩,h.hstop,h.htrap,⟨h.hcnt.1,by have:=h.hcnt.2;omega⟩,h.hpc,h.hcall,⟨λc hc=>(h.hargs.2 c hc).cell hs,h.hargs.1⟩,⟨λc hc=>(h.hdata.2 c hc).cell hs,h.hdata.1⟩⟩
inductive uR:DEn->Prop
 |slice {i k stop trap count pc call:Int} {args data:List DCn}:Jx i stop trap count pc call args data->stop≠3->1<=k/\k<=64->uR (1,i,k,i,stop,trap,count,pc,call,args,data,0,0,0,0,[],0,false)
 |result {i trap count pc call:Int} {args data:List DCn} {t v rg o sp:Int} {dat:List DCn} {w:Bool}:Jx i 1 trap count pc call args data->fP (t,v,rg,o)->(∀c∈dat,fP c)/\dat.length<=16->-1<=sp/\sp<=3->uR (2,i,0,i,1,trap,count,pc,call,args,data,t,v,rg,o,dat,sp,w)
 |signal {i:Int}:0<=i/\i<=3->uR (3,i,0,0,0,0,0,0,0,[],[],0,0,0,0,[],0,false)
 |wake {i t v rg o:Int}:0<=i/\i<=3->fP (t,v,rg,o)->uR (4,i,0,0,0,0,0,0,0,[],[],t,v,rg,o,[],-1,false)
theorem sG{rec:List DEn}{x:DEn}(h:∀e∈rec,uR e)(hx:uR x):∀e∈List.append rec [x],uR e:=ir h (λe he=>by rw[List.mem_singleton.1 he];exact hx)
def P5(js:List Int):Prop:=∀(u:Nat)(j:Int),js[u]?=some j->j≠u
theorem P5.set{js:List Int}{i:Nat}{x:Int}(h:P5 js)(hx:x≠i):P5 (js.set i x):=by
 intro u j hj;rw[List.getElem?_set]at hj;split at hj
 ·rename_i hiu;subst hiu;split at hj
  ·injection hj with hj
   rw[<- hj];exact hx
  ·cases hj
 ·exact h u j hj
theorem gd{S T:Type}{f:S->Option (S⊕T)}(P:S->Prop)(Q:T->Prop)(m:S->Nat)
 (h:∀s,P s->(∃s',f s=some (.inl s')/\P s'/\m s'<m s)\/∃t,f s=some (.inr t)/\Q t):∀n s,P s->m s<n->∃t,dZ f n s=some t/\Q t:=by
 intro n
 induction n with
 |zero=>omega
 |succ n ih=>
  intro s hp hm
  rcases h s hp with⟨s',e,hp',hm'⟩|⟨t,e,hq⟩
  ·have ⟨t,e2,hq⟩:=ih s' hp' (by omega);exact⟨t,by simp[dZ,e];exact e2,hq⟩
  ·exact⟨t,by simp[dZ,e],hq⟩
theorem Ax{x:Int}(h0:0<=x)(h1:x<=65535):wk .u16 x=x:=by
 unfold wk;rw[xt];omega
theorem dV{b n m:Nat}(hb:b<=1000)(h:n+m<=1000000):dW b n m=true:=by
 have h2:=Nat.mul_le_mul h hb;simp[dW];omega
def be:Nat->Int->List Int
 |0,_=>[]
 |n+1,v=>(v/256 ^ n)%256::be n v
theorem gp:∀(n:Nat)(v:Int),(be n v).length=n:=by
 intro n
 induction n with
 |zero=>intro v;rfl
 |succ n ih=>intro v;simp[be,ih]
theorem Bj(x:Int):wk .u8 x=x%256:=Oq x
theorem Kf(v:Int){n:Nat}(h:n<=7):shR .shr .i64 v (8*n)=v/256 ^ n:=by
 have e:min (8*n) (IntKind.bits .i64)=8*n:=by simp[IntKind.bits];omega
 have e2:(2:Int) ^ (8*n)=256 ^ n:=by rw[Int.pow_mul];rfl
 show v.fdiv (2 ^ (min (8*n) (IntKind.bits .i64)))=_
 grind
theorem MO(v:Int):∀(n:Nat),n<=7->∀(m:Nat)(b:List Int),n<m->b.length+n<=100000->dZ jA m ((n:Int)-1,v,b,())=some (-1,v,false,b++be n v,()):=by
 intro n
 induction n with
 |zero=>
  intro _ m b hm _;obtain⟨m,rfl⟩:∃m',m=m'+1:=⟨m-1,by omega⟩;simp[dZ,jA,be]
 |succ n ih=>
  intro hn m b hm hb;obtain⟨m,rfl⟩:∃m',m=m'+1:=⟨m-1,by omega⟩
  have e1:((n+1:Nat):Int)-1=n:=by omega
  have e2:w64 (8*(n:Int))=((8*n:Nat):Int):=by rw[dR (by omega) (by omega)];omega
  have e3:w64 ((n:Int)-1)=(n:Int)-1:=dR (by omega) (by omega)
  have Ww:jA (((n+1:Nat):Int)-1,v,b,())=some (.inl ((n:Int)-1,v,b++[(v/256 ^ n)%256],())):=by
   unfold jA;rw[e1]
   have h0:decide ((n:Int)>=0)=true:=by simp
   simp only[h0,e2,dO,oBS,Kf v (by omega:n<=7),Bj,e3];rw[dV (by decide) (by simp;omega)];rfl
  simp only[dZ,Ww,oBS];rw[ih (by omega) m _ (by omega) (by simp;omega)];simp[be]
theorem ya{n:Nat}{v:Int}{b:List Int}(hn:n<=7)(hb:b.length<=90000):fY n v b=some (b++be n v,()):=by
 unfold fY;rw[dR (x:=(n:Int)-1) (by omega) (by omega)];simp[MO v n hn NN b (by unfold NN;omega) (by omega)]
def cb(c:Int×Int×Int×Int):List Int:=if c.1=1 then[1,c.2.2.1+1]++be 2 c.2.2.2 else[c.1,0]++be 2 c.2.1
theorem mt(c:Int×Int×Int×Int):(cb c).length=4:=by
 unfold cb;split<;>simp[gp]
theorem LM{c:Int×Int×Int×Int}{b:List Int}(h:fP c)(hb:b.length<=80000):iY c.1 c.2.1 c.2.2.1 c.2.2.2 b=some (b++cb c,()):=by
 obtain⟨t,v,r,o⟩:=c;unfold iY cb
 rcases h with⟨h1,h2,h3,h4,h5⟩|⟨h1,h2,h3⟩
 ·simp only at h1 h2 h3 h4 h5
  have ht:(t==1)=false:=by simp;omega
  simp only[ht,oCF];rw[dV (by decide) (by simp;omega)];have e:wk .i64 v=v:=Bi (by omega) (by omega);have hp:=ya (n:=2) (v:=v) (b:=b.append [t,0]) (by decide) (by show(b++[t,0]).length<=90000;simp;omega)
  simp_all
 ·simp only at h1 h2 h3;subst h1;simp only[beq_self_eq_true,oCT];rw[dR (x:=r+1) (by omega) (by omega),Bj,Int.emod_eq_of_lt (by omega) (by omega)];rw[dV (by decide) (by simp;omega)];simp only[oCT];have hp:=ya (n:=2) (v:=o) (b:=b.append [1,r+1]) (by decide) (by show(b++[1,r+1]).length<=90000;simp;omega)
  simp_all
theorem te:∀l:List (Int×Int×Int×Int),(l.flatMap cb).length=4*l.length:=by
 intro l
 induction l with
 |nil=>rfl
 |cons x l ih=>rw[List.flatMap_cons,List.length_append,ih,mt,oLC];omega
def lb(xs:List (Int×Int×Int×Int)):List Int:=(xs.length:Int)::xs.flatMap cb
theorem FU{xs:List (Int×Int×Int×Int)}{b:List Int}(h:∀c∈xs,fP c)(hl:xs.length<=255)(hb:b.length<=70000):ig xs b=some (b++lb xs,()):=by
 unfold ig;simp only[dT,Bj];rw[Int.emod_eq_of_lt (by omega) (by omega),dV (by decide) (by simp;omega)]
 obtain⟨t,e,x6,x7,rfl⟩:=gd (f:=ny)
  (λs=>∃i:Nat,i<=xs.length/\s=(xs,(xs.length:Int),(i:Int),b++(xs.length:Int)::(xs.take i).flatMap cb,()))
  (λt=>∃x6 x7,t=(xs,(xs.length:Int),x6,x7,b++lb xs,()))
  (λs=>(s.2.1-s.2.2.1).toNat) (by
   rintro _ ⟨i,hi,rfl⟩;unfold ny;by_cases hn:(i:Int)<xs.length
   ·left
    have ZT:i<xs.length:=by omega
    have Zx:((xs.take i).flatMap cb).length<=4*i:=by
     rw[te,oLT];omega
    have Yv:(xs.take (i+1)).flatMap cb=(xs.take i).flatMap cb++cb xs[i]:=by
     rw[List.take_succ_eq_append_getElem ZT,List.flatMap_append];simp
    simp only[hn,decide_true,oCT,dO,oBS,dM,oGE ZT];rw[LM (h _ (List.getElem_mem ZT)) (by rw[List.length_append,oLC];omega)];rw[dR (x:=(i:Int)+1) (by omega) (by omega)];refine⟨_,rfl,⟨i+1,by omega,?_⟩,by simp only;omega⟩
    simp_all
   ·right;simp only[hn,decide_false,oCF]
    have:i=xs.length:=by omega
    subst this
    exact⟨_,rfl,_,_,by rw[List.take_length];rfl⟩) NN (xs,(xs.length:Int),0,b.append [(xs.length:Int)],()) ⟨0,by omega,by simp⟩ (by show((xs.length:Int)-0).toNat<NN;unfold NN;omega)
 simp_all
theorem AM{c:Int×Int×Int×Int}(h:fP c):gg c.1 c.2.1 c.2.2.1 c.2.2.2=some (true,()):=by
 obtain⟨t,v,r,o⟩:=c;unfold gg
 rcases h with⟨h1,h2,h3,h4,h5⟩|⟨h1,h2,h3⟩
 ·simp only at h1 h2 h3 h4 h5;subst h2;subst h3
  rcases h1 with rfl|rfl<;>rfl
 ·simp only at h1 h2 h3;subst h1;subst h2
  rcases h3 with⟨rfl,h4,h5⟩|⟨h4,h5,h6,h7⟩
  ·simp[h4,h5]
  ·have hr:(r==-1)=false:=by simp;omega
   simp[hr,h4,h5,h6,h7]
theorem sX{xs:List (Int×Int×Int×Int)}{n:Int}(h:∀c∈xs,fP c)(hl:(xs.length:Int)<=n)(hn:n<=1000):fQ xs n=some (true,()):=by
 have YT:fj xs=some (-1,()):=by
  unfold fj
  obtain⟨t,e,x1,x2,x3,x4,rfl⟩:=gd (f:=fq)
   (λs=>∃i:Nat,i<=xs.length/\s=(xs,(xs.length:Int),(i:Int),()))
   (λt=>∃x1 x2 x3 x4,t=.inr (x1,x2,x3,x4,()))
   (λs=>(s.2.1-s.2.2.1).toNat) (by
    rintro _ ⟨i,hi,rfl⟩;unfold fq;by_cases hn2:(i:Int)<xs.length
    ·left
     have ZT:i<xs.length:=by omega
     simp only[hn2,decide_true,oCT,dO,oBS,dM,oGE ZT,jc,AM (h _ (List.getElem_mem ZT)),oNT,oCF];rw[dR (x:=(i:Int)+1) (by omega) (by omega)];exact⟨_,rfl,⟨i+1,by omega,rfl⟩,by simp only;omega⟩
    ·right;simp only[hn2,decide_false,oCF]
     exact⟨_,rfl,_,_,_,_,rfl⟩) NN (xs,(xs.length:Int),0,()) ⟨0,by omega,rfl⟩ (by show((xs.length:Int)-0).toNat<NN;unfold NN;omega)
  simp only[dT,e]
 unfold fQ fF;simp only[dT,hl,decide_true,oCT,YT,oBS];rfl
section
variable {a0 a1 a2 a3 a4 a5:Int} {a6 a7:List (Int×Int×Int×Int)}
theorem tD(h:Jx a0 a1 a2 a3 a4 a5 a6 a7):gw a0 a1 a2 a3 a4 a5 a6 a7=some (true,()):=by
 have hv:∀{x lo hi:Int},lo<=x/\x<=hi->eW x lo hi=some (true,()):=by
  intro x lo hi hx;unfold eW;simp[hx.1,hx.2]
 unfold gw;simp only[hv h.thread,hv h.stop,hv h.trap,hv h.count,hv h.pc,hv h.call,oBS,oCT];rw[sX h.args.1 (by have:=h.args.2;omega) (by decide)];simp only[oBS,oCT];rw[sX h.data.1 (by have:=h.data.2;omega) (by decide)];rfl
def rb(a0 a1 a2 a3 a4 a5:Int)(a6 a7:List (Int×Int×Int×Int)):List Int:=a0::a1::a2::(be 6 a3++a4::a5::(lb a6++lb a7))
theorem tT(xs:List (Int×Int×Int×Int)):(lb xs).length=4*xs.length+1:=by unfold lb;rw[oLC,te]
theorem H3(h:Jx a0 a1 a2 a3 a4 a5 a6 a7):jk a0 a1 a2 a3 a4 a5 a6 a7=some (rb a0 a1 a2 a3 a4 a5 a6 a7,0,()):=by
 have hu:∀{x:Int},0<=x->x<=255->wk .u8 x=x:=λh0 h1=>by rw[Bj];exact Int.emod_eq_of_lt h0 (by omega)
 obtain⟨⟨t0,t1⟩,⟨s0,s1⟩,⟨r0,r1⟩,⟨c0,c1⟩,⟨p0,p1⟩,⟨q0,q1⟩,⟨g1,g2⟩,g3,g4⟩:=h;unfold jk;rw[tD ⟨⟨t0,t1⟩,⟨s0,s1⟩,⟨r0,r1⟩,⟨c0,c1⟩,⟨p0,p1⟩,⟨q0,q1⟩,⟨g1,g2⟩,g3,g4⟩];simp only[oBS,oNT,oCF,hu t0 (by omega),hu s0 (by omega),hu r0 (by omega),hu p0 p1,hu q0 (by omega)];have hp:=ya (n:=6) (v:=a3) (b:=[a0,a1,a2]) (by decide) (by simp);rw[show((6:Nat):Int)=6 from rfl]at hp;rw[hp];simp only[oBS];rw[dV (by decide) (by simp[gp])];simp only[oCT];rw[FU g1 (by omega) (by show(([a0,a1,a2]++be 6 a3)++[a4,a5]).length<=70000;simp[gp])];simp only[oBS];rw[FU g3 (by omega) (by show((([a0,a1,a2]++be 6 a3)++[a4,a5])++lb a6).length<=70000;simp[gp,tT];omega)];simp only[oBS];show some (((([a0,a1,a2]++be 6 a3)++[a4,a5])++lb a6)++lb a7,0,())=_;unfold rb;simp
end
def val(v:Int):List Int->Int
 | []=>v
 |x::r=>val (v*256+x) r
section
variable {a0 a1 a2 a3 a4 a5:Int} {a6 a7:List (Int×Int×Int×Int)}
end
theorem l8{a b:List (Int×Int×Int×Int)}(ha:a.length<=1000):∃r,gt a b=some (r,())/\(r=true↔a=b):=by
 unfold gt;simp only[dT];by_cases hl:a.length=b.length
 ·have hb:((a.length:Int) != (b.length:Int))=false:=by simp[hl]
  simp only[hb,oCF]
  obtain⟨t,e,ht⟩:=gd (f:=jq)
   (λs=>∃i:Nat,i<=a.length/\s=(a,b,(a.length:Int),(i:Int),())/\a.take i=b.take i)
   (λt=>(t=.inl (false,())/\a≠b)\/((∃x3 x4 x5 x6 x7,t=.inr (x3,x4,x5,x6,x7,()))/\a=b))
   (λs=>(s.2.2.1-s.2.2.2.1).toNat) (by
    rintro _ ⟨i,hi,rfl,Yv⟩;unfold jq;by_cases hlt:(i:Int)<a.length
    ·have ZT:i<a.length:=by omega
     have WU:i<b.length:=by omega
     simp only[hlt,decide_true,oCT,dO,oBS,dM,oGE ZT,oGE WU];by_cases he:a[i]=b[i]
     ·left;simp only[he,beq_self_eq_true,Bool.and_self,oNT,oCF];rw[dR (x:=(i:Int)+1) (by omega) (by omega)];refine⟨_,rfl,⟨i+1,by omega,rfl,?_⟩,by simp only;omega⟩;rw[List.take_succ_eq_append_getElem ZT,List.take_succ_eq_append_getElem WU,Yv,he]
     ·right
      have hf:((a[i].1==b[i].1)&&((a[i].2.1==b[i].2.1)&&((a[i].2.2.1==b[i].2.2.1)&&((a[i].2.2.2==b[i].2.2.2)&&true))))=false:=by
       cases hq:((a[i].1==b[i].1)&&((a[i].2.1==b[i].2.1)&&((a[i].2.2.1==b[i].2.2.1)&&((a[i].2.2.2==b[i].2.2.2)&&true))))with
       |false=>rfl
       |true=>
        simp only[oBA,beq_iff_eq,and_true]at hq;exact absurd (Prod.ext hq.1 (Prod.ext hq.2.1 (Prod.ext hq.2.2.1 hq.2.2.2))) he
      simp only[hf,Bool.not_false,oCT];exact⟨_,rfl,.inl ⟨rfl,λh=>he (by subst h;rfl)⟩⟩
    ·right;simp only[hlt,decide_false,oCF]
     have:i=a.length:=by omega
     subst this;refine⟨_,rfl,.inr ⟨⟨_,_,_,_,_,rfl⟩,?_⟩⟩;rw[List.take_length]at Yv
     rw[Yv,hl,List.take_length]) NN (a,b,(a.length:Int),0,()) ⟨0,by omega,rfl,by simp⟩ (by show((a.length:Int)-0).toNat<NN;unfold NN;omega)
  rcases ht with⟨rfl,hne⟩|⟨⟨x3,x4,x5,x6,x7,rfl⟩,Wh⟩
  ·exact⟨false,by simp only[e],by simp[hne]⟩
  ·exact⟨true,by simp only[e],by simp[Wh]⟩
 ·have hb:((a.length:Int) != (b.length:Int))=true:=by simp;omega
  simp only[hb,oCT];exact⟨false,rfl,by simp;intro h;exact hl (by rw[h])⟩
theorem Ko{a0 a1 a2 a3 a4 a5:Int}{a6 a7:List (Int×Int×Int×Int)}{b0 b1 b2 b3 b4 b5:Int}{b6 b7:List (Int×Int×Int×Int)}(h6:a6.length<=1000)(h7:a7.length<=1000):
 ∃r,iR a0 a1 a2 a3 a4 a5 a6 a7 b0 b1 b2 b3 b4 b5 b6 b7=some (r,())/\(r=true↔a0=b0/\a1=b1/\a2=b2/\a3=b3/\a4=b4/\a5=b5/\a6=b6/\a7=b7):=by
 obtain⟨r,e1,g1⟩:=l8 (b:=b6) h6;obtain⟨s,e2,g2⟩:=l8 (b:=b7) h7;unfold iR;by_cases k0:a0=b0
 ·by_cases k1:a1=b1
  ·by_cases k2:a2=b2
   ·by_cases k3:a3=b3
    ·by_cases k4:a4=b4
     ·by_cases k5:a5=b5
      ·subst k0 k1 k2 k3 k4 k5
       cases r with
       |true=>
        refine⟨s,by simp[e1,e2],?_⟩;rw[g2];have:=g1.1 rfl;simp[this]
       |false=>
        refine⟨false,by simp[e1],?_⟩
        have:a6≠b6:=λh=>by simpa using g1.2 h
        simp[this]
      ·exact⟨false,by have kb:=oBF k5;simp[k0,k1,k2,k3,k4,kb],by simp[k5]⟩
     ·exact⟨false,by have kb:=oBF k4;simp[k0,k1,k2,k3,kb],by simp[k4]⟩
    ·exact⟨false,by have kb:=oBF k3;simp[k0,k1,k2,kb],by simp[k3]⟩
   ·exact⟨false,by have kb:=oBF k2;simp[k0,k1,kb],by simp[k2]⟩
  ·exact⟨false,by have kb:=oBF k1;simp[k0,kb],by simp[k1]⟩
 ·exact⟨false,by have kb:=oBF k0;simp[kb],by simp[k0]⟩
theorem iK{x:Int}(h0:0<=x)(h1:x<=255):wk .u8 x=x:=by rw[Bj];exact Int.emod_eq_of_lt h0 (by omega)
theorem AW{α:Type}(a b:List α):List.append a b=a++b:=rfl
theorem AP{a0 a1 a2 a3 a4 a5:Int}{a6 a7:List DCn}:(rb a0 a1 a2 a3 a4 a5 a6 a7).length=13+4*a6.length+4*a7.length:=by
 unfold rb;simp only[oLC,List.length_append,gp,tT];omega
def xb(t v rg o:Int)(dat:List DCn)(sp:Int)(w:Bool):List Int:=cb (t,v,rg,o)++(sp+1)::(bif w then 1 else 0)::lb dat
def wb:DEn->List Int
 |(k,i,n,a0,a1,a2,a3,a4,a5,a6,a7,t,v,rg,o,dat,sp,w)=>
  k::i::n::(be 2 (if k=1\/k=2 then rb a0 a1 a2 a3 a4 a5 a6 a7 else[]).length++((if k=1\/k=2 then rb a0 a1 a2 a3 a4 a5 a6 a7 else[])++(if k=2\/k=4 then xb t v rg o dat sp w else[])))
theorem nilc:(∀c∈([]:List DCn),fP c)/\([]:List DCn).length<=16:=⟨(λc hc=>by cases hc),by decide⟩
theorem N2{t v rg o sp:Int}{dat:List DCn}{w:Bool}:(xb t v rg o dat sp w).length=7+4*dat.length:=by
 unfold xb;simp only[oLC,List.length_append,mt,tT];omega
section
variable (i n a0 a1 a2 a3 a4 a5:Int) (a6 a7:List DCn) (t v rg o:Int) (dat:List DCn) (sp:Int) (w:Bool)
theorem wb1:wb (1,i,n,a0,a1,a2,a3,a4,a5,a6,a7,t,v,rg,o,dat,sp,w)=1::i::n::(be 2 (rb a0 a1 a2 a3 a4 a5 a6 a7).length++rb a0 a1 a2 a3 a4 a5 a6 a7):=by simp[wb]
theorem wb2:wb (2,i,n,a0,a1,a2,a3,a4,a5,a6,a7,t,v,rg,o,dat,sp,w)=2::i::n::(be 2 (rb a0 a1 a2 a3 a4 a5 a6 a7).length++(rb a0 a1 a2 a3 a4 a5 a6 a7++xb t v rg o dat sp w)):=by simp[wb]
theorem wb3:wb (3,i,n,a0,a1,a2,a3,a4,a5,a6,a7,t,v,rg,o,dat,sp,w)=3::i::n::be 2 0:=by simp[wb]
theorem wb4:wb (4,i,n,a0,a1,a2,a3,a4,a5,a6,a7,t,v,rg,o,dat,sp,w)=4::i::n::(be 2 0++xb t v rg o dat sp w):=by simp[wb]
end
theorem Qc{e:DEn}(h:uR e):(wb e).length<=165:=by
 cases h with
 |slice hr _ _=>
  have h1:=hr.args.2;have h2:=hr.data.2;simp only[wb1,oLC,List.length_append,gp,AP];omega
 |result hr _ hd _=>
  have h1:=hr.args.2;have h2:=hr.data.2;have h3:=hd.2;simp only[wb2,oLC,List.length_append,gp,AP,N2];omega
 |signal _=>
  simp only[wb3,oLC,List.length_append,gp];omega
 |wake _ _=>
  simp only[wb4,oLC,List.length_append,gp,N2,List.length_nil];omega
def enV(e:DEn):Option (Bool×Unit):=eM e.1 e.2.1 e.2.2.1 e.2.2.2.1 e.2.2.2.2.1 e.2.2.2.2.2.1 e.2.2.2.2.2.2.1 e.2.2.2.2.2.2.2.1 e.2.2.2.2.2.2.2.2.1 e.2.2.2.2.2.2.2.2.2.1 e.2.2.2.2.2.2.2.2.2.2.1 e.2.2.2.2.2.2.2.2.2.2.2.1 e.2.2.2.2.2.2.2.2.2.2.2.2.1 e.2.2.2.2.2.2.2.2.2.2.2.2.2.1 e.2.2.2.2.2.2.2.2.2.2.2.2.2.2.1 e.2.2.2.2.2.2.2.2.2.2.2.2.2.2.2.1 e.2.2.2.2.2.2.2.2.2.2.2.2.2.2.2.2.1 e.2.2.2.2.2.2.2.2.2.2.2.2.2.2.2.2.2
def enW(e:DEn)(b:List Int):Option (List Int×Unit):=fD e.1 e.2.1 e.2.2.1 e.2.2.2.1 e.2.2.2.2.1 e.2.2.2.2.2.1 e.2.2.2.2.2.2.1 e.2.2.2.2.2.2.2.1 e.2.2.2.2.2.2.2.2.1 e.2.2.2.2.2.2.2.2.2.1 e.2.2.2.2.2.2.2.2.2.2.1 e.2.2.2.2.2.2.2.2.2.2.2.1 e.2.2.2.2.2.2.2.2.2.2.2.2.1 e.2.2.2.2.2.2.2.2.2.2.2.2.2.1 e.2.2.2.2.2.2.2.2.2.2.2.2.2.2.1 e.2.2.2.2.2.2.2.2.2.2.2.2.2.2.2.1 e.2.2.2.2.2.2.2.2.2.2.2.2.2.2.2.2.1 e.2.2.2.2.2.2.2.2.2.2.2.2.2.2.2.2.2 b
theorem Qf:∀xs:List DCn,∃r,eV xs []=some (r,())
 | []=>⟨true,by kernel_rfl⟩
 |x::xs=>⟨false,by
  have h:(((x::xs).length:Int) != (([]:List DCn).length:Int))=true:=by
   rw[bne_iff_ne,oLC,List.length_nil];omega
  unfold eV
  simp only[dT,h,oCT]⟩
theorem Kp(a0 a1 a2 a3 a4 a5:Int)(a6 a7:List DCn):∃r,fB a0 a1 a2 a3 a4 a5 a6 a7 0 0 0 0 0 0 [] []=some (r,()):=by
 obtain⟨r,e1⟩:=Qf a6;obtain⟨s,e2⟩:=Qf a7;unfold fB;rw[e1,e2];cases a0==0<;>cases a1==0<;>cases a2==0<;>cases a3==0<;>cases a4==0<;>cases a5==0<;>cases r<;>exact⟨_,rfl⟩
theorem P7:Jx 0 0 0 0 0 0 [] []:=⟨by decide,by decide,by decide,by decide,by decide,by decide,⟨(λc hc=>by cases hc),by decide⟩,nilc⟩
theorem Du:fB 0 0 0 0 0 0 [] [] 0 0 0 0 0 0 [] []=some (true,()):=by
 have h:eV [] []=some (true,()):=by kernel_rfl
 unfold fB;simp only[beq_self_eq_true,oCT,h,oBS]
theorem EZ{t v rg o sp:Int}{dat:List DCn}{w:Bool}(hc:fP (t,v,rg,o))(hd:(∀c∈dat,fP c)/\dat.length<=16)(hs:-1<=sp/\sp<=3):gk t v rg o dat sp w=some (true,()):=by
 unfold gk;have h1:gg t v rg o=some (true,()):=AM hc;have h2:=sX (n:=16) hd.1 (by have:=hd.2;omega) (by decide);simp only[h1,h2,oBS,oCT,oDT (show sp>=-1 from hs.1),oDT (show sp<4 by omega)]
theorem AT:fW 0 0 0 0 [] 0 false=some (true,()):=by kernel_rfl
theorem vF{e:DEn}(h:uR e):enV e=some (true,()):=by
 cases h with
 | @slice i k stop trap count pc call args data hr hs hk=>
  obtain⟨r,er⟩:=Kp i stop trap count pc call args data;show eM 1 i k i stop trap count pc call args data 0 0 0 0 [] 0 false=_;unfold eM;have hi:=hr.thread;rw[oDF (show ¬i<0 by omega),oDF (show ¬i>=4 by omega),tD hr,er,AT];simp only[oCF,oCT,oBS,beq_self_eq_true,oDT hk.1,oDT hk.2,bne_iff_ne.2 hs]
 | @result i trap count pc call args data t v rg o sp dat w hr hc hd hs=>
  obtain⟨r,er⟩:=Kp i 1 trap count pc call args data;show eM 2 i 0 i 1 trap count pc call args data t v rg o dat sp w=_;unfold eM;have hi:=hr.thread;rw[oDF (show ¬i<0 by omega),oDF (show ¬i>=4 by omega),tD hr,er,EZ hc hd hs];simp only[oCF,oCT,oBS,beq_self_eq_true,Int.reduceBEq]
 | @signal i hi=>
  show eM 3 i 0 0 0 0 0 0 0 [] [] 0 0 0 0 [] 0 false=_;unfold eM;rw[oDF (show ¬i<0 by omega),oDF (show ¬i>=4 by omega),tD P7,Du,AT];simp only[oCF,oCT,oBS,beq_self_eq_true,Int.reduceBEq]
 | @wake i t v rg o hi hv=>
  show eM 4 i 0 0 0 0 0 0 0 [] [] t v rg o [] (-1) false=_;unfold eM;rw[oDF (show ¬i<0 by omega),oDF (show ¬i>=4 by omega),tD P7,Du,EZ (hv) nilc (by decide)];simp only[oCF,oCT,oBS,beq_self_eq_true,Int.reduceBEq,dT,List.length_nil,Bool.not_false];rfl
theorem LZ{t v rg o sp:Int}{dat:List DCn}{w:Bool}{b:List Int}(hc:fP (t,v,rg,o))(hd:(∀c∈dat,fP c)/\dat.length<=16)(hs:-1<=sp/\sp<=3)(hb:b.length<=60000):
 iY t v rg o b=some (b++cb (t,v,rg,o),())/\wk .u8 (w64 (sp+1))=sp+1/\dW 1 (List.length (b++cb (t,v,rg,o))) (List.length [sp+1])=true/\(∀x:Int,dW 1 (List.length (List.append (b++cb (t,v,rg,o)) [sp+1])) (List.length [x])=true)/\
 ∀x:Int,ig dat (List.append (List.append (b++cb (t,v,rg,o)) [sp+1]) [x])=some (b++(cb (t,v,rg,o)++(sp+1)::x::lb dat),()):=by
 have h4:=mt (t,v,rg,o);refine⟨LM hc (by omega),?_,dV (by decide) (by simp only[List.length_append,oLC,List.length_nil];omega),λx=>dV (by decide) (by rw[AW];simp only[List.length_append,oLC,List.length_nil];omega),λx=>?_⟩
 ·rw[dR (by omega) (by omega),iK (by omega) (by omega)]
 ·rw[FU hd.1 (by have:=hd.2;omega) (by rw[AW,AW];simp only[List.length_append,oLC,List.length_nil];omega)];simp only[AW,List.append_assoc,List.cons_append,List.nil_append]
theorem Je{e:DEn}(h:uR e){b:List Int}(hb:b.length<=50000):enW e b=some (b++wb e,()):=by
 cases h with
 | @slice i k stop trap count pc call args data hr hs hk=>
  show fD 1 i k i stop trap count pc call args data 0 0 0 0 [] 0 false b=_;have hi:=hr.thread;have l1:=hr.args.2;have l2:=hr.data.2
  have hl:(rb i stop trap count pc call args data).length<=100:=by rw[AP];omega
  have hp:∀b':List Int,b'.length<=90000->fY 2 ((rb i stop trap count pc call args data).length:Int) b'=some (b'++be 2 ((rb i stop trap count pc call args data).length:Int),()):=λb' h=>ya (n:=2) (by decide) h;unfold fD jj fX;simp only[beq_self_eq_true,oCT,oCF,oBS,H3 hr,iK (x:=1) (by decide) (by decide),iK (x:=i) (by omega) (by omega),iK (x:=k) (by omega) (by omega),dT,Int.reduceBEq,Bool.not_false,AW];rw[dV (by decide) (by simp only[oLC,List.length_nil];omega),oCT,hp _ (by simp only[List.length_append,oLC,List.length_nil];omega)];simp only[oBS];rw[dV (by decide) (by simp only[List.length_append,oLC,List.length_nil,gp];omega),oCT];simp only[wb1,List.append_assoc,List.cons_append,List.nil_append]
 | @result i trap count pc call args data t v rg o sp dat w hr hc hd hs=>
  show fD 2 i 0 i 1 trap count pc call args data t v rg o dat sp w b=_;have hi:=hr.thread;have l1:=hr.args.2;have l2:=hr.data.2
  have hl:(rb i 1 trap count pc call args data).length<=100:=by rw[AP];omega
  have hp:∀b':List Int,b'.length<=90000->fY 2 ((rb i 1 trap count pc call args data).length:Int) b'=some (b'++be 2 ((rb i 1 trap count pc call args data).length:Int),()):=λb' h=>ya (n:=2) (by decide) h;unfold fD jj fX;simp only[beq_self_eq_true,oCT,oCF,oBS,H3 hr,iK (x:=2) (by decide) (by decide),iK (x:=i) (by omega) (by omega),iK (x:=0) (by decide) (by decide),dT,Int.reduceBEq,oNT,AW];rw[dV (by decide) (by simp only[oLC,List.length_nil];omega),oCT,hp _ (by simp only[List.length_append,oLC,List.length_nil];omega)];simp only[oBS];rw[dV (by decide) (by simp only[List.length_append,oLC,List.length_nil,gp];omega),oCT];obtain⟨e1,e2,e3,e4,e5⟩:=LZ (w:=w) (b:=((b++[(2:Int),i,0])++be 2 ((rb i 1 trap count pc call args data).length:Int))++rb i 1 trap count pc call args data) hc hd hs (by simp only[List.length_append,oLC,List.length_nil,gp];omega);simp only[AW]at e1 e2 e3 e4 e5;rw[e1];simp only[oBS,e2];rw[e3]
  cases w with
  |true=>
   simp only[oCT];rw[dV (by decide) (by simp only[List.length_append,oLC,List.length_nil,gp,mt];omega)];simp only[oCT,oBS];rw[e5 1,wb2];simp only[oBS,xb,oCT,List.append_assoc,List.cons_append,List.nil_append]
  |false=>
   simp only[oCT,oCF];rw[dV (by decide) (by simp only[List.length_append,oLC,List.length_nil,gp,mt];omega)];simp only[oCT,oBS];rw[e5 0,wb2];simp only[oBS,xb,oCF,List.append_assoc,List.cons_append,List.nil_append]
 | @signal i hi=>
  show fD 3 i 0 0 0 0 0 0 0 [] [] 0 0 0 0 [] 0 false b=_;have hp:∀b':List Int,b'.length<=90000->fY 2 0 b'=some (b'++be 2 0,()):=λb' h=>ya (n:=2) (by decide) h;unfold fD jj fX;simp only[Int.reduceBEq,oCF,oBS,iK (x:=3) (by decide) (by decide),iK (x:=i) (by omega) (by omega),iK (x:=0) (by decide) (by decide),Bool.not_false,AW];rw[dV (by decide) (by simp only[oLC,List.length_nil];omega),oCT,hp _ (by simp only[List.length_append,oLC,List.length_nil];omega)];simp only[oBS];rw[dV (by decide) (by simp only[List.length_append,oLC,List.length_nil,gp];omega),wb3];simp only[oCT,List.append_assoc,List.cons_append,List.nil_append]
 | @wake i t v rg o hi hv=>
  show fD 4 i 0 0 0 0 0 0 0 [] [] t v rg o [] (-1) false b=_;have hp:∀b':List Int,b'.length<=90000->fY 2 0 b'=some (b'++be 2 0,()):=λb' h=>ya (n:=2) (by decide) h;unfold fD jj fX;simp only[Int.reduceBEq,oCF,oBS,iK (x:=4) (by decide) (by decide),iK (x:=i) (by omega) (by omega),iK (x:=0) (by decide) (by decide),oNT,AW];rw[dV (by decide) (by simp only[oLC,List.length_nil];omega),oCT,hp _ (by simp only[List.length_append,oLC,List.length_nil];omega)];simp only[oBS];rw[dV (by decide) (by simp only[List.length_append,oLC,List.length_nil,gp];omega),oCT];obtain⟨e1,e2,e3,e4,e5⟩:=LZ (w:=false) (sp:=-1) (b:=(b++[(4:Int),i,0])++be 2 0) (hv) nilc (by decide) (by simp only[List.length_append,oLC,List.length_nil,gp];omega);simp only[AW]at e1 e2 e3 e4 e5;rw[e1];simp only[oBS,e2];rw[e3];simp only[oCT];rw[dV (by decide) (by simp only[List.length_append,oLC,List.length_nil,gp,mt];omega)];simp only[oCT,oBS];rw[e5 0,wb4];simp only[oBS,xb,oCF,List.append_assoc,List.cons_append,List.nil_append]
theorem PA{e:DEn}(h:uR e):g7 e.1 e.2.1 e.2.2.1 e.2.2.2.1 e.2.2.2.2.1 e.2.2.2.2.2.1 e.2.2.2.2.2.2.1 e.2.2.2.2.2.2.2.1 e.2.2.2.2.2.2.2.2.1 e.2.2.2.2.2.2.2.2.2.1 e.2.2.2.2.2.2.2.2.2.2.1 e.2.2.2.2.2.2.2.2.2.2.2.1 e.2.2.2.2.2.2.2.2.2.2.2.2.1 e.2.2.2.2.2.2.2.2.2.2.2.2.2.1 e.2.2.2.2.2.2.2.2.2.2.2.2.2.2.1 e.2.2.2.2.2.2.2.2.2.2.2.2.2.2.2.1 e.2.2.2.2.2.2.2.2.2.2.2.2.2.2.2.2.1 e.2.2.2.2.2.2.2.2.2.2.2.2.2.2.2.2.2=some (false,()):=by
 have hv:=vF h;unfold enV at hv;unfold g7;rw[hv];rfl
theorem QS{l:List DEn}(h:∀e∈l,uR e)(hl:l.length<=1000):fr l=some (false,()):=by
 have YT:fi l=some (-1,()):=by
  unfold fi
  obtain⟨t,e,x1,x2,x3,x4,rfl⟩:=gd (f:=fm)
   (λs=>∃i:Nat,i<=l.length/\s=(l,(l.length:Int),(i:Int),()))
   (λt=>∃x1 x2 x3 x4,t=.inr (x1,x2,x3,x4,()))
   (λs=>(s.2.1-s.2.2.1).toNat) (by
    rintro _ ⟨i,hi,rfl⟩;unfold fm;by_cases hn2:(i:Int)<l.length
    ·left
     have ZT:i<l.length:=by omega
     simp only[hn2,decide_true,oCT,dO,oBS,dM,oGE ZT];rw[PA (h _ (List.getElem_mem ZT)),dR (x:=(i:Int)+1) (by omega) (by omega)];exact⟨_,rfl,⟨i+1,by omega,rfl⟩,by simp only;omega⟩
    ·right;simp only[hn2,decide_false,oCF]
     exact⟨_,rfl,_,_,_,_,rfl⟩) NN (l,(l.length:Int),0,()) ⟨0,by omega,rfl⟩ (by show((l.length:Int)-0).toNat<NN;unfold NN;omega)
  simp only[dT,e]
 unfold fr;rw[YT];rfl
def eb(l:List DEn):List Int:=l.flatMap wb
theorem LD:∀{l:List DEn},(∀e∈l,uR e)->(eb l).length<=165*l.length:=by
 intro l
 induction l with
 |nil=>intro _;exact Nat.le_refl _
 |cons x l ih=>
  intro h;have h1:=Qc (h x (by simp));have h2:=ih λe he=>h e (by simp[he]);unfold eb at *;rw[List.flatMap_cons,List.length_append,oLC];omega
theorem LA{l:List DEn}(h:∀e∈l,uR e)(hl:l.length<=200):fE l=some (eb l,0,()):=by
 unfold fE;rw[QS h (by omega)];delta dQ;simp only[oBS,oCF];rw[oDF (show ¬(l.length:Int)>200 by omega)];simp only[oCF]
 obtain⟨t,e,x3,x4,x5,x6,rfl⟩:=gd (f:=kM)
  (λs=>∃i:Nat,i<=l.length/\s=(l,(l.length:Int),(i:Int),eb (l.take i),()))
  (λt=>∃x3 x4 x5 x6,t=(x3,x4,x5,x6,eb l,()))
  (λs=>(s.2.1-s.2.2.1).toNat) (by
   rintro _ ⟨i,hi,rfl⟩;unfold kM;by_cases hn:(i:Int)<l.length
   ·left
    have ZT:i<l.length:=by omega
    have hlen:=LD (l:=l.take i) λe he=>h e (List.mem_of_mem_take he);rw[oLT]at hlen;have hw:=Je (h _ (List.getElem_mem ZT)) (b:=eb (l.take i)) (by omega);unfold enW at hw;simp only[hn,decide_true,oCT,dO,oBS,dM,oGE ZT];rw[hw,dR (x:=(i:Int)+1) (by omega) (by omega)];refine⟨_,rfl,⟨i+1,by omega,?_⟩,by simp only;omega⟩;unfold eb;rw[List.take_succ_eq_append_getElem ZT,List.flatMap_append];simp
   ·right;simp only[hn,decide_false,oCF]
    have:i=l.length:=by omega
    subst this
    exact⟨_,rfl,_,_,_,_,by rw[List.take_length]⟩) NN (l,(l.length:Int),0,[],()) ⟨0,by omega,by simp[eb]⟩ (by show((l.length:Int)-0).toNat<NN;unfold NN;omega)
 rw[e];rfl
theorem Hk{t v rg o sp:Int}{dat:List DCn}{w:Bool}{t' v' rg' o' sp':Int}{dat':List DCn}{w':Bool}(hd:dat.length<=1000):
 ∃r,iO t v rg o dat sp w t' v' rg' o' dat' sp' w'=some (r,())/\(r=true↔(t=t'/\v=v'/\rg=rg'/\o=o')/\dat=dat'/\sp=sp'/\w=w'):=by
 obtain⟨r,e1,g1⟩:=l8 (b:=dat') hd;unfold iO;dsimp only;rw[e1]
 cases hq:((t==t')&&((v==v')&&((rg==rg')&&((o==o')&&true))))with
 |false=>
  refine⟨false,rfl,by simp,λ⟨⟨h1,h2,h3,h4⟩,_⟩=>?_⟩;subst h1 h2 h3 h4;simp at hq
 |true=>
  have YR:t=t'/\v=v'/\rg=rg'/\o=o':=by simpa using hq
  cases r with
  |false=>
   refine⟨false,rfl,by simp,λ⟨_,h,_⟩=>?_⟩;have:=g1.2 h;cases this
  |true=>
   have WR:=g1.1 rfl;by_cases hs:sp=sp'
   ·subst hs;refine⟨w==w',by simp only[oCT,oBS,beq_self_eq_true],?_⟩;rw[beq_iff_eq];exact⟨λh=>⟨YR,WR,rfl,h⟩,λh=>h.2.2.2⟩
   ·simp only[oCT,oCF,oBS,oBF hs];exact⟨false,rfl,by simp,λh=>absurd h.2.2.1 hs⟩
def jG(c:Int×Int×Int×Int):Prop:=
 ((c.1=0\/c.1=2)/\c.2.2.1=0/\c.2.2.2=0)\/
 (c.1=1/\c.2.1=0/\((c.2.2.1=-1/\0<=c.2.2.2/\c.2.2.2<=65535)\/(0<=c.2.2.1/\c.2.2.1<4/\0<=c.2.2.2/\c.2.2.2<32)))
instance (c:Int×Int×Int×Int):Decidable (jG c):=by unfold jG;exact inferInstance
def sr(c:Int×Int×Int×Int):Prop:=0<=c.2.1/\c.2.1<=65535
theorem jG.ok{c:Int×Int×Int×Int}(h:jG c)(t:sr c):fP c:=by
 rcases h with⟨h1,h2,h3⟩|h
 ·exact .inl ⟨h1,h2,h3,t.1,t.2⟩
 ·exact .inr h
theorem fP.v{c:Int×Int×Int×Int}(h:fP c):jG c:=by
 rcases h with⟨h1,h2,h3,_⟩|h
 ·exact .inl ⟨h1,h2,h3⟩
 ·exact .inr h
theorem tJ{P:Prop}[Decidable P]{b:Bool}(h:b=true↔P):some (b,())=some (decide P,()):=by
 rw[show b=decide P by grind]
theorem Dy(c:Int×Int×Int×Int):gg c.1 c.2.1 c.2.2.1 c.2.2.2=some (decide (jG c),()):=by
 obtain⟨t,v,r,o⟩:=c;unfold gg jG;simp only;by_cases h0:t=0
 ·by_cases hr:r=0<;>by_cases ho:o=0<;>simp[Bool.cond_eq_ite,h0,hr,ho]
 by_cases h2:t=2
 ·by_cases hr:r=0<;>by_cases ho:o=0<;>simp[Bool.cond_eq_ite,h2,hr,ho]
 by_cases h1:t=1
 ·subst h1;by_cases hv:v=0
  ·by_cases hr:r=-1
   ·subst hr;by_cases ho:0<=o<;>by_cases hp:o<=65535<;>simp[Bool.cond_eq_ite,hv,ho,hp]
   ·by_cases r0:0<=r<;>by_cases r1:r<4<;>by_cases o0:0<=o<;>by_cases o1:o<32<;>simp[Bool.cond_eq_ite,hv,hr,r0,r1,o0,o1]
  ·by_cases hr:r=-1
   ·subst hr;by_cases ho:0<=o<;>simp[Bool.cond_eq_ite,hv,ho]
   ·simp[Bool.cond_eq_ite,hv,hr]
 ·simp[Bool.cond_eq_ite,h0,h1,h2]
theorem DA(c:Int×Int×Int×Int):ic c.1 c.2.1 c.2.2.1 c.2.2.2=some (decide (jG c),()):=by
 obtain⟨t,v,r,o⟩:=c;unfold ic jG;simp only;by_cases h0:t=0
 ·by_cases hr:r=0<;>by_cases ho:o=0<;>simp[Bool.cond_eq_ite,h0,hr,ho]
 by_cases h2:t=2
 ·by_cases hr:r=0<;>by_cases ho:o=0<;>simp[Bool.cond_eq_ite,h2,hr,ho]
 by_cases h1:t=1
 ·subst h1;by_cases hv:v=0
  ·by_cases hr:r=-1
   ·subst hr;by_cases ho:0<=o<;>by_cases hp:o<=65535<;>simp[Bool.cond_eq_ite,hv,ho,hp]
   ·by_cases r0:0<=r<;>by_cases r1:r<4<;>by_cases o0:0<=o<;>by_cases o1:o<32<;>simp[Bool.cond_eq_ite,hv,hr,r0,r1,o0,o1]
  ·by_cases hr:r=-1
   ·subst hr;by_cases ho:0<=o<;>simp[Bool.cond_eq_ite,hv,ho]
   ·simp[Bool.cond_eq_ite,hv,hr]
 ·simp[Bool.cond_eq_ite,h0,h1,h2]
theorem Lr{α:Type}{xs:List α}{i:Nat}(h:i<xs.length):dM xs i=some xs[i]:=oGE h
theorem H6{α:Type}{P:α->Prop}{xs:List α}{i:Nat}(h:i<xs.length)(ha:∀x∈xs.take i,P x)(hx:P xs[i]):∀x∈xs.take (i+1),P x:=by
 intro x hm;rw[List.take_succ_eq_append_getElem h]at hm;rcases List.mem_append.1 hm with h1|h1
 all_goals simp_all
theorem vf{xs:List (Int×Int×Int×Int)}{n:Int}(hl:xs.length<=100000):fH xs n=some (decide ((∀c∈xs,jG c)/\(xs.length:Int)<=n),()):=by
 unfold fH
 obtain⟨t,e,ht⟩:=gd (f:=gH)
  (λs=>∃i:Nat,i<=xs.length/\s=(xs,n,xs,(xs.length:Int),(i:Int),())/\∀c∈xs.take i,jG c)
  (λt=>(t=.inl (false,())/\¬ ∀c∈xs,jG c)\/((∃x3 x4 x5 x6,t=.inr (xs,n,x3,x4,x5,x6,()))/\∀c∈xs,jG c))
  (λs=>(s.2.2.2.1-s.2.2.2.2.1).toNat) (by
   rintro _ ⟨i,hi,rfl,hv⟩;unfold gH;by_cases hn:(i:Int)<xs.length
   ·have ZT:i<xs.length:=by omega
    simp only[hn,decide_true,oCT,dO,oBS,Lr ZT,DA];by_cases hc:jG xs[i]
    ·left;simp only[hc,decide_true,oNT,oCF];rw[dR (x:=(i:Int)+1) (by omega) (by omega)];exact⟨_,rfl,⟨i+1,by omega,rfl,H6 ZT hv hc⟩,by simp only;omega⟩
    ·right;simp only[hc,decide_false,Bool.not_false,oCT];exact⟨_,rfl,.inl ⟨rfl,λh=>hc (h _ (List.getElem_mem ZT))⟩⟩
   ·right;simp only[hn,decide_false,oCF]
    have:i=xs.length:=by omega
    subst this
    exact⟨_,rfl,.inr ⟨⟨_,_,_,_,rfl⟩,by simp_all⟩⟩) NN (xs,n,xs,(xs.length:Int),0,()) ⟨0,by omega,rfl,by simp⟩ (by show((xs.length:Int)-0).toNat<NN;unfold NN;omega)
 simp only[dT,e]
 rcases ht with⟨rfl,h⟩|⟨⟨x3,x4,x5,x6,rfl⟩,h⟩
 ·simp only;exact tJ ⟨λq=>absurd q (by decide),λq=>absurd q.1 h⟩
 ·simp only;exact tJ ⟨λq=>⟨h,of_decide_eq_true q⟩,λq=>oDT q.2⟩
theorem u9{xs:List (Int×Int×Int×Int)}{n:Int}(hl:xs.length<=100000):fQ xs n=some (decide ((∀c∈xs,jG c)/\(xs.length:Int)<=n),()):=by
 have YT:∃v,fj xs=some (v,())/\(v<0↔∀c∈xs,jG c):=by
  unfold fj
  obtain⟨t,e,ht⟩:=gd (f:=fq)
   (λs=>∃i:Nat,i<=xs.length/\s=(xs,(xs.length:Int),(i:Int),())/\∀c∈xs.take i,jG c)
   (λt=>(∃v,0<=v/\t=.inl (v,())/\¬ ∀c∈xs,jG c)\/((∃x1 x2 x3 x4,t=.inr (x1,x2,x3,x4,()))/\∀c∈xs,jG c))
   (λs=>(s.2.1-s.2.2.1).toNat) (by
    rintro _ ⟨i,hi,rfl,hv⟩;unfold fq;by_cases hn2:(i:Int)<xs.length
    ·have ZT:i<xs.length:=by omega
     simp only[hn2,decide_true,oCT,dO,oBS,Lr ZT,jc,Dy];by_cases hc:jG xs[i]
     ·left;simp only[hc,decide_true,oNT,oCF];rw[dR (x:=(i:Int)+1) (by omega) (by omega)];exact⟨_,rfl,⟨i+1,by omega,rfl,H6 ZT hv hc⟩,by simp only;omega⟩
     ·right;simp only[hc,decide_false,Bool.not_false,oCT];exact⟨_,rfl,.inl ⟨_,by omega,rfl,λh=>hc (h _ (List.getElem_mem ZT))⟩⟩
    ·right;simp only[hn2,decide_false,oCF]
     have:i=xs.length:=by omega
     subst this
     exact⟨_,rfl,.inr ⟨⟨_,_,_,_,rfl⟩,by rw[List.take_length]at hv;exact hv⟩⟩) NN (xs,(xs.length:Int),0,()) ⟨0,by omega,rfl,by simp⟩ (by show((xs.length:Int)-0).toNat<NN;unfold NN;omega)
  simp only[dT,e]
  rcases ht with⟨v,hv,rfl,h⟩|⟨⟨x1,x2,x3,x4,rfl⟩,h⟩
  ·exact⟨v,rfl,by constructor<;>intro h2<;>first|omega|exact absurd h2 h⟩
  ·simp_all
 obtain⟨v,e,hv⟩:=YT;unfold fQ fF;simp only[dT];by_cases hln:(xs.length:Int)<=n
 ·simp only[hln,decide_true,oCT,e,oBS];exact tJ (by rw[<- hv];simp)
 ·simp only[hln,decide_false,oCF];exact tJ (by simp)
def L5(a0 a1 a2 a3 a4 a5:Int)(a6 a7:List (Int×Int×Int×Int)):Prop:=
 (0<=a0/\a0<=3)/\(0<=a1/\a1<=3)/\(0<=a2/\a2<=6)/\(0<=a3/\a3<=1099511627776)/\(0<=a4/\a4<=255)/\(0<=a5/\a5<=15)/\((∀c∈a6,jG c)/\(a6.length:Int)<=3)/\((∀c∈a7,jG c)/\(a7.length:Int)<=16)
instance (a0 a1 a2 a3 a4 a5:Int) (a6 a7:List (Int×Int×Int×Int)):Decidable (L5 a0 a1 a2 a3 a4 a5 a6 a7):=by unfold L5;exact inferInstance
section
variable {a0 a1 a2 a3 a4 a5:Int} {a6 a7:List (Int×Int×Int×Int)}
theorem L5.ok(h:L5 a0 a1 a2 a3 a4 a5 a6 a7)(t6:∀c∈a6,sr c)(t7:∀c∈a7,sr c):Jx a0 a1 a2 a3 a4 a5 a6 a7:=by
 obtain⟨h0,h1,h2,h3,h4,h5,⟨h6,l6⟩,h7,l7⟩:=h;exact⟨h0,h1,h2,h3,h4,h5,⟨λc hc=>(h6 c hc).ok (t6 c hc),by omega⟩,λc hc=>(h7 c hc).ok (t7 c hc),by omega⟩
theorem Jx.v(h:Jx a0 a1 a2 a3 a4 a5 a6 a7):L5 a0 a1 a2 a3 a4 a5 a6 a7:=by
 obtain⟨h0,h1,h2,h3,h4,h5,⟨h6,l6⟩,h7,l7⟩:=h;exact⟨h0,h1,h2,h3,h4,h5,⟨λc hc=>(h6 c hc).v,by omega⟩,λc hc=>(h7 c hc).v,by omega⟩
theorem Fi{P Q:Prop}[Decidable P][Decidable Q]{o:Option (Bool×Unit)}(h:P->o=some (decide Q,())):(bif decide P then o else some (false,()))=some (decide (P/\Q),()):=by
 by_cases hp:P
 ·simp only[hp,decide_true,oCT,true_and];exact h hp
 ·simp only[hp,decide_false,oCF,false_and]
theorem Rs{P Q:Prop}[Decidable P][Decidable Q]{o:Option (Bool×Unit)}(e:P↔Q)(h:o=some (decide P,())):o=some (decide Q,()):=by
 rw[h];exact tJ (by rw[decide_eq_true_iff];exact e)
theorem AN(l6:a6.length<=100000)(l7:a7.length<=100000):fG a0 a1 a2 a3 a4 a5 a6 a7=some (decide (L5 a0 a1 a2 a3 a4 a5 a6 a7),()):=by
 have key:fG a0 a1 a2 a3 a4 a5 a6 a7=some (decide (a0>=0/\a0<4/\a1>=0/\a1<=3/\a2>=0/\a2<=6/\a3>=0/\a3<=1099511627776/\a4>=0/\a4<=255/\a5>=0/\a5<=15/\((∀c∈a6,jG c)/\(a6.length:Int)<=3)/\((∀c∈a7,jG c)/\(a7.length:Int)<=16)),()):=by
  unfold fG
  iterate 12 refine Fi λ_=>?_
  rw[vf l6];simp only[oBS];refine Fi λ_=>?_;rw[vf l7];rfl
 refine Rs ?_ key;unfold L5;constructor
 ·rintro⟨_,_,_,_,_,_,_,_,_,_,_,_,h6,h7⟩;exact⟨by omega,by omega,by omega,by omega,by omega,by omega,h6,h7⟩
 ·rintro⟨_,_,_,_,_,_,h6,h7⟩;exact⟨by omega,by omega,by omega,by omega,by omega,by omega,by omega,by omega,by omega,by omega,by omega,by omega,h6,h7⟩
theorem FF(x lo hi:Int):eW x lo hi=some (decide (lo<=x/\x<=hi),()):=by
 unfold eW;exact Fi λ_=>rfl
theorem Iy(l6:a6.length<=100000)(l7:a7.length<=100000):gw a0 a1 a2 a3 a4 a5 a6 a7=some (decide (L5 a0 a1 a2 a3 a4 a5 a6 a7),()):=by
 unfold gw L5
 iterate 6
  rw[FF];simp only[oBS];refine Fi λ_=>?_
 rw[u9 l6];simp only[oBS];refine Fi λ_=>?_;rw[u9 l7];rfl
end
abbrev DLa:Type:=Int×Int×Int×Int×Int×Int×(List DCn)×(List DCn)
def EnS(e:DEn):Prop:=e.2.2.2.2.2.2.2.2.2.1.length<=1000/\e.2.2.2.2.2.2.2.2.2.2.1.length<=1000/\e.2.2.2.2.2.2.2.2.2.2.2.2.2.2.2.1.length<=1000
def Sm(s:List Int×List DLa):Prop:=s.1.length=4/\s.2.length=4/\∀x∈s.2,x.2.2.2.2.2.2.1.length<=1000/\x.2.2.2.2.2.2.2.length<=1000
theorem K6{α:Type}(l:List α)(i:Nat)(f:α->α){n:Nat}(h:l.length=n):(List.modify l i f).length=n:=by rw[oLM];exact h
theorem Q3{st:List Int}{la:List DLa}(h:Sm (st,la))(i:Nat)(f:Int->Int):Sm (List.modify st i f,la):=⟨K6 st i f h.1,h.2⟩
theorem Q4{st:List Int}{la:List DLa}(h:Sm (st,la))(i:Nat)(x:DLa)(hx:x.2.2.2.2.2.2.1.length<=1000/\x.2.2.2.2.2.2.2.length<=1000):Sm (st,List.modify la i λ_=>x):=by
 refine⟨h.1,K6 la i _ h.2.1,λy hy=>?_⟩;obtain⟨j,hj⟩:=List.getElem?_of_mem hy;rw[List.getElem?_modify]at hj
 cases hl:la[j]? with
 |none=>rw[hl]at hj;split at hj<;>cases hj
 |some z=>
  rw[hl]at hj;split at hj
  ·injection hj with hj;rw[<- hj];exact hx
  ·injection hj with hj;rw[<- hj];exact h.2.2 z (dU hl)
def s0:List Int×List DLa:=([1,0,0,0],List.replicate 4 (0,(0,(0,(0,(0,(0,([],[]))))))))
theorem gR{l:List Int}{k n:Int}(h:DOk l k)(hn:0<n)(hn2:n<=9223372036854775807):∃v k',dJ n l k=some (v,l,k',())/\0<=v/\v<n/\DOk l k':=by
 obtain⟨r,e,v,k',rfl,a,b,d⟩:=fv (f:=λr=>some r) (Q:=λr=>∃v k',r=(v,l,k',())/\0<=v/\v<n/\DOk l k') h hn hn2 λv k' a b d=>Ok.ret ⟨v,k',rfl,a,b,d⟩
 cases ht:dJ n l k with
 |none=>rw[ht]at e;cases e
 |some y=>rw[ht]at e;exact⟨v,k',e,a,b,d⟩
theorem Ox:pG [8,4]=some (12,()):=by kernel_rfl
theorem RX{v:Int}(h0:0<=v)(h1:v<12):∃r o e,uX [8,4] v=some (r,o,e,())/\0<=r/\r<4/\0<=o/\o<32:=by
 obtain⟨j,rfl⟩:∃j:Nat,v=j:=⟨v.toNat,by omega⟩
 have hj:j<12:=by omega
 match j,hj with
 |0,_=>exact⟨0,0,0,by kernel_rfl,by decide⟩
 |1,_=>exact⟨0,1,0,by kernel_rfl,by decide⟩
 |2,_=>exact⟨0,2,0,by kernel_rfl,by decide⟩
 |3,_=>exact⟨0,3,0,by kernel_rfl,by decide⟩
 |4,_=>exact⟨0,4,0,by kernel_rfl,by decide⟩
 |5,_=>exact⟨0,5,0,by kernel_rfl,by decide⟩
 |6,_=>exact⟨0,6,0,by kernel_rfl,by decide⟩
 |7,_=>exact⟨0,7,0,by kernel_rfl,by decide⟩
 |8,_=>exact⟨1,0,0,by kernel_rfl,by decide⟩
 |9,_=>exact⟨1,1,0,by kernel_rfl,by decide⟩
 |10,_=>exact⟨1,2,0,by kernel_rfl,by decide⟩
 |11,_=>exact⟨1,3,0,by kernel_rfl,by decide⟩
theorem Ot{l:List Int}{k:Int}(h:DOk l k):∃v k',gP l k=some (v,l,k',())/\0<=v/\v<=65535/\DOk l k':=by
 obtain⟨a,k1,e1,a0,a1,d1⟩:=gR h (n:=5) (by decide) (by decide);have h8:=gR d1 (n:=8) (by decide) (by decide);have h3:=gR d1 (n:=3) (by decide) (by decide);have h6:=gR d1 (n:=65536) (by decide) (by decide);obtain⟨b,k2,e2,b0,b1,d2⟩:=h8;obtain⟨c,k3,e3,c0,c1,d3⟩:=h3;obtain⟨d,k4,e4,d0,d1',d4⟩:=h6;unfold gP;simp only[e1,oBS];by_cases hs:a=0\/a=1\/a=2
 ·refine⟨b,k2,?_,b0,by omega,d2⟩
  rcases hs with rfl|rfl|rfl<;>simp[e2,Ax b0 (by omega)]
 ·by_cases h3:a=3
  ·subst h3;refine⟨65535-c,k3,?_,by omega,by omega,d3⟩;simp[e3];rw[dR (by omega) (by omega),Ax (by omega) (by omega)]
  ·refine⟨d,k4,?_,d0,by omega,d4⟩
   have n0:(a==0)=false:=by simp;omega
   have n1:(a==1)=false:=by simp;omega
   have n2:(a==2)=false:=by simp;omega
   have n3:(a==3)=false:=by simp;omega
   simp[n0,n1,n2,n3,e4,Ax d0 (by omega)]
theorem xJ{l:List Int}{k:Int}(h:DOk l k):∃a b c d k',iZ [8,4] l k=some (a,b,c,d,l,k',())/\fP (a,b,c,d)/\DOk l k':=by
 obtain⟨s,k1,e1,s0,s1,d1⟩:=gR h (n:=6) (by decide) (by decide);unfold iZ;simp only[e1,oBS];by_cases h4:s=4
 ·subst h4;obtain⟨v,k2,e2,v0,v1,d2⟩:=gR d1 (n:=12) (by decide) (by decide);obtain⟨r,o,e,e3,q⟩:=RX v0 v1;refine⟨1,0,r,o,k2,?_,.inr ⟨rfl,rfl,.inr q⟩,d2⟩;simp[Ox,e2,e3]
 ·have n4:(s==4)=false:=by simpa using h4
  by_cases h5:s=5
  ·subst h5;obtain⟨v,k2,e2,v0,v1,d2⟩:=gR d1 (n:=10) (by decide) (by decide);refine⟨2,v,0,0,k2,?_,.inl ⟨.inr rfl,rfl,rfl,v0,by show v<=65535;omega⟩,d2⟩;simp[e2,Ax v0 (by omega)]
  ·have n5:(s==5)=false:=by simpa using h5
   obtain⟨v,k2,e2,v0,v1,d2⟩:=Ot d1;refine⟨0,v,0,0,k2,?_,.inl ⟨.inl rfl,rfl,rfl,v0,v1⟩,d2⟩;simp[n4,n5,e2]
theorem zf{l:List Int}{k a:Int}(h:DOk l k)(ha:0<=a)(Xx:a<=1000):∃xs k',gc a l k=some (xs,l,k',())/\(∀c∈xs,fP c)/\(xs.length:Int)<=a/\DOk l k':=by
 obtain⟨n,k1,e1,n0,n1,d1⟩:=gR h (n:=a+1) (by omega) (by omega);unfold gc;rw[dR (x:=a+1) (by omega) (by omega)];simp only[e1,oBS]
 obtain⟨t,e,k2,xs,b1,b2,rfl,g1,g2,g3⟩:=gd (f:=ml)
  (λs=>∃n k xs,s=(n,l,k,xs,())/\0<=n/\n+(xs.length:Int)<=a/\DOk l k/\∀c∈xs,fP c)
  (λt=>∃k xs b1 b2,t=(b1,b2,l,k,xs,())/\(∀c∈xs,fP c)/\(xs.length:Int)<=a/\DOk l k)
  (λs=>s.1.toNat) (by
   rintro _ ⟨n,k,xs,rfl,h0,h1,hd,hx⟩;unfold ml;by_cases hn:n>0
   ·left;obtain⟨c1,c2,c3,c4,k2,e2,q2,d2⟩:=xJ hd;obtain⟨z,k3,e3,z0,z1,d3⟩:=gR d2 (n:=12) (by decide) (by decide);simp only[hn,decide_true,oCT,e2,oBS,e3]
    have hlen:xs.length<=1000:=by omega
    by_cases hz:z=0
    ·subst hz;obtain⟨y,k4,e4,y0,y1,d4⟩:=gR d3 (n:=65536) (by decide) (by decide);simp only[beq_self_eq_true,oCT,e4,oBS];rw[dV (by decide) (by simp;omega),dR (x:=n-1) (by omega) (by omega)];refine⟨_,rfl,⟨n-1,k4,_,rfl,by omega,by simp;omega,d4,λc hc=>?_⟩,by simp only;omega⟩;rcases List.mem_append.1 hc with hc|hc
     ·exact hx c hc
     ·rw[List.mem_singleton.1 hc];exact .inr ⟨rfl,rfl,.inl ⟨rfl,y0,by show y<=65535;omega⟩⟩
    ·have hzb:(z==0)=false:=by simpa using hz
     simp only[hzb,oCF,oBS];rw[dV (by decide) (by simp;omega),dR (x:=n-1) (by omega) (by omega)];refine⟨_,rfl,⟨n-1,k3,_,rfl,by omega,by simp;omega,d3,λc hc=>?_⟩,by simp only;omega⟩;rcases List.mem_append.1 hc with hc|hc
     ·exact hx c hc
     ·rw[List.mem_singleton.1 hc];exact q2
   ·right;simp only[hn,decide_false,oCF]
    exact⟨_,rfl,k,xs,_,_,rfl,hx,by omega,hd⟩) NN (n,l,k1,[],()) ⟨n,k1,[],rfl,n0,by simp;omega,d1,λc hc=>by simp at hc⟩ (by show n.toNat<NN;unfold NN;omega)
 exact⟨xs,k2,by rw[e];rfl,g1,g2,g3⟩
theorem MJ{l ys:List Int}{k:Int}(h:DOk l k)(hy:ys.length<=3)(v5 v6 v7 v8 v9 v10:Int)(v11 v12:Unit)(v13 v14 v15 v16 v17 v18:Int)(v20:Unit):
 ∃xs k' i,dZ jl NN (ys,(ys.length:Int),0,l,k,v5,v6,v7,v8,v9,v10,v11,v12,v13,v14,v15,v16,v17,v18,[],v20,())=some (ys,(ys.length:Int),i,false,l,k',v5,v6,v7,v8,v9,v10,v11,v12,v13,v14,v15,v16,v17,v18,xs,v20,())/\
  (∀c∈xs,fP c)/\xs.length<=3/\DOk l k':=by
 obtain⟨t,e,xs,k',i,rfl,g1,g2,g3⟩:=gd (f:=jl)
  (λs=>∃(i:Nat)(k:Int)(xs:List (Int×Int×Int×Int)),s=(ys,(ys.length:Int),(i:Int),l,k,v5,v6,v7,v8,v9,v10,v11,v12,v13,v14,v15,v16,v17,v18,xs,v20,())/\i<=ys.length/\xs.length<=i/\DOk l k/\∀c∈xs,fP c)
  (λt=>∃(xs:List (Int×Int×Int×Int))(k' i:Int),t=(ys,(ys.length:Int),i,false,l,k',v5,v6,v7,v8,v9,v10,v11,v12,v13,v14,v15,v16,v17,v18,xs,v20,())/\(∀c∈xs,fP c)/\xs.length<=3/\DOk l k')
  (λs=>(s.2.1-s.2.2.1).toNat) (by
   rintro _ ⟨i,k,xs,rfl,hi,Sf,hd,hx⟩;unfold jl;by_cases hn:(i:Int)<ys.length
   ·left
    have ZT:i<ys.length:=by omega
    have more:∀{c:Int×Int×Int×Int},fP c->∀c'∈xs.append [c],fP c':=by
     intro c hc c' X0;rcases List.mem_append.1 X0 with h1|h1
     ·exact hx c' h1
     ·rw[List.mem_singleton.1 h1];exact hc
    have ZX:∀(k2:Int)(c:Int×Int×Int×Int),DOk l k2->fP c->∃s',some (.inl (ys,(ys.length:Int),w64 ((i:Int)+1),l,k2,v5,v6,v7,v8,v9,v10,v11,v12,v13,v14,v15,v16,v17,v18,xs.append [c],v20,()))=some (.inl s':(_⊕(List Int×Int×Int×Bool×List Int×Int×Int×Int×Int×Int×Int×Int×Unit×Unit×Int×Int×Int×Int×Int×Int×List (Int×Int×Int×Int)×Unit×Unit)))/\(∃(i:Nat)(k:Int)(xs:List (Int×Int×Int×Int)),s'=(ys,(ys.length:Int),(i:Int),l,k,v5,v6,v7,v8,v9,v10,v11,v12,v13,v14,v15,v16,v17,v18,xs,v20,())/\i<=ys.length/\xs.length<=i/\DOk l k/\∀c∈xs,fP c)/\(s'.2.1-s'.2.2.1).toNat<((ys.length:Int)-(i:Int)).toNat:=by
     intro k2 c d2 hc;rw[dR (x:=(i:Int)+1) (by omega) (by omega)];refine⟨_,rfl,⟨i+1,k2,_,rfl,by omega,?_,d2,more hc⟩,by simp only;omega⟩;show(xs++[c]).length<=i+1;simp;omega
    have Vo:∀c:Int×Int×Int×Int,dW 24 xs.length [c].length=true:=λc=>dV (by decide) (by simp;omega);simp only[hn,decide_true,oCT,dO,oBS,dM,oGE ZT];generalize ys[i]=y;by_cases hN:y=78
    ·subst hN;obtain⟨z,k2,e2,z0,z1,d2⟩:=gR hd (n:=5) (by decide) (by decide);simp only[beq_self_eq_true,oCT,e2,oBS,Ax z0 (by omega:z<=65535),Vo];exact ZX k2 _ d2 (.inl ⟨.inl rfl,rfl,rfl,z0,by show z<=65535;omega⟩)
    ·have hNb:(y==78)=false:=by simpa using hN
     simp only[hNb,oCF];by_cases hH:y=72
     ·subst hH;obtain⟨z,k2,e2,z0,z1,d2⟩:=gR hd (n:=4) (by decide) (by decide);simp only[beq_self_eq_true,oCT,e2,oBS,Ax z0 (by omega:z<=65535),Vo];exact ZX k2 _ d2 (.inl ⟨.inr rfl,rfl,rfl,z0,by show z<=65535;omega⟩)
     ·have hHb:(y==72)=false:=by simpa using hH
      simp only[hHb,oCF];by_cases hP:y=80
      ·subst hP;obtain⟨z,k2,e2,z0,z1,d2⟩:=gR hd (n:=2) (by decide) (by decide);obtain⟨u,k3,e3,u0,u1,d3⟩:=gR d2 (n:=4) (by decide) (by decide);simp only[beq_self_eq_true,oCT,e2,e3,oBS,Vo];exact ZX k3 _ d3 (.inr ⟨rfl,rfl,.inr ⟨z0,by show z<4;omega,u0,by show u<32;omega⟩⟩)
      ·have hPb:(y==80)=false:=by simpa using hP
       simp only[hPb,oCF];obtain⟨c1,c2,c3,c4,k2,e2,q2,d2⟩:=xJ hd;simp only[e2,oBS,Vo,oCT];exact ZX k2 _ d2 q2
   ·right;simp only[hn,decide_false,oCF]
    exact⟨_,rfl,xs,k,i,rfl,hx,by omega,hd⟩) NN _ ⟨0,k,[],rfl,by omega,by simp,h,λc hc=>by simp at hc⟩ (by show((ys.length:Int)-0).toNat<NN;unfold NN;omega)
 exact⟨xs,k',i,e,g1,g2,g3⟩
def Qx:List ByteArray:=[(bytes [78]),(bytes [72,80,78]),(bytes [72,80,78]),(bytes [78,78]),(bytes [72]),(bytes [72,78]),(bytes []),(bytes []),(bytes [78]),(bytes [78]),(bytes [78,88]),(bytes [78]),(bytes [78]),(bytes [78,80,78]),(bytes [78,80,78]),(bytes [])]
theorem K9{j:Nat}(h:j<16):∃s ys,dM Qx j=some s/\N5 s=true/\JJ s=ys/\ys.length<=3:=by
 match j,h with
 |0,_=>exact⟨_,[78],rfl,by kernel_rfl,by kernel_rfl,by decide⟩
 |1,_=>exact⟨_,[72,80,78],rfl,by kernel_rfl,by kernel_rfl,by decide⟩
 |2,_=>exact⟨_,[72,80,78],rfl,by kernel_rfl,by kernel_rfl,by decide⟩
 |3,_=>exact⟨_,[78,78],rfl,by kernel_rfl,by kernel_rfl,by decide⟩
 |4,_=>exact⟨_,[72],rfl,by kernel_rfl,by kernel_rfl,by decide⟩
 |5,_=>exact⟨_,[72,78],rfl,by kernel_rfl,by kernel_rfl,by decide⟩
 |6,_=>exact⟨_,[],rfl,by kernel_rfl,by kernel_rfl,by decide⟩
 |7,_=>exact⟨_,[],rfl,by kernel_rfl,by kernel_rfl,by decide⟩
 |8,_=>exact⟨_,[78],rfl,by kernel_rfl,by kernel_rfl,by decide⟩
 |9,_=>exact⟨_,[78],rfl,by kernel_rfl,by kernel_rfl,by decide⟩
 |10,_=>exact⟨_,[78,88],rfl,by kernel_rfl,by kernel_rfl,by decide⟩
 |11,_=>exact⟨_,[78],rfl,by kernel_rfl,by kernel_rfl,by decide⟩
 |12,_=>exact⟨_,[78],rfl,by kernel_rfl,by kernel_rfl,by decide⟩
 |13,_=>exact⟨_,[78,80,78],rfl,by kernel_rfl,by kernel_rfl,by decide⟩
 |14,_=>exact⟨_,[78,80,78],rfl,by kernel_rfl,by kernel_rfl,by decide⟩
 |15,_=>exact⟨_,[],rfl,by kernel_rfl,by kernel_rfl,by decide⟩
 |n+16,h=>exact absurd h (by omega)
theorem Mf{j:Nat}(h:j<6):∃s:Int,dM [1,1,1,0,2,3] j=some s/\0<=s/\s<=3:=by
 match j,h with
 |0,_=>exact⟨_,rfl,by decide⟩
 |1,_=>exact⟨_,rfl,by decide⟩
 |2,_=>exact⟨_,rfl,by decide⟩
 |3,_=>exact⟨_,rfl,by decide⟩
 |4,_=>exact⟨_,rfl,by decide⟩
 |5,_=>exact⟨_,rfl,by decide⟩
theorem AL{l:List Int}{k:Int}(h:DOk l k):∃a0 a1 a2 a3 a4 a5 a6 a7 k',jB l k=some (a0,a1,a2,a3,a4,a5,a6,a7,l,k',())/\Jx a0 a1 a2 a3 a4 a5 a6 a7/\DOk l k':=by
 obtain⟨t,k1,e1,t0,t1,d1⟩:=gR h (n:=4) (by decide) (by decide);obtain⟨s,k2,e2,s0,s1,d2⟩:=gR d1 (n:=6) (by decide) (by decide);obtain⟨c,k3,e3,c0,c1,d3⟩:=gR d2 (n:=50) (by decide) (by decide);obtain⟨p,k4,e4,p0,p1,d4⟩:=gR d3 (n:=64) (by decide) (by decide);obtain⟨j,rfl⟩:∃j:Nat,s=j:=⟨s.toNat,by omega⟩;obtain⟨st,e5,st0,st1⟩:=Mf (j:=j) (by omega);unfold jB;simp only[e1,e2,e3,e4,e5,dO,oBS]
 have htr:∃tr k5,(bif(st==2)then((dJ 6 l k4).bind λ(x16,x17,x18,_)=>
  let x19:Int:=(w64 (1+x16));
  some (x17,x18,0,0,0,0,0,0,(),(),t,st,x19,c,p,0,(),(),()))else
  some (l,k4,0,0,0,0,0,0,(),(),t,st,0,c,p,0,(),(),()):Option ((List (Int))×Int×Int×Int×Int×Int×Int×Int×Unit×Unit×Int×Int×Int×Int×Int×Int×Unit×Unit×Unit))=some (l,k5,0,0,0,0,0,0,(),(),t,st,tr,c,p,0,(),(),())/\0<=tr/\tr<=6/\DOk l k5:=by
  by_cases h2:st=2
  ·subst h2;obtain⟨v,k5,e6,v0,v1,d5⟩:=gR d4 (n:=6) (by decide) (by decide);refine⟨1+v,k5,?_,by omega,by omega,d5⟩;simp only[beq_self_eq_true,oCT,e6,oBS];rw[dR (by omega) (by omega)]
  ·have h2b:(st==2)=false:=by simpa using h2
   exact⟨0,k4,by simp only[h2b,oCF],by decide,by decide,d4⟩
 obtain⟨tr,k5,e6,tr0,tr1,d5⟩:=htr;simp only[e6,oBS];by_cases h1:st=1
 ·subst h1;obtain⟨ca,k6,e7,ca0,ca1,d6⟩:=gR d5 (n:=16) (by decide) (by decide);obtain⟨q,rfl⟩:∃q:Nat,ca=q:=⟨ca.toNat,by omega⟩;obtain⟨str,ys,e8,e9,e10,VQ⟩:=K9 (j:=q) (by omega);obtain⟨xs,k7,i,e11,hx,Sf,d7⟩:=MJ d6 VQ 0 0 0 0 0 0 () () t 1 tr c p q ();have e8':dM [(bytes [78]),(bytes [72,80,78]),(bytes [72,80,78]),(bytes [78,78]),(bytes [72]),(bytes [72,78]),(bytes []),(bytes []),(bytes [78]),(bytes [78]),(bytes [78,88]),(bytes [78]),(bytes [78]),(bytes [78,80,78]),(bytes [78,80,78]),(bytes [])] q=some str:=e8;simp only[bne_self_eq_false,oCF,e7,oBS,dO,e8',e9,e10,oCT,dT,e11]
  have T2:∃da k8,(bif((q:Int)==1)then((gc 6 l k7).bind λ(x65,x66,x67,_)=>
   some (x66,x67,(0:Int),(0:Int),(0:Int),(0:Int),(0:Int),(0:Int),(),(),t,(1:Int),tr,c,p,(q:Int),xs,x65,()))else
   bif((q:Int)==13)then((gc 6 l k7).bind λ(x65,x66,x67,_)=>
   some (x66,x67,0,0,0,0,0,0,(),(),t,1,tr,c,p,(q:Int),xs,x65,()))else
   some (l,k7,0,0,0,0,0,0,(),(),t,1,tr,c,p,(q:Int),xs,[],()):Option ((List (Int))×Int×Int×Int×Int×Int×Int×Int×Unit×Unit×Int×Int×Int×Int×Int×Int×(List (Int×Int×Int×Int))×(List (Int×Int×Int×Int))×Unit))=some (l,k8,0,0,0,0,0,0,(),(),t,1,tr,c,p,(q:Int),xs,da,())/\(∀c∈da,fP c)/\da.length<=16/\DOk l k8:=by
   obtain⟨da,k8,e12,g1,g2,d8⟩:=zf d7 (a:=6) (by decide) (by decide);by_cases hb1:(q:Int)=1
   ·refine⟨da,k8,?_,g1,by omega,d8⟩;rw[hb1];simp only[beq_self_eq_true,oCT,e12,oBS]
   ·have SC:((q:Int)==1)=false:=by simpa using hb1
    by_cases hb2:(q:Int)=13
    ·refine⟨da,k8,?_,g1,by omega,d8⟩;simp only[SC,oCF];rw[hb2];simp only[beq_self_eq_true,oCT,e12,oBS]
    ·have Uy:((q:Int)==13)=false:=by simpa using hb2
     exact⟨[],k7,by simp only[SC,Uy,oCF],λc hc=>by simp at hc,by decide,d7⟩
  obtain⟨da,k8,e12,da1,da2,d8⟩:=T2;simp only[e12,oBS];obtain⟨z,k9,e13,z0,z1,d9⟩:=gR d8 (n:=10) (by decide) (by decide);simp only[e13,oBS];by_cases hz:z=0
  ·subst hz;obtain⟨ar,k10,e14,g1,g2,d10⟩:=zf d9 (a:=3) (by decide) (by decide);refine⟨t,1,tr,c,p,q,ar,da,k10,?_,⟨⟨t0,by omega⟩,by decide,⟨tr0,tr1⟩,⟨c0,by omega⟩,⟨p0,by omega⟩,⟨ca0,by omega⟩,⟨g1,by omega⟩,da1,da2⟩,d10⟩;simp only[beq_self_eq_true,oCT,e14,oBS]
  ·have UV:(z==0)=false:=by simpa using hz
   refine⟨t,1,tr,c,p,q,xs,da,k9,?_,⟨⟨t0,by omega⟩,by decide,⟨tr0,tr1⟩,⟨c0,by omega⟩,⟨p0,by omega⟩,⟨ca0,by omega⟩,⟨hx,Sf⟩,da1,da2⟩,d9⟩;simp only[UV,oCF,oBS]
 ·have h1b:(st != 1)=true:=by simpa using h1
  simp only[h1b,oCT];exact⟨t,st,tr,c,p,0,[],[],k5,rfl,⟨⟨t0,by omega⟩,⟨st0,st1⟩,⟨tr0,tr1⟩,⟨c0,by omega⟩,⟨p0,by omega⟩,by decide,⟨λc hc=>by simp at hc,by decide⟩,⟨λc hc=>by simp at hc,by decide⟩⟩,d5⟩
end Go.Proofs.YtoldehogdgdhmaaGreat
