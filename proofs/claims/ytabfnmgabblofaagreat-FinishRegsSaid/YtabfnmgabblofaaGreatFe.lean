/- Part of the proof; no condition. -/
import Derived.Test.YtabfnmgabblofaaGreatFd
import Derived.WalkKit
import Derived.WalkSpells
import Derived.Handy
import Derived.OpenShut
set_option linter.unusedVariables false
set_option linter.unusedSimpArgs false
namespace Go.Proofs.YtabfnmgabblofaaGreat
open Go.RowKit
set_option maxRecDepth 100000
noncomputable section
def me:T1l->Option (T1l⊕((Int×Unit)⊕T1B)):=λ(v0,v1,v2,v3,v4,v5,_)=>bif(decide (v2<v1))then((gg v2).bind λx0=>
(fR v0 x0).bind λx1=>let x2:=fY x1.length;
(gg v2).bind λx3=>
(fR v4 x3).bind λx4=>bif(decide (x2>x4))then(some (.inr (.inl (1,()))))else let x5:=w64 (v2+1);some (.inl (v0,v1,x5,v3,v4,v5,())))else some (.inr (.inr (v0,v1,v2,false,v3,v4,v5,())))
def md:T1x->Option (T1x⊕((Int×Unit)⊕T1O)):=λ(v0,v1,v2,v3,v4,v5,v6,_)=>bif(decide (v3<v2))then((match((gg v3).bind λx0=>
(fR v1 x0).bind λx1=>
(pe x1.1 x1.2.1 x1.2.2.1 x1.2.2.2.1 x1.2.2.2.2).bind λ(x2,_)=>bif(!x2)then(some (.inl (5,())))else
((m6 x1.1).bind λ(x3,_)=>bif x3 then(let x4:Int:=(fY v4.length);bif(decide (x1.2.2.2.2>=x4))then(some (v0,v1,v2,v3,true,v4,v5,v6,()))else bif(x1.1==15)then(let x5:Int:=(fY v5.length);some (v0,v1,v2,v3,(decide (x1.2.2.2.2>=x5)),v4,v5,v6,()))else some (v0,v1,v2,v3,false,v4,v5,v6,()))else bif(x1.1==15)then(let x4:Int:=(fY v5.length);some (v0,v1,v2,v3,(decide (x1.2.2.2.2>=x4)),v4,v5,v6,()))else some (v0,v1,v2,v3,false,v4,v5,v6,()):Option (T1O)).bind λ(x3,x4,x5,x6,x7,x8)=>bif x7 then(some (.inr (6,x4,x5,x6,x8)))else some (.inr (x3,x4,x5,x6,x8)):Option ((Int×Unit)⊕T1x))with
|none=>none
|some (.inl (x0,_))=>some (.inr (.inl (x0,())))
|some (.inr (x0,x1,x2,x3,x4,x5,x6,_))=>let x7:=w64 (x3+1);some (.inl (x0,x1,x2,x7,x4,x5,x6,()))))else some (.inr (.inr (v0,v1,v2,v3,false,v4,v5,v6,())))
def si(a0:LDIn)(a1:LI)(a2:LLI):h_:=
(lB a1).bind λ(x0,_)=>bif(!x0)then(some (1,()))else let x1:=fY a2.length;let x2:=fY a1.length;bif(x1 != x2)then(some (1,()))else let x3:=fY a2.length;
(match f9 me NN (a2,x3,0,a0,a1,a2,())with
|none=>none
|some (.inl (x4,_))=>some (x4,())
|some (.inr (_,_,_,_,x8,x9))=>let ae:=fY x8.length;bif(ae==0)then(some (3,()))else let af:=fY x8.length;bif(decide (af>64))then(some (3,()))else let ag:=fY x8.length;
(match f9 md NN (0,x8,ag,0,x8,x9)with
|none=>none
|some (.inl (ah,_))=>some (ah,())
|some (.inr (ah,_))=>some (ah,())))
def F6:X.Cfg:=⟨E0,[rp,yj,sR],[],[⟨6,0,qS (zaa 1::sP 22 (yaa RW)::il [23,24]) Uam,[(.ret,qS Zat []),(.exit 0,qS [zaa 1,sP 22 (yaa RW),Uaa 23,Uaa 24,Xaa 25] Uam)]⟩,⟨27,1,qE,[(.normal,qS [zaa 1,Uaa 5,sP 49 gO,Uaa 50,Uaa 51,Xaa 81] Uam)]⟩,⟨22,2,qE,[(.ret,qS Zat []),(.normal,qS Xay Uam)]⟩,⟨19,3,qS Xay Uam,[(.ret,qS Zat []),(.exit 2,qS [zaa 1,Uaa 5,sP 49 gO,Uaa 50,Uaa 51,Xaa 52] Uam)]⟩]⟩
def ym:Ctr:=⟨109,128,[.agg uab],[],[⟨zac,[.one],[]⟩],ap3 si⟩
theorem Fc:Lk 4 ym:=ls F6 (aC vG (aC E9 (aC xw aN)))
def mV(a0:LDIn)(a1:LI)(a2:LLI):h_:=
(si a0 a1 a2).bind λ(x0,_)=>some (x0,())
def BU:X.Cfg:=⟨E0,[ym],[],[]⟩
def uK:Ctr:=⟨81,129,[.agg uab],[],[⟨zac,[.one],[]⟩],ap3 mV⟩
theorem BA:Lk 5 uK:=ls BU (aC Fc aN)
def ll:T2k->Option (T2k⊕((Bool×Unit)⊕T2t)):=λ(v0,v1,v2,v3,v4,v5,v6,v7,v8,v9,_)=>bif(decide (v7<v6))then((match((gg v7).bind λx0=>
(fR v8 x0).bind λx1=>
(gg v7).bind λx2=>
(fR v0 x2).bind λx3=>let x4:=w64 (x1+x3);bif(decide (v2<=x4))then((gg v7).bind λx5=>
(fR v8 x5).bind λx6=>
(gg v1).bind λx7=>
(fR v0 x7).bind λx8=>let x9:=w64 (v2+x8);bif(decide (x6<=x9))then(some (.inl (false,())))else some (.inr (v0,v1,v2,v3,v4,v5,v6,v7,false,v8,v9,())))else some (.inr (v0,v1,v2,v3,v4,v5,v6,v7,false,v8,v9,())):Option ((Bool×Unit)⊕T2t))with
|none=>none
|some (.inl (x0,_))=>some (.inr (.inl (x0,())))
|some (.inr (x0,x1,x2,x3,x4,x5,x6,x7,_,x9,ac,_))=>let ae:=w64 (x7+1);some (.inl (x0,x1,x2,x3,x4,x5,x6,ae,x9,ac,()))))else some (.inr (.inr (v0,v1,v2,v3,v4,v5,v6,v7,false,v8,v9,())))
def lj:T1h->Option (T1h⊕((Bool×Unit)⊕(LI×T1f))):=λ(v0,v1,v2,v3,v4)=>bif(decide (v3<v2))then((gg v3).bind λx0=>
(fR v1 x0).bind λx1=>
(bif(decide (x1<0))then(some (v0,v3,x1,v1,v2,v3,true,v4))else bif(decide (x1>=512))then(some (v0,v3,x1,v1,v2,v3,true,v4))else
(gg v3).bind λx2=>
(fR v0 x2).bind λx3=>let x4:=w64 (x1+x3);some (v0,v3,x1,v1,v2,v3,(decide (x4>512)),v4):Option (T25)).bind λ(x2,x3,x4,x5,x6,x7,x8,x9)=>bif x8 then(some (.inr (.inl (false,()))))else
(match f9 ll NN (x2,x3,x4,x5,x6,x7,x3,0,x9)with
|none=>none
|some (.inl (ae,_))=>some (.inr (.inl (ae,())))
|some (.inr (ae,_,_,ah,ai,aj,_,_,_,ap))=>let av:=w64 (aj+1);some (.inl (ae,ah,ai,av,ap))))else some (.inr (.inr (v0,v1,v2,v3,false,v4)))
def nY(a0:LI)(a1:Int)(a2:LI):f_:=
(lB a2).bind λ(x0,_)=>bif(!x0)then(some (false,()))else let x1:=fY a0.length;let x2:=fY a2.length;bif(x1 != x2)then(some (false,()))else let x3:=fY a0.length;
(match f9 lj NN (a2,a0,x3,0,a0,a1,())with
|none=>none
|some (.inl (x4,_))=>some (x4,())
|some (.inr (_,_))=>some (true,()))
def Dp:X.Cfg:=⟨E0,[rp],[],[⟨12,0,qE,[(.normal,qS [sP 1 RI,zaa 2,Uaa 5,Uaa 6,sP 20 RI,Uaa 21,Uaa 22,Xaa 41] Xam)]⟩,⟨18,1,qE,[(.ret,qS Xat []),(.normal,qS (sP 1 RI::zaa 2::il [5,6]++sP 20 RI::il [21,22,42,43]++[Xaa 71]) Xam)]⟩,⟨15,2,qS (sP 1 RI::zaa 2::il [5,6]++sP 20 RI::il [21,22,42,43]) Xam,[(.ret,qS Xat []),(.exit 2,qS (sP 1 RI::zaa 2::il [5,6]++sP 20 RI::il [21,22,42,43]++[Xaa 44]) Xam)]⟩,⟨6,3,qS [sP 1 RI,zaa 2,sP 20 RI,Uaa 21,Uaa 22] Xam,[(.ret,qS Xat []),(.exit 0,qS [sP 1 RI,zaa 2,sP 20 RI,Uaa 21,Uaa 22,Xaa 23] Xam)]⟩]⟩
def vZ:Ctr:=⟨82,130,[.agg Uab,shU RI],[],[⟨zab,[.one],[]⟩],ap3 nY⟩
theorem CS:Lk 2 vZ:=ls Dp (aC vG aN)
def qw(a0 a1:Int):f_:=some ((decide (a0<=2)),())
def HO:X.Cfg:=⟨E0,[],[],[]⟩
def uq:Ctr:=⟨117,131,[.agg Xab],[],[⟨zab,[.one],[]⟩],ap2 qw⟩
theorem zp:Lk 1 uq:=ls HO aN
def oK(a0 a1:Int):f_:=
(qw a0 a1).bind λ(x0,_)=>some ((!x0),())
def Ax:X.Cfg:=⟨E0,[uq],[],[]⟩
def tp:Ctr:=⟨141,132,[.agg Xab],[],[⟨zab,[.one],[]⟩],ap2 oK⟩
theorem As:Lk 2 tp:=ls Ax (aC zp aN)
def iv:T0j->Option (T0j⊕((Int×Unit)⊕T0B)):=λ(v0,v1,v2,_)=>bif(decide (v2<v1))then((gg v2).bind λx0=>
(fR v0 x0).bind λx1=>
(oK x1.1 x1.2).bind λ(x2,_)=>bif x2 then(some (.inr (.inl (v2,()))))else let x3:=w64 (v2+1);some (.inl (v0,v1,x3,())))else some (.inr (.inr (v0,v1,v2,false,())))
def jJ(a0:LDCe):h_:=let x0:=fY a0.length;
(match f9 iv NN (a0,x0,0,())with
|none=>none
|some (.inl (x1,_))=>some (x1,())
|some (.inr (_,_))=>some ((-1),()))
def sB:X.Cfg:=⟨E0,[tp],[],[⟨3,0,(qS (sP 0 g9::(1,.fn 141 [])::il [7,8]) []),[(.ret,qS [Uaa 4] []),(.exit 0,(qS [sP 0 g9,(1,.fn 141 []),Uaa 7,Uaa 8,Xaa 9] []))]⟩]⟩
def nh:Ctr:=⟨142,133,[shU g9,.fn 141 []],[],[⟨zac,[.one],[]⟩],ap1 jJ⟩
theorem sr:Lk 3 nh:=ls sB (aC As aN)
def gZ(a0:LDCe):f_:=
(jJ a0).bind λ(x0,_)=>some ((decide (x0>=0)),())
def qr:X.Cfg:=⟨E0,[nh],[],[]⟩
def lq:Ctr:=⟨115,134,[shU g9,.fn 141 []],[],[⟨zab,[.one],[]⟩],ap1 gZ⟩
theorem qq:Lk 4 lq:=ls qr (aC sr aN)
def lF(a0:LDCe)(a1:Int):f_:=let x0:=fY a0.length;bif(x0==a1)then((gZ a0).bind λ(x1,_)=>some ((!x1),()))else some (false,())
def Dn:X.Cfg:=⟨E0,[lq],[],[]⟩
def rq:Ctr:=⟨111,135,uL [g9,I64],[],[⟨zab,[.one],[]⟩],ap2 lF⟩
theorem vH:Lk 5 rq:=ls Dn (aC qq aN)
def sf(a0 a1:Int)(a2:Bool)(a3:LDCe):f_:=bif(a1==(-1))then(bif(!a2)then(let x0:Int:=(fY a3.length);some ((x0==0),()))else some (false,()))else bif(decide (a1>=0))then(bif(decide (a1<128))then(let x0:Int:=(Int.tmod a1 4);bif(x0==a0)then((lF a3 4).bind λ(x1,_)=>some (x1,()))else some (false,()))else some (false,()))else some (false,())
def FW:X.Cfg:=⟨E0,[rq],[],[]⟩
def yd:Ctr:=⟨112,136,[shU I64,.agg (uL [I64,.bool,g9])],[],[⟨zab,[.one],[]⟩],ap4 sf⟩
theorem E3:Lk 6 yd:=ls FW (aC vH aN)
def li:T0U->Option (T0U⊕((Bool×Unit)⊕T1e)):=λ(v0,v1,v2,v3)=>bif(decide (v2<v1))then((gg v2).bind λx0=>
(fR v0 x0).bind λx1=>
(sf v2 x1.1 x1.2.1 x1.2.2).bind λ(x2,_)=>bif(!x2)then(some (.inr (.inl (false,()))))else let x3:=w64 (v2+1);some (.inl (v0,v1,x3,v3)))else some (.inr (.inr (v0,v1,v2,false,v3)))
def nX(a0:LDCe)(a1:LDLn):f_:=
(lF a0 512).bind λ(x0,_)=>bif(!x0)then(some (false,()))else let x1:=fY a1.length;bif(x1 != 4)then(some (false,()))else let x2:=fY a1.length;
(match f9 li NN (a1,x2,0,a0,a1,())with
|none=>none
|some (.inl (x3,_))=>some (x3,())
|some (.inr (_,_))=>some (true,()))
def Do:X.Cfg:=⟨E0,[rq,yd],[],[⟨6,0,qS (sP 16 i3::il [17,18]) uan,[(.ret,qS Uat []),(.exit 0,qS [sP 16 i3,Uaa 17,Uaa 18,Xaa 19] uan)]⟩]⟩
def vY:Ctr:=⟨83,137,[.agg yaf],[],[⟨zab,[.one],[]⟩],ap2 nX⟩
theorem CR:Lk 7 vY:=ls Do (aC vH (aC E3 aN))
def hU(a0 a1 a2:Int):f_:=bif(decide (a0>=a1))then(some ((decide (a0<=a2)),()))else some (false,())
def Av:X.Cfg:=⟨E0,[],[],[]⟩
def tg:Ctr:=⟨114,138,zak,[],[⟨zab,[.one],[]⟩],ap3 hU⟩
theorem Aq:Lk 1 tg:=ls Av aN
def sY(a0 a1:Int):f_:=
(qw a0 a1).bind λ(x0,_)=>some ((!x0),())
def Au:X.Cfg:=⟨E0,[uq],[],[]⟩
def te:Ctr:=⟨116,139,[.agg Xab],[],[⟨zab,[.one],[]⟩],ap2 sY⟩
theorem Ap:Lk 2 te:=ls Au (aC zp aN)
def oR:T0j->Option (T0j⊕((Int×Unit)⊕T0B)):=λ(v0,v1,v2,_)=>bif(decide (v2<v1))then((gg v2).bind λx0=>
(fR v0 x0).bind λx1=>
(sY x1.1 x1.2).bind λ(x2,_)=>bif x2 then(some (.inr (.inl (v2,()))))else let x3:=w64 (v2+1);some (.inl (v0,v1,x3,())))else some (.inr (.inr (v0,v1,v2,false,())))
def lA(a0:LDCe):h_:=let x0:=fY a0.length;
(match f9 oR NN (a0,x0,0,())with
|none=>none
|some (.inl (x1,_))=>some (x1,())
|some (.inr (_,_))=>some ((-1),()))
def rl:X.Cfg:=⟨E0,[te],[],[⟨3,0,(qS (sP 0 g9::(1,.fn 116 [])::il [7,8]) []),[(.ret,qS [Uaa 4] []),(.exit 0,(qS [sP 0 g9,(1,.fn 116 []),Uaa 7,Uaa 8,Xaa 9] []))]⟩]⟩
def lK:Ctr:=⟨142,140,[shU g9,.fn 116 []],[],[⟨zac,[.one],[]⟩],ap1 lA⟩
theorem rj:Lk 3 lK:=ls rl (aC Ap aN)
def iN(a0:LDCe):f_:=
(lA a0).bind λ(x0,_)=>some ((decide (x0>=0)),())
def pD:X.Cfg:=⟨E0,[lK],[],[]⟩
def kC:Ctr:=⟨115,141,[shU g9,.fn 116 []],[],[⟨zab,[.one],[]⟩],ap1 iN⟩
theorem pu:Lk 4 kC:=ls pD (aC rj aN)
def nQ(a0:Int)(a1:LDCe)(a2 a3 a4 a5 a6 a7:Int):f_:=
(hU a0 0 4).bind λ(x0,_)=>bif x0 then(let x1:Int:=(fY a1.length);bif(x1==8)then((iN a1).bind λ(x2,_)=>bif(!x2)then((hU a2 0 255).bind λ(x3,_)=>bif x3 then((hU a3 0 1099511627776).bind λ(x4,_)=>bif x4 then((hU a4 (-1) 255).bind λ(x5,_)=>bif x5 then((hU a5 (-1) 255).bind λ(x6,_)=>bif x6 then((hU a6 0 6).bind λ(x7,_)=>some (x7,()))else some (false,()))else some (false,()))else some (false,()))else some (false,()))else some (false,()))else some (false,()))else some (false,())
def C6:X.Cfg:=⟨E0,[tg,kC],[],[]⟩
def vK:Ctr:=⟨86,142,[.agg uad],[],[⟨zab,[.one],[]⟩],as1 (as2 (as4 ap1)) nQ⟩
theorem CF:Lk 5 vK:=ls C6 (aC Aq (aC pu aN))
def rb(a0:Int)(a1:LDCe)(a2 a3 a4 a5 a6 a7:Int):f_:=
(nQ a0 a1 a2 a3 a4 a5 a6 a7).bind λ(x0,_)=>some ((!x0),())
def C8:X.Cfg:=⟨E0,[vK],[],[]⟩
def vM:Ctr:=⟨85,143,[.agg uad],[],[⟨zab,[.one],[]⟩],as1 (as2 (as4 ap1)) rb⟩
theorem CH:Lk 6 vM:=ls C8 (aC CF aN)
def ie:T0n->Option (T0n⊕((Int×Unit)⊕(LDTh×T0e))):=λ(v0,v1,v2,_)=>bif(decide (v2<v1))then((gg v2).bind λx0=>
(fR v0 x0).bind λx1=>
(rb x1.1 x1.2.1 x1.2.2.1 x1.2.2.2.1 x1.2.2.2.2.1 x1.2.2.2.2.2.1 x1.2.2.2.2.2.2.1 x1.2.2.2.2.2.2.2).bind λ(x2,_)=>bif x2 then(some (.inr (.inl (v2,()))))else let x3:=w64 (v2+1);some (.inl (v0,v1,x3,())))else some (.inr (.inr (v0,v1,v2,false,())))
def ji(a0:LDTh):h_:=let x0:=fY a0.length;
(match f9 ie NN (a0,x0,0,())with
|none=>none
|some (.inl (x1,_))=>some (x1,())
|some (.inr (_,_))=>some ((-1),()))
def rk:X.Cfg:=⟨E0,[vM],[],[⟨3,0,(qS (sP 0 og::(1,.fn 85 [])::il [7,8]) []),[(.ret,qS [Uaa 4] []),(.exit 0,(qS [sP 0 og,(1,.fn 85 []),Uaa 7,Uaa 8,Xaa 9] []))]⟩]⟩
def lJ:Ctr:=⟨113,144,[shU og,.fn 85 []],[],[⟨zac,[.one],[]⟩],ap1 ji⟩
theorem ri:Lk 7 lJ:=ls rk (aC CH aN)
def iM(a0:LDTh):f_:=
(ji a0).bind λ(x0,_)=>some ((decide (x0>=0)),())
def pC:X.Cfg:=⟨E0,[lJ],[],[]⟩
def kA:Ctr:=⟨84,145,[shU og,.fn 85 []],[],[⟨zab,[.one],[]⟩],ap1 iM⟩
theorem pt:Lk 8 kA:=ls pC (aC ri aN)
def qx(a0:LDIn)(a1:LI)(a2:LLI)(a3:LI)(a4:Int)(a5:LDCe)(a6:LDLn)(a7:LDTh):f_:=
(mV a0 a1 a2).bind λ(x0,_)=>bif(x0==0)then((nY a3 a4 a1).bind λ(x1,_)=>bif x1 then((nX a5 a6).bind λ(x2,_)=>bif x2 then(let x3:Int:=(fY a7.length);bif(x3==4)then((iM a7).bind λ(x4,_)=>some ((!x4),()))else some (false,()))else some (false,()))else some (false,()))else some (false,())
def HR:X.Cfg:=⟨E0,[uK,vZ,vY,kA],[],[]⟩
def zN:Ctr:=⟨52,146,[.agg uab,.agg Uac],[],[⟨zab,[.one],[]⟩],as1 (as2 (as4 ap1)) qx⟩
theorem Hr:Lk 9 zN:=ls HR (aC BA (aC CS (aC CR (aC pt aN))))
def ic(a0 a1 a2:Int):f_:=bif(decide (a0>=a1))then(some ((decide (a0<=a2)),()))else some (false,())
def yW:X.Cfg:=⟨E0,[],[],[]⟩
def rN:Ctr:=⟨101,147,zak,[],[⟨zab,[.one],[]⟩],ap3 ic⟩
theorem yT:Lk 1 rN:=ls yW aN
def kg(a0 a1 a2 a3:Int):f_:=bif(a0==0)then(bif(a2==0)then(some ((a3==0),()))else some (false,()))else bif(a0==2)then(bif(a2==0)then(some ((a3==0),()))else some (false,()))else bif(a0==1)then((bif(a2==(-1))then(bif(decide (a3>=0))then(some ((decide (a3<=65535)),a0,a1,a2,a3,()))else some (false,a0,a1,a2,a3,()))else some (false,a0,a1,a2,a3,()):Option (T0L)).bind λ(x0,_,x2,x3,x4,_)=>bif(x2==0)then(bif x0 then(some (true,()))else bif(decide (x3>=0))then(bif(decide (x3<4))then(bif(decide (x4>=0))then(some ((decide (x4<32)),()))else some (false,()))else some (false,()))else some (false,()))else some (false,()))else some (false,())
def C9:X.Cfg:=⟨E0,[],[],[⟨7,0,qE,[(.normal,qS [zaa 1,Xaa 3] [(4,yag)])]⟩]⟩
def ro:Ctr:=⟨87,148,[.agg yag],[],[⟨zab,[.one],[]⟩],ap4 kg⟩
theorem vF:Lk 1 ro:=ls C9 aN
def nD(a0 a1 a2 a3:Int):f_:=
(kg a0 a1 a2 a3).bind λ(x0,_)=>some ((!x0),())
def yX:X.Cfg:=⟨E0,[ro],[],[]⟩
def rO:Ctr:=⟨119,149,[.agg yag],[],[⟨zab,[.one],[]⟩],ap4 nD⟩
theorem yU:Lk 2 rO:=ls yX (aC vF aN)
def iU:T0l->Option (T0l⊕((Int×Unit)⊕(LDCn×T0e))):=λ(v0,v1,v2,_)=>bif(decide (v2<v1))then((gg v2).bind λx0=>
(fR v0 x0).bind λx1=>
(nD x1.1 x1.2.1 x1.2.2.1 x1.2.2.2).bind λ(x2,_)=>bif x2 then(some (.inr (.inl (v2,()))))else let x3:=w64 (v2+1);some (.inl (v0,v1,x3,())))else some (.inr (.inr (v0,v1,v2,false,())))
def iF(a0:LDCn):h_:=let x0:=fY a0.length;
(match f9 iU NN (a0,x0,0,())with
|none=>none
|some (.inl (x1,_))=>some (x1,())
|some (.inr (_,_))=>some ((-1),()))
def rH:X.Cfg:=⟨E0,[rO],[],[⟨3,0,(qS (sP 0 gj::(1,.fn 119 [])::il [7,8]) []),[(.ret,qS [Uaa 4] []),(.exit 0,(qS [sP 0 gj,(1,.fn 119 []),Uaa 7,Uaa 8,Xaa 9] []))]⟩]⟩
def ms:Ctr:=⟨143,150,[shU gj,.fn 119 []],[],[⟨zac,[.one],[]⟩],ap1 iF⟩
theorem rF:Lk 3 ms:=ls rH (aC yU aN)
def iV(a0:LDCn):f_:=
(iF a0).bind λ(x0,_)=>some ((decide (x0>=0)),())
def qb:X.Cfg:=⟨E0,[ms],[],[]⟩
def kW:Ctr:=⟨118,151,[shU gj,.fn 119 []],[],[⟨zab,[.one],[]⟩],ap1 iV⟩
theorem qa:Lk 4 kW:=ls qb (aC rF aN)
def jo(a0:LDCn)(a1:Int):f_:=let x0:=fY a0.length;bif(decide (x0<=a1))then((iV a0).bind λ(x1,_)=>some ((!x1),()))else some (false,())
def BI:X.Cfg:=⟨E0,[kW],[],[]⟩
def qj:Ctr:=⟨88,152,uL [gj,I64],[],[⟨zab,[.one],[]⟩],ap2 jo⟩
theorem uc:Lk 5 qj:=ls BI (aC qa aN)
def my(a0 a1 a2 a3 a4 a5:Int)(a6 a7:LDCn):f_:=
(ic a0 0 3).bind λ(x0,_)=>bif x0 then((ic a1 0 3).bind λ(x1,_)=>bif x1 then((ic a2 0 6).bind λ(x2,_)=>bif x2 then((ic a3 0 1099511627776).bind λ(x3,_)=>bif x3 then((ic a4 0 255).bind λ(x4,_)=>bif x4 then((ic a5 0 15).bind λ(x5,_)=>bif x5 then((jo a6 3).bind λ(x6,_)=>bif x6 then((jo a7 16).bind λ(x7,_)=>some (x7,()))else some (false,()))else some (false,()))else some (false,()))else some (false,()))else some (false,()))else some (false,()))else some (false,())
def BH:X.Cfg:=⟨E0,[rN,qj],[],[]⟩
def ur:Ctr:=⟨65,153,[.agg yac],[],[⟨zab,[.one],[]⟩],as1 (as2 (as4 ap1)) my⟩
theorem Bo:Lk 6 ur:=ls BH (aC yT (aC uc aN))
def pS(a0:Int):Option (ByteArray×T01):=let x0:ByteArray:=(bytes []);
(bif(a0==0)then(some (a0,true,()))else bif(a0==8)then(some (a0,true,()))else bif(a0==9)then(some (a0,true,()))else bif(a0==11)then(some (a0,true,()))else some (a0,(a0==12),()):Option (T01)).bind λ(x1,x2,_)=>bif x2 then(let x3:ByteArray:=(bytes [78]);some (x3,0,true,()))else bif(x1==1)then(let x3:ByteArray:=(bytes [72,80,78]);some (x3,1,true,()))else bif(x1==2)then(let x3:ByteArray:=(bytes [72,80,78]);some (x3,2,true,()))else bif(x1==3)then(let x3:ByteArray:=(bytes [78,78]);some (x3,0,true,()))else bif(x1==4)then(let x3:ByteArray:=(bytes [72]);some (x3,0,true,()))else bif(x1==5)then(let x3:ByteArray:=(bytes [72,78]);some (x3,0,true,()))else
(bif(x1==6)then(some (x1,true,()))else bif(x1==7)then(some (x1,true,()))else some (x1,(x1==15),()):Option (T01)).bind λ(x3,x4,_)=>bif x4 then(let x5:ByteArray:=(bytes []);some (x5,0,true,()))else bif(x3==10)then(let x5:ByteArray:=(bytes [78,88]);some (x5,0,true,()))else bif(x3==13)then(let x5:ByteArray:=(bytes [78,80,78]);some (x5,1,true,()))else bif(x3==14)then(let x5:ByteArray:=(bytes [78,80,78]);some (x5,2,true,()))else let x5:ByteArray:=(bytes []);some (x5,0,false,())
def BG:X.Cfg:=⟨E0,[],[],[⟨3,0,qE,[(.normal,qS [Uaa 5,Xaa 6] [])]⟩,⟨19,1,qE,[(.normal,qS [Uaa 5,Xaa 22] [])]⟩]⟩
def qi:Ctr:=⟨102,154,zac,[],[⟨uL [.str,I64,.bool],[.one,.one,.one],[]⟩],ap1 pS⟩
theorem ub:Lk 1 qi:=ls BG aN
def mf(a0:Int):h_:=
(pS a0).bind λ(x0,_,x2,_)=>bif(!x2)then(some ((-1),()))else let x3:=A6 x0;some (x3,())
def wE:X.Cfg:=⟨E0,[qi],[],[]⟩
def qk:Ctr:=⟨66,155,zac,[],[⟨zac,[.one],[]⟩],ap1 mf⟩
theorem wz:Lk 2 qk:=ls wE (aC ub aN)
def n5(a0 a1 a2 a3:Int)(a4:LDCn)(a5:Int)(a6:Bool):f_:=
(kg a0 a1 a2 a3).bind λ(x0,_)=>bif x0 then((jo a4 16).bind λ(x1,_)=>bif x1 then(bif(decide (a5>=(-1)))then(some ((decide (a5<4)),()))else some (false,()))else some (false,()))else some (false,())
def Ds:X.Cfg:=⟨E0,[ro,qj],[],[]⟩
def wg:Ctr:=⟨53,156,[.agg yad],[],[⟨zab,[.one],[]⟩],as2 (as4 ap1) n5⟩
theorem CX:Lk 6 wg:=ls Ds (aC vF (aC uc aN))
def pf(a0:LDIn)(a1:LI)(a2:LLI)(a3:LI)(a4:Int)(a5:LDCe)(a6:LDLn)(a7:LDTh)(a8 a9 ef ek eu eF:Int)(eH eJ:LDCn)(eM eQ eU eW:Int)(eY:LDCn)(fa:Int)(fe:Bool):f_:=
(qx a0 a1 a2 a3 a4 a5 a6 a7).bind λ(x0,_)=>bif x0 then((my a8 a9 ef ek eu eF eH eJ).bind λ(x1,_)=>bif x1 then(bif(a9==1)then(let x2:Int:=(fY eH.length);
(mf eF).bind λ(x3,_)=>bif(x2==x3)then((n5 eM eQ eU eW eY fa fe).bind λ(x4,_)=>bif x4 then((gg a8).bind λx5=>
(fR a7 x5).bind λx6=>some ((x6.1==2),()))else some (false,()))else some (false,()))else some (false,()))else some (false,()))else some (false,())
def F4:X.Cfg:=⟨E0,[zN,ur,qk,wg],[],[]⟩
def yk:Ctr:=⟨39,157,[.agg uab,.agg Uac,.agg yac,.agg yad],[],[⟨zab,[.one],[]⟩],as2 (as4 (as8 (as8 ap1))) pf⟩
theorem Fa:Lk 10 yk:=ls F4 (aC Hr (aC Bo (aC wz (aC CX aN))))
def kv(a0:LI):Option (LI×Unit):=bif(gh 8 0 a0.length)then let x0:v_:=(List.append [] a0);some (x0,())else none
def xA:X.Cfg:=⟨E0,[],[],[]⟩
def qY:Ctr:=⟨103,158,yai,[],[⟨Zae,[.one],[]⟩],ap1 kv⟩
theorem xg:Lk 1 qY:=ls xA aN
def sg(a0:LI)(a1:Int):Option (T07):=
(kv a0).bind λ(x0,_)=>some (x0,a1,())
def F0:X.Cfg:=⟨E0,[qY],[],[]⟩
def yh:Ctr:=⟨67,159,[.agg Uab],[],[⟨Zaj,[.agg 2],[]⟩],ap2 sg⟩
theorem E7:Lk 2 yh:=ls F0 (aC xg aN)
def ia(a0:LDCe):Option (LDCe×Unit):=bif(gh 4 0 a0.length)then let x0:LDCe:=(List.append [] a0);some (x0,())else none
def wD:X.Cfg:=⟨E0,[],[],[]⟩
def jU:Ctr:=⟨69,160,uL [g9],[],[⟨uL [(uaa KCe)],[.one],[]⟩],ap1 ia⟩
theorem mi:Lk 1 jU:=ls wD aN
def jK(a0:LDLn):Option (LDLn×Unit):=bif(gh 40 0 a0.length)then let x0:LDLn:=(List.append [] a0);some (x0,())else none
def wC:X.Cfg:=⟨E0,[],[(5,RF),(7,RF)],[]⟩
def qh:Ctr:=⟨104,161,uL [i3],[],[⟨uL [(uaa VQ)],[.one],[]⟩],ap1 jK⟩
theorem wy:Lk 1 qh:=ls wC aN
def mc:T1v->Option (T1v⊕(Int×Int×Bool×T0Z)):=λ(v0,v1,v2,v3,v4,v5,v6,_)=>bif(decide (v1<v0))then((gg v1).bind λx0=>
(fR v5 x0).bind λ_=>bif(iK v6 x0 x0)then(fR v5 x0).bind λx2=>
(ia x2.2.2).bind λ(x3,_)=>
(gg v1).bind λx4=>
(fR v5 x4).bind λ_=>
(fR v5 x4).bind λ_=>bif(Nat.beq x4 v6)then let x7:Int:=(w64 (v1+1));some (.inl (v0,x7,v2,v3,v4,(v5.modify x4 λe=>(e.1,(e.2.1,x3))),(Nat.add v6 1),()))else none else none)else some (.inr (v0,v1,false,v2,v3,v4,v5,v6,()))
def pa(a0:LDCe)(a1:LDLn):Option (T05):=
(ia a0).bind λ(x0,_)=>
(jK a1).bind λ(x1,_)=>let x2:=fY x1.length;
(f9 mc NN (x2,0,(),(),x0,x1,0,())).bind λ(_,_,_,_,_,x8,x9,ac,_)=>bif(Nat.beq ac x9.length)then some (x8,x9,())else none
def FX:X.Cfg:=⟨E0,[jU,qh],[],[(lx 4 0 (zl [2,3]++(14,.pk ⟨8,1,[]⟩ [0,0])::il [15,16]) [(6,uac),(8,[shU (uaa KCe),.half RF () ()])] 17)]⟩
def ye:Ctr:=⟨68,162,[.agg yaf],[],[⟨Uad,[.agg 2],[]⟩],ap2 pa⟩
theorem E4:Lk 2 ye:=ls FX (aC mi (aC wy aN))
def jy:T2Z->Option (T2Z⊕T36):=λ(v0,v1,v2,v3,v4,v5,v6,v7,v8,v9,ej,eq,eE,eG,eI,eK,eO,eS,_)=>bif(decide (v2<v1))then((gg v2).bind λx0=>
(fR v0 x0).bind λx1=>
(ia x1.2.1).bind λ(x2,_)=>let x3:LDTh:=[(x1.1,(x2,(x1.2.2.1,(x1.2.2.2.1,(x1.2.2.2.2.1,(x1.2.2.2.2.2.1,(x1.2.2.2.2.2.2.1,x1.2.2.2.2.2.2.2)))))))];bif(gh 80 eS.length x3.length)then let x4:LDTh:=(List.append eS x3);let x5:=w64 (v2+1);some (.inl (v0,v1,x5,v3,v4,v5,v6,v7,v8,v9,ej,eq,eE,eG,eI,eK,eO,x4,()))else none)else some (.inr (v0,v1,v2,false,v3,v4,v5,v6,v7,v8,v9,ej,eq,eE,eG,eI,eK,eO,eS,()))
def kj(a0:LI)(a1:Int)(a2:LDCe)(a3:LDLn)(a4:LDTh):Option (T0W):=
(sg a0 a1).bind λ(x0,x1,_)=>
(pa a2 a3).bind λ(x2,x3,_)=>let x4:=fY a4.length;
(f9 jy NN (a4,x4,0,a0,a1,a2,a3,a4,(),0,(),(),(),x0,x1,x2,x3,[],())).bind λ(_,_,_,_,_,_,_,_,_,_,_,_,_,_,an)=>some (an)
def Dm:X.Cfg:=⟨E0,[yh,ye,jU],[(27,RE),(28,RE)],[(lx 4 0 (zl [2,3]++sP 14 og::il [15,16]) [(4,Uac),(6,Zab),(8,Uah)] 17)]⟩
def vW:Ctr:=⟨40,163,[.agg Uac],[],[⟨Uah,[.agg 5],[]⟩],ap5 kj⟩
theorem CQ:Lk 3 vW:=ls Dm (aC E7 (aC E4 (aC mi aN)))
def rZ(a0:Int)(a1:LDCe)(a2 a3 a4 a5 a6 a7:Int):Option (T1N):=
(ia a1).bind λ(x0,_)=>some (a0,x0,a2,a3,a4,a5,a6,a7,())
def Fi:X.Cfg:=⟨E0,[jU],[],[]⟩
def xL:Ctr:=⟨70,164,[.agg uad],[],[⟨Zaf,[.agg 8],[]⟩],as1 (as2 (as4 ap1)) rZ⟩
theorem EK:Lk 2 xL:=ls Fi (aC mi aN)
def tL(a0:Int)(a1:LDCe)(a2 a3 a4 a5 a6 a7 a8 a9:Int):Option (T1N):=
(rZ a0 a1 a2 a3 a4 a5 a6 a7).bind λ(_,x1,x2,x3,x4,x5,_)=>some (4,x1,x2,x3,x4,x5,a8,a9,())
def HQ:X.Cfg:=⟨E0,[xL],[],[]⟩
def zM:Ctr:=⟨41,165,[.agg uad,shU I64,shU CW],[],[⟨Zaf,[.agg 8],[]⟩],as1 (as8 ap1) tL⟩
theorem Hq:Lk 3 zM:=ls HQ (aC EK aN)
def mz(a0:LI)(a1 a2:Int):f_:=bif(decide (a1>=0))then(let x0:Int:=(fY a0.length);bif(decide (a1<x0))then(bif(decide (a2>=0))then((gg a1).bind λx1=>
(fR a0 x1).bind λx2=>some ((decide (a2<x2)),()))else some (false,()))else some (false,()))else some (false,())
def BJ:X.Cfg:=⟨E0,[],[],[]⟩
def ql:Ctr:=⟨105,166,[shU RI,.agg Zac],[],[⟨zab,[.one],[]⟩],ap3 mz⟩
theorem ud:Lk 1 ql:=ls BJ aN
def pZ(a0:LI)(a1 a2 a3 a4:Int):f_:=bif(a1==0)then(bif(a3==0)then(some ((a4==0),()))else some (false,()))else bif(a1==2)then(bif(a3==0)then(some ((a4==0),()))else some (false,()))else bif(a1==1)then(bif(a2==0)then((mz a0 a3 a4).bind λ(x0,_)=>some (x0,()))else some (false,()))else some (false,())
def BV:X.Cfg:=⟨E0,[ql],[],[]⟩
def uM:Ctr:=⟨71,167,[shU RI,.agg yag],[],[⟨zab,[.one],[]⟩],ap5 pZ⟩
theorem BB:Lk 2 uM:=ls BV (aC ud aN)
def oL(a0:LI)(a1:Int)(a2:LI)(a3 a4:Int):Option (T02):=
(mz a2 a3 a4).bind λ(x0,_)=>bif(!x0)then(some (0,6,()))else let x1:=fY a0.length;bif(decide (a3>=x1))then(some (0,6,()))else
(gg a3).bind λx2=>
(fR a0 x2).bind λx3=>let x4:=w64 (x3+a4);some (x4,0,())
def Ay:X.Cfg:=⟨E0,[ql],[],[]⟩
def tw:Ctr:=⟨72,168,[.agg Uab,shU RI,.agg Zac],[],[⟨Zac,[.one,.one],[]⟩],ap5 oL⟩
theorem At:Lk 2 tw:=ls Ay (aC ud aN)
def jd(a0:LI)(a1:Int)(a2:LI)(a3 a4 a5 a6:Int):Option (T0f):=
(pZ a2 a3 a4 a5 a6).bind λ(x0,_)=>bif(!x0)then(some (0,0,1,()))else
(match(bif(a3==2)then(let x1:Int:=(wk .u16 (a4+a1));some (.inl (0,0,a3,x1,())))else bif(a3==1)then((oL a0 a1 a2 a5 a6).bind λ(x1,x2,_)=>bif(x2 != 0)then(some (.inr (1,0,0,())))else let x3:=wk .u16 x1;some (.inl (0,0,a3,x3,())))else some (.inl (0,0,a3,a4,())):Option (T0w⊕T0f))with
|none=>none
|some (.inl (_,_,x3,x4,_))=>some (x3,x4,0,())
|some (.inr (x1,x2,x3,_))=>some (x2,x3,x1,()))
def Ir:X.Cfg:=⟨E0,[uM,tw],[],[⟨5,0,qE,[(.normal,qS (zl [6,8]) [(14,Xab),(18,Xab)]),(.ret,qS yav [(14,Xab)])]⟩]⟩
def q8:Ctr:=⟨42,169,[.agg Uab,shU RI,.agg yag],[],[⟨zai,[.agg 2,.one],[]⟩],as2 (as4 ap1) jd⟩
theorem ug:Lk 3 q8:=ls Ir (aC BB (aC At aN))
def oF(a0:Int):h_:=
(pS a0).bind λ(_,x1,x2,_)=>bif(!x2)then(some ((-1),()))else some (x1,())
def Aw:X.Cfg:=⟨E0,[qi],[],[]⟩
def tn:Ctr:=⟨73,170,zac,[],[⟨zac,[.one],[]⟩],ap1 oF⟩
theorem Ar:Lk 2 tn:=ls Aw (aC ub aN)
def ou(a0:Int)(a1:LDCe)(a2:LDLn):Option (T0k):=
(gg a0).bind λx0=>
(fR a2 x0).bind λ_=>
(fR a2 x0).bind λx2=>
(fR a2 x0).bind λx3=>
(bif x2.2.1 then(bif(decide (x2.1>=0))then(let x4:Int:=(w64 (x2.1+1));let x5:=w64 (x4*4);let x6:=fY a1.length;some ((decide (x5<=x6)),a1,a2,x0,x2.1,x2.2.1,x3.2.2,()))else some (false,a1,a2,x0,x2.1,x2.2.1,x3.2.2,()))else some (false,a1,a2,x0,x2.1,x2.2.1,x3.2.2,()):Option (Bool×LDCe×LDLn×Nat×Int×Bool×LDCe×Unit)).bind λ(x4,x5,x6,x7,x8,_,ac,_)=>bif x4 then(let ae:Int:=(w64 (x8*4));
(gg ae).bind λaf=>bif(iK af x5.length x5.length)then bif(iK af (Nat.add af (Nat.min ac.length (Nat.sub x5.length af))) x5.length)then bif(Nat.blt 0 (Nat.min ac.length (Nat.sub x5.length af)))then(let ag:LDCe:=(p5 x5 af (Nat.min ac.length (Nat.sub x5.length af)) ac);let ah:=(fY (Nat.min ac.length (Nat.sub x5.length af)));some (ag,x6,x7,()))else let ag:=(fY (Nat.min ac.length (Nat.sub x5.length af)));some (x5,x6,x7,())else none else none)else some (x5,x6,x7,())
def Iq:X.Cfg:=⟨E0,[],[],[⟨1,0,qE,[(.normal,(qS [zaa 0,zaa 4,Xaa 30] [(2,[shU (uaa KCe),.gap RF () () 2]),(10,uL [I64,.bool,(uaa KCe)])]))]⟩]⟩
def Ad:Ctr:=⟨137,171,[.ptr ⟨2,0,[]⟩ [0],shU I64],[(2,Uad)],[⟨[],[],[(2,[shU (uaa KCe),.gap RF () () 2])]⟩],ap3 ou⟩
theorem HI:Lk 1 Ad:=ls Iq aN
def pd(a0:Int)(a1:LDCe)(a2:LDLn):Option (T0u⊕(Nat×T0u)):=
(bif(decide (a0<0))then(some (a0,true,a1,a2,()))else bif(decide (a0>=512))then(some (a0,true,a1,a2,()))else let x0:=fY a1.length;bif(x0 != 512)then(some (a0,true,a1,a2,()))else let x1:=fY a2.length;some (a0,(x1 != 4),a1,a2,()):Option (T0u)).bind λ(x0,x1,x2,x3,_)=>bif x1 then(some (.inl (0,false,x2,x3,())))else let x4:=w64 (Int.tdiv x0 4);let x5:=Int.tmod x4 4;
((gg x5).bind λx6=>
(fR x3 x6).bind λ_=>
(fR x3 x6).bind λx8=>bif(x8.1 != x4)then((ou x5 x2 x3).bind λ(x9,ac,ae,_)=>let af:=w64 (x4*4);let ag:=w64 (x4+1);let ah:=w64 (ag*4);
(gg af).bind λai=>
(gg ah).bind λaj=>bif(iK ai aj x9.length)then bif(gh 4 0 (List.length (nv x9 ai (Nat.sub aj ai))))then let ak:LDCe:=(List.append [] (nv x9 ai (Nat.sub aj ai)));
(gg x5).bind λam=>
(fR ac am).bind λ_=>
(fR ac am).bind λ_=>bif(Nat.beq am ae)then let aq:LDLn:=(ac.modify am λe=>(x4,(false,ak)));some (x0,x5,x9,aq,())else none else none else none)else
(gg x5).bind λx9=>
(fR x3 x9).bind λ_=>
(fR x3 x9).bind λ_=>
(fR x3 x9).bind λaf=>let ag:=fY af.2.2.length;bif(ag != 4)then((ou x5 x2 x3).bind λ(ah,ai,aj,_)=>let ak:=w64 (x4*4);let am:=w64 (x4+1);let an:=w64 (am*4);
(gg ak).bind λap=>
(gg an).bind λaq=>bif(iK ap aq ah.length)then bif(gh 4 0 (List.length (nv ah ap (Nat.sub aq ap))))then let av:LDCe:=(List.append [] (nv ah ap (Nat.sub aq ap)));
(gg x5).bind λax=>
(fR ai ax).bind λ_=>
(fR ai ax).bind λ_=>bif(Nat.beq ax aj)then let aA:LDLn:=(ai.modify ax λe=>(x4,(false,av)));some (x0,x5,ah,aA,())else none else none else none)else some (x0,x5,x2,x3,()):Option (T0x)).bind λ(x6,x7,x8,x9,_)=>
(gg x7).bind λac=>
(fR x9 ac).bind λ_=>let af:=Int.tmod x6 4;some (.inr (ac,af,true,x8,x9,()))
def FZ:X.Cfg:=⟨E0,[Ad],[],[⟨2,0,qE,[(.normal,qS [zaa 0,Uaa 1,Xaa 30] [(2,Uad)])]⟩,⟨6,1,qE,[(.normal,qS (zaa 0::il [1,8]) [(2,Uad)])]⟩]⟩
def yg:Ctr:=⟨106,172,[.ptr ⟨2,0,[]⟩ [0],shU I64],[(2,Uad)],[⟨[.k (.pointer none),shU I64,shU .bool],[.one,.one,.one],[(2,Uad)]⟩,⟨[.ptr ⟨2,1,[((),(3,0))]⟩ [0,0],shU I64,shU .bool],[.ptr,.one,.one],[(2,Uad)]⟩],ap3 pd⟩
theorem E6:Lk 2 yg:=ls FZ (aC HI aN)
def pb(a0 a1 a2:Int)(a3:LDCe)(a4:LDLn):Option (T0d):=
(match pd a0 a3 a4 with
|none=>none
|some (.inl (_,x1,x2,x3,_))=>
(bif x1 then(none)else some (x1,x2,x3,()):Option (T0d)).bind λ(x4,x5,x6,_)=>some (x4,x5,x6,())
|some (.inr (x0,x1,x2,x3,x4,_))=>
(bif x2 then((fR x4 x0).bind λ_=>
(gg x1).bind λx6=>
(fR x4 x0).bind λx7=>
(fR x7.2.2 x6).bind λ_=>
(fR x4 x0).bind λx9=>
(fR x9.2.2 x6).bind λ_=>let ae:=x4.modify x0 λe=>(e.1,(e.2.1,(e.2.2.modify x6 λe=>(a1,a2))));
(fR ae x0).bind λ_=>let ag:=ae.modify x0 λe=>(e.1,(true,e.2.2));some (x2,x3,ag,()))else some (x2,x3,x4,()):Option (T0d)).bind λ(x5,x6,x7,_)=>some (x5,x6,x7,()))
def FY:X.Cfg:=⟨E0,[yg],[],[⟨2,0,qE,[(.normal,qS [zaa 0,Xaa 9] [(2,Uad)])]⟩]⟩
def yf:Ctr:=⟨74,173,[.ptr ⟨2,0,[]⟩ [0],shU I64,.agg Xab],[(2,Uad)],[⟨zab,[.one],[(2,Uad)]⟩],ap5 pb⟩
theorem E5:Lk 3 yf:=ls FY (aC E6 aN)
def oM:T3k->Option (T3k⊕((Bool×LI×T0g)⊕(LDCn×Int×Int×Bool×T3h))):=λ(v0,v1,v2,v3,v4,v5,v6,v7,v8,v9,ej,eq,eE,eG,eI,eK,eO,eS,eV,eX,eZ,fc,ff,fi,fk,_)=>bif(decide (v2<v1))then((gg v2).bind λx0=>
(fR v0 x0).bind λx1=>
(fR eO 1).bind λx2=>let x3:=w64 (x2.2.2.2+v2);
(jd v3 v4 v8 x2.1 x2.2.1 x2.2.2.1 x3).bind λ(x4,x5,x6,_)=>
(jd v3 v4 v8 x1.1 x1.2.1 x1.2.2.1 x1.2.2.2).bind λ(x7,x8,x9,_)=>
(bif(x2.1 != 1)then(some (v0,v1,v2,true,v3,v4,v5,v6,v7,v8,v9,ej,eq,eE,eG,eI,eK,eO,eS,eV,eX,eZ,fc,ff,fi,fk,x4,x5,x7,x8,()))else bif(x6 != 0)then(some (v0,v1,v2,true,v3,v4,v5,v6,v7,v8,v9,ej,eq,eE,eG,eI,eK,eO,eS,eV,eX,eZ,fc,ff,fi,fk,x4,x5,x7,x8,()))else some (v0,v1,v2,(x9 != 0),v3,v4,v5,v6,v7,v8,v9,ej,eq,eE,eG,eI,eK,eO,eS,eV,eX,eZ,fc,ff,fi,fk,x4,x5,x7,x8,()):Option (LDCn×Int×Int×Bool×LI×Int×LDCe×LDLn×T3g)).bind λ(ac,ae,af,ag,ah,ai,aj,ak,am,an,ap,aq,av,ax,ay,az,aA,aB,aD,aE,aF,aG,aH,aI,aJ,aK,_,aM,aO,aP,_)=>bif ag then(some (.inr (.inl (false,ah,ai,aj,ak,()))))else let aQ:=wk .i64 aM;
(pb aQ aO aP aj ak).bind λ(_,aS,aT,_)=>let aU:=w64 (af+1);some (.inl (ac,ae,aU,ah,ai,aS,aT,am,an,ap,aq,av,ax,ay,az,aA,aB,aD,aE,aF,aG,aH,aI,aJ,aK,())))else some (.inr (.inr (v0,v1,v2,false,v3,v4,v5,v6,v7,v8,v9,ej,eq,eE,eG,eI,eK,eO,eS,eV,eX,eZ,fc,ff,fi,fk,())))
def ph(a0:LDIn)(a1:LI)(a2:LLI)(a3 a4 a5 a6 a7 a8:Int)(a9 ef:LDCn)(ek eu eF eH:Int)(eJ:LDCn)(eM:Int)(eQ:Bool)(eU:LI)(eW:Int)(eY:LDCe)(fa:LDLn):Option (Bool×LI×T0g):=
(oF a8).bind λ(x0,_)=>bif(x0 != 2)then(some (true,eU,eW,eY,fa,()))else let x1:=fY eJ.length;
(match f9 oM NN (eJ,x1,0,eU,eW,eY,fa,a0,a1,a2,a3,a4,a5,a6,a7,a8,a9,ef,ek,eu,eF,eH,eJ,eM,eQ,())with
|none=>none
|some (.inl (x2,x3,x4,x5,x6,_))=>some (x2,x3,x4,x5,x6,())
|some (.inr (_,_,_,_,x6,x7,x8,x9,_))=>some (true,x6,x7,x8,x9,()))
def F5:X.Cfg:=⟨E0,[tn,q8,yf],[],[⟨16,0,qE,[(.normal,qS (zl [1,4,6,12,14]++sP 21 gj::il [22,23]++[Xaa 69]) [(4,uai),(10,uab),(14,yac),(16,yad),(26,Xab),(30,Xab)])]⟩,⟨6,1,qS (zl [1,4,6]++sP 21 gj::il [22,23]) yat,[(.ret,qS Uau [(4,uai)]),(.exit 0,qS (zl [1,4,6]++sP 21 gj::il [22,23]++[Xaa 24]) yat)]⟩]⟩
def yl:Ctr:=⟨43,174,[.agg uab,.ptr ⟨4,0,[]⟩ [0],.agg yac,.agg yad],[(4,uai)],[⟨zab,[.one],[(4,uai)]⟩],as1 (as4 (as8 (as8 ap1))) ph⟩
theorem Fb:Lk 4 yl:=ls F5 (aC Ar (aC ug (aC E5 aN)))
def vA:Option (T1N):=bif(xe 8 8 2)then let x0:LDCe:=(List.replicate 8 (0,0));some (0,x0,0,0,(-1),(-1),0,0,())else none
def Dt:X.Cfg:=⟨E0,[],[],[]⟩
def wh:Ctr:=⟨138,175,[],[],[⟨Zaf,[.agg 8],[]⟩],λh=>vA⟩
theorem CY:Lk 1 wh:=ls Dt aN
def vv:Option (T1N):=
(vA).bind λ(x0)=>some (x0)
def C7:X.Cfg:=⟨E0,[wh],[],[]⟩
def vL:Ctr:=⟨107,176,[],[],[⟨Zaf,[.agg 8],[]⟩],λh=>vv⟩
theorem CG:Lk 2 vL:=ls C7 (aC CY aN)
def tK(a0 a1 a2:Int):Option (T1N):=
(vv).bind λ(_,x1,_,x3)=>
(fR x1 0).bind λ_=>
(fR x1 0).bind λ_=>let ac:=x1.modify 0 λe=>(a1,a2);some (1,ac,a0,x3)
def HP:X.Cfg:=⟨E0,[vL],[],[]⟩
def zL:Ctr:=⟨75,177,[shU I64,.agg Xab],[],[⟨Zaf,[.agg 8],[]⟩],ap3 tK⟩
theorem Hp:Lk 3 zL:=ls HP (aC CG aN)
def nZ(a0:LDIn)(a1:LI)(a2:LLI)(a3 a4 a5 a6 a7 a8:Int)(a9 ef:LDCn)(ek eu eF eH:Int)(eJ:LDCn)(eM:Int)(eQ:Bool)(eU:LI)(eW:Int)(eY:LDCe)(fa:LDLn)(fe:LDTh):Option (T12):=bif(a8==10)then((match(bif(!(eM != (-1)))then(bif(a8 != 12)then(some (.inl (true,eU,eW,eY,fa,fe,())))else some (.inr ((eM != (-1)),false,eU,eW,eY,fa,fe,a0,a1,a2,a3,a4,a5,a6,a7,a8,a9,ef,ek,eu,eF,eH,eJ,eM,eQ,())))else some (.inr ((eM != (-1)),false,eU,eW,eY,fa,fe,a0,a1,a2,a3,a4,a5,a6,a7,a8,a9,ef,ek,eu,eF,eH,eJ,eM,eQ,())):Option (T12⊕T3j))with
|none=>none
|some (.inl (x0,x1,x2,x3,x4,x5,_))=>some (x0,x1,x2,x3,x4,x5,())
|some (.inr (x0,_,x2,x3,x4,x5,x6,_,x8,_,ac,_,_,_,_,_,aj,_,_,_,_,_,_,ax,_,_))=>
(fR aj 0).bind λaz=>bif(az.1 != 0)then(some (false,x2,x3,x4,x5,x6,()))else bif(decide (az.2.1>255))then(some (false,x2,x3,x4,x5,x6,()))else bif(!x0)then(let aA:Int:=(wk .i64 az.2.1);
(gg ac).bind λaB=>
(fR x6 aB).bind λ_=>
(fR x6 aB).bind λ_=>let aF:=x6.modify aB λe=>(e.1,(e.2.1,(e.2.2.1,(e.2.2.2.1,(aA,e.2.2.2.2.2)))));some (true,x2,x3,x4,x5,aF,()))else
(fR aj 1).bind λaA=>
(jd x2 x3 x8 aA.1 aA.2.1 aA.2.2.1 aA.2.2.2).bind λ(aB,aD,aE,_)=>bif(aE != 0)then(some (false,x2,x3,x4,x5,x6,()))else
(gg ax).bind λaF=>
(fR x6 aF).bind λ_=>
(fR x6 aF).bind λaH=>bif(aH.1 != 0)then(some (false,x2,x3,x4,x5,x6,()))else let aI:=wk .i64 az.2.1;
(tK aI aB aD).bind λ(aJ,aK,aL,aM,aO,aP,aQ,aR,_)=>
(gg ax).bind λaS=>
(fR x6 aS).bind λ_=>
(fR x6 aS).bind λ_=>let aV:=x6.modify aS λe=>(aJ,(aK,(aL,(aM,(aO,(aP,(aQ,aR)))))));some (true,x2,x3,x4,x5,aV,())))else
(match(bif(a8 != 12)then(some (.inl (true,eU,eW,eY,fa,fe,())))else some (.inr (false,false,eU,eW,eY,fa,fe,a0,a1,a2,a3,a4,a5,a6,a7,a8,a9,ef,ek,eu,eF,eH,eJ,eM,eQ,())):Option (T12⊕T3j))with
|none=>none
|some (.inl (x0,x1,x2,x3,x4,x5,_))=>some (x0,x1,x2,x3,x4,x5,())
|some (.inr (x0,_,x2,x3,x4,x5,x6,_,x8,_,ac,_,_,_,_,_,aj,_,_,_,_,_,_,ax,_,_))=>
(fR aj 0).bind λaz=>bif(az.1 != 0)then(some (false,x2,x3,x4,x5,x6,()))else bif(decide (az.2.1>255))then(some (false,x2,x3,x4,x5,x6,()))else bif(!x0)then(let aA:Int:=(wk .i64 az.2.1);
(gg ac).bind λaB=>
(fR x6 aB).bind λ_=>
(fR x6 aB).bind λ_=>let aF:=x6.modify aB λe=>(e.1,(e.2.1,(e.2.2.1,(e.2.2.2.1,(aA,e.2.2.2.2.2)))));some (true,x2,x3,x4,x5,aF,()))else
(fR aj 1).bind λaA=>
(jd x2 x3 x8 aA.1 aA.2.1 aA.2.2.1 aA.2.2.2).bind λ(aB,aD,aE,_)=>bif(aE != 0)then(some (false,x2,x3,x4,x5,x6,()))else
(gg ax).bind λaF=>
(fR x6 aF).bind λ_=>
(fR x6 aF).bind λaH=>bif(aH.1 != 0)then(some (false,x2,x3,x4,x5,x6,()))else let aI:=wk .i64 az.2.1;
(tK aI aB aD).bind λ(aJ,aK,aL,aM,aO,aP,aQ,aR,_)=>
(gg ax).bind λaS=>
(fR x6 aS).bind λ_=>
(fR x6 aS).bind λ_=>let aV:=x6.modify aS λe=>(aJ,(aK,(aL,(aM,(aO,(aP,(aQ,aR)))))));some (true,x2,x3,x4,x5,aV,()))
def Dr:X.Cfg:=⟨E0,[q8,zL],[],[⟨2,0,qE,[(.ret,⟨[zaa 1,Xaa 8],[(4,Uah)],[((4,(5,0)),1),((4,(4,1)),0),((4,(0,0)),0)],([],[])⟩),(.normal,⟨[zaa 1,zaa 4,zaa 6,zaa 7,Xaa 9,Xaa 27],[(4,Uah),(10,uab),(14,yac),(16,yad)],[((4,(5,0)),1),((4,(4,1)),0),((4,(0,0)),0)],([],[])⟩)]⟩]⟩
def we:Ctr:=⟨44,178,[.agg uab,.ptr ⟨4,0,[]⟩ [0],.agg yac,.agg yad],[(4,Uah)],[⟨zab,[.one],[(4,Uah),(4,[.dead,.dead,.dead,.dead,.dead])]⟩],as2 (as4 (as8 (as8 ap1))) nZ⟩
theorem CV:Lk 4 we:=ls Dr (aC ug (aC Hp aN))
def ov(a0:LDIn)(a1:LI)(a2:LLI)(a3:LI)(a4:Int)(a5:LDCe)(a6:LDLn)(a7:LDTh)(a8 a9 ef ek eu eF:Int)(eH eJ:LDCn)(eM eQ eU eW:Int)(eY:LDCn)(fa:Int)(fe:Bool):Option (T1g):=
(pf a0 a1 a2 a3 a4 a5 a6 a7 a8 a9 ef ek eu eF eH eJ eM eQ eU eW eY fa fe).bind λ(x0,_)=>bif(!x0)then((kj a3 a4 a5 a6 a7).bind λ(x1,x2,x3,x4,x5,_)=>some (x1,x2,x3,x4,x5,false,()))else
(kj a3 a4 a5 a6 a7).bind λ(x1,x2,x3,x4,x5,_)=>
(gg a8).bind λx6=>
(fR x5 x6).bind λ_=>bif(eF==0)then((fR x5 x6).bind λx8=>
(fR eH 0).bind λx9=>
(fR x5 x6).bind λac=>
(tL x8.1 ac.2.1 x8.2.2.1 x8.2.2.2.1 x8.2.2.2.2.1 x8.2.2.2.2.2.1 x8.2.2.2.2.2.2.1 x8.2.2.2.2.2.2.2 0 x9.2.1).bind λ(ae,af,ag,ah,ai,aj,ak,am,_)=>
(fR x5 x6).bind λ_=>let ap:=x5.modify x6 λe=>(ae,(af,(ag,(ah,(ai,(aj,(ak,am)))))));some (x1,x2,x3,x4,ap,true,()))else bif fe then((fR x5 x6).bind λ_=>let x9:=x5.modify x6 λe=>(3,e.2);some (x1,x2,x3,x4,x9,true,()))else
(jd a3 a4 a1 eM eQ eU eW).bind λ(x8,x9,ac,_)=>
(bif(ac != 0)then(some (x6,true,a3,a4,a5,a6,a7,a8,a9,ef,ek,eu,eF,eH,eJ,(),0,(),(),(),x1,x2,x3,x4,x5,x8,x9,()))else
(ph a0 a1 a2 a8 a9 ef ek eu eF eH eJ eM eQ eU eW eY fa fe x1 x2 x3 x4).bind λ(ae,af,ag,ah,ai,_)=>bif(!ae)then(some (x6,true,a3,a4,a5,a6,a7,a8,a9,ef,ek,eu,eF,eH,eJ,(),0,(),(),(),af,ag,ah,ai,x5,x8,x9,()))else
(nZ a0 a1 a2 a8 a9 ef ek eu eF eH eJ eM eQ eU eW eY fa fe af ag ah ai x5).bind λ(aj,ak,am,an,ap,aq,_)=>
(fR aq x6).bind λ_=>some (x6,(!aj),a3,a4,a5,a6,a7,a8,a9,ef,ek,eu,eF,eH,eJ,(),0,(),(),(),ak,am,an,ap,aq,x8,x9,()):Option (Nat×Bool×LI×Int×LDCe×LDLn×LDTh×Int×Int×Int×Int×Int×Int×LDCn×LDCn×Unit×Int×Unit×Unit×Unit×T1A)).bind λ(ae,af,ag,ah,ai,aj,ak,_,_,_,_,_,_,_,_,_,_,_,_,_,aG,aH,aI,aJ,aK,aL,aM,_)=>bif af then((kj ag ah ai aj ak).bind λ(aO,aP,aQ,aR,aS,_)=>some (aO,aP,aQ,aR,aS,false,()))else
(fR aK ae).bind λ_=>
(fR aK ae).bind λaP=>
(fR aP.2.1 0).bind λ_=>
(fR aK ae).bind λaR=>
(fR aR.2.1 0).bind λ_=>let aT:=aK.modify ae λe=>(e.1,((e.2.1.modify 0 λe=>(aL,aM)),e.2.2));
(fR aT ae).bind λ_=>let aV:=aT.modify ae λe=>(1,e.2);some (aG,aH,aI,aJ,aV,true,())
def It:X.Cfg:=⟨E0,[yk,vW,zM,q8,yl,we],[],[⟨15,0,qE,[(.normal,(qS (zl [5,8,10]++[(11,.ptr ⟨22,4,[((),(8,0))]⟩ [0,0]),zaa 12,Xaa 77]) [(12,Uac),(14,yac),(18,Zab),(22,Uah),(26,Xab)]))]⟩]⟩
def uP:Ctr:=⟨16,179,[.agg uab,.agg Uac,.agg yac,.agg yad],[],[⟨uL [(uaa I64),CW,(uaa KCe),iu,og,.bool],[.agg 5,.one],[]⟩],as2 (as4 (as8 (as8 ap1))) ov⟩
theorem zC:Lk 11 uP:=ls It (aC Fa (aC CQ (aC Hq (aC ug (aC Fb (aC CV aN))))))
def lm:f_:=let x0:LDIn:=[(23,(0,(0,(0,2))))];
(mP x0 [4] [[]] [3] 0).bind λ(x1,x2,x3,x4,x5,_,_)=>
(fR x5 0).bind λ_=>
(fR x5 0).bind λ_=>let x9:=x5.modify 0 λe=>(2,e.2);let ac:LDCn:=[(2,(0,(0,0))),(1,(0,(0,1))),(0,(2,(0,0)))];let ae:LDCn:=[(0,(8,(0,0))),(0,(9,(0,0)))];
(ov x0 [4] [[]] x1 x2 x3 x4 x9 0 1 0 0 0 2 ac [] 0 2 0 0 ae (-1) false).bind λ(af,ag,ah,ai,aj,ak,_)=>bif(!ak)then(some (false,()))else let am:=fY aj.length;bif(am != 4)then(some (false,()))else
(mK x0 [4] [[]] af ag ah ai aj).bind λ(an,ap,_)=>
(fR an 0).bind λ_=>
(fR an 0).bind λ_=>
(fR an 0).bind λax=>
(fR ax 1).bind λ_=>
(fR an 0).bind λaz=>
(fR az 1).bind λaA=>bif(aA.2.1==8)then((fR an 0).bind λ_=>
(fR an 0).bind λ_=>
(fR an 0).bind λaE=>
(fR aE 2).bind λ_=>
(fR an 0).bind λaG=>
(fR aG 2).bind λaH=>bif(aH.2.1==9)then((fR ap 0).bind λ_=>
(fR ap 0).bind λ_=>
(fR ap 0).bind λaK=>
(fR aK.2.2.2.2.2.2.2 0).bind λ_=>
(fR ap 0).bind λaM=>
(fR aM.2.2.2.2.2.2.2 0).bind λaO=>bif(aO.2.1==2)then((fR ap 0).bind λ_=>
(fR ap 0).bind λaQ=>some ((aQ.1==1),()))else some (false,()))else some (false,()))else some (false,())
def F1:X.Cfg:=⟨E0,[sK,uP,sI],[(11,(uaa CW))],[]⟩
def yi:Ctr:=⟨15,180,[],[],[⟨zab,[.one],[]⟩],λh=>lm⟩
theorem E8:Lk 12 yi:=ls F1 (aC xo (aC zC (aC xm aN)))
def je:T3V->Option (T3V⊕((Bool×Unit)⊕(Int×Bool×T3S))):=λ(v0,v1,v2,v3,v4,v5,v6,v7,v8,v9,ej,eq,eE,eG,eI,eK,eO,eS,eV,eX,eZ,fc,ff,fi,fk,fq,fr,fu,fv,fw,fA,fB,fC,fD,fE)=>bif(decide (v0<8))then((gg v0).bind λx0=>
(fR fq x0).bind λx1=>
(gg v0).bind λx2=>
(fR fD x2).bind λx3=>bif(!((x1.1==x3.1)&&((x1.2==x3.2)&&true)))then(some (.inr (.inl (false,()))))else let x4:=w64 (v0+1);some (.inl (x4,v1,v2,v3,v4,v5,v6,v7,v8,v9,ej,eq,eE,eG,eI,eK,eO,eS,eV,eX,eZ,fc,ff,fi,fk,fq,fr,fu,fv,fw,fA,fB,fC,fD,fE)))else some (.inr (.inr (v0,false,v1,v2,v3,v4,v5,v6,v7,v8,v9,ej,eq,eE,eG,eI,eK,eO,eS,eV,eX,eZ,fc,ff,fi,fk,fq,fr,fu,fv,fw,fA,fB,fC,fD,fE)))
def mZ(a0:LI):f_:=
(mY a0 0).bind λ(x0,x1,x2,x3,x4,x5,x6,x7,x8,x9,ac,ae,af,ag,ah,ai,aj,ak,am,an,ap,aq,av,_)=>
(ov x0 x1 x2 x3 x4 x5 x6 x7 x8 x9 ac ae af ag ah ai aj ak am an ap aq av).bind λ(az,aA,aB,aD,aE,aF,_)=>bif(!aF)then((lm).bind λ(aG,_)=>some (aG,()))else
(jL x0 x1 x2 az aA aB aD aE).bind λ(aG,_)=>bif(!aG)then(some (false,()))else
(gg x8).bind λaH=>
(fR x7 aH).bind λaI=>
(gg x8).bind λaJ=>
(fR aE aJ).bind λaK=>
(match f9 je NN (1,x0,x1,x2,x8,x9,ac,ae,af,ag,ah,ai,aj,ak,am,an,ap,aq,av,az,aA,aB,aD,aE,aI.1,aI.2.1,aI.2.2.1,aI.2.2.2.1,aI.2.2.2.2.1,aI.2.2.2.2.2.1,aI.2.2.2.2.2.2.1,aI.2.2.2.2.2.2.2,aK.1,aK.2.1,aK.2.2.1,aK.2.2.2.1,aK.2.2.2.2.1,aK.2.2.2.2.2.1,aK.2.2.2.2.2.2.1,aK.2.2.2.2.2.2.2,())with
|none=>none
|some (.inl (aL,_))=>some (aL,())
|some (.inr (_,_,_,aP,_,_,_,_,_,_,aW,_,_,ba,bc,bd,be,_,_,bh,bi,bj,_,_,_,_,bo,bp,bq,_,_,_,_,bB,bC,bD,bE,_))=>bif(aW==0)then((fR bo 0).bind λbJ=>
(fR bC 0).bind λbK=>bif((bJ.1==bK.1)&&((bJ.2==bK.2)&&true))then(bif(bB != 1)then(bif(bp==bD)then((lm).bind λ(bL,_)=>some (bL,()))else some (false,()))else some (false,()))else some (false,()))else bif bh then((fR bo 0).bind λbJ=>
(fR bC 0).bind λbK=>bif((bJ.1==bK.1)&&((bJ.2==bK.2)&&true))then(bif(bB != 1)then(bif(bp==bD)then((lm).bind λ(bL,_)=>some (bL,()))else some (false,()))else some (false,()))else some (false,()))else bif(bB==1)then((fR bC 0).bind λbJ=>
(jc bi bj aP bJ.1 bJ.2).bind λ(bK,bL,bM,bN,_)=>let bO:Bool:=((bK==ba)&&((bL==bc)&&((bM==bd)&&((bN==be)&&true))));bif bO then(bif(bp==bD)then(bif(bq==bE)then((lm).bind λ(bP,_)=>some (bP,()))else some (false,()))else some (false,()))else some (false,()))else some (false,()))
def xC:X.Cfg:=⟨E0,[uN,uP,yi,nj,nq],[],[⟨13,0,qS (zl [4,6,7,8,10,11]++[Uaa 12]) zat,[(.ret,qS Uat []),(.exit 0,qS (zl [4,6,7,8,10,11]++[Uaa 12,Xaa 50]) zat)]⟩]⟩
def q9:Ctr:=⟨5,181,yai,[],[⟨zab,[.one],[]⟩],ap1 mZ⟩
theorem k_law14_FinishRegs:Lk 13 q9:=ls xC (aC BC (aC zC (aC E8 (aC py (aC pA aN)))))
end
end Go.Proofs.YtabfnmgabblofaaGreat
namespace Go.Proofs.YtabfnmgabblofaaGreat
set_option maxRecDepth 100000
noncomputable section
end
end Go.Proofs.YtabfnmgabblofaaGreat
namespace Go.Proofs.YtabfnmgabblofaaGreat
open Go.RowKit
theorem Vn:(Tryz.prog.funcs.all λfn=>!(fn.name== "runtime.NumGoroutine"))=true:=by kernel_rfl
theorem L9:tz Tryz.prog 8:=by
 obtain⟨fn,hf,hb⟩:∃fn,Tryz.prog.funcs[8]?=some fn/\fn.body.isSome=true:=by
  have hs:(match Tryz.prog.funcs[8]? with|some fn=>fn.body.isSome|none=>false)=true:=by kernel_rfl
  cases h:Tryz.prog.funcs[8]? with|none=>rw[h]at hs;cases hs|some fn=>rw[h]at hs;exact⟨fn,rfl,hs⟩
 obtain⟨c,hc⟩:=Option.isSome_iff_exists.1 hb;refine II hf ?_ hc;obtain⟨hlt,he⟩:=Array.getElem?_eq_some_iff.1 hf;have:=Array.all_eq_true.1 Vn 8 hlt;rw[he]at this;simpa using this
def TM(x:Value)(w:World)(e:Ending)(w':World):Prop:=e=.returned (.pointer (some ⟨w.heap.size,0,none⟩))/\w'=w.alloc (.cells #[x,.int .i64 0] 79)
theorem S7(x:Value)(hx:x.oneCell'=true)(w:World):Calls Tryz.prog 8 #[x] w (TM x w):=by
 cases x;all_goals first
  |(go_enter Tryz.func8,Tryz.ntmps8
    go_wp2
    go_ret
    exact⟨rfl,rfl⟩)
  |simp[Value.oneCell']at hx
theorem UK:GC Tryz.prog E0:=by
 intro f n tm h;simp only[E0]at h;split at h;rename_i e;subst e;injection h with h
 injection h with h1 h2
 subst h1 h2;refine⟨L9,λx hx=>?_,79,λl2 w hl YL=>?_⟩;simp only[oMC,List.not_mem_nil,or_false]at hx;rcases hx with hx|hx;injection hx;injection hx with hx;rw[hx];rfl
 match l2,hl with| [x],_=>exact S7 x (YL x (by simp[bxV])) w
 simp at h
theorem e0_ok:I2 Tryz.prog E0:=Rl UK
def Ok{α:Type}(o:Option α)(Q:α->Prop):Prop:=∃a,o=some a/\Q a
section
variable {α β:Type}
theorem fO{a:α}{Q:α->Prop}(h:Q a):Ok (some a) Q:=⟨a,rfl,h⟩
theorem Ok.bind{o:Option α}{f:α->Option β}{P:α->Prop}{Q:β->Prop}(h:Ok o P)(h2:∀a,P a->Ok (f a) Q):Ok (o.bind f) Q:=by obtain⟨a,rfl,h1⟩:=h;simp_all
theorem Ok.mono{o:Option α}{P Q:α->Prop}(h:Ok o P)(h2:∀a,P a->Q a):Ok o Q:=by have ⟨a,e,h1⟩:=h;exact⟨a,e,h2 a h1⟩
theorem f8{c:Bool}{a b:Option α}{Q:α->Prop}(h1:c=true->Ok a Q)(h2:c=false->Ok b Q):Ok (bif c then a else b) Q:=by grind
class BP (b:Bool) (P N:outParam Prop):Prop where
 t:b=true->P
 f:b=false->N
instance (priority:=low) bpVar {b:Bool}:BP b (b=true) (b=false):=⟨id,id⟩
instance V3 {p:Prop}{i:Decidable p}:BP (@decide p i) p (¬p):=⟨of_decide_eq_true,of_decide_eq_false⟩
instance Wf {α:Type}[BEq α][LawfulBEq α]{a b:α}:BP (a==b) (a=b) (¬a=b):=⟨eq_of_beq,λh=>beq_eq_false_iff_ne.1 h⟩
instance We {α:Type}[BEq α][LawfulBEq α]{a b:α}:BP (a != b) (¬a=b) (a=b):=⟨λh=>bne_iff_ne.1 h,λh=>bne_eq_false_iff_eq.1 h⟩
instance V2 {b:Bool}{P N:Prop}[h:BP b P N]:BP (!b) N P:=⟨λe=>h.f (by simpa using e),λe=>h.t (by simpa using e)⟩
theorem fQ{c:Bool}{P N:Prop}[h:BP c P N]{a b:Option α}{Q:α->Prop}(h1:P->Ok a Q)(h2:N->Ok b Q):Ok (bif c then a else b) Q:=by cases hc:c with|true=>exact h1 (h.t hc)|false=>exact h2 (h.f hc)
theorem gP{l:List α}{i:Nat}{f:α->Option β}{Q:β->Prop}(h:i<l.length)(h2:∀a,l[i]?=some a->Ok (f a) Q):Ok ((fR l i).bind f) Q:=by have e:fR l i=some l[i]:=oGE h;simp_all
theorem jm{x:Int}{f:Nat->Option β}{Q:β->Prop}(h:0<=x)(h2:∀n:Nat,x=n->Ok (f n) Q):Ok ((gg x).bind f) Q:=by obtain⟨n,rfl⟩:∃n:Nat,x=n:=⟨x.toNat,by omega⟩;exact h2 n rfl
theorem fX{l:List α}{i:Nat}{f:α->Option β}{Q:β->Prop}(h2:∀a,l[i]?=some a->Ok (f a) Q)(h:i<l.length:=by omega):Ok ((fR l i).bind f) Q:=gP h h2
theorem gR{x:Int}{f:Nat->Option β}{Q:β->Prop}(h2:∀n:Nat,x=n->Ok (f n) Q)(h:0<=x:=by omega):Ok ((gg x).bind f) Q:=jm h h2
theorem Ok.val{v:α}{f:α->Option β}{Q:β->Prop}(h:∀x,x=v->Ok (f x) Q):Ok (f v) Q:=h v rfl
theorem fP{c:Bool}{a b:Option α}{Q:α->Prop}(hc:c=true)(h1:Ok a Q):Ok (bif c then a else b) Q:=by simp_all
theorem gW{S T:Type}{f:S->Option (S⊕T)}(P:S->Prop)(R:T->Prop)(m:S->Nat){n:Nat}{s:S}(hs:P s)(hm:m s<n) (h:∀s,P s->Ok (f s) λr=>match r with|.inl s'=>P s'/\m s'<m s|.inr t=>R t):Ok (f9 f n s) R:=by induction n generalizing s with|zero=>omega|succ n ih=>have ⟨r,e,hr⟩:=h s hs;cases r with|inl s'=>have ⟨t,e2,hq⟩:=ih hr.1 (by omega);exact⟨t,by simp[f9,e];exact e2,hq⟩|inr t=>exact⟨t,by simp[f9,e],hr⟩
theorem gL{S T:Type}{f:S->Option (S⊕T)}{g:T->Option β}{Q:β->Prop}(P:S->Prop)(R:T->Prop)(m:S->Nat){n:Nat}{s:S}(hs:P s)(hm:m s<n)
 (h:∀s,P s->Ok (f s) λr=>match r with|.inl s'=>P s'/\m s'<m s|.inr t=>R t)(hg:∀t,R t->Ok (g t) Q):Ok ((f9 f n s).bind g) Q:=(gW P R m hs hm h).bind hg
end
theorem gw{x:Int}(h1:-9223372036854775808<=x)(h2:x<=9223372036854775807):w64 x=x:=PF h1 h2
theorem iA{x:Int}(h1:-9223372036854775808<=x:=by omega)(h2:x<=9223372036854775807:=by omega):w64 x=x:=gw h1 h2
theorem fV(n:Nat):gg (n:Int)=some n:=rfl
theorem ge(n:Nat):fY n=(n:Int):=rfl
theorem fW{α:Type}{l:List α}{i:Nat}{a:α}(h:l[i]?=some a):a∈l:=List.mem_of_getElem? h
def W16(x:Int):Prop:=0<=x/\x<=65535
theorem gi{x:Int}(h0:0<=x)(h1:x<=65535):wk .u16 x=x:=by unfold wk;rw[wP];omega
theorem gc{x:Int}(h0:-9223372036854775808<=x)(h1:x<=9223372036854775807):wk .i64 x=x:=gw h0 h1
theorem f7{b n m:Nat}(h:b<=1000/\n+m<=1000000):gh b n m=true:=by have:=Nat.mul_le_mul h.2 h.1;simp[gh];omega
structure DOk (l:M_)(k:Int):Prop where
 num:∀x∈l,TN x
 len:l.length<=maxLen
 lo:0<=k
 hi:k<=l.length
theorem DOk.start{l:M_}(h:∀x∈l,TN x)(hl:l.length<=maxLen):DOk l 0:=⟨h,hl,by omega,by omega⟩
theorem RT{a b:Int}(ha:TN a)(hb:0<b)(ZS:b<=9223372036854775807):∃v,mg a b=some (v,())/\0<=v/\v<b:=by
 have hne:(b != 0)=true:=by simp;omega
 have hm:=Int.tmod_lt_of_pos a hb;have hm2:-b<Int.tmod a b:=by have:=Int.tmod_lt_of_pos (-a) hb;rw[Int.neg_tmod]at this;omega
 unfold mg;simp[hne];by_cases h:Int.tmod a b<0;refine⟨Int.tmod a b+b,?_,by omega,by omega⟩;simp[h,decide_true];rw[gw (by omega) (by omega)];refine⟨Int.tmod a b,?_,by omega,hm⟩;simp[h,decide_false,oCF]
section
variable {β:Type} {l:M_} {k n:Int} {Q:β->Prop}
theorem Uq{a b:Int}{f:Int×Unit->Option β}(ha:TN a)(hb:0<b)(ZS:b<=9223372036854775807)(K:∀v,0<=v->v<b->Ok (f (v,())) Q):Ok ((mg a b).bind f) Q:=by have ⟨v,e,h0,h1⟩:=RT ha hb ZS;simp_all
theorem gI{f:Int×M_×Int×Unit->Option β}(h:DOk l k)(hn:0<n)(hn2:n<=9223372036854775807)(K:∀v k',0<=v->v<n->DOk l k'->Ok (f (v,l,k',())) Q):Ok ((fS n l k).bind f) Q:=by
 have hl:=h.len;have hlo:=h.lo;have Wy:maxLen<=9223372036854775807:=by decide
 by_cases hk:k>=(l.length:Int);have e:fS n l k=some (0,l,k,()):=by unfold fS;simp[ge,hk]
 simp_all
 ·obtain⟨j,rfl⟩:∃j:Nat,k=j:=⟨k.toNat,by omega⟩
  have hj:j<l.length:=by omega
  obtain⟨v,hv,h0,h1⟩:=RT (h.num _ (oGX hj)) hn hn2
  have e:fS n l j=some (v,l,(j:Int)+1,()):=by
   unfold fS;delta fY
   try dsimp only
   rw[iA (x:=(j:Int)+1),iA (x:=(j:Int)+1-1)];rw[show(j:Int)+1-1=j by omega,fV];simp[hk,decide_false,oCF,oBS,fR,oGE hj,El,hv]
  rw[e];exact K v _ h0 h1 ⟨h.num,hl,by omega,by omega⟩
theorem Kq{f:Int×M_×Int×Unit->Option β}(h:DOk l k)(K:∀v k',0<=v->v<=65535->DOk l k'->Ok (f (v,l,k',())) Q):Ok ((kS l k).bind f) Q:=by
 have hw:Ok (kS l k) λr=>∃v k',r=(v,l,k',())/\0<=v/\v<=65535/\DOk l k':=by
  unfold kS;refine gI (by assumption) (by omega) (by omega) λv k a b d=>?_;try dsimp only
  refine Ok.bind (P:=λr=>∃b,r=(v,b,l,k,())) ?_ ?_
  ·repeat ((with_reducible refine fQ (λhc=>?_) λhc=>?_);· exact fO ⟨_,rfl⟩)
   exact fO ⟨_,rfl⟩
  ·rintro _ ⟨b,rfl⟩;refine f8 (λ_=>?_) λ_=>?_
   ·refine gI (by assumption) (by omega) (by omega) λv k a b d=>?_;try dsimp only
    (simp (disch:=omega) only [gw,gi,gc,ge])
    exact fO ⟨_,_,rfl,by omega,by omega,by assumption⟩
   ·refine fQ (λhc=>?_) λhc=>?_
    ·refine gI (by assumption) (by omega) (by omega) λv k a b d=>?_;try dsimp only
     (simp (disch:=omega) only [gw,gi,gc,ge])
     exact fO ⟨_,_,rfl,by omega,by omega,by assumption⟩
    ·refine gI (by omega) (by omega) (by omega) λv k a b d=>?_;try dsimp only
     (simp (disch:=omega) only [gw,gi,gc,ge])
     exact fO ⟨_,_,rfl,by omega,by omega,by omega⟩
 refine hw.bind ?_;simp_all
end
def AC(s:M_):Prop:=1<=s.length/\s.length<=4/\∀x∈s,1<=x/\x<=32
theorem VR{P:Int->Prop}{a b c:Int}(ha:P a)(hb:P b)(hc:P c):∀x∈[a,b,c],P x:=by simp_all
theorem PR{l:M_}{k:Int}(h:DOk l k):Ok (qL l k) λr=>∃s k',r=(s,l,k',())/\AC s/\DOk l k':=by
 unfold qL;refine gI (by assumption) (by omega) (by omega) λv0 k0 a0 b0 d0=>?_;try dsimp only
 (simp (disch:=omega) only [gw,gi,gc,ge])
 refine gI (by assumption) (by omega) (by omega) λv1 k1 a1 b1 d1=>?_;try dsimp only
 refine gL (P:=λ((c,l',k',s,_):Int×M_×Int×M_×Unit)=>l'=l/\DOk l k'/\0<=c/\c+s.length<=4/\1<=s.length/\∀x∈s,1<=x/\x<=32)
  (R:=λ((_,_,l',k',s,_):Int×Bool×M_×Int×M_×Unit)=>l'=l/\DOk l k'/\AC s) (m:=λs=>s.1.toNat) ⟨rfl,d1,a1,by simp;omega,by simp,by simp;omega⟩ (by unfold NN;dsimp only;omega) ?_ ?_
 ·rintro⟨c,l',k3,s,_⟩ ⟨rfl,XF,hc0,hcs,hs1,hs⟩;dsimp only at *;unfold tV;dsimp only;refine fQ (λhc=>?_) λhc=>?_
  ·refine gI (by assumption) (by omega) (by omega) λv2 k2 a2 b2 d2=>?_;try dsimp only
   refine jm (by omega) λj hj=>?_;try dsimp only
   have Zz:∀x∈[(6:Int),12,32],6<=x/\x<=32:=by simp_all
   refine gP (by simp;omega) λa ha=>?_;refine gP (by simp;omega) λb hb=>?_;have h7:=Zz b (fW hb)
   refine gI (by assumption) (by omega) (by omega) λv3 k3 a3 b3 d3=>?_;try dsimp only
   (simp (disch:=omega) only [gw,gi,gc,ge])
   refine fP (f7 (by simp;omega)) ?_;refine fO ⟨⟨rfl,by assumption,by omega,?_,?_,?_⟩,?_⟩
   ·simp;omega
   ·simp
   ·intro x hx;simp at hx;rcases hx with hx|rfl
    ·exact hs x hx
    ·omega
   ·dsimp only;omega
  ·exact fO ⟨rfl,XF,hs1,by dsimp only;omega,hs⟩
 rintro⟨a,b,l',k3,s,_⟩ ⟨rfl,XF,hs⟩;exact fO ⟨_,_,rfl,hs,XF⟩
def tE(op:Int):Bool:=!(op==18||op==23||op==0||op==24)
def tD(op:Int):Bool:=!(op==18||op==23||op==0||op==24||op==1||op==15||op==19||op==20||op==21||op==22)
def tC(op:Int):Bool:=!(op==18||op==23||op==0||op==24||op==1||op==15||op==19||op==20||op==21||op==22||op==2||op==16||op==17)
def tB(op:Int):Bool:=op==1||op==15||op==19||op==20||op==21||op==16||op==17||op==18||op==23
def nL(op:Int):Bool:=op==18||op==19||op==20||op==21
theorem I7{op:Int}(h0:0<=op)(h1:op<=24):kP op=some (tE op,tD op,tC op,tB op,()):=by
 obtain⟨n,rfl⟩:∃n:Nat,op=n:=⟨op.toNat,by omega⟩;have hn:n<25:=by omega
 have key:∀n:Fin 25,(kP ((n.val:Nat):Int)).map (λx=>(x.1,x.2.1,x.2.2.1,x.2.2.2.1))=some (tE (n.val:Nat),tD (n.val:Nat),tC (n.val:Nat),tB (n.val:Nat)):=by decide
 have:=key ⟨n,hn⟩;cases h:kP (n:Int)with|none=>simp_all|some x=>obtain⟨a,b,c,d,_⟩:=x;simp_all
theorem wB(op:Int):iQ op=some (nL op,()):=by unfold iQ nL;grind
structure ke (n m:Int)(i:DIn):Prop where
 op:0<=i.1/\i.1<=24
 a:0<=i.2.1/\i.2.1<8/\(tE i.1=false->i.2.1=0)
 b:0<=i.2.2.1/\i.2.2.1<8/\(tD i.1=false->i.2.2.1=0)
 c:0<=i.2.2.2.1/\i.2.2.2.1<8/\(tC i.1=false->i.2.2.2.1=0)
 imm:0<=i.2.2.2.2/\i.2.2.2.2<=65535/\(tB i.1=false->i.2.2.2.2=0)
 lea:i.1=15->i.2.2.2.2<n
 sys:i.1=23->i.2.2.2.2<=15
 jmp:nL i.1=true->i.2.2.2.2<m
theorem ins_mk{n m o a b c i:Int}(ho:0<=o/\o<=24)(ha:0<=a/\a<8)(hb:0<=b/\b<8)(hc:0<=c/\c<8)(hi:0<=i/\i<=65535)(hA:tE o=true\/a=0)(hB:tD o=true\/b=0)(hC:tC o=true\/c=0)(hI:tB o=true\/i=0)
 (hl:o=15->i<n)(hs:o=23->i<=15)(hj:nL o=true->i<m):ke n m (o,a,b,c,i):=
 ⟨ho,⟨ha.1,ha.2,λh=>hA.elim (λh'=>by simp_all) id⟩,⟨hb.1,hb.2,λh=>hB.elim (λh'=>by simp_all) id⟩,
  ⟨hc.1,hc.2,λh=>hC.elim (λh'=>by simp_all) id⟩,⟨hi.1,hi.2,λh=>hI.elim (λh'=>by simp_all) id⟩,hl,hs,hj⟩
theorem Hm{n m r v:Int}(h:0<=r/\r<8)(hv:0<=v/\v<=65535):ke n m (1,r,0,0,v):=ins_mk (by decide) h (by decide) (by decide) hv (.inl (by decide)) (.inr rfl) (.inr rfl) (.inl (by decide)) (by omega) (by omega) (λh=>absurd h (by decide))
theorem Ju{n m r v:Int}(h:0<=r/\r<8)(hv:0<=v/\v<8):ke n m (2,r,v,0,0):=ins_mk (by decide) h hv (by decide) (by decide) (.inl (by decide)) (.inl (by decide)) (.inr rfl) (.inr rfl) (by omega) (by omega) (λh=>absurd h (by decide))
theorem A5{n m v:Int}(hv:0<=v/\v<=15):ke n m (23,0,0,0,v):=ins_mk (by decide) (by decide) (by decide) (by decide) (by omega) (.inr rfl) (.inr rfl) (.inr rfl) (.inl (by decide)) (by omega) (by omega) (λh=>absurd h (by decide))
theorem Jy{n m r v:Int}(h:0<=r/\r<8)(hv:0<=v/\v<n)(hn:n<=4):ke n m (15,r,0,0,v):=ins_mk (by decide) h (by decide) (by decide) (by omega) (.inl (by decide)) (.inr rfl) (.inr rfl) (.inl (by decide)) (by omega) (by omega) (λh=>absurd h (by decide))
theorem M4{n m o a b v:Int}(ho:o=16\/o=17)(h:0<=a/\a<8)(hb:0<=b/\b<8)(hv:0<=v/\v<=65535):ke n m (o,a,b,0,v):=by rcases ho with rfl|rfl;all_goals exact ins_mk (by decide) h hb (by decide) hv (.inl (by decide)) (.inl (by decide)) (.inr rfl) (.inl (by decide)) (by omega) (by omega) (λh=>absurd h (by decide))
theorem Jq{n m o a b c:Int}(ho:3<=o/\o<=14)(h:0<=a/\a<8)(hb:0<=b/\b<8)(hc:0<=c/\c<8):ke n m (o,a,b,c,0):=ins_mk (by omega) h hb hc (by decide) (.inl (by unfold tE;simp;omega)) (.inl (by unfold tD;simp;omega)) (.inl (by unfold tC;simp;omega)) (.inr rfl) (by omega) (by omega) (λh=>by unfold nL at h;simp at h;omega)
theorem Tf{n m v:Int}(hv:0<=v/\v<=65535)(hm:v<m):ke n m (18,0,0,0,v):=ins_mk (by decide) (by decide) (by decide) (by decide) hv (.inr rfl) (.inr rfl) (.inr rfl) (.inl (by decide)) (by omega) (by omega) (λ_=>hm)
theorem ST{n m:Int}:ke n m (24,0,0,0,0):=ins_mk (by decide) (by decide) (by decide) (by decide) (by decide) (.inr rfl) (.inr rfl) (.inr rfl) (.inr rfl) (by omega) (by omega) (λh=>absurd h (by decide))
theorem ke.mono{n m m':Int}{i:DIn}(h:ke n m i)(hm:m<=m'):ke n m' i:=⟨h.op,h.a,h.b,h.c,h.imm,h.lea,h.sys,λhj=>by have:=h.jmp hj;omega⟩
theorem JJ{n m a v:Int}(h:0<=a/\a<8)(hv:0<=v/\v<=65535)(hm:v<m):ke n m (20,a,0,0,v):=ins_mk (by decide) h (by decide) (by decide) hv (.inl (by decide)) (.inr rfl) (.inr rfl) (.inl (by decide)) (by omega) (by omega) (λ_=>hm)
theorem QT{n XB k:Int}{l:M_}(h:DOk l k)(hn:1<=n/\n<=4)(hm:1<=XB/\XB<=100):Ok (qM n XB l k) λr=>∃o a b c i k',r=(o,a,b,c,i,l,k',())/\ke n XB (o,a,b,c,i)/\DOk l k':=by
 unfold qM;refine gI (by assumption) (by omega) (by omega) λv0 k0 a0 b0 d0=>?_;try dsimp only
 rw[I7 (by omega) (by omega)];simp only[oBS];refine Ok.bind (P:=λr=>∃x k',r=(n,XB,l,k',0,0,0,0,0,v0,x,0,0,0,tE v0,tD v0,tC v0,tB v0,())/\0<=x/\x<8/\(tE v0=false->x=0)/\DOk l k') ?_ ?_
 ·refine f8 (λhc=>?_) λhc=>fO ⟨_,_,rfl,by omega,by omega,λ_=>rfl,d0⟩
  refine gI (by assumption) (by omega) (by omega) λv1 k1 a1 b1 d1=>?_;try dsimp only
  exact fO ⟨_,_,rfl,a1,b1,(λhh=>by rw[hc]at hh;cases hh),d1⟩
 rintro _ ⟨xa,k1,rfl,Xi,YF,XY,d1⟩;dsimp only;refine Ok.bind (P:=λr=>∃x k',r=(n,XB,l,k',0,0,0,0,0,v0,xa,x,0,0,tE v0,tD v0,tC v0,tB v0,())/\0<=x/\x<8/\(tD v0=false->x=0)/\DOk l k') ?_ ?_
 ·refine f8 (λhc=>?_) λhc=>fO ⟨_,_,rfl,by omega,by omega,λ_=>rfl,d1⟩
  refine gI (by assumption) (by omega) (by omega) λv2 k2 a2 b2 d2=>?_;try dsimp only
  exact fO ⟨_,_,rfl,a2,b2,(λhh=>by rw[hc]at hh;cases hh),d2⟩
 rintro _ ⟨xb,k2,rfl,hb0,ZI,ZS,d2⟩;dsimp only;refine Ok.bind (P:=λr=>∃x k',r=(n,XB,l,k',0,0,0,0,0,v0,xa,xb,x,0,tE v0,tD v0,tC v0,tB v0,())/\0<=x/\x<8/\(tC v0=false->x=0)/\DOk l k') ?_ ?_
 ·refine f8 (λhc=>?_) λhc=>fO ⟨_,_,rfl,by omega,by omega,λ_=>rfl,d2⟩
  refine gI (by assumption) (by omega) (by omega) λv3 k3 a3 b3 d3=>?_;try dsimp only
  exact fO ⟨_,_,rfl,a3,b3,(λhh=>by rw[hc]at hh;cases hh),d3⟩
 rintro _ ⟨xc,k3,rfl,hc0,ZM,ZJ,d3⟩;dsimp only;rw[wB];simp only[oBS];refine Ok.bind (P:=λr=>∃x k',r=(l,k',0,0,0,0,0,v0,xa,xb,xc,x,())/\0<=x/\x<=65535/\(tB v0=false->x=0)/\(v0=15->x<n)/\(v0=23->x<=15)/\(nL v0=true->x<XB)/\DOk l k') ?_ ?_
 ·refine f8 (λhj=>?_) λhj=>?_
  ·refine gI (by assumption) (by omega) (by omega) λv4 k4 a4 b4 d4=>?_;try dsimp only
   have hne:v0≠15/\v0≠23:=by constructor<;>(rintro rfl;exact absurd hj (by decide))
   exact fO ⟨_,_,rfl,a4,by omega,(λhh=>by
    have:tB v0=true:=by unfold nL at hj;unfold tB;simp at hj⊢;omega
    rw[this]at hh;cases hh),by omega,by omega,λ_=>b4,d4⟩
  ·refine fQ (λhc5=>?_) λhc5=>?_
   ·subst hc5
    refine gI (by assumption) (by omega) (by omega) λv4 k4 a4 b4 d4=>?_;try dsimp only
    exact fO ⟨_,_,rfl,a4,by omega,λhh=>absurd hh (by decide),by omega,by omega,λhh=>absurd hh (by decide),d4⟩
   ·refine fQ (λhc6=>?_) λhc6=>?_
    ·subst hc6
     refine gI (by assumption) (by omega) (by omega) λv4 k4 a4 b4 d4=>?_;try dsimp only
     exact fO ⟨_,_,rfl,a4,by omega,λhh=>absurd hh (by decide),by omega,by omega,λhh=>absurd hh (by decide),d4⟩
    ·refine f8 (λhu=>?_) λhu=>?_
     ·refine Kq (by assumption) λv4 k4 a4 b4 d4=>?_;try dsimp only
      (simp (disch:=omega) only [gw,gi,gc,ge])
      exact fO ⟨_,_,rfl,a4,by omega,(λhh=>by rw[hu]at hh;cases hh),by omega,by omega,(λhh=>by rw[show nL v0=false from hj]at hh;cases hh),d4⟩
     ·exact fO ⟨_,_,rfl,by omega,by omega,λ_=>rfl,by omega,by omega,(λhh=>by rw[show nL v0=false from hj]at hh;cases hh),d3⟩
 rintro _ ⟨xi,k4,rfl,hi0,Xr,Xs,hi3,hi4,hi5,d4⟩;exact fO ⟨_,_,_,_,_,_,rfl,⟨⟨a0,by dsimp only;omega⟩,⟨Xi,YF,XY⟩,⟨hb0,ZI,ZS⟩,⟨hc0,ZM,ZJ⟩,⟨hi0,Xr,Xs⟩,hi3,hi4,hi5⟩,d4⟩
theorem pK{α β:Type}{l:List α}{i:Nat}{f:α->Option β}{Q:β->Prop}(P:α->Prop)(h:i<l.length)(hP:∀x∈l,P x)(h2:∀a,P a->Ok (f a) Q):Ok ((fR l i).bind f) Q:=gP h λa ha=>h2 a (hP a (fW ha))
theorem gu{α:Type}{P:α->Prop}:∀x∈([]:List α),P x:=λ_ h=>by cases h
theorem all_cons{α:Type}{P:α->Prop}{a:α}{l:List α}(h:P a)(h2:∀x∈l,P x):∀x∈a::l,P x:=by simp_all
theorem Ut(a b:Int):kR a b=some (1,a,0,0,b,()):=rfl
theorem Up(a b:Int):o9 a b=some (2,a,b,0,0,()):=rfl
theorem RN(a:Int):jN a=some (23,0,0,0,a,()):=rfl
theorem VX{x:Int}(h:1<=x):1<=mmR false 5 x/\mmR false 5 x<=5:=by unfold mmR;simp;omega
def Lq(n at_:Int)(l:M_)(r:F_×M_×Int×Unit):Prop:=∃xs k',r=(xs,l,k',())/\1<=xs.length/\xs.length<=6/\(∀i∈xs,ke n (at_+xs.length) i)/\DOk l k'
theorem EA{n at_:Int}{l:M_}{xs:F_}{k:Int}(h1:1<=xs.length/\xs.length<=6)(h2:∀i∈xs,ke n (at_+xs.length) i)(h3:DOk l k):Ok (some (xs,l,k,())) (Lq n at_ l):=fO ⟨xs,k,rfl,h1.1,h1.2,h2,h3⟩
theorem Rd{s l:M_}{at_ k:Int}(h:DOk l k)(hs:AC s)(ha:0<=at_/\at_<=99):Ok (sj s (at_+1) at_ l k) (Lq s.length at_ l):=by
 obtain⟨hs1,WV,hsz⟩:=hs
 have hn:1<=(s.length:Int)/\(s.length:Int)<=4:=by omega
 unfold sj;delta fY;simp only[Ut,Up,RN,oBS]
 refine gI (by assumption) (by omega) (by omega) λvr kr ar br dr=>?_;try dsimp only
 refine gR λj hj=>?_;refine pK (λa=>1<=a/\a<=32) (by omega) hsz λz hz=>?_
 (simp (disch:=omega) only [gw,gi,gc,ge])
 have h5:=VX (x:=z+1) (by omega);generalize mmR false 5 (z+1)=mm at h5
 refine gI (by assumption) (by omega) (by omega) λvu ku au bu du=>?_;try dsimp only
 refine gI (by assumption) (by omega) (by omega) λvw kw aw bw dw=>?_;try dsimp only
 iterate 19
  refine fQ (λhcc=>?_) λhcc=>?_
  ·repeat (first|(simp (disch:=omega) only [gw,gi,gc,ge])|(with_reducible refine gI (by assumption) (by omega) (by omega) (λv k a b d=>?_);try dsimp only)|(with_reducible refine Kq (by assumption) (λv k a b d=>?_);try dsimp only)|(with_reducible refine jm (by omega) (λj hj=>?_);try dsimp only)|((with_reducible first|refine pK (λa=>1<=a/\a<=32) (by omega) (by assumption) (λe he=>?_)|refine pK (λa=>3<=a/\a<=14) (by simp only[oLC,oLN];omega) (by(first|exact(all_cons (by omega) (all_cons (by omega) gu))|exact(all_cons (by omega) (all_cons (by omega) (all_cons (by omega) gu)))|exact(all_cons (by omega) (all_cons (by omega) (all_cons (by omega) (all_cons (by omega) (all_cons (by omega) (all_cons (by omega) (all_cons (by omega) (all_cons (by omega) gu)))))))))) (λe he=>?_)|refine pK (λa=>0<=a/\a<=15) (by simp only[oLC,oLN];omega) (by(first|exact(all_cons (by omega) (all_cons (by omega) gu))|exact(all_cons (by omega) (all_cons (by omega) (all_cons (by omega) gu)))|exact(all_cons (by omega) (all_cons (by omega) (all_cons (by omega) (all_cons (by omega) (all_cons (by omega) (all_cons (by omega) (all_cons (by omega) (all_cons (by omega) gu)))))))))) (λe he=>?_)|refine pK (λa=>1<=a/\a<=100) (by simp only[oLC,oLN];omega) (by(first|exact(all_cons (by omega) (all_cons (by omega) gu))|exact(all_cons (by omega) (all_cons (by omega) (all_cons (by omega) gu)))|exact(all_cons (by omega) (all_cons (by omega) (all_cons (by omega) (all_cons (by omega) (all_cons (by omega) (all_cons (by omega) (all_cons (by omega) (all_cons (by omega) gu)))))))))) (λe he=>?_));try dsimp only)|(with_reducible refine fP (f7 (by first|omega|simp)) ?_;try dsimp only)|(refine pK (λ(a:F_)=>(1<=a.length/\a.length<=6)/\∀i∈a,ke s.length (at_+a.length) i) (by simp only[oLC,oLN];omega) (all_cons ⟨by simp,by((repeat' (first|exact gu|refine all_cons ?_ ?_|exact Hm (by omega) (by omega)|exact Ju (by omega) (by omega)|exact A5 (by omega)|exact Jy (by omega) (by omega) (by omega)|exact M4 (by omega) (by omega) (by omega) (by omega)|exact Jq (by omega) (by omega) (by omega) (by omega)|exact JJ (by omega) (by omega) (by simp only[oLC,oLN];omega)));done)⟩ (all_cons ⟨by simp,by((repeat' (first|exact gu|refine all_cons ?_ ?_|exact Hm (by omega) (by omega)|exact Ju (by omega) (by omega)|exact A5 (by omega)|exact Jy (by omega) (by omega) (by omega)|exact M4 (by omega) (by omega) (by omega) (by omega)|exact Jq (by omega) (by omega) (by omega) (by omega)|exact JJ (by omega) (by omega) (by simp only[oLC,oLN];omega)));done)⟩ gu)) (λe he=>?_);try dsimp only))
   first
    |exact EA he.1 he.2 (by assumption)
    |(refine EA (by simp) ?_ (by assumption);try simp only[List.append_eq,List.cons_append,oNA]
      ((repeat' (first|exact gu|refine all_cons ?_ ?_|exact Hm (by omega) (by omega)|exact Ju (by omega) (by omega)|exact A5 (by omega)|exact Jy (by omega) (by omega) (by omega)|exact M4 (by omega) (by omega) (by omega) (by omega)|exact Jq (by omega) (by omega) (by omega) (by omega)|exact JJ (by omega) (by omega) (by simp only[oLC,oLN];omega)));done))
 refine(QT (by assumption) hn (by omega)).bind ?_;rintro _ ⟨o,a,b,c,i,k',rfl,hi,hd⟩;exact EA (by simp) (all_cons (hi.mono (by simp)) gu) hd
theorem kT{α:Type}{P:α->Prop}{l m:List α}(h:∀x∈l,P x)(h2:∀x∈m,P x):∀x∈List.append l m,P x:=λx hx=>(oMA.1 (show x∈l++m from hx)).elim (h x) (h2 x)
theorem ig{α:Type}(l m:List α):(List.append l m).length=l.length+m.length:=oLA
theorem rW{l:M_}{k n:Int}(h:DOk l k)(hn:0<=n/\n<=1000):Ok (iR n l k) λr=>∃ws k',r=(ws,l,k',())/\(ws.length:Int)<=n/\(∀w∈ws,W16 w)/\DOk l k':=by
 unfold iR
 (simp (disch:=omega) only [gw,gi,gc,ge])
 refine gI (by assumption) (by omega) (by omega) λv0 k0 a0 b0 d0=>?_;try dsimp only
 refine gL (P:=λ((c,l',k',s,_):Int×M_×Int×M_×Unit)=>l'=l/\DOk l k'/\0<=c/\c+s.length<=n/\∀x∈s,W16 x)
  (R:=λ((_,_,l',k',s,_):Int×Bool×M_×Int×M_×Unit)=>l'=l/\DOk l k'/\(s.length:Int)<=n/\∀x∈s,W16 x) (m:=λs=>s.1.toNat) ⟨rfl,d0,a0,by simp;omega,gu⟩ (by unfold NN;dsimp only;omega) ?_ ?_
 ·rintro⟨c,l',k3,s,_⟩ ⟨rfl,XF,hc0,hcs,hs⟩;unfold tU;dsimp only;refine fQ (λhcc=>?_) λhcc=>?_
  ·refine Kq (by assumption) λv1 k1 a1 b1 d1=>?_;try dsimp only
   refine fP (f7 (by simp;omega)) ?_
   (simp (disch:=omega) only [gw,gi,gc,ge])
   exact fO ⟨⟨rfl,by omega,by omega,by rw[ig];simp;omega,kT hs (all_cons ⟨a1,b1⟩ gu)⟩,by omega⟩
  ·exact fO ⟨rfl,XF,by dsimp only;omega,hs⟩
 rintro⟨a,b,l',k3,s,_⟩ ⟨rfl,XF,hs,hw⟩;exact fO ⟨_,_,rfl,hs,hw,XF⟩
structure kE (code:F_)(s:M_)(d:j_):Prop where
 sz:AC s
 len:d.length=s.length
 fit:∀(j:Nat) x n,d[j]?=some x->s[j]?=some n->(x.length:Int)<=n
 num:∀x∈d,∀w∈x,W16 w
 clen:1<=code.length/\code.length<=64
 ins:∀i∈code,ke s.length code.length i
theorem K9{code:F_}{s:M_}{d:j_}{l:M_}{k:Int}(hp:kE code s d):Ok (f9 jz NN ((code.length:Int),0,l,k,(),(),(),code,s,d,())) λr=>∃a b c,r=(a,b,c,l,k,(),(),(),code,s,d,()):=by
 have:=gL (f:=jz) (n:=NN) (Q:=λr=>∃a b c,r=(a,b,c,l,k,(),(),(),code,s,d,())) (s:=((code.length:Int),0,l,k,(),(),(),code,s,d,()))
  (P:=λs'=>∃i:Int,s'=((code.length:Int),i,l,k,(),(),(),code,s,d,())/\0<=i/\i<=code.length) (R:=λr=>∃a b c,r=(a,b,c,l,k,(),(),(),code,s,d,())) (m:=λs=>(s.1-s.2.1).toNat) ⟨0,rfl,by omega,by omega⟩ (by unfold NN;dsimp only;have:=hp.clen;omega) ?_ (λt ht=>fO ht)
 simp_all
 ·rintro _ ⟨i,rfl,hi0,Xr⟩;unfold jz;dsimp only;have hc:=hp.clen;refine fQ (λhcc=>?_) λhcc=>?_
  ·refine Ok.bind (P:=λr=>r=((code.length:Int),i,l,k,(),(),(),code,s,d,())) ?_ ?_
   ·refine jm (by omega) λj hj=>?_;try dsimp only
    refine fX λx hx=>?_;have hin:=hp.ins x (fW hx);rw[wB];refine f8 (λhjp=>?_) λ_=>fO rfl;refine gR λj2 hj2=>?_;refine fX λy hy=>?_
    have hjj:j2=j:=by omega
    subst hjj;rw[hx]at hy
    injection hy with hy
    subst hy;have:=hin.jmp hjp;refine f8 (λhcc=>?_) (λhcc=>?_)
    ·have h9:(x.2.2.2.2:Int)>=(code.length:Int):=of_decide_eq_true hcc;omega
    ·exact fO rfl
   ·rintro _ rfl;dsimp only
    (simp (disch:=omega) only [gw,gi,gc,ge])
    exact fO ⟨⟨i+1,rfl,by omega,by omega⟩,by dsimp only;omega⟩
  ·exact fO ⟨_,_,_,rfl⟩
theorem LY{l:M_}{k:Int}(h:DOk l k):Ok (n6 l k) λr=>∃code s d k',r=(code,s,d,l,k',())/\kE code s d/\DOk l k':=by
 unfold n6;refine(PR h).bind ?_;rintro _ ⟨s,k1,rfl,hs,hd⟩;obtain⟨hs1,WV,hsz⟩:=id hs;dsimp only;delta fY;try dsimp only
 refine gL (P:=λs'=>∃k' d,s'=((s.length:Int),(d.length:Int),l,k',(),(),(),(),s,d,())/\DOk l k'/\d.length<=s.length/\(∀(j:Nat) x n,d[j]?=some x->s[j]?=some n->(x.length:Int)<=n)/\∀x∈d,∀w∈x,W16 w)
  (R:=λr=>∃a b c k' d,r=(a,b,c,l,k',(),(),(),(),s,d,())/\DOk l k'/\d.length=s.length/\(∀(j:Nat) x n,d[j]?=some x->s[j]?=some n->(x.length:Int)<=n)/\∀x∈d,∀w∈x,W16 w)
  (m:=λs=>(s.1-s.2.1).toNat) ⟨k1,[],rfl,hd,by simp,by simp,gu⟩ (by unfold NN;dsimp only;omega) ?_ ?_
 ·rintro _ ⟨k',d,rfl,Yw,hdl,Z2,W9⟩;unfold rz;dsimp only;refine fQ (λhcc=>?_) λhcc=>?_
  ·refine jm (by omega) λj hj=>?_;try dsimp only
   refine fX λx hx=>?_;refine fX λy hy=>?_
   have ZO:j=d.length:=by omega
   subst ZO;have WF:=hsz y (fW hy);refine(rW Yw ⟨by omega,by omega⟩).bind ?_;rintro _ ⟨ws,k2,rfl,hwl,hww,hd2⟩;dsimp only;refine fP (f7 (by simp;omega)) ?_
   (simp (disch:=omega) only [gw,gi,gc,ge])
   refine fO ⟨⟨k2,List.append d [ws],by rw[ig];simp,hd2,by rw[ig];simp;omega,?_,kT W9 (all_cons hww gu)⟩,by dsimp only;omega⟩;intro i x n hx hn;rw[show List.append d [ws]=d++[ws]from rfl,List.getElem?_append]at hx;split at hx
   ·exact Z2 i x n hx hn
   ·rename_i hge
    have:i-d.length=0:=by
     rcases Nat.eq_zero_or_pos (i-d.length)with h|h
     ·exact h
     ·rw[oGN (by simp;omega)]at hx;cases hx
    have hi:i=d.length:=by omega
    subst hi;simp at hx;subst hx;rw[hy]at hn
    injection hn with hn
    omega
  ·exact fO ⟨_,_,_,_,_,rfl,Yw,by omega,Z2,W9⟩
 rintro _ ⟨a,b,c,k2,d,rfl,hd2,hdl,Z2,W9⟩;dsimp only;refine gI (by assumption) (by omega) (by omega) λv0 k0 a0 b0 d0=>?_;try dsimp only
 (simp (disch:=omega) only [gw,gi,gc,ge])
 refine gL (P:=λs'=>∃i k' code,s'=(i,l,k',(),(),(),code,s,d,())/\0<=i/\i<=12/\DOk l k'/\code.length<=62/\∀i∈code,ke s.length code.length i)
  (R:=λr=>∃a b k' code,r=(a,b,l,k',(),(),(),code,s,d,())/\DOk l k'/\code.length<=62/\∀i∈code,ke s.length code.length i)
  (m:=λs=>s.1.toNat) ⟨_,_,[],rfl,by omega,by omega,d0,by simp,gu⟩ (by unfold NN;dsimp only;omega) ?_ ?_
 rintro _ ⟨i,k',code,rfl,hi0,Xr,Yw,Y6,X9⟩;unfold ry;dsimp only;refine fQ (λhcc=>?_) λhcc=>?_;refine Ok.bind (P:=λr=>∃k' code,r=(i,l,k',(),(),(),code,s,d,())/\DOk l k'/\code.length<=62/\∀i∈code,ke s.length code.length i) ?_ ?_
 ·(simp (disch:=omega) only [gw,gi,gc,ge])
  refine(Rd Yw hs ⟨by omega,by omega⟩).bind ?_;rintro _ ⟨xs,k3,rfl,Z0,hx6,hxs,XF⟩;dsimp only
  (simp (disch:=omega) only [gw,gi,gc,ge])
  refine fQ (λhcc=>?_) λhcc=>?_
  ·refine fP (f7 (by omega)) ?_;refine fO ⟨_,_,rfl,XF,by rw[ig];omega,?_⟩;rw[ig];exact kT (λi hi=>(X9 i hi).mono (by omega)) (λi hi=>(hxs i hi).mono (by omega))
  ·exact fO ⟨_,_,rfl,XF,Y6,X9⟩
 rintro _ ⟨k3,YS,rfl,XF,hcl2,WP⟩;dsimp only
 (simp (disch:=omega) only [gw,gi,gc,ge])
 exact fO ⟨⟨_,_,_,rfl,by omega,by omega,XF,hcl2,WP⟩,by dsimp only;omega⟩;exact fO ⟨_,_,_,_,rfl,Yw,Y6,X9⟩;rintro _ ⟨a,b,k3,code,rfl,XF,Y6,X9⟩;dsimp only;refine Ok.bind (P:=λr=>∃k' code,r=(l,k',(),(),(),code,s,d,())/\DOk l k'/\code.length<=63/\∀i∈code,ke s.length (code.length+1) i) ?_ ?_
 ·refine gI (by assumption) (by omega) (by omega) λv1 k1 a1 b1 d1=>?_;try dsimp only
  refine fQ (λhcc=>?_) λhcc=>?_
  ·(simp (disch:=omega) only [gw,gi,gc,ge])
   refine gI (by assumption) (by omega) (by omega) λv2 k2 a2 b2 d2=>?_;try dsimp only
   refine fP (f7 (by simp;omega)) ?_;refine fO ⟨_,_,rfl,d2,by rw[ig];simp;omega,?_⟩;rw[ig];exact kT (λi hi=>(X9 i hi).mono (by simp;omega)) (all_cons (Tf (by omega) (by simp;omega)) gu)
  ·refine fQ (λhcc=>?_) λhcc=>?_
   ·refine fP (f7 (by simp;omega)) ?_;refine fO ⟨_,_,rfl,d1,by rw[ig];simp;omega,?_⟩;rw[ig];exact kT (λi hi=>(X9 i hi).mono (by simp;omega)) (all_cons ST gu)
   ·exact fO ⟨_,_,rfl,d1,by omega,λi hi=>(X9 i hi).mono (by omega)⟩
 rintro _ ⟨k4,YS,rfl,hd4,hcl2,WP⟩;dsimp only;refine gI (by assumption) (by omega) (by omega) λv3 k3 a3 b3 d3=>?_;try dsimp only
 simp only[Ut,RN,oBS];refine fP (f7 (by simp;omega)) ?_;simp only[ig];refine f8 (λhc=>?_) λ_=>?_;have ZK:∀i∈List.append YS [(1,0,0,0,v3),(23,0,0,0,0)],ke s.length (YS.length+1) i:=kT WP (all_cons (Hm (by omega) (by omega)) (all_cons (A5 (by omega)) gu));simp only[oDE]at hc;have hcn:(YS.length:Int)+2>64:=by have:((YS.length + [((1:Int),(0:Int),(0:Int),(0:Int),v3),(23,0,0,0,0)].length:Nat):Int)>64:=hc;simpa using this
 have h63:YS.length=63:=by omega
 refine fP (by rw[h63];rfl) ?_;have hlen:(nv (List.append YS [((1:Int),(0:Int),(0:Int),(0:Int),v3),(23,0,0,0,0)]) 0 (Nat.sub 64 0)).length=64:=by unfold nv;rw[oLT,List.drop_zero,ig,h63];rfl
 have hp:kE (nv (List.append YS [((1:Int),(0:Int),(0:Int),(0:Int),v3),(23,0,0,0,0)]) 0 (Nat.sub 64 0)) s d:=by refine⟨hs,hdl,Z2,W9,by rw[hlen];decide,λi hi=>?_⟩;rw[hlen];refine(ZK i ?_).mono (by omega);unfold nv at hi;exact List.mem_of_mem_drop (List.mem_of_mem_take hi)
 refine(K9 (l:=l) (k:=_) hp).bind ?_;rintro _ ⟨a,b,c,rfl⟩;exact fO ⟨_,_,_,_,rfl,hp,d3⟩;have hp:kE (List.append YS [(1,0,0,0,v3),(23,0,0,0,0)]) s d:=by refine⟨hs,hdl,Z2,W9,?_,?_⟩;rw[ig];rename_i hc;have hcn:¬((YS.length + [((1:Int),(0:Int),(0:Int),(0:Int),v3),(23,0,0,0,0)].length:Nat):Int)>64:=of_decide_eq_false hc;simp only[oLC,oLN]at hcn⊢;omega;rw[ig];exact kT (λi hi=>(WP i hi).mono (by simp)) (all_cons (Hm (by omega) (by omega)) (all_cons (A5 (by omega)) gu))
 have hf:=K9 (l:=l) (k:=k3) hp;rw[ig]at hf;refine hf.bind ?_;rintro _ ⟨a,b,c,rfl⟩;exact fO ⟨_,_,_,_,rfl,hp,d3⟩
theorem Lm{P:Int->Prop}{s:M_}{i:Nat}{x:Int}(h:∀(j:Nat) y,j<i->s[j]?=some y->P y)(hx:s[i]?=some x)(hp:P x):∀(j:Nat) y,j<i+1->s[j]?=some y->P y:=by grind
theorem MY{s:M_}(hl:s.length<=1000):Ok (iO s) λr=>r.1=true↔AC s:=by
 unfold iO;delta fY;try dsimp only
 obtain⟨t,e,ht⟩:=gW (f:=oJ) (n:=NN) (s:=(s,s,(s.length:Int),0,())) (P:=λs'=>∃i:Nat,s'=(s,s,(s.length:Int),(i:Int),())/\i<=s.length/\∀(j:Nat) y,j<i->s[j]?=some y->1<=y/\y<=32) (R:=λr=>(r=.inl (false,())/\∃y∈s,¬(1<=y/\y<=32))\/((∃a b c d,r=.inr (s,a,b,c,d,()))/\∀y∈s,1<=y/\y<=32)) (m:=λs'=>(s'.2.2.1-s'.2.2.2.1).toNat) ⟨0,rfl,by omega,λj y hj=>by omega⟩ (by unfold NN;dsimp only;omega) (by
  rintro _ ⟨i,rfl,hi,ZK⟩;unfold oJ;refine fQ (λhcc=>?_) λhcc=>?_;rw[fV];refine fX λx hx=>?_;refine fQ (λXE=>?_) λXE=>?_;exact fO (.inl ⟨rfl,x,fW hx,by omega⟩);refine fQ (λXo=>?_) λXo=>?_;exact fO (.inl ⟨rfl,x,fW hx,by omega⟩)
  ·(simp (disch:=omega) only [gw,gi,gc,ge])
   exact fO ⟨⟨i+1,rfl,by omega,Lm ZK hx ⟨by omega,by omega⟩⟩,by dsimp only;omega⟩
  refine fO (.inr ⟨⟨_,_,_,_,rfl⟩,λy hy=>?_⟩);have ⟨j,hj⟩:=List.getElem?_of_mem hy;exact ZK j y (by have:=(oGS hj).1;omega) hj)
 rw[e];rcases ht with⟨rfl,y,hy,hn⟩|⟨⟨a,b,c,d,rfl⟩,ZK⟩;exact fO ⟨λh=>(by cases h),λh=>absurd (h.2.2 y hy) hn⟩;dsimp only;refine fQ (λhcc=>?_) λhcc=>?_;exact fO ⟨λh=>⟨by omega,(by have:=of_decide_eq_true h;omega),ZK⟩,λh=>oDT (by have:=h.2.1;omega)⟩;exact fO ⟨λh=>(by cases h),λh=>by have:=h.1;omega⟩
abbrev VS(xs:M_):Prop:=AC xs
theorem O2{l:M_}{k:Nat}(h:k<l.length):l.getD k 0=l[k]:=by simp[List.getD,h]
def wM(bs ss:M_)(i:Nat):Prop:=0<=bs.getD i 0/\bs.getD i 0+ss.getD i 0<=512/\∀k,k<i->¬(bs.getD i 0<=bs.getD k 0+ss.getD k 0/\bs.getD k 0<=bs.getD i 0+ss.getD i 0)
def LV(bs ss:M_):Prop:=VS ss/\bs.length=ss.length/\∀i,i<bs.length->wM bs ss i
theorem VS.at_{ss:M_}(h:VS ss){i:Nat}(hi:i<ss.length):1<=ss[i]/\ss[i]<=32:=h.2.2 _ (oGX hi)
def vC(ss:M_)(seed:Int):Nat->M_×Int|0=>(List.replicate ss.length 0,1+seed/ss.length%50)|k+1=>((vC ss seed k).1.set (((k+seed)%ss.length).toNat) (vC ss seed k).2,(vC ss seed k).2+(ss.getD ((k+seed)%ss.length).toNat 0+1+seed/(50*ss.length)%40))
def mkB(ss:M_)(seed:Int):M_:=(vC ss seed ss.length).1
theorem QI(ss:M_)(seed:Int)(k:Nat):(vC ss seed k).1.length=ss.length:=by induction k with|zero=>simp[vC]|succ k ih=>simp[vC,ih]
theorem VS.getD{ss:M_}(h:VS ss){i:Nat}(hi:i<ss.length):1<=ss.getD i 0/\ss.getD i 0<=32:=by rw[O2 hi];exact h.at_ hi
theorem RR{n k:Nat}{seed:Int}(hn:1<=n):0<=((k:Int)+seed)%n/\((k:Int)+seed)%n<n:=⟨Int.emod_nonneg _ (by omega),Int.emod_lt_of_pos _ (by omega)⟩
theorem S8{ss:M_}{seed:Int}(h:VS ss)(hs:0<=seed)(k:Nat):1<=(vC ss seed k).2/\(vC ss seed k).2<=50+72*k:=by induction k with|zero=>simp[vC];omega|succ k ih=>simp only[vC];have hr:=RR (k:=k) (seed:=seed) h.1;have:=h.getD (i:=(((k:Int)+seed)%ss.length).toNat) (by omega);omega
theorem OA{ss:M_}(h0:1<=ss.length)(h1:ss.length<=4):(∃a,ss=[a])\/(∃a b,ss=[a,b])\/(∃a b c,ss=[a,b,c])\/(∃a b c d,ss=[a,b,c,d]):=by match ss,h0,h1 with| [a],_,_=>simp_all| [a,b],_,_=>simp_all| [a,b,c],_,_=>simp_all| [a,b,c,d],_,_=>simp_all
theorem AG{P:Nat->Prop}(h0:P 0):∀i,i<1->P i:=by simp_all
theorem Ev{P:Nat->Prop}(h0:P 0)(h1:P 1):∀i,i<2->P i:=by grind
theorem KL{P:Nat->Prop}(h0:P 0)(h1:P 1)(h2:P 2):∀i,i<3->P i:=by grind
theorem Qj{P:Nat->Prop}(h0:P 0)(h1:P 1)(h2:P 2)(h3:P 3):∀i,i<4->P i:=by grind
def PD(b s:Int):Prop:=0<=b/\b+s<=512
def i6(b s b' s':Int):Prop:=¬(b<=b'+s'/\b'<=b+s)
theorem LV1{a x:Int}(hv:VS [a])(h:PD x a):LV [x] [a]:=⟨hv,rfl,AG ⟨h.1,h.2,λk hk=>by omega⟩⟩
theorem LV2{a b x y:Int}(hv:VS [a,b])(h:PD x a)(h':PD y b)(h1:i6 y b x a):LV [x,y] [a,b]:=⟨hv,rfl,Ev ⟨h.1,h.2,λk hk=>by omega⟩ ⟨h'.1,h'.2,AG h1⟩⟩
theorem LV3{a b c x y z:Int}(hv:VS [a,b,c])(h:PD x a)(h':PD y b)(h'':PD z c)(h1:i6 y b x a)(h2:i6 z c x a)(h3:i6 z c y b):LV [x,y,z] [a,b,c]:=⟨hv,rfl,KL ⟨h.1,h.2,λk hk=>by omega⟩ ⟨h'.1,h'.2,AG h1⟩ ⟨h''.1,h''.2,Ev h2 h3⟩⟩
theorem LV4{a b c d x y z u:Int}(hv:VS [a,b,c,d])(h:PD x a)(h':PD y b)(h'':PD z c)(h''':PD u d)(h1:i6 y b x a)(h2:i6 z c x a)(h3:i6 z c y b)(h4:i6 u d x a)(h5:i6 u d y b)(h6:i6 u d z c):LV [x,y,z,u] [a,b,c,d]:=⟨hv,rfl,Qj ⟨h.1,h.2,λk hk=>by omega⟩ ⟨h'.1,h'.2,AG h1⟩ ⟨h''.1,h''.2,Ev h2 h3⟩ ⟨h'''.1,h'''.2,KL h4 h5 h6⟩⟩
theorem U3{ss:M_}(hv:VS ss){seed:Int}(hs:0<=seed):LV (mkB ss seed) ss:=by
 have YQ:=hv;rcases OA hv.1 hv.2.1 with⟨a,rfl⟩|⟨a,b,rfl⟩|⟨a,b,c,rfl⟩|⟨a,b,c,d,rfl⟩;obtain⟨_,_,hx⟩:=hv;have ha:=hx a (by simp);have e0:(((0:Nat):Int)+seed)%1=0:=by omega
 have hB:mkB [a] seed=[1+seed/1%50]:=by simp[mkB,vC,List.replicate]
 rw[hB];exact LV1 YQ ⟨by omega,by omega⟩;obtain⟨_,_,hx⟩:=hv;have ha:=hx a (by simp);have hb:=hx b (by simp);rcases(show seed%2=0\/seed%2=1 by omega)with ht|ht;have e1:(1+seed)%2=1:=by omega
 simp only[mkB,vC,oLC,oLN,List.replicate];simp[ht,e1];exact LV2 YQ ⟨by omega,by omega⟩ ⟨by omega,by omega⟩ (by unfold i6;omega);have e1:(1+seed)%2=0:=by omega
 simp only[mkB,vC,oLC,oLN,List.replicate];simp[ht,e1];exact LV2 YQ ⟨by omega,by omega⟩ ⟨by omega,by omega⟩ (by unfold i6;omega);obtain⟨_,_,hx⟩:=hv;have ha:=hx a (by simp);have hb:=hx b (by simp);have hc:=hx c (by simp);rcases(show seed%3=0\/seed%3=1\/seed%3=2 by omega)with ht|ht|ht;have e1:(1+seed)%3=1:=by omega
 have e2:(2+seed)%3=2:=by omega
 simp only[mkB,vC,oLC,oLN,List.replicate];simp[ht,e1,e2];exact LV3 YQ ⟨by omega,by omega⟩ ⟨by omega,by omega⟩ ⟨by omega,by omega⟩ (by unfold i6;omega) (by unfold i6;omega) (by unfold i6;omega);have e1:(1+seed)%3=2:=by omega
 have e2:(2+seed)%3=0:=by omega
 simp only[mkB,vC,oLC,oLN,List.replicate];simp[ht,e1,e2];exact LV3 YQ ⟨by omega,by omega⟩ ⟨by omega,by omega⟩ ⟨by omega,by omega⟩ (by unfold i6;omega) (by unfold i6;omega) (by unfold i6;omega);have e1:(1+seed)%3=0:=by omega
 have e2:(2+seed)%3=1:=by omega
 simp only[mkB,vC,oLC,oLN,List.replicate];simp[ht,e1,e2];exact LV3 YQ ⟨by omega,by omega⟩ ⟨by omega,by omega⟩ ⟨by omega,by omega⟩ (by unfold i6;omega) (by unfold i6;omega) (by unfold i6;omega);obtain⟨_,_,hx⟩:=hv;have ha:=hx a (by simp);have hb:=hx b (by simp);have hc:=hx c (by simp);have hd:=hx d (by simp);have hq:∀q g:Int,q=1+seed/4%50->g=seed/(50*4)%40->1<=q/\q<=50/\0<=g/\g<40:=λq g e e'=>by subst e;subst e';omega
 rcases(show seed%4=0\/seed%4=1\/seed%4=2\/seed%4=3 by omega)with ht|ht|ht|ht;have e1:(1+seed)%4=1:=by omega
 have e2:(2+seed)%4=2:=by omega
 have e3:(3+seed)%4=3:=by omega
 simp only[mkB,vC,oLC,oLN,List.replicate];simp[ht,e1,e2,e3];exact LV4 YQ ⟨by omega,by omega⟩ ⟨by omega,by omega⟩ ⟨by omega,by omega⟩ ⟨by omega,by omega⟩ (by unfold i6;omega) (by unfold i6;omega) (by unfold i6;omega) (by unfold i6;omega) (by unfold i6;omega) (by unfold i6;omega);have e1:(1+seed)%4=2:=by omega
 have e2:(2+seed)%4=3:=by omega
 have e3:(3+seed)%4=0:=by omega
 simp only[mkB,vC,oLC,oLN,List.replicate];simp[ht,e1,e2,e3];exact LV4 YQ ⟨by omega,by omega⟩ ⟨by omega,by omega⟩ ⟨by omega,by omega⟩ ⟨by omega,by omega⟩ (by unfold i6;omega) (by unfold i6;omega) (by unfold i6;omega) (by unfold i6;omega) (by unfold i6;omega) (by unfold i6;omega);have e1:(1+seed)%4=3:=by omega
 have e2:(2+seed)%4=0:=by omega
 have e3:(3+seed)%4=1:=by omega
 simp only[mkB,vC,oLC,oLN,List.replicate];simp[ht,e1,e2,e3];exact LV4 YQ ⟨by omega,by omega⟩ ⟨by omega,by omega⟩ ⟨by omega,by omega⟩ ⟨by omega,by omega⟩ (by unfold i6;omega) (by unfold i6;omega) (by unfold i6;omega) (by unfold i6;omega) (by unfold i6;omega) (by unfold i6;omega);have e1:(1+seed)%4=0:=by omega
 have e2:(2+seed)%4=1:=by omega
 have e3:(3+seed)%4=2:=by omega
 simp only[mkB,vC,oLC,oLN,List.replicate];simp[ht,e1,e2,e3];exact LV4 YQ ⟨by omega,by omega⟩ ⟨by omega,by omega⟩ ⟨by omega,by omega⟩ ⟨by omega,by omega⟩ (by unfold i6;omega) (by unfold i6;omega) (by unfold i6;omega) (by unfold i6;omega) (by unfold i6;omega) (by unfold i6;omega)
theorem DW{α:Type}(l:List α)(i:Nat)(a:α):List.modify l i (λ_=>a)=l.set i a:=by apply oEG;grind
theorem Tb{s:M_}{seed:Int}(hs:AC s)(h0:0<=seed)(h1:seed<=1073741824):Ok (qJ s seed) λr=>∃key,r=(mkB s seed,key,0,())/\W16 key:=by
 obtain⟨hs1,WV,hsz⟩:=id hs;unfold qJ;delta fY;try dsimp only
 refine Ok.bind (P:=λr=>r=(s,seed,false,(),0,())) ?_ ?_;refine(MY (by omega)).bind ?_;rintro⟨v,_⟩ hv;have hv:v=true:=hv.2 hs;subst hv;simp only[oNT,oCF];refine fQ (λZ1=>?_) λZ1=>?_;omega;exact fO (by rw[oDF (by omega)]);rintro _ rfl;dsimp only;refine f8 (λh=>by cases h) λ_=>?_;rw[fV];simp only[oBS];refine fP (by unfold xe;rw[oBA];exact⟨oDT rfl,oDT (by omega)⟩) ?_;refine fP (by rw[bne_iff_ne];omega) ?_;have Yn:Int.tdiv seed s.length=seed/s.length:=Int.tdiv_eq_ediv_of_nonneg h0;have hq:0<=seed/(s.length:Int)/\seed/(s.length:Int)<=seed:=⟨Int.ediv_nonneg h0 (by omega),Int.ediv_le_self _ h0⟩;have hm1:Int.tmod (seed/(s.length:Int)) 50=seed/(s.length:Int)%50:=oTE hq.1;rw[Yn,iA (x:=seed/(s.length:Int)),hm1,iA (x:=1+seed/(s.length:Int)%50)];have Xt:W16 (wk .u16 (w64 (40503*seed))):=by unfold wk;rw[wP];exact⟨by omega,by omega⟩
 generalize wk .u16 (w64 (40503*seed))=key at Xt;refine gL (P:=λs'=>∃k:Nat,s'=(s,seed,(s.length:Int),(vC s seed k).2,(s.length:Int),(k:Int),(),0,(vC s seed k).1,key,())/\k<=s.length) (R:=λr=>∃a b c d e f g h,r=(a,b,c,d,e,f,g,(),h,(vC s seed s.length).1,key,()))
  (m:=λs'=>(s'.2.2.2.2.1-s'.2.2.2.2.2.1).toNat) ⟨0,rfl,by omega⟩ (by unfold NN;dsimp only;omega) ?_ ?_
 rintro _ ⟨k,rfl,hk⟩;unfold tT;dsimp only;have hb:=S8 hs h0 k;refine fQ (λhcc=>?_) λhcc=>?_;have hr:=RR (k:=k) (seed:=seed) hs1;rw[iA (x:=(k:Int)+seed)];refine fP (by rw[bne_iff_ne];omega) ?_;rw[oTE (show 0<=(k:Int)+seed by omega)];refine jm hr.1 λr WD=>?_;have hl:=QI s seed k;refine fX λx hx=>?_;refine fX λy hy=>?_;refine jm hr.1 λr2 hrr2=>?_;have:r2=r:=by omega
 subst this;refine fX λz hz=>?_;have Xm:=hsz z (fW hz);rw[iA (x:=z+1),iA (x:=50*(s.length:Int))];refine fP (by rw[bne_iff_ne];omega) ?_;have hd2:Int.tdiv seed (50*(s.length:Int))=seed/(50*s.length):=Int.tdiv_eq_ediv_of_nonneg h0;have Y3:0<=seed/(50*(s.length:Int))/\seed/(50*(s.length:Int))<=seed:=⟨Int.ediv_nonneg h0 (by omega),Int.ediv_le_self _ h0⟩;have hm3:Int.tmod (seed/(50*(s.length:Int))) 40=seed/(50*s.length)%40:=oTE Y3.1;rw[hd2,iA (x:=seed/(50*(s.length:Int))),hm3];generalize hg:seed/(50*(s.length:Int))%40=g;have Zu:0<=g/\g<40:=by omega
 rw[iA (x:=z+1+g),iA (x:=(vC s seed k).2+(z+1+g)),iA (x:=(k:Int)+1),DW];have e1:(vC s seed (k+1)).1=(vC s seed k).1.set r2 (vC s seed k).2:=by simp only[vC];rw[WD];rfl
 have e2:(vC s seed (k+1)).2=(vC s seed k).2+(z+1+g):=by simp only[vC];rw[WD,hg,oTN,oGD,hz];rfl
 refine fO ⟨⟨k+1,?_,by omega⟩,by dsimp only;omega⟩;rw[e1,e2];rfl;have:k=s.length:=by omega
 subst this;exact fO ⟨_,_,_,_,_,_,_,_,rfl⟩;rintro _ ⟨a,b,c,d,e,f,g,h,rfl⟩;exact fO ⟨key,rfl,Xt⟩
theorem oy{S T:Type}{f:S->Option (S⊕T)}(st:Nat->S){n N:Nat}{t:T}(hn:n<N)(h:∀i,i<n->Ok (f (st i)) (·=.inl (st (i+1))))(he:Ok (f (st n)) (·=.inr t)):f9 f N (st 0)=some t:=by
 have key:∀k i,i+k=n->∀N,k<N->f9 f N (st i)=some t:=by
  intro k;induction k with
  |zero=>
  intro i hi N hN;obtain⟨x,e,hx⟩:=he;have:i=n:=by omega
  subst this;obtain⟨N',rfl⟩:∃N',N=N'+1:=⟨N-1,by omega⟩;simp[f9,e,hx]
  |succ k ih=>intro i hi N hN;have ⟨x,e,hx⟩:=h i (by omega);obtain⟨N',rfl⟩:∃N',N=N'+1:=⟨N-1,by omega⟩;simp[f9,e,hx];exact ih (i+1) (by omega) N' (by omega)
 simp_all
theorem gQ{α:Type}{o:Option α}{a:α}(h:Ok o (·=a)):o=some a:=by obtain⟨x,e,rfl⟩:=h;exact e
theorem gp{l:M_}{k:Nat}{x:Int}(h:l[k]?=some x):l.getD k 0=x:=by simp_all
theorem uX{s:M_}(h:AC s):iO s=some (true,()):=by have ⟨⟨v,u⟩,e,hv⟩:=MY (s:=s) (by have:=h.2.1;omega);simp_all
theorem uW{bs ss:M_}{key:Int}(h:LV bs ss):jM bs key ss=some (true,()):=by
 obtain⟨hs,hl,hr⟩:=h;have h4:=hs.2.1;unfold jM;rw[uX hs];delta fY;simp only[oBS,oNT,oCF,hl,oBN];have e:f9 ma NN (ss,bs,(ss.length:Int),0,bs,key,())=some (.inr (ss,bs,(ss.length:Int),(ss.length:Int),false,bs,key,())):=by
  refine oy (st:=λi=>(ss,bs,(ss.length:Int),(i:Int),bs,key,())) (n:=ss.length) (by unfold NN;omega) ?_ ?_;intro i hi;unfold ma;dsimp only;have hri:=hr i (by omega);unfold wM at hri;refine fQ (λZ'=>?_) λZ'=>?_;rw[fV];simp only[oBS];refine fX λb hb=>?_;rw[gp hb]at hri;refine fQ (λZ1=>?_) λZ1=>?_;omega;refine fX λz hz=>?_;rw[gp hz]at hri;have Xm:=hs.2.2 z (fW hz)
  (simp (disch:=omega) only [gw,gi,gc,ge])
  refine fQ (λhcc=>?_) λhcc=>?_;omega;refine fP (by unfold iK;simp;omega) ?_;have hwl:(nv bs 0 (Nat.sub i 0)).length=i:=by unfold nv;rw[oLT,List.drop_zero];show min i _=i;omega
  rw[hwl];have e:f9 mb NN (ss,(i:Int),b,bs,(ss.length:Int),(i:Int),nv bs 0 (Nat.sub i 0),(i:Int),0,bs,key,())=some (.inr (ss,(i:Int),b,bs,(ss.length:Int),(i:Int),nv bs 0 (Nat.sub i 0),(i:Int),(i:Int),false,bs,key,())):=by
   refine oy (st:=λj=>(ss,(i:Int),b,bs,(ss.length:Int),(i:Int),nv bs 0 (Nat.sub i 0),(i:Int),(j:Int),bs,key,())) (n:=i) (by unfold NN;omega) ?_ ?_;intro j hj;unfold mb;dsimp only;refine fQ (λZ'=>?_) λZ'=>?_;rw[fV,fV];simp only[oBS];have hx:(fR (nv bs 0 (Nat.sub i 0)) j)=bs[j]?:=by unfold fR nv;rw[List.getElem?_take,List.drop_zero];exact oIP hj
   rw[hx];obtain⟨c,hc⟩:=gr bs j (by omega);obtain⟨y,hy⟩:=gr ss j (by omega);have WF:=hs.2.2 y (fW hy);have WY:fR ss i=some z:=hz;have Wm:fR ss j=some y:=hy;rw[hc,WY,Wm];simp only[oBS];have hrj:=(hr j (by omega)).1;have hrj2:=(hr j (by omega)).2.1;rw[gp hc]at hrj hrj2;rw[gp hy]at hrj2;have Yg:=hri.2.2 j hj;rw[gp hc,gp hy]at Yg;rw[iA (x:=b+z),iA (x:=c+y)];by_cases h1:b+z>=c;have h2:¬c+y>=b:=by omega
   simp only[h1,h2,decide_true,decide_false,oCT,oCF]
   (simp (disch:=omega) only [gw,gi,gc,ge])
   exact fO rfl;simp only[h1,decide_false,oCF]
   (simp (disch:=omega) only [gw,gi,gc,ge])
   exact fO rfl;omega;unfold mb;dsimp only;refine fQ (λZ'=>?_) λZ'=>?_;omega;exact fO rfl
  rw[e]
  (simp (disch:=omega) only [gw,gi,gc,ge])
  exact fO rfl;omega;unfold ma;dsimp only;refine fQ (λZ'=>?_) λZ'=>?_;omega;exact fO rfl
 rw[e]
theorem OP{n m o a b c i:Int}(h:ke n m (o,a,b,c,i))(hn:n<=4)(hm:m<=64):o5 o a b c i=some (true,()):=by
 obtain⟨⟨o0,o1⟩,⟨a0,a1,a2⟩,⟨b0,b1,b2⟩,⟨c0,c1,c2⟩,⟨i0,i1,i2⟩,hl,hs,hj⟩:=h;dsimp only at *;have Yd:∀(k:Nat)(x:Int)(u:Bool),k<3->[a,b,c][k]?=some x->(k=0->u=tE o)->(k=1->u=tD o)->(k=2->u=tC o)->0<=x->x<8->(u=false->x=0)->Ok (l8 (3,(k:Int),o,a,b,c,i,tE o,tD o,tC o,tB o,[a,b,c],())) (·=.inl (3,((k+1:Nat):Int),o,a,b,c,i,tE o,tD o,tC o,tB o,[a,b,c],())):=by
  intro k x u hk hx h0 h1 h2 hx0 Z0 Y4;unfold l8;dsimp only;refine fQ (λZ'=>?_) λZ'=>?_;rw[fV];simp only[oBS];rw[show fR [a,b,c] k=some x from hx];simp only[oBS];rw[oDF (show ¬x<0 by omega),oDF (show ¬x>=8 by omega)];simp only[oCF];have ZT:Ok (some ((3:Int),(k:Int),false,o,a,b,c,i,tE o,tD o,tC o,tB o,[a,b,c],())) (·=((3:Int),(k:Int),false,o,a,b,c,i,tE o,tD o,tC o,tB o,[a,b,c],())):=fO rfl;have fin2:u=false->(x != 0)=false:=λh=>by rw[Y4 h];rfl
  refine Ok.bind (P:=(·=((3:Int),(k:Int),false,o,a,b,c,i,tE o,tD o,tC o,tB o,[a,b,c],()))) ?_ ?_;rcases(show k=0\/k=1\/k=2 by omega)with rfl|rfl|rfl;rw[<- h0 rfl]at ZT⊢;refine fP rfl ?_;refine f8 (λhu=>?_) λ_=>ZT;rw[fin2 (by simpa using hu)];exact ZT;rw[<- h1 rfl]at ZT⊢;refine f8 (λhu=>by cases hu) λ_=>fP rfl (f8 (λhu=>?_) λ_=>ZT);rw[fin2 (by simpa using hu)];exact ZT;rw[<- h2 rfl]at ZT⊢;refine f8 (λhu=>by cases hu) λ_=>f8 (λhu=>by cases hu) λ_=>fP rfl (f8 (λhu=>?_) λ_=>ZT);rw[fin2 (by simpa using hu)];exact ZT;rintro _ rfl;dsimp only;rw[iA (x:=(k:Int)+1)];exact fO rfl;omega
 have e:f9 l8 NN (3,0,o,a,b,c,i,tE o,tD o,tC o,tB o,[a,b,c],())=some (.inr (3,3,false,o,a,b,c,i,tE o,tD o,tC o,tB o,[a,b,c],())):=by refine oy (st:=λk=>(3,(k:Int),o,a,b,c,i,tE o,tD o,tC o,tB o,[a,b,c],())) (n:=3) (by unfold NN;omega) ?_ ?_;intro k hk;rcases(show k=0\/k=1\/k=2 by omega)with rfl|rfl|rfl;exact Yd 0 a _ (by omega) rfl (λ_=>rfl) (by omega) (by omega) a0 a1 a2;exact Yd 1 b _ (by omega) rfl (by omega) (λ_=>rfl) (by omega) b0 b1 b2;exact Yd 2 c _ (by omega) rfl (by omega) (by omega) (λ_=>rfl) c0 c1 c2;exact fO rfl
 refine gQ ?_;unfold o5;rw[oDF (show ¬o<0 by omega),oDF (show ¬o>24 by omega),I7 o0 o1];simp only[oCF,oBS];rw[show fY [a,b,c].length=3 from rfl,e];dsimp only;rw[oDF (show ¬i<0 by omega),oDF (show ¬i>65535 by omega)];simp only[oCF];refine Ok.bind (P:=(·=(false,o,a,b,c,i,()))) ?_ ?_;refine f8 (λhu=>?_) λ_=>fO rfl;exact fO (by rw[i2 (by simpa using hu)];rfl);rintro _ rfl;dsimp only;rw[wB];simp only[oCF,oBS];refine f8 (λhu=>?_) λ_=>?_;exact fO (by rw[oDT (by have:=hj hu;omega)]);refine fQ (λhcc=>?_) λhcc=>?_;exact fO (by rw[oDT (by have:=hl hcc;omega)]);refine fQ (λXE=>?_) λXE=>?_;exact fO (by rw[oDT (by have:=hs XE;omega)]);exact fO rfl
theorem Gp{code:F_}{s:M_}{d:j_}(h:kE code s d):lh code s d=some (0,()):=by
 have hs:=h.sz;have WV:=hs.2.1;have hc:=h.clen;have hl:=h.len;have e0:f9 lZ NN (d,(d.length:Int),0,code,s,d,())=some (.inr (d,(d.length:Int),(d.length:Int),false,code,s,d,())):=by
  refine oy (st:=λk=>(d,(d.length:Int),(k:Int),code,s,d,())) (n:=d.length) (by unfold NN;omega) ?_ ?_;intro k hk;unfold lZ;dsimp only;refine fQ (λZ'=>?_) λZ'=>?_;rw[fV];delta fY;simp only[oBS];refine fX λx hx=>?_;refine fX λy hy=>?_;have:=h.fit k x y hx hy;refine fQ (λZ1=>?_) λZ1=>?_;omega
  ·(simp (disch:=omega) only [gw,gi,gc,ge])
   exact fO rfl
  omega;unfold lZ;dsimp only;refine fQ (λZ'=>?_) λZ'=>?_;omega;exact fO rfl
 have e1:f9 lY NN (code,(code.length:Int),0,code,s,d,())=some (.inr (code,(code.length:Int),(code.length:Int),false,code,s,d,())):=by
  refine oy (st:=λk=>(code,(code.length:Int),(k:Int),code,s,d,())) (n:=code.length) (by unfold NN;omega) ?_ ?_;intro k hk;unfold lY;dsimp only;refine fQ (λZ'=>?_) λZ'=>?_;rw[fV];simp only[oBS];refine fX λx hx=>?_;obtain⟨o,a,b,c,i⟩:=x;rw[OP (h.ins _ (fW hx)) (by omega) (by omega)]
  (simp (disch:=omega) only [gw,gi,gc,ge])
  exact fO rfl;omega;unfold lY;dsimp only;refine fQ (λZ'=>?_) λZ'=>?_;omega;exact fO rfl
 have e3:f9 lX NN (code,(code.length:Int),0,code,s,d,())=some (.inr (code,(code.length:Int),(code.length:Int),false,code,s,d,())):=by
  refine oy (st:=λk=>(code,(code.length:Int),(k:Int),code,s,d,())) (n:=code.length) (by unfold NN;omega) ?_ ?_;intro k hk;unfold lX;dsimp only;refine fQ (λZ'=>?_) λZ'=>?_;rw[fV];simp only[oBS];refine fX λx hx=>?_;have hp:=h.ins x (fW hx);rw[wB];simp only[oBS];refine Ok.bind (P:=(·=(code,(code.length:Int),(k:Int),false,code,s,d,()))) ?_ ?_;refine f8 (λhj=>?_) λ_=>?_;have:=hp.jmp hj;refine fQ (λZ1=>?_) λZ1=>?_;have Z1:x.2.2.2.2>=(code.length:Int):=Z1;omega;refine fQ (λhcc=>?_) λhcc=>?_;exact fO (by rw[oDF (show ¬x.2.2.2.2>=fY s.length by rw[ge];have:=hp.lea hcc;omega)]);exact fO rfl;refine fQ (λhcc=>?_) λhcc=>?_;exact fO (by rw[oDF (show ¬x.2.2.2.2>=fY s.length by rw[ge];have:=hp.lea hcc;omega)]);exact fO rfl;rintro _ rfl;dsimp only;simp only[oCF]
  (simp (disch:=omega) only [gw,gi,gc,ge])
  exact fO rfl;omega;unfold lX;dsimp only;refine fQ (λZ'=>?_) λZ'=>?_;omega;exact fO rfl
 refine gQ ?_;unfold lh;rw[uX hs];delta fY;simp only[oBS,oNT,oCF,hl,oBN];rw[hl]at e0;rw[e0];dsimp only;refine fQ (λZ'=>?_) λZ'=>?_;omega;refine fQ (λZ1=>?_) λZ1=>?_;omega;rw[e1];dsimp only;rw[e3];exact fO rfl
def RK(bs ss:M_)(a:Int):Prop:=∃(j:Nat)(b z:Int),bs[j]?=some b/\ss[j]?=some z/\b<=a/\a<b+z
def nP(K:Int->Prop)(c:DCe):Prop:=0<=c.1/\c.1<=2/\0<=c.2/\c.2<=65535/\(c.1=1->K c.2)
theorem nP.mono{K K':Int->Prop}{c:DCe}(h:nP K c)(hk:∀a,K a->K' a):nP K' c:=⟨h.1,h.2.1,h.2.2.1,h.2.2.2.1,λe=>hk _ (h.2.2.2.2 e)⟩
theorem j7{K:Int->Prop}{v:Int}(h:0<=v/\v<=65535):nP K (0,v):=⟨by omega,by omega,h.1,h.2,λe=>absurd (show(0:Int)=1 from e) (by decide)⟩
def U2(K:Int->Prop)(i:Nat)(x:DLn):Prop:=(x.1=-1/\x.2.1=false/\x.2.2=[])\/(0<=x.1/\x.1<128/\x.1%4=i/\x.2.2.length=4/\∀c∈x.2.2,nP K c)
def U7(cs:C_)(x:DLn):Prop:=x.1=-1\/x.2.1=true\/∀o:Nat,o<4->cs[(x.1*4).toNat+o]?=x.2.2[o]?
structure i4 (K:Int->Prop)(cs:C_)(ls:G_):Prop where
 clen:cs.length=512
 cells:∀c∈cs,nP K c
 llen:ls.length=4
 lines:∀(i:Nat) x,ls[i]?=some x->U2 K i x
 coh:∀(i:Nat) x,ls[i]?=some x->U7 cs x
structure zd (K:Int->Prop)(n:Int)(t:DTh):Prop where
 state:0<=t.1/\t.1<=4
 len:t.2.1.length=8
 regs:∀c∈t.2.1,nP K c
 pc:0<=t.2.2.1/\t.2.2.1<=255
 count:0<=t.2.2.2.1/\t.2.2.2.1<=n
 handler:-1<=t.2.2.2.2.1/\t.2.2.2.2.1<=255
 saved:-1<=t.2.2.2.2.2.1/\t.2.2.2.2.2.1<=255
 trap:0<=t.2.2.2.2.2.2.1/\t.2.2.2.2.2.2.1<=6
 code:W16 t.2.2.2.2.2.2.2
structure MOk (n:Int)(ss bs:M_)(cs:C_)(ls:G_)(ts:J_):Prop where
 lay:LV bs ss
 mem:i4 (RK bs ss) cs ls
 tlen:ts.length=4
 thr:∀t∈ts,zd (RK bs ss) n t
theorem Ln{K:Int->Prop}{l:C_}(hl:l.length<=1000)(h:∀c∈l,nP K c):pX l=some (true,()):=by
 have e:f9 nW NN (l,(l.length:Int),0,())=some (.inr (l,(l.length:Int),(l.length:Int),false,())):=by
  refine oy (st:=λk=>(l,(l.length:Int),(k:Int),())) (n:=l.length) (by unfold NN;omega) ?_ ?_;intro k hk;unfold nW;refine fQ (λZ'=>?_) λZ'=>?_;rw[fV];refine fX λx hx=>?_;have:=h x (fW hx);unfold mU;rw[oDT (show x.1<=2 from this.2.1)]
  (simp (disch:=omega) only [gw,gi,gc,ge])
  exact fO rfl;omega;unfold nW;refine fQ (λZ'=>?_) λZ'=>?_;omega;exact fO rfl
 refine gQ ?_;unfold pX;delta fY;try dsimp only
 rw[e];exact fO rfl
theorem Lw{K:Int->Prop}{cs:C_}{ls:G_}(h:i4 K cs ls):o6 cs ls=some (true,()):=by
 obtain⟨h1,h2,h3,h4,_⟩:=h;have e:f9 l9 NN (ls,4,0,cs,ls,())=some (.inr (ls,4,4,false,cs,ls,())):=by
  refine oy (st:=λk=>(ls,4,(k:Int),cs,ls,())) (n:=4) (by unfold NN;omega) ?_ ?_;intro k hk;unfold l9;dsimp only;refine fQ (λZ'=>?_) λZ'=>?_;rw[fV];simp only[oBS];refine fX λx hx=>?_;rcases h4 k x hx with⟨e1,e2,e3⟩|⟨g1,g2,g3,g4,g5⟩;rw[e1,e2,e3]
  (simp (disch:=omega) only [gw,gi,gc,ge])
  exact fO rfl;rw[show(x.1==-1)=false by rw[beq_eq_false_iff_ne];omega,oDF (show ¬x.1<0 by omega),oDF (show ¬x.1>=128 by omega),oTE g1,g3,g4,Ln (by omega) g5];simp;refine Ok.bind (P:=(·=(ls,4,(k:Int),false,cs,ls,()))) ?_ ?_;refine f8 (λh=>by cases h) λ_=>fO rfl;rintro _ rfl;dsimp only;simp only[oCF]
  (simp (disch:=omega) only [gw,gi,gc,ge])
  exact fO rfl;omega;unfold l9;exact fO rfl
 refine gQ ?_;unfold o6;delta fY;simp only[h1,h3,Ln (show cs.length<=1000 by omega) h2,oBS,oNT];refine Ok.bind (P:=(·=(false,cs,ls,()))) ?_ ?_;exact fO rfl;rintro _ rfl;dsimp only;simp only[oCF];rw[h3,show((4:Nat):Int)=4 from rfl,e];exact fO rfl
theorem Lv{K:Int->Prop}{t:DTh}(h:zd K 1099511627776 t):oZ t.1 t.2.1 t.2.2.1 t.2.2.2.1 t.2.2.2.2.1 t.2.2.2.2.2.1 t.2.2.2.2.2.2.1 t.2.2.2.2.2.2.2=some (true,()):=by
 obtain⟨⟨a1,a2⟩,hl,hr,⟨b1,b2⟩,⟨c1,c2⟩,⟨d1,d2⟩,⟨e1,e2⟩,⟨f1,f2⟩,_⟩:=h;obtain⟨s,rs,pc,ct,ha,sa,tr,co⟩:=t;dsimp only at *;have e:f9 lW NN (rs,(rs.length:Int),0,s,rs,pc,ct,ha,sa,tr,co,())=some (.inr (rs,(rs.length:Int),(rs.length:Int),false,s,rs,pc,ct,ha,sa,tr,co,())):=by
  refine oy (st:=λk=>(rs,(rs.length:Int),(k:Int),s,rs,pc,ct,ha,sa,tr,co,())) (n:=rs.length) (by unfold NN;omega) ?_ ?_;intro k hk;unfold lW;refine fQ (λZ'=>?_) λZ'=>?_;rw[fV];refine fX λx hx=>?_;have:=hr x (fW hx);unfold mU;rw[oDT (show x.1<=2 from this.2.1)]
  (simp (disch:=omega) only [gw,gi,gc,ge])
  exact fO rfl;omega;unfold lW;refine fQ (λZ'=>?_) λZ'=>?_;omega;exact fO rfl
 refine gQ ?_;unfold oZ;delta fY;try dsimp only
 rw[e];dsimp only;rw[hl];refine fP (oDT a1) (fP (oDT a2) (fP rfl (fP (oDT b1) (fP (oDT b2) (fP (oDT c1) (fP (oDT c2) (fP (oDT d1) (fP (oDT d2) (fP (oDT e1) (fP (oDT e2) (fP (oDT f1) ?_)))))))))));exact fO (by simp_all)
theorem uV{code:F_}{ss bs:M_}{d:j_}{n key:Int}{cs:C_}{ls:G_}{ts:J_}(hp:kE code ss d)(h:MOk n ss bs cs ls ts)(hn:n<=1099511627776):jL code ss d bs key cs ls ts=some (true,()):=by
 have ⟨h1,h2,h3,h4⟩:=h;have e:f9 oI NN (ts,4,0,bs,key,cs,ls,ts,())=some (.inr (ts,4,4,false,bs,key,cs,ls,ts,())):=by
  refine oy (st:=λk=>(ts,4,(k:Int),bs,key,cs,ls,ts,())) (n:=4) (by unfold NN;omega) ?_ ?_;intro k hk;unfold oI;refine fQ (λZ'=>?_) λZ'=>?_;rw[fV];refine fX λx hx=>?_;have ht:=h4 x (fW hx);rw[Lv ⟨ht.state,ht.len,ht.regs,ht.pc,⟨ht.count.1,by have:=ht.count.2;omega⟩,ht.handler,ht.saved,ht.trap,ht.code⟩]
  (simp (disch:=omega) only [gw,gi,gc,ge])
  exact fO rfl;omega;exact fO rfl
 refine gQ ?_;unfold jL;rw[Gp hp,uW h1,Lw h2];delta fY;simp only[oBS,oNT,oCF,oBN,h3];rw[show((4:Nat):Int)=4 from rfl,e];exact fO rfl
def gV:G_:=[(-1,false,[]),(-1,false,[]),(-1,false,[]),(-1,false,[])]
theorem Le:o7=some (gV,()):=by kernel_rfl
theorem IJ{K:Int->Prop}{cs:C_}(h:cs.length=512)(hc:∀c∈cs,nP K c):i4 K cs gV:=by
 have key:∀(i:Nat) x,gV[i]?=some x->x=(-1,false,[]):=λi x hx=>by have:=fW hx;simp[gV]at this;exact this
 exact⟨h,hc,rfl,λi x hx=>by rw[key i x hx];exact .inl ⟨rfl,rfl,rfl⟩,λi x hx=>by rw[key i x hx];exact .inl rfl⟩
theorem gY{α:Type}{P:α->Prop}{l:List α}{i:Nat}{f:α->α}(h:∀x∈l,P x)(hf:∀x,P x->P (f x)):∀x∈List.modify l i f,P x:=by intro x hx;have ⟨j,hj⟩:=List.getElem?_of_mem hx;grind
theorem Tc{code:F_}{ss bs:M_}{d:j_}{key:Int}(hp:kE code ss d)(hl:LV bs ss):Ok (qH code ss d bs key) λr=>∃cs,r=(cs,gV,0,())/\cs.length=512/\∀c∈cs,nP (λ_=>False) c:=by
 unfold qH;rw[uW hl,Le];delta fY;simp only[oBS,oNT,oCF,hp.len,oBN];refine fP (by decide) ?_;obtain⟨t,e,ht⟩:=gW (f:=pY) (n:=NN) (s:=(d,(ss.length:Int),0,code,ss,d,bs,key,(),(),List.replicate 512 (0,0),gV,())) (P:=λs'=>∃k:Nat,∃cs,s'=(d,(ss.length:Int),(k:Int),code,ss,d,bs,key,(),(),cs,gV,())/\k<=ss.length/\cs.length=512/\∀c∈cs,nP (λ_=>False) c) (R:=λr=>∃a b c e cs,r=.inr (a,b,c,e,code,ss,d,bs,key,(),(),cs,gV,())/\cs.length=512/\∀c∈cs,nP (λ_=>False) c) (m:=λs'=>(s'.2.1-s'.2.2.1).toNat) ⟨0,_,rfl,by omega,List.length_replicate,λc hc=>by rw[List.eq_of_mem_replicate hc];exact j7 (by decide)⟩ (by unfold NN;dsimp only;have:=hp.sz.2.1;omega) (by
  rintro _ ⟨k,cs,rfl,hk,ZM,ZJ⟩;unfold pY;dsimp only;have hlen:=hp.len;have WV:=hp.sz.2.1;refine fQ (λZ'=>?_) λZ'=>?_;rw[fV];delta fY;simp only[oBS];refine fX λx hx=>?_;refine fX λy hy=>?_;have hf:=hp.fit k x y hx hy;have W9:=hp.num x (fW hx);obtain⟨_,hbl,hr⟩:=hl;have hrk:=hr k (by omega);unfold wM at hrk;obtain⟨b,hb⟩:=gr bs k (by omega);rw[gp hb,gp hy]at hrk;refine fQ (λZ1=>?_) λZ1=>?_;omega;refine gL (P:=λs'=>∃j:Nat,∃cs,s'=((k:Int),d,(ss.length:Int),(k:Int),x,(x.length:Int),(j:Int),code,ss,d,bs,key,(),(),cs,gV,())/\j<=x.length/\cs.length=512/\∀c∈cs,nP (λ_=>False) c)
   (R:=λr=>∃a b c e cs,r=(a,d,(ss.length:Int),(k:Int),b,c,e,false,code,ss,d,bs,key,(),(),cs,gV,())/\cs.length=512/\∀c∈cs,nP (λ_=>False) c) (m:=λs'=>(s'.2.2.2.2.2.1-s'.2.2.2.2.2.2.1).toNat)
   ⟨0,cs,rfl,by omega,ZM,ZJ⟩ (by unfold NN;dsimp only;omega) ?_ ?_
  rintro _ ⟨j,cs,rfl,hj,ZM,ZJ⟩;unfold tS;dsimp only;refine fQ (λhcc=>?_) λhcc=>?_;rw[fV,fV];simp only[oBS];refine fX λv hv=>?_;have Xj:=W9 v (fW hv);rw[show fR bs k=some b from hb];simp only[oBS]
  (simp (disch:=omega) only [gw,gi,gc,ge])
  refine gR λa ha=>?_;refine fX λc hc=>?_;refine fX λc' YY=>?_;exact fO ⟨⟨j+1,_,rfl,by omega,by rw[oLM];exact ZM,gY ZJ λz hz=>⟨hz.1,hz.2.1,Xj.1,Xj.2,hz.2.2.2.2⟩⟩,by dsimp only;omega⟩;exact fO ⟨_,_,_,_,_,rfl,ZM,ZJ⟩;rintro _ ⟨a,b,c,e,cs,rfl,ZM,ZJ⟩;dsimp only
  (simp (disch:=omega) only [gw,gi,gc,ge])
  exact fO ⟨⟨k+1,_,rfl,by omega,ZM,ZJ⟩,by dsimp only;omega⟩;exact fO ⟨_,_,_,_,_,rfl,ZM,ZJ⟩)
 rw[e];obtain⟨a,b,c,e,cs,rfl,ZM,ZJ⟩:=ht;exact fO ⟨cs,rfl,ZM,ZJ⟩
theorem T2{K:Int->Prop}:∀c∈List.replicate 8 ((0:Int),(0:Int)),nP K c:=λc hc=>by rw[List.eq_of_mem_replicate hc];exact j7 (by decide)
theorem Sm{K:Int->Prop}{s:Int}(h:0<=s/\s<=4):zd K 0 (s,List.replicate 8 (0,0),0,0,-1,-1,0,0):=⟨h,rfl,T2,⟨by simp_all,by simp_all⟩,⟨by simp_all,by simp_all⟩,⟨by simp_all,by simp_all⟩,⟨by simp_all,by simp_all⟩,⟨by simp_all,by simp_all⟩,⟨by simp_all,by simp_all⟩⟩
def Pr(ss:M_)(c:DCn):Prop:=((c.1=0\/c.1=2)/\c.2.2.1=0/\c.2.2.2=0/\W16 c.2.1)\/(c.1=1/\c.2.1=0/\0<=c.2.2.1/\∃n,ss[c.2.2.1.toNat]?=some n/\0<=c.2.2.2/\c.2.2.2<n)
theorem IS{ss:M_}{c:DCn}(hs:AC ss)(h:Pr ss c):mn c.1 c.2.1 c.2.2.1 c.2.2.2=some (true,()):=by
 refine gQ ?_;unfold mn;rcases h with⟨h1,h2,h3,_⟩|⟨h1,h2,h3,n,h4,h5,h6⟩;rw[h2,h3];rcases h1 with h1|h1<;>rw[h1]<;>exact fO rfl
 have hn:=hs.2.2 n (fW h4);have hl:=(oGS h4).1;have WV:=hs.2.1;rw[h1,h2,show(c.2.2.1==-1)=false by rw[beq_eq_false_iff_ne];omega];refine f8 (λh=>by cases h) λ_=>f8 (λh=>by cases h) λ_=>fP rfl ?_;refine f8 (λh=>by cases h) λ_=>fP rfl ?_;exact fP (oDT h3) (fP (oDT (by omega)) (fP (oDT h5) (fO (by rw[oDT (show c.2.2.2<32 by omega)]))))
theorem mr{ss:M_}{l:D_}{n:Int}(hs:AC ss)(h:∀c∈l,Pr ss c)(hn:(l.length:Int)<=n)(hl:l.length<=1000):iq l n=some (true,()):=by
 have e:f9 lV NN (l,n,l,(l.length:Int),0,())=some (.inr (l,n,l,(l.length:Int),(l.length:Int),false,())):=by
  refine oy (st:=λk=>(l,n,l,(l.length:Int),(k:Int),())) (n:=l.length) (by unfold NN;omega) ?_ ?_;intro k hk;unfold lV;refine fQ (λZ'=>?_) λZ'=>?_;rw[fV];refine fX λx hx=>?_;rw[IS hs (h x (fW hx))]
  (simp (disch:=omega) only [gw,gi,gc,ge])
  exact fO rfl;omega;unfold lV;refine fQ (λZ'=>?_) λZ'=>?_;omega;exact fO rfl
 refine gQ ?_;unfold iq;delta fY;try dsimp only
 rw[e];exact fO (congrArg (λb=>(b,())) (oDT hn))
def TL(d:i_)(o:DOp):Prop:=(o.1=-1/\o.2.1=0/\o.2.2=false)\/(0<=o.1/\∃x,d[o.1.toNat]?=some x/\0<=o.2.1/\o.2.1<=x.length)
structure iE (ss:M_)(d:i_)(os:H_):Prop where
 dlen:d.length<=4
 flen:∀x∈d,x.length<=64
 cells:∀x∈d,∀c∈x,Pr ss c
 olen:os.length=8
 opens:∀o∈os,TL d o
theorem DH{ss:M_}{d:i_}{os:H_}(hs:AC ss)(h:iE ss d os):mF d os=some (true,()):=by
 obtain⟨h1,h2,h3,h4,h5⟩:=h;have e0:f9 lT NN (d,(d.length:Int),0,d,os,())=some (.inr (d,(d.length:Int),(d.length:Int),false,d,os,())):=by
  refine oy (st:=λk=>(d,(d.length:Int),(k:Int),d,os,())) (n:=d.length) (by unfold NN;omega) ?_ ?_;intro k hk;unfold lT;dsimp only;refine fQ (λZ'=>?_) λZ'=>?_;rw[fV];simp only[oBS];refine fX λx hx=>?_;have:=h2 x (fW hx);rw[mr hs (h3 x (fW hx)) (by omega) (by omega)];simp only[oBS,oNT,oCF]
  (simp (disch:=omega) only [gw,gi,gc,ge])
  exact fO rfl;omega;unfold lT;dsimp only;refine fQ (λZ'=>?_) λZ'=>?_;omega;exact fO rfl
 have e2:f9 oG NN (os,8,0,d,os,())=some (.inr (os,8,8,false,d,os,())):=by
  refine oy (st:=λk=>(os,8,(k:Int),d,os,())) (n:=8) (by unfold NN;omega) ?_ ?_;intro k hk;unfold oG;dsimp only;refine fQ (λZ'=>?_) λZ'=>?_;rw[fV];simp only[oBS];refine fX λx hx=>?_;obtain⟨f,o,w⟩:=x;refine Ok.bind (P:=(·=(os,8,(k:Int),false,d,os,f,o,w,()))) ?_ ?_;rcases h5 _ (fW hx)with⟨g1,g2,g3⟩|⟨g1,y,g2,g3,g4⟩;have g1:f=-1:=g1;have g2:o=0:=g2;have g3:w=false:=g3;subst g1 g2 g3;dsimp only;refine fP rfl (f8 (λh=>by cases h) λ_=>f8 (λh=>by cases h) λ_=>f8 (λh=>by cases h) λ_=>f8 (λh=>?_) λ_=>f8 (λh=>by cases h) λ_=>fO rfl);have h:(-1:Int)>=(d.length:Int):=of_decide_eq_true h;omega;dsimp only at g1 g2 g3 g4⊢;have hl:=(oGS g2).1;rw[show(f==-1)=false by rw[beq_eq_false_iff_ne];omega,oDF (show ¬f < -1 by omega)];simp only[oCF];refine f8 (λh=>?_) λ_=>fP (oDT g1) ?_;have h:f>=(d.length:Int):=of_decide_eq_true h;omega;rw[oDF (show ¬o<0 by omega)];simp only[oCF];refine jm g1 λj hj=>?_;refine fX λz hz=>?_;have hjj:j=f.toNat:=by omega
  subst hjj;rw[g2]at hz;injection hz with hz
  subst hz;exact fO (by rw[oDF (show ¬o>fY y.length from λh=>by rw[ge]at h;omega)]);rintro _ rfl;dsimp only;simp only[oCF]
  (simp (disch:=omega) only [gw,gi,gc,ge])
  exact fO rfl;omega;exact fO rfl
 refine gQ ?_;unfold mF;delta fY;try dsimp only
 refine fQ (λZ'=>?_) λZ'=>?_;omega;rw[h4];rw[e0];dsimp only;rw[h4,show((8:Nat):Int)=8 from rfl,e2];exact fO rfl
def TX(ss:M_)(i:Nat)(x:DOu):Prop:=x.1=i/\0<=x.2.1/\x.2.1<2/\x.2.2.length<=16/\∀c∈x.2.2,Pr ss c
structure vo (ss:M_)(ck rn:M_)(ins:j_)(d:i_)(os:H_)(us:I_):Prop where
 clock:ck.length<=64/\∀w∈ck,W16 w
 rand:rn.length<=64/\∀w∈rn,W16 w
 ilen:ins.length<=2
 inp:∀x∈ins,x.length<=64/\∀w∈x,W16 w
 files:iE ss d os
 ulen:us.length<=200
 outs:∀(i:Nat) x,us[i]?=some x->TX ss i x
theorem L5{ss:M_}{us:I_}(hl:us.length<=200)(h:∀(i:Nat) x,us[i]?=some x->TX ss i x):mE us=some (true,()):=by
 have e:f9 kx NN (us,(us.length:Int),0,())=some (.inr (us,(us.length:Int),(us.length:Int),false,())):=by
  refine oy (st:=λk=>(us,(us.length:Int),(k:Int),())) (n:=us.length) (by unfold NN;omega) ?_ ?_;intro k hk;unfold kx;refine fQ (λZ'=>?_) λZ'=>?_;rw[fV];refine fX λx hx=>?_;have ⟨g1,g2,g3,g4,g5⟩:=h k x hx;rw[g1,oDF (show ¬x.2.1<0 by omega),oDF (show ¬x.2.1>=2 by omega)];simp;refine f8 (λh=>?_) λ_=>?_;have h:(x.2.2.length:Int)>16:=of_decide_eq_true h;omega
  ·(simp (disch:=omega) only [gw,gi,gc,ge])
   exact fO rfl
  omega;unfold kx;refine fQ (λZ'=>?_) λZ'=>?_;omega;exact fO rfl
 refine gQ ?_;unfold mE;delta fY;try dsimp only
 rw[e];exact fO rfl
theorem uU{ss ck rn:M_}{ins:j_}{d:i_}{os:H_}{us:I_}(hs:AC ss)(h:vo ss ck rn ins d os us):lf ck rn ins d os us=some (true,()):=by
 have e0:f9 lS NN (ins,(ins.length:Int),0,ck,rn,ins,d,os,us,())=some (.inr (ins,(ins.length:Int),(ins.length:Int),false,ck,rn,ins,d,os,us,())):=by
  refine oy (st:=λk=>(ins,(ins.length:Int),(k:Int),ck,rn,ins,d,os,us,())) (n:=ins.length) (by unfold NN;have:=h.ilen;omega) ?_ ?_;intro k hk;have hil:=h.ilen;unfold lS;dsimp only;refine fQ (λZ'=>?_) λZ'=>?_;rw[fV];delta fY;simp only[oBS];refine fX λx hx=>?_;have:=(h.inp x (fW hx)).1;refine fQ (λZ1=>?_) λZ1=>?_;omega
  ·(simp (disch:=omega) only [gw,gi,gc,ge])
   exact fO rfl
  omega;unfold lS;dsimp only;refine fQ (λZ'=>?_) λZ'=>?_;omega;exact fO rfl
 have e1:f9 lR NN (us,(us.length:Int),0,ck,rn,ins,d,os,us,())=some (.inr (us,(us.length:Int),(us.length:Int),false,ck,rn,ins,d,os,us,())):=by
  refine oy (st:=λk=>(us,(us.length:Int),(k:Int),ck,rn,ins,d,os,us,())) (n:=us.length) (by unfold NN;have:=h.ulen;omega) ?_ ?_;intro k hk;have hul:=h.ulen;unfold lR;dsimp only;refine fQ (λZ'=>?_) λZ'=>?_;rw[fV];simp only[oBS];refine fX λx hx=>?_;obtain⟨_,_,_,g4,g5⟩:=h.outs k x hx;rw[mr hs g5 (by omega) (by omega)]
  (simp (disch:=omega) only [gw,gi,gc,ge])
  exact fO rfl;omega;unfold lR;dsimp only;refine fQ (λZ'=>?_) λZ'=>?_;omega;exact fO rfl
 have c1:=h.clock.1;have c2:=h.rand.1;have c3:=h.ilen;have c4:=h.ulen;refine gQ ?_;unfold lf;delta fY;try dsimp only
 rw[e0];dsimp only;rw[e1];dsimp only;refine fP (oDT (show(ck.length:Int)<=64 by omega)) (fP (oDT (show(rn.length:Int)<=64 by omega)) (fP (oDT (show(ins.length:Int)<=2 by omega)) ?_));rw[DH hs h.files];refine fP (oDT (show(us.length:Int)<=200 by omega)) ?_;rw[L5 h.ulen h.outs];exact fO rfl
def sD:H_:=List.replicate 8 (-1,0,false)
theorem Qw(a:j_):f9 vz NN (a,8,0,(),(),(),List.replicate 8 (0,(0,false)),())=some (a,8,8,false,(),(),(),sD,()):=by rfl
theorem QF{ss:M_}{a:j_}(hs:AC ss)(hl:a.length<=4)(h:∀x∈a,x.length<=64/\∀w∈x,W16 w):Ok (r9 a) λr=>∃d,r=(d,sD,0,())/\iE ss d sD:=by
 unfold r9;refine fP (by decide) ?_;dsimp only;rw[show fY (List.replicate 8 ((0:Int),((0:Int),false))).length=8 from rfl,Qw];delta fY;simp only[oBS];refine gL (P:=λs'=>∃k:Nat,∃d,s'=(a,(a.length:Int),(k:Int),(),(),d,sD,())/\k<=a.length/\d.length=k/\(∀x∈d,x.length<=64)/\∀x∈d,∀c∈x,Pr ss c)
  (R:=λr=>∃e b c f d,r=(e,b,c,f,(),(),d,sD,())/\d.length<=4/\(∀x∈d,x.length<=64)/\∀x∈d,∀c∈x,Pr ss c) (m:=λs'=>(s'.2.1-s'.2.2.1).toNat) ⟨0,[],rfl,by omega,rfl,gu,gu⟩ (by unfold NN;dsimp only;omega) ?_ ?_
 rintro _ ⟨k,d,rfl,hk,Yn,hd2,XF⟩;unfold vx;dsimp only;refine fQ (λZ'=>?_) λZ'=>?_;rw[fV];delta fY;simp only[oBS];refine fX λx hx=>?_;obtain⟨Z0,Y4⟩:=h x (fW hx);refine gL (P:=λs'=>∃j:Nat,∃l,s'=(a,(a.length:Int),(k:Int),x,(x.length:Int),(j:Int),(),(),d,sD,l,())/\j<=x.length/\l.length=j/\∀c∈l,Pr ss c)
  (R:=λr=>∃b c e f l,r=(a,(a.length:Int),(k:Int),b,c,e,f,(),(),d,sD,l,())/\l.length<=64/\∀c∈l,Pr ss c) (m:=λs'=>(s'.2.2.2.2.1-s'.2.2.2.2.2.1).toNat) ⟨0,[],rfl,by omega,rfl,gu⟩ (by unfold NN;dsimp only;omega) ?_ ?_
 rintro _ ⟨j,l,rfl,hj,Xu,Ya⟩;unfold vy;dsimp only;refine fQ (λZ1=>?_) λZ1=>?_;rw[fV];simp only[oBS];refine fX λv hv=>?_;refine fP (f7 (by simp;omega)) ?_
 (simp (disch:=omega) only [gw,gi,gc,ge])
 exact fO ⟨⟨j+1,_,rfl,by omega,by rw[ig,Xu];rfl,kT Ya (all_cons (.inl ⟨.inl rfl,rfl,rfl,Y4 v (fW hv)⟩) gu)⟩,by dsimp only;omega⟩;exact fO ⟨_,_,_,_,_,rfl,by omega,Ya⟩;rintro _ ⟨b,c,e,f,l,rfl,Xu,Ya⟩;dsimp only;refine fP (f7 (by simp;omega)) ?_
 (simp (disch:=omega) only [gw,gi,gc,ge])
 exact fO ⟨⟨k+1,_,rfl,by omega,by rw[ig,Yn];rfl,kT hd2 (all_cons Xu gu),kT XF (all_cons Ya gu)⟩,by dsimp only;omega⟩;exact fO ⟨_,_,_,_,_,rfl,by omega,hd2,XF⟩;rintro _ ⟨e,b,c,f,d,rfl,Yn,hd2,XF⟩;have hf:iE ss d sD:=⟨Yn,hd2,XF,rfl,λo ho=>by rw[List.eq_of_mem_replicate ho];exact .inl ⟨rfl,rfl,rfl⟩⟩;dsimp only;rw[DH hs hf];exact fO ⟨d,rfl,hf⟩
theorem Ca{a:j_}(hl:a.length<=1000)(h:∀x∈a,x.length<=1000):iG a=some (a,()):=by
 have e:f9 iB NN (a,(a.length:Int),0,[],())=some (a,(a.length:Int),(a.length:Int),false,a,()):=by
  have:=oy (f:=iB) (N:=NN) (st:=λk=>(a,(a.length:Int),(k:Int),a.take k,())) (n:=a.length) (t:=(a,(a.length:Int),(a.length:Int),false,a,())) (by unfold NN;omega) ?_ ?_;exact this;intro k hk;unfold iB;refine fQ (λZ'=>?_) λZ'=>?_;rw[fV];refine fX λx hx=>?_;have:=h x (fW hx);refine fP (f7 (by omega)) (fP (f7 (by simp;omega)) ?_)
  (simp (disch:=omega) only [gw,gi,gc,ge])
  refine fO ?_;rw[List.take_add_one,hx];rfl;omega;unfold iB;refine fQ (λZ'=>?_) λZ'=>?_;omega;rw[List.take_length];exact fO rfl
 refine gQ ?_;unfold iG;delta fY;try dsimp only
 rw[e];exact fO rfl
theorem L4{ss l:M_}{k:Int}(hs:AC ss)(h:DOk l k):Ok (n7 l k) λr=>∃ck rn ins d os k',r=(ck,rn,ins,d,os,(),l,k',())/\vo ss ck rn ins d os []/\DOk l k':=by unfold n7;refine(rW h (by decide)).bind ?_;rintro _ ⟨w1,k1,rfl,h1,g1,d1⟩;refine(rW d1 (by decide)).bind ?_;rintro _ ⟨w2,k2,rfl,h2,g2,d2⟩;dsimp only;refine(rW d2 (by decide)).bind ?_;rintro _ ⟨w3,k3,rfl,h3,g3,d3⟩;dsimp only;refine(rW d3 (by decide)).bind ?_;rintro _ ⟨w4,k4,rfl,h4,g4,d4⟩;dsimp only;refine(rW d4 (by decide)).bind ?_;rintro _ ⟨w5,k5,rfl,h5,g5,d5⟩;dsimp only;refine(rW d5 (by decide)).bind ?_;rintro _ ⟨w6,k6,rfl,h6,g6,d6⟩;dsimp only;refine Ok.bind (P:=λr=>∃ck rn ins d os,r=(ck,rn,ins,d,os,(),0,())/\vo ss ck rn ins d os []) ?_ ?_;unfold r8;refine(QF (ss:=ss) (a:=[w1,w2]) hs (by simp) (all_cons ⟨by omega,g1⟩ (all_cons ⟨by omega,g2⟩ gu))).bind ?_;rintro _ ⟨d,rfl,hf⟩;refine f8 (λh=>by cases h) λ_=>?_;refine fP (f7 (by omega)) (fP (f7 (by omega)) ?_);have ho:vo ss w5 w6 [w3,w4] d sD []:=⟨⟨by omega,g5⟩,⟨by omega,g6⟩,by simp,all_cons ⟨by omega,g3⟩ (all_cons ⟨by omega,g4⟩ gu),hf,by simp,λi x hx=>by simp_all⟩;rw[Ca (by simp) (all_cons (by omega) (all_cons (by omega) gu))];simp only[oBS];rw[show List.append [] w5=w5 from rfl,show List.append [] w6=w6 from rfl,uU hs ho];exact fO ⟨_,_,_,_,_,rfl,ho⟩;rintro _ ⟨ck,rn,ins,d,os,rfl,ho⟩;exact fO ⟨_,_,_,_,_,_,rfl,ho,d6⟩
theorem xz{ss:M_}{r o n:Int}(h1:0<=r)(h2:ss[r.toNat]?=some n)(h3:0<=o)(h4:o<n):g8 ss r o=some (true,()):=by refine gQ ?_;have hl:=(oGS h2).1;refine fP (oDT h1) (fP (oDT (show r<(ss.length:Int) by omega)) (fP (oDT h3) ?_));obtain⟨j,rfl⟩:∃j:Nat,r=j:=⟨r.toNat,by omega⟩;rw[fV];simp;rw[show fR ss j=some n from h2];exact fO (by simp_all)
theorem mh{ss:M_}{c:DCn}(h:Pr ss c):io ss c.1 c.2.1 c.2.2.1 c.2.2.2=some (true,()):=by
 refine gQ ?_;unfold io;rcases h with⟨h1,h2,h3,_⟩|⟨h1,h2,h3,n,h4,h5,h6⟩;rw[h2,h3];rcases h1 with h1|h1<;>rw[h1]<;>exact fO rfl
 rw[h1,h2,xz h3 h4 h5 h6];exact fO rfl
theorem Jp{ss:M_}{d:i_}{os:H_}(h:iE ss d os):nR ss d os=some (true,()):=by
 obtain⟨h1,h2,h3,h4,h5⟩:=h;have e0:f9 lb NN (ss,d,(d.length:Int),0,d,os,())=some (.inr (ss,d,(d.length:Int),(d.length:Int),false,d,os,())):=by
  refine oy (st:=λk=>(ss,d,(d.length:Int),(k:Int),d,os,())) (n:=d.length) (by unfold NN;omega) ?_ ?_;intro k hk;unfold lb;dsimp only;refine fQ (λZ'=>?_) λZ'=>?_;rw[fV];delta fY;refine fX λx hx=>?_;have Z0:=h2 x (fW hx);have e:f9 lc NN (ss,d,(d.length:Int),(k:Int),x,(x.length:Int),0,d,os,())=some (.inr (ss,d,(d.length:Int),(k:Int),x,(x.length:Int),(x.length:Int),false,d,os,())):=by
   refine oy (st:=λj=>(ss,d,(d.length:Int),(k:Int),x,(x.length:Int),(j:Int),d,os,())) (n:=x.length) (by unfold NN;omega) ?_ ?_;intro j hj;unfold lc;refine fQ (λZ'=>?_) λZ'=>?_;rw[fV];refine fX λy hy=>?_;rw[mh (h3 x (fW hx) y (fW hy))]
   (simp (disch:=omega) only [gw,gi,gc,ge])
   exact fO rfl;omega;unfold lc;refine fQ (λZ'=>?_) λZ'=>?_;omega;exact fO rfl
  rw[e];dsimp only
  (simp (disch:=omega) only [gw,gi,gc,ge])
  exact fO rfl;omega;unfold lb;dsimp only;refine fQ (λZ'=>?_) λZ'=>?_;omega;exact fO rfl
 refine gQ ?_;unfold nR;delta fY;try dsimp only
 rw[e0];exact fO rfl
theorem copy17_ok{d:i_}{os:H_}(h1:d.length<=1000)(h2:∀x∈d,x.length<=1000)(h3:os.length<=1000):i8 d os=some (d,os,()):=by
 have e:f9 kJ NN (d,(d.length:Int),0,d,os,(),(),[],os,())=some (d,(d.length:Int),(d.length:Int),false,d,os,(),(),d,os,()):=by
  have:=oy (f:=kJ) (N:=NN) (st:=λk=>(d,(d.length:Int),(k:Int),d,os,(),(),d.take k,os,())) (n:=d.length) (t:=(d,(d.length:Int),(d.length:Int),false,d,os,(),(),d,os,())) (by unfold NN;omega) ?_ ?_;exact this;intro k hk;unfold kJ;refine fQ (λZ'=>?_) λZ'=>?_;rw[fV];refine fX λx hx=>?_;have:=h2 x (fW hx);refine fP (f7 (by omega)) (fP (f7 (by simp;omega)) ?_)
  (simp (disch:=omega) only [gw,gi,gc,ge])
  refine fO ?_;rw[List.take_add_one,hx];rfl;omega;unfold kJ;refine fQ (λZ'=>?_) λZ'=>?_;omega;rw[List.take_length];exact fO rfl
 refine gQ ?_;refine fP (f7 (by omega)) ?_;rw[show List.append [] os=os from rfl];delta fY;try dsimp only
 rw[e];exact fO rfl
theorem Cc{us:I_}(h1:us.length<=1000)(h2:∀x∈us,x.2.2.length<=1000):kI us=some (us,()):=by
 have e:f9 kH NN (us,(us.length:Int),0,[],())=some (us,(us.length:Int),(us.length:Int),false,us,()):=by
  have:=oy (f:=kH) (N:=NN) (st:=λk=>(us,(us.length:Int),(k:Int),us.take k,())) (n:=us.length) (t:=(us,(us.length:Int),(us.length:Int),false,us,())) (by unfold NN;omega) ?_ ?_;exact this;intro k hk;unfold kH;refine fQ (λZ'=>?_) λZ'=>?_;rw[fV];refine fX λx hx=>?_;have:=h2 x (fW hx);refine fP (f7 (by omega)) (fP (f7 (by simp;omega)) ?_)
  (simp (disch:=omega) only [gw,gi,gc,ge])
  refine fO ?_;rw[List.take_add_one,hx];rfl;omega;unfold kH;refine fQ (λZ'=>?_) λZ'=>?_;omega;rw[List.take_length];exact fO rfl
 refine gQ ?_;unfold kI;delta fY;try dsimp only
 rw[e];exact fO rfl
theorem Cb{ss ck rn:M_}{ins:j_}{d:i_}{os:H_}{us:I_}(h:vo ss ck rn ins d os us):qz ck rn ins d os us=some (ck,rn,ins,d,os,us,()):=by
 have h1:=h.clock.1;have h2:=h.rand.1;have h3:=h.ilen;have h4:=h.ulen;have h5:=h.files.olen;have h6:=h.files.dlen;refine gQ ?_;refine fP (f7 (by omega)) (fP (f7 (by omega)) ?_);rw[Ca (by omega) (λx hx=>by have:=(h.inp x hx).1;omega),copy17_ok (by omega) (λx hx=>by have:=h.files.flen x hx;omega) (by omega),Cc (by omega) (λx hx=>by
  have ⟨i,hi⟩:=List.getElem?_of_mem hx;have:=(h.outs i x hi).2.2.2.1
  omega)]
 exact fO rfl
theorem Ow:wo=some ([-1,-1,-1,-1],[[],[],[],[]],()):=by kernel_rfl
structure kt (ow:M_)(qs:j_):Prop where
 olen:ow.length=4
 qlen:qs.length=4
 owner:∀o∈ow,-1<=o/\o<=3
 queue:∀q∈qs,q.Nodup/\∀t∈q,0<=t/\t<=3
theorem Ol:∀{n:Nat}{q:M_},q.Nodup->(∀t∈q,0<=t/\t<n)->q.length<=n:=by
 intro n;induction n with
 |zero=>intro q _ h;cases q with|nil=>simp|cons x q=>have:=h x (by simp);omega
 |succ n ih=>
 intro q hq h;have h1:(q.erase (n:Int)).Nodup:=hq.erase _;have h2:∀t∈q.erase (n:Int),0<=t/\t<n:=λt ht=>by have hm:=(hq.mem_erase_iff).1 ht;have:=h t hm.2;omega
 have h3:=ih h1 h2;have h4:=List.length_erase (a:=(n:Int)) (l:=q);split at h4<;>omega
theorem kt.qlen4{ow:M_}{qs:j_}(h:kt ow qs){q:M_}(hq:q∈qs):q.length<=4:=Ol (h.queue q hq).1 λt ht=>by have:=(h.queue q hq).2 t ht;omega
theorem Us:kt [-1,-1,-1,-1] [[],[],[],[]]:=⟨rfl,rfl,by decide,by decide⟩
theorem U2.len{K:Int->Prop}{i:Nat}{x:DLn}(h:U2 K i x):x.2.2.length<=4:=by rcases h with⟨_,_,h⟩|⟨_,_,_,h,_⟩;simp_all;omega
theorem Pb{K:Int->Prop}{cs:C_}{ls:G_}(h:i4 K cs ls):qI cs ls=some (cs,ls,()):=by
 obtain⟨h1,h2,h3,h4,_⟩:=h;have e:f9 kQ NN (ls,(ls.length:Int),0,cs,ls,(),(),cs,[],())=some (ls,(ls.length:Int),(ls.length:Int),false,cs,ls,(),(),cs,ls,()):=by
  have:=oy (f:=kQ) (N:=NN) (st:=λk=>(ls,(ls.length:Int),(k:Int),cs,ls,(),(),cs,ls.take k,())) (n:=ls.length) (t:=(ls,(ls.length:Int),(ls.length:Int),false,cs,ls,(),(),cs,ls,())) (by unfold NN;omega) ?_ ?_;exact this;intro k hk;unfold kQ;refine fQ (λZ'=>?_) λZ'=>?_;rw[fV];refine fX λx hx=>?_;have:=(h4 k x hx).len;refine fP (f7 (by omega)) (fP (f7 (by simp;omega)) ?_)
  (simp (disch:=omega) only [gw,gi,gc,ge])
  refine fO ?_;rw[List.take_add_one,hx];rfl;omega;unfold kQ;refine fQ (λZ'=>?_) λZ'=>?_;omega;rw[List.take_length];exact fO rfl
 refine gQ ?_;unfold qI;refine fP (f7 (by omega)) ?_;rw[show List.append [] cs=cs from rfl];delta fY;try dsimp only
 rw[e];exact fO rfl
theorem xI{n key:Int}{ss bs:M_}{cs:C_}{ls:G_}{ts:J_}(h:MOk n ss bs cs ls ts):kO bs key cs ls ts=some (bs,key,cs,ls,ts,()):=by
 obtain⟨h1,h2,h3,h4⟩:=h;have hb:=h1.2.1;have WV:=h1.1.2.1;have e:f9 kN NN (ts,(ts.length:Int),0,bs,key,cs,ls,ts,(),0,(),(),(),bs,key,cs,ls,[],())=some (ts,(ts.length:Int),(ts.length:Int),false,bs,key,cs,ls,ts,(),0,(),(),(),bs,key,cs,ls,ts,()):=by
  have:=oy (f:=kN) (N:=NN) (st:=λk=>(ts,(ts.length:Int),(k:Int),bs,key,cs,ls,ts,(),0,(),(),(),bs,key,cs,ls,ts.take k,())) (n:=ts.length) (t:=(ts,(ts.length:Int),(ts.length:Int),false,bs,key,cs,ls,ts,(),0,(),(),(),bs,key,cs,ls,ts,())) (by unfold NN;omega) ?_ ?_;exact this;intro k hk;unfold kN;dsimp only;refine fQ (λZ'=>?_) λZ'=>?_;rw[fV];refine fX λx hx=>?_;have:=(h4 x (fW hx)).len;refine fP (f7 (by omega)) (fP (f7 (by simp;omega)) ?_)
  (simp (disch:=omega) only [gw,gi,gc,ge])
  refine fO ?_;rw[List.take_add_one,hx];rfl;omega;unfold kN;refine fQ (λZ'=>?_) λZ'=>?_;omega;rw[List.take_length];exact fO rfl
 refine gQ ?_;unfold kO;refine fP (f7 (by omega)) ?_;rw[Pb h2,show List.append [] bs=bs from rfl];delta fY;simp;rw[e];exact fO rfl
theorem vj{α:Type}{l:List α}{i:Nat}{f:α->α}{a:α}(h:l[i]?=some a):(List.modify l i f)[i]?=some (f a):=by simp_all
theorem jP{α:Type}(l:List α)(i:Nat)(f g:α->α):List.modify (List.modify l i f) i g=List.modify l i λa=>g (f a):=by apply oEG;grind
theorem MOk.thread{n:Int}{ss bs:M_}{cs:C_}{ls:G_}{ts:J_}(h:MOk n ss bs cs ls ts){i:Nat}{t:DTh}{f:DTh->DTh}(ht:ts[i]?=some t)(hf:zd (RK bs ss) n (f t)):MOk n ss bs cs ls (List.modify ts i f):=by
 refine⟨h.lay,h.mem,by rw[oLM];exact h.tlen,λx hx=>?_⟩;have ⟨j,hj⟩:=List.getElem?_of_mem hx;by_cases hij:i=j;simp_all;simp[hij]at hj;have:ts[j]?=some x:=by simp_all
 exact h.thr x (fW this)
theorem R1{n key:Int}{ss bs:M_}{cs:C_}{ls:G_}{ts:J_}(h:MOk n ss bs cs ls ts)(i:Int):Ok (pT bs key cs ls ts i) λr=>r.1=true->0<=i/\i<4/\∀t,ts[i.toNat]?=some t->t.2.2.2.2.1≠-1:=by
 unfold pT;delta fY;have:=h.tlen;refine fQ (λZ'=>?_) λZ'=>?_;exact fO (λh=>by cases h);refine fQ (λZ1=>?_) λZ1=>?_;exact fO (λh=>by cases h);refine gR λj hj=>?_;refine fX λt ht=>?_;subst hj;refine fQ (λhcc=>?_) λhcc=>?_;refine fQ (λXE=>?_) λXE=>?_;exact fO (λ_=>⟨by omega,by omega,λt' ZU=>by
  rw[oTN,ht]at ZU
  injection ZU with ZU
  rw[<- ZU]
  exact XE⟩)
 exact fO (λh=>by cases h);exact fO (λh=>by cases h)
theorem Sl{n WZ:Int}{ts:J_}{i:Nat}{t:DTh}(ht:ts[i]?=some t):it i WZ ts=some (2,List.modify ts i λt=>(4,t.2.1,t.2.2.1,t.2.2.2.1,t.2.2.2.2.1,t.2.2.2.2.2.1,WZ,0),()):=by refine gQ ?_;have hl:=(oGS ht).1;refine gP hl λ_ _=>?_;refine gP (by simp_all) λ_ _=>?_;refine gP (by simp_all) λ_ _=>?_;rw[jP,jP];exact fO rfl
theorem zd.ended{K:Int->Prop}{n WZ:Int}{t:DTh}(h:zd K n t)(hw:0<=WZ/\WZ<=6):zd K n (4,t.2.1,t.2.2.1,t.2.2.2.1,t.2.2.2.2.1,t.2.2.2.2.2.1,WZ,0):=⟨⟨by omega,by omega⟩,h.len,h.regs,h.pc,h.count,h.handler,h.saved,hw,⟨by simp_all,by simp_all⟩⟩
theorem yI{ss bs:M_}{key a:Int}(h:LV bs ss)(ha:0<=a/\a<=65535):Ok (gS bs key ss a) λr=>(r.2.2.1=true->∃b n,0<=r.1/\bs[r.1.toNat]?=some b/\ss[r.1.toNat]?=some n/\0<=r.2.1/\r.2.1<n/\a=b+r.2.1):=by
 obtain⟨hs,hl,hr⟩:=h;have WV:=hs.2.1;unfold gS;delta fY;try dsimp only
 obtain⟨t,e,ht⟩:=gW (f:=gH) (n:=NN) (s:=(ss,a,bs,(bs.length:Int),0,bs,key,0,0,())) (P:=λs'=>∃k:Nat,s'=(ss,a,bs,(bs.length:Int),(k:Int),bs,key,0,0,())/\k<=bs.length) (R:=λr=>(∃x y,r=.inl (true,x,y,())/\∃b n,0<=x/\bs[x.toNat]?=some b/\ss[x.toNat]?=some n/\0<=y/\y<n/\a=b+y)\/∃z,r=.inr z) (m:=λs'=>(s'.2.2.2.1-s'.2.2.2.2.1).toNat) ⟨0,rfl,by omega⟩ (by unfold NN;dsimp only;omega) (by
  rintro _ ⟨k,rfl,hk⟩;unfold gH;dsimp only;refine fQ (λZ'=>?_) λZ'=>?_;rw[fV];simp only[oBS];obtain⟨b,hb⟩:=gr bs k (by omega);obtain⟨y,hy⟩:=gr ss k (by omega);have WF:=hs.2.2 y (fW hy);have hrk:=hr k (by omega);unfold wM at hrk;rw[gp hb,gp hy]at hrk;rw[show fR bs k=some b from hb];rw[show fR ss k=some y from hy];simp only[oBS];rw[iA (x:=b+y)];by_cases h1:a>=b;by_cases h2:a<b+y;simp only[h1,h2,decide_true,oCT];rw[iA (x:=a-b)];exact fO (.inl ⟨_,_,rfl,b,y,by omega,by rw[oTN];exact hb,by rw[oTN];exact hy,by omega,by omega,by omega⟩);simp only[h1,h2,decide_true,decide_false,oCT,oCF]
  (simp (disch:=omega) only [gw,gi,gc,ge])
  exact fO ⟨⟨k+1,rfl,by omega⟩,by dsimp only;omega⟩;simp only[h1,decide_false,oCF]
  (simp (disch:=omega) only [gw,gi,gc,ge])
  exact fO ⟨⟨k+1,rfl,by omega⟩,by dsimp only;omega⟩;exact fO (.inr ⟨_,rfl⟩))
 rw[e];rcases ht with⟨x,y,rfl,Wt⟩|⟨z,rfl⟩;exact fO λ_=>Wt;exact fO λh=>by cases h
theorem D0{ss:M_}{r o:Int}:Ok (g8 ss r o) λx=>x.1=true->0<=r/\0<=o/\∃n,ss[r.toNat]?=some n/\o<n:=by
 unfold g8;delta fY;refine fQ (λZ'=>?_) λZ'=>?_;refine fQ (λZ1=>?_) λZ1=>?_;refine fQ (λhcc=>?_) λhcc=>?_;refine gR λj hj=>?_;refine fX λn hn=>?_;exact fO λh=>⟨by omega,by omega,n,by simp_all,of_decide_eq_true h⟩;exact fO λh=>by cases h
 exact fO λh=>by cases h
 exact fO λh=>by cases h
theorem Bn{ss bs:M_}{key tag v n:Int}{back:Bool}(h:LV bs ss)(hv:W16 v)(hn:W16 n):Ok (iC bs key ss tag v n back) λr=>∃t x e,r=(t,x,e,())/\nP (RK bs ss) (t,x)/\0<=e/\e<=6/\(e=0->x<512):=by
 have hz:∀e:Int,0<e->e<=6->∃t x e',((0:Int),(0:Int),e,())=(t,x,e',())/\nP (RK bs ss) (t,x)/\0<=e'/\e'<=6/\(e'=0->x<512):=λe h1 h2=>⟨0,0,e,rfl,j7 (by decide),by omega,h2,by omega⟩;obtain⟨v0,v1⟩:=hv;obtain⟨n0,n1⟩:=hn;unfold iC;refine fQ (λZ'=>?_) λZ'=>?_;exact fO (hz 3 (by decide) (by decide))
 ·rw[gc (x:=v) (by omega) (by omega),gc (x:=n) (by omega) (by omega)];refine(yI h ⟨v0,v1⟩).bind ?_;rintro⟨r,o,ok,_⟩ Zb;dsimp only at Zb⊢;refine fQ (λZ1=>?_) λZ1=>?_
  ·exact fO (hz 4 (by decide) (by decide))
  ·obtain⟨b,z,hr0,hb,hzz,ho0,ho1,_⟩:=Zb Z1;have Xm:=h.1.2.2 z (fW hzz);refine Ok.bind (P:=λx=>∃o',x=(ss,bs,key,0,0,r,o',())/\-70000<=o'/\o'<=70000) ?_ ?_
   ·refine f8 (λ_=>?_) λ_=>?_
    all_goals
     (simp (disch:=omega) only [gw,gi,gc,ge])
     exact fO ⟨_,rfl,by omega,by omega⟩
   rintro _ ⟨o',rfl,W',ho3⟩;dsimp only;refine D0.bind ?_;rintro⟨q,_⟩ hin;dsimp only at hin⊢;refine fQ (λhcc=>?_) λhcc=>?_
   ·exact fO (hz 4 (by decide) (by decide))
   ·obtain⟨_,g1,m,g2,g3⟩:=hin hcc;refine jm hr0 λj hj=>?_;subst hj;rw[oTN]at hb g2;have hjl:=(oGS hb).1;have hrj:=h.2.2 j hjl;unfold wM at hrj;rw[gp hb,gp g2]at hrj;rw[show fR bs j=some b from hb];simp only[oBS];rw[iA (x:=b+o'),gi (x:=b+o') (by omega) (by omega)];exact fO ⟨_,_,_,rfl,⟨by dsimp only;omega,by dsimp only;omega,by dsimp only;omega,by dsimp only;omega,λ_=>⟨j,b,m,hb,g2,by dsimp only;omega,by dsimp only;omega⟩⟩,by decide,by decide,λ_=>by omega⟩
theorem i4.line{K:Int->Prop}{cs:C_}{ls:G_}(h:i4 K cs ls){i:Nat}{x:DLn}{f:DLn->DLn}(hx:ls[i]?=some x)(hf:U2 K i (f x))(hg:U7 cs (f x)):i4 K cs (List.modify ls i f):=by
 have key:∀(j:Nat) y,(List.modify ls i f)[j]?=some y->U2 K j y/\U7 cs y:=λj y hy=>by by_cases hij:i=j;simp_all;simp[hij]at hy;exact⟨h.lines j y (by simp_all),h.coh j y (by simp_all)⟩
 exact⟨h.clen,h.cells,by rw[oLM];exact h.llen,λj y hy=>(key j y hy).1,λj y hy=>(key j y hy).2⟩
theorem yB{cs xs:C_}{lo k:Nat}(h1:lo+4<=cs.length)(h3:4<=xs.length)(hk:k<lo\/lo+4<=k):(p5 cs lo 4 xs)[k]?=cs[k]?:=by unfold p5;rcases hk with hk|hk;rw[List.append_assoc,oAL (by rw[oLT];omega),List.getElem?_take_of_lt hk];rw[oAR (by simp;omega),List.getElem?_drop];congr 1;simp;omega
theorem M5{cs xs:C_}{lo o:Nat}(h1:lo+4<=cs.length)(h3:xs.length=4)(ho:o<4):(p5 cs lo 4 xs)[lo+o]?=xs[o]?:=by unfold p5;rw[oAL (by simp;omega),oAR (by rw[oLT];omega),oLT,show lo+o-min lo cs.length=o by omega,List.getElem?_take_of_lt ho]
theorem GM{K:Int->Prop}{cs xs:C_}{lo n:Nat}(h1:cs.length=512)(h2:lo+n<=512)(h3:n<=xs.length)(hc:∀c∈cs,nP K c)(hx:∀c∈xs,nP K c):(p5 cs lo n xs).length=512/\∀c∈p5 cs lo n xs,nP K c:=by unfold p5;refine⟨?_,λc hh=>?_⟩;simp;omega;simp only[oMA]at hh;rcases hh with(hh|hh)|hh;exact hc c (List.mem_of_mem_take hh);exact hx c (List.mem_of_mem_take hh);exact hc c (List.mem_of_mem_drop hh)
theorem La{K:Int->Prop}{cs:C_}{ls:G_}{a:Int}(h:i4 K cs ls)(ha:0<=a/\a<512):Ok (mS a cs ls) λr=>∃i Z9 Z8 x,r=(i,Z9,Z8,())/\i4 K Z9 Z8/\Z8[i]?=some x/\x.1=a/4/\x.2.2.length=4:=by
 obtain⟨a0,a1⟩:=ha;obtain⟨h1,h2,h3,h4,h5⟩:=id h;unfold mS;rw[Int.tdiv_eq_ediv_of_nonneg a0,iA (x:=a/4)];dsimp only;rw[oTE (show 0<=a/4 by omega)];refine gR λi hi=>?_;have hil:i<ls.length:=by omega
 obtain⟨x,hx⟩:=gr ls i hil;have hg:fR ls i=some x:=hx;have hL:=h4 i x hx;simp only[hg,oBS];refine fQ (λZ'=>?_) λZ'=>?_;refine fO ⟨i,cs,ls,x,rfl,h,hx,Z',?_⟩;rcases hL with⟨g1,_,_⟩|⟨_,_,_,g,_⟩;omega;exact g
 ·refine Ok.bind (P:=λr=>∃Z9,r=(a/4,i,Z9,ls,())/\Z9.length=512/\(∀c∈Z9,nP K c)/\∀(j:Nat) y,ls[j]?=some y->U7 Z9 y) ?_ ?_
  ·refine f8 (λhd=>?_) λ_=>fO ⟨cs,rfl,h1,h2,h5⟩
   rcases hL with⟨_,g,_⟩|⟨g1,g2,g3,g4,g5⟩
   ·rw[g]at hd;cases hd
   ·rw[iA (x:=x.1*4)];refine gR λq hq=>?_;refine fP (by unfold iK;simp;omega) ?_
    try simp only[hg,oBS]
    rw[g4,h1]
    have hmin:Nat.min 4 (Nat.sub 512 q)=4:=by
     show min 4 (512-q)=4;omega
    rw[hmin];refine fP (by unfold iK;simp;omega) ?_;refine fP rfl ?_;obtain⟨s1,s2⟩:=GM (lo:=q) (n:=4) h1 (by omega) (by omega) h2 g5;refine fO ⟨_,rfl,s1,s2,λj y hy=>?_⟩;by_cases hij:j=i
    ·subst hij;rw[hx]at hy
     injection hy with hy
     subst hy;exact .inr (.inl hd)
    ·rcases h5 j y hy with g|g|g
     ·exact .inl g
     ·exact .inr (.inl g)
     ·rcases h4 j y hy with⟨g',_,_⟩|⟨y1,y2,y3,y4,y5⟩
      ·exact .inl g'
      ·refine .inr (.inr λo ho=>?_);rw[yB (by omega) (by omega) (by omega)];exact g o ho
  rintro _ ⟨Z9,rfl,c1,c2,c3⟩;dsimp only;rw[iA (x:=a/4*4),iA (x:=a/4+1),iA (x:=(a/4+1)*4)];simp only[hg,oBS];refine gP (by rw[oLM];exact hil) λ_ _=>?_;refine gR λq hq=>?_;refine gR λq2 Y3=>?_;refine fP (by unfold iK;simp;omega) ?_
  have hw:(nv Z9 q (Nat.sub q2 q)).length=4:=by
   unfold nv;rw[oLT,List.length_drop];show min (q2-q) _=4;omega
  refine fP (f7 (by omega)) ?_;refine gP (by rw[oLM,oLM];exact hil) λ_ _=>?_;rw[jP,jP,show List.append [] (nv Z9 q (Nat.sub q2 q))=nv Z9 q (Nat.sub q2 q)from rfl];have Zz:i4 K Z9 ls:=⟨c1,c2,h3,h4,c3⟩;refine fO ⟨i,Z9,_,_,rfl,Zz.line hx (.inr ⟨by dsimp only;omega,by dsimp only;omega,by dsimp only;omega,hw,λc hc=>c2 c ?_⟩) (.inr (.inr λo ho=>?_)),vj hx,rfl,hw⟩
  ·dsimp only at hc;unfold nv at hc;exact List.mem_of_mem_drop (List.mem_of_mem_take hc)
  ·dsimp only;unfold nv;rw[hq,oTN,List.getElem?_take_of_lt (show o<Nat.sub q2 q by show o<q2-q;omega),List.getElem?_drop]
theorem Oy{K:Int->Prop}{cs:C_}{ls:G_}{a:Int}(h:i4 K cs ls)(ha:0<=a/\a<512):Ok (qG a cs ls) λr=>∃t v Z9 Z8,r=(t,v,Z9,Z8,())/\nP K (t,v)/\i4 K Z9 Z8:=by
 refine(La h ha).bind ?_;rintro _ ⟨i,Z9,Z8,x,rfl,hm,hx,Z0,Y4⟩;have hg:fR Z8 i=some x:=hx;simp[hg];rw[oTE ha.1];refine gR λj hj=>?_;refine fX λ_ _=>?_;refine fX λc hc=>?_;have ZJ:nP K c:=by rcases hm.lines i x hx with⟨_,_,g⟩|⟨_,_,_,_,g⟩;omega;exact g c (fW hc)
 exact fO ⟨_,_,_,_,rfl,ZJ,hm⟩
theorem yA{K:Int->Prop}{cs:C_}{ls:G_}{a t v:Int}(h:i4 K cs ls)(ha:0<=a/\a<512)(hc:nP K (t,v)):Ok (mQ a t v cs ls) λr=>∃Z9 Z8,r=(Z9,Z8,())/\i4 K Z9 Z8:=by refine(La h ha).bind ?_;rintro _ ⟨i,Z9,Z8,x,rfl,hm,hx,Z0,Y4⟩;have hg:fR Z8 i=some x:=hx;have hil:=(oGS hx).1;simp[hg];rw[oTE ha.1];refine gR λj hj=>?_;refine fX λ_ _=>?_;refine fX λ_ _=>?_;refine gP (by simp_all) λ_ _=>?_;rw[jP];refine fO ⟨_,_,rfl,hm.line hx ?_ (.inr (.inl rfl))⟩;rcases hm.lines i x hx with⟨_,_,g⟩|⟨g1,g2,g3,g4,g5⟩;omega;exact .inr ⟨g1,g2,g3,by simp_all,gY g5 λ_ _=>hc⟩
theorem rX(x:Int):W16 (wk .u16 x):=by unfold wk;rw[wP];exact⟨by omega,by omega⟩
theorem Rq{ss bs:M_}{key t v t' v':Int}(h:LV bs ss)(hv:W16 v)(YD:W16 v'):Ok (mO bs key ss t v t' v') λ_=>True:=by obtain⟨v0,v1⟩:=hv;obtain⟨u0,u1⟩:=YD;unfold mO;rw[gc (x:=v) (by omega) (by omega),gc (by omega) (by omega)];refine(yI h ⟨v0,v1⟩).bind ?_;rintro⟨r,o,ok,_⟩ _;refine(yI h ⟨u0,u1⟩).bind ?_;rintro⟨r',o',ok',_⟩ _;cases ok<;>cases ok'<;>exact fO trivial
theorem J3(b:Bool):mo b=some (0,(bif b then 1 else 0),()):=by cases b<;>rfl
theorem Un{op b c:Int}(hb:W16 b)(hc:W16 c):Ok (mN op b c) λr=>∃v e,r=(0,v,e,())/\W16 v/\0<=e/\e<=6:=by
 obtain⟨b0,b1⟩:=hb;obtain⟨c0,c1⟩:=hc;have ZT:∀x:Int,W16 x->Ok (some ((0:Int),x,(0:Int),())) λr=>∃v e,r=(0,v,e,())/\W16 v/\0<=e/\e<=6:=λx h=>fO ⟨x,0,rfl,h,by decide,by decide⟩;have z5:Ok (some ((0:Int),(0:Int),(5:Int),())) λr=>∃v e,r=(0,v,e,())/\W16 v/\0<=e/\e<=6:=fO ⟨0,5,rfl,⟨by decide,by decide⟩,by decide,by decide⟩;have hw:=rX;unfold mN;refine fQ (λZ'=>?_) λZ'=>?_;exact ZT _ (rX _);refine fQ (λZ1=>?_) λZ1=>?_;exact ZT _ (rX _);refine fQ (λhcc=>?_) λhcc=>?_;exact ZT _ (rX _);have hq:∀X:Option (Int×Int×Int×Unit),c≠0->(X=(bif(op==6)then(bif(c != 0)then some ((0:Int),wk .u16 (Int.tdiv b c),(0:Int),())else none)else bif(c != 0)then some ((0:Int),Int.tmod b c,(0:Int),())else none))->Ok X λr=>∃v e,r=(0,v,e,())/\W16 v/\0<=e/\e<=6:=by rintro _ hne rfl;refine f8 (λ_=>fP (by rw[bne_iff_ne];exact hne) (ZT _ (rX _))) λ_=>fP (by rw[bne_iff_ne];exact hne) (ZT _ ?_);rw[oTE b0];have h1:=Int.emod_nonneg b hne;have h2:=Int.emod_lt_of_pos b (show 0<c by omega);exact⟨h1,by omega⟩
 refine fQ (λXE=>?_) λXE=>?_;refine fQ (λXo=>?_) λXo=>?_;exact z5;simp_all;refine fQ (λXE=>?_) λXE=>?_;refine fQ (λXo=>?_) λXo=>?_;exact z5;simp_all;refine fQ (λhcf=>?_) λhcf=>?_;exact ZT _ (hw _);refine fQ (λhcf=>?_) λhcf=>?_;exact ZT _ (hw _);refine fQ (λhcf=>?_) λhcf=>?_;exact ZT _ (hw _);refine fQ (λhcf=>?_) λhcf=>?_;rw[oTE c0];refine gR λj hj=>?_;exact ZT _ (hw _);refine fQ (λhcf=>?_) λhcf=>?_;rw[oTE c0];refine gR λj hj=>ZT _ ?_;show W16 (Int.fdiv b (2 ^ (min j 16)));have hp:(0:Int)<2 ^ (min j 16):=Int.pow_pos (by decide);rw[Int.fdiv_eq_ediv_of_nonneg _ (by omega)];exact⟨Int.ediv_nonneg b0 (by omega),by have:=Int.ediv_le_self (2 ^ (min j 16)) b0;omega⟩;rw[J3];refine ZT _ ?_;cases decide (b<c);exact⟨by decide,by decide⟩;exact⟨by decide,by decide⟩
def Sc(K:Int->Prop)(r:Int×Int×Int×Unit):Prop:=∃t v e,r=(t,v,e,())/\nP K (t,v)/\0<=e/\e<=6
theorem um{K:Int->Prop}{t v e:Int}(h:nP K (t,v))(h0:0<=e)(h1:e<=6):Ok (some (t,v,e,())) (Sc K):=fO ⟨t,v,e,rfl,h,h0,h1⟩
theorem AK{K:Int->Prop}{v:Int}(h:W16 v):nP K (0,v):=j7 h
theorem IF{K:Int->Prop}(b:Bool):nP K (0,bif b then 1 else 0):=AK (by cases b<;>exact⟨by decide,by decide⟩)
theorem wN{K:Int->Prop}:nP K (0,0):=AK ⟨by decide,by decide⟩
theorem Vw{ss bs:M_}{key op t v t' v':Int}(h:LV bs ss)(hb:nP (RK bs ss) (t,v))(hc:nP (RK bs ss) (t',v')):Ok (u4 bs key ss op t v t' v') (Sc (RK bs ss)):=by
 obtain⟨t0,t2,v0,v1,_⟩:=hb;obtain⟨u0,u2,w0,w1,_⟩:=hc;dsimp only at t0 t2 v0 v1 u0 u2 w0 w1;obtain⟨_,eN,n1,n2,rfl,Wz,hn2,hn3⟩:=Un (op:=op) (b:=v) (c:=v') ⟨v0,v1⟩ ⟨w0,w1⟩;obtain⟨_,eA,a1,a2,a3,rfl,YF,XY,ha3,_⟩:=Bn (key:=key) (tag:=t) (back:=false) h (v:=v) (n:=v') ⟨v0,v1⟩ ⟨w0,w1⟩;obtain⟨_,eB,b1,b2,b3,rfl,ZI,ZS,WM,_⟩:=Bn (key:=key) (tag:=t') (back:=false) h (v:=v') (n:=v) ⟨w0,w1⟩ ⟨v0,v1⟩;obtain⟨_,eC,c1,c2,c3,rfl,ZM,ZJ,hc3,_⟩:=Bn (key:=key) (tag:=t) (back:=true) h (v:=v) (n:=v') ⟨v0,v1⟩ ⟨w0,w1⟩;obtain⟨⟨p1,p2,p3,p4,ok,_⟩,eP,_⟩:=Rq (key:=key) (t:=t) (t':=t') h (v:=v) (v':=v') ⟨v0,v1⟩ ⟨w0,w1⟩;unfold u4;refine fQ (λZ'=>?_) λZ'=>?_;exact um wN (by decide) (by decide);refine fQ (λZ1=>?_) λZ1=>?_;exact um wN (by decide) (by decide);cases h14:(op==14)with
 |true=>simp only[oCT,J3,oBS];exact um (IF _) (by decide) (by decide)|false=>
 simp only[oCF,eN,eA,eB,eC,eP,oBS];rcases(show t=0\/t=1\/t=2 by omega)with rfl|rfl|rfl<;>rcases(show t'=0\/t'=1\/t'=2 by omega)with rfl|rfl|rfl
 all_goals cases h3:(op==3)<;>cases h4:(op==4)<;>cases h13:(op==13)<;>simp only[Int.reduceBEq,oCT,oCF,oBS,h3,h4,h13,J3,eN,eA,eB,eC,eP,BEq.rfl]
 all_goals first
  |exact um (AK Wz) hn2 hn3
  |exact um YF XY ha3
  |exact um ZI ZS WM
  |exact um ZM ZJ hc3
  |exact um wN (by decide) (by decide)
  |(cases ok<;>first
   |exact um wN (by decide) (by decide)
   |exact um (IF _) (by decide) (by decide)
   |exact um (AK (rX _)) (by decide) (by decide))
theorem Pg{l:M_}{k:Int}(h:DOk l k):Ok (pm l k) λr=>∃t b s k',r=(t,b,s,l,k',())/\0<=t/\t<4/\0<=b/\b<=63/\DOk l k':=by
 unfold pm;refine gI (by omega) (by omega) (by omega) λv0 k0 a0 b0 d0=>?_;try dsimp only
 refine gI (by omega) (by omega) (by omega) λv1 k1 a1 b1 d1=>?_;try dsimp only
 refine jm (by omega) λj1 hj1=>?_;try dsimp only
 have hm:∀x∈[(0:Int),1,2,3,7,63],0<=x/\x<=63:=by simp_all
 refine gP (by simp;omega) λx hx=>?_;refine gP (by simp;omega) λy hy=>?_;have WF:=hm y (fW hy);refine gI (by omega) (by omega) (by omega) λv2 k2 a2 b2 d2=>?_;try dsimp only
 exact fO ⟨_,_,_,_,rfl,a0,b0,WF.1,WF.2,d2⟩
def ky:J_->Int->M_| [],_=>[]|t::ts,i=>if t.1=1 then i::ky ts (i+1)else ky ts (i+1)
theorem Ew(a b:J_)(i:Int):ky (a++b) i=ky a i++ky b (i+a.length):=by induction a generalizing i with|nil=>simp[ky]|cons t a ih=>simp[ky,ih];rw[show i+1+(a.length:Int)=i+((a.length+1:Nat):Int) by omega];split<;>rfl
theorem DR(a:J_)(i:Int):(ky a i).length<=a.length:=by induction a generalizing i with|nil=>simp[ky]|cons t a ih=>simp[ky];have:=ih (i+1);split<;>simp<;>omega
theorem LT{a:J_}{i x:Int}(h:x∈ky a i):i<=x/\x<i+a.length/\∃t,a[(x-i).toNat]?=some t/\t.1=1:=by
 induction a generalizing i with
 |nil=>simp[ky]at h|cons t a ih=>
 simp[ky]at h;have key:x∈ky a (i+1)->i<=x/\x<i+((t::a).length:Int)/\∃t',(t::a)[(x-i).toNat]?=some t'/\t'.1=1:=by intro h;have ⟨h1,h2,t',h3,h4⟩:=ih h;refine⟨by omega,by simp;omega,t',?_,h4⟩;rw[show(x-i).toNat=(x-(i+1)).toNat+1 by omega,List.getElem?_cons_succ];exact h3
 split at h;rename_i ht;rcases oMC.1 h with rfl|h;exact⟨by omega,by simp;omega,t,by simp,ht⟩;exact key h;exact key h
theorem Ql{ts:J_}(h:ts.length<=1000):o4 ts=some (ky ts 0,()):=by
 have e:f9 j3 NN (ts,(ts.length:Int),0,[],())=some (ts,(ts.length:Int),(ts.length:Int),false,ky ts 0,()):=by
  have:=oy (f:=j3) (N:=NN) (st:=λk=>(ts,(ts.length:Int),(k:Int),ky (ts.take k) 0,())) (n:=ts.length) (t:=(ts,(ts.length:Int),(ts.length:Int),false,ky ts 0,())) (by unfold NN;omega) ?_ ?_;exact this;intro k hk;unfold j3;dsimp only;refine fQ (λZ'=>?_) λZ'=>?_;rw[fV];simp;obtain⟨x,hx⟩:=gr ts k hk;rw[show fR ts k=some x from hx];simp;have hlen:=DR (ts.take k) 0;rw[oLT]at hlen;have hnext:ky (ts.take (k+1)) 0=ky (ts.take k) 0++(if x.1=1 then[(k:Int)]else[]):=by rw[List.take_add_one,hx,Ew];congr 1;rw[oLT,show 0+((min k ts.length:Nat):Int)=(k:Int) by omega];simp only[Option.toList,ky]
  refine Ok.bind (P:=(·=(ts,(ts.length:Int),(k:Int),ky (ts.take (k+1)) 0,()))) ?_ ?_;refine fQ (λZ1=>?_) λZ1=>?_;refine fP (f7 (by simp;omega)) ?_;rw[hnext,oIP Z1];exact fO rfl;rw[hnext,oIN Z1,List.append_nil];exact fO rfl;rintro _ rfl
  (simp (disch:=omega) only [gw,gi,gc,ge])
  exact fO rfl;omega;unfold j3;dsimp only;refine fQ (λZ'=>?_) λZ'=>?_;omega;rw[List.take_length];exact fO rfl
 refine gQ ?_;unfold o4;delta fY;try dsimp only
 rw[e];exact fO rfl
theorem Cd{ow:M_}{qs:j_}(h:kt ow qs):ol ow qs=some (ow,qs,()):=by
 have hq4:∀q∈qs,q.length<=4:=λq hq=>h.qlen4 hq;obtain⟨h1,h2,h3,h4⟩:=h;have e:f9 kK NN (qs,(qs.length:Int),0,ow,qs,(),(),ow,[],())=some (qs,(qs.length:Int),(qs.length:Int),false,ow,qs,(),(),ow,qs,()):=by
  have:=oy (f:=kK) (N:=NN) (st:=λk=>(qs,(qs.length:Int),(k:Int),ow,qs,(),(),ow,qs.take k,())) (n:=qs.length) (t:=(qs,(qs.length:Int),(qs.length:Int),false,ow,qs,(),(),ow,qs,())) (by unfold NN;omega) ?_ ?_;exact this;intro k hk;unfold kK;refine fQ (λZ'=>?_) λZ'=>?_;rw[fV];refine fX λx hx=>?_;have:=hq4 x (fW hx);refine fP (f7 (by omega)) (fP (f7 (by simp;omega)) ?_)
  (simp (disch:=omega) only [gw,gi,gc,ge])
  refine fO ?_;rw[List.take_add_one,hx];rfl;omega;unfold kK;refine fQ (λZ'=>?_) λZ'=>?_;omega;rw[List.take_length];exact fO rfl
 refine gQ ?_;refine fP (f7 (by omega)) ?_;rw[show List.append [] ow=ow from rfl];delta fY;try dsimp only
 rw[e];exact fO rfl
theorem DV{q:M_}{x:Int}(h:q.Nodup)(hx:x ∉ q):(q++[x]).Nodup:=by grind
theorem gl{α:Type}{l:List α}{i:Nat}{a:α}(h:l[i]?=some a)(f:α->α):List.modify l i f=l.set i (f a):=by apply oEG;grind
theorem gX{α:Type}{l:List α}{i:Nat}(h:i<l.length)(a:α):fR (l.set i a) i=some a:=by show(l.set i a)[i]?=some a;simp_all
theorem pM{α:Type}{l:List α}{i:Nat}(h:i<l.length)(a:α)(f:α->α):List.modify (l.set i a) i f=l.set i (f a):=by rw[gl (gX h a),List.set_set]
theorem jQ{α:Type}{P:α->Prop}{l:List α}{i:Nat}{a:α}(h:∀x∈l,P x)(ha:P a):∀x∈l.set i a,P x:=by grind
theorem MOk.set{n:Int}{ss bs:M_}{cs Z9:C_}{ls Z8:G_}{ts:J_}(h:MOk n ss bs cs ls ts)(hm:i4 (RK bs ss) Z9 Z8){i:Nat}{t:DTh}(ht:zd (RK bs ss) n t):MOk n ss bs Z9 Z8 (ts.set i t):=⟨h.lay,hm,by rw[oLS];exact h.tlen,jQ h.thr ht⟩
def Wb(code:F_)(t:DTh)(s:Int)(t':DTh):Prop:=
 (s=-1/\t'.1=1/\((t'.2.2.2.1=t.2.2.2.1/\t'.2.2.1=t.2.2.1+1)\/t'.2.2.2.1=t.2.2.2.1+1))\/(s=2/\t'.1=4/\t'.2.2.2.1=t.2.2.2.1)\/
  (s=1/\t'.1=2/\t'.2.2.2.1=t.2.2.2.1/\∃i:DIn,1<=t'.2.2.1/\code[(t'.2.2.1-1).toNat]?=some i/\i.1=23)
def Kp(n key:Int)(code:F_)(ss bs:M_)(ts:J_)(i:Nat)(t:DTh)(r:Int×M_×Int×C_×G_×J_×Unit):Prop:=∃s Z9 Z8 t',r=(s,bs,key,Z9,Z8,ts.set i t',())/\i4 (RK bs ss) Z9 Z8/\zd (RK bs ss) n t'/\Wb code t s t'
theorem p9{n key:Int}{code:F_}{ss bs:M_}{ts:J_}{i:Nat}{t t':DTh}{Z9:C_}{Z8:G_}(hm:i4 (RK bs ss) Z9 Z8)(ht:zd (RK bs ss) n t')(h1:t'.1=1)
 (h:(t'.2.2.2.1=t.2.2.2.1/\t'.2.2.1=t.2.2.1+1)\/t'.2.2.2.1=t.2.2.2.1+1):Ok (some (-1,bs,key,Z9,Z8,ts.set i t',())) (Kp n key code ss bs ts i t):=fO ⟨_,_,_,_,rfl,hm,ht,.inl ⟨rfl,h1,h⟩⟩
theorem po{n key WZ:Int}{code:F_}{ss bs:M_}{ts:J_}{i:Nat}{t:DTh}{Z9:C_}{Z8:G_}(hm:i4 (RK bs ss) Z9 Z8)(ht:zd (RK bs ss) n t)(hw:0<=WZ/\WZ<=6):
 Ok (some (2,bs,key,Z9,Z8,ts.set i (4,t.2.1,t.2.2.1,t.2.2.2.1,t.2.2.2.2.1,t.2.2.2.2.2.1,WZ,0),())) (Kp n key code ss bs ts i t):=fO ⟨_,_,_,_,rfl,hm,ht.ended hw,.inr (.inl ⟨rfl,rfl,rfl⟩)⟩
theorem j8(op:Int):nV op=some (nL op||op==22||op==24,()):=by unfold nV;rw[wB];grind
set_option maxHeartbeats 4000000 in
theorem Um{n key:Int}{code:F_}{ss bs:M_}{d:j_}{cs:C_}{ls:G_}{ts:J_}{i:Nat}{t:DTh}(hp:kE code ss d)(h:MOk n ss bs cs ls ts)(ht:ts[i]?=some t)(hs:t.1=1) (hc:t.2.2.2.1+1<=n)(hn:n<=1099511627776):Ok (sc code ss d (i:Int) bs key cs ls ts) (Kp n key code ss bs ts i t):=by
 have hok:=h.thr t (fW ht);have hm:=h.mem;obtain⟨_,hl,hr,⟨p0,p1⟩,⟨c0,c1⟩,ha,⟨s0,s1⟩,⟨r0,r1⟩,hco⟩:=id hok;obtain⟨st,rs,pc,ct,hd,sa,tr,co⟩:=t;dsimp only at *;subst hs;have hil:=(oGS ht).1;have hg:fR ts i=some (1,rs,pc,ct,hd,sa,tr,co):=ht;have e1:∀f:DTh->DTh,List.modify ts i f=ts.set i (f (1,rs,pc,ct,hd,sa,tr,co)):=λf=>gl ht f;have e2:∀x,fR (ts.set i x) i=some x:=λx=>gX hil x;have e3:∀(x:DTh)(f:DTh->DTh),List.modify (ts.set i x) i f=ts.set i (f x):=λx f=>pM hil x f;have eT:∀WZ,it (i:Nat) WZ ts=some (2,ts.set i (4,rs,pc,ct,hd,sa,WZ,0),()):=λWZ=>by rw[Sl (n:=n) ht,e1]
 have mk:∀{rs':C_}{pc' ct' sa':Int},rs'.length=8->(∀c∈rs',nP (RK bs ss) c)->0<=pc'/\pc'<=255->0<=ct'/\ct'<=n->-1<=sa'/\sa'<=255->zd (RK bs ss) n (1,rs',pc',ct',hd,sa',tr,co):=λh1 h2 h3 h4 h5=>⟨⟨show(0:Int)<=1 by decide,show(1:Int)<=4 by decide⟩,h1,h2,h3,h4,ha,h5,⟨r0,r1⟩,hco⟩;unfold sc;rw[fV];delta fY;simp only[hg,oBS];refine fQ (λZ'=>?_) λZ'=>?_;rw[eT 2];exact po hm hok (by decide);refine jm p0 λj hj=>?_;subst hj;have Y6:=hp.clen;refine fX λx hx=>?_;obtain⟨op,A,B,C,I⟩:=x;obtain⟨⟨o0,o1⟩,⟨A0,A1,_⟩,⟨B0,B1,_⟩,⟨C0,C1,_⟩,⟨I0,I1,_⟩,hlea,hsys,hjmp⟩:=hp.ins _ (fW hx);dsimp only at *;obtain⟨A,rfl⟩:∃k:Nat,A=k:=⟨A.toNat,by omega⟩;obtain⟨B,rfl⟩:∃k:Nat,B=k:=⟨B.toNat,by omega⟩;obtain⟨C,rfl⟩:∃k:Nat,C=k:=⟨C.toNat,by omega⟩;obtain⟨I,rfl⟩:∃k:Nat,I=k:=⟨I.toNat,by omega⟩;obtain⟨⟨ta,va⟩,gA⟩:∃c,fR rs A=some c:=⟨_,oGE (by omega)⟩;obtain⟨⟨tb,vb⟩,gB⟩:∃c,fR rs B=some c:=⟨_,oGE (by omega)⟩;obtain⟨⟨tc,vc⟩,gC⟩:∃c,fR rs C=some c:=⟨_,oGE (by omega)⟩;have cA:=hr _ (fW gA);have cB:=hr _ (fW gB);have cC:=hr _ (fW gC);have eR:∀f:DCe->DCe,List.modify rs A f=rs.set A (f (ta,va)):=λf=>gl gA f;have w1:w64 ((j:Int)+1)=(j:Int)+1:=gw (by omega) (by omega);have wI:wk .u16 (I:Int)=I:=gi (by omega) (by omega);have Zd:∀{c:DCe},nP (RK bs ss) c->(rs.set A c).length=8/\∀x∈rs.set A c,nP (RK bs ss) x:=λhc=>⟨by rw[oLS];exact hl,jQ hr hc⟩;have wc:w64 (ct+1)=ct+1:=gw (by omega) (by omega);simp only[fV,hg,gA,gB,oBS,w1,wI];rcases(show op=0\/op=1\/op=2\/op=15\/op=16\/op=17\/op=18\/op=19\/op=20\/op=21\/op=22\/op=23\/op=24\/(3<=op/\op<=14) by omega)with rfl|rfl|rfl|rfl|rfl|rfl|rfl|rfl|rfl|rfl|rfl|rfl|rfl|⟨q0,q1⟩;all_goals try simp only[Int.reduceBEq,oCT,oCF,fV,hg,gA,gB,gC,e1,e2,e3,eR,eT,oBS,w1,wI,wc,j8,nL,Bool.or_false,Bool.or_true,Bool.or_self,oBN]
 exact p9 hm (mk hl hr (by omega) (by omega) (by omega)) rfl (.inl ⟨rfl,rfl⟩);exact p9 hm (mk (Zd (j7 (by omega))).1 (Zd (j7 (by omega))).2 (by omega) (by omega) (by omega)) rfl (.inl ⟨rfl,rfl⟩);exact p9 hm (mk (Zd cB).1 (Zd cB).2 (by omega) (by omega) (by omega)) rfl (.inl ⟨rfl,rfl⟩);have hI:=hlea rfl;have hbl:=h.lay.2.1;obtain⟨b,hb⟩:=gr bs I (by omega);obtain⟨z,hz⟩:=gr ss I (by omega);have Yi:=h.lay.2.2 I (by omega);unfold wM at Yi;rw[gp hb,gp hz]at Yi;have Xm:=h.lay.1.2.2 z (fW hz);have wb:wk .u16 b=b:=gi (by omega) (by omega);have gb:fR bs I=some b:=hb;simp only[gb,wb,Int.reduceBEq,oCT,oCF,fV,hg,gA,gB,gC,e1,e2,e3,eR,eT,oBS,w1,wI,wc,j8,nL,Bool.or_false,Bool.or_true,Bool.or_self,oBN];have Z1:nP (RK bs ss) (1,b):=⟨by dsimp only;omega,by dsimp only;omega,by dsimp only;omega,by dsimp only;omega,λ_=>⟨I,b,z,hb,hz,by dsimp only;omega,by dsimp only;omega⟩⟩;exact p9 hm (mk (Zd Z1).1 (Zd Z1).2 (by omega) (by omega) (by omega)) rfl (.inl ⟨rfl,rfl⟩);obtain⟨_,em,t1,x1,e,rfl,ZM,he0,he6,Wk⟩:=Bn (key:=key) (tag:=tb) (v:=vb) (n:=(I:Int)) (back:=false) h.lay ⟨cB.2.2.1,cB.2.2.2.1⟩ ⟨by omega,by omega⟩;simp only[em,oBS];by_cases hne:e=0;subst hne;have wx:wk .i64 x1=x1:=gc (by have:=ZM.2.2.1;dsimp only at this;omega) (by have:=ZM.2.2.2.1;dsimp only at this;omega);obtain⟨_,el,t2,x2,W1,Xe,rfl,ZJ,hm2⟩:=Oy (a:=x1) hm ⟨ZM.2.2.1,Wk rfl⟩;simp only[wx,el,Int.reduceBEq,oCT,oCF,fV,hg,gA,gB,gC,e1,e2,e3,eR,eT,oBS,w1,wI,wc,j8,nL,Bool.or_false,Bool.or_true,Bool.or_self,oBN];exact p9 hm2 (mk (Zd ZJ).1 (Zd ZJ).2 (by omega) (by omega) (by omega)) rfl (.inl ⟨rfl,rfl⟩);simp only[bne_iff_ne.2 hne,oCT];exact po hm hok ⟨he0,he6⟩;obtain⟨_,em,t1,x1,e,rfl,ZM,he0,he6,Wk⟩:=Bn (key:=key) (tag:=ta) (v:=va) (n:=(I:Int)) (back:=false) h.lay ⟨cA.2.2.1,cA.2.2.2.1⟩ ⟨by omega,by omega⟩;simp only[em,oBS];by_cases hne:e=0;subst hne;have wx:wk .i64 x1=x1:=gc (by have:=ZM.2.2.1;dsimp only at this;omega) (by have:=ZM.2.2.2.1;dsimp only at this;omega);obtain⟨_,el,W1,Xe,rfl,hm2⟩:=yA (a:=x1) (t:=tb) (v:=vb) hm ⟨ZM.2.2.1,Wk rfl⟩ cB;simp only[wx,el,Int.reduceBEq,oCT,oCF,fV,hg,gA,gB,gC,e1,e2,e3,eR,eT,oBS,w1,wI,wc,j8,nL,Bool.or_false,Bool.or_true,Bool.or_self,oBN];exact p9 hm2 (mk hl hr (by omega) (by omega) (by omega)) rfl (.inl ⟨rfl,rfl⟩);simp only[bne_iff_ne.2 hne,oCT];exact po hm hok ⟨he0,he6⟩;have:=hjmp (by decide);exact p9 hm (mk hl hr (by omega) (by omega) (by omega)) rfl (.inr rfl);have:=hjmp (by decide);by_cases hta:ta=0;subst hta;cases va==0 with|true=>simp only[BEq.rfl,Int.reduceBEq,oCT,oCF,fV,hg,gA,gB,gC,e1,e2,e3,eR,eT,oBS,w1,wI,wc,j8,nL,Bool.or_false,Bool.or_true,Bool.or_self,oBN];exact p9 hm (mk hl hr (by omega) (by omega) (by omega)) rfl (.inr rfl)|false=>simp only[show(false==true)=false from rfl,Int.reduceBEq,oCT,oCF,fV,hg,gA,gB,gC,e1,e2,e3,eR,eT,oBS,w1,wI,wc,j8,nL,Bool.or_false,Bool.or_true,Bool.or_self,oBN];exact p9 hm (mk hl hr (by omega) (by omega) (by omega)) rfl (.inr rfl)
 simp only[bne_iff_ne.2 hta,oCT];exact po hm hok (by decide);have:=hjmp (by decide);by_cases hta:ta=0;subst hta;cases va==0 with|true=>simp only[show(true==false)=false from rfl,Int.reduceBEq,oCT,oCF,fV,hg,gA,gB,gC,e1,e2,e3,eR,eT,oBS,w1,wI,wc,j8,nL,Bool.or_false,Bool.or_true,Bool.or_self,oBN];exact p9 hm (mk hl hr (by omega) (by omega) (by omega)) rfl (.inr rfl)|false=>simp only[BEq.rfl,Int.reduceBEq,oCT,oCF,fV,hg,gA,gB,gC,e1,e2,e3,eR,eT,oBS,w1,wI,wc,j8,nL,Bool.or_false,Bool.or_true,Bool.or_self,oBN];exact p9 hm (mk hl hr (by omega) (by omega) (by omega)) rfl (.inr rfl)
 simp only[bne_iff_ne.2 hta,oCT];exact po hm hok (by decide);have:=hjmp (by decide);have wj:wk .u16 ((j:Int)+1)=(j:Int)+1:=gi (by omega) (by omega);rw[wj];exact p9 hm (mk (Zd (j7 (by omega))).1 (Zd (j7 (by omega))).2 (by omega) (by omega) (by omega)) rfl (.inr rfl);by_cases hta:ta=0;subst hta;have wa:wk .i64 va=va:=gc (by have:=cA.2.2.1;dsimp only at this;omega) (by have:=cA.2.2.2.1;dsimp only at this;omega);have a0:=cA.2.2.1;dsimp only at a0;by_cases hva:va>255;simp only[oDT hva,oBN,oCT,oCF];exact po hm hok (by decide);simp only[oDF hva,wa,Int.reduceBEq,oCT,oCF,fV,hg,gA,gB,gC,e1,e2,e3,eR,eT,oBS,w1,wI,wc,j8,nL,Bool.or_false,Bool.or_true,Bool.or_self,oBN];exact p9 hm (mk hl hr (by omega) (by omega) (by omega)) rfl (.inr rfl);simp only[bne_iff_ne.2 hta,oCT];exact po hm hok (by decide);refine fO ⟨_,_,_,_,rfl,hm,⟨⟨show(0:Int)<=2 by decide,show(2:Int)<=4 by decide⟩,hl,hr,⟨by dsimp only;omega,by dsimp only;omega⟩,⟨c0,by dsimp only;omega⟩,ha,⟨s0,s1⟩,⟨r0,r1⟩,hco⟩,.inr (.inr ⟨rfl,rfl,rfl,(23,(A:Int),(B:Int),(C:Int),(I:Int)),by dsimp only;omega,?_,rfl⟩)⟩;dsimp only;rw[show(j:Int)+1-1=(j:Int) by omega,oTN];exact hx;by_cases hsa:sa=-1;simp only[beq_iff_eq.2 hsa,oCT];exact po hm hok (by decide);simp only[oBF hsa,Int.reduceBEq,oCT,oCF,fV,hg,gA,gB,gC,e1,e2,e3,eR,eT,oBS,w1,wI,wc,j8,nL,Bool.or_false,Bool.or_true,Bool.or_self,oBN];exact p9 hm (mk hl hr (by omega) (by omega) (by omega)) rfl (.inr rfl);obtain⟨_,ed,t1,x1,e,rfl,ZM,he0,he6⟩:=Vw (key:=key) (op:=op) h.lay cB cC;have n0:(op==0)=false:=oBF (by omega);have n1:(op==1)=false:=oBF (by omega);have n2:(op==2)=false:=oBF (by omega);have n15:(op==15)=false:=oBF (by omega);have n16:(op==16)=false:=oBF (by omega);have n17:(op==17)=false:=oBF (by omega);have n18:(op==18)=false:=oBF (by omega);have n19:(op==19)=false:=oBF (by omega);have n20:(op==20)=false:=oBF (by omega);have n21:(op==21)=false:=oBF (by omega);have n22:(op==22)=false:=oBF (by omega);have n23:(op==23)=false:=oBF (by omega);have n24:(op==24)=false:=oBF (by omega);simp only[n0,n1,n2,n15,n16,n17,n18,n19,n20,n21,n22,n23,n24,ed,Int.reduceBEq,oCT,oCF,fV,hg,gA,gB,gC,e1,e2,e3,eR,eT,oBS,w1,wI,wc,j8,nL,Bool.or_false,Bool.or_true,Bool.or_self,oBN];by_cases hne:e=0;subst hne;simp only[n18,n19,n20,n21,n22,n24,Int.reduceBEq,oCT,oCF,fV,hg,gA,gB,gC,e1,e2,e3,eR,eT,oBS,w1,wI,wc,j8,nL,Bool.or_false,Bool.or_true,Bool.or_self,oBN];exact p9 hm (mk (Zd ZM).1 (Zd ZM).2 (by omega) (by omega) (by omega)) rfl (.inl ⟨rfl,rfl⟩);simp only[bne_iff_ne.2 hne,oCT];exact po hm hok ⟨he0,he6⟩
theorem zd.mono{K:Int->Prop}{n m:Int}{t:DTh}(h:zd K n t)(hm:n<=m):zd K m t:=⟨h.state,h.len,h.regs,h.pc,⟨h.count.1,by have:=h.count.2;omega⟩,h.handler,h.saved,h.trap,h.code⟩
theorem MOk.mono{n m:Int}{ss bs:M_}{cs:C_}{ls:G_}{ts:J_}(h:MOk n ss bs cs ls ts)(hm:n<=m):MOk m ss bs cs ls ts:=⟨h.lay,h.mem,h.tlen,λt ht=>(h.thr t ht).mono hm⟩
theorem Ep{α:Type}{l:List α}{i:Nat}{a:α}(h:l[i]?=some a):l.set i a=l:=by apply oEG;grind
def VN(code:F_)(s:Int)(t':DTh):Prop:=(s=0/\t'.1=1)\/(s=2/\t'.1=4)\/(s=1/\t'.1=2/\∃i:DIn,1<=t'.2.2.1/\code[(t'.2.2.1-1).toNat]?=some i/\i.1=23)
def TJ(n key:Int)(code:F_)(ss bs:M_)(ts:J_)(i:Nat)(r:M_×Int×C_×G_×J_×Int×Int×Unit):Prop:=∃s Z9 Z8 t',r=(bs,key,Z9,Z8,ts.set i t',s,0,())/\i4 (RK bs ss) Z9 Z8/\zd (RK bs ss) n t'/\((s=3/\ts[i]?=some t'/\t'.1≠1)\/VN code s t')
abbrev g_:=List v_
def Vl(i:Nat)(s:Int×Int×F_×v_×g_×Unit×Int×Unit×Unit×Unit×v_×Int×C_×G_×J_×Unit):Nat:=match s.2.2.2.2.2.2.2.2.2.2.2.2.2.2.1[i]? with|some t=>((s.2.1-t.2.2.2.1)*256+(255-t.2.2.1)).toNat|none=>0
theorem I9{i:Nat}{a b k:Int}{code:F_}{ss bs:M_}{d:j_}{cs:C_}{ls:G_}{ts:J_}{t:DTh}(h:ts[i]?=some t):Vl i (a,b,code,ss,d,(),0,(),(),(),bs,k,cs,ls,ts,())=((b-t.2.2.2.1)*256+(255-t.2.2.1)).toNat:=by unfold Vl;simp_all
theorem PQ{n key k:Int}{code:F_}{ss bs:M_}{d:j_}{cs:C_}{ls:G_}{ts:J_}{i:Nat}(hp:kE code ss d)(h:MOk n ss bs cs ls ts)(hn0:0<=n)(hn:n+64<=1099511627776)(hi:i<4)(hk:1<=k/\k<=64):Ok (oY code ss d bs key cs ls ts (i:Int) k) (TJ (n+64) key code ss bs ts i):=by
 have Yp:=h.tlen;obtain⟨t,ht⟩:=gr ts i (by omega);have hg:fR ts i=some t:=ht;have hil:i<ts.length:=by omega
 have hok:=h.thr t (fW ht);unfold oY;rw[uV hp h (by omega)];simp;rw[oDF (show ¬(i:Int)<0 by omega),oDF (show ¬(i:Int)>=4 by omega),oDF (show ¬k<1 by omega),oDF (show ¬k>64 by omega)];simp only[oBS,oCF,xI h,fV,hg];refine fQ (λZ'=>?_) λZ'=>?_;refine fO ⟨3,cs,ls,t,?_,h.mem,hok.mono (by omega),.inl ⟨rfl,ht,Z'⟩⟩;rw[Ep ht];have hct:=hok.count;have hpc:=hok.pc;rw[iA (x:=t.2.2.2.1+k)];refine gL (P:=λs'=>∃Z9 Z8 t',s'=((i:Int),t.2.2.2.1+k,code,ss,d,(),0,(),(),(),bs,key,Z9,Z8,ts.set i t',())/\i4 (RK bs ss) Z9 Z8/\zd (RK bs ss) (n+64) t'/\t'.1=1/\t'.2.2.2.1<t.2.2.2.1+k)
  (R:=λr=>∃s Z9 Z8 t',r=(s,0,bs,key,Z9,Z8,ts.set i t',())/\i4 (RK bs ss) Z9 Z8/\zd (RK bs ss) (n+64) t'/\VN code s t') (m:=Vl i) ⟨cs,ls,t,by rw[Ep ht],h.mem,hok.mono (by omega),Z',by omega⟩ ?_ ?_ ?_
 rw[I9 ht];unfold NN;omega;rintro _ ⟨Z9,Z8,t',rfl,hm,Zp,hr,hlt⟩;have ZU:(ts.set i t')[i]?=some t':=gX hil t';unfold s8;dsimp only;refine(Um hp (((h.mono (show n<=n+64 by omega)).set hm Zp):MOk (n+64) ss bs Z9 Z8 (ts.set i t')) ZU hr (by omega) (by omega)).bind ?_;rintro _ ⟨s,W1,Xe,t2,rfl,hm2,QA,YV⟩;dsimp only;rw[List.set_set];refine fQ (λZ1=>?_) λZ1=>?_;refine fO ⟨_,_,_,_,rfl,hm2,QA,?_⟩;rcases YV with⟨q,_⟩|⟨q1,q2,_⟩|⟨q1,q2,_,q3⟩;exact absurd q Z1;exact .inr (.inl ⟨q1,q2⟩);exact .inr (.inr ⟨q1,q2,q3⟩);rw[fV];simp only[oBS,gX hil];have h0:=QA.count;have h1:=QA.pc;have h2:=Zp.pc;rcases YV with⟨_,q1,q2⟩|⟨q1,_⟩|⟨q1,_⟩;refine fQ (λhcc=>?_) λhcc=>?_;exact fO ⟨_,_,_,_,rfl,hm2,QA,.inl ⟨rfl,q1⟩⟩;refine fO ⟨⟨_,_,_,rfl,hm2,QA,q1,by omega⟩,?_⟩;rw[I9 ZU,I9 (gX hil t2)];omega;omega;omega;rintro _ ⟨s,Z9,Z8,t',rfl,hm,Zp,hs⟩;exact fO ⟨_,_,_,_,rfl,hm,Zp,.inr hs⟩
def NQ(bs ss:M_)(a:Int):Nat->Nat->Option (Int×Int)|0,_=>none|n+1,k=>if bs.getD k 0<=a/\a<bs.getD k 0+ss.getD k 0 then some ((k:Int),a-bs.getD k 0)else NQ bs ss a n (k+1)
def MU(bs ss:M_)(a:Int):Option (Int×Int):=NQ bs ss a bs.length 0
theorem NP{bs ss:M_}{a r o:Int}:∀{n k:Nat},k+n=bs.length->bs.length=ss.length->NQ bs ss a n k=some (r,o)->∃(j:Nat)(b z:Int),r=j/\o=a-b/\bs[j]?=some b/\ss[j]?=some z/\b<=a/\a<b+z:=by
 intro n;induction n with
 |zero=>intro k _ _ h;cases h|succ n ih=>
 intro k hk hl h;simp only[NQ]at h;split at h
 ·rename_i hh
  injection h with h
  injection h with h1 h2
  refine⟨k,_,_,h1.symm,h2.symm,?_,?_,hh.1,hh.2⟩
  all_goals rw[O2 (by omega)];exact oGE (by omega)
 exact ih (by omega) hl h
theorem GX{bs ss:M_}{a:Int}:∀{n k:Nat},k+n=bs.length->NQ bs ss a n k=none->∀(j:Nat)(b z:Int),k<=j->bs[j]?=some b->ss[j]?=some z->¬(b<=a/\a<b+z):=by intro n;induction n with|zero=>simp_all|succ n ih=>intro k hk h j b z hj hb hz;simp[NQ]at h;split at h;cases h;rename_i hh;by_cases hjk:j=k;simp_all;exact ih (by omega) h j b z (by omega) hb hz
theorem wY{bs ss:M_}{a r o:Int}(hl:bs.length=ss.length)(h:MU bs ss a=some (r,o)):∃(j:Nat)(b z:Int),r=j/\o=a-b/\bs[j]?=some b/\ss[j]?=some z/\b<=a/\a<b+z:=NP (by omega) hl h
theorem NR{bs ss:M_}{a:Int}(h:RK bs ss a):∃r o,MU bs ss a=some (r,o):=by cases e:MU bs ss a with|some x=>exact⟨x.1,x.2,rfl⟩|none=>have ⟨j,b,z,h1,h2,h3,h4⟩:=h;exact absurd ⟨h3,h4⟩ (GX (by omega) e j b z (by omega) h1 h2)
theorem yJ{bs ss:M_}{key a:Int}(h:LV bs ss)(ha:W16 a):gS bs key ss a=some (match MU bs ss a with|some (r,o)=>(r,o,true,())|none=>(0,0,false,())):=by
 obtain⟨hs,hl,hr⟩:=h;obtain⟨a0,a1⟩:=ha;have WV:=hs.2.1;have key1:∀(n k N:Nat),k+n=bs.length->n<N->f9 gH N (ss,a,bs,(bs.length:Int),(k:Int),bs,key,0,0,())=some (match NQ bs ss a n k with|some (r,o)=>.inl (true,r,o,())|none=>.inr (ss,a,bs,(bs.length:Int),(bs.length:Int),false,bs,key,0,0,())):=by
  intro n;induction n with
  |zero=>
  intro k N hk hN;obtain⟨N,rfl⟩:∃M,N=M+1:=⟨N-1,by omega⟩;obtain rfl:k=bs.length:=by omega
  have e:gH (ss,a,bs,(bs.length:Int),(bs.length:Int),bs,key,0,0,())=some (.inr (.inr (ss,a,bs,(bs.length:Int),(bs.length:Int),false,bs,key,0,0,()))):=by refine gQ ?_;unfold gH;dsimp only;refine fQ (λZ'=>?_) λZ'=>?_;omega;exact fO rfl
  simp only[f9,e,oBS,NQ]
  |succ n ih=>
  intro k N hk hN;obtain⟨N,rfl⟩:∃M,N=M+1:=⟨N-1,by omega⟩;obtain⟨b,hb⟩:=gr bs k (by omega);obtain⟨z,hz⟩:=gr ss k (by omega);have Xm:=hs.2.2 z (fW hz);have hrk:=hr k (by omega);unfold wM at hrk;rw[gp hb,gp hz]at hrk;by_cases hh:b<=a/\a<b+z;have e:gH (ss,a,bs,(bs.length:Int),(k:Int),bs,key,0,0,())=some (.inr (.inl (true,(k:Int),a-b,()))):=by refine gQ ?_;unfold gH;dsimp only;rw[oDT (show(k:Int)<bs.length by omega),fV];simp only[oCT,oBS,show fR bs k=some b from hb,show fR ss k=some z from hz];rw[oDT (show a>=b by omega),iA (x:=b+z),oDT hh.2,iA (x:=a-b)];exact fO rfl
  simp only[f9,e,oBS,NQ,gp hb,gp hz,oIP hh];have e:gH (ss,a,bs,(bs.length:Int),(k:Int),bs,key,0,0,())=some (.inl (ss,a,bs,(bs.length:Int),((k+1:Nat):Int),bs,key,0,0,())):=by refine gQ ?_;unfold gH;dsimp only;rw[oDT (show(k:Int)<bs.length by omega),fV];simp only[oCT,oBS,show fR bs k=some b from hb,show fR ss k=some z from hz];rw[iA (x:=b+z)];by_cases h1:a>=b;rw[oDT h1,oDF (show ¬a<b+z by omega)];simp only[oCT,oCF];rw[iA (x:=(k:Int)+1)];exact fO rfl;rw[oDF h1];simp only[oCF];rw[iA (x:=(k:Int)+1)];exact fO rfl
  simp only[f9,e,oBS,NQ,gp hb,gp hz,oIN hh];exact ih (k+1) N (by omega) (by omega)
 unfold gS MU;delta fY;try dsimp only
 rw[show f9 gH NN (ss,a,bs,(bs.length:Int),0,bs,key,0,0,())=_ from key1 bs.length 0 NN (by omega) (by unfold NN;omega)];cases NQ bs ss a bs.length 0 with|some x=>rfl|none=>rfl
def rM(bs ss:M_)(key:Int)(c:DCe):DCn:=if c.1=0 then(0,c.2,0,0)else if c.1=2 then(2,wk .u16 (c.2-key),0,0)else match MU bs ss c.2 with|some (r,o)=>(1,0,r,o)|none=>(1,0,-1,c.2)
theorem rL{K:Int->Prop}{bs ss:M_}{key:Int}{c:DCe}(h:LV bs ss)(hc:nP K c):jc bs key ss c.1 c.2=some ((rM bs ss key c).1,(rM bs ss key c).2.1,(rM bs ss key c).2.2.1,(rM bs ss key c).2.2.2,()):=by
 have ⟨c0,c1,c2,c3,_⟩:=hc;unfold jc rM;rw[gc (by omega) (by omega)];dsimp only;rw[yJ h ⟨c2,c3⟩];rcases(show c.1=0\/c.1=1\/c.1=2 by omega)with e|e|e<;>rw[e]
 rfl;simp;cases MU bs ss c.2 with|some x=>rfl|none=>rfl
 rfl
theorem jW(x:Int):W16 (wk .u16 x):=rX x
theorem Gt{bs ss:M_}{key:Int}{c:DCe}(h:LV bs ss)(hc:nP (RK bs ss) c):Pr ss (rM bs ss key c):=by have ⟨c0,c1,c2,c3,c4⟩:=hc;unfold rM;rcases(show c.1=0\/c.1=1\/c.1=2 by omega)with e|e|e;rw[oIP e];exact .inl ⟨.inl rfl,rfl,rfl,c2,c3⟩;rw[oIN (by omega),oIN (by omega)];have ⟨r,o,hro⟩:=NR (c4 e);rw[hro];obtain⟨j,b,z,rfl,rfl,h1,h2,h3,h4⟩:=wY h.2.1 hro;exact .inr ⟨rfl,rfl,by simp_all,z,by simp_all,by simp_all,by dsimp only;omega⟩;rw[oIN (by omega),oIP e];exact .inl ⟨.inr rfl,rfl,rfl,jW _⟩
theorem AW{K:Int->Prop}{bs ss:M_}{key:Int}{c:DCe}(hc:nP K c):(rM bs ss key c).1=c.1/\(c.1=0->(rM bs ss key c).2.1=c.2):=by
 have ⟨c0,c1,_⟩:=hc;unfold rM;rcases(show c.1=0\/c.1=1\/c.1=2 by omega)with e|e|e;simp_all;rw[oIN (by omega),oIN (by omega)];cases MU bs ss c.2 with|some x=>simp_all|none=>simp_all
 simp_all
def oO(cs:C_)(ls:G_)(a:Int):DCe:=match ls[(a/4%4).toNat]? with|some x=>if x.1=a/4 then x.2.2.getD (a%4).toNat (0,0)else cs.getD a.toNat (0,0)|none=>(0,0)
theorem getD_some{α:Type}{l:List α}{k:Nat}{d x:α}(h:l[k]?=some x):l.getD k d=x:=by simp_all
theorem EF{K:Int->Prop}{cs:C_}{ls:G_}{a:Int}(h:i4 K cs ls)(ha:0<=a/\a<512):ot cs ls a=some ((oO cs ls a).1,(oO cs ls a).2,())/\nP K (oO cs ls a):=by obtain⟨a0,a1⟩:=ha;obtain⟨h1,h2,h3,h4,_⟩:=id h;unfold ot oO;rw[Int.tdiv_eq_ediv_of_nonneg a0,iA (x:=a/4)];dsimp only;rw[oTE (show 0<=a/4 by omega),oTE a0];obtain⟨i,hi⟩:∃i:Nat,a/4%4=i:=⟨(a/4%4).toNat,by omega⟩;rw[hi,fV,oTN];obtain⟨x,hx⟩:=gr ls i (by omega);simp only[oBS,show fR ls i=some x from hx,hx];by_cases hq:x.1=a/4;rcases h4 i x hx with⟨g,_,_⟩|⟨_,_,_,g4,g5⟩;omega;obtain⟨j,hj⟩:∃j:Nat,a%4=j:=⟨(a%4).toNat,by omega⟩;obtain⟨y,hy⟩:=gr x.2.2 j (by omega);rw[hj,fV,oTN,oIP hq,getD_some hy,beq_iff_eq.2 hq];simp only[oCT,oBS,show fR x.2.2 j=some y from hy];exact⟨trivial,g5 y (fW hy)⟩;obtain⟨j,rfl⟩:∃j:Nat,a=j:=⟨a.toNat,by omega⟩;obtain⟨y,hy⟩:=gr cs j (by omega);rw[oIN hq,oBF hq,fV,oTN,getD_some hy];simp only[oCF,oBS,show fR cs j=some y from hy];exact⟨trivial,h2 y (fW hy)⟩
def kB(call:Int):M_:=
 if call=0\/call=8\/call=9\/call=11\/call=12 then[78]else if call=1\/call=2 then[72,80,78]else if call=3 then[78,78]else if call=4 then[72]else if call=5 then[72,78]
 else if call=10 then[78,88]else if call=13\/call=14 then[78,80,78]else[]
theorem OH(call:Int):(kB call).length<=3:=by
 unfold kB;repeat' split
 all_goals simp
def BOk(b:ByteArray)(l:M_):Prop:=A6 b=(l.length:Int)/\∀j:Nat,DK b j=l[j]?
theorem V7:BOk (bytes []) []:=⟨rfl,λj=>rfl⟩
theorem V6{a:Nat}(h:a<256):BOk (bytes [a]) [(a:Int)]:=⟨rfl,λj=>by
 match j with
 |0=>show some (((UInt8.ofNat a).toNat:Nat):Int)=some (a:Int);simp;omega
 |n+1=>rfl⟩
theorem V5{a b:Nat}(h:a<256)(hb:b<256):BOk (bytes [a,b]) [(a:Int),(b:Int)]:=⟨rfl,λj=>by
 match j with
 |0=>show some (((UInt8.ofNat a).toNat:Nat):Int)=some (a:Int);simp;omega
 |1=>show some (((UInt8.ofNat b).toNat:Nat):Int)=some (b:Int);simp;omega
 |n+2=>rfl⟩
theorem V4{a b c:Nat}(h:a<256)(hb:b<256)(hc:c<256):BOk (bytes [a,b,c]) [(a:Int),(b:Int),(c:Int)]:=⟨rfl,λj=>by
 match j with
 |0=>show some (((UInt8.ofNat a).toNat:Nat):Int)=some (a:Int);simp;omega
 |1=>show some (((UInt8.ofNat b).toNat:Nat):Int)=some (b:Int);simp;omega
 |2=>show some (((UInt8.ofNat c).toNat:Nat):Int)=some (c:Int);simp;omega
 |n+3=>rfl⟩
theorem qg{call:Int}(h:0<=call/\call<=15):call=0\/call=1\/call=2\/call=3\/call=4\/call=5\/call=6\/call=7\/call=8\/call=9\/call=10\/call=11\/call=12\/call=13\/call=14\/call=15:=by omega
theorem EJ{call:Int}(h:0<=call/\call<=15):∃b,mL call=some (b,())/\BOk b (kB call):=by
 rcases qg h with rfl|rfl|rfl|rfl|rfl|rfl|rfl|rfl|rfl|rfl|rfl|rfl|rfl|rfl|rfl|rfl;all_goals first
  |exact⟨_,rfl,V7⟩
  |exact⟨_,rfl,V6 (by decide)⟩
  |exact⟨_,rfl,V5 (by decide) (by decide)⟩
  |exact⟨_,rfl,V4 (by decide) (by decide) (by decide)⟩
def Mz(k t:Int):Bool:=if k=78 then t==0 else if k=72 then t==2 else if k=80 then t==1 else true
theorem O6(k t:Int):oo k t=some (Mz k t,()):=by unfold oo Mz;by_cases h1:k=78;simp[h1];by_cases h2:k=72;simp[h2];by_cases h3:k=80;simp[h3];simp[h1,h2,h3,oBF h1,oBF h2,oBF h3]
def rS(call:Int):Int:=if call=1\/call=13 then 1 else if call=2\/call=14 then 2 else 0
theorem rP{call:Int}(h:0<=call/\call<=15):ki call=some (rS call,()):=by rcases qg h with rfl|rfl|rfl|rfl|rfl|rfl|rfl|rfl|rfl|rfl|rfl|rfl|rfl|rfl|rfl|rfl<;>rfl
theorem Ah{call:Int}(h:0<=call/\call<=15):jx call=some (((kB call).length:Int),()):=by have ⟨b,e,hb⟩:=EJ h;unfold jx;rw[oDF (show ¬call<0 by omega),oDF (show ¬call>15 by omega),e];simp[hb.1]
theorem MW{bs ss:M_}{key t v n:Int}(h:LV bs ss)(hv:W16 v)(hn:0<=n/\n<=65535):Ok (nU bs key ss t v n) λr=>∃a e,r=(a,e,())/\(e=0->t=1/\a=v/\∃(j:Nat)(b z:Int),bs[j]?=some b/\ss[j]?=some z/\b<=v/\v+n<=b+z/\v<b+z):=by obtain⟨v0,v1⟩:=hv;unfold nU;refine fQ (λZ'=>?_) λZ'=>?_;exact fO ⟨_,_,rfl,λh=>by omega⟩;rw[gc (x:=v) (by omega) (by omega)];dsimp only;rw[yJ h ⟨v0,v1⟩];simp only[oBS];cases e:MU bs ss v with|none=>exact fO ⟨_,_,rfl,λh=>by omega⟩|some x=>obtain⟨r,o⟩:=x;obtain⟨j,b,z,rfl,rfl,h1,h2,h3,h4⟩:=wY h.2.1 e;have hj:=(oGS h1).1;have hr:=h.2.2 j hj;unfold wM at hr;rw[gp h1,gp h2]at hr;rw[oDF (show ¬n<0 by omega),fV];simp only[oNT,oCF,oBS,show fR ss j=some z from h2];rw[iA (x:=z-(v-b))];refine fQ (λZ1=>?_) λZ1=>?_;exact fO ⟨_,_,rfl,λh=>by omega⟩;exact fO ⟨_,_,rfl,λ_=>⟨Z',gc (by omega) (by omega),j,b,z,h1,h2,h3,by omega,h4⟩⟩
structure PA (call:Int)(m:Int)(bs ss:M_)(rs:C_):Prop where
 fit:∀(j:Nat) k c,(kB call)[j]?=some k->rs[j]?=some c->Mz k c.1=true
 buf:0<rS call->∃p q,rs[1]?=some p/\rs[2]?=some q/\q.2<=16/\p.1=1/\∃(j:Nat)(b z:Int),bs[j]?=some b/\ss[j]?=some z/\b<=p.2/\p.2+q.2<=b+z
 code:call=10\/call=12->∃c,rs[0]?=some c/\c.2<m
theorem Kj{call m:Int}{bs ss:M_}{rs:C_}(h:PA call m bs ss rs):Ok (some ((0:Int),())) λr=>∃e,r=(e,())/\0<=e/\e<=6/\(e=0->PA call m bs ss rs):=fO ⟨0,rfl,by decide,by decide,λ_=>h⟩
theorem Ci{call m:Int}{bs ss:M_}{rs:C_}:Ok (some ((6:Int),())) λr=>∃e,r=(e,())/\0<=e/\e<=6/\(e=0->PA call m bs ss rs):=fO ⟨6,rfl,by decide,by decide,λh=>absurd h (by decide)⟩
theorem ML{n key:Int}{code:F_}{ss bs:M_}{d:j_}{cs:C_}{ls:G_}{ts:J_}{i:Nat}{t:DTh}{x:DIn}(h:MOk n ss bs cs ls ts)(ht:ts[i]?=some t)(hp1:1<=t.2.2.1) (hx:code[(t.2.2.1-1).toNat]?=some x)(hc:0<=x.2.2.2.2/\x.2.2.2.2<=15):Ok (oW code ss d bs key cs ls ts (i:Int)) λr=>∃e,r=(e,())/\0<=e/\e<=6/\(e=0->PA x.2.2.2.2 code.length bs ss t.2.1):=by
 have hok:=h.thr t (fW ht);obtain⟨_,hl,hr,⟨p0,p1⟩,_⟩:=id hok;obtain⟨o,A,B,C,call⟩:=x;dsimp only at hc⊢;obtain⟨b,eb,ZI,ZS⟩:=EJ hc;have X1:=OH call;obtain⟨st,rs,pc,rest⟩:=t;dsimp only at *;obtain⟨j,hj⟩:∃j:Nat,pc-1=j:=⟨(pc-1).toNat,by omega⟩;rw[hj,oTN]at hx;unfold oW;rw[fV];simp only[oBS,show fR ts i=some (st,rs,pc,rest)from ht];rw[iA (x:=pc-1),hj,fV];simp only[oBS,show fR code j=some (o,A,B,C,call)from hx,eb,ZI];obtain⟨c0,hc0⟩:=gr rs 0 (by omega);obtain⟨c1,ZM⟩:=gr rs 1 (by omega);obtain⟨c2,ZJ⟩:=gr rs 2 (by omega);have v0:=hr c0 (fW hc0);have v1:=hr c1 (fW ZM);have v2:=hr c2 (fW ZJ);have g0:fR rs 0=some c0:=hc0;have g1:fR rs 1=some c1:=ZM;have g2:fR rs 2=some c2:=ZJ;obtain⟨y,e,hy⟩:=gW (f:=oH) (n:=NN) (s:=(call,b,((kB call).length:Int),0,code,ss,d,bs,key,cs,ls,ts,st,rs,pc,rest.1,rest.2.1,rest.2.2.1,rest.2.2.2.1,rest.2.2.2.2,())) (P:=λs'=>∃q:Nat,s'=(call,b,((kB call).length:Int),(q:Int),code,ss,d,bs,key,cs,ls,ts,st,rs,pc,rest.1,rest.2.1,rest.2.2.1,rest.2.2.2.1,rest.2.2.2.2,())/\q<=(kB call).length/\∀(j:Nat) k c,j<q->(kB call)[j]?=some k->rs[j]?=some c->Mz k c.1=true) (R:=λr=>r=.inl (6,())\/(∃q,r=.inr (call,b,((kB call).length:Int),q,false,code,ss,d,bs,key,cs,ls,ts,st,rs,pc,rest.1,rest.2.1,rest.2.2.1,rest.2.2.2.1,rest.2.2.2.2,())/\∀(j:Nat) k c,(kB call)[j]?=some k->rs[j]?=some c->Mz k c.1=true)) (m:=λs'=>(s'.2.2.1-s'.2.2.2.1).toNat) ⟨0,rfl,by omega,λj k c hj=>by omega⟩ (by unfold NN;dsimp only;omega) (by rintro _ ⟨q,rfl,hq,Z2⟩;unfold oH;dsimp only;refine fQ (λZ'=>?_) λZ'=>?_;rw[fV];obtain⟨k,hk⟩:=gr (kB call) q (by omega);obtain⟨c,hcq⟩:=gr rs q (by omega);simp only[oBS,ZS q,hk,show fR rs q=some c from hcq,O6];refine fQ (λZ1=>?_) λZ1=>?_;exact fO (.inl rfl);rw[iA (x:=(q:Int)+1)];refine fO ⟨⟨q+1,rfl,by omega,λj' k' c' ZO h1 h2=>?_⟩,by dsimp only;omega⟩;by_cases hjq:j'=q;subst hjq;rw[hk]at h1;rw[hcq]at h2;cases h1;cases h2;exact Z1;exact Z2 j' k' c' (by omega) h1 h2;refine fO (.inr ⟨_,rfl,λj k c h1 h2=>Z2 j k c ?_ h1 h2⟩);have:=(oGS h1).1;omega);rw[e];rcases hy with rfl|⟨q,rfl,Z2⟩;exact Ci;dsimp only;rw[rP hc];delta fY;simp only[oBS,g0,g1,g2];rw[gc (x:=c2.2) (by have:=v2.2.2.1;omega) (by have:=v2.2.2.2.1;omega),gc (x:=c0.2) (by have:=v0.2.2.1;omega) (by have:=v0.2.2.2.1;omega)];have ZT:(0<rS call->∃p q,rs[1]?=some p/\rs[2]?=some q/\q.2<=16/\p.1=1/\∃(j:Nat)(b z:Int),bs[j]?=some b/\ss[j]?=some z/\b<=p.2/\p.2+q.2<=b+z)->Ok ((bif(call==10)then(some ((decide (c0.2>=(code.length:Int))),()))else bif(call==12)then(some ((decide (c0.2>=(code.length:Int))),()))else some (false,()):f_).bind λ(x35,_)=>bif x35 then(some ((6:Int),()))else some (0,())) λr=>∃e,r=(e,())/\0<=e/\e<=6/\(e=0->PA call code.length bs ss rs):=by intro hbuf;by_cases q10:call=10;simp only[beq_iff_eq.2 q10,oCT,oBS];refine fQ (λZ1=>?_) λZ1=>?_;exact Ci;exact Kj ⟨Z2,hbuf,λ_=>⟨c0,hc0,by omega⟩⟩;by_cases q12:call=12;simp only[oBF q10,beq_iff_eq.2 q12,oCT,oCF,oBS];refine fQ (λZ1=>?_) λZ1=>?_;exact Ci;exact Kj ⟨Z2,hbuf,λ_=>⟨c0,hc0,by omega⟩⟩;simp only[oBF q10,oBF q12,oCF,oBS];exact Kj ⟨Z2,hbuf,λh=>by omega⟩
 refine fQ (λZ'=>?_) λZ'=>?_;refine(MW (t:=c1.1) (v:=c1.2) (n:=c2.2) h.lay ⟨v1.2.2.1,v1.2.2.2.1⟩ ⟨v2.2.2.1,v2.2.2.2.1⟩).bind ?_;rintro _ ⟨a,e,rfl,he⟩;dsimp only;refine fQ (λZ1=>?_) λZ1=>?_;exact Ci;obtain⟨w1,_,j,b',z,w2,w3,w4,w5,w6⟩:=he Z1;refine fQ (λhcc=>?_) λhcc=>?_;exact Ci;exact ZT λ_=>⟨c1,c2,ZM,ZJ,by omega,w1,j,b',z,w2,w3,w4,w5⟩;exact ZT λh=>by omega
structure AD (n:Int)(ss:M_)(i stop trap count pc call:Int)(args data:D_):Prop where
 hthr:0<=i/\i<4
 hstop:0<=stop/\stop<=3
 htrap:0<=trap/\trap<=6
 hcnt:0<=count/\count<=n
 hpc:0<=pc/\pc<=255
 hcall:0<=call/\call<=15
 hargs:args.length<=3/\∀c∈args,Pr ss c
 hdata:data.length<=16/\∀c∈data,Pr ss c
 hkind:stop=1->args.length=(kB call).length/\∀(j:Nat) k a,(kB call)[j]?=some k->args[j]?=some a->Mz k a.1=true
 hbuf:stop=1->rS call=2->∃a,args[2]?=some a/\a.2.1<=16
def Wd(stop trap:Int)(t':DTh):Prop:=(stop=0/\t'.1=1)\/(stop=1/\t'.1=2)\/(stop=2/\t'.1=4/\t'.2.2.2.2.2.2.1=trap)\/(stop=3/\t'.1≠1)
theorem QM{bs ss:M_}(h:LV bs ss){r r':Nat}{b z b' z' o o':Int}(hne:r≠r')(hb:bs[r]?=some b)(hz:ss[r]?=some z)(Za:bs[r']?=some b')(WY:ss[r']?=some z')(h0:0<=o)(h1:o<z)(h0':0<=o')(h1':o'<z'):b+o≠b'+o':=by have ⟨_,hl,hg⟩:=h;have l1:=(oGS hb).1;have l2:=(oGS Za).1;have g1:=hg r l1;have g2:=hg r' l2;unfold wM at g1 g2;rw[gp hb,gp hz]at g1;rw[gp Za,gp WY]at g2;by_cases hlt:r'<r;have:=g1.2.2 r' hlt;rw[gp Za,gp WY]at this;omega;have:=g2.2.2 r (by omega);rw[gp hb,gp hz]at this;omega
theorem Tt{bs ss:M_}{key:Int}{p q:DCe}(h:LV bs ss)(hp:nP (RK bs ss) p)(hq:nP (RK bs ss) q)(hp1:p.1=1){j:Nat}{b z:Int}(hb:bs[j]?=some b)(hz:ss[j]?=some z)(h1:b<=p.2)(h2:p.2+q.2<=b+z):∃z',ss[(rM bs ss key p).2.2.1.toNat]?=some z'/\(rM bs ss key p).2.2.2+q.2<=z':=by
 have ⟨_,_,_,_,hrk⟩:=hp;have ⟨r,o,e⟩:=NR (hrk hp1);obtain⟨j',b',z',rfl,rfl,k1,k2,k3,k4⟩:=wY h.2.1 e;have hq0:=hq.2.2.1;have hc:rM bs ss key p=(1,0,(j':Int),p.2-b'):=by unfold rM;simp_all
 rw[hc];refine⟨z',by simp_all,?_⟩;show p.2-b'+q.2<=z';by_cases hjj:j'=j;subst hjj;rw[k1]at hb;rw[k2]at hz;injection hb with hb
 injection hz with hz
 omega;by_cases hq1:q.2=0;omega;exact absurd (show b'+(p.2-b')=b+(p.2-b) by omega) (QM h hjj k1 k2 hb hz (by omega) (by omega) (by omega) (by omega))
def Px(ss:M_)(call:Int)(args:D_):Prop:=(rS call=2->∃a q z,args[1]?=some a/\args[2]?=some q/\ss[a.2.2.1.toNat]?=some z/\a.2.2.2+q.2.1<=z)/\(call=10\/call=12->∃a,args[0]?=some a/\a.1=0/\a.2.1<=255)
def Lo(n key:Int)(ss bs:M_)(ts:J_)(i:Nat)(r:v_×Int×C_×G_×J_×Int×Int×Int×Int×Int×Int×D_×D_×Int×Unit):Prop:=
 ∃Z9 Z8 t' stop trap call args data,r=(bs,key,Z9,Z8,ts.set i t',(i:Int),stop,trap,t'.2.2.2.1,t'.2.2.1,call,args,data,0,())/\i4 (RK bs ss) Z9 Z8/\zd (RK bs ss) n t' /\
  AD n ss i stop trap t'.2.2.2.1 t'.2.2.1 call args data/\Wd stop trap t'/\(stop=3->ts[i]?=some t')/\(stop=1->Px ss call args)
theorem AF{n:Int}{ss bs:M_}{i:Nat}{t':DTh}{stop trap:Int}(hi:i<4)(ht:zd (RK bs ss) n t')(hs:0<=stop/\stop<=3)(hs1:stop≠1)(htr:0<=trap/\trap<=6):AD n ss i stop trap t'.2.2.2.1 t'.2.2.1 0 [] []:=⟨⟨by omega,by omega⟩,hs,htr,ht.count,ht.pc,by decide,⟨by decide,gu⟩,⟨by decide,gu⟩,λh=>absurd h hs1,λh=>absurd h hs1⟩
theorem jR{α β:Type}(f:α->β){l:List α}{k:Nat}{x:α}(h:l[k]?=some x):(l.take k).map f++[f x]=(l.take (k+1)).map f:=by rw[List.take_add_one,h];simp
theorem rf{β:Type}(f:Nat->β)(k:Nat):(List.range k).map f++[f k]=(List.range (k+1)).map f:=by rw[List.range_succ];simp
set_option maxHeartbeats 4000000 in
theorem A4{n key k:Int}{code:F_}{ss bs:M_}{d:j_}{cs:C_}{ls:G_}{ts:J_}{i:Nat}(hp:kE code ss d)(h:MOk n ss bs cs ls ts)(hn0:0<=n)(hn:n+64<=1099511627776)(hi:i<4)(hk:1<=k/\k<=64):Ok (oq code ss d bs key cs ls ts (i:Int) k) (Lo (n+64) key ss bs ts i):=by
 have Yp:=h.tlen;have hil:i<ts.length:=by omega
 unfold oq;refine(PQ hp h hn0 hn hi hk).bind ?_;rintro _ ⟨s,Z9,Z8,t',rfl,hm,ZU,hs⟩;have hM:MOk (n+64) ss bs Z9 Z8 (ts.set i t'):=(h.mono (show n<=n+64 by omega)).set hm ZU;have hgt:(ts.set i t')[i]?=some t':=gX hil t';dsimp only;simp only[oBN,oCF,fV,oBS,gX hil];rcases hs with⟨rfl,hs1,YV⟩|⟨rfl,hs1⟩|⟨rfl,hs1⟩|⟨rfl,hs1,x,YV,hs3,WV⟩;exact fO ⟨_,_,_,_,_,_,_,_,rfl,hm,ZU,AF hi ZU (by decide) (by decide) (by decide),.inr (.inr (.inr ⟨rfl,YV⟩)),λ_=>hs1,λh=>absurd h (by decide)⟩;exact fO ⟨_,_,_,_,_,_,_,_,rfl,hm,ZU,AF hi ZU (by decide) (by decide) (by decide),.inl ⟨rfl,hs1⟩,λh=>absurd h (by decide),λh=>absurd h (by decide)⟩;exact fO ⟨_,_,_,_,_,_,_,_,rfl,hm,ZU,AF hi ZU (by decide) (by decide) ZU.trap,.inr (.inr (.inl ⟨rfl,hs1,rfl⟩)),λh=>absurd h (by decide),λh=>absurd h (by decide)⟩;have X9:=hp.ins x (fW hs3);have hcall:0<=x.2.2.2.2/\x.2.2.2.2<=15:=⟨X9.imm.1,X9.sys WV⟩;obtain⟨_,ec,e,rfl,he0,he6,hcok⟩:=ML (key:=key) (d:=d) hM hgt YV hs3 hcall;obtain⟨o,A,B,C,call⟩:=x;dsimp only at hcall hcok;have X1:=OH call;have hl8:=ZU.len;obtain⟨j,hj⟩:∃j:Nat,t'.2.2.1-1=j:=⟨(t'.2.2.1-1).toNat,by omega⟩;have hpc:=ZU.pc;rw[hj,oTN]at hs3;rw[iA (x:=t'.2.2.1-1),hj];simp only[Int.reduceBEq,oCT,oCF,ec,oBS,fV,show fR code j=some (o,A,B,C,call)from hs3,Ah hcall];by_cases hne:e=0;subst hne;obtain⟨Z2,hbuf,Ym⟩:=hcok rfl;have e1:f9 kM NN (((kB call).length:Int),0,code,ss,d,(),0,(),(),(),0,0,0,0,0,0,(),(),bs,key,Z9,Z8,ts.set i t',t'.1,t'.2.1,t'.2.2.1,t'.2.2.2.1,t'.2.2.2.2.1,t'.2.2.2.2.2.1,t'.2.2.2.2.2.2.1,t'.2.2.2.2.2.2.2,(i:Int),1,0,t'.2.2.2.1,t'.2.2.1,call,[],(),())= some (((kB call).length:Int),((kB call).length:Int),false,code,ss,d,(),0,(),(),(),0,0,0,0,0,0,(),(),bs,key,Z9,Z8,ts.set i t',t'.1,t'.2.1,t'.2.2.1,t'.2.2.2.1,t'.2.2.2.2.1,t'.2.2.2.2.2.1,t'.2.2.2.2.2.2.1,t'.2.2.2.2.2.2.2,(i:Int),1,0,t'.2.2.2.1,t'.2.2.1,call,(t'.2.1.take (kB call).length).map (rM bs ss key),(),()):=by refine oy (f:=kM) (N:=NN) (st:=λq=>(((kB call).length:Int),(q:Int),code,ss,d,(),0,(),(),(),0,0,0,0,0,0,(),(),bs,key,Z9,Z8,ts.set i t',t'.1,t'.2.1,t'.2.2.1,t'.2.2.2.1,t'.2.2.2.2.1,t'.2.2.2.2.2.1,t'.2.2.2.2.2.2.1,t'.2.2.2.2.2.2.2,(i:Int),1,0,t'.2.2.2.1,t'.2.2.1,call,(t'.2.1.take q).map (rM bs ss key),(),())) (n:=(kB call).length) (by unfold NN;omega) ?_ ?_;intro q hq;unfold kM;dsimp only;rw[oDT (show(q:Int)<(kB call).length by omega),fV];simp only[oCT,oBS];refine fX λc hc=>?_;rw[rL h.lay (ZU.regs c (fW hc))];simp only[oBS];refine fP (f7 (by simp;omega)) ?_;rw[iA (x:=(q:Int)+1)];refine fO ?_;rw[<- jR (rM bs ss key) hc];rfl;unfold kM;dsimp only;rw[oDF (show ¬((kB call).length:Int)<(kB call).length by omega)];exact fO rfl
 have hargs:((t'.2.1.take (kB call).length).map (rM bs ss key)).length=(kB call).length:=by rw[oLP,oLT];omega
 have hgetA:∀(j:Nat) a,((t'.2.1.take (kB call).length).map (rM bs ss key))[j]?=some a->∃c,t'.2.1[j]?=some c/\a=rM bs ss key c:=by
  intro j a ha;rw[oGP]at ha;cases hc:(t'.2.1.take (kB call).length)[j]? with
  |none=>rw[hc]at ha;cases ha|some c=>
  rw[hc]at ha;injection ha with ha
  refine⟨c,?_,ha.symm⟩;rw[List.getElem?_take]at hc;split at hc;exact hc;cases hc
 have hargsPr:∀c∈(t'.2.1.take (kB call).length).map (rM bs ss key),Pr ss c:=by intro c hc;obtain⟨c',YY,rfl⟩:=List.mem_map.1 hc;exact Gt h.lay (ZU.regs c' (List.mem_of_mem_take YY))
 have hkinds:∀(j:Nat) k a,(kB call)[j]?=some k->((t'.2.1.take (kB call).length).map (rM bs ss key))[j]?=some a->Mz k a.1=true:=by intro j k a hk ha;obtain⟨c,hc,rfl⟩:=hgetA j a ha;rw[(AW (ZU.regs c (fW hc))).1];exact Z2 j k c hk hc
 have hbuf2:rS call=2->∃a,((t'.2.1.take (kB call).length).map (rM bs ss key))[2]?=some a/\a.2.1<=16:=by
  intro hb;obtain⟨p,q,hp1,Y3,hq16,_⟩:=hbuf (by omega);have hkk:(kB call)[2]?=some 78:=by
   have:call=2\/call=14:=by unfold rS at hb;split at hb<;>first|omega|(split at hb<;>omega)
   rcases this with rfl|rfl<;>rfl
  have hf:=Z2 2 78 q hkk Y3;have hl3:=(oGS hkk).1;refine⟨rM bs ss key q,?_,?_⟩;rw[oGP,List.getElem?_take,oIP hl3,Y3];rfl;have hq:=(AW (bs:=bs) (ss:=ss) (key:=key) (ZU.regs q (fW Y3))).2 (by unfold Mz at hf;simpa using hf);rw[hq];exact hq16
 simp only[e1,oBN,oCF,oBS,rP hcall];have hfitok:Px ss call ((t'.2.1.take (kB call).length).map (rM bs ss key)):=by
  refine⟨λhb=>?_,λhcc=>?_⟩;obtain⟨p,q,hp1,Y3,hq16,hp0,jr,b,z,ZI,hz1,ZS,WM⟩:=hbuf (by omega);have hkk:(kB call)[1]?=some 80/\(kB call)[2]?=some 78:=by
   have:call=2\/call=14:=by unfold rS at hb;split at hb<;>first|omega|(split at hb<;>omega)
   rcases this with rfl|rfl<;>exact⟨rfl,rfl⟩
  have hl3:=(oGS hkk.2).1;have hf:=Z2 2 78 q hkk.2 Y3;have hq:=(AW (bs:=bs) (ss:=ss) (key:=key) (ZU.regs q (fW Y3))).2 (by unfold Mz at hf;simpa using hf);obtain⟨z',g1,g2⟩:=Tt (key:=key) h.lay (ZU.regs p (fW hp1)) (ZU.regs q (fW Y3)) hp0 ZI hz1 ZS WM;refine⟨rM bs ss key p,rM bs ss key q,z',by rw[oGP,List.getElem?_take,oIP (by omega),hp1];rfl,by rw[oGP,List.getElem?_take,oIP hl3,Y3];rfl,g1,by rw[hq];exact g2⟩;obtain⟨c,hc0,Y6⟩:=Ym hcc;have hkk:(kB call)[0]?=some 78:=by rcases hcc with rfl|rfl<;>rfl
  have qN:=(oGS hkk).1;have hf:=Z2 0 78 c hkk hc0;have hq:=AW (bs:=bs) (ss:=ss) (key:=key) (ZU.regs c (fW hc0));refine⟨rM bs ss key c,by rw[oGP,List.getElem?_take,oIP qN,hc0];rfl,?_,?_⟩;rw[hq.1];unfold Mz at hf;simpa using hf;rw[hq.2 (by unfold Mz at hf;simpa using hf)];have:=hp.clen;omega
 have ZT:∀data:D_,data.length<=16->(∀c∈data,Pr ss c)->Ok (some (bs,key,Z9,Z8,ts.set i t',(i:Int),(1:Int),(0:Int),t'.2.2.2.1,t'.2.2.1,call,(t'.2.1.take (kB call).length).map (rM bs ss key),data,(0:Int),())) (Lo (n+64) key ss bs ts i):=λdata h1 h2=>fO ⟨_,_,_,_,_,_,_,_,rfl,hm,ZU,⟨⟨by omega,by omega⟩,by decide,by decide,ZU.count,ZU.pc,hcall,⟨by omega,hargsPr⟩,⟨h1,h2⟩,λ_=>⟨hargs,hkinds⟩,λ_=>hbuf2⟩,.inr (.inl ⟨rfl,hs1⟩),λh=>absurd h (by decide),λ_=>hfitok⟩;by_cases ZI:rS call=1;obtain⟨p,q,hp1,Y3,hq16,_,jr,b,z,hbz1,hbz2,hbz3,hbz4⟩:=hbuf (by omega);have hp':=ZU.regs p (fW hp1);have hq':=ZU.regs q (fW Y3);have hjr:=(oGS hbz1).1;have hreg:=h.lay.2.2 jr hjr;unfold wM at hreg;rw[gp hbz1,gp hbz2]at hreg;obtain⟨m,hqm⟩:∃m:Nat,q.2=m:=⟨q.2.toNat,by have:=hq'.2.2.1;omega⟩;have e2:f9 kL NN ((m:Int),0,code,ss,d,(),0,(),(),(),0,0,0,0,0,0,(),(),bs,key,Z9,Z8,ts.set i t',t'.1,t'.2.1,t'.2.2.1,t'.2.2.2.1,t'.2.2.2.2.1,t'.2.2.2.2.2.1,t'.2.2.2.2.2.2.1,t'.2.2.2.2.2.2.2,(i:Int),1,0,t'.2.2.2.1,t'.2.2.1,call,(t'.2.1.take (kB call).length).map (rM bs ss key),[],())= some ((m:Int),(m:Int),false,code,ss,d,(),0,(),(),(),0,0,0,0,0,0,(),(),bs,key,Z9,Z8,ts.set i t',t'.1,t'.2.1,t'.2.2.1,t'.2.2.2.1,t'.2.2.2.2.1,t'.2.2.2.2.2.1,t'.2.2.2.2.2.2.1,t'.2.2.2.2.2.2.2,(i:Int),1,0,t'.2.2.2.1,t'.2.2.1,call,(t'.2.1.take (kB call).length).map (rM bs ss key),(List.range m).map (λj:Nat=>rM bs ss key (oO Z9 Z8 (p.2+(j:Int)))),()):=by refine oy (f:=kL) (N:=NN) (st:=λq=>((m:Int),(q:Int),code,ss,d,(),0,(),(),(),0,0,0,0,0,0,(),(),bs,key,Z9,Z8,ts.set i t',t'.1,t'.2.1,t'.2.2.1,t'.2.2.2.1,t'.2.2.2.2.1,t'.2.2.2.2.2.1,t'.2.2.2.2.2.2.1,t'.2.2.2.2.2.2.2,(i:Int),1,0,t'.2.2.2.1,t'.2.2.1,call,(t'.2.1.take (kB call).length).map (rM bs ss key),(List.range q).map (λj:Nat=>rM bs ss key (oO Z9 Z8 (p.2+(j:Int)))),())) (n:=m) (by unfold NN;omega) ?_ ?_;intro v hv;unfold kL;dsimp only;have hp0:=hp'.2.2.1;have hp01:=hp'.2.2.2.1;rw[oDT (show(v:Int)<m by omega)];simp only[oCT,oBS,show fR t'.2.1 1=some p from hp1];rw[gc (x:=p.2) (by omega) (by omega),iA (x:=p.2+v)];obtain⟨Ww,hlv⟩:=EF (a:=p.2+v) hm ⟨by omega,by omega⟩;rw[Ww];simp only[oBS];rw[rL h.lay hlv];simp only[oBS];refine fP (f7 (by simp;omega)) ?_;rw[iA (x:=(v:Int)+1)];refine fO ?_;rw[<- rf];rfl;unfold kL;dsimp only;rw[oDF (show ¬(m:Int)<m by omega)];exact fO rfl
 simp only[ZI,BEq.rfl,oCT,show fR t'.2.1 2=some q from Y3,oBS];rw[gc (x:=q.2) (by omega) (by omega),hqm,e2];simp only[oBS];refine ZT _ (by rw[oLP,List.length_range];omega) ?_;intro c hc;obtain⟨v,hv,rfl⟩:=List.mem_map.1 hc;have hv:=List.mem_range.1 hv;have hp0:=hp'.2.2.1;exact Gt h.lay (EF (a:=p.2+v) hm ⟨by omega,by omega⟩).2;simp only[oBF ZI,oCF];exact ZT [] (by decide) gu;unfold pW nT;simp only[bne_iff_ne.2 hne,oCT];rw[f7 (show 4<=1000/\0+t'.2.1.length<=1000000 by omega)];simp only[oCT,oBS,fV,gX hil,pM hil];exact fO ⟨_,_,_,_,_,_,_,_,rfl,hm,ZU.ended ⟨he0,he6⟩,AF hi (ZU.ended ⟨he0,he6⟩) (by decide) (by decide) ⟨he0,he6⟩,.inr (.inr (.inl ⟨rfl,rfl,rfl⟩)),λh=>absurd h (by decide),λh=>absurd h (by decide)⟩
theorem Jv{a b:Int}:mmR false a b<=a/\mmR false a b<=b/\(mmR false a b=a\/mmR false a b=b):=by unfold mmR;simp;omega
theorem km{α:Type}{l:List α}{i j:Nat}(h:i≠j)(a:α):(l.set i a)[j]?=l[j]?:=by simp_all
theorem TL.setFile{d:i_}{o:DOp}{f:Nat}{x y:D_}(h:TL d o)(hf:d[f]?=some x)(Wt:x.length<=y.length):TL (d.set f y) o:=by rcases h with h|⟨h1,z,h2,h3,h4⟩;exact .inl h;refine .inr ⟨h1,?_⟩;by_cases e:f=o.1.toNat;subst e;rw[hf]at h2;cases h2;exact⟨y,gX (oGS hf).1 y,h3,by omega⟩;simp_all
theorem iE.setFile{ss:M_}{d:i_}{os:H_}{f:Nat}{x y:D_}(h:iE ss d os)(hf:d[f]?=some x)(h64:y.length<=64)(hc:∀c∈y,Pr ss c)(Wt:x.length<=y.length):iE ss (d.set f y) os:=⟨by rw[oLS];exact h.dlen,jQ h.flen h64,jQ h.cells hc,h.olen,λo ho=>(h.opens o ho).setFile hf Wt⟩
theorem iE.setOpen{ss:M_}{d:i_}{os:H_}{i:Nat}{o:DOp}(h:iE ss d os)(ho:TL d o):iE ss d (os.set i o):=⟨h.dlen,h.flen,h.cells,by rw[oLS];exact h.olen,jQ h.opens ho⟩
theorem EB{ss:M_}{d:i_}{os:H_}{h:Int}(hF:iE ss d os):∃b,jE d os h=some (b,())/\(b=true->∃(j f:Nat)(o:DOp)(x:D_),h=j/\j<8/\os[j]?=some o/\o.1=f/\d[f]?=some x/\0<=o.2.1/\o.2.1<=x.length):=by
 have:Ok (jE d os h) λr=>∃b,r=(b,())/\(b=true->∃(j f:Nat)(o:DOp)(x:D_),h=j/\j<8/\os[j]?=some o/\o.1=f/\d[f]?=some x/\0<=o.2.1/\o.2.1<=x.length):=by unfold jE;delta fY;refine fQ (λZ'=>?_) λZ'=>?_;refine fQ (λZ1=>?_) λZ1=>?_;refine gR λj hj=>?_;have h8:=hF.olen;refine fX λo ho=>?_;refine fO ⟨_,rfl,λhb=>?_⟩;rcases hF.opens o (fW ho)with⟨h1,_⟩|⟨h1,x,h2,h3,h4⟩;simp_all;exact⟨j,o.1.toNat,o,x,hj,by omega,ho,by omega,h2,h3,h4⟩;exact fO ⟨_,rfl,λh=>by cases h⟩;exact fO ⟨_,rfl,λh=>by cases h⟩
 obtain⟨_,e,b,rfl,hb⟩:=this;exact⟨b,e,hb⟩
theorem xH{ss:M_}{d:i_}{os:H_}(h:iE ss d os):i8 d os=some (d,os,()):=copy17_ok (by have:=h.dlen;omega) (λx hx=>by have:=h.flen x hx;omega) (by have:=h.olen;omega)
theorem DG{ss:M_}{d:i_}{os:H_}{h:Int}{l:D_}(hs:AC ss)(hF:iE ss d os)(hl:l.length<=16)(W6:∀c∈l,Pr ss c):Ok (oS d os h l) λr=>∃d' Y9 n b,r=(d',Y9,n,b,())/\iE ss d' Y9/\0<=n/\n<=16:=by
 obtain⟨b,eo,hb⟩:=EB (h:=h) hF;unfold oS;rw[xH hF];simp only[oBS,eo];cases b with
 |false=>simp only[Bool.not_false,oCT,oBS];exact fO ⟨_,_,_,_,rfl,hF,by decide,by decide⟩|true=>
 obtain⟨j,f,o,x,rfl,hj,ho,hof,hx,o0,o1⟩:=hb rfl;have hg:fR os j=some o:=ho;have hgx:fR d f=some x:=hx;have hjl:=(oGS ho).1;have ZE:=(oGS hx).1;have hx64:=hF.flen x (fW hx);simp only[oNT,oCF,fV,oBS,hg];cases hw:o.2.2 with
 |false=>simp only[Bool.not_false,oCT,oBS];exact fO ⟨_,_,_,_,rfl,hF,by decide,by decide⟩|true=>
 delta fY;simp only[oNT,oCF,oBS,mr (n:=(l.length:Int)) hs W6 (by omega) (by omega),fV,hg,hof,hgx];rw[iA (x:=64-o.2.1)];obtain⟨m1,m2,m3⟩:=Jv (a:=(l.length:Int)) (b:=64-o.2.1);generalize mmR false (l.length:Int) (64-o.2.1)=k at m1 m2 m3;refine gL (P:=λs'=>∃(i:Nat)(y:D_),s'=(l,j,k,k,(i:Int),(),(),d,f,os,y,())/\(i:Int)<=k/\(∀c∈y,Pr ss c)/\x.length<=y.length/\o.2.1+i<=y.length/\y.length<=64)
  (R:=λr=>∃y:D_,r=(l,j,k,k,k,false,(),(),d,f,os,y,())/\(∀c∈y,Pr ss c)/\x.length<=y.length/\o.2.1+k<=y.length/\y.length<=64) (m:=λs'=>(k-s'.2.2.2.2.1).toNat) ⟨0,x,rfl,by omega,hF.cells x (fW hx),by omega,by omega,hx64⟩ (by unfold NN;dsimp only;omega) ?_ ?_
 rintro _ ⟨i,y,rfl,hi,hy,Wt,hoy,hy64⟩;unfold s7;dsimp only;refine fQ (λZ'=>?_) λZ'=>?_;delta fY;simp only[hg,oBS,fV];rw[iA (x:=o.2.1+i)];obtain⟨c,hc⟩:=gr l i (by omega);have Zx:fR l i=some c:=hc;have hcp:=W6 c (fW hc);simp only[Zx,oBS];refine Ok.bind (P:=λr=>∃y':D_,r=(l,j,k,k,(i:Int),(),(),d,f,os,y',())/\(∀c∈y',Pr ss c)/\x.length<=y'.length/\o.2.1+i+1<=y'.length/\y'.length<=64) ?_ ?_;refine fQ (λZ1=>?_) λZ1=>?_;refine gR λq hq=>?_;refine fX λ_ hz=>?_;refine fX λ_ _=>?_;rw[gl hz];exact fO ⟨_,rfl,jQ hy hcp,by rw[oLS];omega,by rw[oLS];omega,by rw[oLS];omega⟩;refine fP (f7 (by simp;omega)) ?_;exact fO ⟨_,rfl,kT hy (all_cons hcp gu),by rw[ig];omega,by rw[ig,List.length_singleton];omega,by rw[ig,List.length_singleton];omega⟩;rintro _ ⟨y',rfl,g1,g2,g3,g4⟩;dsimp only;rw[iA (x:=(i:Int)+1)];exact fO ⟨⟨i+1,y',rfl,by omega,g1,g2,by omega,g4⟩,by dsimp only;omega⟩;obtain rfl:(i:Int)=k:=by omega
 exact fO ⟨y,rfl,hy,Wt,hoy,hy64⟩;rintro _ ⟨y,rfl,hy,Wt,hoy,hy64⟩;dsimp only;simp only[hg,oBS,hof,fV,hgx];refine fP (by simp) ?_;rw[iA (x:=o.2.1+k),gl hx,gl ho];refine fO ⟨_,_,_,_,rfl,(hF.setFile hx hy64 hy Wt).setOpen (.inr ⟨by dsimp only;omega,y,?_,by dsimp only;omega,by dsimp only;omega⟩),by omega,by omega⟩;dsimp only;rw[hof,oTN];exact gX ZE y
theorem G6{ss:M_}{d:i_}{os:H_}{h n:Int}(hF:iE ss d os)(hn:0<=n/\n<=65535):Ok (qB d os h n) λr=>(∃d' Y9,r=.inl (d',Y9,(),false,())/\iE ss d' Y9)\/(∃d' Y9 l,r=.inr (d',Y9,l,true,())/\iE ss d' Y9/\(l.length:Int)<=n/\l.length<=64/\∀c∈l,Pr ss c):=by
 obtain⟨b,eo,hb⟩:=EB (h:=h) hF;unfold qB;rw[xH hF];simp only[oBS,eo];cases b with
 |false=>exact fO (.inl ⟨_,_,rfl,hF⟩)|true=>
 obtain⟨j,f,o,x,rfl,hj,ho,hof,hx,o0,o1⟩:=hb rfl;have hg:fR os j=some o:=ho;have hgx:fR d f=some x:=hx;have hx64:=hF.flen x (fW hx);rw[oDF (show ¬n<0 by omega)];simp only[oNT,oCF,fV,oBS,hg];cases hw:o.2.2 with
 |true=>exact fO (.inl ⟨_,_,rfl,hF⟩)|false=>
 delta fY;simp only[oCF,fV,oBS,hg,hof,hgx];rw[iA (x:=(x.length:Int)-o.2.1)];obtain⟨m1,m2,m3⟩:=Jv (a:=n) (b:=(x.length:Int)-o.2.1);generalize mmR false n ((x.length:Int)-o.2.1)=k at m1 m2 m3;rw[iA (x:=o.2.1+k)];refine jm o0 λp hp=>?_;refine gR λq hq=>?_;refine fP (by unfold iK;simp;omega) ?_;have hw2:(nv x p (Nat.sub q p)).length=q-p:=by unfold nv;rw[oLT,List.length_drop];show min (q-p) _=q-p;omega
 refine fP (f7 (by omega)) ?_;rw[gl ho];refine fO (.inr ⟨_,_,_,rfl,hF.setOpen (.inr ⟨by dsimp only;omega,x,by dsimp only;rw[hof,oTN];exact hx,by dsimp only;omega,by dsimp only;omega⟩),?_,?_,?_⟩);rw[ig,hw2];simp;omega;rw[ig,hw2];simp;omega;refine kT gu λc hc=>hF.cells x (fW hx) c ?_;unfold nv at hc;exact List.mem_of_mem_drop (List.mem_of_mem_take hc)
theorem D8{ss:M_}{d:i_}{os:H_}{h:Int}(hF:iE ss d os):Ok (oT d os h) λr=>∃d' Y9 b,r=(d',Y9,b,())/\iE ss d' Y9:=by have ⟨b,eo,hb⟩:=EB (h:=h) hF;unfold oT;rw[xH hF];simp only[eo];cases b with|false=>exact fO ⟨_,_,_,rfl,hF⟩|true=>obtain⟨j,f,o,x,rfl,hj,ho,hof,hx,o0,o1⟩:=hb rfl;have hg:fR os j=some o:=ho;simp only[fV,oBS,hg];rw[gl ho];exact fO ⟨_,_,_,rfl,hF.setOpen (.inl ⟨rfl,rfl,rfl⟩)⟩
theorem GW{ss:M_}{d:i_}{os:H_}{h n:Int}(hF:iE ss d os):Ok (qA d os h n) λr=>∃d' Y9 b,r=(d',Y9,b,())/\iE ss d' Y9:=by obtain⟨b,eo,hb⟩:=EB (h:=h) hF;unfold qA;rw[xH hF];simp only[eo];cases b with|false=>exact fO ⟨_,_,_,rfl,hF⟩|true=>obtain⟨j,f,o,x,rfl,hj,ho,hof,hx,o0,o1⟩:=hb rfl;have hg:fR os j=some o:=ho;have hgx:fR d f=some x:=hx;delta fY;simp only[oNT,oCF,fV,oBS,hg,hof,hgx];by_cases hn:n<0;simp only[oDT hn,oCT,oBS];exact fO ⟨_,_,_,rfl,hF⟩;simp only[oDF hn,oCF,oBS];refine fQ (λZ'=>?_) λZ'=>?_;exact fO ⟨_,_,_,rfl,hF⟩;simp only[fV,oBS,hg];rw[gl ho];exact fO ⟨_,_,_,rfl,hF.setOpen (.inr ⟨by dsimp only;omega,x,by simp_all,by dsimp only;omega,by dsimp only;omega⟩)⟩
theorem KR{ss:M_}{d:i_}{os:H_}{file mode:Int}(hF:iE ss d os):Ok (qC d os file mode) λr=>∃d' Y9 h,r=(d',Y9,h,())/\iE ss d' Y9/\-1<=h/\h<=7:=by
 have h8:=hF.olen;have hd4:=hF.dlen;unfold qC;rw[xH hF];simp only[oBS];refine gL (P:=λs'=>∃i:Nat,s'=(file,mode,(i:Int),d,os,(),(),d,os,())/\i<=8) (R:=λr=>∃i:Nat,r=(file,mode,(i:Int),false,d,os,(),(),d,os,())/\i<=8) (m:=λs'=>(8-s'.2.2.1).toNat) ⟨0,rfl,by omega⟩ (by unfold NN;dsimp only;omega) ?_ ?_;rintro _ ⟨i,rfl,hi⟩;unfold tO;delta fY;simp only[h8,fV,oBS];refine fQ (λZ'=>?_) λZ'=>?_;refine fX λo ho=>?_;refine fQ (λZ1=>?_) λZ1=>?_;rw[iA (x:=(i:Int)+1)];exact fO ⟨⟨i+1,rfl,by omega⟩,by dsimp only;omega⟩;exact fO ⟨i,rfl,hi⟩;exact fO ⟨i,rfl,hi⟩;rintro _ ⟨i,rfl,hi⟩;delta fY;simp only[h8];have bad:iE ss d os/\(-1:Int)<=-1/\(-1:Int)<=7:=⟨hF,by decide,by decide⟩;refine Ok.bind (P:=λr=>(∃b:Bool,r=(file,mode,(i:Int),b,(),(),d,os,())/\(b=false->0<=file/\file<d.length/\i<8))) ?_ ?_;refine fQ (λZ'=>?_) λZ'=>?_;exact fO ⟨true,rfl,λh=>by cases h⟩;refine fQ (λZ1=>?_) λZ1=>?_;exact fO ⟨true,rfl,λh=>by cases h⟩;refine fQ (λhcc=>?_) λhcc=>?_;exact fO ⟨true,rfl,λh=>by cases h⟩;refine fQ (λXE=>?_) λXE=>?_;exact fO ⟨true,rfl,λh=>by cases h⟩;exact fO ⟨_,rfl,λh=>⟨by omega,by omega,by rw[beq_eq_false_iff_ne]at h;omega⟩⟩;rintro _ ⟨b,rfl,hb⟩;dsimp only;cases b with
 |true=>exact fO ⟨_,_,_,rfl,bad⟩|false=>
 obtain⟨f0,f1,hi8⟩:=hb rfl;obtain⟨f,rfl⟩:∃f:Nat,file=f:=⟨file.toNat,by omega⟩;obtain⟨x,hx⟩:=gr d f (by omega);obtain⟨o,ho⟩:=gr os i (by omega);have hgx:fR d f=some x:=hx;have hg:fR os i=some o:=ho;have ZE:=(oGS hx).1;have hil:=(oGS ho).1;simp only[oCF,fV,oBS,hgx,hg];by_cases h1:mode=1;subst h1;simp only[BEq.rfl,oCT];rw[gl hx];simp only[h8];refine gL (P:=λs'=>∃(q:Nat)(Y9:H_),s'=((f:Int),1,(i:Int),((8:Nat):Int),(q:Int),(),(),d.set f [],Y9,())/\q<=8/\Y9.length=8/\(∀(j:Nat) o,j<q->Y9[j]?=some o->TL (d.set f []) o)/\∀j:Nat,q<=j->Y9[j]?=os[j]?)
  (R:=λr=>∃(z:Int)(Y9:H_),r=((f:Int),1,(i:Int),((8:Nat):Int),z,false,(),(),d.set f [],Y9,())/\iE ss (d.set f []) Y9) (m:=λs'=>(8-s'.2.2.2.2.1).toNat) ⟨0,os,rfl,by omega,h8,λj o hj=>by omega,λ_ _=>rfl⟩ (by unfold NN;dsimp only;omega) ?_ ?_
 rintro _ ⟨q,Y9,rfl,hq,YG,ha,hr⟩;unfold tN;dsimp only;refine fQ (λZ'=>?_) λZ'=>?_;obtain⟨o',Zv⟩:∃o',Y9[q]?=some o':=⟨_,oGE (by omega)⟩;have hg':fR Y9 q=some o':=Zv;have hop:=hF.opens o' (fW (by rw[<- hr q (by omega)];exact Zv));simp only[fV,oBS,hg'];refine Ok.bind (P:=λr=>∃o2:DOp,TL (d.set f []) o2/\r=((f:Int),1,(i:Int),((8:Nat):Int),(q:Int),(),(),d.set f [],Y9.set q o2,())) ?_ ?_;by_cases hof:o'.1=f;simp only[beq_iff_eq.2 hof,oCT];rw[gl Zv];exact fO ⟨_,.inr ⟨by dsimp only;omega,[],by dsimp only;rw[hof,oTN];exact gX ZE [],by dsimp only;omega,by simp⟩,rfl⟩;simp only[oBF hof,oCF];refine fO ⟨o',?_,by rw[Ep Zv]⟩;rcases hop with h|⟨g1,z,g2,g3⟩;exact .inl h;exact .inr ⟨g1,z,by rw[km (by omega)];exact g2,g3⟩;rintro _ ⟨o2,hop2,rfl⟩;dsimp only;rw[iA (x:=(q:Int)+1)];refine fO ⟨⟨q+1,_,rfl,by omega,by rw[oLS];exact YG,λj o hj hjo=>?_,λj hj=>?_⟩,by dsimp only;omega⟩;by_cases e:q=j;subst e;rw[show(Y9.set q o2)[q]?=some o2 from gX (by omega) o2]at hjo;cases hjo;exact hop2;rw[km e]at hjo;exact ha j o (by omega) hjo;rw[km (by omega)];exact hr j (by omega);refine fO ⟨_,_,rfl,⟨by rw[oLS];exact hd4,jQ hF.flen (by simp),jQ hF.cells gu,YG,λo' Zv=>?_⟩⟩;obtain⟨j,hj⟩:=List.getElem?_of_mem Zv;have:=(oGS hj).1;exact ha j o' (by omega) hj;rintro _ ⟨z,Y9,rfl,hF'⟩;have YG:=hF'.olen;obtain⟨o',Zv⟩:∃o',Y9[i]?=some o':=⟨_,oGE (by omega)⟩;have hg':fR Y9 i=some o':=Zv;simp only[fV,oBS,hg',show((1:Int)==2)=false from rfl,oCF];rw[gl Zv];exact fO ⟨_,_,_,rfl,hF'.setOpen (.inr ⟨by dsimp only;omega,[],by dsimp only;rw[oTN];exact gX ZE [],by dsimp only;omega,by simp⟩),by omega,by omega⟩;simp only[oBF h1,oCF];rw[gl ho];by_cases h2:mode=2;subst h2;simp only[BEq.rfl,oCT,oBS,gX hil,pM hil];exact fO ⟨_,_,_,rfl,hF.setOpen (.inr ⟨by dsimp only;omega,x,by dsimp only;rw[oTN];exact hx,by dsimp only;omega,by dsimp only;omega⟩),by omega,by omega⟩;simp only[oBF h2,oCF,oBS];exact fO ⟨_,_,_,rfl,hF.setOpen (.inr ⟨by dsimp only;omega,x,by dsimp only;rw[oTN];exact hx,by dsimp only;omega,by dsimp only;omega⟩),by omega,by omega⟩
theorem hJ(n:Int)(b:Bool):∃v,gk n b=some (0,v,0,0,(),-1,false,())/\W16 v:=by cases b with|true=>exact⟨_,rfl,jW _⟩|false=>exact⟨_,rfl,jW _⟩
theorem Sk(n:Int)(b:Bool):∃v,gk n b=some (0,v,0,0,(),-1,false,())/\W16 v/\(b=false->v=65535)/\(b=true->0<=n->n<=1000->v≠65535):=by cases b with|true=>exact⟨_,rfl,jW _,(λh=>by cases h),λ_ h0 h1=>by rw[gi h0 (by omega)];omega⟩|false=>exact⟨_,rfl,jW _,λ_=>by decide,(λh=>by cases h)⟩
theorem iS{ss:M_}{v:Int}(h:W16 v):Pr ss (0,v,0,0):=.inl ⟨.inl rfl,rfl,rfl,h⟩
theorem Oa{ss:M_}{v:Int}(h:W16 v):Pr ss (2,v,0,0):=.inl ⟨.inr rfl,rfl,rfl,h⟩
theorem NE{ss:M_}{us:I_}{sk:Int}{l:D_}(hu:us.length<=200)(ho:∀(i:Nat) x,us[i]?=some x->TX ss i x)(hl:l.length<=16)(W6:∀c∈l,Pr ss c):Ok (ml us sk l) λr=>∃X7 n b,r=(X7,n,b,())/\X7.length<=200/\∀(i:Nat) x,X7[i]?=some x->TX ss i x:=by
 have hc:kI us=some (us,()):=Cc (by omega) λx hx=>by obtain⟨j,hj⟩:=List.getElem?_of_mem hx;have:=(ho j x hj).2.2.2.1;omega
 unfold ml;rw[hc];delta fY;refine Ok.bind (P:=λr=>∃b:Bool,r=(us,sk,l,b,us,())/\(b=false->0<=sk/\sk<2/\us.length<200)) ?_ ?_;refine fQ (λZ'=>?_) λZ'=>?_;exact fO ⟨true,rfl,λh=>by cases h⟩;refine fQ (λZ1=>?_) λZ1=>?_;exact fO ⟨true,rfl,λh=>by cases h⟩;refine fQ (λhcc=>?_) λhcc=>?_;exact fO ⟨true,rfl,λh=>by cases h⟩;exact fO ⟨_,rfl,λh=>⟨by omega,by omega,by omega⟩⟩;rintro _ ⟨b,rfl,hb⟩;dsimp only;cases b with
 |true=>exact fO ⟨_,_,_,rfl,hu,ho⟩|false=>
 obtain⟨s0,s1,hlt⟩:=hb rfl;simp only[oCF];refine fP (f7 (by omega)) (fP (f7 (by simp;omega)) ?_);refine fO ⟨_,_,_,rfl,by rw[ig];simp;omega,λi x hx=>?_⟩;simp at hx;rw[List.getElem?_append]at hx;split at hx;simp_all;rename_i hi;obtain⟨q,hq⟩:∃q,i-us.length=q:=⟨_,rfl⟩;rw[hq]at hx;cases q with
 |zero=>
 have:x=((us.length:Int),sk,l):=by simp_all
 subst this;exact⟨by omega,s0,s1,hl,W6⟩
 |succ q=>simp at hx
theorem Qc{ss:M_}{us:I_}{sk:Int}{l:D_}(hu:us.length<=200)(ho:∀(i:Nat) x,us[i]?=some x->TX ss i x)(hl:l.length<=16)(W6:∀c∈l,Pr ss c):Ok (ml us sk l) λr=>∃X7 n b,r=(X7,n,b,())/\X7.length<=200/\(∀(i:Nat) x,X7[i]?=some x->TX ss i x)/\((b=false/\X7=us)\/(b=true/\n=l.length/\X7=us++[((us.length:Int),sk,l)]/\0<=sk/\sk<2/\us.length<200)):=by
 have hc:kI us=some (us,()):=Cc (by omega) λx hx=>by obtain⟨j,hj⟩:=List.getElem?_of_mem hx;have:=(ho j x hj).2.2.2.1;omega
 unfold ml;rw[hc];delta fY;refine Ok.bind (P:=λr=>∃b:Bool,r=(us,sk,l,b,us,())/\(b=false->0<=sk/\sk<2/\us.length<200)) ?_ ?_;refine fQ (λZ'=>?_) λZ'=>?_;exact fO ⟨true,rfl,λh=>by cases h⟩;refine fQ (λZ1=>?_) λZ1=>?_;exact fO ⟨true,rfl,λh=>by cases h⟩;refine fQ (λhcc=>?_) λhcc=>?_;exact fO ⟨true,rfl,λh=>by cases h⟩;exact fO ⟨_,rfl,λh=>⟨by omega,by omega,by omega⟩⟩;rintro _ ⟨b,rfl,hb⟩;cases b with
 |true=>exact fO ⟨_,_,_,rfl,hu,ho,.inl ⟨rfl,rfl⟩⟩|false=>
 obtain⟨s0,s1,hlt⟩:=hb rfl;simp only[oCF];refine fP (f7 (by omega)) (fP (f7 (by simp;omega)) ?_);refine fO ⟨_,_,_,rfl,by rw[ig];simp;omega,λi x hx=>?_,.inr ⟨rfl,rfl,rfl,s0,s1,by omega⟩⟩;simp at hx;rw[List.getElem?_append]at hx;split at hx;simp_all;rename_i hi;obtain⟨q,hq⟩:∃q,i-us.length=q:=⟨_,rfl⟩;rw[hq]at hx;cases q with
 |zero=>
 have:x=((us.length:Int),sk,l):=by simp_all
 subst this;exact⟨by omega,s0,s1,hl,W6⟩
 |succ q=>simp at hx
theorem zi{ss:M_}{ins:j_}{sk n:Int}(hi:ins.length<=2)(h:∀x∈ins,x.length<=64/\∀w∈x,W16 w)(hn:0<=n/\n<=65535):Ok (mD ins sk n) λr=>(∃Yc,r=.inl (Yc,(),false,())/\Yc.length<=2/\∀x∈Yc,x.length<=64/\∀w∈x,W16 w)\/(∃Yc l,r=.inr (Yc,l,true,())/\(Yc.length<=2/\∀x∈Yc,x.length<=64/\∀w∈x,W16 w)/\(l.length:Int)<=n/\l.length<=64/\∀c∈l,Pr ss c):=by
 unfold mD;rw[Ca (by omega) (λx hx=>by grind)];delta fY;simp only[oBS];refine Ok.bind (P:=λr=>∃b:Bool,r=(ins,sk,n,b,ins,())/\(b=false->0<=sk/\sk<ins.length)) ?_ ?_;refine fQ (λZ'=>?_) λZ'=>?_;exact fO ⟨true,rfl,λh=>by cases h⟩;refine fQ (λZ1=>?_) λZ1=>?_;exact fO ⟨true,rfl,λh=>by cases h⟩;exact fO ⟨_,rfl,λ_=>⟨by omega,by omega⟩⟩;rintro _ ⟨b,rfl,hb⟩;dsimp only;cases b with
 |true=>exact fO (Or.inl ⟨_,rfl,hi,h⟩)|false=>
 obtain⟨s0,s1⟩:=hb rfl;obtain⟨j,rfl⟩:∃j:Nat,sk=j:=⟨sk.toNat,by omega⟩;obtain⟨x,hx⟩:=gr ins j (by omega);have hgx:fR ins j=some x:=hx;have hjl:=(oGS hx).1;obtain⟨hx64,hxw⟩:=h x (fW hx);simp only[oCF,oBS,fV,hgx];obtain⟨m1,m2,m3⟩:=Jv (a:=n) (b:=(x.length:Int));generalize mmR false n (x.length:Int)=k at m1 m2 m3;obtain⟨q,rfl⟩:∃q:Nat,k=q:=⟨k.toNat,by omega⟩;simp only[fV,oBS];refine fP (by unfold iK;simp;omega) ?_;have hw:nv x 0 (Nat.sub q 0)=x.take q:=by unfold nv;rw[List.drop_zero];rfl
 have hwl:(x.take q).length=q:=by rw[oLT];omega
 rw[hw];simp only[hwl];have e:f9 i7 NN ((j:Int),(q:Int),x.take q,(q:Int),0,ins,[],())=some ((j:Int),(q:Int),x.take q,(q:Int),(q:Int),false,ins,(x.take q).map (λw=>(0,w,0,0)),()):=by have:=oy (f:=i7) (N:=NN) (st:=λi=>((j:Int),(q:Int),x.take q,(q:Int),(i:Int),ins,((x.take q).take i).map (λw=>((0:Int),w,(0:Int),(0:Int))),())) (n:=q) (t:=((j:Int),(q:Int),x.take q,(q:Int),(q:Int),false,ins,(x.take q).map (λw=>((0:Int),w,(0:Int),(0:Int))),())) (by unfold NN;omega) ?_ ?_;exact this;intro i hi;unfold i7;dsimp only;rw[oDT (show(i:Int)<q by omega),fV];simp only[oCT,oBS];refine fX λw hw=>?_;refine fP (f7 (by simp;omega)) ?_;rw[iA (x:=(i:Int)+1)];refine fO ?_;rw[<- jR (λw=>((0:Int),w,(0:Int),(0:Int))) hw];rfl;unfold i7;dsimp only;rw[oDF (show ¬(q:Int)<q by omega)];refine fO ?_;rw[show(x.take q).take q=x.take q from List.take_of_length_le (by omega)]
 rw[e];simp only[fV,oBS,hgx];refine fP (by unfold iK;simp;omega) ?_;rw[gl hx];have hd:∀c∈nv x q (Nat.sub x.length q),c∈x:=λc hc=>by unfold nv at hc;exact List.mem_of_mem_drop (List.mem_of_mem_take hc)
 have hdl:(nv x q (Nat.sub x.length q)).length<=64:=by unfold nv;rw[oLT,List.length_drop];omega
 refine fO (.inr ⟨_,_,rfl,⟨by rw[oLS];exact hi,jQ h ⟨hdl,λw hw=>hxw w (hd w hw)⟩⟩,by rw[oLP,hwl];omega,by rw[oLP,hwl];omega,λc hc=>?_⟩);obtain⟨w,hw,rfl⟩:=List.mem_map.1 hc;exact iS (hxw w (List.mem_of_mem_take hw))
theorem yw{n:Int}{ss:M_}{i stop trap count pc call:Int}{args data:D_}(hs:AC ss)(h:AD n ss i stop trap count pc call args data)(hn:n<=1099511627776):mM i stop trap count pc call args data=some (true,()):=by have ⟨⟨a1,a2⟩,⟨b1,b2⟩,⟨c1,c2⟩,⟨d1,d2⟩,⟨e1,e2⟩,⟨f1,f2⟩,⟨g1,g2⟩,⟨k1,k2⟩,_,_⟩:=h;refine gQ ?_;unfold mM;rw[mr hs g2 (by omega) (by omega),mr hs k2 (by omega) (by omega)];refine fP (oDT a1) (fP (oDT (by omega)) (fP (oDT b1) (fP (oDT b2) (fP (oDT c1) (fP (oDT c2) (fP (oDT d1) (fP (oDT (by omega)) (fP (oDT e1) (fP (oDT e2) (fP (oDT f1) (fP (oDT f2) ?_)))))))))));exact fO rfl
theorem DX{n:Int}{ss:M_}{i trap count pc call:Int}{args data:D_}(h:AD n ss i 1 trap count pc call args data):oV i 1 trap count pc call args data=some (true,()):=by
 obtain⟨hl,hk⟩:=h.hkind rfl;obtain⟨b,eb,ZI,ZS⟩:=EJ h.hcall;have h3:=OH call;have e:f9 j0 NN (b,args,(args.length:Int),0,i,1,trap,count,pc,call,args,data,())=some (.inr (b,args,(args.length:Int),(args.length:Int),false,i,1,trap,count,pc,call,args,data,())):=by refine oy (f:=j0) (N:=NN) (st:=λq=>(b,args,(args.length:Int),(q:Int),i,1,trap,count,pc,call,args,data,())) (n:=args.length) (by unfold NN;omega) ?_ ?_;intro q hq;obtain⟨k,hkq⟩:=gr (kB call) q (by omega);obtain⟨a,ha⟩:=gr args q (by omega);unfold j0;dsimp only;rw[oDT (show(q:Int)<args.length by omega),fV];simp only[oCT,oBS,show fR args q=some a from ha,ZS q,hkq,O6,hk q k a hkq ha,oCF];rw[iA (x:=(q:Int)+1)];exact fO rfl;unfold j0;dsimp only;rw[oDF (show ¬(args.length:Int)<args.length by omega)];exact fO rfl
 unfold oV;delta fY;simp_all
def Rx(call:Int):Bool:=decide ((1<=call/\call<=7)\/call=13\/call=14)
theorem Ps{call:Int}(h:0<=call/\call<=15):tM call=some (Rx call,()):=by rcases qg h with rfl|rfl|rfl|rfl|rfl|rfl|rfl|rfl|rfl|rfl|rfl|rfl|rfl|rfl|rfl|rfl<;>rfl
structure VE (ss:M_)(t v r o:Int)(data:D_)(sp:Int)(w:Bool):Prop where
 val:Pr ss (t,v,r,o)
 dat:data.length<=64/\∀c∈data,Pr ss c
 spn:-1<=sp/\sp<=3
def RD(us X7:I_)(call:Int)(args data:D_)(t v:Int):Prop:=(call≠13/\X7=us)\/(call=13/\t=0/\((X7=us/\v=65535)\/(v≠65535/\∃a,args[0]?=some a/\X7=us++[((us.length:Int),a.2.1,data)]/\0<=a.2.1/\a.2.1<2/\us.length<200)))
def T0(call:Int)(args dat:D_):Prop:=dat≠[]->rS call=2/\∃q:DCn,args[2]?=some q/\(dat.length:Int)<=q.2.1
def DoX(ss:M_)(us0:I_)(call:Int)(args dat0:D_)(r:v_×v_×g_×i_×H_×I_×Int×Int×Int×Int×D_×Int×Bool×Int×Unit):Prop:=∃ck rn ins d os us t v rg o data,r=(ck,rn,ins,d,os,us,t,v,rg,o,data,-1,false,0,())/\vo ss ck rn ins d os us/\Pr ss (t,v,rg,o)/\(data.length<=16/\∀c∈data,Pr ss c)/\RD us0 us call args dat0 t v/\T0 call args data
theorem nc{ss:M_}{us0:I_}{call:Int}{args dat0:D_}{ck rn:M_}{ins:j_}{d:i_}{os:H_}{us:I_}{t v rg o:Int}{data:D_}(h:vo ss ck rn ins d os us)(hv:Pr ss (t,v,rg,o))(hd:data.length<=16/\∀c∈data,Pr ss c)
 (hu:RD us0 us call args dat0 t v)(hp:T0 call args data):Ok (some (ck,rn,ins,d,os,us,t,v,rg,o,data,(-1:Int),false,(0:Int),())) (DoX ss us0 call args dat0):=fO ⟨_,_,_,_,_,_,_,_,_,_,_,rfl,h,hv,hd,hu,hp⟩
theorem kz{call:Int}{args:D_}:T0 call args []:=λh=>absurd rfl h
def DoP(ss:M_)(r:v_×v_×g_×i_×H_×I_×Int×Int×Int×Int×D_×Int×Bool×Int×Unit):Prop:=∃ck rn ins d os us t v rg o data,r=(ck,rn,ins,d,os,us,t,v,rg,o,data,-1,false,0,())/\vo ss ck rn ins d os us/\Pr ss (t,v,rg,o)/\data.length<=16/\∀c∈data,Pr ss c
theorem ne{ss:M_}{ck rn:M_}{ins:j_}{d:i_}{os:H_}{us:I_}{t v rg o:Int}{data:D_}(h:vo ss ck rn ins d os us)(hv:Pr ss (t,v,rg,o))(hd:data.length<=16/\∀c∈data,Pr ss c):
 Ok (some (ck,rn,ins,d,os,us,t,v,rg,o,data,(-1:Int),false,(0:Int),())) (DoP ss):=fO ⟨_,_,_,_,_,_,_,_,_,_,_,rfl,h,hv,hd⟩
theorem Pr.val{ss:M_}{c:DCn}(h:Pr ss c):W16 c.2.1:=by rcases h with⟨_,_,_,h⟩|⟨_,h,_⟩;exact h;rw[h];exact⟨by decide,by decide⟩
theorem R2{n:Int}{ss:M_}{i trap count pc call:Int}{args data:D_}(h:AD n ss i 1 trap count pc call args data):rS call=0\/rS call=1\/(rS call=2/\∃a,args[2]?=some a/\a.2.1<=16):=by
 by_cases h2:rS call=2;exact .inr (.inr ⟨h2,h.hbuf rfl h2⟩);have:rS call=0\/rS call=1\/rS call=2:=by unfold rS;split<;>first|omega|(split<;>omega)
 omega
theorem rV{α:Type}{a b:Option α}{Q:α->Prop}(h:Ok a Q)(e:b=a):Ok b Q:=by simp_all
set_option maxHeartbeats 4000000 in
theorem Vx{n:Int}{ss:M_}{ck rn:M_}{ins:j_}{d:i_}{os:H_}{us:I_}{i trap count pc call:Int}{args data:D_}(hs:AC ss)(hO:vo ss ck rn ins d os us)(hR:AD n ss i 1 trap count pc call args data) (ha:Rx call=true)(hn:n<=1099511627776):Ok (nE ck rn ins d os us i 1 trap count pc call args data) (DoP ss):=by
 have hc:=hR.hcall;have X8:=hR.hdata;have Yg:=hR.hargs;unfold nE;rw[uU hs hO,yw hs hR hn,Ps hc,ha,DX hR,rP hc];simp only[oBS,oNT,oCF,oBN];refine Ok.bind (P:=λr=>r=(false,ck,rn,ins,d,os,us,i,1,trap,count,pc,call,args,data,(),(),(),(),(),(),0,0,0,0,(),0,false,())) ?_ ?_;rcases R2 hR with h|h|⟨h,a,h2,h3⟩;rw[h];exact fO rfl;rw[h];exact fO rfl;rw[h];simp only[BEq.rfl,oCT,show fR args 2=some a from h2,oBS];rw[oDF (show ¬a.2.1>16 by omega)];exact fO rfl;rintro _ rfl;dsimp only;delta fY;simp only[oCF,Cb hO,oBS];refine gL (P:=λs'=>∃(k:Nat)(vs:M_),s'=(args,(args.length:Int),(k:Int),ck,rn,ins,d,os,us,i,1,trap,count,pc,call,args,data,(),(),(),(),(),(),0,0,0,0,(),0,false,ck,rn,ins,d,os,us,vs,())/\k<=args.length/\vs.length=3/\(∀v∈vs,W16 v)/\∀(j:Nat) a,j<k->args[j]?=some a->vs[j]?=some a.2.1)
  (R:=λr=>∃(z:Int)(vs:M_),r=(args,(args.length:Int),z,false,ck,rn,ins,d,os,us,i,1,trap,count,pc,call,args,data,(),(),(),(),(),(),0,0,0,0,(),0,false,ck,rn,ins,d,os,us,vs,())/\vs.length=3/\(∀v∈vs,W16 v)/\∀(j:Nat) a,args[j]?=some a->vs[j]?=some a.2.1) (m:=λs'=>(s'.2.1-s'.2.2.1).toNat)
  ⟨0,[0,0,0],rfl,by omega,rfl,all_cons ⟨by decide,by decide⟩ (all_cons ⟨by decide,by decide⟩ (all_cons ⟨by decide,by decide⟩ gu)),λj a hj=>by omega⟩ (by unfold NN;dsimp only;omega) ?_ ?_
 rintro _ ⟨k,vs,rfl,hk,R',WE,hva⟩;unfold r7;dsimp only;refine fQ (λZ'=>?_) λZ'=>?_;simp only[fV,oBS];refine fX λa hak=>?_;have hw:=(Yg.2 a (fW hak)).val;refine fX λv hv=>?_;refine fX λ_ _=>?_;rw[gc (x:=a.2.1) (by have:=hw.1;omega) (by have:=hw.2;omega),iA (x:=(k:Int)+1),gl hv];refine fO ⟨⟨k+1,_,rfl,by omega,by rw[oLS];exact R',jQ WE hw,λj a' hj Wv=>?_⟩,by dsimp only;omega⟩;by_cases e:k=j;subst e;rw[hak]at Wv;cases Wv;exact gX (by omega) _;rw[km e];exact hva j a' (by omega) Wv;refine fO ⟨_,vs,rfl,R',WE,λj a Wv=>hva j a ?_ Wv⟩;have:=(oGS Wv).1;omega;rintro _ ⟨z,vs,rfl,R',WE,hva⟩;obtain⟨v0,ev0,YQ⟩:=hJ 0 false;obtain⟨a0,a1,a2,rfl⟩:∃a b c,vs=[a,b,c]:=by match vs,R' with| [a,b,c],_=>exact⟨a,b,c,rfl⟩
 have w0:W16 a0:=WE a0 (by simp);have w1:W16 a1:=WE a1 (by simp);have w2:W16 a2:=WE a2 (by simp);have g0:fR [a0,a1,a2] 0=some a0:=rfl;have g1:fR [a0,a1,a2] 1=some a1:=rfl;have g2:fR [a0,a1,a2] 2=some a2:=rfl;have a2le:rS call=2->a2<=16:=λh=>by
  obtain⟨a,h2,h3⟩:=hR.hbuf rfl h;have:=hva 2 a h2;have:a2=a.2.1:=by simpa using this
  omega
 have ZV:([]:D_).length<=16/\∀c∈([]:D_),Pr ss c:=⟨by decide,gu⟩;dsimp only;simp only[ev0,oBS,g0,g1,g2];rcases qg hc with rfl|rfl|rfl|rfl|rfl|rfl|rfl|rfl|rfl|rfl|rfl|rfl|rfl|rfl|rfl|rfl;all_goals first|(exact absurd ha (by decide))|simp only[Int.reduceBEq,oCT,oCF]
 obtain⟨_,e,d1,WH,m,b,rfl,hF,_⟩:=DG (h:=a0) hs hO.files X8.1 X8.2;obtain⟨v,ev,hv⟩:=hJ m b;simp only[e,ev,oBS];exact ne ⟨hO.clock,hO.rand,hO.ilen,hO.inp,hF,hO.ulen,hO.outs⟩ (iS hv) ZV;have Yh:=a2le rfl;obtain⟨_,e,hr⟩:=G6 (h:=a0) (n:=a2) hO.files w2;rcases hr with⟨d1,WH,rfl,hF⟩|⟨d1,WH,l,rfl,hF,hl,_,W6⟩;simp only[e,ev0,oBS];exact ne ⟨hO.clock,hO.rand,hO.ilen,hO.inp,hF,hO.ulen,hO.outs⟩ (iS YQ) ZV;obtain⟨v,ev,hv⟩:=hJ (l.length:Int) true;simp only[e,ev,oBS];exact ne ⟨hO.clock,hO.rand,hO.ilen,hO.inp,hF,hO.ulen,hO.outs⟩ (iS hv) ⟨by omega,W6⟩;obtain⟨_,e,d1,WH,h,rfl,hF,h0,h7⟩:=KR (file:=a0) (mode:=a1) hO.files;simp only[e,oBS];have Yu:vo ss ck rn ins d1 WH us:=⟨hO.clock,hO.rand,hO.ilen,hO.inp,hF,hO.ulen,hO.outs⟩;by_cases hh:h>=0;simp only[oDT hh,oCT];exact ne Yu (Oa (jW _)) ZV;simp only[oDF hh,oCF];exact ne Yu (iS YQ) ZV;obtain⟨_,e,d1,WH,b,rfl,hF⟩:=D8 (h:=a0) hO.files;obtain⟨v,ev,hv⟩:=hJ 0 b;simp only[e,ev,oBS];exact ne ⟨hO.clock,hO.rand,hO.ilen,hO.inp,hF,hO.ulen,hO.outs⟩ (iS hv) ZV;obtain⟨_,e,d1,WH,b,rfl,hF⟩:=GW (h:=a0) (n:=a1) hO.files;obtain⟨v,ev,hv⟩:=hJ 0 b;simp only[e,ev,oBS];exact ne ⟨hO.clock,hO.rand,hO.ilen,hO.inp,hF,hO.ulen,hO.outs⟩ (iS hv) ZV;cases ck with
 |nil=>exact ne hO (iS YQ) ZV|cons x ck=>
  obtain⟨v,ev,hv⟩:=hJ (wk .i64 x) true;have hw:nv (x::ck) 1 (Nat.sub (x::ck).length 1)=ck:=by unfold nv;simp
  refine rV (ne (ck:=ck) ⟨⟨by have:=hO.clock.1;simp at this;omega,λw hw=>hO.clock.2 w (by simp[hw])⟩,hO.rand,hO.ilen,hO.inp,hO.files,hO.ulen,hO.outs⟩ (iS hv) ZV) ?_;simp only[oLC,show fR (x::ck) 0=some x from rfl,oBS,ev];have hd:∀inst:Decidable (((ck.length+1:Nat):Int)>0),@decide _ inst=true:=λinst=>oDT (by omega);rw[oLC]at hw;rw[hd,show iK 1 (ck.length+1) (ck.length+1)=true by unfold iK;simp,hw];rfl
 cases rn with
 |nil=>exact ne hO (iS YQ) ZV|cons x rn=>
  obtain⟨v,ev,hv⟩:=hJ (wk .i64 x) true;have hw:nv (x::rn) 1 (Nat.sub (x::rn).length 1)=rn:=by unfold nv;simp
  refine rV (ne (rn:=rn) ⟨hO.clock,⟨by have:=hO.rand.1;simp at this;omega,λw hw=>hO.rand.2 w (by simp[hw])⟩,hO.ilen,hO.inp,hO.files,hO.ulen,hO.outs⟩ (iS hv) ZV) ?_;simp only[oLC,show fR (x::rn) 0=some x from rfl,oBS,ev];have hd:∀inst:Decidable (((rn.length+1:Nat):Int)>0),@decide _ inst=true:=λinst=>oDT (by omega);rw[oLC]at hw;rw[hd,show iK 1 (rn.length+1) (rn.length+1)=true by unfold iK;simp,hw];rfl
 obtain⟨_,e,us1,m,b,rfl,hu,ho⟩:=NE (sk:=a0) hO.ulen hO.outs X8.1 X8.2;obtain⟨v,ev,hv⟩:=hJ m b;simp only[e,ev,oBS];exact ne ⟨hO.clock,hO.rand,hO.ilen,hO.inp,hO.files,hu,ho⟩ (iS hv) ZV;have Yh:=a2le rfl;obtain⟨_,e,hr⟩:=zi (ss:=ss) (sk:=a0) (n:=a2) hO.ilen hO.inp w2;rcases hr with⟨in1,rfl,Xr,Xs⟩|⟨in1,l,rfl,⟨Xr,Xs⟩,hl,_,W6⟩;simp only[e,ev0,oBS];exact ne ⟨hO.clock,hO.rand,Xr,Xs,hO.files,hO.ulen,hO.outs⟩ (iS YQ) ZV;obtain⟨v,ev,hv⟩:=hJ (l.length:Int) true;simp only[e,ev,oBS];exact ne ⟨hO.clock,hO.rand,Xr,Xs,hO.files,hO.ulen,hO.outs⟩ (iS hv) ⟨by omega,W6⟩
set_option maxHeartbeats 4000000 in
theorem UN{n:Int}{ss:M_}{ck rn:M_}{ins:j_}{d:i_}{os:H_}{us:I_}{i trap count pc call:Int}{args data:D_}(hs:AC ss)(hO:vo ss ck rn ins d os us)(hR:AD n ss i 1 trap count pc call args data) (ha:Rx call=true)(hn:n<=1099511627776):Ok (nE ck rn ins d os us i 1 trap count pc call args data) (DoX ss us call args data):=by
 have hc:=hR.hcall;have X8:=hR.hdata;have Yg:=hR.hargs;unfold nE;rw[uU hs hO,yw hs hR hn,Ps hc,ha,DX hR,rP hc];simp only[oBS,oNT,oCF,oBN];refine Ok.bind (P:=λr=>r=(false,ck,rn,ins,d,os,us,i,1,trap,count,pc,call,args,data,(),(),(),(),(),(),0,0,0,0,(),0,false,())) ?_ ?_;rcases R2 hR with h|h|⟨h,a,h2,h3⟩;rw[h];exact fO rfl;rw[h];exact fO rfl;rw[h];simp only[BEq.rfl,oCT,show fR args 2=some a from h2,oBS];rw[oDF (show ¬a.2.1>16 by omega)];exact fO rfl;rintro _ rfl;dsimp only;delta fY;simp only[oCF,Cb hO,oBS];refine gL (P:=λs'=>∃(k:Nat)(vs:M_),s'=(args,(args.length:Int),(k:Int),ck,rn,ins,d,os,us,i,1,trap,count,pc,call,args,data,(),(),(),(),(),(),0,0,0,0,(),0,false,ck,rn,ins,d,os,us,vs,())/\k<=args.length/\vs.length=3/\(∀v∈vs,W16 v)/\∀(j:Nat) a,j<k->args[j]?=some a->vs[j]?=some a.2.1)
  (R:=λr=>∃(z:Int)(vs:M_),r=(args,(args.length:Int),z,false,ck,rn,ins,d,os,us,i,1,trap,count,pc,call,args,data,(),(),(),(),(),(),0,0,0,0,(),0,false,ck,rn,ins,d,os,us,vs,())/\vs.length=3/\(∀v∈vs,W16 v)/\∀(j:Nat) a,args[j]?=some a->vs[j]?=some a.2.1) (m:=λs'=>(s'.2.1-s'.2.2.1).toNat)
  ⟨0,[0,0,0],rfl,by omega,rfl,all_cons ⟨by decide,by decide⟩ (all_cons ⟨by decide,by decide⟩ (all_cons ⟨by decide,by decide⟩ gu)),λj a hj=>by omega⟩ (by unfold NN;dsimp only;omega) ?_ ?_
 rintro _ ⟨k,vs,rfl,hk,R',WE,hva⟩;unfold r7;dsimp only;refine fQ (λZ'=>?_) λZ'=>?_;simp only[fV,oBS];refine fX λa hak=>?_;have hw:=(Yg.2 a (fW hak)).val;refine fX λv hv=>?_;refine fX λ_ _=>?_;rw[gc (x:=a.2.1) (by have:=hw.1;omega) (by have:=hw.2;omega),iA (x:=(k:Int)+1),gl hv];refine fO ⟨⟨k+1,_,rfl,by omega,by rw[oLS];exact R',jQ WE hw,λj a' hj Wv=>?_⟩,by dsimp only;omega⟩;by_cases e:k=j;subst e;rw[hak]at Wv;cases Wv;exact gX (by omega) _;rw[km e];exact hva j a' (by omega) Wv;refine fO ⟨_,vs,rfl,R',WE,λj a Wv=>hva j a ?_ Wv⟩;have:=(oGS Wv).1;omega;rintro _ ⟨z,vs,rfl,R',WE,hva⟩;obtain⟨v0,ev0,YQ⟩:=hJ 0 false;obtain⟨a0,a1,a2,rfl⟩:∃a b c,vs=[a,b,c]:=by match vs,R' with| [a,b,c],_=>exact⟨a,b,c,rfl⟩
 have w0:W16 a0:=WE a0 (by simp);have w1:W16 a1:=WE a1 (by simp);have w2:W16 a2:=WE a2 (by simp);have g0:fR [a0,a1,a2] 0=some a0:=rfl;have g1:fR [a0,a1,a2] 1=some a1:=rfl;have g2:fR [a0,a1,a2] 2=some a2:=rfl;have a2le:rS call=2->a2<=16:=λh=>by
  obtain⟨a,h2,h3⟩:=hR.hbuf rfl h;have:=hva 2 a h2;have:a2=a.2.1:=by simpa using this
  omega
 have a2x:rS call=2->∀{l:D_},(l.length:Int)<=a2->∃q:DCn,args[2]?=some q/\(l.length:Int)<=q.2.1:=λh l hl=>by
  obtain⟨a,h2,h3⟩:=hR.hbuf rfl h;have:=hva 2 a h2;have e2:a2=a.2.1:=by simpa using this
  exact⟨a,h2,by omega⟩
 have ZV:([]:D_).length<=16/\∀c∈([]:D_),Pr ss c:=⟨by decide,gu⟩;dsimp only;simp only[ev0,oBS,g0,g1,g2];rcases qg hc with rfl|rfl|rfl|rfl|rfl|rfl|rfl|rfl|rfl|rfl|rfl|rfl|rfl|rfl|rfl|rfl;all_goals first|(exact absurd ha (by decide))|simp only[Int.reduceBEq,oCT,oCF]
 obtain⟨_,e,d1,WH,m,b,rfl,hF,_⟩:=DG (h:=a0) hs hO.files X8.1 X8.2;obtain⟨v,ev,hv⟩:=hJ m b;simp only[e,ev,oBS];exact nc ⟨hO.clock,hO.rand,hO.ilen,hO.inp,hF,hO.ulen,hO.outs⟩ (iS hv) ZV (.inl ⟨by decide,rfl⟩) kz;have Yh:=a2le rfl;obtain⟨_,e,hr⟩:=G6 (h:=a0) (n:=a2) hO.files w2;rcases hr with⟨d1,WH,rfl,hF⟩|⟨d1,WH,l,rfl,hF,hl,_,W6⟩;simp only[e,ev0,oBS];exact nc ⟨hO.clock,hO.rand,hO.ilen,hO.inp,hF,hO.ulen,hO.outs⟩ (iS YQ) ZV (.inl ⟨by decide,rfl⟩) kz;obtain⟨v,ev,hv⟩:=hJ (l.length:Int) true;simp only[e,ev,oBS];exact nc ⟨hO.clock,hO.rand,hO.ilen,hO.inp,hF,hO.ulen,hO.outs⟩ (iS hv) ⟨by omega,W6⟩ (.inl ⟨by decide,rfl⟩) (λ_=>⟨rfl,a2x rfl hl⟩);obtain⟨_,e,d1,WH,h,rfl,hF,h0,h7⟩:=KR (file:=a0) (mode:=a1) hO.files;simp only[e,oBS];have Yu:vo ss ck rn ins d1 WH us:=⟨hO.clock,hO.rand,hO.ilen,hO.inp,hF,hO.ulen,hO.outs⟩;by_cases hh:h>=0;simp only[oDT hh,oCT];exact nc Yu (Oa (jW _)) ZV (.inl ⟨by decide,rfl⟩) kz;simp only[oDF hh,oCF];exact nc Yu (iS YQ) ZV (.inl ⟨by decide,rfl⟩) kz;obtain⟨_,e,d1,WH,b,rfl,hF⟩:=D8 (h:=a0) hO.files;obtain⟨v,ev,hv⟩:=hJ 0 b;simp only[e,ev,oBS];exact nc ⟨hO.clock,hO.rand,hO.ilen,hO.inp,hF,hO.ulen,hO.outs⟩ (iS hv) ZV (.inl ⟨by decide,rfl⟩) kz;obtain⟨_,e,d1,WH,b,rfl,hF⟩:=GW (h:=a0) (n:=a1) hO.files;obtain⟨v,ev,hv⟩:=hJ 0 b;simp only[e,ev,oBS];exact nc ⟨hO.clock,hO.rand,hO.ilen,hO.inp,hF,hO.ulen,hO.outs⟩ (iS hv) ZV (.inl ⟨by decide,rfl⟩) kz;cases ck with
 |nil=>exact nc hO (iS YQ) ZV (.inl ⟨by decide,rfl⟩) kz|cons x ck=>
  obtain⟨v,ev,hv⟩:=hJ (wk .i64 x) true;have hw:nv (x::ck) 1 (Nat.sub (x::ck).length 1)=ck:=by unfold nv;simp
  refine rV (nc (ck:=ck) ⟨⟨by have:=hO.clock.1;simp at this;omega,λw hw=>hO.clock.2 w (by simp[hw])⟩,hO.rand,hO.ilen,hO.inp,hO.files,hO.ulen,hO.outs⟩ (iS hv) ZV (.inl ⟨by decide,rfl⟩) kz) ?_;simp only[oLC,show fR (x::ck) 0=some x from rfl,oBS,ev];have hd:∀inst:Decidable (((ck.length+1:Nat):Int)>0),@decide _ inst=true:=λinst=>oDT (by omega);rw[oLC]at hw;rw[hd,show iK 1 (ck.length+1) (ck.length+1)=true by unfold iK;simp,hw];rfl
 cases rn with
 |nil=>exact nc hO (iS YQ) ZV (.inl ⟨by decide,rfl⟩) kz|cons x rn=>
  obtain⟨v,ev,hv⟩:=hJ (wk .i64 x) true;have hw:nv (x::rn) 1 (Nat.sub (x::rn).length 1)=rn:=by unfold nv;simp
  refine rV (nc (rn:=rn) ⟨hO.clock,⟨by have:=hO.rand.1;simp at this;omega,λw hw=>hO.rand.2 w (by simp[hw])⟩,hO.ilen,hO.inp,hO.files,hO.ulen,hO.outs⟩ (iS hv) ZV (.inl ⟨by decide,rfl⟩) kz) ?_;simp only[oLC,show fR (x::rn) 0=some x from rfl,oBS,ev];have hd:∀inst:Decidable (((rn.length+1:Nat):Int)>0),@decide _ inst=true:=λinst=>oDT (by omega);rw[oLC]at hw;rw[hd,show iK 1 (rn.length+1) (rn.length+1)=true by unfold iK;simp,hw];rfl
 obtain⟨_,e,us1,m,b,rfl,hu,ho,hx⟩:=Qc (sk:=a0) hO.ulen hO.outs X8.1 X8.2;obtain⟨v,ev,hv,hv0',hv1'⟩:=Sk m b;have hsend:RD us us1 13 args data 0 v:=by
  refine .inr ⟨rfl,rfl,?_⟩;rcases hx with⟨hb,hu⟩|⟨hb,hm,hu,s0,s1,hlt⟩;exact .inl ⟨hu,hv0' hb⟩;obtain⟨Y7,_⟩:=hR.hkind rfl;obtain⟨a,ha⟩:=gr args 0 (by rw[Y7];decide);have e0:a0=a.2.1:=by simpa using hva 0 a ha
  exact .inr ⟨hv1' hb (by omega) (by have:=X8.1;omega),a,ha,by rw[hu,e0],by omega,by omega,hlt⟩
 simp only[e,ev,oBS];exact nc ⟨hO.clock,hO.rand,hO.ilen,hO.inp,hO.files,hu,ho⟩ (iS hv) ZV hsend kz;have Yh:=a2le rfl;obtain⟨_,e,hr⟩:=zi (ss:=ss) (sk:=a0) (n:=a2) hO.ilen hO.inp w2;rcases hr with⟨in1,rfl,Xr,Xs⟩|⟨in1,l,rfl,⟨Xr,Xs⟩,hl,_,W6⟩;simp only[e,ev0,oBS];exact nc ⟨hO.clock,hO.rand,Xr,Xs,hO.files,hO.ulen,hO.outs⟩ (iS YQ) ZV (.inl ⟨by decide,rfl⟩) kz;obtain⟨v,ev,hv⟩:=hJ (l.length:Int) true;simp only[e,ev,oBS];exact nc ⟨hO.clock,hO.rand,Xr,Xs,hO.files,hO.ulen,hO.outs⟩ (iS hv) ⟨by omega,W6⟩ (.inl ⟨by decide,rfl⟩) (λ_=>⟨rfl,a2x rfl hl⟩)
def oa(bs:M_)(key:Int)(c:DCn):DCe:=if c.1=0 then(0,c.2.1)else if c.1=2 then(2,wk .u16 (c.2.1+key))else(1,wk .u16 (bs.getD c.2.2.1.toNat 0+c.2.2.2))
theorem wZ{bs ss:M_}(h:LV bs ss){r o n:Int}(h1:0<=r)(h2:ss[r.toNat]?=some n)(h3:0<=o)(h4:o<n):∃b,bs[r.toNat]?=some b/\0<=b+o/\b+o<512/\b<=b+o/\b+o<b+n:=by have ⟨hs,hl,hr⟩:=h;have hj:=(oGS h2).1;have ⟨b,hb⟩:=gr bs r.toNat (by omega);have WD:=hr r.toNat (by omega);unfold wM at WD;rw[gp hb,gp h2]at WD;exact⟨b,hb,by omega,by omega,by omega,by omega⟩
theorem qP{bs ss:M_}{key:Int}{c:DCn}(h:LV bs ss)(hc:Pr ss c):jk bs key ss c.1 c.2.1 c.2.2.1 c.2.2.2=some ((oa bs key c).1,(oa bs key c).2,0,())/\nP (RK bs ss) (oa bs key c):=by unfold jk oa;rw[mh hc];rcases hc with⟨h1|h1,h2,h3,h4⟩|⟨h1,h2,h3,n,h5,h6,h7⟩;rw[h1];exact⟨rfl,j7 h4⟩;rw[h1];exact⟨rfl,(show(0:Int)<=2 by decide),(show(2:Int)<=2 by decide),(jW _).1,(jW _).2,λe=>absurd (show(2:Int)=1 from e) (by decide)⟩;obtain⟨b,hb,b0,b1,b2,b3⟩:=wZ h h3 h5 h6 h7;obtain⟨j,hj⟩:∃j:Nat,c.2.2.1=j:=⟨c.2.2.1.toNat,by omega⟩;rw[hj]at hb h5⊢;rw[h1,gp hb];simp[oCF,if_false,fV,show fR bs j=some b from hb];rw[gw (by omega) (by omega),gi (by omega) (by omega)];exact⟨rfl,by omega,by omega,by omega,by omega,λ_=>⟨j,b,n,hb,h5,b2,b3⟩⟩
theorem Ee{bs ss:M_}{key r o n:Int}(h:LV bs ss)(h1:0<=r)(h2:ss[r.toNat]?=some n)(h3:0<=o)(h4:o<n):∃a,mT bs key ss r o=some (a,0,())/\0<=a/\a<512/\a=bs.getD r.toNat 0+o:=by have ⟨b,hb,b0,b1,_⟩:=wZ h h1 h2 h3 h4;obtain⟨j,rfl⟩:∃j:Nat,r=j:=⟨r.toNat,by omega⟩;unfold mT;rw[xz h1 h2 h3 h4];simp[fV,show fR bs j=some b from hb];rw[gw (by omega) (by omega)];simp_all
theorem KS(pc t v:Int):sd pc t v=some (1,[(t,v),(0,0),(0,0),(0,0),(0,0),(0,0),(0,0),(0,0)],pc,0,-1,-1,0,0,()):=rfl
def VH(n key:Int)(ss bs:M_)(r:Bool×v_×Int×C_×G_×J_×Unit):Prop:=∃b Z9 Z8 ZY,r=(b,bs,key,Z9,Z8,ZY,())/\(b=true->MOk n ss bs Z9 Z8 ZY)
theorem Bj{n key:Int}{ss bs:M_}{cs:C_}{ls:G_}{ts:J_}:Ok (some (false,bs,key,cs,ls,ts,())) (VH n key ss bs):=fO ⟨_,_,_,_,rfl,λh=>by cases h⟩
theorem tJ{n key ct cv:Int}{ss bs:M_}{cs:C_}{ls:G_}{ts:J_}{i:Nat}(h:MOk n ss bs cs ls ts)(hi:i<4)(hc:nP (RK bs ss) (ct,cv)):Ok ((fR ts i).bind λ_=>(fR ts i).bind λx75=>(fR x75.2.1 0).bind λ_=>(fR ts i).bind λx77=>(fR x77.2.1 0).bind λ_=>(fR (List.modify ts i λe=>(e.1,((List.modify e.2.1 0 λ_=>(ct,cv)),e.2.2))) i).bind λ_=> some (true,bs,key,cs,ls,List.modify (List.modify ts i λe=>(e.1,((List.modify e.2.1 0 λ_=>(ct,cv)),e.2.2))) i λe=>((1:Int),e.2),())) (VH n key ss bs):=by have Yp:=h.tlen;have ⟨t,ht⟩:=gr ts i (by omega);have hg:fR ts i=some t:=ht;have hil:=(oGS ht).1;have hok:=h.thr t (fW ht);have ⟨c,hc0⟩:=gr t.2.1 0 (by have:=hok.len;omega);simp[hg,show fR t.2.1 0=some c from hc0,gl ht,gl hc0,gX hil,pM hil];exact fO ⟨_,_,_,_,rfl,λ_=>h.set h.mem ⟨⟨show(0:Int)<=1 by decide,show(1:Int)<=4 by decide⟩,by dsimp only;rw[oLS];exact hok.len,jQ hok.regs hc,hok.pc,hok.count,hok.handler,hok.saved,hok.trap,hok.code⟩⟩
theorem DJ{K:Int->Prop}{n pc:Int}{rs:C_}(hl:rs.length=8)(hr:∀c∈rs,nP K c)(hp:0<=pc/\pc<=255)(hn:0<=n):zd K n (1,rs,pc,0,-1,-1,0,0):=⟨⟨show(0:Int)<=1 by decide,show(1:Int)<=4 by decide⟩,hl,hr,hp,⟨show(0:Int)<=0 by decide,hn⟩,⟨show(-1:Int)<=-1 by decide,show(-1:Int)<=255 by decide⟩,⟨show(-1:Int)<=-1 by decide,show(-1:Int)<=255 by decide⟩,⟨show(0:Int)<=0 by decide,show(0:Int)<=6 by decide⟩,⟨show(0:Int)<=0 by decide,show(0:Int)<=65535 by decide⟩⟩
theorem MOk.mk_mem{n:Int}{ss bs:M_}{cs Z9:C_}{ls Z8:G_}{ts:J_}(h:MOk n ss bs cs ls ts)(hm:i4 (RK bs ss) Z9 Z8):MOk n ss bs Z9 Z8 ts:=⟨h.lay,hm,h.tlen,h.thr⟩
set_option maxHeartbeats 4000000 in
theorem Vb{n m key:Int}{code:F_}{ss bs:M_}{dd:j_}{cs:C_}{ls:G_}{ts:J_}{i:Nat}{trap count pc call:Int}{args data:D_}{t v rg o sp:Int}{dat:D_}{w:Bool}(h:MOk n ss bs cs ls ts)(hi:i<4) (hR:AD m ss (i:Int) 1 trap count pc call args data)(hv:Pr ss (t,v,rg,o))(hd:dat.length<=16/\∀c∈dat,Pr ss c)(ZD:-1<=sp/\sp<=3):Ok (nF code ss dd (i:Int) 1 trap count pc call args data t v rg o dat sp w bs key cs ls ts) (VH n key ss bs):=by
 have hL:=h.lay;have Yp:=h.tlen;obtain⟨Y7,X'⟩:=hR.hkind rfl;have hargs:=hR.hargs;obtain⟨XU,Zo⟩:=qP (key:=key) hL hv;obtain⟨th,Zp⟩:=gr ts i (by omega);have hok:=h.thr th (fW Zp);have hc0:=hok.count;have hil:=(oGS Zp).1;dsimp only at XU;unfold nF;delta fY;rw[fV,XU,rP hR.hcall];simp only[oBS,oBN,oCF];refine gP hil λ_ _=>?_;have ZT:=tJ (key:=key) (ct:=(oa bs key (t,v,rg,o)).1) (cv:=(oa bs key (t,v,rg,o)).2) h hi Zo;have buf:rS call=2->dat.length>0->∃a:DCn,args[1]?=some a/\Pr ss a/\a.1=1/\∃y,f9 jj NN (i,dat,(dat.length:Int),0,bs,key,cs,ls,ts,code,ss,dd,(i:Int),1,trap,count,pc,call,args,data,t,v,rg,o,dat,sp,w,(oa bs key (t,v,rg,o)).1,(oa bs key (t,v,rg,o)).2,a.2.2.1,a.2.2.2,())=some y /\((∃Z9 Z8,y=.inl (false,bs,key,Z9,Z8,ts,()))\/(∃Z9 Z8 z f,y=.inr (i,dat,(dat.length:Int),z,false,bs,key,Z9,Z8,ts,code,ss,dd,(i:Int),1,trap,count,pc,call,args,data,t,v,rg,o,dat,sp,w,(oa bs key (t,v,rg,o)).1,(oa bs key (t,v,rg,o)).2,a.2.2.1,f,())/\i4 (RK bs ss) Z9 Z8)):=by
  intro hb ZX;have hkk:(kB call)[1]?=some 80:=by
   have:call=2\/call=14:=by unfold rS at hb;split at hb<;>first|omega|(split at hb<;>omega)
   rcases this with rfl|rfl<;>rfl
  have Xu:=(oGS hkk).1;obtain⟨a,ha⟩:=gr args 1 (by omega);have Yg:=hargs.2 a (fW ha);have Z2:=X' 1 80 a hkk ha;have YF:a.1=1:=by unfold Mz at Z2;simpa using Z2
  have ha32:0<=a.2.2.2/\a.2.2.2<=32:=by rcases Yg with⟨g,_⟩|⟨_,_,_,z,g1,g2,g3⟩;omega;have:=hL.1.2.2 z (fW g1);omega
  refine⟨a,ha,Yg,YF,?_⟩;refine gW (f:=jj) (n:=NN) (P:=λs'=>∃k:Nat,∃Z9 Z8,s'=(i,dat,(dat.length:Int),(k:Int),bs,key,Z9,Z8,ts,code,ss,dd,(i:Int),1,trap,count,pc,call,args,data,t,v,rg,o,dat,sp,w,(oa bs key (t,v,rg,o)).1,(oa bs key (t,v,rg,o)).2,a.2.2.1,a.2.2.2+k,())/\k<=dat.length/\i4 (RK bs ss) Z9 Z8)
   (R:=λy=>(∃Z9 Z8,y=.inl (false,bs,key,Z9,Z8,ts,()))\/(∃Z9 Z8 z f,y=.inr (i,dat,(dat.length:Int),z,false,bs,key,Z9,Z8,ts,code,ss,dd,(i:Int),1,trap,count,pc,call,args,data,t,v,rg,o,dat,sp,w,(oa bs key (t,v,rg,o)).1,(oa bs key (t,v,rg,o)).2,a.2.2.1,f,())/\i4 (RK bs ss) Z9 Z8))
   (m:=λs'=>(s'.2.2.1-s'.2.2.2.1).toNat) ⟨0,cs,ls,by simp,by omega,h.mem⟩ (by unfold NN;dsimp only;omega) ?_
  rintro _ ⟨k,Z9,Z8,rfl,hk,hm⟩;unfold jj;dsimp only;refine fQ (λZ'=>?_) λZ'=>?_;rw[fV];simp only[oBS];refine fX λc hc=>?_;obtain⟨Z6,Yi⟩:=qP (key:=key) hL (hd.2 c (fW hc));rw[Z6];simp only[oBS,oBN,oCF];refine D0.bind ?_;rintro⟨q,_⟩ hin;dsimp only at hin⊢;refine fQ (λZ1=>?_) λZ1=>?_;exact fO (.inl ⟨_,_,rfl⟩);obtain⟨g1,g2,z,g3,g4⟩:=hin Z1;obtain⟨ad,ea,a0,a1,_⟩:=Ee (key:=key) hL g1 g3 g2 g4;rw[ea];simp only[oBS];refine(yA hm ⟨a0,a1⟩ Yi).bind ?_;rintro _ ⟨W1,Xe,rfl,hm2⟩;dsimp only;rw[iA (x:=a.2.2.2+k+1),iA (x:=(k:Int)+1)];exact fO ⟨⟨k+1,_,_,by rw[show a.2.2.2+((k+1:Nat):Int)=a.2.2.2+k+1 by omega];rfl,by omega,hm2⟩,by dsimp only;omega⟩;exact fO (.inr ⟨_,_,_,_,rfl,hm⟩)
 rcases qg hR.hcall with rfl|rfl|rfl|rfl|rfl|rfl|rfl|rfl|rfl|rfl|rfl|rfl|rfl|rfl|rfl|rfl;case inr.inr.inl=>
  simp only[show((rS 2)==2)=true from rfl,oCT];by_cases ZX:dat.length>0
  ·obtain⟨a,ha,Yg,YF,y,ey,hy⟩:=buf rfl ZX;simp only[oDT (show((dat.length:Nat):Int)>0 by omega),oCT,show fR args 1=some a from ha,oBS,mh Yg,oNT,oCF,bne_eq_false_iff_eq.2 YF,ey]
   rcases hy with⟨Z9,Z8,rfl⟩|⟨Z9,Z8,z,f,rfl,hm⟩
   ·exact Bj
   ·simp only[Int.reduceBEq,oCF];exact tJ (h.mk_mem hm) hi Zo
  ·simp only[oDF (show ¬((dat.length:Nat):Int)>0 by omega),oCF,Int.reduceBEq];exact ZT
 case inr.inr.inr.inr.inr.inr.inr.inr.inr.inr.inr.inr.inr.inr.inl=>
  simp only[show((rS 14)==2)=true from rfl,oCT];by_cases ZX:dat.length>0
  ·obtain⟨a,ha,Yg,YF,y,ey,hy⟩:=buf rfl ZX;simp only[oDT (show((dat.length:Nat):Int)>0 by omega),oCT,show fR args 1=some a from ha,oBS,mh Yg,oNT,oCF,bne_eq_false_iff_eq.2 YF,ey]
   rcases hy with⟨Z9,Z8,rfl⟩|⟨Z9,Z8,z,f,rfl,hm⟩
   ·exact Bj
   ·simp only[Int.reduceBEq,oCF];exact tJ (h.mk_mem hm) hi Zo
  ·simp only[oDF (show ¬((dat.length:Nat):Int)>0 by omega),oCF,Int.reduceBEq];exact ZT
 case inr.inr.inr.inr.inr.inr.inr.inr.inr.inr.inr.inr.inl=>
  obtain⟨a,ha⟩:=gr args 0 (by rw[Y7];decide);have hva:=(hargs.2 a (fW ha)).val;simp only[show((rS 12)==2)=false from rfl,oCF,Int.reduceBEq,oCT,show fR args 0=some a from ha,oBS];rw[gc (x:=a.2.1) (by have:=hva.1;omega) (by have:=hva.2;omega)];by_cases h1:a.2.1>255
  ·simp only[oDT h1,oCT];exact Bj
  by_cases h2:a.1=0
  ·simp only[oDF h1,oCF,bne_eq_false_iff_eq.2 h2,show fR ts i=some th from Zp,oBS,gl Zp];exact tJ (h.set h.mem ⟨hok.state,hok.len,hok.regs,hok.pc,hok.count,⟨by dsimp only;have:=hva.1;omega,by dsimp only;omega⟩,hok.saved,hok.trap,hok.code⟩) hi Zo
  ·simp only[oDF h1,oCF,bne_iff_ne.2 h2,oCT];exact Bj
 case inr.inr.inr.inr.inr.inr.inr.inr.inr.inr.inl=>
  obtain⟨a,ha⟩:=gr args 0 (by rw[Y7];decide);obtain⟨c,hc⟩:=gr args 1 (by rw[Y7];decide);have hva:=(hargs.2 a (fW ha)).val;obtain⟨Z6,Yi⟩:=qP (key:=key) hL (hargs.2 c (fW hc));simp only[show((rS 10)==2)=false from rfl,oCF,Int.reduceBEq,oCT];by_cases hsp0:sp>=0
  ·obtain⟨j,rfl⟩:∃j:Nat,sp=j:=⟨sp.toNat,by omega⟩;obtain⟨tj,Q'⟩:=gr ts j (by omega);simp only[oDT hsp0,oCT,show fR args 0=some a from ha,show fR args 1=some c from hc,oBS,Z6,oBN,oCF,fV,show fR ts j=some tj from Q'];rw[gc (x:=a.2.1) (by have:=hva.1;omega) (by have:=hva.2;omega)];by_cases h0:tj.1=0
   ·by_cases h1:a.2.1>255
    ·simp only[bne_eq_false_iff_eq.2 h0,oCF,oDT h1,oCT,oBS];exact Bj
    by_cases h2:a.1=0
    ·simp only[bne_eq_false_iff_eq.2 h0,oDF h1,oCF,bne_eq_false_iff_eq.2 h2,oBS,show fR args 0=some a from ha,gc (x:=a.2.1) (by have:=hva.1;omega) (by have:=hva.2;omega),KS,fV,show fR ts j=some tj from Q',gl Q'];refine tJ (h.set h.mem (DJ rfl (all_cons Yi ?_) ⟨hva.1,by omega⟩ (by omega))) hi Zo;exact all_cons (j7 (by decide)) (all_cons (j7 (by decide)) (all_cons (j7 (by decide)) (all_cons (j7 (by decide)) (all_cons (j7 (by decide)) (all_cons (j7 (by decide)) (all_cons (j7 (by decide)) gu))))))
    ·simp only[bne_eq_false_iff_eq.2 h0,oDF h1,oCF,bne_iff_ne.2 h2,oCT,oBS];exact Bj
   ·simp only[bne_iff_ne.2 h0,oCT,oBS];exact Bj
  ·simp only[oDF hsp0,oCF];exact ZT
 all_goals exact ZT
def VO(n key:Int)(ss bs X:M_)(i:Nat)(r:Bool×v_×Int×C_×G_×J_×Unit):Prop:=∃Z9 Z8 ZY,r=(true,bs,key,Z9,Z8,ZY,())/\MOk n ss bs Z9 Z8 ZY/\ZY.map (·.1)=X.set i 1
def En(st:M_)(sp:Int):M_:=if sp=-1 then st else st.set sp.toNat 1
theorem Hj{ts:J_}{i:Nat}{t t':DTh}(h:ts[i]?=some t)(e:t'.1=t.1):(ts.set i t').map (·.1)=ts.map (·.1):=by rw[List.map_set,e];apply oEG;intro j;rw[List.getElem?_set];split;rename_i hij;subst hij;rw[oGP,h,oLP,oIP (oGS h).1];rfl;rfl
theorem u3{n key ct cv:Int}{ss bs:M_}{cs:C_}{ls:G_}{ts:J_}{i:Nat}{X:M_}(h:MOk n ss bs cs ls ts)(hX:ts.map (·.1)=X)(hi:i<4)(hc:nP (RK bs ss) (ct,cv)):Ok ((fR ts i).bind λ_=>(fR ts i).bind λx75=>(fR x75.2.1 0).bind λ_=>(fR ts i).bind λx77=>(fR x77.2.1 0).bind λ_=>(fR (List.modify ts i λe=>(e.1,((List.modify e.2.1 0 λ_=>(ct,cv)),e.2.2))) i).bind λ_=> some (true,bs,key,cs,ls,List.modify (List.modify ts i λe=>(e.1,((List.modify e.2.1 0 λ_=>(ct,cv)),e.2.2))) i λe=>((1:Int),e.2),())) (VO n key ss bs X i):=by have Yp:=h.tlen;have ⟨t,ht⟩:=gr ts i (by omega);have hg:fR ts i=some t:=ht;have hil:=(oGS ht).1;have hok:=h.thr t (fW ht);have ⟨c,hc0⟩:=gr t.2.1 0 (by have:=hok.len;omega);simp[hg,show fR t.2.1 0=some c from hc0,gl ht,gl hc0,gX hil,pM hil];refine fO ⟨_,_,_,rfl,h.set h.mem ⟨⟨show(0:Int)<=1 by decide,show(1:Int)<=4 by decide⟩,by dsimp only;rw[oLS];exact hok.len,jQ hok.regs hc,hok.pc,hok.count,hok.handler,hok.saved,hok.trap,hok.code⟩,by simp_all⟩
set_option maxHeartbeats 4000000 in
theorem S1{n m key:Int}{code:F_}{ss bs:M_}{dd:j_}{cs:C_}{ls:G_}{ts:J_}{i:Nat}{trap count pc call:Int}{args data:D_}{t v rg o sp:Int}{dat:D_}{w:Bool}(h:MOk n ss bs cs ls ts)(hi:i<4) (hR:AD m ss (i:Int) 1 trap count pc call args data)(hv:Pr ss (t,v,rg,o))(hd:dat.length<=16/\∀c∈dat,Pr ss c)(hF:Px ss call args)(hD:T0 call args dat)(hS:sp=-1\/(call=10/\∃j:Nat,sp=j/\j<4/\∃tj,ts[j]?=some tj/\tj.1=0)):Ok (nF code ss dd (i:Int) 1 trap count pc call args data t v rg o dat sp w bs key cs ls ts) (VO n key ss bs (En (ts.map (·.1)) sp) i):=by
 have hL:=h.lay;have Yp:=h.tlen;obtain⟨Y7,X'⟩:=hR.hkind rfl;have hargs:=hR.hargs;obtain⟨XU,Zo⟩:=qP (key:=key) hL hv;obtain⟨th,Zp⟩:=gr ts i (by omega);have hok:=h.thr th (fW Zp);have hc0:=hok.count;have hil:=(oGS Zp).1;dsimp only at XU;unfold nF;delta fY;rw[fV,XU,rP hR.hcall];simp only[oBS,oBN,oCF];refine gP hil λ_ _=>?_;have hX:call≠10->ts.map (·.1)=En (ts.map (·.1)) sp:=λhc=>by rcases hS with rfl|⟨h10,_⟩;rfl;exact absurd h10 hc
 have ZT:=λhc:call≠10=>u3 (key:=key) (ct:=(oa bs key (t,v,rg,o)).1) (cv:=(oa bs key (t,v,rg,o)).2) h (hX hc) hi Zo;have buf:rS call=2->dat.length>0->∃a:DCn,args[1]?=some a/\Pr ss a/\a.1=1/\∃y,f9 jj NN (i,dat,(dat.length:Int),0,bs,key,cs,ls,ts,code,ss,dd,(i:Int),1,trap,count,pc,call,args,data,t,v,rg,o,dat,sp,w,(oa bs key (t,v,rg,o)).1,(oa bs key (t,v,rg,o)).2,a.2.2.1,a.2.2.2,())=some y /\(∃Z9 Z8 z f,y=.inr (i,dat,(dat.length:Int),z,false,bs,key,Z9,Z8,ts,code,ss,dd,(i:Int),1,trap,count,pc,call,args,data,t,v,rg,o,dat,sp,w,(oa bs key (t,v,rg,o)).1,(oa bs key (t,v,rg,o)).2,a.2.2.1,f,())/\i4 (RK bs ss) Z9 Z8):=by
  intro hb ZX;have hkk:(kB call)[1]?=some 80:=by
   have:call=2\/call=14:=by unfold rS at hb;split at hb<;>first|omega|(split at hb<;>omega)
   rcases this with rfl|rfl<;>rfl
  have Xu:=(oGS hkk).1;obtain⟨a,ha⟩:=gr args 1 (by omega);have Yg:=hargs.2 a (fW ha);have Z2:=X' 1 80 a hkk ha;have YF:a.1=1:=by unfold Mz at Z2;simpa using Z2
  have ha32:0<=a.2.2.2/\a.2.2.2<=32:=by rcases Yg with⟨g,_⟩|⟨_,_,_,z,g1,g2,g3⟩;omega;have:=hL.1.2.2 z (fW g1);omega
  obtain⟨a',q',z',YE,hq',WY,Yh⟩:=hF.1 hb;rw[ha]at YE;injection YE with YE
  subst YE;obtain⟨_,q2,Y3,hdl⟩:=hD (λe=>by rw[e]at ZX;exact absurd ZX (by decide));rw[hq']at Y3;injection Y3 with Y3
  subst Y3;have Xi:0<=a.2.2.1:=by rcases Yg with⟨g,_⟩|⟨_,_,g,_⟩;omega;exact g
  refine⟨a,ha,Yg,YF,?_⟩;refine gW (f:=jj) (n:=NN) (P:=λs'=>∃k:Nat,∃Z9 Z8,s'=(i,dat,(dat.length:Int),(k:Int),bs,key,Z9,Z8,ts,code,ss,dd,(i:Int),1,trap,count,pc,call,args,data,t,v,rg,o,dat,sp,w,(oa bs key (t,v,rg,o)).1,(oa bs key (t,v,rg,o)).2,a.2.2.1,a.2.2.2+k,())/\k<=dat.length/\i4 (RK bs ss) Z9 Z8)
   (R:=λy=>(∃Z9 Z8 z f,y=.inr (i,dat,(dat.length:Int),z,false,bs,key,Z9,Z8,ts,code,ss,dd,(i:Int),1,trap,count,pc,call,args,data,t,v,rg,o,dat,sp,w,(oa bs key (t,v,rg,o)).1,(oa bs key (t,v,rg,o)).2,a.2.2.1,f,())/\i4 (RK bs ss) Z9 Z8))
   (m:=λs'=>(s'.2.2.1-s'.2.2.2.1).toNat) ⟨0,cs,ls,by simp,by omega,h.mem⟩ (by unfold NN;dsimp only;omega) ?_
  rintro _ ⟨k,Z9,Z8,rfl,hk,hm⟩;unfold jj;dsimp only;refine fQ (λZ'=>?_) λZ'=>?_;rw[fV];simp only[oBS];refine fX λc hc=>?_;obtain⟨Z6,Yi⟩:=qP (key:=key) hL (hd.2 c (fW hc));rw[Z6];simp only[oBS,oBN,oCF];rw[xz Xi WY (show 0<=a.2.2.2+k by omega) (show a.2.2.2+k<z' by omega)];simp only[oBS,oNT,oCF];obtain⟨ad,ea,a0,a1,_⟩:=Ee (key:=key) hL Xi WY (show 0<=a.2.2.2+k by omega) (show a.2.2.2+k<z' by omega);rw[ea];simp only[oBS];refine(yA hm ⟨a0,a1⟩ Yi).bind ?_;rintro _ ⟨W1,Xe,rfl,hm2⟩;dsimp only;rw[iA (x:=a.2.2.2+k+1),iA (x:=(k:Int)+1)];exact fO ⟨⟨k+1,_,_,by rw[show a.2.2.2+((k+1:Nat):Int)=a.2.2.2+k+1 by omega];rfl,by omega,hm2⟩,by dsimp only;omega⟩;exact fO ⟨_,_,_,_,rfl,hm⟩
 rcases qg hR.hcall with rfl|rfl|rfl|rfl|rfl|rfl|rfl|rfl|rfl|rfl|rfl|rfl|rfl|rfl|rfl|rfl;case inr.inr.inl=>
  simp only[show((rS 2)==2)=true from rfl,oCT];by_cases ZX:dat.length>0
  ·obtain⟨a,ha,Yg,YF,y,ey,hy⟩:=buf rfl ZX;simp only[oDT (show((dat.length:Nat):Int)>0 by omega),oCT,show fR args 1=some a from ha,oBS,mh Yg,oNT,oCF,bne_eq_false_iff_eq.2 YF,ey];obtain⟨Z9,Z8,z,f,rfl,hm⟩:=hy;simp only[Int.reduceBEq,oCF];exact u3 (h.mk_mem hm) (hX (by decide)) hi Zo
  ·simp only[oDF (show ¬((dat.length:Nat):Int)>0 by omega),oCF,Int.reduceBEq];exact ZT (by decide)
 case inr.inr.inr.inr.inr.inr.inr.inr.inr.inr.inr.inr.inr.inr.inl=>
  simp only[show((rS 14)==2)=true from rfl,oCT];by_cases ZX:dat.length>0
  ·obtain⟨a,ha,Yg,YF,y,ey,hy⟩:=buf rfl ZX;simp only[oDT (show((dat.length:Nat):Int)>0 by omega),oCT,show fR args 1=some a from ha,oBS,mh Yg,oNT,oCF,bne_eq_false_iff_eq.2 YF,ey];obtain⟨Z9,Z8,z,f,rfl,hm⟩:=hy;simp only[Int.reduceBEq,oCF];exact u3 (h.mk_mem hm) (hX (by decide)) hi Zo
  ·simp only[oDF (show ¬((dat.length:Nat):Int)>0 by omega),oCF,Int.reduceBEq];exact ZT (by decide)
 case inr.inr.inr.inr.inr.inr.inr.inr.inr.inr.inr.inr.inl=>
  obtain⟨a,ha⟩:=gr args 0 (by rw[Y7];decide);have hva:=(hargs.2 a (fW ha)).val;simp only[show((rS 12)==2)=false from rfl,oCF,Int.reduceBEq,oCT,show fR args 0=some a from ha,oBS];rw[gc (x:=a.2.1) (by have:=hva.1;omega) (by have:=hva.2;omega)];obtain⟨a',YE,h2,h1⟩:=hF.2 (.inr rfl);rw[ha]at YE
  injection YE with YE
  subst YE
  have h1:¬a.2.1>255:=by omega
  ·simp only[oDF h1,oCF,bne_eq_false_iff_eq.2 h2,show fR ts i=some th from Zp,oBS,gl Zp];exact u3 (h.set h.mem ⟨hok.state,hok.len,hok.regs,hok.pc,hok.count,⟨by dsimp only;have:=hva.1;omega,by dsimp only;omega⟩,hok.saved,hok.trap,hok.code⟩) ((Hj (t':=(th.1,th.2.1,th.2.2.1,th.2.2.2.1,a.2.1,th.2.2.2.2.2)) Zp rfl).trans (hX (by decide))) hi Zo
 case inr.inr.inr.inr.inr.inr.inr.inr.inr.inr.inl=>
  obtain⟨a,ha⟩:=gr args 0 (by rw[Y7];decide);obtain⟨c,hc⟩:=gr args 1 (by rw[Y7];decide);have hva:=(hargs.2 a (fW ha)).val;obtain⟨Z6,Yi⟩:=qP (key:=key) hL (hargs.2 c (fW hc));simp only[show((rS 10)==2)=false from rfl,oCF,Int.reduceBEq,oCT];rcases hS with rfl|⟨_,j,rfl,hj4,tj,Q',h0⟩
  ·simp only[oDF (show ¬(-1:Int)>=0 by decide),oCF];exact u3 h rfl hi Zo
  ·obtain⟨a',YE,h2,h1⟩:=hF.2 (.inl rfl);rw[ha]at YE
   injection YE with YE
   subst YE
   have h1:¬a.2.1>255:=by omega
   simp only[oDT (show(j:Int)>=0 by omega),oCT,show fR args 0=some a from ha,show fR args 1=some c from hc,oBS,Z6,oBN,oCF,fV,show fR ts j=some tj from Q'];rw[gc (x:=a.2.1) (by have:=hva.1;omega) (by have:=hva.2;omega)];simp only[bne_eq_false_iff_eq.2 h0,oDF h1,oCF,bne_eq_false_iff_eq.2 h2,oBS,show fR args 0=some a from ha,gc (x:=a.2.1) (by have:=hva.1;omega) (by have:=hva.2;omega),KS,fV,show fR ts j=some tj from Q',gl Q'];refine u3 (h.set h.mem (DJ rfl (all_cons Yi ?_) ⟨hva.1,by omega⟩ (by omega))) ?_ hi Zo
   ·exact all_cons (j7 (by decide)) (all_cons (j7 (by decide)) (all_cons (j7 (by decide)) (all_cons (j7 (by decide)) (all_cons (j7 (by decide)) (all_cons (j7 (by decide)) (all_cons (j7 (by decide)) gu))))))
   ·unfold En;rw[List.map_set,oIN (by omega),oTN]
 all_goals
  exact ZT (by decide)
def InQ(qs:j_)(x:Int):Prop:=∃(j:Nat)(q:M_),qs[j]?=some q/\x∈q
def Cx(qs:j_):Prop:=∀(i j:Nat)(q r:M_)(x:Int),qs[i]?=some q->qs[j]?=some r->x∈q->x∈r->i=j
def RC(qs:j_)(n:Int)(qs':j_):Prop:=(n=-1/\qs'=qs)\/∃(j:Nat)(q:M_),qs[j]?=some (n::q)/\qs'=qs.set j q
def Pu(qs:j_)(t how:Int)(qs':j_):Prop:=(how≠1/\qs'=qs)\/(how=1/\(∀q∈qs,t ∉ q)/\∃(j:Nat)(q:M_),qs[j]?=some q/\qs'=qs.set j (q++[t]))
theorem rm{α:Type}{l:List α}{i j:Nat}{a b:α}(h:(l.set i a)[j]?=some b):(i=j/\b=a)\/(i≠j/\l[j]?=some b):=by rw[List.getElem?_set]at h;split at h;all_goals simp_all
theorem S3{ow:M_}{qs qs':j_}{n:Int}(hl:kt ow qs)(hX:Cx qs)(h:RC qs n qs')(hn:n≠-1):InQ qs n/\Cx qs'/\∀y,InQ qs' y->InQ qs y/\y≠n:=by rcases h with⟨h,_⟩|⟨j,q,hj,rfl⟩;omega;have Zn:=(hl.queue _ (fW hj)).1;rw[List.nodup_cons]at Zn;refine⟨⟨j,_,hj,List.mem_cons_self ..⟩,λa b u v x ha hb hu hv=>?_,λy hy=>?_⟩;rcases rm ha with⟨e1,e2⟩|⟨e1,e2⟩;rcases rm hb with⟨e3,e4⟩|⟨e3,e4⟩;omega;exact e1▸hX j b _ v x hj e4 (List.mem_cons_of_mem _ (e2▸hu)) hv;rcases rm hb with⟨e3,e4⟩|⟨e3,e4⟩;exact e3▸hX a j u _ x e2 hj hu (List.mem_cons_of_mem _ (e4▸hv));exact hX a b u v x e2 e4 hu hv;have ⟨a,u,ha,hu⟩:=hy;rcases rm ha with⟨e1,e2⟩|⟨e1,e2⟩;subst e2;exact⟨⟨j,_,hj,List.mem_cons_of_mem _ hu⟩,λe=>Zn.1 (e▸hu)⟩;refine⟨⟨a,u,e2,hu⟩,λe=>e1 ?_⟩;exact hX j a _ u n hj e2 (List.mem_cons_self ..) (e▸hu)
theorem Uj{qs qs':j_}{t how:Int}(hX:Cx qs)(h:Pu qs t how qs'):Cx qs'/\∀y,InQ qs' y->InQ qs y\/(y=t/\how=1):=by
 rcases h with⟨_,rfl⟩|⟨h1,W8,j,q,hj,rfl⟩;simp_all;refine⟨λa b u v x ha hb hu hv=>?_,λy hy=>?_⟩;have key:∀(b:Nat)(v:M_),j≠b->qs[b]?=some v->x∈q++[t]->x∈v->j=b:=λb v hne hb hu hv=>by rcases oMA.1 hu with hu|hu;exact hX j b q v x hj hb hu hv;exact absurd (List.mem_singleton.1 hu▸hv) (W8 v (fW hb))
 rcases rm ha with⟨e1,e2⟩|⟨e1,e2⟩;rcases rm hb with⟨e3,e4⟩|⟨e3,e4⟩;omega;exact e1▸key b v e3 e4 (e2▸hu) hv;rcases rm hb with⟨e3,e4⟩|⟨e3,e4⟩;exact e3▸(key a u e1 e2 (e4▸hv) hu).symm;exact hX a b u v x e2 e4 hu hv;have ⟨a,u,ha,hu⟩:=hy;rcases rm ha with⟨e1,e2⟩|⟨e1,e2⟩;subst e2;rcases oMA.1 hu with hu|hu;exact .inl ⟨j,q,hj,hu⟩;simp_all;exact .inl ⟨a,u,e2,hu⟩
structure RB (qs:j_)(nx:M_)(qs':j_):Prop where
 was:∀x∈nx,InQ qs x
 nd:nx.Nodup
 now:∀y,InQ qs' y->InQ qs y/\y ∉ nx
 cross:Cx qs'
theorem RB.nil{qs:j_}(h:Cx qs):RB qs [] qs:=⟨gu,List.nodup_nil,λy hy=>⟨hy,by simp⟩,h⟩
theorem RB.snoc{ow:M_}{qs qs1 qs2:j_}{nx:M_}{n:Int}(h:RB qs nx qs1)(hl:kt ow qs1)(hn:n>=0)(hp:RC qs1 n qs2):RB qs (List.append nx [n]) qs2:=by have ⟨h1,h2,h3⟩:=S3 hl h.cross hp (by omega);have ⟨g1,g2⟩:=h.now n h1;refine⟨kT h.was (all_cons g1 gu),DV h.nd g2,λy hy=>?_,h2⟩;have ⟨k1,k2⟩:=h3 y hy;have ⟨k3,k4⟩:=h.now y k1;simp_all
theorem Er{α:Type}{l:List α}{i:Nat}{a:α}(h:l[i]?=some a):l.set i a=l:=by apply oEG;grind
theorem K3{ow:M_}{qs:j_}{lock t:Int}(h:kt ow qs):Ok (jF ow qs lock t) λr=>∃Zq qs' n b,r=(Zq,qs',n,b,())/\kt Zq qs'/\(-1<=n/\n<=3)/\RC qs n qs'/\(n>=0->b=true):=by
 unfold jF;rw[Cd h];obtain⟨h1,h2,h3,h4⟩:=id h;refine Ok.bind (P:=λr=>∃b,r=(lock,b,(),(),ow,qs,())/\(b=false->0<=lock/\lock<4)) ?_ ?_;refine fQ (λZ'=>?_) λZ'=>?_;exact fO ⟨true,rfl,λh=>by cases h⟩;refine fQ (λZ1=>?_) λZ1=>?_;exact fO ⟨true,rfl,λh=>by cases h⟩;refine gR λj hj=>?_;refine fX λx hx=>?_;exact fO ⟨_,rfl,λ_=>⟨by omega,by omega⟩⟩;rintro _ ⟨b,rfl,hb⟩;dsimp only;refine f8 (λ_=>fO ⟨_,_,_,_,rfl,h,by omega,.inl ⟨rfl,rfl⟩,λhn=>absurd hn (by decide)⟩) λhbf=>?_;obtain⟨l0,l1⟩:=hb hbf;obtain⟨j,rfl⟩:∃j:Nat,lock=j:=⟨lock.toNat,by omega⟩;obtain⟨o,ho⟩:=gr ow j (by omega);obtain⟨q,hq⟩:=gr qs j (by omega);have go:fR ow j=some o:=ho;have gq:fR qs j=some q:=hq;have gm:∀f:Int->Int,fR (List.modify ow j f) j=some (f o):=λf=>vj ho;have gm2:∀f g:Int->Int,fR (List.modify (List.modify ow j f) j g) j=some (g (f o)):=λf g=>vj (vj ho);delta fY;simp only[fV,oBS,go,gq,gm,gm2];have Xu:kt (List.modify ow j λ_=>-1) qs:=⟨by rw[oLM];exact h1,h2,gY h3 λ_ _=>⟨by omega,by omega⟩,h4⟩;refine fQ (λhcc=>?_) λhcc=>?_;obtain⟨x,hx⟩:=gr q 0 (by omega);have gx:fR q 0=some x:=hx;have Y4:=(h4 q (fW hq)).2 x (fW hx);simp only[gx,oBS];refine fP (by unfold iK;simp;omega) ?_;obtain⟨y,q',rfl⟩:∃y q',q=y::q':=by cases q with|nil=>cases hx|cons y q'=>exact⟨y,q',rfl⟩
 obtain rfl:y=x:=by injection hx
 have hw:nv (y::q') 1 (Nat.sub (y::q').length 1)=q':=by show((y::q').drop 1).take ((y::q').length-1)=q';simp_all
 refine fO ⟨_,_,_,_,rfl,⟨by simp_all,by rw[oLM];exact h2,gY (gY h3 λ_ _=>⟨by omega,by omega⟩) λ_ _=>⟨by omega,by omega⟩,gY h4 λ_ _=>?_⟩,by omega,.inr ⟨j,q',hq,by rw[hw,gl hq]⟩,λ_=>rfl⟩;obtain⟨q1,q2⟩:=h4 _ (fW hq);simp_all;exact fO ⟨_,_,_,_,rfl,Xu,by omega,.inl ⟨rfl,rfl⟩,λ_=>rfl⟩
theorem T7{ow:M_}{qs:j_}{lock t:Int}(h:kt ow qs)(ht:0<=t/\t<=3):Ok (qD ow qs lock t) λr=>∃Zq qs' n,r=(Zq,qs',n,())/\kt Zq qs'/\Pu qs t n qs':=by
 unfold qD;rw[Cd h];simp only[oBS];obtain⟨h1,h2,h3,h4⟩:=id h;refine Ok.bind (P:=λr=>∃b,r=(lock,t,b,ow,qs,(),(),ow,qs,())/\(b=false->0<=lock/\lock<4)) ?_ ?_;refine fQ (λZ'=>?_) λZ'=>?_;exact fO ⟨true,rfl,λh=>by cases h⟩;refine fQ (λZ1=>?_) λZ1=>?_;exact fO ⟨true,rfl,λh=>by cases h⟩;refine gR λj hj=>?_;refine fX λx hx=>?_;exact fO ⟨_,rfl,λ_=>⟨by omega,by omega⟩⟩;rintro _ ⟨b,rfl,hb⟩;dsimp only;refine f8 (λ_=>fO ⟨_,_,_,rfl,h,.inl ⟨by decide,rfl⟩⟩) λhbf=>?_;obtain⟨l0,l1⟩:=hb hbf;delta fY;try dsimp only
 obtain⟨r,e,hr⟩:=gW (f:=pU) (n:=NN) (s:=(lock,t,qs,(qs.length:Int),0,ow,qs,(),(),ow,qs,())) (P:=λs'=>∃k:Nat,s'=(lock,t,qs,(qs.length:Int),(k:Int),ow,qs,(),(),ow,qs,())/\k<=qs.length/\∀(i:Nat) q,i<k->qs[i]?=some q->t ∉ q) (R:=λr=>r=.inl (2,ow,qs,())\/((∃a b c,r=.inr (lock,t,a,b,c,false,ow,qs,(),(),ow,qs,()))/\∀q∈qs,t ∉ q)) (m:=λs'=>(s'.2.2.2.1-s'.2.2.2.2.1).toNat) ⟨0,rfl,by omega,λi q hi=>by omega⟩ (by unfold NN;dsimp only;omega) (by
  rintro _ ⟨k,rfl,hk,ZK⟩;unfold pU;dsimp only;refine fQ (λZ'=>?_) λZ'=>?_;obtain⟨q,hq⟩:=gr qs k (by omega);have gq:fR qs k=some q:=hq;have q3:=h.qlen4 (fW hq);delta fY;simp only[fV,oBS,gq];obtain⟨r,e,hr⟩:=gW (f:=pV) (n:=NN) (s:=(lock,t,qs,(qs.length:Int),(k:Int),q,(q.length:Int),0,ow,qs,(),(),ow,qs,())) (P:=λs'=>∃j:Nat,s'=(lock,t,qs,(qs.length:Int),(k:Int),q,(q.length:Int),(j:Int),ow,qs,(),(),ow,qs,())/\j<=q.length/\∀(i:Nat) x,i<j->q[i]?=some x->x≠t) (R:=λr=>r=.inl (2,ow,qs,())\/((∃a b c,r=.inr (lock,t,qs,(qs.length:Int),(k:Int),a,b,c,false,ow,qs,(),(),ow,qs,()))/\t ∉ q)) (m:=λs'=>(s'.2.2.2.2.2.2.1-s'.2.2.2.2.2.2.2.1).toNat) ⟨0,rfl,by omega,λi x hi=>by omega⟩ (by unfold NN;dsimp only;omega) (by
   rintro _ ⟨j,rfl,hj,hne⟩;unfold pV;dsimp only;refine fQ (λZ1=>?_) λZ1=>?_;obtain⟨x,hx⟩:=gr q j (by omega);have gx:fR q j=some x:=hx;simp only[fV,oBS,gx];refine fQ (λhcc=>?_) λhcc=>?_;exact fO (.inl rfl)
   ·(simp (disch:=omega) only [gw,gi,gc,ge])
    exact fO ⟨⟨j+1,rfl,by omega,Lm hne hx hcc⟩,by dsimp only;omega⟩
   refine fO (.inr ⟨⟨_,_,_,rfl⟩,λhm=>?_⟩);obtain⟨i,hi⟩:=List.getElem?_of_mem hm;exact hne i t (by have:=(oGS hi).1;omega) hi rfl)
  rw[e];rcases hr with rfl|⟨⟨a,b,c,rfl⟩,W8⟩;exact fO (.inl rfl);dsimp only
  (simp (disch:=omega) only [gw,gi,gc,ge])
  refine fO ⟨⟨k+1,rfl,by omega,λi q' hi hq'=>?_⟩,by dsimp only;omega⟩;by_cases hik:i=k;simp_all;exact ZK i q' (by omega) hq';refine fO (.inr ⟨⟨_,_,_,rfl⟩,λq hq=>?_⟩);obtain⟨i,hi⟩:=List.getElem?_of_mem hq;exact ZK i q (by have:=(oGS hi).1;omega) hi)
 rw[e];rcases hr with rfl|⟨⟨a,b,c,rfl⟩,W8⟩;exact fO ⟨_,_,_,rfl,h,.inl ⟨by decide,rfl⟩⟩;dsimp only;obtain⟨j,rfl⟩:∃j:Nat,lock=j:=⟨lock.toNat,by omega⟩;obtain⟨o,ho⟩:=gr ow j (by omega);obtain⟨q,hq⟩:=gr qs j (by omega);have go:fR ow j=some o:=ho;have gq:fR qs j=some q:=hq;simp only[fV,oBS,go,gq];refine fQ (λXE=>?_) λXE=>?_;exact fO ⟨_,_,_,rfl,⟨by rw[oLM];exact h1,h2,gY h3 λ_ _=>⟨by omega,ht.2⟩,h4⟩,.inl ⟨by decide,rfl⟩⟩;have q3:=h.qlen4 (fW hq);refine fP (f7 (by simp;omega)) (fP (by simp) (fO ⟨_,_,_,rfl,⟨h1,by rw[oLM];exact h2,h3,gY h4 λ_ _=>⟨?_,?_⟩⟩,.inr ⟨rfl,W8,j,q,hq,by rw[gl hq];rfl⟩⟩));exact DV (h4 q (fW hq)).1 (W8 q (fW hq));exact kT (h4 q (fW hq)).2 (all_cons ht gu)
theorem UM{ow:M_}{qs:j_}{t:Int}(h:kt ow qs)(ht:¬InQ qs t)(hX:Cx qs):Ok (qF ow qs t) λr=>∃Zq qs' nx,r=(Zq,qs',nx,())/\kt Zq qs'/\nx.length<=4/\(∀x∈nx,0<=x/\x<=3)/\RB qs nx qs':=by
 unfold qF;rw[Cd h];delta fY;simp only[oBS];have h2:=h.qlen;have W8:∀(k:Nat) q,qs[k]?=some q->t ∉ q:=λk q hq hm=>ht ⟨k,q,hq,hm⟩;refine gL (P:=λs'=>∃k:Nat,s'=(t,(qs.length:Int),(k:Int),(),(),ow,qs,())/\k<=qs.length) (R:=λr=>∃a b c,r=(t,a,b,c,(),(),ow,qs,())) (m:=λs'=>(s'.2.1-s'.2.2.1).toNat) ⟨0,rfl,by omega⟩ (by unfold NN;dsimp only;omega) ?_ ?_;rintro _ ⟨k,rfl,hk⟩;unfold tQ;dsimp only;refine fQ (λZ'=>?_) λZ'=>?_;obtain⟨q,hq⟩:=gr qs k (by omega);have gq:fR qs k=some q:=hq;have q3:=h.qlen4 (fW hq);delta fY;simp only[fV,oBS,gq];refine gL (P:=λs'=>∃j:Nat,s'=(t,(k:Int),(qs.length:Int),(k:Int),k,(q.length:Int),(j:Int),(),(),ow,qs,q.take j,())/\j<=q.length)
  (R:=λr=>∃a b c d,r=(t,(k:Int),(qs.length:Int),(k:Int),a,b,c,d,(),(),ow,qs,q,())) (m:=λs'=>(s'.2.2.2.2.2.1-s'.2.2.2.2.2.2.1).toNat) ⟨0,rfl,by omega⟩ (by unfold NN;dsimp only;omega) ?_ ?_
 rintro _ ⟨j,rfl,hj⟩;unfold tR;dsimp only;refine fQ (λZ1=>?_) λZ1=>?_;obtain⟨x,hx⟩:=gr q j (by omega);have gx:fR q j=some x:=hx;have hxt:x≠t:=λe=>W8 k q hq (e▸fW hx);simp only[fV,oBS,gq,gx,bne_iff_ne.2 hxt,oCT];rw[f7 (by simp;omega)];simp only[oCT,oBS]
 (simp (disch:=omega) only [gw,gi,gc,ge])
 exact fO ⟨⟨j+1,by rw[List.take_add_one,hx];rfl,by omega⟩,by dsimp only;omega⟩;have:j=q.length:=by omega
 subst this;exact fO ⟨_,_,_,_,by rw[List.take_length]⟩;rintro _ ⟨a,b,c,d,rfl⟩;dsimp only;simp only[fV,oBS,gq];rw[gl hq,Er hq]
 (simp (disch:=omega) only [gw,gi,gc,ge])
 exact fO ⟨⟨k+1,rfl,by omega⟩,by dsimp only;omega⟩;exact fO ⟨_,_,_,rfl⟩;rintro _ ⟨a,b,c,rfl⟩;dsimp only;refine gL (P:=λs'=>∃k:Nat,∃Zq qs' nx,s'=(t,4,(k:Int),(),(),Zq,qs',nx,())/\k<=4/\nx.length<=k/\kt Zq qs'/\(∀x∈nx,0<=x/\x<=3)/\RB qs nx qs') (R:=λr=>∃a b c Zq qs' nx,r=(t,a,b,c,(),(),Zq,qs',nx,())/\kt Zq qs'/\nx.length<=4/\(∀x∈nx,0<=x/\x<=3)/\RB qs nx qs') (m:=λs'=>(4-s'.2.2.1).toNat)
  ⟨0,ow,qs,[],by rw[h.olen];rfl,by omega,by simp,h,gu,.nil hX⟩ (by unfold NN;dsimp only;omega) ?_ ?_
 rintro _ ⟨k,Zq,qs',nx,rfl,hk,XG,YG,XH,hp⟩;unfold tP;dsimp only;refine fQ (λZ'=>?_) λZ'=>?_;refine(K3 YG).bind ?_;rintro _ ⟨ow2,qs2,n,bb,rfl,Ya,⟨n0,n1⟩,XR,hbt⟩;dsimp only;refine Ok.bind (P:=λr=>∃nx',r=(t,4,(k:Int),(),(),Zq,qs',nx',ow2,qs2,())/\nx'.length<=k+1/\(∀x∈nx',0<=x/\x<=3)/\RB qs nx' qs2) ?_ ?_;by_cases hn:n>=0;have hb:bb=true:=hbt hn;subst hb;simp only[oCT,oDT hn];refine fP (f7 (by simp;omega)) (fO ⟨_,rfl,by rw[ig];simp;omega,kT XH (all_cons ⟨by omega,n1⟩ gu),hp.snoc YG hn XR⟩);have hq:qs2=qs':=by rcases XR with⟨_,e⟩|⟨j,q,hj,_⟩;exact e;have:=((YG.queue _ (fW hj)).2 n (List.mem_cons_self ..)).1;omega
 subst hq;cases bb with|true=>simp only[oCT,oDF hn,oCF];exact fO ⟨nx,rfl,by omega,XH,hp⟩|false=>exact fO ⟨nx,rfl,by omega,XH,hp⟩
 rintro _ ⟨nx',rfl,Wz,hn2,hp2⟩;dsimp only
 (simp (disch:=omega) only [gw,gi,gc,ge])
 exact fO ⟨⟨k+1,_,_,_,rfl,by omega,Wz,Ya,hn2,hp2⟩,by dsimp only;omega⟩;exact fO ⟨_,_,_,_,_,_,rfl,YG,by omega,XH,hp⟩;rintro _ ⟨a,b,c,Zq,qs',nx,rfl,YG,hn4,XH,hp⟩;exact fO ⟨_,_,_,rfl,YG,hn4,XH,hp⟩
theorem DI{ss:M_}{t v rg o sp:Int}{dat:D_}{w:Bool}(hs:AC ss)(hv:Pr ss (t,v,rg,o))(hd:dat.length<=16/\∀c∈dat,Pr ss c)(ZD:-1<=sp/\sp<=3):mH t v rg o dat sp w=some (true,()):=by refine gQ ?_;unfold mH;rw[show mn t v rg o=some (true,())from IS hs hv,mr hs hd.2 (by omega) (by omega)];refine fP (oDT ZD.1) ?_;exact fO (by rw[oDT (show sp<4 by omega)])
def TG(st:M_)(i:Nat)(call:Int)(w:Bool)(sp:Int):M_:=if sp=-1 then st.set i (if call=0 then 4 else if w=true then 3 else 1)else(st.set i (if call=0 then 4 else if w=true then 3 else 1)).set sp.toNat 1
theorem VF{n m key:Int}{code:F_}{ss bs:M_}{dd:j_}{cs:C_}{ls:G_}{ts:J_}{i:Nat}{trap count pc call:Int}{args data:D_}{t v rg o sp:Int}{dat:D_}{w:Bool}(hp:kE code ss dd)(h:MOk n ss bs cs ls ts)(hi:i<4) (hn:n<=1099511627776)(hm:m<=1099511627776)(hR:AD m ss (i:Int) 1 trap count pc call args data)(hv:Pr ss (t,v,rg,o))(hd:dat.length<=16/\∀c∈dat,Pr ss c)(ZD:-1<=sp/\sp<=3){th:DTh}(Zp:ts[i]?=some th)(h2:th.1=2)(hF:Px ss call args)(hD:T0 call args dat)(hS:sp=-1\/(call=10/\w=false/\∃j:Nat,sp=j/\j<4/\∃tj,ts[j]?=some tj/\tj.1=0)):Ok (sb code ss dd bs key cs ls ts (i:Int) 1 trap count pc call args data t v rg o dat sp w) λr=>∃Z9 Z8 ZY b,r=(bs,key,Z9,Z8,ZY,b,())/\MOk n ss bs Z9 Z8 ZY/\ZY.map (·.1)=TG (ts.map (·.1)) i call w sp:=by
 have Yp:=h.tlen;obtain⟨Y7,X'⟩:=hR.hkind rfl;have hok:=h.thr th (fW Zp);have hg:fR ts i=some th:=Zp;unfold sb;delta fY;rw[uV hp h hn,yw hp.sz hR hm,Ah hR.hcall,DI hp.sz hv hd ZD,Y7];simp only[oBS,oNT,oCF,oBN,fV,hg];simp only[bne_eq_false_iff_eq.2 h2,oCF,xI h,oBS,fV,hg];by_cases hc0:call=0;subst hc0;obtain⟨a,ha⟩:=gr args 0 (by rw[Y7];decide);have hva:=(hR.hargs.2 a (fW ha)).val;simp only[BEq.rfl,oCT,show fR args 0=some a from ha,oBS];unfold pW nT;rw[f7 (show 4<=1000/\0+th.2.1.length<=1000000 by have:=hok.len;omega)];simp only[oCT,oBS,gl Zp];refine gP (by rw[oLS];omega) λ_ _=>?_;exact fO ⟨_,_,_,_,rfl,h.set h.mem ⟨⟨show(0:Int)<=4 by decide,show(4:Int)<=4 by decide⟩,by dsimp only;rw[ig];simpa using hok.len,kT gu hok.regs,hok.pc,hok.count,hok.handler,hok.saved,⟨show(0:Int)<=0 by decide,show(0:Int)<=6 by decide⟩,hva⟩,by
  rcases hS with rfl|⟨h10,_⟩
  ·rw[List.map_set];rfl
  ·exact absurd h10 (by decide)⟩
 simp only[oBF hc0,oCF];cases w with
 |true=>
 simp only[oCT,gl Zp];refine gP (by rw[oLS];omega) λ_ _=>?_;refine gP (by rw[oLS];omega) λ_ _=>?_;exact fO ⟨_,_,_,_,rfl,h.set h.mem ⟨⟨show(0:Int)<=3 by decide,show(3:Int)<=4 by decide⟩,hok.len,hok.regs,hok.pc,hok.count,hok.handler,hok.saved,hok.trap,hok.code⟩,by
  rcases hS with rfl|⟨_,hw,_⟩
  ·rw[List.map_set];unfold TG;rw[oIP rfl,oIN hc0,oIP rfl]
  ·cases hw⟩
 |false=>simp only[oCF];refine(S1 h hi hR hv hd hF hD (hS.imp id λ⟨a,_,b⟩=>⟨a,b⟩)).bind ?_;rintro _ ⟨Z9,Z8,ZY,rfl,hb,hst⟩;simp only[oNT,oCF];have htl':=hb.tlen;refine fX λ_ _=>?_;refine fX λ_ _=>?_;refine fO ⟨_,_,_,_,rfl,hb,?_⟩;rw[hst];unfold En TG;rw[oIN hc0,oIN (show ¬false=true by decide)];by_cases hm:sp=-1;rw[oIP hm,oIP hm];rw[oIN hm,oIN hm];rcases hS with hS|⟨_,_,j,rfl,_,tj,Q',h0⟩;exact absurd hS hm;rw[oTN];refine List.set_comm _ _ (λe=>?_);simp_all
theorem R8{n key:Int}{code:F_}{ss bs:M_}{dd:j_}{cs:C_}{ls:G_}{ts:J_}{i:Nat}{t v rg o sp:Int}{dat:D_}{w:Bool}(hp:kE code ss dd)(h:MOk n ss bs cs ls ts) (hn:n<=1099511627776)(hv:Pr ss (t,v,rg,o))(hd:dat.length<=16/\∀c∈dat,Pr ss c)(ZD:-1<=sp/\sp<=3){th:DTh}(Zp:ts[i]?=some th)(h3:th.1=3):Ok (om code ss dd bs key cs ls ts (i:Int) t v rg o dat sp w) λr=>∃Z9 Z8 ZY b,r=(bs,key,Z9,Z8,ZY,b,())/\MOk n ss bs Z9 Z8 ZY/\ZY.map (·.1)=(ts.map (·.1)).set i 1:=by
 have Yp:=h.tlen;obtain⟨XU,Zo⟩:=qP (key:=key) h.lay hv;unfold om;rw[uV hp h hn,DI hp.sz hv hd ZD];simp only[oBS,oNT,oCF];have hil0:=(oGS Zp).1;have h1:¬(i:Int)<0:=by omega
 have h2:¬(i:Int)>=4:=by omega
 have hok:=h.thr th (fW Zp);have hil:=(oGS Zp).1;have hg:fR ts i=some th:=Zp;obtain⟨c,hc0⟩:=gr th.2.1 0 (by have:=hok.len;omega);simp only[oDF h1,oDF h2,oCF,fV,hg];simp only[bne_eq_false_iff_eq.2 h3,oCF,XU,oBS,oBN,xI h,fV,hg,show fR th.2.1 0=some c from hc0,gl Zp,gl hc0,gX hil,pM hil];refine gP (by simp_all) λ_ _=>?_;refine gP (by simp_all) λ_ _=>?_;exact fO ⟨_,_,_,_,rfl,h.set h.mem ⟨⟨show(0:Int)<=1 by decide,show(1:Int)<=4 by decide⟩,by dsimp only;rw[oLS];exact hok.len,jQ hok.regs Zo,hok.pc,hok.count,hok.handler,hok.saved,hok.trap,hok.code⟩,by simp_all⟩
theorem MB{n key:Int}{ss bs:M_}{cs:C_}{ls:G_}{ts:J_}(h:MOk n ss bs cs ls ts)(i:Int):Ok (mG bs key cs ls ts i) λr=>∃ZY b,r=(bs,key,cs,ls,ZY,b,())/\MOk n ss bs cs ls ZY/\∀(j:Nat) t',ZY[j]?=some t'->∃t,ts[j]?=some t/\t'.1=t.1:=by
 unfold mG;rw[xI h];refine(R1 h i).bind ?_;rintro⟨b,_⟩ hb;refine fQ (λZ'=>?_) λZ'=>?_;exact fO ⟨ts,false,rfl,h,λj t' e=>⟨t',e,rfl⟩⟩;have hb:=hb Z';have Yp:=h.tlen;have ⟨ZI,ZS,WM⟩:=hb;refine jm ZI λj hj=>?_;subst hj;refine fX λt ht=>?_;refine fX λt1 Yj=>?_;refine fX λt2 YP=>?_;refine fX λt3 ht3=>?_;rw[ht]at Yj YP ht3;injection Yj with Yj
 injection YP with YP
 subst Yj YP;refine gP (by rw[oLM];omega) λt4 ht4=>?_;have hne:=WM t (by rw[oTN];exact ht);have hok:=h.thr t (fW ht);rw[jP];refine fO ⟨_,_,rfl,h.thread ht ⟨hok.state,hok.len,hok.regs,⟨by have:=hok.handler;dsimp only;omega,hok.handler.2⟩,hok.count,hok.handler,⟨by have:=hok.pc;dsimp only;omega,hok.pc.2⟩,hok.trap,hok.code⟩,λu t' e=>?_⟩;rw[oGM]at e;cases hu:ts[u]? with|none=>rw[hu]at e;split at e<;>cases e|some t0=>rw[hu]at e;refine⟨t0,rfl,?_⟩;split at e<;>(injection e with e;rw[<- e])
def TY(js:M_):Prop:=∀(u:Nat)(j:Int),js[u]?=some j->j≠u
theorem TY.set{js:M_}{i:Nat}{x:Int}(h:TY js)(hx:x≠i):TY (js.set i x):=by intro u j hj;rw[List.getElem?_set]at hj;split at hj;simp_all;exact h u j hj
def TR(qs:j_)(ts:J_)(js:M_):Prop:=(∀x,InQ qs x->∃(i:Nat)(t:DTh),x=i/\ts[i]?=some t/\t.1=3/\js[i]?=some (-1))/\∀(i:Nat)(j:Int),js[i]?=some j->j≠-1->∃t,ts[i]?=some t/\t.1=3
structure j9 (n:Int)(q:Nat)(code:F_)(ss:M_)(dt:j_)(bs:M_)(cs:C_)(ls:G_)(ts:J_)(ck rn:M_)(ins:j_)(d:i_)(os:H_)(us:I_)(ow:M_)(qs:j_)(rec:E_)(js:M_):Prop where
 prog:kE code ss dt
 mach:MOk n ss bs cs ls ts
 outs:vo ss ck rn ins d os us
 lock:kt ow qs
 rlen:rec.length<=q
 jlen:js.length=4
 jne:TY js
 xq:TR qs ts js
 xx:Cx qs
def VD(n key:Int)(q:Nat)(code:F_)(ss:M_)(dt:j_)(bs:M_)(r:F_×v_×g_×v_×Int×C_×G_×J_×v_×v_×g_×i_×H_×I_×v_×g_×E_×v_×Unit):Prop:=∃cs ls ts ck rn ins d os us ow qs rec js,r=(code,ss,dt,bs,key,cs,ls,ts,ck,rn,ins,d,os,us,ow,qs,rec,js,())/\j9 n q code ss dt bs cs ls ts ck rn ins d os us ow qs rec js
theorem A7{st:M_}{ZY:J_}{k:Nat}{x:Int}(e:ZY.map (·.1)=st)(h:st[k]?=some x):∃t',ZY[k]?=some t'/\t'.1=x:=by rw[<- e,oGP]at h;simp_all
theorem PO{ts:J_}{k:Nat}{t:DTh}(h:ts[k]?=some t):(ts.map (·.1))[k]?=some t.1:=by simp_all
theorem j9.woken{n:Int}{q:Nat}{code:F_}{ss:M_}{dt:j_}{bs:M_}{cs Z9:C_}{ls Z8:G_}{ts ZY:J_}{ck rn:M_}{ins:j_}{d:i_}{os:H_}{us:I_}{ow:M_}{qs:j_}{rec:E_}{js:M_}{i:Nat}{v:Int}{th:DTh} (h:j9 n q code ss dt bs cs ls ts ck rn ins d os us ow qs rec js)(Zp:ts[i]?=some th)(h3:th.1=3)(hnq:¬InQ qs i)(hv:W16 v)(hM:MOk n ss bs Z9 Z8 ZY)(hst:ZY.map (·.1)=(ts.map (·.1)).set i 1):j9 n (q+1) code ss dt bs Z9 Z8 ZY ck rn ins d os us ow qs (List.append rec [(4,(i:Int),0,0,0,0,0,0,0,[],[],0,v,0,0,[],-1,false)]) (js.set i (-1)):=by have Yp:=h.mach.tlen;have hil:=(oGS Zp).1;have keep:∀(k:Nat)(t:DTh),k≠i->ts[k]?=some t->∃t',ZY[k]?=some t'/\t'.1=t.1:=λk t hk ht=>A7 hst (by rw[List.getElem?_set_ne (Ne.symm hk)];exact PO ht);refine⟨h.prog,hM,h.outs,h.lock,by have:=h.rlen;rw[ig];simp;omega,by rw[oLS];exact h.jlen,h.jne.set (by omega),⟨λx hx=>?_,λk j hk hj=>?_⟩,h.xx⟩;obtain⟨k,t,rfl,hk,ht3,hj⟩:=h.xq.1 x hx;have hki:k≠i:=λe=>hnq (e▸hx);obtain⟨t',ZU,e⟩:=keep k t hki hk;exact⟨k,t',rfl,ZU,by rw[e,ht3],by rw[List.getElem?_set_ne (Ne.symm hki)];exact hj⟩;rcases rm hk with⟨_,e⟩|⟨hne,hk⟩;exact absurd e hj;obtain⟨t,ht,ht3⟩:=h.xq.2 k j hk hj;obtain⟨t',ZU,e⟩:=keep k t (Ne.symm hne) ht;simp_all
theorem MX{n:Int}{q:Nat}{code:F_}{ss:M_}{dt:j_}{bs:M_}{key:Int}{cs:C_}{ls:G_}{ts:J_}{ck rn:M_}{ins:j_}{d:i_}{os:H_}{us:I_}{ow:M_}{qs:j_}{rec:E_}{js:M_}{i:Nat}{v:Int}{th:DTh}(h:j9 n q code ss dt bs cs ls ts ck rn ins d os us ow qs rec js)(hn:n<=1099511627776)(hq:q<=900)(hv:W16 v)(Zp:ts[i]?=some th)(h3:th.1=3)(hnq:¬InQ qs i)(hjs:js[i]?=some (-1)):Ok (qy (i:Int) v code ss dt bs key cs ls ts ck rn ins d os us ow qs rec js) (VD n key (q+1) code ss dt bs):=by unfold qy;rw[gc (by have:=hv.1;omega) (by have:=hv.2;omega)];have ⟨v2,ev,Xj⟩:=hJ v true;simp[ev];refine(R8 h.prog h.mach hn (iS Xj) ⟨by decide,gu⟩ (by decide) Zp h3).bind ?_;rintro _ ⟨Z9,Z8,ZY,b,rfl,hM,hst⟩;have hr:=h.rlen;refine fP (f7 (by simp;omega)) ?_;have hW:=h.woken Zp h3 hnq Xj hM hst;rw[Er hjs]at hW;exact fO ⟨_,_,_,_,_,_,_,_,_,_,_,_,_,rfl,hW⟩
theorem Kr{n:Int}{q:Nat}{code:F_}{ss:M_}{dt:j_}{bs:M_}{key:Int}{cs:C_}{ls:G_}{ts:J_}{ck rn:M_}{ins:j_}{d:i_}{os:H_}{us:I_}{ow:M_}{qs:j_}{rec:E_}{js:M_}{i:Nat}{v:Int}{th:DTh}(h:j9 n q code ss dt bs cs ls ts ck rn ins d os us ow qs rec js)(hn:n<=1099511627776)(hq:q<=900)(hv:W16 v)(Zp:ts[i]?=some th)(h3:th.1=3)(hnq:¬InQ qs i):Ok (lC (i:Int) v code ss dt bs key cs ls ts ck rn ins d os us ow qs rec) λr=>∃Z9 Z8 ZY rec',r=(code,ss,dt,bs,key,Z9,Z8,ZY,ck,rn,ins,d,os,us,ow,qs,rec',())/\j9 n (q+1) code ss dt bs Z9 Z8 ZY ck rn ins d os us ow qs rec' (js.set i (-1))/\ZY.map (·.1)=(ts.map (·.1)).set i 1:=by unfold lC;rw[gc (by have:=hv.1;omega) (by have:=hv.2;omega)];have ⟨v2,ev,Xj⟩:=hJ v true;simp[ev];refine(R8 h.prog h.mach hn (iS Xj) ⟨by decide,gu⟩ (by decide) Zp h3).bind ?_;rintro _ ⟨Z9,Z8,ZY,b,rfl,hM,hst⟩;have hr:=h.rlen;refine fP (f7 (by simp;omega)) ?_;exact fO ⟨_,_,_,_,rfl,h.woken Zp h3 hnq Xj hM hst,hst⟩
def SpP(ts:J_)(call:Int)(w:Bool)(sp:Int):Prop:=sp=-1\/(call=10/\w=false/\∃j:Nat,sp=j/\j<4/\∃tj,ts[j]?=some tj/\tj.1=0)
def QjP(ow:M_)(qs:j_)(js:M_)(i:Nat)(call:Int)(args:D_)(w:Bool)(Zq:M_)(qs':j_)(Xd:M_):Prop:=
 (w=false/\Xd=js/\((call≠9/\qs'=qs)\/(call=9/\∃(a:DCn)(nx:Int)(b:Bool),args[0]?=some a/\jF ow qs a.2.1 (i:Int)=some (Zq,qs',nx,b,()))))\/
 (w=true/\call≠0/\call≠9/\((Xd=js/\Pu qs i 1 qs')\/(qs'=qs/\∃k:Int,k≠-1/\k≠i/\Xd=js.set i k)))
def VI(n key:Int)(code:F_)(ss:M_)(dt:j_)(bs:M_)(cs:C_)(ls:G_)(ts:J_)(us:I_)(ow:M_)(qs:j_)(rec:E_)(js:M_)(i:Nat)(call:Int)(args data:D_)(r:Int×Int×Int×Int×D_×Int×Bool×F_×v_×g_×v_×Int×C_×G_×J_×v_×v_×g_×i_×H_×I_×v_×g_×E_×v_×Unit):Prop:=∃t v rg o dat sp w ck rn ins d os X7 Zq qs' Xd,r=(t,v,rg,o,dat,sp,w,code,ss,dt,bs,key,cs,ls,ts,ck,rn,ins,d,os,X7,Zq,qs',rec,Xd,())/\vo ss ck rn ins d os X7/\kt Zq qs'/\Pr ss (t,v,rg,o)/\(dat.length<=16/\∀c∈dat,Pr ss c)/\(-1<=sp/\sp<=3)/\RD us X7 call args data t v/\T0 call args dat/\SpP ts call w sp/\QjP ow qs js i call args w Zq qs' Xd
set_option maxHeartbeats 4000000 in
theorem Od{n m:Int}{q:Nat}{code:F_}{ss:M_}{dt:j_}{bs:M_}{key:Int}{cs:C_}{ls:G_}{ts:J_}{ck rn:M_}{ins:j_}{d:i_}{os:H_}{us:I_}{ow:M_}{qs:j_}{rec:E_}{js:M_}{i:Nat}{trap count pc call:Int}{args data:D_}(h:j9 n q code ss dt bs cs ls ts ck rn ins d os us ow qs rec js)(hi:i<4)(hm:m<=1099511627776)(hR:AD m ss (i:Int) 1 trap count pc call args data):Ok (mB (i:Int) 1 trap count pc call args data code ss dt bs key cs ls ts ck rn ins d os us ow qs rec js) (VI n key code ss dt bs cs ls ts us ow qs rec js i call args data):=by
 obtain⟨Y7,_⟩:=hR.hkind rfl;have Yp:=h.mach.tlen;obtain⟨v0,ev0,YQ⟩:=hJ 0 true;obtain⟨v1,ev1,Ws⟩:=hJ 0 false;have ZV:([]:D_).length<=16/\∀c∈([]:D_),Pr ss c:=⟨by decide,gu⟩;have ZT:∀{v:Int}{w:Bool}{Zq:M_}{qs':j_}{Xd:M_},W16 v->kt Zq qs'->call≠13->QjP ow qs js i call args w Zq qs' Xd->Ok (some ((0:Int),v,(0:Int),(0:Int),([]:D_),(-1:Int),w,code,ss,dt,bs,key,cs,ls,ts,ck,rn,ins,d,os,us,Zq,qs',rec,Xd,())) (VI n key code ss dt bs cs ls ts us ow qs rec js i call args data):=λhv hl h13 hj=>fO ⟨_,_,_,_,_,_,_,_,_,_,_,_,_,_,_,_,rfl,h.outs,hl,iS hv,ZV,by decide,.inl ⟨h13,rfl⟩,kz,.inl rfl,hj⟩;have Xg:call≠9->QjP ow qs js i call args false ow qs js:=λh9=>.inl ⟨rfl,rfl,.inl ⟨h9,rfl⟩⟩;have hdo:Rx call=true->Ok ((nE ck rn ins d os us (i:Int) 1 trap count pc call args data).bind λ(x35,x36,x37,x38,x39,x40,x41,x42,x43,x44,x45,x46,x47,x48,_)=>some (x41,x42,x43,x44,x45,x46,x47,code,ss,dt,bs,key,cs,ls,ts,x35,x36,x37,x38,x39,x40,ow,qs,rec,js,())) (VI n key code ss dt bs cs ls ts us ow qs rec js i call args data):=by intro ha;refine(UN h.prog.sz h.outs hR ha hm).bind ?_;rintro _ ⟨ck',rn',Yc,d',Y9,X7,t,v,rg,o,dat,rfl,hO,hv,hd,hu,hp⟩;exact fO ⟨_,_,_,_,_,_,_,_,_,_,_,_,_,_,_,_,rfl,hO,h.lock,hv,hd,by decide,hu,hp,.inl rfl,.inl ⟨rfl,rfl,.inl ⟨(λe=>by subst e;exact absurd ha (by decide)),rfl⟩⟩⟩
 have arg0:0<(kB call).length->∃a,fR args 0=some a/\W16 a.2.1/\wk .i64 a.2.1=a.2.1:=λhl=>by obtain⟨a,ha⟩:=gr args 0 (by omega);have hva:=(hR.hargs.2 a (fW ha)).val;exact⟨a,ha,hva,gc (by have:=hva.1;omega) (by have:=hva.2;omega)⟩
 unfold mB;delta fY;try dsimp only
 rcases qg hR.hcall with rfl|rfl|rfl|rfl|rfl|rfl|rfl|rfl|rfl|rfl|rfl|rfl|rfl|rfl|rfl|rfl;all_goals simp only[Int.reduceBEq,oCT,oCF,oBS,ev0,ev1]
 all_goals first
  |exact hdo rfl
  |exact ZT YQ h.lock (by decide) (Xg (by decide))
  |skip
 obtain⟨a,ga,ha,wa⟩:=arg0 (by decide);simp only[ga,oBS,wa];refine(T7 h.lock (by omega)).bind ?_;rintro _ ⟨Zq,qs',how,rfl,hl,J'⟩;dsimp only;obtain⟨v,ev,hv⟩:=hJ 0 (how != 2);simp only[ev,oBS];refine ZT hv hl (by decide) ?_;rcases J' with⟨hne,hq⟩|⟨h1,ZR⟩;exact .inl ⟨oBF hne,rfl,.inl ⟨by decide,hq⟩⟩;exact .inr ⟨beq_iff_eq.2 h1,by decide,by decide,.inl ⟨rfl,.inr ⟨rfl,ZR⟩⟩⟩;obtain⟨a,ga,ha,wa⟩:=arg0 (by decide);simp only[ga,oBS,wa];obtain⟨_,e,Zq,qs',nx,b,rfl,hl,_,_,_⟩:=K3 (lock:=a.2.1) (t:=(i:Int)) h.lock;simp only[e,oBS];obtain⟨v,ev,hv⟩:=hJ 0 b;simp only[ev,oBS];exact ZT hv hl (by decide) (.inl ⟨rfl,rfl,.inr ⟨rfl,a,nx,b,ga,e⟩⟩);obtain⟨y,e,hy⟩:=gW (f:=mA) (n:=NN) (s:=((ts.length:Int),0,code,ss,dt,bs,key,cs,ls,ts,ck,rn,ins,d,os,us,ow,qs,rec,js,0,0,0,0,(),0,false,())) (P:=λs'=>∃k:Nat,s'=((ts.length:Int),(k:Int),code,ss,dt,bs,key,cs,ls,ts,ck,rn,ins,d,os,us,ow,qs,rec,js,0,0,0,0,(),0,false,())/\k<=4) (R:=λy=>(∃v k,y=.inl (code,ss,dt,bs,key,cs,ls,ts,ck,rn,ins,d,os,us,ow,qs,rec,js,0,v,0,0,(),k,false,())/\W16 v/\∃j:Nat,k=j/\j<4/\∃tj,ts[j]?=some tj/\tj.1=0)\/(∃a b f,y=.inr (a,b,f,code,ss,dt,bs,key,cs,ls,ts,ck,rn,ins,d,os,us,ow,qs,rec,js,0,0,0,0,(),0,false,()))) (m:=λs'=>(s'.1-s'.2.1).toNat) ⟨0,rfl,by omega⟩ (by unfold NN;dsimp only;omega) (by rintro _ ⟨k,rfl,hk⟩;unfold mA;dsimp only;refine fQ (λZ'=>?_) λZ'=>?_;obtain⟨t,ht⟩:=gr ts k (by omega);simp only[fV,oBS,show fR ts k=some t from ht];refine fQ (λZ1=>?_) λZ1=>?_;obtain⟨v,ev,hv⟩:=hJ (k:Int) true;simp only[ev,oBS];exact fO (.inl ⟨_,_,rfl,hv,k,rfl,by omega,t,ht,by first|exact beq_iff_eq.1 Z1|exact Z1⟩);rw[iA (x:=(k:Int)+1)];exact fO ⟨⟨k+1,rfl,by omega⟩,by dsimp only;omega⟩;exact fO (.inr ⟨_,_,_,rfl⟩));simp only[e];rcases hy with⟨v,k,rfl,hv,j,rfl,hj4,tj,Q',hj0⟩|⟨a,b,f,rfl⟩;exact fO ⟨_,_,_,_,_,_,_,_,_,_,_,_,_,_,_,_,rfl,h.outs,h.lock,iS hv,ZV,by omega,.inl ⟨by decide,rfl⟩,kz,.inr ⟨rfl,rfl,j,rfl,hj4,tj,Q',hj0⟩,Xg (by decide)⟩;simp only[ev1,oBS];exact ZT Ws h.lock (by decide) (Xg (by decide));obtain⟨a,ga,ha,wa⟩:=arg0 (by decide);simp only[ga,oBS,wa];obtain⟨j,hj⟩:∃j:Nat,a.2.1=j:=⟨a.2.1.toNat,by have:=ha.1;omega⟩;simp only[hj];by_cases h1:(j:Int)=i;simp only[beq_iff_eq.2 h1,oCT,oBS,ev1];exact ZT Ws h.lock (by decide) (Xg (by decide));by_cases h2:(j:Int)>=4;simp only[oBF h1,oDT h2,oCT,oCF,oBS,ev1];exact ZT Ws h.lock (by decide) (Xg (by decide));obtain⟨t,ht⟩:=gr ts j (by omega);simp only[oBF h1,oDF h2,oCF,oBS,fV,show fR ts j=some t from ht];cases t.1==0 with|true=>simp only[oCT,ev1,oBS];exact ZT Ws h.lock (by decide) (Xg (by decide))|false=>simp only[oCF,fV,oBS,show fR ts j=some t from ht];cases t.1==4 with|true=>obtain⟨v,ev,hv⟩:=hJ (wk .i64 t.2.2.2.2.2.2.2) true;simp only[oCT,ev,oBS];exact ZT hv h.lock (by decide) (Xg (by decide))|false=>obtain⟨z,hz⟩:=gr js i (by have:=h.jlen;omega);simp only[oCF,show fR js i=some z from hz,oBS,ev0,gl hz];exact ZT YQ h.lock (by decide) (.inr ⟨rfl,by decide,by decide,.inr ⟨rfl,j,by omega,h1,rfl⟩⟩)
theorem Rs{st:M_}{i k:Nat}{call sp:Int}{w:Bool}{ts:J_}{t:DTh}(hs:SpP ts call w sp)(hk:ts[k]?=some t)(h3:t.1=3)(hi:k≠i)(hst:st=ts.map (·.1)):(TG st i call w sp)[k]?=some 3:=by
 have h0:st[k]?=some 3:=by simp_all
 unfold TG;by_cases hm:sp=-1;rw[oIP hm,List.getElem?_set_ne (Ne.symm hi),h0];rw[oIN hm];rcases hs with hs|⟨_,_,j,rfl,_,tj,Q',hj0⟩;omega;rw[oTN,List.getElem?_set_ne (λe=>?_),List.getElem?_set_ne (Ne.symm hi),h0];simp_all
theorem Rr{st:M_}{i:Nat}{call sp:Int}{ts:J_}(hs:SpP ts call true sp)(h0:call≠0)(hi:i<st.length):(TG st i call true sp)[i]?=some 3:=by unfold TG;rcases hs with rfl|⟨_,hw,_⟩;simp_all;cases hw
theorem Gu{n m:Int}{q:Nat}{code:F_}{ss:M_}{dt:j_}{bs:M_}{key:Int}{cs:C_}{ls:G_}{ts:J_}{ck rn:M_}{ins:j_}{d:i_}{os:H_}{us:I_}{ow:M_}{qs:j_}{rec:E_}{js:M_}{i:Nat}{trap count pc call:Int}{args data:D_}(h:j9 n q code ss dt bs cs ls ts ck rn ins d os us ow qs rec js)(hi:i<4)(hn:n<=1099511627776)(hm:m<=1099511627776)(hq:q<=800)(hR:AD m ss (i:Int) 1 trap count pc call args data)(hF:Px ss call args){th:DTh}(Zp:ts[i]?=some th)(h2t:th.1=2):Ok (lD (i:Int) 1 trap count pc call args data code ss dt bs key cs ls ts ck rn ins d os us ow qs rec js) (VD n key (q+2) code ss dt bs):=by
 obtain⟨Y7,_⟩:=hR.hkind rfl;unfold lD;refine Ok.bind (P:=λr=>∃nx,r=(nx,code,ss,dt,bs,key,cs,ls,ts,ck,rn,ins,d,os,us,ow,qs,rec,js,(i:Int),1,trap,count,pc,call,args,data,())/\(nx≠-1->call=9/\∃(a:DCn)(ow1:M_)(qs1:j_)(b:Bool),args[0]?=some a/\jF ow qs a.2.1 (i:Int)=some (ow1,qs1,nx,b,())/\RC qs nx qs1)/\-1<=nx/\nx<=3) ?_ ?_;by_cases h9:call=9;subst h9;obtain⟨a,ha⟩:=gr args 0 (by rw[Y7];decide);have hva:=(hR.hargs.2 a (fW ha)).val;obtain⟨_,e,Zq,qs',nx,b,rfl,hl,XH,XR,_⟩:=K3 (lock:=a.2.1) (t:=(i:Int)) h.lock;simp only[BEq.rfl,oCT,show fR args 0=some a from ha,oBS,gc (x:=a.2.1) (by have:=hva.1;omega) (by have:=hva.2;omega),e];exact fO ⟨nx,rfl,λ_=>⟨by first|rfl|trivial,a,Zq,qs',b,ha,e,XR⟩,XH.1,XH.2⟩;simp only[oBF h9,oCF];exact fO ⟨_,rfl,λhn=>absurd rfl hn,by decide,by decide⟩;rintro _ ⟨nx,rfl,XH,hnx0,hnx3⟩;dsimp only;refine(Od h hi hm hR).bind ?_;rintro _ ⟨t,v,rg,o,dat,sp,w,ck',rn',Yc,d',Y9,X7,Zq,qs',Xd,rfl,hO,hL,hv,hd,hs,hu,hdp,ZD,hqj⟩;dsimp only;refine(VF h.prog h.mach hi hn hm hR hv hd hs Zp h2t hF hdp ZD).bind ?_;rintro _ ⟨Z9,Z8,ZY,b,rfl,hM,hst⟩;dsimp only;have hr:=h.rlen;have Yp:=h.mach.tlen;have hjl:=h.jlen;have ZX:sp≠-1->sp.toNat<4:=λ_=>by omega
 refine fP (f7 (by simp;omega)) ?_;have WG:¬InQ qs i:=λhq=>by
  obtain⟨k,tk,e,hk,X1,_⟩:=h.xq.1 i hq;obtain rfl:k=i:=by omega
  rw[Zp]at hk;injection hk with hk
  rw[hk]at h2t;omega
 have jsi:js[i]?=some (-1):=by
  obtain⟨j,hj⟩:=gr js i (by omega);by_cases e:j=-1;rw[hj,e];obtain⟨tk,hk,X1⟩:=h.xq.2 i j hj e;rw[Zp]at hk;injection hk with hk
  rw[hk]at h2t;omega
 have keep:∀(k:Nat)(tk:DTh),k≠i->ts[k]?=some tk->tk.1=3->∃t',ZY[k]?=some t'/\t'.1=3:=λk tk hk ht h3=>A7 hst (Rs ZD ht h3 hk rfl);have hq:Xd.length=4/\TY Xd/\TR qs' ZY Xd/\Cx qs':=by
  rcases hqj with⟨hw,rfl,hqq⟩|⟨hw,hc0,hc9,hqq⟩;have Z7:Cx qs'/\∀x,InQ qs' x->InQ qs x:=by
   rcases hqq with⟨_,rfl⟩|⟨h9,a,nx2,b2,XY,e2⟩;exact⟨h.xx,λx hx=>hx⟩;obtain⟨_,e3,_,_,nx3,_,rfl,_,_,XR,_⟩:=K3 (lock:=a.2.1) (t:=(i:Int)) h.lock;rw[e2]at e3;injection e3 with e3
   simp only[oPJ]at e3;obtain⟨_,rfl,rfl,_⟩:=e3;by_cases hn:nx2=-1;rcases XR with⟨_,rfl⟩|⟨j,q,hj,_⟩;exact⟨h.xx,λx hx=>hx⟩;have:=((h.lock.queue _ (fW hj)).2 nx2 (List.mem_cons_self ..)).1;omega;obtain⟨_,g2,g3⟩:=S3 h.lock h.xx XR hn;exact⟨g2,λx hx=>(g3 x hx).1⟩
  refine⟨hjl,h.jne,⟨λx hx=>?_,λk j hk hj=>?_⟩,Z7.1⟩;obtain⟨k,tk,rfl,hk,X1,hkj⟩:=h.xq.1 x (Z7.2 x hx);obtain⟨t',ZU,e⟩:=keep k tk (λe=>WG (e▸Z7.2 _ hx)) hk X1;exact⟨k,t',rfl,ZU,e,hkj⟩;obtain⟨tk,ht,X1⟩:=h.xq.2 k j hk hj;have hki:k≠i:=λe=>by
   subst e;rw[jsi]at hk;injection hk with hk
   exact hj hk.symm
  exact keep k tk hki ht X1;subst hw;obtain⟨ti,hti,hti3⟩:=A7 hst (Rr ZD hc0 (by rw[oLP];omega));rcases hqq with⟨rfl,J'⟩|⟨rfl,k0,hk0,hk0i,rfl⟩;obtain⟨g1,g2⟩:=Uj h.xx J';refine⟨hjl,h.jne,⟨λx hx=>?_,λk j hk hj=>?_⟩,g1⟩;rcases g2 x hx with hx|⟨rfl,_⟩;obtain⟨k,tk,rfl,hk,X1,hkj⟩:=h.xq.1 x hx;obtain⟨t',ZU,e⟩:=keep k tk (λe=>WG (e▸hx)) hk X1;exact⟨k,t',rfl,ZU,e,hkj⟩;exact⟨i,ti,rfl,hti,hti3,jsi⟩;obtain⟨tk,ht,X1⟩:=h.xq.2 k j hk hj;have hki:k≠i:=λe=>by
   subst e;rw[jsi]at hk;injection hk with hk
   exact hj hk.symm
  exact keep k tk hki ht X1;refine⟨by rw[oLS];exact hjl,h.jne.set hk0i,⟨λx hx=>?_,λk j hk hj=>?_⟩,h.xx⟩;obtain⟨k,tk,rfl,hk,X1,hkj⟩:=h.xq.1 x hx;have hki:k≠i:=λe=>WG (e▸hx);obtain⟨t',ZU,e⟩:=keep k tk hki hk X1;exact⟨k,t',rfl,ZU,e,by rw[List.getElem?_set_ne (Ne.symm hki)];exact hkj⟩;rcases rm hk with⟨e,_⟩|⟨hne,hk⟩;subst e;exact⟨ti,hti,hti3⟩;obtain⟨tk,ht,X1⟩:=h.xq.2 k j hk hj;exact keep k tk (Ne.symm hne) ht X1
 obtain⟨hq1,Y3,hq3,hq4⟩:=hq;have h3:j9 n (q+1) code ss dt bs Z9 Z8 ZY ck' rn' Yc d' Y9 X7 Zq qs' (List.append rec [(2,(i:Int),0,(i:Int),1,trap,count,pc,call,args,data,t,v,rg,o,dat,sp,w)]) Xd:=⟨h.prog,hM,hO,hL,by rw[ig];simp;omega,hq1,Y3,hq3,hq4⟩;by_cases hn0:nx>=0;simp only[oDT hn0,oCT];obtain⟨h9,a,ow1,qs1,b1,YF,eg,XR⟩:=XH (by omega);obtain⟨g1,g2,g3⟩:=S3 h.lock h.xx XR (by omega);obtain⟨k,tk,rfl,hk,X1,hkj⟩:=h.xq.1 nx g1;have hki:k≠i:=λe=>WG (e▸g1);obtain⟨t',ZU,e3⟩:=keep k tk hki hk X1;have hqq:qs'=qs1/\Xd=js:=by
  rcases hqj with⟨_,hjj,hqq⟩|⟨_,_,h9',_⟩;refine⟨?_,hjj⟩;rcases hqq with⟨hn9,_⟩|⟨_,a2,nx2,b2,XY,e2⟩;exact absurd h9 hn9;rw[YF]at XY;injection XY with XY
  subst XY;rw[eg]at e2;injection e2 with e2
  simp only[oPJ]at e2;exact e2.2.1.symm;exact absurd h9 h9'
 obtain⟨rfl,rfl⟩:=hqq;refine(MX h3 hn (by omega) ⟨by decide,by decide⟩ ZU e3 (λhq=>(g3 _ hq).2 rfl) hkj).bind ?_;rintro _ ⟨cs3,ls3,Wr,ck3,rn3,ins3,d3,os3,us3,ow3,qs3,rec3,js3,rfl,h4⟩;exact fO ⟨_,_,_,_,_,_,_,_,_,_,_,_,_,rfl,h4⟩;simp only[oDF hn0,oCF];have h4:=h3;exact fO ⟨_,_,_,_,_,_,_,_,_,_,_,_,_,rfl,h4.prog,h4.mach,h4.outs,h4.lock,by have:=h4.rlen;omega,h4.jlen,h4.jne,h4.xq,h4.xx⟩
theorem J8{n:Int}{q:Nat}{code:F_}{ss:M_}{dt:j_}{bs:M_}{key:Int}{cs:C_}{ls:G_}{ts:J_}{ck rn:M_}{ins:j_}{d:i_}{os:H_}{us:I_}{ow:M_}{qs:j_}{rec:E_}{js:M_}{i:Nat}(h:j9 n q code ss dt bs cs ls ts ck rn ins d os us ow qs rec js)(hi:i<4)(hn:n<=1099511627776)(hq:q<=800){th:DTh}(Zp:ts[i]?=some th)(h4t:th.1=4):Ok (mC (i:Int) code ss dt bs key cs ls ts ck rn ins d os us ow qs rec js) (VD n key (q+7) code ss dt bs):=by
 unfold mC;delta fY;try dsimp only
 have WG:¬InQ qs i:=λhq=>by
  obtain⟨k,tk,e,hk,X1,_⟩:=h.xq.1 i hq;obtain rfl:k=i:=by omega
  rw[Zp]at hk;injection hk with hk
  rw[hk]at h4t;omega
 refine(UM h.lock WG h.xx).bind ?_;rintro _ ⟨Zq,qs',nx,rfl,hl,hn4,XH,Xw⟩;dsimp only;have hwt0:=λx hx=>h.xq.1 x (Xw.was x hx);refine gL (P:=λs'=>∃k:Nat,∃cs ls ts rec,s'=((i:Int),(nx.length:Int),(k:Int),code,ss,dt,bs,key,cs,ls,ts,ck,rn,ins,d,os,us,Zq,qs',rec,js,nx,())/\k<=nx.length/\j9 n (q+k) code ss dt bs cs ls ts ck rn ins d os us Zq qs' rec js/\(∀(m:Nat) x,k<=m->nx[m]?=some x->∃(u:Nat)(t:DTh),x=u/\ts[u]?=some t/\t.1=3/\js[u]?=some (-1))/\∃t,ts[i]?=some t/\t.1=4)
  (R:=λr=>∃a b f cs ls ts rec,r=((i:Int),a,b,f,code,ss,dt,bs,key,cs,ls,ts,ck,rn,ins,d,os,us,Zq,qs',rec,js,nx,())/\j9 n (q+4) code ss dt bs cs ls ts ck rn ins d os us Zq qs' rec js/\∃t,ts[i]?=some t/\t.1=4) (m:=λs'=>(s'.2.1-s'.2.2.1).toNat)
  ⟨0,cs,ls,ts,rec,rfl,by omega,⟨h.prog,h.mach,h.outs,hl,by have:=h.rlen;omega,h.jlen,h.jne,⟨λx hx=>h.xq.1 x (Xw.now x hx).1,h.xq.2⟩,Xw.cross⟩,λm x _ hx=>hwt0 x (fW hx),th,Zp,h4t⟩ (by unfold NN;dsimp only;omega) ?_ ?_
 rintro _ ⟨k,W1,Xe,ts2,Wo,rfl,hk,h2,hw2,ti,hti,hti4⟩;unfold s6;dsimp only;refine fQ (λZ'=>?_) λZ'=>?_;obtain⟨x,hx⟩:=gr nx k (by omega);simp only[fV,oBS,show fR nx k=some x from hx];obtain⟨u,tu,rfl,hu,hu3,huj⟩:=hw2 k x (oLE _) hx;have hunq:¬InQ qs' u:=λhq=>(Xw.now _ hq).2 (fW hx);refine(Kr h2 hn (by omega) ⟨by decide,by decide⟩ hu hu3 hunq).bind ?_;rintro _ ⟨cs3,ls3,Wr,rec3,rfl,h3,hst3⟩;rw[Er huj]at h3;have keep:∀(m:Nat)(t:DTh),m≠u->ts2[m]?=some t->∃t',Wr[m]?=some t'/\t'.1=t.1:=λm t hm ht=>A7 hst3 (by rw[List.getElem?_set_ne (Ne.symm hm)];exact PO ht);have hiu:i≠u:=λe=>by
  subst e;rw[hti]at hu;injection hu with hu
  rw[hu]at hti4;omega
 have hw3:∀(m:Nat) x,k+1<=m->nx[m]?=some x->∃(v:Nat)(t:DTh),x=v/\Wr[v]?=some t/\t.1=3/\js[v]?=some (-1):=λm x hm hxm=>by
  obtain⟨v,tv,rfl,hv,R',WX⟩:=hw2 m x (by omega) hxm;have hvu:v≠u:=λe=>by subst e;have Xu:=(oGS hx).1;have:=(List.getElem?_inj Xu Xw.nd).1 (hx.trans hxm.symm);omega
  obtain⟨t',ZU,e⟩:=keep v tv hvu hv;exact⟨v,t',rfl,ZU,by rw[e,R'],WX⟩
 obtain⟨ti',hti',QC⟩:=keep i ti hiu hti;dsimp only;rw[iA (x:=(k:Int)+1)];exact fO ⟨⟨k+1,_,_,_,_,rfl,by omega,h3,hw3,ti',hti',by rw[QC,hti4]⟩,by dsimp only;omega⟩;exact fO ⟨_,_,_,_,_,_,_,rfl,⟨h2.prog,h2.mach,h2.outs,h2.lock,by have:=h2.rlen;omega,h2.jlen,h2.jne,h2.xq,h2.xx⟩,ti,hti,hti4⟩;rintro _ ⟨a,b,f,W1,Xe,ts2,Wo,rfl,h2,hti2⟩;dsimp only;refine gL (P:=λs'=>∃k c:Nat,∃cs ls ts rec js,s'=((i:Int),4,(k:Int),code,ss,dt,bs,key,cs,ls,ts,ck,rn,ins,d,os,us,Zq,qs',rec,js,())/\(k<=4/\c<=k/\(i<k->c+1<=k))/\j9 n (q+4+c) code ss dt bs cs ls ts ck rn ins d os us Zq qs' rec js/\∃t,ts[i]?=some t/\t.1=4)
  (R:=λr=>∃a b c f cs ls ts rec js,r=(a,b,c,f,code,ss,dt,bs,key,cs,ls,ts,ck,rn,ins,d,os,us,Zq,qs',rec,js,())/\j9 n (q+7) code ss dt bs cs ls ts ck rn ins d os us Zq qs' rec js) (m:=λs'=>(s'.2.1-s'.2.2.1).toNat)
  ⟨0,0,W1,Xe,ts2,Wo,js,by rw[h.jlen];rfl,by omega,h2,hti2⟩ (by unfold NN;dsimp only;have:=h.jlen;omega) ?_ ?_
 rintro _ ⟨k,c,W1,Xe,ts2,Wo,js2,rfl,hk,h2,t,ht,ht4⟩;unfold sZ;dsimp only;refine fQ (λZ'=>?_) λZ'=>?_;obtain⟨x,hx⟩:=gr js2 k (by have:=h2.jlen;omega);have htc:=(h2.mach.thr t (fW ht)).code;simp only[fV,oBS,show fR js2 k=some x from hx,show fR ts2 i=some t from ht];refine Ok.bind (P:=λr=>∃cs ls ts rec js,r=((i:Int),4,(k:Int),code,ss,dt,bs,key,cs,ls,ts,ck,rn,ins,d,os,us,Zq,qs',rec,js,())/\∃c':Nat,(c'<=k+1/\(i<k+1->c'<=k))/\j9 n (q+4+c') code ss dt bs cs ls ts ck rn ins d os us Zq qs' rec js/\∃t,ts[i]?=some t/\t.1=4) ?_ ?_;refine fQ (λZ1=>?_) λZ1=>?_;have hki:x≠(k:Int):=h2.jne k x hx;have hxi:x=(i:Int):=by first|exact Z1|exact beq_iff_eq.1 Z1
 obtain⟨tk,htk,htk3⟩:=h2.xq.2 k x hx (by omega);have hknq:¬InQ qs' k:=λhq=>by
  obtain⟨k2,_,e,_,_,hj⟩:=h2.xq.1 k hq;obtain rfl:k2=k:=by omega
  rw[hx]at hj;injection hj with hj
  omega
 refine(Kr h2 hn (by omega) htc htk htk3 hknq).bind ?_;rintro _ ⟨cs3,ls3,Wr,rec3,rfl,h3,hst3⟩;obtain⟨ti',hti',QC⟩:∃t',Wr[i]?=some t'/\t'.1=4:=A7 hst3 (by rw[List.getElem?_set_ne (by omega),PO ht,ht4]);simp only[fV,oBS,show fR js2 k=some x from hx,gl hx];exact fO ⟨_,_,_,_,_,rfl,c+1,by omega,h3,ti',hti',QC⟩;exact fO ⟨_,_,_,_,_,rfl,c,by omega,h2,t,ht,ht4⟩;rintro _ ⟨cs3,ls3,Wr,rec3,js3,rfl,c',YY,h3,hti3⟩;dsimp only;rw[iA (x:=(k:Int)+1)];exact fO ⟨⟨k+1,c',_,_,_,_,_,rfl,by omega,h3,hti3⟩,by dsimp only;omega⟩;exact fO ⟨_,_,_,_,_,_,_,_,_,rfl,h2.prog,h2.mach,h2.outs,h2.lock,by have:=h2.rlen;omega,h2.jlen,h2.jne,h2.xq,h2.xx⟩;rintro _ ⟨a,b,c,f,W1,Xe,ts2,Wo,js2,rfl,h2⟩;exact fO ⟨_,_,_,_,_,_,_,_,_,_,_,_,_,rfl,h2⟩
end Go.Proofs.YtabfnmgabblofaaGreat
