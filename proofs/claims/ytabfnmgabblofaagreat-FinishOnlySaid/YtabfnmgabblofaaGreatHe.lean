/- Part of the proof; no condition. -/
import Derived.Test.YtabfnmgabblofaaGreatHd
import Derived.WalkKit
import Derived.WalkSpells
import Derived.Handy
import Derived.OpenShut
set_option linter.unusedVariables false
set_option linter.unusedSimpArgs false
namespace Go.Proofs.YtabfnmgabblofaaGreat
open Go.RowKit
set_option maxRecDepth 100000
noncomputable section
def mw:T1v->Option (T1v⊕((Int×Unit)⊕T1P)):=λ(v0,v1,v2,v3,v4,v5,_)=>bif(decide (v2<v1))then((gk v2).bind λx0=>
(fW v0 x0).bind λx1=>let x2:=f7 x1.length;
(gk v2).bind λx3=>
(fW v4 x3).bind λx4=>bif(decide (x2>x4))then(some (.inr (.inl (1,()))))else let x5:=w64 (v2+1);some (.inl (v0,v1,x5,v3,v4,v5,())))else some (.inr (.inr (v0,v1,v2,false,v3,v4,v5,())))
def mu:T1K->Option (T1K⊕((Int×Unit)⊕T22)):=λ(v0,v1,v2,v3,v4,v5,v6,_)=>bif(decide (v3<v2))then((match((gk v3).bind λx0=>
(fW v1 x0).bind λx1=>
(pK x1.1 x1.2.1 x1.2.2.1 x1.2.2.2.1 x1.2.2.2.2).bind λ(x2,_)=>bif(!x2)then(some (.inl (5,())))else
((nF x1.1).bind λ(x3,_)=>bif x3 then(let x4:Int:=(f7 v4.length);bif(decide (x1.2.2.2.2>=x4))then(some (v0,v1,v2,v3,true,v4,v5,v6,()))else bif(x1.1==15)then(let x5:Int:=(f7 v5.length);some (v0,v1,v2,v3,(decide (x1.2.2.2.2>=x5)),v4,v5,v6,()))else some (v0,v1,v2,v3,false,v4,v5,v6,()))else bif(x1.1==15)then(let x4:Int:=(f7 v5.length);some (v0,v1,v2,v3,(decide (x1.2.2.2.2>=x4)),v4,v5,v6,()))else some (v0,v1,v2,v3,false,v4,v5,v6,()):Option (T22)).bind λ(x3,x4,x5,x6,x7,x8)=>bif x7 then(some (.inr (6,x4,x5,x6,x8)))else some (.inr (x3,x4,x5,x6,x8)):Option ((Int×Unit)⊕T1K))with
|none=>none
|some (.inl (x0,_))=>some (.inr (.inl (x0,())))
|some (.inr (x0,x1,x2,x3,x4,x5,x6,_))=>let x7:=w64 (x3+1);some (.inl (x0,x1,x2,x7,x4,x5,x6,()))))else some (.inr (.inr (v0,v1,v2,v3,false,v4,v5,v6,())))
def sV(a0:LDIn)(a1:LI)(a2:LLI):h_:=
(lR a1).bind λ(x0,_)=>bif(!x0)then(some (1,()))else let x1:=f7 a2.length;let x2:=f7 a1.length;bif(x1 != x2)then(some (1,()))else let x3:=f7 a2.length;
(match gd mw NN (a2,x3,0,a0,a1,a2,())with
|none=>none
|some (.inl (x4,_))=>some (x4,())
|some (.inr (_,_,_,_,x8,x9))=>let ae:=f7 x8.length;bif(ae==0)then(some (3,()))else let af:=f7 x8.length;bif(decide (af>64))then(some (3,()))else let ag:=f7 x8.length;
(match gd mu NN (0,x8,ag,0,x8,x9)with
|none=>none
|some (.inl (ah,_))=>some (ah,())
|some (.inr (ah,_))=>some (ah,())))
def GU:X.Cfg:=⟨E0,[r6,yS,tM],[],[⟨6,0,qS (zaa 1::sP 22 (yaa RW)::il [23,24]) Uam,[(.ret,qS zau []),(.exit 0,qS [zaa 1,sP 22 (yaa RW),Uaa 23,Uaa 24,Xaa 25] Uam)]⟩,⟨27,1,qE,[(.normal,qS [zaa 1,Uaa 5,sP 49 gT,Uaa 50,Uaa 51,Xaa 81] Uam)]⟩,⟨22,2,qE,[(.ret,qS zau []),(.normal,qS yaz Uam)]⟩,⟨19,3,qS yaz Uam,[(.ret,qS zau []),(.exit 2,qS [zaa 1,Uaa 5,sP 49 gT,Uaa 50,Uaa 51,Xaa 52] Uam)]⟩]⟩
def yV:Ctr:=⟨109,128,[.agg uab],[],[⟨Uac,[.one],[]⟩],ap3 sV⟩
theorem FZ:Lk 4 yV:=ls GU (aC wB (aC FW (aC ye aN)))
def nB(a0:LDIn)(a1:LI)(a2:LLI):h_:=
(sV a0 a1 a2).bind λ(x0,_)=>some (x0,())
def CG:X.Cfg:=⟨E0,[yV],[],[]⟩
def vt:Ctr:=⟨81,129,[.agg uab],[],[⟨Uac,[.one],[]⟩],ap3 nB⟩
theorem Cl:Lk 5 vt:=ls CG (aC FZ aN)
def lG:T2z->Option (T2z⊕((Bool×Unit)⊕T2K)):=λ(v0,v1,v2,v3,v4,v5,v6,v7,v8,v9,_)=>bif(decide (v7<v6))then((match((gk v7).bind λx0=>
(fW v8 x0).bind λx1=>
(gk v7).bind λx2=>
(fW v0 x2).bind λx3=>let x4:=w64 (x1+x3);bif(decide (v2<=x4))then((gk v7).bind λx5=>
(fW v8 x5).bind λx6=>
(gk v1).bind λx7=>
(fW v0 x7).bind λx8=>let x9:=w64 (v2+x8);bif(decide (x6<=x9))then(some (.inl (false,())))else some (.inr (v0,v1,v2,v3,v4,v5,v6,v7,false,v8,v9,())))else some (.inr (v0,v1,v2,v3,v4,v5,v6,v7,false,v8,v9,())):Option ((Bool×Unit)⊕T2K))with
|none=>none
|some (.inl (x0,_))=>some (.inr (.inl (x0,())))
|some (.inr (x0,x1,x2,x3,x4,x5,x6,x7,_,x9,ac,_))=>let ae:=w64 (x7+1);some (.inl (x0,x1,x2,x3,x4,x5,x6,ae,x9,ac,()))))else some (.inr (.inr (v0,v1,v2,v3,v4,v5,v6,v7,false,v8,v9,())))
def lF:T1r->Option (T1r⊕((Bool×Unit)⊕(LI×T1p))):=λ(v0,v1,v2,v3,v4)=>bif(decide (v3<v2))then((gk v3).bind λx0=>
(fW v1 x0).bind λx1=>
(bif(decide (x1<0))then(some (v0,v3,x1,v1,v2,v3,true,v4))else bif(decide (x1>=512))then(some (v0,v3,x1,v1,v2,v3,true,v4))else
(gk v3).bind λx2=>
(fW v0 x2).bind λx3=>let x4:=w64 (x1+x3);some (v0,v3,x1,v1,v2,v3,(decide (x4>512)),v4):Option (T2k)).bind λ(x2,x3,x4,x5,x6,x7,x8,x9)=>bif x8 then(some (.inr (.inl (false,()))))else
(match gd lG NN (x2,x3,x4,x5,x6,x7,x3,0,x9)with
|none=>none
|some (.inl (ae,_))=>some (.inr (.inl (ae,())))
|some (.inr (ae,_,_,ah,ai,aj,_,_,_,ap))=>let av:=w64 (aj+1);some (.inl (ae,ah,ai,av,ap))))else some (.inr (.inr (v0,v1,v2,v3,false,v4)))
def oA(a0:LI)(a1:Int)(a2:LI):f_:=
(lR a2).bind λ(x0,_)=>bif(!x0)then(some (false,()))else let x1:=f7 a0.length;let x2:=f7 a2.length;bif(x1 != x2)then(some (false,()))else let x3:=f7 a0.length;
(match gd lF NN (a2,a0,x3,0,a0,a1,())with
|none=>none
|some (.inl (x4,_))=>some (x4,())
|some (.inr (_,_))=>some (true,()))
def D9:X.Cfg:=⟨E0,[r6],[],[⟨12,0,qE,[(.normal,qS [sP 1 RI,zaa 2,Uaa 5,Uaa 6,sP 20 RI,Uaa 21,Uaa 22,Xaa 41] Xam)]⟩,⟨18,1,qE,[(.ret,qS uau []),(.normal,qS (sP 1 RI::zaa 2::il [5,6]++sP 20 RI::il [21,22,42,43]++[Xaa 71]) Xam)]⟩,⟨15,2,qS (sP 1 RI::zaa 2::il [5,6]++sP 20 RI::il [21,22,42,43]) Xam,[(.ret,qS uau []),(.exit 2,qS (sP 1 RI::zaa 2::il [5,6]++sP 20 RI::il [21,22,42,43]++[Xaa 44]) Xam)]⟩,⟨6,3,qS [sP 1 RI,zaa 2,sP 20 RI,Uaa 21,Uaa 22] Xam,[(.ret,qS uau []),(.exit 0,qS [sP 1 RI,zaa 2,sP 20 RI,Uaa 21,Uaa 22,Xaa 23] Xam)]⟩]⟩
def wT:Ctr:=⟨82,130,[.agg Uab,shU RI],[],[⟨zab,[.one],[]⟩],ap3 oA⟩
theorem DH:Lk 2 wT:=ls D9 (aC wB aN)
def q7(a0 a1:Int):f_:=some ((decide (a0<=2)),())
def IH:X.Cfg:=⟨E0,[],[],[]⟩
def uZ:Ctr:=⟨117,131,[.agg Xab],[],[⟨zab,[.one],[]⟩],ap2 q7⟩
theorem Ac:Lk 1 uZ:=ls IH aN
def pe(a0 a1:Int):f_:=
(q7 a0 a1).bind λ(x0,_)=>some ((!x0),())
def Bf:X.Cfg:=⟨E0,[uZ],[],[]⟩
def t9:Ctr:=⟨141,132,[.agg Xab],[],[⟨zab,[.one],[]⟩],ap2 pe⟩
theorem Ba:Lk 2 t9:=ls Bf (aC Ac aN)
def iE:T0l->Option (T0l⊕((Int×Unit)⊕T0E)):=λ(v0,v1,v2,_)=>bif(decide (v2<v1))then((gk v2).bind λx0=>
(fW v0 x0).bind λx1=>
(pe x1.1 x1.2).bind λ(x2,_)=>bif x2 then(some (.inr (.inl (v2,()))))else let x3:=w64 (v2+1);some (.inl (v0,v1,x3,())))else some (.inr (.inr (v0,v1,v2,false,())))
def jZ(a0:LDCe):h_:=let x0:=f7 a0.length;
(match gd iE NN (a0,x0,0,())with
|none=>none
|some (.inl (x1,_))=>some (x1,())
|some (.inr (_,_))=>some ((-1),()))
def tw:X.Cfg:=⟨E0,[t9],[],[⟨3,0,(qS (sP 0 gU::(1,.fn 141 [])::il [7,8]) []),[(.ret,qS [Uaa 4] []),(.exit 0,(qS [sP 0 gU,(1,.fn 141 []),Uaa 7,Uaa 8,Xaa 9] []))]⟩]⟩
def nQ:Ctr:=⟨142,133,[shU gU,.fn 141 []],[],[⟨Uac,[.one],[]⟩],ap1 jZ⟩
theorem s7:Lk 3 nQ:=ls tw (aC Ba aN)
def hY(a0:LDCe):f_:=
(jZ a0).bind λ(x0,_)=>some ((decide (x0>=0)),())
def qW:X.Cfg:=⟨E0,[nQ],[],[]⟩
def lK:Ctr:=⟨115,134,[shU gU,.fn 141 []],[],[⟨zab,[.one],[]⟩],ap1 hY⟩
theorem qV:Lk 4 lK:=ls qW (aC s7 aN)
def lU(a0:LDCe)(a1:Int):f_:=let x0:=f7 a0.length;bif(x0==a1)then((hY a0).bind λ(x1,_)=>some ((!x1),()))else some (false,())
def D7:X.Cfg:=⟨E0,[lK],[],[]⟩
def r7:Ctr:=⟨111,135,uL [gU,I64],[],[⟨zab,[.one],[]⟩],ap2 lU⟩
theorem wC:Lk 5 r7:=ls D7 (aC qV aN)
def sT(a0 a1:Int)(a2:Bool)(a3:LDCe):f_:=bif(a1==(-1))then(bif(!a2)then(let x0:Int:=(f7 a3.length);some ((x0==0),()))else some (false,()))else bif(decide (a1>=0))then(bif(decide (a1<128))then(let x0:Int:=(Int.tmod a1 4);bif(x0==a0)then((lU a3 4).bind λ(x1,_)=>some (x1,()))else some (false,()))else some (false,()))else some (false,())
def GJ:X.Cfg:=⟨E0,[r7],[],[]⟩
def yM:Ctr:=⟨112,136,[shU I64,.agg (uL [I64,.bool,gU])],[],[⟨zab,[.one],[]⟩],ap4 sT⟩
theorem FP:Lk 6 yM:=ls GJ (aC wC aN)
def lE:T12->Option (T12⊕((Bool×Unit)⊕T1o)):=λ(v0,v1,v2,v3)=>bif(decide (v2<v1))then((gk v2).bind λx0=>
(fW v0 x0).bind λx1=>
(sT v2 x1.1 x1.2.1 x1.2.2).bind λ(x2,_)=>bif(!x2)then(some (.inr (.inl (false,()))))else let x3:=w64 (v2+1);some (.inl (v0,v1,x3,v3)))else some (.inr (.inr (v0,v1,v2,false,v3)))
def oz(a0:LDCe)(a1:LDLn):f_:=
(lU a0 512).bind λ(x0,_)=>bif(!x0)then(some (false,()))else let x1:=f7 a1.length;bif(x1 != 4)then(some (false,()))else let x2:=f7 a1.length;
(match gd lE NN (a1,x2,0,a0,a1,())with
|none=>none
|some (.inl (x3,_))=>some (x3,())
|some (.inr (_,_))=>some (true,()))
def D8:X.Cfg:=⟨E0,[r7,yM],[],[⟨6,0,qS (sP 16 iI::il [17,18]) yan,[(.ret,qS yau []),(.exit 0,qS [sP 16 iI,Uaa 17,Uaa 18,Xaa 19] yan)]⟩]⟩
def wS:Ctr:=⟨83,137,[.agg zad],[],[⟨zab,[.one],[]⟩],ap2 oz⟩
theorem DG:Lk 7 wS:=ls D8 (aC wC (aC FP aN))
def ie(a0 a1 a2:Int):f_:=bif(decide (a0>=a1))then(some ((decide (a0<=a2)),()))else some (false,())
def Bd:X.Cfg:=⟨E0,[],[],[]⟩
def t7:Ctr:=⟨114,138,Uak,[],[⟨zab,[.one],[]⟩],ap3 ie⟩
theorem A8:Lk 1 t7:=ls Bd aN
def tT(a0 a1:Int):f_:=
(q7 a0 a1).bind λ(x0,_)=>some ((!x0),())
def Bc:X.Cfg:=⟨E0,[uZ],[],[]⟩
def t6:Ctr:=⟨116,139,[.agg Xab],[],[⟨zab,[.one],[]⟩],ap2 tT⟩
theorem A7:Lk 2 t6:=ls Bc (aC Ac aN)
def po:T0l->Option (T0l⊕((Int×Unit)⊕T0E)):=λ(v0,v1,v2,_)=>bif(decide (v2<v1))then((gk v2).bind λx0=>
(fW v0 x0).bind λx1=>
(tT x1.1 x1.2).bind λ(x2,_)=>bif x2 then(some (.inr (.inl (v2,()))))else let x3:=w64 (v2+1);some (.inl (v0,v1,x3,())))else some (.inr (.inr (v0,v1,v2,false,())))
def lQ(a0:LDCe):h_:=let x0:=f7 a0.length;
(match gd po NN (a0,x0,0,())with
|none=>none
|some (.inl (x1,_))=>some (x1,())
|some (.inr (_,_))=>some ((-1),()))
def rX:X.Cfg:=⟨E0,[t6],[],[⟨3,0,(qS (sP 0 gU::(1,.fn 116 [])::il [7,8]) []),[(.ret,qS [Uaa 4] []),(.exit 0,(qS [sP 0 gU,(1,.fn 116 []),Uaa 7,Uaa 8,Xaa 9] []))]⟩]⟩
def l8:Ctr:=⟨142,140,[shU gU,.fn 116 []],[],[⟨Uac,[.one],[]⟩],ap1 lQ⟩
theorem rV:Lk 3 l8:=ls rX (aC A7 aN)
def i3(a0:LDCe):f_:=
(lQ a0).bind λ(x0,_)=>some ((decide (x0>=0)),())
def p5:X.Cfg:=⟨E0,[l8],[],[]⟩
def kR:Ctr:=⟨115,141,[shU gU,.fn 116 []],[],[⟨zab,[.one],[]⟩],ap1 i3⟩
theorem pU:Lk 4 kR:=ls p5 (aC rV aN)
def oo(a0:Int)(a1:LDCe)(a2 a3 a4 a5 a6 a7:Int):f_:=
(ie a0 0 4).bind λ(x0,_)=>bif x0 then(let x1:Int:=(f7 a1.length);bif(x1==8)then((i3 a1).bind λ(x2,_)=>bif(!x2)then((ie a2 0 255).bind λ(x3,_)=>bif x3 then((ie a3 0 1099511627776).bind λ(x4,_)=>bif x4 then((ie a4 (-1) 255).bind λ(x5,_)=>bif x5 then((ie a5 (-1) 255).bind λ(x6,_)=>bif x6 then((ie a6 0 6).bind λ(x7,_)=>some (x7,()))else some (false,()))else some (false,()))else some (false,()))else some (false,()))else some (false,()))else some (false,()))else some (false,())
def DQ:X.Cfg:=⟨E0,[t7,kR],[],[]⟩
def wF:Ctr:=⟨86,142,[.agg yae],[],[⟨zab,[.one],[]⟩],as1 (as2 (as4 ap1)) oo⟩
theorem Du:Lk 5 wF:=ls DQ (aC A8 (aC pU aN))
def rP(a0:Int)(a1:LDCe)(a2 a3 a4 a5 a6 a7:Int):f_:=
(oo a0 a1 a2 a3 a4 a5 a6 a7).bind λ(x0,_)=>some ((!x0),())
def DS:X.Cfg:=⟨E0,[wF],[],[]⟩
def wH:Ctr:=⟨85,143,[.agg yae],[],[⟨zab,[.one],[]⟩],as1 (as2 (as4 ap1)) rP⟩
theorem Dw:Lk 6 wH:=ls DS (aC Du aN)
def ir:T0p->Option (T0p⊕((Int×Unit)⊕(LDTh×T0f))):=λ(v0,v1,v2,_)=>bif(decide (v2<v1))then((gk v2).bind λx0=>
(fW v0 x0).bind λx1=>
(rP x1.1 x1.2.1 x1.2.2.1 x1.2.2.2.1 x1.2.2.2.2.1 x1.2.2.2.2.2.1 x1.2.2.2.2.2.2.1 x1.2.2.2.2.2.2.2).bind λ(x2,_)=>bif x2 then(some (.inr (.inl (v2,()))))else let x3:=w64 (v2+1);some (.inl (v0,v1,x3,())))else some (.inr (.inr (v0,v1,v2,false,())))
def ju(a0:LDTh):h_:=let x0:=f7 a0.length;
(match gd ir NN (a0,x0,0,())with
|none=>none
|some (.inl (x1,_))=>some (x1,())
|some (.inr (_,_))=>some ((-1),()))
def rW:X.Cfg:=⟨E0,[wH],[],[⟨3,0,(qS (sP 0 mO::(1,.fn 85 [])::il [7,8]) []),[(.ret,qS [Uaa 4] []),(.exit 0,(qS [sP 0 mO,(1,.fn 85 []),Uaa 7,Uaa 8,Xaa 9] []))]⟩]⟩
def lZ:Ctr:=⟨113,144,[shU mO,.fn 85 []],[],[⟨Uac,[.one],[]⟩],ap1 ju⟩
theorem rU:Lk 7 lZ:=ls rW (aC Dw aN)
def iZ(a0:LDTh):f_:=
(ju a0).bind λ(x0,_)=>some ((decide (x0>=0)),())
def pZ:X.Cfg:=⟨E0,[lZ],[],[]⟩
def kQ:Ctr:=⟨84,145,[shU mO,.fn 85 []],[],[⟨zab,[.one],[]⟩],ap1 iZ⟩
theorem pT:Lk 8 kQ:=ls pZ (aC rU aN)
def q8(a0:LDIn)(a1:LI)(a2:LLI)(a3:LI)(a4:Int)(a5:LDCe)(a6:LDLn)(a7:LDTh):f_:=
(nB a0 a1 a2).bind λ(x0,_)=>bif(x0==0)then((oA a3 a4 a1).bind λ(x1,_)=>bif x1 then((oz a5 a6).bind λ(x2,_)=>bif x2 then(let x3:Int:=(f7 a7.length);bif(x3==4)then((iZ a7).bind λ(x4,_)=>some ((!x4),()))else some (false,()))else some (false,()))else some (false,()))else some (false,())
def IK:X.Cfg:=⟨E0,[vt,wT,wS,kQ],[],[]⟩
def Ay:Ctr:=⟨52,146,[.agg uab,.agg zac],[],[⟨zab,[.one],[]⟩],as1 (as2 (as4 ap1)) q8⟩
theorem Ih:Lk 9 Ay:=ls IK (aC Cl (aC DH (aC DG (aC pT aN))))
def io(a0 a1 a2:Int):f_:=bif(decide (a0>=a1))then(some ((decide (a0<=a2)),()))else some (false,())
def zH:X.Cfg:=⟨E0,[],[],[]⟩
def sx:Ctr:=⟨101,147,Uak,[],[⟨zab,[.one],[]⟩],ap3 io⟩
theorem zD:Lk 1 sx:=ls zH aN
def kF(a0 a1 a2 a3:Int):f_:=bif(a0==0)then(bif(a2==0)then(some ((a3==0),()))else some (false,()))else bif(a0==2)then(bif(a2==0)then(some ((a3==0),()))else some (false,()))else bif(a0==1)then((bif(a2==(-1))then(bif(decide (a3>=0))then(some ((decide (a3<=65535)),a0,a1,a2,a3,()))else some (false,a0,a1,a2,a3,()))else some (false,a0,a1,a2,a3,()):Option (T0T)).bind λ(x0,_,x2,x3,x4,_)=>bif(x2==0)then(bif x0 then(some (true,()))else bif(decide (x3>=0))then(bif(decide (x3<4))then(bif(decide (x4>=0))then(some ((decide (x4<32)),()))else some (false,()))else some (false,()))else some (false,()))else some (false,()))else some (false,())
def DT:X.Cfg:=⟨E0,[],[],[⟨7,0,qE,[(.normal,qS [zaa 1,Xaa 3] [(4,zag)])]⟩]⟩
def rZ:Ctr:=⟨87,148,[.agg zag],[],[⟨zab,[.one],[]⟩],ap4 kF⟩
theorem wA:Lk 1 rZ:=ls DT aN
def n7(a0 a1 a2 a3:Int):f_:=
(kF a0 a1 a2 a3).bind λ(x0,_)=>some ((!x0),())
def zI:X.Cfg:=⟨E0,[rZ],[],[]⟩
def sy:Ctr:=⟨119,149,[.agg zag],[],[⟨zab,[.one],[]⟩],ap4 n7⟩
theorem zE:Lk 2 sy:=ls zI (aC wA aN)
def i9:T0n->Option (T0n⊕((Int×Unit)⊕T0G)):=λ(v0,v1,v2,_)=>bif(decide (v2<v1))then((gk v2).bind λx0=>
(fW v0 x0).bind λx1=>
(n7 x1.1 x1.2.1 x1.2.2.1 x1.2.2.2).bind λ(x2,_)=>bif x2 then(some (.inr (.inl (v2,()))))else let x3:=w64 (v2+1);some (.inl (v0,v1,x3,())))else some (.inr (.inr (v0,v1,v2,false,())))
def iS(a0:LDCn):h_:=let x0:=f7 a0.length;
(match gd i9 NN (a0,x0,0,())with
|none=>none
|some (.inl (x1,_))=>some (x1,())
|some (.inr (_,_))=>some ((-1),()))
def so:X.Cfg:=⟨E0,[sy],[],[⟨3,0,(qS (sP 0 gp::(1,.fn 119 [])::il [7,8]) []),[(.ret,qS [Uaa 4] []),(.exit 0,(qS [sP 0 gp,(1,.fn 119 []),Uaa 7,Uaa 8,Xaa 9] []))]⟩]⟩
def mM:Ctr:=⟨143,150,[shU gp,.fn 119 []],[],[⟨Uac,[.one],[]⟩],ap1 iS⟩
theorem sm:Lk 3 mM:=ls so (aC zE aN)
def ja(a0:LDCn):f_:=
(iS a0).bind λ(x0,_)=>some ((decide (x0>=0)),())
def qB:X.Cfg:=⟨E0,[mM],[],[]⟩
def lu:Ctr:=⟨118,151,[shU gp,.fn 119 []],[],[⟨zab,[.one],[]⟩],ap1 ja⟩
theorem qA:Lk 4 lu:=ls qB (aC sm aN)
def jD(a0:LDCn)(a1:Int):f_:=let x0:=f7 a0.length;bif(decide (x0<=a1))then((ja a0).bind λ(x1,_)=>some ((!x1),()))else some (false,())
def Cu:X.Cfg:=⟨E0,[lu],[],[]⟩
def qJ:Ctr:=⟨88,152,uL [gp,I64],[],[⟨zab,[.one],[]⟩],ap2 jD⟩
theorem uM:Lk 5 qJ:=ls Cu (aC qA aN)
def mR(a0 a1 a2 a3 a4 a5:Int)(a6 a7:LDCn):f_:=
(io a0 0 3).bind λ(x0,_)=>bif x0 then((io a1 0 3).bind λ(x1,_)=>bif x1 then((io a2 0 6).bind λ(x2,_)=>bif x2 then((io a3 0 1099511627776).bind λ(x3,_)=>bif x3 then((io a4 0 255).bind λ(x4,_)=>bif x4 then((io a5 0 15).bind λ(x5,_)=>bif x5 then((jD a6 3).bind λ(x6,_)=>bif x6 then((jD a7 16).bind λ(x7,_)=>some (x7,()))else some (false,()))else some (false,()))else some (false,()))else some (false,()))else some (false,()))else some (false,()))else some (false,())
def Ct:X.Cfg:=⟨E0,[sx,qJ],[],[]⟩
def u3:Ctr:=⟨65,153,[.agg yac],[],[⟨zab,[.one],[]⟩],as1 (as2 (as4 ap1)) mR⟩
theorem B9:Lk 6 u3:=ls Ct (aC zD (aC uM aN))
def qm(a0:Int):Option (ByteArray×T01):=let x0:ByteArray:=(bytes []);
(bif(a0==0)then(some (a0,true,()))else bif(a0==8)then(some (a0,true,()))else bif(a0==9)then(some (a0,true,()))else bif(a0==11)then(some (a0,true,()))else some (a0,(a0==12),()):Option (T01)).bind λ(x1,x2,_)=>bif x2 then(let x3:ByteArray:=(bytes [78]);some (x3,0,true,()))else bif(x1==1)then(let x3:ByteArray:=(bytes [72,80,78]);some (x3,1,true,()))else bif(x1==2)then(let x3:ByteArray:=(bytes [72,80,78]);some (x3,2,true,()))else bif(x1==3)then(let x3:ByteArray:=(bytes [78,78]);some (x3,0,true,()))else bif(x1==4)then(let x3:ByteArray:=(bytes [72]);some (x3,0,true,()))else bif(x1==5)then(let x3:ByteArray:=(bytes [72,78]);some (x3,0,true,()))else
(bif(x1==6)then(some (x1,true,()))else bif(x1==7)then(some (x1,true,()))else some (x1,(x1==15),()):Option (T01)).bind λ(x3,x4,_)=>bif x4 then(let x5:ByteArray:=(bytes []);some (x5,0,true,()))else bif(x3==10)then(let x5:ByteArray:=(bytes [78,88]);some (x5,0,true,()))else bif(x3==13)then(let x5:ByteArray:=(bytes [78,80,78]);some (x5,1,true,()))else bif(x3==14)then(let x5:ByteArray:=(bytes [78,80,78]);some (x5,2,true,()))else let x5:ByteArray:=(bytes []);some (x5,0,false,())
def Cr:X.Cfg:=⟨E0,[],[],[⟨3,0,qE,[(.normal,qS [Uaa 5,Xaa 6] [])]⟩,⟨19,1,qE,[(.normal,qS [Uaa 5,Xaa 22] [])]⟩]⟩
def qI:Ctr:=⟨102,154,Uac,[],[⟨uL [.str,I64,.bool],[.one,.one,.one],[]⟩],ap1 qm⟩
theorem uK:Lk 1 qI:=ls Cr aN
def mz(a0:Int):h_:=
(qm a0).bind λ(x0,_,x2,_)=>bif(!x2)then(some ((-1),()))else let x3:=BO x0;some (x3,())
def xu:X.Cfg:=⟨E0,[qI],[],[]⟩
def qK:Ctr:=⟨66,155,Uac,[],[⟨Uac,[.one],[]⟩],ap1 mz⟩
theorem xn:Lk 2 qK:=ls xu (aC uK aN)
def oC(a0 a1 a2 a3:Int)(a4:LDCn)(a5:Int)(a6:Bool):f_:=
(kF a0 a1 a2 a3).bind λ(x0,_)=>bif x0 then((jD a4 16).bind λ(x1,_)=>bif x1 then(bif(decide (a5>=(-1)))then(some ((decide (a5<4)),()))else some (false,()))else some (false,()))else some (false,())
def Ec:X.Cfg:=⟨E0,[rZ,qJ],[],[]⟩
def wW:Ctr:=⟨53,156,[.agg Zac],[],[⟨zab,[.one],[]⟩],as2 (as4 ap1) oC⟩
theorem DK:Lk 6 wW:=ls Ec (aC wA (aC uM aN))
def pL(a0:LDIn)(a1:LI)(a2:LLI)(a3:LI)(a4:Int)(a5:LDCe)(a6:LDLn)(a7:LDTh)(a8 a9 eq eE eG eI:Int)(eK eO:LDCn)(eS eX eZ fc:Int)(ff:LDCn)(fi:Int)(fk:Bool):f_:=
(q8 a0 a1 a2 a3 a4 a5 a6 a7).bind λ(x0,_)=>bif x0 then((mR a8 a9 eq eE eG eI eK eO).bind λ(x1,_)=>bif x1 then(bif(a9==1)then(let x2:Int:=(f7 eK.length);
(mz eI).bind λ(x3,_)=>bif(x2==x3)then((oC eS eX eZ fc ff fi fk).bind λ(x4,_)=>bif x4 then((gk a8).bind λx5=>
(fW a7 x5).bind λx6=>some ((x6.1==2),()))else some (false,()))else some (false,()))else some (false,()))else some (false,()))else some (false,())
def GS:X.Cfg:=⟨E0,[Ay,u3,qK,wW],[],[]⟩
def yT:Ctr:=⟨39,157,[.agg uab,.agg zac,.agg yac,.agg Zac],[],[⟨zab,[.one],[]⟩],as2 (as4 (as8 (as8 ap1))) pL⟩
theorem FX:Lk 10 yT:=ls GS (aC Ih (aC B9 (aC xn (aC DK aN))))
def kM(a0:LI):Option (LI×Unit):=bif(gr 8 0 a0.length)then let x0:v_:=(List.append [] a0);some (x0,())else none
def yh:X.Cfg:=⟨E0,[],[],[]⟩
def rJ:Ctr:=⟨103,158,zai,[],[⟨uaf,[.one],[]⟩],ap1 kM⟩
theorem xV:Lk 1 rJ:=ls yh aN
def sU(a0:LI)(a1:Int):Option (T08):=
(kM a0).bind λ(x0,_)=>some (x0,a1,())
def GN:X.Cfg:=⟨E0,[rJ],[],[]⟩
def yQ:Ctr:=⟨67,159,[.agg Uab],[],[⟨uak,[.agg 2],[]⟩],ap2 sU⟩
theorem FU:Lk 2 yQ:=ls GN (aC xV aN)
def ii(a0:LDCe):Option (LDCe×Unit):=bif(gr 4 0 a0.length)then let x0:LDCe:=(List.append [] a0);some (x0,())else none
def xt:X.Cfg:=⟨E0,[],[],[]⟩
def kf:Ctr:=⟨69,160,uL [gU],[],[⟨uL [(uaa KCe)],[.one],[]⟩],ap1 ii⟩
theorem mC:Lk 1 kf:=ls xt aN
def j0(a0:LDLn):Option (LDLn×Unit):=bif(gr 40 0 a0.length)then let x0:LDLn:=(List.append [] a0);some (x0,())else none
def xr:X.Cfg:=⟨E0,[],[(5,SR),(7,SR)],[]⟩
def qH:Ctr:=⟨104,161,uL [iI],[],[⟨uL [(uaa W4)],[.one],[]⟩],ap1 j0⟩
theorem xm:Lk 1 qH:=ls xr aN
def mt:T1I->Option (T1I⊕(Int×Int×Bool×T17)):=λ(v0,v1,v2,v3,v4,v5,v6,_)=>bif(decide (v1<v0))then((gk v1).bind λx0=>
(fW v5 x0).bind λ_=>bif(iX v6 x0 x0)then(fW v5 x0).bind λx2=>
(ii x2.2.2).bind λ(x3,_)=>
(gk v1).bind λx4=>
(fW v5 x4).bind λ_=>
(fW v5 x4).bind λ_=>bif(Nat.beq x4 v6)then let x7:Int:=(w64 (v1+1));some (.inl (v0,x7,v2,v3,v4,(v5.modify x4 λe=>(e.1,(e.2.1,x3))),(Nat.add v6 1),()))else none else none)else some (.inr (v0,v1,false,v2,v3,v4,v5,v6,()))
def pH(a0:LDCe)(a1:LDLn):Option (T06):=
(ii a0).bind λ(x0,_)=>
(j0 a1).bind λ(x1,_)=>let x2:=f7 x1.length;
(gd mt NN (x2,0,(),(),x0,x1,0,())).bind λ(_,_,_,_,_,x8,x9,ac,_)=>bif(Nat.beq ac x9.length)then some (x8,x9,())else none
def GK:X.Cfg:=⟨E0,[kf,qH],[],[(lx 4 0 (zl [2,3]++(14,.pk ⟨8,1,[]⟩ [0,0])::il [15,16]) [(6,uac),(8,[shU (uaa KCe),.half SR () ()])] 17)]⟩
def yN:Ctr:=⟨68,162,[.agg zad],[],[⟨Xad,[.agg 2],[]⟩],ap2 pH⟩
theorem FQ:Lk 2 yN:=ls GK (aC mC (aC xm aN))
def jM:T3h->Option (T3h⊕T3p):=λ(v0,v1,v2,v3,v4,v5,v6,v7,v8,v9,eu,eF,eH,eJ,eM,eQ,eW,eY,_)=>bif(decide (v2<v1))then((gk v2).bind λx0=>
(fW v0 x0).bind λx1=>
(ii x1.2.1).bind λ(x2,_)=>let x3:LDTh:=[(x1.1,(x2,(x1.2.2.1,(x1.2.2.2.1,(x1.2.2.2.2.1,(x1.2.2.2.2.2.1,(x1.2.2.2.2.2.2.1,x1.2.2.2.2.2.2.2)))))))];bif(gr 80 eY.length x3.length)then let x4:LDTh:=(List.append eY x3);let x5:=w64 (v2+1);some (.inl (v0,v1,x5,v3,v4,v5,v6,v7,v8,v9,eu,eF,eH,eJ,eM,eQ,eW,x4,()))else none)else some (.inr (v0,v1,v2,false,v3,v4,v5,v6,v7,v8,v9,eu,eF,eH,eJ,eM,eQ,eW,eY,()))
def kG(a0:LI)(a1:Int)(a2:LDCe)(a3:LDLn)(a4:LDTh):Option (T14):=
(sU a0 a1).bind λ(x0,x1,_)=>
(pH a2 a3).bind λ(x2,x3,_)=>let x4:=f7 a4.length;
(gd jM NN (a4,x4,0,a0,a1,a2,a3,a4,(),0,(),(),(),x0,x1,x2,x3,[],())).bind λ(_,_,_,_,_,_,_,_,_,_,_,_,_,_,an)=>some (an)
def D6:X.Cfg:=⟨E0,[yQ,yN,kf],[(27,SQ),(28,SQ)],[(lx 4 0 (zl [2,3]++sP 14 mO::il [15,16]) [(4,zac),(6,Zab),(8,Xah)] 17)]⟩
def wR:Ctr:=⟨40,163,[.agg zac],[],[⟨Xah,[.agg 5],[]⟩],ap5 kG⟩
theorem DF:Lk 3 wR:=ls D6 (aC FU (aC FQ (aC mC aN)))
def sJ(a0:Int)(a1:LDCe)(a2 a3 a4 a5 a6 a7:Int):Option (T21):=
(ii a1).bind λ(x0,_)=>some (a0,x0,a2,a3,a4,a5,a6,a7,())
def F5:X.Cfg:=⟨E0,[kf],[],[]⟩
def yu:Ctr:=⟨70,164,[.agg yae],[],[⟨uag,[.agg 8],[]⟩],as1 (as2 (as4 ap1)) sJ⟩
theorem Fv:Lk 2 yu:=ls F5 (aC mC aN)
def uo(a0:Int)(a1:LDCe)(a2 a3 a4 a5 a6 a7 a8 a9:Int):Option (T21):=
(sJ a0 a1 a2 a3 a4 a5 a6 a7).bind λ(_,x1,x2,x3,x4,x5,_)=>some (4,x1,x2,x3,x4,x5,a8,a9,())
def IJ:X.Cfg:=⟨E0,[yu],[],[]⟩
def Ax:Ctr:=⟨41,165,[.agg yae,shU I64,shU CW],[],[⟨uag,[.agg 8],[]⟩],as1 (as8 ap1) uo⟩
theorem Ig:Lk 3 Ax:=ls IJ (aC Fv aN)
def mS(a0:LI)(a1 a2:Int):f_:=bif(decide (a1>=0))then(let x0:Int:=(f7 a0.length);bif(decide (a1<x0))then(bif(decide (a2>=0))then((gk a1).bind λx1=>
(fW a0 x1).bind λx2=>some ((decide (a2<x2)),()))else some (false,()))else some (false,()))else some (false,())
def Cv:X.Cfg:=⟨E0,[],[],[]⟩
def qL:Ctr:=⟨105,166,[shU RI,.agg yad],[],[⟨zab,[.one],[]⟩],ap3 mS⟩
theorem uN:Lk 1 qL:=ls Cv aN
def qu(a0:LI)(a1 a2 a3 a4:Int):f_:=bif(a1==0)then(bif(a3==0)then(some ((a4==0),()))else some (false,()))else bif(a1==2)then(bif(a3==0)then(some ((a4==0),()))else some (false,()))else bif(a1==1)then(bif(a2==0)then((mS a0 a3 a4).bind λ(x0,_)=>some (x0,()))else some (false,()))else some (false,())
def CH:X.Cfg:=⟨E0,[qL],[],[]⟩
def vv:Ctr:=⟨71,167,[shU RI,.agg zag],[],[⟨zab,[.one],[]⟩],ap5 qu⟩
theorem Cm:Lk 2 vv:=ls CH (aC uN aN)
def pf(a0:LI)(a1:Int)(a2:LI)(a3 a4:Int):Option (T02):=
(mS a2 a3 a4).bind λ(x0,_)=>bif(!x0)then(some (0,6,()))else let x1:=f7 a0.length;bif(decide (a3>=x1))then(some (0,6,()))else
(gk a3).bind λx2=>
(fW a0 x2).bind λx3=>let x4:=w64 (x3+a4);some (x4,0,())
def Bg:X.Cfg:=⟨E0,[qL],[],[]⟩
def ua:Ctr:=⟨72,168,[.agg Uab,shU RI,.agg yad],[],[⟨yad,[.one,.one],[]⟩],ap5 pf⟩
theorem Bb:Lk 2 ua:=ls Bg (aC uN aN)
def jo(a0:LI)(a1:Int)(a2:LI)(a3 a4 a5 a6:Int):Option (T0g):=
(qu a2 a3 a4 a5 a6).bind λ(x0,_)=>bif(!x0)then(some (0,0,1,()))else
(match(bif(a3==2)then(let x1:Int:=(wk .u16 (a4+a1));some (.inl (0,0,a3,x1,())))else bif(a3==1)then((pf a0 a1 a2 a5 a6).bind λ(x1,x2,_)=>bif(x2 != 0)then(some (.inr (1,0,0,())))else let x3:=wk .u16 x1;some (.inl (0,0,a3,x3,())))else some (.inl (0,0,a3,a4,())):Option (T0z⊕T0g))with
|none=>none
|some (.inl (_,_,x3,x4,_))=>some (x3,x4,0,())
|some (.inr (x1,x2,x3,_))=>some (x2,x3,x1,()))
def Jp:X.Cfg:=⟨E0,[vv,ua],[],[⟨5,0,qE,[(.normal,qS (zl [6,8]) [(14,Xab),(18,Xab)]),(.ret,qS Xav [(14,Xab)])]⟩]⟩
def rM:Ctr:=⟨42,169,[.agg Uab,shU RI,.agg zag],[],[⟨Uai,[.agg 2,.one],[]⟩],as2 (as4 ap1) jo⟩
theorem uQ:Lk 3 rM:=ls Jp (aC Cm (aC Bb aN))
def o8(a0:Int):h_:=
(qm a0).bind λ(_,x1,x2,_)=>bif(!x2)then(some ((-1),()))else some (x1,())
def Be:X.Cfg:=⟨E0,[qI],[],[]⟩
def t8:Ctr:=⟨73,170,Uac,[],[⟨Uac,[.one],[]⟩],ap1 o8⟩
theorem A9:Lk 2 t8:=ls Be (aC uK aN)
def oU(a0:Int)(a1:LDCe)(a2:LDLn):Option (T0m):=
(gk a0).bind λx0=>
(fW a2 x0).bind λ_=>
(fW a2 x0).bind λx2=>
(fW a2 x0).bind λx3=>
(bif x2.2.1 then(bif(decide (x2.1>=0))then(let x4:Int:=(w64 (x2.1+1));let x5:=w64 (x4*4);let x6:=f7 a1.length;some ((decide (x5<=x6)),a1,a2,x0,x2.1,x2.2.1,x3.2.2,()))else some (false,a1,a2,x0,x2.1,x2.2.1,x3.2.2,()))else some (false,a1,a2,x0,x2.1,x2.2.1,x3.2.2,()):Option (Bool×LDCe×LDLn×Nat×Int×Bool×LDCe×Unit)).bind λ(x4,x5,x6,x7,x8,_,ac,_)=>bif x4 then(let ae:Int:=(w64 (x8*4));
(gk ae).bind λaf=>bif(iX af x5.length x5.length)then bif(iX af (Nat.add af (Nat.min ac.length (Nat.sub x5.length af))) x5.length)then bif(Nat.blt 0 (Nat.min ac.length (Nat.sub x5.length af)))then(let ag:LDCe:=(qv x5 af (Nat.min ac.length (Nat.sub x5.length af)) ac);let ah:=(f7 (Nat.min ac.length (Nat.sub x5.length af)));some (ag,x6,x7,()))else let ag:=(f7 (Nat.min ac.length (Nat.sub x5.length af)));some (x5,x6,x7,())else none else none)else some (x5,x6,x7,())
def Jo:X.Cfg:=⟨E0,[],[],[⟨1,0,qE,[(.normal,(qS [zaa 0,zaa 4,Xaa 30] [(2,[shU (uaa KCe),.gap SR () () 2]),(10,uL [I64,.bool,(uaa KCe)])]))]⟩]⟩
def AT:Ctr:=⟨137,171,[.ptr ⟨2,0,[]⟩ [0],shU I64],[(2,Xad)],[⟨[],[],[(2,[shU (uaa KCe),.gap SR () () 2])]⟩],ap3 oU⟩
theorem IC:Lk 1 AT:=ls Jo aN
def pJ(a0:Int)(a1:LDCe)(a2:LDLn):Option (T0w⊕(Nat×T0w)):=
(bif(decide (a0<0))then(some (a0,true,a1,a2,()))else bif(decide (a0>=512))then(some (a0,true,a1,a2,()))else let x0:=f7 a1.length;bif(x0 != 512)then(some (a0,true,a1,a2,()))else let x1:=f7 a2.length;some (a0,(x1 != 4),a1,a2,()):Option (T0w)).bind λ(x0,x1,x2,x3,_)=>bif x1 then(some (.inl (0,false,x2,x3,())))else let x4:=w64 (Int.tdiv x0 4);let x5:=Int.tmod x4 4;
((gk x5).bind λx6=>
(fW x3 x6).bind λ_=>
(fW x3 x6).bind λx8=>bif(x8.1 != x4)then((oU x5 x2 x3).bind λ(x9,ac,ae,_)=>let af:=w64 (x4*4);let ag:=w64 (x4+1);let ah:=w64 (ag*4);
(gk af).bind λai=>
(gk ah).bind λaj=>bif(iX ai aj x9.length)then bif(gr 4 0 (List.length (nV x9 ai (Nat.sub aj ai))))then let ak:LDCe:=(List.append [] (nV x9 ai (Nat.sub aj ai)));
(gk x5).bind λam=>
(fW ac am).bind λ_=>
(fW ac am).bind λ_=>bif(Nat.beq am ae)then let aq:LDLn:=(ac.modify am λe=>(x4,(false,ak)));some (x0,x5,x9,aq,())else none else none else none)else
(gk x5).bind λx9=>
(fW x3 x9).bind λ_=>
(fW x3 x9).bind λ_=>
(fW x3 x9).bind λaf=>let ag:=f7 af.2.2.length;bif(ag != 4)then((oU x5 x2 x3).bind λ(ah,ai,aj,_)=>let ak:=w64 (x4*4);let am:=w64 (x4+1);let an:=w64 (am*4);
(gk ak).bind λap=>
(gk an).bind λaq=>bif(iX ap aq ah.length)then bif(gr 4 0 (List.length (nV ah ap (Nat.sub aq ap))))then let av:LDCe:=(List.append [] (nV ah ap (Nat.sub aq ap)));
(gk x5).bind λax=>
(fW ai ax).bind λ_=>
(fW ai ax).bind λ_=>bif(Nat.beq ax aj)then let aA:LDLn:=(ai.modify ax λe=>(x4,(false,av)));some (x0,x5,ah,aA,())else none else none else none)else some (x0,x5,x2,x3,()):Option (T0A)).bind λ(x6,x7,x8,x9,_)=>
(gk x7).bind λac=>
(fW x9 ac).bind λ_=>let af:=Int.tmod x6 4;some (.inr (ac,af,true,x8,x9,()))
def GM:X.Cfg:=⟨E0,[AT],[],[⟨2,0,qE,[(.normal,qS [zaa 0,Uaa 1,Xaa 30] [(2,Xad)])]⟩,⟨6,1,qE,[(.normal,qS (zaa 0::il [1,8]) [(2,Xad)])]⟩]⟩
def yP:Ctr:=⟨106,172,[.ptr ⟨2,0,[]⟩ [0],shU I64],[(2,Xad)],[⟨[.k (.pointer none),shU I64,shU .bool],[.one,.one,.one],[(2,Xad)]⟩,⟨[.ptr ⟨2,1,[((),(3,0))]⟩ [0,0],shU I64,shU .bool],[.ptr,.one,.one],[(2,Xad)]⟩],ap3 pJ⟩
theorem FT:Lk 2 yP:=ls GM (aC IC aN)
def pI(a0 a1 a2:Int)(a3:LDCe)(a4:LDLn):Option (T0e):=
(match pJ a0 a3 a4 with
|none=>none
|some (.inl (_,x1,x2,x3,_))=>
(bif x1 then(none)else some (x1,x2,x3,()):Option (T0e)).bind λ(x4,x5,x6,_)=>some (x4,x5,x6,())
|some (.inr (x0,x1,x2,x3,x4,_))=>
(bif x2 then((fW x4 x0).bind λ_=>
(gk x1).bind λx6=>
(fW x4 x0).bind λx7=>
(fW x7.2.2 x6).bind λ_=>
(fW x4 x0).bind λx9=>
(fW x9.2.2 x6).bind λ_=>let ae:=x4.modify x0 λe=>(e.1,(e.2.1,(e.2.2.modify x6 λe=>(a1,a2))));
(fW ae x0).bind λ_=>let ag:=ae.modify x0 λe=>(e.1,(true,e.2.2));some (x2,x3,ag,()))else some (x2,x3,x4,()):Option (T0e)).bind λ(x5,x6,x7,_)=>some (x5,x6,x7,()))
def GL:X.Cfg:=⟨E0,[yP],[],[⟨2,0,qE,[(.normal,qS [zaa 0,Xaa 9] [(2,Xad)])]⟩]⟩
def yO:Ctr:=⟨74,173,[.ptr ⟨2,0,[]⟩ [0],shU I64,.agg Xab],[(2,Xad)],[⟨zab,[.one],[(2,Xad)]⟩],ap5 pI⟩
theorem FR:Lk 3 yO:=ls GL (aC FT aN)
def ph:T3J->Option (T3J⊕((Bool×LI×T0i)⊕(LDCn×Int×Int×Bool×T3C))):=λ(v0,v1,v2,v3,v4,v5,v6,v7,v8,v9,eu,eF,eH,eJ,eM,eQ,eW,eY,fa,fe,fh,fj,fm,fr,fv,_)=>bif(decide (v2<v1))then((gk v2).bind λx0=>
(fW v0 x0).bind λx1=>
(fW eW 1).bind λx2=>let x3:=w64 (x2.2.2.2+v2);
(jo v3 v4 v8 x2.1 x2.2.1 x2.2.2.1 x3).bind λ(x4,x5,x6,_)=>
(jo v3 v4 v8 x1.1 x1.2.1 x1.2.2.1 x1.2.2.2).bind λ(x7,x8,x9,_)=>
(bif(x2.1 != 1)then(some (v0,v1,v2,true,v3,v4,v5,v6,v7,v8,v9,eu,eF,eH,eJ,eM,eQ,eW,eY,fa,fe,fh,fj,fm,fr,fv,x4,x5,x7,x8,()))else bif(x6 != 0)then(some (v0,v1,v2,true,v3,v4,v5,v6,v7,v8,v9,eu,eF,eH,eJ,eM,eQ,eW,eY,fa,fe,fh,fj,fm,fr,fv,x4,x5,x7,x8,()))else some (v0,v1,v2,(x9 != 0),v3,v4,v5,v6,v7,v8,v9,eu,eF,eH,eJ,eM,eQ,eW,eY,fa,fe,fh,fj,fm,fr,fv,x4,x5,x7,x8,()):Option (LDCn×Int×Int×Bool×LI×Int×LDCe×LDLn×T3B)).bind λ(ac,ae,af,ag,ah,ai,aj,ak,am,an,ap,aq,av,ax,ay,az,aA,aB,aD,aE,aF,aG,aH,aI,aJ,aK,_,aM,aO,aP,_)=>bif ag then(some (.inr (.inl (false,ah,ai,aj,ak,()))))else let aQ:=wk .i64 aM;
(pI aQ aO aP aj ak).bind λ(_,aS,aT,_)=>let aU:=w64 (af+1);some (.inl (ac,ae,aU,ah,ai,aS,aT,am,an,ap,aq,av,ax,ay,az,aA,aB,aD,aE,aF,aG,aH,aI,aJ,aK,())))else some (.inr (.inr (v0,v1,v2,false,v3,v4,v5,v6,v7,v8,v9,eu,eF,eH,eJ,eM,eQ,eW,eY,fa,fe,fh,fj,fm,fr,fv,())))
def pM(a0:LDIn)(a1:LI)(a2:LLI)(a3 a4 a5 a6 a7 a8:Int)(a9 eq:LDCn)(eE eG eI eK:Int)(eO:LDCn)(eS:Int)(eX:Bool)(eZ:LI)(fc:Int)(ff:LDCe)(fi:LDLn):Option (Bool×LI×T0i):=
(o8 a8).bind λ(x0,_)=>bif(x0 != 2)then(some (true,eZ,fc,ff,fi,()))else let x1:=f7 eO.length;
(match gd ph NN (eO,x1,0,eZ,fc,ff,fi,a0,a1,a2,a3,a4,a5,a6,a7,a8,a9,eq,eE,eG,eI,eK,eO,eS,eX,())with
|none=>none
|some (.inl (x2,x3,x4,x5,x6,_))=>some (x2,x3,x4,x5,x6,())
|some (.inr (_,_,_,_,x6,x7,x8,x9,_))=>some (true,x6,x7,x8,x9,()))
def GT:X.Cfg:=⟨E0,[t8,rM,yO],[],[⟨16,0,qE,[(.normal,qS (zl [1,4,6,12,14]++sP 21 gp::il [22,23]++[Xaa 69]) [(4,yai),(10,uab),(14,yac),(16,Zac),(26,Xab),(30,Xab)])]⟩,⟨6,1,qS (zl [1,4,6]++sP 21 gp::il [22,23]) Zat,[(.ret,qS uav [(4,yai)]),(.exit 0,qS (zl [1,4,6]++sP 21 gp::il [22,23]++[Xaa 24]) Zat)]⟩]⟩
def yU:Ctr:=⟨43,174,[.agg uab,.ptr ⟨4,0,[]⟩ [0],.agg yac,.agg Zac],[(4,yai)],[⟨zab,[.one],[(4,yai)]⟩],as1 (as4 (as8 (as8 ap1))) pM⟩
theorem FY:Lk 4 yU:=ls GT (aC A9 (aC uQ (aC FR aN)))
def wu:Option (T21):=bif(xT 8 8 2)then let x0:LDCe:=(List.replicate 8 (0,0));some (0,x0,0,0,(-1),(-1),0,0,())else none
def Ed:X.Cfg:=⟨E0,[],[],[]⟩
def wX:Ctr:=⟨138,175,[],[],[⟨uag,[.agg 8],[]⟩],λh=>wu⟩
theorem DL:Lk 1 wX:=ls Ed aN
def wn:Option (T21):=
(wu).bind λ(x0)=>some (x0)
def DR:X.Cfg:=⟨E0,[wX],[],[]⟩
def wG:Ctr:=⟨107,176,[],[],[⟨uag,[.agg 8],[]⟩],λh=>wn⟩
theorem Dv:Lk 2 wG:=ls DR (aC DL aN)
def um(a0 a1 a2:Int):Option (T21):=
(wn).bind λ(_,x1,_,x3)=>
(fW x1 0).bind λ_=>
(fW x1 0).bind λ_=>let ac:=x1.modify 0 λe=>(a1,a2);some (1,ac,a0,x3)
def II:X.Cfg:=⟨E0,[wG],[],[]⟩
def Aw:Ctr:=⟨75,177,[shU I64,.agg Xab],[],[⟨uag,[.agg 8],[]⟩],ap3 um⟩
theorem If:Lk 3 Aw:=ls II (aC Dv aN)
def oB(a0:LDIn)(a1:LI)(a2:LLI)(a3 a4 a5 a6 a7 a8:Int)(a9 eq:LDCn)(eE eG eI eK:Int)(eO:LDCn)(eS:Int)(eX:Bool)(eZ:LI)(fc:Int)(ff:LDCe)(fi:LDLn)(fk:LDTh):Option (T1a):=bif(a8==10)then((match(bif(!(eS != (-1)))then(bif(a8 != 12)then(some (.inl (true,eZ,fc,ff,fi,fk,())))else some (.inr ((eS != (-1)),false,eZ,fc,ff,fi,fk,a0,a1,a2,a3,a4,a5,a6,a7,a8,a9,eq,eE,eG,eI,eK,eO,eS,eX,())))else some (.inr ((eS != (-1)),false,eZ,fc,ff,fi,fk,a0,a1,a2,a3,a4,a5,a6,a7,a8,a9,eq,eE,eG,eI,eK,eO,eS,eX,())):Option (T1a⊕T3H))with
|none=>none
|some (.inl (x0,x1,x2,x3,x4,x5,_))=>some (x0,x1,x2,x3,x4,x5,())
|some (.inr (x0,_,x2,x3,x4,x5,x6,_,x8,_,ac,_,_,_,_,_,aj,_,_,_,_,_,_,ax,_,_))=>
(fW aj 0).bind λaz=>bif(az.1 != 0)then(some (false,x2,x3,x4,x5,x6,()))else bif(decide (az.2.1>255))then(some (false,x2,x3,x4,x5,x6,()))else bif(!x0)then(let aA:Int:=(wk .i64 az.2.1);
(gk ac).bind λaB=>
(fW x6 aB).bind λ_=>
(fW x6 aB).bind λ_=>let aF:=x6.modify aB λe=>(e.1,(e.2.1,(e.2.2.1,(e.2.2.2.1,(aA,e.2.2.2.2.2)))));some (true,x2,x3,x4,x5,aF,()))else
(fW aj 1).bind λaA=>
(jo x2 x3 x8 aA.1 aA.2.1 aA.2.2.1 aA.2.2.2).bind λ(aB,aD,aE,_)=>bif(aE != 0)then(some (false,x2,x3,x4,x5,x6,()))else
(gk ax).bind λaF=>
(fW x6 aF).bind λ_=>
(fW x6 aF).bind λaH=>bif(aH.1 != 0)then(some (false,x2,x3,x4,x5,x6,()))else let aI:=wk .i64 az.2.1;
(um aI aB aD).bind λ(aJ,aK,aL,aM,aO,aP,aQ,aR,_)=>
(gk ax).bind λaS=>
(fW x6 aS).bind λ_=>
(fW x6 aS).bind λ_=>let aV:=x6.modify aS λe=>(aJ,(aK,(aL,(aM,(aO,(aP,(aQ,aR)))))));some (true,x2,x3,x4,x5,aV,())))else
(match(bif(a8 != 12)then(some (.inl (true,eZ,fc,ff,fi,fk,())))else some (.inr (false,false,eZ,fc,ff,fi,fk,a0,a1,a2,a3,a4,a5,a6,a7,a8,a9,eq,eE,eG,eI,eK,eO,eS,eX,())):Option (T1a⊕T3H))with
|none=>none
|some (.inl (x0,x1,x2,x3,x4,x5,_))=>some (x0,x1,x2,x3,x4,x5,())
|some (.inr (x0,_,x2,x3,x4,x5,x6,_,x8,_,ac,_,_,_,_,_,aj,_,_,_,_,_,_,ax,_,_))=>
(fW aj 0).bind λaz=>bif(az.1 != 0)then(some (false,x2,x3,x4,x5,x6,()))else bif(decide (az.2.1>255))then(some (false,x2,x3,x4,x5,x6,()))else bif(!x0)then(let aA:Int:=(wk .i64 az.2.1);
(gk ac).bind λaB=>
(fW x6 aB).bind λ_=>
(fW x6 aB).bind λ_=>let aF:=x6.modify aB λe=>(e.1,(e.2.1,(e.2.2.1,(e.2.2.2.1,(aA,e.2.2.2.2.2)))));some (true,x2,x3,x4,x5,aF,()))else
(fW aj 1).bind λaA=>
(jo x2 x3 x8 aA.1 aA.2.1 aA.2.2.1 aA.2.2.2).bind λ(aB,aD,aE,_)=>bif(aE != 0)then(some (false,x2,x3,x4,x5,x6,()))else
(gk ax).bind λaF=>
(fW x6 aF).bind λ_=>
(fW x6 aF).bind λaH=>bif(aH.1 != 0)then(some (false,x2,x3,x4,x5,x6,()))else let aI:=wk .i64 az.2.1;
(um aI aB aD).bind λ(aJ,aK,aL,aM,aO,aP,aQ,aR,_)=>
(gk ax).bind λaS=>
(fW x6 aS).bind λ_=>
(fW x6 aS).bind λ_=>let aV:=x6.modify aS λe=>(aJ,(aK,(aL,(aM,(aO,(aP,(aQ,aR)))))));some (true,x2,x3,x4,x5,aV,()))
def Eb:X.Cfg:=⟨E0,[rM,Aw],[],[⟨2,0,qE,[(.ret,⟨[zaa 1,Xaa 8],[(4,Xah)],[((4,(5,0)),1),((4,(4,1)),0),((4,(0,0)),0)],([],[])⟩),(.normal,⟨[zaa 1,zaa 4,zaa 6,zaa 7,Xaa 9,Xaa 27],[(4,Xah),(10,uab),(14,yac),(16,Zac)],[((4,(5,0)),1),((4,(4,1)),0),((4,(0,0)),0)],([],[])⟩)]⟩]⟩
def wV:Ctr:=⟨44,178,[.agg uab,.ptr ⟨4,0,[]⟩ [0],.agg yac,.agg Zac],[(4,Xah)],[⟨zab,[.one],[(4,Xah),(4,[.dead,.dead,.dead,.dead,.dead])]⟩],as2 (as4 (as8 (as8 ap1))) oB⟩
theorem DJ:Lk 4 wV:=ls Eb (aC uQ (aC If aN))
def jV(a0:LDIn)(a1:LI)(a2:LLI)(a3:LI)(a4:Int)(a5:LDCe)(a6:LDLn)(a7:LDTh)(a8 a9 eq eE eG eI:Int)(eK eO:LDCn)(eS eX eZ fc:Int)(ff:LDCn)(fi:Int)(fk:Bool):Option (T1q):=
(pL a0 a1 a2 a3 a4 a5 a6 a7 a8 a9 eq eE eG eI eK eO eS eX eZ fc ff fi fk).bind λ(x0,_)=>bif(!x0)then((kG a3 a4 a5 a6 a7).bind λ(x1,x2,x3,x4,x5,_)=>some (x1,x2,x3,x4,x5,false,()))else
(kG a3 a4 a5 a6 a7).bind λ(x1,x2,x3,x4,x5,_)=>
(gk a8).bind λx6=>
(fW x5 x6).bind λ_=>bif(eI==0)then((fW x5 x6).bind λx8=>
(fW eK 0).bind λx9=>
(fW x5 x6).bind λac=>
(uo x8.1 ac.2.1 x8.2.2.1 x8.2.2.2.1 x8.2.2.2.2.1 x8.2.2.2.2.2.1 x8.2.2.2.2.2.2.1 x8.2.2.2.2.2.2.2 0 x9.2.1).bind λ(ae,af,ag,ah,ai,aj,ak,am,_)=>
(fW x5 x6).bind λ_=>let ap:=x5.modify x6 λe=>(ae,(af,(ag,(ah,(ai,(aj,(ak,am)))))));some (x1,x2,x3,x4,ap,true,()))else bif fk then((fW x5 x6).bind λ_=>let x9:=x5.modify x6 λe=>(3,e.2);some (x1,x2,x3,x4,x9,true,()))else
(jo a3 a4 a1 eS eX eZ fc).bind λ(x8,x9,ac,_)=>
(bif(ac != 0)then(some (x6,true,a3,a4,a5,a6,a7,a8,a9,eq,eE,eG,eI,eK,eO,(),0,(),(),(),x1,x2,x3,x4,x5,x8,x9,()))else
(pM a0 a1 a2 a8 a9 eq eE eG eI eK eO eS eX eZ fc ff fi fk x1 x2 x3 x4).bind λ(ae,af,ag,ah,ai,_)=>bif(!ae)then(some (x6,true,a3,a4,a5,a6,a7,a8,a9,eq,eE,eG,eI,eK,eO,(),0,(),(),(),af,ag,ah,ai,x5,x8,x9,()))else
(oB a0 a1 a2 a8 a9 eq eE eG eI eK eO eS eX eZ fc ff fi fk af ag ah ai x5).bind λ(aj,ak,am,an,ap,aq,_)=>
(fW aq x6).bind λ_=>some (x6,(!aj),a3,a4,a5,a6,a7,a8,a9,eq,eE,eG,eI,eK,eO,(),0,(),(),(),ak,am,an,ap,aq,x8,x9,()):Option (Nat×Bool×LI×Int×LDCe×LDLn×LDTh×Int×Int×Int×Int×Int×Int×LDCn×LDCn×Unit×Int×Unit×Unit×Unit×T1O)).bind λ(ae,af,ag,ah,ai,aj,ak,_,_,_,_,_,_,_,_,_,_,_,_,_,aG,aH,aI,aJ,aK,aL,aM,_)=>bif af then((kG ag ah ai aj ak).bind λ(aO,aP,aQ,aR,aS,_)=>some (aO,aP,aQ,aR,aS,false,()))else
(fW aK ae).bind λ_=>
(fW aK ae).bind λaP=>
(fW aP.2.1 0).bind λ_=>
(fW aK ae).bind λaR=>
(fW aR.2.1 0).bind λ_=>let aT:=aK.modify ae λe=>(e.1,((e.2.1.modify 0 λe=>(aL,aM)),e.2.2));
(fW aT ae).bind λ_=>let aV:=aT.modify ae λe=>(1,e.2);some (aG,aH,aI,aJ,aV,true,())
def Jr:X.Cfg:=⟨E0,[yT,wR,Ax,rM,yU,wV],[],[⟨15,0,qE,[(.normal,(qS (zl [5,8,10]++[(11,.ptr ⟨22,4,[((),(8,0))]⟩ [0,0]),zaa 12,Xaa 77]) [(12,zac),(14,yac),(18,Zab),(22,Xah),(26,Xab)]))]⟩]⟩
def vz:Ctr:=⟨16,179,[.agg uab,.agg zac,.agg yac,.agg Zac],[],[⟨uL [(uaa I64),CW,(uaa KCe),iG,mO,.bool],[.agg 5,.one],[]⟩],as2 (as4 (as8 (as8 ap1))) jV⟩
theorem An:Lk 11 vz:=ls Jr (aC FX (aC DF (aC Ig (aC uQ (aC FY (aC DJ aN))))))
def iz:f_:=let x0:LDIn:=[(23,(0,(0,(0,2))))];
(nj x0 [4] [[]] [3] 0).bind λ(x1,x2,x3,x4,x5,_,_)=>
(fW x5 0).bind λ_=>
(fW x5 0).bind λ_=>let x9:=x5.modify 0 λe=>(2,e.2);let ac:LDCn:=[(2,(0,(0,0))),(1,(0,(0,1))),(0,(2,(0,0)))];let ae:LDCn:=[(0,(8,(0,0))),(0,(9,(0,0)))];
(jV x0 [4] [[]] x1 x2 x3 x4 x9 0 1 0 0 0 2 ac [] 0 2 0 0 ae (-1) false).bind λ(af,ag,ah,ai,aj,ak,_)=>bif(!ak)then(some (false,()))else let am:=f7 aj.length;bif(am != 4)then(some (false,()))else
(iK x0 [4] [[]] af ag ah ai aj).bind λ(an,ap,_)=>
(fW an 0).bind λ_=>
(fW an 0).bind λ_=>
(fW an 0).bind λax=>
(fW ax 1).bind λ_=>
(fW an 0).bind λaz=>
(fW az 1).bind λaA=>bif(aA.2.1==8)then((fW an 0).bind λ_=>
(fW an 0).bind λ_=>
(fW an 0).bind λaE=>
(fW aE 2).bind λ_=>
(fW an 0).bind λaG=>
(fW aG 2).bind λaH=>bif(aH.2.1==9)then((fW ap 0).bind λ_=>
(fW ap 0).bind λ_=>
(fW ap 0).bind λaK=>
(fW aK.2.2.2.2.2.2.2 0).bind λ_=>
(fW ap 0).bind λaM=>
(fW aM.2.2.2.2.2.2.2 0).bind λaO=>bif(aO.2.1==2)then((fW ap 0).bind λ_=>
(fW ap 0).bind λaQ=>some ((aQ.1==1),()))else some (false,()))else some (false,()))else some (false,())
def GO:X.Cfg:=⟨E0,[tG,vz,p8],[(11,(uaa CW))],[]⟩
def yR:Ctr:=⟨15,180,[],[],[⟨zab,[.one],[]⟩],λh=>iz⟩
theorem FV:Lk 12 yR:=ls GO (aC xZ (aC An (aC s9 aN)))
def uy:T4k->Option (T4k⊕((Bool×Unit)⊕(Int×Bool×T4h))):=λ(v0,v1,v2,v3,v4,v5,v6,v7,v8,v9,eu,eF,eH,eJ,eM,eQ,eW,eY,fa,fe,fh,fj,fm,fr,fv,fA,fB,fC,fD,fE,fF,fG,fH,fI,fJ)=>bif(decide (v0<8))then((gk v0).bind λx0=>
(fW fA x0).bind λx1=>
(gk v0).bind λx2=>
(fW fI x2).bind λx3=>bif(!((x1.1==x3.1)&&((x1.2==x3.2)&&true)))then(some (.inr (.inl (false,()))))else let x4:=w64 (v0+1);some (.inl (x4,v1,v2,v3,v4,v5,v6,v7,v8,v9,eu,eF,eH,eJ,eM,eQ,eW,eY,fa,fe,fh,fj,fm,fr,fv,fA,fB,fC,fD,fE,fF,fG,fH,fI,fJ)))else some (.inr (.inr (v0,false,v1,v2,v3,v4,v5,v6,v7,v8,v9,eu,eF,eH,eJ,eM,eQ,eW,eY,fa,fe,fh,fj,fm,fr,fv,fA,fB,fC,fD,fE,fF,fG,fH,fI,fJ)))
def Lu(a0:LI):f_:=
(jN a0 0).bind λ(x0,x1,x2,x3,x4,x5,x6,x7,x8,x9,ac,ae,af,ag,ah,ai,aj,ak,am,an,ap,aq,av,_)=>
(jV x0 x1 x2 x3 x4 x5 x6 x7 x8 x9 ac ae af ag ah ai aj ak am an ap aq av).bind λ(az,aA,aB,aD,aE,aF,_)=>bif(!aF)then((iz).bind λ(aG,_)=>some (aG,()))else
(iL x0 x1 x2 az aA aB aD aE).bind λ(aG,_)=>bif(!aG)then(some (false,()))else
(gk x8).bind λaH=>
(fW x7 aH).bind λaI=>
(gk x8).bind λaJ=>
(fW aE aJ).bind λaK=>
(match gd uy NN (1,x0,x1,x2,x8,x9,ac,ae,af,ag,ah,ai,aj,ak,am,an,ap,aq,av,az,aA,aB,aD,aE,aI.1,aI.2.1,aI.2.2.1,aI.2.2.2.1,aI.2.2.2.2.1,aI.2.2.2.2.2.1,aI.2.2.2.2.2.2.1,aI.2.2.2.2.2.2.2,aK.1,aK.2.1,aK.2.2.1,aK.2.2.2.1,aK.2.2.2.2.1,aK.2.2.2.2.2.1,aK.2.2.2.2.2.2.1,aK.2.2.2.2.2.2.2,())with
|none=>none
|some (.inl (aL,_))=>some (aL,())
|some (.inr (_,_,_,aP,_,_,_,_,_,_,aW,_,_,ba,bc,bd,be,_,_,bh,bi,bj,_,_,_,_,bp,bq,bt,_,_,_,_,bC,bD,bE,bF,_))=>bif(aW==0)then((fW bp 0).bind λbK=>
(fW bD 0).bind λbL=>bif((bK.1==bL.1)&&((bK.2==bL.2)&&true))then(bif(bC != 1)then(bif(bq==bE)then((iz).bind λ(bM,_)=>some (bM,()))else some (false,()))else some (false,()))else some (false,()))else bif bh then((fW bp 0).bind λbK=>
(fW bD 0).bind λbL=>bif((bK.1==bL.1)&&((bK.2==bL.2)&&true))then(bif(bC != 1)then(bif(bq==bE)then((iz).bind λ(bM,_)=>some (bM,()))else some (false,()))else some (false,()))else some (false,()))else bif(bC==1)then((fW bD 0).bind λbK=>
(jn bi bj aP bK.1 bK.2).bind λ(bL,bM,bN,bO,_)=>let bP:Bool:=((bL==ba)&&((bM==bc)&&((bN==bd)&&((bO==be)&&true))));bif bP then(bif(bq==bE)then(bif(bt==bF)then((iz).bind λ(bQ,_)=>some (bQ,()))else some (false,()))else some (false,()))else some (false,()))else some (false,()))
def Tt(a0 a1:Int):h_:=bif(a1 != 0)then let x0:Int:=(Int.tmod a0 a1);
(bif(decide (x0<0))then(let x1:Int:=(w64 (x0+a1));some (x1,()))else some (x0,()):h_).bind λ(x1,_)=>some (x1,())else none
def nw:Int×Int×T0L->Option ((Int×Int×T0L)⊕((Bool×Unit)⊕(Int×Int×Bool×T0L))):=λ(v0,v1,v2,v3,v4,v5,_)=>bif(decide (v1<v0))then((gk v1).bind λx0=>
(fW v2 x0).bind λx1=>
(gk v1).bind λx2=>
(fW v4 x2).bind λx3=>bif(x1 != x3)then(some (.inr (.inl (false,()))))else let x4:=w64 (v1+1);some (.inl (v0,x4,v2,v3,v4,v5,())))else some (.inr (.inr (v0,v1,false,v2,v3,v4,v5,())))
def rx(a0:LI)(a1:Int)(a2:LI)(a3:Int):f_:=bif(a1 != a3)then(some (false,()))else let x0:=f7 a0.length;let x1:=f7 a2.length;bif(x0 != x1)then(some (false,()))else let x2:=f7 a0.length;
(match gd nw NN (x2,0,a0,a1,a2,a3,())with
|none=>none
|some (.inl (x3,_))=>some (x3,())
|some (.inr (_,_))=>some (true,()))
def Jl:X.Cfg:=⟨E0,[],[],[⟨6,0,qS (zl [2,3]++il [22,23]) [(6,Uab),(8,Uab)],[(.ret,qS uau []),(.exit 0,qS (zl [2,3]++il [22,23]++[Xaa 24]) [(6,Uab),(8,Uab)])]⟩]⟩
def AR:Ctr:=⟨49,185,[.agg Uab,.agg Uab],[],[⟨zab,[.one],[]⟩],ap4 rx⟩
theorem IA:Lk 1 AR:=ls Jl aN
def nA:LDCe×T0l->Option ((LDCe×T0l)⊕((Bool×Unit)⊕(LDCe×T0E))):=λ(v0,v1,v2,v3,_)=>bif(decide (v3<v2))then((gk v3).bind λx0=>
(fW v0 x0).bind λx1=>
(gk v3).bind λx2=>
(fW v1 x2).bind λx3=>bif(!((x1.1==x3.1)&&((x1.2==x3.2)&&true)))then(some (.inr (.inl (false,()))))else let x4:=w64 (v3+1);some (.inl (v0,v1,v2,x4,())))else some (.inr (.inr (v0,v1,v2,v3,false,())))
def mH(a0 a1:LDCe):f_:=let x0:=f7 a0.length;let x1:=f7 a1.length;bif(x0 != x1)then(some (false,()))else let x2:=f7 a0.length;
(match gd nA NN (a0,a1,x2,0,())with
|none=>none
|some (.inl (x3,_))=>some (x3,())
|some (.inr (_,_))=>some (true,()))
def Jn:X.Cfg:=⟨E0,[],[],[⟨6,0,qS (sP 0 gU::sP 1 gU::il [12,13]) [],[(.ret,qS uau []),(.exit 0,qS [sP 0 gU,sP 1 gU,Uaa 12,Uaa 13,Xaa 14] [])]⟩]⟩
def vq:Ctr:=⟨80,186,uL [gU,gU],[],[⟨zab,[.one],[]⟩],ap2 mH⟩
theorem Am:Lk 1 vq:=ls Jn aN
def nv:Int×Int×T0F->Option ((Int×Int×T0F)⊕((Bool×Unit)⊕T1x)):=λ(v0,v1,v2,v3,v4,v5,_)=>bif(decide (v1<v0))then((gk v1).bind λx0=>
(fW v3 x0).bind λx1=>
(gk v1).bind λx2=>
(fW v5 x2).bind λx3=>
(bif(x1.1 != x3.1)then(some (v0,v1,true,v2,v3,v4,v5,()))else bif(!(x1.2.1==x3.2.1))then(some (v0,v1,true,v2,v3,v4,v5,()))else
(mH x1.2.2 x3.2.2).bind λ(x4,_)=>some (v0,v1,(!x4),v2,v3,v4,v5,()):Option (T1x)).bind λ(x4,x5,x6,x7)=>bif x6 then(some (.inr (.inl (false,()))))else let ae:=w64 (x5+1);some (.inl (x4,ae,x7)))else some (.inr (.inr (v0,v1,false,v2,v3,v4,v5,())))
def rp(a0:LDCe)(a1:LDLn)(a2:LDCe)(a3:LDLn):f_:=
(mH a0 a2).bind λ(x0,_)=>bif(!x0)then(some (false,()))else let x1:=f7 a1.length;let x2:=f7 a3.length;bif(x1 != x2)then(some (false,()))else let x3:=f7 a1.length;
(match gd nv NN (x3,0,a0,a1,a2,a3,())with
|none=>none
|some (.inl (x4,_))=>some (x4,())
|some (.inr (_,_))=>some (true,()))
def Ji:X.Cfg:=⟨E0,[vq],[],[⟨12,0,qE,[(.normal,qS (zl [2,3]++il [25,26]++[Xaa 58]) Zaq)]⟩,⟨6,1,qS (zl [2,3]++il [25,26]) Zaq,[(.ret,qS uau []),(.exit 0,qS (zl [2,3]++il [25,26]++[Xaa 27]) Zaq)]⟩]⟩
def AO:Ctr:=⟨50,187,[.agg zad,.agg zad],[],[⟨zab,[.one],[]⟩],ap4 rp⟩
theorem Ix:Lk 2 AO:=ls Ji (aC Am aN)
def rm(a0:Int)(a1:LDCe)(a2 a3 a4 a5 a6 a7 a8:Int)(a9:LDCe)(eq eE eG eI eK eO:Int):f_:=bif(a0==a8)then(bif(a2==eq)then(bif(a3==eE)then(bif(a4==eG)then(bif(a5==eI)then(bif(a6==eK)then(bif(a7==eO)then((mH a1 a9).bind λ(x0,_)=>some (x0,()))else some (false,()))else some (false,()))else some (false,()))else some (false,()))else some (false,()))else some (false,()))else some (false,())
def Ja:X.Cfg:=⟨E0,[vq],[],[]⟩
def AM:Ctr:=⟨51,188,[.agg yae,.agg yae],[],[⟨zab,[.one],[]⟩],as1 (as2 (as4 (as8 ap1))) rm⟩
theorem Iv:Lk 2 AM:=ls Ja (aC Am aN)
def ng:T2S->Option (T2S⊕((Bool×Unit)⊕(Int×Int×T2D))):=λ(v0,v1,v2,v3,v4,v5,v6,v7,v8,v9,eu,eF,_)=>bif(decide (v1<v0))then((gk v1).bind λx0=>
(fW v6 x0).bind λx1=>
(gk v1).bind λx2=>
(fW eF x2).bind λx3=>
(rm x1.1 x1.2.1 x1.2.2.1 x1.2.2.2.1 x1.2.2.2.2.1 x1.2.2.2.2.2.1 x1.2.2.2.2.2.2.1 x1.2.2.2.2.2.2.2 x3.1 x3.2.1 x3.2.2.1 x3.2.2.2.1 x3.2.2.2.2.1 x3.2.2.2.2.2.1 x3.2.2.2.2.2.2.1 x3.2.2.2.2.2.2.2).bind λ(x4,_)=>bif(!x4)then(some (.inr (.inl (false,()))))else let x5:=w64 (v1+1);some (.inl (v0,x5,v2,v3,v4,v5,v6,v7,v8,v9,eu,eF,())))else some (.inr (.inr (v0,v1,false,v2,v3,v4,v5,v6,v7,v8,v9,eu,eF,())))
def rk(a0:LI)(a1:Int)(a2:LDCe)(a3:LDLn)(a4:LDTh)(a5:LI)(a6:Int)(a7:LDCe)(a8:LDLn)(a9:LDTh):f_:=
((rx a0 a1 a5 a6).bind λ(x0,_)=>bif(!x0)then(some (true,a0,a1,a2,a3,a4,a5,a6,a7,a8,a9,()))else
(rp a2 a3 a7 a8).bind λ(x1,_)=>bif(!x1)then(some (true,a0,a1,a2,a3,a4,a5,a6,a7,a8,a9,()))else let x2:=f7 a4.length;let x3:=f7 a9.length;some ((x2 != x3),a0,a1,a2,a3,a4,a5,a6,a7,a8,a9,()):Option (T2D)).bind λ(x0,x1,x2,x3,x4,x5,x6)=>bif x0 then(some (false,()))else let ae:=f7 x5.length;
(match gd ng NN (ae,0,x1,x2,x3,x4,x5,x6)with
|none=>none
|some (.inl (af,_))=>some (af,())
|some (.inr (_,_))=>some (true,()))
def I9:X.Cfg:=⟨E0,[AR,AO,AM],[],[⟨2,0,qE,[(.normal,qS [zaa 2,zaa 3,Xaa 28] uar)]⟩,⟨6,1,qS (zl [2,3]++il [31,32]) uar,[(.ret,qS uau []),(.exit 0,qS (zl [2,3]++il [31,32]++[Xaa 33]) uar)]⟩]⟩
def AL:Ctr:=⟨19,189,[.agg zac,.agg zac],[],[⟨zab,[.one],[]⟩],as1 (as8 ap1) rk⟩
theorem Iu:Lk 3 AL:=ls I9 (aC IA (aC Ix (aC Iv aN)))
def BM:Int×Int×LDCn×T0h->Option ((Int×Int×LDCn×T0h)⊕((Bool×Unit)⊕T1F)):=λ(v0,v1,v2,v3,v4,v5,_)=>bif(decide (v4<v3))then((match((gk v4).bind λx0=>
(fW v2 x0).bind λx1=>bif(x1.1==1)then(bif(x1.2.2.1==(-1))then(some (.inl (true,())))else some (.inr (v0,v1,v2,v3,v4,false,v5,())))else some (.inr (v0,v1,v2,v3,v4,false,v5,())):Option ((Bool×Unit)⊕T1F))with
|none=>none
|some (.inl (x0,_))=>some (.inr (.inl (x0,())))
|some (.inr (x0,x1,x2,x3,x4,_,x6,_))=>let x7:=w64 (x4+1);some (.inl (x0,x1,x2,x3,x7,x6,()))))else some (.inr (.inr (v0,v1,v2,v3,v4,false,v5,())))
def BL:T0h->Option (T0h⊕((Bool×Unit)⊕T0y)):=λ(v0,v1,v2,_)=>bif(decide (v1<v0))then((gk v1).bind λx0=>
(fW v2 x0).bind λ_=>
(fW v2 x0).bind λx2=>let x3:=f7 x2.length;
(match gd BM NN (v0,v1,x2,x3,0,v2,())with
|none=>none
|some (.inl (x4,_))=>some (.inr (.inl (x4,())))
|some (.inr (x4,x5,_,_,_,_,ac,_))=>let ae:=w64 (x5+1);some (.inl (x4,ae,ac,()))))else some (.inr (.inr (v0,v1,false,v2,())))
def zU(a0:z_)(a1:LDTs):f_:=
(m8 a0 a1).bind λ(x0,_)=>let x1:=f7 x0.length;
(match gd BL NN (x1,0,x0,())with
|none=>none
|some (.inl (x2,_))=>some (x2,())
|some (.inr (_,_))=>some (false,()))
def jz:T0H->Option (T0H⊕((Bool×Unit)⊕(LDCn×T0G))):=λ(v0,v1,v2,v3,_)=>bif(decide (v3<v2))then((gk v3).bind λx0=>
(fW v0 x0).bind λx1=>
(gk v3).bind λx2=>
(fW v1 x2).bind λx3=>let x4:Bool:=(!((x1.1==x3.1)&&((x1.2.1==x3.2.1)&&((x1.2.2.1==x3.2.2.1)&&((x1.2.2.2==x3.2.2.2)&&true)))));bif x4 then(some (.inr (.inl (false,()))))else let x5:=w64 (v3+1);some (.inl (v0,v1,v2,x5,())))else some (.inr (.inr (v0,v1,v2,v3,false,())))
def jL(a0 a1:LDCn):f_:=let x0:=f7 a0.length;let x1:=f7 a1.length;bif(x0 != x1)then(some (false,()))else let x2:=f7 a0.length;
(match gd jz NN (a0,a1,x2,0,())with
|none=>none
|some (.inl (x3,_))=>some (x3,())
|some (.inr (_,_))=>some (true,()))
def zK:X.Cfg:=⟨E0,[],[],[⟨6,0,qS (sP 0 gp::sP 1 gp::il [12,13]) [],[(.ret,qS uau []),(.exit 0,qS [sP 0 gp,sP 1 gp,Uaa 12,Uaa 13,Xaa 14] [])]⟩]⟩
def sA:Ctr:=⟨48,192,uL [gp,gp],[],[⟨zab,[.one],[]⟩],ap2 jL⟩
theorem zF:Lk 1 sA:=ls zK aN
def nb:T1h->Option (T1h⊕((Bool×Unit)⊕T1y)):=λ(v0,v1,v2,v3,v4,v5,_)=>bif(decide (v1<v0))then((gk v1).bind λx0=>
(fW v2 x0).bind λx1=>
(gk v1).bind λx2=>
(fW v4 x2).bind λx3=>
(jL x1 x3).bind λ(x4,_)=>bif(!x4)then(some (.inr (.inl (false,()))))else let x5:=w64 (v1+1);some (.inl (v0,x5,v2,v3,v4,v5,())))else some (.inr (.inr (v0,v1,false,v2,v3,v4,v5,())))
def na:T1N->Option (T1N⊕((Bool×Unit)⊕T24)):=λ(v0,v1,v2,v3,v4,v5,v6,_)=>bif(decide (v2<v1))then((gk v2).bind λx0=>
(fW v0 x0).bind λx1=>
(gk v2).bind λx2=>
(fW v6 x2).bind λx3=>
(bif(x1.1 != x3.1)then(some (v0,v1,v2,true,v3,v4,v5,v6,()))else bif(x1.2.1 != x3.2.1)then(some (v0,v1,v2,true,v3,v4,v5,v6,()))else bif(x1.2.2.1 != x3.2.2.1)then(some (v0,v1,v2,true,v3,v4,v5,v6,()))else bif(x1.2.2.2.1 != x3.2.2.2.1)then(some (v0,v1,v2,true,v3,v4,v5,v6,()))else bif(x1.2.2.2.2.1 != x3.2.2.2.2.1)then(some (v0,v1,v2,true,v3,v4,v5,v6,()))else bif(x1.2.2.2.2.2.1 != x3.2.2.2.2.2.1)then(some (v0,v1,v2,true,v3,v4,v5,v6,()))else bif(x1.2.2.2.2.2.2.1 != x3.2.2.2.2.2.2.1)then(some (v0,v1,v2,true,v3,v4,v5,v6,()))else
(jL x1.2.2.2.2.2.2.2 x3.2.2.2.2.2.2.2).bind λ(x4,_)=>some (v0,v1,v2,(!x4),v3,v4,v5,v6,()):Option (T24)).bind λ(x4,x5,x6,x7,x8)=>bif x7 then(some (.inr (.inl (false,()))))else let af:=w64 (x6+1);some (.inl (x4,x5,af,x8)))else some (.inr (.inr (v0,v1,v2,false,v3,v4,v5,v6,())))
def oP(a0:z_)(a1:LDTs)(a2:z_)(a3:LDTs):f_:=let x0:=f7 a0.length;let x1:=f7 a2.length;bif(x0 != x1)then(some (false,()))else let x2:=f7 a1.length;let x3:=f7 a3.length;bif(x2 != x3)then(some (false,()))else let x4:=f7 a0.length;
(match gd nb NN (x4,0,a0,a1,a2,a3,())with
|none=>none
|some (.inl (x5,_))=>some (x5,())
|some (.inr (_,_,_,x8,x9,ac))=>let af:=f7 x9.length;
(match gd na NN (x9,af,0,x8,x9,ac)with
|none=>none
|some (.inl (ag,_))=>some (ag,())
|some (.inr (_,_))=>some (true,())))
def I4:X.Cfg:=⟨E0,[sA],[],[⟨6,0,qS (zl [2,3]++il [27,28]) yao,[(.ret,qS uau []),(.exit 0,qS (zl [2,3]++il [27,28]++[Xaa 29]) yao)]⟩,⟨21,1,qE,[(.normal,qS [zaa 3,sP 45 (yaa my),Uaa 46,Uaa 47,Xaa 111] yao)]⟩,⟨15,2,qS (zaa 3::sP 45 (yaa my)::il [46,47]) yao,[(.ret,qS uau []),(.exit 2,qS [zaa 3,sP 45 (yaa my),Uaa 46,Uaa 47,Xaa 48] yao)]⟩]⟩
def AI:Ctr:=⟨18,193,[.agg Xac,.agg Xac],[],[⟨zab,[.one],[]⟩],ap4 oP⟩
theorem Ir:Lk 2 AI:=ls I4 (aC zF aN)
def HC(a0:LI)(a1:Int):f_:=
(jN a0 0).bind λ(x0,x1,x2,x3,x4,x5,x6,x7,x8,x9,ac,ae,af,ag,ah,ai,aj,ak,am,an,ap,aq,av,_)=>
(iK x0 x1 x2 x3 x4 x5 x6 x7).bind λ(az,aA,_)=>
(Bl a1 1048576).bind λ(aB,_)=>
(oT x1 aB).bind λ(aD,aE,_,_)=>
(jw x0 x1 x2 x3 x4 az aA).bind λ(aG,aH,aI,aJ,aK,aL,_)=>
(jw x0 x1 x2 aD aE az aA).bind λ(aM,aO,aP,aQ,aR,aS,_)=>bif(!aL)then((zU az aA).bind λ(aT,_)=>bif aT then((iz).bind λ(aU,_)=>some (aU,()))else some (false,()))else bif(!aS)then((zU az aA).bind λ(aT,_)=>bif aT then((iz).bind λ(aU,_)=>some (aU,()))else some (false,()))else
(jV x0 x1 x2 aG aH aI aJ aK x8 x9 ac ae af ag ah ai aj ak am an ap aq av).bind λ(aT,aU,aV,aW,aY,aZ,_)=>
(jV x0 x1 x2 aM aO aP aQ aR x8 x9 ac ae af ag ah ai aj ak am an ap aq av).bind λ(ba,bc,bd,be,bf,bg,_)=>bif(aZ==bg)then((iL x0 x1 x2 aT aU aV aW aY).bind λ(bh,_)=>bif bh then((iL x0 x1 x2 ba bc bd be bf).bind λ(bi,_)=>bif bi then((iK x0 x1 x2 aT aU aV aW aY).bind λ(bj,bk,_)=>
(iK x0 x1 x2 ba bc bd be bf).bind λ(bm,bn,_)=>
(oP bj bk bm bn).bind λ(bo,_)=>bif bo then((iz).bind λ(bp,_)=>some (bp,()))else some (false,()))else some (false,()))else some (false,()))else some (false,())
def iP:T3w->Option (T3w⊕T3z):=λ(v0,v1,v2,v3,v4,v5,v6,v7,v8,v9,eu,eF,eH,eJ,eM,eQ,eW)=>bif(decide (v1<v0))then((bif(v1 != v2)then(bif(v1 != eQ)then(some (v1,v0,v1,true,v2,v3,v4,v5,v6,v7,v8,v9,eu,eF,eH,eJ,eM,eQ,eW))else some (v1,v0,v1,(v7 != 10),v2,v3,v4,v5,v6,v7,v8,v9,eu,eF,eH,eJ,eM,eQ,eW))else some (v1,v0,v1,false,v2,v3,v4,v5,v6,v7,v8,v9,eu,eF,eH,eJ,eM,eQ,eW):Option (T3D)).bind λ(x0,x1,x2,x3,x4,x5,x6,x7,x8,x9,ac,ae,af,ag,ah,ai,aj,ak,am,an,ap,aq,av,_)=>bif x3 then((gk x0).bind λax=>
(fW ap ax).bind λay=>let az:LDTs:=[(ay.1,(ay.2.1,(ay.2.2.1,(ay.2.2.2.1,(ay.2.2.2.2.1,(ay.2.2.2.2.2.1,(ay.2.2.2.2.2.2.1,ay.2.2.2.2.2.2.2)))))))];
(gk x0).bind λaA=>
(fW av aA).bind λaB=>let aD:LDTs:=[(aB.1,(aB.2.1,(aB.2.2.1,(aB.2.2.2.1,(aB.2.2.2.2.1,(aB.2.2.2.2.2.1,(aB.2.2.2.2.2.2.1,aB.2.2.2.2.2.2.2)))))))];
(oP [] az [] aD).bind λ(aE,_)=>bif(!aE)then(none)else let aF:=w64 (x2+1);some (.inl (x1,aF,x4,x5,x6,x7,x8,x9,ac,ae,af,ag,ah,ai,aj,ak,am,an,ap,aq,av,())))else let ax:=w64 (x2+1);some (.inl (x1,ax,x4,x5,x6,x7,x8,x9,ac,ae,af,ag,ah,ai,aj,ak,am,an,ap,aq,av,())))else some (.inr (v0,v1,false,v2,v3,v4,v5,v6,v7,v8,v9,eu,eF,eH,eJ,eM,eQ,eW))
def iq:T3F->Option (T3F⊕((Bool×Unit)⊕T3I)):=λ(v0,v1,v2,v3,v4,v5,v6,v7,v8,v9,eu,eF,eH,eJ,eM,eQ,eW,eY,fa,fe,fh)=>bif(decide (v4<v3))then(((jx eu).bind λ(x0,_)=>bif(x0==2)then(bif(!fe)then((fW eF 1).bind λx1=>bif(x1.2.2.1==v0)then((fW eF 1).bind λx2=>bif(decide (v4>=x2.2.2.2))then((fW eF 1).bind λx3=>let x4:=f7 eY.length;let x5:=w64 (x3.2.2.2+x4);some (v0,v4,(decide (v4<x5)),v1,v2,v3,v4,v5,v6,v7,v8,v9,eu,eF,eH,eJ,eM,eQ,eW,eY,fa,fe,fh))else some (v0,v4,false,v1,v2,v3,v4,v5,v6,v7,v8,v9,eu,eF,eH,eJ,eM,eQ,eW,eY,fa,fe,fh))else some (v0,v4,false,v1,v2,v3,v4,v5,v6,v7,v8,v9,eu,eF,eH,eJ,eM,eQ,eW,eY,fa,fe,fh))else some (v0,v4,false,v1,v2,v3,v4,v5,v6,v7,v8,v9,eu,eF,eH,eJ,eM,eQ,eW,eY,fa,fe,fh))else some (v0,v4,false,v1,v2,v3,v4,v5,v6,v7,v8,v9,eu,eF,eH,eJ,eM,eQ,eW,eY,fa,fe,fh):Option (Int×Int×Bool×T3E)).bind λ(x0,x1,x2,x3,x4,x5,x6,x7,x8,x9,ac,ae,af,ag,ah,ai,aj,ak,am,an,ap,aq,av,ax,ay,az,_)=>
(bif(!x2)then((gk x0).bind λaA=>
(fW av aA).bind λ_=>
(fW av aA).bind λ_=>
(gk x1).bind λaE=>
(fW av aA).bind λaF=>
(fW aF aE).bind λ_=>
(fW av aA).bind λaH=>
(fW aH aE).bind λaI=>
(gk x0).bind λaJ=>
(fW ay aJ).bind λ_=>
(fW ay aJ).bind λ_=>
(gk x1).bind λaM=>
(fW ay aJ).bind λaO=>
(fW aO aM).bind λ_=>
(fW ay aJ).bind λaQ=>
(fW aQ aM).bind λaR=>let aS:Bool:=(!((aI.1==aR.1)&&((aI.2.1==aR.2.1)&&((aI.2.2.1==aR.2.2.1)&&((aI.2.2.2==aR.2.2.2)&&true)))));bif aS then(some (x0,x3,x4,x5,x6,true,x7,x8,x9,ac,ae,af,ag,ah,ai,aj,ak,am,an,ap,aq,av,ax,ay,az,()))else bif x2 then((gk x0).bind λaT=>
(fW ay aT).bind λ_=>
(fW ay aT).bind λ_=>
(gk x1).bind λaW=>
(fW ay aT).bind λaY=>
(fW aY aW).bind λ_=>
(fW ay aT).bind λba=>
(fW ba aW).bind λbc=>
(fW ag 1).bind λbd=>let be:=w64 (x1-bd.2.2.2);
(gk be).bind λbf=>
(fW an bf).bind λbg=>let bh:Bool:=(!((bc.1==bg.1)&&((bc.2.1==bg.2.1)&&((bc.2.2.1==bg.2.2.1)&&((bc.2.2.2==bg.2.2.2)&&true)))));some (x0,x3,x4,x5,x6,bh,x7,x8,x9,ac,ae,af,ag,ah,ai,aj,ak,am,an,ap,aq,av,ax,ay,az,()))else some (x0,x3,x4,x5,x6,false,x7,x8,x9,ac,ae,af,ag,ah,ai,aj,ak,am,an,ap,aq,av,ax,ay,az,()))else bif x2 then((gk x0).bind λaA=>
(fW ay aA).bind λ_=>
(fW ay aA).bind λ_=>
(gk x1).bind λaE=>
(fW ay aA).bind λaF=>
(fW aF aE).bind λ_=>
(fW ay aA).bind λaH=>
(fW aH aE).bind λaI=>
(fW ag 1).bind λaJ=>let aK:=w64 (x1-aJ.2.2.2);
(gk aK).bind λaL=>
(fW an aL).bind λaM=>let aO:Bool:=(!((aI.1==aM.1)&&((aI.2.1==aM.2.1)&&((aI.2.2.1==aM.2.2.1)&&((aI.2.2.2==aM.2.2.2)&&true)))));some (x0,x3,x4,x5,x6,aO,x7,x8,x9,ac,ae,af,ag,ah,ai,aj,ak,am,an,ap,aq,av,ax,ay,az,()))else some (x0,x3,x4,x5,x6,false,x7,x8,x9,ac,ae,af,ag,ah,ai,aj,ak,am,an,ap,aq,av,ax,ay,az,()):Option (T3I)).bind λ(aA,aB,aD,aE,aF,aG,aH,aI,aJ,aK,aL,aM,aO,aP,aQ,aR,aS,aT,aU,aV,aW,aY,aZ,ba,bc,_)=>bif aG then(some (.inr (.inl (false,()))))else let bd:=w64 (aF+1);some (.inl (aA,aB,aD,aE,bd,aH,aI,aJ,aK,aL,aM,aO,aP,aQ,aR,aS,aT,aU,aV,aW,aY,aZ,ba,bc,())))else some (.inr (.inr (v0,v1,v2,v3,v4,false,v5,v6,v7,v8,v9,eu,eF,eH,eJ,eM,eQ,eW,eY,fa,fe,fh)))
def iO:T3w->Option (T3w⊕((Bool×Unit)⊕T3z)):=λ(v0,v1,v2,v3,v4,v5,v6,v7,v8,v9,eu,eF,eH,eJ,eM,eQ,eW,eY,fa)=>bif(decide (v1<v0))then((gk v1).bind λx0=>
(fW eY x0).bind λ_=>
(fW eY x0).bind λ_=>
(fW eY x0).bind λx3=>let x4:=f7 x3.length;
(match gd iq NN (v1,v0,v1,x4,0,v2,v3,v4,v5,v6,v7,v8,v9,eu,eF,eH,eJ,eM,eQ,eW,eY,fa)with
|none=>none
|some (.inl (x5,_))=>some (.inr (.inl (x5,())))
|some (.inr (_,x6,x7,_,_,_,ae))=>let aF:=w64 (x7+1);some (.inl (x6,aF,ae))))else some (.inr (.inr (v0,v1,false,v2,v3,v4,v5,v6,v7,v8,v9,eu,eF,eH,eJ,eM,eQ,eW,eY,fa)))
def nE(a0:LI):f_:=
(jN a0 0).bind λ(x0,x1,x2,x3,x4,x5,x6,x7,x8,x9,ac,ae,af,ag,ah,ai,aj,ak,am,an,ap,aq,av,_)=>
(jV x0 x1 x2 x3 x4 x5 x6 x7 x8 x9 ac ae af ag ah ai aj ak am an ap aq av).bind λ(az,aA,aB,aD,aE,aF,_)=>bif(!aF)then((rk az aA aB aD aE x3 x4 x5 x6 x7).bind λ(aG,_)=>bif aG then((iz).bind λ(aH,_)=>some (aH,()))else some (false,()))else
(iL x0 x1 x2 az aA aB aD aE).bind λ(aG,_)=>bif(!aG)then(some (false,()))else
(iK x0 x1 x2 x3 x4 x5 x6 x7).bind λ(aH,aI,_)=>
(iK x0 x1 x2 az aA aB aD aE).bind λ(aJ,aK,_)=>let aL:=f7 aI.length;
(gd iP NN (aL,0,x8,x9,ac,ae,af,ag,ah,ai,aj,ak,am,an,ap,aq,av,aH,aI,aJ,aK,())).bind λ(_,_,_,aQ,aR,aS,aT,aU,aV,aW,aY,aZ,ba,bc,bd,be,bf,bg,bh,bi)=>let bm:=f7 bh.length;
(match gd iO NN (bm,0,aQ,aR,aS,aT,aU,aV,aW,aY,aZ,ba,bc,bd,be,bf,bg,bh,bi)with
|none=>none
|some (.inl (bn,_))=>some (bn,())
|some (.inr (_,_))=>
(iz).bind λ(bP,_)=>some (bP,()))
def yj:X.Cfg:=⟨E0,[vx,vz,AL,yR,nS,p8,AI,kI],[(79,J1),(86,J1)],[⟨18,0,qE,[(.normal,qS (zl [6,7,10,11]++il [12,55,56]++[Xaa 73]) uan)]⟩,(lx 13 1 (zl [6,7,10,11]++il [55,56]) uan 57),⟨36,2,qE,[(.normal,qS (zl [6,7,10,11]++il [15,16]++Xaa 17::il [95,96,104,105]) uan)]⟩,⟨37,3,qE,[(.normal,qS (zl [6,7,10,11]++il [15,95,96,104,105]++[Xaa 193]) uan)]⟩,⟨31,4,qS (zl [6,7,10,11]++il [15,95,96,104,105]) uan,[(.ret,qS yau []),(.exit 4,qS (zl [6,7,10,11]++il [15,95,96,104,105]++[Xaa 106]) uan)]⟩,⟨25,5,qS (zl [6,7,10,11]++il [95,96]) uan,[(.ret,qS yau []),(.exit 2,qS (zl [6,7,10,11]++il [95,96]++[Xaa 97]) uan)]⟩]⟩
def rN:Ctr:=⟨4,195,zai,[],[⟨zab,[.one],[]⟩],ap1 nE⟩
theorem k_law14_FinishOnly:Lk 13 rN:=ls yj (aC Cn (aC An (aC Iu (aC FV (aC pW (aC s9 (aC Ir (aC lX aN))))))))
end
end Go.Proofs.YtabfnmgabblofaaGreat
namespace Go.Proofs.YtabfnmgabblofaaGreat
set_option maxRecDepth 100000
noncomputable section
end
end Go.Proofs.YtabfnmgabblofaaGreat
namespace Go.Proofs.YtabfnmgabblofaaGreat
open Go.RowKit
theorem WB:(Tryz.prog.funcs.all λfn=>!(fn.name== "runtime.NumGoroutine"))=true:=by kernel_rfl
theorem M7:ub Tryz.prog 8:=by
 obtain⟨fn,hf,hb⟩:∃fn,Tryz.prog.funcs[8]?=some fn/\fn.body.isSome=true:=by
  have hs:(match Tryz.prog.funcs[8]? with|some fn=>fn.body.isSome|none=>false)=true:=by kernel_rfl
  cases h:Tryz.prog.funcs[8]? with|none=>rw[h]at hs;cases hs|some fn=>rw[h]at hs;exact⟨fn,rfl,hs⟩
 obtain⟨c,hc⟩:=Option.isSome_iff_exists.1 hb;refine JG hf ?_ hc;obtain⟨hlt,he⟩:=Array.getElem?_eq_some_iff.1 hf;have:=Array.all_eq_true.1 WB 8 hlt;rw[he]at this;simpa using this
def UV(x:Value)(w:World)(e:Ending)(w':World):Prop:=e=.returned (.pointer (some ⟨w.heap.size,0,none⟩))/\w'=w.alloc (.cells #[x,.int .i64 0] 79)
theorem Uf(x:Value)(hx:x.oneCell'=true)(w:World):Calls Tryz.prog 8 #[x] w (UV x w):=by
 cases x;all_goals first
  |(go_enter Tryz.func8,Tryz.ntmps8
    go_wp2
    go_ret
    exact⟨rfl,rfl⟩)
  |simp[Value.oneCell']at hx
theorem VU:Hs Tryz.prog E0:=by
 intro f n tm h;simp only[E0]at h;split at h;rename_i e;subst e;injection h with h
 injection h with h1 h2
 subst h1 h2;refine⟨M7,λx hx=>?_,79,λl2 w hl YP=>?_⟩;simp only[oMC,List.not_mem_nil,or_false]at hx;rcases hx with hx|hx;injection hx;injection hx with hx;rw[hx];rfl
 match l2,hl with| [x],_=>exact Uf x (YP x (by simp[bxV])) w
 simp at h
theorem e0_ok:JY Tryz.prog E0:=Sx VU
def Ok{α:Type}(o:Option α)(Q:α->Prop):Prop:=∃a,o=some a/\Q a
section
variable {α β:Type}
theorem fT{a:α}{Q:α->Prop}(h:Q a):Ok (some a) Q:=⟨a,rfl,h⟩
theorem Ok.bind{o:Option α}{f:α->Option β}{P:α->Prop}{Q:β->Prop}(h:Ok o P)(h2:∀a,P a->Ok (f a) Q):Ok (o.bind f) Q:=by obtain⟨a,rfl,h1⟩:=h;simp_all
theorem Ok.mono{o:Option α}{P Q:α->Prop}(h:Ok o P)(h2:∀a,P a->Q a):Ok o Q:=by have ⟨a,e,h1⟩:=h;exact⟨a,e,h2 a h1⟩
theorem gg{c:Bool}{a b:Option α}{Q:α->Prop}(h1:c=true->Ok a Q)(h2:c=false->Ok b Q):Ok (bif c then a else b) Q:=by grind
class BP (b:Bool) (P N:outParam Prop):Prop where
 t:b=true->P
 f:b=false->N
instance (priority:=low) bpVar {b:Bool}:BP b (b=true) (b=false):=⟨id,id⟩
instance Xf {p:Prop}{i:Decidable p}:BP (@decide p i) p (¬p):=⟨of_decide_eq_true,of_decide_eq_false⟩
instance Xr {α:Type}[BEq α][LawfulBEq α]{a b:α}:BP (a==b) (a=b) (¬a=b):=⟨eq_of_beq,λh=>beq_eq_false_iff_ne.1 h⟩
instance Xq {α:Type}[BEq α][LawfulBEq α]{a b:α}:BP (a != b) (¬a=b) (a=b):=⟨λh=>bne_iff_ne.1 h,λh=>bne_eq_false_iff_eq.1 h⟩
instance Xe {b:Bool}{P N:Prop}[h:BP b P N]:BP (!b) N P:=⟨λe=>h.f (by simpa using e),λe=>h.t (by simpa using e)⟩
theorem fV{c:Bool}{P N:Prop}[h:BP c P N]{a b:Option α}{Q:α->Prop}(h1:P->Ok a Q)(h2:N->Ok b Q):Ok (bif c then a else b) Q:=by cases hc:c with|true=>exact h1 (h.t hc)|false=>exact h2 (h.f hc)
theorem gV{l:List α}{i:Nat}{f:α->Option β}{Q:β->Prop}(h:i<l.length)(h2:∀a,l[i]?=some a->Ok (f a) Q):Ok ((fW l i).bind f) Q:=by have e:fW l i=some l[i]:=oGE h;simp_all
theorem jB{x:Int}{f:Nat->Option β}{Q:β->Prop}(h:0<=x)(h2:∀n:Nat,x=n->Ok (f n) Q):Ok ((gk x).bind f) Q:=by obtain⟨n,rfl⟩:∃n:Nat,x=n:=⟨x.toNat,by omega⟩;exact h2 n rfl
theorem f9{l:List α}{i:Nat}{f:α->Option β}{Q:β->Prop}(h2:∀a,l[i]?=some a->Ok (f a) Q)(h:i<l.length:=by omega):Ok ((fW l i).bind f) Q:=gV h h2
theorem gX{x:Int}{f:Nat->Option β}{Q:β->Prop}(h2:∀n:Nat,x=n->Ok (f n) Q)(h:0<=x:=by omega):Ok ((gk x).bind f) Q:=jB h h2
theorem Ok.val{v:α}{f:α->Option β}{Q:β->Prop}(h:∀x,x=v->Ok (f x) Q):Ok (f v) Q:=h v rfl
theorem fU{c:Bool}{a b:Option α}{Q:α->Prop}(hc:c=true)(h1:Ok a Q):Ok (bif c then a else b) Q:=by simp_all
theorem hJ{S T:Type}{f:S->Option (S⊕T)}(P:S->Prop)(R:T->Prop)(m:S->Nat){n:Nat}{s:S}(hs:P s)(hm:m s<n) (h:∀s,P s->Ok (f s) λr=>match r with|.inl s'=>P s'/\m s'<m s|.inr t=>R t):Ok (gd f n s) R:=by induction n generalizing s with|zero=>omega|succ n ih=>have ⟨r,e,hr⟩:=h s hs;cases r with|inl s'=>have ⟨t,e2,hq⟩:=ih hr.1 (by omega);exact⟨t,by simp[gd,e];exact e2,hq⟩|inr t=>exact⟨t,by simp[gd,e],hr⟩
theorem gQ{S T:Type}{f:S->Option (S⊕T)}{g:T->Option β}{Q:β->Prop}(P:S->Prop)(R:T->Prop)(m:S->Nat){n:Nat}{s:S}(hs:P s)(hm:m s<n)
 (h:∀s,P s->Ok (f s) λr=>match r with|.inl s'=>P s'/\m s'<m s|.inr t=>R t)(hg:∀t,R t->Ok (g t) Q):Ok ((gd f n s).bind g) Q:=(hJ P R m hs hm h).bind hg
end
theorem gE{x:Int}(h1:-9223372036854775808<=x)(h2:x<=9223372036854775807):w64 x=x:=QL h1 h2
theorem iC{x:Int}(h1:-9223372036854775808<=x:=by omega)(h2:x<=9223372036854775807:=by omega):w64 x=x:=gE h1 h2
theorem fZ(n:Nat):gk (n:Int)=some n:=rfl
theorem gj(n:Nat):f7 n=(n:Int):=rfl
theorem f8{α:Type}{l:List α}{i:Nat}{a:α}(h:l[i]?=some a):a∈l:=List.mem_of_getElem? h
def W16(x:Int):Prop:=0<=x/\x<=65535
theorem gt{x:Int}(h0:0<=x)(h1:x<=65535):wk .u16 x=x:=by unfold wk;rw[xG];omega
theorem gh{x:Int}(h0:-9223372036854775808<=x)(h1:x<=9223372036854775807):wk .i64 x=x:=gE h0 h1
theorem gf{b n m:Nat}(h:b<=1000/\n+m<=1000000):gr b n m=true:=by have:=Nat.mul_le_mul h.2 h.1;simp[gr];omega
structure DOk (l:M_)(k:Int):Prop where
 num:∀x∈l,UW x
 len:l.length<=maxLen
 lo:0<=k
 hi:k<=l.length
theorem DOk.start{l:M_}(h:∀x∈l,UW x)(hl:l.length<=maxLen):DOk l 0:=⟨h,hl,by omega,by omega⟩
theorem S3{a b:Int}(ha:UW a)(hb:0<b)(hb2:b<=9223372036854775807):∃v,mA a b=some (v,())/\0<=v/\v<b:=by
 have hne:(b != 0)=true:=by simp;omega
 have hm:=Int.tmod_lt_of_pos a hb;have hm2:-b<Int.tmod a b:=by have:=Int.tmod_lt_of_pos (-a) hb;rw[Int.neg_tmod]at this;omega
 unfold mA;simp[hne];by_cases h:Int.tmod a b<0;refine⟨Int.tmod a b+b,?_,by omega,by omega⟩;simp[h,decide_true];rw[gE (by omega) (by omega)];refine⟨Int.tmod a b,?_,by omega,hm⟩;simp[h,decide_false,oCF]
section
variable {β:Type} {l:M_} {k n:Int} {Q:β->Prop}
theorem Vz{a b:Int}{f:Int×Unit->Option β}(ha:UW a)(hb:0<b)(hb2:b<=9223372036854775807)(K:∀v,0<=v->v<b->Ok (f (v,())) Q):Ok ((mA a b).bind f) Q:=by have ⟨v,e,h0,h1⟩:=S3 ha hb hb2;simp_all
theorem gN{f:Int×M_×Int×Unit->Option β}(h:DOk l k)(hn:0<n)(hn2:n<=9223372036854775807)(K:∀v k',0<=v->v<n->DOk l k'->Ok (f (v,l,k',())) Q):Ok ((fX n l k).bind f) Q:=by
 have hl:=h.len;have hlo:=h.lo;have hmx:maxLen<=9223372036854775807:=by decide
 by_cases hk:k>=(l.length:Int);have e:fX n l k=some (0,l,k,()):=by unfold fX;simp[gj,hk]
 simp_all
 ·obtain⟨j,rfl⟩:∃j:Nat,k=j:=⟨k.toNat,by omega⟩
  have hj:j<l.length:=by omega
  obtain⟨v,hv,h0,h1⟩:=S3 (h.num _ (oGX hj)) hn hn2
  have e:fX n l j=some (v,l,(j:Int)+1,()):=by
   unfold fX;delta f7
   try dsimp only
   rw[iC (x:=(j:Int)+1),iC (x:=(j:Int)+1-1)];rw[show(j:Int)+1-1=j by omega,fZ];simp[hk,decide_false,oCF,oBS,fW,oGE hj,Bl,hv]
  rw[e];exact K v _ h0 h1 ⟨h.num,hl,by omega,by omega⟩
theorem Lo{f:Int×M_×Int×Unit->Option β}(h:DOk l k)(K:∀v k',0<=v->v<=65535->DOk l k'->Ok (f (v,l,k',())) Q):Ok ((ln l k).bind f) Q:=by
 have hw:Ok (ln l k) λr=>∃v k',r=(v,l,k',())/\0<=v/\v<=65535/\DOk l k':=by
  unfold ln;refine gN (by assumption) (by omega) (by omega) λv k a b d=>?_;try dsimp only
  refine Ok.bind (P:=λr=>∃b,r=(v,b,l,k,())) ?_ ?_
  ·repeat ((with_reducible refine fV (λhc=>?_) λhc=>?_);· exact fT ⟨_,rfl⟩)
   exact fT ⟨_,rfl⟩
  ·rintro _ ⟨b,rfl⟩;refine gg (λ_=>?_) λ_=>?_
   ·refine gN (by assumption) (by omega) (by omega) λv k a b d=>?_;try dsimp only
    (simp (disch:=omega) only [gE,gt,gh,gj])
    exact fT ⟨_,_,rfl,by omega,by omega,by assumption⟩
   ·refine fV (λhc=>?_) λhc=>?_
    ·refine gN (by assumption) (by omega) (by omega) λv k a b d=>?_;try dsimp only
     (simp (disch:=omega) only [gE,gt,gh,gj])
     exact fT ⟨_,_,rfl,by omega,by omega,by assumption⟩
    ·refine gN (by omega) (by omega) (by omega) λv k a b d=>?_;try dsimp only
     (simp (disch:=omega) only [gE,gt,gh,gj])
     exact fT ⟨_,_,rfl,by omega,by omega,by omega⟩
 refine hw.bind ?_;simp_all
end
def AY(s:M_):Prop:=1<=s.length/\s.length<=4/\∀x∈s,1<=x/\x<=32
theorem W5{P:Int->Prop}{a b c:Int}(ha:P a)(hb:P b)(hc:P c):∀x∈[a,b,c],P x:=by simp_all
theorem QW{l:M_}{k:Int}(h:DOk l k):Ok (rz l k) λr=>∃s k',r=(s,l,k',())/\AY s/\DOk l k':=by
 unfold rz;refine gN (by assumption) (by omega) (by omega) λv0 k0 a0 b0 d0=>?_;try dsimp only
 (simp (disch:=omega) only [gE,gt,gh,gj])
 refine gN (by assumption) (by omega) (by omega) λv1 k1 a1 b1 d1=>?_;try dsimp only
 refine gQ (P:=λ((c,l',k',s,_):Int×M_×Int×M_×Unit)=>l'=l/\DOk l k'/\0<=c/\c+s.length<=4/\1<=s.length/\∀x∈s,1<=x/\x<=32)
  (R:=λ((_,_,l',k',s,_):Int×Bool×M_×Int×M_×Unit)=>l'=l/\DOk l k'/\AY s) (m:=λs=>s.1.toNat) ⟨rfl,d1,a1,by simp;omega,by simp,by simp;omega⟩ (by unfold NN;dsimp only;omega) ?_ ?_
 ·rintro⟨c,l',k3,s,_⟩ ⟨rfl,XK,hc0,hcs,hs1,hs⟩;dsimp only at *;unfold uA;dsimp only;refine fV (λhc=>?_) λhc=>?_
  ·refine gN (by assumption) (by omega) (by omega) λv2 k2 a2 b2 d2=>?_;try dsimp only
   refine jB (by omega) λj hj=>?_;try dsimp only
   have ZC:∀x∈[(6:Int),12,32],6<=x/\x<=32:=by simp_all
   refine gV (by simp;omega) λa ha=>?_;refine gV (by simp;omega) λb hb=>?_;have h7:=ZC b (f8 hb)
   refine gN (by assumption) (by omega) (by omega) λv3 k3 a3 b3 d3=>?_;try dsimp only
   (simp (disch:=omega) only [gE,gt,gh,gj])
   refine fU (gf (by simp;omega)) ?_;refine fT ⟨⟨rfl,by assumption,by omega,?_,?_,?_⟩,?_⟩
   ·simp;omega
   ·simp
   ·intro x hx;simp at hx;rcases hx with hx|rfl
    ·exact hs x hx
    ·omega
   ·dsimp only;omega
  ·exact fT ⟨rfl,XK,hs1,by dsimp only;omega,hs⟩
 rintro⟨a,b,l',k3,s,_⟩ ⟨rfl,XK,hs⟩;exact fT ⟨_,_,rfl,hs,XK⟩
def ug(op:Int):Bool:=!(op==18||op==23||op==0||op==24)
def uf(op:Int):Bool:=!(op==18||op==23||op==0||op==24||op==1||op==15||op==19||op==20||op==21||op==22)
def ue(op:Int):Bool:=!(op==18||op==23||op==0||op==24||op==1||op==15||op==19||op==20||op==21||op==22||op==2||op==16||op==17)
def ud(op:Int):Bool:=op==1||op==15||op==19||op==20||op==21||op==16||op==17||op==18||op==23
def oh(op:Int):Bool:=op==18||op==19||op==20||op==21
theorem J3{op:Int}(h0:0<=op)(h1:op<=24):li op=some (ug op,uf op,ue op,ud op,()):=by
 obtain⟨n,rfl⟩:∃n:Nat,op=n:=⟨op.toNat,by omega⟩;have hn:n<25:=by omega
 have key:∀n:Fin 25,(li ((n.val:Nat):Int)).map (λx=>(x.1,x.2.1,x.2.2.1,x.2.2.2.1))=some (ug (n.val:Nat),uf (n.val:Nat),ue (n.val:Nat),ud (n.val:Nat)):=by decide
 have:=key ⟨n,hn⟩;cases h:li (n:Int)with|none=>simp_all|some x=>obtain⟨a,b,c,d,_⟩:=x;simp_all
theorem xp(op:Int):i6 op=some (oh op,()):=by unfold i6 oh;grind
structure kD (n m:Int)(i:DIn):Prop where
 op:0<=i.1/\i.1<=24
 a:0<=i.2.1/\i.2.1<8/\(ug i.1=false->i.2.1=0)
 b:0<=i.2.2.1/\i.2.2.1<8/\(uf i.1=false->i.2.2.1=0)
 c:0<=i.2.2.2.1/\i.2.2.2.1<8/\(ue i.1=false->i.2.2.2.1=0)
 imm:0<=i.2.2.2.2/\i.2.2.2.2<=65535/\(ud i.1=false->i.2.2.2.2=0)
 lea:i.1=15->i.2.2.2.2<n
 sys:i.1=23->i.2.2.2.2<=15
 jmp:oh i.1=true->i.2.2.2.2<m
theorem ins_mk{n m o a b c i:Int}(ho:0<=o/\o<=24)(ha:0<=a/\a<8)(hb:0<=b/\b<8)(hc:0<=c/\c<8)(hi:0<=i/\i<=65535)(hA:ug o=true\/a=0)(hB:uf o=true\/b=0)(hC:ue o=true\/c=0)(hI:ud o=true\/i=0)
 (hl:o=15->i<n)(hs:o=23->i<=15)(hj:oh o=true->i<m):kD n m (o,a,b,c,i):=
 ⟨ho,⟨ha.1,ha.2,λh=>hA.elim (λh'=>by simp_all) id⟩,⟨hb.1,hb.2,λh=>hB.elim (λh'=>by simp_all) id⟩,
  ⟨hc.1,hc.2,λh=>hC.elim (λh'=>by simp_all) id⟩,⟨hi.1,hi.2,λh=>hI.elim (λh'=>by simp_all) id⟩,hl,hs,hj⟩
theorem Ic{n m r v:Int}(h:0<=r/\r<8)(hv:0<=v/\v<=65535):kD n m (1,r,0,0,v):=ins_mk (by decide) h (by decide) (by decide) hv (.inl (by decide)) (.inr rfl) (.inr rfl) (.inl (by decide)) (by omega) (by omega) (λh=>absurd h (by decide))
theorem Kq{n m r v:Int}(h:0<=r/\r<8)(hv:0<=v/\v<8):kD n m (2,r,v,0,0):=ins_mk (by decide) h hv (by decide) (by decide) (.inl (by decide)) (.inl (by decide)) (.inr rfl) (.inr rfl) (by omega) (by omega) (λh=>absurd h (by decide))
theorem BN{n m v:Int}(hv:0<=v/\v<=15):kD n m (23,0,0,0,v):=ins_mk (by decide) (by decide) (by decide) (by decide) (by omega) (.inr rfl) (.inr rfl) (.inr rfl) (.inl (by decide)) (by omega) (by omega) (λh=>absurd h (by decide))
theorem Ku{n m r v:Int}(h:0<=r/\r<8)(hv:0<=v/\v<n)(hn:n<=4):kD n m (15,r,0,0,v):=ins_mk (by decide) h (by decide) (by decide) (by omega) (.inl (by decide)) (.inr rfl) (.inr rfl) (.inl (by decide)) (by omega) (by omega) (λh=>absurd h (by decide))
theorem N8{n m o a b v:Int}(ho:o=16\/o=17)(h:0<=a/\a<8)(hb:0<=b/\b<8)(hv:0<=v/\v<=65535):kD n m (o,a,b,0,v):=by rcases ho with rfl|rfl;all_goals exact ins_mk (by decide) h hb (by decide) hv (.inl (by decide)) (.inl (by decide)) (.inr rfl) (.inl (by decide)) (by omega) (by omega) (λh=>absurd h (by decide))
theorem Km{n m o a b c:Int}(ho:3<=o/\o<=14)(h:0<=a/\a<8)(hb:0<=b/\b<8)(hc:0<=c/\c<8):kD n m (o,a,b,c,0):=ins_mk (by omega) h hb hc (by decide) (.inl (by unfold ug;simp;omega)) (.inl (by unfold uf;simp;omega)) (.inl (by unfold ue;simp;omega)) (.inr rfl) (by omega) (by omega) (λh=>by unfold oh at h;simp at h;omega)
theorem Up{n m v:Int}(hv:0<=v/\v<=65535)(hm:v<m):kD n m (18,0,0,0,v):=ins_mk (by decide) (by decide) (by decide) (by decide) hv (.inr rfl) (.inr rfl) (.inr rfl) (.inl (by decide)) (by omega) (by omega) (λ_=>hm)
theorem TZ{n m:Int}:kD n m (24,0,0,0,0):=ins_mk (by decide) (by decide) (by decide) (by decide) (by decide) (.inr rfl) (.inr rfl) (.inr rfl) (.inr rfl) (by omega) (by omega) (λh=>absurd h (by decide))
theorem kD.mono{n m m':Int}{i:DIn}(h:kD n m i)(hm:m<=m'):kD n m' i:=⟨h.op,h.a,h.b,h.c,h.imm,h.lea,h.sys,λhj=>by have:=h.jmp hj;omega⟩
theorem KF{n m a v:Int}(h:0<=a/\a<8)(hv:0<=v/\v<=65535)(hm:v<m):kD n m (20,a,0,0,v):=ins_mk (by decide) h (by decide) (by decide) hv (.inl (by decide)) (.inr rfl) (.inr rfl) (.inl (by decide)) (by omega) (by omega) (λ_=>hm)
theorem RZ{n XG k:Int}{l:M_}(h:DOk l k)(hn:1<=n/\n<=4)(hm:1<=XG/\XG<=100):Ok (rA n XG l k) λr=>∃o a b c i k',r=(o,a,b,c,i,l,k',())/\kD n XG (o,a,b,c,i)/\DOk l k':=by
 unfold rA;refine gN (by assumption) (by omega) (by omega) λv0 k0 a0 b0 d0=>?_;try dsimp only
 rw[J3 (by omega) (by omega)];simp only[oBS];refine Ok.bind (P:=λr=>∃x k',r=(n,XG,l,k',0,0,0,0,0,v0,x,0,0,0,ug v0,uf v0,ue v0,ud v0,())/\0<=x/\x<8/\(ug v0=false->x=0)/\DOk l k') ?_ ?_
 ·refine gg (λhc=>?_) λhc=>fT ⟨_,_,rfl,by omega,by omega,λ_=>rfl,d0⟩
  refine gN (by assumption) (by omega) (by omega) λv1 k1 a1 b1 d1=>?_;try dsimp only
  exact fT ⟨_,_,rfl,a1,b1,(λhh=>by rw[hc]at hh;cases hh),d1⟩
 rintro _ ⟨xa,k1,rfl,Q',YI,X2,d1⟩;dsimp only;refine Ok.bind (P:=λr=>∃x k',r=(n,XG,l,k',0,0,0,0,0,v0,xa,x,0,0,ug v0,uf v0,ue v0,ud v0,())/\0<=x/\x<8/\(uf v0=false->x=0)/\DOk l k') ?_ ?_
 ·refine gg (λhc=>?_) λhc=>fT ⟨_,_,rfl,by omega,by omega,λ_=>rfl,d1⟩
  refine gN (by assumption) (by omega) (by omega) λv2 k2 a2 b2 d2=>?_;try dsimp only
  exact fT ⟨_,_,rfl,a2,b2,(λhh=>by rw[hc]at hh;cases hh),d2⟩
 rintro _ ⟨xb,k2,rfl,hb0,ZM,hb2,d2⟩;dsimp only;refine Ok.bind (P:=λr=>∃x k',r=(n,XG,l,k',0,0,0,0,0,v0,xa,xb,x,0,ug v0,uf v0,ue v0,ud v0,())/\0<=x/\x<8/\(ue v0=false->x=0)/\DOk l k') ?_ ?_
 ·refine gg (λhc=>?_) λhc=>fT ⟨_,_,rfl,by omega,by omega,λ_=>rfl,d2⟩
  refine gN (by assumption) (by omega) (by omega) λv3 k3 a3 b3 d3=>?_;try dsimp only
  exact fT ⟨_,_,rfl,a3,b3,(λhh=>by rw[hc]at hh;cases hh),d3⟩
 rintro _ ⟨xc,k3,rfl,hc0,ZP,ZL,d3⟩;dsimp only;rw[xp];simp only[oBS];refine Ok.bind (P:=λr=>∃x k',r=(l,k',0,0,0,0,0,v0,xa,xb,xc,x,())/\0<=x/\x<=65535/\(ud v0=false->x=0)/\(v0=15->x<n)/\(v0=23->x<=15)/\(oh v0=true->x<XG)/\DOk l k') ?_ ?_
 ·refine gg (λhj=>?_) λhj=>?_
  ·refine gN (by assumption) (by omega) (by omega) λv4 k4 a4 b4 d4=>?_;try dsimp only
   have hne:v0≠15/\v0≠23:=by constructor<;>(rintro rfl;exact absurd hj (by decide))
   exact fT ⟨_,_,rfl,a4,by omega,(λhh=>by
    have:ud v0=true:=by unfold oh at hj;unfold ud;simp at hj⊢;omega
    rw[this]at hh;cases hh),by omega,by omega,λ_=>b4,d4⟩
  ·refine fV (λhc5=>?_) λhc5=>?_
   ·subst hc5
    refine gN (by assumption) (by omega) (by omega) λv4 k4 a4 b4 d4=>?_;try dsimp only
    exact fT ⟨_,_,rfl,a4,by omega,λhh=>absurd hh (by decide),by omega,by omega,λhh=>absurd hh (by decide),d4⟩
   ·refine fV (λhc6=>?_) λhc6=>?_
    ·subst hc6
     refine gN (by assumption) (by omega) (by omega) λv4 k4 a4 b4 d4=>?_;try dsimp only
     exact fT ⟨_,_,rfl,a4,by omega,λhh=>absurd hh (by decide),by omega,by omega,λhh=>absurd hh (by decide),d4⟩
    ·refine gg (λhu=>?_) λhu=>?_
     ·refine Lo (by assumption) λv4 k4 a4 b4 d4=>?_;try dsimp only
      (simp (disch:=omega) only [gE,gt,gh,gj])
      exact fT ⟨_,_,rfl,a4,by omega,(λhh=>by rw[hu]at hh;cases hh),by omega,by omega,(λhh=>by rw[show oh v0=false from hj]at hh;cases hh),d4⟩
     ·exact fT ⟨_,_,rfl,by omega,by omega,λ_=>rfl,by omega,by omega,(λhh=>by rw[show oh v0=false from hj]at hh;cases hh),d3⟩
 rintro _ ⟨xi,k4,rfl,hi0,Xw,Xx,hi3,hi4,hi5,d4⟩;exact fT ⟨_,_,_,_,_,_,rfl,⟨⟨a0,by dsimp only;omega⟩,⟨Q',YI,X2⟩,⟨hb0,ZM,hb2⟩,⟨hc0,ZP,ZL⟩,⟨hi0,Xw,Xx⟩,hi3,hi4,hi5⟩,d4⟩
theorem qe{α β:Type}{l:List α}{i:Nat}{f:α->Option β}{Q:β->Prop}(P:α->Prop)(h:i<l.length)(hP:∀x∈l,P x)(h2:∀a,P a->Ok (f a) Q):Ok ((fW l i).bind f) Q:=gV h λa ha=>h2 a (hP a (f8 ha))
theorem gD{α:Type}{P:α->Prop}:∀x∈([]:List α),P x:=λ_ h=>by cases h
theorem all_cons{α:Type}{P:α->Prop}{a:α}{l:List α}(h:P a)(h2:∀x∈l,P x):∀x∈a::l,P x:=by simp_all
theorem VC(a b:Int):lm a b=some (1,a,0,0,b,()):=rfl
theorem Vy(a b:Int):pG a b=some (2,a,b,0,0,()):=rfl
theorem SX(a:Int):j4 a=some (23,0,0,0,a,()):=rfl
theorem Xa{x:Int}(h:1<=x):1<=mmR false 5 x/\mmR false 5 x<=5:=by unfold mmR;simp;omega
def Mr(n at_:Int)(l:M_)(r:F_×M_×Int×Unit):Prop:=∃xs k',r=(xs,l,k',())/\1<=xs.length/\xs.length<=6/\(∀i∈xs,kD n (at_+xs.length) i)/\DOk l k'
theorem Fk{n at_:Int}{l:M_}{xs:F_}{k:Int}(h1:1<=xs.length/\xs.length<=6)(h2:∀i∈xs,kD n (at_+xs.length) i)(h3:DOk l k):Ok (some (xs,l,k,())) (Mr n at_ l):=fT ⟨xs,k,rfl,h1.1,h1.2,h2,h3⟩
theorem So{s l:M_}{at_ k:Int}(h:DOk l k)(hs:AY s)(ha:0<=at_/\at_<=99):Ok (sW s (at_+1) at_ l k) (Mr s.length at_ l):=by
 obtain⟨hs1,M',hsz⟩:=hs
 have hn:1<=(s.length:Int)/\(s.length:Int)<=4:=by omega
 unfold sW;delta f7;simp only[VC,Vy,SX,oBS]
 refine gN (by assumption) (by omega) (by omega) λvr kr ar br dr=>?_;try dsimp only
 refine gX λj hj=>?_;refine qe (λa=>1<=a/\a<=32) (by omega) hsz λz hz=>?_
 (simp (disch:=omega) only [gE,gt,gh,gj])
 have h5:=Xa (x:=z+1) (by omega);generalize mmR false 5 (z+1)=mm at h5
 refine gN (by assumption) (by omega) (by omega) λvu ku au bu du=>?_;try dsimp only
 refine gN (by assumption) (by omega) (by omega) λvw kw aw bw dw=>?_;try dsimp only
 iterate 19
  refine fV (λhcc=>?_) λhcc=>?_
  ·repeat (first|(simp (disch:=omega) only [gE,gt,gh,gj])|(with_reducible refine gN (by assumption) (by omega) (by omega) (λv k a b d=>?_);try dsimp only)|(with_reducible refine Lo (by assumption) (λv k a b d=>?_);try dsimp only)|(with_reducible refine jB (by omega) (λj hj=>?_);try dsimp only)|((with_reducible first|refine qe (λa=>1<=a/\a<=32) (by omega) (by assumption) (λe he=>?_)|refine qe (λa=>3<=a/\a<=14) (by simp only[oLC,oLN];omega) (by(first|exact(all_cons (by omega) (all_cons (by omega) gD))|exact(all_cons (by omega) (all_cons (by omega) (all_cons (by omega) gD)))|exact(all_cons (by omega) (all_cons (by omega) (all_cons (by omega) (all_cons (by omega) (all_cons (by omega) (all_cons (by omega) (all_cons (by omega) (all_cons (by omega) gD)))))))))) (λe he=>?_)|refine qe (λa=>0<=a/\a<=15) (by simp only[oLC,oLN];omega) (by(first|exact(all_cons (by omega) (all_cons (by omega) gD))|exact(all_cons (by omega) (all_cons (by omega) (all_cons (by omega) gD)))|exact(all_cons (by omega) (all_cons (by omega) (all_cons (by omega) (all_cons (by omega) (all_cons (by omega) (all_cons (by omega) (all_cons (by omega) (all_cons (by omega) gD)))))))))) (λe he=>?_)|refine qe (λa=>1<=a/\a<=100) (by simp only[oLC,oLN];omega) (by(first|exact(all_cons (by omega) (all_cons (by omega) gD))|exact(all_cons (by omega) (all_cons (by omega) (all_cons (by omega) gD)))|exact(all_cons (by omega) (all_cons (by omega) (all_cons (by omega) (all_cons (by omega) (all_cons (by omega) (all_cons (by omega) (all_cons (by omega) (all_cons (by omega) gD)))))))))) (λe he=>?_));try dsimp only)|(with_reducible refine fU (gf (by first|omega|simp)) ?_;try dsimp only)|(refine qe (λ(a:F_)=>(1<=a.length/\a.length<=6)/\∀i∈a,kD s.length (at_+a.length) i) (by simp only[oLC,oLN];omega) (all_cons ⟨by simp,by((repeat' (first|exact gD|refine all_cons ?_ ?_|exact Ic (by omega) (by omega)|exact Kq (by omega) (by omega)|exact BN (by omega)|exact Ku (by omega) (by omega) (by omega)|exact N8 (by omega) (by omega) (by omega) (by omega)|exact Km (by omega) (by omega) (by omega) (by omega)|exact KF (by omega) (by omega) (by simp only[oLC,oLN];omega)));done)⟩ (all_cons ⟨by simp,by((repeat' (first|exact gD|refine all_cons ?_ ?_|exact Ic (by omega) (by omega)|exact Kq (by omega) (by omega)|exact BN (by omega)|exact Ku (by omega) (by omega) (by omega)|exact N8 (by omega) (by omega) (by omega) (by omega)|exact Km (by omega) (by omega) (by omega) (by omega)|exact KF (by omega) (by omega) (by simp only[oLC,oLN];omega)));done)⟩ gD)) (λe he=>?_);try dsimp only))
   first
    |exact Fk he.1 he.2 (by assumption)
    |(refine Fk (by simp) ?_ (by assumption);try simp only[List.append_eq,List.cons_append,oNA]
      ((repeat' (first|exact gD|refine all_cons ?_ ?_|exact Ic (by omega) (by omega)|exact Kq (by omega) (by omega)|exact BN (by omega)|exact Ku (by omega) (by omega) (by omega)|exact N8 (by omega) (by omega) (by omega) (by omega)|exact Km (by omega) (by omega) (by omega) (by omega)|exact KF (by omega) (by omega) (by simp only[oLC,oLN];omega)));done))
 refine(RZ (by assumption) hn (by omega)).bind ?_;rintro _ ⟨o,a,b,c,i,k',rfl,hi,hd⟩;exact Fk (by simp) (all_cons (hi.mono (by simp)) gD) hd
theorem lp{α:Type}{P:α->Prop}{l m:List α}(h:∀x∈l,P x)(h2:∀x∈m,P x):∀x∈List.append l m,P x:=λx hx=>(oMA.1 (show x∈l++m from hx)).elim (h x) (h2 x)
theorem it{α:Type}(l m:List α):(List.append l m).length=l.length+m.length:=oLA
theorem sG{l:M_}{k n:Int}(h:DOk l k)(hn:0<=n/\n<=1000):Ok (i7 n l k) λr=>∃ws k',r=(ws,l,k',())/\(ws.length:Int)<=n/\(∀w∈ws,W16 w)/\DOk l k':=by
 unfold i7
 (simp (disch:=omega) only [gE,gt,gh,gj])
 refine gN (by assumption) (by omega) (by omega) λv0 k0 a0 b0 d0=>?_;try dsimp only
 refine gQ (P:=λ((c,l',k',s,_):Int×M_×Int×M_×Unit)=>l'=l/\DOk l k'/\0<=c/\c+s.length<=n/\∀x∈s,W16 x)
  (R:=λ((_,_,l',k',s,_):Int×Bool×M_×Int×M_×Unit)=>l'=l/\DOk l k'/\(s.length:Int)<=n/\∀x∈s,W16 x) (m:=λs=>s.1.toNat) ⟨rfl,d0,a0,by simp;omega,gD⟩ (by unfold NN;dsimp only;omega) ?_ ?_
 ·rintro⟨c,l',k3,s,_⟩ ⟨rfl,XK,hc0,hcs,hs⟩;unfold uz;dsimp only;refine fV (λhcc=>?_) λhcc=>?_
  ·refine Lo (by assumption) λv1 k1 a1 b1 d1=>?_;try dsimp only
   refine fU (gf (by simp;omega)) ?_
   (simp (disch:=omega) only [gE,gt,gh,gj])
   exact fT ⟨⟨rfl,by omega,by omega,by rw[it];simp;omega,lp hs (all_cons ⟨a1,b1⟩ gD)⟩,by omega⟩
  ·exact fT ⟨rfl,XK,by dsimp only;omega,hs⟩
 rintro⟨a,b,l',k3,s,_⟩ ⟨rfl,XK,hs,hw⟩;exact fT ⟨_,_,rfl,hs,hw,XK⟩
structure kT (code:F_)(s:M_)(d:j_):Prop where
 sz:AY s
 len:d.length=s.length
 fit:∀(j:Nat) x n,d[j]?=some x->s[j]?=some n->(x.length:Int)<=n
 num:∀x∈d,∀w∈x,W16 w
 clen:1<=code.length/\code.length<=64
 ins:∀i∈code,kD s.length code.length i
theorem Mb{code:F_}{s:M_}{d:j_}{l:M_}{k:Int}(hp:kT code s d):Ok (gd jO NN ((code.length:Int),0,l,k,(),(),(),code,s,d,())) λr=>∃a b c,r=(a,b,c,l,k,(),(),(),code,s,d,()):=by
 have:=gQ (f:=jO) (n:=NN) (Q:=λr=>∃a b c,r=(a,b,c,l,k,(),(),(),code,s,d,())) (s:=((code.length:Int),0,l,k,(),(),(),code,s,d,()))
  (P:=λs'=>∃i:Int,s'=((code.length:Int),i,l,k,(),(),(),code,s,d,())/\0<=i/\i<=code.length) (R:=λr=>∃a b c,r=(a,b,c,l,k,(),(),(),code,s,d,())) (m:=λs=>(s.1-s.2.1).toNat) ⟨0,rfl,by omega,by omega⟩ (by unfold NN;dsimp only;have:=hp.clen;omega) ?_ (λt ht=>fT ht)
 simp_all
 ·rintro _ ⟨i,rfl,hi0,Xw⟩;unfold jO;dsimp only;have hc:=hp.clen;refine fV (λhcc=>?_) λhcc=>?_
  ·refine Ok.bind (P:=λr=>r=((code.length:Int),i,l,k,(),(),(),code,s,d,())) ?_ ?_
   ·refine jB (by omega) λj hj=>?_;try dsimp only
    refine f9 λx hx=>?_;have hin:=hp.ins x (f8 hx);rw[xp];refine gg (λhjp=>?_) λ_=>fT rfl;refine gX λj2 hj2=>?_;refine f9 λy hy=>?_
    have hjj:j2=j:=by omega
    subst hjj;rw[hx]at hy
    injection hy with hy
    subst hy;have:=hin.jmp hjp;refine gg (λhcc=>?_) (λhcc=>?_)
    ·have h9:(x.2.2.2.2:Int)>=(code.length:Int):=of_decide_eq_true hcc;omega
    ·exact fT rfl
   ·rintro _ rfl;dsimp only
    (simp (disch:=omega) only [gE,gt,gh,gj])
    exact fT ⟨⟨i+1,rfl,by omega,by omega⟩,by dsimp only;omega⟩
  ·exact fT ⟨_,_,_,rfl⟩
theorem MX{l:M_}{k:Int}(h:DOk l k):Ok (oD l k) λr=>∃code s d k',r=(code,s,d,l,k',())/\kT code s d/\DOk l k':=by
 unfold oD;refine(QW h).bind ?_;rintro _ ⟨s,k1,rfl,hs,hd⟩;obtain⟨hs1,M',hsz⟩:=id hs;dsimp only;delta f7;try dsimp only
 refine gQ (P:=λs'=>∃k' d,s'=((s.length:Int),(d.length:Int),l,k',(),(),(),(),s,d,())/\DOk l k'/\d.length<=s.length/\(∀(j:Nat) x n,d[j]?=some x->s[j]?=some n->(x.length:Int)<=n)/\∀x∈d,∀w∈x,W16 w)
  (R:=λr=>∃a b c k' d,r=(a,b,c,l,k',(),(),(),(),s,d,())/\DOk l k'/\d.length=s.length/\(∀(j:Nat) x n,d[j]?=some x->s[j]?=some n->(x.length:Int)<=n)/\∀x∈d,∀w∈x,W16 w)
  (m:=λs=>(s.1-s.2.1).toNat) ⟨k1,[],rfl,hd,by simp,by simp,gD⟩ (by unfold NN;dsimp only;omega) ?_ ?_
 ·rintro _ ⟨k',d,rfl,Yy,hdl,Z4,B'⟩;unfold sc;dsimp only;refine fV (λhcc=>?_) λhcc=>?_
  ·refine jB (by omega) λj hj=>?_;try dsimp only
   refine f9 λx hx=>?_;refine f9 λy hy=>?_
   have ZR:j=d.length:=by omega
   subst ZR;have hy2:=hsz y (f8 hy);refine(sG Yy ⟨by omega,by omega⟩).bind ?_;rintro _ ⟨ws,k2,rfl,hwl,hww,hd2⟩;dsimp only;refine fU (gf (by simp;omega)) ?_
   (simp (disch:=omega) only [gE,gt,gh,gj])
   refine fT ⟨⟨k2,List.append d [ws],by rw[it];simp,hd2,by rw[it];simp;omega,?_,lp B' (all_cons hww gD)⟩,by dsimp only;omega⟩;intro i x n hx hn;rw[show List.append d [ws]=d++[ws]from rfl,List.getElem?_append]at hx;split at hx
   ·exact Z4 i x n hx hn
   ·rename_i hge
    have:i-d.length=0:=by
     rcases Nat.eq_zero_or_pos (i-d.length)with h|h
     ·exact h
     ·rw[oGN (by simp;omega)]at hx;cases hx
    have hi:i=d.length:=by omega
    subst hi;simp at hx;subst hx;rw[hy]at hn
    injection hn with hn
    omega
  ·exact fT ⟨_,_,_,_,_,rfl,Yy,by omega,Z4,B'⟩
 rintro _ ⟨a,b,c,k2,d,rfl,hd2,hdl,Z4,B'⟩;dsimp only;refine gN (by assumption) (by omega) (by omega) λv0 k0 a0 b0 d0=>?_;try dsimp only
 (simp (disch:=omega) only [gE,gt,gh,gj])
 refine gQ (P:=λs'=>∃i k' code,s'=(i,l,k',(),(),(),code,s,d,())/\0<=i/\i<=12/\DOk l k'/\code.length<=62/\∀i∈code,kD s.length code.length i)
  (R:=λr=>∃a b k' code,r=(a,b,l,k',(),(),(),code,s,d,())/\DOk l k'/\code.length<=62/\∀i∈code,kD s.length code.length i)
  (m:=λs=>s.1.toNat) ⟨_,_,[],rfl,by omega,by omega,d0,by simp,gD⟩ (by unfold NN;dsimp only;omega) ?_ ?_
 rintro _ ⟨i,k',code,rfl,hi0,Xw,Yy,Y9,Yc⟩;unfold sb;dsimp only;refine fV (λhcc=>?_) λhcc=>?_;refine Ok.bind (P:=λr=>∃k' code,r=(i,l,k',(),(),(),code,s,d,())/\DOk l k'/\code.length<=62/\∀i∈code,kD s.length code.length i) ?_ ?_
 ·(simp (disch:=omega) only [gE,gt,gh,gj])
  refine(So Yy hs ⟨by omega,by omega⟩).bind ?_;rintro _ ⟨xs,k3,rfl,Z2,hx6,hxs,XK⟩;dsimp only
  (simp (disch:=omega) only [gE,gt,gh,gj])
  refine fV (λhcc=>?_) λhcc=>?_
  ·refine fU (gf (by omega)) ?_;refine fT ⟨_,_,rfl,XK,by rw[it];omega,?_⟩;rw[it];exact lp (λi hi=>(Yc i hi).mono (by omega)) (λi hi=>(hxs i hi).mono (by omega))
  ·exact fT ⟨_,_,rfl,XK,Y9,Yc⟩
 rintro _ ⟨k3,YV,rfl,XK,hcl2,hins2⟩;dsimp only
 (simp (disch:=omega) only [gE,gt,gh,gj])
 exact fT ⟨⟨_,_,_,rfl,by omega,by omega,XK,hcl2,hins2⟩,by dsimp only;omega⟩;exact fT ⟨_,_,_,_,rfl,Yy,Y9,Yc⟩;rintro _ ⟨a,b,k3,code,rfl,XK,Y9,Yc⟩;dsimp only;refine Ok.bind (P:=λr=>∃k' code,r=(l,k',(),(),(),code,s,d,())/\DOk l k'/\code.length<=63/\∀i∈code,kD s.length (code.length+1) i) ?_ ?_
 ·refine gN (by assumption) (by omega) (by omega) λv1 k1 a1 b1 d1=>?_;try dsimp only
  refine fV (λhcc=>?_) λhcc=>?_
  ·(simp (disch:=omega) only [gE,gt,gh,gj])
   refine gN (by assumption) (by omega) (by omega) λv2 k2 a2 b2 d2=>?_;try dsimp only
   refine fU (gf (by simp;omega)) ?_;refine fT ⟨_,_,rfl,d2,by rw[it];simp;omega,?_⟩;rw[it];exact lp (λi hi=>(Yc i hi).mono (by simp;omega)) (all_cons (Up (by omega) (by simp;omega)) gD)
  ·refine fV (λhcc=>?_) λhcc=>?_
   ·refine fU (gf (by simp;omega)) ?_;refine fT ⟨_,_,rfl,d1,by rw[it];simp;omega,?_⟩;rw[it];exact lp (λi hi=>(Yc i hi).mono (by simp;omega)) (all_cons TZ gD)
   ·exact fT ⟨_,_,rfl,d1,by omega,λi hi=>(Yc i hi).mono (by omega)⟩
 rintro _ ⟨k4,YV,rfl,hd4,hcl2,hins2⟩;dsimp only;refine gN (by assumption) (by omega) (by omega) λv3 k3 a3 b3 d3=>?_;try dsimp only
 simp only[VC,SX,oBS];refine fU (gf (by simp;omega)) ?_;simp only[it];refine gg (λhc=>?_) λ_=>?_;have ZN:∀i∈List.append YV [(1,0,0,0,v3),(23,0,0,0,0)],kD s.length (YV.length+1) i:=lp hins2 (all_cons (Ic (by omega) (by omega)) (all_cons (BN (by omega)) gD));simp only[oDE]at hc;have hcn:(YV.length:Int)+2>64:=by have:((YV.length + [((1:Int),(0:Int),(0:Int),(0:Int),v3),(23,0,0,0,0)].length:Nat):Int)>64:=hc;simpa using this
 have h63:YV.length=63:=by omega
 refine fU (by rw[h63];rfl) ?_;have hlen:(nV (List.append YV [((1:Int),(0:Int),(0:Int),(0:Int),v3),(23,0,0,0,0)]) 0 (Nat.sub 64 0)).length=64:=by unfold nV;rw[oLT,List.drop_zero,it,h63];rfl
 have hp:kT (nV (List.append YV [((1:Int),(0:Int),(0:Int),(0:Int),v3),(23,0,0,0,0)]) 0 (Nat.sub 64 0)) s d:=by refine⟨hs,hdl,Z4,B',by rw[hlen];decide,λi hi=>?_⟩;rw[hlen];refine(ZN i ?_).mono (by omega);unfold nV at hi;exact List.mem_of_mem_drop (List.mem_of_mem_take hi)
 refine(Mb (l:=l) (k:=_) hp).bind ?_;rintro _ ⟨a,b,c,rfl⟩;exact fT ⟨_,_,_,_,rfl,hp,d3⟩;have hp:kT (List.append YV [(1,0,0,0,v3),(23,0,0,0,0)]) s d:=by refine⟨hs,hdl,Z4,B',?_,?_⟩;rw[it];rename_i hc;have hcn:¬((YV.length + [((1:Int),(0:Int),(0:Int),(0:Int),v3),(23,0,0,0,0)].length:Nat):Int)>64:=of_decide_eq_false hc;simp only[oLC,oLN]at hcn⊢;omega;rw[it];exact lp (λi hi=>(hins2 i hi).mono (by simp)) (all_cons (Ic (by omega) (by omega)) (all_cons (BN (by omega)) gD))
 have hf:=Mb (l:=l) (k:=k3) hp;rw[it]at hf;refine hf.bind ?_;rintro _ ⟨a,b,c,rfl⟩;exact fT ⟨_,_,_,_,rfl,hp,d3⟩
theorem Mn{P:Int->Prop}{s:M_}{i:Nat}{x:Int}(h:∀(j:Nat) y,j<i->s[j]?=some y->P y)(hx:s[i]?=some x)(hp:P x):∀(j:Nat) y,j<i+1->s[j]?=some y->P y:=by grind
theorem NZ{s:M_}(hl:s.length<=1000):Ok (i4 s) λr=>r.1=true↔AY s:=by
 unfold i4;delta f7;try dsimp only
 obtain⟨t,e,ht⟩:=hJ (f:=pd) (n:=NN) (s:=(s,s,(s.length:Int),0,())) (P:=λs'=>∃i:Nat,s'=(s,s,(s.length:Int),(i:Int),())/\i<=s.length/\∀(j:Nat) y,j<i->s[j]?=some y->1<=y/\y<=32) (R:=λr=>(r=.inl (false,())/\∃y∈s,¬(1<=y/\y<=32))\/((∃a b c d,r=.inr (s,a,b,c,d,()))/\∀y∈s,1<=y/\y<=32)) (m:=λs'=>(s'.2.2.1-s'.2.2.2.1).toNat) ⟨0,rfl,by omega,λj y hj=>by omega⟩ (by unfold NN;dsimp only;omega) (by
  rintro _ ⟨i,rfl,hi,ZN⟩;unfold pd;refine fV (λhcc=>?_) λhcc=>?_;rw[fZ];refine f9 λx hx=>?_;refine fV (λXJ=>?_) λXJ=>?_;exact fT (.inl ⟨rfl,x,f8 hx,by omega⟩);refine fV (λXt=>?_) λXt=>?_;exact fT (.inl ⟨rfl,x,f8 hx,by omega⟩)
  ·(simp (disch:=omega) only [gE,gt,gh,gj])
   exact fT ⟨⟨i+1,rfl,by omega,Mn ZN hx ⟨by omega,by omega⟩⟩,by dsimp only;omega⟩
  refine fT (.inr ⟨⟨_,_,_,_,rfl⟩,λy hy=>?_⟩);have ⟨j,hj⟩:=List.getElem?_of_mem hy;exact ZN j y (by have:=(oGS hj).1;omega) hj)
 rw[e];rcases ht with⟨rfl,y,hy,hn⟩|⟨⟨a,b,c,d,rfl⟩,ZN⟩;exact fT ⟨λh=>(by cases h),λh=>absurd (h.2.2 y hy) hn⟩;dsimp only;refine fV (λhcc=>?_) λhcc=>?_;exact fT ⟨λh=>⟨by omega,(by have:=of_decide_eq_true h;omega),ZN⟩,λh=>oDT (by have:=h.2.1;omega)⟩;exact fT ⟨λh=>(by cases h),λh=>by have:=h.1;omega⟩
abbrev VS(xs:M_):Prop:=AY xs
theorem P6{l:M_}{k:Nat}(h:k<l.length):l.getD k 0=l[k]:=by simp[List.getD,h]
def xD(bs ss:M_)(i:Nat):Prop:=0<=bs.getD i 0/\bs.getD i 0+ss.getD i 0<=512/\∀k,k<i->¬(bs.getD i 0<=bs.getD k 0+ss.getD k 0/\bs.getD k 0<=bs.getD i 0+ss.getD i 0)
def LV(bs ss:M_):Prop:=VS ss/\bs.length=ss.length/\∀i,i<bs.length->xD bs ss i
theorem VS.at_{ss:M_}(h:VS ss){i:Nat}(hi:i<ss.length):1<=ss[i]/\ss[i]<=32:=h.2.2 _ (oGX hi)
def ww(ss:M_)(seed:Int):Nat->M_×Int|0=>(List.replicate ss.length 0,1+seed/ss.length%50)|k+1=>((ww ss seed k).1.set (((k+seed)%ss.length).toNat) (ww ss seed k).2,(ww ss seed k).2+(ss.getD ((k+seed)%ss.length).toNat 0+1+seed/(50*ss.length)%40))
def mkB(ss:M_)(seed:Int):M_:=(ww ss seed ss.length).1
theorem RM(ss:M_)(seed:Int)(k:Nat):(ww ss seed k).1.length=ss.length:=by induction k with|zero=>simp[ww]|succ k ih=>simp[ww,ih]
theorem VS.getD{ss:M_}(h:VS ss){i:Nat}(hi:i<ss.length):1<=ss.getD i 0/\ss.getD i 0<=32:=by rw[P6 hi];exact h.at_ hi
theorem S1{n k:Nat}{seed:Int}(hn:1<=n):0<=((k:Int)+seed)%n/\((k:Int)+seed)%n<n:=⟨Int.emod_nonneg _ (by omega),Int.emod_lt_of_pos _ (by omega)⟩
theorem Ug{ss:M_}{seed:Int}(h:VS ss)(hs:0<=seed)(k:Nat):1<=(ww ss seed k).2/\(ww ss seed k).2<=50+72*k:=by induction k with|zero=>simp[ww];omega|succ k ih=>simp only[ww];have hr:=S1 (k:=k) (seed:=seed) h.1;have:=h.getD (i:=(((k:Int)+seed)%ss.length).toNat) (by omega);omega
theorem PE{ss:M_}(h0:1<=ss.length)(h1:ss.length<=4):(∃a,ss=[a])\/(∃a b,ss=[a,b])\/(∃a b c,ss=[a,b,c])\/(∃a b c d,ss=[a,b,c,d]):=by match ss,h0,h1 with| [a],_,_=>simp_all| [a,b],_,_=>simp_all| [a,b,c],_,_=>simp_all| [a,b,c,d],_,_=>simp_all
theorem Bo{P:Nat->Prop}(h0:P 0):∀i,i<1->P i:=by simp_all
theorem Ff{P:Nat->Prop}(h0:P 0)(h1:P 1):∀i,i<2->P i:=by grind
theorem LL{P:Nat->Prop}(h0:P 0)(h1:P 1)(h2:P 2):∀i,i<3->P i:=by grind
theorem Ro{P:Nat->Prop}(h0:P 0)(h1:P 1)(h2:P 2)(h3:P 3):∀i,i<4->P i:=by grind
def QK(b s:Int):Prop:=0<=b/\b+s<=512
def jh(b s b' s':Int):Prop:=¬(b<=b'+s'/\b'<=b+s)
theorem LV1{a x:Int}(hv:VS [a])(h:QK x a):LV [x] [a]:=⟨hv,rfl,Bo ⟨h.1,h.2,λk hk=>by omega⟩⟩
theorem LV2{a b x y:Int}(hv:VS [a,b])(h:QK x a)(h':QK y b)(h1:jh y b x a):LV [x,y] [a,b]:=⟨hv,rfl,Ff ⟨h.1,h.2,λk hk=>by omega⟩ ⟨h'.1,h'.2,Bo h1⟩⟩
theorem LV3{a b c x y z:Int}(hv:VS [a,b,c])(h:QK x a)(h':QK y b)(h'':QK z c)(h1:jh y b x a)(h2:jh z c x a)(h3:jh z c y b):LV [x,y,z] [a,b,c]:=⟨hv,rfl,LL ⟨h.1,h.2,λk hk=>by omega⟩ ⟨h'.1,h'.2,Bo h1⟩ ⟨h''.1,h''.2,Ff h2 h3⟩⟩
theorem LV4{a b c d x y z u:Int}(hv:VS [a,b,c,d])(h:QK x a)(h':QK y b)(h'':QK z c)(h''':QK u d)(h1:jh y b x a)(h2:jh z c x a)(h3:jh z c y b)(h4:jh u d x a)(h5:jh u d y b)(h6:jh u d z c):LV [x,y,z,u] [a,b,c,d]:=⟨hv,rfl,Ro ⟨h.1,h.2,λk hk=>by omega⟩ ⟨h'.1,h'.2,Bo h1⟩ ⟨h''.1,h''.2,Ff h2 h3⟩ ⟨h'''.1,h'''.2,LL h4 h5 h6⟩⟩
theorem Wh{ss:M_}(hv:VS ss){seed:Int}(hs:0<=seed):LV (mkB ss seed) ss:=by
 have YU:=hv;rcases PE hv.1 hv.2.1 with⟨a,rfl⟩|⟨a,b,rfl⟩|⟨a,b,c,rfl⟩|⟨a,b,c,d,rfl⟩;obtain⟨_,_,hx⟩:=hv;have ha:=hx a (by simp);have e0:(((0:Nat):Int)+seed)%1=0:=by omega
 have hB:mkB [a] seed=[1+seed/1%50]:=by simp[mkB,ww,List.replicate]
 rw[hB];exact LV1 YU ⟨by omega,by omega⟩;obtain⟨_,_,hx⟩:=hv;have ha:=hx a (by simp);have hb:=hx b (by simp);rcases(show seed%2=0\/seed%2=1 by omega)with ht|ht;have e1:(1+seed)%2=1:=by omega
 simp only[mkB,ww,oLC,oLN,List.replicate];simp[ht,e1];exact LV2 YU ⟨by omega,by omega⟩ ⟨by omega,by omega⟩ (by unfold jh;omega);have e1:(1+seed)%2=0:=by omega
 simp only[mkB,ww,oLC,oLN,List.replicate];simp[ht,e1];exact LV2 YU ⟨by omega,by omega⟩ ⟨by omega,by omega⟩ (by unfold jh;omega);obtain⟨_,_,hx⟩:=hv;have ha:=hx a (by simp);have hb:=hx b (by simp);have hc:=hx c (by simp);rcases(show seed%3=0\/seed%3=1\/seed%3=2 by omega)with ht|ht|ht;have e1:(1+seed)%3=1:=by omega
 have e2:(2+seed)%3=2:=by omega
 simp only[mkB,ww,oLC,oLN,List.replicate];simp[ht,e1,e2];exact LV3 YU ⟨by omega,by omega⟩ ⟨by omega,by omega⟩ ⟨by omega,by omega⟩ (by unfold jh;omega) (by unfold jh;omega) (by unfold jh;omega);have e1:(1+seed)%3=2:=by omega
 have e2:(2+seed)%3=0:=by omega
 simp only[mkB,ww,oLC,oLN,List.replicate];simp[ht,e1,e2];exact LV3 YU ⟨by omega,by omega⟩ ⟨by omega,by omega⟩ ⟨by omega,by omega⟩ (by unfold jh;omega) (by unfold jh;omega) (by unfold jh;omega);have e1:(1+seed)%3=0:=by omega
 have e2:(2+seed)%3=1:=by omega
 simp only[mkB,ww,oLC,oLN,List.replicate];simp[ht,e1,e2];exact LV3 YU ⟨by omega,by omega⟩ ⟨by omega,by omega⟩ ⟨by omega,by omega⟩ (by unfold jh;omega) (by unfold jh;omega) (by unfold jh;omega);obtain⟨_,_,hx⟩:=hv;have ha:=hx a (by simp);have hb:=hx b (by simp);have hc:=hx c (by simp);have hd:=hx d (by simp);have hq:∀q g:Int,q=1+seed/4%50->g=seed/(50*4)%40->1<=q/\q<=50/\0<=g/\g<40:=λq g e e'=>by subst e;subst e';omega
 rcases(show seed%4=0\/seed%4=1\/seed%4=2\/seed%4=3 by omega)with ht|ht|ht|ht;have e1:(1+seed)%4=1:=by omega
 have e2:(2+seed)%4=2:=by omega
 have e3:(3+seed)%4=3:=by omega
 simp only[mkB,ww,oLC,oLN,List.replicate];simp[ht,e1,e2,e3];exact LV4 YU ⟨by omega,by omega⟩ ⟨by omega,by omega⟩ ⟨by omega,by omega⟩ ⟨by omega,by omega⟩ (by unfold jh;omega) (by unfold jh;omega) (by unfold jh;omega) (by unfold jh;omega) (by unfold jh;omega) (by unfold jh;omega);have e1:(1+seed)%4=2:=by omega
 have e2:(2+seed)%4=3:=by omega
 have e3:(3+seed)%4=0:=by omega
 simp only[mkB,ww,oLC,oLN,List.replicate];simp[ht,e1,e2,e3];exact LV4 YU ⟨by omega,by omega⟩ ⟨by omega,by omega⟩ ⟨by omega,by omega⟩ ⟨by omega,by omega⟩ (by unfold jh;omega) (by unfold jh;omega) (by unfold jh;omega) (by unfold jh;omega) (by unfold jh;omega) (by unfold jh;omega);have e1:(1+seed)%4=3:=by omega
 have e2:(2+seed)%4=0:=by omega
 have e3:(3+seed)%4=1:=by omega
 simp only[mkB,ww,oLC,oLN,List.replicate];simp[ht,e1,e2,e3];exact LV4 YU ⟨by omega,by omega⟩ ⟨by omega,by omega⟩ ⟨by omega,by omega⟩ ⟨by omega,by omega⟩ (by unfold jh;omega) (by unfold jh;omega) (by unfold jh;omega) (by unfold jh;omega) (by unfold jh;omega) (by unfold jh;omega);have e1:(1+seed)%4=0:=by omega
 have e2:(2+seed)%4=1:=by omega
 have e3:(3+seed)%4=2:=by omega
 simp only[mkB,ww,oLC,oLN,List.replicate];simp[ht,e1,e2,e3];exact LV4 YU ⟨by omega,by omega⟩ ⟨by omega,by omega⟩ ⟨by omega,by omega⟩ ⟨by omega,by omega⟩ (by unfold jh;omega) (by unfold jh;omega) (by unfold jh;omega) (by unfold jh;omega) (by unfold jh;omega) (by unfold jh;omega)
theorem M8{α:Type}(l:List α)(i:Nat)(a:α):List.modify l i (λ_=>a)=l.set i a:=by apply oEG;grind
theorem Uk{s:M_}{seed:Int}(hs:AY s)(h0:0<=seed)(h1:seed<=1073741824):Ok (oT s seed) λr=>∃key,r=(mkB s seed,key,0,())/\W16 key:=by
 obtain⟨hs1,M',hsz⟩:=id hs;unfold oT;delta f7;try dsimp only
 refine Ok.bind (P:=λr=>r=(s,seed,false,(),0,())) ?_ ?_;refine(NZ (by omega)).bind ?_;rintro⟨v,_⟩ hv;have hv:v=true:=hv.2 hs;subst hv;simp only[oNT,oCF];refine fV (λZ3=>?_) λZ3=>?_;omega;exact fT (by rw[oDF (by omega)]);rintro _ rfl;dsimp only;refine gg (λh=>by cases h) λ_=>?_;rw[fZ];simp only[oBS];refine fU (by unfold xT;rw[oBA];exact⟨oDT rfl,oDT (by omega)⟩) ?_;refine fU (by rw[bne_iff_ne];omega) ?_;have Yp:Int.tdiv seed s.length=seed/s.length:=Int.tdiv_eq_ediv_of_nonneg h0;have hq:0<=seed/(s.length:Int)/\seed/(s.length:Int)<=seed:=⟨Int.ediv_nonneg h0 (by omega),Int.ediv_le_self _ h0⟩;have hm1:Int.tmod (seed/(s.length:Int)) 50=seed/(s.length:Int)%50:=oTE hq.1;rw[Yp,iC (x:=seed/(s.length:Int)),hm1,iC (x:=1+seed/(s.length:Int)%50)];have Xy:W16 (wk .u16 (w64 (40503*seed))):=by unfold wk;rw[xG];exact⟨by omega,by omega⟩
 generalize wk .u16 (w64 (40503*seed))=key at Xy;refine gQ (P:=λs'=>∃k:Nat,s'=(s,seed,(s.length:Int),(ww s seed k).2,(s.length:Int),(k:Int),(),0,(ww s seed k).1,key,())/\k<=s.length) (R:=λr=>∃a b c d e f g h,r=(a,b,c,d,e,f,g,(),h,(ww s seed s.length).1,key,()))
  (m:=λs'=>(s'.2.2.2.2.1-s'.2.2.2.2.2.1).toNat) ⟨0,rfl,by omega⟩ (by unfold NN;dsimp only;omega) ?_ ?_
 rintro _ ⟨k,rfl,hk⟩;unfold ux;dsimp only;have hb:=Ug hs h0 k;refine fV (λhcc=>?_) λhcc=>?_;have hr:=S1 (k:=k) (seed:=seed) hs1;rw[iC (x:=(k:Int)+seed)];refine fU (by rw[bne_iff_ne];omega) ?_;rw[oTE (show 0<=(k:Int)+seed by omega)];refine jB hr.1 λr hrr=>?_;have hl:=RM s seed k;refine f9 λx hx=>?_;refine f9 λy hy=>?_;refine jB hr.1 λr2 hrr2=>?_;have:r2=r:=by omega
 subst this;refine f9 λz hz=>?_;have W':=hsz z (f8 hz);rw[iC (x:=z+1),iC (x:=50*(s.length:Int))];refine fU (by rw[bne_iff_ne];omega) ?_;have hd2:Int.tdiv seed (50*(s.length:Int))=seed/(50*s.length):=Int.tdiv_eq_ediv_of_nonneg h0;have Y7:0<=seed/(50*(s.length:Int))/\seed/(50*(s.length:Int))<=seed:=⟨Int.ediv_nonneg h0 (by omega),Int.ediv_le_self _ h0⟩;have hm3:Int.tmod (seed/(50*(s.length:Int))) 40=seed/(50*s.length)%40:=oTE Y7.1;rw[hd2,iC (x:=seed/(50*(s.length:Int))),hm3];generalize hg:seed/(50*(s.length:Int))%40=g;have Zx:0<=g/\g<40:=by omega
 rw[iC (x:=z+1+g),iC (x:=(ww s seed k).2+(z+1+g)),iC (x:=(k:Int)+1),M8];have e1:(ww s seed (k+1)).1=(ww s seed k).1.set r2 (ww s seed k).2:=by simp only[ww];rw[hrr];rfl
 have e2:(ww s seed (k+1)).2=(ww s seed k).2+(z+1+g):=by simp only[ww];rw[hrr,hg,oTN,oGD,hz];rfl
 refine fT ⟨⟨k+1,?_,by omega⟩,by dsimp only;omega⟩;rw[e1,e2];rfl;have:k=s.length:=by omega
 subst this;exact fT ⟨_,_,_,_,_,_,_,_,rfl⟩;rintro _ ⟨a,b,c,d,e,f,g,h,rfl⟩;exact fT ⟨key,rfl,Xy⟩
theorem mJ{S T:Type}{f:S->Option (S⊕T)}(st:Nat->S){n N:Nat}{t:T}(hn:n<N)(h:∀i,i<n->Ok (f (st i)) (·=.inl (st (i+1))))(he:Ok (f (st n)) (·=.inr t)):gd f N (st 0)=some t:=by
 have key:∀k i,i+k=n->∀N,k<N->gd f N (st i)=some t:=by
  intro k;induction k with
  |zero=>
  intro i hi N hN;obtain⟨x,e,hx⟩:=he;have:i=n:=by omega
  subst this;obtain⟨N',rfl⟩:∃N',N=N'+1:=⟨N-1,by omega⟩;simp[gd,e,hx]
  |succ k ih=>intro i hi N hN;have ⟨x,e,hx⟩:=h i (by omega);obtain⟨N',rfl⟩:∃N',N=N'+1:=⟨N-1,by omega⟩;simp[gd,e,hx];exact ih (i+1) (by omega) N' (by omega)
 simp_all
theorem gW{α:Type}{o:Option α}{a:α}(h:Ok o (·=a)):o=some a:=by obtain⟨x,e,rfl⟩:=h;exact e
theorem gu{l:M_}{k:Nat}{x:Int}(h:l[k]?=some x):l.getD k 0=x:=by simp_all
theorem vH{s:M_}(h:AY s):i4 s=some (true,()):=by have ⟨⟨v,u⟩,e,hv⟩:=NZ (s:=s) (by have:=h.2.1;omega);simp_all
theorem vG{bs ss:M_}{key:Int}(h:LV bs ss):j3 bs key ss=some (true,()):=by
 obtain⟨hs,hl,hr⟩:=h;have h4:=hs.2.1;unfold j3;rw[vH hs];delta f7;simp only[oBS,oNT,oCF,hl,oBN];have e:gd mr NN (ss,bs,(ss.length:Int),0,bs,key,())=some (.inr (ss,bs,(ss.length:Int),(ss.length:Int),false,bs,key,())):=by
  refine mJ (st:=λi=>(ss,bs,(ss.length:Int),(i:Int),bs,key,())) (n:=ss.length) (by unfold NN;omega) ?_ ?_;intro i hi;unfold mr;dsimp only;have hri:=hr i (by omega);unfold xD at hri;refine fV (λZ'=>?_) λZ'=>?_;rw[fZ];simp only[oBS];refine f9 λb hb=>?_;rw[gu hb]at hri;refine fV (λZ3=>?_) λZ3=>?_;omega;refine f9 λz hz=>?_;rw[gu hz]at hri;have W':=hs.2.2 z (f8 hz)
  (simp (disch:=omega) only [gE,gt,gh,gj])
  refine fV (λhcc=>?_) λhcc=>?_;omega;refine fU (by unfold iX;simp;omega) ?_;have hwl:(nV bs 0 (Nat.sub i 0)).length=i:=by unfold nV;rw[oLT,List.drop_zero];show min i _=i;omega
  rw[hwl];have e:gd ms NN (ss,(i:Int),b,bs,(ss.length:Int),(i:Int),nV bs 0 (Nat.sub i 0),(i:Int),0,bs,key,())=some (.inr (ss,(i:Int),b,bs,(ss.length:Int),(i:Int),nV bs 0 (Nat.sub i 0),(i:Int),(i:Int),false,bs,key,())):=by
   refine mJ (st:=λj=>(ss,(i:Int),b,bs,(ss.length:Int),(i:Int),nV bs 0 (Nat.sub i 0),(i:Int),(j:Int),bs,key,())) (n:=i) (by unfold NN;omega) ?_ ?_;intro j hj;unfold ms;dsimp only;refine fV (λZ'=>?_) λZ'=>?_;rw[fZ,fZ];simp only[oBS];have hx:(fW (nV bs 0 (Nat.sub i 0)) j)=bs[j]?:=by unfold fW nV;rw[List.getElem?_take,List.drop_zero];exact oIP hj
   rw[hx];obtain⟨c,hc⟩:=gw bs j (by omega);obtain⟨y,hy⟩:=gw ss j (by omega);have hy2:=hs.2.2 y (f8 hy);have hz':fW ss i=some z:=hz;have hy':fW ss j=some y:=hy;rw[hc,hz',hy'];simp only[oBS];have hrj:=(hr j (by omega)).1;have hrj2:=(hr j (by omega)).2.1;rw[gu hc]at hrj hrj2;rw[gu hy]at hrj2;have Yj:=hri.2.2 j hj;rw[gu hc,gu hy]at Yj;rw[iC (x:=b+z),iC (x:=c+y)];by_cases h1:b+z>=c;have h2:¬c+y>=b:=by omega
   simp only[h1,h2,decide_true,decide_false,oCT,oCF]
   (simp (disch:=omega) only [gE,gt,gh,gj])
   exact fT rfl;simp only[h1,decide_false,oCF]
   (simp (disch:=omega) only [gE,gt,gh,gj])
   exact fT rfl;omega;unfold ms;dsimp only;refine fV (λZ'=>?_) λZ'=>?_;omega;exact fT rfl
  rw[e]
  (simp (disch:=omega) only [gE,gt,gh,gj])
  exact fT rfl;omega;unfold mr;dsimp only;refine fV (λZ'=>?_) λZ'=>?_;omega;exact fT rfl
 rw[e]
theorem PT{n m o a b c i:Int}(h:kD n m (o,a,b,c,i))(hn:n<=4)(hm:m<=64):pC o a b c i=some (true,()):=by
 obtain⟨⟨o0,o1⟩,⟨a0,a1,a2⟩,⟨b0,b1,b2⟩,⟨c0,c1,c2⟩,⟨i0,i1,i2⟩,hl,hs,hj⟩:=h;dsimp only at *;have Yg:∀(k:Nat)(x:Int)(u:Bool),k<3->[a,b,c][k]?=some x->(k=0->u=ug o)->(k=1->u=uf o)->(k=2->u=ue o)->0<=x->x<8->(u=false->x=0)->Ok (mp (3,(k:Int),o,a,b,c,i,ug o,uf o,ue o,ud o,[a,b,c],())) (·=.inl (3,((k+1:Nat):Int),o,a,b,c,i,ug o,uf o,ue o,ud o,[a,b,c],())):=by
  intro k x u hk hx h0 h1 h2 hx0 Z2 YB;unfold mp;dsimp only;refine fV (λZ'=>?_) λZ'=>?_;rw[fZ];simp only[oBS];rw[show fW [a,b,c] k=some x from hx];simp only[oBS];rw[oDF (show ¬x<0 by omega),oDF (show ¬x>=8 by omega)];simp only[oCF];have ZV:Ok (some ((3:Int),(k:Int),false,o,a,b,c,i,ug o,uf o,ue o,ud o,[a,b,c],())) (·=((3:Int),(k:Int),false,o,a,b,c,i,ug o,uf o,ue o,ud o,[a,b,c],())):=fT rfl;have fin2:u=false->(x != 0)=false:=λh=>by rw[YB h];rfl
  refine Ok.bind (P:=(·=((3:Int),(k:Int),false,o,a,b,c,i,ug o,uf o,ue o,ud o,[a,b,c],()))) ?_ ?_;rcases(show k=0\/k=1\/k=2 by omega)with rfl|rfl|rfl;rw[<- h0 rfl]at ZV⊢;refine fU rfl ?_;refine gg (λhu=>?_) λ_=>ZV;rw[fin2 (by simpa using hu)];exact ZV;rw[<- h1 rfl]at ZV⊢;refine gg (λhu=>by cases hu) λ_=>fU rfl (gg (λhu=>?_) λ_=>ZV);rw[fin2 (by simpa using hu)];exact ZV;rw[<- h2 rfl]at ZV⊢;refine gg (λhu=>by cases hu) λ_=>gg (λhu=>by cases hu) λ_=>fU rfl (gg (λhu=>?_) λ_=>ZV);rw[fin2 (by simpa using hu)];exact ZV;rintro _ rfl;dsimp only;rw[iC (x:=(k:Int)+1)];exact fT rfl;omega
 have e:gd mp NN (3,0,o,a,b,c,i,ug o,uf o,ue o,ud o,[a,b,c],())=some (.inr (3,3,false,o,a,b,c,i,ug o,uf o,ue o,ud o,[a,b,c],())):=by refine mJ (st:=λk=>(3,(k:Int),o,a,b,c,i,ug o,uf o,ue o,ud o,[a,b,c],())) (n:=3) (by unfold NN;omega) ?_ ?_;intro k hk;rcases(show k=0\/k=1\/k=2 by omega)with rfl|rfl|rfl;exact Yg 0 a _ (by omega) rfl (λ_=>rfl) (by omega) (by omega) a0 a1 a2;exact Yg 1 b _ (by omega) rfl (by omega) (λ_=>rfl) (by omega) b0 b1 b2;exact Yg 2 c _ (by omega) rfl (by omega) (by omega) (λ_=>rfl) c0 c1 c2;exact fT rfl
 refine gW ?_;unfold pC;rw[oDF (show ¬o<0 by omega),oDF (show ¬o>24 by omega),J3 o0 o1];simp only[oCF,oBS];rw[show f7 [a,b,c].length=3 from rfl,e];dsimp only;rw[oDF (show ¬i<0 by omega),oDF (show ¬i>65535 by omega)];simp only[oCF];refine Ok.bind (P:=(·=(false,o,a,b,c,i,()))) ?_ ?_;refine gg (λhu=>?_) λ_=>fT rfl;exact fT (by rw[i2 (by simpa using hu)];rfl);rintro _ rfl;dsimp only;rw[xp];simp only[oCF,oBS];refine gg (λhu=>?_) λ_=>?_;exact fT (by rw[oDT (by have:=hj hu;omega)]);refine fV (λhcc=>?_) λhcc=>?_;exact fT (by rw[oDT (by have:=hl hcc;omega)]);refine fV (λXJ=>?_) λXJ=>?_;exact fT (by rw[oDT (by have:=hs XJ;omega)]);exact fT rfl
theorem Hg{code:F_}{s:M_}{d:j_}(h:kT code s d):lD code s d=some (0,()):=by
 have hs:=h.sz;have M':=hs.2.1;have hc:=h.clen;have hl:=h.len;have e0:gd mo NN (d,(d.length:Int),0,code,s,d,())=some (.inr (d,(d.length:Int),(d.length:Int),false,code,s,d,())):=by
  refine mJ (st:=λk=>(d,(d.length:Int),(k:Int),code,s,d,())) (n:=d.length) (by unfold NN;omega) ?_ ?_;intro k hk;unfold mo;dsimp only;refine fV (λZ'=>?_) λZ'=>?_;rw[fZ];delta f7;simp only[oBS];refine f9 λx hx=>?_;refine f9 λy hy=>?_;have:=h.fit k x y hx hy;refine fV (λZ3=>?_) λZ3=>?_;omega
  ·(simp (disch:=omega) only [gE,gt,gh,gj])
   exact fT rfl
  omega;unfold mo;dsimp only;refine fV (λZ'=>?_) λZ'=>?_;omega;exact fT rfl
 have e1:gd mn NN (code,(code.length:Int),0,code,s,d,())=some (.inr (code,(code.length:Int),(code.length:Int),false,code,s,d,())):=by
  refine mJ (st:=λk=>(code,(code.length:Int),(k:Int),code,s,d,())) (n:=code.length) (by unfold NN;omega) ?_ ?_;intro k hk;unfold mn;dsimp only;refine fV (λZ'=>?_) λZ'=>?_;rw[fZ];simp only[oBS];refine f9 λx hx=>?_;obtain⟨o,a,b,c,i⟩:=x;rw[PT (h.ins _ (f8 hx)) (by omega) (by omega)]
  (simp (disch:=omega) only [gE,gt,gh,gj])
  exact fT rfl;omega;unfold mn;dsimp only;refine fV (λZ'=>?_) λZ'=>?_;omega;exact fT rfl
 have e3:gd ml NN (code,(code.length:Int),0,code,s,d,())=some (.inr (code,(code.length:Int),(code.length:Int),false,code,s,d,())):=by
  refine mJ (st:=λk=>(code,(code.length:Int),(k:Int),code,s,d,())) (n:=code.length) (by unfold NN;omega) ?_ ?_;intro k hk;unfold ml;dsimp only;refine fV (λZ'=>?_) λZ'=>?_;rw[fZ];simp only[oBS];refine f9 λx hx=>?_;have hp:=h.ins x (f8 hx);rw[xp];simp only[oBS];refine Ok.bind (P:=(·=(code,(code.length:Int),(k:Int),false,code,s,d,()))) ?_ ?_;refine gg (λhj=>?_) λ_=>?_;have:=hp.jmp hj;refine fV (λZ3=>?_) λZ3=>?_;have Z3:x.2.2.2.2>=(code.length:Int):=Z3;omega;refine fV (λhcc=>?_) λhcc=>?_;exact fT (by rw[oDF (show ¬x.2.2.2.2>=f7 s.length by rw[gj];have:=hp.lea hcc;omega)]);exact fT rfl;refine fV (λhcc=>?_) λhcc=>?_;exact fT (by rw[oDF (show ¬x.2.2.2.2>=f7 s.length by rw[gj];have:=hp.lea hcc;omega)]);exact fT rfl;rintro _ rfl;dsimp only;simp only[oCF]
  (simp (disch:=omega) only [gE,gt,gh,gj])
  exact fT rfl;omega;unfold ml;dsimp only;refine fV (λZ'=>?_) λZ'=>?_;omega;exact fT rfl
 refine gW ?_;unfold lD;rw[vH hs];delta f7;simp only[oBS,oNT,oCF,hl,oBN];rw[hl]at e0;rw[e0];dsimp only;refine fV (λZ'=>?_) λZ'=>?_;omega;refine fV (λZ3=>?_) λZ3=>?_;omega;rw[e1];dsimp only;rw[e3];exact fT rfl
def RK(bs ss:M_)(a:Int):Prop:=∃(j:Nat)(b z:Int),bs[j]?=some b/\ss[j]?=some z/\b<=a/\a<b+z
def om(K:Int->Prop)(c:DCe):Prop:=0<=c.1/\c.1<=2/\0<=c.2/\c.2<=65535/\(c.1=1->K c.2)
theorem om.mono{K K':Int->Prop}{c:DCe}(h:om K c)(hk:∀a,K a->K' a):om K' c:=⟨h.1,h.2.1,h.2.2.1,h.2.2.2.1,λe=>hk _ (h.2.2.2.2 e)⟩
theorem kz{K:Int->Prop}{v:Int}(h:0<=v/\v<=65535):om K (0,v):=⟨by omega,by omega,h.1,h.2,λe=>absurd (show(0:Int)=1 from e) (by decide)⟩
def Wg(K:Int->Prop)(i:Nat)(x:DLn):Prop:=(x.1=-1/\x.2.1=false/\x.2.2=[])\/(0<=x.1/\x.1<128/\x.1%4=i/\x.2.2.length=4/\∀c∈x.2.2,om K c)
def Wl(cs:C_)(x:DLn):Prop:=x.1=-1\/x.2.1=true\/∀o:Nat,o<4->cs[(x.1*4).toNat+o]?=x.2.2[o]?
structure jf (K:Int->Prop)(cs:C_)(ls:G_):Prop where
 clen:cs.length=512
 cells:∀c∈cs,om K c
 llen:ls.length=4
 lines:∀(i:Nat) x,ls[i]?=some x->Wg K i x
 coh:∀(i:Nat) x,ls[i]?=some x->Wl cs x
structure zQ (K:Int->Prop)(n:Int)(t:DTh):Prop where
 state:0<=t.1/\t.1<=4
 len:t.2.1.length=8
 regs:∀c∈t.2.1,om K c
 pc:0<=t.2.2.1/\t.2.2.1<=255
 count:0<=t.2.2.2.1/\t.2.2.2.1<=n
 handler:-1<=t.2.2.2.2.1/\t.2.2.2.2.1<=255
 saved:-1<=t.2.2.2.2.2.1/\t.2.2.2.2.2.1<=255
 trap:0<=t.2.2.2.2.2.2.1/\t.2.2.2.2.2.2.1<=6
 code:W16 t.2.2.2.2.2.2.2
structure MOk (n:Int)(ss bs:M_)(cs:C_)(ls:G_)(ts:J_):Prop where
 lay:LV bs ss
 mem:jf (RK bs ss) cs ls
 tlen:ts.length=4
 thr:∀t∈ts,zQ (RK bs ss) n t
theorem Mo{K:Int->Prop}{l:C_}(hl:l.length<=1000)(h:∀c∈l,om K c):qr l=some (true,()):=by
 have e:gd oy NN (l,(l.length:Int),0,())=some (.inr (l,(l.length:Int),(l.length:Int),false,())):=by
  refine mJ (st:=λk=>(l,(l.length:Int),(k:Int),())) (n:=l.length) (by unfold NN;omega) ?_ ?_;intro k hk;unfold oy;refine fV (λZ'=>?_) λZ'=>?_;rw[fZ];refine f9 λx hx=>?_;have:=h x (f8 hx);unfold nz;rw[oDT (show x.1<=2 from this.2.1)]
  (simp (disch:=omega) only [gE,gt,gh,gj])
  exact fT rfl;omega;unfold oy;refine fV (λZ'=>?_) λZ'=>?_;omega;exact fT rfl
 refine gW ?_;unfold qr;delta f7;try dsimp only
 rw[e];exact fT rfl
theorem Mw{K:Int->Prop}{cs:C_}{ls:G_}(h:jf K cs ls):pD cs ls=some (true,()):=by
 obtain⟨h1,h2,h3,h4,_⟩:=h;have e:gd mq NN (ls,4,0,cs,ls,())=some (.inr (ls,4,4,false,cs,ls,())):=by
  refine mJ (st:=λk=>(ls,4,(k:Int),cs,ls,())) (n:=4) (by unfold NN;omega) ?_ ?_;intro k hk;unfold mq;dsimp only;refine fV (λZ'=>?_) λZ'=>?_;rw[fZ];simp only[oBS];refine f9 λx hx=>?_;rcases h4 k x hx with⟨e1,e2,e3⟩|⟨g1,g2,g3,g4,g5⟩;rw[e1,e2,e3]
  (simp (disch:=omega) only [gE,gt,gh,gj])
  exact fT rfl;rw[show(x.1==-1)=false by rw[beq_eq_false_iff_ne];omega,oDF (show ¬x.1<0 by omega),oDF (show ¬x.1>=128 by omega),oTE g1,g3,g4,Mo (by omega) g5];simp;refine Ok.bind (P:=(·=(ls,4,(k:Int),false,cs,ls,()))) ?_ ?_;refine gg (λh=>by cases h) λ_=>fT rfl;rintro _ rfl;dsimp only;simp only[oCF]
  (simp (disch:=omega) only [gE,gt,gh,gj])
  exact fT rfl;omega;unfold mq;exact fT rfl
 refine gW ?_;unfold pD;delta f7;simp only[h1,h3,Mo (show cs.length<=1000 by omega) h2,oBS,oNT];refine Ok.bind (P:=(·=(false,cs,ls,()))) ?_ ?_;exact fT rfl;rintro _ rfl;dsimp only;simp only[oCF];rw[h3,show((4:Nat):Int)=4 from rfl,e];exact fT rfl
theorem Mv{K:Int->Prop}{t:DTh}(h:zQ K 1099511627776 t):pA t.1 t.2.1 t.2.2.1 t.2.2.2.1 t.2.2.2.2.1 t.2.2.2.2.2.1 t.2.2.2.2.2.2.1 t.2.2.2.2.2.2.2=some (true,()):=by
 obtain⟨⟨a1,a2⟩,hl,hr,⟨b1,b2⟩,⟨c1,c2⟩,⟨d1,d2⟩,⟨e1,e2⟩,⟨f1,f2⟩,_⟩:=h;obtain⟨s,rs,pc,ct,ha,sa,tr,co⟩:=t;dsimp only at *;have e:gd mj NN (rs,(rs.length:Int),0,s,rs,pc,ct,ha,sa,tr,co,())=some (.inr (rs,(rs.length:Int),(rs.length:Int),false,s,rs,pc,ct,ha,sa,tr,co,())):=by
  refine mJ (st:=λk=>(rs,(rs.length:Int),(k:Int),s,rs,pc,ct,ha,sa,tr,co,())) (n:=rs.length) (by unfold NN;omega) ?_ ?_;intro k hk;unfold mj;refine fV (λZ'=>?_) λZ'=>?_;rw[fZ];refine f9 λx hx=>?_;have:=hr x (f8 hx);unfold nz;rw[oDT (show x.1<=2 from this.2.1)]
  (simp (disch:=omega) only [gE,gt,gh,gj])
  exact fT rfl;omega;unfold mj;refine fV (λZ'=>?_) λZ'=>?_;omega;exact fT rfl
 refine gW ?_;unfold pA;delta f7;try dsimp only
 rw[e];dsimp only;rw[hl];refine fU (oDT a1) (fU (oDT a2) (fU rfl (fU (oDT b1) (fU (oDT b2) (fU (oDT c1) (fU (oDT c2) (fU (oDT d1) (fU (oDT d2) (fU (oDT e1) (fU (oDT e2) (fU (oDT f1) ?_)))))))))));exact fT (by simp_all)
theorem vF{code:F_}{ss bs:M_}{d:j_}{n key:Int}{cs:C_}{ls:G_}{ts:J_}(hp:kT code ss d)(h:MOk n ss bs cs ls ts)(hn:n<=1099511627776):iL code ss d bs key cs ls ts=some (true,()):=by
 have ⟨h1,h2,h3,h4⟩:=h;have e:gd pb NN (ts,4,0,bs,key,cs,ls,ts,())=some (.inr (ts,4,4,false,bs,key,cs,ls,ts,())):=by
  refine mJ (st:=λk=>(ts,4,(k:Int),bs,key,cs,ls,ts,())) (n:=4) (by unfold NN;omega) ?_ ?_;intro k hk;unfold pb;refine fV (λZ'=>?_) λZ'=>?_;rw[fZ];refine f9 λx hx=>?_;have ht:=h4 x (f8 hx);rw[Mv ⟨ht.state,ht.len,ht.regs,ht.pc,⟨ht.count.1,by have:=ht.count.2;omega⟩,ht.handler,ht.saved,ht.trap,ht.code⟩]
  (simp (disch:=omega) only [gE,gt,gh,gj])
  exact fT rfl;omega;exact fT rfl
 refine gW ?_;unfold iL;rw[Hg hp,vG h1,Mw h2];delta f7;simp only[oBS,oNT,oCF,oBN,h3];rw[show((4:Nat):Int)=4 from rfl,e];exact fT rfl
def g9:G_:=[(-1,false,[]),(-1,false,[]),(-1,false,[]),(-1,false,[])]
theorem Mg:pE=some (g9,()):=by kernel_rfl
theorem JH{K:Int->Prop}{cs:C_}(h:cs.length=512)(hc:∀c∈cs,om K c):jf K cs g9:=by
 have key:∀(i:Nat) x,g9[i]?=some x->x=(-1,false,[]):=λi x hx=>by have:=f8 hx;simp[g9]at this;exact this
 exact⟨h,hc,rfl,λi x hx=>by rw[key i x hx];exact .inl ⟨rfl,rfl,rfl⟩,λi x hx=>by rw[key i x hx];exact .inl rfl⟩
theorem hU{α:Type}{P:α->Prop}{l:List α}{i:Nat}{f:α->α}(h:∀x∈l,P x)(hf:∀x,P x->P (f x)):∀x∈List.modify l i f,P x:=by intro x hx;have ⟨j,hj⟩:=List.getElem?_of_mem hx;grind
theorem Ul{code:F_}{ss bs:M_}{d:j_}{key:Int}(hp:kT code ss d)(hl:LV bs ss):Ok (rq code ss d bs key) λr=>∃cs,r=(cs,g9,0,())/\cs.length=512/\∀c∈cs,om (λ_=>False) c:=by
 unfold rq;rw[vG hl,Mg];delta f7;simp only[oBS,oNT,oCF,hp.len,oBN];refine fU (by decide) ?_;obtain⟨t,e,ht⟩:=hJ (f:=qt) (n:=NN) (s:=(d,(ss.length:Int),0,code,ss,d,bs,key,(),(),List.replicate 512 (0,0),g9,())) (P:=λs'=>∃k:Nat,∃cs,s'=(d,(ss.length:Int),(k:Int),code,ss,d,bs,key,(),(),cs,g9,())/\k<=ss.length/\cs.length=512/\∀c∈cs,om (λ_=>False) c) (R:=λr=>∃a b c e cs,r=.inr (a,b,c,e,code,ss,d,bs,key,(),(),cs,g9,())/\cs.length=512/\∀c∈cs,om (λ_=>False) c) (m:=λs'=>(s'.2.1-s'.2.2.1).toNat) ⟨0,_,rfl,by omega,List.length_replicate,λc hc=>by rw[List.eq_of_mem_replicate hc];exact kz (by decide)⟩ (by unfold NN;dsimp only;have:=hp.sz.2.1;omega) (by
  rintro _ ⟨k,cs,rfl,hk,ZP,ZL⟩;unfold qt;dsimp only;have hlen:=hp.len;have M':=hp.sz.2.1;refine fV (λZ'=>?_) λZ'=>?_;rw[fZ];delta f7;simp only[oBS];refine f9 λx hx=>?_;refine f9 λy hy=>?_;have hf:=hp.fit k x y hx hy;have B':=hp.num x (f8 hx);obtain⟨_,hbl,hr⟩:=hl;have hrk:=hr k (by omega);unfold xD at hrk;obtain⟨b,hb⟩:=gw bs k (by omega);rw[gu hb,gu hy]at hrk;refine fV (λZ3=>?_) λZ3=>?_;omega;refine gQ (P:=λs'=>∃j:Nat,∃cs,s'=((k:Int),d,(ss.length:Int),(k:Int),x,(x.length:Int),(j:Int),code,ss,d,bs,key,(),(),cs,g9,())/\j<=x.length/\cs.length=512/\∀c∈cs,om (λ_=>False) c)
   (R:=λr=>∃a b c e cs,r=(a,d,(ss.length:Int),(k:Int),b,c,e,false,code,ss,d,bs,key,(),(),cs,g9,())/\cs.length=512/\∀c∈cs,om (λ_=>False) c) (m:=λs'=>(s'.2.2.2.2.2.1-s'.2.2.2.2.2.2.1).toNat)
   ⟨0,cs,rfl,by omega,ZP,ZL⟩ (by unfold NN;dsimp only;omega) ?_ ?_
  rintro _ ⟨j,cs,rfl,hj,ZP,ZL⟩;unfold uw;dsimp only;refine fV (λhcc=>?_) λhcc=>?_;rw[fZ,fZ];simp only[oBS];refine f9 λv hv=>?_;have R':=B' v (f8 hv);rw[show fW bs k=some b from hb];simp only[oBS]
  (simp (disch:=omega) only [gE,gt,gh,gj])
  refine gX λa ha=>?_;refine f9 λc hc=>?_;refine f9 λc' Y2=>?_;exact fT ⟨⟨j+1,_,rfl,by omega,by rw[oLM];exact ZP,hU ZL λz hz=>⟨hz.1,hz.2.1,R'.1,R'.2,hz.2.2.2.2⟩⟩,by dsimp only;omega⟩;exact fT ⟨_,_,_,_,_,rfl,ZP,ZL⟩;rintro _ ⟨a,b,c,e,cs,rfl,ZP,ZL⟩;dsimp only
  (simp (disch:=omega) only [gE,gt,gh,gj])
  exact fT ⟨⟨k+1,_,rfl,by omega,ZP,ZL⟩,by dsimp only;omega⟩;exact fT ⟨_,_,_,_,_,rfl,ZP,ZL⟩)
 rw[e];obtain⟨a,b,c,e,cs,rfl,ZP,ZL⟩:=ht;exact fT ⟨cs,rfl,ZP,ZL⟩
theorem U8{K:Int->Prop}:∀c∈List.replicate 8 ((0:Int),(0:Int)),om K c:=λc hc=>by rw[List.eq_of_mem_replicate hc];exact kz (by decide)
theorem Tq{K:Int->Prop}{s:Int}(h:0<=s/\s<=4):zQ K 0 (s,List.replicate 8 (0,0),0,0,-1,-1,0,0):=⟨h,rfl,U8,⟨by simp_all,by simp_all⟩,⟨by simp_all,by simp_all⟩,⟨by simp_all,by simp_all⟩,⟨by simp_all,by simp_all⟩,⟨by simp_all,by simp_all⟩,⟨by simp_all,by simp_all⟩⟩
def Pr(ss:M_)(c:DCn):Prop:=((c.1=0\/c.1=2)/\c.2.2.1=0/\c.2.2.2=0/\W16 c.2.1)\/(c.1=1/\c.2.1=0/\0<=c.2.2.1/\∃n,ss[c.2.2.1.toNat]?=some n/\0<=c.2.2.2/\c.2.2.2<n)
theorem JP{ss:M_}{c:DCn}(hs:AY ss)(h:Pr ss c):mF c.1 c.2.1 c.2.2.1 c.2.2.2=some (true,()):=by
 refine gW ?_;unfold mF;rcases h with⟨h1,h2,h3,_⟩|⟨h1,h2,h3,n,h4,h5,h6⟩;rw[h2,h3];rcases h1 with h1|h1<;>rw[h1]<;>exact fT rfl
 have hn:=hs.2.2 n (f8 h4);have hl:=(oGS h4).1;have M':=hs.2.1;rw[h1,h2,show(c.2.2.1==-1)=false by rw[beq_eq_false_iff_ne];omega];refine gg (λh=>by cases h) λ_=>gg (λh=>by cases h) λ_=>fU rfl ?_;refine gg (λh=>by cases h) λ_=>fU rfl ?_;exact fU (oDT h3) (fU (oDT (by omega)) (fU (oDT h5) (fT (by rw[oDT (show c.2.2.2<32 by omega)]))))
theorem mL{ss:M_}{l:D_}{n:Int}(hs:AY ss)(h:∀c∈l,Pr ss c)(hn:(l.length:Int)<=n)(hl:l.length<=1000):iy l n=some (true,()):=by
 have e:gd mi NN (l,n,l,(l.length:Int),0,())=some (.inr (l,n,l,(l.length:Int),(l.length:Int),false,())):=by
  refine mJ (st:=λk=>(l,n,l,(l.length:Int),(k:Int),())) (n:=l.length) (by unfold NN;omega) ?_ ?_;intro k hk;unfold mi;refine fV (λZ'=>?_) λZ'=>?_;rw[fZ];refine f9 λx hx=>?_;rw[JP hs (h x (f8 hx))]
  (simp (disch:=omega) only [gE,gt,gh,gj])
  exact fT rfl;omega;unfold mi;refine fV (λZ'=>?_) λZ'=>?_;omega;exact fT rfl
 refine gW ?_;unfold iy;delta f7;try dsimp only
 rw[e];exact fT (congrArg (λb=>(b,())) (oDT hn))
def UU(d:i_)(o:DOp):Prop:=(o.1=-1/\o.2.1=0/\o.2.2=false)\/(0<=o.1/\∃x,d[o.1.toNat]?=some x/\0<=o.2.1/\o.2.1<=x.length)
structure iR (ss:M_)(d:i_)(os:H_):Prop where
 dlen:d.length<=4
 flen:∀x∈d,x.length<=64
 cells:∀x∈d,∀c∈x,Pr ss c
 olen:os.length=8
 opens:∀o∈os,UU d o
theorem Er{ss:M_}{d:i_}{os:H_}(hs:AY ss)(h:iR ss d os):mY d os=some (true,()):=by
 obtain⟨h1,h2,h3,h4,h5⟩:=h;have e0:gd mg NN (d,(d.length:Int),0,d,os,())=some (.inr (d,(d.length:Int),(d.length:Int),false,d,os,())):=by
  refine mJ (st:=λk=>(d,(d.length:Int),(k:Int),d,os,())) (n:=d.length) (by unfold NN;omega) ?_ ?_;intro k hk;unfold mg;dsimp only;refine fV (λZ'=>?_) λZ'=>?_;rw[fZ];simp only[oBS];refine f9 λx hx=>?_;have:=h2 x (f8 hx);rw[mL hs (h3 x (f8 hx)) (by omega) (by omega)];simp only[oBS,oNT,oCF]
  (simp (disch:=omega) only [gE,gt,gh,gj])
  exact fT rfl;omega;unfold mg;dsimp only;refine fV (λZ'=>?_) λZ'=>?_;omega;exact fT rfl
 have e2:gd o9 NN (os,8,0,d,os,())=some (.inr (os,8,8,false,d,os,())):=by
  refine mJ (st:=λk=>(os,8,(k:Int),d,os,())) (n:=8) (by unfold NN;omega) ?_ ?_;intro k hk;unfold o9;dsimp only;refine fV (λZ'=>?_) λZ'=>?_;rw[fZ];simp only[oBS];refine f9 λx hx=>?_;obtain⟨f,o,w⟩:=x;refine Ok.bind (P:=(·=(os,8,(k:Int),false,d,os,f,o,w,()))) ?_ ?_;rcases h5 _ (f8 hx)with⟨g1,g2,g3⟩|⟨g1,y,g2,g3,g4⟩;have g1:f=-1:=g1;have g2:o=0:=g2;have g3:w=false:=g3;subst g1 g2 g3;dsimp only;refine fU rfl (gg (λh=>by cases h) λ_=>gg (λh=>by cases h) λ_=>gg (λh=>by cases h) λ_=>gg (λh=>?_) λ_=>gg (λh=>by cases h) λ_=>fT rfl);have h:(-1:Int)>=(d.length:Int):=of_decide_eq_true h;omega;dsimp only at g1 g2 g3 g4⊢;have hl:=(oGS g2).1;rw[show(f==-1)=false by rw[beq_eq_false_iff_ne];omega,oDF (show ¬f < -1 by omega)];simp only[oCF];refine gg (λh=>?_) λ_=>fU (oDT g1) ?_;have h:f>=(d.length:Int):=of_decide_eq_true h;omega;rw[oDF (show ¬o<0 by omega)];simp only[oCF];refine jB g1 λj hj=>?_;refine f9 λz hz=>?_;have hjj:j=f.toNat:=by omega
  subst hjj;rw[g2]at hz;injection hz with hz
  subst hz;exact fT (by rw[oDF (show ¬o>f7 y.length from λh=>by rw[gj]at h;omega)]);rintro _ rfl;dsimp only;simp only[oCF]
  (simp (disch:=omega) only [gE,gt,gh,gj])
  exact fT rfl;omega;exact fT rfl
 refine gW ?_;unfold mY;delta f7;try dsimp only
 refine fV (λZ'=>?_) λZ'=>?_;omega;rw[h4];rw[e0];dsimp only;rw[h4,show((8:Nat):Int)=8 from rfl,e2];exact fT rfl
def U3(ss:M_)(i:Nat)(x:DOu):Prop:=x.1=i/\0<=x.2.1/\x.2.1<2/\x.2.2.length<=16/\∀c∈x.2.2,Pr ss c
structure wi (ss:M_)(ck rn:M_)(ins:j_)(d:i_)(os:H_)(us:I_):Prop where
 clock:ck.length<=64/\∀w∈ck,W16 w
 rand:rn.length<=64/\∀w∈rn,W16 w
 ilen:ins.length<=2
 inp:∀x∈ins,x.length<=64/\∀w∈x,W16 w
 files:iR ss d os
 ulen:us.length<=200
 outs:∀(i:Nat) x,us[i]?=some x->U3 ss i x
theorem M3{ss:M_}{us:I_}(hl:us.length<=200)(h:∀(i:Nat) x,us[i]?=some x->U3 ss i x):mX us=some (true,()):=by
 have e:gd kN NN (us,(us.length:Int),0,())=some (.inr (us,(us.length:Int),(us.length:Int),false,())):=by
  refine mJ (st:=λk=>(us,(us.length:Int),(k:Int),())) (n:=us.length) (by unfold NN;omega) ?_ ?_;intro k hk;unfold kN;refine fV (λZ'=>?_) λZ'=>?_;rw[fZ];refine f9 λx hx=>?_;have ⟨g1,g2,g3,g4,g5⟩:=h k x hx;rw[g1,oDF (show ¬x.2.1<0 by omega),oDF (show ¬x.2.1>=2 by omega)];simp;refine gg (λh=>?_) λ_=>?_;have h:(x.2.2.length:Int)>16:=of_decide_eq_true h;omega
  ·(simp (disch:=omega) only [gE,gt,gh,gj])
   exact fT rfl
  omega;unfold kN;refine fV (λZ'=>?_) λZ'=>?_;omega;exact fT rfl
 refine gW ?_;unfold mX;delta f7;try dsimp only
 rw[e];exact fT rfl
theorem vE{ss ck rn:M_}{ins:j_}{d:i_}{os:H_}{us:I_}(hs:AY ss)(h:wi ss ck rn ins d os us):lC ck rn ins d os us=some (true,()):=by
 have e0:gd mf NN (ins,(ins.length:Int),0,ck,rn,ins,d,os,us,())=some (.inr (ins,(ins.length:Int),(ins.length:Int),false,ck,rn,ins,d,os,us,())):=by
  refine mJ (st:=λk=>(ins,(ins.length:Int),(k:Int),ck,rn,ins,d,os,us,())) (n:=ins.length) (by unfold NN;have:=h.ilen;omega) ?_ ?_;intro k hk;have hil:=h.ilen;unfold mf;dsimp only;refine fV (λZ'=>?_) λZ'=>?_;rw[fZ];delta f7;simp only[oBS];refine f9 λx hx=>?_;have:=(h.inp x (f8 hx)).1;refine fV (λZ3=>?_) λZ3=>?_;omega
  ·(simp (disch:=omega) only [gE,gt,gh,gj])
   exact fT rfl
  omega;unfold mf;dsimp only;refine fV (λZ'=>?_) λZ'=>?_;omega;exact fT rfl
 have e1:gd me NN (us,(us.length:Int),0,ck,rn,ins,d,os,us,())=some (.inr (us,(us.length:Int),(us.length:Int),false,ck,rn,ins,d,os,us,())):=by
  refine mJ (st:=λk=>(us,(us.length:Int),(k:Int),ck,rn,ins,d,os,us,())) (n:=us.length) (by unfold NN;have:=h.ulen;omega) ?_ ?_;intro k hk;have hul:=h.ulen;unfold me;dsimp only;refine fV (λZ'=>?_) λZ'=>?_;rw[fZ];simp only[oBS];refine f9 λx hx=>?_;obtain⟨_,_,_,g4,g5⟩:=h.outs k x hx;rw[mL hs g5 (by omega) (by omega)]
  (simp (disch:=omega) only [gE,gt,gh,gj])
  exact fT rfl;omega;unfold me;dsimp only;refine fV (λZ'=>?_) λZ'=>?_;omega;exact fT rfl
 have c1:=h.clock.1;have c2:=h.rand.1;have c3:=h.ilen;have c4:=h.ulen;refine gW ?_;unfold lC;delta f7;try dsimp only
 rw[e0];dsimp only;rw[e1];dsimp only;refine fU (oDT (show(ck.length:Int)<=64 by omega)) (fU (oDT (show(rn.length:Int)<=64 by omega)) (fU (oDT (show(ins.length:Int)<=2 by omega)) ?_));rw[Er hs h.files];refine fU (oDT (show(us.length:Int)<=200 by omega)) ?_;rw[M3 h.ulen h.outs];exact fT rfl
def tA:H_:=List.replicate 8 (-1,0,false)
theorem RB(a:j_):gd wt NN (a,8,0,(),(),(),List.replicate 8 (0,(0,false)),())=some (a,8,8,false,(),(),(),tA,()):=by rfl
theorem RH{ss:M_}{a:j_}(hs:AY ss)(hl:a.length<=4)(h:∀x∈a,x.length<=64/\∀w∈x,W16 w):Ok (sN a) λr=>∃d,r=(d,tA,0,())/\iR ss d tA:=by
 unfold sN;refine fU (by decide) ?_;dsimp only;rw[show f7 (List.replicate 8 ((0:Int),((0:Int),false))).length=8 from rfl,RB];delta f7;simp only[oBS];refine gQ (P:=λs'=>∃k:Nat,∃d,s'=(a,(a.length:Int),(k:Int),(),(),d,tA,())/\k<=a.length/\d.length=k/\(∀x∈d,x.length<=64)/\∀x∈d,∀c∈x,Pr ss c)
  (R:=λr=>∃e b c f d,r=(e,b,c,f,(),(),d,tA,())/\d.length<=4/\(∀x∈d,x.length<=64)/\∀x∈d,∀c∈x,Pr ss c) (m:=λs'=>(s'.2.1-s'.2.2.1).toNat) ⟨0,[],rfl,by omega,rfl,gD,gD⟩ (by unfold NN;dsimp only;omega) ?_ ?_
 rintro _ ⟨k,d,rfl,hk,Yp,hd2,XK⟩;unfold wo;dsimp only;refine fV (λZ'=>?_) λZ'=>?_;rw[fZ];delta f7;simp only[oBS];refine f9 λx hx=>?_;obtain⟨Z2,YB⟩:=h x (f8 hx);refine gQ (P:=λs'=>∃j:Nat,∃l,s'=(a,(a.length:Int),(k:Int),x,(x.length:Int),(j:Int),(),(),d,tA,l,())/\j<=x.length/\l.length=j/\∀c∈l,Pr ss c)
  (R:=λr=>∃b c e f l,r=(a,(a.length:Int),(k:Int),b,c,e,f,(),(),d,tA,l,())/\l.length<=64/\∀c∈l,Pr ss c) (m:=λs'=>(s'.2.2.2.2.1-s'.2.2.2.2.2.1).toNat) ⟨0,[],rfl,by omega,rfl,gD⟩ (by unfold NN;dsimp only;omega) ?_ ?_
 rintro _ ⟨j,l,rfl,hj,Xz,Yd⟩;unfold wq;dsimp only;refine fV (λZ3=>?_) λZ3=>?_;rw[fZ];simp only[oBS];refine f9 λv hv=>?_;refine fU (gf (by simp;omega)) ?_
 (simp (disch:=omega) only [gE,gt,gh,gj])
 exact fT ⟨⟨j+1,_,rfl,by omega,by rw[it,Xz];rfl,lp Yd (all_cons (.inl ⟨.inl rfl,rfl,rfl,YB v (f8 hv)⟩) gD)⟩,by dsimp only;omega⟩;exact fT ⟨_,_,_,_,_,rfl,by omega,Yd⟩;rintro _ ⟨b,c,e,f,l,rfl,Xz,Yd⟩;dsimp only;refine fU (gf (by simp;omega)) ?_
 (simp (disch:=omega) only [gE,gt,gh,gj])
 exact fT ⟨⟨k+1,_,rfl,by omega,by rw[it,Yp];rfl,lp hd2 (all_cons Xz gD),lp XK (all_cons Yd gD)⟩,by dsimp only;omega⟩;exact fT ⟨_,_,_,_,_,rfl,by omega,hd2,XK⟩;rintro _ ⟨e,b,c,f,d,rfl,Yp,hd2,XK⟩;have hf:iR ss d tA:=⟨Yp,hd2,XK,rfl,λo ho=>by rw[List.eq_of_mem_replicate ho];exact .inl ⟨rfl,rfl,rfl⟩⟩;dsimp only;rw[Er hs hf];exact fT ⟨d,rfl,hf⟩
theorem CV{a:j_}(hl:a.length<=1000)(h:∀x∈a,x.length<=1000):iT a=some (a,()):=by
 have e:gd iM NN (a,(a.length:Int),0,[],())=some (a,(a.length:Int),(a.length:Int),false,a,()):=by
  have:=mJ (f:=iM) (N:=NN) (st:=λk=>(a,(a.length:Int),(k:Int),a.take k,())) (n:=a.length) (t:=(a,(a.length:Int),(a.length:Int),false,a,())) (by unfold NN;omega) ?_ ?_;exact this;intro k hk;unfold iM;refine fV (λZ'=>?_) λZ'=>?_;rw[fZ];refine f9 λx hx=>?_;have:=h x (f8 hx);refine fU (gf (by omega)) (fU (gf (by simp;omega)) ?_)
  (simp (disch:=omega) only [gE,gt,gh,gj])
  refine fT ?_;rw[List.take_add_one,hx];rfl;omega;unfold iM;refine fV (λZ'=>?_) λZ'=>?_;omega;rw[List.take_length];exact fT rfl
 refine gW ?_;unfold iT;delta f7;try dsimp only
 rw[e];exact fT rfl
theorem M2{ss l:M_}{k:Int}(hs:AY ss)(h:DOk l k):Ok (oE l k) λr=>∃ck rn ins d os k',r=(ck,rn,ins,d,os,(),l,k',())/\wi ss ck rn ins d os []/\DOk l k':=by unfold oE;refine(sG h (by decide)).bind ?_;rintro _ ⟨w1,k1,rfl,h1,g1,d1⟩;refine(sG d1 (by decide)).bind ?_;rintro _ ⟨w2,k2,rfl,h2,g2,d2⟩;dsimp only;refine(sG d2 (by decide)).bind ?_;rintro _ ⟨w3,k3,rfl,h3,g3,d3⟩;dsimp only;refine(sG d3 (by decide)).bind ?_;rintro _ ⟨w4,k4,rfl,h4,g4,d4⟩;dsimp only;refine(sG d4 (by decide)).bind ?_;rintro _ ⟨w5,k5,rfl,h5,g5,d5⟩;dsimp only;refine(sG d5 (by decide)).bind ?_;rintro _ ⟨w6,k6,rfl,h6,g6,d6⟩;dsimp only;refine Ok.bind (P:=λr=>∃ck rn ins d os,r=(ck,rn,ins,d,os,(),0,())/\wi ss ck rn ins d os []) ?_ ?_;unfold sM;refine(RH (ss:=ss) (a:=[w1,w2]) hs (by simp) (all_cons ⟨by omega,g1⟩ (all_cons ⟨by omega,g2⟩ gD))).bind ?_;rintro _ ⟨d,rfl,hf⟩;refine gg (λh=>by cases h) λ_=>?_;refine fU (gf (by omega)) (fU (gf (by omega)) ?_);have ho:wi ss w5 w6 [w3,w4] d tA []:=⟨⟨by omega,g5⟩,⟨by omega,g6⟩,by simp,all_cons ⟨by omega,g3⟩ (all_cons ⟨by omega,g4⟩ gD),hf,by simp,λi x hx=>by simp_all⟩;rw[CV (by simp) (all_cons (by omega) (all_cons (by omega) gD))];simp only[oBS];rw[show List.append [] w5=w5 from rfl,show List.append [] w6=w6 from rfl,vE hs ho];exact fT ⟨_,_,_,_,_,rfl,ho⟩;rintro _ ⟨ck,rn,ins,d,os,rfl,ho⟩;exact fT ⟨_,_,_,_,_,_,rfl,ho,d6⟩
theorem yg{ss:M_}{r o n:Int}(h1:0<=r)(h2:ss[r.toNat]?=some n)(h3:0<=o)(h4:o<n):ib ss r o=some (true,()):=by refine gW ?_;have hl:=(oGS h2).1;refine fU (oDT h1) (fU (oDT (show r<(ss.length:Int) by omega)) (fU (oDT h3) ?_));obtain⟨j,rfl⟩:∃j:Nat,r=j:=⟨r.toNat,by omega⟩;rw[fZ];simp;rw[show fW ss j=some n from h2];exact fT (by simp_all)
theorem mB{ss:M_}{c:DCn}(h:Pr ss c):iw ss c.1 c.2.1 c.2.2.1 c.2.2.2=some (true,()):=by
 refine gW ?_;unfold iw;rcases h with⟨h1,h2,h3,_⟩|⟨h1,h2,h3,n,h4,h5,h6⟩;rw[h2,h3];rcases h1 with h1|h1<;>rw[h1]<;>exact fT rfl
 rw[h1,h2,yg h3 h4 h5 h6];exact fT rfl
theorem Kl{ss:M_}{d:i_}{os:H_}(h:iR ss d os):oq ss d os=some (true,()):=by
 obtain⟨h1,h2,h3,h4,h5⟩:=h;have e0:gd lA NN (ss,d,(d.length:Int),0,d,os,())=some (.inr (ss,d,(d.length:Int),(d.length:Int),false,d,os,())):=by
  refine mJ (st:=λk=>(ss,d,(d.length:Int),(k:Int),d,os,())) (n:=d.length) (by unfold NN;omega) ?_ ?_;intro k hk;unfold lA;dsimp only;refine fV (λZ'=>?_) λZ'=>?_;rw[fZ];delta f7;refine f9 λx hx=>?_;have Z2:=h2 x (f8 hx);have e:gd lB NN (ss,d,(d.length:Int),(k:Int),x,(x.length:Int),0,d,os,())=some (.inr (ss,d,(d.length:Int),(k:Int),x,(x.length:Int),(x.length:Int),false,d,os,())):=by
   refine mJ (st:=λj=>(ss,d,(d.length:Int),(k:Int),x,(x.length:Int),(j:Int),d,os,())) (n:=x.length) (by unfold NN;omega) ?_ ?_;intro j hj;unfold lB;refine fV (λZ'=>?_) λZ'=>?_;rw[fZ];refine f9 λy hy=>?_;rw[mB (h3 x (f8 hx) y (f8 hy))]
   (simp (disch:=omega) only [gE,gt,gh,gj])
   exact fT rfl;omega;unfold lB;refine fV (λZ'=>?_) λZ'=>?_;omega;exact fT rfl
  rw[e];dsimp only
  (simp (disch:=omega) only [gE,gt,gh,gj])
  exact fT rfl;omega;unfold lA;dsimp only;refine fV (λZ'=>?_) λZ'=>?_;omega;exact fT rfl
 refine gW ?_;unfold oq;delta f7;try dsimp only
 rw[e0];exact fT rfl
theorem copy17_ok{d:i_}{os:H_}(h1:d.length<=1000)(h2:∀x∈d,x.length<=1000)(h3:os.length<=1000):jj d os=some (d,os,()):=by
 have e:gd kY NN (d,(d.length:Int),0,d,os,(),(),[],os,())=some (d,(d.length:Int),(d.length:Int),false,d,os,(),(),d,os,()):=by
  have:=mJ (f:=kY) (N:=NN) (st:=λk=>(d,(d.length:Int),(k:Int),d,os,(),(),d.take k,os,())) (n:=d.length) (t:=(d,(d.length:Int),(d.length:Int),false,d,os,(),(),d,os,())) (by unfold NN;omega) ?_ ?_;exact this;intro k hk;unfold kY;refine fV (λZ'=>?_) λZ'=>?_;rw[fZ];refine f9 λx hx=>?_;have:=h2 x (f8 hx);refine fU (gf (by omega)) (fU (gf (by simp;omega)) ?_)
  (simp (disch:=omega) only [gE,gt,gh,gj])
  refine fT ?_;rw[List.take_add_one,hx];rfl;omega;unfold kY;refine fV (λZ'=>?_) λZ'=>?_;omega;rw[List.take_length];exact fT rfl
 refine gW ?_;refine fU (gf (by omega)) ?_;rw[show List.append [] os=os from rfl];delta f7;try dsimp only
 rw[e];exact fT rfl
theorem CY{us:I_}(h1:us.length<=1000)(h2:∀x∈us,x.2.2.length<=1000):kX us=some (us,()):=by
 have e:gd kW NN (us,(us.length:Int),0,[],())=some (us,(us.length:Int),(us.length:Int),false,us,()):=by
  have:=mJ (f:=kW) (N:=NN) (st:=λk=>(us,(us.length:Int),(k:Int),us.take k,())) (n:=us.length) (t:=(us,(us.length:Int),(us.length:Int),false,us,())) (by unfold NN;omega) ?_ ?_;exact this;intro k hk;unfold kW;refine fV (λZ'=>?_) λZ'=>?_;rw[fZ];refine f9 λx hx=>?_;have:=h2 x (f8 hx);refine fU (gf (by omega)) (fU (gf (by simp;omega)) ?_)
  (simp (disch:=omega) only [gE,gt,gh,gj])
  refine fT ?_;rw[List.take_add_one,hx];rfl;omega;unfold kW;refine fV (λZ'=>?_) λZ'=>?_;omega;rw[List.take_length];exact fT rfl
 refine gW ?_;unfold kX;delta f7;try dsimp only
 rw[e];exact fT rfl
theorem CX{ss ck rn:M_}{ins:j_}{d:i_}{os:H_}{us:I_}(h:wi ss ck rn ins d os us):rd ck rn ins d os us=some (ck,rn,ins,d,os,us,()):=by
 have h1:=h.clock.1;have h2:=h.rand.1;have h3:=h.ilen;have h4:=h.ulen;have h5:=h.files.olen;have h6:=h.files.dlen;refine gW ?_;refine fU (gf (by omega)) (fU (gf (by omega)) ?_);rw[CV (by omega) (λx hx=>by have:=(h.inp x hx).1;omega),copy17_ok (by omega) (λx hx=>by have:=h.files.flen x hx;omega) (by omega),CY (by omega) (λx hx=>by
  have ⟨i,hi⟩:=List.getElem?_of_mem hx;have:=(h.outs i x hi).2.2.2.1
  omega)]
 exact fT rfl
theorem PA:w9=some ([-1,-1,-1,-1],[[],[],[],[]],()):=by kernel_rfl
structure kL (ow:M_)(qs:j_):Prop where
 olen:ow.length=4
 qlen:qs.length=4
 owner:∀o∈ow,-1<=o/\o<=3
 queue:∀q∈qs,q.Nodup/\∀t∈q,0<=t/\t<=3
theorem Ps:∀{n:Nat}{q:M_},q.Nodup->(∀t∈q,0<=t/\t<n)->q.length<=n:=by
 intro n;induction n with
 |zero=>intro q _ h;cases q with|nil=>simp|cons x q=>have:=h x (by simp);omega
 |succ n ih=>
 intro q hq h;have h1:(q.erase (n:Int)).Nodup:=hq.erase _;have h2:∀t∈q.erase (n:Int),0<=t/\t<n:=λt ht=>by have hm:=(hq.mem_erase_iff).1 ht;have:=h t hm.2;omega
 have h3:=ih h1 h2;have h4:=List.length_erase (a:=(n:Int)) (l:=q);split at h4<;>omega
theorem kL.qlen4{ow:M_}{qs:j_}(h:kL ow qs){q:M_}(hq:q∈qs):q.length<=4:=Ps (h.queue q hq).1 λt ht=>by have:=(h.queue q hq).2 t ht;omega
theorem VB:kL [-1,-1,-1,-1] [[],[],[],[]]:=⟨rfl,rfl,by decide,by decide⟩
theorem Wg.len{K:Int->Prop}{i:Nat}{x:DLn}(h:Wg K i x):x.2.2.length<=4:=by rcases h with⟨_,_,h⟩|⟨_,_,_,h,_⟩;simp_all;omega
theorem Qf{K:Int->Prop}{cs:C_}{ls:G_}(h:jf K cs ls):ru cs ls=some (cs,ls,()):=by
 obtain⟨h1,h2,h3,h4,_⟩:=h;have e:gd lj NN (ls,(ls.length:Int),0,cs,ls,(),(),cs,[],())=some (ls,(ls.length:Int),(ls.length:Int),false,cs,ls,(),(),cs,ls,()):=by
  have:=mJ (f:=lj) (N:=NN) (st:=λk=>(ls,(ls.length:Int),(k:Int),cs,ls,(),(),cs,ls.take k,())) (n:=ls.length) (t:=(ls,(ls.length:Int),(ls.length:Int),false,cs,ls,(),(),cs,ls,())) (by unfold NN;omega) ?_ ?_;exact this;intro k hk;unfold lj;refine fV (λZ'=>?_) λZ'=>?_;rw[fZ];refine f9 λx hx=>?_;have:=(h4 k x hx).len;refine fU (gf (by omega)) (fU (gf (by simp;omega)) ?_)
  (simp (disch:=omega) only [gE,gt,gh,gj])
  refine fT ?_;rw[List.take_add_one,hx];rfl;omega;unfold lj;refine fV (λZ'=>?_) λZ'=>?_;omega;rw[List.take_length];exact fT rfl
 refine gW ?_;unfold ru;refine fU (gf (by omega)) ?_;rw[show List.append [] cs=cs from rfl];delta f7;try dsimp only
 rw[e];exact fT rfl
theorem yp{n key:Int}{ss bs:M_}{cs:C_}{ls:G_}{ts:J_}(h:MOk n ss bs cs ls ts):lh bs key cs ls ts=some (bs,key,cs,ls,ts,()):=by
 obtain⟨h1,h2,h3,h4⟩:=h;have hb:=h1.2.1;have M':=h1.1.2.1;have e:gd lf NN (ts,(ts.length:Int),0,bs,key,cs,ls,ts,(),0,(),(),(),bs,key,cs,ls,[],())=some (ts,(ts.length:Int),(ts.length:Int),false,bs,key,cs,ls,ts,(),0,(),(),(),bs,key,cs,ls,ts,()):=by
  have:=mJ (f:=lf) (N:=NN) (st:=λk=>(ts,(ts.length:Int),(k:Int),bs,key,cs,ls,ts,(),0,(),(),(),bs,key,cs,ls,ts.take k,())) (n:=ts.length) (t:=(ts,(ts.length:Int),(ts.length:Int),false,bs,key,cs,ls,ts,(),0,(),(),(),bs,key,cs,ls,ts,())) (by unfold NN;omega) ?_ ?_;exact this;intro k hk;unfold lf;dsimp only;refine fV (λZ'=>?_) λZ'=>?_;rw[fZ];refine f9 λx hx=>?_;have:=(h4 x (f8 hx)).len;refine fU (gf (by omega)) (fU (gf (by simp;omega)) ?_)
  (simp (disch:=omega) only [gE,gt,gh,gj])
  refine fT ?_;rw[List.take_add_one,hx];rfl;omega;unfold lf;refine fV (λZ'=>?_) λZ'=>?_;omega;rw[List.take_length];exact fT rfl
 refine gW ?_;unfold lh;refine fU (gf (by omega)) ?_;rw[Qf h2,show List.append [] bs=bs from rfl];delta f7;simp;rw[e];exact fT rfl
theorem vY{α:Type}{l:List α}{i:Nat}{f:α->α}{a:α}(h:l[i]?=some a):(List.modify l i f)[i]?=some (f a):=by simp_all
theorem j6{α:Type}(l:List α)(i:Nat)(f g:α->α):List.modify (List.modify l i f) i g=List.modify l i λa=>g (f a):=by apply oEG;grind
theorem MOk.thread{n:Int}{ss bs:M_}{cs:C_}{ls:G_}{ts:J_}(h:MOk n ss bs cs ls ts){i:Nat}{t:DTh}{f:DTh->DTh}(ht:ts[i]?=some t)(hf:zQ (RK bs ss) n (f t)):MOk n ss bs cs ls (List.modify ts i f):=by
 refine⟨h.lay,h.mem,by rw[oLM];exact h.tlen,λx hx=>?_⟩;have ⟨j,hj⟩:=List.getElem?_of_mem hx;by_cases hij:i=j;simp_all;simp[hij]at hj;have:ts[j]?=some x:=by simp_all
 exact h.thr x (f8 this)
theorem Ta{n key:Int}{ss bs:M_}{cs:C_}{ls:G_}{ts:J_}(h:MOk n ss bs cs ls ts)(i:Int):Ok (qn bs key cs ls ts i) λr=>r.1=true->0<=i/\i<4/\∀t,ts[i.toNat]?=some t->t.2.2.2.2.1≠-1:=by
 unfold qn;delta f7;have:=h.tlen;refine fV (λZ'=>?_) λZ'=>?_;exact fT (λh=>by cases h);refine fV (λZ3=>?_) λZ3=>?_;exact fT (λh=>by cases h);refine gX λj hj=>?_;refine f9 λt ht=>?_;subst hj;refine fV (λhcc=>?_) λhcc=>?_;refine fV (λXJ=>?_) λXJ=>?_;exact fT (λ_=>⟨by omega,by omega,λt' ZW=>by
  rw[oTN,ht]at ZW
  injection ZW with ZW
  rw[<- ZW]
  exact XJ⟩)
 exact fT (λh=>by cases h);exact fT (λh=>by cases h)
theorem Tp{n why:Int}{ts:J_}{i:Nat}{t:DTh}(ht:ts[i]?=some t):iD i why ts=some (2,List.modify ts i λt=>(4,t.2.1,t.2.2.1,t.2.2.2.1,t.2.2.2.2.1,t.2.2.2.2.2.1,why,0),()):=by refine gW ?_;have hl:=(oGS ht).1;refine gV hl λ_ _=>?_;refine gV (by simp_all) λ_ _=>?_;refine gV (by simp_all) λ_ _=>?_;rw[j6,j6];exact fT rfl
theorem zQ.ended{K:Int->Prop}{n why:Int}{t:DTh}(h:zQ K n t)(hw:0<=why/\why<=6):zQ K n (4,t.2.1,t.2.2.1,t.2.2.2.1,t.2.2.2.2.1,t.2.2.2.2.2.1,why,0):=⟨⟨by omega,by omega⟩,h.len,h.regs,h.pc,h.count,h.handler,h.saved,hw,⟨by simp_all,by simp_all⟩⟩
theorem zp{ss bs:M_}{key a:Int}(h:LV bs ss)(ha:0<=a/\a<=65535):Ok (gY bs key ss a) λr=>(r.2.2.1=true->∃b n,0<=r.1/\bs[r.1.toNat]?=some b/\ss[r.1.toNat]?=some n/\0<=r.2.1/\r.2.1<n/\a=b+r.2.1):=by
 obtain⟨hs,hl,hr⟩:=h;have M':=hs.2.1;unfold gY;delta f7;try dsimp only
 obtain⟨t,e,ht⟩:=hJ (f:=gM) (n:=NN) (s:=(ss,a,bs,(bs.length:Int),0,bs,key,0,0,())) (P:=λs'=>∃k:Nat,s'=(ss,a,bs,(bs.length:Int),(k:Int),bs,key,0,0,())/\k<=bs.length) (R:=λr=>(∃x y,r=.inl (true,x,y,())/\∃b n,0<=x/\bs[x.toNat]?=some b/\ss[x.toNat]?=some n/\0<=y/\y<n/\a=b+y)\/∃z,r=.inr z) (m:=λs'=>(s'.2.2.2.1-s'.2.2.2.2.1).toNat) ⟨0,rfl,by omega⟩ (by unfold NN;dsimp only;omega) (by
  rintro _ ⟨k,rfl,hk⟩;unfold gM;dsimp only;refine fV (λZ'=>?_) λZ'=>?_;rw[fZ];simp only[oBS];obtain⟨b,hb⟩:=gw bs k (by omega);obtain⟨y,hy⟩:=gw ss k (by omega);have hy2:=hs.2.2 y (f8 hy);have hrk:=hr k (by omega);unfold xD at hrk;rw[gu hb,gu hy]at hrk;rw[show fW bs k=some b from hb];rw[show fW ss k=some y from hy];simp only[oBS];rw[iC (x:=b+y)];by_cases h1:a>=b;by_cases h2:a<b+y;simp only[h1,h2,decide_true,oCT];rw[iC (x:=a-b)];exact fT (.inl ⟨_,_,rfl,b,y,by omega,by rw[oTN];exact hb,by rw[oTN];exact hy,by omega,by omega,by omega⟩);simp only[h1,h2,decide_true,decide_false,oCT,oCF]
  (simp (disch:=omega) only [gE,gt,gh,gj])
  exact fT ⟨⟨k+1,rfl,by omega⟩,by dsimp only;omega⟩;simp only[h1,decide_false,oCF]
  (simp (disch:=omega) only [gE,gt,gh,gj])
  exact fT ⟨⟨k+1,rfl,by omega⟩,by dsimp only;omega⟩;exact fT (.inr ⟨_,rfl⟩))
 rw[e];rcases ht with⟨x,y,rfl,hxy⟩|⟨z,rfl⟩;exact fT λ_=>hxy;exact fT λh=>by cases h
theorem EJ{ss:M_}{r o:Int}:Ok (ib ss r o) λx=>x.1=true->0<=r/\0<=o/\∃n,ss[r.toNat]?=some n/\o<n:=by
 unfold ib;delta f7;refine fV (λZ'=>?_) λZ'=>?_;refine fV (λZ3=>?_) λZ3=>?_;refine fV (λhcc=>?_) λhcc=>?_;refine gX λj hj=>?_;refine f9 λn hn=>?_;exact fT λh=>⟨by omega,by omega,n,by simp_all,of_decide_eq_true h⟩;exact fT λh=>by cases h
 exact fT λh=>by cases h
 exact fT λh=>by cases h
theorem B8{ss bs:M_}{key tag v n:Int}{back:Bool}(h:LV bs ss)(hv:W16 v)(hn:W16 n):Ok (iN bs key ss tag v n back) λr=>∃t x e,r=(t,x,e,())/\om (RK bs ss) (t,x)/\0<=e/\e<=6/\(e=0->x<512):=by
 have hz:∀e:Int,0<e->e<=6->∃t x e',((0:Int),(0:Int),e,())=(t,x,e',())/\om (RK bs ss) (t,x)/\0<=e'/\e'<=6/\(e'=0->x<512):=λe h1 h2=>⟨0,0,e,rfl,kz (by decide),by omega,h2,by omega⟩;obtain⟨v0,v1⟩:=hv;obtain⟨n0,n1⟩:=hn;unfold iN;refine fV (λZ'=>?_) λZ'=>?_;exact fT (hz 3 (by decide) (by decide))
 ·rw[gh (x:=v) (by omega) (by omega),gh (x:=n) (by omega) (by omega)];refine(zp h ⟨v0,v1⟩).bind ?_;rintro⟨r,o,ok,_⟩ Zc;dsimp only at Zc⊢;refine fV (λZ3=>?_) λZ3=>?_
  ·exact fT (hz 4 (by decide) (by decide))
  ·obtain⟨b,z,hr0,hb,hzz,ho0,ho1,_⟩:=Zc Z3;have W':=h.1.2.2 z (f8 hzz);refine Ok.bind (P:=λx=>∃o',x=(ss,bs,key,0,0,r,o',())/\-70000<=o'/\o'<=70000) ?_ ?_
   ·refine gg (λ_=>?_) λ_=>?_
    all_goals
     (simp (disch:=omega) only [gE,gt,gh,gj])
     exact fT ⟨_,rfl,by omega,by omega⟩
   rintro _ ⟨o',rfl,E',ho3⟩;dsimp only;refine EJ.bind ?_;rintro⟨q,_⟩ hin;dsimp only at hin⊢;refine fV (λhcc=>?_) λhcc=>?_
   ·exact fT (hz 4 (by decide) (by decide))
   ·obtain⟨_,g1,m,g2,g3⟩:=hin hcc;refine jB hr0 λj hj=>?_;subst hj;rw[oTN]at hb g2;have hjl:=(oGS hb).1;have hrj:=h.2.2 j hjl;unfold xD at hrj;rw[gu hb,gu g2]at hrj;rw[show fW bs j=some b from hb];simp only[oBS];rw[iC (x:=b+o'),gt (x:=b+o') (by omega) (by omega)];exact fT ⟨_,_,_,rfl,⟨by dsimp only;omega,by dsimp only;omega,by dsimp only;omega,by dsimp only;omega,λ_=>⟨j,b,m,hb,g2,by dsimp only;omega,by dsimp only;omega⟩⟩,by decide,by decide,λ_=>by omega⟩
theorem jf.line{K:Int->Prop}{cs:C_}{ls:G_}(h:jf K cs ls){i:Nat}{x:DLn}{f:DLn->DLn}(hx:ls[i]?=some x)(hf:Wg K i (f x))(hg:Wl cs (f x)):jf K cs (List.modify ls i f):=by
 have key:∀(j:Nat) y,(List.modify ls i f)[j]?=some y->Wg K j y/\Wl cs y:=λj y hy=>by by_cases hij:i=j;simp_all;simp[hij]at hy;exact⟨h.lines j y (by simp_all),h.coh j y (by simp_all)⟩
 exact⟨h.clen,h.cells,by rw[oLM];exact h.llen,λj y hy=>(key j y hy).1,λj y hy=>(key j y hy).2⟩
theorem zh{cs xs:C_}{lo k:Nat}(h1:lo+4<=cs.length)(h3:4<=xs.length)(hk:k<lo\/lo+4<=k):(qv cs lo 4 xs)[k]?=cs[k]?:=by unfold qv;rcases hk with hk|hk;rw[List.append_assoc,oAL (by rw[oLT];omega),List.getElem?_take_of_lt hk];rw[oAR (by simp;omega),List.getElem?_drop];congr 1;simp;omega
theorem N9{cs xs:C_}{lo o:Nat}(h1:lo+4<=cs.length)(h3:xs.length=4)(ho:o<4):(qv cs lo 4 xs)[lo+o]?=xs[o]?:=by unfold qv;rw[oAL (by simp;omega),oAR (by rw[oLT];omega),oLT,show lo+o-min lo cs.length=o by omega,List.getElem?_take_of_lt ho]
theorem HE{K:Int->Prop}{cs xs:C_}{lo n:Nat}(h1:cs.length=512)(h2:lo+n<=512)(h3:n<=xs.length)(hc:∀c∈cs,om K c)(hx:∀c∈xs,om K c):(qv cs lo n xs).length=512/\∀c∈qv cs lo n xs,om K c:=by unfold qv;refine⟨?_,λc hh=>?_⟩;simp;omega;simp only[oMA]at hh;rcases hh with(hh|hh)|hh;exact hc c (List.mem_of_mem_take hh);exact hx c (List.mem_of_mem_take hh);exact hc c (List.mem_of_mem_drop hh)
theorem Mc{K:Int->Prop}{cs:C_}{ls:G_}{a:Int}(h:jf K cs ls)(ha:0<=a/\a<512):Ok (nu a cs ls) λr=>∃i cs' ls' x,r=(i,cs',ls',())/\jf K cs' ls'/\ls'[i]?=some x/\x.1=a/4/\x.2.2.length=4:=by
 obtain⟨a0,a1⟩:=ha;obtain⟨h1,h2,h3,h4,h5⟩:=id h;unfold nu;rw[Int.tdiv_eq_ediv_of_nonneg a0,iC (x:=a/4)];dsimp only;rw[oTE (show 0<=a/4 by omega)];refine gX λi hi=>?_;have hil:i<ls.length:=by omega
 obtain⟨x,hx⟩:=gw ls i hil;have hg:fW ls i=some x:=hx;have hL:=h4 i x hx;simp only[hg,oBS];refine fV (λZ'=>?_) λZ'=>?_;refine fT ⟨i,cs,ls,x,rfl,h,hx,Z',?_⟩;rcases hL with⟨g1,_,_⟩|⟨_,_,_,g,_⟩;omega;exact g
 ·refine Ok.bind (P:=λr=>∃cs',r=(a/4,i,cs',ls,())/\cs'.length=512/\(∀c∈cs',om K c)/\∀(j:Nat) y,ls[j]?=some y->Wl cs' y) ?_ ?_
  ·refine gg (λhd=>?_) λ_=>fT ⟨cs,rfl,h1,h2,h5⟩
   rcases hL with⟨_,g,_⟩|⟨g1,g2,g3,g4,g5⟩
   ·rw[g]at hd;cases hd
   ·rw[iC (x:=x.1*4)];refine gX λq hq=>?_;refine fU (by unfold iX;simp;omega) ?_
    try simp only[hg,oBS]
    rw[g4,h1]
    have hmin:Nat.min 4 (Nat.sub 512 q)=4:=by
     show min 4 (512-q)=4;omega
    rw[hmin];refine fU (by unfold iX;simp;omega) ?_;refine fU rfl ?_;obtain⟨s1,s2⟩:=HE (lo:=q) (n:=4) h1 (by omega) (by omega) h2 g5;refine fT ⟨_,rfl,s1,s2,λj y hy=>?_⟩;by_cases hij:j=i
    ·subst hij;rw[hx]at hy
     injection hy with hy
     subst hy;exact .inr (.inl hd)
    ·rcases h5 j y hy with g|g|g
     ·exact .inl g
     ·exact .inr (.inl g)
     ·rcases h4 j y hy with⟨g',_,_⟩|⟨y1,y2,y3,y4,y5⟩
      ·exact .inl g'
      ·refine .inr (.inr λo ho=>?_);rw[zh (by omega) (by omega) (by omega)];exact g o ho
  rintro _ ⟨cs',rfl,c1,c2,c3⟩;dsimp only;rw[iC (x:=a/4*4),iC (x:=a/4+1),iC (x:=(a/4+1)*4)];simp only[hg,oBS];refine gV (by rw[oLM];exact hil) λ_ _=>?_;refine gX λq hq=>?_;refine gX λq2 Y7=>?_;refine fU (by unfold iX;simp;omega) ?_
  have hw:(nV cs' q (Nat.sub q2 q)).length=4:=by
   unfold nV;rw[oLT,List.length_drop];show min (q2-q) _=4;omega
  refine fU (gf (by omega)) ?_;refine gV (by rw[oLM,oLM];exact hil) λ_ _=>?_;rw[j6,j6,show List.append [] (nV cs' q (Nat.sub q2 q))=nV cs' q (Nat.sub q2 q)from rfl];have ZC:jf K cs' ls:=⟨c1,c2,h3,h4,c3⟩;refine fT ⟨i,cs',_,_,rfl,ZC.line hx (.inr ⟨by dsimp only;omega,by dsimp only;omega,by dsimp only;omega,hw,λc hc=>c2 c ?_⟩) (.inr (.inr λo ho=>?_)),vY hx,rfl,hw⟩
  ·dsimp only at hc;unfold nV at hc;exact List.mem_of_mem_drop (List.mem_of_mem_take hc)
  ·dsimp only;unfold nV;rw[hq,oTN,List.getElem?_take_of_lt (show o<Nat.sub q2 q by show o<q2-q;omega),List.getElem?_drop]
theorem PC{K:Int->Prop}{cs:C_}{ls:G_}{a:Int}(h:jf K cs ls)(ha:0<=a/\a<512):Ok (ro a cs ls) λr=>∃t v cs' ls',r=(t,v,cs',ls',())/\om K (t,v)/\jf K cs' ls':=by
 refine(Mc h ha).bind ?_;rintro _ ⟨i,cs',ls',x,rfl,hm,hx,Z2,YB⟩;have hg:fW ls' i=some x:=hx;simp[hg];rw[oTE ha.1];refine gX λj hj=>?_;refine f9 λ_ _=>?_;refine f9 λc hc=>?_;have ZL:om K c:=by rcases hm.lines i x hx with⟨_,_,g⟩|⟨_,_,_,_,g⟩;omega;exact g c (f8 hc)
 exact fT ⟨_,_,_,_,rfl,ZL,hm⟩
theorem zg{K:Int->Prop}{cs:C_}{ls:G_}{a t v:Int}(h:jf K cs ls)(ha:0<=a/\a<512)(hc:om K (t,v)):Ok (nn a t v cs ls) λr=>∃cs' ls',r=(cs',ls',())/\jf K cs' ls':=by refine(Mc h ha).bind ?_;rintro _ ⟨i,cs',ls',x,rfl,hm,hx,Z2,YB⟩;have hg:fW ls' i=some x:=hx;have hil:=(oGS hx).1;simp[hg];rw[oTE ha.1];refine gX λj hj=>?_;refine f9 λ_ _=>?_;refine f9 λ_ _=>?_;refine gV (by simp_all) λ_ _=>?_;rw[j6];refine fT ⟨_,_,rfl,hm.line hx ?_ (.inr (.inl rfl))⟩;rcases hm.lines i x hx with⟨_,_,g⟩|⟨g1,g2,g3,g4,g5⟩;omega;exact .inr ⟨g1,g2,g3,by simp_all,hU g5 λ_ _=>hc⟩
theorem sH(x:Int):W16 (wk .u16 x):=by unfold wk;rw[xG];exact⟨by omega,by omega⟩
theorem SB{ss bs:M_}{key t v t' v':Int}(h:LV bs ss)(hv:W16 v)(YF:W16 v'):Ok (ni bs key ss t v t' v') λ_=>True:=by obtain⟨v0,v1⟩:=hv;obtain⟨u0,u1⟩:=YF;unfold ni;rw[gh (x:=v) (by omega) (by omega),gh (by omega) (by omega)];refine(zp h ⟨v0,v1⟩).bind ?_;rintro⟨r,o,ok,_⟩ _;refine(zp h ⟨u0,u1⟩).bind ?_;rintro⟨r',o',ok',_⟩ _;cases ok<;>cases ok'<;>exact fT trivial
theorem KZ(b:Bool):mG b=some (0,(bif b then 1 else 0),()):=by cases b<;>rfl
theorem Vv{op b c:Int}(hb:W16 b)(hc:W16 c):Ok (nh op b c) λr=>∃v e,r=(0,v,e,())/\W16 v/\0<=e/\e<=6:=by
 obtain⟨b0,b1⟩:=hb;obtain⟨c0,c1⟩:=hc;have ZV:∀x:Int,W16 x->Ok (some ((0:Int),x,(0:Int),())) λr=>∃v e,r=(0,v,e,())/\W16 v/\0<=e/\e<=6:=λx h=>fT ⟨x,0,rfl,h,by decide,by decide⟩;have z5:Ok (some ((0:Int),(0:Int),(5:Int),())) λr=>∃v e,r=(0,v,e,())/\W16 v/\0<=e/\e<=6:=fT ⟨0,5,rfl,⟨by decide,by decide⟩,by decide,by decide⟩;have hw:=sH;unfold nh;refine fV (λZ'=>?_) λZ'=>?_;exact ZV _ (sH _);refine fV (λZ3=>?_) λZ3=>?_;exact ZV _ (sH _);refine fV (λhcc=>?_) λhcc=>?_;exact ZV _ (sH _);have hq:∀X:Option (Int×Int×Int×Unit),c≠0->(X=(bif(op==6)then(bif(c != 0)then some ((0:Int),wk .u16 (Int.tdiv b c),(0:Int),())else none)else bif(c != 0)then some ((0:Int),Int.tmod b c,(0:Int),())else none))->Ok X λr=>∃v e,r=(0,v,e,())/\W16 v/\0<=e/\e<=6:=by rintro _ hne rfl;refine gg (λ_=>fU (by rw[bne_iff_ne];exact hne) (ZV _ (sH _))) λ_=>fU (by rw[bne_iff_ne];exact hne) (ZV _ ?_);rw[oTE b0];have h1:=Int.emod_nonneg b hne;have h2:=Int.emod_lt_of_pos b (show 0<c by omega);exact⟨h1,by omega⟩
 refine fV (λXJ=>?_) λXJ=>?_;refine fV (λXt=>?_) λXt=>?_;exact z5;simp_all;refine fV (λXJ=>?_) λXJ=>?_;refine fV (λXt=>?_) λXt=>?_;exact z5;simp_all;refine fV (λhcf=>?_) λhcf=>?_;exact ZV _ (hw _);refine fV (λhcf=>?_) λhcf=>?_;exact ZV _ (hw _);refine fV (λhcf=>?_) λhcf=>?_;exact ZV _ (hw _);refine fV (λhcf=>?_) λhcf=>?_;rw[oTE c0];refine gX λj hj=>?_;exact ZV _ (hw _);refine fV (λhcf=>?_) λhcf=>?_;rw[oTE c0];refine gX λj hj=>ZV _ ?_;show W16 (Int.fdiv b (2 ^ (min j 16)));have hp:(0:Int)<2 ^ (min j 16):=Int.pow_pos (by decide);rw[Int.fdiv_eq_ediv_of_nonneg _ (by omega)];exact⟨Int.ediv_nonneg b0 (by omega),by have:=Int.ediv_le_self (2 ^ (min j 16)) b0;omega⟩;rw[KZ];refine ZV _ ?_;cases decide (b<c);exact⟨by decide,by decide⟩;exact⟨by decide,by decide⟩
def Tj(K:Int->Prop)(r:Int×Int×Int×Unit):Prop:=∃t v e,r=(t,v,e,())/\om K (t,v)/\0<=e/\e<=6
theorem uW{K:Int->Prop}{t v e:Int}(h:om K (t,v))(h0:0<=e)(h1:e<=6):Ok (some (t,v,e,())) (Tj K):=fT ⟨t,v,e,rfl,h,h0,h1⟩
theorem Bs{K:Int->Prop}{v:Int}(h:W16 v):om K (0,v):=kz h
theorem JD{K:Int->Prop}(b:Bool):om K (0,bif b then 1 else 0):=Bs (by cases b<;>exact⟨by decide,by decide⟩)
theorem xE{K:Int->Prop}:om K (0,0):=Bs ⟨by decide,by decide⟩
theorem WK{ss bs:M_}{key op t v t' v':Int}(h:LV bs ss)(hb:om (RK bs ss) (t,v))(hc:om (RK bs ss) (t',v')):Ok (vL bs key ss op t v t' v') (Tj (RK bs ss)):=by
 obtain⟨t0,t2,v0,v1,_⟩:=hb;obtain⟨u0,u2,w0,w1,_⟩:=hc;dsimp only at t0 t2 v0 v1 u0 u2 w0 w1;obtain⟨_,eN,n1,n2,rfl,hn1,hn2,hn3⟩:=Vv (op:=op) (b:=v) (c:=v') ⟨v0,v1⟩ ⟨w0,w1⟩;obtain⟨_,eA,a1,a2,a3,rfl,YI,X2,ha3,_⟩:=B8 (key:=key) (tag:=t) (back:=false) h (v:=v) (n:=v') ⟨v0,v1⟩ ⟨w0,w1⟩;obtain⟨_,eB,b1,b2,b3,rfl,ZM,hb2,hb3,_⟩:=B8 (key:=key) (tag:=t') (back:=false) h (v:=v') (n:=v) ⟨w0,w1⟩ ⟨v0,v1⟩;obtain⟨_,eC,c1,c2,c3,rfl,ZP,ZL,hc3,_⟩:=B8 (key:=key) (tag:=t) (back:=true) h (v:=v) (n:=v') ⟨v0,v1⟩ ⟨w0,w1⟩;obtain⟨⟨p1,p2,p3,p4,ok,_⟩,eP,_⟩:=SB (key:=key) (t:=t) (t':=t') h (v:=v) (v':=v') ⟨v0,v1⟩ ⟨w0,w1⟩;unfold vL;refine fV (λZ'=>?_) λZ'=>?_;exact uW xE (by decide) (by decide);refine fV (λZ3=>?_) λZ3=>?_;exact uW xE (by decide) (by decide);cases h14:(op==14)with
 |true=>simp only[oCT,KZ,oBS];exact uW (JD _) (by decide) (by decide)|false=>
 simp only[oCF,eN,eA,eB,eC,eP,oBS];rcases(show t=0\/t=1\/t=2 by omega)with rfl|rfl|rfl<;>rcases(show t'=0\/t'=1\/t'=2 by omega)with rfl|rfl|rfl
 all_goals cases h3:(op==3)<;>cases h4:(op==4)<;>cases h13:(op==13)<;>simp only[Int.reduceBEq,oCT,oCF,oBS,h3,h4,h13,KZ,eN,eA,eB,eC,eP,BEq.rfl]
 all_goals first
  |exact uW (Bs hn1) hn2 hn3
  |exact uW YI X2 ha3
  |exact uW ZM hb2 hb3
  |exact uW ZP ZL hc3
  |exact uW xE (by decide) (by decide)
  |(cases ok<;>first
   |exact uW xE (by decide) (by decide)
   |exact uW (JD _) (by decide) (by decide)
   |exact uW (Bs (sH _)) (by decide) (by decide))
theorem Qk{l:M_}{k:Int}(h:DOk l k):Ok (pQ l k) λr=>∃t b s k',r=(t,b,s,l,k',())/\0<=t/\t<4/\0<=b/\b<=63/\DOk l k':=by
 unfold pQ;refine gN (by omega) (by omega) (by omega) λv0 k0 a0 b0 d0=>?_;try dsimp only
 refine gN (by omega) (by omega) (by omega) λv1 k1 a1 b1 d1=>?_;try dsimp only
 refine jB (by omega) λj1 hj1=>?_;try dsimp only
 have hm:∀x∈[(0:Int),1,2,3,7,63],0<=x/\x<=63:=by simp_all
 refine gV (by simp;omega) λx hx=>?_;refine gV (by simp;omega) λy hy=>?_;have hy2:=hm y (f8 hy);refine gN (by omega) (by omega) (by omega) λv2 k2 a2 b2 d2=>?_;try dsimp only
 exact fT ⟨_,_,_,_,rfl,a0,b0,hy2.1,hy2.2,d2⟩
def kO:J_->Int->M_| [],_=>[]|t::ts,i=>if t.1=1 then i::kO ts (i+1)else kO ts (i+1)
theorem Fg(a b:J_)(i:Int):kO (a++b) i=kO a i++kO b (i+a.length):=by induction a generalizing i with|nil=>simp[kO]|cons t a ih=>simp[kO,ih];rw[show i+1+(a.length:Int)=i+((a.length+1:Nat):Int) by omega];split<;>rfl
theorem EB(a:J_)(i:Int):(kO a i).length<=a.length:=by induction a generalizing i with|nil=>simp[kO]|cons t a ih=>simp[kO];have:=ih (i+1);split<;>simp<;>omega
theorem MS{a:J_}{i x:Int}(h:x∈kO a i):i<=x/\x<i+a.length/\∃t,a[(x-i).toNat]?=some t/\t.1=1:=by
 induction a generalizing i with
 |nil=>simp[kO]at h|cons t a ih=>
 simp[kO]at h;have key:x∈kO a (i+1)->i<=x/\x<i+((t::a).length:Int)/\∃t',(t::a)[(x-i).toNat]?=some t'/\t'.1=1:=by intro h;have ⟨h1,h2,t',h3,h4⟩:=ih h;refine⟨by omega,by simp;omega,t',?_,h4⟩;rw[show(x-i).toNat=(x-(i+1)).toNat+1 by omega,List.getElem?_cons_succ];exact h3
 split at h;rename_i ht;rcases oMC.1 h with rfl|h;exact⟨by omega,by simp;omega,t,by simp,ht⟩;exact key h;exact key h
theorem Rq{ts:J_}(h:ts.length<=1000):pB ts=some (kO ts 0,()):=by
 have e:gd kt NN (ts,(ts.length:Int),0,[],())=some (ts,(ts.length:Int),(ts.length:Int),false,kO ts 0,()):=by
  have:=mJ (f:=kt) (N:=NN) (st:=λk=>(ts,(ts.length:Int),(k:Int),kO (ts.take k) 0,())) (n:=ts.length) (t:=(ts,(ts.length:Int),(ts.length:Int),false,kO ts 0,())) (by unfold NN;omega) ?_ ?_;exact this;intro k hk;unfold kt;dsimp only;refine fV (λZ'=>?_) λZ'=>?_;rw[fZ];simp;obtain⟨x,hx⟩:=gw ts k hk;rw[show fW ts k=some x from hx];simp;have hlen:=EB (ts.take k) 0;rw[oLT]at hlen;have hnext:kO (ts.take (k+1)) 0=kO (ts.take k) 0++(if x.1=1 then[(k:Int)]else[]):=by rw[List.take_add_one,hx,Fg];congr 1;rw[oLT,show 0+((min k ts.length:Nat):Int)=(k:Int) by omega];simp only[Option.toList,kO]
  refine Ok.bind (P:=(·=(ts,(ts.length:Int),(k:Int),kO (ts.take (k+1)) 0,()))) ?_ ?_;refine fV (λZ3=>?_) λZ3=>?_;refine fU (gf (by simp;omega)) ?_;rw[hnext,oIP Z3];exact fT rfl;rw[hnext,oIN Z3,List.append_nil];exact fT rfl;rintro _ rfl
  (simp (disch:=omega) only [gE,gt,gh,gj])
  exact fT rfl;omega;unfold kt;dsimp only;refine fV (λZ'=>?_) λZ'=>?_;omega;rw[List.take_length];exact fT rfl
 refine gW ?_;unfold pB;delta f7;try dsimp only
 rw[e];exact fT rfl
theorem CZ{ow:M_}{qs:j_}(h:kL ow qs):oN ow qs=some (ow,qs,()):=by
 have hq4:∀q∈qs,q.length<=4:=λq hq=>h.qlen4 hq;obtain⟨h1,h2,h3,h4⟩:=h;have e:gd kZ NN (qs,(qs.length:Int),0,ow,qs,(),(),ow,[],())=some (qs,(qs.length:Int),(qs.length:Int),false,ow,qs,(),(),ow,qs,()):=by
  have:=mJ (f:=kZ) (N:=NN) (st:=λk=>(qs,(qs.length:Int),(k:Int),ow,qs,(),(),ow,qs.take k,())) (n:=qs.length) (t:=(qs,(qs.length:Int),(qs.length:Int),false,ow,qs,(),(),ow,qs,())) (by unfold NN;omega) ?_ ?_;exact this;intro k hk;unfold kZ;refine fV (λZ'=>?_) λZ'=>?_;rw[fZ];refine f9 λx hx=>?_;have:=hq4 x (f8 hx);refine fU (gf (by omega)) (fU (gf (by simp;omega)) ?_)
  (simp (disch:=omega) only [gE,gt,gh,gj])
  refine fT ?_;rw[List.take_add_one,hx];rfl;omega;unfold kZ;refine fV (λZ'=>?_) λZ'=>?_;omega;rw[List.take_length];exact fT rfl
 refine gW ?_;refine fU (gf (by omega)) ?_;rw[show List.append [] ow=ow from rfl];delta f7;try dsimp only
 rw[e];exact fT rfl
theorem EF{q:M_}{x:Int}(h:q.Nodup)(hx:x ∉ q):(q++[x]).Nodup:=by grind
theorem gy{α:Type}{l:List α}{i:Nat}{a:α}(h:l[i]?=some a)(f:α->α):List.modify l i f=l.set i (f a):=by apply oEG;grind
theorem is{α:Type}{l:List α}{i:Nat}(h:i<l.length)(a:α):fW (l.set i a) i=some a:=by show(l.set i a)[i]?=some a;simp_all
theorem qg{α:Type}{l:List α}{i:Nat}(h:i<l.length)(a:α)(f:α->α):List.modify (l.set i a) i f=l.set i (f a):=by rw[gy (is h a),List.set_set]
theorem j7{α:Type}{P:α->Prop}{l:List α}{i:Nat}{a:α}(h:∀x∈l,P x)(ha:P a):∀x∈l.set i a,P x:=by grind
theorem MOk.set{n:Int}{ss bs:M_}{cs cs':C_}{ls ls':G_}{ts:J_}(h:MOk n ss bs cs ls ts)(hm:jf (RK bs ss) cs' ls'){i:Nat}{t:DTh}(ht:zQ (RK bs ss) n t):MOk n ss bs cs' ls' (ts.set i t):=⟨h.lay,hm,by rw[oLS];exact h.tlen,j7 h.thr ht⟩
def Xn(code:F_)(t:DTh)(s:Int)(t':DTh):Prop:=
 (s=-1/\t'.1=1/\((t'.2.2.2.1=t.2.2.2.1/\t'.2.2.1=t.2.2.1+1)\/t'.2.2.2.1=t.2.2.2.1+1))\/(s=2/\t'.1=4/\t'.2.2.2.1=t.2.2.2.1)\/
  (s=1/\t'.1=2/\t'.2.2.2.1=t.2.2.2.1/\∃i:DIn,1<=t'.2.2.1/\code[(t'.2.2.1-1).toNat]?=some i/\i.1=23)
def Ln(n key:Int)(code:F_)(ss bs:M_)(ts:J_)(i:Nat)(t:DTh)(r:Int×M_×Int×C_×G_×J_×Unit):Prop:=∃s cs' ls' t',r=(s,bs,key,cs',ls',ts.set i t',())/\jf (RK bs ss) cs' ls'/\zQ (RK bs ss) n t'/\Xn code t s t'
theorem qz{n key:Int}{code:F_}{ss bs:M_}{ts:J_}{i:Nat}{t t':DTh}{cs':C_}{ls':G_}(hm:jf (RK bs ss) cs' ls')(ht:zQ (RK bs ss) n t')(h1:t'.1=1)
 (h:(t'.2.2.2.1=t.2.2.2.1/\t'.2.2.1=t.2.2.1+1)\/t'.2.2.2.1=t.2.2.2.1+1):Ok (some (-1,bs,key,cs',ls',ts.set i t',())) (Ln n key code ss bs ts i t):=fT ⟨_,_,_,_,rfl,hm,ht,.inl ⟨rfl,h1,h⟩⟩
theorem pS{n key why:Int}{code:F_}{ss bs:M_}{ts:J_}{i:Nat}{t:DTh}{cs':C_}{ls':G_}(hm:jf (RK bs ss) cs' ls')(ht:zQ (RK bs ss) n t)(hw:0<=why/\why<=6):
 Ok (some (2,bs,key,cs',ls',ts.set i (4,t.2.1,t.2.2.1,t.2.2.2.1,t.2.2.2.2.1,t.2.2.2.2.2.1,why,0),())) (Ln n key code ss bs ts i t):=fT ⟨_,_,_,_,rfl,hm,ht.ended hw,.inr (.inl ⟨rfl,rfl,rfl⟩)⟩
theorem kA(op:Int):ox op=some (oh op||op==22||op==24,()):=by unfold ox;rw[xp];grind
set_option maxHeartbeats 4000000 in
theorem Vu{n key:Int}{code:F_}{ss bs:M_}{d:j_}{cs:C_}{ls:G_}{ts:J_}{i:Nat}{t:DTh}(hp:kT code ss d)(h:MOk n ss bs cs ls ts)(ht:ts[i]?=some t)(hs:t.1=1) (hc:t.2.2.2.1+1<=n)(hn:n<=1099511627776):Ok (sQ code ss d (i:Int) bs key cs ls ts) (Ln n key code ss bs ts i t):=by
 have hok:=h.thr t (f8 ht);have hm:=h.mem;obtain⟨_,hl,hr,⟨p0,p1⟩,⟨c0,c1⟩,ha,⟨s0,s1⟩,⟨r0,r1⟩,hco⟩:=id hok;obtain⟨st,rs,pc,ct,hd,sa,tr,co⟩:=t;dsimp only at *;subst hs;have hil:=(oGS ht).1;have hg:fW ts i=some (1,rs,pc,ct,hd,sa,tr,co):=ht;have e1:∀f:DTh->DTh,List.modify ts i f=ts.set i (f (1,rs,pc,ct,hd,sa,tr,co)):=λf=>gy ht f;have e2:∀x,fW (ts.set i x) i=some x:=λx=>is hil x;have e3:∀(x:DTh)(f:DTh->DTh),List.modify (ts.set i x) i f=ts.set i (f x):=λx f=>qg hil x f;have eT:∀why,iD (i:Nat) why ts=some (2,ts.set i (4,rs,pc,ct,hd,sa,why,0),()):=λwhy=>by rw[Tp (n:=n) ht,e1]
 have mk:∀{rs':C_}{pc' ct' sa':Int},rs'.length=8->(∀c∈rs',om (RK bs ss) c)->0<=pc'/\pc'<=255->0<=ct'/\ct'<=n->-1<=sa'/\sa'<=255->zQ (RK bs ss) n (1,rs',pc',ct',hd,sa',tr,co):=λh1 h2 h3 h4 h5=>⟨⟨show(0:Int)<=1 by decide,show(1:Int)<=4 by decide⟩,h1,h2,h3,h4,ha,h5,⟨r0,r1⟩,hco⟩;unfold sQ;rw[fZ];delta f7;simp only[hg,oBS];refine fV (λZ'=>?_) λZ'=>?_;rw[eT 2];exact pS hm hok (by decide);refine jB p0 λj hj=>?_;subst hj;have Y9:=hp.clen;refine f9 λx hx=>?_;obtain⟨op,A,B,C,I⟩:=x;obtain⟨⟨o0,o1⟩,⟨A0,A1,_⟩,⟨B0,B1,_⟩,⟨C0,C1,_⟩,⟨I0,I1,_⟩,hlea,hsys,hjmp⟩:=hp.ins _ (f8 hx);dsimp only at *;obtain⟨A,rfl⟩:∃k:Nat,A=k:=⟨A.toNat,by omega⟩;obtain⟨B,rfl⟩:∃k:Nat,B=k:=⟨B.toNat,by omega⟩;obtain⟨C,rfl⟩:∃k:Nat,C=k:=⟨C.toNat,by omega⟩;obtain⟨I,rfl⟩:∃k:Nat,I=k:=⟨I.toNat,by omega⟩;obtain⟨⟨ta,va⟩,gA⟩:∃c,fW rs A=some c:=⟨_,oGE (by omega)⟩;obtain⟨⟨tb,vb⟩,gB⟩:∃c,fW rs B=some c:=⟨_,oGE (by omega)⟩;obtain⟨⟨tc,vc⟩,gC⟩:∃c,fW rs C=some c:=⟨_,oGE (by omega)⟩;have cA:=hr _ (f8 gA);have cB:=hr _ (f8 gB);have cC:=hr _ (f8 gC);have eR:∀f:DCe->DCe,List.modify rs A f=rs.set A (f (ta,va)):=λf=>gy gA f;have w1:w64 ((j:Int)+1)=(j:Int)+1:=gE (by omega) (by omega);have wI:wk .u16 (I:Int)=I:=gt (by omega) (by omega);have Zf:∀{c:DCe},om (RK bs ss) c->(rs.set A c).length=8/\∀x∈rs.set A c,om (RK bs ss) x:=λhc=>⟨by rw[oLS];exact hl,j7 hr hc⟩;have wc:w64 (ct+1)=ct+1:=gE (by omega) (by omega);simp only[fZ,hg,gA,gB,oBS,w1,wI];rcases(show op=0\/op=1\/op=2\/op=15\/op=16\/op=17\/op=18\/op=19\/op=20\/op=21\/op=22\/op=23\/op=24\/(3<=op/\op<=14) by omega)with rfl|rfl|rfl|rfl|rfl|rfl|rfl|rfl|rfl|rfl|rfl|rfl|rfl|⟨q0,q1⟩;all_goals try simp only[Int.reduceBEq,oCT,oCF,fZ,hg,gA,gB,gC,e1,e2,e3,eR,eT,oBS,w1,wI,wc,kA,oh,Bool.or_false,Bool.or_true,Bool.or_self,oBN]
 exact qz hm (mk hl hr (by omega) (by omega) (by omega)) rfl (.inl ⟨rfl,rfl⟩);exact qz hm (mk (Zf (kz (by omega))).1 (Zf (kz (by omega))).2 (by omega) (by omega) (by omega)) rfl (.inl ⟨rfl,rfl⟩);exact qz hm (mk (Zf cB).1 (Zf cB).2 (by omega) (by omega) (by omega)) rfl (.inl ⟨rfl,rfl⟩);have hI:=hlea rfl;have hbl:=h.lay.2.1;obtain⟨b,hb⟩:=gw bs I (by omega);obtain⟨z,hz⟩:=gw ss I (by omega);have Yk:=h.lay.2.2 I (by omega);unfold xD at Yk;rw[gu hb,gu hz]at Yk;have W':=h.lay.1.2.2 z (f8 hz);have wb:wk .u16 b=b:=gt (by omega) (by omega);have gb:fW bs I=some b:=hb;simp only[gb,wb,Int.reduceBEq,oCT,oCF,fZ,hg,gA,gB,gC,e1,e2,e3,eR,eT,oBS,w1,wI,wc,kA,oh,Bool.or_false,Bool.or_true,Bool.or_self,oBN];have Z3:om (RK bs ss) (1,b):=⟨by dsimp only;omega,by dsimp only;omega,by dsimp only;omega,by dsimp only;omega,λ_=>⟨I,b,z,hb,hz,by dsimp only;omega,by dsimp only;omega⟩⟩;exact qz hm (mk (Zf Z3).1 (Zf Z3).2 (by omega) (by omega) (by omega)) rfl (.inl ⟨rfl,rfl⟩);obtain⟨_,em,t1,x1,e,rfl,ZP,he0,he6,hx512⟩:=B8 (key:=key) (tag:=tb) (v:=vb) (n:=(I:Int)) (back:=false) h.lay ⟨cB.2.2.1,cB.2.2.2.1⟩ ⟨by omega,by omega⟩;simp only[em,oBS];by_cases hne:e=0;subst hne;have wx:wk .i64 x1=x1:=gh (by have:=ZP.2.2.1;dsimp only at this;omega) (by have:=ZP.2.2.2.1;dsimp only at this;omega);obtain⟨_,el,t2,x2,cs2,P',rfl,ZL,hm2⟩:=PC (a:=x1) hm ⟨ZP.2.2.1,hx512 rfl⟩;simp only[wx,el,Int.reduceBEq,oCT,oCF,fZ,hg,gA,gB,gC,e1,e2,e3,eR,eT,oBS,w1,wI,wc,kA,oh,Bool.or_false,Bool.or_true,Bool.or_self,oBN];exact qz hm2 (mk (Zf ZL).1 (Zf ZL).2 (by omega) (by omega) (by omega)) rfl (.inl ⟨rfl,rfl⟩);simp only[bne_iff_ne.2 hne,oCT];exact pS hm hok ⟨he0,he6⟩;obtain⟨_,em,t1,x1,e,rfl,ZP,he0,he6,hx512⟩:=B8 (key:=key) (tag:=ta) (v:=va) (n:=(I:Int)) (back:=false) h.lay ⟨cA.2.2.1,cA.2.2.2.1⟩ ⟨by omega,by omega⟩;simp only[em,oBS];by_cases hne:e=0;subst hne;have wx:wk .i64 x1=x1:=gh (by have:=ZP.2.2.1;dsimp only at this;omega) (by have:=ZP.2.2.2.1;dsimp only at this;omega);obtain⟨_,el,cs2,P',rfl,hm2⟩:=zg (a:=x1) (t:=tb) (v:=vb) hm ⟨ZP.2.2.1,hx512 rfl⟩ cB;simp only[wx,el,Int.reduceBEq,oCT,oCF,fZ,hg,gA,gB,gC,e1,e2,e3,eR,eT,oBS,w1,wI,wc,kA,oh,Bool.or_false,Bool.or_true,Bool.or_self,oBN];exact qz hm2 (mk hl hr (by omega) (by omega) (by omega)) rfl (.inl ⟨rfl,rfl⟩);simp only[bne_iff_ne.2 hne,oCT];exact pS hm hok ⟨he0,he6⟩;have:=hjmp (by decide);exact qz hm (mk hl hr (by omega) (by omega) (by omega)) rfl (.inr rfl);have:=hjmp (by decide);by_cases hta:ta=0;subst hta;cases va==0 with|true=>simp only[BEq.rfl,Int.reduceBEq,oCT,oCF,fZ,hg,gA,gB,gC,e1,e2,e3,eR,eT,oBS,w1,wI,wc,kA,oh,Bool.or_false,Bool.or_true,Bool.or_self,oBN];exact qz hm (mk hl hr (by omega) (by omega) (by omega)) rfl (.inr rfl)|false=>simp only[show(false==true)=false from rfl,Int.reduceBEq,oCT,oCF,fZ,hg,gA,gB,gC,e1,e2,e3,eR,eT,oBS,w1,wI,wc,kA,oh,Bool.or_false,Bool.or_true,Bool.or_self,oBN];exact qz hm (mk hl hr (by omega) (by omega) (by omega)) rfl (.inr rfl)
 simp only[bne_iff_ne.2 hta,oCT];exact pS hm hok (by decide);have:=hjmp (by decide);by_cases hta:ta=0;subst hta;cases va==0 with|true=>simp only[show(true==false)=false from rfl,Int.reduceBEq,oCT,oCF,fZ,hg,gA,gB,gC,e1,e2,e3,eR,eT,oBS,w1,wI,wc,kA,oh,Bool.or_false,Bool.or_true,Bool.or_self,oBN];exact qz hm (mk hl hr (by omega) (by omega) (by omega)) rfl (.inr rfl)|false=>simp only[BEq.rfl,Int.reduceBEq,oCT,oCF,fZ,hg,gA,gB,gC,e1,e2,e3,eR,eT,oBS,w1,wI,wc,kA,oh,Bool.or_false,Bool.or_true,Bool.or_self,oBN];exact qz hm (mk hl hr (by omega) (by omega) (by omega)) rfl (.inr rfl)
 simp only[bne_iff_ne.2 hta,oCT];exact pS hm hok (by decide);have:=hjmp (by decide);have wj:wk .u16 ((j:Int)+1)=(j:Int)+1:=gt (by omega) (by omega);rw[wj];exact qz hm (mk (Zf (kz (by omega))).1 (Zf (kz (by omega))).2 (by omega) (by omega) (by omega)) rfl (.inr rfl);by_cases hta:ta=0;subst hta;have wa:wk .i64 va=va:=gh (by have:=cA.2.2.1;dsimp only at this;omega) (by have:=cA.2.2.2.1;dsimp only at this;omega);have a0:=cA.2.2.1;dsimp only at a0;by_cases hva:va>255;simp only[oDT hva,oBN,oCT,oCF];exact pS hm hok (by decide);simp only[oDF hva,wa,Int.reduceBEq,oCT,oCF,fZ,hg,gA,gB,gC,e1,e2,e3,eR,eT,oBS,w1,wI,wc,kA,oh,Bool.or_false,Bool.or_true,Bool.or_self,oBN];exact qz hm (mk hl hr (by omega) (by omega) (by omega)) rfl (.inr rfl);simp only[bne_iff_ne.2 hta,oCT];exact pS hm hok (by decide);refine fT ⟨_,_,_,_,rfl,hm,⟨⟨show(0:Int)<=2 by decide,show(2:Int)<=4 by decide⟩,hl,hr,⟨by dsimp only;omega,by dsimp only;omega⟩,⟨c0,by dsimp only;omega⟩,ha,⟨s0,s1⟩,⟨r0,r1⟩,hco⟩,.inr (.inr ⟨rfl,rfl,rfl,(23,(A:Int),(B:Int),(C:Int),(I:Int)),by dsimp only;omega,?_,rfl⟩)⟩;dsimp only;rw[show(j:Int)+1-1=(j:Int) by omega,oTN];exact hx;by_cases hsa:sa=-1;simp only[beq_iff_eq.2 hsa,oCT];exact pS hm hok (by decide);simp only[oBF hsa,Int.reduceBEq,oCT,oCF,fZ,hg,gA,gB,gC,e1,e2,e3,eR,eT,oBS,w1,wI,wc,kA,oh,Bool.or_false,Bool.or_true,Bool.or_self,oBN];exact qz hm (mk hl hr (by omega) (by omega) (by omega)) rfl (.inr rfl);obtain⟨_,ed,t1,x1,e,rfl,ZP,he0,he6⟩:=WK (key:=key) (op:=op) h.lay cB cC;have n0:(op==0)=false:=oBF (by omega);have n1:(op==1)=false:=oBF (by omega);have n2:(op==2)=false:=oBF (by omega);have n15:(op==15)=false:=oBF (by omega);have n16:(op==16)=false:=oBF (by omega);have n17:(op==17)=false:=oBF (by omega);have n18:(op==18)=false:=oBF (by omega);have n19:(op==19)=false:=oBF (by omega);have n20:(op==20)=false:=oBF (by omega);have n21:(op==21)=false:=oBF (by omega);have n22:(op==22)=false:=oBF (by omega);have n23:(op==23)=false:=oBF (by omega);have n24:(op==24)=false:=oBF (by omega);simp only[n0,n1,n2,n15,n16,n17,n18,n19,n20,n21,n22,n23,n24,ed,Int.reduceBEq,oCT,oCF,fZ,hg,gA,gB,gC,e1,e2,e3,eR,eT,oBS,w1,wI,wc,kA,oh,Bool.or_false,Bool.or_true,Bool.or_self,oBN];by_cases hne:e=0;subst hne;simp only[n18,n19,n20,n21,n22,n24,Int.reduceBEq,oCT,oCF,fZ,hg,gA,gB,gC,e1,e2,e3,eR,eT,oBS,w1,wI,wc,kA,oh,Bool.or_false,Bool.or_true,Bool.or_self,oBN];exact qz hm (mk (Zf ZP).1 (Zf ZP).2 (by omega) (by omega) (by omega)) rfl (.inl ⟨rfl,rfl⟩);simp only[bne_iff_ne.2 hne,oCT];exact pS hm hok ⟨he0,he6⟩
theorem zQ.mono{K:Int->Prop}{n m:Int}{t:DTh}(h:zQ K n t)(hm:n<=m):zQ K m t:=⟨h.state,h.len,h.regs,h.pc,⟨h.count.1,by have:=h.count.2;omega⟩,h.handler,h.saved,h.trap,h.code⟩
theorem MOk.mono{n m:Int}{ss bs:M_}{cs:C_}{ls:G_}{ts:J_}(h:MOk n ss bs cs ls ts)(hm:n<=m):MOk m ss bs cs ls ts:=⟨h.lay,h.mem,h.tlen,λt ht=>(h.thr t ht).mono hm⟩
theorem Fa{α:Type}{l:List α}{i:Nat}{a:α}(h:l[i]?=some a):l.set i a=l:=by apply oEG;grind
def W1(code:F_)(s:Int)(t':DTh):Prop:=(s=0/\t'.1=1)\/(s=2/\t'.1=4)\/(s=1/\t'.1=2/\∃i:DIn,1<=t'.2.2.1/\code[(t'.2.2.1-1).toNat]?=some i/\i.1=23)
def US(n key:Int)(code:F_)(ss bs:M_)(ts:J_)(i:Nat)(r:M_×Int×C_×G_×J_×Int×Int×Unit):Prop:=∃s cs' ls' t',r=(bs,key,cs',ls',ts.set i t',s,0,())/\jf (RK bs ss) cs' ls'/\zQ (RK bs ss) n t'/\((s=3/\ts[i]?=some t'/\t'.1≠1)\/W1 code s t')
abbrev g_:=List v_
def Wz(i:Nat)(s:Int×Int×F_×v_×g_×Unit×Int×Unit×Unit×Unit×v_×Int×C_×G_×J_×Unit):Nat:=match s.2.2.2.2.2.2.2.2.2.2.2.2.2.2.1[i]? with|some t=>((s.2.1-t.2.2.2.1)*256+(255-t.2.2.1)).toNat|none=>0
theorem J5{i:Nat}{a b k:Int}{code:F_}{ss bs:M_}{d:j_}{cs:C_}{ls:G_}{ts:J_}{t:DTh}(h:ts[i]?=some t):Wz i (a,b,code,ss,d,(),0,(),(),(),bs,k,cs,ls,ts,())=((b-t.2.2.2.1)*256+(255-t.2.2.1)).toNat:=by unfold Wz;simp_all
theorem QV{n key k:Int}{code:F_}{ss bs:M_}{d:j_}{cs:C_}{ls:G_}{ts:J_}{i:Nat}(hp:kT code ss d)(h:MOk n ss bs cs ls ts)(hn0:0<=n)(hn:n+64<=1099511627776)(hi:i<4)(hk:1<=k/\k<=64):Ok (pz code ss d bs key cs ls ts (i:Int) k) (US (n+64) key code ss bs ts i):=by
 have Ys:=h.tlen;obtain⟨t,ht⟩:=gw ts i (by omega);have hg:fW ts i=some t:=ht;have hil:i<ts.length:=by omega
 have hok:=h.thr t (f8 ht);unfold pz;rw[vF hp h (by omega)];simp;rw[oDF (show ¬(i:Int)<0 by omega),oDF (show ¬(i:Int)>=4 by omega),oDF (show ¬k<1 by omega),oDF (show ¬k>64 by omega)];simp only[oBS,oCF,yp h,fZ,hg];refine fV (λZ'=>?_) λZ'=>?_;refine fT ⟨3,cs,ls,t,?_,h.mem,hok.mono (by omega),.inl ⟨rfl,ht,Z'⟩⟩;rw[Fa ht];have hct:=hok.count;have hpc:=hok.pc;rw[iC (x:=t.2.2.2.1+k)];refine gQ (P:=λs'=>∃cs' ls' t',s'=((i:Int),t.2.2.2.1+k,code,ss,d,(),0,(),(),(),bs,key,cs',ls',ts.set i t',())/\jf (RK bs ss) cs' ls'/\zQ (RK bs ss) (n+64) t'/\t'.1=1/\t'.2.2.2.1<t.2.2.2.1+k)
  (R:=λr=>∃s cs' ls' t',r=(s,0,bs,key,cs',ls',ts.set i t',())/\jf (RK bs ss) cs' ls'/\zQ (RK bs ss) (n+64) t'/\W1 code s t') (m:=Wz i) ⟨cs,ls,t,by rw[Fa ht],h.mem,hok.mono (by omega),Z',by omega⟩ ?_ ?_ ?_
 rw[J5 ht];unfold NN;omega;rintro _ ⟨cs',ls',t',rfl,hm,Zs,hr,hlt⟩;have ZW:(ts.set i t')[i]?=some t':=is hil t';unfold tX;dsimp only;refine(Vu hp (((h.mono (show n<=n+64 by omega)).set hm Zs):MOk (n+64) ss bs cs' ls' (ts.set i t')) ZW hr (by omega) (by omega)).bind ?_;rintro _ ⟨s,cs2,P',t2,rfl,hm2,hth2,YY⟩;dsimp only;rw[List.set_set];refine fV (λZ3=>?_) λZ3=>?_;refine fT ⟨_,_,_,_,rfl,hm2,hth2,?_⟩;rcases YY with⟨q,_⟩|⟨q1,q2,_⟩|⟨q1,q2,_,q3⟩;exact absurd q Z3;exact .inr (.inl ⟨q1,q2⟩);exact .inr (.inr ⟨q1,q2,q3⟩);rw[fZ];simp only[oBS,is hil];have h0:=hth2.count;have h1:=hth2.pc;have h2:=Zs.pc;rcases YY with⟨_,q1,q2⟩|⟨q1,_⟩|⟨q1,_⟩;refine fV (λhcc=>?_) λhcc=>?_;exact fT ⟨_,_,_,_,rfl,hm2,hth2,.inl ⟨rfl,q1⟩⟩;refine fT ⟨⟨_,_,_,rfl,hm2,hth2,q1,by omega⟩,?_⟩;rw[J5 ZW,J5 (is hil t2)];omega;omega;omega;rintro _ ⟨s,cs',ls',t',rfl,hm,Zs,hs⟩;exact fT ⟨_,_,_,_,rfl,hm,Zs,.inr hs⟩
def OW(bs ss:M_)(a:Int):Nat->Nat->Option (Int×Int)|0,_=>none|n+1,k=>if bs.getD k 0<=a/\a<bs.getD k 0+ss.getD k 0 then some ((k:Int),a-bs.getD k 0)else OW bs ss a n (k+1)
def NV(bs ss:M_)(a:Int):Option (Int×Int):=OW bs ss a bs.length 0
theorem OV{bs ss:M_}{a r o:Int}:∀{n k:Nat},k+n=bs.length->bs.length=ss.length->OW bs ss a n k=some (r,o)->∃(j:Nat)(b z:Int),r=j/\o=a-b/\bs[j]?=some b/\ss[j]?=some z/\b<=a/\a<b+z:=by
 intro n;induction n with
 |zero=>intro k _ _ h;cases h|succ n ih=>
 intro k hk hl h;simp only[OW]at h;split at h
 ·rename_i hh
  injection h with h
  injection h with h1 h2
  refine⟨k,_,_,h1.symm,h2.symm,?_,?_,hh.1,hh.2⟩
  all_goals rw[P6 (by omega)];exact oGE (by omega)
 exact ih (by omega) hl h
theorem HQ{bs ss:M_}{a:Int}:∀{n k:Nat},k+n=bs.length->OW bs ss a n k=none->∀(j:Nat)(b z:Int),k<=j->bs[j]?=some b->ss[j]?=some z->¬(b<=a/\a<b+z):=by intro n;induction n with|zero=>simp_all|succ n ih=>intro k hk h j b z hj hb hz;simp[OW]at h;split at h;cases h;rename_i hh;by_cases hjk:j=k;simp_all;exact ih (by omega) h j b z (by omega) hb hz
theorem xP{bs ss:M_}{a r o:Int}(hl:bs.length=ss.length)(h:NV bs ss a=some (r,o)):∃(j:Nat)(b z:Int),r=j/\o=a-b/\bs[j]?=some b/\ss[j]?=some z/\b<=a/\a<b+z:=OV (by omega) hl h
theorem OX{bs ss:M_}{a:Int}(h:RK bs ss a):∃r o,NV bs ss a=some (r,o):=by cases e:NV bs ss a with|some x=>exact⟨x.1,x.2,rfl⟩|none=>have ⟨j,b,z,h1,h2,h3,h4⟩:=h;exact absurd ⟨h3,h4⟩ (HQ (by omega) e j b z (by omega) h1 h2)
theorem zq{bs ss:M_}{key a:Int}(h:LV bs ss)(ha:W16 a):gY bs key ss a=some (match NV bs ss a with|some (r,o)=>(r,o,true,())|none=>(0,0,false,())):=by
 obtain⟨hs,hl,hr⟩:=h;obtain⟨a0,a1⟩:=ha;have M':=hs.2.1;have key1:∀(n k N:Nat),k+n=bs.length->n<N->gd gM N (ss,a,bs,(bs.length:Int),(k:Int),bs,key,0,0,())=some (match OW bs ss a n k with|some (r,o)=>.inl (true,r,o,())|none=>.inr (ss,a,bs,(bs.length:Int),(bs.length:Int),false,bs,key,0,0,())):=by
  intro n;induction n with
  |zero=>
  intro k N hk hN;obtain⟨N,rfl⟩:∃M,N=M+1:=⟨N-1,by omega⟩;obtain rfl:k=bs.length:=by omega
  have e:gM (ss,a,bs,(bs.length:Int),(bs.length:Int),bs,key,0,0,())=some (.inr (.inr (ss,a,bs,(bs.length:Int),(bs.length:Int),false,bs,key,0,0,()))):=by refine gW ?_;unfold gM;dsimp only;refine fV (λZ'=>?_) λZ'=>?_;omega;exact fT rfl
  simp only[gd,e,oBS,OW]
  |succ n ih=>
  intro k N hk hN;obtain⟨N,rfl⟩:∃M,N=M+1:=⟨N-1,by omega⟩;obtain⟨b,hb⟩:=gw bs k (by omega);obtain⟨z,hz⟩:=gw ss k (by omega);have W':=hs.2.2 z (f8 hz);have hrk:=hr k (by omega);unfold xD at hrk;rw[gu hb,gu hz]at hrk;by_cases hh:b<=a/\a<b+z;have e:gM (ss,a,bs,(bs.length:Int),(k:Int),bs,key,0,0,())=some (.inr (.inl (true,(k:Int),a-b,()))):=by refine gW ?_;unfold gM;dsimp only;rw[oDT (show(k:Int)<bs.length by omega),fZ];simp only[oCT,oBS,show fW bs k=some b from hb,show fW ss k=some z from hz];rw[oDT (show a>=b by omega),iC (x:=b+z),oDT hh.2,iC (x:=a-b)];exact fT rfl
  simp only[gd,e,oBS,OW,gu hb,gu hz,oIP hh];have e:gM (ss,a,bs,(bs.length:Int),(k:Int),bs,key,0,0,())=some (.inl (ss,a,bs,(bs.length:Int),((k+1:Nat):Int),bs,key,0,0,())):=by refine gW ?_;unfold gM;dsimp only;rw[oDT (show(k:Int)<bs.length by omega),fZ];simp only[oCT,oBS,show fW bs k=some b from hb,show fW ss k=some z from hz];rw[iC (x:=b+z)];by_cases h1:a>=b;rw[oDT h1,oDF (show ¬a<b+z by omega)];simp only[oCT,oCF];rw[iC (x:=(k:Int)+1)];exact fT rfl;rw[oDF h1];simp only[oCF];rw[iC (x:=(k:Int)+1)];exact fT rfl
  simp only[gd,e,oBS,OW,gu hb,gu hz,oIN hh];exact ih (k+1) N (by omega) (by omega)
 unfold gY NV;delta f7;try dsimp only
 rw[show gd gM NN (ss,a,bs,(bs.length:Int),0,bs,key,0,0,())=_ from key1 bs.length 0 NN (by omega) (by unfold NN;omega)];cases OW bs ss a bs.length 0 with|some x=>rfl|none=>rfl
def sw(bs ss:M_)(key:Int)(c:DCe):DCn:=if c.1=0 then(0,c.2,0,0)else if c.1=2 then(2,wk .u16 (c.2-key),0,0)else match NV bs ss c.2 with|some (r,o)=>(1,0,r,o)|none=>(1,0,-1,c.2)
theorem we{K:Int->Prop}{bs ss:M_}{key:Int}{c:DCe}(h:LV bs ss)(hc:om K c):jn bs key ss c.1 c.2=some ((sw bs ss key c).1,(sw bs ss key c).2.1,(sw bs ss key c).2.2.1,(sw bs ss key c).2.2.2,()):=by
 have ⟨c0,c1,c2,c3,_⟩:=hc;unfold jn sw;rw[gh (by omega) (by omega)];dsimp only;rw[zq h ⟨c2,c3⟩];rcases(show c.1=0\/c.1=1\/c.1=2 by omega)with e|e|e<;>rw[e]
 rfl;simp;cases NV bs ss c.2 with|some x=>rfl|none=>rfl
 rfl
theorem ki(x:Int):W16 (wk .u16 x):=sH x
theorem Hj{bs ss:M_}{key:Int}{c:DCe}(h:LV bs ss)(hc:om (RK bs ss) c):Pr ss (sw bs ss key c):=by have ⟨c0,c1,c2,c3,c4⟩:=hc;unfold sw;rcases(show c.1=0\/c.1=1\/c.1=2 by omega)with e|e|e;rw[oIP e];exact .inl ⟨.inl rfl,rfl,rfl,c2,c3⟩;rw[oIN (by omega),oIN (by omega)];have ⟨r,o,hro⟩:=OX (c4 e);rw[hro];obtain⟨j,b,z,rfl,rfl,h1,h2,h3,h4⟩:=xP h.2.1 hro;exact .inr ⟨rfl,rfl,by simp_all,z,by simp_all,by simp_all,by dsimp only;omega⟩;rw[oIN (by omega),oIP e];exact .inl ⟨.inr rfl,rfl,rfl,ki _⟩
theorem BE{K:Int->Prop}{bs ss:M_}{key:Int}{c:DCe}(hc:om K c):(sw bs ss key c).1=c.1/\(c.1=0->(sw bs ss key c).2.1=c.2):=by
 have ⟨c0,c1,_⟩:=hc;unfold sw;rcases(show c.1=0\/c.1=1\/c.1=2 by omega)with e|e|e;simp_all;rw[oIN (by omega),oIN (by omega)];cases NV bs ss c.2 with|some x=>simp_all|none=>simp_all
 simp_all
def og(cs:C_)(ls:G_)(a:Int):DCe:=match ls[(a/4%4).toNat]? with|some x=>if x.1=a/4 then x.2.2.getD (a%4).toNat (0,0)else cs.getD a.toNat (0,0)|none=>(0,0)
theorem getD_some{α:Type}{l:List α}{k:Nat}{d x:α}(h:l[k]?=some x):l.getD k d=x:=by simp_all
theorem Fq{K:Int->Prop}{cs:C_}{ls:G_}{a:Int}(h:jf K cs ls)(ha:0<=a/\a<512):oS cs ls a=some ((og cs ls a).1,(og cs ls a).2,())/\om K (og cs ls a):=by obtain⟨a0,a1⟩:=ha;obtain⟨h1,h2,h3,h4,_⟩:=id h;unfold oS og;rw[Int.tdiv_eq_ediv_of_nonneg a0,iC (x:=a/4)];dsimp only;rw[oTE (show 0<=a/4 by omega),oTE a0];obtain⟨i,hi⟩:∃i:Nat,a/4%4=i:=⟨(a/4%4).toNat,by omega⟩;rw[hi,fZ,oTN];obtain⟨x,hx⟩:=gw ls i (by omega);simp only[oBS,show fW ls i=some x from hx,hx];by_cases hq:x.1=a/4;rcases h4 i x hx with⟨g,_,_⟩|⟨_,_,_,g4,g5⟩;omega;obtain⟨j,hj⟩:∃j:Nat,a%4=j:=⟨(a%4).toNat,by omega⟩;obtain⟨y,hy⟩:=gw x.2.2 j (by omega);rw[hj,fZ,oTN,oIP hq,getD_some hy,beq_iff_eq.2 hq];simp only[oCT,oBS,show fW x.2.2 j=some y from hy];exact⟨trivial,g5 y (f8 hy)⟩;obtain⟨j,rfl⟩:∃j:Nat,a=j:=⟨a.toNat,by omega⟩;obtain⟨y,hy⟩:=gw cs j (by omega);rw[oIN hq,oBF hq,fZ,oTN,getD_some hy];simp only[oCF,oBS,show fW cs j=some y from hy];exact⟨trivial,h2 y (f8 hy)⟩
def kB(call:Int):M_:=
 if call=0\/call=8\/call=9\/call=11\/call=12 then[78]else if call=1\/call=2 then[72,80,78]else if call=3 then[78,78]else if call=4 then[72]else if call=5 then[72,78]
 else if call=10 then[78,88]else if call=13\/call=14 then[78,80,78]else[]
theorem PL(call:Int):(kB call).length<=3:=by
 unfold kB;repeat' split
 all_goals simp
def BOk(b:ByteArray)(l:M_):Prop:=BO b=(l.length:Int)/\∀j:Nat,Eu b j=l[j]?
theorem Xj:BOk (bytes []) []:=⟨rfl,λj=>rfl⟩
theorem Xi{a:Nat}(h:a<256):BOk (bytes [a]) [(a:Int)]:=⟨rfl,λj=>by
 match j with
 |0=>show some (((UInt8.ofNat a).toNat:Nat):Int)=some (a:Int);simp;omega
 |n+1=>rfl⟩
theorem Xh{a b:Nat}(h:a<256)(hb:b<256):BOk (bytes [a,b]) [(a:Int),(b:Int)]:=⟨rfl,λj=>by
 match j with
 |0=>show some (((UInt8.ofNat a).toNat:Nat):Int)=some (a:Int);simp;omega
 |1=>show some (((UInt8.ofNat b).toNat:Nat):Int)=some (b:Int);simp;omega
 |n+2=>rfl⟩
theorem Xg{a b c:Nat}(h:a<256)(hb:b<256)(hc:c<256):BOk (bytes [a,b,c]) [(a:Int),(b:Int),(c:Int)]:=⟨rfl,λj=>by
 match j with
 |0=>show some (((UInt8.ofNat a).toNat:Nat):Int)=some (a:Int);simp;omega
 |1=>show some (((UInt8.ofNat b).toNat:Nat):Int)=some (b:Int);simp;omega
 |2=>show some (((UInt8.ofNat c).toNat:Nat):Int)=some (c:Int);simp;omega
 |n+3=>rfl⟩
theorem nP{call:Int}(h:0<=call/\call<=15):call=0\/call=1\/call=2\/call=3\/call=4\/call=5\/call=6\/call=7\/call=8\/call=9\/call=10\/call=11\/call=12\/call=13\/call=14\/call=15:=by omega
theorem Fu{call:Int}(h:0<=call/\call<=15):∃b,nc call=some (b,())/\BOk b (kB call):=by
 rcases nP h with rfl|rfl|rfl|rfl|rfl|rfl|rfl|rfl|rfl|rfl|rfl|rfl|rfl|rfl|rfl|rfl;all_goals first
  |exact⟨_,rfl,Xj⟩
  |exact⟨_,rfl,Xi (by decide)⟩
  |exact⟨_,rfl,Xh (by decide) (by decide)⟩
  |exact⟨_,rfl,Xg (by decide) (by decide) (by decide)⟩
def Nz(k t:Int):Bool:=if k=78 then t==0 else if k=72 then t==2 else if k=80 then t==1 else true
theorem Qa(k t:Int):oQ k t=some (Nz k t,()):=by unfold oQ Nz;by_cases h1:k=78;simp[h1];by_cases h2:k=72;simp[h2];by_cases h3:k=80;simp[h3];simp[h1,h2,h3,oBF h1,oBF h2,oBF h3]
def qQ(call:Int):Int:=if call=1\/call=13 then 1 else if call=2\/call=14 then 2 else 0
theorem qO{call:Int}(h:0<=call/\call<=15):jx call=some (qQ call,()):=by rcases nP h with rfl|rfl|rfl|rfl|rfl|rfl|rfl|rfl|rfl|rfl|rfl|rfl|rfl|rfl|rfl|rfl<;>rfl
theorem AX{call:Int}(h:0<=call/\call<=15):jK call=some (((kB call).length:Int),()):=by have ⟨b,e,hb⟩:=Fu h;unfold jK;rw[oDF (show ¬call<0 by omega),oDF (show ¬call>15 by omega),e];simp[hb.1]
theorem NX{bs ss:M_}{key t v n:Int}(h:LV bs ss)(hv:W16 v)(hn:0<=n/\n<=65535):Ok (ov bs key ss t v n) λr=>∃a e,r=(a,e,())/\(e=0->t=1/\a=v/\∃(j:Nat)(b z:Int),bs[j]?=some b/\ss[j]?=some z/\b<=v/\v+n<=b+z/\v<b+z):=by obtain⟨v0,v1⟩:=hv;unfold ov;refine fV (λZ'=>?_) λZ'=>?_;exact fT ⟨_,_,rfl,λh=>by omega⟩;rw[gh (x:=v) (by omega) (by omega)];dsimp only;rw[zq h ⟨v0,v1⟩];simp only[oBS];cases e:NV bs ss v with|none=>exact fT ⟨_,_,rfl,λh=>by omega⟩|some x=>obtain⟨r,o⟩:=x;obtain⟨j,b,z,rfl,rfl,h1,h2,h3,h4⟩:=xP h.2.1 e;have hj:=(oGS h1).1;have hr:=h.2.2 j hj;unfold xD at hr;rw[gu h1,gu h2]at hr;rw[oDF (show ¬n<0 by omega),fZ];simp only[oNT,oCF,oBS,show fW ss j=some z from h2];rw[iC (x:=z-(v-b))];refine fV (λZ3=>?_) λZ3=>?_;exact fT ⟨_,_,rfl,λh=>by omega⟩;exact fT ⟨_,_,rfl,λ_=>⟨Z',gh (by omega) (by omega),j,b,z,h1,h2,h3,by omega,h4⟩⟩
structure QH (call:Int)(m:Int)(bs ss:M_)(rs:C_):Prop where
 fit:∀(j:Nat) k c,(kB call)[j]?=some k->rs[j]?=some c->Nz k c.1=true
 buf:0<qQ call->∃p q,rs[1]?=some p/\rs[2]?=some q/\q.2<=16/\p.1=1/\∃(j:Nat)(b z:Int),bs[j]?=some b/\ss[j]?=some z/\b<=p.2/\p.2+q.2<=b+z
 code:call=10\/call=12->∃c,rs[0]?=some c/\c.2<m
theorem Lf{call m:Int}{bs ss:M_}{rs:C_}(h:QH call m bs ss rs):Ok (some ((0:Int),())) λr=>∃e,r=(e,())/\0<=e/\e<=6/\(e=0->QH call m bs ss rs):=fT ⟨0,rfl,by decide,by decide,λ_=>h⟩
theorem C7{call m:Int}{bs ss:M_}{rs:C_}:Ok (some ((6:Int),())) λr=>∃e,r=(e,())/\0<=e/\e<=6/\(e=0->QH call m bs ss rs):=fT ⟨6,rfl,by decide,by decide,λh=>absurd h (by decide)⟩
theorem NL{n key:Int}{code:F_}{ss bs:M_}{d:j_}{cs:C_}{ls:G_}{ts:J_}{i:Nat}{t:DTh}{x:DIn}(h:MOk n ss bs cs ls ts)(ht:ts[i]?=some t)(hp1:1<=t.2.2.1) (hx:code[(t.2.2.1-1).toNat]?=some x)(hc:0<=x.2.2.2.2/\x.2.2.2.2<=15):Ok (py code ss d bs key cs ls ts (i:Int)) λr=>∃e,r=(e,())/\0<=e/\e<=6/\(e=0->QH x.2.2.2.2 code.length bs ss t.2.1):=by
 have hok:=h.thr t (f8 ht);obtain⟨_,hl,hr,⟨p0,p1⟩,_⟩:=id hok;obtain⟨o,A,B,C,call⟩:=x;dsimp only at hc⊢;obtain⟨b,eb,ZM,hb2⟩:=Fu hc;have X5:=PL call;obtain⟨st,rs,pc,rest⟩:=t;dsimp only at *;obtain⟨j,hj⟩:∃j:Nat,pc-1=j:=⟨(pc-1).toNat,by omega⟩;rw[hj,oTN]at hx;unfold py;rw[fZ];simp only[oBS,show fW ts i=some (st,rs,pc,rest)from ht];rw[iC (x:=pc-1),hj,fZ];simp only[oBS,show fW code j=some (o,A,B,C,call)from hx,eb,ZM];obtain⟨c0,hc0⟩:=gw rs 0 (by omega);obtain⟨c1,ZP⟩:=gw rs 1 (by omega);obtain⟨c2,ZL⟩:=gw rs 2 (by omega);have v0:=hr c0 (f8 hc0);have v1:=hr c1 (f8 ZP);have v2:=hr c2 (f8 ZL);have g0:fW rs 0=some c0:=hc0;have g1:fW rs 1=some c1:=ZP;have g2:fW rs 2=some c2:=ZL;obtain⟨y,e,hy⟩:=hJ (f:=pa) (n:=NN) (s:=(call,b,((kB call).length:Int),0,code,ss,d,bs,key,cs,ls,ts,st,rs,pc,rest.1,rest.2.1,rest.2.2.1,rest.2.2.2.1,rest.2.2.2.2,())) (P:=λs'=>∃q:Nat,s'=(call,b,((kB call).length:Int),(q:Int),code,ss,d,bs,key,cs,ls,ts,st,rs,pc,rest.1,rest.2.1,rest.2.2.1,rest.2.2.2.1,rest.2.2.2.2,())/\q<=(kB call).length/\∀(j:Nat) k c,j<q->(kB call)[j]?=some k->rs[j]?=some c->Nz k c.1=true) (R:=λr=>r=.inl (6,())\/(∃q,r=.inr (call,b,((kB call).length:Int),q,false,code,ss,d,bs,key,cs,ls,ts,st,rs,pc,rest.1,rest.2.1,rest.2.2.1,rest.2.2.2.1,rest.2.2.2.2,())/\∀(j:Nat) k c,(kB call)[j]?=some k->rs[j]?=some c->Nz k c.1=true)) (m:=λs'=>(s'.2.2.1-s'.2.2.2.1).toNat) ⟨0,rfl,by omega,λj k c hj=>by omega⟩ (by unfold NN;dsimp only;omega) (by rintro _ ⟨q,rfl,hq,Z4⟩;unfold pa;dsimp only;refine fV (λZ'=>?_) λZ'=>?_;rw[fZ];obtain⟨k,hk⟩:=gw (kB call) q (by omega);obtain⟨c,hcq⟩:=gw rs q (by omega);simp only[oBS,hb2 q,hk,show fW rs q=some c from hcq,Qa];refine fV (λZ3=>?_) λZ3=>?_;exact fT (.inl rfl);rw[iC (x:=(q:Int)+1)];refine fT ⟨⟨q+1,rfl,by omega,λj' k' c' ZR h1 h2=>?_⟩,by dsimp only;omega⟩;by_cases hjq:j'=q;subst hjq;rw[hk]at h1;rw[hcq]at h2;cases h1;cases h2;exact Z3;exact Z4 j' k' c' (by omega) h1 h2;refine fT (.inr ⟨_,rfl,λj k c h1 h2=>Z4 j k c ?_ h1 h2⟩);have:=(oGS h1).1;omega);rw[e];rcases hy with rfl|⟨q,rfl,Z4⟩;exact C7;dsimp only;rw[qO hc];delta f7;simp only[oBS,g0,g1,g2];rw[gh (x:=c2.2) (by have:=v2.2.2.1;omega) (by have:=v2.2.2.2.1;omega),gh (x:=c0.2) (by have:=v0.2.2.1;omega) (by have:=v0.2.2.2.1;omega)];have ZV:(0<qQ call->∃p q,rs[1]?=some p/\rs[2]?=some q/\q.2<=16/\p.1=1/\∃(j:Nat)(b z:Int),bs[j]?=some b/\ss[j]?=some z/\b<=p.2/\p.2+q.2<=b+z)->Ok ((bif(call==10)then(some ((decide (c0.2>=(code.length:Int))),()))else bif(call==12)then(some ((decide (c0.2>=(code.length:Int))),()))else some (false,()):f_).bind λ(x35,_)=>bif x35 then(some ((6:Int),()))else some (0,())) λr=>∃e,r=(e,())/\0<=e/\e<=6/\(e=0->QH call code.length bs ss rs):=by intro hbuf;by_cases q10:call=10;simp only[beq_iff_eq.2 q10,oCT,oBS];refine fV (λZ3=>?_) λZ3=>?_;exact C7;exact Lf ⟨Z4,hbuf,λ_=>⟨c0,hc0,by omega⟩⟩;by_cases q12:call=12;simp only[oBF q10,beq_iff_eq.2 q12,oCT,oCF,oBS];refine fV (λZ3=>?_) λZ3=>?_;exact C7;exact Lf ⟨Z4,hbuf,λ_=>⟨c0,hc0,by omega⟩⟩;simp only[oBF q10,oBF q12,oCF,oBS];exact Lf ⟨Z4,hbuf,λh=>by omega⟩
 refine fV (λZ'=>?_) λZ'=>?_;refine(NX (t:=c1.1) (v:=c1.2) (n:=c2.2) h.lay ⟨v1.2.2.1,v1.2.2.2.1⟩ ⟨v2.2.2.1,v2.2.2.2.1⟩).bind ?_;rintro _ ⟨a,e,rfl,he⟩;dsimp only;refine fV (λZ3=>?_) λZ3=>?_;exact C7;obtain⟨w1,_,j,b',z,w2,w3,w4,w5,w6⟩:=he Z3;refine fV (λhcc=>?_) λhcc=>?_;exact C7;exact ZV λ_=>⟨c1,c2,ZP,ZL,by omega,w1,j,b',z,w2,w3,w4,w5⟩;exact ZV λh=>by omega
structure Bk (n:Int)(ss:M_)(i stop trap count pc call:Int)(args data:D_):Prop where
 hthr:0<=i/\i<4
 hstop:0<=stop/\stop<=3
 htrap:0<=trap/\trap<=6
 hcnt:0<=count/\count<=n
 hpc:0<=pc/\pc<=255
 hcall:0<=call/\call<=15
 hargs:args.length<=3/\∀c∈args,Pr ss c
 hdata:data.length<=16/\∀c∈data,Pr ss c
 hkind:stop=1->args.length=(kB call).length/\∀(j:Nat) k a,(kB call)[j]?=some k->args[j]?=some a->Nz k a.1=true
 hbuf:stop=1->qQ call=2->∃a,args[2]?=some a/\a.2.1<=16
def Xp(stop trap:Int)(t':DTh):Prop:=(stop=0/\t'.1=1)\/(stop=1/\t'.1=2)\/(stop=2/\t'.1=4/\t'.2.2.2.2.2.2.1=trap)\/(stop=3/\t'.1≠1)
theorem RR{bs ss:M_}(h:LV bs ss){r r':Nat}{b z b' z' o o':Int}(hne:r≠r')(hb:bs[r]?=some b)(hz:ss[r]?=some z)(Zh:bs[r']?=some b')(hz':ss[r']?=some z')(h0:0<=o)(h1:o<z)(h0':0<=o')(h1':o'<z'):b+o≠b'+o':=by have ⟨_,hl,hg⟩:=h;have l1:=(oGS hb).1;have l2:=(oGS Zh).1;have g1:=hg r l1;have g2:=hg r' l2;unfold xD at g1 g2;rw[gu hb,gu hz]at g1;rw[gu Zh,gu hz']at g2;by_cases hlt:r'<r;have:=g1.2.2 r' hlt;rw[gu Zh,gu hz']at this;omega;have:=g2.2.2 r (by omega);rw[gu hb,gu hz]at this;omega
theorem UC{bs ss:M_}{key:Int}{p q:DCe}(h:LV bs ss)(hp:om (RK bs ss) p)(hq:om (RK bs ss) q)(hp1:p.1=1){j:Nat}{b z:Int}(hb:bs[j]?=some b)(hz:ss[j]?=some z)(h1:b<=p.2)(h2:p.2+q.2<=b+z):∃z',ss[(sw bs ss key p).2.2.1.toNat]?=some z'/\(sw bs ss key p).2.2.2+q.2<=z':=by
 have ⟨_,_,_,_,hrk⟩:=hp;have ⟨r,o,e⟩:=OX (hrk hp1);obtain⟨j',b',z',rfl,rfl,k1,k2,k3,k4⟩:=xP h.2.1 e;have hq0:=hq.2.2.1;have hc:sw bs ss key p=(1,0,(j':Int),p.2-b'):=by unfold sw;simp_all
 rw[hc];refine⟨z',by simp_all,?_⟩;show p.2-b'+q.2<=z';by_cases hjj:j'=j;subst hjj;rw[k1]at hb;rw[k2]at hz;injection hb with hb
 injection hz with hz
 omega;by_cases hq1:q.2=0;omega;exact absurd (show b'+(p.2-b')=b+(p.2-b) by omega) (RR h hjj k1 k2 hb hz (by omega) (by omega) (by omega) (by omega))
def QD(ss:M_)(call:Int)(args:D_):Prop:=(qQ call=2->∃a q z,args[1]?=some a/\args[2]?=some q/\ss[a.2.2.1.toNat]?=some z/\a.2.2.2+q.2.1<=z)/\(call=10\/call=12->∃a,args[0]?=some a/\a.1=0/\a.2.1<=255)
def Mp(n key:Int)(ss bs:M_)(ts:J_)(i:Nat)(r:v_×Int×C_×G_×J_×Int×Int×Int×Int×Int×Int×D_×D_×Int×Unit):Prop:=
 ∃cs' ls' t' stop trap call args data,r=(bs,key,cs',ls',ts.set i t',(i:Int),stop,trap,t'.2.2.2.1,t'.2.2.1,call,args,data,0,())/\jf (RK bs ss) cs' ls'/\zQ (RK bs ss) n t' /\
  Bk n ss i stop trap t'.2.2.2.1 t'.2.2.1 call args data/\Xp stop trap t'/\(stop=3->ts[i]?=some t')/\(stop=1->QD ss call args)
theorem Bn{n:Int}{ss bs:M_}{i:Nat}{t':DTh}{stop trap:Int}(hi:i<4)(ht:zQ (RK bs ss) n t')(hs:0<=stop/\stop<=3)(hs1:stop≠1)(htr:0<=trap/\trap<=6):Bk n ss i stop trap t'.2.2.2.1 t'.2.2.1 0 [] []:=⟨⟨by omega,by omega⟩,hs,htr,ht.count,ht.pc,by decide,⟨by decide,gD⟩,⟨by decide,gD⟩,λh=>absurd h hs1,λh=>absurd h hs1⟩
theorem j8{α β:Type}(f:α->β){l:List α}{k:Nat}{x:α}(h:l[k]?=some x):(l.take k).map f++[f x]=(l.take (k+1)).map f:=by rw[List.take_add_one,h];simp
theorem rS{β:Type}(f:Nat->β)(k:Nat):(List.range k).map f++[f k]=(List.range (k+1)).map f:=by rw[List.range_succ];simp
set_option maxHeartbeats 4000000 in
theorem BK{n key k:Int}{code:F_}{ss bs:M_}{d:j_}{cs:C_}{ls:G_}{ts:J_}{i:Nat}(hp:kT code ss d)(h:MOk n ss bs cs ls ts)(hn0:0<=n)(hn:n+64<=1099511627776)(hi:i<4)(hk:1<=k/\k<=64):Ok (oR code ss d bs key cs ls ts (i:Int) k) (Mp (n+64) key ss bs ts i):=by
 have Ys:=h.tlen;have hil:i<ts.length:=by omega
 unfold oR;refine(QV hp h hn0 hn hi hk).bind ?_;rintro _ ⟨s,cs',ls',t',rfl,hm,ZW,hs⟩;have hM:MOk (n+64) ss bs cs' ls' (ts.set i t'):=(h.mono (show n<=n+64 by omega)).set hm ZW;have hgt:(ts.set i t')[i]?=some t':=is hil t';dsimp only;simp only[oBN,oCF,fZ,oBS,is hil];rcases hs with⟨rfl,hs1,YY⟩|⟨rfl,hs1⟩|⟨rfl,hs1⟩|⟨rfl,hs1,x,YY,hs3,M'⟩;exact fT ⟨_,_,_,_,_,_,_,_,rfl,hm,ZW,Bn hi ZW (by decide) (by decide) (by decide),.inr (.inr (.inr ⟨rfl,YY⟩)),λ_=>hs1,λh=>absurd h (by decide)⟩;exact fT ⟨_,_,_,_,_,_,_,_,rfl,hm,ZW,Bn hi ZW (by decide) (by decide) (by decide),.inl ⟨rfl,hs1⟩,λh=>absurd h (by decide),λh=>absurd h (by decide)⟩;exact fT ⟨_,_,_,_,_,_,_,_,rfl,hm,ZW,Bn hi ZW (by decide) (by decide) ZW.trap,.inr (.inr (.inl ⟨rfl,hs1,rfl⟩)),λh=>absurd h (by decide),λh=>absurd h (by decide)⟩;have Yc:=hp.ins x (f8 hs3);have hcall:0<=x.2.2.2.2/\x.2.2.2.2<=15:=⟨Yc.imm.1,Yc.sys M'⟩;obtain⟨_,ec,e,rfl,he0,he6,hcok⟩:=NL (key:=key) (d:=d) hM hgt YY hs3 hcall;obtain⟨o,A,B,C,call⟩:=x;dsimp only at hcall hcok;have X5:=PL call;have hl8:=ZW.len;obtain⟨j,hj⟩:∃j:Nat,t'.2.2.1-1=j:=⟨(t'.2.2.1-1).toNat,by omega⟩;have hpc:=ZW.pc;rw[hj,oTN]at hs3;rw[iC (x:=t'.2.2.1-1),hj];simp only[Int.reduceBEq,oCT,oCF,ec,oBS,fZ,show fW code j=some (o,A,B,C,call)from hs3,AX hcall];by_cases hne:e=0;subst hne;obtain⟨Z4,hbuf,Yo⟩:=hcok rfl;have e1:gd lc NN (((kB call).length:Int),0,code,ss,d,(),0,(),(),(),0,0,0,0,0,0,(),(),bs,key,cs',ls',ts.set i t',t'.1,t'.2.1,t'.2.2.1,t'.2.2.2.1,t'.2.2.2.2.1,t'.2.2.2.2.2.1,t'.2.2.2.2.2.2.1,t'.2.2.2.2.2.2.2,(i:Int),1,0,t'.2.2.2.1,t'.2.2.1,call,[],(),())= some (((kB call).length:Int),((kB call).length:Int),false,code,ss,d,(),0,(),(),(),0,0,0,0,0,0,(),(),bs,key,cs',ls',ts.set i t',t'.1,t'.2.1,t'.2.2.1,t'.2.2.2.1,t'.2.2.2.2.1,t'.2.2.2.2.2.1,t'.2.2.2.2.2.2.1,t'.2.2.2.2.2.2.2,(i:Int),1,0,t'.2.2.2.1,t'.2.2.1,call,(t'.2.1.take (kB call).length).map (sw bs ss key),(),()):=by refine mJ (f:=lc) (N:=NN) (st:=λq=>(((kB call).length:Int),(q:Int),code,ss,d,(),0,(),(),(),0,0,0,0,0,0,(),(),bs,key,cs',ls',ts.set i t',t'.1,t'.2.1,t'.2.2.1,t'.2.2.2.1,t'.2.2.2.2.1,t'.2.2.2.2.2.1,t'.2.2.2.2.2.2.1,t'.2.2.2.2.2.2.2,(i:Int),1,0,t'.2.2.2.1,t'.2.2.1,call,(t'.2.1.take q).map (sw bs ss key),(),())) (n:=(kB call).length) (by unfold NN;omega) ?_ ?_;intro q hq;unfold lc;dsimp only;rw[oDT (show(q:Int)<(kB call).length by omega),fZ];simp only[oCT,oBS];refine f9 λc hc=>?_;rw[we h.lay (ZW.regs c (f8 hc))];simp only[oBS];refine fU (gf (by simp;omega)) ?_;rw[iC (x:=(q:Int)+1)];refine fT ?_;rw[<- j8 (sw bs ss key) hc];rfl;unfold lc;dsimp only;rw[oDF (show ¬((kB call).length:Int)<(kB call).length by omega)];exact fT rfl
 have hargs:((t'.2.1.take (kB call).length).map (sw bs ss key)).length=(kB call).length:=by rw[oLP,oLT];omega
 have hgetA:∀(j:Nat) a,((t'.2.1.take (kB call).length).map (sw bs ss key))[j]?=some a->∃c,t'.2.1[j]?=some c/\a=sw bs ss key c:=by
  intro j a ha;rw[oGP]at ha;cases hc:(t'.2.1.take (kB call).length)[j]? with
  |none=>rw[hc]at ha;cases ha|some c=>
  rw[hc]at ha;injection ha with ha
  refine⟨c,?_,ha.symm⟩;rw[List.getElem?_take]at hc;split at hc;exact hc;cases hc
 have hargsPr:∀c∈(t'.2.1.take (kB call).length).map (sw bs ss key),Pr ss c:=by intro c hc;obtain⟨c',Y2,rfl⟩:=List.mem_map.1 hc;exact Hj h.lay (ZW.regs c' (List.mem_of_mem_take Y2))
 have hkinds:∀(j:Nat) k a,(kB call)[j]?=some k->((t'.2.1.take (kB call).length).map (sw bs ss key))[j]?=some a->Nz k a.1=true:=by intro j k a hk ha;obtain⟨c,hc,rfl⟩:=hgetA j a ha;rw[(BE (ZW.regs c (f8 hc))).1];exact Z4 j k c hk hc
 have hbuf2:qQ call=2->∃a,((t'.2.1.take (kB call).length).map (sw bs ss key))[2]?=some a/\a.2.1<=16:=by
  intro hb;obtain⟨p,q,hp1,Y7,hq16,_⟩:=hbuf (by omega);have hkk:(kB call)[2]?=some 78:=by
   have:call=2\/call=14:=by unfold qQ at hb;split at hb<;>first|omega|(split at hb<;>omega)
   rcases this with rfl|rfl<;>rfl
  have hf:=Z4 2 78 q hkk Y7;have hl3:=(oGS hkk).1;refine⟨sw bs ss key q,?_,?_⟩;rw[oGP,List.getElem?_take,oIP hl3,Y7];rfl;have hq:=(BE (bs:=bs) (ss:=ss) (key:=key) (ZW.regs q (f8 Y7))).2 (by unfold Nz at hf;simpa using hf);rw[hq];exact hq16
 simp only[e1,oBN,oCF,oBS,qO hcall];have hfitok:QD ss call ((t'.2.1.take (kB call).length).map (sw bs ss key)):=by
  refine⟨λhb=>?_,λhcc=>?_⟩;obtain⟨p,q,hp1,Y7,hq16,hp0,jr,b,z,ZM,hz1,hb2,hb3⟩:=hbuf (by omega);have hkk:(kB call)[1]?=some 80/\(kB call)[2]?=some 78:=by
   have:call=2\/call=14:=by unfold qQ at hb;split at hb<;>first|omega|(split at hb<;>omega)
   rcases this with rfl|rfl<;>exact⟨rfl,rfl⟩
  have hl3:=(oGS hkk.2).1;have hf:=Z4 2 78 q hkk.2 Y7;have hq:=(BE (bs:=bs) (ss:=ss) (key:=key) (ZW.regs q (f8 Y7))).2 (by unfold Nz at hf;simpa using hf);obtain⟨z',g1,g2⟩:=UC (key:=key) h.lay (ZW.regs p (f8 hp1)) (ZW.regs q (f8 Y7)) hp0 ZM hz1 hb2 hb3;refine⟨sw bs ss key p,sw bs ss key q,z',by rw[oGP,List.getElem?_take,oIP (by omega),hp1];rfl,by rw[oGP,List.getElem?_take,oIP hl3,Y7];rfl,g1,by rw[hq];exact g2⟩;obtain⟨c,hc0,Y9⟩:=Yo hcc;have hkk:(kB call)[0]?=some 78:=by rcases hcc with rfl|rfl<;>rfl
  have hl0:=(oGS hkk).1;have hf:=Z4 0 78 c hkk hc0;have hq:=BE (bs:=bs) (ss:=ss) (key:=key) (ZW.regs c (f8 hc0));refine⟨sw bs ss key c,by rw[oGP,List.getElem?_take,oIP hl0,hc0];rfl,?_,?_⟩;rw[hq.1];unfold Nz at hf;simpa using hf;rw[hq.2 (by unfold Nz at hf;simpa using hf)];have:=hp.clen;omega
 have ZV:∀data:D_,data.length<=16->(∀c∈data,Pr ss c)->Ok (some (bs,key,cs',ls',ts.set i t',(i:Int),(1:Int),(0:Int),t'.2.2.2.1,t'.2.2.1,call,(t'.2.1.take (kB call).length).map (sw bs ss key),data,(0:Int),())) (Mp (n+64) key ss bs ts i):=λdata h1 h2=>fT ⟨_,_,_,_,_,_,_,_,rfl,hm,ZW,⟨⟨by omega,by omega⟩,by decide,by decide,ZW.count,ZW.pc,hcall,⟨by omega,hargsPr⟩,⟨h1,h2⟩,λ_=>⟨hargs,hkinds⟩,λ_=>hbuf2⟩,.inr (.inl ⟨rfl,hs1⟩),λh=>absurd h (by decide),λ_=>hfitok⟩;by_cases ZM:qQ call=1;obtain⟨p,q,hp1,Y7,hq16,_,jr,b,z,hbz1,hbz2,hbz3,hbz4⟩:=hbuf (by omega);have hp':=ZW.regs p (f8 hp1);have hq':=ZW.regs q (f8 Y7);have hjr:=(oGS hbz1).1;have hreg:=h.lay.2.2 jr hjr;unfold xD at hreg;rw[gu hbz1,gu hbz2]at hreg;obtain⟨m,hqm⟩:∃m:Nat,q.2=m:=⟨q.2.toNat,by have:=hq'.2.2.1;omega⟩;have e2:gd lb NN ((m:Int),0,code,ss,d,(),0,(),(),(),0,0,0,0,0,0,(),(),bs,key,cs',ls',ts.set i t',t'.1,t'.2.1,t'.2.2.1,t'.2.2.2.1,t'.2.2.2.2.1,t'.2.2.2.2.2.1,t'.2.2.2.2.2.2.1,t'.2.2.2.2.2.2.2,(i:Int),1,0,t'.2.2.2.1,t'.2.2.1,call,(t'.2.1.take (kB call).length).map (sw bs ss key),[],())= some ((m:Int),(m:Int),false,code,ss,d,(),0,(),(),(),0,0,0,0,0,0,(),(),bs,key,cs',ls',ts.set i t',t'.1,t'.2.1,t'.2.2.1,t'.2.2.2.1,t'.2.2.2.2.1,t'.2.2.2.2.2.1,t'.2.2.2.2.2.2.1,t'.2.2.2.2.2.2.2,(i:Int),1,0,t'.2.2.2.1,t'.2.2.1,call,(t'.2.1.take (kB call).length).map (sw bs ss key),(List.range m).map (λj:Nat=>sw bs ss key (og cs' ls' (p.2+(j:Int)))),()):=by refine mJ (f:=lb) (N:=NN) (st:=λq=>((m:Int),(q:Int),code,ss,d,(),0,(),(),(),0,0,0,0,0,0,(),(),bs,key,cs',ls',ts.set i t',t'.1,t'.2.1,t'.2.2.1,t'.2.2.2.1,t'.2.2.2.2.1,t'.2.2.2.2.2.1,t'.2.2.2.2.2.2.1,t'.2.2.2.2.2.2.2,(i:Int),1,0,t'.2.2.2.1,t'.2.2.1,call,(t'.2.1.take (kB call).length).map (sw bs ss key),(List.range q).map (λj:Nat=>sw bs ss key (og cs' ls' (p.2+(j:Int)))),())) (n:=m) (by unfold NN;omega) ?_ ?_;intro v hv;unfold lb;dsimp only;have hp0:=hp'.2.2.1;have hp01:=hp'.2.2.2.1;rw[oDT (show(v:Int)<m by omega)];simp only[oCT,oBS,show fW t'.2.1 1=some p from hp1];rw[gh (x:=p.2) (by omega) (by omega),iC (x:=p.2+v)];obtain⟨qN,hlv⟩:=Fq (a:=p.2+v) hm ⟨by omega,by omega⟩;rw[qN];simp only[oBS];rw[we h.lay hlv];simp only[oBS];refine fU (gf (by simp;omega)) ?_;rw[iC (x:=(v:Int)+1)];refine fT ?_;rw[<- rS];rfl;unfold lb;dsimp only;rw[oDF (show ¬(m:Int)<m by omega)];exact fT rfl
 simp only[ZM,BEq.rfl,oCT,show fW t'.2.1 2=some q from Y7,oBS];rw[gh (x:=q.2) (by omega) (by omega),hqm,e2];simp only[oBS];refine ZV _ (by rw[oLP,List.length_range];omega) ?_;intro c hc;obtain⟨v,hv,rfl⟩:=List.mem_map.1 hc;have hv:=List.mem_range.1 hv;have hp0:=hp'.2.2.1;exact Hj h.lay (Fq (a:=p.2+v) hm ⟨by omega,by omega⟩).2;simp only[oBF ZM,oCF];exact ZV [] (by decide) gD;unfold qq ou;simp only[bne_iff_ne.2 hne,oCT];rw[gf (show 4<=1000/\0+t'.2.1.length<=1000000 by omega)];simp only[oCT,oBS,fZ,is hil,qg hil];exact fT ⟨_,_,_,_,_,_,_,_,rfl,hm,ZW.ended ⟨he0,he6⟩,Bn hi (ZW.ended ⟨he0,he6⟩) (by decide) (by decide) ⟨he0,he6⟩,.inr (.inr (.inl ⟨rfl,rfl,rfl⟩)),λh=>absurd h (by decide),λh=>absurd h (by decide)⟩
theorem Kr{a b:Int}:mmR false a b<=a/\mmR false a b<=b/\(mmR false a b=a\/mmR false a b=b):=by unfold mmR;simp;omega
theorem lI{α:Type}{l:List α}{i j:Nat}(h:i≠j)(a:α):(l.set i a)[j]?=l[j]?:=by simp_all
theorem UU.setFile{d:i_}{o:DOp}{f:Nat}{x y:D_}(h:UU d o)(hf:d[f]?=some x)(hxy:x.length<=y.length):UU (d.set f y) o:=by rcases h with h|⟨h1,z,h2,h3,h4⟩;exact .inl h;refine .inr ⟨h1,?_⟩;by_cases e:f=o.1.toNat;subst e;rw[hf]at h2;cases h2;exact⟨y,is (oGS hf).1 y,h3,by omega⟩;simp_all
theorem iR.setFile{ss:M_}{d:i_}{os:H_}{f:Nat}{x y:D_}(h:iR ss d os)(hf:d[f]?=some x)(h64:y.length<=64)(hc:∀c∈y,Pr ss c)(hxy:x.length<=y.length):iR ss (d.set f y) os:=⟨by rw[oLS];exact h.dlen,j7 h.flen h64,j7 h.cells hc,h.olen,λo ho=>(h.opens o ho).setFile hf hxy⟩
theorem iR.setOpen{ss:M_}{d:i_}{os:H_}{i:Nat}{o:DOp}(h:iR ss d os)(ho:UU d o):iR ss d (os.set i o):=⟨h.dlen,h.flen,h.cells,by rw[oLS];exact h.olen,j7 h.opens ho⟩
theorem Fl{ss:M_}{d:i_}{os:H_}{h:Int}(hF:iR ss d os):∃b,jT d os h=some (b,())/\(b=true->∃(j f:Nat)(o:DOp)(x:D_),h=j/\j<8/\os[j]?=some o/\o.1=f/\d[f]?=some x/\0<=o.2.1/\o.2.1<=x.length):=by
 have:Ok (jT d os h) λr=>∃b,r=(b,())/\(b=true->∃(j f:Nat)(o:DOp)(x:D_),h=j/\j<8/\os[j]?=some o/\o.1=f/\d[f]?=some x/\0<=o.2.1/\o.2.1<=x.length):=by unfold jT;delta f7;refine fV (λZ'=>?_) λZ'=>?_;refine fV (λZ3=>?_) λZ3=>?_;refine gX λj hj=>?_;have h8:=hF.olen;refine f9 λo ho=>?_;refine fT ⟨_,rfl,λhb=>?_⟩;rcases hF.opens o (f8 ho)with⟨h1,_⟩|⟨h1,x,h2,h3,h4⟩;simp_all;exact⟨j,o.1.toNat,o,x,hj,by omega,ho,by omega,h2,h3,h4⟩;exact fT ⟨_,rfl,λh=>by cases h⟩;exact fT ⟨_,rfl,λh=>by cases h⟩
 obtain⟨_,e,b,rfl,hb⟩:=this;exact⟨b,e,hb⟩
theorem yo{ss:M_}{d:i_}{os:H_}(h:iR ss d os):jj d os=some (d,os,()):=copy17_ok (by have:=h.dlen;omega) (λx hx=>by have:=h.flen x hx;omega) (by have:=h.olen;omega)
theorem Ep{ss:M_}{d:i_}{os:H_}{h:Int}{l:D_}(hs:AY ss)(hF:iR ss d os)(hl:l.length<=16)(ds:∀c∈l,Pr ss c):Ok (pt d os h l) λr=>∃d' Za n b,r=(d',Za,n,b,())/\iR ss d' Za/\0<=n/\n<=16:=by
 obtain⟨b,eo,hb⟩:=Fl (h:=h) hF;unfold pt;rw[yo hF];simp only[oBS,eo];cases b with
 |false=>simp only[Bool.not_false,oCT,oBS];exact fT ⟨_,_,_,_,rfl,hF,by decide,by decide⟩|true=>
 obtain⟨j,f,o,x,rfl,hj,ho,hof,hx,o0,o1⟩:=hb rfl;have hg:fW os j=some o:=ho;have hgx:fW d f=some x:=hx;have hjl:=(oGS ho).1;have ZH:=(oGS hx).1;have hx64:=hF.flen x (f8 hx);simp only[oNT,oCF,fZ,oBS,hg];cases hw:o.2.2 with
 |false=>simp only[Bool.not_false,oCT,oBS];exact fT ⟨_,_,_,_,rfl,hF,by decide,by decide⟩|true=>
 delta f7;simp only[oNT,oCF,oBS,mL (n:=(l.length:Int)) hs ds (by omega) (by omega),fZ,hg,hof,hgx];rw[iC (x:=64-o.2.1)];obtain⟨m1,m2,m3⟩:=Kr (a:=(l.length:Int)) (b:=64-o.2.1);generalize mmR false (l.length:Int) (64-o.2.1)=k at m1 m2 m3;refine gQ (P:=λs'=>∃(i:Nat)(y:D_),s'=(l,j,k,k,(i:Int),(),(),d,f,os,y,())/\(i:Int)<=k/\(∀c∈y,Pr ss c)/\x.length<=y.length/\o.2.1+i<=y.length/\y.length<=64)
  (R:=λr=>∃y:D_,r=(l,j,k,k,k,false,(),(),d,f,os,y,())/\(∀c∈y,Pr ss c)/\x.length<=y.length/\o.2.1+k<=y.length/\y.length<=64) (m:=λs'=>(k-s'.2.2.2.2.1).toNat) ⟨0,x,rfl,by omega,hF.cells x (f8 hx),by omega,by omega,hx64⟩ (by unfold NN;dsimp only;omega) ?_ ?_
 rintro _ ⟨i,y,rfl,hi,hy,hxy,hoy,hy64⟩;unfold tW;dsimp only;refine fV (λZ'=>?_) λZ'=>?_;delta f7;simp only[hg,oBS,fZ];rw[iC (x:=o.2.1+i)];obtain⟨c,hc⟩:=gw l i (by omega);have ZA:fW l i=some c:=hc;have hcp:=ds c (f8 hc);simp only[ZA,oBS];refine Ok.bind (P:=λr=>∃y':D_,r=(l,j,k,k,(i:Int),(),(),d,f,os,y',())/\(∀c∈y',Pr ss c)/\x.length<=y'.length/\o.2.1+i+1<=y'.length/\y'.length<=64) ?_ ?_;refine fV (λZ3=>?_) λZ3=>?_;refine gX λq hq=>?_;refine f9 λ_ hz=>?_;refine f9 λ_ _=>?_;rw[gy hz];exact fT ⟨_,rfl,j7 hy hcp,by rw[oLS];omega,by rw[oLS];omega,by rw[oLS];omega⟩;refine fU (gf (by simp;omega)) ?_;exact fT ⟨_,rfl,lp hy (all_cons hcp gD),by rw[it];omega,by rw[it,List.length_singleton];omega,by rw[it,List.length_singleton];omega⟩;rintro _ ⟨y',rfl,g1,g2,g3,g4⟩;dsimp only;rw[iC (x:=(i:Int)+1)];exact fT ⟨⟨i+1,y',rfl,by omega,g1,g2,by omega,g4⟩,by dsimp only;omega⟩;obtain rfl:(i:Int)=k:=by omega
 exact fT ⟨y,rfl,hy,hxy,hoy,hy64⟩;rintro _ ⟨y,rfl,hy,hxy,hoy,hy64⟩;dsimp only;simp only[hg,oBS,hof,fZ,hgx];refine fU (by simp) ?_;rw[iC (x:=o.2.1+k),gy hx,gy ho];refine fT ⟨_,_,_,_,rfl,(hF.setFile hx hy64 hy hxy).setOpen (.inr ⟨by dsimp only;omega,y,?_,by dsimp only;omega,by dsimp only;omega⟩),by omega,by omega⟩;dsimp only;rw[hof,oTN];exact is ZH y
theorem HU{ss:M_}{d:i_}{os:H_}{h n:Int}(hF:iR ss d os)(hn:0<=n/\n<=65535):Ok (rf d os h n) λr=>(∃d' Za,r=.inl (d',Za,(),false,())/\iR ss d' Za)\/(∃d' Za l,r=.inr (d',Za,l,true,())/\iR ss d' Za/\(l.length:Int)<=n/\l.length<=64/\∀c∈l,Pr ss c):=by
 obtain⟨b,eo,hb⟩:=Fl (h:=h) hF;unfold rf;rw[yo hF];simp only[oBS,eo];cases b with
 |false=>exact fT (.inl ⟨_,_,rfl,hF⟩)|true=>
 obtain⟨j,f,o,x,rfl,hj,ho,hof,hx,o0,o1⟩:=hb rfl;have hg:fW os j=some o:=ho;have hgx:fW d f=some x:=hx;have hx64:=hF.flen x (f8 hx);rw[oDF (show ¬n<0 by omega)];simp only[oNT,oCF,fZ,oBS,hg];cases hw:o.2.2 with
 |true=>exact fT (.inl ⟨_,_,rfl,hF⟩)|false=>
 delta f7;simp only[oCF,fZ,oBS,hg,hof,hgx];rw[iC (x:=(x.length:Int)-o.2.1)];obtain⟨m1,m2,m3⟩:=Kr (a:=n) (b:=(x.length:Int)-o.2.1);generalize mmR false n ((x.length:Int)-o.2.1)=k at m1 m2 m3;rw[iC (x:=o.2.1+k)];refine jB o0 λp hp=>?_;refine gX λq hq=>?_;refine fU (by unfold iX;simp;omega) ?_;have hw2:(nV x p (Nat.sub q p)).length=q-p:=by unfold nV;rw[oLT,List.length_drop];show min (q-p) _=q-p;omega
 refine fU (gf (by omega)) ?_;rw[gy ho];refine fT (.inr ⟨_,_,_,rfl,hF.setOpen (.inr ⟨by dsimp only;omega,x,by dsimp only;rw[hof,oTN];exact hx,by dsimp only;omega,by dsimp only;omega⟩),?_,?_,?_⟩);rw[it,hw2];simp;omega;rw[it,hw2];simp;omega;refine lp gD λc hc=>hF.cells x (f8 hx) c ?_;unfold nV at hc;exact List.mem_of_mem_drop (List.mem_of_mem_take hc)
theorem ER{ss:M_}{d:i_}{os:H_}{h:Int}(hF:iR ss d os):Ok (pu d os h) λr=>∃d' Za b,r=(d',Za,b,())/\iR ss d' Za:=by have ⟨b,eo,hb⟩:=Fl (h:=h) hF;unfold pu;rw[yo hF];simp only[eo];cases b with|false=>exact fT ⟨_,_,_,rfl,hF⟩|true=>obtain⟨j,f,o,x,rfl,hj,ho,hof,hx,o0,o1⟩:=hb rfl;have hg:fW os j=some o:=ho;simp only[fZ,oBS,hg];rw[gy ho];exact fT ⟨_,_,_,rfl,hF.setOpen (.inl ⟨rfl,rfl,rfl⟩)⟩
theorem HP{ss:M_}{d:i_}{os:H_}{h n:Int}(hF:iR ss d os):Ok (re d os h n) λr=>∃d' Za b,r=(d',Za,b,())/\iR ss d' Za:=by obtain⟨b,eo,hb⟩:=Fl (h:=h) hF;unfold re;rw[yo hF];simp only[eo];cases b with|false=>exact fT ⟨_,_,_,rfl,hF⟩|true=>obtain⟨j,f,o,x,rfl,hj,ho,hof,hx,o0,o1⟩:=hb rfl;have hg:fW os j=some o:=ho;have hgx:fW d f=some x:=hx;delta f7;simp only[oNT,oCF,fZ,oBS,hg,hof,hgx];by_cases hn:n<0;simp only[oDT hn,oCT,oBS];exact fT ⟨_,_,_,rfl,hF⟩;simp only[oDF hn,oCF,oBS];refine fV (λZ'=>?_) λZ'=>?_;exact fT ⟨_,_,_,rfl,hF⟩;simp only[fZ,oBS,hg];rw[gy ho];exact fT ⟨_,_,_,rfl,hF.setOpen (.inr ⟨by dsimp only;omega,x,by simp_all,by dsimp only;omega,by dsimp only;omega⟩)⟩
theorem LR{ss:M_}{d:i_}{os:H_}{file mode:Int}(hF:iR ss d os):Ok (rh d os file mode) λr=>∃d' Za h,r=(d',Za,h,())/\iR ss d' Za/\-1<=h/\h<=7:=by
 have h8:=hF.olen;have hd4:=hF.dlen;unfold rh;rw[yo hF];simp only[oBS];refine gQ (P:=λs'=>∃i:Nat,s'=(file,mode,(i:Int),d,os,(),(),d,os,())/\i<=8) (R:=λr=>∃i:Nat,r=(file,mode,(i:Int),false,d,os,(),(),d,os,())/\i<=8) (m:=λs'=>(8-s'.2.2.1).toNat) ⟨0,rfl,by omega⟩ (by unfold NN;dsimp only;omega) ?_ ?_;rintro _ ⟨i,rfl,hi⟩;unfold ur;delta f7;simp only[h8,fZ,oBS];refine fV (λZ'=>?_) λZ'=>?_;refine f9 λo ho=>?_;refine fV (λZ3=>?_) λZ3=>?_;rw[iC (x:=(i:Int)+1)];exact fT ⟨⟨i+1,rfl,by omega⟩,by dsimp only;omega⟩;exact fT ⟨i,rfl,hi⟩;exact fT ⟨i,rfl,hi⟩;rintro _ ⟨i,rfl,hi⟩;delta f7;simp only[h8];have bad:iR ss d os/\(-1:Int)<=-1/\(-1:Int)<=7:=⟨hF,by decide,by decide⟩;refine Ok.bind (P:=λr=>(∃b:Bool,r=(file,mode,(i:Int),b,(),(),d,os,())/\(b=false->0<=file/\file<d.length/\i<8))) ?_ ?_;refine fV (λZ'=>?_) λZ'=>?_;exact fT ⟨true,rfl,λh=>by cases h⟩;refine fV (λZ3=>?_) λZ3=>?_;exact fT ⟨true,rfl,λh=>by cases h⟩;refine fV (λhcc=>?_) λhcc=>?_;exact fT ⟨true,rfl,λh=>by cases h⟩;refine fV (λXJ=>?_) λXJ=>?_;exact fT ⟨true,rfl,λh=>by cases h⟩;exact fT ⟨_,rfl,λh=>⟨by omega,by omega,by rw[beq_eq_false_iff_ne]at h;omega⟩⟩;rintro _ ⟨b,rfl,hb⟩;dsimp only;cases b with
 |true=>exact fT ⟨_,_,_,rfl,bad⟩|false=>
 obtain⟨f0,f1,hi8⟩:=hb rfl;obtain⟨f,rfl⟩:∃f:Nat,file=f:=⟨file.toNat,by omega⟩;obtain⟨x,hx⟩:=gw d f (by omega);obtain⟨o,ho⟩:=gw os i (by omega);have hgx:fW d f=some x:=hx;have hg:fW os i=some o:=ho;have ZH:=(oGS hx).1;have hil:=(oGS ho).1;simp only[oCF,fZ,oBS,hgx,hg];by_cases h1:mode=1;subst h1;simp only[BEq.rfl,oCT];rw[gy hx];simp only[h8];refine gQ (P:=λs'=>∃(q:Nat)(Za:H_),s'=((f:Int),1,(i:Int),((8:Nat):Int),(q:Int),(),(),d.set f [],Za,())/\q<=8/\Za.length=8/\(∀(j:Nat) o,j<q->Za[j]?=some o->UU (d.set f []) o)/\∀j:Nat,q<=j->Za[j]?=os[j]?)
  (R:=λr=>∃(z:Int)(Za:H_),r=((f:Int),1,(i:Int),((8:Nat):Int),z,false,(),(),d.set f [],Za,())/\iR ss (d.set f []) Za) (m:=λs'=>(8-s'.2.2.2.2.1).toNat) ⟨0,os,rfl,by omega,h8,λj o hj=>by omega,λ_ _=>rfl⟩ (by unfold NN;dsimp only;omega) ?_ ?_
 rintro _ ⟨q,Za,rfl,hq,YJ,ha,hr⟩;unfold uq;dsimp only;refine fV (λZ'=>?_) λZ'=>?_;obtain⟨o',Zy⟩:∃o',Za[q]?=some o':=⟨_,oGE (by omega)⟩;have hg':fW Za q=some o':=Zy;have hop:=hF.opens o' (f8 (by rw[<- hr q (by omega)];exact Zy));simp only[fZ,oBS,hg'];refine Ok.bind (P:=λr=>∃o2:DOp,UU (d.set f []) o2/\r=((f:Int),1,(i:Int),((8:Nat):Int),(q:Int),(),(),d.set f [],Za.set q o2,())) ?_ ?_;by_cases hof:o'.1=f;simp only[beq_iff_eq.2 hof,oCT];rw[gy Zy];exact fT ⟨_,.inr ⟨by dsimp only;omega,[],by dsimp only;rw[hof,oTN];exact is ZH [],by dsimp only;omega,by simp⟩,rfl⟩;simp only[oBF hof,oCF];refine fT ⟨o',?_,by rw[Fa Zy]⟩;rcases hop with h|⟨g1,z,g2,g3⟩;exact .inl h;exact .inr ⟨g1,z,by rw[lI (by omega)];exact g2,g3⟩;rintro _ ⟨o2,hop2,rfl⟩;dsimp only;rw[iC (x:=(q:Int)+1)];refine fT ⟨⟨q+1,_,rfl,by omega,by rw[oLS];exact YJ,λj o hj hjo=>?_,λj hj=>?_⟩,by dsimp only;omega⟩;by_cases e:q=j;subst e;rw[show(Za.set q o2)[q]?=some o2 from is (by omega) o2]at hjo;cases hjo;exact hop2;rw[lI e]at hjo;exact ha j o (by omega) hjo;rw[lI (by omega)];exact hr j (by omega);refine fT ⟨_,_,rfl,⟨by rw[oLS];exact hd4,j7 hF.flen (by simp),j7 hF.cells gD,YJ,λo' Zy=>?_⟩⟩;obtain⟨j,hj⟩:=List.getElem?_of_mem Zy;have:=(oGS hj).1;exact ha j o' (by omega) hj;rintro _ ⟨z,Za,rfl,hF'⟩;have YJ:=hF'.olen;obtain⟨o',Zy⟩:∃o',Za[i]?=some o':=⟨_,oGE (by omega)⟩;have hg':fW Za i=some o':=Zy;simp only[fZ,oBS,hg',show((1:Int)==2)=false from rfl,oCF];rw[gy Zy];exact fT ⟨_,_,_,rfl,hF'.setOpen (.inr ⟨by dsimp only;omega,[],by dsimp only;rw[oTN];exact is ZH [],by dsimp only;omega,by simp⟩),by omega,by omega⟩;simp only[oBF h1,oCF];rw[gy ho];by_cases h2:mode=2;subst h2;simp only[BEq.rfl,oCT,oBS,is hil,qg hil];exact fT ⟨_,_,_,rfl,hF.setOpen (.inr ⟨by dsimp only;omega,x,by dsimp only;rw[oTN];exact hx,by dsimp only;omega,by dsimp only;omega⟩),by omega,by omega⟩;simp only[oBF h2,oCF,oBS];exact fT ⟨_,_,_,rfl,hF.setOpen (.inr ⟨by dsimp only;omega,x,by dsimp only;rw[oTN];exact hx,by dsimp only;omega,by dsimp only;omega⟩),by omega,by omega⟩
theorem ic(n:Int)(b:Bool):∃v,gv n b=some (0,v,0,0,(),-1,false,())/\W16 v:=by cases b with|true=>exact⟨_,rfl,ki _⟩|false=>exact⟨_,rfl,ki _⟩
theorem To(n:Int)(b:Bool):∃v,gv n b=some (0,v,0,0,(),-1,false,())/\W16 v/\(b=false->v=65535)/\(b=true->0<=n->n<=1000->v≠65535):=by cases b with|true=>exact⟨_,rfl,ki _,(λh=>by cases h),λ_ h0 h1=>by rw[gt h0 (by omega)];omega⟩|false=>exact⟨_,rfl,ki _,λ_=>by decide,(λh=>by cases h)⟩
theorem i8{ss:M_}{v:Int}(h:W16 v):Pr ss (0,v,0,0):=.inl ⟨.inl rfl,rfl,rfl,h⟩
theorem Ph{ss:M_}{v:Int}(h:W16 v):Pr ss (2,v,0,0):=.inl ⟨.inr rfl,rfl,rfl,h⟩
theorem OL{ss:M_}{us:I_}{sk:Int}{l:D_}(hu:us.length<=200)(ho:∀(i:Nat) x,us[i]?=some x->U3 ss i x)(hl:l.length<=16)(ds:∀c∈l,Pr ss c):Ok (mE us sk l) λr=>∃Ya n b,r=(Ya,n,b,())/\Ya.length<=200/\∀(i:Nat) x,Ya[i]?=some x->U3 ss i x:=by
 have hc:kX us=some (us,()):=CY (by omega) λx hx=>by obtain⟨j,hj⟩:=List.getElem?_of_mem hx;have:=(ho j x hj).2.2.2.1;omega
 unfold mE;rw[hc];delta f7;refine Ok.bind (P:=λr=>∃b:Bool,r=(us,sk,l,b,us,())/\(b=false->0<=sk/\sk<2/\us.length<200)) ?_ ?_;refine fV (λZ'=>?_) λZ'=>?_;exact fT ⟨true,rfl,λh=>by cases h⟩;refine fV (λZ3=>?_) λZ3=>?_;exact fT ⟨true,rfl,λh=>by cases h⟩;refine fV (λhcc=>?_) λhcc=>?_;exact fT ⟨true,rfl,λh=>by cases h⟩;exact fT ⟨_,rfl,λh=>⟨by omega,by omega,by omega⟩⟩;rintro _ ⟨b,rfl,hb⟩;dsimp only;cases b with
 |true=>exact fT ⟨_,_,_,rfl,hu,ho⟩|false=>
 obtain⟨s0,s1,hlt⟩:=hb rfl;simp only[oCF];refine fU (gf (by omega)) (fU (gf (by simp;omega)) ?_);refine fT ⟨_,_,_,rfl,by rw[it];simp;omega,λi x hx=>?_⟩;simp at hx;rw[List.getElem?_append]at hx;split at hx;simp_all;rename_i hi;obtain⟨q,hq⟩:∃q,i-us.length=q:=⟨_,rfl⟩;rw[hq]at hx;cases q with
 |zero=>
 have:x=((us.length:Int),sk,l):=by simp_all
 subst this;exact⟨by omega,s0,s1,hl,ds⟩
 |succ q=>simp at hx
theorem Rh{ss:M_}{us:I_}{sk:Int}{l:D_}(hu:us.length<=200)(ho:∀(i:Nat) x,us[i]?=some x->U3 ss i x)(hl:l.length<=16)(ds:∀c∈l,Pr ss c):Ok (mE us sk l) λr=>∃Ya n b,r=(Ya,n,b,())/\Ya.length<=200/\(∀(i:Nat) x,Ya[i]?=some x->U3 ss i x)/\((b=false/\Ya=us)\/(b=true/\n=l.length/\Ya=us++[((us.length:Int),sk,l)]/\0<=sk/\sk<2/\us.length<200)):=by
 have hc:kX us=some (us,()):=CY (by omega) λx hx=>by obtain⟨j,hj⟩:=List.getElem?_of_mem hx;have:=(ho j x hj).2.2.2.1;omega
 unfold mE;rw[hc];delta f7;refine Ok.bind (P:=λr=>∃b:Bool,r=(us,sk,l,b,us,())/\(b=false->0<=sk/\sk<2/\us.length<200)) ?_ ?_;refine fV (λZ'=>?_) λZ'=>?_;exact fT ⟨true,rfl,λh=>by cases h⟩;refine fV (λZ3=>?_) λZ3=>?_;exact fT ⟨true,rfl,λh=>by cases h⟩;refine fV (λhcc=>?_) λhcc=>?_;exact fT ⟨true,rfl,λh=>by cases h⟩;exact fT ⟨_,rfl,λh=>⟨by omega,by omega,by omega⟩⟩;rintro _ ⟨b,rfl,hb⟩;cases b with
 |true=>exact fT ⟨_,_,_,rfl,hu,ho,.inl ⟨rfl,rfl⟩⟩|false=>
 obtain⟨s0,s1,hlt⟩:=hb rfl;simp only[oCF];refine fU (gf (by omega)) (fU (gf (by simp;omega)) ?_);refine fT ⟨_,_,_,rfl,by rw[it];simp;omega,λi x hx=>?_,.inr ⟨rfl,rfl,rfl,s0,s1,by omega⟩⟩;simp at hx;rw[List.getElem?_append]at hx;split at hx;simp_all;rename_i hi;obtain⟨q,hq⟩:∃q,i-us.length=q:=⟨_,rfl⟩;rw[hq]at hx;cases q with
 |zero=>
 have:x=((us.length:Int),sk,l):=by simp_all
 subst this;exact⟨by omega,s0,s1,hl,ds⟩
 |succ q=>simp at hx
theorem zW{ss:M_}{ins:j_}{sk n:Int}(hi:ins.length<=2)(h:∀x∈ins,x.length<=64/\∀w∈x,W16 w)(hn:0<=n/\n<=65535):Ok (mW ins sk n) λr=>(∃Yf,r=.inl (Yf,(),false,())/\Yf.length<=2/\∀x∈Yf,x.length<=64/\∀w∈x,W16 w)\/(∃Yf l,r=.inr (Yf,l,true,())/\(Yf.length<=2/\∀x∈Yf,x.length<=64/\∀w∈x,W16 w)/\(l.length:Int)<=n/\l.length<=64/\∀c∈l,Pr ss c):=by
 unfold mW;rw[CV (by omega) (λx hx=>by grind)];delta f7;simp only[oBS];refine Ok.bind (P:=λr=>∃b:Bool,r=(ins,sk,n,b,ins,())/\(b=false->0<=sk/\sk<ins.length)) ?_ ?_;refine fV (λZ'=>?_) λZ'=>?_;exact fT ⟨true,rfl,λh=>by cases h⟩;refine fV (λZ3=>?_) λZ3=>?_;exact fT ⟨true,rfl,λh=>by cases h⟩;exact fT ⟨_,rfl,λ_=>⟨by omega,by omega⟩⟩;rintro _ ⟨b,rfl,hb⟩;dsimp only;cases b with
 |true=>exact fT (Or.inl ⟨_,rfl,hi,h⟩)|false=>
 obtain⟨s0,s1⟩:=hb rfl;obtain⟨j,rfl⟩:∃j:Nat,sk=j:=⟨sk.toNat,by omega⟩;obtain⟨x,hx⟩:=gw ins j (by omega);have hgx:fW ins j=some x:=hx;have hjl:=(oGS hx).1;obtain⟨hx64,hxw⟩:=h x (f8 hx);simp only[oCF,oBS,fZ,hgx];obtain⟨m1,m2,m3⟩:=Kr (a:=n) (b:=(x.length:Int));generalize mmR false n (x.length:Int)=k at m1 m2 m3;obtain⟨q,rfl⟩:∃q:Nat,k=q:=⟨k.toNat,by omega⟩;simp only[fZ,oBS];refine fU (by unfold iX;simp;omega) ?_;have hw:nV x 0 (Nat.sub q 0)=x.take q:=by unfold nV;rw[List.drop_zero];rfl
 have hwl:(x.take q).length=q:=by rw[oLT];omega
 rw[hw];simp only[hwl];have e:gd ji NN ((j:Int),(q:Int),x.take q,(q:Int),0,ins,[],())=some ((j:Int),(q:Int),x.take q,(q:Int),(q:Int),false,ins,(x.take q).map (λw=>(0,w,0,0)),()):=by have:=mJ (f:=ji) (N:=NN) (st:=λi=>((j:Int),(q:Int),x.take q,(q:Int),(i:Int),ins,((x.take q).take i).map (λw=>((0:Int),w,(0:Int),(0:Int))),())) (n:=q) (t:=((j:Int),(q:Int),x.take q,(q:Int),(q:Int),false,ins,(x.take q).map (λw=>((0:Int),w,(0:Int),(0:Int))),())) (by unfold NN;omega) ?_ ?_;exact this;intro i hi;unfold ji;dsimp only;rw[oDT (show(i:Int)<q by omega),fZ];simp only[oCT,oBS];refine f9 λw hw=>?_;refine fU (gf (by simp;omega)) ?_;rw[iC (x:=(i:Int)+1)];refine fT ?_;rw[<- j8 (λw=>((0:Int),w,(0:Int),(0:Int))) hw];rfl;unfold ji;dsimp only;rw[oDF (show ¬(q:Int)<q by omega)];refine fT ?_;rw[show(x.take q).take q=x.take q from List.take_of_length_le (by omega)]
 rw[e];simp only[fZ,oBS,hgx];refine fU (by unfold iX;simp;omega) ?_;rw[gy hx];have hd:∀c∈nV x q (Nat.sub x.length q),c∈x:=λc hc=>by unfold nV at hc;exact List.mem_of_mem_drop (List.mem_of_mem_take hc)
 have hdl:(nV x q (Nat.sub x.length q)).length<=64:=by unfold nV;rw[oLT,List.length_drop];omega
 refine fT (.inr ⟨_,_,rfl,⟨by rw[oLS];exact hi,j7 h ⟨hdl,λw hw=>hxw w (hd w hw)⟩⟩,by rw[oLP,hwl];omega,by rw[oLP,hwl];omega,λc hc=>?_⟩);obtain⟨w,hw,rfl⟩:=List.mem_map.1 hc;exact i8 (hxw w (List.mem_of_mem_take hw))
theorem zb{n:Int}{ss:M_}{i stop trap count pc call:Int}{args data:D_}(hs:AY ss)(h:Bk n ss i stop trap count pc call args data)(hn:n<=1099511627776):ne i stop trap count pc call args data=some (true,()):=by have ⟨⟨a1,a2⟩,⟨b1,b2⟩,⟨c1,c2⟩,⟨d1,d2⟩,⟨e1,e2⟩,⟨f1,f2⟩,⟨g1,g2⟩,⟨k1,k2⟩,_,_⟩:=h;refine gW ?_;unfold ne;rw[mL hs g2 (by omega) (by omega),mL hs k2 (by omega) (by omega)];refine fU (oDT a1) (fU (oDT (by omega)) (fU (oDT b1) (fU (oDT b2) (fU (oDT c1) (fU (oDT c2) (fU (oDT d1) (fU (oDT (by omega)) (fU (oDT e1) (fU (oDT e2) (fU (oDT f1) (fU (oDT f2) ?_)))))))))));exact fT rfl
theorem EG{n:Int}{ss:M_}{i trap count pc call:Int}{args data:D_}(h:Bk n ss i 1 trap count pc call args data):px i 1 trap count pc call args data=some (true,()):=by
 obtain⟨hl,hk⟩:=h.hkind rfl;obtain⟨b,eb,ZM,hb2⟩:=Fu h.hcall;have h3:=PL call;have e:gd ko NN (b,args,(args.length:Int),0,i,1,trap,count,pc,call,args,data,())=some (.inr (b,args,(args.length:Int),(args.length:Int),false,i,1,trap,count,pc,call,args,data,())):=by refine mJ (f:=ko) (N:=NN) (st:=λq=>(b,args,(args.length:Int),(q:Int),i,1,trap,count,pc,call,args,data,())) (n:=args.length) (by unfold NN;omega) ?_ ?_;intro q hq;obtain⟨k,hkq⟩:=gw (kB call) q (by omega);obtain⟨a,ha⟩:=gw args q (by omega);unfold ko;dsimp only;rw[oDT (show(q:Int)<args.length by omega),fZ];simp only[oCT,oBS,show fW args q=some a from ha,hb2 q,hkq,Qa,hk q k a hkq ha,oCF];rw[iC (x:=(q:Int)+1)];exact fT rfl;unfold ko;dsimp only;rw[oDF (show ¬(args.length:Int)<args.length by omega)];exact fT rfl
 unfold px;delta f7;simp_all
def SI(call:Int):Bool:=decide ((1<=call/\call<=7)\/call=13\/call=14)
theorem Qv{call:Int}(h:0<=call/\call<=15):up call=some (SI call,()):=by rcases nP h with rfl|rfl|rfl|rfl|rfl|rfl|rfl|rfl|rfl|rfl|rfl|rfl|rfl|rfl|rfl|rfl<;>rfl
structure WS (ss:M_)(t v r o:Int)(data:D_)(sp:Int)(w:Bool):Prop where
 val:Pr ss (t,v,r,o)
 dat:data.length<=64/\∀c∈data,Pr ss c
 spn:-1<=sp/\sp<=3
def SO(us Ya:I_)(call:Int)(args data:D_)(t v:Int):Prop:=(call≠13/\Ya=us)\/(call=13/\t=0/\((Ya=us/\v=65535)\/(v≠65535/\∃a,args[0]?=some a/\Ya=us++[((us.length:Int),a.2.1,data)]/\0<=a.2.1/\a.2.1<2/\us.length<200)))
def U6(call:Int)(args dat:D_):Prop:=dat≠[]->qQ call=2/\∃q:DCn,args[2]?=some q/\(dat.length:Int)<=q.2.1
def DoX(ss:M_)(us0:I_)(call:Int)(args dat0:D_)(r:v_×v_×g_×i_×H_×I_×Int×Int×Int×Int×D_×Int×Bool×Int×Unit):Prop:=∃ck rn ins d os us t v rg o data,r=(ck,rn,ins,d,os,us,t,v,rg,o,data,-1,false,0,())/\wi ss ck rn ins d os us/\Pr ss (t,v,rg,o)/\(data.length<=16/\∀c∈data,Pr ss c)/\SO us0 us call args dat0 t v/\U6 call args data
theorem nL{ss:M_}{us0:I_}{call:Int}{args dat0:D_}{ck rn:M_}{ins:j_}{d:i_}{os:H_}{us:I_}{t v rg o:Int}{data:D_}(h:wi ss ck rn ins d os us)(hv:Pr ss (t,v,rg,o))(hd:data.length<=16/\∀c∈data,Pr ss c)
 (hu:SO us0 us call args dat0 t v)(hp:U6 call args data):Ok (some (ck,rn,ins,d,os,us,t,v,rg,o,data,(-1:Int),false,(0:Int),())) (DoX ss us0 call args dat0):=fT ⟨_,_,_,_,_,_,_,_,_,_,_,rfl,h,hv,hd,hu,hp⟩
theorem kP{call:Int}{args:D_}:U6 call args []:=λh=>absurd rfl h
def DoP(ss:M_)(r:v_×v_×g_×i_×H_×I_×Int×Int×Int×Int×D_×Int×Bool×Int×Unit):Prop:=∃ck rn ins d os us t v rg o data,r=(ck,rn,ins,d,os,us,t,v,rg,o,data,-1,false,0,())/\wi ss ck rn ins d os us/\Pr ss (t,v,rg,o)/\data.length<=16/\∀c∈data,Pr ss c
theorem nM{ss:M_}{ck rn:M_}{ins:j_}{d:i_}{os:H_}{us:I_}{t v rg o:Int}{data:D_}(h:wi ss ck rn ins d os us)(hv:Pr ss (t,v,rg,o))(hd:data.length<=16/\∀c∈data,Pr ss c):
 Ok (some (ck,rn,ins,d,os,us,t,v,rg,o,data,(-1:Int),false,(0:Int),())) (DoP ss):=fT ⟨_,_,_,_,_,_,_,_,_,_,_,rfl,h,hv,hd⟩
theorem Pr.val{ss:M_}{c:DCn}(h:Pr ss c):W16 c.2.1:=by rcases h with⟨_,_,_,h⟩|⟨_,h,_⟩;exact h;rw[h];exact⟨by decide,by decide⟩
theorem Tb{n:Int}{ss:M_}{i trap count pc call:Int}{args data:D_}(h:Bk n ss i 1 trap count pc call args data):qQ call=0\/qQ call=1\/(qQ call=2/\∃a,args[2]?=some a/\a.2.1<=16):=by
 by_cases h2:qQ call=2;exact .inr (.inr ⟨h2,h.hbuf rfl h2⟩);have:qQ call=0\/qQ call=1\/qQ call=2:=by unfold qQ;split<;>first|omega|(split<;>omega)
 omega
theorem sF{α:Type}{a b:Option α}{Q:α->Prop}(h:Ok a Q)(e:b=a):Ok b Q:=by simp_all
set_option maxHeartbeats 4000000 in
theorem WL{n:Int}{ss:M_}{ck rn:M_}{ins:j_}{d:i_}{os:H_}{us:I_}{i trap count pc call:Int}{args data:D_}(hs:AY ss)(hO:wi ss ck rn ins d os us)(hR:Bk n ss i 1 trap count pc call args data) (ha:SI call=true)(hn:n<=1099511627776):Ok (n8 ck rn ins d os us i 1 trap count pc call args data) (DoP ss):=by
 have hc:=hR.hcall;have Yb:=hR.hdata;have Yj:=hR.hargs;unfold n8;rw[vE hs hO,zb hs hR hn,Qv hc,ha,EG hR,qO hc];simp only[oBS,oNT,oCF,oBN];refine Ok.bind (P:=λr=>r=(false,ck,rn,ins,d,os,us,i,1,trap,count,pc,call,args,data,(),(),(),(),(),(),0,0,0,0,(),0,false,())) ?_ ?_;rcases Tb hR with h|h|⟨h,a,h2,h3⟩;rw[h];exact fT rfl;rw[h];exact fT rfl;rw[h];simp only[BEq.rfl,oCT,show fW args 2=some a from h2,oBS];rw[oDF (show ¬a.2.1>16 by omega)];exact fT rfl;rintro _ rfl;dsimp only;delta f7;simp only[oCF,CX hO,oBS];refine gQ (P:=λs'=>∃(k:Nat)(vs:M_),s'=(args,(args.length:Int),(k:Int),ck,rn,ins,d,os,us,i,1,trap,count,pc,call,args,data,(),(),(),(),(),(),0,0,0,0,(),0,false,ck,rn,ins,d,os,us,vs,())/\k<=args.length/\vs.length=3/\(∀v∈vs,W16 v)/\∀(j:Nat) a,j<k->args[j]?=some a->vs[j]?=some a.2.1)
  (R:=λr=>∃(z:Int)(vs:M_),r=(args,(args.length:Int),z,false,ck,rn,ins,d,os,us,i,1,trap,count,pc,call,args,data,(),(),(),(),(),(),0,0,0,0,(),0,false,ck,rn,ins,d,os,us,vs,())/\vs.length=3/\(∀v∈vs,W16 v)/\∀(j:Nat) a,args[j]?=some a->vs[j]?=some a.2.1) (m:=λs'=>(s'.2.1-s'.2.2.1).toNat)
  ⟨0,[0,0,0],rfl,by omega,rfl,all_cons ⟨by decide,by decide⟩ (all_cons ⟨by decide,by decide⟩ (all_cons ⟨by decide,by decide⟩ gD)),λj a hj=>by omega⟩ (by unfold NN;dsimp only;omega) ?_ ?_
 rintro _ ⟨k,vs,rfl,hk,hv3,hvw,hva⟩;unfold sL;dsimp only;refine fV (λZ'=>?_) λZ'=>?_;simp only[fZ,oBS];refine f9 λa hak=>?_;have hw:=(Yj.2 a (f8 hak)).val;refine f9 λv hv=>?_;refine f9 λ_ _=>?_;rw[gh (x:=a.2.1) (by have:=hw.1;omega) (by have:=hw.2;omega),iC (x:=(k:Int)+1),gy hv];refine fT ⟨⟨k+1,_,rfl,by omega,by rw[oLS];exact hv3,j7 hvw hw,λj a' hj haj=>?_⟩,by dsimp only;omega⟩;by_cases e:k=j;subst e;rw[hak]at haj;cases haj;exact is (by omega) _;rw[lI e];exact hva j a' (by omega) haj;refine fT ⟨_,vs,rfl,hv3,hvw,λj a haj=>hva j a ?_ haj⟩;have:=(oGS haj).1;omega;rintro _ ⟨z,vs,rfl,hv3,hvw,hva⟩;obtain⟨v0,ev0,YU⟩:=ic 0 false;obtain⟨a0,a1,a2,rfl⟩:∃a b c,vs=[a,b,c]:=by match vs,hv3 with| [a,b,c],_=>exact⟨a,b,c,rfl⟩
 have w0:W16 a0:=hvw a0 (by simp);have w1:W16 a1:=hvw a1 (by simp);have w2:W16 a2:=hvw a2 (by simp);have g0:fW [a0,a1,a2] 0=some a0:=rfl;have g1:fW [a0,a1,a2] 1=some a1:=rfl;have g2:fW [a0,a1,a2] 2=some a2:=rfl;have a2le:qQ call=2->a2<=16:=λh=>by
  obtain⟨a,h2,h3⟩:=hR.hbuf rfl h;have:=hva 2 a h2;have:a2=a.2.1:=by simpa using this
  omega
 have ZX:([]:D_).length<=16/\∀c∈([]:D_),Pr ss c:=⟨by decide,gD⟩;dsimp only;simp only[ev0,oBS,g0,g1,g2];rcases nP hc with rfl|rfl|rfl|rfl|rfl|rfl|rfl|rfl|rfl|rfl|rfl|rfl|rfl|rfl|rfl|rfl;all_goals first|(exact absurd ha (by decide))|simp only[Int.reduceBEq,oCT,oCF]
 obtain⟨_,e,d1,os1,m,b,rfl,hF,_⟩:=Ep (h:=a0) hs hO.files Yb.1 Yb.2;obtain⟨v,ev,hv⟩:=ic m b;simp only[e,ev,oBS];exact nM ⟨hO.clock,hO.rand,hO.ilen,hO.inp,hF,hO.ulen,hO.outs⟩ (i8 hv) ZX;have hle:=a2le rfl;obtain⟨_,e,hr⟩:=HU (h:=a0) (n:=a2) hO.files w2;rcases hr with⟨d1,os1,rfl,hF⟩|⟨d1,os1,l,rfl,hF,hl,_,ds⟩;simp only[e,ev0,oBS];exact nM ⟨hO.clock,hO.rand,hO.ilen,hO.inp,hF,hO.ulen,hO.outs⟩ (i8 YU) ZX;obtain⟨v,ev,hv⟩:=ic (l.length:Int) true;simp only[e,ev,oBS];exact nM ⟨hO.clock,hO.rand,hO.ilen,hO.inp,hF,hO.ulen,hO.outs⟩ (i8 hv) ⟨by omega,ds⟩;obtain⟨_,e,d1,os1,h,rfl,hF,h0,h7⟩:=LR (file:=a0) (mode:=a1) hO.files;simp only[e,oBS];have Yw:wi ss ck rn ins d1 os1 us:=⟨hO.clock,hO.rand,hO.ilen,hO.inp,hF,hO.ulen,hO.outs⟩;by_cases hh:h>=0;simp only[oDT hh,oCT];exact nM Yw (Ph (ki _)) ZX;simp only[oDF hh,oCF];exact nM Yw (i8 YU) ZX;obtain⟨_,e,d1,os1,b,rfl,hF⟩:=ER (h:=a0) hO.files;obtain⟨v,ev,hv⟩:=ic 0 b;simp only[e,ev,oBS];exact nM ⟨hO.clock,hO.rand,hO.ilen,hO.inp,hF,hO.ulen,hO.outs⟩ (i8 hv) ZX;obtain⟨_,e,d1,os1,b,rfl,hF⟩:=HP (h:=a0) (n:=a1) hO.files;obtain⟨v,ev,hv⟩:=ic 0 b;simp only[e,ev,oBS];exact nM ⟨hO.clock,hO.rand,hO.ilen,hO.inp,hF,hO.ulen,hO.outs⟩ (i8 hv) ZX;cases ck with
 |nil=>exact nM hO (i8 YU) ZX|cons x ck=>
  obtain⟨v,ev,hv⟩:=ic (wk .i64 x) true;have hw:nV (x::ck) 1 (Nat.sub (x::ck).length 1)=ck:=by unfold nV;simp
  refine sF (nM (ck:=ck) ⟨⟨by have:=hO.clock.1;simp at this;omega,λw hw=>hO.clock.2 w (by simp[hw])⟩,hO.rand,hO.ilen,hO.inp,hO.files,hO.ulen,hO.outs⟩ (i8 hv) ZX) ?_;simp only[oLC,show fW (x::ck) 0=some x from rfl,oBS,ev];have hd:∀inst:Decidable (((ck.length+1:Nat):Int)>0),@decide _ inst=true:=λinst=>oDT (by omega);rw[oLC]at hw;rw[hd,show iX 1 (ck.length+1) (ck.length+1)=true by unfold iX;simp,hw];rfl
 cases rn with
 |nil=>exact nM hO (i8 YU) ZX|cons x rn=>
  obtain⟨v,ev,hv⟩:=ic (wk .i64 x) true;have hw:nV (x::rn) 1 (Nat.sub (x::rn).length 1)=rn:=by unfold nV;simp
  refine sF (nM (rn:=rn) ⟨hO.clock,⟨by have:=hO.rand.1;simp at this;omega,λw hw=>hO.rand.2 w (by simp[hw])⟩,hO.ilen,hO.inp,hO.files,hO.ulen,hO.outs⟩ (i8 hv) ZX) ?_;simp only[oLC,show fW (x::rn) 0=some x from rfl,oBS,ev];have hd:∀inst:Decidable (((rn.length+1:Nat):Int)>0),@decide _ inst=true:=λinst=>oDT (by omega);rw[oLC]at hw;rw[hd,show iX 1 (rn.length+1) (rn.length+1)=true by unfold iX;simp,hw];rfl
 obtain⟨_,e,us1,m,b,rfl,hu,ho⟩:=OL (sk:=a0) hO.ulen hO.outs Yb.1 Yb.2;obtain⟨v,ev,hv⟩:=ic m b;simp only[e,ev,oBS];exact nM ⟨hO.clock,hO.rand,hO.ilen,hO.inp,hO.files,hu,ho⟩ (i8 hv) ZX;have hle:=a2le rfl;obtain⟨_,e,hr⟩:=zW (ss:=ss) (sk:=a0) (n:=a2) hO.ilen hO.inp w2;rcases hr with⟨in1,rfl,Xw,Xx⟩|⟨in1,l,rfl,⟨Xw,Xx⟩,hl,_,ds⟩;simp only[e,ev0,oBS];exact nM ⟨hO.clock,hO.rand,Xw,Xx,hO.files,hO.ulen,hO.outs⟩ (i8 YU) ZX;obtain⟨v,ev,hv⟩:=ic (l.length:Int) true;simp only[e,ev,oBS];exact nM ⟨hO.clock,hO.rand,Xw,Xx,hO.files,hO.ulen,hO.outs⟩ (i8 hv) ⟨by omega,ds⟩
set_option maxHeartbeats 4000000 in
theorem VX{n:Int}{ss:M_}{ck rn:M_}{ins:j_}{d:i_}{os:H_}{us:I_}{i trap count pc call:Int}{args data:D_}(hs:AY ss)(hO:wi ss ck rn ins d os us)(hR:Bk n ss i 1 trap count pc call args data) (ha:SI call=true)(hn:n<=1099511627776):Ok (n8 ck rn ins d os us i 1 trap count pc call args data) (DoX ss us call args data):=by
 have hc:=hR.hcall;have Yb:=hR.hdata;have Yj:=hR.hargs;unfold n8;rw[vE hs hO,zb hs hR hn,Qv hc,ha,EG hR,qO hc];simp only[oBS,oNT,oCF,oBN];refine Ok.bind (P:=λr=>r=(false,ck,rn,ins,d,os,us,i,1,trap,count,pc,call,args,data,(),(),(),(),(),(),0,0,0,0,(),0,false,())) ?_ ?_;rcases Tb hR with h|h|⟨h,a,h2,h3⟩;rw[h];exact fT rfl;rw[h];exact fT rfl;rw[h];simp only[BEq.rfl,oCT,show fW args 2=some a from h2,oBS];rw[oDF (show ¬a.2.1>16 by omega)];exact fT rfl;rintro _ rfl;dsimp only;delta f7;simp only[oCF,CX hO,oBS];refine gQ (P:=λs'=>∃(k:Nat)(vs:M_),s'=(args,(args.length:Int),(k:Int),ck,rn,ins,d,os,us,i,1,trap,count,pc,call,args,data,(),(),(),(),(),(),0,0,0,0,(),0,false,ck,rn,ins,d,os,us,vs,())/\k<=args.length/\vs.length=3/\(∀v∈vs,W16 v)/\∀(j:Nat) a,j<k->args[j]?=some a->vs[j]?=some a.2.1)
  (R:=λr=>∃(z:Int)(vs:M_),r=(args,(args.length:Int),z,false,ck,rn,ins,d,os,us,i,1,trap,count,pc,call,args,data,(),(),(),(),(),(),0,0,0,0,(),0,false,ck,rn,ins,d,os,us,vs,())/\vs.length=3/\(∀v∈vs,W16 v)/\∀(j:Nat) a,args[j]?=some a->vs[j]?=some a.2.1) (m:=λs'=>(s'.2.1-s'.2.2.1).toNat)
  ⟨0,[0,0,0],rfl,by omega,rfl,all_cons ⟨by decide,by decide⟩ (all_cons ⟨by decide,by decide⟩ (all_cons ⟨by decide,by decide⟩ gD)),λj a hj=>by omega⟩ (by unfold NN;dsimp only;omega) ?_ ?_
 rintro _ ⟨k,vs,rfl,hk,hv3,hvw,hva⟩;unfold sL;dsimp only;refine fV (λZ'=>?_) λZ'=>?_;simp only[fZ,oBS];refine f9 λa hak=>?_;have hw:=(Yj.2 a (f8 hak)).val;refine f9 λv hv=>?_;refine f9 λ_ _=>?_;rw[gh (x:=a.2.1) (by have:=hw.1;omega) (by have:=hw.2;omega),iC (x:=(k:Int)+1),gy hv];refine fT ⟨⟨k+1,_,rfl,by omega,by rw[oLS];exact hv3,j7 hvw hw,λj a' hj haj=>?_⟩,by dsimp only;omega⟩;by_cases e:k=j;subst e;rw[hak]at haj;cases haj;exact is (by omega) _;rw[lI e];exact hva j a' (by omega) haj;refine fT ⟨_,vs,rfl,hv3,hvw,λj a haj=>hva j a ?_ haj⟩;have:=(oGS haj).1;omega;rintro _ ⟨z,vs,rfl,hv3,hvw,hva⟩;obtain⟨v0,ev0,YU⟩:=ic 0 false;obtain⟨a0,a1,a2,rfl⟩:∃a b c,vs=[a,b,c]:=by match vs,hv3 with| [a,b,c],_=>exact⟨a,b,c,rfl⟩
 have w0:W16 a0:=hvw a0 (by simp);have w1:W16 a1:=hvw a1 (by simp);have w2:W16 a2:=hvw a2 (by simp);have g0:fW [a0,a1,a2] 0=some a0:=rfl;have g1:fW [a0,a1,a2] 1=some a1:=rfl;have g2:fW [a0,a1,a2] 2=some a2:=rfl;have a2le:qQ call=2->a2<=16:=λh=>by
  obtain⟨a,h2,h3⟩:=hR.hbuf rfl h;have:=hva 2 a h2;have:a2=a.2.1:=by simpa using this
  omega
 have a2x:qQ call=2->∀{l:D_},(l.length:Int)<=a2->∃q:DCn,args[2]?=some q/\(l.length:Int)<=q.2.1:=λh l hl=>by
  obtain⟨a,h2,h3⟩:=hR.hbuf rfl h;have:=hva 2 a h2;have e2:a2=a.2.1:=by simpa using this
  exact⟨a,h2,by omega⟩
 have ZX:([]:D_).length<=16/\∀c∈([]:D_),Pr ss c:=⟨by decide,gD⟩;dsimp only;simp only[ev0,oBS,g0,g1,g2];rcases nP hc with rfl|rfl|rfl|rfl|rfl|rfl|rfl|rfl|rfl|rfl|rfl|rfl|rfl|rfl|rfl|rfl;all_goals first|(exact absurd ha (by decide))|simp only[Int.reduceBEq,oCT,oCF]
 obtain⟨_,e,d1,os1,m,b,rfl,hF,_⟩:=Ep (h:=a0) hs hO.files Yb.1 Yb.2;obtain⟨v,ev,hv⟩:=ic m b;simp only[e,ev,oBS];exact nL ⟨hO.clock,hO.rand,hO.ilen,hO.inp,hF,hO.ulen,hO.outs⟩ (i8 hv) ZX (.inl ⟨by decide,rfl⟩) kP;have hle:=a2le rfl;obtain⟨_,e,hr⟩:=HU (h:=a0) (n:=a2) hO.files w2;rcases hr with⟨d1,os1,rfl,hF⟩|⟨d1,os1,l,rfl,hF,hl,_,ds⟩;simp only[e,ev0,oBS];exact nL ⟨hO.clock,hO.rand,hO.ilen,hO.inp,hF,hO.ulen,hO.outs⟩ (i8 YU) ZX (.inl ⟨by decide,rfl⟩) kP;obtain⟨v,ev,hv⟩:=ic (l.length:Int) true;simp only[e,ev,oBS];exact nL ⟨hO.clock,hO.rand,hO.ilen,hO.inp,hF,hO.ulen,hO.outs⟩ (i8 hv) ⟨by omega,ds⟩ (.inl ⟨by decide,rfl⟩) (λ_=>⟨rfl,a2x rfl hl⟩);obtain⟨_,e,d1,os1,h,rfl,hF,h0,h7⟩:=LR (file:=a0) (mode:=a1) hO.files;simp only[e,oBS];have Yw:wi ss ck rn ins d1 os1 us:=⟨hO.clock,hO.rand,hO.ilen,hO.inp,hF,hO.ulen,hO.outs⟩;by_cases hh:h>=0;simp only[oDT hh,oCT];exact nL Yw (Ph (ki _)) ZX (.inl ⟨by decide,rfl⟩) kP;simp only[oDF hh,oCF];exact nL Yw (i8 YU) ZX (.inl ⟨by decide,rfl⟩) kP;obtain⟨_,e,d1,os1,b,rfl,hF⟩:=ER (h:=a0) hO.files;obtain⟨v,ev,hv⟩:=ic 0 b;simp only[e,ev,oBS];exact nL ⟨hO.clock,hO.rand,hO.ilen,hO.inp,hF,hO.ulen,hO.outs⟩ (i8 hv) ZX (.inl ⟨by decide,rfl⟩) kP;obtain⟨_,e,d1,os1,b,rfl,hF⟩:=HP (h:=a0) (n:=a1) hO.files;obtain⟨v,ev,hv⟩:=ic 0 b;simp only[e,ev,oBS];exact nL ⟨hO.clock,hO.rand,hO.ilen,hO.inp,hF,hO.ulen,hO.outs⟩ (i8 hv) ZX (.inl ⟨by decide,rfl⟩) kP;cases ck with
 |nil=>exact nL hO (i8 YU) ZX (.inl ⟨by decide,rfl⟩) kP|cons x ck=>
  obtain⟨v,ev,hv⟩:=ic (wk .i64 x) true;have hw:nV (x::ck) 1 (Nat.sub (x::ck).length 1)=ck:=by unfold nV;simp
  refine sF (nL (ck:=ck) ⟨⟨by have:=hO.clock.1;simp at this;omega,λw hw=>hO.clock.2 w (by simp[hw])⟩,hO.rand,hO.ilen,hO.inp,hO.files,hO.ulen,hO.outs⟩ (i8 hv) ZX (.inl ⟨by decide,rfl⟩) kP) ?_;simp only[oLC,show fW (x::ck) 0=some x from rfl,oBS,ev];have hd:∀inst:Decidable (((ck.length+1:Nat):Int)>0),@decide _ inst=true:=λinst=>oDT (by omega);rw[oLC]at hw;rw[hd,show iX 1 (ck.length+1) (ck.length+1)=true by unfold iX;simp,hw];rfl
 cases rn with
 |nil=>exact nL hO (i8 YU) ZX (.inl ⟨by decide,rfl⟩) kP|cons x rn=>
  obtain⟨v,ev,hv⟩:=ic (wk .i64 x) true;have hw:nV (x::rn) 1 (Nat.sub (x::rn).length 1)=rn:=by unfold nV;simp
  refine sF (nL (rn:=rn) ⟨hO.clock,⟨by have:=hO.rand.1;simp at this;omega,λw hw=>hO.rand.2 w (by simp[hw])⟩,hO.ilen,hO.inp,hO.files,hO.ulen,hO.outs⟩ (i8 hv) ZX (.inl ⟨by decide,rfl⟩) kP) ?_;simp only[oLC,show fW (x::rn) 0=some x from rfl,oBS,ev];have hd:∀inst:Decidable (((rn.length+1:Nat):Int)>0),@decide _ inst=true:=λinst=>oDT (by omega);rw[oLC]at hw;rw[hd,show iX 1 (rn.length+1) (rn.length+1)=true by unfold iX;simp,hw];rfl
 obtain⟨_,e,us1,m,b,rfl,hu,ho,hx⟩:=Rh (sk:=a0) hO.ulen hO.outs Yb.1 Yb.2;obtain⟨v,ev,hv,hv0',hv1'⟩:=To m b;have hsend:SO us us1 13 args data 0 v:=by
  refine .inr ⟨rfl,rfl,?_⟩;rcases hx with⟨hb,hu⟩|⟨hb,hm,hu,s0,s1,hlt⟩;exact .inl ⟨hu,hv0' hb⟩;obtain⟨Ze,_⟩:=hR.hkind rfl;obtain⟨a,ha⟩:=gw args 0 (by rw[Ze];decide);have e0:a0=a.2.1:=by simpa using hva 0 a ha
  exact .inr ⟨hv1' hb (by omega) (by have:=Yb.1;omega),a,ha,by rw[hu,e0],by omega,by omega,hlt⟩
 simp only[e,ev,oBS];exact nL ⟨hO.clock,hO.rand,hO.ilen,hO.inp,hO.files,hu,ho⟩ (i8 hv) ZX hsend kP;have hle:=a2le rfl;obtain⟨_,e,hr⟩:=zW (ss:=ss) (sk:=a0) (n:=a2) hO.ilen hO.inp w2;rcases hr with⟨in1,rfl,Xw,Xx⟩|⟨in1,l,rfl,⟨Xw,Xx⟩,hl,_,ds⟩;simp only[e,ev0,oBS];exact nL ⟨hO.clock,hO.rand,Xw,Xx,hO.files,hO.ulen,hO.outs⟩ (i8 YU) ZX (.inl ⟨by decide,rfl⟩) kP;obtain⟨v,ev,hv⟩:=ic (l.length:Int) true;simp only[e,ev,oBS];exact nL ⟨hO.clock,hO.rand,Xw,Xx,hO.files,hO.ulen,hO.outs⟩ (i8 hv) ⟨by omega,ds⟩ (.inl ⟨by decide,rfl⟩) (λ_=>⟨rfl,a2x rfl hl⟩)
def o7(bs:M_)(key:Int)(c:DCn):DCe:=if c.1=0 then(0,c.2.1)else if c.1=2 then(2,wk .u16 (c.2.1+key))else(1,wk .u16 (bs.getD c.2.2.1.toNat 0+c.2.2.2))
theorem vQ{bs ss:M_}(h:LV bs ss){r o n:Int}(h1:0<=r)(h2:ss[r.toNat]?=some n)(h3:0<=o)(h4:o<n):∃b,bs[r.toNat]?=some b/\0<=b+o/\b+o<512/\b<=b+o/\b+o<b+n:=by have ⟨hs,hl,hr⟩:=h;have hj:=(oGS h2).1;have ⟨b,hb⟩:=gw bs r.toNat (by omega);have hrr:=hr r.toNat (by omega);unfold xD at hrr;rw[gu hb,gu h2]at hrr;exact⟨b,hb,by omega,by omega,by omega,by omega⟩
theorem sg{bs ss:M_}{key:Int}{c:DCn}(h:LV bs ss)(hc:Pr ss c):jy bs key ss c.1 c.2.1 c.2.2.1 c.2.2.2=some ((o7 bs key c).1,(o7 bs key c).2,0,())/\om (RK bs ss) (o7 bs key c):=by unfold jy o7;rw[mB hc];rcases hc with⟨h1|h1,h2,h3,h4⟩|⟨h1,h2,h3,n,h5,h6,h7⟩;rw[h1];exact⟨rfl,kz h4⟩;rw[h1];exact⟨rfl,(show(0:Int)<=2 by decide),(show(2:Int)<=2 by decide),(ki _).1,(ki _).2,λe=>absurd (show(2:Int)=1 from e) (by decide)⟩;obtain⟨b,hb,b0,b1,b2,b3⟩:=vQ h h3 h5 h6 h7;obtain⟨j,hj⟩:∃j:Nat,c.2.2.1=j:=⟨c.2.2.1.toNat,by omega⟩;rw[hj]at hb h5⊢;rw[h1,gu hb];simp[oCF,if_false,fZ,show fW bs j=some b from hb];rw[gE (by omega) (by omega),gt (by omega) (by omega)];exact⟨rfl,by omega,by omega,by omega,by omega,λ_=>⟨j,b,n,hb,h5,b2,b3⟩⟩
theorem EY{bs ss:M_}{key r o n:Int}(h:LV bs ss)(h1:0<=r)(h2:ss[r.toNat]?=some n)(h3:0<=o)(h4:o<n):∃a,ny bs key ss r o=some (a,0,())/\0<=a/\a<512/\a=bs.getD r.toNat 0+o:=by have ⟨b,hb,b0,b1,_⟩:=vQ h h1 h2 h3 h4;obtain⟨j,rfl⟩:∃j:Nat,r=j:=⟨r.toNat,by omega⟩;unfold ny;rw[yg h1 h2 h3 h4];simp[fZ,show fW bs j=some b from hb];rw[gE (by omega) (by omega)];simp_all
theorem LS(pc t v:Int):sR pc t v=some (1,[(t,v),(0,0),(0,0),(0,0),(0,0),(0,0),(0,0),(0,0)],pc,0,-1,-1,0,0,()):=rfl
def WU(n key:Int)(ss bs:M_)(r:Bool×v_×Int×C_×G_×J_×Unit):Prop:=∃b cs' ls' ZY,r=(b,bs,key,cs',ls',ZY,())/\(b=true->MOk n ss bs cs' ls' ZY)
theorem B4{n key:Int}{ss bs:M_}{cs:C_}{ls:G_}{ts:J_}:Ok (some (false,bs,key,cs,ls,ts,())) (WU n key ss bs):=fT ⟨_,_,_,_,rfl,λh=>by cases h⟩
theorem ul{n key ct cv:Int}{ss bs:M_}{cs:C_}{ls:G_}{ts:J_}{i:Nat}(h:MOk n ss bs cs ls ts)(hi:i<4)(hc:om (RK bs ss) (ct,cv)):Ok ((fW ts i).bind λ_=>(fW ts i).bind λx75=>(fW x75.2.1 0).bind λ_=>(fW ts i).bind λx77=>(fW x77.2.1 0).bind λ_=>(fW (List.modify ts i λe=>(e.1,((List.modify e.2.1 0 λ_=>(ct,cv)),e.2.2))) i).bind λ_=> some (true,bs,key,cs,ls,List.modify (List.modify ts i λe=>(e.1,((List.modify e.2.1 0 λ_=>(ct,cv)),e.2.2))) i λe=>((1:Int),e.2),())) (WU n key ss bs):=by have Ys:=h.tlen;have ⟨t,ht⟩:=gw ts i (by omega);have hg:fW ts i=some t:=ht;have hil:=(oGS ht).1;have hok:=h.thr t (f8 ht);have ⟨c,hc0⟩:=gw t.2.1 0 (by have:=hok.len;omega);simp[hg,show fW t.2.1 0=some c from hc0,gy ht,gy hc0,is hil,qg hil];exact fT ⟨_,_,_,_,rfl,λ_=>h.set h.mem ⟨⟨show(0:Int)<=1 by decide,show(1:Int)<=4 by decide⟩,by dsimp only;rw[oLS];exact hok.len,j7 hok.regs hc,hok.pc,hok.count,hok.handler,hok.saved,hok.trap,hok.code⟩⟩
theorem Et{K:Int->Prop}{n pc:Int}{rs:C_}(hl:rs.length=8)(hr:∀c∈rs,om K c)(hp:0<=pc/\pc<=255)(hn:0<=n):zQ K n (1,rs,pc,0,-1,-1,0,0):=⟨⟨show(0:Int)<=1 by decide,show(1:Int)<=4 by decide⟩,hl,hr,hp,⟨show(0:Int)<=0 by decide,hn⟩,⟨show(-1:Int)<=-1 by decide,show(-1:Int)<=255 by decide⟩,⟨show(-1:Int)<=-1 by decide,show(-1:Int)<=255 by decide⟩,⟨show(0:Int)<=0 by decide,show(0:Int)<=6 by decide⟩,⟨show(0:Int)<=0 by decide,show(0:Int)<=65535 by decide⟩⟩
theorem MOk.mk_mem{n:Int}{ss bs:M_}{cs cs':C_}{ls ls':G_}{ts:J_}(h:MOk n ss bs cs ls ts)(hm:jf (RK bs ss) cs' ls'):MOk n ss bs cs' ls' ts:=⟨h.lay,hm,h.tlen,h.thr⟩
set_option maxHeartbeats 4000000 in
theorem Wp{n m key:Int}{code:F_}{ss bs:M_}{dd:j_}{cs:C_}{ls:G_}{ts:J_}{i:Nat}{trap count pc call:Int}{args data:D_}{t v rg o sp:Int}{dat:D_}{w:Bool}(h:MOk n ss bs cs ls ts)(hi:i<4) (hR:Bk m ss (i:Int) 1 trap count pc call args data)(hv:Pr ss (t,v,rg,o))(hd:dat.length<=16/\∀c∈dat,Pr ss c)(ZG:-1<=sp/\sp<=3):Ok (n9 code ss dd (i:Int) 1 trap count pc call args data t v rg o dat sp w bs key cs ls ts) (WU n key ss bs):=by
 have hL:=h.lay;have Ys:=h.tlen;obtain⟨Ze,Yq⟩:=hR.hkind rfl;have hargs:=hR.hargs;obtain⟨J',Zr⟩:=sg (key:=key) hL hv;obtain⟨th,Zs⟩:=gw ts i (by omega);have hok:=h.thr th (f8 Zs);have hc0:=hok.count;have hil:=(oGS Zs).1;dsimp only at J';unfold n9;delta f7;rw[fZ,J',qO hR.hcall];simp only[oBS,oBN,oCF];refine gV hil λ_ _=>?_;have ZV:=ul (key:=key) (ct:=(o7 bs key (t,v,rg,o)).1) (cv:=(o7 bs key (t,v,rg,o)).2) h hi Zr;have buf:qQ call=2->dat.length>0->∃a:DCn,args[1]?=some a/\Pr ss a/\a.1=1/\∃y,gd jv NN (i,dat,(dat.length:Int),0,bs,key,cs,ls,ts,code,ss,dd,(i:Int),1,trap,count,pc,call,args,data,t,v,rg,o,dat,sp,w,(o7 bs key (t,v,rg,o)).1,(o7 bs key (t,v,rg,o)).2,a.2.2.1,a.2.2.2,())=some y /\((∃cs' ls',y=.inl (false,bs,key,cs',ls',ts,()))\/(∃cs' ls' z f,y=.inr (i,dat,(dat.length:Int),z,false,bs,key,cs',ls',ts,code,ss,dd,(i:Int),1,trap,count,pc,call,args,data,t,v,rg,o,dat,sp,w,(o7 bs key (t,v,rg,o)).1,(o7 bs key (t,v,rg,o)).2,a.2.2.1,f,())/\jf (RK bs ss) cs' ls')):=by
  intro hb Z0;have hkk:(kB call)[1]?=some 80:=by
   have:call=2\/call=14:=by unfold qQ at hb;split at hb<;>first|omega|(split at hb<;>omega)
   rcases this with rfl|rfl<;>rfl
  have Xz:=(oGS hkk).1;obtain⟨a,ha⟩:=gw args 1 (by omega);have Yj:=hargs.2 a (f8 ha);have Z4:=Yq 1 80 a hkk ha;have YI:a.1=1:=by unfold Nz at Z4;simpa using Z4
  have ha32:0<=a.2.2.2/\a.2.2.2<=32:=by rcases Yj with⟨g,_⟩|⟨_,_,_,z,g1,g2,g3⟩;omega;have:=hL.1.2.2 z (f8 g1);omega
  refine⟨a,ha,Yj,YI,?_⟩;refine hJ (f:=jv) (n:=NN) (P:=λs'=>∃k:Nat,∃cs' ls',s'=(i,dat,(dat.length:Int),(k:Int),bs,key,cs',ls',ts,code,ss,dd,(i:Int),1,trap,count,pc,call,args,data,t,v,rg,o,dat,sp,w,(o7 bs key (t,v,rg,o)).1,(o7 bs key (t,v,rg,o)).2,a.2.2.1,a.2.2.2+k,())/\k<=dat.length/\jf (RK bs ss) cs' ls')
   (R:=λy=>(∃cs' ls',y=.inl (false,bs,key,cs',ls',ts,()))\/(∃cs' ls' z f,y=.inr (i,dat,(dat.length:Int),z,false,bs,key,cs',ls',ts,code,ss,dd,(i:Int),1,trap,count,pc,call,args,data,t,v,rg,o,dat,sp,w,(o7 bs key (t,v,rg,o)).1,(o7 bs key (t,v,rg,o)).2,a.2.2.1,f,())/\jf (RK bs ss) cs' ls'))
   (m:=λs'=>(s'.2.2.1-s'.2.2.2.1).toNat) ⟨0,cs,ls,by simp,by omega,h.mem⟩ (by unfold NN;dsimp only;omega) ?_
  rintro _ ⟨k,cs',ls',rfl,hk,hm⟩;unfold jv;dsimp only;refine fV (λZ'=>?_) λZ'=>?_;rw[fZ];simp only[oBS];refine f9 λc hc=>?_;obtain⟨Z8,Yk⟩:=sg (key:=key) hL (hd.2 c (f8 hc));rw[Z8];simp only[oBS,oBN,oCF];refine EJ.bind ?_;rintro⟨q,_⟩ hin;dsimp only at hin⊢;refine fV (λZ3=>?_) λZ3=>?_;exact fT (.inl ⟨_,_,rfl⟩);obtain⟨g1,g2,z,g3,g4⟩:=hin Z3;obtain⟨ad,ea,a0,a1,_⟩:=EY (key:=key) hL g1 g3 g2 g4;rw[ea];simp only[oBS];refine(zg hm ⟨a0,a1⟩ Yk).bind ?_;rintro _ ⟨cs2,P',rfl,hm2⟩;dsimp only;rw[iC (x:=a.2.2.2+k+1),iC (x:=(k:Int)+1)];exact fT ⟨⟨k+1,_,_,by rw[show a.2.2.2+((k+1:Nat):Int)=a.2.2.2+k+1 by omega];rfl,by omega,hm2⟩,by dsimp only;omega⟩;exact fT (.inr ⟨_,_,_,_,rfl,hm⟩)
 rcases nP hR.hcall with rfl|rfl|rfl|rfl|rfl|rfl|rfl|rfl|rfl|rfl|rfl|rfl|rfl|rfl|rfl|rfl;case inr.inr.inl=>
  simp only[show((qQ 2)==2)=true from rfl,oCT];by_cases Z0:dat.length>0
  ·obtain⟨a,ha,Yj,YI,y,ey,hy⟩:=buf rfl Z0;simp only[oDT (show((dat.length:Nat):Int)>0 by omega),oCT,show fW args 1=some a from ha,oBS,mB Yj,oNT,oCF,bne_eq_false_iff_eq.2 YI,ey]
   rcases hy with⟨cs',ls',rfl⟩|⟨cs',ls',z,f,rfl,hm⟩
   ·exact B4
   ·simp only[Int.reduceBEq,oCF];exact ul (h.mk_mem hm) hi Zr
  ·simp only[oDF (show ¬((dat.length:Nat):Int)>0 by omega),oCF,Int.reduceBEq];exact ZV
 case inr.inr.inr.inr.inr.inr.inr.inr.inr.inr.inr.inr.inr.inr.inl=>
  simp only[show((qQ 14)==2)=true from rfl,oCT];by_cases Z0:dat.length>0
  ·obtain⟨a,ha,Yj,YI,y,ey,hy⟩:=buf rfl Z0;simp only[oDT (show((dat.length:Nat):Int)>0 by omega),oCT,show fW args 1=some a from ha,oBS,mB Yj,oNT,oCF,bne_eq_false_iff_eq.2 YI,ey]
   rcases hy with⟨cs',ls',rfl⟩|⟨cs',ls',z,f,rfl,hm⟩
   ·exact B4
   ·simp only[Int.reduceBEq,oCF];exact ul (h.mk_mem hm) hi Zr
  ·simp only[oDF (show ¬((dat.length:Nat):Int)>0 by omega),oCF,Int.reduceBEq];exact ZV
 case inr.inr.inr.inr.inr.inr.inr.inr.inr.inr.inr.inr.inl=>
  obtain⟨a,ha⟩:=gw args 0 (by rw[Ze];decide);have hva:=(hargs.2 a (f8 ha)).val;simp only[show((qQ 12)==2)=false from rfl,oCF,Int.reduceBEq,oCT,show fW args 0=some a from ha,oBS];rw[gh (x:=a.2.1) (by have:=hva.1;omega) (by have:=hva.2;omega)];by_cases h1:a.2.1>255
  ·simp only[oDT h1,oCT];exact B4
  by_cases h2:a.1=0
  ·simp only[oDF h1,oCF,bne_eq_false_iff_eq.2 h2,show fW ts i=some th from Zs,oBS,gy Zs];exact ul (h.set h.mem ⟨hok.state,hok.len,hok.regs,hok.pc,hok.count,⟨by dsimp only;have:=hva.1;omega,by dsimp only;omega⟩,hok.saved,hok.trap,hok.code⟩) hi Zr
  ·simp only[oDF h1,oCF,bne_iff_ne.2 h2,oCT];exact B4
 case inr.inr.inr.inr.inr.inr.inr.inr.inr.inr.inl=>
  obtain⟨a,ha⟩:=gw args 0 (by rw[Ze];decide);obtain⟨c,hc⟩:=gw args 1 (by rw[Ze];decide);have hva:=(hargs.2 a (f8 ha)).val;obtain⟨Z8,Yk⟩:=sg (key:=key) hL (hargs.2 c (f8 hc));simp only[show((qQ 10)==2)=false from rfl,oCF,Int.reduceBEq,oCT];by_cases hsp0:sp>=0
  ·obtain⟨j,rfl⟩:∃j:Nat,sp=j:=⟨sp.toNat,by omega⟩;obtain⟨tj,htj⟩:=gw ts j (by omega);simp only[oDT hsp0,oCT,show fW args 0=some a from ha,show fW args 1=some c from hc,oBS,Z8,oBN,oCF,fZ,show fW ts j=some tj from htj];rw[gh (x:=a.2.1) (by have:=hva.1;omega) (by have:=hva.2;omega)];by_cases h0:tj.1=0
   ·by_cases h1:a.2.1>255
    ·simp only[bne_eq_false_iff_eq.2 h0,oCF,oDT h1,oCT,oBS];exact B4
    by_cases h2:a.1=0
    ·simp only[bne_eq_false_iff_eq.2 h0,oDF h1,oCF,bne_eq_false_iff_eq.2 h2,oBS,show fW args 0=some a from ha,gh (x:=a.2.1) (by have:=hva.1;omega) (by have:=hva.2;omega),LS,fZ,show fW ts j=some tj from htj,gy htj];refine ul (h.set h.mem (Et rfl (all_cons Yk ?_) ⟨hva.1,by omega⟩ (by omega))) hi Zr;exact all_cons (kz (by decide)) (all_cons (kz (by decide)) (all_cons (kz (by decide)) (all_cons (kz (by decide)) (all_cons (kz (by decide)) (all_cons (kz (by decide)) (all_cons (kz (by decide)) gD))))))
    ·simp only[bne_eq_false_iff_eq.2 h0,oDF h1,oCF,bne_iff_ne.2 h2,oCT,oBS];exact B4
   ·simp only[bne_iff_ne.2 h0,oCT,oBS];exact B4
  ·simp only[oDF hsp0,oCF];exact ZV
 all_goals exact ZV
def W2(n key:Int)(ss bs X:M_)(i:Nat)(r:Bool×v_×Int×C_×G_×J_×Unit):Prop:=∃cs' ls' ZY,r=(true,bs,key,cs',ls',ZY,())/\MOk n ss bs cs' ls' ZY/\ZY.map (·.1)=X.set i 1
def E8(st:M_)(sp:Int):M_:=if sp=-1 then st else st.set sp.toNat 1
theorem H9{ts:J_}{i:Nat}{t t':DTh}(h:ts[i]?=some t)(e:t'.1=t.1):(ts.set i t').map (·.1)=ts.map (·.1):=by rw[List.map_set,e];apply oEG;intro j;rw[List.getElem?_set];split;rename_i hij;subst hij;rw[oGP,h,oLP,oIP (oGS h).1];rfl;rfl
theorem vK{n key ct cv:Int}{ss bs:M_}{cs:C_}{ls:G_}{ts:J_}{i:Nat}{X:M_}(h:MOk n ss bs cs ls ts)(hX:ts.map (·.1)=X)(hi:i<4)(hc:om (RK bs ss) (ct,cv)):Ok ((fW ts i).bind λ_=>(fW ts i).bind λx75=>(fW x75.2.1 0).bind λ_=>(fW ts i).bind λx77=>(fW x77.2.1 0).bind λ_=>(fW (List.modify ts i λe=>(e.1,((List.modify e.2.1 0 λ_=>(ct,cv)),e.2.2))) i).bind λ_=> some (true,bs,key,cs,ls,List.modify (List.modify ts i λe=>(e.1,((List.modify e.2.1 0 λ_=>(ct,cv)),e.2.2))) i λe=>((1:Int),e.2),())) (W2 n key ss bs X i):=by have Ys:=h.tlen;have ⟨t,ht⟩:=gw ts i (by omega);have hg:fW ts i=some t:=ht;have hil:=(oGS ht).1;have hok:=h.thr t (f8 ht);have ⟨c,hc0⟩:=gw t.2.1 0 (by have:=hok.len;omega);simp[hg,show fW t.2.1 0=some c from hc0,gy ht,gy hc0,is hil,qg hil];refine fT ⟨_,_,_,rfl,h.set h.mem ⟨⟨show(0:Int)<=1 by decide,show(1:Int)<=4 by decide⟩,by dsimp only;rw[oLS];exact hok.len,j7 hok.regs hc,hok.pc,hok.count,hok.handler,hok.saved,hok.trap,hok.code⟩,by simp_all⟩
set_option maxHeartbeats 4000000 in
theorem T8{n m key:Int}{code:F_}{ss bs:M_}{dd:j_}{cs:C_}{ls:G_}{ts:J_}{i:Nat}{trap count pc call:Int}{args data:D_}{t v rg o sp:Int}{dat:D_}{w:Bool}(h:MOk n ss bs cs ls ts)(hi:i<4) (hR:Bk m ss (i:Int) 1 trap count pc call args data)(hv:Pr ss (t,v,rg,o))(hd:dat.length<=16/\∀c∈dat,Pr ss c)(hF:QD ss call args)(hD:U6 call args dat)(hS:sp=-1\/(call=10/\∃j:Nat,sp=j/\j<4/\∃tj,ts[j]?=some tj/\tj.1=0)):Ok (n9 code ss dd (i:Int) 1 trap count pc call args data t v rg o dat sp w bs key cs ls ts) (W2 n key ss bs (E8 (ts.map (·.1)) sp) i):=by
 have hL:=h.lay;have Ys:=h.tlen;obtain⟨Ze,Yq⟩:=hR.hkind rfl;have hargs:=hR.hargs;obtain⟨J',Zr⟩:=sg (key:=key) hL hv;obtain⟨th,Zs⟩:=gw ts i (by omega);have hok:=h.thr th (f8 Zs);have hc0:=hok.count;have hil:=(oGS Zs).1;dsimp only at J';unfold n9;delta f7;rw[fZ,J',qO hR.hcall];simp only[oBS,oBN,oCF];refine gV hil λ_ _=>?_;have hX:call≠10->ts.map (·.1)=E8 (ts.map (·.1)) sp:=λhc=>by rcases hS with rfl|⟨h10,_⟩;rfl;exact absurd h10 hc
 have ZV:=λhc:call≠10=>vK (key:=key) (ct:=(o7 bs key (t,v,rg,o)).1) (cv:=(o7 bs key (t,v,rg,o)).2) h (hX hc) hi Zr;have buf:qQ call=2->dat.length>0->∃a:DCn,args[1]?=some a/\Pr ss a/\a.1=1/\∃y,gd jv NN (i,dat,(dat.length:Int),0,bs,key,cs,ls,ts,code,ss,dd,(i:Int),1,trap,count,pc,call,args,data,t,v,rg,o,dat,sp,w,(o7 bs key (t,v,rg,o)).1,(o7 bs key (t,v,rg,o)).2,a.2.2.1,a.2.2.2,())=some y /\(∃cs' ls' z f,y=.inr (i,dat,(dat.length:Int),z,false,bs,key,cs',ls',ts,code,ss,dd,(i:Int),1,trap,count,pc,call,args,data,t,v,rg,o,dat,sp,w,(o7 bs key (t,v,rg,o)).1,(o7 bs key (t,v,rg,o)).2,a.2.2.1,f,())/\jf (RK bs ss) cs' ls'):=by
  intro hb Z0;have hkk:(kB call)[1]?=some 80:=by
   have:call=2\/call=14:=by unfold qQ at hb;split at hb<;>first|omega|(split at hb<;>omega)
   rcases this with rfl|rfl<;>rfl
  have Xz:=(oGS hkk).1;obtain⟨a,ha⟩:=gw args 1 (by omega);have Yj:=hargs.2 a (f8 ha);have Z4:=Yq 1 80 a hkk ha;have YI:a.1=1:=by unfold Nz at Z4;simpa using Z4
  have ha32:0<=a.2.2.2/\a.2.2.2<=32:=by rcases Yj with⟨g,_⟩|⟨_,_,_,z,g1,g2,g3⟩;omega;have:=hL.1.2.2 z (f8 g1);omega
  obtain⟨a',q',z',YH,hq',hz',hle⟩:=hF.1 hb;rw[ha]at YH;injection YH with YH
  subst YH;obtain⟨_,q2,Y7,hdl⟩:=hD (λe=>by rw[e]at Z0;exact absurd Z0 (by decide));rw[hq']at Y7;injection Y7 with Y7
  subst Y7;have Q':0<=a.2.2.1:=by rcases Yj with⟨g,_⟩|⟨_,_,g,_⟩;omega;exact g
  refine⟨a,ha,Yj,YI,?_⟩;refine hJ (f:=jv) (n:=NN) (P:=λs'=>∃k:Nat,∃cs' ls',s'=(i,dat,(dat.length:Int),(k:Int),bs,key,cs',ls',ts,code,ss,dd,(i:Int),1,trap,count,pc,call,args,data,t,v,rg,o,dat,sp,w,(o7 bs key (t,v,rg,o)).1,(o7 bs key (t,v,rg,o)).2,a.2.2.1,a.2.2.2+k,())/\k<=dat.length/\jf (RK bs ss) cs' ls')
   (R:=λy=>(∃cs' ls' z f,y=.inr (i,dat,(dat.length:Int),z,false,bs,key,cs',ls',ts,code,ss,dd,(i:Int),1,trap,count,pc,call,args,data,t,v,rg,o,dat,sp,w,(o7 bs key (t,v,rg,o)).1,(o7 bs key (t,v,rg,o)).2,a.2.2.1,f,())/\jf (RK bs ss) cs' ls'))
   (m:=λs'=>(s'.2.2.1-s'.2.2.2.1).toNat) ⟨0,cs,ls,by simp,by omega,h.mem⟩ (by unfold NN;dsimp only;omega) ?_
  rintro _ ⟨k,cs',ls',rfl,hk,hm⟩;unfold jv;dsimp only;refine fV (λZ'=>?_) λZ'=>?_;rw[fZ];simp only[oBS];refine f9 λc hc=>?_;obtain⟨Z8,Yk⟩:=sg (key:=key) hL (hd.2 c (f8 hc));rw[Z8];simp only[oBS,oBN,oCF];rw[yg Q' hz' (show 0<=a.2.2.2+k by omega) (show a.2.2.2+k<z' by omega)];simp only[oBS,oNT,oCF];obtain⟨ad,ea,a0,a1,_⟩:=EY (key:=key) hL Q' hz' (show 0<=a.2.2.2+k by omega) (show a.2.2.2+k<z' by omega);rw[ea];simp only[oBS];refine(zg hm ⟨a0,a1⟩ Yk).bind ?_;rintro _ ⟨cs2,P',rfl,hm2⟩;dsimp only;rw[iC (x:=a.2.2.2+k+1),iC (x:=(k:Int)+1)];exact fT ⟨⟨k+1,_,_,by rw[show a.2.2.2+((k+1:Nat):Int)=a.2.2.2+k+1 by omega];rfl,by omega,hm2⟩,by dsimp only;omega⟩;exact fT ⟨_,_,_,_,rfl,hm⟩
 rcases nP hR.hcall with rfl|rfl|rfl|rfl|rfl|rfl|rfl|rfl|rfl|rfl|rfl|rfl|rfl|rfl|rfl|rfl;case inr.inr.inl=>
  simp only[show((qQ 2)==2)=true from rfl,oCT];by_cases Z0:dat.length>0
  ·obtain⟨a,ha,Yj,YI,y,ey,hy⟩:=buf rfl Z0;simp only[oDT (show((dat.length:Nat):Int)>0 by omega),oCT,show fW args 1=some a from ha,oBS,mB Yj,oNT,oCF,bne_eq_false_iff_eq.2 YI,ey];obtain⟨cs',ls',z,f,rfl,hm⟩:=hy;simp only[Int.reduceBEq,oCF];exact vK (h.mk_mem hm) (hX (by decide)) hi Zr
  ·simp only[oDF (show ¬((dat.length:Nat):Int)>0 by omega),oCF,Int.reduceBEq];exact ZV (by decide)
 case inr.inr.inr.inr.inr.inr.inr.inr.inr.inr.inr.inr.inr.inr.inl=>
  simp only[show((qQ 14)==2)=true from rfl,oCT];by_cases Z0:dat.length>0
  ·obtain⟨a,ha,Yj,YI,y,ey,hy⟩:=buf rfl Z0;simp only[oDT (show((dat.length:Nat):Int)>0 by omega),oCT,show fW args 1=some a from ha,oBS,mB Yj,oNT,oCF,bne_eq_false_iff_eq.2 YI,ey];obtain⟨cs',ls',z,f,rfl,hm⟩:=hy;simp only[Int.reduceBEq,oCF];exact vK (h.mk_mem hm) (hX (by decide)) hi Zr
  ·simp only[oDF (show ¬((dat.length:Nat):Int)>0 by omega),oCF,Int.reduceBEq];exact ZV (by decide)
 case inr.inr.inr.inr.inr.inr.inr.inr.inr.inr.inr.inr.inl=>
  obtain⟨a,ha⟩:=gw args 0 (by rw[Ze];decide);have hva:=(hargs.2 a (f8 ha)).val;simp only[show((qQ 12)==2)=false from rfl,oCF,Int.reduceBEq,oCT,show fW args 0=some a from ha,oBS];rw[gh (x:=a.2.1) (by have:=hva.1;omega) (by have:=hva.2;omega)];obtain⟨a',YH,h2,h1⟩:=hF.2 (.inr rfl);rw[ha]at YH
  injection YH with YH
  subst YH
  have h1:¬a.2.1>255:=by omega
  ·simp only[oDF h1,oCF,bne_eq_false_iff_eq.2 h2,show fW ts i=some th from Zs,oBS,gy Zs];exact vK (h.set h.mem ⟨hok.state,hok.len,hok.regs,hok.pc,hok.count,⟨by dsimp only;have:=hva.1;omega,by dsimp only;omega⟩,hok.saved,hok.trap,hok.code⟩) ((H9 (t':=(th.1,th.2.1,th.2.2.1,th.2.2.2.1,a.2.1,th.2.2.2.2.2)) Zs rfl).trans (hX (by decide))) hi Zr
 case inr.inr.inr.inr.inr.inr.inr.inr.inr.inr.inl=>
  obtain⟨a,ha⟩:=gw args 0 (by rw[Ze];decide);obtain⟨c,hc⟩:=gw args 1 (by rw[Ze];decide);have hva:=(hargs.2 a (f8 ha)).val;obtain⟨Z8,Yk⟩:=sg (key:=key) hL (hargs.2 c (f8 hc));simp only[show((qQ 10)==2)=false from rfl,oCF,Int.reduceBEq,oCT];rcases hS with rfl|⟨_,j,rfl,hj4,tj,htj,h0⟩
  ·simp only[oDF (show ¬(-1:Int)>=0 by decide),oCF];exact vK h rfl hi Zr
  ·obtain⟨a',YH,h2,h1⟩:=hF.2 (.inl rfl);rw[ha]at YH
   injection YH with YH
   subst YH
   have h1:¬a.2.1>255:=by omega
   simp only[oDT (show(j:Int)>=0 by omega),oCT,show fW args 0=some a from ha,show fW args 1=some c from hc,oBS,Z8,oBN,oCF,fZ,show fW ts j=some tj from htj];rw[gh (x:=a.2.1) (by have:=hva.1;omega) (by have:=hva.2;omega)];simp only[bne_eq_false_iff_eq.2 h0,oDF h1,oCF,bne_eq_false_iff_eq.2 h2,oBS,show fW args 0=some a from ha,gh (x:=a.2.1) (by have:=hva.1;omega) (by have:=hva.2;omega),LS,fZ,show fW ts j=some tj from htj,gy htj];refine vK (h.set h.mem (Et rfl (all_cons Yk ?_) ⟨hva.1,by omega⟩ (by omega))) ?_ hi Zr
   ·exact all_cons (kz (by decide)) (all_cons (kz (by decide)) (all_cons (kz (by decide)) (all_cons (kz (by decide)) (all_cons (kz (by decide)) (all_cons (kz (by decide)) (all_cons (kz (by decide)) gD))))))
   ·unfold E8;rw[List.map_set,oIN (by omega),oTN]
 all_goals
  exact ZV (by decide)
def InQ(qs:j_)(x:Int):Prop:=∃(j:Nat)(q:M_),qs[j]?=some q/\x∈q
def Dm(qs:j_):Prop:=∀(i j:Nat)(q r:M_)(x:Int),qs[i]?=some q->qs[j]?=some r->x∈q->x∈r->i=j
def SN(qs:j_)(n:Int)(qs':j_):Prop:=(n=-1/\qs'=qs)\/∃(j:Nat)(q:M_),qs[j]?=some (n::q)/\qs'=qs.set j q
def Qx(qs:j_)(t how:Int)(qs':j_):Prop:=(how≠1/\qs'=qs)\/(how=1/\(∀q∈qs,t ∉ q)/\∃(j:Nat)(q:M_),qs[j]?=some q/\qs'=qs.set j (q++[t]))
theorem rY{α:Type}{l:List α}{i j:Nat}{a b:α}(h:(l.set i a)[j]?=some b):(i=j/\b=a)\/(i≠j/\l[j]?=some b):=by rw[List.getElem?_set]at h;split at h;all_goals simp_all
theorem Ua{ow:M_}{qs qs':j_}{n:Int}(hl:kL ow qs)(hX:Dm qs)(h:SN qs n qs')(hn:n≠-1):InQ qs n/\Dm qs'/\∀y,InQ qs' y->InQ qs y/\y≠n:=by rcases h with⟨h,_⟩|⟨j,q,hj,rfl⟩;omega;have Zq:=(hl.queue _ (f8 hj)).1;rw[List.nodup_cons]at Zq;refine⟨⟨j,_,hj,List.mem_cons_self ..⟩,λa b u v x ha hb hu hv=>?_,λy hy=>?_⟩;rcases rY ha with⟨e1,e2⟩|⟨e1,e2⟩;rcases rY hb with⟨e3,e4⟩|⟨e3,e4⟩;omega;exact e1▸hX j b _ v x hj e4 (List.mem_cons_of_mem _ (e2▸hu)) hv;rcases rY hb with⟨e3,e4⟩|⟨e3,e4⟩;exact e3▸hX a j u _ x e2 hj hu (List.mem_cons_of_mem _ (e4▸hv));exact hX a b u v x e2 e4 hu hv;have ⟨a,u,ha,hu⟩:=hy;rcases rY ha with⟨e1,e2⟩|⟨e1,e2⟩;subst e2;exact⟨⟨j,_,hj,List.mem_cons_of_mem _ hu⟩,λe=>Zq.1 (e▸hu)⟩;refine⟨⟨a,u,e2,hu⟩,λe=>e1 ?_⟩;exact hX j a _ u n hj e2 (List.mem_cons_self ..) (e▸hu)
theorem Vq{qs qs':j_}{t how:Int}(hX:Dm qs)(h:Qx qs t how qs'):Dm qs'/\∀y,InQ qs' y->InQ qs y\/(y=t/\how=1):=by
 rcases h with⟨_,rfl⟩|⟨h1,A',j,q,hj,rfl⟩;simp_all;refine⟨λa b u v x ha hb hu hv=>?_,λy hy=>?_⟩;have key:∀(b:Nat)(v:M_),j≠b->qs[b]?=some v->x∈q++[t]->x∈v->j=b:=λb v hne hb hu hv=>by rcases oMA.1 hu with hu|hu;exact hX j b q v x hj hb hu hv;exact absurd (List.mem_singleton.1 hu▸hv) (A' v (f8 hb))
 rcases rY ha with⟨e1,e2⟩|⟨e1,e2⟩;rcases rY hb with⟨e3,e4⟩|⟨e3,e4⟩;omega;exact e1▸key b v e3 e4 (e2▸hu) hv;rcases rY hb with⟨e3,e4⟩|⟨e3,e4⟩;exact e3▸(key a u e1 e2 (e4▸hv) hu).symm;exact hX a b u v x e2 e4 hu hv;have ⟨a,u,ha,hu⟩:=hy;rcases rY ha with⟨e1,e2⟩|⟨e1,e2⟩;subst e2;rcases oMA.1 hu with hu|hu;exact .inl ⟨j,q,hj,hu⟩;simp_all;exact .inl ⟨a,u,e2,hu⟩
structure SM (qs:j_)(nx:M_)(qs':j_):Prop where
 was:∀x∈nx,InQ qs x
 nd:nx.Nodup
 now:∀y,InQ qs' y->InQ qs y/\y ∉ nx
 cross:Dm qs'
theorem SM.nil{qs:j_}(h:Dm qs):SM qs [] qs:=⟨gD,List.nodup_nil,λy hy=>⟨hy,by simp⟩,h⟩
theorem SM.snoc{ow:M_}{qs qs1 qs2:j_}{nx:M_}{n:Int}(h:SM qs nx qs1)(hl:kL ow qs1)(hn:n>=0)(hp:SN qs1 n qs2):SM qs (List.append nx [n]) qs2:=by have ⟨h1,h2,h3⟩:=Ua hl h.cross hp (by omega);have ⟨g1,g2⟩:=h.now n h1;refine⟨lp h.was (all_cons g1 gD),EF h.nd g2,λy hy=>?_,h2⟩;have ⟨k1,k2⟩:=h3 y hy;have ⟨k3,k4⟩:=h.now y k1;simp_all
theorem Fb{α:Type}{l:List α}{i:Nat}{a:α}(h:l[i]?=some a):l.set i a=l:=by apply oEG;grind
theorem L5{ow:M_}{qs:j_}{lock t:Int}(h:kL ow qs):Ok (jU ow qs lock t) λr=>∃Zt qs' n b,r=(Zt,qs',n,b,())/\kL Zt qs'/\(-1<=n/\n<=3)/\SN qs n qs'/\(n>=0->b=true):=by
 unfold jU;rw[CZ h];obtain⟨h1,h2,h3,h4⟩:=id h;refine Ok.bind (P:=λr=>∃b,r=(lock,b,(),(),ow,qs,())/\(b=false->0<=lock/\lock<4)) ?_ ?_;refine fV (λZ'=>?_) λZ'=>?_;exact fT ⟨true,rfl,λh=>by cases h⟩;refine fV (λZ3=>?_) λZ3=>?_;exact fT ⟨true,rfl,λh=>by cases h⟩;refine gX λj hj=>?_;refine f9 λx hx=>?_;exact fT ⟨_,rfl,λ_=>⟨by omega,by omega⟩⟩;rintro _ ⟨b,rfl,hb⟩;dsimp only;refine gg (λ_=>fT ⟨_,_,_,_,rfl,h,by omega,.inl ⟨rfl,rfl⟩,λhn=>absurd hn (by decide)⟩) λhbf=>?_;obtain⟨l0,l1⟩:=hb hbf;obtain⟨j,rfl⟩:∃j:Nat,lock=j:=⟨lock.toNat,by omega⟩;obtain⟨o,ho⟩:=gw ow j (by omega);obtain⟨q,hq⟩:=gw qs j (by omega);have go:fW ow j=some o:=ho;have gq:fW qs j=some q:=hq;have gm:∀f:Int->Int,fW (List.modify ow j f) j=some (f o):=λf=>vY ho;have gm2:∀f g:Int->Int,fW (List.modify (List.modify ow j f) j g) j=some (g (f o)):=λf g=>vY (vY ho);delta f7;simp only[fZ,oBS,go,gq,gm,gm2];have Xz:kL (List.modify ow j λ_=>-1) qs:=⟨by rw[oLM];exact h1,h2,hU h3 λ_ _=>⟨by omega,by omega⟩,h4⟩;refine fV (λhcc=>?_) λhcc=>?_;obtain⟨x,hx⟩:=gw q 0 (by omega);have gx:fW q 0=some x:=hx;have YB:=(h4 q (f8 hq)).2 x (f8 hx);simp only[gx,oBS];refine fU (by unfold iX;simp;omega) ?_;obtain⟨y,q',rfl⟩:∃y q',q=y::q':=by cases q with|nil=>cases hx|cons y q'=>exact⟨y,q',rfl⟩
 obtain rfl:y=x:=by injection hx
 have hw:nV (y::q') 1 (Nat.sub (y::q').length 1)=q':=by show((y::q').drop 1).take ((y::q').length-1)=q';simp_all
 refine fT ⟨_,_,_,_,rfl,⟨by simp_all,by rw[oLM];exact h2,hU (hU h3 λ_ _=>⟨by omega,by omega⟩) λ_ _=>⟨by omega,by omega⟩,hU h4 λ_ _=>?_⟩,by omega,.inr ⟨j,q',hq,by rw[hw,gy hq]⟩,λ_=>rfl⟩;obtain⟨q1,q2⟩:=h4 _ (f8 hq);simp_all;exact fT ⟨_,_,_,_,rfl,Xz,by omega,.inl ⟨rfl,rfl⟩,λ_=>rfl⟩
theorem Ve{ow:M_}{qs:j_}{lock t:Int}(h:kL ow qs)(ht:0<=t/\t<=3):Ok (ri ow qs lock t) λr=>∃Zt qs' n,r=(Zt,qs',n,())/\kL Zt qs'/\Qx qs t n qs':=by
 unfold ri;rw[CZ h];simp only[oBS];obtain⟨h1,h2,h3,h4⟩:=id h;refine Ok.bind (P:=λr=>∃b,r=(lock,t,b,ow,qs,(),(),ow,qs,())/\(b=false->0<=lock/\lock<4)) ?_ ?_;refine fV (λZ'=>?_) λZ'=>?_;exact fT ⟨true,rfl,λh=>by cases h⟩;refine fV (λZ3=>?_) λZ3=>?_;exact fT ⟨true,rfl,λh=>by cases h⟩;refine gX λj hj=>?_;refine f9 λx hx=>?_;exact fT ⟨_,rfl,λ_=>⟨by omega,by omega⟩⟩;rintro _ ⟨b,rfl,hb⟩;dsimp only;refine gg (λ_=>fT ⟨_,_,_,rfl,h,.inl ⟨by decide,rfl⟩⟩) λhbf=>?_;obtain⟨l0,l1⟩:=hb hbf;delta f7;try dsimp only
 obtain⟨r,e,hr⟩:=hJ (f:=qo) (n:=NN) (s:=(lock,t,qs,(qs.length:Int),0,ow,qs,(),(),ow,qs,())) (P:=λs'=>∃k:Nat,s'=(lock,t,qs,(qs.length:Int),(k:Int),ow,qs,(),(),ow,qs,())/\k<=qs.length/\∀(i:Nat) q,i<k->qs[i]?=some q->t ∉ q) (R:=λr=>r=.inl (2,ow,qs,())\/((∃a b c,r=.inr (lock,t,a,b,c,false,ow,qs,(),(),ow,qs,()))/\∀q∈qs,t ∉ q)) (m:=λs'=>(s'.2.2.2.1-s'.2.2.2.2.1).toNat) ⟨0,rfl,by omega,λi q hi=>by omega⟩ (by unfold NN;dsimp only;omega) (by
  rintro _ ⟨k,rfl,hk,ZN⟩;unfold qo;dsimp only;refine fV (λZ'=>?_) λZ'=>?_;obtain⟨q,hq⟩:=gw qs k (by omega);have gq:fW qs k=some q:=hq;have q3:=h.qlen4 (f8 hq);delta f7;simp only[fZ,oBS,gq];obtain⟨r,e,hr⟩:=hJ (f:=qp) (n:=NN) (s:=(lock,t,qs,(qs.length:Int),(k:Int),q,(q.length:Int),0,ow,qs,(),(),ow,qs,())) (P:=λs'=>∃j:Nat,s'=(lock,t,qs,(qs.length:Int),(k:Int),q,(q.length:Int),(j:Int),ow,qs,(),(),ow,qs,())/\j<=q.length/\∀(i:Nat) x,i<j->q[i]?=some x->x≠t) (R:=λr=>r=.inl (2,ow,qs,())\/((∃a b c,r=.inr (lock,t,qs,(qs.length:Int),(k:Int),a,b,c,false,ow,qs,(),(),ow,qs,()))/\t ∉ q)) (m:=λs'=>(s'.2.2.2.2.2.2.1-s'.2.2.2.2.2.2.2.1).toNat) ⟨0,rfl,by omega,λi x hi=>by omega⟩ (by unfold NN;dsimp only;omega) (by
   rintro _ ⟨j,rfl,hj,hne⟩;unfold qp;dsimp only;refine fV (λZ3=>?_) λZ3=>?_;obtain⟨x,hx⟩:=gw q j (by omega);have gx:fW q j=some x:=hx;simp only[fZ,oBS,gx];refine fV (λhcc=>?_) λhcc=>?_;exact fT (.inl rfl)
   ·(simp (disch:=omega) only [gE,gt,gh,gj])
    exact fT ⟨⟨j+1,rfl,by omega,Mn hne hx hcc⟩,by dsimp only;omega⟩
   refine fT (.inr ⟨⟨_,_,_,rfl⟩,λhm=>?_⟩);obtain⟨i,hi⟩:=List.getElem?_of_mem hm;exact hne i t (by have:=(oGS hi).1;omega) hi rfl)
  rw[e];rcases hr with rfl|⟨⟨a,b,c,rfl⟩,A'⟩;exact fT (.inl rfl);dsimp only
  (simp (disch:=omega) only [gE,gt,gh,gj])
  refine fT ⟨⟨k+1,rfl,by omega,λi q' hi hq'=>?_⟩,by dsimp only;omega⟩;by_cases hik:i=k;simp_all;exact ZN i q' (by omega) hq';refine fT (.inr ⟨⟨_,_,_,rfl⟩,λq hq=>?_⟩);obtain⟨i,hi⟩:=List.getElem?_of_mem hq;exact ZN i q (by have:=(oGS hi).1;omega) hi)
 rw[e];rcases hr with rfl|⟨⟨a,b,c,rfl⟩,A'⟩;exact fT ⟨_,_,_,rfl,h,.inl ⟨by decide,rfl⟩⟩;dsimp only;obtain⟨j,rfl⟩:∃j:Nat,lock=j:=⟨lock.toNat,by omega⟩;obtain⟨o,ho⟩:=gw ow j (by omega);obtain⟨q,hq⟩:=gw qs j (by omega);have go:fW ow j=some o:=ho;have gq:fW qs j=some q:=hq;simp only[fZ,oBS,go,gq];refine fV (λXJ=>?_) λXJ=>?_;exact fT ⟨_,_,_,rfl,⟨by rw[oLM];exact h1,h2,hU h3 λ_ _=>⟨by omega,ht.2⟩,h4⟩,.inl ⟨by decide,rfl⟩⟩;have q3:=h.qlen4 (f8 hq);refine fU (gf (by simp;omega)) (fU (by simp) (fT ⟨_,_,_,rfl,⟨h1,by rw[oLM];exact h2,h3,hU h4 λ_ _=>⟨?_,?_⟩⟩,.inr ⟨rfl,A',j,q,hq,by rw[gy hq];rfl⟩⟩));exact EF (h4 q (f8 hq)).1 (A' q (f8 hq));exact lp (h4 q (f8 hq)).2 (all_cons ht gD)
theorem VW{ow:M_}{qs:j_}{t:Int}(h:kL ow qs)(ht:¬InQ qs t)(hX:Dm qs):Ok (rj ow qs t) λr=>∃Zt qs' nx,r=(Zt,qs',nx,())/\kL Zt qs'/\nx.length<=4/\(∀x∈nx,0<=x/\x<=3)/\SM qs nx qs':=by
 unfold rj;rw[CZ h];delta f7;simp only[oBS];have h2:=h.qlen;have A':∀(k:Nat) q,qs[k]?=some q->t ∉ q:=λk q hq hm=>ht ⟨k,q,hq,hm⟩;refine gQ (P:=λs'=>∃k:Nat,s'=(t,(qs.length:Int),(k:Int),(),(),ow,qs,())/\k<=qs.length) (R:=λr=>∃a b c,r=(t,a,b,c,(),(),ow,qs,())) (m:=λs'=>(s'.2.1-s'.2.2.1).toNat) ⟨0,rfl,by omega⟩ (by unfold NN;dsimp only;omega) ?_ ?_;rintro _ ⟨k,rfl,hk⟩;unfold uu;dsimp only;refine fV (λZ'=>?_) λZ'=>?_;obtain⟨q,hq⟩:=gw qs k (by omega);have gq:fW qs k=some q:=hq;have q3:=h.qlen4 (f8 hq);delta f7;simp only[fZ,oBS,gq];refine gQ (P:=λs'=>∃j:Nat,s'=(t,(k:Int),(qs.length:Int),(k:Int),k,(q.length:Int),(j:Int),(),(),ow,qs,q.take j,())/\j<=q.length)
  (R:=λr=>∃a b c d,r=(t,(k:Int),(qs.length:Int),(k:Int),a,b,c,d,(),(),ow,qs,q,())) (m:=λs'=>(s'.2.2.2.2.2.1-s'.2.2.2.2.2.2.1).toNat) ⟨0,rfl,by omega⟩ (by unfold NN;dsimp only;omega) ?_ ?_
 rintro _ ⟨j,rfl,hj⟩;unfold uv;dsimp only;refine fV (λZ3=>?_) λZ3=>?_;obtain⟨x,hx⟩:=gw q j (by omega);have gx:fW q j=some x:=hx;have hxt:x≠t:=λe=>A' k q hq (e▸f8 hx);simp only[fZ,oBS,gq,gx,bne_iff_ne.2 hxt,oCT];rw[gf (by simp;omega)];simp only[oCT,oBS]
 (simp (disch:=omega) only [gE,gt,gh,gj])
 exact fT ⟨⟨j+1,by rw[List.take_add_one,hx];rfl,by omega⟩,by dsimp only;omega⟩;have:j=q.length:=by omega
 subst this;exact fT ⟨_,_,_,_,by rw[List.take_length]⟩;rintro _ ⟨a,b,c,d,rfl⟩;dsimp only;simp only[fZ,oBS,gq];rw[gy hq,Fb hq]
 (simp (disch:=omega) only [gE,gt,gh,gj])
 exact fT ⟨⟨k+1,rfl,by omega⟩,by dsimp only;omega⟩;exact fT ⟨_,_,_,rfl⟩;rintro _ ⟨a,b,c,rfl⟩;dsimp only;refine gQ (P:=λs'=>∃k:Nat,∃Zt qs' nx,s'=(t,4,(k:Int),(),(),Zt,qs',nx,())/\k<=4/\nx.length<=k/\kL Zt qs'/\(∀x∈nx,0<=x/\x<=3)/\SM qs nx qs') (R:=λr=>∃a b c Zt qs' nx,r=(t,a,b,c,(),(),Zt,qs',nx,())/\kL Zt qs'/\nx.length<=4/\(∀x∈nx,0<=x/\x<=3)/\SM qs nx qs') (m:=λs'=>(4-s'.2.2.1).toNat)
  ⟨0,ow,qs,[],by rw[h.olen];rfl,by omega,by simp,h,gD,.nil hX⟩ (by unfold NN;dsimp only;omega) ?_ ?_
 rintro _ ⟨k,Zt,qs',nx,rfl,hk,XL,YJ,XN,hp⟩;unfold ut;dsimp only;refine fV (λZ'=>?_) λZ'=>?_;refine(L5 YJ).bind ?_;rintro _ ⟨ow2,qs2,n,bb,rfl,Yd,⟨n0,n1⟩,XY,hbt⟩;dsimp only;refine Ok.bind (P:=λr=>∃nx',r=(t,4,(k:Int),(),(),Zt,qs',nx',ow2,qs2,())/\nx'.length<=k+1/\(∀x∈nx',0<=x/\x<=3)/\SM qs nx' qs2) ?_ ?_;by_cases hn:n>=0;have hb:bb=true:=hbt hn;subst hb;simp only[oCT,oDT hn];refine fU (gf (by simp;omega)) (fT ⟨_,rfl,by rw[it];simp;omega,lp XN (all_cons ⟨by omega,n1⟩ gD),hp.snoc YJ hn XY⟩);have hq:qs2=qs':=by rcases XY with⟨_,e⟩|⟨j,q,hj,_⟩;exact e;have:=((YJ.queue _ (f8 hj)).2 n (List.mem_cons_self ..)).1;omega
 subst hq;cases bb with|true=>simp only[oCT,oDF hn,oCF];exact fT ⟨nx,rfl,by omega,XN,hp⟩|false=>exact fT ⟨nx,rfl,by omega,XN,hp⟩
 rintro _ ⟨nx',rfl,hn1,hn2,hp2⟩;dsimp only
 (simp (disch:=omega) only [gE,gt,gh,gj])
 exact fT ⟨⟨k+1,_,_,_,rfl,by omega,hn1,Yd,hn2,hp2⟩,by dsimp only;omega⟩;exact fT ⟨_,_,_,_,_,_,rfl,YJ,by omega,XN,hp⟩;rintro _ ⟨a,b,c,Zt,qs',nx,rfl,YJ,hn4,XN,hp⟩;exact fT ⟨_,_,_,rfl,YJ,hn4,XN,hp⟩
theorem Es{ss:M_}{t v rg o sp:Int}{dat:D_}{w:Bool}(hs:AY ss)(hv:Pr ss (t,v,rg,o))(hd:dat.length<=16/\∀c∈dat,Pr ss c)(ZG:-1<=sp/\sp<=3):m6 t v rg o dat sp w=some (true,()):=by refine gW ?_;unfold m6;rw[show mF t v rg o=some (true,())from JP hs hv,mL hs hd.2 (by omega) (by omega)];refine fU (oDT ZG.1) ?_;exact fT (by rw[oDT (show sp<4 by omega)])
def UP(st:M_)(i:Nat)(call:Int)(w:Bool)(sp:Int):M_:=if sp=-1 then st.set i (if call=0 then 4 else if w=true then 3 else 1)else(st.set i (if call=0 then 4 else if w=true then 3 else 1)).set sp.toNat 1
theorem WT{n m key:Int}{code:F_}{ss bs:M_}{dd:j_}{cs:C_}{ls:G_}{ts:J_}{i:Nat}{trap count pc call:Int}{args data:D_}{t v rg o sp:Int}{dat:D_}{w:Bool}(hp:kT code ss dd)(h:MOk n ss bs cs ls ts)(hi:i<4) (hn:n<=1099511627776)(hm:m<=1099511627776)(hR:Bk m ss (i:Int) 1 trap count pc call args data)(hv:Pr ss (t,v,rg,o))(hd:dat.length<=16/\∀c∈dat,Pr ss c)(ZG:-1<=sp/\sp<=3){th:DTh}(Zs:ts[i]?=some th)(h2:th.1=2)(hF:QD ss call args)(hD:U6 call args dat)(hS:sp=-1\/(call=10/\w=false/\∃j:Nat,sp=j/\j<4/\∃tj,ts[j]?=some tj/\tj.1=0)):Ok (sO code ss dd bs key cs ls ts (i:Int) 1 trap count pc call args data t v rg o dat sp w) λr=>∃cs' ls' ZY b,r=(bs,key,cs',ls',ZY,b,())/\MOk n ss bs cs' ls' ZY/\ZY.map (·.1)=UP (ts.map (·.1)) i call w sp:=by
 have Ys:=h.tlen;obtain⟨Ze,Yq⟩:=hR.hkind rfl;have hok:=h.thr th (f8 Zs);have hg:fW ts i=some th:=Zs;unfold sO;delta f7;rw[vF hp h hn,zb hp.sz hR hm,AX hR.hcall,Es hp.sz hv hd ZG,Ze];simp only[oBS,oNT,oCF,oBN,fZ,hg];simp only[bne_eq_false_iff_eq.2 h2,oCF,yp h,oBS,fZ,hg];by_cases hc0:call=0;subst hc0;obtain⟨a,ha⟩:=gw args 0 (by rw[Ze];decide);have hva:=(hR.hargs.2 a (f8 ha)).val;simp only[BEq.rfl,oCT,show fW args 0=some a from ha,oBS];unfold qq ou;rw[gf (show 4<=1000/\0+th.2.1.length<=1000000 by have:=hok.len;omega)];simp only[oCT,oBS,gy Zs];refine gV (by rw[oLS];omega) λ_ _=>?_;exact fT ⟨_,_,_,_,rfl,h.set h.mem ⟨⟨show(0:Int)<=4 by decide,show(4:Int)<=4 by decide⟩,by dsimp only;rw[it];simpa using hok.len,lp gD hok.regs,hok.pc,hok.count,hok.handler,hok.saved,⟨show(0:Int)<=0 by decide,show(0:Int)<=6 by decide⟩,hva⟩,by
  rcases hS with rfl|⟨h10,_⟩
  ·rw[List.map_set];rfl
  ·exact absurd h10 (by decide)⟩
 simp only[oBF hc0,oCF];cases w with
 |true=>
 simp only[oCT,gy Zs];refine gV (by rw[oLS];omega) λ_ _=>?_;refine gV (by rw[oLS];omega) λ_ _=>?_;exact fT ⟨_,_,_,_,rfl,h.set h.mem ⟨⟨show(0:Int)<=3 by decide,show(3:Int)<=4 by decide⟩,hok.len,hok.regs,hok.pc,hok.count,hok.handler,hok.saved,hok.trap,hok.code⟩,by
  rcases hS with rfl|⟨_,hw,_⟩
  ·rw[List.map_set];unfold UP;rw[oIP rfl,oIN hc0,oIP rfl]
  ·cases hw⟩
 |false=>simp only[oCF];refine(T8 h hi hR hv hd hF hD (hS.imp id λ⟨a,_,b⟩=>⟨a,b⟩)).bind ?_;rintro _ ⟨cs',ls',ZY,rfl,hb,hst⟩;simp only[oNT,oCF];have htl':=hb.tlen;refine f9 λ_ _=>?_;refine f9 λ_ _=>?_;refine fT ⟨_,_,_,_,rfl,hb,?_⟩;rw[hst];unfold E8 UP;rw[oIN hc0,oIN (show ¬false=true by decide)];by_cases hm:sp=-1;rw[oIP hm,oIP hm];rw[oIN hm,oIN hm];rcases hS with hS|⟨_,_,j,rfl,_,tj,htj,h0⟩;exact absurd hS hm;rw[oTN];refine List.set_comm _ _ (λe=>?_);simp_all
theorem Th{n key:Int}{code:F_}{ss bs:M_}{dd:j_}{cs:C_}{ls:G_}{ts:J_}{i:Nat}{t v rg o sp:Int}{dat:D_}{w:Bool}(hp:kT code ss dd)(h:MOk n ss bs cs ls ts) (hn:n<=1099511627776)(hv:Pr ss (t,v,rg,o))(hd:dat.length<=16/\∀c∈dat,Pr ss c)(ZG:-1<=sp/\sp<=3){th:DTh}(Zs:ts[i]?=some th)(h3:th.1=3):Ok (oO code ss dd bs key cs ls ts (i:Int) t v rg o dat sp w) λr=>∃cs' ls' ZY b,r=(bs,key,cs',ls',ZY,b,())/\MOk n ss bs cs' ls' ZY/\ZY.map (·.1)=(ts.map (·.1)).set i 1:=by
 have Ys:=h.tlen;obtain⟨J',Zr⟩:=sg (key:=key) h.lay hv;unfold oO;rw[vF hp h hn,Es hp.sz hv hd ZG];simp only[oBS,oNT,oCF];have hil0:=(oGS Zs).1;have h1:¬(i:Int)<0:=by omega
 have h2:¬(i:Int)>=4:=by omega
 have hok:=h.thr th (f8 Zs);have hil:=(oGS Zs).1;have hg:fW ts i=some th:=Zs;obtain⟨c,hc0⟩:=gw th.2.1 0 (by have:=hok.len;omega);simp only[oDF h1,oDF h2,oCF,fZ,hg];simp only[bne_eq_false_iff_eq.2 h3,oCF,J',oBS,oBN,yp h,fZ,hg,show fW th.2.1 0=some c from hc0,gy Zs,gy hc0,is hil,qg hil];refine gV (by simp_all) λ_ _=>?_;refine gV (by simp_all) λ_ _=>?_;exact fT ⟨_,_,_,_,rfl,h.set h.mem ⟨⟨show(0:Int)<=1 by decide,show(1:Int)<=4 by decide⟩,by dsimp only;rw[oLS];exact hok.len,j7 hok.regs Zr,hok.pc,hok.count,hok.handler,hok.saved,hok.trap,hok.code⟩,by simp_all⟩
theorem NB{n key:Int}{ss bs:M_}{cs:C_}{ls:G_}{ts:J_}(h:MOk n ss bs cs ls ts)(i:Int):Ok (mZ bs key cs ls ts i) λr=>∃ZY b,r=(bs,key,cs,ls,ZY,b,())/\MOk n ss bs cs ls ZY/\∀(j:Nat) t',ZY[j]?=some t'->∃t,ts[j]?=some t/\t'.1=t.1:=by
 unfold mZ;rw[yp h];refine(Ta h i).bind ?_;rintro⟨b,_⟩ hb;refine fV (λZ'=>?_) λZ'=>?_;exact fT ⟨ts,false,rfl,h,λj t' e=>⟨t',e,rfl⟩⟩;have hb:=hb Z';have Ys:=h.tlen;have ⟨ZM,hb2,hb3⟩:=hb;refine jB ZM λj hj=>?_;subst hj;refine f9 λt ht=>?_;refine f9 λt1 Yl=>?_;refine f9 λt2 YT=>?_;refine f9 λt3 ht3=>?_;rw[ht]at Yl YT ht3;injection Yl with Yl
 injection YT with YT
 subst Yl YT;refine gV (by rw[oLM];omega) λt4 ht4=>?_;have hne:=hb3 t (by rw[oTN];exact ht);have hok:=h.thr t (f8 ht);rw[j6];refine fT ⟨_,_,rfl,h.thread ht ⟨hok.state,hok.len,hok.regs,⟨by have:=hok.handler;dsimp only;omega,hok.handler.2⟩,hok.count,hok.handler,⟨by have:=hok.pc;dsimp only;omega,hok.pc.2⟩,hok.trap,hok.code⟩,λu t' e=>?_⟩;rw[oGM]at e;cases hu:ts[u]? with|none=>rw[hu]at e;split at e<;>cases e|some t0=>rw[hu]at e;refine⟨t0,rfl,?_⟩;split at e<;>(injection e with e;rw[<- e])
def U4(js:M_):Prop:=∀(u:Nat)(j:Int),js[u]?=some j->j≠u
theorem U4.set{js:M_}{i:Nat}{x:Int}(h:U4 js)(hx:x≠i):U4 (js.set i x):=by intro u j hj;rw[List.getElem?_set]at hj;split at hj;simp_all;exact h u j hj
def UZ(qs:j_)(ts:J_)(js:M_):Prop:=(∀x,InQ qs x->∃(i:Nat)(t:DTh),x=i/\ts[i]?=some t/\t.1=3/\js[i]?=some (-1))/\∀(i:Nat)(j:Int),js[i]?=some j->j≠-1->∃t,ts[i]?=some t/\t.1=3
structure kC (n:Int)(q:Nat)(code:F_)(ss:M_)(dt:j_)(bs:M_)(cs:C_)(ls:G_)(ts:J_)(ck rn:M_)(ins:j_)(d:i_)(os:H_)(us:I_)(ow:M_)(qs:j_)(rec:E_)(js:M_):Prop where
 prog:kT code ss dt
 mach:MOk n ss bs cs ls ts
 outs:wi ss ck rn ins d os us
 lock:kL ow qs
 rlen:rec.length<=q
 jlen:js.length=4
 jne:U4 js
 xq:UZ qs ts js
 xx:Dm qs
def WR(n key:Int)(q:Nat)(code:F_)(ss:M_)(dt:j_)(bs:M_)(r:F_×v_×g_×v_×Int×C_×G_×J_×v_×v_×g_×i_×H_×I_×v_×g_×E_×v_×Unit):Prop:=∃cs ls ts ck rn ins d os us ow qs rec js,r=(code,ss,dt,bs,key,cs,ls,ts,ck,rn,ins,d,os,us,ow,qs,rec,js,())/\kC n q code ss dt bs cs ls ts ck rn ins d os us ow qs rec js
theorem BQ{st:M_}{ZY:J_}{k:Nat}{x:Int}(e:ZY.map (·.1)=st)(h:st[k]?=some x):∃t',ZY[k]?=some t'/\t'.1=x:=by rw[<- e,oGP]at h;simp_all
theorem QT{ts:J_}{k:Nat}{t:DTh}(h:ts[k]?=some t):(ts.map (·.1))[k]?=some t.1:=by simp_all
theorem kC.woken{n:Int}{q:Nat}{code:F_}{ss:M_}{dt:j_}{bs:M_}{cs cs':C_}{ls ls':G_}{ts ZY:J_}{ck rn:M_}{ins:j_}{d:i_}{os:H_}{us:I_}{ow:M_}{qs:j_}{rec:E_}{js:M_}{i:Nat}{v:Int}{th:DTh} (h:kC n q code ss dt bs cs ls ts ck rn ins d os us ow qs rec js)(Zs:ts[i]?=some th)(h3:th.1=3)(hnq:¬InQ qs i)(hv:W16 v)(hM:MOk n ss bs cs' ls' ZY)(hst:ZY.map (·.1)=(ts.map (·.1)).set i 1):kC n (q+1) code ss dt bs cs' ls' ZY ck rn ins d os us ow qs (List.append rec [(4,(i:Int),0,0,0,0,0,0,0,[],[],0,v,0,0,[],-1,false)]) (js.set i (-1)):=by have Ys:=h.mach.tlen;have hil:=(oGS Zs).1;have keep:∀(k:Nat)(t:DTh),k≠i->ts[k]?=some t->∃t',ZY[k]?=some t'/\t'.1=t.1:=λk t hk ht=>BQ hst (by rw[List.getElem?_set_ne (Ne.symm hk)];exact QT ht);refine⟨h.prog,hM,h.outs,h.lock,by have:=h.rlen;rw[it];simp;omega,by rw[oLS];exact h.jlen,h.jne.set (by omega),⟨λx hx=>?_,λk j hk hj=>?_⟩,h.xx⟩;obtain⟨k,t,rfl,hk,ht3,hj⟩:=h.xq.1 x hx;have hki:k≠i:=λe=>hnq (e▸hx);obtain⟨t',ZW,e⟩:=keep k t hki hk;exact⟨k,t',rfl,ZW,by rw[e,ht3],by rw[List.getElem?_set_ne (Ne.symm hki)];exact hj⟩;rcases rY hk with⟨_,e⟩|⟨hne,hk⟩;exact absurd e hj;obtain⟨t,ht,ht3⟩:=h.xq.2 k j hk hj;obtain⟨t',ZW,e⟩:=keep k t (Ne.symm hne) ht;simp_all
theorem NY{n:Int}{q:Nat}{code:F_}{ss:M_}{dt:j_}{bs:M_}{key:Int}{cs:C_}{ls:G_}{ts:J_}{ck rn:M_}{ins:j_}{d:i_}{os:H_}{us:I_}{ow:M_}{qs:j_}{rec:E_}{js:M_}{i:Nat}{v:Int}{th:DTh}(h:kC n q code ss dt bs cs ls ts ck rn ins d os us ow qs rec js)(hn:n<=1099511627776)(hq:q<=900)(hv:W16 v)(Zs:ts[i]?=some th)(h3:th.1=3)(hnq:¬InQ qs i)(hjs:js[i]?=some (-1)):Ok (q9 (i:Int) v code ss dt bs key cs ls ts ck rn ins d os us ow qs rec js) (WR n key (q+1) code ss dt bs):=by unfold q9;rw[gh (by have:=hv.1;omega) (by have:=hv.2;omega)];have ⟨v2,ev,R'⟩:=ic v true;simp[ev];refine(Th h.prog h.mach hn (i8 R') ⟨by decide,gD⟩ (by decide) Zs h3).bind ?_;rintro _ ⟨cs',ls',ZY,b,rfl,hM,hst⟩;have hr:=h.rlen;refine fU (gf (by simp;omega)) ?_;have hW:=h.woken Zs h3 hnq R' hM hst;rw[Fb hjs]at hW;exact fT ⟨_,_,_,_,_,_,_,_,_,_,_,_,_,rfl,hW⟩
theorem Lp{n:Int}{q:Nat}{code:F_}{ss:M_}{dt:j_}{bs:M_}{key:Int}{cs:C_}{ls:G_}{ts:J_}{ck rn:M_}{ins:j_}{d:i_}{os:H_}{us:I_}{ow:M_}{qs:j_}{rec:E_}{js:M_}{i:Nat}{v:Int}{th:DTh}(h:kC n q code ss dt bs cs ls ts ck rn ins d os us ow qs rec js)(hn:n<=1099511627776)(hq:q<=900)(hv:W16 v)(Zs:ts[i]?=some th)(h3:th.1=3)(hnq:¬InQ qs i):Ok (lS (i:Int) v code ss dt bs key cs ls ts ck rn ins d os us ow qs rec) λr=>∃cs' ls' ZY rec',r=(code,ss,dt,bs,key,cs',ls',ZY,ck,rn,ins,d,os,us,ow,qs,rec',())/\kC n (q+1) code ss dt bs cs' ls' ZY ck rn ins d os us ow qs rec' (js.set i (-1))/\ZY.map (·.1)=(ts.map (·.1)).set i 1:=by unfold lS;rw[gh (by have:=hv.1;omega) (by have:=hv.2;omega)];have ⟨v2,ev,R'⟩:=ic v true;simp[ev];refine(Th h.prog h.mach hn (i8 R') ⟨by decide,gD⟩ (by decide) Zs h3).bind ?_;rintro _ ⟨cs',ls',ZY,b,rfl,hM,hst⟩;have hr:=h.rlen;refine fU (gf (by simp;omega)) ?_;exact fT ⟨_,_,_,_,rfl,h.woken Zs h3 hnq R' hM hst,hst⟩
end Go.Proofs.YtabfnmgabblofaaGreat
