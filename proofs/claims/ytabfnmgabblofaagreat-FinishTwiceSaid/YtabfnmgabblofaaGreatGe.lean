/- Part of the proof; no condition. -/
import Derived.Test.YtabfnmgabblofaaGreatGd
import Derived.WalkKit
import Derived.WalkSpells
import Derived.Handy
import Derived.OpenShut
set_option linter.unusedVariables false
set_option linter.unusedSimpArgs false
namespace Go.Proofs.YtabfnmgabblofaaGreat
open Go.RowKit
set_option maxRecDepth 100000
noncomputable section
def ml:T1n->Option (T1n⊕((Int×Unit)⊕T1F)):=λ(v0,v1,v2,v3,v4,v5,_)=>bif(decide (v2<v1))then((gj v2).bind λx0=>
(fT v0 x0).bind λx1=>let x2:=fZ x1.length;
(gj v2).bind λx3=>
(fT v4 x3).bind λx4=>bif(decide (x2>x4))then(some (.inr (.inl (1,()))))else let x5:=w64 (v2+1);some (.inl (v0,v1,x5,v3,v4,v5,())))else some (.inr (.inr (v0,v1,v2,false,v3,v4,v5,())))
def mj:T1B->Option (T1B⊕((Int×Unit)⊕T1S)):=λ(v0,v1,v2,v3,v4,v5,v6,_)=>bif(decide (v3<v2))then((match((gj v3).bind λx0=>
(fT v1 x0).bind λx1=>
(pA x1.1 x1.2.1 x1.2.2.1 x1.2.2.2.1 x1.2.2.2.2).bind λ(x2,_)=>bif(!x2)then(some (.inl (5,())))else
((nq x1.1).bind λ(x3,_)=>bif x3 then(let x4:Int:=(fZ v4.length);bif(decide (x1.2.2.2.2>=x4))then(some (v0,v1,v2,v3,true,v4,v5,v6,()))else bif(x1.1==15)then(let x5:Int:=(fZ v5.length);some (v0,v1,v2,v3,(decide (x1.2.2.2.2>=x5)),v4,v5,v6,()))else some (v0,v1,v2,v3,false,v4,v5,v6,()))else bif(x1.1==15)then(let x4:Int:=(fZ v5.length);some (v0,v1,v2,v3,(decide (x1.2.2.2.2>=x4)),v4,v5,v6,()))else some (v0,v1,v2,v3,false,v4,v5,v6,()):Option (T1S)).bind λ(x3,x4,x5,x6,x7,x8)=>bif x7 then(some (.inr (6,x4,x5,x6,x8)))else some (.inr (x3,x4,x5,x6,x8)):Option ((Int×Unit)⊕T1B))with
|none=>none
|some (.inl (x0,_))=>some (.inr (.inl (x0,())))
|some (.inr (x0,x1,x2,x3,x4,x5,x6,_))=>let x7:=w64 (x3+1);some (.inl (x0,x1,x2,x7,x4,x5,x6,()))))else some (.inr (.inr (v0,v1,v2,v3,false,v4,v5,v6,())))
def sG(a0:LDIn)(a1:LI)(a2:LLI):h_:=
(lG a1).bind λ(x0,_)=>bif(!x0)then(some (1,()))else let x1:=fZ a2.length;let x2:=fZ a1.length;bif(x1 != x2)then(some (1,()))else let x3:=fZ a2.length;
(match gc ml NN (a2,x3,0,a0,a1,a2,())with
|none=>none
|some (.inl (x4,_))=>some (x4,())
|some (.inr (_,_,_,_,x8,x9))=>let ae:=fZ x8.length;bif(ae==0)then(some (3,()))else let af:=fZ x8.length;bif(decide (af>64))then(some (3,()))else let ag:=fZ x8.length;
(match gc mj NN (0,x8,ag,0,x8,x9)with
|none=>none
|some (.inl (ah,_))=>some (ah,())
|some (.inr (ah,_))=>some (ah,())))
def GE:X.Cfg:=⟨E0,[rK,yG,tw],[],[⟨6,0,qS (zaa 1::sP 22 (yaa RW)::il [23,24]) Uam,[(.ret,qS yau []),(.exit 0,qS [zaa 1,sP 22 (yaa RW),Uaa 23,Uaa 24,Xaa 25] Uam)]⟩,⟨27,1,qE,[(.normal,qS [zaa 1,Uaa 5,sP 49 gP,Uaa 50,Uaa 51,Xaa 81] Uam)]⟩,⟨22,2,qE,[(.ret,qS yau []),(.normal,qS yaz Uam)]⟩,⟨19,3,qS yaz Uam,[(.ret,qS yau []),(.exit 2,qS [zaa 1,Uaa 5,sP 49 gP,Uaa 50,Uaa 51,Xaa 52] Uam)]⟩]⟩
def yK:Ctr:=⟨109,128,[.agg uab],[],[⟨zac,[.one],[]⟩],ap3 sG⟩
theorem FH:Lk 4 yK:=ls GE (aC wi (aC FD (aC xU aN)))
def ni(a0:LDIn)(a1:LI)(a2:LLI):h_:=
(sG a0 a1 a2).bind λ(x0,_)=>some (x0,())
def Co:X.Cfg:=⟨E0,[yK],[],[]⟩
def ve:Ctr:=⟨81,129,[.agg uab],[],[⟨zac,[.one],[]⟩],ap3 ni⟩
theorem B5:Lk 5 ve:=ls Co (aC FH aN)
def lr:T2o->Option (T2o⊕((Bool×Unit)⊕T2z)):=λ(v0,v1,v2,v3,v4,v5,v6,v7,v8,v9,_)=>bif(decide (v7<v6))then((match((gj v7).bind λx0=>
(fT v8 x0).bind λx1=>
(gj v7).bind λx2=>
(fT v0 x2).bind λx3=>let x4:=w64 (x1+x3);bif(decide (v2<=x4))then((gj v7).bind λx5=>
(fT v8 x5).bind λx6=>
(gj v1).bind λx7=>
(fT v0 x7).bind λx8=>let x9:=w64 (v2+x8);bif(decide (x6<=x9))then(some (.inl (false,())))else some (.inr (v0,v1,v2,v3,v4,v5,v6,v7,false,v8,v9,())))else some (.inr (v0,v1,v2,v3,v4,v5,v6,v7,false,v8,v9,())):Option ((Bool×Unit)⊕T2z))with
|none=>none
|some (.inl (x0,_))=>some (.inr (.inl (x0,())))
|some (.inr (x0,x1,x2,x3,x4,x5,x6,x7,_,x9,ac,_))=>let ae:=w64 (x7+1);some (.inl (x0,x1,x2,x3,x4,x5,x6,ae,x9,ac,()))))else some (.inr (.inr (v0,v1,v2,v3,v4,v5,v6,v7,false,v8,v9,())))
def lq:T1j->Option (T1j⊕((Bool×Unit)⊕(LI×T1h))):=λ(v0,v1,v2,v3,v4)=>bif(decide (v3<v2))then((gj v3).bind λx0=>
(fT v1 x0).bind λx1=>
(bif(decide (x1<0))then(some (v0,v3,x1,v1,v2,v3,true,v4))else bif(decide (x1>=512))then(some (v0,v3,x1,v1,v2,v3,true,v4))else
(gj v3).bind λx2=>
(fT v0 x2).bind λx3=>let x4:=w64 (x1+x3);some (v0,v3,x1,v1,v2,v3,(decide (x4>512)),v4):Option (T29)).bind λ(x2,x3,x4,x5,x6,x7,x8,x9)=>bif x8 then(some (.inr (.inl (false,()))))else
(match gc lr NN (x2,x3,x4,x5,x6,x7,x3,0,x9)with
|none=>none
|some (.inl (ae,_))=>some (.inr (.inl (ae,())))
|some (.inr (ae,_,_,ah,ai,aj,_,_,_,ap))=>let av:=w64 (aj+1);some (.inl (ae,ah,ai,av,ap))))else some (.inr (.inr (v0,v1,v2,v3,false,v4)))
def oj(a0:LI)(a1:Int)(a2:LI):f_:=
(lG a2).bind λ(x0,_)=>bif(!x0)then(some (false,()))else let x1:=fZ a0.length;let x2:=fZ a2.length;bif(x1 != x2)then(some (false,()))else let x3:=fZ a0.length;
(match gc lq NN (a2,a0,x3,0,a0,a1,())with
|none=>none
|some (.inl (x4,_))=>some (x4,())
|some (.inr (_,_))=>some (true,()))
def DR:X.Cfg:=⟨E0,[rK],[],[⟨12,0,qE,[(.normal,qS [sP 1 RI,zaa 2,Uaa 5,Uaa 6,sP 20 RI,Uaa 21,Uaa 22,Xaa 41] Xam)]⟩,⟨18,1,qE,[(.ret,qS Zat []),(.normal,qS (sP 1 RI::zaa 2::il [5,6]++sP 20 RI::il [21,22,42,43]++[Xaa 71]) Xam)]⟩,⟨15,2,qS (sP 1 RI::zaa 2::il [5,6]++sP 20 RI::il [21,22,42,43]) Xam,[(.ret,qS Zat []),(.exit 2,qS (sP 1 RI::zaa 2::il [5,6]++sP 20 RI::il [21,22,42,43]++[Xaa 44]) Xam)]⟩,⟨6,3,qS [sP 1 RI,zaa 2,sP 20 RI,Uaa 21,Uaa 22] Xam,[(.ret,qS Zat []),(.exit 0,qS [sP 1 RI,zaa 2,sP 20 RI,Uaa 21,Uaa 22,Xaa 23] Xam)]⟩]⟩
def wG:Ctr:=⟨82,130,[.agg Uab,shU RI],[],[⟨zab,[.one],[]⟩],ap3 oj⟩
theorem Dq:Lk 2 wG:=ls DR (aC wi aN)
def qM(a0 a1:Int):f_:=some ((decide (a0<=2)),())
def Iq:X.Cfg:=⟨E0,[],[],[]⟩
def uK:Ctr:=⟨117,131,[.agg Xab],[],[⟨zab,[.one],[]⟩],ap2 qM⟩
theorem zO:Lk 1 uK:=ls Iq aN
def oY(a0 a1:Int):f_:=
(qM a0 a1).bind λ(x0,_)=>some ((!x0),())
def AZ:X.Cfg:=⟨E0,[uK],[],[]⟩
def tP:Ctr:=⟨141,132,[.agg Xab],[],[⟨zab,[.one],[]⟩],ap2 oY⟩
theorem AU:Lk 2 tP:=ls AZ (aC zO aN)
def iA:T0j->Option (T0j⊕((Int×Unit)⊕T0B)):=λ(v0,v1,v2,_)=>bif(decide (v2<v1))then((gj v2).bind λx0=>
(fT v0 x0).bind λx1=>
(oY x1.1 x1.2).bind λ(x2,_)=>bif x2 then(some (.inr (.inl (v2,()))))else let x3:=w64 (v2+1);some (.inl (v0,v1,x3,())))else some (.inr (.inr (v0,v1,v2,false,())))
def jO(a0:LDCe):h_:=let x0:=fZ a0.length;
(match gc iA NN (a0,x0,0,())with
|none=>none
|some (.inl (x1,_))=>some (x1,())
|some (.inr (_,_))=>some ((-1),()))
def sU:X.Cfg:=⟨E0,[tP],[],[⟨3,0,(qS (sP 0 gT::(1,.fn 141 [])::il [7,8]) []),[(.ret,qS [Uaa 4] []),(.exit 0,(qS [sP 0 gT,(1,.fn 141 []),Uaa 7,Uaa 8,Xaa 9] []))]⟩]⟩
def nE:Ctr:=⟨142,133,[shU gT,.fn 141 []],[],[⟨zac,[.one],[]⟩],ap1 jO⟩
theorem sM:Lk 3 nE:=ls sU (aC AU aN)
def hJ(a0:LDCe):f_:=
(jO a0).bind λ(x0,_)=>some ((decide (x0>=0)),())
def qI:X.Cfg:=⟨E0,[nE],[],[]⟩
def lz:Ctr:=⟨115,134,[shU gT,.fn 141 []],[],[⟨zab,[.one],[]⟩],ap1 hJ⟩
theorem qH:Lk 4 lz:=ls qI (aC sM aN)
def lK(a0:LDCe)(a1:Int):f_:=let x0:=fZ a0.length;bif(x0==a1)then((hJ a0).bind λ(x1,_)=>some ((!x1),()))else some (false,())
def DP:X.Cfg:=⟨E0,[lz],[],[]⟩
def rM:Ctr:=⟨111,135,uL [gT,I64],[],[⟨zab,[.one],[]⟩],ap2 lK⟩
theorem wm:Lk 5 rM:=ls DP (aC qH aN)
def sE(a0 a1:Int)(a2:Bool)(a3:LDCe):f_:=bif(a1==(-1))then(bif(!a2)then(let x0:Int:=(fZ a3.length);some ((x0==0),()))else some (false,()))else bif(decide (a1>=0))then(bif(decide (a1<128))then(let x0:Int:=(Int.tmod a1 4);bif(x0==a0)then((lK a3 4).bind λ(x1,_)=>some (x1,()))else some (false,()))else some (false,()))else some (false,())
def Gt:X.Cfg:=⟨E0,[rM],[],[]⟩
def yA:Ctr:=⟨112,136,[shU I64,.agg (uL [I64,.bool,gT])],[],[⟨zab,[.one],[]⟩],ap4 sE⟩
theorem Fw:Lk 6 yA:=ls Gt (aC wm aN)
def lp:T0W->Option (T0W⊕((Bool×Unit)⊕T1g)):=λ(v0,v1,v2,v3)=>bif(decide (v2<v1))then((gj v2).bind λx0=>
(fT v0 x0).bind λx1=>
(sE v2 x1.1 x1.2.1 x1.2.2).bind λ(x2,_)=>bif(!x2)then(some (.inr (.inl (false,()))))else let x3:=w64 (v2+1);some (.inl (v0,v1,x3,v3)))else some (.inr (.inr (v0,v1,v2,false,v3)))
def oi(a0:LDCe)(a1:LDLn):f_:=
(lK a0 512).bind λ(x0,_)=>bif(!x0)then(some (false,()))else let x1:=fZ a1.length;bif(x1 != 4)then(some (false,()))else let x2:=fZ a1.length;
(match gc lp NN (a1,x2,0,a0,a1,())with
|none=>none
|some (.inl (x3,_))=>some (x3,())
|some (.inr (_,_))=>some (true,()))
def DQ:X.Cfg:=⟨E0,[rM,yA],[],[⟨6,0,qS (sP 16 iC::il [17,18]) uan,[(.ret,qS uau []),(.exit 0,qS [sP 16 iC,Uaa 17,Uaa 18,Xaa 19] uan)]⟩]⟩
def wF:Ctr:=⟨83,137,[.agg yad],[],[⟨zab,[.one],[]⟩],ap2 oi⟩
theorem Dp:Lk 7 wF:=ls DQ (aC wm (aC Fw aN))
def ic(a0 a1 a2:Int):f_:=bif(decide (a0>=a1))then(some ((decide (a0<=a2)),()))else some (false,())
def AX:X.Cfg:=⟨E0,[],[],[]⟩
def tN:Ctr:=⟨114,138,zak,[],[⟨zab,[.one],[]⟩],ap3 ic⟩
theorem AS:Lk 1 tN:=ls AX aN
def tF(a0 a1:Int):f_:=
(qM a0 a1).bind λ(x0,_)=>some ((!x0),())
def AW:X.Cfg:=⟨E0,[uK],[],[]⟩
def tM:Ctr:=⟨116,139,[.agg Xab],[],[⟨zab,[.one],[]⟩],ap2 tF⟩
theorem AR:Lk 2 tM:=ls AW (aC zO aN)
def o9:T0j->Option (T0j⊕((Int×Unit)⊕T0B)):=λ(v0,v1,v2,_)=>bif(decide (v2<v1))then((gj v2).bind λx0=>
(fT v0 x0).bind λx1=>
(tF x1.1 x1.2).bind λ(x2,_)=>bif x2 then(some (.inr (.inl (v2,()))))else let x3:=w64 (v2+1);some (.inl (v0,v1,x3,())))else some (.inr (.inr (v0,v1,v2,false,())))
def lF(a0:LDCe):h_:=let x0:=fZ a0.length;
(match gc o9 NN (a0,x0,0,())with
|none=>none
|some (.inl (x1,_))=>some (x1,())
|some (.inr (_,_))=>some ((-1),()))
def rH:X.Cfg:=⟨E0,[tM],[],[⟨3,0,(qS (sP 0 gT::(1,.fn 116 [])::il [7,8]) []),[(.ret,qS [Uaa 4] []),(.exit 0,(qS [sP 0 gT,(1,.fn 116 []),Uaa 7,Uaa 8,Xaa 9] []))]⟩]⟩
def lQ:Ctr:=⟨142,140,[shU gT,.fn 116 []],[],[⟨zac,[.one],[]⟩],ap1 lF⟩
theorem rF:Lk 3 lQ:=ls rH (aC AR aN)
def iT(a0:LDCe):f_:=
(lF a0).bind λ(x0,_)=>some ((decide (x0>=0)),())
def pQ:X.Cfg:=⟨E0,[lQ],[],[]⟩
def kF:Ctr:=⟨115,141,[shU gT,.fn 116 []],[],[⟨zab,[.one],[]⟩],ap1 iT⟩
theorem pJ:Lk 4 kF:=ls pQ (aC rF aN)
def oa(a0:Int)(a1:LDCe)(a2 a3 a4 a5 a6 a7:Int):f_:=
(ic a0 0 4).bind λ(x0,_)=>bif x0 then(let x1:Int:=(fZ a1.length);bif(x1==8)then((iT a1).bind λ(x2,_)=>bif(!x2)then((ic a2 0 255).bind λ(x3,_)=>bif x3 then((ic a3 0 1099511627776).bind λ(x4,_)=>bif x4 then((ic a4 (-1) 255).bind λ(x5,_)=>bif x5 then((ic a5 (-1) 255).bind λ(x6,_)=>bif x6 then((ic a6 0 6).bind λ(x7,_)=>some (x7,()))else some (false,()))else some (false,()))else some (false,()))else some (false,()))else some (false,()))else some (false,()))else some (false,())
def Dy:X.Cfg:=⟨E0,[tN,kF],[],[]⟩
def wt:Ctr:=⟨86,142,[.agg Xad],[],[⟨zab,[.one],[]⟩],as1 (as2 (as4 ap1)) oa⟩
theorem De:Lk 5 wt:=ls Dy (aC AS (aC pJ aN))
def rz(a0:Int)(a1:LDCe)(a2 a3 a4 a5 a6 a7:Int):f_:=
(oa a0 a1 a2 a3 a4 a5 a6 a7).bind λ(x0,_)=>some ((!x0),())
def DA:X.Cfg:=⟨E0,[wt],[],[]⟩
def wv:Ctr:=⟨85,143,[.agg Xad],[],[⟨zab,[.one],[]⟩],as1 (as2 (as4 ap1)) rz⟩
theorem Dg:Lk 6 wv:=ls DA (aC De aN)
def io:T0n->Option (T0n⊕((Int×Unit)⊕(LDTh×T0e))):=λ(v0,v1,v2,_)=>bif(decide (v2<v1))then((gj v2).bind λx0=>
(fT v0 x0).bind λx1=>
(rz x1.1 x1.2.1 x1.2.2.1 x1.2.2.2.1 x1.2.2.2.2.1 x1.2.2.2.2.2.1 x1.2.2.2.2.2.2.1 x1.2.2.2.2.2.2.2).bind λ(x2,_)=>bif x2 then(some (.inr (.inl (v2,()))))else let x3:=w64 (v2+1);some (.inl (v0,v1,x3,())))else some (.inr (.inr (v0,v1,v2,false,())))
def jn(a0:LDTh):h_:=let x0:=fZ a0.length;
(match gc io NN (a0,x0,0,())with
|none=>none
|some (.inl (x1,_))=>some (x1,())
|some (.inr (_,_))=>some ((-1),()))
def rG:X.Cfg:=⟨E0,[wv],[],[⟨3,0,(qS (sP 0 mn::(1,.fn 85 [])::il [7,8]) []),[(.ret,qS [Uaa 4] []),(.exit 0,(qS [sP 0 mn,(1,.fn 85 []),Uaa 7,Uaa 8,Xaa 9] []))]⟩]⟩
def lP:Ctr:=⟨113,144,[shU mn,.fn 85 []],[],[⟨zac,[.one],[]⟩],ap1 jn⟩
theorem rE:Lk 7 lP:=ls rG (aC Dg aN)
def iS(a0:LDTh):f_:=
(jn a0).bind λ(x0,_)=>some ((decide (x0>=0)),())
def pO:X.Cfg:=⟨E0,[lP],[],[]⟩
def kE:Ctr:=⟨84,145,[shU mn,.fn 85 []],[],[⟨zab,[.one],[]⟩],ap1 iS⟩
theorem pI:Lk 8 kE:=ls pO (aC rE aN)
def oC(a0:LDIn)(a1:LI)(a2:LLI)(a3:LI)(a4:Int)(a5:LDCe)(a6:LDLn)(a7:LDTh):f_:=
(ni a0 a1 a2).bind λ(x0,_)=>bif(x0==0)then((oj a3 a4 a1).bind λ(x1,_)=>bif x1 then((oi a5 a6).bind λ(x2,_)=>bif x2 then(let x3:Int:=(fZ a7.length);bif(x3==4)then((iS a7).bind λ(x4,_)=>some ((!x4),()))else some (false,()))else some (false,()))else some (false,()))else some (false,())
def Iu:X.Cfg:=⟨E0,[ve,wG,wF,kE],[],[]⟩
def uM:Ctr:=⟨52,146,[.agg uab,.agg yac],[],[⟨zab,[.one],[]⟩],as1 (as2 (as4 ap1)) oC⟩
theorem zP:Lk 9 uM:=ls Iu (aC B5 (aC Dq (aC Dp (aC pI aN))))
def ij(a0 a1 a2:Int):f_:=bif(decide (a0>=a1))then(some ((decide (a0<=a2)),()))else some (false,())
def zt:X.Cfg:=⟨E0,[],[],[]⟩
def sb:Ctr:=⟨101,147,zak,[],[⟨zab,[.one],[]⟩],ap3 ij⟩
theorem zp:Lk 1 sb:=ls zt aN
def ko(a0 a1 a2 a3:Int):f_:=bif(a0==0)then(bif(a2==0)then(some ((a3==0),()))else some (false,()))else bif(a0==2)then(bif(a2==0)then(some ((a3==0),()))else some (false,()))else bif(a0==1)then((bif(a2==(-1))then(bif(decide (a3>=0))then(some ((decide (a3<=65535)),a0,a1,a2,a3,()))else some (false,a0,a1,a2,a3,()))else some (false,a0,a1,a2,a3,()):Option (T0N)).bind λ(x0,_,x2,x3,x4,_)=>bif(x2==0)then(bif x0 then(some (true,()))else bif(decide (x3>=0))then(bif(decide (x3<4))then(bif(decide (x4>=0))then(some ((decide (x4<32)),()))else some (false,()))else some (false,()))else some (false,()))else some (false,()))else some (false,())
def DB:X.Cfg:=⟨E0,[],[],[⟨7,0,qE,[(.normal,qS [zaa 1,Xaa 3] [(4,yag)])]⟩]⟩
def rJ:Ctr:=⟨87,148,[.agg yag],[],[⟨zab,[.one],[]⟩],ap4 ko⟩
theorem wh:Lk 1 rJ:=ls DB aN
def nR(a0 a1 a2 a3:Int):f_:=
(ko a0 a1 a2 a3).bind λ(x0,_)=>some ((!x0),())
def zu:X.Cfg:=⟨E0,[rJ],[],[]⟩
def sc:Ctr:=⟨119,149,[.agg yag],[],[⟨zab,[.one],[]⟩],ap4 nR⟩
theorem zq:Lk 2 sc:=ls zu (aC wh aN)
def i3:T0l->Option (T0l⊕((Int×Unit)⊕(LDCn×T0e))):=λ(v0,v1,v2,_)=>bif(decide (v2<v1))then((gj v2).bind λx0=>
(fT v0 x0).bind λx1=>
(nR x1.1 x1.2.1 x1.2.2.1 x1.2.2.2).bind λ(x2,_)=>bif x2 then(some (.inr (.inl (v2,()))))else let x3:=w64 (v2+1);some (.inl (v0,v1,x3,())))else some (.inr (.inr (v0,v1,v2,false,())))
def iL(a0:LDCn):h_:=let x0:=fZ a0.length;
(match gc i3 NN (a0,x0,0,())with
|none=>none
|some (.inl (x1,_))=>some (x1,())
|some (.inr (_,_))=>some ((-1),()))
def r6:X.Cfg:=⟨E0,[sc],[],[⟨3,0,(qS (sP 0 gp::(1,.fn 119 [])::il [7,8]) []),[(.ret,qS [Uaa 4] []),(.exit 0,(qS [sP 0 gp,(1,.fn 119 []),Uaa 7,Uaa 8,Xaa 9] []))]⟩]⟩
def mE:Ctr:=⟨143,150,[shU gp,.fn 119 []],[],[⟨zac,[.one],[]⟩],ap1 iL⟩
theorem rY:Lk 3 mE:=ls r6 (aC zq aN)
def i4(a0:LDCn):f_:=
(iL a0).bind λ(x0,_)=>some ((decide (x0>=0)),())
def qo:X.Cfg:=⟨E0,[mE],[],[]⟩
def lb:Ctr:=⟨118,151,[shU gp,.fn 119 []],[],[⟨zab,[.one],[]⟩],ap1 i4⟩
theorem qn:Lk 4 lb:=ls qo (aC rY aN)
def jv(a0:LDCn)(a1:Int):f_:=let x0:=fZ a0.length;bif(decide (x0<=a1))then((i4 a0).bind λ(x1,_)=>some ((!x1),()))else some (false,())
def Cd:X.Cfg:=⟨E0,[lb],[],[]⟩
def qy:Ctr:=⟨88,152,uL [gp,I64],[],[⟨zab,[.one],[]⟩],ap2 jv⟩
theorem uy:Lk 5 qy:=ls Cd (aC qn aN)
def mJ(a0 a1 a2 a3 a4 a5:Int)(a6 a7:LDCn):f_:=
(ij a0 0 3).bind λ(x0,_)=>bif x0 then((ij a1 0 3).bind λ(x1,_)=>bif x1 then((ij a2 0 6).bind λ(x2,_)=>bif x2 then((ij a3 0 1099511627776).bind λ(x3,_)=>bif x3 then((ij a4 0 255).bind λ(x4,_)=>bif x4 then((ij a5 0 15).bind λ(x5,_)=>bif x5 then((jv a6 3).bind λ(x6,_)=>bif x6 then((jv a7 16).bind λ(x7,_)=>some (x7,()))else some (false,()))else some (false,()))else some (false,()))else some (false,()))else some (false,()))else some (false,()))else some (false,())
def Cc:X.Cfg:=⟨E0,[sb,qy],[],[]⟩
def uN:Ctr:=⟨65,153,[.agg Uac],[],[⟨zab,[.one],[]⟩],as1 (as2 (as4 ap1)) mJ⟩
theorem BR:Lk 6 uN:=ls Cc (aC zp (aC uy aN))
def qa(a0:Int):Option (ByteArray×T01):=let x0:ByteArray:=(bytes []);
(bif(a0==0)then(some (a0,true,()))else bif(a0==8)then(some (a0,true,()))else bif(a0==9)then(some (a0,true,()))else bif(a0==11)then(some (a0,true,()))else some (a0,(a0==12),()):Option (T01)).bind λ(x1,x2,_)=>bif x2 then(let x3:ByteArray:=(bytes [78]);some (x3,0,true,()))else bif(x1==1)then(let x3:ByteArray:=(bytes [72,80,78]);some (x3,1,true,()))else bif(x1==2)then(let x3:ByteArray:=(bytes [72,80,78]);some (x3,2,true,()))else bif(x1==3)then(let x3:ByteArray:=(bytes [78,78]);some (x3,0,true,()))else bif(x1==4)then(let x3:ByteArray:=(bytes [72]);some (x3,0,true,()))else bif(x1==5)then(let x3:ByteArray:=(bytes [72,78]);some (x3,0,true,()))else
(bif(x1==6)then(some (x1,true,()))else bif(x1==7)then(some (x1,true,()))else some (x1,(x1==15),()):Option (T01)).bind λ(x3,x4,_)=>bif x4 then(let x5:ByteArray:=(bytes []);some (x5,0,true,()))else bif(x3==10)then(let x5:ByteArray:=(bytes [78,88]);some (x5,0,true,()))else bif(x3==13)then(let x5:ByteArray:=(bytes [78,80,78]);some (x5,1,true,()))else bif(x3==14)then(let x5:ByteArray:=(bytes [78,80,78]);some (x5,2,true,()))else let x5:ByteArray:=(bytes []);some (x5,0,false,())
def Cb:X.Cfg:=⟨E0,[],[],[⟨3,0,qE,[(.normal,qS [Uaa 5,Xaa 6] [])]⟩,⟨19,1,qE,[(.normal,qS [Uaa 5,Xaa 22] [])]⟩]⟩
def qx:Ctr:=⟨102,154,zac,[],[⟨uL [.str,I64,.bool],[.one,.one,.one],[]⟩],ap1 qa⟩
theorem ux:Lk 1 qx:=ls Cb aN
def mo(a0:Int):h_:=
(qa a0).bind λ(x0,_,x2,_)=>bif(!x2)then(some ((-1),()))else let x3:=By x0;some (x3,())
def w9:X.Cfg:=⟨E0,[qx],[],[]⟩
def qz:Ctr:=⟨66,155,zac,[],[⟨zac,[.one],[]⟩],ap1 mo⟩
theorem wX:Lk 2 qz:=ls w9 (aC ux aN)
def lL(a0 a1 a2 a3:Int)(a4:LDCn)(a5:Int)(a6:Bool):f_:=
(ko a0 a1 a2 a3).bind λ(x0,_)=>bif x0 then((jv a4 16).bind λ(x1,_)=>bif x1 then(bif(decide (a5>=(-1)))then(some ((decide (a5<4)),()))else some (false,()))else some (false,()))else some (false,())
def DU:X.Cfg:=⟨E0,[rJ,qy],[],[]⟩
def rN:Ctr:=⟨53,156,[.agg uad],[],[⟨zab,[.one],[]⟩],as2 (as4 ap1) lL⟩
theorem wn:Lk 6 rN:=ls DU (aC wh (aC uy aN))
def pB(a0:LDIn)(a1:LI)(a2:LLI)(a3:LI)(a4:Int)(a5:LDCe)(a6:LDLn)(a7:LDTh)(a8 a9 ek eu eF eH:Int)(eJ eM:LDCn)(eQ eU eW eY:Int)(fa:LDCn)(fe:Int)(fh:Bool):f_:=
(oC a0 a1 a2 a3 a4 a5 a6 a7).bind λ(x0,_)=>bif x0 then((mJ a8 a9 ek eu eF eH eJ eM).bind λ(x1,_)=>bif x1 then(bif(a9==1)then(let x2:Int:=(fZ eJ.length);
(mo eH).bind λ(x3,_)=>bif(x2==x3)then((lL eQ eU eW eY fa fe fh).bind λ(x4,_)=>bif x4 then((gj a8).bind λx5=>
(fT a7 x5).bind λx6=>some ((x6.1==2),()))else some (false,()))else some (false,()))else some (false,()))else some (false,()))else some (false,())
def GB:X.Cfg:=⟨E0,[uM,uN,qz,rN],[],[]⟩
def yH:Ctr:=⟨39,157,[.agg uab,.agg yac,.agg Uac,.agg uad],[],[⟨zab,[.one],[]⟩],as2 (as4 (as8 (as8 ap1))) pB⟩
theorem FE:Lk 10 yH:=ls GB (aC zP (aC BR (aC wX (aC wn aN))))
def kz(a0:LI):Option (LI×Unit):=bif(gk 8 0 a0.length)then let x0:v_:=(List.append [] a0);some (x0,())else none
def xX:X.Cfg:=⟨E0,[],[],[]⟩
def rq:Ctr:=⟨103,158,yai,[],[⟨uaf,[.one],[]⟩],ap1 kz⟩
theorem xK:Lk 1 rq:=ls xX aN
def sF(a0:LI)(a1:Int):Option (T07):=
(kz a0).bind λ(x0,_)=>some (x0,a1,())
def Gx:X.Cfg:=⟨E0,[rq],[],[]⟩
def yE:Ctr:=⟨67,159,[.agg Uab],[],[⟨Zaj,[.agg 2],[]⟩],ap2 sF⟩
theorem FB:Lk 2 yE:=ls Gx (aC xK aN)
def ig(a0:LDCe):Option (LDCe×Unit):=bif(gk 4 0 a0.length)then let x0:LDCe:=(List.append [] a0);some (x0,())else none
def w8:X.Cfg:=⟨E0,[],[],[]⟩
def jY:Ctr:=⟨69,160,uL [gT],[],[⟨uL [(uaa KCe)],[.one],[]⟩],ap1 ig⟩
theorem ms:Lk 1 jY:=ls w8 aN
def jP(a0:LDLn):Option (LDLn×Unit):=bif(gk 40 0 a0.length)then let x0:LDLn:=(List.append [] a0);some (x0,())else none
def w7:X.Cfg:=⟨E0,[],[(5,Su),(7,Su)],[]⟩
def qw:Ctr:=⟨104,161,uL [iC],[],[⟨uL [(uaa WF)],[.one],[]⟩],ap1 jP⟩
theorem wW:Lk 1 qw:=ls w7 aN
def mi:T1z->Option (T1z⊕(Int×Int×Bool×T11)):=λ(v0,v1,v2,v3,v4,v5,v6,_)=>bif(decide (v1<v0))then((gj v1).bind λx0=>
(fT v5 x0).bind λ_=>bif(iQ v6 x0 x0)then(fT v5 x0).bind λx2=>
(ig x2.2.2).bind λ(x3,_)=>
(gj v1).bind λx4=>
(fT v5 x4).bind λ_=>
(fT v5 x4).bind λ_=>bif(Nat.beq x4 v6)then let x7:Int:=(w64 (v1+1));some (.inl (v0,x7,v2,v3,v4,(v5.modify x4 λe=>(e.1,(e.2.1,x3))),(Nat.add v6 1),()))else none else none)else some (.inr (v0,v1,false,v2,v3,v4,v5,v6,()))
def px(a0:LDCe)(a1:LDLn):Option (T05):=
(ig a0).bind λ(x0,_)=>
(jP a1).bind λ(x1,_)=>let x2:=fZ x1.length;
(gc mi NN (x2,0,(),(),x0,x1,0,())).bind λ(_,_,_,_,_,x8,x9,ac,_)=>bif(Nat.beq ac x9.length)then some (x8,x9,())else none
def Gu:X.Cfg:=⟨E0,[jY,qw],[],[(lx 4 0 (zl [2,3]++(14,.pk ⟨8,1,[]⟩ [0,0])::il [15,16]) [(6,uac),(8,[shU (uaa KCe),.half Su () ()])] 17)]⟩
def yB:Ctr:=⟨68,162,[.agg yad],[],[⟨Uad,[.agg 2],[]⟩],ap2 px⟩
theorem Fy:Lk 2 yB:=ls Gu (aC ms (aC wW aN))
def jD:T37->Option (T37⊕T3e):=λ(v0,v1,v2,v3,v4,v5,v6,v7,v8,v9,eq,eE,eG,eI,eK,eO,eS,eV,_)=>bif(decide (v2<v1))then((gj v2).bind λx0=>
(fT v0 x0).bind λx1=>
(ig x1.2.1).bind λ(x2,_)=>let x3:LDTh:=[(x1.1,(x2,(x1.2.2.1,(x1.2.2.2.1,(x1.2.2.2.2.1,(x1.2.2.2.2.2.1,(x1.2.2.2.2.2.2.1,x1.2.2.2.2.2.2.2)))))))];bif(gk 80 eV.length x3.length)then let x4:LDTh:=(List.append eV x3);let x5:=w64 (v2+1);some (.inl (v0,v1,x5,v3,v4,v5,v6,v7,v8,v9,eq,eE,eG,eI,eK,eO,eS,x4,()))else none)else some (.inr (v0,v1,v2,false,v3,v4,v5,v6,v7,v8,v9,eq,eE,eG,eI,eK,eO,eS,eV,()))
def iG(a0:LI)(a1:Int)(a2:LDCe)(a3:LDLn)(a4:LDTh):Option (T0Y):=
(sF a0 a1).bind λ(x0,x1,_)=>
(px a2 a3).bind λ(x2,x3,_)=>let x4:=fZ a4.length;
(gc jD NN (a4,x4,0,a0,a1,a2,a3,a4,(),0,(),(),(),x0,x1,x2,x3,[],())).bind λ(_,_,_,_,_,_,_,_,_,_,_,_,_,_,an)=>some (an)
def DO:X.Cfg:=⟨E0,[yE,yB,jY],[(27,Ss),(28,Ss)],[(lx 4 0 (zl [2,3]++sP 14 mn::il [15,16]) [(4,yac),(6,Zab),(8,Uah)] 17)]⟩
def rL:Ctr:=⟨40,163,[.agg yac],[],[⟨Uah,[.agg 5],[]⟩],ap5 iG⟩
theorem wl:Lk 3 rL:=ls DO (aC FB (aC Fy (aC ms aN)))
def mI(a0:Int)(a1:LDCe)(a2 a3 a4 a5 a6 a7:Int):Option (T1R):=
(ig a1).bind λ(x0,_)=>some (a0,x0,a2,a3,a4,a5,a6,a7,())
def FO:X.Cfg:=⟨E0,[jY],[],[]⟩
def sY:Ctr:=⟨70,164,[.agg Xad],[],[⟨Uaf,[.agg 8],[]⟩],as1 (as2 (as4 ap1)) mI⟩
theorem xJ:Lk 2 sY:=ls FO (aC ms aN)
def ua(a0:Int)(a1:LDCe)(a2 a3 a4 a5 a6 a7 a8 a9:Int):Option (T1R):=
(mI a0 a1 a2 a3 a4 a5 a6 a7).bind λ(_,x1,x2,x3,x4,x5,_)=>some (4,x1,x2,x3,x4,x5,a8,a9,())
def It:X.Cfg:=⟨E0,[sY],[],[]⟩
def Al:Ctr:=⟨41,165,[.agg Xad,shU I64,shU CW],[],[⟨Uaf,[.agg 8],[]⟩],as1 (as8 ap1) ua⟩
theorem HY:Lk 3 Al:=ls It (aC xJ aN)
def mK(a0:LI)(a1 a2:Int):f_:=bif(decide (a1>=0))then(let x0:Int:=(fZ a0.length);bif(decide (a1<x0))then(bif(decide (a2>=0))then((gj a1).bind λx1=>
(fT a0 x1).bind λx2=>some ((decide (a2<x2)),()))else some (false,()))else some (false,()))else some (false,())
def Ce:X.Cfg:=⟨E0,[],[],[]⟩
def qA:Ctr:=⟨105,166,[shU RI,.agg Zac],[],[⟨zab,[.one],[]⟩],ap3 mK⟩
theorem uz:Lk 1 qA:=ls Ce aN
def qh(a0:LI)(a1 a2 a3 a4:Int):f_:=bif(a1==0)then(bif(a3==0)then(some ((a4==0),()))else some (false,()))else bif(a1==2)then(bif(a3==0)then(some ((a4==0),()))else some (false,()))else bif(a1==1)then(bif(a2==0)then((mK a0 a3 a4).bind λ(x0,_)=>some (x0,()))else some (false,()))else some (false,())
def Cp:X.Cfg:=⟨E0,[qA],[],[]⟩
def vf:Ctr:=⟨71,167,[shU RI,.agg yag],[],[⟨zab,[.one],[]⟩],ap5 qh⟩
theorem B6:Lk 2 vf:=ls Cp (aC uz aN)
def oZ(a0:LI)(a1:Int)(a2:LI)(a3 a4:Int):Option (T02):=
(mK a2 a3 a4).bind λ(x0,_)=>bif(!x0)then(some (0,6,()))else let x1:=fZ a0.length;bif(decide (a3>=x1))then(some (0,6,()))else
(gj a3).bind λx2=>
(fT a0 x2).bind λx3=>let x4:=w64 (x3+a4);some (x4,0,())
def A2:X.Cfg:=⟨E0,[qA],[],[]⟩
def tQ:Ctr:=⟨72,168,[.agg Uab,shU RI,.agg Zac],[],[⟨Zac,[.one,.one],[]⟩],ap5 oZ⟩
theorem AV:Lk 2 tQ:=ls A2 (aC uz aN)
def iX(a0:LI)(a1:Int)(a2:LI)(a3 a4 a5 a6:Int):Option (T0f):=
(qh a2 a3 a4 a5 a6).bind λ(x0,_)=>bif(!x0)then(some (0,0,1,()))else
(match(bif(a3==2)then(let x1:Int:=(wk .u16 (a4+a1));some (.inl (0,0,a3,x1,())))else bif(a3==1)then((oZ a0 a1 a2 a5 a6).bind λ(x1,x2,_)=>bif(x2 != 0)then(some (.inr (1,0,0,())))else let x3:=wk .u16 x1;some (.inl (0,0,a3,x3,())))else some (.inl (0,0,a3,a4,())):Option (T0w⊕T0f))with
|none=>none
|some (.inl (_,_,x3,x4,_))=>some (x3,x4,0,())
|some (.inr (x1,x2,x3,_))=>some (x2,x3,x1,()))
def I8:X.Cfg:=⟨E0,[vf,tQ],[],[⟨5,0,qE,[(.normal,qS (zl [6,8]) [(14,Xab),(18,Xab)]),(.ret,qS Uav [(14,Xab)])]⟩]⟩
def oP:Ctr:=⟨42,169,[.agg Uab,shU RI,.agg yag],[],[⟨zai,[.agg 2,.one],[]⟩],as2 (as4 ap1) iX⟩
theorem rk:Lk 3 oP:=ls I8 (aC B6 (aC AV aN))
def oS(a0:Int):h_:=
(qa a0).bind λ(_,x1,x2,_)=>bif(!x2)then(some ((-1),()))else some (x1,())
def AY:X.Cfg:=⟨E0,[qx],[],[]⟩
def tO:Ctr:=⟨73,170,zac,[],[⟨zac,[.one],[]⟩],ap1 oS⟩
theorem AT:Lk 2 tO:=ls AY (aC ux aN)
def oJ(a0:Int)(a1:LDCe)(a2:LDLn):Option (T0k):=
(gj a0).bind λx0=>
(fT a2 x0).bind λ_=>
(fT a2 x0).bind λx2=>
(fT a2 x0).bind λx3=>
(bif x2.2.1 then(bif(decide (x2.1>=0))then(let x4:Int:=(w64 (x2.1+1));let x5:=w64 (x4*4);let x6:=fZ a1.length;some ((decide (x5<=x6)),a1,a2,x0,x2.1,x2.2.1,x3.2.2,()))else some (false,a1,a2,x0,x2.1,x2.2.1,x3.2.2,()))else some (false,a1,a2,x0,x2.1,x2.2.1,x3.2.2,()):Option (Bool×LDCe×LDLn×Nat×Int×Bool×LDCe×Unit)).bind λ(x4,x5,x6,x7,x8,_,ac,_)=>bif x4 then(let ae:Int:=(w64 (x8*4));
(gj ae).bind λaf=>bif(iQ af x5.length x5.length)then bif(iQ af (Nat.add af (Nat.min ac.length (Nat.sub x5.length af))) x5.length)then bif(Nat.blt 0 (Nat.min ac.length (Nat.sub x5.length af)))then(let ag:LDCe:=(qi x5 af (Nat.min ac.length (Nat.sub x5.length af)) ac);let ah:=(fZ (Nat.min ac.length (Nat.sub x5.length af)));some (ag,x6,x7,()))else let ag:=(fZ (Nat.min ac.length (Nat.sub x5.length af)));some (x5,x6,x7,())else none else none)else some (x5,x6,x7,())
def I7:X.Cfg:=⟨E0,[],[],[⟨1,0,qE,[(.normal,(qS [zaa 0,zaa 4,Xaa 30] [(2,[shU (uaa KCe),.gap Su () () 2]),(10,uL [I64,.bool,(uaa KCe)])]))]⟩]⟩
def AF:Ctr:=⟨137,171,[.ptr ⟨2,0,[]⟩ [0],shU I64],[(2,Uad)],[⟨[],[],[(2,[shU (uaa KCe),.gap Su () () 2])]⟩],ap3 oJ⟩
theorem Il:Lk 1 AF:=ls I7 aN
def pz(a0:Int)(a1:LDCe)(a2:LDLn):Option (T0u⊕(Nat×T0u)):=
(bif(decide (a0<0))then(some (a0,true,a1,a2,()))else bif(decide (a0>=512))then(some (a0,true,a1,a2,()))else let x0:=fZ a1.length;bif(x0 != 512)then(some (a0,true,a1,a2,()))else let x1:=fZ a2.length;some (a0,(x1 != 4),a1,a2,()):Option (T0u)).bind λ(x0,x1,x2,x3,_)=>bif x1 then(some (.inl (0,false,x2,x3,())))else let x4:=w64 (Int.tdiv x0 4);let x5:=Int.tmod x4 4;
((gj x5).bind λx6=>
(fT x3 x6).bind λ_=>
(fT x3 x6).bind λx8=>bif(x8.1 != x4)then((oJ x5 x2 x3).bind λ(x9,ac,ae,_)=>let af:=w64 (x4*4);let ag:=w64 (x4+1);let ah:=w64 (ag*4);
(gj af).bind λai=>
(gj ah).bind λaj=>bif(iQ ai aj x9.length)then bif(gk 4 0 (List.length (nJ x9 ai (Nat.sub aj ai))))then let ak:LDCe:=(List.append [] (nJ x9 ai (Nat.sub aj ai)));
(gj x5).bind λam=>
(fT ac am).bind λ_=>
(fT ac am).bind λ_=>bif(Nat.beq am ae)then let aq:LDLn:=(ac.modify am λe=>(x4,(false,ak)));some (x0,x5,x9,aq,())else none else none else none)else
(gj x5).bind λx9=>
(fT x3 x9).bind λ_=>
(fT x3 x9).bind λ_=>
(fT x3 x9).bind λaf=>let ag:=fZ af.2.2.length;bif(ag != 4)then((oJ x5 x2 x3).bind λ(ah,ai,aj,_)=>let ak:=w64 (x4*4);let am:=w64 (x4+1);let an:=w64 (am*4);
(gj ak).bind λap=>
(gj an).bind λaq=>bif(iQ ap aq ah.length)then bif(gk 4 0 (List.length (nJ ah ap (Nat.sub aq ap))))then let av:LDCe:=(List.append [] (nJ ah ap (Nat.sub aq ap)));
(gj x5).bind λax=>
(fT ai ax).bind λ_=>
(fT ai ax).bind λ_=>bif(Nat.beq ax aj)then let aA:LDLn:=(ai.modify ax λe=>(x4,(false,av)));some (x0,x5,ah,aA,())else none else none else none)else some (x0,x5,x2,x3,()):Option (T0x)).bind λ(x6,x7,x8,x9,_)=>
(gj x7).bind λac=>
(fT x9 ac).bind λ_=>let af:=Int.tmod x6 4;some (.inr (ac,af,true,x8,x9,()))
def Gw:X.Cfg:=⟨E0,[AF],[],[⟨2,0,qE,[(.normal,qS [zaa 0,Uaa 1,Xaa 30] [(2,Uad)])]⟩,⟨6,1,qE,[(.normal,qS (zaa 0::il [1,8]) [(2,Uad)])]⟩]⟩
def yD:Ctr:=⟨106,172,[.ptr ⟨2,0,[]⟩ [0],shU I64],[(2,Uad)],[⟨[.k (.pointer none),shU I64,shU .bool],[.one,.one,.one],[(2,Uad)]⟩,⟨[.ptr ⟨2,1,[((),(3,0))]⟩ [0,0],shU I64,shU .bool],[.ptr,.one,.one],[(2,Uad)]⟩],ap3 pz⟩
theorem FA:Lk 2 yD:=ls Gw (aC Il aN)
def py(a0 a1 a2:Int)(a3:LDCe)(a4:LDLn):Option (T0d):=
(match pz a0 a3 a4 with
|none=>none
|some (.inl (_,x1,x2,x3,_))=>
(bif x1 then(none)else some (x1,x2,x3,()):Option (T0d)).bind λ(x4,x5,x6,_)=>some (x4,x5,x6,())
|some (.inr (x0,x1,x2,x3,x4,_))=>
(bif x2 then((fT x4 x0).bind λ_=>
(gj x1).bind λx6=>
(fT x4 x0).bind λx7=>
(fT x7.2.2 x6).bind λ_=>
(fT x4 x0).bind λx9=>
(fT x9.2.2 x6).bind λ_=>let ae:=x4.modify x0 λe=>(e.1,(e.2.1,(e.2.2.modify x6 λe=>(a1,a2))));
(fT ae x0).bind λ_=>let ag:=ae.modify x0 λe=>(e.1,(true,e.2.2));some (x2,x3,ag,()))else some (x2,x3,x4,()):Option (T0d)).bind λ(x5,x6,x7,_)=>some (x5,x6,x7,()))
def Gv:X.Cfg:=⟨E0,[yD],[],[⟨2,0,qE,[(.normal,qS [zaa 0,Xaa 9] [(2,Uad)])]⟩]⟩
def yC:Ctr:=⟨74,173,[.ptr ⟨2,0,[]⟩ [0],shU I64,.agg Xab],[(2,Uad)],[⟨zab,[.one],[(2,Uad)]⟩],ap5 py⟩
theorem Fz:Lk 3 yC:=ls Gv (aC FA aN)
def o4:T3t->Option (T3t⊕((Bool×LI×T0g)⊕(LDCn×Int×Int×Bool×T3q))):=λ(v0,v1,v2,v3,v4,v5,v6,v7,v8,v9,eq,eE,eG,eI,eK,eO,eS,eV,eX,eZ,fc,ff,fi,fk,fq,_)=>bif(decide (v2<v1))then((gj v2).bind λx0=>
(fT v0 x0).bind λx1=>
(fT eS 1).bind λx2=>let x3:=w64 (x2.2.2.2+v2);
(iX v3 v4 v8 x2.1 x2.2.1 x2.2.2.1 x3).bind λ(x4,x5,x6,_)=>
(iX v3 v4 v8 x1.1 x1.2.1 x1.2.2.1 x1.2.2.2).bind λ(x7,x8,x9,_)=>
(bif(x2.1 != 1)then(some (v0,v1,v2,true,v3,v4,v5,v6,v7,v8,v9,eq,eE,eG,eI,eK,eO,eS,eV,eX,eZ,fc,ff,fi,fk,fq,x4,x5,x7,x8,()))else bif(x6 != 0)then(some (v0,v1,v2,true,v3,v4,v5,v6,v7,v8,v9,eq,eE,eG,eI,eK,eO,eS,eV,eX,eZ,fc,ff,fi,fk,fq,x4,x5,x7,x8,()))else some (v0,v1,v2,(x9 != 0),v3,v4,v5,v6,v7,v8,v9,eq,eE,eG,eI,eK,eO,eS,eV,eX,eZ,fc,ff,fi,fk,fq,x4,x5,x7,x8,()):Option (LDCn×Int×Int×Bool×LI×Int×LDCe×LDLn×T3p)).bind λ(ac,ae,af,ag,ah,ai,aj,ak,am,an,ap,aq,av,ax,ay,az,aA,aB,aD,aE,aF,aG,aH,aI,aJ,aK,_,aM,aO,aP,_)=>bif ag then(some (.inr (.inl (false,ah,ai,aj,ak,()))))else let aQ:=wk .i64 aM;
(py aQ aO aP aj ak).bind λ(_,aS,aT,_)=>let aU:=w64 (af+1);some (.inl (ac,ae,aU,ah,ai,aS,aT,am,an,ap,aq,av,ax,ay,az,aA,aB,aD,aE,aF,aG,aH,aI,aJ,aK,())))else some (.inr (.inr (v0,v1,v2,false,v3,v4,v5,v6,v7,v8,v9,eq,eE,eG,eI,eK,eO,eS,eV,eX,eZ,fc,ff,fi,fk,fq,())))
def pC(a0:LDIn)(a1:LI)(a2:LLI)(a3 a4 a5 a6 a7 a8:Int)(a9 ek:LDCn)(eu eF eH eJ:Int)(eM:LDCn)(eQ:Int)(eU:Bool)(eW:LI)(eY:Int)(fa:LDCe)(fe:LDLn):Option (Bool×LI×T0g):=
(oS a8).bind λ(x0,_)=>bif(x0 != 2)then(some (true,eW,eY,fa,fe,()))else let x1:=fZ eM.length;
(match gc o4 NN (eM,x1,0,eW,eY,fa,fe,a0,a1,a2,a3,a4,a5,a6,a7,a8,a9,ek,eu,eF,eH,eJ,eM,eQ,eU,())with
|none=>none
|some (.inl (x2,x3,x4,x5,x6,_))=>some (x2,x3,x4,x5,x6,())
|some (.inr (_,_,_,_,x6,x7,x8,x9,_))=>some (true,x6,x7,x8,x9,()))
def GC:X.Cfg:=⟨E0,[tO,oP,yC],[],[⟨16,0,qE,[(.normal,qS (zl [1,4,6,12,14]++sP 21 gp::il [22,23]++[Xaa 69]) [(4,uai),(10,uab),(14,Uac),(16,uad),(26,Xab),(30,Xab)])]⟩,⟨6,1,qS (zl [1,4,6]++sP 21 gp::il [22,23]) Xat,[(.ret,qS Zau [(4,uai)]),(.exit 0,qS (zl [1,4,6]++sP 21 gp::il [22,23]++[Xaa 24]) Xat)]⟩]⟩
def yI:Ctr:=⟨43,174,[.agg uab,.ptr ⟨4,0,[]⟩ [0],.agg Uac,.agg uad],[(4,uai)],[⟨zab,[.one],[(4,uai)]⟩],as1 (as4 (as8 (as8 ap1))) pC⟩
theorem FF:Lk 4 yI:=ls GC (aC AT (aC rk (aC Fz aN)))
def vY:Option (T1R):=bif(xH 8 8 2)then let x0:LDCe:=(List.replicate 8 (0,0));some (0,x0,0,0,(-1),(-1),0,0,())else none
def DV:X.Cfg:=⟨E0,[],[],[]⟩
def wK:Ctr:=⟨138,175,[],[],[⟨Uaf,[.agg 8],[]⟩],λh=>vY⟩
theorem Dt:Lk 1 wK:=ls DV aN
def vT:Option (T1R):=
(vY).bind λ(x0)=>some (x0)
def Dz:X.Cfg:=⟨E0,[wK],[],[]⟩
def wu:Ctr:=⟨107,176,[],[],[⟨Uaf,[.agg 8],[]⟩],λh=>vT⟩
theorem Df:Lk 2 wu:=ls Dz (aC Dt aN)
def t9(a0 a1 a2:Int):Option (T1R):=
(vT).bind λ(_,x1,_,x3)=>
(fT x1 0).bind λ_=>
(fT x1 0).bind λ_=>let ac:=x1.modify 0 λe=>(a1,a2);some (1,ac,a0,x3)
def Is:X.Cfg:=⟨E0,[wu],[],[]⟩
def Ak:Ctr:=⟨75,177,[shU I64,.agg Xab],[],[⟨Uaf,[.agg 8],[]⟩],ap3 t9⟩
theorem HX:Lk 3 Ak:=ls Is (aC Df aN)
def ol(a0:LDIn)(a1:LI)(a2:LLI)(a3 a4 a5 a6 a7 a8:Int)(a9 ek:LDCn)(eu eF eH eJ:Int)(eM:LDCn)(eQ:Int)(eU:Bool)(eW:LI)(eY:Int)(fa:LDCe)(fe:LDLn)(fh:LDTh):Option (T14):=bif(a8==10)then((match(bif(!(eQ != (-1)))then(bif(a8 != 12)then(some (.inl (true,eW,eY,fa,fe,fh,())))else some (.inr ((eQ != (-1)),false,eW,eY,fa,fe,fh,a0,a1,a2,a3,a4,a5,a6,a7,a8,a9,ek,eu,eF,eH,eJ,eM,eQ,eU,())))else some (.inr ((eQ != (-1)),false,eW,eY,fa,fe,fh,a0,a1,a2,a3,a4,a5,a6,a7,a8,a9,ek,eu,eF,eH,eJ,eM,eQ,eU,())):Option (T14⊕T3s))with
|none=>none
|some (.inl (x0,x1,x2,x3,x4,x5,_))=>some (x0,x1,x2,x3,x4,x5,())
|some (.inr (x0,_,x2,x3,x4,x5,x6,_,x8,_,ac,_,_,_,_,_,aj,_,_,_,_,_,_,ax,_,_))=>
(fT aj 0).bind λaz=>bif(az.1 != 0)then(some (false,x2,x3,x4,x5,x6,()))else bif(decide (az.2.1>255))then(some (false,x2,x3,x4,x5,x6,()))else bif(!x0)then(let aA:Int:=(wk .i64 az.2.1);
(gj ac).bind λaB=>
(fT x6 aB).bind λ_=>
(fT x6 aB).bind λ_=>let aF:=x6.modify aB λe=>(e.1,(e.2.1,(e.2.2.1,(e.2.2.2.1,(aA,e.2.2.2.2.2)))));some (true,x2,x3,x4,x5,aF,()))else
(fT aj 1).bind λaA=>
(iX x2 x3 x8 aA.1 aA.2.1 aA.2.2.1 aA.2.2.2).bind λ(aB,aD,aE,_)=>bif(aE != 0)then(some (false,x2,x3,x4,x5,x6,()))else
(gj ax).bind λaF=>
(fT x6 aF).bind λ_=>
(fT x6 aF).bind λaH=>bif(aH.1 != 0)then(some (false,x2,x3,x4,x5,x6,()))else let aI:=wk .i64 az.2.1;
(t9 aI aB aD).bind λ(aJ,aK,aL,aM,aO,aP,aQ,aR,_)=>
(gj ax).bind λaS=>
(fT x6 aS).bind λ_=>
(fT x6 aS).bind λ_=>let aV:=x6.modify aS λe=>(aJ,(aK,(aL,(aM,(aO,(aP,(aQ,aR)))))));some (true,x2,x3,x4,x5,aV,())))else
(match(bif(a8 != 12)then(some (.inl (true,eW,eY,fa,fe,fh,())))else some (.inr (false,false,eW,eY,fa,fe,fh,a0,a1,a2,a3,a4,a5,a6,a7,a8,a9,ek,eu,eF,eH,eJ,eM,eQ,eU,())):Option (T14⊕T3s))with
|none=>none
|some (.inl (x0,x1,x2,x3,x4,x5,_))=>some (x0,x1,x2,x3,x4,x5,())
|some (.inr (x0,_,x2,x3,x4,x5,x6,_,x8,_,ac,_,_,_,_,_,aj,_,_,_,_,_,_,ax,_,_))=>
(fT aj 0).bind λaz=>bif(az.1 != 0)then(some (false,x2,x3,x4,x5,x6,()))else bif(decide (az.2.1>255))then(some (false,x2,x3,x4,x5,x6,()))else bif(!x0)then(let aA:Int:=(wk .i64 az.2.1);
(gj ac).bind λaB=>
(fT x6 aB).bind λ_=>
(fT x6 aB).bind λ_=>let aF:=x6.modify aB λe=>(e.1,(e.2.1,(e.2.2.1,(e.2.2.2.1,(aA,e.2.2.2.2.2)))));some (true,x2,x3,x4,x5,aF,()))else
(fT aj 1).bind λaA=>
(iX x2 x3 x8 aA.1 aA.2.1 aA.2.2.1 aA.2.2.2).bind λ(aB,aD,aE,_)=>bif(aE != 0)then(some (false,x2,x3,x4,x5,x6,()))else
(gj ax).bind λaF=>
(fT x6 aF).bind λ_=>
(fT x6 aF).bind λaH=>bif(aH.1 != 0)then(some (false,x2,x3,x4,x5,x6,()))else let aI:=wk .i64 az.2.1;
(t9 aI aB aD).bind λ(aJ,aK,aL,aM,aO,aP,aQ,aR,_)=>
(gj ax).bind λaS=>
(fT x6 aS).bind λ_=>
(fT x6 aS).bind λ_=>let aV:=x6.modify aS λe=>(aJ,(aK,(aL,(aM,(aO,(aP,(aQ,aR)))))));some (true,x2,x3,x4,x5,aV,()))
def DT:X.Cfg:=⟨E0,[oP,Ak],[],[⟨2,0,qE,[(.ret,⟨[zaa 1,Xaa 8],[(4,Uah)],[((4,(5,0)),1),((4,(4,1)),0),((4,(0,0)),0)],([],[])⟩),(.normal,⟨[zaa 1,zaa 4,zaa 6,zaa 7,Xaa 9,Xaa 27],[(4,Uah),(10,uab),(14,Uac),(16,uad)],[((4,(5,0)),1),((4,(4,1)),0),((4,(0,0)),0)],([],[])⟩)]⟩]⟩
def wJ:Ctr:=⟨44,178,[.agg uab,.ptr ⟨4,0,[]⟩ [0],.agg Uac,.agg uad],[(4,Uah)],[⟨zab,[.one],[(4,Uah),(4,[.dead,.dead,.dead,.dead,.dead])]⟩],as2 (as4 (as8 (as8 ap1))) ol⟩
theorem Ds:Lk 4 wJ:=ls DT (aC rk (aC HX aN))
def kV(a0:LDIn)(a1:LI)(a2:LLI)(a3:LI)(a4:Int)(a5:LDCe)(a6:LDLn)(a7:LDTh)(a8 a9 ek eu eF eH:Int)(eJ eM:LDCn)(eQ eU eW eY:Int)(fa:LDCn)(fe:Int)(fh:Bool):Option (T1i):=
(pB a0 a1 a2 a3 a4 a5 a6 a7 a8 a9 ek eu eF eH eJ eM eQ eU eW eY fa fe fh).bind λ(x0,_)=>bif(!x0)then((iG a3 a4 a5 a6 a7).bind λ(x1,x2,x3,x4,x5,_)=>some (x1,x2,x3,x4,x5,false,()))else
(iG a3 a4 a5 a6 a7).bind λ(x1,x2,x3,x4,x5,_)=>
(gj a8).bind λx6=>
(fT x5 x6).bind λ_=>bif(eH==0)then((fT x5 x6).bind λx8=>
(fT eJ 0).bind λx9=>
(fT x5 x6).bind λac=>
(ua x8.1 ac.2.1 x8.2.2.1 x8.2.2.2.1 x8.2.2.2.2.1 x8.2.2.2.2.2.1 x8.2.2.2.2.2.2.1 x8.2.2.2.2.2.2.2 0 x9.2.1).bind λ(ae,af,ag,ah,ai,aj,ak,am,_)=>
(fT x5 x6).bind λ_=>let ap:=x5.modify x6 λe=>(ae,(af,(ag,(ah,(ai,(aj,(ak,am)))))));some (x1,x2,x3,x4,ap,true,()))else bif fh then((fT x5 x6).bind λ_=>let x9:=x5.modify x6 λe=>(3,e.2);some (x1,x2,x3,x4,x9,true,()))else
(iX a3 a4 a1 eQ eU eW eY).bind λ(x8,x9,ac,_)=>
(bif(ac != 0)then(some (x6,true,a3,a4,a5,a6,a7,a8,a9,ek,eu,eF,eH,eJ,eM,(),0,(),(),(),x1,x2,x3,x4,x5,x8,x9,()))else
(pC a0 a1 a2 a8 a9 ek eu eF eH eJ eM eQ eU eW eY fa fe fh x1 x2 x3 x4).bind λ(ae,af,ag,ah,ai,_)=>bif(!ae)then(some (x6,true,a3,a4,a5,a6,a7,a8,a9,ek,eu,eF,eH,eJ,eM,(),0,(),(),(),af,ag,ah,ai,x5,x8,x9,()))else
(ol a0 a1 a2 a8 a9 ek eu eF eH eJ eM eQ eU eW eY fa fe fh af ag ah ai x5).bind λ(aj,ak,am,an,ap,aq,_)=>
(fT aq x6).bind λ_=>some (x6,(!aj),a3,a4,a5,a6,a7,a8,a9,ek,eu,eF,eH,eJ,eM,(),0,(),(),(),ak,am,an,ap,aq,x8,x9,()):Option (Nat×Bool×LI×Int×LDCe×LDLn×LDTh×Int×Int×Int×Int×Int×Int×LDCn×LDCn×Unit×Int×Unit×Unit×Unit×T1E)).bind λ(ae,af,ag,ah,ai,aj,ak,_,_,_,_,_,_,_,_,_,_,_,_,_,aG,aH,aI,aJ,aK,aL,aM,_)=>bif af then((iG ag ah ai aj ak).bind λ(aO,aP,aQ,aR,aS,_)=>some (aO,aP,aQ,aR,aS,false,()))else
(fT aK ae).bind λ_=>
(fT aK ae).bind λaP=>
(fT aP.2.1 0).bind λ_=>
(fT aK ae).bind λaR=>
(fT aR.2.1 0).bind λ_=>let aT:=aK.modify ae λe=>(e.1,((e.2.1.modify 0 λe=>(aL,aM)),e.2.2));
(fT aT ae).bind λ_=>let aV:=aT.modify ae λe=>(1,e.2);some (aG,aH,aI,aJ,aV,true,())
def Ja:X.Cfg:=⟨E0,[yH,rL,Al,oP,yI,wJ],[],[⟨15,0,qE,[(.normal,(qS (zl [5,8,10]++[(11,.ptr ⟨22,4,[((),(8,0))]⟩ [0,0]),zaa 12,Xaa 77]) [(12,yac),(14,Uac),(18,Zab),(22,Uah),(26,Xab)]))]⟩]⟩
def vi:Ctr:=⟨16,179,[.agg uab,.agg yac,.agg Uac,.agg uad],[],[⟨uam,[.agg 5,.one],[]⟩],as2 (as4 (as8 (as8 ap1))) kV⟩
theorem Aa:Lk 11 vi:=ls Ja (aC FE (aC wl (aC HY (aC rk (aC FF (aC Ds aN))))))
def jj:f_:=let x0:LDIn:=[(23,(0,(0,(0,2))))];
(m7 x0 [4] [[]] [3] 0).bind λ(x1,x2,x3,x4,x5,_,_)=>
(fT x5 0).bind λ_=>
(fT x5 0).bind λ_=>let x9:=x5.modify 0 λe=>(2,e.2);let ac:LDCn:=[(2,(0,(0,0))),(1,(0,(0,1))),(0,(2,(0,0)))];let ae:LDCn:=[(0,(8,(0,0))),(0,(9,(0,0)))];
(kV x0 [4] [[]] x1 x2 x3 x4 x9 0 1 0 0 0 2 ac [] 0 2 0 0 ae (-1) false).bind λ(af,ag,ah,ai,aj,ak,_)=>bif(!ak)then(some (false,()))else let am:=fZ aj.length;bif(am != 4)then(some (false,()))else
(mV x0 [4] [[]] af ag ah ai aj).bind λ(an,ap,_)=>
(fT an 0).bind λ_=>
(fT an 0).bind λ_=>
(fT an 0).bind λax=>
(fT ax 1).bind λ_=>
(fT an 0).bind λaz=>
(fT az 1).bind λaA=>bif(aA.2.1==8)then((fT an 0).bind λ_=>
(fT an 0).bind λ_=>
(fT an 0).bind λaE=>
(fT aE 2).bind λ_=>
(fT an 0).bind λaG=>
(fT aG 2).bind λaH=>bif(aH.2.1==9)then((fT ap 0).bind λ_=>
(fT ap 0).bind λ_=>
(fT ap 0).bind λaK=>
(fT aK.2.2.2.2.2.2.2 0).bind λ_=>
(fT ap 0).bind λaM=>
(fT aM.2.2.2.2.2.2.2 0).bind λaO=>bif(aO.2.1==2)then((fT ap 0).bind λ_=>
(fT ap 0).bind λaQ=>some ((aQ.1==1),()))else some (false,()))else some (false,()))else some (false,())
def Gy:X.Cfg:=⟨E0,[s9,vi,s7],[(11,(uaa CW))],[]⟩
def yF:Ctr:=⟨15,180,[],[],[⟨zab,[.one],[]⟩],λh=>jj⟩
theorem FC:Lk 12 yF:=ls Gy (aC xP (aC Aa (aC xN aN)))
def uj:T44->Option (T44⊕((Bool×Unit)⊕(Int×Bool×T41))):=λ(v0,v1,v2,v3,v4,v5,v6,v7,v8,v9,eq,eE,eG,eI,eK,eO,eS,eV,eX,eZ,fc,ff,fi,fk,fq,fu,fv,fw,fA,fB,fC,fD,fE,fF,fG)=>bif(decide (v0<8))then((gj v0).bind λx0=>
(fT fu x0).bind λx1=>
(gj v0).bind λx2=>
(fT fF x2).bind λx3=>bif(!((x1.1==x3.1)&&((x1.2==x3.2)&&true)))then(some (.inr (.inl (false,()))))else let x4:=w64 (v0+1);some (.inl (x4,v1,v2,v3,v4,v5,v6,v7,v8,v9,eq,eE,eG,eI,eK,eO,eS,eV,eX,eZ,fc,ff,fi,fk,fq,fu,fv,fw,fA,fB,fC,fD,fE,fF,fG)))else some (.inr (.inr (v0,false,v1,v2,v3,v4,v5,v6,v7,v8,v9,eq,eE,eG,eI,eK,eO,eS,eV,eX,eZ,fc,ff,fi,fk,fq,fu,fv,fw,fA,fB,fC,fD,fE,fF,fG)))
def Lc(a0:LI):f_:=
(kU a0 0).bind λ(x0,x1,x2,x3,x4,x5,x6,x7,x8,x9,ac,ae,af,ag,ah,ai,aj,ak,am,an,ap,aq,av,_)=>
(kV x0 x1 x2 x3 x4 x5 x6 x7 x8 x9 ac ae af ag ah ai aj ak am an ap aq av).bind λ(az,aA,aB,aD,aE,aF,_)=>bif(!aF)then((jj).bind λ(aG,_)=>some (aG,()))else
(jf x0 x1 x2 az aA aB aD aE).bind λ(aG,_)=>bif(!aG)then(some (false,()))else
(gj x8).bind λaH=>
(fT x7 aH).bind λaI=>
(gj x8).bind λaJ=>
(fT aE aJ).bind λaK=>
(match gc uj NN (1,x0,x1,x2,x8,x9,ac,ae,af,ag,ah,ai,aj,ak,am,an,ap,aq,av,az,aA,aB,aD,aE,aI.1,aI.2.1,aI.2.2.1,aI.2.2.2.1,aI.2.2.2.2.1,aI.2.2.2.2.2.1,aI.2.2.2.2.2.2.1,aI.2.2.2.2.2.2.2,aK.1,aK.2.1,aK.2.2.1,aK.2.2.2.1,aK.2.2.2.2.1,aK.2.2.2.2.2.1,aK.2.2.2.2.2.2.1,aK.2.2.2.2.2.2.2,())with
|none=>none
|some (.inl (aL,_))=>some (aL,())
|some (.inr (_,_,_,aP,_,_,_,_,_,_,aW,_,_,ba,bc,bd,be,_,_,bh,bi,bj,_,_,_,_,bp,bq,bt,_,_,_,_,bC,bD,bE,bF,_))=>bif(aW==0)then((fT bp 0).bind λbK=>
(fT bD 0).bind λbL=>bif((bK.1==bL.1)&&((bK.2==bL.2)&&true))then(bif(bC != 1)then(bif(bq==bE)then((jj).bind λ(bM,_)=>some (bM,()))else some (false,()))else some (false,()))else some (false,()))else bif bh then((fT bp 0).bind λbK=>
(fT bD 0).bind λbL=>bif((bK.1==bL.1)&&((bK.2==bL.2)&&true))then(bif(bC != 1)then(bif(bq==bE)then((jj).bind λ(bM,_)=>some (bM,()))else some (false,()))else some (false,()))else some (false,()))else bif(bC==1)then((fT bD 0).bind λbK=>
(ji bi bj aP bK.1 bK.2).bind λ(bL,bM,bN,bO,_)=>let bP:Bool:=((bL==ba)&&((bM==bc)&&((bN==bd)&&((bO==be)&&true))));bif bP then(bif(bq==bE)then(bif(bt==bF)then((jj).bind λ(bQ,_)=>some (bQ,()))else some (false,()))else some (false,()))else some (false,()))else some (false,()))
def wQ(a0 a1:Int):h_:=bif(a1 != 0)then let x0:Int:=(Int.tmod a0 a1);
(bif(decide (x0<0))then(let x1:Int:=(w64 (x0+a1));some (x1,()))else some (x0,()):h_).bind λ(x1,_)=>some (x1,())else none
def KC:X.Cfg:=⟨E0,[],[],[⟨2,0,qE,[(.normal,qS [Uaa 5] [])]⟩]⟩
def CZ:Ctr:=⟨89,182,Zac,[],[⟨zac,[.one],[]⟩],ap2 wQ⟩
theorem Km:Lk 1 CZ:=ls KC aN
def t8(a0:Int)(a1:LDCe)(a2 a3 a4 a5 a6 a7 a8 a9 ek:Int):Option (T1R):=
(mI a0 a1 a2 a3 a4 a5 a6 a7).bind λ(x0,x1,x2)=>
((wQ a8 8).bind λ(x8,_)=>let x9:=fZ x1.length;bif(decide (x8<x9))then((gj x8).bind λac=>
(fT x1 ac).bind λ_=>
(fT x1 ac).bind λ_=>let ag:=x1.modify ac λe=>(a9,ek);some (0,(),0,0,0,0,0,0,x0,ag,x2))else some (0,(),0,0,0,0,0,0,x0,x1,x2):Option (Int×Unit×T2P)).bind λ(_,_,_,_,_,_,_,_,aj)=>some (aj)
def Ir:X.Cfg:=⟨E0,[sY,CZ],[],[⟨2,0,qE,[(.normal,(qS (zl [6,7]) [(14,uL [I64,N1,I64,I64,I64,I64,I64,CW]),(16,Uaf)]))]⟩]⟩
def Aj:Ctr:=⟨54,183,[.agg Xad,shU I64,.agg Xab],[],[⟨Uaf,[.agg 8],[]⟩],as2 (as8 ap1) t8⟩
theorem HW:Lk 3 Aj:=ls Ir (aC xJ (aC Km aN))
def nu(a0:LDIn)(a1:LI)(a2:LLI)(a3:LI)(a4:Int)(a5:LDCe)(a6:LDLn)(a7:LDTh)(a8 a9 ek eu eF:Int)(eH:LDCn)(eJ:Int)(eM:Bool):Option (T1i):=
((oC a0 a1 a2 a3 a4 a5 a6 a7).bind λ(x0,_)=>bif(!x0)then(some (a8,true,a0,a1,a2,a3,a4,a5,a6,a7,a9,ek,eu,eF,eH,eJ,eM,(),0,(),(),(),()))else
(lL a9 ek eu eF eH eJ eM).bind λ(x1,_)=>bif(!x1)then(some (a8,true,a0,a1,a2,a3,a4,a5,a6,a7,a9,ek,eu,eF,eH,eJ,eM,(),0,(),(),(),()))else bif(decide (a8<0))then(some (a8,true,a0,a1,a2,a3,a4,a5,a6,a7,a9,ek,eu,eF,eH,eJ,eM,(),0,(),(),(),()))else bif(decide (a8>=4))then(some (a8,true,a0,a1,a2,a3,a4,a5,a6,a7,a9,ek,eu,eF,eH,eJ,eM,(),0,(),(),(),()))else
(gj a8).bind λx2=>
(fT a7 x2).bind λx3=>some (a8,(x3.1 != 3),a0,a1,a2,a3,a4,a5,a6,a7,a9,ek,eu,eF,eH,eJ,eM,(),0,(),(),(),()):Option (T3n)).bind λ(x0,x1,_,x3,_,x5,x6,x7,x8,x9,ac,ae,af,ag,_)=>bif x1 then((iG x5 x6 x7 x8 x9).bind λ(av,ax,ay,az,aA,_)=>some (av,ax,ay,az,aA,false,()))else
(iX x5 x6 x3 ac ae af ag).bind λ(av,ax,ay,_)=>bif(ay != 0)then((iG x5 x6 x7 x8 x9).bind λ(az,aA,aB,aD,aE,_)=>some (az,aA,aB,aD,aE,false,()))else
(iG x5 x6 x7 x8 x9).bind λ(az,aA,aB,aD,aE,_)=>
(gj x0).bind λaF=>
(fT aE aF).bind λ_=>
(fT aE aF).bind λaH=>
(fT aE aF).bind λaI=>
(t8 aH.1 aI.2.1 aH.2.2.1 aH.2.2.2.1 aH.2.2.2.2.1 aH.2.2.2.2.2.1 aH.2.2.2.2.2.2.1 aH.2.2.2.2.2.2.2 0 av ax).bind λ(aJ,aK,aL,aM,aO,aP,aQ,aR,_)=>
(gj x0).bind λaS=>
(fT aE aS).bind λ_=>
(fT aE aS).bind λ_=>let aV:=aE.modify aS λe=>(aJ,(aK,(aL,(aM,(aO,(aP,(aQ,aR)))))));
(gj x0).bind λaW=>
(fT aV aW).bind λ_=>
(fT aV aW).bind λ_=>let ba:=aV.modify aW λe=>(1,e.2);some (az,aA,aB,aD,ba,true,())
def GD:X.Cfg:=⟨E0,[uM,rN,rL,oP,Aj],[],[⟨2,0,qE,[(.normal,qS Uax Xar)]⟩]⟩
def yJ:Ctr:=⟨22,184,[.agg uab,.agg yac,shU I64,.agg uad],[],[⟨uam,[.agg 5,.one],[]⟩],as1 (as2 (as4 (as8 ap1))) nu⟩
theorem FG:Lk 10 yJ:=ls GD (aC zP (aC wn (aC wl (aC rk (aC HW aN)))))
def nc:Int×Int×T0G->Option ((Int×Int×T0G)⊕((Bool×Unit)⊕(Int×Int×Bool×T0G))):=λ(v0,v1,v2,v3,v4,v5,_)=>bif(decide (v1<v0))then((gj v1).bind λx0=>
(fT v2 x0).bind λx1=>
(gj v1).bind λx2=>
(fT v4 x2).bind λx3=>bif(x1 != x3)then(some (.inr (.inl (false,()))))else let x4:=w64 (v1+1);some (.inl (v0,x4,v2,v3,v4,v5,())))else some (.inr (.inr (v0,v1,false,v2,v3,v4,v5,())))
def q8(a0:LI)(a1:Int)(a2:LI)(a3:Int):f_:=bif(a1 != a3)then(some (false,()))else let x0:=fZ a0.length;let x1:=fZ a2.length;bif(x0 != x1)then(some (false,()))else let x2:=fZ a0.length;
(match gc nc NN (x2,0,a0,a1,a2,a3,())with
|none=>none
|some (.inl (x3,_))=>some (x3,())
|some (.inr (_,_))=>some (true,()))
def I4:X.Cfg:=⟨E0,[],[],[⟨6,0,qS (zl [2,3]++il [22,23]) [(6,Uab),(8,Uab)],[(.ret,qS Zat []),(.exit 0,qS (zl [2,3]++il [22,23]++[Xaa 24]) [(6,Uab),(8,Uab)])]⟩]⟩
def AD:Ctr:=⟨49,185,[.agg Uab,.agg Uab],[],[⟨zab,[.one],[]⟩],ap4 q8⟩
theorem Ij:Lk 1 AD:=ls I4 aN
def nh:LDCe×T0j->Option ((LDCe×T0j)⊕((Bool×Unit)⊕(LDCe×T0B))):=λ(v0,v1,v2,v3,_)=>bif(decide (v3<v2))then((gj v3).bind λx0=>
(fT v0 x0).bind λx1=>
(gj v3).bind λx2=>
(fT v1 x2).bind λx3=>bif(!((x1.1==x3.1)&&((x1.2==x3.2)&&true)))then(some (.inr (.inl (false,()))))else let x4:=w64 (v3+1);some (.inl (v0,v1,v2,x4,())))else some (.inr (.inr (v0,v1,v2,v3,false,())))
def mA(a0 a1:LDCe):f_:=let x0:=fZ a0.length;let x1:=fZ a1.length;bif(x0 != x1)then(some (false,()))else let x2:=fZ a0.length;
(match gc nh NN (a0,a1,x2,0,())with
|none=>none
|some (.inl (x3,_))=>some (x3,())
|some (.inr (_,_))=>some (true,()))
def I6:X.Cfg:=⟨E0,[],[],[⟨6,0,qS (sP 0 gT::sP 1 gT::il [12,13]) [],[(.ret,qS Zat []),(.exit 0,qS [sP 0 gT,sP 1 gT,Uaa 12,Uaa 13,Xaa 14] [])]⟩]⟩
def u9:Ctr:=⟨80,186,uL [gT,gT],[],[⟨zab,[.one],[]⟩],ap2 mA⟩
theorem zZ:Lk 1 u9:=ls I6 aN
def nb:Int×Int×T0C->Option ((Int×Int×T0C)⊕((Bool×Unit)⊕T1q)):=λ(v0,v1,v2,v3,v4,v5,_)=>bif(decide (v1<v0))then((gj v1).bind λx0=>
(fT v3 x0).bind λx1=>
(gj v1).bind λx2=>
(fT v5 x2).bind λx3=>
(bif(x1.1 != x3.1)then(some (v0,v1,true,v2,v3,v4,v5,()))else bif(!(x1.2.1==x3.2.1))then(some (v0,v1,true,v2,v3,v4,v5,()))else
(mA x1.2.2 x3.2.2).bind λ(x4,_)=>some (v0,v1,(!x4),v2,v3,v4,v5,()):Option (T1q)).bind λ(x4,x5,x6,x7)=>bif x6 then(some (.inr (.inl (false,()))))else let ae:=w64 (x5+1);some (.inl (x4,ae,x7)))else some (.inr (.inr (v0,v1,false,v2,v3,v4,v5,())))
def qY(a0:LDCe)(a1:LDLn)(a2:LDCe)(a3:LDLn):f_:=
(mA a0 a2).bind λ(x0,_)=>bif(!x0)then(some (false,()))else let x1:=fZ a1.length;let x2:=fZ a3.length;bif(x1 != x2)then(some (false,()))else let x3:=fZ a1.length;
(match gc nb NN (x3,0,a0,a1,a2,a3,())with
|none=>none
|some (.inl (x4,_))=>some (x4,())
|some (.inr (_,_))=>some (true,()))
def IZ:X.Cfg:=⟨E0,[u9],[],[⟨12,0,qE,[(.normal,qS (zl [2,3]++il [25,26]++[Xaa 58]) Uaq)]⟩,⟨6,1,qS (zl [2,3]++il [25,26]) Uaq,[(.ret,qS Zat []),(.exit 0,qS (zl [2,3]++il [25,26]++[Xaa 27]) Uaq)]⟩]⟩
def AA:Ctr:=⟨50,187,[.agg yad,.agg yad],[],[⟨zab,[.one],[]⟩],ap4 qY⟩
theorem Ig:Lk 2 AA:=ls IZ (aC zZ aN)
def qW(a0:Int)(a1:LDCe)(a2 a3 a4 a5 a6 a7 a8:Int)(a9:LDCe)(ek eu eF eH eJ eM:Int):f_:=bif(a0==a8)then(bif(a2==ek)then(bif(a3==eu)then(bif(a4==eF)then(bif(a5==eH)then(bif(a6==eJ)then(bif(a7==eM)then((mA a1 a9).bind λ(x0,_)=>some (x0,()))else some (false,()))else some (false,()))else some (false,()))else some (false,()))else some (false,()))else some (false,()))else some (false,())
def IR:X.Cfg:=⟨E0,[u9],[],[]⟩
def Ay:Ctr:=⟨51,188,[.agg Xad,.agg Xad],[],[⟨zab,[.one],[]⟩],as1 (as2 (as4 (as8 ap1))) qW⟩
theorem Ie:Lk 2 Ay:=ls IR (aC zZ aN)
def mY:T2H->Option (T2H⊕((Bool×Unit)⊕(Int×Int×T2s))):=λ(v0,v1,v2,v3,v4,v5,v6,v7,v8,v9,eq,eE,_)=>bif(decide (v1<v0))then((gj v1).bind λx0=>
(fT v6 x0).bind λx1=>
(gj v1).bind λx2=>
(fT eE x2).bind λx3=>
(qW x1.1 x1.2.1 x1.2.2.1 x1.2.2.2.1 x1.2.2.2.2.1 x1.2.2.2.2.2.1 x1.2.2.2.2.2.2.1 x1.2.2.2.2.2.2.2 x3.1 x3.2.1 x3.2.2.1 x3.2.2.2.1 x3.2.2.2.2.1 x3.2.2.2.2.2.1 x3.2.2.2.2.2.2.1 x3.2.2.2.2.2.2.2).bind λ(x4,_)=>bif(!x4)then(some (.inr (.inl (false,()))))else let x5:=w64 (v1+1);some (.inl (v0,x5,v2,v3,v4,v5,v6,v7,v8,v9,eq,eE,())))else some (.inr (.inr (v0,v1,false,v2,v3,v4,v5,v6,v7,v8,v9,eq,eE,())))
def my(a0:LI)(a1:Int)(a2:LDCe)(a3:LDLn)(a4:LDTh)(a5:LI)(a6:Int)(a7:LDCe)(a8:LDLn)(a9:LDTh):f_:=
((q8 a0 a1 a5 a6).bind λ(x0,_)=>bif(!x0)then(some (true,a0,a1,a2,a3,a4,a5,a6,a7,a8,a9,()))else
(qY a2 a3 a7 a8).bind λ(x1,_)=>bif(!x1)then(some (true,a0,a1,a2,a3,a4,a5,a6,a7,a8,a9,()))else let x2:=fZ a4.length;let x3:=fZ a9.length;some ((x2 != x3),a0,a1,a2,a3,a4,a5,a6,a7,a8,a9,()):Option (T2s)).bind λ(x0,x1,x2,x3,x4,x5,x6)=>bif x0 then(some (false,()))else let ae:=fZ x5.length;
(match gc mY NN (ae,0,x1,x2,x3,x4,x5,x6)with
|none=>none
|some (.inl (af,_))=>some (af,())
|some (.inr (_,_))=>some (true,()))
def IQ:X.Cfg:=⟨E0,[AD,AA,Ay],[],[⟨2,0,qE,[(.normal,qS [zaa 2,zaa 3,Xaa 28] Xaq)]⟩,⟨6,1,qS (zl [2,3]++il [31,32]) Xaq,[(.ret,qS Zat []),(.exit 0,qS (zl [2,3]++il [31,32]++[Xaa 33]) Xaq)]⟩]⟩
def Ax:Ctr:=⟨19,189,[.agg yac,.agg yac],[],[⟨zab,[.one],[]⟩],as1 (as8 ap1) my⟩
theorem Id:Lk 3 Ax:=ls IQ (aC Ij (aC Ig (aC Ie aN)))
def mq(a0:LI):f_:=
(kU a0 0).bind λ(x0,x1,x2,x3,x4,x5,x6,x7,x8,x9,ac,ae,af,ag,ah,ai,aj,ak,am,an,ap,aq,av,_)=>
(kV x0 x1 x2 x3 x4 x5 x6 x7 x8 x9 ac ae af ag ah ai aj ak am an ap aq av).bind λ(az,aA,aB,aD,aE,aF,_)=>bif(!aF)then((jj).bind λ(aG,_)=>some (aG,()))else
(kV x0 x1 x2 az aA aB aD aE x8 x9 ac ae af ag ah ai aj ak am an ap aq av).bind λ(aG,aH,aI,aJ,aK,aL,_)=>
(nu x0 x1 x2 az aA aB aD aE x8 aj ak am an ap aq av).bind λ(aM,aO,aP,aQ,aR,aS,_)=>
(jf x0 x1 x2 az aA aB aD aE).bind λ(aT,_)=>bif(!aT)then(some (false,()))else
(gj x8).bind λaU=>
(fT aE aU).bind λaV=>
(bif aL then(some (true,x0,x1,x2,x8,x9,ac,ae,af,ag,ah,ai,aj,ak,am,an,ap,aq,av,aM,aO,aP,aQ,aR,()))else
(my aG aH aI aJ aK az aA aB aD aE).bind λ(aW,_)=>bif(!aW)then(some (true,x0,x1,x2,x8,x9,ac,ae,af,ag,ah,ai,aj,ak,am,an,ap,aq,av,aM,aO,aP,aQ,aR,()))else bif aS then(bif(!(aV.1==3))then(some (true,x0,x1,x2,x8,x9,ac,ae,af,ag,ah,ai,aj,ak,am,an,ap,aq,av,aM,aO,aP,aQ,aR,()))else bif(!aS)then((my aM aO aP aQ aR az aA aB aD aE).bind λ(aY,_)=>some ((!aY),x0,x1,x2,x8,x9,ac,ae,af,ag,ah,ai,aj,ak,am,an,ap,aq,av,aM,aO,aP,aQ,aR,()))else some (false,x0,x1,x2,x8,x9,ac,ae,af,ag,ah,ai,aj,ak,am,an,ap,aq,av,aM,aO,aP,aQ,aR,()))else bif(!aS)then((my aM aO aP aQ aR az aA aB aD aE).bind λ(aY,_)=>some ((!aY),x0,x1,x2,x8,x9,ac,ae,af,ag,ah,ai,aj,ak,am,an,ap,aq,av,aM,aO,aP,aQ,aR,()))else some (false,x0,x1,x2,x8,x9,ac,ae,af,ag,ah,ai,aj,ak,am,an,ap,aq,av,aM,aO,aP,aQ,aR,()):Option (Bool×LDIn×LI×LLI×Int×Int×Int×Int×Int×Int×LDCn×LDCn×Int×Int×Int×Int×LDCn×T1p)).bind λ(aW,aY,aZ,ba,bc,_,_,_,_,_,_,_,bk,bm,bn,bo,bp,bq,bt,bv,bx,bA,bB,bC,_)=>bif aW then(some (false,()))else
(nu aY aZ ba bv bx bA bB bC bc bk bm bn bo bp bq bt).bind λ(_,_,_,_,_,bI,_)=>bif(!bI)then((jj).bind λ(bJ,_)=>some (bJ,()))else some (false,())
def xe:X.Cfg:=⟨E0,[vg,vi,yF,yJ,nG,Ax],[],[⟨14,0,qE,[(.normal,(qS (zl [4,6,7,12]++[Xaa 89]) [(10,uab),(14,Uac),(16,uad),(26,uL [(uaa I64),CW,(uaa KCe),iz,mn])]))]⟩]⟩
def qB:Ctr:=⟨7,190,yai,[],[⟨zab,[.one],[]⟩],ap1 mq⟩
theorem k_law14_FinishTwice:Lk 13 qB:=ls xe (aC B7 (aC Aa (aC FC (aC FG (aC pL (aC Id aN))))))
end
end Go.Proofs.YtabfnmgabblofaaGreat
namespace Go.Proofs.YtabfnmgabblofaaGreat
set_option maxRecDepth 100000
noncomputable section
end
end Go.Proofs.YtabfnmgabblofaaGreat
namespace Go.Proofs.YtabfnmgabblofaaGreat
open Go.RowKit
theorem Wc:(Tryz.prog.funcs.all λfn=>!(fn.name== "runtime.NumGoroutine"))=true:=by kernel_rfl
theorem MR:tR Tryz.prog 8:=by
 obtain⟨fn,hf,hb⟩:∃fn,Tryz.prog.funcs[8]?=some fn/\fn.body.isSome=true:=by
  have hs:(match Tryz.prog.funcs[8]? with|some fn=>fn.body.isSome|none=>false)=true:=by kernel_rfl
  cases h:Tryz.prog.funcs[8]? with|none=>rw[h]at hs;cases hs|some fn=>rw[h]at hs;exact⟨fn,rfl,hs⟩
 obtain⟨c,hc⟩:=Option.isSome_iff_exists.1 hb;refine Jp hf ?_ hc;obtain⟨hlt,he⟩:=Array.getElem?_eq_some_iff.1 hf;have:=Array.all_eq_true.1 Wc 8 hlt;rw[he]at this;simpa using this
def Uy(x:Value)(w:World)(e:Ending)(w':World):Prop:=e=.returned (.pointer (some ⟨w.heap.size,0,none⟩))/\w'=w.alloc (.cells #[x,.int .i64 0] 79)
theorem TR(x:Value)(hx:x.oneCell'=true)(w:World):Calls Tryz.prog 8 #[x] w (Uy x w):=by
 cases x;all_goals first
  |(go_enter Tryz.func8,Tryz.ntmps8
    go_wp2
    go_ret
    exact⟨rfl,rfl⟩)
  |simp[Value.oneCell']at hx
theorem Vw:Hd Tryz.prog E0:=by
 intro f n tm h;simp only[E0]at h;split at h;rename_i e;subst e;injection h with h
 injection h with h1 h2
 subst h1 h2;refine⟨MR,λx hx=>?_,79,λl2 w hl YL=>?_⟩;simp only[oMC,List.not_mem_nil,or_false]at hx;rcases hx with hx|hx;injection hx;injection hx with hx;rw[hx];rfl
 match l2,hl with| [x],_=>exact TR x (YL x (by simp[bxV])) w
 simp at h
theorem e0_ok:JG Tryz.prog E0:=R4 Vw
def Ok{α:Type}(o:Option α)(Q:α->Prop):Prop:=∃a,o=some a/\Q a
section
variable {α β:Type}
theorem fQ{a:α}{Q:α->Prop}(h:Q a):Ok (some a) Q:=⟨a,rfl,h⟩
theorem Ok.bind{o:Option α}{f:α->Option β}{P:α->Prop}{Q:β->Prop}(h:Ok o P)(h2:∀a,P a->Ok (f a) Q):Ok (o.bind f) Q:=by obtain⟨a,rfl,h1⟩:=h;simp_all
theorem Ok.mono{o:Option α}{P Q:α->Prop}(h:Ok o P)(h2:∀a,P a->Q a):Ok o Q:=by have ⟨a,e,h1⟩:=h;exact⟨a,e,h2 a h1⟩
theorem ge{c:Bool}{a b:Option α}{Q:α->Prop}(h1:c=true->Ok a Q)(h2:c=false->Ok b Q):Ok (bif c then a else b) Q:=by grind
class BP (b:Bool) (P N:outParam Prop):Prop where
 t:b=true->P
 f:b=false->N
instance (priority:=low) bpVar {b:Bool}:BP b (b=true) (b=false):=⟨id,id⟩
instance WQ {p:Prop}{i:Decidable p}:BP (@decide p i) p (¬p):=⟨of_decide_eq_true,of_decide_eq_false⟩
instance W3 {α:Type}[BEq α][LawfulBEq α]{a b:α}:BP (a==b) (a=b) (¬a=b):=⟨eq_of_beq,λh=>beq_eq_false_iff_ne.1 h⟩
instance W2 {α:Type}[BEq α][LawfulBEq α]{a b:α}:BP (a != b) (¬a=b) (a=b):=⟨λh=>bne_iff_ne.1 h,λh=>bne_eq_false_iff_eq.1 h⟩
instance WP {b:Bool}{P N:Prop}[h:BP b P N]:BP (!b) N P:=⟨λe=>h.f (by simpa using e),λe=>h.t (by simpa using e)⟩
theorem fS{c:Bool}{P N:Prop}[h:BP c P N]{a b:Option α}{Q:α->Prop}(h1:P->Ok a Q)(h2:N->Ok b Q):Ok (bif c then a else b) Q:=by cases hc:c with|true=>exact h1 (h.t hc)|false=>exact h2 (h.f hc)
theorem gU{l:List α}{i:Nat}{f:α->Option β}{Q:β->Prop}(h:i<l.length)(h2:∀a,l[i]?=some a->Ok (f a) Q):Ok ((fT l i).bind f) Q:=by have e:fT l i=some l[i]:=oGE h;simp_all
theorem jt{x:Int}{f:Nat->Option β}{Q:β->Prop}(h:0<=x)(h2:∀n:Nat,x=n->Ok (f n) Q):Ok ((gj x).bind f) Q:=by obtain⟨n,rfl⟩:∃n:Nat,x=n:=⟨x.toNat,by omega⟩;exact h2 n rfl
theorem f6{l:List α}{i:Nat}{f:α->Option β}{Q:β->Prop}(h2:∀a,l[i]?=some a->Ok (f a) Q)(h:i<l.length:=by omega):Ok ((fT l i).bind f) Q:=gU h h2
theorem gX{x:Int}{f:Nat->Option β}{Q:β->Prop}(h2:∀n:Nat,x=n->Ok (f n) Q)(h:0<=x:=by omega):Ok ((gj x).bind f) Q:=jt h h2
theorem Ok.val{v:α}{f:α->Option β}{Q:β->Prop}(h:∀x,x=v->Ok (f x) Q):Ok (f v) Q:=h v rfl
theorem fR{c:Bool}{a b:Option α}{Q:α->Prop}(hc:c=true)(h1:Ok a Q):Ok (bif c then a else b) Q:=by simp_all
theorem g9{S T:Type}{f:S->Option (S⊕T)}(P:S->Prop)(R:T->Prop)(m:S->Nat){n:Nat}{s:S}(hs:P s)(hm:m s<n) (h:∀s,P s->Ok (f s) λr=>match r with|.inl s'=>P s'/\m s'<m s|.inr t=>R t):Ok (gc f n s) R:=by induction n generalizing s with|zero=>omega|succ n ih=>have ⟨r,e,hr⟩:=h s hs;cases r with|inl s'=>have ⟨t,e2,hq⟩:=ih hr.1 (by omega);exact⟨t,by simp[gc,e];exact e2,hq⟩|inr t=>exact⟨t,by simp[gc,e],hr⟩
theorem gO{S T:Type}{f:S->Option (S⊕T)}{g:T->Option β}{Q:β->Prop}(P:S->Prop)(R:T->Prop)(m:S->Nat){n:Nat}{s:S}(hs:P s)(hm:m s<n)
 (h:∀s,P s->Ok (f s) λr=>match r with|.inl s'=>P s'/\m s'<m s|.inr t=>R t)(hg:∀t,R t->Ok (g t) Q):Ok ((gc f n s).bind g) Q:=(g9 P R m hs hm h).bind hg
end
theorem gD{x:Int}(h1:-9223372036854775808<=x)(h2:x<=9223372036854775807):w64 x=x:=Qm h1 h2
theorem iE{x:Int}(h1:-9223372036854775808<=x:=by omega)(h2:x<=9223372036854775807:=by omega):w64 x=x:=gD h1 h2
theorem fW(n:Nat):gj (n:Int)=some n:=rfl
theorem gh(n:Nat):fZ n=(n:Int):=rfl
theorem fY{α:Type}{l:List α}{i:Nat}{a:α}(h:l[i]?=some a):a∈l:=List.mem_of_getElem? h
def W16(x:Int):Prop:=0<=x/\x<=65535
theorem gl{x:Int}(h0:0<=x)(h1:x<=65535):wk .u16 x=x:=by unfold wk;rw[EN];omega
theorem gf{x:Int}(h0:-9223372036854775808<=x)(h1:x<=9223372036854775807):wk .i64 x=x:=gD h0 h1
theorem gd{b n m:Nat}(h:b<=1000/\n+m<=1000000):gk b n m=true:=by have:=Nat.mul_le_mul h.2 h.1;simp[gk];omega
structure DOk (l:M_)(k:Int):Prop where
 num:∀x∈l,Uz x
 len:l.length<=maxLen
 lo:0<=k
 hi:k<=l.length
theorem DOk.start{l:M_}(h:∀x∈l,Uz x)(hl:l.length<=maxLen):DOk l 0:=⟨h,hl,by omega,by omega⟩
theorem SH{a b:Int}(ha:Uz a)(hb:0<b)(ZU:b<=9223372036854775807):∃v,mp a b=some (v,())/\0<=v/\v<b:=by
 have hne:(b != 0)=true:=by simp;omega
 have hm:=Int.tmod_lt_of_pos a hb;have hm2:-b<Int.tmod a b:=by have:=Int.tmod_lt_of_pos (-a) hb;rw[Int.neg_tmod]at this;omega
 unfold mp;simp[hne];by_cases h:Int.tmod a b<0;refine⟨Int.tmod a b+b,?_,by omega,by omega⟩;simp[h,decide_true];rw[gD (by omega) (by omega)];refine⟨Int.tmod a b,?_,by omega,hm⟩;simp[h,decide_false,oCF]
section
variable {β:Type} {l:M_} {k n:Int} {Q:β->Prop}
theorem Vb{a b:Int}{f:Int×Unit->Option β}(ha:Uz a)(hb:0<b)(ZU:b<=9223372036854775807)(K:∀v,0<=v->v<b->Ok (f (v,())) Q):Ok ((mp a b).bind f) Q:=by have ⟨v,e,h0,h1⟩:=SH ha hb ZU;simp_all
theorem gL{f:Int×M_×Int×Unit->Option β}(h:DOk l k)(hn:0<n)(hn2:n<=9223372036854775807)(K:∀v k',0<=v->v<n->DOk l k'->Ok (f (v,l,k',())) Q):Ok ((fU n l k).bind f) Q:=by
 have hl:=h.len;have hlo:=h.lo;have hmx:maxLen<=9223372036854775807:=by decide
 by_cases hk:k>=(l.length:Int);have e:fU n l k=some (0,l,k,()):=by unfold fU;simp[gh,hk]
 simp_all
 ·obtain⟨j,rfl⟩:∃j:Nat,k=j:=⟨k.toNat,by omega⟩
  have hj:j<l.length:=by omega
  obtain⟨v,hv,h0,h1⟩:=SH (h.num _ (oGX hj)) hn hn2
  have e:fU n l j=some (v,l,(j:Int)+1,()):=by
   unfold fU;delta fZ
   try dsimp only
   rw[iE (x:=(j:Int)+1),iE (x:=(j:Int)+1-1)];rw[show(j:Int)+1-1=j by omega,fW];simp[hk,decide_false,oCF,oBS,fT,oGE hj,EP,hv]
  rw[e];exact K v _ h0 h1 ⟨h.num,hl,by omega,by omega⟩
theorem K6{f:Int×M_×Int×Unit->Option β}(h:DOk l k)(K:∀v k',0<=v->v<=65535->DOk l k'->Ok (f (v,l,k',())) Q):Ok ((kW l k).bind f) Q:=by
 have hw:Ok (kW l k) λr=>∃v k',r=(v,l,k',())/\0<=v/\v<=65535/\DOk l k':=by
  unfold kW;refine gL (by assumption) (by omega) (by omega) λv k a b d=>?_;try dsimp only
  refine Ok.bind (P:=λr=>∃b,r=(v,b,l,k,())) ?_ ?_
  ·repeat ((with_reducible refine fS (λhc=>?_) λhc=>?_);· exact fQ ⟨_,rfl⟩)
   exact fQ ⟨_,rfl⟩
  ·rintro _ ⟨b,rfl⟩;refine ge (λ_=>?_) λ_=>?_
   ·refine gL (by assumption) (by omega) (by omega) λv k a b d=>?_;try dsimp only
    (simp (disch:=omega) only [gD,gl,gf,gh])
    exact fQ ⟨_,_,rfl,by omega,by omega,by assumption⟩
   ·refine fS (λhc=>?_) λhc=>?_
    ·refine gL (by assumption) (by omega) (by omega) λv k a b d=>?_;try dsimp only
     (simp (disch:=omega) only [gD,gl,gf,gh])
     exact fQ ⟨_,_,rfl,by omega,by omega,by assumption⟩
    ·refine gL (by omega) (by omega) (by omega) λv k a b d=>?_;try dsimp only
     (simp (disch:=omega) only [gD,gl,gf,gh])
     exact fQ ⟨_,_,rfl,by omega,by omega,by omega⟩
 refine hw.bind ?_;simp_all
end
def A6(s:M_):Prop:=1<=s.length/\s.length<=4/\∀x∈s,1<=x/\x<=32
theorem WG{P:Int->Prop}{a b c:Int}(ha:P a)(hb:P b)(hc:P c):∀x∈[a,b,c],P x:=by simp_all
theorem Qx{l:M_}{k:Int}(h:DOk l k):Ok (rb l k) λr=>∃s k',r=(s,l,k',())/\A6 s/\DOk l k':=by
 unfold rb;refine gL (by assumption) (by omega) (by omega) λv0 k0 a0 b0 d0=>?_;try dsimp only
 (simp (disch:=omega) only [gD,gl,gf,gh])
 refine gL (by assumption) (by omega) (by omega) λv1 k1 a1 b1 d1=>?_;try dsimp only
 refine gO (P:=λ((c,l',k',s,_):Int×M_×Int×M_×Unit)=>l'=l/\DOk l k'/\0<=c/\c+s.length<=4/\1<=s.length/\∀x∈s,1<=x/\x<=32)
  (R:=λ((_,_,l',k',s,_):Int×Bool×M_×Int×M_×Unit)=>l'=l/\DOk l k'/\A6 s) (m:=λs=>s.1.toNat) ⟨rfl,d1,a1,by simp;omega,by simp,by simp;omega⟩ (by unfold NN;dsimp only;omega) ?_ ?_
 ·rintro⟨c,l',k3,s,_⟩ ⟨rfl,XG,hc0,hcs,hs1,hs⟩;dsimp only at *;unfold ul;dsimp only;refine fS (λhc=>?_) λhc=>?_
  ·refine gL (by assumption) (by omega) (by omega) λv2 k2 a2 b2 d2=>?_;try dsimp only
   refine jt (by omega) λj hj=>?_;try dsimp only
   have Zz:∀x∈[(6:Int),12,32],6<=x/\x<=32:=by simp_all
   refine gU (by simp;omega) λa ha=>?_;refine gU (by simp;omega) λb hb=>?_;have h7:=Zz b (fY hb)
   refine gL (by assumption) (by omega) (by omega) λv3 k3 a3 b3 d3=>?_;try dsimp only
   (simp (disch:=omega) only [gD,gl,gf,gh])
   refine fR (gd (by simp;omega)) ?_;refine fQ ⟨⟨rfl,by assumption,by omega,?_,?_,?_⟩,?_⟩
   ·simp;omega
   ·simp
   ·intro x hx;simp at hx;rcases hx with hx|rfl
    ·exact hs x hx
    ·omega
   ·dsimp only;omega
  ·exact fQ ⟨rfl,XG,hs1,by dsimp only;omega,hs⟩
 rintro⟨a,b,l',k3,s,_⟩ ⟨rfl,XG,hs⟩;exact fQ ⟨_,_,rfl,hs,XG⟩
def tW(op:Int):Bool:=!(op==18||op==23||op==0||op==24)
def tV(op:Int):Bool:=!(op==18||op==23||op==0||op==24||op==1||op==15||op==19||op==20||op==21||op==22)
def tU(op:Int):Bool:=!(op==18||op==23||op==0||op==24||op==1||op==15||op==19||op==20||op==21||op==22||op==2||op==16||op==17)
def tT(op:Int):Bool:=op==1||op==15||op==19||op==20||op==21||op==16||op==17||op==18||op==23
def n5(op:Int):Bool:=op==18||op==19||op==20||op==21
theorem JL{op:Int}(h0:0<=op)(h1:op<=24):kR op=some (tW op,tV op,tU op,tT op,()):=by
 obtain⟨n,rfl⟩:∃n:Nat,op=n:=⟨op.toNat,by omega⟩;have hn:n<25:=by omega
 have key:∀n:Fin 25,(kR ((n.val:Nat):Int)).map (λx=>(x.1,x.2.1,x.2.2.1,x.2.2.2.1))=some (tW (n.val:Nat),tV (n.val:Nat),tU (n.val:Nat),tT (n.val:Nat)):=by decide
 have:=key ⟨n,hn⟩;cases h:kR (n:Int)with|none=>simp_all|some x=>obtain⟨a,b,c,d,_⟩:=x;simp_all
theorem wZ(op:Int):iW op=some (n5 op,()):=by unfold iW n5;grind
structure km (n m:Int)(i:DIn):Prop where
 op:0<=i.1/\i.1<=24
 a:0<=i.2.1/\i.2.1<8/\(tW i.1=false->i.2.1=0)
 b:0<=i.2.2.1/\i.2.2.1<8/\(tV i.1=false->i.2.2.1=0)
 c:0<=i.2.2.2.1/\i.2.2.2.1<8/\(tU i.1=false->i.2.2.2.1=0)
 imm:0<=i.2.2.2.2/\i.2.2.2.2<=65535/\(tT i.1=false->i.2.2.2.2=0)
 lea:i.1=15->i.2.2.2.2<n
 sys:i.1=23->i.2.2.2.2<=15
 jmp:n5 i.1=true->i.2.2.2.2<m
theorem ins_mk{n m o a b c i:Int}(ho:0<=o/\o<=24)(ha:0<=a/\a<8)(hb:0<=b/\b<8)(hc:0<=c/\c<8)(hi:0<=i/\i<=65535)(hA:tW o=true\/a=0)(hB:tV o=true\/b=0)(hC:tU o=true\/c=0)(hI:tT o=true\/i=0)
 (hl:o=15->i<n)(hs:o=23->i<=15)(hj:n5 o=true->i<m):km n m (o,a,b,c,i):=
 ⟨ho,⟨ha.1,ha.2,λh=>hA.elim (λh'=>by simp_all) id⟩,⟨hb.1,hb.2,λh=>hB.elim (λh'=>by simp_all) id⟩,
  ⟨hc.1,hc.2,λh=>hC.elim (λh'=>by simp_all) id⟩,⟨hi.1,hi.2,λh=>hI.elim (λh'=>by simp_all) id⟩,hl,hs,hj⟩
theorem HS{n m r v:Int}(h:0<=r/\r<8)(hv:0<=v/\v<=65535):km n m (1,r,0,0,v):=ins_mk (by decide) h (by decide) (by decide) hv (.inl (by decide)) (.inr rfl) (.inr rfl) (.inl (by decide)) (by omega) (by omega) (λh=>absurd h (by decide))
theorem J8{n m r v:Int}(h:0<=r/\r<8)(hv:0<=v/\v<8):km n m (2,r,v,0,0):=ins_mk (by decide) h hv (by decide) (by decide) (.inl (by decide)) (.inl (by decide)) (.inr rfl) (.inr rfl) (by omega) (by omega) (λh=>absurd h (by decide))
theorem Bx{n m v:Int}(hv:0<=v/\v<=15):km n m (23,0,0,0,v):=ins_mk (by decide) (by decide) (by decide) (by decide) (by omega) (.inr rfl) (.inr rfl) (.inr rfl) (.inl (by decide)) (by omega) (by omega) (λh=>absurd h (by decide))
theorem Kc{n m r v:Int}(h:0<=r/\r<8)(hv:0<=v/\v<n)(hn:n<=4):km n m (15,r,0,0,v):=ins_mk (by decide) h (by decide) (by decide) (by omega) (.inl (by decide)) (.inr rfl) (.inr rfl) (.inl (by decide)) (by omega) (by omega) (λh=>absurd h (by decide))
theorem NM{n m o a b v:Int}(ho:o=16\/o=17)(h:0<=a/\a<8)(hb:0<=b/\b<8)(hv:0<=v/\v<=65535):km n m (o,a,b,0,v):=by rcases ho with rfl|rfl;all_goals exact ins_mk (by decide) h hb (by decide) hv (.inl (by decide)) (.inl (by decide)) (.inr rfl) (.inl (by decide)) (by omega) (by omega) (λh=>absurd h (by decide))
theorem J4{n m o a b c:Int}(ho:3<=o/\o<=14)(h:0<=a/\a<8)(hb:0<=b/\b<8)(hc:0<=c/\c<8):km n m (o,a,b,c,0):=ins_mk (by omega) h hb hc (by decide) (.inl (by unfold tW;simp;omega)) (.inl (by unfold tV;simp;omega)) (.inl (by unfold tU;simp;omega)) (.inr rfl) (by omega) (by omega) (λh=>by unfold n5 at h;simp at h;omega)
theorem T3{n m v:Int}(hv:0<=v/\v<=65535)(hm:v<m):km n m (18,0,0,0,v):=ins_mk (by decide) (by decide) (by decide) (by decide) hv (.inr rfl) (.inr rfl) (.inr rfl) (.inl (by decide)) (by omega) (by omega) (λ_=>hm)
theorem TC{n m:Int}:km n m (24,0,0,0,0):=ins_mk (by decide) (by decide) (by decide) (by decide) (by decide) (.inr rfl) (.inr rfl) (.inr rfl) (.inr rfl) (by omega) (by omega) (λh=>absurd h (by decide))
theorem km.mono{n m m':Int}{i:DIn}(h:km n m i)(hm:m<=m'):km n m' i:=⟨h.op,h.a,h.b,h.c,h.imm,h.lea,h.sys,λhj=>by have:=h.jmp hj;omega⟩
theorem Ko{n m a v:Int}(h:0<=a/\a<8)(hv:0<=v/\v<=65535)(hm:v<m):km n m (20,a,0,0,v):=ins_mk (by decide) h (by decide) (by decide) hv (.inl (by decide)) (.inr rfl) (.inr rfl) (.inl (by decide)) (by omega) (by omega) (λ_=>hm)
theorem RA{n XC k:Int}{l:M_}(h:DOk l k)(hn:1<=n/\n<=4)(hm:1<=XC/\XC<=100):Ok (rd n XC l k) λr=>∃o a b c i k',r=(o,a,b,c,i,l,k',())/\km n XC (o,a,b,c,i)/\DOk l k':=by
 unfold rd;refine gL (by assumption) (by omega) (by omega) λv0 k0 a0 b0 d0=>?_;try dsimp only
 rw[JL (by omega) (by omega)];simp only[oBS];refine Ok.bind (P:=λr=>∃x k',r=(n,XC,l,k',0,0,0,0,0,v0,x,0,0,0,tW v0,tV v0,tU v0,tT v0,())/\0<=x/\x<8/\(tW v0=false->x=0)/\DOk l k') ?_ ?_
 ·refine ge (λhc=>?_) λhc=>fQ ⟨_,_,rfl,by omega,by omega,λ_=>rfl,d0⟩
  refine gL (by assumption) (by omega) (by omega) λv1 k1 a1 b1 d1=>?_;try dsimp only
  exact fQ ⟨_,_,rfl,a1,b1,(λhh=>by rw[hc]at hh;cases hh),d1⟩
 rintro _ ⟨xa,k1,rfl,Xh,YF,XY,d1⟩;dsimp only;refine Ok.bind (P:=λr=>∃x k',r=(n,XC,l,k',0,0,0,0,0,v0,xa,x,0,0,tW v0,tV v0,tU v0,tT v0,())/\0<=x/\x<8/\(tV v0=false->x=0)/\DOk l k') ?_ ?_
 ·refine ge (λhc=>?_) λhc=>fQ ⟨_,_,rfl,by omega,by omega,λ_=>rfl,d1⟩
  refine gL (by assumption) (by omega) (by omega) λv2 k2 a2 b2 d2=>?_;try dsimp only
  exact fQ ⟨_,_,rfl,a2,b2,(λhh=>by rw[hc]at hh;cases hh),d2⟩
 rintro _ ⟨xb,k2,rfl,hb0,ZJ,ZU,d2⟩;dsimp only;refine Ok.bind (P:=λr=>∃x k',r=(n,XC,l,k',0,0,0,0,0,v0,xa,xb,x,0,tW v0,tV v0,tU v0,tT v0,())/\0<=x/\x<8/\(tU v0=false->x=0)/\DOk l k') ?_ ?_
 ·refine ge (λhc=>?_) λhc=>fQ ⟨_,_,rfl,by omega,by omega,λ_=>rfl,d2⟩
  refine gL (by assumption) (by omega) (by omega) λv3 k3 a3 b3 d3=>?_;try dsimp only
  exact fQ ⟨_,_,rfl,a3,b3,(λhh=>by rw[hc]at hh;cases hh),d3⟩
 rintro _ ⟨xc,k3,rfl,hc0,ZM,ZI,d3⟩;dsimp only;rw[wZ];simp only[oBS];refine Ok.bind (P:=λr=>∃x k',r=(l,k',0,0,0,0,0,v0,xa,xb,xc,x,())/\0<=x/\x<=65535/\(tT v0=false->x=0)/\(v0=15->x<n)/\(v0=23->x<=15)/\(n5 v0=true->x<XC)/\DOk l k') ?_ ?_
 ·refine ge (λhj=>?_) λhj=>?_
  ·refine gL (by assumption) (by omega) (by omega) λv4 k4 a4 b4 d4=>?_;try dsimp only
   have hne:v0≠15/\v0≠23:=by constructor<;>(rintro rfl;exact absurd hj (by decide))
   exact fQ ⟨_,_,rfl,a4,by omega,(λhh=>by
    have:tT v0=true:=by unfold n5 at hj;unfold tT;simp at hj⊢;omega
    rw[this]at hh;cases hh),by omega,by omega,λ_=>b4,d4⟩
  ·refine fS (λhc5=>?_) λhc5=>?_
   ·subst hc5
    refine gL (by assumption) (by omega) (by omega) λv4 k4 a4 b4 d4=>?_;try dsimp only
    exact fQ ⟨_,_,rfl,a4,by omega,λhh=>absurd hh (by decide),by omega,by omega,λhh=>absurd hh (by decide),d4⟩
   ·refine fS (λhc6=>?_) λhc6=>?_
    ·subst hc6
     refine gL (by assumption) (by omega) (by omega) λv4 k4 a4 b4 d4=>?_;try dsimp only
     exact fQ ⟨_,_,rfl,a4,by omega,λhh=>absurd hh (by decide),by omega,by omega,λhh=>absurd hh (by decide),d4⟩
    ·refine ge (λhu=>?_) λhu=>?_
     ·refine K6 (by assumption) λv4 k4 a4 b4 d4=>?_;try dsimp only
      (simp (disch:=omega) only [gD,gl,gf,gh])
      exact fQ ⟨_,_,rfl,a4,by omega,(λhh=>by rw[hu]at hh;cases hh),by omega,by omega,(λhh=>by rw[show n5 v0=false from hj]at hh;cases hh),d4⟩
     ·exact fQ ⟨_,_,rfl,by omega,by omega,λ_=>rfl,by omega,by omega,(λhh=>by rw[show n5 v0=false from hj]at hh;cases hh),d3⟩
 rintro _ ⟨xi,k4,rfl,hi0,Xs,Xt,hi3,hi4,hi5,d4⟩;exact fQ ⟨_,_,_,_,_,_,rfl,⟨⟨a0,by dsimp only;omega⟩,⟨Xh,YF,XY⟩,⟨hb0,ZJ,ZU⟩,⟨hc0,ZM,ZI⟩,⟨hi0,Xs,Xt⟩,hi3,hi4,hi5⟩,d4⟩
theorem pY{α β:Type}{l:List α}{i:Nat}{f:α->Option β}{Q:β->Prop}(P:α->Prop)(h:i<l.length)(hP:∀x∈l,P x)(h2:∀a,P a->Ok (f a) Q):Ok ((fT l i).bind f) Q:=gU h λa ha=>h2 a (hP a (fY ha))
theorem gy{α:Type}{P:α->Prop}:∀x∈([]:List α),P x:=λ_ h=>by cases h
theorem all_cons{α:Type}{P:α->Prop}{a:α}{l:List α}(h:P a)(h2:∀x∈l,P x):∀x∈a::l,P x:=by simp_all
theorem Ve(a b:Int):kT a b=some (1,a,0,0,b,()):=rfl
theorem Va(a b:Int):pu a b=some (2,a,b,0,0,()):=rfl
theorem SB(a:Int):jR a=some (23,0,0,0,a,()):=rfl
theorem WL{x:Int}(h:1<=x):1<=mmR false 5 x/\mmR false 5 x<=5:=by unfold mmR;simp;omega
def Mb(n at_:Int)(l:M_)(r:F_×M_×Int×Unit):Prop:=∃xs k',r=(xs,l,k',())/\1<=xs.length/\xs.length<=6/\(∀i∈xs,km n (at_+xs.length) i)/\DOk l k'
theorem E4{n at_:Int}{l:M_}{xs:F_}{k:Int}(h1:1<=xs.length/\xs.length<=6)(h2:∀i∈xs,km n (at_+xs.length) i)(h3:DOk l k):Ok (some (xs,l,k,())) (Mb n at_ l):=fQ ⟨xs,k,rfl,h1.1,h1.2,h2,h3⟩
theorem RV{s l:M_}{at_ k:Int}(h:DOk l k)(hs:A6 s)(ha:0<=at_/\at_<=99):Ok (sH s (at_+1) at_ l k) (Mb s.length at_ l):=by
 obtain⟨hs1,Os,hsz⟩:=hs
 have hn:1<=(s.length:Int)/\(s.length:Int)<=4:=by omega
 unfold sH;delta fZ;simp only[Ve,Va,SB,oBS]
 refine gL (by assumption) (by omega) (by omega) λvr kr ar br dr=>?_;try dsimp only
 refine gX λj hj=>?_;refine pY (λa=>1<=a/\a<=32) (by omega) hsz λz hz=>?_
 (simp (disch:=omega) only [gD,gl,gf,gh])
 have h5:=WL (x:=z+1) (by omega);generalize mmR false 5 (z+1)=mm at h5
 refine gL (by assumption) (by omega) (by omega) λvu ku au bu du=>?_;try dsimp only
 refine gL (by assumption) (by omega) (by omega) λvw kw aw bw dw=>?_;try dsimp only
 iterate 19
  refine fS (λhcc=>?_) λhcc=>?_
  ·repeat (first|(simp (disch:=omega) only [gD,gl,gf,gh])|(with_reducible refine gL (by assumption) (by omega) (by omega) (λv k a b d=>?_);try dsimp only)|(with_reducible refine K6 (by assumption) (λv k a b d=>?_);try dsimp only)|(with_reducible refine jt (by omega) (λj hj=>?_);try dsimp only)|((with_reducible first|refine pY (λa=>1<=a/\a<=32) (by omega) (by assumption) (λe he=>?_)|refine pY (λa=>3<=a/\a<=14) (by simp only[oLC,oLN];omega) (by(first|exact(all_cons (by omega) (all_cons (by omega) gy))|exact(all_cons (by omega) (all_cons (by omega) (all_cons (by omega) gy)))|exact(all_cons (by omega) (all_cons (by omega) (all_cons (by omega) (all_cons (by omega) (all_cons (by omega) (all_cons (by omega) (all_cons (by omega) (all_cons (by omega) gy)))))))))) (λe he=>?_)|refine pY (λa=>0<=a/\a<=15) (by simp only[oLC,oLN];omega) (by(first|exact(all_cons (by omega) (all_cons (by omega) gy))|exact(all_cons (by omega) (all_cons (by omega) (all_cons (by omega) gy)))|exact(all_cons (by omega) (all_cons (by omega) (all_cons (by omega) (all_cons (by omega) (all_cons (by omega) (all_cons (by omega) (all_cons (by omega) (all_cons (by omega) gy)))))))))) (λe he=>?_)|refine pY (λa=>1<=a/\a<=100) (by simp only[oLC,oLN];omega) (by(first|exact(all_cons (by omega) (all_cons (by omega) gy))|exact(all_cons (by omega) (all_cons (by omega) (all_cons (by omega) gy)))|exact(all_cons (by omega) (all_cons (by omega) (all_cons (by omega) (all_cons (by omega) (all_cons (by omega) (all_cons (by omega) (all_cons (by omega) (all_cons (by omega) gy)))))))))) (λe he=>?_));try dsimp only)|(with_reducible refine fR (gd (by first|omega|simp)) ?_;try dsimp only)|(refine pY (λ(a:F_)=>(1<=a.length/\a.length<=6)/\∀i∈a,km s.length (at_+a.length) i) (by simp only[oLC,oLN];omega) (all_cons ⟨by simp,by((repeat' (first|exact gy|refine all_cons ?_ ?_|exact HS (by omega) (by omega)|exact J8 (by omega) (by omega)|exact Bx (by omega)|exact Kc (by omega) (by omega) (by omega)|exact NM (by omega) (by omega) (by omega) (by omega)|exact J4 (by omega) (by omega) (by omega) (by omega)|exact Ko (by omega) (by omega) (by simp only[oLC,oLN];omega)));done)⟩ (all_cons ⟨by simp,by((repeat' (first|exact gy|refine all_cons ?_ ?_|exact HS (by omega) (by omega)|exact J8 (by omega) (by omega)|exact Bx (by omega)|exact Kc (by omega) (by omega) (by omega)|exact NM (by omega) (by omega) (by omega) (by omega)|exact J4 (by omega) (by omega) (by omega) (by omega)|exact Ko (by omega) (by omega) (by simp only[oLC,oLN];omega)));done)⟩ gy)) (λe he=>?_);try dsimp only))
   first
    |exact E4 he.1 he.2 (by assumption)
    |(refine E4 (by simp) ?_ (by assumption);try simp only[List.append_eq,List.cons_append,oNA]
      ((repeat' (first|exact gy|refine all_cons ?_ ?_|exact HS (by omega) (by omega)|exact J8 (by omega) (by omega)|exact Bx (by omega)|exact Kc (by omega) (by omega) (by omega)|exact NM (by omega) (by omega) (by omega) (by omega)|exact J4 (by omega) (by omega) (by omega) (by omega)|exact Ko (by omega) (by omega) (by simp only[oLC,oLN];omega)));done))
 refine(RA (by assumption) hn (by omega)).bind ?_;rintro _ ⟨o,a,b,c,i,k',rfl,hi,hd⟩;exact E4 (by simp) (all_cons (hi.mono (by simp)) gy) hd
theorem kX{α:Type}{P:α->Prop}{l m:List α}(h:∀x∈l,P x)(h2:∀x∈m,P x):∀x∈List.append l m,P x:=λx hx=>(oMA.1 (show x∈l++m from hx)).elim (h x) (h2 x)
theorem iq{α:Type}(l m:List α):(List.append l m).length=l.length+m.length:=oLA
theorem so{l:M_}{k n:Int}(h:DOk l k)(hn:0<=n/\n<=1000):Ok (iY n l k) λr=>∃ws k',r=(ws,l,k',())/\(ws.length:Int)<=n/\(∀w∈ws,W16 w)/\DOk l k':=by
 unfold iY
 (simp (disch:=omega) only [gD,gl,gf,gh])
 refine gL (by assumption) (by omega) (by omega) λv0 k0 a0 b0 d0=>?_;try dsimp only
 refine gO (P:=λ((c,l',k',s,_):Int×M_×Int×M_×Unit)=>l'=l/\DOk l k'/\0<=c/\c+s.length<=n/\∀x∈s,W16 x)
  (R:=λ((_,_,l',k',s,_):Int×Bool×M_×Int×M_×Unit)=>l'=l/\DOk l k'/\(s.length:Int)<=n/\∀x∈s,W16 x) (m:=λs=>s.1.toNat) ⟨rfl,d0,a0,by simp;omega,gy⟩ (by unfold NN;dsimp only;omega) ?_ ?_
 ·rintro⟨c,l',k3,s,_⟩ ⟨rfl,XG,hc0,hcs,hs⟩;unfold uk;dsimp only;refine fS (λhcc=>?_) λhcc=>?_
  ·refine K6 (by assumption) λv1 k1 a1 b1 d1=>?_;try dsimp only
   refine fR (gd (by simp;omega)) ?_
   (simp (disch:=omega) only [gD,gl,gf,gh])
   exact fQ ⟨⟨rfl,by omega,by omega,by rw[iq];simp;omega,kX hs (all_cons ⟨a1,b1⟩ gy)⟩,by omega⟩
  ·exact fQ ⟨rfl,XG,by dsimp only;omega,hs⟩
 rintro⟨a,b,l',k3,s,_⟩ ⟨rfl,XG,hs,hw⟩;exact fQ ⟨_,_,rfl,hs,hw,XG⟩
structure kj (code:F_)(s:M_)(d:j_):Prop where
 sz:A6 s
 len:d.length=s.length
 fit:∀(j:Nat) x n,d[j]?=some x->s[j]?=some n->(x.length:Int)<=n
 num:∀x∈d,∀w∈x,W16 w
 clen:1<=code.length/\code.length<=64
 ins:∀i∈code,km s.length code.length i
theorem LT{code:F_}{s:M_}{d:j_}{l:M_}{k:Int}(hp:kj code s d):Ok (gc jE NN ((code.length:Int),0,l,k,(),(),(),code,s,d,())) λr=>∃a b c,r=(a,b,c,l,k,(),(),(),code,s,d,()):=by
 have:=gO (f:=jE) (n:=NN) (Q:=λr=>∃a b c,r=(a,b,c,l,k,(),(),(),code,s,d,())) (s:=((code.length:Int),0,l,k,(),(),(),code,s,d,()))
  (P:=λs'=>∃i:Int,s'=((code.length:Int),i,l,k,(),(),(),code,s,d,())/\0<=i/\i<=code.length) (R:=λr=>∃a b c,r=(a,b,c,l,k,(),(),(),code,s,d,())) (m:=λs=>(s.1-s.2.1).toNat) ⟨0,rfl,by omega,by omega⟩ (by unfold NN;dsimp only;have:=hp.clen;omega) ?_ (λt ht=>fQ ht)
 simp_all
 ·rintro _ ⟨i,rfl,hi0,Xs⟩;unfold jE;dsimp only;have hc:=hp.clen;refine fS (λhcc=>?_) λhcc=>?_
  ·refine Ok.bind (P:=λr=>r=((code.length:Int),i,l,k,(),(),(),code,s,d,())) ?_ ?_
   ·refine jt (by omega) λj hj=>?_;try dsimp only
    refine f6 λx hx=>?_;have hin:=hp.ins x (fY hx);rw[wZ];refine ge (λhjp=>?_) λ_=>fQ rfl;refine gX λj2 hj2=>?_;refine f6 λy hy=>?_
    have hjj:j2=j:=by omega
    subst hjj;rw[hx]at hy
    injection hy with hy
    subst hy;have:=hin.jmp hjp;refine ge (λhcc=>?_) (λhcc=>?_)
    ·have h9:(x.2.2.2.2:Int)>=(code.length:Int):=of_decide_eq_true hcc;omega
    ·exact fQ rfl
   ·rintro _ rfl;dsimp only
    (simp (disch:=omega) only [gD,gl,gf,gh])
    exact fQ ⟨⟨i+1,rfl,by omega,by omega⟩,by dsimp only;omega⟩
  ·exact fQ ⟨_,_,_,rfl⟩
theorem MH{l:M_}{k:Int}(h:DOk l k):Ok (om l k) λr=>∃code s d k',r=(code,s,d,l,k',())/\kj code s d/\DOk l k':=by
 unfold om;refine(Qx h).bind ?_;rintro _ ⟨s,k1,rfl,hs,hd⟩;obtain⟨hs1,Os,hsz⟩:=id hs;dsimp only;delta fZ;try dsimp only
 refine gO (P:=λs'=>∃k' d,s'=((s.length:Int),(d.length:Int),l,k',(),(),(),(),s,d,())/\DOk l k'/\d.length<=s.length/\(∀(j:Nat) x n,d[j]?=some x->s[j]?=some n->(x.length:Int)<=n)/\∀x∈d,∀w∈x,W16 w)
  (R:=λr=>∃a b c k' d,r=(a,b,c,l,k',(),(),(),(),s,d,())/\DOk l k'/\d.length=s.length/\(∀(j:Nat) x n,d[j]?=some x->s[j]?=some n->(x.length:Int)<=n)/\∀x∈d,∀w∈x,W16 w)
  (m:=λs=>(s.1-s.2.1).toNat) ⟨k1,[],rfl,hd,by simp,by simp,gy⟩ (by unfold NN;dsimp only;omega) ?_ ?_
 ·rintro _ ⟨k',d,rfl,Yw,hdl,Z2,W6⟩;unfold rR;dsimp only;refine fS (λhcc=>?_) λhcc=>?_
  ·refine jt (by omega) λj hj=>?_;try dsimp only
   refine f6 λx hx=>?_;refine f6 λy hy=>?_
   have ZO:j=d.length:=by omega
   subst ZO;have Xb:=hsz y (fY hy);refine(so Yw ⟨by omega,by omega⟩).bind ?_;rintro _ ⟨ws,k2,rfl,hwl,hww,hd2⟩;dsimp only;refine fR (gd (by simp;omega)) ?_
   (simp (disch:=omega) only [gD,gl,gf,gh])
   refine fQ ⟨⟨k2,List.append d [ws],by rw[iq];simp,hd2,by rw[iq];simp;omega,?_,kX W6 (all_cons hww gy)⟩,by dsimp only;omega⟩;intro i x n hx hn;rw[show List.append d [ws]=d++[ws]from rfl,List.getElem?_append]at hx;split at hx
   ·exact Z2 i x n hx hn
   ·rename_i hge
    have:i-d.length=0:=by
     rcases Nat.eq_zero_or_pos (i-d.length)with h|h
     ·exact h
     ·rw[oGN (by simp;omega)]at hx;cases hx
    have hi:i=d.length:=by omega
    subst hi;simp at hx;subst hx;rw[hy]at hn
    injection hn with hn
    omega
  ·exact fQ ⟨_,_,_,_,_,rfl,Yw,by omega,Z2,W6⟩
 rintro _ ⟨a,b,c,k2,d,rfl,hd2,hdl,Z2,W6⟩;dsimp only;refine gL (by assumption) (by omega) (by omega) λv0 k0 a0 b0 d0=>?_;try dsimp only
 (simp (disch:=omega) only [gD,gl,gf,gh])
 refine gO (P:=λs'=>∃i k' code,s'=(i,l,k',(),(),(),code,s,d,())/\0<=i/\i<=12/\DOk l k'/\code.length<=62/\∀i∈code,km s.length code.length i)
  (R:=λr=>∃a b k' code,r=(a,b,l,k',(),(),(),code,s,d,())/\DOk l k'/\code.length<=62/\∀i∈code,km s.length code.length i)
  (m:=λs=>s.1.toNat) ⟨_,_,[],rfl,by omega,by omega,d0,by simp,gy⟩ (by unfold NN;dsimp only;omega) ?_ ?_
 rintro _ ⟨i,k',code,rfl,hi0,Xs,Yw,Y6,X9⟩;unfold rQ;dsimp only;refine fS (λhcc=>?_) λhcc=>?_;refine Ok.bind (P:=λr=>∃k' code,r=(i,l,k',(),(),(),code,s,d,())/\DOk l k'/\code.length<=62/\∀i∈code,km s.length code.length i) ?_ ?_
 ·(simp (disch:=omega) only [gD,gl,gf,gh])
  refine(RV Yw hs ⟨by omega,by omega⟩).bind ?_;rintro _ ⟨xs,k3,rfl,Z0,hx6,hxs,XG⟩;dsimp only
  (simp (disch:=omega) only [gD,gl,gf,gh])
  refine fS (λhcc=>?_) λhcc=>?_
  ·refine fR (gd (by omega)) ?_;refine fQ ⟨_,_,rfl,XG,by rw[iq];omega,?_⟩;rw[iq];exact kX (λi hi=>(X9 i hi).mono (by omega)) (λi hi=>(hxs i hi).mono (by omega))
  ·exact fQ ⟨_,_,rfl,XG,Y6,X9⟩
 rintro _ ⟨k3,YS,rfl,XG,hcl2,B'⟩;dsimp only
 (simp (disch:=omega) only [gD,gl,gf,gh])
 exact fQ ⟨⟨_,_,_,rfl,by omega,by omega,XG,hcl2,B'⟩,by dsimp only;omega⟩;exact fQ ⟨_,_,_,_,rfl,Yw,Y6,X9⟩;rintro _ ⟨a,b,k3,code,rfl,XG,Y6,X9⟩;dsimp only;refine Ok.bind (P:=λr=>∃k' code,r=(l,k',(),(),(),code,s,d,())/\DOk l k'/\code.length<=63/\∀i∈code,km s.length (code.length+1) i) ?_ ?_
 ·refine gL (by assumption) (by omega) (by omega) λv1 k1 a1 b1 d1=>?_;try dsimp only
  refine fS (λhcc=>?_) λhcc=>?_
  ·(simp (disch:=omega) only [gD,gl,gf,gh])
   refine gL (by assumption) (by omega) (by omega) λv2 k2 a2 b2 d2=>?_;try dsimp only
   refine fR (gd (by simp;omega)) ?_;refine fQ ⟨_,_,rfl,d2,by rw[iq];simp;omega,?_⟩;rw[iq];exact kX (λi hi=>(X9 i hi).mono (by simp;omega)) (all_cons (T3 (by omega) (by simp;omega)) gy)
  ·refine fS (λhcc=>?_) λhcc=>?_
   ·refine fR (gd (by simp;omega)) ?_;refine fQ ⟨_,_,rfl,d1,by rw[iq];simp;omega,?_⟩;rw[iq];exact kX (λi hi=>(X9 i hi).mono (by simp;omega)) (all_cons TC gy)
   ·exact fQ ⟨_,_,rfl,d1,by omega,λi hi=>(X9 i hi).mono (by omega)⟩
 rintro _ ⟨k4,YS,rfl,hd4,hcl2,B'⟩;dsimp only;refine gL (by assumption) (by omega) (by omega) λv3 k3 a3 b3 d3=>?_;try dsimp only
 simp only[Ve,SB,oBS];refine fR (gd (by simp;omega)) ?_;simp only[iq];refine ge (λhc=>?_) λ_=>?_;have ZK:∀i∈List.append YS [(1,0,0,0,v3),(23,0,0,0,0)],km s.length (YS.length+1) i:=kX B' (all_cons (HS (by omega) (by omega)) (all_cons (Bx (by omega)) gy));simp only[oDE]at hc;have hcn:(YS.length:Int)+2>64:=by have:((YS.length + [((1:Int),(0:Int),(0:Int),(0:Int),v3),(23,0,0,0,0)].length:Nat):Int)>64:=hc;simpa using this
 have h63:YS.length=63:=by omega
 refine fR (by rw[h63];rfl) ?_;have hlen:(nJ (List.append YS [((1:Int),(0:Int),(0:Int),(0:Int),v3),(23,0,0,0,0)]) 0 (Nat.sub 64 0)).length=64:=by unfold nJ;rw[oLT,List.drop_zero,iq,h63];rfl
 have hp:kj (nJ (List.append YS [((1:Int),(0:Int),(0:Int),(0:Int),v3),(23,0,0,0,0)]) 0 (Nat.sub 64 0)) s d:=by refine⟨hs,hdl,Z2,W6,by rw[hlen];decide,λi hi=>?_⟩;rw[hlen];refine(ZK i ?_).mono (by omega);unfold nJ at hi;exact List.mem_of_mem_drop (List.mem_of_mem_take hi)
 refine(LT (l:=l) (k:=_) hp).bind ?_;rintro _ ⟨a,b,c,rfl⟩;exact fQ ⟨_,_,_,_,rfl,hp,d3⟩;have hp:kj (List.append YS [(1,0,0,0,v3),(23,0,0,0,0)]) s d:=by refine⟨hs,hdl,Z2,W6,?_,?_⟩;rw[iq];rename_i hc;have hcn:¬((YS.length + [((1:Int),(0:Int),(0:Int),(0:Int),v3),(23,0,0,0,0)].length:Nat):Int)>64:=of_decide_eq_false hc;simp only[oLC,oLN]at hcn⊢;omega;rw[iq];exact kX (λi hi=>(B' i hi).mono (by simp)) (all_cons (HS (by omega) (by omega)) (all_cons (Bx (by omega)) gy))
 have hf:=LT (l:=l) (k:=k3) hp;rw[iq]at hf;refine hf.bind ?_;rintro _ ⟨a,b,c,rfl⟩;exact fQ ⟨_,_,_,_,rfl,hp,d3⟩
theorem L7{P:Int->Prop}{s:M_}{i:Nat}{x:Int}(h:∀(j:Nat) y,j<i->s[j]?=some y->P y)(hx:s[i]?=some x)(hp:P x):∀(j:Nat) y,j<i+1->s[j]?=some y->P y:=by grind
theorem NG{s:M_}(hl:s.length<=1000):Ok (iU s) λr=>r.1=true↔A6 s:=by
 unfold iU;delta fZ;try dsimp only
 obtain⟨t,e,ht⟩:=g9 (f:=oW) (n:=NN) (s:=(s,s,(s.length:Int),0,())) (P:=λs'=>∃i:Nat,s'=(s,s,(s.length:Int),(i:Int),())/\i<=s.length/\∀(j:Nat) y,j<i->s[j]?=some y->1<=y/\y<=32) (R:=λr=>(r=.inl (false,())/\∃y∈s,¬(1<=y/\y<=32))\/((∃a b c d,r=.inr (s,a,b,c,d,()))/\∀y∈s,1<=y/\y<=32)) (m:=λs'=>(s'.2.2.1-s'.2.2.2.1).toNat) ⟨0,rfl,by omega,λj y hj=>by omega⟩ (by unfold NN;dsimp only;omega) (by
  rintro _ ⟨i,rfl,hi,ZK⟩;unfold oW;refine fS (λhcc=>?_) λhcc=>?_;rw[fW];refine f6 λx hx=>?_;refine fS (λXF=>?_) λXF=>?_;exact fQ (.inl ⟨rfl,x,fY hx,by omega⟩);refine fS (λXp=>?_) λXp=>?_;exact fQ (.inl ⟨rfl,x,fY hx,by omega⟩)
  ·(simp (disch:=omega) only [gD,gl,gf,gh])
   exact fQ ⟨⟨i+1,rfl,by omega,L7 ZK hx ⟨by omega,by omega⟩⟩,by dsimp only;omega⟩
  refine fQ (.inr ⟨⟨_,_,_,_,rfl⟩,λy hy=>?_⟩);have ⟨j,hj⟩:=List.getElem?_of_mem hy;exact ZK j y (by have:=(oGS hj).1;omega) hj)
 rw[e];rcases ht with⟨rfl,y,hy,hn⟩|⟨⟨a,b,c,d,rfl⟩,ZK⟩;exact fQ ⟨λh=>(by cases h),λh=>absurd (h.2.2 y hy) hn⟩;dsimp only;refine fS (λhcc=>?_) λhcc=>?_;exact fQ ⟨λh=>⟨by omega,(by have:=of_decide_eq_true h;omega),ZK⟩,λh=>oDT (by have:=h.2.1;omega)⟩;exact fQ ⟨λh=>(by cases h),λh=>by have:=h.1;omega⟩
abbrev VS(xs:M_):Prop:=A6 xs
theorem PK{l:M_}{k:Nat}(h:k<l.length):l.getD k 0=l[k]:=by simp[List.getD,h]
def xo(bs ss:M_)(i:Nat):Prop:=0<=bs.getD i 0/\bs.getD i 0+ss.getD i 0<=512/\∀k,k<i->¬(bs.getD i 0<=bs.getD k 0+ss.getD k 0/\bs.getD k 0<=bs.getD i 0+ss.getD i 0)
def LV(bs ss:M_):Prop:=VS ss/\bs.length=ss.length/\∀i,i<bs.length->xo bs ss i
theorem VS.at_{ss:M_}(h:VS ss){i:Nat}(hi:i<ss.length):1<=ss[i]/\ss[i]<=32:=h.2.2 _ (oGX hi)
def wd(ss:M_)(seed:Int):Nat->M_×Int|0=>(List.replicate ss.length 0,1+seed/ss.length%50)|k+1=>((wd ss seed k).1.set (((k+seed)%ss.length).toNat) (wd ss seed k).2,(wd ss seed k).2+(ss.getD ((k+seed)%ss.length).toNat 0+1+seed/(50*ss.length)%40))
def mkB(ss:M_)(seed:Int):M_:=(wd ss seed ss.length).1
theorem Ro(ss:M_)(seed:Int)(k:Nat):(wd ss seed k).1.length=ss.length:=by induction k with|zero=>simp[wd]|succ k ih=>simp[wd,ih]
theorem VS.getD{ss:M_}(h:VS ss){i:Nat}(hi:i<ss.length):1<=ss.getD i 0/\ss.getD i 0<=32:=by rw[PK hi];exact h.at_ hi
theorem SF{n k:Nat}{seed:Int}(hn:1<=n):0<=((k:Int)+seed)%n/\((k:Int)+seed)%n<n:=⟨Int.emod_nonneg _ (by omega),Int.emod_lt_of_pos _ (by omega)⟩
theorem TS{ss:M_}{seed:Int}(h:VS ss)(hs:0<=seed)(k:Nat):1<=(wd ss seed k).2/\(wd ss seed k).2<=50+72*k:=by induction k with|zero=>simp[wd];omega|succ k ih=>simp only[wd];have hr:=SF (k:=k) (seed:=seed) h.1;have:=h.getD (i:=(((k:Int)+seed)%ss.length).toNat) (by omega);omega
theorem Ph{ss:M_}(h0:1<=ss.length)(h1:ss.length<=4):(∃a,ss=[a])\/(∃a b,ss=[a,b])\/(∃a b c,ss=[a,b,c])\/(∃a b c d,ss=[a,b,c,d]):=by match ss,h0,h1 with| [a],_,_=>simp_all| [a,b],_,_=>simp_all| [a,b,c],_,_=>simp_all| [a,b,c,d],_,_=>simp_all
theorem Ba{P:Nat->Prop}(h0:P 0):∀i,i<1->P i:=by simp_all
theorem EY{P:Nat->Prop}(h0:P 0)(h1:P 1):∀i,i<2->P i:=by grind
theorem Lu{P:Nat->Prop}(h0:P 0)(h1:P 1)(h2:P 2):∀i,i<3->P i:=by grind
theorem Q2{P:Nat->Prop}(h0:P 0)(h1:P 1)(h2:P 2)(h3:P 3):∀i,i<4->P i:=by grind
def Qk(b s:Int):Prop:=0<=b/\b+s<=512
def jb(b s b' s':Int):Prop:=¬(b<=b'+s'/\b'<=b+s)
theorem LV1{a x:Int}(hv:VS [a])(h:Qk x a):LV [x] [a]:=⟨hv,rfl,Ba ⟨h.1,h.2,λk hk=>by omega⟩⟩
theorem LV2{a b x y:Int}(hv:VS [a,b])(h:Qk x a)(h':Qk y b)(h1:jb y b x a):LV [x,y] [a,b]:=⟨hv,rfl,EY ⟨h.1,h.2,λk hk=>by omega⟩ ⟨h'.1,h'.2,Ba h1⟩⟩
theorem LV3{a b c x y z:Int}(hv:VS [a,b,c])(h:Qk x a)(h':Qk y b)(h'':Qk z c)(h1:jb y b x a)(h2:jb z c x a)(h3:jb z c y b):LV [x,y,z] [a,b,c]:=⟨hv,rfl,Lu ⟨h.1,h.2,λk hk=>by omega⟩ ⟨h'.1,h'.2,Ba h1⟩ ⟨h''.1,h''.2,EY h2 h3⟩⟩
theorem LV4{a b c d x y z u:Int}(hv:VS [a,b,c,d])(h:Qk x a)(h':Qk y b)(h'':Qk z c)(h''':Qk u d)(h1:jb y b x a)(h2:jb z c x a)(h3:jb z c y b)(h4:jb u d x a)(h5:jb u d y b)(h6:jb u d z c):LV [x,y,z,u] [a,b,c,d]:=⟨hv,rfl,Q2 ⟨h.1,h.2,λk hk=>by omega⟩ ⟨h'.1,h'.2,Ba h1⟩ ⟨h''.1,h''.2,EY h2 h3⟩ ⟨h'''.1,h'''.2,Lu h4 h5 h6⟩⟩
theorem VR{ss:M_}(hv:VS ss){seed:Int}(hs:0<=seed):LV (mkB ss seed) ss:=by
 have YQ:=hv;rcases Ph hv.1 hv.2.1 with⟨a,rfl⟩|⟨a,b,rfl⟩|⟨a,b,c,rfl⟩|⟨a,b,c,d,rfl⟩;obtain⟨_,_,hx⟩:=hv;have ha:=hx a (by simp);have e0:(((0:Nat):Int)+seed)%1=0:=by omega
 have hB:mkB [a] seed=[1+seed/1%50]:=by simp[mkB,wd,List.replicate]
 rw[hB];exact LV1 YQ ⟨by omega,by omega⟩;obtain⟨_,_,hx⟩:=hv;have ha:=hx a (by simp);have hb:=hx b (by simp);rcases(show seed%2=0\/seed%2=1 by omega)with ht|ht;have e1:(1+seed)%2=1:=by omega
 simp only[mkB,wd,oLC,oLN,List.replicate];simp[ht,e1];exact LV2 YQ ⟨by omega,by omega⟩ ⟨by omega,by omega⟩ (by unfold jb;omega);have e1:(1+seed)%2=0:=by omega
 simp only[mkB,wd,oLC,oLN,List.replicate];simp[ht,e1];exact LV2 YQ ⟨by omega,by omega⟩ ⟨by omega,by omega⟩ (by unfold jb;omega);obtain⟨_,_,hx⟩:=hv;have ha:=hx a (by simp);have hb:=hx b (by simp);have hc:=hx c (by simp);rcases(show seed%3=0\/seed%3=1\/seed%3=2 by omega)with ht|ht|ht;have e1:(1+seed)%3=1:=by omega
 have e2:(2+seed)%3=2:=by omega
 simp only[mkB,wd,oLC,oLN,List.replicate];simp[ht,e1,e2];exact LV3 YQ ⟨by omega,by omega⟩ ⟨by omega,by omega⟩ ⟨by omega,by omega⟩ (by unfold jb;omega) (by unfold jb;omega) (by unfold jb;omega);have e1:(1+seed)%3=2:=by omega
 have e2:(2+seed)%3=0:=by omega
 simp only[mkB,wd,oLC,oLN,List.replicate];simp[ht,e1,e2];exact LV3 YQ ⟨by omega,by omega⟩ ⟨by omega,by omega⟩ ⟨by omega,by omega⟩ (by unfold jb;omega) (by unfold jb;omega) (by unfold jb;omega);have e1:(1+seed)%3=0:=by omega
 have e2:(2+seed)%3=1:=by omega
 simp only[mkB,wd,oLC,oLN,List.replicate];simp[ht,e1,e2];exact LV3 YQ ⟨by omega,by omega⟩ ⟨by omega,by omega⟩ ⟨by omega,by omega⟩ (by unfold jb;omega) (by unfold jb;omega) (by unfold jb;omega);obtain⟨_,_,hx⟩:=hv;have ha:=hx a (by simp);have hb:=hx b (by simp);have hc:=hx c (by simp);have hd:=hx d (by simp);have hq:∀q g:Int,q=1+seed/4%50->g=seed/(50*4)%40->1<=q/\q<=50/\0<=g/\g<40:=λq g e e'=>by subst e;subst e';omega
 rcases(show seed%4=0\/seed%4=1\/seed%4=2\/seed%4=3 by omega)with ht|ht|ht|ht;have e1:(1+seed)%4=1:=by omega
 have e2:(2+seed)%4=2:=by omega
 have e3:(3+seed)%4=3:=by omega
 simp only[mkB,wd,oLC,oLN,List.replicate];simp[ht,e1,e2,e3];exact LV4 YQ ⟨by omega,by omega⟩ ⟨by omega,by omega⟩ ⟨by omega,by omega⟩ ⟨by omega,by omega⟩ (by unfold jb;omega) (by unfold jb;omega) (by unfold jb;omega) (by unfold jb;omega) (by unfold jb;omega) (by unfold jb;omega);have e1:(1+seed)%4=2:=by omega
 have e2:(2+seed)%4=3:=by omega
 have e3:(3+seed)%4=0:=by omega
 simp only[mkB,wd,oLC,oLN,List.replicate];simp[ht,e1,e2,e3];exact LV4 YQ ⟨by omega,by omega⟩ ⟨by omega,by omega⟩ ⟨by omega,by omega⟩ ⟨by omega,by omega⟩ (by unfold jb;omega) (by unfold jb;omega) (by unfold jb;omega) (by unfold jb;omega) (by unfold jb;omega) (by unfold jb;omega);have e1:(1+seed)%4=3:=by omega
 have e2:(2+seed)%4=0:=by omega
 have e3:(3+seed)%4=1:=by omega
 simp only[mkB,wd,oLC,oLN,List.replicate];simp[ht,e1,e2,e3];exact LV4 YQ ⟨by omega,by omega⟩ ⟨by omega,by omega⟩ ⟨by omega,by omega⟩ ⟨by omega,by omega⟩ (by unfold jb;omega) (by unfold jb;omega) (by unfold jb;omega) (by unfold jb;omega) (by unfold jb;omega) (by unfold jb;omega);have e1:(1+seed)%4=0:=by omega
 have e2:(2+seed)%4=1:=by omega
 have e3:(3+seed)%4=2:=by omega
 simp only[mkB,wd,oLC,oLN,List.replicate];simp[ht,e1,e2,e3];exact LV4 YQ ⟨by omega,by omega⟩ ⟨by omega,by omega⟩ ⟨by omega,by omega⟩ ⟨by omega,by omega⟩ (by unfold jb;omega) (by unfold jb;omega) (by unfold jb;omega) (by unfold jb;omega) (by unfold jb;omega) (by unfold jb;omega)
theorem Eo{α:Type}(l:List α)(i:Nat)(a:α):List.modify l i (λ_=>a)=l.set i a:=by apply oEG;grind
theorem TY{s:M_}{seed:Int}(hs:A6 s)(h0:0<=seed)(h1:seed<=1073741824):Ok (q9 s seed) λr=>∃key,r=(mkB s seed,key,0,())/\W16 key:=by
 obtain⟨hs1,Os,hsz⟩:=id hs;unfold q9;delta fZ;try dsimp only
 refine Ok.bind (P:=λr=>r=(s,seed,false,(),0,())) ?_ ?_;refine(NG (by omega)).bind ?_;rintro⟨v,_⟩ hv;have hv:v=true:=hv.2 hs;subst hv;simp only[oNT,oCF];refine fS (λZ1=>?_) λZ1=>?_;omega;exact fQ (by rw[oDF (by omega)]);rintro _ rfl;dsimp only;refine ge (λh=>by cases h) λ_=>?_;rw[fW];simp only[oBS];refine fR (by unfold xH;rw[oBA];exact⟨oDT rfl,oDT (by omega)⟩) ?_;refine fR (by rw[bne_iff_ne];omega) ?_;have Yn:Int.tdiv seed s.length=seed/s.length:=Int.tdiv_eq_ediv_of_nonneg h0;have hq:0<=seed/(s.length:Int)/\seed/(s.length:Int)<=seed:=⟨Int.ediv_nonneg h0 (by omega),Int.ediv_le_self _ h0⟩;have hm1:Int.tmod (seed/(s.length:Int)) 50=seed/(s.length:Int)%50:=oTE hq.1;rw[Yn,iE (x:=seed/(s.length:Int)),hm1,iE (x:=1+seed/(s.length:Int)%50)];have Xu:W16 (wk .u16 (w64 (40503*seed))):=by unfold wk;rw[EN];exact⟨by omega,by omega⟩
 generalize wk .u16 (w64 (40503*seed))=key at Xu;refine gO (P:=λs'=>∃k:Nat,s'=(s,seed,(s.length:Int),(wd s seed k).2,(s.length:Int),(k:Int),(),0,(wd s seed k).1,key,())/\k<=s.length) (R:=λr=>∃a b c d e f g h,r=(a,b,c,d,e,f,g,(),h,(wd s seed s.length).1,key,()))
  (m:=λs'=>(s'.2.2.2.2.1-s'.2.2.2.2.2.1).toNat) ⟨0,rfl,by omega⟩ (by unfold NN;dsimp only;omega) ?_ ?_
 rintro _ ⟨k,rfl,hk⟩;unfold ui;dsimp only;have hb:=TS hs h0 k;refine fS (λhcc=>?_) λhcc=>?_;have hr:=SF (k:=k) (seed:=seed) hs1;rw[iE (x:=(k:Int)+seed)];refine fR (by rw[bne_iff_ne];omega) ?_;rw[oTE (show 0<=(k:Int)+seed by omega)];refine jt hr.1 λr hrr=>?_;have hl:=Ro s seed k;refine f6 λx hx=>?_;refine f6 λy hy=>?_;refine jt hr.1 λr2 hrr2=>?_;have:r2=r:=by omega
 subst this;refine f6 λz hz=>?_;have Xm:=hsz z (fY hz);rw[iE (x:=z+1),iE (x:=50*(s.length:Int))];refine fR (by rw[bne_iff_ne];omega) ?_;have hd2:Int.tdiv seed (50*(s.length:Int))=seed/(50*s.length):=Int.tdiv_eq_ediv_of_nonneg h0;have Y3:0<=seed/(50*(s.length:Int))/\seed/(50*(s.length:Int))<=seed:=⟨Int.ediv_nonneg h0 (by omega),Int.ediv_le_self _ h0⟩;have hm3:Int.tmod (seed/(50*(s.length:Int))) 40=seed/(50*s.length)%40:=oTE Y3.1;rw[hd2,iE (x:=seed/(50*(s.length:Int))),hm3];generalize hg:seed/(50*(s.length:Int))%40=g;have Zu:0<=g/\g<40:=by omega
 rw[iE (x:=z+1+g),iE (x:=(wd s seed k).2+(z+1+g)),iE (x:=(k:Int)+1),Eo];have e1:(wd s seed (k+1)).1=(wd s seed k).1.set r2 (wd s seed k).2:=by simp only[wd];rw[hrr];rfl
 have e2:(wd s seed (k+1)).2=(wd s seed k).2+(z+1+g):=by simp only[wd];rw[hrr,hg,oTN,oGD,hz];rfl
 refine fQ ⟨⟨k+1,?_,by omega⟩,by dsimp only;omega⟩;rw[e1,e2];rfl;have:k=s.length:=by omega
 subst this;exact fQ ⟨_,_,_,_,_,_,_,_,rfl⟩;rintro _ ⟨a,b,c,d,e,f,g,h,rfl⟩;exact fQ ⟨key,rfl,Xu⟩
theorem nO{S T:Type}{f:S->Option (S⊕T)}(st:Nat->S){n N:Nat}{t:T}(hn:n<N)(h:∀i,i<n->Ok (f (st i)) (·=.inl (st (i+1))))(he:Ok (f (st n)) (·=.inr t)):gc f N (st 0)=some t:=by
 have key:∀k i,i+k=n->∀N,k<N->gc f N (st i)=some t:=by
  intro k;induction k with
  |zero=>
  intro i hi N hN;obtain⟨x,e,hx⟩:=he;have:i=n:=by omega
  subst this;obtain⟨N',rfl⟩:∃N',N=N'+1:=⟨N-1,by omega⟩;simp[gc,e,hx]
  |succ k ih=>intro i hi N hN;have ⟨x,e,hx⟩:=h i (by omega);obtain⟨N',rfl⟩:∃N',N=N'+1:=⟨N-1,by omega⟩;simp[gc,e,hx];exact ih (i+1) (by omega) N' (by omega)
 simp_all
theorem gV{α:Type}{o:Option α}{a:α}(h:Ok o (·=a)):o=some a:=by obtain⟨x,e,rfl⟩:=h;exact e
theorem gu{l:M_}{k:Nat}{x:Int}(h:l[k]?=some x):l.getD k 0=x:=by simp_all
theorem vq{s:M_}(h:A6 s):iU s=some (true,()):=by have ⟨⟨v,u⟩,e,hv⟩:=NG (s:=s) (by have:=h.2.1;omega);simp_all
theorem vp{bs ss:M_}{key:Int}(h:LV bs ss):jQ bs key ss=some (true,()):=by
 obtain⟨hs,hl,hr⟩:=h;have h4:=hs.2.1;unfold jQ;rw[vq hs];delta fZ;simp only[oBS,oNT,oCF,hl,oBN];have e:gc mg NN (ss,bs,(ss.length:Int),0,bs,key,())=some (.inr (ss,bs,(ss.length:Int),(ss.length:Int),false,bs,key,())):=by
  refine nO (st:=λi=>(ss,bs,(ss.length:Int),(i:Int),bs,key,())) (n:=ss.length) (by unfold NN;omega) ?_ ?_;intro i hi;unfold mg;dsimp only;have hri:=hr i (by omega);unfold xo at hri;refine fS (λZ'=>?_) λZ'=>?_;rw[fW];simp only[oBS];refine f6 λb hb=>?_;rw[gu hb]at hri;refine fS (λZ1=>?_) λZ1=>?_;omega;refine f6 λz hz=>?_;rw[gu hz]at hri;have Xm:=hs.2.2 z (fY hz)
  (simp (disch:=omega) only [gD,gl,gf,gh])
  refine fS (λhcc=>?_) λhcc=>?_;omega;refine fR (by unfold iQ;simp;omega) ?_;have hwl:(nJ bs 0 (Nat.sub i 0)).length=i:=by unfold nJ;rw[oLT,List.drop_zero];show min i _=i;omega
  rw[hwl];have e:gc mh NN (ss,(i:Int),b,bs,(ss.length:Int),(i:Int),nJ bs 0 (Nat.sub i 0),(i:Int),0,bs,key,())=some (.inr (ss,(i:Int),b,bs,(ss.length:Int),(i:Int),nJ bs 0 (Nat.sub i 0),(i:Int),(i:Int),false,bs,key,())):=by
   refine nO (st:=λj=>(ss,(i:Int),b,bs,(ss.length:Int),(i:Int),nJ bs 0 (Nat.sub i 0),(i:Int),(j:Int),bs,key,())) (n:=i) (by unfold NN;omega) ?_ ?_;intro j hj;unfold mh;dsimp only;refine fS (λZ'=>?_) λZ'=>?_;rw[fW,fW];simp only[oBS];have hx:(fT (nJ bs 0 (Nat.sub i 0)) j)=bs[j]?:=by unfold fT nJ;rw[List.getElem?_take,List.drop_zero];exact oIP hj
   rw[hx];obtain⟨c,hc⟩:=gv bs j (by omega);obtain⟨y,hy⟩:=gv ss j (by omega);have Xb:=hs.2.2 y (fY hy);have QA:fT ss i=some z:=hz;have hy':fT ss j=some y:=hy;rw[hc,QA,hy'];simp only[oBS];have hrj:=(hr j (by omega)).1;have hrj2:=(hr j (by omega)).2.1;rw[gu hc]at hrj hrj2;rw[gu hy]at hrj2;have Yg:=hri.2.2 j hj;rw[gu hc,gu hy]at Yg;rw[iE (x:=b+z),iE (x:=c+y)];by_cases h1:b+z>=c;have h2:¬c+y>=b:=by omega
   simp only[h1,h2,decide_true,decide_false,oCT,oCF]
   (simp (disch:=omega) only [gD,gl,gf,gh])
   exact fQ rfl;simp only[h1,decide_false,oCF]
   (simp (disch:=omega) only [gD,gl,gf,gh])
   exact fQ rfl;omega;unfold mh;dsimp only;refine fS (λZ'=>?_) λZ'=>?_;omega;exact fQ rfl
  rw[e]
  (simp (disch:=omega) only [gD,gl,gf,gh])
  exact fQ rfl;omega;unfold mg;dsimp only;refine fS (λZ'=>?_) λZ'=>?_;omega;exact fQ rfl
 rw[e]
theorem Px{n m o a b c i:Int}(h:km n m (o,a,b,c,i))(hn:n<=4)(hm:m<=64):pm o a b c i=some (true,()):=by
 obtain⟨⟨o0,o1⟩,⟨a0,a1,a2⟩,⟨b0,b1,b2⟩,⟨c0,c1,c2⟩,⟨i0,i1,i2⟩,hl,hs,hj⟩:=h;dsimp only at *;have Yd:∀(k:Nat)(x:Int)(u:Bool),k<3->[a,b,c][k]?=some x->(k=0->u=tW o)->(k=1->u=tV o)->(k=2->u=tU o)->0<=x->x<8->(u=false->x=0)->Ok (me (3,(k:Int),o,a,b,c,i,tW o,tV o,tU o,tT o,[a,b,c],())) (·=.inl (3,((k+1:Nat):Int),o,a,b,c,i,tW o,tV o,tU o,tT o,[a,b,c],())):=by
  intro k x u hk hx h0 h1 h2 hx0 Z0 Y4;unfold me;dsimp only;refine fS (λZ'=>?_) λZ'=>?_;rw[fW];simp only[oBS];rw[show fT [a,b,c] k=some x from hx];simp only[oBS];rw[oDF (show ¬x<0 by omega),oDF (show ¬x>=8 by omega)];simp only[oCF];have ZS:Ok (some ((3:Int),(k:Int),false,o,a,b,c,i,tW o,tV o,tU o,tT o,[a,b,c],())) (·=((3:Int),(k:Int),false,o,a,b,c,i,tW o,tV o,tU o,tT o,[a,b,c],())):=fQ rfl;have fin2:u=false->(x != 0)=false:=λh=>by rw[Y4 h];rfl
  refine Ok.bind (P:=(·=((3:Int),(k:Int),false,o,a,b,c,i,tW o,tV o,tU o,tT o,[a,b,c],()))) ?_ ?_;rcases(show k=0\/k=1\/k=2 by omega)with rfl|rfl|rfl;rw[<- h0 rfl]at ZS⊢;refine fR rfl ?_;refine ge (λhu=>?_) λ_=>ZS;rw[fin2 (by simpa using hu)];exact ZS;rw[<- h1 rfl]at ZS⊢;refine ge (λhu=>by cases hu) λ_=>fR rfl (ge (λhu=>?_) λ_=>ZS);rw[fin2 (by simpa using hu)];exact ZS;rw[<- h2 rfl]at ZS⊢;refine ge (λhu=>by cases hu) λ_=>ge (λhu=>by cases hu) λ_=>fR rfl (ge (λhu=>?_) λ_=>ZS);rw[fin2 (by simpa using hu)];exact ZS;rintro _ rfl;dsimp only;rw[iE (x:=(k:Int)+1)];exact fQ rfl;omega
 have e:gc me NN (3,0,o,a,b,c,i,tW o,tV o,tU o,tT o,[a,b,c],())=some (.inr (3,3,false,o,a,b,c,i,tW o,tV o,tU o,tT o,[a,b,c],())):=by refine nO (st:=λk=>(3,(k:Int),o,a,b,c,i,tW o,tV o,tU o,tT o,[a,b,c],())) (n:=3) (by unfold NN;omega) ?_ ?_;intro k hk;rcases(show k=0\/k=1\/k=2 by omega)with rfl|rfl|rfl;exact Yd 0 a _ (by omega) rfl (λ_=>rfl) (by omega) (by omega) a0 a1 a2;exact Yd 1 b _ (by omega) rfl (by omega) (λ_=>rfl) (by omega) b0 b1 b2;exact Yd 2 c _ (by omega) rfl (by omega) (by omega) (λ_=>rfl) c0 c1 c2;exact fQ rfl
 refine gV ?_;unfold pm;rw[oDF (show ¬o<0 by omega),oDF (show ¬o>24 by omega),JL o0 o1];simp only[oCF,oBS];rw[show fZ [a,b,c].length=3 from rfl,e];dsimp only;rw[oDF (show ¬i<0 by omega),oDF (show ¬i>65535 by omega)];simp only[oCF];refine Ok.bind (P:=(·=(false,o,a,b,c,i,()))) ?_ ?_;refine ge (λhu=>?_) λ_=>fQ rfl;exact fQ (by rw[i2 (by simpa using hu)];rfl);rintro _ rfl;dsimp only;rw[wZ];simp only[oCF,oBS];refine ge (λhu=>?_) λ_=>?_;exact fQ (by rw[oDT (by have:=hj hu;omega)]);refine fS (λhcc=>?_) λhcc=>?_;exact fQ (by rw[oDT (by have:=hl hcc;omega)]);refine fS (λXF=>?_) λXF=>?_;exact fQ (by rw[oDT (by have:=hs XF;omega)]);exact fQ rfl
theorem GU{code:F_}{s:M_}{d:j_}(h:kj code s d):ln code s d=some (0,()):=by
 have hs:=h.sz;have Os:=hs.2.1;have hc:=h.clen;have hl:=h.len;have e0:gc md NN (d,(d.length:Int),0,code,s,d,())=some (.inr (d,(d.length:Int),(d.length:Int),false,code,s,d,())):=by
  refine nO (st:=λk=>(d,(d.length:Int),(k:Int),code,s,d,())) (n:=d.length) (by unfold NN;omega) ?_ ?_;intro k hk;unfold md;dsimp only;refine fS (λZ'=>?_) λZ'=>?_;rw[fW];delta fZ;simp only[oBS];refine f6 λx hx=>?_;refine f6 λy hy=>?_;have:=h.fit k x y hx hy;refine fS (λZ1=>?_) λZ1=>?_;omega
  ·(simp (disch:=omega) only [gD,gl,gf,gh])
   exact fQ rfl
  omega;unfold md;dsimp only;refine fS (λZ'=>?_) λZ'=>?_;omega;exact fQ rfl
 have e1:gc mc NN (code,(code.length:Int),0,code,s,d,())=some (.inr (code,(code.length:Int),(code.length:Int),false,code,s,d,())):=by
  refine nO (st:=λk=>(code,(code.length:Int),(k:Int),code,s,d,())) (n:=code.length) (by unfold NN;omega) ?_ ?_;intro k hk;unfold mc;dsimp only;refine fS (λZ'=>?_) λZ'=>?_;rw[fW];simp only[oBS];refine f6 λx hx=>?_;obtain⟨o,a,b,c,i⟩:=x;rw[Px (h.ins _ (fY hx)) (by omega) (by omega)]
  (simp (disch:=omega) only [gD,gl,gf,gh])
  exact fQ rfl;omega;unfold mc;dsimp only;refine fS (λZ'=>?_) λZ'=>?_;omega;exact fQ rfl
 have e3:gc mb NN (code,(code.length:Int),0,code,s,d,())=some (.inr (code,(code.length:Int),(code.length:Int),false,code,s,d,())):=by
  refine nO (st:=λk=>(code,(code.length:Int),(k:Int),code,s,d,())) (n:=code.length) (by unfold NN;omega) ?_ ?_;intro k hk;unfold mb;dsimp only;refine fS (λZ'=>?_) λZ'=>?_;rw[fW];simp only[oBS];refine f6 λx hx=>?_;have hp:=h.ins x (fY hx);rw[wZ];simp only[oBS];refine Ok.bind (P:=(·=(code,(code.length:Int),(k:Int),false,code,s,d,()))) ?_ ?_;refine ge (λhj=>?_) λ_=>?_;have:=hp.jmp hj;refine fS (λZ1=>?_) λZ1=>?_;have Z1:x.2.2.2.2>=(code.length:Int):=Z1;omega;refine fS (λhcc=>?_) λhcc=>?_;exact fQ (by rw[oDF (show ¬x.2.2.2.2>=fZ s.length by rw[gh];have:=hp.lea hcc;omega)]);exact fQ rfl;refine fS (λhcc=>?_) λhcc=>?_;exact fQ (by rw[oDF (show ¬x.2.2.2.2>=fZ s.length by rw[gh];have:=hp.lea hcc;omega)]);exact fQ rfl;rintro _ rfl;dsimp only;simp only[oCF]
  (simp (disch:=omega) only [gD,gl,gf,gh])
  exact fQ rfl;omega;unfold mb;dsimp only;refine fS (λZ'=>?_) λZ'=>?_;omega;exact fQ rfl
 refine gV ?_;unfold ln;rw[vq hs];delta fZ;simp only[oBS,oNT,oCF,hl,oBN];rw[hl]at e0;rw[e0];dsimp only;refine fS (λZ'=>?_) λZ'=>?_;omega;refine fS (λZ1=>?_) λZ1=>?_;omega;rw[e1];dsimp only;rw[e3];exact fQ rfl
def RK(bs ss:M_)(a:Int):Prop:=∃(j:Nat)(b z:Int),bs[j]?=some b/\ss[j]?=some z/\b<=a/\a<b+z
def n9(K:Int->Prop)(c:DCe):Prop:=0<=c.1/\c.1<=2/\0<=c.2/\c.2<=65535/\(c.1=1->K c.2)
theorem n9.mono{K K':Int->Prop}{c:DCe}(h:n9 K c)(hk:∀a,K a->K' a):n9 K' c:=⟨h.1,h.2.1,h.2.2.1,h.2.2.2.1,λe=>hk _ (h.2.2.2.2 e)⟩
theorem kf{K:Int->Prop}{v:Int}(h:0<=v/\v<=65535):n9 K (0,v):=⟨by omega,by omega,h.1,h.2,λe=>absurd (show(0:Int)=1 from e) (by decide)⟩
def VQ(K:Int->Prop)(i:Nat)(x:DLn):Prop:=(x.1=-1/\x.2.1=false/\x.2.2=[])\/(0<=x.1/\x.1<128/\x.1%4=i/\x.2.2.length=4/\∀c∈x.2.2,n9 K c)
def VW(cs:C_)(x:DLn):Prop:=x.1=-1\/x.2.1=true\/∀o:Nat,o<4->cs[(x.1*4).toNat+o]?=x.2.2[o]?
structure i9 (K:Int->Prop)(cs:C_)(ls:G_):Prop where
 clen:cs.length=512
 cells:∀c∈cs,n9 K c
 llen:ls.length=4
 lines:∀(i:Nat) x,ls[i]?=some x->VQ K i x
 coh:∀(i:Nat) x,ls[i]?=some x->VW cs x
structure zD (K:Int->Prop)(n:Int)(t:DTh):Prop where
 state:0<=t.1/\t.1<=4
 len:t.2.1.length=8
 regs:∀c∈t.2.1,n9 K c
 pc:0<=t.2.2.1/\t.2.2.1<=255
 count:0<=t.2.2.2.1/\t.2.2.2.1<=n
 handler:-1<=t.2.2.2.2.1/\t.2.2.2.2.1<=255
 saved:-1<=t.2.2.2.2.2.1/\t.2.2.2.2.2.1<=255
 trap:0<=t.2.2.2.2.2.2.1/\t.2.2.2.2.2.2.1<=6
 code:W16 t.2.2.2.2.2.2.2
structure MOk (n:Int)(ss bs:M_)(cs:C_)(ls:G_)(ts:J_):Prop where
 lay:LV bs ss
 mem:i9 (RK bs ss) cs ls
 tlen:ts.length=4
 thr:∀t∈ts,zD (RK bs ss) n t
theorem L8{K:Int->Prop}{l:C_}(hl:l.length<=1000)(h:∀c∈l,n9 K c):qf l=some (true,()):=by
 have e:gc oh NN (l,(l.length:Int),0,())=some (.inr (l,(l.length:Int),(l.length:Int),false,())):=by
  refine nO (st:=λk=>(l,(l.length:Int),(k:Int),())) (n:=l.length) (by unfold NN;omega) ?_ ?_;intro k hk;unfold oh;refine fS (λZ'=>?_) λZ'=>?_;rw[fW];refine f6 λx hx=>?_;have:=h x (fY hx);unfold ng;rw[oDT (show x.1<=2 from this.2.1)]
  (simp (disch:=omega) only [gD,gl,gf,gh])
  exact fQ rfl;omega;unfold oh;refine fS (λZ'=>?_) λZ'=>?_;omega;exact fQ rfl
 refine gV ?_;unfold qf;delta fZ;try dsimp only
 rw[e];exact fQ rfl
theorem Mh{K:Int->Prop}{cs:C_}{ls:G_}(h:i9 K cs ls):pn cs ls=some (true,()):=by
 obtain⟨h1,h2,h3,h4,_⟩:=h;have e:gc mf NN (ls,4,0,cs,ls,())=some (.inr (ls,4,4,false,cs,ls,())):=by
  refine nO (st:=λk=>(ls,4,(k:Int),cs,ls,())) (n:=4) (by unfold NN;omega) ?_ ?_;intro k hk;unfold mf;dsimp only;refine fS (λZ'=>?_) λZ'=>?_;rw[fW];simp only[oBS];refine f6 λx hx=>?_;rcases h4 k x hx with⟨e1,e2,e3⟩|⟨g1,g2,g3,g4,g5⟩;rw[e1,e2,e3]
  (simp (disch:=omega) only [gD,gl,gf,gh])
  exact fQ rfl;rw[show(x.1==-1)=false by rw[beq_eq_false_iff_ne];omega,oDF (show ¬x.1<0 by omega),oDF (show ¬x.1>=128 by omega),oTE g1,g3,g4,L8 (by omega) g5];simp;refine Ok.bind (P:=(·=(ls,4,(k:Int),false,cs,ls,()))) ?_ ?_;refine ge (λh=>by cases h) λ_=>fQ rfl;rintro _ rfl;dsimp only;simp only[oCF]
  (simp (disch:=omega) only [gD,gl,gf,gh])
  exact fQ rfl;omega;unfold mf;exact fQ rfl
 refine gV ?_;unfold pn;delta fZ;simp only[h1,h3,L8 (show cs.length<=1000 by omega) h2,oBS,oNT];refine Ok.bind (P:=(·=(false,cs,ls,()))) ?_ ?_;exact fQ rfl;rintro _ rfl;dsimp only;simp only[oCF];rw[h3,show((4:Nat):Int)=4 from rfl,e];exact fQ rfl
theorem Mg{K:Int->Prop}{t:DTh}(h:zD K 1099511627776 t):pi t.1 t.2.1 t.2.2.1 t.2.2.2.1 t.2.2.2.2.1 t.2.2.2.2.2.1 t.2.2.2.2.2.2.1 t.2.2.2.2.2.2.2=some (true,()):=by
 obtain⟨⟨a1,a2⟩,hl,hr,⟨b1,b2⟩,⟨c1,c2⟩,⟨d1,d2⟩,⟨e1,e2⟩,⟨f1,f2⟩,_⟩:=h;obtain⟨s,rs,pc,ct,ha,sa,tr,co⟩:=t;dsimp only at *;have e:gc ma NN (rs,(rs.length:Int),0,s,rs,pc,ct,ha,sa,tr,co,())=some (.inr (rs,(rs.length:Int),(rs.length:Int),false,s,rs,pc,ct,ha,sa,tr,co,())):=by
  refine nO (st:=λk=>(rs,(rs.length:Int),(k:Int),s,rs,pc,ct,ha,sa,tr,co,())) (n:=rs.length) (by unfold NN;omega) ?_ ?_;intro k hk;unfold ma;refine fS (λZ'=>?_) λZ'=>?_;rw[fW];refine f6 λx hx=>?_;have:=hr x (fY hx);unfold ng;rw[oDT (show x.1<=2 from this.2.1)]
  (simp (disch:=omega) only [gD,gl,gf,gh])
  exact fQ rfl;omega;unfold ma;refine fS (λZ'=>?_) λZ'=>?_;omega;exact fQ rfl
 refine gV ?_;unfold pi;delta fZ;try dsimp only
 rw[e];dsimp only;rw[hl];refine fR (oDT a1) (fR (oDT a2) (fR rfl (fR (oDT b1) (fR (oDT b2) (fR (oDT c1) (fR (oDT c2) (fR (oDT d1) (fR (oDT d2) (fR (oDT e1) (fR (oDT e2) (fR (oDT f1) ?_)))))))))));exact fQ (by simp_all)
theorem vo{code:F_}{ss bs:M_}{d:j_}{n key:Int}{cs:C_}{ls:G_}{ts:J_}(hp:kj code ss d)(h:MOk n ss bs cs ls ts)(hn:n<=1099511627776):jf code ss d bs key cs ls ts=some (true,()):=by
 have ⟨h1,h2,h3,h4⟩:=h;have e:gc oV NN (ts,4,0,bs,key,cs,ls,ts,())=some (.inr (ts,4,4,false,bs,key,cs,ls,ts,())):=by
  refine nO (st:=λk=>(ts,4,(k:Int),bs,key,cs,ls,ts,())) (n:=4) (by unfold NN;omega) ?_ ?_;intro k hk;unfold oV;refine fS (λZ'=>?_) λZ'=>?_;rw[fW];refine f6 λx hx=>?_;have ht:=h4 x (fY hx);rw[Mg ⟨ht.state,ht.len,ht.regs,ht.pc,⟨ht.count.1,by have:=ht.count.2;omega⟩,ht.handler,ht.saved,ht.trap,ht.code⟩]
  (simp (disch:=omega) only [gD,gl,gf,gh])
  exact fQ rfl;omega;exact fQ rfl
 refine gV ?_;unfold jf;rw[GU hp,vp h1,Mh h2];delta fZ;simp only[oBS,oNT,oCF,oBN,h3];rw[show((4:Nat):Int)=4 from rfl,e];exact fQ rfl
def g8:G_:=[(-1,false,[]),(-1,false,[]),(-1,false,[]),(-1,false,[])]
theorem LZ:po=some (g8,()):=by kernel_rfl
theorem Jq{K:Int->Prop}{cs:C_}(h:cs.length=512)(hc:∀c∈cs,n9 K c):i9 K cs g8:=by
 have key:∀(i:Nat) x,g8[i]?=some x->x=(-1,false,[]):=λi x hx=>by have:=fY hx;simp[g8]at this;exact this
 exact⟨h,hc,rfl,λi x hx=>by rw[key i x hx];exact .inl ⟨rfl,rfl,rfl⟩,λi x hx=>by rw[key i x hx];exact .inl rfl⟩
theorem gS{α:Type}{P:α->Prop}{l:List α}{i:Nat}{f:α->α}(h:∀x∈l,P x)(hf:∀x,P x->P (f x)):∀x∈List.modify l i f,P x:=by intro x hx;have ⟨j,hj⟩:=List.getElem?_of_mem hx;grind
theorem TZ{code:F_}{ss bs:M_}{d:j_}{key:Int}(hp:kj code ss d)(hl:LV bs ss):Ok (qZ code ss d bs key) λr=>∃cs,r=(cs,g8,0,())/\cs.length=512/\∀c∈cs,n9 (λ_=>False) c:=by
 unfold qZ;rw[vp hl,LZ];delta fZ;simp only[oBS,oNT,oCF,hp.len,oBN];refine fR (by decide) ?_;obtain⟨t,e,ht⟩:=g9 (f:=qg) (n:=NN) (s:=(d,(ss.length:Int),0,code,ss,d,bs,key,(),(),List.replicate 512 (0,0),g8,())) (P:=λs'=>∃k:Nat,∃cs,s'=(d,(ss.length:Int),(k:Int),code,ss,d,bs,key,(),(),cs,g8,())/\k<=ss.length/\cs.length=512/\∀c∈cs,n9 (λ_=>False) c) (R:=λr=>∃a b c e cs,r=.inr (a,b,c,e,code,ss,d,bs,key,(),(),cs,g8,())/\cs.length=512/\∀c∈cs,n9 (λ_=>False) c) (m:=λs'=>(s'.2.1-s'.2.2.1).toNat) ⟨0,_,rfl,by omega,List.length_replicate,λc hc=>by rw[List.eq_of_mem_replicate hc];exact kf (by decide)⟩ (by unfold NN;dsimp only;have:=hp.sz.2.1;omega) (by
  rintro _ ⟨k,cs,rfl,hk,ZM,ZI⟩;unfold qg;dsimp only;have hlen:=hp.len;have Os:=hp.sz.2.1;refine fS (λZ'=>?_) λZ'=>?_;rw[fW];delta fZ;simp only[oBS];refine f6 λx hx=>?_;refine f6 λy hy=>?_;have hf:=hp.fit k x y hx hy;have W6:=hp.num x (fY hx);obtain⟨_,hbl,hr⟩:=hl;have hrk:=hr k (by omega);unfold xo at hrk;obtain⟨b,hb⟩:=gv bs k (by omega);rw[gu hb,gu hy]at hrk;refine fS (λZ1=>?_) λZ1=>?_;omega;refine gO (P:=λs'=>∃j:Nat,∃cs,s'=((k:Int),d,(ss.length:Int),(k:Int),x,(x.length:Int),(j:Int),code,ss,d,bs,key,(),(),cs,g8,())/\j<=x.length/\cs.length=512/\∀c∈cs,n9 (λ_=>False) c)
   (R:=λr=>∃a b c e cs,r=(a,d,(ss.length:Int),(k:Int),b,c,e,false,code,ss,d,bs,key,(),(),cs,g8,())/\cs.length=512/\∀c∈cs,n9 (λ_=>False) c) (m:=λs'=>(s'.2.2.2.2.2.1-s'.2.2.2.2.2.2.1).toNat)
   ⟨0,cs,rfl,by omega,ZM,ZI⟩ (by unfold NN;dsimp only;omega) ?_ ?_
  rintro _ ⟨j,cs,rfl,hj,ZM,ZI⟩;unfold uh;dsimp only;refine fS (λhcc=>?_) λhcc=>?_;rw[fW,fW];simp only[oBS];refine f6 λv hv=>?_;have Xj:=W6 v (fY hv);rw[show fT bs k=some b from hb];simp only[oBS]
  (simp (disch:=omega) only [gD,gl,gf,gh])
  refine gX λa ha=>?_;refine f6 λc hc=>?_;refine f6 λc' YY=>?_;exact fQ ⟨⟨j+1,_,rfl,by omega,by rw[oLM];exact ZM,gS ZI λz hz=>⟨hz.1,hz.2.1,Xj.1,Xj.2,hz.2.2.2.2⟩⟩,by dsimp only;omega⟩;exact fQ ⟨_,_,_,_,_,rfl,ZM,ZI⟩;rintro _ ⟨a,b,c,e,cs,rfl,ZM,ZI⟩;dsimp only
  (simp (disch:=omega) only [gD,gl,gf,gh])
  exact fQ ⟨⟨k+1,_,rfl,by omega,ZM,ZI⟩,by dsimp only;omega⟩;exact fQ ⟨_,_,_,_,_,rfl,ZM,ZI⟩)
 rw[e];obtain⟨a,b,c,e,cs,rfl,ZM,ZI⟩:=ht;exact fQ ⟨cs,rfl,ZM,ZI⟩
theorem UL{K:Int->Prop}:∀c∈List.replicate 8 ((0:Int),(0:Int)),n9 K c:=λc hc=>by rw[List.eq_of_mem_replicate hc];exact kf (by decide)
theorem S6{K:Int->Prop}{s:Int}(h:0<=s/\s<=4):zD K 0 (s,List.replicate 8 (0,0),0,0,-1,-1,0,0):=⟨h,rfl,UL,⟨by simp_all,by simp_all⟩,⟨by simp_all,by simp_all⟩,⟨by simp_all,by simp_all⟩,⟨by simp_all,by simp_all⟩,⟨by simp_all,by simp_all⟩,⟨by simp_all,by simp_all⟩⟩
def Pr(ss:M_)(c:DCn):Prop:=((c.1=0\/c.1=2)/\c.2.2.1=0/\c.2.2.2=0/\W16 c.2.1)\/(c.1=1/\c.2.1=0/\0<=c.2.2.1/\∃n,ss[c.2.2.1.toNat]?=some n/\0<=c.2.2.2/\c.2.2.2<n)
theorem Jy{ss:M_}{c:DCn}(hs:A6 ss)(h:Pr ss c):mw c.1 c.2.1 c.2.2.1 c.2.2.2=some (true,()):=by
 refine gV ?_;unfold mw;rcases h with⟨h1,h2,h3,_⟩|⟨h1,h2,h3,n,h4,h5,h6⟩;rw[h2,h3];rcases h1 with h1|h1<;>rw[h1]<;>exact fQ rfl
 have hn:=hs.2.2 n (fY h4);have hl:=(oGS h4).1;have Os:=hs.2.1;rw[h1,h2,show(c.2.2.1==-1)=false by rw[beq_eq_false_iff_ne];omega];refine ge (λh=>by cases h) λ_=>ge (λh=>by cases h) λ_=>fR rfl ?_;refine ge (λh=>by cases h) λ_=>fR rfl ?_;exact fR (oDT h3) (fR (oDT (by omega)) (fR (oDT h5) (fQ (by rw[oDT (show c.2.2.2<32 by omega)]))))
theorem mD{ss:M_}{l:D_}{n:Int}(hs:A6 ss)(h:∀c∈l,Pr ss c)(hn:(l.length:Int)<=n)(hl:l.length<=1000):iu l n=some (true,()):=by
 have e:gc l9 NN (l,n,l,(l.length:Int),0,())=some (.inr (l,n,l,(l.length:Int),(l.length:Int),false,())):=by
  refine nO (st:=λk=>(l,n,l,(l.length:Int),(k:Int),())) (n:=l.length) (by unfold NN;omega) ?_ ?_;intro k hk;unfold l9;refine fS (λZ'=>?_) λZ'=>?_;rw[fW];refine f6 λx hx=>?_;rw[Jy hs (h x (fY hx))]
  (simp (disch:=omega) only [gD,gl,gf,gh])
  exact fQ rfl;omega;unfold l9;refine fS (λZ'=>?_) λZ'=>?_;omega;exact fQ rfl
 refine gV ?_;unfold iu;delta fZ;try dsimp only
 rw[e];exact fQ (congrArg (λb=>(b,())) (oDT hn))
def Ux(d:i_)(o:DOp):Prop:=(o.1=-1/\o.2.1=0/\o.2.2=false)\/(0<=o.1/\∃x,d[o.1.toNat]?=some x/\0<=o.2.1/\o.2.1<=x.length)
structure iK (ss:M_)(d:i_)(os:H_):Prop where
 dlen:d.length<=4
 flen:∀x∈d,x.length<=64
 cells:∀x∈d,∀c∈x,Pr ss c
 olen:os.length=8
 opens:∀o∈os,Ux d o
theorem D9{ss:M_}{d:i_}{os:H_}(hs:A6 ss)(h:iK ss d os):mQ d os=some (true,()):=by
 obtain⟨h1,h2,h3,h4,h5⟩:=h;have e0:gc lZ NN (d,(d.length:Int),0,d,os,())=some (.inr (d,(d.length:Int),(d.length:Int),false,d,os,())):=by
  refine nO (st:=λk=>(d,(d.length:Int),(k:Int),d,os,())) (n:=d.length) (by unfold NN;omega) ?_ ?_;intro k hk;unfold lZ;dsimp only;refine fS (λZ'=>?_) λZ'=>?_;rw[fW];simp only[oBS];refine f6 λx hx=>?_;have:=h2 x (fY hx);rw[mD hs (h3 x (fY hx)) (by omega) (by omega)];simp only[oBS,oNT,oCF]
  (simp (disch:=omega) only [gD,gl,gf,gh])
  exact fQ rfl;omega;unfold lZ;dsimp only;refine fS (λZ'=>?_) λZ'=>?_;omega;exact fQ rfl
 have e2:gc oT NN (os,8,0,d,os,())=some (.inr (os,8,8,false,d,os,())):=by
  refine nO (st:=λk=>(os,8,(k:Int),d,os,())) (n:=8) (by unfold NN;omega) ?_ ?_;intro k hk;unfold oT;dsimp only;refine fS (λZ'=>?_) λZ'=>?_;rw[fW];simp only[oBS];refine f6 λx hx=>?_;obtain⟨f,o,w⟩:=x;refine Ok.bind (P:=(·=(os,8,(k:Int),false,d,os,f,o,w,()))) ?_ ?_;rcases h5 _ (fY hx)with⟨g1,g2,g3⟩|⟨g1,y,g2,g3,g4⟩;have g1:f=-1:=g1;have g2:o=0:=g2;have g3:w=false:=g3;subst g1 g2 g3;dsimp only;refine fR rfl (ge (λh=>by cases h) λ_=>ge (λh=>by cases h) λ_=>ge (λh=>by cases h) λ_=>ge (λh=>?_) λ_=>ge (λh=>by cases h) λ_=>fQ rfl);have h:(-1:Int)>=(d.length:Int):=of_decide_eq_true h;omega;dsimp only at g1 g2 g3 g4⊢;have hl:=(oGS g2).1;rw[show(f==-1)=false by rw[beq_eq_false_iff_ne];omega,oDF (show ¬f < -1 by omega)];simp only[oCF];refine ge (λh=>?_) λ_=>fR (oDT g1) ?_;have h:f>=(d.length:Int):=of_decide_eq_true h;omega;rw[oDF (show ¬o<0 by omega)];simp only[oCF];refine jt g1 λj hj=>?_;refine f6 λz hz=>?_;have hjj:j=f.toNat:=by omega
  subst hjj;rw[g2]at hz;injection hz with hz
  subst hz;exact fQ (by rw[oDF (show ¬o>fZ y.length from λh=>by rw[gh]at h;omega)]);rintro _ rfl;dsimp only;simp only[oCF]
  (simp (disch:=omega) only [gD,gl,gf,gh])
  exact fQ rfl;omega;exact fQ rfl
 refine gV ?_;unfold mQ;delta fZ;try dsimp only
 refine fS (λZ'=>?_) λZ'=>?_;omega;rw[h4];rw[e0];dsimp only;rw[h4,show((8:Nat):Int)=8 from rfl,e2];exact fQ rfl
def UG(ss:M_)(i:Nat)(x:DOu):Prop:=x.1=i/\0<=x.2.1/\x.2.1<2/\x.2.2.length<=16/\∀c∈x.2.2,Pr ss c
structure vO (ss:M_)(ck rn:M_)(ins:j_)(d:i_)(os:H_)(us:I_):Prop where
 clock:ck.length<=64/\∀w∈ck,W16 w
 rand:rn.length<=64/\∀w∈rn,W16 w
 ilen:ins.length<=2
 inp:∀x∈ins,x.length<=64/\∀w∈x,W16 w
 files:iK ss d os
 ulen:us.length<=200
 outs:∀(i:Nat) x,us[i]?=some x->UG ss i x
theorem MN{ss:M_}{us:I_}(hl:us.length<=200)(h:∀(i:Nat) x,us[i]?=some x->UG ss i x):mP us=some (true,()):=by
 have e:gc kA NN (us,(us.length:Int),0,())=some (.inr (us,(us.length:Int),(us.length:Int),false,())):=by
  refine nO (st:=λk=>(us,(us.length:Int),(k:Int),())) (n:=us.length) (by unfold NN;omega) ?_ ?_;intro k hk;unfold kA;refine fS (λZ'=>?_) λZ'=>?_;rw[fW];refine f6 λx hx=>?_;have ⟨g1,g2,g3,g4,g5⟩:=h k x hx;rw[g1,oDF (show ¬x.2.1<0 by omega),oDF (show ¬x.2.1>=2 by omega)];simp;refine ge (λh=>?_) λ_=>?_;have h:(x.2.2.length:Int)>16:=of_decide_eq_true h;omega
  ·(simp (disch:=omega) only [gD,gl,gf,gh])
   exact fQ rfl
  omega;unfold kA;refine fS (λZ'=>?_) λZ'=>?_;omega;exact fQ rfl
 refine gV ?_;unfold mP;delta fZ;try dsimp only
 rw[e];exact fQ rfl
theorem vn{ss ck rn:M_}{ins:j_}{d:i_}{os:H_}{us:I_}(hs:A6 ss)(h:vO ss ck rn ins d os us):lm ck rn ins d os us=some (true,()):=by
 have e0:gc lY NN (ins,(ins.length:Int),0,ck,rn,ins,d,os,us,())=some (.inr (ins,(ins.length:Int),(ins.length:Int),false,ck,rn,ins,d,os,us,())):=by
  refine nO (st:=λk=>(ins,(ins.length:Int),(k:Int),ck,rn,ins,d,os,us,())) (n:=ins.length) (by unfold NN;have:=h.ilen;omega) ?_ ?_;intro k hk;have hil:=h.ilen;unfold lY;dsimp only;refine fS (λZ'=>?_) λZ'=>?_;rw[fW];delta fZ;simp only[oBS];refine f6 λx hx=>?_;have:=(h.inp x (fY hx)).1;refine fS (λZ1=>?_) λZ1=>?_;omega
  ·(simp (disch:=omega) only [gD,gl,gf,gh])
   exact fQ rfl
  omega;unfold lY;dsimp only;refine fS (λZ'=>?_) λZ'=>?_;omega;exact fQ rfl
 have e1:gc lX NN (us,(us.length:Int),0,ck,rn,ins,d,os,us,())=some (.inr (us,(us.length:Int),(us.length:Int),false,ck,rn,ins,d,os,us,())):=by
  refine nO (st:=λk=>(us,(us.length:Int),(k:Int),ck,rn,ins,d,os,us,())) (n:=us.length) (by unfold NN;have:=h.ulen;omega) ?_ ?_;intro k hk;have hul:=h.ulen;unfold lX;dsimp only;refine fS (λZ'=>?_) λZ'=>?_;rw[fW];simp only[oBS];refine f6 λx hx=>?_;obtain⟨_,_,_,g4,g5⟩:=h.outs k x hx;rw[mD hs g5 (by omega) (by omega)]
  (simp (disch:=omega) only [gD,gl,gf,gh])
  exact fQ rfl;omega;unfold lX;dsimp only;refine fS (λZ'=>?_) λZ'=>?_;omega;exact fQ rfl
 have c1:=h.clock.1;have c2:=h.rand.1;have c3:=h.ilen;have c4:=h.ulen;refine gV ?_;unfold lm;delta fZ;try dsimp only
 rw[e0];dsimp only;rw[e1];dsimp only;refine fR (oDT (show(ck.length:Int)<=64 by omega)) (fR (oDT (show(rn.length:Int)<=64 by omega)) (fR (oDT (show(ins.length:Int)<=2 by omega)) ?_));rw[D9 hs h.files];refine fR (oDT (show(us.length:Int)<=200 by omega)) ?_;rw[MN h.ulen h.outs];exact fQ rfl
def sW:H_:=List.replicate 8 (-1,0,false)
theorem Rf(a:j_):gc vW NN (a,8,0,(),(),(),List.replicate 8 (0,(0,false)),())=some (a,8,8,false,(),(),(),sW,()):=by rfl
theorem Rl{ss:M_}{a:j_}(hs:A6 ss)(hl:a.length<=4)(h:∀x∈a,x.length<=64/\∀w∈x,W16 w):Ok (sy a) λr=>∃d,r=(d,sW,0,())/\iK ss d sW:=by
 unfold sy;refine fR (by decide) ?_;dsimp only;rw[show fZ (List.replicate 8 ((0:Int),((0:Int),false))).length=8 from rfl,Rf];delta fZ;simp only[oBS];refine gO (P:=λs'=>∃k:Nat,∃d,s'=(a,(a.length:Int),(k:Int),(),(),d,sW,())/\k<=a.length/\d.length=k/\(∀x∈d,x.length<=64)/\∀x∈d,∀c∈x,Pr ss c)
  (R:=λr=>∃e b c f d,r=(e,b,c,f,(),(),d,sW,())/\d.length<=4/\(∀x∈d,x.length<=64)/\∀x∈d,∀c∈x,Pr ss c) (m:=λs'=>(s'.2.1-s'.2.2.1).toNat) ⟨0,[],rfl,by omega,rfl,gy,gy⟩ (by unfold NN;dsimp only;omega) ?_ ?_
 rintro _ ⟨k,d,rfl,hk,Yn,hd2,XG⟩;unfold vU;dsimp only;refine fS (λZ'=>?_) λZ'=>?_;rw[fW];delta fZ;simp only[oBS];refine f6 λx hx=>?_;obtain⟨Z0,Y4⟩:=h x (fY hx);refine gO (P:=λs'=>∃j:Nat,∃l,s'=(a,(a.length:Int),(k:Int),x,(x.length:Int),(j:Int),(),(),d,sW,l,())/\j<=x.length/\l.length=j/\∀c∈l,Pr ss c)
  (R:=λr=>∃b c e f l,r=(a,(a.length:Int),(k:Int),b,c,e,f,(),(),d,sW,l,())/\l.length<=64/\∀c∈l,Pr ss c) (m:=λs'=>(s'.2.2.2.2.1-s'.2.2.2.2.2.1).toNat) ⟨0,[],rfl,by omega,rfl,gy⟩ (by unfold NN;dsimp only;omega) ?_ ?_
 rintro _ ⟨j,l,rfl,hj,Xv,Ya⟩;unfold vV;dsimp only;refine fS (λZ1=>?_) λZ1=>?_;rw[fW];simp only[oBS];refine f6 λv hv=>?_;refine fR (gd (by simp;omega)) ?_
 (simp (disch:=omega) only [gD,gl,gf,gh])
 exact fQ ⟨⟨j+1,_,rfl,by omega,by rw[iq,Xv];rfl,kX Ya (all_cons (.inl ⟨.inl rfl,rfl,rfl,Y4 v (fY hv)⟩) gy)⟩,by dsimp only;omega⟩;exact fQ ⟨_,_,_,_,_,rfl,by omega,Ya⟩;rintro _ ⟨b,c,e,f,l,rfl,Xv,Ya⟩;dsimp only;refine fR (gd (by simp;omega)) ?_
 (simp (disch:=omega) only [gD,gl,gf,gh])
 exact fQ ⟨⟨k+1,_,rfl,by omega,by rw[iq,Yn];rfl,kX hd2 (all_cons Xv gy),kX XG (all_cons Ya gy)⟩,by dsimp only;omega⟩;exact fQ ⟨_,_,_,_,_,rfl,by omega,hd2,XG⟩;rintro _ ⟨e,b,c,f,d,rfl,Yn,hd2,XG⟩;have hf:iK ss d sW:=⟨Yn,hd2,XG,rfl,λo ho=>by rw[List.eq_of_mem_replicate ho];exact .inl ⟨rfl,rfl,rfl⟩⟩;dsimp only;rw[D9 hs hf];exact fQ ⟨d,rfl,hf⟩
theorem CE{a:j_}(hl:a.length<=1000)(h:∀x∈a,x.length<=1000):iM a=some (a,()):=by
 have e:gc iH NN (a,(a.length:Int),0,[],())=some (a,(a.length:Int),(a.length:Int),false,a,()):=by
  have:=nO (f:=iH) (N:=NN) (st:=λk=>(a,(a.length:Int),(k:Int),a.take k,())) (n:=a.length) (t:=(a,(a.length:Int),(a.length:Int),false,a,())) (by unfold NN;omega) ?_ ?_;exact this;intro k hk;unfold iH;refine fS (λZ'=>?_) λZ'=>?_;rw[fW];refine f6 λx hx=>?_;have:=h x (fY hx);refine fR (gd (by omega)) (fR (gd (by simp;omega)) ?_)
  (simp (disch:=omega) only [gD,gl,gf,gh])
  refine fQ ?_;rw[List.take_add_one,hx];rfl;omega;unfold iH;refine fS (λZ'=>?_) λZ'=>?_;omega;rw[List.take_length];exact fQ rfl
 refine gV ?_;unfold iM;delta fZ;try dsimp only
 rw[e];exact fQ rfl
theorem MM{ss l:M_}{k:Int}(hs:A6 ss)(h:DOk l k):Ok (oo l k) λr=>∃ck rn ins d os k',r=(ck,rn,ins,d,os,(),l,k',())/\vO ss ck rn ins d os []/\DOk l k':=by unfold oo;refine(so h (by decide)).bind ?_;rintro _ ⟨w1,k1,rfl,h1,g1,d1⟩;refine(so d1 (by decide)).bind ?_;rintro _ ⟨w2,k2,rfl,h2,g2,d2⟩;dsimp only;refine(so d2 (by decide)).bind ?_;rintro _ ⟨w3,k3,rfl,h3,g3,d3⟩;dsimp only;refine(so d3 (by decide)).bind ?_;rintro _ ⟨w4,k4,rfl,h4,g4,d4⟩;dsimp only;refine(so d4 (by decide)).bind ?_;rintro _ ⟨w5,k5,rfl,h5,g5,d5⟩;dsimp only;refine(so d5 (by decide)).bind ?_;rintro _ ⟨w6,k6,rfl,h6,g6,d6⟩;dsimp only;refine Ok.bind (P:=λr=>∃ck rn ins d os,r=(ck,rn,ins,d,os,(),0,())/\vO ss ck rn ins d os []) ?_ ?_;unfold sx;refine(Rl (ss:=ss) (a:=[w1,w2]) hs (by simp) (all_cons ⟨by omega,g1⟩ (all_cons ⟨by omega,g2⟩ gy))).bind ?_;rintro _ ⟨d,rfl,hf⟩;refine ge (λh=>by cases h) λ_=>?_;refine fR (gd (by omega)) (fR (gd (by omega)) ?_);have ho:vO ss w5 w6 [w3,w4] d sW []:=⟨⟨by omega,g5⟩,⟨by omega,g6⟩,by simp,all_cons ⟨by omega,g3⟩ (all_cons ⟨by omega,g4⟩ gy),hf,by simp,λi x hx=>by simp_all⟩;rw[CE (by simp) (all_cons (by omega) (all_cons (by omega) gy))];simp only[oBS];rw[show List.append [] w5=w5 from rfl,show List.append [] w6=w6 from rfl,vn hs ho];exact fQ ⟨_,_,_,_,_,rfl,ho⟩;rintro _ ⟨ck,rn,ins,d,os,rfl,ho⟩;exact fQ ⟨_,_,_,_,_,_,rfl,ho,d6⟩
theorem xW{ss:M_}{r o n:Int}(h1:0<=r)(h2:ss[r.toNat]?=some n)(h3:0<=o)(h4:o<n):ia ss r o=some (true,()):=by refine gV ?_;have hl:=(oGS h2).1;refine fR (oDT h1) (fR (oDT (show r<(ss.length:Int) by omega)) (fR (oDT h3) ?_));obtain⟨j,rfl⟩:∃j:Nat,r=j:=⟨r.toNat,by omega⟩;rw[fW];simp;rw[show fT ss j=some n from h2];exact fQ (by simp_all)
theorem mr{ss:M_}{c:DCn}(h:Pr ss c):it ss c.1 c.2.1 c.2.2.1 c.2.2.2=some (true,()):=by
 refine gV ?_;unfold it;rcases h with⟨h1,h2,h3,_⟩|⟨h1,h2,h3,n,h4,h5,h6⟩;rw[h2,h3];rcases h1 with h1|h1<;>rw[h1]<;>exact fQ rfl
 rw[h1,h2,xW h3 h4 h5 h6];exact fQ rfl
theorem J3{ss:M_}{d:i_}{os:H_}(h:iK ss d os):oc ss d os=some (true,()):=by
 obtain⟨h1,h2,h3,h4,h5⟩:=h;have e0:gc li NN (ss,d,(d.length:Int),0,d,os,())=some (.inr (ss,d,(d.length:Int),(d.length:Int),false,d,os,())):=by
  refine nO (st:=λk=>(ss,d,(d.length:Int),(k:Int),d,os,())) (n:=d.length) (by unfold NN;omega) ?_ ?_;intro k hk;unfold li;dsimp only;refine fS (λZ'=>?_) λZ'=>?_;rw[fW];delta fZ;refine f6 λx hx=>?_;have Z0:=h2 x (fY hx);have e:gc lj NN (ss,d,(d.length:Int),(k:Int),x,(x.length:Int),0,d,os,())=some (.inr (ss,d,(d.length:Int),(k:Int),x,(x.length:Int),(x.length:Int),false,d,os,())):=by
   refine nO (st:=λj=>(ss,d,(d.length:Int),(k:Int),x,(x.length:Int),(j:Int),d,os,())) (n:=x.length) (by unfold NN;omega) ?_ ?_;intro j hj;unfold lj;refine fS (λZ'=>?_) λZ'=>?_;rw[fW];refine f6 λy hy=>?_;rw[mr (h3 x (fY hx) y (fY hy))]
   (simp (disch:=omega) only [gD,gl,gf,gh])
   exact fQ rfl;omega;unfold lj;refine fS (λZ'=>?_) λZ'=>?_;omega;exact fQ rfl
  rw[e];dsimp only
  (simp (disch:=omega) only [gD,gl,gf,gh])
  exact fQ rfl;omega;unfold li;dsimp only;refine fS (λZ'=>?_) λZ'=>?_;omega;exact fQ rfl
 refine gV ?_;unfold oc;delta fZ;try dsimp only
 rw[e0];exact fQ rfl
theorem copy17_ok{d:i_}{os:H_}(h1:d.length<=1000)(h2:∀x∈d,x.length<=1000)(h3:os.length<=1000):jd d os=some (d,os,()):=by
 have e:gc kL NN (d,(d.length:Int),0,d,os,(),(),[],os,())=some (d,(d.length:Int),(d.length:Int),false,d,os,(),(),d,os,()):=by
  have:=nO (f:=kL) (N:=NN) (st:=λk=>(d,(d.length:Int),(k:Int),d,os,(),(),d.take k,os,())) (n:=d.length) (t:=(d,(d.length:Int),(d.length:Int),false,d,os,(),(),d,os,())) (by unfold NN;omega) ?_ ?_;exact this;intro k hk;unfold kL;refine fS (λZ'=>?_) λZ'=>?_;rw[fW];refine f6 λx hx=>?_;have:=h2 x (fY hx);refine fR (gd (by omega)) (fR (gd (by simp;omega)) ?_)
  (simp (disch:=omega) only [gD,gl,gf,gh])
  refine fQ ?_;rw[List.take_add_one,hx];rfl;omega;unfold kL;refine fS (λZ'=>?_) λZ'=>?_;omega;rw[List.take_length];exact fQ rfl
 refine gV ?_;refine fR (gd (by omega)) ?_;rw[show List.append [] os=os from rfl];delta fZ;try dsimp only
 rw[e];exact fQ rfl
theorem CG{us:I_}(h1:us.length<=1000)(h2:∀x∈us,x.2.2.length<=1000):kK us=some (us,()):=by
 have e:gc kJ NN (us,(us.length:Int),0,[],())=some (us,(us.length:Int),(us.length:Int),false,us,()):=by
  have:=nO (f:=kJ) (N:=NN) (st:=λk=>(us,(us.length:Int),(k:Int),us.take k,())) (n:=us.length) (t:=(us,(us.length:Int),(us.length:Int),false,us,())) (by unfold NN;omega) ?_ ?_;exact this;intro k hk;unfold kJ;refine fS (λZ'=>?_) λZ'=>?_;rw[fW];refine f6 λx hx=>?_;have:=h2 x (fY hx);refine fR (gd (by omega)) (fR (gd (by simp;omega)) ?_)
  (simp (disch:=omega) only [gD,gl,gf,gh])
  refine fQ ?_;rw[List.take_add_one,hx];rfl;omega;unfold kJ;refine fS (λZ'=>?_) λZ'=>?_;omega;rw[List.take_length];exact fQ rfl
 refine gV ?_;unfold kK;delta fZ;try dsimp only
 rw[e];exact fQ rfl
theorem CF{ss ck rn:M_}{ins:j_}{d:i_}{os:H_}{us:I_}(h:vO ss ck rn ins d os us):qP ck rn ins d os us=some (ck,rn,ins,d,os,us,()):=by
 have h1:=h.clock.1;have h2:=h.rand.1;have h3:=h.ilen;have h4:=h.ulen;have h5:=h.files.olen;have h6:=h.files.dlen;refine gV ?_;refine fR (gd (by omega)) (fR (gd (by omega)) ?_);rw[CE (by omega) (λx hx=>by have:=(h.inp x hx).1;omega),copy17_ok (by omega) (λx hx=>by have:=h.files.flen x hx;omega) (by omega),CG (by omega) (λx hx=>by
  have ⟨i,hi⟩:=List.getElem?_of_mem hx;have:=(h.outs i x hi).2.2.2.1
  omega)]
 exact fQ rfl
theorem Pd:wP=some ([-1,-1,-1,-1],[[],[],[],[]],()):=by kernel_rfl
structure ky (ow:M_)(qs:j_):Prop where
 olen:ow.length=4
 qlen:qs.length=4
 owner:∀o∈ow,-1<=o/\o<=3
 queue:∀q∈qs,q.Nodup/\∀t∈q,0<=t/\t<=3
theorem O5:∀{n:Nat}{q:M_},q.Nodup->(∀t∈q,0<=t/\t<n)->q.length<=n:=by
 intro n;induction n with
 |zero=>intro q _ h;cases q with|nil=>simp|cons x q=>have:=h x (by simp);omega
 |succ n ih=>
 intro q hq h;have h1:(q.erase (n:Int)).Nodup:=hq.erase _;have h2:∀t∈q.erase (n:Int),0<=t/\t<n:=λt ht=>by have hm:=(hq.mem_erase_iff).1 ht;have:=h t hm.2;omega
 have h3:=ih h1 h2;have h4:=List.length_erase (a:=(n:Int)) (l:=q);split at h4<;>omega
theorem ky.qlen4{ow:M_}{qs:j_}(h:ky ow qs){q:M_}(hq:q∈qs):q.length<=4:=O5 (h.queue q hq).1 λt ht=>by have:=(h.queue q hq).2 t ht;omega
theorem Vd:ky [-1,-1,-1,-1] [[],[],[],[]]:=⟨rfl,rfl,by decide,by decide⟩
theorem VQ.len{K:Int->Prop}{i:Nat}{x:DLn}(h:VQ K i x):x.2.2.length<=4:=by rcases h with⟨_,_,h⟩|⟨_,_,_,h,_⟩;simp_all;omega
theorem PT{K:Int->Prop}{cs:C_}{ls:G_}(h:i9 K cs ls):q7 cs ls=some (cs,ls,()):=by
 obtain⟨h1,h2,h3,h4,_⟩:=h;have e:gc kS NN (ls,(ls.length:Int),0,cs,ls,(),(),cs,[],())=some (ls,(ls.length:Int),(ls.length:Int),false,cs,ls,(),(),cs,ls,()):=by
  have:=nO (f:=kS) (N:=NN) (st:=λk=>(ls,(ls.length:Int),(k:Int),cs,ls,(),(),cs,ls.take k,())) (n:=ls.length) (t:=(ls,(ls.length:Int),(ls.length:Int),false,cs,ls,(),(),cs,ls,())) (by unfold NN;omega) ?_ ?_;exact this;intro k hk;unfold kS;refine fS (λZ'=>?_) λZ'=>?_;rw[fW];refine f6 λx hx=>?_;have:=(h4 k x hx).len;refine fR (gd (by omega)) (fR (gd (by simp;omega)) ?_)
  (simp (disch:=omega) only [gD,gl,gf,gh])
  refine fQ ?_;rw[List.take_add_one,hx];rfl;omega;unfold kS;refine fS (λZ'=>?_) λZ'=>?_;omega;rw[List.take_length];exact fQ rfl
 refine gV ?_;unfold q7;refine fR (gd (by omega)) ?_;rw[show List.append [] cs=cs from rfl];delta fZ;try dsimp only
 rw[e];exact fQ rfl
theorem ye{n key:Int}{ss bs:M_}{cs:C_}{ls:G_}{ts:J_}(h:MOk n ss bs cs ls ts):kQ bs key cs ls ts=some (bs,key,cs,ls,ts,()):=by
 obtain⟨h1,h2,h3,h4⟩:=h;have hb:=h1.2.1;have Os:=h1.1.2.1;have e:gc kP NN (ts,(ts.length:Int),0,bs,key,cs,ls,ts,(),0,(),(),(),bs,key,cs,ls,[],())=some (ts,(ts.length:Int),(ts.length:Int),false,bs,key,cs,ls,ts,(),0,(),(),(),bs,key,cs,ls,ts,()):=by
  have:=nO (f:=kP) (N:=NN) (st:=λk=>(ts,(ts.length:Int),(k:Int),bs,key,cs,ls,ts,(),0,(),(),(),bs,key,cs,ls,ts.take k,())) (n:=ts.length) (t:=(ts,(ts.length:Int),(ts.length:Int),false,bs,key,cs,ls,ts,(),0,(),(),(),bs,key,cs,ls,ts,())) (by unfold NN;omega) ?_ ?_;exact this;intro k hk;unfold kP;dsimp only;refine fS (λZ'=>?_) λZ'=>?_;rw[fW];refine f6 λx hx=>?_;have:=(h4 x (fY hx)).len;refine fR (gd (by omega)) (fR (gd (by simp;omega)) ?_)
  (simp (disch:=omega) only [gD,gl,gf,gh])
  refine fQ ?_;rw[List.take_add_one,hx];rfl;omega;unfold kP;refine fS (λZ'=>?_) λZ'=>?_;omega;rw[List.take_length];exact fQ rfl
 refine gV ?_;unfold kQ;refine fR (gd (by omega)) ?_;rw[PT h2,show List.append [] bs=bs from rfl];delta fZ;simp;rw[e];exact fQ rfl
theorem vI{α:Type}{l:List α}{i:Nat}{f:α->α}{a:α}(h:l[i]?=some a):(List.modify l i f)[i]?=some (f a):=by simp_all
theorem jT{α:Type}(l:List α)(i:Nat)(f g:α->α):List.modify (List.modify l i f) i g=List.modify l i λa=>g (f a):=by apply oEG;grind
theorem MOk.thread{n:Int}{ss bs:M_}{cs:C_}{ls:G_}{ts:J_}(h:MOk n ss bs cs ls ts){i:Nat}{t:DTh}{f:DTh->DTh}(ht:ts[i]?=some t)(hf:zD (RK bs ss) n (f t)):MOk n ss bs cs ls (List.modify ts i f):=by
 refine⟨h.lay,h.mem,by rw[oLM];exact h.tlen,λx hx=>?_⟩;have ⟨j,hj⟩:=List.getElem?_of_mem hx;by_cases hij:i=j;simp_all;simp[hij]at hj;have:ts[j]?=some x:=by simp_all
 exact h.thr x (fY this)
theorem SO{n key:Int}{ss bs:M_}{cs:C_}{ls:G_}{ts:J_}(h:MOk n ss bs cs ls ts)(i:Int):Ok (qb bs key cs ls ts i) λr=>r.1=true->0<=i/\i<4/\∀t,ts[i.toNat]?=some t->t.2.2.2.2.1≠-1:=by
 unfold qb;delta fZ;have:=h.tlen;refine fS (λZ'=>?_) λZ'=>?_;exact fQ (λh=>by cases h);refine fS (λZ1=>?_) λZ1=>?_;exact fQ (λh=>by cases h);refine gX λj hj=>?_;refine f6 λt ht=>?_;subst hj;refine fS (λhcc=>?_) λhcc=>?_;refine fS (λXF=>?_) λXF=>?_;exact fQ (λ_=>⟨by omega,by omega,λt' ZT=>by
  rw[oTN,ht]at ZT
  injection ZT with ZT
  rw[<- ZT]
  exact XF⟩)
 exact fQ (λh=>by cases h);exact fQ (λh=>by cases h)
theorem S5{n QB:Int}{ts:J_}{i:Nat}{t:DTh}(ht:ts[i]?=some t):iy i QB ts=some (2,List.modify ts i λt=>(4,t.2.1,t.2.2.1,t.2.2.2.1,t.2.2.2.2.1,t.2.2.2.2.2.1,QB,0),()):=by refine gV ?_;have hl:=(oGS ht).1;refine gU hl λ_ _=>?_;refine gU (by simp_all) λ_ _=>?_;refine gU (by simp_all) λ_ _=>?_;rw[jT,jT];exact fQ rfl
theorem zD.ended{K:Int->Prop}{n QB:Int}{t:DTh}(h:zD K n t)(hw:0<=QB/\QB<=6):zD K n (4,t.2.1,t.2.2.1,t.2.2.2.1,t.2.2.2.2.1,t.2.2.2.2.2.1,QB,0):=⟨⟨by omega,by omega⟩,h.len,h.regs,h.pc,h.count,h.handler,h.saved,hw,⟨by simp_all,by simp_all⟩⟩
theorem zd{ss bs:M_}{key a:Int}(h:LV bs ss)(ha:0<=a/\a<=65535):Ok (gY bs key ss a) λr=>(r.2.2.1=true->∃b n,0<=r.1/\bs[r.1.toNat]?=some b/\ss[r.1.toNat]?=some n/\0<=r.2.1/\r.2.1<n/\a=b+r.2.1):=by
 obtain⟨hs,hl,hr⟩:=h;have Os:=hs.2.1;unfold gY;delta fZ;try dsimp only
 obtain⟨t,e,ht⟩:=g9 (f:=gK) (n:=NN) (s:=(ss,a,bs,(bs.length:Int),0,bs,key,0,0,())) (P:=λs'=>∃k:Nat,s'=(ss,a,bs,(bs.length:Int),(k:Int),bs,key,0,0,())/\k<=bs.length) (R:=λr=>(∃x y,r=.inl (true,x,y,())/\∃b n,0<=x/\bs[x.toNat]?=some b/\ss[x.toNat]?=some n/\0<=y/\y<n/\a=b+y)\/∃z,r=.inr z) (m:=λs'=>(s'.2.2.2.1-s'.2.2.2.2.1).toNat) ⟨0,rfl,by omega⟩ (by unfold NN;dsimp only;omega) (by
  rintro _ ⟨k,rfl,hk⟩;unfold gK;dsimp only;refine fS (λZ'=>?_) λZ'=>?_;rw[fW];simp only[oBS];obtain⟨b,hb⟩:=gv bs k (by omega);obtain⟨y,hy⟩:=gv ss k (by omega);have Xb:=hs.2.2 y (fY hy);have hrk:=hr k (by omega);unfold xo at hrk;rw[gu hb,gu hy]at hrk;rw[show fT bs k=some b from hb];rw[show fT ss k=some y from hy];simp only[oBS];rw[iE (x:=b+y)];by_cases h1:a>=b;by_cases h2:a<b+y;simp only[h1,h2,decide_true,oCT];rw[iE (x:=a-b)];exact fQ (.inl ⟨_,_,rfl,b,y,by omega,by rw[oTN];exact hb,by rw[oTN];exact hy,by omega,by omega,by omega⟩);simp only[h1,h2,decide_true,decide_false,oCT,oCF]
  (simp (disch:=omega) only [gD,gl,gf,gh])
  exact fQ ⟨⟨k+1,rfl,by omega⟩,by dsimp only;omega⟩;simp only[h1,decide_false,oCF]
  (simp (disch:=omega) only [gD,gl,gf,gh])
  exact fQ ⟨⟨k+1,rfl,by omega⟩,by dsimp only;omega⟩;exact fQ (.inr ⟨_,rfl⟩))
 rw[e];rcases ht with⟨x,y,rfl,hxy⟩|⟨z,rfl⟩;exact fQ λ_=>hxy;exact fQ λh=>by cases h
theorem Et{ss:M_}{r o:Int}:Ok (ia ss r o) λx=>x.1=true->0<=r/\0<=o/\∃n,ss[r.toNat]?=some n/\o<n:=by
 unfold ia;delta fZ;refine fS (λZ'=>?_) λZ'=>?_;refine fS (λZ1=>?_) λZ1=>?_;refine fS (λhcc=>?_) λhcc=>?_;refine gX λj hj=>?_;refine f6 λn hn=>?_;exact fQ λh=>⟨by omega,by omega,n,by simp_all,of_decide_eq_true h⟩;exact fQ λh=>by cases h
 exact fQ λh=>by cases h
 exact fQ λh=>by cases h
theorem BQ{ss bs:M_}{key tag v n:Int}{back:Bool}(h:LV bs ss)(hv:W16 v)(hn:W16 n):Ok (iI bs key ss tag v n back) λr=>∃t x e,r=(t,x,e,())/\n9 (RK bs ss) (t,x)/\0<=e/\e<=6/\(e=0->x<512):=by
 have hz:∀e:Int,0<e->e<=6->∃t x e',((0:Int),(0:Int),e,())=(t,x,e',())/\n9 (RK bs ss) (t,x)/\0<=e'/\e'<=6/\(e'=0->x<512):=λe h1 h2=>⟨0,0,e,rfl,kf (by decide),by omega,h2,by omega⟩;obtain⟨v0,v1⟩:=hv;obtain⟨n0,n1⟩:=hn;unfold iI;refine fS (λZ'=>?_) λZ'=>?_;exact fQ (hz 3 (by decide) (by decide))
 ·rw[gf (x:=v) (by omega) (by omega),gf (x:=n) (by omega) (by omega)];refine(zd h ⟨v0,v1⟩).bind ?_;rintro⟨r,o,ok,_⟩ Zb;dsimp only at Zb⊢;refine fS (λZ1=>?_) λZ1=>?_
  ·exact fQ (hz 4 (by decide) (by decide))
  ·obtain⟨b,z,hr0,hb,hzz,ho0,ho1,_⟩:=Zb Z1;have Xm:=h.1.2.2 z (fY hzz);refine Ok.bind (P:=λx=>∃o',x=(ss,bs,key,0,0,r,o',())/\-70000<=o'/\o'<=70000) ?_ ?_
   ·refine ge (λ_=>?_) λ_=>?_
    all_goals
     (simp (disch:=omega) only [gD,gl,gf,gh])
     exact fQ ⟨_,rfl,by omega,by omega⟩
   rintro _ ⟨o',rfl,W7,ho3⟩;dsimp only;refine Et.bind ?_;rintro⟨q,_⟩ hin;dsimp only at hin⊢;refine fS (λhcc=>?_) λhcc=>?_
   ·exact fQ (hz 4 (by decide) (by decide))
   ·obtain⟨_,g1,m,g2,g3⟩:=hin hcc;refine jt hr0 λj hj=>?_;subst hj;rw[oTN]at hb g2;have hjl:=(oGS hb).1;have hrj:=h.2.2 j hjl;unfold xo at hrj;rw[gu hb,gu g2]at hrj;rw[show fT bs j=some b from hb];simp only[oBS];rw[iE (x:=b+o'),gl (x:=b+o') (by omega) (by omega)];exact fQ ⟨_,_,_,rfl,⟨by dsimp only;omega,by dsimp only;omega,by dsimp only;omega,by dsimp only;omega,λ_=>⟨j,b,m,hb,g2,by dsimp only;omega,by dsimp only;omega⟩⟩,by decide,by decide,λ_=>by omega⟩
theorem i9.line{K:Int->Prop}{cs:C_}{ls:G_}(h:i9 K cs ls){i:Nat}{x:DLn}{f:DLn->DLn}(hx:ls[i]?=some x)(hf:VQ K i (f x))(hg:VW cs (f x)):i9 K cs (List.modify ls i f):=by
 have key:∀(j:Nat) y,(List.modify ls i f)[j]?=some y->VQ K j y/\VW cs y:=λj y hy=>by by_cases hij:i=j;simp_all;simp[hij]at hy;exact⟨h.lines j y (by simp_all),h.coh j y (by simp_all)⟩
 exact⟨h.clen,h.cells,by rw[oLM];exact h.llen,λj y hy=>(key j y hy).1,λj y hy=>(key j y hy).2⟩
theorem yX{cs xs:C_}{lo k:Nat}(h1:lo+4<=cs.length)(h3:4<=xs.length)(hk:k<lo\/lo+4<=k):(qi cs lo 4 xs)[k]?=cs[k]?:=by unfold qi;rcases hk with hk|hk;rw[List.append_assoc,oAL (by rw[oLT];omega),List.getElem?_take_of_lt hk];rw[oAR (by simp;omega),List.getElem?_drop];congr 1;simp;omega
theorem NO{cs xs:C_}{lo o:Nat}(h1:lo+4<=cs.length)(h3:xs.length=4)(ho:o<4):(qi cs lo 4 xs)[lo+o]?=xs[o]?:=by unfold qi;rw[oAL (by simp;omega),oAR (by rw[oLT];omega),oLT,show lo+o-min lo cs.length=o by omega,List.getElem?_take_of_lt ho]
theorem Hn{K:Int->Prop}{cs xs:C_}{lo n:Nat}(h1:cs.length=512)(h2:lo+n<=512)(h3:n<=xs.length)(hc:∀c∈cs,n9 K c)(hx:∀c∈xs,n9 K c):(qi cs lo n xs).length=512/\∀c∈qi cs lo n xs,n9 K c:=by unfold qi;refine⟨?_,λc hh=>?_⟩;simp;omega;simp only[oMA]at hh;rcases hh with(hh|hh)|hh;exact hc c (List.mem_of_mem_take hh);exact hx c (List.mem_of_mem_take hh);exact hc c (List.mem_of_mem_drop hh)
theorem LU{K:Int->Prop}{cs:C_}{ls:G_}{a:Int}(h:i9 K cs ls)(ha:0<=a/\a<512):Ok (na a cs ls) λr=>∃i Z9 Z7 x,r=(i,Z9,Z7,())/\i9 K Z9 Z7/\Z7[i]?=some x/\x.1=a/4/\x.2.2.length=4:=by
 obtain⟨a0,a1⟩:=ha;obtain⟨h1,h2,h3,h4,h5⟩:=id h;unfold na;rw[Int.tdiv_eq_ediv_of_nonneg a0,iE (x:=a/4)];dsimp only;rw[oTE (show 0<=a/4 by omega)];refine gX λi hi=>?_;have hil:i<ls.length:=by omega
 obtain⟨x,hx⟩:=gv ls i hil;have hg:fT ls i=some x:=hx;have hL:=h4 i x hx;simp only[hg,oBS];refine fS (λZ'=>?_) λZ'=>?_;refine fQ ⟨i,cs,ls,x,rfl,h,hx,Z',?_⟩;rcases hL with⟨g1,_,_⟩|⟨_,_,_,g,_⟩;omega;exact g
 ·refine Ok.bind (P:=λr=>∃Z9,r=(a/4,i,Z9,ls,())/\Z9.length=512/\(∀c∈Z9,n9 K c)/\∀(j:Nat) y,ls[j]?=some y->VW Z9 y) ?_ ?_
  ·refine ge (λhd=>?_) λ_=>fQ ⟨cs,rfl,h1,h2,h5⟩
   rcases hL with⟨_,g,_⟩|⟨g1,g2,g3,g4,g5⟩
   ·rw[g]at hd;cases hd
   ·rw[iE (x:=x.1*4)];refine gX λq hq=>?_;refine fR (by unfold iQ;simp;omega) ?_
    try simp only[hg,oBS]
    rw[g4,h1]
    have hmin:Nat.min 4 (Nat.sub 512 q)=4:=by
     show min 4 (512-q)=4;omega
    rw[hmin];refine fR (by unfold iQ;simp;omega) ?_;refine fR rfl ?_;obtain⟨s1,s2⟩:=Hn (lo:=q) (n:=4) h1 (by omega) (by omega) h2 g5;refine fQ ⟨_,rfl,s1,s2,λj y hy=>?_⟩;by_cases hij:j=i
    ·subst hij;rw[hx]at hy
     injection hy with hy
     subst hy;exact .inr (.inl hd)
    ·rcases h5 j y hy with g|g|g
     ·exact .inl g
     ·exact .inr (.inl g)
     ·rcases h4 j y hy with⟨g',_,_⟩|⟨y1,y2,y3,y4,y5⟩
      ·exact .inl g'
      ·refine .inr (.inr λo ho=>?_);rw[yX (by omega) (by omega) (by omega)];exact g o ho
  rintro _ ⟨Z9,rfl,c1,c2,c3⟩;dsimp only;rw[iE (x:=a/4*4),iE (x:=a/4+1),iE (x:=(a/4+1)*4)];simp only[hg,oBS];refine gU (by rw[oLM];exact hil) λ_ _=>?_;refine gX λq hq=>?_;refine gX λq2 Y3=>?_;refine fR (by unfold iQ;simp;omega) ?_
  have hw:(nJ Z9 q (Nat.sub q2 q)).length=4:=by
   unfold nJ;rw[oLT,List.length_drop];show min (q2-q) _=4;omega
  refine fR (gd (by omega)) ?_;refine gU (by rw[oLM,oLM];exact hil) λ_ _=>?_;rw[jT,jT,show List.append [] (nJ Z9 q (Nat.sub q2 q))=nJ Z9 q (Nat.sub q2 q)from rfl];have Zz:i9 K Z9 ls:=⟨c1,c2,h3,h4,c3⟩;refine fQ ⟨i,Z9,_,_,rfl,Zz.line hx (.inr ⟨by dsimp only;omega,by dsimp only;omega,by dsimp only;omega,hw,λc hc=>c2 c ?_⟩) (.inr (.inr λo ho=>?_)),vI hx,rfl,hw⟩
  ·dsimp only at hc;unfold nJ at hc;exact List.mem_of_mem_drop (List.mem_of_mem_take hc)
  ·dsimp only;unfold nJ;rw[hq,oTN,List.getElem?_take_of_lt (show o<Nat.sub q2 q by show o<q2-q;omega),List.getElem?_drop]
theorem Pf{K:Int->Prop}{cs:C_}{ls:G_}{a:Int}(h:i9 K cs ls)(ha:0<=a/\a<512):Ok (qX a cs ls) λr=>∃t v Z9 Z7,r=(t,v,Z9,Z7,())/\n9 K (t,v)/\i9 K Z9 Z7:=by
 refine(LU h ha).bind ?_;rintro _ ⟨i,Z9,Z7,x,rfl,hm,hx,Z0,Y4⟩;have hg:fT Z7 i=some x:=hx;simp[hg];rw[oTE ha.1];refine gX λj hj=>?_;refine f6 λ_ _=>?_;refine f6 λc hc=>?_;have ZI:n9 K c:=by rcases hm.lines i x hx with⟨_,_,g⟩|⟨_,_,_,_,g⟩;omega;exact g c (fY hc)
 exact fQ ⟨_,_,_,_,rfl,ZI,hm⟩
theorem yW{K:Int->Prop}{cs:C_}{ls:G_}{a t v:Int}(h:i9 K cs ls)(ha:0<=a/\a<512)(hc:n9 K (t,v)):Ok (m8 a t v cs ls) λr=>∃Z9 Z7,r=(Z9,Z7,())/\i9 K Z9 Z7:=by refine(LU h ha).bind ?_;rintro _ ⟨i,Z9,Z7,x,rfl,hm,hx,Z0,Y4⟩;have hg:fT Z7 i=some x:=hx;have hil:=(oGS hx).1;simp[hg];rw[oTE ha.1];refine gX λj hj=>?_;refine f6 λ_ _=>?_;refine f6 λ_ _=>?_;refine gU (by simp_all) λ_ _=>?_;rw[jT];refine fQ ⟨_,_,rfl,hm.line hx ?_ (.inr (.inl rfl))⟩;rcases hm.lines i x hx with⟨_,_,g⟩|⟨g1,g2,g3,g4,g5⟩;omega;exact .inr ⟨g1,g2,g3,by simp_all,gS g5 λ_ _=>hc⟩
theorem sq(x:Int):W16 (wk .u16 x):=by unfold wk;rw[EN];exact⟨by omega,by omega⟩
theorem R9{ss bs:M_}{key t v t' v':Int}(h:LV bs ss)(hv:W16 v)(YD:W16 v'):Ok (m6 bs key ss t v t' v') λ_=>True:=by obtain⟨v0,v1⟩:=hv;obtain⟨u0,u1⟩:=YD;unfold m6;rw[gf (x:=v) (by omega) (by omega),gf (by omega) (by omega)];refine(zd h ⟨v0,v1⟩).bind ?_;rintro⟨r,o,ok,_⟩ _;refine(zd h ⟨u0,u1⟩).bind ?_;rintro⟨r',o',ok',_⟩ _;cases ok<;>cases ok'<;>exact fQ trivial
theorem KJ(b:Bool):mz b=some (0,(bif b then 1 else 0),()):=by cases b<;>rfl
theorem U8{op b c:Int}(hb:W16 b)(hc:W16 c):Ok (mZ op b c) λr=>∃v e,r=(0,v,e,())/\W16 v/\0<=e/\e<=6:=by
 obtain⟨b0,b1⟩:=hb;obtain⟨c0,c1⟩:=hc;have ZS:∀x:Int,W16 x->Ok (some ((0:Int),x,(0:Int),())) λr=>∃v e,r=(0,v,e,())/\W16 v/\0<=e/\e<=6:=λx h=>fQ ⟨x,0,rfl,h,by decide,by decide⟩;have z5:Ok (some ((0:Int),(0:Int),(5:Int),())) λr=>∃v e,r=(0,v,e,())/\W16 v/\0<=e/\e<=6:=fQ ⟨0,5,rfl,⟨by decide,by decide⟩,by decide,by decide⟩;have hw:=sq;unfold mZ;refine fS (λZ'=>?_) λZ'=>?_;exact ZS _ (sq _);refine fS (λZ1=>?_) λZ1=>?_;exact ZS _ (sq _);refine fS (λhcc=>?_) λhcc=>?_;exact ZS _ (sq _);have hq:∀X:Option (Int×Int×Int×Unit),c≠0->(X=(bif(op==6)then(bif(c != 0)then some ((0:Int),wk .u16 (Int.tdiv b c),(0:Int),())else none)else bif(c != 0)then some ((0:Int),Int.tmod b c,(0:Int),())else none))->Ok X λr=>∃v e,r=(0,v,e,())/\W16 v/\0<=e/\e<=6:=by rintro _ hne rfl;refine ge (λ_=>fR (by rw[bne_iff_ne];exact hne) (ZS _ (sq _))) λ_=>fR (by rw[bne_iff_ne];exact hne) (ZS _ ?_);rw[oTE b0];have h1:=Int.emod_nonneg b hne;have h2:=Int.emod_lt_of_pos b (show 0<c by omega);exact⟨h1,by omega⟩
 refine fS (λXF=>?_) λXF=>?_;refine fS (λXp=>?_) λXp=>?_;exact z5;simp_all;refine fS (λXF=>?_) λXF=>?_;refine fS (λXp=>?_) λXp=>?_;exact z5;simp_all;refine fS (λhcf=>?_) λhcf=>?_;exact ZS _ (hw _);refine fS (λhcf=>?_) λhcf=>?_;exact ZS _ (hw _);refine fS (λhcf=>?_) λhcf=>?_;exact ZS _ (hw _);refine fS (λhcf=>?_) λhcf=>?_;rw[oTE c0];refine gX λj hj=>?_;exact ZS _ (hw _);refine fS (λhcf=>?_) λhcf=>?_;rw[oTE c0];refine gX λj hj=>ZS _ ?_;show W16 (Int.fdiv b (2 ^ (min j 16)));have hp:(0:Int)<2 ^ (min j 16):=Int.pow_pos (by decide);rw[Int.fdiv_eq_ediv_of_nonneg _ (by omega)];exact⟨Int.ediv_nonneg b0 (by omega),by have:=Int.ediv_le_self (2 ^ (min j 16)) b0;omega⟩;rw[KJ];refine ZS _ ?_;cases decide (b<c);exact⟨by decide,by decide⟩;exact⟨by decide,by decide⟩
def SZ(K:Int->Prop)(r:Int×Int×Int×Unit):Prop:=∃t v e,r=(t,v,e,())/\n9 K (t,v)/\0<=e/\e<=6
theorem uH{K:Int->Prop}{t v e:Int}(h:n9 K (t,v))(h0:0<=e)(h1:e<=6):Ok (some (t,v,e,())) (SZ K):=fQ ⟨t,v,e,rfl,h,h0,h1⟩
theorem Be{K:Int->Prop}{v:Int}(h:W16 v):n9 K (0,v):=kf h
theorem Jm{K:Int->Prop}(b:Bool):n9 K (0,bif b then 1 else 0):=Be (by cases b<;>exact⟨by decide,by decide⟩)
theorem xp{K:Int->Prop}:n9 K (0,0):=Be ⟨by decide,by decide⟩
theorem Wk{ss bs:M_}{key op t v t' v':Int}(h:LV bs ss)(hb:n9 (RK bs ss) (t,v))(hc:n9 (RK bs ss) (t',v')):Ok (vy bs key ss op t v t' v') (SZ (RK bs ss)):=by
 obtain⟨t0,t2,v0,v1,_⟩:=hb;obtain⟨u0,u2,w0,w1,_⟩:=hc;dsimp only at t0 t2 v0 v1 u0 u2 w0 w1;obtain⟨_,eN,n1,n2,rfl,hn1,hn2,hn3⟩:=U8 (op:=op) (b:=v) (c:=v') ⟨v0,v1⟩ ⟨w0,w1⟩;obtain⟨_,eA,a1,a2,a3,rfl,YF,XY,ha3,_⟩:=BQ (key:=key) (tag:=t) (back:=false) h (v:=v) (n:=v') ⟨v0,v1⟩ ⟨w0,w1⟩;obtain⟨_,eB,b1,b2,b3,rfl,ZJ,ZU,Xi,_⟩:=BQ (key:=key) (tag:=t') (back:=false) h (v:=v') (n:=v) ⟨w0,w1⟩ ⟨v0,v1⟩;obtain⟨_,eC,c1,c2,c3,rfl,ZM,ZI,hc3,_⟩:=BQ (key:=key) (tag:=t) (back:=true) h (v:=v) (n:=v') ⟨v0,v1⟩ ⟨w0,w1⟩;obtain⟨⟨p1,p2,p3,p4,ok,_⟩,eP,_⟩:=R9 (key:=key) (t:=t) (t':=t') h (v:=v) (v':=v') ⟨v0,v1⟩ ⟨w0,w1⟩;unfold vy;refine fS (λZ'=>?_) λZ'=>?_;exact uH xp (by decide) (by decide);refine fS (λZ1=>?_) λZ1=>?_;exact uH xp (by decide) (by decide);cases h14:(op==14)with
 |true=>simp only[oCT,KJ,oBS];exact uH (Jm _) (by decide) (by decide)|false=>
 simp only[oCF,eN,eA,eB,eC,eP,oBS];rcases(show t=0\/t=1\/t=2 by omega)with rfl|rfl|rfl<;>rcases(show t'=0\/t'=1\/t'=2 by omega)with rfl|rfl|rfl
 all_goals cases h3:(op==3)<;>cases h4:(op==4)<;>cases h13:(op==13)<;>simp only[Int.reduceBEq,oCT,oCF,oBS,h3,h4,h13,KJ,eN,eA,eB,eC,eP,BEq.rfl]
 all_goals first
  |exact uH (Be hn1) hn2 hn3
  |exact uH YF XY ha3
  |exact uH ZJ ZU Xi
  |exact uH ZM ZI hc3
  |exact uH xp (by decide) (by decide)
  |(cases ok<;>first
   |exact uH xp (by decide) (by decide)
   |exact uH (Jm _) (by decide) (by decide)
   |exact uH (Be (sq _)) (by decide) (by decide))
theorem PY{l:M_}{k:Int}(h:DOk l k):Ok (pF l k) λr=>∃t b s k',r=(t,b,s,l,k',())/\0<=t/\t<4/\0<=b/\b<=63/\DOk l k':=by
 unfold pF;refine gL (by omega) (by omega) (by omega) λv0 k0 a0 b0 d0=>?_;try dsimp only
 refine gL (by omega) (by omega) (by omega) λv1 k1 a1 b1 d1=>?_;try dsimp only
 refine jt (by omega) λj1 hj1=>?_;try dsimp only
 have hm:∀x∈[(0:Int),1,2,3,7,63],0<=x/\x<=63:=by simp_all
 refine gU (by simp;omega) λx hx=>?_;refine gU (by simp;omega) λy hy=>?_;have Xb:=hm y (fY hy);refine gL (by omega) (by omega) (by omega) λv2 k2 a2 b2 d2=>?_;try dsimp only
 exact fQ ⟨_,_,_,_,rfl,a0,b0,Xb.1,Xb.2,d2⟩
def kC:J_->Int->M_| [],_=>[]|t::ts,i=>if t.1=1 then i::kC ts (i+1)else kC ts (i+1)
theorem EZ(a b:J_)(i:Int):kC (a++b) i=kC a i++kC b (i+a.length):=by induction a generalizing i with|nil=>simp[kC]|cons t a ih=>simp[kC,ih];rw[show i+1+(a.length:Int)=i+((a.length+1:Nat):Int) by omega];split<;>rfl
theorem Ej(a:J_)(i:Int):(kC a i).length<=a.length:=by induction a generalizing i with|nil=>simp[kC]|cons t a ih=>simp[kC];have:=ih (i+1);split<;>simp<;>omega
theorem MD{a:J_}{i x:Int}(h:x∈kC a i):i<=x/\x<i+a.length/\∃t,a[(x-i).toNat]?=some t/\t.1=1:=by
 induction a generalizing i with
 |nil=>simp[kC]at h|cons t a ih=>
 simp[kC]at h;have key:x∈kC a (i+1)->i<=x/\x<i+((t::a).length:Int)/\∃t',(t::a)[(x-i).toNat]?=some t'/\t'.1=1:=by intro h;have ⟨h1,h2,t',h3,h4⟩:=ih h;refine⟨by omega,by simp;omega,t',?_,h4⟩;rw[show(x-i).toNat=(x-(i+1)).toNat+1 by omega,List.getElem?_cons_succ];exact h3
 split at h;rename_i ht;rcases oMC.1 h with rfl|h;exact⟨by omega,by simp;omega,t,by simp,ht⟩;exact key h;exact key h
theorem Q4{ts:J_}(h:ts.length<=1000):pj ts=some (kC ts 0,()):=by
 have e:gc j7 NN (ts,(ts.length:Int),0,[],())=some (ts,(ts.length:Int),(ts.length:Int),false,kC ts 0,()):=by
  have:=nO (f:=j7) (N:=NN) (st:=λk=>(ts,(ts.length:Int),(k:Int),kC (ts.take k) 0,())) (n:=ts.length) (t:=(ts,(ts.length:Int),(ts.length:Int),false,kC ts 0,())) (by unfold NN;omega) ?_ ?_;exact this;intro k hk;unfold j7;dsimp only;refine fS (λZ'=>?_) λZ'=>?_;rw[fW];simp;obtain⟨x,hx⟩:=gv ts k hk;rw[show fT ts k=some x from hx];simp;have hlen:=Ej (ts.take k) 0;rw[oLT]at hlen;have hnext:kC (ts.take (k+1)) 0=kC (ts.take k) 0++(if x.1=1 then[(k:Int)]else[]):=by rw[List.take_add_one,hx,EZ];congr 1;rw[oLT,show 0+((min k ts.length:Nat):Int)=(k:Int) by omega];simp only[Option.toList,kC]
  refine Ok.bind (P:=(·=(ts,(ts.length:Int),(k:Int),kC (ts.take (k+1)) 0,()))) ?_ ?_;refine fS (λZ1=>?_) λZ1=>?_;refine fR (gd (by simp;omega)) ?_;rw[hnext,oIP Z1];exact fQ rfl;rw[hnext,oIN Z1,List.append_nil];exact fQ rfl;rintro _ rfl
  (simp (disch:=omega) only [gD,gl,gf,gh])
  exact fQ rfl;omega;unfold j7;dsimp only;refine fS (λZ'=>?_) λZ'=>?_;omega;rw[List.take_length];exact fQ rfl
 refine gV ?_;unfold pj;delta fZ;try dsimp only
 rw[e];exact fQ rfl
theorem CH{ow:M_}{qs:j_}(h:ky ow qs):oE ow qs=some (ow,qs,()):=by
 have hq4:∀q∈qs,q.length<=4:=λq hq=>h.qlen4 hq;obtain⟨h1,h2,h3,h4⟩:=h;have e:gc kM NN (qs,(qs.length:Int),0,ow,qs,(),(),ow,[],())=some (qs,(qs.length:Int),(qs.length:Int),false,ow,qs,(),(),ow,qs,()):=by
  have:=nO (f:=kM) (N:=NN) (st:=λk=>(qs,(qs.length:Int),(k:Int),ow,qs,(),(),ow,qs.take k,())) (n:=qs.length) (t:=(qs,(qs.length:Int),(qs.length:Int),false,ow,qs,(),(),ow,qs,())) (by unfold NN;omega) ?_ ?_;exact this;intro k hk;unfold kM;refine fS (λZ'=>?_) λZ'=>?_;rw[fW];refine f6 λx hx=>?_;have:=hq4 x (fY hx);refine fR (gd (by omega)) (fR (gd (by simp;omega)) ?_)
  (simp (disch:=omega) only [gD,gl,gf,gh])
  refine fQ ?_;rw[List.take_add_one,hx];rfl;omega;unfold kM;refine fS (λZ'=>?_) λZ'=>?_;omega;rw[List.take_length];exact fQ rfl
 refine gV ?_;refine fR (gd (by omega)) ?_;rw[show List.append [] ow=ow from rfl];delta fZ;try dsimp only
 rw[e];exact fQ rfl
theorem En{q:M_}{x:Int}(h:q.Nodup)(hx:x ∉ q):(q++[x]).Nodup:=by grind
theorem gt{α:Type}{l:List α}{i:Nat}{a:α}(h:l[i]?=some a)(f:α->α):List.modify l i f=l.set i (f a):=by apply oEG;grind
theorem gW{α:Type}{l:List α}{i:Nat}(h:i<l.length)(a:α):fT (l.set i a) i=some a:=by show(l.set i a)[i]?=some a;simp_all
theorem p5{α:Type}{l:List α}{i:Nat}(h:i<l.length)(a:α)(f:α->α):List.modify (l.set i a) i f=l.set i (f a):=by rw[gt (gW h a),List.set_set]
theorem jU{α:Type}{P:α->Prop}{l:List α}{i:Nat}{a:α}(h:∀x∈l,P x)(ha:P a):∀x∈l.set i a,P x:=by grind
theorem MOk.set{n:Int}{ss bs:M_}{cs Z9:C_}{ls Z7:G_}{ts:J_}(h:MOk n ss bs cs ls ts)(hm:i9 (RK bs ss) Z9 Z7){i:Nat}{t:DTh}(ht:zD (RK bs ss) n t):MOk n ss bs Z9 Z7 (ts.set i t):=⟨h.lay,hm,by rw[oLS];exact h.tlen,jU h.thr ht⟩
def WY(code:F_)(t:DTh)(s:Int)(t':DTh):Prop:=
 (s=-1/\t'.1=1/\((t'.2.2.2.1=t.2.2.2.1/\t'.2.2.1=t.2.2.1+1)\/t'.2.2.2.1=t.2.2.2.1+1))\/(s=2/\t'.1=4/\t'.2.2.2.1=t.2.2.2.1)\/
  (s=1/\t'.1=2/\t'.2.2.2.1=t.2.2.2.1/\∃i:DIn,1<=t'.2.2.1/\code[(t'.2.2.1-1).toNat]?=some i/\i.1=23)
def K5(n key:Int)(code:F_)(ss bs:M_)(ts:J_)(i:Nat)(t:DTh)(r:Int×M_×Int×C_×G_×J_×Unit):Prop:=∃s Z9 Z7 t',r=(s,bs,key,Z9,Z7,ts.set i t',())/\i9 (RK bs ss) Z9 Z7/\zD (RK bs ss) n t'/\WY code t s t'
theorem qm{n key:Int}{code:F_}{ss bs:M_}{ts:J_}{i:Nat}{t t':DTh}{Z9:C_}{Z7:G_}(hm:i9 (RK bs ss) Z9 Z7)(ht:zD (RK bs ss) n t')(h1:t'.1=1)
 (h:(t'.2.2.2.1=t.2.2.2.1/\t'.2.2.1=t.2.2.1+1)\/t'.2.2.2.1=t.2.2.2.1+1):Ok (some (-1,bs,key,Z9,Z7,ts.set i t',())) (K5 n key code ss bs ts i t):=fQ ⟨_,_,_,_,rfl,hm,ht,.inl ⟨rfl,h1,h⟩⟩
theorem pH{n key QB:Int}{code:F_}{ss bs:M_}{ts:J_}{i:Nat}{t:DTh}{Z9:C_}{Z7:G_}(hm:i9 (RK bs ss) Z9 Z7)(ht:zD (RK bs ss) n t)(hw:0<=QB/\QB<=6):
 Ok (some (2,bs,key,Z9,Z7,ts.set i (4,t.2.1,t.2.2.1,t.2.2.2.1,t.2.2.2.2.1,t.2.2.2.2.2.1,QB,0),())) (K5 n key code ss bs ts i t):=fQ ⟨_,_,_,_,rfl,hm,ht.ended hw,.inr (.inl ⟨rfl,rfl,rfl⟩)⟩
theorem kg(op:Int):og op=some (n5 op||op==22||op==24,()):=by unfold og;rw[wZ];grind
set_option maxHeartbeats 4000000 in
theorem U7{n key:Int}{code:F_}{ss bs:M_}{d:j_}{cs:C_}{ls:G_}{ts:J_}{i:Nat}{t:DTh}(hp:kj code ss d)(h:MOk n ss bs cs ls ts)(ht:ts[i]?=some t)(hs:t.1=1) (hc:t.2.2.2.1+1<=n)(hn:n<=1099511627776):Ok (sB code ss d (i:Int) bs key cs ls ts) (K5 n key code ss bs ts i t):=by
 have hok:=h.thr t (fY ht);have hm:=h.mem;obtain⟨_,hl,hr,⟨p0,p1⟩,⟨c0,c1⟩,ha,⟨s0,s1⟩,⟨r0,r1⟩,hco⟩:=id hok;obtain⟨st,rs,pc,ct,hd,sa,tr,co⟩:=t;dsimp only at *;subst hs;have hil:=(oGS ht).1;have hg:fT ts i=some (1,rs,pc,ct,hd,sa,tr,co):=ht;have e1:∀f:DTh->DTh,List.modify ts i f=ts.set i (f (1,rs,pc,ct,hd,sa,tr,co)):=λf=>gt ht f;have e2:∀x,fT (ts.set i x) i=some x:=λx=>gW hil x;have e3:∀(x:DTh)(f:DTh->DTh),List.modify (ts.set i x) i f=ts.set i (f x):=λx f=>p5 hil x f;have eT:∀QB,iy (i:Nat) QB ts=some (2,ts.set i (4,rs,pc,ct,hd,sa,QB,0),()):=λQB=>by rw[S5 (n:=n) ht,e1]
 have mk:∀{rs':C_}{pc' ct' sa':Int},rs'.length=8->(∀c∈rs',n9 (RK bs ss) c)->0<=pc'/\pc'<=255->0<=ct'/\ct'<=n->-1<=sa'/\sa'<=255->zD (RK bs ss) n (1,rs',pc',ct',hd,sa',tr,co):=λh1 h2 h3 h4 h5=>⟨⟨show(0:Int)<=1 by decide,show(1:Int)<=4 by decide⟩,h1,h2,h3,h4,ha,h5,⟨r0,r1⟩,hco⟩;unfold sB;rw[fW];delta fZ;simp only[hg,oBS];refine fS (λZ'=>?_) λZ'=>?_;rw[eT 2];exact pH hm hok (by decide);refine jt p0 λj hj=>?_;subst hj;have Y6:=hp.clen;refine f6 λx hx=>?_;obtain⟨op,A,B,C,I⟩:=x;obtain⟨⟨o0,o1⟩,⟨A0,A1,_⟩,⟨B0,B1,_⟩,⟨C0,C1,_⟩,⟨I0,I1,_⟩,hlea,hsys,hjmp⟩:=hp.ins _ (fY hx);dsimp only at *;obtain⟨A,rfl⟩:∃k:Nat,A=k:=⟨A.toNat,by omega⟩;obtain⟨B,rfl⟩:∃k:Nat,B=k:=⟨B.toNat,by omega⟩;obtain⟨C,rfl⟩:∃k:Nat,C=k:=⟨C.toNat,by omega⟩;obtain⟨I,rfl⟩:∃k:Nat,I=k:=⟨I.toNat,by omega⟩;obtain⟨⟨ta,va⟩,gA⟩:∃c,fT rs A=some c:=⟨_,oGE (by omega)⟩;obtain⟨⟨tb,vb⟩,gB⟩:∃c,fT rs B=some c:=⟨_,oGE (by omega)⟩;obtain⟨⟨tc,vc⟩,gC⟩:∃c,fT rs C=some c:=⟨_,oGE (by omega)⟩;have cA:=hr _ (fY gA);have cB:=hr _ (fY gB);have cC:=hr _ (fY gC);have eR:∀f:DCe->DCe,List.modify rs A f=rs.set A (f (ta,va)):=λf=>gt gA f;have w1:w64 ((j:Int)+1)=(j:Int)+1:=gD (by omega) (by omega);have wI:wk .u16 (I:Int)=I:=gl (by omega) (by omega);have Zd:∀{c:DCe},n9 (RK bs ss) c->(rs.set A c).length=8/\∀x∈rs.set A c,n9 (RK bs ss) x:=λhc=>⟨by rw[oLS];exact hl,jU hr hc⟩;have wc:w64 (ct+1)=ct+1:=gD (by omega) (by omega);simp only[fW,hg,gA,gB,oBS,w1,wI];rcases(show op=0\/op=1\/op=2\/op=15\/op=16\/op=17\/op=18\/op=19\/op=20\/op=21\/op=22\/op=23\/op=24\/(3<=op/\op<=14) by omega)with rfl|rfl|rfl|rfl|rfl|rfl|rfl|rfl|rfl|rfl|rfl|rfl|rfl|⟨q0,q1⟩;all_goals try simp only[Int.reduceBEq,oCT,oCF,fW,hg,gA,gB,gC,e1,e2,e3,eR,eT,oBS,w1,wI,wc,kg,n5,Bool.or_false,Bool.or_true,Bool.or_self,oBN]
 exact qm hm (mk hl hr (by omega) (by omega) (by omega)) rfl (.inl ⟨rfl,rfl⟩);exact qm hm (mk (Zd (kf (by omega))).1 (Zd (kf (by omega))).2 (by omega) (by omega) (by omega)) rfl (.inl ⟨rfl,rfl⟩);exact qm hm (mk (Zd cB).1 (Zd cB).2 (by omega) (by omega) (by omega)) rfl (.inl ⟨rfl,rfl⟩);have hI:=hlea rfl;have hbl:=h.lay.2.1;obtain⟨b,hb⟩:=gv bs I (by omega);obtain⟨z,hz⟩:=gv ss I (by omega);have Yi:=h.lay.2.2 I (by omega);unfold xo at Yi;rw[gu hb,gu hz]at Yi;have Xm:=h.lay.1.2.2 z (fY hz);have wb:wk .u16 b=b:=gl (by omega) (by omega);have gb:fT bs I=some b:=hb;simp only[gb,wb,Int.reduceBEq,oCT,oCF,fW,hg,gA,gB,gC,e1,e2,e3,eR,eT,oBS,w1,wI,wc,kg,n5,Bool.or_false,Bool.or_true,Bool.or_self,oBN];have Z1:n9 (RK bs ss) (1,b):=⟨by dsimp only;omega,by dsimp only;omega,by dsimp only;omega,by dsimp only;omega,λ_=>⟨I,b,z,hb,hz,by dsimp only;omega,by dsimp only;omega⟩⟩;exact qm hm (mk (Zd Z1).1 (Zd Z1).2 (by omega) (by omega) (by omega)) rfl (.inl ⟨rfl,rfl⟩);obtain⟨_,em,t1,x1,e,rfl,ZM,he0,he6,hx512⟩:=BQ (key:=key) (tag:=tb) (v:=vb) (n:=(I:Int)) (back:=false) h.lay ⟨cB.2.2.1,cB.2.2.2.1⟩ ⟨by omega,by omega⟩;simp only[em,oBS];by_cases hne:e=0;subst hne;have wx:wk .i64 x1=x1:=gf (by have:=ZM.2.2.1;dsimp only at this;omega) (by have:=ZM.2.2.2.1;dsimp only at this;omega);obtain⟨_,el,t2,x2,Xf,Xn,rfl,ZI,hm2⟩:=Pf (a:=x1) hm ⟨ZM.2.2.1,hx512 rfl⟩;simp only[wx,el,Int.reduceBEq,oCT,oCF,fW,hg,gA,gB,gC,e1,e2,e3,eR,eT,oBS,w1,wI,wc,kg,n5,Bool.or_false,Bool.or_true,Bool.or_self,oBN];exact qm hm2 (mk (Zd ZI).1 (Zd ZI).2 (by omega) (by omega) (by omega)) rfl (.inl ⟨rfl,rfl⟩);simp only[bne_iff_ne.2 hne,oCT];exact pH hm hok ⟨he0,he6⟩;obtain⟨_,em,t1,x1,e,rfl,ZM,he0,he6,hx512⟩:=BQ (key:=key) (tag:=ta) (v:=va) (n:=(I:Int)) (back:=false) h.lay ⟨cA.2.2.1,cA.2.2.2.1⟩ ⟨by omega,by omega⟩;simp only[em,oBS];by_cases hne:e=0;subst hne;have wx:wk .i64 x1=x1:=gf (by have:=ZM.2.2.1;dsimp only at this;omega) (by have:=ZM.2.2.2.1;dsimp only at this;omega);obtain⟨_,el,Xf,Xn,rfl,hm2⟩:=yW (a:=x1) (t:=tb) (v:=vb) hm ⟨ZM.2.2.1,hx512 rfl⟩ cB;simp only[wx,el,Int.reduceBEq,oCT,oCF,fW,hg,gA,gB,gC,e1,e2,e3,eR,eT,oBS,w1,wI,wc,kg,n5,Bool.or_false,Bool.or_true,Bool.or_self,oBN];exact qm hm2 (mk hl hr (by omega) (by omega) (by omega)) rfl (.inl ⟨rfl,rfl⟩);simp only[bne_iff_ne.2 hne,oCT];exact pH hm hok ⟨he0,he6⟩;have:=hjmp (by decide);exact qm hm (mk hl hr (by omega) (by omega) (by omega)) rfl (.inr rfl);have:=hjmp (by decide);by_cases hta:ta=0;subst hta;cases va==0 with|true=>simp only[BEq.rfl,Int.reduceBEq,oCT,oCF,fW,hg,gA,gB,gC,e1,e2,e3,eR,eT,oBS,w1,wI,wc,kg,n5,Bool.or_false,Bool.or_true,Bool.or_self,oBN];exact qm hm (mk hl hr (by omega) (by omega) (by omega)) rfl (.inr rfl)|false=>simp only[show(false==true)=false from rfl,Int.reduceBEq,oCT,oCF,fW,hg,gA,gB,gC,e1,e2,e3,eR,eT,oBS,w1,wI,wc,kg,n5,Bool.or_false,Bool.or_true,Bool.or_self,oBN];exact qm hm (mk hl hr (by omega) (by omega) (by omega)) rfl (.inr rfl)
 simp only[bne_iff_ne.2 hta,oCT];exact pH hm hok (by decide);have:=hjmp (by decide);by_cases hta:ta=0;subst hta;cases va==0 with|true=>simp only[show(true==false)=false from rfl,Int.reduceBEq,oCT,oCF,fW,hg,gA,gB,gC,e1,e2,e3,eR,eT,oBS,w1,wI,wc,kg,n5,Bool.or_false,Bool.or_true,Bool.or_self,oBN];exact qm hm (mk hl hr (by omega) (by omega) (by omega)) rfl (.inr rfl)|false=>simp only[BEq.rfl,Int.reduceBEq,oCT,oCF,fW,hg,gA,gB,gC,e1,e2,e3,eR,eT,oBS,w1,wI,wc,kg,n5,Bool.or_false,Bool.or_true,Bool.or_self,oBN];exact qm hm (mk hl hr (by omega) (by omega) (by omega)) rfl (.inr rfl)
 simp only[bne_iff_ne.2 hta,oCT];exact pH hm hok (by decide);have:=hjmp (by decide);have wj:wk .u16 ((j:Int)+1)=(j:Int)+1:=gl (by omega) (by omega);rw[wj];exact qm hm (mk (Zd (kf (by omega))).1 (Zd (kf (by omega))).2 (by omega) (by omega) (by omega)) rfl (.inr rfl);by_cases hta:ta=0;subst hta;have wa:wk .i64 va=va:=gf (by have:=cA.2.2.1;dsimp only at this;omega) (by have:=cA.2.2.2.1;dsimp only at this;omega);have a0:=cA.2.2.1;dsimp only at a0;by_cases hva:va>255;simp only[oDT hva,oBN,oCT,oCF];exact pH hm hok (by decide);simp only[oDF hva,wa,Int.reduceBEq,oCT,oCF,fW,hg,gA,gB,gC,e1,e2,e3,eR,eT,oBS,w1,wI,wc,kg,n5,Bool.or_false,Bool.or_true,Bool.or_self,oBN];exact qm hm (mk hl hr (by omega) (by omega) (by omega)) rfl (.inr rfl);simp only[bne_iff_ne.2 hta,oCT];exact pH hm hok (by decide);refine fQ ⟨_,_,_,_,rfl,hm,⟨⟨show(0:Int)<=2 by decide,show(2:Int)<=4 by decide⟩,hl,hr,⟨by dsimp only;omega,by dsimp only;omega⟩,⟨c0,by dsimp only;omega⟩,ha,⟨s0,s1⟩,⟨r0,r1⟩,hco⟩,.inr (.inr ⟨rfl,rfl,rfl,(23,(A:Int),(B:Int),(C:Int),(I:Int)),by dsimp only;omega,?_,rfl⟩)⟩;dsimp only;rw[show(j:Int)+1-1=(j:Int) by omega,oTN];exact hx;by_cases hsa:sa=-1;simp only[beq_iff_eq.2 hsa,oCT];exact pH hm hok (by decide);simp only[oBF hsa,Int.reduceBEq,oCT,oCF,fW,hg,gA,gB,gC,e1,e2,e3,eR,eT,oBS,w1,wI,wc,kg,n5,Bool.or_false,Bool.or_true,Bool.or_self,oBN];exact qm hm (mk hl hr (by omega) (by omega) (by omega)) rfl (.inr rfl);obtain⟨_,ed,t1,x1,e,rfl,ZM,he0,he6⟩:=Wk (key:=key) (op:=op) h.lay cB cC;have n0:(op==0)=false:=oBF (by omega);have n1:(op==1)=false:=oBF (by omega);have n2:(op==2)=false:=oBF (by omega);have n15:(op==15)=false:=oBF (by omega);have n16:(op==16)=false:=oBF (by omega);have n17:(op==17)=false:=oBF (by omega);have n18:(op==18)=false:=oBF (by omega);have n19:(op==19)=false:=oBF (by omega);have n20:(op==20)=false:=oBF (by omega);have n21:(op==21)=false:=oBF (by omega);have n22:(op==22)=false:=oBF (by omega);have n23:(op==23)=false:=oBF (by omega);have n24:(op==24)=false:=oBF (by omega);simp only[n0,n1,n2,n15,n16,n17,n18,n19,n20,n21,n22,n23,n24,ed,Int.reduceBEq,oCT,oCF,fW,hg,gA,gB,gC,e1,e2,e3,eR,eT,oBS,w1,wI,wc,kg,n5,Bool.or_false,Bool.or_true,Bool.or_self,oBN];by_cases hne:e=0;subst hne;simp only[n18,n19,n20,n21,n22,n24,Int.reduceBEq,oCT,oCF,fW,hg,gA,gB,gC,e1,e2,e3,eR,eT,oBS,w1,wI,wc,kg,n5,Bool.or_false,Bool.or_true,Bool.or_self,oBN];exact qm hm (mk (Zd ZM).1 (Zd ZM).2 (by omega) (by omega) (by omega)) rfl (.inl ⟨rfl,rfl⟩);simp only[bne_iff_ne.2 hne,oCT];exact pH hm hok ⟨he0,he6⟩
theorem zD.mono{K:Int->Prop}{n m:Int}{t:DTh}(h:zD K n t)(hm:n<=m):zD K m t:=⟨h.state,h.len,h.regs,h.pc,⟨h.count.1,by have:=h.count.2;omega⟩,h.handler,h.saved,h.trap,h.code⟩
theorem MOk.mono{n m:Int}{ss bs:M_}{cs:C_}{ls:G_}{ts:J_}(h:MOk n ss bs cs ls ts)(hm:n<=m):MOk m ss bs cs ls ts:=⟨h.lay,h.mem,h.tlen,λt ht=>(h.thr t ht).mono hm⟩
theorem ET{α:Type}{l:List α}{i:Nat}{a:α}(h:l[i]?=some a):l.set i a=l:=by apply oEG;grind
def WB(code:F_)(s:Int)(t':DTh):Prop:=(s=0/\t'.1=1)\/(s=2/\t'.1=4)\/(s=1/\t'.1=2/\∃i:DIn,1<=t'.2.2.1/\code[(t'.2.2.1-1).toNat]?=some i/\i.1=23)
def Uv(n key:Int)(code:F_)(ss bs:M_)(ts:J_)(i:Nat)(r:M_×Int×C_×G_×J_×Int×Int×Unit):Prop:=∃s Z9 Z7 t',r=(bs,key,Z9,Z7,ts.set i t',s,0,())/\i9 (RK bs ss) Z9 Z7/\zD (RK bs ss) n t'/\((s=3/\ts[i]?=some t'/\t'.1≠1)\/WB code s t')
abbrev g_:=List v_
def Wb(i:Nat)(s:Int×Int×F_×v_×g_×Unit×Int×Unit×Unit×Unit×v_×Int×C_×G_×J_×Unit):Nat:=match s.2.2.2.2.2.2.2.2.2.2.2.2.2.2.1[i]? with|some t=>((s.2.1-t.2.2.2.1)*256+(255-t.2.2.1)).toNat|none=>0
theorem JN{i:Nat}{a b k:Int}{code:F_}{ss bs:M_}{d:j_}{cs:C_}{ls:G_}{ts:J_}{t:DTh}(h:ts[i]?=some t):Wb i (a,b,code,ss,d,(),0,(),(),(),bs,k,cs,ls,ts,())=((b-t.2.2.2.1)*256+(255-t.2.2.1)).toNat:=by unfold Wb;simp_all
theorem Qw{n key k:Int}{code:F_}{ss bs:M_}{d:j_}{cs:C_}{ls:G_}{ts:J_}{i:Nat}(hp:kj code ss d)(h:MOk n ss bs cs ls ts)(hn0:0<=n)(hn:n+64<=1099511627776)(hi:i<4)(hk:1<=k/\k<=64):Ok (ph code ss d bs key cs ls ts (i:Int) k) (Uv (n+64) key code ss bs ts i):=by
 have Yp:=h.tlen;obtain⟨t,ht⟩:=gv ts i (by omega);have hg:fT ts i=some t:=ht;have hil:i<ts.length:=by omega
 have hok:=h.thr t (fY ht);unfold ph;rw[vo hp h (by omega)];simp;rw[oDF (show ¬(i:Int)<0 by omega),oDF (show ¬(i:Int)>=4 by omega),oDF (show ¬k<1 by omega),oDF (show ¬k>64 by omega)];simp only[oBS,oCF,ye h,fW,hg];refine fS (λZ'=>?_) λZ'=>?_;refine fQ ⟨3,cs,ls,t,?_,h.mem,hok.mono (by omega),.inl ⟨rfl,ht,Z'⟩⟩;rw[ET ht];have hct:=hok.count;have hpc:=hok.pc;rw[iE (x:=t.2.2.2.1+k)];refine gO (P:=λs'=>∃Z9 Z7 t',s'=((i:Int),t.2.2.2.1+k,code,ss,d,(),0,(),(),(),bs,key,Z9,Z7,ts.set i t',())/\i9 (RK bs ss) Z9 Z7/\zD (RK bs ss) (n+64) t'/\t'.1=1/\t'.2.2.2.1<t.2.2.2.1+k)
  (R:=λr=>∃s Z9 Z7 t',r=(s,0,bs,key,Z9,Z7,ts.set i t',())/\i9 (RK bs ss) Z9 Z7/\zD (RK bs ss) (n+64) t'/\WB code s t') (m:=Wb i) ⟨cs,ls,t,by rw[ET ht],h.mem,hok.mono (by omega),Z',by omega⟩ ?_ ?_ ?_
 rw[JN ht];unfold NN;omega;rintro _ ⟨Z9,Z7,t',rfl,hm,Zp,hr,hlt⟩;have ZT:(ts.set i t')[i]?=some t':=gW hil t';unfold tJ;dsimp only;refine(U7 hp (((h.mono (show n<=n+64 by omega)).set hm Zp):MOk (n+64) ss bs Z9 Z7 (ts.set i t')) ZT hr (by omega) (by omega)).bind ?_;rintro _ ⟨s,Xf,Xn,t2,rfl,hm2,hth2,YV⟩;dsimp only;rw[List.set_set];refine fS (λZ1=>?_) λZ1=>?_;refine fQ ⟨_,_,_,_,rfl,hm2,hth2,?_⟩;rcases YV with⟨q,_⟩|⟨q1,q2,_⟩|⟨q1,q2,_,q3⟩;exact absurd q Z1;exact .inr (.inl ⟨q1,q2⟩);exact .inr (.inr ⟨q1,q2,q3⟩);rw[fW];simp only[oBS,gW hil];have h0:=hth2.count;have h1:=hth2.pc;have h2:=Zp.pc;rcases YV with⟨_,q1,q2⟩|⟨q1,_⟩|⟨q1,_⟩;refine fS (λhcc=>?_) λhcc=>?_;exact fQ ⟨_,_,_,_,rfl,hm2,hth2,.inl ⟨rfl,q1⟩⟩;refine fQ ⟨⟨_,_,_,rfl,hm2,hth2,q1,by omega⟩,?_⟩;rw[JN ZT,JN (gW hil t2)];omega;omega;omega;rintro _ ⟨s,Z9,Z7,t',rfl,hm,Zp,hs⟩;exact fQ ⟨_,_,_,_,rfl,hm,Zp,.inr hs⟩
def OD(bs ss:M_)(a:Int):Nat->Nat->Option (Int×Int)|0,_=>none|n+1,k=>if bs.getD k 0<=a/\a<bs.getD k 0+ss.getD k 0 then some ((k:Int),a-bs.getD k 0)else OD bs ss a n (k+1)
def OF(bs ss:M_)(a:Int):Option (Int×Int):=OD bs ss a bs.length 0
theorem OC{bs ss:M_}{a r o:Int}:∀{n k:Nat},k+n=bs.length->bs.length=ss.length->OD bs ss a n k=some (r,o)->∃(j:Nat)(b z:Int),r=j/\o=a-b/\bs[j]?=some b/\ss[j]?=some z/\b<=a/\a<b+z:=by
 intro n;induction n with
 |zero=>intro k _ _ h;cases h|succ n ih=>
 intro k hk hl h;simp only[OD]at h;split at h
 ·rename_i hh
  injection h with h
  injection h with h1 h2
  refine⟨k,_,_,h1.symm,h2.symm,?_,?_,hh.1,hh.2⟩
  all_goals rw[PK (by omega)];exact oGE (by omega)
 exact ih (by omega) hl h
theorem Hx{bs ss:M_}{a:Int}:∀{n k:Nat},k+n=bs.length->OD bs ss a n k=none->∀(j:Nat)(b z:Int),k<=j->bs[j]?=some b->ss[j]?=some z->¬(b<=a/\a<b+z):=by intro n;induction n with|zero=>simp_all|succ n ih=>intro k hk h j b z hj hb hz;simp[OD]at h;split at h;cases h;rename_i hh;by_cases hjk:j=k;simp_all;exact ih (by omega) h j b z (by omega) hb hz
theorem xD{bs ss:M_}{a r o:Int}(hl:bs.length=ss.length)(h:OF bs ss a=some (r,o)):∃(j:Nat)(b z:Int),r=j/\o=a-b/\bs[j]?=some b/\ss[j]?=some z/\b<=a/\a<b+z:=OC (by omega) hl h
theorem OE{bs ss:M_}{a:Int}(h:RK bs ss a):∃r o,OF bs ss a=some (r,o):=by cases e:OF bs ss a with|some x=>exact⟨x.1,x.2,rfl⟩|none=>have ⟨j,b,z,h1,h2,h3,h4⟩:=h;exact absurd ⟨h3,h4⟩ (Hx (by omega) e j b z (by omega) h1 h2)
theorem ze{bs ss:M_}{key a:Int}(h:LV bs ss)(ha:W16 a):gY bs key ss a=some (match OF bs ss a with|some (r,o)=>(r,o,true,())|none=>(0,0,false,())):=by
 obtain⟨hs,hl,hr⟩:=h;obtain⟨a0,a1⟩:=ha;have Os:=hs.2.1;have key1:∀(n k N:Nat),k+n=bs.length->n<N->gc gK N (ss,a,bs,(bs.length:Int),(k:Int),bs,key,0,0,())=some (match OD bs ss a n k with|some (r,o)=>.inl (true,r,o,())|none=>.inr (ss,a,bs,(bs.length:Int),(bs.length:Int),false,bs,key,0,0,())):=by
  intro n;induction n with
  |zero=>
  intro k N hk hN;obtain⟨N,rfl⟩:∃M,N=M+1:=⟨N-1,by omega⟩;obtain rfl:k=bs.length:=by omega
  have e:gK (ss,a,bs,(bs.length:Int),(bs.length:Int),bs,key,0,0,())=some (.inr (.inr (ss,a,bs,(bs.length:Int),(bs.length:Int),false,bs,key,0,0,()))):=by refine gV ?_;unfold gK;dsimp only;refine fS (λZ'=>?_) λZ'=>?_;omega;exact fQ rfl
  simp only[gc,e,oBS,OD]
  |succ n ih=>
  intro k N hk hN;obtain⟨N,rfl⟩:∃M,N=M+1:=⟨N-1,by omega⟩;obtain⟨b,hb⟩:=gv bs k (by omega);obtain⟨z,hz⟩:=gv ss k (by omega);have Xm:=hs.2.2 z (fY hz);have hrk:=hr k (by omega);unfold xo at hrk;rw[gu hb,gu hz]at hrk;by_cases hh:b<=a/\a<b+z;have e:gK (ss,a,bs,(bs.length:Int),(k:Int),bs,key,0,0,())=some (.inr (.inl (true,(k:Int),a-b,()))):=by refine gV ?_;unfold gK;dsimp only;rw[oDT (show(k:Int)<bs.length by omega),fW];simp only[oCT,oBS,show fT bs k=some b from hb,show fT ss k=some z from hz];rw[oDT (show a>=b by omega),iE (x:=b+z),oDT hh.2,iE (x:=a-b)];exact fQ rfl
  simp only[gc,e,oBS,OD,gu hb,gu hz,oIP hh];have e:gK (ss,a,bs,(bs.length:Int),(k:Int),bs,key,0,0,())=some (.inl (ss,a,bs,(bs.length:Int),((k+1:Nat):Int),bs,key,0,0,())):=by refine gV ?_;unfold gK;dsimp only;rw[oDT (show(k:Int)<bs.length by omega),fW];simp only[oCT,oBS,show fT bs k=some b from hb,show fT ss k=some z from hz];rw[iE (x:=b+z)];by_cases h1:a>=b;rw[oDT h1,oDF (show ¬a<b+z by omega)];simp only[oCT,oCF];rw[iE (x:=(k:Int)+1)];exact fQ rfl;rw[oDF h1];simp only[oCF];rw[iE (x:=(k:Int)+1)];exact fQ rfl
  simp only[gc,e,oBS,OD,gu hb,gu hz,oIN hh];exact ih (k+1) N (by omega) (by omega)
 unfold gY OF;delta fZ;try dsimp only
 rw[show gc gK NN (ss,a,bs,(bs.length:Int),0,bs,key,0,0,())=_ from key1 bs.length 0 NN (by omega) (by unfold NN;omega)];cases OD bs ss a bs.length 0 with|some x=>rfl|none=>rfl
def sg(bs ss:M_)(key:Int)(c:DCe):DCn:=if c.1=0 then(0,c.2,0,0)else if c.1=2 then(2,wk .u16 (c.2-key),0,0)else match OF bs ss c.2 with|some (r,o)=>(1,0,r,o)|none=>(1,0,-1,c.2)
theorem vL{K:Int->Prop}{bs ss:M_}{key:Int}{c:DCe}(h:LV bs ss)(hc:n9 K c):ji bs key ss c.1 c.2=some ((sg bs ss key c).1,(sg bs ss key c).2.1,(sg bs ss key c).2.2.1,(sg bs ss key c).2.2.2,()):=by
 have ⟨c0,c1,c2,c3,_⟩:=hc;unfold ji sg;rw[gf (by omega) (by omega)];dsimp only;rw[ze h ⟨c2,c3⟩];rcases(show c.1=0\/c.1=1\/c.1=2 by omega)with e|e|e<;>rw[e]
 rfl;simp;cases OF bs ss c.2 with|some x=>rfl|none=>rfl
 rfl
theorem j0(x:Int):W16 (wk .u16 x):=sq x
theorem GX{bs ss:M_}{key:Int}{c:DCe}(h:LV bs ss)(hc:n9 (RK bs ss) c):Pr ss (sg bs ss key c):=by have ⟨c0,c1,c2,c3,c4⟩:=hc;unfold sg;rcases(show c.1=0\/c.1=1\/c.1=2 by omega)with e|e|e;rw[oIP e];exact .inl ⟨.inl rfl,rfl,rfl,c2,c3⟩;rw[oIN (by omega),oIN (by omega)];have ⟨r,o,hro⟩:=OE (c4 e);rw[hro];obtain⟨j,b,z,rfl,rfl,h1,h2,h3,h4⟩:=xD h.2.1 hro;exact .inr ⟨rfl,rfl,by simp_all,z,by simp_all,by simp_all,by dsimp only;omega⟩;rw[oIN (by omega),oIP e];exact .inl ⟨.inr rfl,rfl,rfl,j0 _⟩
theorem Bq{K:Int->Prop}{bs ss:M_}{key:Int}{c:DCe}(hc:n9 K c):(sg bs ss key c).1=c.1/\(c.1=0->(sg bs ss key c).2.1=c.2):=by
 have ⟨c0,c1,_⟩:=hc;unfold sg;rcases(show c.1=0\/c.1=1\/c.1=2 by omega)with e|e|e;simp_all;rw[oIN (by omega),oIN (by omega)];cases OF bs ss c.2 with|some x=>simp_all|none=>simp_all
 simp_all
def o6(cs:C_)(ls:G_)(a:Int):DCe:=match ls[(a/4%4).toNat]? with|some x=>if x.1=a/4 then x.2.2.getD (a%4).toNat (0,0)else cs.getD a.toNat (0,0)|none=>(0,0)
theorem getD_some{α:Type}{l:List α}{k:Nat}{d x:α}(h:l[k]?=some x):l.getD k d=x:=by simp_all
theorem E9{K:Int->Prop}{cs:C_}{ls:G_}{a:Int}(h:i9 K cs ls)(ha:0<=a/\a<512):oI cs ls a=some ((o6 cs ls a).1,(o6 cs ls a).2,())/\n9 K (o6 cs ls a):=by obtain⟨a0,a1⟩:=ha;obtain⟨h1,h2,h3,h4,_⟩:=id h;unfold oI o6;rw[Int.tdiv_eq_ediv_of_nonneg a0,iE (x:=a/4)];dsimp only;rw[oTE (show 0<=a/4 by omega),oTE a0];obtain⟨i,hi⟩:∃i:Nat,a/4%4=i:=⟨(a/4%4).toNat,by omega⟩;rw[hi,fW,oTN];obtain⟨x,hx⟩:=gv ls i (by omega);simp only[oBS,show fT ls i=some x from hx,hx];by_cases hq:x.1=a/4;rcases h4 i x hx with⟨g,_,_⟩|⟨_,_,_,g4,g5⟩;omega;obtain⟨j,hj⟩:∃j:Nat,a%4=j:=⟨(a%4).toNat,by omega⟩;obtain⟨y,hy⟩:=gv x.2.2 j (by omega);rw[hj,fW,oTN,oIP hq,getD_some hy,beq_iff_eq.2 hq];simp only[oCT,oBS,show fT x.2.2 j=some y from hy];exact⟨trivial,g5 y (fY hy)⟩;obtain⟨j,rfl⟩:∃j:Nat,a=j:=⟨a.toNat,by omega⟩;obtain⟨y,hy⟩:=gv cs j (by omega);rw[oIN hq,oBF hq,fW,oTN,getD_some hy];simp only[oCF,oBS,show fT cs j=some y from hy];exact⟨trivial,h2 y (fY hy)⟩
def kB(call:Int):M_:=
 if call=0\/call=8\/call=9\/call=11\/call=12 then[78]else if call=1\/call=2 then[72,80,78]else if call=3 then[78,78]else if call=4 then[72]else if call=5 then[72,78]
 else if call=10 then[78,88]else if call=13\/call=14 then[78,80,78]else[]
theorem Po(call:Int):(kB call).length<=3:=by
 unfold kB;repeat' split
 all_goals simp
def BOk(b:ByteArray)(l:M_):Prop:=By b=(l.length:Int)/\∀j:Nat,Ec b j=l[j]?
theorem WU:BOk (bytes []) []:=⟨rfl,λj=>rfl⟩
theorem WT{a:Nat}(h:a<256):BOk (bytes [a]) [(a:Int)]:=⟨rfl,λj=>by
 match j with
 |0=>show some (((UInt8.ofNat a).toNat:Nat):Int)=some (a:Int);simp;omega
 |n+1=>rfl⟩
theorem WS{a b:Nat}(h:a<256)(hb:b<256):BOk (bytes [a,b]) [(a:Int),(b:Int)]:=⟨rfl,λj=>by
 match j with
 |0=>show some (((UInt8.ofNat a).toNat:Nat):Int)=some (a:Int);simp;omega
 |1=>show some (((UInt8.ofNat b).toNat:Nat):Int)=some (b:Int);simp;omega
 |n+2=>rfl⟩
theorem WR{a b c:Nat}(h:a<256)(hb:b<256)(hc:c<256):BOk (bytes [a,b,c]) [(a:Int),(b:Int),(c:Int)]:=⟨rfl,λj=>by
 match j with
 |0=>show some (((UInt8.ofNat a).toNat:Nat):Int)=some (a:Int);simp;omega
 |1=>show some (((UInt8.ofNat b).toNat:Nat):Int)=some (b:Int);simp;omega
 |2=>show some (((UInt8.ofNat c).toNat:Nat):Int)=some (c:Int);simp;omega
 |n+3=>rfl⟩
theorem qv{call:Int}(h:0<=call/\call<=15):call=0\/call=1\/call=2\/call=3\/call=4\/call=5\/call=6\/call=7\/call=8\/call=9\/call=10\/call=11\/call=12\/call=13\/call=14\/call=15:=by omega
theorem Fd{call:Int}(h:0<=call/\call<=15):∃b,mW call=some (b,())/\BOk b (kB call):=by
 rcases qv h with rfl|rfl|rfl|rfl|rfl|rfl|rfl|rfl|rfl|rfl|rfl|rfl|rfl|rfl|rfl|rfl;all_goals first
  |exact⟨_,rfl,WU⟩
  |exact⟨_,rfl,WT (by decide)⟩
  |exact⟨_,rfl,WS (by decide) (by decide)⟩
  |exact⟨_,rfl,WR (by decide) (by decide) (by decide)⟩
def Ni(k t:Int):Bool:=if k=78 then t==0 else if k=72 then t==2 else if k=80 then t==1 else true
theorem PO(k t:Int):oG k t=some (Ni k t,()):=by unfold oG Ni;by_cases h1:k=78;simp[h1];by_cases h2:k=72;simp[h2];by_cases h3:k=80;simp[h3];simp[h1,h2,h3,oBF h1,oBF h2,oBF h3]
def si(call:Int):Int:=if call=1\/call=13 then 1 else if call=2\/call=14 then 2 else 0
theorem sd{call:Int}(h:0<=call/\call<=15):kt call=some (si call,()):=by rcases qv h with rfl|rfl|rfl|rfl|rfl|rfl|rfl|rfl|rfl|rfl|rfl|rfl|rfl|rfl|rfl|rfl<;>rfl
theorem AJ{call:Int}(h:0<=call/\call<=15):jC call=some (((kB call).length:Int),()):=by have ⟨b,e,hb⟩:=Fd h;unfold jC;rw[oDF (show ¬call<0 by omega),oDF (show ¬call>15 by omega),e];simp[hb.1]
theorem NE{bs ss:M_}{key t v n:Int}(h:LV bs ss)(hv:W16 v)(hn:0<=n/\n<=65535):Ok (of bs key ss t v n) λr=>∃a e,r=(a,e,())/\(e=0->t=1/\a=v/\∃(j:Nat)(b z:Int),bs[j]?=some b/\ss[j]?=some z/\b<=v/\v+n<=b+z/\v<b+z):=by obtain⟨v0,v1⟩:=hv;unfold of;refine fS (λZ'=>?_) λZ'=>?_;exact fQ ⟨_,_,rfl,λh=>by omega⟩;rw[gf (x:=v) (by omega) (by omega)];dsimp only;rw[ze h ⟨v0,v1⟩];simp only[oBS];cases e:OF bs ss v with|none=>exact fQ ⟨_,_,rfl,λh=>by omega⟩|some x=>obtain⟨r,o⟩:=x;obtain⟨j,b,z,rfl,rfl,h1,h2,h3,h4⟩:=xD h.2.1 e;have hj:=(oGS h1).1;have hr:=h.2.2 j hj;unfold xo at hr;rw[gu h1,gu h2]at hr;rw[oDF (show ¬n<0 by omega),fW];simp only[oNT,oCF,oBS,show fT ss j=some z from h2];rw[iE (x:=z-(v-b))];refine fS (λZ1=>?_) λZ1=>?_;exact fQ ⟨_,_,rfl,λh=>by omega⟩;exact fQ ⟨_,_,rfl,λ_=>⟨Z',gf (by omega) (by omega),j,b,z,h1,h2,h3,by omega,h4⟩⟩
structure Qh (call:Int)(m:Int)(bs ss:M_)(rs:C_):Prop where
 fit:∀(j:Nat) k c,(kB call)[j]?=some k->rs[j]?=some c->Ni k c.1=true
 buf:0<si call->∃p q,rs[1]?=some p/\rs[2]?=some q/\q.2<=16/\p.1=1/\∃(j:Nat)(b z:Int),bs[j]?=some b/\ss[j]?=some z/\b<=p.2/\p.2+q.2<=b+z
 code:call=10\/call=12->∃c,rs[0]?=some c/\c.2<m
theorem KZ{call m:Int}{bs ss:M_}{rs:C_}(h:Qh call m bs ss rs):Ok (some ((0:Int),())) λr=>∃e,r=(e,())/\0<=e/\e<=6/\(e=0->Qh call m bs ss rs):=fQ ⟨0,rfl,by decide,by decide,λ_=>h⟩
theorem CM{call m:Int}{bs ss:M_}{rs:C_}:Ok (some ((6:Int),())) λr=>∃e,r=(e,())/\0<=e/\e<=6/\(e=0->Qh call m bs ss rs):=fQ ⟨6,rfl,by decide,by decide,λh=>absurd h (by decide)⟩
theorem Nu{n key:Int}{code:F_}{ss bs:M_}{d:j_}{cs:C_}{ls:G_}{ts:J_}{i:Nat}{t:DTh}{x:DIn}(h:MOk n ss bs cs ls ts)(ht:ts[i]?=some t)(hp1:1<=t.2.2.1) (hx:code[(t.2.2.1-1).toNat]?=some x)(hc:0<=x.2.2.2.2/\x.2.2.2.2<=15):Ok (pf code ss d bs key cs ls ts (i:Int)) λr=>∃e,r=(e,())/\0<=e/\e<=6/\(e=0->Qh x.2.2.2.2 code.length bs ss t.2.1):=by
 have hok:=h.thr t (fY ht);obtain⟨_,hl,hr,⟨p0,p1⟩,_⟩:=id hok;obtain⟨o,A,B,C,call⟩:=x;dsimp only at hc⊢;obtain⟨b,eb,ZJ,ZU⟩:=Fd hc;have X1:=Po call;obtain⟨st,rs,pc,rest⟩:=t;dsimp only at *;obtain⟨j,hj⟩:∃j:Nat,pc-1=j:=⟨(pc-1).toNat,by omega⟩;rw[hj,oTN]at hx;unfold pf;rw[fW];simp only[oBS,show fT ts i=some (st,rs,pc,rest)from ht];rw[iE (x:=pc-1),hj,fW];simp only[oBS,show fT code j=some (o,A,B,C,call)from hx,eb,ZJ];obtain⟨c0,hc0⟩:=gv rs 0 (by omega);obtain⟨c1,ZM⟩:=gv rs 1 (by omega);obtain⟨c2,ZI⟩:=gv rs 2 (by omega);have v0:=hr c0 (fY hc0);have v1:=hr c1 (fY ZM);have v2:=hr c2 (fY ZI);have g0:fT rs 0=some c0:=hc0;have g1:fT rs 1=some c1:=ZM;have g2:fT rs 2=some c2:=ZI;obtain⟨y,e,hy⟩:=g9 (f:=oU) (n:=NN) (s:=(call,b,((kB call).length:Int),0,code,ss,d,bs,key,cs,ls,ts,st,rs,pc,rest.1,rest.2.1,rest.2.2.1,rest.2.2.2.1,rest.2.2.2.2,())) (P:=λs'=>∃q:Nat,s'=(call,b,((kB call).length:Int),(q:Int),code,ss,d,bs,key,cs,ls,ts,st,rs,pc,rest.1,rest.2.1,rest.2.2.1,rest.2.2.2.1,rest.2.2.2.2,())/\q<=(kB call).length/\∀(j:Nat) k c,j<q->(kB call)[j]?=some k->rs[j]?=some c->Ni k c.1=true) (R:=λr=>r=.inl (6,())\/(∃q,r=.inr (call,b,((kB call).length:Int),q,false,code,ss,d,bs,key,cs,ls,ts,st,rs,pc,rest.1,rest.2.1,rest.2.2.1,rest.2.2.2.1,rest.2.2.2.2,())/\∀(j:Nat) k c,(kB call)[j]?=some k->rs[j]?=some c->Ni k c.1=true)) (m:=λs'=>(s'.2.2.1-s'.2.2.2.1).toNat) ⟨0,rfl,by omega,λj k c hj=>by omega⟩ (by unfold NN;dsimp only;omega) (by rintro _ ⟨q,rfl,hq,Z2⟩;unfold oU;dsimp only;refine fS (λZ'=>?_) λZ'=>?_;rw[fW];obtain⟨k,hk⟩:=gv (kB call) q (by omega);obtain⟨c,hcq⟩:=gv rs q (by omega);simp only[oBS,ZU q,hk,show fT rs q=some c from hcq,PO];refine fS (λZ1=>?_) λZ1=>?_;exact fQ (.inl rfl);rw[iE (x:=(q:Int)+1)];refine fQ ⟨⟨q+1,rfl,by omega,λj' k' c' ZO h1 h2=>?_⟩,by dsimp only;omega⟩;by_cases hjq:j'=q;subst hjq;rw[hk]at h1;rw[hcq]at h2;cases h1;cases h2;exact Z1;exact Z2 j' k' c' (by omega) h1 h2;refine fQ (.inr ⟨_,rfl,λj k c h1 h2=>Z2 j k c ?_ h1 h2⟩);have:=(oGS h1).1;omega);rw[e];rcases hy with rfl|⟨q,rfl,Z2⟩;exact CM;dsimp only;rw[sd hc];delta fZ;simp only[oBS,g0,g1,g2];rw[gf (x:=c2.2) (by have:=v2.2.2.1;omega) (by have:=v2.2.2.2.1;omega),gf (x:=c0.2) (by have:=v0.2.2.1;omega) (by have:=v0.2.2.2.1;omega)];have ZS:(0<si call->∃p q,rs[1]?=some p/\rs[2]?=some q/\q.2<=16/\p.1=1/\∃(j:Nat)(b z:Int),bs[j]?=some b/\ss[j]?=some z/\b<=p.2/\p.2+q.2<=b+z)->Ok ((bif(call==10)then(some ((decide (c0.2>=(code.length:Int))),()))else bif(call==12)then(some ((decide (c0.2>=(code.length:Int))),()))else some (false,()):f_).bind λ(x35,_)=>bif x35 then(some ((6:Int),()))else some (0,())) λr=>∃e,r=(e,())/\0<=e/\e<=6/\(e=0->Qh call code.length bs ss rs):=by intro hbuf;by_cases q10:call=10;simp only[beq_iff_eq.2 q10,oCT,oBS];refine fS (λZ1=>?_) λZ1=>?_;exact CM;exact KZ ⟨Z2,hbuf,λ_=>⟨c0,hc0,by omega⟩⟩;by_cases q12:call=12;simp only[oBF q10,beq_iff_eq.2 q12,oCT,oCF,oBS];refine fS (λZ1=>?_) λZ1=>?_;exact CM;exact KZ ⟨Z2,hbuf,λ_=>⟨c0,hc0,by omega⟩⟩;simp only[oBF q10,oBF q12,oCF,oBS];exact KZ ⟨Z2,hbuf,λh=>by omega⟩
 refine fS (λZ'=>?_) λZ'=>?_;refine(NE (t:=c1.1) (v:=c1.2) (n:=c2.2) h.lay ⟨v1.2.2.1,v1.2.2.2.1⟩ ⟨v2.2.2.1,v2.2.2.2.1⟩).bind ?_;rintro _ ⟨a,e,rfl,he⟩;dsimp only;refine fS (λZ1=>?_) λZ1=>?_;exact CM;obtain⟨w1,_,j,b',z,w2,w3,w4,w5,w6⟩:=he Z1;refine fS (λhcc=>?_) λhcc=>?_;exact CM;exact ZS λ_=>⟨c1,c2,ZM,ZI,by omega,w1,j,b',z,w2,w3,w4,w5⟩;exact ZS λh=>by omega
structure A7 (n:Int)(ss:M_)(i stop trap count pc call:Int)(args data:D_):Prop where
 hthr:0<=i/\i<4
 hstop:0<=stop/\stop<=3
 htrap:0<=trap/\trap<=6
 hcnt:0<=count/\count<=n
 hpc:0<=pc/\pc<=255
 hcall:0<=call/\call<=15
 hargs:args.length<=3/\∀c∈args,Pr ss c
 hdata:data.length<=16/\∀c∈data,Pr ss c
 hkind:stop=1->args.length=(kB call).length/\∀(j:Nat) k a,(kB call)[j]?=some k->args[j]?=some a->Ni k a.1=true
 hbuf:stop=1->si call=2->∃a,args[2]?=some a/\a.2.1<=16
def W1(stop trap:Int)(t':DTh):Prop:=(stop=0/\t'.1=1)\/(stop=1/\t'.1=2)\/(stop=2/\t'.1=4/\t'.2.2.2.2.2.2.1=trap)\/(stop=3/\t'.1≠1)
theorem Rt{bs ss:M_}(h:LV bs ss){r r':Nat}{b z b' z' o o':Int}(hne:r≠r')(hb:bs[r]?=some b)(hz:ss[r]?=some z)(Za:bs[r']?=some b')(QA:ss[r']?=some z')(h0:0<=o)(h1:o<z)(h0':0<=o')(h1':o'<z'):b+o≠b'+o':=by have ⟨_,hl,hg⟩:=h;have l1:=(oGS hb).1;have l2:=(oGS Za).1;have g1:=hg r l1;have g2:=hg r' l2;unfold xo at g1 g2;rw[gu hb,gu hz]at g1;rw[gu Za,gu QA]at g2;by_cases hlt:r'<r;have:=g1.2.2 r' hlt;rw[gu Za,gu QA]at this;omega;have:=g2.2.2 r (by omega);rw[gu hb,gu hz]at this;omega
theorem Ug{bs ss:M_}{key:Int}{p q:DCe}(h:LV bs ss)(hp:n9 (RK bs ss) p)(hq:n9 (RK bs ss) q)(hp1:p.1=1){j:Nat}{b z:Int}(hb:bs[j]?=some b)(hz:ss[j]?=some z)(h1:b<=p.2)(h2:p.2+q.2<=b+z):∃z',ss[(sg bs ss key p).2.2.1.toNat]?=some z'/\(sg bs ss key p).2.2.2+q.2<=z':=by
 have ⟨_,_,_,_,hrk⟩:=hp;have ⟨r,o,e⟩:=OE (hrk hp1);obtain⟨j',b',z',rfl,rfl,k1,k2,k3,k4⟩:=xD h.2.1 e;have hq0:=hq.2.2.1;have hc:sg bs ss key p=(1,0,(j':Int),p.2-b'):=by unfold sg;simp_all
 rw[hc];refine⟨z',by simp_all,?_⟩;show p.2-b'+q.2<=z';by_cases hjj:j'=j;subst hjj;rw[k1]at hb;rw[k2]at hz;injection hb with hb
 injection hz with hz
 omega;by_cases hq1:q.2=0;omega;exact absurd (show b'+(p.2-b')=b+(p.2-b) by omega) (Rt h hjj k1 k2 hb hz (by omega) (by omega) (by omega) (by omega))
def Qe(ss:M_)(call:Int)(args:D_):Prop:=(si call=2->∃a q z,args[1]?=some a/\args[2]?=some q/\ss[a.2.2.1.toNat]?=some z/\a.2.2.2+q.2.1<=z)/\(call=10\/call=12->∃a,args[0]?=some a/\a.1=0/\a.2.1<=255)
def L9(n key:Int)(ss bs:M_)(ts:J_)(i:Nat)(r:v_×Int×C_×G_×J_×Int×Int×Int×Int×Int×Int×D_×D_×Int×Unit):Prop:=
 ∃Z9 Z7 t' stop trap call args data,r=(bs,key,Z9,Z7,ts.set i t',(i:Int),stop,trap,t'.2.2.2.1,t'.2.2.1,call,args,data,0,())/\i9 (RK bs ss) Z9 Z7/\zD (RK bs ss) n t' /\
  A7 n ss i stop trap t'.2.2.2.1 t'.2.2.1 call args data/\W1 stop trap t'/\(stop=3->ts[i]?=some t')/\(stop=1->Qe ss call args)
theorem A9{n:Int}{ss bs:M_}{i:Nat}{t':DTh}{stop trap:Int}(hi:i<4)(ht:zD (RK bs ss) n t')(hs:0<=stop/\stop<=3)(hs1:stop≠1)(htr:0<=trap/\trap<=6):A7 n ss i stop trap t'.2.2.2.1 t'.2.2.1 0 [] []:=⟨⟨by omega,by omega⟩,hs,htr,ht.count,ht.pc,by decide,⟨by decide,gy⟩,⟨by decide,gy⟩,λh=>absurd h hs1,λh=>absurd h hs1⟩
theorem jV{α β:Type}(f:α->β){l:List α}{k:Nat}{x:α}(h:l[k]?=some x):(l.take k).map f++[f x]=(l.take (k+1)).map f:=by rw[List.take_add_one,h];simp
theorem rC{β:Type}(f:Nat->β)(k:Nat):(List.range k).map f++[f k]=(List.range (k+1)).map f:=by rw[List.range_succ];simp
set_option maxHeartbeats 4000000 in
theorem Bw{n key k:Int}{code:F_}{ss bs:M_}{d:j_}{cs:C_}{ls:G_}{ts:J_}{i:Nat}(hp:kj code ss d)(h:MOk n ss bs cs ls ts)(hn0:0<=n)(hn:n+64<=1099511627776)(hi:i<4)(hk:1<=k/\k<=64):Ok (oH code ss d bs key cs ls ts (i:Int) k) (L9 (n+64) key ss bs ts i):=by
 have Yp:=h.tlen;have hil:i<ts.length:=by omega
 unfold oH;refine(Qw hp h hn0 hn hi hk).bind ?_;rintro _ ⟨s,Z9,Z7,t',rfl,hm,ZT,hs⟩;have hM:MOk (n+64) ss bs Z9 Z7 (ts.set i t'):=(h.mono (show n<=n+64 by omega)).set hm ZT;have hgt:(ts.set i t')[i]?=some t':=gW hil t';dsimp only;simp only[oBN,oCF,fW,oBS,gW hil];rcases hs with⟨rfl,hs1,YV⟩|⟨rfl,hs1⟩|⟨rfl,hs1⟩|⟨rfl,hs1,x,YV,hs3,Os⟩;exact fQ ⟨_,_,_,_,_,_,_,_,rfl,hm,ZT,A9 hi ZT (by decide) (by decide) (by decide),.inr (.inr (.inr ⟨rfl,YV⟩)),λ_=>hs1,λh=>absurd h (by decide)⟩;exact fQ ⟨_,_,_,_,_,_,_,_,rfl,hm,ZT,A9 hi ZT (by decide) (by decide) (by decide),.inl ⟨rfl,hs1⟩,λh=>absurd h (by decide),λh=>absurd h (by decide)⟩;exact fQ ⟨_,_,_,_,_,_,_,_,rfl,hm,ZT,A9 hi ZT (by decide) (by decide) ZT.trap,.inr (.inr (.inl ⟨rfl,hs1,rfl⟩)),λh=>absurd h (by decide),λh=>absurd h (by decide)⟩;have X9:=hp.ins x (fY hs3);have hcall:0<=x.2.2.2.2/\x.2.2.2.2<=15:=⟨X9.imm.1,X9.sys Os⟩;obtain⟨_,ec,e,rfl,he0,he6,hcok⟩:=Nu (key:=key) (d:=d) hM hgt YV hs3 hcall;obtain⟨o,A,B,C,call⟩:=x;dsimp only at hcall hcok;have X1:=Po call;have hl8:=ZT.len;obtain⟨j,hj⟩:∃j:Nat,t'.2.2.1-1=j:=⟨(t'.2.2.1-1).toNat,by omega⟩;have hpc:=ZT.pc;rw[hj,oTN]at hs3;rw[iE (x:=t'.2.2.1-1),hj];simp only[Int.reduceBEq,oCT,oCF,ec,oBS,fW,show fT code j=some (o,A,B,C,call)from hs3,AJ hcall];by_cases hne:e=0;subst hne;obtain⟨Z2,hbuf,Ym⟩:=hcok rfl;have e1:gc kO NN (((kB call).length:Int),0,code,ss,d,(),0,(),(),(),0,0,0,0,0,0,(),(),bs,key,Z9,Z7,ts.set i t',t'.1,t'.2.1,t'.2.2.1,t'.2.2.2.1,t'.2.2.2.2.1,t'.2.2.2.2.2.1,t'.2.2.2.2.2.2.1,t'.2.2.2.2.2.2.2,(i:Int),1,0,t'.2.2.2.1,t'.2.2.1,call,[],(),())= some (((kB call).length:Int),((kB call).length:Int),false,code,ss,d,(),0,(),(),(),0,0,0,0,0,0,(),(),bs,key,Z9,Z7,ts.set i t',t'.1,t'.2.1,t'.2.2.1,t'.2.2.2.1,t'.2.2.2.2.1,t'.2.2.2.2.2.1,t'.2.2.2.2.2.2.1,t'.2.2.2.2.2.2.2,(i:Int),1,0,t'.2.2.2.1,t'.2.2.1,call,(t'.2.1.take (kB call).length).map (sg bs ss key),(),()):=by refine nO (f:=kO) (N:=NN) (st:=λq=>(((kB call).length:Int),(q:Int),code,ss,d,(),0,(),(),(),0,0,0,0,0,0,(),(),bs,key,Z9,Z7,ts.set i t',t'.1,t'.2.1,t'.2.2.1,t'.2.2.2.1,t'.2.2.2.2.1,t'.2.2.2.2.2.1,t'.2.2.2.2.2.2.1,t'.2.2.2.2.2.2.2,(i:Int),1,0,t'.2.2.2.1,t'.2.2.1,call,(t'.2.1.take q).map (sg bs ss key),(),())) (n:=(kB call).length) (by unfold NN;omega) ?_ ?_;intro q hq;unfold kO;dsimp only;rw[oDT (show(q:Int)<(kB call).length by omega),fW];simp only[oCT,oBS];refine f6 λc hc=>?_;rw[vL h.lay (ZT.regs c (fY hc))];simp only[oBS];refine fR (gd (by simp;omega)) ?_;rw[iE (x:=(q:Int)+1)];refine fQ ?_;rw[<- jV (sg bs ss key) hc];rfl;unfold kO;dsimp only;rw[oDF (show ¬((kB call).length:Int)<(kB call).length by omega)];exact fQ rfl
 have hargs:((t'.2.1.take (kB call).length).map (sg bs ss key)).length=(kB call).length:=by rw[oLP,oLT];omega
 have hgetA:∀(j:Nat) a,((t'.2.1.take (kB call).length).map (sg bs ss key))[j]?=some a->∃c,t'.2.1[j]?=some c/\a=sg bs ss key c:=by
  intro j a ha;rw[oGP]at ha;cases hc:(t'.2.1.take (kB call).length)[j]? with
  |none=>rw[hc]at ha;cases ha|some c=>
  rw[hc]at ha;injection ha with ha
  refine⟨c,?_,ha.symm⟩;rw[List.getElem?_take]at hc;split at hc;exact hc;cases hc
 have hargsPr:∀c∈(t'.2.1.take (kB call).length).map (sg bs ss key),Pr ss c:=by intro c hc;obtain⟨c',YY,rfl⟩:=List.mem_map.1 hc;exact GX h.lay (ZT.regs c' (List.mem_of_mem_take YY))
 have hkinds:∀(j:Nat) k a,(kB call)[j]?=some k->((t'.2.1.take (kB call).length).map (sg bs ss key))[j]?=some a->Ni k a.1=true:=by intro j k a hk ha;obtain⟨c,hc,rfl⟩:=hgetA j a ha;rw[(Bq (ZT.regs c (fY hc))).1];exact Z2 j k c hk hc
 have hbuf2:si call=2->∃a,((t'.2.1.take (kB call).length).map (sg bs ss key))[2]?=some a/\a.2.1<=16:=by
  intro hb;obtain⟨p,q,hp1,Y3,hq16,_⟩:=hbuf (by omega);have hkk:(kB call)[2]?=some 78:=by
   have:call=2\/call=14:=by unfold si at hb;split at hb<;>first|omega|(split at hb<;>omega)
   rcases this with rfl|rfl<;>rfl
  have hf:=Z2 2 78 q hkk Y3;have hl3:=(oGS hkk).1;refine⟨sg bs ss key q,?_,?_⟩;rw[oGP,List.getElem?_take,oIP hl3,Y3];rfl;have hq:=(Bq (bs:=bs) (ss:=ss) (key:=key) (ZT.regs q (fY Y3))).2 (by unfold Ni at hf;simpa using hf);rw[hq];exact hq16
 simp only[e1,oBN,oCF,oBS,sd hcall];have hfitok:Qe ss call ((t'.2.1.take (kB call).length).map (sg bs ss key)):=by
  refine⟨λhb=>?_,λhcc=>?_⟩;obtain⟨p,q,hp1,Y3,hq16,hp0,jr,b,z,ZJ,hz1,ZU,Xi⟩:=hbuf (by omega);have hkk:(kB call)[1]?=some 80/\(kB call)[2]?=some 78:=by
   have:call=2\/call=14:=by unfold si at hb;split at hb<;>first|omega|(split at hb<;>omega)
   rcases this with rfl|rfl<;>exact⟨rfl,rfl⟩
  have hl3:=(oGS hkk.2).1;have hf:=Z2 2 78 q hkk.2 Y3;have hq:=(Bq (bs:=bs) (ss:=ss) (key:=key) (ZT.regs q (fY Y3))).2 (by unfold Ni at hf;simpa using hf);obtain⟨z',g1,g2⟩:=Ug (key:=key) h.lay (ZT.regs p (fY hp1)) (ZT.regs q (fY Y3)) hp0 ZJ hz1 ZU Xi;refine⟨sg bs ss key p,sg bs ss key q,z',by rw[oGP,List.getElem?_take,oIP (by omega),hp1];rfl,by rw[oGP,List.getElem?_take,oIP hl3,Y3];rfl,g1,by rw[hq];exact g2⟩;obtain⟨c,hc0,Y6⟩:=Ym hcc;have hkk:(kB call)[0]?=some 78:=by rcases hcc with rfl|rfl<;>rfl
  have hl0:=(oGS hkk).1;have hf:=Z2 0 78 c hkk hc0;have hq:=Bq (bs:=bs) (ss:=ss) (key:=key) (ZT.regs c (fY hc0));refine⟨sg bs ss key c,by rw[oGP,List.getElem?_take,oIP hl0,hc0];rfl,?_,?_⟩;rw[hq.1];unfold Ni at hf;simpa using hf;rw[hq.2 (by unfold Ni at hf;simpa using hf)];have:=hp.clen;omega
 have ZS:∀data:D_,data.length<=16->(∀c∈data,Pr ss c)->Ok (some (bs,key,Z9,Z7,ts.set i t',(i:Int),(1:Int),(0:Int),t'.2.2.2.1,t'.2.2.1,call,(t'.2.1.take (kB call).length).map (sg bs ss key),data,(0:Int),())) (L9 (n+64) key ss bs ts i):=λdata h1 h2=>fQ ⟨_,_,_,_,_,_,_,_,rfl,hm,ZT,⟨⟨by omega,by omega⟩,by decide,by decide,ZT.count,ZT.pc,hcall,⟨by omega,hargsPr⟩,⟨h1,h2⟩,λ_=>⟨hargs,hkinds⟩,λ_=>hbuf2⟩,.inr (.inl ⟨rfl,hs1⟩),λh=>absurd h (by decide),λ_=>hfitok⟩;by_cases ZJ:si call=1;obtain⟨p,q,hp1,Y3,hq16,_,jr,b,z,hbz1,hbz2,hbz3,hbz4⟩:=hbuf (by omega);have hp':=ZT.regs p (fY hp1);have hq':=ZT.regs q (fY Y3);have hjr:=(oGS hbz1).1;have hreg:=h.lay.2.2 jr hjr;unfold xo at hreg;rw[gu hbz1,gu hbz2]at hreg;obtain⟨m,hqm⟩:∃m:Nat,q.2=m:=⟨q.2.toNat,by have:=hq'.2.2.1;omega⟩;have e2:gc kN NN ((m:Int),0,code,ss,d,(),0,(),(),(),0,0,0,0,0,0,(),(),bs,key,Z9,Z7,ts.set i t',t'.1,t'.2.1,t'.2.2.1,t'.2.2.2.1,t'.2.2.2.2.1,t'.2.2.2.2.2.1,t'.2.2.2.2.2.2.1,t'.2.2.2.2.2.2.2,(i:Int),1,0,t'.2.2.2.1,t'.2.2.1,call,(t'.2.1.take (kB call).length).map (sg bs ss key),[],())= some ((m:Int),(m:Int),false,code,ss,d,(),0,(),(),(),0,0,0,0,0,0,(),(),bs,key,Z9,Z7,ts.set i t',t'.1,t'.2.1,t'.2.2.1,t'.2.2.2.1,t'.2.2.2.2.1,t'.2.2.2.2.2.1,t'.2.2.2.2.2.2.1,t'.2.2.2.2.2.2.2,(i:Int),1,0,t'.2.2.2.1,t'.2.2.1,call,(t'.2.1.take (kB call).length).map (sg bs ss key),(List.range m).map (λj:Nat=>sg bs ss key (o6 Z9 Z7 (p.2+(j:Int)))),()):=by refine nO (f:=kN) (N:=NN) (st:=λq=>((m:Int),(q:Int),code,ss,d,(),0,(),(),(),0,0,0,0,0,0,(),(),bs,key,Z9,Z7,ts.set i t',t'.1,t'.2.1,t'.2.2.1,t'.2.2.2.1,t'.2.2.2.2.1,t'.2.2.2.2.2.1,t'.2.2.2.2.2.2.1,t'.2.2.2.2.2.2.2,(i:Int),1,0,t'.2.2.2.1,t'.2.2.1,call,(t'.2.1.take (kB call).length).map (sg bs ss key),(List.range q).map (λj:Nat=>sg bs ss key (o6 Z9 Z7 (p.2+(j:Int)))),())) (n:=m) (by unfold NN;omega) ?_ ?_;intro v hv;unfold kN;dsimp only;have hp0:=hp'.2.2.1;have hp01:=hp'.2.2.2.1;rw[oDT (show(v:Int)<m by omega)];simp only[oCT,oBS,show fT t'.2.1 1=some p from hp1];rw[gf (x:=p.2) (by omega) (by omega),iE (x:=p.2+v)];obtain⟨hlk,hlv⟩:=E9 (a:=p.2+v) hm ⟨by omega,by omega⟩;rw[hlk];simp only[oBS];rw[vL h.lay hlv];simp only[oBS];refine fR (gd (by simp;omega)) ?_;rw[iE (x:=(v:Int)+1)];refine fQ ?_;rw[<- rC];rfl;unfold kN;dsimp only;rw[oDF (show ¬(m:Int)<m by omega)];exact fQ rfl
 simp only[ZJ,BEq.rfl,oCT,show fT t'.2.1 2=some q from Y3,oBS];rw[gf (x:=q.2) (by omega) (by omega),hqm,e2];simp only[oBS];refine ZS _ (by rw[oLP,List.length_range];omega) ?_;intro c hc;obtain⟨v,hv,rfl⟩:=List.mem_map.1 hc;have hv:=List.mem_range.1 hv;have hp0:=hp'.2.2.1;exact GX h.lay (E9 (a:=p.2+v) hm ⟨by omega,by omega⟩).2;simp only[oBF ZJ,oCF];exact ZS [] (by decide) gy;unfold qe oe;simp only[bne_iff_ne.2 hne,oCT];rw[gd (show 4<=1000/\0+t'.2.1.length<=1000000 by omega)];simp only[oCT,oBS,fW,gW hil,p5 hil];exact fQ ⟨_,_,_,_,_,_,_,_,rfl,hm,ZT.ended ⟨he0,he6⟩,A9 hi (ZT.ended ⟨he0,he6⟩) (by decide) (by decide) ⟨he0,he6⟩,.inr (.inr (.inl ⟨rfl,rfl,rfl⟩)),λh=>absurd h (by decide),λh=>absurd h (by decide)⟩
theorem J9{a b:Int}:mmR false a b<=a/\mmR false a b<=b/\(mmR false a b=a\/mmR false a b=b):=by unfold mmR;simp;omega
theorem lw{α:Type}{l:List α}{i j:Nat}(h:i≠j)(a:α):(l.set i a)[j]?=l[j]?:=by simp_all
theorem Ux.setFile{d:i_}{o:DOp}{f:Nat}{x y:D_}(h:Ux d o)(hf:d[f]?=some x)(hxy:x.length<=y.length):Ux (d.set f y) o:=by rcases h with h|⟨h1,z,h2,h3,h4⟩;exact .inl h;refine .inr ⟨h1,?_⟩;by_cases e:f=o.1.toNat;subst e;rw[hf]at h2;cases h2;exact⟨y,gW (oGS hf).1 y,h3,by omega⟩;simp_all
theorem iK.setFile{ss:M_}{d:i_}{os:H_}{f:Nat}{x y:D_}(h:iK ss d os)(hf:d[f]?=some x)(h64:y.length<=64)(hc:∀c∈y,Pr ss c)(hxy:x.length<=y.length):iK ss (d.set f y) os:=⟨by rw[oLS];exact h.dlen,jU h.flen h64,jU h.cells hc,h.olen,λo ho=>(h.opens o ho).setFile hf hxy⟩
theorem iK.setOpen{ss:M_}{d:i_}{os:H_}{i:Nat}{o:DOp}(h:iK ss d os)(ho:Ux d o):iK ss d (os.set i o):=⟨h.dlen,h.flen,h.cells,by rw[oLS];exact h.olen,jU h.opens ho⟩
theorem E5{ss:M_}{d:i_}{os:H_}{h:Int}(hF:iK ss d os):∃b,jJ d os h=some (b,())/\(b=true->∃(j f:Nat)(o:DOp)(x:D_),h=j/\j<8/\os[j]?=some o/\o.1=f/\d[f]?=some x/\0<=o.2.1/\o.2.1<=x.length):=by
 have:Ok (jJ d os h) λr=>∃b,r=(b,())/\(b=true->∃(j f:Nat)(o:DOp)(x:D_),h=j/\j<8/\os[j]?=some o/\o.1=f/\d[f]?=some x/\0<=o.2.1/\o.2.1<=x.length):=by unfold jJ;delta fZ;refine fS (λZ'=>?_) λZ'=>?_;refine fS (λZ1=>?_) λZ1=>?_;refine gX λj hj=>?_;have h8:=hF.olen;refine f6 λo ho=>?_;refine fQ ⟨_,rfl,λhb=>?_⟩;rcases hF.opens o (fY ho)with⟨h1,_⟩|⟨h1,x,h2,h3,h4⟩;simp_all;exact⟨j,o.1.toNat,o,x,hj,by omega,ho,by omega,h2,h3,h4⟩;exact fQ ⟨_,rfl,λh=>by cases h⟩;exact fQ ⟨_,rfl,λh=>by cases h⟩
 obtain⟨_,e,b,rfl,hb⟩:=this;exact⟨b,e,hb⟩
theorem yd{ss:M_}{d:i_}{os:H_}(h:iK ss d os):jd d os=some (d,os,()):=copy17_ok (by have:=h.dlen;omega) (λx hx=>by have:=h.flen x hx;omega) (by have:=h.olen;omega)
theorem D8{ss:M_}{d:i_}{os:H_}{h:Int}{l:D_}(hs:A6 ss)(hF:iK ss d os)(hl:l.length<=16)(U':∀c∈l,Pr ss c):Ok (pa d os h l) λr=>∃d' Y9 n b,r=(d',Y9,n,b,())/\iK ss d' Y9/\0<=n/\n<=16:=by
 obtain⟨b,eo,hb⟩:=E5 (h:=h) hF;unfold pa;rw[yd hF];simp only[oBS,eo];cases b with
 |false=>simp only[Bool.not_false,oCT,oBS];exact fQ ⟨_,_,_,_,rfl,hF,by decide,by decide⟩|true=>
 obtain⟨j,f,o,x,rfl,hj,ho,hof,hx,o0,o1⟩:=hb rfl;have hg:fT os j=some o:=ho;have hgx:fT d f=some x:=hx;have hjl:=(oGS ho).1;have ZE:=(oGS hx).1;have hx64:=hF.flen x (fY hx);simp only[oNT,oCF,fW,oBS,hg];cases hw:o.2.2 with
 |false=>simp only[Bool.not_false,oCT,oBS];exact fQ ⟨_,_,_,_,rfl,hF,by decide,by decide⟩|true=>
 delta fZ;simp only[oNT,oCF,oBS,mD (n:=(l.length:Int)) hs U' (by omega) (by omega),fW,hg,hof,hgx];rw[iE (x:=64-o.2.1)];obtain⟨m1,m2,m3⟩:=J9 (a:=(l.length:Int)) (b:=64-o.2.1);generalize mmR false (l.length:Int) (64-o.2.1)=k at m1 m2 m3;refine gO (P:=λs'=>∃(i:Nat)(y:D_),s'=(l,j,k,k,(i:Int),(),(),d,f,os,y,())/\(i:Int)<=k/\(∀c∈y,Pr ss c)/\x.length<=y.length/\o.2.1+i<=y.length/\y.length<=64)
  (R:=λr=>∃y:D_,r=(l,j,k,k,k,false,(),(),d,f,os,y,())/\(∀c∈y,Pr ss c)/\x.length<=y.length/\o.2.1+k<=y.length/\y.length<=64) (m:=λs'=>(k-s'.2.2.2.2.1).toNat) ⟨0,x,rfl,by omega,hF.cells x (fY hx),by omega,by omega,hx64⟩ (by unfold NN;dsimp only;omega) ?_ ?_
 rintro _ ⟨i,y,rfl,hi,hy,hxy,hoy,hy64⟩;unfold tI;dsimp only;refine fS (λZ'=>?_) λZ'=>?_;delta fZ;simp only[hg,oBS,fW];rw[iE (x:=o.2.1+i)];obtain⟨c,hc⟩:=gv l i (by omega);have Zx:fT l i=some c:=hc;have hcp:=U' c (fY hc);simp only[Zx,oBS];refine Ok.bind (P:=λr=>∃y':D_,r=(l,j,k,k,(i:Int),(),(),d,f,os,y',())/\(∀c∈y',Pr ss c)/\x.length<=y'.length/\o.2.1+i+1<=y'.length/\y'.length<=64) ?_ ?_;refine fS (λZ1=>?_) λZ1=>?_;refine gX λq hq=>?_;refine f6 λ_ hz=>?_;refine f6 λ_ _=>?_;rw[gt hz];exact fQ ⟨_,rfl,jU hy hcp,by rw[oLS];omega,by rw[oLS];omega,by rw[oLS];omega⟩;refine fR (gd (by simp;omega)) ?_;exact fQ ⟨_,rfl,kX hy (all_cons hcp gy),by rw[iq];omega,by rw[iq,List.length_singleton];omega,by rw[iq,List.length_singleton];omega⟩;rintro _ ⟨y',rfl,g1,g2,g3,g4⟩;dsimp only;rw[iE (x:=(i:Int)+1)];exact fQ ⟨⟨i+1,y',rfl,by omega,g1,g2,by omega,g4⟩,by dsimp only;omega⟩;obtain rfl:(i:Int)=k:=by omega
 exact fQ ⟨y,rfl,hy,hxy,hoy,hy64⟩;rintro _ ⟨y,rfl,hy,hxy,hoy,hy64⟩;dsimp only;simp only[hg,oBS,hof,fW,hgx];refine fR (by simp) ?_;rw[iE (x:=o.2.1+k),gt hx,gt ho];refine fQ ⟨_,_,_,_,rfl,(hF.setFile hx hy64 hy hxy).setOpen (.inr ⟨by dsimp only;omega,y,?_,by dsimp only;omega,by dsimp only;omega⟩),by omega,by omega⟩;dsimp only;rw[hof,oTN];exact gW ZE y
theorem HA{ss:M_}{d:i_}{os:H_}{h n:Int}(hF:iK ss d os)(hn:0<=n/\n<=65535):Ok (qR d os h n) λr=>(∃d' Y9,r=.inl (d',Y9,(),false,())/\iK ss d' Y9)\/(∃d' Y9 l,r=.inr (d',Y9,l,true,())/\iK ss d' Y9/\(l.length:Int)<=n/\l.length<=64/\∀c∈l,Pr ss c):=by
 obtain⟨b,eo,hb⟩:=E5 (h:=h) hF;unfold qR;rw[yd hF];simp only[oBS,eo];cases b with
 |false=>exact fQ (.inl ⟨_,_,rfl,hF⟩)|true=>
 obtain⟨j,f,o,x,rfl,hj,ho,hof,hx,o0,o1⟩:=hb rfl;have hg:fT os j=some o:=ho;have hgx:fT d f=some x:=hx;have hx64:=hF.flen x (fY hx);rw[oDF (show ¬n<0 by omega)];simp only[oNT,oCF,fW,oBS,hg];cases hw:o.2.2 with
 |true=>exact fQ (.inl ⟨_,_,rfl,hF⟩)|false=>
 delta fZ;simp only[oCF,fW,oBS,hg,hof,hgx];rw[iE (x:=(x.length:Int)-o.2.1)];obtain⟨m1,m2,m3⟩:=J9 (a:=n) (b:=(x.length:Int)-o.2.1);generalize mmR false n ((x.length:Int)-o.2.1)=k at m1 m2 m3;rw[iE (x:=o.2.1+k)];refine jt o0 λp hp=>?_;refine gX λq hq=>?_;refine fR (by unfold iQ;simp;omega) ?_;have hw2:(nJ x p (Nat.sub q p)).length=q-p:=by unfold nJ;rw[oLT,List.length_drop];show min (q-p) _=q-p;omega
 refine fR (gd (by omega)) ?_;rw[gt ho];refine fQ (.inr ⟨_,_,_,rfl,hF.setOpen (.inr ⟨by dsimp only;omega,x,by dsimp only;rw[hof,oTN];exact hx,by dsimp only;omega,by dsimp only;omega⟩),?_,?_,?_⟩);rw[iq,hw2];simp;omega;rw[iq,hw2];simp;omega;refine kX gy λc hc=>hF.cells x (fY hx) c ?_;unfold nJ at hc;exact List.mem_of_mem_drop (List.mem_of_mem_take hc)
theorem EB{ss:M_}{d:i_}{os:H_}{h:Int}(hF:iK ss d os):Ok (pb d os h) λr=>∃d' Y9 b,r=(d',Y9,b,())/\iK ss d' Y9:=by have ⟨b,eo,hb⟩:=E5 (h:=h) hF;unfold pb;rw[yd hF];simp only[eo];cases b with|false=>exact fQ ⟨_,_,_,rfl,hF⟩|true=>obtain⟨j,f,o,x,rfl,hj,ho,hof,hx,o0,o1⟩:=hb rfl;have hg:fT os j=some o:=ho;simp only[fW,oBS,hg];rw[gt ho];exact fQ ⟨_,_,_,rfl,hF.setOpen (.inl ⟨rfl,rfl,rfl⟩)⟩
theorem Hw{ss:M_}{d:i_}{os:H_}{h n:Int}(hF:iK ss d os):Ok (qQ d os h n) λr=>∃d' Y9 b,r=(d',Y9,b,())/\iK ss d' Y9:=by obtain⟨b,eo,hb⟩:=E5 (h:=h) hF;unfold qQ;rw[yd hF];simp only[eo];cases b with|false=>exact fQ ⟨_,_,_,rfl,hF⟩|true=>obtain⟨j,f,o,x,rfl,hj,ho,hof,hx,o0,o1⟩:=hb rfl;have hg:fT os j=some o:=ho;have hgx:fT d f=some x:=hx;delta fZ;simp only[oNT,oCF,fW,oBS,hg,hof,hgx];by_cases hn:n<0;simp only[oDT hn,oCT,oBS];exact fQ ⟨_,_,_,rfl,hF⟩;simp only[oDF hn,oCF,oBS];refine fS (λZ'=>?_) λZ'=>?_;exact fQ ⟨_,_,_,rfl,hF⟩;simp only[fW,oBS,hg];rw[gt ho];exact fQ ⟨_,_,_,rfl,hF.setOpen (.inr ⟨by dsimp only;omega,x,by simp_all,by dsimp only;omega,by dsimp only;omega⟩)⟩
theorem Lz{ss:M_}{d:i_}{os:H_}{file mode:Int}(hF:iK ss d os):Ok (qT d os file mode) λr=>∃d' Y9 h,r=(d',Y9,h,())/\iK ss d' Y9/\-1<=h/\h<=7:=by
 have h8:=hF.olen;have hd4:=hF.dlen;unfold qT;rw[yd hF];simp only[oBS];refine gO (P:=λs'=>∃i:Nat,s'=(file,mode,(i:Int),d,os,(),(),d,os,())/\i<=8) (R:=λr=>∃i:Nat,r=(file,mode,(i:Int),false,d,os,(),(),d,os,())/\i<=8) (m:=λs'=>(8-s'.2.2.1).toNat) ⟨0,rfl,by omega⟩ (by unfold NN;dsimp only;omega) ?_ ?_;rintro _ ⟨i,rfl,hi⟩;unfold ud;delta fZ;simp only[h8,fW,oBS];refine fS (λZ'=>?_) λZ'=>?_;refine f6 λo ho=>?_;refine fS (λZ1=>?_) λZ1=>?_;rw[iE (x:=(i:Int)+1)];exact fQ ⟨⟨i+1,rfl,by omega⟩,by dsimp only;omega⟩;exact fQ ⟨i,rfl,hi⟩;exact fQ ⟨i,rfl,hi⟩;rintro _ ⟨i,rfl,hi⟩;delta fZ;simp only[h8];have bad:iK ss d os/\(-1:Int)<=-1/\(-1:Int)<=7:=⟨hF,by decide,by decide⟩;refine Ok.bind (P:=λr=>(∃b:Bool,r=(file,mode,(i:Int),b,(),(),d,os,())/\(b=false->0<=file/\file<d.length/\i<8))) ?_ ?_;refine fS (λZ'=>?_) λZ'=>?_;exact fQ ⟨true,rfl,λh=>by cases h⟩;refine fS (λZ1=>?_) λZ1=>?_;exact fQ ⟨true,rfl,λh=>by cases h⟩;refine fS (λhcc=>?_) λhcc=>?_;exact fQ ⟨true,rfl,λh=>by cases h⟩;refine fS (λXF=>?_) λXF=>?_;exact fQ ⟨true,rfl,λh=>by cases h⟩;exact fQ ⟨_,rfl,λh=>⟨by omega,by omega,by rw[beq_eq_false_iff_ne]at h;omega⟩⟩;rintro _ ⟨b,rfl,hb⟩;dsimp only;cases b with
 |true=>exact fQ ⟨_,_,_,rfl,bad⟩|false=>
 obtain⟨f0,f1,hi8⟩:=hb rfl;obtain⟨f,rfl⟩:∃f:Nat,file=f:=⟨file.toNat,by omega⟩;obtain⟨x,hx⟩:=gv d f (by omega);obtain⟨o,ho⟩:=gv os i (by omega);have hgx:fT d f=some x:=hx;have hg:fT os i=some o:=ho;have ZE:=(oGS hx).1;have hil:=(oGS ho).1;simp only[oCF,fW,oBS,hgx,hg];by_cases h1:mode=1;subst h1;simp only[BEq.rfl,oCT];rw[gt hx];simp only[h8];refine gO (P:=λs'=>∃(q:Nat)(Y9:H_),s'=((f:Int),1,(i:Int),((8:Nat):Int),(q:Int),(),(),d.set f [],Y9,())/\q<=8/\Y9.length=8/\(∀(j:Nat) o,j<q->Y9[j]?=some o->Ux (d.set f []) o)/\∀j:Nat,q<=j->Y9[j]?=os[j]?)
  (R:=λr=>∃(z:Int)(Y9:H_),r=((f:Int),1,(i:Int),((8:Nat):Int),z,false,(),(),d.set f [],Y9,())/\iK ss (d.set f []) Y9) (m:=λs'=>(8-s'.2.2.2.2.1).toNat) ⟨0,os,rfl,by omega,h8,λj o hj=>by omega,λ_ _=>rfl⟩ (by unfold NN;dsimp only;omega) ?_ ?_
 rintro _ ⟨q,Y9,rfl,hq,YG,ha,hr⟩;unfold uc;dsimp only;refine fS (λZ'=>?_) λZ'=>?_;obtain⟨o',Zv⟩:∃o',Y9[q]?=some o':=⟨_,oGE (by omega)⟩;have hg':fT Y9 q=some o':=Zv;have hop:=hF.opens o' (fY (by rw[<- hr q (by omega)];exact Zv));simp only[fW,oBS,hg'];refine Ok.bind (P:=λr=>∃o2:DOp,Ux (d.set f []) o2/\r=((f:Int),1,(i:Int),((8:Nat):Int),(q:Int),(),(),d.set f [],Y9.set q o2,())) ?_ ?_;by_cases hof:o'.1=f;simp only[beq_iff_eq.2 hof,oCT];rw[gt Zv];exact fQ ⟨_,.inr ⟨by dsimp only;omega,[],by dsimp only;rw[hof,oTN];exact gW ZE [],by dsimp only;omega,by simp⟩,rfl⟩;simp only[oBF hof,oCF];refine fQ ⟨o',?_,by rw[ET Zv]⟩;rcases hop with h|⟨g1,z,g2,g3⟩;exact .inl h;exact .inr ⟨g1,z,by rw[lw (by omega)];exact g2,g3⟩;rintro _ ⟨o2,hop2,rfl⟩;dsimp only;rw[iE (x:=(q:Int)+1)];refine fQ ⟨⟨q+1,_,rfl,by omega,by rw[oLS];exact YG,λj o hj hjo=>?_,λj hj=>?_⟩,by dsimp only;omega⟩;by_cases e:q=j;subst e;rw[show(Y9.set q o2)[q]?=some o2 from gW (by omega) o2]at hjo;cases hjo;exact hop2;rw[lw e]at hjo;exact ha j o (by omega) hjo;rw[lw (by omega)];exact hr j (by omega);refine fQ ⟨_,_,rfl,⟨by rw[oLS];exact hd4,jU hF.flen (by simp),jU hF.cells gy,YG,λo' Zv=>?_⟩⟩;obtain⟨j,hj⟩:=List.getElem?_of_mem Zv;have:=(oGS hj).1;exact ha j o' (by omega) hj;rintro _ ⟨z,Y9,rfl,hF'⟩;have YG:=hF'.olen;obtain⟨o',Zv⟩:∃o',Y9[i]?=some o':=⟨_,oGE (by omega)⟩;have hg':fT Y9 i=some o':=Zv;simp only[fW,oBS,hg',show((1:Int)==2)=false from rfl,oCF];rw[gt Zv];exact fQ ⟨_,_,_,rfl,hF'.setOpen (.inr ⟨by dsimp only;omega,[],by dsimp only;rw[oTN];exact gW ZE [],by dsimp only;omega,by simp⟩),by omega,by omega⟩;simp only[oBF h1,oCF];rw[gt ho];by_cases h2:mode=2;subst h2;simp only[BEq.rfl,oCT,oBS,gW hil,p5 hil];exact fQ ⟨_,_,_,rfl,hF.setOpen (.inr ⟨by dsimp only;omega,x,by dsimp only;rw[oTN];exact hx,by dsimp only;omega,by dsimp only;omega⟩),by omega,by omega⟩;simp only[oBF h2,oCF,oBS];exact fQ ⟨_,_,_,rfl,hF.setOpen (.inr ⟨by dsimp only;omega,x,by dsimp only;rw[oTN];exact hx,by dsimp only;omega,by dsimp only;omega⟩),by omega,by omega⟩
theorem ib(n:Int)(b:Bool):∃v,gr n b=some (0,v,0,0,(),-1,false,())/\W16 v:=by cases b with|true=>exact⟨_,rfl,j0 _⟩|false=>exact⟨_,rfl,j0 _⟩
theorem S4(n:Int)(b:Bool):∃v,gr n b=some (0,v,0,0,(),-1,false,())/\W16 v/\(b=false->v=65535)/\(b=true->0<=n->n<=1000->v≠65535):=by cases b with|true=>exact⟨_,rfl,j0 _,(λh=>by cases h),λ_ h0 h1=>by rw[gl h0 (by omega)];omega⟩|false=>exact⟨_,rfl,j0 _,λ_=>by decide,(λh=>by cases h)⟩
theorem iZ{ss:M_}{v:Int}(h:W16 v):Pr ss (0,v,0,0):=.inl ⟨.inl rfl,rfl,rfl,h⟩
theorem OV{ss:M_}{v:Int}(h:W16 v):Pr ss (2,v,0,0):=.inl ⟨.inr rfl,rfl,rfl,h⟩
theorem Oq{ss:M_}{us:I_}{sk:Int}{l:D_}(hu:us.length<=200)(ho:∀(i:Nat) x,us[i]?=some x->UG ss i x)(hl:l.length<=16)(U':∀c∈l,Pr ss c):Ok (mu us sk l) λr=>∃X7 n b,r=(X7,n,b,())/\X7.length<=200/\∀(i:Nat) x,X7[i]?=some x->UG ss i x:=by
 have hc:kK us=some (us,()):=CG (by omega) λx hx=>by obtain⟨j,hj⟩:=List.getElem?_of_mem hx;have:=(ho j x hj).2.2.2.1;omega
 unfold mu;rw[hc];delta fZ;refine Ok.bind (P:=λr=>∃b:Bool,r=(us,sk,l,b,us,())/\(b=false->0<=sk/\sk<2/\us.length<200)) ?_ ?_;refine fS (λZ'=>?_) λZ'=>?_;exact fQ ⟨true,rfl,λh=>by cases h⟩;refine fS (λZ1=>?_) λZ1=>?_;exact fQ ⟨true,rfl,λh=>by cases h⟩;refine fS (λhcc=>?_) λhcc=>?_;exact fQ ⟨true,rfl,λh=>by cases h⟩;exact fQ ⟨_,rfl,λh=>⟨by omega,by omega,by omega⟩⟩;rintro _ ⟨b,rfl,hb⟩;dsimp only;cases b with
 |true=>exact fQ ⟨_,_,_,rfl,hu,ho⟩|false=>
 obtain⟨s0,s1,hlt⟩:=hb rfl;simp only[oCF];refine fR (gd (by omega)) (fR (gd (by simp;omega)) ?_);refine fQ ⟨_,_,_,rfl,by rw[iq];simp;omega,λi x hx=>?_⟩;simp at hx;rw[List.getElem?_append]at hx;split at hx;simp_all;rename_i hi;obtain⟨q,hq⟩:∃q,i-us.length=q:=⟨_,rfl⟩;rw[hq]at hx;cases q with
 |zero=>
 have:x=((us.length:Int),sk,l):=by simp_all
 subst this;exact⟨by omega,s0,s1,hl,U'⟩
 |succ q=>simp at hx
theorem QV{ss:M_}{us:I_}{sk:Int}{l:D_}(hu:us.length<=200)(ho:∀(i:Nat) x,us[i]?=some x->UG ss i x)(hl:l.length<=16)(U':∀c∈l,Pr ss c):Ok (mu us sk l) λr=>∃X7 n b,r=(X7,n,b,())/\X7.length<=200/\(∀(i:Nat) x,X7[i]?=some x->UG ss i x)/\((b=false/\X7=us)\/(b=true/\n=l.length/\X7=us++[((us.length:Int),sk,l)]/\0<=sk/\sk<2/\us.length<200)):=by
 have hc:kK us=some (us,()):=CG (by omega) λx hx=>by obtain⟨j,hj⟩:=List.getElem?_of_mem hx;have:=(ho j x hj).2.2.2.1;omega
 unfold mu;rw[hc];delta fZ;refine Ok.bind (P:=λr=>∃b:Bool,r=(us,sk,l,b,us,())/\(b=false->0<=sk/\sk<2/\us.length<200)) ?_ ?_;refine fS (λZ'=>?_) λZ'=>?_;exact fQ ⟨true,rfl,λh=>by cases h⟩;refine fS (λZ1=>?_) λZ1=>?_;exact fQ ⟨true,rfl,λh=>by cases h⟩;refine fS (λhcc=>?_) λhcc=>?_;exact fQ ⟨true,rfl,λh=>by cases h⟩;exact fQ ⟨_,rfl,λh=>⟨by omega,by omega,by omega⟩⟩;rintro _ ⟨b,rfl,hb⟩;cases b with
 |true=>exact fQ ⟨_,_,_,rfl,hu,ho,.inl ⟨rfl,rfl⟩⟩|false=>
 obtain⟨s0,s1,hlt⟩:=hb rfl;simp only[oCF];refine fR (gd (by omega)) (fR (gd (by simp;omega)) ?_);refine fQ ⟨_,_,_,rfl,by rw[iq];simp;omega,λi x hx=>?_,.inr ⟨rfl,rfl,rfl,s0,s1,by omega⟩⟩;simp at hx;rw[List.getElem?_append]at hx;split at hx;simp_all;rename_i hi;obtain⟨q,hq⟩:∃q,i-us.length=q:=⟨_,rfl⟩;rw[hq]at hx;cases q with
 |zero=>
 have:x=((us.length:Int),sk,l):=by simp_all
 subst this;exact⟨by omega,s0,s1,hl,U'⟩
 |succ q=>simp at hx
theorem zI{ss:M_}{ins:j_}{sk n:Int}(hi:ins.length<=2)(h:∀x∈ins,x.length<=64/\∀w∈x,W16 w)(hn:0<=n/\n<=65535):Ok (mO ins sk n) λr=>(∃Yc,r=.inl (Yc,(),false,())/\Yc.length<=2/\∀x∈Yc,x.length<=64/\∀w∈x,W16 w)\/(∃Yc l,r=.inr (Yc,l,true,())/\(Yc.length<=2/\∀x∈Yc,x.length<=64/\∀w∈x,W16 w)/\(l.length:Int)<=n/\l.length<=64/\∀c∈l,Pr ss c):=by
 unfold mO;rw[CE (by omega) (λx hx=>by grind)];delta fZ;simp only[oBS];refine Ok.bind (P:=λr=>∃b:Bool,r=(ins,sk,n,b,ins,())/\(b=false->0<=sk/\sk<ins.length)) ?_ ?_;refine fS (λZ'=>?_) λZ'=>?_;exact fQ ⟨true,rfl,λh=>by cases h⟩;refine fS (λZ1=>?_) λZ1=>?_;exact fQ ⟨true,rfl,λh=>by cases h⟩;exact fQ ⟨_,rfl,λ_=>⟨by omega,by omega⟩⟩;rintro _ ⟨b,rfl,hb⟩;dsimp only;cases b with
 |true=>exact fQ (Or.inl ⟨_,rfl,hi,h⟩)|false=>
 obtain⟨s0,s1⟩:=hb rfl;obtain⟨j,rfl⟩:∃j:Nat,sk=j:=⟨sk.toNat,by omega⟩;obtain⟨x,hx⟩:=gv ins j (by omega);have hgx:fT ins j=some x:=hx;have hjl:=(oGS hx).1;obtain⟨hx64,hxw⟩:=h x (fY hx);simp only[oCF,oBS,fW,hgx];obtain⟨m1,m2,m3⟩:=J9 (a:=n) (b:=(x.length:Int));generalize mmR false n (x.length:Int)=k at m1 m2 m3;obtain⟨q,rfl⟩:∃q:Nat,k=q:=⟨k.toNat,by omega⟩;simp only[fW,oBS];refine fR (by unfold iQ;simp;omega) ?_;have hw:nJ x 0 (Nat.sub q 0)=x.take q:=by unfold nJ;rw[List.drop_zero];rfl
 have hwl:(x.take q).length=q:=by rw[oLT];omega
 rw[hw];simp only[hwl];have e:gc jc NN ((j:Int),(q:Int),x.take q,(q:Int),0,ins,[],())=some ((j:Int),(q:Int),x.take q,(q:Int),(q:Int),false,ins,(x.take q).map (λw=>(0,w,0,0)),()):=by have:=nO (f:=jc) (N:=NN) (st:=λi=>((j:Int),(q:Int),x.take q,(q:Int),(i:Int),ins,((x.take q).take i).map (λw=>((0:Int),w,(0:Int),(0:Int))),())) (n:=q) (t:=((j:Int),(q:Int),x.take q,(q:Int),(q:Int),false,ins,(x.take q).map (λw=>((0:Int),w,(0:Int),(0:Int))),())) (by unfold NN;omega) ?_ ?_;exact this;intro i hi;unfold jc;dsimp only;rw[oDT (show(i:Int)<q by omega),fW];simp only[oCT,oBS];refine f6 λw hw=>?_;refine fR (gd (by simp;omega)) ?_;rw[iE (x:=(i:Int)+1)];refine fQ ?_;rw[<- jV (λw=>((0:Int),w,(0:Int),(0:Int))) hw];rfl;unfold jc;dsimp only;rw[oDF (show ¬(q:Int)<q by omega)];refine fQ ?_;rw[show(x.take q).take q=x.take q from List.take_of_length_le (by omega)]
 rw[e];simp only[fW,oBS,hgx];refine fR (by unfold iQ;simp;omega) ?_;rw[gt hx];have hd:∀c∈nJ x q (Nat.sub x.length q),c∈x:=λc hc=>by unfold nJ at hc;exact List.mem_of_mem_drop (List.mem_of_mem_take hc)
 have hdl:(nJ x q (Nat.sub x.length q)).length<=64:=by unfold nJ;rw[oLT,List.length_drop];omega
 refine fQ (.inr ⟨_,_,rfl,⟨by rw[oLS];exact hi,jU h ⟨hdl,λw hw=>hxw w (hd w hw)⟩⟩,by rw[oLP,hwl];omega,by rw[oLP,hwl];omega,λc hc=>?_⟩);obtain⟨w,hw,rfl⟩:=List.mem_map.1 hc;exact iZ (hxw w (List.mem_of_mem_take hw))
theorem yS{n:Int}{ss:M_}{i stop trap count pc call:Int}{args data:D_}(hs:A6 ss)(h:A7 n ss i stop trap count pc call args data)(hn:n<=1099511627776):mX i stop trap count pc call args data=some (true,()):=by have ⟨⟨a1,a2⟩,⟨b1,b2⟩,⟨c1,c2⟩,⟨d1,d2⟩,⟨e1,e2⟩,⟨f1,f2⟩,⟨g1,g2⟩,⟨k1,k2⟩,_,_⟩:=h;refine gV ?_;unfold mX;rw[mD hs g2 (by omega) (by omega),mD hs k2 (by omega) (by omega)];refine fR (oDT a1) (fR (oDT (by omega)) (fR (oDT b1) (fR (oDT b2) (fR (oDT c1) (fR (oDT c2) (fR (oDT d1) (fR (oDT (by omega)) (fR (oDT e1) (fR (oDT e2) (fR (oDT f1) (fR (oDT f2) ?_)))))))))));exact fQ rfl
theorem Ep{n:Int}{ss:M_}{i trap count pc call:Int}{args data:D_}(h:A7 n ss i 1 trap count pc call args data):pe i 1 trap count pc call args data=some (true,()):=by
 obtain⟨hl,hk⟩:=h.hkind rfl;obtain⟨b,eb,ZJ,ZU⟩:=Fd h.hcall;have h3:=Po call;have e:gc j6 NN (b,args,(args.length:Int),0,i,1,trap,count,pc,call,args,data,())=some (.inr (b,args,(args.length:Int),(args.length:Int),false,i,1,trap,count,pc,call,args,data,())):=by refine nO (f:=j6) (N:=NN) (st:=λq=>(b,args,(args.length:Int),(q:Int),i,1,trap,count,pc,call,args,data,())) (n:=args.length) (by unfold NN;omega) ?_ ?_;intro q hq;obtain⟨k,hkq⟩:=gv (kB call) q (by omega);obtain⟨a,ha⟩:=gv args q (by omega);unfold j6;dsimp only;rw[oDT (show(q:Int)<args.length by omega),fW];simp only[oCT,oBS,show fT args q=some a from ha,ZU q,hkq,PO,hk q k a hkq ha,oCF];rw[iE (x:=(q:Int)+1)];exact fQ rfl;unfold j6;dsimp only;rw[oDF (show ¬(args.length:Int)<args.length by omega)];exact fQ rfl
 unfold pe;delta fZ;simp_all
def Sl(call:Int):Bool:=decide ((1<=call/\call<=7)\/call=13\/call=14)
theorem P9{call:Int}(h:0<=call/\call<=15):ub call=some (Sl call,()):=by rcases qv h with rfl|rfl|rfl|rfl|rfl|rfl|rfl|rfl|rfl|rfl|rfl|rfl|rfl|rfl|rfl|rfl<;>rfl
structure Ws (ss:M_)(t v r o:Int)(data:D_)(sp:Int)(w:Bool):Prop where
 val:Pr ss (t,v,r,o)
 dat:data.length<=64/\∀c∈data,Pr ss c
 spn:-1<=sp/\sp<=3
def Sr(us X7:I_)(call:Int)(args data:D_)(t v:Int):Prop:=(call≠13/\X7=us)\/(call=13/\t=0/\((X7=us/\v=65535)\/(v≠65535/\∃a,args[0]?=some a/\X7=us++[((us.length:Int),a.2.1,data)]/\0<=a.2.1/\a.2.1<2/\us.length<200)))
def UJ(call:Int)(args dat:D_):Prop:=dat≠[]->si call=2/\∃q:DCn,args[2]?=some q/\(dat.length:Int)<=q.2.1
def DoX(ss:M_)(us0:I_)(call:Int)(args dat0:D_)(r:v_×v_×g_×i_×H_×I_×Int×Int×Int×Int×D_×Int×Bool×Int×Unit):Prop:=∃ck rn ins d os us t v rg o data,r=(ck,rn,ins,d,os,us,t,v,rg,o,data,-1,false,0,())/\vO ss ck rn ins d os us/\Pr ss (t,v,rg,o)/\(data.length<=16/\∀c∈data,Pr ss c)/\Sr us0 us call args dat0 t v/\UJ call args data
theorem nB{ss:M_}{us0:I_}{call:Int}{args dat0:D_}{ck rn:M_}{ins:j_}{d:i_}{os:H_}{us:I_}{t v rg o:Int}{data:D_}(h:vO ss ck rn ins d os us)(hv:Pr ss (t,v,rg,o))(hd:data.length<=16/\∀c∈data,Pr ss c)
 (hu:Sr us0 us call args dat0 t v)(hp:UJ call args data):Ok (some (ck,rn,ins,d,os,us,t,v,rg,o,data,(-1:Int),false,(0:Int),())) (DoX ss us0 call args dat0):=fQ ⟨_,_,_,_,_,_,_,_,_,_,_,rfl,h,hv,hd,hu,hp⟩
theorem kD{call:Int}{args:D_}:UJ call args []:=λh=>absurd rfl h
def DoP(ss:M_)(r:v_×v_×g_×i_×H_×I_×Int×Int×Int×Int×D_×Int×Bool×Int×Unit):Prop:=∃ck rn ins d os us t v rg o data,r=(ck,rn,ins,d,os,us,t,v,rg,o,data,-1,false,0,())/\vO ss ck rn ins d os us/\Pr ss (t,v,rg,o)/\data.length<=16/\∀c∈data,Pr ss c
theorem nC{ss:M_}{ck rn:M_}{ins:j_}{d:i_}{os:H_}{us:I_}{t v rg o:Int}{data:D_}(h:vO ss ck rn ins d os us)(hv:Pr ss (t,v,rg,o))(hd:data.length<=16/\∀c∈data,Pr ss c):
 Ok (some (ck,rn,ins,d,os,us,t,v,rg,o,data,(-1:Int),false,(0:Int),())) (DoP ss):=fQ ⟨_,_,_,_,_,_,_,_,_,_,_,rfl,h,hv,hd⟩
theorem Pr.val{ss:M_}{c:DCn}(h:Pr ss c):W16 c.2.1:=by rcases h with⟨_,_,_,h⟩|⟨_,h,_⟩;exact h;rw[h];exact⟨by decide,by decide⟩
theorem SQ{n:Int}{ss:M_}{i trap count pc call:Int}{args data:D_}(h:A7 n ss i 1 trap count pc call args data):si call=0\/si call=1\/(si call=2/\∃a,args[2]?=some a/\a.2.1<=16):=by
 by_cases h2:si call=2;exact .inr (.inr ⟨h2,h.hbuf rfl h2⟩);have:si call=0\/si call=1\/si call=2:=by unfold si;split<;>first|omega|(split<;>omega)
 omega
theorem sn{α:Type}{a b:Option α}{Q:α->Prop}(h:Ok a Q)(e:b=a):Ok b Q:=by simp_all
set_option maxHeartbeats 4000000 in
theorem Wl{n:Int}{ss:M_}{ck rn:M_}{ins:j_}{d:i_}{os:H_}{us:I_}{i trap count pc call:Int}{args data:D_}(hs:A6 ss)(hO:vO ss ck rn ins d os us)(hR:A7 n ss i 1 trap count pc call args data) (ha:Sl call=true)(hn:n<=1099511627776):Ok (nS ck rn ins d os us i 1 trap count pc call args data) (DoP ss):=by
 have hc:=hR.hcall;have X8:=hR.hdata;have Yg:=hR.hargs;unfold nS;rw[vn hs hO,yS hs hR hn,P9 hc,ha,Ep hR,sd hc];simp only[oBS,oNT,oCF,oBN];refine Ok.bind (P:=λr=>r=(false,ck,rn,ins,d,os,us,i,1,trap,count,pc,call,args,data,(),(),(),(),(),(),0,0,0,0,(),0,false,())) ?_ ?_;rcases SQ hR with h|h|⟨h,a,h2,h3⟩;rw[h];exact fQ rfl;rw[h];exact fQ rfl;rw[h];simp only[BEq.rfl,oCT,show fT args 2=some a from h2,oBS];rw[oDF (show ¬a.2.1>16 by omega)];exact fQ rfl;rintro _ rfl;dsimp only;delta fZ;simp only[oCF,CF hO,oBS];refine gO (P:=λs'=>∃(k:Nat)(vs:M_),s'=(args,(args.length:Int),(k:Int),ck,rn,ins,d,os,us,i,1,trap,count,pc,call,args,data,(),(),(),(),(),(),0,0,0,0,(),0,false,ck,rn,ins,d,os,us,vs,())/\k<=args.length/\vs.length=3/\(∀v∈vs,W16 v)/\∀(j:Nat) a,j<k->args[j]?=some a->vs[j]?=some a.2.1)
  (R:=λr=>∃(z:Int)(vs:M_),r=(args,(args.length:Int),z,false,ck,rn,ins,d,os,us,i,1,trap,count,pc,call,args,data,(),(),(),(),(),(),0,0,0,0,(),0,false,ck,rn,ins,d,os,us,vs,())/\vs.length=3/\(∀v∈vs,W16 v)/\∀(j:Nat) a,args[j]?=some a->vs[j]?=some a.2.1) (m:=λs'=>(s'.2.1-s'.2.2.1).toNat)
  ⟨0,[0,0,0],rfl,by omega,rfl,all_cons ⟨by decide,by decide⟩ (all_cons ⟨by decide,by decide⟩ (all_cons ⟨by decide,by decide⟩ gy)),λj a hj=>by omega⟩ (by unfold NN;dsimp only;omega) ?_ ?_
 rintro _ ⟨k,vs,rfl,hk,hv3,hvw,hva⟩;unfold sw;dsimp only;refine fS (λZ'=>?_) λZ'=>?_;simp only[fW,oBS];refine f6 λa hak=>?_;have hw:=(Yg.2 a (fY hak)).val;refine f6 λv hv=>?_;refine f6 λ_ _=>?_;rw[gf (x:=a.2.1) (by have:=hw.1;omega) (by have:=hw.2;omega),iE (x:=(k:Int)+1),gt hv];refine fQ ⟨⟨k+1,_,rfl,by omega,by rw[oLS];exact hv3,jU hvw hw,λj a' hj haj=>?_⟩,by dsimp only;omega⟩;by_cases e:k=j;subst e;rw[hak]at haj;cases haj;exact gW (by omega) _;rw[lw e];exact hva j a' (by omega) haj;refine fQ ⟨_,vs,rfl,hv3,hvw,λj a haj=>hva j a ?_ haj⟩;have:=(oGS haj).1;omega;rintro _ ⟨z,vs,rfl,hv3,hvw,hva⟩;obtain⟨v0,ev0,YQ⟩:=ib 0 false;obtain⟨a0,a1,a2,rfl⟩:∃a b c,vs=[a,b,c]:=by match vs,hv3 with| [a,b,c],_=>exact⟨a,b,c,rfl⟩
 have w0:W16 a0:=hvw a0 (by simp);have w1:W16 a1:=hvw a1 (by simp);have w2:W16 a2:=hvw a2 (by simp);have g0:fT [a0,a1,a2] 0=some a0:=rfl;have g1:fT [a0,a1,a2] 1=some a1:=rfl;have g2:fT [a0,a1,a2] 2=some a2:=rfl;have a2le:si call=2->a2<=16:=λh=>by
  obtain⟨a,h2,h3⟩:=hR.hbuf rfl h;have:=hva 2 a h2;have:a2=a.2.1:=by simpa using this
  omega
 have ZV:([]:D_).length<=16/\∀c∈([]:D_),Pr ss c:=⟨by decide,gy⟩;dsimp only;simp only[ev0,oBS,g0,g1,g2];rcases qv hc with rfl|rfl|rfl|rfl|rfl|rfl|rfl|rfl|rfl|rfl|rfl|rfl|rfl|rfl|rfl|rfl;all_goals first|(exact absurd ha (by decide))|simp only[Int.reduceBEq,oCT,oCF]
 obtain⟨_,e,d1,os1,m,b,rfl,hF,_⟩:=D8 (h:=a0) hs hO.files X8.1 X8.2;obtain⟨v,ev,hv⟩:=ib m b;simp only[e,ev,oBS];exact nC ⟨hO.clock,hO.rand,hO.ilen,hO.inp,hF,hO.ulen,hO.outs⟩ (iZ hv) ZV;have Yh:=a2le rfl;obtain⟨_,e,hr⟩:=HA (h:=a0) (n:=a2) hO.files w2;rcases hr with⟨d1,os1,rfl,hF⟩|⟨d1,os1,l,rfl,hF,hl,_,U'⟩;simp only[e,ev0,oBS];exact nC ⟨hO.clock,hO.rand,hO.ilen,hO.inp,hF,hO.ulen,hO.outs⟩ (iZ YQ) ZV;obtain⟨v,ev,hv⟩:=ib (l.length:Int) true;simp only[e,ev,oBS];exact nC ⟨hO.clock,hO.rand,hO.ilen,hO.inp,hF,hO.ulen,hO.outs⟩ (iZ hv) ⟨by omega,U'⟩;obtain⟨_,e,d1,os1,h,rfl,hF,h0,h7⟩:=Lz (file:=a0) (mode:=a1) hO.files;simp only[e,oBS];have Yu:vO ss ck rn ins d1 os1 us:=⟨hO.clock,hO.rand,hO.ilen,hO.inp,hF,hO.ulen,hO.outs⟩;by_cases hh:h>=0;simp only[oDT hh,oCT];exact nC Yu (OV (j0 _)) ZV;simp only[oDF hh,oCF];exact nC Yu (iZ YQ) ZV;obtain⟨_,e,d1,os1,b,rfl,hF⟩:=EB (h:=a0) hO.files;obtain⟨v,ev,hv⟩:=ib 0 b;simp only[e,ev,oBS];exact nC ⟨hO.clock,hO.rand,hO.ilen,hO.inp,hF,hO.ulen,hO.outs⟩ (iZ hv) ZV;obtain⟨_,e,d1,os1,b,rfl,hF⟩:=Hw (h:=a0) (n:=a1) hO.files;obtain⟨v,ev,hv⟩:=ib 0 b;simp only[e,ev,oBS];exact nC ⟨hO.clock,hO.rand,hO.ilen,hO.inp,hF,hO.ulen,hO.outs⟩ (iZ hv) ZV;cases ck with
 |nil=>exact nC hO (iZ YQ) ZV|cons x ck=>
  obtain⟨v,ev,hv⟩:=ib (wk .i64 x) true;have hw:nJ (x::ck) 1 (Nat.sub (x::ck).length 1)=ck:=by unfold nJ;simp
  refine sn (nC (ck:=ck) ⟨⟨by have:=hO.clock.1;simp at this;omega,λw hw=>hO.clock.2 w (by simp[hw])⟩,hO.rand,hO.ilen,hO.inp,hO.files,hO.ulen,hO.outs⟩ (iZ hv) ZV) ?_;simp only[oLC,show fT (x::ck) 0=some x from rfl,oBS,ev];have hd:∀inst:Decidable (((ck.length+1:Nat):Int)>0),@decide _ inst=true:=λinst=>oDT (by omega);rw[oLC]at hw;rw[hd,show iQ 1 (ck.length+1) (ck.length+1)=true by unfold iQ;simp,hw];rfl
 cases rn with
 |nil=>exact nC hO (iZ YQ) ZV|cons x rn=>
  obtain⟨v,ev,hv⟩:=ib (wk .i64 x) true;have hw:nJ (x::rn) 1 (Nat.sub (x::rn).length 1)=rn:=by unfold nJ;simp
  refine sn (nC (rn:=rn) ⟨hO.clock,⟨by have:=hO.rand.1;simp at this;omega,λw hw=>hO.rand.2 w (by simp[hw])⟩,hO.ilen,hO.inp,hO.files,hO.ulen,hO.outs⟩ (iZ hv) ZV) ?_;simp only[oLC,show fT (x::rn) 0=some x from rfl,oBS,ev];have hd:∀inst:Decidable (((rn.length+1:Nat):Int)>0),@decide _ inst=true:=λinst=>oDT (by omega);rw[oLC]at hw;rw[hd,show iQ 1 (rn.length+1) (rn.length+1)=true by unfold iQ;simp,hw];rfl
 obtain⟨_,e,us1,m,b,rfl,hu,ho⟩:=Oq (sk:=a0) hO.ulen hO.outs X8.1 X8.2;obtain⟨v,ev,hv⟩:=ib m b;simp only[e,ev,oBS];exact nC ⟨hO.clock,hO.rand,hO.ilen,hO.inp,hO.files,hu,ho⟩ (iZ hv) ZV;have Yh:=a2le rfl;obtain⟨_,e,hr⟩:=zI (ss:=ss) (sk:=a0) (n:=a2) hO.ilen hO.inp w2;rcases hr with⟨in1,rfl,Xs,Xt⟩|⟨in1,l,rfl,⟨Xs,Xt⟩,hl,_,U'⟩;simp only[e,ev0,oBS];exact nC ⟨hO.clock,hO.rand,Xs,Xt,hO.files,hO.ulen,hO.outs⟩ (iZ YQ) ZV;obtain⟨v,ev,hv⟩:=ib (l.length:Int) true;simp only[e,ev,oBS];exact nC ⟨hO.clock,hO.rand,Xs,Xt,hO.files,hO.ulen,hO.outs⟩ (iZ hv) ⟨by omega,U'⟩
set_option maxHeartbeats 4000000 in
theorem Vz{n:Int}{ss:M_}{ck rn:M_}{ins:j_}{d:i_}{os:H_}{us:I_}{i trap count pc call:Int}{args data:D_}(hs:A6 ss)(hO:vO ss ck rn ins d os us)(hR:A7 n ss i 1 trap count pc call args data) (ha:Sl call=true)(hn:n<=1099511627776):Ok (nS ck rn ins d os us i 1 trap count pc call args data) (DoX ss us call args data):=by
 have hc:=hR.hcall;have X8:=hR.hdata;have Yg:=hR.hargs;unfold nS;rw[vn hs hO,yS hs hR hn,P9 hc,ha,Ep hR,sd hc];simp only[oBS,oNT,oCF,oBN];refine Ok.bind (P:=λr=>r=(false,ck,rn,ins,d,os,us,i,1,trap,count,pc,call,args,data,(),(),(),(),(),(),0,0,0,0,(),0,false,())) ?_ ?_;rcases SQ hR with h|h|⟨h,a,h2,h3⟩;rw[h];exact fQ rfl;rw[h];exact fQ rfl;rw[h];simp only[BEq.rfl,oCT,show fT args 2=some a from h2,oBS];rw[oDF (show ¬a.2.1>16 by omega)];exact fQ rfl;rintro _ rfl;dsimp only;delta fZ;simp only[oCF,CF hO,oBS];refine gO (P:=λs'=>∃(k:Nat)(vs:M_),s'=(args,(args.length:Int),(k:Int),ck,rn,ins,d,os,us,i,1,trap,count,pc,call,args,data,(),(),(),(),(),(),0,0,0,0,(),0,false,ck,rn,ins,d,os,us,vs,())/\k<=args.length/\vs.length=3/\(∀v∈vs,W16 v)/\∀(j:Nat) a,j<k->args[j]?=some a->vs[j]?=some a.2.1)
  (R:=λr=>∃(z:Int)(vs:M_),r=(args,(args.length:Int),z,false,ck,rn,ins,d,os,us,i,1,trap,count,pc,call,args,data,(),(),(),(),(),(),0,0,0,0,(),0,false,ck,rn,ins,d,os,us,vs,())/\vs.length=3/\(∀v∈vs,W16 v)/\∀(j:Nat) a,args[j]?=some a->vs[j]?=some a.2.1) (m:=λs'=>(s'.2.1-s'.2.2.1).toNat)
  ⟨0,[0,0,0],rfl,by omega,rfl,all_cons ⟨by decide,by decide⟩ (all_cons ⟨by decide,by decide⟩ (all_cons ⟨by decide,by decide⟩ gy)),λj a hj=>by omega⟩ (by unfold NN;dsimp only;omega) ?_ ?_
 rintro _ ⟨k,vs,rfl,hk,hv3,hvw,hva⟩;unfold sw;dsimp only;refine fS (λZ'=>?_) λZ'=>?_;simp only[fW,oBS];refine f6 λa hak=>?_;have hw:=(Yg.2 a (fY hak)).val;refine f6 λv hv=>?_;refine f6 λ_ _=>?_;rw[gf (x:=a.2.1) (by have:=hw.1;omega) (by have:=hw.2;omega),iE (x:=(k:Int)+1),gt hv];refine fQ ⟨⟨k+1,_,rfl,by omega,by rw[oLS];exact hv3,jU hvw hw,λj a' hj haj=>?_⟩,by dsimp only;omega⟩;by_cases e:k=j;subst e;rw[hak]at haj;cases haj;exact gW (by omega) _;rw[lw e];exact hva j a' (by omega) haj;refine fQ ⟨_,vs,rfl,hv3,hvw,λj a haj=>hva j a ?_ haj⟩;have:=(oGS haj).1;omega;rintro _ ⟨z,vs,rfl,hv3,hvw,hva⟩;obtain⟨v0,ev0,YQ⟩:=ib 0 false;obtain⟨a0,a1,a2,rfl⟩:∃a b c,vs=[a,b,c]:=by match vs,hv3 with| [a,b,c],_=>exact⟨a,b,c,rfl⟩
 have w0:W16 a0:=hvw a0 (by simp);have w1:W16 a1:=hvw a1 (by simp);have w2:W16 a2:=hvw a2 (by simp);have g0:fT [a0,a1,a2] 0=some a0:=rfl;have g1:fT [a0,a1,a2] 1=some a1:=rfl;have g2:fT [a0,a1,a2] 2=some a2:=rfl;have a2le:si call=2->a2<=16:=λh=>by
  obtain⟨a,h2,h3⟩:=hR.hbuf rfl h;have:=hva 2 a h2;have:a2=a.2.1:=by simpa using this
  omega
 have a2x:si call=2->∀{l:D_},(l.length:Int)<=a2->∃q:DCn,args[2]?=some q/\(l.length:Int)<=q.2.1:=λh l hl=>by
  obtain⟨a,h2,h3⟩:=hR.hbuf rfl h;have:=hva 2 a h2;have e2:a2=a.2.1:=by simpa using this
  exact⟨a,h2,by omega⟩
 have ZV:([]:D_).length<=16/\∀c∈([]:D_),Pr ss c:=⟨by decide,gy⟩;dsimp only;simp only[ev0,oBS,g0,g1,g2];rcases qv hc with rfl|rfl|rfl|rfl|rfl|rfl|rfl|rfl|rfl|rfl|rfl|rfl|rfl|rfl|rfl|rfl;all_goals first|(exact absurd ha (by decide))|simp only[Int.reduceBEq,oCT,oCF]
 obtain⟨_,e,d1,os1,m,b,rfl,hF,_⟩:=D8 (h:=a0) hs hO.files X8.1 X8.2;obtain⟨v,ev,hv⟩:=ib m b;simp only[e,ev,oBS];exact nB ⟨hO.clock,hO.rand,hO.ilen,hO.inp,hF,hO.ulen,hO.outs⟩ (iZ hv) ZV (.inl ⟨by decide,rfl⟩) kD;have Yh:=a2le rfl;obtain⟨_,e,hr⟩:=HA (h:=a0) (n:=a2) hO.files w2;rcases hr with⟨d1,os1,rfl,hF⟩|⟨d1,os1,l,rfl,hF,hl,_,U'⟩;simp only[e,ev0,oBS];exact nB ⟨hO.clock,hO.rand,hO.ilen,hO.inp,hF,hO.ulen,hO.outs⟩ (iZ YQ) ZV (.inl ⟨by decide,rfl⟩) kD;obtain⟨v,ev,hv⟩:=ib (l.length:Int) true;simp only[e,ev,oBS];exact nB ⟨hO.clock,hO.rand,hO.ilen,hO.inp,hF,hO.ulen,hO.outs⟩ (iZ hv) ⟨by omega,U'⟩ (.inl ⟨by decide,rfl⟩) (λ_=>⟨rfl,a2x rfl hl⟩);obtain⟨_,e,d1,os1,h,rfl,hF,h0,h7⟩:=Lz (file:=a0) (mode:=a1) hO.files;simp only[e,oBS];have Yu:vO ss ck rn ins d1 os1 us:=⟨hO.clock,hO.rand,hO.ilen,hO.inp,hF,hO.ulen,hO.outs⟩;by_cases hh:h>=0;simp only[oDT hh,oCT];exact nB Yu (OV (j0 _)) ZV (.inl ⟨by decide,rfl⟩) kD;simp only[oDF hh,oCF];exact nB Yu (iZ YQ) ZV (.inl ⟨by decide,rfl⟩) kD;obtain⟨_,e,d1,os1,b,rfl,hF⟩:=EB (h:=a0) hO.files;obtain⟨v,ev,hv⟩:=ib 0 b;simp only[e,ev,oBS];exact nB ⟨hO.clock,hO.rand,hO.ilen,hO.inp,hF,hO.ulen,hO.outs⟩ (iZ hv) ZV (.inl ⟨by decide,rfl⟩) kD;obtain⟨_,e,d1,os1,b,rfl,hF⟩:=Hw (h:=a0) (n:=a1) hO.files;obtain⟨v,ev,hv⟩:=ib 0 b;simp only[e,ev,oBS];exact nB ⟨hO.clock,hO.rand,hO.ilen,hO.inp,hF,hO.ulen,hO.outs⟩ (iZ hv) ZV (.inl ⟨by decide,rfl⟩) kD;cases ck with
 |nil=>exact nB hO (iZ YQ) ZV (.inl ⟨by decide,rfl⟩) kD|cons x ck=>
  obtain⟨v,ev,hv⟩:=ib (wk .i64 x) true;have hw:nJ (x::ck) 1 (Nat.sub (x::ck).length 1)=ck:=by unfold nJ;simp
  refine sn (nB (ck:=ck) ⟨⟨by have:=hO.clock.1;simp at this;omega,λw hw=>hO.clock.2 w (by simp[hw])⟩,hO.rand,hO.ilen,hO.inp,hO.files,hO.ulen,hO.outs⟩ (iZ hv) ZV (.inl ⟨by decide,rfl⟩) kD) ?_;simp only[oLC,show fT (x::ck) 0=some x from rfl,oBS,ev];have hd:∀inst:Decidable (((ck.length+1:Nat):Int)>0),@decide _ inst=true:=λinst=>oDT (by omega);rw[oLC]at hw;rw[hd,show iQ 1 (ck.length+1) (ck.length+1)=true by unfold iQ;simp,hw];rfl
 cases rn with
 |nil=>exact nB hO (iZ YQ) ZV (.inl ⟨by decide,rfl⟩) kD|cons x rn=>
  obtain⟨v,ev,hv⟩:=ib (wk .i64 x) true;have hw:nJ (x::rn) 1 (Nat.sub (x::rn).length 1)=rn:=by unfold nJ;simp
  refine sn (nB (rn:=rn) ⟨hO.clock,⟨by have:=hO.rand.1;simp at this;omega,λw hw=>hO.rand.2 w (by simp[hw])⟩,hO.ilen,hO.inp,hO.files,hO.ulen,hO.outs⟩ (iZ hv) ZV (.inl ⟨by decide,rfl⟩) kD) ?_;simp only[oLC,show fT (x::rn) 0=some x from rfl,oBS,ev];have hd:∀inst:Decidable (((rn.length+1:Nat):Int)>0),@decide _ inst=true:=λinst=>oDT (by omega);rw[oLC]at hw;rw[hd,show iQ 1 (rn.length+1) (rn.length+1)=true by unfold iQ;simp,hw];rfl
 obtain⟨_,e,us1,m,b,rfl,hu,ho,hx⟩:=QV (sk:=a0) hO.ulen hO.outs X8.1 X8.2;obtain⟨v,ev,hv,hv0',hv1'⟩:=S4 m b;have hsend:Sr us us1 13 args data 0 v:=by
  refine .inr ⟨rfl,rfl,?_⟩;rcases hx with⟨hb,hu⟩|⟨hb,hm,hu,s0,s1,hlt⟩;exact .inl ⟨hu,hv0' hb⟩;obtain⟨Y7,_⟩:=hR.hkind rfl;obtain⟨a,ha⟩:=gv args 0 (by rw[Y7];decide);have e0:a0=a.2.1:=by simpa using hva 0 a ha
  exact .inr ⟨hv1' hb (by omega) (by have:=X8.1;omega),a,ha,by rw[hu,e0],by omega,by omega,hlt⟩
 simp only[e,ev,oBS];exact nB ⟨hO.clock,hO.rand,hO.ilen,hO.inp,hO.files,hu,ho⟩ (iZ hv) ZV hsend kD;have Yh:=a2le rfl;obtain⟨_,e,hr⟩:=zI (ss:=ss) (sk:=a0) (n:=a2) hO.ilen hO.inp w2;rcases hr with⟨in1,rfl,Xs,Xt⟩|⟨in1,l,rfl,⟨Xs,Xt⟩,hl,_,U'⟩;simp only[e,ev0,oBS];exact nB ⟨hO.clock,hO.rand,Xs,Xt,hO.files,hO.ulen,hO.outs⟩ (iZ YQ) ZV (.inl ⟨by decide,rfl⟩) kD;obtain⟨v,ev,hv⟩:=ib (l.length:Int) true;simp only[e,ev,oBS];exact nB ⟨hO.clock,hO.rand,Xs,Xt,hO.files,hO.ulen,hO.outs⟩ (iZ hv) ⟨by omega,U'⟩ (.inl ⟨by decide,rfl⟩) (λ_=>⟨rfl,a2x rfl hl⟩)
def nW(bs:M_)(key:Int)(c:DCn):DCe:=if c.1=0 then(0,c.2.1)else if c.1=2 then(2,wk .u16 (c.2.1+key))else(1,wk .u16 (bs.getD c.2.2.1.toNat 0+c.2.2.2))
theorem Bb{bs ss:M_}(h:LV bs ss){r o n:Int}(h1:0<=r)(h2:ss[r.toNat]?=some n)(h3:0<=o)(h4:o<n):∃b,bs[r.toNat]?=some b/\0<=b+o/\b+o<512/\b<=b+o/\b+o<b+n:=by have ⟨hs,hl,hr⟩:=h;have hj:=(oGS h2).1;have ⟨b,hb⟩:=gv bs r.toNat (by omega);have hrr:=hr r.toNat (by omega);unfold xo at hrr;rw[gu hb,gu h2]at hrr;exact⟨b,hb,by omega,by omega,by omega,by omega⟩
theorem rV{bs ss:M_}{key:Int}{c:DCn}(h:LV bs ss)(hc:Pr ss c):jp bs key ss c.1 c.2.1 c.2.2.1 c.2.2.2=some ((nW bs key c).1,(nW bs key c).2,0,())/\n9 (RK bs ss) (nW bs key c):=by unfold jp nW;rw[mr hc];rcases hc with⟨h1|h1,h2,h3,h4⟩|⟨h1,h2,h3,n,h5,h6,h7⟩;rw[h1];exact⟨rfl,kf h4⟩;rw[h1];exact⟨rfl,(show(0:Int)<=2 by decide),(show(2:Int)<=2 by decide),(j0 _).1,(j0 _).2,λe=>absurd (show(2:Int)=1 from e) (by decide)⟩;obtain⟨b,hb,b0,b1,b2,b3⟩:=Bb h h3 h5 h6 h7;obtain⟨j,hj⟩:∃j:Nat,c.2.2.1=j:=⟨c.2.2.1.toNat,by omega⟩;rw[hj]at hb h5⊢;rw[h1,gu hb];simp[oCF,if_false,fW,show fT bs j=some b from hb];rw[gD (by omega) (by omega),gl (by omega) (by omega)];exact⟨rfl,by omega,by omega,by omega,by omega,λ_=>⟨j,b,n,hb,h5,b2,b3⟩⟩
theorem EH{bs ss:M_}{key r o n:Int}(h:LV bs ss)(h1:0<=r)(h2:ss[r.toNat]?=some n)(h3:0<=o)(h4:o<n):∃a,ne bs key ss r o=some (a,0,())/\0<=a/\a<512/\a=bs.getD r.toNat 0+o:=by have ⟨b,hb,b0,b1,_⟩:=Bb h h1 h2 h3 h4;obtain⟨j,rfl⟩:∃j:Nat,r=j:=⟨r.toNat,by omega⟩;unfold ne;rw[xW h1 h2 h3 h4];simp[fW,show fT bs j=some b from hb];rw[gD (by omega) (by omega)];simp_all
theorem LA(pc t v:Int):sC pc t v=some (1,[(t,v),(0,0),(0,0),(0,0),(0,0),(0,0),(0,0),(0,0)],pc,0,-1,-1,0,0,()):=rfl
def Wv(n key:Int)(ss bs:M_)(r:Bool×v_×Int×C_×G_×J_×Unit):Prop:=∃b Z9 Z7 ZZ,r=(b,bs,key,Z9,Z7,ZZ,())/\(b=true->MOk n ss bs Z9 Z7 ZZ)
theorem BL{n key:Int}{ss bs:M_}{cs:C_}{ls:G_}{ts:J_}:Ok (some (false,bs,key,cs,ls,ts,())) (Wv n key ss bs):=fQ ⟨_,_,_,_,rfl,λh=>by cases h⟩
theorem t7{n key ct cv:Int}{ss bs:M_}{cs:C_}{ls:G_}{ts:J_}{i:Nat}(h:MOk n ss bs cs ls ts)(hi:i<4)(hc:n9 (RK bs ss) (ct,cv)):Ok ((fT ts i).bind λ_=>(fT ts i).bind λx75=>(fT x75.2.1 0).bind λ_=>(fT ts i).bind λx77=>(fT x77.2.1 0).bind λ_=>(fT (List.modify ts i λe=>(e.1,((List.modify e.2.1 0 λ_=>(ct,cv)),e.2.2))) i).bind λ_=> some (true,bs,key,cs,ls,List.modify (List.modify ts i λe=>(e.1,((List.modify e.2.1 0 λ_=>(ct,cv)),e.2.2))) i λe=>((1:Int),e.2),())) (Wv n key ss bs):=by have Yp:=h.tlen;have ⟨t,ht⟩:=gv ts i (by omega);have hg:fT ts i=some t:=ht;have hil:=(oGS ht).1;have hok:=h.thr t (fY ht);have ⟨c,hc0⟩:=gv t.2.1 0 (by have:=hok.len;omega);simp[hg,show fT t.2.1 0=some c from hc0,gt ht,gt hc0,gW hil,p5 hil];exact fQ ⟨_,_,_,_,rfl,λ_=>h.set h.mem ⟨⟨show(0:Int)<=1 by decide,show(1:Int)<=4 by decide⟩,by dsimp only;rw[oLS];exact hok.len,jU hok.regs hc,hok.pc,hok.count,hok.handler,hok.saved,hok.trap,hok.code⟩⟩
theorem Eb{K:Int->Prop}{n pc:Int}{rs:C_}(hl:rs.length=8)(hr:∀c∈rs,n9 K c)(hp:0<=pc/\pc<=255)(hn:0<=n):zD K n (1,rs,pc,0,-1,-1,0,0):=⟨⟨show(0:Int)<=1 by decide,show(1:Int)<=4 by decide⟩,hl,hr,hp,⟨show(0:Int)<=0 by decide,hn⟩,⟨show(-1:Int)<=-1 by decide,show(-1:Int)<=255 by decide⟩,⟨show(-1:Int)<=-1 by decide,show(-1:Int)<=255 by decide⟩,⟨show(0:Int)<=0 by decide,show(0:Int)<=6 by decide⟩,⟨show(0:Int)<=0 by decide,show(0:Int)<=65535 by decide⟩⟩
theorem MOk.mk_mem{n:Int}{ss bs:M_}{cs Z9:C_}{ls Z7:G_}{ts:J_}(h:MOk n ss bs cs ls ts)(hm:i9 (RK bs ss) Z9 Z7):MOk n ss bs Z9 Z7 ts:=⟨h.lay,hm,h.tlen,h.thr⟩
set_option maxHeartbeats 4000000 in
theorem V1{n m key:Int}{code:F_}{ss bs:M_}{dd:j_}{cs:C_}{ls:G_}{ts:J_}{i:Nat}{trap count pc call:Int}{args data:D_}{t v rg o sp:Int}{dat:D_}{w:Bool}(h:MOk n ss bs cs ls ts)(hi:i<4) (hR:A7 m ss (i:Int) 1 trap count pc call args data)(hv:Pr ss (t,v,rg,o))(hd:dat.length<=16/\∀c∈dat,Pr ss c)(ZD:-1<=sp/\sp<=3):Ok (nT code ss dd (i:Int) 1 trap count pc call args data t v rg o dat sp w bs key cs ls ts) (Wv n key ss bs):=by
 have hL:=h.lay;have Yp:=h.tlen;obtain⟨Y7,X'⟩:=hR.hkind rfl;have hargs:=hR.hargs;obtain⟨W9,Zo⟩:=rV (key:=key) hL hv;obtain⟨th,Zp⟩:=gv ts i (by omega);have hok:=h.thr th (fY Zp);have hc0:=hok.count;have hil:=(oGS Zp).1;dsimp only at W9;unfold nT;delta fZ;rw[fW,W9,sd hR.hcall];simp only[oBS,oBN,oCF];refine gU hil λ_ _=>?_;have ZS:=t7 (key:=key) (ct:=(nW bs key (t,v,rg,o)).1) (cv:=(nW bs key (t,v,rg,o)).2) h hi Zo;have buf:si call=2->dat.length>0->∃a:DCn,args[1]?=some a/\Pr ss a/\a.1=1/\∃y,gc jo NN (i,dat,(dat.length:Int),0,bs,key,cs,ls,ts,code,ss,dd,(i:Int),1,trap,count,pc,call,args,data,t,v,rg,o,dat,sp,w,(nW bs key (t,v,rg,o)).1,(nW bs key (t,v,rg,o)).2,a.2.2.1,a.2.2.2,())=some y /\((∃Z9 Z7,y=.inl (false,bs,key,Z9,Z7,ts,()))\/(∃Z9 Z7 z f,y=.inr (i,dat,(dat.length:Int),z,false,bs,key,Z9,Z7,ts,code,ss,dd,(i:Int),1,trap,count,pc,call,args,data,t,v,rg,o,dat,sp,w,(nW bs key (t,v,rg,o)).1,(nW bs key (t,v,rg,o)).2,a.2.2.1,f,())/\i9 (RK bs ss) Z9 Z7)):=by
  intro hb ZX;have hkk:(kB call)[1]?=some 80:=by
   have:call=2\/call=14:=by unfold si at hb;split at hb<;>first|omega|(split at hb<;>omega)
   rcases this with rfl|rfl<;>rfl
  have Xv:=(oGS hkk).1;obtain⟨a,ha⟩:=gv args 1 (by omega);have Yg:=hargs.2 a (fY ha);have Z2:=X' 1 80 a hkk ha;have YF:a.1=1:=by unfold Ni at Z2;simpa using Z2
  have ha32:0<=a.2.2.2/\a.2.2.2<=32:=by rcases Yg with⟨g,_⟩|⟨_,_,_,z,g1,g2,g3⟩;omega;have:=hL.1.2.2 z (fY g1);omega
  refine⟨a,ha,Yg,YF,?_⟩;refine g9 (f:=jo) (n:=NN) (P:=λs'=>∃k:Nat,∃Z9 Z7,s'=(i,dat,(dat.length:Int),(k:Int),bs,key,Z9,Z7,ts,code,ss,dd,(i:Int),1,trap,count,pc,call,args,data,t,v,rg,o,dat,sp,w,(nW bs key (t,v,rg,o)).1,(nW bs key (t,v,rg,o)).2,a.2.2.1,a.2.2.2+k,())/\k<=dat.length/\i9 (RK bs ss) Z9 Z7)
   (R:=λy=>(∃Z9 Z7,y=.inl (false,bs,key,Z9,Z7,ts,()))\/(∃Z9 Z7 z f,y=.inr (i,dat,(dat.length:Int),z,false,bs,key,Z9,Z7,ts,code,ss,dd,(i:Int),1,trap,count,pc,call,args,data,t,v,rg,o,dat,sp,w,(nW bs key (t,v,rg,o)).1,(nW bs key (t,v,rg,o)).2,a.2.2.1,f,())/\i9 (RK bs ss) Z9 Z7))
   (m:=λs'=>(s'.2.2.1-s'.2.2.2.1).toNat) ⟨0,cs,ls,by simp,by omega,h.mem⟩ (by unfold NN;dsimp only;omega) ?_
  rintro _ ⟨k,Z9,Z7,rfl,hk,hm⟩;unfold jo;dsimp only;refine fS (λZ'=>?_) λZ'=>?_;rw[fW];simp only[oBS];refine f6 λc hc=>?_;obtain⟨Z6,Yi⟩:=rV (key:=key) hL (hd.2 c (fY hc));rw[Z6];simp only[oBS,oBN,oCF];refine Et.bind ?_;rintro⟨q,_⟩ hin;dsimp only at hin⊢;refine fS (λZ1=>?_) λZ1=>?_;exact fQ (.inl ⟨_,_,rfl⟩);obtain⟨g1,g2,z,g3,g4⟩:=hin Z1;obtain⟨ad,ea,a0,a1,_⟩:=EH (key:=key) hL g1 g3 g2 g4;rw[ea];simp only[oBS];refine(yW hm ⟨a0,a1⟩ Yi).bind ?_;rintro _ ⟨Xf,Xn,rfl,hm2⟩;dsimp only;rw[iE (x:=a.2.2.2+k+1),iE (x:=(k:Int)+1)];exact fQ ⟨⟨k+1,_,_,by rw[show a.2.2.2+((k+1:Nat):Int)=a.2.2.2+k+1 by omega];rfl,by omega,hm2⟩,by dsimp only;omega⟩;exact fQ (.inr ⟨_,_,_,_,rfl,hm⟩)
 rcases qv hR.hcall with rfl|rfl|rfl|rfl|rfl|rfl|rfl|rfl|rfl|rfl|rfl|rfl|rfl|rfl|rfl|rfl;case inr.inr.inl=>
  simp only[show((si 2)==2)=true from rfl,oCT];by_cases ZX:dat.length>0
  ·obtain⟨a,ha,Yg,YF,y,ey,hy⟩:=buf rfl ZX;simp only[oDT (show((dat.length:Nat):Int)>0 by omega),oCT,show fT args 1=some a from ha,oBS,mr Yg,oNT,oCF,bne_eq_false_iff_eq.2 YF,ey]
   rcases hy with⟨Z9,Z7,rfl⟩|⟨Z9,Z7,z,f,rfl,hm⟩
   ·exact BL
   ·simp only[Int.reduceBEq,oCF];exact t7 (h.mk_mem hm) hi Zo
  ·simp only[oDF (show ¬((dat.length:Nat):Int)>0 by omega),oCF,Int.reduceBEq];exact ZS
 case inr.inr.inr.inr.inr.inr.inr.inr.inr.inr.inr.inr.inr.inr.inl=>
  simp only[show((si 14)==2)=true from rfl,oCT];by_cases ZX:dat.length>0
  ·obtain⟨a,ha,Yg,YF,y,ey,hy⟩:=buf rfl ZX;simp only[oDT (show((dat.length:Nat):Int)>0 by omega),oCT,show fT args 1=some a from ha,oBS,mr Yg,oNT,oCF,bne_eq_false_iff_eq.2 YF,ey]
   rcases hy with⟨Z9,Z7,rfl⟩|⟨Z9,Z7,z,f,rfl,hm⟩
   ·exact BL
   ·simp only[Int.reduceBEq,oCF];exact t7 (h.mk_mem hm) hi Zo
  ·simp only[oDF (show ¬((dat.length:Nat):Int)>0 by omega),oCF,Int.reduceBEq];exact ZS
 case inr.inr.inr.inr.inr.inr.inr.inr.inr.inr.inr.inr.inl=>
  obtain⟨a,ha⟩:=gv args 0 (by rw[Y7];decide);have hva:=(hargs.2 a (fY ha)).val;simp only[show((si 12)==2)=false from rfl,oCF,Int.reduceBEq,oCT,show fT args 0=some a from ha,oBS];rw[gf (x:=a.2.1) (by have:=hva.1;omega) (by have:=hva.2;omega)];by_cases h1:a.2.1>255
  ·simp only[oDT h1,oCT];exact BL
  by_cases h2:a.1=0
  ·simp only[oDF h1,oCF,bne_eq_false_iff_eq.2 h2,show fT ts i=some th from Zp,oBS,gt Zp];exact t7 (h.set h.mem ⟨hok.state,hok.len,hok.regs,hok.pc,hok.count,⟨by dsimp only;have:=hva.1;omega,by dsimp only;omega⟩,hok.saved,hok.trap,hok.code⟩) hi Zo
  ·simp only[oDF h1,oCF,bne_iff_ne.2 h2,oCT];exact BL
 case inr.inr.inr.inr.inr.inr.inr.inr.inr.inr.inl=>
  obtain⟨a,ha⟩:=gv args 0 (by rw[Y7];decide);obtain⟨c,hc⟩:=gv args 1 (by rw[Y7];decide);have hva:=(hargs.2 a (fY ha)).val;obtain⟨Z6,Yi⟩:=rV (key:=key) hL (hargs.2 c (fY hc));simp only[show((si 10)==2)=false from rfl,oCF,Int.reduceBEq,oCT];by_cases hsp0:sp>=0
  ·obtain⟨j,rfl⟩:∃j:Nat,sp=j:=⟨sp.toNat,by omega⟩;obtain⟨tj,htj⟩:=gv ts j (by omega);simp only[oDT hsp0,oCT,show fT args 0=some a from ha,show fT args 1=some c from hc,oBS,Z6,oBN,oCF,fW,show fT ts j=some tj from htj];rw[gf (x:=a.2.1) (by have:=hva.1;omega) (by have:=hva.2;omega)];by_cases h0:tj.1=0
   ·by_cases h1:a.2.1>255
    ·simp only[bne_eq_false_iff_eq.2 h0,oCF,oDT h1,oCT,oBS];exact BL
    by_cases h2:a.1=0
    ·simp only[bne_eq_false_iff_eq.2 h0,oDF h1,oCF,bne_eq_false_iff_eq.2 h2,oBS,show fT args 0=some a from ha,gf (x:=a.2.1) (by have:=hva.1;omega) (by have:=hva.2;omega),LA,fW,show fT ts j=some tj from htj,gt htj];refine t7 (h.set h.mem (Eb rfl (all_cons Yi ?_) ⟨hva.1,by omega⟩ (by omega))) hi Zo;exact all_cons (kf (by decide)) (all_cons (kf (by decide)) (all_cons (kf (by decide)) (all_cons (kf (by decide)) (all_cons (kf (by decide)) (all_cons (kf (by decide)) (all_cons (kf (by decide)) gy))))))
    ·simp only[bne_eq_false_iff_eq.2 h0,oDF h1,oCF,bne_iff_ne.2 h2,oCT,oBS];exact BL
   ·simp only[bne_iff_ne.2 h0,oCT,oBS];exact BL
  ·simp only[oDF hsp0,oCF];exact ZS
 all_goals exact ZS
def WD(n key:Int)(ss bs X:M_)(i:Nat)(r:Bool×v_×Int×C_×G_×J_×Unit):Prop:=∃Z9 Z7 ZZ,r=(true,bs,key,Z9,Z7,ZZ,())/\MOk n ss bs Z9 Z7 ZZ/\ZZ.map (·.1)=X.set i 1
def ER(st:M_)(sp:Int):M_:=if sp=-1 then st else st.set sp.toNat 1
theorem HP{ts:J_}{i:Nat}{t t':DTh}(h:ts[i]?=some t)(e:t'.1=t.1):(ts.set i t').map (·.1)=ts.map (·.1):=by rw[List.map_set,e];apply oEG;intro j;rw[List.getElem?_set];split;rename_i hij;subst hij;rw[oGP,h,oLP,oIP (oGS h).1];rfl;rfl
theorem vx{n key ct cv:Int}{ss bs:M_}{cs:C_}{ls:G_}{ts:J_}{i:Nat}{X:M_}(h:MOk n ss bs cs ls ts)(hX:ts.map (·.1)=X)(hi:i<4)(hc:n9 (RK bs ss) (ct,cv)):Ok ((fT ts i).bind λ_=>(fT ts i).bind λx75=>(fT x75.2.1 0).bind λ_=>(fT ts i).bind λx77=>(fT x77.2.1 0).bind λ_=>(fT (List.modify ts i λe=>(e.1,((List.modify e.2.1 0 λ_=>(ct,cv)),e.2.2))) i).bind λ_=> some (true,bs,key,cs,ls,List.modify (List.modify ts i λe=>(e.1,((List.modify e.2.1 0 λ_=>(ct,cv)),e.2.2))) i λe=>((1:Int),e.2),())) (WD n key ss bs X i):=by have Yp:=h.tlen;have ⟨t,ht⟩:=gv ts i (by omega);have hg:fT ts i=some t:=ht;have hil:=(oGS ht).1;have hok:=h.thr t (fY ht);have ⟨c,hc0⟩:=gv t.2.1 0 (by have:=hok.len;omega);simp[hg,show fT t.2.1 0=some c from hc0,gt ht,gt hc0,gW hil,p5 hil];refine fQ ⟨_,_,_,rfl,h.set h.mem ⟨⟨show(0:Int)<=1 by decide,show(1:Int)<=4 by decide⟩,by dsimp only;rw[oLS];exact hok.len,jU hok.regs hc,hok.pc,hok.count,hok.handler,hok.saved,hok.trap,hok.code⟩,by simp_all⟩
set_option maxHeartbeats 4000000 in
theorem TL{n m key:Int}{code:F_}{ss bs:M_}{dd:j_}{cs:C_}{ls:G_}{ts:J_}{i:Nat}{trap count pc call:Int}{args data:D_}{t v rg o sp:Int}{dat:D_}{w:Bool}(h:MOk n ss bs cs ls ts)(hi:i<4) (hR:A7 m ss (i:Int) 1 trap count pc call args data)(hv:Pr ss (t,v,rg,o))(hd:dat.length<=16/\∀c∈dat,Pr ss c)(hF:Qe ss call args)(hD:UJ call args dat)(hS:sp=-1\/(call=10/\∃j:Nat,sp=j/\j<4/\∃tj,ts[j]?=some tj/\tj.1=0)):Ok (nT code ss dd (i:Int) 1 trap count pc call args data t v rg o dat sp w bs key cs ls ts) (WD n key ss bs (ER (ts.map (·.1)) sp) i):=by
 have hL:=h.lay;have Yp:=h.tlen;obtain⟨Y7,X'⟩:=hR.hkind rfl;have hargs:=hR.hargs;obtain⟨W9,Zo⟩:=rV (key:=key) hL hv;obtain⟨th,Zp⟩:=gv ts i (by omega);have hok:=h.thr th (fY Zp);have hc0:=hok.count;have hil:=(oGS Zp).1;dsimp only at W9;unfold nT;delta fZ;rw[fW,W9,sd hR.hcall];simp only[oBS,oBN,oCF];refine gU hil λ_ _=>?_;have hX:call≠10->ts.map (·.1)=ER (ts.map (·.1)) sp:=λhc=>by rcases hS with rfl|⟨h10,_⟩;rfl;exact absurd h10 hc
 have ZS:=λhc:call≠10=>vx (key:=key) (ct:=(nW bs key (t,v,rg,o)).1) (cv:=(nW bs key (t,v,rg,o)).2) h (hX hc) hi Zo;have buf:si call=2->dat.length>0->∃a:DCn,args[1]?=some a/\Pr ss a/\a.1=1/\∃y,gc jo NN (i,dat,(dat.length:Int),0,bs,key,cs,ls,ts,code,ss,dd,(i:Int),1,trap,count,pc,call,args,data,t,v,rg,o,dat,sp,w,(nW bs key (t,v,rg,o)).1,(nW bs key (t,v,rg,o)).2,a.2.2.1,a.2.2.2,())=some y /\(∃Z9 Z7 z f,y=.inr (i,dat,(dat.length:Int),z,false,bs,key,Z9,Z7,ts,code,ss,dd,(i:Int),1,trap,count,pc,call,args,data,t,v,rg,o,dat,sp,w,(nW bs key (t,v,rg,o)).1,(nW bs key (t,v,rg,o)).2,a.2.2.1,f,())/\i9 (RK bs ss) Z9 Z7):=by
  intro hb ZX;have hkk:(kB call)[1]?=some 80:=by
   have:call=2\/call=14:=by unfold si at hb;split at hb<;>first|omega|(split at hb<;>omega)
   rcases this with rfl|rfl<;>rfl
  have Xv:=(oGS hkk).1;obtain⟨a,ha⟩:=gv args 1 (by omega);have Yg:=hargs.2 a (fY ha);have Z2:=X' 1 80 a hkk ha;have YF:a.1=1:=by unfold Ni at Z2;simpa using Z2
  have ha32:0<=a.2.2.2/\a.2.2.2<=32:=by rcases Yg with⟨g,_⟩|⟨_,_,_,z,g1,g2,g3⟩;omega;have:=hL.1.2.2 z (fY g1);omega
  obtain⟨a',q',z',YE,hq',QA,Yh⟩:=hF.1 hb;rw[ha]at YE;injection YE with YE
  subst YE;obtain⟨_,q2,Y3,hdl⟩:=hD (λe=>by rw[e]at ZX;exact absurd ZX (by decide));rw[hq']at Y3;injection Y3 with Y3
  subst Y3;have Xh:0<=a.2.2.1:=by rcases Yg with⟨g,_⟩|⟨_,_,g,_⟩;omega;exact g
  refine⟨a,ha,Yg,YF,?_⟩;refine g9 (f:=jo) (n:=NN) (P:=λs'=>∃k:Nat,∃Z9 Z7,s'=(i,dat,(dat.length:Int),(k:Int),bs,key,Z9,Z7,ts,code,ss,dd,(i:Int),1,trap,count,pc,call,args,data,t,v,rg,o,dat,sp,w,(nW bs key (t,v,rg,o)).1,(nW bs key (t,v,rg,o)).2,a.2.2.1,a.2.2.2+k,())/\k<=dat.length/\i9 (RK bs ss) Z9 Z7)
   (R:=λy=>(∃Z9 Z7 z f,y=.inr (i,dat,(dat.length:Int),z,false,bs,key,Z9,Z7,ts,code,ss,dd,(i:Int),1,trap,count,pc,call,args,data,t,v,rg,o,dat,sp,w,(nW bs key (t,v,rg,o)).1,(nW bs key (t,v,rg,o)).2,a.2.2.1,f,())/\i9 (RK bs ss) Z9 Z7))
   (m:=λs'=>(s'.2.2.1-s'.2.2.2.1).toNat) ⟨0,cs,ls,by simp,by omega,h.mem⟩ (by unfold NN;dsimp only;omega) ?_
  rintro _ ⟨k,Z9,Z7,rfl,hk,hm⟩;unfold jo;dsimp only;refine fS (λZ'=>?_) λZ'=>?_;rw[fW];simp only[oBS];refine f6 λc hc=>?_;obtain⟨Z6,Yi⟩:=rV (key:=key) hL (hd.2 c (fY hc));rw[Z6];simp only[oBS,oBN,oCF];rw[xW Xh QA (show 0<=a.2.2.2+k by omega) (show a.2.2.2+k<z' by omega)];simp only[oBS,oNT,oCF];obtain⟨ad,ea,a0,a1,_⟩:=EH (key:=key) hL Xh QA (show 0<=a.2.2.2+k by omega) (show a.2.2.2+k<z' by omega);rw[ea];simp only[oBS];refine(yW hm ⟨a0,a1⟩ Yi).bind ?_;rintro _ ⟨Xf,Xn,rfl,hm2⟩;dsimp only;rw[iE (x:=a.2.2.2+k+1),iE (x:=(k:Int)+1)];exact fQ ⟨⟨k+1,_,_,by rw[show a.2.2.2+((k+1:Nat):Int)=a.2.2.2+k+1 by omega];rfl,by omega,hm2⟩,by dsimp only;omega⟩;exact fQ ⟨_,_,_,_,rfl,hm⟩
 rcases qv hR.hcall with rfl|rfl|rfl|rfl|rfl|rfl|rfl|rfl|rfl|rfl|rfl|rfl|rfl|rfl|rfl|rfl;case inr.inr.inl=>
  simp only[show((si 2)==2)=true from rfl,oCT];by_cases ZX:dat.length>0
  ·obtain⟨a,ha,Yg,YF,y,ey,hy⟩:=buf rfl ZX;simp only[oDT (show((dat.length:Nat):Int)>0 by omega),oCT,show fT args 1=some a from ha,oBS,mr Yg,oNT,oCF,bne_eq_false_iff_eq.2 YF,ey];obtain⟨Z9,Z7,z,f,rfl,hm⟩:=hy;simp only[Int.reduceBEq,oCF];exact vx (h.mk_mem hm) (hX (by decide)) hi Zo
  ·simp only[oDF (show ¬((dat.length:Nat):Int)>0 by omega),oCF,Int.reduceBEq];exact ZS (by decide)
 case inr.inr.inr.inr.inr.inr.inr.inr.inr.inr.inr.inr.inr.inr.inl=>
  simp only[show((si 14)==2)=true from rfl,oCT];by_cases ZX:dat.length>0
  ·obtain⟨a,ha,Yg,YF,y,ey,hy⟩:=buf rfl ZX;simp only[oDT (show((dat.length:Nat):Int)>0 by omega),oCT,show fT args 1=some a from ha,oBS,mr Yg,oNT,oCF,bne_eq_false_iff_eq.2 YF,ey];obtain⟨Z9,Z7,z,f,rfl,hm⟩:=hy;simp only[Int.reduceBEq,oCF];exact vx (h.mk_mem hm) (hX (by decide)) hi Zo
  ·simp only[oDF (show ¬((dat.length:Nat):Int)>0 by omega),oCF,Int.reduceBEq];exact ZS (by decide)
 case inr.inr.inr.inr.inr.inr.inr.inr.inr.inr.inr.inr.inl=>
  obtain⟨a,ha⟩:=gv args 0 (by rw[Y7];decide);have hva:=(hargs.2 a (fY ha)).val;simp only[show((si 12)==2)=false from rfl,oCF,Int.reduceBEq,oCT,show fT args 0=some a from ha,oBS];rw[gf (x:=a.2.1) (by have:=hva.1;omega) (by have:=hva.2;omega)];obtain⟨a',YE,h2,h1⟩:=hF.2 (.inr rfl);rw[ha]at YE
  injection YE with YE
  subst YE
  have h1:¬a.2.1>255:=by omega
  ·simp only[oDF h1,oCF,bne_eq_false_iff_eq.2 h2,show fT ts i=some th from Zp,oBS,gt Zp];exact vx (h.set h.mem ⟨hok.state,hok.len,hok.regs,hok.pc,hok.count,⟨by dsimp only;have:=hva.1;omega,by dsimp only;omega⟩,hok.saved,hok.trap,hok.code⟩) ((HP (t':=(th.1,th.2.1,th.2.2.1,th.2.2.2.1,a.2.1,th.2.2.2.2.2)) Zp rfl).trans (hX (by decide))) hi Zo
 case inr.inr.inr.inr.inr.inr.inr.inr.inr.inr.inl=>
  obtain⟨a,ha⟩:=gv args 0 (by rw[Y7];decide);obtain⟨c,hc⟩:=gv args 1 (by rw[Y7];decide);have hva:=(hargs.2 a (fY ha)).val;obtain⟨Z6,Yi⟩:=rV (key:=key) hL (hargs.2 c (fY hc));simp only[show((si 10)==2)=false from rfl,oCF,Int.reduceBEq,oCT];rcases hS with rfl|⟨_,j,rfl,hj4,tj,htj,h0⟩
  ·simp only[oDF (show ¬(-1:Int)>=0 by decide),oCF];exact vx h rfl hi Zo
  ·obtain⟨a',YE,h2,h1⟩:=hF.2 (.inl rfl);rw[ha]at YE
   injection YE with YE
   subst YE
   have h1:¬a.2.1>255:=by omega
   simp only[oDT (show(j:Int)>=0 by omega),oCT,show fT args 0=some a from ha,show fT args 1=some c from hc,oBS,Z6,oBN,oCF,fW,show fT ts j=some tj from htj];rw[gf (x:=a.2.1) (by have:=hva.1;omega) (by have:=hva.2;omega)];simp only[bne_eq_false_iff_eq.2 h0,oDF h1,oCF,bne_eq_false_iff_eq.2 h2,oBS,show fT args 0=some a from ha,gf (x:=a.2.1) (by have:=hva.1;omega) (by have:=hva.2;omega),LA,fW,show fT ts j=some tj from htj,gt htj];refine vx (h.set h.mem (Eb rfl (all_cons Yi ?_) ⟨hva.1,by omega⟩ (by omega))) ?_ hi Zo
   ·exact all_cons (kf (by decide)) (all_cons (kf (by decide)) (all_cons (kf (by decide)) (all_cons (kf (by decide)) (all_cons (kf (by decide)) (all_cons (kf (by decide)) (all_cons (kf (by decide)) gy))))))
   ·unfold ER;rw[List.map_set,oIN (by omega),oTN]
 all_goals
  exact ZS (by decide)
def InQ(qs:j_)(x:Int):Prop:=∃(j:Nat)(q:M_),qs[j]?=some q/\x∈q
def C7(qs:j_):Prop:=∀(i j:Nat)(q r:M_)(x:Int),qs[i]?=some q->qs[j]?=some r->x∈q->x∈r->i=j
def Sq(qs:j_)(n:Int)(qs':j_):Prop:=(n=-1/\qs'=qs)\/∃(j:Nat)(q:M_),qs[j]?=some (n::q)/\qs'=qs.set j q
def Qb(qs:j_)(t how:Int)(qs':j_):Prop:=(how≠1/\qs'=qs)\/(how=1/\(∀q∈qs,t ∉ q)/\∃(j:Nat)(q:M_),qs[j]?=some q/\qs'=qs.set j (q++[t]))
theorem rI{α:Type}{l:List α}{i j:Nat}{a b:α}(h:(l.set i a)[j]?=some b):(i=j/\b=a)\/(i≠j/\l[j]?=some b):=by rw[List.getElem?_set]at h;split at h;all_goals simp_all
theorem TN{ow:M_}{qs qs':j_}{n:Int}(hl:ky ow qs)(hX:C7 qs)(h:Sq qs n qs')(hn:n≠-1):InQ qs n/\C7 qs'/\∀y,InQ qs' y->InQ qs y/\y≠n:=by rcases h with⟨h,_⟩|⟨j,q,hj,rfl⟩;omega;have Zn:=(hl.queue _ (fY hj)).1;rw[List.nodup_cons]at Zn;refine⟨⟨j,_,hj,List.mem_cons_self ..⟩,λa b u v x ha hb hu hv=>?_,λy hy=>?_⟩;rcases rI ha with⟨e1,e2⟩|⟨e1,e2⟩;rcases rI hb with⟨e3,e4⟩|⟨e3,e4⟩;omega;exact e1▸hX j b _ v x hj e4 (List.mem_cons_of_mem _ (e2▸hu)) hv;rcases rI hb with⟨e3,e4⟩|⟨e3,e4⟩;exact e3▸hX a j u _ x e2 hj hu (List.mem_cons_of_mem _ (e4▸hv));exact hX a b u v x e2 e4 hu hv;have ⟨a,u,ha,hu⟩:=hy;rcases rI ha with⟨e1,e2⟩|⟨e1,e2⟩;subst e2;exact⟨⟨j,_,hj,List.mem_cons_of_mem _ hu⟩,λe=>Zn.1 (e▸hu)⟩;refine⟨⟨a,u,e2,hu⟩,λe=>e1 ?_⟩;exact hX j a _ u n hj e2 (List.mem_cons_self ..) (e▸hu)
theorem U4{qs qs':j_}{t how:Int}(hX:C7 qs)(h:Qb qs t how qs'):C7 qs'/\∀y,InQ qs' y->InQ qs y\/(y=t/\how=1):=by
 rcases h with⟨_,rfl⟩|⟨h1,W5,j,q,hj,rfl⟩;simp_all;refine⟨λa b u v x ha hb hu hv=>?_,λy hy=>?_⟩;have key:∀(b:Nat)(v:M_),j≠b->qs[b]?=some v->x∈q++[t]->x∈v->j=b:=λb v hne hb hu hv=>by rcases oMA.1 hu with hu|hu;exact hX j b q v x hj hb hu hv;exact absurd (List.mem_singleton.1 hu▸hv) (W5 v (fY hb))
 rcases rI ha with⟨e1,e2⟩|⟨e1,e2⟩;rcases rI hb with⟨e3,e4⟩|⟨e3,e4⟩;omega;exact e1▸key b v e3 e4 (e2▸hu) hv;rcases rI hb with⟨e3,e4⟩|⟨e3,e4⟩;exact e3▸(key a u e1 e2 (e4▸hv) hu).symm;exact hX a b u v x e2 e4 hu hv;have ⟨a,u,ha,hu⟩:=hy;rcases rI ha with⟨e1,e2⟩|⟨e1,e2⟩;subst e2;rcases oMA.1 hu with hu|hu;exact .inl ⟨j,q,hj,hu⟩;simp_all;exact .inl ⟨a,u,e2,hu⟩
structure Sp (qs:j_)(nx:M_)(qs':j_):Prop where
 was:∀x∈nx,InQ qs x
 nd:nx.Nodup
 now:∀y,InQ qs' y->InQ qs y/\y ∉ nx
 cross:C7 qs'
theorem Sp.nil{qs:j_}(h:C7 qs):Sp qs [] qs:=⟨gy,List.nodup_nil,λy hy=>⟨hy,by simp⟩,h⟩
theorem Sp.snoc{ow:M_}{qs qs1 qs2:j_}{nx:M_}{n:Int}(h:Sp qs nx qs1)(hl:ky ow qs1)(hn:n>=0)(hp:Sq qs1 n qs2):Sp qs (List.append nx [n]) qs2:=by have ⟨h1,h2,h3⟩:=TN hl h.cross hp (by omega);have ⟨g1,g2⟩:=h.now n h1;refine⟨kX h.was (all_cons g1 gy),En h.nd g2,λy hy=>?_,h2⟩;have ⟨k1,k2⟩:=h3 y hy;have ⟨k3,k4⟩:=h.now y k1;simp_all
theorem EU{α:Type}{l:List α}{i:Nat}{a:α}(h:l[i]?=some a):l.set i a=l:=by apply oEG;grind
theorem LM{ow:M_}{qs:j_}{lock t:Int}(h:ky ow qs):Ok (jK ow qs lock t) λr=>∃Zq qs' n b,r=(Zq,qs',n,b,())/\ky Zq qs'/\(-1<=n/\n<=3)/\Sq qs n qs'/\(n>=0->b=true):=by
 unfold jK;rw[CH h];obtain⟨h1,h2,h3,h4⟩:=id h;refine Ok.bind (P:=λr=>∃b,r=(lock,b,(),(),ow,qs,())/\(b=false->0<=lock/\lock<4)) ?_ ?_;refine fS (λZ'=>?_) λZ'=>?_;exact fQ ⟨true,rfl,λh=>by cases h⟩;refine fS (λZ1=>?_) λZ1=>?_;exact fQ ⟨true,rfl,λh=>by cases h⟩;refine gX λj hj=>?_;refine f6 λx hx=>?_;exact fQ ⟨_,rfl,λ_=>⟨by omega,by omega⟩⟩;rintro _ ⟨b,rfl,hb⟩;dsimp only;refine ge (λ_=>fQ ⟨_,_,_,_,rfl,h,by omega,.inl ⟨rfl,rfl⟩,λhn=>absurd hn (by decide)⟩) λhbf=>?_;obtain⟨l0,l1⟩:=hb hbf;obtain⟨j,rfl⟩:∃j:Nat,lock=j:=⟨lock.toNat,by omega⟩;obtain⟨o,ho⟩:=gv ow j (by omega);obtain⟨q,hq⟩:=gv qs j (by omega);have go:fT ow j=some o:=ho;have gq:fT qs j=some q:=hq;have gm:∀f:Int->Int,fT (List.modify ow j f) j=some (f o):=λf=>vI ho;have gm2:∀f g:Int->Int,fT (List.modify (List.modify ow j f) j g) j=some (g (f o)):=λf g=>vI (vI ho);delta fZ;simp only[fW,oBS,go,gq,gm,gm2];have Xv:ky (List.modify ow j λ_=>-1) qs:=⟨by rw[oLM];exact h1,h2,gS h3 λ_ _=>⟨by omega,by omega⟩,h4⟩;refine fS (λhcc=>?_) λhcc=>?_;obtain⟨x,hx⟩:=gv q 0 (by omega);have gx:fT q 0=some x:=hx;have Y4:=(h4 q (fY hq)).2 x (fY hx);simp only[gx,oBS];refine fR (by unfold iQ;simp;omega) ?_;obtain⟨y,q',rfl⟩:∃y q',q=y::q':=by cases q with|nil=>cases hx|cons y q'=>exact⟨y,q',rfl⟩
 obtain rfl:y=x:=by injection hx
 have hw:nJ (y::q') 1 (Nat.sub (y::q').length 1)=q':=by show((y::q').drop 1).take ((y::q').length-1)=q';simp_all
 refine fQ ⟨_,_,_,_,rfl,⟨by simp_all,by rw[oLM];exact h2,gS (gS h3 λ_ _=>⟨by omega,by omega⟩) λ_ _=>⟨by omega,by omega⟩,gS h4 λ_ _=>?_⟩,by omega,.inr ⟨j,q',hq,by rw[hw,gt hq]⟩,λ_=>rfl⟩;obtain⟨q1,q2⟩:=h4 _ (fY hq);simp_all;exact fQ ⟨_,_,_,_,rfl,Xv,by omega,.inl ⟨rfl,rfl⟩,λ_=>rfl⟩
theorem UR{ow:M_}{qs:j_}{lock t:Int}(h:ky ow qs)(ht:0<=t/\t<=3):Ok (qU ow qs lock t) λr=>∃Zq qs' n,r=(Zq,qs',n,())/\ky Zq qs'/\Qb qs t n qs':=by
 unfold qU;rw[CH h];simp only[oBS];obtain⟨h1,h2,h3,h4⟩:=id h;refine Ok.bind (P:=λr=>∃b,r=(lock,t,b,ow,qs,(),(),ow,qs,())/\(b=false->0<=lock/\lock<4)) ?_ ?_;refine fS (λZ'=>?_) λZ'=>?_;exact fQ ⟨true,rfl,λh=>by cases h⟩;refine fS (λZ1=>?_) λZ1=>?_;exact fQ ⟨true,rfl,λh=>by cases h⟩;refine gX λj hj=>?_;refine f6 λx hx=>?_;exact fQ ⟨_,rfl,λ_=>⟨by omega,by omega⟩⟩;rintro _ ⟨b,rfl,hb⟩;dsimp only;refine ge (λ_=>fQ ⟨_,_,_,rfl,h,.inl ⟨by decide,rfl⟩⟩) λhbf=>?_;obtain⟨l0,l1⟩:=hb hbf;delta fZ;try dsimp only
 obtain⟨r,e,hr⟩:=g9 (f:=qc) (n:=NN) (s:=(lock,t,qs,(qs.length:Int),0,ow,qs,(),(),ow,qs,())) (P:=λs'=>∃k:Nat,s'=(lock,t,qs,(qs.length:Int),(k:Int),ow,qs,(),(),ow,qs,())/\k<=qs.length/\∀(i:Nat) q,i<k->qs[i]?=some q->t ∉ q) (R:=λr=>r=.inl (2,ow,qs,())\/((∃a b c,r=.inr (lock,t,a,b,c,false,ow,qs,(),(),ow,qs,()))/\∀q∈qs,t ∉ q)) (m:=λs'=>(s'.2.2.2.1-s'.2.2.2.2.1).toNat) ⟨0,rfl,by omega,λi q hi=>by omega⟩ (by unfold NN;dsimp only;omega) (by
  rintro _ ⟨k,rfl,hk,ZK⟩;unfold qc;dsimp only;refine fS (λZ'=>?_) λZ'=>?_;obtain⟨q,hq⟩:=gv qs k (by omega);have gq:fT qs k=some q:=hq;have q3:=h.qlen4 (fY hq);delta fZ;simp only[fW,oBS,gq];obtain⟨r,e,hr⟩:=g9 (f:=qd) (n:=NN) (s:=(lock,t,qs,(qs.length:Int),(k:Int),q,(q.length:Int),0,ow,qs,(),(),ow,qs,())) (P:=λs'=>∃j:Nat,s'=(lock,t,qs,(qs.length:Int),(k:Int),q,(q.length:Int),(j:Int),ow,qs,(),(),ow,qs,())/\j<=q.length/\∀(i:Nat) x,i<j->q[i]?=some x->x≠t) (R:=λr=>r=.inl (2,ow,qs,())\/((∃a b c,r=.inr (lock,t,qs,(qs.length:Int),(k:Int),a,b,c,false,ow,qs,(),(),ow,qs,()))/\t ∉ q)) (m:=λs'=>(s'.2.2.2.2.2.2.1-s'.2.2.2.2.2.2.2.1).toNat) ⟨0,rfl,by omega,λi x hi=>by omega⟩ (by unfold NN;dsimp only;omega) (by
   rintro _ ⟨j,rfl,hj,hne⟩;unfold qd;dsimp only;refine fS (λZ1=>?_) λZ1=>?_;obtain⟨x,hx⟩:=gv q j (by omega);have gx:fT q j=some x:=hx;simp only[fW,oBS,gx];refine fS (λhcc=>?_) λhcc=>?_;exact fQ (.inl rfl)
   ·(simp (disch:=omega) only [gD,gl,gf,gh])
    exact fQ ⟨⟨j+1,rfl,by omega,L7 hne hx hcc⟩,by dsimp only;omega⟩
   refine fQ (.inr ⟨⟨_,_,_,rfl⟩,λhm=>?_⟩);obtain⟨i,hi⟩:=List.getElem?_of_mem hm;exact hne i t (by have:=(oGS hi).1;omega) hi rfl)
  rw[e];rcases hr with rfl|⟨⟨a,b,c,rfl⟩,W5⟩;exact fQ (.inl rfl);dsimp only
  (simp (disch:=omega) only [gD,gl,gf,gh])
  refine fQ ⟨⟨k+1,rfl,by omega,λi q' hi hq'=>?_⟩,by dsimp only;omega⟩;by_cases hik:i=k;simp_all;exact ZK i q' (by omega) hq';refine fQ (.inr ⟨⟨_,_,_,rfl⟩,λq hq=>?_⟩);obtain⟨i,hi⟩:=List.getElem?_of_mem hq;exact ZK i q (by have:=(oGS hi).1;omega) hi)
 rw[e];rcases hr with rfl|⟨⟨a,b,c,rfl⟩,W5⟩;exact fQ ⟨_,_,_,rfl,h,.inl ⟨by decide,rfl⟩⟩;dsimp only;obtain⟨j,rfl⟩:∃j:Nat,lock=j:=⟨lock.toNat,by omega⟩;obtain⟨o,ho⟩:=gv ow j (by omega);obtain⟨q,hq⟩:=gv qs j (by omega);have go:fT ow j=some o:=ho;have gq:fT qs j=some q:=hq;simp only[fW,oBS,go,gq];refine fS (λXF=>?_) λXF=>?_;exact fQ ⟨_,_,_,rfl,⟨by rw[oLM];exact h1,h2,gS h3 λ_ _=>⟨by omega,ht.2⟩,h4⟩,.inl ⟨by decide,rfl⟩⟩;have q3:=h.qlen4 (fY hq);refine fR (gd (by simp;omega)) (fR (by simp) (fQ ⟨_,_,_,rfl,⟨h1,by rw[oLM];exact h2,h3,gS h4 λ_ _=>⟨?_,?_⟩⟩,.inr ⟨rfl,W5,j,q,hq,by rw[gt hq];rfl⟩⟩));exact En (h4 q (fY hq)).1 (W5 q (fY hq));exact kX (h4 q (fY hq)).2 (all_cons ht gy)
theorem Vy{ow:M_}{qs:j_}{t:Int}(h:ky ow qs)(ht:¬InQ qs t)(hX:C7 qs):Ok (qV ow qs t) λr=>∃Zq qs' nx,r=(Zq,qs',nx,())/\ky Zq qs'/\nx.length<=4/\(∀x∈nx,0<=x/\x<=3)/\Sp qs nx qs':=by
 unfold qV;rw[CH h];delta fZ;simp only[oBS];have h2:=h.qlen;have W5:∀(k:Nat) q,qs[k]?=some q->t ∉ q:=λk q hq hm=>ht ⟨k,q,hq,hm⟩;refine gO (P:=λs'=>∃k:Nat,s'=(t,(qs.length:Int),(k:Int),(),(),ow,qs,())/\k<=qs.length) (R:=λr=>∃a b c,r=(t,a,b,c,(),(),ow,qs,())) (m:=λs'=>(s'.2.1-s'.2.2.1).toNat) ⟨0,rfl,by omega⟩ (by unfold NN;dsimp only;omega) ?_ ?_;rintro _ ⟨k,rfl,hk⟩;unfold uf;dsimp only;refine fS (λZ'=>?_) λZ'=>?_;obtain⟨q,hq⟩:=gv qs k (by omega);have gq:fT qs k=some q:=hq;have q3:=h.qlen4 (fY hq);delta fZ;simp only[fW,oBS,gq];refine gO (P:=λs'=>∃j:Nat,s'=(t,(k:Int),(qs.length:Int),(k:Int),k,(q.length:Int),(j:Int),(),(),ow,qs,q.take j,())/\j<=q.length)
  (R:=λr=>∃a b c d,r=(t,(k:Int),(qs.length:Int),(k:Int),a,b,c,d,(),(),ow,qs,q,())) (m:=λs'=>(s'.2.2.2.2.2.1-s'.2.2.2.2.2.2.1).toNat) ⟨0,rfl,by omega⟩ (by unfold NN;dsimp only;omega) ?_ ?_
 rintro _ ⟨j,rfl,hj⟩;unfold ug;dsimp only;refine fS (λZ1=>?_) λZ1=>?_;obtain⟨x,hx⟩:=gv q j (by omega);have gx:fT q j=some x:=hx;have hxt:x≠t:=λe=>W5 k q hq (e▸fY hx);simp only[fW,oBS,gq,gx,bne_iff_ne.2 hxt,oCT];rw[gd (by simp;omega)];simp only[oCT,oBS]
 (simp (disch:=omega) only [gD,gl,gf,gh])
 exact fQ ⟨⟨j+1,by rw[List.take_add_one,hx];rfl,by omega⟩,by dsimp only;omega⟩;have:j=q.length:=by omega
 subst this;exact fQ ⟨_,_,_,_,by rw[List.take_length]⟩;rintro _ ⟨a,b,c,d,rfl⟩;dsimp only;simp only[fW,oBS,gq];rw[gt hq,EU hq]
 (simp (disch:=omega) only [gD,gl,gf,gh])
 exact fQ ⟨⟨k+1,rfl,by omega⟩,by dsimp only;omega⟩;exact fQ ⟨_,_,_,rfl⟩;rintro _ ⟨a,b,c,rfl⟩;dsimp only;refine gO (P:=λs'=>∃k:Nat,∃Zq qs' nx,s'=(t,4,(k:Int),(),(),Zq,qs',nx,())/\k<=4/\nx.length<=k/\ky Zq qs'/\(∀x∈nx,0<=x/\x<=3)/\Sp qs nx qs') (R:=λr=>∃a b c Zq qs' nx,r=(t,a,b,c,(),(),Zq,qs',nx,())/\ky Zq qs'/\nx.length<=4/\(∀x∈nx,0<=x/\x<=3)/\Sp qs nx qs') (m:=λs'=>(4-s'.2.2.1).toNat)
  ⟨0,ow,qs,[],by rw[h.olen];rfl,by omega,by simp,h,gy,.nil hX⟩ (by unfold NN;dsimp only;omega) ?_ ?_
 rintro _ ⟨k,Zq,qs',nx,rfl,hk,XH,YG,XI,hp⟩;unfold ue;dsimp only;refine fS (λZ'=>?_) λZ'=>?_;refine(LM YG).bind ?_;rintro _ ⟨ow2,qs2,n,bb,rfl,Ya,⟨n0,n1⟩,XT,hbt⟩;dsimp only;refine Ok.bind (P:=λr=>∃nx',r=(t,4,(k:Int),(),(),Zq,qs',nx',ow2,qs2,())/\nx'.length<=k+1/\(∀x∈nx',0<=x/\x<=3)/\Sp qs nx' qs2) ?_ ?_;by_cases hn:n>=0;have hb:bb=true:=hbt hn;subst hb;simp only[oCT,oDT hn];refine fR (gd (by simp;omega)) (fQ ⟨_,rfl,by rw[iq];simp;omega,kX XI (all_cons ⟨by omega,n1⟩ gy),hp.snoc YG hn XT⟩);have hq:qs2=qs':=by rcases XT with⟨_,e⟩|⟨j,q,hj,_⟩;exact e;have:=((YG.queue _ (fY hj)).2 n (List.mem_cons_self ..)).1;omega
 subst hq;cases bb with|true=>simp only[oCT,oDF hn,oCF];exact fQ ⟨nx,rfl,by omega,XI,hp⟩|false=>exact fQ ⟨nx,rfl,by omega,XI,hp⟩
 rintro _ ⟨nx',rfl,hn1,hn2,hp2⟩;dsimp only
 (simp (disch:=omega) only [gD,gl,gf,gh])
 exact fQ ⟨⟨k+1,_,_,_,rfl,by omega,hn1,Ya,hn2,hp2⟩,by dsimp only;omega⟩;exact fQ ⟨_,_,_,_,_,_,rfl,YG,by omega,XI,hp⟩;rintro _ ⟨a,b,c,Zq,qs',nx,rfl,YG,hn4,XI,hp⟩;exact fQ ⟨_,_,_,rfl,YG,hn4,XI,hp⟩
theorem Ea{ss:M_}{t v rg o sp:Int}{dat:D_}{w:Bool}(hs:A6 ss)(hv:Pr ss (t,v,rg,o))(hd:dat.length<=16/\∀c∈dat,Pr ss c)(ZD:-1<=sp/\sp<=3):mS t v rg o dat sp w=some (true,()):=by refine gV ?_;unfold mS;rw[show mw t v rg o=some (true,())from Jy hs hv,mD hs hd.2 (by omega) (by omega)];refine fR (oDT ZD.1) ?_;exact fQ (by rw[oDT (show sp<4 by omega)])
def Us(st:M_)(i:Nat)(call:Int)(w:Bool)(sp:Int):M_:=if sp=-1 then st.set i (if call=0 then 4 else if w=true then 3 else 1)else(st.set i (if call=0 then 4 else if w=true then 3 else 1)).set sp.toNat 1
theorem Wt{n m key:Int}{code:F_}{ss bs:M_}{dd:j_}{cs:C_}{ls:G_}{ts:J_}{i:Nat}{trap count pc call:Int}{args data:D_}{t v rg o sp:Int}{dat:D_}{w:Bool}(hp:kj code ss dd)(h:MOk n ss bs cs ls ts)(hi:i<4) (hn:n<=1099511627776)(hm:m<=1099511627776)(hR:A7 m ss (i:Int) 1 trap count pc call args data)(hv:Pr ss (t,v,rg,o))(hd:dat.length<=16/\∀c∈dat,Pr ss c)(ZD:-1<=sp/\sp<=3){th:DTh}(Zp:ts[i]?=some th)(h2:th.1=2)(hF:Qe ss call args)(hD:UJ call args dat)(hS:sp=-1\/(call=10/\w=false/\∃j:Nat,sp=j/\j<4/\∃tj,ts[j]?=some tj/\tj.1=0)):Ok (sA code ss dd bs key cs ls ts (i:Int) 1 trap count pc call args data t v rg o dat sp w) λr=>∃Z9 Z7 ZZ b,r=(bs,key,Z9,Z7,ZZ,b,())/\MOk n ss bs Z9 Z7 ZZ/\ZZ.map (·.1)=Us (ts.map (·.1)) i call w sp:=by
 have Yp:=h.tlen;obtain⟨Y7,X'⟩:=hR.hkind rfl;have hok:=h.thr th (fY Zp);have hg:fT ts i=some th:=Zp;unfold sA;delta fZ;rw[vo hp h hn,yS hp.sz hR hm,AJ hR.hcall,Ea hp.sz hv hd ZD,Y7];simp only[oBS,oNT,oCF,oBN,fW,hg];simp only[bne_eq_false_iff_eq.2 h2,oCF,ye h,oBS,fW,hg];by_cases hc0:call=0;subst hc0;obtain⟨a,ha⟩:=gv args 0 (by rw[Y7];decide);have hva:=(hR.hargs.2 a (fY ha)).val;simp only[BEq.rfl,oCT,show fT args 0=some a from ha,oBS];unfold qe oe;rw[gd (show 4<=1000/\0+th.2.1.length<=1000000 by have:=hok.len;omega)];simp only[oCT,oBS,gt Zp];refine gU (by rw[oLS];omega) λ_ _=>?_;exact fQ ⟨_,_,_,_,rfl,h.set h.mem ⟨⟨show(0:Int)<=4 by decide,show(4:Int)<=4 by decide⟩,by dsimp only;rw[iq];simpa using hok.len,kX gy hok.regs,hok.pc,hok.count,hok.handler,hok.saved,⟨show(0:Int)<=0 by decide,show(0:Int)<=6 by decide⟩,hva⟩,by
  rcases hS with rfl|⟨h10,_⟩
  ·rw[List.map_set];rfl
  ·exact absurd h10 (by decide)⟩
 simp only[oBF hc0,oCF];cases w with
 |true=>
 simp only[oCT,gt Zp];refine gU (by rw[oLS];omega) λ_ _=>?_;refine gU (by rw[oLS];omega) λ_ _=>?_;exact fQ ⟨_,_,_,_,rfl,h.set h.mem ⟨⟨show(0:Int)<=3 by decide,show(3:Int)<=4 by decide⟩,hok.len,hok.regs,hok.pc,hok.count,hok.handler,hok.saved,hok.trap,hok.code⟩,by
  rcases hS with rfl|⟨_,hw,_⟩
  ·rw[List.map_set];unfold Us;rw[oIP rfl,oIN hc0,oIP rfl]
  ·cases hw⟩
 |false=>simp only[oCF];refine(TL h hi hR hv hd hF hD (hS.imp id λ⟨a,_,b⟩=>⟨a,b⟩)).bind ?_;rintro _ ⟨Z9,Z7,ZZ,rfl,hb,hst⟩;simp only[oNT,oCF];have htl':=hb.tlen;refine f6 λ_ _=>?_;refine f6 λ_ _=>?_;refine fQ ⟨_,_,_,_,rfl,hb,?_⟩;rw[hst];unfold ER Us;rw[oIN hc0,oIN (show ¬false=true by decide)];by_cases hm:sp=-1;rw[oIP hm,oIP hm];rw[oIN hm,oIN hm];rcases hS with hS|⟨_,_,j,rfl,_,tj,htj,h0⟩;exact absurd hS hm;rw[oTN];refine List.set_comm _ _ (λe=>?_);simp_all
theorem SW{n key:Int}{code:F_}{ss bs:M_}{dd:j_}{cs:C_}{ls:G_}{ts:J_}{i:Nat}{t v rg o sp:Int}{dat:D_}{w:Bool}(hp:kj code ss dd)(h:MOk n ss bs cs ls ts) (hn:n<=1099511627776)(hv:Pr ss (t,v,rg,o))(hd:dat.length<=16/\∀c∈dat,Pr ss c)(ZD:-1<=sp/\sp<=3){th:DTh}(Zp:ts[i]?=some th)(h3:th.1=3):Ok (oF code ss dd bs key cs ls ts (i:Int) t v rg o dat sp w) λr=>∃Z9 Z7 ZZ b,r=(bs,key,Z9,Z7,ZZ,b,())/\MOk n ss bs Z9 Z7 ZZ/\ZZ.map (·.1)=(ts.map (·.1)).set i 1:=by
 have Yp:=h.tlen;obtain⟨W9,Zo⟩:=rV (key:=key) h.lay hv;unfold oF;rw[vo hp h hn,Ea hp.sz hv hd ZD];simp only[oBS,oNT,oCF];have hil0:=(oGS Zp).1;have h1:¬(i:Int)<0:=by omega
 have h2:¬(i:Int)>=4:=by omega
 have hok:=h.thr th (fY Zp);have hil:=(oGS Zp).1;have hg:fT ts i=some th:=Zp;obtain⟨c,hc0⟩:=gv th.2.1 0 (by have:=hok.len;omega);simp only[oDF h1,oDF h2,oCF,fW,hg];simp only[bne_eq_false_iff_eq.2 h3,oCF,W9,oBS,oBN,ye h,fW,hg,show fT th.2.1 0=some c from hc0,gt Zp,gt hc0,gW hil,p5 hil];refine gU (by simp_all) λ_ _=>?_;refine gU (by simp_all) λ_ _=>?_;exact fQ ⟨_,_,_,_,rfl,h.set h.mem ⟨⟨show(0:Int)<=1 by decide,show(1:Int)<=4 by decide⟩,by dsimp only;rw[oLS];exact hok.len,jU hok.regs Zo,hok.pc,hok.count,hok.handler,hok.saved,hok.trap,hok.code⟩,by simp_all⟩
theorem Nk{n key:Int}{ss bs:M_}{cs:C_}{ls:G_}{ts:J_}(h:MOk n ss bs cs ls ts)(i:Int):Ok (mR bs key cs ls ts i) λr=>∃ZZ b,r=(bs,key,cs,ls,ZZ,b,())/\MOk n ss bs cs ls ZZ/\∀(j:Nat) t',ZZ[j]?=some t'->∃t,ts[j]?=some t/\t'.1=t.1:=by
 unfold mR;rw[ye h];refine(SO h i).bind ?_;rintro⟨b,_⟩ hb;refine fS (λZ'=>?_) λZ'=>?_;exact fQ ⟨ts,false,rfl,h,λj t' e=>⟨t',e,rfl⟩⟩;have hb:=hb Z';have Yp:=h.tlen;have ⟨ZJ,ZU,Xi⟩:=hb;refine jt ZJ λj hj=>?_;subst hj;refine f6 λt ht=>?_;refine f6 λt1 Yj=>?_;refine f6 λt2 YP=>?_;refine f6 λt3 ht3=>?_;rw[ht]at Yj YP ht3;injection Yj with Yj
 injection YP with YP
 subst Yj YP;refine gU (by rw[oLM];omega) λt4 ht4=>?_;have hne:=Xi t (by rw[oTN];exact ht);have hok:=h.thr t (fY ht);rw[jT];refine fQ ⟨_,_,rfl,h.thread ht ⟨hok.state,hok.len,hok.regs,⟨by have:=hok.handler;dsimp only;omega,hok.handler.2⟩,hok.count,hok.handler,⟨by have:=hok.pc;dsimp only;omega,hok.pc.2⟩,hok.trap,hok.code⟩,λu t' e=>?_⟩;rw[oGM]at e;cases hu:ts[u]? with|none=>rw[hu]at e;split at e<;>cases e|some t0=>rw[hu]at e;refine⟨t0,rfl,?_⟩;split at e<;>(injection e with e;rw[<- e])
def UH(js:M_):Prop:=∀(u:Nat)(j:Int),js[u]?=some j->j≠u
theorem UH.set{js:M_}{i:Nat}{x:Int}(h:UH js)(hx:x≠i):UH (js.set i x):=by intro u j hj;rw[List.getElem?_set]at hj;split at hj;simp_all;exact h u j hj
def UD(qs:j_)(ts:J_)(js:M_):Prop:=(∀x,InQ qs x->∃(i:Nat)(t:DTh),x=i/\ts[i]?=some t/\t.1=3/\js[i]?=some (-1))/\∀(i:Nat)(j:Int),js[i]?=some j->j≠-1->∃t,ts[i]?=some t/\t.1=3
structure ki (n:Int)(q:Nat)(code:F_)(ss:M_)(dt:j_)(bs:M_)(cs:C_)(ls:G_)(ts:J_)(ck rn:M_)(ins:j_)(d:i_)(os:H_)(us:I_)(ow:M_)(qs:j_)(rec:E_)(js:M_):Prop where
 prog:kj code ss dt
 mach:MOk n ss bs cs ls ts
 outs:vO ss ck rn ins d os us
 lock:ky ow qs
 rlen:rec.length<=q
 jlen:js.length=4
 jne:UH js
 xq:UD qs ts js
 xx:C7 qs
def Wr(n key:Int)(q:Nat)(code:F_)(ss:M_)(dt:j_)(bs:M_)(r:F_×v_×g_×v_×Int×C_×G_×J_×v_×v_×g_×i_×H_×I_×v_×g_×E_×v_×Unit):Prop:=∃cs ls ts ck rn ins d os us ow qs rec js,r=(code,ss,dt,bs,key,cs,ls,ts,ck,rn,ins,d,os,us,ow,qs,rec,js,())/\ki n q code ss dt bs cs ls ts ck rn ins d os us ow qs rec js
theorem Bz{st:M_}{ZZ:J_}{k:Nat}{x:Int}(e:ZZ.map (·.1)=st)(h:st[k]?=some x):∃t',ZZ[k]?=some t'/\t'.1=x:=by rw[<- e,oGP]at h;simp_all
theorem Qu{ts:J_}{k:Nat}{t:DTh}(h:ts[k]?=some t):(ts.map (·.1))[k]?=some t.1:=by simp_all
theorem ki.woken{n:Int}{q:Nat}{code:F_}{ss:M_}{dt:j_}{bs:M_}{cs Z9:C_}{ls Z7:G_}{ts ZZ:J_}{ck rn:M_}{ins:j_}{d:i_}{os:H_}{us:I_}{ow:M_}{qs:j_}{rec:E_}{js:M_}{i:Nat}{v:Int}{th:DTh} (h:ki n q code ss dt bs cs ls ts ck rn ins d os us ow qs rec js)(Zp:ts[i]?=some th)(h3:th.1=3)(hnq:¬InQ qs i)(hv:W16 v)(hM:MOk n ss bs Z9 Z7 ZZ)(hst:ZZ.map (·.1)=(ts.map (·.1)).set i 1):ki n (q+1) code ss dt bs Z9 Z7 ZZ ck rn ins d os us ow qs (List.append rec [(4,(i:Int),0,0,0,0,0,0,0,[],[],0,v,0,0,[],-1,false)]) (js.set i (-1)):=by have Yp:=h.mach.tlen;have hil:=(oGS Zp).1;have keep:∀(k:Nat)(t:DTh),k≠i->ts[k]?=some t->∃t',ZZ[k]?=some t'/\t'.1=t.1:=λk t hk ht=>Bz hst (by rw[List.getElem?_set_ne (Ne.symm hk)];exact Qu ht);refine⟨h.prog,hM,h.outs,h.lock,by have:=h.rlen;rw[iq];simp;omega,by rw[oLS];exact h.jlen,h.jne.set (by omega),⟨λx hx=>?_,λk j hk hj=>?_⟩,h.xx⟩;obtain⟨k,t,rfl,hk,ht3,hj⟩:=h.xq.1 x hx;have hki:k≠i:=λe=>hnq (e▸hx);obtain⟨t',ZT,e⟩:=keep k t hki hk;exact⟨k,t',rfl,ZT,by rw[e,ht3],by rw[List.getElem?_set_ne (Ne.symm hki)];exact hj⟩;rcases rI hk with⟨_,e⟩|⟨hne,hk⟩;exact absurd e hj;obtain⟨t,ht,ht3⟩:=h.xq.2 k j hk hj;obtain⟨t',ZT,e⟩:=keep k t (Ne.symm hne) ht;simp_all
theorem NF{n:Int}{q:Nat}{code:F_}{ss:M_}{dt:j_}{bs:M_}{key:Int}{cs:C_}{ls:G_}{ts:J_}{ck rn:M_}{ins:j_}{d:i_}{os:H_}{us:I_}{ow:M_}{qs:j_}{rec:E_}{js:M_}{i:Nat}{v:Int}{th:DTh}(h:ki n q code ss dt bs cs ls ts ck rn ins d os us ow qs rec js)(hn:n<=1099511627776)(hq:q<=900)(hv:W16 v)(Zp:ts[i]?=some th)(h3:th.1=3)(hnq:¬InQ qs i)(hjs:js[i]?=some (-1)):Ok (qO (i:Int) v code ss dt bs key cs ls ts ck rn ins d os us ow qs rec js) (Wr n key (q+1) code ss dt bs):=by unfold qO;rw[gf (by have:=hv.1;omega) (by have:=hv.2;omega)];have ⟨v2,ev,Xj⟩:=ib v true;simp[ev];refine(SW h.prog h.mach hn (iZ Xj) ⟨by decide,gy⟩ (by decide) Zp h3).bind ?_;rintro _ ⟨Z9,Z7,ZZ,b,rfl,hM,hst⟩;have hr:=h.rlen;refine fR (gd (by simp;omega)) ?_;have hW:=h.woken Zp h3 hnq Xj hM hst;rw[EU hjs]at hW;exact fQ ⟨_,_,_,_,_,_,_,_,_,_,_,_,_,rfl,hW⟩
theorem K7{n:Int}{q:Nat}{code:F_}{ss:M_}{dt:j_}{bs:M_}{key:Int}{cs:C_}{ls:G_}{ts:J_}{ck rn:M_}{ins:j_}{d:i_}{os:H_}{us:I_}{ow:M_}{qs:j_}{rec:E_}{js:M_}{i:Nat}{v:Int}{th:DTh}(h:ki n q code ss dt bs cs ls ts ck rn ins d os us ow qs rec js)(hn:n<=1099511627776)(hq:q<=900)(hv:W16 v)(Zp:ts[i]?=some th)(h3:th.1=3)(hnq:¬InQ qs i):Ok (lH (i:Int) v code ss dt bs key cs ls ts ck rn ins d os us ow qs rec) λr=>∃Z9 Z7 ZZ rec',r=(code,ss,dt,bs,key,Z9,Z7,ZZ,ck,rn,ins,d,os,us,ow,qs,rec',())/\ki n (q+1) code ss dt bs Z9 Z7 ZZ ck rn ins d os us ow qs rec' (js.set i (-1))/\ZZ.map (·.1)=(ts.map (·.1)).set i 1:=by unfold lH;rw[gf (by have:=hv.1;omega) (by have:=hv.2;omega)];have ⟨v2,ev,Xj⟩:=ib v true;simp[ev];refine(SW h.prog h.mach hn (iZ Xj) ⟨by decide,gy⟩ (by decide) Zp h3).bind ?_;rintro _ ⟨Z9,Z7,ZZ,b,rfl,hM,hst⟩;have hr:=h.rlen;refine fR (gd (by simp;omega)) ?_;exact fQ ⟨_,_,_,_,rfl,h.woken Zp h3 hnq Xj hM hst,hst⟩
end Go.Proofs.YtabfnmgabblofaaGreat
