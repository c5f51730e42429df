/- Part of the proof; no condition. -/
import Derived.Test.YtabfnmgabblofaaGreatId
import Derived.WalkKit
import Derived.WalkSpells
import Derived.Handy
import Derived.OpenShut
set_option linter.unusedVariables false
set_option linter.unusedSimpArgs false
namespace Go.Proofs.YtabfnmgabblofaaGreat
open Go.RowKit
set_option maxRecDepth 100000
noncomputable section
def mq:T1s->Option (T1s⊕((Int×Unit)⊕T1L)):=λ(v0,v1,v2,v3,v4,v5,_)=>bif(decide (v2<v1))then((gj v2).bind λx0=>
(fU v0 x0).bind λx1=>let x2:=f6 x1.length;
(gj v2).bind λx3=>
(fU v4 x3).bind λx4=>bif(decide (x2>x4))then(some (.inr (.inl (1,()))))else let x5:=w64 (v2+1);some (.inl (v0,v1,x5,v3,v4,v5,())))else some (.inr (.inr (v0,v1,v2,false,v3,v4,v5,())))
def mp:T1G->Option (T1G⊕((Int×Unit)⊕T1Y)):=λ(v0,v1,v2,v3,v4,v5,v6,_)=>bif(decide (v3<v2))then((match((gj v3).bind λx0=>
(fU v1 x0).bind λx1=>
(py x1.1 x1.2.1 x1.2.2.1 x1.2.2.2.1 x1.2.2.2.2).bind λ(x2,_)=>bif(!x2)then(some (.inl (5,())))else
((ni x1.1).bind λ(x3,_)=>bif x3 then(let x4:Int:=(f6 v4.length);bif(decide (x1.2.2.2.2>=x4))then(some (v0,v1,v2,v3,true,v4,v5,v6,()))else bif(x1.1==15)then(let x5:Int:=(f6 v5.length);some (v0,v1,v2,v3,(decide (x1.2.2.2.2>=x5)),v4,v5,v6,()))else some (v0,v1,v2,v3,false,v4,v5,v6,()))else bif(x1.1==15)then(let x4:Int:=(f6 v5.length);some (v0,v1,v2,v3,(decide (x1.2.2.2.2>=x4)),v4,v5,v6,()))else some (v0,v1,v2,v3,false,v4,v5,v6,()):Option (T1Y)).bind λ(x3,x4,x5,x6,x7,x8)=>bif x7 then(some (.inr (6,x4,x5,x6,x8)))else some (.inr (x3,x4,x5,x6,x8)):Option ((Int×Unit)⊕T1G))with
|none=>none
|some (.inl (x0,_))=>some (.inr (.inl (x0,())))
|some (.inr (x0,x1,x2,x3,x4,x5,x6,_))=>let x7:=w64 (x3+1);some (.inl (x0,x1,x2,x7,x4,x5,x6,()))))else some (.inr (.inr (v0,v1,v2,v3,false,v4,v5,v6,())))
def sF(a0:LDIn)(a1:LI)(a2:LLI):h_:=
(lM a1).bind λ(x0,_)=>bif(!x0)then(some (1,()))else let x1:=f6 a2.length;let x2:=f6 a1.length;bif(x1 != x2)then(some (1,()))else let x3:=f6 a2.length;
(match gc mq NN (a2,x3,0,a0,a1,a2,())with
|none=>none
|some (.inl (x4,_))=>some (x4,())
|some (.inr (_,_,_,_,x8,x9))=>let ae:=f6 x8.length;bif(ae==0)then(some (3,()))else let af:=f6 x8.length;bif(decide (af>64))then(some (3,()))else let ag:=f6 x8.length;
(match gc mp NN (0,x8,ag,0,x8,x9)with
|none=>none
|some (.inl (ah,_))=>some (ah,())
|some (.inr (ah,_))=>some (ah,())))
def GC:X.Cfg:=⟨E0,[rJ,yH,tw],[],[⟨6,0,qS (zaa 1::sP 22 (yaa RW)::il [23,24]) yam,[(.ret,qS Xat []),(.exit 0,qS [zaa 1,sP 22 (yaa RW),Uaa 23,Uaa 24,Xaa 25] yam)]⟩,⟨27,1,qE,[(.normal,qS [zaa 1,Uaa 5,sP 49 gS,Uaa 50,Uaa 51,Xaa 81] yam)]⟩,⟨22,2,qE,[(.ret,qS Xat []),(.normal,qS Uay yam)]⟩,⟨19,3,qS Uay yam,[(.ret,qS Xat []),(.exit 2,qS [zaa 1,Uaa 5,sP 49 gS,Uaa 50,Uaa 51,Xaa 52] yam)]⟩]⟩
def yK:Ctr:=⟨109,128,[.agg yab],[],[⟨yac,[.one],[]⟩],ap3 sF⟩
theorem FG:Lk 4 yK:=ls GC (aC wl (aC FD (aC xV aN)))
def ne(a0:LDIn)(a1:LI)(a2:LLI):h_:=
(sF a0 a1 a2).bind λ(x0,_)=>some (x0,())
def Ct:X.Cfg:=⟨E0,[yK],[],[]⟩
def vf:Ctr:=⟨81,129,[.agg yab],[],[⟨yac,[.one],[]⟩],ap3 ne⟩
theorem B8:Lk 5 vf:=ls Ct (aC FG aN)
def lB:T2v->Option (T2v⊕((Bool×Unit)⊕T2E)):=λ(v0,v1,v2,v3,v4,v5,v6,v7,v8,v9,_)=>bif(decide (v7<v6))then((match((gj v7).bind λx0=>
(fU v8 x0).bind λx1=>
(gj v7).bind λx2=>
(fU v0 x2).bind λx3=>let x4:=w64 (x1+x3);bif(decide (v2<=x4))then((gj v7).bind λx5=>
(fU v8 x5).bind λx6=>
(gj v1).bind λx7=>
(fU v0 x7).bind λx8=>let x9:=w64 (v2+x8);bif(decide (x6<=x9))then(some (.inl (false,())))else some (.inr (v0,v1,v2,v3,v4,v5,v6,v7,false,v8,v9,())))else some (.inr (v0,v1,v2,v3,v4,v5,v6,v7,false,v8,v9,())):Option ((Bool×Unit)⊕T2E))with
|none=>none
|some (.inl (x0,_))=>some (.inr (.inl (x0,())))
|some (.inr (x0,x1,x2,x3,x4,x5,x6,x7,_,x9,ac,_))=>let ae:=w64 (x7+1);some (.inl (x0,x1,x2,x3,x4,x5,x6,ae,x9,ac,()))))else some (.inr (.inr (v0,v1,v2,v3,v4,v5,v6,v7,false,v8,v9,())))
def lA:T1o->Option (T1o⊕((Bool×Unit)⊕(LI×T1m))):=λ(v0,v1,v2,v3,v4)=>bif(decide (v3<v2))then((gj v3).bind λx0=>
(fU v1 x0).bind λx1=>
(bif(decide (x1<0))then(some (v0,v3,x1,v1,v2,v3,true,v4))else bif(decide (x1>=512))then(some (v0,v3,x1,v1,v2,v3,true,v4))else
(gj v3).bind λx2=>
(fU v0 x2).bind λx3=>let x4:=w64 (x1+x3);some (v0,v3,x1,v1,v2,v3,(decide (x4>512)),v4):Option (T2g)).bind λ(x2,x3,x4,x5,x6,x7,x8,x9)=>bif x8 then(some (.inr (.inl (false,()))))else
(match gc lB NN (x2,x3,x4,x5,x6,x7,x3,0,x9)with
|none=>none
|some (.inl (ae,_))=>some (.inr (.inl (ae,())))
|some (.inr (ae,_,_,ah,ai,aj,_,_,_,ap))=>let av:=w64 (aj+1);some (.inl (ae,ah,ai,av,ap))))else some (.inr (.inr (v0,v1,v2,v3,false,v4)))
def oh(a0:LI)(a1:Int)(a2:LI):f_:=
(lM a2).bind λ(x0,_)=>bif(!x0)then(some (false,()))else let x1:=f6 a0.length;let x2:=f6 a2.length;bif(x1 != x2)then(some (false,()))else let x3:=f6 a0.length;
(match gc lA NN (a2,a0,x3,0,a0,a1,())with
|none=>none
|some (.inl (x4,_))=>some (x4,())
|some (.inr (_,_))=>some (true,()))
def DU:X.Cfg:=⟨E0,[rJ],[],[⟨12,0,qE,[(.normal,qS [sP 1 RI,zaa 2,Uaa 5,Uaa 6,sP 20 RI,Uaa 21,Uaa 22,Xaa 41] zam)]⟩,⟨18,1,qE,[(.ret,qS Uat []),(.normal,qS (sP 1 RI::zaa 2::il [5,6]++sP 20 RI::il [21,22,42,43]++[Xaa 71]) zam)]⟩,⟨15,2,qS (sP 1 RI::zaa 2::il [5,6]++sP 20 RI::il [21,22,42,43]) zam,[(.ret,qS Uat []),(.exit 2,qS (sP 1 RI::zaa 2::il [5,6]++sP 20 RI::il [21,22,42,43]++[Xaa 44]) zam)]⟩,⟨6,3,qS [sP 1 RI,zaa 2,sP 20 RI,Uaa 21,Uaa 22] zam,[(.ret,qS Uat []),(.exit 0,qS [sP 1 RI,zaa 2,sP 20 RI,Uaa 21,Uaa 22,Xaa 23] zam)]⟩]⟩
def wG:Ctr:=⟨82,130,[.agg Uab,shU RI],[],[⟨zab,[.one],[]⟩],ap3 oh⟩
theorem Ds:Lk 2 wG:=ls DU (aC wl aN)
def qM(a0 a1:Int):f_:=some ((decide (a0<=2)),())
def In:X.Cfg:=⟨E0,[],[],[]⟩
def uN:Ctr:=⟨117,131,[.agg Xab],[],[⟨zab,[.one],[]⟩],ap2 qM⟩
theorem zR:Lk 1 uN:=ls In aN
def oW(a0 a1:Int):f_:=
(qM a0 a1).bind λ(x0,_)=>some ((!x0),())
def AY:X.Cfg:=⟨E0,[uN],[],[]⟩
def tP:Ctr:=⟨141,132,[.agg Xab],[],[⟨zab,[.one],[]⟩],ap2 oW⟩
theorem AT:Lk 2 tP:=ls AY (aC zR aN)
def iz:T0l->Option (T0l⊕((Int×Unit)⊕T0E)):=λ(v0,v1,v2,_)=>bif(decide (v2<v1))then((gj v2).bind λx0=>
(fU v0 x0).bind λx1=>
(oW x1.1 x1.2).bind λ(x2,_)=>bif x2 then(some (.inr (.inl (v2,()))))else let x3:=w64 (v2+1);some (.inl (v0,v1,x3,())))else some (.inr (.inr (v0,v1,v2,false,())))
def jR(a0:LDCe):h_:=let x0:=f6 a0.length;
(match gc iz NN (a0,x0,0,())with
|none=>none
|some (.inl (x1,_))=>some (x1,())
|some (.inr (_,_))=>some ((-1),()))
def sU:X.Cfg:=⟨E0,[tP],[],[⟨3,0,(qS (sP 0 ig::(1,.fn 141 [])::il [7,8]) []),[(.ret,qS [Uaa 4] []),(.exit 0,(qS [sP 0 ig,(1,.fn 141 []),Uaa 7,Uaa 8,Xaa 9] []))]⟩]⟩
def nB:Ctr:=⟨142,133,[shU ig,.fn 141 []],[],[⟨yac,[.one],[]⟩],ap1 jR⟩
theorem sL:Lk 3 nB:=ls sU (aC AT aN)
def g9(a0:LDCe):f_:=
(jR a0).bind λ(x0,_)=>some ((decide (x0>=0)),())
def qH:X.Cfg:=⟨E0,[nB],[],[]⟩
def lF:Ctr:=⟨115,134,[shU ig,.fn 141 []],[],[⟨zab,[.one],[]⟩],ap1 g9⟩
theorem qG:Lk 4 lF:=ls qH (aC sL aN)
def lP(a0:LDCe)(a1:Int):f_:=let x0:=f6 a0.length;bif(x0==a1)then((g9 a0).bind λ(x1,_)=>some ((!x1),()))else some (false,())
def DS:X.Cfg:=⟨E0,[lF],[],[]⟩
def rL:Ctr:=⟨111,135,uL [ig,I64],[],[⟨zab,[.one],[]⟩],ap2 lP⟩
theorem wn:Lk 5 rL:=ls DS (aC qG aN)
def sD(a0 a1:Int)(a2:Bool)(a3:LDCe):f_:=bif(a1==(-1))then(bif(!a2)then(let x0:Int:=(f6 a3.length);some ((x0==0),()))else some (false,()))else bif(decide (a1>=0))then(bif(decide (a1<128))then(let x0:Int:=(Int.tmod a1 4);bif(x0==a0)then((lP a3 4).bind λ(x1,_)=>some (x1,()))else some (false,()))else some (false,()))else some (false,())
def Gs:X.Cfg:=⟨E0,[rL],[],[]⟩
def yB:Ctr:=⟨112,136,[shU I64,.agg (uL [I64,.bool,ig])],[],[⟨zab,[.one],[]⟩],ap4 sD⟩
theorem Fw:Lk 6 yB:=ls Gs (aC wn aN)
def lz:T10->Option (T10⊕((Bool×Unit)⊕T1l)):=λ(v0,v1,v2,v3)=>bif(decide (v2<v1))then((gj v2).bind λx0=>
(fU v0 x0).bind λx1=>
(sD v2 x1.1 x1.2.1 x1.2.2).bind λ(x2,_)=>bif(!x2)then(some (.inr (.inl (false,()))))else let x3:=w64 (v2+1);some (.inl (v0,v1,x3,v3)))else some (.inr (.inr (v0,v1,v2,false,v3)))
def og(a0:LDCe)(a1:LDLn):f_:=
(lP a0 512).bind λ(x0,_)=>bif(!x0)then(some (false,()))else let x1:=f6 a1.length;bif(x1 != 4)then(some (false,()))else let x2:=f6 a1.length;
(match gc lz NN (a1,x2,0,a0,a1,())with
|none=>none
|some (.inl (x3,_))=>some (x3,())
|some (.inr (_,_))=>some (true,()))
def DT:X.Cfg:=⟨E0,[rL,yB],[],[⟨6,0,qS (sP 16 i8::il [17,18]) Xam,[(.ret,qS zat []),(.exit 0,qS [sP 16 i8,Uaa 17,Uaa 18,Xaa 19] Xam)]⟩]⟩
def wF:Ctr:=⟨83,137,[.agg yaf],[],[⟨zab,[.one],[]⟩],ap2 og⟩
theorem Dr:Lk 7 wF:=ls DT (aC wn (aC Fw aN))
def ia(a0 a1 a2:Int):f_:=bif(decide (a0>=a1))then(some ((decide (a0<=a2)),()))else some (false,())
def AW:X.Cfg:=⟨E0,[],[],[]⟩
def tN:Ctr:=⟨114,138,yak,[],[⟨zab,[.one],[]⟩],ap3 ia⟩
theorem AR:Lk 1 tN:=ls AW aN
def tF(a0 a1:Int):f_:=
(qM a0 a1).bind λ(x0,_)=>some ((!x0),())
def AV:X.Cfg:=⟨E0,[uN],[],[]⟩
def tM:Ctr:=⟨116,139,[.agg Xab],[],[⟨zab,[.one],[]⟩],ap2 tF⟩
theorem AQ:Lk 2 tM:=ls AV (aC zR aN)
def o8:T0l->Option (T0l⊕((Int×Unit)⊕T0E)):=λ(v0,v1,v2,_)=>bif(decide (v2<v1))then((gj v2).bind λx0=>
(fU v0 x0).bind λx1=>
(tF x1.1 x1.2).bind λ(x2,_)=>bif x2 then(some (.inr (.inl (v2,()))))else let x3:=w64 (v2+1);some (.inl (v0,v1,x3,())))else some (.inr (.inr (v0,v1,v2,false,())))
def lL(a0:LDCe):h_:=let x0:=f6 a0.length;
(match gc o8 NN (a0,x0,0,())with
|none=>none
|some (.inl (x1,_))=>some (x1,())
|some (.inr (_,_))=>some ((-1),()))
def rG:X.Cfg:=⟨E0,[tM],[],[⟨3,0,(qS (sP 0 ig::(1,.fn 116 [])::il [7,8]) []),[(.ret,qS [Uaa 4] []),(.exit 0,(qS [sP 0 ig,(1,.fn 116 []),Uaa 7,Uaa 8,Xaa 9] []))]⟩]⟩
def lU:Ctr:=⟨142,140,[shU ig,.fn 116 []],[],[⟨yac,[.one],[]⟩],ap1 lL⟩
theorem rE:Lk 3 lU:=ls rG (aC AQ aN)
def iR(a0:LDCe):f_:=
(lL a0).bind λ(x0,_)=>some ((decide (x0>=0)),())
def pN:X.Cfg:=⟨E0,[lU],[],[]⟩
def kJ:Ctr:=⟨115,141,[shU ig,.fn 116 []],[],[⟨zab,[.one],[]⟩],ap1 iR⟩
theorem pH:Lk 4 kJ:=ls pN (aC rE aN)
def n8(a0:Int)(a1:LDCe)(a2 a3 a4 a5 a6 a7:Int):f_:=
(ia a0 0 4).bind λ(x0,_)=>bif x0 then(let x1:Int:=(f6 a1.length);bif(x1==8)then((iR a1).bind λ(x2,_)=>bif(!x2)then((ia a2 0 255).bind λ(x3,_)=>bif x3 then((ia a3 0 1099511627776).bind λ(x4,_)=>bif x4 then((ia a4 (-1) 255).bind λ(x5,_)=>bif x5 then((ia a5 (-1) 255).bind λ(x6,_)=>bif x6 then((ia a6 0 6).bind λ(x7,_)=>some (x7,()))else some (false,()))else some (false,()))else some (false,()))else some (false,()))else some (false,()))else some (false,()))else some (false,())
def DB:X.Cfg:=⟨E0,[tN,kJ],[],[]⟩
def wt:Ctr:=⟨86,142,[.agg Xae],[],[⟨zab,[.one],[]⟩],as1 (as2 (as4 ap1)) n8⟩
theorem Dg:Lk 5 wt:=ls DB (aC AR (aC pH aN))
def ry(a0:Int)(a1:LDCe)(a2 a3 a4 a5 a6 a7:Int):f_:=
(n8 a0 a1 a2 a3 a4 a5 a6 a7).bind λ(x0,_)=>some ((!x0),())
def DD:X.Cfg:=⟨E0,[wt],[],[]⟩
def wv:Ctr:=⟨85,143,[.agg Xae],[],[⟨zab,[.one],[]⟩],as1 (as2 (as4 ap1)) ry⟩
theorem Di:Lk 6 wv:=ls DD (aC Dg aN)
def ij:T0p->Option (T0p⊕((Int×Unit)⊕(LDTh×T0f))):=λ(v0,v1,v2,_)=>bif(decide (v2<v1))then((gj v2).bind λx0=>
(fU v0 x0).bind λx1=>
(ry x1.1 x1.2.1 x1.2.2.1 x1.2.2.2.1 x1.2.2.2.2.1 x1.2.2.2.2.2.1 x1.2.2.2.2.2.2.1 x1.2.2.2.2.2.2.2).bind λ(x2,_)=>bif x2 then(some (.inr (.inl (v2,()))))else let x3:=w64 (v2+1);some (.inl (v0,v1,x3,())))else some (.inr (.inr (v0,v1,v2,false,())))
def jn(a0:LDTh):h_:=let x0:=f6 a0.length;
(match gc ij NN (a0,x0,0,())with
|none=>none
|some (.inl (x1,_))=>some (x1,())
|some (.inr (_,_))=>some ((-1),()))
def rF:X.Cfg:=⟨E0,[wv],[],[⟨3,0,(qS (sP 0 oQ::(1,.fn 85 [])::il [7,8]) []),[(.ret,qS [Uaa 4] []),(.exit 0,(qS [sP 0 oQ,(1,.fn 85 []),Uaa 7,Uaa 8,Xaa 9] []))]⟩]⟩
def lT:Ctr:=⟨113,144,[shU oQ,.fn 85 []],[],[⟨yac,[.one],[]⟩],ap1 jn⟩
theorem rD:Lk 7 lT:=ls rF (aC Di aN)
def iQ(a0:LDTh):f_:=
(jn a0).bind λ(x0,_)=>some ((decide (x0>=0)),())
def pM:X.Cfg:=⟨E0,[lT],[],[]⟩
def kI:Ctr:=⟨84,145,[shU oQ,.fn 85 []],[],[⟨zab,[.one],[]⟩],ap1 iQ⟩
theorem pG:Lk 8 kI:=ls pM (aC rD aN)
def qO(a0:LDIn)(a1:LI)(a2:LLI)(a3:LI)(a4:Int)(a5:LDCe)(a6:LDLn)(a7:LDTh):f_:=
(ne a0 a1 a2).bind λ(x0,_)=>bif(x0==0)then((oh a3 a4 a1).bind λ(x1,_)=>bif x1 then((og a5 a6).bind λ(x2,_)=>bif x2 then(let x3:Int:=(f6 a7.length);bif(x3==4)then((iQ a7).bind λ(x4,_)=>some ((!x4),()))else some (false,()))else some (false,()))else some (false,()))else some (false,())
def Iq:X.Cfg:=⟨E0,[vf,wG,wF,kI],[],[]⟩
def An:Ctr:=⟨52,146,[.agg yab,.agg Xac],[],[⟨zab,[.one],[]⟩],as1 (as2 (as4 ap1)) qO⟩
theorem HY:Lk 9 An:=ls Iq (aC B8 (aC Ds (aC Dr (aC pG aN))))
def ii(a0 a1 a2:Int):f_:=bif(decide (a0>=a1))then(some ((decide (a0<=a2)),()))else some (false,())
def zw:X.Cfg:=⟨E0,[],[],[]⟩
def r9:Ctr:=⟨101,147,yak,[],[⟨zab,[.one],[]⟩],ap3 ii⟩
theorem zq:Lk 1 r9:=ls zw aN
def kv(a0 a1 a2 a3:Int):f_:=bif(a0==0)then(bif(a2==0)then(some ((a3==0),()))else some (false,()))else bif(a0==2)then(bif(a2==0)then(some ((a3==0),()))else some (false,()))else bif(a0==1)then((bif(a2==(-1))then(bif(decide (a3>=0))then(some ((decide (a3<=65535)),a0,a1,a2,a3,()))else some (false,a0,a1,a2,a3,()))else some (false,a0,a1,a2,a3,()):Option (T0R)).bind λ(x0,_,x2,x3,x4,_)=>bif(x2==0)then(bif x0 then(some (true,()))else bif(decide (x3>=0))then(bif(decide (x3<4))then(bif(decide (x4>=0))then(some ((decide (x4<32)),()))else some (false,()))else some (false,()))else some (false,()))else some (false,()))else some (false,())
def DE:X.Cfg:=⟨E0,[],[],[⟨7,0,qE,[(.normal,qS [zaa 1,Xaa 3] [(4,yag)])]⟩]⟩
def rI:Ctr:=⟨87,148,[.agg yag],[],[⟨zab,[.one],[]⟩],ap4 kv⟩
theorem wi:Lk 1 rI:=ls DE aN
def nO(a0 a1 a2 a3:Int):f_:=
(kv a0 a1 a2 a3).bind λ(x0,_)=>some ((!x0),())
def zx:X.Cfg:=⟨E0,[rI],[],[]⟩
def sb:Ctr:=⟨119,149,[.agg yag],[],[⟨zab,[.one],[]⟩],ap4 nO⟩
theorem zr:Lk 2 sb:=ls zx (aC wi aN)
def iZ:T0n->Option (T0n⊕((Int×Unit)⊕T0F)):=λ(v0,v1,v2,_)=>bif(decide (v2<v1))then((gj v2).bind λx0=>
(fU v0 x0).bind λx1=>
(nO x1.1 x1.2.1 x1.2.2.1 x1.2.2.2).bind λ(x2,_)=>bif x2 then(some (.inr (.inl (v2,()))))else let x3:=w64 (v2+1);some (.inl (v0,v1,x3,())))else some (.inr (.inr (v0,v1,v2,false,())))
def iJ(a0:LDCn):h_:=let x0:=f6 a0.length;
(match gc iZ NN (a0,x0,0,())with
|none=>none
|some (.inl (x1,_))=>some (x1,())
|some (.inr (_,_))=>some ((-1),()))
def rZ:X.Cfg:=⟨E0,[sb],[],[⟨3,0,(qS (sP 0 gk::(1,.fn 119 [])::il [7,8]) []),[(.ret,qS [Uaa 4] []),(.exit 0,(qS [sP 0 gk,(1,.fn 119 []),Uaa 7,Uaa 8,Xaa 9] []))]⟩]⟩
def mE:Ctr:=⟨143,150,[shU gk,.fn 119 []],[],[⟨yac,[.one],[]⟩],ap1 iJ⟩
theorem rX:Lk 3 mE:=ls rZ (aC zr aN)
def i3(a0:LDCn):f_:=
(iJ a0).bind λ(x0,_)=>some ((decide (x0>=0)),())
def qq:X.Cfg:=⟨E0,[mE],[],[]⟩
def lm:Ctr:=⟨118,151,[shU gk,.fn 119 []],[],[⟨zab,[.one],[]⟩],ap1 i3⟩
theorem qp:Lk 4 lm:=ls qq (aC rX aN)
def jx(a0:LDCn)(a1:Int):f_:=let x0:=f6 a0.length;bif(decide (x0<=a1))then((i3 a0).bind λ(x1,_)=>some ((!x1),()))else some (false,())
def Ch:X.Cfg:=⟨E0,[lm],[],[]⟩
def qy:Ctr:=⟨88,152,uL [gk,I64],[],[⟨zab,[.one],[]⟩],ap2 jx⟩
theorem uy:Lk 5 qy:=ls Ch (aC qp aN)
def mI(a0 a1 a2 a3 a4 a5:Int)(a6 a7:LDCn):f_:=
(ii a0 0 3).bind λ(x0,_)=>bif x0 then((ii a1 0 3).bind λ(x1,_)=>bif x1 then((ii a2 0 6).bind λ(x2,_)=>bif x2 then((ii a3 0 1099511627776).bind λ(x3,_)=>bif x3 then((ii a4 0 255).bind λ(x4,_)=>bif x4 then((ii a5 0 15).bind λ(x5,_)=>bif x5 then((jx a6 3).bind λ(x6,_)=>bif x6 then((jx a7 16).bind λ(x7,_)=>some (x7,()))else some (false,()))else some (false,()))else some (false,()))else some (false,()))else some (false,()))else some (false,()))else some (false,())
def Cg:X.Cfg:=⟨E0,[r9,qy],[],[]⟩
def uO:Ctr:=⟨65,153,[.agg zac],[],[⟨zab,[.one],[]⟩],as1 (as2 (as4 ap1)) mI⟩
theorem BU:Lk 6 uO:=ls Cg (aC zq (aC uy aN))
def qc(a0:Int):Option (ByteArray×T01):=let x0:ByteArray:=(bytes []);
(bif(a0==0)then(some (a0,true,()))else bif(a0==8)then(some (a0,true,()))else bif(a0==9)then(some (a0,true,()))else bif(a0==11)then(some (a0,true,()))else some (a0,(a0==12),()):Option (T01)).bind λ(x1,x2,_)=>bif x2 then(let x3:ByteArray:=(bytes [78]);some (x3,0,true,()))else bif(x1==1)then(let x3:ByteArray:=(bytes [72,80,78]);some (x3,1,true,()))else bif(x1==2)then(let x3:ByteArray:=(bytes [72,80,78]);some (x3,2,true,()))else bif(x1==3)then(let x3:ByteArray:=(bytes [78,78]);some (x3,0,true,()))else bif(x1==4)then(let x3:ByteArray:=(bytes [72]);some (x3,0,true,()))else bif(x1==5)then(let x3:ByteArray:=(bytes [72,78]);some (x3,0,true,()))else
(bif(x1==6)then(some (x1,true,()))else bif(x1==7)then(some (x1,true,()))else some (x1,(x1==15),()):Option (T01)).bind λ(x3,x4,_)=>bif x4 then(let x5:ByteArray:=(bytes []);some (x5,0,true,()))else bif(x3==10)then(let x5:ByteArray:=(bytes [78,88]);some (x5,0,true,()))else bif(x3==13)then(let x5:ByteArray:=(bytes [78,80,78]);some (x5,1,true,()))else bif(x3==14)then(let x5:ByteArray:=(bytes [78,80,78]);some (x5,2,true,()))else let x5:ByteArray:=(bytes []);some (x5,0,false,())
def Cf:X.Cfg:=⟨E0,[],[],[⟨3,0,qE,[(.normal,qS [Uaa 5,Xaa 6] [])]⟩,⟨19,1,qE,[(.normal,qS [Uaa 5,Xaa 22] [])]⟩]⟩
def qx:Ctr:=⟨102,154,yac,[],[⟨uL [.str,I64,.bool],[.one,.one,.one],[]⟩],ap1 qc⟩
theorem ux:Lk 1 qx:=ls Cf aN
def mr(a0:Int):h_:=
(qc a0).bind λ(x0,_,x2,_)=>bif(!x2)then(some ((-1),()))else let x3:=BB x0;some (x3,())
def w9:X.Cfg:=⟨E0,[qx],[],[]⟩
def qz:Ctr:=⟨66,155,yac,[],[⟨yac,[.one],[]⟩],ap1 mr⟩
theorem wX:Lk 2 qz:=ls w9 (aC ux aN)
def oj(a0 a1 a2 a3:Int)(a4:LDCn)(a5:Int)(a6:Bool):f_:=
(kv a0 a1 a2 a3).bind λ(x0,_)=>bif x0 then((jx a4 16).bind λ(x1,_)=>bif x1 then(bif(decide (a5>=(-1)))then(some ((decide (a5<4)),()))else some (false,()))else some (false,()))else some (false,())
def DX:X.Cfg:=⟨E0,[rI,qy],[],[]⟩
def wK:Ctr:=⟨53,156,[.agg Zad],[],[⟨zab,[.one],[]⟩],as2 (as4 ap1) oj⟩
theorem Dv:Lk 6 wK:=ls DX (aC wi (aC uy aN))
def pz(a0:LDIn)(a1:LI)(a2:LLI)(a3:LI)(a4:Int)(a5:LDCe)(a6:LDLn)(a7:LDTh)(a8 a9 ek eu eF eH:Int)(eJ eM:LDCn)(eQ eU eX eZ:Int)(fc:LDCn)(ff:Int)(fi:Bool):f_:=
(qO a0 a1 a2 a3 a4 a5 a6 a7).bind λ(x0,_)=>bif x0 then((mI a8 a9 ek eu eF eH eJ eM).bind λ(x1,_)=>bif x1 then(bif(a9==1)then(let x2:Int:=(f6 eJ.length);
(mr eH).bind λ(x3,_)=>bif(x2==x3)then((oj eQ eU eX eZ fc ff fi).bind λ(x4,_)=>bif x4 then((gj a8).bind λx5=>
(fU a7 x5).bind λx6=>some ((x6.1==2),()))else some (false,()))else some (false,()))else some (false,()))else some (false,()))else some (false,())
def GA:X.Cfg:=⟨E0,[An,uO,qz,wK],[],[]⟩
def yI:Ctr:=⟨39,157,[.agg yab,.agg Xac,.agg zac,.agg Zad],[],[⟨zab,[.one],[]⟩],as2 (as4 (as8 (as8 ap1))) pz⟩
theorem FE:Lk 10 yI:=ls GA (aC HY (aC BU (aC wX (aC Dv aN))))
def kE(a0:LI):Option (LI×Unit):=bif(gl 8 0 a0.length)then let x0:v_:=(List.append [] a0);some (x0,())else none
def xY:X.Cfg:=⟨E0,[],[],[]⟩
def ro:Ctr:=⟨103,158,uL [RI],[],[⟨Zae,[.one],[]⟩],ap1 kE⟩
theorem xL:Lk 1 ro:=ls xY aN
def sE(a0:LI)(a1:Int):Option (T08):=
(kE a0).bind λ(x0,_)=>some (x0,a1,())
def Gw:X.Cfg:=⟨E0,[ro],[],[]⟩
def yF:Ctr:=⟨67,159,[.agg Uab],[],[⟨Xaj,[.agg 2],[]⟩],ap2 sE⟩
theorem FB:Lk 2 yF:=ls Gw (aC xL aN)
def ic(a0:LDCe):Option (LDCe×Unit):=bif(gl 4 0 a0.length)then let x0:LDCe:=(List.append [] a0);some (x0,())else none
def w8:X.Cfg:=⟨E0,[],[],[]⟩
def j3:Ctr:=⟨69,160,uL [ig],[],[⟨uL [(uaa KCe)],[.one],[]⟩],ap1 ic⟩
theorem mu:Lk 1 j3:=ls w8 aN
def jS(a0:LDLn):Option (LDLn×Unit):=bif(gl 40 0 a0.length)then let x0:LDLn:=(List.append [] a0);some (x0,())else none
def w7:X.Cfg:=⟨E0,[],[(5,Sr),(7,Sr)],[]⟩
def qw:Ctr:=⟨104,161,uL [i8],[],[⟨uL [(uaa Wy)],[.one],[]⟩],ap1 jS⟩
theorem wW:Lk 1 qw:=ls w7 aN
def mo:T1E->Option (T1E⊕(Int×Int×Bool×T15)):=λ(v0,v1,v2,v3,v4,v5,v6,_)=>bif(decide (v1<v0))then((gj v1).bind λx0=>
(fU v5 x0).bind λ_=>bif(iO v6 x0 x0)then(fU v5 x0).bind λx2=>
(ic x2.2.2).bind λ(x3,_)=>
(gj v1).bind λx4=>
(fU v5 x4).bind λ_=>
(fU v5 x4).bind λ_=>bif(Nat.beq x4 v6)then let x7:Int:=(w64 (v1+1));some (.inl (v0,x7,v2,v3,v4,(v5.modify x4 λe=>(e.1,(e.2.1,x3))),(Nat.add v6 1),()))else none else none)else some (.inr (v0,v1,false,v2,v3,v4,v5,v6,()))
def pt(a0:LDCe)(a1:LDLn):Option (T06):=
(ic a0).bind λ(x0,_)=>
(jS a1).bind λ(x1,_)=>let x2:=f6 x1.length;
(gc mo NN (x2,0,(),(),x0,x1,0,())).bind λ(_,_,_,_,_,x8,x9,ac,_)=>bif(Nat.beq ac x9.length)then some (x8,x9,())else none
def Gt:X.Cfg:=⟨E0,[j3,qw],[],[(lx 4 0 (zl [2,3]++(14,.pk ⟨8,1,[]⟩ [0,0])::il [15,16]) [(6,uac),(8,[shU (uaa KCe),.half Sr () ()])] 17)]⟩
def yC:Ctr:=⟨68,162,[.agg yaf],[],[⟨zad,[.agg 2],[]⟩],ap2 pt⟩
theorem Fy:Lk 2 yC:=ls Gt (aC mu (aC wW aN))
def jG:T3a->Option (T3a⊕T3h):=λ(v0,v1,v2,v3,v4,v5,v6,v7,v8,v9,eq,eE,eG,eI,eK,eO,eS,eW,_)=>bif(decide (v2<v1))then((gj v2).bind λx0=>
(fU v0 x0).bind λx1=>
(ic x1.2.1).bind λ(x2,_)=>let x3:LDTh:=[(x1.1,(x2,(x1.2.2.1,(x1.2.2.2.1,(x1.2.2.2.2.1,(x1.2.2.2.2.2.1,(x1.2.2.2.2.2.2.1,x1.2.2.2.2.2.2.2)))))))];bif(gl 80 eW.length x3.length)then let x4:LDTh:=(List.append eW x3);let x5:=w64 (v2+1);some (.inl (v0,v1,x5,v3,v4,v5,v6,v7,v8,v9,eq,eE,eG,eI,eK,eO,eS,x4,()))else none)else some (.inr (v0,v1,v2,false,v3,v4,v5,v6,v7,v8,v9,eq,eE,eG,eI,eK,eO,eS,eW,()))
def ky(a0:LI)(a1:Int)(a2:LDCe)(a3:LDLn)(a4:LDTh):Option (T12):=
(sE a0 a1).bind λ(x0,x1,_)=>
(pt a2 a3).bind λ(x2,x3,_)=>let x4:=f6 a4.length;
(gc jG NN (a4,x4,0,a0,a1,a2,a3,a4,(),0,(),(),(),x0,x1,x2,x3,[],())).bind λ(_,_,_,_,_,_,_,_,_,_,_,_,_,_,an)=>some (an)
def DR:X.Cfg:=⟨E0,[yF,yC,j3],[(27,Sq),(28,Sq)],[(lx 4 0 (zl [2,3]++sP 14 oQ::il [15,16]) [(4,Xac),(6,Zab),(8,Xah)] 17)]⟩
def wE:Ctr:=⟨40,163,[.agg Xac],[],[⟨Xah,[.agg 5],[]⟩],ap5 ky⟩
theorem Dq:Lk 3 wE:=ls DR (aC FB (aC Fy (aC mu aN)))
def sq(a0:Int)(a1:LDCe)(a2 a3 a4 a5 a6 a7:Int):Option (T1X):=
(ic a1).bind λ(x0,_)=>some (a0,x0,a2,a3,a4,a5,a6,a7,())
def FN:X.Cfg:=⟨E0,[j3],[],[]⟩
def yi:Ctr:=⟨70,164,[.agg Xae],[],[⟨Zaf,[.agg 8],[]⟩],as1 (as2 (as4 ap1)) sq⟩
theorem Fe:Lk 2 yi:=ls FN (aC mu aN)
def t9(a0:Int)(a1:LDCe)(a2 a3 a4 a5 a6 a7 a8 a9:Int):Option (T1X):=
(sq a0 a1 a2 a3 a4 a5 a6 a7).bind λ(_,x1,x2,x3,x4,x5,_)=>some (4,x1,x2,x3,x4,x5,a8,a9,())
def Ip:X.Cfg:=⟨E0,[yi],[],[]⟩
def Am:Ctr:=⟨41,165,[.agg Xae,shU I64,shU CW],[],[⟨Zaf,[.agg 8],[]⟩],as1 (as8 ap1) t9⟩
theorem HX:Lk 3 Am:=ls Ip (aC Fe aN)
def mJ(a0:LI)(a1 a2:Int):f_:=bif(decide (a1>=0))then(let x0:Int:=(f6 a0.length);bif(decide (a1<x0))then(bif(decide (a2>=0))then((gj a1).bind λx1=>
(fU a0 x1).bind λx2=>some ((decide (a2<x2)),()))else some (false,()))else some (false,()))else some (false,())
def Ci:X.Cfg:=⟨E0,[],[],[]⟩
def qA:Ctr:=⟨105,166,[shU RI,.agg uad],[],[⟨zab,[.one],[]⟩],ap3 mJ⟩
theorem uz:Lk 1 qA:=ls Ci aN
def qj(a0:LI)(a1 a2 a3 a4:Int):f_:=bif(a1==0)then(bif(a3==0)then(some ((a4==0),()))else some (false,()))else bif(a1==2)then(bif(a3==0)then(some ((a4==0),()))else some (false,()))else bif(a1==1)then(bif(a2==0)then((mJ a0 a3 a4).bind λ(x0,_)=>some (x0,()))else some (false,()))else some (false,())
def Cu:X.Cfg:=⟨E0,[qA],[],[]⟩
def vg:Ctr:=⟨71,167,[shU RI,.agg yag],[],[⟨zab,[.one],[]⟩],ap5 qj⟩
theorem B9:Lk 2 vg:=ls Cu (aC uz aN)
def oY(a0:LI)(a1:Int)(a2:LI)(a3 a4:Int):Option (T02):=
(mJ a2 a3 a4).bind λ(x0,_)=>bif(!x0)then(some (0,6,()))else let x1:=f6 a0.length;bif(decide (a3>=x1))then(some (0,6,()))else
(gj a3).bind λx2=>
(fU a0 x2).bind λx3=>let x4:=w64 (x3+a4);some (x4,0,())
def AZ:X.Cfg:=⟨E0,[qA],[],[]⟩
def tQ:Ctr:=⟨72,168,[.agg Uab,shU RI,.agg uad],[],[⟨uad,[.one,.one],[]⟩],ap5 oY⟩
theorem AU:Lk 2 tQ:=ls AZ (aC uz aN)
def jj(a0:LI)(a1:Int)(a2:LI)(a3 a4 a5 a6:Int):Option (T0g):=
(qj a2 a3 a4 a5 a6).bind λ(x0,_)=>bif(!x0)then(some (0,0,1,()))else
(match(bif(a3==2)then(let x1:Int:=(wk .u16 (a4+a1));some (.inl (0,0,a3,x1,())))else bif(a3==1)then((oY a0 a1 a2 a5 a6).bind λ(x1,x2,_)=>bif(x2 != 0)then(some (.inr (1,0,0,())))else let x3:=wk .u16 x1;some (.inl (0,0,a3,x3,())))else some (.inl (0,0,a3,a4,())):Option (T0z⊕T0g))with
|none=>none
|some (.inl (_,_,x3,x4,_))=>some (x3,x4,0,())
|some (.inr (x1,x2,x3,_))=>some (x2,x3,x1,()))
def IZ:X.Cfg:=⟨E0,[vg,tQ],[],[⟨5,0,qE,[(.normal,qS (zl [6,8]) [(14,Xab),(18,Xab)]),(.ret,qS uav [(14,Xab)])]⟩]⟩
def ru:Ctr:=⟨42,169,[.agg Uab,shU RI,.agg yag],[],[⟨yai,[.agg 2,.one],[]⟩],as2 (as4 ap1) jj⟩
theorem uC:Lk 3 ru:=ls IZ (aC B9 (aC AU aN))
def oR(a0:Int):h_:=
(qc a0).bind λ(_,x1,x2,_)=>bif(!x2)then(some ((-1),()))else some (x1,())
def AX:X.Cfg:=⟨E0,[qx],[],[]⟩
def tO:Ctr:=⟨73,170,yac,[],[⟨yac,[.one],[]⟩],ap1 oR⟩
theorem AS:Lk 2 tO:=ls AX (aC ux aN)
def oH(a0:Int)(a1:LDCe)(a2:LDLn):Option (T0m):=
(gj a0).bind λx0=>
(fU a2 x0).bind λ_=>
(fU a2 x0).bind λx2=>
(fU a2 x0).bind λx3=>
(bif x2.2.1 then(bif(decide (x2.1>=0))then(let x4:Int:=(w64 (x2.1+1));let x5:=w64 (x4*4);let x6:=f6 a1.length;some ((decide (x5<=x6)),a1,a2,x0,x2.1,x2.2.1,x3.2.2,()))else some (false,a1,a2,x0,x2.1,x2.2.1,x3.2.2,()))else some (false,a1,a2,x0,x2.1,x2.2.1,x3.2.2,()):Option (Bool×LDCe×LDLn×Nat×Int×Bool×LDCe×Unit)).bind λ(x4,x5,x6,x7,x8,_,ac,_)=>bif x4 then(let ae:Int:=(w64 (x8*4));
(gj ae).bind λaf=>bif(iO af x5.length x5.length)then bif(iO af (Nat.add af (Nat.min ac.length (Nat.sub x5.length af))) x5.length)then bif(Nat.blt 0 (Nat.min ac.length (Nat.sub x5.length af)))then(let ag:LDCe:=(qk x5 af (Nat.min ac.length (Nat.sub x5.length af)) ac);let ah:=(f6 (Nat.min ac.length (Nat.sub x5.length af)));some (ag,x6,x7,()))else let ag:=(f6 (Nat.min ac.length (Nat.sub x5.length af)));some (x5,x6,x7,())else none else none)else some (x5,x6,x7,())
def IY:X.Cfg:=⟨E0,[],[],[⟨1,0,qE,[(.normal,(qS [zaa 0,zaa 4,Xaa 30] [(2,[shU (uaa KCe),.gap Sr () () 2]),(10,uL [I64,.bool,(uaa KCe)])]))]⟩]⟩
def AE:Ctr:=⟨137,171,[.ptr ⟨2,0,[]⟩ [0],shU I64],[(2,zad)],[⟨[],[],[(2,[shU (uaa KCe),.gap Sr () () 2])]⟩],ap3 oH⟩
theorem Ii:Lk 1 AE:=ls IY aN
def px(a0:Int)(a1:LDCe)(a2:LDLn):Option (T0w⊕(Nat×T0w)):=
(bif(decide (a0<0))then(some (a0,true,a1,a2,()))else bif(decide (a0>=512))then(some (a0,true,a1,a2,()))else let x0:=f6 a1.length;bif(x0 != 512)then(some (a0,true,a1,a2,()))else let x1:=f6 a2.length;some (a0,(x1 != 4),a1,a2,()):Option (T0w)).bind λ(x0,x1,x2,x3,_)=>bif x1 then(some (.inl (0,false,x2,x3,())))else let x4:=w64 (Int.tdiv x0 4);let x5:=Int.tmod x4 4;
((gj x5).bind λx6=>
(fU x3 x6).bind λ_=>
(fU x3 x6).bind λx8=>bif(x8.1 != x4)then((oH x5 x2 x3).bind λ(x9,ac,ae,_)=>let af:=w64 (x4*4);let ag:=w64 (x4+1);let ah:=w64 (ag*4);
(gj af).bind λai=>
(gj ah).bind λaj=>bif(iO ai aj x9.length)then bif(gl 4 0 (List.length (nG x9 ai (Nat.sub aj ai))))then let ak:LDCe:=(List.append [] (nG x9 ai (Nat.sub aj ai)));
(gj x5).bind λam=>
(fU ac am).bind λ_=>
(fU ac am).bind λ_=>bif(Nat.beq am ae)then let aq:LDLn:=(ac.modify am λe=>(x4,(false,ak)));some (x0,x5,x9,aq,())else none else none else none)else
(gj x5).bind λx9=>
(fU x3 x9).bind λ_=>
(fU x3 x9).bind λ_=>
(fU x3 x9).bind λaf=>let ag:=f6 af.2.2.length;bif(ag != 4)then((oH x5 x2 x3).bind λ(ah,ai,aj,_)=>let ak:=w64 (x4*4);let am:=w64 (x4+1);let an:=w64 (am*4);
(gj ak).bind λap=>
(gj an).bind λaq=>bif(iO ap aq ah.length)then bif(gl 4 0 (List.length (nG ah ap (Nat.sub aq ap))))then let av:LDCe:=(List.append [] (nG ah ap (Nat.sub aq ap)));
(gj x5).bind λax=>
(fU ai ax).bind λ_=>
(fU ai ax).bind λ_=>bif(Nat.beq ax aj)then let aA:LDLn:=(ai.modify ax λe=>(x4,(false,av)));some (x0,x5,ah,aA,())else none else none else none)else some (x0,x5,x2,x3,()):Option (T0A)).bind λ(x6,x7,x8,x9,_)=>
(gj x7).bind λac=>
(fU x9 ac).bind λ_=>let af:=Int.tmod x6 4;some (.inr (ac,af,true,x8,x9,()))
def Gv:X.Cfg:=⟨E0,[AE],[],[⟨2,0,qE,[(.normal,qS [zaa 0,Uaa 1,Xaa 30] [(2,zad)])]⟩,⟨6,1,qE,[(.normal,qS (zaa 0::il [1,8]) [(2,zad)])]⟩]⟩
def yE:Ctr:=⟨106,172,[.ptr ⟨2,0,[]⟩ [0],shU I64],[(2,zad)],[⟨[.k (.pointer none),shU I64,shU .bool],[.one,.one,.one],[(2,zad)]⟩,⟨[.ptr ⟨2,1,[((),(3,0))]⟩ [0,0],shU I64,shU .bool],[.ptr,.one,.one],[(2,zad)]⟩],ap3 px⟩
theorem FA:Lk 2 yE:=ls Gv (aC Ii aN)
def pu(a0 a1 a2:Int)(a3:LDCe)(a4:LDLn):Option (T0e):=
(match px a0 a3 a4 with
|none=>none
|some (.inl (_,x1,x2,x3,_))=>
(bif x1 then(none)else some (x1,x2,x3,()):Option (T0e)).bind λ(x4,x5,x6,_)=>some (x4,x5,x6,())
|some (.inr (x0,x1,x2,x3,x4,_))=>
(bif x2 then((fU x4 x0).bind λ_=>
(gj x1).bind λx6=>
(fU x4 x0).bind λx7=>
(fU x7.2.2 x6).bind λ_=>
(fU x4 x0).bind λx9=>
(fU x9.2.2 x6).bind λ_=>let ae:=x4.modify x0 λe=>(e.1,(e.2.1,(e.2.2.modify x6 λe=>(a1,a2))));
(fU ae x0).bind λ_=>let ag:=ae.modify x0 λe=>(e.1,(true,e.2.2));some (x2,x3,ag,()))else some (x2,x3,x4,()):Option (T0e)).bind λ(x5,x6,x7,_)=>some (x5,x6,x7,()))
def Gu:X.Cfg:=⟨E0,[yE],[],[⟨2,0,qE,[(.normal,qS [zaa 0,Xaa 9] [(2,zad)])]⟩]⟩
def yD:Ctr:=⟨74,173,[.ptr ⟨2,0,[]⟩ [0],shU I64,.agg Xab],[(2,zad)],[⟨zab,[.one],[(2,zad)]⟩],ap5 pu⟩
theorem Fz:Lk 3 yD:=ls Gu (aC FA aN)
def oZ:T3v->Option (T3v⊕((Bool×LI×T0i)⊕(LDCn×Int×Int×Bool×T3s))):=λ(v0,v1,v2,v3,v4,v5,v6,v7,v8,v9,eq,eE,eG,eI,eK,eO,eS,eW,eY,fa,fe,fh,fj,fm,fr,_)=>bif(decide (v2<v1))then((gj v2).bind λx0=>
(fU v0 x0).bind λx1=>
(fU eS 1).bind λx2=>let x3:=w64 (x2.2.2.2+v2);
(jj v3 v4 v8 x2.1 x2.2.1 x2.2.2.1 x3).bind λ(x4,x5,x6,_)=>
(jj v3 v4 v8 x1.1 x1.2.1 x1.2.2.1 x1.2.2.2).bind λ(x7,x8,x9,_)=>
(bif(x2.1 != 1)then(some (v0,v1,v2,true,v3,v4,v5,v6,v7,v8,v9,eq,eE,eG,eI,eK,eO,eS,eW,eY,fa,fe,fh,fj,fm,fr,x4,x5,x7,x8,()))else bif(x6 != 0)then(some (v0,v1,v2,true,v3,v4,v5,v6,v7,v8,v9,eq,eE,eG,eI,eK,eO,eS,eW,eY,fa,fe,fh,fj,fm,fr,x4,x5,x7,x8,()))else some (v0,v1,v2,(x9 != 0),v3,v4,v5,v6,v7,v8,v9,eq,eE,eG,eI,eK,eO,eS,eW,eY,fa,fe,fh,fj,fm,fr,x4,x5,x7,x8,()):Option (LDCn×Int×Int×Bool×LI×Int×LDCe×LDLn×T3r)).bind λ(ac,ae,af,ag,ah,ai,aj,ak,am,an,ap,aq,av,ax,ay,az,aA,aB,aD,aE,aF,aG,aH,aI,aJ,aK,_,aM,aO,aP,_)=>bif ag then(some (.inr (.inl (false,ah,ai,aj,ak,()))))else let aQ:=wk .i64 aM;
(pu aQ aO aP aj ak).bind λ(_,aS,aT,_)=>let aU:=w64 (af+1);some (.inl (ac,ae,aU,ah,ai,aS,aT,am,an,ap,aq,av,ax,ay,az,aA,aB,aD,aE,aF,aG,aH,aI,aJ,aK,())))else some (.inr (.inr (v0,v1,v2,false,v3,v4,v5,v6,v7,v8,v9,eq,eE,eG,eI,eK,eO,eS,eW,eY,fa,fe,fh,fj,fm,fr,())))
def pA(a0:LDIn)(a1:LI)(a2:LLI)(a3 a4 a5 a6 a7 a8:Int)(a9 ek:LDCn)(eu eF eH eJ:Int)(eM:LDCn)(eQ:Int)(eU:Bool)(eX:LI)(eZ:Int)(fc:LDCe)(ff:LDLn):Option (Bool×LI×T0i):=
(oR a8).bind λ(x0,_)=>bif(x0 != 2)then(some (true,eX,eZ,fc,ff,()))else let x1:=f6 eM.length;
(match gc oZ NN (eM,x1,0,eX,eZ,fc,ff,a0,a1,a2,a3,a4,a5,a6,a7,a8,a9,ek,eu,eF,eH,eJ,eM,eQ,eU,())with
|none=>none
|some (.inl (x2,x3,x4,x5,x6,_))=>some (x2,x3,x4,x5,x6,())
|some (.inr (_,_,_,_,x6,x7,x8,x9,_))=>some (true,x6,x7,x8,x9,()))
def GB:X.Cfg:=⟨E0,[tO,ru,yD],[],[⟨16,0,qE,[(.normal,qS (zl [1,4,6,12,14]++sP 21 gk::il [22,23]++[Xaa 69]) [(4,uai),(10,yab),(14,zac),(16,Zad),(26,Xab),(30,Xab)])]⟩,⟨6,1,qS (zl [1,4,6]++sP 21 gk::il [22,23]) yat,[(.ret,qS zau [(4,uai)]),(.exit 0,qS (zl [1,4,6]++sP 21 gk::il [22,23]++[Xaa 24]) yat)]⟩]⟩
def yJ:Ctr:=⟨43,174,[.agg yab,.ptr ⟨4,0,[]⟩ [0],.agg zac,.agg Zad],[(4,uai)],[⟨zab,[.one],[(4,uai)]⟩],as1 (as4 (as8 (as8 ap1))) pA⟩
theorem FF:Lk 4 yJ:=ls GB (aC AS (aC uC (aC Fz aN)))
def vZ:Option (T1X):=bif(xJ 8 8 2)then let x0:LDCe:=(List.replicate 8 (0,0));some (0,x0,0,0,(-1),(-1),0,0,())else none
def DY:X.Cfg:=⟨E0,[],[],[]⟩
def wL:Ctr:=⟨138,175,[],[],[⟨Zaf,[.agg 8],[]⟩],λh=>vZ⟩
theorem Dw:Lk 1 wL:=ls DY aN
def vU:Option (T1X):=
(vZ).bind λ(x0)=>some (x0)
def DC:X.Cfg:=⟨E0,[wL],[],[]⟩
def wu:Ctr:=⟨107,176,[],[],[⟨Zaf,[.agg 8],[]⟩],λh=>vU⟩
theorem Dh:Lk 2 wu:=ls DC (aC Dw aN)
def t8(a0 a1 a2:Int):Option (T1X):=
(vU).bind λ(_,x1,_,x3)=>
(fU x1 0).bind λ_=>
(fU x1 0).bind λ_=>let ac:=x1.modify 0 λe=>(a1,a2);some (1,ac,a0,x3)
def Io:X.Cfg:=⟨E0,[wu],[],[]⟩
def Al:Ctr:=⟨75,177,[shU I64,.agg Xab],[],[⟨Zaf,[.agg 8],[]⟩],ap3 t8⟩
theorem HW:Lk 3 Al:=ls Io (aC Dh aN)
def oi(a0:LDIn)(a1:LI)(a2:LLI)(a3 a4 a5 a6 a7 a8:Int)(a9 ek:LDCn)(eu eF eH eJ:Int)(eM:LDCn)(eQ:Int)(eU:Bool)(eX:LI)(eZ:Int)(fc:LDCe)(ff:LDLn)(fi:LDTh):Option (T18):=bif(a8==10)then((match(bif(!(eQ != (-1)))then(bif(a8 != 12)then(some (.inl (true,eX,eZ,fc,ff,fi,())))else some (.inr ((eQ != (-1)),false,eX,eZ,fc,ff,fi,a0,a1,a2,a3,a4,a5,a6,a7,a8,a9,ek,eu,eF,eH,eJ,eM,eQ,eU,())))else some (.inr ((eQ != (-1)),false,eX,eZ,fc,ff,fi,a0,a1,a2,a3,a4,a5,a6,a7,a8,a9,ek,eu,eF,eH,eJ,eM,eQ,eU,())):Option (T18⊕T3u))with
|none=>none
|some (.inl (x0,x1,x2,x3,x4,x5,_))=>some (x0,x1,x2,x3,x4,x5,())
|some (.inr (x0,_,x2,x3,x4,x5,x6,_,x8,_,ac,_,_,_,_,_,aj,_,_,_,_,_,_,ax,_,_))=>
(fU aj 0).bind λaz=>bif(az.1 != 0)then(some (false,x2,x3,x4,x5,x6,()))else bif(decide (az.2.1>255))then(some (false,x2,x3,x4,x5,x6,()))else bif(!x0)then(let aA:Int:=(wk .i64 az.2.1);
(gj ac).bind λaB=>
(fU x6 aB).bind λ_=>
(fU x6 aB).bind λ_=>let aF:=x6.modify aB λe=>(e.1,(e.2.1,(e.2.2.1,(e.2.2.2.1,(aA,e.2.2.2.2.2)))));some (true,x2,x3,x4,x5,aF,()))else
(fU aj 1).bind λaA=>
(jj x2 x3 x8 aA.1 aA.2.1 aA.2.2.1 aA.2.2.2).bind λ(aB,aD,aE,_)=>bif(aE != 0)then(some (false,x2,x3,x4,x5,x6,()))else
(gj ax).bind λaF=>
(fU x6 aF).bind λ_=>
(fU x6 aF).bind λaH=>bif(aH.1 != 0)then(some (false,x2,x3,x4,x5,x6,()))else let aI:=wk .i64 az.2.1;
(t8 aI aB aD).bind λ(aJ,aK,aL,aM,aO,aP,aQ,aR,_)=>
(gj ax).bind λaS=>
(fU x6 aS).bind λ_=>
(fU x6 aS).bind λ_=>let aV:=x6.modify aS λe=>(aJ,(aK,(aL,(aM,(aO,(aP,(aQ,aR)))))));some (true,x2,x3,x4,x5,aV,())))else
(match(bif(a8 != 12)then(some (.inl (true,eX,eZ,fc,ff,fi,())))else some (.inr (false,false,eX,eZ,fc,ff,fi,a0,a1,a2,a3,a4,a5,a6,a7,a8,a9,ek,eu,eF,eH,eJ,eM,eQ,eU,())):Option (T18⊕T3u))with
|none=>none
|some (.inl (x0,x1,x2,x3,x4,x5,_))=>some (x0,x1,x2,x3,x4,x5,())
|some (.inr (x0,_,x2,x3,x4,x5,x6,_,x8,_,ac,_,_,_,_,_,aj,_,_,_,_,_,_,ax,_,_))=>
(fU aj 0).bind λaz=>bif(az.1 != 0)then(some (false,x2,x3,x4,x5,x6,()))else bif(decide (az.2.1>255))then(some (false,x2,x3,x4,x5,x6,()))else bif(!x0)then(let aA:Int:=(wk .i64 az.2.1);
(gj ac).bind λaB=>
(fU x6 aB).bind λ_=>
(fU x6 aB).bind λ_=>let aF:=x6.modify aB λe=>(e.1,(e.2.1,(e.2.2.1,(e.2.2.2.1,(aA,e.2.2.2.2.2)))));some (true,x2,x3,x4,x5,aF,()))else
(fU aj 1).bind λaA=>
(jj x2 x3 x8 aA.1 aA.2.1 aA.2.2.1 aA.2.2.2).bind λ(aB,aD,aE,_)=>bif(aE != 0)then(some (false,x2,x3,x4,x5,x6,()))else
(gj ax).bind λaF=>
(fU x6 aF).bind λ_=>
(fU x6 aF).bind λaH=>bif(aH.1 != 0)then(some (false,x2,x3,x4,x5,x6,()))else let aI:=wk .i64 az.2.1;
(t8 aI aB aD).bind λ(aJ,aK,aL,aM,aO,aP,aQ,aR,_)=>
(gj ax).bind λaS=>
(fU x6 aS).bind λ_=>
(fU x6 aS).bind λ_=>let aV:=x6.modify aS λe=>(aJ,(aK,(aL,(aM,(aO,(aP,(aQ,aR)))))));some (true,x2,x3,x4,x5,aV,()))
def DW:X.Cfg:=⟨E0,[ru,Al],[],[⟨2,0,qE,[(.ret,⟨[zaa 1,Xaa 8],[(4,Xah)],[((4,(5,0)),1),((4,(4,1)),0),((4,(0,0)),0)],([],[])⟩),(.normal,⟨[zaa 1,zaa 4,zaa 6,zaa 7,Xaa 9,Xaa 27],[(4,Xah),(10,yab),(14,zac),(16,Zad)],[((4,(5,0)),1),((4,(4,1)),0),((4,(0,0)),0)],([],[])⟩)]⟩]⟩
def wJ:Ctr:=⟨44,178,[.agg yab,.ptr ⟨4,0,[]⟩ [0],.agg zac,.agg Zad],[(4,Xah)],[⟨zab,[.one],[(4,Xah),(4,[.dead,.dead,.dead,.dead,.dead])]⟩],as2 (as4 (as8 (as8 ap1))) oi⟩
theorem Du:Lk 4 wJ:=ls DW (aC uC (aC HW aN))
def lc(a0:LDIn)(a1:LI)(a2:LLI)(a3:LI)(a4:Int)(a5:LDCe)(a6:LDLn)(a7:LDTh)(a8 a9 ek eu eF eH:Int)(eJ eM:LDCn)(eQ eU eX eZ:Int)(fc:LDCn)(ff:Int)(fi:Bool):Option (T1n):=
(pz a0 a1 a2 a3 a4 a5 a6 a7 a8 a9 ek eu eF eH eJ eM eQ eU eX eZ fc ff fi).bind λ(x0,_)=>bif(!x0)then((ky a3 a4 a5 a6 a7).bind λ(x1,x2,x3,x4,x5,_)=>some (x1,x2,x3,x4,x5,false,()))else
(ky a3 a4 a5 a6 a7).bind λ(x1,x2,x3,x4,x5,_)=>
(gj a8).bind λx6=>
(fU x5 x6).bind λ_=>bif(eH==0)then((fU x5 x6).bind λx8=>
(fU eJ 0).bind λx9=>
(fU x5 x6).bind λac=>
(t9 x8.1 ac.2.1 x8.2.2.1 x8.2.2.2.1 x8.2.2.2.2.1 x8.2.2.2.2.2.1 x8.2.2.2.2.2.2.1 x8.2.2.2.2.2.2.2 0 x9.2.1).bind λ(ae,af,ag,ah,ai,aj,ak,am,_)=>
(fU x5 x6).bind λ_=>let ap:=x5.modify x6 λe=>(ae,(af,(ag,(ah,(ai,(aj,(ak,am)))))));some (x1,x2,x3,x4,ap,true,()))else bif fi then((fU x5 x6).bind λ_=>let x9:=x5.modify x6 λe=>(3,e.2);some (x1,x2,x3,x4,x9,true,()))else
(jj a3 a4 a1 eQ eU eX eZ).bind λ(x8,x9,ac,_)=>
(bif(ac != 0)then(some (x6,true,a3,a4,a5,a6,a7,a8,a9,ek,eu,eF,eH,eJ,eM,(),0,(),(),(),x1,x2,x3,x4,x5,x8,x9,()))else
(pA a0 a1 a2 a8 a9 ek eu eF eH eJ eM eQ eU eX eZ fc ff fi x1 x2 x3 x4).bind λ(ae,af,ag,ah,ai,_)=>bif(!ae)then(some (x6,true,a3,a4,a5,a6,a7,a8,a9,ek,eu,eF,eH,eJ,eM,(),0,(),(),(),af,ag,ah,ai,x5,x8,x9,()))else
(oi a0 a1 a2 a8 a9 ek eu eF eH eJ eM eQ eU eX eZ fc ff fi af ag ah ai x5).bind λ(aj,ak,am,an,ap,aq,_)=>
(fU aq x6).bind λ_=>some (x6,(!aj),a3,a4,a5,a6,a7,a8,a9,ek,eu,eF,eH,eJ,eM,(),0,(),(),(),ak,am,an,ap,aq,x8,x9,()):Option (Nat×Bool×LI×Int×LDCe×LDLn×LDTh×Int×Int×Int×Int×Int×Int×LDCn×LDCn×Unit×Int×Unit×Unit×Unit×T1K)).bind λ(ae,af,ag,ah,ai,aj,ak,_,_,_,_,_,_,_,_,_,_,_,_,_,aG,aH,aI,aJ,aK,aL,aM,_)=>bif af then((ky ag ah ai aj ak).bind λ(aO,aP,aQ,aR,aS,_)=>some (aO,aP,aQ,aR,aS,false,()))else
(fU aK ae).bind λ_=>
(fU aK ae).bind λaP=>
(fU aP.2.1 0).bind λ_=>
(fU aK ae).bind λaR=>
(fU aR.2.1 0).bind λ_=>let aT:=aK.modify ae λe=>(e.1,((e.2.1.modify 0 λe=>(aL,aM)),e.2.2));
(fU aT ae).bind λ_=>let aV:=aT.modify ae λe=>(1,e.2);some (aG,aH,aI,aJ,aV,true,())
def I3:X.Cfg:=⟨E0,[yI,wE,Am,ru,yJ,wJ],[],[⟨15,0,qE,[(.normal,(qS (zl [5,8,10]++[(11,.ptr ⟨22,4,[((),(8,0))]⟩ [0,0]),zaa 12,Xaa 77]) [(12,Xac),(14,zac),(18,Zab),(22,Xah),(26,Xab)]))]⟩]⟩
def vj:Ctr:=⟨16,179,[.agg yab,.agg Xac,.agg zac,.agg Zad],[],[⟨uL [(uaa I64),CW,(uaa KCe),iB,oQ,.bool],[.agg 5,.one],[]⟩],as2 (as4 (as8 (as8 ap1))) lc⟩
theorem Ac:Lk 11 vj:=ls I3 (aC FE (aC Dq (aC HX (aC uC (aC FF (aC Du aN))))))
def iU:f_:=let x0:LDIn:=[(23,(0,(0,(0,2))))];
(m7 x0 [4] [[]] [3] 0).bind λ(x1,x2,x3,x4,x5,_,_)=>
(fU x5 0).bind λ_=>
(fU x5 0).bind λ_=>let x9:=x5.modify 0 λe=>(2,e.2);let ac:LDCn:=[(2,(0,(0,0))),(1,(0,(0,1))),(0,(2,(0,0)))];let ae:LDCn:=[(0,(8,(0,0))),(0,(9,(0,0)))];
(lc x0 [4] [[]] x1 x2 x3 x4 x9 0 1 0 0 0 2 ac [] 0 2 0 0 ae (-1) false).bind λ(af,ag,ah,ai,aj,ak,_)=>bif(!ak)then(some (false,()))else let am:=f6 aj.length;bif(am != 4)then(some (false,()))else
(jf x0 [4] [[]] af ag ah ai aj).bind λ(an,ap,_)=>
(fU an 0).bind λ_=>
(fU an 0).bind λ_=>
(fU an 0).bind λax=>
(fU ax 1).bind λ_=>
(fU an 0).bind λaz=>
(fU az 1).bind λaA=>bif(aA.2.1==8)then((fU an 0).bind λ_=>
(fU an 0).bind λ_=>
(fU an 0).bind λaE=>
(fU aE 2).bind λ_=>
(fU an 0).bind λaG=>
(fU aG 2).bind λaH=>bif(aH.2.1==9)then((fU ap 0).bind λ_=>
(fU ap 0).bind λ_=>
(fU ap 0).bind λaK=>
(fU aK.2.2.2.2.2.2.2 0).bind λ_=>
(fU ap 0).bind λaM=>
(fU aM.2.2.2.2.2.2.2 0).bind λaO=>bif(aO.2.1==2)then((fU ap 0).bind λ_=>
(fU ap 0).bind λaQ=>some ((aQ.1==1),()))else some (false,()))else some (false,()))else some (false,())
def Gx:X.Cfg:=⟨E0,[s9,vj,pR],[(11,(uaa CW))],[]⟩
def yG:Ctr:=⟨15,180,[],[],[⟨zab,[.one],[]⟩],λh=>iU⟩
theorem FC:Lk 12 yG:=ls Gx (aC xQ (aC Ac (aC sN aN)))
def uj:T46->Option (T46⊕((Bool×Unit)⊕(Int×Bool×T43))):=λ(v0,v1,v2,v3,v4,v5,v6,v7,v8,v9,eq,eE,eG,eI,eK,eO,eS,eW,eY,fa,fe,fh,fj,fm,fr,fv,fw,fA,fB,fC,fD,fE,fF,fG,fH)=>bif(decide (v0<8))then((gj v0).bind λx0=>
(fU fv x0).bind λx1=>
(gj v0).bind λx2=>
(fU fG x2).bind λx3=>bif(!((x1.1==x3.1)&&((x1.2==x3.2)&&true)))then(some (.inr (.inl (false,()))))else let x4:=w64 (v0+1);some (.inl (x4,v1,v2,v3,v4,v5,v6,v7,v8,v9,eq,eE,eG,eI,eK,eO,eS,eW,eY,fa,fe,fh,fj,fm,fr,fv,fw,fA,fB,fC,fD,fE,fF,fG,fH)))else some (.inr (.inr (v0,false,v1,v2,v3,v4,v5,v6,v7,v8,v9,eq,eE,eG,eI,eK,eO,eS,eW,eY,fa,fe,fh,fj,fm,fr,fv,fw,fA,fB,fC,fD,fE,fF,fG,fH)))
def K4(a0:LI):f_:=
(kZ a0 0).bind λ(x0,x1,x2,x3,x4,x5,x6,x7,x8,x9,ac,ae,af,ag,ah,ai,aj,ak,am,an,ap,aq,av,_)=>
(lc x0 x1 x2 x3 x4 x5 x6 x7 x8 x9 ac ae af ag ah ai aj ak am an ap aq av).bind λ(az,aA,aB,aD,aE,aF,_)=>bif(!aF)then((iU).bind λ(aG,_)=>some (aG,()))else
(iS x0 x1 x2 az aA aB aD aE).bind λ(aG,_)=>bif(!aG)then(some (false,()))else
(gj x8).bind λaH=>
(fU x7 aH).bind λaI=>
(gj x8).bind λaJ=>
(fU aE aJ).bind λaK=>
(match gc uj NN (1,x0,x1,x2,x8,x9,ac,ae,af,ag,ah,ai,aj,ak,am,an,ap,aq,av,az,aA,aB,aD,aE,aI.1,aI.2.1,aI.2.2.1,aI.2.2.2.1,aI.2.2.2.2.1,aI.2.2.2.2.2.1,aI.2.2.2.2.2.2.1,aI.2.2.2.2.2.2.2,aK.1,aK.2.1,aK.2.2.1,aK.2.2.2.1,aK.2.2.2.2.1,aK.2.2.2.2.2.1,aK.2.2.2.2.2.2.1,aK.2.2.2.2.2.2.2,())with
|none=>none
|some (.inl (aL,_))=>some (aL,())
|some (.inr (_,_,_,aP,_,_,_,_,_,_,aW,_,_,ba,bc,bd,be,_,_,bh,bi,bj,_,_,_,_,bp,bq,bt,_,_,_,_,bC,bD,bE,bF,_))=>bif(aW==0)then((fU bp 0).bind λbK=>
(fU bD 0).bind λbL=>bif((bK.1==bL.1)&&((bK.2==bL.2)&&true))then(bif(bC != 1)then(bif(bq==bE)then((iU).bind λ(bM,_)=>some (bM,()))else some (false,()))else some (false,()))else some (false,()))else bif bh then((fU bp 0).bind λbK=>
(fU bD 0).bind λbL=>bif((bK.1==bL.1)&&((bK.2==bL.2)&&true))then(bif(bC != 1)then(bif(bq==bE)then((iU).bind λ(bM,_)=>some (bM,()))else some (false,()))else some (false,()))else some (false,()))else bif(bC==1)then((fU bD 0).bind λbK=>
(ji bi bj aP bK.1 bK.2).bind λ(bL,bM,bN,bO,_)=>let bP:Bool:=((bL==ba)&&((bM==bc)&&((bN==bd)&&((bO==be)&&true))));bif bP then(bif(bq==bE)then(bif(bt==bF)then((iU).bind λ(bQ,_)=>some (bQ,()))else some (false,()))else some (false,()))else some (false,()))else some (false,()))
def S7(a0 a1:Int):h_:=bif(a1 != 0)then let x0:Int:=(Int.tmod a0 a1);
(bif(decide (x0<0))then(let x1:Int:=(w64 (x0+a1));some (x1,()))else some (x0,()):h_).bind λ(x1,_)=>some (x1,())else none
def Bz:Int×Int×LDCn×T0h->Option ((Int×Int×LDCn×T0h)⊕((Bool×Unit)⊕T1B)):=λ(v0,v1,v2,v3,v4,v5,_)=>bif(decide (v4<v3))then((match((gj v4).bind λx0=>
(fU v2 x0).bind λx1=>bif(x1.1==1)then(bif(x1.2.2.1==(-1))then(some (.inl (true,())))else some (.inr (v0,v1,v2,v3,v4,false,v5,())))else some (.inr (v0,v1,v2,v3,v4,false,v5,())):Option ((Bool×Unit)⊕T1B))with
|none=>none
|some (.inl (x0,_))=>some (.inr (.inl (x0,())))
|some (.inr (x0,x1,x2,x3,x4,_,x6,_))=>let x7:=w64 (x4+1);some (.inl (x0,x1,x2,x3,x7,x6,()))))else some (.inr (.inr (v0,v1,v2,v3,v4,false,v5,())))
def By:T0h->Option (T0h⊕((Bool×Unit)⊕T0y)):=λ(v0,v1,v2,_)=>bif(decide (v1<v0))then((gj v1).bind λx0=>
(fU v2 x0).bind λ_=>
(fU v2 x0).bind λx2=>let x3:=f6 x2.length;
(match gc Bz NN (v0,v1,x2,x3,0,v2,())with
|none=>none
|some (.inl (x4,_))=>some (.inr (.inl (x4,())))
|some (.inr (x4,x5,_,_,_,_,ac,_))=>let ae:=w64 (x5+1);some (.inl (x4,ae,ac,()))))else some (.inr (.inr (v0,v1,false,v2,())))
def ug(a0:z_)(a1:LDTs):f_:=
(mT a0 a1).bind λ(x0,_)=>let x1:=f6 x0.length;
(match gc By NN (x1,0,x0,())with
|none=>none
|some (.inl (x2,_))=>some (x2,())
|some (.inr (_,_))=>some (false,()))
def IH:X.Cfg:=⟨E0,[s7],[],[⟨12,0,qE,[(.ret,qS zat []),(.normal,qS [Zaa 8 19,Uaa 9,Uaa 10,sP 14 gk,Uaa 15,Uaa 16,Xaa 27] Xan)]⟩,⟨9,1,qS (Zaa 8 19::il [9,10]++sP 14 gk::il [15,16]) Xan,[(.ret,qS zat []),(.exit 2,qS [Zaa 8 19,Uaa 9,Uaa 10,sP 14 gk,Uaa 15,Uaa 16,Xaa 17] Xan)]⟩,⟨3,2,qS (Zaa 8 19::il [9,10]) Xan,[(.ret,qS zat []),(.exit 0,qS [Zaa 8 19,Uaa 9,Uaa 10,Xaa 11] Xan)]⟩]⟩
def Ax:Ctr:=⟨14,191,[.agg Uac],[],[⟨zab,[.one],[]⟩],ap2 ug⟩
theorem Ib:Lk 2 Ax:=ls IH (aC xO aN)
def jt:T0G->Option (T0G⊕((Bool×Unit)⊕(LDCn×T0F))):=λ(v0,v1,v2,v3,_)=>bif(decide (v3<v2))then((gj v3).bind λx0=>
(fU v0 x0).bind λx1=>
(gj v3).bind λx2=>
(fU v1 x2).bind λx3=>let x4:Bool:=(!((x1.1==x3.1)&&((x1.2.1==x3.2.1)&&((x1.2.2.1==x3.2.2.1)&&((x1.2.2.2==x3.2.2.2)&&true)))));bif x4 then(some (.inr (.inl (false,()))))else let x5:=w64 (v3+1);some (.inl (v0,v1,v2,x5,())))else some (.inr (.inr (v0,v1,v2,v3,false,())))
def jF(a0 a1:LDCn):f_:=let x0:=f6 a0.length;let x1:=f6 a1.length;bif(x0 != x1)then(some (false,()))else let x2:=f6 a0.length;
(match gc jt NN (a0,a1,x2,0,())with
|none=>none
|some (.inl (x3,_))=>some (x3,())
|some (.inr (_,_))=>some (true,()))
def zA:X.Cfg:=⟨E0,[],[],[⟨6,0,qS (sP 0 gk::sP 1 gk::il [12,13]) [],[(.ret,qS Uat []),(.exit 0,qS [sP 0 gk,sP 1 gk,Uaa 12,Uaa 13,Xaa 14] [])]⟩]⟩
def sc:Ctr:=⟨48,192,uL [gk,gk],[],[⟨zab,[.one],[]⟩],ap2 jF⟩
theorem zt:Lk 1 sc:=ls zA aN
def mW:T1e->Option (T1e⊕((Bool×Unit)⊕T1u)):=λ(v0,v1,v2,v3,v4,v5,_)=>bif(decide (v1<v0))then((gj v1).bind λx0=>
(fU v2 x0).bind λx1=>
(gj v1).bind λx2=>
(fU v4 x2).bind λx3=>
(jF x1 x3).bind λ(x4,_)=>bif(!x4)then(some (.inr (.inl (false,()))))else let x5:=w64 (v1+1);some (.inl (v0,x5,v2,v3,v4,v5,())))else some (.inr (.inr (v0,v1,false,v2,v3,v4,v5,())))
def mV:T1J->Option (T1J⊕((Bool×Unit)⊕T20)):=λ(v0,v1,v2,v3,v4,v5,v6,_)=>bif(decide (v2<v1))then((gj v2).bind λx0=>
(fU v0 x0).bind λx1=>
(gj v2).bind λx2=>
(fU v6 x2).bind λx3=>
(bif(x1.1 != x3.1)then(some (v0,v1,v2,true,v3,v4,v5,v6,()))else bif(x1.2.1 != x3.2.1)then(some (v0,v1,v2,true,v3,v4,v5,v6,()))else bif(x1.2.2.1 != x3.2.2.1)then(some (v0,v1,v2,true,v3,v4,v5,v6,()))else bif(x1.2.2.2.1 != x3.2.2.2.1)then(some (v0,v1,v2,true,v3,v4,v5,v6,()))else bif(x1.2.2.2.2.1 != x3.2.2.2.2.1)then(some (v0,v1,v2,true,v3,v4,v5,v6,()))else bif(x1.2.2.2.2.2.1 != x3.2.2.2.2.2.1)then(some (v0,v1,v2,true,v3,v4,v5,v6,()))else bif(x1.2.2.2.2.2.2.1 != x3.2.2.2.2.2.2.1)then(some (v0,v1,v2,true,v3,v4,v5,v6,()))else
(jF x1.2.2.2.2.2.2.2 x3.2.2.2.2.2.2.2).bind λ(x4,_)=>some (v0,v1,v2,(!x4),v3,v4,v5,v6,()):Option (T20)).bind λ(x4,x5,x6,x7,x8)=>bif x7 then(some (.inr (.inl (false,()))))else let af:=w64 (x6+1);some (.inl (x4,x5,af,x8)))else some (.inr (.inr (v0,v1,v2,false,v3,v4,v5,v6,())))
def qX(a0:z_)(a1:LDTs)(a2:z_)(a3:LDTs):f_:=let x0:=f6 a0.length;let x1:=f6 a2.length;bif(x0 != x1)then(some (false,()))else let x2:=f6 a1.length;let x3:=f6 a3.length;bif(x2 != x3)then(some (false,()))else let x4:=f6 a0.length;
(match gc mW NN (x4,0,a0,a1,a2,a3,())with
|none=>none
|some (.inl (x5,_))=>some (x5,())
|some (.inr (_,_,_,x8,x9,ac))=>let af:=f6 x9.length;
(match gc mV NN (x9,af,0,x8,x9,ac)with
|none=>none
|some (.inl (ag,_))=>some (ag,())
|some (.inr (_,_))=>some (true,())))
def II:X.Cfg:=⟨E0,[sc],[],[⟨6,0,qS (zl [2,3]++il [27,28]) Zan,[(.ret,qS Uat []),(.exit 0,qS (zl [2,3]++il [27,28]++[Xaa 29]) Zan)]⟩,⟨21,1,qE,[(.normal,qS [zaa 3,sP 45 (yaa pW),Uaa 46,Uaa 47,Xaa 111] Zan)]⟩,⟨15,2,qS (zaa 3::sP 45 (yaa pW)::il [46,47]) Zan,[(.ret,qS Uat []),(.exit 2,qS [zaa 3,sP 45 (yaa pW),Uaa 46,Uaa 47,Xaa 48] Zan)]⟩]⟩
def Ay:Ctr:=⟨18,193,[.agg Uac,.agg Uac],[],[⟨zab,[.one],[]⟩],ap4 qX⟩
theorem Ic:Lk 2 Ay:=ls II (aC zt aN)
def lb(a0:LI)(a1:Int):f_:=
(kZ a0 0).bind λ(x0,x1,x2,x3,x4,x5,x6,x7,x8,x9,ac,ae,af,ag,ah,ai,aj,ak,am,an,ap,aq,av,_)=>
(jf x0 x1 x2 x3 x4 x5 x6 x7).bind λ(az,aA,_)=>
(xw a1 1048576).bind λ(aB,_)=>
(oG x1 aB).bind λ(aD,aE,_,_)=>
(jp x0 x1 x2 x3 x4 az aA).bind λ(aG,aH,aI,aJ,aK,aL,_)=>
(jp x0 x1 x2 aD aE az aA).bind λ(aM,aO,aP,aQ,aR,aS,_)=>bif(!aL)then((ug az aA).bind λ(aT,_)=>bif aT then((iU).bind λ(aU,_)=>some (aU,()))else some (false,()))else bif(!aS)then((ug az aA).bind λ(aT,_)=>bif aT then((iU).bind λ(aU,_)=>some (aU,()))else some (false,()))else
(lc x0 x1 x2 aG aH aI aJ aK x8 x9 ac ae af ag ah ai aj ak am an ap aq av).bind λ(aT,aU,aV,aW,aY,aZ,_)=>
(lc x0 x1 x2 aM aO aP aQ aR x8 x9 ac ae af ag ah ai aj ak am an ap aq av).bind λ(ba,bc,bd,be,bf,bg,_)=>bif(aZ==bg)then((iS x0 x1 x2 aT aU aV aW aY).bind λ(bh,_)=>bif bh then((iS x0 x1 x2 ba bc bd be bf).bind λ(bi,_)=>bif bi then((jf x0 x1 x2 aT aU aV aW aY).bind λ(bj,bk,_)=>
(jf x0 x1 x2 ba bc bd be bf).bind λ(bm,bn,_)=>
(qX bj bk bm bn).bind λ(bo,_)=>bif bo then((iU).bind λ(bp,_)=>some (bp,()))else some (false,()))else some (false,()))else some (false,()))else some (false,())
def uG:X.Cfg:=⟨E0,[vh,pR,GZ,u9,rK,Ax,yG,vj,nD,Ay],[],[]⟩
def oN:Ctr:=⟨3,194,uab,[],[⟨zab,[.one],[]⟩],ap2 lb⟩
theorem k_law14_FinishLayouts:Lk 13 oN:=ls uG (aC Ca (aC sN (aC Ly (aC Ab (aC wm (aC Ib (aC FC (aC Ac (aC pJ (aC Ic aN))))))))))
end
end Go.Proofs.YtabfnmgabblofaaGreat
namespace Go.Proofs.YtabfnmgabblofaaGreat
set_option maxRecDepth 100000
noncomputable section
end
end Go.Proofs.YtabfnmgabblofaaGreat
namespace Go.Proofs.YtabfnmgabblofaaGreat
open Go.RowKit
theorem V5:(Tryz.prog.funcs.all λfn=>!(fn.name== "runtime.NumGoroutine"))=true:=by kernel_rfl
theorem MI:tR Tryz.prog 8:=by
 obtain⟨fn,hf,hb⟩:∃fn,Tryz.prog.funcs[8]?=some fn/\fn.body.isSome=true:=by
  have hs:(match Tryz.prog.funcs[8]? with|some fn=>fn.body.isSome|none=>false)=true:=by kernel_rfl
  cases h:Tryz.prog.funcs[8]? with|none=>rw[h]at hs;cases hs|some fn=>rw[h]at hs;exact⟨fn,rfl,hs⟩
 obtain⟨c,hc⟩:=Option.isSome_iff_exists.1 hb;refine Ji hf ?_ hc;obtain⟨hlt,he⟩:=Array.getElem?_eq_some_iff.1 hf;have:=Array.all_eq_true.1 V5 8 hlt;rw[he]at this;simpa using this
def Uv(x:Value)(w:World)(e:Ending)(w':World):Prop:=e=.returned (.pointer (some ⟨w.heap.size,0,none⟩))/\w'=w.alloc (.cells #[x,.int .i64 0] 79)
theorem TO(x:Value)(hx:x.oneCell'=true)(w:World):Calls Tryz.prog 8 #[x] w (Uv x w):=by
 cases x;all_goals first
  |(go_enter Tryz.func8,Tryz.ntmps8
    go_wp2
    go_ret
    exact⟨rfl,rfl⟩)
  |simp[Value.oneCell']at hx
theorem Vr:Hb Tryz.prog E0:=by
 intro f n tm h;simp only[E0]at h;split at h;rename_i e;subst e;injection h with h
 injection h with h1 h2
 subst h1 h2;refine⟨MI,λx hx=>?_,79,λl2 w hl YN=>?_⟩;simp only[oMC,List.not_mem_nil,or_false]at hx;rcases hx with hx|hx;injection hx;injection hx with hx;rw[hx];rfl
 match l2,hl with| [x],_=>exact TO x (YN x (by simp[bxV])) w
 simp at h
theorem e0_ok:Jz Tryz.prog E0:=R3 Vr
def Ok{α:Type}(o:Option α)(Q:α->Prop):Prop:=∃a,o=some a/\Q a
section
variable {α β:Type}
theorem fR{a:α}{Q:α->Prop}(h:Q a):Ok (some a) Q:=⟨a,rfl,h⟩
theorem Ok.bind{o:Option α}{f:α->Option β}{P:α->Prop}{Q:β->Prop}(h:Ok o P)(h2:∀a,P a->Ok (f a) Q):Ok (o.bind f) Q:=by obtain⟨a,rfl,h1⟩:=h;simp_all
theorem Ok.mono{o:Option α}{P Q:α->Prop}(h:Ok o P)(h2:∀a,P a->Q a):Ok o Q:=by have ⟨a,e,h1⟩:=h;exact⟨a,e,h2 a h1⟩
theorem ge{c:Bool}{a b:Option α}{Q:α->Prop}(h1:c=true->Ok a Q)(h2:c=false->Ok b Q):Ok (bif c then a else b) Q:=by grind
class BP (b:Bool) (P N:outParam Prop):Prop where
 t:b=true->P
 f:b=false->N
instance (priority:=low) bpVar {b:Bool}:BP b (b=true) (b=false):=⟨id,id⟩
instance WK {p:Prop}{i:Decidable p}:BP (@decide p i) p (¬p):=⟨of_decide_eq_true,of_decide_eq_false⟩
instance WX {α:Type}[BEq α][LawfulBEq α]{a b:α}:BP (a==b) (a=b) (¬a=b):=⟨eq_of_beq,λh=>beq_eq_false_iff_ne.1 h⟩
instance WW {α:Type}[BEq α][LawfulBEq α]{a b:α}:BP (a != b) (¬a=b) (a=b):=⟨λh=>bne_iff_ne.1 h,λh=>bne_eq_false_iff_eq.1 h⟩
instance WJ {b:Bool}{P N:Prop}[h:BP b P N]:BP (!b) N P:=⟨λe=>h.f (by simpa using e),λe=>h.t (by simpa using e)⟩
theorem fT{c:Bool}{P N:Prop}[h:BP c P N]{a b:Option α}{Q:α->Prop}(h1:P->Ok a Q)(h2:N->Ok b Q):Ok (bif c then a else b) Q:=by cases hc:c with|true=>exact h1 (h.t hc)|false=>exact h2 (h.f hc)
theorem gT{l:List α}{i:Nat}{f:α->Option β}{Q:β->Prop}(h:i<l.length)(h2:∀a,l[i]?=some a->Ok (f a) Q):Ok ((fU l i).bind f) Q:=by have e:fU l i=some l[i]:=oGE h;simp_all
theorem jv{x:Int}{f:Nat->Option β}{Q:β->Prop}(h:0<=x)(h2:∀n:Nat,x=n->Ok (f n) Q):Ok ((gj x).bind f) Q:=by obtain⟨n,rfl⟩:∃n:Nat,x=n:=⟨x.toNat,by omega⟩;exact h2 n rfl
theorem f7{l:List α}{i:Nat}{f:α->Option β}{Q:β->Prop}(h2:∀a,l[i]?=some a->Ok (f a) Q)(h:i<l.length:=by omega):Ok ((fU l i).bind f) Q:=gT h h2
theorem gV{x:Int}{f:Nat->Option β}{Q:β->Prop}(h2:∀n:Nat,x=n->Ok (f n) Q)(h:0<=x:=by omega):Ok ((gj x).bind f) Q:=jv h h2
theorem Ok.val{v:α}{f:α->Option β}{Q:β->Prop}(h:∀x,x=v->Ok (f x) Q):Ok (f v) Q:=h v rfl
theorem fS{c:Bool}{a b:Option α}{Q:α->Prop}(hc:c=true)(h1:Ok a Q):Ok (bif c then a else b) Q:=by simp_all
theorem gZ{S T:Type}{f:S->Option (S⊕T)}(P:S->Prop)(R:T->Prop)(m:S->Nat){n:Nat}{s:S}(hs:P s)(hm:m s<n) (h:∀s,P s->Ok (f s) λr=>match r with|.inl s'=>P s'/\m s'<m s|.inr t=>R t):Ok (gc f n s) R:=by induction n generalizing s with|zero=>omega|succ n ih=>have ⟨r,e,hr⟩:=h s hs;cases r with|inl s'=>have ⟨t,e2,hq⟩:=ih hr.1 (by omega);exact⟨t,by simp[gc,e];exact e2,hq⟩|inr t=>exact⟨t,by simp[gc,e],hr⟩
theorem gP{S T:Type}{f:S->Option (S⊕T)}{g:T->Option β}{Q:β->Prop}(P:S->Prop)(R:T->Prop)(m:S->Nat){n:Nat}{s:S}(hs:P s)(hm:m s<n)
 (h:∀s,P s->Ok (f s) λr=>match r with|.inl s'=>P s'/\m s'<m s|.inr t=>R t)(hg:∀t,R t->Ok (g t) Q):Ok ((gc f n s).bind g) Q:=(gZ P R m hs hm h).bind hg
end
theorem gD{x:Int}(h1:-9223372036854775808<=x)(h2:x<=9223372036854775807):w64 x=x:=Qm h1 h2
theorem iD{x:Int}(h1:-9223372036854775808<=x:=by omega)(h2:x<=9223372036854775807:=by omega):w64 x=x:=gD h1 h2
theorem fX(n:Nat):gj (n:Int)=some n:=rfl
theorem gh(n:Nat):f6 n=(n:Int):=rfl
theorem fZ{α:Type}{l:List α}{i:Nat}{a:α}(h:l[i]?=some a):a∈l:=List.mem_of_getElem? h
def W16(x:Int):Prop:=0<=x/\x<=65535
theorem gp{x:Int}(h0:0<=x)(h1:x<=65535):wk .u16 x=x:=by unfold wk;rw[xr];omega
theorem gf{x:Int}(h0:-9223372036854775808<=x)(h1:x<=9223372036854775807):wk .i64 x=x:=gD h0 h1
theorem gd{b n m:Nat}(h:b<=1000/\n+m<=1000000):gl b n m=true:=by have:=Nat.mul_le_mul h.2 h.1;simp[gl];omega
structure DOk (l:M_)(k:Int):Prop where
 num:∀x∈l,Ss x
 len:l.length<=maxLen
 lo:0<=k
 hi:k<=l.length
theorem DOk.start{l:M_}(h:∀x∈l,Ss x)(hl:l.length<=maxLen):DOk l 0:=⟨h,hl,by omega,by omega⟩
theorem SF{a b:Int}(ha:Ss a)(hb:0<b)(ZX:b<=9223372036854775807):∃v,ms a b=some (v,())/\0<=v/\v<b:=by
 have hne:(b != 0)=true:=by simp;omega
 have hm:=Int.tmod_lt_of_pos a hb;have hm2:-b<Int.tmod a b:=by have:=Int.tmod_lt_of_pos (-a) hb;rw[Int.neg_tmod]at this;omega
 unfold ms;simp[hne];by_cases h:Int.tmod a b<0;refine⟨Int.tmod a b+b,?_,by omega,by omega⟩;simp[h,decide_true];rw[gD (by omega) (by omega)];refine⟨Int.tmod a b,?_,by omega,hm⟩;simp[h,decide_false,oCF]
section
variable {β:Type} {l:M_} {k n:Int} {Q:β->Prop}
theorem TP{a b:Int}{f:Int×Unit->Option β}(ha:Ss a)(hb:0<b)(ZX:b<=9223372036854775807)(K:∀v,0<=v->v<b->Ok (f (v,())) Q):Ok ((ms a b).bind f) Q:=by have ⟨v,e,h0,h1⟩:=SF ha hb ZX;simp_all
theorem gL{f:Int×M_×Int×Unit->Option β}(h:DOk l k)(hn:0<n)(hn2:n<=9223372036854775807)(K:∀v k',0<=v->v<n->DOk l k'->Ok (f (v,l,k',())) Q):Ok ((fV n l k).bind f) Q:=by
 have hl:=h.len;have hlo:=h.lo;have hmx:maxLen<=9223372036854775807:=by decide
 by_cases hk:k>=(l.length:Int);have e:fV n l k=some (0,l,k,()):=by unfold fV;simp[gh,hk]
 simp_all
 ·obtain⟨j,rfl⟩:∃j:Nat,k=j:=⟨k.toNat,by omega⟩
  have hj:j<l.length:=by omega
  obtain⟨v,hv,h0,h1⟩:=SF (h.num _ (oGX hj)) hn hn2
  have e:fV n l j=some (v,l,(j:Int)+1,()):=by
   unfold fV;delta f6
   try dsimp only
   rw[iD (x:=(j:Int)+1),iD (x:=(j:Int)+1-1)];rw[show(j:Int)+1-1=j by omega,fX];simp[hk,decide_false,oCF,oBS,fU,oGE hj,xw,hv]
  rw[e];exact K v _ h0 h1 ⟨h.num,hl,by omega,by omega⟩
theorem KX{f:Int×M_×Int×Unit->Option β}(h:DOk l k)(K:∀v k',0<=v->v<=65535->DOk l k'->Ok (f (v,l,k',())) Q):Ok ((lf l k).bind f) Q:=by
 have hw:Ok (lf l k) λr=>∃v k',r=(v,l,k',())/\0<=v/\v<=65535/\DOk l k':=by
  unfold lf;refine gL (by assumption) (by omega) (by omega) λv k a b d=>?_;try dsimp only
  refine Ok.bind (P:=λr=>∃b,r=(v,b,l,k,())) ?_ ?_
  ·repeat ((with_reducible refine fT (λhc=>?_) λhc=>?_);· exact fR ⟨_,rfl⟩)
   exact fR ⟨_,rfl⟩
  ·rintro _ ⟨b,rfl⟩;refine ge (λ_=>?_) λ_=>?_
   ·refine gL (by assumption) (by omega) (by omega) λv k a b d=>?_;try dsimp only
    (simp (disch:=omega) only [gD,gp,gf,gh])
    exact fR ⟨_,_,rfl,by omega,by omega,by assumption⟩
   ·refine fT (λhc=>?_) λhc=>?_
    ·refine gL (by assumption) (by omega) (by omega) λv k a b d=>?_;try dsimp only
     (simp (disch:=omega) only [gD,gp,gf,gh])
     exact fR ⟨_,_,rfl,by omega,by omega,by assumption⟩
    ·refine gL (by omega) (by omega) (by omega) λv k a b d=>?_;try dsimp only
     (simp (disch:=omega) only [gD,gp,gf,gh])
     exact fR ⟨_,_,rfl,by omega,by omega,by omega⟩
 refine hw.bind ?_;simp_all
end
def AJ(s:M_):Prop:=1<=s.length/\s.length<=4/\∀x∈s,1<=x/\x<=32
theorem Wz{P:Int->Prop}{a b c:Int}(ha:P a)(hb:P b)(hc:P c):∀x∈[a,b,c],P x:=by simp_all
theorem Qw{l:M_}{k:Int}(h:DOk l k):Ok (q9 l k) λr=>∃s k',r=(s,l,k',())/\AJ s/\DOk l k':=by
 unfold q9;refine gL (by assumption) (by omega) (by omega) λv0 k0 a0 b0 d0=>?_;try dsimp only
 (simp (disch:=omega) only [gD,gp,gf,gh])
 refine gL (by assumption) (by omega) (by omega) λv1 k1 a1 b1 d1=>?_;try dsimp only
 refine gP (P:=λ((c,l',k',s,_):Int×M_×Int×M_×Unit)=>l'=l/\DOk l k'/\0<=c/\c+s.length<=4/\1<=s.length/\∀x∈s,1<=x/\x<=32)
  (R:=λ((_,_,l',k',s,_):Int×Bool×M_×Int×M_×Unit)=>l'=l/\DOk l k'/\AJ s) (m:=λs=>s.1.toNat) ⟨rfl,d1,a1,by simp;omega,by simp,by simp;omega⟩ (by unfold NN;dsimp only;omega) ?_ ?_
 ·rintro⟨c,l',k3,s,_⟩ ⟨rfl,XF,hc0,hcs,hs1,hs⟩;dsimp only at *;unfold ul;dsimp only;refine fT (λhc=>?_) λhc=>?_
  ·refine gL (by assumption) (by omega) (by omega) λv2 k2 a2 b2 d2=>?_;try dsimp only
   refine jv (by omega) λj hj=>?_;try dsimp only
   have ZB:∀x∈[(6:Int),12,32],6<=x/\x<=32:=by simp_all
   refine gT (by simp;omega) λa ha=>?_;refine gT (by simp;omega) λb hb=>?_;have h7:=ZB b (fZ hb)
   refine gL (by assumption) (by omega) (by omega) λv3 k3 a3 b3 d3=>?_;try dsimp only
   (simp (disch:=omega) only [gD,gp,gf,gh])
   refine fS (gd (by simp;omega)) ?_;refine fR ⟨⟨rfl,by assumption,by omega,?_,?_,?_⟩,?_⟩
   ·simp;omega
   ·simp
   ·intro x hx;simp at hx;rcases hx with hx|rfl
    ·exact hs x hx
    ·omega
   ·dsimp only;omega
  ·exact fR ⟨rfl,XF,hs1,by dsimp only;omega,hs⟩
 rintro⟨a,b,l',k3,s,_⟩ ⟨rfl,XF,hs⟩;exact fR ⟨_,_,rfl,hs,XF⟩
def tW(op:Int):Bool:=!(op==18||op==23||op==0||op==24)
def tV(op:Int):Bool:=!(op==18||op==23||op==0||op==24||op==1||op==15||op==19||op==20||op==21||op==22)
def tU(op:Int):Bool:=!(op==18||op==23||op==0||op==24||op==1||op==15||op==19||op==20||op==21||op==22||op==2||op==16||op==17)
def tT(op:Int):Bool:=op==1||op==15||op==19||op==20||op==21||op==16||op==17||op==18||op==23
def nX(op:Int):Bool:=op==18||op==19||op==20||op==21
theorem JD{op:Int}(h0:0<=op)(h1:op<=24):kW op=some (tW op,tV op,tU op,tT op,()):=by
 obtain⟨n,rfl⟩:∃n:Nat,op=n:=⟨op.toNat,by omega⟩;have hn:n<25:=by omega
 have key:∀n:Fin 25,(kW ((n.val:Nat):Int)).map (λx=>(x.1,x.2.1,x.2.2.1,x.2.2.2.1))=some (tW (n.val:Nat),tV (n.val:Nat),tU (n.val:Nat),tT (n.val:Nat)):=by decide
 have:=key ⟨n,hn⟩;cases h:kW (n:Int)with|none=>simp_all|some x=>obtain⟨a,b,c,d,_⟩:=x;simp_all
theorem wZ(op:Int):iW op=some (nX op,()):=by unfold iW nX;grind
structure ko (n m:Int)(i:DIn):Prop where
 op:0<=i.1/\i.1<=24
 a:0<=i.2.1/\i.2.1<8/\(tW i.1=false->i.2.1=0)
 b:0<=i.2.2.1/\i.2.2.1<8/\(tV i.1=false->i.2.2.1=0)
 c:0<=i.2.2.2.1/\i.2.2.2.1<8/\(tU i.1=false->i.2.2.2.1=0)
 imm:0<=i.2.2.2.2/\i.2.2.2.2<=65535/\(tT i.1=false->i.2.2.2.2=0)
 lea:i.1=15->i.2.2.2.2<n
 sys:i.1=23->i.2.2.2.2<=15
 jmp:nX i.1=true->i.2.2.2.2<m
theorem ins_mk{n m o a b c i:Int}(ho:0<=o/\o<=24)(ha:0<=a/\a<8)(hb:0<=b/\b<8)(hc:0<=c/\c<8)(hi:0<=i/\i<=65535)(hA:tW o=true\/a=0)(hB:tV o=true\/b=0)(hC:tU o=true\/c=0)(hI:tT o=true\/i=0)
 (hl:o=15->i<n)(hs:o=23->i<=15)(hj:nX o=true->i<m):ko n m (o,a,b,c,i):=
 ⟨ho,⟨ha.1,ha.2,λh=>hA.elim (λh'=>by simp_all) id⟩,⟨hb.1,hb.2,λh=>hB.elim (λh'=>by simp_all) id⟩,
  ⟨hc.1,hc.2,λh=>hC.elim (λh'=>by simp_all) id⟩,⟨hi.1,hi.2,λh=>hI.elim (λh'=>by simp_all) id⟩,hl,hs,hj⟩
theorem HS{n m r v:Int}(h:0<=r/\r<8)(hv:0<=v/\v<=65535):ko n m (1,r,0,0,v):=ins_mk (by decide) h (by decide) (by decide) hv (.inl (by decide)) (.inr rfl) (.inr rfl) (.inl (by decide)) (by omega) (by omega) (λh=>absurd h (by decide))
theorem J0{n m r v:Int}(h:0<=r/\r<8)(hv:0<=v/\v<8):ko n m (2,r,v,0,0):=ins_mk (by decide) h hv (by decide) (by decide) (.inl (by decide)) (.inl (by decide)) (.inr rfl) (.inr rfl) (by omega) (by omega) (λh=>absurd h (by decide))
theorem BA{n m v:Int}(hv:0<=v/\v<=15):ko n m (23,0,0,0,v):=ins_mk (by decide) (by decide) (by decide) (by decide) (by omega) (.inr rfl) (.inr rfl) (.inr rfl) (.inl (by decide)) (by omega) (by omega) (λh=>absurd h (by decide))
theorem J4{n m r v:Int}(h:0<=r/\r<8)(hv:0<=v/\v<n)(hn:n<=4):ko n m (15,r,0,0,v):=ins_mk (by decide) h (by decide) (by decide) (by omega) (.inl (by decide)) (.inr rfl) (.inr rfl) (.inl (by decide)) (by omega) (by omega) (λh=>absurd h (by decide))
theorem NH{n m o a b v:Int}(ho:o=16\/o=17)(h:0<=a/\a<8)(hb:0<=b/\b<8)(hv:0<=v/\v<=65535):ko n m (o,a,b,0,v):=by rcases ho with rfl|rfl;all_goals exact ins_mk (by decide) h hb (by decide) hv (.inl (by decide)) (.inl (by decide)) (.inr rfl) (.inl (by decide)) (by omega) (by omega) (λh=>absurd h (by decide))
theorem JW{n m o a b c:Int}(ho:3<=o/\o<=14)(h:0<=a/\a<8)(hb:0<=b/\b<8)(hc:0<=c/\c<8):ko n m (o,a,b,c,0):=ins_mk (by omega) h hb hc (by decide) (.inl (by unfold tW;simp;omega)) (.inl (by unfold tV;simp;omega)) (.inl (by unfold tU;simp;omega)) (.inr rfl) (by omega) (by omega) (λh=>by unfold nX at h;simp at h;omega)
theorem TY{n m v:Int}(hv:0<=v/\v<=65535)(hm:v<m):ko n m (18,0,0,0,v):=ins_mk (by decide) (by decide) (by decide) (by decide) hv (.inr rfl) (.inr rfl) (.inr rfl) (.inl (by decide)) (by omega) (by omega) (λ_=>hm)
theorem TA{n m:Int}:ko n m (24,0,0,0,0):=ins_mk (by decide) (by decide) (by decide) (by decide) (by decide) (.inr rfl) (.inr rfl) (.inr rfl) (.inr rfl) (by omega) (by omega) (λh=>absurd h (by decide))
theorem ko.mono{n m m':Int}{i:DIn}(h:ko n m i)(hm:m<=m'):ko n m' i:=⟨h.op,h.a,h.b,h.c,h.imm,h.lea,h.sys,λhj=>by have:=h.jmp hj;omega⟩
theorem Kf{n m a v:Int}(h:0<=a/\a<8)(hv:0<=v/\v<=65535)(hm:v<m):ko n m (20,a,0,0,v):=ins_mk (by decide) h (by decide) (by decide) hv (.inl (by decide)) (.inr rfl) (.inr rfl) (.inl (by decide)) (by omega) (by omega) (λ_=>hm)
theorem Ry{n XB k:Int}{l:M_}(h:DOk l k)(hn:1<=n/\n<=4)(hm:1<=XB/\XB<=100):Ok (ra n XB l k) λr=>∃o a b c i k',r=(o,a,b,c,i,l,k',())/\ko n XB (o,a,b,c,i)/\DOk l k':=by
 unfold ra;refine gL (by assumption) (by omega) (by omega) λv0 k0 a0 b0 d0=>?_;try dsimp only
 rw[JD (by omega) (by omega)];simp only[oBS];refine Ok.bind (P:=λr=>∃x k',r=(n,XB,l,k',0,0,0,0,0,v0,x,0,0,0,tW v0,tV v0,tU v0,tT v0,())/\0<=x/\x<8/\(tW v0=false->x=0)/\DOk l k') ?_ ?_
 ·refine ge (λhc=>?_) λhc=>fR ⟨_,_,rfl,by omega,by omega,λ_=>rfl,d0⟩
  refine gL (by assumption) (by omega) (by omega) λv1 k1 a1 b1 d1=>?_;try dsimp only
  exact fR ⟨_,_,rfl,a1,b1,(λhh=>by rw[hc]at hh;cases hh),d1⟩
 rintro _ ⟨xa,k1,rfl,Xi,YG,X0,d1⟩;dsimp only;refine Ok.bind (P:=λr=>∃x k',r=(n,XB,l,k',0,0,0,0,0,v0,xa,x,0,0,tW v0,tV v0,tU v0,tT v0,())/\0<=x/\x<8/\(tV v0=false->x=0)/\DOk l k') ?_ ?_
 ·refine ge (λhc=>?_) λhc=>fR ⟨_,_,rfl,by omega,by omega,λ_=>rfl,d1⟩
  refine gL (by assumption) (by omega) (by omega) λv2 k2 a2 b2 d2=>?_;try dsimp only
  exact fR ⟨_,_,rfl,a2,b2,(λhh=>by rw[hc]at hh;cases hh),d2⟩
 rintro _ ⟨xb,k2,rfl,hb0,ZM,ZX,d2⟩;dsimp only;refine Ok.bind (P:=λr=>∃x k',r=(n,XB,l,k',0,0,0,0,0,v0,xa,xb,x,0,tW v0,tV v0,tU v0,tT v0,())/\0<=x/\x<8/\(tU v0=false->x=0)/\DOk l k') ?_ ?_
 ·refine ge (λhc=>?_) λhc=>fR ⟨_,_,rfl,by omega,by omega,λ_=>rfl,d2⟩
  refine gL (by assumption) (by omega) (by omega) λv3 k3 a3 b3 d3=>?_;try dsimp only
  exact fR ⟨_,_,rfl,a3,b3,(λhh=>by rw[hc]at hh;cases hh),d3⟩
 rintro _ ⟨xc,k3,rfl,hc0,ZO,ZK,d3⟩;dsimp only;rw[wZ];simp only[oBS];refine Ok.bind (P:=λr=>∃x k',r=(l,k',0,0,0,0,0,v0,xa,xb,xc,x,())/\0<=x/\x<=65535/\(tT v0=false->x=0)/\(v0=15->x<n)/\(v0=23->x<=15)/\(nX v0=true->x<XB)/\DOk l k') ?_ ?_
 ·refine ge (λhj=>?_) λhj=>?_
  ·refine gL (by assumption) (by omega) (by omega) λv4 k4 a4 b4 d4=>?_;try dsimp only
   have hne:v0≠15/\v0≠23:=by constructor<;>(rintro rfl;exact absurd hj (by decide))
   exact fR ⟨_,_,rfl,a4,by omega,(λhh=>by
    have:tT v0=true:=by unfold nX at hj;unfold tT;simp at hj⊢;omega
    rw[this]at hh;cases hh),by omega,by omega,λ_=>b4,d4⟩
  ·refine fT (λhc5=>?_) λhc5=>?_
   ·subst hc5
    refine gL (by assumption) (by omega) (by omega) λv4 k4 a4 b4 d4=>?_;try dsimp only
    exact fR ⟨_,_,rfl,a4,by omega,λhh=>absurd hh (by decide),by omega,by omega,λhh=>absurd hh (by decide),d4⟩
   ·refine fT (λhc6=>?_) λhc6=>?_
    ·subst hc6
     refine gL (by assumption) (by omega) (by omega) λv4 k4 a4 b4 d4=>?_;try dsimp only
     exact fR ⟨_,_,rfl,a4,by omega,λhh=>absurd hh (by decide),by omega,by omega,λhh=>absurd hh (by decide),d4⟩
    ·refine ge (λhu=>?_) λhu=>?_
     ·refine KX (by assumption) λv4 k4 a4 b4 d4=>?_;try dsimp only
      (simp (disch:=omega) only [gD,gp,gf,gh])
      exact fR ⟨_,_,rfl,a4,by omega,(λhh=>by rw[hu]at hh;cases hh),by omega,by omega,(λhh=>by rw[show nX v0=false from hj]at hh;cases hh),d4⟩
     ·exact fR ⟨_,_,rfl,by omega,by omega,λ_=>rfl,by omega,by omega,(λhh=>by rw[show nX v0=false from hj]at hh;cases hh),d3⟩
 rintro _ ⟨xi,k4,rfl,hi0,Xr,Xs,hi3,hi4,hi5,d4⟩;exact fR ⟨_,_,_,_,_,_,rfl,⟨⟨a0,by dsimp only;omega⟩,⟨Xi,YG,X0⟩,⟨hb0,ZM,ZX⟩,⟨hc0,ZO,ZK⟩,⟨hi0,Xr,Xs⟩,hi3,hi4,hi5⟩,d4⟩
theorem pY{α β:Type}{l:List α}{i:Nat}{f:α->Option β}{Q:β->Prop}(P:α->Prop)(h:i<l.length)(hP:∀x∈l,P x)(h2:∀a,P a->Ok (f a) Q):Ok ((fU l i).bind f) Q:=gT h λa ha=>h2 a (hP a (fZ ha))
theorem gy{α:Type}{P:α->Prop}:∀x∈([]:List α),P x:=λ_ h=>by cases h
theorem all_cons{α:Type}{P:α->Prop}{a:α}{l:List α}(h:P a)(h2:∀x∈l,P x):∀x∈a::l,P x:=by simp_all
theorem Va(a b:Int):kY a b=some (1,a,0,0,b,()):=rfl
theorem U7(a b:Int):po a b=some (2,a,b,0,0,()):=rfl
theorem Sz(a:Int):jU a=some (23,0,0,0,a,()):=rfl
theorem WF{x:Int}(h:1<=x):1<=mmR false 5 x/\mmR false 5 x<=5:=by unfold mmR;simp;omega
def L1(n at_:Int)(l:M_)(r:F_×M_×Int×Unit):Prop:=∃xs k',r=(xs,l,k',())/\1<=xs.length/\xs.length<=6/\(∀i∈xs,ko n (at_+xs.length) i)/\DOk l k'
theorem E5{n at_:Int}{l:M_}{xs:F_}{k:Int}(h1:1<=xs.length/\xs.length<=6)(h2:∀i∈xs,ko n (at_+xs.length) i)(h3:DOk l k):Ok (some (xs,l,k,())) (L1 n at_ l):=fR ⟨xs,k,rfl,h1.1,h1.2,h2,h3⟩
theorem RU{s l:M_}{at_ k:Int}(h:DOk l k)(hs:AJ s)(ha:0<=at_/\at_<=99):Ok (sG s (at_+1) at_ l k) (L1 s.length at_ l):=by
 obtain⟨hs1,Xc,hsz⟩:=hs
 have hn:1<=(s.length:Int)/\(s.length:Int)<=4:=by omega
 unfold sG;delta f6;simp only[Va,U7,Sz,oBS]
 refine gL (by assumption) (by omega) (by omega) λvr kr ar br dr=>?_;try dsimp only
 refine gV λj hj=>?_;refine pY (λa=>1<=a/\a<=32) (by omega) hsz λz hz=>?_
 (simp (disch:=omega) only [gD,gp,gf,gh])
 have h5:=WF (x:=z+1) (by omega);generalize mmR false 5 (z+1)=mm at h5
 refine gL (by assumption) (by omega) (by omega) λvu ku au bu du=>?_;try dsimp only
 refine gL (by assumption) (by omega) (by omega) λvw kw aw bw dw=>?_;try dsimp only
 iterate 19
  refine fT (λhcc=>?_) λhcc=>?_
  ·repeat (first|(simp (disch:=omega) only [gD,gp,gf,gh])|(with_reducible refine gL (by assumption) (by omega) (by omega) (λv k a b d=>?_);try dsimp only)|(with_reducible refine KX (by assumption) (λv k a b d=>?_);try dsimp only)|(with_reducible refine jv (by omega) (λj hj=>?_);try dsimp only)|((with_reducible first|refine pY (λa=>1<=a/\a<=32) (by omega) (by assumption) (λe he=>?_)|refine pY (λa=>3<=a/\a<=14) (by simp only[oLC,oLN];omega) (by(first|exact(all_cons (by omega) (all_cons (by omega) gy))|exact(all_cons (by omega) (all_cons (by omega) (all_cons (by omega) gy)))|exact(all_cons (by omega) (all_cons (by omega) (all_cons (by omega) (all_cons (by omega) (all_cons (by omega) (all_cons (by omega) (all_cons (by omega) (all_cons (by omega) gy)))))))))) (λe he=>?_)|refine pY (λa=>0<=a/\a<=15) (by simp only[oLC,oLN];omega) (by(first|exact(all_cons (by omega) (all_cons (by omega) gy))|exact(all_cons (by omega) (all_cons (by omega) (all_cons (by omega) gy)))|exact(all_cons (by omega) (all_cons (by omega) (all_cons (by omega) (all_cons (by omega) (all_cons (by omega) (all_cons (by omega) (all_cons (by omega) (all_cons (by omega) gy)))))))))) (λe he=>?_)|refine pY (λa=>1<=a/\a<=100) (by simp only[oLC,oLN];omega) (by(first|exact(all_cons (by omega) (all_cons (by omega) gy))|exact(all_cons (by omega) (all_cons (by omega) (all_cons (by omega) gy)))|exact(all_cons (by omega) (all_cons (by omega) (all_cons (by omega) (all_cons (by omega) (all_cons (by omega) (all_cons (by omega) (all_cons (by omega) (all_cons (by omega) gy)))))))))) (λe he=>?_));try dsimp only)|(with_reducible refine fS (gd (by first|omega|simp)) ?_;try dsimp only)|(refine pY (λ(a:F_)=>(1<=a.length/\a.length<=6)/\∀i∈a,ko s.length (at_+a.length) i) (by simp only[oLC,oLN];omega) (all_cons ⟨by simp,by((repeat' (first|exact gy|refine all_cons ?_ ?_|exact HS (by omega) (by omega)|exact J0 (by omega) (by omega)|exact BA (by omega)|exact J4 (by omega) (by omega) (by omega)|exact NH (by omega) (by omega) (by omega) (by omega)|exact JW (by omega) (by omega) (by omega) (by omega)|exact Kf (by omega) (by omega) (by simp only[oLC,oLN];omega)));done)⟩ (all_cons ⟨by simp,by((repeat' (first|exact gy|refine all_cons ?_ ?_|exact HS (by omega) (by omega)|exact J0 (by omega) (by omega)|exact BA (by omega)|exact J4 (by omega) (by omega) (by omega)|exact NH (by omega) (by omega) (by omega) (by omega)|exact JW (by omega) (by omega) (by omega) (by omega)|exact Kf (by omega) (by omega) (by simp only[oLC,oLN];omega)));done)⟩ gy)) (λe he=>?_);try dsimp only))
   first
    |exact E5 he.1 he.2 (by assumption)
    |(refine E5 (by simp) ?_ (by assumption);try simp only[List.append_eq,List.cons_append,oNA]
      ((repeat' (first|exact gy|refine all_cons ?_ ?_|exact HS (by omega) (by omega)|exact J0 (by omega) (by omega)|exact BA (by omega)|exact J4 (by omega) (by omega) (by omega)|exact NH (by omega) (by omega) (by omega) (by omega)|exact JW (by omega) (by omega) (by omega) (by omega)|exact Kf (by omega) (by omega) (by simp only[oLC,oLN];omega)));done))
 refine(Ry (by assumption) hn (by omega)).bind ?_;rintro _ ⟨o,a,b,c,i,k',rfl,hi,hd⟩;exact E5 (by simp) (all_cons (hi.mono (by simp)) gy) hd
theorem lh{α:Type}{P:α->Prop}{l m:List α}(h:∀x∈l,P x)(h2:∀x∈m,P x):∀x∈List.append l m,P x:=λx hx=>(oMA.1 (show x∈l++m from hx)).elim (h x) (h2 x)
theorem iq{α:Type}(l m:List α):(List.append l m).length=l.length+m.length:=oLA
theorem sm{l:M_}{k n:Int}(h:DOk l k)(hn:0<=n/\n<=1000):Ok (iX n l k) λr=>∃ws k',r=(ws,l,k',())/\(ws.length:Int)<=n/\(∀w∈ws,W16 w)/\DOk l k':=by
 unfold iX
 (simp (disch:=omega) only [gD,gp,gf,gh])
 refine gL (by assumption) (by omega) (by omega) λv0 k0 a0 b0 d0=>?_;try dsimp only
 refine gP (P:=λ((c,l',k',s,_):Int×M_×Int×M_×Unit)=>l'=l/\DOk l k'/\0<=c/\c+s.length<=n/\∀x∈s,W16 x)
  (R:=λ((_,_,l',k',s,_):Int×Bool×M_×Int×M_×Unit)=>l'=l/\DOk l k'/\(s.length:Int)<=n/\∀x∈s,W16 x) (m:=λs=>s.1.toNat) ⟨rfl,d0,a0,by simp;omega,gy⟩ (by unfold NN;dsimp only;omega) ?_ ?_
 ·rintro⟨c,l',k3,s,_⟩ ⟨rfl,XF,hc0,hcs,hs⟩;unfold uk;dsimp only;refine fT (λhcc=>?_) λhcc=>?_
  ·refine KX (by assumption) λv1 k1 a1 b1 d1=>?_;try dsimp only
   refine fS (gd (by simp;omega)) ?_
   (simp (disch:=omega) only [gD,gp,gf,gh])
   exact fR ⟨⟨rfl,by omega,by omega,by rw[iq];simp;omega,lh hs (all_cons ⟨a1,b1⟩ gy)⟩,by omega⟩
  ·exact fR ⟨rfl,XF,by dsimp only;omega,hs⟩
 rintro⟨a,b,l',k3,s,_⟩ ⟨rfl,XF,hs,hw⟩;exact fR ⟨_,_,rfl,hs,hw,XF⟩
structure kL (code:F_)(s:M_)(d:j_):Prop where
 sz:AJ s
 len:d.length=s.length
 fit:∀(j:Nat) x n,d[j]?=some x->s[j]?=some n->(x.length:Int)<=n
 num:∀x∈d,∀w∈x,W16 w
 clen:1<=code.length/\code.length<=64
 ins:∀i∈code,ko s.length code.length i
theorem LL{code:F_}{s:M_}{d:j_}{l:M_}{k:Int}(hp:kL code s d):Ok (gc jH NN ((code.length:Int),0,l,k,(),(),(),code,s,d,())) λr=>∃a b c,r=(a,b,c,l,k,(),(),(),code,s,d,()):=by
 have:=gP (f:=jH) (n:=NN) (Q:=λr=>∃a b c,r=(a,b,c,l,k,(),(),(),code,s,d,())) (s:=((code.length:Int),0,l,k,(),(),(),code,s,d,()))
  (P:=λs'=>∃i:Int,s'=((code.length:Int),i,l,k,(),(),(),code,s,d,())/\0<=i/\i<=code.length) (R:=λr=>∃a b c,r=(a,b,c,l,k,(),(),(),code,s,d,())) (m:=λs=>(s.1-s.2.1).toNat) ⟨0,rfl,by omega,by omega⟩ (by unfold NN;dsimp only;have:=hp.clen;omega) ?_ (λt ht=>fR ht)
 simp_all
 ·rintro _ ⟨i,rfl,hi0,Xr⟩;unfold jH;dsimp only;have hc:=hp.clen;refine fT (λhcc=>?_) λhcc=>?_
  ·refine Ok.bind (P:=λr=>r=((code.length:Int),i,l,k,(),(),(),code,s,d,())) ?_ ?_
   ·refine jv (by omega) λj hj=>?_;try dsimp only
    refine f7 λx hx=>?_;have hin:=hp.ins x (fZ hx);rw[wZ];refine ge (λhjp=>?_) λ_=>fR rfl;refine gV λj2 hj2=>?_;refine f7 λy hy=>?_
    have hjj:j2=j:=by omega
    subst hjj;rw[hx]at hy
    injection hy with hy
    subst hy;have:=hin.jmp hjp;refine ge (λhcc=>?_) (λhcc=>?_)
    ·have h9:(x.2.2.2.2:Int)>=(code.length:Int):=of_decide_eq_true hcc;omega
    ·exact fR rfl
   ·rintro _ rfl;dsimp only
    (simp (disch:=omega) only [gD,gp,gf,gh])
    exact fR ⟨⟨i+1,rfl,by omega,by omega⟩,by dsimp only;omega⟩
  ·exact fR ⟨_,_,_,rfl⟩
theorem My{l:M_}{k:Int}(h:DOk l k):Ok (ol l k) λr=>∃code s d k',r=(code,s,d,l,k',())/\kL code s d/\DOk l k':=by
 unfold ol;refine(Qw h).bind ?_;rintro _ ⟨s,k1,rfl,hs,hd⟩;obtain⟨hs1,Xc,hsz⟩:=id hs;dsimp only;delta f6;try dsimp only
 refine gP (P:=λs'=>∃k' d,s'=((s.length:Int),(d.length:Int),l,k',(),(),(),(),s,d,())/\DOk l k'/\d.length<=s.length/\(∀(j:Nat) x n,d[j]?=some x->s[j]?=some n->(x.length:Int)<=n)/\∀x∈d,∀w∈x,W16 w)
  (R:=λr=>∃a b c k' d,r=(a,b,c,l,k',(),(),(),(),s,d,())/\DOk l k'/\d.length=s.length/\(∀(j:Nat) x n,d[j]?=some x->s[j]?=some n->(x.length:Int)<=n)/\∀x∈d,∀w∈x,W16 w)
  (m:=λs=>(s.1-s.2.1).toNat) ⟨k1,[],rfl,hd,by simp,by simp,gy⟩ (by unfold NN;dsimp only;omega) ?_ ?_
 ·rintro _ ⟨k',d,rfl,Yx,hdl,Z4,W9⟩;unfold rQ;dsimp only;refine fT (λhcc=>?_) λhcc=>?_
  ·refine jv (by omega) λj hj=>?_;try dsimp only
   refine f7 λx hx=>?_;refine f7 λy hy=>?_
   have ZQ:j=d.length:=by omega
   subst ZQ;have qN:=hsz y (fZ hy);refine(sm Yx ⟨by omega,by omega⟩).bind ?_;rintro _ ⟨ws,k2,rfl,hwl,hww,hd2⟩;dsimp only;refine fS (gd (by simp;omega)) ?_
   (simp (disch:=omega) only [gD,gp,gf,gh])
   refine fR ⟨⟨k2,List.append d [ws],by rw[iq];simp,hd2,by rw[iq];simp;omega,?_,lh W9 (all_cons hww gy)⟩,by dsimp only;omega⟩;intro i x n hx hn;rw[show List.append d [ws]=d++[ws]from rfl,List.getElem?_append]at hx;split at hx
   ·exact Z4 i x n hx hn
   ·rename_i hge
    have:i-d.length=0:=by
     rcases Nat.eq_zero_or_pos (i-d.length)with h|h
     ·exact h
     ·rw[oGN (by simp;omega)]at hx;cases hx
    have hi:i=d.length:=by omega
    subst hi;simp at hx;subst hx;rw[hy]at hn
    injection hn with hn
    omega
  ·exact fR ⟨_,_,_,_,_,rfl,Yx,by omega,Z4,W9⟩
 rintro _ ⟨a,b,c,k2,d,rfl,hd2,hdl,Z4,W9⟩;dsimp only;refine gL (by assumption) (by omega) (by omega) λv0 k0 a0 b0 d0=>?_;try dsimp only
 (simp (disch:=omega) only [gD,gp,gf,gh])
 refine gP (P:=λs'=>∃i k' code,s'=(i,l,k',(),(),(),code,s,d,())/\0<=i/\i<=12/\DOk l k'/\code.length<=62/\∀i∈code,ko s.length code.length i)
  (R:=λr=>∃a b k' code,r=(a,b,l,k',(),(),(),code,s,d,())/\DOk l k'/\code.length<=62/\∀i∈code,ko s.length code.length i)
  (m:=λs=>s.1.toNat) ⟨_,_,[],rfl,by omega,by omega,d0,by simp,gy⟩ (by unfold NN;dsimp only;omega) ?_ ?_
 rintro _ ⟨i,k',code,rfl,hi0,Xr,Yx,Y8,Ya⟩;unfold rP;dsimp only;refine fT (λhcc=>?_) λhcc=>?_;refine Ok.bind (P:=λr=>∃k' code,r=(i,l,k',(),(),(),code,s,d,())/\DOk l k'/\code.length<=62/\∀i∈code,ko s.length code.length i) ?_ ?_
 ·(simp (disch:=omega) only [gD,gp,gf,gh])
  refine(RU Yx hs ⟨by omega,by omega⟩).bind ?_;rintro _ ⟨xs,k3,rfl,Z2,hx6,hxs,XF⟩;dsimp only
  (simp (disch:=omega) only [gD,gp,gf,gh])
  refine fT (λhcc=>?_) λhcc=>?_
  ·refine fS (gd (by omega)) ?_;refine fR ⟨_,_,rfl,XF,by rw[iq];omega,?_⟩;rw[iq];exact lh (λi hi=>(Ya i hi).mono (by omega)) (λi hi=>(hxs i hi).mono (by omega))
  ·exact fR ⟨_,_,rfl,XF,Y8,Ya⟩
 rintro _ ⟨k3,YU,rfl,XF,hcl2,O'⟩;dsimp only
 (simp (disch:=omega) only [gD,gp,gf,gh])
 exact fR ⟨⟨_,_,_,rfl,by omega,by omega,XF,hcl2,O'⟩,by dsimp only;omega⟩;exact fR ⟨_,_,_,_,rfl,Yx,Y8,Ya⟩;rintro _ ⟨a,b,k3,code,rfl,XF,Y8,Ya⟩;dsimp only;refine Ok.bind (P:=λr=>∃k' code,r=(l,k',(),(),(),code,s,d,())/\DOk l k'/\code.length<=63/\∀i∈code,ko s.length (code.length+1) i) ?_ ?_
 ·refine gL (by assumption) (by omega) (by omega) λv1 k1 a1 b1 d1=>?_;try dsimp only
  refine fT (λhcc=>?_) λhcc=>?_
  ·(simp (disch:=omega) only [gD,gp,gf,gh])
   refine gL (by assumption) (by omega) (by omega) λv2 k2 a2 b2 d2=>?_;try dsimp only
   refine fS (gd (by simp;omega)) ?_;refine fR ⟨_,_,rfl,d2,by rw[iq];simp;omega,?_⟩;rw[iq];exact lh (λi hi=>(Ya i hi).mono (by simp;omega)) (all_cons (TY (by omega) (by simp;omega)) gy)
  ·refine fT (λhcc=>?_) λhcc=>?_
   ·refine fS (gd (by simp;omega)) ?_;refine fR ⟨_,_,rfl,d1,by rw[iq];simp;omega,?_⟩;rw[iq];exact lh (λi hi=>(Ya i hi).mono (by simp;omega)) (all_cons TA gy)
   ·exact fR ⟨_,_,rfl,d1,by omega,λi hi=>(Ya i hi).mono (by omega)⟩
 rintro _ ⟨k4,YU,rfl,hd4,hcl2,O'⟩;dsimp only;refine gL (by assumption) (by omega) (by omega) λv3 k3 a3 b3 d3=>?_;try dsimp only
 simp only[Va,Sz,oBS];refine fS (gd (by simp;omega)) ?_;simp only[iq];refine ge (λhc=>?_) λ_=>?_;have ZL:∀i∈List.append YU [(1,0,0,0,v3),(23,0,0,0,0)],ko s.length (YU.length+1) i:=lh O' (all_cons (HS (by omega) (by omega)) (all_cons (BA (by omega)) gy));simp only[oDE]at hc;have hcn:(YU.length:Int)+2>64:=by have:((YU.length + [((1:Int),(0:Int),(0:Int),(0:Int),v3),(23,0,0,0,0)].length:Nat):Int)>64:=hc;simpa using this
 have h63:YU.length=63:=by omega
 refine fS (by rw[h63];rfl) ?_;have hlen:(nG (List.append YU [((1:Int),(0:Int),(0:Int),(0:Int),v3),(23,0,0,0,0)]) 0 (Nat.sub 64 0)).length=64:=by unfold nG;rw[oLT,List.drop_zero,iq,h63];rfl
 have hp:kL (nG (List.append YU [((1:Int),(0:Int),(0:Int),(0:Int),v3),(23,0,0,0,0)]) 0 (Nat.sub 64 0)) s d:=by refine⟨hs,hdl,Z4,W9,by rw[hlen];decide,λi hi=>?_⟩;rw[hlen];refine(ZL i ?_).mono (by omega);unfold nG at hi;exact List.mem_of_mem_drop (List.mem_of_mem_take hi)
 refine(LL (l:=l) (k:=_) hp).bind ?_;rintro _ ⟨a,b,c,rfl⟩;exact fR ⟨_,_,_,_,rfl,hp,d3⟩;have hp:kL (List.append YU [(1,0,0,0,v3),(23,0,0,0,0)]) s d:=by refine⟨hs,hdl,Z4,W9,?_,?_⟩;rw[iq];rename_i hc;have hcn:¬((YU.length + [((1:Int),(0:Int),(0:Int),(0:Int),v3),(23,0,0,0,0)].length:Nat):Int)>64:=of_decide_eq_false hc;simp only[oLC,oLN]at hcn⊢;omega;rw[iq];exact lh (λi hi=>(O' i hi).mono (by simp)) (all_cons (HS (by omega) (by omega)) (all_cons (BA (by omega)) gy))
 have hf:=LL (l:=l) (k:=k3) hp;rw[iq]at hf;refine hf.bind ?_;rintro _ ⟨a,b,c,rfl⟩;exact fR ⟨_,_,_,_,rfl,hp,d3⟩
theorem LX{P:Int->Prop}{s:M_}{i:Nat}{x:Int}(h:∀(j:Nat) y,j<i->s[j]?=some y->P y)(hx:s[i]?=some x)(hp:P x):∀(j:Nat) y,j<i+1->s[j]?=some y->P y:=by grind
theorem NA{s:M_}(hl:s.length<=1000):Ok (iT s) λr=>r.1=true↔AJ s:=by
 unfold iT;delta f6;try dsimp only
 obtain⟨t,e,ht⟩:=gZ (f:=oV) (n:=NN) (s:=(s,s,(s.length:Int),0,())) (P:=λs'=>∃i:Nat,s'=(s,s,(s.length:Int),(i:Int),())/\i<=s.length/\∀(j:Nat) y,j<i->s[j]?=some y->1<=y/\y<=32) (R:=λr=>(r=.inl (false,())/\∃y∈s,¬(1<=y/\y<=32))\/((∃a b c d,r=.inr (s,a,b,c,d,()))/\∀y∈s,1<=y/\y<=32)) (m:=λs'=>(s'.2.2.1-s'.2.2.2.1).toNat) ⟨0,rfl,by omega,λj y hj=>by omega⟩ (by unfold NN;dsimp only;omega) (by
  rintro _ ⟨i,rfl,hi,ZL⟩;unfold oV;refine fT (λhcc=>?_) λhcc=>?_;rw[fX];refine f7 λx hx=>?_;refine fT (λXE=>?_) λXE=>?_;exact fR (.inl ⟨rfl,x,fZ hx,by omega⟩);refine fT (λXo=>?_) λXo=>?_;exact fR (.inl ⟨rfl,x,fZ hx,by omega⟩)
  ·(simp (disch:=omega) only [gD,gp,gf,gh])
   exact fR ⟨⟨i+1,rfl,by omega,LX ZL hx ⟨by omega,by omega⟩⟩,by dsimp only;omega⟩
  refine fR (.inr ⟨⟨_,_,_,_,rfl⟩,λy hy=>?_⟩);have ⟨j,hj⟩:=List.getElem?_of_mem hy;exact ZL j y (by have:=(oGS hj).1;omega) hj)
 rw[e];rcases ht with⟨rfl,y,hy,hn⟩|⟨⟨a,b,c,d,rfl⟩,ZL⟩;exact fR ⟨λh=>(by cases h),λh=>absurd (h.2.2 y hy) hn⟩;dsimp only;refine fT (λhcc=>?_) λhcc=>?_;exact fR ⟨λh=>⟨by omega,(by have:=of_decide_eq_true h;omega),ZL⟩,λh=>oDT (by have:=h.2.1;omega)⟩;exact fR ⟨λh=>(by cases h),λh=>by have:=h.1;omega⟩
abbrev VS(xs:M_):Prop:=AJ xs
theorem PL{l:M_}{k:Nat}(h:k<l.length):l.getD k 0=l[k]:=by simp[List.getD,h]
def xn(bs ss:M_)(i:Nat):Prop:=0<=bs.getD i 0/\bs.getD i 0+ss.getD i 0<=512/\∀k,k<i->¬(bs.getD i 0<=bs.getD k 0+ss.getD k 0/\bs.getD k 0<=bs.getD i 0+ss.getD i 0)
def LV(bs ss:M_):Prop:=VS ss/\bs.length=ss.length/\∀i,i<bs.length->xn bs ss i
theorem VS.at_{ss:M_}(h:VS ss){i:Nat}(hi:i<ss.length):1<=ss[i]/\ss[i]<=32:=h.2.2 _ (oGX hi)
def we(ss:M_)(seed:Int):Nat->M_×Int|0=>(List.replicate ss.length 0,1+seed/ss.length%50)|k+1=>((we ss seed k).1.set (((k+seed)%ss.length).toNat) (we ss seed k).2,(we ss seed k).2+(ss.getD ((k+seed)%ss.length).toNat 0+1+seed/(50*ss.length)%40))
def mkB(ss:M_)(seed:Int):M_:=(we ss seed ss.length).1
theorem Ro(ss:M_)(seed:Int)(k:Nat):(we ss seed k).1.length=ss.length:=by induction k with|zero=>simp[we]|succ k ih=>simp[we,ih]
theorem VS.getD{ss:M_}(h:VS ss){i:Nat}(hi:i<ss.length):1<=ss.getD i 0/\ss.getD i 0<=32:=by rw[PL hi];exact h.at_ hi
theorem SD{n k:Nat}{seed:Int}(hn:1<=n):0<=((k:Int)+seed)%n/\((k:Int)+seed)%n<n:=⟨Int.emod_nonneg _ (by omega),Int.emod_lt_of_pos _ (by omega)⟩
theorem TQ{ss:M_}{seed:Int}(h:VS ss)(hs:0<=seed)(k:Nat):1<=(we ss seed k).2/\(we ss seed k).2<=50+72*k:=by induction k with|zero=>simp[we];omega|succ k ih=>simp only[we];have hr:=SD (k:=k) (seed:=seed) h.1;have:=h.getD (i:=(((k:Int)+seed)%ss.length).toNat) (by omega);omega
theorem Pi{ss:M_}(h0:1<=ss.length)(h1:ss.length<=4):(∃a,ss=[a])\/(∃a b,ss=[a,b])\/(∃a b c,ss=[a,b,c])\/(∃a b c d,ss=[a,b,c,d]):=by match ss,h0,h1 with| [a],_,_=>simp_all| [a,b],_,_=>simp_all| [a,b,c],_,_=>simp_all| [a,b,c,d],_,_=>simp_all
theorem Bb{P:Nat->Prop}(h0:P 0):∀i,i<1->P i:=by simp_all
theorem EZ{P:Nat->Prop}(h0:P 0)(h1:P 1):∀i,i<2->P i:=by grind
theorem Ll{P:Nat->Prop}(h0:P 0)(h1:P 1)(h2:P 2):∀i,i<3->P i:=by grind
theorem Q2{P:Nat->Prop}(h0:P 0)(h1:P 1)(h2:P 2)(h3:P 3):∀i,i<4->P i:=by grind
def Ql(b s:Int):Prop:=0<=b/\b+s<=512
def jb(b s b' s':Int):Prop:=¬(b<=b'+s'/\b'<=b+s)
theorem LV1{a x:Int}(hv:VS [a])(h:Ql x a):LV [x] [a]:=⟨hv,rfl,Bb ⟨h.1,h.2,λk hk=>by omega⟩⟩
theorem LV2{a b x y:Int}(hv:VS [a,b])(h:Ql x a)(h':Ql y b)(h1:jb y b x a):LV [x,y] [a,b]:=⟨hv,rfl,EZ ⟨h.1,h.2,λk hk=>by omega⟩ ⟨h'.1,h'.2,Bb h1⟩⟩
theorem LV3{a b c x y z:Int}(hv:VS [a,b,c])(h:Ql x a)(h':Ql y b)(h'':Ql z c)(h1:jb y b x a)(h2:jb z c x a)(h3:jb z c y b):LV [x,y,z] [a,b,c]:=⟨hv,rfl,Ll ⟨h.1,h.2,λk hk=>by omega⟩ ⟨h'.1,h'.2,Bb h1⟩ ⟨h''.1,h''.2,EZ h2 h3⟩⟩
theorem LV4{a b c d x y z u:Int}(hv:VS [a,b,c,d])(h:Ql x a)(h':Ql y b)(h'':Ql z c)(h''':Ql u d)(h1:jb y b x a)(h2:jb z c x a)(h3:jb z c y b)(h4:jb u d x a)(h5:jb u d y b)(h6:jb u d z c):LV [x,y,z,u] [a,b,c,d]:=⟨hv,rfl,Q2 ⟨h.1,h.2,λk hk=>by omega⟩ ⟨h'.1,h'.2,Bb h1⟩ ⟨h''.1,h''.2,EZ h2 h3⟩ ⟨h'''.1,h'''.2,Ll h4 h5 h6⟩⟩
theorem SV{ss:M_}(hv:VS ss){seed:Int}(hs:0<=seed):LV (mkB ss seed) ss:=by
 have YS:=hv;rcases Pi hv.1 hv.2.1 with⟨a,rfl⟩|⟨a,b,rfl⟩|⟨a,b,c,rfl⟩|⟨a,b,c,d,rfl⟩;obtain⟨_,_,hx⟩:=hv;have ha:=hx a (by simp);have e0:(((0:Nat):Int)+seed)%1=0:=by omega
 have hB:mkB [a] seed=[1+seed/1%50]:=by simp[mkB,we,List.replicate]
 rw[hB];exact LV1 YS ⟨by omega,by omega⟩;obtain⟨_,_,hx⟩:=hv;have ha:=hx a (by simp);have hb:=hx b (by simp);rcases(show seed%2=0\/seed%2=1 by omega)with ht|ht;have e1:(1+seed)%2=1:=by omega
 simp only[mkB,we,oLC,oLN,List.replicate];simp[ht,e1];exact LV2 YS ⟨by omega,by omega⟩ ⟨by omega,by omega⟩ (by unfold jb;omega);have e1:(1+seed)%2=0:=by omega
 simp only[mkB,we,oLC,oLN,List.replicate];simp[ht,e1];exact LV2 YS ⟨by omega,by omega⟩ ⟨by omega,by omega⟩ (by unfold jb;omega);obtain⟨_,_,hx⟩:=hv;have ha:=hx a (by simp);have hb:=hx b (by simp);have hc:=hx c (by simp);rcases(show seed%3=0\/seed%3=1\/seed%3=2 by omega)with ht|ht|ht;have e1:(1+seed)%3=1:=by omega
 have e2:(2+seed)%3=2:=by omega
 simp only[mkB,we,oLC,oLN,List.replicate];simp[ht,e1,e2];exact LV3 YS ⟨by omega,by omega⟩ ⟨by omega,by omega⟩ ⟨by omega,by omega⟩ (by unfold jb;omega) (by unfold jb;omega) (by unfold jb;omega);have e1:(1+seed)%3=2:=by omega
 have e2:(2+seed)%3=0:=by omega
 simp only[mkB,we,oLC,oLN,List.replicate];simp[ht,e1,e2];exact LV3 YS ⟨by omega,by omega⟩ ⟨by omega,by omega⟩ ⟨by omega,by omega⟩ (by unfold jb;omega) (by unfold jb;omega) (by unfold jb;omega);have e1:(1+seed)%3=0:=by omega
 have e2:(2+seed)%3=1:=by omega
 simp only[mkB,we,oLC,oLN,List.replicate];simp[ht,e1,e2];exact LV3 YS ⟨by omega,by omega⟩ ⟨by omega,by omega⟩ ⟨by omega,by omega⟩ (by unfold jb;omega) (by unfold jb;omega) (by unfold jb;omega);obtain⟨_,_,hx⟩:=hv;have ha:=hx a (by simp);have hb:=hx b (by simp);have hc:=hx c (by simp);have hd:=hx d (by simp);have hq:∀q g:Int,q=1+seed/4%50->g=seed/(50*4)%40->1<=q/\q<=50/\0<=g/\g<40:=λq g e e'=>by subst e;subst e';omega
 rcases(show seed%4=0\/seed%4=1\/seed%4=2\/seed%4=3 by omega)with ht|ht|ht|ht;have e1:(1+seed)%4=1:=by omega
 have e2:(2+seed)%4=2:=by omega
 have e3:(3+seed)%4=3:=by omega
 simp only[mkB,we,oLC,oLN,List.replicate];simp[ht,e1,e2,e3];exact LV4 YS ⟨by omega,by omega⟩ ⟨by omega,by omega⟩ ⟨by omega,by omega⟩ ⟨by omega,by omega⟩ (by unfold jb;omega) (by unfold jb;omega) (by unfold jb;omega) (by unfold jb;omega) (by unfold jb;omega) (by unfold jb;omega);have e1:(1+seed)%4=2:=by omega
 have e2:(2+seed)%4=3:=by omega
 have e3:(3+seed)%4=0:=by omega
 simp only[mkB,we,oLC,oLN,List.replicate];simp[ht,e1,e2,e3];exact LV4 YS ⟨by omega,by omega⟩ ⟨by omega,by omega⟩ ⟨by omega,by omega⟩ ⟨by omega,by omega⟩ (by unfold jb;omega) (by unfold jb;omega) (by unfold jb;omega) (by unfold jb;omega) (by unfold jb;omega) (by unfold jb;omega);have e1:(1+seed)%4=3:=by omega
 have e2:(2+seed)%4=0:=by omega
 have e3:(3+seed)%4=1:=by omega
 simp only[mkB,we,oLC,oLN,List.replicate];simp[ht,e1,e2,e3];exact LV4 YS ⟨by omega,by omega⟩ ⟨by omega,by omega⟩ ⟨by omega,by omega⟩ ⟨by omega,by omega⟩ (by unfold jb;omega) (by unfold jb;omega) (by unfold jb;omega) (by unfold jb;omega) (by unfold jb;omega) (by unfold jb;omega);have e1:(1+seed)%4=0:=by omega
 have e2:(2+seed)%4=1:=by omega
 have e3:(3+seed)%4=2:=by omega
 simp only[mkB,we,oLC,oLN,List.replicate];simp[ht,e1,e2,e3];exact LV4 YS ⟨by omega,by omega⟩ ⟨by omega,by omega⟩ ⟨by omega,by omega⟩ ⟨by omega,by omega⟩ (by unfold jb;omega) (by unfold jb;omega) (by unfold jb;omega) (by unfold jb;omega) (by unfold jb;omega) (by unfold jb;omega)
theorem MJ{α:Type}(l:List α)(i:Nat)(a:α):List.modify l i (λ_=>a)=l.set i a:=by apply oEG;grind
theorem Pc{s:M_}{seed:Int}(hs:AJ s)(h0:0<=seed)(h1:seed<=1073741824):Ok (oG s seed) λr=>∃key,r=(mkB s seed,key,0,())/\W16 key:=by
 obtain⟨hs1,Xc,hsz⟩:=id hs;unfold oG;delta f6;try dsimp only
 refine Ok.bind (P:=λr=>r=(s,seed,false,(),0,())) ?_ ?_;refine(NA (by omega)).bind ?_;rintro⟨v,_⟩ hv;have hv:v=true:=hv.2 hs;subst hv;simp only[oNT,oCF];refine fT (λZ3=>?_) λZ3=>?_;omega;exact fR (by rw[oDF (by omega)]);rintro _ rfl;dsimp only;refine ge (λh=>by cases h) λ_=>?_;rw[fX];simp only[oBS];refine fS (by unfold xJ;rw[oBA];exact⟨oDT rfl,oDT (by omega)⟩) ?_;refine fS (by rw[bne_iff_ne];omega) ?_;have Yn:Int.tdiv seed s.length=seed/s.length:=Int.tdiv_eq_ediv_of_nonneg h0;have hq:0<=seed/(s.length:Int)/\seed/(s.length:Int)<=seed:=⟨Int.ediv_nonneg h0 (by omega),Int.ediv_le_self _ h0⟩;have hm1:Int.tmod (seed/(s.length:Int)) 50=seed/(s.length:Int)%50:=oTE hq.1;rw[Yn,iD (x:=seed/(s.length:Int)),hm1,iD (x:=1+seed/(s.length:Int)%50)];have Xt:W16 (wk .u16 (w64 (40503*seed))):=by unfold wk;rw[xr];exact⟨by omega,by omega⟩
 generalize wk .u16 (w64 (40503*seed))=key at Xt;refine gP (P:=λs'=>∃k:Nat,s'=(s,seed,(s.length:Int),(we s seed k).2,(s.length:Int),(k:Int),(),0,(we s seed k).1,key,())/\k<=s.length) (R:=λr=>∃a b c d e f g h,r=(a,b,c,d,e,f,g,(),h,(we s seed s.length).1,key,()))
  (m:=λs'=>(s'.2.2.2.2.1-s'.2.2.2.2.2.1).toNat) ⟨0,rfl,by omega⟩ (by unfold NN;dsimp only;omega) ?_ ?_
 rintro _ ⟨k,rfl,hk⟩;unfold ui;dsimp only;have hb:=TQ hs h0 k;refine fT (λhcc=>?_) λhcc=>?_;have hr:=SD (k:=k) (seed:=seed) hs1;rw[iD (x:=(k:Int)+seed)];refine fS (by rw[bne_iff_ne];omega) ?_;rw[oTE (show 0<=(k:Int)+seed by omega)];refine jv hr.1 λr hrr=>?_;have hl:=Ro s seed k;refine f7 λx hx=>?_;refine f7 λy hy=>?_;refine jv hr.1 λr2 hrr2=>?_;have:r2=r:=by omega
 subst this;refine f7 λz hz=>?_;have XY:=hsz z (fZ hz);rw[iD (x:=z+1),iD (x:=50*(s.length:Int))];refine fS (by rw[bne_iff_ne];omega) ?_;have hd2:Int.tdiv seed (50*(s.length:Int))=seed/(50*s.length):=Int.tdiv_eq_ediv_of_nonneg h0;have Y6:0<=seed/(50*(s.length:Int))/\seed/(50*(s.length:Int))<=seed:=⟨Int.ediv_nonneg h0 (by omega),Int.ediv_le_self _ h0⟩;have hm3:Int.tmod (seed/(50*(s.length:Int))) 40=seed/(50*s.length)%40:=oTE Y6.1;rw[hd2,iD (x:=seed/(50*(s.length:Int))),hm3];generalize hg:seed/(50*(s.length:Int))%40=g;have Zw:0<=g/\g<40:=by omega
 rw[iD (x:=z+1+g),iD (x:=(we s seed k).2+(z+1+g)),iD (x:=(k:Int)+1),MJ];have e1:(we s seed (k+1)).1=(we s seed k).1.set r2 (we s seed k).2:=by simp only[we];rw[hrr];rfl
 have e2:(we s seed (k+1)).2=(we s seed k).2+(z+1+g):=by simp only[we];rw[hrr,hg,oTN,oGD,hz];rfl
 refine fR ⟨⟨k+1,?_,by omega⟩,by dsimp only;omega⟩;rw[e1,e2];rfl;have:k=s.length:=by omega
 subst this;exact fR ⟨_,_,_,_,_,_,_,_,rfl⟩;rintro _ ⟨a,b,c,d,e,f,g,h,rfl⟩;exact fR ⟨key,rfl,Xt⟩
theorem nV{S T:Type}{f:S->Option (S⊕T)}(st:Nat->S){n N:Nat}{t:T}(hn:n<N)(h:∀i,i<n->Ok (f (st i)) (·=.inl (st (i+1))))(he:Ok (f (st n)) (·=.inr t)):gc f N (st 0)=some t:=by
 have key:∀k i,i+k=n->∀N,k<N->gc f N (st i)=some t:=by
  intro k;induction k with
  |zero=>
  intro i hi N hN;obtain⟨x,e,hx⟩:=he;have:i=n:=by omega
  subst this;obtain⟨N',rfl⟩:∃N',N=N'+1:=⟨N-1,by omega⟩;simp[gc,e,hx]
  |succ k ih=>intro i hi N hN;have ⟨x,e,hx⟩:=h i (by omega);obtain⟨N',rfl⟩:∃N',N=N'+1:=⟨N-1,by omega⟩;simp[gc,e,hx];exact ih (i+1) (by omega) N' (by omega)
 simp_all
theorem gU{α:Type}{o:Option α}{a:α}(h:Ok o (·=a)):o=some a:=by obtain⟨x,e,rfl⟩:=h;exact e
theorem gr{l:M_}{k:Nat}{x:Int}(h:l[k]?=some x):l.getD k 0=x:=by simp_all
theorem vq{s:M_}(h:AJ s):iT s=some (true,()):=by have ⟨⟨v,u⟩,e,hv⟩:=NA (s:=s) (by have:=h.2.1;omega);simp_all
theorem vp{bs ss:M_}{key:Int}(h:LV bs ss):jT bs key ss=some (true,()):=by
 obtain⟨hs,hl,hr⟩:=h;have h4:=hs.2.1;unfold jT;rw[vq hs];delta f6;simp only[oBS,oNT,oCF,hl,oBN];have e:gc ml NN (ss,bs,(ss.length:Int),0,bs,key,())=some (.inr (ss,bs,(ss.length:Int),(ss.length:Int),false,bs,key,())):=by
  refine nV (st:=λi=>(ss,bs,(ss.length:Int),(i:Int),bs,key,())) (n:=ss.length) (by unfold NN;omega) ?_ ?_;intro i hi;unfold ml;dsimp only;have hri:=hr i (by omega);unfold xn at hri;refine fT (λZ'=>?_) λZ'=>?_;rw[fX];simp only[oBS];refine f7 λb hb=>?_;rw[gr hb]at hri;refine fT (λZ3=>?_) λZ3=>?_;omega;refine f7 λz hz=>?_;rw[gr hz]at hri;have XY:=hs.2.2 z (fZ hz)
  (simp (disch:=omega) only [gD,gp,gf,gh])
  refine fT (λhcc=>?_) λhcc=>?_;omega;refine fS (by unfold iO;simp;omega) ?_;have hwl:(nG bs 0 (Nat.sub i 0)).length=i:=by unfold nG;rw[oLT,List.drop_zero];show min i _=i;omega
  rw[hwl];have e:gc mn NN (ss,(i:Int),b,bs,(ss.length:Int),(i:Int),nG bs 0 (Nat.sub i 0),(i:Int),0,bs,key,())=some (.inr (ss,(i:Int),b,bs,(ss.length:Int),(i:Int),nG bs 0 (Nat.sub i 0),(i:Int),(i:Int),false,bs,key,())):=by
   refine nV (st:=λj=>(ss,(i:Int),b,bs,(ss.length:Int),(i:Int),nG bs 0 (Nat.sub i 0),(i:Int),(j:Int),bs,key,())) (n:=i) (by unfold NN;omega) ?_ ?_;intro j hj;unfold mn;dsimp only;refine fT (λZ'=>?_) λZ'=>?_;rw[fX,fX];simp only[oBS];have hx:(fU (nG bs 0 (Nat.sub i 0)) j)=bs[j]?:=by unfold fU nG;rw[List.getElem?_take,List.drop_zero];exact oIP hj
   rw[hx];obtain⟨c,hc⟩:=gv bs j (by omega);obtain⟨y,hy⟩:=gv ss j (by omega);have qN:=hs.2.2 y (fZ hy);have WY:fU ss i=some z:=hz;have hy':fU ss j=some y:=hy;rw[hc,WY,hy'];simp only[oBS];have hrj:=(hr j (by omega)).1;have hrj2:=(hr j (by omega)).2.1;rw[gr hc]at hrj hrj2;rw[gr hy]at hrj2;have Yh:=hri.2.2 j hj;rw[gr hc,gr hy]at Yh;rw[iD (x:=b+z),iD (x:=c+y)];by_cases h1:b+z>=c;have h2:¬c+y>=b:=by omega
   simp only[h1,h2,decide_true,decide_false,oCT,oCF]
   (simp (disch:=omega) only [gD,gp,gf,gh])
   exact fR rfl;simp only[h1,decide_false,oCF]
   (simp (disch:=omega) only [gD,gp,gf,gh])
   exact fR rfl;omega;unfold mn;dsimp only;refine fT (λZ'=>?_) λZ'=>?_;omega;exact fR rfl
  rw[e]
  (simp (disch:=omega) only [gD,gp,gf,gh])
  exact fR rfl;omega;unfold ml;dsimp only;refine fT (λZ'=>?_) λZ'=>?_;omega;exact fR rfl
 rw[e]
theorem Pz{n m o a b c i:Int}(h:ko n m (o,a,b,c,i))(hn:n<=4)(hm:m<=64):pi o a b c i=some (true,()):=by
 obtain⟨⟨o0,o1⟩,⟨a0,a1,a2⟩,⟨b0,b1,b2⟩,⟨c0,c1,c2⟩,⟨i0,i1,i2⟩,hl,hs,hj⟩:=h;dsimp only at *;have Ye:∀(k:Nat)(x:Int)(u:Bool),k<3->[a,b,c][k]?=some x->(k=0->u=tW o)->(k=1->u=tV o)->(k=2->u=tU o)->0<=x->x<8->(u=false->x=0)->Ok (mi (3,(k:Int),o,a,b,c,i,tW o,tV o,tU o,tT o,[a,b,c],())) (·=.inl (3,((k+1:Nat):Int),o,a,b,c,i,tW o,tV o,tU o,tT o,[a,b,c],())):=by
  intro k x u hk hx h0 h1 h2 hx0 Z2 YA;unfold mi;dsimp only;refine fT (λZ'=>?_) λZ'=>?_;rw[fX];simp only[oBS];rw[show fU [a,b,c] k=some x from hx];simp only[oBS];rw[oDF (show ¬x<0 by omega),oDF (show ¬x>=8 by omega)];simp only[oCF];have ZU:Ok (some ((3:Int),(k:Int),false,o,a,b,c,i,tW o,tV o,tU o,tT o,[a,b,c],())) (·=((3:Int),(k:Int),false,o,a,b,c,i,tW o,tV o,tU o,tT o,[a,b,c],())):=fR rfl;have fin2:u=false->(x != 0)=false:=λh=>by rw[YA h];rfl
  refine Ok.bind (P:=(·=((3:Int),(k:Int),false,o,a,b,c,i,tW o,tV o,tU o,tT o,[a,b,c],()))) ?_ ?_;rcases(show k=0\/k=1\/k=2 by omega)with rfl|rfl|rfl;rw[<- h0 rfl]at ZU⊢;refine fS rfl ?_;refine ge (λhu=>?_) λ_=>ZU;rw[fin2 (by simpa using hu)];exact ZU;rw[<- h1 rfl]at ZU⊢;refine ge (λhu=>by cases hu) λ_=>fS rfl (ge (λhu=>?_) λ_=>ZU);rw[fin2 (by simpa using hu)];exact ZU;rw[<- h2 rfl]at ZU⊢;refine ge (λhu=>by cases hu) λ_=>ge (λhu=>by cases hu) λ_=>fS rfl (ge (λhu=>?_) λ_=>ZU);rw[fin2 (by simpa using hu)];exact ZU;rintro _ rfl;dsimp only;rw[iD (x:=(k:Int)+1)];exact fR rfl;omega
 have e:gc mi NN (3,0,o,a,b,c,i,tW o,tV o,tU o,tT o,[a,b,c],())=some (.inr (3,3,false,o,a,b,c,i,tW o,tV o,tU o,tT o,[a,b,c],())):=by refine nV (st:=λk=>(3,(k:Int),o,a,b,c,i,tW o,tV o,tU o,tT o,[a,b,c],())) (n:=3) (by unfold NN;omega) ?_ ?_;intro k hk;rcases(show k=0\/k=1\/k=2 by omega)with rfl|rfl|rfl;exact Ye 0 a _ (by omega) rfl (λ_=>rfl) (by omega) (by omega) a0 a1 a2;exact Ye 1 b _ (by omega) rfl (by omega) (λ_=>rfl) (by omega) b0 b1 b2;exact Ye 2 c _ (by omega) rfl (by omega) (by omega) (λ_=>rfl) c0 c1 c2;exact fR rfl
 refine gU ?_;unfold pi;rw[oDF (show ¬o<0 by omega),oDF (show ¬o>24 by omega),JD o0 o1];simp only[oCF,oBS];rw[show f6 [a,b,c].length=3 from rfl,e];dsimp only;rw[oDF (show ¬i<0 by omega),oDF (show ¬i>65535 by omega)];simp only[oCF];refine Ok.bind (P:=(·=(false,o,a,b,c,i,()))) ?_ ?_;refine ge (λhu=>?_) λ_=>fR rfl;exact fR (by rw[i2 (by simpa using hu)];rfl);rintro _ rfl;dsimp only;rw[wZ];simp only[oCF,oBS];refine ge (λhu=>?_) λ_=>?_;exact fR (by rw[oDT (by have:=hj hu;omega)]);refine fT (λhcc=>?_) λhcc=>?_;exact fR (by rw[oDT (by have:=hl hcc;omega)]);refine fT (λXE=>?_) λXE=>?_;exact fR (by rw[oDT (by have:=hs XE;omega)]);exact fR rfl
theorem GS{code:F_}{s:M_}{d:j_}(h:kL code s d):ly code s d=some (0,()):=by
 have hs:=h.sz;have Xc:=hs.2.1;have hc:=h.clen;have hl:=h.len;have e0:gc mh NN (d,(d.length:Int),0,code,s,d,())=some (.inr (d,(d.length:Int),(d.length:Int),false,code,s,d,())):=by
  refine nV (st:=λk=>(d,(d.length:Int),(k:Int),code,s,d,())) (n:=d.length) (by unfold NN;omega) ?_ ?_;intro k hk;unfold mh;dsimp only;refine fT (λZ'=>?_) λZ'=>?_;rw[fX];delta f6;simp only[oBS];refine f7 λx hx=>?_;refine f7 λy hy=>?_;have:=h.fit k x y hx hy;refine fT (λZ3=>?_) λZ3=>?_;omega
  ·(simp (disch:=omega) only [gD,gp,gf,gh])
   exact fR rfl
  omega;unfold mh;dsimp only;refine fT (λZ'=>?_) λZ'=>?_;omega;exact fR rfl
 have e1:gc mg NN (code,(code.length:Int),0,code,s,d,())=some (.inr (code,(code.length:Int),(code.length:Int),false,code,s,d,())):=by
  refine nV (st:=λk=>(code,(code.length:Int),(k:Int),code,s,d,())) (n:=code.length) (by unfold NN;omega) ?_ ?_;intro k hk;unfold mg;dsimp only;refine fT (λZ'=>?_) λZ'=>?_;rw[fX];simp only[oBS];refine f7 λx hx=>?_;obtain⟨o,a,b,c,i⟩:=x;rw[Pz (h.ins _ (fZ hx)) (by omega) (by omega)]
  (simp (disch:=omega) only [gD,gp,gf,gh])
  exact fR rfl;omega;unfold mg;dsimp only;refine fT (λZ'=>?_) λZ'=>?_;omega;exact fR rfl
 have e3:gc mf NN (code,(code.length:Int),0,code,s,d,())=some (.inr (code,(code.length:Int),(code.length:Int),false,code,s,d,())):=by
  refine nV (st:=λk=>(code,(code.length:Int),(k:Int),code,s,d,())) (n:=code.length) (by unfold NN;omega) ?_ ?_;intro k hk;unfold mf;dsimp only;refine fT (λZ'=>?_) λZ'=>?_;rw[fX];simp only[oBS];refine f7 λx hx=>?_;have hp:=h.ins x (fZ hx);rw[wZ];simp only[oBS];refine Ok.bind (P:=(·=(code,(code.length:Int),(k:Int),false,code,s,d,()))) ?_ ?_;refine ge (λhj=>?_) λ_=>?_;have:=hp.jmp hj;refine fT (λZ3=>?_) λZ3=>?_;have Z3:x.2.2.2.2>=(code.length:Int):=Z3;omega;refine fT (λhcc=>?_) λhcc=>?_;exact fR (by rw[oDF (show ¬x.2.2.2.2>=f6 s.length by rw[gh];have:=hp.lea hcc;omega)]);exact fR rfl;refine fT (λhcc=>?_) λhcc=>?_;exact fR (by rw[oDF (show ¬x.2.2.2.2>=f6 s.length by rw[gh];have:=hp.lea hcc;omega)]);exact fR rfl;rintro _ rfl;dsimp only;simp only[oCF]
  (simp (disch:=omega) only [gD,gp,gf,gh])
  exact fR rfl;omega;unfold mf;dsimp only;refine fT (λZ'=>?_) λZ'=>?_;omega;exact fR rfl
 refine gU ?_;unfold ly;rw[vq hs];delta f6;simp only[oBS,oNT,oCF,hl,oBN];rw[hl]at e0;rw[e0];dsimp only;refine fT (λZ'=>?_) λZ'=>?_;omega;refine fT (λZ3=>?_) λZ3=>?_;omega;rw[e1];dsimp only;rw[e3];exact fR rfl
def RK(bs ss:M_)(a:Int):Prop:=∃(j:Nat)(b z:Int),bs[j]?=some b/\ss[j]?=some z/\b<=a/\a<b+z
def n7(K:Int->Prop)(c:DCe):Prop:=0<=c.1/\c.1<=2/\0<=c.2/\c.2<=65535/\(c.1=1->K c.2)
theorem n7.mono{K K':Int->Prop}{c:DCe}(h:n7 K c)(hk:∀a,K a->K' a):n7 K' c:=⟨h.1,h.2.1,h.2.2.1,h.2.2.2.1,λe=>hk _ (h.2.2.2.2 e)⟩
theorem kj{K:Int->Prop}{v:Int}(h:0<=v/\v<=65535):n7 K (0,v):=⟨by omega,by omega,h.1,h.2,λe=>absurd (show(0:Int)=1 from e) (by decide)⟩
def VL(K:Int->Prop)(i:Nat)(x:DLn):Prop:=(x.1=-1/\x.2.1=false/\x.2.2=[])\/(0<=x.1/\x.1<128/\x.1%4=i/\x.2.2.length=4/\∀c∈x.2.2,n7 K c)
def VO(cs:C_)(x:DLn):Prop:=x.1=-1\/x.2.1=true\/∀o:Nat,o<4->cs[(x.1*4).toNat+o]?=x.2.2[o]?
structure i9 (K:Int->Prop)(cs:C_)(ls:G_):Prop where
 clen:cs.length=512
 cells:∀c∈cs,n7 K c
 llen:ls.length=4
 lines:∀(i:Nat) x,ls[i]?=some x->VL K i x
 coh:∀(i:Nat) x,ls[i]?=some x->VO cs x
structure zG (K:Int->Prop)(n:Int)(t:DTh):Prop where
 state:0<=t.1/\t.1<=4
 len:t.2.1.length=8
 regs:∀c∈t.2.1,n7 K c
 pc:0<=t.2.2.1/\t.2.2.1<=255
 count:0<=t.2.2.2.1/\t.2.2.2.1<=n
 handler:-1<=t.2.2.2.2.1/\t.2.2.2.2.1<=255
 saved:-1<=t.2.2.2.2.2.1/\t.2.2.2.2.2.1<=255
 trap:0<=t.2.2.2.2.2.2.1/\t.2.2.2.2.2.2.1<=6
 code:W16 t.2.2.2.2.2.2.2
structure MOk (n:Int)(ss bs:M_)(cs:C_)(ls:G_)(ts:J_):Prop where
 lay:LV bs ss
 mem:i9 (RK bs ss) cs ls
 tlen:ts.length=4
 thr:∀t∈ts,zG (RK bs ss) n t
theorem LY{K:Int->Prop}{l:C_}(hl:l.length<=1000)(h:∀c∈l,n7 K c):qh l=some (true,()):=by
 have e:gc of NN (l,(l.length:Int),0,())=some (.inr (l,(l.length:Int),(l.length:Int),false,())):=by
  refine nV (st:=λk=>(l,(l.length:Int),(k:Int),())) (n:=l.length) (by unfold NN;omega) ?_ ?_;intro k hk;unfold of;refine fT (λZ'=>?_) λZ'=>?_;rw[fX];refine f7 λx hx=>?_;have:=h x (fZ hx);unfold nc;rw[oDT (show x.1<=2 from this.2.1)]
  (simp (disch:=omega) only [gD,gp,gf,gh])
  exact fR rfl;omega;unfold of;refine fT (λZ'=>?_) λZ'=>?_;omega;exact fR rfl
 refine gU ?_;unfold qh;delta f6;try dsimp only
 rw[e];exact fR rfl
theorem L8{K:Int->Prop}{cs:C_}{ls:G_}(h:i9 K cs ls):pj cs ls=some (true,()):=by
 obtain⟨h1,h2,h3,h4,_⟩:=h;have e:gc mj NN (ls,4,0,cs,ls,())=some (.inr (ls,4,4,false,cs,ls,())):=by
  refine nV (st:=λk=>(ls,4,(k:Int),cs,ls,())) (n:=4) (by unfold NN;omega) ?_ ?_;intro k hk;unfold mj;dsimp only;refine fT (λZ'=>?_) λZ'=>?_;rw[fX];simp only[oBS];refine f7 λx hx=>?_;rcases h4 k x hx with⟨e1,e2,e3⟩|⟨g1,g2,g3,g4,g5⟩;rw[e1,e2,e3]
  (simp (disch:=omega) only [gD,gp,gf,gh])
  exact fR rfl;rw[show(x.1==-1)=false by rw[beq_eq_false_iff_ne];omega,oDF (show ¬x.1<0 by omega),oDF (show ¬x.1>=128 by omega),oTE g1,g3,g4,LY (by omega) g5];simp;refine Ok.bind (P:=(·=(ls,4,(k:Int),false,cs,ls,()))) ?_ ?_;refine ge (λh=>by cases h) λ_=>fR rfl;rintro _ rfl;dsimp only;simp only[oCF]
  (simp (disch:=omega) only [gD,gp,gf,gh])
  exact fR rfl;omega;unfold mj;exact fR rfl
 refine gU ?_;unfold pj;delta f6;simp only[h1,h3,LY (show cs.length<=1000 by omega) h2,oBS,oNT];refine Ok.bind (P:=(·=(false,cs,ls,()))) ?_ ?_;exact fR rfl;rintro _ rfl;dsimp only;simp only[oCF];rw[h3,show((4:Nat):Int)=4 from rfl,e];exact fR rfl
theorem L7{K:Int->Prop}{t:DTh}(h:zG K 1099511627776 t):pf t.1 t.2.1 t.2.2.1 t.2.2.2.1 t.2.2.2.2.1 t.2.2.2.2.2.1 t.2.2.2.2.2.2.1 t.2.2.2.2.2.2.2=some (true,()):=by
 obtain⟨⟨a1,a2⟩,hl,hr,⟨b1,b2⟩,⟨c1,c2⟩,⟨d1,d2⟩,⟨e1,e2⟩,⟨f1,f2⟩,_⟩:=h;obtain⟨s,rs,pc,ct,ha,sa,tr,co⟩:=t;dsimp only at *;have e:gc me NN (rs,(rs.length:Int),0,s,rs,pc,ct,ha,sa,tr,co,())=some (.inr (rs,(rs.length:Int),(rs.length:Int),false,s,rs,pc,ct,ha,sa,tr,co,())):=by
  refine nV (st:=λk=>(rs,(rs.length:Int),(k:Int),s,rs,pc,ct,ha,sa,tr,co,())) (n:=rs.length) (by unfold NN;omega) ?_ ?_;intro k hk;unfold me;refine fT (λZ'=>?_) λZ'=>?_;rw[fX];refine f7 λx hx=>?_;have:=hr x (fZ hx);unfold nc;rw[oDT (show x.1<=2 from this.2.1)]
  (simp (disch:=omega) only [gD,gp,gf,gh])
  exact fR rfl;omega;unfold me;refine fT (λZ'=>?_) λZ'=>?_;omega;exact fR rfl
 refine gU ?_;unfold pf;delta f6;try dsimp only
 rw[e];dsimp only;rw[hl];refine fS (oDT a1) (fS (oDT a2) (fS rfl (fS (oDT b1) (fS (oDT b2) (fS (oDT c1) (fS (oDT c2) (fS (oDT d1) (fS (oDT d2) (fS (oDT e1) (fS (oDT e2) (fS (oDT f1) ?_)))))))))));exact fR (by simp_all)
theorem rO{code:F_}{ss bs:M_}{d:j_}{n key:Int}{cs:C_}{ls:G_}{ts:J_}(hp:kL code ss d)(h:MOk n ss bs cs ls ts)(hn:n<=1099511627776):iS code ss d bs key cs ls ts=some (true,()):=by
 have ⟨h1,h2,h3,h4⟩:=h;have e:gc oU NN (ts,4,0,bs,key,cs,ls,ts,())=some (.inr (ts,4,4,false,bs,key,cs,ls,ts,())):=by
  refine nV (st:=λk=>(ts,4,(k:Int),bs,key,cs,ls,ts,())) (n:=4) (by unfold NN;omega) ?_ ?_;intro k hk;unfold oU;refine fT (λZ'=>?_) λZ'=>?_;rw[fX];refine f7 λx hx=>?_;have ht:=h4 x (fZ hx);rw[L7 ⟨ht.state,ht.len,ht.regs,ht.pc,⟨ht.count.1,by have:=ht.count.2;omega⟩,ht.handler,ht.saved,ht.trap,ht.code⟩]
  (simp (disch:=omega) only [gD,gp,gf,gh])
  exact fR rfl;omega;exact fR rfl
 refine gU ?_;unfold iS;rw[GS hp,vp h1,L8 h2];delta f6;simp only[oBS,oNT,oCF,oBN,h3];rw[show((4:Nat):Int)=4 from rfl,e];exact fR rfl
def gO:G_:=[(-1,false,[]),(-1,false,[]),(-1,false,[]),(-1,false,[])]
theorem LQ:pm=some (gO,()):=by kernel_rfl
theorem Jj{K:Int->Prop}{cs:C_}(h:cs.length=512)(hc:∀c∈cs,n7 K c):i9 K cs gO:=by
 have key:∀(i:Nat) x,gO[i]?=some x->x=(-1,false,[]):=λi x hx=>by have:=fZ hx;simp[gO]at this;exact this
 exact⟨h,hc,rfl,λi x hx=>by rw[key i x hx];exact .inl ⟨rfl,rfl,rfl⟩,λi x hx=>by rw[key i x hx];exact .inl rfl⟩
theorem g8{α:Type}{P:α->Prop}{l:List α}{i:Nat}{f:α->α}(h:∀x∈l,P x)(hf:∀x,P x->P (f x)):∀x∈List.modify l i f,P x:=by intro x hx;have ⟨j,hj⟩:=List.getElem?_of_mem hx;grind
theorem TU{code:F_}{ss bs:M_}{d:j_}{key:Int}(hp:kL code ss d)(hl:LV bs ss):Ok (qZ code ss d bs key) λr=>∃cs,r=(cs,gO,0,())/\cs.length=512/\∀c∈cs,n7 (λ_=>False) c:=by
 unfold qZ;rw[vp hl,LQ];delta f6;simp only[oBS,oNT,oCF,hp.len,oBN];refine fS (by decide) ?_;obtain⟨t,e,ht⟩:=gZ (f:=qi) (n:=NN) (s:=(d,(ss.length:Int),0,code,ss,d,bs,key,(),(),List.replicate 512 (0,0),gO,())) (P:=λs'=>∃k:Nat,∃cs,s'=(d,(ss.length:Int),(k:Int),code,ss,d,bs,key,(),(),cs,gO,())/\k<=ss.length/\cs.length=512/\∀c∈cs,n7 (λ_=>False) c) (R:=λr=>∃a b c e cs,r=.inr (a,b,c,e,code,ss,d,bs,key,(),(),cs,gO,())/\cs.length=512/\∀c∈cs,n7 (λ_=>False) c) (m:=λs'=>(s'.2.1-s'.2.2.1).toNat) ⟨0,_,rfl,by omega,List.length_replicate,λc hc=>by rw[List.eq_of_mem_replicate hc];exact kj (by decide)⟩ (by unfold NN;dsimp only;have:=hp.sz.2.1;omega) (by
  rintro _ ⟨k,cs,rfl,hk,ZO,ZK⟩;unfold qi;dsimp only;have hlen:=hp.len;have Xc:=hp.sz.2.1;refine fT (λZ'=>?_) λZ'=>?_;rw[fX];delta f6;simp only[oBS];refine f7 λx hx=>?_;refine f7 λy hy=>?_;have hf:=hp.fit k x y hx hy;have W9:=hp.num x (fZ hx);obtain⟨_,hbl,hr⟩:=hl;have hrk:=hr k (by omega);unfold xn at hrk;obtain⟨b,hb⟩:=gv bs k (by omega);rw[gr hb,gr hy]at hrk;refine fT (λZ3=>?_) λZ3=>?_;omega;refine gP (P:=λs'=>∃j:Nat,∃cs,s'=((k:Int),d,(ss.length:Int),(k:Int),x,(x.length:Int),(j:Int),code,ss,d,bs,key,(),(),cs,gO,())/\j<=x.length/\cs.length=512/\∀c∈cs,n7 (λ_=>False) c)
   (R:=λr=>∃a b c e cs,r=(a,d,(ss.length:Int),(k:Int),b,c,e,false,code,ss,d,bs,key,(),(),cs,gO,())/\cs.length=512/\∀c∈cs,n7 (λ_=>False) c) (m:=λs'=>(s'.2.2.2.2.2.1-s'.2.2.2.2.2.2.1).toNat)
   ⟨0,cs,rfl,by omega,ZO,ZK⟩ (by unfold NN;dsimp only;omega) ?_ ?_
  rintro _ ⟨j,cs,rfl,hj,ZO,ZK⟩;unfold uh;dsimp only;refine fT (λhcc=>?_) λhcc=>?_;rw[fX,fX];simp only[oBS];refine f7 λv hv=>?_;have Xk:=W9 v (fZ hv);rw[show fU bs k=some b from hb];simp only[oBS]
  (simp (disch:=omega) only [gD,gp,gf,gh])
  refine gV λa ha=>?_;refine f7 λc hc=>?_;refine f7 λc' Y1=>?_;exact fR ⟨⟨j+1,_,rfl,by omega,by rw[oLM];exact ZO,g8 ZK λz hz=>⟨hz.1,hz.2.1,Xk.1,Xk.2,hz.2.2.2.2⟩⟩,by dsimp only;omega⟩;exact fR ⟨_,_,_,_,_,rfl,ZO,ZK⟩;rintro _ ⟨a,b,c,e,cs,rfl,ZO,ZK⟩;dsimp only
  (simp (disch:=omega) only [gD,gp,gf,gh])
  exact fR ⟨⟨k+1,_,rfl,by omega,ZO,ZK⟩,by dsimp only;omega⟩;exact fR ⟨_,_,_,_,_,rfl,ZO,ZK⟩)
 rw[e];obtain⟨a,b,c,e,cs,rfl,ZO,ZK⟩:=ht;exact fR ⟨cs,rfl,ZO,ZK⟩
theorem UI{K:Int->Prop}:∀c∈List.replicate 8 ((0:Int),(0:Int)),n7 K c:=λc hc=>by rw[List.eq_of_mem_replicate hc];exact kj (by decide)
theorem S4{K:Int->Prop}{s:Int}(h:0<=s/\s<=4):zG K 0 (s,List.replicate 8 (0,0),0,0,-1,-1,0,0):=⟨h,rfl,UI,⟨by simp_all,by simp_all⟩,⟨by simp_all,by simp_all⟩,⟨by simp_all,by simp_all⟩,⟨by simp_all,by simp_all⟩,⟨by simp_all,by simp_all⟩,⟨by simp_all,by simp_all⟩⟩
def Pr(ss:M_)(c:DCn):Prop:=((c.1=0\/c.1=2)/\c.2.2.1=0/\c.2.2.2=0/\W16 c.2.1)\/(c.1=1/\c.2.1=0/\0<=c.2.2.1/\∃n,ss[c.2.2.1.toNat]?=some n/\0<=c.2.2.2/\c.2.2.2<n)
theorem Jr{ss:M_}{c:DCn}(hs:AJ ss)(h:Pr ss c):mz c.1 c.2.1 c.2.2.1 c.2.2.2=some (true,()):=by
 refine gU ?_;unfold mz;rcases h with⟨h1,h2,h3,_⟩|⟨h1,h2,h3,n,h4,h5,h6⟩;rw[h2,h3];rcases h1 with h1|h1<;>rw[h1]<;>exact fR rfl
 have hn:=hs.2.2 n (fZ h4);have hl:=(oGS h4).1;have Xc:=hs.2.1;rw[h1,h2,show(c.2.2.1==-1)=false by rw[beq_eq_false_iff_ne];omega];refine ge (λh=>by cases h) λ_=>ge (λh=>by cases h) λ_=>fS rfl ?_;refine ge (λh=>by cases h) λ_=>fS rfl ?_;exact fS (oDT h3) (fS (oDT (by omega)) (fS (oDT h5) (fR (by rw[oDT (show c.2.2.2<32 by omega)]))))
theorem mD{ss:M_}{l:D_}{n:Int}(hs:AJ ss)(h:∀c∈l,Pr ss c)(hn:(l.length:Int)<=n)(hl:l.length<=1000):iu l n=some (true,()):=by
 have e:gc md NN (l,n,l,(l.length:Int),0,())=some (.inr (l,n,l,(l.length:Int),(l.length:Int),false,())):=by
  refine nV (st:=λk=>(l,n,l,(l.length:Int),(k:Int),())) (n:=l.length) (by unfold NN;omega) ?_ ?_;intro k hk;unfold md;refine fT (λZ'=>?_) λZ'=>?_;rw[fX];refine f7 λx hx=>?_;rw[Jr hs (h x (fZ hx))]
  (simp (disch:=omega) only [gD,gp,gf,gh])
  exact fR rfl;omega;unfold md;refine fT (λZ'=>?_) λZ'=>?_;omega;exact fR rfl
 refine gU ?_;unfold iu;delta f6;try dsimp only
 rw[e];exact fR (congrArg (λb=>(b,())) (oDT hn))
def Uu(d:i_)(o:DOp):Prop:=(o.1=-1/\o.2.1=0/\o.2.2=false)\/(0<=o.1/\∃x,d[o.1.toNat]?=some x/\0<=o.2.1/\o.2.1<=x.length)
structure iI (ss:M_)(d:i_)(os:H_):Prop where
 dlen:d.length<=4
 flen:∀x∈d,x.length<=64
 cells:∀x∈d,∀c∈x,Pr ss c
 olen:os.length=8
 opens:∀o∈os,Uu d o
theorem Ec{ss:M_}{d:i_}{os:H_}(hs:AJ ss)(h:iI ss d os):mP d os=some (true,()):=by
 obtain⟨h1,h2,h3,h4,h5⟩:=h;have e0:gc mb NN (d,(d.length:Int),0,d,os,())=some (.inr (d,(d.length:Int),(d.length:Int),false,d,os,())):=by
  refine nV (st:=λk=>(d,(d.length:Int),(k:Int),d,os,())) (n:=d.length) (by unfold NN;omega) ?_ ?_;intro k hk;unfold mb;dsimp only;refine fT (λZ'=>?_) λZ'=>?_;rw[fX];simp only[oBS];refine f7 λx hx=>?_;have:=h2 x (fZ hx);rw[mD hs (h3 x (fZ hx)) (by omega) (by omega)];simp only[oBS,oNT,oCF]
  (simp (disch:=omega) only [gD,gp,gf,gh])
  exact fR rfl;omega;unfold mb;dsimp only;refine fT (λZ'=>?_) λZ'=>?_;omega;exact fR rfl
 have e2:gc oS NN (os,8,0,d,os,())=some (.inr (os,8,8,false,d,os,())):=by
  refine nV (st:=λk=>(os,8,(k:Int),d,os,())) (n:=8) (by unfold NN;omega) ?_ ?_;intro k hk;unfold oS;dsimp only;refine fT (λZ'=>?_) λZ'=>?_;rw[fX];simp only[oBS];refine f7 λx hx=>?_;obtain⟨f,o,w⟩:=x;refine Ok.bind (P:=(·=(os,8,(k:Int),false,d,os,f,o,w,()))) ?_ ?_;rcases h5 _ (fZ hx)with⟨g1,g2,g3⟩|⟨g1,y,g2,g3,g4⟩;have g1:f=-1:=g1;have g2:o=0:=g2;have g3:w=false:=g3;subst g1 g2 g3;dsimp only;refine fS rfl (ge (λh=>by cases h) λ_=>ge (λh=>by cases h) λ_=>ge (λh=>by cases h) λ_=>ge (λh=>?_) λ_=>ge (λh=>by cases h) λ_=>fR rfl);have h:(-1:Int)>=(d.length:Int):=of_decide_eq_true h;omega;dsimp only at g1 g2 g3 g4⊢;have hl:=(oGS g2).1;rw[show(f==-1)=false by rw[beq_eq_false_iff_ne];omega,oDF (show ¬f < -1 by omega)];simp only[oCF];refine ge (λh=>?_) λ_=>fS (oDT g1) ?_;have h:f>=(d.length:Int):=of_decide_eq_true h;omega;rw[oDF (show ¬o<0 by omega)];simp only[oCF];refine jv g1 λj hj=>?_;refine f7 λz hz=>?_;have hjj:j=f.toNat:=by omega
  subst hjj;rw[g2]at hz;injection hz with hz
  subst hz;exact fR (by rw[oDF (show ¬o>f6 y.length from λh=>by rw[gh]at h;omega)]);rintro _ rfl;dsimp only;simp only[oCF]
  (simp (disch:=omega) only [gD,gp,gf,gh])
  exact fR rfl;omega;exact fR rfl
 refine gU ?_;unfold mP;delta f6;try dsimp only
 refine fT (λZ'=>?_) λZ'=>?_;omega;rw[h4];rw[e0];dsimp only;rw[h4,show((8:Nat):Int)=8 from rfl,e2];exact fR rfl
def UC(ss:M_)(i:Nat)(x:DOu):Prop:=x.1=i/\0<=x.2.1/\x.2.1<2/\x.2.2.length<=16/\∀c∈x.2.2,Pr ss c
structure vQ (ss:M_)(ck rn:M_)(ins:j_)(d:i_)(os:H_)(us:I_):Prop where
 clock:ck.length<=64/\∀w∈ck,W16 w
 rand:rn.length<=64/\∀w∈rn,W16 w
 ilen:ins.length<=2
 inp:∀x∈ins,x.length<=64/\∀w∈x,W16 w
 files:iI ss d os
 ulen:us.length<=200
 outs:∀(i:Nat) x,us[i]?=some x->UC ss i x
theorem ME{ss:M_}{us:I_}(hl:us.length<=200)(h:∀(i:Nat) x,us[i]?=some x->UC ss i x):mO us=some (true,()):=by
 have e:gc kF NN (us,(us.length:Int),0,())=some (.inr (us,(us.length:Int),(us.length:Int),false,())):=by
  refine nV (st:=λk=>(us,(us.length:Int),(k:Int),())) (n:=us.length) (by unfold NN;omega) ?_ ?_;intro k hk;unfold kF;refine fT (λZ'=>?_) λZ'=>?_;rw[fX];refine f7 λx hx=>?_;have ⟨g1,g2,g3,g4,g5⟩:=h k x hx;rw[g1,oDF (show ¬x.2.1<0 by omega),oDF (show ¬x.2.1>=2 by omega)];simp;refine ge (λh=>?_) λ_=>?_;have h:(x.2.2.length:Int)>16:=of_decide_eq_true h;omega
  ·(simp (disch:=omega) only [gD,gp,gf,gh])
   exact fR rfl
  omega;unfold kF;refine fT (λZ'=>?_) λZ'=>?_;omega;exact fR rfl
 refine gU ?_;unfold mO;delta f6;try dsimp only
 rw[e];exact fR rfl
theorem vo{ss ck rn:M_}{ins:j_}{d:i_}{os:H_}{us:I_}(hs:AJ ss)(h:vQ ss ck rn ins d os us):lw ck rn ins d os us=some (true,()):=by
 have e0:gc ma NN (ins,(ins.length:Int),0,ck,rn,ins,d,os,us,())=some (.inr (ins,(ins.length:Int),(ins.length:Int),false,ck,rn,ins,d,os,us,())):=by
  refine nV (st:=λk=>(ins,(ins.length:Int),(k:Int),ck,rn,ins,d,os,us,())) (n:=ins.length) (by unfold NN;have:=h.ilen;omega) ?_ ?_;intro k hk;have hil:=h.ilen;unfold ma;dsimp only;refine fT (λZ'=>?_) λZ'=>?_;rw[fX];delta f6;simp only[oBS];refine f7 λx hx=>?_;have:=(h.inp x (fZ hx)).1;refine fT (λZ3=>?_) λZ3=>?_;omega
  ·(simp (disch:=omega) only [gD,gp,gf,gh])
   exact fR rfl
  omega;unfold ma;dsimp only;refine fT (λZ'=>?_) λZ'=>?_;omega;exact fR rfl
 have e1:gc l9 NN (us,(us.length:Int),0,ck,rn,ins,d,os,us,())=some (.inr (us,(us.length:Int),(us.length:Int),false,ck,rn,ins,d,os,us,())):=by
  refine nV (st:=λk=>(us,(us.length:Int),(k:Int),ck,rn,ins,d,os,us,())) (n:=us.length) (by unfold NN;have:=h.ulen;omega) ?_ ?_;intro k hk;have hul:=h.ulen;unfold l9;dsimp only;refine fT (λZ'=>?_) λZ'=>?_;rw[fX];simp only[oBS];refine f7 λx hx=>?_;obtain⟨_,_,_,g4,g5⟩:=h.outs k x hx;rw[mD hs g5 (by omega) (by omega)]
  (simp (disch:=omega) only [gD,gp,gf,gh])
  exact fR rfl;omega;unfold l9;dsimp only;refine fT (λZ'=>?_) λZ'=>?_;omega;exact fR rfl
 have c1:=h.clock.1;have c2:=h.rand.1;have c3:=h.ilen;have c4:=h.ulen;refine gU ?_;unfold lw;delta f6;try dsimp only
 rw[e0];dsimp only;rw[e1];dsimp only;refine fS (oDT (show(ck.length:Int)<=64 by omega)) (fS (oDT (show(rn.length:Int)<=64 by omega)) (fS (oDT (show(ins.length:Int)<=2 by omega)) ?_));rw[Ec hs h.files];refine fS (oDT (show(us.length:Int)<=200 by omega)) ?_;rw[ME h.ulen h.outs];exact fR rfl
def sW:H_:=List.replicate 8 (-1,0,false)
theorem Rf(a:j_):gc vY NN (a,8,0,(),(),(),List.replicate 8 (0,(0,false)),())=some (a,8,8,false,(),(),(),sW,()):=by rfl
theorem Rl{ss:M_}{a:j_}(hs:AJ ss)(hl:a.length<=4)(h:∀x∈a,x.length<=64/\∀w∈x,W16 w):Ok (sx a) λr=>∃d,r=(d,sW,0,())/\iI ss d sW:=by
 unfold sx;refine fS (by decide) ?_;dsimp only;rw[show f6 (List.replicate 8 ((0:Int),((0:Int),false))).length=8 from rfl,Rf];delta f6;simp only[oBS];refine gP (P:=λs'=>∃k:Nat,∃d,s'=(a,(a.length:Int),(k:Int),(),(),d,sW,())/\k<=a.length/\d.length=k/\(∀x∈d,x.length<=64)/\∀x∈d,∀c∈x,Pr ss c)
  (R:=λr=>∃e b c f d,r=(e,b,c,f,(),(),d,sW,())/\d.length<=4/\(∀x∈d,x.length<=64)/\∀x∈d,∀c∈x,Pr ss c) (m:=λs'=>(s'.2.1-s'.2.2.1).toNat) ⟨0,[],rfl,by omega,rfl,gy,gy⟩ (by unfold NN;dsimp only;omega) ?_ ?_
 rintro _ ⟨k,d,rfl,hk,Yn,hd2,XF⟩;unfold vV;dsimp only;refine fT (λZ'=>?_) λZ'=>?_;rw[fX];delta f6;simp only[oBS];refine f7 λx hx=>?_;obtain⟨Z2,YA⟩:=h x (fZ hx);refine gP (P:=λs'=>∃j:Nat,∃l,s'=(a,(a.length:Int),(k:Int),x,(x.length:Int),(j:Int),(),(),d,sW,l,())/\j<=x.length/\l.length=j/\∀c∈l,Pr ss c)
  (R:=λr=>∃b c e f l,r=(a,(a.length:Int),(k:Int),b,c,e,f,(),(),d,sW,l,())/\l.length<=64/\∀c∈l,Pr ss c) (m:=λs'=>(s'.2.2.2.2.1-s'.2.2.2.2.2.1).toNat) ⟨0,[],rfl,by omega,rfl,gy⟩ (by unfold NN;dsimp only;omega) ?_ ?_
 rintro _ ⟨j,l,rfl,hj,Xu,Yb⟩;unfold vW;dsimp only;refine fT (λZ3=>?_) λZ3=>?_;rw[fX];simp only[oBS];refine f7 λv hv=>?_;refine fS (gd (by simp;omega)) ?_
 (simp (disch:=omega) only [gD,gp,gf,gh])
 exact fR ⟨⟨j+1,_,rfl,by omega,by rw[iq,Xu];rfl,lh Yb (all_cons (.inl ⟨.inl rfl,rfl,rfl,YA v (fZ hv)⟩) gy)⟩,by dsimp only;omega⟩;exact fR ⟨_,_,_,_,_,rfl,by omega,Yb⟩;rintro _ ⟨b,c,e,f,l,rfl,Xu,Yb⟩;dsimp only;refine fS (gd (by simp;omega)) ?_
 (simp (disch:=omega) only [gD,gp,gf,gh])
 exact fR ⟨⟨k+1,_,rfl,by omega,by rw[iq,Yn];rfl,lh hd2 (all_cons Xu gy),lh XF (all_cons Yb gy)⟩,by dsimp only;omega⟩;exact fR ⟨_,_,_,_,_,rfl,by omega,hd2,XF⟩;rintro _ ⟨e,b,c,f,d,rfl,Yn,hd2,XF⟩;have hf:iI ss d sW:=⟨Yn,hd2,XF,rfl,λo ho=>by rw[List.eq_of_mem_replicate ho];exact .inl ⟨rfl,rfl,rfl⟩⟩;dsimp only;rw[Ec hs hf];exact fR ⟨d,rfl,hf⟩
theorem CI{a:j_}(hl:a.length<=1000)(h:∀x∈a,x.length<=1000):iK a=some (a,()):=by
 have e:gc iF NN (a,(a.length:Int),0,[],())=some (a,(a.length:Int),(a.length:Int),false,a,()):=by
  have:=nV (f:=iF) (N:=NN) (st:=λk=>(a,(a.length:Int),(k:Int),a.take k,())) (n:=a.length) (t:=(a,(a.length:Int),(a.length:Int),false,a,())) (by unfold NN;omega) ?_ ?_;exact this;intro k hk;unfold iF;refine fT (λZ'=>?_) λZ'=>?_;rw[fX];refine f7 λx hx=>?_;have:=h x (fZ hx);refine fS (gd (by omega)) (fS (gd (by simp;omega)) ?_)
  (simp (disch:=omega) only [gD,gp,gf,gh])
  refine fR ?_;rw[List.take_add_one,hx];rfl;omega;unfold iF;refine fT (λZ'=>?_) λZ'=>?_;omega;rw[List.take_length];exact fR rfl
 refine gU ?_;unfold iK;delta f6;try dsimp only
 rw[e];exact fR rfl
theorem MD{ss l:M_}{k:Int}(hs:AJ ss)(h:DOk l k):Ok (om l k) λr=>∃ck rn ins d os k',r=(ck,rn,ins,d,os,(),l,k',())/\vQ ss ck rn ins d os []/\DOk l k':=by unfold om;refine(sm h (by decide)).bind ?_;rintro _ ⟨w1,k1,rfl,h1,g1,d1⟩;refine(sm d1 (by decide)).bind ?_;rintro _ ⟨w2,k2,rfl,h2,g2,d2⟩;dsimp only;refine(sm d2 (by decide)).bind ?_;rintro _ ⟨w3,k3,rfl,h3,g3,d3⟩;dsimp only;refine(sm d3 (by decide)).bind ?_;rintro _ ⟨w4,k4,rfl,h4,g4,d4⟩;dsimp only;refine(sm d4 (by decide)).bind ?_;rintro _ ⟨w5,k5,rfl,h5,g5,d5⟩;dsimp only;refine(sm d5 (by decide)).bind ?_;rintro _ ⟨w6,k6,rfl,h6,g6,d6⟩;dsimp only;refine Ok.bind (P:=λr=>∃ck rn ins d os,r=(ck,rn,ins,d,os,(),0,())/\vQ ss ck rn ins d os []) ?_ ?_;unfold sw;refine(Rl (ss:=ss) (a:=[w1,w2]) hs (by simp) (all_cons ⟨by omega,g1⟩ (all_cons ⟨by omega,g2⟩ gy))).bind ?_;rintro _ ⟨d,rfl,hf⟩;refine ge (λh=>by cases h) λ_=>?_;refine fS (gd (by omega)) (fS (gd (by omega)) ?_);have ho:vQ ss w5 w6 [w3,w4] d sW []:=⟨⟨by omega,g5⟩,⟨by omega,g6⟩,by simp,all_cons ⟨by omega,g3⟩ (all_cons ⟨by omega,g4⟩ gy),hf,by simp,λi x hx=>by simp_all⟩;rw[CI (by simp) (all_cons (by omega) (all_cons (by omega) gy))];simp only[oBS];rw[show List.append [] w5=w5 from rfl,show List.append [] w6=w6 from rfl,vo hs ho];exact fR ⟨_,_,_,_,_,rfl,ho⟩;rintro _ ⟨ck,rn,ins,d,os,rfl,ho⟩;exact fR ⟨_,_,_,_,_,_,rfl,ho,d6⟩
theorem xX{ss:M_}{r o n:Int}(h1:0<=r)(h2:ss[r.toNat]?=some n)(h3:0<=o)(h4:o<n):hU ss r o=some (true,()):=by refine gU ?_;have hl:=(oGS h2).1;refine fS (oDT h1) (fS (oDT (show r<(ss.length:Int) by omega)) (fS (oDT h3) ?_));obtain⟨j,rfl⟩:∃j:Nat,r=j:=⟨r.toNat,by omega⟩;rw[fX];simp;rw[show fU ss j=some n from h2];exact fR (by simp_all)
theorem mt{ss:M_}{c:DCn}(h:Pr ss c):it ss c.1 c.2.1 c.2.2.1 c.2.2.2=some (true,()):=by
 refine gU ?_;unfold it;rcases h with⟨h1,h2,h3,_⟩|⟨h1,h2,h3,n,h4,h5,h6⟩;rw[h2,h3];rcases h1 with h1|h1<;>rw[h1]<;>exact fR rfl
 rw[h1,h2,xX h3 h4 h5 h6];exact fR rfl
theorem JV{ss:M_}{d:i_}{os:H_}(h:iI ss d os):n9 ss d os=some (true,()):=by
 obtain⟨h1,h2,h3,h4,h5⟩:=h;have e0:gc lr NN (ss,d,(d.length:Int),0,d,os,())=some (.inr (ss,d,(d.length:Int),(d.length:Int),false,d,os,())):=by
  refine nV (st:=λk=>(ss,d,(d.length:Int),(k:Int),d,os,())) (n:=d.length) (by unfold NN;omega) ?_ ?_;intro k hk;unfold lr;dsimp only;refine fT (λZ'=>?_) λZ'=>?_;rw[fX];delta f6;refine f7 λx hx=>?_;have Z2:=h2 x (fZ hx);have e:gc lu NN (ss,d,(d.length:Int),(k:Int),x,(x.length:Int),0,d,os,())=some (.inr (ss,d,(d.length:Int),(k:Int),x,(x.length:Int),(x.length:Int),false,d,os,())):=by
   refine nV (st:=λj=>(ss,d,(d.length:Int),(k:Int),x,(x.length:Int),(j:Int),d,os,())) (n:=x.length) (by unfold NN;omega) ?_ ?_;intro j hj;unfold lu;refine fT (λZ'=>?_) λZ'=>?_;rw[fX];refine f7 λy hy=>?_;rw[mt (h3 x (fZ hx) y (fZ hy))]
   (simp (disch:=omega) only [gD,gp,gf,gh])
   exact fR rfl;omega;unfold lu;refine fT (λZ'=>?_) λZ'=>?_;omega;exact fR rfl
  rw[e];dsimp only
  (simp (disch:=omega) only [gD,gp,gf,gh])
  exact fR rfl;omega;unfold lr;dsimp only;refine fT (λZ'=>?_) λZ'=>?_;omega;exact fR rfl
 refine gU ?_;unfold n9;delta f6;try dsimp only
 rw[e0];exact fR rfl
theorem copy17_ok{d:i_}{os:H_}(h1:d.length<=1000)(h2:∀x∈d,x.length<=1000)(h3:os.length<=1000):jd d os=some (d,os,()):=by
 have e:gc kQ NN (d,(d.length:Int),0,d,os,(),(),[],os,())=some (d,(d.length:Int),(d.length:Int),false,d,os,(),(),d,os,()):=by
  have:=nV (f:=kQ) (N:=NN) (st:=λk=>(d,(d.length:Int),(k:Int),d,os,(),(),d.take k,os,())) (n:=d.length) (t:=(d,(d.length:Int),(d.length:Int),false,d,os,(),(),d,os,())) (by unfold NN;omega) ?_ ?_;exact this;intro k hk;unfold kQ;refine fT (λZ'=>?_) λZ'=>?_;rw[fX];refine f7 λx hx=>?_;have:=h2 x (fZ hx);refine fS (gd (by omega)) (fS (gd (by simp;omega)) ?_)
  (simp (disch:=omega) only [gD,gp,gf,gh])
  refine fR ?_;rw[List.take_add_one,hx];rfl;omega;unfold kQ;refine fT (λZ'=>?_) λZ'=>?_;omega;rw[List.take_length];exact fR rfl
 refine gU ?_;refine fS (gd (by omega)) ?_;rw[show List.append [] os=os from rfl];delta f6;try dsimp only
 rw[e];exact fR rfl
theorem CK{us:I_}(h1:us.length<=1000)(h2:∀x∈us,x.2.2.length<=1000):kP us=some (us,()):=by
 have e:gc kO NN (us,(us.length:Int),0,[],())=some (us,(us.length:Int),(us.length:Int),false,us,()):=by
  have:=nV (f:=kO) (N:=NN) (st:=λk=>(us,(us.length:Int),(k:Int),us.take k,())) (n:=us.length) (t:=(us,(us.length:Int),(us.length:Int),false,us,())) (by unfold NN;omega) ?_ ?_;exact this;intro k hk;unfold kO;refine fT (λZ'=>?_) λZ'=>?_;rw[fX];refine f7 λx hx=>?_;have:=h2 x (fZ hx);refine fS (gd (by omega)) (fS (gd (by simp;omega)) ?_)
  (simp (disch:=omega) only [gD,gp,gf,gh])
  refine fR ?_;rw[List.take_add_one,hx];rfl;omega;unfold kO;refine fT (λZ'=>?_) λZ'=>?_;omega;rw[List.take_length];exact fR rfl
 refine gU ?_;unfold kP;delta f6;try dsimp only
 rw[e];exact fR rfl
theorem CJ{ss ck rn:M_}{ins:j_}{d:i_}{os:H_}{us:I_}(h:vQ ss ck rn ins d os us):qQ ck rn ins d os us=some (ck,rn,ins,d,os,us,()):=by
 have h1:=h.clock.1;have h2:=h.rand.1;have h3:=h.ilen;have h4:=h.ulen;have h5:=h.files.olen;have h6:=h.files.dlen;refine gU ?_;refine fS (gd (by omega)) (fS (gd (by omega)) ?_);rw[CI (by omega) (λx hx=>by have:=(h.inp x hx).1;omega),copy17_ok (by omega) (λx hx=>by have:=h.files.flen x hx;omega) (by omega),CK (by omega) (λx hx=>by
  have ⟨i,hi⟩:=List.getElem?_of_mem hx;have:=(h.outs i x hi).2.2.2.1
  omega)]
 exact fR rfl
theorem Pe:wQ=some ([-1,-1,-1,-1],[[],[],[],[]],()):=by kernel_rfl
structure kD (ow:M_)(qs:j_):Prop where
 olen:ow.length=4
 qlen:qs.length=4
 owner:∀o∈ow,-1<=o/\o<=3
 queue:∀q∈qs,q.Nodup/\∀t∈q,0<=t/\t<=3
theorem O5:∀{n:Nat}{q:M_},q.Nodup->(∀t∈q,0<=t/\t<n)->q.length<=n:=by
 intro n;induction n with
 |zero=>intro q _ h;cases q with|nil=>simp|cons x q=>have:=h x (by simp);omega
 |succ n ih=>
 intro q hq h;have h1:(q.erase (n:Int)).Nodup:=hq.erase _;have h2:∀t∈q.erase (n:Int),0<=t/\t<n:=λt ht=>by have hm:=(hq.mem_erase_iff).1 ht;have:=h t hm.2;omega
 have h3:=ih h1 h2;have h4:=List.length_erase (a:=(n:Int)) (l:=q);split at h4<;>omega
theorem kD.qlen4{ow:M_}{qs:j_}(h:kD ow qs){q:M_}(hq:q∈qs):q.length<=4:=O5 (h.queue q hq).1 λt ht=>by have:=(h.queue q hq).2 t ht;omega
theorem U9:kD [-1,-1,-1,-1] [[],[],[],[]]:=⟨rfl,rfl,by decide,by decide⟩
theorem VL.len{K:Int->Prop}{i:Nat}{x:DLn}(h:VL K i x):x.2.2.length<=4:=by rcases h with⟨_,_,h⟩|⟨_,_,_,h,_⟩;simp_all;omega
theorem PU{K:Int->Prop}{cs:C_}{ls:G_}(h:i9 K cs ls):q7 cs ls=some (cs,ls,()):=by
 obtain⟨h1,h2,h3,h4,_⟩:=h;have e:gc kX NN (ls,(ls.length:Int),0,cs,ls,(),(),cs,[],())=some (ls,(ls.length:Int),(ls.length:Int),false,cs,ls,(),(),cs,ls,()):=by
  have:=nV (f:=kX) (N:=NN) (st:=λk=>(ls,(ls.length:Int),(k:Int),cs,ls,(),(),cs,ls.take k,())) (n:=ls.length) (t:=(ls,(ls.length:Int),(ls.length:Int),false,cs,ls,(),(),cs,ls,())) (by unfold NN;omega) ?_ ?_;exact this;intro k hk;unfold kX;refine fT (λZ'=>?_) λZ'=>?_;rw[fX];refine f7 λx hx=>?_;have:=(h4 k x hx).len;refine fS (gd (by omega)) (fS (gd (by simp;omega)) ?_)
  (simp (disch:=omega) only [gD,gp,gf,gh])
  refine fR ?_;rw[List.take_add_one,hx];rfl;omega;unfold kX;refine fT (λZ'=>?_) λZ'=>?_;omega;rw[List.take_length];exact fR rfl
 refine gU ?_;unfold q7;refine fS (gd (by omega)) ?_;rw[show List.append [] cs=cs from rfl];delta f6;try dsimp only
 rw[e];exact fR rfl
theorem yf{n key:Int}{ss bs:M_}{cs:C_}{ls:G_}{ts:J_}(h:MOk n ss bs cs ls ts):kV bs key cs ls ts=some (bs,key,cs,ls,ts,()):=by
 obtain⟨h1,h2,h3,h4⟩:=h;have hb:=h1.2.1;have Xc:=h1.1.2.1;have e:gc kU NN (ts,(ts.length:Int),0,bs,key,cs,ls,ts,(),0,(),(),(),bs,key,cs,ls,[],())=some (ts,(ts.length:Int),(ts.length:Int),false,bs,key,cs,ls,ts,(),0,(),(),(),bs,key,cs,ls,ts,()):=by
  have:=nV (f:=kU) (N:=NN) (st:=λk=>(ts,(ts.length:Int),(k:Int),bs,key,cs,ls,ts,(),0,(),(),(),bs,key,cs,ls,ts.take k,())) (n:=ts.length) (t:=(ts,(ts.length:Int),(ts.length:Int),false,bs,key,cs,ls,ts,(),0,(),(),(),bs,key,cs,ls,ts,())) (by unfold NN;omega) ?_ ?_;exact this;intro k hk;unfold kU;dsimp only;refine fT (λZ'=>?_) λZ'=>?_;rw[fX];refine f7 λx hx=>?_;have:=(h4 x (fZ hx)).len;refine fS (gd (by omega)) (fS (gd (by simp;omega)) ?_)
  (simp (disch:=omega) only [gD,gp,gf,gh])
  refine fR ?_;rw[List.take_add_one,hx];rfl;omega;unfold kU;refine fT (λZ'=>?_) λZ'=>?_;omega;rw[List.take_length];exact fR rfl
 refine gU ?_;unfold kV;refine fS (gd (by omega)) ?_;rw[PU h2,show List.append [] bs=bs from rfl];delta f6;simp;rw[e];exact fR rfl
theorem vJ{α:Type}{l:List α}{i:Nat}{f:α->α}{a:α}(h:l[i]?=some a):(List.modify l i f)[i]?=some (f a):=by simp_all
theorem jW{α:Type}(l:List α)(i:Nat)(f g:α->α):List.modify (List.modify l i f) i g=List.modify l i λa=>g (f a):=by apply oEG;grind
theorem MOk.thread{n:Int}{ss bs:M_}{cs:C_}{ls:G_}{ts:J_}(h:MOk n ss bs cs ls ts){i:Nat}{t:DTh}{f:DTh->DTh}(ht:ts[i]?=some t)(hf:zG (RK bs ss) n (f t)):MOk n ss bs cs ls (List.modify ts i f):=by
 refine⟨h.lay,h.mem,by rw[oLM];exact h.tlen,λx hx=>?_⟩;have ⟨j,hj⟩:=List.getElem?_of_mem hx;by_cases hij:i=j;simp_all;simp[hij]at hj;have:ts[j]?=some x:=by simp_all
 exact h.thr x (fZ this)
theorem SM{n key:Int}{ss bs:M_}{cs:C_}{ls:G_}{ts:J_}(h:MOk n ss bs cs ls ts)(i:Int):Ok (qd bs key cs ls ts i) λr=>r.1=true->0<=i/\i<4/\∀t,ts[i.toNat]?=some t->t.2.2.2.2.1≠-1:=by
 unfold qd;delta f6;have:=h.tlen;refine fT (λZ'=>?_) λZ'=>?_;exact fR (λh=>by cases h);refine fT (λZ3=>?_) λZ3=>?_;exact fR (λh=>by cases h);refine gV λj hj=>?_;refine f7 λt ht=>?_;subst hj;refine fT (λhcc=>?_) λhcc=>?_;refine fT (λXE=>?_) λXE=>?_;exact fR (λ_=>⟨by omega,by omega,λt' ZV=>by
  rw[oTN,ht]at ZV
  injection ZV with ZV
  rw[<- ZV]
  exact XE⟩)
 exact fR (λh=>by cases h);exact fR (λh=>by cases h)
theorem S3{n WZ:Int}{ts:J_}{i:Nat}{t:DTh}(ht:ts[i]?=some t):iy i WZ ts=some (2,List.modify ts i λt=>(4,t.2.1,t.2.2.1,t.2.2.2.1,t.2.2.2.2.1,t.2.2.2.2.2.1,WZ,0),()):=by refine gU ?_;have hl:=(oGS ht).1;refine gT hl λ_ _=>?_;refine gT (by simp_all) λ_ _=>?_;refine gT (by simp_all) λ_ _=>?_;rw[jW,jW];exact fR rfl
theorem zG.ended{K:Int->Prop}{n WZ:Int}{t:DTh}(h:zG K n t)(hw:0<=WZ/\WZ<=6):zG K n (4,t.2.1,t.2.2.1,t.2.2.2.1,t.2.2.2.2.1,t.2.2.2.2.2.1,WZ,0):=⟨⟨by omega,by omega⟩,h.len,h.regs,h.pc,h.count,h.handler,h.saved,hw,⟨by simp_all,by simp_all⟩⟩
theorem ze{ss bs:M_}{key a:Int}(h:LV bs ss)(ha:0<=a/\a<=65535):Ok (gW bs key ss a) λr=>(r.2.2.1=true->∃b n,0<=r.1/\bs[r.1.toNat]?=some b/\ss[r.1.toNat]?=some n/\0<=r.2.1/\r.2.1<n/\a=b+r.2.1):=by
 obtain⟨hs,hl,hr⟩:=h;have Xc:=hs.2.1;unfold gW;delta f6;try dsimp only
 obtain⟨t,e,ht⟩:=gZ (f:=gK) (n:=NN) (s:=(ss,a,bs,(bs.length:Int),0,bs,key,0,0,())) (P:=λs'=>∃k:Nat,s'=(ss,a,bs,(bs.length:Int),(k:Int),bs,key,0,0,())/\k<=bs.length) (R:=λr=>(∃x y,r=.inl (true,x,y,())/\∃b n,0<=x/\bs[x.toNat]?=some b/\ss[x.toNat]?=some n/\0<=y/\y<n/\a=b+y)\/∃z,r=.inr z) (m:=λs'=>(s'.2.2.2.1-s'.2.2.2.2.1).toNat) ⟨0,rfl,by omega⟩ (by unfold NN;dsimp only;omega) (by
  rintro _ ⟨k,rfl,hk⟩;unfold gK;dsimp only;refine fT (λZ'=>?_) λZ'=>?_;rw[fX];simp only[oBS];obtain⟨b,hb⟩:=gv bs k (by omega);obtain⟨y,hy⟩:=gv ss k (by omega);have qN:=hs.2.2 y (fZ hy);have hrk:=hr k (by omega);unfold xn at hrk;rw[gr hb,gr hy]at hrk;rw[show fU bs k=some b from hb];rw[show fU ss k=some y from hy];simp only[oBS];rw[iD (x:=b+y)];by_cases h1:a>=b;by_cases h2:a<b+y;simp only[h1,h2,decide_true,oCT];rw[iD (x:=a-b)];exact fR (.inl ⟨_,_,rfl,b,y,by omega,by rw[oTN];exact hb,by rw[oTN];exact hy,by omega,by omega,by omega⟩);simp only[h1,h2,decide_true,decide_false,oCT,oCF]
  (simp (disch:=omega) only [gD,gp,gf,gh])
  exact fR ⟨⟨k+1,rfl,by omega⟩,by dsimp only;omega⟩;simp only[h1,decide_false,oCF]
  (simp (disch:=omega) only [gD,gp,gf,gh])
  exact fR ⟨⟨k+1,rfl,by omega⟩,by dsimp only;omega⟩;exact fR (.inr ⟨_,rfl⟩))
 rw[e];rcases ht with⟨x,y,rfl,hxy⟩|⟨z,rfl⟩;exact fR λ_=>hxy;exact fR λh=>by cases h
theorem Ew{ss:M_}{r o:Int}:Ok (hU ss r o) λx=>x.1=true->0<=r/\0<=o/\∃n,ss[r.toNat]?=some n/\o<n:=by
 unfold hU;delta f6;refine fT (λZ'=>?_) λZ'=>?_;refine fT (λZ3=>?_) λZ3=>?_;refine fT (λhcc=>?_) λhcc=>?_;refine gV λj hj=>?_;refine f7 λn hn=>?_;exact fR λh=>⟨by omega,by omega,n,by simp_all,of_decide_eq_true h⟩;exact fR λh=>by cases h
 exact fR λh=>by cases h
 exact fR λh=>by cases h
theorem BT{ss bs:M_}{key tag v n:Int}{back:Bool}(h:LV bs ss)(hv:W16 v)(hn:W16 n):Ok (iG bs key ss tag v n back) λr=>∃t x e,r=(t,x,e,())/\n7 (RK bs ss) (t,x)/\0<=e/\e<=6/\(e=0->x<512):=by
 have hz:∀e:Int,0<e->e<=6->∃t x e',((0:Int),(0:Int),e,())=(t,x,e',())/\n7 (RK bs ss) (t,x)/\0<=e'/\e'<=6/\(e'=0->x<512):=λe h1 h2=>⟨0,0,e,rfl,kj (by decide),by omega,h2,by omega⟩;obtain⟨v0,v1⟩:=hv;obtain⟨n0,n1⟩:=hn;unfold iG;refine fT (λZ'=>?_) λZ'=>?_;exact fR (hz 3 (by decide) (by decide))
 ·rw[gf (x:=v) (by omega) (by omega),gf (x:=n) (by omega) (by omega)];refine(ze h ⟨v0,v1⟩).bind ?_;rintro⟨r,o,ok,_⟩ Zc;dsimp only at Zc⊢;refine fT (λZ3=>?_) λZ3=>?_
  ·exact fR (hz 4 (by decide) (by decide))
  ·obtain⟨b,z,hr0,hb,hzz,ho0,ho1,_⟩:=Zc Z3;have XY:=h.1.2.2 z (fZ hzz);refine Ok.bind (P:=λx=>∃o',x=(ss,bs,key,0,0,r,o',())/\-70000<=o'/\o'<=70000) ?_ ?_
   ·refine ge (λ_=>?_) λ_=>?_
    all_goals
     (simp (disch:=omega) only [gD,gp,gf,gh])
     exact fR ⟨_,rfl,by omega,by omega⟩
   rintro _ ⟨o',rfl,W',ho3⟩;dsimp only;refine Ew.bind ?_;rintro⟨q,_⟩ hin;dsimp only at hin⊢;refine fT (λhcc=>?_) λhcc=>?_
   ·exact fR (hz 4 (by decide) (by decide))
   ·obtain⟨_,g1,m,g2,g3⟩:=hin hcc;refine jv hr0 λj hj=>?_;subst hj;rw[oTN]at hb g2;have hjl:=(oGS hb).1;have hrj:=h.2.2 j hjl;unfold xn at hrj;rw[gr hb,gr g2]at hrj;rw[show fU bs j=some b from hb];simp only[oBS];rw[iD (x:=b+o'),gp (x:=b+o') (by omega) (by omega)];exact fR ⟨_,_,_,rfl,⟨by dsimp only;omega,by dsimp only;omega,by dsimp only;omega,by dsimp only;omega,λ_=>⟨j,b,m,hb,g2,by dsimp only;omega,by dsimp only;omega⟩⟩,by decide,by decide,λ_=>by omega⟩
theorem i9.line{K:Int->Prop}{cs:C_}{ls:G_}(h:i9 K cs ls){i:Nat}{x:DLn}{f:DLn->DLn}(hx:ls[i]?=some x)(hf:VL K i (f x))(hg:VO cs (f x)):i9 K cs (List.modify ls i f):=by
 have key:∀(j:Nat) y,(List.modify ls i f)[j]?=some y->VL K j y/\VO cs y:=λj y hy=>by by_cases hij:i=j;simp_all;simp[hij]at hy;exact⟨h.lines j y (by simp_all),h.coh j y (by simp_all)⟩
 exact⟨h.clen,h.cells,by rw[oLM];exact h.llen,λj y hy=>(key j y hy).1,λj y hy=>(key j y hy).2⟩
theorem yY{cs xs:C_}{lo k:Nat}(h1:lo+4<=cs.length)(h3:4<=xs.length)(hk:k<lo\/lo+4<=k):(qk cs lo 4 xs)[k]?=cs[k]?:=by unfold qk;rcases hk with hk|hk;rw[List.append_assoc,oAL (by rw[oLT];omega),List.getElem?_take_of_lt hk];rw[oAR (by simp;omega),List.getElem?_drop];congr 1;simp;omega
theorem NI{cs xs:C_}{lo o:Nat}(h1:lo+4<=cs.length)(h3:xs.length=4)(ho:o<4):(qk cs lo 4 xs)[lo+o]?=xs[o]?:=by unfold qk;rw[oAL (by simp;omega),oAR (by rw[oLT];omega),oLT,show lo+o-min lo cs.length=o by omega,List.getElem?_take_of_lt ho]
theorem Hn{K:Int->Prop}{cs xs:C_}{lo n:Nat}(h1:cs.length=512)(h2:lo+n<=512)(h3:n<=xs.length)(hc:∀c∈cs,n7 K c)(hx:∀c∈xs,n7 K c):(qk cs lo n xs).length=512/\∀c∈qk cs lo n xs,n7 K c:=by unfold qk;refine⟨?_,λc hh=>?_⟩;simp;omega;simp only[oMA]at hh;rcases hh with(hh|hh)|hh;exact hc c (List.mem_of_mem_take hh);exact hx c (List.mem_of_mem_take hh);exact hc c (List.mem_of_mem_drop hh)
theorem LM{K:Int->Prop}{cs:C_}{ls:G_}{a:Int}(h:i9 K cs ls)(ha:0<=a/\a<512):Ok (na a cs ls) λr=>∃i cs' ls' x,r=(i,cs',ls',())/\i9 K cs' ls'/\ls'[i]?=some x/\x.1=a/4/\x.2.2.length=4:=by
 obtain⟨a0,a1⟩:=ha;obtain⟨h1,h2,h3,h4,h5⟩:=id h;unfold na;rw[Int.tdiv_eq_ediv_of_nonneg a0,iD (x:=a/4)];dsimp only;rw[oTE (show 0<=a/4 by omega)];refine gV λi hi=>?_;have hil:i<ls.length:=by omega
 obtain⟨x,hx⟩:=gv ls i hil;have hg:fU ls i=some x:=hx;have hL:=h4 i x hx;simp only[hg,oBS];refine fT (λZ'=>?_) λZ'=>?_;refine fR ⟨i,cs,ls,x,rfl,h,hx,Z',?_⟩;rcases hL with⟨g1,_,_⟩|⟨_,_,_,g,_⟩;omega;exact g
 ·refine Ok.bind (P:=λr=>∃cs',r=(a/4,i,cs',ls,())/\cs'.length=512/\(∀c∈cs',n7 K c)/\∀(j:Nat) y,ls[j]?=some y->VO cs' y) ?_ ?_
  ·refine ge (λhd=>?_) λ_=>fR ⟨cs,rfl,h1,h2,h5⟩
   rcases hL with⟨_,g,_⟩|⟨g1,g2,g3,g4,g5⟩
   ·rw[g]at hd;cases hd
   ·rw[iD (x:=x.1*4)];refine gV λq hq=>?_;refine fS (by unfold iO;simp;omega) ?_
    try simp only[hg,oBS]
    rw[g4,h1]
    have hmin:Nat.min 4 (Nat.sub 512 q)=4:=by
     show min 4 (512-q)=4;omega
    rw[hmin];refine fS (by unfold iO;simp;omega) ?_;refine fS rfl ?_;obtain⟨s1,s2⟩:=Hn (lo:=q) (n:=4) h1 (by omega) (by omega) h2 g5;refine fR ⟨_,rfl,s1,s2,λj y hy=>?_⟩;by_cases hij:j=i
    ·subst hij;rw[hx]at hy
     injection hy with hy
     subst hy;exact .inr (.inl hd)
    ·rcases h5 j y hy with g|g|g
     ·exact .inl g
     ·exact .inr (.inl g)
     ·rcases h4 j y hy with⟨g',_,_⟩|⟨y1,y2,y3,y4,y5⟩
      ·exact .inl g'
      ·refine .inr (.inr λo ho=>?_);rw[yY (by omega) (by omega) (by omega)];exact g o ho
  rintro _ ⟨cs',rfl,c1,c2,c3⟩;dsimp only;rw[iD (x:=a/4*4),iD (x:=a/4+1),iD (x:=(a/4+1)*4)];simp only[hg,oBS];refine gT (by rw[oLM];exact hil) λ_ _=>?_;refine gV λq hq=>?_;refine gV λq2 Y6=>?_;refine fS (by unfold iO;simp;omega) ?_
  have hw:(nG cs' q (Nat.sub q2 q)).length=4:=by
   unfold nG;rw[oLT,List.length_drop];show min (q2-q) _=4;omega
  refine fS (gd (by omega)) ?_;refine gT (by rw[oLM,oLM];exact hil) λ_ _=>?_;rw[jW,jW,show List.append [] (nG cs' q (Nat.sub q2 q))=nG cs' q (Nat.sub q2 q)from rfl];have ZB:i9 K cs' ls:=⟨c1,c2,h3,h4,c3⟩;refine fR ⟨i,cs',_,_,rfl,ZB.line hx (.inr ⟨by dsimp only;omega,by dsimp only;omega,by dsimp only;omega,hw,λc hc=>c2 c ?_⟩) (.inr (.inr λo ho=>?_)),vJ hx,rfl,hw⟩
  ·dsimp only at hc;unfold nG at hc;exact List.mem_of_mem_drop (List.mem_of_mem_take hc)
  ·dsimp only;unfold nG;rw[hq,oTN,List.getElem?_take_of_lt (show o<Nat.sub q2 q by show o<q2-q;omega),List.getElem?_drop]
theorem Pg{K:Int->Prop}{cs:C_}{ls:G_}{a:Int}(h:i9 K cs ls)(ha:0<=a/\a<512):Ok (qY a cs ls) λr=>∃t v cs' ls',r=(t,v,cs',ls',())/\n7 K (t,v)/\i9 K cs' ls':=by
 refine(LM h ha).bind ?_;rintro _ ⟨i,cs',ls',x,rfl,hm,hx,Z2,YA⟩;have hg:fU ls' i=some x:=hx;simp[hg];rw[oTE ha.1];refine gV λj hj=>?_;refine f7 λ_ _=>?_;refine f7 λc hc=>?_;have ZK:n7 K c:=by rcases hm.lines i x hx with⟨_,_,g⟩|⟨_,_,_,_,g⟩;omega;exact g c (fZ hc)
 exact fR ⟨_,_,_,_,rfl,ZK,hm⟩
theorem yX{K:Int->Prop}{cs:C_}{ls:G_}{a t v:Int}(h:i9 K cs ls)(ha:0<=a/\a<512)(hc:n7 K (t,v)):Ok (m8 a t v cs ls) λr=>∃cs' ls',r=(cs',ls',())/\i9 K cs' ls':=by refine(LM h ha).bind ?_;rintro _ ⟨i,cs',ls',x,rfl,hm,hx,Z2,YA⟩;have hg:fU ls' i=some x:=hx;have hil:=(oGS hx).1;simp[hg];rw[oTE ha.1];refine gV λj hj=>?_;refine f7 λ_ _=>?_;refine f7 λ_ _=>?_;refine gT (by simp_all) λ_ _=>?_;rw[jW];refine fR ⟨_,_,rfl,hm.line hx ?_ (.inr (.inl rfl))⟩;rcases hm.lines i x hx with⟨_,_,g⟩|⟨g1,g2,g3,g4,g5⟩;omega;exact .inr ⟨g1,g2,g3,by simp_all,g8 g5 λ_ _=>hc⟩
theorem sn(x:Int):W16 (wk .u16 x):=by unfold wk;rw[xr];exact⟨by omega,by omega⟩
theorem R7{ss bs:M_}{key t v t' v':Int}(h:LV bs ss)(hv:W16 v)(YE:W16 v'):Ok (m6 bs key ss t v t' v') λ_=>True:=by obtain⟨v0,v1⟩:=hv;obtain⟨u0,u1⟩:=YE;unfold m6;rw[gf (x:=v) (by omega) (by omega),gf (by omega) (by omega)];refine(ze h ⟨v0,v1⟩).bind ?_;rintro⟨r,o,ok,_⟩ _;refine(ze h ⟨u0,u1⟩).bind ?_;rintro⟨r',o',ok',_⟩ _;cases ok<;>cases ok'<;>exact fR trivial
theorem Kz(b:Bool):mA b=some (0,(bif b then 1 else 0),()):=by cases b<;>rfl
theorem U4{op b c:Int}(hb:W16 b)(hc:W16 c):Ok (mZ op b c) λr=>∃v e,r=(0,v,e,())/\W16 v/\0<=e/\e<=6:=by
 obtain⟨b0,b1⟩:=hb;obtain⟨c0,c1⟩:=hc;have ZU:∀x:Int,W16 x->Ok (some ((0:Int),x,(0:Int),())) λr=>∃v e,r=(0,v,e,())/\W16 v/\0<=e/\e<=6:=λx h=>fR ⟨x,0,rfl,h,by decide,by decide⟩;have z5:Ok (some ((0:Int),(0:Int),(5:Int),())) λr=>∃v e,r=(0,v,e,())/\W16 v/\0<=e/\e<=6:=fR ⟨0,5,rfl,⟨by decide,by decide⟩,by decide,by decide⟩;have hw:=sn;unfold mZ;refine fT (λZ'=>?_) λZ'=>?_;exact ZU _ (sn _);refine fT (λZ3=>?_) λZ3=>?_;exact ZU _ (sn _);refine fT (λhcc=>?_) λhcc=>?_;exact ZU _ (sn _);have hq:∀X:Option (Int×Int×Int×Unit),c≠0->(X=(bif(op==6)then(bif(c != 0)then some ((0:Int),wk .u16 (Int.tdiv b c),(0:Int),())else none)else bif(c != 0)then some ((0:Int),Int.tmod b c,(0:Int),())else none))->Ok X λr=>∃v e,r=(0,v,e,())/\W16 v/\0<=e/\e<=6:=by rintro _ hne rfl;refine ge (λ_=>fS (by rw[bne_iff_ne];exact hne) (ZU _ (sn _))) λ_=>fS (by rw[bne_iff_ne];exact hne) (ZU _ ?_);rw[oTE b0];have h1:=Int.emod_nonneg b hne;have h2:=Int.emod_lt_of_pos b (show 0<c by omega);exact⟨h1,by omega⟩
 refine fT (λXE=>?_) λXE=>?_;refine fT (λXo=>?_) λXo=>?_;exact z5;simp_all;refine fT (λXE=>?_) λXE=>?_;refine fT (λXo=>?_) λXo=>?_;exact z5;simp_all;refine fT (λhcf=>?_) λhcf=>?_;exact ZU _ (hw _);refine fT (λhcf=>?_) λhcf=>?_;exact ZU _ (hw _);refine fT (λhcf=>?_) λhcf=>?_;exact ZU _ (hw _);refine fT (λhcf=>?_) λhcf=>?_;rw[oTE c0];refine gV λj hj=>?_;exact ZU _ (hw _);refine fT (λhcf=>?_) λhcf=>?_;rw[oTE c0];refine gV λj hj=>ZU _ ?_;show W16 (Int.fdiv b (2 ^ (min j 16)));have hp:(0:Int)<2 ^ (min j 16):=Int.pow_pos (by decide);rw[Int.fdiv_eq_ediv_of_nonneg _ (by omega)];exact⟨Int.ediv_nonneg b0 (by omega),by have:=Int.ediv_le_self (2 ^ (min j 16)) b0;omega⟩;rw[Kz];refine ZU _ ?_;cases decide (b<c);exact⟨by decide,by decide⟩;exact⟨by decide,by decide⟩
def SX(K:Int->Prop)(r:Int×Int×Int×Unit):Prop:=∃t v e,r=(t,v,e,())/\n7 K (t,v)/\0<=e/\e<=6
theorem uJ{K:Int->Prop}{t v e:Int}(h:n7 K (t,v))(h0:0<=e)(h1:e<=6):Ok (some (t,v,e,())) (SX K):=fR ⟨t,v,e,rfl,h,h0,h1⟩
theorem Bf{K:Int->Prop}{v:Int}(h:W16 v):n7 K (0,v):=kj h
theorem Jf{K:Int->Prop}(b:Bool):n7 K (0,bif b then 1 else 0):=Bf (by cases b<;>exact⟨by decide,by decide⟩)
theorem xo{K:Int->Prop}:n7 K (0,0):=Bf ⟨by decide,by decide⟩
theorem Wd{ss bs:M_}{key op t v t' v':Int}(h:LV bs ss)(hb:n7 (RK bs ss) (t,v))(hc:n7 (RK bs ss) (t',v')):Ok (vy bs key ss op t v t' v') (SX (RK bs ss)):=by
 obtain⟨t0,t2,v0,v1,_⟩:=hb;obtain⟨u0,u2,w0,w1,_⟩:=hc;dsimp only at t0 t2 v0 v1 u0 u2 w0 w1;obtain⟨_,eN,n1,n2,rfl,hn1,hn2,hn3⟩:=U4 (op:=op) (b:=v) (c:=v') ⟨v0,v1⟩ ⟨w0,w1⟩;obtain⟨_,eA,a1,a2,a3,rfl,YG,X0,ha3,_⟩:=BT (key:=key) (tag:=t) (back:=false) h (v:=v) (n:=v') ⟨v0,v1⟩ ⟨w0,w1⟩;obtain⟨_,eB,b1,b2,b3,rfl,ZM,ZX,M',_⟩:=BT (key:=key) (tag:=t') (back:=false) h (v:=v') (n:=v) ⟨w0,w1⟩ ⟨v0,v1⟩;obtain⟨_,eC,c1,c2,c3,rfl,ZO,ZK,hc3,_⟩:=BT (key:=key) (tag:=t) (back:=true) h (v:=v) (n:=v') ⟨v0,v1⟩ ⟨w0,w1⟩;obtain⟨⟨p1,p2,p3,p4,ok,_⟩,eP,_⟩:=R7 (key:=key) (t:=t) (t':=t') h (v:=v) (v':=v') ⟨v0,v1⟩ ⟨w0,w1⟩;unfold vy;refine fT (λZ'=>?_) λZ'=>?_;exact uJ xo (by decide) (by decide);refine fT (λZ3=>?_) λZ3=>?_;exact uJ xo (by decide) (by decide);cases h14:(op==14)with
 |true=>simp only[oCT,Kz,oBS];exact uJ (Jf _) (by decide) (by decide)|false=>
 simp only[oCF,eN,eA,eB,eC,eP,oBS];rcases(show t=0\/t=1\/t=2 by omega)with rfl|rfl|rfl<;>rcases(show t'=0\/t'=1\/t'=2 by omega)with rfl|rfl|rfl
 all_goals cases h3:(op==3)<;>cases h4:(op==4)<;>cases h13:(op==13)<;>simp only[Int.reduceBEq,oCT,oCF,oBS,h3,h4,h13,Kz,eN,eA,eB,eC,eP,BEq.rfl]
 all_goals first
  |exact uJ (Bf hn1) hn2 hn3
  |exact uJ YG X0 ha3
  |exact uJ ZM ZX M'
  |exact uJ ZO ZK hc3
  |exact uJ xo (by decide) (by decide)
  |(cases ok<;>first
   |exact uJ xo (by decide) (by decide)
   |exact uJ (Jf _) (by decide) (by decide)
   |exact uJ (Bf (sn _)) (by decide) (by decide))
theorem PZ{l:M_}{k:Int}(h:DOk l k):Ok (pD l k) λr=>∃t b s k',r=(t,b,s,l,k',())/\0<=t/\t<4/\0<=b/\b<=63/\DOk l k':=by
 unfold pD;refine gL (by omega) (by omega) (by omega) λv0 k0 a0 b0 d0=>?_;try dsimp only
 refine gL (by omega) (by omega) (by omega) λv1 k1 a1 b1 d1=>?_;try dsimp only
 refine jv (by omega) λj1 hj1=>?_;try dsimp only
 have hm:∀x∈[(0:Int),1,2,3,7,63],0<=x/\x<=63:=by simp_all
 refine gT (by simp;omega) λx hx=>?_;refine gT (by simp;omega) λy hy=>?_;have qN:=hm y (fZ hy);refine gL (by omega) (by omega) (by omega) λv2 k2 a2 b2 d2=>?_;try dsimp only
 exact fR ⟨_,_,_,_,rfl,a0,b0,qN.1,qN.2,d2⟩
def kG:J_->Int->M_| [],_=>[]|t::ts,i=>if t.1=1 then i::kG ts (i+1)else kG ts (i+1)
theorem E1(a b:J_)(i:Int):kG (a++b) i=kG a i++kG b (i+a.length):=by induction a generalizing i with|nil=>simp[kG]|cons t a ih=>simp[kG,ih];rw[show i+1+(a.length:Int)=i+((a.length+1:Nat):Int) by omega];split<;>rfl
theorem En(a:J_)(i:Int):(kG a i).length<=a.length:=by induction a generalizing i with|nil=>simp[kG]|cons t a ih=>simp[kG];have:=ih (i+1);split<;>simp<;>omega
theorem Mt{a:J_}{i x:Int}(h:x∈kG a i):i<=x/\x<i+a.length/\∃t,a[(x-i).toNat]?=some t/\t.1=1:=by
 induction a generalizing i with
 |nil=>simp[kG]at h|cons t a ih=>
 simp[kG]at h;have key:x∈kG a (i+1)->i<=x/\x<i+((t::a).length:Int)/\∃t',(t::a)[(x-i).toNat]?=some t'/\t'.1=1:=by intro h;have ⟨h1,h2,t',h3,h4⟩:=ih h;refine⟨by omega,by simp;omega,t',?_,h4⟩;rw[show(x-i).toNat=(x-(i+1)).toNat+1 by omega,List.getElem?_cons_succ];exact h3
 split at h;rename_i ht;rcases oMC.1 h with rfl|h;exact⟨by omega,by simp;omega,t,by simp,ht⟩;exact key h;exact key h
theorem Q4{ts:J_}(h:ts.length<=1000):ph ts=some (kG ts 0,()):=by
 have e:gc ke NN (ts,(ts.length:Int),0,[],())=some (ts,(ts.length:Int),(ts.length:Int),false,kG ts 0,()):=by
  have:=nV (f:=ke) (N:=NN) (st:=λk=>(ts,(ts.length:Int),(k:Int),kG (ts.take k) 0,())) (n:=ts.length) (t:=(ts,(ts.length:Int),(ts.length:Int),false,kG ts 0,())) (by unfold NN;omega) ?_ ?_;exact this;intro k hk;unfold ke;dsimp only;refine fT (λZ'=>?_) λZ'=>?_;rw[fX];simp;obtain⟨x,hx⟩:=gv ts k hk;rw[show fU ts k=some x from hx];simp;have hlen:=En (ts.take k) 0;rw[oLT]at hlen;have hnext:kG (ts.take (k+1)) 0=kG (ts.take k) 0++(if x.1=1 then[(k:Int)]else[]):=by rw[List.take_add_one,hx,E1];congr 1;rw[oLT,show 0+((min k ts.length:Nat):Int)=(k:Int) by omega];simp only[Option.toList,kG]
  refine Ok.bind (P:=(·=(ts,(ts.length:Int),(k:Int),kG (ts.take (k+1)) 0,()))) ?_ ?_;refine fT (λZ3=>?_) λZ3=>?_;refine fS (gd (by simp;omega)) ?_;rw[hnext,oIP Z3];exact fR rfl;rw[hnext,oIN Z3,List.append_nil];exact fR rfl;rintro _ rfl
  (simp (disch:=omega) only [gD,gp,gf,gh])
  exact fR rfl;omega;unfold ke;dsimp only;refine fT (λZ'=>?_) λZ'=>?_;omega;rw[List.take_length];exact fR rfl
 refine gU ?_;unfold ph;delta f6;try dsimp only
 rw[e];exact fR rfl
theorem CL{ow:M_}{qs:j_}(h:kD ow qs):oB ow qs=some (ow,qs,()):=by
 have hq4:∀q∈qs,q.length<=4:=λq hq=>h.qlen4 hq;obtain⟨h1,h2,h3,h4⟩:=h;have e:gc kR NN (qs,(qs.length:Int),0,ow,qs,(),(),ow,[],())=some (qs,(qs.length:Int),(qs.length:Int),false,ow,qs,(),(),ow,qs,()):=by
  have:=nV (f:=kR) (N:=NN) (st:=λk=>(qs,(qs.length:Int),(k:Int),ow,qs,(),(),ow,qs.take k,())) (n:=qs.length) (t:=(qs,(qs.length:Int),(qs.length:Int),false,ow,qs,(),(),ow,qs,())) (by unfold NN;omega) ?_ ?_;exact this;intro k hk;unfold kR;refine fT (λZ'=>?_) λZ'=>?_;rw[fX];refine f7 λx hx=>?_;have:=hq4 x (fZ hx);refine fS (gd (by omega)) (fS (gd (by simp;omega)) ?_)
  (simp (disch:=omega) only [gD,gp,gf,gh])
  refine fR ?_;rw[List.take_add_one,hx];rfl;omega;unfold kR;refine fT (λZ'=>?_) λZ'=>?_;omega;rw[List.take_length];exact fR rfl
 refine gU ?_;refine fS (gd (by omega)) ?_;rw[show List.append [] ow=ow from rfl];delta f6;try dsimp only
 rw[e];exact fR rfl
theorem Es{q:M_}{x:Int}(h:q.Nodup)(hx:x ∉ q):(q++[x]).Nodup:=by grind
theorem gu{α:Type}{l:List α}{i:Nat}{a:α}(h:l[i]?=some a)(f:α->α):List.modify l i f=l.set i (f a):=by apply oEG;grind
theorem io{α:Type}{l:List α}{i:Nat}(h:i<l.length)(a:α):fU (l.set i a) i=some a:=by show(l.set i a)[i]?=some a;simp_all
theorem p5{α:Type}{l:List α}{i:Nat}(h:i<l.length)(a:α)(f:α->α):List.modify (l.set i a) i f=l.set i (f a):=by rw[gu (io h a),List.set_set]
theorem jX{α:Type}{P:α->Prop}{l:List α}{i:Nat}{a:α}(h:∀x∈l,P x)(ha:P a):∀x∈l.set i a,P x:=by grind
theorem MOk.set{n:Int}{ss bs:M_}{cs cs':C_}{ls ls':G_}{ts:J_}(h:MOk n ss bs cs ls ts)(hm:i9 (RK bs ss) cs' ls'){i:Nat}{t:DTh}(ht:zG (RK bs ss) n t):MOk n ss bs cs' ls' (ts.set i t):=⟨h.lay,hm,by rw[oLS];exact h.tlen,jX h.thr ht⟩
def WT(code:F_)(t:DTh)(s:Int)(t':DTh):Prop:=
 (s=-1/\t'.1=1/\((t'.2.2.2.1=t.2.2.2.1/\t'.2.2.1=t.2.2.1+1)\/t'.2.2.2.1=t.2.2.2.1+1))\/(s=2/\t'.1=4/\t'.2.2.2.1=t.2.2.2.1)\/
  (s=1/\t'.1=2/\t'.2.2.2.1=t.2.2.2.1/\∃i:DIn,1<=t'.2.2.1/\code[(t'.2.2.1-1).toNat]?=some i/\i.1=23)
def KV(n key:Int)(code:F_)(ss bs:M_)(ts:J_)(i:Nat)(t:DTh)(r:Int×M_×Int×C_×G_×J_×Unit):Prop:=∃s cs' ls' t',r=(s,bs,key,cs',ls',ts.set i t',())/\i9 (RK bs ss) cs' ls'/\zG (RK bs ss) n t'/\WT code t s t'
theorem qo{n key:Int}{code:F_}{ss bs:M_}{ts:J_}{i:Nat}{t t':DTh}{cs':C_}{ls':G_}(hm:i9 (RK bs ss) cs' ls')(ht:zG (RK bs ss) n t')(h1:t'.1=1)
 (h:(t'.2.2.2.1=t.2.2.2.1/\t'.2.2.1=t.2.2.1+1)\/t'.2.2.2.1=t.2.2.2.1+1):Ok (some (-1,bs,key,cs',ls',ts.set i t',())) (KV n key code ss bs ts i t):=fR ⟨_,_,_,_,rfl,hm,ht,.inl ⟨rfl,h1,h⟩⟩
theorem pF{n key WZ:Int}{code:F_}{ss bs:M_}{ts:J_}{i:Nat}{t:DTh}{cs':C_}{ls':G_}(hm:i9 (RK bs ss) cs' ls')(ht:zG (RK bs ss) n t)(hw:0<=WZ/\WZ<=6):
 Ok (some (2,bs,key,cs',ls',ts.set i (4,t.2.1,t.2.2.1,t.2.2.2.1,t.2.2.2.2.1,t.2.2.2.2.2.1,WZ,0),())) (KV n key code ss bs ts i t):=fR ⟨_,_,_,_,rfl,hm,ht.ended hw,.inr (.inl ⟨rfl,rfl,rfl⟩)⟩
theorem km(op:Int):oe op=some (nX op||op==22||op==24,()):=by unfold oe;rw[wZ];grind
set_option maxHeartbeats 4000000 in
theorem U3{n key:Int}{code:F_}{ss bs:M_}{d:j_}{cs:C_}{ls:G_}{ts:J_}{i:Nat}{t:DTh}(hp:kL code ss d)(h:MOk n ss bs cs ls ts)(ht:ts[i]?=some t)(hs:t.1=1) (hc:t.2.2.2.1+1<=n)(hn:n<=1099511627776):Ok (sA code ss d (i:Int) bs key cs ls ts) (KV n key code ss bs ts i t):=by
 have hok:=h.thr t (fZ ht);have hm:=h.mem;obtain⟨_,hl,hr,⟨p0,p1⟩,⟨c0,c1⟩,ha,⟨s0,s1⟩,⟨r0,r1⟩,hco⟩:=id hok;obtain⟨st,rs,pc,ct,hd,sa,tr,co⟩:=t;dsimp only at *;subst hs;have hil:=(oGS ht).1;have hg:fU ts i=some (1,rs,pc,ct,hd,sa,tr,co):=ht;have e1:∀f:DTh->DTh,List.modify ts i f=ts.set i (f (1,rs,pc,ct,hd,sa,tr,co)):=λf=>gu ht f;have e2:∀x,fU (ts.set i x) i=some x:=λx=>io hil x;have e3:∀(x:DTh)(f:DTh->DTh),List.modify (ts.set i x) i f=ts.set i (f x):=λx f=>p5 hil x f;have eT:∀WZ,iy (i:Nat) WZ ts=some (2,ts.set i (4,rs,pc,ct,hd,sa,WZ,0),()):=λWZ=>by rw[S3 (n:=n) ht,e1]
 have mk:∀{rs':C_}{pc' ct' sa':Int},rs'.length=8->(∀c∈rs',n7 (RK bs ss) c)->0<=pc'/\pc'<=255->0<=ct'/\ct'<=n->-1<=sa'/\sa'<=255->zG (RK bs ss) n (1,rs',pc',ct',hd,sa',tr,co):=λh1 h2 h3 h4 h5=>⟨⟨show(0:Int)<=1 by decide,show(1:Int)<=4 by decide⟩,h1,h2,h3,h4,ha,h5,⟨r0,r1⟩,hco⟩;unfold sA;rw[fX];delta f6;simp only[hg,oBS];refine fT (λZ'=>?_) λZ'=>?_;rw[eT 2];exact pF hm hok (by decide);refine jv p0 λj hj=>?_;subst hj;have Y8:=hp.clen;refine f7 λx hx=>?_;obtain⟨op,A,B,C,I⟩:=x;obtain⟨⟨o0,o1⟩,⟨A0,A1,_⟩,⟨B0,B1,_⟩,⟨C0,C1,_⟩,⟨I0,I1,_⟩,hlea,hsys,hjmp⟩:=hp.ins _ (fZ hx);dsimp only at *;obtain⟨A,rfl⟩:∃k:Nat,A=k:=⟨A.toNat,by omega⟩;obtain⟨B,rfl⟩:∃k:Nat,B=k:=⟨B.toNat,by omega⟩;obtain⟨C,rfl⟩:∃k:Nat,C=k:=⟨C.toNat,by omega⟩;obtain⟨I,rfl⟩:∃k:Nat,I=k:=⟨I.toNat,by omega⟩;obtain⟨⟨ta,va⟩,gA⟩:∃c,fU rs A=some c:=⟨_,oGE (by omega)⟩;obtain⟨⟨tb,vb⟩,gB⟩:∃c,fU rs B=some c:=⟨_,oGE (by omega)⟩;obtain⟨⟨tc,vc⟩,gC⟩:∃c,fU rs C=some c:=⟨_,oGE (by omega)⟩;have cA:=hr _ (fZ gA);have cB:=hr _ (fZ gB);have cC:=hr _ (fZ gC);have eR:∀f:DCe->DCe,List.modify rs A f=rs.set A (f (ta,va)):=λf=>gu gA f;have w1:w64 ((j:Int)+1)=(j:Int)+1:=gD (by omega) (by omega);have wI:wk .u16 (I:Int)=I:=gp (by omega) (by omega);have Ze:∀{c:DCe},n7 (RK bs ss) c->(rs.set A c).length=8/\∀x∈rs.set A c,n7 (RK bs ss) x:=λhc=>⟨by rw[oLS];exact hl,jX hr hc⟩;have wc:w64 (ct+1)=ct+1:=gD (by omega) (by omega);simp only[fX,hg,gA,gB,oBS,w1,wI];rcases(show op=0\/op=1\/op=2\/op=15\/op=16\/op=17\/op=18\/op=19\/op=20\/op=21\/op=22\/op=23\/op=24\/(3<=op/\op<=14) by omega)with rfl|rfl|rfl|rfl|rfl|rfl|rfl|rfl|rfl|rfl|rfl|rfl|rfl|⟨q0,q1⟩;all_goals try simp only[Int.reduceBEq,oCT,oCF,fX,hg,gA,gB,gC,e1,e2,e3,eR,eT,oBS,w1,wI,wc,km,nX,Bool.or_false,Bool.or_true,Bool.or_self,oBN]
 exact qo hm (mk hl hr (by omega) (by omega) (by omega)) rfl (.inl ⟨rfl,rfl⟩);exact qo hm (mk (Ze (kj (by omega))).1 (Ze (kj (by omega))).2 (by omega) (by omega) (by omega)) rfl (.inl ⟨rfl,rfl⟩);exact qo hm (mk (Ze cB).1 (Ze cB).2 (by omega) (by omega) (by omega)) rfl (.inl ⟨rfl,rfl⟩);have hI:=hlea rfl;have hbl:=h.lay.2.1;obtain⟨b,hb⟩:=gv bs I (by omega);obtain⟨z,hz⟩:=gv ss I (by omega);have Yj:=h.lay.2.2 I (by omega);unfold xn at Yj;rw[gr hb,gr hz]at Yj;have XY:=h.lay.1.2.2 z (fZ hz);have wb:wk .u16 b=b:=gp (by omega) (by omega);have gb:fU bs I=some b:=hb;simp only[gb,wb,Int.reduceBEq,oCT,oCF,fX,hg,gA,gB,gC,e1,e2,e3,eR,eT,oBS,w1,wI,wc,km,nX,Bool.or_false,Bool.or_true,Bool.or_self,oBN];have Z3:n7 (RK bs ss) (1,b):=⟨by dsimp only;omega,by dsimp only;omega,by dsimp only;omega,by dsimp only;omega,λ_=>⟨I,b,z,hb,hz,by dsimp only;omega,by dsimp only;omega⟩⟩;exact qo hm (mk (Ze Z3).1 (Ze Z3).2 (by omega) (by omega) (by omega)) rfl (.inl ⟨rfl,rfl⟩);obtain⟨_,em,t1,x1,e,rfl,ZO,he0,he6,hx512⟩:=BT (key:=key) (tag:=tb) (v:=vb) (n:=(I:Int)) (back:=false) h.lay ⟨cB.2.2.1,cB.2.2.2.1⟩ ⟨by omega,by omega⟩;simp only[em,oBS];by_cases hne:e=0;subst hne;have wx:wk .i64 x1=x1:=gf (by have:=ZO.2.2.1;dsimp only at this;omega) (by have:=ZO.2.2.2.1;dsimp only at this;omega);obtain⟨_,el,t2,x2,XZ,XJ,rfl,ZK,hm2⟩:=Pg (a:=x1) hm ⟨ZO.2.2.1,hx512 rfl⟩;simp only[wx,el,Int.reduceBEq,oCT,oCF,fX,hg,gA,gB,gC,e1,e2,e3,eR,eT,oBS,w1,wI,wc,km,nX,Bool.or_false,Bool.or_true,Bool.or_self,oBN];exact qo hm2 (mk (Ze ZK).1 (Ze ZK).2 (by omega) (by omega) (by omega)) rfl (.inl ⟨rfl,rfl⟩);simp only[bne_iff_ne.2 hne,oCT];exact pF hm hok ⟨he0,he6⟩;obtain⟨_,em,t1,x1,e,rfl,ZO,he0,he6,hx512⟩:=BT (key:=key) (tag:=ta) (v:=va) (n:=(I:Int)) (back:=false) h.lay ⟨cA.2.2.1,cA.2.2.2.1⟩ ⟨by omega,by omega⟩;simp only[em,oBS];by_cases hne:e=0;subst hne;have wx:wk .i64 x1=x1:=gf (by have:=ZO.2.2.1;dsimp only at this;omega) (by have:=ZO.2.2.2.1;dsimp only at this;omega);obtain⟨_,el,XZ,XJ,rfl,hm2⟩:=yX (a:=x1) (t:=tb) (v:=vb) hm ⟨ZO.2.2.1,hx512 rfl⟩ cB;simp only[wx,el,Int.reduceBEq,oCT,oCF,fX,hg,gA,gB,gC,e1,e2,e3,eR,eT,oBS,w1,wI,wc,km,nX,Bool.or_false,Bool.or_true,Bool.or_self,oBN];exact qo hm2 (mk hl hr (by omega) (by omega) (by omega)) rfl (.inl ⟨rfl,rfl⟩);simp only[bne_iff_ne.2 hne,oCT];exact pF hm hok ⟨he0,he6⟩;have:=hjmp (by decide);exact qo hm (mk hl hr (by omega) (by omega) (by omega)) rfl (.inr rfl);have:=hjmp (by decide);by_cases hta:ta=0;subst hta;cases va==0 with|true=>simp only[BEq.rfl,Int.reduceBEq,oCT,oCF,fX,hg,gA,gB,gC,e1,e2,e3,eR,eT,oBS,w1,wI,wc,km,nX,Bool.or_false,Bool.or_true,Bool.or_self,oBN];exact qo hm (mk hl hr (by omega) (by omega) (by omega)) rfl (.inr rfl)|false=>simp only[show(false==true)=false from rfl,Int.reduceBEq,oCT,oCF,fX,hg,gA,gB,gC,e1,e2,e3,eR,eT,oBS,w1,wI,wc,km,nX,Bool.or_false,Bool.or_true,Bool.or_self,oBN];exact qo hm (mk hl hr (by omega) (by omega) (by omega)) rfl (.inr rfl)
 simp only[bne_iff_ne.2 hta,oCT];exact pF hm hok (by decide);have:=hjmp (by decide);by_cases hta:ta=0;subst hta;cases va==0 with|true=>simp only[show(true==false)=false from rfl,Int.reduceBEq,oCT,oCF,fX,hg,gA,gB,gC,e1,e2,e3,eR,eT,oBS,w1,wI,wc,km,nX,Bool.or_false,Bool.or_true,Bool.or_self,oBN];exact qo hm (mk hl hr (by omega) (by omega) (by omega)) rfl (.inr rfl)|false=>simp only[BEq.rfl,Int.reduceBEq,oCT,oCF,fX,hg,gA,gB,gC,e1,e2,e3,eR,eT,oBS,w1,wI,wc,km,nX,Bool.or_false,Bool.or_true,Bool.or_self,oBN];exact qo hm (mk hl hr (by omega) (by omega) (by omega)) rfl (.inr rfl)
 simp only[bne_iff_ne.2 hta,oCT];exact pF hm hok (by decide);have:=hjmp (by decide);have wj:wk .u16 ((j:Int)+1)=(j:Int)+1:=gp (by omega) (by omega);rw[wj];exact qo hm (mk (Ze (kj (by omega))).1 (Ze (kj (by omega))).2 (by omega) (by omega) (by omega)) rfl (.inr rfl);by_cases hta:ta=0;subst hta;have wa:wk .i64 va=va:=gf (by have:=cA.2.2.1;dsimp only at this;omega) (by have:=cA.2.2.2.1;dsimp only at this;omega);have a0:=cA.2.2.1;dsimp only at a0;by_cases hva:va>255;simp only[oDT hva,oBN,oCT,oCF];exact pF hm hok (by decide);simp only[oDF hva,wa,Int.reduceBEq,oCT,oCF,fX,hg,gA,gB,gC,e1,e2,e3,eR,eT,oBS,w1,wI,wc,km,nX,Bool.or_false,Bool.or_true,Bool.or_self,oBN];exact qo hm (mk hl hr (by omega) (by omega) (by omega)) rfl (.inr rfl);simp only[bne_iff_ne.2 hta,oCT];exact pF hm hok (by decide);refine fR ⟨_,_,_,_,rfl,hm,⟨⟨show(0:Int)<=2 by decide,show(2:Int)<=4 by decide⟩,hl,hr,⟨by dsimp only;omega,by dsimp only;omega⟩,⟨c0,by dsimp only;omega⟩,ha,⟨s0,s1⟩,⟨r0,r1⟩,hco⟩,.inr (.inr ⟨rfl,rfl,rfl,(23,(A:Int),(B:Int),(C:Int),(I:Int)),by dsimp only;omega,?_,rfl⟩)⟩;dsimp only;rw[show(j:Int)+1-1=(j:Int) by omega,oTN];exact hx;by_cases hsa:sa=-1;simp only[beq_iff_eq.2 hsa,oCT];exact pF hm hok (by decide);simp only[oBF hsa,Int.reduceBEq,oCT,oCF,fX,hg,gA,gB,gC,e1,e2,e3,eR,eT,oBS,w1,wI,wc,km,nX,Bool.or_false,Bool.or_true,Bool.or_self,oBN];exact qo hm (mk hl hr (by omega) (by omega) (by omega)) rfl (.inr rfl);obtain⟨_,ed,t1,x1,e,rfl,ZO,he0,he6⟩:=Wd (key:=key) (op:=op) h.lay cB cC;have n0:(op==0)=false:=oBF (by omega);have n1:(op==1)=false:=oBF (by omega);have n2:(op==2)=false:=oBF (by omega);have n15:(op==15)=false:=oBF (by omega);have n16:(op==16)=false:=oBF (by omega);have n17:(op==17)=false:=oBF (by omega);have n18:(op==18)=false:=oBF (by omega);have n19:(op==19)=false:=oBF (by omega);have n20:(op==20)=false:=oBF (by omega);have n21:(op==21)=false:=oBF (by omega);have n22:(op==22)=false:=oBF (by omega);have n23:(op==23)=false:=oBF (by omega);have n24:(op==24)=false:=oBF (by omega);simp only[n0,n1,n2,n15,n16,n17,n18,n19,n20,n21,n22,n23,n24,ed,Int.reduceBEq,oCT,oCF,fX,hg,gA,gB,gC,e1,e2,e3,eR,eT,oBS,w1,wI,wc,km,nX,Bool.or_false,Bool.or_true,Bool.or_self,oBN];by_cases hne:e=0;subst hne;simp only[n18,n19,n20,n21,n22,n24,Int.reduceBEq,oCT,oCF,fX,hg,gA,gB,gC,e1,e2,e3,eR,eT,oBS,w1,wI,wc,km,nX,Bool.or_false,Bool.or_true,Bool.or_self,oBN];exact qo hm (mk (Ze ZO).1 (Ze ZO).2 (by omega) (by omega) (by omega)) rfl (.inl ⟨rfl,rfl⟩);simp only[bne_iff_ne.2 hne,oCT];exact pF hm hok ⟨he0,he6⟩
theorem zG.mono{K:Int->Prop}{n m:Int}{t:DTh}(h:zG K n t)(hm:n<=m):zG K m t:=⟨h.state,h.len,h.regs,h.pc,⟨h.count.1,by have:=h.count.2;omega⟩,h.handler,h.saved,h.trap,h.code⟩
theorem MOk.mono{n m:Int}{ss bs:M_}{cs:C_}{ls:G_}{ts:J_}(h:MOk n ss bs cs ls ts)(hm:n<=m):MOk m ss bs cs ls ts:=⟨h.lay,h.mem,h.tlen,λt ht=>(h.thr t ht).mono hm⟩
theorem EV{α:Type}{l:List α}{i:Nat}{a:α}(h:l[i]?=some a):l.set i a=l:=by apply oEG;grind
def Wv(code:F_)(s:Int)(t':DTh):Prop:=(s=0/\t'.1=1)\/(s=2/\t'.1=4)\/(s=1/\t'.1=2/\∃i:DIn,1<=t'.2.2.1/\code[(t'.2.2.1-1).toNat]?=some i/\i.1=23)
def Ur(n key:Int)(code:F_)(ss bs:M_)(ts:J_)(i:Nat)(r:M_×Int×C_×G_×J_×Int×Int×Unit):Prop:=∃s cs' ls' t',r=(bs,key,cs',ls',ts.set i t',s,0,())/\i9 (RK bs ss) cs' ls'/\zG (RK bs ss) n t'/\((s=3/\ts[i]?=some t'/\t'.1≠1)\/Wv code s t')
abbrev g_:=List v_
def V3(i:Nat)(s:Int×Int×F_×v_×g_×Unit×Int×Unit×Unit×Unit×v_×Int×C_×G_×J_×Unit):Nat:=match s.2.2.2.2.2.2.2.2.2.2.2.2.2.2.1[i]? with|some t=>((s.2.1-t.2.2.2.1)*256+(255-t.2.2.1)).toNat|none=>0
theorem JF{i:Nat}{a b k:Int}{code:F_}{ss bs:M_}{d:j_}{cs:C_}{ls:G_}{ts:J_}{t:DTh}(h:ts[i]?=some t):V3 i (a,b,code,ss,d,(),0,(),(),(),bs,k,cs,ls,ts,())=((b-t.2.2.2.1)*256+(255-t.2.2.1)).toNat:=by unfold V3;simp_all
theorem Qv{n key k:Int}{code:F_}{ss bs:M_}{d:j_}{cs:C_}{ls:G_}{ts:J_}{i:Nat}(hp:kL code ss d)(h:MOk n ss bs cs ls ts)(hn0:0<=n)(hn:n+64<=1099511627776)(hi:i<4)(hk:1<=k/\k<=64):Ok (pe code ss d bs key cs ls ts (i:Int) k) (Ur (n+64) key code ss bs ts i):=by
 have Yr:=h.tlen;obtain⟨t,ht⟩:=gv ts i (by omega);have hg:fU ts i=some t:=ht;have hil:i<ts.length:=by omega
 have hok:=h.thr t (fZ ht);unfold pe;rw[rO hp h (by omega)];simp;rw[oDF (show ¬(i:Int)<0 by omega),oDF (show ¬(i:Int)>=4 by omega),oDF (show ¬k<1 by omega),oDF (show ¬k>64 by omega)];simp only[oBS,oCF,yf h,fX,hg];refine fT (λZ'=>?_) λZ'=>?_;refine fR ⟨3,cs,ls,t,?_,h.mem,hok.mono (by omega),.inl ⟨rfl,ht,Z'⟩⟩;rw[EV ht];have hct:=hok.count;have hpc:=hok.pc;rw[iD (x:=t.2.2.2.1+k)];refine gP (P:=λs'=>∃cs' ls' t',s'=((i:Int),t.2.2.2.1+k,code,ss,d,(),0,(),(),(),bs,key,cs',ls',ts.set i t',())/\i9 (RK bs ss) cs' ls'/\zG (RK bs ss) (n+64) t'/\t'.1=1/\t'.2.2.2.1<t.2.2.2.1+k)
  (R:=λr=>∃s cs' ls' t',r=(s,0,bs,key,cs',ls',ts.set i t',())/\i9 (RK bs ss) cs' ls'/\zG (RK bs ss) (n+64) t'/\Wv code s t') (m:=V3 i) ⟨cs,ls,t,by rw[EV ht],h.mem,hok.mono (by omega),Z',by omega⟩ ?_ ?_ ?_
 rw[JF ht];unfold NN;omega;rintro _ ⟨cs',ls',t',rfl,hm,Zr,hr,hlt⟩;have ZV:(ts.set i t')[i]?=some t':=io hil t';unfold tJ;dsimp only;refine(U3 hp (((h.mono (show n<=n+64 by omega)).set hm Zr):MOk (n+64) ss bs cs' ls' (ts.set i t')) ZV hr (by omega) (by omega)).bind ?_;rintro _ ⟨s,XZ,XJ,t2,rfl,hm2,hth2,YX⟩;dsimp only;rw[List.set_set];refine fT (λZ3=>?_) λZ3=>?_;refine fR ⟨_,_,_,_,rfl,hm2,hth2,?_⟩;rcases YX with⟨q,_⟩|⟨q1,q2,_⟩|⟨q1,q2,_,q3⟩;exact absurd q Z3;exact .inr (.inl ⟨q1,q2⟩);exact .inr (.inr ⟨q1,q2,q3⟩);rw[fX];simp only[oBS,io hil];have h0:=hth2.count;have h1:=hth2.pc;have h2:=Zr.pc;rcases YX with⟨_,q1,q2⟩|⟨q1,_⟩|⟨q1,_⟩;refine fT (λhcc=>?_) λhcc=>?_;exact fR ⟨_,_,_,_,rfl,hm2,hth2,.inl ⟨rfl,q1⟩⟩;refine fR ⟨⟨_,_,_,rfl,hm2,hth2,q1,by omega⟩,?_⟩;rw[JF ZV,JF (io hil t2)];omega;omega;omega;rintro _ ⟨s,cs',ls',t',rfl,hm,Zr,hs⟩;exact fR ⟨_,_,_,_,rfl,hm,Zr,.inr hs⟩
def Oz(bs ss:M_)(a:Int):Nat->Nat->Option (Int×Int)|0,_=>none|n+1,k=>if bs.getD k 0<=a/\a<bs.getD k 0+ss.getD k 0 then some ((k:Int),a-bs.getD k 0)else Oz bs ss a n (k+1)
def Nu(bs ss:M_)(a:Int):Option (Int×Int):=Oz bs ss a bs.length 0
theorem Oy{bs ss:M_}{a r o:Int}:∀{n k:Nat},k+n=bs.length->bs.length=ss.length->Oz bs ss a n k=some (r,o)->∃(j:Nat)(b z:Int),r=j/\o=a-b/\bs[j]?=some b/\ss[j]?=some z/\b<=a/\a<b+z:=by
 intro n;induction n with
 |zero=>intro k _ _ h;cases h|succ n ih=>
 intro k hk hl h;simp only[Oz]at h;split at h
 ·rename_i hh
  injection h with h
  injection h with h1 h2
  refine⟨k,_,_,h1.symm,h2.symm,?_,?_,hh.1,hh.2⟩
  all_goals rw[PL (by omega)];exact oGE (by omega)
 exact ih (by omega) hl h
theorem Hx{bs ss:M_}{a:Int}:∀{n k:Nat},k+n=bs.length->Oz bs ss a n k=none->∀(j:Nat)(b z:Int),k<=j->bs[j]?=some b->ss[j]?=some z->¬(b<=a/\a<b+z):=by intro n;induction n with|zero=>simp_all|succ n ih=>intro k hk h j b z hj hb hz;simp[Oz]at h;split at h;cases h;rename_i hh;by_cases hjk:j=k;simp_all;exact ih (by omega) h j b z (by omega) hb hz
theorem xE{bs ss:M_}{a r o:Int}(hl:bs.length=ss.length)(h:Nu bs ss a=some (r,o)):∃(j:Nat)(b z:Int),r=j/\o=a-b/\bs[j]?=some b/\ss[j]?=some z/\b<=a/\a<b+z:=Oy (by omega) hl h
theorem OA{bs ss:M_}{a:Int}(h:RK bs ss a):∃r o,Nu bs ss a=some (r,o):=by cases e:Nu bs ss a with|some x=>exact⟨x.1,x.2,rfl⟩|none=>have ⟨j,b,z,h1,h2,h3,h4⟩:=h;exact absurd ⟨h3,h4⟩ (Hx (by omega) e j b z (by omega) h1 h2)
theorem zf{bs ss:M_}{key a:Int}(h:LV bs ss)(ha:W16 a):gW bs key ss a=some (match Nu bs ss a with|some (r,o)=>(r,o,true,())|none=>(0,0,false,())):=by
 obtain⟨hs,hl,hr⟩:=h;obtain⟨a0,a1⟩:=ha;have Xc:=hs.2.1;have key1:∀(n k N:Nat),k+n=bs.length->n<N->gc gK N (ss,a,bs,(bs.length:Int),(k:Int),bs,key,0,0,())=some (match Oz bs ss a n k with|some (r,o)=>.inl (true,r,o,())|none=>.inr (ss,a,bs,(bs.length:Int),(bs.length:Int),false,bs,key,0,0,())):=by
  intro n;induction n with
  |zero=>
  intro k N hk hN;obtain⟨N,rfl⟩:∃M,N=M+1:=⟨N-1,by omega⟩;obtain rfl:k=bs.length:=by omega
  have e:gK (ss,a,bs,(bs.length:Int),(bs.length:Int),bs,key,0,0,())=some (.inr (.inr (ss,a,bs,(bs.length:Int),(bs.length:Int),false,bs,key,0,0,()))):=by refine gU ?_;unfold gK;dsimp only;refine fT (λZ'=>?_) λZ'=>?_;omega;exact fR rfl
  simp only[gc,e,oBS,Oz]
  |succ n ih=>
  intro k N hk hN;obtain⟨N,rfl⟩:∃M,N=M+1:=⟨N-1,by omega⟩;obtain⟨b,hb⟩:=gv bs k (by omega);obtain⟨z,hz⟩:=gv ss k (by omega);have XY:=hs.2.2 z (fZ hz);have hrk:=hr k (by omega);unfold xn at hrk;rw[gr hb,gr hz]at hrk;by_cases hh:b<=a/\a<b+z;have e:gK (ss,a,bs,(bs.length:Int),(k:Int),bs,key,0,0,())=some (.inr (.inl (true,(k:Int),a-b,()))):=by refine gU ?_;unfold gK;dsimp only;rw[oDT (show(k:Int)<bs.length by omega),fX];simp only[oCT,oBS,show fU bs k=some b from hb,show fU ss k=some z from hz];rw[oDT (show a>=b by omega),iD (x:=b+z),oDT hh.2,iD (x:=a-b)];exact fR rfl
  simp only[gc,e,oBS,Oz,gr hb,gr hz,oIP hh];have e:gK (ss,a,bs,(bs.length:Int),(k:Int),bs,key,0,0,())=some (.inl (ss,a,bs,(bs.length:Int),((k+1:Nat):Int),bs,key,0,0,())):=by refine gU ?_;unfold gK;dsimp only;rw[oDT (show(k:Int)<bs.length by omega),fX];simp only[oCT,oBS,show fU bs k=some b from hb,show fU ss k=some z from hz];rw[iD (x:=b+z)];by_cases h1:a>=b;rw[oDT h1,oDF (show ¬a<b+z by omega)];simp only[oCT,oCF];rw[iD (x:=(k:Int)+1)];exact fR rfl;rw[oDF h1];simp only[oCF];rw[iD (x:=(k:Int)+1)];exact fR rfl
  simp only[gc,e,oBS,Oz,gr hb,gr hz,oIN hh];exact ih (k+1) N (by omega) (by omega)
 unfold gW Nu;delta f6;try dsimp only
 rw[show gc gK NN (ss,a,bs,(bs.length:Int),0,bs,key,0,0,())=_ from key1 bs.length 0 NN (by omega) (by unfold NN;omega)];cases Oz bs ss a bs.length 0 with|some x=>rfl|none=>rfl
def rm(bs ss:M_)(key:Int)(c:DCe):DCn:=if c.1=0 then(0,c.2,0,0)else if c.1=2 then(2,wk .u16 (c.2-key),0,0)else match Nu bs ss c.2 with|some (r,o)=>(1,0,r,o)|none=>(1,0,-1,c.2)
theorem vN{K:Int->Prop}{bs ss:M_}{key:Int}{c:DCe}(h:LV bs ss)(hc:n7 K c):ji bs key ss c.1 c.2=some ((rm bs ss key c).1,(rm bs ss key c).2.1,(rm bs ss key c).2.2.1,(rm bs ss key c).2.2.2,()):=by
 have ⟨c0,c1,c2,c3,_⟩:=hc;unfold ji rm;rw[gf (by omega) (by omega)];dsimp only;rw[zf h ⟨c2,c3⟩];rcases(show c.1=0\/c.1=1\/c.1=2 by omega)with e|e|e<;>rw[e]
 rfl;simp;cases Nu bs ss c.2 with|some x=>rfl|none=>rfl
 rfl
theorem j5(x:Int):W16 (wk .u16 x):=sn x
theorem GV{bs ss:M_}{key:Int}{c:DCe}(h:LV bs ss)(hc:n7 (RK bs ss) c):Pr ss (rm bs ss key c):=by have ⟨c0,c1,c2,c3,c4⟩:=hc;unfold rm;rcases(show c.1=0\/c.1=1\/c.1=2 by omega)with e|e|e;rw[oIP e];exact .inl ⟨.inl rfl,rfl,rfl,c2,c3⟩;rw[oIN (by omega),oIN (by omega)];have ⟨r,o,hro⟩:=OA (c4 e);rw[hro];obtain⟨j,b,z,rfl,rfl,h1,h2,h3,h4⟩:=xE h.2.1 hro;exact .inr ⟨rfl,rfl,by simp_all,z,by simp_all,by simp_all,by dsimp only;omega⟩;rw[oIN (by omega),oIP e];exact .inl ⟨.inr rfl,rfl,rfl,j5 _⟩
theorem Br{K:Int->Prop}{bs ss:M_}{key:Int}{c:DCe}(hc:n7 K c):(rm bs ss key c).1=c.1/\(c.1=0->(rm bs ss key c).2.1=c.2):=by
 have ⟨c0,c1,_⟩:=hc;unfold rm;rcases(show c.1=0\/c.1=1\/c.1=2 by omega)with e|e|e;simp_all;rw[oIN (by omega),oIN (by omega)];cases Nu bs ss c.2 with|some x=>simp_all|none=>simp_all
 simp_all
def nu(cs:C_)(ls:G_)(a:Int):DCe:=match ls[(a/4%4).toNat]? with|some x=>if x.1=a/4 then x.2.2.getD (a%4).toNat (0,0)else cs.getD a.toNat (0,0)|none=>(0,0)
theorem getD_some{α:Type}{l:List α}{k:Nat}{d x:α}(h:l[k]?=some x):l.getD k d=x:=by simp_all
theorem Fa{K:Int->Prop}{cs:C_}{ls:G_}{a:Int}(h:i9 K cs ls)(ha:0<=a/\a<512):oF cs ls a=some ((nu cs ls a).1,(nu cs ls a).2,())/\n7 K (nu cs ls a):=by obtain⟨a0,a1⟩:=ha;obtain⟨h1,h2,h3,h4,_⟩:=id h;unfold oF nu;rw[Int.tdiv_eq_ediv_of_nonneg a0,iD (x:=a/4)];dsimp only;rw[oTE (show 0<=a/4 by omega),oTE a0];obtain⟨i,hi⟩:∃i:Nat,a/4%4=i:=⟨(a/4%4).toNat,by omega⟩;rw[hi,fX,oTN];obtain⟨x,hx⟩:=gv ls i (by omega);simp only[oBS,show fU ls i=some x from hx,hx];by_cases hq:x.1=a/4;rcases h4 i x hx with⟨g,_,_⟩|⟨_,_,_,g4,g5⟩;omega;obtain⟨j,hj⟩:∃j:Nat,a%4=j:=⟨(a%4).toNat,by omega⟩;obtain⟨y,hy⟩:=gv x.2.2 j (by omega);rw[hj,fX,oTN,oIP hq,getD_some hy,beq_iff_eq.2 hq];simp only[oCT,oBS,show fU x.2.2 j=some y from hy];exact⟨trivial,g5 y (fZ hy)⟩;obtain⟨j,rfl⟩:∃j:Nat,a=j:=⟨a.toNat,by omega⟩;obtain⟨y,hy⟩:=gv cs j (by omega);rw[oIN hq,oBF hq,fX,oTN,getD_some hy];simp only[oCF,oBS,show fU cs j=some y from hy];exact⟨trivial,h2 y (fZ hy)⟩
def kB(call:Int):M_:=
 if call=0\/call=8\/call=9\/call=11\/call=12 then[78]else if call=1\/call=2 then[72,80,78]else if call=3 then[78,78]else if call=4 then[72]else if call=5 then[72,78]
 else if call=10 then[78,88]else if call=13\/call=14 then[78,80,78]else[]
theorem Pq(call:Int):(kB call).length<=3:=by
 unfold kB;repeat' split
 all_goals simp
def BOk(b:ByteArray)(l:M_):Prop:=BB b=(l.length:Int)/\∀j:Nat,Ef b j=l[j]?
theorem WO:BOk (bytes []) []:=⟨rfl,λj=>rfl⟩
theorem WN{a:Nat}(h:a<256):BOk (bytes [a]) [(a:Int)]:=⟨rfl,λj=>by
 match j with
 |0=>show some (((UInt8.ofNat a).toNat:Nat):Int)=some (a:Int);simp;omega
 |n+1=>rfl⟩
theorem WM{a b:Nat}(h:a<256)(hb:b<256):BOk (bytes [a,b]) [(a:Int),(b:Int)]:=⟨rfl,λj=>by
 match j with
 |0=>show some (((UInt8.ofNat a).toNat:Nat):Int)=some (a:Int);simp;omega
 |1=>show some (((UInt8.ofNat b).toNat:Nat):Int)=some (b:Int);simp;omega
 |n+2=>rfl⟩
theorem WL{a b c:Nat}(h:a<256)(hb:b<256)(hc:c<256):BOk (bytes [a,b,c]) [(a:Int),(b:Int),(c:Int)]:=⟨rfl,λj=>by
 match j with
 |0=>show some (((UInt8.ofNat a).toNat:Nat):Int)=some (a:Int);simp;omega
 |1=>show some (((UInt8.ofNat b).toNat:Nat):Int)=some (b:Int);simp;omega
 |2=>show some (((UInt8.ofNat c).toNat:Nat):Int)=some (c:Int);simp;omega
 |n+3=>rfl⟩
theorem o6{call:Int}(h:0<=call/\call<=15):call=0\/call=1\/call=2\/call=3\/call=4\/call=5\/call=6\/call=7\/call=8\/call=9\/call=10\/call=11\/call=12\/call=13\/call=14\/call=15:=by omega
theorem Fd{call:Int}(h:0<=call/\call<=15):∃b,mX call=some (b,())/\BOk b (kB call):=by
 rcases o6 h with rfl|rfl|rfl|rfl|rfl|rfl|rfl|rfl|rfl|rfl|rfl|rfl|rfl|rfl|rfl|rfl;all_goals first
  |exact⟨_,rfl,WO⟩
  |exact⟨_,rfl,WN (by decide)⟩
  |exact⟨_,rfl,WM (by decide) (by decide)⟩
  |exact⟨_,rfl,WL (by decide) (by decide) (by decide)⟩
def M9(k t:Int):Bool:=if k=78 then t==0 else if k=72 then t==2 else if k=80 then t==1 else true
theorem PP(k t:Int):oD k t=some (M9 k t,()):=by unfold oD M9;by_cases h1:k=78;simp[h1];by_cases h2:k=72;simp[h2];by_cases h3:k=80;simp[h3];simp[h1,h2,h3,oBF h1,oBF h2,oBF h3]
def qI(call:Int):Int:=if call=1\/call=13 then 1 else if call=2\/call=14 then 2 else 0
theorem sd{call:Int}(h:0<=call/\call<=15):kx call=some (qI call,()):=by rcases o6 h with rfl|rfl|rfl|rfl|rfl|rfl|rfl|rfl|rfl|rfl|rfl|rfl|rfl|rfl|rfl|rfl<;>rfl
theorem AI{call:Int}(h:0<=call/\call<=15):jE call=some (((kB call).length:Int),()):=by have ⟨b,e,hb⟩:=Fd h;unfold jE;rw[oDF (show ¬call<0 by omega),oDF (show ¬call>15 by omega),e];simp[hb.1]
theorem Ny{bs ss:M_}{key t v n:Int}(h:LV bs ss)(hv:W16 v)(hn:0<=n/\n<=65535):Ok (od bs key ss t v n) λr=>∃a e,r=(a,e,())/\(e=0->t=1/\a=v/\∃(j:Nat)(b z:Int),bs[j]?=some b/\ss[j]?=some z/\b<=v/\v+n<=b+z/\v<b+z):=by obtain⟨v0,v1⟩:=hv;unfold od;refine fT (λZ'=>?_) λZ'=>?_;exact fR ⟨_,_,rfl,λh=>by omega⟩;rw[gf (x:=v) (by omega) (by omega)];dsimp only;rw[zf h ⟨v0,v1⟩];simp only[oBS];cases e:Nu bs ss v with|none=>exact fR ⟨_,_,rfl,λh=>by omega⟩|some x=>obtain⟨r,o⟩:=x;obtain⟨j,b,z,rfl,rfl,h1,h2,h3,h4⟩:=xE h.2.1 e;have hj:=(oGS h1).1;have hr:=h.2.2 j hj;unfold xn at hr;rw[gr h1,gr h2]at hr;rw[oDF (show ¬n<0 by omega),fX];simp only[oNT,oCF,oBS,show fU ss j=some z from h2];rw[iD (x:=z-(v-b))];refine fT (λZ3=>?_) λZ3=>?_;exact fR ⟨_,_,rfl,λh=>by omega⟩;exact fR ⟨_,_,rfl,λ_=>⟨Z',gf (by omega) (by omega),j,b,z,h1,h2,h3,by omega,h4⟩⟩
structure Qi (call:Int)(m:Int)(bs ss:M_)(rs:C_):Prop where
 fit:∀(j:Nat) k c,(kB call)[j]?=some k->rs[j]?=some c->M9 k c.1=true
 buf:0<qI call->∃p q,rs[1]?=some p/\rs[2]?=some q/\q.2<=16/\p.1=1/\∃(j:Nat)(b z:Int),bs[j]?=some b/\ss[j]?=some z/\b<=p.2/\p.2+q.2<=b+z
 code:call=10\/call=12->∃c,rs[0]?=some c/\c.2<m
theorem KP{call m:Int}{bs ss:M_}{rs:C_}(h:Qi call m bs ss rs):Ok (some ((0:Int),())) λr=>∃e,r=(e,())/\0<=e/\e<=6/\(e=0->Qi call m bs ss rs):=fR ⟨0,rfl,by decide,by decide,λ_=>h⟩
theorem CQ{call m:Int}{bs ss:M_}{rs:C_}:Ok (some ((6:Int),())) λr=>∃e,r=(e,())/\0<=e/\e<=6/\(e=0->Qi call m bs ss rs):=fR ⟨6,rfl,by decide,by decide,λh=>absurd h (by decide)⟩
theorem Nm{n key:Int}{code:F_}{ss bs:M_}{d:j_}{cs:C_}{ls:G_}{ts:J_}{i:Nat}{t:DTh}{x:DIn}(h:MOk n ss bs cs ls ts)(ht:ts[i]?=some t)(hp1:1<=t.2.2.1) (hx:code[(t.2.2.1-1).toNat]?=some x)(hc:0<=x.2.2.2.2/\x.2.2.2.2<=15):Ok (pd code ss d bs key cs ls ts (i:Int)) λr=>∃e,r=(e,())/\0<=e/\e<=6/\(e=0->Qi x.2.2.2.2 code.length bs ss t.2.1):=by
 have hok:=h.thr t (fZ ht);obtain⟨_,hl,hr,⟨p0,p1⟩,_⟩:=id hok;obtain⟨o,A,B,C,call⟩:=x;dsimp only at hc⊢;obtain⟨b,eb,ZM,ZX⟩:=Fd hc;have X3:=Pq call;obtain⟨st,rs,pc,rest⟩:=t;dsimp only at *;obtain⟨j,hj⟩:∃j:Nat,pc-1=j:=⟨(pc-1).toNat,by omega⟩;rw[hj,oTN]at hx;unfold pd;rw[fX];simp only[oBS,show fU ts i=some (st,rs,pc,rest)from ht];rw[iD (x:=pc-1),hj,fX];simp only[oBS,show fU code j=some (o,A,B,C,call)from hx,eb,ZM];obtain⟨c0,hc0⟩:=gv rs 0 (by omega);obtain⟨c1,ZO⟩:=gv rs 1 (by omega);obtain⟨c2,ZK⟩:=gv rs 2 (by omega);have v0:=hr c0 (fZ hc0);have v1:=hr c1 (fZ ZO);have v2:=hr c2 (fZ ZK);have g0:fU rs 0=some c0:=hc0;have g1:fU rs 1=some c1:=ZO;have g2:fU rs 2=some c2:=ZK;obtain⟨y,e,hy⟩:=gZ (f:=oT) (n:=NN) (s:=(call,b,((kB call).length:Int),0,code,ss,d,bs,key,cs,ls,ts,st,rs,pc,rest.1,rest.2.1,rest.2.2.1,rest.2.2.2.1,rest.2.2.2.2,())) (P:=λs'=>∃q:Nat,s'=(call,b,((kB call).length:Int),(q:Int),code,ss,d,bs,key,cs,ls,ts,st,rs,pc,rest.1,rest.2.1,rest.2.2.1,rest.2.2.2.1,rest.2.2.2.2,())/\q<=(kB call).length/\∀(j:Nat) k c,j<q->(kB call)[j]?=some k->rs[j]?=some c->M9 k c.1=true) (R:=λr=>r=.inl (6,())\/(∃q,r=.inr (call,b,((kB call).length:Int),q,false,code,ss,d,bs,key,cs,ls,ts,st,rs,pc,rest.1,rest.2.1,rest.2.2.1,rest.2.2.2.1,rest.2.2.2.2,())/\∀(j:Nat) k c,(kB call)[j]?=some k->rs[j]?=some c->M9 k c.1=true)) (m:=λs'=>(s'.2.2.1-s'.2.2.2.1).toNat) ⟨0,rfl,by omega,λj k c hj=>by omega⟩ (by unfold NN;dsimp only;omega) (by rintro _ ⟨q,rfl,hq,Z4⟩;unfold oT;dsimp only;refine fT (λZ'=>?_) λZ'=>?_;rw[fX];obtain⟨k,hk⟩:=gv (kB call) q (by omega);obtain⟨c,hcq⟩:=gv rs q (by omega);simp only[oBS,ZX q,hk,show fU rs q=some c from hcq,PP];refine fT (λZ3=>?_) λZ3=>?_;exact fR (.inl rfl);rw[iD (x:=(q:Int)+1)];refine fR ⟨⟨q+1,rfl,by omega,λj' k' c' ZQ h1 h2=>?_⟩,by dsimp only;omega⟩;by_cases hjq:j'=q;subst hjq;rw[hk]at h1;rw[hcq]at h2;cases h1;cases h2;exact Z3;exact Z4 j' k' c' (by omega) h1 h2;refine fR (.inr ⟨_,rfl,λj k c h1 h2=>Z4 j k c ?_ h1 h2⟩);have:=(oGS h1).1;omega);rw[e];rcases hy with rfl|⟨q,rfl,Z4⟩;exact CQ;dsimp only;rw[sd hc];delta f6;simp only[oBS,g0,g1,g2];rw[gf (x:=c2.2) (by have:=v2.2.2.1;omega) (by have:=v2.2.2.2.1;omega),gf (x:=c0.2) (by have:=v0.2.2.1;omega) (by have:=v0.2.2.2.1;omega)];have ZU:(0<qI call->∃p q,rs[1]?=some p/\rs[2]?=some q/\q.2<=16/\p.1=1/\∃(j:Nat)(b z:Int),bs[j]?=some b/\ss[j]?=some z/\b<=p.2/\p.2+q.2<=b+z)->Ok ((bif(call==10)then(some ((decide (c0.2>=(code.length:Int))),()))else bif(call==12)then(some ((decide (c0.2>=(code.length:Int))),()))else some (false,()):f_).bind λ(x35,_)=>bif x35 then(some ((6:Int),()))else some (0,())) λr=>∃e,r=(e,())/\0<=e/\e<=6/\(e=0->Qi call code.length bs ss rs):=by intro hbuf;by_cases q10:call=10;simp only[beq_iff_eq.2 q10,oCT,oBS];refine fT (λZ3=>?_) λZ3=>?_;exact CQ;exact KP ⟨Z4,hbuf,λ_=>⟨c0,hc0,by omega⟩⟩;by_cases q12:call=12;simp only[oBF q10,beq_iff_eq.2 q12,oCT,oCF,oBS];refine fT (λZ3=>?_) λZ3=>?_;exact CQ;exact KP ⟨Z4,hbuf,λ_=>⟨c0,hc0,by omega⟩⟩;simp only[oBF q10,oBF q12,oCF,oBS];exact KP ⟨Z4,hbuf,λh=>by omega⟩
 refine fT (λZ'=>?_) λZ'=>?_;refine(Ny (t:=c1.1) (v:=c1.2) (n:=c2.2) h.lay ⟨v1.2.2.1,v1.2.2.2.1⟩ ⟨v2.2.2.1,v2.2.2.2.1⟩).bind ?_;rintro _ ⟨a,e,rfl,he⟩;dsimp only;refine fT (λZ3=>?_) λZ3=>?_;exact CQ;obtain⟨w1,_,j,b',z,w2,w3,w4,w5,w6⟩:=he Z3;refine fT (λhcc=>?_) λhcc=>?_;exact CQ;exact ZU λ_=>⟨c1,c2,ZO,ZK,by omega,w1,j,b',z,w2,w3,w4,w5⟩;exact ZU λh=>by omega
structure A6 (n:Int)(ss:M_)(i stop trap count pc call:Int)(args data:D_):Prop where
 hthr:0<=i/\i<4
 hstop:0<=stop/\stop<=3
 htrap:0<=trap/\trap<=6
 hcnt:0<=count/\count<=n
 hpc:0<=pc/\pc<=255
 hcall:0<=call/\call<=15
 hargs:args.length<=3/\∀c∈args,Pr ss c
 hdata:data.length<=16/\∀c∈data,Pr ss c
 hkind:stop=1->args.length=(kB call).length/\∀(j:Nat) k a,(kB call)[j]?=some k->args[j]?=some a->M9 k a.1=true
 hbuf:stop=1->qI call=2->∃a,args[2]?=some a/\a.2.1<=16
def WV(stop trap:Int)(t':DTh):Prop:=(stop=0/\t'.1=1)\/(stop=1/\t'.1=2)\/(stop=2/\t'.1=4/\t'.2.2.2.2.2.2.1=trap)\/(stop=3/\t'.1≠1)
theorem Rs{bs ss:M_}(h:LV bs ss){r r':Nat}{b z b' z' o o':Int}(hne:r≠r')(hb:bs[r]?=some b)(hz:ss[r]?=some z)(Zg:bs[r']?=some b')(WY:ss[r']?=some z')(h0:0<=o)(h1:o<z)(h0':0<=o')(h1':o'<z'):b+o≠b'+o':=by have ⟨_,hl,hg⟩:=h;have l1:=(oGS hb).1;have l2:=(oGS Zg).1;have g1:=hg r l1;have g2:=hg r' l2;unfold xn at g1 g2;rw[gr hb,gr hz]at g1;rw[gr Zg,gr WY]at g2;by_cases hlt:r'<r;have:=g1.2.2 r' hlt;rw[gr Zg,gr WY]at this;omega;have:=g2.2.2 r (by omega);rw[gr hb,gr hz]at this;omega
theorem Ub{bs ss:M_}{key:Int}{p q:DCe}(h:LV bs ss)(hp:n7 (RK bs ss) p)(hq:n7 (RK bs ss) q)(hp1:p.1=1){j:Nat}{b z:Int}(hb:bs[j]?=some b)(hz:ss[j]?=some z)(h1:b<=p.2)(h2:p.2+q.2<=b+z):∃z',ss[(rm bs ss key p).2.2.1.toNat]?=some z'/\(rm bs ss key p).2.2.2+q.2<=z':=by
 have ⟨_,_,_,_,hrk⟩:=hp;have ⟨r,o,e⟩:=OA (hrk hp1);obtain⟨j',b',z',rfl,rfl,k1,k2,k3,k4⟩:=xE h.2.1 e;have hq0:=hq.2.2.1;have hc:rm bs ss key p=(1,0,(j':Int),p.2-b'):=by unfold rm;simp_all
 rw[hc];refine⟨z',by simp_all,?_⟩;show p.2-b'+q.2<=z';by_cases hjj:j'=j;subst hjj;rw[k1]at hb;rw[k2]at hz;injection hb with hb
 injection hz with hz
 omega;by_cases hq1:q.2=0;omega;exact absurd (show b'+(p.2-b')=b+(p.2-b) by omega) (Rs h hjj k1 k2 hb hz (by omega) (by omega) (by omega) (by omega))
def Qf(ss:M_)(call:Int)(args:D_):Prop:=(qI call=2->∃a q z,args[1]?=some a/\args[2]?=some q/\ss[a.2.2.1.toNat]?=some z/\a.2.2.2+q.2.1<=z)/\(call=10\/call=12->∃a,args[0]?=some a/\a.1=0/\a.2.1<=255)
def LZ(n key:Int)(ss bs:M_)(ts:J_)(i:Nat)(r:v_×Int×C_×G_×J_×Int×Int×Int×Int×Int×Int×D_×D_×Int×Unit):Prop:=
 ∃cs' ls' t' stop trap call args data,r=(bs,key,cs',ls',ts.set i t',(i:Int),stop,trap,t'.2.2.2.1,t'.2.2.1,call,args,data,0,())/\i9 (RK bs ss) cs' ls'/\zG (RK bs ss) n t' /\
  A6 n ss i stop trap t'.2.2.2.1 t'.2.2.1 call args data/\WV stop trap t'/\(stop=3->ts[i]?=some t')/\(stop=1->Qf ss call args)
theorem Ba{n:Int}{ss bs:M_}{i:Nat}{t':DTh}{stop trap:Int}(hi:i<4)(ht:zG (RK bs ss) n t')(hs:0<=stop/\stop<=3)(hs1:stop≠1)(htr:0<=trap/\trap<=6):A6 n ss i stop trap t'.2.2.2.1 t'.2.2.1 0 [] []:=⟨⟨by omega,by omega⟩,hs,htr,ht.count,ht.pc,by decide,⟨by decide,gy⟩,⟨by decide,gy⟩,λh=>absurd h hs1,λh=>absurd h hs1⟩
theorem jY{α β:Type}(f:α->β){l:List α}{k:Nat}{x:α}(h:l[k]?=some x):(l.take k).map f++[f x]=(l.take (k+1)).map f:=by rw[List.take_add_one,h];simp
theorem rB{β:Type}(f:Nat->β)(k:Nat):(List.range k).map f++[f k]=(List.range (k+1)).map f:=by rw[List.range_succ];simp
set_option maxHeartbeats 4000000 in
theorem Bx{n key k:Int}{code:F_}{ss bs:M_}{d:j_}{cs:C_}{ls:G_}{ts:J_}{i:Nat}(hp:kL code ss d)(h:MOk n ss bs cs ls ts)(hn0:0<=n)(hn:n+64<=1099511627776)(hi:i<4)(hk:1<=k/\k<=64):Ok (oE code ss d bs key cs ls ts (i:Int) k) (LZ (n+64) key ss bs ts i):=by
 have Yr:=h.tlen;have hil:i<ts.length:=by omega
 unfold oE;refine(Qv hp h hn0 hn hi hk).bind ?_;rintro _ ⟨s,cs',ls',t',rfl,hm,ZV,hs⟩;have hM:MOk (n+64) ss bs cs' ls' (ts.set i t'):=(h.mono (show n<=n+64 by omega)).set hm ZV;have hgt:(ts.set i t')[i]?=some t':=io hil t';dsimp only;simp only[oBN,oCF,fX,oBS,io hil];rcases hs with⟨rfl,hs1,YX⟩|⟨rfl,hs1⟩|⟨rfl,hs1⟩|⟨rfl,hs1,x,YX,hs3,Xc⟩;exact fR ⟨_,_,_,_,_,_,_,_,rfl,hm,ZV,Ba hi ZV (by decide) (by decide) (by decide),.inr (.inr (.inr ⟨rfl,YX⟩)),λ_=>hs1,λh=>absurd h (by decide)⟩;exact fR ⟨_,_,_,_,_,_,_,_,rfl,hm,ZV,Ba hi ZV (by decide) (by decide) (by decide),.inl ⟨rfl,hs1⟩,λh=>absurd h (by decide),λh=>absurd h (by decide)⟩;exact fR ⟨_,_,_,_,_,_,_,_,rfl,hm,ZV,Ba hi ZV (by decide) (by decide) ZV.trap,.inr (.inr (.inl ⟨rfl,hs1,rfl⟩)),λh=>absurd h (by decide),λh=>absurd h (by decide)⟩;have Ya:=hp.ins x (fZ hs3);have hcall:0<=x.2.2.2.2/\x.2.2.2.2<=15:=⟨Ya.imm.1,Ya.sys Xc⟩;obtain⟨_,ec,e,rfl,he0,he6,hcok⟩:=Nm (key:=key) (d:=d) hM hgt YX hs3 hcall;obtain⟨o,A,B,C,call⟩:=x;dsimp only at hcall hcok;have X3:=Pq call;have hl8:=ZV.len;obtain⟨j,hj⟩:∃j:Nat,t'.2.2.1-1=j:=⟨(t'.2.2.1-1).toNat,by omega⟩;have hpc:=ZV.pc;rw[hj,oTN]at hs3;rw[iD (x:=t'.2.2.1-1),hj];simp only[Int.reduceBEq,oCT,oCF,ec,oBS,fX,show fU code j=some (o,A,B,C,call)from hs3,AI hcall];by_cases hne:e=0;subst hne;obtain⟨Z4,hbuf,Ym⟩:=hcok rfl;have e1:gc kT NN (((kB call).length:Int),0,code,ss,d,(),0,(),(),(),0,0,0,0,0,0,(),(),bs,key,cs',ls',ts.set i t',t'.1,t'.2.1,t'.2.2.1,t'.2.2.2.1,t'.2.2.2.2.1,t'.2.2.2.2.2.1,t'.2.2.2.2.2.2.1,t'.2.2.2.2.2.2.2,(i:Int),1,0,t'.2.2.2.1,t'.2.2.1,call,[],(),())= some (((kB call).length:Int),((kB call).length:Int),false,code,ss,d,(),0,(),(),(),0,0,0,0,0,0,(),(),bs,key,cs',ls',ts.set i t',t'.1,t'.2.1,t'.2.2.1,t'.2.2.2.1,t'.2.2.2.2.1,t'.2.2.2.2.2.1,t'.2.2.2.2.2.2.1,t'.2.2.2.2.2.2.2,(i:Int),1,0,t'.2.2.2.1,t'.2.2.1,call,(t'.2.1.take (kB call).length).map (rm bs ss key),(),()):=by refine nV (f:=kT) (N:=NN) (st:=λq=>(((kB call).length:Int),(q:Int),code,ss,d,(),0,(),(),(),0,0,0,0,0,0,(),(),bs,key,cs',ls',ts.set i t',t'.1,t'.2.1,t'.2.2.1,t'.2.2.2.1,t'.2.2.2.2.1,t'.2.2.2.2.2.1,t'.2.2.2.2.2.2.1,t'.2.2.2.2.2.2.2,(i:Int),1,0,t'.2.2.2.1,t'.2.2.1,call,(t'.2.1.take q).map (rm bs ss key),(),())) (n:=(kB call).length) (by unfold NN;omega) ?_ ?_;intro q hq;unfold kT;dsimp only;rw[oDT (show(q:Int)<(kB call).length by omega),fX];simp only[oCT,oBS];refine f7 λc hc=>?_;rw[vN h.lay (ZV.regs c (fZ hc))];simp only[oBS];refine fS (gd (by simp;omega)) ?_;rw[iD (x:=(q:Int)+1)];refine fR ?_;rw[<- jY (rm bs ss key) hc];rfl;unfold kT;dsimp only;rw[oDF (show ¬((kB call).length:Int)<(kB call).length by omega)];exact fR rfl
 have hargs:((t'.2.1.take (kB call).length).map (rm bs ss key)).length=(kB call).length:=by rw[oLP,oLT];omega
 have hgetA:∀(j:Nat) a,((t'.2.1.take (kB call).length).map (rm bs ss key))[j]?=some a->∃c,t'.2.1[j]?=some c/\a=rm bs ss key c:=by
  intro j a ha;rw[oGP]at ha;cases hc:(t'.2.1.take (kB call).length)[j]? with
  |none=>rw[hc]at ha;cases ha|some c=>
  rw[hc]at ha;injection ha with ha
  refine⟨c,?_,ha.symm⟩;rw[List.getElem?_take]at hc;split at hc;exact hc;cases hc
 have hargsPr:∀c∈(t'.2.1.take (kB call).length).map (rm bs ss key),Pr ss c:=by intro c hc;obtain⟨c',Y1,rfl⟩:=List.mem_map.1 hc;exact GV h.lay (ZV.regs c' (List.mem_of_mem_take Y1))
 have hkinds:∀(j:Nat) k a,(kB call)[j]?=some k->((t'.2.1.take (kB call).length).map (rm bs ss key))[j]?=some a->M9 k a.1=true:=by intro j k a hk ha;obtain⟨c,hc,rfl⟩:=hgetA j a ha;rw[(Br (ZV.regs c (fZ hc))).1];exact Z4 j k c hk hc
 have hbuf2:qI call=2->∃a,((t'.2.1.take (kB call).length).map (rm bs ss key))[2]?=some a/\a.2.1<=16:=by
  intro hb;obtain⟨p,q,hp1,Y6,hq16,_⟩:=hbuf (by omega);have hkk:(kB call)[2]?=some 78:=by
   have:call=2\/call=14:=by unfold qI at hb;split at hb<;>first|omega|(split at hb<;>omega)
   rcases this with rfl|rfl<;>rfl
  have hf:=Z4 2 78 q hkk Y6;have hl3:=(oGS hkk).1;refine⟨rm bs ss key q,?_,?_⟩;rw[oGP,List.getElem?_take,oIP hl3,Y6];rfl;have hq:=(Br (bs:=bs) (ss:=ss) (key:=key) (ZV.regs q (fZ Y6))).2 (by unfold M9 at hf;simpa using hf);rw[hq];exact hq16
 simp only[e1,oBN,oCF,oBS,sd hcall];have hfitok:Qf ss call ((t'.2.1.take (kB call).length).map (rm bs ss key)):=by
  refine⟨λhb=>?_,λhcc=>?_⟩;obtain⟨p,q,hp1,Y6,hq16,hp0,jr,b,z,ZM,hz1,ZX,M'⟩:=hbuf (by omega);have hkk:(kB call)[1]?=some 80/\(kB call)[2]?=some 78:=by
   have:call=2\/call=14:=by unfold qI at hb;split at hb<;>first|omega|(split at hb<;>omega)
   rcases this with rfl|rfl<;>exact⟨rfl,rfl⟩
  have hl3:=(oGS hkk.2).1;have hf:=Z4 2 78 q hkk.2 Y6;have hq:=(Br (bs:=bs) (ss:=ss) (key:=key) (ZV.regs q (fZ Y6))).2 (by unfold M9 at hf;simpa using hf);obtain⟨z',g1,g2⟩:=Ub (key:=key) h.lay (ZV.regs p (fZ hp1)) (ZV.regs q (fZ Y6)) hp0 ZM hz1 ZX M';refine⟨rm bs ss key p,rm bs ss key q,z',by rw[oGP,List.getElem?_take,oIP (by omega),hp1];rfl,by rw[oGP,List.getElem?_take,oIP hl3,Y6];rfl,g1,by rw[hq];exact g2⟩;obtain⟨c,hc0,Y8⟩:=Ym hcc;have hkk:(kB call)[0]?=some 78:=by rcases hcc with rfl|rfl<;>rfl
  have hl0:=(oGS hkk).1;have hf:=Z4 0 78 c hkk hc0;have hq:=Br (bs:=bs) (ss:=ss) (key:=key) (ZV.regs c (fZ hc0));refine⟨rm bs ss key c,by rw[oGP,List.getElem?_take,oIP hl0,hc0];rfl,?_,?_⟩;rw[hq.1];unfold M9 at hf;simpa using hf;rw[hq.2 (by unfold M9 at hf;simpa using hf)];have:=hp.clen;omega
 have ZU:∀data:D_,data.length<=16->(∀c∈data,Pr ss c)->Ok (some (bs,key,cs',ls',ts.set i t',(i:Int),(1:Int),(0:Int),t'.2.2.2.1,t'.2.2.1,call,(t'.2.1.take (kB call).length).map (rm bs ss key),data,(0:Int),())) (LZ (n+64) key ss bs ts i):=λdata h1 h2=>fR ⟨_,_,_,_,_,_,_,_,rfl,hm,ZV,⟨⟨by omega,by omega⟩,by decide,by decide,ZV.count,ZV.pc,hcall,⟨by omega,hargsPr⟩,⟨h1,h2⟩,λ_=>⟨hargs,hkinds⟩,λ_=>hbuf2⟩,.inr (.inl ⟨rfl,hs1⟩),λh=>absurd h (by decide),λ_=>hfitok⟩;by_cases ZM:qI call=1;obtain⟨p,q,hp1,Y6,hq16,_,jr,b,z,hbz1,hbz2,hbz3,hbz4⟩:=hbuf (by omega);have hp':=ZV.regs p (fZ hp1);have hq':=ZV.regs q (fZ Y6);have hjr:=(oGS hbz1).1;have hreg:=h.lay.2.2 jr hjr;unfold xn at hreg;rw[gr hbz1,gr hbz2]at hreg;obtain⟨m,hqm⟩:∃m:Nat,q.2=m:=⟨q.2.toNat,by have:=hq'.2.2.1;omega⟩;have e2:gc kS NN ((m:Int),0,code,ss,d,(),0,(),(),(),0,0,0,0,0,0,(),(),bs,key,cs',ls',ts.set i t',t'.1,t'.2.1,t'.2.2.1,t'.2.2.2.1,t'.2.2.2.2.1,t'.2.2.2.2.2.1,t'.2.2.2.2.2.2.1,t'.2.2.2.2.2.2.2,(i:Int),1,0,t'.2.2.2.1,t'.2.2.1,call,(t'.2.1.take (kB call).length).map (rm bs ss key),[],())= some ((m:Int),(m:Int),false,code,ss,d,(),0,(),(),(),0,0,0,0,0,0,(),(),bs,key,cs',ls',ts.set i t',t'.1,t'.2.1,t'.2.2.1,t'.2.2.2.1,t'.2.2.2.2.1,t'.2.2.2.2.2.1,t'.2.2.2.2.2.2.1,t'.2.2.2.2.2.2.2,(i:Int),1,0,t'.2.2.2.1,t'.2.2.1,call,(t'.2.1.take (kB call).length).map (rm bs ss key),(List.range m).map (λj:Nat=>rm bs ss key (nu cs' ls' (p.2+(j:Int)))),()):=by refine nV (f:=kS) (N:=NN) (st:=λq=>((m:Int),(q:Int),code,ss,d,(),0,(),(),(),0,0,0,0,0,0,(),(),bs,key,cs',ls',ts.set i t',t'.1,t'.2.1,t'.2.2.1,t'.2.2.2.1,t'.2.2.2.2.1,t'.2.2.2.2.2.1,t'.2.2.2.2.2.2.1,t'.2.2.2.2.2.2.2,(i:Int),1,0,t'.2.2.2.1,t'.2.2.1,call,(t'.2.1.take (kB call).length).map (rm bs ss key),(List.range q).map (λj:Nat=>rm bs ss key (nu cs' ls' (p.2+(j:Int)))),())) (n:=m) (by unfold NN;omega) ?_ ?_;intro v hv;unfold kS;dsimp only;have hp0:=hp'.2.2.1;have hp01:=hp'.2.2.2.1;rw[oDT (show(v:Int)<m by omega)];simp only[oCT,oBS,show fU t'.2.1 1=some p from hp1];rw[gf (x:=p.2) (by omega) (by omega),iD (x:=p.2+v)];obtain⟨W6,hlv⟩:=Fa (a:=p.2+v) hm ⟨by omega,by omega⟩;rw[W6];simp only[oBS];rw[vN h.lay hlv];simp only[oBS];refine fS (gd (by simp;omega)) ?_;rw[iD (x:=(v:Int)+1)];refine fR ?_;rw[<- rB];rfl;unfold kS;dsimp only;rw[oDF (show ¬(m:Int)<m by omega)];exact fR rfl
 simp only[ZM,BEq.rfl,oCT,show fU t'.2.1 2=some q from Y6,oBS];rw[gf (x:=q.2) (by omega) (by omega),hqm,e2];simp only[oBS];refine ZU _ (by rw[oLP,List.length_range];omega) ?_;intro c hc;obtain⟨v,hv,rfl⟩:=List.mem_map.1 hc;have hv:=List.mem_range.1 hv;have hp0:=hp'.2.2.1;exact GV h.lay (Fa (a:=p.2+v) hm ⟨by omega,by omega⟩).2;simp only[oBF ZM,oCF];exact ZU [] (by decide) gy;unfold qg oc;simp only[bne_iff_ne.2 hne,oCT];rw[gd (show 4<=1000/\0+t'.2.1.length<=1000000 by omega)];simp only[oCT,oBS,fX,io hil,p5 hil];exact fR ⟨_,_,_,_,_,_,_,_,rfl,hm,ZV.ended ⟨he0,he6⟩,Ba hi (ZV.ended ⟨he0,he6⟩) (by decide) (by decide) ⟨he0,he6⟩,.inr (.inr (.inl ⟨rfl,rfl,rfl⟩)),λh=>absurd h (by decide),λh=>absurd h (by decide)⟩
theorem J1{a b:Int}:mmR false a b<=a/\mmR false a b<=b/\(mmR false a b=a\/mmR false a b=b):=by unfold mmR;simp;omega
theorem lD{α:Type}{l:List α}{i j:Nat}(h:i≠j)(a:α):(l.set i a)[j]?=l[j]?:=by simp_all
theorem Uu.setFile{d:i_}{o:DOp}{f:Nat}{x y:D_}(h:Uu d o)(hf:d[f]?=some x)(hxy:x.length<=y.length):Uu (d.set f y) o:=by rcases h with h|⟨h1,z,h2,h3,h4⟩;exact .inl h;refine .inr ⟨h1,?_⟩;by_cases e:f=o.1.toNat;subst e;rw[hf]at h2;cases h2;exact⟨y,io (oGS hf).1 y,h3,by omega⟩;simp_all
theorem iI.setFile{ss:M_}{d:i_}{os:H_}{f:Nat}{x y:D_}(h:iI ss d os)(hf:d[f]?=some x)(h64:y.length<=64)(hc:∀c∈y,Pr ss c)(hxy:x.length<=y.length):iI ss (d.set f y) os:=⟨by rw[oLS];exact h.dlen,jX h.flen h64,jX h.cells hc,h.olen,λo ho=>(h.opens o ho).setFile hf hxy⟩
theorem iI.setOpen{ss:M_}{d:i_}{os:H_}{i:Nat}{o:DOp}(h:iI ss d os)(ho:Uu d o):iI ss d (os.set i o):=⟨h.dlen,h.flen,h.cells,by rw[oLS];exact h.olen,jX h.opens ho⟩
theorem E6{ss:M_}{d:i_}{os:H_}{h:Int}(hF:iI ss d os):∃b,jM d os h=some (b,())/\(b=true->∃(j f:Nat)(o:DOp)(x:D_),h=j/\j<8/\os[j]?=some o/\o.1=f/\d[f]?=some x/\0<=o.2.1/\o.2.1<=x.length):=by
 have:Ok (jM d os h) λr=>∃b,r=(b,())/\(b=true->∃(j f:Nat)(o:DOp)(x:D_),h=j/\j<8/\os[j]?=some o/\o.1=f/\d[f]?=some x/\0<=o.2.1/\o.2.1<=x.length):=by unfold jM;delta f6;refine fT (λZ'=>?_) λZ'=>?_;refine fT (λZ3=>?_) λZ3=>?_;refine gV λj hj=>?_;have h8:=hF.olen;refine f7 λo ho=>?_;refine fR ⟨_,rfl,λhb=>?_⟩;rcases hF.opens o (fZ ho)with⟨h1,_⟩|⟨h1,x,h2,h3,h4⟩;simp_all;exact⟨j,o.1.toNat,o,x,hj,by omega,ho,by omega,h2,h3,h4⟩;exact fR ⟨_,rfl,λh=>by cases h⟩;exact fR ⟨_,rfl,λh=>by cases h⟩
 obtain⟨_,e,b,rfl,hb⟩:=this;exact⟨b,e,hb⟩
theorem ye{ss:M_}{d:i_}{os:H_}(h:iI ss d os):jd d os=some (d,os,()):=copy17_ok (by have:=h.dlen;omega) (λx hx=>by have:=h.flen x hx;omega) (by have:=h.olen;omega)
theorem Ea{ss:M_}{d:i_}{os:H_}{h:Int}{l:D_}(hs:AJ ss)(hF:iI ss d os)(hl:l.length<=16)(W5:∀c∈l,Pr ss c):Ok (o9 d os h l) λr=>∃d' Za n b,r=(d',Za,n,b,())/\iI ss d' Za/\0<=n/\n<=16:=by
 obtain⟨b,eo,hb⟩:=E6 (h:=h) hF;unfold o9;rw[ye hF];simp only[oBS,eo];cases b with
 |false=>simp only[Bool.not_false,oCT,oBS];exact fR ⟨_,_,_,_,rfl,hF,by decide,by decide⟩|true=>
 obtain⟨j,f,o,x,rfl,hj,ho,hof,hx,o0,o1⟩:=hb rfl;have hg:fU os j=some o:=ho;have hgx:fU d f=some x:=hx;have hjl:=(oGS ho).1;have ZG:=(oGS hx).1;have hx64:=hF.flen x (fZ hx);simp only[oNT,oCF,fX,oBS,hg];cases hw:o.2.2 with
 |false=>simp only[Bool.not_false,oCT,oBS];exact fR ⟨_,_,_,_,rfl,hF,by decide,by decide⟩|true=>
 delta f6;simp only[oNT,oCF,oBS,mD (n:=(l.length:Int)) hs W5 (by omega) (by omega),fX,hg,hof,hgx];rw[iD (x:=64-o.2.1)];obtain⟨m1,m2,m3⟩:=J1 (a:=(l.length:Int)) (b:=64-o.2.1);generalize mmR false (l.length:Int) (64-o.2.1)=k at m1 m2 m3;refine gP (P:=λs'=>∃(i:Nat)(y:D_),s'=(l,j,k,k,(i:Int),(),(),d,f,os,y,())/\(i:Int)<=k/\(∀c∈y,Pr ss c)/\x.length<=y.length/\o.2.1+i<=y.length/\y.length<=64)
  (R:=λr=>∃y:D_,r=(l,j,k,k,k,false,(),(),d,f,os,y,())/\(∀c∈y,Pr ss c)/\x.length<=y.length/\o.2.1+k<=y.length/\y.length<=64) (m:=λs'=>(k-s'.2.2.2.2.1).toNat) ⟨0,x,rfl,by omega,hF.cells x (fZ hx),by omega,by omega,hx64⟩ (by unfold NN;dsimp only;omega) ?_ ?_
 rintro _ ⟨i,y,rfl,hi,hy,hxy,hoy,hy64⟩;unfold tI;dsimp only;refine fT (λZ'=>?_) λZ'=>?_;delta f6;simp only[hg,oBS,fX];rw[iD (x:=o.2.1+i)];obtain⟨c,hc⟩:=gv l i (by omega);have Zz:fU l i=some c:=hc;have hcp:=W5 c (fZ hc);simp only[Zz,oBS];refine Ok.bind (P:=λr=>∃y':D_,r=(l,j,k,k,(i:Int),(),(),d,f,os,y',())/\(∀c∈y',Pr ss c)/\x.length<=y'.length/\o.2.1+i+1<=y'.length/\y'.length<=64) ?_ ?_;refine fT (λZ3=>?_) λZ3=>?_;refine gV λq hq=>?_;refine f7 λ_ hz=>?_;refine f7 λ_ _=>?_;rw[gu hz];exact fR ⟨_,rfl,jX hy hcp,by rw[oLS];omega,by rw[oLS];omega,by rw[oLS];omega⟩;refine fS (gd (by simp;omega)) ?_;exact fR ⟨_,rfl,lh hy (all_cons hcp gy),by rw[iq];omega,by rw[iq,List.length_singleton];omega,by rw[iq,List.length_singleton];omega⟩;rintro _ ⟨y',rfl,g1,g2,g3,g4⟩;dsimp only;rw[iD (x:=(i:Int)+1)];exact fR ⟨⟨i+1,y',rfl,by omega,g1,g2,by omega,g4⟩,by dsimp only;omega⟩;obtain rfl:(i:Int)=k:=by omega
 exact fR ⟨y,rfl,hy,hxy,hoy,hy64⟩;rintro _ ⟨y,rfl,hy,hxy,hoy,hy64⟩;dsimp only;simp only[hg,oBS,hof,fX,hgx];refine fS (by simp) ?_;rw[iD (x:=o.2.1+k),gu hx,gu ho];refine fR ⟨_,_,_,_,rfl,(hF.setFile hx hy64 hy hxy).setOpen (.inr ⟨by dsimp only;omega,y,?_,by dsimp only;omega,by dsimp only;omega⟩),by omega,by omega⟩;dsimp only;rw[hof,oTN];exact io ZG y
theorem HB{ss:M_}{d:i_}{os:H_}{h n:Int}(hF:iI ss d os)(hn:0<=n/\n<=65535):Ok (qT d os h n) λr=>(∃d' Za,r=.inl (d',Za,(),false,())/\iI ss d' Za)\/(∃d' Za l,r=.inr (d',Za,l,true,())/\iI ss d' Za/\(l.length:Int)<=n/\l.length<=64/\∀c∈l,Pr ss c):=by
 obtain⟨b,eo,hb⟩:=E6 (h:=h) hF;unfold qT;rw[ye hF];simp only[oBS,eo];cases b with
 |false=>exact fR (.inl ⟨_,_,rfl,hF⟩)|true=>
 obtain⟨j,f,o,x,rfl,hj,ho,hof,hx,o0,o1⟩:=hb rfl;have hg:fU os j=some o:=ho;have hgx:fU d f=some x:=hx;have hx64:=hF.flen x (fZ hx);rw[oDF (show ¬n<0 by omega)];simp only[oNT,oCF,fX,oBS,hg];cases hw:o.2.2 with
 |true=>exact fR (.inl ⟨_,_,rfl,hF⟩)|false=>
 delta f6;simp only[oCF,fX,oBS,hg,hof,hgx];rw[iD (x:=(x.length:Int)-o.2.1)];obtain⟨m1,m2,m3⟩:=J1 (a:=n) (b:=(x.length:Int)-o.2.1);generalize mmR false n ((x.length:Int)-o.2.1)=k at m1 m2 m3;rw[iD (x:=o.2.1+k)];refine jv o0 λp hp=>?_;refine gV λq hq=>?_;refine fS (by unfold iO;simp;omega) ?_;have hw2:(nG x p (Nat.sub q p)).length=q-p:=by unfold nG;rw[oLT,List.length_drop];show min (q-p) _=q-p;omega
 refine fS (gd (by omega)) ?_;rw[gu ho];refine fR (.inr ⟨_,_,_,rfl,hF.setOpen (.inr ⟨by dsimp only;omega,x,by dsimp only;rw[hof,oTN];exact hx,by dsimp only;omega,by dsimp only;omega⟩),?_,?_,?_⟩);rw[iq,hw2];simp;omega;rw[iq,hw2];simp;omega;refine lh gy λc hc=>hF.cells x (fZ hx) c ?_;unfold nG at hc;exact List.mem_of_mem_drop (List.mem_of_mem_take hc)
theorem EE{ss:M_}{d:i_}{os:H_}{h:Int}(hF:iI ss d os):Ok (pa d os h) λr=>∃d' Za b,r=(d',Za,b,())/\iI ss d' Za:=by have ⟨b,eo,hb⟩:=E6 (h:=h) hF;unfold pa;rw[ye hF];simp only[eo];cases b with|false=>exact fR ⟨_,_,_,rfl,hF⟩|true=>obtain⟨j,f,o,x,rfl,hj,ho,hof,hx,o0,o1⟩:=hb rfl;have hg:fU os j=some o:=ho;simp only[fX,oBS,hg];rw[gu ho];exact fR ⟨_,_,_,rfl,hF.setOpen (.inl ⟨rfl,rfl,rfl⟩)⟩
theorem Hw{ss:M_}{d:i_}{os:H_}{h n:Int}(hF:iI ss d os):Ok (qR d os h n) λr=>∃d' Za b,r=(d',Za,b,())/\iI ss d' Za:=by obtain⟨b,eo,hb⟩:=E6 (h:=h) hF;unfold qR;rw[ye hF];simp only[eo];cases b with|false=>exact fR ⟨_,_,_,rfl,hF⟩|true=>obtain⟨j,f,o,x,rfl,hj,ho,hof,hx,o0,o1⟩:=hb rfl;have hg:fU os j=some o:=ho;have hgx:fU d f=some x:=hx;delta f6;simp only[oNT,oCF,fX,oBS,hg,hof,hgx];by_cases hn:n<0;simp only[oDT hn,oCT,oBS];exact fR ⟨_,_,_,rfl,hF⟩;simp only[oDF hn,oCF,oBS];refine fT (λZ'=>?_) λZ'=>?_;exact fR ⟨_,_,_,rfl,hF⟩;simp only[fX,oBS,hg];rw[gu ho];exact fR ⟨_,_,_,rfl,hF.setOpen (.inr ⟨by dsimp only;omega,x,by simp_all,by dsimp only;omega,by dsimp only;omega⟩)⟩
theorem Lr{ss:M_}{d:i_}{os:H_}{file mode:Int}(hF:iI ss d os):Ok (qU d os file mode) λr=>∃d' Za h,r=(d',Za,h,())/\iI ss d' Za/\-1<=h/\h<=7:=by
 have h8:=hF.olen;have hd4:=hF.dlen;unfold qU;rw[ye hF];simp only[oBS];refine gP (P:=λs'=>∃i:Nat,s'=(file,mode,(i:Int),d,os,(),(),d,os,())/\i<=8) (R:=λr=>∃i:Nat,r=(file,mode,(i:Int),false,d,os,(),(),d,os,())/\i<=8) (m:=λs'=>(8-s'.2.2.1).toNat) ⟨0,rfl,by omega⟩ (by unfold NN;dsimp only;omega) ?_ ?_;rintro _ ⟨i,rfl,hi⟩;unfold uc;delta f6;simp only[h8,fX,oBS];refine fT (λZ'=>?_) λZ'=>?_;refine f7 λo ho=>?_;refine fT (λZ3=>?_) λZ3=>?_;rw[iD (x:=(i:Int)+1)];exact fR ⟨⟨i+1,rfl,by omega⟩,by dsimp only;omega⟩;exact fR ⟨i,rfl,hi⟩;exact fR ⟨i,rfl,hi⟩;rintro _ ⟨i,rfl,hi⟩;delta f6;simp only[h8];have bad:iI ss d os/\(-1:Int)<=-1/\(-1:Int)<=7:=⟨hF,by decide,by decide⟩;refine Ok.bind (P:=λr=>(∃b:Bool,r=(file,mode,(i:Int),b,(),(),d,os,())/\(b=false->0<=file/\file<d.length/\i<8))) ?_ ?_;refine fT (λZ'=>?_) λZ'=>?_;exact fR ⟨true,rfl,λh=>by cases h⟩;refine fT (λZ3=>?_) λZ3=>?_;exact fR ⟨true,rfl,λh=>by cases h⟩;refine fT (λhcc=>?_) λhcc=>?_;exact fR ⟨true,rfl,λh=>by cases h⟩;refine fT (λXE=>?_) λXE=>?_;exact fR ⟨true,rfl,λh=>by cases h⟩;exact fR ⟨_,rfl,λh=>⟨by omega,by omega,by rw[beq_eq_false_iff_ne]at h;omega⟩⟩;rintro _ ⟨b,rfl,hb⟩;dsimp only;cases b with
 |true=>exact fR ⟨_,_,_,rfl,bad⟩|false=>
 obtain⟨f0,f1,hi8⟩:=hb rfl;obtain⟨f,rfl⟩:∃f:Nat,file=f:=⟨file.toNat,by omega⟩;obtain⟨x,hx⟩:=gv d f (by omega);obtain⟨o,ho⟩:=gv os i (by omega);have hgx:fU d f=some x:=hx;have hg:fU os i=some o:=ho;have ZG:=(oGS hx).1;have hil:=(oGS ho).1;simp only[oCF,fX,oBS,hgx,hg];by_cases h1:mode=1;subst h1;simp only[BEq.rfl,oCT];rw[gu hx];simp only[h8];refine gP (P:=λs'=>∃(q:Nat)(Za:H_),s'=((f:Int),1,(i:Int),((8:Nat):Int),(q:Int),(),(),d.set f [],Za,())/\q<=8/\Za.length=8/\(∀(j:Nat) o,j<q->Za[j]?=some o->Uu (d.set f []) o)/\∀j:Nat,q<=j->Za[j]?=os[j]?)
  (R:=λr=>∃(z:Int)(Za:H_),r=((f:Int),1,(i:Int),((8:Nat):Int),z,false,(),(),d.set f [],Za,())/\iI ss (d.set f []) Za) (m:=λs'=>(8-s'.2.2.2.2.1).toNat) ⟨0,os,rfl,by omega,h8,λj o hj=>by omega,λ_ _=>rfl⟩ (by unfold NN;dsimp only;omega) ?_ ?_
 rintro _ ⟨q,Za,rfl,hq,YH,ha,hr⟩;unfold ub;dsimp only;refine fT (λZ'=>?_) λZ'=>?_;obtain⟨o',Zx⟩:∃o',Za[q]?=some o':=⟨_,oGE (by omega)⟩;have hg':fU Za q=some o':=Zx;have hop:=hF.opens o' (fZ (by rw[<- hr q (by omega)];exact Zx));simp only[fX,oBS,hg'];refine Ok.bind (P:=λr=>∃o2:DOp,Uu (d.set f []) o2/\r=((f:Int),1,(i:Int),((8:Nat):Int),(q:Int),(),(),d.set f [],Za.set q o2,())) ?_ ?_;by_cases hof:o'.1=f;simp only[beq_iff_eq.2 hof,oCT];rw[gu Zx];exact fR ⟨_,.inr ⟨by dsimp only;omega,[],by dsimp only;rw[hof,oTN];exact io ZG [],by dsimp only;omega,by simp⟩,rfl⟩;simp only[oBF hof,oCF];refine fR ⟨o',?_,by rw[EV Zx]⟩;rcases hop with h|⟨g1,z,g2,g3⟩;exact .inl h;exact .inr ⟨g1,z,by rw[lD (by omega)];exact g2,g3⟩;rintro _ ⟨o2,hop2,rfl⟩;dsimp only;rw[iD (x:=(q:Int)+1)];refine fR ⟨⟨q+1,_,rfl,by omega,by rw[oLS];exact YH,λj o hj hjo=>?_,λj hj=>?_⟩,by dsimp only;omega⟩;by_cases e:q=j;subst e;rw[show(Za.set q o2)[q]?=some o2 from io (by omega) o2]at hjo;cases hjo;exact hop2;rw[lD e]at hjo;exact ha j o (by omega) hjo;rw[lD (by omega)];exact hr j (by omega);refine fR ⟨_,_,rfl,⟨by rw[oLS];exact hd4,jX hF.flen (by simp),jX hF.cells gy,YH,λo' Zx=>?_⟩⟩;obtain⟨j,hj⟩:=List.getElem?_of_mem Zx;have:=(oGS hj).1;exact ha j o' (by omega) hj;rintro _ ⟨z,Za,rfl,hF'⟩;have YH:=hF'.olen;obtain⟨o',Zx⟩:∃o',Za[i]?=some o':=⟨_,oGE (by omega)⟩;have hg':fU Za i=some o':=Zx;simp only[fX,oBS,hg',show((1:Int)==2)=false from rfl,oCF];rw[gu Zx];exact fR ⟨_,_,_,rfl,hF'.setOpen (.inr ⟨by dsimp only;omega,[],by dsimp only;rw[oTN];exact io ZG [],by dsimp only;omega,by simp⟩),by omega,by omega⟩;simp only[oBF h1,oCF];rw[gu ho];by_cases h2:mode=2;subst h2;simp only[BEq.rfl,oCT,oBS,io hil,p5 hil];exact fR ⟨_,_,_,rfl,hF.setOpen (.inr ⟨by dsimp only;omega,x,by dsimp only;rw[oTN];exact hx,by dsimp only;omega,by dsimp only;omega⟩),by omega,by omega⟩;simp only[oBF h2,oCF,oBS];exact fR ⟨_,_,_,rfl,hF.setOpen (.inr ⟨by dsimp only;omega,x,by dsimp only;rw[oTN];exact hx,by dsimp only;omega,by dsimp only;omega⟩),by omega,by omega⟩
theorem hY(n:Int)(b:Bool):∃v,gt n b=some (0,v,0,0,(),-1,false,())/\W16 v:=by cases b with|true=>exact⟨_,rfl,j5 _⟩|false=>exact⟨_,rfl,j5 _⟩
theorem S2(n:Int)(b:Bool):∃v,gt n b=some (0,v,0,0,(),-1,false,())/\W16 v/\(b=false->v=65535)/\(b=true->0<=n->n<=1000->v≠65535):=by cases b with|true=>exact⟨_,rfl,j5 _,(λh=>by cases h),λ_ h0 h1=>by rw[gp h0 (by omega)];omega⟩|false=>exact⟨_,rfl,j5 _,λ_=>by decide,(λh=>by cases h)⟩
theorem iY{ss:M_}{v:Int}(h:W16 v):Pr ss (0,v,0,0):=.inl ⟨.inl rfl,rfl,rfl,h⟩
theorem OV{ss:M_}{v:Int}(h:W16 v):Pr ss (2,v,0,0):=.inl ⟨.inr rfl,rfl,rfl,h⟩
theorem Oj{ss:M_}{us:I_}{sk:Int}{l:D_}(hu:us.length<=200)(ho:∀(i:Nat) x,us[i]?=some x->UC ss i x)(hl:l.length<=16)(W5:∀c∈l,Pr ss c):Ok (my us sk l) λr=>∃X9 n b,r=(X9,n,b,())/\X9.length<=200/\∀(i:Nat) x,X9[i]?=some x->UC ss i x:=by
 have hc:kP us=some (us,()):=CK (by omega) λx hx=>by obtain⟨j,hj⟩:=List.getElem?_of_mem hx;have:=(ho j x hj).2.2.2.1;omega
 unfold my;rw[hc];delta f6;refine Ok.bind (P:=λr=>∃b:Bool,r=(us,sk,l,b,us,())/\(b=false->0<=sk/\sk<2/\us.length<200)) ?_ ?_;refine fT (λZ'=>?_) λZ'=>?_;exact fR ⟨true,rfl,λh=>by cases h⟩;refine fT (λZ3=>?_) λZ3=>?_;exact fR ⟨true,rfl,λh=>by cases h⟩;refine fT (λhcc=>?_) λhcc=>?_;exact fR ⟨true,rfl,λh=>by cases h⟩;exact fR ⟨_,rfl,λh=>⟨by omega,by omega,by omega⟩⟩;rintro _ ⟨b,rfl,hb⟩;dsimp only;cases b with
 |true=>exact fR ⟨_,_,_,rfl,hu,ho⟩|false=>
 obtain⟨s0,s1,hlt⟩:=hb rfl;simp only[oCF];refine fS (gd (by omega)) (fS (gd (by simp;omega)) ?_);refine fR ⟨_,_,_,rfl,by rw[iq];simp;omega,λi x hx=>?_⟩;simp at hx;rw[List.getElem?_append]at hx;split at hx;simp_all;rename_i hi;obtain⟨q,hq⟩:∃q,i-us.length=q:=⟨_,rfl⟩;rw[hq]at hx;cases q with
 |zero=>
 have:x=((us.length:Int),sk,l):=by simp_all
 subst this;exact⟨by omega,s0,s1,hl,W5⟩
 |succ q=>simp at hx
theorem QU{ss:M_}{us:I_}{sk:Int}{l:D_}(hu:us.length<=200)(ho:∀(i:Nat) x,us[i]?=some x->UC ss i x)(hl:l.length<=16)(W5:∀c∈l,Pr ss c):Ok (my us sk l) λr=>∃X9 n b,r=(X9,n,b,())/\X9.length<=200/\(∀(i:Nat) x,X9[i]?=some x->UC ss i x)/\((b=false/\X9=us)\/(b=true/\n=l.length/\X9=us++[((us.length:Int),sk,l)]/\0<=sk/\sk<2/\us.length<200)):=by
 have hc:kP us=some (us,()):=CK (by omega) λx hx=>by obtain⟨j,hj⟩:=List.getElem?_of_mem hx;have:=(ho j x hj).2.2.2.1;omega
 unfold my;rw[hc];delta f6;refine Ok.bind (P:=λr=>∃b:Bool,r=(us,sk,l,b,us,())/\(b=false->0<=sk/\sk<2/\us.length<200)) ?_ ?_;refine fT (λZ'=>?_) λZ'=>?_;exact fR ⟨true,rfl,λh=>by cases h⟩;refine fT (λZ3=>?_) λZ3=>?_;exact fR ⟨true,rfl,λh=>by cases h⟩;refine fT (λhcc=>?_) λhcc=>?_;exact fR ⟨true,rfl,λh=>by cases h⟩;exact fR ⟨_,rfl,λh=>⟨by omega,by omega,by omega⟩⟩;rintro _ ⟨b,rfl,hb⟩;cases b with
 |true=>exact fR ⟨_,_,_,rfl,hu,ho,.inl ⟨rfl,rfl⟩⟩|false=>
 obtain⟨s0,s1,hlt⟩:=hb rfl;simp only[oCF];refine fS (gd (by omega)) (fS (gd (by simp;omega)) ?_);refine fR ⟨_,_,_,rfl,by rw[iq];simp;omega,λi x hx=>?_,.inr ⟨rfl,rfl,rfl,s0,s1,by omega⟩⟩;simp at hx;rw[List.getElem?_append]at hx;split at hx;simp_all;rename_i hi;obtain⟨q,hq⟩:∃q,i-us.length=q:=⟨_,rfl⟩;rw[hq]at hx;cases q with
 |zero=>
 have:x=((us.length:Int),sk,l):=by simp_all
 subst this;exact⟨by omega,s0,s1,hl,W5⟩
 |succ q=>simp at hx
theorem zL{ss:M_}{ins:j_}{sk n:Int}(hi:ins.length<=2)(h:∀x∈ins,x.length<=64/\∀w∈x,W16 w)(hn:0<=n/\n<=65535):Ok (mN ins sk n) λr=>(∃Yd,r=.inl (Yd,(),false,())/\Yd.length<=2/\∀x∈Yd,x.length<=64/\∀w∈x,W16 w)\/(∃Yd l,r=.inr (Yd,l,true,())/\(Yd.length<=2/\∀x∈Yd,x.length<=64/\∀w∈x,W16 w)/\(l.length:Int)<=n/\l.length<=64/\∀c∈l,Pr ss c):=by
 unfold mN;rw[CI (by omega) (λx hx=>by grind)];delta f6;simp only[oBS];refine Ok.bind (P:=λr=>∃b:Bool,r=(ins,sk,n,b,ins,())/\(b=false->0<=sk/\sk<ins.length)) ?_ ?_;refine fT (λZ'=>?_) λZ'=>?_;exact fR ⟨true,rfl,λh=>by cases h⟩;refine fT (λZ3=>?_) λZ3=>?_;exact fR ⟨true,rfl,λh=>by cases h⟩;exact fR ⟨_,rfl,λ_=>⟨by omega,by omega⟩⟩;rintro _ ⟨b,rfl,hb⟩;dsimp only;cases b with
 |true=>exact fR (Or.inl ⟨_,rfl,hi,h⟩)|false=>
 obtain⟨s0,s1⟩:=hb rfl;obtain⟨j,rfl⟩:∃j:Nat,sk=j:=⟨sk.toNat,by omega⟩;obtain⟨x,hx⟩:=gv ins j (by omega);have hgx:fU ins j=some x:=hx;have hjl:=(oGS hx).1;obtain⟨hx64,hxw⟩:=h x (fZ hx);simp only[oCF,oBS,fX,hgx];obtain⟨m1,m2,m3⟩:=J1 (a:=n) (b:=(x.length:Int));generalize mmR false n (x.length:Int)=k at m1 m2 m3;obtain⟨q,rfl⟩:∃q:Nat,k=q:=⟨k.toNat,by omega⟩;simp only[fX,oBS];refine fS (by unfold iO;simp;omega) ?_;have hw:nG x 0 (Nat.sub q 0)=x.take q:=by unfold nG;rw[List.drop_zero];rfl
 have hwl:(x.take q).length=q:=by rw[oLT];omega
 rw[hw];simp only[hwl];have e:gc jc NN ((j:Int),(q:Int),x.take q,(q:Int),0,ins,[],())=some ((j:Int),(q:Int),x.take q,(q:Int),(q:Int),false,ins,(x.take q).map (λw=>(0,w,0,0)),()):=by have:=nV (f:=jc) (N:=NN) (st:=λi=>((j:Int),(q:Int),x.take q,(q:Int),(i:Int),ins,((x.take q).take i).map (λw=>((0:Int),w,(0:Int),(0:Int))),())) (n:=q) (t:=((j:Int),(q:Int),x.take q,(q:Int),(q:Int),false,ins,(x.take q).map (λw=>((0:Int),w,(0:Int),(0:Int))),())) (by unfold NN;omega) ?_ ?_;exact this;intro i hi;unfold jc;dsimp only;rw[oDT (show(i:Int)<q by omega),fX];simp only[oCT,oBS];refine f7 λw hw=>?_;refine fS (gd (by simp;omega)) ?_;rw[iD (x:=(i:Int)+1)];refine fR ?_;rw[<- jY (λw=>((0:Int),w,(0:Int),(0:Int))) hw];rfl;unfold jc;dsimp only;rw[oDF (show ¬(q:Int)<q by omega)];refine fR ?_;rw[show(x.take q).take q=x.take q from List.take_of_length_le (by omega)]
 rw[e];simp only[fX,oBS,hgx];refine fS (by unfold iO;simp;omega) ?_;rw[gu hx];have hd:∀c∈nG x q (Nat.sub x.length q),c∈x:=λc hc=>by unfold nG at hc;exact List.mem_of_mem_drop (List.mem_of_mem_take hc)
 have hdl:(nG x q (Nat.sub x.length q)).length<=64:=by unfold nG;rw[oLT,List.length_drop];omega
 refine fR (.inr ⟨_,_,rfl,⟨by rw[oLS];exact hi,jX h ⟨hdl,λw hw=>hxw w (hd w hw)⟩⟩,by rw[oLP,hwl];omega,by rw[oLP,hwl];omega,λc hc=>?_⟩);obtain⟨w,hw,rfl⟩:=List.mem_map.1 hc;exact iY (hxw w (List.mem_of_mem_take hw))
theorem yT{n:Int}{ss:M_}{i stop trap count pc call:Int}{args data:D_}(hs:AJ ss)(h:A6 n ss i stop trap count pc call args data)(hn:n<=1099511627776):mY i stop trap count pc call args data=some (true,()):=by have ⟨⟨a1,a2⟩,⟨b1,b2⟩,⟨c1,c2⟩,⟨d1,d2⟩,⟨e1,e2⟩,⟨f1,f2⟩,⟨g1,g2⟩,⟨k1,k2⟩,_,_⟩:=h;refine gU ?_;unfold mY;rw[mD hs g2 (by omega) (by omega),mD hs k2 (by omega) (by omega)];refine fS (oDT a1) (fS (oDT (by omega)) (fS (oDT b1) (fS (oDT b2) (fS (oDT c1) (fS (oDT c2) (fS (oDT d1) (fS (oDT (by omega)) (fS (oDT e1) (fS (oDT e2) (fS (oDT f1) (fS (oDT f2) ?_)))))))))));exact fR rfl
theorem Et{n:Int}{ss:M_}{i trap count pc call:Int}{args data:D_}(h:A6 n ss i 1 trap count pc call args data):pb i 1 trap count pc call args data=some (true,()):=by
 obtain⟨hl,hk⟩:=h.hkind rfl;obtain⟨b,eb,ZM,ZX⟩:=Fd h.hcall;have h3:=Pq call;have e:gc j9 NN (b,args,(args.length:Int),0,i,1,trap,count,pc,call,args,data,())=some (.inr (b,args,(args.length:Int),(args.length:Int),false,i,1,trap,count,pc,call,args,data,())):=by refine nV (f:=j9) (N:=NN) (st:=λq=>(b,args,(args.length:Int),(q:Int),i,1,trap,count,pc,call,args,data,())) (n:=args.length) (by unfold NN;omega) ?_ ?_;intro q hq;obtain⟨k,hkq⟩:=gv (kB call) q (by omega);obtain⟨a,ha⟩:=gv args q (by omega);unfold j9;dsimp only;rw[oDT (show(q:Int)<args.length by omega),fX];simp only[oCT,oBS,show fU args q=some a from ha,ZX q,hkq,PP,hk q k a hkq ha,oCF];rw[iD (x:=(q:Int)+1)];exact fR rfl;unfold j9;dsimp only;rw[oDF (show ¬(args.length:Int)<args.length by omega)];exact fR rfl
 unfold pb;delta f6;simp_all
def Sg(call:Int):Bool:=decide ((1<=call/\call<=7)\/call=13\/call=14)
theorem Qa{call:Int}(h:0<=call/\call<=15):ua call=some (Sg call,()):=by rcases o6 h with rfl|rfl|rfl|rfl|rfl|rfl|rfl|rfl|rfl|rfl|rfl|rfl|rfl|rfl|rfl|rfl<;>rfl
structure Wm (ss:M_)(t v r o:Int)(data:D_)(sp:Int)(w:Bool):Prop where
 val:Pr ss (t,v,r,o)
 dat:data.length<=64/\∀c∈data,Pr ss c
 spn:-1<=sp/\sp<=3
def Sp(us X9:I_)(call:Int)(args data:D_)(t v:Int):Prop:=(call≠13/\X9=us)\/(call=13/\t=0/\((X9=us/\v=65535)\/(v≠65535/\∃a,args[0]?=some a/\X9=us++[((us.length:Int),a.2.1,data)]/\0<=a.2.1/\a.2.1<2/\us.length<200)))
def UG(call:Int)(args dat:D_):Prop:=dat≠[]->qI call=2/\∃q:DCn,args[2]?=some q/\(dat.length:Int)<=q.2.1
def DoX(ss:M_)(us0:I_)(call:Int)(args dat0:D_)(r:v_×v_×g_×i_×H_×I_×Int×Int×Int×Int×D_×Int×Bool×Int×Unit):Prop:=∃ck rn ins d os us t v rg o data,r=(ck,rn,ins,d,os,us,t,v,rg,o,data,-1,false,0,())/\vQ ss ck rn ins d os us/\Pr ss (t,v,rg,o)/\(data.length<=16/\∀c∈data,Pr ss c)/\Sp us0 us call args dat0 t v/\UG call args data
theorem ny{ss:M_}{us0:I_}{call:Int}{args dat0:D_}{ck rn:M_}{ins:j_}{d:i_}{os:H_}{us:I_}{t v rg o:Int}{data:D_}(h:vQ ss ck rn ins d os us)(hv:Pr ss (t,v,rg,o))(hd:data.length<=16/\∀c∈data,Pr ss c)
 (hu:Sp us0 us call args dat0 t v)(hp:UG call args data):Ok (some (ck,rn,ins,d,os,us,t,v,rg,o,data,(-1:Int),false,(0:Int),())) (DoX ss us0 call args dat0):=fR ⟨_,_,_,_,_,_,_,_,_,_,_,rfl,h,hv,hd,hu,hp⟩
theorem kH{call:Int}{args:D_}:UG call args []:=λh=>absurd rfl h
def DoP(ss:M_)(r:v_×v_×g_×i_×H_×I_×Int×Int×Int×Int×D_×Int×Bool×Int×Unit):Prop:=∃ck rn ins d os us t v rg o data,r=(ck,rn,ins,d,os,us,t,v,rg,o,data,-1,false,0,())/\vQ ss ck rn ins d os us/\Pr ss (t,v,rg,o)/\data.length<=16/\∀c∈data,Pr ss c
theorem nz{ss:M_}{ck rn:M_}{ins:j_}{d:i_}{os:H_}{us:I_}{t v rg o:Int}{data:D_}(h:vQ ss ck rn ins d os us)(hv:Pr ss (t,v,rg,o))(hd:data.length<=16/\∀c∈data,Pr ss c):
 Ok (some (ck,rn,ins,d,os,us,t,v,rg,o,data,(-1:Int),false,(0:Int),())) (DoP ss):=fR ⟨_,_,_,_,_,_,_,_,_,_,_,rfl,h,hv,hd⟩
theorem Pr.val{ss:M_}{c:DCn}(h:Pr ss c):W16 c.2.1:=by rcases h with⟨_,_,_,h⟩|⟨_,h,_⟩;exact h;rw[h];exact⟨by decide,by decide⟩
theorem SN{n:Int}{ss:M_}{i trap count pc call:Int}{args data:D_}(h:A6 n ss i 1 trap count pc call args data):qI call=0\/qI call=1\/(qI call=2/\∃a,args[2]?=some a/\a.2.1<=16):=by
 by_cases h2:qI call=2;exact .inr (.inr ⟨h2,h.hbuf rfl h2⟩);have:qI call=0\/qI call=1\/qI call=2:=by unfold qI;split<;>first|omega|(split<;>omega)
 omega
theorem sj{α:Type}{a b:Option α}{Q:α->Prop}(h:Ok a Q)(e:b=a):Ok b Q:=by simp_all
set_option maxHeartbeats 4000000 in
theorem We{n:Int}{ss:M_}{ck rn:M_}{ins:j_}{d:i_}{os:H_}{us:I_}{i trap count pc call:Int}{args data:D_}(hs:AJ ss)(hO:vQ ss ck rn ins d os us)(hR:A6 n ss i 1 trap count pc call args data) (ha:Sg call=true)(hn:n<=1099511627776):Ok (nP ck rn ins d os us i 1 trap count pc call args data) (DoP ss):=by
 have hc:=hR.hcall;have X':=hR.hdata;have Yh:=hR.hargs;unfold nP;rw[vo hs hO,yT hs hR hn,Qa hc,ha,Et hR,sd hc];simp only[oBS,oNT,oCF,oBN];refine Ok.bind (P:=λr=>r=(false,ck,rn,ins,d,os,us,i,1,trap,count,pc,call,args,data,(),(),(),(),(),(),0,0,0,0,(),0,false,())) ?_ ?_;rcases SN hR with h|h|⟨h,a,h2,h3⟩;rw[h];exact fR rfl;rw[h];exact fR rfl;rw[h];simp only[BEq.rfl,oCT,show fU args 2=some a from h2,oBS];rw[oDF (show ¬a.2.1>16 by omega)];exact fR rfl;rintro _ rfl;dsimp only;delta f6;simp only[oCF,CJ hO,oBS];refine gP (P:=λs'=>∃(k:Nat)(vs:M_),s'=(args,(args.length:Int),(k:Int),ck,rn,ins,d,os,us,i,1,trap,count,pc,call,args,data,(),(),(),(),(),(),0,0,0,0,(),0,false,ck,rn,ins,d,os,us,vs,())/\k<=args.length/\vs.length=3/\(∀v∈vs,W16 v)/\∀(j:Nat) a,j<k->args[j]?=some a->vs[j]?=some a.2.1)
  (R:=λr=>∃(z:Int)(vs:M_),r=(args,(args.length:Int),z,false,ck,rn,ins,d,os,us,i,1,trap,count,pc,call,args,data,(),(),(),(),(),(),0,0,0,0,(),0,false,ck,rn,ins,d,os,us,vs,())/\vs.length=3/\(∀v∈vs,W16 v)/\∀(j:Nat) a,args[j]?=some a->vs[j]?=some a.2.1) (m:=λs'=>(s'.2.1-s'.2.2.1).toNat)
  ⟨0,[0,0,0],rfl,by omega,rfl,all_cons ⟨by decide,by decide⟩ (all_cons ⟨by decide,by decide⟩ (all_cons ⟨by decide,by decide⟩ gy)),λj a hj=>by omega⟩ (by unfold NN;dsimp only;omega) ?_ ?_
 rintro _ ⟨k,vs,rfl,hk,hv3,ds,hva⟩;unfold su;dsimp only;refine fT (λZ'=>?_) λZ'=>?_;simp only[fX,oBS];refine f7 λa hak=>?_;have hw:=(Yh.2 a (fZ hak)).val;refine f7 λv hv=>?_;refine f7 λ_ _=>?_;rw[gf (x:=a.2.1) (by have:=hw.1;omega) (by have:=hw.2;omega),iD (x:=(k:Int)+1),gu hv];refine fR ⟨⟨k+1,_,rfl,by omega,by rw[oLS];exact hv3,jX ds hw,λj a' hj haj=>?_⟩,by dsimp only;omega⟩;by_cases e:k=j;subst e;rw[hak]at haj;cases haj;exact io (by omega) _;rw[lD e];exact hva j a' (by omega) haj;refine fR ⟨_,vs,rfl,hv3,ds,λj a haj=>hva j a ?_ haj⟩;have:=(oGS haj).1;omega;rintro _ ⟨z,vs,rfl,hv3,ds,hva⟩;obtain⟨v0,ev0,YS⟩:=hY 0 false;obtain⟨a0,a1,a2,rfl⟩:∃a b c,vs=[a,b,c]:=by match vs,hv3 with| [a,b,c],_=>exact⟨a,b,c,rfl⟩
 have w0:W16 a0:=ds a0 (by simp);have w1:W16 a1:=ds a1 (by simp);have w2:W16 a2:=ds a2 (by simp);have g0:fU [a0,a1,a2] 0=some a0:=rfl;have g1:fU [a0,a1,a2] 1=some a1:=rfl;have g2:fU [a0,a1,a2] 2=some a2:=rfl;have a2le:qI call=2->a2<=16:=λh=>by
  obtain⟨a,h2,h3⟩:=hR.hbuf rfl h;have:=hva 2 a h2;have:a2=a.2.1:=by simpa using this
  omega
 have ZY:([]:D_).length<=16/\∀c∈([]:D_),Pr ss c:=⟨by decide,gy⟩;dsimp only;simp only[ev0,oBS,g0,g1,g2];rcases o6 hc with rfl|rfl|rfl|rfl|rfl|rfl|rfl|rfl|rfl|rfl|rfl|rfl|rfl|rfl|rfl|rfl;all_goals first|(exact absurd ha (by decide))|simp only[Int.reduceBEq,oCT,oCF]
 obtain⟨_,e,d1,A',m,b,rfl,hF,_⟩:=Ea (h:=a0) hs hO.files X'.1 X'.2;obtain⟨v,ev,hv⟩:=hY m b;simp only[e,ev,oBS];exact nz ⟨hO.clock,hO.rand,hO.ilen,hO.inp,hF,hO.ulen,hO.outs⟩ (iY hv) ZY;have hle:=a2le rfl;obtain⟨_,e,hr⟩:=HB (h:=a0) (n:=a2) hO.files w2;rcases hr with⟨d1,A',rfl,hF⟩|⟨d1,A',l,rfl,hF,hl,_,W5⟩;simp only[e,ev0,oBS];exact nz ⟨hO.clock,hO.rand,hO.ilen,hO.inp,hF,hO.ulen,hO.outs⟩ (iY YS) ZY;obtain⟨v,ev,hv⟩:=hY (l.length:Int) true;simp only[e,ev,oBS];exact nz ⟨hO.clock,hO.rand,hO.ilen,hO.inp,hF,hO.ulen,hO.outs⟩ (iY hv) ⟨by omega,W5⟩;obtain⟨_,e,d1,A',h,rfl,hF,h0,h7⟩:=Lr (file:=a0) (mode:=a1) hO.files;simp only[e,oBS];have Yv:vQ ss ck rn ins d1 A' us:=⟨hO.clock,hO.rand,hO.ilen,hO.inp,hF,hO.ulen,hO.outs⟩;by_cases hh:h>=0;simp only[oDT hh,oCT];exact nz Yv (OV (j5 _)) ZY;simp only[oDF hh,oCF];exact nz Yv (iY YS) ZY;obtain⟨_,e,d1,A',b,rfl,hF⟩:=EE (h:=a0) hO.files;obtain⟨v,ev,hv⟩:=hY 0 b;simp only[e,ev,oBS];exact nz ⟨hO.clock,hO.rand,hO.ilen,hO.inp,hF,hO.ulen,hO.outs⟩ (iY hv) ZY;obtain⟨_,e,d1,A',b,rfl,hF⟩:=Hw (h:=a0) (n:=a1) hO.files;obtain⟨v,ev,hv⟩:=hY 0 b;simp only[e,ev,oBS];exact nz ⟨hO.clock,hO.rand,hO.ilen,hO.inp,hF,hO.ulen,hO.outs⟩ (iY hv) ZY;cases ck with
 |nil=>exact nz hO (iY YS) ZY|cons x ck=>
  obtain⟨v,ev,hv⟩:=hY (wk .i64 x) true;have hw:nG (x::ck) 1 (Nat.sub (x::ck).length 1)=ck:=by unfold nG;simp
  refine sj (nz (ck:=ck) ⟨⟨by have:=hO.clock.1;simp at this;omega,λw hw=>hO.clock.2 w (by simp[hw])⟩,hO.rand,hO.ilen,hO.inp,hO.files,hO.ulen,hO.outs⟩ (iY hv) ZY) ?_;simp only[oLC,show fU (x::ck) 0=some x from rfl,oBS,ev];have hd:∀inst:Decidable (((ck.length+1:Nat):Int)>0),@decide _ inst=true:=λinst=>oDT (by omega);rw[oLC]at hw;rw[hd,show iO 1 (ck.length+1) (ck.length+1)=true by unfold iO;simp,hw];rfl
 cases rn with
 |nil=>exact nz hO (iY YS) ZY|cons x rn=>
  obtain⟨v,ev,hv⟩:=hY (wk .i64 x) true;have hw:nG (x::rn) 1 (Nat.sub (x::rn).length 1)=rn:=by unfold nG;simp
  refine sj (nz (rn:=rn) ⟨hO.clock,⟨by have:=hO.rand.1;simp at this;omega,λw hw=>hO.rand.2 w (by simp[hw])⟩,hO.ilen,hO.inp,hO.files,hO.ulen,hO.outs⟩ (iY hv) ZY) ?_;simp only[oLC,show fU (x::rn) 0=some x from rfl,oBS,ev];have hd:∀inst:Decidable (((rn.length+1:Nat):Int)>0),@decide _ inst=true:=λinst=>oDT (by omega);rw[oLC]at hw;rw[hd,show iO 1 (rn.length+1) (rn.length+1)=true by unfold iO;simp,hw];rfl
 obtain⟨_,e,us1,m,b,rfl,hu,ho⟩:=Oj (sk:=a0) hO.ulen hO.outs X'.1 X'.2;obtain⟨v,ev,hv⟩:=hY m b;simp only[e,ev,oBS];exact nz ⟨hO.clock,hO.rand,hO.ilen,hO.inp,hO.files,hu,ho⟩ (iY hv) ZY;have hle:=a2le rfl;obtain⟨_,e,hr⟩:=zL (ss:=ss) (sk:=a0) (n:=a2) hO.ilen hO.inp w2;rcases hr with⟨in1,rfl,Xr,Xs⟩|⟨in1,l,rfl,⟨Xr,Xs⟩,hl,_,W5⟩;simp only[e,ev0,oBS];exact nz ⟨hO.clock,hO.rand,Xr,Xs,hO.files,hO.ulen,hO.outs⟩ (iY YS) ZY;obtain⟨v,ev,hv⟩:=hY (l.length:Int) true;simp only[e,ev,oBS];exact nz ⟨hO.clock,hO.rand,Xr,Xs,hO.files,hO.ulen,hO.outs⟩ (iY hv) ⟨by omega,W5⟩
set_option maxHeartbeats 4000000 in
theorem Vv{n:Int}{ss:M_}{ck rn:M_}{ins:j_}{d:i_}{os:H_}{us:I_}{i trap count pc call:Int}{args data:D_}(hs:AJ ss)(hO:vQ ss ck rn ins d os us)(hR:A6 n ss i 1 trap count pc call args data) (ha:Sg call=true)(hn:n<=1099511627776):Ok (nP ck rn ins d os us i 1 trap count pc call args data) (DoX ss us call args data):=by
 have hc:=hR.hcall;have X':=hR.hdata;have Yh:=hR.hargs;unfold nP;rw[vo hs hO,yT hs hR hn,Qa hc,ha,Et hR,sd hc];simp only[oBS,oNT,oCF,oBN];refine Ok.bind (P:=λr=>r=(false,ck,rn,ins,d,os,us,i,1,trap,count,pc,call,args,data,(),(),(),(),(),(),0,0,0,0,(),0,false,())) ?_ ?_;rcases SN hR with h|h|⟨h,a,h2,h3⟩;rw[h];exact fR rfl;rw[h];exact fR rfl;rw[h];simp only[BEq.rfl,oCT,show fU args 2=some a from h2,oBS];rw[oDF (show ¬a.2.1>16 by omega)];exact fR rfl;rintro _ rfl;dsimp only;delta f6;simp only[oCF,CJ hO,oBS];refine gP (P:=λs'=>∃(k:Nat)(vs:M_),s'=(args,(args.length:Int),(k:Int),ck,rn,ins,d,os,us,i,1,trap,count,pc,call,args,data,(),(),(),(),(),(),0,0,0,0,(),0,false,ck,rn,ins,d,os,us,vs,())/\k<=args.length/\vs.length=3/\(∀v∈vs,W16 v)/\∀(j:Nat) a,j<k->args[j]?=some a->vs[j]?=some a.2.1)
  (R:=λr=>∃(z:Int)(vs:M_),r=(args,(args.length:Int),z,false,ck,rn,ins,d,os,us,i,1,trap,count,pc,call,args,data,(),(),(),(),(),(),0,0,0,0,(),0,false,ck,rn,ins,d,os,us,vs,())/\vs.length=3/\(∀v∈vs,W16 v)/\∀(j:Nat) a,args[j]?=some a->vs[j]?=some a.2.1) (m:=λs'=>(s'.2.1-s'.2.2.1).toNat)
  ⟨0,[0,0,0],rfl,by omega,rfl,all_cons ⟨by decide,by decide⟩ (all_cons ⟨by decide,by decide⟩ (all_cons ⟨by decide,by decide⟩ gy)),λj a hj=>by omega⟩ (by unfold NN;dsimp only;omega) ?_ ?_
 rintro _ ⟨k,vs,rfl,hk,hv3,ds,hva⟩;unfold su;dsimp only;refine fT (λZ'=>?_) λZ'=>?_;simp only[fX,oBS];refine f7 λa hak=>?_;have hw:=(Yh.2 a (fZ hak)).val;refine f7 λv hv=>?_;refine f7 λ_ _=>?_;rw[gf (x:=a.2.1) (by have:=hw.1;omega) (by have:=hw.2;omega),iD (x:=(k:Int)+1),gu hv];refine fR ⟨⟨k+1,_,rfl,by omega,by rw[oLS];exact hv3,jX ds hw,λj a' hj haj=>?_⟩,by dsimp only;omega⟩;by_cases e:k=j;subst e;rw[hak]at haj;cases haj;exact io (by omega) _;rw[lD e];exact hva j a' (by omega) haj;refine fR ⟨_,vs,rfl,hv3,ds,λj a haj=>hva j a ?_ haj⟩;have:=(oGS haj).1;omega;rintro _ ⟨z,vs,rfl,hv3,ds,hva⟩;obtain⟨v0,ev0,YS⟩:=hY 0 false;obtain⟨a0,a1,a2,rfl⟩:∃a b c,vs=[a,b,c]:=by match vs,hv3 with| [a,b,c],_=>exact⟨a,b,c,rfl⟩
 have w0:W16 a0:=ds a0 (by simp);have w1:W16 a1:=ds a1 (by simp);have w2:W16 a2:=ds a2 (by simp);have g0:fU [a0,a1,a2] 0=some a0:=rfl;have g1:fU [a0,a1,a2] 1=some a1:=rfl;have g2:fU [a0,a1,a2] 2=some a2:=rfl;have a2le:qI call=2->a2<=16:=λh=>by
  obtain⟨a,h2,h3⟩:=hR.hbuf rfl h;have:=hva 2 a h2;have:a2=a.2.1:=by simpa using this
  omega
 have a2x:qI call=2->∀{l:D_},(l.length:Int)<=a2->∃q:DCn,args[2]?=some q/\(l.length:Int)<=q.2.1:=λh l hl=>by
  obtain⟨a,h2,h3⟩:=hR.hbuf rfl h;have:=hva 2 a h2;have e2:a2=a.2.1:=by simpa using this
  exact⟨a,h2,by omega⟩
 have ZY:([]:D_).length<=16/\∀c∈([]:D_),Pr ss c:=⟨by decide,gy⟩;dsimp only;simp only[ev0,oBS,g0,g1,g2];rcases o6 hc with rfl|rfl|rfl|rfl|rfl|rfl|rfl|rfl|rfl|rfl|rfl|rfl|rfl|rfl|rfl|rfl;all_goals first|(exact absurd ha (by decide))|simp only[Int.reduceBEq,oCT,oCF]
 obtain⟨_,e,d1,A',m,b,rfl,hF,_⟩:=Ea (h:=a0) hs hO.files X'.1 X'.2;obtain⟨v,ev,hv⟩:=hY m b;simp only[e,ev,oBS];exact ny ⟨hO.clock,hO.rand,hO.ilen,hO.inp,hF,hO.ulen,hO.outs⟩ (iY hv) ZY (.inl ⟨by decide,rfl⟩) kH;have hle:=a2le rfl;obtain⟨_,e,hr⟩:=HB (h:=a0) (n:=a2) hO.files w2;rcases hr with⟨d1,A',rfl,hF⟩|⟨d1,A',l,rfl,hF,hl,_,W5⟩;simp only[e,ev0,oBS];exact ny ⟨hO.clock,hO.rand,hO.ilen,hO.inp,hF,hO.ulen,hO.outs⟩ (iY YS) ZY (.inl ⟨by decide,rfl⟩) kH;obtain⟨v,ev,hv⟩:=hY (l.length:Int) true;simp only[e,ev,oBS];exact ny ⟨hO.clock,hO.rand,hO.ilen,hO.inp,hF,hO.ulen,hO.outs⟩ (iY hv) ⟨by omega,W5⟩ (.inl ⟨by decide,rfl⟩) (λ_=>⟨rfl,a2x rfl hl⟩);obtain⟨_,e,d1,A',h,rfl,hF,h0,h7⟩:=Lr (file:=a0) (mode:=a1) hO.files;simp only[e,oBS];have Yv:vQ ss ck rn ins d1 A' us:=⟨hO.clock,hO.rand,hO.ilen,hO.inp,hF,hO.ulen,hO.outs⟩;by_cases hh:h>=0;simp only[oDT hh,oCT];exact ny Yv (OV (j5 _)) ZY (.inl ⟨by decide,rfl⟩) kH;simp only[oDF hh,oCF];exact ny Yv (iY YS) ZY (.inl ⟨by decide,rfl⟩) kH;obtain⟨_,e,d1,A',b,rfl,hF⟩:=EE (h:=a0) hO.files;obtain⟨v,ev,hv⟩:=hY 0 b;simp only[e,ev,oBS];exact ny ⟨hO.clock,hO.rand,hO.ilen,hO.inp,hF,hO.ulen,hO.outs⟩ (iY hv) ZY (.inl ⟨by decide,rfl⟩) kH;obtain⟨_,e,d1,A',b,rfl,hF⟩:=Hw (h:=a0) (n:=a1) hO.files;obtain⟨v,ev,hv⟩:=hY 0 b;simp only[e,ev,oBS];exact ny ⟨hO.clock,hO.rand,hO.ilen,hO.inp,hF,hO.ulen,hO.outs⟩ (iY hv) ZY (.inl ⟨by decide,rfl⟩) kH;cases ck with
 |nil=>exact ny hO (iY YS) ZY (.inl ⟨by decide,rfl⟩) kH|cons x ck=>
  obtain⟨v,ev,hv⟩:=hY (wk .i64 x) true;have hw:nG (x::ck) 1 (Nat.sub (x::ck).length 1)=ck:=by unfold nG;simp
  refine sj (ny (ck:=ck) ⟨⟨by have:=hO.clock.1;simp at this;omega,λw hw=>hO.clock.2 w (by simp[hw])⟩,hO.rand,hO.ilen,hO.inp,hO.files,hO.ulen,hO.outs⟩ (iY hv) ZY (.inl ⟨by decide,rfl⟩) kH) ?_;simp only[oLC,show fU (x::ck) 0=some x from rfl,oBS,ev];have hd:∀inst:Decidable (((ck.length+1:Nat):Int)>0),@decide _ inst=true:=λinst=>oDT (by omega);rw[oLC]at hw;rw[hd,show iO 1 (ck.length+1) (ck.length+1)=true by unfold iO;simp,hw];rfl
 cases rn with
 |nil=>exact ny hO (iY YS) ZY (.inl ⟨by decide,rfl⟩) kH|cons x rn=>
  obtain⟨v,ev,hv⟩:=hY (wk .i64 x) true;have hw:nG (x::rn) 1 (Nat.sub (x::rn).length 1)=rn:=by unfold nG;simp
  refine sj (ny (rn:=rn) ⟨hO.clock,⟨by have:=hO.rand.1;simp at this;omega,λw hw=>hO.rand.2 w (by simp[hw])⟩,hO.ilen,hO.inp,hO.files,hO.ulen,hO.outs⟩ (iY hv) ZY (.inl ⟨by decide,rfl⟩) kH) ?_;simp only[oLC,show fU (x::rn) 0=some x from rfl,oBS,ev];have hd:∀inst:Decidable (((rn.length+1:Nat):Int)>0),@decide _ inst=true:=λinst=>oDT (by omega);rw[oLC]at hw;rw[hd,show iO 1 (rn.length+1) (rn.length+1)=true by unfold iO;simp,hw];rfl
 obtain⟨_,e,us1,m,b,rfl,hu,ho,hx⟩:=QU (sk:=a0) hO.ulen hO.outs X'.1 X'.2;obtain⟨v,ev,hv,hv0',hv1'⟩:=S2 m b;have hsend:Sp us us1 13 args data 0 v:=by
  refine .inr ⟨rfl,rfl,?_⟩;rcases hx with⟨hb,hu⟩|⟨hb,hm,hu,s0,s1,hlt⟩;exact .inl ⟨hu,hv0' hb⟩;obtain⟨Y9,_⟩:=hR.hkind rfl;obtain⟨a,ha⟩:=gv args 0 (by rw[Y9];decide);have e0:a0=a.2.1:=by simpa using hva 0 a ha
  exact .inr ⟨hv1' hb (by omega) (by have:=X'.1;omega),a,ha,by rw[hu,e0],by omega,by omega,hlt⟩
 simp only[e,ev,oBS];exact ny ⟨hO.clock,hO.rand,hO.ilen,hO.inp,hO.files,hu,ho⟩ (iY hv) ZY hsend kH;have hle:=a2le rfl;obtain⟨_,e,hr⟩:=zL (ss:=ss) (sk:=a0) (n:=a2) hO.ilen hO.inp w2;rcases hr with⟨in1,rfl,Xr,Xs⟩|⟨in1,l,rfl,⟨Xr,Xs⟩,hl,_,W5⟩;simp only[e,ev0,oBS];exact ny ⟨hO.clock,hO.rand,Xr,Xs,hO.files,hO.ulen,hO.outs⟩ (iY YS) ZY (.inl ⟨by decide,rfl⟩) kH;obtain⟨v,ev,hv⟩:=hY (l.length:Int) true;simp only[e,ev,oBS];exact ny ⟨hO.clock,hO.rand,Xr,Xs,hO.files,hO.ulen,hO.outs⟩ (iY hv) ⟨by omega,W5⟩ (.inl ⟨by decide,rfl⟩) (λ_=>⟨rfl,a2x rfl hl⟩)
def nJ(bs:M_)(key:Int)(c:DCn):DCe:=if c.1=0 then(0,c.2.1)else if c.1=2 then(2,wk .u16 (c.2.1+key))else(1,wk .u16 (bs.getD c.2.2.1.toNat 0+c.2.2.2))
theorem vD{bs ss:M_}(h:LV bs ss){r o n:Int}(h1:0<=r)(h2:ss[r.toNat]?=some n)(h3:0<=o)(h4:o<n):∃b,bs[r.toNat]?=some b/\0<=b+o/\b+o<512/\b<=b+o/\b+o<b+n:=by have ⟨hs,hl,hr⟩:=h;have hj:=(oGS h2).1;have ⟨b,hb⟩:=gv bs r.toNat (by omega);have hrr:=hr r.toNat (by omega);unfold xn at hrr;rw[gr hb,gr h2]at hrr;exact⟨b,hb,by omega,by omega,by omega,by omega⟩
theorem rU{bs ss:M_}{key:Int}{c:DCn}(h:LV bs ss)(hc:Pr ss c):jq bs key ss c.1 c.2.1 c.2.2.1 c.2.2.2=some ((nJ bs key c).1,(nJ bs key c).2,0,())/\n7 (RK bs ss) (nJ bs key c):=by unfold jq nJ;rw[mt hc];rcases hc with⟨h1|h1,h2,h3,h4⟩|⟨h1,h2,h3,n,h5,h6,h7⟩;rw[h1];exact⟨rfl,kj h4⟩;rw[h1];exact⟨rfl,(show(0:Int)<=2 by decide),(show(2:Int)<=2 by decide),(j5 _).1,(j5 _).2,λe=>absurd (show(2:Int)=1 from e) (by decide)⟩;obtain⟨b,hb,b0,b1,b2,b3⟩:=vD h h3 h5 h6 h7;obtain⟨j,hj⟩:∃j:Nat,c.2.2.1=j:=⟨c.2.2.1.toNat,by omega⟩;rw[hj]at hb h5⊢;rw[h1,gr hb];simp[oCF,if_false,fX,show fU bs j=some b from hb];rw[gD (by omega) (by omega),gp (by omega) (by omega)];exact⟨rfl,by omega,by omega,by omega,by omega,λ_=>⟨j,b,n,hb,h5,b2,b3⟩⟩
theorem EL{bs ss:M_}{key r o n:Int}(h:LV bs ss)(h1:0<=r)(h2:ss[r.toNat]?=some n)(h3:0<=o)(h4:o<n):∃a,nb bs key ss r o=some (a,0,())/\0<=a/\a<512/\a=bs.getD r.toNat 0+o:=by have ⟨b,hb,b0,b1,_⟩:=vD h h1 h2 h3 h4;obtain⟨j,rfl⟩:∃j:Nat,r=j:=⟨r.toNat,by omega⟩;unfold nb;rw[xX h1 h2 h3 h4];simp[fX,show fU bs j=some b from hb];rw[gD (by omega) (by omega)];simp_all
theorem Ls(pc t v:Int):sB pc t v=some (1,[(t,v),(0,0),(0,0),(0,0),(0,0),(0,0),(0,0),(0,0)],pc,0,-1,-1,0,0,()):=rfl
def Wo(n key:Int)(ss bs:M_)(r:Bool×v_×Int×C_×G_×J_×Unit):Prop:=∃b cs' ls' ZW,r=(b,bs,key,cs',ls',ZW,())/\(b=true->MOk n ss bs cs' ls' ZW)
theorem BO{n key:Int}{ss bs:M_}{cs:C_}{ls:G_}{ts:J_}:Ok (some (false,bs,key,cs,ls,ts,())) (Wo n key ss bs):=fR ⟨_,_,_,_,rfl,λh=>by cases h⟩
theorem t7{n key ct cv:Int}{ss bs:M_}{cs:C_}{ls:G_}{ts:J_}{i:Nat}(h:MOk n ss bs cs ls ts)(hi:i<4)(hc:n7 (RK bs ss) (ct,cv)):Ok ((fU ts i).bind λ_=>(fU ts i).bind λx75=>(fU x75.2.1 0).bind λ_=>(fU ts i).bind λx77=>(fU x77.2.1 0).bind λ_=>(fU (List.modify ts i λe=>(e.1,((List.modify e.2.1 0 λ_=>(ct,cv)),e.2.2))) i).bind λ_=> some (true,bs,key,cs,ls,List.modify (List.modify ts i λe=>(e.1,((List.modify e.2.1 0 λ_=>(ct,cv)),e.2.2))) i λe=>((1:Int),e.2),())) (Wo n key ss bs):=by have Yr:=h.tlen;have ⟨t,ht⟩:=gv ts i (by omega);have hg:fU ts i=some t:=ht;have hil:=(oGS ht).1;have hok:=h.thr t (fZ ht);have ⟨c,hc0⟩:=gv t.2.1 0 (by have:=hok.len;omega);simp[hg,show fU t.2.1 0=some c from hc0,gu ht,gu hc0,io hil,p5 hil];exact fR ⟨_,_,_,_,rfl,λ_=>h.set h.mem ⟨⟨show(0:Int)<=1 by decide,show(1:Int)<=4 by decide⟩,by dsimp only;rw[oLS];exact hok.len,jX hok.regs hc,hok.pc,hok.count,hok.handler,hok.saved,hok.trap,hok.code⟩⟩
theorem Ee{K:Int->Prop}{n pc:Int}{rs:C_}(hl:rs.length=8)(hr:∀c∈rs,n7 K c)(hp:0<=pc/\pc<=255)(hn:0<=n):zG K n (1,rs,pc,0,-1,-1,0,0):=⟨⟨show(0:Int)<=1 by decide,show(1:Int)<=4 by decide⟩,hl,hr,hp,⟨show(0:Int)<=0 by decide,hn⟩,⟨show(-1:Int)<=-1 by decide,show(-1:Int)<=255 by decide⟩,⟨show(-1:Int)<=-1 by decide,show(-1:Int)<=255 by decide⟩,⟨show(0:Int)<=0 by decide,show(0:Int)<=6 by decide⟩,⟨show(0:Int)<=0 by decide,show(0:Int)<=65535 by decide⟩⟩
theorem MOk.mk_mem{n:Int}{ss bs:M_}{cs cs':C_}{ls ls':G_}{ts:J_}(h:MOk n ss bs cs ls ts)(hm:i9 (RK bs ss) cs' ls'):MOk n ss bs cs' ls' ts:=⟨h.lay,hm,h.tlen,h.thr⟩
set_option maxHeartbeats 4000000 in
theorem VT{n m key:Int}{code:F_}{ss bs:M_}{dd:j_}{cs:C_}{ls:G_}{ts:J_}{i:Nat}{trap count pc call:Int}{args data:D_}{t v rg o sp:Int}{dat:D_}{w:Bool}(h:MOk n ss bs cs ls ts)(hi:i<4) (hR:A6 m ss (i:Int) 1 trap count pc call args data)(hv:Pr ss (t,v,rg,o))(hd:dat.length<=16/\∀c∈dat,Pr ss c)(ZF:-1<=sp/\sp<=3):Ok (nQ code ss dd (i:Int) 1 trap count pc call args data t v rg o dat sp w bs key cs ls ts) (Wo n key ss bs):=by
 have hL:=h.lay;have Yr:=h.tlen;obtain⟨Y9,Yi⟩:=hR.hkind rfl;have hargs:=hR.hargs;obtain⟨Xb,Zq⟩:=rU (key:=key) hL hv;obtain⟨th,Zr⟩:=gv ts i (by omega);have hok:=h.thr th (fZ Zr);have hc0:=hok.count;have hil:=(oGS Zr).1;dsimp only at Xb;unfold nQ;delta f6;rw[fX,Xb,sd hR.hcall];simp only[oBS,oBN,oCF];refine gT hil λ_ _=>?_;have ZU:=t7 (key:=key) (ct:=(nJ bs key (t,v,rg,o)).1) (cv:=(nJ bs key (t,v,rg,o)).2) h hi Zq;have buf:qI call=2->dat.length>0->∃a:DCn,args[1]?=some a/\Pr ss a/\a.1=1/\∃y,gc jo NN (i,dat,(dat.length:Int),0,bs,key,cs,ls,ts,code,ss,dd,(i:Int),1,trap,count,pc,call,args,data,t,v,rg,o,dat,sp,w,(nJ bs key (t,v,rg,o)).1,(nJ bs key (t,v,rg,o)).2,a.2.2.1,a.2.2.2,())=some y /\((∃cs' ls',y=.inl (false,bs,key,cs',ls',ts,()))\/(∃cs' ls' z f,y=.inr (i,dat,(dat.length:Int),z,false,bs,key,cs',ls',ts,code,ss,dd,(i:Int),1,trap,count,pc,call,args,data,t,v,rg,o,dat,sp,w,(nJ bs key (t,v,rg,o)).1,(nJ bs key (t,v,rg,o)).2,a.2.2.1,f,())/\i9 (RK bs ss) cs' ls')):=by
  intro hb Z0;have hkk:(kB call)[1]?=some 80:=by
   have:call=2\/call=14:=by unfold qI at hb;split at hb<;>first|omega|(split at hb<;>omega)
   rcases this with rfl|rfl<;>rfl
  have Xu:=(oGS hkk).1;obtain⟨a,ha⟩:=gv args 1 (by omega);have Yh:=hargs.2 a (fZ ha);have Z4:=Yi 1 80 a hkk ha;have YG:a.1=1:=by unfold M9 at Z4;simpa using Z4
  have ha32:0<=a.2.2.2/\a.2.2.2<=32:=by rcases Yh with⟨g,_⟩|⟨_,_,_,z,g1,g2,g3⟩;omega;have:=hL.1.2.2 z (fZ g1);omega
  refine⟨a,ha,Yh,YG,?_⟩;refine gZ (f:=jo) (n:=NN) (P:=λs'=>∃k:Nat,∃cs' ls',s'=(i,dat,(dat.length:Int),(k:Int),bs,key,cs',ls',ts,code,ss,dd,(i:Int),1,trap,count,pc,call,args,data,t,v,rg,o,dat,sp,w,(nJ bs key (t,v,rg,o)).1,(nJ bs key (t,v,rg,o)).2,a.2.2.1,a.2.2.2+k,())/\k<=dat.length/\i9 (RK bs ss) cs' ls')
   (R:=λy=>(∃cs' ls',y=.inl (false,bs,key,cs',ls',ts,()))\/(∃cs' ls' z f,y=.inr (i,dat,(dat.length:Int),z,false,bs,key,cs',ls',ts,code,ss,dd,(i:Int),1,trap,count,pc,call,args,data,t,v,rg,o,dat,sp,w,(nJ bs key (t,v,rg,o)).1,(nJ bs key (t,v,rg,o)).2,a.2.2.1,f,())/\i9 (RK bs ss) cs' ls'))
   (m:=λs'=>(s'.2.2.1-s'.2.2.2.1).toNat) ⟨0,cs,ls,by simp,by omega,h.mem⟩ (by unfold NN;dsimp only;omega) ?_
  rintro _ ⟨k,cs',ls',rfl,hk,hm⟩;unfold jo;dsimp only;refine fT (λZ'=>?_) λZ'=>?_;rw[fX];simp only[oBS];refine f7 λc hc=>?_;obtain⟨Z8,Yj⟩:=rU (key:=key) hL (hd.2 c (fZ hc));rw[Z8];simp only[oBS,oBN,oCF];refine Ew.bind ?_;rintro⟨q,_⟩ hin;dsimp only at hin⊢;refine fT (λZ3=>?_) λZ3=>?_;exact fR (.inl ⟨_,_,rfl⟩);obtain⟨g1,g2,z,g3,g4⟩:=hin Z3;obtain⟨ad,ea,a0,a1,_⟩:=EL (key:=key) hL g1 g3 g2 g4;rw[ea];simp only[oBS];refine(yX hm ⟨a0,a1⟩ Yj).bind ?_;rintro _ ⟨XZ,XJ,rfl,hm2⟩;dsimp only;rw[iD (x:=a.2.2.2+k+1),iD (x:=(k:Int)+1)];exact fR ⟨⟨k+1,_,_,by rw[show a.2.2.2+((k+1:Nat):Int)=a.2.2.2+k+1 by omega];rfl,by omega,hm2⟩,by dsimp only;omega⟩;exact fR (.inr ⟨_,_,_,_,rfl,hm⟩)
 rcases o6 hR.hcall with rfl|rfl|rfl|rfl|rfl|rfl|rfl|rfl|rfl|rfl|rfl|rfl|rfl|rfl|rfl|rfl;case inr.inr.inl=>
  simp only[show((qI 2)==2)=true from rfl,oCT];by_cases Z0:dat.length>0
  ·obtain⟨a,ha,Yh,YG,y,ey,hy⟩:=buf rfl Z0;simp only[oDT (show((dat.length:Nat):Int)>0 by omega),oCT,show fU args 1=some a from ha,oBS,mt Yh,oNT,oCF,bne_eq_false_iff_eq.2 YG,ey]
   rcases hy with⟨cs',ls',rfl⟩|⟨cs',ls',z,f,rfl,hm⟩
   ·exact BO
   ·simp only[Int.reduceBEq,oCF];exact t7 (h.mk_mem hm) hi Zq
  ·simp only[oDF (show ¬((dat.length:Nat):Int)>0 by omega),oCF,Int.reduceBEq];exact ZU
 case inr.inr.inr.inr.inr.inr.inr.inr.inr.inr.inr.inr.inr.inr.inl=>
  simp only[show((qI 14)==2)=true from rfl,oCT];by_cases Z0:dat.length>0
  ·obtain⟨a,ha,Yh,YG,y,ey,hy⟩:=buf rfl Z0;simp only[oDT (show((dat.length:Nat):Int)>0 by omega),oCT,show fU args 1=some a from ha,oBS,mt Yh,oNT,oCF,bne_eq_false_iff_eq.2 YG,ey]
   rcases hy with⟨cs',ls',rfl⟩|⟨cs',ls',z,f,rfl,hm⟩
   ·exact BO
   ·simp only[Int.reduceBEq,oCF];exact t7 (h.mk_mem hm) hi Zq
  ·simp only[oDF (show ¬((dat.length:Nat):Int)>0 by omega),oCF,Int.reduceBEq];exact ZU
 case inr.inr.inr.inr.inr.inr.inr.inr.inr.inr.inr.inr.inl=>
  obtain⟨a,ha⟩:=gv args 0 (by rw[Y9];decide);have hva:=(hargs.2 a (fZ ha)).val;simp only[show((qI 12)==2)=false from rfl,oCF,Int.reduceBEq,oCT,show fU args 0=some a from ha,oBS];rw[gf (x:=a.2.1) (by have:=hva.1;omega) (by have:=hva.2;omega)];by_cases h1:a.2.1>255
  ·simp only[oDT h1,oCT];exact BO
  by_cases h2:a.1=0
  ·simp only[oDF h1,oCF,bne_eq_false_iff_eq.2 h2,show fU ts i=some th from Zr,oBS,gu Zr];exact t7 (h.set h.mem ⟨hok.state,hok.len,hok.regs,hok.pc,hok.count,⟨by dsimp only;have:=hva.1;omega,by dsimp only;omega⟩,hok.saved,hok.trap,hok.code⟩) hi Zq
  ·simp only[oDF h1,oCF,bne_iff_ne.2 h2,oCT];exact BO
 case inr.inr.inr.inr.inr.inr.inr.inr.inr.inr.inl=>
  obtain⟨a,ha⟩:=gv args 0 (by rw[Y9];decide);obtain⟨c,hc⟩:=gv args 1 (by rw[Y9];decide);have hva:=(hargs.2 a (fZ ha)).val;obtain⟨Z8,Yj⟩:=rU (key:=key) hL (hargs.2 c (fZ hc));simp only[show((qI 10)==2)=false from rfl,oCF,Int.reduceBEq,oCT];by_cases hsp0:sp>=0
  ·obtain⟨j,rfl⟩:∃j:Nat,sp=j:=⟨sp.toNat,by omega⟩;obtain⟨tj,htj⟩:=gv ts j (by omega);simp only[oDT hsp0,oCT,show fU args 0=some a from ha,show fU args 1=some c from hc,oBS,Z8,oBN,oCF,fX,show fU ts j=some tj from htj];rw[gf (x:=a.2.1) (by have:=hva.1;omega) (by have:=hva.2;omega)];by_cases h0:tj.1=0
   ·by_cases h1:a.2.1>255
    ·simp only[bne_eq_false_iff_eq.2 h0,oCF,oDT h1,oCT,oBS];exact BO
    by_cases h2:a.1=0
    ·simp only[bne_eq_false_iff_eq.2 h0,oDF h1,oCF,bne_eq_false_iff_eq.2 h2,oBS,show fU args 0=some a from ha,gf (x:=a.2.1) (by have:=hva.1;omega) (by have:=hva.2;omega),Ls,fX,show fU ts j=some tj from htj,gu htj];refine t7 (h.set h.mem (Ee rfl (all_cons Yj ?_) ⟨hva.1,by omega⟩ (by omega))) hi Zq;exact all_cons (kj (by decide)) (all_cons (kj (by decide)) (all_cons (kj (by decide)) (all_cons (kj (by decide)) (all_cons (kj (by decide)) (all_cons (kj (by decide)) (all_cons (kj (by decide)) gy))))))
    ·simp only[bne_eq_false_iff_eq.2 h0,oDF h1,oCF,bne_iff_ne.2 h2,oCT,oBS];exact BO
   ·simp only[bne_iff_ne.2 h0,oCT,oBS];exact BO
  ·simp only[oDF hsp0,oCF];exact ZU
 all_goals exact ZU
def Ww(n key:Int)(ss bs X:M_)(i:Nat)(r:Bool×v_×Int×C_×G_×J_×Unit):Prop:=∃cs' ls' ZW,r=(true,bs,key,cs',ls',ZW,())/\MOk n ss bs cs' ls' ZW/\ZW.map (·.1)=X.set i 1
def ET(st:M_)(sp:Int):M_:=if sp=-1 then st else st.set sp.toNat 1
theorem HP{ts:J_}{i:Nat}{t t':DTh}(h:ts[i]?=some t)(e:t'.1=t.1):(ts.set i t').map (·.1)=ts.map (·.1):=by rw[List.map_set,e];apply oEG;intro j;rw[List.getElem?_set];split;rename_i hij;subst hij;rw[oGP,h,oLP,oIP (oGS h).1];rfl;rfl
theorem vx{n key ct cv:Int}{ss bs:M_}{cs:C_}{ls:G_}{ts:J_}{i:Nat}{X:M_}(h:MOk n ss bs cs ls ts)(hX:ts.map (·.1)=X)(hi:i<4)(hc:n7 (RK bs ss) (ct,cv)):Ok ((fU ts i).bind λ_=>(fU ts i).bind λx75=>(fU x75.2.1 0).bind λ_=>(fU ts i).bind λx77=>(fU x77.2.1 0).bind λ_=>(fU (List.modify ts i λe=>(e.1,((List.modify e.2.1 0 λ_=>(ct,cv)),e.2.2))) i).bind λ_=> some (true,bs,key,cs,ls,List.modify (List.modify ts i λe=>(e.1,((List.modify e.2.1 0 λ_=>(ct,cv)),e.2.2))) i λe=>((1:Int),e.2),())) (Ww n key ss bs X i):=by have Yr:=h.tlen;have ⟨t,ht⟩:=gv ts i (by omega);have hg:fU ts i=some t:=ht;have hil:=(oGS ht).1;have hok:=h.thr t (fZ ht);have ⟨c,hc0⟩:=gv t.2.1 0 (by have:=hok.len;omega);simp[hg,show fU t.2.1 0=some c from hc0,gu ht,gu hc0,io hil,p5 hil];refine fR ⟨_,_,_,rfl,h.set h.mem ⟨⟨show(0:Int)<=1 by decide,show(1:Int)<=4 by decide⟩,by dsimp only;rw[oLS];exact hok.len,jX hok.regs hc,hok.pc,hok.count,hok.handler,hok.saved,hok.trap,hok.code⟩,by simp_all⟩
set_option maxHeartbeats 4000000 in
theorem TI{n m key:Int}{code:F_}{ss bs:M_}{dd:j_}{cs:C_}{ls:G_}{ts:J_}{i:Nat}{trap count pc call:Int}{args data:D_}{t v rg o sp:Int}{dat:D_}{w:Bool}(h:MOk n ss bs cs ls ts)(hi:i<4) (hR:A6 m ss (i:Int) 1 trap count pc call args data)(hv:Pr ss (t,v,rg,o))(hd:dat.length<=16/\∀c∈dat,Pr ss c)(hF:Qf ss call args)(hD:UG call args dat)(hS:sp=-1\/(call=10/\∃j:Nat,sp=j/\j<4/\∃tj,ts[j]?=some tj/\tj.1=0)):Ok (nQ code ss dd (i:Int) 1 trap count pc call args data t v rg o dat sp w bs key cs ls ts) (Ww n key ss bs (ET (ts.map (·.1)) sp) i):=by
 have hL:=h.lay;have Yr:=h.tlen;obtain⟨Y9,Yi⟩:=hR.hkind rfl;have hargs:=hR.hargs;obtain⟨Xb,Zq⟩:=rU (key:=key) hL hv;obtain⟨th,Zr⟩:=gv ts i (by omega);have hok:=h.thr th (fZ Zr);have hc0:=hok.count;have hil:=(oGS Zr).1;dsimp only at Xb;unfold nQ;delta f6;rw[fX,Xb,sd hR.hcall];simp only[oBS,oBN,oCF];refine gT hil λ_ _=>?_;have hX:call≠10->ts.map (·.1)=ET (ts.map (·.1)) sp:=λhc=>by rcases hS with rfl|⟨h10,_⟩;rfl;exact absurd h10 hc
 have ZU:=λhc:call≠10=>vx (key:=key) (ct:=(nJ bs key (t,v,rg,o)).1) (cv:=(nJ bs key (t,v,rg,o)).2) h (hX hc) hi Zq;have buf:qI call=2->dat.length>0->∃a:DCn,args[1]?=some a/\Pr ss a/\a.1=1/\∃y,gc jo NN (i,dat,(dat.length:Int),0,bs,key,cs,ls,ts,code,ss,dd,(i:Int),1,trap,count,pc,call,args,data,t,v,rg,o,dat,sp,w,(nJ bs key (t,v,rg,o)).1,(nJ bs key (t,v,rg,o)).2,a.2.2.1,a.2.2.2,())=some y /\(∃cs' ls' z f,y=.inr (i,dat,(dat.length:Int),z,false,bs,key,cs',ls',ts,code,ss,dd,(i:Int),1,trap,count,pc,call,args,data,t,v,rg,o,dat,sp,w,(nJ bs key (t,v,rg,o)).1,(nJ bs key (t,v,rg,o)).2,a.2.2.1,f,())/\i9 (RK bs ss) cs' ls'):=by
  intro hb Z0;have hkk:(kB call)[1]?=some 80:=by
   have:call=2\/call=14:=by unfold qI at hb;split at hb<;>first|omega|(split at hb<;>omega)
   rcases this with rfl|rfl<;>rfl
  have Xu:=(oGS hkk).1;obtain⟨a,ha⟩:=gv args 1 (by omega);have Yh:=hargs.2 a (fZ ha);have Z4:=Yi 1 80 a hkk ha;have YG:a.1=1:=by unfold M9 at Z4;simpa using Z4
  have ha32:0<=a.2.2.2/\a.2.2.2<=32:=by rcases Yh with⟨g,_⟩|⟨_,_,_,z,g1,g2,g3⟩;omega;have:=hL.1.2.2 z (fZ g1);omega
  obtain⟨a',q',z',YF,hq',WY,hle⟩:=hF.1 hb;rw[ha]at YF;injection YF with YF
  subst YF;obtain⟨_,q2,Y6,hdl⟩:=hD (λe=>by rw[e]at Z0;exact absurd Z0 (by decide));rw[hq']at Y6;injection Y6 with Y6
  subst Y6;have Xi:0<=a.2.2.1:=by rcases Yh with⟨g,_⟩|⟨_,_,g,_⟩;omega;exact g
  refine⟨a,ha,Yh,YG,?_⟩;refine gZ (f:=jo) (n:=NN) (P:=λs'=>∃k:Nat,∃cs' ls',s'=(i,dat,(dat.length:Int),(k:Int),bs,key,cs',ls',ts,code,ss,dd,(i:Int),1,trap,count,pc,call,args,data,t,v,rg,o,dat,sp,w,(nJ bs key (t,v,rg,o)).1,(nJ bs key (t,v,rg,o)).2,a.2.2.1,a.2.2.2+k,())/\k<=dat.length/\i9 (RK bs ss) cs' ls')
   (R:=λy=>(∃cs' ls' z f,y=.inr (i,dat,(dat.length:Int),z,false,bs,key,cs',ls',ts,code,ss,dd,(i:Int),1,trap,count,pc,call,args,data,t,v,rg,o,dat,sp,w,(nJ bs key (t,v,rg,o)).1,(nJ bs key (t,v,rg,o)).2,a.2.2.1,f,())/\i9 (RK bs ss) cs' ls'))
   (m:=λs'=>(s'.2.2.1-s'.2.2.2.1).toNat) ⟨0,cs,ls,by simp,by omega,h.mem⟩ (by unfold NN;dsimp only;omega) ?_
  rintro _ ⟨k,cs',ls',rfl,hk,hm⟩;unfold jo;dsimp only;refine fT (λZ'=>?_) λZ'=>?_;rw[fX];simp only[oBS];refine f7 λc hc=>?_;obtain⟨Z8,Yj⟩:=rU (key:=key) hL (hd.2 c (fZ hc));rw[Z8];simp only[oBS,oBN,oCF];rw[xX Xi WY (show 0<=a.2.2.2+k by omega) (show a.2.2.2+k<z' by omega)];simp only[oBS,oNT,oCF];obtain⟨ad,ea,a0,a1,_⟩:=EL (key:=key) hL Xi WY (show 0<=a.2.2.2+k by omega) (show a.2.2.2+k<z' by omega);rw[ea];simp only[oBS];refine(yX hm ⟨a0,a1⟩ Yj).bind ?_;rintro _ ⟨XZ,XJ,rfl,hm2⟩;dsimp only;rw[iD (x:=a.2.2.2+k+1),iD (x:=(k:Int)+1)];exact fR ⟨⟨k+1,_,_,by rw[show a.2.2.2+((k+1:Nat):Int)=a.2.2.2+k+1 by omega];rfl,by omega,hm2⟩,by dsimp only;omega⟩;exact fR ⟨_,_,_,_,rfl,hm⟩
 rcases o6 hR.hcall with rfl|rfl|rfl|rfl|rfl|rfl|rfl|rfl|rfl|rfl|rfl|rfl|rfl|rfl|rfl|rfl;case inr.inr.inl=>
  simp only[show((qI 2)==2)=true from rfl,oCT];by_cases Z0:dat.length>0
  ·obtain⟨a,ha,Yh,YG,y,ey,hy⟩:=buf rfl Z0;simp only[oDT (show((dat.length:Nat):Int)>0 by omega),oCT,show fU args 1=some a from ha,oBS,mt Yh,oNT,oCF,bne_eq_false_iff_eq.2 YG,ey];obtain⟨cs',ls',z,f,rfl,hm⟩:=hy;simp only[Int.reduceBEq,oCF];exact vx (h.mk_mem hm) (hX (by decide)) hi Zq
  ·simp only[oDF (show ¬((dat.length:Nat):Int)>0 by omega),oCF,Int.reduceBEq];exact ZU (by decide)
 case inr.inr.inr.inr.inr.inr.inr.inr.inr.inr.inr.inr.inr.inr.inl=>
  simp only[show((qI 14)==2)=true from rfl,oCT];by_cases Z0:dat.length>0
  ·obtain⟨a,ha,Yh,YG,y,ey,hy⟩:=buf rfl Z0;simp only[oDT (show((dat.length:Nat):Int)>0 by omega),oCT,show fU args 1=some a from ha,oBS,mt Yh,oNT,oCF,bne_eq_false_iff_eq.2 YG,ey];obtain⟨cs',ls',z,f,rfl,hm⟩:=hy;simp only[Int.reduceBEq,oCF];exact vx (h.mk_mem hm) (hX (by decide)) hi Zq
  ·simp only[oDF (show ¬((dat.length:Nat):Int)>0 by omega),oCF,Int.reduceBEq];exact ZU (by decide)
 case inr.inr.inr.inr.inr.inr.inr.inr.inr.inr.inr.inr.inl=>
  obtain⟨a,ha⟩:=gv args 0 (by rw[Y9];decide);have hva:=(hargs.2 a (fZ ha)).val;simp only[show((qI 12)==2)=false from rfl,oCF,Int.reduceBEq,oCT,show fU args 0=some a from ha,oBS];rw[gf (x:=a.2.1) (by have:=hva.1;omega) (by have:=hva.2;omega)];obtain⟨a',YF,h2,h1⟩:=hF.2 (.inr rfl);rw[ha]at YF
  injection YF with YF
  subst YF
  have h1:¬a.2.1>255:=by omega
  ·simp only[oDF h1,oCF,bne_eq_false_iff_eq.2 h2,show fU ts i=some th from Zr,oBS,gu Zr];exact vx (h.set h.mem ⟨hok.state,hok.len,hok.regs,hok.pc,hok.count,⟨by dsimp only;have:=hva.1;omega,by dsimp only;omega⟩,hok.saved,hok.trap,hok.code⟩) ((HP (t':=(th.1,th.2.1,th.2.2.1,th.2.2.2.1,a.2.1,th.2.2.2.2.2)) Zr rfl).trans (hX (by decide))) hi Zq
 case inr.inr.inr.inr.inr.inr.inr.inr.inr.inr.inl=>
  obtain⟨a,ha⟩:=gv args 0 (by rw[Y9];decide);obtain⟨c,hc⟩:=gv args 1 (by rw[Y9];decide);have hva:=(hargs.2 a (fZ ha)).val;obtain⟨Z8,Yj⟩:=rU (key:=key) hL (hargs.2 c (fZ hc));simp only[show((qI 10)==2)=false from rfl,oCF,Int.reduceBEq,oCT];rcases hS with rfl|⟨_,j,rfl,hj4,tj,htj,h0⟩
  ·simp only[oDF (show ¬(-1:Int)>=0 by decide),oCF];exact vx h rfl hi Zq
  ·obtain⟨a',YF,h2,h1⟩:=hF.2 (.inl rfl);rw[ha]at YF
   injection YF with YF
   subst YF
   have h1:¬a.2.1>255:=by omega
   simp only[oDT (show(j:Int)>=0 by omega),oCT,show fU args 0=some a from ha,show fU args 1=some c from hc,oBS,Z8,oBN,oCF,fX,show fU ts j=some tj from htj];rw[gf (x:=a.2.1) (by have:=hva.1;omega) (by have:=hva.2;omega)];simp only[bne_eq_false_iff_eq.2 h0,oDF h1,oCF,bne_eq_false_iff_eq.2 h2,oBS,show fU args 0=some a from ha,gf (x:=a.2.1) (by have:=hva.1;omega) (by have:=hva.2;omega),Ls,fX,show fU ts j=some tj from htj,gu htj];refine vx (h.set h.mem (Ee rfl (all_cons Yj ?_) ⟨hva.1,by omega⟩ (by omega))) ?_ hi Zq
   ·exact all_cons (kj (by decide)) (all_cons (kj (by decide)) (all_cons (kj (by decide)) (all_cons (kj (by decide)) (all_cons (kj (by decide)) (all_cons (kj (by decide)) (all_cons (kj (by decide)) gy))))))
   ·unfold ET;rw[List.map_set,oIN (by omega),oTN]
 all_goals
  exact ZU (by decide)
def InQ(qs:j_)(x:Int):Prop:=∃(j:Nat)(q:M_),qs[j]?=some q/\x∈q
def Da(qs:j_):Prop:=∀(i j:Nat)(q r:M_)(x:Int),qs[i]?=some q->qs[j]?=some r->x∈q->x∈r->i=j
def So(qs:j_)(n:Int)(qs':j_):Prop:=(n=-1/\qs'=qs)\/∃(j:Nat)(q:M_),qs[j]?=some (n::q)/\qs'=qs.set j q
def Qc(qs:j_)(t how:Int)(qs':j_):Prop:=(how≠1/\qs'=qs)\/(how=1/\(∀q∈qs,t ∉ q)/\∃(j:Nat)(q:M_),qs[j]?=some q/\qs'=qs.set j (q++[t]))
theorem rH{α:Type}{l:List α}{i j:Nat}{a b:α}(h:(l.set i a)[j]?=some b):(i=j/\b=a)\/(i≠j/\l[j]?=some b):=by rw[List.getElem?_set]at h;split at h;all_goals simp_all
theorem TK{ow:M_}{qs qs':j_}{n:Int}(hl:kD ow qs)(hX:Da qs)(h:So qs n qs')(hn:n≠-1):InQ qs n/\Da qs'/\∀y,InQ qs' y->InQ qs y/\y≠n:=by rcases h with⟨h,_⟩|⟨j,q,hj,rfl⟩;omega;have Zp:=(hl.queue _ (fZ hj)).1;rw[List.nodup_cons]at Zp;refine⟨⟨j,_,hj,List.mem_cons_self ..⟩,λa b u v x ha hb hu hv=>?_,λy hy=>?_⟩;rcases rH ha with⟨e1,e2⟩|⟨e1,e2⟩;rcases rH hb with⟨e3,e4⟩|⟨e3,e4⟩;omega;exact e1▸hX j b _ v x hj e4 (List.mem_cons_of_mem _ (e2▸hu)) hv;rcases rH hb with⟨e3,e4⟩|⟨e3,e4⟩;exact e3▸hX a j u _ x e2 hj hu (List.mem_cons_of_mem _ (e4▸hv));exact hX a b u v x e2 e4 hu hv;have ⟨a,u,ha,hu⟩:=hy;rcases rH ha with⟨e1,e2⟩|⟨e1,e2⟩;subst e2;exact⟨⟨j,_,hj,List.mem_cons_of_mem _ hu⟩,λe=>Zp.1 (e▸hu)⟩;refine⟨⟨a,u,e2,hu⟩,λe=>e1 ?_⟩;exact hX j a _ u n hj e2 (List.mem_cons_self ..) (e▸hu)
theorem U0{qs qs':j_}{t how:Int}(hX:Da qs)(h:Qc qs t how qs'):Da qs'/\∀y,InQ qs' y->InQ qs y\/(y=t/\how=1):=by
 rcases h with⟨_,rfl⟩|⟨h1,W8,j,q,hj,rfl⟩;simp_all;refine⟨λa b u v x ha hb hu hv=>?_,λy hy=>?_⟩;have key:∀(b:Nat)(v:M_),j≠b->qs[b]?=some v->x∈q++[t]->x∈v->j=b:=λb v hne hb hu hv=>by rcases oMA.1 hu with hu|hu;exact hX j b q v x hj hb hu hv;exact absurd (List.mem_singleton.1 hu▸hv) (W8 v (fZ hb))
 rcases rH ha with⟨e1,e2⟩|⟨e1,e2⟩;rcases rH hb with⟨e3,e4⟩|⟨e3,e4⟩;omega;exact e1▸key b v e3 e4 (e2▸hu) hv;rcases rH hb with⟨e3,e4⟩|⟨e3,e4⟩;exact e3▸(key a u e1 e2 (e4▸hv) hu).symm;exact hX a b u v x e2 e4 hu hv;have ⟨a,u,ha,hu⟩:=hy;rcases rH ha with⟨e1,e2⟩|⟨e1,e2⟩;subst e2;rcases oMA.1 hu with hu|hu;exact .inl ⟨j,q,hj,hu⟩;simp_all;exact .inl ⟨a,u,e2,hu⟩
structure Sn (qs:j_)(nx:M_)(qs':j_):Prop where
 was:∀x∈nx,InQ qs x
 nd:nx.Nodup
 now:∀y,InQ qs' y->InQ qs y/\y ∉ nx
 cross:Da qs'
theorem Sn.nil{qs:j_}(h:Da qs):Sn qs [] qs:=⟨gy,List.nodup_nil,λy hy=>⟨hy,by simp⟩,h⟩
theorem Sn.snoc{ow:M_}{qs qs1 qs2:j_}{nx:M_}{n:Int}(h:Sn qs nx qs1)(hl:kD ow qs1)(hn:n>=0)(hp:So qs1 n qs2):Sn qs (List.append nx [n]) qs2:=by have ⟨h1,h2,h3⟩:=TK hl h.cross hp (by omega);have ⟨g1,g2⟩:=h.now n h1;refine⟨lh h.was (all_cons g1 gy),Es h.nd g2,λy hy=>?_,h2⟩;have ⟨k1,k2⟩:=h3 y hy;have ⟨k3,k4⟩:=h.now y k1;simp_all
theorem EW{α:Type}{l:List α}{i:Nat}{a:α}(h:l[i]?=some a):l.set i a=l:=by apply oEG;grind
theorem LE{ow:M_}{qs:j_}{lock t:Int}(h:kD ow qs):Ok (jN ow qs lock t) λr=>∃Zs qs' n b,r=(Zs,qs',n,b,())/\kD Zs qs'/\(-1<=n/\n<=3)/\So qs n qs'/\(n>=0->b=true):=by
 unfold jN;rw[CL h];obtain⟨h1,h2,h3,h4⟩:=id h;refine Ok.bind (P:=λr=>∃b,r=(lock,b,(),(),ow,qs,())/\(b=false->0<=lock/\lock<4)) ?_ ?_;refine fT (λZ'=>?_) λZ'=>?_;exact fR ⟨true,rfl,λh=>by cases h⟩;refine fT (λZ3=>?_) λZ3=>?_;exact fR ⟨true,rfl,λh=>by cases h⟩;refine gV λj hj=>?_;refine f7 λx hx=>?_;exact fR ⟨_,rfl,λ_=>⟨by omega,by omega⟩⟩;rintro _ ⟨b,rfl,hb⟩;dsimp only;refine ge (λ_=>fR ⟨_,_,_,_,rfl,h,by omega,.inl ⟨rfl,rfl⟩,λhn=>absurd hn (by decide)⟩) λhbf=>?_;obtain⟨l0,l1⟩:=hb hbf;obtain⟨j,rfl⟩:∃j:Nat,lock=j:=⟨lock.toNat,by omega⟩;obtain⟨o,ho⟩:=gv ow j (by omega);obtain⟨q,hq⟩:=gv qs j (by omega);have go:fU ow j=some o:=ho;have gq:fU qs j=some q:=hq;have gm:∀f:Int->Int,fU (List.modify ow j f) j=some (f o):=λf=>vJ ho;have gm2:∀f g:Int->Int,fU (List.modify (List.modify ow j f) j g) j=some (g (f o)):=λf g=>vJ (vJ ho);delta f6;simp only[fX,oBS,go,gq,gm,gm2];have Xu:kD (List.modify ow j λ_=>-1) qs:=⟨by rw[oLM];exact h1,h2,g8 h3 λ_ _=>⟨by omega,by omega⟩,h4⟩;refine fT (λhcc=>?_) λhcc=>?_;obtain⟨x,hx⟩:=gv q 0 (by omega);have gx:fU q 0=some x:=hx;have YA:=(h4 q (fZ hq)).2 x (fZ hx);simp only[gx,oBS];refine fS (by unfold iO;simp;omega) ?_;obtain⟨y,q',rfl⟩:∃y q',q=y::q':=by cases q with|nil=>cases hx|cons y q'=>exact⟨y,q',rfl⟩
 obtain rfl:y=x:=by injection hx
 have hw:nG (y::q') 1 (Nat.sub (y::q').length 1)=q':=by show((y::q').drop 1).take ((y::q').length-1)=q';simp_all
 refine fR ⟨_,_,_,_,rfl,⟨by simp_all,by rw[oLM];exact h2,g8 (g8 h3 λ_ _=>⟨by omega,by omega⟩) λ_ _=>⟨by omega,by omega⟩,g8 h4 λ_ _=>?_⟩,by omega,.inr ⟨j,q',hq,by rw[hw,gu hq]⟩,λ_=>rfl⟩;obtain⟨q1,q2⟩:=h4 _ (fZ hq);simp_all;exact fR ⟨_,_,_,_,rfl,Xu,by omega,.inl ⟨rfl,rfl⟩,λ_=>rfl⟩
theorem UO{ow:M_}{qs:j_}{lock t:Int}(h:kD ow qs)(ht:0<=t/\t<=3):Ok (qV ow qs lock t) λr=>∃Zs qs' n,r=(Zs,qs',n,())/\kD Zs qs'/\Qc qs t n qs':=by
 unfold qV;rw[CL h];simp only[oBS];obtain⟨h1,h2,h3,h4⟩:=id h;refine Ok.bind (P:=λr=>∃b,r=(lock,t,b,ow,qs,(),(),ow,qs,())/\(b=false->0<=lock/\lock<4)) ?_ ?_;refine fT (λZ'=>?_) λZ'=>?_;exact fR ⟨true,rfl,λh=>by cases h⟩;refine fT (λZ3=>?_) λZ3=>?_;exact fR ⟨true,rfl,λh=>by cases h⟩;refine gV λj hj=>?_;refine f7 λx hx=>?_;exact fR ⟨_,rfl,λ_=>⟨by omega,by omega⟩⟩;rintro _ ⟨b,rfl,hb⟩;dsimp only;refine ge (λ_=>fR ⟨_,_,_,rfl,h,.inl ⟨by decide,rfl⟩⟩) λhbf=>?_;obtain⟨l0,l1⟩:=hb hbf;delta f6;try dsimp only
 obtain⟨r,e,hr⟩:=gZ (f:=qe) (n:=NN) (s:=(lock,t,qs,(qs.length:Int),0,ow,qs,(),(),ow,qs,())) (P:=λs'=>∃k:Nat,s'=(lock,t,qs,(qs.length:Int),(k:Int),ow,qs,(),(),ow,qs,())/\k<=qs.length/\∀(i:Nat) q,i<k->qs[i]?=some q->t ∉ q) (R:=λr=>r=.inl (2,ow,qs,())\/((∃a b c,r=.inr (lock,t,a,b,c,false,ow,qs,(),(),ow,qs,()))/\∀q∈qs,t ∉ q)) (m:=λs'=>(s'.2.2.2.1-s'.2.2.2.2.1).toNat) ⟨0,rfl,by omega,λi q hi=>by omega⟩ (by unfold NN;dsimp only;omega) (by
  rintro _ ⟨k,rfl,hk,ZL⟩;unfold qe;dsimp only;refine fT (λZ'=>?_) λZ'=>?_;obtain⟨q,hq⟩:=gv qs k (by omega);have gq:fU qs k=some q:=hq;have q3:=h.qlen4 (fZ hq);delta f6;simp only[fX,oBS,gq];obtain⟨r,e,hr⟩:=gZ (f:=qf) (n:=NN) (s:=(lock,t,qs,(qs.length:Int),(k:Int),q,(q.length:Int),0,ow,qs,(),(),ow,qs,())) (P:=λs'=>∃j:Nat,s'=(lock,t,qs,(qs.length:Int),(k:Int),q,(q.length:Int),(j:Int),ow,qs,(),(),ow,qs,())/\j<=q.length/\∀(i:Nat) x,i<j->q[i]?=some x->x≠t) (R:=λr=>r=.inl (2,ow,qs,())\/((∃a b c,r=.inr (lock,t,qs,(qs.length:Int),(k:Int),a,b,c,false,ow,qs,(),(),ow,qs,()))/\t ∉ q)) (m:=λs'=>(s'.2.2.2.2.2.2.1-s'.2.2.2.2.2.2.2.1).toNat) ⟨0,rfl,by omega,λi x hi=>by omega⟩ (by unfold NN;dsimp only;omega) (by
   rintro _ ⟨j,rfl,hj,hne⟩;unfold qf;dsimp only;refine fT (λZ3=>?_) λZ3=>?_;obtain⟨x,hx⟩:=gv q j (by omega);have gx:fU q j=some x:=hx;simp only[fX,oBS,gx];refine fT (λhcc=>?_) λhcc=>?_;exact fR (.inl rfl)
   ·(simp (disch:=omega) only [gD,gp,gf,gh])
    exact fR ⟨⟨j+1,rfl,by omega,LX hne hx hcc⟩,by dsimp only;omega⟩
   refine fR (.inr ⟨⟨_,_,_,rfl⟩,λhm=>?_⟩);obtain⟨i,hi⟩:=List.getElem?_of_mem hm;exact hne i t (by have:=(oGS hi).1;omega) hi rfl)
  rw[e];rcases hr with rfl|⟨⟨a,b,c,rfl⟩,W8⟩;exact fR (.inl rfl);dsimp only
  (simp (disch:=omega) only [gD,gp,gf,gh])
  refine fR ⟨⟨k+1,rfl,by omega,λi q' hi hq'=>?_⟩,by dsimp only;omega⟩;by_cases hik:i=k;simp_all;exact ZL i q' (by omega) hq';refine fR (.inr ⟨⟨_,_,_,rfl⟩,λq hq=>?_⟩);obtain⟨i,hi⟩:=List.getElem?_of_mem hq;exact ZL i q (by have:=(oGS hi).1;omega) hi)
 rw[e];rcases hr with rfl|⟨⟨a,b,c,rfl⟩,W8⟩;exact fR ⟨_,_,_,rfl,h,.inl ⟨by decide,rfl⟩⟩;dsimp only;obtain⟨j,rfl⟩:∃j:Nat,lock=j:=⟨lock.toNat,by omega⟩;obtain⟨o,ho⟩:=gv ow j (by omega);obtain⟨q,hq⟩:=gv qs j (by omega);have go:fU ow j=some o:=ho;have gq:fU qs j=some q:=hq;simp only[fX,oBS,go,gq];refine fT (λXE=>?_) λXE=>?_;exact fR ⟨_,_,_,rfl,⟨by rw[oLM];exact h1,h2,g8 h3 λ_ _=>⟨by omega,ht.2⟩,h4⟩,.inl ⟨by decide,rfl⟩⟩;have q3:=h.qlen4 (fZ hq);refine fS (gd (by simp;omega)) (fS (by simp) (fR ⟨_,_,_,rfl,⟨h1,by rw[oLM];exact h2,h3,g8 h4 λ_ _=>⟨?_,?_⟩⟩,.inr ⟨rfl,W8,j,q,hq,by rw[gu hq];rfl⟩⟩));exact Es (h4 q (fZ hq)).1 (W8 q (fZ hq));exact lh (h4 q (fZ hq)).2 (all_cons ht gy)
theorem Vu{ow:M_}{qs:j_}{t:Int}(h:kD ow qs)(ht:¬InQ qs t)(hX:Da qs):Ok (qW ow qs t) λr=>∃Zs qs' nx,r=(Zs,qs',nx,())/\kD Zs qs'/\nx.length<=4/\(∀x∈nx,0<=x/\x<=3)/\Sn qs nx qs':=by
 unfold qW;rw[CL h];delta f6;simp only[oBS];have h2:=h.qlen;have W8:∀(k:Nat) q,qs[k]?=some q->t ∉ q:=λk q hq hm=>ht ⟨k,q,hq,hm⟩;refine gP (P:=λs'=>∃k:Nat,s'=(t,(qs.length:Int),(k:Int),(),(),ow,qs,())/\k<=qs.length) (R:=λr=>∃a b c,r=(t,a,b,c,(),(),ow,qs,())) (m:=λs'=>(s'.2.1-s'.2.2.1).toNat) ⟨0,rfl,by omega⟩ (by unfold NN;dsimp only;omega) ?_ ?_;rintro _ ⟨k,rfl,hk⟩;unfold ue;dsimp only;refine fT (λZ'=>?_) λZ'=>?_;obtain⟨q,hq⟩:=gv qs k (by omega);have gq:fU qs k=some q:=hq;have q3:=h.qlen4 (fZ hq);delta f6;simp only[fX,oBS,gq];refine gP (P:=λs'=>∃j:Nat,s'=(t,(k:Int),(qs.length:Int),(k:Int),k,(q.length:Int),(j:Int),(),(),ow,qs,q.take j,())/\j<=q.length)
  (R:=λr=>∃a b c d,r=(t,(k:Int),(qs.length:Int),(k:Int),a,b,c,d,(),(),ow,qs,q,())) (m:=λs'=>(s'.2.2.2.2.2.1-s'.2.2.2.2.2.2.1).toNat) ⟨0,rfl,by omega⟩ (by unfold NN;dsimp only;omega) ?_ ?_
 rintro _ ⟨j,rfl,hj⟩;unfold uf;dsimp only;refine fT (λZ3=>?_) λZ3=>?_;obtain⟨x,hx⟩:=gv q j (by omega);have gx:fU q j=some x:=hx;have hxt:x≠t:=λe=>W8 k q hq (e▸fZ hx);simp only[fX,oBS,gq,gx,bne_iff_ne.2 hxt,oCT];rw[gd (by simp;omega)];simp only[oCT,oBS]
 (simp (disch:=omega) only [gD,gp,gf,gh])
 exact fR ⟨⟨j+1,by rw[List.take_add_one,hx];rfl,by omega⟩,by dsimp only;omega⟩;have:j=q.length:=by omega
 subst this;exact fR ⟨_,_,_,_,by rw[List.take_length]⟩;rintro _ ⟨a,b,c,d,rfl⟩;dsimp only;simp only[fX,oBS,gq];rw[gu hq,EW hq]
 (simp (disch:=omega) only [gD,gp,gf,gh])
 exact fR ⟨⟨k+1,rfl,by omega⟩,by dsimp only;omega⟩;exact fR ⟨_,_,_,rfl⟩;rintro _ ⟨a,b,c,rfl⟩;dsimp only;refine gP (P:=λs'=>∃k:Nat,∃Zs qs' nx,s'=(t,4,(k:Int),(),(),Zs,qs',nx,())/\k<=4/\nx.length<=k/\kD Zs qs'/\(∀x∈nx,0<=x/\x<=3)/\Sn qs nx qs') (R:=λr=>∃a b c Zs qs' nx,r=(t,a,b,c,(),(),Zs,qs',nx,())/\kD Zs qs'/\nx.length<=4/\(∀x∈nx,0<=x/\x<=3)/\Sn qs nx qs') (m:=λs'=>(4-s'.2.2.1).toNat)
  ⟨0,ow,qs,[],by rw[h.olen];rfl,by omega,by simp,h,gy,.nil hX⟩ (by unfold NN;dsimp only;omega) ?_ ?_
 rintro _ ⟨k,Zs,qs',nx,rfl,hk,XG,YH,XH,hp⟩;unfold ud;dsimp only;refine fT (λZ'=>?_) λZ'=>?_;refine(LE YH).bind ?_;rintro _ ⟨ow2,qs2,n,bb,rfl,Yb,⟨n0,n1⟩,XT,hbt⟩;dsimp only;refine Ok.bind (P:=λr=>∃nx',r=(t,4,(k:Int),(),(),Zs,qs',nx',ow2,qs2,())/\nx'.length<=k+1/\(∀x∈nx',0<=x/\x<=3)/\Sn qs nx' qs2) ?_ ?_;by_cases hn:n>=0;have hb:bb=true:=hbt hn;subst hb;simp only[oCT,oDT hn];refine fS (gd (by simp;omega)) (fR ⟨_,rfl,by rw[iq];simp;omega,lh XH (all_cons ⟨by omega,n1⟩ gy),hp.snoc YH hn XT⟩);have hq:qs2=qs':=by rcases XT with⟨_,e⟩|⟨j,q,hj,_⟩;exact e;have:=((YH.queue _ (fZ hj)).2 n (List.mem_cons_self ..)).1;omega
 subst hq;cases bb with|true=>simp only[oCT,oDF hn,oCF];exact fR ⟨nx,rfl,by omega,XH,hp⟩|false=>exact fR ⟨nx,rfl,by omega,XH,hp⟩
 rintro _ ⟨nx',rfl,hn1,hn2,hp2⟩;dsimp only
 (simp (disch:=omega) only [gD,gp,gf,gh])
 exact fR ⟨⟨k+1,_,_,_,rfl,by omega,hn1,Yb,hn2,hp2⟩,by dsimp only;omega⟩;exact fR ⟨_,_,_,_,_,_,rfl,YH,by omega,XH,hp⟩;rintro _ ⟨a,b,c,Zs,qs',nx,rfl,YH,hn4,XH,hp⟩;exact fR ⟨_,_,_,rfl,YH,hn4,XH,hp⟩
theorem Ed{ss:M_}{t v rg o sp:Int}{dat:D_}{w:Bool}(hs:AJ ss)(hv:Pr ss (t,v,rg,o))(hd:dat.length<=16/\∀c∈dat,Pr ss c)(ZF:-1<=sp/\sp<=3):mR t v rg o dat sp w=some (true,()):=by refine gU ?_;unfold mR;rw[show mz t v rg o=some (true,())from Jr hs hv,mD hs hd.2 (by omega) (by omega)];refine fS (oDT ZF.1) ?_;exact fR (by rw[oDT (show sp<4 by omega)])
def Uo(st:M_)(i:Nat)(call:Int)(w:Bool)(sp:Int):M_:=if sp=-1 then st.set i (if call=0 then 4 else if w=true then 3 else 1)else(st.set i (if call=0 then 4 else if w=true then 3 else 1)).set sp.toNat 1
theorem Wn{n m key:Int}{code:F_}{ss bs:M_}{dd:j_}{cs:C_}{ls:G_}{ts:J_}{i:Nat}{trap count pc call:Int}{args data:D_}{t v rg o sp:Int}{dat:D_}{w:Bool}(hp:kL code ss dd)(h:MOk n ss bs cs ls ts)(hi:i<4) (hn:n<=1099511627776)(hm:m<=1099511627776)(hR:A6 m ss (i:Int) 1 trap count pc call args data)(hv:Pr ss (t,v,rg,o))(hd:dat.length<=16/\∀c∈dat,Pr ss c)(ZF:-1<=sp/\sp<=3){th:DTh}(Zr:ts[i]?=some th)(h2:th.1=2)(hF:Qf ss call args)(hD:UG call args dat)(hS:sp=-1\/(call=10/\w=false/\∃j:Nat,sp=j/\j<4/\∃tj,ts[j]?=some tj/\tj.1=0)):Ok (sy code ss dd bs key cs ls ts (i:Int) 1 trap count pc call args data t v rg o dat sp w) λr=>∃cs' ls' ZW b,r=(bs,key,cs',ls',ZW,b,())/\MOk n ss bs cs' ls' ZW/\ZW.map (·.1)=Uo (ts.map (·.1)) i call w sp:=by
 have Yr:=h.tlen;obtain⟨Y9,Yi⟩:=hR.hkind rfl;have hok:=h.thr th (fZ Zr);have hg:fU ts i=some th:=Zr;unfold sy;delta f6;rw[rO hp h hn,yT hp.sz hR hm,AI hR.hcall,Ed hp.sz hv hd ZF,Y9];simp only[oBS,oNT,oCF,oBN,fX,hg];simp only[bne_eq_false_iff_eq.2 h2,oCF,yf h,oBS,fX,hg];by_cases hc0:call=0;subst hc0;obtain⟨a,ha⟩:=gv args 0 (by rw[Y9];decide);have hva:=(hR.hargs.2 a (fZ ha)).val;simp only[BEq.rfl,oCT,show fU args 0=some a from ha,oBS];unfold qg oc;rw[gd (show 4<=1000/\0+th.2.1.length<=1000000 by have:=hok.len;omega)];simp only[oCT,oBS,gu Zr];refine gT (by rw[oLS];omega) λ_ _=>?_;exact fR ⟨_,_,_,_,rfl,h.set h.mem ⟨⟨show(0:Int)<=4 by decide,show(4:Int)<=4 by decide⟩,by dsimp only;rw[iq];simpa using hok.len,lh gy hok.regs,hok.pc,hok.count,hok.handler,hok.saved,⟨show(0:Int)<=0 by decide,show(0:Int)<=6 by decide⟩,hva⟩,by
  rcases hS with rfl|⟨h10,_⟩
  ·rw[List.map_set];rfl
  ·exact absurd h10 (by decide)⟩
 simp only[oBF hc0,oCF];cases w with
 |true=>
 simp only[oCT,gu Zr];refine gT (by rw[oLS];omega) λ_ _=>?_;refine gT (by rw[oLS];omega) λ_ _=>?_;exact fR ⟨_,_,_,_,rfl,h.set h.mem ⟨⟨show(0:Int)<=3 by decide,show(3:Int)<=4 by decide⟩,hok.len,hok.regs,hok.pc,hok.count,hok.handler,hok.saved,hok.trap,hok.code⟩,by
  rcases hS with rfl|⟨_,hw,_⟩
  ·rw[List.map_set];unfold Uo;rw[oIP rfl,oIN hc0,oIP rfl]
  ·cases hw⟩
 |false=>simp only[oCF];refine(TI h hi hR hv hd hF hD (hS.imp id λ⟨a,_,b⟩=>⟨a,b⟩)).bind ?_;rintro _ ⟨cs',ls',ZW,rfl,hb,hst⟩;simp only[oNT,oCF];have htl':=hb.tlen;refine f7 λ_ _=>?_;refine f7 λ_ _=>?_;refine fR ⟨_,_,_,_,rfl,hb,?_⟩;rw[hst];unfold ET Uo;rw[oIN hc0,oIN (show ¬false=true by decide)];by_cases hm:sp=-1;rw[oIP hm,oIP hm];rw[oIN hm,oIN hm];rcases hS with hS|⟨_,_,j,rfl,_,tj,htj,h0⟩;exact absurd hS hm;rw[oTN];refine List.set_comm _ _ (λe=>?_);simp_all
theorem SU{n key:Int}{code:F_}{ss bs:M_}{dd:j_}{cs:C_}{ls:G_}{ts:J_}{i:Nat}{t v rg o sp:Int}{dat:D_}{w:Bool}(hp:kL code ss dd)(h:MOk n ss bs cs ls ts) (hn:n<=1099511627776)(hv:Pr ss (t,v,rg,o))(hd:dat.length<=16/\∀c∈dat,Pr ss c)(ZF:-1<=sp/\sp<=3){th:DTh}(Zr:ts[i]?=some th)(h3:th.1=3):Ok (oC code ss dd bs key cs ls ts (i:Int) t v rg o dat sp w) λr=>∃cs' ls' ZW b,r=(bs,key,cs',ls',ZW,b,())/\MOk n ss bs cs' ls' ZW/\ZW.map (·.1)=(ts.map (·.1)).set i 1:=by
 have Yr:=h.tlen;obtain⟨Xb,Zq⟩:=rU (key:=key) h.lay hv;unfold oC;rw[rO hp h hn,Ed hp.sz hv hd ZF];simp only[oBS,oNT,oCF];have hil0:=(oGS Zr).1;have h1:¬(i:Int)<0:=by omega
 have h2:¬(i:Int)>=4:=by omega
 have hok:=h.thr th (fZ Zr);have hil:=(oGS Zr).1;have hg:fU ts i=some th:=Zr;obtain⟨c,hc0⟩:=gv th.2.1 0 (by have:=hok.len;omega);simp only[oDF h1,oDF h2,oCF,fX,hg];simp only[bne_eq_false_iff_eq.2 h3,oCF,Xb,oBS,oBN,yf h,fX,hg,show fU th.2.1 0=some c from hc0,gu Zr,gu hc0,io hil,p5 hil];refine gT (by simp_all) λ_ _=>?_;refine gT (by simp_all) λ_ _=>?_;exact fR ⟨_,_,_,_,rfl,h.set h.mem ⟨⟨show(0:Int)<=1 by decide,show(1:Int)<=4 by decide⟩,by dsimp only;rw[oLS];exact hok.len,jX hok.regs Zq,hok.pc,hok.count,hok.handler,hok.saved,hok.trap,hok.code⟩,by simp_all⟩
theorem Nb{n key:Int}{ss bs:M_}{cs:C_}{ls:G_}{ts:J_}(h:MOk n ss bs cs ls ts)(i:Int):Ok (mQ bs key cs ls ts i) λr=>∃ZW b,r=(bs,key,cs,ls,ZW,b,())/\MOk n ss bs cs ls ZW/\∀(j:Nat) t',ZW[j]?=some t'->∃t,ts[j]?=some t/\t'.1=t.1:=by
 unfold mQ;rw[yf h];refine(SM h i).bind ?_;rintro⟨b,_⟩ hb;refine fT (λZ'=>?_) λZ'=>?_;exact fR ⟨ts,false,rfl,h,λj t' e=>⟨t',e,rfl⟩⟩;have hb:=hb Z';have Yr:=h.tlen;have ⟨ZM,ZX,M'⟩:=hb;refine jv ZM λj hj=>?_;subst hj;refine f7 λt ht=>?_;refine f7 λt1 Yq=>?_;refine f7 λt2 YY=>?_;refine f7 λt3 ht3=>?_;rw[ht]at Yq YY ht3;injection Yq with Yq
 injection YY with YY
 subst Yq YY;refine gT (by rw[oLM];omega) λt4 ht4=>?_;have hne:=M' t (by rw[oTN];exact ht);have hok:=h.thr t (fZ ht);rw[jW];refine fR ⟨_,_,rfl,h.thread ht ⟨hok.state,hok.len,hok.regs,⟨by have:=hok.handler;dsimp only;omega,hok.handler.2⟩,hok.count,hok.handler,⟨by have:=hok.pc;dsimp only;omega,hok.pc.2⟩,hok.trap,hok.code⟩,λu t' e=>?_⟩;rw[oGM]at e;cases hu:ts[u]? with|none=>rw[hu]at e;split at e<;>cases e|some t0=>rw[hu]at e;refine⟨t0,rfl,?_⟩;split at e<;>(injection e with e;rw[<- e])
def UD(js:M_):Prop:=∀(u:Nat)(j:Int),js[u]?=some j->j≠u
theorem UD.set{js:M_}{i:Nat}{x:Int}(h:UD js)(hx:x≠i):UD (js.set i x):=by intro u j hj;rw[List.getElem?_set]at hj;split at hj;simp_all;exact h u j hj
def Uy(qs:j_)(ts:J_)(js:M_):Prop:=(∀x,InQ qs x->∃(i:Nat)(t:DTh),x=i/\ts[i]?=some t/\t.1=3/\js[i]?=some (-1))/\∀(i:Nat)(j:Int),js[i]?=some j->j≠-1->∃t,ts[i]?=some t/\t.1=3
structure kn (n:Int)(q:Nat)(code:F_)(ss:M_)(dt:j_)(bs:M_)(cs:C_)(ls:G_)(ts:J_)(ck rn:M_)(ins:j_)(d:i_)(os:H_)(us:I_)(ow:M_)(qs:j_)(rec:E_)(js:M_):Prop where
 prog:kL code ss dt
 mach:MOk n ss bs cs ls ts
 outs:vQ ss ck rn ins d os us
 lock:kD ow qs
 rlen:rec.length<=q
 jlen:js.length=4
 jne:UD js
 xq:Uy qs ts js
 xx:Da qs
def Wl(n key:Int)(q:Nat)(code:F_)(ss:M_)(dt:j_)(bs:M_)(r:F_×v_×g_×v_×Int×C_×G_×J_×v_×v_×g_×i_×H_×I_×v_×g_×E_×v_×Unit):Prop:=∃cs ls ts ck rn ins d os us ow qs rec js,r=(code,ss,dt,bs,key,cs,ls,ts,ck,rn,ins,d,os,us,ow,qs,rec,js,())/\kn n q code ss dt bs cs ls ts ck rn ins d os us ow qs rec js
theorem BC{st:M_}{ZW:J_}{k:Nat}{x:Int}(e:ZW.map (·.1)=st)(h:st[k]?=some x):∃t',ZW[k]?=some t'/\t'.1=x:=by rw[<- e,oGP]at h;simp_all
theorem Qt{ts:J_}{k:Nat}{t:DTh}(h:ts[k]?=some t):(ts.map (·.1))[k]?=some t.1:=by simp_all
theorem kn.woken{n:Int}{q:Nat}{code:F_}{ss:M_}{dt:j_}{bs:M_}{cs cs':C_}{ls ls':G_}{ts ZW:J_}{ck rn:M_}{ins:j_}{d:i_}{os:H_}{us:I_}{ow:M_}{qs:j_}{rec:E_}{js:M_}{i:Nat}{v:Int}{th:DTh} (h:kn n q code ss dt bs cs ls ts ck rn ins d os us ow qs rec js)(Zr:ts[i]?=some th)(h3:th.1=3)(hnq:¬InQ qs i)(hv:W16 v)(hM:MOk n ss bs cs' ls' ZW)(hst:ZW.map (·.1)=(ts.map (·.1)).set i 1):kn n (q+1) code ss dt bs cs' ls' ZW ck rn ins d os us ow qs (List.append rec [(4,(i:Int),0,0,0,0,0,0,0,[],[],0,v,0,0,[],-1,false)]) (js.set i (-1)):=by have Yr:=h.mach.tlen;have hil:=(oGS Zr).1;have keep:∀(k:Nat)(t:DTh),k≠i->ts[k]?=some t->∃t',ZW[k]?=some t'/\t'.1=t.1:=λk t hk ht=>BC hst (by rw[List.getElem?_set_ne (Ne.symm hk)];exact Qt ht);refine⟨h.prog,hM,h.outs,h.lock,by have:=h.rlen;rw[iq];simp;omega,by rw[oLS];exact h.jlen,h.jne.set (by omega),⟨λx hx=>?_,λk j hk hj=>?_⟩,h.xx⟩;obtain⟨k,t,rfl,hk,ht3,hj⟩:=h.xq.1 x hx;have hki:k≠i:=λe=>hnq (e▸hx);obtain⟨t',ZV,e⟩:=keep k t hki hk;exact⟨k,t',rfl,ZV,by rw[e,ht3],by rw[List.getElem?_set_ne (Ne.symm hki)];exact hj⟩;rcases rH hk with⟨_,e⟩|⟨hne,hk⟩;exact absurd e hj;obtain⟨t,ht,ht3⟩:=h.xq.2 k j hk hj;obtain⟨t',ZV,e⟩:=keep k t (Ne.symm hne) ht;simp_all
theorem Nz{n:Int}{q:Nat}{code:F_}{ss:M_}{dt:j_}{bs:M_}{key:Int}{cs:C_}{ls:G_}{ts:J_}{ck rn:M_}{ins:j_}{d:i_}{os:H_}{us:I_}{ow:M_}{qs:j_}{rec:E_}{js:M_}{i:Nat}{v:Int}{th:DTh}(h:kn n q code ss dt bs cs ls ts ck rn ins d os us ow qs rec js)(hn:n<=1099511627776)(hq:q<=900)(hv:W16 v)(Zr:ts[i]?=some th)(h3:th.1=3)(hnq:¬InQ qs i)(hjs:js[i]?=some (-1)):Ok (qP (i:Int) v code ss dt bs key cs ls ts ck rn ins d os us ow qs rec js) (Wl n key (q+1) code ss dt bs):=by unfold qP;rw[gf (by have:=hv.1;omega) (by have:=hv.2;omega)];have ⟨v2,ev,Xk⟩:=hY v true;simp[ev];refine(SU h.prog h.mach hn (iY Xk) ⟨by decide,gy⟩ (by decide) Zr h3).bind ?_;rintro _ ⟨cs',ls',ZW,b,rfl,hM,hst⟩;have hr:=h.rlen;refine fS (gd (by simp;omega)) ?_;have hW:=h.woken Zr h3 hnq Xk hM hst;rw[EW hjs]at hW;exact fR ⟨_,_,_,_,_,_,_,_,_,_,_,_,_,rfl,hW⟩
theorem KY{n:Int}{q:Nat}{code:F_}{ss:M_}{dt:j_}{bs:M_}{key:Int}{cs:C_}{ls:G_}{ts:J_}{ck rn:M_}{ins:j_}{d:i_}{os:H_}{us:I_}{ow:M_}{qs:j_}{rec:E_}{js:M_}{i:Nat}{v:Int}{th:DTh}(h:kn n q code ss dt bs cs ls ts ck rn ins d os us ow qs rec js)(hn:n<=1099511627776)(hq:q<=900)(hv:W16 v)(Zr:ts[i]?=some th)(h3:th.1=3)(hnq:¬InQ qs i):Ok (lN (i:Int) v code ss dt bs key cs ls ts ck rn ins d os us ow qs rec) λr=>∃cs' ls' ZW rec',r=(code,ss,dt,bs,key,cs',ls',ZW,ck,rn,ins,d,os,us,ow,qs,rec',())/\kn n (q+1) code ss dt bs cs' ls' ZW ck rn ins d os us ow qs rec' (js.set i (-1))/\ZW.map (·.1)=(ts.map (·.1)).set i 1:=by unfold lN;rw[gf (by have:=hv.1;omega) (by have:=hv.2;omega)];have ⟨v2,ev,Xk⟩:=hY v true;simp[ev];refine(SU h.prog h.mach hn (iY Xk) ⟨by decide,gy⟩ (by decide) Zr h3).bind ?_;rintro _ ⟨cs',ls',ZW,b,rfl,hM,hst⟩;have hr:=h.rlen;refine fS (gd (by simp;omega)) ?_;exact fR ⟨_,_,_,_,rfl,h.woken Zr h3 hnq Xk hM hst,hst⟩
end Go.Proofs.YtabfnmgabblofaaGreat
