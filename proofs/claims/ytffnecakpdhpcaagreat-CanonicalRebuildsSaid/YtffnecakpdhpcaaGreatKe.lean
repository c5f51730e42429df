/- Part of the proof; no condition. -/
import Derived.Test.YtffnecakpdhpcaaGreatKd
import Derived.WalkKit
import Derived.WalkSpells
import Derived.Handy
import Derived.OpenShut
set_option linter.unusedVariables false
set_option linter.unusedSimpArgs false
namespace Go.Proofs.YtffnecakpdhpcaaGreat
open Go.RowKit
set_option maxRecDepth 100000
noncomputable section
def fm(a0:LDCn)(a1:LDIn)(a2:List (Int))(a3:List LI):Option (Bool×Unit):=
(gV a0 a1 a2 a3).bind λ(x0,_)=>
some ((decide (x0>=0)),())
def n9:X.Cfg:=⟨E0,[kn],[],[]⟩
def gn:Ctr:=⟨87,196,[shU eq,.fn 36 [.ip uab]],[],[⟨zab,[.one],[]⟩],ap4 fm⟩
theorem jp:Lk 5 gn:=ls n9 (aC pQ aN)
def jc(a0:LDCn)(a1:LDIn)(a2:List (Int))(a3:List LI):Option (Bool×Unit):=
(fm a0 a1 a2 a3).bind λ(x0,_)=>
some (x0,())
def sG:X.Cfg:=⟨E0,[gn],[],[]⟩
def mA:Ctr:=⟨86,197,[shU eq,.ip [.fn 36 [.ip uab]]],[],[⟨zab,[.one],[]⟩],ap4 jc⟩
theorem sB:Lk 6 mA:=ls sG (aC jp aN)
def eW:LLCn×T11->Option ((LLCn×T11)⊕((Int×Unit)⊕(LLCn×T1n))):=λ(v0,v1,v2,v3,v4,v5,_)=>
bif(decide (v5<v4))then((eu v5).bind λx0=>
(dR v0 x0).bind λx1=>
(jc x1 v1 v2 v3).bind λ(x2,_)=>
bif x2 then(some (.inr (.inl (v5,()))))else
let x3:=w64 (v5+1);
some (.inl (v0,v1,v2,v3,v4,x3,())))else
some (.inr (.inr (v0,v1,v2,v3,v4,v5,false,())))
def gU(a0:List LDCn)(a1:LDIn)(a2:List (Int))(a3:List LI):Option (Int×Unit):=
let x0:=dS a0.length;
(match dY eW NN (a0,a1,a2,a3,x0,0,())with
|none=>none
|some (.inl (x1,_))=>
some (x1,())
|some (.inr (x1,_))=>
some ((-1),()))
def pW:X.Cfg:=⟨E0,[mA],[],[⟨3,0,⟨[sP 0 (yaa eq),(1,.fn 86 [.ip [.fn 36 [.ip uab]]]),Uaa 7,Uaa 8],[],[],([],[])⟩,[(.ret,qS [Uaa 4] []),(.exit 0,⟨[sP 0 (yaa eq),(1,.fn 86 [.ip [.fn 36 [.ip uab]]]),Uaa 7,Uaa 8,Xaa 9],[],[],([],[])⟩)]⟩]⟩
def km:Ctr:=⟨133,198,[shU (yaa eq),.fn 86 [.ip [.fn 36 [.ip uab]]]],[],[⟨Uac,[.one],[]⟩],ap4 gU⟩
theorem pO:Lk 7 km:=ls pW (aC sB aN)
def gh(a0:List LDCn)(a1:LDIn)(a2:List (Int))(a3:List LI):Option (Bool×Unit):=
(gU a0 a1 a2 a3).bind λ(x0,_)=>
some ((decide (x0>=0)),())
def n8:X.Cfg:=⟨E0,[km],[],[]⟩
def jt:Ctr:=⟨85,199,[shU (yaa eq),.fn 86 [.ip [.fn 36 [.ip uab]]]],[],[⟨zab,[.one],[]⟩],ap4 gh⟩
theorem n6:Lk 8 jt:=ls n8 (aC pO aN)
def jb(a0:Int)(a1:Int)(a2:Int)(a3:Int)(a4:Int)(a5:Int)(a6:Int)(a7:LDCn)(a8:LDIn)(a9:List (Int))(a10:List LI):Option (Bool×Unit):=
(fm a7 a8 a9 a10).bind λ(x0,_)=>
some (x0,())
def sF:X.Cfg:=⟨E0,[gn],[],[]⟩
def mz:Ctr:=⟨89,200,[.agg uah,.ip [.fn 36 [.ip uab]]],[],[⟨zab,[.one],[]⟩],ap11 jb⟩
theorem sA:Lk 6 mz:=ls sF (aC jp aN)
def fb:LDTs×T11->Option ((LDTs×T11)⊕((Int×Unit)⊕(LDTs×T1n))):=λ(v0,v1,v2,v3,v4,v5,_)=>
bif(decide (v5<v4))then((eu v5).bind λx0=>
(dR v0 x0).bind λx1=>
(jb x1.1 x1.2.1 x1.2.2.1 x1.2.2.2.1 x1.2.2.2.2.1 x1.2.2.2.2.2.1 x1.2.2.2.2.2.2.1 x1.2.2.2.2.2.2.2 v1 v2 v3).bind λ(x2,_)=>
bif x2 then(some (.inr (.inl (v5,()))))else
let x3:=w64 (v5+1);
some (.inl (v0,v1,v2,v3,v4,x3,())))else
some (.inr (.inr (v0,v1,v2,v3,v4,v5,false,())))
def it(a0:LDTs)(a1:LDIn)(a2:List (Int))(a3:List LI):Option (Int×Unit):=
let x0:=dS a0.length;
(match dY fb NN (a0,a1,a2,a3,x0,0,())with
|none=>none
|some (.inl (x1,_))=>
some (x1,())
|some (.inr (x1,_))=>
some ((-1),()))
def qZ:X.Cfg:=⟨E0,[mz],[],[⟨3,0,⟨[sP 0 (yaa gT),(1,.fn 89 [.ip [.fn 36 [.ip uab]]]),Uaa 7,Uaa 8],[],[],([],[])⟩,[(.ret,qS [Uaa 4] []),(.exit 0,⟨[sP 0 (yaa gT),(1,.fn 89 [.ip [.fn 36 [.ip uab]]]),Uaa 7,Uaa 8,Xaa 9],[],[],([],[])⟩)]⟩]⟩
def kP:Ctr:=⟨135,201,[shU (yaa gT),.fn 89 [.ip [.fn 36 [.ip uab]]]],[],[⟨Uac,[.one],[]⟩],ap4 it⟩
theorem qX:Lk 7 kP:=ls qZ (aC sA aN)
def gE(a0:LDTs)(a1:LDIn)(a2:List (Int))(a3:List LI):Option (Bool×Unit):=
(it a0 a1 a2 a3).bind λ(x0,_)=>
some ((decide (x0>=0)),())
def oQ:X.Cfg:=⟨E0,[kP],[],[]⟩
def jG:Ctr:=⟨88,202,[shU (yaa gT),.fn 89 [.ip [.fn 36 [.ip uab]]]],[],[⟨zab,[.one],[]⟩],ap4 gE⟩
theorem oL:Lk 8 jG:=ls oQ (aC qX aN)
def f7(a0:List LDCn)(a1:LDTs)(a2:LDIn)(a3:List (Int))(a4:List LI):Option (Bool×Unit):=
(gh a0 a2 a3 a4).bind λ(x0,_)=>
bif x0 then(some (true,()))else
(gE a1 a2 a3 a4).bind λ(x1,_)=>
some (x1,())
def uw:X.Cfg:=⟨E0,[jt,jG],[],[]⟩
def nR:Ctr:=⟨35,203,[.agg Xab,.fn 36 [.ip uab]],[],[⟨zab,[.one],[]⟩],ap5 f7⟩
theorem uq:Lk 9 nR:=ls uw (aC n6 (aC oL aN))
def lL(a0:List (Int)):Option (LI×Unit):=
bif(ek 8 0 a0.length)then let x0:List (Int):=(List.append [] a0);
some (x0,())else none
def xG:X.Cfg:=⟨E0,[],[],[]⟩
def qJ:Ctr:=⟨91,204,uL [RI],[],[⟨zae,[.one],[]⟩],ap1 lL⟩
theorem xo:Lk 1 qJ:=ls xG aN
def sg(a0:List (Int))(a1:Int):Option (T07):=
(lL a0).bind λ(x0,_)=>
some (x0,a1,())
def FP:X.Cfg:=⟨E0,[qJ],[],[]⟩
def yh:Ctr:=⟨38,205,[.agg yab],[],[⟨zaj,[.agg 2],[]⟩],ap2 sg⟩
theorem E4:Lk 2 yh:=ls FP (aC xo aN)
def yx:T0f->Option (T0f⊕(Int×Int×Bool×LDLn×Unit)):=λ(v0,v1,v2,_)=>
bif(decide (v1<v0))then((eu v1).bind λx0=>
(dR v2 x0).bind λx1=>
(dR v2 x0).bind λx2=>
let x3:=(List.modify v2 x0 λe=>((-1),e.2));
let x4:=w64 (v1+1);
some (.inl (v0,x4,x3,())))else
some (.inr (v0,v1,false,v2,()))
def qR:Option (LDLn×Unit):=
bif(ug 4 4 3)then let x0:LDLn:=(List.replicate 4 (0,(false,[])));
let x1:=dS x0.length;
(dY yx NN (x1,0,x0,())).bind λ(x2,x3,x4,x5,_)=>
some (x5,())else none
def Dq:X.Cfg:=⟨E0,[],[(3,Ui)],[(lx 4 0 [Zaa 1 5,Uaa 5,Uaa 6] [(5,uL [j5])] 7)]⟩
def wi:Ctr:=⟨39,206,[],[],[⟨uL [j5],[.one],[]⟩],λh=>qR⟩
theorem C4:Lk 1 wi:=ls Dq aN
def nH(a0:List (Int))(a1:Int)(a2:List (Int))(a3:Int)(a4:Int)(a5:Int)(a6:Int):Option (T0e):=
(mb a2 a3 a4 a5 a6).bind λ(x0,_)=>
bif(!x0)then(some (0,0,1,()))else
(match(bif(a3==2)then(let x1:Int:=(wk .u16 (a4+a1));
some (.inl (0,0,a3,x1,())))else
bif(a3==1)then((jn a0 a1 a2 a5 a6).bind λ(x1,x2,_)=>
bif(x2 != 0)then(some (.inr (1,0,0,())))else
let x3:=wk .u16 x1;
some (.inl (0,0,a3,x3,())))else
some (.inl (0,0,a3,a4,())):Option (T0v⊕T0e))with
|none=>none
|some (.inl (x1,x2,x3,x4,_))=>
some (x3,x4,0,())
|some (.inr (x1,x2,x3,_))=>
some (x2,x3,x1,()))
def Ia:X.Cfg:=⟨E0,[pH,oe],[],[⟨5,0,qE,[(.normal,qS [zaa 6,zaa 8] [(14,uac),(18,uac)]),(.ret,qS [zaa 6,Uaa 7] [(14,uac)])]⟩]⟩
def Ai:Ctr:=⟨40,207,[.agg yab,shU RI,.agg Xae],[],[⟨yai,[.agg 2,.one],[]⟩],ap7 nH⟩
theorem Ho:Lk 3 Ai:=ls Ia (aC uo (aC tz aN))
def gc:T3F->Option (T3F⊕(LDIn×LI×LLI×LI×Int×LLCn×LDTs×Int×LLCn×Int×Int×LDCn×T32)):=λ(v0,v1,v2,v3,v4,v5,v6,v7,v8,v9,v10,v11,v12,v13,v14,v15,v16,v17,v18,v19,v20,v21,v22)=>
bif(decide (v13<v12))then((eu v13).bind λx0=>
(dR v11 x0).bind λx1=>
(eu v7).bind λx2=>
(dR v3 x2).bind λx3=>
let x4:=w64 (x3+v13);
(nH v3 v4 v1 x1.1 x1.2.1 x1.2.2.1 x1.2.2.2).bind λ(x5,x6,x7,_)=>
(eu x4).bind λx8=>
(dR v21 x8).bind λx9=>
(dR v21 x8).bind λac=>
let ae:=List.modify v21 x8 λe=>(x5,x6);
let af:=w64 (v13+1);
some (.inl (v0,v1,v2,v3,v4,v5,v6,v7,v8,v9,v10,v11,v12,af,v14,v15,v16,v17,v18,v19,v20,ae,v22)))else
some (.inr (v0,v1,v2,v3,v4,v5,v6,v7,v8,v9,v10,v11,v12,v13,false,v14,v15,v16,v17,v18,v19,v20,v21,v22))
def ij:T3y->Option (T3y⊕(LDIn×LI×LLI×LI×Int×LLCn×LDTs×LLCn×T32)):=λ(v0,v1,v2,v3,v4,v5,v6,v7,v8,v9,v10)=>
bif(decide (v9<v8))then((eu v9).bind λx0=>
(dR v7 x0).bind λx1=>
let x2:=dS x1.length;
(dY gc NN (v0,v1,v2,v3,v4,v5,v6,v9,v7,v8,v9,x1,x2,0,v10)).bind λ(x3,x4,x5,x6,x7,x8,x9,ac,ae,af,ag,ah,ai,aj,ak,am)=>
let aD:=w64 (ag+1);
some (.inl (x3,x4,x5,x6,x7,x8,x9,ae,af,aD,am)))else
some (.inr (v0,v1,v2,v3,v4,v5,v6,v7,v8,v9,false,v10))
def f9:T45->Option (T45⊕(LDIn×LI×LLI×LI×Int×LDTs×Int×Int×LDCn×Int×Int×Bool×T3K)):=λ(v0,v1,v2,v3,v4,v5,v6,v7,v8,v9,v10,v11,v12,v13,v14,v15,v16,v17,v18,v19,v20,v21,v22,v23,v24,v25,v26,v27,v28,v29,v30,v31)=>
bif(decide (v10<v9))then((eu v10).bind λx0=>
(dR v8 x0).bind λx1=>
(nH v3 v4 v1 x1.1 x1.2.1 x1.2.2.1 x1.2.2.2).bind λ(x2,x3,x4,_)=>
(eu v10).bind λx5=>
(dR v30 x5).bind λx6=>
(dR v30 x5).bind λx7=>
let x8:=List.modify v30 x5 λe=>(x2,x3);
let x9:=w64 (v10+1);
some (.inl (v0,v1,v2,v3,v4,v5,v6,v7,v8,v9,x9,v11,v12,v13,v14,v15,v16,v17,v18,v19,v20,v21,v22,v23,v24,v25,v26,v27,v28,v29,x8,v31)))else
some (.inr (v0,v1,v2,v3,v4,v5,v6,v7,v8,v9,v10,false,v11,v12,v13,v14,v15,v16,v17,v18,v19,v20,v21,v22,v23,v24,v25,v26,v27,v28,v29,v30,v31))
def f8:T3p->Option (T3p⊕(LDIn×LI×LLI×LI×Int×LDTs×Int×T2O)):=λ(v0,v1,v2,v3,v4,v5,v6,v7,v8,v9,v10,v11,v12,v13,v14,v15,v16,v17,_)=>
bif(decide (v7<v6))then((eu v7).bind λx0=>
(dR v5 x0).bind λx1=>
(jo x1.1 x1.2.1 x1.2.2.1 x1.2.2.2.1 x1.2.2.2.2.1 x1.2.2.2.2.2.1 x1.2.2.2.2.2.2.1 x1.2.2.2.2.2.2.2).bind λ(x2)=>
let ac:=dS x1.2.2.2.2.2.2.2.length;
(dY f9 NN (v0,v1,v2,v3,v4,v5,v6,v7,x1.2.2.2.2.2.2.2,ac,0,v8,v9,v10,v11,v12,v13,v14,v15,v16,v17,x1.1,x1.2.1,x1.2.2.1,x1.2.2.2.1,x1.2.2.2.2.1,x1.2.2.2.2.2.1,x1.2.2.2.2.2.2.1,x1.2.2.2.2.2.2.2,x2)).bind λ(ae,af,ag,ah,ai,aj,ak,am,an,ap,aq,av,ax,ay,az,aA,aB,aD,aE,aF,aG,aH,aI,aJ,aK,aL,aM,aO,aP,aQ,aR,aS,aT,aU,aV,aW,aY,aZ,_)=>
let ba:LDTh:=[(aR,(aS,(aT,(aU,(aV,(aW,(aY,aZ)))))))];
bif(ek 80 aH.length ba.length)then let bc:LDTh:=(List.append aH ba);
let bd:=w64 (am+1);
some (.inl (ae,af,ag,ah,ai,aj,ak,bd,ax,ay,az,aA,aB,aD,aE,aF,aG,bc,()))else none)else
some (.inr (v0,v1,v2,v3,v4,v5,v6,v7,false,v8,v9,v10,v11,v12,v13,v14,v15,v16,v17,()))
def io(a0:LDIn)(a1:List (Int))(a2:List LI)(a3:List (Int))(a4:Int)(a5:List LDCn)(a6:LDTs):Option (T1p):=
((iP a0 a1 a2 a5 a6).bind λ(x0,_)=>
bif(!x0)then(some (a0,a1,a2,a3,a4,a5,a6,true,(),0,(),(),(),()))else
(kI a3 a4 a1).bind λ(x1,_)=>
bif(!x1)then(some (a0,a1,a2,a3,a4,a5,a6,true,(),0,(),(),(),()))else
(f7 a5 a6 a0 a1 a2).bind λ(x2,_)=>
some (a0,a1,a2,a3,a4,a5,a6,x2,(),0,(),(),(),()):Option (LDIn×LI×LLI×LI×Int×LLCn×LDTs×T1b)).bind λ(x0,x1,x2,x3,x4,x5,x6,x7,x8,x9,ac,ae,af,_)=>
bif x7 then(some ([],0,[],[],[],false,()))else
(sg x3 x4).bind λ(ag,ah,_)=>
bif(ug 512 512 2)then let ai:LDCe:=(List.replicate 512 (0,0));
(qR).bind λ(aj,_)=>
let ak:=dS x5.length;
(dY ij NN (x0,x1,x2,x3,x4,x5,x6,x5,ak,0,x8,x9,ac,ae,af,ag,ah,ai,aj,(),())).bind λ(am,an,ap,aq,av,ax,ay,az,aA,aB,aD,aE,aF,aG,aH,aI,aJ,aK,aL,aM,aO,_)=>
let aP:=dS ay.length;
(dY f8 NN (am,an,ap,aq,av,ay,aP,0,aE,aF,aG,aH,aI,aJ,aK,aL,aM,[],())).bind λ(aQ,aR,aS,aT,aU,aV,aW,aY,aZ,ba,bc,bd,bf,bg,bh,bi,bj,bk,bm,_)=>
some (bh,bi,bj,bk,bm,true,())else none
def xJ:X.Cfg:=⟨E0,[rQ,wl,nR,yh,wi,Ai,of],[(110,Q6),(111,Q6)],[⟨2,0,qE,[(.normal,qS [(3,.ip uab),(4,.ip yab),(5,.ip Xab),zaa 6,Xaa 33] [(14,yac)])]⟩,⟨13,1,qS [(3,.ip uab),(4,.ip yab),(5,.ip Xab),zaa 6,zaa 8,Uaa 9,sP 42 (yaa eq),Uaa 43,Uaa 44,sP 49 eq,Uaa 50,Uaa 51] [(14,yac),(18,zak)],[(.exit 2,qS [(3,.ip uab),(4,.ip yab),(5,.ip Xab),zaa 6,zaa 8,Uaa 9,sP 42 (yaa eq),Uaa 43,Uaa 44,sP 49 eq,Uaa 50,Uaa 51,Xaa 52] [(14,yac),(18,zak)])]⟩,(lx 7 2 [(3,.ip uab),(4,.ip yab),(5,.ip Xab),zaa 6,zaa 8,sP 42 (yaa eq),Uaa 43,Uaa 44] [(14,yac),(18,zak)] 45),⟨28,3,qS [(3,.ip uab),(4,.ip yab),zaa 6,zaa 8,zaa 15,sP 78 (yaa gT),Uaa 79,Uaa 80,sP 87 eq,Uaa 88,Uaa 89] [(14,yac),(18,yaj),(30,uah),(32,yag)],[(.exit 6,qS [(3,.ip uab),(4,.ip yab),zaa 6,zaa 8,zaa 15,sP 78 (yaa gT),Uaa 79,Uaa 80,sP 87 eq,Uaa 88,Uaa 89,Xaa 90] [(14,yac),(18,yaj),(30,uah),(32,yag)])]⟩,⟨20,4,qS [(3,.ip uab),(4,.ip yab),zaa 6,zaa 8,sP 78 (yaa gT),Uaa 79,Uaa 80] [(14,yac),(18,yaj)],[(.exit 4,qS [(3,.ip uab),(4,.ip yab),zaa 6,zaa 8,sP 78 (yaa gT),Uaa 79,Uaa 80,Xaa 81] [(14,yac),(18,yaj)])]⟩]⟩
def qO:Ctr:=⟨12,208,[.agg uab,.agg yab,.agg Xab],[],[⟨uL [(uaa I64),CW,(uaa KCe),j5,rh,.bool],[.agg 5,.one],[]⟩],ap7 io⟩
theorem xC:Lk 11 qO:=ls xJ (aC yS (aC C5 (aC uq (aC E4 (aC C4 (aC Ho (aC tA aN)))))))
def l8:Int×Int×T0J->Option ((Int×Int×T0J)⊕((Bool×Unit)⊕(Int×Int×Bool×T0J))):=λ(v0,v1,v2,v3,v4,v5,_)=>
bif(decide (v1<v0))then((eu v1).bind λx0=>
(dR v2 x0).bind λx1=>
(eu v1).bind λx2=>
(dR v4 x2).bind λx3=>
bif(x1 != x3)then(some (.inr (.inl (false,()))))else
let x4:=w64 (v1+1);
some (.inl (v0,x4,v2,v3,v4,v5,())))else
some (.inr (.inr (v0,v1,false,v2,v3,v4,v5,())))
def ly(a0:List (Int))(a1:Int)(a2:List (Int))(a3:Int):Option (Bool×Unit):=
bif(a1 != a3)then(some (false,()))else
let x0:=dS a0.length;
let x1:=dS a2.length;
bif(x0 != x1)then(some (false,()))else
let x2:=dS a0.length;
(match dY l8 NN (x2,0,a0,a1,a2,a3,())with
|none=>none
|some (.inl (x3,_))=>
some (x3,())
|some (.inr (x3,_))=>
some (true,()))
def H8:X.Cfg:=⟨E0,[],[],[⟨6,0,qS [zaa 2,zaa 3,Uaa 22,Uaa 23] [(6,yab),(8,yab)],[(.ret,qS [Xaa 4] []),(.exit 0,qS [zaa 2,zaa 3,Uaa 22,Uaa 23,Xaa 24] [(6,yab),(8,yab)])]⟩]⟩
def Ah:Ctr:=⟨26,209,[.agg yab,.agg yab],[],[⟨zab,[.one],[]⟩],ap4 ly⟩
theorem Hn:Lk 1 Ah:=ls H8 aN
def Bk:LDCe×T0j->Option ((LDCe×T0j)⊕((Bool×Unit)⊕(LDCe×T0B))):=λ(v0,v1,v2,v3,_)=>
bif(decide (v3<v2))then((eu v3).bind λx0=>
(dR v0 x0).bind λx1=>
(eu v3).bind λx2=>
(dR v1 x2).bind λx3=>
bif(!((x1.1==x3.1)&&((x1.2==x3.2)&&true)))then(some (.inr (.inl (false,()))))else
let x4:=w64 (v3+1);
some (.inl (v0,v1,v2,x4,())))else
some (.inr (.inr (v0,v1,v2,v3,false,())))
def t8(a0:LDCe)(a1:LDCe):Option (Bool×Unit):=
let x0:=dS a0.length;
let x1:=dS a1.length;
bif(x0 != x1)then(some (false,()))else
let x2:=dS a0.length;
(match dY Bk NN (a0,a1,x2,0,())with
|none=>none
|some (.inl (x3,_))=>
some (x3,())
|some (.inr (x3,_))=>
some (true,()))
def Bj:Int×Int×T0C->Option ((Int×Int×T0C)⊕((Bool×Unit)⊕T1y)):=λ(v0,v1,v2,v3,v4,v5,_)=>
bif(decide (v1<v0))then((eu v1).bind λx0=>
(dR v3 x0).bind λx1=>
(eu v1).bind λx2=>
(dR v5 x2).bind λx3=>
(bif(x1.1 != x3.1)then(some (v0,v1,true,v2,v3,v4,v5,()))else
bif(!(x1.2.1==x3.2.1))then(some (v0,v1,true,v2,v3,v4,v5,()))else
(t8 x1.2.2 x3.2.2).bind λ(x4,_)=>
some (v0,v1,(!x4),v2,v3,v4,v5,()):Option (T1y)).bind λ(x4,x5,x6,x7)=>
bif x6 then(some (.inr (.inl (false,()))))else
let ae:=w64 (x5+1);
some (.inl (x4,ae,x7)))else
some (.inr (.inr (v0,v1,false,v2,v3,v4,v5,())))
def Gu(a0:LDCe)(a1:LDLn)(a2:LDCe)(a3:LDLn):Option (Bool×Unit):=
(t8 a0 a2).bind λ(x0,_)=>
bif(!x0)then(some (false,()))else
let x1:=dS a1.length;
let x2:=dS a3.length;
bif(x1 != x2)then(some (false,()))else
let x3:=dS a1.length;
(match dY Bj NN (x3,0,a0,a1,a2,a3,())with
|none=>none
|some (.inl (x4,_))=>
some (x4,())
|some (.inr (x4,_))=>
some (true,()))
def Gt(a0:Int)(a1:LDCe)(a2:Int)(a3:Int)(a4:Int)(a5:Int)(a6:Int)(a7:Int)(a8:Int)(a9:LDCe)(a10:Int)(a11:Int)(a12:Int)(a13:Int)(a14:Int)(a15:Int):Option (Bool×Unit):=
bif(a0==a8)then(bif(a2==a10)then(bif(a3==a11)then(bif(a4==a12)then(bif(a5==a13)then(bif(a6==a14)then(bif(a7==a15)then((t8 a1 a9).bind λ(x0,_)=>
some (x0,()))else
some (false,()))else
some (false,()))else
some (false,()))else
some (false,()))else
some (false,()))else
some (false,()))else
some (false,())
def Bi:T2V->Option (T2V⊕((Bool×Unit)⊕(Int×Int×T2D))):=λ(v0,v1,v2,v3,v4,v5,v6,v7,v8,v9,v10,v11,_)=>
bif(decide (v1<v0))then((eu v1).bind λx0=>
(dR v6 x0).bind λx1=>
(eu v1).bind λx2=>
(dR v11 x2).bind λx3=>
(Gt x1.1 x1.2.1 x1.2.2.1 x1.2.2.2.1 x1.2.2.2.2.1 x1.2.2.2.2.2.1 x1.2.2.2.2.2.2.1 x1.2.2.2.2.2.2.2 x3.1 x3.2.1 x3.2.2.1 x3.2.2.2.1 x3.2.2.2.2.1 x3.2.2.2.2.2.1 x3.2.2.2.2.2.2.1 x3.2.2.2.2.2.2.2).bind λ(x4,_)=>
bif(!x4)then(some (.inr (.inl (false,()))))else
let x5:=w64 (v1+1);
some (.inl (v0,x5,v2,v3,v4,v5,v6,v7,v8,v9,v10,v11,())))else
some (.inr (.inr (v0,v1,false,v2,v3,v4,v5,v6,v7,v8,v9,v10,v11,())))
def Gs(a0:List (Int))(a1:Int)(a2:LDCe)(a3:LDLn)(a4:LDTh)(a5:List (Int))(a6:Int)(a7:LDCe)(a8:LDLn)(a9:LDTh):Option (Bool×Unit):=
((ly a0 a1 a5 a6).bind λ(x0,_)=>
bif(!x0)then(some (true,a0,a1,a2,a3,a4,a5,a6,a7,a8,a9,()))else
(Gu a2 a3 a7 a8).bind λ(x1,_)=>
bif(!x1)then(some (true,a0,a1,a2,a3,a4,a5,a6,a7,a8,a9,()))else
let x2:=dS a4.length;
let x3:=dS a9.length;
some ((x2 != x3),a0,a1,a2,a3,a4,a5,a6,a7,a8,a9,()):Option (T2D)).bind λ(x0,x1,x2,x3,x4,x5,x6)=>
bif x0 then(some (false,()))else
let ae:=dS x5.length;
(match dY Bi NN (ae,0,x1,x2,x3,x4,x5,x6)with
|none=>none
|some (.inl (af,_))=>
some (af,())
|some (.inr (af,_))=>
some (true,()))
def pn:T3C->Option (T3C⊕((Bool×Unit)⊕(Int×Int×Int×Int×Bool×T3n))):=λ(v0,v1,v2,v3,v4,v5,v6,v7,v8,v9,v10,v11,v12,v13,v14,v15,v16,v17,v18,v19,_)=>
bif(decide (v3<v2))then((eu v3).bind λx0=>
(dR v19 x0).bind λx1=>
(dR v19 x0).bind λx2=>
(io v4 v5 v6 x2.1 x2.2 v16 v17).bind λ(x3,x4,x5,x6,x7,x8,_)=>
(jy v4 v5 v6 x2.1 x2.2 v16 v17).bind λ(x9,ac,ae,af,ag,ah,_)=>
bif(!(x8==ah))then(some (.inr (.inl (false,()))))else
(Gs x3 x4 x5 x6 x7 x9 ac ae af ag).bind λ(ai,_)=>
bif(!ai)then(some (.inr (.inl (false,()))))else
let aj:=w64 (v3+1);
some (.inl (v0,v1,v2,aj,v4,v5,v6,v7,v8,v9,v10,v11,v12,v13,v14,v15,v16,v17,v18,v19,())))else
some (.inr (.inr (v0,v1,v2,v3,false,v4,v5,v6,v7,v8,v9,v10,v11,v12,v13,v14,v15,v16,v17,v18,v19,())))
def pm:T3e->Option (T3e⊕(Int×Int×Bool×T37)):=λ(v0,v1,v2,v3,v4,v5,v6,v7,v8,v9,v10,v11,v12,v13,v14,_)=>
bif(decide (v1<v0))then((eu v1).bind λx0=>
(dR v14 x0).bind λx1=>
(dR v14 x0).bind λx2=>
let x3:List (LI×Int):=[(v5,v6),(v10,v11),(v12,v13)];
let x4:=dS x3.length;
(match dY pn NN (v0,v1,x4,0,v2,v3,v4,v5,v6,v7,v8,v9,v10,v11,v12,v13,x2.1,x2.2,v14,x3,())with
|none=>none
|some (.inl (x5,_))=>
none
|some (.inr (x5,x6,x7,x8,x9,ac,ae,af,ag,ah,ai,aj,ak,am,an,ap,aq,av,ax,ay,az,_))=>
let aA:=w64 (x6+1);
some (.inl (x5,aA,ac,ae,af,ag,ah,ai,aj,ak,am,an,ap,aq,ay,()))))else
some (.inr (v0,v1,false,v2,v3,v4,v5,v6,v7,v8,v9,v10,v11,v12,v13,v14,()))
def DP(a0:List (Int))(a1:Int)(a2:Int)(a3:Int)(a4:Int):Option (Bool×Unit):=
(kM a0 0).bind λ(x0,x1,x2,x3,x4,x5,x6,x7,_)=>
(i6 x0 x1 x2 x3 x4 x5 x6 x7).bind λ(ac,ae,_)=>
(ig a1 1048576).bind λ(af,_)=>
(lz x1 af).bind λ(ag,ah,ai,_)=>
bif(ek 8 0 ag.length)then let aj:List (Int):=(List.append [] ag);
(ig a4 600).bind λ(ak,_)=>
let am:=w64 (ak-20);
(dR aj 0).bind λan=>
(dR aj 0).bind λap=>
let aq:=List.modify aj 0 λe=>am;
(kK ac ae a2 a3 a4).bind λ(av,ax,_)=>
let ay:List (LLCn×LDTs):=[(ac,ae),(av,ax)];
let az:=dS ay.length;
(dY pm NN (az,0,x0,x1,x2,x3,x4,x5,x6,x7,ag,ah,aq,0,ay,())).bind λ(_)=>
(ii).bind λ(aS,_)=>
some (aS,())else none
def iv(a0:List (Int))(a1:Int)(a2:Int)(a3:Int)(a4:Int):Option (Bool×Unit):=
(kM a0 0).bind λ(x0,x1,x2,x3,x4,x5,x6,x7,_)=>
(ke x0 x1 x2 x3 x4 x5 x6 x7).bind λ(ac,ae,_)=>
(hZ x0 x1 x2 ac ae).bind λ(af,_)=>
bif(!af)then(some (false,()))else
(ig a1 1048576).bind λ(ag,_)=>
(lz x1 ag).bind λ(ah,ai,aj,_)=>
(io x0 x1 x2 ah ai ac ae).bind λ(ak,am,an,ap,aq,av,_)=>
bif(!av)then((to ac ae).bind λ(ax,_)=>
bif ax then((ii).bind λ(ay,_)=>
some (ay,()))else
some (false,()))else
(kK ac ae a2 a3 a4).bind λ(ax,ay,_)=>
(fR ac ae).bind λ(az,aA,_)=>
(fR ax ay).bind λ(aB,aD,_)=>
(ia x0 x1 x2 ak am an ap aq).bind λ(aE,_)=>
bif aE then((i6 x0 x1 x2 ak am an ap aq).bind λ(aF,aG,_)=>
(iZ aF aG ac ae).bind λ(aH,_)=>
bif aH then((ly ak am ah ai).bind λ(aI,_)=>
bif aI then(bif(aA==0)then(bif(aD != 0)then((ii).bind λ(aJ,_)=>
some (aJ,()))else
let aJ:ByteArray:=(tO az);
let aK:ByteArray:=(tO aB);
(iZ ac ae ax ay).bind λ(aL,_)=>
bif((Pu aJ aK)==aL)then((ii).bind λ(aM,_)=>
some (aM,()))else
some (false,()))else
some (false,()))else
some (false,()))else
some (false,()))else
some (false,())
def ra:X.Cfg:=⟨E0,[wu,rR,sN,A8,uV,qO,tE,yi,wm,mK,mw,sO,Aa,Ah],[],[]⟩
def kU:Ctr:=⟨5,215,uL [RI,I64,I64,I64,I64],[],[⟨zab,[.one],[]⟩],ap5 iv⟩
theorem k_law13_CanonicalRebuilds:Lk 12 kU:=ls ra (aC Db (aC yT (aC xr (aC E3 (aC zI (aC xC (aC AB (aC E5 (aC C6 (aC tG (aC oO (aC xt (aC Hg (aC Hn aN))))))))))))))
end
end Go.Proofs.YtffnecakpdhpcaaGreat
namespace Go.Proofs.YtffnecakpdhpcaaGreat
set_option maxRecDepth 100000
noncomputable section
end
end Go.Proofs.YtffnecakpdhpcaaGreat
namespace Go.Proofs.YtffnecakpdhpcaaGreat
open Go.RowKit
theorem UA:(Tryz.prog.funcs.all λfn=>!(fn.name=="runtime.NumGoroutine"))=true:=by kernel_rfl
theorem Mb:u5 Tryz.prog 6:=by
 obtain⟨fn,hf,hb⟩:∃fn,Tryz.prog.funcs[6]?=some fn/\fn.body.isSome=true:=by
  have hs:(match Tryz.prog.funcs[6]? with|some fn=>fn.body.isSome|none=>false)=true:=by kernel_rfl
  cases h:Tryz.prog.funcs[6]? with
  |none=>rw[h]at hs;cases hs
  |some fn=>rw[h]at hs;exact⟨fn,rfl,hs⟩
 obtain⟨c,hc⟩:=Option.isSome_iff_exists.1 hb;refine It hf ?_ hc;obtain⟨hlt,he⟩:=Array.getElem?_eq_some_iff.1 hf;have:=Array.all_eq_true.1 UA 6 hlt;rw[he]at this;simpa using this
def Tf(x:Value)(w:World)(e:Ending)(w':World):Prop:=e=.returned (.pointer (some ⟨w.heap.size,0,none⟩))/\w'=w.alloc (.cells #[x,.int .i64 0] 68)
theorem Sv(x:Value)(hx:x.oneCell'=true)(w:World):
 Calls Tryz.prog 6 #[x] w (Tf x w):=by
 cases x
 all_goals first
  |(go_enter Tryz.func6,Tryz.ntmps6
    go_wp2
    go_ret
    exact⟨rfl,rfl⟩)
  |simp[Value.oneCell']at hx
theorem e0_ok:Ps Tryz.prog E0:=by
 intro f n tm h;simp only[E0]at h;split at h
 ·rename_i e;subst e
  injection h with h
  injection h with h1 h2
  subst h1 h2;refine⟨Mb,λx hx=>?_,68,λl2 w hl Zq=>?_⟩
  ·simp only[List.mem_cons,List.not_mem_nil,or_false]at hx;rcases hx with hx|hx
   ·simp_all
   ·injection hx with hx;rw[hx];rfl
  ·match l2,hl with
   | [x],_=>exact Sv x (Zq x (by simp[bxV])) w
 ·simp at h
def Ok{α:Type}(o:Option α)(Q:α->Prop):Prop:=∃a,o=some a/\Q a
section
variable {α β:Type}
theorem Ok.ret{a:α}{Q:α->Prop}(h:Q a):Ok (some a) Q:=⟨a,rfl,h⟩
theorem Ok.bind{o:Option α}{f:α->Option β}{P:α->Prop}{Q:β->Prop}(h:Ok o P)(h2:∀a,P a->Ok (f a) Q):Ok (o.bind f) Q:=by
 obtain⟨a,rfl,h1⟩:=h
 simp_all
theorem Ok.mono{o:Option α}{P Q:α->Prop}(h:Ok o P)(h2:∀a,P a->Q a):Ok o Q:=by
 have ⟨a,e,h1⟩:=h;exact⟨a,e,h2 a h1⟩
theorem Ok.cond{c:Bool}{a b:Option α}{Q:α->Prop}(h1:c=true->Ok a Q)(h2:c=false->Ok b Q):Ok (bif c then a else b) Q:=by
 grind
class BP (b:Bool) (P N:outParam Prop):Prop where
 t:b=true->P
 f:b=false->N
instance (priority:=low) bpVar {b:Bool}:BP b (b=true) (b=false):=⟨id,id⟩
instance Vb {p:Prop}{i:Decidable p}:BP (@decide p i) p (¬p):=⟨of_decide_eq_true,of_decide_eq_false⟩
instance Vp {α:Type}[BEq α][LawfulBEq α]{a b:α}:BP (a==b) (a=b) (¬a=b):=⟨eq_of_beq,λh=>beq_eq_false_iff_ne.1 h⟩
instance Vo {α:Type}[BEq α][LawfulBEq α]{a b:α}:BP (a != b) (¬a=b) (a=b):=⟨λh=>bne_iff_ne.1 h,λh=>bne_eq_false_iff_eq.1 h⟩
instance Va {b:Bool}{P N:Prop}[h:BP b P N]:BP (!b) N P:=⟨λe=>h.f (by simpa using e),λe=>h.t (by simpa using e)⟩
theorem dO{c:Bool}{P N:Prop}[h:BP c P N]{a b:Option α}{Q:α->Prop}(h1:P->Ok a Q)(h2:N->Ok b Q):Ok (bif c then a else b) Q:=by
 cases hc:c with
 |true=>exact h1 (h.t hc)
 |false=>exact h2 (h.f hc)
theorem Ok.get{l:List α}{i:Nat}{f:α->Option β}{Q:β->Prop}(h:i<l.length)(h2:∀a,l[i]?=some a->Ok (f a) Q):Ok ((dR l i).bind f) Q:=by
 have e:dR l i=some l[i]:=oGE h
 simp_all
theorem Ok.nat{x:Int}{f:Nat->Option β}{Q:β->Prop}(h:0<=x)(h2:∀n:Nat,x=n->Ok (f n) Q):Ok ((eu x).bind f) Q:=by
 obtain⟨n,rfl⟩:∃n:Nat,x=n:=⟨x.toNat,by omega⟩;exact h2 n rfl
theorem Ok.val{v:α}{f:α->Option β}{Q:β->Prop}(h:∀x,x=v->Ok (f x) Q):Ok (f v) Q:=h v rfl
theorem dP{c:Bool}{a b:Option α}{Q:α->Prop}(hc:c=true)(h1:Ok a Q):Ok (bif c then a else b) Q:=by simp_all
theorem gI{S T:Type}{f:S->Option (S⊕T)}(P:S->Prop)(R:T->Prop)(m:S->Nat){n:Nat}{s:S}(hs:P s)(hm:m s<n)
 (h:∀s,P s->Ok (f s) λr=>match r with|.inl s'=>P s'/\m s'<m s|.inr t=>R t):Ok (dY f n s) R:=by
 induction n generalizing s with
 |zero=>omega
 |succ n ih=>
  have ⟨r,e,hr⟩:=h s hs
  cases r with
  |inl s'=>
   have ⟨t,e2,hq⟩:=ih hr.1 (by omega);exact⟨t,by simp[dY,e];exact e2,hq⟩
  |inr t=>exact⟨t,by simp[dY,e],hr⟩
theorem Ok.loop{S T:Type}{f:S->Option (S⊕T)}{g:T->Option β}{Q:β->Prop}(P:S->Prop)(R:T->Prop)(m:S->Nat){n:Nat}{s:S}(hs:P s)(hm:m s<n)
 (h:∀s,P s->Ok (f s) λr=>match r with|.inl s'=>P s'/\m s'<m s|.inr t=>R t)(hg:∀t,R t->Ok (g t) Q):Ok ((dY f n s).bind g) Q:=(gI P R m hs hm h).bind hg
end
theorem dX{x:Int}(h1:-9223372036854775808<=x)(h2:x<=9223372036854775807):w64 x=x:=Kh h1 h2
theorem dT(n:Nat):eu (n:Int)=some n:=rfl
theorem ee(n:Nat):dS n=(n:Int):=rfl
theorem dU{α:Type}{l:List α}{i:Nat}{a:α}(h:l[i]?=some a):a∈l:=List.mem_of_getElem? h
def W16(x:Int):Prop:=0<=x/\x<=65535
theorem eE{x:Int}(h0:0<=x)(h1:x<=65535):wk .u16 x=x:=by
 unfold wk;rw[wT];omega
theorem ej{x:Int}(h0:-9223372036854775808<=x)(h1:x<=9223372036854775807):wk .i64 x=x:=dX h0 h1
theorem d8{b n m:Nat}(h:b<=1000/\n+m<=1000000):ek b n m=true:=by
 have:=Nat.mul_le_mul h.2 h.1;simp[ek];omega
structure DOk (l:List Int)(k:Int):Prop where
 num:∀x∈l,CI x
 len:l.length<=maxLen
 lo:0<=k
 hi:k<=l.length
theorem Gi{l:List Int}(h:∀x∈l,CI x)(hl:l.length<=maxLen):DOk l 0:=⟨h,hl,by omega,by omega⟩
theorem Rl{a b:Int}(ha:CI a)(hb:0<b)(ZY:b<=9223372036854775807):∃v,i9 a b=some (v,())/\0<=v/\v<b:=by
 have hne:(b != 0)=true:=by simp;omega
 have hm:=Int.tmod_lt_of_pos a hb
 have hm2:-b<Int.tmod a b:=by
  have:=Int.tmod_lt_of_pos (-a) hb;rw[Int.neg_tmod]at this;omega
 unfold i9;simp[hne];by_cases h:Int.tmod a b<0
 ·refine⟨Int.tmod a b+b,?_,by omega,by omega⟩;simp[h,decide_true];rw[dX (by omega) (by omega)]
 ·refine⟨Int.tmod a b,?_,by omega,hm⟩;simp[h,decide_false,oCF]
section
variable {β:Type} {l:List Int} {k n:Int} {Q:β->Prop}
theorem TO{a b:Int}{f:Int×Unit->Option β}(ha:CI a)(hb:0<b)(ZY:b<=9223372036854775807)(K:∀v,0<=v->v<b->Ok (f (v,())) Q):Ok ((i9 a b).bind f) Q:=by
 have ⟨v,e,h0,h1⟩:=Rl ha hb ZY
 simp_all
theorem fS{f:Int×List Int×Int×Unit->Option β}(h:DOk l k)(hn:0<n)(hn2:n<=9223372036854775807)(K:∀v k',0<=v->v<n->DOk l k'->Ok (f (v,l,k',())) Q):Ok ((dW n l k).bind f) Q:=by
 have hl:=h.len;have hlo:=h.lo
 have W2:maxLen<=9223372036854775807:=by decide
 by_cases hk:k>=(l.length:Int)
 ·have e:dW n l k=some (0,l,k,()):=by unfold dW;simp[ee,hk]
  simp_all
 ·obtain⟨j,rfl⟩:∃j:Nat,k=j:=⟨k.toNat,by omega⟩
  have hj:j<l.length:=by omega
  obtain⟨v,hv,h0,h1⟩:=Rl (h.num _ (List.getElem_mem hj)) hn hn2
  have e:dW n l j=some (v,l,(j:Int)+1,()):=by
   unfold dW;delta dS
   try dsimp only
   rw[dX (x:=(j:Int)+1) (by omega) (by omega),dX (x:=(j:Int)+1-1) (by omega) (by omega)];rw[show(j:Int)+1-1=j by omega,dT];simp[hk,decide_false,oCF,oBS,dR,oGE hj,ig,hv]
  rw[e];exact K v _ h0 h1 ⟨h.num,hl,by omega,by omega⟩
theorem Ki{f:Int×List Int×Int×Unit->Option β}(h:DOk l k)(K:∀v k',0<=v->v<=65535->DOk l k'->Ok (f (v,l,k',())) Q):Ok ((jV l k).bind f) Q:=by
 have hw:Ok (jV l k) λr=>∃v k',r=(v,l,k',())/\0<=v/\v<=65535/\DOk l k':=by
  unfold jV
  (with_reducible refine fS (by assumption) (by omega) (by omega) (λv k a b d=>?_);try dsimp only)
  refine Ok.bind (P:=λr=>∃b,r=(v,b,l,k,())) ?_ ?_
  ·repeat ((with_reducible refine dO (λhc=>?_) λhc=>?_);· exact Ok.ret ⟨_,rfl⟩)
   exact Ok.ret ⟨_,rfl⟩
  ·rintro _ ⟨b,rfl⟩;refine Ok.cond (λ_=>?_) λ_=>?_
   ·(with_reducible refine fS (by assumption) (by omega) (by omega) (λv k a b d=>?_);try dsimp only)
    (simp (disch:=omega) only [dX,eE,ej,ee])
    exact Ok.ret ⟨_,_,rfl,by omega,by omega,by assumption⟩
   ·(with_reducible refine dO (λhc=>?_) λhc=>?_)
    ·(with_reducible refine fS (by assumption) (by omega) (by omega) (λv k a b d=>?_);try dsimp only)
     (simp (disch:=omega) only [dX,eE,ej,ee])
     exact Ok.ret ⟨_,_,rfl,by omega,by omega,by assumption⟩
    ·(with_reducible refine fS (by omega) (by omega) (by omega) (λv k a b d=>?_);try dsimp only)
     (simp (disch:=omega) only [dX,eE,ej,ee])
     exact Ok.ret ⟨_,_,rfl,by omega,by omega,by omega⟩
 refine hw.bind ?_
 simp_all
end
def zi(s:List Int):Prop:=1<=s.length/\s.length<=4/\∀x∈s,1<=x/\x<=32
theorem UW{P:Int->Prop}{a b c:Int}(ha:P a)(hb:P b)(hc:P c):∀x∈[a,b,c],P x:=by
 simp_all
theorem PH{l:List Int}{k:Int}(h:DOk l k):Ok (qv l k) λr=>∃s k',r=(s,l,k',())/\zi s/\DOk l k':=by
 unfold qv
 (with_reducible refine fS (by assumption) (by omega) (by omega) (λv0 k0 a0 b0 d0=>?_);try dsimp only)
 (simp (disch:=omega) only [dX,eE,ej,ee])
 (with_reducible refine fS (by assumption) (by omega) (by omega) (λv1 k1 a1 b1 d1=>?_);try dsimp only)
 refine Ok.loop (P:=λ((c,l',k',s,_):Int×List Int×Int×List Int×Unit)=>l'=l/\DOk l k'/\0<=c/\c+s.length<=4/\1<=s.length/\∀x∈s,1<=x/\x<=32)
  (R:=λ((_,_,l',k',s,_):Int×Bool×List Int×Int×List Int×Unit)=>l'=l/\DOk l k'/\zi s) (m:=λs=>s.1.toNat) ⟨rfl,d1,a1,by simp;omega,by simp,by simp;omega⟩ (by unfold NN;dsimp only;omega) ?_ ?_
 ·rintro⟨c,l',k3,s,_⟩ ⟨rfl,XZ,hc0,VC,hs1,hs⟩;dsimp only at *;unfold ua;dsimp only
  (with_reducible refine dO (λhc=>?_) λhc=>?_)
  ·(with_reducible refine fS (by assumption) (by omega) (by omega) (λv2 k2 a2 b2 d2=>?_);try dsimp only)
   (with_reducible refine Ok.nat (by omega) (λj hj=>?_);try dsimp only)
   have Zx:∀x∈[(6:Int),12,32],6<=x/\x<=32:=by simp_all
   refine Ok.get (by simp;omega) λa ha=>?_;refine Ok.get (by simp;omega) λb hb=>?_;have h7:=Zx b (dU hb)
   (with_reducible refine fS (by assumption) (by omega) (by omega) (λv3 k3 a3 b3 d3=>?_);try dsimp only)
   (simp (disch:=omega) only [dX,eE,ej,ee])
   refine dP (d8 (by simp;omega)) ?_;refine Ok.ret ⟨⟨rfl,by assumption,by omega,?_,?_,?_⟩,?_⟩
   ·simp;omega
   ·simp
   ·intro x hx;simp at hx;rcases hx with hx|rfl
    ·exact hs x hx
    ·omega
   ·dsimp only;omega
  ·exact Ok.ret ⟨rfl,XZ,hs1,by dsimp only;omega,hs⟩
 ·rintro⟨a,b,l',k3,s,_⟩ ⟨rfl,XZ,hs⟩;exact Ok.ret ⟨_,_,rfl,hs,XZ⟩
def rm(op:Int):Bool:=!(op==18||op==23||op==0||op==24)
def rY(op:Int):Bool:=!(op==18||op==23||op==0||op==24||op==1||op==15||op==19||op==20||op==21||op==22)
def rk(op:Int):Bool:=!(op==18||op==23||op==0||op==24||op==1||op==15||op==19||op==20||op==21||op==22||op==2||op==16||op==17)
def rj(op:Int):Bool:=op==1||op==15||op==19||op==20||op==21||op==16||op==17||op==18||op==23
def mZ(op:Int):Bool:=op==18||op==19||op==20||op==21
theorem IS{op:Int}(h0:0<=op)(h1:op<=24):jR op=some (rm op,rY op,rk op,rj op,()):=by
 obtain⟨n,rfl⟩:∃n:Nat,op=n:=⟨op.toNat,by omega⟩
 have hn:n<25:=by omega
 have key:∀n:Fin 25,(jR ((n.val:Nat):Int)).map (λx=>(x.1,x.2.1,x.2.2.1,x.2.2.2.1))=some (rm (n.val:Nat),rY (n.val:Nat),rk (n.val:Nat),rj (n.val:Nat)):=by decide
 have:=key ⟨n,hn⟩
 cases h:jR (n:Int)with
 |none=>simp_all
 |some x=>
  obtain⟨a,b,c,d,_⟩:=x
  simp_all
theorem wF(op:Int):ib op=some (mZ op,()):=by
 unfold ib mZ
 grind
structure jx (n m:Int)(i:DIn):Prop where
 op:0<=i.1/\i.1<=24
 a:0<=i.2.1/\i.2.1<8/\(rm i.1=false->i.2.1=0)
 b:0<=i.2.2.1/\i.2.2.1<8/\(rY i.1=false->i.2.2.1=0)
 c:0<=i.2.2.2.1/\i.2.2.2.1<8/\(rk i.1=false->i.2.2.2.1=0)
 imm:0<=i.2.2.2.2/\i.2.2.2.2<=65535/\(rj i.1=false->i.2.2.2.2=0)
 lea:i.1=15->i.2.2.2.2<n
 sys:i.1=23->i.2.2.2.2<=15
 jmp:mZ i.1=true->i.2.2.2.2<m
theorem ins_mk{n m o a b c i:Int}(ho:0<=o/\o<=24)(ha:0<=a/\a<8)(hb:0<=b/\b<8)(hc:0<=c/\c<8)(hi:0<=i/\i<=65535)(hA:rm o=true\/a=0)(hB:rY o=true\/b=0)(hC:rk o=true\/c=0)(hI:rj o=true\/i=0)
 (hl:o=15->i<n)(hs:o=23->i<=15)(hj:mZ o=true->i<m):jx n m (o,a,b,c,i):=
 ⟨ho,⟨ha.1,ha.2,λh=>hA.elim (λh'=>by simp_all) id⟩,⟨hb.1,hb.2,λh=>hB.elim (λh'=>by simp_all) id⟩,
  ⟨hc.1,hc.2,λh=>hC.elim (λh'=>by simp_all) id⟩,⟨hi.1,hi.2,λh=>hI.elim (λh'=>by simp_all) id⟩,hl,hs,hj⟩
theorem GV{n m r v:Int}(h:0<=r/\r<8)(hv:0<=v/\v<=65535):jx n m (1,r,0,0,v):=ins_mk (by decide) h (by decide) (by decide) hv (.inl (by decide)) (.inr rfl) (.inr rfl) (.inl (by decide)) (by omega) (by omega) (λh=>absurd h (by decide))
theorem Jf{n m r v:Int}(h:0<=r/\r<8)(hv:0<=v/\v<8):jx n m (2,r,v,0,0):=ins_mk (by decide) h hv (by decide) (by decide) (.inl (by decide)) (.inl (by decide)) (.inr rfl) (.inr rfl) (by omega) (by omega) (λh=>absurd h (by decide))
theorem Bl{n m v:Int}(hv:0<=v/\v<=15):jx n m (23,0,0,0,v):=ins_mk (by decide) (by decide) (by decide) (by decide) (by omega) (.inr rfl) (.inr rfl) (.inr rfl) (.inl (by decide)) (by omega) (by omega) (λh=>absurd h (by decide))
theorem Ji{n m r v:Int}(h:0<=r/\r<8)(hv:0<=v/\v<n)(hn:n<=4):jx n m (15,r,0,0,v):=ins_mk (by decide) h (by decide) (by decide) (by omega) (.inl (by decide)) (.inr rfl) (.inr rfl) (.inl (by decide)) (by omega) (by omega) (λh=>absurd h (by decide))
theorem MY{n m o a b v:Int}(ho:o=16\/o=17)(h:0<=a/\a<8)(hb:0<=b/\b<8)(hv:0<=v/\v<=65535):jx n m (o,a,b,0,v):=by
 rcases ho with rfl|rfl
 all_goals exact ins_mk (by decide) h hb (by decide) hv (.inl (by decide)) (.inl (by decide)) (.inr rfl) (.inl (by decide)) (by omega) (by omega) (λh=>absurd h (by decide))
theorem Jc{n m o a b c:Int}(ho:3<=o/\o<=14)(h:0<=a/\a<8)(hb:0<=b/\b<8)(hc:0<=c/\c<8):jx n m (o,a,b,c,0):=
 ins_mk (by omega) h hb hc (by decide) (.inl (by unfold rm;simp;omega)) (.inl (by unfold rY;simp;omega)) (.inl (by unfold rk;simp;omega)) (.inr rfl) (by omega) (by omega) (λh=>by unfold mZ at h;simp at h;omega)
theorem SF{n m v:Int}(hv:0<=v/\v<=65535)(hm:v<m):jx n m (18,0,0,0,v):=ins_mk (by decide) (by decide) (by decide) (by decide) hv (.inr rfl) (.inr rfl) (.inr rfl) (.inl (by decide)) (by omega) (by omega) (λ_=>hm)
theorem Sf{n m:Int}:jx n m (24,0,0,0,0):=ins_mk (by decide) (by decide) (by decide) (by decide) (by decide) (.inr rfl) (.inr rfl) (.inr rfl) (.inr rfl) (by omega) (by omega) (λh=>absurd h (by decide))
theorem jx.mono{n m m':Int}{i:DIn}(h:jx n m i)(hm:m<=m'):jx n m' i:=⟨h.op,h.a,h.b,h.c,h.imm,h.lea,h.sys,λhj=>by have:=h.jmp hj;omega⟩
theorem Jt{n m a v:Int}(h:0<=a/\a<8)(hv:0<=v/\v<=65535)(hm:v<m):jx n m (20,a,0,0,v):=ins_mk (by decide) h (by decide) (by decide) hv (.inl (by decide)) (.inr rfl) (.inr rfl) (.inl (by decide)) (by omega) (by omega) (λ_=>hm)
theorem Qw{n XY k:Int}{l:List Int}(h:DOk l k)(hn:1<=n/\n<=4)(hm:1<=XY/\XY<=100):Ok (qw n XY l k) λr=>∃o a b c i k',r=(o,a,b,c,i,l,k',())/\jx n XY (o,a,b,c,i)/\DOk l k':=by
 unfold qw
 (with_reducible refine fS (by assumption) (by omega) (by omega) (λv0 k0 a0 b0 d0=>?_);try dsimp only)
 rw[IS (by omega) (by omega)];simp only[oBS];refine Ok.bind (P:=λr=>∃x k',r=(n,XY,l,k',0,0,0,0,0,v0,x,0,0,0,rm v0,rY v0,rk v0,rj v0,())/\0<=x/\x<8/\(rm v0=false->x=0)/\DOk l k') ?_ ?_
 ·refine Ok.cond (λhc=>?_) λhc=>Ok.ret ⟨_,_,rfl,by omega,by omega,λ_=>rfl,d0⟩
  (with_reducible refine fS (by assumption) (by omega) (by omega) (λv1 k1 a1 b1 d1=>?_);try dsimp only)
  exact Ok.ret ⟨_,_,rfl,a1,b1,(λhh=>by rw[hc]at hh;cases hh),d1⟩
 rintro _ ⟨xa,k1,rfl,ha0,XF,WZ,d1⟩;dsimp only;refine Ok.bind (P:=λr=>∃x k',r=(n,XY,l,k',0,0,0,0,0,v0,xa,x,0,0,rm v0,rY v0,rk v0,rj v0,())/\0<=x/\x<8/\(rY v0=false->x=0)/\DOk l k') ?_ ?_
 ·refine Ok.cond (λhc=>?_) λhc=>Ok.ret ⟨_,_,rfl,by omega,by omega,λ_=>rfl,d1⟩
  (with_reducible refine fS (by assumption) (by omega) (by omega) (λv2 k2 a2 b2 d2=>?_);try dsimp only)
  exact Ok.ret ⟨_,_,rfl,a2,b2,(λhh=>by rw[hc]at hh;cases hh),d2⟩
 rintro _ ⟨xb,k2,rfl,hb0,hb1,ZY,d2⟩;dsimp only;refine Ok.bind (P:=λr=>∃x k',r=(n,XY,l,k',0,0,0,0,0,v0,xa,xb,x,0,rm v0,rY v0,rk v0,rj v0,())/\0<=x/\x<8/\(rk v0=false->x=0)/\DOk l k') ?_ ?_
 ·refine Ok.cond (λhc=>?_) λhc=>Ok.ret ⟨_,_,rfl,by omega,by omega,λ_=>rfl,d2⟩
  (with_reducible refine fS (by assumption) (by omega) (by omega) (λv3 k3 a3 b3 d3=>?_);try dsimp only)
  exact Ok.ret ⟨_,_,rfl,a3,b3,(λhh=>by rw[hc]at hh;cases hh),d3⟩
 rintro _ ⟨xc,k3,rfl,hc0,ZS,ZK,d3⟩;dsimp only;rw[wF];simp only[oBS];refine Ok.bind (P:=λr=>∃x k',r=(l,k',0,0,0,0,0,v0,xa,xb,xc,x,())/\0<=x/\x<=65535/\(rj v0=false->x=0)/\(v0=15->x<n)/\(v0=23->x<=15)/\(mZ v0=true->x<XY)/\DOk l k') ?_ ?_
 ·refine Ok.cond (λhj=>?_) λhj=>?_
  ·(with_reducible refine fS (by assumption) (by omega) (by omega) (λv4 k4 a4 b4 d4=>?_);try dsimp only)
   have hne:v0≠15/\v0≠23:=by constructor<;>(rintro rfl;exact absurd hj (by decide))
   exact Ok.ret ⟨_,_,rfl,a4,by omega,(λhh=>by
    have:rj v0=true:=by unfold mZ at hj;unfold rj;simp at hj⊢;omega
    rw[this]at hh;cases hh),by omega,by omega,λ_=>b4,d4⟩
  ·(with_reducible refine dO (λhc5=>?_) λhc5=>?_)
   ·subst hc5
    (with_reducible refine fS (by assumption) (by omega) (by omega) (λv4 k4 a4 b4 d4=>?_);try dsimp only)
    exact Ok.ret ⟨_,_,rfl,a4,by omega,λhh=>absurd hh (by decide),by omega,by omega,λhh=>absurd hh (by decide),d4⟩
   ·(with_reducible refine dO (λhc6=>?_) λhc6=>?_)
    ·subst hc6
     (with_reducible refine fS (by assumption) (by omega) (by omega) (λv4 k4 a4 b4 d4=>?_);try dsimp only)
     exact Ok.ret ⟨_,_,rfl,a4,by omega,λhh=>absurd hh (by decide),by omega,by omega,λhh=>absurd hh (by decide),d4⟩
    ·refine Ok.cond (λhu=>?_) λhu=>?_
     ·(with_reducible refine Ki (by assumption) (λv4 k4 a4 b4 d4=>?_);try dsimp only)
      (simp (disch:=omega) only [dX,eE,ej,ee])
      exact Ok.ret ⟨_,_,rfl,a4,by omega,(λhh=>by rw[hu]at hh;cases hh),by omega,by omega,(λhh=>by rw[show mZ v0=false from hj]at hh;cases hh),d4⟩
     ·exact Ok.ret ⟨_,_,rfl,by omega,by omega,λ_=>rfl,by omega,by omega,(λhh=>by rw[show mZ v0=false from hj]at hh;cases hh),d3⟩
 rintro _ ⟨xi,k4,rfl,hi0,W1,X6,hi3,hi4,hi5,d4⟩;exact Ok.ret ⟨_,_,_,_,_,_,rfl,⟨⟨a0,by dsimp only;omega⟩,⟨ha0,XF,WZ⟩,⟨hb0,hb1,ZY⟩,⟨hc0,ZS,ZK⟩,⟨hi0,W1,X6⟩,hi3,hi4,hi5⟩,d4⟩
theorem o6{α β:Type}{l:List α}{i:Nat}{f:α->Option β}{Q:β->Prop}(P:α->Prop)(h:i<l.length)(hP:∀x∈l,P x)(h2:∀a,P a->Ok (f a) Q):Ok ((dR l i).bind f) Q:=Ok.get h λa ha=>h2 a (hP a (dU ha))
theorem eJ{α:Type}{P:α->Prop}:∀x∈([]:List α),P x:=λ_ h=>by cases h
theorem all_cons{α:Type}{P:α->Prop}{a:α}{l:List α}(h:P a)(h2:∀x∈l,P x):∀x∈a::l,P x:=by
 simp_all
theorem TQ(a b:Int):jT a b=some (1,a,0,0,b,()):=rfl
theorem TN(a b:Int):oF a b=some (2,a,b,0,0,()):=rfl
theorem Re(a:Int):ja a=some (23,0,0,0,a,()):=rfl
theorem U3{x:Int}(h:1<=x):1<=mmR false 5 x/\mmR false 5 x<=5:=by
 unfold mmR;simp;omega
def Lq(n at_:Int)(l:List Int)(r:List DIn×List Int×Int×Unit):Prop:=∃xs k',r=(xs,l,k',())/\1<=xs.length/\xs.length<=6/\(∀i∈xs,jx n (at_+xs.length) i)/\DOk l k'
theorem ED{n at_:Int}{l:List Int}{xs:List DIn}{k:Int}(h1:1<=xs.length/\xs.length<=6)(h2:∀i∈xs,jx n (at_+xs.length) i)(h3:DOk l k):Ok (some (xs,l,k,())) (Lq n at_ l):=Ok.ret ⟨xs,k,rfl,h1.1,h1.2,h2,h3⟩
theorem Ss{s l:List Int}{at_ k:Int}(h:DOk l k)(hs:zi s)(ha:0<=at_/\at_<=99):Ok (si s (at_+1) at_ l k) (Lq s.length at_ l):=by
 obtain⟨hs1,XA,hsz⟩:=hs
 have hn:1<=(s.length:Int)/\(s.length:Int)<=4:=by omega
 unfold si;delta dS;simp only[TQ,TN,Re,oBS]
 (with_reducible refine fS (by assumption) (by omega) (by omega) (λvr kr ar br dr=>?_);try dsimp only)
 refine Ok.nat (by omega) λj hj=>?_;refine o6 (λa=>1<=a/\a<=32) (by omega) hsz λz hz=>?_
 (simp (disch:=omega) only [dX,eE,ej,ee])
 have h5:=U3 (x:=z+1) (by omega);generalize mmR false 5 (z+1)=mm at h5
 (with_reducible refine fS (by assumption) (by omega) (by omega) (λvu ku au bu du=>?_);try dsimp only)
 (with_reducible refine fS (by assumption) (by omega) (by omega) (λvw kw aw bw dw=>?_);try dsimp only)
 iterate 19
  (with_reducible refine dO (λhcc=>?_) λhcc=>?_)
  ·repeat (first|(simp (disch:=omega) only [dX,eE,ej,ee])|(with_reducible refine fS (by assumption) (by omega) (by omega) (λv k a b d=>?_);try dsimp only)|(with_reducible refine Ki (by assumption) (λv k a b d=>?_);try dsimp only)|(with_reducible refine Ok.nat (by omega) (λj hj=>?_);try dsimp only)|((with_reducible first|refine o6 (λa=>1<=a/\a<=32) (by omega) (by assumption) (λe he=>?_)|refine o6 (λa=>3<=a/\a<=14) (by simp only[oLC,List.length_nil];omega) (by(first|exact(all_cons (by omega) (all_cons (by omega) eJ))|exact(all_cons (by omega) (all_cons (by omega) (all_cons (by omega) eJ)))|exact(all_cons (by omega) (all_cons (by omega) (all_cons (by omega) (all_cons (by omega) (all_cons (by omega) (all_cons (by omega) (all_cons (by omega) (all_cons (by omega) eJ)))))))))) (λe he=>?_)|refine o6 (λa=>0<=a/\a<=15) (by simp only[oLC,List.length_nil];omega) (by(first|exact(all_cons (by omega) (all_cons (by omega) eJ))|exact(all_cons (by omega) (all_cons (by omega) (all_cons (by omega) eJ)))|exact(all_cons (by omega) (all_cons (by omega) (all_cons (by omega) (all_cons (by omega) (all_cons (by omega) (all_cons (by omega) (all_cons (by omega) (all_cons (by omega) eJ)))))))))) (λe he=>?_)|refine o6 (λa=>1<=a/\a<=100) (by simp only[oLC,List.length_nil];omega) (by(first|exact(all_cons (by omega) (all_cons (by omega) eJ))|exact(all_cons (by omega) (all_cons (by omega) (all_cons (by omega) eJ)))|exact(all_cons (by omega) (all_cons (by omega) (all_cons (by omega) (all_cons (by omega) (all_cons (by omega) (all_cons (by omega) (all_cons (by omega) (all_cons (by omega) eJ)))))))))) (λe he=>?_));try dsimp only)|(with_reducible refine dP (d8 (by first|omega|simp)) ?_;try dsimp only)|(refine o6 (λ(a:List DIn)=>(1<=a.length/\a.length<=6)/\∀i∈a,jx s.length (at_+a.length) i) (by simp only[oLC,List.length_nil];omega) (all_cons ⟨by simp,by((repeat' (first|exact eJ|refine all_cons ?_ ?_|exact GV (by omega) (by omega)|exact Jf (by omega) (by omega)|exact Bl (by omega)|exact Ji (by omega) (by omega) (by omega)|exact MY (by omega) (by omega) (by omega) (by omega)|exact Jc (by omega) (by omega) (by omega) (by omega)|exact Jt (by omega) (by omega) (by simp only[oLC,List.length_nil];omega)));done)⟩ (all_cons ⟨by simp,by((repeat' (first|exact eJ|refine all_cons ?_ ?_|exact GV (by omega) (by omega)|exact Jf (by omega) (by omega)|exact Bl (by omega)|exact Ji (by omega) (by omega) (by omega)|exact MY (by omega) (by omega) (by omega) (by omega)|exact Jc (by omega) (by omega) (by omega) (by omega)|exact Jt (by omega) (by omega) (by simp only[oLC,List.length_nil];omega)));done)⟩ eJ)) (λe he=>?_);try dsimp only))
   first
    |exact ED he.1 he.2 (by assumption)
    |(refine ED (by simp) ?_ (by assumption);try simp only[List.append_eq,List.cons_append,List.nil_append]
      ((repeat' (first|exact eJ|refine all_cons ?_ ?_|exact GV (by omega) (by omega)|exact Jf (by omega) (by omega)|exact Bl (by omega)|exact Ji (by omega) (by omega) (by omega)|exact MY (by omega) (by omega) (by omega) (by omega)|exact Jc (by omega) (by omega) (by omega) (by omega)|exact Jt (by omega) (by omega) (by simp only[oLC,List.length_nil];omega)));done))
 refine(Qw (by assumption) hn (by omega)).bind ?_;rintro _ ⟨o,a,b,c,i,k',rfl,hi,hd⟩;exact ED (by simp) (all_cons (hi.mono (by simp)) eJ) hd
theorem kA{α:Type}{P:α->Prop}{l m:List α}(h:∀x∈l,P x)(h2:∀x∈m,P x):∀x∈List.append l m,P x:=λx hx=>(List.mem_append.1 (show x∈l++m from hx)).elim (h x) (h2 x)
theorem fB{α:Type}(l m:List α):(List.append l m).length=l.length+m.length:=List.length_append
theorem rV{l:List Int}{k n:Int}(h:DOk l k)(hn:0<=n/\n<=1000):Ok (gH n l k) λr=>∃ws k',r=(ws,l,k',())/\(ws.length:Int)<=n/\(∀w∈ws,W16 w)/\DOk l k':=by
 unfold gH
 (simp (disch:=omega) only [dX,eE,ej,ee])
 (with_reducible refine fS (by assumption) (by omega) (by omega) (λv0 k0 a0 b0 d0=>?_);try dsimp only)
 refine Ok.loop (P:=λ((c,l',k',s,_):Int×List Int×Int×List Int×Unit)=>l'=l/\DOk l k'/\0<=c/\c+s.length<=n/\∀x∈s,W16 x)
  (R:=λ((_,_,l',k',s,_):Int×Bool×List Int×Int×List Int×Unit)=>l'=l/\DOk l k'/\(s.length:Int)<=n/\∀x∈s,W16 x) (m:=λs=>s.1.toNat) ⟨rfl,d0,a0,by simp;omega,eJ⟩ (by unfold NN;dsimp only;omega) ?_ ?_
 ·rintro⟨c,l',k3,s,_⟩ ⟨rfl,XZ,hc0,VC,hs⟩;unfold t9;dsimp only
  (with_reducible refine dO (λhcc=>?_) λhcc=>?_)
  ·(with_reducible refine Ki (by assumption) (λv1 k1 a1 b1 d1=>?_);try dsimp only)
   refine dP (d8 (by simp;omega)) ?_
   (simp (disch:=omega) only [dX,eE,ej,ee])
   exact Ok.ret ⟨⟨rfl,by omega,by omega,by rw[fB];simp;omega,kA hs (all_cons ⟨a1,b1⟩ eJ)⟩,by omega⟩
  ·exact Ok.ret ⟨rfl,XZ,by dsimp only;omega,hs⟩
 ·rintro⟨a,b,l',k3,s,_⟩ ⟨rfl,XZ,hs,hw⟩;exact Ok.ret ⟨_,_,rfl,hs,hw,XZ⟩
structure kV (code:List DIn)(s:List Int)(d:List (List Int)):Prop where
 sz:zi s
 len:d.length=s.length
 fit:∀(j:Nat) x n,d[j]?=some x->s[j]?=some n->(x.length:Int)<=n
 num:∀x∈d,∀w∈x,W16 w
 clen:1<=code.length/\code.length<=64
 ins:∀i∈code,jx s.length code.length i
theorem K3{code:List DIn}{s:List Int}{d:List (List Int)}{l:List Int}{k:Int}(hp:kV code s d):
 Ok (dY iQ NN ((code.length:Int),0,l,k,(),(),(),code,s,d,())) λr=>∃a b c,r=(a,b,c,l,k,(),(),(),code,s,d,()):=by
 have:=Ok.loop (f:=iQ) (n:=NN) (Q:=λr=>∃a b c,r=(a,b,c,l,k,(),(),(),code,s,d,())) (s:=((code.length:Int),0,l,k,(),(),(),code,s,d,()))
  (P:=λs'=>∃i:Int,s'=((code.length:Int),i,l,k,(),(),(),code,s,d,())/\0<=i/\i<=code.length) (R:=λr=>∃a b c,r=(a,b,c,l,k,(),(),(),code,s,d,())) (m:=λs=>(s.1-s.2.1).toNat) ⟨0,rfl,by omega,by omega⟩ (by unfold NN;dsimp only;have:=hp.clen;omega) ?_ (λt ht=>Ok.ret ht)
 ·simp_all
 ·rintro _ ⟨i,rfl,hi0,W1⟩;unfold iQ;dsimp only;have hc:=hp.clen
  (with_reducible refine dO (λhcc=>?_) λhcc=>?_)
  ·refine Ok.bind (P:=λr=>r=((code.length:Int),i,l,k,(),(),(),code,s,d,())) ?_ ?_
   ·(with_reducible refine Ok.nat (by omega) (λj hj=>?_);try dsimp only)
    refine Ok.get (by omega) λx hx=>?_;have hin:=hp.ins x (dU hx);rw[wF];refine Ok.cond (λhjp=>?_) λ_=>Ok.ret rfl;refine Ok.nat (by omega) λj2 Xh=>?_;refine Ok.get (by omega) λy hy=>?_
    have hjj:j2=j:=by omega
    subst hjj;rw[hx]at hy
    injection hy with hy
    subst hy;have:=hin.jmp hjp;refine Ok.cond (λhcc=>?_) (λhcc=>?_)
    ·have h9:(x.2.2.2.2:Int)>=(code.length:Int):=of_decide_eq_true hcc;omega
    ·exact Ok.ret rfl
   ·rintro _ rfl;dsimp only
    (simp (disch:=omega) only [dX,eE,ej,ee])
    exact Ok.ret ⟨⟨i+1,rfl,by omega,by omega⟩,by dsimp only;omega⟩
  ·exact Ok.ret ⟨_,_,_,rfl⟩
theorem LZ{l:List Int}{k:Int}(h:DOk l k):Ok (nk l k) λr=>∃code s d k',r=(code,s,d,l,k',())/\kV code s d/\DOk l k':=by
 unfold nk;refine(PH h).bind ?_;rintro _ ⟨s,k1,rfl,hs,hd⟩;obtain⟨hs1,XA,hsz⟩:=id hs;dsimp only;delta dS
 try dsimp only
 refine Ok.loop (P:=λs'=>∃k' d,s'=((s.length:Int),(d.length:Int),l,k',(),(),(),(),s,d,())/\DOk l k'/\d.length<=s.length/\(∀(j:Nat) x n,d[j]?=some x->s[j]?=some n->(x.length:Int)<=n)/\∀x∈d,∀w∈x,W16 w)
  (R:=λr=>∃a b c k' d,r=(a,b,c,l,k',(),(),(),(),s,d,())/\DOk l k'/\d.length=s.length/\(∀(j:Nat) x n,d[j]?=some x->s[j]?=some n->(x.length:Int)<=n)/\∀x∈d,∀w∈x,W16 w)
  (m:=λs=>(s.1-s.2.1).toNat) ⟨k1,[],rfl,hd,by simp,by simp,eJ⟩ (by unfold NN;dsimp only;omega) ?_ ?_
 ·rintro _ ⟨k',d,rfl,Yx,hdl,ZU,Xw⟩;unfold rq;dsimp only
  (with_reducible refine dO (λhcc=>?_) λhcc=>?_)
  ·(with_reducible refine Ok.nat (by omega) (λj hj=>?_);try dsimp only)
   refine Ok.get (by omega) λx hx=>?_;refine Ok.get (by omega) λy hy=>?_
   have ZQ:j=d.length:=by omega
   subst ZQ;have Xo:=hsz y (dU hy);refine(rV Yx ⟨by omega,by omega⟩).bind ?_;rintro _ ⟨ws,k2,rfl,Q',hww,hd2⟩;dsimp only;refine dP (d8 (by simp;omega)) ?_
   (simp (disch:=omega) only [dX,eE,ej,ee])
   refine Ok.ret ⟨⟨k2,List.append d [ws],by rw[fB];simp,hd2,by rw[fB];simp;omega,?_,kA Xw (all_cons hww eJ)⟩,by dsimp only;omega⟩;intro i x n hx hn;rw[show List.append d [ws]=d++[ws]from rfl,List.getElem?_append]at hx;split at hx
   ·exact ZU i x n hx hn
   ·rename_i V6
    have:i-d.length=0:=by
     rcases Nat.eq_zero_or_pos (i-d.length)with h|h
     ·exact h
     ·rw[oGN (by simp;omega)]at hx;cases hx
    have hi:i=d.length:=by omega
    subst hi;simp at hx;subst hx;rw[hy]at hn
    injection hn with hn
    omega
  ·exact Ok.ret ⟨_,_,_,_,_,rfl,Yx,by omega,ZU,Xw⟩
 rintro _ ⟨a,b,c,k2,d,rfl,hd2,hdl,ZU,Xw⟩;dsimp only
 (with_reducible refine fS (by assumption) (by omega) (by omega) (λv0 k0 a0 b0 d0=>?_);try dsimp only)
 (simp (disch:=omega) only [dX,eE,ej,ee])
 refine Ok.loop (P:=λs'=>∃i k' code,s'=(i,l,k',(),(),(),code,s,d,())/\0<=i/\i<=12/\DOk l k'/\code.length<=62/\∀i∈code,jx s.length code.length i)
  (R:=λr=>∃a b k' code,r=(a,b,l,k',(),(),(),code,s,d,())/\DOk l k'/\code.length<=62/\∀i∈code,jx s.length code.length i)
  (m:=λs=>s.1.toNat) ⟨_,_,[],rfl,by omega,by omega,d0,by simp,eJ⟩ (by unfold NN;dsimp only;omega) ?_ ?_
 ·rintro _ ⟨i,k',code,rfl,hi0,W1,Yx,Zd,Yo⟩;unfold rp;dsimp only
  (with_reducible refine dO (λhcc=>?_) λhcc=>?_)
  ·refine Ok.bind (P:=λr=>∃k' code,r=(i,l,k',(),(),(),code,s,d,())/\DOk l k'/\code.length<=62/\∀i∈code,jx s.length code.length i) ?_ ?_
   ·(simp (disch:=omega) only [dX,eE,ej,ee])
    refine(Ss Yx hs ⟨by omega,by omega⟩).bind ?_;rintro _ ⟨xs,k3,rfl,Z0,hx6,hxs,XZ⟩;dsimp only
    (simp (disch:=omega) only [dX,eE,ej,ee])
    (with_reducible refine dO (λhcc=>?_) λhcc=>?_)
    ·refine dP (d8 (by omega)) ?_;refine Ok.ret ⟨_,_,rfl,XZ,by rw[fB];omega,?_⟩;rw[fB];exact kA (λi hi=>(Yo i hi).mono (by omega)) (λi hi=>(hxs i hi).mono (by omega))
    ·exact Ok.ret ⟨_,_,rfl,XZ,Zd,Yo⟩
   ·rintro _ ⟨k3,Y1,rfl,XZ,hcl2,Xg⟩;dsimp only
    (simp (disch:=omega) only [dX,eE,ej,ee])
    exact Ok.ret ⟨⟨_,_,_,rfl,by omega,by omega,XZ,hcl2,Xg⟩,by dsimp only;omega⟩
  ·exact Ok.ret ⟨_,_,_,_,rfl,Yx,Zd,Yo⟩
 rintro _ ⟨a,b,k3,code,rfl,XZ,Zd,Yo⟩;dsimp only;refine Ok.bind (P:=λr=>∃k' code,r=(l,k',(),(),(),code,s,d,())/\DOk l k'/\code.length<=63/\∀i∈code,jx s.length (code.length+1) i) ?_ ?_
 ·(with_reducible refine fS (by assumption) (by omega) (by omega) (λv1 k1 a1 b1 d1=>?_);try dsimp only)
  (with_reducible refine dO (λhcc=>?_) λhcc=>?_)
  ·(simp (disch:=omega) only [dX,eE,ej,ee])
   (with_reducible refine fS (by assumption) (by omega) (by omega) (λv2 k2 a2 b2 d2=>?_);try dsimp only)
   refine dP (d8 (by simp;omega)) ?_;refine Ok.ret ⟨_,_,rfl,d2,by rw[fB];simp;omega,?_⟩;rw[fB];exact kA (λi hi=>(Yo i hi).mono (by simp;omega)) (all_cons (SF (by omega) (by simp;omega)) eJ)
  ·(with_reducible refine dO (λhcc=>?_) λhcc=>?_)
   ·refine dP (d8 (by simp;omega)) ?_;refine Ok.ret ⟨_,_,rfl,d1,by rw[fB];simp;omega,?_⟩;rw[fB];exact kA (λi hi=>(Yo i hi).mono (by simp;omega)) (all_cons Sf eJ)
   ·exact Ok.ret ⟨_,_,rfl,d1,by omega,λi hi=>(Yo i hi).mono (by omega)⟩
 rintro _ ⟨k4,Y1,rfl,hd4,hcl2,Xg⟩;dsimp only
 (with_reducible refine fS (by assumption) (by omega) (by omega) (λv3 k3 a3 b3 d3=>?_);try dsimp only)
 simp only[TQ,Re,oBS];refine dP (d8 (by simp;omega)) ?_;simp only[fB];refine Ok.cond (λhc=>?_) λ_=>?_
 ·have ZO:∀i∈List.append Y1 [(1,0,0,0,v3),(23,0,0,0,0)],jx s.length (Y1.length+1) i:=kA Xg (all_cons (GV (by omega) (by omega)) (all_cons (Bl (by omega)) eJ));simp only[oDE]at hc
  have hcn:(Y1.length:Int)+2>64:=by
   have:((Y1.length + [((1:Int),(0:Int),(0:Int),(0:Int),v3),(23,0,0,0,0)].length:Nat):Int)>64:=hc;simpa using this
  have h63:Y1.length=63:=by omega
  refine dP (by rw[h63];rfl) ?_
  have hlen:(lF (List.append Y1 [((1:Int),(0:Int),(0:Int),(0:Int),v3),(23,0,0,0,0)]) 0 (Nat.sub 64 0)).length=64:=by
   unfold lF;rw[oLT,List.drop_zero,fB,h63];rfl
  have hp:kV (lF (List.append Y1 [((1:Int),(0:Int),(0:Int),(0:Int),v3),(23,0,0,0,0)]) 0 (Nat.sub 64 0)) s d:=by
   refine⟨hs,hdl,ZU,Xw,by rw[hlen];decide,λi hi=>?_⟩;rw[hlen];refine(ZO i ?_).mono (by omega);unfold lF at hi;exact List.mem_of_mem_drop (List.mem_of_mem_take hi)
  refine(K3 (l:=l) (k:=_) hp).bind ?_;rintro _ ⟨a,b,c,rfl⟩;exact Ok.ret ⟨_,_,_,_,rfl,hp,d3⟩
 ·have hp:kV (List.append Y1 [(1,0,0,0,v3),(23,0,0,0,0)]) s d:=by
   refine⟨hs,hdl,ZU,Xw,?_,?_⟩
   ·rw[fB];rename_i hc;have hcn:¬((Y1.length + [((1:Int),(0:Int),(0:Int),(0:Int),v3),(23,0,0,0,0)].length:Nat):Int)>64:=of_decide_eq_false hc;simp only[oLC,List.length_nil]at hcn⊢;omega
   ·rw[fB];exact kA (λi hi=>(Xg i hi).mono (by simp)) (all_cons (GV (by omega) (by omega)) (all_cons (Bl (by omega)) eJ))
  have hf:=K3 (l:=l) (k:=k3) hp;rw[fB]at hf;refine hf.bind ?_;rintro _ ⟨a,b,c,rfl⟩;exact Ok.ret ⟨_,_,_,_,rfl,hp,d3⟩
theorem Lm{P:Int->Prop}{s:List Int}{i:Nat}{x:Int}(h:∀(j:Nat) y,j<i->s[j]?=some y->P y)(hx:s[i]?=some x)(hp:P x):∀(j:Nat) y,j<i+1->s[j]?=some y->P y:=by
 grind
theorem IR{s:List Int}(hl:s.length<=1000):Ok (gG s) λr=>r.1=true↔zi s:=by
 unfold gG;delta dS
 try dsimp only
 obtain⟨t,e,ht⟩:=gI (f:=n5) (n:=NN) (s:=(s,s,(s.length:Int),0,())) (P:=λs'=>∃i:Nat,s'=(s,s,(s.length:Int),(i:Int),())/\i<=s.length/\∀(j:Nat) y,j<i->s[j]?=some y->1<=y/\y<=32)
  (R:=λr=>(r=.inl (false,())/\∃y∈s,¬(1<=y/\y<=32))\/((∃a b c d,r=.inr (s,a,b,c,d,()))/\∀y∈s,1<=y/\y<=32)) (m:=λs'=>(s'.2.2.1-s'.2.2.2.1).toNat) ⟨0,rfl,by omega,λj y hj=>by omega⟩ (by unfold NN;dsimp only;omega) (by
   rintro _ ⟨i,rfl,hi,ZO⟩;unfold n5
   (with_reducible refine dO (λhcc=>?_) λhcc=>?_)
   ·rw[dT];refine Ok.get (by omega) λx hx=>?_
    (with_reducible refine dO (λXr=>?_) λXr=>?_)
    ·exact Ok.ret (.inl ⟨rfl,x,dU hx,by omega⟩)
    ·(with_reducible refine dO (λWk=>?_) λWk=>?_)
     ·exact Ok.ret (.inl ⟨rfl,x,dU hx,by omega⟩)
     ·(simp (disch:=omega) only [dX,eE,ej,ee])
      exact Ok.ret ⟨⟨i+1,rfl,by omega,Lm ZO hx ⟨by omega,by omega⟩⟩,by dsimp only;omega⟩
   ·refine Ok.ret (.inr ⟨⟨_,_,_,_,rfl⟩,λy hy=>?_⟩);have ⟨j,hj⟩:=List.getElem?_of_mem hy
    exact ZO j y (by have:=(oGS hj).1;omega) hj)
 rw[e]
 rcases ht with⟨rfl,y,hy,hn⟩|⟨⟨a,b,c,d,rfl⟩,ZO⟩
 ·exact Ok.ret ⟨λh=>(by cases h),λh=>absurd (h.2.2 y hy) hn⟩
 ·dsimp only
  (with_reducible refine dO (λhcc=>?_) λhcc=>?_)
  ·exact Ok.ret ⟨λh=>⟨by omega,(by have:=of_decide_eq_true h;omega),ZO⟩,λh=>oDT (by have:=h.2.1;omega)⟩
  ·exact Ok.ret ⟨λh=>(by cases h),λh=>by have:=h.1;omega⟩
abbrev VS(xs:List Int):Prop:=zi xs
theorem OR{l:List Int}{k:Nat}(h:k<l.length):l.getD k 0=l[k]:=by simp[List.getD,h]
def qc(bs ss:List Int)(i:Nat):Prop:=
 0<=bs.getD i 0/\bs.getD i 0+ss.getD i 0<=512/\∀k,k<i->¬(bs.getD i 0<=bs.getD k 0+ss.getD k 0/\bs.getD k 0<=bs.getD i 0+ss.getD i 0)
def LV(bs ss:List Int):Prop:=VS ss/\bs.length=ss.length/\∀i,i<bs.length->qc bs ss i
theorem VS.at_{ss:List Int}(h:VS ss){i:Nat}(hi:i<ss.length):1<=ss[i]/\ss[i]<=32:=h.2.2 _ (List.getElem_mem hi)
def vL(ss:List Int)(seed:Int):Nat->List Int×Int
 |0=>(List.replicate ss.length 0,1+seed/ss.length%50)
 |k+1=>((vL ss seed k).1.set (((k+seed)%ss.length).toNat) (vL ss seed k).2,(vL ss seed k).2+(ss.getD ((k+seed)%ss.length).toNat 0+1+seed/(50*ss.length)%40))
def mkB(ss:List Int)(seed:Int):List Int:=(vL ss seed ss.length).1
theorem Qr(ss:List Int)(seed:Int)(k:Nat):(vL ss seed k).1.length=ss.length:=by
 induction k with
 |zero=>simp[vL]
 |succ k ih=>simp[vL,ih]
theorem VS.getD{ss:List Int}(h:VS ss){i:Nat}(hi:i<ss.length):1<=ss.getD i 0/\ss.getD i 0<=32:=by rw[OR hi];exact h.at_ hi
theorem Rh{n k:Nat}{seed:Int}(hn:1<=n):0<=((k:Int)+seed)%n/\((k:Int)+seed)%n<n:=
 ⟨Int.emod_nonneg _ (by omega),Int.emod_lt_of_pos _ (by omega)⟩
theorem Sy{ss:List Int}{seed:Int}(h:VS ss)(hs:0<=seed)(k:Nat):1<=(vL ss seed k).2/\(vL ss seed k).2<=50+72*k:=by
 induction k with
 |zero=>simp[vL];omega
 |succ k ih=>
  simp only[vL];have hr:=Rh (k:=k) (seed:=seed) h.1;have:=h.getD (i:=(((k:Int)+seed)%ss.length).toNat) (by omega);omega
theorem Ow{ss:List Int}(h0:1<=ss.length)(h1:ss.length<=4):(∃a,ss=[a])\/(∃a b,ss=[a,b])\/(∃a b c,ss=[a,b,c])\/(∃a b c d,ss=[a,b,c,d]):=by
 match ss,h0,h1 with
 | [a],_,_=>simp_all
 | [a,b],_,_=>simp_all
 | [a,b,c],_,_=>simp_all
 | [a,b,c,d],_,_=>simp_all
theorem AQ{P:Nat->Prop}(h0:P 0):∀i,i<1->P i:=by
 simp_all
theorem Ez{P:Nat->Prop}(h0:P 0)(h1:P 1):∀i,i<2->P i:=by
 grind
theorem KH{P:Nat->Prop}(h0:P 0)(h1:P 1)(h2:P 2):∀i,i<3->P i:=by
 grind
theorem P7{P:Nat->Prop}(h0:P 0)(h1:P 1)(h2:P 2)(h3:P 3):∀i,i<4->P i:=by
 grind
def Pw(b s:Int):Prop:=0<=b/\b+s<=512
def g8(b s b' s':Int):Prop:=¬(b<=b'+s'/\b'<=b+s)
theorem LV1{a x:Int}(hv:VS [a])(h:Pw x a):LV [x] [a]:=
 ⟨hv,rfl,AQ ⟨h.1,h.2,λk hk=>by omega⟩⟩
theorem LV2{a b x y:Int}(hv:VS [a,b])(h:Pw x a)(h':Pw y b)(h1:g8 y b x a):LV [x,y] [a,b]:=
 ⟨hv,rfl,Ez ⟨h.1,h.2,λk hk=>by omega⟩ ⟨h'.1,h'.2,AQ h1⟩⟩
theorem LV3{a b c x y z:Int}(hv:VS [a,b,c])(h:Pw x a)(h':Pw y b)(h'':Pw z c)(h1:g8 y b x a)(h2:g8 z c x a)(h3:g8 z c y b):LV [x,y,z] [a,b,c]:=
 ⟨hv,rfl,KH ⟨h.1,h.2,λk hk=>by omega⟩ ⟨h'.1,h'.2,AQ h1⟩ ⟨h''.1,h''.2,Ez h2 h3⟩⟩
theorem LV4{a b c d x y z u:Int}(hv:VS [a,b,c,d])(h:Pw x a)(h':Pw y b)(h'':Pw z c)(h''':Pw u d)(h1:g8 y b x a)(h2:g8 z c x a)(h3:g8 z c y b)(h4:g8 u d x a)(h5:g8 u d y b)(h6:g8 u d z c):LV [x,y,z,u] [a,b,c,d]:=
 ⟨hv,rfl,P7 ⟨h.1,h.2,λk hk=>by omega⟩ ⟨h'.1,h'.2,AQ h1⟩ ⟨h''.1,h''.2,Ez h2 h3⟩ ⟨h'''.1,h'''.2,KH h4 h5 h6⟩⟩
theorem Ry{ss:List Int}(hv:VS ss){seed:Int}(hs:0<=seed):LV (mkB ss seed) ss:=by
 have Yp:=hv
 rcases Ow hv.1 hv.2.1 with⟨a,rfl⟩|⟨a,b,rfl⟩|⟨a,b,c,rfl⟩|⟨a,b,c,d,rfl⟩
 ·obtain⟨_,_,hx⟩:=hv;have ha:=hx a (by simp)
  have e0:(((0:Nat):Int)+seed)%1=0:=by omega
  have hB:mkB [a] seed=[1+seed/1%50]:=by simp[mkB,vL,List.replicate]
  rw[hB];exact LV1 Yp ⟨by omega,by omega⟩
 ·obtain⟨_,_,hx⟩:=hv;have ha:=hx a (by simp);have hb:=hx b (by simp)
  rcases(show seed%2=0\/seed%2=1 by omega)with ht|ht
  ·have e1:(1+seed)%2=1:=by omega
   simp only[mkB,vL,oLC,List.length_nil,List.replicate];simp[ht,e1];exact LV2 Yp ⟨by omega,by omega⟩ ⟨by omega,by omega⟩ (by unfold g8;omega)
  ·have e1:(1+seed)%2=0:=by omega
   simp only[mkB,vL,oLC,List.length_nil,List.replicate];simp[ht,e1];exact LV2 Yp ⟨by omega,by omega⟩ ⟨by omega,by omega⟩ (by unfold g8;omega)
 ·obtain⟨_,_,hx⟩:=hv;have ha:=hx a (by simp);have hb:=hx b (by simp);have hc:=hx c (by simp)
  rcases(show seed%3=0\/seed%3=1\/seed%3=2 by omega)with ht|ht|ht
  ·have e1:(1+seed)%3=1:=by omega
   have e2:(2+seed)%3=2:=by omega
   simp only[mkB,vL,oLC,List.length_nil,List.replicate];simp[ht,e1,e2];exact LV3 Yp ⟨by omega,by omega⟩ ⟨by omega,by omega⟩ ⟨by omega,by omega⟩ (by unfold g8;omega) (by unfold g8;omega) (by unfold g8;omega)
  ·have e1:(1+seed)%3=2:=by omega
   have e2:(2+seed)%3=0:=by omega
   simp only[mkB,vL,oLC,List.length_nil,List.replicate];simp[ht,e1,e2];exact LV3 Yp ⟨by omega,by omega⟩ ⟨by omega,by omega⟩ ⟨by omega,by omega⟩ (by unfold g8;omega) (by unfold g8;omega) (by unfold g8;omega)
  ·have e1:(1+seed)%3=0:=by omega
   have e2:(2+seed)%3=1:=by omega
   simp only[mkB,vL,oLC,List.length_nil,List.replicate];simp[ht,e1,e2];exact LV3 Yp ⟨by omega,by omega⟩ ⟨by omega,by omega⟩ ⟨by omega,by omega⟩ (by unfold g8;omega) (by unfold g8;omega) (by unfold g8;omega)
 ·obtain⟨_,_,hx⟩:=hv;have ha:=hx a (by simp);have hb:=hx b (by simp);have hc:=hx c (by simp);have hd:=hx d (by simp)
  have hq:∀q g:Int,q=1+seed/4%50->g=seed/(50*4)%40->1<=q/\q<=50/\0<=g/\g<40:=λq g e e'=>by subst e;subst e';omega
  rcases(show seed%4=0\/seed%4=1\/seed%4=2\/seed%4=3 by omega)with ht|ht|ht|ht
  ·have e1:(1+seed)%4=1:=by omega
   have e2:(2+seed)%4=2:=by omega
   have e3:(3+seed)%4=3:=by omega
   simp only[mkB,vL,oLC,List.length_nil,List.replicate];simp[ht,e1,e2,e3];exact LV4 Yp ⟨by omega,by omega⟩ ⟨by omega,by omega⟩ ⟨by omega,by omega⟩ ⟨by omega,by omega⟩ (by unfold g8;omega) (by unfold g8;omega) (by unfold g8;omega) (by unfold g8;omega) (by unfold g8;omega) (by unfold g8;omega)
  ·have e1:(1+seed)%4=2:=by omega
   have e2:(2+seed)%4=3:=by omega
   have e3:(3+seed)%4=0:=by omega
   simp only[mkB,vL,oLC,List.length_nil,List.replicate];simp[ht,e1,e2,e3];exact LV4 Yp ⟨by omega,by omega⟩ ⟨by omega,by omega⟩ ⟨by omega,by omega⟩ ⟨by omega,by omega⟩ (by unfold g8;omega) (by unfold g8;omega) (by unfold g8;omega) (by unfold g8;omega) (by unfold g8;omega) (by unfold g8;omega)
  ·have e1:(1+seed)%4=3:=by omega
   have e2:(2+seed)%4=0:=by omega
   have e3:(3+seed)%4=1:=by omega
   simp only[mkB,vL,oLC,List.length_nil,List.replicate];simp[ht,e1,e2,e3];exact LV4 Yp ⟨by omega,by omega⟩ ⟨by omega,by omega⟩ ⟨by omega,by omega⟩ ⟨by omega,by omega⟩ (by unfold g8;omega) (by unfold g8;omega) (by unfold g8;omega) (by unfold g8;omega) (by unfold g8;omega) (by unfold g8;omega)
  ·have e1:(1+seed)%4=0:=by omega
   have e2:(2+seed)%4=1:=by omega
   have e3:(3+seed)%4=2:=by omega
   simp only[mkB,vL,oLC,List.length_nil,List.replicate];simp[ht,e1,e2,e3];exact LV4 Yp ⟨by omega,by omega⟩ ⟨by omega,by omega⟩ ⟨by omega,by omega⟩ ⟨by omega,by omega⟩ (by unfold g8;omega) (by unfold g8;omega) (by unfold g8;omega) (by unfold g8;omega) (by unfold g8;omega) (by unfold g8;omega)
theorem Mc{α:Type}(l:List α)(i:Nat)(a:α):List.modify l i (λ_=>a)=l.set i a:=by
 apply List.ext_getElem?
 grind
theorem Om{s:List Int}{seed:Int}(hs:zi s)(h0:0<=seed)(h1:seed<=1073741824):Ok (lz s seed) λr=>∃key,r=(mkB s seed,key,0,())/\W16 key:=by
 obtain⟨hs1,XA,hsz⟩:=id hs;unfold lz;delta dS
 try dsimp only
 refine Ok.bind (P:=λr=>r=(s,seed,false,(),0,())) ?_ ?_
 ·refine(IR (by omega)).bind ?_;rintro⟨v,_⟩ hv;have hv:v=true:=hv.2 hs;subst hv;simp only[oNT,oCF]
  (with_reducible refine dO (λZ3=>?_) λZ3=>?_)
  ·omega
  ·exact Ok.ret (by rw[oDF (by omega)])
 rintro _ rfl;dsimp only;refine Ok.cond (λh=>by cases h) λ_=>?_;rw[dT];simp only[oBS];refine dP (by unfold ug;rw[oBA];exact⟨oDT rfl,oDT (by omega)⟩) ?_;refine dP (by rw[bne_iff_ne];omega) ?_;have YB:Int.tdiv seed s.length=seed/s.length:=Int.tdiv_eq_ediv_of_nonneg h0;have hq:0<=seed/(s.length:Int)/\seed/(s.length:Int)<=seed:=⟨Int.ediv_nonneg h0 (by omega),Int.ediv_le_self _ h0⟩;have hm1:Int.tmod (seed/(s.length:Int)) 50=seed/(s.length:Int)%50:=Int.tmod_eq_emod_of_nonneg hq.1;rw[YB,dX (x:=seed/(s.length:Int)) (by omega) (by omega),hm1,dX (x:=1+seed/(s.length:Int)%50) (by omega) (by omega)]
 have X7:W16 (wk .u16 (w64 (40503*seed))):=by
  unfold wk;rw[wT];exact⟨by omega,by omega⟩
 generalize wk .u16 (w64 (40503*seed))=key at X7
 refine Ok.loop (P:=λs'=>∃k:Nat,s'=(s,seed,(s.length:Int),(vL s seed k).2,(s.length:Int),(k:Int),(),0,(vL s seed k).1,key,())/\k<=s.length) (R:=λr=>∃a b c d e f g h,r=(a,b,c,d,e,f,g,(),h,(vL s seed s.length).1,key,()))
  (m:=λs'=>(s'.2.2.2.2.1-s'.2.2.2.2.2.1).toNat) ⟨0,rfl,by omega⟩ (by unfold NN;dsimp only;omega) ?_ ?_
 ·rintro _ ⟨k,rfl,hk⟩;unfold t7;dsimp only;have hb:=Sy hs h0 k
  (with_reducible refine dO (λhcc=>?_) λhcc=>?_)
  ·have hr:=Rh (k:=k) (seed:=seed) hs1;rw[dX (x:=(k:Int)+seed) (by omega) (by omega)];refine dP (by rw[bne_iff_ne];omega) ?_;rw[Int.tmod_eq_emod_of_nonneg (show 0<=(k:Int)+seed by omega)];refine Ok.nat hr.1 λr VV=>?_;have hl:=Qr s seed k;refine Ok.get (by omega) λx hx=>?_;refine Ok.get (by omega) λy hy=>?_;refine Ok.nat hr.1 λr2 hrr2=>?_
   have:r2=r:=by omega
   subst this;refine Ok.get (by omega) λz hz=>?_;have Yn:=hsz z (dU hz);rw[dX (x:=z+1) (by omega) (by omega),dX (x:=50*(s.length:Int)) (by omega) (by omega)];refine dP (by rw[bne_iff_ne];omega) ?_;have hd2:Int.tdiv seed (50*(s.length:Int))=seed/(50*s.length):=Int.tdiv_eq_ediv_of_nonneg h0;have Yv:0<=seed/(50*(s.length:Int))/\seed/(50*(s.length:Int))<=seed:=⟨Int.ediv_nonneg h0 (by omega),Int.ediv_le_self _ h0⟩;have VO:Int.tmod (seed/(50*(s.length:Int))) 40=seed/(50*s.length)%40:=Int.tmod_eq_emod_of_nonneg Yv.1;rw[hd2,dX (x:=seed/(50*(s.length:Int))) (by omega) (by omega),VO];generalize hg:seed/(50*(s.length:Int))%40=g
   have ZF:0<=g/\g<40:=by omega
   rw[dX (x:=z+1+g) (by omega) (by omega),dX (x:=(vL s seed k).2+(z+1+g)) (by omega) (by omega),dX (x:=(k:Int)+1) (by omega) (by omega),Mc]
   have e1:(vL s seed (k+1)).1=(vL s seed k).1.set r2 (vL s seed k).2:=by
    simp only[vL];rw[VV];rfl
   have e2:(vL s seed (k+1)).2=(vL s seed k).2+(z+1+g):=by
    simp only[vL];rw[VV,hg,oTN,oGD,hz];rfl
   refine Ok.ret ⟨⟨k+1,?_,by omega⟩,by dsimp only;omega⟩;rw[e1,e2];rfl
  ·have:k=s.length:=by omega
   subst this;exact Ok.ret ⟨_,_,_,_,_,_,_,_,rfl⟩
 ·rintro _ ⟨a,b,c,d,e,f,g,h,rfl⟩;exact Ok.ret ⟨key,rfl,X7⟩
theorem mC{S T:Type}{f:S->Option (S⊕T)}(st:Nat->S){n N:Nat}{t:T}(hn:n<N)(h:∀i,i<n->Ok (f (st i)) (·=.inl (st (i+1))))(he:Ok (f (st n)) (·=.inr t)):dY f N (st 0)=some t:=by
 have key:∀k i,i+k=n->∀N,k<N->dY f N (st i)=some t:=by
  intro k
  induction k with
  |zero=>
   intro i hi N hN;obtain⟨x,e,hx⟩:=he
   have:i=n:=by omega
   subst this;obtain⟨N',rfl⟩:∃N',N=N'+1:=⟨N-1,by omega⟩;simp[dY,e,hx]
  |succ k ih=>
   intro i hi N hN;have ⟨x,e,hx⟩:=h i (by omega);obtain⟨N',rfl⟩:∃N',N=N'+1:=⟨N-1,by omega⟩;simp[dY,e,hx];exact ih (i+1) (by omega) N' (by omega)
 simp_all
theorem fc{α:Type}{o:Option α}{a:α}(h:Ok o (·=a)):o=some a:=by
 obtain⟨x,e,rfl⟩:=h;exact e
theorem ef{l:List Int}{k:Nat}{x:Int}(h:l[k]?=some x):l.getD k 0=x:=by simp_all
theorem DO{s:List Int}(h:zi s):gG s=some (true,()):=by
 have ⟨⟨v,u⟩,e,hv⟩:=IR (s:=s) (by have:=h.2.1;omega)
 simp_all
theorem u9{bs ss:List Int}{key:Int}(h:LV bs ss):gF bs key ss=some (true,()):=by
 obtain⟨hs,hl,hr⟩:=h;have h4:=hs.2.1;unfold gF;rw[DO hs];delta dS;simp only[oBS,oNT,oCF,hl,bne_self_eq_false]
 have e:dY fG NN (ss,bs,(ss.length:Int),0,bs,key,())=some (.inr (ss,bs,(ss.length:Int),(ss.length:Int),false,bs,key,())):=by
  refine mC (st:=λi=>(ss,bs,(ss.length:Int),(i:Int),bs,key,())) (n:=ss.length) (by unfold NN;omega) ?_ ?_
  ·intro i hi;unfold fG;dsimp only;have hri:=hr i (by omega);unfold qc at hri
   (with_reducible refine dO (λZ'=>?_) λZ'=>?_)
   ·rw[dT];simp only[oBS];refine Ok.get (by omega) λb hb=>?_;rw[ef hb]at hri
    (with_reducible refine dO (λZ3=>?_) λZ3=>?_)
    ·omega
    ·refine Ok.get (by omega) λz hz=>?_;rw[ef hz]at hri;have Yn:=hs.2.2 z (dU hz)
     (simp (disch:=omega) only [dX,eE,ej,ee])
     (with_reducible refine dO (λhcc=>?_) λhcc=>?_)
     ·omega
     ·refine dP (by unfold iz;simp;omega) ?_
      have Q':(lF bs 0 (Nat.sub i 0)).length=i:=by unfold lF;rw[oLT,List.drop_zero];show min i _=i;omega
      rw[Q']
      have e:dY fH NN (ss,(i:Int),b,bs,(ss.length:Int),(i:Int),lF bs 0 (Nat.sub i 0),(i:Int),0,bs,key,())=some (.inr (ss,(i:Int),b,bs,(ss.length:Int),(i:Int),lF bs 0 (Nat.sub i 0),(i:Int),(i:Int),false,bs,key,())):=by
       refine mC (st:=λj=>(ss,(i:Int),b,bs,(ss.length:Int),(i:Int),lF bs 0 (Nat.sub i 0),(i:Int),(j:Int),bs,key,())) (n:=i) (by unfold NN;omega) ?_ ?_
       ·intro j hj;unfold fH;dsimp only
        (with_reducible refine dO (λZ'=>?_) λZ'=>?_)
        ·rw[dT,dT];simp only[oBS]
         have hx:(dR (lF bs 0 (Nat.sub i 0)) j)=bs[j]?:=by
          unfold dR lF;rw[List.getElem?_take,List.drop_zero];exact oIP hj
         rw[hx];obtain⟨c,hc⟩:∃c,bs[j]?=some c:=⟨_,oGE (by omega)⟩;obtain⟨y,hy⟩:∃y,ss[j]?=some y:=⟨_,oGE (by omega)⟩;have Xo:=hs.2.2 y (dU hy);have XJ:dR ss i=some z:=hz;have WM:dR ss j=some y:=hy;rw[hc,XJ,WM];simp only[oBS];have hrj:=(hr j (by omega)).1;have hrj2:=(hr j (by omega)).2.1;rw[ef hc]at hrj hrj2;rw[ef hy]at hrj2;have V4:=hri.2.2 j hj;rw[ef hc,ef hy]at V4;rw[dX (x:=b+z) (by omega) (by omega),dX (x:=c+y) (by omega) (by omega)];by_cases h1:b+z>=c
         ·have h2:¬c+y>=b:=by omega
          simp only[h1,h2,decide_true,decide_false,oCT,oCF]
          (simp (disch:=omega) only [dX,eE,ej,ee])
          exact Ok.ret rfl
         ·simp only[h1,decide_false,oCF]
          (simp (disch:=omega) only [dX,eE,ej,ee])
          exact Ok.ret rfl
        ·omega
       ·unfold fH;dsimp only
        (with_reducible refine dO (λZ'=>?_) λZ'=>?_)
        ·omega
        ·exact Ok.ret rfl
      rw[e]
      (simp (disch:=omega) only [dX,eE,ej,ee])
      exact Ok.ret rfl
   ·omega
  ·unfold fG;dsimp only
   (with_reducible refine dO (λZ'=>?_) λZ'=>?_)
   ·omega
   ·exact Ok.ret rfl
 rw[e]
theorem OI{n m o a b c i:Int}(h:jx n m (o,a,b,c,i))(hn:n<=4)(hm:m<=64):oB o a b c i=some (true,()):=by
 obtain⟨⟨o0,o1⟩,⟨a0,a1,a2⟩,⟨b0,b1,b2⟩,⟨c0,c1,c2⟩,⟨i0,i1,i2⟩,hl,hs,hj⟩:=h;dsimp only at *
 have Ys:∀(k:Nat)(x:Int)(u:Bool),k<3->[a,b,c][k]?=some x->(k=0->u=rm o)->(k=1->u=rY o)->(k=2->u=rk o)->0<=x->x<8->(u=false->x=0)->
  Ok (lh (3,(k:Int),o,a,b,c,i,rm o,rY o,rk o,rj o,[a,b,c],())) (·=.inl (3,((k+1:Nat):Int),o,a,b,c,i,rm o,rY o,rk o,rj o,[a,b,c],())):=by
  intro k x u hk hx h0 h1 h2 hx0 Z0 Yq;unfold lh;dsimp only
  (with_reducible refine dO (λZ'=>?_) λZ'=>?_)
  ·rw[dT];simp only[oBS];rw[show dR [a,b,c] k=some x from hx];simp only[oBS];rw[oDF (show ¬x<0 by omega),oDF (show ¬x>=8 by omega)];simp only[oCF];have ZZ:Ok (some ((3:Int),(k:Int),false,o,a,b,c,i,rm o,rY o,rk o,rj o,[a,b,c],())) (·=((3:Int),(k:Int),false,o,a,b,c,i,rm o,rY o,rk o,rj o,[a,b,c],())):=Ok.ret rfl
   have fin2:u=false->(x != 0)=false:=λh=>by rw[Yq h];rfl
   refine Ok.bind (P:=(·=((3:Int),(k:Int),false,o,a,b,c,i,rm o,rY o,rk o,rj o,[a,b,c],()))) ?_ ?_
   ·rcases(show k=0\/k=1\/k=2 by omega)with rfl|rfl|rfl
    ·rw[<- h0 rfl]at ZZ⊢;refine dP rfl ?_;refine Ok.cond (λhu=>?_) λ_=>ZZ;rw[fin2 (by simpa using hu)];exact ZZ
    ·rw[<- h1 rfl]at ZZ⊢;refine Ok.cond (λhu=>by cases hu) λ_=>dP rfl (Ok.cond (λhu=>?_) λ_=>ZZ);rw[fin2 (by simpa using hu)];exact ZZ
    ·rw[<- h2 rfl]at ZZ⊢;refine Ok.cond (λhu=>by cases hu) λ_=>Ok.cond (λhu=>by cases hu) λ_=>dP rfl (Ok.cond (λhu=>?_) λ_=>ZZ);rw[fin2 (by simpa using hu)];exact ZZ
   ·rintro _ rfl;dsimp only;rw[dX (x:=(k:Int)+1) (by omega) (by omega)];exact Ok.ret rfl
  ·omega
 have e:dY lh NN (3,0,o,a,b,c,i,rm o,rY o,rk o,rj o,[a,b,c],())=some (.inr (3,3,false,o,a,b,c,i,rm o,rY o,rk o,rj o,[a,b,c],())):=by
  refine mC (st:=λk=>(3,(k:Int),o,a,b,c,i,rm o,rY o,rk o,rj o,[a,b,c],())) (n:=3) (by unfold NN;omega) ?_ ?_
  ·intro k hk
   rcases(show k=0\/k=1\/k=2 by omega)with rfl|rfl|rfl
   ·exact Ys 0 a _ (by omega) rfl (λ_=>rfl) (by omega) (by omega) a0 a1 a2
   ·exact Ys 1 b _ (by omega) rfl (by omega) (λ_=>rfl) (by omega) b0 b1 b2
   ·exact Ys 2 c _ (by omega) rfl (by omega) (by omega) (λ_=>rfl) c0 c1 c2
  ·exact Ok.ret rfl
 refine fc ?_;unfold oB;rw[oDF (show ¬o<0 by omega),oDF (show ¬o>24 by omega),IS o0 o1];simp only[oCF,oBS];rw[show dS [a,b,c].length=3 from rfl,e];dsimp only;rw[oDF (show ¬i<0 by omega),oDF (show ¬i>65535 by omega)];simp only[oCF];refine Ok.bind (P:=(·=(false,o,a,b,c,i,()))) ?_ ?_
 ·refine Ok.cond (λhu=>?_) λ_=>Ok.ret rfl;exact Ok.ret (by rw[i2 (by simpa using hu)];rfl)
 rintro _ rfl;dsimp only;rw[wF];simp only[oCF,oBS];refine Ok.cond (λhu=>?_) λ_=>?_
 ·exact Ok.ret (by rw[oDT (by have:=hj hu;omega)])
 ·(with_reducible refine dO (λhcc=>?_) λhcc=>?_)
  ·exact Ok.ret (by rw[oDT (by have:=hl hcc;omega)])
  ·(with_reducible refine dO (λXr=>?_) λXr=>?_)
   ·exact Ok.ret (by rw[oDT (by have:=hs Xr;omega)])
   ·exact Ok.ret rfl
theorem A5{code:List DIn}{s:List Int}{d:List (List Int)}(h:kV code s d):i7 code s d=some (0,()):=by
 have hs:=h.sz;have XA:=hs.2.1;have hc:=h.clen;have hl:=h.len
 have e0:dY lf NN (d,(d.length:Int),0,code,s,d,())=some (.inr (d,(d.length:Int),(d.length:Int),false,code,s,d,())):=by
  refine mC (st:=λk=>(d,(d.length:Int),(k:Int),code,s,d,())) (n:=d.length) (by unfold NN;omega) ?_ ?_
  ·intro k hk;unfold lf;dsimp only
   (with_reducible refine dO (λZ'=>?_) λZ'=>?_)
   ·rw[dT];delta dS;simp only[oBS];refine Ok.get (by omega) λx hx=>?_;refine Ok.get (by omega) λy hy=>?_;have:=h.fit k x y hx hy
    (with_reducible refine dO (λZ3=>?_) λZ3=>?_)
    ·omega
    ·(simp (disch:=omega) only [dX,eE,ej,ee])
     exact Ok.ret rfl
   ·omega
  ·unfold lf;dsimp only
   (with_reducible refine dO (λZ'=>?_) λZ'=>?_)
   ·omega
   ·exact Ok.ret rfl
 have e1:dY ld NN (code,(code.length:Int),0,code,s,d,())=some (.inr (code,(code.length:Int),(code.length:Int),false,code,s,d,())):=by
  refine mC (st:=λk=>(code,(code.length:Int),(k:Int),code,s,d,())) (n:=code.length) (by unfold NN;omega) ?_ ?_
  ·intro k hk;unfold ld;dsimp only
   (with_reducible refine dO (λZ'=>?_) λZ'=>?_)
   ·rw[dT];simp only[oBS];refine Ok.get (by omega) λx hx=>?_;obtain⟨o,a,b,c,i⟩:=x;rw[OI (h.ins _ (dU hx)) (by omega) (by omega)]
    (simp (disch:=omega) only [dX,eE,ej,ee])
    exact Ok.ret rfl
   ·omega
  ·unfold ld;dsimp only
   (with_reducible refine dO (λZ'=>?_) λZ'=>?_)
   ·omega
   ·exact Ok.ret rfl
 have e3:dY lc NN (code,(code.length:Int),0,code,s,d,())=some (.inr (code,(code.length:Int),(code.length:Int),false,code,s,d,())):=by
  refine mC (st:=λk=>(code,(code.length:Int),(k:Int),code,s,d,())) (n:=code.length) (by unfold NN;omega) ?_ ?_
  ·intro k hk;unfold lc;dsimp only
   (with_reducible refine dO (λZ'=>?_) λZ'=>?_)
   ·rw[dT];simp only[oBS];refine Ok.get (by omega) λx hx=>?_;have hp:=h.ins x (dU hx);rw[wF];simp only[oBS];refine Ok.bind (P:=(·=(code,(code.length:Int),(k:Int),false,code,s,d,()))) ?_ ?_
    ·refine Ok.cond (λhj=>?_) λ_=>?_
     ·have:=hp.jmp hj
      (with_reducible refine dO (λZ3=>?_) λZ3=>?_)
      ·have Z3:x.2.2.2.2>=(code.length:Int):=Z3;omega
      ·(with_reducible refine dO (λhcc=>?_) λhcc=>?_)
       ·exact Ok.ret (by rw[oDF (show ¬x.2.2.2.2>=dS s.length by rw[ee];have:=hp.lea hcc;omega)])
       ·exact Ok.ret rfl
     ·(with_reducible refine dO (λhcc=>?_) λhcc=>?_)
      ·exact Ok.ret (by rw[oDF (show ¬x.2.2.2.2>=dS s.length by rw[ee];have:=hp.lea hcc;omega)])
      ·exact Ok.ret rfl
    ·rintro _ rfl;dsimp only;simp only[oCF]
     (simp (disch:=omega) only [dX,eE,ej,ee])
     exact Ok.ret rfl
   ·omega
  ·unfold lc;dsimp only
   (with_reducible refine dO (λZ'=>?_) λZ'=>?_)
   ·omega
   ·exact Ok.ret rfl
 refine fc ?_;unfold i7;rw[DO hs];delta dS;simp only[oBS,oNT,oCF,hl,bne_self_eq_false];rw[hl]at e0;rw[e0];dsimp only
 (with_reducible refine dO (λZ'=>?_) λZ'=>?_)
 ·omega
 ·(with_reducible refine dO (λZ3=>?_) λZ3=>?_)
  ·omega
  ·rw[e1];dsimp only;rw[e3];exact Ok.ret rfl
def RK(bs ss:List Int)(a:Int):Prop:=∃(j:Nat)(b z:Int),bs[j]?=some b/\ss[j]?=some z/\b<=a/\a<b+z
def pL(K:Int->Prop)(c:DCe):Prop:=0<=c.1/\c.1<=2/\0<=c.2/\c.2<=65535/\(c.1=1->K c.2)
theorem pL.mono{K K':Int->Prop}{c:DCe}(h:pL K c)(hk:∀a,K a->K' a):pL K' c:=⟨h.1,h.2.1,h.2.2.1,h.2.2.2.1,λe=>hk _ (h.2.2.2.2 e)⟩
theorem nN{K:Int->Prop}{v:Int}(h:0<=v/\v<=65535):pL K (0,v):=⟨by omega,by omega,h.1,h.2,λe=>absurd (show(0:Int)=1 from e) (by decide)⟩
def Uh(K:Int->Prop)(i:Nat)(x:DLn):Prop:=(x.1=-1/\x.2.1=false/\x.2.2=[])\/(0<=x.1/\x.1<128/\x.1%4=i/\x.2.2.length=4/\∀c∈x.2.2,pL K c)
def Uu(cs:List DCe)(x:DLn):Prop:=x.1=-1\/x.2.1=true\/∀o:Nat,o<4->cs[(x.1*4).toNat+o]?=x.2.2[o]?
structure kW (K:Int->Prop)(cs:List DCe)(ls:List DLn):Prop where
 clen:cs.length=512
 cells:∀c∈cs,pL K c
 llen:ls.length=4
 lines:∀(i:Nat) x,ls[i]?=some x->Uh K i x
 coh:∀(i:Nat) x,ls[i]?=some x->Uu cs x
structure CG (K:Int->Prop)(n:Int)(t:DTh):Prop where
 state:0<=t.1/\t.1<=4
 len:t.2.1.length=8
 regs:∀c∈t.2.1,pL K c
 pc:0<=t.2.2.1/\t.2.2.1<=255
 count:0<=t.2.2.2.1/\t.2.2.2.1<=n
 handler:-1<=t.2.2.2.2.1/\t.2.2.2.2.1<=255
 saved:-1<=t.2.2.2.2.2.1/\t.2.2.2.2.2.1<=255
 trap:0<=t.2.2.2.2.2.2.1/\t.2.2.2.2.2.2.1<=6
 code:W16 t.2.2.2.2.2.2.2
structure MOk (n:Int)(ss bs:List Int)(cs:List DCe)(ls:List DLn)(ts:List DTh):Prop where
 lay:LV bs ss
 mem:kW (RK bs ss) cs ls
 tlen:ts.length=4
 thr:∀t∈ts,CG (RK bs ss) n t
theorem Ln{K:Int->Prop}{l:List DCe}(hl:l.length<=1000)(h:∀c∈l,pL K c):pi l=some (true,()):=by
 have e:dY nj NN (l,(l.length:Int),0,())=some (.inr (l,(l.length:Int),(l.length:Int),false,())):=by
  refine mC (st:=λk=>(l,(l.length:Int),(k:Int),())) (n:=l.length) (by unfold NN;omega) ?_ ?_
  ·intro k hk;unfold nj
   (with_reducible refine dO (λZ'=>?_) λZ'=>?_)
   ·rw[dT];refine Ok.get (by omega) λx hx=>?_;have:=h x (dU hx);unfold ma;rw[oDT (show x.1<=2 from this.2.1)]
    (simp (disch:=omega) only [dX,eE,ej,ee])
    exact Ok.ret rfl
   ·omega
  ·unfold nj
   (with_reducible refine dO (λZ'=>?_) λZ'=>?_)
   ·omega
   ·exact Ok.ret rfl
 refine fc ?_;unfold pi;delta dS
 try dsimp only
 rw[e];exact Ok.ret rfl
theorem Ly{K:Int->Prop}{cs:List DCe}{ls:List DLn}(h:kW K cs ls):oC cs ls=some (true,()):=by
 obtain⟨h1,h2,h3,h4,_⟩:=h
 have e:dY li NN (ls,4,0,cs,ls,())=some (.inr (ls,4,4,false,cs,ls,())):=by
  refine mC (st:=λk=>(ls,4,(k:Int),cs,ls,())) (n:=4) (by unfold NN;omega) ?_ ?_
  ·intro k hk;unfold li;dsimp only
   (with_reducible refine dO (λZ'=>?_) λZ'=>?_)
   ·rw[dT];simp only[oBS];refine Ok.get (by omega) λx hx=>?_
    rcases h4 k x hx with⟨e1,e2,e3⟩|⟨g1,g2,g3,g4,g5⟩
    ·rw[e1,e2,e3]
     (simp (disch:=omega) only [dX,eE,ej,ee])
     exact Ok.ret rfl
    ·rw[show(x.1==-1)=false by rw[beq_eq_false_iff_ne];omega,oDF (show ¬x.1<0 by omega),oDF (show ¬x.1>=128 by omega),Int.tmod_eq_emod_of_nonneg g1,g3,g4,Ln (by omega) g5];simp;refine Ok.bind (P:=(·=(ls,4,(k:Int),false,cs,ls,()))) ?_ ?_
     ·refine Ok.cond (λh=>by cases h) λ_=>Ok.ret rfl
     ·rintro _ rfl;dsimp only;simp only[oCF]
      (simp (disch:=omega) only [dX,eE,ej,ee])
      exact Ok.ret rfl
   ·omega
  ·unfold li;exact Ok.ret rfl
 refine fc ?_;unfold oC;delta dS;simp only[h1,h3,Ln (show cs.length<=1000 by omega) h2,oBS,oNT];refine Ok.bind (P:=(·=(false,cs,ls,()))) ?_ ?_
 ·exact Ok.ret rfl
 ·rintro _ rfl;dsimp only;simp only[oCF];rw[h3,show((4:Nat):Int)=4 from rfl,e];exact Ok.ret rfl
theorem Lx{K:Int->Prop}{t:DTh}(h:CG K 1099511627776 t):oy t.1 t.2.1 t.2.2.1 t.2.2.2.1 t.2.2.2.2.1 t.2.2.2.2.2.1 t.2.2.2.2.2.2.1 t.2.2.2.2.2.2.2=some (true,()):=by
 obtain⟨⟨a1,a2⟩,hl,hr,⟨b1,b2⟩,⟨c1,c2⟩,⟨d1,d2⟩,⟨e1,e2⟩,⟨f1,f2⟩,_⟩:=h;obtain⟨s,rs,pc,ct,ha,sa,tr,co⟩:=t;dsimp only at *
 have e:dY la NN (rs,(rs.length:Int),0,s,rs,pc,ct,ha,sa,tr,co,())=some (.inr (rs,(rs.length:Int),(rs.length:Int),false,s,rs,pc,ct,ha,sa,tr,co,())):=by
  refine mC (st:=λk=>(rs,(rs.length:Int),(k:Int),s,rs,pc,ct,ha,sa,tr,co,())) (n:=rs.length) (by unfold NN;omega) ?_ ?_
  ·intro k hk;unfold la
   (with_reducible refine dO (λZ'=>?_) λZ'=>?_)
   ·rw[dT];refine Ok.get (by omega) λx hx=>?_;have:=hr x (dU hx);unfold ma;rw[oDT (show x.1<=2 from this.2.1)]
    (simp (disch:=omega) only [dX,eE,ej,ee])
    exact Ok.ret rfl
   ·omega
  ·unfold la
   (with_reducible refine dO (λZ'=>?_) λZ'=>?_)
   ·omega
   ·exact Ok.ret rfl
 refine fc ?_;unfold oy;delta dS
 try dsimp only
 rw[e];dsimp only;rw[hl];refine dP (oDT a1) (dP (oDT a2) (dP rfl (dP (oDT b1) (dP (oDT b2) (dP (oDT c1) (dP (oDT c2) (dP (oDT d1) (dP (oDT d2) (dP (oDT e1) (dP (oDT e2) (dP (oDT f1) ?_)))))))))));exact Ok.ret (by simp_all)
theorem u7{code:List DIn}{ss bs:List Int}{d:List (List Int)}{n key:Int}{cs:List DCe}{ls:List DLn}{ts:List DTh}(hp:kV code ss d)(h:MOk n ss bs cs ls ts)(hn:n<=1099511627776):ia code ss d bs key cs ls ts=some (true,()):=by
 have ⟨h1,h2,h3,h4⟩:=h
 have e:dY nZ NN (ts,4,0,bs,key,cs,ls,ts,())=some (.inr (ts,4,4,false,bs,key,cs,ls,ts,())):=by
  refine mC (st:=λk=>(ts,4,(k:Int),bs,key,cs,ls,ts,())) (n:=4) (by unfold NN;omega) ?_ ?_
  ·intro k hk;unfold nZ
   (with_reducible refine dO (λZ'=>?_) λZ'=>?_)
   ·rw[dT];refine Ok.get (by omega) λx hx=>?_;have ht:=h4 x (dU hx);rw[Lx ⟨ht.state,ht.len,ht.regs,ht.pc,⟨ht.count.1,by have:=ht.count.2;omega⟩,ht.handler,ht.saved,ht.trap,ht.code⟩]
    (simp (disch:=omega) only [dX,eE,ej,ee])
    exact Ok.ret rfl
   ·omega
  ·exact Ok.ret rfl
 refine fc ?_;unfold ia;rw[A5 hp,u9 h1,Ly h2];delta dS;simp only[oBS,oNT,oCF,bne_self_eq_false,h3];rw[show((4:Nat):Int)=4 from rfl,e];exact Ok.ret rfl
def eH:List DLn:=[(-1,false,[]),(-1,false,[]),(-1,false,[]),(-1,false,[])]
theorem K8:oD=some (eH,()):=by kernel_rfl
theorem Iu{K:Int->Prop}{cs:List DCe}(h:cs.length=512)(hc:∀c∈cs,pL K c):kW K cs eH:=by
 have key:∀(i:Nat) x,eH[i]?=some x->x=(-1,false,[]):=λi x hx=>by
  have:=dU hx;simp[eH]at this;exact this
 exact⟨h,hc,rfl,λi x hx=>by rw[key i x hx];exact .inl ⟨rfl,rfl,rfl⟩,λi x hx=>by rw[key i x hx];exact .inl rfl⟩
theorem kg{α:Type}{P:α->Prop}{l:List α}{i:Nat}{f:α->α}(h:∀x∈l,P x)(hf:∀x,P x->P (f x)):∀x∈List.modify l i f,P x:=by
 intro x hx;have ⟨j,hj⟩:=List.getElem?_of_mem hx
 grind
theorem SC{code:List DIn}{ss bs:List Int}{d:List (List Int)}{key:Int}(hp:kV code ss d)(hl:LV bs ss):Ok (qp code ss d bs key) λr=>∃cs,r=(cs,eH,0,())/\cs.length=512/\∀c∈cs,pL (λ_=>False) c:=by
 unfold qp;rw[u9 hl,K8];delta dS;simp only[oBS,oNT,oCF,hp.len,bne_self_eq_false];refine dP (by decide) ?_
 obtain⟨t,e,ht⟩:=gI (f:=pj) (n:=NN) (s:=(d,(ss.length:Int),0,code,ss,d,bs,key,(),(),List.replicate 512 (0,0),eH,()))
  (P:=λs'=>∃k:Nat,∃cs,s'=(d,(ss.length:Int),(k:Int),code,ss,d,bs,key,(),(),cs,eH,())/\k<=ss.length/\cs.length=512/\∀c∈cs,pL (λ_=>False) c)
  (R:=λr=>∃a b c e cs,r=.inr (a,b,c,e,code,ss,d,bs,key,(),(),cs,eH,())/\cs.length=512/\∀c∈cs,pL (λ_=>False) c) (m:=λs'=>(s'.2.1-s'.2.2.1).toNat)
  ⟨0,_,rfl,by omega,List.length_replicate,λc hc=>by rw[List.eq_of_mem_replicate hc];exact nN (by decide)⟩ (by unfold NN;dsimp only;have:=hp.sz.2.1;omega) (by
   rintro _ ⟨k,cs,rfl,hk,ZS,ZK⟩;unfold pj;dsimp only;have hlen:=hp.len;have XA:=hp.sz.2.1
   (with_reducible refine dO (λZ'=>?_) λZ'=>?_)
   ·rw[dT];delta dS;simp only[oBS];refine Ok.get (by omega) λx hx=>?_;refine Ok.get (by omega) λy hy=>?_;have hf:=hp.fit k x y hx hy;have Xw:=hp.num x (dU hx);obtain⟨_,hbl,hr⟩:=hl;have WA:=hr k (by omega);unfold qc at WA;obtain⟨b,hb⟩:∃b,bs[k]?=some b:=⟨_,oGE (by omega)⟩;rw[ef hb,ef hy]at WA
    (with_reducible refine dO (λZ3=>?_) λZ3=>?_)
    ·omega
    ·refine Ok.loop (P:=λs'=>∃j:Nat,∃cs,s'=((k:Int),d,(ss.length:Int),(k:Int),x,(x.length:Int),(j:Int),code,ss,d,bs,key,(),(),cs,eH,())/\j<=x.length/\cs.length=512/\∀c∈cs,pL (λ_=>False) c)
      (R:=λr=>∃a b c e cs,r=(a,d,(ss.length:Int),(k:Int),b,c,e,false,code,ss,d,bs,key,(),(),cs,eH,())/\cs.length=512/\∀c∈cs,pL (λ_=>False) c) (m:=λs'=>(s'.2.2.2.2.2.1-s'.2.2.2.2.2.2.1).toNat)
      ⟨0,cs,rfl,by omega,ZS,ZK⟩ (by unfold NN;dsimp only;omega) ?_ ?_
     ·rintro _ ⟨j,cs,rfl,hj,ZS,ZK⟩;unfold t6;dsimp only
      (with_reducible refine dO (λhcc=>?_) λhcc=>?_)
      ·rw[dT,dT];simp only[oBS];refine Ok.get (by omega) λv hv=>?_;have WU:=Xw v (dU hv);rw[show dR bs k=some b from hb];simp only[oBS]
       (simp (disch:=omega) only [dX,eE,ej,ee])
       refine Ok.nat (by omega) λa ha=>?_;refine Ok.get (by omega) λc hc=>?_;refine Ok.get (by omega) λc' YN=>?_;exact Ok.ret ⟨⟨j+1,_,rfl,by omega,by rw[oLM];exact ZS,kg ZK λz hz=>⟨hz.1,hz.2.1,WU.1,WU.2,hz.2.2.2.2⟩⟩,by dsimp only;omega⟩
      ·exact Ok.ret ⟨_,_,_,_,_,rfl,ZS,ZK⟩
     ·rintro _ ⟨a,b,c,e,cs,rfl,ZS,ZK⟩;dsimp only
      (simp (disch:=omega) only [dX,eE,ej,ee])
      exact Ok.ret ⟨⟨k+1,_,rfl,by omega,ZS,ZK⟩,by dsimp only;omega⟩
   ·exact Ok.ret ⟨_,_,_,_,_,rfl,ZS,ZK⟩)
 rw[e];obtain⟨a,b,c,e,cs,rfl,ZS,ZK⟩:=ht;exact Ok.ret ⟨cs,rfl,ZS,ZK⟩
theorem Tm{K:Int->Prop}:∀c∈List.replicate 8 ((0:Int),(0:Int)),pL K c:=λc hc=>by rw[List.eq_of_mem_replicate hc];exact nN (by decide)
theorem RG{K:Int->Prop}{s:Int}(h:0<=s/\s<=4):CG K 0 (s,List.replicate 8 (0,0),0,0,-1,-1,0,0):=
 ⟨h,rfl,Tm,⟨by simp_all,by simp_all⟩,⟨by simp_all,by simp_all⟩,⟨by simp_all,by simp_all⟩,⟨by simp_all,by simp_all⟩,⟨by simp_all,by simp_all⟩,⟨by simp_all,by simp_all⟩⟩
theorem PE{code:List DIn}{ss bs:List Int}{d:List (List Int)}{key:Int}(hp:kV code ss d)(hl:LV bs ss):Ok (oA code ss d bs key) λr=>∃cs ts,r=(bs,key,cs,eH,ts,0,())/\MOk 0 ss bs cs eH ts:=by
 unfold oA;rw[A5 hp,u9 hl];refine(SC hp hl).bind ?_;rintro _ ⟨cs,rfl,ZS,ZK⟩;dsimp only;have hbl:=hl.2.1;have XA:=hp.sz.2.1;refine dP (d8 (by omega)) ?_
 refine Ok.loop (P:=λs'=>∃k:Nat,∃ts,s'=((k:Int),(),0,(),(),(),bs,key,cs,eH,ts,())/\k<=4/\ts.length=k/\∀t∈ts,CG (RK bs ss) 0 t)
  (R:=λr=>∃a b ts,r=(a,b,(),0,(),(),(),bs,key,cs,eH,ts,())/\ts.length=4/\∀t∈ts,CG (RK bs ss) 0 t) (m:=λs'=>(4-s'.1).toNat) ⟨0,[],rfl,by omega,rfl,eJ⟩ (by unfold NN;dsimp only;omega) ?_ ?_
 ·rintro _ ⟨k,ts,rfl,hk,X4,YY⟩;unfold tn;dsimp only
  (with_reducible refine dO (λZ'=>?_) λZ'=>?_)
  ·refine dP (by decide) ?_;refine Ok.bind (P:=λr=>∃s,(0<=s/\s<=4)/\r=((k:Int),(),0,(),(),(),bs,key,cs,eH,ts,s,List.replicate 8 (0,0),0,0,-1,-1,0,0,())) ?_ ?_
   ·(with_reducible refine dO (λZ3=>?_) λZ3=>?_)
    ·exact Ok.ret ⟨1,by decide,rfl⟩
    ·exact Ok.ret ⟨0,by decide,rfl⟩
   ·rintro _ ⟨s,hs,rfl⟩;dsimp only;refine dP (d8 (by simp;omega)) ?_
    (simp (disch:=omega) only [dX,eE,ej,ee])
    exact Ok.ret ⟨⟨k+1,_,rfl,by omega,by rw[fB,X4];rfl,kA YY (all_cons (RG hs) eJ)⟩,by dsimp only;omega⟩
  ·exact Ok.ret ⟨_,_,_,rfl,by omega,YY⟩
 ·rintro _ ⟨a,b,ts,rfl,X4,YY⟩;exact Ok.ret ⟨cs,ts,rfl,hl,Iu ZS λc hc=>(ZK c hc).mono λ_ h=>h.elim,X4,YY⟩
def Pr(ss:List Int)(c:DCn):Prop:=
 ((c.1=0\/c.1=2)/\c.2.2.1=0/\c.2.2.2=0/\W16 c.2.1)\/(c.1=1/\c.2.1=0/\0<=c.2.2.1/\∃n,ss[c.2.2.1.toNat]?=some n/\0<=c.2.2.2/\c.2.2.2<n)
theorem ID{ss:List Int}{c:DCn}(hs:zi ss)(h:Pr ss c):i3 c.1 c.2.1 c.2.2.1 c.2.2.2=some (true,()):=by
 refine fc ?_;unfold i3
 rcases h with⟨h1,h2,h3,_⟩|⟨h1,h2,h3,n,h4,h5,h6⟩
 ·rw[h2,h3]
  rcases h1 with h1|h1<;>rw[h1]<;>exact Ok.ret rfl
 ·have hn:=hs.2.2 n (dU h4);have hl:=(oGS h4).1;have XA:=hs.2.1;rw[h1,h2,show(c.2.2.1==-1)=false by rw[beq_eq_false_iff_ne];omega];refine Ok.cond (λh=>by cases h) λ_=>Ok.cond (λh=>by cases h) λ_=>dP rfl ?_;refine Ok.cond (λh=>by cases h) λ_=>dP rfl ?_;exact dP (oDT h3) (dP (oDT (by omega)) (dP (oDT h5) (Ok.ret (by rw[oDT (show c.2.2.2<32 by omega)]))))
theorem lC{ss:List Int}{l:List DCn}{n:Int}(hs:zi ss)(h:∀c∈l,Pr ss c)(hn:(l.length:Int)<=n)(hl:l.length<=1000):fw l n=some (true,()):=by
 have e:dY g9 NN (l,n,l,(l.length:Int),0,())=some (.inr (l,n,l,(l.length:Int),(l.length:Int),false,())):=by
  refine mC (st:=λk=>(l,n,l,(l.length:Int),(k:Int),())) (n:=l.length) (by unfold NN;omega) ?_ ?_
  ·intro k hk;unfold g9
   (with_reducible refine dO (λZ'=>?_) λZ'=>?_)
   ·rw[dT];refine Ok.get (by omega) λx hx=>?_;rw[ID hs (h x (dU hx))]
    (simp (disch:=omega) only [dX,eE,ej,ee])
    exact Ok.ret rfl
   ·omega
  ·unfold g9
   (with_reducible refine dO (λZ'=>?_) λZ'=>?_)
   ·omega
   ·exact Ok.ret rfl
 refine fc ?_;unfold fw;delta dS
 try dsimp only
 rw[e];exact Ok.ret (congrArg (λb=>(b,())) (oDT hn))
def Te(d:List (List DCn))(o:DOp):Prop:=(o.1=-1/\o.2.1=0/\o.2.2=false)\/(0<=o.1/\∃x,d[o.1.toNat]?=some x/\0<=o.2.1/\o.2.1<=x.length)
structure gd (ss:List Int)(d:List (List DCn))(os:List DOp):Prop where
 dlen:d.length<=4
 flen:∀x∈d,x.length<=64
 cells:∀x∈d,∀c∈x,Pr ss c
 olen:os.length=8
 opens:∀o∈os,Te d o
theorem DK{ss:List Int}{d:List (List DCn)}{os:List DOp}(hs:zi ss)(h:gd ss d os):lS d os=some (true,()):=by
 obtain⟨h1,h2,h3,h4,h5⟩:=h
 have e0:dY k9 NN (d,(d.length:Int),0,d,os,())=some (.inr (d,(d.length:Int),(d.length:Int),false,d,os,())):=by
  refine mC (st:=λk=>(d,(d.length:Int),(k:Int),d,os,())) (n:=d.length) (by unfold NN;omega) ?_ ?_
  ·intro k hk;unfold k9;dsimp only
   (with_reducible refine dO (λZ'=>?_) λZ'=>?_)
   ·rw[dT];simp only[oBS];refine Ok.get (by omega) λx hx=>?_;have:=h2 x (dU hx);rw[lC hs (h3 x (dU hx)) (by omega) (by omega)];simp only[oBS,oNT,oCF]
    (simp (disch:=omega) only [dX,eE,ej,ee])
    exact Ok.ret rfl
   ·omega
  ·unfold k9;dsimp only
   (with_reducible refine dO (λZ'=>?_) λZ'=>?_)
   ·omega
   ·exact Ok.ret rfl
 have e2:dY nX NN (os,8,0,d,os,())=some (.inr (os,8,8,false,d,os,())):=by
  refine mC (st:=λk=>(os,8,(k:Int),d,os,())) (n:=8) (by unfold NN;omega) ?_ ?_
  ·intro k hk;unfold nX;dsimp only
   (with_reducible refine dO (λZ'=>?_) λZ'=>?_)
   ·rw[dT];simp only[oBS];refine Ok.get (by omega) λx hx=>?_;obtain⟨f,o,w⟩:=x;refine Ok.bind (P:=(·=(os,8,(k:Int),false,d,os,f,o,w,()))) ?_ ?_
    ·rcases h5 _ (dU hx)with⟨g1,g2,g3⟩|⟨g1,y,g2,g3,g4⟩
     ·have g1:f=-1:=g1;have g2:o=0:=g2;have g3:w=false:=g3;subst g1 g2 g3;dsimp only;refine dP rfl (Ok.cond (λh=>by cases h) λ_=>Ok.cond (λh=>by cases h) λ_=>Ok.cond (λh=>by cases h) λ_=>Ok.cond (λh=>?_) λ_=>Ok.cond (λh=>by cases h) λ_=>Ok.ret rfl);have h:(-1:Int)>=(d.length:Int):=of_decide_eq_true h;omega
     ·dsimp only at g1 g2 g3 g4⊢;have hl:=(oGS g2).1;rw[show(f==-1)=false by rw[beq_eq_false_iff_ne];omega,oDF (show ¬f < -1 by omega)];simp only[oCF];refine Ok.cond (λh=>?_) λ_=>dP (oDT g1) ?_
      ·have h:f>=(d.length:Int):=of_decide_eq_true h;omega
      ·rw[oDF (show ¬o<0 by omega)];simp only[oCF];refine Ok.nat g1 λj hj=>?_;refine Ok.get (by omega) λz hz=>?_
       have hjj:j=f.toNat:=by omega
       subst hjj;rw[g2]at hz
       injection hz with hz
       subst hz;exact Ok.ret (by rw[oDF (show ¬o>dS y.length from λh=>by rw[ee]at h;omega)])
    ·rintro _ rfl;dsimp only;simp only[oCF]
     (simp (disch:=omega) only [dX,eE,ej,ee])
     exact Ok.ret rfl
   ·omega
  ·exact Ok.ret rfl
 refine fc ?_;unfold lS;delta dS
 try dsimp only
 (with_reducible refine dO (λZ'=>?_) λZ'=>?_)
 ·omega
 ·rw[h4];rw[e0];dsimp only;rw[h4,show((8:Nat):Int)=8 from rfl,e2];exact Ok.ret rfl
def Ut(ss:List Int)(i:Nat)(x:DOu):Prop:=x.1=i/\0<=x.2.1/\x.2.1<2/\x.2.2.length<=16/\∀c∈x.2.2,Pr ss c
structure CH (ss:List Int)(ck rn:List Int)(ins:List (List Int))(d:List (List DCn))(os:List DOp)(us:List DOu):Prop where
 clock:ck.length<=64/\∀w∈ck,W16 w
 rand:rn.length<=64/\∀w∈rn,W16 w
 ilen:ins.length<=2
 inp:∀x∈ins,x.length<=64/\∀w∈x,W16 w
 files:gd ss d os
 ulen:us.length<=200
 outs:∀(i:Nat) x,us[i]?=some x->Ut ss i x
theorem L6{ss:List Int}{us:List DOu}(hl:us.length<=200)(h:∀(i:Nat) x,us[i]?=some x->Ut ss i x):lR us=some (true,()):=by
 have e:dY jE NN (us,(us.length:Int),0,())=some (.inr (us,(us.length:Int),(us.length:Int),false,())):=by
  refine mC (st:=λk=>(us,(us.length:Int),(k:Int),())) (n:=us.length) (by unfold NN;omega) ?_ ?_
  ·intro k hk;unfold jE
   (with_reducible refine dO (λZ'=>?_) λZ'=>?_)
   ·rw[dT];refine Ok.get (by omega) λx hx=>?_;have ⟨g1,g2,g3,g4,g5⟩:=h k x hx;rw[g1,oDF (show ¬x.2.1<0 by omega),oDF (show ¬x.2.1>=2 by omega)];simp;refine Ok.cond (λh=>?_) λ_=>?_
    ·have h:(x.2.2.length:Int)>16:=of_decide_eq_true h;omega
    ·(simp (disch:=omega) only [dX,eE,ej,ee])
     exact Ok.ret rfl
   ·omega
  ·unfold jE
   (with_reducible refine dO (λZ'=>?_) λZ'=>?_)
   ·omega
   ·exact Ok.ret rfl
 refine fc ?_;unfold lR;delta dS
 try dsimp only
 rw[e];exact Ok.ret rfl
theorem yr{ss ck rn:List Int}{ins:List (List Int)}{d:List (List DCn)}{os:List DOp}{us:List DOu}(hs:zi ss)(h:CH ss ck rn ins d os us):j9 ck rn ins d os us=some (true,()):=by
 have e0:dY k8 NN (ins,(ins.length:Int),0,ck,rn,ins,d,os,us,())=some (.inr (ins,(ins.length:Int),(ins.length:Int),false,ck,rn,ins,d,os,us,())):=by
  refine mC (st:=λk=>(ins,(ins.length:Int),(k:Int),ck,rn,ins,d,os,us,())) (n:=ins.length) (by unfold NN;have:=h.ilen;omega) ?_ ?_
  ·intro k hk;have YQ:=h.ilen;unfold k8;dsimp only
   (with_reducible refine dO (λZ'=>?_) λZ'=>?_)
   ·rw[dT];delta dS;simp only[oBS];refine Ok.get (by omega) λx hx=>?_;have:=(h.inp x (dU hx)).1
    (with_reducible refine dO (λZ3=>?_) λZ3=>?_)
    ·omega
    ·(simp (disch:=omega) only [dX,eE,ej,ee])
     exact Ok.ret rfl
   ·omega
  ·unfold k8;dsimp only
   (with_reducible refine dO (λZ'=>?_) λZ'=>?_)
   ·omega
   ·exact Ok.ret rfl
 have e1:dY kZ NN (us,(us.length:Int),0,ck,rn,ins,d,os,us,())=some (.inr (us,(us.length:Int),(us.length:Int),false,ck,rn,ins,d,os,us,())):=by
  refine mC (st:=λk=>(us,(us.length:Int),(k:Int),ck,rn,ins,d,os,us,())) (n:=us.length) (by unfold NN;have:=h.ulen;omega) ?_ ?_
  ·intro k hk;have hul:=h.ulen;unfold kZ;dsimp only
   (with_reducible refine dO (λZ'=>?_) λZ'=>?_)
   ·rw[dT];simp only[oBS];refine Ok.get (by omega) λx hx=>?_;obtain⟨_,_,_,g4,g5⟩:=h.outs k x hx;rw[lC hs g5 (by omega) (by omega)]
    (simp (disch:=omega) only [dX,eE,ej,ee])
    exact Ok.ret rfl
   ·omega
  ·unfold kZ;dsimp only
   (with_reducible refine dO (λZ'=>?_) λZ'=>?_)
   ·omega
   ·exact Ok.ret rfl
 have c1:=h.clock.1;have c2:=h.rand.1;have c3:=h.ilen;have c4:=h.ulen;refine fc ?_;unfold j9;delta dS
 try dsimp only
 rw[e0];dsimp only;rw[e1];dsimp only;refine dP (oDT (show(ck.length:Int)<=64 by omega)) (dP (oDT (show(rn.length:Int)<=64 by omega)) (dP (oDT (show(ins.length:Int)<=2 by omega)) ?_));rw[DK hs h.files];refine dP (oDT (show(us.length:Int)<=200 by omega)) ?_;rw[L6 h.ulen h.outs];exact Ok.ret rfl
def sI:List DOp:=List.replicate 8 (-1,0,false)
theorem Qi(a:List (List Int)):dY vJ NN (a,8,0,(),(),(),List.replicate 8 (0,(0,false)),())=some (a,8,8,false,(),(),(),sI,()):=by
 rfl
theorem Qn{ss:List Int}{a:List (List Int)}(hs:zi ss)(hl:a.length<=4)(h:∀x∈a,x.length<=64/\∀w∈x,W16 w):Ok (r7 a) λr=>∃d,r=(d,sI,0,())/\gd ss d sI:=by
 unfold r7;refine dP (by decide) ?_;dsimp only;rw[show dS (List.replicate 8 ((0:Int),((0:Int),false))).length=8 from rfl,Qi];delta dS;simp only[oBS]
 refine Ok.loop (P:=λs'=>∃k:Nat,∃d,s'=(a,(a.length:Int),(k:Int),(),(),d,sI,())/\k<=a.length/\d.length=k/\(∀x∈d,x.length<=64)/\∀x∈d,∀c∈x,Pr ss c)
  (R:=λr=>∃e b c f d,r=(e,b,c,f,(),(),d,sI,())/\d.length<=4/\(∀x∈d,x.length<=64)/\∀x∈d,∀c∈x,Pr ss c) (m:=λs'=>(s'.2.1-s'.2.2.1).toNat) ⟨0,[],rfl,by omega,rfl,eJ,eJ⟩ (by unfold NN;dsimp only;omega) ?_ ?_
 ·rintro _ ⟨k,d,rfl,hk,YB,hd2,XZ⟩;unfold vH;dsimp only
  (with_reducible refine dO (λZ'=>?_) λZ'=>?_)
  ·rw[dT];delta dS;simp only[oBS];refine Ok.get (by omega) λx hx=>?_;obtain⟨Z0,Yq⟩:=h x (dU hx)
   refine Ok.loop (P:=λs'=>∃j:Nat,∃l,s'=(a,(a.length:Int),(k:Int),x,(x.length:Int),(j:Int),(),(),d,sI,l,())/\j<=x.length/\l.length=j/\∀c∈l,Pr ss c)
    (R:=λr=>∃b c e f l,r=(a,(a.length:Int),(k:Int),b,c,e,f,(),(),d,sI,l,())/\l.length<=64/\∀c∈l,Pr ss c) (m:=λs'=>(s'.2.2.2.2.1-s'.2.2.2.2.2.1).toNat) ⟨0,[],rfl,by omega,rfl,eJ⟩ (by unfold NN;dsimp only;omega) ?_ ?_
   ·rintro _ ⟨j,l,rfl,hj,Xv,hl2⟩;unfold vI;dsimp only
    (with_reducible refine dO (λZ3=>?_) λZ3=>?_)
    ·rw[dT];simp only[oBS];refine Ok.get (by omega) λv hv=>?_;refine dP (d8 (by simp;omega)) ?_
     (simp (disch:=omega) only [dX,eE,ej,ee])
     exact Ok.ret ⟨⟨j+1,_,rfl,by omega,by rw[fB,Xv];rfl,kA hl2 (all_cons (.inl ⟨.inl rfl,rfl,rfl,Yq v (dU hv)⟩) eJ)⟩,by dsimp only;omega⟩
    ·exact Ok.ret ⟨_,_,_,_,_,rfl,by omega,hl2⟩
   ·rintro _ ⟨b,c,e,f,l,rfl,Xv,hl2⟩;dsimp only;refine dP (d8 (by simp;omega)) ?_
    (simp (disch:=omega) only [dX,eE,ej,ee])
    exact Ok.ret ⟨⟨k+1,_,rfl,by omega,by rw[fB,YB];rfl,kA hd2 (all_cons Xv eJ),kA XZ (all_cons hl2 eJ)⟩,by dsimp only;omega⟩
  ·exact Ok.ret ⟨_,_,_,_,_,rfl,by omega,hd2,XZ⟩
 ·rintro _ ⟨e,b,c,f,d,rfl,YB,hd2,XZ⟩;have hf:gd ss d sI:=⟨YB,hd2,XZ,rfl,λo ho=>by rw[List.eq_of_mem_replicate ho];exact .inl ⟨rfl,rfl,rfl⟩⟩;dsimp only;rw[DK hs hf];exact Ok.ret ⟨d,rfl,hf⟩
theorem Cj{a:List (List Int)}(hl:a.length<=1000)(h:∀x∈a,x.length<=1000):gf a=some (a,()):=by
 have e:dY fY NN (a,(a.length:Int),0,[],())=some (a,(a.length:Int),(a.length:Int),false,a,()):=by
  have:=mC (f:=fY) (N:=NN) (st:=λk=>(a,(a.length:Int),(k:Int),a.take k,())) (n:=a.length) (t:=(a,(a.length:Int),(a.length:Int),false,a,())) (by unfold NN;omega) ?_ ?_
  ·exact this
  ·intro k hk;unfold fY
   (with_reducible refine dO (λZ'=>?_) λZ'=>?_)
   ·rw[dT];refine Ok.get (by omega) λx hx=>?_;have:=h x (dU hx);refine dP (d8 (by omega)) (dP (d8 (by simp;omega)) ?_)
    (simp (disch:=omega) only [dX,eE,ej,ee])
    refine Ok.ret ?_;rw[List.take_add_one,hx];rfl
   ·omega
  ·unfold fY
   (with_reducible refine dO (λZ'=>?_) λZ'=>?_)
   ·omega
   ·rw[List.take_length];exact Ok.ret rfl
 refine fc ?_;unfold gf;delta dS
 try dsimp only
 rw[e];exact Ok.ret rfl
theorem L5{ss l:List Int}{k:Int}(hs:zi ss)(h:DOk l k):Ok (nn l k) λr=>∃ck rn ins d os k',r=(ck,rn,ins,d,os,(),l,k',())/\CH ss ck rn ins d os []/\DOk l k':=by
 unfold nn;refine(rV h (by decide)).bind ?_;rintro _ ⟨w1,k1,rfl,h1,g1,d1⟩;refine(rV d1 (by decide)).bind ?_;rintro _ ⟨w2,k2,rfl,h2,g2,d2⟩;dsimp only;refine(rV d2 (by decide)).bind ?_;rintro _ ⟨w3,k3,rfl,h3,g3,d3⟩;dsimp only;refine(rV d3 (by decide)).bind ?_;rintro _ ⟨w4,k4,rfl,h4,g4,d4⟩;dsimp only;refine(rV d4 (by decide)).bind ?_;rintro _ ⟨w5,k5,rfl,h5,g5,d5⟩;dsimp only;refine(rV d5 (by decide)).bind ?_;rintro _ ⟨w6,k6,rfl,h6,g6,d6⟩;dsimp only;refine Ok.bind (P:=λr=>∃ck rn ins d os,r=(ck,rn,ins,d,os,(),0,())/\CH ss ck rn ins d os []) ?_ ?_
 ·unfold r6;refine(Qn (ss:=ss) (a:=[w1,w2]) hs (by simp) (all_cons ⟨by omega,g1⟩ (all_cons ⟨by omega,g2⟩ eJ))).bind ?_;rintro _ ⟨d,rfl,hf⟩;refine Ok.cond (λh=>by cases h) λ_=>?_;refine dP (d8 (by omega)) (dP (d8 (by omega)) ?_);have ho:CH ss w5 w6 [w3,w4] d sI []:=⟨⟨by omega,g5⟩,⟨by omega,g6⟩,by simp,all_cons ⟨by omega,g3⟩ (all_cons ⟨by omega,g4⟩ eJ),hf,by simp,λi x hx=>by simp_all⟩;rw[Cj (by simp) (all_cons (by omega) (all_cons (by omega) eJ))];simp only[oBS];rw[show List.append [] w5=w5 from rfl,show List.append [] w6=w6 from rfl,yr hs ho];exact Ok.ret ⟨_,_,_,_,_,rfl,ho⟩
 ·rintro _ ⟨ck,rn,ins,d,os,rfl,ho⟩;exact Ok.ret ⟨_,_,_,_,_,_,rfl,ho,d6⟩
theorem Hu{ss:List Int}{r o n:Int}(h1:0<=r)(h2:ss[r.toNat]?=some n)(h3:0<=o)(h4:o<n):fL ss r o=some (true,()):=by
 refine fc ?_;have hl:=(oGS h2).1;refine dP (oDT h1) (dP (oDT (show r<(ss.length:Int) by omega)) (dP (oDT h3) ?_));obtain⟨j,rfl⟩:∃j:Nat,r=j:=⟨r.toNat,by omega⟩;rw[dT];simp;rw[show dR ss j=some n from h2];exact Ok.ret (by simp_all)
theorem mW{ss:List Int}{c:DCn}(h:Pr ss c):fK ss c.1 c.2.1 c.2.2.1 c.2.2.2=some (true,()):=by
 refine fc ?_;unfold fK
 rcases h with⟨h1,h2,h3,_⟩|⟨h1,h2,h3,n,h4,h5,h6⟩
 ·rw[h2,h3]
  rcases h1 with h1|h1<;>rw[h1]<;>exact Ok.ret rfl
 ·rw[h1,h2,Hu h3 h4 h5 h6];exact Ok.ret rfl
theorem Jb{ss:List Int}{d:List (List DCn)}{os:List DOp}(h:gd ss d os):nc ss d os=some (true,()):=by
 obtain⟨h1,h2,h3,h4,h5⟩:=h
 have e0:dY j7 NN (ss,d,(d.length:Int),0,d,os,())=some (.inr (ss,d,(d.length:Int),(d.length:Int),false,d,os,())):=by
  refine mC (st:=λk=>(ss,d,(d.length:Int),(k:Int),d,os,())) (n:=d.length) (by unfold NN;omega) ?_ ?_
  ·intro k hk;unfold j7;dsimp only
   (with_reducible refine dO (λZ'=>?_) λZ'=>?_)
   ·rw[dT];delta dS;refine Ok.get (by omega) λx hx=>?_;have Z0:=h2 x (dU hx)
    have e:dY j8 NN (ss,d,(d.length:Int),(k:Int),x,(x.length:Int),0,d,os,())=some (.inr (ss,d,(d.length:Int),(k:Int),x,(x.length:Int),(x.length:Int),false,d,os,())):=by
     refine mC (st:=λj=>(ss,d,(d.length:Int),(k:Int),x,(x.length:Int),(j:Int),d,os,())) (n:=x.length) (by unfold NN;omega) ?_ ?_
     ·intro j hj;unfold j8
      (with_reducible refine dO (λZ'=>?_) λZ'=>?_)
      ·rw[dT];refine Ok.get (by omega) λy hy=>?_;rw[mW (h3 x (dU hx) y (dU hy))]
       (simp (disch:=omega) only [dX,eE,ej,ee])
       exact Ok.ret rfl
      ·omega
     ·unfold j8
      (with_reducible refine dO (λZ'=>?_) λZ'=>?_)
      ·omega
      ·exact Ok.ret rfl
    rw[e];dsimp only
    (simp (disch:=omega) only [dX,eE,ej,ee])
    exact Ok.ret rfl
   ·omega
  ·unfold j7;dsimp only
   (with_reducible refine dO (λZ'=>?_) λZ'=>?_)
   ·omega
   ·exact Ok.ret rfl
 refine fc ?_;unfold nc;delta dS
 try dsimp only
 rw[e0];exact Ok.ret rfl
theorem copy17_ok{d:List (List DCn)}{os:List DOp}(h1:d.length<=1000)(h2:∀x∈d,x.length<=1000)(h3:os.length<=1000):hY d os=some (d,os,()):=by
 have e:dY jL NN (d,(d.length:Int),0,d,os,(),(),[],os,())=some (d,(d.length:Int),(d.length:Int),false,d,os,(),(),d,os,()):=by
  have:=mC (f:=jL) (N:=NN) (st:=λk=>(d,(d.length:Int),(k:Int),d,os,(),(),d.take k,os,())) (n:=d.length) (t:=(d,(d.length:Int),(d.length:Int),false,d,os,(),(),d,os,())) (by unfold NN;omega) ?_ ?_
  ·exact this
  ·intro k hk;unfold jL
   (with_reducible refine dO (λZ'=>?_) λZ'=>?_)
   ·rw[dT];refine Ok.get (by omega) λx hx=>?_;have:=h2 x (dU hx);refine dP (d8 (by omega)) (dP (d8 (by simp;omega)) ?_)
    (simp (disch:=omega) only [dX,eE,ej,ee])
    refine Ok.ret ?_;rw[List.take_add_one,hx];rfl
   ·omega
  ·unfold jL
   (with_reducible refine dO (λZ'=>?_) λZ'=>?_)
   ·omega
   ·rw[List.take_length];exact Ok.ret rfl
 refine fc ?_;refine dP (d8 (by omega)) ?_;rw[show List.append [] os=os from rfl];delta dS
 try dsimp only
 rw[e];exact Ok.ret rfl
theorem Ix{us:List DOu}(h1:us.length<=1000)(h2:∀x∈us,x.2.2.length<=1000):lr us=some (us,()):=by
 have e:dY jK NN (us,(us.length:Int),0,[],())=some (us,(us.length:Int),(us.length:Int),false,us,()):=by
  have:=mC (f:=jK) (N:=NN) (st:=λk=>(us,(us.length:Int),(k:Int),us.take k,())) (n:=us.length) (t:=(us,(us.length:Int),(us.length:Int),false,us,())) (by unfold NN;omega) ?_ ?_
  ·exact this
  ·intro k hk;unfold jK
   (with_reducible refine dO (λZ'=>?_) λZ'=>?_)
   ·rw[dT];refine Ok.get (by omega) λx hx=>?_;have:=h2 x (dU hx);refine dP (d8 (by omega)) (dP (d8 (by simp;omega)) ?_)
    (simp (disch:=omega) only [dX,eE,ej,ee])
    refine Ok.ret ?_;rw[List.take_add_one,hx];rfl
   ·omega
  ·unfold jK
   (with_reducible refine dO (λZ'=>?_) λZ'=>?_)
   ·omega
   ·rw[List.take_length];exact Ok.ret rfl
 refine fc ?_;unfold lr;delta dS
 try dsimp only
 rw[e];exact Ok.ret rfl
theorem Iw{ss ck rn:List Int}{ins:List (List Int)}{d:List (List DCn)}{os:List DOp}{us:List DOu}(h:CH ss ck rn ins d os us):qh ck rn ins d os us=some (ck,rn,ins,d,os,us,()):=by
 have h1:=h.clock.1;have h2:=h.rand.1;have h3:=h.ilen;have h4:=h.ulen;have h5:=h.files.olen;have h6:=h.files.dlen;refine fc ?_;refine dP (d8 (by omega)) (dP (d8 (by omega)) ?_)
 rw[Cj (by omega) (λx hx=>by have:=(h.inp x hx).1;omega),copy17_ok (by omega) (λx hx=>by have:=h.files.flen x hx;omega) (by omega),Ix (by omega) (λx hx=>by
  have ⟨i,hi⟩:=List.getElem?_of_mem hx;have:=(h.outs i x hi).2.2.2.1
  omega)]
 exact Ok.ret rfl
theorem Oq:ww=some ([-1,-1,-1,-1],[[],[],[],[]],()):=by kernel_rfl
structure j4 (ow:List Int)(qs:List (List Int)):Prop where
 olen:ow.length=4
 qlen:qs.length=4
 owner:∀o∈ow,-1<=o/\o<=3
 queue:∀q∈qs,q.Nodup/\∀t∈q,0<=t/\t<=3
theorem Oe:∀{n:Nat}{q:List Int},q.Nodup->(∀t∈q,0<=t/\t<n)->q.length<=n:=by
 intro n
 induction n with
 |zero=>
  intro q _ h
  cases q with
  |nil=>simp
  |cons x q=>have:=h x (by simp);omega
 |succ n ih=>
  intro q hq h;have h1:(q.erase (n:Int)).Nodup:=hq.erase _
  have h2:∀t∈q.erase (n:Int),0<=t/\t<n:=λt ht=>by
   have hm:=(hq.mem_erase_iff).1 ht;have:=h t hm.2;omega
  have h3:=ih h1 h2;have h4:=List.length_erase (a:=(n:Int)) (l:=q);split at h4<;>omega
theorem j4.qlen4{ow:List Int}{qs:List (List Int)}(h:j4 ow qs){q:List Int}(hq:q∈qs):q.length<=4:=Oe (h.queue q hq).1 λt ht=>by have:=(h.queue q hq).2 t ht;omega
theorem TP:j4 [-1,-1,-1,-1] [[],[],[],[]]:=⟨rfl,rfl,by decide,by decide⟩
theorem QX{code:List DIn}{ss bs:List Int}{dt:List (List Int)}{key:Int}{ck rn:List Int}{ins:List (List Int)}{d:List (List DCn)}{os:List DOp}{us:List DOu}(hp:kV code ss dt)(hl:LV bs ss)(ho:CH ss ck rn ins d os us):
 Ok (rZ code ss dt bs key ck rn ins d os us) λr=>∃cs ts,r=(code,ss,dt,bs,key,cs,eH,ts,ck,rn,ins,d,os,us,[-1,-1,-1,-1],[[],[],[],[]],(),[-1,-1,-1,-1],0,())/\MOk 0 ss bs cs eH ts:=by
 refine(PE hp hl).bind ?_;rintro _ ⟨cs,ts,rfl,hm⟩;rw[yr hp.sz ho,Jb ho.files,Iw ho,Oq];exact Ok.ret ⟨cs,ts,rfl,hm⟩
theorem Uh.len{K:Int->Prop}{i:Nat}{x:DLn}(h:Uh K i x):x.2.2.length<=4:=by
 rcases h with⟨_,_,h⟩|⟨_,_,_,h,_⟩
 ·simp_all
 ·omega
theorem O1{K:Int->Prop}{cs:List DCe}{ls:List DLn}(h:kW K cs ls):qq cs ls=some (cs,ls,()):=by
 obtain⟨h1,h2,h3,h4,_⟩:=h
 have e:dY jS NN (ls,(ls.length:Int),0,cs,ls,(),(),cs,[],())=some (ls,(ls.length:Int),(ls.length:Int),false,cs,ls,(),(),cs,ls,()):=by
  have:=mC (f:=jS) (N:=NN) (st:=λk=>(ls,(ls.length:Int),(k:Int),cs,ls,(),(),cs,ls.take k,())) (n:=ls.length) (t:=(ls,(ls.length:Int),(ls.length:Int),false,cs,ls,(),(),cs,ls,())) (by unfold NN;omega) ?_ ?_
  ·exact this
  ·intro k hk;unfold jS
   (with_reducible refine dO (λZ'=>?_) λZ'=>?_)
   ·rw[dT];refine Ok.get (by omega) λx hx=>?_;have:=(h4 k x hx).len;refine dP (d8 (by omega)) (dP (d8 (by simp;omega)) ?_)
    (simp (disch:=omega) only [dX,eE,ej,ee])
    refine Ok.ret ?_;rw[List.take_add_one,hx];rfl
   ·omega
  ·unfold jS
   (with_reducible refine dO (λZ'=>?_) λZ'=>?_)
   ·omega
   ·rw[List.take_length];exact Ok.ret rfl
 refine fc ?_;unfold qq;refine dP (d8 (by omega)) ?_;rw[show List.append [] cs=cs from rfl];delta dS
 try dsimp only
 rw[e];exact Ok.ret rfl
theorem xO{n key:Int}{ss bs:List Int}{cs:List DCe}{ls:List DLn}{ts:List DTh}(h:MOk n ss bs cs ls ts):jQ bs key cs ls ts=some (bs,key,cs,ls,ts,()):=by
 obtain⟨h1,h2,h3,h4⟩:=h;have hb:=h1.2.1;have XA:=h1.1.2.1
 have e:dY jP NN (ts,(ts.length:Int),0,bs,key,cs,ls,ts,(),0,(),(),(),bs,key,cs,ls,[],())=some (ts,(ts.length:Int),(ts.length:Int),false,bs,key,cs,ls,ts,(),0,(),(),(),bs,key,cs,ls,ts,()):=by
  have:=mC (f:=jP) (N:=NN) (st:=λk=>(ts,(ts.length:Int),(k:Int),bs,key,cs,ls,ts,(),0,(),(),(),bs,key,cs,ls,ts.take k,())) (n:=ts.length) (t:=(ts,(ts.length:Int),(ts.length:Int),false,bs,key,cs,ls,ts,(),0,(),(),(),bs,key,cs,ls,ts,())) (by unfold NN;omega) ?_ ?_
  ·exact this
  ·intro k hk;unfold jP;dsimp only
   (with_reducible refine dO (λZ'=>?_) λZ'=>?_)
   ·rw[dT];refine Ok.get (by omega) λx hx=>?_;have:=(h4 x (dU hx)).len;refine dP (d8 (by omega)) (dP (d8 (by simp;omega)) ?_)
    (simp (disch:=omega) only [dX,eE,ej,ee])
    refine Ok.ret ?_;rw[List.take_add_one,hx];rfl
   ·omega
  ·unfold jP
   (with_reducible refine dO (λZ'=>?_) λZ'=>?_)
   ·omega
   ·rw[List.take_length];exact Ok.ret rfl
 refine fc ?_;unfold jQ;refine dP (d8 (by omega)) ?_;rw[O1 h2,show List.append [] bs=bs from rfl];delta dS;simp;rw[e];exact Ok.ret rfl
theorem vn{α:Type}{l:List α}{i:Nat}{f:α->α}{a:α}(h:l[i]?=some a):(List.modify l i f)[i]?=some (f a):=by simp_all
theorem kf{α:Type}(l:List α)(i:Nat)(f g:α->α):List.modify (List.modify l i f) i g=List.modify l i λa=>g (f a):=by
 apply List.ext_getElem?
 grind
theorem MOk.thread{n:Int}{ss bs:List Int}{cs:List DCe}{ls:List DLn}{ts:List DTh}(h:MOk n ss bs cs ls ts){i:Nat}{t:DTh}{f:DTh->DTh}(ht:ts[i]?=some t)(hf:CG (RK bs ss) n (f t)):MOk n ss bs cs ls (List.modify ts i f):=by
 refine⟨h.lay,h.mem,by rw[oLM];exact h.tlen,λx hx=>?_⟩;have ⟨j,hj⟩:=List.getElem?_of_mem hx;by_cases hij:i=j
 ·simp_all
 ·simp[hij]at hj
  have:ts[j]?=some x:=by simp_all
  exact h.thr x (dU this)
theorem Rq{n key:Int}{ss bs:List Int}{cs:List DCe}{ls:List DLn}{ts:List DTh}(h:MOk n ss bs cs ls ts)(i:Int):Ok (pd bs key cs ls ts i) λr=>r.1=true->0<=i/\i<4/\∀t,ts[i.toNat]?=some t->t.2.2.2.2.1≠-1:=by
 unfold pd;delta dS;have:=h.tlen
 (with_reducible refine dO (λZ'=>?_) λZ'=>?_)
 ·exact Ok.ret (λh=>by cases h)
 ·(with_reducible refine dO (λZ3=>?_) λZ3=>?_)
  ·exact Ok.ret (λh=>by cases h)
  ·refine Ok.nat (by omega) λj hj=>?_;refine Ok.get (by omega) λt ht=>?_;subst hj
   (with_reducible refine dO (λhcc=>?_) λhcc=>?_)
   ·(with_reducible refine dO (λXr=>?_) λXr=>?_)
    ·exact Ok.ret (λ_=>⟨by omega,by omega,λt' ZL=>by
      rw[oTN,ht]at ZL
      injection ZL with ZL
      rw[<- ZL]
      exact Xr⟩)
    ·exact Ok.ret (λh=>by cases h)
   ·exact Ok.ret (λh=>by cases h)
theorem Mz{n key:Int}{ss bs:List Int}{cs:List DCe}{ls:List DLn}{ts:List DTh}(h:MOk n ss bs cs ls ts)(i:Int):Ok (lT bs key cs ls ts i) λr=>∃Zr b,r=(bs,key,cs,ls,Zr,b,())/\MOk n ss bs cs ls Zr:=by
 unfold lT;rw[xO h];refine(Rq h i).bind ?_;rintro⟨b,_⟩ hb
 (with_reducible refine dO (λZ'=>?_) λZ'=>?_)
 ·exact Ok.ret ⟨ts,false,rfl,h⟩
 ·have hb:=hb Z';have XC:=h.tlen;obtain⟨hb1,ZY,hb3⟩:=hb;refine Ok.nat hb1 λj hj=>?_;refine Ok.get (by omega) λt ht=>?_;refine Ok.get (by omega) λt1 X4=>?_;refine Ok.get (by omega) λt2 YY=>?_;refine Ok.get (by omega) λt3 ht3=>?_;rw[ht]at X4 YY ht3
  injection X4 with X4
  injection YY with YY
  subst X4 YY;refine Ok.get (by rw[oLM];omega) λt4 ht4=>?_;have hne:=hb3 t (by simp_all);have hok:=h.thr t (dU ht);rw[kf];exact Ok.ret ⟨_,_,rfl,h.thread ht ⟨hok.state,hok.len,hok.regs,⟨by have:=hok.handler;dsimp only;omega,hok.handler.2⟩,hok.count,hok.handler,⟨by have:=hok.pc;dsimp only;omega,hok.pc.2⟩,hok.trap,hok.code⟩⟩
theorem RF{n Xp:Int}{ts:List DTh}{i:Nat}{t:DTh}(ht:ts[i]?=some t):fP i Xp ts=some (2,List.modify ts i λt=>(4,t.2.1,t.2.2.1,t.2.2.2.1,t.2.2.2.2.1,t.2.2.2.2.2.1,Xp,0),()):=by
 refine fc ?_;have hl:=(oGS ht).1;refine Ok.get hl λ_ _=>?_;refine Ok.get (by simp_all) λ_ _=>?_;refine Ok.get (by simp_all) λ_ _=>?_;rw[kf,kf];exact Ok.ret rfl
theorem CG.ended{K:Int->Prop}{n Xp:Int}{t:DTh}(h:CG K n t)(hw:0<=Xp/\Xp<=6):CG K n (4,t.2.1,t.2.2.1,t.2.2.2.1,t.2.2.2.2.1,t.2.2.2.2.2.1,Xp,0):=
 ⟨⟨by omega,by omega⟩,h.len,h.regs,h.pc,h.count,h.handler,h.saved,hw,⟨by simp_all,by simp_all⟩⟩
theorem yE{ss bs:List Int}{key a:Int}(h:LV bs ss)(ha:0<=a/\a<=65535):Ok (fC bs key ss a) λr=>(r.2.2.1=true->∃b n,0<=r.1/\bs[r.1.toNat]?=some b/\ss[r.1.toNat]?=some n/\0<=r.2.1/\r.2.1<n/\a=b+r.2.1):=by
 obtain⟨hs,hl,hr⟩:=h;have XA:=hs.2.1;unfold fC;delta dS
 try dsimp only
 obtain⟨t,e,ht⟩:=gI (f:=eZ) (n:=NN) (s:=(ss,a,bs,(bs.length:Int),0,bs,key,0,0,())) (P:=λs'=>∃k:Nat,s'=(ss,a,bs,(bs.length:Int),(k:Int),bs,key,0,0,())/\k<=bs.length)
  (R:=λr=>(∃x y,r=.inl (true,x,y,())/\∃b n,0<=x/\bs[x.toNat]?=some b/\ss[x.toNat]?=some n/\0<=y/\y<n/\a=b+y)\/∃z,r=.inr z) (m:=λs'=>(s'.2.2.2.1-s'.2.2.2.2.1).toNat) ⟨0,rfl,by omega⟩ (by unfold NN;dsimp only;omega) (by
   rintro _ ⟨k,rfl,hk⟩;unfold eZ;dsimp only
   (with_reducible refine dO (λZ'=>?_) λZ'=>?_)
   ·rw[dT];simp only[oBS];obtain⟨b,hb⟩:∃b,bs[k]?=some b:=⟨_,oGE (by omega)⟩;obtain⟨y,hy⟩:∃y,ss[k]?=some y:=⟨_,oGE (by omega)⟩;have Xo:=hs.2.2 y (dU hy);have WA:=hr k (by omega);unfold qc at WA;rw[ef hb,ef hy]at WA;rw[show dR bs k=some b from hb];rw[show dR ss k=some y from hy];simp only[oBS];rw[dX (x:=b+y) (by omega) (by omega)];by_cases h1:a>=b
    ·by_cases h2:a<b+y
     ·simp only[h1,h2,decide_true,oCT];rw[dX (x:=a-b) (by omega) (by omega)];exact Ok.ret (.inl ⟨_,_,rfl,b,y,by omega,by rw[oTN];exact hb,by rw[oTN];exact hy,by omega,by omega,by omega⟩)
     ·simp only[h1,h2,decide_true,decide_false,oCT,oCF]
      (simp (disch:=omega) only [dX,eE,ej,ee])
      exact Ok.ret ⟨⟨k+1,rfl,by omega⟩,by dsimp only;omega⟩
    ·simp only[h1,decide_false,oCF]
     (simp (disch:=omega) only [dX,eE,ej,ee])
     exact Ok.ret ⟨⟨k+1,rfl,by omega⟩,by dsimp only;omega⟩
   ·exact Ok.ret (.inr ⟨_,rfl⟩))
 rw[e]
 rcases ht with⟨x,y,rfl,Xn⟩|⟨z,rfl⟩
 ·exact Ok.ret λ_=>Xn
 ·exact Ok.ret λh=>by cases h
theorem D7{ss:List Int}{r o:Int}:Ok (fL ss r o) λx=>x.1=true->0<=r/\0<=o/\∃n,ss[r.toNat]?=some n/\o<n:=by
 unfold fL;delta dS
 (with_reducible refine dO (λZ'=>?_) λZ'=>?_)
 ·(with_reducible refine dO (λZ3=>?_) λZ3=>?_)
  ·(with_reducible refine dO (λhcc=>?_) λhcc=>?_)
   ·refine Ok.nat (by omega) λj hj=>?_;refine Ok.get (by omega) λn hn=>?_;exact Ok.ret λh=>⟨by omega,by omega,n,by simp_all,of_decide_eq_true h⟩
   ·exact Ok.ret λh=>by cases h
  ·exact Ok.ret λh=>by cases h
 ·exact Ok.ret λh=>by cases h
theorem Bz{ss bs:List Int}{key tag v n:Int}{back:Bool}(h:LV bs ss)(hv:W16 v)(hn:W16 n):Ok (fZ bs key ss tag v n back) λr=>∃t x e,r=(t,x,e,())/\pL (RK bs ss) (t,x)/\0<=e/\e<=6/\(e=0->x<512):=by
 have hz:∀e:Int,0<e->e<=6->∃t x e',((0:Int),(0:Int),e,())=(t,x,e',())/\pL (RK bs ss) (t,x)/\0<=e'/\e'<=6/\(e'=0->x<512):=λe h1 h2=>⟨0,0,e,rfl,nN (by decide),by omega,h2,by omega⟩;obtain⟨v0,v1⟩:=hv;obtain⟨n0,n1⟩:=hn;unfold fZ
 (with_reducible refine dO (λZ'=>?_) λZ'=>?_)
 ·exact Ok.ret (hz 3 (by decide) (by decide))
 ·rw[ej (x:=v) (by omega) (by omega),ej (x:=n) (by omega) (by omega)];refine(yE h ⟨v0,v1⟩).bind ?_;rintro⟨r,o,ok,_⟩ Y0;dsimp only at Y0⊢
  (with_reducible refine dO (λZ3=>?_) λZ3=>?_)
  ·exact Ok.ret (hz 4 (by decide) (by decide))
  ·obtain⟨b,z,hr0,hb,hzz,ho0,ho1,_⟩:=Y0 Z3;have Yn:=h.1.2.2 z (dU hzz);refine Ok.bind (P:=λx=>∃o',x=(ss,bs,key,0,0,r,o',())/\-70000<=o'/\o'<=70000) ?_ ?_
   ·refine Ok.cond (λ_=>?_) λ_=>?_
    all_goals
     (simp (disch:=omega) only [dX,eE,ej,ee])
     exact Ok.ret ⟨_,rfl,by omega,by omega⟩
   rintro _ ⟨o',rfl,Xx,ho3⟩;dsimp only;refine D7.bind ?_;rintro⟨q,_⟩ hin;dsimp only at hin⊢
   (with_reducible refine dO (λhcc=>?_) λhcc=>?_)
   ·exact Ok.ret (hz 4 (by decide) (by decide))
   ·obtain⟨_,g1,m,g2,g3⟩:=hin hcc;refine Ok.nat hr0 λj hj=>?_;subst hj;rw[oTN]at hb g2;have hjl:=(oGS hb).1;have hrj:=h.2.2 j hjl;unfold qc at hrj;rw[ef hb,ef g2]at hrj;rw[show dR bs j=some b from hb];simp only[oBS];rw[dX (x:=b+o') (by omega) (by omega),eE (x:=b+o') (by omega) (by omega)];exact Ok.ret ⟨_,_,_,rfl,⟨by dsimp only;omega,by dsimp only;omega,by dsimp only;omega,by dsimp only;omega,λ_=>⟨j,b,m,hb,g2,by dsimp only;omega,by dsimp only;omega⟩⟩,by decide,by decide,λ_=>by omega⟩
theorem kW.line{K:Int->Prop}{cs:List DCe}{ls:List DLn}(h:kW K cs ls){i:Nat}{x:DLn}{f:DLn->DLn}(hx:ls[i]?=some x)(hf:Uh K i (f x))(hg:Uu cs (f x)):kW K cs (List.modify ls i f):=by
 have key:∀(j:Nat) y,(List.modify ls i f)[j]?=some y->Uh K j y/\Uu cs y:=λj y hy=>by
  by_cases hij:i=j
  ·simp_all
  ·simp[hij]at hy;exact⟨h.lines j y (by simp_all),h.coh j y (by simp_all)⟩
 exact⟨h.clen,h.cells,by rw[oLM];exact h.llen,λj y hy=>(key j y hy).1,λj y hy=>(key j y hy).2⟩
theorem LE{cs xs:List DCe}{lo k:Nat}(h1:lo+4<=cs.length)(h3:4<=xs.length)(hk:k<lo\/lo+4<=k):(ub cs lo 4 xs)[k]?=cs[k]?:=by
 unfold ub;rcases hk with hk|hk
 ·rw[List.append_assoc,List.getElem?_append_left (by rw[oLT];omega),List.getElem?_take_of_lt hk]
 ·rw[List.getElem?_append_right (by simp;omega),List.getElem?_drop];congr 1;simp;omega
theorem M0{K:Int->Prop}{cs xs:List DCe}{lo n:Nat}(h1:cs.length=512)(h2:lo+n<=512)(h3:n<=xs.length)(hc:∀c∈cs,pL K c)(hx:∀c∈xs,pL K c):(ub cs lo n xs).length=512/\∀c∈ub cs lo n xs,pL K c:=by
 unfold ub;refine⟨?_,λc hh=>?_⟩
 ·simp;omega
 ·simp only[List.mem_append]at hh
  rcases hh with(hh|hh)|hh
  ·exact hc c (List.mem_of_mem_take hh)
  ·exact hx c (List.mem_of_mem_take hh)
  ·exact hc c (List.mem_of_mem_drop hh)
theorem K4{K:Int->Prop}{cs:List DCe}{ls:List DLn}{a:Int}(h:kW K cs ls)(ha:0<=a/\a<512):Ok (l7 a cs ls) λr=>∃i Z4 Z2 x,r=(i,Z4,Z2,())/\kW K Z4 Z2/\Z2[i]?=some x/\x.1=a/4/\x.2.2.length=4:=by
 obtain⟨a0,a1⟩:=ha;obtain⟨h1,h2,h3,h4,h5⟩:=id h;unfold l7;rw[Int.tdiv_eq_ediv_of_nonneg a0,dX (x:=a/4) (by omega) (by omega)];dsimp only;rw[Int.tmod_eq_emod_of_nonneg (show 0<=a/4 by omega)];refine Ok.nat (by omega) λi hi=>?_
 have YQ:i<ls.length:=by omega
 obtain⟨x,hx⟩:∃x,ls[i]?=some x:=⟨_,oGE YQ⟩;have hg:dR ls i=some x:=hx;have hL:=h4 i x hx;simp only[hg,oBS]
 (with_reducible refine dO (λZ'=>?_) λZ'=>?_)
 ·refine Ok.ret ⟨i,cs,ls,x,rfl,h,hx,Z',?_⟩
  rcases hL with⟨g1,_,_⟩|⟨_,_,_,g,_⟩
  ·omega
  ·exact g
 ·refine Ok.bind (P:=λr=>∃Z4,r=(a/4,i,Z4,ls,())/\Z4.length=512/\(∀c∈Z4,pL K c)/\∀(j:Nat) y,ls[j]?=some y->Uu Z4 y) ?_ ?_
  ·refine Ok.cond (λhd=>?_) λ_=>Ok.ret ⟨cs,rfl,h1,h2,h5⟩
   rcases hL with⟨_,g,_⟩|⟨g1,g2,g3,g4,g5⟩
   ·rw[g]at hd;cases hd
   ·rw[dX (x:=x.1*4) (by omega) (by omega)];refine Ok.nat (by omega) λq hq=>?_;refine dP (by unfold iz;simp;omega) ?_
    try simp only[hg,oBS]
    rw[g4,h1]
    have hmin:Nat.min 4 (Nat.sub 512 q)=4:=by
     show min 4 (512-q)=4;omega
    rw[hmin];refine dP (by unfold iz;simp;omega) ?_;refine dP rfl ?_;obtain⟨s1,s2⟩:=M0 (lo:=q) (n:=4) h1 (by omega) (by omega) h2 g5;refine Ok.ret ⟨_,rfl,s1,s2,λj y hy=>?_⟩;by_cases hij:j=i
    ·subst hij;rw[hx]at hy
     injection hy with hy
     subst hy;exact .inr (.inl hd)
    ·rcases h5 j y hy with g|g|g
     ·exact .inl g
     ·exact .inr (.inl g)
     ·rcases h4 j y hy with⟨g',_,_⟩|⟨y1,y2,y3,y4,y5⟩
      ·exact .inl g'
      ·refine .inr (.inr λo ho=>?_);rw[LE (by omega) (by omega) (by omega)];exact g o ho
  rintro _ ⟨Z4,rfl,c1,c2,c3⟩;dsimp only;rw[dX (x:=a/4*4) (by omega) (by omega),dX (x:=a/4+1) (by omega) (by omega),dX (x:=(a/4+1)*4) (by omega) (by omega)];simp only[hg,oBS];refine Ok.get (by rw[oLM];exact YQ) λ_ _=>?_;refine Ok.nat (by omega) λq hq=>?_;refine Ok.nat (by omega) λq2 Yv=>?_;refine dP (by unfold iz;simp;omega) ?_
  have hw:(lF Z4 q (Nat.sub q2 q)).length=4:=by
   unfold lF;rw[oLT,List.length_drop];show min (q2-q) _=4;omega
  refine dP (d8 (by omega)) ?_;refine Ok.get (by rw[oLM,oLM];exact YQ) λ_ _=>?_;rw[kf,kf,show List.append [] (lF Z4 q (Nat.sub q2 q))=lF Z4 q (Nat.sub q2 q)from rfl];have Zx:kW K Z4 ls:=⟨c1,c2,h3,h4,c3⟩;refine Ok.ret ⟨i,Z4,_,_,rfl,Zx.line hx (.inr ⟨by dsimp only;omega,by dsimp only;omega,by dsimp only;omega,hw,λc hc=>c2 c ?_⟩) (.inr (.inr λo ho=>?_)),vn hx,rfl,hw⟩
  ·dsimp only at hc;unfold lF at hc;exact List.mem_of_mem_drop (List.mem_of_mem_take hc)
  ·dsimp only;unfold lF;rw[hq,oTN,List.getElem?_take_of_lt (show o<Nat.sub q2 q by show o<q2-q;omega),List.getElem?_drop]
theorem Ou{K:Int->Prop}{cs:List DCe}{ls:List DLn}{a:Int}(h:kW K cs ls)(ha:0<=a/\a<512):Ok (qo a cs ls) λr=>∃t v Z4 Z2,r=(t,v,Z4,Z2,())/\pL K (t,v)/\kW K Z4 Z2:=by
 refine(K4 h ha).bind ?_;rintro _ ⟨i,Z4,Z2,x,rfl,hm,hx,Z0,Yq⟩;have hg:dR Z2 i=some x:=hx;simp[hg];rw[Int.tmod_eq_emod_of_nonneg ha.1];refine Ok.nat (by omega) λj hj=>?_;refine Ok.get (by omega) λ_ _=>?_;refine Ok.get (by omega) λc hc=>?_
 have ZK:pL K c:=by
  rcases hm.lines i x hx with⟨_,_,g⟩|⟨_,_,_,_,g⟩
  ·omega
  ·exact g c (dU hc)
 exact Ok.ret ⟨_,_,_,_,rfl,ZK,hm⟩
theorem DR{K:Int->Prop}{cs:List DCe}{ls:List DLn}{a t v:Int}(h:kW K cs ls)(ha:0<=a/\a<512)(hc:pL K (t,v)):Ok (lZ a t v cs ls) λr=>∃Z4 Z2,r=(Z4,Z2,())/\kW K Z4 Z2:=by
 refine(K4 h ha).bind ?_;rintro _ ⟨i,Z4,Z2,x,rfl,hm,hx,Z0,Yq⟩;have hg:dR Z2 i=some x:=hx;have YQ:=(oGS hx).1;simp[hg];rw[Int.tmod_eq_emod_of_nonneg ha.1];refine Ok.nat (by omega) λj hj=>?_;refine Ok.get (by omega) λ_ _=>?_;refine Ok.get (by omega) λ_ _=>?_;refine Ok.get (by simp_all) λ_ _=>?_;rw[kf];refine Ok.ret ⟨_,_,rfl,hm.line hx ?_ (.inr (.inl rfl))⟩
 rcases hm.lines i x hx with⟨_,_,g⟩|⟨g1,g2,g3,g4,g5⟩
 ·omega
 ·exact .inr ⟨g1,g2,g3,by simp_all,kg g5 λ_ _=>hc⟩
theorem rW(x:Int):W16 (wk .u16 x):=by
 unfold wk;rw[wT];exact⟨by omega,by omega⟩
theorem Q0{ss bs:List Int}{key t v t' v':Int}(h:LV bs ss)(hv:W16 v)(Y5:W16 v'):Ok (lY bs key ss t v t' v') λ_=>True:=by
 obtain⟨v0,v1⟩:=hv;obtain⟨u0,u1⟩:=Y5;unfold lY;rw[ej (x:=v) (by omega) (by omega),ej (by omega) (by omega)];refine(yE h ⟨v0,v1⟩).bind ?_;rintro⟨r,o,ok,_⟩ _;refine(yE h ⟨u0,u1⟩).bind ?_;rintro⟨r',o',ok',_⟩ _;cases ok<;>cases ok'<;>exact Ok.ret trivial
theorem JR(b:Bool):lw b=some (0,(bif b then 1 else 0),()):=by cases b<;>rfl
theorem TL{op b c:Int}(hb:W16 b)(hc:W16 c):Ok (lX op b c) λr=>∃v e,r=(0,v,e,())/\W16 v/\0<=e/\e<=6:=by
 obtain⟨b0,b1⟩:=hb;obtain⟨c0,c1⟩:=hc;have ZZ:∀x:Int,W16 x->Ok (some ((0:Int),x,(0:Int),())) λr=>∃v e,r=(0,v,e,())/\W16 v/\0<=e/\e<=6:=λx h=>Ok.ret ⟨x,0,rfl,h,by decide,by decide⟩;have z5:Ok (some ((0:Int),(0:Int),(5:Int),())) λr=>∃v e,r=(0,v,e,())/\W16 v/\0<=e/\e<=6:=Ok.ret ⟨0,5,rfl,⟨by decide,by decide⟩,by decide,by decide⟩;have hw:=rW;unfold lX
 (with_reducible refine dO (λZ'=>?_) λZ'=>?_)
 ·exact ZZ _ (rW _)
 (with_reducible refine dO (λZ3=>?_) λZ3=>?_)
 ·exact ZZ _ (rW _)
 (with_reducible refine dO (λhcc=>?_) λhcc=>?_)
 ·exact ZZ _ (rW _)
 have hq:∀X:Option (Int×Int×Int×Unit),c≠0->(X=(bif(op==6)then(bif(c != 0)then some ((0:Int),wk .u16 (Int.tdiv b c),(0:Int),())else none)else bif(c != 0)then some ((0:Int),Int.tmod b c,(0:Int),())else none))->Ok X λr=>∃v e,r=(0,v,e,())/\W16 v/\0<=e/\e<=6:=by
  rintro _ hne rfl;refine Ok.cond (λ_=>dP (by rw[bne_iff_ne];exact hne) (ZZ _ (rW _))) λ_=>dP (by rw[bne_iff_ne];exact hne) (ZZ _ ?_);rw[Int.tmod_eq_emod_of_nonneg b0];have h1:=Int.emod_nonneg b hne;have h2:=Int.emod_lt_of_pos b (show 0<c by omega);exact⟨h1,by omega⟩
 (with_reducible refine dO (λXr=>?_) λXr=>?_)
 ·(with_reducible refine dO (λWk=>?_) λWk=>?_)
  ·exact z5
  ·simp_all
 (with_reducible refine dO (λXr=>?_) λXr=>?_)
 ·(with_reducible refine dO (λWk=>?_) λWk=>?_)
  ·exact z5
  ·simp_all
 (with_reducible refine dO (λVA=>?_) λVA=>?_)
 ·exact ZZ _ (hw _)
 (with_reducible refine dO (λVA=>?_) λVA=>?_)
 ·exact ZZ _ (hw _)
 (with_reducible refine dO (λVA=>?_) λVA=>?_)
 ·exact ZZ _ (hw _)
 (with_reducible refine dO (λVA=>?_) λVA=>?_)
 ·rw[Int.tmod_eq_emod_of_nonneg c0];refine Ok.nat (by omega) λj hj=>?_;exact ZZ _ (hw _)
 (with_reducible refine dO (λVA=>?_) λVA=>?_)
 ·rw[Int.tmod_eq_emod_of_nonneg c0];refine Ok.nat (by omega) λj hj=>ZZ _ ?_;show W16 (Int.fdiv b (2 ^ (min j 16)));have hp:(0:Int)<2 ^ (min j 16):=Int.pow_pos (by decide);rw[Int.fdiv_eq_ediv_of_nonneg _ (by omega)];exact⟨Int.ediv_nonneg b0 (by omega),by have:=Int.ediv_le_self (2 ^ (min j 16)) b0;omega⟩
 rw[JR];refine ZZ _ ?_;cases decide (b<c)
 ·exact⟨by decide,by decide⟩
 ·exact⟨by decide,by decide⟩
def RA(K:Int->Prop)(r:Int×Int×Int×Unit):Prop:=∃t v e,r=(t,v,e,())/\pL K (t,v)/\0<=e/\e<=6
theorem uA{K:Int->Prop}{t v e:Int}(h:pL K (t,v))(h0:0<=e)(h1:e<=6):Ok (some (t,v,e,())) (RA K):=Ok.ret ⟨t,v,e,rfl,h,h0,h1⟩
theorem AV{K:Int->Prop}{v:Int}(h:W16 v):pL K (0,v):=nN h
theorem Iq{K:Int->Prop}(b:Bool):pL K (0,bif b then 1 else 0):=AV (by cases b<;>exact⟨by decide,by decide⟩)
theorem wR{K:Int->Prop}:pL K (0,0):=AV ⟨by decide,by decide⟩
theorem UF{ss bs:List Int}{key op t v t' v':Int}(h:LV bs ss)(hb:pL (RK bs ss) (t,v))(hc:pL (RK bs ss) (t',v')):Ok (vg bs key ss op t v t' v') (RA (RK bs ss)):=by
 obtain⟨t0,t2,v0,v1,_⟩:=hb;obtain⟨u0,u2,w0,w1,_⟩:=hc;dsimp only at t0 t2 v0 v1 u0 u2 w0 w1;obtain⟨_,eN,n1,n2,rfl,W3,hn2,hn3⟩:=TL (op:=op) (b:=v) (c:=v') ⟨v0,v1⟩ ⟨w0,w1⟩;obtain⟨_,eA,a1,a2,a3,rfl,XF,WZ,ha3,_⟩:=Bz (key:=key) (tag:=t) (back:=false) h (v:=v) (n:=v') ⟨v0,v1⟩ ⟨w0,w1⟩;obtain⟨_,eB,b1,b2,b3,rfl,hb1,ZY,hb3,_⟩:=Bz (key:=key) (tag:=t') (back:=false) h (v:=v') (n:=v) ⟨w0,w1⟩ ⟨v0,v1⟩;obtain⟨_,eC,c1,c2,c3,rfl,ZS,ZK,hc3,_⟩:=Bz (key:=key) (tag:=t) (back:=true) h (v:=v) (n:=v') ⟨v0,v1⟩ ⟨w0,w1⟩;obtain⟨⟨p1,p2,p3,p4,ok,_⟩,eP,_⟩:=Q0 (key:=key) (t:=t) (t':=t') h (v:=v) (v':=v') ⟨v0,v1⟩ ⟨w0,w1⟩;unfold vg
 (with_reducible refine dO (λZ'=>?_) λZ'=>?_)
 ·exact uA wR (by decide) (by decide)
 (with_reducible refine dO (λZ3=>?_) λZ3=>?_)
 ·exact uA wR (by decide) (by decide)
 cases h14:(op==14)with
 |true=>
  simp only[oCT,JR,oBS];exact uA (Iq _) (by decide) (by decide)
 |false=>
  simp only[oCF,eN,eA,eB,eC,eP,oBS]
  rcases(show t=0\/t=1\/t=2 by omega)with rfl|rfl|rfl<;>rcases(show t'=0\/t'=1\/t'=2 by omega)with rfl|rfl|rfl
  all_goals
   cases h3:(op==3)<;>cases h4:(op==4)<;>cases h13:(op==13)<;>simp only[Int.reduceBEq,oCT,oCF,oBS,h3,h4,h13,JR,eN,eA,eB,eC,eP,BEq.rfl]
  all_goals first
   |exact uA (AV W3) hn2 hn3
   |exact uA XF WZ ha3
   |exact uA hb1 ZY hb3
   |exact uA ZS ZK hc3
   |exact uA wR (by decide) (by decide)
   |(cases ok<;>first
    |exact uA wR (by decide) (by decide)
    |exact uA (Iq _) (by decide) (by decide)
    |exact uA (AV (rW _)) (by decide) (by decide))
theorem O6{l:List Int}{k:Int}(h:DOk l k):Ok (oI l k) λr=>∃t b s k',r=(t,b,s,l,k',())/\0<=t/\t<4/\0<=b/\b<=63/\DOk l k':=by
 unfold oI
 (with_reducible refine fS (by omega) (by omega) (by omega) (λv0 k0 a0 b0 d0=>?_);try dsimp only)
 (with_reducible refine fS (by omega) (by omega) (by omega) (λv1 k1 a1 b1 d1=>?_);try dsimp only)
 (with_reducible refine Ok.nat (by omega) (λj1 hj1=>?_);try dsimp only)
 have hm:∀x∈[(0:Int),1,2,3,7,63],0<=x/\x<=63:=by simp_all
 refine Ok.get (by simp;omega) λx hx=>?_;refine Ok.get (by simp;omega) λy hy=>?_;have Xo:=hm y (dU hy)
 (with_reducible refine fS (by omega) (by omega) (by omega) (λv2 k2 a2 b2 d2=>?_);try dsimp only)
 exact Ok.ret ⟨_,_,_,_,rfl,a0,b0,Xo.1,Xo.2,d2⟩
def jF:List DTh->Int->List Int
 | [],_=>[]
 |t::ts,i=>if t.1=1 then i::jF ts (i+1)else jF ts (i+1)
theorem EA(a b:List DTh)(i:Int):jF (a++b) i=jF a i++jF b (i+a.length):=by
 induction a generalizing i with
 |nil=>simp[jF]
 |cons t a ih=>
  simp[jF,ih];rw[show i+1+(a.length:Int)=i+((a.length+1:Nat):Int) by omega];split<;>rfl
theorem D1(a:List DTh)(i:Int):(jF a i).length<=a.length:=by
 induction a generalizing i with
 |nil=>simp[jF]
 |cons t a ih=>
  simp[jF];have:=ih (i+1);split<;>simp<;>omega
theorem LT{a:List DTh}{i x:Int}(h:x∈jF a i):i<=x/\x<i+a.length/\∃t,a[(x-i).toNat]?=some t/\t.1=1:=by
 induction a generalizing i with
 |nil=>simp[jF]at h
 |cons t a ih=>
  simp[jF]at h
  have key:x∈jF a (i+1)->i<=x/\x<i+((t::a).length:Int)/\∃t',(t::a)[(x-i).toNat]?=some t'/\t'.1=1:=by
   intro h;have ⟨h1,h2,t',h3,h4⟩:=ih h;refine⟨by omega,by simp;omega,t',?_,h4⟩;rw[show(x-i).toNat=(x-(i+1)).toNat+1 by omega,List.getElem?_cons_succ];exact h3
  split at h
  ·rename_i ht;rcases List.mem_cons.1 h with rfl|h
   ·exact⟨by omega,by simp;omega,t,by simp,ht⟩
   ·exact key h
  ·exact key h
theorem Qa{ts:List DTh}(h:ts.length<=1000):oz ts=some (jF ts 0,()):=by
 have e:dY jl NN (ts,(ts.length:Int),0,[],())=some (ts,(ts.length:Int),(ts.length:Int),false,jF ts 0,()):=by
  have:=mC (f:=jl) (N:=NN) (st:=λk=>(ts,(ts.length:Int),(k:Int),jF (ts.take k) 0,())) (n:=ts.length) (t:=(ts,(ts.length:Int),(ts.length:Int),false,jF ts 0,())) (by unfold NN;omega) ?_ ?_
  ·exact this
  ·intro k hk;unfold jl;dsimp only
   (with_reducible refine dO (λZ'=>?_) λZ'=>?_)
   ·rw[dT];simp;obtain⟨x,hx⟩:∃x,ts[k]?=some x:=⟨_,oGE hk⟩;rw[show dR ts k=some x from hx];simp;have hlen:=D1 (ts.take k) 0;rw[oLT]at hlen
    have I':jF (ts.take (k+1)) 0=jF (ts.take k) 0++(if x.1=1 then[(k:Int)]else[]):=by
     rw[List.take_add_one,hx,EA];congr 1;rw[oLT,show 0+((min k ts.length:Nat):Int)=(k:Int) by omega];simp only[Option.toList,jF]
    refine Ok.bind (P:=(·=(ts,(ts.length:Int),(k:Int),jF (ts.take (k+1)) 0,()))) ?_ ?_
    ·(with_reducible refine dO (λZ3=>?_) λZ3=>?_)
     ·refine dP (d8 (by simp;omega)) ?_;rw[I',oIP Z3];exact Ok.ret rfl
     ·rw[I',oIN Z3,List.append_nil];exact Ok.ret rfl
    ·rintro _ rfl
     (simp (disch:=omega) only [dX,eE,ej,ee])
     exact Ok.ret rfl
   ·omega
  ·unfold jl;dsimp only
   (with_reducible refine dO (λZ'=>?_) λZ'=>?_)
   ·omega
   ·rw[List.take_length];exact Ok.ret rfl
 refine fc ?_;unfold oz;delta dS
 try dsimp only
 rw[e];exact Ok.ret rfl
theorem Ck{ow:List Int}{qs:List (List Int)}(h:j4 ow qs):nC ow qs=some (ow,qs,()):=by
 have hq4:∀q∈qs,q.length<=4:=λq hq=>h.qlen4 hq;obtain⟨h1,h2,h3,h4⟩:=h
 have e:dY jM NN (qs,(qs.length:Int),0,ow,qs,(),(),ow,[],())=some (qs,(qs.length:Int),(qs.length:Int),false,ow,qs,(),(),ow,qs,()):=by
  have:=mC (f:=jM) (N:=NN) (st:=λk=>(qs,(qs.length:Int),(k:Int),ow,qs,(),(),ow,qs.take k,())) (n:=qs.length) (t:=(qs,(qs.length:Int),(qs.length:Int),false,ow,qs,(),(),ow,qs,())) (by unfold NN;omega) ?_ ?_
  ·exact this
  ·intro k hk;unfold jM
   (with_reducible refine dO (λZ'=>?_) λZ'=>?_)
   ·rw[dT];refine Ok.get (by omega) λx hx=>?_;have:=hq4 x (dU hx);refine dP (d8 (by omega)) (dP (d8 (by simp;omega)) ?_)
    (simp (disch:=omega) only [dX,eE,ej,ee])
    refine Ok.ret ?_;rw[List.take_add_one,hx];rfl
   ·omega
  ·unfold jM
   (with_reducible refine dO (λZ'=>?_) λZ'=>?_)
   ·omega
   ·rw[List.take_length];exact Ok.ret rfl
 refine fc ?_;refine dP (d8 (by omega)) ?_;rw[show List.append [] ow=ow from rfl];delta dS
 try dsimp only
 rw[e];exact Ok.ret rfl
theorem JN{ow:List Int}{qs:List (List Int)}{lock t:Int}(h:j4 ow qs):Ok (lu ow qs lock t) λr=>∃Zk qs' n b,r=(Zk,qs',n,b,())/\j4 Zk qs'/\-1<=n/\n<=3:=by
 unfold lu;rw[Ck h];obtain⟨h1,h2,h3,h4⟩:=id h;refine Ok.bind (P:=λr=>∃b,r=(lock,b,(),(),ow,qs,())/\(b=false->0<=lock/\lock<4)) ?_ ?_
 ·(with_reducible refine dO (λZ'=>?_) λZ'=>?_)
  ·exact Ok.ret ⟨true,rfl,λh=>by cases h⟩
  ·(with_reducible refine dO (λZ3=>?_) λZ3=>?_)
   ·exact Ok.ret ⟨true,rfl,λh=>by cases h⟩
   ·refine Ok.nat (by omega) λj hj=>?_;refine Ok.get (by omega) λx hx=>?_;exact Ok.ret ⟨_,rfl,λ_=>⟨by omega,by omega⟩⟩
 rintro _ ⟨b,rfl,hb⟩;dsimp only;refine Ok.cond (λ_=>Ok.ret ⟨_,_,_,_,rfl,h,by omega,by omega⟩) λhbf=>?_;obtain⟨l0,l1⟩:=hb hbf;obtain⟨j,rfl⟩:∃j:Nat,lock=j:=⟨lock.toNat,by omega⟩;obtain⟨o,ho⟩:∃o,ow[j]?=some o:=⟨_,oGE (by omega)⟩;obtain⟨q,hq⟩:∃q,qs[j]?=some q:=⟨_,oGE (by omega)⟩;have go:dR ow j=some o:=ho;have gq:dR qs j=some q:=hq;have gm:∀f:Int->Int,dR (List.modify ow j f) j=some (f o):=λf=>vn ho;have gm2:∀f g:Int->Int,dR (List.modify (List.modify ow j f) j g) j=some (g (f o)):=λf g=>vn (vn ho);delta dS;simp only[dT,oBS,go,gq,gm,gm2];have Xv:j4 (List.modify ow j λ_=>-1) qs:=⟨by rw[oLM];exact h1,h2,kg h3 λ_ _=>⟨by omega,by omega⟩,h4⟩
 (with_reducible refine dO (λhcc=>?_) λhcc=>?_)
 ·obtain⟨x,hx⟩:∃x,q[0]?=some x:=⟨_,oGE (by omega)⟩;have gx:dR q 0=some x:=hx;have Yq:=(h4 q (dU hq)).2 x (dU hx);simp only[gx,oBS];refine dP (by unfold iz;simp;omega) ?_;refine Ok.ret ⟨_,_,_,_,rfl,⟨by rw[oLM,oLM];exact h1,by rw[oLM];exact h2,kg (kg h3 λ_ _=>⟨by omega,by omega⟩) λ_ _=>⟨by omega,by omega⟩,kg h4 λ_ _=>?_⟩,by omega,by omega⟩;obtain⟨q1,q2⟩:=h4 q (dU hq);unfold lF;have hs:(List.take (Nat.sub q.length 1) (List.drop 1 q)).Sublist q:=(List.take_sublist _ _).trans (List.drop_sublist _ _);exact⟨q1.sublist hs,λt ht=>q2 t (hs.subset ht)⟩
 ·exact Ok.ret ⟨_,_,_,_,rfl,Xv,by omega,by omega⟩
theorem Ma{q:List Int}{x:Int}(h:q.Nodup)(hx:x ∉ q):(q++[x]).Nodup:=by
 grind
theorem SR{ow:List Int}{qs:List (List Int)}{t:Int}(h:j4 ow qs):Ok (qn ow qs t) λr=>∃Zk qs' nx,r=(Zk,qs',nx,())/\j4 Zk qs'/\nx.length<=4/\∀x∈nx,0<=x/\x<=3:=by
 unfold qn;rw[Ck h];delta dS;simp only[oBS];have h2:=h.qlen;refine Ok.loop (P:=λs'=>∃k:Nat,∃qs',s'=(t,(qs.length:Int),(k:Int),(),(),ow,qs',())/\k<=qs.length/\j4 ow qs') (R:=λr=>∃a b c qs',r=(t,a,b,c,(),(),ow,qs',())/\j4 ow qs') (m:=λs'=>(s'.2.1-s'.2.2.1).toNat) ⟨0,qs,rfl,by omega,h⟩ (by unfold NN;dsimp only;omega) ?_ ?_
 ·rintro _ ⟨k,qs',rfl,hk,hl⟩;obtain⟨g1,g2,g3,g4⟩:=id hl;unfold tY;dsimp only
  (with_reducible refine dO (λZ'=>?_) λZ'=>?_)
  ·obtain⟨q,hq⟩:∃q,qs'[k]?=some q:=⟨_,oGE (by omega)⟩;have gq:dR qs' k=some q:=hq;obtain⟨q1,q2⟩:=g4 q (dU hq);have q3:=hl.qlen4 (dU hq);delta dS;simp only[dT,oBS,gq]
   refine Ok.loop (P:=λs'=>∃j:Nat,∃l,s'=(t,(k:Int),(qs.length:Int),(k:Int),k,(q.length:Int),(j:Int),(),(),ow,qs',l,())/\j<=q.length/\l.Sublist (q.take j))
    (R:=λr=>∃a b c d l,r=(t,(k:Int),(qs.length:Int),(k:Int),a,b,c,d,(),(),ow,qs',l,())/\l.Sublist q) (m:=λs'=>(s'.2.2.2.2.2.1-s'.2.2.2.2.2.2.1).toNat) ⟨0,[],rfl,by omega,by simp⟩ (by unfold NN;dsimp only;omega) ?_ ?_
   ·rintro _ ⟨j,l,rfl,hj,Z9⟩;unfold tZ;dsimp only
    (with_reducible refine dO (λZ3=>?_) λZ3=>?_)
    ·obtain⟨x,hx⟩:∃x,q[j]?=some x:=⟨_,oGE (by omega)⟩;have gx:dR q j=some x:=hx;simp only[dT,oBS,gq,gx];have Ws:=Z9.length_le;rw[oLT]at Ws
     have htk:q.take (j+1)=q.take j++[x]:=by rw[List.take_add_one,hx];rfl
     refine Ok.bind (P:=λr=>∃l',r=(t,(k:Int),(qs.length:Int),(k:Int),k,(q.length:Int),(j:Int),(),(),ow,qs',l',())/\l'.Sublist (q.take (j+1))) ?_ ?_
     ·refine Ok.cond (λ_=>dP (d8 (by simp;omega)) (Ok.ret ⟨_,rfl,?_⟩)) λ_=>Ok.ret ⟨l,rfl,?_⟩
      ·rw[htk];exact Z9.append (List.Sublist.refl _)
      ·rw[htk];exact Z9.trans (List.sublist_append_left _ _)
     ·rintro _ ⟨l',rfl,hs⟩;dsimp only
      (simp (disch:=omega) only [dX,eE,ej,ee])
      exact Ok.ret ⟨⟨j+1,l',rfl,by omega,hs⟩,by dsimp only;omega⟩
    ·exact Ok.ret ⟨_,_,_,_,l,rfl,Z9.trans (List.take_sublist _ _)⟩
   ·rintro _ ⟨a,b,c,d,l,rfl,hs⟩;dsimp only;simp only[dT,oBS,gq]
    (simp (disch:=omega) only [dX,eE,ej,ee])
    exact Ok.ret ⟨⟨k+1,_,rfl,by omega,⟨g1,by rw[oLM];exact g2,g3,kg g4 λ_ _=>⟨q1.sublist hs,λt ht=>q2 t (hs.subset ht)⟩⟩⟩,by dsimp only;omega⟩
  ·exact Ok.ret ⟨_,_,_,qs',rfl,hl⟩
 ·rintro _ ⟨a,b,c,qs',rfl,hl⟩;dsimp only
  refine Ok.loop (P:=λs'=>∃k:Nat,∃Zk qs' nx,s'=(t,4,(k:Int),(),(),Zk,qs',nx,())/\k<=4/\nx.length<=k/\j4 Zk qs'/\∀x∈nx,0<=x/\x<=3) (R:=λr=>∃a b c Zk qs' nx,r=(t,a,b,c,(),(),Zk,qs',nx,())/\j4 Zk qs'/\nx.length<=4/\∀x∈nx,0<=x/\x<=3) (m:=λs'=>(4-s'.2.2.1).toNat)
   ⟨0,ow,qs',[],by rw[hl.olen];rfl,by omega,by simp,hl,eJ⟩ (by unfold NN;dsimp only;omega) ?_ ?_
  ·rintro _ ⟨k,Zk,qs',nx,rfl,hk,XR,Zi,W4⟩;unfold tX;dsimp only
   (with_reducible refine dO (λZ'=>?_) λZ'=>?_)
   ·refine(JN Zi).bind ?_;rintro _ ⟨ow2,qs2,n,bb,rfl,hl2,n0,n1⟩;dsimp only;refine Ok.bind (P:=λr=>∃nx',r=(t,4,(k:Int),(),(),Zk,qs',nx',ow2,qs2,())/\nx'.length<=k+1/\∀x∈nx',0<=x/\x<=3) ?_ ?_
    ·refine Ok.cond (λ_=>?_) λ_=>Ok.ret ⟨nx,rfl,by omega,W4⟩
     (with_reducible refine dO (λZ3=>?_) λZ3=>?_)
     ·refine dP (d8 (by simp;omega)) (Ok.ret ⟨_,rfl,by rw[fB];simp;omega,kA W4 (all_cons ⟨by omega,n1⟩ eJ)⟩)
     ·exact Ok.ret ⟨nx,rfl,by omega,W4⟩
    ·rintro _ ⟨nx',rfl,W3,hn2⟩;dsimp only
     (simp (disch:=omega) only [dX,eE,ej,ee])
     exact Ok.ret ⟨⟨k+1,_,_,_,rfl,by omega,W3,hl2,hn2⟩,by dsimp only;omega⟩
   ·exact Ok.ret ⟨_,_,_,_,_,_,rfl,Zi,by omega,W4⟩
  ·rintro _ ⟨a,b,c,Zk,qs',nx,rfl,Zi,hn4,W4⟩;exact Ok.ret ⟨_,_,_,rfl,Zi,hn4,W4⟩
theorem RJ{ow:List Int}{qs:List (List Int)}{lock t:Int}(h:j4 ow qs)(ht:0<=t/\t<=3):Ok (qm ow qs lock t) λr=>∃Zk qs' n,r=(Zk,qs',n,())/\j4 Zk qs':=by
 unfold qm;rw[Ck h];simp only[oBS];obtain⟨h1,h2,h3,h4⟩:=id h;refine Ok.bind (P:=λr=>∃b,r=(lock,t,b,ow,qs,(),(),ow,qs,())/\(b=false->0<=lock/\lock<4)) ?_ ?_
 ·(with_reducible refine dO (λZ'=>?_) λZ'=>?_)
  ·exact Ok.ret ⟨true,rfl,λh=>by cases h⟩
  ·(with_reducible refine dO (λZ3=>?_) λZ3=>?_)
   ·exact Ok.ret ⟨true,rfl,λh=>by cases h⟩
   ·refine Ok.nat (by omega) λj hj=>?_;refine Ok.get (by omega) λx hx=>?_;exact Ok.ret ⟨_,rfl,λ_=>⟨by omega,by omega⟩⟩
 rintro _ ⟨b,rfl,hb⟩;dsimp only;refine Ok.cond (λ_=>Ok.ret ⟨_,_,_,rfl,h⟩) λhbf=>?_;obtain⟨l0,l1⟩:=hb hbf;delta dS
 try dsimp only
 obtain⟨r,e,hr⟩:=gI (f:=pe) (n:=NN) (s:=(lock,t,qs,(qs.length:Int),0,ow,qs,(),(),ow,qs,())) (P:=λs'=>∃k:Nat,s'=(lock,t,qs,(qs.length:Int),(k:Int),ow,qs,(),(),ow,qs,())/\k<=qs.length/\∀(i:Nat) q,i<k->qs[i]?=some q->t ∉ q)
  (R:=λr=>r=.inl (2,ow,qs,())\/((∃a b c,r=.inr (lock,t,a,b,c,false,ow,qs,(),(),ow,qs,()))/\∀q∈qs,t ∉ q)) (m:=λs'=>(s'.2.2.2.1-s'.2.2.2.2.1).toNat) ⟨0,rfl,by omega,λi q hi=>by omega⟩ (by unfold NN;dsimp only;omega) (by
   rintro _ ⟨k,rfl,hk,ZO⟩;unfold pe;dsimp only
   (with_reducible refine dO (λZ'=>?_) λZ'=>?_)
   ·obtain⟨q,hq⟩:∃q,qs[k]?=some q:=⟨_,oGE (by omega)⟩;have gq:dR qs k=some q:=hq;have q3:=h.qlen4 (dU hq);delta dS;simp only[dT,oBS,gq]
    obtain⟨r,e,hr⟩:=gI (f:=pf) (n:=NN) (s:=(lock,t,qs,(qs.length:Int),(k:Int),q,(q.length:Int),0,ow,qs,(),(),ow,qs,())) (P:=λs'=>∃j:Nat,s'=(lock,t,qs,(qs.length:Int),(k:Int),q,(q.length:Int),(j:Int),ow,qs,(),(),ow,qs,())/\j<=q.length/\∀(i:Nat) x,i<j->q[i]?=some x->x≠t)
     (R:=λr=>r=.inl (2,ow,qs,())\/((∃a b c,r=.inr (lock,t,qs,(qs.length:Int),(k:Int),a,b,c,false,ow,qs,(),(),ow,qs,()))/\t ∉ q)) (m:=λs'=>(s'.2.2.2.2.2.2.1-s'.2.2.2.2.2.2.2.1).toNat) ⟨0,rfl,by omega,λi x hi=>by omega⟩ (by unfold NN;dsimp only;omega) (by
      rintro _ ⟨j,rfl,hj,hne⟩;unfold pf;dsimp only
      (with_reducible refine dO (λZ3=>?_) λZ3=>?_)
      ·obtain⟨x,hx⟩:∃x,q[j]?=some x:=⟨_,oGE (by omega)⟩;have gx:dR q j=some x:=hx;simp only[dT,oBS,gx]
       (with_reducible refine dO (λhcc=>?_) λhcc=>?_)
       ·exact Ok.ret (.inl rfl)
       ·(simp (disch:=omega) only [dX,eE,ej,ee])
        exact Ok.ret ⟨⟨j+1,rfl,by omega,Lm hne hx hcc⟩,by dsimp only;omega⟩
      ·refine Ok.ret (.inr ⟨⟨_,_,_,rfl⟩,λhm=>?_⟩);obtain⟨i,hi⟩:=List.getElem?_of_mem hm
       exact hne i t (by have:=(oGS hi).1;omega) hi rfl)
    rw[e];rcases hr with rfl|⟨⟨a,b,c,rfl⟩,hnot⟩
    ·exact Ok.ret (.inl rfl)
    ·dsimp only
     (simp (disch:=omega) only [dX,eE,ej,ee])
     refine Ok.ret ⟨⟨k+1,rfl,by omega,λi q' hi hq'=>?_⟩,by dsimp only;omega⟩;by_cases hik:i=k
     ·simp_all
     ·exact ZO i q' (by omega) hq'
   ·refine Ok.ret (.inr ⟨⟨_,_,_,rfl⟩,λq hq=>?_⟩);obtain⟨i,hi⟩:=List.getElem?_of_mem hq
    exact ZO i q (by have:=(oGS hi).1;omega) hi)
 rw[e];rcases hr with rfl|⟨⟨a,b,c,rfl⟩,hnot⟩
 ·exact Ok.ret ⟨_,_,_,rfl,h⟩
 ·dsimp only;obtain⟨j,rfl⟩:∃j:Nat,lock=j:=⟨lock.toNat,by omega⟩;obtain⟨o,ho⟩:∃o,ow[j]?=some o:=⟨_,oGE (by omega)⟩;obtain⟨q,hq⟩:∃q,qs[j]?=some q:=⟨_,oGE (by omega)⟩;have go:dR ow j=some o:=ho;have gq:dR qs j=some q:=hq;simp only[dT,oBS,go,gq]
  (with_reducible refine dO (λXr=>?_) λXr=>?_)
  ·exact Ok.ret ⟨_,_,_,rfl,⟨by rw[oLM];exact h1,h2,kg h3 λ_ _=>⟨by omega,ht.2⟩,h4⟩⟩
  ·have q3:=h.qlen4 (dU hq);refine dP (d8 (by simp;omega)) (dP (by simp) (Ok.ret ⟨_,_,_,rfl,⟨h1,by rw[oLM];exact h2,h3,kg h4 λ_ _=>⟨?_,?_⟩⟩⟩))
   ·exact Ma (h4 q (dU hq)).1 (hnot q (dU hq))
   ·exact kA (h4 q (dU hq)).2 (all_cons ht eJ)
theorem eK{α:Type}{l:List α}{i:Nat}{a:α}(h:l[i]?=some a)(f:α->α):List.modify l i f=l.set i (f a):=by
 apply List.ext_getElem?
 grind
theorem jd{α:Type}{l:List α}{i:Nat}(h:i<l.length)(a:α):dR (l.set i a) i=some a:=by
 show(l.set i a)[i]?=some a
 simp_all
theorem ry{α:Type}{l:List α}{i:Nat}(h:i<l.length)(a:α)(f:α->α):List.modify (l.set i a) i f=l.set i (f a):=by
 rw[eK (jd h a),List.set_set]
theorem jX{α:Type}{P:α->Prop}{l:List α}{i:Nat}{a:α}(h:∀x∈l,P x)(ha:P a):∀x∈l.set i a,P x:=by
 grind
theorem MOk.set{n:Int}{ss bs:List Int}{cs Z4:List DCe}{ls Z2:List DLn}{ts:List DTh}(h:MOk n ss bs cs ls ts)(hm:kW (RK bs ss) Z4 Z2){i:Nat}{t:DTh}(ht:CG (RK bs ss) n t):MOk n ss bs Z4 Z2 (ts.set i t):=
 ⟨h.lay,hm,by rw[List.length_set];exact h.tlen,jX h.thr ht⟩
def Vk(code:List DIn)(t:DTh)(s:Int)(t':DTh):Prop:=
 (s=-1/\t'.1=1/\((t'.2.2.2.1=t.2.2.2.1/\t'.2.2.1=t.2.2.1+1)\/t'.2.2.2.1=t.2.2.2.1+1))\/(s=2/\t'.1=4/\t'.2.2.2.1=t.2.2.2.1)\/
  (s=1/\t'.1=2/\t'.2.2.2.1=t.2.2.2.1/\∃i:DIn,1<=t'.2.2.1/\code[(t'.2.2.1-1).toNat]?=some i/\i.1=23)
def Ke(n key:Int)(code:List DIn)(ss bs:List Int)(ts:List DTh)(i:Nat)(t:DTh)(r:Int×List Int×Int×List DCe×List DLn×List DTh×Unit):Prop:=
 ∃s Z4 Z2 t',r=(s,bs,key,Z4,Z2,ts.set i t',())/\kW (RK bs ss) Z4 Z2/\CG (RK bs ss) n t'/\Vk code t s t'
theorem py{n key:Int}{code:List DIn}{ss bs:List Int}{ts:List DTh}{i:Nat}{t t':DTh}{Z4:List DCe}{Z2:List DLn}(hm:kW (RK bs ss) Z4 Z2)(ht:CG (RK bs ss) n t')(h1:t'.1=1)
 (h:(t'.2.2.2.1=t.2.2.2.1/\t'.2.2.1=t.2.2.1+1)\/t'.2.2.2.1=t.2.2.2.1+1):Ok (some (-1,bs,key,Z4,Z2,ts.set i t',())) (Ke n key code ss bs ts i t):=Ok.ret ⟨_,_,_,_,rfl,hm,ht,.inl ⟨rfl,h1,h⟩⟩
theorem oK{n key Xp:Int}{code:List DIn}{ss bs:List Int}{ts:List DTh}{i:Nat}{t:DTh}{Z4:List DCe}{Z2:List DLn}(hm:kW (RK bs ss) Z4 Z2)(ht:CG (RK bs ss) n t)(hw:0<=Xp/\Xp<=6):
 Ok (some (2,bs,key,Z4,Z2,ts.set i (4,t.2.1,t.2.2.1,t.2.2.2.1,t.2.2.2.2.1,t.2.2.2.2.2.1,Xp,0),())) (Ke n key code ss bs ts i t):=Ok.ret ⟨_,_,_,_,rfl,hm,ht.ended hw,.inr (.inl ⟨rfl,rfl,rfl⟩)⟩
theorem jv(op:Int):ni op=some (mZ op||op==22||op==24,()):=by
 unfold ni;rw[wF]
 grind
set_option maxHeartbeats 4000000 in
theorem TK{n key:Int}{code:List DIn}{ss bs:List Int}{d:List (List Int)}{cs:List DCe}{ls:List DLn}{ts:List DTh}{i:Nat}{t:DTh}(hp:kV code ss d)(h:MOk n ss bs cs ls ts)(ht:ts[i]?=some t)(hs:t.1=1)
 (hc:t.2.2.2.1+1<=n)(hn:n<=1099511627776):Ok (sc code ss d (i:Int) bs key cs ls ts) (Ke n key code ss bs ts i t):=by
 have hok:=h.thr t (dU ht);have hm:=h.mem;obtain⟨_,hl,hr,⟨p0,p1⟩,⟨c0,c1⟩,ha,⟨s0,s1⟩,⟨r0,r1⟩,hco⟩:=id hok;obtain⟨st,rs,pc,ct,hd,sa,tr,co⟩:=t;dsimp only at *;subst hs;have YQ:=(oGS ht).1;have hg:dR ts i=some (1,rs,pc,ct,hd,sa,tr,co):=ht;have e1:∀f:DTh->DTh,List.modify ts i f=ts.set i (f (1,rs,pc,ct,hd,sa,tr,co)):=λf=>eK ht f;have e2:∀x,dR (ts.set i x) i=some x:=λx=>jd YQ x;have e3:∀(x:DTh)(f:DTh->DTh),List.modify (ts.set i x) i f=ts.set i (f x):=λx f=>ry YQ x f
 have eT:∀Xp,fP (i:Nat) Xp ts=some (2,ts.set i (4,rs,pc,ct,hd,sa,Xp,0),()):=λXp=>by rw[RF (n:=n) ht,e1]
 have mk:∀{rs':List DCe}{pc' ct' sa':Int},rs'.length=8->(∀c∈rs',pL (RK bs ss) c)->0<=pc'/\pc'<=255->0<=ct'/\ct'<=n->-1<=sa'/\sa'<=255->CG (RK bs ss) n (1,rs',pc',ct',hd,sa',tr,co):=
  λh1 h2 h3 h4 h5=>⟨⟨show(0:Int)<=1 by decide,show(1:Int)<=4 by decide⟩,h1,h2,h3,h4,ha,h5,⟨r0,r1⟩,hco⟩
 unfold sc;rw[dT];delta dS;simp only[hg,oBS]
 (with_reducible refine dO (λZ'=>?_) λZ'=>?_)
 ·rw[eT 2];exact oK hm hok (by decide)
 refine Ok.nat p0 λj hj=>?_;subst hj;have Zd:=hp.clen;refine Ok.get (by omega) λx hx=>?_;obtain⟨op,A,B,C,I⟩:=x;obtain⟨⟨o0,o1⟩,⟨A0,A1,_⟩,⟨B0,B1,_⟩,⟨C0,C1,_⟩,⟨I0,I1,_⟩,hlea,hsys,VK⟩:=hp.ins _ (dU hx);dsimp only at *;obtain⟨A,rfl⟩:∃k:Nat,A=k:=⟨A.toNat,by omega⟩;obtain⟨B,rfl⟩:∃k:Nat,B=k:=⟨B.toNat,by omega⟩;obtain⟨C,rfl⟩:∃k:Nat,C=k:=⟨C.toNat,by omega⟩;obtain⟨I,rfl⟩:∃k:Nat,I=k:=⟨I.toNat,by omega⟩;obtain⟨⟨ta,va⟩,gA⟩:∃c,dR rs A=some c:=⟨_,oGE (by omega)⟩;obtain⟨⟨tb,vb⟩,gB⟩:∃c,dR rs B=some c:=⟨_,oGE (by omega)⟩;obtain⟨⟨tc,vc⟩,gC⟩:∃c,dR rs C=some c:=⟨_,oGE (by omega)⟩;have cA:=hr _ (dU gA);have cB:=hr _ (dU gB);have cC:=hr _ (dU gC);have eR:∀f:DCe->DCe,List.modify rs A f=rs.set A (f (ta,va)):=λf=>eK gA f;have w1:w64 ((j:Int)+1)=(j:Int)+1:=dX (by omega) (by omega);have wI:wk .u16 (I:Int)=I:=eE (by omega) (by omega);have Zo:∀{c:DCe},pL (RK bs ss) c->(rs.set A c).length=8/\∀x∈rs.set A c,pL (RK bs ss) x:=λhc=>⟨by rw[List.length_set];exact hl,jX hr hc⟩;have wc:w64 (ct+1)=ct+1:=dX (by omega) (by omega);simp only[dT,hg,gA,gB,oBS,w1,wI]
 rcases(show op=0\/op=1\/op=2\/op=15\/op=16\/op=17\/op=18\/op=19\/op=20\/op=21\/op=22\/op=23\/op=24\/(3<=op/\op<=14) by omega)with rfl|rfl|rfl|rfl|rfl|rfl|rfl|rfl|rfl|rfl|rfl|rfl|rfl|⟨q0,q1⟩
 all_goals try simp only[Int.reduceBEq,oCT,oCF,dT,hg,gA,gB,gC,e1,e2,e3,eR,eT,oBS,w1,wI,wc,jv,mZ,Bool.or_false,Bool.or_true,Bool.or_self,bne_self_eq_false]
 ·exact py hm (mk hl hr (by omega) (by omega) (by omega)) rfl (.inl ⟨rfl,rfl⟩)
 ·exact py hm (mk (Zo (nN (by omega))).1 (Zo (nN (by omega))).2 (by omega) (by omega) (by omega)) rfl (.inl ⟨rfl,rfl⟩)
 ·exact py hm (mk (Zo cB).1 (Zo cB).2 (by omega) (by omega) (by omega)) rfl (.inl ⟨rfl,rfl⟩)
 ·have hI:=hlea rfl;have hbl:=h.lay.2.1;obtain⟨b,hb⟩:∃b,bs[I]?=some b:=⟨_,oGE (by omega)⟩;obtain⟨z,hz⟩:∃z,ss[I]?=some z:=⟨_,oGE (by omega)⟩;have X2:=h.lay.2.2 I (by omega);unfold qc at X2;rw[ef hb,ef hz]at X2;have Yn:=h.lay.1.2.2 z (dU hz);have wb:wk .u16 b=b:=eE (by omega) (by omega);have gb:dR bs I=some b:=hb;simp only[gb,wb,Int.reduceBEq,oCT,oCF,dT,hg,gA,gB,gC,e1,e2,e3,eR,eT,oBS,w1,wI,wc,jv,mZ,Bool.or_false,Bool.or_true,Bool.or_self,bne_self_eq_false];have Z3:pL (RK bs ss) (1,b):=⟨by dsimp only;omega,by dsimp only;omega,by dsimp only;omega,by dsimp only;omega,λ_=>⟨I,b,z,hb,hz,by dsimp only;omega,by dsimp only;omega⟩⟩;exact py hm (mk (Zo Z3).1 (Zo Z3).2 (by omega) (by omega) (by omega)) rfl (.inl ⟨rfl,rfl⟩)
 ·obtain⟨_,em,t1,x1,e,rfl,ZS,VE,VF,WK⟩:=Bz (key:=key) (tag:=tb) (v:=vb) (n:=(I:Int)) (back:=false) h.lay ⟨cB.2.2.1,cB.2.2.2.1⟩ ⟨by omega,by omega⟩;simp only[em,oBS];by_cases hne:e=0
  ·subst hne;have wx:wk .i64 x1=x1:=ej (by have:=ZS.2.2.1;dsimp only at this;omega) (by have:=ZS.2.2.2.1;dsimp only at this;omega);obtain⟨_,el,t2,x2,Vr,V2,rfl,ZK,hm2⟩:=Ou (a:=x1) hm ⟨ZS.2.2.1,WK rfl⟩;simp only[wx,el,Int.reduceBEq,oCT,oCF,dT,hg,gA,gB,gC,e1,e2,e3,eR,eT,oBS,w1,wI,wc,jv,mZ,Bool.or_false,Bool.or_true,Bool.or_self,bne_self_eq_false];exact py hm2 (mk (Zo ZK).1 (Zo ZK).2 (by omega) (by omega) (by omega)) rfl (.inl ⟨rfl,rfl⟩)
  ·simp only[bne_iff_ne.2 hne,oCT];exact oK hm hok ⟨VE,VF⟩
 ·obtain⟨_,em,t1,x1,e,rfl,ZS,VE,VF,WK⟩:=Bz (key:=key) (tag:=ta) (v:=va) (n:=(I:Int)) (back:=false) h.lay ⟨cA.2.2.1,cA.2.2.2.1⟩ ⟨by omega,by omega⟩;simp only[em,oBS];by_cases hne:e=0
  ·subst hne;have wx:wk .i64 x1=x1:=ej (by have:=ZS.2.2.1;dsimp only at this;omega) (by have:=ZS.2.2.2.1;dsimp only at this;omega);obtain⟨_,el,Vr,V2,rfl,hm2⟩:=DR (a:=x1) (t:=tb) (v:=vb) hm ⟨ZS.2.2.1,WK rfl⟩ cB;simp only[wx,el,Int.reduceBEq,oCT,oCF,dT,hg,gA,gB,gC,e1,e2,e3,eR,eT,oBS,w1,wI,wc,jv,mZ,Bool.or_false,Bool.or_true,Bool.or_self,bne_self_eq_false];exact py hm2 (mk hl hr (by omega) (by omega) (by omega)) rfl (.inl ⟨rfl,rfl⟩)
  ·simp only[bne_iff_ne.2 hne,oCT];exact oK hm hok ⟨VE,VF⟩
 ·have:=VK (by decide);exact py hm (mk hl hr (by omega) (by omega) (by omega)) rfl (.inr rfl)
 ·have:=VK (by decide);by_cases hta:ta=0
  ·subst hta
   cases va==0 with
   |true=>
    simp only[BEq.rfl,Int.reduceBEq,oCT,oCF,dT,hg,gA,gB,gC,e1,e2,e3,eR,eT,oBS,w1,wI,wc,jv,mZ,Bool.or_false,Bool.or_true,Bool.or_self,bne_self_eq_false];exact py hm (mk hl hr (by omega) (by omega) (by omega)) rfl (.inr rfl)
   |false=>
    simp only[show(false==true)=false from rfl,Int.reduceBEq,oCT,oCF,dT,hg,gA,gB,gC,e1,e2,e3,eR,eT,oBS,w1,wI,wc,jv,mZ,Bool.or_false,Bool.or_true,Bool.or_self,bne_self_eq_false];exact py hm (mk hl hr (by omega) (by omega) (by omega)) rfl (.inr rfl)
  ·simp only[bne_iff_ne.2 hta,oCT];exact oK hm hok (by decide)
 ·have:=VK (by decide);by_cases hta:ta=0
  ·subst hta
   cases va==0 with
   |true=>
    simp only[show(true==false)=false from rfl,Int.reduceBEq,oCT,oCF,dT,hg,gA,gB,gC,e1,e2,e3,eR,eT,oBS,w1,wI,wc,jv,mZ,Bool.or_false,Bool.or_true,Bool.or_self,bne_self_eq_false];exact py hm (mk hl hr (by omega) (by omega) (by omega)) rfl (.inr rfl)
   |false=>
    simp only[BEq.rfl,Int.reduceBEq,oCT,oCF,dT,hg,gA,gB,gC,e1,e2,e3,eR,eT,oBS,w1,wI,wc,jv,mZ,Bool.or_false,Bool.or_true,Bool.or_self,bne_self_eq_false];exact py hm (mk hl hr (by omega) (by omega) (by omega)) rfl (.inr rfl)
  ·simp only[bne_iff_ne.2 hta,oCT];exact oK hm hok (by decide)
 ·have:=VK (by decide);have wj:wk .u16 ((j:Int)+1)=(j:Int)+1:=eE (by omega) (by omega);rw[wj];exact py hm (mk (Zo (nN (by omega))).1 (Zo (nN (by omega))).2 (by omega) (by omega) (by omega)) rfl (.inr rfl)
 ·by_cases hta:ta=0
  ·subst hta;have wa:wk .i64 va=va:=ej (by have:=cA.2.2.1;dsimp only at this;omega) (by have:=cA.2.2.2.1;dsimp only at this;omega);have a0:=cA.2.2.1;dsimp only at a0;by_cases hva:va>255
   ·simp only[oDT hva,bne_self_eq_false,oCT,oCF];exact oK hm hok (by decide)
   ·simp only[oDF hva,wa,Int.reduceBEq,oCT,oCF,dT,hg,gA,gB,gC,e1,e2,e3,eR,eT,oBS,w1,wI,wc,jv,mZ,Bool.or_false,Bool.or_true,Bool.or_self,bne_self_eq_false];exact py hm (mk hl hr (by omega) (by omega) (by omega)) rfl (.inr rfl)
  ·simp only[bne_iff_ne.2 hta,oCT];exact oK hm hok (by decide)
 ·refine Ok.ret ⟨_,_,_,_,rfl,hm,⟨⟨show(0:Int)<=2 by decide,show(2:Int)<=4 by decide⟩,hl,hr,⟨by dsimp only;omega,by dsimp only;omega⟩,⟨c0,by dsimp only;omega⟩,ha,⟨s0,s1⟩,⟨r0,r1⟩,hco⟩,.inr (.inr ⟨rfl,rfl,rfl,(23,(A:Int),(B:Int),(C:Int),(I:Int)),by dsimp only;omega,?_,rfl⟩)⟩;dsimp only;rw[show(j:Int)+1-1=(j:Int) by omega,oTN];exact hx
 ·by_cases hsa:sa=-1
  ·simp only[beq_iff_eq.2 hsa,oCT];exact oK hm hok (by decide)
  ·simp only[oBF hsa,Int.reduceBEq,oCT,oCF,dT,hg,gA,gB,gC,e1,e2,e3,eR,eT,oBS,w1,wI,wc,jv,mZ,Bool.or_false,Bool.or_true,Bool.or_self,bne_self_eq_false];exact py hm (mk hl hr (by omega) (by omega) (by omega)) rfl (.inr rfl)
 ·obtain⟨_,ed,t1,x1,e,rfl,ZS,VE,VF⟩:=UF (key:=key) (op:=op) h.lay cB cC;have n0:(op==0)=false:=oBF (by omega);have n1:(op==1)=false:=oBF (by omega);have n2:(op==2)=false:=oBF (by omega);have n15:(op==15)=false:=oBF (by omega);have n16:(op==16)=false:=oBF (by omega);have n17:(op==17)=false:=oBF (by omega);have n18:(op==18)=false:=oBF (by omega);have n19:(op==19)=false:=oBF (by omega);have n20:(op==20)=false:=oBF (by omega);have n21:(op==21)=false:=oBF (by omega);have n22:(op==22)=false:=oBF (by omega);have n23:(op==23)=false:=oBF (by omega);have n24:(op==24)=false:=oBF (by omega);simp only[n0,n1,n2,n15,n16,n17,n18,n19,n20,n21,n22,n23,n24,ed,Int.reduceBEq,oCT,oCF,dT,hg,gA,gB,gC,e1,e2,e3,eR,eT,oBS,w1,wI,wc,jv,mZ,Bool.or_false,Bool.or_true,Bool.or_self,bne_self_eq_false];by_cases hne:e=0
  ·subst hne;simp only[n18,n19,n20,n21,n22,n24,Int.reduceBEq,oCT,oCF,dT,hg,gA,gB,gC,e1,e2,e3,eR,eT,oBS,w1,wI,wc,jv,mZ,Bool.or_false,Bool.or_true,Bool.or_self,bne_self_eq_false];exact py hm (mk (Zo ZS).1 (Zo ZS).2 (by omega) (by omega) (by omega)) rfl (.inl ⟨rfl,rfl⟩)
  ·simp only[bne_iff_ne.2 hne,oCT];exact oK hm hok ⟨VE,VF⟩
theorem CG.mono{K:Int->Prop}{n m:Int}{t:DTh}(h:CG K n t)(hm:n<=m):CG K m t:=⟨h.state,h.len,h.regs,h.pc,⟨h.count.1,by have:=h.count.2;omega⟩,h.handler,h.saved,h.trap,h.code⟩
theorem MOk.mono{n m:Int}{ss bs:List Int}{cs:List DCe}{ls:List DLn}{ts:List DTh}(h:MOk n ss bs cs ls ts)(hm:n<=m):MOk m ss bs cs ls ts:=⟨h.lay,h.mem,h.tlen,λt ht=>(h.thr t ht).mono hm⟩
theorem Ev{α:Type}{l:List α}{i:Nat}{a:α}(h:l[i]?=some a):l.set i a=l:=by
 apply List.ext_getElem?
 grind
def US(code:List DIn)(s:Int)(t':DTh):Prop:=
 (s=0/\t'.1=1)\/(s=2/\t'.1=4)\/(s=1/\t'.1=2/\∃i:DIn,1<=t'.2.2.1/\code[(t'.2.2.1-1).toNat]?=some i/\i.1=23)
def Tc(n key:Int)(code:List DIn)(ss bs:List Int)(ts:List DTh)(i:Nat)(r:List Int×Int×List DCe×List DLn×List DTh×Int×Int×Unit):Prop:=
 ∃s Z4 Z2 t',r=(bs,key,Z4,Z2,ts.set i t',s,0,())/\kW (RK bs ss) Z4 Z2/\CG (RK bs ss) n t'/\((s=3/\ts[i]?=some t'/\t'.1≠1)\/US code s t')
def Uy(i:Nat)(s:Int×Int×(List DIn)×(List (Int))×(List (List (Int)))×Unit×Int×Unit×Unit×Unit×(List (Int))×Int×(List DCe)×(List DLn)×(List DTh)×Unit):Nat:=
 match s.2.2.2.2.2.2.2.2.2.2.2.2.2.2.1[i]? with
 |some t=>((s.2.1-t.2.2.2.1)*256+(255-t.2.2.1)).toNat
 |none=>0
theorem IU{i:Nat}{a b k:Int}{code:List DIn}{ss bs:List Int}{d:List (List Int)}{cs:List DCe}{ls:List DLn}{ts:List DTh}{t:DTh}(h:ts[i]?=some t):Uy i (a,b,code,ss,d,(),0,(),(),(),bs,k,cs,ls,ts,())=((b-t.2.2.2.1)*256+(255-t.2.2.1)).toNat:=by
 unfold Uy
 simp_all
theorem PG{n key k:Int}{code:List DIn}{ss bs:List Int}{d:List (List Int)}{cs:List DCe}{ls:List DLn}{ts:List DTh}{i:Nat}(hp:kV code ss d)(h:MOk n ss bs cs ls ts)(X9:0<=n)(hn:n+64<=1099511627776)(hi:i<4)(hk:1<=k/\k<=64):
 Ok (ox code ss d bs key cs ls ts (i:Int) k) (Tc (n+64) key code ss bs ts i):=by
 have XC:=h.tlen;obtain⟨t,ht⟩:∃t,ts[i]?=some t:=⟨_,oGE (by omega)⟩;have hg:dR ts i=some t:=ht
 have YQ:i<ts.length:=by omega
 have hok:=h.thr t (dU ht);unfold ox;rw[u7 hp h (by omega)];simp;rw[oDF (show ¬(i:Int)<0 by omega),oDF (show ¬(i:Int)>=4 by omega),oDF (show ¬k<1 by omega),oDF (show ¬k>64 by omega)];simp only[oBS,oCF,xO h,dT,hg]
 (with_reducible refine dO (λZ'=>?_) λZ'=>?_)
 ·refine Ok.ret ⟨3,cs,ls,t,?_,h.mem,hok.mono (by omega),.inl ⟨rfl,ht,Z'⟩⟩;rw[Ev ht]
 have hct:=hok.count;have hpc:=hok.pc;rw[dX (x:=t.2.2.2.1+k) (by omega) (by omega)]
 refine Ok.loop (P:=λs'=>∃Z4 Z2 t',s'=((i:Int),t.2.2.2.1+k,code,ss,d,(),0,(),(),(),bs,key,Z4,Z2,ts.set i t',())/\kW (RK bs ss) Z4 Z2/\CG (RK bs ss) (n+64) t'/\t'.1=1/\t'.2.2.2.1<t.2.2.2.1+k)
  (R:=λr=>∃s Z4 Z2 t',r=(s,0,bs,key,Z4,Z2,ts.set i t',())/\kW (RK bs ss) Z4 Z2/\CG (RK bs ss) (n+64) t'/\US code s t') (m:=Uy i) ⟨cs,ls,t,by rw[Ev ht],h.mem,hok.mono (by omega),Z',by omega⟩ ?_ ?_ ?_
 ·rw[IU ht];unfold NN;omega
 ·rintro _ ⟨Z4,Z2,t',rfl,hm,Ya,hr,hlt⟩;have ZL:(ts.set i t')[i]?=some t':=jd YQ t';unfold tk;dsimp only;refine(TK hp (((h.mono (show n<=n+64 by omega)).set hm Ya):MOk (n+64) ss bs Z4 Z2 (ts.set i t')) ZL hr (by omega) (by omega)).bind ?_;rintro _ ⟨s,Vr,V2,t2,rfl,hm2,WE,Y'⟩;dsimp only;rw[List.set_set]
  (with_reducible refine dO (λZ3=>?_) λZ3=>?_)
  ·refine Ok.ret ⟨_,_,_,_,rfl,hm2,WE,?_⟩
   rcases Y' with⟨q,_⟩|⟨q1,q2,_⟩|⟨q1,q2,_,q3⟩
   ·exact absurd q Z3
   ·exact .inr (.inl ⟨q1,q2⟩)
   ·exact .inr (.inr ⟨q1,q2,q3⟩)
  ·rw[dT];simp only[oBS,jd YQ];have h0:=WE.count;have h1:=WE.pc;have h2:=Ya.pc
   rcases Y' with⟨_,q1,q2⟩|⟨q1,_⟩|⟨q1,_⟩
   ·(with_reducible refine dO (λhcc=>?_) λhcc=>?_)
    ·exact Ok.ret ⟨_,_,_,_,rfl,hm2,WE,.inl ⟨rfl,q1⟩⟩
    ·refine Ok.ret ⟨⟨_,_,_,rfl,hm2,WE,q1,by omega⟩,?_⟩;rw[IU ZL,IU (jd YQ t2)];omega
   ·omega
   ·omega
 ·rintro _ ⟨s,Z4,Z2,t',rfl,hm,Ya,hs⟩;exact Ok.ret ⟨_,_,_,_,rfl,hm,Ya,.inr hs⟩
def IL(bs ss:List Int)(a:Int):Nat->Nat->Option (Int×Int)
 |0,_=>none
 |n+1,k=>if bs.getD k 0<=a/\a<bs.getD k 0+ss.getD k 0 then some ((k:Int),a-bs.getD k 0)else IL bs ss a n (k+1)
def I5(bs ss:List Int)(a:Int):Option (Int×Int):=IL bs ss a bs.length 0
theorem NK{bs ss:List Int}{a r o:Int}:∀{n k:Nat},k+n=bs.length->bs.length=ss.length->IL bs ss a n k=some (r,o)->∃(j:Nat)(b z:Int),r=j/\o=a-b/\bs[j]?=some b/\ss[j]?=some z/\b<=a/\a<b+z:=by
 intro n
 induction n with
 |zero=>intro k _ _ h;cases h
 |succ n ih=>
  intro k hk hl h;simp only[IL]at h;split at h
  ·rename_i hh
   injection h with h
   injection h with h1 h2
   refine⟨k,_,_,h1.symm,h2.symm,?_,?_,hh.1,hh.2⟩
   all_goals rw[OR (by omega)];exact oGE (by omega)
  ·exact ih (by omega) hl h
theorem GD{bs ss:List Int}{a:Int}:∀{n k:Nat},k+n=bs.length->IL bs ss a n k=none->∀(j:Nat)(b z:Int),k<=j->bs[j]?=some b->ss[j]?=some z->¬(b<=a/\a<b+z):=by
 intro n
 induction n with
 |zero=>
  simp_all
 |succ n ih=>
  intro k hk h j b z hj hb hz;simp[IL]at h;split at h
  ·cases h
  ·rename_i hh;by_cases hjk:j=k
   ·simp_all
   ·exact ih (by omega) h j b z (by omega) hb hz
theorem Bu{bs ss:List Int}{a r o:Int}(hl:bs.length=ss.length)(h:I5 bs ss a=some (r,o)):∃(j:Nat)(b z:Int),r=j/\o=a-b/\bs[j]?=some b/\ss[j]?=some z/\b<=a/\a<b+z:=NK (by omega) hl h
theorem Sn{bs ss:List Int}{a:Int}(h:RK bs ss a):∃r o,I5 bs ss a=some (r,o):=by
 cases e:I5 bs ss a with
 |some x=>exact⟨x.1,x.2,rfl⟩
 |none=>
  have ⟨j,b,z,h1,h2,h3,h4⟩:=h;exact absurd ⟨h3,h4⟩ (GD (by omega) e j b z (by omega) h1 h2)
theorem DZ{bs ss:List Int}{key a:Int}(h:LV bs ss)(ha:W16 a):fC bs key ss a=some (match I5 bs ss a with|some (r,o)=>(r,o,true,())|none=>(0,0,false,())):=by
 obtain⟨hs,hl,hr⟩:=h;obtain⟨a0,a1⟩:=ha;have XA:=hs.2.1
 have key1:∀(n k N:Nat),k+n=bs.length->n<N->dY eZ N (ss,a,bs,(bs.length:Int),(k:Int),bs,key,0,0,())=some (match IL bs ss a n k with|some (r,o)=>.inl (true,r,o,())|none=>.inr (ss,a,bs,(bs.length:Int),(bs.length:Int),false,bs,key,0,0,())):=by
  intro n
  induction n with
  |zero=>
   intro k N hk hN;obtain⟨N,rfl⟩:∃M,N=M+1:=⟨N-1,by omega⟩
   obtain rfl:k=bs.length:=by omega
   have e:eZ (ss,a,bs,(bs.length:Int),(bs.length:Int),bs,key,0,0,())=some (.inr (.inr (ss,a,bs,(bs.length:Int),(bs.length:Int),false,bs,key,0,0,()))):=by
    refine fc ?_;unfold eZ;dsimp only
    (with_reducible refine dO (λZ'=>?_) λZ'=>?_)
    ·omega
    ·exact Ok.ret rfl
   simp only[dY,e,oBS,IL]
  |succ n ih=>
   intro k N hk hN;obtain⟨N,rfl⟩:∃M,N=M+1:=⟨N-1,by omega⟩;obtain⟨b,hb⟩:∃b,bs[k]?=some b:=⟨_,oGE (by omega)⟩;obtain⟨z,hz⟩:∃z,ss[k]?=some z:=⟨_,oGE (by omega)⟩;have Yn:=hs.2.2 z (dU hz);have WA:=hr k (by omega);unfold qc at WA;rw[ef hb,ef hz]at WA;by_cases hh:b<=a/\a<b+z
   ·have e:eZ (ss,a,bs,(bs.length:Int),(k:Int),bs,key,0,0,())=some (.inr (.inl (true,(k:Int),a-b,()))):=by
     refine fc ?_;unfold eZ;dsimp only;rw[oDT (show(k:Int)<bs.length by omega),dT];simp only[oCT,oBS,show dR bs k=some b from hb,show dR ss k=some z from hz];rw[oDT (show a>=b by omega),dX (x:=b+z) (by omega) (by omega),oDT hh.2,dX (x:=a-b) (by omega) (by omega)];exact Ok.ret rfl
    simp only[dY,e,oBS,IL,ef hb,ef hz,oIP hh]
   ·have e:eZ (ss,a,bs,(bs.length:Int),(k:Int),bs,key,0,0,())=some (.inl (ss,a,bs,(bs.length:Int),((k+1:Nat):Int),bs,key,0,0,())):=by
     refine fc ?_;unfold eZ;dsimp only;rw[oDT (show(k:Int)<bs.length by omega),dT];simp only[oCT,oBS,show dR bs k=some b from hb,show dR ss k=some z from hz];rw[dX (x:=b+z) (by omega) (by omega)];by_cases h1:a>=b
     ·rw[oDT h1,oDF (show ¬a<b+z by omega)];simp only[oCT,oCF];rw[dX (x:=(k:Int)+1) (by omega) (by omega)];exact Ok.ret rfl
     ·rw[oDF h1];simp only[oCF];rw[dX (x:=(k:Int)+1) (by omega) (by omega)];exact Ok.ret rfl
    simp only[dY,e,oBS,IL,ef hb,ef hz,oIN hh];exact ih (k+1) N (by omega) (by omega)
 unfold fC I5;delta dS
 try dsimp only
 rw[show dY eZ NN (ss,a,bs,(bs.length:Int),0,bs,key,0,0,())=_ from key1 bs.length 0 NN (by omega) (by unfold NN;omega)]
 cases IL bs ss a bs.length 0 with
 |some x=>rfl
 |none=>rfl
def qb(bs ss:List Int)(key:Int)(c:DCe):DCn:=
 if c.1=0 then(0,c.2,0,0)else if c.1=2 then(2,wk .u16 (c.2-key),0,0)else match I5 bs ss c.2 with|some (r,o)=>(1,0,r,o)|none=>(1,0,-1,c.2)
theorem vt{K:Int->Prop}{bs ss:List Int}{key:Int}{c:DCe}(h:LV bs ss)(hc:pL K c):i8 bs key ss c.1 c.2=some ((qb bs ss key c).1,(qb bs ss key c).2.1,(qb bs ss key c).2.2.1,(qb bs ss key c).2.2.2,()):=by
 have ⟨c0,c1,c2,c3,_⟩:=hc;unfold i8 qb;rw[ej (by omega) (by omega)];dsimp only;rw[DZ h ⟨c2,c3⟩]
 rcases(show c.1=0\/c.1=1\/c.1=2 by omega)with e|e|e<;>rw[e]
 ·rfl
 ·simp
  cases I5 bs ss c.2 with
  |some x=>rfl
  |none=>rfl
 ·rfl
theorem pb(x:Int):W16 (wk .u16 x):=rW x
theorem F9{bs ss:List Int}{key:Int}{c:DCe}(h:LV bs ss)(hc:pL (RK bs ss) c):Pr ss (qb bs ss key c):=by
 have ⟨c0,c1,c2,c3,c4⟩:=hc;unfold qb
 rcases(show c.1=0\/c.1=1\/c.1=2 by omega)with e|e|e
 ·rw[oIP e];exact .inl ⟨.inl rfl,rfl,rfl,c2,c3⟩
 ·rw[oIN (by omega),oIN (by omega)];have ⟨r,o,hro⟩:=Sn (c4 e);rw[hro];obtain⟨j,b,z,rfl,rfl,h1,h2,h3,h4⟩:=Bu h.2.1 hro;exact .inr ⟨rfl,rfl,by simp_all,z,by simp_all,by simp_all,by dsimp only;omega⟩
 ·rw[oIN (by omega),oIP e];exact .inl ⟨.inr rfl,rfl,rfl,pb _⟩
theorem Le{K:Int->Prop}{bs ss:List Int}{key:Int}{c:DCe}(hc:pL K c):(qb bs ss key c).1=c.1/\(c.1=0->(qb bs ss key c).2.1=c.2):=by
 have ⟨c0,c1,_⟩:=hc;unfold qb
 rcases(show c.1=0\/c.1=1\/c.1=2 by omega)with e|e|e
 ·simp_all
 ·rw[oIN (by omega),oIN (by omega)]
  cases I5 bs ss c.2 with
  |some x=>simp_all
  |none=>simp_all
 ·simp_all
def Aw(cs:List DCe)(ls:List DLn)(a:Int):DCe:=
 match ls[(a/4%4).toNat]? with
 |some x=>if x.1=a/4 then x.2.2.getD (a%4).toNat (0,0)else cs.getD a.toNat (0,0)
 |none=>(0,0)
theorem getD_some{α:Type}{l:List α}{k:Nat}{d x:α}(h:l[k]?=some x):l.getD k d=x:=by simp_all
theorem BA{K:Int->Prop}{cs:List DCe}{ls:List DLn}{a:Int}(h:kW K cs ls)(ha:0<=a/\a<512):nG cs ls a=some ((Aw cs ls a).1,(Aw cs ls a).2,())/\pL K (Aw cs ls a):=by
 obtain⟨a0,a1⟩:=ha;obtain⟨h1,h2,h3,h4,_⟩:=id h;unfold nG Aw;rw[Int.tdiv_eq_ediv_of_nonneg a0,dX (x:=a/4) (by omega) (by omega)];dsimp only;rw[Int.tmod_eq_emod_of_nonneg (show 0<=a/4 by omega),Int.tmod_eq_emod_of_nonneg a0];obtain⟨i,hi⟩:∃i:Nat,a/4%4=i:=⟨(a/4%4).toNat,by omega⟩;rw[hi,dT,oTN];obtain⟨x,hx⟩:∃x,ls[i]?=some x:=⟨_,oGE (by omega)⟩;simp only[oBS,show dR ls i=some x from hx,hx];by_cases hq:x.1=a/4
 ·rcases h4 i x hx with⟨g,_,_⟩|⟨_,_,_,g4,g5⟩
  ·omega
  ·obtain⟨j,hj⟩:∃j:Nat,a%4=j:=⟨(a%4).toNat,by omega⟩;obtain⟨y,hy⟩:∃y,x.2.2[j]?=some y:=⟨_,oGE (by omega)⟩;rw[hj,dT,oTN,oIP hq,getD_some hy,beq_iff_eq.2 hq];simp only[oCT,oBS,show dR x.2.2 j=some y from hy];exact⟨trivial,g5 y (dU hy)⟩
 ·obtain⟨j,rfl⟩:∃j:Nat,a=j:=⟨a.toNat,by omega⟩;obtain⟨y,hy⟩:∃y,cs[j]?=some y:=⟨_,oGE (by omega)⟩;rw[oIN hq,oBF hq,dT,oTN,getD_some hy];simp only[oCF,oBS,show dR cs j=some y from hy];exact⟨trivial,h2 y (dU hy)⟩
def kB(call:Int):List Int:=
 if call=0\/call=8\/call=9\/call=11\/call=12 then[78]else if call=1\/call=2 then[72,80,78]else if call=3 then[78,78]else if call=4 then[72]else if call=5 then[72,78]
 else if call=10 then[78,88]else if call=13\/call=14 then[78,80,78]else[]
theorem OA(call:Int):(kB call).length<=3:=by
 unfold kB
 repeat' split
 all_goals simp
def BOk(b:ByteArray)(l:List Int):Prop:=Es b=(l.length:Int)/\∀j:Nat,DQ b j=l[j]?
theorem Vf:BOk (bytes []) []:=⟨rfl,λj=>rfl⟩
theorem Ve{a:Nat}(h:a<256):BOk (bytes [a]) [(a:Int)]:=⟨rfl,λj=>by
 match j with
 |0=>show some (((UInt8.ofNat a).toNat:Nat):Int)=some (a:Int);simp;omega
 |n+1=>rfl⟩
theorem Vd{a b:Nat}(h:a<256)(hb:b<256):BOk (bytes [a,b]) [(a:Int),(b:Int)]:=⟨rfl,λj=>by
 match j with
 |0=>show some (((UInt8.ofNat a).toNat:Nat):Int)=some (a:Int);simp;omega
 |1=>show some (((UInt8.ofNat b).toNat:Nat):Int)=some (b:Int);simp;omega
 |n+2=>rfl⟩
theorem Vc{a b c:Nat}(h:a<256)(hb:b<256)(hc:c<256):BOk (bytes [a,b,c]) [(a:Int),(b:Int),(c:Int)]:=⟨rfl,λj=>by
 match j with
 |0=>show some (((UInt8.ofNat a).toNat:Nat):Int)=some (a:Int);simp;omega
 |1=>show some (((UInt8.ofNat b).toNat:Nat):Int)=some (b:Int);simp;omega
 |2=>show some (((UInt8.ofNat c).toNat:Nat):Int)=some (c:Int);simp;omega
 |n+3=>rfl⟩
theorem ze{call:Int}(h:0<=call/\call<=15):call=0\/call=1\/call=2\/call=3\/call=4\/call=5\/call=6\/call=7\/call=8\/call=9\/call=10\/call=11\/call=12\/call=13\/call=14\/call=15:=by omega
theorem EK{call:Int}(h:0<=call/\call<=15):∃b,lV call=some (b,())/\BOk b (kB call):=by
 rcases ze h with rfl|rfl|rfl|rfl|rfl|rfl|rfl|rfl|rfl|rfl|rfl|rfl|rfl|rfl|rfl|rfl
 all_goals first
  |exact⟨_,rfl,Vf⟩
  |exact⟨_,rfl,Ve (by decide)⟩
  |exact⟨_,rfl,Vd (by decide) (by decide)⟩
  |exact⟨_,rfl,Vc (by decide) (by decide) (by decide)⟩
def QL(k t:Int):Bool:=if k=78 then t==0 else if k=72 then t==2 else if k=80 then t==1 else true
theorem OV(k t:Int):nE k t=some (QL k t,()):=by
 unfold nE QL;by_cases h1:k=78
 ·simp[h1]
 ·by_cases h2:k=72
  ·simp[h2]
  ·by_cases h3:k=80
   ·simp[h3]
   ·simp[h1,h2,h3,oBF h1,oBF h2,oBF h3]
def vv(call:Int):Int:=if call=1\/call=13 then 1 else if call=2\/call=14 then 2 else 0
theorem yo{call:Int}(h:0<=call/\call<=15):jz call=some (vv call,()):=by
 rcases ze h with rfl|rfl|rfl|rfl|rfl|rfl|rfl|rfl|rfl|rfl|rfl|rfl|rfl|rfl|rfl|rfl<;>rfl
theorem Ao{call:Int}(h:0<=call/\call<=15):iM call=some (((kB call).length:Int),()):=by
 have ⟨b,e,hb⟩:=EK h;unfold iM;rw[oDF (show ¬call<0 by omega),oDF (show ¬call>15 by omega),e];simp[hb.1]
theorem MS{bs ss:List Int}{key t v n:Int}(h:LV bs ss)(hv:W16 v)(hn:0<=n/\n<=65535):Ok (nh bs key ss t v n) λr=>∃a e,r=(a,e,())/\(e=0->t=1/\a=v/\∃(j:Nat)(b z:Int),bs[j]?=some b/\ss[j]?=some z/\b<=v/\v+n<=b+z/\v<b+z):=by
 obtain⟨v0,v1⟩:=hv;unfold nh
 (with_reducible refine dO (λZ'=>?_) λZ'=>?_)
 ·exact Ok.ret ⟨_,_,rfl,λh=>by omega⟩
 rw[ej (x:=v) (by omega) (by omega)];dsimp only;rw[DZ h ⟨v0,v1⟩];simp only[oBS]
 cases e:I5 bs ss v with
 |none=>exact Ok.ret ⟨_,_,rfl,λh=>by omega⟩
 |some x=>
  obtain⟨r,o⟩:=x;obtain⟨j,b,z,rfl,rfl,h1,h2,h3,h4⟩:=Bu h.2.1 e;have hj:=(oGS h1).1;have hr:=h.2.2 j hj;unfold qc at hr;rw[ef h1,ef h2]at hr;rw[oDF (show ¬n<0 by omega),dT];simp only[oNT,oCF,oBS,show dR ss j=some z from h2];rw[dX (x:=z-(v-b)) (by omega) (by omega)]
  (with_reducible refine dO (λZ3=>?_) λZ3=>?_)
  ·exact Ok.ret ⟨_,_,rfl,λh=>by omega⟩
  ·exact Ok.ret ⟨_,_,rfl,λ_=>⟨Z',ej (by omega) (by omega),j,b,z,h1,h2,h3,by omega,h4⟩⟩
structure Pt (call:Int)(m:Int)(bs ss:List Int)(rs:List DCe):Prop where
 fit:∀(j:Nat) k c,(kB call)[j]?=some k->rs[j]?=some c->QL k c.1=true
 buf:0<vv call->∃p q,rs[1]?=some p/\rs[2]?=some q/\q.2<=16/\p.1=1/\∃(j:Nat)(b z:Int),bs[j]?=some b/\ss[j]?=some z/\b<=p.2/\p.2+q.2<=b+z
 code:call=10\/call=12->∃c,rs[0]?=some c/\c.2<m
theorem J8{call m:Int}{bs ss:List Int}{rs:List DCe}(h:Pt call m bs ss rs):Ok (some ((0:Int),())) λr=>∃e,r=(e,())/\0<=e/\e<=6/\(e=0->Pt call m bs ss rs):=Ok.ret ⟨0,rfl,by decide,by decide,λ_=>h⟩
theorem Cp{call m:Int}{bs ss:List Int}{rs:List DCe}:Ok (some ((6:Int),())) λr=>∃e,r=(e,())/\0<=e/\e<=6/\(e=0->Pt call m bs ss rs):=Ok.ret ⟨6,rfl,by decide,by decide,λh=>absurd h (by decide)⟩
theorem MJ{n key:Int}{code:List DIn}{ss bs:List Int}{d:List (List Int)}{cs:List DCe}{ls:List DLn}{ts:List DTh}{i:Nat}{t:DTh}{x:DIn}(h:MOk n ss bs cs ls ts)(ht:ts[i]?=some t)(hp1:1<=t.2.2.1)
 (hx:code[(t.2.2.1-1).toNat]?=some x)(hc:0<=x.2.2.2.2/\x.2.2.2.2<=15):Ok (ov code ss d bs key cs ls ts (i:Int)) λr=>∃e,r=(e,())/\0<=e/\e<=6/\(e=0->Pt x.2.2.2.2 code.length bs ss t.2.1):=by
 have hok:=h.thr t (dU ht);obtain⟨_,hl,hr,⟨p0,p1⟩,_⟩:=id hok;obtain⟨o,A,B,C,call⟩:=x;dsimp only at hc⊢;obtain⟨b,eb,hb1,ZY⟩:=EK hc;have hk3:=OA call;obtain⟨st,rs,pc,rest⟩:=t;dsimp only at *;obtain⟨j,hj⟩:∃j:Nat,pc-1=j:=⟨(pc-1).toNat,by omega⟩;rw[hj,oTN]at hx;unfold ov;rw[dT];simp only[oBS,show dR ts i=some (st,rs,pc,rest)from ht];rw[dX (x:=pc-1) (by omega) (by omega),hj,dT];simp only[oBS,show dR code j=some (o,A,B,C,call)from hx,eb,hb1];obtain⟨c0,hc0⟩:∃c,rs[0]?=some c:=⟨_,oGE (by omega)⟩;obtain⟨c1,ZS⟩:∃c,rs[1]?=some c:=⟨_,oGE (by omega)⟩;obtain⟨c2,ZK⟩:∃c,rs[2]?=some c:=⟨_,oGE (by omega)⟩;have v0:=hr c0 (dU hc0);have v1:=hr c1 (dU ZS);have v2:=hr c2 (dU ZK);have g0:dR rs 0=some c0:=hc0;have g1:dR rs 1=some c1:=ZS;have g2:dR rs 2=some c2:=ZK
 obtain⟨y,e,hy⟩:=gI (f:=nY) (n:=NN) (s:=(call,b,((kB call).length:Int),0,code,ss,d,bs,key,cs,ls,ts,st,rs,pc,rest.1,rest.2.1,rest.2.2.1,rest.2.2.2.1,rest.2.2.2.2,()))
  (P:=λs'=>∃q:Nat,s'=(call,b,((kB call).length:Int),(q:Int),code,ss,d,bs,key,cs,ls,ts,st,rs,pc,rest.1,rest.2.1,rest.2.2.1,rest.2.2.2.1,rest.2.2.2.2,())/\q<=(kB call).length/\∀(j:Nat) k c,j<q->(kB call)[j]?=some k->rs[j]?=some c->QL k c.1=true)
  (R:=λr=>r=.inl (6,())\/(∃q,r=.inr (call,b,((kB call).length:Int),q,false,code,ss,d,bs,key,cs,ls,ts,st,rs,pc,rest.1,rest.2.1,rest.2.2.1,rest.2.2.2.1,rest.2.2.2.2,())/\∀(j:Nat) k c,(kB call)[j]?=some k->rs[j]?=some c->QL k c.1=true))
  (m:=λs'=>(s'.2.2.1-s'.2.2.2.1).toNat) ⟨0,rfl,by omega,λj k c hj=>by omega⟩ (by unfold NN;dsimp only;omega) (by
   rintro _ ⟨q,rfl,hq,ZU⟩;unfold nY;dsimp only
   (with_reducible refine dO (λZ'=>?_) λZ'=>?_)
   ·rw[dT];obtain⟨k,hk⟩:∃k,(kB call)[q]?=some k:=⟨_,oGE (by omega)⟩;obtain⟨c,hcq⟩:∃c,rs[q]?=some c:=⟨_,oGE (by omega)⟩;simp only[oBS,ZY q,hk,show dR rs q=some c from hcq,OV]
    (with_reducible refine dO (λZ3=>?_) λZ3=>?_)
    ·exact Ok.ret (.inl rfl)
    ·rw[dX (x:=(q:Int)+1) (by omega) (by omega)];refine Ok.ret ⟨⟨q+1,rfl,by omega,λj' k' c' ZQ h1 h2=>?_⟩,by dsimp only;omega⟩;by_cases hjq:j'=q
     ·subst hjq;rw[hk]at h1;rw[hcq]at h2;cases h1;cases h2;exact Z3
     ·exact ZU j' k' c' (by omega) h1 h2
   ·refine Ok.ret (.inr ⟨_,rfl,λj k c h1 h2=>ZU j k c ?_ h1 h2⟩);have:=(oGS h1).1
    omega)
 rw[e];rcases hy with rfl|⟨q,rfl,ZU⟩
 ·exact Cp
 dsimp only;rw[yo hc];delta dS;simp only[oBS,g0,g1,g2];rw[ej (x:=c2.2) (by have:=v2.2.2.1;omega) (by have:=v2.2.2.2.1;omega),ej (x:=c0.2) (by have:=v0.2.2.1;omega) (by have:=v0.2.2.2.1;omega)]
 have ZZ:(0<vv call->∃p q,rs[1]?=some p/\rs[2]?=some q/\q.2<=16/\p.1=1/\∃(j:Nat)(b z:Int),bs[j]?=some b/\ss[j]?=some z/\b<=p.2/\p.2+q.2<=b+z)->Ok ((bif(call==10)then(some ((decide (c0.2>=(code.length:Int))),()))else
  bif(call==12)then(some ((decide (c0.2>=(code.length:Int))),()))else some (false,()):Option (Bool×Unit)).bind λ(x35,_)=>bif x35 then(some ((6:Int),()))else some (0,()))
  λr=>∃e,r=(e,())/\0<=e/\e<=6/\(e=0->Pt call code.length bs ss rs):=by
  intro hbuf;by_cases q10:call=10
  ·simp only[beq_iff_eq.2 q10,oCT,oBS]
   (with_reducible refine dO (λZ3=>?_) λZ3=>?_)
   ·exact Cp
   ·exact J8 ⟨ZU,hbuf,λ_=>⟨c0,hc0,by omega⟩⟩
  ·by_cases q12:call=12
   ·simp only[oBF q10,beq_iff_eq.2 q12,oCT,oCF,oBS]
    (with_reducible refine dO (λZ3=>?_) λZ3=>?_)
    ·exact Cp
    ·exact J8 ⟨ZU,hbuf,λ_=>⟨c0,hc0,by omega⟩⟩
   ·simp only[oBF q10,oBF q12,oCF,oBS];exact J8 ⟨ZU,hbuf,λh=>by omega⟩
 (with_reducible refine dO (λZ'=>?_) λZ'=>?_)
 ·refine(MS (t:=c1.1) (v:=c1.2) (n:=c2.2) h.lay ⟨v1.2.2.1,v1.2.2.2.1⟩ ⟨v2.2.2.1,v2.2.2.2.1⟩).bind ?_;rintro _ ⟨a,e,rfl,he⟩;dsimp only
  (with_reducible refine dO (λZ3=>?_) λZ3=>?_)
  ·exact Cp
  obtain⟨w1,_,j,b',z,w2,w3,w4,w5,w6⟩:=he Z3
  (with_reducible refine dO (λhcc=>?_) λhcc=>?_)
  ·exact Cp
  exact ZZ λ_=>⟨c1,c2,ZS,ZK,by omega,w1,j,b',z,w2,w3,w4,w5⟩
 ·exact ZZ λh=>by omega
structure DH (n:Int)(ss:List Int)(i stop trap count pc call:Int)(args data:List DCn):Prop where
 hthr:0<=i/\i<4
 hstop:0<=stop/\stop<=3
 htrap:0<=trap/\trap<=6
 hcnt:0<=count/\count<=n
 hpc:0<=pc/\pc<=255
 hcall:0<=call/\call<=15
 hargs:args.length<=3/\∀c∈args,Pr ss c
 hdata:data.length<=16/\∀c∈data,Pr ss c
 hkind:stop=1->args.length=(kB call).length/\∀(j:Nat) k a,(kB call)[j]?=some k->args[j]?=some a->QL k a.1=true
 hbuf:stop=1->vv call=2->∃a,args[2]?=some a/\a.2.1<=16
def Vn(stop trap:Int)(t':DTh):Prop:=(stop=0/\t'.1=1)\/(stop=1/\t'.1=2)\/(stop=2/\t'.1=4/\t'.2.2.2.2.2.2.1=trap)\/(stop=3/\t'.1≠1)
def Lo(n key:Int)(ss bs:List Int)(ts:List DTh)(i:Nat)(r:(List (Int))×Int×(List DCe)×(List DLn)×(List DTh)×Int×Int×Int×Int×Int×Int×(List DCn)×(List DCn)×Int×Unit):Prop:=
 ∃Z4 Z2 t' stop trap call args data,r=(bs,key,Z4,Z2,ts.set i t',(i:Int),stop,trap,t'.2.2.2.1,t'.2.2.1,call,args,data,0,())/\kW (RK bs ss) Z4 Z2/\CG (RK bs ss) n t' /\
  DH n ss i stop trap t'.2.2.2.1 t'.2.2.1 call args data/\Vn stop trap t'/\(stop=3->ts[i]?=some t')
theorem AP{n:Int}{ss bs:List Int}{i:Nat}{t':DTh}{stop trap:Int}(hi:i<4)(ht:CG (RK bs ss) n t')(hs:0<=stop/\stop<=3)(hs1:stop≠1)(htr:0<=trap/\trap<=6):DH n ss i stop trap t'.2.2.2.1 t'.2.2.1 0 [] []:=
 ⟨⟨by omega,by omega⟩,hs,htr,ht.count,ht.pc,by decide,⟨by decide,eJ⟩,⟨by decide,eJ⟩,λh=>absurd h hs1,λh=>absurd h hs1⟩
theorem fN{α β:Type}(f:α->β){l:List α}{k:Nat}{x:α}(h:l[k]?=some x):(l.take k).map f++[f x]=(l.take (k+1)).map f:=by
 rw[List.take_add_one,h];simp
theorem kN{β:Type}(f:Nat->β)(k:Nat):(List.range k).map f++[f k]=(List.range (k+1)).map f:=by
 rw[List.range_succ];simp
set_option maxHeartbeats 4000000 in
theorem Bh{n key k:Int}{code:List DIn}{ss bs:List Int}{d:List (List Int)}{cs:List DCe}{ls:List DLn}{ts:List DTh}{i:Nat}(hp:kV code ss d)(h:MOk n ss bs cs ls ts)(X9:0<=n)(hn:n+64<=1099511627776)(hi:i<4)(hk:1<=k/\k<=64):
 Ok (nF code ss d bs key cs ls ts (i:Int) k) (Lo (n+64) key ss bs ts i):=by
 have XC:=h.tlen
 have YQ:i<ts.length:=by omega
 unfold nF;refine(PG hp h X9 hn hi hk).bind ?_;rintro _ ⟨s,Z4,Z2,t',rfl,hm,ZL,hs⟩;have hM:MOk (n+64) ss bs Z4 Z2 (ts.set i t'):=(h.mono (show n<=n+64 by omega)).set hm ZL;have hgt:(ts.set i t')[i]?=some t':=jd YQ t';dsimp only;simp only[bne_self_eq_false,oCF,dT,oBS,jd YQ]
 rcases hs with⟨rfl,hs1,Y'⟩|⟨rfl,hs1⟩|⟨rfl,hs1⟩|⟨rfl,hs1,x,Y',hs3,XA⟩
 ·exact Ok.ret ⟨_,_,_,_,_,_,_,_,rfl,hm,ZL,AP hi ZL (by decide) (by decide) (by decide),.inr (.inr (.inr ⟨rfl,Y'⟩)),λ_=>hs1⟩
 ·exact Ok.ret ⟨_,_,_,_,_,_,_,_,rfl,hm,ZL,AP hi ZL (by decide) (by decide) (by decide),.inl ⟨rfl,hs1⟩,λh=>absurd h (by decide)⟩
 ·exact Ok.ret ⟨_,_,_,_,_,_,_,_,rfl,hm,ZL,AP hi ZL (by decide) (by decide) ZL.trap,.inr (.inr (.inl ⟨rfl,hs1,rfl⟩)),λh=>absurd h (by decide)⟩
 ·have Yo:=hp.ins x (dU hs3);have hcall:0<=x.2.2.2.2/\x.2.2.2.2<=15:=⟨Yo.imm.1,Yo.sys XA⟩;obtain⟨_,ec,e,rfl,VE,VF,hcok⟩:=MJ (key:=key) (d:=d) hM hgt Y' hs3 hcall;obtain⟨o,A,B,C,call⟩:=x;dsimp only at hcall hcok;have hk3:=OA call;have hl8:=ZL.len;obtain⟨j,hj⟩:∃j:Nat,t'.2.2.1-1=j:=⟨(t'.2.2.1-1).toNat,by omega⟩;have hpc:=ZL.pc;rw[hj,oTN]at hs3;rw[dX (x:=t'.2.2.1-1) (by omega) (by omega),hj];simp only[Int.reduceBEq,oCT,oCF,ec,oBS,dT,show dR code j=some (o,A,B,C,call)from hs3,Ao hcall];by_cases hne:e=0
  ·subst hne;obtain⟨ZU,hbuf,_⟩:=hcok rfl
   have e1:dY jO NN (((kB call).length:Int),0,code,ss,d,(),0,(),(),(),0,0,0,0,0,0,(),(),bs,key,Z4,Z2,ts.set i t',t'.1,t'.2.1,t'.2.2.1,t'.2.2.2.1,t'.2.2.2.2.1,t'.2.2.2.2.2.1,t'.2.2.2.2.2.2.1,t'.2.2.2.2.2.2.2,(i:Int),1,0,t'.2.2.2.1,t'.2.2.1,call,[],(),())=
    some (((kB call).length:Int),((kB call).length:Int),false,code,ss,d,(),0,(),(),(),0,0,0,0,0,0,(),(),bs,key,Z4,Z2,ts.set i t',t'.1,t'.2.1,t'.2.2.1,t'.2.2.2.1,t'.2.2.2.2.1,t'.2.2.2.2.2.1,t'.2.2.2.2.2.2.1,t'.2.2.2.2.2.2.2,(i:Int),1,0,t'.2.2.2.1,t'.2.2.1,call,(t'.2.1.take (kB call).length).map (qb bs ss key),(),()):=by
    refine mC (f:=jO) (N:=NN) (st:=λq=>(((kB call).length:Int),(q:Int),code,ss,d,(),0,(),(),(),0,0,0,0,0,0,(),(),bs,key,Z4,Z2,ts.set i t',t'.1,t'.2.1,t'.2.2.1,t'.2.2.2.1,t'.2.2.2.2.1,t'.2.2.2.2.2.1,t'.2.2.2.2.2.2.1,t'.2.2.2.2.2.2.2,(i:Int),1,0,t'.2.2.2.1,t'.2.2.1,call,(t'.2.1.take q).map (qb bs ss key),(),())) (n:=(kB call).length) (by unfold NN;omega) ?_ ?_
    ·intro q hq;unfold jO;dsimp only;rw[oDT (show(q:Int)<(kB call).length by omega),dT];simp only[oCT,oBS];refine Ok.get (by omega) λc hc=>?_;rw[vt h.lay (ZL.regs c (dU hc))];simp only[oBS];refine dP (d8 (by simp;omega)) ?_;rw[dX (x:=(q:Int)+1) (by omega) (by omega)];refine Ok.ret ?_;rw[<- fN (qb bs ss key) hc];rfl
    ·unfold jO;dsimp only;rw[oDF (show ¬((kB call).length:Int)<(kB call).length by omega)];exact Ok.ret rfl
   have hargs:((t'.2.1.take (kB call).length).map (qb bs ss key)).length=(kB call).length:=by rw[List.length_map,oLT];omega
   have hgetA:∀(j:Nat) a,((t'.2.1.take (kB call).length).map (qb bs ss key))[j]?=some a->∃c,t'.2.1[j]?=some c/\a=qb bs ss key c:=by
    intro j a ha;rw[List.getElem?_map]at ha
    cases hc:(t'.2.1.take (kB call).length)[j]? with
    |none=>rw[hc]at ha;cases ha
    |some c=>
     rw[hc]at ha
     injection ha with ha
     refine⟨c,?_,ha.symm⟩;rw[List.getElem?_take]at hc;split at hc
     ·exact hc
     ·cases hc
   have Vy:∀c∈(t'.2.1.take (kB call).length).map (qb bs ss key),Pr ss c:=by
    intro c hc;obtain⟨c',YN,rfl⟩:=List.mem_map.1 hc;exact F9 h.lay (ZL.regs c' (List.mem_of_mem_take YN))
   have hkinds:∀(j:Nat) k a,(kB call)[j]?=some k->((t'.2.1.take (kB call).length).map (qb bs ss key))[j]?=some a->QL k a.1=true:=by
    intro j k a hk ha;obtain⟨c,hc,rfl⟩:=hgetA j a ha;rw[(Le (ZL.regs c (dU hc))).1];exact ZU j k c hk hc
   have hbuf2:vv call=2->∃a,((t'.2.1.take (kB call).length).map (qb bs ss key))[2]?=some a/\a.2.1<=16:=by
    intro hb;obtain⟨p,q,hp1,Yv,hq16,_⟩:=hbuf (by omega)
    have hkk:(kB call)[2]?=some 78:=by
     have:call=2\/call=14:=by unfold vv at hb;split at hb<;>first|omega|(split at hb<;>omega)
     rcases this with rfl|rfl<;>rfl
    have hf:=ZU 2 78 q hkk Yv;have hl3:=(oGS hkk).1;refine⟨qb bs ss key q,?_,?_⟩
    ·rw[List.getElem?_map,List.getElem?_take,oIP hl3,Yv];rfl
    ·have hq:=(Le (bs:=bs) (ss:=ss) (key:=key) (ZL.regs q (dU Yv))).2 (by unfold QL at hf;simpa using hf);rw[hq];exact hq16
   simp only[e1,bne_self_eq_false,oCF,oBS,yo hcall]
   have ZZ:∀data:List DCn,data.length<=16->(∀c∈data,Pr ss c)->Ok (some (bs,key,Z4,Z2,ts.set i t',(i:Int),(1:Int),(0:Int),t'.2.2.2.1,t'.2.2.1,call,(t'.2.1.take (kB call).length).map (qb bs ss key),data,(0:Int),())) (Lo (n+64) key ss bs ts i):=
    λdata h1 h2=>Ok.ret ⟨_,_,_,_,_,_,_,_,rfl,hm,ZL,⟨⟨by omega,by omega⟩,by decide,by decide,ZL.count,ZL.pc,hcall,⟨by omega,Vy⟩,⟨h1,h2⟩,λ_=>⟨hargs,hkinds⟩,λ_=>hbuf2⟩,.inr (.inl ⟨rfl,hs1⟩),λh=>absurd h (by decide)⟩
   by_cases hb1:vv call=1
   ·obtain⟨p,q,hp1,Yv,hq16,_,jr,b,z,hbz1,hbz2,hbz3,hbz4⟩:=hbuf (by omega);have hp':=ZL.regs p (dU hp1);have hq':=ZL.regs q (dU Yv);have hjr:=(oGS hbz1).1;have hreg:=h.lay.2.2 jr hjr;unfold qc at hreg;rw[ef hbz1,ef hbz2]at hreg;obtain⟨m,hqm⟩:∃m:Nat,q.2=m:=⟨q.2.toNat,by have:=hq'.2.2.1;omega⟩
    have e2:dY jN NN ((m:Int),0,code,ss,d,(),0,(),(),(),0,0,0,0,0,0,(),(),bs,key,Z4,Z2,ts.set i t',t'.1,t'.2.1,t'.2.2.1,t'.2.2.2.1,t'.2.2.2.2.1,t'.2.2.2.2.2.1,t'.2.2.2.2.2.2.1,t'.2.2.2.2.2.2.2,(i:Int),1,0,t'.2.2.2.1,t'.2.2.1,call,(t'.2.1.take (kB call).length).map (qb bs ss key),[],())=
     some ((m:Int),(m:Int),false,code,ss,d,(),0,(),(),(),0,0,0,0,0,0,(),(),bs,key,Z4,Z2,ts.set i t',t'.1,t'.2.1,t'.2.2.1,t'.2.2.2.1,t'.2.2.2.2.1,t'.2.2.2.2.2.1,t'.2.2.2.2.2.2.1,t'.2.2.2.2.2.2.2,(i:Int),1,0,t'.2.2.2.1,t'.2.2.1,call,(t'.2.1.take (kB call).length).map (qb bs ss key),(List.range m).map (λj:Nat=>qb bs ss key (Aw Z4 Z2 (p.2+(j:Int)))),()):=by
     refine mC (f:=jN) (N:=NN) (st:=λq=>((m:Int),(q:Int),code,ss,d,(),0,(),(),(),0,0,0,0,0,0,(),(),bs,key,Z4,Z2,ts.set i t',t'.1,t'.2.1,t'.2.2.1,t'.2.2.2.1,t'.2.2.2.2.1,t'.2.2.2.2.2.1,t'.2.2.2.2.2.2.1,t'.2.2.2.2.2.2.2,(i:Int),1,0,t'.2.2.2.1,t'.2.2.1,call,(t'.2.1.take (kB call).length).map (qb bs ss key),(List.range q).map (λj:Nat=>qb bs ss key (Aw Z4 Z2 (p.2+(j:Int)))),())) (n:=m) (by unfold NN;omega) ?_ ?_
     ·intro v hv;unfold jN;dsimp only;have hp0:=hp'.2.2.1;have hp01:=hp'.2.2.2.1;rw[oDT (show(v:Int)<m by omega)];simp only[oCT,oBS,show dR t'.2.1 1=some p from hp1];rw[ej (x:=p.2) (by omega) (by omega),dX (x:=p.2+v) (by omega) (by omega)];obtain⟨hlk,A'⟩:=BA (a:=p.2+v) hm ⟨by omega,by omega⟩;rw[hlk];simp only[oBS];rw[vt h.lay A'];simp only[oBS];refine dP (d8 (by simp;omega)) ?_;rw[dX (x:=(v:Int)+1) (by omega) (by omega)];refine Ok.ret ?_;rw[<- kN];rfl
     ·unfold jN;dsimp only;rw[oDF (show ¬(m:Int)<m by omega)];exact Ok.ret rfl
    simp only[hb1,BEq.rfl,oCT,show dR t'.2.1 2=some q from Yv,oBS];rw[ej (x:=q.2) (by omega) (by omega),hqm,e2];simp only[oBS];refine ZZ _ (by rw[List.length_map,List.length_range];omega) ?_;intro c hc;obtain⟨v,hv,rfl⟩:=List.mem_map.1 hc;have hv:=List.mem_range.1 hv;have hp0:=hp'.2.2.1;exact F9 h.lay (BA (a:=p.2+v) hm ⟨by omega,by omega⟩).2
   ·simp only[oBF hb1,oCF];exact ZZ [] (by decide) eJ
  ·unfold ph ng;simp only[bne_iff_ne.2 hne,oCT];rw[d8 (show 4<=1000/\0+t'.2.1.length<=1000000 by omega)];simp only[oCT,oBS,dT,jd YQ,ry YQ];exact Ok.ret ⟨_,_,_,_,_,_,_,_,rfl,hm,ZL.ended ⟨VE,VF⟩,AP hi (ZL.ended ⟨VE,VF⟩) (by decide) (by decide) ⟨VE,VF⟩,.inr (.inr (.inl ⟨rfl,rfl,rfl⟩)),λh=>absurd h (by decide)⟩
theorem Jg{a b:Int}:mmR false a b<=a/\mmR false a b<=b/\(mmR false a b=a\/mmR false a b=b):=by
 unfold mmR;simp;omega
theorem rz{α:Type}{l:List α}{i j:Nat}(h:i≠j)(a:α):(l.set i a)[j]?=l[j]?:=by
 simp_all
theorem Te.setFile{d:List (List DCn)}{o:DOp}{f:Nat}{x y:List DCn}(h:Te d o)(hf:d[f]?=some x)(Xn:x.length<=y.length):Te (d.set f y) o:=by
 rcases h with h|⟨h1,z,h2,h3,h4⟩
 ·exact .inl h
 ·refine .inr ⟨h1,?_⟩;by_cases e:f=o.1.toNat
  ·subst e;rw[hf]at h2;cases h2;exact⟨y,jd (oGS hf).1 y,h3,by omega⟩
  ·simp_all
theorem gd.setFile{ss:List Int}{d:List (List DCn)}{os:List DOp}{f:Nat}{x y:List DCn}(h:gd ss d os)(hf:d[f]?=some x)(h64:y.length<=64)(hc:∀c∈y,Pr ss c)(Xn:x.length<=y.length):gd ss (d.set f y) os:=
 ⟨by rw[List.length_set];exact h.dlen,jX h.flen h64,jX h.cells hc,h.olen,λo ho=>(h.opens o ho).setFile hf Xn⟩
theorem gd.setOpen{ss:List Int}{d:List (List DCn)}{os:List DOp}{i:Nat}{o:DOp}(h:gd ss d os)(ho:Te d o):gd ss d (os.set i o):=
 ⟨h.dlen,h.flen,h.cells,by rw[List.length_set];exact h.olen,jX h.opens ho⟩
theorem EE{ss:List Int}{d:List (List DCn)}{os:List DOp}{h:Int}(hF:gd ss d os):∃b,iY d os h=some (b,())/\(b=true->∃(j f:Nat)(o:DOp)(x:List DCn),h=j/\j<8/\os[j]?=some o/\o.1=f/\d[f]?=some x/\0<=o.2.1/\o.2.1<=x.length):=by
 have:Ok (iY d os h) λr=>∃b,r=(b,())/\(b=true->∃(j f:Nat)(o:DOp)(x:List DCn),h=j/\j<8/\os[j]?=some o/\o.1=f/\d[f]?=some x/\0<=o.2.1/\o.2.1<=x.length):=by
  unfold iY;delta dS
  (with_reducible refine dO (λZ'=>?_) λZ'=>?_)
  ·(with_reducible refine dO (λZ3=>?_) λZ3=>?_)
   ·refine Ok.nat (by omega) λj hj=>?_;have h8:=hF.olen;refine Ok.get (by omega) λo ho=>?_;refine Ok.ret ⟨_,rfl,λhb=>?_⟩
    rcases hF.opens o (dU ho)with⟨h1,_⟩|⟨h1,x,h2,h3,h4⟩
    ·simp_all
    ·exact⟨j,o.1.toNat,o,x,hj,by omega,ho,by omega,h2,h3,h4⟩
   ·exact Ok.ret ⟨_,rfl,λh=>by cases h⟩
  ·exact Ok.ret ⟨_,rfl,λh=>by cases h⟩
 obtain⟨_,e,b,rfl,hb⟩:=this;exact⟨b,e,hb⟩
theorem xN{ss:List Int}{d:List (List DCn)}{os:List DOp}(h:gd ss d os):hY d os=some (d,os,()):=
 copy17_ok (by have:=h.dlen;omega) (λx hx=>by have:=h.flen x hx;omega) (by have:=h.olen;omega)
theorem Lu{ss:List Int}{d:List (List DCn)}{os:List DOp}{h:Int}{l:List DCn}(hs:zi ss)(hF:gd ss d os)(hl:l.length<=16)(VN:∀c∈l,Pr ss c):
 Ok (oo d os h l) λr=>∃d' Zj n b,r=(d',Zj,n,b,())/\gd ss d' Zj/\0<=n/\n<=16:=by
 obtain⟨b,eo,hb⟩:=EE (h:=h) hF;unfold oo;rw[xN hF];simp only[oBS,eo]
 cases b with
 |false=>
  simp only[Bool.not_false,oCT,oBS];exact Ok.ret ⟨_,_,_,_,rfl,hF,by decide,by decide⟩
 |true=>
  obtain⟨j,f,o,x,rfl,hj,ho,hof,hx,o0,o1⟩:=hb rfl;have hg:dR os j=some o:=ho;have Wp:dR d f=some x:=hx;have hjl:=(oGS ho).1;have Zz:=(oGS hx).1;have hx64:=hF.flen x (dU hx);simp only[oNT,oCF,dT,oBS,hg]
  cases hw:o.2.2 with
  |false=>
   simp only[Bool.not_false,oCT,oBS];exact Ok.ret ⟨_,_,_,_,rfl,hF,by decide,by decide⟩
  |true=>
   delta dS;simp only[oNT,oCF,oBS,lC (n:=(l.length:Int)) hs VN (by omega) (by omega),dT,hg,hof,Wp];rw[dX (x:=64-o.2.1) (by omega) (by omega)];obtain⟨m1,m2,m3⟩:=Jg (a:=(l.length:Int)) (b:=64-o.2.1);generalize mmR false (l.length:Int) (64-o.2.1)=k at m1 m2 m3
   refine Ok.loop (P:=λs'=>∃(i:Nat)(y:List DCn),s'=(l,j,k,k,(i:Int),(),(),d,f,os,y,())/\(i:Int)<=k/\(∀c∈y,Pr ss c)/\x.length<=y.length/\o.2.1+i<=y.length/\y.length<=64)
    (R:=λr=>∃y:List DCn,r=(l,j,k,k,k,false,(),(),d,f,os,y,())/\(∀c∈y,Pr ss c)/\x.length<=y.length/\o.2.1+k<=y.length/\y.length<=64) (m:=λs'=>(k-s'.2.2.2.2.1).toNat) ⟨0,x,rfl,by omega,hF.cells x (dU hx),by omega,by omega,hx64⟩ (by unfold NN;dsimp only;omega) ?_ ?_
   ·rintro _ ⟨i,y,rfl,hi,hy,Xn,hoy,hy64⟩;unfold tg;dsimp only
    (with_reducible refine dO (λZ'=>?_) λZ'=>?_)
    ·delta dS;simp only[hg,oBS,dT];rw[dX (x:=o.2.1+i) (by omega) (by omega)];obtain⟨c,hc⟩:∃c,l[i]?=some c:=⟨_,oGE (by omega)⟩;have ZJ:dR l i=some c:=hc;have hcp:=VN c (dU hc);simp only[ZJ,oBS];refine Ok.bind (P:=λr=>∃y':List DCn,r=(l,j,k,k,(i:Int),(),(),d,f,os,y',())/\(∀c∈y',Pr ss c)/\x.length<=y'.length/\o.2.1+i+1<=y'.length/\y'.length<=64) ?_ ?_
     ·(with_reducible refine dO (λZ3=>?_) λZ3=>?_)
      ·refine Ok.nat (by omega) λq hq=>?_;refine Ok.get (by omega) λ_ hz=>?_;refine Ok.get (by omega) λ_ _=>?_;rw[eK hz];exact Ok.ret ⟨_,rfl,jX hy hcp,by rw[List.length_set];omega,by rw[List.length_set];omega,by rw[List.length_set];omega⟩
      ·refine dP (d8 (by simp;omega)) ?_;exact Ok.ret ⟨_,rfl,kA hy (all_cons hcp eJ),by rw[fB];omega,by rw[fB,List.length_singleton];omega,by rw[fB,List.length_singleton];omega⟩
     ·rintro _ ⟨y',rfl,g1,g2,g3,g4⟩;dsimp only;rw[dX (x:=(i:Int)+1) (by omega) (by omega)];exact Ok.ret ⟨⟨i+1,y',rfl,by omega,g1,g2,by omega,g4⟩,by dsimp only;omega⟩
    ·obtain rfl:(i:Int)=k:=by omega
     exact Ok.ret ⟨y,rfl,hy,Xn,hoy,hy64⟩
   ·rintro _ ⟨y,rfl,hy,Xn,hoy,hy64⟩;dsimp only;simp only[hg,oBS,hof,dT,Wp];refine dP (by simp) ?_;rw[dX (x:=o.2.1+k) (by omega) (by omega),eK hx,eK ho];refine Ok.ret ⟨_,_,_,_,rfl,(hF.setFile hx hy64 hy Xn).setOpen (.inr ⟨by dsimp only;omega,y,?_,by dsimp only;omega,by dsimp only;omega⟩),by omega,by omega⟩;dsimp only;rw[hof,oTN];exact jd Zz y
theorem NS{ss:List Int}{d:List (List DCn)}{os:List DOp}{h n:Int}(hF:gd ss d os)(hn:0<=n/\n<=65535):
 Ok (qk d os h n) λr=>(∃d' Zj,r=.inl (d',Zj,(),false,())/\gd ss d' Zj)\/(∃d' Zj l,r=.inr (d',Zj,l,true,())/\gd ss d' Zj/\(l.length:Int)<=n/\l.length<=64/\∀c∈l,Pr ss c):=by
 obtain⟨b,eo,hb⟩:=EE (h:=h) hF;unfold qk;rw[xN hF];simp only[oBS,eo]
 cases b with
 |false=>
  exact Ok.ret (.inl ⟨_,_,rfl,hF⟩)
 |true=>
  obtain⟨j,f,o,x,rfl,hj,ho,hof,hx,o0,o1⟩:=hb rfl;have hg:dR os j=some o:=ho;have Wp:dR d f=some x:=hx;have hx64:=hF.flen x (dU hx);rw[oDF (show ¬n<0 by omega)];simp only[oNT,oCF,dT,oBS,hg]
  cases hw:o.2.2 with
  |true=>exact Ok.ret (.inl ⟨_,_,rfl,hF⟩)
  |false=>
   delta dS;simp only[oCF,dT,oBS,hg,hof,Wp];rw[dX (x:=(x.length:Int)-o.2.1) (by omega) (by omega)];obtain⟨m1,m2,m3⟩:=Jg (a:=n) (b:=(x.length:Int)-o.2.1);generalize mmR false n ((x.length:Int)-o.2.1)=k at m1 m2 m3;rw[dX (x:=o.2.1+k) (by omega) (by omega)];refine Ok.nat o0 λp hp=>?_;refine Ok.nat (by omega) λq hq=>?_;refine dP (by unfold iz;simp;omega) ?_
   have hw2:(lF x p (Nat.sub q p)).length=q-p:=by
    unfold lF;rw[oLT,List.length_drop];show min (q-p) _=q-p;omega
   refine dP (d8 (by omega)) ?_;rw[eK ho];refine Ok.ret (.inr ⟨_,_,_,rfl,hF.setOpen (.inr ⟨by dsimp only;omega,x,by dsimp only;rw[hof,oTN];exact hx,by dsimp only;omega,by dsimp only;omega⟩),?_,?_,?_⟩)
   ·rw[fB,hw2];simp;omega
   ·rw[fB,hw2];simp;omega
   ·refine kA eJ λc hc=>hF.cells x (dU hx) c ?_;unfold lF at hc;exact List.mem_of_mem_drop (List.mem_of_mem_take hc)
theorem MF{ss:List Int}{d:List (List DCn)}{os:List DOp}{h:Int}(hF:gd ss d os):Ok (oq d os h) λr=>∃d' Zj b,r=(d',Zj,b,())/\gd ss d' Zj:=by
 have ⟨b,eo,hb⟩:=EE (h:=h) hF;unfold oq;rw[xN hF];simp only[eo]
 cases b with
 |false=>exact Ok.ret ⟨_,_,_,rfl,hF⟩
 |true=>
  obtain⟨j,f,o,x,rfl,hj,ho,hof,hx,o0,o1⟩:=hb rfl;have hg:dR os j=some o:=ho;simp only[dT,oBS,hg];rw[eK ho];exact Ok.ret ⟨_,_,_,rfl,hF.setOpen (.inl ⟨rfl,rfl,rfl⟩)⟩
theorem NA{ss:List Int}{d:List (List DCn)}{os:List DOp}{h n:Int}(hF:gd ss d os):Ok (qj d os h n) λr=>∃d' Zj b,r=(d',Zj,b,())/\gd ss d' Zj:=by
 obtain⟨b,eo,hb⟩:=EE (h:=h) hF;unfold qj;rw[xN hF];simp only[eo]
 cases b with
 |false=>
  exact Ok.ret ⟨_,_,_,rfl,hF⟩
 |true=>
  obtain⟨j,f,o,x,rfl,hj,ho,hof,hx,o0,o1⟩:=hb rfl;have hg:dR os j=some o:=ho;have Wp:dR d f=some x:=hx;delta dS;simp only[oNT,oCF,dT,oBS,hg,hof,Wp];by_cases hn:n<0
  ·simp only[oDT hn,oCT,oBS];exact Ok.ret ⟨_,_,_,rfl,hF⟩
  ·simp only[oDF hn,oCF,oBS]
   (with_reducible refine dO (λZ'=>?_) λZ'=>?_)
   ·exact Ok.ret ⟨_,_,_,rfl,hF⟩
   ·simp only[dT,oBS,hg];rw[eK ho];exact Ok.ret ⟨_,_,_,rfl,hF.setOpen (.inr ⟨by dsimp only;omega,x,by simp_all,by dsimp only;omega,by dsimp only;omega⟩)⟩
theorem Qj{ss:List Int}{d:List (List DCn)}{os:List DOp}{file mode:Int}(hF:gd ss d os):Ok (ql d os file mode) λr=>∃d' Zj h,r=(d',Zj,h,())/\gd ss d' Zj/\-1<=h/\h<=7:=by
 have h8:=hF.olen;have hd4:=hF.dlen;unfold ql;rw[xN hF];simp only[oBS];refine Ok.loop (P:=λs'=>∃i:Nat,s'=(file,mode,(i:Int),d,os,(),(),d,os,())/\i<=8) (R:=λr=>∃i:Nat,r=(file,mode,(i:Int),false,d,os,(),(),d,os,())/\i<=8) (m:=λs'=>(8-s'.2.2.1).toNat) ⟨0,rfl,by omega⟩ (by unfold NN;dsimp only;omega) ?_ ?_
 ·rintro _ ⟨i,rfl,hi⟩;unfold tW;delta dS;simp only[h8,dT,oBS]
  (with_reducible refine dO (λZ'=>?_) λZ'=>?_)
  ·refine Ok.get (by omega) λo ho=>?_
   (with_reducible refine dO (λZ3=>?_) λZ3=>?_)
   ·rw[dX (x:=(i:Int)+1) (by omega) (by omega)];exact Ok.ret ⟨⟨i+1,rfl,by omega⟩,by dsimp only;omega⟩
   ·exact Ok.ret ⟨i,rfl,hi⟩
  ·exact Ok.ret ⟨i,rfl,hi⟩
 rintro _ ⟨i,rfl,hi⟩;delta dS;simp only[h8];have bad:gd ss d os/\(-1:Int)<=-1/\(-1:Int)<=7:=⟨hF,by decide,by decide⟩;refine Ok.bind (P:=λr=>(∃b:Bool,r=(file,mode,(i:Int),b,(),(),d,os,())/\(b=false->0<=file/\file<d.length/\i<8))) ?_ ?_
 ·(with_reducible refine dO (λZ'=>?_) λZ'=>?_)
  ·exact Ok.ret ⟨true,rfl,λh=>by cases h⟩
  (with_reducible refine dO (λZ3=>?_) λZ3=>?_)
  ·exact Ok.ret ⟨true,rfl,λh=>by cases h⟩
  (with_reducible refine dO (λhcc=>?_) λhcc=>?_)
  ·exact Ok.ret ⟨true,rfl,λh=>by cases h⟩
  (with_reducible refine dO (λXr=>?_) λXr=>?_)
  ·exact Ok.ret ⟨true,rfl,λh=>by cases h⟩
  exact Ok.ret ⟨_,rfl,λh=>⟨by omega,by omega,by rw[beq_eq_false_iff_ne]at h;omega⟩⟩
 rintro _ ⟨b,rfl,hb⟩;dsimp only
 cases b with
 |true=>exact Ok.ret ⟨_,_,_,rfl,bad⟩
 |false=>
  obtain⟨f0,f1,hi8⟩:=hb rfl;obtain⟨f,rfl⟩:∃f:Nat,file=f:=⟨file.toNat,by omega⟩;obtain⟨x,hx⟩:∃x,d[f]?=some x:=⟨_,oGE (by omega)⟩;obtain⟨o,ho⟩:∃o,os[i]?=some o:=⟨_,oGE (by omega)⟩;have Wp:dR d f=some x:=hx;have hg:dR os i=some o:=ho;have Zz:=(oGS hx).1;have YQ:=(oGS ho).1;simp only[oCF,dT,oBS,Wp,hg];by_cases h1:mode=1
  ·subst h1;simp only[BEq.rfl,oCT];rw[eK hx];simp only[h8]
   refine Ok.loop (P:=λs'=>∃(q:Nat)(Zj:List DOp),s'=((f:Int),1,(i:Int),((8:Nat):Int),(q:Int),(),(),d.set f [],Zj,())/\q<=8/\Zj.length=8/\(∀(j:Nat) o,j<q->Zj[j]?=some o->Te (d.set f []) o)/\∀j:Nat,q<=j->Zj[j]?=os[j]?)
    (R:=λr=>∃(z:Int)(Zj:List DOp),r=((f:Int),1,(i:Int),((8:Nat):Int),z,false,(),(),d.set f [],Zj,())/\gd ss (d.set f []) Zj) (m:=λs'=>(8-s'.2.2.2.2.1).toNat) ⟨0,os,rfl,by omega,h8,λj o hj=>by omega,λ_ _=>rfl⟩ (by unfold NN;dsimp only;omega) ?_ ?_
   ·rintro _ ⟨q,Zj,rfl,hq,Zi,ha,hr⟩;unfold tV;dsimp only
    (with_reducible refine dO (λZ'=>?_) λZ'=>?_)
    ·obtain⟨o',Zl⟩:∃o',Zj[q]?=some o':=⟨_,oGE (by omega)⟩;have hg':dR Zj q=some o':=Zl;have hop:=hF.opens o' (dU (by rw[<- hr q (by omega)];exact Zl));simp only[dT,oBS,hg'];refine Ok.bind (P:=λr=>∃o2:DOp,Te (d.set f []) o2/\r=((f:Int),1,(i:Int),((8:Nat):Int),(q:Int),(),(),d.set f [],Zj.set q o2,())) ?_ ?_
     ·by_cases hof:o'.1=f
      ·simp only[beq_iff_eq.2 hof,oCT];rw[eK Zl];exact Ok.ret ⟨_,.inr ⟨by dsimp only;omega,[],by dsimp only;rw[hof,oTN];exact jd Zz [],by dsimp only;omega,by simp⟩,rfl⟩
      ·simp only[oBF hof,oCF];refine Ok.ret ⟨o',?_,by rw[Ev Zl]⟩;rcases hop with h|⟨g1,z,g2,g3⟩
       ·exact .inl h
       ·exact .inr ⟨g1,z,by rw[rz (by omega)];exact g2,g3⟩
     ·rintro _ ⟨o2,hop2,rfl⟩;dsimp only;rw[dX (x:=(q:Int)+1) (by omega) (by omega)];refine Ok.ret ⟨⟨q+1,_,rfl,by omega,by rw[List.length_set];exact Zi,λj o hj hjo=>?_,λj hj=>?_⟩,by dsimp only;omega⟩
      ·by_cases e:q=j
       ·subst e;rw[show(Zj.set q o2)[q]?=some o2 from jd (by omega) o2]at hjo;cases hjo;exact hop2
       ·rw[rz e]at hjo;exact ha j o (by omega) hjo
      ·rw[rz (by omega)];exact hr j (by omega)
    ·refine Ok.ret ⟨_,_,rfl,⟨by rw[List.length_set];exact hd4,jX hF.flen (by simp),jX hF.cells eJ,Zi,λo' Zl=>?_⟩⟩;obtain⟨j,hj⟩:=List.getElem?_of_mem Zl;have:=(oGS hj).1;exact ha j o' (by omega) hj
   ·rintro _ ⟨z,Zj,rfl,hF'⟩;have Zi:=hF'.olen;obtain⟨o',Zl⟩:∃o',Zj[i]?=some o':=⟨_,oGE (by omega)⟩;have hg':dR Zj i=some o':=Zl;simp only[dT,oBS,hg',show((1:Int)==2)=false from rfl,oCF];rw[eK Zl];exact Ok.ret ⟨_,_,_,rfl,hF'.setOpen (.inr ⟨by dsimp only;omega,[],by dsimp only;rw[oTN];exact jd Zz [],by dsimp only;omega,by simp⟩),by omega,by omega⟩
  ·simp only[oBF h1,oCF];rw[eK ho];by_cases h2:mode=2
   ·subst h2;simp only[BEq.rfl,oCT,oBS,jd YQ,ry YQ];exact Ok.ret ⟨_,_,_,rfl,hF.setOpen (.inr ⟨by dsimp only;omega,x,by dsimp only;rw[oTN];exact hx,by dsimp only;omega,by dsimp only;omega⟩),by omega,by omega⟩
   ·simp only[oBF h2,oCF,oBS];exact Ok.ret ⟨_,_,_,rfl,hF.setOpen (.inr ⟨by dsimp only;omega,x,by dsimp only;rw[oTN];exact hx,by dsimp only;omega,by dsimp only;omega⟩),by omega,by omega⟩
theorem hJ(n:Int)(b:Bool):∃v,eG n b=some (0,v,0,0,(),-1,false,())/\W16 v:=by
 cases b with
 |true=>exact⟨_,rfl,pb _⟩
 |false=>exact⟨_,rfl,pb _⟩
theorem mi{ss:List Int}{v:Int}(h:W16 v):Pr ss (0,v,0,0):=.inl ⟨.inl rfl,rfl,rfl,h⟩
theorem Rj{ss:List Int}{v:Int}(h:W16 v):Pr ss (2,v,0,0):=.inl ⟨.inr rfl,rfl,rfl,h⟩
theorem Nz{ss:List Int}{us:List DOu}{sk:Int}{l:List DCn}(hu:us.length<=200)(ho:∀(i:Nat) x,us[i]?=some x->Ut ss i x)(hl:l.length<=16)(VN:∀c∈l,Pr ss c):
 Ok (qi us sk l) λr=>∃us' n b,r=(us',n,b,())/\us'.length<=200/\∀(i:Nat) x,us'[i]?=some x->Ut ss i x:=by
 have hc:lr us=some (us,()):=Ix (by omega) λx hx=>by
  obtain⟨j,hj⟩:=List.getElem?_of_mem hx;have:=(ho j x hj).2.2.2.1;omega
 unfold qi;rw[hc];delta dS;refine Ok.bind (P:=λr=>∃b:Bool,r=(us,sk,l,b,us,())/\(b=false->0<=sk/\sk<2/\us.length<200)) ?_ ?_
 ·(with_reducible refine dO (λZ'=>?_) λZ'=>?_)
  ·exact Ok.ret ⟨true,rfl,λh=>by cases h⟩
  (with_reducible refine dO (λZ3=>?_) λZ3=>?_)
  ·exact Ok.ret ⟨true,rfl,λh=>by cases h⟩
  (with_reducible refine dO (λhcc=>?_) λhcc=>?_)
  ·exact Ok.ret ⟨true,rfl,λh=>by cases h⟩
  exact Ok.ret ⟨_,rfl,λh=>⟨by omega,by omega,by omega⟩⟩
 rintro _ ⟨b,rfl,hb⟩;dsimp only
 cases b with
 |true=>exact Ok.ret ⟨_,_,_,rfl,hu,ho⟩
 |false=>
  obtain⟨s0,s1,hlt⟩:=hb rfl;simp only[oCF];refine dP (d8 (by omega)) (dP (d8 (by simp;omega)) ?_);refine Ok.ret ⟨_,_,_,rfl,by rw[fB];simp;omega,λi x hx=>?_⟩;simp at hx;rw[List.getElem?_append]at hx;split at hx
  ·exact ho i x hx
  ·rename_i hi;obtain⟨q,hq⟩:∃q,i-us.length=q:=⟨_,rfl⟩;rw[hq]at hx
   cases q with
   |zero=>
    have:x=((us.length:Int),sk,l):=by simp_all
    subst this;exact⟨by dsimp only;omega,s0,s1,hl,VN⟩
   |succ q=>simp at hx
theorem GF{ss:List Int}{ins:List (List Int)}{sk n:Int}(hi:ins.length<=2)(h:∀x∈ins,x.length<=64/\∀w∈x,W16 w)(hn:0<=n/\n<=65535):
 Ok (lQ ins sk n) λr=>(∃Yr,r=.inl (Yr,(),false,())/\Yr.length<=2/\∀x∈Yr,x.length<=64/\∀w∈x,W16 w)\/
  (∃Yr l,r=.inr (Yr,l,true,())/\(Yr.length<=2/\∀x∈Yr,x.length<=64/\∀w∈x,W16 w)/\(l.length:Int)<=n/\l.length<=64/\∀c∈l,Pr ss c):=by
 unfold lQ;rw[Cj (by omega) (λx hx=>by have:=(h x hx).1;omega)];delta dS;simp only[oBS];refine Ok.bind (P:=λr=>∃b:Bool,r=(ins,sk,n,b,ins,())/\(b=false->0<=sk/\sk<ins.length)) ?_ ?_
 ·(with_reducible refine dO (λZ'=>?_) λZ'=>?_)
  ·exact Ok.ret ⟨true,rfl,λh=>by cases h⟩
  (with_reducible refine dO (λZ3=>?_) λZ3=>?_)
  ·exact Ok.ret ⟨true,rfl,λh=>by cases h⟩
  exact Ok.ret ⟨_,rfl,λ_=>⟨by omega,by omega⟩⟩
 rintro _ ⟨b,rfl,hb⟩;dsimp only
 cases b with
 |true=>exact Ok.ret (Or.inl ⟨_,rfl,hi,h⟩)
 |false=>
 obtain⟨s0,s1⟩:=hb rfl;obtain⟨j,rfl⟩:∃j:Nat,sk=j:=⟨sk.toNat,by omega⟩;obtain⟨x,hx⟩:∃x,ins[j]?=some x:=⟨_,oGE (by omega)⟩;have Wp:dR ins j=some x:=hx;have hjl:=(oGS hx).1;obtain⟨hx64,hxw⟩:=h x (dU hx);simp only[oCF,oBS,dT,Wp];obtain⟨m1,m2,m3⟩:=Jg (a:=n) (b:=(x.length:Int));generalize mmR false n (x.length:Int)=k at m1 m2 m3;obtain⟨q,rfl⟩:∃q:Nat,k=q:=⟨k.toNat,by omega⟩;simp only[dT,oBS];refine dP (by unfold iz;simp;omega) ?_
 have hw:lF x 0 (Nat.sub q 0)=x.take q:=by unfold lF;rw[List.drop_zero];rfl
 have Q':(x.take q).length=q:=by rw[oLT];omega
 rw[hw];simp only[Q']
 have e:dY hU NN ((j:Int),(q:Int),x.take q,(q:Int),0,ins,[],())=some ((j:Int),(q:Int),x.take q,(q:Int),(q:Int),false,ins,(x.take q).map (λw=>(0,w,0,0)),()):=by
  have:=mC (f:=hU) (N:=NN) (st:=λi=>((j:Int),(q:Int),x.take q,(q:Int),(i:Int),ins,((x.take q).take i).map (λw=>((0:Int),w,(0:Int),(0:Int))),())) (n:=q) (t:=((j:Int),(q:Int),x.take q,(q:Int),(q:Int),false,ins,(x.take q).map (λw=>((0:Int),w,(0:Int),(0:Int))),())) (by unfold NN;omega) ?_ ?_
  ·exact this
  ·intro i hi;unfold hU;dsimp only;rw[oDT (show(i:Int)<q by omega),dT];simp only[oCT,oBS];refine Ok.get (by omega) λw hw=>?_;refine dP (d8 (by simp;omega)) ?_;rw[dX (x:=(i:Int)+1) (by omega) (by omega)];refine Ok.ret ?_;rw[<- fN (λw=>((0:Int),w,(0:Int),(0:Int))) hw];rfl
  ·unfold hU;dsimp only;rw[oDF (show ¬(q:Int)<q by omega)];refine Ok.ret ?_;rw[show(x.take q).take q=x.take q from List.take_of_length_le (by omega)]
 rw[e];simp only[dT,oBS,Wp];refine dP (by unfold iz;simp;omega) ?_;rw[eK hx]
 have hd:∀c∈lF x q (Nat.sub x.length q),c∈x:=λc hc=>by
  unfold lF at hc;exact List.mem_of_mem_drop (List.mem_of_mem_take hc)
 have hdl:(lF x q (Nat.sub x.length q)).length<=64:=by
  unfold lF;rw[oLT,List.length_drop];omega
 refine Ok.ret (.inr ⟨_,_,rfl,⟨by rw[List.length_set];exact hi,jX h ⟨hdl,λw hw=>hxw w (hd w hw)⟩⟩,by rw[List.length_map,Q'];omega,by rw[List.length_map,Q'];omega,λc hc=>?_⟩);obtain⟨w,hw,rfl⟩:=List.mem_map.1 hc;exact mi (hxw w (List.mem_of_mem_take hw))
theorem DN{n:Int}{ss:List Int}{i stop trap count pc call:Int}{args data:List DCn}(hs:zi ss)(h:DH n ss i stop trap count pc call args data)(hn:n<=1099511627776):lW i stop trap count pc call args data=some (true,()):=by
 have ⟨⟨a1,a2⟩,⟨b1,b2⟩,⟨c1,c2⟩,⟨d1,d2⟩,⟨e1,e2⟩,⟨f1,f2⟩,⟨g1,g2⟩,⟨k1,k2⟩,_,_⟩:=h;refine fc ?_;unfold lW;rw[lC hs g2 (by omega) (by omega),lC hs k2 (by omega) (by omega)];refine dP (oDT a1) (dP (oDT (by omega)) (dP (oDT b1) (dP (oDT b2) (dP (oDT c1) (dP (oDT c2) (dP (oDT d1) (dP (oDT (by omega)) (dP (oDT e1) (dP (oDT e2) (dP (oDT f1) (dP (oDT f2) ?_)))))))))));exact Ok.ret rfl
theorem Mj{n:Int}{ss:List Int}{i trap count pc call:Int}{args data:List DCn}(h:DH n ss i 1 trap count pc call args data):ou i 1 trap count pc call args data=some (true,()):=by
 obtain⟨hl,hk⟩:=h.hkind rfl;obtain⟨b,eb,hb1,ZY⟩:=EK h.hcall;have h3:=OA call
 have e:dY jk NN (b,args,(args.length:Int),0,i,1,trap,count,pc,call,args,data,())=some (.inr (b,args,(args.length:Int),(args.length:Int),false,i,1,trap,count,pc,call,args,data,())):=by
  refine mC (f:=jk) (N:=NN) (st:=λq=>(b,args,(args.length:Int),(q:Int),i,1,trap,count,pc,call,args,data,())) (n:=args.length) (by unfold NN;omega) ?_ ?_
  ·intro q hq;obtain⟨k,hkq⟩:∃k,(kB call)[q]?=some k:=⟨_,oGE (by omega)⟩;obtain⟨a,ha⟩:∃a,args[q]?=some a:=⟨_,oGE (by omega)⟩;unfold jk;dsimp only;rw[oDT (show(q:Int)<args.length by omega),dT];simp only[oCT,oBS,show dR args q=some a from ha,ZY q,hkq,OV,hk q k a hkq ha,oCF];rw[dX (x:=(q:Int)+1) (by omega) (by omega)];exact Ok.ret rfl
  ·unfold jk;dsimp only;rw[oDF (show ¬(args.length:Int)<args.length by omega)];exact Ok.ret rfl
 unfold ou;delta dS
 simp_all
def Ta(call:Int):Bool:=decide ((1<=call/\call<=7)\/call=13\/call=14)
theorem S9{call:Int}(h:0<=call/\call<=15):tU call=some (Ta call,()):=by
 rcases ze h with rfl|rfl|rfl|rfl|rfl|rfl|rfl|rfl|rfl|rfl|rfl|rfl|rfl|rfl|rfl|rfl<;>rfl
structure UM (ss:List Int)(t v r o:Int)(data:List DCn)(sp:Int)(w:Bool):Prop where
 val:Pr ss (t,v,r,o)
 dat:data.length<=64/\∀c∈data,Pr ss c
 spn:-1<=sp/\sp<=3
def DoP(ss:List Int)(r:(List (Int))×(List (Int))×(List (List (Int)))×(List (List DCn))×(List DOp)×(List DOu)×Int×Int×Int×Int×(List DCn)×Int×Bool×Int×Unit):Prop:=
 ∃ck rn ins d os us t v rg o data,r=(ck,rn,ins,d,os,us,t,v,rg,o,data,-1,false,0,())/\CH ss ck rn ins d os us/\Pr ss (t,v,rg,o)/\data.length<=16/\∀c∈data,Pr ss c
theorem mq{ss:List Int}{ck rn:List Int}{ins:List (List Int)}{d:List (List DCn)}{os:List DOp}{us:List DOu}{t v rg o:Int}{data:List DCn}(h:CH ss ck rn ins d os us)(hv:Pr ss (t,v,rg,o))(hd:data.length<=16/\∀c∈data,Pr ss c):
 Ok (some (ck,rn,ins,d,os,us,t,v,rg,o,data,(-1:Int),false,(0:Int),())) (DoP ss):=Ok.ret ⟨_,_,_,_,_,_,_,_,_,_,_,rfl,h,hv,hd⟩
theorem Pr.val{ss:List Int}{c:DCn}(h:Pr ss c):W16 c.2.1:=by
 rcases h with⟨_,_,_,h⟩|⟨_,h,_⟩
 ·exact h
 ·rw[h];exact⟨by decide,by decide⟩
theorem T9{n:Int}{ss:List Int}{i trap count pc call:Int}{args data:List DCn}(h:DH n ss i 1 trap count pc call args data):vv call=0\/vv call=1\/(vv call=2/\∃a,args[2]?=some a/\a.2.1<=16):=by
 by_cases h2:vv call=2
 ·exact .inr (.inr ⟨h2,h.hbuf rfl h2⟩)
 ·have:vv call=0\/vv call=1\/vv call=2:=by unfold vv;split<;>first|omega|(split<;>omega)
  omega
theorem Bc{α:Type}{a b:Option α}{Q:α->Prop}(h:Ok a Q)(e:b=a):Ok b Q:=by simp_all
set_option maxHeartbeats 4000000 in
theorem ST{n:Int}{ss:List Int}{ck rn:List Int}{ins:List (List Int)}{d:List (List DCn)}{os:List DOp}{us:List DOu}{i trap count pc call:Int}{args data:List DCn}(hs:zi ss)(hO:CH ss ck rn ins d os us)(hR:DH n ss i 1 trap count pc call args data)
 (ha:Ta call=true)(hn:n<=1099511627776):Ok (ro ck rn ins d os us i 1 trap count pc call args data) (DoP ss):=by
 have hc:=hR.hcall;have VD:=hR.hdata;have V4:=hR.hargs;unfold ro;rw[yr hs hO,DN hs hR hn,S9 hc,ha,Mj hR,yo hc];simp only[oBS,oNT,oCF,bne_self_eq_false];refine Ok.bind (P:=λr=>r=(false,ck,rn,ins,d,os,us,i,1,trap,count,pc,call,args,data,(),(),(),(),(),(),0,0,0,0,(),0,false,())) ?_ ?_
 ·rcases T9 hR with h|h|⟨h,a,h2,h3⟩
  ·rw[h];exact Ok.ret rfl
  ·rw[h];exact Ok.ret rfl
  ·rw[h];simp only[BEq.rfl,oCT,show dR args 2=some a from h2,oBS];rw[oDF (show ¬a.2.1>16 by omega)];exact Ok.ret rfl
 rintro _ rfl;dsimp only;delta dS;simp only[oCF,Iw hO,oBS]
 refine Ok.loop (P:=λs'=>∃(k:Nat)(vs:List Int),s'=(args,(args.length:Int),(k:Int),ck,rn,ins,d,os,us,i,1,trap,count,pc,call,args,data,(),(),(),(),(),(),0,0,0,0,(),0,false,ck,rn,ins,d,os,us,vs,())/\k<=args.length/\vs.length=3/\(∀v∈vs,W16 v)/\∀(j:Nat) a,j<k->args[j]?=some a->vs[j]?=some a.2.1)
  (R:=λr=>∃(z:Int)(vs:List Int),r=(args,(args.length:Int),z,false,ck,rn,ins,d,os,us,i,1,trap,count,pc,call,args,data,(),(),(),(),(),(),0,0,0,0,(),0,false,ck,rn,ins,d,os,us,vs,())/\vs.length=3/\(∀v∈vs,W16 v)/\∀(j:Nat) a,args[j]?=some a->vs[j]?=some a.2.1) (m:=λs'=>(s'.2.1-s'.2.2.1).toNat)
  ⟨0,[0,0,0],rfl,by omega,rfl,all_cons ⟨by decide,by decide⟩ (all_cons ⟨by decide,by decide⟩ (all_cons ⟨by decide,by decide⟩ eJ)),λj a hj=>by omega⟩ (by unfold NN;dsimp only;omega) ?_ ?_
 ·rintro _ ⟨k,vs,rfl,hk,hv3,hvw,hva⟩;unfold wV;dsimp only
  (with_reducible refine dO (λZ'=>?_) λZ'=>?_)
  ·simp only[dT,oBS];refine Ok.get (by omega) λa hak=>?_;have hw:=(V4.2 a (dU hak)).val;refine Ok.get (by omega) λv hv=>?_;refine Ok.get (by omega) λ_ _=>?_;rw[ej (x:=a.2.1) (by have:=hw.1;omega) (by have:=hw.2;omega),dX (x:=(k:Int)+1) (by omega) (by omega),eK hv];refine Ok.ret ⟨⟨k+1,_,rfl,by omega,by rw[List.length_set];exact hv3,jX hvw hw,λj a' hj haj=>?_⟩,by dsimp only;omega⟩;by_cases e:k=j
   ·subst e;rw[hak]at haj;cases haj;exact jd (by omega) _
   ·rw[rz e];exact hva j a' (by omega) haj
  ·refine Ok.ret ⟨_,vs,rfl,hv3,hvw,λj a haj=>hva j a ?_ haj⟩;have:=(oGS haj).1;omega
 rintro _ ⟨z,vs,rfl,hv3,hvw,hva⟩;obtain⟨v0,ev0,Yp⟩:=hJ 0 false
 obtain⟨a0,a1,a2,rfl⟩:∃a b c,vs=[a,b,c]:=by
  match vs,hv3 with
  | [a,b,c],_=>exact⟨a,b,c,rfl⟩
 have w0:W16 a0:=hvw a0 (by simp);have w1:W16 a1:=hvw a1 (by simp);have w2:W16 a2:=hvw a2 (by simp);have g0:dR [a0,a1,a2] 0=some a0:=rfl;have g1:dR [a0,a1,a2] 1=some a1:=rfl;have g2:dR [a0,a1,a2] 2=some a2:=rfl
 have a2le:vv call=2->a2<=16:=λh=>by
  obtain⟨a,h2,h3⟩:=hR.hbuf rfl h;have:=hva 2 a h2
  have:a2=a.2.1:=by simpa using this
  omega
 have ZC:([]:List DCn).length<=16/\∀c∈([]:List DCn),Pr ss c:=⟨by decide,eJ⟩;dsimp only;simp only[ev0,oBS,g0,g1,g2];rcases ze hc with rfl|rfl|rfl|rfl|rfl|rfl|rfl|rfl|rfl|rfl|rfl|rfl|rfl|rfl|rfl|rfl
 all_goals first|(exact absurd ha (by decide))|simp only[Int.reduceBEq,oCT,oCF]
 ·obtain⟨_,e,d1,os1,m,b,rfl,hF,_⟩:=Lu (h:=a0) hs hO.files VD.1 VD.2;obtain⟨v,ev,hv⟩:=hJ m b;simp only[e,ev,oBS];exact mq ⟨hO.clock,hO.rand,hO.ilen,hO.inp,hF,hO.ulen,hO.outs⟩ (mi hv) ZC
 ·have X8:=a2le rfl;obtain⟨_,e,hr⟩:=NS (h:=a0) (n:=a2) hO.files w2
  rcases hr with⟨d1,os1,rfl,hF⟩|⟨d1,os1,l,rfl,hF,hl,_,VN⟩
  ·simp only[e,ev0,oBS];exact mq ⟨hO.clock,hO.rand,hO.ilen,hO.inp,hF,hO.ulen,hO.outs⟩ (mi Yp) ZC
  ·obtain⟨v,ev,hv⟩:=hJ (l.length:Int) true;simp only[e,ev,oBS];exact mq ⟨hO.clock,hO.rand,hO.ilen,hO.inp,hF,hO.ulen,hO.outs⟩ (mi hv) ⟨by omega,VN⟩
 ·obtain⟨_,e,d1,os1,h,rfl,hF,h0,h7⟩:=Qj (file:=a0) (mode:=a1) hO.files;simp only[e,oBS];have VR:CH ss ck rn ins d1 os1 us:=⟨hO.clock,hO.rand,hO.ilen,hO.inp,hF,hO.ulen,hO.outs⟩;by_cases hh:h>=0
  ·simp only[oDT hh,oCT];exact mq VR (Rj (pb _)) ZC
  ·simp only[oDF hh,oCF];exact mq VR (mi Yp) ZC
 ·obtain⟨_,e,d1,os1,b,rfl,hF⟩:=MF (h:=a0) hO.files;obtain⟨v,ev,hv⟩:=hJ 0 b;simp only[e,ev,oBS];exact mq ⟨hO.clock,hO.rand,hO.ilen,hO.inp,hF,hO.ulen,hO.outs⟩ (mi hv) ZC
 ·obtain⟨_,e,d1,os1,b,rfl,hF⟩:=NA (h:=a0) (n:=a1) hO.files;obtain⟨v,ev,hv⟩:=hJ 0 b;simp only[e,ev,oBS];exact mq ⟨hO.clock,hO.rand,hO.ilen,hO.inp,hF,hO.ulen,hO.outs⟩ (mi hv) ZC
 ·cases ck with
  |nil=>exact mq hO (mi Yp) ZC
  |cons x ck=>
   obtain⟨v,ev,hv⟩:=hJ (wk .i64 x) true
   have hw:lF (x::ck) 1 (Nat.sub (x::ck).length 1)=ck:=by unfold lF;simp
   refine Bc (mq (ck:=ck) ⟨⟨by have:=hO.clock.1;simp at this;omega,λw hw=>hO.clock.2 w (by simp[hw])⟩,hO.rand,hO.ilen,hO.inp,hO.files,hO.ulen,hO.outs⟩ (mi hv) ZC) ?_;simp only[oLC,show dR (x::ck) 0=some x from rfl,oBS,ev];have hd:∀inst:Decidable (((ck.length+1:Nat):Int)>0),@decide _ inst=true:=λinst=>oDT (by omega);rw[oLC]at hw;rw[hd,show iz 1 (ck.length+1) (ck.length+1)=true by unfold iz;simp,hw];rfl
 ·cases rn with
  |nil=>exact mq hO (mi Yp) ZC
  |cons x rn=>
   obtain⟨v,ev,hv⟩:=hJ (wk .i64 x) true
   have hw:lF (x::rn) 1 (Nat.sub (x::rn).length 1)=rn:=by unfold lF;simp
   refine Bc (mq (rn:=rn) ⟨hO.clock,⟨by have:=hO.rand.1;simp at this;omega,λw hw=>hO.rand.2 w (by simp[hw])⟩,hO.ilen,hO.inp,hO.files,hO.ulen,hO.outs⟩ (mi hv) ZC) ?_;simp only[oLC,show dR (x::rn) 0=some x from rfl,oBS,ev];have hd:∀inst:Decidable (((rn.length+1:Nat):Int)>0),@decide _ inst=true:=λinst=>oDT (by omega);rw[oLC]at hw;rw[hd,show iz 1 (rn.length+1) (rn.length+1)=true by unfold iz;simp,hw];rfl
 ·obtain⟨_,e,us1,m,b,rfl,hu,ho⟩:=Nz (sk:=a0) hO.ulen hO.outs VD.1 VD.2;obtain⟨v,ev,hv⟩:=hJ m b;simp only[e,ev,oBS];exact mq ⟨hO.clock,hO.rand,hO.ilen,hO.inp,hO.files,hu,ho⟩ (mi hv) ZC
 ·have X8:=a2le rfl;obtain⟨_,e,hr⟩:=GF (ss:=ss) (sk:=a0) (n:=a2) hO.ilen hO.inp w2
  rcases hr with⟨in1,rfl,W1,X6⟩|⟨in1,l,rfl,⟨W1,X6⟩,hl,_,VN⟩
  ·simp only[e,ev0,oBS];exact mq ⟨hO.clock,hO.rand,W1,X6,hO.files,hO.ulen,hO.outs⟩ (mi Yp) ZC
  ·obtain⟨v,ev,hv⟩:=hJ (l.length:Int) true;simp only[e,ev,oBS];exact mq ⟨hO.clock,hO.rand,W1,X6,hO.files,hO.ulen,hO.outs⟩ (mi hv) ⟨by omega,VN⟩
def rS(bs:List Int)(key:Int)(c:DCn):DCe:=if c.1=0 then(0,c.2.1)else if c.1=2 then(2,wk .u16 (c.2.1+key))else(1,wk .u16 (bs.getD c.2.2.1.toNat 0+c.2.2.2))
theorem AS{bs ss:List Int}(h:LV bs ss){r o n:Int}(h1:0<=r)(h2:ss[r.toNat]?=some n)(h3:0<=o)(h4:o<n):∃b,bs[r.toNat]?=some b/\0<=b+o/\b+o<512/\b<=b+o/\b+o<b+n:=by
 have ⟨hs,hl,hr⟩:=h;have hj:=(oGS h2).1;have ⟨b,hb⟩:∃b,bs[r.toNat]?=some b:=⟨_,oGE (by omega)⟩;have VV:=hr r.toNat (by omega);unfold qc at VV;rw[ef hb,ef h2]at VV;exact⟨b,hb,by omega,by omega,by omega,by omega⟩
theorem zq{bs ss:List Int}{key:Int}{c:DCn}(h:LV bs ss)(hc:Pr ss c):iu bs key ss c.1 c.2.1 c.2.2.1 c.2.2.2=some ((rS bs key c).1,(rS bs key c).2,0,())/\pL (RK bs ss) (rS bs key c):=by
 unfold iu rS;rw[mW hc]
 rcases hc with⟨h1|h1,h2,h3,h4⟩|⟨h1,h2,h3,n,h5,h6,h7⟩
 ·rw[h1];exact⟨rfl,nN h4⟩
 ·rw[h1];exact⟨rfl,(show(0:Int)<=2 by decide),(show(2:Int)<=2 by decide),(pb _).1,(pb _).2,λe=>absurd (show(2:Int)=1 from e) (by decide)⟩
 ·obtain⟨b,hb,b0,b1,b2,b3⟩:=AS h h3 h5 h6 h7;obtain⟨j,hj⟩:∃j:Nat,c.2.2.1=j:=⟨c.2.2.1.toNat,by omega⟩;rw[hj]at hb h5⊢;rw[h1,ef hb];simp[Int.reduceBEq,Int.reduceEq,oCF,if_false,dT,oBS,show dR bs j=some b from hb];rw[dX (by omega) (by omega),eE (by omega) (by omega)];exact⟨rfl,by omega,by omega,by omega,by omega,λ_=>⟨j,b,n,hb,h5,b2,b3⟩⟩
theorem MM{bs ss:List Int}{key r o n:Int}(h:LV bs ss)(h1:0<=r)(h2:ss[r.toNat]?=some n)(h3:0<=o)(h4:o<n):∃a,l9 bs key ss r o=some (a,0,())/\0<=a/\a<512/\a=bs.getD r.toNat 0+o:=by
 have ⟨b,hb,b0,b1,_⟩:=AS h h1 h2 h3 h4;obtain⟨j,rfl⟩:∃j:Nat,r=j:=⟨r.toNat,by omega⟩;unfold l9;rw[Hu h1 h2 h3 h4];simp[dT,show dR bs j=some b from hb];rw[dX (by omega) (by omega)]
 simp_all
theorem Qo(pc t v:Int):sd pc t v=some (1,[(t,v),(0,0),(0,0),(0,0),(0,0),(0,0),(0,0),(0,0)],pc,0,-1,-1,0,0,()):=rfl
def UN(n key:Int)(ss bs:List Int)(r:Bool×(List (Int))×Int×(List DCe)×(List DLn)×(List DTh)×Unit):Prop:=∃b Z4 Z2 Zr,r=(b,bs,key,Z4,Z2,Zr,())/\(b=true->MOk n ss bs Z4 Z2 Zr)
theorem Bv{n key:Int}{ss bs:List Int}{cs:List DCe}{ls:List DLn}{ts:List DTh}:Ok (some (false,bs,key,cs,ls,ts,())) (UN n key ss bs):=Ok.ret ⟨_,_,_,_,rfl,λh=>by cases h⟩
theorem tS{n key ct cv:Int}{ss bs:List Int}{cs:List DCe}{ls:List DLn}{ts:List DTh}{i:Nat}(h:MOk n ss bs cs ls ts)(hi:i<4)(hc:pL (RK bs ss) (ct,cv)):
 Ok ((dR ts i).bind λ_=>(dR ts i).bind λx75=>(dR x75.2.1 0).bind λ_=>(dR ts i).bind λx77=>(dR x77.2.1 0).bind λ_=>(dR (List.modify ts i λe=>(e.1,((List.modify e.2.1 0 λ_=>(ct,cv)),e.2.2))) i).bind λ_=>
  some (true,bs,key,cs,ls,List.modify (List.modify ts i λe=>(e.1,((List.modify e.2.1 0 λ_=>(ct,cv)),e.2.2))) i λe=>((1:Int),e.2),())) (UN n key ss bs):=by
 have XC:=h.tlen;have ⟨t,ht⟩:∃t,ts[i]?=some t:=⟨_,oGE (by omega)⟩;have hg:dR ts i=some t:=ht;have YQ:=(oGS ht).1;have hok:=h.thr t (dU ht);have ⟨c,hc0⟩:∃c,t.2.1[0]?=some c:=⟨_,oGE (by have:=hok.len;omega)⟩;simp[hg,show dR t.2.1 0=some c from hc0,eK ht,eK hc0,jd YQ,ry YQ];exact Ok.ret ⟨_,_,_,_,rfl,λ_=>h.set h.mem ⟨⟨show(0:Int)<=1 by decide,show(1:Int)<=4 by decide⟩,by dsimp only;rw[List.length_set];exact hok.len,jX hok.regs hc,hok.pc,hok.count,hok.handler,hok.saved,hok.trap,hok.code⟩⟩
theorem LA{K:Int->Prop}{n pc:Int}{rs:List DCe}(hl:rs.length=8)(hr:∀c∈rs,pL K c)(hp:0<=pc/\pc<=255)(hn:0<=n):CG K n (1,rs,pc,0,-1,-1,0,0):=
 ⟨⟨show(0:Int)<=1 by decide,show(1:Int)<=4 by decide⟩,hl,hr,hp,⟨show(0:Int)<=0 by decide,hn⟩,⟨show(-1:Int)<=-1 by decide,show(-1:Int)<=255 by decide⟩,⟨show(-1:Int)<=-1 by decide,show(-1:Int)<=255 by decide⟩,⟨show(0:Int)<=0 by decide,show(0:Int)<=6 by decide⟩,⟨show(0:Int)<=0 by decide,show(0:Int)<=65535 by decide⟩⟩
theorem MOk.mk_mem{n:Int}{ss bs:List Int}{cs Z4:List DCe}{ls Z2:List DLn}{ts:List DTh}(h:MOk n ss bs cs ls ts)(hm:kW (RK bs ss) Z4 Z2):MOk n ss bs Z4 Z2 ts:=⟨h.lay,hm,h.tlen,h.thr⟩
set_option maxHeartbeats 4000000 in
theorem Qd{n m key:Int}{code:List DIn}{ss bs:List Int}{dd:List (List Int)}{cs:List DCe}{ls:List DLn}{ts:List DTh}{i:Nat}{trap count pc call:Int}{args data:List DCn}{t v rg o sp:Int}{dat:List DCn}{w:Bool}(h:MOk n ss bs cs ls ts)(hi:i<4)
 (hR:DH m ss (i:Int) 1 trap count pc call args data)(hv:Pr ss (t,v,rg,o))(hd:dat.length<=16/\∀c∈dat,Pr ss c)(ZD:-1<=sp/\sp<=3):
 Ok (r8 code ss dd (i:Int) 1 trap count pc call args data t v rg o dat sp w bs key cs ls ts) (UN n key ss bs):=by
 have hL:=h.lay;have XC:=h.tlen;obtain⟨YR,XG⟩:=hR.hkind rfl;have hargs:=hR.hargs;obtain⟨VT,Yw⟩:=zq (key:=key) hL hv;obtain⟨th,Ya⟩:∃th,ts[i]?=some th:=⟨_,oGE (by omega)⟩;have hok:=h.thr th (dU Ya);have hc0:=hok.count;have YQ:=(oGS Ya).1;dsimp only at VT;unfold r8;delta dS;rw[dT,VT,yo hR.hcall];simp only[oBS,bne_self_eq_false,oCF];refine Ok.get YQ λ_ _=>?_;have ZZ:=tS (key:=key) (ct:=(rS bs key (t,v,rg,o)).1) (cv:=(rS bs key (t,v,rg,o)).2) h hi Yw
 have buf:vv call=2->dat.length>0->∃a:DCn,args[1]?=some a/\Pr ss a/\a.1=1/\∃y,dY ne NN (i,dat,(dat.length:Int),0,bs,key,cs,ls,ts,code,ss,dd,(i:Int),1,trap,count,pc,call,args,data,t,v,rg,o,dat,sp,w,(rS bs key (t,v,rg,o)).1,(rS bs key (t,v,rg,o)).2,a.2.2.1,a.2.2.2,())=some y /\
  ((∃Z4 Z2,y=.inl (false,bs,key,Z4,Z2,ts,()))\/(∃Z4 Z2 z f,y=.inr (i,dat,(dat.length:Int),z,false,bs,key,Z4,Z2,ts,code,ss,dd,(i:Int),1,trap,count,pc,call,args,data,t,v,rg,o,dat,sp,w,(rS bs key (t,v,rg,o)).1,(rS bs key (t,v,rg,o)).2,a.2.2.1,f,())/\kW (RK bs ss) Z4 Z2)):=by
  intro hb ZV
  have hkk:(kB call)[1]?=some 80:=by
   have:call=2\/call=14:=by unfold vv at hb;split at hb<;>first|omega|(split at hb<;>omega)
   rcases this with rfl|rfl<;>rfl
  have Xv:=(oGS hkk).1;obtain⟨a,ha⟩:∃a,args[1]?=some a:=⟨_,oGE (by omega)⟩;have V4:=hargs.2 a (dU ha);have ZU:=XG 1 80 a hkk ha
  have XF:a.1=1:=by unfold QL at ZU;simpa using ZU
  have ha32:0<=a.2.2.2/\a.2.2.2<=32:=by
   rcases V4 with⟨g,_⟩|⟨_,_,_,z,g1,g2,g3⟩
   ·omega
   ·have:=hL.1.2.2 z (dU g1);omega
  refine⟨a,ha,V4,XF,?_⟩
  refine gI (f:=ne) (n:=NN) (P:=λs'=>∃k:Nat,∃Z4 Z2,s'=(i,dat,(dat.length:Int),(k:Int),bs,key,Z4,Z2,ts,code,ss,dd,(i:Int),1,trap,count,pc,call,args,data,t,v,rg,o,dat,sp,w,(rS bs key (t,v,rg,o)).1,(rS bs key (t,v,rg,o)).2,a.2.2.1,a.2.2.2+k,())/\k<=dat.length/\kW (RK bs ss) Z4 Z2)
   (R:=λy=>(∃Z4 Z2,y=.inl (false,bs,key,Z4,Z2,ts,()))\/(∃Z4 Z2 z f,y=.inr (i,dat,(dat.length:Int),z,false,bs,key,Z4,Z2,ts,code,ss,dd,(i:Int),1,trap,count,pc,call,args,data,t,v,rg,o,dat,sp,w,(rS bs key (t,v,rg,o)).1,(rS bs key (t,v,rg,o)).2,a.2.2.1,f,())/\kW (RK bs ss) Z4 Z2))
   (m:=λs'=>(s'.2.2.1-s'.2.2.2.1).toNat) ⟨0,cs,ls,by simp,by omega,h.mem⟩ (by unfold NN;dsimp only;omega) ?_
  rintro _ ⟨k,Z4,Z2,rfl,hk,hm⟩;unfold ne;dsimp only
  (with_reducible refine dO (λZ'=>?_) λZ'=>?_)
  ·rw[dT];simp only[oBS];refine Ok.get (by omega) λc hc=>?_;obtain⟨Z7,X2⟩:=zq (key:=key) hL (hd.2 c (dU hc));rw[Z7];simp only[oBS,bne_self_eq_false,oCF];refine D7.bind ?_;rintro⟨q,_⟩ hin;dsimp only at hin⊢
   (with_reducible refine dO (λZ3=>?_) λZ3=>?_)
   ·exact Ok.ret (.inl ⟨_,_,rfl⟩)
   ·obtain⟨g1,g2,z,g3,g4⟩:=hin Z3;obtain⟨ad,ea,a0,a1,_⟩:=MM (key:=key) hL g1 g3 g2 g4;rw[ea];simp only[oBS];refine(DR hm ⟨a0,a1⟩ X2).bind ?_;rintro _ ⟨Vr,V2,rfl,hm2⟩;dsimp only;rw[dX (x:=a.2.2.2+k+1) (by omega) (by omega),dX (x:=(k:Int)+1) (by omega) (by omega)];exact Ok.ret ⟨⟨k+1,_,_,by rw[show a.2.2.2+((k+1:Nat):Int)=a.2.2.2+k+1 by omega];rfl,by omega,hm2⟩,by dsimp only;omega⟩
  ·exact Ok.ret (.inr ⟨_,_,_,_,rfl,hm⟩)
 rcases ze hR.hcall with rfl|rfl|rfl|rfl|rfl|rfl|rfl|rfl|rfl|rfl|rfl|rfl|rfl|rfl|rfl|rfl
 case inr.inr.inl=>
  simp only[show((vv 2)==2)=true from rfl,oCT];by_cases ZV:dat.length>0
  ·obtain⟨a,ha,V4,XF,y,ey,hy⟩:=buf rfl ZV;simp only[oDT (show((dat.length:Nat):Int)>0 by omega),oCT,show dR args 1=some a from ha,oBS,mW V4,oNT,oCF,bne_eq_false_iff_eq.2 XF,ey]
   rcases hy with⟨Z4,Z2,rfl⟩|⟨Z4,Z2,z,f,rfl,hm⟩
   ·exact Bv
   ·simp only[Int.reduceBEq,oCF];exact tS (h.mk_mem hm) hi Yw
  ·simp only[oDF (show ¬((dat.length:Nat):Int)>0 by omega),oCF,Int.reduceBEq];exact ZZ
 case inr.inr.inr.inr.inr.inr.inr.inr.inr.inr.inr.inr.inr.inr.inl=>
  simp only[show((vv 14)==2)=true from rfl,oCT];by_cases ZV:dat.length>0
  ·obtain⟨a,ha,V4,XF,y,ey,hy⟩:=buf rfl ZV;simp only[oDT (show((dat.length:Nat):Int)>0 by omega),oCT,show dR args 1=some a from ha,oBS,mW V4,oNT,oCF,bne_eq_false_iff_eq.2 XF,ey]
   rcases hy with⟨Z4,Z2,rfl⟩|⟨Z4,Z2,z,f,rfl,hm⟩
   ·exact Bv
   ·simp only[Int.reduceBEq,oCF];exact tS (h.mk_mem hm) hi Yw
  ·simp only[oDF (show ¬((dat.length:Nat):Int)>0 by omega),oCF,Int.reduceBEq];exact ZZ
 case inr.inr.inr.inr.inr.inr.inr.inr.inr.inr.inr.inr.inl=>
  obtain⟨a,ha⟩:∃a,args[0]?=some a:=⟨_,oGE (by rw[YR];decide)⟩;have hva:=(hargs.2 a (dU ha)).val;simp only[show((vv 12)==2)=false from rfl,oCF,Int.reduceBEq,oCT,show dR args 0=some a from ha,oBS];rw[ej (x:=a.2.1) (by have:=hva.1;omega) (by have:=hva.2;omega)];by_cases h1:a.2.1>255
  ·simp only[oDT h1,oCT];exact Bv
  by_cases h2:a.1=0
  ·simp only[oDF h1,oCF,bne_eq_false_iff_eq.2 h2,show dR ts i=some th from Ya,oBS,eK Ya];exact tS (h.set h.mem ⟨hok.state,hok.len,hok.regs,hok.pc,hok.count,⟨by dsimp only;have:=hva.1;omega,by dsimp only;omega⟩,hok.saved,hok.trap,hok.code⟩) hi Yw
  ·simp only[oDF h1,oCF,bne_iff_ne.2 h2,oCT];exact Bv
 case inr.inr.inr.inr.inr.inr.inr.inr.inr.inr.inl=>
  obtain⟨a,ha⟩:∃a,args[0]?=some a:=⟨_,oGE (by rw[YR];decide)⟩;obtain⟨c,hc⟩:∃c,args[1]?=some c:=⟨_,oGE (by rw[YR];decide)⟩;have hva:=(hargs.2 a (dU ha)).val;obtain⟨Z7,X2⟩:=zq (key:=key) hL (hargs.2 c (dU hc));simp only[show((vv 10)==2)=false from rfl,oCF,Int.reduceBEq,oCT];by_cases hsp0:sp>=0
  ·obtain⟨j,rfl⟩:∃j:Nat,sp=j:=⟨sp.toNat,by omega⟩;obtain⟨tj,htj⟩:∃tj,ts[j]?=some tj:=⟨_,oGE (by omega)⟩;simp only[oDT hsp0,oCT,show dR args 0=some a from ha,show dR args 1=some c from hc,oBS,Z7,bne_self_eq_false,oCF,dT,show dR ts j=some tj from htj];rw[ej (x:=a.2.1) (by have:=hva.1;omega) (by have:=hva.2;omega)];by_cases h0:tj.1=0
   ·by_cases h1:a.2.1>255
    ·simp only[bne_eq_false_iff_eq.2 h0,oCF,oDT h1,oCT,oBS];exact Bv
    by_cases h2:a.1=0
    ·simp only[bne_eq_false_iff_eq.2 h0,oDF h1,oCF,bne_eq_false_iff_eq.2 h2,oBS,show dR args 0=some a from ha,ej (x:=a.2.1) (by have:=hva.1;omega) (by have:=hva.2;omega),Qo,dT,show dR ts j=some tj from htj,eK htj];refine tS (h.set h.mem (LA rfl (all_cons X2 ?_) ⟨hva.1,by omega⟩ (by omega))) hi Yw;exact all_cons (nN (by decide)) (all_cons (nN (by decide)) (all_cons (nN (by decide)) (all_cons (nN (by decide)) (all_cons (nN (by decide)) (all_cons (nN (by decide)) (all_cons (nN (by decide)) eJ))))))
    ·simp only[bne_eq_false_iff_eq.2 h0,oDF h1,oCF,bne_iff_ne.2 h2,oCT,oBS];exact Bv
   ·simp only[bne_iff_ne.2 h0,oCT,oBS];exact Bv
  ·simp only[oDF hsp0,oCF];exact ZZ
 all_goals
  simp only[show((vv 0)==2)=false from rfl,show((vv 1)==2)=false from rfl,show((vv 3)==2)=false from rfl,show((vv 4)==2)=false from rfl,show((vv 5)==2)=false from rfl,show((vv 6)==2)=false from rfl,show((vv 7)==2)=false from rfl,
   show((vv 8)==2)=false from rfl,show((vv 9)==2)=false from rfl,show((vv 11)==2)=false from rfl,show((vv 13)==2)=false from rfl,show((vv 15)==2)=false from rfl,oCF,Int.reduceBEq]
  exact ZZ
theorem DL{ss:List Int}{t v rg o sp:Int}{dat:List DCn}{w:Bool}(hs:zi ss)(hv:Pr ss (t,v,rg,o))(hd:dat.length<=16/\∀c∈dat,Pr ss c)(ZD:-1<=sp/\sp<=3):lU t v rg o dat sp w=some (true,()):=by
 refine fc ?_;unfold lU;rw[show i3 t v rg o=some (true,())from ID hs hv,lC hs hd.2 (by omega) (by omega)];refine dP (oDT ZD.1) ?_;exact Ok.ret (by rw[oDT (show sp<4 by omega)])
theorem Uf{n m key:Int}{code:List DIn}{ss bs:List Int}{dd:List (List Int)}{cs:List DCe}{ls:List DLn}{ts:List DTh}{i:Nat}{trap count pc call:Int}{args data:List DCn}{t v rg o sp:Int}{dat:List DCn}{w:Bool}(hp:kV code ss dd)(h:MOk n ss bs cs ls ts)(hi:i<4)
 (hn:n<=1099511627776)(hm:m<=1099511627776)(hR:DH m ss (i:Int) 1 trap count pc call args data)(hv:Pr ss (t,v,rg,o))(hd:dat.length<=16/\∀c∈dat,Pr ss c)(ZD:-1<=sp/\sp<=3):
 Ok (r9 code ss dd bs key cs ls ts (i:Int) 1 trap count pc call args data t v rg o dat sp w) λr=>∃Z4 Z2 Zr b,r=(bs,key,Z4,Z2,Zr,b,())/\MOk n ss bs Z4 Z2 Zr:=by
 have XC:=h.tlen;obtain⟨YR,XG⟩:=hR.hkind rfl;obtain⟨th,Ya⟩:∃th,ts[i]?=some th:=⟨_,oGE (by omega)⟩;have hok:=h.thr th (dU Ya)
 have YQ:=by omega
 have hg:dR ts i=some th:=Ya;unfold r9;delta dS;rw[u7 hp h hn,DN hp.sz hR hm,Ao hR.hcall,DL hp.sz hv hd ZD,YR];simp only[oBS,oNT,oCF,bne_self_eq_false,dT,hg];by_cases h2:th.1=2
 ·simp only[bne_eq_false_iff_eq.2 h2,oCF,xO h,oBS,dT,hg];by_cases hc0:call=0
  ·subst hc0;obtain⟨a,ha⟩:∃a,args[0]?=some a:=⟨_,oGE (by rw[YR];decide)⟩;have hva:=(hR.hargs.2 a (dU ha)).val;simp only[BEq.rfl,oCT,show dR args 0=some a from ha,oBS];unfold ph ng;rw[d8 (show 4<=1000/\0+th.2.1.length<=1000000 by have:=hok.len;omega)];simp only[oCT,oBS,eK Ya];exact Ok.ret ⟨_,_,_,_,rfl,h.set h.mem ⟨⟨show(0:Int)<=4 by decide,show(4:Int)<=4 by decide⟩,by dsimp only;rw[fB];simpa using hok.len,kA eJ hok.regs,hok.pc,hok.count,hok.handler,hok.saved,⟨show(0:Int)<=0 by decide,show(0:Int)<=6 by decide⟩,hva⟩⟩
  ·simp only[oBF hc0,oCF]
   cases w with
   |true=>
    simp only[oCT,eK Ya];exact Ok.ret ⟨_,_,_,_,rfl,h.set h.mem ⟨⟨show(0:Int)<=3 by decide,show(3:Int)<=4 by decide⟩,hok.len,hok.regs,hok.pc,hok.count,hok.handler,hok.saved,hok.trap,hok.code⟩⟩
   |false=>
    refine(Qd h hi hR hv hd ZD).bind ?_;rintro _ ⟨b,Z4,Z2,Zr,rfl,hb⟩;dsimp only
    cases b with
    |true=>exact Ok.ret ⟨_,_,_,_,rfl,hb rfl⟩
    |false=>exact Ok.ret ⟨_,_,_,_,rfl,h⟩
 ·simp only[bne_iff_ne.2 h2,oCT];exact Ok.ret ⟨_,_,_,_,rfl,h⟩
theorem Pl{n key:Int}{code:List DIn}{ss bs:List Int}{dd:List (List Int)}{cs:List DCe}{ls:List DLn}{ts:List DTh}{i t v rg o sp:Int}{dat:List DCn}{w:Bool}(hp:kV code ss dd)(h:MOk n ss bs cs ls ts)
 (hn:n<=1099511627776)(hv:Pr ss (t,v,rg,o))(hd:dat.length<=16/\∀c∈dat,Pr ss c)(ZD:-1<=sp/\sp<=3):
 Ok (nD code ss dd bs key cs ls ts i t v rg o dat sp w) λr=>∃Z4 Z2 Zr b,r=(bs,key,Z4,Z2,Zr,b,())/\MOk n ss bs Z4 Z2 Zr:=by
 have XC:=h.tlen;obtain⟨VT,Yw⟩:=zq (key:=key) h.lay hv;unfold nD;rw[u7 hp h hn,DL hp.sz hv hd ZD];simp only[oBS,oNT,oCF];by_cases h1:i<0
 ·simp only[oDT h1,oCT];exact Ok.ret ⟨_,_,_,_,rfl,h⟩
 by_cases h2:i>=4
 ·simp only[oDF h1,oDT h2,oCT,oCF,oBS];exact Ok.ret ⟨_,_,_,_,rfl,h⟩
 obtain⟨i,rfl⟩:∃k:Nat,i=k:=⟨i.toNat,by omega⟩;obtain⟨th,Ya⟩:∃th,ts[i]?=some th:=⟨_,oGE (by omega)⟩;have hok:=h.thr th (dU Ya);have YQ:=(oGS Ya).1;have hg:dR ts i=some th:=Ya;obtain⟨c,hc0⟩:∃c,th.2.1[0]?=some c:=⟨_,oGE (by have:=hok.len;omega)⟩;simp only[oDF h1,oDF h2,oCF,dT,oBS,hg];by_cases h3:th.1=3
 ·simp only[bne_eq_false_iff_eq.2 h3,oCF,VT,oBS,bne_self_eq_false,xO h,dT,hg,show dR th.2.1 0=some c from hc0,eK Ya,eK hc0,jd YQ,ry YQ];exact Ok.ret ⟨_,_,_,_,rfl,h.set h.mem ⟨⟨show(0:Int)<=1 by decide,show(1:Int)<=4 by decide⟩,by dsimp only;rw[List.length_set];exact hok.len,jX hok.regs Yw,hok.pc,hok.count,hok.handler,hok.saved,hok.trap,hok.code⟩⟩
 ·simp only[bne_iff_ne.2 h3,oCT];exact Ok.ret ⟨_,_,_,_,rfl,h⟩
structure lq (n:Int)(q:Nat)(code:List DIn)(ss:List Int)(dt:List (List Int))(bs:List Int)(cs:List DCe)(ls:List DLn)(ts:List DTh)(ck rn:List Int)(ins:List (List Int))(d:List (List DCn))(os:List DOp)(us:List DOu)(ow:List Int)(qs:List (List Int))(rec:List DEn)(js:List Int):Prop where
 prog:kV code ss dt
 mach:MOk n ss bs cs ls ts
 outs:CH ss ck rn ins d os us
 lock:j4 ow qs
 rlen:rec.length<=q
 jlen:js.length=4
def UL(n key:Int)(q:Nat)(code:List DIn)(ss:List Int)(dt:List (List Int))(bs:List Int)(r:(List DIn)×(List (Int))×(List (List (Int)))×(List (Int))×Int×(List DCe)×(List DLn)×(List DTh)×(List (Int))×(List (Int))×(List (List (Int)))×(List (List DCn))×(List DOp)×(List DOu)×(List (Int))×(List (List (Int)))×(List DEn)×(List (Int))×Unit):Prop:=
 ∃cs ls ts ck rn ins d os us ow qs rec js,r=(code,ss,dt,bs,key,cs,ls,ts,ck,rn,ins,d,os,us,ow,qs,rec,js,())/\lq n q code ss dt bs cs ls ts ck rn ins d os us ow qs rec js
theorem MT{n:Int}{q:Nat}{code:List DIn}{ss:List Int}{dt:List (List Int)}{bs:List Int}{key:Int}{cs:List DCe}{ls:List DLn}{ts:List DTh}{ck rn:List Int}{ins:List (List Int)}{d:List (List DCn)}{os:List DOp}{us:List DOu}{ow:List Int}{qs:List (List Int)}{rec:List DEn}{js:List Int}{i v:Int}(h:lq n q code ss dt bs cs ls ts ck rn ins d os us ow qs rec js)(hn:n<=1099511627776)(hq:q<=900)(hv:W16 v):
 Ok (qf i v code ss dt bs key cs ls ts ck rn ins d os us ow qs rec js) (UL n key (q+1) code ss dt bs):=by
 unfold qf;rw[ej (by have:=hv.1;omega) (by have:=hv.2;omega)];have ⟨v2,ev,WU⟩:=hJ v true;simp[ev];refine(Pl h.prog h.mach hn (mi WU) ⟨by decide,eJ⟩ (by decide)).bind ?_;rintro _ ⟨Z4,Z2,Zr,b,rfl,hM⟩;have hr:=h.rlen;refine dP (d8 (by simp;omega)) ?_;exact Ok.ret ⟨_,_,_,_,_,_,_,_,_,_,_,_,_,rfl,h.prog,hM,h.outs,h.lock,by simp_all,h.jlen⟩
theorem Kj{n:Int}{q:Nat}{code:List DIn}{ss:List Int}{dt:List (List Int)}{bs:List Int}{key:Int}{cs:List DCe}{ls:List DLn}{ts:List DTh}{ck rn:List Int}{ins:List (List Int)}{d:List (List DCn)}{os:List DOp}{us:List DOu}{ow:List Int}{qs:List (List Int)}{rec:List DEn}{js:List Int}{i v:Int}(h:lq n q code ss dt bs cs ls ts ck rn ins d os us ow qs rec js)(hn:n<=1099511627776)(hq:q<=900)(hv:W16 v):
 Ok (kG i v code ss dt bs key cs ls ts ck rn ins d os us ow qs rec) λr=>∃Z4 Z2 Zr rec',r=(code,ss,dt,bs,key,Z4,Z2,Zr,ck,rn,ins,d,os,us,ow,qs,rec',())/\lq n (q+1) code ss dt bs Z4 Z2 Zr ck rn ins d os us ow qs rec' js:=by
 unfold kG;rw[ej (by have:=hv.1;omega) (by have:=hv.2;omega)];have ⟨v2,ev,WU⟩:=hJ v true;simp[ev];refine(Pl h.prog h.mach hn (mi WU) ⟨by decide,eJ⟩ (by decide)).bind ?_;rintro _ ⟨Z4,Z2,Zr,b,rfl,hM⟩;have hr:=h.rlen;refine dP (d8 (by simp;omega)) ?_;exact Ok.ret ⟨_,_,_,_,rfl,h.prog,hM,h.outs,h.lock,by simp_all,h.jlen⟩
def UO(n key:Int)(q:Nat)(code:List DIn)(ss:List Int)(dt:List (List Int))(bs:List Int)(cs:List DCe)(ls:List DLn)(ts:List DTh)(rec:List DEn)(r:Int×Int×Int×Int×(List DCn)×Int×Bool×(List DIn)×(List (Int))×(List (List (Int)))×(List (Int))×Int×(List DCe)×(List DLn)×(List DTh)×(List (Int))×(List (Int))×(List (List (Int)))×(List (List DCn))×(List DOp)×(List DOu)×(List (Int))×(List (List (Int)))×(List DEn)×(List (Int))×Unit):Prop:=
 ∃t v rg o dat sp w ck rn ins d os us ow qs js,r=(t,v,rg,o,dat,sp,w,code,ss,dt,bs,key,cs,ls,ts,ck,rn,ins,d,os,us,ow,qs,rec,js,())/\lq n q code ss dt bs cs ls ts ck rn ins d os us ow qs rec js/\Pr ss (t,v,rg,o)/\(dat.length<=16/\∀c∈dat,Pr ss c)/\-1<=sp/\sp<=3
set_option maxHeartbeats 4000000 in
theorem L0{n m:Int}{q:Nat}{code:List DIn}{ss:List Int}{dt:List (List Int)}{bs:List Int}{key:Int}{cs:List DCe}{ls:List DLn}{ts:List DTh}{ck rn:List Int}{ins:List (List Int)}{d:List (List DCn)}{os:List DOp}{us:List DOu}{ow:List Int}{qs:List (List Int)}{rec:List DEn}{js:List Int}{i:Nat}{trap count pc call:Int}{args data:List DCn}(h:lq n q code ss dt bs cs ls ts ck rn ins d os us ow qs rec js)(hi:i<4)(hm:m<=1099511627776)(hR:DH m ss (i:Int) 1 trap count pc call args data):
 Ok (lO (i:Int) 1 trap count pc call args data code ss dt bs key cs ls ts ck rn ins d os us ow qs rec js) (UO n key q code ss dt bs cs ls ts rec):=by
 obtain⟨YR,_⟩:=hR.hkind rfl;have XC:=h.mach.tlen;obtain⟨v0,ev0,Yp⟩:=hJ 0 true;obtain⟨v1,ev1,hv1⟩:=hJ 0 false;have ZC:([]:List DCn).length<=16/\∀c∈([]:List DCn),Pr ss c:=⟨by decide,eJ⟩
 have ZZ:∀{v:Int}{w:Bool}{Zk:List Int}{qs':List (List Int)}{js':List Int},W16 v->j4 Zk qs'->js'.length=4->Ok (some ((0:Int),v,(0:Int),(0:Int),([]:List DCn),(-1:Int),w,code,ss,dt,bs,key,cs,ls,ts,ck,rn,ins,d,os,us,Zk,qs',rec,js',())) (UO n key q code ss dt bs cs ls ts rec):=
  λhv hl hj=>Ok.ret ⟨_,_,_,_,_,_,_,_,_,_,_,_,_,_,_,_,rfl,⟨h.prog,h.mach,h.outs,hl,h.rlen,hj⟩,mi hv,ZC,by decide,by decide⟩
 have hdo:Ta call=true->Ok ((ro ck rn ins d os us (i:Int) 1 trap count pc call args data).bind λ(x35,x36,x37,x38,x39,x40,x41,x42,x43,x44,x45,x46,x47,x48,_)=>some (x41,x42,x43,x44,x45,x46,x47,code,ss,dt,bs,key,cs,ls,ts,x35,x36,x37,x38,x39,x40,ow,qs,rec,js,())) (UO n key q code ss dt bs cs ls ts rec):=by
  intro ha;refine(ST h.prog.sz h.outs hR ha hm).bind ?_;rintro _ ⟨ck',rn',Yr,d',Zj,us',t,v,rg,o,dat,rfl,hO,hv,YB,hd2⟩;exact Ok.ret ⟨_,_,_,_,_,_,_,_,_,_,_,_,_,_,_,_,rfl,⟨h.prog,h.mach,hO,h.lock,h.rlen,h.jlen⟩,hv,⟨YB,hd2⟩,by decide,by decide⟩
 have arg0:0<(kB call).length->∃a,dR args 0=some a/\W16 a.2.1/\wk .i64 a.2.1=a.2.1:=λhl=>by
  obtain⟨a,ha⟩:∃a,args[0]?=some a:=⟨_,oGE (by omega)⟩;have hva:=(hR.hargs.2 a (dU ha)).val;exact⟨a,ha,hva,ej (by have:=hva.1;omega) (by have:=hva.2;omega)⟩
 unfold lO;delta dS
 try dsimp only
 rcases ze hR.hcall with rfl|rfl|rfl|rfl|rfl|rfl|rfl|rfl|rfl|rfl|rfl|rfl|rfl|rfl|rfl|rfl
 all_goals simp only[Int.reduceBEq,oCT,oCF,oBS,ev0,ev1]
 all_goals first
  |exact hdo rfl
  |exact ZZ Yp h.lock h.jlen
  |skip
 ·obtain⟨a,ga,ha,wa⟩:=arg0 (by decide);simp only[ga,oBS,wa];refine(RJ h.lock (by omega)).bind ?_;rintro _ ⟨Zk,qs',how,rfl,hl⟩;dsimp only;obtain⟨v,ev,hv⟩:=hJ 0 (how != 2);simp only[ev,oBS];exact ZZ hv hl h.jlen
 ·obtain⟨a,ga,ha,wa⟩:=arg0 (by decide);simp only[ga,oBS,wa];refine(JN h.lock).bind ?_;rintro _ ⟨Zk,qs',nx,b,rfl,hl,_⟩;dsimp only;obtain⟨v,ev,hv⟩:=hJ 0 b;simp only[ev,oBS];exact ZZ hv hl h.jlen
 ·obtain⟨y,e,hy⟩:=gI (f:=lN) (n:=NN) (s:=(ts,(ts.length:Int),0,code,ss,dt,bs,key,cs,ls,ts,ck,rn,ins,d,os,us,ow,qs,rec,js,0,0,0,0,(),0,false,()))
   (P:=λs'=>∃k:Nat,s'=(ts,(ts.length:Int),(k:Int),code,ss,dt,bs,key,cs,ls,ts,ck,rn,ins,d,os,us,ow,qs,rec,js,0,0,0,0,(),0,false,())/\k<=4)
   (R:=λy=>(∃v k,y=.inl (code,ss,dt,bs,key,cs,ls,ts,ck,rn,ins,d,os,us,ow,qs,rec,js,0,v,0,0,(),k,false,())/\W16 v/\0<=k/\k<=3)\/(∃a b c f,y=.inr (a,b,c,f,code,ss,dt,bs,key,cs,ls,ts,ck,rn,ins,d,os,us,ow,qs,rec,js,0,0,0,0,(),0,false,())))
   (m:=λs'=>(s'.2.1-s'.2.2.1).toNat) ⟨0,rfl,by omega⟩ (by unfold NN;dsimp only;omega) (by
    rintro _ ⟨k,rfl,hk⟩;unfold lN;dsimp only
    (with_reducible refine dO (λZ'=>?_) λZ'=>?_)
    ·obtain⟨t,ht⟩:∃t,ts[k]?=some t:=⟨_,oGE (by omega)⟩;simp only[dT,oBS,show dR ts k=some t from ht]
     (with_reducible refine dO (λZ3=>?_) λZ3=>?_)
     ·obtain⟨v,ev,hv⟩:=hJ (k:Int) true;simp only[ev,oBS];exact Ok.ret (.inl ⟨_,_,rfl,hv,by omega,by omega⟩)
     ·rw[dX (x:=(k:Int)+1) (by omega) (by omega)];exact Ok.ret ⟨⟨k+1,rfl,by omega⟩,by dsimp only;omega⟩
    ·exact Ok.ret (.inr ⟨_,_,_,_,rfl⟩))
  simp only[e]
  rcases hy with⟨v,k,rfl,hv,k0,k3⟩|⟨a,b,c,f,rfl⟩
  ·exact Ok.ret ⟨_,_,_,_,_,_,_,_,_,_,_,_,_,_,_,_,rfl,⟨h.prog,h.mach,h.outs,h.lock,h.rlen,h.jlen⟩,mi hv,ZC,by omega,by omega⟩
  ·simp only[ev1,oBS];exact ZZ hv1 h.lock h.jlen
 ·obtain⟨a,ga,ha,wa⟩:=arg0 (by decide);simp only[ga,oBS,wa];obtain⟨j,hj⟩:∃j:Nat,a.2.1=j:=⟨a.2.1.toNat,by have:=ha.1;omega⟩;simp only[hj];by_cases h1:(j:Int)=i
  ·simp only[beq_iff_eq.2 h1,oCT,oBS,ev1];exact ZZ hv1 h.lock h.jlen
  by_cases h2:(j:Int)>=4
  ·simp only[oBF h1,oDT h2,oCT,oCF,oBS,ev1];exact ZZ hv1 h.lock h.jlen
  obtain⟨t,ht⟩:∃t,ts[j]?=some t:=⟨_,oGE (by omega)⟩;simp only[oBF h1,oDF h2,oCF,oBS,dT,show dR ts j=some t from ht]
  cases t.1==0 with
  |true=>
   simp only[oCT,ev1,oBS];exact ZZ hv1 h.lock h.jlen
  |false=>
   simp only[oCF,dT,oBS,show dR ts j=some t from ht]
   cases t.1==4 with
   |true=>
    obtain⟨v,ev,hv⟩:=hJ (wk .i64 t.2.2.2.2.2.2.2) true;simp only[oCT,ev,oBS];exact ZZ hv h.lock h.jlen
   |false=>
    obtain⟨z,hz⟩:∃z,js[i]?=some z:=⟨_,oGE (by have:=h.jlen;omega)⟩;simp only[oCF,show dR js i=some z from hz,oBS,ev0,eK hz];exact ZZ Yp h.lock (by rw[List.length_set];exact h.jlen)
theorem Cr{n m:Int}{q:Nat}{code:List DIn}{ss:List Int}{dt:List (List Int)}{bs:List Int}{key:Int}{cs:List DCe}{ls:List DLn}{ts:List DTh}{ck rn:List Int}{ins:List (List Int)}{d:List (List DCn)}{os:List DOp}{us:List DOu}{ow:List Int}{qs:List (List Int)}{rec:List DEn}{js:List Int}{i:Nat}{trap count pc call:Int}{args data:List DCn}(h:lq n q code ss dt bs cs ls ts ck rn ins d os us ow qs rec js)(hi:i<4)(hn:n<=1099511627776)(hm:m<=1099511627776)(hq:q<=800)(hR:DH m ss (i:Int) 1 trap count pc call args data):
 Ok (kH (i:Int) 1 trap count pc call args data code ss dt bs key cs ls ts ck rn ins d os us ow qs rec js) (UL n key (q+2) code ss dt bs):=by
 obtain⟨YR,_⟩:=hR.hkind rfl;unfold kH;refine Ok.bind (P:=λr=>∃nx,r=(nx,code,ss,dt,bs,key,cs,ls,ts,ck,rn,ins,d,os,us,ow,qs,rec,js,(i:Int),1,trap,count,pc,call,args,data,())) ?_ ?_
 ·by_cases h9:call=9
  ·subst h9;obtain⟨a,ha⟩:∃a,args[0]?=some a:=⟨_,oGE (by rw[YR];decide)⟩;simp only[BEq.rfl,oCT,show dR args 0=some a from ha,oBS];refine(JN h.lock).bind ?_;rintro _ ⟨Zk,qs',nx,b,rfl,hl,_⟩;exact Ok.ret ⟨nx,rfl⟩
  ·simp only[oBF h9,oCF];exact Ok.ret ⟨_,rfl⟩
 rintro _ ⟨nx,rfl⟩;dsimp only;refine(L0 h hi hm hR).bind ?_;rintro _ ⟨t,v,rg,o,dat,sp,w,ck',rn',Yr,d',Zj,us',Zk,qs',js',rfl,h2,hv,hd,hs1,Y'⟩;dsimp only;refine(Uf h.prog h.mach hi hn hm hR hv hd ⟨hs1,Y'⟩).bind ?_;rintro _ ⟨Z4,Z2,Zr,b,rfl,hM⟩;dsimp only;have hr:=h.rlen;refine dP (d8 (by simp;omega)) ?_;have h3:∀e:DEn,lq n (q+1) code ss dt bs Z4 Z2 Zr ck' rn' Yr d' Zj us' Zk qs' (List.append rec [e]) js':=λe=>⟨h2.prog,hM,h2.outs,h2.lock,by rw[fB];simp;omega,h2.jlen⟩
 (with_reducible refine dO (λZ'=>?_) λZ'=>?_)
 ·refine(MT (h3 _) hn (by omega) ⟨by decide,by decide⟩).bind ?_;rintro _ ⟨cs3,ls3,ts3,ck3,rn3,ins3,d3,os3,us3,ow3,qs3,rec3,js3,rfl,h4⟩;exact Ok.ret ⟨_,_,_,_,_,_,_,_,_,_,_,_,_,rfl,h4⟩
 ·have h4:=h3 (2,(i:Int),0,(i:Int),1,trap,count,pc,call,args,data,t,v,rg,o,dat,sp,w);exact Ok.ret ⟨_,_,_,_,_,_,_,_,_,_,_,_,_,rfl,h4.prog,h4.mach,h4.outs,h4.lock,by have:=h4.rlen;omega,h4.jlen⟩
theorem F0{n:Int}{q:Nat}{code:List DIn}{ss:List Int}{dt:List (List Int)}{bs:List Int}{key:Int}{cs:List DCe}{ls:List DLn}{ts:List DTh}{ck rn:List Int}{ins:List (List Int)}{d:List (List DCn)}{os:List DOp}{us:List DOu}{ow:List Int}{qs:List (List Int)}{rec:List DEn}{js:List Int}{i:Nat}(h:lq n q code ss dt bs cs ls ts ck rn ins d os us ow qs rec js)(hi:i<4)(hn:n<=1099511627776)(hq:q<=800):
 Ok (lP (i:Int) code ss dt bs key cs ls ts ck rn ins d os us ow qs rec js) (UL n key (q+8) code ss dt bs):=by
 unfold lP;delta dS
 try dsimp only
 refine(SR h.lock).bind ?_;rintro _ ⟨Zk,qs',nx,rfl,hl,hn4,W4⟩;dsimp only
 refine Ok.loop (P:=λs'=>∃k:Nat,∃cs ls ts rec,s'=((i:Int),(nx.length:Int),(k:Int),code,ss,dt,bs,key,cs,ls,ts,ck,rn,ins,d,os,us,Zk,qs',rec,js,nx,())/\k<=nx.length/\lq n (q+k) code ss dt bs cs ls ts ck rn ins d os us Zk qs' rec js)
  (R:=λr=>∃a b f cs ls ts rec,r=((i:Int),a,b,f,code,ss,dt,bs,key,cs,ls,ts,ck,rn,ins,d,os,us,Zk,qs',rec,js,nx,())/\lq n (q+4) code ss dt bs cs ls ts ck rn ins d os us Zk qs' rec js) (m:=λs'=>(s'.2.1-s'.2.2.1).toNat)
  ⟨0,cs,ls,ts,rec,rfl,by omega,h.prog,h.mach,h.outs,hl,by have:=h.rlen;omega,h.jlen⟩ (by unfold NN;dsimp only;omega) ?_ ?_
 ·rintro _ ⟨k,Vr,V2,ts2,WO,rfl,hk,h2⟩;unfold te;dsimp only
  (with_reducible refine dO (λZ'=>?_) λZ'=>?_)
  ·obtain⟨x,hx⟩:∃x,nx[k]?=some x:=⟨_,oGE (by omega)⟩;simp only[dT,oBS,show dR nx k=some x from hx];refine(Kj h2 hn (by omega) ⟨by decide,by decide⟩).bind ?_;rintro _ ⟨cs3,ls3,ts3,rec3,rfl,h3⟩;dsimp only;rw[dX (x:=(k:Int)+1) (by omega) (by omega)];exact Ok.ret ⟨⟨k+1,_,_,_,_,rfl,by omega,h3⟩,by dsimp only;omega⟩
  ·exact Ok.ret ⟨_,_,_,_,_,_,_,rfl,h2.prog,h2.mach,h2.outs,h2.lock,by have:=h2.rlen;omega,h2.jlen⟩
 rintro _ ⟨a,b,f,Vr,V2,ts2,WO,rfl,h2⟩;dsimp only
 refine Ok.loop (P:=λs'=>∃k:Nat,∃cs ls ts rec js,s'=((i:Int),4,(k:Int),code,ss,dt,bs,key,cs,ls,ts,ck,rn,ins,d,os,us,Zk,qs',rec,js,())/\k<=4/\lq n (q+4+k) code ss dt bs cs ls ts ck rn ins d os us Zk qs' rec js)
  (R:=λr=>∃a b c f cs ls ts rec js,r=(a,b,c,f,code,ss,dt,bs,key,cs,ls,ts,ck,rn,ins,d,os,us,Zk,qs',rec,js,())/\lq n (q+8) code ss dt bs cs ls ts ck rn ins d os us Zk qs' rec js) (m:=λs'=>(s'.2.1-s'.2.2.1).toNat)
  ⟨0,Vr,V2,ts2,WO,js,by rw[h.jlen];rfl,by omega,h2⟩ (by unfold NN;dsimp only;have:=h.jlen;omega) ?_ ?_
 ·rintro _ ⟨k,Vr,V2,ts2,WO,js2,rfl,hk,h2⟩;unfold td;dsimp only
  (with_reducible refine dO (λZ'=>?_) λZ'=>?_)
  ·obtain⟨x,hx⟩:∃x,js2[k]?=some x:=⟨_,oGE (by have:=h2.jlen;omega)⟩;obtain⟨t,ht⟩:∃t,ts2[i]?=some t:=⟨_,oGE (by have:=h2.mach.tlen;omega)⟩;have htc:=(h2.mach.thr t (dU ht)).code;simp only[dT,oBS,show dR js2 k=some x from hx,show dR ts2 i=some t from ht];refine Ok.bind (P:=λr=>∃cs ls ts rec js,r=((i:Int),4,(k:Int),code,ss,dt,bs,key,cs,ls,ts,ck,rn,ins,d,os,us,Zk,qs',rec,js,())/\lq n (q+4+(k+1)) code ss dt bs cs ls ts ck rn ins d os us Zk qs' rec js) ?_ ?_
   ·(with_reducible refine dO (λZ3=>?_) λZ3=>?_)
    ·refine(Kj h2 hn (by omega) htc).bind ?_;rintro _ ⟨cs3,ls3,ts3,rec3,rfl,h3⟩;simp only[dT,oBS,show dR js2 k=some x from hx,eK hx];exact Ok.ret ⟨_,_,_,_,_,rfl,h3.prog,h3.mach,h3.outs,h3.lock,by have:=h3.rlen;omega,by rw[List.length_set];exact h3.jlen⟩
    ·exact Ok.ret ⟨_,_,_,_,_,rfl,h2.prog,h2.mach,h2.outs,h2.lock,by have:=h2.rlen;omega,h2.jlen⟩
   ·rintro _ ⟨cs3,ls3,ts3,rec3,js3,rfl,h3⟩;dsimp only;rw[dX (x:=(k:Int)+1) (by omega) (by omega)];exact Ok.ret ⟨⟨k+1,_,_,_,_,_,rfl,by omega,h3⟩,by dsimp only;omega⟩
  ·exact Ok.ret ⟨_,_,_,_,_,_,_,_,_,rfl,h2.prog,h2.mach,h2.outs,h2.lock,by have:=h2.rlen;omega,h2.jlen⟩
 ·rintro _ ⟨a,b,c,f,Vr,V2,ts2,WO,js2,rfl,h2⟩;exact Ok.ret ⟨_,_,_,_,_,_,_,_,_,_,_,_,_,rfl,h2⟩
def UP(n key:Int)(q:Nat)(code:List DIn)(ss:List Int)(dt:List (List Int))(bs:List Int)(r:(List DIn)×(List (Int))×(List (List (Int)))×(List (Int))×Int×(List DCe)×(List DLn)×(List DTh)×(List (Int))×(List (Int))×(List (List (Int)))×(List (List DCn))×(List DOp)×(List DOu)×(List (Int))×(List (List (Int)))×(List DEn)×(List (Int))×Int×Unit):Prop:=
 (∃e,r=([],[],[],[],0,[],[],[],[],[],[],[],[],[],[],[],[],[],e,())/\e≠0)\/(∃cs ls ts ck rn ins d os us ow qs rec js,r=(code,ss,dt,bs,key,cs,ls,ts,ck,rn,ins,d,os,us,ow,qs,rec,js,0,())/\lq n q code ss dt bs cs ls ts ck rn ins d os us ow qs rec js)
theorem JZ{code:List DIn}{ss:List Int}{dt:List (List Int)}{bs:List Int}{key:Int}{cs:List DCe}{ls:List DLn}{ts:List DTh}{ck rn:List Int}{ins:List (List Int)}{d:List (List DCn)}{os:List DOp}{us:List DOu}{ow:List Int}{qs:List (List Int)}{rec:List DEn}{js:List Int}(h1:rec.length<=1000)(h2:js.length<=1000):nd code ss dt bs key cs ls ts ck rn ins d os us ow qs rec js=some (code,ss,dt,bs,key,cs,ls,ts,ck,rn,ins,d,os,us,ow,qs,rec,js,()):=by
 unfold nd;rw[d8 (show 8<=1000/\0+js.length<=1000000 by omega),d8 (show 184<=1000/\0+rec.length<=1000000 by omega)];rfl
set_option maxHeartbeats 4000000 in
theorem Of{n:Int}{q:Nat}{code:List DIn}{ss:List Int}{dt:List (List Int)}{bs:List Int}{key:Int}{cs:List DCe}{ls:List DLn}{ts:List DTh}{ck rn:List Int}{ins:List (List Int)}{d:List (List DCn)}{os:List DOp}{us:List DOu}{ow:List Int}{qs:List (List Int)}{rec:List DEn}{js:List Int}{c1 c2:Int}{c3:Bool}(h:lq n q code ss dt bs cs ls ts ck rn ins d os us ow qs rec js)(X9:0<=n)(hn:n+64<=1099511627776)(hq:q<=700)(ZS:CI c1)(ZK:CI c2):
 Ok (qg code ss dt bs key cs ls ts ck rn ins d os us ow qs rec js c1 c2 c3) (UP (n+64) key (q+12) code ss dt bs):=by
 have XC:=h.mach.tlen;have hr:=h.rlen;unfold qg;delta dS;rw[Qa (by omega)];simp only[oBS];have X3:=D1 ts 0
 (with_reducible refine dO (λZ'=>?_) λZ'=>?_)
 ·exact Ok.ret (.inl ⟨15,rfl,by decide⟩)
 (with_reducible refine dO (λZ3=>?_) λZ3=>?_)
 ·exact Ok.ret (.inl ⟨3,rfl,by decide⟩)
 refine TO ZS (by omega) (by omega) λv v0 v1=>?_;dsimp only;obtain⟨k,rfl⟩:∃k:Nat,v=k:=⟨v.toNat,by omega⟩;obtain⟨x,hx⟩:∃x,(jF ts 0)[k]?=some x:=⟨_,oGE (by omega)⟩;obtain⟨x0,x1,_⟩:=LT (dU hx);obtain⟨i,rfl⟩:∃i:Nat,x=i:=⟨x.toNat,by omega⟩
 have hi:i<4:=by omega
 simp only[dT,oBS,show dR (jF ts 0) k=some (i:Int)from hx];refine TO ZK (by decide) (by decide) λu u0 u1=>?_;dsimp only;rw[dX (x:=1+u) (by omega) (by omega),JZ (by omega) (by have:=h.jlen;omega)]
 have hk:1<=1+u/\1+u<=64:=by omega
 generalize 1+u=kk at hk;simp only[oBS]
 cases c3 with
 |false=>
  simp only[oCF];have h2:lq n (q+1) code ss dt bs cs ls ts ck rn ins d os us ow qs rec js:=⟨h.prog,h.mach,h.outs,h.lock,by omega,h.jlen⟩;have htl2:=h2.mach.tlen;refine(Bh h2.prog h2.mach X9 hn hi hk).bind ?_;rintro _ ⟨cs3,ls3,t3,stop,trap,call,args,data,rfl,VO,WF,Wz,hask,_⟩;dsimp only;have X2:=h2.rlen;have hM3:=(h2.mach.mono (show n<=n+64 by omega)).set VO (i:=i) WF;refine dP (d8 (by simp;omega)) ?_;refine Ok.bind (P:=λr=>∃cs ls ts ck rn ins d os us ow qs rec js,r=((i:Int),(),(),(),(),0,(),(),(),(),(),(),(),(),(),(),(),(),(),code,ss,dt,bs,key,cs,ls,ts,ck,rn,ins,d,os,us,ow,qs,rec,js,())/\lq (n+64) (q+4) code ss dt bs cs ls ts ck rn ins d os us ow qs rec js) ?_ ?_
  ·by_cases hs1:stop=1
   ·subst hs1;simp only[BEq.rfl,oCT];refine(Cr (q:=q+2) ⟨h2.prog,hM3,h2.outs,h2.lock,by rw[fB];simp;omega,h2.jlen⟩ hi (by omega) hn (by omega) Wz).bind ?_;rintro _ ⟨cs4,ls4,ts4,ck4,rn4,WN,d4,os4,us4,ow4,qs4,WP,js4,rfl,h4⟩;exact Ok.ret ⟨_,_,_,_,_,_,_,_,_,_,_,_,_,rfl,h4⟩
   ·simp only[oBF hs1,oCF];exact Ok.ret ⟨_,_,_,_,_,_,_,_,_,_,_,_,_,rfl,h2.prog,hM3,h2.outs,h2.lock,by rw[fB];simp;omega,h2.jlen⟩
  rintro _ ⟨cs,ls,ts,ck,rn,ins,d,os,us,ow,qs,rec,js,rfl,h5⟩;dsimp only;obtain⟨t5,ht5⟩:∃t5,ts[i]?=some t5:=⟨_,oGE (by have:=h5.mach.tlen;omega)⟩;simp only[dT,oBS,show dR ts i=some t5 from ht5];refine Ok.bind (P:=λr=>∃cs ls ts ck rn ins d os us ow qs rec js,r=((),(),(),(),0,(),(),(),(),(),(),(),(),(),(),(),(),(),code,ss,dt,bs,key,cs,ls,ts,ck,rn,ins,d,os,us,ow,qs,rec,js,())/\lq (n+64) (q+12) code ss dt bs cs ls ts ck rn ins d os us ow qs rec js) ?_ ?_
  ·(with_reducible refine dO (λWk=>?_) λWk=>?_)
   ·refine(F0 h5 hi (by omega) (by omega)).bind ?_;rintro _ ⟨cs4,ls4,ts4,ck4,rn4,WN,d4,os4,us4,ow4,qs4,WP,js4,rfl,h4⟩;exact Ok.ret ⟨_,_,_,_,_,_,_,_,_,_,_,_,_,rfl,h4⟩
   ·exact Ok.ret ⟨_,_,_,_,_,_,_,_,_,_,_,_,_,rfl,h5.prog,h5.mach,h5.outs,h5.lock,by have:=h5.rlen;omega,h5.jlen⟩
  rintro _ ⟨cs,ls,ts,ck,rn,ins,d,os,us,ow,qs,rec,js,rfl,h6⟩;exact Ok.ret (.inr ⟨_,_,_,_,_,_,_,_,_,_,_,_,_,rfl,h6⟩)
 |true=>
  simp only[oCT];obtain⟨⟨b,_⟩,eC,_⟩:=Rq (key:=key) h.mach (i:Int);simp only[eC,oBS]
  cases b with
  |false=>
   simp only[oCF];have h2:lq n (q+1) code ss dt bs cs ls ts ck rn ins d os us ow qs rec js:=⟨h.prog,h.mach,h.outs,h.lock,by omega,h.jlen⟩;have htl2:=h2.mach.tlen;refine(Bh h2.prog h2.mach X9 hn hi hk).bind ?_;rintro _ ⟨cs3,ls3,t3,stop,trap,call,args,data,rfl,VO,WF,Wz,hask,_⟩;dsimp only;have X2:=h2.rlen;have hM3:=(h2.mach.mono (show n<=n+64 by omega)).set VO (i:=i) WF;refine dP (d8 (by simp;omega)) ?_;refine Ok.bind (P:=λr=>∃cs ls ts ck rn ins d os us ow qs rec js,r=((i:Int),(),(),(),(),0,(),(),(),(),(),(),(),(),(),(),(),(),(),code,ss,dt,bs,key,cs,ls,ts,ck,rn,ins,d,os,us,ow,qs,rec,js,())/\lq (n+64) (q+4) code ss dt bs cs ls ts ck rn ins d os us ow qs rec js) ?_ ?_
   ·by_cases hs1:stop=1
    ·subst hs1;simp only[BEq.rfl,oCT];refine(Cr (q:=q+2) ⟨h2.prog,hM3,h2.outs,h2.lock,by rw[fB];simp;omega,h2.jlen⟩ hi (by omega) hn (by omega) Wz).bind ?_;rintro _ ⟨cs4,ls4,ts4,ck4,rn4,WN,d4,os4,us4,ow4,qs4,WP,js4,rfl,h4⟩;exact Ok.ret ⟨_,_,_,_,_,_,_,_,_,_,_,_,_,rfl,h4⟩
    ·simp only[oBF hs1,oCF];exact Ok.ret ⟨_,_,_,_,_,_,_,_,_,_,_,_,_,rfl,h2.prog,hM3,h2.outs,h2.lock,by rw[fB];simp;omega,h2.jlen⟩
   rintro _ ⟨cs,ls,ts,ck,rn,ins,d,os,us,ow,qs,rec,js,rfl,h5⟩;dsimp only;obtain⟨t5,ht5⟩:∃t5,ts[i]?=some t5:=⟨_,oGE (by have:=h5.mach.tlen;omega)⟩;simp only[dT,oBS,show dR ts i=some t5 from ht5];refine Ok.bind (P:=λr=>∃cs ls ts ck rn ins d os us ow qs rec js,r=((),(),(),(),0,(),(),(),(),(),(),(),(),(),(),(),(),(),code,ss,dt,bs,key,cs,ls,ts,ck,rn,ins,d,os,us,ow,qs,rec,js,())/\lq (n+64) (q+12) code ss dt bs cs ls ts ck rn ins d os us ow qs rec js) ?_ ?_
   ·(with_reducible refine dO (λWk=>?_) λWk=>?_)
    ·refine(F0 h5 hi (by omega) (by omega)).bind ?_;rintro _ ⟨cs4,ls4,ts4,ck4,rn4,WN,d4,os4,us4,ow4,qs4,WP,js4,rfl,h4⟩;exact Ok.ret ⟨_,_,_,_,_,_,_,_,_,_,_,_,_,rfl,h4⟩
    ·exact Ok.ret ⟨_,_,_,_,_,_,_,_,_,_,_,_,_,rfl,h5.prog,h5.mach,h5.outs,h5.lock,by have:=h5.rlen;omega,h5.jlen⟩
   rintro _ ⟨cs,ls,ts,ck,rn,ins,d,os,us,ow,qs,rec,js,rfl,h6⟩;exact Ok.ret (.inr ⟨_,_,_,_,_,_,_,_,_,_,_,_,_,rfl,h6⟩)
  |true=>
   obtain⟨_,eD,Zr,b',rfl,hD⟩:=Mz (key:=key) h.mach (i:Int);simp only[oCT,eD,oBS];rw[d8 (show 184<=1000/\rec.length + _<=1000000 by simp;omega)];simp only[oCT];have h2:lq n (q+1) code ss dt bs cs ls Zr ck rn ins d os us ow qs (List.append rec [(3,(i:Int),0,0,0,0,0,0,0,[],[],0,0,0,0,[],0,false)]) js:=⟨h.prog,hD,h.outs,h.lock,by rw[fB];simp;omega,h.jlen⟩;have htl2:=h2.mach.tlen;refine(Bh h2.prog h2.mach X9 hn hi hk).bind ?_;rintro _ ⟨cs3,ls3,t3,stop,trap,call,args,data,rfl,VO,WF,Wz,hask,_⟩;dsimp only;have X2:=h2.rlen;have hM3:=(h2.mach.mono (show n<=n+64 by omega)).set VO (i:=i) WF;refine dP (d8 (by simp;omega)) ?_;refine Ok.bind (P:=λr=>∃cs ls ts ck rn ins d os us ow qs rec js,r=((i:Int),(),(),(),(),0,(),(),(),(),(),(),(),(),(),(),(),(),(),code,ss,dt,bs,key,cs,ls,ts,ck,rn,ins,d,os,us,ow,qs,rec,js,())/\lq (n+64) (q+4) code ss dt bs cs ls ts ck rn ins d os us ow qs rec js) ?_ ?_
   ·by_cases hs1:stop=1
    ·subst hs1;simp only[BEq.rfl,oCT];refine(Cr (q:=q+2) ⟨h2.prog,hM3,h2.outs,h2.lock,by rw[fB];simp;omega,h2.jlen⟩ hi (by omega) hn (by omega) Wz).bind ?_;rintro _ ⟨cs4,ls4,ts4,ck4,rn4,WN,d4,os4,us4,ow4,qs4,WP,js4,rfl,h4⟩;exact Ok.ret ⟨_,_,_,_,_,_,_,_,_,_,_,_,_,rfl,h4⟩
    ·simp only[oBF hs1,oCF];exact Ok.ret ⟨_,_,_,_,_,_,_,_,_,_,_,_,_,rfl,h2.prog,hM3,h2.outs,h2.lock,by rw[fB];simp;omega,h2.jlen⟩
   rintro _ ⟨cs,ls,ts,ck,rn,ins,d,os,us,ow,qs,rec,js,rfl,h5⟩;dsimp only;obtain⟨t5,ht5⟩:∃t5,ts[i]?=some t5:=⟨_,oGE (by have:=h5.mach.tlen;omega)⟩;simp only[dT,oBS,show dR ts i=some t5 from ht5];refine Ok.bind (P:=λr=>∃cs ls ts ck rn ins d os us ow qs rec js,r=((),(),(),(),0,(),(),(),(),(),(),(),(),(),(),(),(),(),code,ss,dt,bs,key,cs,ls,ts,ck,rn,ins,d,os,us,ow,qs,rec,js,())/\lq (n+64) (q+12) code ss dt bs cs ls ts ck rn ins d os us ow qs rec js) ?_ ?_
   ·(with_reducible refine dO (λWk=>?_) λWk=>?_)
    ·refine(F0 h5 hi (by omega) (by omega)).bind ?_;rintro _ ⟨cs4,ls4,ts4,ck4,rn4,WN,d4,os4,us4,ow4,qs4,WP,js4,rfl,h4⟩;exact Ok.ret ⟨_,_,_,_,_,_,_,_,_,_,_,_,_,rfl,h4⟩
    ·exact Ok.ret ⟨_,_,_,_,_,_,_,_,_,_,_,_,_,rfl,h5.prog,h5.mach,h5.outs,h5.lock,by have:=h5.rlen;omega,h5.jlen⟩
   rintro _ ⟨cs,ls,ts,ck,rn,ins,d,os,us,ow,qs,rec,js,rfl,h6⟩;exact Ok.ret (.inr ⟨_,_,_,_,_,_,_,_,_,_,_,_,_,rfl,h6⟩)
theorem Ox{l ss:List Int}{k:Int}(hs:zi ss)(h:DOk l k):Ok (oH ss l k) λr=>∃bs key k',r=(bs,key,l,k',())/\LV bs ss/\W16 key/\DOk l k':=by
 unfold oH
 (with_reducible refine fS (by omega) (by omega) (by omega) (λv0 k0 a0 b0 d0=>?_);try dsimp only)
 refine(Om hs a0 (by omega)).bind ?_;rintro _ ⟨key,rfl,hk⟩;exact Ok.ret ⟨_,_,_,rfl,Ry hs a0,hk,d0⟩
theorem TE{l:List Int}{k:Int}(h:DOk l k):Ok (vi l k) λr=>∃code ss dt bs key cs ls ts ck rn ins d os us ow qs rec js k',r=(code,ss,dt,bs,key,cs,ls,ts,ck,rn,ins,d,os,us,ow,qs,rec,js,l,k',())/\W16 key/\lq 1152 216 code ss dt bs cs ls ts ck rn ins d os us ow qs rec js/\DOk l k':=by
 unfold vi;refine(LZ h).bind ?_;rintro _ ⟨code,ss,dt,k1,rfl,hp,h1⟩;dsimp only;refine(Ox hp.sz h1).bind ?_;rintro _ ⟨bs,key,k2,rfl,hL,X7,h2⟩;dsimp only;refine(L5 hp.sz h2).bind ?_;rintro _ ⟨ck,rn,ins,d,os,k3,rfl,hO,h3⟩;dsimp only;refine(QX hp hL hO).bind ?_;rintro _ ⟨cs,ts,rfl,hM⟩;dsimp only
 (with_reducible refine fS (by assumption) (by omega) (by omega) (λv4 k4 a4 b4 d4=>?_);try dsimp only)
 rw[dX (x:=3+v4) (by omega) (by omega)]
 obtain⟨y,e,hy⟩:=gI (f:=sj) (n:=NN) (s:=(3+v4,l,k4,(),(),(),(),0,(),(),(),(),(),(),(),(),(),(),(),(),(),code,ss,dt,bs,key,cs,eH,ts,ck,rn,ins,d,os,[],[-1,-1,-1,-1],[[],[],[],[]],[],[-1,-1,-1,-1],()))
  (P:=λs'=>∃(c k':Int)(q:Nat),∃cs ls ts ck rn ins d os us ow qs rec js,s'=(c,l,k',(),(),(),(),0,(),(),(),(),(),(),(),(),(),(),(),(),(),code,ss,dt,bs,key,cs,ls,ts,ck,rn,ins,d,os,us,ow,qs,rec,js,())/\0<=c/\c+q<=18/\DOk l k'/\lq (64*q) (12*q) code ss dt bs cs ls ts ck rn ins d os us ow qs rec js)
  (R:=λy=>(∃(c k':Int)(f:Bool)(q:Nat),∃cs ls ts ck rn ins d os us ow qs rec js z1 z2 z3 z4 z5 z6 z7 z8 z9 z10 z11 z12 z13 z14 z15 z16 z17 z18,y=.inl (c,f,l,k',(),(),(),(),0,(),(),(),(),(),(),(),(),(),(),(),(),(),code,ss,dt,bs,key,cs,ls,ts,ck,rn,ins,d,os,us,ow,qs,rec,js,z1,z2,z3,z4,z5,z6,z7,z8,z9,z10,z11,z12,z13,z14,z15,z16,z17,z18,())/\q<=18/\DOk l k'/\lq (64*q) (12*q) code ss dt bs cs ls ts ck rn ins d os us ow qs rec js)\/
   (∃(c k':Int)(f:Bool)(q:Nat),∃cs ls ts ck rn ins d os us ow qs rec js,y=.inr (c,f,l,k',(),(),(),(),0,(),(),(),(),(),(),(),(),(),(),(),(),(),code,ss,dt,bs,key,cs,ls,ts,ck,rn,ins,d,os,us,ow,qs,rec,js,())/\q<=18/\DOk l k'/\lq (64*q) (12*q) code ss dt bs cs ls ts ck rn ins d os us ow qs rec js)) (m:=λs'=>s'.1.toNat)
  ⟨3+v4,k4,0,_,_,_,_,_,_,_,_,_,_,_,_,_,rfl,by omega,by omega,d4,hp,by simpa using hM,hO,TP,by simp,rfl⟩ (by unfold NN;dsimp only;omega) (by
   rintro _ ⟨c,k',q,cs,ls,ts,ck,rn,ins,d,os,us,ow,qs,rec,js,rfl,hc0,hcq,hd,hR⟩;unfold sj;dsimp only
   (with_reducible refine dO (λZ'=>?_) λZ'=>?_)
   ·refine(O6 hd).bind ?_;rintro _ ⟨t,b,s,k5,rfl,t0,t1,b0,b1,hd5⟩;dsimp only;refine(Of hR (by omega) (by omega) (by omega) ⟨by omega,by omega⟩ ⟨by omega,by omega⟩).bind ?_;rintro _ (⟨e,rfl,he⟩|⟨Vr,V2,ts2,ck2,rn2,ins2,d2,os2,us2,ow2,qs2,WO,js2,rfl,hR2⟩)
    ·dsimp only;rw[bne_iff_ne.2 he];exact Ok.ret (.inl ⟨_,_,_,q,_,_,_,_,_,_,_,_,_,_,_,_,_,_,_,_,_,_,_,_,_,_,_,_,_,_,_,_,_,_,_,rfl,by omega,hd5,hR⟩)
    ·dsimp only;rw[dX (x:=c-1) (by omega) (by omega)];refine Ok.ret ⟨⟨_,_,q+1,_,_,_,_,_,_,_,_,_,_,_,_,_,rfl,by omega,by omega,hd5,?_⟩,by dsimp only;omega⟩;rw[show 64*((q+1:Nat):Int)=64*(q:Int)+64 by omega,show 12*(q+1)=12*q+12 by omega];exact hR2
   ·exact Ok.ret (.inr ⟨_,_,_,q,_,_,_,_,_,_,_,_,_,_,_,_,_,rfl,by omega,hd,hR⟩))
 rw[e];have ZZ:∀{q:Nat}{cs ls ts ck rn ins d os us ow qs rec js},q<=18->lq (64*q) (12*q) code ss dt bs cs ls ts ck rn ins d os us ow qs rec js->lq 1152 216 code ss dt bs cs ls ts ck rn ins d os us ow qs rec js:=λhq hR=>⟨hR.prog,hR.mach.mono (by omega),hR.outs,hR.lock,by have:=hR.rlen;omega,hR.jlen⟩
 rcases hy with⟨c,k',f,q,cs,ls,ts,ck,rn,ins,d,os,us,ow,qs,rec,js,z1,z2,z3,z4,z5,z6,z7,z8,z9,z10,z11,z12,z13,z14,z15,z16,z17,z18,rfl,hq,hd,hR⟩|⟨c,k',f,q,cs,ls,ts,ck,rn,ins,d,os,us,ow,qs,rec,js,rfl,hq,hd,hR⟩
 ·exact Ok.ret ⟨_,_,_,_,_,_,_,_,_,_,_,_,_,_,_,_,_,_,_,rfl,X7,ZZ hq hR,hd⟩
 ·exact Ok.ret ⟨_,_,_,_,_,_,_,_,_,_,_,_,_,_,_,_,_,_,_,rfl,X7,ZZ hq hR,hd⟩
def P8(bs ss:List Int)(key:Int)(cs:List DCe)(ls:List DLn)(r o:Nat):DCn:=qb bs ss key (Aw cs ls (bs.getD r 0+o))
def NQ(bs ss:List Int)(key:Int)(cs:List DCe)(ls:List DLn)(r:Nat):List DCn:=(List.range (ss.getD r 0).toNat).map (P8 bs ss key cs ls r)
def wP(bs ss:List Int)(key:Int)(cs:List DCe)(ls:List DLn):List (List DCn):=(List.range ss.length).map (NQ bs ss key cs ls)
def ol(bs ss:List Int)(key:Int)(t:DTh):DTs:=(t.1,t.2.2.1,t.2.2.2.1,t.2.2.2.2.1,t.2.2.2.2.2.1,t.2.2.2.2.2.2.1,t.2.2.2.2.2.2.2,t.2.1.map (qb bs ss key))
theorem LV.at_{bs ss:List Int}(h:LV bs ss){r:Nat}(hr:r<ss.length):∃b z,bs[r]?=some b/\ss[r]?=some z/\1<=z/\z<=32/\0<=b/\b+z<=512:=by
 have ⟨hs,hl,hg⟩:=h;have ⟨z,hz⟩:∃z,ss[r]?=some z:=⟨_,oGE (by omega)⟩;have h1:=hg r (by omega);unfold qc at h1;have h2:=hs.2.2 z (dU hz)
 simp_all
theorem LS{K:Int->Prop}{bs ss:List Int}{key:Int}{cs:List DCe}{ls:List DLn}(h:LV bs ss)(hm:kW K cs ls):l6 cs ls bs key ss=some (wP bs ss key cs ls,()):=by
 have XA:=h.1.2.1
 have e0:∀(r:Nat)(b z:Int),bs[r]?=some b->ss[r]?=some z->1<=z->z<=32->0<=b->b+z<=512->∀(a1 a2 a3:_)(out:List (List DCn)),dY ie NN (ss,(r:Int),a1,a2,a3,z,0,cs,ls,bs,key,out,[],())=some (ss,(r:Int),a1,a2,a3,z,z,false,cs,ls,bs,key,out,NQ bs ss key cs ls r,()):=by
  intro r b z hb hz z1 WR b0 bz a1 a2 a3 out;obtain⟨n,rfl⟩:∃n:Nat,z=n:=⟨z.toNat,by omega⟩
  have e:NQ bs ss key cs ls r=(List.range n).map (P8 bs ss key cs ls r):=by unfold NQ;rw[ef hz,oTN]
  rw[e];refine mC (f:=ie) (N:=NN) (st:=λo=>(ss,(r:Int),a1,a2,a3,(n:Int),(o:Int),cs,ls,bs,key,out,(List.range o).map (P8 bs ss key cs ls r),())) (n:=n) (by unfold NN;omega) ?_ ?_
  ·intro o ho;unfold ie;dsimp only;rw[oDT (show(o:Int)<n by omega),dT];simp only[oCT,oBS,show dR bs r=some b from hb];rw[dX (x:=b+o) (by omega) (by omega)];obtain⟨hlk,A'⟩:=BA (a:=b+o) hm ⟨by omega,by omega⟩;rw[hlk];simp only[oBS];rw[vt h A'];simp only[oBS];refine dP (d8 (by simp;omega)) ?_;rw[dX (x:=(o:Int)+1) (by omega) (by omega)];refine Ok.ret ?_;rw[<- kN];unfold P8;rw[ef hb];rfl
  ·unfold ie;dsimp only;rw[oDF (show ¬(n:Int)<n by omega)];exact Ok.ret rfl
 have e1:dY ic NN (ss,ss,(ss.length:Int),0,cs,ls,bs,key,[],())=some (ss,ss,(ss.length:Int),(ss.length:Int),false,cs,ls,bs,key,wP bs ss key cs ls,()):=by
  refine mC (f:=ic) (N:=NN) (st:=λr=>(ss,ss,(ss.length:Int),(r:Int),cs,ls,bs,key,(List.range r).map (NQ bs ss key cs ls),())) (n:=ss.length) (by unfold NN;omega) ?_ ?_
  ·intro r hr;obtain⟨b,z,hb,hz,z1,WR,b0,bz⟩:=h.at_ hr;unfold ic;dsimp only;rw[oDT (show(r:Int)<ss.length by omega),dT];simp only[oCT,oBS,show dR ss r=some z from hz];rw[e0 r b z hb hz z1 WR b0 bz];refine dP (d8 (by simp;omega)) ?_;rw[dX (x:=(r:Int)+1) (by omega) (by omega)];refine Ok.ret ?_;rw[<- kN];rfl
  ·unfold ic;dsimp only;rw[oDF (show ¬(ss.length:Int)<ss.length by omega)];exact Ok.ret rfl
 unfold l6;delta dS
 simp_all
theorem Kq{n key:Int}{code:List DIn}{dt:List (List Int)}{bs ss:List Int}{cs:List DCe}{ls:List DLn}{ts:List DTh}(h:MOk n ss bs cs ls ts):i6 code ss dt bs key cs ls ts=some (wP bs ss key cs ls,ts.map (ol bs ss key),()):=by
 have h4:=h.tlen
 have e1:dY ji NN (ts,(ts.length:Int),0,code,ss,dt,bs,key,cs,ls,ts,(),(),wP bs ss key cs ls,[],())=some (ts,(ts.length:Int),(ts.length:Int),false,code,ss,dt,bs,key,cs,ls,ts,(),(),wP bs ss key cs ls,ts.map (ol bs ss key),()):=by
  have:=mC (f:=ji) (N:=NN) (st:=λr=>(ts,(ts.length:Int),(r:Int),code,ss,dt,bs,key,cs,ls,ts,(),(),wP bs ss key cs ls,(ts.take r).map (ol bs ss key),())) (n:=ts.length) (t:=(ts,(ts.length:Int),(ts.length:Int),false,code,ss,dt,bs,key,cs,ls,ts,(),(),wP bs ss key cs ls,ts.map (ol bs ss key),())) (by unfold NN;omega) ?_ ?_
  ·exact this
  ·intro r hr;obtain⟨t,ht⟩:∃t,ts[r]?=some t:=⟨_,oGE (by omega)⟩;have hok:=h.thr t (dU ht);have h8:=hok.len;unfold ji;delta dS;dsimp only;rw[oDT (show(r:Int)<ts.length by omega),dT];simp only[oCT,oBS,show dR ts r=some t from ht]
   have e0:∀(a1 a2 a3 a4 a5 a6 a7 a8 a9 a10 a11 a12 a13 a14:_),dY jj NN (ts,(ts.length:Int),(r:Int),t.2.1,(t.2.1.length:Int),0,code,ss,dt,bs,key,cs,ls,ts,(),(),wP bs ss key cs ls,(ts.take r).map (ol bs ss key),a1,t.2.1,a2,a3,a4,a5,a6,a7,a8,a9,a10,a11,a12,a13,a14,[],())=
    some (ts,(ts.length:Int),(r:Int),t.2.1,(t.2.1.length:Int),(t.2.1.length:Int),false,code,ss,dt,bs,key,cs,ls,ts,(),(),wP bs ss key cs ls,(ts.take r).map (ol bs ss key),a1,t.2.1,a2,a3,a4,a5,a6,a7,a8,a9,a10,a11,a12,a13,a14,t.2.1.map (qb bs ss key),()):=by
    intro a1 a2 a3 a4 a5 a6 a7 a8 a9 a10 a11 a12 a13 a14
    have:=mC (f:=jj) (N:=NN) (st:=λo=>(ts,(ts.length:Int),(r:Int),t.2.1,(t.2.1.length:Int),(o:Int),code,ss,dt,bs,key,cs,ls,ts,(),(),wP bs ss key cs ls,(ts.take r).map (ol bs ss key),a1,t.2.1,a2,a3,a4,a5,a6,a7,a8,a9,a10,a11,a12,a13,a14,(t.2.1.take o).map (qb bs ss key),())) (n:=t.2.1.length)
     (t:=(ts,(ts.length:Int),(r:Int),t.2.1,(t.2.1.length:Int),(t.2.1.length:Int),false,code,ss,dt,bs,key,cs,ls,ts,(),(),wP bs ss key cs ls,(ts.take r).map (ol bs ss key),a1,t.2.1,a2,a3,a4,a5,a6,a7,a8,a9,a10,a11,a12,a13,a14,t.2.1.map (qb bs ss key),())) (by unfold NN;omega) ?_ ?_
    ·exact this
    ·intro o ho;obtain⟨c,hc⟩:∃c,t.2.1[o]?=some c:=⟨_,oGE ho⟩;unfold jj;dsimp only;rw[oDT (show(o:Int)<t.2.1.length by omega),dT];simp only[oCT,oBS,show dR t.2.1 o=some c from hc];rw[vt h.lay (hok.regs c (dU hc))];refine dP (d8 (by simp;omega)) ?_;rw[dX (x:=(o:Int)+1) (by omega) (by omega)];refine Ok.ret ?_;rw[<- fN (qb bs ss key) hc];rfl
    ·unfold jj;dsimp only;rw[oDF (show ¬(t.2.1.length:Int)<t.2.1.length by omega),List.take_length];exact Ok.ret rfl
   rw[e0];simp only[oBS];refine dP (d8 (by simp;omega)) ?_;rw[dX (x:=(r:Int)+1) (by omega) (by omega)];refine Ok.ret ?_;rw[<- fN (ol bs ss key) ht];rfl
  ·unfold ji;dsimp only;rw[oDF (show ¬(ts.length:Int)<ts.length by omega),List.take_length];exact Ok.ret rfl
 unfold i6;delta dS;simp only[LS h.lay h.mem,oBS]
 simp_all
structure UJ (n:Int)(ss:List Int)(v:DTs):Prop where
 state:0<=v.1/\v.1<=4
 pc:0<=v.2.1/\v.2.1<=255
 count:0<=v.2.2.1/\v.2.2.1<=n
 handler:-1<=v.2.2.2.1/\v.2.2.2.1<=255
 saved:-1<=v.2.2.2.2.1/\v.2.2.2.2.1<=255
 trap:0<=v.2.2.2.2.2.1/\v.2.2.2.2.2.1<=6
 code:W16 v.2.2.2.2.2.2.1
 len:v.2.2.2.2.2.2.2.length=8
 regs:∀c∈v.2.2.2.2.2.2.2,Pr ss c
structure Ba (n:Int)(ss:List Int)(rg:List (List DCn))(vs:List DTs):Prop where
 rlen:rg.length=ss.length
 fit:∀(j:Nat) x z,rg[j]?=some x->ss[j]?=some z->(x.length:Int)=z
 cells:∀x∈rg,∀c∈x,Pr ss c
 vlen:vs.length=4
 views:∀v∈vs,UJ n ss v
theorem Kp{n key:Int}{bs ss:List Int}{cs:List DCe}{ls:List DLn}{ts:List DTh}(h:MOk n ss bs cs ls ts):Ba n ss (wP bs ss key cs ls) (ts.map (ol bs ss key)):=by
 refine⟨by unfold wP;simp,λj x z hx hz=>?_,λx hx c hc=>?_,by rw[List.length_map];exact h.tlen,λv hv=>?_⟩
 ·unfold wP at hx;rw[List.getElem?_map,List.getElem?_range (oGS hz).1]at hx
  injection hx with hx
  subst hx;have:=(h.lay.1.2.2 z (dU hz)).1;unfold NQ;rw[List.length_map,List.length_range,ef hz];omega
 ·unfold wP at hx;obtain⟨r,hr,rfl⟩:=List.mem_map.1 hx;have hr:=List.mem_range.1 hr;have ⟨b,z,hb,hz,z1,WR,b0,bz⟩:=h.lay.at_ hr;obtain⟨o,ho,rfl⟩:=List.mem_map.1 hc;have ho:=List.mem_range.1 ho;rw[ef hz]at ho;unfold P8;rw[ef hb];exact F9 h.lay (BA h.mem ⟨by omega,by omega⟩).2
 ·obtain⟨t,ht,rfl⟩:=List.mem_map.1 hv;have hok:=h.thr t ht;refine⟨hok.state,hok.pc,hok.count,hok.handler,hok.saved,hok.trap,hok.code,by unfold ol;dsimp only;rw[List.length_map];exact hok.len,λc hc=>?_⟩;obtain⟨c',YN,rfl⟩:=List.mem_map.1 hc;exact F9 h.lay (hok.regs c' YN)
theorem MX{l:List Int}(h:∀x∈l,1<=x/\x<=32):(l.length:Int)<=l.sum/\l.sum<=32*l.length:=by
 induction l with
 |nil=>simp
 |cons a l ih=>
  have h1:=h a (by simp);have h2:=ih λx hx=>h x (by simp[hx]);rw[List.sum_cons,oLC];omega
theorem SS{l:List Int}{k:Nat}{x:Int}(h:l[k]?=some x):l.drop k=x::l.drop (k+1):=by
 obtain⟨hk,rfl⟩:=oGS h
 simp_all
theorem PA{ss:List Int}(h:zi ss):oE ss=some (ss.sum,()):=by
 have e:dY jm NN (0,ss,(ss.length:Int),0,())=some (ss.sum,ss,(ss.length:Int),(ss.length:Int),false,()):=by
  have:=mC (f:=jm) (N:=NN) (st:=λk=>((ss.take k).sum,ss,(ss.length:Int),(k:Int),())) (n:=ss.length) (t:=(ss.sum,ss,(ss.length:Int),(ss.length:Int),false,())) (by unfold NN;have:=h.2.1;omega) ?_ ?_
  ·exact this
  ·intro k hk;obtain⟨x,hx⟩:∃x,ss[k]?=some x:=⟨_,oGE hk⟩;have Yq:=h.2.2 x (dU hx);have hb:=MX (l:=ss.take k) λy hy=>h.2.2 y (List.mem_of_mem_take hy);have hl:=h.2.1;rw[oLT]at hb;unfold jm;dsimp only;rw[oDT (show(k:Int)<ss.length by omega),dT];simp[show dR ss k=some x from hx];rw[dX (x:=(ss.take k).sum+x) (by omega) (by omega),dX (x:=(k:Int)+1) (by omega) (by omega)];refine Ok.ret ?_;rw[show ss.take (k+1)=ss.take k++[x] by rw[List.take_add_one,hx];rfl];simp
  ·unfold jm;dsimp only;rw[oDF (show ¬(ss.length:Int)<ss.length by omega),List.take_length];exact Ok.ret rfl
 unfold oE;delta dS
 simp_all
theorem UI{ss:List Int}{i:Int}(h:zi ss)(h0:0<=i)(h1:i<ss.sum):Ok (vh ss i) λr=>∃rg o,r=(rg,o,0,())/\0<=rg/\∃n,ss[rg.toNat]?=some n/\0<=o/\o<n:=by
 have hl:=h.2.1;unfold vh;delta dS
 try dsimp only
 obtain⟨y,e,rg,o,rfl,hy⟩:=gI (f:=se) (n:=NN) (s:=(i,ss,(ss.length:Int),0,0,0,())) (P:=λs'=>∃(k:Nat)(i':Int),s'=(i',ss,(ss.length:Int),(k:Int),0,0,())/\k<=ss.length/\0<=i'/\i'<(ss.drop k).sum/\i'<=1000)
  (R:=λy=>∃rg o,y=.inl (0,rg,o,())/\0<=rg/\∃n,ss[rg.toNat]?=some n/\0<=o/\o<n) (m:=λs'=>(s'.2.2.1-s'.2.2.2.1).toNat) ⟨0,i,rfl,by omega,h0,h1,by have:=(MX h.2.2).2;omega⟩ (by unfold NN;dsimp only;omega) (by
   rintro _ ⟨k,i',rfl,hk,i0,i1,i2⟩;unfold se;dsimp only;by_cases hkl:k=ss.length
   ·subst hkl;simp at i1;omega
   obtain⟨x,hx⟩:∃x,ss[k]?=some x:=⟨_,oGE (by omega)⟩;have Yq:=h.2.2 x (dU hx);rw[SS hx,List.sum_cons]at i1;rw[oDT (show(k:Int)<ss.length by omega),dT];simp only[oCT,oBS,show dR ss k=some x from hx];rw[oDT (show i'>=0 from i0)];by_cases hlt:i'<x
   ·rw[oDT hlt];exact Ok.ret ⟨_,_,rfl,by omega,x,by simp_all,i0,hlt⟩
   ·rw[oDF hlt];simp;rw[dX (x:=i'-x) (by omega) (by omega),dX (x:=(k:Int)+1) (by omega) (by omega)]
    exact Ok.ret ⟨⟨k+1,_,rfl,by omega,by omega,by omega,by omega⟩,by dsimp only;omega⟩)
 rw[e];exact Ok.ret ⟨rg,o,rfl,hy⟩
theorem Ld{ss l:List Int}{k:Int}(hs:zi ss)(h:DOk l k):Ok (nK ss l k) λr=>∃t v rg o k',r=(t,v,rg,o,l,k',())/\Pr ss (t,v,rg,o)/\DOk l k':=by
 unfold nK
 (with_reducible refine fS (by omega) (by omega) (by omega) (λv0 k0 a0 b0 d0=>?_);try dsimp only)
 rw[PA hs];simp;have hb:=MX hs.2.2;have h1:=hs.1;have h4:=hs.2.1
 (with_reducible refine dO (λZ'=>?_) λZ'=>?_)
 ·(with_reducible refine fS (by omega) (by omega) (by omega) (λv1 k1 a1 b1 d1=>?_);try dsimp only)
  refine(UI hs a1 b1).bind ?_;rintro _ ⟨rg,o,rfl,g1,n,g2,g3,g4⟩;exact Ok.ret ⟨_,_,_,_,_,rfl,.inr ⟨rfl,rfl,g1,n,g2,g3,g4⟩,d1⟩
 (with_reducible refine dO (λZ3=>?_) λZ3=>?_)
 ·(with_reducible refine fS (by omega) (by omega) (by omega) (λv2 k2 a2 b2 d2=>?_);try dsimp only)
  exact Ok.ret ⟨_,_,_,_,_,rfl,Rj (pb _),d2⟩
 ·(with_reducible refine Ki (by omega) (λv3 k3 a3 b3 d3=>?_);try dsimp only)
  exact Ok.ret ⟨_,_,_,_,_,rfl,mi ⟨by omega,by omega⟩,d3⟩
def xf(v:DTs):List DCn:=v.2.2.2.2.2.2.2
def thF(bs:List Int)(key:Int)(v:DTs):DTh:=(v.1,(xf v).map (rS bs key),v.2.1,v.2.2.1,v.2.2.2.1,v.2.2.2.2.1,v.2.2.2.2.2.1,v.2.2.2.2.2.2.1)
theorem Gn{n:Int}{ss:List Int}{vs:List DTs}(hs:zi ss)(hl:vs.length=4)(h:∀v∈vs,UJ n ss v)(hn:n<=1099511627776):iD vs=some (true,()):=by
 have e:dY fe NN (vs,vs,(vs.length:Int),0,())=some (.inr (vs,vs,(vs.length:Int),(vs.length:Int),false,())):=by
  refine mC (f:=fe) (N:=NN) (st:=λk=>(vs,vs,(vs.length:Int),(k:Int),())) (n:=vs.length) (by unfold NN;omega) ?_ ?_
  ·intro k hk;obtain⟨v,hv⟩:∃v,vs[k]?=some v:=⟨_,oGE hk⟩;obtain⟨⟨a1,a2⟩,⟨b1,b2⟩,⟨c1,c2⟩,⟨d1,d2⟩,⟨e1,e2⟩,⟨f1,f2⟩,_,hl8,hr⟩:=h v (dU hv);unfold fe;delta dS;dsimp only;rw[oDT (show(k:Int)<vs.length by omega),dT];simp only[oCT,oBS,show dR vs k=some v from hv];rw[oDT (show v.1>=0 from a1),oDT a2,oDT (show v.2.1>=0 from b1),oDT b2,oDT (show v.2.2.1>=0 from c1),oDT (show v.2.2.1<=1099511627776 by omega),oDT (show v.2.2.2.1>=-1 from d1),oDT d2,oDT (show v.2.2.2.2.1>=-1 from e1),oDT e2,oDT (show v.2.2.2.2.2.1>=0 from f1),oDT f2];simp;rw[hl8,lC (n:=8) hs hr (by omega) (by omega)];simp;rw[dX (x:=(k:Int)+1) (by omega) (by omega)];exact Ok.ret rfl
  ·unfold fe;dsimp only;rw[oDF (show ¬(vs.length:Int)<vs.length by omega)];exact Ok.ret rfl
 unfold iD;delta dS
 simp_all
theorem DM{n:Int}{code:List DIn}{ss:List Int}{dt:List (List Int)}{rg:List (List DCn)}{vs:List DTs}(hp:kV code ss dt)(h:Ba n ss rg vs)(hn:n<=1099511627776):hZ code ss dt rg vs=some (true,()):=by
 have h4:=hp.sz.2.1;have hl:=h.rlen
 have e:dY fF NN (rg,(rg.length:Int),0,code,ss,dt,rg,vs,())=some (.inr (rg,(rg.length:Int),(rg.length:Int),false,code,ss,dt,rg,vs,())):=by
  refine mC (N:=NN) (st:=λk=>(rg,(rg.length:Int),(k:Int),code,ss,dt,rg,vs,())) (n:=rg.length) (by unfold NN;omega) ?_ ?_
  ·intro k hk;obtain⟨x,hx⟩:∃x,rg[k]?=some x:=⟨_,oGE hk⟩;obtain⟨z,hz⟩:∃z,ss[k]?=some z:=⟨_,oGE (by omega)⟩;have hf:=h.fit k x z hx hz;have Yn:=hp.sz.2.2 z (dU hz);unfold fF;delta dS;dsimp only;rw[oDT (show(k:Int)<rg.length by omega),dT];simp only[oCT,oBS,show dR rg k=some x from hx,show dR ss k=some z from hz,hf,bne_self_eq_false,oCF];rw[lC (n:=32) hp.sz (h.cells x (dU hx)) (by omega) (by omega)];rw[dX (x:=(k:Int)+1) (by omega) (by omega)];exact Ok.ret rfl
  ·unfold fF;dsimp only;rw[oDF (show ¬(rg.length:Int)<rg.length by omega)];exact Ok.ret rfl
 unfold hZ;delta dS;rw[A5 hp,Gn hp.sz h.vlen h.views hn]
 simp_all
theorem Mh{rg:List (List DCn)}{vs:List DTs}(h1:rg.length<=1000)(h2:vs.length<=1000):ot rg vs=some (rg++vs.map xf,()):=by
 have e:dY jh NN (vs,(vs.length:Int),0,rg,vs,rg,())=some (vs,(vs.length:Int),(vs.length:Int),false,rg,vs,rg++vs.map xf,()):=by
  have:=mC (f:=jh) (N:=NN) (st:=λk=>(vs,(vs.length:Int),(k:Int),rg,vs,rg++(vs.take k).map xf,())) (n:=vs.length) (t:=(vs,(vs.length:Int),(vs.length:Int),false,rg,vs,rg++vs.map xf,())) (by unfold NN;omega) ?_ ?_
  ·simp_all
  ·intro k hk;have ⟨v,hv⟩:∃v,vs[k]?=some v:=⟨_,oGE hk⟩;unfold jh;dsimp only;rw[oDT (show(k:Int)<vs.length by omega),dT];simp only[oCT,oBS,show dR vs k=some v from hv];refine dP (d8 (by simp;omega)) ?_;rw[dX (x:=(k:Int)+1) (by omega) (by omega)];refine Ok.ret ?_;rw[<- fN xf hv,<- List.append_assoc];rfl
  ·unfold jh;dsimp only;rw[oDF (show ¬(vs.length:Int)<vs.length by omega),List.take_length];exact Ok.ret rfl
 unfold ot;rw[d8 (show 24<=1000/\0+rg.length<=1000000 by omega)];delta dS
 simp_all
theorem LV.apart{bs ss:List Int}(h:LV bs ss){r r':Nat}{b z b' z' o o':Int}(hne:r≠r')(hb:bs[r]?=some b)(hz:ss[r]?=some z)(YZ:bs[r']?=some b')(XJ:ss[r']?=some z')(h0:0<=o)(h1:o<z)(h0':0<=o')(h1':o'<z'):b+o≠b'+o':=by
 have ⟨_,hl,hg⟩:=h;have l1:=(oGS hb).1;have l2:=(oGS YZ).1;have g1:=hg r l1;have g2:=hg r' l2;unfold qc at g1 g2;rw[ef hb,ef hz]at g1;rw[ef YZ,ef XJ]at g2;by_cases hlt:r'<r
 ·have:=g1.2.2 r' hlt;rw[ef YZ,ef XJ]at this;omega
 ·have:=g2.2.2 r (by omega);rw[ef hb,ef hz]at this;omega
theorem qF{α:Type}{l:List α}{k:Nat}{d a:α}(h:l[k]?=some a):l.getD k d=a:=by simp_all
structure StW (ss:List Int)(rg:List (List DCn))(vs:List DTs):Prop where
 rlen:rg.length=ss.length
 fit:∀(j:Nat) x z,rg[j]?=some x->ss[j]?=some z->(x.length:Int)=z
 cells:∀x∈rg,∀c∈x,Pr ss c
 vlen:vs.length=4
 len:∀v∈vs,v.2.2.2.2.2.2.2.length=8
 regs:∀v∈vs,∀c∈v.2.2.2.2.2.2.2,Pr ss c
def zo(bs:List Int)(key b:Int)(x:List DCn)(cs:List DCe):Nat->List DCe
 |0=>cs
 |k+1=>(zo bs key b x cs k).set (b+k).toNat (rS bs key (x.getD k (0,0,0,0)))
theorem xe{bs:List Int}{key b:Int}{x:List DCn}{cs:List DCe}:∀k,(zo bs key b x cs k).length=cs.length
 |0=>rfl
 |k+1=>by rw[zo,List.length_set,xe k]
def Ax(bs:List Int)(key:Int)(rg:List (List DCn)):Nat->List DCe
 |0=>List.replicate 512 (0,0)
 |r+1=>zo bs key (bs.getD r 0) (rg.getD r []) (Ax bs key rg r) (rg.getD r []).length
theorem xn{bs:List Int}{key:Int}{rg:List (List DCn)}:∀r,(Ax bs key rg r).length=512
 |0=>List.length_replicate
 |r+1=>by rw[Ax,xe,xn r]
section
variable {key:Int} {code:List DIn} {ss bs:List Int} {dt:List (List Int)} {rg:List (List DCn)} {vs:List DTs}
theorem TF(hL:LV bs ss)(h:StW ss rg vs){r:Nat}(hr:r<rg.length){x:List DCn}(hx:rg[r]?=some x){cs:List DCe}(hc:cs.length=512):
 dY iJ NN ((r:Int),rg,(rg.length:Int),(r:Int),x,(x.length:Int),0,code,ss,dt,bs,key,rg,vs,(),0,(),(),(),bs,key,cs,eH,(),())=
  some ((r:Int),rg,(rg.length:Int),(r:Int),x,(x.length:Int),(x.length:Int),false,code,ss,dt,bs,key,rg,vs,(),0,(),(),(),bs,key,zo bs key (bs.getD r 0) x cs x.length,eH,(),()):=by
 have X3:=h.rlen;obtain⟨b,z,hb,hz,z1,WR,b0,bz⟩:=hL.at_ (r:=r) (by omega);have hf:=h.fit r x z hx hz;have hxc:=h.cells x (dU hx);have hbd:=ef hb;rw[hbd];refine mC (f:=iJ) (N:=NN) (st:=λo=>((r:Int),rg,(rg.length:Int),(r:Int),x,(x.length:Int),(o:Int),code,ss,dt,bs,key,rg,vs,(),0,(),(),(),bs,key,zo bs key b x cs o,eH,(),())) (n:=x.length) (by unfold NN;omega) ?_ ?_
 ·intro o ho;obtain⟨c,YN⟩:∃c,x[o]?=some c:=⟨_,oGE ho⟩;unfold iJ;dsimp only;rw[oDT (show(o:Int)<x.length by omega),dT,dT];simp only[oCT,oBS,show dR x o=some c from YN,show dR bs r=some b from hb,(zq (key:=key) hL (hxc c (dU YN))).1];rw[dX (x:=b+o) (by omega) (by omega),dX (x:=(o:Int)+1) (by omega) (by omega)];obtain⟨a,ha⟩:∃a:Nat,b+o=a:=⟨(b+o).toNat,by omega⟩;obtain⟨y,hy⟩:∃y,(zo bs key b x cs o)[a]?=some y:=⟨_,oGE (by rw[xe];omega)⟩;rw[ha,dT];simp only[oBS,show dR (zo bs key b x cs o) a=some y from hy,eK hy];refine Ok.ret ?_
  have e:zo bs key b x cs (o+1)=(zo bs key b x cs o).set a (rS bs key c):=by rw[zo,ha,qF YN];rfl
  simp_all
 ·unfold iJ;dsimp only;rw[oDF (show ¬(x.length:Int)<x.length by omega)];exact Ok.ret rfl
theorem TH(hL:LV bs ss)(h:StW ss rg vs)(h4:ss.length<=4):
 dY iI NN (rg,(rg.length:Int),0,code,ss,dt,bs,key,rg,vs,(),0,(),(),(),bs,key,List.replicate 512 (0,0),eH,(),())=
  some (rg,(rg.length:Int),(rg.length:Int),false,code,ss,dt,bs,key,rg,vs,(),0,(),(),(),bs,key,Ax bs key rg rg.length,eH,(),()):=by
 have X3:=h.rlen;refine mC (f:=iI) (N:=NN) (st:=λr=>(rg,(rg.length:Int),(r:Int),code,ss,dt,bs,key,rg,vs,(),0,(),(),(),bs,key,Ax bs key rg r,eH,(),())) (n:=rg.length) (by unfold NN;omega) ?_ ?_
 ·intro r hr;obtain⟨x,hx⟩:∃x,rg[r]?=some x:=⟨_,oGE hr⟩;unfold iI;delta dS;dsimp only;rw[oDT (show(r:Int)<rg.length by omega),dT];simp only[oCT,oBS,show dR rg r=some x from hx];rw[TF hL h hr hx (xn r)];simp only[oBS];rw[dX (by omega) (by omega)];refine Ok.ret ?_
  have e:Ax bs key rg (r+1)=zo bs key (bs.getD r 0) x (Ax bs key rg r) x.length:=by rw[Ax,qF hx]
  rw[e];rfl
 ·unfold iI;dsimp only;rw[oDF (show ¬(rg.length:Int)<rg.length by omega)];exact Ok.ret rfl
set_option maxHeartbeats 4000000 in
theorem Qx(hp:kV code ss dt)(hL:LV bs ss)(h:StW ss rg vs)(hV:hZ code ss dt rg vs=some (true,())):
 Ok (jy code ss dt bs key rg vs) (·=(bs,key,Ax bs key rg rg.length,eH,vs.map (thF bs key),true,())):=by
 have h4:=hp.sz.2.1;have hbl:=hL.2.1;have X3:=h.rlen;have YU:=h.vlen;unfold jy;delta dS;rw[hV,u9 hL,Mh (by omega) (by omega),K8];simp only[oBS,oNT,oCF]
 have ZO:∀x∈rg++vs.map xf,x.length<=100/\∀c∈x,Pr ss c:=by
  intro x hx;rcases List.mem_append.1 hx with hx|hx
  ·obtain⟨j,hj⟩:=List.getElem?_of_mem hx;have:=(oGS hj).1;obtain⟨z,hz⟩:∃z,ss[j]?=some z:=⟨_,oGE (by omega)⟩;have:=h.fit j x z hj hz;have:=hp.sz.2.2 z (dU hz);exact⟨by omega,h.cells x hx⟩
  ·obtain⟨v,hv,rfl⟩:=List.mem_map.1 hx;exact⟨by unfold xf;rw[h.len v hv];omega,h.regs v hv⟩
 have Ws:(rg++vs.map xf).length<=100:=by rw[List.length_append,List.length_map];omega
 generalize rg++vs.map xf=lst at ZO Ws
 have e1:dY iK NN ((lst.length:Int),0,code,ss,dt,bs,key,rg,vs,(),0,(),(),(),lst,())=some (.inr ((lst.length:Int),(lst.length:Int),false,code,ss,dt,bs,key,rg,vs,(),0,(),(),(),lst,())):=by
  refine mC (f:=iK) (N:=NN) (st:=λk=>((lst.length:Int),(k:Int),code,ss,dt,bs,key,rg,vs,(),0,(),(),(),lst,())) (n:=lst.length) (by unfold NN;omega) ?_ ?_
  ·intro k hk;obtain⟨x,hx⟩:∃x,lst[k]?=some x:=⟨_,oGE hk⟩;obtain⟨hxl,hxc⟩:=ZO x (dU hx)
   have e0:dY iL NN ((lst.length:Int),(k:Int),x,(x.length:Int),0,code,ss,dt,bs,key,rg,vs,(),0,(),(),(),lst,())=some (.inr ((lst.length:Int),(k:Int),x,(x.length:Int),(x.length:Int),false,code,ss,dt,bs,key,rg,vs,(),0,(),(),(),lst,())):=by
    refine mC (f:=iL) (N:=NN) (st:=λo=>((lst.length:Int),(k:Int),x,(x.length:Int),(o:Int),code,ss,dt,bs,key,rg,vs,(),0,(),(),(),lst,())) (n:=x.length) (by unfold NN;omega) ?_ ?_
    ·intro o ho;obtain⟨c,hc⟩:∃c,x[o]?=some c:=⟨_,oGE ho⟩;unfold iL;dsimp only;rw[oDT (show(o:Int)<x.length by omega),dT];simp only[oCT,oBS,show dR x o=some c from hc,mW (hxc c (dU hc)),oNT,oCF];rw[dX (x:=(o:Int)+1) (by omega) (by omega)];exact Ok.ret rfl
    ·unfold iL;dsimp only;rw[oDF (show ¬(x.length:Int)<x.length by omega)];exact Ok.ret rfl
   unfold iK;delta dS;dsimp only;rw[oDT (show(k:Int)<lst.length by omega),dT];simp only[oCT,oBS,show dR lst k=some x from hx,e0];rw[dX (x:=(k:Int)+1) (by omega) (by omega)];exact Ok.ret rfl
  ·unfold iK;dsimp only;rw[oDF (show ¬(lst.length:Int)<lst.length by omega)];exact Ok.ret rfl
 rw[e1];dsimp only;refine dP (d8 (by omega)) (dP (by decide) ?_);rw[show List.append [] bs=bs from rfl];rw[TH hL h h4,oBS];dsimp only;generalize Ax bs key rg rg.length=cs
 have e5:dY iG NN (vs,(vs.length:Int),0,code,ss,dt,bs,key,rg,vs,(),0,(),(),(),bs,key,cs,eH,[],())=some (vs,(vs.length:Int),(vs.length:Int),false,code,ss,dt,bs,key,rg,vs,(),0,(),(),(),bs,key,cs,eH,vs.map (thF bs key),()):=by
  have:=mC (f:=iG) (N:=NN) (st:=λk=>(vs,(vs.length:Int),(k:Int),code,ss,dt,bs,key,rg,vs,(),0,(),(),(),bs,key,cs,eH,(vs.take k).map (thF bs key),())) (n:=vs.length) (t:=(vs,(vs.length:Int),(vs.length:Int),false,code,ss,dt,bs,key,rg,vs,(),0,(),(),(),bs,key,cs,eH,vs.map (thF bs key),())) (by unfold NN;omega) ?_ ?_
  ·exact this
  ·intro k hk;obtain⟨v,hv⟩:∃v,vs[k]?=some v:=⟨_,oGE hk⟩;have h8:=h.len v (dU hv);have hvr:=h.regs v (dU hv);unfold iG;delta dS;dsimp only;rw[oDT (show(k:Int)<vs.length by omega),dT];simp only[oCT,oBS,show dR vs k=some v from hv]
   have e4:∀(a1 a2 a3 a4 a5 a6 a7 a8 b1 b2 b3 b4 b5 b6 b7:_),dY iH NN (vs,(vs.length:Int),(k:Int),v.2.2.2.2.2.2.2,(v.2.2.2.2.2.2.2.length:Int),0,code,ss,dt,bs,key,rg,vs,(),0,(),(),(),bs,key,cs,eH,(vs.take k).map (thF bs key),a1,a2,a3,a4,a5,a6,a7,a8,b1,[],b2,b3,b4,b5,b6,b7,())=
    some (vs,(vs.length:Int),(k:Int),v.2.2.2.2.2.2.2,(v.2.2.2.2.2.2.2.length:Int),(v.2.2.2.2.2.2.2.length:Int),false,code,ss,dt,bs,key,rg,vs,(),0,(),(),(),bs,key,cs,eH,(vs.take k).map (thF bs key),a1,a2,a3,a4,a5,a6,a7,a8,b1,v.2.2.2.2.2.2.2.map (rS bs key),b2,b3,b4,b5,b6,b7,()):=by
    intro a1 a2 a3 a4 a5 a6 a7 a8 b1 b2 b3 b4 b5 b6 b7
    have:=mC (f:=iH) (N:=NN) (st:=λo=>(vs,(vs.length:Int),(k:Int),v.2.2.2.2.2.2.2,(v.2.2.2.2.2.2.2.length:Int),(o:Int),code,ss,dt,bs,key,rg,vs,(),0,(),(),(),bs,key,cs,eH,(vs.take k).map (thF bs key),a1,a2,a3,a4,a5,a6,a7,a8,b1,(v.2.2.2.2.2.2.2.take o).map (rS bs key),b2,b3,b4,b5,b6,b7,())) (n:=v.2.2.2.2.2.2.2.length)
     (t:=(vs,(vs.length:Int),(k:Int),v.2.2.2.2.2.2.2,(v.2.2.2.2.2.2.2.length:Int),(v.2.2.2.2.2.2.2.length:Int),false,code,ss,dt,bs,key,rg,vs,(),0,(),(),(),bs,key,cs,eH,(vs.take k).map (thF bs key),a1,a2,a3,a4,a5,a6,a7,a8,b1,v.2.2.2.2.2.2.2.map (rS bs key),b2,b3,b4,b5,b6,b7,())) (by unfold NN;omega) ?_ ?_
    ·exact this
    ·intro o ho;obtain⟨c,hc⟩:∃c,v.2.2.2.2.2.2.2[o]?=some c:=⟨_,oGE ho⟩;unfold iH;dsimp only;rw[oDT (show(o:Int)<v.2.2.2.2.2.2.2.length by omega),dT];simp only[oCT,oBS,show dR v.2.2.2.2.2.2.2 o=some c from hc];rw[(zq (key:=key) hL (hvr c (dU hc))).1];simp only[oBS];refine dP (d8 (by simp;omega)) ?_;rw[dX (x:=(o:Int)+1) (by omega) (by omega)];refine Ok.ret ?_;rw[<- fN (rS bs key) hc];rfl
    ·unfold iH;dsimp only;rw[oDF (show ¬(v.2.2.2.2.2.2.2.length:Int)<v.2.2.2.2.2.2.2.length by omega),List.take_length];exact Ok.ret rfl
   rw[e4];simp only[oBS];refine dP (d8 (by simp;omega)) ?_;rw[dX (x:=(k:Int)+1) (by omega) (by omega)];refine Ok.ret ?_;rw[<- fN (thF bs key) hv];rfl
  ·unfold iG;dsimp only;rw[oDF (show ¬(vs.length:Int)<vs.length by omega),List.take_length];exact Ok.ret rfl
 rw[e5];exact Ok.ret rfl
end
theorem DY{bs:List Int}{key b:Int}{x:List DCn}{cs:List DCe}{a:Nat}:∀k:Nat,(∀j:Nat,j<k->(b+(j:Int)).toNat≠a)->(zo bs key b x cs k)[a]?=cs[a]?
 |0,_=>rfl
 |k+1,h=>by rw[zo,List.getElem?_set_ne (h k (by omega)),DY k λj hj=>h j (by omega)]
theorem NI{bs:List Int}{key b:Int}{x:List DCn}{cs:List DCe}{o:Nat}{c:DCn}(b0:0<=b)(hx:x[o]?=some c)(hl:(b+o).toNat<cs.length):∀k:Nat,o<k->(zo bs key b x cs k)[(b+o).toNat]?=some (rS bs key c)
 |0,h=>by omega
 |k+1,h=>by
  rw[zo];by_cases e:o=k
  ·subst e;rw[List.getElem?_set_self (by rw[xe];exact hl),qF hx]
  ·rw[List.getElem?_set_ne (by omega),NI b0 hx hl k (by omega)]
theorem KG{K:Int->Prop}{bs:List Int}{key b:Int}{x:List DCn}{cs:List DCe}(h:∀c∈cs,pL K c):∀k:Nat,(∀j:Nat,j<k->pL K (rS bs key (x.getD j (0,0,0,0))))->∀c∈zo bs key b x cs k,pL K c
 |0,_=>h
 |k+1,g=>by
  rw[zo];exact jX (KG h k λj hj=>g j (by omega)) (g k (by omega))
section
variable {n key:Int} {code:List DIn} {ss bs:List Int} {dt:List (List Int)} {rg:List (List DCn)} {vs:List DTs}
theorem Oy(hL:LV bs ss)(h:StW ss rg vs):∀r,r<=rg.length->∀(r' o:Nat)(x:List DCn)(c:DCn)(b:Int),r'<r->rg[r']?=some x->x[o]?=some c->bs[r']?=some b->(Ax bs key rg r)[(b+o).toNat]?=some (rS bs key c)
 |0,_,_,_,_,_,_,g,_,_,_=>by omega
 |r+1,hr,r',o,x,c,b,g,hx,hc,hb=>by
  have X3:=h.rlen;obtain⟨b1,z,hb1,hz,z1,WR,b0,bz⟩:=hL.at_ (r:=r) (by omega);obtain⟨y,hy⟩:∃y,rg[r]?=some y:=⟨_,oGE (by omega)⟩;have hf:=h.fit r y z hy hz;have ho:=(oGS hc).1;rw[Ax,ef hb1,qF hy];by_cases e:r'=r
  ·subst e;rw[hx]at hy;cases hy;rw[hb]at hb1;cases hb1;exact NI b0 hc (by rw[xn];omega) _ ho
  ·obtain⟨b2,z2,ZY,Yn,_,_,b20,b2z⟩:=hL.at_ (r:=r') (by omega);rw[hb]at ZY;cases ZY;have hf2:=h.fit r' x z2 hx Yn
   rw[DY _ λj hj=>by
    have:=hL.apart (Ne.symm e) hb1 hz hb Yn (o:=j) (o':=o) (by omega) (by omega) (by omega) (by omega)
    omega]
   exact Oy hL h r (by omega) r' o x c b (by omega) hx hc hb
theorem KP(hL:LV bs ss)(h:StW ss rg vs):∀r,r<=rg.length->∀c∈Ax bs key rg r,pL (RK bs ss) c
 |0,_=>λc hc=>by rw[List.eq_of_mem_replicate hc];exact nN (by decide)
 |r+1,hr=>by
  obtain⟨y,hy⟩:∃y,rg[r]?=some y:=⟨_,oGE (by omega)⟩;rw[Ax,qF hy];refine KG (KP hL h r (by omega)) _ λj hj=>?_;have ZQ:y[j]?=some y[j]:=oGE hj;rw[qF ZQ];exact(zq hL (h.cells y (dU hy) _ (dU ZQ))).2
theorem Ba.w{n:Int}{ss:List Int}{R:List (List DCn)}{T:List DTs}(h:Ba n ss R T):StW ss R T:=
 ⟨h.rlen,h.fit,h.cells,h.vlen,λv hv=>(h.views v hv).len,λv hv=>(h.views v hv).regs⟩
theorem Hv(hp:kV code ss dt)(hL:LV bs ss)(h:Ba n ss rg vs)(hn:n<=1099511627776):
 Ok (jy code ss dt bs key rg vs) λr=>∃cs,r=(bs,key,cs,eH,vs.map (thF bs key),true,())/\MOk n ss bs cs eH (vs.map (thF bs key))/\cs=Ax bs key rg rg.length:=by
 refine(Qx hp hL h.w (DM hp h hn)).mono λr e=>⟨_,e,⟨hL,Iu (xn _) (KP hL h.w _ (Nat.le_refl _)),by rw[List.length_map];exact h.vlen,λt ht=>?_⟩,rfl⟩;obtain⟨v,hv,rfl⟩:=List.mem_map.1 ht;have YO:=h.views v hv;refine⟨YO.state,by unfold thF;dsimp only;rw[List.length_map];exact YO.len,λc hc=>?_,YO.pc,YO.count,YO.handler,YO.saved,YO.trap,YO.code⟩;unfold thF at hc;dsimp only at hc;obtain⟨c',YN,rfl⟩:=List.mem_map.1 hc;exact(zq hL (YO.regs c' YN)).2
end
theorem Su{l:List Int}{k n:Int}(h:DOk l k)(hn:0<n)(hn2:n<=9223372036854775807):Ok (dW n l k) λr=>∃v k',r=(v,l,k',())/\0<=v/\v<n/\DOk l k':=by
 have:Ok ((dW n l k).bind some) λr=>∃v k',r=(v,l,k',())/\0<=v/\v<n/\DOk l k':=fS h hn hn2 λv k' h0 h1 h2=>Ok.ret ⟨_,_,rfl,h0,h1,h2⟩
 simp_all
theorem Ba.setReg{n:Int}{ss:List Int}{rg:List (List DCn)}{vs:List DTs}{r o:Nat}{x:List DCn}{c:DCn}(h:Ba n ss rg vs)(hx:rg[r]?=some x)(hc:Pr ss c):Ba n ss (rg.set r (x.set o c)) vs:=by
 refine⟨by rw[List.length_set];exact h.rlen,λj y z hy hz=>?_,jX h.cells (jX (h.cells x (dU hx)) hc),h.vlen,h.views⟩;by_cases e:r=j
 ·subst e;rw[show(rg.set r (x.set o c))[r]?=some (x.set o c)from jd (oGS hx).1 _]at hy;cases hy;rw[List.length_set];exact h.fit r x z hx hz
 ·rw[rz e]at hy;exact h.fit j y z hy hz
theorem Ba.setView{n:Int}{ss:List Int}{rg:List (List DCn)}{vs:List DTs}{k:Nat}{v:DTs}(h:Ba n ss rg vs)(hv:UJ n ss v):Ba n ss rg (vs.set k v):=
 ⟨h.rlen,h.fit,h.cells,by rw[List.length_set];exact h.vlen,jX h.views hv⟩
set_option maxHeartbeats 4000000 in
theorem Mf{l:List Int}{k:Int}(h:DOk l k):Ok (kM l k) λr=>∃code ss dt bs key cs ls ts k',r=(code,ss,dt,bs,key,cs,ls,ts,l,k',())/\kV code ss dt/\W16 key/\MOk 1152 ss bs cs ls ts/\DOk l k':=by
 unfold kM;refine(TE h).bind ?_;rintro _ ⟨code,ss,dt,bs,key,cs,ls,ts,ck,rn,ins,d,os,us,ow,qs,rec,js,k1,rfl,X7,hR,h1⟩;dsimp only;have hp:=hR.prog;have hM:=hR.mach;have hL:=hM.lay;have hs1:=hp.sz.1;obtain⟨_,en,v,k2,rfl,v0,v1,h2⟩:=Su (n:=3) h1 (by decide) (by decide);rw[en];simp only[oBS];by_cases hv:v=0
 ·simp only[beq_iff_eq.2 hv,oCT,Kq (code:=code) (dt:=dt) hM,oBS];have hS:=Kp (key:=key) hM;generalize wP bs ss key cs ls=rg at hS;generalize ts.map (ol bs ss key)=vs at hS;obtain⟨x,hx⟩:∃x,rg[0]?=some x:=⟨_,oGE (by have:=hS.rlen;omega)⟩
  have hxl:x.length<=32:=by
   obtain⟨z,hz⟩:∃z,ss[0]?=some z:=⟨_,oGE (by omega)⟩;have:=hS.fit 0 x z hx hz;have:=hp.sz.2.2 z (dU hz);omega
  delta dS;simp only[show dR rg 0=some x from hx,oBS]
  obtain⟨y,e,YP,k3,a,b,rfl,hS3,h3⟩:=gI (f:=mU) (n:=NN) (s:=((x.length:Int),0,l,k2,(),(),(),(),0,(),(),(),code,ss,dt,bs,key,cs,ls,ts,ck,rn,ins,d,os,us,ow,qs,rec,js,bs,key,cs,ls,ts,rg,vs,()))
   (P:=λs'=>∃(q:Nat)(k':Int)(YP:List (List DCn))(x':List DCn),s'=((x.length:Int),(q:Int),l,k',(),(),(),(),0,(),(),(),code,ss,dt,bs,key,cs,ls,ts,ck,rn,ins,d,os,us,ow,qs,rec,js,bs,key,cs,ls,ts,YP,vs,())/\DOk l k'/\Ba 1152 ss YP vs/\YP[0]?=some x'/\x'.length=x.length)
   (R:=λy=>∃YP k' a b,y=(a,b,false,l,k',(),(),(),(),0,(),(),(),code,ss,dt,bs,key,cs,ls,ts,ck,rn,ins,d,os,us,ow,qs,rec,js,bs,key,cs,ls,ts,YP,vs,())/\Ba 1152 ss YP vs/\DOk l k') (m:=λs'=>(s'.1-s'.2.1).toNat) ⟨0,k2,rg,x,rfl,h2,hS,hx,rfl⟩ (by unfold NN;dsimp only;omega) (by
    rintro _ ⟨q,k',YP,x',rfl,hd,Yz,VZ,V1⟩;unfold mU;dsimp only
    (with_reducible refine dO (λZ'=>?_) λZ'=>?_)
    ·refine Ok.bind (P:=λr=>∃(k':Int)(YP:List (List DCn))(x':List DCn),r=((x.length:Int),(q:Int),l,k',(),(),(),(),0,(),(),(),code,ss,dt,bs,key,cs,ls,ts,ck,rn,ins,d,os,us,ow,qs,rec,js,bs,key,cs,ls,ts,YP,vs,())/\DOk l k'/\Ba 1152 ss YP vs/\YP[0]?=some x'/\x'.length=x.length) ?_ ?_
     ·refine fS (n:=3) hd (by decide) (by decide) λu k4 u0 u1 h4=>?_;dsimp only
      (with_reducible refine dO (λZ3=>?_) λZ3=>?_)
      ·obtain⟨c,hc⟩:∃c,x'[q]?=some c:=⟨_,oGE (by omega)⟩;simp only[show dR YP 0=some x' from VZ,oBS];refine(Ld hp.sz h4).bind ?_;rintro _ ⟨t,v,rr,o,k5,rfl,hc5,h5⟩;dsimp only;simp only[dT,oBS,show dR x' q=some c from hc,eK VZ,eK hc];exact Ok.ret ⟨_,_,_,rfl,h5,Yz.setReg VZ hc5,jd (oGS VZ).1 _,by rw[List.length_set];exact V1⟩
      ·exact Ok.ret ⟨_,_,_,rfl,h4,Yz,VZ,V1⟩
     ·rintro _ ⟨k',YP,x',rfl,hd,Yz,VZ,V1⟩;dsimp only;rw[dX (x:=(q:Int)+1) (by omega) (by omega)];exact Ok.ret ⟨⟨q+1,k',YP,x',rfl,hd,Yz,VZ,V1⟩,by dsimp only;omega⟩
    ·exact Ok.ret ⟨_,_,_,_,rfl,Yz,hd⟩)
  simp only[e,oBS]
  obtain⟨y,e,Za,k4,a,b,rfl,hS4,h4⟩:=gI (f:=mT) (n:=NN) (s:=((vs.length:Int),0,l,k3,(),(),(),(),0,(),(),(),code,ss,dt,bs,key,cs,ls,ts,ck,rn,ins,d,os,us,ow,qs,rec,js,bs,key,cs,ls,ts,YP,vs,()))
   (P:=λs'=>∃(q:Nat)(k':Int)(Za:List DTs),s'=((vs.length:Int),(q:Int),l,k',(),(),(),(),0,(),(),(),code,ss,dt,bs,key,cs,ls,ts,ck,rn,ins,d,os,us,ow,qs,rec,js,bs,key,cs,ls,ts,YP,Za,())/\DOk l k'/\Ba 1152 ss YP Za)
   (R:=λy=>∃Za k' a b,y=(a,b,false,l,k',(),(),(),(),0,(),(),(),code,ss,dt,bs,key,cs,ls,ts,ck,rn,ins,d,os,us,ow,qs,rec,js,bs,key,cs,ls,ts,YP,Za,())/\Ba 1152 ss YP Za/\DOk l k') (m:=λs'=>(s'.1-s'.2.1).toNat) ⟨0,k3,vs,rfl,h3,hS3⟩ (by unfold NN;dsimp only;have:=hS3.vlen;omega) (by
    rintro _ ⟨q,k',Za,rfl,hd,Yz⟩;have YU:=hS3.vlen;have VY:=Yz.vlen;unfold mT;delta dS;dsimp only
    (with_reducible refine dO (λZ'=>?_) λZ'=>?_)
    ·obtain⟨w,hw⟩:∃w,Za[q]?=some w:=⟨_,oGE (by omega)⟩;have hw8:=(Yz.views w (dU hw)).len;rw[dT];simp only[oBS,show dR Za q=some w from hw];refine Ok.bind (P:=λr=>∃(k':Int)(Za:List DTs),r=((vs.length:Int),(q:Int),l,k',(),(),(),(),0,(),(),(),code,ss,dt,bs,key,cs,ls,ts,ck,rn,ins,d,os,us,ow,qs,rec,js,bs,key,cs,ls,ts,YP,Za,())/\DOk l k'/\Ba 1152 ss YP Za) ?_ ?_
     ·refine Ok.loop (P:=λs'=>∃(o:Nat)(k':Int)(Za:List DTs),s'=((q:Int),(vs.length:Int),(q:Int),(w.2.2.2.2.2.2.2.length:Int),(o:Int),l,k',(),(),(),(),0,(),(),(),code,ss,dt,bs,key,cs,ls,ts,ck,rn,ins,d,os,us,ow,qs,rec,js,bs,key,cs,ls,ts,YP,Za,())/\DOk l k'/\Ba 1152 ss YP Za)
       (R:=λy=>∃Za k' a b c,y=((q:Int),(vs.length:Int),(q:Int),a,b,c,l,k',(),(),(),(),0,(),(),(),code,ss,dt,bs,key,cs,ls,ts,ck,rn,ins,d,os,us,ow,qs,rec,js,bs,key,cs,ls,ts,YP,Za,())/\Ba 1152 ss YP Za/\DOk l k') (m:=λs'=>(s'.2.2.2.1-s'.2.2.2.2.1).toNat) ⟨0,k',Za,rfl,hd,Yz⟩ (by unfold NN;dsimp only;omega) ?_ ?_
      ·rintro _ ⟨o,k',Za,rfl,hd,Yz⟩;have VY:=Yz.vlen;unfold ru;dsimp only
       (with_reducible refine dO (λZ3=>?_) λZ3=>?_)
       ·refine Ok.bind (P:=λr=>∃(k':Int)(Za:List DTs),r=((q:Int),(vs.length:Int),(q:Int),(w.2.2.2.2.2.2.2.length:Int),(o:Int),l,k',(),(),(),(),0,(),(),(),code,ss,dt,bs,key,cs,ls,ts,ck,rn,ins,d,os,us,ow,qs,rec,js,bs,key,cs,ls,ts,YP,Za,())/\DOk l k'/\Ba 1152 ss YP Za) ?_ ?_
        ·refine fS (n:=3) hd (by decide) (by decide) λu k4 u0 u1 h4=>?_;dsimp only
         (with_reducible refine dO (λhcc=>?_) λhcc=>?_)
         ·obtain⟨w',WJ⟩:∃w',Za[q]?=some w':=⟨_,oGE (by omega)⟩;have YO:=Yz.views w' (dU WJ);have hw8':=YO.len;obtain⟨cc,hcc⟩:∃cc,w'.2.2.2.2.2.2.2[o]?=some cc:=⟨_,oGE (by omega)⟩;simp only[dT,oBS,show dR Za q=some w' from WJ];refine(Ld hp.sz h4).bind ?_;rintro _ ⟨t,v,rr,o',k5,rfl,hc5,h5⟩;dsimp only;simp only[show dR w'.2.2.2.2.2.2.2 o=some cc from hcc,oBS,eK WJ,eK hcc];exact Ok.ret ⟨_,_,rfl,h5,Yz.setView ⟨YO.state,YO.pc,YO.count,YO.handler,YO.saved,YO.trap,YO.code,by dsimp only;rw[List.length_set];exact hw8',jX YO.regs hc5⟩⟩
         ·exact Ok.ret ⟨_,_,rfl,h4,Yz⟩
        ·rintro _ ⟨k',Za,rfl,hd,Yz⟩;dsimp only;rw[dX (x:=(o:Int)+1) (by omega) (by omega)];exact Ok.ret ⟨⟨o+1,k',Za,rfl,hd,Yz⟩,by dsimp only;omega⟩
       ·exact Ok.ret ⟨_,_,_,_,_,rfl,Yz,hd⟩
      ·rintro _ ⟨Za,k',a,b,c,rfl,Yz,hd⟩;dsimp only;refine fS (n:=4) hd (by decide) (by decide) λu k4 u0 u1 h4=>?_;dsimp only
       (with_reducible refine dO (λhcc=>?_) λhcc=>?_)
       ·refine fS (n:=5) h4 (by decide) (by decide) λu2 k5 u20 u21 h5=>?_;dsimp only;obtain⟨w',WJ⟩:∃w',Za[q]?=some w':=⟨_,oGE (by have:=Yz.vlen;omega)⟩;have YO:=Yz.views w' (dU WJ);simp only[dT,oBS,show dR Za q=some w' from WJ,eK WJ];exact Ok.ret ⟨_,_,rfl,h5,Yz.setView ⟨⟨u20,by dsimp only;omega⟩,YO.pc,YO.count,YO.handler,YO.saved,YO.trap,YO.code,YO.len,YO.regs⟩⟩
       ·exact Ok.ret ⟨_,_,rfl,h4,Yz⟩
     ·rintro _ ⟨k',Za,rfl,hd,Yz⟩;dsimp only;rw[dX (x:=(q:Int)+1) (by omega) (by omega)];exact Ok.ret ⟨⟨q+1,k',Za,rfl,hd,Yz⟩,by dsimp only;omega⟩
    ·exact Ok.ret ⟨_,_,_,_,rfl,Yz,hd⟩)
  simp only[e,oBS];obtain⟨_,ei,Z4,rfl,hM',_⟩:=Hv (key:=key) hp hL hS4 (by decide);simp only[ei,oBS,oCT];exact Ok.ret ⟨_,_,_,_,_,_,_,_,_,rfl,hp,X7,hM',h4⟩
 ·simp only[oBF hv,oCF];exact Ok.ret ⟨_,_,_,_,_,_,_,_,_,rfl,hp,X7,hM,h2⟩
end Go.Proofs.YtffnecakpdhpcaaGreat
