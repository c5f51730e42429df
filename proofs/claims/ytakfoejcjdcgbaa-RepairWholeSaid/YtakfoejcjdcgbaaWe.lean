/- Part of the proof; no condition. -/
import Derived.Test.YtakfoejcjdcgbaaWd
import Derived.Sort.Row
import Derived.Sort.Grow
import Derived.Shelf.Sort.Plain
import Derived.Ground.Names2Prog
import Derived.Shelf.Slices.CompactI
import Derived.Test.YtakfoejcjdcgbaaProg
import Derived.Shelf.Slices.In.SortNone
import Derived.WalkKit
import Derived.WalkSpells
import Derived.Handy
import Derived.OpenShut
import Derived.Lib.SlicesCompact
import Derived.Deep.Slices
set_option linter.unusedVariables false
set_option linter.unusedSimpArgs false
namespace Go.Proofs.Ytakfoejcjdcgbaa
open Go.RowKit
set_option maxRecDepth 100000
noncomputable section
def dA:T10->Option (T10⊕((List (Bool))×Int×(List (LLCn×LDTs))×Int×Int×Bool×T0W)):=λ(v0,v1,v2,v3,v4,v5,v6,v7,v8,v9,v10,v11,v12,v13,v14,v15,v16,v17,v18,v19,_)=>
bif(decide (v4<v3))then((match((dM v4).bind λx0=>
(dh v2 x0).bind λx1=>
let x2:=bB v0.length;
bif(decide (v4>=x2))then(some (.inl (v0,v1,v4,v2,v3,v4,true,v5,v6,v7,v8,v9,v10,v11,v12,v13,v14,v15,v16,v17,v18,v19,x1.1,x1.2,())))else
(dM v4).bind λx3=>
(dh v0 x3).bind λx4=>
bif(!x4)then(some (.inl (v0,v1,v4,v2,v3,v4,true,v5,v6,v7,v8,v9,v10,v11,v12,v13,v14,v15,v16,v17,v18,v19,x1.1,x1.2,())))else
(jp x1.1 x1.2 v5 v6).bind λ(x5,x6,x7,x8,x9,ac,ae,af,ah,ai,aj,ak,_)=>
bif(ak==0)then((gK x5 x6 x7 x8 x9 ac ae af ah ai aj).bind λ(am,_)=>
(dM v4).bind λan=>
(dh v19 an).bind λap=>
(dh v19 an).bind λaq=>
let au:=(List.modify v19 an λe=>(x5,(x6,(x7,(x8,(x9,(ac,(ae,(af,(ah,(ai,aj)))))))))));
(dM v4).bind λav=>
(dh v18 av).bind λaw=>
(dh v18 av).bind λax=>
let ay:=List.modify v18 av λe=>(true,am);
some (.inr (v0,v1,v2,v3,v4,v5,v6,v7,v8,v9,v10,v11,v12,v13,v14,v15,v16,v17,ay,au,())))else
some (.inr (v0,v1,v2,v3,v4,v5,v6,v7,v8,v9,v10,v11,v12,v13,v14,v15,v16,v17,v18,v19,())):Option (((List (Bool))×Int×Int×(List (LLCn×LDTs))×Int×Int×Bool×Int×Int×Int×Int×Unit×Int×Int×Int×Int×Int×Int×Int×Unit×(List (Bool×List (Int)))×(List (Int×Int×LDCn×Int×Int×Int×Int×Int×Int×Int×LDCn))×T04)⊕T10))with
|none=>none
|some (.inl (x0,x1,x2,x3,x4,x5,x6,x7,x8,x9,ac,ae,af,ah,ai,aj,ak,am,an,ap,aq,au,av,aw,_))=>
let ax:=w64 (x5+1);
some (.inl (x0,x1,x3,x4,ax,x7,x8,x9,ac,ae,af,ah,ai,aj,ak,am,an,ap,aq,au,()))
|some (.inr (x0,x1,x2,x3,x4,x5,x6,x7,x8,x9,ac,ae,af,ah,ai,aj,ak,am,an,ap,_))=>
let aq:=w64 (x4+1);
some (.inl (x0,x1,x2,x3,aq,x5,x6,x7,x8,x9,ac,ae,af,ah,ai,aj,ak,am,an,ap,()))))else
some (.inr (v0,v1,v2,v3,v4,false,v5,v6,v7,v8,v9,v10,v11,v12,v13,v14,v15,v16,v17,v18,v19,()))
def cU:T0Z->Option (T0Z⊕((LI×Int×T0J)⊕((List (Bool))×(List (Bool×List (Int)))×Int×Int×T0Y))):=λ(v0,v1,v2,v3,v4,v5,v6,v7,v8,v9,v10,v11,v12,v13,v14,v15,v16,v17,v18,v19,_)=>
bif(decide (v3<v2))then((dM v3).bind λx0=>
(dh v1 x0).bind λx1=>
((dM v3).bind λx2=>
(dh v0 x2).bind λx3=>
bif x3 then(bif x1.1 then((cE v19 v3).bind λ(x4,_)=>
some (v0,v3,v1,v2,v3,(!x4),v4,v5,v6,v7,v8,v9,v10,v11,v12,v13,v14,v15,v16,v17,v18,v19,x1.1,x1.2,()))else
some (v0,v3,v1,v2,v3,false,v4,v5,v6,v7,v8,v9,v10,v11,v12,v13,v14,v15,v16,v17,v18,v19,x1.1,x1.2,()))else
some (v0,v3,v1,v2,v3,false,v4,v5,v6,v7,v8,v9,v10,v11,v12,v13,v14,v15,v16,v17,v18,v19,x1.1,x1.2,()):Option ((List (Bool))×Int×(List (Bool×List (Int)))×Int×Int×Bool×Int×Int×Unit×Int×Int×Int×Int×Int×Int×Int×Unit×(List (Bool×List (Int)))×(List (Int×Int×LDCn×Int×Int×Int×Int×Int×Int×Int×LDCn))×Int×LI×LI×Bool×LI×Unit)).bind λ(x2,x3,x4,x5,x6,x7,x8,x9,ac,ae,af,ah,ai,aj,ak,am,an,ap,aq,au,av,aw,_)=>
bif x7 then((dM x3).bind λaz=>
(dh aq az).bind λaA=>
(dh aq az).bind λaB=>
some (.inr (.inl (aw,0,aB.1,aB.2.1,aB.2.2.1,aB.2.2.2.1,aB.2.2.2.2.1,aB.2.2.2.2.2.1,aB.2.2.2.2.2.2.1,aB.2.2.2.2.2.2.2.1,aB.2.2.2.2.2.2.2.2.1,aB.2.2.2.2.2.2.2.2.2.1,aB.2.2.2.2.2.2.2.2.2.2,()))))else
let az:=w64 (x6+1);
some (.inl (x2,x4,x5,az,x8,x9,ac,ae,af,ah,ai,aj,ak,am,an,ap,aq,au,av,aw,())))else
some (.inr (.inr (v0,v1,v2,v3,false,v4,v5,v6,v7,v8,v9,v10,v11,v12,v13,v14,v15,v16,v17,v18,v19,())))
def eI(a0:List (LLCn×LDTs))(a1:List (Bool))(a2:Int)(a3:Int)(a4:Int):Option (Int×Int×LDCn×T0H):=
let x0:=bB a0.length;
(dM x0).bind λx1=>
(dM x0).bind λx2=>
bif(jZ x1 x2 2)then let x3:List (Bool×List (Int)):=(List.replicate x1 (false,[]));
let x4:=bB a0.length;
(dM x4).bind λx5=>
(dM x4).bind λx6=>
bif(jZ x5 x6 11)then let x7:List (Int×Int×LDCn×Int×Int×Int×Int×Int×Int×Int×LDCn):=(List.replicate x5 (0,(0,([],(0,(0,(0,(0,(0,(0,(0,[])))))))))));
let x8:=bB a0.length;
(bH dA NN (a1,a4,a0,x8,0,a2,a3,0,0,(),0,0,0,0,0,0,0,(),x3,x7,())).bind λ(x9,ac,ae,af,ah,ai,aj,ak,am,an,ap,aq,au,av,aw,ax,ay,az,aA,aB,aD,_)=>
(gG aB x9 ac).bind λ(aE,aF,aG,aH,_)=>
bif(aH != 0)then(some (0,0,[],0,0,0,0,0,0,0,[],[],aH,()))else
(match(bif(aE != 1)then(bif(aE != 2)then(some (.inl (31,0,0,(),0,0,0,0,0,0,0,(),(),())))else
some (.inr (x9,aB,false,am,an,ap,aq,au,av,aw,ax,ay,az,aA,aB,aD,aE,aF,aG,())))else
some (.inr (x9,aB,false,am,an,ap,aq,au,av,aw,ax,ay,az,aA,aB,aD,aE,aF,aG,())):Option ((Int×Int×Int×Unit×Int×Int×Int×Int×Int×Int×Int×Unit×Unit×Unit)⊕((List (Bool))×(List (Bool×List (Int)))×T0Y)))with
|none=>none
|some (.inl (aI,aJ,aK,aL,aM,aO,aP,aQ,aR,aS,aT,aU,aV,_))=>
some (aJ,aK,[],aM,aO,aP,aQ,aR,aS,aT,[],[],aI,())
|some (.inr (aI,aJ,aK,aL,aM,aO,aP,aQ,aR,aS,aT,aU,aV,aW))=>
let aY:=bB aJ.length;
(match bH cU NN (aI,aJ,aY,0,aL,aM,aO,aP,aQ,aR,aS,aT,aU,aV,aW)with
|none=>none
|some (.inl (aZ,ba,bc,bd,be,bf,bg,bh,bi,bj,bk,bl,bm,_))=>
some (bc,bd,be,bf,bg,bh,bi,bj,bk,bl,bm,aZ,ba,())
|some (.inr (aZ,ba,bc,bd,be,bf,bg,bh,bi,bj,bk,bl,bm,_))=>
some (0,0,[],0,0,0,0,0,0,0,[],[],31,())))else none else none
def rj:X.Cfg:=⟨E0,[qB,ng,m8,d9],[(23,(.pair .bool (uaa CB))),(26,(.pair I64 (.pair I64 (.pair cV eY))))],[⟨7,0,qE,[(.normal,(qS [sP 1 (yaa .bool),Uaa 3,zaa 6,zaa 8,Zaa 11 25,Zaa 12 27,Uaa 13,zaa 14,sP 27 (yaa (.pair (yaa cV) (yaa eY))),Uaa 28,Uaa 29,Xaa 44] [(14,uac),(18,uad),(25,uaf),(27,[shU (uaa (.pair I64 (.pair I64 (.pair cV eY))))]),(30,uab)])),(.normal,(qS [sP 1 (yaa .bool),Uaa 3,zaa 6,zaa 8,Zaa 11 25,Zaa 12 27,sP 27 (yaa (.pair (yaa cV) (yaa eY))),Uaa 28,Uaa 29] [(14,uac),(18,uad),(25,uaf),(27,[shU (uaa (.pair I64 (.pair I64 (.pair cV eY))))])]))]⟩,(lx 4 1 [sP 1 (yaa .bool),Uaa 3,zaa 6,zaa 8,Zaa 11 25,Zaa 12 27,sP 27 (yaa (.pair (yaa cV) (yaa eY))),Uaa 28,Uaa 29] [(14,uac),(18,uad),(25,uaf),(27,[shU (uaa (.pair I64 (.pair I64 (.pair cV eY))))])] 30),⟨17,2,qE,[(.ret,(qS [zaa 8,Zaa 9 21,Uaa 10] [(18,uad),(21,uL [N1])])),(.normal,(qS [sP 1 (yaa .bool),zaa 8,sP 11 (yaa (.pair .bool (yaa CB))),Zaa 12 27,zaa 17,Xaa 82] [(18,uad),(25,Xae),(27,[shU (uaa (.pair I64 (.pair I64 (.pair cV eY))))]),(36,yad)]))]⟩,⟨27,3,qE,[(.normal,(qS [sP 1 (yaa .bool),zaa 8,Zaa 12 27,zaa 17,Uaa 19,sP 84 (yaa (.pair .bool (yaa CB))),Uaa 85,Uaa 86,Xaa 105] [(18,uad),(25,Xae),(27,[shU (uaa (.pair I64 (.pair I64 (.pair cV eY))))]),(36,yad),(42,Zac)]))]⟩,⟨22,4,(qS [sP 1 (yaa .bool),zaa 8,Zaa 12 27,zaa 17,sP 84 (yaa (.pair .bool (yaa CB))),Uaa 85,Uaa 86] [(18,uad),(25,Xae),(27,[shU (uaa (.pair I64 (.pair I64 (.pair cV eY))))]),(36,yad)]),[(.ret,qS [zaa 8,sP 9 RI,Uaa 10] [(18,zae)]),(.exit 2,(qS [sP 1 (yaa .bool),zaa 8,Zaa 12 27,zaa 17,sP 84 (yaa (.pair .bool (yaa CB))),Uaa 85,Uaa 86,Xaa 87] [(18,uad),(25,Xae),(27,[shU (uaa (.pair I64 (.pair I64 (.pair cV eY))))]),(36,yad)]))]⟩]⟩
def lz:Ctr:=⟨27,49,[shU (yaa (.pair (yaa cV) (yaa eY))),shU (yaa .bool),.agg uac,shU I64],[],[⟨uL [I64,I64,cV,I64,I64,I64,I64,I64,I64,CW,cV,RI,I64],[.agg 11,.one,.one],[]⟩],ap5 eI⟩
theorem qX:Lk 8 lz:=ls rj (aC wB (aC sX (aC sS (aC gm aN))))
def qA:Ctr:=⟨37,50,[.agg uab,.agg zae],[],[⟨yaf,[.agg 2,.one],[]⟩],ap13 cj⟩
theorem wA:Lvl E0 TT libBj 1 qA:=(B6 (E6 rfl) qQ).mono (by decide)
def dR:T0U->Option (T0U⊕(LI×(List (Int×Int×LDCn×Int×Int×Int×Int×Int×Int×Int×LDCn))×Int×LI×Int×Int×Bool×T0g)):=λ(v0,v1,v2,v3,v4,v5,v6,v7,v8,v9,_)=>
bif(decide (v5<v4))then((dM v5).bind λx0=>
(dh v3 x0).bind λx1=>
(dM x1).bind λx2=>
(dM x1).bind λx3=>
bif(jZ x2 x3 4)then let x4:LDCn:=(List.replicate x2 (0,(0,(0,0))));
bif(cn 24 v8.length (List.length [x4]))then let x5:List LDCn:=(List.append v8 [x4]);
let x6:=w64 (v5+1);
some (.inl (v0,v1,v2,v3,v4,x6,v6,v7,x5,v9,()))else none else none)else
some (.inr (v0,v1,v2,v3,v4,v5,false,v6,v7,v8,v9,()))
def dQ:T0Q->Option (T0Q⊕((List (Int×Int×LDCn×Int×Int×Int×Int×Int×Int×Int×LDCn))×Int×Int×Bool×T0l)):=λ(v0,v1,v2,v3,v4,v5,v6,v7,_)=>
bif(decide (v2<v1))then((dM v2).bind λx0=>
(dh v0 x0).bind λx1=>
(dM v2).bind λx2=>
(dh v5 x2).bind λx3=>
(dh v5 x2).bind λx4=>
bif(!((x1.1==x4.1)&&((x1.2.1==x4.2)&&true)))then(none)else
(cj v6 v7 x1.1 x1.2.1 x1.2.2.1 x1.2.2.2.1 x1.2.2.2.2.1 x1.2.2.2.2.2.1 x1.2.2.2.2.2.2.1 x1.2.2.2.2.2.2.2.1 x1.2.2.2.2.2.2.2.2.1 x1.2.2.2.2.2.2.2.2.2.1 x1.2.2.2.2.2.2.2.2.2.2).bind λ(x5,x6,x7,_)=>
bif(x7 != 0)then(none)else
let x8:=w64 (v2+1);
some (.inl (v0,v1,x8,v3,v4,v5,x5,x6,())))else
some (.inr (v0,v1,v2,false,v3,v4,v5,v6,v7,()))
def gL(a0:List (Int))(a1:List (Int×Int×LDCn×Int×Int×Int×Int×Int×Int×Int×LDCn)):Option (LLCn×LDTs×Int×Unit):=
(d8 a0 0).bind λ(x0,x1,_)=>
bif(x1 != 0)then(some ([],[],x1,()))else
let x2:=bB a1.length;
let x3:=bB x0.length;
let x4:=w64 (x2-x3);
bif(decide (x4<0))then(some ([],[],5,()))else
bif(decide (x4>4))then(some ([],[],5,()))else
(dM x4).bind λx5=>
(dM x4).bind λx6=>
bif(jZ x5 x6 8)then let x7:LDTs:=(List.replicate x5 (0,(0,(0,(0,(0,(0,(0,[]))))))));
let x8:=bB a0.length;
(bH dR NN (a0,a1,x4,a0,x8,0,(),(),[],x7,())).bind λ(x9,ac,ae,af,ah,ai,aj,ak,am,an)=>
(d8 x9 ae).bind λ(aq,au,_)=>
let av:=bB ac.length;
(bH dQ NN (ac,av,0,ak,am,aq,an)).bind λ(aw,ax,ay,az,aA,aB,aD,aE,aF,_)=>
some (aE,aF,0,())else none
def tE:X.Cfg:=⟨E0,[kG,qA],[(36,rA),(48,(uaa KCn)),(49,(uaa KCn))],[(lx 12 0 [sP 0 RI,(1,shU (yaa (.pair I64 (.pair I64 (.pair cV eY))))),zaa 4,Uaa 8,zaa 9,sP 38 RI,Uaa 39,Uaa 40] [(10,Uab),(20,Zab)] 41),⟨20,1,qS [zaa 4,Zaa 6 15,zaa 9,(58,shU (yaa (.pair I64 (.pair I64 (.pair cV eY))))),Uaa 59,Uaa 60] [(10,Uab),(15,Uac),(20,uab)],[(.exit 2,qS [zaa 4,Zaa 6 15,zaa 9,(58,shU (yaa (.pair I64 (.pair I64 (.pair cV eY))))),Uaa 59,Uaa 60,Xaa 61] [(10,Uab),(15,Uac),(20,uab)])]⟩]⟩
def nh:Ctr:=⟨29,51,[shU RI,shU (yaa (.pair I64 (.pair I64 (.pair cV eY))))],[],[⟨yaf,[.agg 2,.one],[]⟩],ap2 gL⟩
theorem sY:Lk 6 nh:=ls tE (aC oo (aC wA aN))
def cB:T0V->Option (T0V⊕((Int×Unit×Unit×Unit×Unit)⊕((List (LLCn×LDTs))×(List (Bool))×Int×LI×Int×Int×Bool×T0O))):=λ(v0,v1,v2,v3,v4,v5,v6,v7,v8,v9,v10,v11,_)=>
bif(decide (v5<v4))then((dM v5).bind λx0=>
(dh v9 x0).bind λx1=>
(dh v9 x0).bind λx2=>
(eI v0 v1 x2.1 x2.2 v2).bind λ(x3,x4,x5,x6,x7,x8,x9,ac,ae,af,ah,ai,aj,_)=>
bif(aj != 0)then(some (.inr (.inl (aj,(),(),(),()))))else
let ak:List (Int×Int×LDCn×Int×Int×Int×Int×Int×Int×Int×LDCn):=[(x3,(x4,(x5,(x6,(x7,(x8,(x9,(ac,(ae,(af,ah))))))))))];
bif(cn 120 v10.length ak.length)then let am:List (Int×Int×LDCn×Int×Int×Int×Int×Int×Int×Int×LDCn):=(List.append v10 ak);
bif(cn 8 v11.length ai.length)then let an:List (Int):=(List.append v11 ai);
let ap:=w64 (v5+1);
some (.inl (v0,v1,v2,v3,v4,ap,v6,v7,v8,v9,am,an,()))else none else none)else
some (.inr (.inr (v0,v1,v2,v3,v4,v5,false,v6,v7,v8,v9,v10,v11,())))
def fY(a0:List (LLCn×LDTs))(a1:List (Bool))(a2:Int):Option (T0e):=
(dL a1 true).bind λ(x0,_)=>
let x1:=bB a1.length;
let x2:=bB a0.length;
bif(x1 != x2)then(some ([],[],[],1,()))else
bif(decide (x0<0))then(some ([],[],[],1,()))else
(dM x0).bind λx3=>
(dh a0 x3).bind λx4=>
(gJ x4.1 x4.2).bind λ(x5,_)=>
(dM x0).bind λx6=>
(dh a0 x6).bind λx7=>
let x8:=bB x7.2.length;
(d8 x5 x8).bind λ(x9,ac,_)=>
bif(ac != 0)then(some ([],[],[],ac,()))else
let ae:=bB x9.length;
(match bH cB NN (a0,a1,a2,x5,ae,0,(),(),x5,x9,[],[],())with
|none=>none
|some (.inl (af,ah,ai,aj,_))=>
some ([],[],[],af,())
|some (.inr (af,ah,ai,aj,ak,am,an,ap,aq,au,av,aw,ax,_))=>
bif(Nat.blt ax.length 4611686018427387904)then let ay:List (Int):=(pK 1 ax);
(gL aj aw).bind λ(az,aA,aB,_)=>
bif(aB != 0)then(some ([],[],[],aB,()))else
bif(Nat.blt ay.length 4611686018427387904)then let aD:List (Int):=(pK 2 ay);
let aE:=Fy aD 0 (rowN ay);
some (az,aA,aE,0,())else none else none)
def ri:X.Cfg:=⟨E0,[ir,nc,kG,lz,nh],[(74,(.pair I64 (.pair I64 (.pair (uaa KCn) rA)))),(75,(.pair I64 (.pair I64 (.pair (uaa KCn) rA))))],[⟨14,0,(qS [sP 0 (yaa (.pair (yaa cV) (yaa eY))),sP 1 (yaa .bool),Uaa 2,zaa 6,sP 10 RI,Zaa 13 29,Zaa 14 31,Zaa 53 25,Uaa 54,Uaa 55] [(14,Uab),(23,uL [RI]),(25,Uac),(29,[shU (uaa (.pair I64 (.pair I64 (.pair cV eY))))]),(31,zac)]),[(.ret,(qS [zaa 6,Zaa 7 17,Uaa 8] [(14,Uab),(17,uL [N1])])),(.exit 0,(qS [sP 0 (yaa (.pair (yaa cV) (yaa eY))),sP 1 (yaa .bool),Uaa 2,zaa 6,sP 10 RI,Zaa 13 29,Zaa 14 31,Zaa 53 25,Uaa 54,Uaa 55,Xaa 56] [(14,Uab),(23,uL [RI]),(25,Uac),(29,[shU (uaa (.pair I64 (.pair I64 (.pair cV eY))))]),(31,zac)]))]⟩]⟩
def ly:Ctr:=⟨12,52,uL [(yaa (.pair (yaa cV) (yaa eY))),(yaa .bool),I64],[],[⟨uL [(yaa cV),(yaa eY),RI,I64],[.agg 2,.one,.one],[]⟩],ap3 fY⟩
theorem qW:Lk 9 ly:=ls ri (aC lR (aC sW (aC oo (aC qX (aC sY aN)))))
def cW:T0b->Option (T0b⊕((Bool×Unit)⊕(LI×LI×T00))):=λ(v0,v1,v2,_)=>
let x0:=bB v0.length;
bif(decide (v2<x0))then((dM v2).bind λx1=>
(dh v0 x1).bind λx2=>
(dM v2).bind λx3=>
(dh v1 x3).bind λx4=>
bif(x2 != x4)then(some (.inr (.inl (false,()))))else
let x5:=w64 (v2+1);
some (.inl (v0,v1,x5,())))else
some (.inr (.inr (v0,v1,v2,false,())))
def eQ(a0:List (Int))(a1:List (Int)):Option (Bool×Unit):=
let x0:=bB a0.length;
let x1:=bB a1.length;
bif(x0 != x1)then(some (false,()))else
(match bH cW NN (a0,a1,0,())with
|none=>none
|some (.inl (x2,_))=>
some (x2,())
|some (.inr (x2,_))=>
some (true,()))
def oP:X.Cfg:=⟨E0,[],[],[⟨6,0,qS [sP 0 RI,sP 1 RI,Uaa 5] [],[(.ret,qS [Xaa 4] []),(.exit 0,qS [sP 0 RI,sP 1 RI,Uaa 5,Xaa 14] [])]⟩]⟩
def jJ:Ctr:=⟨13,53,uL [RI,RI],[],[⟨zab,[.one],[]⟩],ap2 eQ⟩
theorem oL:Lk 1 jJ:=ls oP aN
def cr:T0N->Option (T0N⊕(Int×Int×Bool×T0L)):=λ(v0,v1,v2,v3,v4,v5,v6,v7,v8,v9,v10,v11,v12)=>
bif(decide (v1<v0))then(((match(((dM v1).bind λx0=>
bif(Nat.beq x0 0)then(bif v2 then(let x1:Int:=(bB v11.length);
let x2:=w64 (v0-1);
let x3:=w64 (Int.tdiv x2 2);
some (v0,v1,(decide (x1<x3)),v2,v3,v4,v5,v6,v7,v8,v9,v10,v11,v7,v8,v12))else
some (v0,v1,false,v2,v3,v4,v5,v6,v7,v8,v9,v10,v11,v7,v8,v12))else
bif(Nat.beq x0 1)then(bif v3 then(let x1:Int:=(bB v11.length);
let x2:=w64 (v0-1);
let x3:=w64 (Int.tdiv x2 2);
some (v0,v1,(decide (x1<x3)),v2,v3,v4,v5,v6,v7,v8,v9,v10,v11,v7,v8,v12))else
some (v0,v1,false,v2,v3,v4,v5,v6,v7,v8,v9,v10,v11,v7,v8,v12))else
bif(Nat.beq x0 2)then(bif v4 then(let x1:Int:=(bB v11.length);
let x2:=w64 (v0-1);
let x3:=w64 (Int.tdiv x2 2);
some (v0,v1,(decide (x1<x3)),v2,v3,v4,v5,v6,v7,v8,v9,v10,v11,v7,v8,v12))else
some (v0,v1,false,v2,v3,v4,v5,v6,v7,v8,v9,v10,v11,v7,v8,v12))else
bif(Nat.beq x0 3)then(bif v5 then(let x1:Int:=(bB v11.length);
let x2:=w64 (v0-1);
let x3:=w64 (Int.tdiv x2 2);
some (v0,v1,(decide (x1<x3)),v2,v3,v4,v5,v6,v7,v8,v9,v10,v11,v7,v8,v12))else
some (v0,v1,false,v2,v3,v4,v5,v6,v7,v8,v9,v10,v11,v7,v8,v12))else
bif(Nat.beq x0 4)then bif v6 then(let x1:Int:=(bB v11.length);
let x2:=w64 (v0-1);
let x3:=w64 (Int.tdiv x2 2);
some (v0,v1,(decide (x1<x3)),v2,v3,v4,v5,v6,v7,v8,v9,v10,v11,v7,v8,v12))else
some (v0,v1,false,v2,v3,v4,v5,v6,v7,v8,v9,v10,v11,v7,v8,v12)else none:Option (Int×Int×Bool×T0M)).bind λ(x0,x1,x2,x3,x4,x5,x6,x7,x8,x9,ac,ae,af,ah,ai,aj,ak,_)=>
bif x2 then((bI 4 aj ak).bind λ(am,an,ap,_)=>
let aq:=w64 (1+am);
(gh x8 x9 aq an ap).bind λ(au,av,aw)=>
(fb au av x8 x9).bind λ(ay,_)=>
bif(!ay)then(bif(cn 8 af.length (List.length [x1]))then let az:List (Int):=(List.append af [x1]);
some (.inl (x0,x1,x3,x4,x5,x6,x7,x8,x9,ac,ae,az,au,av,aw))else none)else
some (.inl (x0,x1,x3,x4,x5,x6,x7,x8,x9,ac,ae,af,au,av,aw)))else
some (.inr (x0,x1,x3,x4,x5,x6,x7,x8,x9,ac,ae,af,ah,ai,aj,ak,())):Option (T0P⊕T0P))with
|none=>none
|some (.inl (x0,x1,x2,x3,x4,x5,x6,x7,x8,x9,ac,ae,af,ah,ai,aj,_))=>
let ak:List (LLCn×LDTs):=[(af,ah)];
bif(cn 48 x9.length ak.length)then let am:List (LLCn×LDTs):=(List.append x9 ak);
bif(cn 1 ac.length (List.length [true]))then let an:List (Bool):=(List.append ac [true]);
some (x0,x1,x2,x3,x4,x5,x6,x7,x8,am,an,ae,ai,aj,())else none else none
|some (.inr (x0,x1,x2,x3,x4,x5,x6,x7,x8,x9,ac,ae,af,ah,ai,aj,_))=>
let ak:List (LLCn×LDTs):=[(af,ah)];
bif(cn 48 x9.length ak.length)then let am:List (LLCn×LDTs):=(List.append x9 ak);
bif(cn 1 ac.length (List.length [true]))then let an:List (Bool):=(List.append ac [true]);
some (x0,x1,x2,x3,x4,x5,x6,x7,x8,am,an,ae,ai,aj,())else none else none):Option (T0N)).bind λ(x0,x1,x2,x3,x4,x5,x6,x7,x8,x9,ac,ae,af,ah,_)=>
let ai:=w64 (x1+1);
some (.inl (x0,ai,x2,x3,x4,x5,x6,x7,x8,x9,ac,ae,af,ah,())))else
some (.inr (v0,v1,false,v2,v3,v4,v5,v6,v7,v8,v9,v10,v11,v12))
def eV(a0:List (Int))(a1:Bool)(a2:Bool)(a3:Bool)(a4:Bool)(a5:Bool)(a6:Int):Option (Bool×Unit):=
(oZ a0).bind λ(x0,_)=>
bif(!x0)then((fv).bind λ(x1,_)=>
some (x1,()))else
(gH a0 0).bind λ(x1,x2,x3)=>
let x5:=wk .i64 a6;
let x6:=Int.tmod x5 5;
let x7:=w64 (1+x6);
(bH cr NN (x7,0,a1,a2,a3,a4,a5,x1,x2,[],[],[],x3)).bind λ(x8,x9,ac,ae,af,ah,ai,aj,ak,am,an,ap,aq,_)=>
(fY an ap 1).bind λ(aw,ax,ay,az,_)=>
bif(az==0)then((fb aw ax ak am).bind λ(aA,_)=>
bif aA then((eQ ay aq).bind λ(aB,_)=>
bif aB then((fv).bind λ(aD,_)=>
some (aD,()))else
some (false,()))else
some (false,()))else
some (false,())
def lX:X.Cfg:=⟨E0,[yE,ni,m9,fW,oy,oz,ly,jJ],[(63,(.pair (uaa (uaa KCn)) (uaa rA))),(64,(.pair (yaa cV) (yaa eY)))],[⟨18,0,qE,[(.normal,qS [zaa 4,pP 7 48,zaa 8,Uaa 9,Zaa 10 23,Zaa 11 25,Zaa 12 27,Uaa 13,zaa 14,Xaa 46] [(10,zad),(18,uab),(23,Uad),(25,Xad),(27,zac),(30,uab),(48,yab)])]⟩,⟨17,1,qE,[(.normal,qS [zaa 4,pP 7 48,zaa 8,Uaa 9,Zaa 10 23,Zaa 11 25,Zaa 12 27,Uaa 13,zaa 14] [(10,zad),(18,uab),(23,Uad),(25,Xad),(27,zac),(30,Zab),(48,yab)]),(.normal,qS [zaa 4,pP 7 48,zaa 8,Uaa 9,Zaa 10 23,Zaa 11 25,Zaa 12 27,Uaa 13,zaa 14] [(10,zad),(18,uab),(23,Uad),(25,Xad),(27,zac),(30,uab),(48,yab)])]⟩,⟨15,2,qE,[(.normal,qS [zaa 4,pP 7 48,zaa 8,Uaa 9,Zaa 10 23,Zaa 11 25,Zaa 12 27,Uaa 13] [(10,zad),(18,uab),(23,Uad),(25,Xad),(27,zac),(48,yab)])]⟩,(lx 12 3 [zaa 4,pP 7 48,zaa 8,Uaa 9,Zaa 10 23,Zaa 11 25,Zaa 12 27,Uaa 13] [(10,zad),(18,uab),(23,Uad),(25,Xad),(27,zac),(48,yab)] 32)]⟩
def it:Ctr:=⟨3,54,[shU RI,.agg zad,shU CB],[],[⟨zab,[.one],[]⟩],ap7 eV⟩
theorem k_law34_RepairWhole:Lk 10 it:=ls lX (aC Eb (aC sZ (aC sU (aC ic (aC uO (aC uP (aC qW (aC oL aN))))))))
end
end Go.Proofs.Ytakfoejcjdcgbaa
namespace Go.Proofs.Ytakfoejcjdcgbaa
set_option maxRecDepth 100000
noncomputable section
end
end Go.Proofs.Ytakfoejcjdcgbaa
namespace Go.Proofs.Ytakfoejcjdcgbaa
open Go.RowKit Go.Sort
def uv:Array Value->Nat->List Value->Array Value
 |c,_,[]=>c
 |c,o,v::r=>uv (c.setIfInBounds o v) (o+1) r
theorem zi:∀(vs:List Value)(c:Array Value)(o k:Nat),(uv c o vs)[k]?=if o<=k/\k<o+vs.length/\k<c.size then vs[k-o]? else c[k]?:=by
 intro vs
 induction vs with
 |nil=>intro c o k;rw[oIN (by simp;omega)];rfl
 |cons v r ih=>
  intro c o k;show(uv (c.setIfInBounds o v) (o+1) r)[k]?=_;rw[ih,oLC,Array.size_setIfInBounds];by_cases h1:o+1<=k/\k<o+1+r.length/\k<c.size
  ·rw[oIP h1,oIP (by omega)];obtain⟨m,hm⟩:∃m,k-o=m+1:=⟨k-o-1,by omega⟩;rw[hm,List.getElem?_cons_succ,show k-(o+1)=m by omega]
  ·rw[oIN h1,Array.getElem?_setIfInBounds];by_cases h2:o=k
   ·subst h2;by_cases h3:o<c.size
    ·rw[oIP rfl,oIP h3,oIP (by omega),Nat.sub_self];rfl
    ·rw[oIP rfl,oIN h3,oIN (by omega),Array.getElem?_eq_none (by omega)]
   ·rw[oIN h2,oIN (by omega)]
theorem uw(b:Nat):∀(vs:List Value)(w:World)(o:Nat),vs≠[]->w.setCells b o vs=mapBlock w b λc=>uv c o vs:=by
 intro vs
 induction vs with
 |nil=>intro w o h;exact absurd rfl h
 |cons v r ih=>
  intro w o _;show(w.setCell ⟨b,o,none⟩ v).setCells b (o+1) r=_;rw[setCell_eq];by_cases hr:r=[]
  ·subst hr;rfl
  ·rw[ih _ _ hr,mapBlock_mapBlock];rfl
theorem Gm(zs:List Int)(c:Array Value):putCells (Value.int .i64) 0 zs.toArray c=uv c 0 (zs.map λz=>.int .i64 z):=by
 apply Array.ext_getElem?;intro k;rw[zi,List.length_map];unfold putCells;rw[Array.getElem?_mapIdx];by_cases h:k<c.size
 ·rw[Array.getElem?_eq_getElem h];simp only[oMS,List.size_toArray,Nat.zero_add,Nat.sub_zero];by_cases g:k<zs.length
  ·rw[oIP ⟨Nat.zero_le _,g⟩,oIP ⟨Nat.zero_le _,g,h⟩,List.getElem?_map,oGE g];simp[g]
  ·rw[oIN (by omega),oIN (by omega)]
 ·rw[Array.getElem?_eq_none (by omega),oIN (by omega)];rfl
theorem ux(w:World)(b:Nat){zs:List Int}(h:zs≠[]):w.setCells b 0 (zs.map λz=>.int .i64 z)=putRow (Value.int .i64) w b 0 zs.toArray:=by
 rw[uw b _ w 0 (by simpa using h)];unfold putRow;congr 1;funext c;exact(Gm zs c).symm
section
variable {M:Fm} {σ σ':St} {ts:Array Value} {w:World} {G:Gh}
end
end Go.Proofs.Ytakfoejcjdcgbaa
namespace Go.Proofs.Ytakfoejcjdcgbaa
open Go.Shelf
def wu:Go.Shelf.Ren:=⟨λ|189=>28|125=>48|257=>47|128=>80|129=>81|294=>71|295=>72|296=>73|297=>74|298=>75|299=>76|216=>77|300=>78|301=>79|328=>90|329=>91|330=>92|331=>93|332=>94|215=>95|343=>99|n=>n,λ|28=>22|3=>3|46=>105|0=>0|51=>138|53=>140|4=>4|183=>130|182=>129|131=>135|5=>5|9=>9|218=>148|222=>152|228=>156|229=>157|n=>n,λ|n=>n⟩
theorem Cb:Go.Proofs.Lays.n189 Try.prog wu:={
 mixed:=by kernel_rfl
 f125:=Try.func48.trans (congrArg some (by kernel_rfl))
 f128:=Try.func80.trans (congrArg some (by kernel_rfl))
 f129:=Try.func81.trans (congrArg some (by kernel_rfl))
 f189:=Try.func28.trans (congrArg some (by kernel_rfl))
 f215:=Try.func95.trans (congrArg some (by kernel_rfl))
 f216:=Try.func77.trans (congrArg some (by kernel_rfl))
 f257:=Try.func47.trans (congrArg some (by kernel_rfl))
 f294:=Try.func71.trans (congrArg some (by kernel_rfl))
 f295:=Try.func72.trans (congrArg some (by kernel_rfl))
 f296:=Try.func73.trans (congrArg some (by kernel_rfl))
 f297:=Try.func74.trans (congrArg some (by kernel_rfl))
 f298:=Try.func75.trans (congrArg some (by kernel_rfl))
 f299:=Try.func76.trans (congrArg some (by kernel_rfl))
 f300:=Try.func78.trans (congrArg some (by kernel_rfl))
 f301:=Try.func79.trans (congrArg some (by kernel_rfl))
 f328:=Try.func90.trans (congrArg some (by kernel_rfl))
 f329:=Try.func91.trans (congrArg some (by kernel_rfl))
 f330:=Try.func92.trans (congrArg some (by kernel_rfl))
 f331:=Try.func93.trans (congrArg some (by kernel_rfl))
 f332:=Try.func94.trans (congrArg some (by kernel_rfl))
 f343:=Try.func99.trans (congrArg some (by kernel_rfl))
 t0:=Try.underlying0
 a0:=Try.isAgg0
 z0:=Try.sizeOf0
 v0:=Try.zeroValue0
 t3:=Try.underlying3
 a3:=Try.isAgg3
 z3:=Try.sizeOf3
 v3:=Try.zeroValue3
 t4:=Try.underlying4
 a4:=Try.isAgg4
 z4:=Try.sizeOf4
 v4:=Try.zeroValue4
 t5:=Try.underlying5
 a5:=Try.isAgg5
 z5:=Try.sizeOf5
 v5:=Try.zeroValue5
 t9:=Try.underlying9
 a9:=Try.isAgg9
 z9:=Try.sizeOf9
 v9:=Try.zeroValue9
 t28:=Try.underlying22
 a28:=Try.isAgg22
 z28:=Try.sizeOf22
 v28:=Try.zeroValue22
 t46:=Try.underlying105
 a46:=Try.isAgg105
 z46:=Try.sizeOf105
 v46:=Try.zeroValue105
 t51:=Try.underlying138
 a51:=Try.isAgg138
 z51:=Try.sizeOf138
 v51:=Try.zeroValue138
 t53:=Try.underlying140
 a53:=Try.isAgg140
 z53:=Try.sizeOf140
 v53:=Try.zeroValue140
 t131:=Try.underlying135
 a131:=Try.isAgg135
 z131:=Try.sizeOf135
 v131:=Try.zeroValue135
 t182:=Try.underlying129
 a182:=Try.isAgg129
 z182:=Try.sizeOf129
 v182:=Try.zeroValue129
 t183:=Try.underlying130
 a183:=Try.isAgg130
 z183:=Try.sizeOf130
 v183:=Try.zeroValue130
 t218:=Try.underlying148
 a218:=Try.isAgg148
 z218:=Try.sizeOf148
 v218:=Try.zeroValue148
 t222:=Try.underlying152
 a222:=Try.isAgg152
 z222:=Try.sizeOf152
 v222:=Try.zeroValue152
 t228:=Try.underlying156
 a228:=Try.isAgg156
 z228:=Try.sizeOf156
 v228:=Try.zeroValue156
 t229:=Try.underlying157
 a229:=Try.isAgg157
 z229:=Try.sizeOf157
 v229:=Try.zeroValue157 }
def wt:Go.Shelf.Ren:=⟨λ|20=>30|n=>n,λ|22=>22|3=>3|4=>4|0=>0|n=>n,λ|n=>n⟩
theorem Ca:Go.Proofs.Lays2.n20 Try.prog wt:={
 mixed:=by kernel_rfl
 f20:=Try.func30.trans (congrArg some (by kernel_rfl))
 t0:=Try.underlying0
 a0:=Try.isAgg0
 z0:=Try.sizeOf0
 v0:=Try.zeroValue0
 t3:=Try.underlying3
 a3:=Try.isAgg3
 z3:=Try.sizeOf3
 v3:=Try.zeroValue3
 t4:=Try.underlying4
 a4:=Try.isAgg4
 z4:=Try.sizeOf4
 v4:=Try.zeroValue4
 t22:=Try.underlying22
 a22:=Try.isAgg22
 z22:=Try.sizeOf22
 v22:=Try.zeroValue22
 i3:=by kernel_rfl }
end Go.Proofs.Ytakfoejcjdcgbaa
namespace Go.Proofs.Ytakfoejcjdcgbaa
open Go.RowKit Go.Sort
theorem sE(w:World)(b o:Nat)(d:Array Int):(putRow (Value.int .i64) w b o d).heap.size=w.heap.size:=by simp[putRow,mapBlock]
theorem yi{w:World}{b:Nat}{zs:List Int}(h:∀j,j<zs.length->w.cell? ⟨b,j,none⟩=some (Ao (zs.getD j 0))/\w.frozen? ⟨b,j,none⟩=false):Holds (Value.int .i64) w b 0 zs.toArray:=by
 intro j hj
 have hj:j<zs.length:=by simpa using hj
 rw[Nat.zero_add];refine⟨(h j hj).1.trans ?_,(h j hj).2⟩;simp[Ao,hj,oGD]
theorem uy{w:World}{b:Nat}{zs:List Int}(hz:zs≠[])(q:Nat){j:Nat}(hj:j<w.heap.size)(os:Array Obj):(Sort.grow (putRow (Value.int .i64) (Sort.ahead w q) b 0 zs.toArray) os).heap[j]?=(w.setCells b 0 (zs.map Ao)).heap[j]?:=by
 rw[show zs.map Ao=zs.map λz=>Value.int .i64 z from rfl,ux w b hz];show((putRow (Value.int .i64) w b 0 zs.toArray).heap++os)[j]?=_;exact Array.getElem?_append_left (by rw[sE];exact hj)
theorem Dr:EU Try.prog 1 28:=by
 refine⟨je Try.func28 (by kernel_rfl) rfl,λa w=>Any.slices_Sort_int_none Cb a 0 w,λb cap zs w hz U7 hc hm hb hcell=>?_⟩;refine(Any.slices_Sort_int Cb b 0 cap zs w (yi hcell) hb U7).mono ?_;rintro e w' ⟨rfl,n,os,rfl⟩;refine⟨rfl,rfl,rfl,rfl,?_,λj hj=>?_⟩
 ·show _<=((putRow (Value.int .i64) w b 0 _).heap++os).size;rw[Array.size_append,sE];exact Nat.le_add_right _ _
 ·exact uy (zs:=pK 1 zs) (λh=>hz (oEN (by rw[<- jv 1,h];rfl))) n hj os
theorem wX:EU Try.prog 2 30:=by
 refine⟨je Try.func30 (by kernel_rfl) rfl,λa w=>Any.slices_Compact_int_empty Ca a 0 w,λb cap zs w hz U7 hc hm hb hcell=>?_⟩;refine(Any.slices_Compact_int Ca b 0 cap zs w (yi hcell) (by omega) hc).mono ?_;rintro e w' ⟨rfl,n,rfl⟩;refine⟨rfl,rfl,rfl,rfl,?_,λj hj=>?_⟩
 ·show _<=(putRow (Value.int .i64) w b 0 _).heap.size;rw[sE];exact Nat.le_refl _
 ·have h:=uy (w:=w) (b:=b) (zs:=pK 2 zs) (λh=>hz (oEN (by rw[<- jv 2,h];rfl))) n hj #[];rw[<- h];show _=((putRow (Value.int .i64) (Sort.ahead w n) b 0 _).heap++#[])[j]?;rw[Array.append_empty];rfl
end Go.Proofs.Ytakfoejcjdcgbaa
namespace Go.Proofs.Ytakfoejcjdcgbaa
open Go.RowKit
theorem Jb:(Try.prog.funcs.all λfn=>!(fn.name=="runtime.NumGoroutine"))=true:=by kernel_rfl
theorem zE:gt Try.prog 7:=by
 obtain⟨fn,hf,hb⟩:∃fn,Try.prog.funcs[7]?=some fn/\fn.body.isSome=true:=by
  have hs:(match Try.prog.funcs[7]? with|some fn=>fn.body.isSome|none=>false)=true:=by kernel_rfl
  cases h:Try.prog.funcs[7]? with
  |none=>rw[h]at hs;cases hs
  |some fn=>rw[h]at hs;exact⟨fn,rfl,hs⟩
 obtain⟨c,hc⟩:=Option.isSome_iff_exists.1 hb;refine je hf ?_ hc;obtain⟨hlt,he⟩:=Array.getElem?_eq_some_iff.1 hf;have:=Array.all_eq_true.1 Jb 7 hlt;rw[he]at this;simpa using this
def Hj(x:Value)(w:World)(e:Ending)(w':World):Prop:=e=.returned (.pointer (some ⟨w.heap.size,0,none⟩))/\w'=w.alloc (.cells #[x,.int .i64 0] 59)
theorem Gv(x:Value)(hx:x.oneCell'=true)(w:World):
 Calls Try.prog 7 #[x] w (Hj x w):=by
 cases x
 all_goals first
  |(go_enter Try.func7,Try.ntmps7
    go_wp2
    go_ret
    exact⟨rfl,rfl⟩)
  |simp[Value.oneCell']at hx
theorem Iz:ua Try.prog E0:=by
 intro f n tm h;simp only[E0]at h;split at h
 ·rename_i e;subst e
  injection h with h
  injection h with h1 h2
  subst h1 h2;refine⟨zE,λx hx=>?_,59,λl2 w hl Zs=>?_⟩
  ·simp only[List.mem_cons,List.not_mem_nil,or_false]at hx;rcases hx with hx|hx
   ·injection hx
   ·injection hx with hx;rw[hx];rfl
  ·match l2,hl with
   | [x],_=>exact Gv x (Zs x (by simp[bxV])) w
 ·simp at h
theorem e0_ok:rC Try.prog E0:=⟨Iz,λf hf=>by
 by_cases h1:f=28
 ·subst h1;exact Dr
 ·by_cases h2:f=30
  ·subst h2;exact wX
  ·exact absurd (show E0.row f=0 from(oIN h1).trans (oIN h2)) hf⟩
def Ok{α:Type}(o:Option α)(Q:α->Prop):Prop:=∃a,o=some a/\Q a
section
variable {α β:Type}
theorem Ok.ret{a:α}{Q:α->Prop}(h:Q a):Ok (some a) Q:=⟨a,rfl,h⟩
theorem Ok.bind{o:Option α}{f:α->Option β}{P:α->Prop}{Q:β->Prop}(h:Ok o P)(h2:∀a,P a->Ok (f a) Q):Ok (o.bind f) Q:=by
 obtain⟨a,rfl,h1⟩:=h
 simp_all
theorem Ok.mono{o:Option α}{P Q:α->Prop}(h:Ok o P)(h2:∀a,P a->Q a):Ok o Q:=by
 have ⟨a,e,h1⟩:=h;exact⟨a,e,h2 a h1⟩
theorem Ok.cond{c:Bool}{a b:Option α}{Q:α->Prop}(h1:c=true->Ok a Q)(h2:c=false->Ok b Q):Ok (bif c then a else b) Q:=by
 grind
class BP (b:Bool) (P N:outParam Prop):Prop where
 t:b=true->P
 f:b=false->N
theorem Ok.get{l:List α}{i:Nat}{f:α->Option β}{Q:β->Prop}(h:i<l.length)(h2:∀a,l[i]?=some a->Ok (f a) Q):Ok ((dh l i).bind f) Q:=by
 have e:dh l i=some l[i]:=oGE h
 simp_all
theorem Ok.nat{x:Int}{f:Nat->Option β}{Q:β->Prop}(h:0<=x)(h2:∀n:Nat,x=n->Ok (f n) Q):Ok ((dM x).bind f) Q:=by
 obtain⟨n,rfl⟩:∃n:Nat,x=n:=⟨x.toNat,by omega⟩;exact h2 n rfl
theorem Ok.val{v:α}{f:α->Option β}{Q:β->Prop}(h:∀x,x=v->Ok (f x) Q):Ok (f v) Q:=h v rfl
theorem Hp{c:Bool}{a b:Option α}{Q:α->Prop}(hc:c=true)(h1:Ok a Q):Ok (bif c then a else b) Q:=by simp_all
theorem rE{S T:Type}{f:S->Option (S⊕T)}(P:S->Prop)(R:T->Prop)(m:S->Nat){n:Nat}{s:S}(hs:P s)(hm:m s<n)
 (h:∀s,P s->Ok (f s) λr=>match r with|.inl s'=>P s'/\m s'<m s|.inr t=>R t):Ok (bH f n s) R:=by
 induction n generalizing s with
 |zero=>omega
 |succ n ih=>
  have ⟨r,e,hr⟩:=h s hs
  cases r with
  |inl s'=>
   have ⟨t,e2,hq⟩:=ih hr.1 (by omega);exact⟨t,by simp[bH,e];exact e2,hq⟩
  |inr t=>exact⟨t,by simp[bH,e],hr⟩
theorem Ok.loop{S T:Type}{f:S->Option (S⊕T)}{g:T->Option β}{Q:β->Prop}(P:S->Prop)(R:T->Prop)(m:S->Nat){n:Nat}{s:S}(hs:P s)(hm:m s<n)
 (h:∀s,P s->Ok (f s) λr=>match r with|.inl s'=>P s'/\m s'<m s|.inr t=>R t)(hg:∀t,R t->Ok (g t) Q):Ok ((bH f n s).bind g) Q:=(rE P R m hs hm h).bind hg
end
theorem cb{x:Int}(h1:-9223372036854775808<=x)(h2:x<=9223372036854775807):w64 x=x:=wrap_i64 h1 h2
theorem bZ(n:Nat):dM (n:Int)=some n:=rfl
abbrev PID:=Int×Int
theorem df{S T:Type}{f:S->Option (S⊕T)}(st:Nat->S){n N:Nat}{fin:T}(hn:n<N)(h:∀i,i<n->f (st i)=some (.inl (st (i+1))))(he:f (st n)=some (.inr fin)):bH f N (st 0)=some fin:=by
 have ZP:∀k i,i+k=n->k<N->∀M,k<M->bH f M (st i)=some fin:=by
  intro k
  induction k with
  |zero=>
   intro i hi _ M hM;obtain⟨M,rfl⟩:∃m,M=m+1:=⟨M-1,by omega⟩
   have:i=n:=by omega
   subst this;simp[bH,he]
  |succ k ih=>
   intro i hi hk M hM;obtain⟨M,rfl⟩:∃m,M=m+1:=⟨M-1,by omega⟩;simp only[bH,h i (by omega),oBS];exact ih (i+1) (by omega) (by omega) M (by omega)
 exact ZP n 0 (by omega) hn N hn
theorem kf{S T:Type}{f:S->Option (S⊕T)}(st:Nat->S)(p:Nat->Prop){n N:Nat}{bad:Nat->T}{fin:T}(hn:n<N)
 (h:∀i,i<n->(p i/\f (st i)=some (.inl (st (i+1))))\/(¬p i/\f (st i)=some (.inr (bad i))))(he:f (st n)=some (.inr fin)):
 ((∀i,i<n->p i)/\bH f N (st 0)=some fin)\/∃k,k<n/\(∀i,i<k->p i)/\¬p k/\bH f N (st 0)=some (bad k):=by
 have ZP:∀k i,i+k=n->(∀j,j<i->p j)->∀M,k<M->((∀i,i<n->p i)/\bH f M (st i)=some fin)\/∃k,k<n/\(∀i,i<k->p i)/\¬p k/\bH f M (st i)=some (bad k):=by
  intro k
  induction k with
  |zero=>
   intro i hi hp M hM;obtain⟨M,rfl⟩:∃m,M=m+1:=⟨M-1,by omega⟩
   have:i=n:=by omega
   subst this;exact .inl ⟨hp,by simp[bH,he]⟩
  |succ k ih=>
   intro i hi hp M hM;obtain⟨M,rfl⟩:∃m,M=m+1:=⟨M-1,by omega⟩
   rcases h i (by omega)with⟨h1,e⟩|⟨h1,e⟩
   ·simp only[bH,e,oBS]
    exact ih (i+1) (by omega) (λj hj=>by
     by_cases e:j=i
     ·subst e;exact h1
     ·exact hp j (by omega)) M (by omega)
   ·exact .inr ⟨i,by omega,hp,h1,by simp[bH,e]⟩
 exact ZP n 0 (by omega) (λj hj=>by omega) N hn
abbrev Sm{α:Type}(l:List α):Prop:=l.length<=1099511627776
theorem i6{n:Nat}(h:n<=1099511627776):n<NN:=by unfold NN;omega
theorem ct{α:Type}{l:List α}{i:Nat}(h:i<l.length):dh l i=some l[i]:=oGE h
theorem eM{α:Type}{l:List α}{i:Nat}(h:i<l.length):l.take i++[l[i]]=l.take (i+1):=(List.take_append_getElem h)
theorem ck{sz n m:Nat}(h1:n<=1099511627776)(h2:m<=1099511627776)(h3:sz<=128)(h4:n+m<=1099511627776):cn sz n m=true:=by
 unfold cn;have:(n+m)*sz<=1099511627776*128:=Nat.mul_le_mul h4 h3;simp only[oBA,oDE];exact⟨h4,by omega⟩
theorem C7:fv=some (true,()):=rfl
theorem pS{α S T:Type}[DecidableEq α]{a b:List α}(hl:a.length=b.length)(hs:Sm a){f:S->Option (S⊕T)}(st:Nat->S){bad fin:T}
 (step:∀i (h:i<a.length)(h':i<b.length),f (st i)=bif decide (a[i]=b[i])then some (.inl (st (i+1)))else some (.inr bad))(he:f (st a.length)=some (.inr fin)):
 bH f NN (st 0)=some (bif decide (a=b)then fin else bad):=by
 rcases kf (f:=f) st (λi=>a[i]?=b[i]?) (bad:=λ_=>bad) (i6 hs) (λi hi=>by
  rw[step i hi (hl▸hi),oGE hi,oGE (hl▸hi)];by_cases e:a[i]=b[i]'(hl▸hi)
  ·exact .inl ⟨by rw[e],by rw[oDT e];rfl⟩
  ·exact .inr ⟨λh=>e (by injection h),by rw[oDF e];rfl⟩) he with⟨h1,h2⟩|⟨k,hk,_,h1,h2⟩
 ·rw[h2,oDT (p:=a=b)]
  ·rfl
  ·exact List.ext_getElem? λi=>by
    by_cases hi:i<a.length
    ·exact h1 i hi
    ·rw[oGN (by omega),oGN (by omega)]
 ·rw[h2,oDF λe=>h1 (by rw[e])];rfl
theorem BW{α:Type}{a b:List α}(h:a.length=b.length):((a.length:Int) != (b.length:Int))=false:=by simp;omega
theorem wm{α:Type}{a b:List α}(h:¬a.length=b.length):((a.length:Int) != (b.length:Int))=true:=by simp;omega
theorem tR{α:Type}(b:Bool)(x y:α):(bif !b then x else y)=bif b then y else x:=by cases b<;>rfl
theorem IH(x y:DCn):(!((x.1==y.1)&&((x.2.1==y.2.1)&&((x.2.2.1==y.2.2.1)&&((x.2.2.2==y.2.2.2)&&true)))))=!decide (x=y):=by
 congr 1;rw[Bool.and_true,Bool.eq_iff_iff];simp[Prod.ext_iff]
theorem rR{a b:List DCn}(ha:Sm a):dB a b=some (decide (a=b),()):=by
 unfold dB;delta bB;dsimp only;by_cases hl:a.length=b.length
 rotate_left
 ·rw[wm hl,oCT,oDF λe=>hl (by rw[e])]
 rw[BW hl,oCF];have h0:=ha
 have:=pS (f:=cO) hl ha (λi=>(a,b,(i:Int),())) (bad:=.inl (false,())) (fin:=.inr (a,b,(a.length:Int),false,()))
  (λi h h'=>by
   unfold cO;delta bB;dsimp only;rw[oDT (show(i:Int)<a.length by omega),oCT,bZ];simp only[oBS,ct h,ct h',IH,tR];rw[cb (by omega) (by omega)]
   rfl)
  (by
   unfold cO;delta bB;dsimp only;rw[oDF (show ¬(a.length:Int)<a.length by omega)]
   rfl)
 rw[show bH cO NN (a,b,0,())=_ from this];by_cases e:a=b
 ·rw[oDT e];rfl
 ·rw[oDF e];rfl
abbrev PG:=Int×Int×List DCn×DTs
instance JH:DecidableEq DCn:=inferInstance
instance JP:DecidableEq (Int×Int×Int×List DCn):=inferInstance
instance JF:DecidableEq DTs:=inferInstanceAs (DecidableEq (Int×Int×Int×Int×(Int×Int×Int×List DCn)))
instance JG:DecidableEq PG:=inferInstanceAs (DecidableEq (Int×Int×List DCn×DTs))
theorem CR{x y:Int}{p:Prop}[Decidable p]:(bif(x==y)then(some (decide p,()))else some (false,()):Option (Bool×Unit))=some (decide (x=y/\p),()):=by
 by_cases h:x=y
 ·subst h;simp
 ·rw[oBF h,oDF (p:=x=y/\p) λe=>h e.1];rfl
theorem Hv{p q:Prop}[Decidable p][Decidable q]:((some (decide p,())).bind λ(x0,_)=>bif x0 then some (decide q,())else some (false,()):Option (Bool×Unit))=some (decide (p/\q),()):=by
 by_cases h:p<;>by_cases h':q<;>simp[h,h']
theorem C4{o:Option (Bool×Unit)}:(o.bind λ(x0,_)=>some (x0,()))=o:=by
 cases o with
 |none=>rfl
 |some x=>obtain⟨x,⟨⟩⟩:=x;rfl
theorem Br{x y:DTs}(hx:Sm x.2.2.2.2.2.2.2):
 eR x.1 x.2.1 x.2.2.1 x.2.2.2.1 x.2.2.2.2.1 x.2.2.2.2.2.1 x.2.2.2.2.2.2.1 x.2.2.2.2.2.2.2 y.1 y.2.1 y.2.2.1 y.2.2.2.1 y.2.2.2.2.1 y.2.2.2.2.2.1 y.2.2.2.2.2.2.1 y.2.2.2.2.2.2.2=some (decide (x=y),()):=by
 unfold eR;simp only[rR hx,C4,CR];congr 2;rw[decide_eq_decide];simp only[Prod.ext_iff,and_assoc]
abbrev CC:=List (List DCn)
abbrev TT':=List DTs
def szs(C:CC):List Int:=C.map λc=>(c.length:Int)
theorem fR(C:CC):(szs C).length=C.length:=List.length_map _
theorem ui{α β:Type}{f:α->β}{l:List α}{i:Nat}(h:i<l.length):(l.take i).map f++[f l[i]]=(l.take (i+1)).map f:=by
 rw[<- eM h,List.map_append];rfl
theorem FF{C:CC}{T:TT'}(h:Sm C):gJ C T=some (szs C,()):=by
 unfold gJ;delta bB;dsimp only;have h0:=h
 have step:∀i,i<C.length->cL (C,(C.length:Int),(i:Int),C,T,szs (C.take i),())=some (.inl (C,(C.length:Int),((i+1:Nat):Int),C,T,szs (C.take (i+1)),())):=by
  intro i hi;unfold cL;delta bB;dsimp only;rw[oDT (show(i:Int)<C.length by omega),oCT,bZ];simp only[oBS,ct hi];rw[ck (by rw[fR,oLT];omega) (by simp) (by omega) (by rw[fR,oLT,List.length_singleton];omega),oCT,cb (by omega) (by omega)];have:List.append (szs (C.take i)) [((C[i].length:Nat):Int)]=szs (C.take (i+1)):=ui (f:=λc:List DCn=>(c.length:Int)) hi;rw[this];rfl
 have fin:cL (C,(C.length:Int),(C.length:Int),C,T,szs (C.take C.length),())=some (.inr (C,(C.length:Int),(C.length:Int),false,C,T,szs (C.take C.length),())):=by
  unfold cL;dsimp only;rw[oDF (show ¬(C.length:Int)<C.length by omega)];rfl
 have:=df (f:=cL) (λi=>(C,(C.length:Int),(i:Int),C,T,szs (C.take i),())) (i6 h) step fin;rw[show bH cL NN (C,(C.length:Int),0,C,T,[],())=_ from this,List.take_length,oBS]
def okZ(z:Int):Bool:=decide (1<=z/\z<=32)
theorem Az(z:Int):fu z=some (okZ z,()):=by
 unfold fu okZ;by_cases h:z>=1
 ·rw[oDT h,oCT];congr 2;rw[decide_eq_decide];omega
 ·rw[oDF h,oCF,oDF (by omega)]
def shp(C:CC)(T:TT'):Prop:=C.length<=4/\T.length<=4/\∀c∈C,okZ (c.length:Int)=true
instance {C:CC} {T:TT'}:Decidable (shp C T):=inferInstanceAs (Decidable (_/\_/\_))
theorem EO{α:Type}{p:α->Bool}{l:List α}(h:∀i,(hi:i<l.length)->p l[i]=true):∀x∈l,p x=true:=by
 intro x hx;obtain⟨i,hi,rfl⟩:=List.mem_iff_getElem.1 hx;exact h i hi
theorem Aa{C:CC}(h:Sm C):cw C=some (!decide (∀c∈C,okZ (c.length:Int)=true),()):=by
 unfold cw dz;delta bB;dsimp only;have h0:=h
 have step:∀i,i<C.length->((∀hi:i<C.length,okZ (C[i].length:Int)=true)/\bF (C,(C.length:Int),(i:Int),())=some (.inl (C,(C.length:Int),((i+1:Nat):Int),())))\/
  (¬(∀hi:i<C.length,okZ (C[i].length:Int)=true)/\bF (C,(C.length:Int),(i:Int),())=some (.inr (.inl ((i:Int),())))):=by
  intro i hi;unfold bF;dsimp only;rw[oDT (show(i:Int)<C.length by omega),oCT,bZ]
  have e:eS C[i]=some (!okZ (C[i].length:Int),()):=by
   unfold eS;delta bB;dsimp only;rw[Az];rfl
  simp only[oBS,ct hi,e];rw[cb (by omega) (by omega)];by_cases q:okZ (C[i].length:Int)=true
  ·exact .inl ⟨λ_=>q,by rw[q];rfl⟩
  ·exact .inr ⟨λg=>q (g hi),by rw[Bool.not_eq_true]at q;rw[q];rfl⟩
 have fin:bF (C,(C.length:Int),(C.length:Int),())=some (.inr (.inr (C,(C.length:Int),(C.length:Int),false,()))):=by
  unfold bF;dsimp only;rw[oDF (show ¬(C.length:Int)<C.length by omega)];rfl
 rcases kf (f:=bF) (λi=>(C,(C.length:Int),(i:Int),())) _ (i6 h) step fin with⟨h1,h2⟩|⟨k,hk,_,h1,h2⟩
 ·rw[show bH bF NN (C,(C.length:Int),0,())=_ from h2];rw[oDT (EO (p:=λc:List DCn=>okZ (c.length:Int)) λi hi=>h1 i hi hi)];rfl
 ·rw[show bH bF NN (C,(C.length:Int),0,())=_ from h2];rw[oDF (λg=>h1 λhi=>g _ (List.getElem_mem hi))];simp only[oBS];rw[oDT (show(k:Int)>=0 by omega)];rfl
theorem DL{C:CC}{T:TT'}(h:Sm C):f8 C T=some (decide (shp C T),()):=by
 unfold f8;delta bB;dsimp only;by_cases h1:C.length<=4
 ·rw[oDT (show(C.length:Int)<=4 by omega),oCT];by_cases h2:T.length<=4
  ·rw[oDT (show(T.length:Int)<=4 by omega),oCT,Aa h];simp only[oBS,Bool.not_not];congr 2;rw[decide_eq_decide];exact⟨λg=>⟨h1,h2,g⟩,λg=>g.2.2⟩
  ·rw[oDF (show ¬(T.length:Int)<=4 by omega),oCF,oDF λg=>h2 g.2.1]
 ·rw[oDF (show ¬(C.length:Int)<=4 by omega),oCF,oDF λg=>h1 g.1]
theorem z8{S:List Int}(h:Sm S)(hok:∀z∈S,okZ z=true):cD S=some (false,()):=by
 unfold cD dS;delta bB;dsimp only;have h0:=h
 have step:∀i,i<S.length->bV (S,(S.length:Int),(i:Int),())=some (.inl (S,(S.length:Int),((i+1:Nat):Int),())):=by
  intro i hi;unfold bV;dsimp only;rw[oDT (show(i:Int)<S.length by omega),oCT,bZ]
  have e:f9 S[i]=some (false,()):=by
   unfold f9;rw[Az,hok _ (List.getElem_mem hi)];rfl
  simp only[oBS,ct hi,e];rw[cb (by omega) (by omega)];rfl
 have fin:bV (S,(S.length:Int),(S.length:Int),())=some (.inr (.inr (S,(S.length:Int),(S.length:Int),false,()))):=by
  unfold bV;dsimp only;rw[oDF (show ¬(S.length:Int)<S.length by omega)];rfl
 have:=df (f:=bV) (λi=>(S,(S.length:Int),(i:Int),())) (i6 h) step fin;rw[show bH bV NN (S,(S.length:Int),0,())=_ from this];rfl
theorem vO{C:CC}{T:TT'}:((szs C).length<=4/\T.length<=4/\∀z∈szs C,okZ z=true)↔shp C T:=by
 unfold shp szs;rw[List.length_map];simp
def sf(z:Int):Nat:=((z+7)/8).toNat
def sB(S:List Int)(i:Nat):List PID:=(List.range (sf (S.getD i 0))).map λ(j:Nat)=>((i:Int),(j:Int))
def pgs(S:List Int)(n:Nat):List PID:=(List.range S.length).flatMap (sB S)++(List.range n).map λ(t:Nat)=>(-1,(t:Int))
def Szs(S:List Int):Prop:=S.length<=4/\∀z∈S,okZ z=true
theorem Ax{S:List Int}(h:Szs S){i:Nat}(hi:i<S.length):1<=S[i]/\S[i]<=32:=of_decide_eq_true (h.2 _ (List.getElem_mem hi))
theorem CL{S:List Int}(h:Szs S){i:Nat}(hi:i<S.length):sf (S.getD i 0)<=4:=by
 have:=Ax h hi
 have e:S.getD i 0=S[i]:=by simp[hi]
 rw[e];unfold sf;omega
theorem sG{S:List Int}(h:Szs S):∀i,i<=S.length->((List.range i).flatMap (sB S)).length<=4*i:=by
 intro i
 induction i with
 |zero=>intro _;simp
 |succ i ih=>
  intro hi;rw[List.range_succ,List.flatMap_append,List.length_append];have h1:=ih (by omega)
  have h2:(sB S i).length=sf (S.getD i 0):=by unfold sB;simp
  have h3:=CL h (i:=i) (by omega);simp only[List.flatMap_cons,List.flatMap_nil,List.append_nil];omega
theorem Cx{S:List Int}(i:Nat):(List.range (i+1)).flatMap (sB S)=(List.range i).flatMap (sB S)++sB S i:=by
 rw[List.range_succ,List.flatMap_append];simp
theorem rU{α:Type}(f:Nat->α)(j:Nat):(List.range (j+1)).map f=(List.range j).map f++[f j]:=by
 rw[List.range_succ,List.map_append];rfl
theorem Fd{z:Int}(h:1<=z/\z<=32)(j:Nat):((j:Int)*8<z)↔j<sf z:=by
 unfold sf;omega
theorem B5{S:List Int}{n:Nat}(h:Szs S)(hn:n<=4):d8 S n=some (pgs S n,0,()):=by
 unfold d8;delta bB;dsimp only;have h4:=h.1;rw[oDF (show ¬(S.length:Int)>4 by omega),oCF,oDF (show ¬(n:Int)>4 by omega),oCF,oDF (show ¬(n:Int)<0 by omega),oCF];rw[z8 (by unfold Sm;omega) h.2,oBS];simp only[oCF]
 have Tx:∀i,i<S.length->c8 ((n:Int),S,(S.length:Int),(i:Int),(List.range i).flatMap (sB S),())=some (.inl ((n:Int),S,(S.length:Int),((i+1:Nat):Int),(List.range (i+1)).flatMap (sB S),())):=by
  intro i hi;have hz:=Ax h hi;have hl:=sG h i (by omega);have hc:=CL h hi
  have eg:S.getD i 0=S[i]:=by simp[hi]
  unfold c8;dsimp only;rw[oDT (show(i:Int)<S.length by omega),oCT,bZ];simp only[oBS,ct hi]
  let A:=(List.range i).flatMap (sB S)
  let st:Nat->_:=λj=>((n:Int),(i:Int),S[i],(j:Int),S,(S.length:Int),(i:Int),A++(List.range j).map (λ(j:Nat)=>(((i:Int),(j:Int)):PID)),())
  have Tw:∀j,j<sf S[i]->cG (st j)=some (.inl (st (j+1))):=by
   intro j hj;show cG ((n:Int),(i:Int),S[i],(j:Int),S,(S.length:Int),(i:Int),A++(List.range j).map (λ(j:Nat)=>(((i:Int),(j:Int)):PID)),())=_;unfold cG;dsimp only;rw[eg]at hc;rw[cb (x:=(j:Int)*8) (by omega) (by omega),oDT ((Fd hz j).2 hj),oCT];have hA:A.length<=4*i:=hl;rw[ck (by rw[List.length_append,List.length_map,List.length_range];omega) (by simp) (by omega) (by rw[List.length_append,List.length_map,List.length_range,List.length_singleton];omega),oCT,cb (by omega) (by omega)]
   have e:List.append (A++(List.range j).map (λ(j:Nat)=>(((i:Int),(j:Int)):PID))) [((i:Int),(j:Int))]=A++(List.range (j+1)).map (λ(j:Nat)=>(((i:Int),(j:Int)):PID)):=by
    rw[rU,<- List.append_assoc];rfl
   rw[e];rfl
  have PJ:cG (st (sf S[i]))=some (.inr ((n:Int),(i:Int),S[i],(sf S[i]:Int),S,(S.length:Int),(i:Int),false,A++(List.range (sf S[i])).map (λ(j:Nat)=>(((i:Int),(j:Int)):PID)),())):=by
   show cG ((n:Int),(i:Int),S[i],(sf S[i]:Int),S,(S.length:Int),(i:Int),A++(List.range (sf S[i])).map (λ(j:Nat)=>(((i:Int),(j:Int)):PID)),())=_;unfold cG;dsimp only;rw[eg]at hc;rw[cb (x:=(sf S[i]:Int)*8) (by omega) (by omega),oDF (λg=>by have:=(Fd hz _).1 g;omega)];rfl
  have hI:=df (f:=cG) st (n:=sf S[i]) (N:=NN) (by rw[eg]at hc;unfold NN;omega) Tw PJ
  have e0:st 0=((n:Int),(i:Int),S[i],0,S,(S.length:Int),(i:Int),(List.range i).flatMap (sB S),()):=by
   show((n:Int),(i:Int),S[i],(0:Int),S,(S.length:Int),(i:Int),A++[],())=_;rw[List.append_nil]
  rw[<- e0,hI];simp only[oBS];rw[cb (by omega) (by omega),Cx]
  have er:(List.range (sf S[i])).map (λ(j:Nat)=>(((i:Int),(j:Int)):PID))=sB S i:=by unfold sB;rw[eg]
  rw[er];rfl
 have PK:c8 ((n:Int),S,(S.length:Int),(S.length:Int),(List.range S.length).flatMap (sB S),())=some (.inr ((n:Int),S,(S.length:Int),(S.length:Int),false,(List.range S.length).flatMap (sB S),())):=by
  unfold c8;dsimp only;rw[oDF (show ¬(S.length:Int)<S.length by omega)];rfl
 have hO:=df (f:=c8) (λi=>((n:Int),S,(S.length:Int),(i:Int),(List.range i).flatMap (sB S),())) (n:=S.length) (N:=NN) (by unfold NN;omega) Tx PK;rw[show bH c8 NN ((n:Int),S,(S.length:Int),0,[],())=_ from hO];simp only[oBS];have hl:=sG h S.length (Nat.le_refl _)
 let B:=(List.range S.length).flatMap (sB S)
 have hB:B.length<=4*S.length:=hl
 let st:Nat->_:=λt=>((n:Int),(t:Int),B++(List.range t).map (λ(t:Nat)=>((-1,(t:Int)):PID)),())
 have stepT:∀t,t<n->cF (st t)=some (.inl (st (t+1))):=by
  intro t ht;show cF ((n:Int),(t:Int),B++(List.range t).map (λ(t:Nat)=>((-1,(t:Int)):PID)),())=_;unfold cF;dsimp only;rw[oDT (show(t:Int)<n by omega),oCT];rw[ck (by rw[List.length_append,List.length_map,List.length_range];omega) (by simp) (by omega) (by rw[List.length_append,List.length_map,List.length_range,List.length_singleton];omega),oCT,cb (by omega) (by omega)]
  have e:List.append (B++(List.range t).map (λ(t:Nat)=>((-1,(t:Int)):PID))) [(-1,(t:Int))]=B++(List.range (t+1)).map (λ(t:Nat)=>((-1,(t:Int)):PID)):=by
   rw[rU,<- List.append_assoc];rfl
  rw[e];rfl
 have PL:cF (st n)=some (.inr ((n:Int),(n:Int),false,B++(List.range n).map (λ(t:Nat)=>((-1,(t:Int)):PID)),())):=by
  show cF ((n:Int),(n:Int),B++(List.range n).map (λ(t:Nat)=>((-1,(t:Int)):PID)),())=_;unfold cF;dsimp only;rw[oDF (show ¬(n:Int)<n by omega)];rfl
 have hT:=df (f:=cF) st (n:=n) (N:=NN) (by unfold NN;omega) stepT PL
 have e0:st 0=((n:Int),0,B,()):=by
  show((n:Int),(0:Int),B++[],())=_;rw[List.append_nil]
 rw[e0]at hT;rw[hT];rfl
abbrev zTs:DTs:=(0,0,0,0,0,0,0,[])
def pg(C:CC)(T:TT')(p:PID):PG:=if p.1=-1 then(p.1,p.2,[],T.getD p.2.toNat zTs)else(p.1,p.2,((C.getD p.1.toNat []).drop (8*p.2.toNat)).take 8,zTs)
def SmT(T:TT'):Prop:=∀t∈T,Sm t.2.2.2.2.2.2.2
theorem Gy{S:List Int}{i:Nat}{p:PID}:p∈sB S i↔∃j:Nat,j<sf (S.getD i 0)/\p=((i:Int),(j:Int)):=by
 unfold sB;simp only[List.mem_map,List.mem_range];exact⟨λ⟨j,h,e⟩=>⟨j,h,e.symm⟩,λ⟨j,h,e⟩=>⟨j,h,e.symm⟩⟩
theorem j8{S:List Int}{n:Nat}{p:PID}:p∈pgs S n↔(∃i j:Nat,i<S.length/\j<sf (S.getD i 0)/\p=((i:Int),(j:Int)))\/∃t:Nat,t<n/\p=(-1,(t:Int)):=by
 unfold pgs;simp only[List.mem_append,List.mem_flatMap,List.mem_range,Gy,List.mem_map];constructor
 ·rintro(⟨i,hi,j,hj,e⟩|⟨t,ht,e⟩)
  ·exact .inl ⟨i,j,hi,hj,e⟩
  ·exact .inr ⟨t,ht,e.symm⟩
 ·rintro(⟨i,j,hi,hj,e⟩|⟨t,ht,e⟩)
  ·exact .inl ⟨i,hi,j,hj,e⟩
  ·exact .inr ⟨t,ht,e.symm⟩
theorem wg{S:List Int}{n:Nat}(h:Szs S)(hn:n<=4):(pgs S n).length<=20:=by
 have h1:=sG h S.length (Nat.le_refl _);have h2:=h.1;unfold pgs;rw[List.length_append,List.length_map,List.length_range];omega
theorem ur{C:CC}{T:TT'}(h:shp C T):Szs (szs C):=⟨by rw[fR];exact h.1,(vO.2 h).2.2⟩
theorem CN{a:List DCn}(h:Sm a):cN a=some (a,()):=by
 unfold cN;rw[ck (by omega) h (by omega) (by have:=h;omega),oCT];rfl
theorem jt{C:CC}{i:Nat}(h:i<C.length):(szs C).getD i 0=(C[i].length:Int):=by simp[szs,h]
theorem E2{l:List DCn}{a:Nat}(h:a<=l.length):Fy l a (Nat.sub (Nat.min (a+8) l.length) a)=(l.drop a).take 8:=by
 unfold Fy;rcases Nat.le_total (a+8) l.length with h1|h1
 ·rw[show Nat.min (a+8) l.length=a+8 from Nat.min_eq_left h1,show Nat.sub (a+8) a=8 by show a+8-a=8;omega]
 ·rw[show Nat.min (a+8) l.length=l.length from Nat.min_eq_right h1,show Nat.sub l.length a=(l.drop a).length by rw[List.length_drop];rfl,List.take_length,List.take_of_length_le (by rw[List.length_drop];omega)]
theorem B0(a b:Nat):mmR false (a:Int) (b:Int)=(Nat.min a b:Nat):=by
 unfold mmR;simp only[Bool.false_eq_true,if_false];show _=((min a b:Nat):Int);split<;>omega
theorem xZ{c:List DCn}{j:Nat}(h:j<sf (c.length:Int)):8*j<c.length:=by
 unfold sf at h;omega
theorem oe{C:CC}{T:TT'}{i j:Nat}(hi:i<C.length):pg C T ((i:Int),(j:Int))=((i:Int),(j:Int),((C[i].drop (8*j)).take 8),zTs):=by
 unfold pg;rw[oIN (by simp)];simp[hi]
theorem gl{C:CC}{T:TT'}{t:Nat}(ht:t<T.length):pg C T (-1,(t:Int))=(-1,(t:Int),[],T[t]):=by
 unfold pg;rw[oIP rfl];simp[ht]
def Jl(x:PG):Int×Int×List DCn×Int×Int×Int×Int×Int×Int×Int×List DCn×Unit:=(x.1,x.2.1,x.2.2.1,x.2.2.2.1,x.2.2.2.2.1,x.2.2.2.2.2.1,x.2.2.2.2.2.2.1,x.2.2.2.2.2.2.2.1,x.2.2.2.2.2.2.2.2.1,x.2.2.2.2.2.2.2.2.2.1,x.2.2.2.2.2.2.2.2.2.2,())
theorem Ji{C:CC}{T:TT'}(h:shp C T)(hT:SmT T){p:PID}(hp:p∈pgs (szs C) T.length):jo C T p.1 p.2=some (Jl (pg C T p)):=by
 unfold jo
 rcases j8.1 hp with⟨i,j,hi,hj,rfl⟩|⟨t,ht,rfl⟩
 ·rw[fR]at hi;rw[jt hi]at hj;have ZT:=xZ hj;have hok:=of_decide_eq_true (h.2.2 _ (List.getElem_mem hi));rw[oBF (show((i:Int))≠-1 by omega),oCF,bZ];simp only[oBS,ct hi];unfold fc;delta bB;dsimp only;rw[oDF (show ¬(j:Int)<0 by omega),oCF,oDF (show ¬(j:Int)>32 by omega),oCF];simp only[oBS];rw[cb (x:=(j:Int)*8) (by omega) (by omega),oDF (show ¬(j:Int)*8>=(C[i].length:Int) by omega),oCF,cb (x:=(j:Int)*8+8) (by omega) (by omega)];rw[show(j:Int)*8=((8*j:Nat):Int) by omega,show((8*j:Nat):Int)+8=((8*j+8:Nat):Int) by omega,B0,bZ,bZ];simp only[oBS]
  have ho:pC (8*j) (Nat.min (8*j+8) C[i].length) C[i].length=true:=by
   unfold pC;have h1:Nat.min (8*j+8) C[i].length=min (8*j+8) C[i].length:=rfl;rw[h1];simp only[oBA,oDE];omega
  rw[ho,oCT,E2 (by omega)];simp only[oBS];rw[CN (by unfold Sm;rw[oLT];omega),oe hi];rfl
 ·have hs:Sm (T[t]'ht).2.2.2.2.2.2.2:=hT _ (List.getElem_mem ht);rw[show((-1:Int)==-1)=true from rfl,oCT,bZ];simp only[oBS,ct ht];unfold jq;rw[CN hs,gl ht];rfl
def JK(C:CC)(T:TT')(D:CC)(U:TT'):Prop:=shp C T/\shp D U/\szs C=szs D/\T.length=U.length
theorem Jd{x n:Int}(hn:0<n)(WA:n<=1099511627776):∃y,oY x n=some (y,())/\0<=y/\y<n:=by
 unfold oY lK;rw[bne_iff_ne.2 (show n≠0 by omega),oCT];have h1:=Int.lt_tmod_of_pos x hn;have h2:=Int.tmod_lt_of_pos x hn;dsimp only;by_cases h:Int.tmod x n<0
 ·rw[oDT h,oCT,cb (by omega) (by omega)];exact⟨_,rfl,by omega,by omega⟩
 ·rw[oDF h,oCF];exact⟨_,rfl,by omega,by omega⟩
theorem fG{n:Int}(hn:0<n)(WA:n<=1099511627776){l:List Int}(hl:l.length<=400){k:Int}(hk:0<=k):∃x k',bI n l k=some (x,l,k',())/\0<=x/\x<n/\0<=k':=by
 unfold bI;delta bB;dsimp only;by_cases h:k>=l.length
 ·rw[oDT h,oCT];exact⟨0,k,rfl,by omega,hn,hk⟩
 ·rw[oDF h,oCF,cb (x:=k+1) (by omega) (by omega),cb (by omega) (by omega)];obtain⟨i,rfl⟩:∃i:Nat,k=i:=⟨k.toNat,by omega⟩
  have hi:i<l.length:=by omega
  rw[show(i:Int)+1-1=i by omega,bZ];simp only[oBS,ct hi];obtain⟨y,e,h1,h2⟩:=Jd (x:=l[i]) hn WA;rw[e];exact⟨y,(i:Int)+1,rfl,h1,h2,by omega⟩
def md(C:CC)(T:TT'):Prop:=1<=C.length/\shp C T/\SmT T
theorem EB{v:DTs}(h:Sm v.2.2.2.2.2.2.2):fZ v.1 v.2.1 v.2.2.1 v.2.2.2.1 v.2.2.2.2.1 v.2.2.2.2.2.1 v.2.2.2.2.2.2.1 v.2.2.2.2.2.2.2=some (v.1,v.2.1,v.2.2.1,v.2.2.2.1,v.2.2.2.2.1,v.2.2.2.2.2.1,v.2.2.2.2.2.2.1,v.2.2.2.2.2.2.2,()):=by
 unfold fZ;rw[ck (by omega) h (by omega) (by have:=h;omega),oCT];rfl
theorem IF{C:CC}{T:TT'}(h:shp C T)(hT:SmT T):ix C T=some (C,T,()):=by
 unfold ix;have h4:=h.1
 have step:∀i,i<C.length->cY ((i:Int),C,T,(),(),C.take i,(),())=some (.inl (((i+1:Nat):Int),C,T,(),(),C.take (i+1),(),())):=by
  intro i hi;have hok:=of_decide_eq_true (h.2.2 _ (List.getElem_mem hi));unfold cY;delta bB;dsimp only;rw[oDT (show(i:Int)<C.length by omega),oCT,bZ];simp only[oBS,ct hi];rw[ck (by omega) (by omega) (by omega) (by omega),oCT,ck (by rw[oLT];omega) (by simp) (by omega) (by rw[oLT,List.length_singleton];omega),oCT,cb (by omega) (by omega),<- eM hi];rfl
 have fin:cY ((C.length:Int),C,T,(),(),C.take C.length,(),())=some (.inr ((C.length:Int),false,C,T,(),(),C.take C.length,(),())):=by
  unfold cY;delta bB;dsimp only;rw[oDF (show ¬(C.length:Int)<C.length by omega)];rfl
 have:=df (f:=cY) (λi=>((i:Int),C,T,(),(),C.take i,(),())) (n:=C.length) (N:=NN) (by unfold NN;omega) step fin;rw[show bH cY NN (0,C,T,(),(),[],(),())=_ from this,List.take_length,oBS];dsimp only;have t4:=h.2.1
 have Tv:∀i,i<T.length->cX ((i:Int),C,T,(),(),C,T.take i,())=some (.inl (((i+1:Nat):Int),C,T,(),(),C,T.take (i+1),())):=by
  intro i hi;unfold cX;delta bB;dsimp only;rw[oDT (show(i:Int)<T.length by omega),oCT,bZ];simp only[oBS,ct hi,EB (hT _ (List.getElem_mem hi))];rw[ck (by rw[oLT];omega) (by simp) (by omega) (by rw[oLT,List.length_singleton];omega),oCT,cb (by omega) (by omega),<- eM hi];rfl
 have PI:cX ((T.length:Int),C,T,(),(),C,T.take T.length,())=some (.inr ((T.length:Int),false,C,T,(),(),C,T.take T.length,())):=by
  unfold cX;delta bB;dsimp only;rw[oDF (show ¬(T.length:Int)<T.length by omega)];rfl
 have:=df (f:=cX) (λi=>((i:Int),C,T,(),(),C,T.take i,())) (n:=T.length) (N:=NN) (by unfold NN;omega) Tv PI;rw[show bH cX NN (0,C,T,(),(),C,[],())=_ from this,List.take_length];rfl
def ub(C:CC)(T:TT')(D:CC)(U:TT'):Prop:=szs D=szs C/\U.length=T.length/\SmT U
theorem mI{C:CC}{T:TT'}{D:CC}{U:TT'}(h:ub C T D U)(hs:shp C T):shp D U:=by
 rw[<- vO,h.1,h.2.1];exact vO.2 hs
theorem iU{C D:CC}(h:szs D=szs C):D.length=C.length:=by rw[<- fR D,h,fR]
theorem rH{C D:CC}(h:szs D=szs C){i:Nat}(hi:i<C.length)(ZH:i<D.length):D[i].length=C[i].length:=by
 have e1:=jt hi;have e2:=jt ZH;rw[h,e1]at e2;omega
theorem yR{C:CC}{i:Nat}{f:List DCn->List DCn}(h:∀c,(f c).length=c.length):szs (C.modify i f)=szs C:=by
 unfold szs;apply List.ext_getElem?;intro j;rw[List.getElem?_map,List.getElem?_map,List.getElem?_modify]
 cases C[j]? with
 |none=>simp
 |some c=>
  simp only[oMS];split
  ·simp[h]
  ·simp
theorem rM{T:TT'}{i:Nat}{v:DTs}(h:SmT T)(hv:Sm v.2.2.2.2.2.2.2):SmT (T.modify i λ_=>v):=by
 intro t ht;obtain⟨j,hj⟩:=List.mem_iff_getElem?.1 ht;rw[List.getElem?_modify]at hj
 cases e:T[j]? with
 |none=>rw[e]at hj;simp at hj
 |some u=>
  rw[e]at hj;have hj:some (if i=j then v else u)=some t:=hj
  injection hj with hj
  split at hj
  ·rw[<- hj];exact hv
  ·rw[<- hj];exact h _ (List.mem_of_getElem? e)
theorem Jm(l:List Int):oZ l=some (decide (l.length<=400),()):=by
 unfold oZ;delta bB;dsimp only;congr 2;rw[decide_eq_decide];omega
theorem pU{C:CC}{T:TT'}(h:md C T):ub C T C T:=⟨rfl,rfl,h.2.2⟩
theorem r6{C:CC}{T:TT'}{D:CC}{U:TT'}(h:md C T)(h1:ub C T D U):md D U:=⟨by rw[iU h1.1];exact h.1,mI h1 h.2.1,h1.2.2⟩
theorem rZ{C:CC}{T:TT'}{D:CC}{U:TT'}{E:CC}{V:TT'}(h1:ub C T D U)(h2:ub D U E V):ub C T E V:=⟨h2.1.trans h1.1,h2.2.1.trans h1.2.1,h2.2.2⟩
theorem ye{S T:Type}{f:S->Option (S⊕T)}(P:Nat->S->Prop)(R:T->Prop){n:Nat}(step:∀i s,i<n->P i s->∃s',f s=some (.inl s')/\P (i+1) s')(fin:∀s,P n s->∃t,f s=some (.inr t)/\R t){s:S}(h:P 0 s){N:Nat}(hn:n<N):
 ∃t,bH f N s=some t/\R t:=by
 have ZP:∀k i s,i+k=n->P i s->∀M,k<M->∃t,bH f M s=some t/\R t:=by
  intro k
  induction k with
  |zero=>
   intro i s hi hP M hM;obtain⟨M,rfl⟩:∃m,M=m+1:=⟨M-1,by omega⟩
   obtain rfl:i=n:=by omega
   obtain⟨t,e,hR⟩:=fin s hP;exact⟨t,by simp[bH,e],hR⟩
  |succ k ih=>
   intro i s hi hP M hM;obtain⟨M,rfl⟩:∃m,M=m+1:=⟨M-1,by omega⟩;obtain⟨s',e,MC⟩:=step i s (by omega) hP;obtain⟨t,e2,hR⟩:=ih (i+1) s' (by omega) MC M (by omega);exact⟨t,by simp only[bH,e,oBS];exact e2,hR⟩
 exact ZP n 0 s (by omega) h N hn
theorem Fa{C:CC}{T:TT'}{D:CC}{U:TT'}(h:shp C T)(hT:SmT T):fb C T D U=some (decide (C=D/\T=U),()):=by
 unfold fb;delta bB;dsimp only;by_cases hl:C.length=D.length
 rotate_left
 ·rw[wm hl,oCT,oDF (p:=C=D/\T=U) λe=>hl (by rw[e.1])]
 rw[BW hl,oCF];by_cases hm:T.length=U.length
 rotate_left
 ·rw[wm hm,oCT,oDF (p:=C=D/\T=U) λe=>hm (by rw[e.2])]
 rw[BW hm,oCF];have c4:=h.1;have t4:=h.2.1
 have q1:=pS (f:=d7) hl (by unfold Sm;omega) (λi=>((i:Int),C,T,D,U,())) (bad:=.inl (false,())) (fin:=.inr ((C.length:Int),false,C,T,D,U,()))
  (λi h1 h2=>by
   have hok:=of_decide_eq_true (h.2.2 _ (List.getElem_mem h1));unfold d7;delta bB;dsimp only;rw[oDT (show(i:Int)<C.length by omega),oCT,bZ];simp only[oBS,ct h1,ct h2];rw[rR (by unfold Sm;omega)];simp only[oBS,tR];rw[cb (by omega) (by omega)]
   rfl)
  (by
   unfold d7;delta bB;dsimp only;rw[oDF (show ¬(C.length:Int)<C.length by omega)]
   rfl)
 have q2:=pS (f:=d6) hm (by unfold Sm;omega) (λi=>((i:Int),C,T,D,U,())) (bad:=.inl (false,())) (fin:=.inr ((T.length:Int),false,C,T,D,U,()))
  (λi h1 h2=>by
   unfold d6;delta bB;dsimp only;rw[oDT (show(i:Int)<T.length by omega),oCT,bZ];simp only[oBS,ct h1,ct h2];rw[Br (hT _ (List.getElem_mem h1))];simp only[oBS,tR];rw[cb (by omega) (by omega)]
   rfl)
  (by
   unfold d6;delta bB;dsimp only;rw[oDF (show ¬(T.length:Int)<T.length by omega)]
   rfl)
 rw[show bH d7 NN (0,C,T,D,U,())=_ from q1];by_cases e1:C=D
 rotate_left
 ·rw[oDF e1,oDF (p:=C=D/\T=U) λe=>e1 e.1];rfl
 rw[oDT e1];dsimp only[oCT];rw[show bH d6 NN (0,C,T,D,U,())=_ from q2];by_cases e2:T=U
 ·rw[oDT e2,oDT (p:=C=D/\T=U) ⟨e1,e2⟩];rfl
 ·rw[oDF e2,oDF (p:=C=D/\T=U) λe=>e2 e.2];rfl
theorem BT{C:CC}{T:TT'}{D:CC}{U:TT'}(hs:szs D=szs C)(hU:U.length=T.length)(h:∀q∈pgs (szs C) T.length,pg C T q=pg D U q):C=D/\T=U:=by
 have hl:=iU hs;constructor
 ·refine List.ext_getElem hl.symm λi h1 h2=>?_;have hlen:=rH hs h1 h2;apply List.ext_getElem?;intro k;by_cases hk:k<C[i].length
  rotate_left
  ·rw[oGN (by omega),oGN (by omega)]
  have hq:((i:Int),((k/8:Nat):Int))∈pgs (szs C) T.length:=by
   refine j8.2 (.inl ⟨i,k/8,by rw[fR];exact h1,?_,rfl⟩);rw[jt h1];unfold sf;omega
  have e:=h _ hq;rw[oe h1,oe h2]at e;have e1:(C[i].drop (8*(k/8))).take 8=(D[i].drop (8*(k/8))).take 8:=congrArg (λx:PG=>x.2.2.1) e;have e2:=congrArg (λx:List DCn=>x[k%8]?) e1;simp only[List.getElem?_take,List.getElem?_drop]at e2;rw[oIP (Nat.mod_lt _ (by omega)),oIP (Nat.mod_lt _ (by omega)),Nat.div_add_mod]at e2;exact e2
 ·refine List.ext_getElem hU.symm λt h1 h2=>?_;have e:=h (-1,(t:Int)) (j8.2 (.inr ⟨t,h1,rfl⟩));rw[gl h1,gl h2]at e;exact congrArg (λx:PG=>x.2.2.2) e
theorem rL{c x:List DCn}{a k:Nat}(h:a+x.length<=c.length):(fS c a x.length x)[k]?=if k<a then c[k]? else if k<a+x.length then x[k-a]? else c[k]?:=by
 unfold fS;rw[List.take_length];by_cases h1:k<a
 ·rw[oIP h1,List.append_assoc,List.getElem?_append_left (by rw[oLT];omega),List.getElem?_take,oIP h1]
 ·rw[oIN h1];by_cases h2:k<a+x.length
  ·rw[oIP h2,List.getElem?_append_left (by rw[List.length_append,oLT];omega),List.getElem?_append_right (by rw[oLT];omega),oLT,Nat.min_eq_left (by omega)]
  ·rw[oIN h2,List.getElem?_append_right (by rw[List.length_append,oLT];omega),List.length_append,oLT,Nat.min_eq_left (by omega),List.getElem?_drop];congr 1;omega
theorem yT{c x:List DCn}{a:Nat}(h:a+x.length<=c.length):(fS c a x.length x).length=c.length:=by
 unfold fS;rw[List.take_length,List.length_append,List.length_append,oLT,List.length_drop,Nat.min_eq_left (by omega)];omega
theorem Bf{α:Type}{l:List α}{i:Nat}{x:α}:l.set i x=l.modify i λ_=>x:=by
 apply List.ext_getElem?;intro k;rw[List.getElem?_set,List.getElem?_modify];by_cases e:i=k
 ·subst e;by_cases h:i<l.length
  ·simp[h]
  ·simp[h]
 ·simp[e]
theorem Ih{c:List DCn}{j:Nat}(hc:c.length<=32)(h:8*j<c.length):fc c (j:Int)=some ((c.drop (8*j)).take 8,()):=by
 unfold fc;delta bB;dsimp only;rw[oDF (show ¬(j:Int)<0 by omega),oCF,oDF (show ¬(j:Int)>32 by omega),oCF];simp only[oBS];rw[cb (x:=(j:Int)*8) (by omega) (by omega),oDF (show ¬(j:Int)*8>=(c.length:Int) by omega),oCF,cb (x:=(j:Int)*8+8) (by omega) (by omega)];rw[show(j:Int)*8=((8*j:Nat):Int) by omega,show((8*j:Nat):Int)+8=((8*j+8:Nat):Int) by omega,B0,bZ,bZ];simp only[oBS]
 have ho:pC (8*j) (Nat.min (8*j+8) c.length) c.length=true:=by
  unfold pC;have h1:Nat.min (8*j+8) c.length=min (8*j+8) c.length:=rfl;rw[h1];simp only[oBA,oDE];omega
 rw[ho,oCT,E2 (by omega)]
theorem Fh{C:CC}{T:TT'}(h:shp C T){p:PID}(hp:p∈pgs (szs C) T.length):gj C T p.1 p.2=some (0,()):=by
 have h4:=h.1;unfold gj;rw[DL (show Sm C by unfold Sm;omega),oBS];dsimp only;rw[oDT h,oNT,oCF]
 have ht:gI C T p.1 p.2=some (true,()):=by
  unfold gI
  rcases j8.1 hp with⟨i,j,hi,hj,rfl⟩|⟨t,ht,rfl⟩
  ·rw[fR]at hi;rw[jt hi]at hj;have ZT:=xZ hj;have hok:=of_decide_eq_true (h.2.2 _ (List.getElem_mem hi));delta bB;dsimp only;rw[oBF (show((i:Int))≠-1 by omega),oCF,oDT (show(i:Int)>=0 by omega),oCT,oDT (show(i:Int)<(C.length:Int) by omega),oCT,bZ];simp only[oBS,ct hi];rw[Ih (by omega) ZT,oBS];dsimp only;rw[oDT];simp only[oLT,List.length_drop];omega
  ·delta bB;dsimp only;rw[show((-1:Int)==-1)=true from rfl,oCT,oDT (show(t:Int)>=0 by omega),oCT,oDT (show(t:Int)<(T.length:Int) by omega)]
 rw[ht];rfl
theorem Eu(C:CC)(T:TT')(a b:Int):dk C T a b=gj C T a b:=by kernel_rfl
theorem Fi{C:CC}{T:TT'}(h:shp C T){p:PID}(hp:p∈pgs (szs C) T.length):dk C T p.1 p.2=some (0,()):=(Eu C T p.1 p.2).trans (Fh h hp)
theorem E8{C:CC}{T:TT'}(h:md C T){x y:List DCn}(hx:Sm x)(hy:Sm y):Bo C T x y=true:=by
 have h1:=h.2.1.1;have h2:=h.2.1.2.1;simp only[Bo,oBA,oDE,List.all_eq_true];refine⟨⟨⟨⟨⟨by omega,λc hc=>?_⟩,by omega⟩,λt ht=>h.2.2 t ht⟩,hx⟩,hy⟩;have:=of_decide_eq_true (h.2.1.2.2 c hc);omega
theorem I8{C:CC}{T:TT'}{D:CC}{U:TT'}(h:md C T)(hL:ub C T D U){p:PID}(hp:p∈pgs (szs C) T.length):
 ∃(C':CC)(T':TT'),cj C T (pg D U p).1 (pg D U p).2.1 (pg D U p).2.2.1 (pg D U p).2.2.2.1 (pg D U p).2.2.2.2.1 (pg D U p).2.2.2.2.2.1 (pg D U p).2.2.2.2.2.2.1 (pg D U p).2.2.2.2.2.2.2.1 (pg D U p).2.2.2.2.2.2.2.2.1 (pg D U p).2.2.2.2.2.2.2.2.2.1 (pg D U p).2.2.2.2.2.2.2.2.2.2=some (C',T',0,())/\
  ub C T C' T'/\∀q∈pgs (szs C) T.length,pg C' T' q=if q=p then pg D U p else pg C T q:=by
 have Lv:=h.2.1.1;have M7:=iU hL.1
 rcases j8.1 hp with⟨i,j,hi,hj,rfl⟩|⟨t,ht,rfl⟩
 ·rw[fR]at hi
  have ZH:i<D.length:=by omega
  rw[jt hi]at hj;have ZT:=xZ hj;have Yv:=rH hL.1 hi ZH;have hok:=of_decide_eq_true (h.2.1.2.2 _ (List.getElem_mem hi));rw[oe ZH];dsimp only;obtain⟨x,hx⟩:∃x,x=(D[i].drop (8*j)).take 8:=⟨_,rfl⟩
  have Q9:x.length=min 8 (C[i].length-8*j):=by rw[hx,oLT,List.length_drop,Yv]
  rw[<- hx]
  have hrow:iz C[i] j x=fS C[i] (8*j) x.length x:=by
   unfold iz fS;rw[List.take_length]
  have hset:cj C T (i:Int) (j:Int) x 0 0 0 0 0 0 0 []=some (C.modify i λ_=>fS C[i] (8*j) x.length x,T,0,()):=by
   unfold cj;rw[oIP (E8 h (by omega) (by simp)),show dk C T (i:Int) (j:Int)=_ from Fi h.2.1 hp,oBS];dsimp only;rw[oIN (by simp),oIN (by omega),oIP ⟨by omega,by simpa using hi,by omega,by omega,by simp only[oTN];rw[show C.getD i []=C[i] by simp[oGD,hi]];exact ZT⟩];simp only[oTN];rw[show C.getD i []=C[i] by simp[oGD,hi],show eF 0 0 0 0 0 0 0 []=some (true,()) by kernel_rfl,oBS];dsimp only;rw[oIN (by simp;omega),hrow,Bf]
  have hfit:8*j+x.length<=C[i].length:=by omega
  have YU:(C.modify i λ_=>fS C[i] (8*j) x.length x).length=C.length:=oLM ..
  have Z4:∀i' (h1:i'<C.length),(C.modify i λ_=>fS C[i] (8*j) x.length x)[i']'(by rw[YU];exact h1)=if i=i' then fS C[i] (8*j) x.length x else C[i']:=by
   intro i' h1;rw[List.getElem_modify]
  refine⟨_,T,hset,⟨?_,rfl,h.2.2⟩,?_⟩
  ·unfold szs;apply List.ext_getElem?;intro k;rw[List.getElem?_map,List.getElem?_map];by_cases hk:k<C.length
   ·rw[oGE (by rw[YU];exact hk),oGE hk,Z4 k hk];simp only[oMS];by_cases e:i=k
    ·subst e;rw[oIP rfl,yT hfit]
    ·rw[oIN e]
   ·rw[oGN (by rw[YU];omega),oGN (by omega)]
  ·intro q hq
   rcases j8.1 hq with⟨a,b,ha,Z',rfl⟩|⟨t,ht,rfl⟩
   ·rw[fR]at ha;rw[jt ha]at Z';have Z8:=xZ Z';rw[oe (show a<(C.modify i λ_=>fS C[i] (8*j) x.length x).length by rw[YU];exact ha),Z4 a ha,oe ha];by_cases e:i=a
    ·subst e;rw[oIP rfl];by_cases e2:b=j
     ·subst e2;rw[oIP rfl];congr 3;apply List.ext_getElem?;intro k;rw[List.getElem?_take,List.getElem?_drop,rL hfit];by_cases hk:k<8
      ·rw[oIP hk,oIN (by omega)];by_cases hk2:k<x.length
       ·rw[oIP (by omega),show 8*b+k-8*b=k by omega]
       ·rw[oIN (by omega),oGN (by omega),oGN (by omega)]
      ·rw[oIN hk,oGN (by omega)]
     ·rw[oIN (by intro g;injection g with g1 g2;omega)];congr 3;apply List.ext_getElem?;intro k;rw[List.getElem?_take,List.getElem?_drop,List.getElem?_take,List.getElem?_drop,rL hfit];by_cases hk:k<8
      ·rw[oIP hk,oIP hk];by_cases hk3:8*b+k<8*j
       ·rw[oIP hk3]
       ·rw[oIN hk3,oIN (by omega)]
      ·rw[oIN hk,oIN hk]
    ·rw[oIN e,oIN (by intro g;injection g with g1 g2;omega)]
   ·rw[gl ht,oIN (by intro g;injection g with g1 g2;omega),gl ht]
 ·have YT:t<U.length:=by rw[hL.2.1];exact ht
  rw[gl YT];dsimp only
  have hset:cj C T (-1) (t:Int) [] U[t].1 U[t].2.1 U[t].2.2.1 U[t].2.2.2.1 U[t].2.2.2.2.1 U[t].2.2.2.2.2.1 U[t].2.2.2.2.2.2.1 U[t].2.2.2.2.2.2.2=some (C,T.modify t λ_=>U[t],0,()):=by
   unfold cj;rw[oIP (E8 h (by simp) (hL.2.2 _ (List.getElem_mem YT))),show dk C T (-1) (t:Int)=_ from Fi h.2.1 hp,oBS];dsimp only;rw[oIN (by simp),oIP rfl,oIN (by simp),oIP ⟨by omega,by simpa using ht⟩];simp only[oTN];rw[Bf]
  have YU:(T.modify t λ_=>U[t]).length=T.length:=oLM ..
  have Z4:∀i' (h1:i'<T.length),(T.modify t λ_=>U[t])[i']'(by rw[YU];exact h1)=if t=i' then U[t]else T[i']:=by
   intro i' h1;rw[List.getElem_modify]
  refine⟨C,T.modify t λ_=>U[t],hset,⟨rfl,YU,rM h.2.2 (hL.2.2 _ (List.getElem_mem YT))⟩,?_⟩;intro q hq
  rcases j8.1 hq with⟨a,b,ha,Z',rfl⟩|⟨s,hs,rfl⟩
  ·rw[fR]at ha;rw[oe ha,oIN (by intro g;injection g with g1 g2;omega),oe ha]
  ·rw[gl (show s<(T.modify t λ_=>U[t]).length by rw[YU];exact hs),Z4 s hs,gl hs];by_cases e:t=s
   ·subst e;rw[oIP rfl,oIP rfl]
   ·rw[oIN e,oIN (by intro g;injection g with g1 g2;omega)]
def Hy(C:CC)(T:TT')(D:CC)(U:TT')(W:PID->Prop)(C':CC)(T':TT'):Prop:=
 ub C T C' T'/\∀q∈pgs (szs C) T.length,(W q->pg C' T' q=pg D U q)/\(¬W q->pg C' T' q=pg C T q)
theorem xV{C:CC}{T:TT'}{D:CC}{U:TT'}{W W':PID->Prop}{C':CC}{T':TT'}(hP:Hy C T D U W C' T')(h:∀q,W q↔W' q):Hy C T D U W' C' T':=
 ⟨hP.1,λq hq=>⟨λw=>(hP.2 q hq).1 ((h q).2 w),λn=>(hP.2 q hq).2 λw=>n ((h q).1 w)⟩⟩
theorem Jj{C:CC}{T:TT'}(h:shp C T)(hT:SmT T){p:PID}(hp:p∈pgs (szs C) T.length):jp C T p.1 p.2=some ((pg C T p).1,(pg C T p).2.1,(pg C T p).2.2.1,(pg C T p).2.2.2.1,(pg C T p).2.2.2.2.1,(pg C T p).2.2.2.2.2.1,(pg C T p).2.2.2.2.2.2.1,(pg C T p).2.2.2.2.2.2.2.1,(pg C T p).2.2.2.2.2.2.2.2.1,(pg C T p).2.2.2.2.2.2.2.2.2.1,(pg C T p).2.2.2.2.2.2.2.2.2.2,0,()):=by
 unfold jp;rw[Fh h hp,oBS];dsimp only;rw[bne_self_eq_false,oCF,Ji h hT hp];rfl
theorem BO{C:CC}{T:TT'}{D:CC}{U:TT'}(h:md C T)(hL:ub C T D U){W:PID->Prop}{C':CC}{T':TT'}(hP:Hy C T D U W C' T'){p:PID}(hp:p∈pgs (szs C) T.length):
 ∃(C2:CC)(T2:TT'),cj C' T' (pg D U p).1 (pg D U p).2.1 (pg D U p).2.2.1 (pg D U p).2.2.2.1 (pg D U p).2.2.2.2.1 (pg D U p).2.2.2.2.2.1 (pg D U p).2.2.2.2.2.2.1 (pg D U p).2.2.2.2.2.2.2.1 (pg D U p).2.2.2.2.2.2.2.2.1 (pg D U p).2.2.2.2.2.2.2.2.2.1 (pg D U p).2.2.2.2.2.2.2.2.2.2=some (C2,T2,0,())/\
  Hy C T D U (λq=>W q\/q=p) C2 T2:=by
 have h':=r6 h hP.1;have Sc:ub C' T' D U:=⟨hL.1.trans hP.1.1.symm,hL.2.1.trans hP.1.2.1.symm,hL.2.2⟩
 have hp':p∈pgs (szs C') T'.length:=by rw[hP.1.1,hP.1.2.1];exact hp
 obtain⟨C2,T2,e,h1,h2⟩:=I8 h' Sc hp';refine⟨C2,T2,e,rZ hP.1 h1,λq hq=>?_⟩;have h3:=h2 q (by rw[hP.1.1,hP.1.2.1];exact hq);have h4:=hP.2 q hq;by_cases g:q=p
 ·subst g;rw[oIP rfl]at h3;exact⟨λ_=>h3,λn=>absurd (.inr rfl) n⟩
 ·rw[oIN g]at h3;rw[h3];exact⟨λw=>h4.1 (w.resolve_right g),λn=>h4.2 λw=>n (.inl w)⟩
def I4(C:CC)(T:TT')(D:CC)(U:TT')(X:CC)(Y:TT')(L:List PID):Prop:=ub C T D U/\ub C T X Y/\(∀p∈L,p∈pgs (szs C) T.length)/\∀q∈pgs (szs C) T.length,q ∉ L->pg X Y q=pg D U q
theorem I4.done{C:CC}{T:TT'}{D:CC}{U:TT'}{X:CC}{Y:TT'}(h:I4 C T D U X Y []):X=D/\Y=U:=by
 refine BT (h.1.1.trans h.2.1.1.symm) (h.1.2.1.trans h.2.1.2.1.symm) λq hq=>?_;rw[h.2.1.1,h.2.1.2.1]at hq;exact h.2.2.2 q hq (by simp)
abbrev Cls:Type:=Bool×(List Int)×List Int
def Byt(l:List Int):Prop:=∀x∈l,0<=x/\x<=255
theorem si(l:List Int):(n5 l).data.toList=l.map λn=>UInt8.ofNat n.toNat:=by
 have ZP:∀(l:List Int)(r:ByteArray),(l.foldl (λr n=>r.push (UInt8.ofNat n.toNat)) r).data.toList=r.data.toList++l.map λn=>UInt8.ofNat n.toNat:=by
  intro l
  induction l with
  |nil=>intro r;simp
  |cons x l ih=>intro r;rw[List.foldl_cons,ih];simp[ByteArray.push]
 unfold n5;rw[ZP];rfl
theorem yu{a b:List Int}(ha:Byt a)(hb:Byt b):GQ (n5 a) (n5 b)=true↔a=b:=by
 unfold GQ;rw[ByteArray.toList_eq,ByteArray.toList_eq,si,si,beq_iff_eq];refine⟨λh=>?_,λh=>by rw[h]⟩
 induction a generalizing b with
 |nil=>cases b with
  |nil=>rfl
  |cons y b=>simp at h
 |cons x a ih=>
  cases b with
  |nil=>simp at h
  |cons y b=>
   simp only[List.map_cons,List.cons.injEq]at h;have e:=ih (λz hz=>ha z (List.mem_cons_of_mem _ hz)) (λz hz=>hb z (List.mem_cons_of_mem _ hz)) h.2;have p:=ha x List.mem_cons_self;have q:=hb y List.mem_cons_self
   have e0:x.toNat=y.toNat:=by
    have:=congrArg UInt8.toNat h.1;simpa[UInt8.toNat_ofNat',Nat.mod_eq_of_lt (show x.toNat<256 by omega),Nat.mod_eq_of_lt (show y.toNat<256 by omega)]using this
   rw[e,show x=y by omega]
theorem H8{a b:List Int}(ha:Byt a)(hb:Byt b):ga true a true b=some (decide (a=b),()):=by
 unfold ga jr;show some (GQ (n5 a) (n5 b),())=_;by_cases e:a=b
 ·rw[(yu ha hb).2 e,oDT e]
 ·rw[oDF e,Bool.eq_false_iff.2 λh=>e ((yu ha hb).1 h)]
def at_(Q:List Cls)(b:List Int):Nat:=Q.findIdx λc=>decide (b=c.2.1)
theorem IM(Q:List Cls)(b:List Int):at_ Q b<=Q.length:=List.findIdx_le_length
theorem Gs{Q:List Cls}{b:List Int}(hQ:∀c∈Q,c.1=true/\Byt c.2.1)(hb:Byt b)(hs:Sm Q):dl Q true b=some ((at_ Q b:Int),()):=by
 unfold dl dy;delta bB;dsimp only
 rcases kf (f:=bP) (st:=λi=>(Q,true,b,(Q.length:Int),(i:Int),())) (p:=λi=>∀h:i<Q.length,b≠Q[i].2.1) (n:=Q.length) (N:=NN) (bad:=λi=>.inl ((i:Int),())) (fin:=.inr (Q,true,b,(Q.length:Int),(Q.length:Int),false,())) (i6 hs) (λi hi=>by
  have h1:=hQ _ (List.getElem_mem hi)
  have e:bP (Q,true,b,(Q.length:Int),(i:Int),())=if b=Q[i].2.1 then some (.inr (.inl ((i:Int),())))else some (.inl (Q,true,b,(Q.length:Int),((i+1:Nat):Int),())):=by
   unfold bP eW;dsimp only;rw[oDT (show(i:Int)<(Q.length:Int) by omega),oCT,bZ];simp only[oBS];rw[ct hi];simp only[oBS];rw[h1.1,H8 hb h1.2];simp only[oBS];by_cases g:b=Q[i].2.1
   ·rw[oDT g,oCT,oIP g]
   ·rw[oDF g,oCF,oIN g,cb (by omega) (by omega)];rfl
  by_cases g:b=Q[i].2.1
  ·exact .inr ⟨λh=>h hi g,by rw[e,oIP g]⟩
  ·exact .inl ⟨λ_=>g,by rw[e,oIN g]⟩) (by
  unfold bP;dsimp only
  rw[oDF (by omega),oCF])with⟨hp,e⟩|⟨k,hk,hp,hn,e⟩
 ·have e1:at_ Q b=Q.length:=List.findIdx_eq_length_of_false λc hc=>by
   obtain⟨i,hi,rfl⟩:=List.mem_iff_getElem.1 hc;exact oDF (hp i hi hi)
  rw[show bH bP NN (Q,true,b,(Q.length:Int),0,())=_ from e,e1];rfl
 ·have Z':b=Q[k].2.1:=Classical.byContradiction λh=>hn λ_=>h;have e1:at_ Q b=k:=(List.findIdx_eq hk).2 ⟨oDT Z',λj hj=>oDF (hp j hj (by omega))⟩;rw[show bH bP NN (Q,true,b,(Q.length:Int),0,())=_ from e,e1];dsimp only;rw[oBS];dsimp only;rw[oDT (show(k:Int)>=0 by omega),oCT]
def DU(Q:List Cls)(b:List Int)(i:Int):List Cls:=(if at_ Q b=Q.length then Q++[(true,(b,[]))]else Q).modify (at_ Q b) λe=>(e.1,(e.2.1,e.2.2++[i]))
def cls(L:List (List Int)):Nat->List Cls
 |0=>[]
 |i+1=>DU (cls L i) (L.getD i []) i
theorem kS{α:Type}{l:List α}{k:Nat}{f:α->α}{x:α}(h:x∈l.modify k f):x∈l\/∃y∈l,x=f y:=by
 obtain⟨i,hi,rfl⟩:=List.mem_iff_getElem.1 h;rw[List.getElem_modify];split
 ·exact .inr ⟨_,List.getElem_mem _,rfl⟩
 ·exact .inl (List.getElem_mem _)
theorem Fl(L:List (List Int)):∀i,i<=L.length->(cls L i).length<=i/\∀c∈cls L i,c.1=true/\c.2.1∈L/\c.2.2.length<=i:=by
 intro i
 induction i with
 |zero=>intro _;exact⟨Nat.le_refl _,λc hc=>by cases hc⟩
 |succ i ih=>
  intro hi;obtain⟨h1,h2⟩:=ih (by omega)
  have hL:L.getD i []∈L:=by
   rw[oGD,oGE (show i<L.length by omega),Option.getD_some];exact List.getElem_mem _
  have ZK:∀c∈(if at_ (cls L i) (L.getD i [])=(cls L i).length then cls L i++[(true,(L.getD i [],[]))]else cls L i),c.1=true/\c.2.1∈L/\c.2.2.length<=i:=by
   intro c hc;split at hc
   ·rcases List.mem_append.1 hc with h|h
    ·exact h2 c h
    ·rw[List.mem_singleton.1 h];exact⟨rfl,hL,Nat.zero_le _⟩
   ·exact h2 c hc
  refine⟨?_,λc hc=>?_⟩
  ·show(DU _ _ _).length<=_;unfold DU;rw[oLM];split
   ·rw[List.length_append,List.length_singleton];omega
   ·omega
  ·rcases kS hc with h|⟨y,hy,rfl⟩
   ·have:=ZK c h;exact⟨this.1,this.2.1,by omega⟩
   ·have:=ZK y hy;exact⟨this.1,this.2.1,by rw[List.length_append,List.length_singleton];omega⟩
theorem CO{L:List (List Int)}(hn:L.length<=5)(hL:∀b∈L,Byt b/\Sm b):em (L.map λb=>(true,b)) (List.replicate L.length true)=some (cls L L.length,0,()):=by
 unfold em;delta bB;dsimp only;rw[List.length_map,List.length_replicate,oDF (show ¬(L.length:Int)>5 by omega),oCF,bne_self_eq_false,oCF]
 have l0:=df (f:=cP) (st:=λi=>(List.replicate L.length true,L.map (λb=>(true,b)),(L.length:Int),(i:Int),cls L i,())) (n:=L.length) (N:=NN) (fin:=(List.replicate L.length true,L.map (λb=>(true,b)),(L.length:Int),(L.length:Int),false,cls L L.length,())) (i6 (by omega)) (λi hi=>by
  obtain⟨c1,c2⟩:=Fl L i (by omega);have hb:=hL _ (List.getElem_mem hi);unfold cP;dsimp only;rw[oDT (show(i:Int)<(L.length:Int) by omega),oCT,bZ];simp only[oBS];rw[ct (by rw[List.length_map];exact hi)];simp only[oBS,List.getElem_map];rw[ct (by rw[List.length_replicate];exact hi)];simp only[oBS,List.getElem_replicate,oNT,oCF];rw[Gs (λc hc=>⟨(c2 c hc).1,(hL _ (c2 c hc).2.1).1⟩) hb.1 (by unfold Sm;omega)];simp only[oBS];have LC:=IM (cls L i) L[i]
  have WC:cls L (i+1)=(if at_ (cls L i) L[i]=(cls L i).length then cls L i++[(true,(L[i],[]))]else cls L i).modify (at_ (cls L i) L[i]) λe=>(e.1,(e.2.1,e.2.2++[(i:Int)])):=by
   show DU _ _ _=_;rw[oGD,oGE hi,Option.getD_some];rfl
  rw[WC];delta bB
  try dsimp only
  have fin:∀R:List Cls,at_ (cls L i) L[i]<R.length->(∀c∈R,c.2.2.length<=i)->((dM (at_ (cls L i) L[i]:Int)).bind λx12=>
   (dh R x12).bind λx13=>(dh R x12).bind λx14=>(dh R x12).bind λx15=>
   bif(cn 8 (List.length x15.2.2) (List.length [(i:Int)]))then let x16:List (Int):=(List.append x15.2.2 [(i:Int)]);
   (dM (at_ (cls L i) L[i]:Int)).bind λx17=>(dh R x17).bind λx18=>(dh R x17).bind λx19=>
   bif(Nat.beq x17 x12)then let Rr:List (Bool×(List (Int))×List (Int)):=(List.modify R x17 λe=>(e.1,(e.2.1,x16)));
   let x21:Int:=(w64 ((i:Int)+1));
   (some (.inl (List.replicate L.length true,L.map (λb=>(true,b)),(L.length:Int),x21,Rr,())):Option (((List (Bool))×(List (Bool×List (Int)))×Int×Int×(List (Bool×(List (Int))×List (Int)))×Unit)⊕((List (Bool))×(List (Bool×List (Int)))×Int×Int×Bool×(List (Bool×(List (Int))×List (Int)))×Unit)))else none else none)=some (.inl (List.replicate L.length true,L.map (λb=>(true,b)),(L.length:Int),((i+1:Nat):Int),R.modify (at_ (cls L i) L[i]) λe=>(e.1,(e.2.1,e.2.2++[(i:Int)])),())):=by
   intro R hR hm;rw[bZ];simp only[oBS];rw[ct hR];simp only[oBS];have RM:=hm _ (List.getElem_mem hR);rw[ck (by omega) (by simp) (by omega) (by simp;omega),oCT,Nat.beq_refl,oCT,cb (by omega) (by omega)]
   have e9:(R.modify (at_ (cls L i) L[i]) λe=>(e.1,(e.2.1,List.append (R[at_ (cls L i) L[i]]'hR).2.2 [(i:Int)])))=R.modify (at_ (cls L i) L[i]) λe=>(e.1,(e.2.1,e.2.2++[(i:Int)])):=by
    apply List.ext_getElem?;intro k;rw[List.getElem?_modify,List.getElem?_modify];by_cases e:at_ (cls L i) L[i]=k
    ·subst e;rw[oGE hR];simp
    ·simp[e]
   rw[e9];rfl
  by_cases g:at_ (cls L i) L[i]=(cls L i).length
  ·rw[oIP g,beq_iff_eq.2 (show((at_ (cls L i) L[i]:Nat):Int)=((cls L i).length:Int) by omega),oCT,oCT];unfold js;rw[ck (by simp) hb.2 (by omega) (by rw[Nat.zero_add];exact hb.2),oCT];simp only[oBS,List.append_eq,List.nil_append];rw[ck (by omega) (by simp) (by omega) (by simp;omega),oCT];simp only[oBS,List.append_eq]
   exact fin _ (by rw[List.length_append,List.length_singleton];omega) (λc hc=>by
    rcases List.mem_append.1 hc with h|h
    ·exact(c2 c h).2.2
    ·rw[List.mem_singleton.1 h];exact Nat.zero_le _)
  ·rw[oIN g,oBF (show((at_ (cls L i) L[i]:Nat):Int)≠((cls L i).length:Int) by omega),oCF];simp only[oBS]
   exact fin _ (by omega) (λc hc=>(c2 c hc).2.2)) (by
  unfold cP;dsimp only
  rw[oDF (by omega),oCF])
 rw[show bH cP NN (List.replicate L.length true,L.map (λb=>(true,b)),(L.length:Int),0,[],())=_ from l0,oBS]
def lV(L:List (List Int))(b:List Int)(i:Nat):List Int:=((List.range i).filter λj=>decide (L.getD j []=b)).map λj:Nat=>((j:Nat):Int)
theorem kt(L:List (List Int))(b:List Int)(i:Nat):lV L b (i+1)=if L.getD i []=b then lV L b i++[(i:Int)]else lV L b i:=by
 unfold lV;rw[List.range_succ,List.filter_append,List.map_append];by_cases h:L.getD i []=b
 ·rw[oIP h,List.filter_cons_of_pos (by rw[oDT h])];rfl
 ·rw[oIN h,List.filter_cons_of_neg (by rw[oDF h];decide)];simp
theorem pb{L:List (List Int)}{b:List Int}{i:Nat}{x:Int}:x∈lV L b i↔∃j:Nat,j<i/\L.getD j []=b/\x=j:=by
 unfold lV;simp only[List.mem_map,List.mem_filter,List.mem_range,oDE];exact⟨λ⟨j,⟨h1,h2⟩,h3⟩=>⟨j,h1,h2,h3.symm⟩,λ⟨j,h1,h2,h3⟩=>⟨j,⟨h1,h2⟩,h3.symm⟩⟩
theorem Eh(L:List (List Int))(b:List Int)(i:Nat):(lV L b i).length<=i:=by
 unfold lV;rw[List.length_map];exact Nat.le_trans (List.length_filter_le _ _) (by simp)
theorem Eg{L:List (List Int)}{b b':List Int}(h:b≠b'):∀i,(lV L b i).length+(lV L b' i).length<=i:=by
 intro i
 induction i with
 |zero=>simp[lV]
 |succ i ih=>
  rw[kt,kt];by_cases h1:L.getD i []=b
  ·rw[oIP h1,oIN (λh2=>h (h1.symm.trans h2)),List.length_append,List.length_singleton];omega
  ·rw[oIN h1];split
   ·rw[List.length_append,List.length_singleton];omega
   ·omega
theorem Gp{Q:List Cls}{b:List Int}(h:at_ Q b=Q.length)(i:Int):DU Q b i=Q++[(true,(b,[i]))]/\∀c∈Q,c.2.1≠b:=by
 refine⟨?_,λc hc e=>?_⟩
 ·unfold DU;rw[oIP h,h];apply List.ext_getElem?;intro k;rw[List.getElem?_modify];by_cases e:Q.length=k
  ·subst e;simp
  ·rcases Nat.lt_or_ge k Q.length with g|g
   ·rw[List.getElem?_append_left g,List.getElem?_append_left g];simp[e]
   ·rw[oGN (by simp;omega),oGN (by simp;omega)];rfl
 ·have h1:at_ Q b<Q.length:=List.findIdx_lt_length_of_exists ⟨c,hc,oDT e.symm⟩;omega
theorem Gn{Q:List Cls}{b:List Int}(h:at_ Q b<Q.length)(i:Int):DU Q b i=Q.take (at_ Q b)++((Q[at_ Q b]'h).1,((Q[at_ Q b]'h).2.1,(Q[at_ Q b]'h).2.2++[i]))::Q.drop (at_ Q b+1)/\(Q[at_ Q b]'h).2.1=b/\Q=Q.take (at_ Q b)++(Q[at_ Q b]'h)::Q.drop (at_ Q b+1):=by
 refine⟨?_,?_,?_⟩
 ·unfold DU;rw[oIN (by omega),List.modify_eq_take_cons_drop h]
 ·have:=List.findIdx_getElem (xs:=Q) (p:=λc:Cls=>decide (b=c.2.1)) (w:=h);exact(of_decide_eq_true this).symm
 ·rw[List.getElem_cons_drop,List.take_append_drop]
structure Jw (L:List (List Int))(Q:List Cls)(i:Nat):Prop where
 nd:(Q.map λc=>c.2.1).Nodup
 mem:∀c∈Q,c.2.2=lV L c.2.1 i
 all:∀j,j<i->∃c∈Q,c.2.1=L.getD j []
 sum:(Q.map λc=>c.2.2.length).sum=i
theorem GU(L:List (List Int)):∀i,Jw L (cls L i) i:=by
 intro i
 induction i with
 |zero=>exact⟨List.nodup_nil,λc hc=>(by cases hc),λj hj=>absurd hj (Nat.not_lt_zero _),rfl⟩
 |succ i ih=>
  obtain⟨a,b,c,d⟩:=ih;show Jw L (DU (cls L i) (L.getD i []) i) (i+1);generalize cls L i=Q at a b c d;rcases Nat.lt_or_ge (at_ Q (L.getD i [])) Q.length with h|h
  ·obtain⟨e1,e2,e3⟩:=Gn h (i:Int);rw[e1];generalize at_ Q (L.getD i [])=k at h e2 e3;generalize hx:Q[k]=x at e2 e3;generalize hA:Q.take k=A at e3;generalize hB:Q.drop (k+1)=B at e3;subst e3
   have hne:∀c,c∈A\/c∈B->c.2.1≠x.2.1:=by
    intro c hc e;rw[List.map_append,List.map_cons,List.nodup_append]at a;obtain⟨_,a2,a3⟩:=a;rcases hc with hc|hc
    ·exact a3 _ (List.mem_map_of_mem (f:=λc:Cls=>c.2.1) hc) _ List.mem_cons_self e
    ·exact(List.nodup_cons.1 a2).1 (e▸List.mem_map_of_mem (f:=λc:Cls=>c.2.1) hc)
   refine⟨by simpa using a,λc' hc=>?_,λj hj=>?_,?_⟩
   ·rw[kt];rcases List.mem_append.1 hc with h1|h1
    ·rw[oIN (λe=>hne c' (.inl h1) (e.symm.trans e2.symm)),b c' (List.mem_append_left _ h1)]
    ·rcases List.mem_cons.1 h1 with rfl|h1
     ·show x.2.2++[(i:Int)]=if L.getD i []=x.2.1 then _ else _
      rw[oIP e2.symm,b x (List.mem_append_right _ List.mem_cons_self)]
     ·rw[oIN (λe=>hne c' (.inr h1) (e.symm.trans e2.symm)),b c' (List.mem_append_right _ (List.mem_cons_of_mem _ h1))]
   ·by_cases g:j=i
    ·subst g;exact⟨_,List.mem_append_right _ List.mem_cons_self,e2⟩
    ·obtain⟨c',hc,e⟩:=c j (by omega);rcases List.mem_append.1 hc with h1|h1
     ·exact⟨c',List.mem_append_left _ h1,e⟩
     ·rcases List.mem_cons.1 h1 with rfl|h1
      ·exact⟨_,List.mem_append_right _ List.mem_cons_self,e⟩
      ·exact⟨c',List.mem_append_right _ (List.mem_cons_of_mem _ h1),e⟩
   ·simp only[List.map_append,List.map_cons,List.sum_append,List.sum_cons,List.length_append,List.length_singleton]at d⊢;omega
  ·obtain⟨e1,e2⟩:=Gp (Nat.le_antisymm (IM _ _) h) (i:Int);rw[e1];refine⟨?_,λc' hc=>?_,λj hj=>?_,?_⟩
   ·rw[List.map_append,List.nodup_append];refine⟨a,by simp,λx hx y hy=>?_⟩;obtain⟨c',hc,rfl⟩:=List.mem_map.1 hx;rw[List.map_singleton,List.mem_singleton]at hy;subst hy;exact e2 c' hc
   ·rw[kt];rcases List.mem_append.1 hc with h1|h1
    ·rw[oIN (λe=>e2 c' h1 e.symm),b c' h1]
    ·rw[List.mem_singleton.1 h1]
     show[(i:Int)]=if L.getD i []=L.getD i []then _ else _
     rw[oIP rfl]
     have:lV L (L.getD i []) i=[]:=List.eq_nil_iff_forall_not_mem.2 λx hx=>by
      obtain⟨j,h3,h4,_⟩:=pb.1 hx;obtain⟨c2,Zl,e⟩:=c j h3;exact e2 c2 Zl (e.trans h4)
     rw[this];rfl
   ·by_cases g:j=i
    ·subst g;exact⟨_,List.mem_append_right _ (List.mem_singleton.2 rfl),rfl⟩
    ·obtain⟨c',hc,e⟩:=c j (by omega);exact⟨c',List.mem_append_left _ hc,e⟩
   ·simp only[List.map_append,List.map_cons,List.map_nil,List.sum_append,List.sum_cons,List.sum_nil,List.length_singleton];omega
def jw(o c:Cls):Cls:=if c.1=true/\c.2.2.length>o.2.2.length then c else o
theorem BK{c0:Cls}:∀{Q:List Cls},(∀c∈Q,c.2.2.length<=c0.2.2.length)->Q.foldl jw c0=c0:=by
 intro Q
 induction Q with
 |nil=>intro _;rfl
 |cons c Q ih=>
  intro h;rw[List.foldl_cons]
  have e:jw c0 c=c0:=by
   unfold jw;rw[oIN (by have:=h c List.mem_cons_self;omega)]
  rw[e];exact ih λc hc=>h c (List.mem_cons_of_mem _ hc)
theorem BL{c0:Cls}(h0:c0.1=true):∀{Q:List Cls}{o:Cls},c0∈Q->(∀c∈Q,c=c0\/c.2.2.length<c0.2.2.length)->o.2.2.length<c0.2.2.length->Q.foldl jw o=c0:=by
 intro Q
 induction Q with
 |nil=>intro o h;cases h
 |cons c Q ih=>
  intro o hm h ho;rw[List.foldl_cons];have hQ:∀c∈Q,c=c0\/c.2.2.length<c0.2.2.length:=λc hc=>h c (List.mem_cons_of_mem _ hc);rcases h c List.mem_cons_self with rfl|g
  ·have e:jw o c=c:=by
    unfold jw;rw[oIP ⟨h0,ho⟩]
   rw[e]
   exact BK λc' hc=>by
    rcases hQ c' hc with rfl|g
    ·exact Nat.le_refl _
    ·omega
  ·have RM:c0∈Q:=by
    rcases List.mem_cons.1 hm with rfl|h1
    ·omega
    ·exact h1
   refine ih RM hQ ?_;unfold jw;split
   ·exact g
   ·exact ho
theorem IL{Q:List Cls}(hs:Sm Q):jn Q=some ((Q.foldl jw (false,([],[]))).1,(Q.foldl jw (false,([],[]))).2.1,(Q.foldl jw (false,([],[]))).2.2,()):=by
 unfold jn;delta bB;dsimp only
 have l0:=df (f:=eH) (st:=λi=>(Q,(Q.length:Int),(i:Int),false,(),(),((Q.take i).foldl jw (false,([],[]))).1,((Q.take i).foldl jw (false,([],[]))).2.1,((Q.take i).foldl jw (false,([],[]))).2.2,())) (n:=Q.length) (N:=NN) (fin:=(Q,(Q.length:Int),(Q.length:Int),false,false,(),(),((Q.take Q.length).foldl jw (false,([],[]))).1,((Q.take Q.length).foldl jw (false,([],[]))).2.1,((Q.take Q.length).foldl jw (false,([],[]))).2.2,())) (i6 hs) (λi hi=>by
  unfold eH gX;delta bB;dsimp only;rw[oDT (show(i:Int)<(Q.length:Int) by omega),oCT,bZ];simp only[oBS];rw[ct hi];simp only[oBS];rw[<- eM hi,List.foldl_append,List.foldl_cons,List.foldl_nil];generalize(Q.take i).foldl jw (false,([],[]))=o;have hw:w64 ((i:Int)+1)=(i:Int)+1:=cb (by omega) (by unfold Sm at hs;omega);unfold jw
  cases hc:Q[i].1 with
  |true=>
   rw[oCT];simp only[oBS];by_cases g:Q[i].2.2.length>o.2.2.length
   ·rw[oDT (by omega),oCT,oIP ⟨by first|rfl|trivial,g⟩];simp only[oBS];rw[hw,hc];rfl
   ·rw[oDF (by omega),oCF,oIN (λh=>g h.2)];simp only[oBS];rw[hw];rfl
  |false=>
   rw[oCF];simp only[oBS,oCF];rw[oIN (λh=>by cases h.1),hw]
   rfl) (by
  unfold eH;dsimp only
  rw[oDF (by omega),oCF])
 rw[List.take_length]at l0;rw[show bH eH NN (Q,(Q.length:Int),0,false,(),(),false,[],[],())=_ from l0,oBS]
theorem qp{l:List Int}(hs:Sm l)(x:Int):cE l x=some (decide (x∈l),()):=by
 unfold cE ft;delta bB;dsimp only
 rcases kf (f:=ci) (st:=λi=>(l,x,(l.length:Int),(i:Int),())) (p:=λi=>∀h:i<l.length,x≠l[i]) (n:=l.length) (N:=NN) (bad:=λi=>.inl ((i:Int),())) (fin:=.inr (l,x,(l.length:Int),(l.length:Int),false,())) (i6 hs) (λi hi=>by
  have e:ci (l,x,(l.length:Int),(i:Int),())=if x=l[i]then some (.inr (.inl ((i:Int),())))else some (.inl (l,x,(l.length:Int),((i+1:Nat):Int),())):=by
   unfold ci;dsimp only;rw[oDT (show(i:Int)<(l.length:Int) by omega),oCT,bZ];simp only[oBS];rw[ct hi];simp only[oBS];by_cases g:x=l[i]
   ·rw[beq_iff_eq.2 g,oCT,oIP g]
   ·rw[oBF g,oCF,oIN g,cb (by omega) (by unfold Sm at hs;omega)];rfl
  by_cases g:x=l[i]
  ·exact .inr ⟨λh=>h hi g,by rw[e,oIP g]⟩
  ·exact .inl ⟨λ_=>g,by rw[e,oIN g]⟩) (by
  unfold ci;dsimp only
  rw[oDF (by omega),oCF])with⟨hp,e⟩|⟨k,hk,hp,hn,e⟩
 ·rw[show bH ci NN (l,x,(l.length:Int),0,())=_ from e,oDF (show ¬x∈l from λhm=>by
   obtain⟨i,hi,e⟩:=List.mem_iff_getElem.1 hm
   exact hp i hi hi e.symm)]
  rfl
 ·have Z':x=l[k]:=Classical.byContradiction λh=>hn λ_=>h;rw[show bH ci NN (l,x,(l.length:Int),0,())=_ from e,oDT (show x∈l from Z'▸List.getElem_mem hk)];dsimp only;rw[oBS];dsimp only;rw[oDT (show(k:Int)>=0 from Int.natCast_nonneg k)]
def sK(L:List (List Int))(b:List Int)(i:Nat):List Int:=((List.range i).filter λj=>decide (L.getD j []≠b)).map λj:Nat=>((j:Nat):Int)
theorem uK(L:List (List Int))(b:List Int)(i:Nat):sK L b (i+1)=if L.getD i []≠b then sK L b i++[(i:Int)]else sK L b i:=by
 unfold sK;rw[List.range_succ,List.filter_append,List.map_append];by_cases h:L.getD i []=b
 ·rw[oIN (λn=>n h),List.filter_cons_of_neg (by simpa using h),List.filter_nil,List.map_nil,List.append_nil]
 ·rw[oIP h,List.filter_cons_of_pos (by simpa using h)];rfl
theorem pe(L:List (List Int))(b:List Int)(i:Nat):(sK L b i).length+(lV L b i).length=i:=by
 induction i with
 |zero=>simp[sK,lV]
 |succ i ih=>
  rw[uK,kt];by_cases h:L.getD i []=b
  ·rw[oIN (λn=>n h),oIP h,List.length_append,List.length_singleton];omega
  ·rw[oIP h,oIN h,List.length_append,List.length_singleton];omega
theorem Ey{L:List (List Int)}(h1:1<=L.length)(hn:L.length<=5)(hL:∀b∈L,Byt b/\Sm b){b:List Int}(hb:L.length<2*(lV L b L.length).length):
 gG (L.map λb=>(true,b)) (List.replicate L.length true) 1=some ((if sK L b L.length=[]then 1 else 2),b,sK L b L.length,0,()):=by
 obtain⟨nd,mem,all,sum⟩:=GU L L.length;obtain⟨len,ok⟩:=Fl L L.length (Nat.le_refl _)
 obtain⟨j,hj,ej⟩:∃j,j<L.length/\L.getD j []=b:=by
  cases e:lV L b L.length with
  |nil=>rw[e,List.length_nil]at hb;omega
  |cons x r=>
   obtain⟨j,h2,h3,_⟩:=pb.1 (show x∈lV L b L.length by rw[e];exact List.mem_cons_self);exact⟨j,h2,h3⟩
 obtain⟨c0,UI,e0⟩:=all j hj;rw[ej]at e0
 have VC:c0.2.2=lV L b L.length:=by rw[mem c0 UI,e0]
 have t0:c0.1=true:=(ok c0 UI).1
 have hc:c0=(true,(b,lV L b L.length)):=by rw[<- t0,<- e0,<- mem c0 UI]
 have Sn:(cls L L.length).foldl jw (false,([],[]))=c0:=BL t0 UI (λc Zl=>by
  by_cases g:c.2.1=b
  ·left;have e1:=(ok c Zl).1;rw[hc,<- e1,<- g,<- mem c Zl]
  ·right;rw[VC,mem c Zl];have:=Eg (L:=L) g L.length
   omega) (by rw[VC];show 0<_;omega)
 unfold gG;rw[CO hn hL,oBS];dsimp only;rw[bne_self_eq_false,oCF];have es:gW 1=some (true,()):=rfl;rw[es,oBS];delta bB;dsimp only;rw[oNT,oCF];generalize hQ:cls L L.length=Q at *
 have l0:=df (f:=dP) (st:=λi=>(L.map (λb=>(true,b)),List.replicate L.length true,(1:Int),Q,((((Q.take i).map λc=>c.2.2.length).sum:Nat):Int),Q,(Q.length:Int),(i:Int),(0:Int),(),(),Q,())) (n:=Q.length) (N:=NN) (fin:=(L.map (λb=>(true,b)),List.replicate L.length true,(1:Int),Q,((((Q.take Q.length).map λc=>c.2.2.length).sum:Nat):Int),Q,(Q.length:Int),(Q.length:Int),false,(0:Int),(),(),Q,())) (i6 (by omega)) (λi hi=>by
  unfold dP;delta bB;dsimp only;rw[oDT (show(i:Int)<(Q.length:Int) by omega),oCT,bZ];simp only[oBS];rw[ct hi];simp only[oBS]
  have hs:((Q.take (i+1)).map λc=>c.2.2.length).sum=((Q.take i).map λc=>c.2.2.length).sum+Q[i].2.2.length:=by
   rw[<- eM hi];simp only[List.map_append,List.sum_append,List.map_cons,List.map_nil,List.sum_cons,List.sum_nil,Nat.add_zero]
  have Yv:((Q.take i).map λc=>c.2.2.length).sum<=25:=by
   have:∀l:List Cls,(∀c∈l,c.2.2.length<=L.length)->(l.map λc=>c.2.2.length).sum<=l.length*L.length:=by
    intro l
    induction l with
    |nil=>intro _;simp
    |cons c l ih=>
     intro h;rw[List.map_cons,List.sum_cons,oLC,Nat.add_mul];have:=h c List.mem_cons_self;have:=ih λc hc=>h c (List.mem_cons_of_mem _ hc);omega
   have h2:=this (Q.take i) λc hc=>(ok c (List.mem_of_mem_take hc)).2.2;have h3:(Q.take i).length*L.length<=5*5:=Nat.mul_le_mul (by rw[oLT];omega) hn;omega
  have:=(ok _ (List.getElem_mem hi)).2.2;rw[cb (by omega) (by omega),cb (by omega) (by omega),hs,Int.natCast_add]
  rfl) (by
  unfold dP;dsimp only
  rw[oDF (by omega),oCF])
 rw[List.take_length,sum]at l0;rw[show bH dP NN (L.map (λb=>(true,b)),List.replicate L.length true,1,Q,0,Q,(Q.length:Int),0,0,(),(),Q,())=_ from l0,oBS];dsimp only;rw[oDF (show ¬(L.length:Int)<1 by omega),oCF,IL (by unfold Sm;omega),Sn,hc,oBS];dsimp only;have hl:=pe L b L.length;by_cases g:sK L b L.length=[]
 ·rw[g,List.length_nil]at hl;rw[beq_iff_eq.2 (show((lV L b L.length).length:Int)=(L.length:Int) by omega),oCT,oIP g,g]
 ·have g':0<(sK L b L.length).length:=List.length_pos_iff.2 g;rw[oBF (show((lV L b L.length).length:Int)≠(L.length:Int) by omega),oCF,oIN g]
  have en:gF (L.length:Int)=some ((((L.length/2+1:Nat):Nat):Int),()):=by
   unfold gF gW;rw[oDT (show(L.length:Int)>=1 by omega),oCT,oDT (show(L.length:Int)<=5 by omega)];simp only[oBS,oNT,oCF]
   have e:Int.tdiv (L.length:Int) 2=((L.length/2:Nat):Int):=by
    rw[Int.tdiv_eq_ediv_of_nonneg (by omega)];rfl
   rw[e,cb (x:=((L.length/2:Nat):Int)) (by omega) (by omega),cb (by omega) (by omega)];rfl
  rw[en,oBS];dsimp only;rw[oDF (show ¬((lV L b L.length).length:Int)<((L.length/2+1:Nat):Int) by omega),oCF,List.length_map]
  have l2:=df (f:=dO) (st:=λi=>(List.replicate L.length true,(L.length:Int),(i:Int),(0:Int),(),(),true,b,lV L b L.length,(2:Int),b,sK L b i,())) (n:=L.length) (N:=NN) (fin:=(List.replicate L.length true,(L.length:Int),(L.length:Int),false,(0:Int),(),(),true,b,lV L b L.length,(2:Int),b,sK L b L.length,())) (i6 (by omega)) (λi hi=>by
   unfold dO;dsimp only;rw[oDT (show(i:Int)<(L.length:Int) by omega),oCT,bZ];simp only[oBS];rw[ct (by rw[List.length_replicate];exact hi),List.getElem_replicate];simp only[oBS,oCT];rw[qp (by have:=Eh L b L.length;unfold Sm;omega)];simp only[oBS];have hw:w64 ((i:Int)+1)=(i:Int)+1:=cb (by omega) (by omega)
   have hm:((i:Int)∈lV L b L.length)↔L.getD i []=b:=pb.trans ⟨λ⟨j,h1,h2,h3⟩=>by
    obtain rfl:i=j:=by omega
    exact h2,λh=>⟨i,hi,h,rfl⟩⟩
   have RL:=pe L b i;rw[uK];by_cases g:L.getD i []=b
   ·rw[oDT (hm.2 g),oNT,oCF,oIN (λn=>n g)];simp only[oBS];rw[hw];rfl
   ·rw[oDF (λh=>g (hm.1 h)),Bool.not_false,oCT,oIP g,ck (by omega) (by simp) (by omega) (by simp;omega),oCT];simp only[oBS];rw[hw]
    rfl) (by
   unfold dO;dsimp only
   rw[oDF (by omega),oCF])
  rw[show bH dO NN (List.replicate L.length true,(L.length:Int),0,0,(),(),true,b,lV L b L.length,2,b,[],())=_ from l2,oBS]
def R64(x:Int):Prop:=-9223372036854775808<=x/\x<=9223372036854775807
def le8(v:Int):List Int:=(List.range 8).map λi=>v%18446744073709551616/256 ^ i%256
theorem jx(v:Int):(le8 v).length=8:=by unfold le8;simp
theorem B9(v:Int):Byt (le8 v):=λx hx=>by
 unfold le8 at hx;obtain⟨i,_,rfl⟩:=List.mem_map.1 hx;generalize v%18446744073709551616/256 ^ i=y;omega
theorem IB:∀(n:Nat)(u w:Int),0<=u->0<=w->u<256 ^ n->w<256 ^ n->(∀i,i<n->u/256 ^ i%256=w/256 ^ i%256)->u=w:=by
 intro n
 induction n with
 |zero=>intro u w h1 h2 h3 h4 _;simp at h3 h4;omega
 |succ n ih=>
  intro u w h1 h2 h3 h4 h;have h0:=h 0 (by omega);rw[Int.pow_zero,Int.ediv_one,Int.ediv_one]at h0;have hp:(256:Int) ^ (n+1)=256 ^ n*256:=Int.pow_succ ..
  have e:=ih (u/256) (w/256) (by omega) (by omega) (Int.ediv_lt_of_lt_mul (by decide) (by omega)) (Int.ediv_lt_of_lt_mul (by decide) (by omega)) (λi hi=>by
   have:=h (i+1) (by omega);rw[show(256:Int) ^ (i+1)=256*256 ^ i from by rw[Int.pow_succ,Int.mul_comm],<- Int.ediv_ediv_of_nonneg (by decide),<- Int.ediv_ediv_of_nonneg (by decide)]at this
   exact this)
  omega
theorem B8{a b:Int}(ha:R64 a)(hb:R64 b)(h:le8 a=le8 b):a=b:=by
 have e:a%18446744073709551616=b%18446744073709551616:=by
  refine IB 8 _ _ (by omega) (by omega) (by show _<18446744073709551616;omega) (by show _<18446744073709551616;omega) λi hi=>?_;have:=congrArg (λl=>l[i]?) h;simpa[le8,hi]using this
 unfold R64 at ha hb;omega
theorem gc(l:List Int):(l.flatMap le8).length=8*l.length:=by
 induction l with
 |nil=>rfl
 |cons x l ih=>rw[List.flatMap_cons,List.length_append,jx,ih,oLC];omega
theorem sL:∀{l m:List Int},l.length=m.length->(∀x∈l,R64 x)->(∀x∈m,R64 x)->l.flatMap le8=m.flatMap le8->l=m:=by
 intro l
 induction l with
 |nil=>intro m h _ _ _;exact(List.length_eq_zero_iff.1 h.symm).symm
 |cons x l ih=>
  intro m h hl hm e
  cases m with
  |nil=>cases h
  |cons y m=>
   rw[List.flatMap_cons,List.flatMap_cons]at e;obtain⟨e1,e2⟩:=List.append_inj e (by rw[jx,jx]);rw[B8 (hl x List.mem_cons_self) (hm y List.mem_cons_self) e1,ih (by simpa using h) (λz hz=>hl z (List.mem_cons_of_mem _ hz)) (λz hz=>hm z (List.mem_cons_of_mem _ hz)) e2]
theorem sM(l:List Int):Byt (l.flatMap le8):=λx hx=>by
 obtain⟨y,_,h⟩:=List.mem_flatMap.1 hx;exact B9 y x h
theorem F5{u:Int}(i:Nat)(h:i<=7):shR .shr .u64 u (8*i)=u/256 ^ i:=by
 have e:min (8*i) (IntKind.bits .u64)=8*i:=by simp[IntKind.bits];omega
 have e2:(2:Int) ^ (8*i)=256 ^ i:=by rw[Int.pow_mul];rfl
 show u.fdiv (2 ^ (min (8*i) (IntKind.bits .u64)))=_;rw[e,e2];exact Int.fdiv_eq_ediv_of_nonneg _ (Int.le_of_lt (Int.pow_pos (by decide)))
theorem HQ(x:Int):wk .u64 x=x%18446744073709551616:=by
 show IntKind.wrap .u64 x=_;simp[IntKind.wrap,IntKind.bits,IntKind.signed]
theorem I6(x:Int):wk .u8 x=x%256:=by
 show IntKind.wrap .u8 x=_;simp[IntKind.wrap,IntKind.bits,IntKind.signed]
theorem DZ(v:Int)(l:List Int)(n i:Int){acc:List Int}(ha:acc.length+8<=1099511627776):bH cx NN (v,l,n,i,0,acc,())=some (v,l,n,i,8,false,acc++le8 v,()):=by
 have l0:=df (f:=cx) (st:=λk=>(v,l,n,i,(k:Int),acc++(List.range k).map (λi=>v%18446744073709551616/256 ^ i%256),())) (n:=8) (N:=NN) (fin:=(v,l,n,i,((8:Nat):Int),false,acc++(List.range 8).map (λi=>v%18446744073709551616/256 ^ i%256),())) (i6 (by omega)) (λk hk=>by
  unfold cx;dsimp only;rw[oDT (show(k:Int)<8 by omega),oCT,cb (x:=8*(k:Int)) (by omega) (by omega),show 8*(k:Int)=((8*k:Nat):Int) by omega,bZ];simp only[oBS];rw[F5 k (by omega),HQ,I6,ck (by simp;omega) (by simp) (by omega) (by simp;omega),oCT,cb (by omega) (by omega),List.range_succ,List.map_append,<- List.append_assoc]
  rfl) (by
  unfold cx;dsimp only
  rw[oDF (by omega),oCF])
 rw[show bH cx NN (v,l,n,i,0,acc,())=bH cx NN (v,l,n,i,((0:Nat):Int),acc++(List.range 0).map (λi=>v%18446744073709551616/256 ^ i%256),())from by rw[List.range_zero,List.map_nil,List.append_nil];rfl,l0];rfl
theorem mE(l:List Int){acc:List Int}(ha:acc.length+8*l.length<=1099511627776):cZ l acc=some (acc++l.flatMap le8,()):=by
 unfold cZ;delta bB;dsimp only
 have l0:=df (f:=cI) (st:=λk=>(l,(l.length:Int),(k:Int),acc++(l.take k).flatMap le8,())) (n:=l.length) (N:=NN) (fin:=(l,(l.length:Int),(l.length:Int),false,acc++(l.take l.length).flatMap le8,())) (i6 (by omega)) (λk hk=>by
  unfold cI;dsimp only;rw[oDT (show(k:Int)<(l.length:Int) by omega),oCT,bZ];simp only[oBS];rw[ct hk];simp only[oBS];rw[DZ _ _ _ _ (by rw[List.length_append,gc,oLT];omega)];simp only[oBS];rw[cb (by omega) (by omega),<- eM hk,List.flatMap_append,List.append_assoc]
  simp) (by
  unfold cI;dsimp only
  rw[oDF (by omega),oCF])
 rw[List.take_length]at l0;rw[show bH cI NN (l,(l.length:Int),0,acc,())=bH cI NN (l,(l.length:Int),((0:Nat):Int),acc++(l.take 0).flatMap le8,())from by rw[List.take_zero,List.flatMap_nil,List.append_nil];rfl,l0,oBS]
def kC(c:DCn):List Int:=[c.1,c.2.1,c.2.2.1,c.2.2.2]
def iS(c:DCn):Prop:=∀x∈kC c,R64 x
def Dg(l:List DCn):List Int:=le8 (l.length:Int)++l.flatMap λc=>(kC c).flatMap le8
theorem tX(c:DCn):((kC c).flatMap le8).length=32:=by rw[gc];rfl
theorem mZ(l:List DCn):(l.flatMap λc=>(kC c).flatMap le8).length=32*l.length:=by
 induction l with
 |nil=>rfl
 |cons x l ih=>rw[List.flatMap_cons,List.length_append,tX,ih,oLC];omega
theorem pd(l:List DCn):(Dg l).length=8+32*l.length:=by
 unfold Dg;rw[List.length_append,jx,mZ]
theorem yd(l:List DCn):Byt (Dg l):=λx hx=>by
 rcases List.mem_append.1 hx with h|h
 ·exact B9 _ x h
 ·obtain⟨c,_,h⟩:=List.mem_flatMap.1 h;exact sM _ x h
theorem CV{c d:DCn}(h:kC c=kC d):c=d:=by
 obtain⟨a1,a2,a3,a4⟩:=c;obtain⟨b1,b2,b3,b4⟩:=d;simp only[kC,List.cons.injEq,and_true]at h;obtain⟨rfl,rfl,rfl,rfl⟩:=h;rfl
theorem CS:∀{l m:List DCn},l.length=m.length->(∀c∈l,iS c)->(∀c∈m,iS c)->(l.flatMap λc=>(kC c).flatMap le8)=(m.flatMap λc=>(kC c).flatMap le8)->l=m:=by
 intro l
 induction l with
 |nil=>intro m h _ _ _;exact(List.length_eq_zero_iff.1 h.symm).symm
 |cons x l ih=>
  intro m h hl hm e
  cases m with
  |nil=>cases h
  |cons y m=>
   rw[List.flatMap_cons,List.flatMap_cons]at e;obtain⟨e1,e2⟩:=List.append_inj e (by rw[tX,tX]);rw[CV (sL (by simp[kC]) (hl x List.mem_cons_self) (hm y List.mem_cons_self) e1),ih (by simpa using h) (λz hz=>hl z (List.mem_cons_of_mem _ hz)) (λz hz=>hm z (List.mem_cons_of_mem _ hz)) e2]
theorem yc{l m:List DCn}{r s:List Int}(hl:∀c∈l,iS c)(hm:∀c∈m,iS c)(sl:Sm l)(sm:Sm m)(h:Dg l++r=Dg m++s):l=m/\r=s:=by
 unfold Dg at h;rw[List.append_assoc,List.append_assoc]at h;obtain⟨e1,e2⟩:=List.append_inj h (by rw[jx,jx])
 have e3:l.length=m.length:=by
  have:=B8 (show R64 (l.length:Int) by unfold R64;unfold Sm at sl;omega) (show R64 (m.length:Int) by unfold R64;unfold Sm at sm;omega) e1;omega
 obtain⟨e4,e5⟩:=List.append_inj e2 (by rw[mZ,mZ,e3]);exact⟨CS e3 hl hm e4,e5⟩
theorem Fe(l:List DCn)(hl:∀c∈l,R64 c.1/\R64 c.2.1){acc:List Int}(ha:acc.length+8+32*l.length<=1099511627776):gi l acc=some (acc++Dg l,()):=by
 unfold gi;delta bB;dsimp only;rw[mE _ (by simp;omega),oBS];dsimp only
 have l0:=df (f:=dC) (st:=λk=>(l,(l.length:Int),(k:Int),(acc++[(l.length:Int)].flatMap le8)++(l.take k).flatMap (λc=>(kC c).flatMap le8),())) (n:=l.length) (N:=NN) (fin:=(l,(l.length:Int),(l.length:Int),false,(acc++[(l.length:Int)].flatMap le8)++(l.take l.length).flatMap (λc=>(kC c).flatMap le8),())) (i6 (by omega)) (λk hk=>by
  unfold dC;dsimp only;rw[oDT (show(k:Int)<(l.length:Int) by omega),oCT,bZ];simp only[oBS];rw[ct hk];simp only[oBS];have h:=hl _ (List.getElem_mem hk);unfold R64 at h;rw[show wk .i64 l[k].1=l[k].1 from wrap_i64 h.1.1 h.1.2,show wk .i64 l[k].2.1=l[k].2.1 from wrap_i64 h.2.1 h.2.2];rw[mE _ (by rw[List.length_append,List.length_append,mZ,gc,oLT];simp;omega)];simp only[oBS];rw[cb (by omega) (by omega),<- eM hk,List.flatMap_append,List.append_assoc];simp only[List.flatMap_cons,List.flatMap_nil,List.append_nil]
  rfl) (by
  unfold dC;dsimp only
  rw[oDF (by omega),oCF])
 rw[List.take_length]at l0;rw[show bH dC NN (l,(l.length:Int),0,acc++[(l.length:Int)].flatMap le8,())=bH dC NN (l,(l.length:Int),((0:Nat):Int),(acc++[(l.length:Int)].flatMap le8)++(l.take 0).flatMap (λc=>(kC c).flatMap le8),())from by rw[List.take_zero,List.flatMap_nil,List.append_nil];rfl,l0,oBS];unfold Dg;simp only[List.flatMap_cons,List.flatMap_nil,List.append_nil,List.append_assoc]
abbrev PG4:Type:=Int×Int×(List DCn)×Int×Int×Int×Int×Int×Int×Int×List DCn
def pgB(p:PG4):List Int:=[p.1,p.2.1].flatMap le8++(Dg p.2.2.1++([p.2.2.2.1,p.2.2.2.2.1,p.2.2.2.2.2.1,p.2.2.2.2.2.2.1,p.2.2.2.2.2.2.2.1,p.2.2.2.2.2.2.2.2.1,p.2.2.2.2.2.2.2.2.2.1].flatMap le8++Dg p.2.2.2.2.2.2.2.2.2.2))
structure PgR (p:PG4):Prop where
 ids:∀x∈[p.1,p.2.1],R64 x
 cells:∀c∈p.2.2.1,iS c
 nums:∀x∈[p.2.2.2.1,p.2.2.2.2.1,p.2.2.2.2.2.1,p.2.2.2.2.2.2.1,p.2.2.2.2.2.2.2.1,p.2.2.2.2.2.2.2.2.1,p.2.2.2.2.2.2.2.2.2.1],R64 x
 regs:∀c∈p.2.2.2.2.2.2.2.2.2.2,iS c
 lc:p.2.2.1.length<=1000
 lr:p.2.2.2.2.2.2.2.2.2.2.length<=1000
theorem Gu(p:PG4):Byt (pgB p):=λx hx=>by
 unfold pgB at hx;rcases List.mem_append.1 hx with h|h
 ·exact sM _ x h
 ·rcases List.mem_append.1 h with h|h
  ·exact yd _ x h
  ·rcases List.mem_append.1 h with h|h
   ·exact sM _ x h
   ·exact yd _ x h
theorem Gt(p:PG4)(h:PgR p):(pgB p).length<=100000:=by
 have h1:=h.lc;have h2:=h.lr;unfold pgB;rw[List.length_append,List.length_append,List.length_append,gc,gc,pd,pd];simp;omega
theorem wh{p q:PG4}(hp:PgR p)(hq:PgR q)(h:pgB p=pgB q):p=q:=by
 unfold pgB at h;obtain⟨e1,e2⟩:=List.append_inj h (by rw[gc,gc];rfl);obtain⟨e3,e4⟩:=yc hp.cells hq.cells (by have:=hp.lc;unfold Sm;omega) (by have:=hq.lc;unfold Sm;omega) e2;obtain⟨e5,e6⟩:=List.append_inj e4 (by rw[gc,gc];rfl);have e7:=yc (r:=[]) (s:=[]) hp.regs hq.regs (by have:=hp.lr;unfold Sm;omega) (by have:=hq.lr;unfold Sm;omega) (by rw[List.append_nil,List.append_nil];exact e6);have e8:=sL (by simp) hp.ids hq.ids e1;have e9:=sL (by simp) hp.nums hq.nums e5;obtain⟨a1,a2,a3,a4,a5,a6,a7,a8,a9,a10,a11⟩:=p;obtain⟨b1,b2,b3,b4,b5,b6,b7,b8,b9,Lp,Lq⟩:=q;simp only[List.cons.injEq,and_true]at e3 e7 e8 e9;obtain⟨rfl,rfl⟩:=e8;obtain⟨rfl,rfl,rfl,rfl,rfl,rfl,rfl⟩:=e9;obtain rfl:=e3;obtain rfl:=e7;rfl
theorem GV{p:PG4}(h:PgR p):gK p.1 p.2.1 p.2.2.1 p.2.2.2.1 p.2.2.2.2.1 p.2.2.2.2.2.1 p.2.2.2.2.2.2.1 p.2.2.2.2.2.2.2.1 p.2.2.2.2.2.2.2.2.1 p.2.2.2.2.2.2.2.2.2.1 p.2.2.2.2.2.2.2.2.2.2=some (pgB p,()):=by
 have h1:=h.lc;have h2:=h.lr;have hc:∀l:List DCn,(∀c∈l,iS c)->∀c∈l,R64 c.1/\R64 c.2.1:=λl hl c hc=>⟨hl c hc _ (by simp[kC]),hl c hc _ (by simp[kC])⟩;have h6:=h.nums p.2.2.2.2.2.2.2.2.2.1 (by simp);unfold R64 at h6;unfold gK;dsimp only;rw[mE _ (by simp),oBS];dsimp only;rw[Fe _ (hc _ h.cells) (by simp[gc,jx];omega),oBS];dsimp only;rw[show wk .i64 p.2.2.2.2.2.2.2.2.2.1=p.2.2.2.2.2.2.2.2.2.1 from wrap_i64 h6.1 h6.2];rw[mE _ (by simp[pd,jx];omega),oBS];dsimp only;rw[Fe _ (hc _ h.regs) (by simp[pd,jx];omega),oBS];unfold pgB;simp only[List.nil_append,List.append_assoc]
theorem zF{α:Type}(x z:α)(R:List α):∀A:List α,(A++z::R).modify A.length (λ_=>x)=A++x::R:=by
 intro A
 induction A with
 |nil=>rfl
 |cons a A ih=>
  show a::(A++z::R).modify A.length (λ_=>x)=_;rw[ih];rfl
theorem BZ{α:Type}{A:List α}{i n:Nat}(hA:A.length=i)(hi:i<n)(z x:α):(A++List.replicate (n-i) z).modify i (λ_=>x)=(A++[x])++List.replicate (n-(i+1)) z:=by
 obtain⟨k,hk⟩:∃k,n-i=k+1:=⟨n-i-1,by omega⟩;rw[hk,show n-(i+1)=k by omega,List.replicate_succ,<- hA,zF,List.append_assoc];rfl
abbrev zPg:PG4:=(0,(0,([],(0,(0,(0,(0,(0,(0,(0,[]))))))))))
theorem Hd{l:List (CC×TT')}(h1:1<=l.length)(hn:l.length<=5){p:PID}(hl:∀s∈l,shp s.1 s.2/\SmT s.2/\p∈pgs (szs s.1) s.2.length/\PgR (pg s.1 s.2 p)){b:PG4}(hb:PgR b){L:List (List Int)}(hL:L=l.map λs=>pgB (pg s.1 s.2 p))(hm:l.length<2*(lV L (pgB b) l.length).length):
 eI l (List.replicate l.length true) p.1 p.2 1=some (b.1,b.2.1,b.2.2.1,b.2.2.2.1,b.2.2.2.2.1,b.2.2.2.2.2.1,b.2.2.2.2.2.2.1,b.2.2.2.2.2.2.2.1,b.2.2.2.2.2.2.2.2.1,b.2.2.2.2.2.2.2.2.2.1,b.2.2.2.2.2.2.2.2.2.2,sK L (pgB b) l.length,0,()):=by
 have Wx:L.length=l.length:=by rw[hL,List.length_map]
 obtain⟨P,hP⟩:∃P:List PG4,P=l.map λs=>pg s.1 s.2 p:=⟨_,rfl⟩
 have ME:P.length=l.length:=by rw[hP,List.length_map]
 have PT:∀i (h:i<l.length),L.getD i []=pgB (P[i]'(by omega)):=λi h=>by
  subst hL hP;rw[oGD,oGE (by simpa using h),Option.getD_some,List.getElem_map,List.getElem_map]
 have OL:∀i (h:i<l.length),PgR (P[i]'(by omega)):=λi h=>by
  subst hP;rw[List.getElem_map];exact(hl _ (List.getElem_mem h)).2.2.2
 unfold eI;delta bB;dsimp only;rw[bZ];simp only[oBS];rw[show jZ l.length l.length 2=true by unfold jZ;simp;omega,oCT,show jZ l.length l.length 11=true by unfold jZ;simp;omega,oCT]
 have l0:=df (f:=dA) (st:=λi=>(List.replicate l.length true,(1:Int),l,(l.length:Int),(i:Int),p.1,p.2,(0:Int),(0:Int),(),(0:Int),(0:Int),(0:Int),(0:Int),(0:Int),(0:Int),(0:Int),(),(L.take i).map (λb=>(true,b))++List.replicate (l.length-i) (false,[]),P.take i++List.replicate (l.length-i) zPg,())) (n:=l.length) (N:=NN)
  (fin:=(List.replicate l.length true,(1:Int),l,(l.length:Int),(l.length:Int),false,p.1,p.2,(0:Int),(0:Int),(),(0:Int),(0:Int),(0:Int),(0:Int),(0:Int),(0:Int),(0:Int),(),(L.take l.length).map (λb=>(true,b))++List.replicate (l.length-l.length) (false,[]),P.take l.length++List.replicate (l.length-l.length) zPg,())) (i6 (by omega)) (λi hi=>by
  obtain⟨s1,s2,s3,s4⟩:=hl _ (List.getElem_mem hi)
  have hA:((L.take i).map λb=>((true,b):Bool×List Int)).length=i:=by rw[List.length_map,oLT];omega
  have hB:(P.take i).length=i:=by rw[oLT];omega
  have Nm:P[i]'(by omega)=pg l[i].1 l[i].2 p:=by subst hP;rw[List.getElem_map]
  have M8:L[i]'(by omega)=pgB (pg l[i].1 l[i].2 p):=by subst hL;rw[List.getElem_map]
  unfold dA;delta bB;dsimp only;rw[oDT (show(i:Int)<(l.length:Int) by omega),oCT,bZ];simp only[oBS];rw[ct hi];simp only[oBS];rw[List.length_replicate,oDF (show ¬(i:Int)>=(l.length:Int) by omega),oCF,ct (by rw[List.length_replicate];exact hi),List.getElem_replicate];simp only[oBS,oNT,oCF];rw[Jj s1 s2 s3];simp only[oBS];rw[beq_self_eq_true,oCT,GV s4];simp only[oBS];rw[ct (show i<(P.take i++List.replicate (l.length-i) zPg).length by rw[List.length_append,hB,List.length_replicate];omega)];simp only[oBS];rw[ct (show i<((L.take i).map (λb=>((true,b):Bool×List Int))++List.replicate (l.length-i) (false,[])).length by rw[List.length_append,hA,List.length_replicate];omega)];simp only[oBS];rw[BZ hA hi,BZ hB hi,cb (by omega) (by omega),<- M8,<- eM (show i<L.length by omega),<- eM (show i<P.length by omega),Nm,List.map_append]
  rfl) (by
  unfold dA;dsimp only
  rw[oDF (by omega),oCF])
 rw[show(L.take l.length).map (λb=>((true,b):Bool×List Int))=L.map λb=>(true,b) by rw[<- Wx,List.take_length],show P.take l.length=P by rw[<- ME,List.take_length],Nat.sub_self,List.replicate_zero,List.replicate_zero,List.append_nil,List.append_nil]at l0;rw[show bH dA NN (List.replicate l.length true,1,l,(l.length:Int),0,p.1,p.2,0,0,(),0,0,0,0,0,0,0,(),List.replicate l.length (false,[]),List.replicate l.length (0,(0,([],(0,(0,(0,(0,(0,(0,(0,[])))))))))),())=_ from l0,oBS];dsimp only
 have P6:∀x∈L,Byt x/\Sm x:=λx hx=>by
  subst hL;obtain⟨s,hs,rfl⟩:=List.mem_map.1 hx;exact⟨Gu _,by have:=Gt _ (hl s hs).2.2.2;unfold Sm;omega⟩
 have hd:=Ey (L:=L) (by omega) (by omega) P6 (b:=pgB b) (by rw[Wx];exact hm);rw[Wx]at hd;rw[hd,oBS];dsimp only;rw[bne_self_eq_false,oCF];obtain⟨S,hS⟩:∃S,S=sK L (pgB b) l.length:=⟨_,rfl⟩;rw[<- hS]
 have MF:Sm S:=by
  have:=pe L (pgB b) l.length;rw[<- hS]at this;unfold Sm;omega
 have Zk:∀i,i<l.length->(((i:Int)∈S)↔P.getD i zPg≠b):=λi hi=>by
  rw[hS];unfold sK;simp only[List.mem_map,List.mem_filter,List.mem_range,oDE];rw[oGD,oGE (show i<P.length by omega),Option.getD_some];refine⟨λ⟨j,⟨h2,h3⟩,h4⟩ e=>?_,λh=>⟨i,⟨hi,λe=>h (wh (OL i hi) hb ((PT i hi).symm.trans e))⟩,rfl⟩⟩
  obtain rfl:j=i:=by omega
  exact h3 (by rw[PT j hi,e])
 have Rj:∀K:Int,(K=1\/K=2)->(bif(K != 1)then(bif(K != 2)then(some (.inl (31,0,0,(),0,0,0,0,0,0,0,(),(),())))else
  some (.inr (List.replicate l.length true,L.map (λb=>(true,b)),false,0,0,(),0,0,0,0,0,0,0,(),L.map (λb=>(true,b)),P,K,pgB b,S,())))else
  some (.inr (List.replicate l.length true,L.map (λb=>(true,b)),false,0,0,(),0,0,0,0,0,0,0,(),L.map (λb=>(true,b)),P,K,pgB b,S,())):Option ((Int×Int×Int×Unit×Int×Int×Int×Int×Int×Int×Int×Unit×Unit×Unit)⊕((List (Bool))×(List (Bool×List (Int)))×Bool×Int×Int×Unit×Int×Int×Int×Int×Int×Int×Int×Unit×(List (Bool×List (Int)))×(List (Int×Int×(List DCn)×Int×Int×Int×Int×Int×Int×Int×List DCn))×Int×(List (Int))×(List (Int))×Unit)))=some (.inr (List.replicate l.length true,L.map (λb=>(true,b)),false,0,0,(),0,0,0,0,0,0,0,(),L.map (λb=>(true,b)),P,K,pgB b,S,())):=λK hK=>by
  rcases hK with rfl|rfl
  ·rfl
  ·rfl
 have hK:(if S=[]then(1:Int)else 2)=1\/(if S=[]then(1:Int)else 2)=2:=by split<;>simp
 generalize(if S=[]then(1:Int)else 2)=K at hK⊢;rw[Rj K hK];dsimp only;rw[List.length_map,Wx]
 obtain⟨j0,Ve,Me⟩:∃j,j<l.length/\L.getD j []=pgB b:=by
  cases e:lV L (pgB b) l.length with
  |nil=>rw[e,List.length_nil]at hm;omega
  |cons x r=>
   obtain⟨j,h2,h3,_⟩:=pb.1 (show x∈lV L (pgB b) l.length by rw[e];exact List.mem_cons_self);exact⟨j,h2,h3⟩
 have hin:∀i,i<l.length->cU (List.replicate l.length true,L.map (λb=>(true,b)),(l.length:Int),(i:Int),0,0,(),0,0,0,0,0,0,0,(),L.map (λb=>(true,b)),P,K,pgB b,S,())=if P.getD i zPg≠b then some (.inl (List.replicate l.length true,L.map (λb=>(true,b)),(l.length:Int),((i+1:Nat):Int),0,0,(),0,0,0,0,0,0,0,(),L.map (λb=>(true,b)),P,K,pgB b,S,()))else
  some (.inr (.inl (S,0,(P.getD i zPg).1,(P.getD i zPg).2.1,(P.getD i zPg).2.2.1,(P.getD i zPg).2.2.2.1,(P.getD i zPg).2.2.2.2.1,(P.getD i zPg).2.2.2.2.2.1,(P.getD i zPg).2.2.2.2.2.2.1,(P.getD i zPg).2.2.2.2.2.2.2.1,(P.getD i zPg).2.2.2.2.2.2.2.2.1,(P.getD i zPg).2.2.2.2.2.2.2.2.2.1,(P.getD i zPg).2.2.2.2.2.2.2.2.2.2,()))):=λi hi=>by
  have XU:P.getD i zPg=P[i]'(by omega):=by rw[oGD,oGE (show i<P.length by omega),Option.getD_some]
  unfold cU;dsimp only;rw[oDT (show(i:Int)<(l.length:Int) by omega),oCT,bZ];simp only[oBS];rw[ct (show i<(L.map λb=>((true,b):Bool×List Int)).length by rw[List.length_map];omega),List.getElem_map];simp only[oBS];rw[ct (show i<(List.replicate l.length true).length by rw[List.length_replicate];exact hi),List.getElem_replicate];simp only[oBS,oCT];rw[qp MF];simp only[oBS];by_cases g:P.getD i zPg≠b
  ·rw[oIP g,oDT ((Zk i hi).2 g),oNT,oCF,cb (by omega) (by omega)];rfl
  ·rw[oIN g,oDF (λh=>g ((Zk i hi).1 h)),Bool.not_false,oCT,bZ,oBS,ct (show i<P.length by omega),XU];rfl
 rcases kf (f:=cU) (st:=λi=>(List.replicate l.length true,L.map (λb=>(true,b)),(l.length:Int),(i:Int),(0:Int),(0:Int),(),(0:Int),(0:Int),(0:Int),(0:Int),(0:Int),(0:Int),(0:Int),(),L.map (λb=>(true,b)),P,K,pgB b,S,())) (p:=λi=>P.getD i zPg≠b) (n:=l.length) (N:=NN)
  (bad:=λi=>.inl (S,0,(P.getD i zPg).1,(P.getD i zPg).2.1,(P.getD i zPg).2.2.1,(P.getD i zPg).2.2.2.1,(P.getD i zPg).2.2.2.2.1,(P.getD i zPg).2.2.2.2.2.1,(P.getD i zPg).2.2.2.2.2.2.1,(P.getD i zPg).2.2.2.2.2.2.2.1,(P.getD i zPg).2.2.2.2.2.2.2.2.1,(P.getD i zPg).2.2.2.2.2.2.2.2.2.1,(P.getD i zPg).2.2.2.2.2.2.2.2.2.2,())) (fin:=.inr (List.replicate l.length true,L.map (λb=>(true,b)),(l.length:Int),(l.length:Int),false,0,0,(),0,0,0,0,0,0,0,(),L.map (λb=>(true,b)),P,K,pgB b,S,())) (i6 (by omega)) (λi hi=>by
  by_cases g:P.getD i zPg≠b
  ·exact .inl ⟨g,by rw[hin i hi,oIP g]⟩
  ·exact .inr ⟨g,by rw[hin i hi,oIN g]⟩) (by
  unfold cU;dsimp only
  rw[oDF (by omega),oCF])with⟨hp,e⟩|⟨k,hk,hp,Nd,e⟩
 ·exfalso;apply hp j0 Ve;rw[oGD,oGE (show j0<P.length by omega),Option.getD_some];exact wh (OL j0 Ve) hb ((PT j0 Ve).symm.trans Me)
 ·have hk2:P.getD k zPg=b:=Classical.byContradiction Nd;rw[hk2]at e;rw[show bH cU NN (List.replicate l.length true,L.map (λb=>(true,b)),(l.length:Int),0,0,0,(),0,0,0,0,0,0,0,(),L.map (λb=>(true,b)),P,K,pgB b,S,())=_ from e]
structure TsR (v:DTs):Prop where
 nums:∀x∈[v.1,v.2.1,v.2.2.1,v.2.2.2.1,v.2.2.2.2.1,v.2.2.2.2.2.1,v.2.2.2.2.2.2.1],R64 x
 regs:∀c∈v.2.2.2.2.2.2.2,iS c
 len:v.2.2.2.2.2.2.2.length<=8
def Rg(C:CC)(T:TT'):Prop:=(∀r∈C,∀c∈r,iS c)/\∀t∈T,TsR t
theorem xk{l:List Int}(hl:l.length<=400){k:Int}(hk:0<=k):∃(c:DCn)(k':Int),d5 l k=some (c.1,c.2.1,c.2.2.1,c.2.2.2,l,k',())/\0<=k'/\iS c:=by
 unfold d5;obtain⟨x,k1,e,_,_,h1⟩:=fG (n:=5) (by omega) (by omega) hl hk;rw[e];simp only[oBS];by_cases h:x=4
 ·rw[beq_iff_eq.2 h,oCT];obtain⟨x2,k2,e,u1,u2,h2⟩:=fG (n:=3) (by omega) (by omega) hl h1;rw[e];simp only[oBS];obtain⟨x3,k3,e,u3,u4,h3⟩:=fG (n:=8) (by omega) (by omega) hl h2;rw[e];exact⟨(1,0,x2,x3),k3,rfl,h3,by intro x hx;simp only[kC,List.mem_cons,List.not_mem_nil,or_false]at hx;unfold R64;omega⟩
 ·rw[oBF h,oCF];obtain⟨x2,k2,e,u1,u2,h2⟩:=fG (n:=40) (by omega) (by omega) hl h1;rw[e];exact⟨(0,wk .u16 x2,0,0),k2,rfl,h2,by intro x hx;have:=xu x2;simp only[kC,List.mem_cons,List.not_mem_nil,or_false]at hx;unfold wk at hx;unfold R64;omega⟩
theorem Au{l:List Int}(hl:l.length<=400){k:Int}(hk:0<=k):∃(v:DTs)(k':Int),gg l k=some (v.1,v.2.1,v.2.2.1,v.2.2.2.1,v.2.2.2.2.1,v.2.2.2.2.2.1,v.2.2.2.2.2.2.1,v.2.2.2.2.2.2.2,l,k',())/\v.2.2.2.2.2.2.2.length<=8/\0<=k'/\TsR v:=by
 unfold gg;obtain⟨x1,k1,e,p1,q1,h1⟩:=fG (n:=5) (by omega) (by omega) hl hk;rw[e];simp only[oBS];obtain⟨x2,k2,e,p2,q2,h2⟩:=fG (n:=20) (by omega) (by omega) hl h1;rw[e];simp only[oBS];obtain⟨x3,k3,e,p3,q3,h3⟩:=fG (n:=30) (by omega) (by omega) hl h2;rw[e];simp only[oBS];obtain⟨x4,k4,e,p4,q4,h4⟩:=fG (n:=4) (by omega) (by omega) hl h3;rw[e];simp only[oBS];obtain⟨x5,k5,e,p5,q5,h5⟩:=fG (n:=4) (by omega) (by omega) hl h4;rw[e];simp only[oBS];obtain⟨x6,k6,e,p6,q6,h6⟩:=fG (n:=7) (by omega) (by omega) hl h5;rw[e];simp only[oBS];obtain⟨x7,k7,e,p7,q7,h7⟩:=fG (n:=9) (by omega) (by omega) hl h6;rw[e];simp only[oBS]
 let st:Int->Int->List DCn->_:=λi k r=>(i,l,k,(0:Int),(0:Int),(0:Int),(0:Int),(0:Int),(0:Int),(0:Int),(),x1,x2,x3,w64 (x4-1),w64 (x5-1),x6,wk .u16 x7,r,())
 have step:∀(i:Nat)(k:Int)(r:List DCn),0<=k->r.length=i->(∀c∈r,iS c)->i<8->∃(k':Int)(r':List DCn),0<=k'/\r'.length=i+1/\(∀c∈r',iS c)/\dx (st i k r)=some (.inl (st ((i+1:Nat):Int) k' r')):=by
  intro i k r hk hr hR hi;show ∃(k':Int)(r':List DCn),0<=k'/\r'.length=i+1/\(∀c∈r',iS c)/\dx ((i:Int),l,k,0,0,0,0,0,0,0,(),x1,x2,x3,w64 (x4-1),w64 (x5-1),x6,wk .u16 x7,r,())=_;unfold dx;dsimp only;rw[oDT (show(i:Int)<8 by omega),oCT];obtain⟨c,k',e,YW,Sp⟩:=xk hl hk;rw[e];simp only[oBS];rw[ck (by omega) (by simp) (by omega) (by rw[List.length_singleton];omega),oCT,cb (by omega) (by omega)];exact⟨k',r++[c],YW,by rw[List.length_append,List.length_singleton,hr],λx hx=>(List.mem_append.1 hx).elim (hR x) λh=>List.mem_singleton.1 h▸Sp,rfl⟩
 have go:∀j i:Nat,i+j=8->∀(k:Int)(r:List DCn),0<=k->r.length=i->(∀c∈r,iS c)->∀N,j<N->∃k' r',0<=k'/\r'.length=8/\(∀c∈r',iS c)/\bH dx N (st i k r)=some (8,false,l,k',0,0,0,0,0,0,0,(),x1,x2,x3,w64 (x4-1),w64 (x5-1),x6,wk .u16 x7,r',()):=by
  intro j
  induction j with
  |zero=>
   intro i hi k r hk hr hR N hN;obtain⟨N,rfl⟩:∃m,N=m+1:=⟨N-1,by omega⟩;refine⟨k,r,hk,by omega,hR,?_⟩
   obtain rfl:i=8:=by omega
   rfl
  |succ j ih=>
   intro i hi k r hk hr hR N hN;obtain⟨N,rfl⟩:∃m,N=m+1:=⟨N-1,by omega⟩;obtain⟨k1,r1,ZA,Z7,Rz,e⟩:=step i k r hk hr hR (by omega);obtain⟨k2,r2,hk2,Wd,Vy,e2⟩:=ih (i+1) (by omega) k1 r1 ZA Z7 Rz N (by omega);refine⟨k2,r2,hk2,Wd,Vy,?_⟩;simp only[bH,e,oBS];exact e2
 obtain⟨k8,r,M4,hr,hR,e⟩:=go 8 0 rfl k7 [] h7 rfl (λc hc=>(by cases hc)) NN (by unfold NN;omega);rw[show bH dx NN (0,l,k7,0,0,0,0,0,0,0,(),x1,x2,x3,w64 (x4-1),w64 (x5-1),x6,wk .u16 x7,[],())=_ from e]
 exact⟨(x1,x2,x3,w64 (x4-1),w64 (x5-1),x6,wk .u16 x7,r),k8,rfl,by show r.length<=8;omega,M4,⟨λx hx=>by
  have:=xu x7;have e1:=cb (x:=x4-1) (by omega) (by omega);have e2:=cb (x:=x5-1) (by omega) (by omega);simp only[List.mem_cons,List.not_mem_nil,or_false]at hx;unfold wk at hx;unfold R64
  omega,hR,by show r.length<=8;omega⟩⟩
theorem Do{l:List Int}(hl:l.length<=400){k:Int}(hk:0<=k):∃(C:CC)(T:TT')(k':Int),gH l k=some (C,T,l,k',())/\md C T/\0<=k'/\Rg C T:=by
 unfold gH;obtain⟨x1,k1,e,a1,b1,h1⟩:=fG (n:=3) (by omega) (by omega) hl hk;rw[e];simp only[oBS]
 have row:∀(j:Nat)(o:Int)(C:CC)(k:Int)(r:List DCn),0<=k->r.length+j<=32->(∀c∈r,iS c)->∀N,j<N->∃k' r',0<=k'/\r'.length=r.length+j/\(∀c∈r',iS c)/\
  bH eP N (o,(j:Int)-1,l,k,(),(),C,(),r,())=some (o,-1,false,l,k',(),(),C,(),r',()):=by
  intro j o C
  induction j with
  |zero=>
   intro k r hk hr hR N hN;obtain⟨N,rfl⟩:∃m,N=m+1:=⟨N-1,by omega⟩;exact⟨k,r,hk,by omega,hR,rfl⟩
  |succ j ih=>
   intro k r hk hr hR N hN;obtain⟨N,rfl⟩:∃m,N=m+1:=⟨N-1,by omega⟩;obtain⟨c,k1,e,ZA,Sp⟩:=xk hl hk
   have e1:eP (o,((j+1:Nat):Int)-1,l,k,(),(),C,(),r,())=some (.inl (o,(j:Int)-1,l,k1,(),(),C,(),r++[c],())):=by
    unfold eP;dsimp only;rw[oDT (show((j+1:Nat):Int)-1>=0 by omega),oCT,e];simp only[oBS];rw[ck (by omega) (by simp) (by omega) (by rw[List.length_singleton];omega),oCT,cb (by omega) (by omega),show((j+1:Nat):Int)-1-1=(j:Int)-1 by omega];rfl
   obtain⟨k2,r2,hk2,Wd,Vy,e2⟩:=ih k1 (r++[c]) ZA (by rw[List.length_append,List.length_singleton];omega) (λx hx=>(List.mem_append.1 hx).elim (hR x) λh=>List.mem_singleton.1 h▸Sp) N (by omega);refine⟨k2,r2,hk2,by rw[Wd,List.length_append,List.length_singleton];omega,Vy,?_⟩;simp only[bH,e1,oBS];exact e2
 have Rq:∀(j:Nat)(C:CC)(k:Int),0<=k->C.length+j<=4->(∀c∈C,okZ (c.length:Int)=true)->(∀r∈C,∀c∈r,iS c)->∀N,j<N->∃k' C',0<=k'/\C'.length=C.length+j/\(∀c∈C',okZ (c.length:Int)=true)/\(∀r∈C',∀c∈r,iS c)/\
  bH eO N ((j:Int)-1,l,k,(),(),C,(),())=some (-1,false,l,k',(),(),C',(),()):=by
  intro j
  induction j with
  |zero=>
   intro C k hk hC ho hR N hN;obtain⟨N,rfl⟩:∃m,N=m+1:=⟨N-1,by omega⟩;exact⟨k,C,hk,by omega,ho,hR,rfl⟩
  |succ j ih=>
   intro C k hk hC ho hR N hN;obtain⟨N,rfl⟩:∃m,N=m+1:=⟨N-1,by omega⟩;obtain⟨y,k1,e,ya,yb,ZA⟩:=fG (n:=24) (by omega) (by omega) hl hk;obtain⟨k2,r,hk2,hr,Nv,e2⟩:=row (y.toNat+1) (((j+1:Nat):Int)-1) C k1 [] ZA (by rw[List.length_nil];omega) (λc hc=>(by cases hc)) NN (by unfold NN;omega);rw[show((y.toNat+1:Nat):Int)-1=y by omega]at e2;rw[List.length_nil]at hr
   have e1:eO (((j+1:Nat):Int)-1,l,k,(),(),C,(),())=some (.inl ((j:Int)-1,l,k2,(),(),C++[r],(),())):=by
    unfold eO;dsimp only;rw[oDT (show((j+1:Nat):Int)-1>=0 by omega),oCT,e];simp only[oBS];rw[e2];simp only[oBS];rw[ck (by omega) (by simp) (by omega) (by rw[List.length_singleton];omega),oCT,cb (by omega) (by omega),show((j+1:Nat):Int)-1-1=(j:Int)-1 by omega];rfl
   obtain⟨k3,C3,hk3,Mq,Yi,PV,e3⟩:=ih (C++[r]) k2 hk2 (by rw[List.length_append,List.length_singleton];omega) (by
    intro c hc;rcases List.mem_append.1 hc with hc|hc
    ·exact ho c hc
    ·rw[List.mem_singleton.1 hc]
     exact oDT (by omega)) (λx hx=>(List.mem_append.1 hx).elim (hR x) λh=>List.mem_singleton.1 h▸Nv) N (by omega)
   refine⟨k3,C3,hk3,by rw[Mq,List.length_append,List.length_singleton];omega,Yi,PV,?_⟩;simp only[bH,e1,oBS];exact e3
 obtain⟨k2,C,hk2,hC,ho,Mr,e2⟩:=Rq (x1.toNat+1) [] k1 h1 (by rw[List.length_nil];omega) (by simp) (λc hc=>(by cases hc)) NN (by unfold NN;omega);rw[show((x1.toNat+1:Nat):Int)-1=x1 by omega]at e2;rw[List.length_nil]at hC;rw[e2];simp only[oBS];obtain⟨x3,k3,e,a3,b3,h3⟩:=fG (n:=4) (by omega) (by omega) hl hk2;rw[e];simp only[oBS]
 have NW:∀(j:Nat)(T:TT')(k:Int),0<=k->T.length+j<=4->SmT T->(∀t∈T,TsR t)->∀N,j<N->∃k' T',0<=k'/\T'.length=T.length+j/\SmT T'/\(∀t∈T',TsR t)/\
  bH eN N ((j:Int),l,k,(),(),C,T,())=some (0,false,l,k',(),(),C,T',()):=by
  intro j
  induction j with
  |zero=>
   intro T k hk hT hs hR N hN;obtain⟨N,rfl⟩:∃m,N=m+1:=⟨N-1,by omega⟩;exact⟨k,T,hk,by omega,hs,hR,rfl⟩
  |succ j ih=>
   intro T k hk hT hs hR N hN;obtain⟨N,rfl⟩:∃m,N=m+1:=⟨N-1,by omega⟩;obtain⟨v,k1,e,hv,ZA,Q4⟩:=Au hl hk
   have e1:eN (((j+1:Nat):Int),l,k,(),(),C,T,())=some (.inl ((j:Int),l,k1,(),(),C,T++[v],())):=by
    unfold eN;dsimp only;rw[oDT (show((j+1:Nat):Int)>0 by omega),oCT,e];simp only[oBS];rw[ck (by omega) (by simp) (by omega) (by rw[List.length_singleton];omega),oCT,cb (by omega) (by omega),show((j+1:Nat):Int)-1=(j:Int) by omega];rfl
   obtain⟨k3,T3,hk3,MG,Us,PV,e3⟩:=ih (T++[v]) k1 ZA (by rw[List.length_append,List.length_singleton];omega) (by
    intro t ht;rcases List.mem_append.1 ht with ht|ht
    ·exact hs t ht
    ·rw[List.mem_singleton.1 ht];unfold Sm
     omega) (λx hx=>(List.mem_append.1 hx).elim (hR x) λh=>List.mem_singleton.1 h▸Q4) N (by omega)
   refine⟨k3,T3,hk3,by rw[MG,List.length_append,List.length_singleton];omega,Us,PV,?_⟩;simp only[bH,e1,oBS];exact e3
 obtain⟨k4,T,M3,hT,hs,MH,e4⟩:=NW x3.toNat [] k3 h3 (by rw[List.length_nil];omega) (by intro t ht;simp at ht) (λt ht=>(by cases ht)) NN (by unfold NN;omega);rw[show((x3.toNat:Nat):Int)=x3 by omega]at e4;rw[List.length_nil]at hT;rw[e4];exact⟨C,T,k4,rfl,⟨by omega,⟨by omega,by omega,ho⟩,hs⟩,M3,Mr,MH⟩
def qF(C:CC)(T:TT')(D:CC)(U:TT'):Prop:=ub C T D U/\Rg D U
theorem Gi{C:CC}{T:TT'}(h:Rg C T){a b:Nat}{c:DCn}(hc:iS c):Rg (C.modify a λe=>e.modify b λ_=>c) T:=by
 refine⟨λr hr x hx=>?_,h.2⟩;rcases kS hr with h1|⟨y,hy,rfl⟩
 ·exact h.1 r h1 x hx
 ·rcases kS hx with h2|⟨_,_,rfl⟩
  ·exact h.1 y hy x h2
  ·exact hc
theorem Gg{C:CC}{T:TT'}(h:Rg C T){a:Nat}{v:DTs}(hv:TsR v):Rg C (T.modify a λ_=>v):=by
 refine⟨h.1,λt ht=>?_⟩;rcases kS ht with h1|⟨_,_,rfl⟩
 ·exact h.2 t h1
 ·exact hv
theorem Gw{C:CC}{T:TT'}(h:md C T)(hg:Rg C T){n:Int}(hn:0<=n)(WA:n<100){l:List Int}(hl:l.length<=400){k:Int}(hk:0<=k):
 ∃(D:CC)(U:TT')(k':Int),gh C T n l k=some (D,U,l,k',())/\ub C T D U/\0<=k'/\Rg D U:=by
 unfold gh;rw[IF h.2.1 h.2.2,oBS];dsimp only
 obtain⟨t,e,D,U,k',h1,h2,h3⟩:=rE (f:=gY) (λs=>∃(i:Nat)(k:Int)(D:CC)(U:TT'),s=(n,(i:Int),l,k,(),(),D,U,())/\(i:Int)<=n/\0<=k/\qF C T D U)
  (λt=>∃(D:CC)(U:TT')(k:Int),t=(n,n,false,l,k,(),(),D,U,())/\0<=k/\qF C T D U) (λs=>(n-s.2.1).toNat) (n:=NN) (s:=(n,0,l,k,(),(),C,T,())) ⟨0,k,C,T,rfl,hn,hk,⟨rfl,rfl,h.2.2⟩,hg⟩ (by unfold NN;show(n-0).toNat<_;omega) (by
  rintro s ⟨i,k,D,U,rfl,hi,hk,hL⟩;unfold gY;delta bB;dsimp only;have M7:=iU hL.1.1;have Lw:=h.1;have Lx:=h.2.1.1;have hU:=hL.1.2.1;have LB:=h.2.1.2.1;by_cases hin:(i:Int)<n
  rotate_left
  ·rw[oDF hin]
   obtain rfl:(i:Int)=n:=by omega
   exact⟨_,rfl,D,U,k,rfl,hk,hL⟩
  rw[oDT hin,oCT]
  have R2:∀k0,0<=k0->Ok (((bI (↑D.length) l k0).bind λ(x10,x11,x12,_)=>
   (dM x10).bind λx13=>
   (dh D x13).bind λx14=>
   (dh D x13).bind λx15=>
   (dM x10).bind λx16=>
   (dh D x16).bind λx17=>
   (dh D x16).bind λx18=>
   (dh D x16).bind λx19=>
   (bI (↑x19.length) x11 x12).bind λ(x21,x22,x23,_)=>
   (d5 x22 x23).bind λ(x24,x25,x26,x27,x28,x29,_)=>
   (dM x21).bind λRs=>
   (dh D x13).bind λN2=>
   (dh N2 Rs).bind λLW=>
   (dh D x13).bind λN3=>
   (dh N3 Rs).bind λLX=>
   some (n,(i:Int),x28,x29,(),(),(List.modify D x13 λe=>(List.modify e Rs λe=>(x24,(x25,(x26,x27))))),U,())):Option (Int×Int×(List (Int))×Int×Unit×Unit×(List (List DCn))×(List DTs)×Unit))
   λr=>∃(k':Int)(D':CC)(U':TT'),r=(n,(i:Int),l,k',(),(),D',U',())/\0<=k'/\qF C T D' U':=by
   intro k0 M2;dsimp only;obtain⟨y,k1,e,ya,yb,ZA⟩:=fG (n:=(D.length:Int)) (by omega) (by omega) hl M2;rw[e];obtain⟨a,rfl⟩:∃a:Nat,y=a:=⟨y.toNat,by omega⟩
   have ha:a<D.length:=by omega
   simp only[oBS,bZ,ct ha];have hok:1<=(D[a].length:Int)/\(D[a].length:Int)<=32:=of_decide_eq_true ((mI hL.1 h.2.1).2.2 _ (List.getElem_mem ha));obtain⟨z,k2,e,za,zb,hk2⟩:=fG (n:=(D[a].length:Int)) (by omega) (by omega) hl ZA;rw[e];obtain⟨b,rfl⟩:∃b:Nat,z=b:=⟨z.toNat,by omega⟩
   have hb:b<D[a].length:=by omega
   simp only[oBS];obtain⟨c,k3,e,hk3,Sp⟩:=xk hl hk2;rw[e];simp only[oBS,bZ,ct hb];exact⟨_,rfl,k3,_,U,rfl,hk3,⟨(yR λc=>oLM ..).trans hL.1.1,hL.1.2.1,hL.1.2.2⟩,Gi hL.2 Sp⟩
  refine Ok.bind (P:=λr=>∃(k':Int)(D':CC)(U':TT'),r=(n,(i:Int),l,k',(),(),D',U',())/\0<=k'/\qF C T D' U') ?_ ?_
  ·by_cases hp:(U.length:Int)>0
   rotate_left
   ·rw[oDF hp];exact R2 k hk
   rw[oDT hp,oCT];obtain⟨y,k1,e,ya,yb,ZA⟩:=fG (n:=3) (by omega) (by omega) hl hk;rw[e];simp only[oBS];by_cases h2:y=2
   rotate_left
   ·rw[oBF h2];exact R2 k1 ZA
   rw[beq_iff_eq.2 h2,oCT];obtain⟨z,k2,e,za,zb,hk2⟩:=fG (n:=(U.length:Int)) (by omega) (by omega) hl ZA;rw[e];obtain⟨a,rfl⟩:∃a:Nat,z=a:=⟨z.toNat,by omega⟩
   have ha:a<U.length:=by omega
   simp only[oBS];obtain⟨v,k3,e,hv,hk3,Q4⟩:=Au hl hk2;rw[e];simp only[oBS,bZ,ct ha];exact⟨_,rfl,k3,D,_,rfl,hk3,⟨hL.1.1,(oLM ..).trans hL.1.2.1,rM hL.1.2.2 (show v.2.2.2.2.2.2.2.length<=1099511627776 by omega)⟩,Gg hL.2 Q4⟩
  ·rintro r ⟨k',D',U',rfl,YW,Sc⟩;dsimp only;rw[cb (by omega) (by omega)]
   exact⟨_,rfl,⟨i+1,k',D',U',rfl,by omega,YW,Sc⟩,by show(n-((i:Int)+1)).toNat<(n-(i:Int)).toNat;omega⟩)
 rw[e,h1];exact⟨D,U,k',rfl,h3.1,h2,h3.2⟩
theorem IX{C:CC}{T:TT'}(hs:shp C T)(h:Rg C T){p:PID}(hp:p∈pgs (szs C) T.length):PgR (pg C T p):=by
 have z1:∀c∈(zTs:DTs).2.2.2.2.2.2.2,iS c:=λc hc=>(by cases hc);have hz:TsR zTs:=⟨λx hx=>by simp[zTs]at hx;unfold R64;omega,z1,by simp[zTs]⟩
 have hid:R64 p.1/\R64 p.2:=by
  have s1:=hs.1;have s2:=hs.2.1
  rcases j8.1 hp with⟨i,j,hi,hj,rfl⟩|⟨t,ht,rfl⟩
  ·have h1:=CL (ur hs) hi;rw[fR]at hi;exact⟨by unfold R64;dsimp only;omega,by unfold R64;dsimp only;omega⟩
  ·exact⟨by unfold R64;dsimp only;omega,by unfold R64;dsimp only;omega⟩
 unfold pg;by_cases e:p.1=-1
 ·rw[oIP e]
  have ht:TsR (T.getD p.2.toNat zTs):=by
   rw[oGD]
   cases e:T[p.2.toNat]? with
   |none=>exact hz
   |some t=>exact h.2 t (List.mem_of_getElem? e)
  exact⟨λx hx=>by rcases List.mem_cons.1 hx with rfl|hx;exact hid.1;rw[List.mem_singleton.1 hx];exact hid.2,λc hc=>(by cases hc),ht.nums,ht.regs,by simp,Nat.le_trans ht.len (by decide)⟩
 ·rw[oIN e];refine⟨λx hx=>by rcases List.mem_cons.1 hx with rfl|hx;exact hid.1;rw[List.mem_singleton.1 hx];exact hid.2,λc hc=>?_,hz.nums,hz.regs,by simp;omega,Nat.le_trans hz.len (by decide)⟩;have h2:=List.mem_of_mem_drop (List.mem_of_mem_take hc);rw[oGD]at h2
  cases e2:C[p.1.toNat]? with
  |none=>rw[e2]at h2;cases h2
  |some r=>rw[e2]at h2;exact h.1 r (List.mem_of_getElem? e2) c h2
abbrev zC(S:List Int):CC:=S.map λz=>List.replicate z.toNat ((0,(0,(0,0))):DCn)
abbrev zT(n:Nat):TT':=List.replicate n (0,(0,(0,(0,(0,(0,(0,[])))))))
theorem Aq{C:CC}{T:TT'}(h:md C T):ub C T (zC (szs C)) (zT T.length):=by
 refine⟨?_,List.length_replicate,λt ht=>?_⟩
 ·unfold zC szs;rw[List.map_map,List.map_map];refine List.map_congr_left λc _=>?_;show((List.replicate (c.length:Int).toNat _).length:Int)=_;rw[List.length_replicate,oTN]
 ·rw[(List.mem_replicate.1 ht).2];simp[Sm]
theorem sr{S:List Int}{i:Nat}(h:i<S.length):((S.take i).map λz=>List.replicate z.toNat ((0,(0,(0,0))):DCn))++[List.replicate S[i].toNat (0,(0,(0,0)))]=(S.take (i+1)).map λz=>List.replicate z.toNat ((0,(0,(0,0))):DCn):=by
 rw[<- eM h,List.map_append];rfl
theorem GW{C:CC}{T:TT'}(h:md C T):gL (szs C) ((pgs (szs C) T.length).map (pg C T))=some (C,T,0,()):=by
 have hsz:=ur h.2.1;have c4:=h.2.1.1;have t4:=h.2.1.2.1;have hlen:=wg hsz t4
 have QM:(pgs (szs C) T.length).length=(pgs (szs C) 0).length+T.length:=by
  unfold pgs;simp
 obtain⟨S,hS⟩:∃S,S=szs C:=⟨_,rfl⟩;obtain⟨A,hA⟩:∃A,A=(pgs (szs C) T.length).map (pg C T):=⟨_,rfl⟩
 have OI:A.length=(pgs (szs C) T.length).length:=by rw[hA,List.length_map]
 have Lz:S.length=C.length:=by rw[hS,fR]
 unfold gL;rw[show d8 (szs C) 0=some (pgs (szs C) 0,0,())from B5 (n:=0) hsz (by omega),oBS];delta bB;dsimp only;rw[<- hA,bne_self_eq_false,oCF,cb (x:=(A.length:Int)-_) (by omega) (by omega),show(A.length:Int)-((pgs (szs C) 0).length:Int)=(T.length:Int) by omega,oDF (show ¬(T.length:Int)<0 by omega),oCF,oDF (show ¬(T.length:Int)>4 by omega),oCF,bZ];simp only[oBS];rw[show jZ T.length T.length 8=true by unfold jZ;simp;omega,oCT,<- hS]
 have l0:=df (f:=dR) (st:=λi=>(S,A,(T.length:Int),S,(S.length:Int),(i:Int),(),(),(S.take i).map (λz=>List.replicate z.toNat ((0,(0,(0,0))):DCn)),zT T.length,())) (n:=S.length) (N:=NN) (fin:=(S,A,(T.length:Int),S,(S.length:Int),(S.length:Int),false,(),(),(S.take S.length).map (λz=>List.replicate z.toNat ((0,(0,(0,0))):DCn)),zT T.length,())) (i6 (by omega)) (λi hi=>by
  have hz:=Ax (hS▸hsz) hi;unfold dR;dsimp only;rw[oDT (show(i:Int)<(S.length:Int) by omega),oCT,bZ];simp only[oBS];rw[ct hi];simp only[oBS]
  have e1:dM S[i]=some S[i].toNat:=by
   obtain⟨m,hm⟩:∃m:Nat,S[i]=m:=⟨S[i].toNat,by omega⟩;rw[hm,bZ,oTN]
  rw[e1];simp only[oBS];rw[show jZ S[i].toNat S[i].toNat 4=true by unfold jZ;simp;omega,oCT];rw[ck (by rw[List.length_map,oLT];omega) (by simp) (by omega) (by rw[List.length_map,oLT];simp;omega),oCT,cb (by omega) (by omega)];rw[<- sr hi]
  rfl) (by
  unfold dR;dsimp only
  rw[oDF (by omega),oCF])
 rw[List.take_length]at l0;rw[show bH dR NN (S,A,(T.length:Int),S,(S.length:Int),0,(),(),[],zT T.length,())=_ from l0,oBS];dsimp only;rw[hS,B5 hsz t4,oBS];dsimp only;have UG:=Aq h;have hZ:=r6 h UG;have MI:ub (zC (szs C)) (zT T.length) C T:=⟨UG.1.symm,UG.2.1.symm,h.2.2⟩;obtain⟨I,hI⟩:∃I,I=pgs (szs C) T.length:=⟨_,rfl⟩
 have Mz:∀i (hi:i<I.length),I[i]∈pgs (szs (zC (szs C))) (zT T.length).length:=λi hi=>by
  rw[UG.1,UG.2.1,<- hI];exact List.getElem_mem hi
 rw[<- hI]at OI hA⊢
 have Mx:I.length<=1000:=by rw[hI];omega
 obtain⟨r,hr,X',Y',e,hP⟩:=ye (f:=dQ) (P:=λi s=>∃(X':CC)(Y':TT'),s=(A,(A.length:Int),(i:Int),(),(),I,X',Y',())/\Hy (zC (szs C)) (zT T.length) C T (·∈I.take i) X' Y')
  (R:=λr=>∃(X':CC)(Y':TT'),r=(A,(A.length:Int),(A.length:Int),false,(),(),I,X',Y',())/\Hy (zC (szs C)) (zT T.length) C T (·∈I) X' Y') (n:=I.length) (λi s hi hs=>by
   obtain⟨X',Y',rfl,hP⟩:=hs;obtain⟨X2,Y2,e,MD⟩:=BO hZ MI hP (Mz i hi);refine⟨_,?_,X2,Y2,rfl,xV MD λq=>?_⟩
   ·unfold dQ;dsimp only;rw[oDT (show(i:Int)<(A.length:Int) by omega),oCT,bZ];simp only[oBS]
    have Mo:A[i]'(by omega)=pg C T I[i]:=by subst hA;rw[List.getElem_map]
    rw[ct (show i<A.length by omega),Mo];simp only[oBS];rw[ct hi];simp only[oBS]
    have hid:(pg C T I[i]).1=I[i].1/\(pg C T I[i]).2.1=I[i].2:=by
     unfold pg;split<;>exact⟨rfl,rfl⟩
    rw[hid.1,hid.2,beq_self_eq_true,beq_self_eq_true];rw[hid.1,hid.2]at e;simp only[Bool.and_true,oNT,oCF];rw[e];simp only[oBS];rw[bne_self_eq_false,oCF,cb (by omega) (by omega)];rfl
   ·rw[<- eM hi,List.mem_append,List.mem_singleton]) (λs hs=>by
   obtain⟨X',Y',rfl,hP⟩:=hs;refine⟨_,?_,X',Y',rfl,xV hP λq=>by rw[List.take_length]⟩;unfold dQ;dsimp only
   rw[oDF (by omega),oCF,OI]) (s:=(A,(A.length:Int),((0:Nat):Int),(),(),I,zC (szs C),zT T.length,())) ⟨zC (szs C),zT T.length,rfl,⟨⟨rfl,rfl,hZ.2.2⟩,λq _=>⟨λw=>by simp at w,λ_=>rfl⟩⟩⟩ (N:=NN) (i6 (by omega))
 subst e;rw[show bH dQ NN (A,(A.length:Int),0,(),(),I,zC (szs C),zT T.length,())=_ from hr,oBS]
 have hJ:I4 C T C T X' Y' []:=⟨pU h,rZ UG hP.1,λp hp=>(by cases hp),λq hq _=>by
  exact(hP.2 q (by rw[UG.1,UG.2.1];exact hq)).1 (hI▸hq)⟩
 obtain⟨rfl,rfl⟩:=hJ.done;rfl
theorem yO{l:List (CC×TT')}{b:List Bool}{S:List Int}{C:CC}{T:TT'}{I:List PID}{lo:PID->List Int}(hI:I.length<=1000)(YB:∀p∈I,(lo p).length<=5)
 (ha:∀p∈I,eI l b p.1 p.2 1=some ((pg C T p).1,(pg C T p).2.1,(pg C T p).2.2.1,(pg C T p).2.2.2.1,(pg C T p).2.2.2.2.1,(pg C T p).2.2.2.2.2.1,(pg C T p).2.2.2.2.2.2.1,(pg C T p).2.2.2.2.2.2.2.1,(pg C T p).2.2.2.2.2.2.2.2.1,(pg C T p).2.2.2.2.2.2.2.2.2.1,(pg C T p).2.2.2.2.2.2.2.2.2.2,lo p,0,())):
 bH cB NN (l,b,1,S,(I.length:Int),0,(),(),S,I,[],[],())=some (.inr (l,b,1,S,(I.length:Int),(I.length:Int),false,(),(),S,I,I.map (pg C T),I.flatMap lo,())):=by
 have l0:=df (f:=cB) (st:=λi=>(l,b,(1:Int),S,(I.length:Int),(i:Int),(),(),S,I,(I.take i).map (pg C T),(I.take i).flatMap lo,())) (n:=I.length) (N:=NN) (fin:=.inr (l,b,(1:Int),S,(I.length:Int),(I.length:Int),false,(),(),S,I,(I.take I.length).map (pg C T),(I.take I.length).flatMap lo,())) (i6 (by omega)) (λi hi=>by
  have hm:=List.getElem_mem hi
  have hf:((I.take i).flatMap lo).length<=5*i:=by
   have:∀J:List PID,(∀p∈J,(lo p).length<=5)->(J.flatMap lo).length<=5*J.length:=by
    intro J
    induction J with
    |nil=>intro _;exact Nat.le_refl _
    |cons p J ih=>
     intro h;rw[List.flatMap_cons,List.length_append,oLC];have:=h p List.mem_cons_self;have:=ih λq hq=>h q (List.mem_cons_of_mem _ hq);omega
   have:=this (I.take i) λp hp=>YB p (List.mem_of_mem_take hp);rw[oLT]at this;omega
  have hl:=YB _ hm;unfold cB;dsimp only;rw[oDT (show(i:Int)<(I.length:Int) by omega),oCT,bZ];simp only[oBS];rw[ct hi];simp only[oBS];rw[ha _ hm];simp only[oBS];rw[bne_self_eq_false,oCF,ck (by rw[List.length_map,oLT];omega) (by simp) (by omega) (by rw[List.length_map,oLT];simp;omega),oCT,ck (by omega) (by omega) (by omega) (by omega),oCT,cb (by omega) (by omega),<- eM hi,List.map_append,List.flatMap_append];simp only[List.flatMap_cons,List.flatMap_nil,List.append_nil]
  rfl) (by
  unfold cB;dsimp only
  rw[oDF (by omega),oCF])
 rw[List.take_length]at l0;exact l0
theorem zN{n:Nat}(hn:1<=n):dL (List.replicate n true) true=some (0,()):=by
 unfold dL;delta bB;dsimp only;obtain⟨m,rfl⟩:∃m,n=m+1:=⟨n-1,by omega⟩
 have e:∀M,bH de (M+1) (List.replicate (m+1) true,true,((List.replicate (m+1) true).length:Int),0,())=some (.inl (0,())):=λM=>by
  have e1:de (List.replicate (m+1) true,true,((List.replicate (m+1) true).length:Int),0,())=some (.inr (.inl (0,()))):=by
   unfold de;dsimp only;rw[List.length_replicate,oDT (show(0:Int)<((m+1:Nat):Int) by omega),oCT];rfl
  simp only[bH,e1,oBS]
 rw[show NN=(NN-1)+1 by decide,e]
end Go.Proofs.Ytakfoejcjdcgbaa
namespace Go.Proofs.Ytakfoejcjdcgbaa
open Go.RowKit Go.Lib
theorem IN:∀{l m:List Int},l.Pairwise (· < ·)->m.Pairwise (· < ·)->(∀x,x∈l↔x∈m)->l=m:=by
 intro l
 induction l with
 |nil=>
  intro m _ _ h
  cases m with
  |nil=>rfl
  |cons y m=>exact absurd ((h y).2 List.mem_cons_self) (by simp)
 |cons x l ih=>
  intro m hl hm h
  cases m with
  |nil=>exact absurd ((h x).1 List.mem_cons_self) (by simp)
  |cons y m=>
   obtain⟨hx,Yq⟩:=List.pairwise_cons.1 hl;obtain⟨hy,RM⟩:=List.pairwise_cons.1 hm
   have e:x=y:=by
    rcases List.mem_cons.1 ((h x).1 List.mem_cons_self)with e|g
    ·exact e
    ·rcases List.mem_cons.1 ((h y).2 List.mem_cons_self)with e|g2
     ·exact e.symm
     ·have:=hy x g;have:=hx y g2;omega
   subst e;rw[ih Yq RM λz=>?_];have hz:=h z;refine⟨λg=>?_,λg=>?_⟩
   ·rcases List.mem_cons.1 (hz.1 (List.mem_cons_of_mem _ g))with e|g2
    ·have:=hx z g;omega
    ·exact g2
   ·rcases List.mem_cons.1 (hz.2 (List.mem_cons_of_mem _ g))with e|g2
    ·have:=hy z g;omega
    ·exact g2
theorem lZ{zs:List Int}{j:Nat}(h:j<zs.length):zs.toArray[j]! = zs[j]:=by simp[h]
theorem wn{zs:List Int}{x:Int}:x∈compact zs↔x∈zs:=by
 unfold compact compactUpTo;simp only[List.mem_map,List.mem_filter,List.mem_range];constructor
 ·rintro⟨j,⟨hj,_⟩,rfl⟩;rw[lZ hj];exact List.getElem_mem hj
 ·intro h;have hlt:zs.findIdx (λy=>decide (y=x))<zs.length:=List.findIdx_lt_length_of_exists ⟨x,h,by simp⟩;refine⟨_,⟨hlt,?_⟩,?_⟩
  ·unfold keeps;by_cases h0:zs.findIdx (λy=>decide (y=x))=0
   ·exact oDT (.inl h0)
   ·have h1:=List.findIdx_getElem (xs:=zs) (p:=λy=>decide (y=x)) (w:=hlt);have h2:=List.not_of_lt_findIdx (xs:=zs) (p:=λy=>decide (y=x)) (i:=zs.findIdx (λy=>decide (y=x))-1) (by omega);have e1:=of_decide_eq_true h1
    have e2:zs[zs.findIdx (λy=>decide (y=x))-1]'(by omega)≠x:=by simpa using h2
    refine oDT (.inr ?_);rw[lZ hlt,lZ (show zs.findIdx (λy=>decide (y=x))-1<zs.length by omega),e1];exact λe=>e2 e.symm
  ·have:=List.findIdx_getElem (xs:=zs) (p:=λy=>decide (y=x)) (w:=hlt);have e:=of_decide_eq_true this;simp[hlt,e]
theorem wY{zs:List Int}(h:zs.Pairwise (·<=·)):(compact zs).Pairwise (· < ·):=by
 unfold compact compactUpTo;refine List.pairwise_map.2 ?_;have hr:((List.range zs.length).filter (keeps zs.toArray)).Pairwise (· < ·):=List.Pairwise.filter _ List.pairwise_lt_range;refine hr.imp_of_mem λ{a b} ha hb hab=>?_;have Z0:b<zs.length:=List.mem_range.1 (List.mem_filter.1 hb).1;have hk:=of_decide_eq_true (List.mem_filter.1 hb).2
 have h0:b≠0:=by omega
 have h1:=hk.resolve_left h0;have h2:=List.pairwise_iff_getElem.1 h;rw[lZ Z0,lZ (show b-1<zs.length by omega)]at h1;rw[lZ Z0,lZ (show a<zs.length by omega)];have h3:=h2 (b-1) b (by omega) Z0 (by omega)
 have h4:zs[a]<=zs[b-1]:=by
  rcases Nat.lt_or_ge a (b-1)with g|g
  ·exact h2 a (b-1) (by omega) (by omega) g
  ·have:a=b-1:=by omega
   subst this;exact Int.le_refl _
 omega
theorem vl{l m:List Int}(hm:m.Pairwise (· < ·))(h:∀x,x∈l↔x∈m):compact (l.mergeSort λx y=>decide (x<=y))=m:=by
 refine IN (wY ?_) hm λx=>?_
 ·have:=List.pairwise_mergeSort (le:=λx y:Int=>decide (x<=y)) (λa b c h1 h2=>oDT (by have:=of_decide_eq_true h1;have:=of_decide_eq_true h2;omega)) (λa b=>by by_cases g:a<=b<;>simp[g];omega) l;exact this.imp λh=>of_decide_eq_true h
 ·rw[wn,List.mem_mergeSort,h]
abbrev ST:Type:=CC×TT'
def qC(l:List ST)(s:ST)(n:Nat):List Int:=((List.range n).filter λj=>decide (l.getD j s≠s)).map λj:Nat=>((j:Nat):Int)
def loP(l:List ST)(s:ST)(p:PID):List Int:=sK (l.map λx=>pgB (pg x.1 x.2 p)) (pgB (pg s.1 s.2 p)) l.length
theorem xX{L:List (List Int)}{b:List Int}{n:Nat}{x:Int}:x∈sK L b n↔∃j:Nat,j<n/\L.getD j []≠b/\x=j:=by
 unfold sK;simp only[List.mem_map,List.mem_filter,List.mem_range,oDE];exact⟨λ⟨j,⟨h1,h2⟩,h3⟩=>⟨j,h1,h2,h3.symm⟩,λ⟨j,h1,h2,h3⟩=>⟨j,⟨h1,h2⟩,h3.symm⟩⟩
theorem xY{l:List ST}{s:ST}{n:Nat}{x:Int}:x∈qC l s n↔∃j:Nat,j<n/\l.getD j s≠s/\x=j:=by
 unfold qC;simp only[List.mem_map,List.mem_filter,List.mem_range,oDE];exact⟨λ⟨j,⟨h1,h2⟩,h3⟩=>⟨j,h1,h2,h3.symm⟩,λ⟨j,h1,h2,h3⟩=>⟨j,⟨h1,h2⟩,h3.symm⟩⟩
theorem EL(l:List ST)(s:ST)(n:Nat):(qC l s n).Pairwise (· < ·):=by
 unfold qC;refine List.pairwise_map.2 ((List.Pairwise.filter _ List.pairwise_lt_range).imp λ{a b} h=>?_);omega
theorem wN{l:List ST}{s:ST}{p:PID}{j:Nat}(h:j<l.length):(l.map λx=>pgB (pg x.1 x.2 p)).getD j []=pgB (pg l[j].1 l[j].2 p):=by
 rw[oGD,oGE (by simpa using h),Option.getD_some,List.getElem_map]
theorem wM{l:List ST}{s:ST}{j:Nat}(h:j<l.length):l.getD j s=l[j]:=by
 rw[oGD,oGE h,Option.getD_some]
theorem Dn{C:CC}{T:TT'}(h:md C T){X:CC}{Y:TT'}(hL:ub C T X Y)(hp:∀q∈pgs (szs C) T.length,pg X Y q=pg C T q):(X,Y)=(C,T):=by
 have hJ:I4 C T C T X Y []:=⟨pU h,hL,λp hp=>(by cases hp),λq hq _=>hp q hq⟩;obtain⟨rfl,rfl⟩:=hJ.done;rfl
theorem D8{l:List ST}{s:ST}{p:PID}{x:Int}(h:x∈loP l s p):x∈qC l s l.length:=by
 obtain⟨j,h1,h2,h3⟩:=xX.1 h;refine xY.2 ⟨j,h1,λe=>h2 ?_,h3⟩;rw[wN (s:=s) h1,<- wM (s:=s) h1,e]
theorem Cy{l:List ST}{s:ST}(h:md s.1 s.2)(hg:Rg s.1 s.2)(hl:∀x∈l,qF s.1 s.2 x.1 x.2)(x:Int):x∈(pgs (szs s.1) s.2.length).flatMap (loP l s)↔x∈qC l s l.length:=by
 refine⟨λhx=>?_,λhx=>?_⟩
 ·obtain⟨p,_,hp⟩:=List.mem_flatMap.1 hx;exact D8 hp
 ·obtain⟨j,h1,h2,h3⟩:=xY.1 hx;rw[wM h1]at h2;have hj:=hl _ (List.getElem_mem h1);apply Classical.byContradiction;intro hn;apply h2;refine Dn h hj.1 λq hq=>?_;apply Classical.byContradiction;intro hne;apply hn;refine List.mem_flatMap.2 ⟨q,hq,xX.2 ⟨j,h1,λe=>hne ?_,h3⟩⟩;rw[wN (s:=s) h1]at e;have s1:=mI hj.1 h.2.1;exact wh (IX s1 hj.2 (by rw[hj.1.1,hj.1.2.1];exact hq)) (IX h.2.1 hg hq) e
theorem wo{l:List ST}{s:ST}{p:PID}:(loP l s p).length<=(qC l s l.length).length:=by
 unfold loP sK qC;rw[List.length_map,List.length_map,<- List.countP_eq_length_filter,<- List.countP_eq_length_filter];refine List.countP_mono_left λj hj h=>?_;have hj:=List.mem_range.1 hj;have h:=of_decide_eq_true h;refine oDT λe=>h ?_;rw[wN (s:=s) hj,<- wM (s:=s) hj,e]
theorem Ik{l:List ST}{s:ST}(hb:2*(qC l s l.length).length<l.length)(p:PID):l.length<2*(lV (l.map λx=>pgB (pg x.1 x.2 p)) (pgB (pg s.1 s.2 p)) l.length).length:=by
 have h1:=pe (l.map λx=>pgB (pg x.1 x.2 p)) (pgB (pg s.1 s.2 p)) l.length;have h2:=wo (l:=l) (s:=s) (p:=p);unfold loP at h2;omega
theorem vG{l:List ST}{s:ST}(h1:1<=l.length)(hn:l.length<=5)(h:md s.1 s.2)(hg:Rg s.1 s.2)(hl:∀x∈l,qF s.1 s.2 x.1 x.2)(hb:2*(qC l s l.length).length<l.length):
 bH cB NN (l,List.replicate l.length true,1,szs s.1,((pgs (szs s.1) s.2.length).length:Int),0,(),(),szs s.1,pgs (szs s.1) s.2.length,[],[],())=
  some (.inr (l,List.replicate l.length true,1,szs s.1,((pgs (szs s.1) s.2.length).length:Int),((pgs (szs s.1) s.2.length).length:Int),false,(),(),szs s.1,pgs (szs s.1) s.2.length,(pgs (szs s.1) s.2.length).map (pg s.1 s.2),(pgs (szs s.1) s.2.length).flatMap (loP l s),())):=by
 have hlen:=wg (ur h.2.1) h.2.1.2.1;refine yO (by omega) (λp hp=>?_) λp hp=>?_
 ·have:=wo (l:=l) (s:=s) (p:=p);omega
 ·exact Hd h1 hn (λx hx=>by
   have hx:=hl x hx;have s1:=mI hx.1 h.2.1
   have hp':p∈pgs (szs x.1) x.2.length:=by rw[hx.1.1,hx.1.2.1];exact hp
   exact⟨s1,hx.1.2.2,hp',IX s1 hx.2 hp'⟩) (IX h.2.1 hg hp) rfl (Ik hb p)
end Go.Proofs.Ytakfoejcjdcgbaa
namespace Go.Proofs.Ytakfoejcjdcgbaa
open Go.RowKit
def Id(bad:Bool):Int×Int×Bool×Bool×Bool×Bool×Bool×(List (List DCn))×(List DTs)×(List ((List (List DCn))×List DTs))×(List (Bool))×(List (Int))×(List (Int))×Int×Unit->Option ((Int×Int×Bool×Bool×Bool×Bool×Bool×(List (List DCn))×(List DTs)×(List ((List (List DCn))×List DTs))×(List (Bool))×(List (Int))×(List (Int))×Int×Unit)⊕(Int×Int×Bool×Bool×Bool×Bool×Bool×Bool×(List (List DCn))×(List DTs)×(List ((List (List DCn))×List DTs))×(List (Bool))×(List (Int))×(List (Int))×Int×Unit)):=λ(v0,v1,v2,v3,v4,v5,v6,v7,v8,v9,v10,v11,v12,v13,_)=>
(((match((some (v0,v1,bad,v2,v3,v4,v5,v6,v7,v8,v9,v10,v11,v7,v8,v12,v13,()):Option (Int×Int×Bool×Bool×Bool×Bool×Bool×Bool×(List (List DCn))×(List DTs)×(List ((List (List DCn))×List DTs))×(List (Bool))×(List (Int))×(List (List DCn))×(List DTs)×(List (Int))×Int×Unit)).bind λ(x0,x1,x2,x3,x4,x5,x6,x7,x8,x9,x10,x11,x12,x13,x14,x15,x16,_)=>
bif x2 then((bI 4 x15 x16).bind λ(x17,x18,x19,_)=>
let Rr:Int:=(w64 (1+x17));
(gh x8 x9 Rr x18 x19).bind λ(x21,x22,x23,x24,_)=>
(fb x21 x22 x8 x9).bind λ(x25,_)=>
bif(!x25)then(bif(cn 8 (List.length x12) (List.length [x1]))then let x26:List (Int):=(List.append x12 [x1]);
some (.inl (x0,x1,x3,x4,x5,x6,x7,x8,x9,x10,x11,x26,x21,x22,x23,x24,()))else none)else
some (.inl (x0,x1,x3,x4,x5,x6,x7,x8,x9,x10,x11,x12,x21,x22,x23,x24,())))else
some (.inr (x0,x1,x3,x4,x5,x6,x7,x8,x9,x10,x11,x12,x13,x14,x15,x16,())):Option ((Int×Int×Bool×Bool×Bool×Bool×Bool×(List (List DCn))×(List DTs)×(List ((List (List DCn))×List DTs))×(List (Bool))×(List (Int))×(List (List DCn))×(List DTs)×(List (Int))×Int×Unit)⊕(Int×Int×Bool×Bool×Bool×Bool×Bool×(List (List DCn))×(List DTs)×(List ((List (List DCn))×List DTs))×(List (Bool))×(List (Int))×(List (List DCn))×(List DTs)×(List (Int))×Int×Unit)))with
|none=>none
|some (.inl (x0,x1,x2,x3,x4,x5,x6,x7,x8,x9,x10,x11,x12,x13,x14,x15,_))=>
let x16:List ((List (List DCn))×List DTs):=[(x12,x13)];
bif(cn 48 (List.length x9) (List.length x16))then let x17:List ((List (List DCn))×List DTs):=(List.append x9 x16);
bif(cn 1 (List.length x10) (List.length [true]))then let x18:List (Bool):=(List.append x10 [true]);
some (x0,x1,x2,x3,x4,x5,x6,x7,x8,x17,x18,x11,x14,x15,())else none else none
|some (.inr (x0,x1,x2,x3,x4,x5,x6,x7,x8,x9,x10,x11,x12,x13,x14,x15,_))=>
let x16:List ((List (List DCn))×List DTs):=[(x12,x13)];
bif(cn 48 (List.length x9) (List.length x16))then let x17:List ((List (List DCn))×List DTs):=(List.append x9 x16);
bif(cn 1 (List.length x10) (List.length [true]))then let x18:List (Bool):=(List.append x10 [true]);
some (x0,x1,x2,x3,x4,x5,x6,x7,x8,x17,x18,x11,x14,x15,())else none else none):Option (Int×Int×Bool×Bool×Bool×Bool×Bool×(List (List DCn))×(List DTs)×(List ((List (List DCn))×List DTs))×(List (Bool))×(List (Int))×(List (Int))×Int×Unit)).bind λ(x0,x1,x2,x3,x4,x5,x6,x7,x8,x9,x10,x11,x12,x13,_)=>
let x14:Int:=(w64 (x1+1));
some (.inl (x0,x14,x2,x3,x4,x5,x6,x7,x8,x9,x10,x11,x12,x13,())))
theorem In{n i:Nat}(hi:i<n)(hn:n<=5)(b0 b1 b2 b3 b4:Bool)(C:CC)(T:TT')(all:List ST)(ins:List Bool){lo:List Int}(l:List Int)(k:Int)(YB:lo.length<=5):
 ∃bad:Bool,(bad=true->2*(lo.length+1)<n)/\cr ((n:Int),(i:Int),b0,b1,b2,b3,b4,C,T,all,ins,lo,l,k,())=Id bad ((n:Int),(i:Int),b0,b1,b2,b3,b4,C,T,all,ins,lo,l,k,()):=by
 have hd:decide ((lo.length:Int)<w64 (Int.tdiv (w64 ((n:Int)-1)) 2))=true->2*(lo.length+1)<n:=λh=>by
  have h:=of_decide_eq_true h;rw[cb (x:=(n:Int)-1) (by omega) (by omega)]at h;have e:Int.tdiv ((n:Int)-1) 2=((n:Int)-1)/2:=Int.tdiv_eq_ediv_of_nonneg (by omega);rw[e,cb (by omega) (by omega)]at h;omega
 have hc:∀b:Bool,(b&&decide ((lo.length:Int)<w64 (Int.tdiv (w64 ((n:Int)-1)) 2)))=true->2*(lo.length+1)<n:=λb h=>hd (by cases b<;>simp_all);have Qb:decide ((i:Int)<(n:Int))=true:=oDT (by omega);unfold cr;dsimp only;rw[Qb,oCT]
 obtain rfl|rfl|rfl|rfl|rfl:i=0\/i=1\/i=2\/i=3\/i=4:=by omega
 ·exact⟨_,hc b0,by cases b0<;>rfl⟩
 ·exact⟨_,hc b1,by cases b1<;>rfl⟩
 ·exact⟨_,hc b2,by cases b2<;>rfl⟩
 ·exact⟨_,hc b3,by cases b3<;>rfl⟩
 ·exact⟨_,hc b4,by cases b4<;>rfl⟩
theorem ji{all:List ST}{s x:ST}{i:Nat}(h:all.length=i):qC (all++[x]) s (i+1)=if x=s then qC all s i else qC all s i++[(i:Int)]:=by
 subst h;unfold qC;rw[List.range_succ,List.filter_append,List.map_append]
 have e1:(List.range all.length).filter (λj=>decide ((all++[x]).getD j s≠s))=(List.range all.length).filter λj=>decide (all.getD j s≠s):=by
  refine List.filter_congr λj hj=>?_;have hj:=List.mem_range.1 hj;rw[oGD,oGD,List.getElem?_append_left hj]
 have e2:(all++[x]).getD all.length s=x:=by
  rw[oGD,List.getElem?_append_right (Nat.le_refl _),Nat.sub_self];rfl
 rw[e1];by_cases g:x=s
 ·rw[oIP g,List.filter_cons_of_neg (by rw[e2];simpa using g),List.filter_nil,List.map_nil,List.append_nil]
 ·rw[oIN g,List.filter_cons_of_pos (by rw[e2];simpa using g)];rfl
theorem vK{C:CC}{T:TT'}(h:md C T)(hg:Rg C T){l:List Int}(hl:l.length<=400){n:Nat}(h1:1<=n)(hn:n<=5)(b0 b1 b2 b3 b4:Bool){k:Int}(hk:0<=k):
 ∃(all:List ST)(k':Int),bH cr NN ((n:Int),0,b0,b1,b2,b3,b4,C,T,[],[],[],l,k,())=some ((n:Int),(n:Int),false,b0,b1,b2,b3,b4,C,T,all,List.replicate n true,qC all (C,T) n,l,k',())/\
  all.length=n/\(∀x∈all,qF C T x.1 x.2)/\2*(qC all (C,T) n).length<n:=by
 have UW:qF C T C T:=⟨pU h,hg⟩
 obtain⟨r,hr,all,k',e,r1,r2,r3⟩:=ye (f:=cr)
  (P:=λi s=>∃(all:List ST)(k:Int),s=((n:Int),(i:Int),b0,b1,b2,b3,b4,C,T,all,List.replicate i true,qC all (C,T) i,l,k,())/\all.length=i/\(∀x∈all,qF C T x.1 x.2)/\2*(qC all (C,T) i).length<n/\0<=k)
  (R:=λt=>∃(all:List ST)(k:Int),t=((n:Int),(n:Int),false,b0,b1,b2,b3,b4,C,T,all,List.replicate n true,qC all (C,T) n,l,k,())/\all.length=n/\(∀x∈all,qF C T x.1 x.2)/\2*(qC all (C,T) n).length<n) (n:=n)
  (by
   rintro i s hi ⟨all,k,rfl,ha,hL,hb,hk⟩;obtain⟨bad,T9,e⟩:=In hi hn b0 b1 b2 b3 b4 C T all (List.replicate i true) (lo:=qC all (C,T) i) l k (by omega);rw[e];unfold Id
   have hw:w64 ((i:Int)+1)=((i+1:Nat):Int):=by rw[cb (by omega) (by omega)];rfl
   have XX:List.append (List.replicate i true) [true]=List.replicate (i+1) true:=List.replicate_succ'.symm;have P1:∀x:ST,cn 48 (List.length all) (List.length [x])=true:=λx=>ck (by omega) (by simp) (by omega) (by simp;omega);have T7:cn 1 (List.length (List.replicate i true)) (List.length [true])=true:=ck (by simp;omega) (by simp) (by omega) (by simp;omega)
   cases bad with
   |false=>
    simp only[oBS,oCF];rw[P1,oCT,T7,oCT];simp only[oBS];rw[hw,XX];refine⟨_,rfl,all++[(C,T)],k,?_,by rw[List.length_append,ha];rfl,λx hx=>?_,?_,hk⟩
    ·rw[ji ha,oIP rfl];rfl
    ·rcases List.mem_append.1 hx with g|g
     ·exact hL x g
     ·rw[List.mem_singleton.1 g];exact UW
    ·rw[ji ha,oIP rfl];exact hb
   |true=>
    have T9:=T9 rfl;simp only[oBS,oCT];obtain⟨x,k1,e,xa,xb,ZA⟩:=fG (n:=4) (by omega) (by omega) hl hk;rw[e];simp only[oBS];rw[cb (x:=1+x) (by omega) (by omega)];obtain⟨D,U,k2,e,hD,hk2,Ms⟩:=Gw h hg (n:=1+x) (by omega) (by omega) hl ZA;rw[e];simp only[oBS];rw[Fa (mI hD h.2.1) hD.2.2];simp only[oBS];by_cases g:D=C/\U=T
    ·obtain⟨rfl,rfl⟩:=g;rw[oDT ⟨rfl,rfl⟩,oNT,oCF];simp only[oBS];rw[P1,oCT,T7,oCT];simp only[oBS];rw[hw,XX];refine⟨_,rfl,all++[(D,U)],k2,?_,by rw[List.length_append,ha];rfl,λx hx=>?_,?_,hk2⟩
     ·rw[ji ha,oIP rfl];rfl
     ·rcases List.mem_append.1 hx with g|g
      ·exact hL x g
      ·rw[List.mem_singleton.1 g];exact UW
     ·rw[ji ha,oIP rfl];exact hb
    ·rw[oDF g,Bool.not_false,oCT];rw[ck (by omega) (by simp) (by omega) (by simp;omega),oCT];simp only[oBS];rw[P1,oCT,T7,oCT];simp only[oBS];rw[hw,XX];have g2:(D,U)≠(C,T):=λe=>g (Prod.mk.inj e);refine⟨_,rfl,all++[(D,U)],k2,?_,by rw[List.length_append,ha];rfl,λx hx=>?_,?_,hk2⟩
     ·rw[ji ha,oIN g2];rfl
     ·rcases List.mem_append.1 hx with g|g
      ·exact hL x g
      ·rw[List.mem_singleton.1 g];exact⟨hD,Ms⟩
     ·rw[ji ha,oIN g2,List.length_append,List.length_singleton]
      exact T9)
  (by
   rintro s ⟨all,k,rfl,ha,hL,hb,hk⟩;unfold cr;dsimp only;rw[oDF (by omega),oCF]
   exact⟨_,rfl,all,k,rfl,ha,hL,hb⟩)
  (s:=((n:Int),((0:Nat):Int),b0,b1,b2,b3,b4,C,T,[],[],[],l,k,())) ⟨[],k,rfl,rfl,λx hx=>(by cases hx),by show 0<n;omega,hk⟩ (N:=NN) (i6 (by omega))
 subst e;exact⟨all,k',hr,r1,r2,r3⟩
end Go.Proofs.Ytakfoejcjdcgbaa
namespace Go.Proofs.Ytakfoejcjdcgbaa
open Go.RowKit Go.Lib
theorem Fv(zs:List Int):Fy (pK 2 zs) 0 (rowN zs)=compact zs:=by
 show((compact zs++List.replicate (zs.length-(compact zs).length) 0).drop 0).take (compact zs).length=_;simp
theorem GN{α β:Type}{f:α->List β}{n:Nat}:∀{l:List α},(∀x∈l,(f x).length<=n)->(l.flatMap f).length<=n*l.length:=by
 intro l
 induction l with
 |nil=>intro _;simp
 |cons x l ih=>
  intro h;have h1:=h x (by simp);have h2:=ih λy hy=>h y (by simp[hy]);rw[List.flatMap_cons,List.length_append,oLC,Nat.mul_succ];omega
theorem Fz{all:List ST}{C:CC}{T:TT'}(h1:1<=all.length)(hn:all.length<=5)(h:md C T)(hg:Rg C T)(hl:∀x∈all,qF C T x.1 x.2)(hb:2*(qC all (C,T) all.length).length<all.length):
 fY all (List.replicate all.length true) 1=some (C,T,qC all (C,T) all.length,0,()):=by
 have h0:=hl _ (List.getElem_mem (show 0<all.length by omega));unfold fY;rw[zN h1,oBS];delta bB;dsimp only;rw[List.length_replicate,bne_self_eq_false,oCF,oDF (show ¬(0:Int)<0 by omega),oCF,show dM (0:Int)=some 0 from bZ 0];simp only[oBS];rw[ct (show 0<all.length by omega)];simp only[oBS]
 have hS:Sm all[0].1:=by
  have e:=iU h0.1.1;have:=h.2.1.1;unfold Sm;omega
 rw[FF hS,oBS];dsimp only;rw[h0.1.1,h0.1.2.1,B5 (ur h.2.1) h.2.1.2.1,oBS];dsimp only;rw[bne_self_eq_false,oCF];rw[show bH cB NN (all,List.replicate all.length true,1,szs C,((pgs (szs C) T.length).length:Int),0,(),(),szs C,pgs (szs C) T.length,[],[],())=_ from vG (s:=(C,T)) h1 hn h hg hl hb];dsimp only
 have LF:((pgs (szs C) T.length).flatMap (loP all (C,T))).length<=5000:=by
  have h2:=wg (ur h.2.1) h.2.1.2.1
  have h3:=GN (f:=loP all (C,T)) (n:=5) (l:=pgs (szs C) T.length) λp hp=>by
   have:=wo (l:=all) (s:=(C,T)) (p:=p);omega
  omega
 have Z0:Nat.blt ((pgs (szs C) T.length).flatMap (loP all (C,T))).length 4611686018427387904=true:=Nat.ble_eq_true_of_le (by omega);rw[Z0,oCT,GW h,oBS];dsimp only
 have Z':Nat.blt (pK 1 ((pgs (szs C) T.length).flatMap (loP all (C,T)))).length 4611686018427387904=true:=by rw[jv];exact Z0
 rw[bne_self_eq_false,oCF,Z',oCT,Fv,show pK 1 ((pgs (szs C) T.length).flatMap (loP all (C,T)))=((pgs (szs C) T.length).flatMap (loP all (C,T))).mergeSort λx y=>decide (x<=y)from rfl,vl (EL all (C,T) all.length) (Cy (s:=(C,T)) h hg hl)]
end Go.Proofs.Ytakfoejcjdcgbaa
namespace Go.Proofs.Ytakfoejcjdcgbaa
open Go.RowKit
def Ap:List CT->CT
 | []=>.nat
 | [t]=>t
 |t::u::r=>.pair t (Ap (u::r))
def jQ:(l:List CT)->HL den l->den (Ap l)
 | [],_=>(0:Nat)
 | [_],h=>h.1
 |_::u::r,h=>(h.1,jQ (u::r) h.2)
def encL:(l:List CT)->HL den l->List TV
 | [],_=>[]
 |t::r,h=>enc t h.1++encL r h.2
theorem yv:∀(l:List CT)(h:HL den l),enc (Ap l) (jQ l h)=encL l h
 | [],_=>rfl
 | [_],h=>(List.append_nil _).symm
 |_::u::r,h=>by
  show enc _ h.1++enc (Ap (u::r)) (jQ (u::r) h.2)=_;rw[yv (u::r) h.2];rfl
def Dd:(c:CT)->den c->Prop
 |.int k,n=>(Lit.int k n).wf=true
 |.str,s=>ByteArray.size s<=maxLen
 |.row _ t,xs=>List.length xs<=maxLen/\∀x∈xs,Dd t x
 |.pair a b,x=>Dd a x.1/\Dd b x.2
 |_,_=>True
def GoodL:(l:List CT)->HL den l->Prop
 | [],_=>True
 |t::r,h=>Dd t h.1/\GoodL r h.2
theorem vb:∀(l:List CT)(h:HL den l),GoodL l h->Dd (Ap l) (jQ l h)
 | [],_,_=>trivial
 | [_],_,g=>g.1
 |_::u::r,h,g=>⟨g.1,vb (u::r) h.2 g.2⟩
def appL:(l m:List CT)->HL den l->HL den m->HL den (l++m)
 | [],_,_,k=>k
 |_::r,m,h,k=>(h.1,appL r m h.2 k)
theorem yw:∀(l m:List CT)(h:HL den l)(k:HL den m),encL (l++m) (appL l m h k)=encL l h++encL m k
 | [],_,_,_=>rfl
 |t::r,m,h,k=>by
  show enc t h.1++encL (r++m) (appL r m h.2 k)=(enc t h.1++encL r h.2)++_;rw[yw r m h.2 k,List.append_assoc]
theorem yl:∀(l m:List CT)(h:HL den l)(k:HL den m),GoodL l h->GoodL m k->GoodL (l++m) (appL l m h k)
 | [],_,_,_,_,g=>g
 |_::r,m,h,k,g,g'=>⟨g.1,yl r m h.2 k g.2 g'⟩
def RelL(w:World):List TV->List Value->Prop
 | [],[]=>True
 |t::ts,v::vs=>fM w (λ_=>True) t v/\RelL w ts vs
 |_,_=>False
theorem RelL.app{w:World}:∀{a:List TV}{x:List Value}{b:List TV}{y:List Value},RelL w a x->RelL w b y->RelL w (a++b) (x++y)
 | [],[],_,_,_,h=>h
 |_::a,_::x,_,_,g,h=>⟨g.1,RelL.app (a:=a) (x:=x) g.2 h⟩
 | [],_::_,_,_,g,_=>g.elim
 |_::_,[],_,_,g,_=>g.elim
theorem RelL.len{w:World}:∀{a:List TV}{x:List Value},RelL w a x->a.length=x.length
 | [],[],_=>rfl
 |_::a,_::x,g=>by rw[oLC,oLC,RelL.len (a:=a) (x:=x) g.2]
 | [],_::_,g=>g.elim
 |_::_,[],g=>g.elim
theorem RelL.get{w:World}:∀{a:List TV}{x:List Value},RelL w a x->∀j (h:j<a.length)(h':j<x.length),fM w (λ_=>True) a[j] x[j]
 |_::_,_::_,g,0,_,_=>g.1
 |_::a,_::x,g,j+1,h,h'=>RelL.get (a:=a) (x:=x) g.2 j (by simpa using h) (by simpa using h')
 | [],_,_,_,h,_=>by simp at h
 |_::_,[],g,_,_,_=>g.elim
def Hr(P:Program)(g:TypeId->Option (List CT)):Nat->List Field->Option (List CT)
 |_,[]=>some []
 |off,f::fs=>match g f.type with
  |some l=>if f.offset=off/\l.length=P.cellsOf f.type then(Hr P g (off+l.length) fs).map (l++·)else none
  |none=>none
def arF(P:Program)(e:TypeId)(i:Nat):Field:={ (default:Field)with type:=e,offset:=i*P.cellsOf e }
def nG(P:Program):Nat->TypeId->Option (List CT)
 |0,_=>none
 |n+1,t=>match P.underlying t with
  |some .bool=>some [.bool]
  |some (.int k)=>some [.int k]
  |some .string=>some [.str]
  |some (.slice e)=>match nG P n e with
   |some l=>if l.length=P.cellsOf e then some [.row false (Ap l)]else none
   |none=>none
  |some (.struct fs)=>match Hr P (nG P n) 0 fs.toList with
   |some l=>if l.length=P.cellsOf t then some l else none
   |none=>none
  |some (.array m e)=>match Hr P (nG P n) 0 ((List.range m).map (arF P e))with
   |some l=>if l.length=P.cellsOf t then some l else none
   |none=>none
  |_=>none
theorem okWide_array{P:Program}{w:World}{r:Reach}{base:Nat}{t:TypeId}{v:Value}{n:Nat}{e:TypeId}(ht:P.underlying t=some (.array n e))(h:Value.okWide P w r base t v):∃cs,v=.agg cs/\cs.size=P.cellsOf t:=by
 simp only[Value.okWide,ht]at h;obtain⟨cs,h1,h2,_⟩:=h;exact⟨cs,h1,h2⟩
section
variable {H:Type} {ec:TypeId×Value->H} {P:Program} {w:World} {base:Nat} {spare:Nat->Bool} {held:Bool}
theorem uT{g:TypeId->Option (List CT)}{m:Nat}{cs:List Value}
 (ih:∀t L,g t=some L->∀cs x,DataW.trod ec P w base spare held m t cs=some x->∃h:HL den L,GoodL L h/\RelL w (encL L h) cs):
 ∀(fs:List Field)(off:Nat)(L:List CT),Hr P g off fs=some L->(∀f∈fs,∃x,DataW.trod ec P w base spare held m f.type ((cs.drop f.offset).take (P.cellsOf f.type))=some x)->
  ∃h:HL den L,GoodL L h/\RelL w (encL L h) ((cs.drop off).take L.length):=by
 intro fs
 induction fs with
 |nil=>
  intro off L hL _
  injection hL with hL
  subst hL;exact⟨(),trivial,trivial⟩
 |cons f fs Ri=>
  intro off L hL hx;unfold Hr at hL;split at hL
  ·rename_i l hg;split at hL
   ·rename_i ho;obtain⟨rfl,hlen⟩:=ho
    cases hr:Hr P g (f.offset+l.length) fs with
    |none=>simp_all
    |some L2=>
     rw[hr]at hL
     injection hL with hL
     subst hL;obtain⟨x,h1⟩:=hx f List.mem_cons_self;obtain⟨h,g1,r1⟩:=ih _ _ hg _ _ h1;have ⟨k,g2,r2⟩:=Ri _ _ hr λf' RC=>hx f' (List.mem_cons_of_mem _ RC);refine⟨appL l L2 h k,yl _ _ _ _ g1 g2,?_⟩;rw[yw,List.length_append,List.take_add,List.drop_drop];rw[hlen];rw[hlen]at r2;exact r1.app r2
   ·cases hL
  ·cases hL
theorem yP{n:Nat}{e t:TypeId}{Yy:Nat}{cs:List Value}{x:DataW H×List MemPlace}(ht:P.underlying t=some (.array n e))(h:DataW.trod ec P w base spare held Yy t cs=some x):
 ∃m,cs.length=P.cellsOf t/\∀i,i<n->∃y,DataW.trod ec P w base spare held m e ((cs.drop (i*P.cellsOf e)).take (P.cellsOf e))=some y:=by
 cases Yy with
 |zero=>simp[DataW.trod]at h
 |succ m=>
  unfold DataW.trod at h;rw[ht]at h;split at h<;>simp_all;obtain⟨hl,xs,hp,hd⟩:=h;refine⟨m,λi hi=>?_⟩;have h1:=mapM_some_get hp i i (by simp[hi]);have h2:=mapM_some_length hp;rw[List.length_range]at h2;rw[oGE (by omega)]at h1;exact⟨_,_,h1⟩
theorem Ip:∀(n:Nat)(t:TypeId)(L:List CT),nG P n t=some L->∀(Yy:Nat)(cs:List Value)(x:DataW H×List MemPlace),DataW.trod ec P w base spare held Yy t cs=some x ->
 ∃h:HL den L,GoodL L h/\RelL w (encL L h) cs:=by
 intro n
 induction n with
 |zero=>intro t L h;cases h
 |succ n ih=>
  intro t L hL Yy cs x hx;unfold nG at hL;split at hL
  ·rename_i ht
   injection hL with hL
   subst hL;obtain⟨b,rfl,_⟩:=DataW.trod_bool ht hx;exact⟨(b,()),⟨trivial,trivial⟩,.v rfl,trivial⟩
  ·rename_i k ht
   injection hL with hL
   subst hL;obtain⟨z,rfl,_,hw⟩:=DataW.trod_int ht hx;exact⟨(z,()),⟨hw,trivial⟩,.v rfl,trivial⟩
  ·rename_i ht
   injection hL with hL
   subst hL;obtain⟨s,rfl,_,hs⟩:=DataW.trod_string ht hx;exact⟨(s,()),⟨hs,trivial⟩,.v rfl,trivial⟩
  ·rename_i e ht;split at hL
   ·rename_i l hl;split at hL
    ·rename_i hsz
     injection hL with hL
     subst hL
     rcases DataW.trod_slice ht hx with⟨rfl,_⟩|⟨a,len,cap,OC,rest,m,_,rfl,_,_,Yv,hmax,Y4,Z4,_,_⟩
     ·exact⟨([],()),⟨⟨Nat.zero_le _,λx hx=>by cases hx⟩,trivial⟩,.sl (c:=[]) 1 (λ_ _=>undef) (λi h=>by simp at h) (Nat.le_refl _) (Nat.zero_le _) (λ_=>rfl) (λi j h=>by simp at h) (λi j h=>by simp at h),trivial⟩
     ·have PE:∀i:Fin len,∃p:HL den l×List Value,GoodL l p.1/\RelL w (encL l p.1) p.2/\w.cells? base (a.add (i.1*P.cellsOf e)) (P.cellsOf e)=some p.2:=by
       intro i;have h1:=Z4 i.1 i.2;rw[oGE (by omega)]at h1;obtain⟨Ru,h2,h3⟩:=Option.bind_eq_some_iff.1 h1;obtain⟨h,g,r⟩:=ih _ _ hl _ _ _ h3;exact⟨(h,Ru),g,r,h2⟩
      obtain⟨f,hf⟩:=Classical.axiomOfChoice PE
      have PD:∀i,(encL l (f i).1).length=l.length:=λi=>by
       rw[(hf i).2.1.len,(World.cells?_some (hf i).2.2).2.1,hsz]
      have ZP:fM w (λ_=>True) (.sl ((List.ofFn λi:Fin len=>jQ l (f i).1).map (enc (Ap l)))) (.slice (some a) ((List.ofFn λi:Fin len=>jQ l (f i).1).map (enc (Ap l))).length cap):=by
       have el:((List.ofFn λi:Fin len=>jQ l (f i).1).map (enc (Ap l))).length=len:=by simp
       have eg:∀i (hi:i<((List.ofFn λi:Fin len=>jQ l (f i).1).map (enc (Ap l))).length),((List.ofFn λi:Fin len=>jQ l (f i).1).map (enc (Ap l)))[i]=encL l (f ⟨i,by omega⟩).1:=by
        intro i hi;simp[yv]
       refine .sl l.length (λi j=>if h:i<len then(f ⟨i,h⟩).2.getD j undef else undef) (λi hi=>by rw[eg i hi,PD]) (by rw[el];exact Yv) hmax (λh=>by cases h) (λi j hi hj=>?_) (λi j hi hj=>?_)
       ·rw[el]at hi
        have cell:∀i' (ZH:i'<len) j',j'<l.length->w.cell? ((a.add (i'*l.length)).add j')=some ((f ⟨i',ZH⟩).2.getD j' undef):=by
         intro i' ZH j' ZT;have h1:=World.cells?_some (hf ⟨i',ZH⟩).2.2;have h2:=h1.2.2 j' (by omega);rw[hsz];rw[h2]
         have:j'<(f ⟨i',ZH⟩).2.length:=by rw[h1.2.1];omega
         simp[this]
        have h0:=World.cell?_spot (cell 0 (by omega) 0 (by omega));obtain⟨b,o,spot⟩:=a
        have Tj:spot=none:=by simpa[Addr.add]using h0
        subst Tj;refine⟨b,o,rfl,trivial,?_⟩;have h2:=cell i hi j hj;rw[Go.WideShapes.add_plain,Go.WideShapes.add_plain]at h2;rw[dif_pos hi,<- h2,Nat.add_assoc]
       ·rw[el]at hi;have hr:=(hf ⟨i,hi⟩).2.1
        have Yg:j<(encL l (f ⟨i,hi⟩).1).length:=by rw[eg i (by omega)]at hj;exact hj
        have Uk:j<(f ⟨i,hi⟩).2.length:=by rw[<- hr.len];exact Yg
        have h3:=hr.get j Yg Uk
        have e1:(if h:i<len then(f ⟨i,h⟩).2.getD j undef else undef)=(f ⟨i,hi⟩).2[j]:=by
         rw[dif_pos hi];simp[Uk]
        simp only[e1];have e2:((List.ofFn λi:Fin len=>jQ l (f i).1).map (enc (Ap l)))[i]'(by omega)=encL l (f ⟨i,hi⟩).1:=eg i (by omega);simp only[e2];exact h3
      rw[List.length_map,List.length_ofFn]at ZP;refine⟨(List.ofFn λi:Fin len=>jQ l (f i).1,()),⟨⟨by rw[List.length_ofFn];omega,λx hx=>?_⟩,trivial⟩,ZP,trivial⟩;obtain⟨i,rfl⟩:=List.mem_ofFn.1 hx;exact vb _ _ (hf i).1
    ·cases hL
   ·cases hL
  ·rename_i fs ht;split at hL
   ·rename_i l hl;split at hL
    ·rename_i hsz
     injection hL with hL
     subst hL;obtain⟨xs,m,_,_,hlen,Q9,hf⟩:=DataW.trod_struct ht hx
     obtain⟨h,g,r⟩:=uT (cs:=cs) (m:=m) (λt L hL cs x hx=>ih t L hL m cs x hx) fs.toList 0 l hl (by
      intro f Qh;obtain⟨i,hi,rfl⟩:=List.mem_iff_getElem.1 Qh
      have MX:i<fs.size:=by simpa using hi
      have h1:=hf i fs[i] (by simp[MX]);rw[oGE (by omega)]at h1
      exact⟨_,by simpa using h1⟩)
     refine⟨h,g,?_⟩;rw[List.drop_zero,hsz,<- hlen,List.take_length]at r;exact r
    ·cases hL
   ·cases hL
  ·rename_i na e ht;split at hL
   ·rename_i l hl;split at hL
    ·rename_i hsz
     injection hL with hL
     subst hL;obtain⟨m,hlen,hf⟩:=yP ht hx
     obtain⟨h,g,r⟩:=uT (cs:=cs) (m:=m) (λt L hL cs x hx=>ih t L hL m cs x hx) _ 0 l hl (by
      intro f Qh;obtain⟨i,hi,rfl⟩:=List.mem_map.1 Qh
      exact hf i (List.mem_range.1 hi))
     refine⟨h,g,?_⟩;rw[List.drop_zero,hsz,<- hlen,List.take_length]at r;exact r
    ·cases hL
   ·cases hL
  ·cases hL
theorem intake_arg(n:Nat){t:TypeId}{L:List CT}{v:Value}{d:DataW H}{p:List MemPlace}(hL:nG P n t=some L)(h:DataW.Trod ec P w base spare held t v d p):
 ∃h:HL den L,GoodL L h/\RelL w (encL L h) v.cells.toList:=by
 have ⟨Yy,hf⟩:=h;exact Ip n t L hL Yy _ _ hf
end
theorem plain_one{w:World}{t:TV}{v:Value}(r:RelL w [t] [v]):vx w t v:=r.1.plain
theorem plain_agg{w:World}{l:List TV}{cs:Array Value}(r:RelL w l cs.toList):vx w (.agg l) (.agg cs):=by
 intro F V C G hF
 have hl:cs.size=l.length:=by rw[r.len];simp
 refine .agg hl λj hj=>?_
 have Yg:j<cs.toList.length:=by simp_all
 have h1:=(r.get j hj Yg).plain F V C G hF
 simp_all
end Go.Proofs.Ytakfoejcjdcgbaa
namespace Go.Proofs.Ytakfoejcjdcgbaa
open Go.RowKit Go.Lib
theorem Ia{a:List Int}(hs:Sm a):eQ a a=some (true,()):=by
 unfold eQ;delta bB;dsimp only;rw[bne_self_eq_false,oCF]
 have l0:=df (f:=cW) (st:=λi=>(a,a,(i:Int),())) (n:=a.length) (N:=NN) (fin:=.inr (a,a,(a.length:Int),false,())) (i6 hs) (λi hi=>by
  unfold cW;delta bB;dsimp only;rw[oDT (show(i:Int)<(a.length:Int) by omega),oCT,bZ];simp only[oBS];rw[ct hi];simp only[oBS];rw[bne_self_eq_false,oCF,cb (by omega) (by unfold Sm at hs;omega)]
  rfl) (by
  unfold cW;delta bB;dsimp only
  rw[oDF (by omega),oCF])
 rw[show bH cW NN (a,a,0,())=_ from l0]
theorem FA(l:List Int)(b0 b1 b2 b3 b4:Bool){m:Int}(hm:0<=m/\m<=255):eV l b0 b1 b2 b3 b4 m=some (true,()):=by
 unfold eV;rw[Jm,oBS];dsimp only;by_cases hl:l.length<=400
 rotate_left
 ·rw[oDF hl];simp only[Bool.not_false,oCT];rw[C7];rfl
 rw[oDT hl];simp only[oNT,oCF];obtain⟨C,T,k1,e,hd,h1,hg⟩:=Do hl (Int.le_refl 0);rw[e,oBS];dsimp only;rw[show wk .i64 m=m from wrap_i64 (by omega) (by omega)];have t0:0<=Int.tmod m 5:=Int.tmod_nonneg _ hm.1;have t1:Int.tmod m 5<5:=Int.tmod_lt_of_pos _ (by omega);obtain⟨n,hn⟩:∃n:Nat,1+Int.tmod m 5=n:=⟨(1+Int.tmod m 5).toNat,by omega⟩;rw[hn,cb (by omega) (by omega)];obtain⟨all,k',e,ha,hL,hb⟩:=vK hd hg hl (n:=n) (by omega) (by omega) b0 b1 b2 b3 b4 h1;rw[e,oBS];dsimp only;subst ha;rw[Fz (by omega) (by omega) hd hg hL hb,oBS];dsimp only;rw[beq_self_eq_true,oCT,Fa hd.2.1 hd.2.2,oBS,oDT ⟨rfl,rfl⟩];dsimp only;rw[oCT,Ia (by unfold Sm;omega),oBS];dsimp only;rw[oCT,C7];rfl
theorem law_RepairWhole{h0:HL den [RI]}{h1:HL den [.bool,.bool,.bool,.bool,.bool]}{h2:HL den [.int .u8]}(g0:GoodL _ h0)(g1:GoodL _ h1)(g2:GoodL _ h2):it.g (appL [RI] _ h0 (appL [.bool,.bool,.bool,.bool,.bool] _ h1 (appL [.int .u8] _ h2 ())))=some (true,()):=FA h0.1 h1.1 h1.2.1 h1.2.2.1 h1.2.2.2.1 h1.2.2.2.2.1 (by
 have h3:(Lit.int .u8 h2.1).wf=true:=g2.1;simp[Lit.wf,IntKind.min,IntKind.max,IntKind.signed,IntKind.bits]at h3;show 0<=h2.1/\h2.1<=255
 omega)
end Go.Proofs.Ytakfoejcjdcgbaa
