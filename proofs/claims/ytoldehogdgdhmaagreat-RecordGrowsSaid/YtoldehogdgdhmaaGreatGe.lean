/- Part of the proof; no condition. -/
import Derived.Test.YtoldehogdgdhmaaGreatGd
import Derived.WalkKit
import Derived.WalkSpells
import Derived.Handy
import Derived.OpenShut
set_option linter.unusedVariables false
set_option linter.unusedSimpArgs false
namespace Go.Proofs.YtoldehogdgdhmaaGreat
open Go.RowKit
set_option maxRecDepth 100000
noncomputable section
def i5(a0:Int)(a1:Int)(a2:Int)(a3:Int)(a4:Int)(a5:Int)(a6:LDCn)(a7:LDCn)(a8:LDIn)(a9:List (Int))(a10:List LI)(a11:List (Int))(a12:Int)(a13:LDCe)(a14:LDLn)(a15:LDTh)(a16:List (Int))(a17:List (Int))(a18:List LI)(a19:List LDCn)(a20:LDOp)(a21:LDOu)(a22:List (Int))(a23:List LI)(a24:LDEn)(a25:List (Int)):Option (T2q):=
(bif(a5==9)then((dN a6 0).bind λx0=>
let x1:=wk .i64 x0.2.1;
(jw a22 a23 x1 a0).bind λ(x2,x3,x4,x5,_)=>
some (x4,a8,a9,a10,a11,a12,a13,a14,a15,a16,a17,a18,a19,a20,a21,a22,a23,a24,a25,a0,a1,a2,a3,a4,a5,a6,a7,()))else
some ((-1),a8,a9,a10,a11,a12,a13,a14,a15,a16,a17,a18,a19,a20,a21,a22,a23,a24,a25,a0,a1,a2,a3,a4,a5,a6,a7,()):Option (Int×LDIn×LI×LLI×LI×Int×LDCe×LDLn×LDTh×LI×LI×LLI×LLCn×LDOp×LDOu×LI×LLI×LDEn×LI×T1m)).bind λ(x0,x1,x2,x3,x4,x5,x6,x7,x8,x9,ac,ae,af,ag,ah,ai,aj,ak,am,an,ap,aq,av,ax,ay,az,aA,_)=>
(jM an ap aq av ax ay az aA x1 x2 x3 x4 x5 x6 x7 x8 x9 ac ae af ag ah ai aj ak am).bind λ(aB,aD,aE,aF,aG,aH,aI,aJ,aK,aL,aM,aO,aP,aQ,aR,aS,aT,aU,aV,aW,aY,aZ,ba,bc,bd,_)=>
(oH aJ aK aL aM aO aP aQ aR an ap aq av ax ay az aA aB aD aE aF aG aH aI).bind λ(bf,bg,bh,bi,bj,bk,_)=>
let bl:LDEn:=[(2,(an,(0,(an,(ap,(aq,(av,(ax,(ay,(az,(aA,(aB,(aD,(aE,(aF,(aG,(aH,aI)))))))))))))))))];
bif(dX 184 bc.length bl.length)then let bm:LDEn:=(List.append bc bl);
bif(decide (x0>=0))then((m6 x0 0 aJ aK aL bf bg bh bi bj aS aT aU aV aW aY aZ ba bm bd).bind λ(bn)=>
some (bn))else
some (aJ,aK,aL,bf,bg,bh,bi,bj,aS,aT,aU,aV,aW,aY,aZ,ba,bm,bd,())else none
def yZ:X.Cfg:=⟨E0,[nI,qy,yq,vC],[(56,wR),(57,wR)],[⟨2,0,qE,[(.normal,qS [Uc 0,Uc 3,Ud 4] [(2,Xaa),(8,Uaa)])]⟩]⟩
def rT:Ctr:=⟨96,109,[.ptr ⟨2,0,[]⟩ [0],.agg Uaa],[(2,Xaa)],[⟨[],[],[(2,Xaa)]⟩],ap26 i5⟩
theorem yL:Lk 7 rT:=ls yZ (aC qn (aC xr (aC EM (aC CH aN))))
def pY:T2b->Option (T2b⊕(Int×Int×Int×Int×Nat×T1k)):=λ(v0,v1,v2,v3,v4,v5,v6,v7,v8,v9,v10,v11,_)=>
bif(decide (v6<v5))then(((eE v6).bind λx0=>
(dN v10 v4).bind λx1=>
(dN x1 x0).bind λx2=>
(dN v10 v4).bind λx3=>
(dN x3 x0).bind λx4=>
bif(x4 != v0)then(bif(dX 8 v11.length (List.length [x4]))then let x5:List (Int):=(List.append v11 [x4]);
some (v0,v1,v2,v3,v4,v5,v6,v7,v8,v9,v10,x5,())else none)else
some (v0,v1,v2,v3,v4,v5,v6,v7,v8,v9,v10,v11,()):Option (T2b)).bind λ(x0,x1,x2,x3,x4,x5,x6,x7)=>
let af:=w64 (x6+1);
some (.inl (x0,x1,x2,x3,x4,x5,af,x7)))else
some (.inr (v0,v1,v2,v3,v4,v5,v6,false,v7,v8,v9,v10,v11,()))
def pX:T1c->Option (T1c⊕(Int×T17)):=λ(v0,v1,v2,v3,v4,v5,v6,_)=>
bif(decide (v2<v1))then((eE v2).bind λx0=>
(dN v6 x0).bind λx1=>
(dN v6 x0).bind λx2=>
(dN v6 x0).bind λx3=>
let x4:=dR x3.length;
(ej pY NN (v0,v2,v1,v2,x0,x4,0,v3,v4,v5,v6,[],())).bind λ(x5,x6,x7,x8,x9,ac,ae,af,ag,ah,ai,aj,ak,_)=>
(eE x6).bind λam=>
(dN aj am).bind λan=>
(dN aj am).bind λap=>
let aq:=List.modify aj am λe=>ak;
let av:=w64 (x8+1);
some (.inl (x5,x7,av,ag,ah,ai,aq,())))else
some (.inr (v0,v1,v2,false,v3,v4,v5,v6,()))
def pW:T1p->Option (T1p⊕(Int×T1k)):=λ(v0,v1,v2,v3,v4,v5,v6,v7,_)=>
bif(decide (v2<v1))then((jw v5 v6 v2 v0).bind λ(x0,x1,x2,x3,_)=>
(bif x3 then(bif(decide (x2>=0))then(bif(dX 8 v7.length (List.length [x2]))then let x4:List (Int):=(List.append v7 [x2]);
some (v0,v1,v2,v3,v4,v5,v6,x4,x0,x1,())else none)else
some (v0,v1,v2,v3,v4,v5,v6,v7,x0,x1,()))else
some (v0,v1,v2,v3,v4,v5,v6,v7,x0,x1,()):Option (Int×Int×Int×Unit×Unit×LI×LLI×LI×T08)).bind λ(x4,x5,x6,x7,x8,x9,ac,ae,af,ag,_)=>
let ah:=w64 (x6+1);
some (.inl (x4,x5,ah,x7,x8,af,ag,ae,())))else
some (.inr (v0,v1,v2,false,v3,v4,v5,v6,v7,()))
def ng(a0:List (Int))(a1:List LI)(a2:Int):Option (T0m):=
(lk a0 a1).bind λ(x0,x1,_)=>
let x2:=dR x1.length;
(ej pX NN (a2,x2,0,(),(),x0,x1,())).bind λ(x3,x4,x5,x6,x7,x8,x9,ac,_)=>
let ae:=dR x9.length;
(ej pW NN (x3,ae,0,x7,x8,x9,ac,[],())).bind λ(af,ag,ah,ai,aj,ak,am)=>
some (am)
def Dm:X.Cfg:=⟨E0,[nJ,nI],[],[⟨15,0,qE,[(.normal,(qS [Ud 1,Uc 4,Uc 6,Ud 7,Uf 9 21,(20,.pk ⟨14,1,[]⟩ [0,0]),Ud 21,Ud 22,(27,.pk ⟨14,1,[((),(1,0))]⟩ [0,0,0]),Ud 28,Ud 29] [(10,uaa),(14,yac),(21,zaa)]))]⟩,⟨12,1,(qS [Ud 1,Uc 4,Uc 6,Ud 7,Uf 9 21,(20,.pk ⟨14,1,[]⟩ [0,0]),Ud 21,Ud 22,(27,.pk ⟨14,1,[((),(1,0))]⟩ [0,0,0]),Ud 28,Ud 29] [(10,uaa),(14,yac),(21,zaa)]),[(.exit 2,(qS [Ud 1,Uc 4,Uc 6,Ud 7,Uf 9 21,(20,.pk ⟨14,1,[]⟩ [0,0]),Ud 21,Ud 22,(27,.pk ⟨14,1,[((),(1,0))]⟩ [0,0,0]),Ud 28,Ud 29,Ue 30] [(10,uaa),(14,yac),(21,zaa)]))]⟩,(lx 4 2 [Ud 1,Uc 4,Uc 6,(20,.pk ⟨14,1,[]⟩ [0,0]),Ud 21,Ud 22] [(10,uaa),(14,yac)] 23),⟨27,3,qE,[(.normal,qS [Ud 1,Uc 4,Uc 6,Uf 12 27,Uc 14,Ud 49,Ud 50] [(10,uaa),(14,uad),(27,zaa),(30,uad)])]⟩,⟨21,4,qS [Ud 1,Uc 4,Uc 6,Uf 12 27,Ud 49,Ud 50] [(10,uaa),(14,uad),(27,zaa)],[(.exit 4,qS [Ud 1,Uc 4,Uc 6,Uf 12 27,Ud 49,Ud 50,Ue 51] [(10,uaa),(14,uad),(27,zaa)])]⟩]⟩
def vK:Ctr:=⟨132,110,[.agg uad,shU I64],[],[⟨uL [RI,(Ub RI),(Ua I64)],[.agg 2,.one],[]⟩],ap3 ng⟩
theorem CP:Lk 3 vK:=ls Dm (aC qp (aC qn aN))
def i4(a0:Int)(a1:Int)(a2:LDIn)(a3:List (Int))(a4:List LI)(a5:List (Int))(a6:Int)(a7:LDCe)(a8:LDLn)(a9:LDTh)(a10:List (Int))(a11:List (Int))(a12:List LI)(a13:List LDCn)(a14:LDOp)(a15:LDOu)(a16:List (Int))(a17:List LI)(a18:LDEn):Option (LDIn×LI×LLI×LI×Int×LDCe×LDLn×LDTh×LI×LI×LLI×LLCn×LDOp×LDOu×LI×LLI×LDEn×Unit):=
let x0:=wk .i64 a1;
(eu x0 true).bind λ(x1,x2,x3,x4,x5,x6,x7,_)=>
(ll a2 a3 a4 a5 a6 a7 a8 a9 a0 x1 x2 x3 x4 [] x6 x7).bind λ(x8,x9,ac,ae,af,ag,_)=>
let ah:LDEn:=[(4,(a0,(0,(0,(0,(0,(0,(0,(0,([],([],(x1,(x2,(x3,(x4,([],(x6,x7)))))))))))))))))];
bif(dX 184 a18.length ah.length)then let ai:LDEn:=(List.append a18 ah);
some (a2,a3,a4,x8,x9,ac,ae,af,a10,a11,a12,a13,a14,a15,a16,a17,ai,())else none
def yW:X.Cfg:=⟨E0,[kz,qG],[(35,wR),(36,wR)],[]⟩
def rQ:Ctr:=⟨131,111,[.ptr ⟨2,0,[]⟩ [0],shU I64,shU CW],[(2,yai)],[⟨[],[],[(2,yai)]⟩],ap19 i4⟩
theorem yI:Lk 6 rQ:=ls yW (aC md (aC vi aN))
def pz:T2C->Option (T2C⊕(Int×Int×Int×Bool×T2v)):=λ(v0,v1,v2,v3,v4,v5,v6,v7,v8,v9,v10,v11,v12,v13,v14,v15,v16,v17,v18,v19,v20,v21,_)=>
bif(decide (v2<v1))then((eE v2).bind λx0=>
(dN v21 x0).bind λx1=>
(dN v21 x0).bind λx2=>
(i4 x2 0 v3 v4 v5 v6 v7 v8 v9 v10 v11 v12 v13 v14 v15 v16 v17 v18 v19).bind λ(x3,x4,x5,x6,x7,x8,x9,ac,ae,af,ag,ah,ai,aj,ak,am,an,_)=>
let ap:=w64 (v2+1);
some (.inl (v0,v1,ap,x3,x4,x5,x6,x7,x8,x9,ac,ae,af,ag,ah,ai,aj,ak,am,an,v20,v21,())))else
some (.inr (v0,v1,v2,false,v3,v4,v5,v6,v7,v8,v9,v10,v11,v12,v13,v14,v15,v16,v17,v18,v19,v20,v21,()))
def py:T2A->Option (T2A⊕(Int×Int×T2y)):=λ(v0,v1,v2,v3,v4,v5,v6,v7,v8,v9,v10,v11,v12,v13,v14,v15,v16,v17,v18,v19,v20,_)=>
bif(decide (v2<v1))then(((eE v2).bind λx0=>
(dN v20 x0).bind λx1=>
(dN v20 x0).bind λx2=>
bif(x2==v0)then((eE v0).bind λx3=>
(dN v10 x3).bind λx4=>
(i4 v2 x4.2.2.2.2.2.2.2 v3 v4 v5 v6 v7 v8 v9 v10 v11 v12 v13 v14 v15 v16 v17 v18 v19).bind λ(x5,x6,x7,x8,x9,ac,ae,af,ag,ah,ai,aj,ak,am,an,ap,aq,_)=>
(eE v2).bind λav=>
(dN v20 av).bind λax=>
(dN v20 av).bind λay=>
let az:=List.modify v20 av λe=>(-1);
some (v0,v1,v2,x5,x6,x7,x8,x9,ac,ae,af,ag,ah,ai,aj,ak,am,an,ap,aq,az,()))else
some (v0,v1,v2,v3,v4,v5,v6,v7,v8,v9,v10,v11,v12,v13,v14,v15,v16,v17,v18,v19,v20,()):Option (T2A)).bind λ(x0,x1,x2,x3,x4,x5,x6,x7,x8,x9,ac,ae,af,ag,ah,ai,aj,ak,am,an,ap,_)=>
let aq:=w64 (x2+1);
some (.inl (x0,x1,aq,x3,x4,x5,x6,x7,x8,x9,ac,ae,af,ag,ah,ai,aj,ak,am,an,ap,())))else
some (.inr (v0,v1,v2,false,v3,v4,v5,v6,v7,v8,v9,v10,v11,v12,v13,v14,v15,v16,v17,v18,v19,v20,()))
def jN(a0:Int)(a1:LDIn)(a2:List (Int))(a3:List LI)(a4:List (Int))(a5:Int)(a6:LDCe)(a7:LDLn)(a8:LDTh)(a9:List (Int))(a10:List (Int))(a11:List LI)(a12:List LDCn)(a13:LDOp)(a14:LDOu)(a15:List (Int))(a16:List LI)(a17:LDEn)(a18:List (Int)):Option (T2q):=
(ng a15 a16 a0).bind λ(x0,x1,x2,_)=>
let x3:=dR x2.length;
(ej pz NN (a0,x3,0,a1,a2,a3,a4,a5,a6,a7,a8,a9,a10,a11,a12,a13,a14,x0,x1,a17,a18,x2,())).bind λ(x4,x5,x6,x7,x8,x9,ac,ae,af,ag,ah,ai,aj,ak,am,an,ap,aq,av,ax,ay,az,aA,_)=>
let aB:=dR az.length;
(ej py NN (x4,aB,0,x8,x9,ac,ae,af,ag,ah,ai,aj,ak,am,an,ap,aq,av,ax,ay,az,())).bind λ(aD,aE,aF,aG,aH)=>
some (aH)
def Bc:X.Cfg:=⟨E0,[vK,rQ],[],[(lx 4 0 [Uc 0,Ud 1,Uf 23 13,Ud 24,Ud 25] [(2,Xaa),(13,zaa)] 26),⟨13,1,qE,[(.normal,(qS [Uc 0,Ud 1,(36,.pk ⟨2,17,[]⟩ [0,0]),Ud 37,Ud 38] [(2,Xaa)]))]⟩,⟨10,2,(qS [Uc 0,Ud 1,(36,.pk ⟨2,17,[]⟩ [0,0]),Ud 37,Ud 38] [(2,Xaa)]),[(.exit 2,(qS [Uc 0,Ud 1,(36,.pk ⟨2,17,[]⟩ [0,0]),Ud 37,Ud 38,Ue 39] [(2,Xaa)]))]⟩]⟩
def tH:Ctr:=⟨97,112,[.ptr ⟨2,0,[]⟩ [0],shU I64],[(2,Xaa)],[⟨[],[],[(2,Xaa)]⟩],ap19 jN⟩
theorem AI:Lk 7 tH:=ls Bc (aC CP (aC yI aN))
def m7(a0:LDIn)(a1:List (Int))(a2:List LI)(a3:List (Int))(a4:Int)(a5:LDCe)(a6:LDLn)(a7:LDTh)(a8:List (Int))(a9:List (Int))(a10:List LI)(a11:List LDCn)(a12:LDOp)(a13:LDOu)(a14:List (Int))(a15:List LI)(a16:LDEn)(a17:List (Int))(a18:Int)(a19:Int)(a20:Bool):Option (LDIn×LI×LLI×LI×Int×LDCe×LDLn×LDTh×LI×LI×LLI×LLCn×LDOp×LDOu×LI×LLI×LDEn×T07):=
(lV a7).bind λ(x0,_)=>
let x1:=dR x0.length;
bif(x1==0)then(some ([],[],[],[],0,[],[],[],[],[],[],[],[],[],[],[],[],[],15,()))else
let x2:=dR a16.length;
bif(decide (x2>192))then(some ([],[],[],[],0,[],[],[],[],[],[],[],[],[],[],[],[],[],3,()))else
let x3:=dR x0.length;
(jn a18 x3).bind λ(x4,_)=>
(eE x4).bind λx5=>
(dN x0 x5).bind λx6=>
(dN x0 x5).bind λx7=>
(jn a19 64).bind λ(x8,_)=>
let x9:=w64 (1+x8);
(kO a0 a1 a2 a3 a4 a5 a6 a7 a8 a9 a10 a11 a12 a13 a14 a15 a16 a17).bind λ(ac,ae,af,ag,ah,ai,aj,ak,am,an,ap,aq,av,ax,ay,az,aA,aB,_)=>
(match(bif a20 then((mA ag ah ai aj ak x7).bind λ(aD,_)=>
bif aD then((jR ag ah ai aj ak x7).bind λ(aE,aF,aG,aH,aI,aJ,_)=>
let aK:LDEn:=[(3,(x7,(0,(0,(0,(0,(0,(0,(0,([],([],(0,(0,(0,(0,([],(0,false)))))))))))))))))];
bif(dX 184 aA.length aK.length)then let aL:LDEn:=(List.append aA aK);
some (.inl (x7,x9,(),(),(),(),0,(),(),(),(),(),(),(),(),(),(),(),(),(),ac,ae,af,aE,aF,aG,aH,aI,am,an,ap,aq,av,ax,ay,az,aL,aB,()))else none)else
some (.inr (x7,x9,(),(),(),(),0,(),(),(),(),(),(),(),(),(),(),(),(),(),ac,ae,af,ag,ah,ai,aj,ak,am,an,ap,aq,av,ax,ay,az,aA,aB,())))else
some (.inr (x7,x9,(),(),(),(),0,(),(),(),(),(),(),(),(),(),(),(),(),(),ac,ae,af,ag,ah,ai,aj,ak,am,an,ap,aq,av,ax,ay,az,aA,aB,())):Option (T2X⊕T2X))with
|none=>none
|some (.inl (aD,aE,aF,aG,aH,aI,aJ,aK,aL,aM,aO,aP,aQ,aR,aS,aT,aU,aV,aW,aY,aZ,ba,bc,bd,bf,bg,bh,bi,bj,bk,bl,bm,bn,bo,bp,bq,bv,bz,_))=>
(ln aZ ba bc bd bf bg bh bi aD aE).bind λ(bA,bB,bC,bD,bE,bF,bG,bH,bI,bJ,bK,bL,bM,bN,_)=>
let bO:LDEn:=[(1,(aD,(aE,(bF,(bG,(bH,(bI,(bJ,(bK,(bL,(bM,(0,(0,(0,(0,([],(0,false)))))))))))))))))];
bif(dX 184 bv.length bO.length)then let bP:LDEn:=(List.append bv bO);
(bif(bG==1)then((i5 bF bG bH bI bJ bK bL bM aZ ba bc bA bB bC bD bE bj bk bl bm bn bo bp bq bP bz).bind λ(bQ,bR,bS,bT,bU,bV,bW,bY,bZ,b8,b9,cc,cd,cf,cg,ch,ci,cj,_)=>
some (aD,aF,aG,aH,aI,aJ,aK,aL,aM,aO,aP,aQ,aR,aS,aT,aU,aV,aW,aY,bQ,bR,bS,bT,bU,bV,bW,bY,bZ,b8,b9,cc,cd,cf,cg,ch,ci,cj,()))else
some (aD,aF,aG,aH,aI,aJ,aK,aL,aM,aO,aP,aQ,aR,aS,aT,aU,aV,aW,aY,aZ,ba,bc,bA,bB,bC,bD,bE,bj,bk,bl,bm,bn,bo,bp,bq,bP,bz,()):Option (T2R)).bind λ(bQ,bR,bS,bT,bU,bV,bW,bY,bZ,b8,b9,cc,cd,cf,cg,ch,ci,cj,cl,cn,cq,cr,cu,cw,cx,cy,cz,cD,cE,cF,cG,cH,cI,cJ,cK,cL,cM,_)=>
((eE bQ).bind λcN=>
(dN cz cN).bind λcO=>
bif(cO.1==4)then((jN bQ cn cq cr cu cw cx cy cz cD cE cF cG cH cI cJ cK cL cM).bind λ(cP,cQ,cR,cS,cT,cU,cV,cW,cX,cY,cZ,c8,c9,dc,de,df,dg,dh,_)=>
some (bR,bS,bT,bU,bV,bW,bY,bZ,b8,b9,cc,cd,cf,cg,ch,ci,cj,cl,cP,cQ,cR,cS,cT,cU,cV,cW,cX,cY,cZ,c8,c9,dc,de,df,dg,dh,()))else
some (bR,bS,bT,bU,bV,bW,bY,bZ,b8,b9,cc,cd,cf,cg,ch,ci,cj,cl,cn,cq,cr,cu,cw,cx,cy,cz,cD,cE,cF,cG,cH,cI,cJ,cK,cL,cM,()):Option (T2P)).bind λ(cN,cO,cP,cQ,cR,cS,cT,cU,cV,cW,cX,cY,cZ,c8,c9,dc,de,df,dg,dh,dk,dl,dm,dn,dp,dq,dx,dy,dz,dA,dB,dC,dD,dE,dF,dG,_)=>
some (dg,dh,dk,dl,dm,dn,dp,dq,dx,dy,dz,dA,dB,dC,dD,dE,dF,dG,0,())else none
|some (.inr (aD,aE,aF,aG,aH,aI,aJ,aK,aL,aM,aO,aP,aQ,aR,aS,aT,aU,aV,aW,aY,aZ,ba,bc,bd,bf,bg,bh,bi,bj,bk,bl,bm,bn,bo,bp,bq,bv,bz,_))=>
(ln aZ ba bc bd bf bg bh bi aD aE).bind λ(bA,bB,bC,bD,bE,bF,bG,bH,bI,bJ,bK,bL,bM,bN,_)=>
let bO:LDEn:=[(1,(aD,(aE,(bF,(bG,(bH,(bI,(bJ,(bK,(bL,(bM,(0,(0,(0,(0,([],(0,false)))))))))))))))))];
bif(dX 184 bv.length bO.length)then let bP:LDEn:=(List.append bv bO);
(bif(bG==1)then((i5 bF bG bH bI bJ bK bL bM aZ ba bc bA bB bC bD bE bj bk bl bm bn bo bp bq bP bz).bind λ(bQ,bR,bS,bT,bU,bV,bW,bY,bZ,b8,b9,cc,cd,cf,cg,ch,ci,cj,_)=>
some (aD,aF,aG,aH,aI,aJ,aK,aL,aM,aO,aP,aQ,aR,aS,aT,aU,aV,aW,aY,bQ,bR,bS,bT,bU,bV,bW,bY,bZ,b8,b9,cc,cd,cf,cg,ch,ci,cj,()))else
some (aD,aF,aG,aH,aI,aJ,aK,aL,aM,aO,aP,aQ,aR,aS,aT,aU,aV,aW,aY,aZ,ba,bc,bA,bB,bC,bD,bE,bj,bk,bl,bm,bn,bo,bp,bq,bP,bz,()):Option (T2R)).bind λ(bQ,bR,bS,bT,bU,bV,bW,bY,bZ,b8,b9,cc,cd,cf,cg,ch,ci,cj,cl,cn,cq,cr,cu,cw,cx,cy,cz,cD,cE,cF,cG,cH,cI,cJ,cK,cL,cM,_)=>
((eE bQ).bind λcN=>
(dN cz cN).bind λcO=>
bif(cO.1==4)then((jN bQ cn cq cr cu cw cx cy cz cD cE cF cG cH cI cJ cK cL cM).bind λ(cP,cQ,cR,cS,cT,cU,cV,cW,cX,cY,cZ,c8,c9,dc,de,df,dg,dh,_)=>
some (bR,bS,bT,bU,bV,bW,bY,bZ,b8,b9,cc,cd,cf,cg,ch,ci,cj,cl,cP,cQ,cR,cS,cT,cU,cV,cW,cX,cY,cZ,c8,c9,dc,de,df,dg,dh,()))else
some (bR,bS,bT,bU,bV,bW,bY,bZ,b8,b9,cc,cd,cf,cg,ch,ci,cj,cl,cn,cq,cr,cu,cw,cx,cy,cz,cD,cE,cF,cG,cH,cI,cJ,cK,cL,cM,()):Option (T2P)).bind λ(cN,cO,cP,cQ,cR,cS,cT,cU,cV,cW,cX,cY,cZ,c8,c9,dc,de,df,dg,dh,dk,dl,dm,dn,dp,dq,dx,dy,dz,dA,dB,dC,dD,dE,dF,dG,_)=>
some (dg,dh,dk,dl,dm,dn,dp,dq,dx,dy,dz,dA,dB,dC,dD,dE,dF,dG,0,())else none)
def C9:X.Cfg:=⟨E0,[tQ,sy,rS,su,qF,vL,rT,tH],[(60,wR),(61,wR),(82,wR),(83,wR)],[⟨11,0,qE,[(.normal,(qS [Uc 4,Ud 7,Ud 8,Uc 9] [(10,zae),(20,uL [gk,RI,(Ub RW),RI,CW,(Ua KCe),lO,sA,RW,RW,(Ub RW),(Ub eF),ii,kE,RI,(Ub RI),(Ua sB),(Ua I64)])])),(.normal,qS [Uc 4,Ud 7,Ud 8,Uc 9] [(10,zae),(20,Xaa)])]⟩,⟨17,1,qE,[(.normal,qS [Uc 4,Ud 7,Uc 9] [(10,zae),(20,Xaa)])]⟩,⟨19,2,qE,[(.normal,qS [Uc 4,Uc 9] [(10,zae),(20,Xaa)])]⟩]⟩
def vD:Ctr:=⟨55,113,[.agg Uag,.agg yag],[],[⟨uL [gk,RI,(Ub RW),RI,CW,gn,iJ,jt,RW,RW,(Ub RW),(Ub eF),ii,kE,RI,(Ub RI),(Ua sB),(Ua I64),I64],[.agg 18,.one],[]⟩],ap21 m7⟩
theorem CI:Lk 8 vD:=ls C9 (aC AR (aC xC (aC yK (aC xx (aC xw (aC CQ (aC yL (aC AI aN))))))))
def oN:T31->Option (T31⊕((Int×Bool×LI×Int×Unit×Unit×Unit×Unit×Int×Unit×Unit×Unit×Unit×Unit×Unit×Unit×Unit×Unit×Unit×Unit×Unit×Unit×LDIn×LI×LLI×LI×Int×LDCe×LDLn×LDTh×LI×LI×LLI×LLCn×LDOp×LDOu×LI×LLI×LDEn×LI×T2q)⊕(Int×Bool×T2Y))):=λ(v0,v1,v2,v3,v4,v5,v6,v7,v8,v9,v10,v11,v12,v13,v14,v15,v16,v17,v18,v19,v20,v21,v22,v23,v24,v25,v26,v27,v28,v29,v30,v31,v32,v33,v34,v35,v36,v37,v38,_)=>
bif(decide (v0>0))then((ma v1 v2).bind λ(x0,x1,x2,x3,x4,_)=>
(m7 v21 v22 v23 v24 v25 v26 v27 v28 v29 v30 v31 v32 v33 v34 v35 v36 v37 v38 x0 x1 x2).bind λ(x5,x6,x7,x8,x9,ac,ae,af,ag,ah,ai,aj,ak,am,an,ap,aq,av,ax,_)=>
bif(ax != 0)then(some (.inr (.inl (v0,true,x3,x4,v3,v4,v5,v6,v7,v8,v9,v10,v11,v12,v13,v14,v15,v16,v17,v18,v19,v20,v21,v22,v23,v24,v25,v26,v27,v28,v29,v30,v31,v32,v33,v34,v35,v36,v37,v38,x5,x6,x7,x8,x9,ac,ae,af,ag,ah,ai,aj,ak,am,an,ap,aq,av,()))))else
let ay:=w64 (v0-1);
some (.inl (ay,x3,x4,v3,v4,v5,v6,v7,v8,v9,v10,v11,v12,v13,v14,v15,v16,v17,v18,v19,v20,x5,x6,x7,x8,x9,ac,ae,af,ag,ah,ai,aj,ak,am,an,ap,aq,av,())))else
some (.inr (.inr (v0,false,v1,v2,v3,v4,v5,v6,v7,v8,v9,v10,v11,v12,v13,v14,v15,v16,v17,v18,v19,v20,v21,v22,v23,v24,v25,v26,v27,v28,v29,v30,v31,v32,v33,v34,v35,v36,v37,v38,())))
def rd(a0:List (Int))(a1:Int):Option (LDIn×LI×LLI×LI×Int×LDCe×LDLn×LDTh×LI×LI×LLI×LLCn×LDOp×LDOu×LI×LLI×LDEn×LI×T07):=
(kU a0 a1).bind λ(x0,x1,x2,x3,x4,_)=>
(l9 x1 x3 x4).bind λ(x5,x6,x7,x8,_)=>
(kV x7 x8).bind λ(x9,ac,ae,af,ag,ah,ai,aj,_)=>
(oD x0 x1 x2 x5 x6 x9 ac ae af ag []).bind λ(ak,am,an,ap,aq,av,ax,ay,az,aA,aB,aD,aE,aF,aG,aH,aI,aJ,aK,_)=>
(dK 16 ai aj).bind λ(aL,aM,aO,_)=>
let aP:=w64 (3+aL);
(match ej oN NN (aP,aM,aO,(),(),(),(),0,(),(),(),(),(),(),(),(),(),(),(),(),(),ak,am,an,ap,aq,av,ax,ay,az,aA,aB,aD,aE,aF,aG,aH,[],aJ,())with
|none=>none
|some (.inl (aQ,aR,aS,aT,aU,aV,aW,aY,aZ,ba,bc,bd,bf,bg,bh,bi,bj,bk,bl,bm,bn,bo,bp,bq,bv,bz,bA,bB,bC,bD,bE,bF,bG,bH,bI,bJ,bK,bL,bM,bN,_))=>
some (bp,bq,bv,bz,bA,bB,bC,bD,bE,bF,bG,bH,bI,bJ,bK,bL,bM,bN,aS,aT,())
|some (.inr (aQ,aR,aS,aT,aU,aV,aW,aY,aZ,ba,bc,bd,bf,bg,bh,bi,bj,bk,bl,bm,bn,bo,bp,bq,bv,bz,bA,bB,bC,bD,bE,bF,bG,bH,bI,bJ,bK,bL,bM,bN,_))=>
some (bp,bq,bv,bz,bA,bB,bC,bD,bE,bF,bG,bH,bI,bJ,bK,bL,bM,bN,aS,aT,()))
def HQ:X.Cfg:=⟨E0,[r6,ub,r7,tI,fq,uc,vD],[],[⟨5,0,qS [Uc 0,Uc 2,Uc 4,Ud 6] [(2,Ug),(6,zae),(10,Xaa)],[(.exit 0,qS [Uc 0,Uc 2,Uc 4,Ud 6,Uc 7,Ue 37] [(2,Ug),(6,zae),(10,Uag),(16,Xaa)]),(.exit 0,qS [Uc 0,Uc 2,Uc 4,Ud 6,Ue 26] [(2,Ug),(6,zae),(10,Xaa)])]⟩]⟩
def Aj:Ctr:=⟨23,114,[.ptr ⟨2,0,[]⟩ [0]],[(2,Ug)],[⟨Uag,[.agg 18],[(2,Ug)]⟩],ap2 rd⟩
theorem HG:Lk 9 Aj:=ls HQ (aC yS (aC A5 (aC yT (aC AJ (aC fu (aC A6 (aC CI aN)))))))
def pZ(a0:Int)(a1:Int)(a2:Int)(a3:Int)(a4:Int)(a5:Int)(a6:LDCn)(a7:LDCn):Option (T1m):=
bif(dX 24 0 a6.length)then let x0:LDCn:=(List.append [] a6);
bif(dX 24 0 a7.length)then let x1:LDCn:=(List.append [] a7);
some (a0,a1,a2,a3,a4,a5,x0,x1,())else none else none
def Dr:X.Cfg:=⟨E0,[],[],[]⟩
def vM:Ctr:=⟨28,115,[.agg Uaa],[],[⟨Zae,[.agg 8],[]⟩],ap8 pZ⟩
theorem CR:Lk 1 vM:=ls Dr aN
def mz:LDEn×Int×T03->Option ((LDEn×Int×T03)⊕(LDEn×Int×Int×Bool×LDEn×Unit)):=λ(v0,v1,v2,v3,_)=>
bif(decide (v2<v1))then((eE v2).bind λx0=>
(dN v0 x0).bind λx1=>
(pZ x1.2.2.2.1 x1.2.2.2.2.1 x1.2.2.2.2.2.1 x1.2.2.2.2.2.2.1 x1.2.2.2.2.2.2.2.1 x1.2.2.2.2.2.2.2.2.1 x1.2.2.2.2.2.2.2.2.2.1 x1.2.2.2.2.2.2.2.2.2.2.1).bind λ(x2,x3,x4,x5,x6,x7,x8,x9,_)=>
bif(dX 24 0 x1.2.2.2.2.2.2.2.2.2.2.2.2.2.2.2.1.length)then let ac:LDCn:=(List.append [] x1.2.2.2.2.2.2.2.2.2.2.2.2.2.2.2.1);
let ae:LDEn:=[(x1.1,(x1.2.1,(x1.2.2.1,(x2,(x3,(x4,(x5,(x6,(x7,(x8,(x9,(x1.2.2.2.2.2.2.2.2.2.2.2.1,(x1.2.2.2.2.2.2.2.2.2.2.2.2.1,(x1.2.2.2.2.2.2.2.2.2.2.2.2.2.1,(x1.2.2.2.2.2.2.2.2.2.2.2.2.2.2.1,(ac,(x1.2.2.2.2.2.2.2.2.2.2.2.2.2.2.2.2.1,x1.2.2.2.2.2.2.2.2.2.2.2.2.2.2.2.2.2)))))))))))))))))];
bif(dX 184 v3.length ae.length)then let af:LDEn:=(List.append v3 ae);
let ag:=w64 (v2+1);
some (.inl (v0,v1,ag,af,()))else none else none)else
some (.inr (v0,v1,v2,false,v3,()))
def lj(a0:LDEn):Option (LDEn×Unit):=
let x0:=dR a0.length;
(ej mz NN (a0,x0,0,[],())).bind λ(x1,x2,x3,x4,x5,_)=>
some (x5,())
def Da:X.Cfg:=⟨E0,[vM],[(24,wR),(25,wR)],[(lx 4 0 [Uf 3 9,sP 6 D8,Ud 7,Ud 8] [(9,Zag)] 9)]⟩
def qz:Ctr:=⟨10,116,uL [D8],[],[⟨Zag,[.one],[]⟩],ap1 lj⟩
theorem vf:Lk 2 qz:=ls Da (aC CR aN)
def nu:Int×T0k->Option ((Int×T0k)⊕(Int×Bool×T0k)):=λ(v0,v1,v2,v3,_)=>
bif(decide (v0>0))then((jz v1 v2).bind λ(x0,x1,x2,x3,x4,x5,x6,x7,x8,x9,ac,ae,af,ag,ah,ai,aj,ak,am,an,_)=>
let ap:LDEn:=[(x0,(x1,(x2,(x3,(x4,(x5,(x6,(x7,(x8,(x9,(ac,(ae,(af,(ag,(ah,(ai,(aj,ak)))))))))))))))))];
bif(dX 184 v3.length ap.length)then let aq:LDEn:=(List.append v3 ap);
let av:=w64 (v0-1);
some (.inl (av,am,an,aq,()))else none)else
some (.inr (v0,false,v1,v2,v3,()))
def j5(a0:List (Int))(a1:Int):Option (LDEn×T07):=
(dK 4 a0 a1).bind λ(x0,x1,x2,_)=>
bif(x0==0)then((dK 6 x1 x2).bind λ(x3,x4,x5,_)=>
(ej nu NN (x3,x4,x5,[],())).bind λ(x6,x7,x8,x9,ac,_)=>
some (ac,x8,x9,()))else
(rd x1 x2).bind λ(x3,x4,x5,x6,x7,x8,x9,ac,ae,af,ag,ah,ai,aj,ak,am,an,ap,aq,av,_)=>
(lj an).bind λ(ax,_)=>
(match(let ay:Int:=(dR ax.length);
bif(decide (ay>0))then((dK 2 aq av).bind λ(az,aA,aB,_)=>
bif(az==0)then(let aD:Int:=(dR ax.length);
(dK aD aA aB).bind λ(aE,aF,aG,_)=>
(dK 6 aF aG).bind λ(aH,aI,aJ,_)=>
bif(aH==0)then((jz aI aJ).bind λ(aK,aL,aM,aO,aP,aQ,aR,aS,aT,aU,aV,aW,aY,aZ,ba,bc,bd,bf,bg,bh,_)=>
(eE aE).bind λbi=>
(dN ax bi).bind λbj=>
(dN ax bi).bind λbk=>
let bl:=(List.modify ax bi λe=>(aK,(aL,(aM,(aO,(aP,(aQ,(aR,(aS,(aT,(aU,(aV,(aW,(aY,(aZ,(ba,(bc,(bd,bf))))))))))))))))));
some (.inl (bg,bh,bl,())))else
bif(aH==1)then((eE aE).bind λaK=>
bif(ge 0 aK ax.length)then let aL:Int:=(w64 (aE+1));
(eE aL).bind λaM=>
bif(ge aM ax.length ax.length)then bif(ge 0 0 (Nat.sub aK 0))then bif(ge (Nat.sub aK 0) aM (Nat.add aM (Nat.sub ax.length aM)))then bif(ge aM (Nat.add aM (Nat.sub ax.length aM)) ax.length)then let aO:LDEn:=(List.append (mZ ax 0 (Nat.sub aK 0)) (mZ ax aM (Nat.sub ax.length aM)));
some (.inr (aO,aI,aJ,()))else none else none else none else none else none)else
bif(aH==2)then((dK 5 aI aJ).bind λ(aK,aL,aM,_)=>
(eE aE).bind λaO=>
(dN ax aO).bind λaP=>
(dN ax aO).bind λaQ=>
let aR:=(List.modify ax aO λe=>(e.1,(aK,e.2.2)));
some (.inl (aL,aM,aR,())))else
bif(aH==3)then((eE aE).bind λaK=>
(dN ax aK).bind λaL=>
(dN ax aK).bind λaM=>
let aO:=w64 (aM.2.2.2.2.2.2.1+1);
(eE aE).bind λaP=>
(dN ax aP).bind λaQ=>
(dN ax aP).bind λaR=>
let aS:=(List.modify ax aP λe=>(e.1,(e.2.1,(e.2.2.1,(e.2.2.2.1,(e.2.2.2.2.1,(e.2.2.2.2.2.1,(aO,e.2.2.2.2.2.2.2))))))));
some (.inl (aI,aJ,aS,())))else
bif(aH==4)then((dK 6 aI aJ).bind λ(aK,aL,aM,_)=>
let aO:=w64 (aK-1);
(eE aE).bind λaP=>
(dN ax aP).bind λaQ=>
(dN ax aP).bind λaR=>
let aS:=(List.modify ax aP λe=>(e.1,(e.2.1,(e.2.2.1,(e.2.2.2.1,(e.2.2.2.2.1,(e.2.2.2.2.2.1,(e.2.2.2.2.2.2.1,(e.2.2.2.2.2.2.2.1,(e.2.2.2.2.2.2.2.2.1,(e.2.2.2.2.2.2.2.2.2.1,(e.2.2.2.2.2.2.2.2.2.2.1,(e.2.2.2.2.2.2.2.2.2.2.2.1,(e.2.2.2.2.2.2.2.2.2.2.2.2.1,(e.2.2.2.2.2.2.2.2.2.2.2.2.2.1,(e.2.2.2.2.2.2.2.2.2.2.2.2.2.2.1,(e.2.2.2.2.2.2.2.2.2.2.2.2.2.2.2.1,(aO,e.2.2.2.2.2.2.2.2.2.2.2.2.2.2.2.2.2))))))))))))))))));
some (.inl (aL,aM,aS,())))else
bif(aH==5)then((dK 67 aI aJ).bind λ(aK,aL,aM,_)=>
(eE aE).bind λaO=>
(dN ax aO).bind λaP=>
(dN ax aO).bind λaQ=>
let aR:=(List.modify ax aO λe=>(e.1,(e.2.1,(aK,e.2.2.2))));
some (.inl (aL,aM,aR,())))else
some (.inl (aI,aJ,ax,())))else
some (.inl (aA,aB,ax,())))else
some (.inl (aq,av,ax,())):Option (T0k⊕(LDEn×T07)))with
|none=>none
|some (.inl (ay,az,aA,_))=>
some (aA,ay,az,())
|some (.inr (ay,az,aA,_))=>
some (ay,az,aA,()))
def xS:X.Cfg:=⟨E0,[fq,qV,Aj,qz],[(19,wR),(20,wR),(56,wR)],[(lx 6 0 [Uc 0,Uf 3 9,Ud 4] [(2,Ug),(9,Zag)] 13),⟨12,1,qE,[(.normal,qS [Uc 0,Uf 5 13] [(2,Ug),(13,Zag)]),(.normal,(qS [Uc 0,sP 5 D8] [(2,Ug),(13,[.dead])]))]⟩]⟩
def qQ:Ctr:=⟨9,117,[.ptr ⟨2,0,[]⟩ [0]],[(2,Ug)],[⟨uL [D8],[.one],[(2,Ug)]⟩],ap2 j5⟩
theorem xE:Lk 10 qQ:=ls xS (aC fu (aC vt (aC HG (aC vf aN))))
def fj(a0:Int)(a1:Int)(a2:Int):Option (Bool×Unit):=
bif(decide (a0>=a1))then(some ((decide (a0<=a2)),()))else
some (false,())
def uM:X.Cfg:=⟨E0,[],[],[]⟩
def ol:Ctr:=⟨66,118,uL [I64,I64,I64],[],[⟨Uh,[.one],[]⟩],ap3 fj⟩
theorem uF:Lk 1 ol:=ls uM aN
def i3(a0:Int)(a1:Int)(a2:Int)(a3:Int):Option (Bool×Unit):=
bif(a0==0)then(bif(a2==0)then(some ((a3==0),()))else
some (false,()))else
bif(a0==2)then(bif(a2==0)then(some ((a3==0),()))else
some (false,()))else
bif(a0==1)then((bif(a2==(-1))then(bif(decide (a3>=0))then(some ((decide (a3<=65535)),a0,a1,a2,a3,()))else
some (false,a0,a1,a2,a3,()))else
some (false,a0,a1,a2,a3,()):Option (T0F)).bind λ(x0,x1,x2,x3,x4,_)=>
bif(x2==0)then(bif x0 then(some (true,()))else
bif(decide (x3>=0))then(bif(decide (x3<4))then(bif(decide (x4>=0))then(some ((decide (x4<32)),()))else
some (false,()))else
some (false,()))else
some (false,()))else
some (false,()))else
some (false,())
def yV:X.Cfg:=⟨E0,[],[],[⟨7,0,qE,[(.normal,qS [Uc 1,Ue 3] [(4,Uad)])]⟩]⟩
def nP:Ctr:=⟨68,119,[.agg Uad],[],[⟨Uh,[.one],[]⟩],ap4 i3⟩
theorem rL:Lk 1 nP:=ls yV aN
def kH(a0:Int)(a1:Int)(a2:Int)(a3:Int):Option (Bool×Unit):=
(i3 a0 a1 a2 a3).bind λ(x0,_)=>
some ((!x0),())
def uN:X.Cfg:=⟨E0,[nP],[],[]⟩
def om:Ctr:=⟨106,120,[.agg Uad],[],[⟨Uh,[.one],[]⟩],ap4 kH⟩
theorem uG:Lk 2 om:=ls uN (aC rL aN)
def fV:T0h->Option (T0h⊕((Int×Unit)⊕T0w)):=λ(v0,v1,v2,_)=>
bif(decide (v2<v1))then((eE v2).bind λx0=>
(dN v0 x0).bind λx1=>
(kH x1.1 x1.2.1 x1.2.2.1 x1.2.2.2).bind λ(x2,_)=>
bif x2 then(some (.inr (.inl (v2,()))))else
let x3:=w64 (v2+1);
some (.inl (v0,v1,x3,())))else
some (.inr (.inr (v0,v1,v2,false,())))
def fJ(a0:LDCn):Option (Int×Unit):=
let x0:=dR a0.length;
(match ej fV NN (a0,x0,0,())with
|none=>none
|some (.inl (x1,_))=>
some (x1,())
|some (.inr (x1,_))=>
some ((-1),()))
def oi:X.Cfg:=⟨E0,[om],[],[⟨3,0,(qS [sP 0 eF,(1,.fn 106 []),Ud 7,Ud 8] []),[(.ret,qS [Ud 4] []),(.exit 0,(qS [sP 0 eF,(1,.fn 106 []),Ud 7,Ud 8,Ue 9] []))]⟩]⟩
def jF:Ctr:=⟨133,121,[shU eF,.fn 106 []],[],[⟨yab,[.one],[]⟩],ap1 fJ⟩
theorem of:Lk 3 jF:=ls oi (aC uG aN)
def fW(a0:LDCn):Option (Bool×Unit):=
(fJ a0).bind λ(x0,_)=>
some ((decide (x0>=0)),())
def mP:X.Cfg:=⟨E0,[jF],[],[]⟩
def iF:Ctr:=⟨105,122,[shU eF,.fn 106 []],[],[⟨Uh,[.one],[]⟩],ap1 fW⟩
theorem mN:Lk 4 iF:=ls mP (aC of aN)
def gu(a0:LDCn)(a1:Int):Option (Bool×Unit):=
let x0:=dR a0.length;
bif(decide (x0<=a1))then((fW a0).bind λ(x1,_)=>
some ((!x1),()))else
some (false,())
def xI:X.Cfg:=⟨E0,[iF],[],[]⟩
def mU:Ctr:=⟨67,123,uL [eF,I64],[],[⟨Uh,[.one],[]⟩],ap2 gu⟩
theorem qm:Lk 5 mU:=ls xI (aC mN aN)
def iq(a0:Int)(a1:Int)(a2:Int)(a3:Int)(a4:Int)(a5:Int)(a6:LDCn)(a7:LDCn):Option (Bool×Unit):=
(fj a0 0 3).bind λ(x0,_)=>
bif x0 then((fj a1 0 3).bind λ(x1,_)=>
bif x1 then((fj a2 0 6).bind λ(x2,_)=>
bif x2 then((fj a3 0 1099511627776).bind λ(x3,_)=>
bif x3 then((fj a4 0 255).bind λ(x4,_)=>
bif x4 then((fj a5 0 15).bind λ(x5,_)=>
bif x5 then((gu a6 3).bind λ(x6,_)=>
bif x6 then((gu a7 16).bind λ(x7,_)=>
some (x7,()))else
some (false,()))else
some (false,()))else
some (false,()))else
some (false,()))else
some (false,()))else
some (false,()))else
some (false,())
def xH:X.Cfg:=⟨E0,[ol,mU],[],[]⟩
def mT:Ctr:=⟨34,124,[.agg Uaa],[],[⟨Uh,[.one],[]⟩],ap8 iq⟩
theorem ql:Lk 6 mT:=ls xH (aC uF (aC qm aN))
def gP:T0x->Option (T0x⊕((Bool×Unit)⊕(LDCn×T0w))):=λ(v0,v1,v2,v3,_)=>
bif(decide (v3<v2))then((eE v3).bind λx0=>
(dN v0 x0).bind λx1=>
(eE v3).bind λx2=>
(dN v1 x2).bind λx3=>
let x4:Bool:=(!((x1.1==x3.1)&&((x1.2.1==x3.2.1)&&((x1.2.2.1==x3.2.2.1)&&((x1.2.2.2==x3.2.2.2)&&true)))));
bif x4 then(some (.inr (.inl (false,()))))else
let x5:=w64 (v3+1);
some (.inl (v0,v1,v2,x5,())))else
some (.inr (.inr (v0,v1,v2,v3,false,())))
def fm(a0:LDCn)(a1:LDCn):Option (Bool×Unit):=
let x0:=dR a0.length;
let x1:=dR a1.length;
bif(x0 != x1)then(some (false,()))else
let x2:=dR a0.length;
(match ej gP NN (a0,a1,x2,0,())with
|none=>none
|some (.inl (x3,_))=>
some (x3,())
|some (.inr (x3,_))=>
some (true,()))
def rz:X.Cfg:=⟨E0,[],[],[⟨6,0,qS [sP 0 eF,sP 1 eF,Ud 12,Ud 13] [],[(.ret,qS [Ue 4] []),(.exit 0,qS [sP 0 eF,sP 1 eF,Ud 12,Ud 13,Ue 14] [])]⟩]⟩
def lN:Ctr:=⟨49,125,uL [eF,eF],[],[⟨Uh,[.one],[]⟩],ap2 fm⟩
theorem rx:Lk 1 lN:=ls rz aN
def fS(a0:Int)(a1:Int)(a2:Int)(a3:Int)(a4:Int)(a5:Int)(a6:LDCn)(a7:LDCn)(a8:Int)(a9:Int)(a10:Int)(a11:Int)(a12:Int)(a13:Int)(a14:LDCn)(a15:LDCn):Option (Bool×Unit):=
bif(a0==a8)then(bif(a1==a9)then(bif(a2==a10)then(bif(a3==a11)then(bif(a4==a12)then(bif(a5==a13)then((fm a6 a14).bind λ(x0,_)=>
bif x0 then((fm a7 a15).bind λ(x1,_)=>
some (x1,()))else
some (false,()))else
some (false,()))else
some (false,()))else
some (false,()))else
some (false,()))else
some (false,()))else
some (false,())
def yU:X.Cfg:=⟨E0,[lN],[],[]⟩
def nO:Ctr:=⟨35,126,[.agg Uaa,.agg Uaa],[],[⟨Uh,[.one],[]⟩],ap16 fS⟩
theorem rK:Lk 2 nO:=ls yU (aC rx aN)
def f8(a0:Int)(a1:Int)(a2:Int)(a3:Int)(a4:LDCn)(a5:Int)(a6:Bool):Option (Bool×Unit):=
let x0:Bool:=((a0==0)&&((a1==0)&&((a2==0)&&((a3==0)&&true))));
bif x0 then(let x1:Int:=(dR a4.length);
bif(x1==0)then(bif(a5==0)then(some ((!a6),()))else
some (false,()))else
some (false,()))else
some (false,())
def wo:X.Cfg:=⟨E0,[],[],[]⟩
def pF:Ctr:=⟨36,127,[.agg Xac],[],[⟨Uh,[.one],[]⟩],ap7 f8⟩
theorem wl:Lk 1 pF:=ls wo aN
def g7(a0:Int)(a1:Int)(a2:Int)(a3:Int)(a4:LDCn)(a5:Int)(a6:Bool):Option (Bool×Unit):=
(i3 a0 a1 a2 a3).bind λ(x0,_)=>
bif x0 then((gu a4 16).bind λ(x1,_)=>
bif x1 then(bif(decide (a5>=(-1)))then(some ((decide (a5<4)),()))else
some (false,()))else
some (false,()))else
some (false,())
def zh:X.Cfg:=⟨E0,[nP,mU],[],[]⟩
def rY:Ctr:=⟨37,128,[.agg Xac],[],[⟨Uh,[.one],[]⟩],ap7 g7⟩
theorem yQ:Lk 6 rY:=ls zh (aC rL (aC qm aN))
def gh(a0:Int)(a1:Int)(a2:Int)(a3:Int)(a4:Int)(a5:Int)(a6:Int)(a7:Int)(a8:Int)(a9:LDCn)(a10:LDCn)(a11:Int)(a12:Int)(a13:Int)(a14:Int)(a15:LDCn)(a16:Int)(a17:Bool):Option (Bool×Unit):=
bif(decide (a1<0))then(some (false,()))else
bif(decide (a1>=4))then(some (false,()))else
(iq a3 a4 a5 a6 a7 a8 a9 a10).bind λ(x0,_)=>
bif x0 then((fS a3 a4 a5 a6 a7 a8 a9 a10 0 0 0 0 0 0 [] []).bind λ(x1,_)=>
bif(a0==1)then(bif(decide (a2>=1))then(bif(decide (a2<=64))then(bif(a3==a1)then(bif(a4 != 3)then((f8 a11 a12 a13 a14 a15 a16 a17).bind λ(x2,_)=>
some (x2,()))else
some (false,()))else
some (false,()))else
some (false,()))else
some (false,()))else
bif(a0==2)then(bif(a2==0)then(bif(a3==a1)then(bif(a4==1)then((g7 a11 a12 a13 a14 a15 a16 a17).bind λ(x2,_)=>
some (x2,()))else
some (false,()))else
some (false,()))else
some (false,()))else
bif(a0==3)then(bif(a2==0)then(bif x1 then((f8 a11 a12 a13 a14 a15 a16 a17).bind λ(x2,_)=>
some (x2,()))else
some (false,()))else
some (false,()))else
bif(a0==4)then(bif(a2==0)then(bif x1 then((g7 a11 a12 a13 a14 a15 a16 a17).bind λ(x2,_)=>
bif x2 then(bif(a16==(-1))then(bif(!a17)then(let x3:Int:=(dR a15.length);
some ((x3==0),()))else
some (false,()))else
some (false,()))else
some (false,()))else
some (false,()))else
some (false,()))else
some (false,()))else
(fS a3 a4 a5 a6 a7 a8 a9 a10 0 0 0 0 0 0 [] []).bind λ(x1,_)=>
bif(a0==1)then(bif(decide (a2>=1))then(bif(decide (a2<=64))then(some (false,()))else
some (false,()))else
some (false,()))else
bif(a0==2)then(bif(a2==0)then(some (false,()))else
some (false,()))else
bif(a0==3)then(bif(a2==0)then(bif x1 then((f8 a11 a12 a13 a14 a15 a16 a17).bind λ(x2,_)=>
some (x2,()))else
some (false,()))else
some (false,()))else
bif(a0==4)then(bif(a2==0)then(bif x1 then((g7 a11 a12 a13 a14 a15 a16 a17).bind λ(x2,_)=>
bif x2 then(bif(a16==(-1))then(bif(!a17)then(let x3:Int:=(dR a15.length);
some ((x3==0),()))else
some (false,()))else
some (false,()))else
some (false,()))else
some (false,()))else
some (false,()))else
some (false,())
def zg:X.Cfg:=⟨E0,[mT,nO,pF,rY],[],[]⟩
def lc:Ctr:=⟨16,129,[.agg yaf],[],[⟨Uh,[.one],[]⟩],ap18 gh⟩
theorem nN:Lk 7 lc:=ls zg (aC ql (aC rK (aC wl (aC yQ aN))))
def iP(a0:Int)(a1:Int)(a2:Int)(a3:Int)(a4:Int)(a5:Int)(a6:Int)(a7:Int)(a8:Int)(a9:LDCn)(a10:LDCn)(a11:Int)(a12:Int)(a13:Int)(a14:Int)(a15:LDCn)(a16:Int)(a17:Bool)(a18:List (Int))(a19:List (Int×Int×Int×Int×Int×Int×LDCn×LDCn)):Option (T1P):=
(eE a1).bind λx0=>
(dN a18 x0).bind λx1=>
((dN a18 x0).bind λx2=>
bif(x2 != 2)then(some (x0,a16,true,a18,a19,a0,a1,a2,a3,a4,a5,a6,a7,a8,a9,a10,a11,a12,a13,a14,a15,a16,a17,()))else
(eE a1).bind λx3=>
(dN a19 x3).bind λx4=>
(dN a19 x3).bind λx5=>
(fS a3 a4 a5 a6 a7 a8 a9 a10 x5.1 x5.2.1 x5.2.2.1 x5.2.2.2.1 x5.2.2.2.2.1 x5.2.2.2.2.2.1 x5.2.2.2.2.2.2.1 x5.2.2.2.2.2.2.2).bind λ(x6,_)=>
bif(!x6)then(some (x0,a16,true,a18,a19,a0,a1,a2,a3,a4,a5,a6,a7,a8,a9,a10,a11,a12,a13,a14,a15,a16,a17,()))else
bif(a16 != (-1))then((eE a16).bind λx7=>
(dN a18 x7).bind λx8=>
(dN a18 x7).bind λx9=>
bif(x9 != 0)then(some (x0,a16,true,a18,a19,a0,a1,a2,a3,a4,a5,a6,a7,a8,a9,a10,a11,a12,a13,a14,a15,a16,a17,()))else
some (x0,a16,(a8 != 10),a18,a19,a0,a1,a2,a3,a4,a5,a6,a7,a8,a9,a10,a11,a12,a13,a14,a15,a16,a17,()))else
some (x0,a16,false,a18,a19,a0,a1,a2,a3,a4,a5,a6,a7,a8,a9,a10,a11,a12,a13,a14,a15,a16,a17,()):Option (Nat×Int×Bool×LI×(List (Int×Int×Int×Int×Int×Int×LDCn×LDCn))×T2o)).bind λ(x2,x3,x4,x5,x6,x7,x8,x9,ac,ae,af,ag,ah,ai,aj,ak,am,an,ap,aq,av,ax,ay,_)=>
bif x4 then(some (false,x5,x6,()))else
(bif(ai==0)then((dN x5 x2).bind λaz=>
let aA:=List.modify x5 x2 λe=>4;
some (x3,aA,x6,()))else
bif ay then((dN x5 x2).bind λaz=>
let aA:=List.modify x5 x2 λe=>3;
some (x3,aA,x6,()))else
(dN x5 x2).bind λaz=>
let aA:=List.modify x5 x2 λe=>1;
some (x3,aA,x6,()):Option (T1V)).bind λ(az,aA,aB,_)=>
(bif(az != (-1))then((eE az).bind λaD=>
(dN aA aD).bind λaE=>
(dN aA aD).bind λaF=>
let aG:=List.modify aA aD λe=>1;
some (aG,aB,()))else
some (aA,aB,()):Option (T1J)).bind λ(aD,aE,_)=>
some (true,aD,aE,())
def uP:X.Cfg:=⟨E0,[nO],[],[⟨3,0,qE,[(.normal,(qS [Uf 0 3,Uf 1 5,Uc 5,(7,.ptr ⟨3,0,[((),(1,0))]⟩ [0,0]),Ud 8,Ue 47] [(3,zaa),(5,[shU (Ua (.pair I64 (.pair I64 (.pair I64 (.pair I64 (.pair I64 (.pair I64 (.pair eF eF))))))))]),(12,yaf)]))]⟩,⟨5,1,qE,[(.normal,(qS [Uf 0 3,Uf 1 5,Ud 8] [(3,zaa),(5,[shU (Ua (.pair I64 (.pair I64 (.pair I64 (.pair I64 (.pair I64 (.pair I64 (.pair eF eF))))))))])]))]⟩,⟨8,2,qE,[(.normal,(qS [Uf 0 3,Uf 1 5] [(3,zaa),(5,[shU (Ua (.pair I64 (.pair I64 (.pair I64 (.pair I64 (.pair I64 (.pair I64 (.pair eF eF))))))))])]))]⟩]⟩
def oo:Ctr:=⟨65,130,[.pk ⟨3,0,[]⟩ [0,0],.pk ⟨5,0,[]⟩ [0,0],.agg yaf],[(3,zaa),(5,[shU (Ua (.pair I64 (.pair I64 (.pair I64 (.pair I64 (.pair I64 (.pair I64 (.pair eF eF))))))))])],[⟨Uh,[.one],[(3,zaa),(5,[shU (Ua (.pair I64 (.pair I64 (.pair I64 (.pair I64 (.pair I64 (.pair I64 (.pair eF eF))))))))]),(1000000,[]),(1000001,[])]⟩],ap20 iP⟩
theorem uH:Lk 3 oo:=ls uP (aC rK aN)
def gV(a0:Int)(a1:Int)(a2:Int)(a3:Int)(a4:Int)(a5:Int)(a6:Int)(a7:Int)(a8:Int)(a9:LDCn)(a10:LDCn)(a11:Int)(a12:Int)(a13:Int)(a14:Int)(a15:LDCn)(a16:Int)(a17:Bool)(a18:List (Int))(a19:List (Int×Int×Int×Int×Int×Int×LDCn×LDCn)):Option (T1P):=
(eE a1).bind λx0=>
(dN a18 x0).bind λx1=>
(match(bif(a0==1)then((dN a18 x0).bind λx2=>
bif(x2 != 1)then(some (.inl (false,a18,a19,())))else
(eE a1).bind λx3=>
(dN a19 x3).bind λx4=>
(dN a19 x3).bind λx5=>
let x6:=(List.modify a19 x3 λe=>(a3,(a4,(a5,(a6,(a7,(a8,(a9,a10))))))));
bif(a4==2)then((dN a18 x0).bind λx7=>
let x8:=List.modify a18 x0 λe=>4;
some (.inr (x8,x6,())))else
bif(a4==1)then((dN a18 x0).bind λx7=>
let x8:=List.modify a18 x0 λe=>2;
some (.inr (x8,x6,())))else
some (.inr (a18,x6,())))else
bif(a0==2)then((iP a0 a1 a2 a3 a4 a5 a6 a7 a8 a9 a10 a11 a12 a13 a14 a15 a16 a17 a18 a19).bind λ(x2,x3,x4,_)=>
some (.inl (x2,x3,x4,())))else
bif(a0==3)then((dN a18 x0).bind λx2=>
some (.inl ((x2==1),a18,a19,())))else
bif(a0==4)then((dN a18 x0).bind λx2=>
bif(x2 != 3)then(some (.inl (false,a18,a19,())))else
(dN a18 x0).bind λx3=>
let x4:=List.modify a18 x0 λe=>1;
some (.inr (x4,a19,())))else
some (.inr (a18,a19,())):Option (T1P⊕T1J))with
|none=>none
|some (.inl (x2,x3,x4,_))=>
some (x2,x3,x4,())
|some (.inr (x2,x3,_))=>
some (true,x2,x3,()))
def wq:X.Cfg:=⟨E0,[oo],[],[⟨2,0,qE,[(.ret,(qS [Uf 0 3,Uf 1 5,Ue 6] [(3,zaa),(5,[shU (Ua (.pair I64 (.pair I64 (.pair I64 (.pair I64 (.pair I64 (.pair I64 (.pair eF eF))))))))])])),(.normal,(qS [Uf 0 3,Uf 1 5] [(3,zaa),(5,[shU (Ua (.pair I64 (.pair I64 (.pair I64 (.pair I64 (.pair I64 (.pair I64 (.pair eF eF))))))))])]))]⟩]⟩
def pG:Ctr:=⟨32,131,[.pk ⟨3,0,[]⟩ [0,0],.pk ⟨5,0,[]⟩ [0,0],.agg yaf],[(3,zaa),(5,[shU (Ua (.pair I64 (.pair I64 (.pair I64 (.pair I64 (.pair I64 (.pair I64 (.pair eF eF))))))))])],[⟨Uh,[.one],[(3,zaa),(5,[shU (Ua (.pair I64 (.pair I64 (.pair I64 (.pair I64 (.pair I64 (.pair I64 (.pair eF eF))))))))]),(1000000,[]),(1000001,[])]⟩],ap20 gV⟩
theorem wm:Lk 4 pG:=ls wq (aC uH aN)
def ia:T2c->Option (T2c⊕((Bool×Unit×Unit)⊕(LDEn×Int×Int×T1P))):=λ(v0,v1,v2,v3,v4,_)=>
bif(decide (v2<v1))then((eE v2).bind λx0=>
(dN v0 x0).bind λx1=>
(gh x1.1 x1.2.1 x1.2.2.1 x1.2.2.2.1 x1.2.2.2.2.1 x1.2.2.2.2.2.1 x1.2.2.2.2.2.2.1 x1.2.2.2.2.2.2.2.1 x1.2.2.2.2.2.2.2.2.1 x1.2.2.2.2.2.2.2.2.2.1 x1.2.2.2.2.2.2.2.2.2.2.1 x1.2.2.2.2.2.2.2.2.2.2.2.1 x1.2.2.2.2.2.2.2.2.2.2.2.2.1 x1.2.2.2.2.2.2.2.2.2.2.2.2.2.1 x1.2.2.2.2.2.2.2.2.2.2.2.2.2.2.1 x1.2.2.2.2.2.2.2.2.2.2.2.2.2.2.2.1 x1.2.2.2.2.2.2.2.2.2.2.2.2.2.2.2.2.1 x1.2.2.2.2.2.2.2.2.2.2.2.2.2.2.2.2.2).bind λ(x2,_)=>
bif(!x2)then(some (.inr (.inl (false,(),()))))else
(gV x1.1 x1.2.1 x1.2.2.1 x1.2.2.2.1 x1.2.2.2.2.1 x1.2.2.2.2.2.1 x1.2.2.2.2.2.2.1 x1.2.2.2.2.2.2.2.1 x1.2.2.2.2.2.2.2.2.1 x1.2.2.2.2.2.2.2.2.2.1 x1.2.2.2.2.2.2.2.2.2.2.1 x1.2.2.2.2.2.2.2.2.2.2.2.1 x1.2.2.2.2.2.2.2.2.2.2.2.2.1 x1.2.2.2.2.2.2.2.2.2.2.2.2.2.1 x1.2.2.2.2.2.2.2.2.2.2.2.2.2.2.1 x1.2.2.2.2.2.2.2.2.2.2.2.2.2.2.2.1 x1.2.2.2.2.2.2.2.2.2.2.2.2.2.2.2.2.1 x1.2.2.2.2.2.2.2.2.2.2.2.2.2.2.2.2.2 v3 v4).bind λ(x3,x4)=>
bif(!x3)then(some (.inr (.inl (false,(),()))))else
let x6:=w64 (v2+1);
some (.inl (v0,v1,x6,x4)))else
some (.inr (.inr (v0,v1,v2,false,v3,v4,())))
def fa(a0:LDEn):Option (LI×Bool×Unit):=
bif(pM 4 4 1)then let x0:List (Int):=(List.replicate 4 0);
(dN x0 0).bind λx1=>
(dN x0 0).bind λx2=>
let x3:=List.modify x0 0 λe=>1;
bif(pM 4 4 8)then let x4:List (Int×Int×Int×Int×Int×Int×LDCn×LDCn):=(List.replicate 4 (0,(0,(0,(0,(0,(0,([],[]))))))));
let x5:=dR a0.length;
(match ej ia NN (a0,x5,0,x3,x4,())with
|none=>none
|some (.inl (x6,x7,_))=>
some ([],x6,())
|some (.inr (x6,x7,x8,x9,ac,ae,_))=>
some (ac,true,()))else none else none
def xQ:X.Cfg:=⟨E0,[lc,pG],[(11,(.pair I64 (.pair I64 (.pair I64 (.pair I64 (.pair I64 (.pair I64 (.pair (Ua KCn) (Ua KCn)))))))))],[⟨6,0,(qS [Uf 4 11,Uf 5 13,sP 12 D8,Ud 13,Ud 14] [(11,zaa),(13,[shU (Ua (.pair I64 (.pair I64 (.pair I64 (.pair I64 (.pair I64 (.pair I64 (.pair eF eF))))))))])]),[(.ret,(qS [Uf 2 7,Ue 3] [(7,uL [N1])])),(.exit 0,(qS [Uf 4 11,Uf 5 13,sP 12 D8,Ud 13,Ud 14,Ue 15] [(11,zaa),(13,[shU (Ua (.pair I64 (.pair I64 (.pair I64 (.pair I64 (.pair I64 (.pair I64 (.pair eF eF))))))))])]))]⟩]⟩
def mV:Ctr:=⟨12,132,uL [D8],[],[⟨uL [(Ua I64),.bool],[.one,.one],[]⟩],ap1 fa⟩
theorem qq:Lk 8 mV:=ls xQ (aC nN (aC wm aN))
def nT(a0:Int)(a1:Int)(a2:Int)(a3:Int)(a4:Int)(a5:Int)(a6:Int)(a7:Int)(a8:Int)(a9:LDCn)(a10:LDCn)(a11:Int)(a12:Int)(a13:Int)(a14:Int)(a15:LDCn)(a16:Int)(a17:Bool):Option (Bool×Unit):=
(gh a0 a1 a2 a3 a4 a5 a6 a7 a8 a9 a10 a11 a12 a13 a14 a15 a16 a17).bind λ(x0,_)=>
some ((!x0),())
def uQ:X.Cfg:=⟨E0,[lc],[],[]⟩
def oq:Ctr:=⟨43,133,[.agg yaf],[],[⟨Uh,[.one],[]⟩],ap18 nT⟩
theorem uI:Lk 8 oq:=ls uQ (aC nN aN)
def my:LDEn×T02->Option ((LDEn×T02)⊕((Int×Unit)⊕(LDEn×T0c))):=λ(v0,v1,v2,_)=>
bif(decide (v2<v1))then((eE v2).bind λx0=>
(dN v0 x0).bind λx1=>
(nT x1.1 x1.2.1 x1.2.2.1 x1.2.2.2.1 x1.2.2.2.2.1 x1.2.2.2.2.2.1 x1.2.2.2.2.2.2.1 x1.2.2.2.2.2.2.2.1 x1.2.2.2.2.2.2.2.2.1 x1.2.2.2.2.2.2.2.2.2.1 x1.2.2.2.2.2.2.2.2.2.2.1 x1.2.2.2.2.2.2.2.2.2.2.2.1 x1.2.2.2.2.2.2.2.2.2.2.2.2.1 x1.2.2.2.2.2.2.2.2.2.2.2.2.2.1 x1.2.2.2.2.2.2.2.2.2.2.2.2.2.2.1 x1.2.2.2.2.2.2.2.2.2.2.2.2.2.2.2.1 x1.2.2.2.2.2.2.2.2.2.2.2.2.2.2.2.2.1 x1.2.2.2.2.2.2.2.2.2.2.2.2.2.2.2.2.2).bind λ(x2,_)=>
bif x2 then(some (.inr (.inl (v2,()))))else
let x3:=w64 (v2+1);
some (.inl (v0,v1,x3,())))else
some (.inr (.inr (v0,v1,v2,false,())))
def ju(a0:LDEn):Option (Int×Unit):=
let x0:=dR a0.length;
(match ej my NN (a0,x0,0,())with
|none=>none
|some (.inl (x1,_))=>
some (x1,())
|some (.inr (x1,_))=>
some ((-1),()))
def oh:X.Cfg:=⟨E0,[oq],[],[⟨3,0,(qS [sP 0 D8,(1,.fn 43 []),Ud 7,Ud 8] []),[(.ret,qS [Ud 4] []),(.exit 0,(qS [sP 0 D8,(1,.fn 43 []),Ud 7,Ud 8,Ue 9] []))]⟩]⟩
def jE:Ctr:=⟨71,134,[shU D8,.fn 43 []],[],[⟨yab,[.one],[]⟩],ap1 ju⟩
theorem oe:Lk 9 jE:=ls oh (aC uI aN)
def io(a0:LDEn):Option (Bool×Unit):=
(ju a0).bind λ(x0,_)=>
some ((decide (x0>=0)),())
def mO:X.Cfg:=⟨E0,[jE],[],[]⟩
def iE:Ctr:=⟨42,135,[shU D8,.fn 43 []],[],[⟨Uh,[.one],[]⟩],ap1 io⟩
theorem mM:Lk 10 iE:=ls mO (aC oe aN)
def sG(a0:Int):Option (Bool×Unit):=
bif(a0==1)then(some (true,()))else
some ((a0==2),())
def BI:X.Cfg:=⟨E0,[],[],[]⟩
def tZ:Ctr:=⟨72,136,yab,[],[⟨Uh,[.one],[]⟩],ap1 sG⟩
theorem A2:Lk 1 tZ:=ls BI aN
def yE:T0e->Option (T0e⊕T0q):=λ(v0,v1,v2,_)=>
bif(decide (v0>=0))then(let x0:Int:=(w64 (8*v0));
(eE x0).bind λx1=>
let x2:Int:=(shR .shr .i64 v1 x1);
let x3:=wk .u8 x2;
bif(dX 1 v2.length (List.length [x3]))then let x4:List (Int):=(List.append v2 [x3]);
let x5:=w64 (v0-1);
some (.inl (x5,v1,x4,()))else none)else
some (.inr (v0,v1,false,v2,()))
def kI(a0:Int)(a1:Int)(a2:List (Int)):Option (LI×Unit):=
let x0:=w64 (a0-1);
(ej yE NN (x0,a1,a2,())).bind λ(x1,x2,x3,x4,_)=>
some (x4,())
def E5:X.Cfg:=⟨E0,[],[],[(lx 3 0 [Uf 0 3,Ud 1,Ud 2] [(3,zad)] 10)]⟩
def pi:Ctr:=⟨74,137,[.pk ⟨3,0,[]⟩ [0,0],shU I64,shU I64],[(3,zad)],[⟨zad,[.one],[(3,[])]⟩],ap3 kI⟩
theorem sj:Lk 1 pi:=ls E5 aN
def nv(a0:Int)(a1:Int)(a2:Int)(a3:Int)(a4:List (Int)):Option (LI×Unit):=
bif(a0==1)then(let x0:Int:=(w64 (a2+1));
let x1:=wk .u8 x0;
let x2:List (Int):=[a0,x1];
bif(dX 1 a4.length x2.length)then let x3:List (Int):=(List.append a4 x2);
(kI 2 a3 x3).bind λ(x4,_)=>
some (x4,())else none)else
let x0:List (Int):=[a0,0];
bif(dX 1 a4.length x0.length)then let x1:List (Int):=(List.append a4 x0);
let x2:=wk .i64 a1;
(kI 2 x2 x1).bind λ(x3,_)=>
some (x3,())else none
def DF:X.Cfg:=⟨E0,[pi],[],[]⟩
def qT:Ctr:=⟨76,138,[.pk ⟨3,0,[]⟩ [0,0],.agg Uad],[(3,zad)],[⟨zad,[.one],[(3,[])]⟩],ap5 nv⟩
theorem vp:Lk 2 qT:=ls DF (aC sj aN)
def wZ:LDCn×T0e->Option ((LDCn×T0e)⊕(LDCn×T0q)):=λ(v0,v1,v2,v3,_)=>
bif(decide (v2<v1))then((eE v2).bind λx0=>
(dN v0 x0).bind λx1=>
(nv x1.1 x1.2.1 x1.2.2.1 x1.2.2.2 v3).bind λ(x2,_)=>
let x3:=w64 (v2+1);
some (.inl (v0,v1,x3,x2,())))else
some (.inr (v0,v1,v2,false,v3,()))
def lp(a0:LDCn)(a1:List (Int)):Option (LI×Unit):=
let x0:=dR a0.length;
let x1:=wk .u8 x0;
bif(dX 1 a1.length (List.length [x1]))then let x2:List (Int):=(List.append a1 [x1]);
let x3:=dR a0.length;
(ej wZ NN (a0,x3,0,x2,())).bind λ(x4,x5,x6,x7,x8,_)=>
some (x8,())else none
def DE:X.Cfg:=⟨E0,[qT],[],[(lx 4 0 [Uf 0 3,sP 13 eF,Ud 14,Ud 15] [(3,zad)] 16)]⟩
def qR:Ctr:=⟨77,139,[.pk ⟨3,0,[]⟩ [0,0],shU eF],[(3,zad)],[⟨zad,[.one],[(3,[])]⟩],ap2 lp⟩
theorem vo:Lk 3 qR:=ls DE (aC vp aN)
def nU(a0:Int)(a1:Int)(a2:Int)(a3:Int)(a4:Int)(a5:Int)(a6:LDCn)(a7:LDCn):Option (T07):=
(iq a0 a1 a2 a3 a4 a5 a6 a7).bind λ(x0,_)=>
bif(!x0)then(some ([],1,()))else
let x1:=wk .u8 a0;
let x2:=wk .u8 a1;
let x3:=wk .u8 a2;
let x4:List (Int):=[x1,x2,x3];
(kI 6 a3 x4).bind λ(x5,_)=>
let x6:=wk .u8 a4;
let x7:=wk .u8 a5;
let x8:List (Int):=[x6,x7];
bif(dX 1 x5.length x8.length)then let x9:List (Int):=(List.append x5 x8);
(lp a6 x9).bind λ(ac,_)=>
(lp a7 ac).bind λ(ae,_)=>
some (ae,0,())else none
def uR:X.Cfg:=⟨E0,[mT,pi,qR],[],[]⟩
def ot:Ctr:=⟨73,140,[.agg Uaa],[],[⟨uL [(Ua CB),I64],[.one,.one],[]⟩],ap8 nU⟩
theorem uJ:Lk 7 ot:=ls uR (aC ql (aC sj (aC vo aN)))
def lG(a0:Int):Option (Bool×Unit):=
bif(a0==2)then(some (true,()))else
some ((a0==4),())
def wt:X.Cfg:=⟨E0,[],[],[]⟩
def pH:Ctr:=⟨75,141,yab,[],[⟨Uh,[.one],[]⟩],ap1 lG⟩
theorem wn:Lk 1 pH:=ls wt aN
def rH(a0:Int)(a1:Int)(a2:Int)(a3:Int)(a4:Int)(a5:Int)(a6:Int)(a7:Int)(a8:Int)(a9:LDCn)(a10:LDCn)(a11:Int)(a12:Int)(a13:Int)(a14:Int)(a15:LDCn)(a16:Int)(a17:Bool)(a18:List (Int)):Option (LI×Unit):=
(sG a0).bind λ(x0,_)=>
bif x0 then((nU a3 a4 a5 a6 a7 a8 a9 a10).bind λ(x1,x2,_)=>
let x3:=wk .u8 a0;
let x4:=wk .u8 a1;
let x5:=wk .u8 a2;
let x6:List (Int):=[x3,x4,x5];
bif(dX 1 a18.length x6.length)then let x7:List (Int):=(List.append a18 x6);
let x8:=dR x1.length;
(kI 2 x8 x7).bind λ(x9,_)=>
bif(dX 1 x9.length x1.length)then let ac:List (Int):=(List.append x9 x1);
(lG a0).bind λ(ae,_)=>
bif(!ae)then(some (ac,()))else
(nv a11 a12 a13 a14 ac).bind λ(af,_)=>
let ag:=w64 (a16+1);
let ah:=wk .u8 ag;
bif(dX 1 af.length (List.length [ah]))then let ai:List (Int):=(List.append af [ah]);
(bif a17 then(bif(dX 1 ai.length (List.length [1]))then let aj:List (Int):=(List.append ai [1]);
some (aj,a0,a1,a2,a3,a4,a5,a6,a7,a8,a9,a10,a11,a12,a13,a14,a15,a16,a17,())else none)else
bif(dX 1 ai.length (List.length [0]))then let aj:List (Int):=(List.append ai [0]);
some (aj,a0,a1,a2,a3,a4,a5,a6,a7,a8,a9,a10,a11,a12,a13,a14,a15,a16,a17,())else none:Option (T2w)).bind λ(aj,ak,am,an,ap,aq,av,ax,ay,az,aA,aB,aD,aE,aF,aG,aH,_)=>
(lp aH aj).bind λ(aK,_)=>
some (aK,())else none else none else none)else
let x1:=wk .u8 a0;
let x2:=wk .u8 a1;
let x3:=wk .u8 a2;
let x4:List (Int):=[x1,x2,x3];
bif(dX 1 a18.length x4.length)then let x5:List (Int):=(List.append a18 x4);
(kI 2 0 x5).bind λ(x6,_)=>
bif(dX 1 x6.length 0)then(lG a0).bind λ(x7,_)=>
bif(!x7)then(some (x6,()))else
(nv a11 a12 a13 a14 x6).bind λ(x8,_)=>
let x9:=w64 (a16+1);
let ac:=wk .u8 x9;
bif(dX 1 x8.length (List.length [ac]))then let ae:List (Int):=(List.append x8 [ac]);
(bif a17 then(bif(dX 1 ae.length (List.length [1]))then let af:List (Int):=(List.append ae [1]);
some (af,a0,a1,a2,a3,a4,a5,a6,a7,a8,a9,a10,a11,a12,a13,a14,a15,a16,a17,())else none)else
bif(dX 1 ae.length (List.length [0]))then let af:List (Int):=(List.append ae [0]);
some (af,a0,a1,a2,a3,a4,a5,a6,a7,a8,a9,a10,a11,a12,a13,a14,a15,a16,a17,())else none:Option (T2w)).bind λ(af,ag,ah,ai,aj,ak,am,an,ap,aq,av,ax,ay,az,aA,aB,aD,aE,aF,_)=>
(lp aD af).bind λ(aG,_)=>
some (aG,())else none else none else none
def zf:X.Cfg:=⟨E0,[tZ,ot,pi,pH,qT,qR],[],[⟨10,0,qE,[(.normal,qS [Uf 0 3,Uc 3] [(3,zad),(8,yaf)])]⟩]⟩
def rX:Ctr:=⟨44,142,[.pk ⟨3,0,[]⟩ [0,0],.agg yaf],[(3,zad)],[⟨zad,[.one],[(3,[])]⟩],ap19 rH⟩
theorem yP:Lk 8 rX:=ls zf (aC A2 (aC uJ (aC sj (aC wn (aC vp (aC vo aN))))))
def sH:LDEn×T0e->Option ((LDEn×T0e)⊕(LDEn×T0q)):=λ(v0,v1,v2,v3,_)=>
bif(decide (v2<v1))then((eE v2).bind λx0=>
(dN v0 x0).bind λx1=>
(rH x1.1 x1.2.1 x1.2.2.1 x1.2.2.2.1 x1.2.2.2.2.1 x1.2.2.2.2.2.1 x1.2.2.2.2.2.2.1 x1.2.2.2.2.2.2.2.1 x1.2.2.2.2.2.2.2.2.1 x1.2.2.2.2.2.2.2.2.2.1 x1.2.2.2.2.2.2.2.2.2.2.1 x1.2.2.2.2.2.2.2.2.2.2.2.1 x1.2.2.2.2.2.2.2.2.2.2.2.2.1 x1.2.2.2.2.2.2.2.2.2.2.2.2.2.1 x1.2.2.2.2.2.2.2.2.2.2.2.2.2.2.1 x1.2.2.2.2.2.2.2.2.2.2.2.2.2.2.2.1 x1.2.2.2.2.2.2.2.2.2.2.2.2.2.2.2.2.1 x1.2.2.2.2.2.2.2.2.2.2.2.2.2.2.2.2.2 v3).bind λ(x2,_)=>
let x3:=w64 (v2+1);
some (.inl (v0,v1,x3,x2,())))else
some (.inr (v0,v1,v2,false,v3,()))
def p7(a0:LDEn):Option (T07):=
(io a0).bind λ(x0,_)=>
bif x0 then(some ([],1,()))else
let x1:=dR a0.length;
bif(decide (x1>200))then(some ([],3,()))else
let x2:=dR a0.length;
(ej sH NN (a0,x2,0,[],())).bind λ(x3,x4,x5,x6,x7,_)=>
some (x7,0,())
def xR:X.Cfg:=⟨E0,[iE,rX],[],[(lx 10 0 [Uf 4 11,sP 12 D8,Ud 13,Ud 14] [(11,zad)] 15)]⟩
def qP:Ctr:=⟨18,143,uL [D8],[],[⟨uL [(Ua CB),I64],[.one,.one],[]⟩],ap1 p7⟩
theorem xD:Lk 11 qP:=ls xR (aC mM (aC yP aN))
def iQ:Option (Bool×Unit):=
let x0:LDEn:=[(1,(0,(1,(0,(1,(0,(0,(0,(15,([],([],(0,(0,(0,(0,([],(0,false)))))))))))))))))];
(fa x0).bind λ(x1,x2,_)=>
let x3:LDEn:=[(1,(0,(1,(0,(1,(0,(0,(0,(15,([],([],(0,(0,(0,(0,([],(0,false)))))))))))))))))];
(p7 x3).bind λ(x4,x5,_)=>
(gh 1 0 1 0 1 0 0 0 15 [] [] 0 0 0 0 [] 0 false).bind λ(x6,_)=>
bif x6 then(bif x2 then(let x7:Int:=(dR x1.length);
bif(x7==4)then((dN x1 0).bind λx8=>
(dN x1 0).bind λx9=>
bif(x9==2)then(bif(x5==0)then(let ac:Int:=(dR x4.length);
some ((ac==18),()))else
some (false,()))else
some (false,()))else
some (false,()))else
some (false,()))else
some (false,())
def BJ:X.Cfg:=⟨E0,[mV,qP,lc],[(10,wR),(16,wR)],[]⟩
def t8:Ctr:=⟨14,144,[],[],[⟨Uh,[.one],[]⟩],λh=>iQ⟩
theorem A3:Lk 12 t8:=ls BJ (aC qq (aC xD (aC nN aN)))
def jo(a0:List (Int))(a1:Int):Option (Bool×Unit):=
(j5 a0 0).bind λ(x0,x1,x2,_)=>
(lj x0).bind λ(x3,_)=>
(jz x1 x2).bind λ(x4,x5,x6,x7,x8,x9,ac,ae,af,ag,ah,ai,aj,ak,am,an,ap,aq,_)=>
let ay:LDEn:=[(x4,(x5,(x6,(x7,(x8,(x9,(ac,(ae,(af,(ag,(ah,(ai,(aj,(ak,(am,(an,(ap,aq)))))))))))))))))];
bif(dX 184 x3.length ay.length)then let az:LDEn:=(List.append x3 ay);
(fa x0).bind λ(aA,aB,_)=>
(fa az).bind λ(aD,aE,_)=>
let aF:=dR x0.length;
let aG:=w64 (aF+1);
(ra a1 aG).bind λ(aH,_)=>
(eE aH).bind λaI=>
bif(ge 0 aI x0.length)then let aJ:LDEn:=(mZ x0 0 (Nat.sub aI 0));
(fa aJ).bind λ(aK,aL,_)=>
bif aB then(bif aL then((iQ).bind λ(aM,_)=>
some (aM,()))else
bif(!aB)then((iQ).bind λ(aM,_)=>
some (aM,()))else
some (false,()))else
bif(!aE)then(bif aL then((iQ).bind λ(aM,_)=>
some (aM,()))else
bif(!aB)then((iQ).bind λ(aM,_)=>
some (aM,()))else
some (false,()))else
some (false,())else none else none
def so:X.Cfg:=⟨E0,[qQ,qz,qV,mV,B6,t8],[(22,wR),(23,wR)],[]⟩
def mW:Ctr:=⟨3,145,Ug,[],[⟨Uh,[.one],[]⟩],ap2 jo⟩
theorem k_law20_RecordGrows:Lk 13 mW:=ls so (aC xE (aC vf (aC vt (aC qq (aC Gb (aC A3 aN))))))
end
end Go.Proofs.YtoldehogdgdhmaaGreat
namespace Go.Proofs.YtoldehogdgdhmaaGreat
set_option maxRecDepth 100000
noncomputable section
end
end Go.Proofs.YtoldehogdgdhmaaGreat
namespace Go.Proofs.YtoldehogdgdhmaaGreat
open Go.RowKit
theorem PY:(Tryz.prog.funcs.all λfn=>!(fn.name=="runtime.NumGoroutine"))=true:=by kernel_rfl
theorem Hv:ov Tryz.prog 8:=by
 obtain⟨fn,hf,hb⟩:∃fn,Tryz.prog.funcs[8]?=some fn/\fn.body.isSome=true:=by
  have hs:(match Tryz.prog.funcs[8]? with|some fn=>fn.body.isSome|none=>false)=true:=by kernel_rfl
  cases h:Tryz.prog.funcs[8]? with
  |none=>rw[h]at hs;cases hs
  |some fn=>rw[h]at hs;exact⟨fn,rfl,hs⟩
 obtain⟨c,hc⟩:=Option.isSome_iff_exists.1 hb;refine DU hf ?_ hc;obtain⟨hlt,he⟩:=Array.getElem?_eq_some_iff.1 hf;have:=Array.all_eq_true.1 PY 8 hlt;rw[he]at this;simpa using this
def OC(x:Value)(w:World)(e:Ending)(w':World):Prop:=e=.returned (.pointer (some ⟨w.heap.size,0,none⟩))/\w'=w.alloc (.cells #[x,.int .i64 0] 90)
theorem NR(x:Value)(hx:x.oneCell'=true)(w:World):
 Calls Tryz.prog 8 #[x] w (OC x w):=by
 cases x
 all_goals first
  |(go_enter Tryz.func8,Tryz.ntmps8
    go_wp2
    go_ret
    exact⟨rfl,rfl⟩)
  |simp[Value.oneCell']at hx
theorem Pm:B9 Tryz.prog E0:=by
 intro f n tm h;simp only[E0]at h;split at h
 ·rename_i e;subst e
  injection h with h
  injection h with h1 h2
  subst h1 h2;refine⟨Hv,λx hx=>?_,90,λl2 w hl Zs=>?_⟩
  ·simp only[List.mem_cons,List.not_mem_nil,or_false]at hx;rcases hx with hx|hx
   ·injection hx
   ·injection hx with hx;rw[hx];rfl
  ·match l2,hl with
   | [x],_=>exact NR x (Zs x (by simp[bxV])) w
 ·simp at h
theorem e0_ok:Ea Tryz.prog E0:=Mn Pm
def Ok{α:Type}(o:Option α)(Q:α->Prop):Prop:=∃a,o=some a/\Q a
section
variable {α β:Type}
theorem Ok.ret{a:α}{Q:α->Prop}(h:Q a):Ok (some a) Q:=⟨a,rfl,h⟩
theorem Ok.bind{o:Option α}{f:α->Option β}{P:α->Prop}{Q:β->Prop}(h:Ok o P)(h2:∀a,P a->Ok (f a) Q):Ok (o.bind f) Q:=by
 obtain⟨a,rfl,h1⟩:=h
 simp_all
theorem Ok.mono{o:Option α}{P Q:α->Prop}(h:Ok o P)(h2:∀a,P a->Q a):Ok o Q:=by
 have ⟨a,e,h1⟩:=h;exact⟨a,e,h2 a h1⟩
theorem Ok.cond{c:Bool}{a b:Option α}{Q:α->Prop}(h1:c=true->Ok a Q)(h2:c=false->Ok b Q):Ok (bif c then a else b) Q:=by
 grind
class BP (b:Bool) (P N:outParam Prop):Prop where
 t:b=true->P
 f:b=false->N
instance (priority:=low) bpVar {b:Bool}:BP b (b=true) (b=false):=⟨id,id⟩
instance Qu {p:Prop}{i:Decidable p}:BP (@decide p i) p (¬p):=⟨of_decide_eq_true,of_decide_eq_false⟩
instance QI {α:Type}[BEq α][LawfulBEq α]{a b:α}:BP (a==b) (a=b) (¬a=b):=⟨eq_of_beq,λh=>beq_eq_false_iff_ne.1 h⟩
instance QH {α:Type}[BEq α][LawfulBEq α]{a b:α}:BP (a != b) (¬a=b) (a=b):=⟨λh=>bne_iff_ne.1 h,λh=>bne_eq_false_iff_eq.1 h⟩
instance Qt {b:Bool}{P N:Prop}[h:BP b P N]:BP (!b) N P:=⟨λe=>h.f (by simpa using e),λe=>h.t (by simpa using e)⟩
theorem dI{c:Bool}{P N:Prop}[h:BP c P N]{a b:Option α}{Q:α->Prop}(h1:P->Ok a Q)(h2:N->Ok b Q):Ok (bif c then a else b) Q:=by
 cases hc:c with
 |true=>exact h1 (h.t hc)
 |false=>exact h2 (h.f hc)
theorem Ok.get{l:List α}{i:Nat}{f:α->Option β}{Q:β->Prop}(h:i<l.length)(h2:∀a,l[i]?=some a->Ok (f a) Q):Ok ((dN l i).bind f) Q:=by
 have e:dN l i=some l[i]:=oGE h
 simp_all
theorem Ok.nat{x:Int}{f:Nat->Option β}{Q:β->Prop}(h:0<=x)(h2:∀n:Nat,x=n->Ok (f n) Q):Ok ((eE x).bind f) Q:=by
 obtain⟨n,rfl⟩:∃n:Nat,x=n:=⟨x.toNat,by omega⟩;exact h2 n rfl
theorem Ok.val{v:α}{f:α->Option β}{Q:β->Prop}(h:∀x,x=v->Ok (f x) Q):Ok (f v) Q:=h v rfl
theorem dJ{c:Bool}{a b:Option α}{Q:α->Prop}(hc:c=true)(h1:Ok a Q):Ok (bif c then a else b) Q:=by simp_all
theorem gX{S T:Type}{f:S->Option (S⊕T)}(P:S->Prop)(R:T->Prop)(m:S->Nat){n:Nat}{s:S}(hs:P s)(hm:m s<n)
 (h:∀s,P s->Ok (f s) λr=>match r with|.inl s'=>P s'/\m s'<m s|.inr t=>R t):Ok (ej f n s) R:=by
 induction n generalizing s with
 |zero=>omega
 |succ n ih=>
  have ⟨r,e,hr⟩:=h s hs
  cases r with
  |inl s'=>
   have ⟨t,e2,hq⟩:=ih hr.1 (by omega);exact⟨t,by simp[ej,e];exact e2,hq⟩
  |inr t=>exact⟨t,by simp[ej,e],hr⟩
theorem Ok.loop{S T:Type}{f:S->Option (S⊕T)}{g:T->Option β}{Q:β->Prop}(P:S->Prop)(R:T->Prop)(m:S->Nat){n:Nat}{s:S}(hs:P s)(hm:m s<n)
 (h:∀s,P s->Ok (f s) λr=>match r with|.inl s'=>P s'/\m s'<m s|.inr t=>R t)(hg:∀t,R t->Ok (g t) Q):Ok ((ej f n s).bind g) Q:=(gX P R m hs hm h).bind hg
end
theorem dS{x:Int}(h1:-9223372036854775808<=x)(h2:x<=9223372036854775807):w64 x=x:=wrap_i64 h1 h2
theorem dP(n:Nat):eE (n:Int)=some n:=rfl
theorem dV(n:Nat):dR n=(n:Int):=rfl
theorem dT{α:Type}{l:List α}{i:Nat}{a:α}(h:l[i]?=some a):a∈l:=List.mem_of_getElem? h
def W16(x:Int):Prop:=0<=x/\x<=65535
theorem ek{x:Int}(h0:0<=x)(h1:x<=65535):wk .u16 x=x:=by
 unfold wk;rw[wy];omega
theorem dW{x:Int}(h0:-9223372036854775808<=x)(h1:x<=9223372036854775807):wk .i64 x=x:=dS h0 h1
theorem dZ{b n m:Nat}(h:b<=1000/\n+m<=1000000):dX b n m=true:=by
 have:=Nat.mul_le_mul h.2 h.1;simp[dX];omega
structure DOk (l:List Int)(k:Int):Prop where
 num:∀x∈l,KT x
 len:l.length<=maxLen
 lo:0<=k
 hi:k<=l.length
theorem DOk.start{l:List Int}(h:∀x∈l,KT x)(hl:l.length<=maxLen):DOk l 0:=⟨h,hl,by omega,by omega⟩
theorem MK{a b:Int}(ha:KT a)(hb:0<b)(hb2:b<=9223372036854775807):∃v,jn a b=some (v,())/\0<=v/\v<b:=by
 have hne:(b != 0)=true:=by simp;omega
 have hm:=Int.tmod_lt_of_pos a hb
 have hm2:-b<Int.tmod a b:=by
  have:=Int.tmod_lt_of_pos (-a) hb;rw[Int.neg_tmod]at this;omega
 unfold jn;simp[hne];by_cases h:Int.tmod a b<0
 ·refine⟨Int.tmod a b+b,?_,by omega,by omega⟩;simp[h,decide_true];rw[dS (by omega) (by omega)]
 ·refine⟨Int.tmod a b,?_,by omega,hm⟩;simp[h,decide_false,oCF]
section
variable {β:Type} {l:List Int} {k n:Int} {Q:β->Prop}
theorem NS{a b:Int}{f:Int×Unit->Option β}(ha:KT a)(hb:0<b)(hb2:b<=9223372036854775807)(K:∀v,0<=v->v<b->Ok (f (v,())) Q):Ok ((jn a b).bind f) Q:=by
 have ⟨v,e,h0,h1⟩:=MK ha hb hb2
 simp_all
theorem fk{f:Int×List Int×Int×Unit->Option β}(h:DOk l k)(hn:0<n)(hn2:n<=9223372036854775807)(K:∀v k',0<=v->v<n->DOk l k'->Ok (f (v,l,k',())) Q):Ok ((dK n l k).bind f) Q:=by
 have hl:=h.len;have UD:=h.lo
 have XL:maxLen<=9223372036854775807:=by decide
 by_cases hk:k>=(l.length:Int)
 ·have e:dK n l k=some (0,l,k,()):=by unfold dK;simp[dV,hk]
  simp_all
 ·obtain⟨j,rfl⟩:∃j:Nat,k=j:=⟨k.toNat,by omega⟩
  have hj:j<l.length:=by omega
  obtain⟨v,hv,h0,h1⟩:=MK (h.num _ (List.getElem_mem hj)) hn hn2
  have e:dK n l j=some (v,l,(j:Int)+1,()):=by
   unfold dK;delta dR
   try dsimp only
   rw[dS (x:=(j:Int)+1) (by omega) (by omega),dS (x:=(j:Int)+1-1) (by omega) (by omega)];rw[show(j:Int)+1-1=j by omega,dP];simp[hk,decide_false,oCF,oBS,dN,oGE hj,ra,hv]
  rw[e];exact K v _ h0 h1 ⟨h.num,hl,by omega,by omega⟩
theorem Iq{f:Int×List Int×Int×Unit->Option β}(h:DOk l k)(K:∀v k',0<=v->v<=65535->DOk l k'->Ok (f (v,l,k',())) Q):Ok ((gi l k).bind f) Q:=by
 have hw:Ok (gi l k) λr=>∃v k',r=(v,l,k',())/\0<=v/\v<=65535/\DOk l k':=by
  unfold gi
  (with_reducible refine fk (by assumption) (by omega) (by omega) (λv k a b d=>?_);try dsimp only)
  refine Ok.bind (P:=λr=>∃b,r=(v,b,l,k,())) ?_ ?_
  ·repeat ((with_reducible refine dI (λhc=>?_) λhc=>?_);· exact Ok.ret ⟨_,rfl⟩)
   exact Ok.ret ⟨_,rfl⟩
  ·rintro _ ⟨b,rfl⟩;refine Ok.cond (λ_=>?_) λ_=>?_
   ·(with_reducible refine fk (by assumption) (by omega) (by omega) (λv k a b d=>?_);try dsimp only)
    (simp (disch:=omega) only [dS,ek,dW,dV])
    exact Ok.ret ⟨_,_,rfl,by omega,by omega,by assumption⟩
   ·(with_reducible refine dI (λhc=>?_) λhc=>?_)
    ·(with_reducible refine fk (by assumption) (by omega) (by omega) (λv k a b d=>?_);try dsimp only)
     (simp (disch:=omega) only [dS,ek,dW,dV])
     exact Ok.ret ⟨_,_,rfl,by omega,by omega,by assumption⟩
    ·(with_reducible refine fk (by omega) (by omega) (by omega) (λv k a b d=>?_);try dsimp only)
     (simp (disch:=omega) only [dS,ek,dW,dV])
     exact Ok.ret ⟨_,_,rfl,by omega,by omega,by omega⟩
 refine hw.bind ?_
 simp_all
end
def zu(s:List Int):Prop:=1<=s.length/\s.length<=4/\∀x∈s,1<=x/\x<=32
theorem Qk{P:Int->Prop}{a b c:Int}(ha:P a)(hb:P b)(hc:P c):∀x∈[a,b,c],P x:=by
 simp_all
theorem K2{l:List Int}{k:Int}(h:DOk l k):Ok (nw l k) λr=>∃s k',r=(s,l,k',())/\zu s/\DOk l k':=by
 unfold nw
 (with_reducible refine fk (by assumption) (by omega) (by omega) (λv0 k0 a0 b0 d0=>?_);try dsimp only)
 (simp (disch:=omega) only [dS,ek,dW,dV])
 (with_reducible refine fk (by assumption) (by omega) (by omega) (λv1 k1 a1 b1 d1=>?_);try dsimp only)
 refine Ok.loop (P:=λ((c,l',k',s,_):Int×List Int×Int×List Int×Unit)=>l'=l/\DOk l k'/\0<=c/\c+s.length<=4/\1<=s.length/\∀x∈s,1<=x/\x<=32)
  (R:=λ((_,_,l',k',s,_):Int×Bool×List Int×Int×List Int×Unit)=>l'=l/\DOk l k'/\zu s) (m:=λs=>s.1.toNat) ⟨rfl,d1,a1,by simp;omega,by simp,by simp;omega⟩ (by unfold NN;dsimp only;omega) ?_ ?_
 ·rintro⟨c,l',k3,s,_⟩ ⟨rfl,XK,hc0,VU,hs1,hs⟩;dsimp only at *;unfold p9;dsimp only
  (with_reducible refine dI (λhc=>?_) λhc=>?_)
  ·(with_reducible refine fk (by assumption) (by omega) (by omega) (λv2 k2 a2 b2 d2=>?_);try dsimp only)
   (with_reducible refine Ok.nat (by omega) (λj hj=>?_);try dsimp only)
   have Zn:∀x∈[(6:Int),12,32],6<=x/\x<=32:=by simp_all
   refine Ok.get (by simp;omega) λa ha=>?_;refine Ok.get (by simp;omega) λb hb=>?_;have h7:=Zn b (dT hb)
   (with_reducible refine fk (by assumption) (by omega) (by omega) (λv3 k3 a3 b3 d3=>?_);try dsimp only)
   (simp (disch:=omega) only [dS,ek,dW,dV])
   refine dJ (dZ (by simp;omega)) ?_;refine Ok.ret ⟨⟨rfl,by assumption,by omega,?_,?_,?_⟩,?_⟩
   ·simp;omega
   ·simp
   ·intro x hx;simp at hx;rcases hx with hx|rfl
    ·exact hs x hx
    ·omega
   ·dsimp only;omega
  ·exact Ok.ret ⟨rfl,XK,hs1,by dsimp only;omega,hs⟩
 ·rintro⟨a,b,l',k3,s,_⟩ ⟨rfl,XK,hs⟩;exact Ok.ret ⟨_,_,rfl,hs,XK⟩
def pL(op:Int):Bool:=!(op==18||op==23||op==0||op==24)
def pK(op:Int):Bool:=!(op==18||op==23||op==0||op==24||op==1||op==15||op==19||op==20||op==21||op==22)
def pJ(op:Int):Bool:=!(op==18||op==23||op==0||op==24||op==1||op==15||op==19||op==20||op==21||op==22||op==2||op==16||op==17)
def pI(op:Int):Bool:=op==1||op==15||op==19||op==20||op==21||op==16||op==17||op==18||op==23
def m0(op:Int):Bool:=op==18||op==19||op==20||op==21
theorem Iu{op:Int}(h0:0<=op)(h1:op<=24):jy op=some (pL op,pK op,pJ op,pI op,()):=by
 obtain⟨n,rfl⟩:∃n:Nat,op=n:=⟨op.toNat,by omega⟩
 have hn:n<25:=by omega
 have key:∀n:Fin 25,(jy ((n.val:Nat):Int)).map (λx=>(x.1,x.2.1,x.2.2.1,x.2.2.2.1))=some (pL (n.val:Nat),pK (n.val:Nat),pJ (n.val:Nat),pI (n.val:Nat)):=by decide
 have:=key ⟨n,hn⟩
 cases h:jy (n:Int)with
 |none=>simp_all
 |some x=>
  obtain⟨a,b,c,d,_⟩:=x
  simp_all
theorem xF(op:Int):gK op=some (m0 op,()):=by
 unfold gK m0
 grind
structure ie (n m:Int)(i:DIn):Prop where
 op:0<=i.1/\i.1<=24
 a:0<=i.2.1/\i.2.1<8/\(pL i.1=false->i.2.1=0)
 b:0<=i.2.2.1/\i.2.2.1<8/\(pK i.1=false->i.2.2.1=0)
 c:0<=i.2.2.2.1/\i.2.2.2.1<8/\(pJ i.1=false->i.2.2.2.1=0)
 imm:0<=i.2.2.2.2/\i.2.2.2.2<=65535/\(pI i.1=false->i.2.2.2.2=0)
 lea:i.1=15->i.2.2.2.2<n
 sys:i.1=23->i.2.2.2.2<=15
 jmp:m0 i.1=true->i.2.2.2.2<m
theorem ins_mk{n m o a b c i:Int}(ho:0<=o/\o<=24)(ha:0<=a/\a<8)(hb:0<=b/\b<8)(hc:0<=c/\c<8)(hi:0<=i/\i<=65535)(hA:pL o=true\/a=0)(hB:pK o=true\/b=0)(hC:pJ o=true\/c=0)(hI:pI o=true\/i=0)
 (hl:o=15->i<n)(hs:o=23->i<=15)(hj:m0 o=true->i<m):ie n m (o,a,b,c,i):=
 ⟨ho,⟨ha.1,ha.2,λh=>hA.elim (λh'=>by simp_all) id⟩,⟨hb.1,hb.2,λh=>hB.elim (λh'=>by simp_all) id⟩,
  ⟨hc.1,hc.2,λh=>hC.elim (λh'=>by simp_all) id⟩,⟨hi.1,hi.2,λh=>hI.elim (λh'=>by simp_all) id⟩,hl,hs,hj⟩
theorem CF{n m r v:Int}(h:0<=r/\r<8)(hv:0<=v/\v<=65535):ie n m (1,r,0,0,v):=ins_mk (by decide) h (by decide) (by decide) hv (.inl (by decide)) (.inr rfl) (.inr rfl) (.inl (by decide)) (by omega) (by omega) (λh=>absurd h (by decide))
theorem EC{n m r v:Int}(h:0<=r/\r<8)(hv:0<=v/\v<8):ie n m (2,r,v,0,0):=ins_mk (by decide) h hv (by decide) (by decide) (.inl (by decide)) (.inl (by decide)) (.inr rfl) (.inr rfl) (by omega) (by omega) (λh=>absurd h (by decide))
theorem w7{n m v:Int}(hv:0<=v/\v<=15):ie n m (23,0,0,0,v):=ins_mk (by decide) (by decide) (by decide) (by decide) (by omega) (.inr rfl) (.inr rfl) (.inr rfl) (.inl (by decide)) (by omega) (by omega) (λh=>absurd h (by decide))
theorem EG{n m r v:Int}(h:0<=r/\r<8)(hv:0<=v/\v<n)(hn:n<=4):ie n m (15,r,0,0,v):=ins_mk (by decide) h (by decide) (by decide) (by omega) (.inl (by decide)) (.inr rfl) (.inr rfl) (.inl (by decide)) (by omega) (by omega) (λh=>absurd h (by decide))
theorem Iy{n m o a b v:Int}(ho:o=16\/o=17)(h:0<=a/\a<8)(hb:0<=b/\b<8)(hv:0<=v/\v<=65535):ie n m (o,a,b,0,v):=by
 rcases ho with rfl|rfl
 all_goals exact ins_mk (by decide) h hb (by decide) hv (.inl (by decide)) (.inl (by decide)) (.inr rfl) (.inl (by decide)) (by omega) (by omega) (λh=>absurd h (by decide))
theorem Ez{n m o a b c:Int}(ho:3<=o/\o<=14)(h:0<=a/\a<8)(hb:0<=b/\b<8)(hc:0<=c/\c<8):ie n m (o,a,b,c,0):=
 ins_mk (by omega) h hb hc (by decide) (.inl (by unfold pL;simp;omega)) (.inl (by unfold pK;simp;omega)) (.inl (by unfold pJ;simp;omega)) (.inr rfl) (by omega) (by omega) (λh=>by unfold m0 at h;simp at h;omega)
theorem NZ{n m v:Int}(hv:0<=v/\v<=65535)(hm:v<m):ie n m (18,0,0,0,v):=ins_mk (by decide) (by decide) (by decide) (by decide) hv (.inr rfl) (.inr rfl) (.inr rfl) (.inl (by decide)) (by omega) (by omega) (λ_=>hm)
theorem NG{n m:Int}:ie n m (24,0,0,0,0):=ins_mk (by decide) (by decide) (by decide) (by decide) (by decide) (.inr rfl) (.inr rfl) (.inr rfl) (.inr rfl) (by omega) (by omega) (λh=>absurd h (by decide))
theorem ie.mono{n m m':Int}{i:DIn}(h:ie n m i)(hm:m<=m'):ie n m' i:=⟨h.op,h.a,h.b,h.c,h.imm,h.lea,h.sys,λhj=>by have:=h.jmp hj;omega⟩
theorem ER{n m a v:Int}(h:0<=a/\a<8)(hv:0<=v/\v<=65535)(hm:v<m):ie n m (20,a,0,0,v):=ins_mk (by decide) h (by decide) (by decide) hv (.inl (by decide)) (.inr rfl) (.inr rfl) (.inl (by decide)) (by omega) (by omega) (λ_=>hm)
theorem LW{n XI k:Int}{l:List Int}(h:DOk l k)(hn:1<=n/\n<=4)(hm:1<=XI/\XI<=100):Ok (ny n XI l k) λr=>∃o a b c i k',r=(o,a,b,c,i,l,k',())/\ie n XI (o,a,b,c,i)/\DOk l k':=by
 unfold ny
 (with_reducible refine fk (by assumption) (by omega) (by omega) (λv0 k0 a0 b0 d0=>?_);try dsimp only)
 rw[Iu (by omega) (by omega)];simp only[oBS];refine Ok.bind (P:=λr=>∃x k',r=(n,XI,l,k',0,0,0,0,0,v0,x,0,0,0,pL v0,pK v0,pJ v0,pI v0,())/\0<=x/\x<8/\(pL v0=false->x=0)/\DOk l k') ?_ ?_
 ·refine Ok.cond (λhc=>?_) λhc=>Ok.ret ⟨_,_,rfl,by omega,by omega,λ_=>rfl,d0⟩
  (with_reducible refine fk (by assumption) (by omega) (by omega) (λv1 k1 a1 b1 d1=>?_);try dsimp only)
  exact Ok.ret ⟨_,_,rfl,a1,b1,(λhh=>by rw[hc]at hh;cases hh),d1⟩
 rintro _ ⟨xa,k1,rfl,ha0,Xq,Xr,d1⟩;dsimp only;refine Ok.bind (P:=λr=>∃x k',r=(n,XI,l,k',0,0,0,0,0,v0,xa,x,0,0,pL v0,pK v0,pJ v0,pI v0,())/\0<=x/\x<8/\(pK v0=false->x=0)/\DOk l k') ?_ ?_
 ·refine Ok.cond (λhc=>?_) λhc=>Ok.ret ⟨_,_,rfl,by omega,by omega,λ_=>rfl,d1⟩
  (with_reducible refine fk (by assumption) (by omega) (by omega) (λv2 k2 a2 b2 d2=>?_);try dsimp only)
  exact Ok.ret ⟨_,_,rfl,a2,b2,(λhh=>by rw[hc]at hh;cases hh),d2⟩
 rintro _ ⟨xb,k2,rfl,Sr,hb1,hb2,d2⟩;dsimp only;refine Ok.bind (P:=λr=>∃x k',r=(n,XI,l,k',0,0,0,0,0,v0,xa,xb,x,0,pL v0,pK v0,pJ v0,pI v0,())/\0<=x/\x<8/\(pJ v0=false->x=0)/\DOk l k') ?_ ?_
 ·refine Ok.cond (λhc=>?_) λhc=>Ok.ret ⟨_,_,rfl,by omega,by omega,λ_=>rfl,d2⟩
  (with_reducible refine fk (by assumption) (by omega) (by omega) (λv3 k3 a3 b3 d3=>?_);try dsimp only)
  exact Ok.ret ⟨_,_,rfl,a3,b3,(λhh=>by rw[hc]at hh;cases hh),d3⟩
 rintro _ ⟨xc,k3,rfl,hc0,ZP,ZH,d3⟩;dsimp only;rw[xF];simp only[oBS];refine Ok.bind (P:=λr=>∃x k',r=(l,k',0,0,0,0,0,v0,xa,xb,xc,x,())/\0<=x/\x<=65535/\(pI v0=false->x=0)/\(v0=15->x<n)/\(v0=23->x<=15)/\(m0 v0=true->x<XI)/\DOk l k') ?_ ?_
 ·refine Ok.cond (λhj=>?_) λhj=>?_
  ·(with_reducible refine fk (by assumption) (by omega) (by omega) (λv4 k4 a4 b4 d4=>?_);try dsimp only)
   have hne:v0≠15/\v0≠23:=by constructor<;>(rintro rfl;exact absurd hj (by decide))
   exact Ok.ret ⟨_,_,rfl,a4,by omega,(λhh=>by
    have:pI v0=true:=by unfold m0 at hj;unfold pI;simp at hj⊢;omega
    rw[this]at hh;cases hh),by omega,by omega,λ_=>b4,d4⟩
  ·(with_reducible refine dI (λhc5=>?_) λhc5=>?_)
   ·subst hc5
    (with_reducible refine fk (by assumption) (by omega) (by omega) (λv4 k4 a4 b4 d4=>?_);try dsimp only)
    exact Ok.ret ⟨_,_,rfl,a4,by omega,λhh=>absurd hh (by decide),by omega,by omega,λhh=>absurd hh (by decide),d4⟩
   ·(with_reducible refine dI (λhc6=>?_) λhc6=>?_)
    ·subst hc6
     (with_reducible refine fk (by assumption) (by omega) (by omega) (λv4 k4 a4 b4 d4=>?_);try dsimp only)
     exact Ok.ret ⟨_,_,rfl,a4,by omega,λhh=>absurd hh (by decide),by omega,by omega,λhh=>absurd hh (by decide),d4⟩
    ·refine Ok.cond (λhu=>?_) λhu=>?_
     ·(with_reducible refine Iq (by assumption) (λv4 k4 a4 b4 d4=>?_);try dsimp only)
      (simp (disch:=omega) only [dS,ek,dW,dV])
      exact Ok.ret ⟨_,_,rfl,a4,by omega,(λhh=>by rw[hu]at hh;cases hh),by omega,by omega,(λhh=>by rw[show m0 v0=false from hj]at hh;cases hh),d4⟩
     ·exact Ok.ret ⟨_,_,rfl,by omega,by omega,λ_=>rfl,by omega,by omega,(λhh=>by rw[show m0 v0=false from hj]at hh;cases hh),d3⟩
 rintro _ ⟨xi,k4,rfl,P',WN,YH,QJ,hi4,hi5,d4⟩;exact Ok.ret ⟨_,_,_,_,_,_,rfl,⟨⟨a0,by dsimp only;omega⟩,⟨ha0,Xq,Xr⟩,⟨Sr,hb1,hb2⟩,⟨hc0,ZP,ZH⟩,⟨P',WN,YH⟩,QJ,hi4,hi5⟩,d4⟩
theorem mo{α β:Type}{l:List α}{i:Nat}{f:α->Option β}{Q:β->Prop}(P:α->Prop)(h:i<l.length)(hP:∀x∈l,P x)(h2:∀a,P a->Ok (f a) Q):Ok ((dN l i).bind f) Q:=Ok.get h λa ha=>h2 a (hP a (dT ha))
theorem eJ{α:Type}{P:α->Prop}:∀x∈([]:List α),P x:=λ_ h=>by cases h
theorem all_cons{α:Type}{P:α->Prop}{a:α}{l:List α}(h:P a)(h2:∀x∈l,P x):∀x∈a::l,P x:=by
 simp_all
theorem O9(a b:Int):iB a b=some (1,a,0,0,b,()):=rfl
theorem O7(a b:Int):lZ a b=some (2,a,b,0,0,()):=rfl
theorem MC(a:Int):gR a=some (23,0,0,0,a,()):=rfl
theorem Qp{x:Int}(h:1<=x):1<=mmR false 5 x/\mmR false 5 x<=5:=by
 unfold mmR;simp;omega
def GG(n at_:Int)(l:List Int)(r:List DIn×List Int×Int×Unit):Prop:=∃xs k',r=(xs,l,k',())/\1<=xs.length/\xs.length<=6/\(∀i∈xs,ie n (at_+xs.length) i)/\DOk l k'
theorem AB{n at_:Int}{l:List Int}{xs:List DIn}{k:Int}(h1:1<=xs.length/\xs.length<=6)(h2:∀i∈xs,ie n (at_+xs.length) i)(h3:DOk l k):Ok (some (xs,l,k,())) (GG n at_ l):=Ok.ret ⟨xs,k,rfl,h1.1,h1.2,h2,h3⟩
theorem NQ{s l:List Int}{at_ k:Int}(h:DOk l k)(hs:zu s)(ha:0<=at_/\at_<=99):Ok (oM s (at_+1) at_ l k) (GG s.length at_ l):=by
 obtain⟨hs1,WF,hsz⟩:=hs
 have hn:1<=(s.length:Int)/\(s.length:Int)<=4:=by omega
 unfold oM;delta dR;simp only[O9,O7,MC,oBS]
 (with_reducible refine fk (by assumption) (by omega) (by omega) (λvr kr ar br dr=>?_);try dsimp only)
 refine Ok.nat (by omega) λj hj=>?_;refine mo (λa=>1<=a/\a<=32) (by omega) hsz λz hz=>?_
 (simp (disch:=omega) only [dS,ek,dW,dV])
 have h5:=Qp (x:=z+1) (by omega);generalize mmR false 5 (z+1)=mm at h5
 (with_reducible refine fk (by assumption) (by omega) (by omega) (λvu ku au bu du=>?_);try dsimp only)
 (with_reducible refine fk (by assumption) (by omega) (by omega) (λvw kw aw bw dw=>?_);try dsimp only)
 iterate 19
  (with_reducible refine dI (λhcc=>?_) λhcc=>?_)
  ·repeat (first|(simp (disch:=omega) only [dS,ek,dW,dV])|(with_reducible refine fk (by assumption) (by omega) (by omega) (λv k a b d=>?_);try dsimp only)|(with_reducible refine Iq (by assumption) (λv k a b d=>?_);try dsimp only)|(with_reducible refine Ok.nat (by omega) (λj hj=>?_);try dsimp only)|((with_reducible first|refine mo (λa=>1<=a/\a<=32) (by omega) (by assumption) (λe he=>?_)|refine mo (λa=>3<=a/\a<=14) (by simp only[oLC,List.length_nil];omega) (by(first|exact(all_cons (by omega) (all_cons (by omega) eJ))|exact(all_cons (by omega) (all_cons (by omega) (all_cons (by omega) eJ)))|exact(all_cons (by omega) (all_cons (by omega) (all_cons (by omega) (all_cons (by omega) (all_cons (by omega) (all_cons (by omega) (all_cons (by omega) (all_cons (by omega) eJ)))))))))) (λe he=>?_)|refine mo (λa=>0<=a/\a<=15) (by simp only[oLC,List.length_nil];omega) (by(first|exact(all_cons (by omega) (all_cons (by omega) eJ))|exact(all_cons (by omega) (all_cons (by omega) (all_cons (by omega) eJ)))|exact(all_cons (by omega) (all_cons (by omega) (all_cons (by omega) (all_cons (by omega) (all_cons (by omega) (all_cons (by omega) (all_cons (by omega) (all_cons (by omega) eJ)))))))))) (λe he=>?_)|refine mo (λa=>1<=a/\a<=100) (by simp only[oLC,List.length_nil];omega) (by(first|exact(all_cons (by omega) (all_cons (by omega) eJ))|exact(all_cons (by omega) (all_cons (by omega) (all_cons (by omega) eJ)))|exact(all_cons (by omega) (all_cons (by omega) (all_cons (by omega) (all_cons (by omega) (all_cons (by omega) (all_cons (by omega) (all_cons (by omega) (all_cons (by omega) eJ)))))))))) (λe he=>?_));try dsimp only)|(with_reducible refine dJ (dZ (by first|omega|simp)) ?_;try dsimp only)|(refine mo (λ(a:List DIn)=>(1<=a.length/\a.length<=6)/\∀i∈a,ie s.length (at_+a.length) i) (by simp only[oLC,List.length_nil];omega) (all_cons ⟨by simp,by((repeat' (first|exact eJ|refine all_cons ?_ ?_|exact CF (by omega) (by omega)|exact EC (by omega) (by omega)|exact w7 (by omega)|exact EG (by omega) (by omega) (by omega)|exact Iy (by omega) (by omega) (by omega) (by omega)|exact Ez (by omega) (by omega) (by omega) (by omega)|exact ER (by omega) (by omega) (by simp only[oLC,List.length_nil];omega)));done)⟩ (all_cons ⟨by simp,by((repeat' (first|exact eJ|refine all_cons ?_ ?_|exact CF (by omega) (by omega)|exact EC (by omega) (by omega)|exact w7 (by omega)|exact EG (by omega) (by omega) (by omega)|exact Iy (by omega) (by omega) (by omega) (by omega)|exact Ez (by omega) (by omega) (by omega) (by omega)|exact ER (by omega) (by omega) (by simp only[oLC,List.length_nil];omega)));done)⟩ eJ)) (λe he=>?_);try dsimp only))
   first
    |exact AB he.1 he.2 (by assumption)
    |(refine AB (by simp) ?_ (by assumption);try simp only[List.append_eq,List.cons_append,List.nil_append]
      ((repeat' (first|exact eJ|refine all_cons ?_ ?_|exact CF (by omega) (by omega)|exact EC (by omega) (by omega)|exact w7 (by omega)|exact EG (by omega) (by omega) (by omega)|exact Iy (by omega) (by omega) (by omega) (by omega)|exact Ez (by omega) (by omega) (by omega) (by omega)|exact ER (by omega) (by omega) (by simp only[oLC,List.length_nil];omega)));done))
 refine(LW (by assumption) hn (by omega)).bind ?_;rintro _ ⟨o,a,b,c,i,k',rfl,hi,hd⟩;exact AB (by simp) (all_cons (hi.mono (by simp)) eJ) hd
theorem gE{α:Type}{P:α->Prop}{l m:List α}(h:∀x∈l,P x)(h2:∀x∈m,P x):∀x∈List.append l m,P x:=λx hx=>(List.mem_append.1 (show x∈l++m from hx)).elim (h x) (h2 x)
theorem fi{α:Type}(l m:List α):(List.append l m).length=l.length+m.length:=List.length_append
theorem oA{l:List Int}{k n:Int}(h:DOk l k)(hn:0<=n/\n<=1000):Ok (fU n l k) λr=>∃ws k',r=(ws,l,k',())/\(ws.length:Int)<=n/\(∀w∈ws,W16 w)/\DOk l k':=by
 unfold fU
 (simp (disch:=omega) only [dS,ek,dW,dV])
 (with_reducible refine fk (by assumption) (by omega) (by omega) (λv0 k0 a0 b0 d0=>?_);try dsimp only)
 refine Ok.loop (P:=λ((c,l',k',s,_):Int×List Int×Int×List Int×Unit)=>l'=l/\DOk l k'/\0<=c/\c+s.length<=n/\∀x∈s,W16 x)
  (R:=λ((_,_,l',k',s,_):Int×Bool×List Int×Int×List Int×Unit)=>l'=l/\DOk l k'/\(s.length:Int)<=n/\∀x∈s,W16 x) (m:=λs=>s.1.toNat) ⟨rfl,d0,a0,by simp;omega,eJ⟩ (by unfold NN;dsimp only;omega) ?_ ?_
 ·rintro⟨c,l',k3,s,_⟩ ⟨rfl,XK,hc0,VU,hs⟩;unfold p8;dsimp only
  (with_reducible refine dI (λhcc=>?_) λhcc=>?_)
  ·(with_reducible refine Iq (by assumption) (λv1 k1 a1 b1 d1=>?_);try dsimp only)
   refine dJ (dZ (by simp;omega)) ?_
   (simp (disch:=omega) only [dS,ek,dW,dV])
   exact Ok.ret ⟨⟨rfl,by omega,by omega,by rw[fi];simp;omega,gE hs (all_cons ⟨a1,b1⟩ eJ)⟩,by omega⟩
  ·exact Ok.ret ⟨rfl,XK,by dsimp only;omega,hs⟩
 ·rintro⟨a,b,l',k3,s,_⟩ ⟨rfl,XK,hs,hw⟩;exact Ok.ret ⟨_,_,rfl,hs,hw,XK⟩
structure mY (code:List DIn)(s:List Int)(d:List (List Int)):Prop where
 sz:zu s
 len:d.length=s.length
 fit:∀(j:Nat) x n,d[j]?=some x->s[j]?=some n->(x.length:Int)<=n
 num:∀x∈d,∀w∈x,W16 w
 clen:1<=code.length/\code.length<=64
 ins:∀i∈code,ie s.length code.length i
theorem Gm{code:List DIn}{s:List Int}{d:List (List Int)}{l:List Int}{k:Int}(hp:mY code s d):
 Ok (ej gy NN ((code.length:Int),0,l,k,(),(),(),code,s,d,())) λr=>∃a b c,r=(a,b,c,l,k,(),(),(),code,s,d,()):=by
 have:=Ok.loop (f:=gy) (n:=NN) (Q:=λr=>∃a b c,r=(a,b,c,l,k,(),(),(),code,s,d,())) (s:=((code.length:Int),0,l,k,(),(),(),code,s,d,()))
  (P:=λs'=>∃i:Int,s'=((code.length:Int),i,l,k,(),(),(),code,s,d,())/\0<=i/\i<=code.length) (R:=λr=>∃a b c,r=(a,b,c,l,k,(),(),(),code,s,d,())) (m:=λs=>(s.1-s.2.1).toNat) ⟨0,rfl,by omega,by omega⟩ (by unfold NN;dsimp only;have:=hp.clen;omega) ?_ (λt ht=>Ok.ret ht)
 ·simp_all
 ·rintro _ ⟨i,rfl,P',WN⟩;unfold gy;dsimp only;have hc:=hp.clen
  (with_reducible refine dI (λhcc=>?_) λhcc=>?_)
  ·refine Ok.bind (P:=λr=>r=((code.length:Int),i,l,k,(),(),(),code,s,d,())) ?_ ?_
   ·(with_reducible refine Ok.nat (by omega) (λj hj=>?_);try dsimp only)
    refine Ok.get (by omega) λx hx=>?_;have hin:=hp.ins x (dT hx);rw[xF];refine Ok.cond (λhjp=>?_) λ_=>Ok.ret rfl;refine Ok.nat (by omega) λj2 hj2=>?_;refine Ok.get (by omega) λy hy=>?_
    have hjj:j2=j:=by omega
    subst hjj;rw[hx]at hy
    injection hy with hy
    subst hy;have:=hin.jmp hjp;refine Ok.cond (λhcc=>?_) (λhcc=>?_)
    ·have h9:(x.2.2.2.2:Int)>=(code.length:Int):=of_decide_eq_true hcc;omega
    ·exact Ok.ret rfl
   ·rintro _ rfl;dsimp only
    (simp (disch:=omega) only [dS,ek,dW,dV])
    exact Ok.ret ⟨⟨i+1,rfl,by omega,by omega⟩,by dsimp only;omega⟩
  ·exact Ok.ret ⟨_,_,_,rfl⟩
theorem Hj{l:List Int}{k:Int}(h:DOk l k):Ok (kU l k) λr=>∃code s d k',r=(code,s,d,l,k',())/\mY code s d/\DOk l k':=by
 unfold kU;refine(K2 h).bind ?_;rintro _ ⟨s,k1,rfl,hs,hd⟩;obtain⟨hs1,WF,hsz⟩:=id hs;dsimp only;delta dR
 try dsimp only
 refine Ok.loop (P:=λs'=>∃k' d,s'=((s.length:Int),(d.length:Int),l,k',(),(),(),(),s,d,())/\DOk l k'/\d.length<=s.length/\(∀(j:Nat) x n,d[j]?=some x->s[j]?=some n->(x.length:Int)<=n)/\∀x∈d,∀w∈x,W16 w)
  (R:=λr=>∃a b c k' d,r=(a,b,c,l,k',(),(),(),(),s,d,())/\DOk l k'/\d.length=s.length/\(∀(j:Nat) x n,d[j]?=some x->s[j]?=some n->(x.length:Int)<=n)/\∀x∈d,∀w∈x,W16 w)
  (m:=λs=>(s.1-s.2.1).toNat) ⟨k1,[],rfl,hd,by simp,by simp,eJ⟩ (by unfold NN;dsimp only;omega) ?_ ?_
 ·rintro _ ⟨k',d,rfl,YE,SH,ZW,Xd⟩;unfold nW;dsimp only
  (with_reducible refine dI (λhcc=>?_) λhcc=>?_)
  ·(with_reducible refine Ok.nat (by omega) (λj hj=>?_);try dsimp only)
   refine Ok.get (by omega) λx hx=>?_;refine Ok.get (by omega) λy hy=>?_
   have ZU:j=d.length:=by omega
   subst ZU;have WK:=hsz y (dT hy);refine(oA YE ⟨by omega,by omega⟩).bind ?_;rintro _ ⟨ws,k2,rfl,T6,hww,hd2⟩;dsimp only;refine dJ (dZ (by simp;omega)) ?_
   (simp (disch:=omega) only [dS,ek,dW,dV])
   refine Ok.ret ⟨⟨k2,List.append d [ws],by rw[fi];simp,hd2,by rw[fi];simp;omega,?_,gE Xd (all_cons hww eJ)⟩,by dsimp only;omega⟩;intro i x n hx hn;rw[show List.append d [ws]=d++[ws]from rfl,List.getElem?_append]at hx;split at hx
   ·exact ZW i x n hx hn
   ·rename_i VW
    have:i-d.length=0:=by
     rcases Nat.eq_zero_or_pos (i-d.length)with h|h
     ·exact h
     ·rw[oGN (by simp;omega)]at hx;cases hx
    have hi:i=d.length:=by omega
    subst hi;simp at hx;subst hx;rw[hy]at hn
    injection hn with hn
    omega
  ·exact Ok.ret ⟨_,_,_,_,_,rfl,YE,by omega,ZW,Xd⟩
 rintro _ ⟨a,b,c,k2,d,rfl,hd2,SH,ZW,Xd⟩;dsimp only
 (with_reducible refine fk (by assumption) (by omega) (by omega) (λv0 k0 a0 b0 d0=>?_);try dsimp only)
 (simp (disch:=omega) only [dS,ek,dW,dV])
 refine Ok.loop (P:=λs'=>∃i k' code,s'=(i,l,k',(),(),(),code,s,d,())/\0<=i/\i<=12/\DOk l k'/\code.length<=62/\∀i∈code,ie s.length code.length i)
  (R:=λr=>∃a b k' code,r=(a,b,l,k',(),(),(),code,s,d,())/\DOk l k'/\code.length<=62/\∀i∈code,ie s.length code.length i)
  (m:=λs=>s.1.toNat) ⟨_,_,[],rfl,by omega,by omega,d0,by simp,eJ⟩ (by unfold NN;dsimp only;omega) ?_ ?_
 ·rintro _ ⟨i,k',code,rfl,P',WN,YE,Zm,Yf⟩;unfold nV;dsimp only
  (with_reducible refine dI (λhcc=>?_) λhcc=>?_)
  ·refine Ok.bind (P:=λr=>∃k' code,r=(i,l,k',(),(),(),code,s,d,())/\DOk l k'/\code.length<=62/\∀i∈code,ie s.length code.length i) ?_ ?_
   ·(simp (disch:=omega) only [dS,ek,dW,dV])
    refine(NQ YE hs ⟨by omega,by omega⟩).bind ?_;rintro _ ⟨xs,k3,rfl,Z2,hx6,Rp,XK⟩;dsimp only
    (simp (disch:=omega) only [dS,ek,dW,dV])
    (with_reducible refine dI (λhcc=>?_) λhcc=>?_)
    ·refine dJ (dZ (by omega)) ?_;refine Ok.ret ⟨_,_,rfl,XK,by rw[fi];omega,?_⟩;rw[fi];exact gE (λi hi=>(Yf i hi).mono (by omega)) (λi hi=>(Rp i hi).mono (by omega))
    ·exact Ok.ret ⟨_,_,rfl,XK,Zm,Yf⟩
   ·rintro _ ⟨k3,YS,rfl,XK,SC,W1⟩;dsimp only
    (simp (disch:=omega) only [dS,ek,dW,dV])
    exact Ok.ret ⟨⟨_,_,_,rfl,by omega,by omega,XK,SC,W1⟩,by dsimp only;omega⟩
  ·exact Ok.ret ⟨_,_,_,_,rfl,YE,Zm,Yf⟩
 rintro _ ⟨a,b,k3,code,rfl,XK,Zm,Yf⟩;dsimp only;refine Ok.bind (P:=λr=>∃k' code,r=(l,k',(),(),(),code,s,d,())/\DOk l k'/\code.length<=63/\∀i∈code,ie s.length (code.length+1) i) ?_ ?_
 ·(with_reducible refine fk (by assumption) (by omega) (by omega) (λv1 k1 a1 b1 d1=>?_);try dsimp only)
  (with_reducible refine dI (λhcc=>?_) λhcc=>?_)
  ·(simp (disch:=omega) only [dS,ek,dW,dV])
   (with_reducible refine fk (by assumption) (by omega) (by omega) (λv2 k2 a2 b2 d2=>?_);try dsimp only)
   refine dJ (dZ (by simp;omega)) ?_;refine Ok.ret ⟨_,_,rfl,d2,by rw[fi];simp;omega,?_⟩;rw[fi];exact gE (λi hi=>(Yf i hi).mono (by simp;omega)) (all_cons (NZ (by omega) (by simp;omega)) eJ)
  ·(with_reducible refine dI (λhcc=>?_) λhcc=>?_)
   ·refine dJ (dZ (by simp;omega)) ?_;refine Ok.ret ⟨_,_,rfl,d1,by rw[fi];simp;omega,?_⟩;rw[fi];exact gE (λi hi=>(Yf i hi).mono (by simp;omega)) (all_cons NG eJ)
   ·exact Ok.ret ⟨_,_,rfl,d1,by omega,λi hi=>(Yf i hi).mono (by omega)⟩
 rintro _ ⟨k4,YS,rfl,hd4,SC,W1⟩;dsimp only
 (with_reducible refine fk (by assumption) (by omega) (by omega) (λv3 k3 a3 b3 d3=>?_);try dsimp only)
 simp only[O9,MC,oBS];refine dJ (dZ (by simp;omega)) ?_;simp only[fi];refine Ok.cond (λhc=>?_) λ_=>?_
 ·have ZN:∀i∈List.append YS [(1,0,0,0,v3),(23,0,0,0,0)],ie s.length (YS.length+1) i:=gE W1 (all_cons (CF (by omega) (by omega)) (all_cons (w7 (by omega)) eJ));simp only[oDE]at hc
  have hcn:(YS.length:Int)+2>64:=by
   have:((YS.length + [((1:Int),(0:Int),(0:Int),(0:Int),v3),(23,0,0,0,0)].length:Nat):Int)>64:=hc;simpa using this
  have h63:YS.length=63:=by omega
  refine dJ (by rw[h63];rfl) ?_
  have hlen:(mZ (List.append YS [((1:Int),(0:Int),(0:Int),(0:Int),v3),(23,0,0,0,0)]) 0 (Nat.sub 64 0)).length=64:=by
   unfold mZ;rw[oLT,List.drop_zero,fi,h63];rfl
  have hp:mY (mZ (List.append YS [((1:Int),(0:Int),(0:Int),(0:Int),v3),(23,0,0,0,0)]) 0 (Nat.sub 64 0)) s d:=by
   refine⟨hs,SH,ZW,Xd,by rw[hlen];decide,λi hi=>?_⟩;rw[hlen];refine(ZN i ?_).mono (by omega);unfold mZ at hi;exact List.mem_of_mem_drop (List.mem_of_mem_take hi)
  refine(Gm (l:=l) (k:=_) hp).bind ?_;rintro _ ⟨a,b,c,rfl⟩;exact Ok.ret ⟨_,_,_,_,rfl,hp,d3⟩
 ·have hp:mY (List.append YS [(1,0,0,0,v3),(23,0,0,0,0)]) s d:=by
   refine⟨hs,SH,ZW,Xd,?_,?_⟩
   ·rw[fi];rename_i hc;have hcn:¬((YS.length + [((1:Int),(0:Int),(0:Int),(0:Int),v3),(23,0,0,0,0)].length:Nat):Int)>64:=of_decide_eq_false hc;simp only[oLC,List.length_nil]at hcn⊢;omega
   ·rw[fi];exact gE (λi hi=>(W1 i hi).mono (by simp)) (all_cons (CF (by omega) (by omega)) (all_cons (w7 (by omega)) eJ))
  have hf:=Gm (l:=l) (k:=k3) hp;rw[fi]at hf;refine hf.bind ?_;rintro _ ⟨a,b,c,rfl⟩;exact Ok.ret ⟨_,_,_,_,rfl,hp,d3⟩
theorem GD{P:Int->Prop}{s:List Int}{i:Nat}{x:Int}(h:∀(j:Nat) y,j<i->s[j]?=some y->P y)(hx:s[i]?=some x)(hp:P x):∀(j:Nat) y,j<i+1->s[j]?=some y->P y:=by
 grind
theorem It{s:List Int}(hl:s.length<=1000):Ok (gQ s) λr=>r.1=true↔zu s:=by
 unfold gQ;delta dR
 try dsimp only
 obtain⟨t,e,ht⟩:=gX (f:=lF) (n:=NN) (s:=(s,s,(s.length:Int),0,())) (P:=λs'=>∃i:Nat,s'=(s,s,(s.length:Int),(i:Int),())/\i<=s.length/\∀(j:Nat) y,j<i->s[j]?=some y->1<=y/\y<=32)
  (R:=λr=>(r=.inl (false,())/\∃y∈s,¬(1<=y/\y<=32))\/((∃a b c d,r=.inr (s,a,b,c,d,()))/\∀y∈s,1<=y/\y<=32)) (m:=λs'=>(s'.2.2.1-s'.2.2.2.1).toNat) ⟨0,rfl,by omega,λj y hj=>by omega⟩ (by unfold NN;dsimp only;omega) (by
   rintro _ ⟨i,rfl,hi,ZN⟩;unfold lF
   (with_reducible refine dI (λhcc=>?_) λhcc=>?_)
   ·rw[dP];refine Ok.get (by omega) λx hx=>?_
    (with_reducible refine dI (λW'=>?_) λW'=>?_)
    ·exact Ok.ret (.inl ⟨rfl,x,dT hx,by omega⟩)
    ·(with_reducible refine dI (λXZ=>?_) λXZ=>?_)
     ·exact Ok.ret (.inl ⟨rfl,x,dT hx,by omega⟩)
     ·(simp (disch:=omega) only [dS,ek,dW,dV])
      exact Ok.ret ⟨⟨i+1,rfl,by omega,GD ZN hx ⟨by omega,by omega⟩⟩,by dsimp only;omega⟩
   ·refine Ok.ret (.inr ⟨⟨_,_,_,_,rfl⟩,λy hy=>?_⟩);have ⟨j,hj⟩:=List.getElem?_of_mem hy
    exact ZN j y (by have:=(oGS hj).1;omega) hj)
 rw[e]
 rcases ht with⟨rfl,y,hy,hn⟩|⟨⟨a,b,c,d,rfl⟩,ZN⟩
 ·exact Ok.ret ⟨λh=>(by cases h),λh=>absurd (h.2.2 y hy) hn⟩
 ·dsimp only
  (with_reducible refine dI (λhcc=>?_) λhcc=>?_)
  ·exact Ok.ret ⟨λh=>⟨by omega,(by have:=of_decide_eq_true h;omega),ZN⟩,λh=>oDT (by have:=h.2.1;omega)⟩
  ·exact Ok.ret ⟨λh=>(by cases h),λh=>by have:=h.1;omega⟩
abbrev VS(xs:List Int):Prop:=zu xs
theorem Kg{l:List Int}{k:Nat}(h:k<l.length):l.getD k 0=l[k]:=by simp[List.getD,h]
def zw(bs ss:List Int)(i:Nat):Prop:=
 0<=bs.getD i 0/\bs.getD i 0+ss.getD i 0<=512/\∀k,k<i->¬(bs.getD i 0<=bs.getD k 0+ss.getD k 0/\bs.getD k 0<=bs.getD i 0+ss.getD i 0)
def LV(bs ss:List Int):Prop:=VS ss/\bs.length=ss.length/\∀i,i<bs.length->zw bs ss i
theorem VS.at_{ss:List Int}(h:VS ss){i:Nat}(hi:i<ss.length):1<=ss[i]/\ss[i]<=32:=h.2.2 _ (List.getElem_mem hi)
def rJ(ss:List Int)(seed:Int):Nat->List Int×Int
 |0=>(List.replicate ss.length 0,1+seed/ss.length%50)
 |k+1=>((rJ ss seed k).1.set (((k+seed)%ss.length).toNat) (rJ ss seed k).2,(rJ ss seed k).2+(ss.getD ((k+seed)%ss.length).toNat 0+1+seed/(50*ss.length)%40))
def mkB(ss:List Int)(seed:Int):List Int:=(rJ ss seed ss.length).1
theorem LP(ss:List Int)(seed:Int)(k:Nat):(rJ ss seed k).1.length=ss.length:=by
 induction k with
 |zero=>simp[rJ]
 |succ k ih=>simp[rJ,ih]
theorem VS.getD{ss:List Int}(h:VS ss){i:Nat}(hi:i<ss.length):1<=ss.getD i 0/\ss.getD i 0<=32:=by rw[Kg hi];exact h.at_ hi
theorem MH{n k:Nat}{seed:Int}(hn:1<=n):0<=((k:Int)+seed)%n/\((k:Int)+seed)%n<n:=
 ⟨Int.emod_nonneg _ (by omega),Int.emod_lt_of_pos _ (by omega)⟩
theorem NU{ss:List Int}{seed:Int}(h:VS ss)(hs:0<=seed)(k:Nat):1<=(rJ ss seed k).2/\(rJ ss seed k).2<=50+72*k:=by
 induction k with
 |zero=>simp[rJ];omega
 |succ k ih=>
  simp only[rJ];have hr:=MH (k:=k) (seed:=seed) h.1;have:=h.getD (i:=(((k:Int)+seed)%ss.length).toNat) (by omega);omega
theorem JU{ss:List Int}(h0:1<=ss.length)(h1:ss.length<=4):(∃a,ss=[a])\/(∃a b,ss=[a,b])\/(∃a b c,ss=[a,b,c])\/(∃a b c d,ss=[a,b,c,d]):=by
 match ss,h0,h1 with
 | [a],_,_=>simp_all
 | [a,b],_,_=>simp_all
 | [a,b,c],_,_=>simp_all
 | [a,b,c,d],_,_=>simp_all
theorem wF{P:Nat->Prop}(h0:P 0):∀i,i<1->P i:=by
 simp_all
theorem Ax{P:Nat->Prop}(h0:P 0)(h1:P 1):∀i,i<2->P i:=by
 grind
theorem FZ{P:Nat->Prop}(h0:P 0)(h1:P 1)(h2:P 2):∀i,i<3->P i:=by
 grind
theorem Lt{P:Nat->Prop}(h0:P 0)(h1:P 1)(h2:P 2)(h3:P 3):∀i,i<4->P i:=by
 grind
def KS(b s:Int):Prop:=0<=b/\b+s<=512
def f6(b s b' s':Int):Prop:=¬(b<=b'+s'/\b'<=b+s)
theorem LV1{a x:Int}(hv:VS [a])(h:KS x a):LV [x] [a]:=
 ⟨hv,rfl,wF ⟨h.1,h.2,λk hk=>by omega⟩⟩
theorem LV2{a b x y:Int}(hv:VS [a,b])(h:KS x a)(h':KS y b)(h1:f6 y b x a):LV [x,y] [a,b]:=
 ⟨hv,rfl,Ax ⟨h.1,h.2,λk hk=>by omega⟩ ⟨h'.1,h'.2,wF h1⟩⟩
theorem LV3{a b c x y z:Int}(hv:VS [a,b,c])(h:KS x a)(h':KS y b)(Sk:KS z c)(h1:f6 y b x a)(h2:f6 z c x a)(h3:f6 z c y b):LV [x,y,z] [a,b,c]:=
 ⟨hv,rfl,FZ ⟨h.1,h.2,λk hk=>by omega⟩ ⟨h'.1,h'.2,wF h1⟩ ⟨Sk.1,Sk.2,Ax h2 h3⟩⟩
theorem LV4{a b c d x y z u:Int}(hv:VS [a,b,c,d])(h:KS x a)(h':KS y b)(Sk:KS z c)(Sl:KS u d)(h1:f6 y b x a)(h2:f6 z c x a)(h3:f6 z c y b)(h4:f6 u d x a)(h5:f6 u d y b)(h6:f6 u d z c):LV [x,y,z,u] [a,b,c,d]:=
 ⟨hv,rfl,Lt ⟨h.1,h.2,λk hk=>by omega⟩ ⟨h'.1,h'.2,wF h1⟩ ⟨Sk.1,Sk.2,Ax h2 h3⟩ ⟨Sl.1,Sl.2,FZ h4 h5 h6⟩⟩
theorem PD{ss:List Int}(hv:VS ss){seed:Int}(hs:0<=seed):LV (mkB ss seed) ss:=by
 have Yj:=hv
 rcases JU hv.1 hv.2.1 with⟨a,rfl⟩|⟨a,b,rfl⟩|⟨a,b,c,rfl⟩|⟨a,b,c,d,rfl⟩
 ·obtain⟨_,_,hx⟩:=hv;have ha:=hx a (by simp)
  have e0:(((0:Nat):Int)+seed)%1=0:=by omega
  have hB:mkB [a] seed=[1+seed/1%50]:=by simp[mkB,rJ,List.replicate]
  rw[hB];exact LV1 Yj ⟨by omega,by omega⟩
 ·obtain⟨_,_,hx⟩:=hv;have ha:=hx a (by simp);have hb:=hx b (by simp)
  rcases(show seed%2=0\/seed%2=1 by omega)with ht|ht
  ·have e1:(1+seed)%2=1:=by omega
   simp only[mkB,rJ,oLC,List.length_nil,List.replicate];simp[ht,e1];exact LV2 Yj ⟨by omega,by omega⟩ ⟨by omega,by omega⟩ (by unfold f6;omega)
  ·have e1:(1+seed)%2=0:=by omega
   simp only[mkB,rJ,oLC,List.length_nil,List.replicate];simp[ht,e1];exact LV2 Yj ⟨by omega,by omega⟩ ⟨by omega,by omega⟩ (by unfold f6;omega)
 ·obtain⟨_,_,hx⟩:=hv;have ha:=hx a (by simp);have hb:=hx b (by simp);have hc:=hx c (by simp)
  rcases(show seed%3=0\/seed%3=1\/seed%3=2 by omega)with ht|ht|ht
  ·have e1:(1+seed)%3=1:=by omega
   have e2:(2+seed)%3=2:=by omega
   simp only[mkB,rJ,oLC,List.length_nil,List.replicate];simp[ht,e1,e2];exact LV3 Yj ⟨by omega,by omega⟩ ⟨by omega,by omega⟩ ⟨by omega,by omega⟩ (by unfold f6;omega) (by unfold f6;omega) (by unfold f6;omega)
  ·have e1:(1+seed)%3=2:=by omega
   have e2:(2+seed)%3=0:=by omega
   simp only[mkB,rJ,oLC,List.length_nil,List.replicate];simp[ht,e1,e2];exact LV3 Yj ⟨by omega,by omega⟩ ⟨by omega,by omega⟩ ⟨by omega,by omega⟩ (by unfold f6;omega) (by unfold f6;omega) (by unfold f6;omega)
  ·have e1:(1+seed)%3=0:=by omega
   have e2:(2+seed)%3=1:=by omega
   simp only[mkB,rJ,oLC,List.length_nil,List.replicate];simp[ht,e1,e2];exact LV3 Yj ⟨by omega,by omega⟩ ⟨by omega,by omega⟩ ⟨by omega,by omega⟩ (by unfold f6;omega) (by unfold f6;omega) (by unfold f6;omega)
 ·obtain⟨_,_,hx⟩:=hv;have ha:=hx a (by simp);have hb:=hx b (by simp);have hc:=hx c (by simp);have hd:=hx d (by simp)
  have hq:∀q g:Int,q=1+seed/4%50->g=seed/(50*4)%40->1<=q/\q<=50/\0<=g/\g<40:=λq g e e'=>by subst e;subst e';omega
  rcases(show seed%4=0\/seed%4=1\/seed%4=2\/seed%4=3 by omega)with ht|ht|ht|ht
  ·have e1:(1+seed)%4=1:=by omega
   have e2:(2+seed)%4=2:=by omega
   have e3:(3+seed)%4=3:=by omega
   simp only[mkB,rJ,oLC,List.length_nil,List.replicate];simp[ht,e1,e2,e3];exact LV4 Yj ⟨by omega,by omega⟩ ⟨by omega,by omega⟩ ⟨by omega,by omega⟩ ⟨by omega,by omega⟩ (by unfold f6;omega) (by unfold f6;omega) (by unfold f6;omega) (by unfold f6;omega) (by unfold f6;omega) (by unfold f6;omega)
  ·have e1:(1+seed)%4=2:=by omega
   have e2:(2+seed)%4=3:=by omega
   have e3:(3+seed)%4=0:=by omega
   simp only[mkB,rJ,oLC,List.length_nil,List.replicate];simp[ht,e1,e2,e3];exact LV4 Yj ⟨by omega,by omega⟩ ⟨by omega,by omega⟩ ⟨by omega,by omega⟩ ⟨by omega,by omega⟩ (by unfold f6;omega) (by unfold f6;omega) (by unfold f6;omega) (by unfold f6;omega) (by unfold f6;omega) (by unfold f6;omega)
  ·have e1:(1+seed)%4=3:=by omega
   have e2:(2+seed)%4=0:=by omega
   have e3:(3+seed)%4=1:=by omega
   simp only[mkB,rJ,oLC,List.length_nil,List.replicate];simp[ht,e1,e2,e3];exact LV4 Yj ⟨by omega,by omega⟩ ⟨by omega,by omega⟩ ⟨by omega,by omega⟩ ⟨by omega,by omega⟩ (by unfold f6;omega) (by unfold f6;omega) (by unfold f6;omega) (by unfold f6;omega) (by unfold f6;omega) (by unfold f6;omega)
  ·have e1:(1+seed)%4=0:=by omega
   have e2:(2+seed)%4=1:=by omega
   have e3:(3+seed)%4=2:=by omega
   simp only[mkB,rJ,oLC,List.length_nil,List.replicate];simp[ht,e1,e2,e3];exact LV4 Yj ⟨by omega,by omega⟩ ⟨by omega,by omega⟩ ⟨by omega,by omega⟩ ⟨by omega,by omega⟩ (by unfold f6;omega) (by unfold f6;omega) (by unfold f6;omega) (by unfold f6;omega) (by unfold f6;omega) (by unfold f6;omega)
theorem Hw{α:Type}(l:List α)(i:Nat)(a:α):List.modify l i (λ_=>a)=l.set i a:=by
 apply List.ext_getElem?
 grind
theorem NW{s:List Int}{seed:Int}(hs:zu s)(h0:0<=seed)(h1:seed<=1073741824):Ok (nq s seed) λr=>∃key,r=(mkB s seed,key,0,())/\W16 key:=by
 obtain⟨hs1,WF,hsz⟩:=id hs;unfold nq;delta dR
 try dsimp only
 refine Ok.bind (P:=λr=>r=(s,seed,false,(),0,())) ?_ ?_
 ·refine(It (by omega)).bind ?_;rintro⟨v,_⟩ hv;have hv:v=true:=hv.2 hs;subst hv;simp only[oNT,oCF]
  (with_reducible refine dI (λZY=>?_) λZY=>?_)
  ·omega
  ·exact Ok.ret (by rw[oDF (by omega)])
 rintro _ rfl;dsimp only;refine Ok.cond (λh=>by cases h) λ_=>?_;rw[dP];simp only[oBS];refine dJ (by unfold pM;rw[oBA];exact⟨oDT rfl,oDT (by omega)⟩) ?_;refine dJ (by rw[bne_iff_ne];omega) ?_;have YJ:Int.tdiv seed s.length=seed/s.length:=Int.tdiv_eq_ediv_of_nonneg h0;have hq:0<=seed/(s.length:Int)/\seed/(s.length:Int)<=seed:=⟨Int.ediv_nonneg h0 (by omega),Int.ediv_le_self _ h0⟩;have T0:Int.tmod (seed/(s.length:Int)) 50=seed/(s.length:Int)%50:=Int.tmod_eq_emod_of_nonneg hq.1;rw[YJ,dS (x:=seed/(s.length:Int)) (by omega) (by omega),T0,dS (x:=1+seed/(s.length:Int)%50) (by omega) (by omega)]
 have Wh:W16 (wk .u16 (w64 (40503*seed))):=by
  unfold wk;rw[wy];exact⟨by omega,by omega⟩
 generalize wk .u16 (w64 (40503*seed))=key at Wh
 refine Ok.loop (P:=λs'=>∃k:Nat,s'=(s,seed,(s.length:Int),(rJ s seed k).2,(s.length:Int),(k:Int),(),0,(rJ s seed k).1,key,())/\k<=s.length) (R:=λr=>∃a b c d e f g h,r=(a,b,c,d,e,f,g,(),h,(rJ s seed s.length).1,key,()))
  (m:=λs'=>(s'.2.2.2.2.1-s'.2.2.2.2.2.1).toNat) ⟨0,rfl,by omega⟩ (by unfold NN;dsimp only;omega) ?_ ?_
 ·rintro _ ⟨k,rfl,hk⟩;unfold p6;dsimp only;have hb:=NU hs h0 k
  (with_reducible refine dI (λhcc=>?_) λhcc=>?_)
  ·have hr:=MH (k:=k) (seed:=seed) hs1;rw[dS (x:=(k:Int)+seed) (by omega) (by omega)];refine dJ (by rw[bne_iff_ne];omega) ?_;rw[Int.tmod_eq_emod_of_nonneg (show 0<=(k:Int)+seed by omega)];refine Ok.nat hr.1 λr WS=>?_;have hl:=LP s seed k;refine Ok.get (by omega) λx hx=>?_;refine Ok.get (by omega) λy hy=>?_;refine Ok.nat hr.1 λr2 hrr2=>?_
   have:r2=r:=by omega
   subst this;refine Ok.get (by omega) λz hz=>?_;have hz2:=hsz z (dT hz);rw[dS (x:=z+1) (by omega) (by omega),dS (x:=50*(s.length:Int)) (by omega) (by omega)];refine dJ (by rw[bne_iff_ne];omega) ?_;have hd2:Int.tdiv seed (50*(s.length:Int))=seed/(50*s.length):=Int.tdiv_eq_ediv_of_nonneg h0;have YD:0<=seed/(50*(s.length:Int))/\seed/(50*(s.length:Int))<=seed:=⟨Int.ediv_nonneg h0 (by omega),Int.ediv_le_self _ h0⟩;have VD:Int.tmod (seed/(50*(s.length:Int))) 40=seed/(50*s.length)%40:=Int.tmod_eq_emod_of_nonneg YD.1;rw[hd2,dS (x:=seed/(50*(s.length:Int))) (by omega) (by omega),VD];generalize hg:seed/(50*(s.length:Int))%40=g
   have Zy:0<=g/\g<40:=by omega
   rw[dS (x:=z+1+g) (by omega) (by omega),dS (x:=(rJ s seed k).2+(z+1+g)) (by omega) (by omega),dS (x:=(k:Int)+1) (by omega) (by omega),Hw]
   have e1:(rJ s seed (k+1)).1=(rJ s seed k).1.set r2 (rJ s seed k).2:=by
    simp only[rJ];rw[WS];rfl
   have e2:(rJ s seed (k+1)).2=(rJ s seed k).2+(z+1+g):=by
    simp only[rJ];rw[WS,hg,oTN,oGD,hz];rfl
   refine Ok.ret ⟨⟨k+1,?_,by omega⟩,by dsimp only;omega⟩;rw[e1,e2];rfl
  ·have:k=s.length:=by omega
   subst this;exact Ok.ret ⟨_,_,_,_,_,_,_,_,rfl⟩
 ·rintro _ ⟨a,b,c,d,e,f,g,h,rfl⟩;exact Ok.ret ⟨key,rfl,Wh⟩
theorem sU{S T:Type}{f:S->Option (S⊕T)}(st:Nat->S){n N:Nat}{t:T}(hn:n<N)(h:∀i,i<n->Ok (f (st i)) (·=.inl (st (i+1))))(he:Ok (f (st n)) (·=.inr t)):ej f N (st 0)=some t:=by
 have key:∀k i,i+k=n->∀N,k<N->ej f N (st i)=some t:=by
  intro k
  induction k with
  |zero=>
   intro i hi N hN;obtain⟨x,e,hx⟩:=he
   have:i=n:=by omega
   subst this;obtain⟨N',rfl⟩:∃N',N=N'+1:=⟨N-1,by omega⟩;simp[ej,e,hx]
  |succ k ih=>
   intro i hi N hN;have ⟨x,e,hx⟩:=h i (by omega);obtain⟨N',rfl⟩:∃N',N=N'+1:=⟨N-1,by omega⟩;simp[ej,e,hx];exact ih (i+1) (by omega) N' (by omega)
 simp_all
theorem ff{α:Type}{o:Option α}{a:α}(h:Ok o (·=a)):o=some a:=by
 obtain⟨x,e,rfl⟩:=h;exact e
theorem fC{l:List Int}{k:Nat}{x:Int}(h:l[k]?=some x):l.getD k 0=x:=by simp_all
theorem zE{s:List Int}(h:zu s):gQ s=some (true,()):=by
 have ⟨⟨v,u⟩,e,hv⟩:=It (s:=s) (by have:=h.2.1;omega)
 simp_all
theorem uk{bs ss:List Int}{key:Int}(h:LV bs ss):iO bs key ss=some (true,()):=by
 obtain⟨hs,hl,hr⟩:=h;have h4:=hs.2.1;unfold iO;rw[zE hs];delta dR;simp only[oBS,oNT,oCF,hl,bne_self_eq_false]
 have e:ej jj NN (ss,bs,(ss.length:Int),0,bs,key,())=some (.inr (ss,bs,(ss.length:Int),(ss.length:Int),false,bs,key,())):=by
  refine sU (st:=λi=>(ss,bs,(ss.length:Int),(i:Int),bs,key,())) (n:=ss.length) (by unfold NN;omega) ?_ ?_
  ·intro i hi;unfold jj;dsimp only;have R3:=hr i (by omega);unfold zw at R3
   (with_reducible refine dI (λZ9=>?_) λZ9=>?_)
   ·rw[dP];simp only[oBS];refine Ok.get (by omega) λb hb=>?_;rw[fC hb]at R3
    (with_reducible refine dI (λZY=>?_) λZY=>?_)
    ·omega
    ·refine Ok.get (by omega) λz hz=>?_;rw[fC hz]at R3;have hz2:=hs.2.2 z (dT hz)
     (simp (disch:=omega) only [dS,ek,dW,dV])
     (with_reducible refine dI (λhcc=>?_) λhcc=>?_)
     ·omega
     ·refine dJ (by unfold ge;simp;omega) ?_
      have T6:(mZ bs 0 (Nat.sub i 0)).length=i:=by unfold mZ;rw[oLT,List.drop_zero];show min i _=i;omega
      rw[T6]
      have e:ej jk NN (ss,(i:Int),b,bs,(ss.length:Int),(i:Int),mZ bs 0 (Nat.sub i 0),(i:Int),0,bs,key,())=some (.inr (ss,(i:Int),b,bs,(ss.length:Int),(i:Int),mZ bs 0 (Nat.sub i 0),(i:Int),(i:Int),false,bs,key,())):=by
       refine sU (st:=λj=>(ss,(i:Int),b,bs,(ss.length:Int),(i:Int),mZ bs 0 (Nat.sub i 0),(i:Int),(j:Int),bs,key,())) (n:=i) (by unfold NN;omega) ?_ ?_
       ·intro j hj;unfold jk;dsimp only
        (with_reducible refine dI (λZ9=>?_) λZ9=>?_)
        ·rw[dP,dP];simp only[oBS]
         have hx:(dN (mZ bs 0 (Nat.sub i 0)) j)=bs[j]?:=by
          unfold dN mZ;rw[List.getElem?_take,List.drop_zero];exact oIP hj
         rw[hx];obtain⟨c,hc⟩:∃c,bs[j]?=some c:=⟨_,oGE (by omega)⟩;obtain⟨y,hy⟩:∃y,ss[j]?=some y:=⟨_,oGE (by omega)⟩;have WK:=hs.2.2 y (dT hy);have UO:dN ss i=some z:=hz;have Wy:dN ss j=some y:=hy;rw[hc,UO,Wy];simp only[oBS];have R4:=(hr j (by omega)).1;have Tf:=(hr j (by omega)).2.1;rw[fC hc]at R4 Tf;rw[fC hy]at Tf;have VT:=R3.2.2 j hj;rw[fC hc,fC hy]at VT;rw[dS (x:=b+z) (by omega) (by omega),dS (x:=c+y) (by omega) (by omega)];by_cases h1:b+z>=c
         ·have h2:¬c+y>=b:=by omega
          simp only[h1,h2,decide_true,decide_false,oCT,oCF]
          (simp (disch:=omega) only [dS,ek,dW,dV])
          exact Ok.ret rfl
         ·simp only[h1,decide_false,oCF]
          (simp (disch:=omega) only [dS,ek,dW,dV])
          exact Ok.ret rfl
        ·omega
       ·unfold jk;dsimp only
        (with_reducible refine dI (λZ9=>?_) λZ9=>?_)
        ·omega
        ·exact Ok.ret rfl
      rw[e]
      (simp (disch:=omega) only [dS,ek,dW,dV])
      exact Ok.ret rfl
   ·omega
  ·unfold jj;dsimp only
   (with_reducible refine dI (λZ9=>?_) λZ9=>?_)
   ·omega
   ·exact Ok.ret rfl
 rw[e]
theorem J7{n m o a b c i:Int}(h:ie n m (o,a,b,c,i))(hn:n<=4)(hm:m<=64):lX o a b c i=some (true,()):=by
 obtain⟨⟨o0,o1⟩,⟨a0,a1,a2⟩,⟨b0,b1,b2⟩,⟨c0,c1,c2⟩,⟨i0,i1,i2⟩,hl,hs,hj⟩:=h;dsimp only at *
 have Ym:∀(k:Nat)(x:Int)(u:Bool),k<3->[a,b,c][k]?=some x->(k=0->u=pL o)->(k=1->u=pK o)->(k=2->u=pJ o)->0<=x->x<8->(u=false->x=0)->
  Ok (jh (3,(k:Int),o,a,b,c,i,pL o,pK o,pJ o,pI o,[a,b,c],())) (·=.inl (3,((k+1:Nat):Int),o,a,b,c,i,pL o,pK o,pJ o,pI o,[a,b,c],())):=by
  intro k x u hk hx h0 h1 h2 hx0 Z2 X7;unfold jh;dsimp only
  (with_reducible refine dI (λZ9=>?_) λZ9=>?_)
  ·rw[dP];simp only[oBS];rw[show dN [a,b,c] k=some x from hx];simp only[oBS];rw[oDF (show ¬x<0 by omega),oDF (show ¬x>=8 by omega)];simp only[oCF];have ZX:Ok (some ((3:Int),(k:Int),false,o,a,b,c,i,pL o,pK o,pJ o,pI o,[a,b,c],())) (·=((3:Int),(k:Int),false,o,a,b,c,i,pL o,pK o,pJ o,pI o,[a,b,c],())):=Ok.ret rfl
   have Ul:u=false->(x != 0)=false:=λh=>by rw[X7 h];rfl
   refine Ok.bind (P:=(·=((3:Int),(k:Int),false,o,a,b,c,i,pL o,pK o,pJ o,pI o,[a,b,c],()))) ?_ ?_
   ·rcases(show k=0\/k=1\/k=2 by omega)with rfl|rfl|rfl
    ·rw[<- h0 rfl]at ZX⊢;refine dJ rfl ?_;refine Ok.cond (λhu=>?_) λ_=>ZX;rw[Ul (by simpa using hu)];exact ZX
    ·rw[<- h1 rfl]at ZX⊢;refine Ok.cond (λhu=>by cases hu) λ_=>dJ rfl (Ok.cond (λhu=>?_) λ_=>ZX);rw[Ul (by simpa using hu)];exact ZX
    ·rw[<- h2 rfl]at ZX⊢;refine Ok.cond (λhu=>by cases hu) λ_=>Ok.cond (λhu=>by cases hu) λ_=>dJ rfl (Ok.cond (λhu=>?_) λ_=>ZX);rw[Ul (by simpa using hu)];exact ZX
   ·rintro _ rfl;dsimp only;rw[dS (x:=(k:Int)+1) (by omega) (by omega)];exact Ok.ret rfl
  ·omega
 have e:ej jh NN (3,0,o,a,b,c,i,pL o,pK o,pJ o,pI o,[a,b,c],())=some (.inr (3,3,false,o,a,b,c,i,pL o,pK o,pJ o,pI o,[a,b,c],())):=by
  refine sU (st:=λk=>(3,(k:Int),o,a,b,c,i,pL o,pK o,pJ o,pI o,[a,b,c],())) (n:=3) (by unfold NN;omega) ?_ ?_
  ·intro k hk
   rcases(show k=0\/k=1\/k=2 by omega)with rfl|rfl|rfl
   ·exact Ym 0 a _ (by omega) rfl (λ_=>rfl) (by omega) (by omega) a0 a1 a2
   ·exact Ym 1 b _ (by omega) rfl (by omega) (λ_=>rfl) (by omega) b0 b1 b2
   ·exact Ym 2 c _ (by omega) rfl (by omega) (by omega) (λ_=>rfl) c0 c1 c2
  ·exact Ok.ret rfl
 refine ff ?_;unfold lX;rw[oDF (show ¬o<0 by omega),oDF (show ¬o>24 by omega),Iu o0 o1];simp only[oCF,oBS];rw[show dR [a,b,c].length=3 from rfl,e];dsimp only;rw[oDF (show ¬i<0 by omega),oDF (show ¬i>65535 by omega)];simp only[oCF];refine Ok.bind (P:=(·=(false,o,a,b,c,i,()))) ?_ ?_
 ·refine Ok.cond (λhu=>?_) λ_=>Ok.ret rfl;exact Ok.ret (by rw[i2 (by simpa using hu)];rfl)
 rintro _ rfl;dsimp only;rw[xF];simp only[oCF,oBS];refine Ok.cond (λhu=>?_) λ_=>?_
 ·exact Ok.ret (by rw[oDT (by have:=hj hu;omega)])
 ·(with_reducible refine dI (λhcc=>?_) λhcc=>?_)
  ·exact Ok.ret (by rw[oDT (by have:=hl hcc;omega)])
  ·(with_reducible refine dI (λW'=>?_) λW'=>?_)
   ·exact Ok.ret (by rw[oDT (by have:=hs W';omega)])
   ·exact Ok.ret rfl
theorem Gu{code:List DIn}{s:List Int}{d:List (List Int)}(h:mY code s d):jX code s d=some (0,()):=by
 have hs:=h.sz;have WF:=hs.2.1;have hc:=h.clen;have hl:=h.len
 have e0:ej jg NN (d,(d.length:Int),0,code,s,d,())=some (.inr (d,(d.length:Int),(d.length:Int),false,code,s,d,())):=by
  refine sU (st:=λk=>(d,(d.length:Int),(k:Int),code,s,d,())) (n:=d.length) (by unfold NN;omega) ?_ ?_
  ·intro k hk;unfold jg;dsimp only
   (with_reducible refine dI (λZ9=>?_) λZ9=>?_)
   ·rw[dP];delta dR;simp only[oBS];refine Ok.get (by omega) λx hx=>?_;refine Ok.get (by omega) λy hy=>?_;have:=h.fit k x y hx hy
    (with_reducible refine dI (λZY=>?_) λZY=>?_)
    ·omega
    ·(simp (disch:=omega) only [dS,ek,dW,dV])
     exact Ok.ret rfl
   ·omega
  ·unfold jg;dsimp only
   (with_reducible refine dI (λZ9=>?_) λZ9=>?_)
   ·omega
   ·exact Ok.ret rfl
 have e1:ej jf NN (code,(code.length:Int),0,code,s,d,())=some (.inr (code,(code.length:Int),(code.length:Int),false,code,s,d,())):=by
  refine sU (st:=λk=>(code,(code.length:Int),(k:Int),code,s,d,())) (n:=code.length) (by unfold NN;omega) ?_ ?_
  ·intro k hk;unfold jf;dsimp only
   (with_reducible refine dI (λZ9=>?_) λZ9=>?_)
   ·rw[dP];simp only[oBS];refine Ok.get (by omega) λx hx=>?_;obtain⟨o,a,b,c,i⟩:=x;rw[J7 (h.ins _ (dT hx)) (by omega) (by omega)]
    (simp (disch:=omega) only [dS,ek,dW,dV])
    exact Ok.ret rfl
   ·omega
  ·unfold jf;dsimp only
   (with_reducible refine dI (λZ9=>?_) λZ9=>?_)
   ·omega
   ·exact Ok.ret rfl
 have e3:ej je NN (code,(code.length:Int),0,code,s,d,())=some (.inr (code,(code.length:Int),(code.length:Int),false,code,s,d,())):=by
  refine sU (st:=λk=>(code,(code.length:Int),(k:Int),code,s,d,())) (n:=code.length) (by unfold NN;omega) ?_ ?_
  ·intro k hk;unfold je;dsimp only
   (with_reducible refine dI (λZ9=>?_) λZ9=>?_)
   ·rw[dP];simp only[oBS];refine Ok.get (by omega) λx hx=>?_;have hp:=h.ins x (dT hx);rw[xF];simp only[oBS];refine Ok.bind (P:=(·=(code,(code.length:Int),(k:Int),false,code,s,d,()))) ?_ ?_
    ·refine Ok.cond (λhj=>?_) λ_=>?_
     ·have:=hp.jmp hj
      (with_reducible refine dI (λZY=>?_) λZY=>?_)
      ·have ZY:x.2.2.2.2>=(code.length:Int):=ZY;omega
      ·(with_reducible refine dI (λhcc=>?_) λhcc=>?_)
       ·exact Ok.ret (by rw[oDF (show ¬x.2.2.2.2>=dR s.length by rw[dV];have:=hp.lea hcc;omega)])
       ·exact Ok.ret rfl
     ·(with_reducible refine dI (λhcc=>?_) λhcc=>?_)
      ·exact Ok.ret (by rw[oDF (show ¬x.2.2.2.2>=dR s.length by rw[dV];have:=hp.lea hcc;omega)])
      ·exact Ok.ret rfl
    ·rintro _ rfl;dsimp only;simp only[oCF]
     (simp (disch:=omega) only [dS,ek,dW,dV])
     exact Ok.ret rfl
   ·omega
  ·unfold je;dsimp only
   (with_reducible refine dI (λZ9=>?_) λZ9=>?_)
   ·omega
   ·exact Ok.ret rfl
 refine ff ?_;unfold jX;rw[zE hs];delta dR;simp only[oBS,oNT,oCF,hl,bne_self_eq_false];rw[hl]at e0;rw[e0];dsimp only
 (with_reducible refine dI (λZ9=>?_) λZ9=>?_)
 ·omega
 ·(with_reducible refine dI (λZY=>?_) λZY=>?_)
  ·omega
  ·rw[e1];dsimp only;rw[e3];exact Ok.ret rfl
def RK(bs ss:List Int)(a:Int):Prop:=∃(j:Nat)(b z:Int),bs[j]?=some b/\ss[j]?=some z/\b<=a/\a<b+z
def nQ(K:Int->Prop)(c:DCe):Prop:=0<=c.1/\c.1<=2/\0<=c.2/\c.2<=65535/\(c.1=1->K c.2)
theorem nQ.mono{K K':Int->Prop}{c:DCe}(h:nQ K c)(hk:∀a,K a->K' a):nQ K' c:=⟨h.1,h.2.1,h.2.2.1,h.2.2.2.1,λe=>hk _ (h.2.2.2.2 e)⟩
theorem lM{K:Int->Prop}{v:Int}(h:0<=v/\v<=65535):nQ K (0,v):=⟨by omega,by omega,h.1,h.2,λe=>absurd (show(0:Int)=1 from e) (by decide)⟩
def PC(K:Int->Prop)(i:Nat)(x:DLn):Prop:=(x.1=-1/\x.2.1=false/\x.2.2=[])\/(0<=x.1/\x.1<128/\x.1%4=i/\x.2.2.length=4/\∀c∈x.2.2,nQ K c)
def PT(cs:List DCe)(x:DLn):Prop:=x.1=-1\/x.2.1=true\/∀o:Nat,o<4->cs[(x.1*4).toNat+o]?=x.2.2[o]?
structure kM (K:Int->Prop)(cs:List DCe)(ls:List DLn):Prop where
 clen:cs.length=512
 cells:∀c∈cs,nQ K c
 llen:ls.length=4
 lines:∀(i:Nat) x,ls[i]?=some x->PC K i x
 coh:∀(i:Nat) x,ls[i]?=some x->PT cs x
structure yy (K:Int->Prop)(n:Int)(t:DTh):Prop where
 state:0<=t.1/\t.1<=4
 len:t.2.1.length=8
 regs:∀c∈t.2.1,nQ K c
 pc:0<=t.2.2.1/\t.2.2.1<=255
 count:0<=t.2.2.2.1/\t.2.2.2.1<=n
 handler:-1<=t.2.2.2.2.1/\t.2.2.2.2.1<=255
 saved:-1<=t.2.2.2.2.2.1/\t.2.2.2.2.2.1<=255
 trap:0<=t.2.2.2.2.2.2.1/\t.2.2.2.2.2.2.1<=6
 code:W16 t.2.2.2.2.2.2.2
structure MOk (n:Int)(ss bs:List Int)(cs:List DCe)(ls:List DLn)(ts:List DTh):Prop where
 lay:LV bs ss
 mem:kM (RK bs ss) cs ls
 tlen:ts.length=4
 thr:∀t∈ts,yy (RK bs ss) n t
theorem GE{K:Int->Prop}{l:List DCe}(hl:l.length<=1000)(h:∀c∈l,nQ K c):mE l=some (true,()):=by
 have e:ej kT NN (l,(l.length:Int),0,())=some (.inr (l,(l.length:Int),(l.length:Int),false,())):=by
  refine sU (st:=λk=>(l,(l.length:Int),(k:Int),())) (n:=l.length) (by unfold NN;omega) ?_ ?_
  ·intro k hk;unfold kT
   (with_reducible refine dI (λZ9=>?_) λZ9=>?_)
   ·rw[dP];refine Ok.get (by omega) λx hx=>?_;have:=h x (dT hx);unfold j4;rw[oDT (show x.1<=2 from this.2.1)]
    (simp (disch:=omega) only [dS,ek,dW,dV])
    exact Ok.ret rfl
   ·omega
  ·unfold kT
   (with_reducible refine dI (λZ9=>?_) λZ9=>?_)
   ·omega
   ·exact Ok.ret rfl
 refine ff ?_;unfold mE;delta dR
 try dsimp only
 rw[e];exact Ok.ret rfl
theorem GM{K:Int->Prop}{cs:List DCe}{ls:List DLn}(h:kM K cs ls):lY cs ls=some (true,()):=by
 obtain⟨h1,h2,h3,h4,_⟩:=h
 have e:ej ji NN (ls,4,0,cs,ls,())=some (.inr (ls,4,4,false,cs,ls,())):=by
  refine sU (st:=λk=>(ls,4,(k:Int),cs,ls,())) (n:=4) (by unfold NN;omega) ?_ ?_
  ·intro k hk;unfold ji;dsimp only
   (with_reducible refine dI (λZ9=>?_) λZ9=>?_)
   ·rw[dP];simp only[oBS];refine Ok.get (by omega) λx hx=>?_
    rcases h4 k x hx with⟨e1,e2,e3⟩|⟨g1,g2,g3,g4,g5⟩
    ·rw[e1,e2,e3]
     (simp (disch:=omega) only [dS,ek,dW,dV])
     exact Ok.ret rfl
    ·rw[show(x.1==-1)=false by rw[beq_eq_false_iff_ne];omega,oDF (show ¬x.1<0 by omega),oDF (show ¬x.1>=128 by omega),Int.tmod_eq_emod_of_nonneg g1,g3,g4,GE (by omega) g5];simp;refine Ok.bind (P:=(·=(ls,4,(k:Int),false,cs,ls,()))) ?_ ?_
     ·refine Ok.cond (λh=>by cases h) λ_=>Ok.ret rfl
     ·rintro _ rfl;dsimp only;simp only[oCF]
      (simp (disch:=omega) only [dS,ek,dW,dV])
      exact Ok.ret rfl
   ·omega
  ·unfold ji;exact Ok.ret rfl
 refine ff ?_;unfold lY;delta dR;simp only[h1,h3,GE (show cs.length<=1000 by omega) h2,oBS,oNT];refine Ok.bind (P:=(·=(false,cs,ls,()))) ?_ ?_
 ·exact Ok.ret rfl
 ·rintro _ rfl;dsimp only;simp only[oCF];rw[h3,show((4:Nat):Int)=4 from rfl,e];exact Ok.ret rfl
theorem GL{K:Int->Prop}{t:DTh}(h:yy K 1099511627776 t):lU t.1 t.2.1 t.2.2.1 t.2.2.2.1 t.2.2.2.2.1 t.2.2.2.2.2.1 t.2.2.2.2.2.2.1 t.2.2.2.2.2.2.2=some (true,()):=by
 obtain⟨⟨a1,a2⟩,hl,hr,⟨b1,b2⟩,⟨c1,c2⟩,⟨d1,d2⟩,⟨e1,e2⟩,⟨f1,f2⟩,_⟩:=h;obtain⟨s,rs,pc,ct,ha,sa,tr,co⟩:=t;dsimp only at *
 have e:ej jd NN (rs,(rs.length:Int),0,s,rs,pc,ct,ha,sa,tr,co,())=some (.inr (rs,(rs.length:Int),(rs.length:Int),false,s,rs,pc,ct,ha,sa,tr,co,())):=by
  refine sU (st:=λk=>(rs,(rs.length:Int),(k:Int),s,rs,pc,ct,ha,sa,tr,co,())) (n:=rs.length) (by unfold NN;omega) ?_ ?_
  ·intro k hk;unfold jd
   (with_reducible refine dI (λZ9=>?_) λZ9=>?_)
   ·rw[dP];refine Ok.get (by omega) λx hx=>?_;have:=hr x (dT hx);unfold j4;rw[oDT (show x.1<=2 from this.2.1)]
    (simp (disch:=omega) only [dS,ek,dW,dV])
    exact Ok.ret rfl
   ·omega
  ·unfold jd
   (with_reducible refine dI (λZ9=>?_) λZ9=>?_)
   ·omega
   ·exact Ok.ret rfl
 refine ff ?_;unfold lU;delta dR
 try dsimp only
 rw[e];dsimp only;rw[hl];refine dJ (oDT a1) (dJ (oDT a2) (dJ rfl (dJ (oDT b1) (dJ (oDT b2) (dJ (oDT c1) (dJ (oDT c2) (dJ (oDT d1) (dJ (oDT d2) (dJ (oDT e1) (dJ (oDT e2) (dJ (oDT f1) ?_)))))))))));exact Ok.ret (by simp_all)
theorem uj{code:List DIn}{ss bs:List Int}{d:List (List Int)}{n key:Int}{cs:List DCe}{ls:List DLn}{ts:List DTh}(hp:mY code ss d)(h:MOk n ss bs cs ls ts)(hn:n<=1099511627776):iN code ss d bs key cs ls ts=some (true,()):=by
 have ⟨h1,h2,h3,h4⟩:=h
 have e:ej lE NN (ts,4,0,bs,key,cs,ls,ts,())=some (.inr (ts,4,4,false,bs,key,cs,ls,ts,())):=by
  refine sU (st:=λk=>(ts,4,(k:Int),bs,key,cs,ls,ts,())) (n:=4) (by unfold NN;omega) ?_ ?_
  ·intro k hk;unfold lE
   (with_reducible refine dI (λZ9=>?_) λZ9=>?_)
   ·rw[dP];refine Ok.get (by omega) λx hx=>?_;have ht:=h4 x (dT hx);rw[GL ⟨ht.state,ht.len,ht.regs,ht.pc,⟨ht.count.1,by have:=ht.count.2;omega⟩,ht.handler,ht.saved,ht.trap,ht.code⟩]
    (simp (disch:=omega) only [dS,ek,dW,dV])
    exact Ok.ret rfl
   ·omega
  ·exact Ok.ret rfl
 refine ff ?_;unfold iN;rw[Gu hp,uk h1,GM h2];delta dR;simp only[oBS,oNT,oCF,bne_self_eq_false,h3];rw[show((4:Nat):Int)=4 from rfl,e];exact Ok.ret rfl
def hJ:List DLn:=[(-1,false,[]),(-1,false,[]),(-1,false,[]),(-1,false,[])]
theorem Mf:oK=some (hJ,()):=by kernel_rfl
theorem Kp{K:Int->Prop}{cs:List DCe}(h:cs.length=512)(hc:∀c∈cs,nQ K c):kM K cs hJ:=by
 have key:∀(i:Nat) x,hJ[i]?=some x->x=(-1,false,[]):=λi x hx=>by
  have:=dT hx;simp[hJ]at this;exact this
 exact⟨h,hc,rfl,λi x hx=>by rw[key i x hx];exact .inl ⟨rfl,rfl,rfl⟩,λi x hx=>by rw[key i x hx];exact .inl rfl⟩
theorem iT{α:Type}{P:α->Prop}{l:List α}{i:Nat}{f:α->α}(h:∀x∈l,P x)(hf:∀x,P x->P (f x)):∀x∈List.modify l i f,P x:=by
 intro x hx;have ⟨j,hj⟩:=List.getElem?_of_mem hx
 grind
theorem NX{code:List DIn}{ss bs:List Int}{d:List (List Int)}{key:Int}(hp:mY code ss d)(hl:LV bs ss):Ok (nj code ss d bs key) λr=>∃cs,r=(cs,hJ,0,())/\cs.length=512/\∀c∈cs,nQ (λ_=>False) c:=by
 unfold nj;rw[uk hl,Mf];delta dR;simp only[oBS,oNT,oCF,hp.len,bne_self_eq_false];refine dJ (by decide) ?_
 obtain⟨t,e,ht⟩:=gX (f:=mF) (n:=NN) (s:=(d,(ss.length:Int),0,code,ss,d,bs,key,(),(),List.replicate 512 (0,0),hJ,()))
  (P:=λs'=>∃k:Nat,∃cs,s'=(d,(ss.length:Int),(k:Int),code,ss,d,bs,key,(),(),cs,hJ,())/\k<=ss.length/\cs.length=512/\∀c∈cs,nQ (λ_=>False) c)
  (R:=λr=>∃a b c e cs,r=.inr (a,b,c,e,code,ss,d,bs,key,(),(),cs,hJ,())/\cs.length=512/\∀c∈cs,nQ (λ_=>False) c) (m:=λs'=>(s'.2.1-s'.2.2.1).toNat)
  ⟨0,_,rfl,by omega,List.length_replicate,λc hc=>by rw[List.eq_of_mem_replicate hc];exact lM (by decide)⟩ (by unfold NN;dsimp only;have:=hp.sz.2.1;omega) (by
   rintro _ ⟨k,cs,rfl,hk,ZP,ZH⟩;unfold mF;dsimp only;have hlen:=hp.len;have WF:=hp.sz.2.1
   (with_reducible refine dI (λZ9=>?_) λZ9=>?_)
   ·rw[dP];delta dR;simp only[oBS];refine Ok.get (by omega) λx hx=>?_;refine Ok.get (by omega) λy hy=>?_;have hf:=hp.fit k x y hx hy;have Xd:=hp.num x (dT hx);obtain⟨_,U1,hr⟩:=hl;have Vg:=hr k (by omega);unfold zw at Vg;obtain⟨b,hb⟩:∃b,bs[k]?=some b:=⟨_,oGE (by omega)⟩;rw[fC hb,fC hy]at Vg
    (with_reducible refine dI (λZY=>?_) λZY=>?_)
    ·omega
    ·refine Ok.loop (P:=λs'=>∃j:Nat,∃cs,s'=((k:Int),d,(ss.length:Int),(k:Int),x,(x.length:Int),(j:Int),code,ss,d,bs,key,(),(),cs,hJ,())/\j<=x.length/\cs.length=512/\∀c∈cs,nQ (λ_=>False) c)
      (R:=λr=>∃a b c e cs,r=(a,d,(ss.length:Int),(k:Int),b,c,e,false,code,ss,d,bs,key,(),(),cs,hJ,())/\cs.length=512/\∀c∈cs,nQ (λ_=>False) c) (m:=λs'=>(s'.2.2.2.2.2.1-s'.2.2.2.2.2.2.1).toNat)
      ⟨0,cs,rfl,by omega,ZP,ZH⟩ (by unfold NN;dsimp only;omega) ?_ ?_
     ·rintro _ ⟨j,cs,rfl,hj,ZP,ZH⟩;unfold p5;dsimp only
      (with_reducible refine dI (λhcc=>?_) λhcc=>?_)
      ·rw[dP,dP];simp only[oBS];refine Ok.get (by omega) λv hv=>?_;have XT:=Xd v (dT hv);rw[show dN bs k=some b from hb];simp only[oBS]
       (simp (disch:=omega) only [dS,ek,dW,dV])
       refine Ok.nat (by omega) λa ha=>?_;refine Ok.get (by omega) λc hc=>?_;refine Ok.get (by omega) λc' XY=>?_;exact Ok.ret ⟨⟨j+1,_,rfl,by omega,by rw[oLM];exact ZP,iT ZH λz hz=>⟨hz.1,hz.2.1,XT.1,XT.2,hz.2.2.2.2⟩⟩,by dsimp only;omega⟩
      ·exact Ok.ret ⟨_,_,_,_,_,rfl,ZP,ZH⟩
     ·rintro _ ⟨a,b,c,e,cs,rfl,ZP,ZH⟩;dsimp only
      (simp (disch:=omega) only [dS,ek,dW,dV])
      exact Ok.ret ⟨⟨k+1,_,rfl,by omega,ZP,ZH⟩,by dsimp only;omega⟩
   ·exact Ok.ret ⟨_,_,_,_,_,rfl,ZP,ZH⟩)
 rw[e];obtain⟨a,b,c,e,cs,rfl,ZP,ZH⟩:=ht;exact Ok.ret ⟨cs,rfl,ZP,ZH⟩
theorem OO{K:Int->Prop}:∀c∈List.replicate 8 ((0:Int),(0:Int)),nQ K c:=λc hc=>by rw[List.eq_of_mem_replicate hc];exact lM (by decide)
theorem M4{K:Int->Prop}{s:Int}(h:0<=s/\s<=4):yy K 0 (s,List.replicate 8 (0,0),0,0,-1,-1,0,0):=
 ⟨h,rfl,OO,⟨by simp_all,by simp_all⟩,⟨by simp_all,by simp_all⟩,⟨by simp_all,by simp_all⟩,⟨by simp_all,by simp_all⟩,⟨by simp_all,by simp_all⟩,⟨by simp_all,by simp_all⟩⟩
theorem KY{code:List DIn}{ss bs:List Int}{d:List (List Int)}{key:Int}(hp:mY code ss d)(hl:LV bs ss):Ok (lW code ss d bs key) λr=>∃cs ts,r=(bs,key,cs,hJ,ts,0,())/\MOk 0 ss bs cs hJ ts:=by
 unfold lW;rw[Gu hp,uk hl];refine(NX hp hl).bind ?_;rintro _ ⟨cs,rfl,ZP,ZH⟩;dsimp only;have U1:=hl.2.1;have WF:=hp.sz.2.1;refine dJ (dZ (by omega)) ?_
 refine Ok.loop (P:=λs'=>∃k:Nat,∃ts,s'=((k:Int),(),0,(),(),(),bs,key,cs,hJ,ts,())/\k<=4/\ts.length=k/\∀t∈ts,yy (RK bs ss) 0 t)
  (R:=λr=>∃a b ts,r=(a,b,(),0,(),(),(),bs,key,cs,hJ,ts,())/\ts.length=4/\∀t∈ts,yy (RK bs ss) 0 t) (m:=λs'=>(4-s'.1).toNat) ⟨0,[],rfl,by omega,rfl,eJ⟩ (by unfold NN;dsimp only;omega) ?_ ?_
 ·rintro _ ⟨k,ts,rfl,hk,XR,YV⟩;unfold pC;dsimp only
  (with_reducible refine dI (λZ9=>?_) λZ9=>?_)
  ·refine dJ (by decide) ?_;refine Ok.bind (P:=λr=>∃s,(0<=s/\s<=4)/\r=((k:Int),(),0,(),(),(),bs,key,cs,hJ,ts,s,List.replicate 8 (0,0),0,0,-1,-1,0,0,())) ?_ ?_
   ·(with_reducible refine dI (λZY=>?_) λZY=>?_)
    ·exact Ok.ret ⟨1,by decide,rfl⟩
    ·exact Ok.ret ⟨0,by decide,rfl⟩
   ·rintro _ ⟨s,hs,rfl⟩;dsimp only;refine dJ (dZ (by simp;omega)) ?_
    (simp (disch:=omega) only [dS,ek,dW,dV])
    exact Ok.ret ⟨⟨k+1,_,rfl,by omega,by rw[fi,XR];rfl,gE YV (all_cons (M4 hs) eJ)⟩,by dsimp only;omega⟩
  ·exact Ok.ret ⟨_,_,_,rfl,by omega,YV⟩
 ·rintro _ ⟨a,b,ts,rfl,XR,YV⟩;exact Ok.ret ⟨cs,ts,rfl,hl,Kp ZP λc hc=>(ZH c hc).mono λ_ h=>h.elim,XR,YV⟩
def Pr(ss:List Int)(c:DCn):Prop:=
 ((c.1=0\/c.1=2)/\c.2.2.1=0/\c.2.2.2=0/\W16 c.2.1)\/(c.1=1/\c.2.1=0/\0<=c.2.2.1/\∃n,ss[c.2.2.1.toNat]?=some n/\0<=c.2.2.2/\c.2.2.2<n)
theorem D3{ss:List Int}{c:DCn}(hs:zu ss)(h:Pr ss c):gJ c.1 c.2.1 c.2.2.1 c.2.2.2=some (true,()):=by
 refine ff ?_;unfold gJ
 rcases h with⟨h1,h2,h3,_⟩|⟨h1,h2,h3,n,h4,h5,h6⟩
 ·rw[h2,h3]
  rcases h1 with h1|h1<;>rw[h1]<;>exact Ok.ret rfl
 ·have hn:=hs.2.2 n (dT h4);have hl:=(oGS h4).1;have WF:=hs.2.1;rw[h1,h2,show(c.2.2.1==-1)=false by rw[beq_eq_false_iff_ne];omega];refine Ok.cond (λh=>by cases h) λ_=>Ok.cond (λh=>by cases h) λ_=>dJ rfl ?_;refine Ok.cond (λh=>by cases h) λ_=>dJ rfl ?_;exact dJ (oDT h3) (dJ (oDT (by omega)) (dJ (oDT h5) (Ok.ret (by rw[oDT (show c.2.2.2<32 by omega)]))))
theorem mr{ss:List Int}{l:List DCn}{n:Int}(hs:zu ss)(h:∀c∈l,Pr ss c)(hn:(l.length:Int)<=n)(hl:l.length<=1000):fv l n=some (true,()):=by
 have e:ej f7 NN (l,n,l,(l.length:Int),0,())=some (.inr (l,n,l,(l.length:Int),(l.length:Int),false,())):=by
  refine sU (st:=λk=>(l,n,l,(l.length:Int),(k:Int),())) (n:=l.length) (by unfold NN;omega) ?_ ?_
  ·intro k hk;unfold f7
   (with_reducible refine dI (λZ9=>?_) λZ9=>?_)
   ·rw[dP];refine Ok.get (by omega) λx hx=>?_;rw[D3 hs (h x (dT hx))]
    (simp (disch:=omega) only [dS,ek,dW,dV])
    exact Ok.ret rfl
   ·omega
  ·unfold f7
   (with_reducible refine dI (λZ9=>?_) λZ9=>?_)
   ·omega
   ·exact Ok.ret rfl
 refine ff ?_;unfold fv;delta dR
 try dsimp only
 rw[e];exact Ok.ret (congrArg (λb=>(b,())) (oDT hn))
def OB(d:List (List DCn))(o:DOp):Prop:=(o.1=-1/\o.2.1=0/\o.2.2=false)\/(0<=o.1/\∃x,d[o.1.toNat]?=some x/\0<=o.2.1/\o.2.1<=x.length)
structure fH (ss:List Int)(d:List (List DCn))(os:List DOp):Prop where
 dlen:d.length<=4
 flen:∀x∈d,x.length<=64
 cells:∀x∈d,∀c∈x,Pr ss c
 olen:os.length=8
 opens:∀o∈os,OB d o
theorem zB{ss:List Int}{d:List (List DCn)}{os:List DOp}(hs:zu ss)(h:fH ss d os):jQ d os=some (true,()):=by
 obtain⟨h1,h2,h3,h4,h5⟩:=h
 have e0:ej jc NN (d,(d.length:Int),0,d,os,())=some (.inr (d,(d.length:Int),(d.length:Int),false,d,os,())):=by
  refine sU (st:=λk=>(d,(d.length:Int),(k:Int),d,os,())) (n:=d.length) (by unfold NN;omega) ?_ ?_
  ·intro k hk;unfold jc;dsimp only
   (with_reducible refine dI (λZ9=>?_) λZ9=>?_)
   ·rw[dP];simp only[oBS];refine Ok.get (by omega) λx hx=>?_;have:=h2 x (dT hx);rw[mr hs (h3 x (dT hx)) (by omega) (by omega)];simp only[oBS,oNT,oCF]
    (simp (disch:=omega) only [dS,ek,dW,dV])
    exact Ok.ret rfl
   ·omega
  ·unfold jc;dsimp only
   (with_reducible refine dI (λZ9=>?_) λZ9=>?_)
   ·omega
   ·exact Ok.ret rfl
 have e2:ej lC NN (os,8,0,d,os,())=some (.inr (os,8,8,false,d,os,())):=by
  refine sU (st:=λk=>(os,8,(k:Int),d,os,())) (n:=8) (by unfold NN;omega) ?_ ?_
  ·intro k hk;unfold lC;dsimp only
   (with_reducible refine dI (λZ9=>?_) λZ9=>?_)
   ·rw[dP];simp only[oBS];refine Ok.get (by omega) λx hx=>?_;obtain⟨f,o,w⟩:=x;refine Ok.bind (P:=(·=(os,8,(k:Int),false,d,os,f,o,w,()))) ?_ ?_
    ·rcases h5 _ (dT hx)with⟨g1,g2,g3⟩|⟨g1,y,g2,g3,g4⟩
     ·have g1:f=-1:=g1;have g2:o=0:=g2;have g3:w=false:=g3;subst g1 g2 g3;dsimp only;refine dJ rfl (Ok.cond (λh=>by cases h) λ_=>Ok.cond (λh=>by cases h) λ_=>Ok.cond (λh=>by cases h) λ_=>Ok.cond (λh=>?_) λ_=>Ok.cond (λh=>by cases h) λ_=>Ok.ret rfl);have h:(-1:Int)>=(d.length:Int):=of_decide_eq_true h;omega
     ·dsimp only at g1 g2 g3 g4⊢;have hl:=(oGS g2).1;rw[show(f==-1)=false by rw[beq_eq_false_iff_ne];omega,oDF (show ¬f < -1 by omega)];simp only[oCF];refine Ok.cond (λh=>?_) λ_=>dJ (oDT g1) ?_
      ·have h:f>=(d.length:Int):=of_decide_eq_true h;omega
      ·rw[oDF (show ¬o<0 by omega)];simp only[oCF];refine Ok.nat g1 λj hj=>?_;refine Ok.get (by omega) λz hz=>?_
       have hjj:j=f.toNat:=by omega
       subst hjj;rw[g2]at hz
       injection hz with hz
       subst hz;exact Ok.ret (by rw[oDF (show ¬o>dR y.length from λh=>by rw[dV]at h;omega)])
    ·rintro _ rfl;dsimp only;simp only[oCF]
     (simp (disch:=omega) only [dS,ek,dW,dV])
     exact Ok.ret rfl
   ·omega
  ·exact Ok.ret rfl
 refine ff ?_;unfold jQ;delta dR
 try dsimp only
 (with_reducible refine dI (λZ9=>?_) λZ9=>?_)
 ·omega
 ·rw[h4];rw[e0];dsimp only;rw[h4,show((8:Nat):Int)=8 from rfl,e2];exact Ok.ret rfl
def PR(ss:List Int)(i:Nat)(x:DOu):Prop:=x.1=i/\0<=x.2.1/\x.2.1<2/\x.2.2.length<=16/\∀c∈x.2.2,Pr ss c
structure yz (ss:List Int)(ck rn:List Int)(ins:List (List Int))(d:List (List DCn))(os:List DOp)(us:List DOu):Prop where
 clock:ck.length<=64/\∀w∈ck,W16 w
 rand:rn.length<=64/\∀w∈rn,W16 w
 ilen:ins.length<=2
 inp:∀x∈ins,x.length<=64/\∀w∈x,W16 w
 files:fH ss d os
 ulen:us.length<=200
 outs:∀(i:Nat) x,us[i]?=some x->PR ss i x
theorem Hp{ss:List Int}{us:List DOu}(hl:us.length<=200)(h:∀(i:Nat) x,us[i]?=some x->PR ss i x):jP us=some (true,()):=by
 have e:ej hY NN (us,(us.length:Int),0,())=some (.inr (us,(us.length:Int),(us.length:Int),false,())):=by
  refine sU (st:=λk=>(us,(us.length:Int),(k:Int),())) (n:=us.length) (by unfold NN;omega) ?_ ?_
  ·intro k hk;unfold hY
   (with_reducible refine dI (λZ9=>?_) λZ9=>?_)
   ·rw[dP];refine Ok.get (by omega) λx hx=>?_;have ⟨g1,g2,g3,g4,g5⟩:=h k x hx;rw[g1,oDF (show ¬x.2.1<0 by omega),oDF (show ¬x.2.1>=2 by omega)];simp;refine Ok.cond (λh=>?_) λ_=>?_
    ·have h:(x.2.2.length:Int)>16:=of_decide_eq_true h;omega
    ·(simp (disch:=omega) only [dS,ek,dW,dV])
     exact Ok.ret rfl
   ·omega
  ·unfold hY
   (with_reducible refine dI (λZ9=>?_) λZ9=>?_)
   ·omega
   ·exact Ok.ret rfl
 refine ff ?_;unfold jP;delta dR
 try dsimp only
 rw[e];exact Ok.ret rfl
theorem ui{ss ck rn:List Int}{ins:List (List Int)}{d:List (List DCn)}{os:List DOp}{us:List DOu}(hs:zu ss)(h:yz ss ck rn ins d os us):iM ck rn ins d os us=some (true,()):=by
 have e0:ej jb NN (ins,(ins.length:Int),0,ck,rn,ins,d,os,us,())=some (.inr (ins,(ins.length:Int),(ins.length:Int),false,ck,rn,ins,d,os,us,())):=by
  refine sU (st:=λk=>(ins,(ins.length:Int),(k:Int),ck,rn,ins,d,os,us,())) (n:=ins.length) (by unfold NN;have:=h.ilen;omega) ?_ ?_
  ·intro k hk;have YL:=h.ilen;unfold jb;dsimp only
   (with_reducible refine dI (λZ9=>?_) λZ9=>?_)
   ·rw[dP];delta dR;simp only[oBS];refine Ok.get (by omega) λx hx=>?_;have:=(h.inp x (dT hx)).1
    (with_reducible refine dI (λZY=>?_) λZY=>?_)
    ·omega
    ·(simp (disch:=omega) only [dS,ek,dW,dV])
     exact Ok.ret rfl
   ·omega
  ·unfold jb;dsimp only
   (with_reducible refine dI (λZ9=>?_) λZ9=>?_)
   ·omega
   ·exact Ok.ret rfl
 have e1:ej ja NN (us,(us.length:Int),0,ck,rn,ins,d,os,us,())=some (.inr (us,(us.length:Int),(us.length:Int),false,ck,rn,ins,d,os,us,())):=by
  refine sU (st:=λk=>(us,(us.length:Int),(k:Int),ck,rn,ins,d,os,us,())) (n:=us.length) (by unfold NN;have:=h.ulen;omega) ?_ ?_
  ·intro k hk;have hul:=h.ulen;unfold ja;dsimp only
   (with_reducible refine dI (λZ9=>?_) λZ9=>?_)
   ·rw[dP];simp only[oBS];refine Ok.get (by omega) λx hx=>?_;obtain⟨_,_,_,g4,g5⟩:=h.outs k x hx;rw[mr hs g5 (by omega) (by omega)]
    (simp (disch:=omega) only [dS,ek,dW,dV])
    exact Ok.ret rfl
   ·omega
  ·unfold ja;dsimp only
   (with_reducible refine dI (λZ9=>?_) λZ9=>?_)
   ·omega
   ·exact Ok.ret rfl
 have c1:=h.clock.1;have c2:=h.rand.1;have c3:=h.ilen;have c4:=h.ulen;refine ff ?_;unfold iM;delta dR
 try dsimp only
 rw[e0];dsimp only;rw[e1];dsimp only;refine dJ (oDT (show(ck.length:Int)<=64 by omega)) (dJ (oDT (show(rn.length:Int)<=64 by omega)) (dJ (oDT (show(ins.length:Int)<=2 by omega)) ?_));rw[zB hs h.files];refine dJ (oDT (show(us.length:Int)<=200 by omega)) ?_;rw[Hp h.ulen h.outs];exact Ok.ret rfl
def o6:List DOp:=List.replicate 8 (-1,0,false)
theorem LC(a:List (List Int)):ej rG NN (a,8,0,(),(),(),List.replicate 8 (0,(0,false)),())=some (a,8,8,false,(),(),(),o6,()):=by
 rfl
theorem LJ{ss:List Int}{a:List (List Int)}(hs:zu ss)(hl:a.length<=4)(h:∀x∈a,x.length<=64/\∀w∈x,W16 w):Ok (oF a) λr=>∃d,r=(d,o6,0,())/\fH ss d o6:=by
 unfold oF;refine dJ (by decide) ?_;dsimp only;rw[show dR (List.replicate 8 ((0:Int),((0:Int),false))).length=8 from rfl,LC];delta dR;simp only[oBS]
 refine Ok.loop (P:=λs'=>∃k:Nat,∃d,s'=(a,(a.length:Int),(k:Int),(),(),d,o6,())/\k<=a.length/\d.length=k/\(∀x∈d,x.length<=64)/\∀x∈d,∀c∈x,Pr ss c)
  (R:=λr=>∃e b c f d,r=(e,b,c,f,(),(),d,o6,())/\d.length<=4/\(∀x∈d,x.length<=64)/\∀x∈d,∀c∈x,Pr ss c) (m:=λs'=>(s'.2.1-s'.2.2.1).toNat) ⟨0,[],rfl,by omega,rfl,eJ,eJ⟩ (by unfold NN;dsimp only;omega) ?_ ?_
 ·rintro _ ⟨k,d,rfl,hk,YJ,hd2,XK⟩;unfold rE;dsimp only
  (with_reducible refine dI (λZ9=>?_) λZ9=>?_)
  ·rw[dP];delta dR;simp only[oBS];refine Ok.get (by omega) λx hx=>?_;obtain⟨Z2,X7⟩:=h x (dT hx)
   refine Ok.loop (P:=λs'=>∃j:Nat,∃l,s'=(a,(a.length:Int),(k:Int),x,(x.length:Int),(j:Int),(),(),d,o6,l,())/\j<=x.length/\l.length=j/\∀c∈l,Pr ss c)
    (R:=λr=>∃b c e f l,r=(a,(a.length:Int),(k:Int),b,c,e,f,(),(),d,o6,l,())/\l.length<=64/\∀c∈l,Pr ss c) (m:=λs'=>(s'.2.2.2.2.1-s'.2.2.2.2.2.1).toNat) ⟨0,[],rfl,by omega,rfl,eJ⟩ (by unfold NN;dsimp only;omega) ?_ ?_
   ·rintro _ ⟨j,l,rfl,hj,Xs,Yg⟩;unfold rF;dsimp only
    (with_reducible refine dI (λZY=>?_) λZY=>?_)
    ·rw[dP];simp only[oBS];refine Ok.get (by omega) λv hv=>?_;refine dJ (dZ (by simp;omega)) ?_
     (simp (disch:=omega) only [dS,ek,dW,dV])
     exact Ok.ret ⟨⟨j+1,_,rfl,by omega,by rw[fi,Xs];rfl,gE Yg (all_cons (.inl ⟨.inl rfl,rfl,rfl,X7 v (dT hv)⟩) eJ)⟩,by dsimp only;omega⟩
    ·exact Ok.ret ⟨_,_,_,_,_,rfl,by omega,Yg⟩
   ·rintro _ ⟨b,c,e,f,l,rfl,Xs,Yg⟩;dsimp only;refine dJ (dZ (by simp;omega)) ?_
    (simp (disch:=omega) only [dS,ek,dW,dV])
    exact Ok.ret ⟨⟨k+1,_,rfl,by omega,by rw[fi,YJ];rfl,gE hd2 (all_cons Xs eJ),gE XK (all_cons Yg eJ)⟩,by dsimp only;omega⟩
  ·exact Ok.ret ⟨_,_,_,_,_,rfl,by omega,hd2,XK⟩
 ·rintro _ ⟨e,b,c,f,d,rfl,YJ,hd2,XK⟩;have hf:fH ss d o6:=⟨YJ,hd2,XK,rfl,λo ho=>by rw[List.eq_of_mem_replicate ho];exact .inl ⟨rfl,rfl,rfl⟩⟩;dsimp only;rw[zB hs hf];exact Ok.ret ⟨d,rfl,hf⟩
theorem yd{a:List (List Int)}(hl:a.length<=1000)(h:∀x∈a,x.length<=1000):fK a=some (a,()):=by
 have e:ej fD NN (a,(a.length:Int),0,[],())=some (a,(a.length:Int),(a.length:Int),false,a,()):=by
  have:=sU (f:=fD) (N:=NN) (st:=λk=>(a,(a.length:Int),(k:Int),a.take k,())) (n:=a.length) (t:=(a,(a.length:Int),(a.length:Int),false,a,())) (by unfold NN;omega) ?_ ?_
  ·exact this
  ·intro k hk;unfold fD
   (with_reducible refine dI (λZ9=>?_) λZ9=>?_)
   ·rw[dP];refine Ok.get (by omega) λx hx=>?_;have:=h x (dT hx);refine dJ (dZ (by omega)) (dJ (dZ (by simp;omega)) ?_)
    (simp (disch:=omega) only [dS,ek,dW,dV])
    refine Ok.ret ?_;rw[List.take_add_one,hx];rfl
   ·omega
  ·unfold fD
   (with_reducible refine dI (λZ9=>?_) λZ9=>?_)
   ·omega
   ·rw[List.take_length];exact Ok.ret rfl
 refine ff ?_;unfold fK;delta dR
 try dsimp only
 rw[e];exact Ok.ret rfl
theorem Ho{ss l:List Int}{k:Int}(hs:zu ss)(h:DOk l k):Ok (kV l k) λr=>∃ck rn ins d os k',r=(ck,rn,ins,d,os,(),l,k',())/\yz ss ck rn ins d os []/\DOk l k':=by
 unfold kV;refine(oA h (by decide)).bind ?_;rintro _ ⟨w1,k1,rfl,h1,g1,d1⟩;refine(oA d1 (by decide)).bind ?_;rintro _ ⟨w2,k2,rfl,h2,g2,d2⟩;dsimp only;refine(oA d2 (by decide)).bind ?_;rintro _ ⟨w3,k3,rfl,h3,g3,d3⟩;dsimp only;refine(oA d3 (by decide)).bind ?_;rintro _ ⟨w4,k4,rfl,h4,g4,d4⟩;dsimp only;refine(oA d4 (by decide)).bind ?_;rintro _ ⟨w5,k5,rfl,h5,g5,d5⟩;dsimp only;refine(oA d5 (by decide)).bind ?_;rintro _ ⟨w6,k6,rfl,h6,g6,d6⟩;dsimp only;refine Ok.bind (P:=λr=>∃ck rn ins d os,r=(ck,rn,ins,d,os,(),0,())/\yz ss ck rn ins d os []) ?_ ?_
 ·unfold oE;refine(LJ (ss:=ss) (a:=[w1,w2]) hs (by simp) (all_cons ⟨by omega,g1⟩ (all_cons ⟨by omega,g2⟩ eJ))).bind ?_;rintro _ ⟨d,rfl,hf⟩;refine Ok.cond (λh=>by cases h) λ_=>?_;refine dJ (dZ (by omega)) (dJ (dZ (by omega)) ?_);have ho:yz ss w5 w6 [w3,w4] d o6 []:=⟨⟨by omega,g5⟩,⟨by omega,g6⟩,by simp,all_cons ⟨by omega,g3⟩ (all_cons ⟨by omega,g4⟩ eJ),hf,by simp,λi x hx=>by simp_all⟩;rw[yd (by simp) (all_cons (by omega) (all_cons (by omega) eJ))];simp only[oBS];rw[show List.append [] w5=w5 from rfl,show List.append [] w6=w6 from rfl,ui hs ho];exact Ok.ret ⟨_,_,_,_,_,rfl,ho⟩
 ·rintro _ ⟨ck,rn,ins,d,os,rfl,ho⟩;exact Ok.ret ⟨_,_,_,_,_,_,rfl,ho,d6⟩
theorem C5{ss:List Int}{r o n:Int}(h1:0<=r)(h2:ss[r.toNat]?=some n)(h3:0<=o)(h4:o<n):fT ss r o=some (true,()):=by
 refine ff ?_;have hl:=(oGS h2).1;refine dJ (oDT h1) (dJ (oDT (show r<(ss.length:Int) by omega)) (dJ (oDT h3) ?_));obtain⟨j,rfl⟩:∃j:Nat,r=j:=⟨r.toNat,by omega⟩;rw[dP];simp;rw[show dN ss j=some n from h2];exact Ok.ret (by simp_all)
theorem oP{ss:List Int}{c:DCn}(h:Pr ss c):gZ ss c.1 c.2.1 c.2.2.1 c.2.2.2=some (true,()):=by
 refine ff ?_;unfold gZ
 rcases h with⟨h1,h2,h3,_⟩|⟨h1,h2,h3,n,h4,h5,h6⟩
 ·rw[h2,h3]
  rcases h1 with h1|h1<;>rw[h1]<;>exact Ok.ret rfl
 ·rw[h1,h2,C5 h3 h4 h5 h6];exact Ok.ret rfl
theorem Ey{ss:List Int}{d:List (List DCn)}{os:List DOp}(h:fH ss d os):kN ss d os=some (true,()):=by
 obtain⟨h1,h2,h3,h4,h5⟩:=h
 have e0:ej iK NN (ss,d,(d.length:Int),0,d,os,())=some (.inr (ss,d,(d.length:Int),(d.length:Int),false,d,os,())):=by
  refine sU (st:=λk=>(ss,d,(d.length:Int),(k:Int),d,os,())) (n:=d.length) (by unfold NN;omega) ?_ ?_
  ·intro k hk;unfold iK;dsimp only
   (with_reducible refine dI (λZ9=>?_) λZ9=>?_)
   ·rw[dP];delta dR;refine Ok.get (by omega) λx hx=>?_;have Z2:=h2 x (dT hx)
    have e:ej iL NN (ss,d,(d.length:Int),(k:Int),x,(x.length:Int),0,d,os,())=some (.inr (ss,d,(d.length:Int),(k:Int),x,(x.length:Int),(x.length:Int),false,d,os,())):=by
     refine sU (st:=λj=>(ss,d,(d.length:Int),(k:Int),x,(x.length:Int),(j:Int),d,os,())) (n:=x.length) (by unfold NN;omega) ?_ ?_
     ·intro j hj;unfold iL
      (with_reducible refine dI (λZ9=>?_) λZ9=>?_)
      ·rw[dP];refine Ok.get (by omega) λy hy=>?_;rw[oP (h3 x (dT hx) y (dT hy))]
       (simp (disch:=omega) only [dS,ek,dW,dV])
       exact Ok.ret rfl
      ·omega
     ·unfold iL
      (with_reducible refine dI (λZ9=>?_) λZ9=>?_)
      ·omega
      ·exact Ok.ret rfl
    rw[e];dsimp only
    (simp (disch:=omega) only [dS,ek,dW,dV])
    exact Ok.ret rfl
   ·omega
  ·unfold iK;dsimp only
   (with_reducible refine dI (λZ9=>?_) λZ9=>?_)
   ·omega
   ·exact Ok.ret rfl
 refine ff ?_;unfold kN;delta dR
 try dsimp only
 rw[e0];exact Ok.ret rfl
theorem copy17_ok{d:List (List DCn)}{os:List DOp}(h1:d.length<=1000)(h2:∀x∈d,x.length<=1000)(h3:os.length<=1000):gd d os=some (d,os,()):=by
 have e:ej is NN (d,(d.length:Int),0,d,os,(),(),[],os,())=some (d,(d.length:Int),(d.length:Int),false,d,os,(),(),d,os,()):=by
  have:=sU (f:=is) (N:=NN) (st:=λk=>(d,(d.length:Int),(k:Int),d,os,(),(),d.take k,os,())) (n:=d.length) (t:=(d,(d.length:Int),(d.length:Int),false,d,os,(),(),d,os,())) (by unfold NN;omega) ?_ ?_
  ·exact this
  ·intro k hk;unfold is
   (with_reducible refine dI (λZ9=>?_) λZ9=>?_)
   ·rw[dP];refine Ok.get (by omega) λx hx=>?_;have:=h2 x (dT hx);refine dJ (dZ (by omega)) (dJ (dZ (by simp;omega)) ?_)
    (simp (disch:=omega) only [dS,ek,dW,dV])
    refine Ok.ret ?_;rw[List.take_add_one,hx];rfl
   ·omega
  ·unfold is
   (with_reducible refine dI (λZ9=>?_) λZ9=>?_)
   ·omega
   ·rw[List.take_length];exact Ok.ret rfl
 refine ff ?_;refine dJ (dZ (by omega)) ?_;rw[show List.append [] os=os from rfl];delta dR
 try dsimp only
 rw[e];exact Ok.ret rfl
theorem DY{us:List DOu}(h1:us.length<=1000)(h2:∀x∈us,x.2.2.length<=1000):jv us=some (us,()):=by
 have e:ej ir NN (us,(us.length:Int),0,[],())=some (us,(us.length:Int),(us.length:Int),false,us,()):=by
  have:=sU (f:=ir) (N:=NN) (st:=λk=>(us,(us.length:Int),(k:Int),us.take k,())) (n:=us.length) (t:=(us,(us.length:Int),(us.length:Int),false,us,())) (by unfold NN;omega) ?_ ?_
  ·exact this
  ·intro k hk;unfold ir
   (with_reducible refine dI (λZ9=>?_) λZ9=>?_)
   ·rw[dP];refine Ok.get (by omega) λx hx=>?_;have:=h2 x (dT hx);refine dJ (dZ (by omega)) (dJ (dZ (by simp;omega)) ?_)
    (simp (disch:=omega) only [dS,ek,dW,dV])
    refine Ok.ret ?_;rw[List.take_add_one,hx];rfl
   ·omega
  ·unfold ir
   (with_reducible refine dI (λZ9=>?_) λZ9=>?_)
   ·omega
   ·rw[List.take_length];exact Ok.ret rfl
 refine ff ?_;unfold jv;delta dR
 try dsimp only
 rw[e];exact Ok.ret rfl
theorem DX{ss ck rn:List Int}{ins:List (List Int)}{d:List (List DCn)}{os:List DOp}{us:List DOu}(h:yz ss ck rn ins d os us):m8 ck rn ins d os us=some (ck,rn,ins,d,os,us,()):=by
 have h1:=h.clock.1;have h2:=h.rand.1;have h3:=h.ilen;have h4:=h.ulen;have h5:=h.files.olen;have h6:=h.files.dlen;refine ff ?_;refine dJ (dZ (by omega)) (dJ (dZ (by omega)) ?_)
 rw[yd (by omega) (λx hx=>by have:=(h.inp x hx).1;omega),copy17_ok (by omega) (λx hx=>by have:=h.files.flen x hx;omega) (by omega),DY (by omega) (λx hx=>by
  have ⟨i,hi⟩:=List.getElem?_of_mem hx;have:=(h.outs i x hi).2.2.2.1
  omega)]
 exact Ok.ret rfl
theorem JP:sb=some ([-1,-1,-1,-1],[[],[],[],[]],()):=by kernel_rfl
structure iI (ow:List Int)(qs:List (List Int)):Prop where
 olen:ow.length=4
 qlen:qs.length=4
 owner:∀o∈ow,-1<=o/\o<=3
 queue:∀q∈qs,q.Nodup/\∀t∈q,0<=t/\t<=3
theorem JH:∀{n:Nat}{q:List Int},q.Nodup->(∀t∈q,0<=t/\t<n)->q.length<=n:=by
 intro n
 induction n with
 |zero=>
  intro q _ h
  cases q with
  |nil=>simp
  |cons x q=>have:=h x (by simp);omega
 |succ n ih=>
  intro q hq h;have h1:(q.erase (n:Int)).Nodup:=hq.erase _
  have h2:∀t∈q.erase (n:Int),0<=t/\t<n:=λt ht=>by
   have hm:=(hq.mem_erase_iff).1 ht;have:=h t hm.2;omega
  have h3:=ih h1 h2;have h4:=List.length_erase (a:=(n:Int)) (l:=q);split at h4<;>omega
theorem iI.qlen4{ow:List Int}{qs:List (List Int)}(h:iI ow qs){q:List Int}(hq:q∈qs):q.length<=4:=JH (h.queue q hq).1 λt ht=>by have:=(h.queue q hq).2 t ht;omega
theorem O8:iI [-1,-1,-1,-1] [[],[],[],[]]:=⟨rfl,rfl,by decide,by decide⟩
theorem Mo{code:List DIn}{ss bs:List Int}{dt:List (List Int)}{key:Int}{ck rn:List Int}{ins:List (List Int)}{d:List (List DCn)}{os:List DOp}{us:List DOu}(hp:mY code ss dt)(hl:LV bs ss)(ho:yz ss ck rn ins d os us):
 Ok (oD code ss dt bs key ck rn ins d os us) λr=>∃cs ts,r=(code,ss,dt,bs,key,cs,hJ,ts,ck,rn,ins,d,os,us,[-1,-1,-1,-1],[[],[],[],[]],(),[-1,-1,-1,-1],0,())/\MOk 0 ss bs cs hJ ts:=by
 refine(KY hp hl).bind ?_;rintro _ ⟨cs,ts,rfl,hm⟩;rw[ui hp.sz ho,Ey ho.files,DX ho,JP];exact Ok.ret ⟨cs,ts,rfl,hm⟩
theorem PC.len{K:Int->Prop}{i:Nat}{x:DLn}(h:PC K i x):x.2.2.length<=4:=by
 rcases h with⟨_,_,h⟩|⟨_,_,_,h,_⟩
 ·simp_all
 ·omega
theorem Kr{K:Int->Prop}{cs:List DCe}{ls:List DLn}(h:kM K cs ls):nn cs ls=some (cs,ls,()):=by
 obtain⟨h1,h2,h3,h4,_⟩:=h
 have e:ej iz NN (ls,(ls.length:Int),0,cs,ls,(),(),cs,[],())=some (ls,(ls.length:Int),(ls.length:Int),false,cs,ls,(),(),cs,ls,()):=by
  have:=sU (f:=iz) (N:=NN) (st:=λk=>(ls,(ls.length:Int),(k:Int),cs,ls,(),(),cs,ls.take k,())) (n:=ls.length) (t:=(ls,(ls.length:Int),(ls.length:Int),false,cs,ls,(),(),cs,ls,())) (by unfold NN;omega) ?_ ?_
  ·exact this
  ·intro k hk;unfold iz
   (with_reducible refine dI (λZ9=>?_) λZ9=>?_)
   ·rw[dP];refine Ok.get (by omega) λx hx=>?_;have:=(h4 k x hx).len;refine dJ (dZ (by omega)) (dJ (dZ (by simp;omega)) ?_)
    (simp (disch:=omega) only [dS,ek,dW,dV])
    refine Ok.ret ?_;rw[List.take_add_one,hx];rfl
   ·omega
  ·unfold iz
   (with_reducible refine dI (λZ9=>?_) λZ9=>?_)
   ·omega
   ·rw[List.take_length];exact Ok.ret rfl
 refine ff ?_;unfold nn;refine dJ (dZ (by omega)) ?_;rw[show List.append [] cs=cs from rfl];delta dR
 try dsimp only
 rw[e];exact Ok.ret rfl
theorem tF{n key:Int}{ss bs:List Int}{cs:List DCe}{ls:List DLn}{ts:List DTh}(h:MOk n ss bs cs ls ts):iy bs key cs ls ts=some (bs,key,cs,ls,ts,()):=by
 obtain⟨h1,h2,h3,h4⟩:=h;have hb:=h1.2.1;have WF:=h1.1.2.1
 have e:ej iw NN (ts,(ts.length:Int),0,bs,key,cs,ls,ts,(),0,(),(),(),bs,key,cs,ls,[],())=some (ts,(ts.length:Int),(ts.length:Int),false,bs,key,cs,ls,ts,(),0,(),(),(),bs,key,cs,ls,ts,()):=by
  have:=sU (f:=iw) (N:=NN) (st:=λk=>(ts,(ts.length:Int),(k:Int),bs,key,cs,ls,ts,(),0,(),(),(),bs,key,cs,ls,ts.take k,())) (n:=ts.length) (t:=(ts,(ts.length:Int),(ts.length:Int),false,bs,key,cs,ls,ts,(),0,(),(),(),bs,key,cs,ls,ts,())) (by unfold NN;omega) ?_ ?_
  ·exact this
  ·intro k hk;unfold iw;dsimp only
   (with_reducible refine dI (λZ9=>?_) λZ9=>?_)
   ·rw[dP];refine Ok.get (by omega) λx hx=>?_;have:=(h4 x (dT hx)).len;refine dJ (dZ (by omega)) (dJ (dZ (by simp;omega)) ?_)
    (simp (disch:=omega) only [dS,ek,dW,dV])
    refine Ok.ret ?_;rw[List.take_add_one,hx];rfl
   ·omega
  ·unfold iw
   (with_reducible refine dI (λZ9=>?_) λZ9=>?_)
   ·omega
   ·rw[List.take_length];exact Ok.ret rfl
 refine ff ?_;unfold iy;refine dJ (dZ (by omega)) ?_;rw[Kr h2,show List.append [] bs=bs from rfl];delta dR;simp;rw[e];exact Ok.ret rfl
theorem rj{α:Type}{l:List α}{i:Nat}{f:α->α}{a:α}(h:l[i]?=some a):(List.modify l i f)[i]?=some (f a):=by simp_all
theorem iS{α:Type}(l:List α)(i:Nat)(f g:α->α):List.modify (List.modify l i f) i g=List.modify l i λa=>g (f a):=by
 apply List.ext_getElem?
 grind
theorem MOk.thread{n:Int}{ss bs:List Int}{cs:List DCe}{ls:List DLn}{ts:List DTh}(h:MOk n ss bs cs ls ts){i:Nat}{t:DTh}{f:DTh->DTh}(ht:ts[i]?=some t)(hf:yy (RK bs ss) n (f t)):MOk n ss bs cs ls (List.modify ts i f):=by
 refine⟨h.lay,h.mem,by rw[oLM];exact h.tlen,λx hx=>?_⟩;have ⟨j,hj⟩:=List.getElem?_of_mem hx;by_cases hij:i=j
 ·simp_all
 ·simp[hij]at hj
  have:ts[j]?=some x:=by simp_all
  exact h.thr x (dT this)
theorem MP{n key:Int}{ss bs:List Int}{cs:List DCe}{ls:List DLn}{ts:List DTh}(h:MOk n ss bs cs ls ts)(i:Int):Ok (mA bs key cs ls ts i) λr=>r.1=true->0<=i/\i<4/\∀t,ts[i.toNat]?=some t->t.2.2.2.2.1≠-1:=by
 unfold mA;delta dR;have:=h.tlen
 (with_reducible refine dI (λZ9=>?_) λZ9=>?_)
 ·exact Ok.ret (λh=>by cases h)
 ·(with_reducible refine dI (λZY=>?_) λZY=>?_)
  ·exact Ok.ret (λh=>by cases h)
  ·refine Ok.nat (by omega) λj hj=>?_;refine Ok.get (by omega) λt ht=>?_;subst hj
   (with_reducible refine dI (λhcc=>?_) λhcc=>?_)
   ·(with_reducible refine dI (λW'=>?_) λW'=>?_)
    ·exact Ok.ret (λ_=>⟨by omega,by omega,λt' ZF=>by
      rw[oTN,ht]at ZF
      injection ZF with ZF
      rw[<- ZF]
      exact W'⟩)
    ·exact Ok.ret (λh=>by cases h)
   ·exact Ok.ret (λh=>by cases h)
theorem M2{n W7:Int}{ts:List DTh}{i:Nat}{t:DTh}(ht:ts[i]?=some t):fA i W7 ts=some (2,List.modify ts i λt=>(4,t.2.1,t.2.2.1,t.2.2.2.1,t.2.2.2.2.1,t.2.2.2.2.2.1,W7,0),()):=by
 refine ff ?_;have hl:=(oGS ht).1;refine Ok.get hl λ_ _=>?_;refine Ok.get (by simp_all) λ_ _=>?_;refine Ok.get (by simp_all) λ_ _=>?_;rw[iS,iS];exact Ok.ret rfl
theorem yy.ended{K:Int->Prop}{n W7:Int}{t:DTh}(h:yy K n t)(hw:0<=W7/\W7<=6):yy K n (4,t.2.1,t.2.2.1,t.2.2.2.1,t.2.2.2.2.1,t.2.2.2.2.2.1,W7,0):=
 ⟨⟨by omega,by omega⟩,h.len,h.regs,h.pc,h.count,h.handler,h.saved,hw,⟨by simp_all,by simp_all⟩⟩
theorem ux{ss bs:List Int}{key a:Int}(h:LV bs ss)(ha:0<=a/\a<=65535):Ok (ft bs key ss a) λr=>(r.2.2.1=true->∃b n,0<=r.1/\bs[r.1.toNat]?=some b/\ss[r.1.toNat]?=some n/\0<=r.2.1/\r.2.1<n/\a=b+r.2.1):=by
 obtain⟨hs,hl,hr⟩:=h;have WF:=hs.2.1;unfold ft;delta dR
 try dsimp only
 obtain⟨t,e,ht⟩:=gX (f:=eU) (n:=NN) (s:=(ss,a,bs,(bs.length:Int),0,bs,key,0,0,())) (P:=λs'=>∃k:Nat,s'=(ss,a,bs,(bs.length:Int),(k:Int),bs,key,0,0,())/\k<=bs.length)
  (R:=λr=>(∃x y,r=.inl (true,x,y,())/\∃b n,0<=x/\bs[x.toNat]?=some b/\ss[x.toNat]?=some n/\0<=y/\y<n/\a=b+y)\/∃z,r=.inr z) (m:=λs'=>(s'.2.2.2.1-s'.2.2.2.2.1).toNat) ⟨0,rfl,by omega⟩ (by unfold NN;dsimp only;omega) (by
   rintro _ ⟨k,rfl,hk⟩;unfold eU;dsimp only
   (with_reducible refine dI (λZ9=>?_) λZ9=>?_)
   ·rw[dP];simp only[oBS];obtain⟨b,hb⟩:∃b,bs[k]?=some b:=⟨_,oGE (by omega)⟩;obtain⟨y,hy⟩:∃y,ss[k]?=some y:=⟨_,oGE (by omega)⟩;have WK:=hs.2.2 y (dT hy);have Vg:=hr k (by omega);unfold zw at Vg;rw[fC hb,fC hy]at Vg;rw[show dN bs k=some b from hb];rw[show dN ss k=some y from hy];simp only[oBS];rw[dS (x:=b+y) (by omega) (by omega)];by_cases h1:a>=b
    ·by_cases h2:a<b+y
     ·simp only[h1,h2,decide_true,oCT];rw[dS (x:=a-b) (by omega) (by omega)];exact Ok.ret (.inl ⟨_,_,rfl,b,y,by omega,by rw[oTN];exact hb,by rw[oTN];exact hy,by omega,by omega,by omega⟩)
     ·simp only[h1,h2,decide_true,decide_false,oCT,oCF]
      (simp (disch:=omega) only [dS,ek,dW,dV])
      exact Ok.ret ⟨⟨k+1,rfl,by omega⟩,by dsimp only;omega⟩
    ·simp only[h1,decide_false,oCF]
     (simp (disch:=omega) only [dS,ek,dW,dV])
     exact Ok.ret ⟨⟨k+1,rfl,by omega⟩,by dsimp only;omega⟩
   ·exact Ok.ret (.inr ⟨_,rfl⟩))
 rw[e]
 rcases ht with⟨x,y,rfl,WJ⟩|⟨z,rfl⟩
 ·exact Ok.ret λ_=>WJ
 ·exact Ok.ret λh=>by cases h
theorem zY{ss:List Int}{r o:Int}:Ok (fT ss r o) λx=>x.1=true->0<=r/\0<=o/\∃n,ss[r.toNat]?=some n/\o<n:=by
 unfold fT;delta dR
 (with_reducible refine dI (λZ9=>?_) λZ9=>?_)
 ·(with_reducible refine dI (λZY=>?_) λZY=>?_)
  ·(with_reducible refine dI (λhcc=>?_) λhcc=>?_)
   ·refine Ok.nat (by omega) λj hj=>?_;refine Ok.get (by omega) λn hn=>?_;exact Ok.ret λh=>⟨by omega,by omega,n,by simp_all,of_decide_eq_true h⟩
   ·exact Ok.ret λh=>by cases h
  ·exact Ok.ret λh=>by cases h
 ·exact Ok.ret λh=>by cases h
theorem xo{ss bs:List Int}{key tag v n:Int}{back:Bool}(h:LV bs ss)(hv:W16 v)(hn:W16 n):Ok (fE bs key ss tag v n back) λr=>∃t x e,r=(t,x,e,())/\nQ (RK bs ss) (t,x)/\0<=e/\e<=6/\(e=0->x<512):=by
 have hz:∀e:Int,0<e->e<=6->∃t x e',((0:Int),(0:Int),e,())=(t,x,e',())/\nQ (RK bs ss) (t,x)/\0<=e'/\e'<=6/\(e'=0->x<512):=λe h1 h2=>⟨0,0,e,rfl,lM (by decide),by omega,h2,by omega⟩;obtain⟨v0,v1⟩:=hv;obtain⟨n0,n1⟩:=hn;unfold fE
 (with_reducible refine dI (λZ9=>?_) λZ9=>?_)
 ·exact Ok.ret (hz 3 (by decide) (by decide))
 ·rw[dW (x:=v) (by omega) (by omega),dW (x:=n) (by omega) (by omega)];refine(ux h ⟨v0,v1⟩).bind ?_;rintro⟨r,o,ok,_⟩ YQ;dsimp only at YQ⊢
  (with_reducible refine dI (λZY=>?_) λZY=>?_)
  ·exact Ok.ret (hz 4 (by decide) (by decide))
  ·obtain⟨b,z,hr0,hb,hzz,ho0,ho1,_⟩:=YQ ZY;have hz2:=h.1.2.2 z (dT hzz);refine Ok.bind (P:=λx=>∃o',x=(ss,bs,key,0,0,r,o',())/\-70000<=o'/\o'<=70000) ?_ ?_
   ·refine Ok.cond (λ_=>?_) λ_=>?_
    all_goals
     (simp (disch:=omega) only [dS,ek,dW,dV])
     exact Ok.ret ⟨_,rfl,by omega,by omega⟩
   rintro _ ⟨o',rfl,Xe,Q1⟩;dsimp only;refine zY.bind ?_;rintro⟨q,_⟩ hin;dsimp only at hin⊢
   (with_reducible refine dI (λhcc=>?_) λhcc=>?_)
   ·exact Ok.ret (hz 4 (by decide) (by decide))
   ·obtain⟨_,g1,m,g2,g3⟩:=hin hcc;refine Ok.nat hr0 λj hj=>?_;subst hj;rw[oTN]at hb g2;have hjl:=(oGS hb).1;have R4:=h.2.2 j hjl;unfold zw at R4;rw[fC hb,fC g2]at R4;rw[show dN bs j=some b from hb];simp only[oBS];rw[dS (x:=b+o') (by omega) (by omega),ek (x:=b+o') (by omega) (by omega)];exact Ok.ret ⟨_,_,_,rfl,⟨by dsimp only;omega,by dsimp only;omega,by dsimp only;omega,by dsimp only;omega,λ_=>⟨j,b,m,hb,g2,by dsimp only;omega,by dsimp only;omega⟩⟩,by decide,by decide,λ_=>by omega⟩
theorem kM.line{K:Int->Prop}{cs:List DCe}{ls:List DLn}(h:kM K cs ls){i:Nat}{x:DLn}{f:DLn->DLn}(hx:ls[i]?=some x)(hf:PC K i (f x))(hg:PT cs (f x)):kM K cs (List.modify ls i f):=by
 have key:∀(j:Nat) y,(List.modify ls i f)[j]?=some y->PC K j y/\PT cs y:=λj y hy=>by
  by_cases hij:i=j
  ·simp_all
  ·simp[hij]at hy;exact⟨h.lines j y (by simp_all),h.coh j y (by simp_all)⟩
 exact⟨h.clen,h.cells,by rw[oLM];exact h.llen,λj y hy=>(key j y hy).1,λj y hy=>(key j y hy).2⟩
theorem GS{cs xs:List DCe}{lo k:Nat}(h1:lo+4<=cs.length)(h3:4<=xs.length)(hk:k<lo\/lo+4<=k):(qa cs lo 4 xs)[k]?=cs[k]?:=by
 unfold qa;rcases hk with hk|hk
 ·rw[List.append_assoc,List.getElem?_append_left (by rw[oLT];omega),List.getElem?_take_of_lt hk]
 ·rw[List.getElem?_append_right (by simp;omega),List.getElem?_drop];congr 1;simp;omega
theorem Iz{K:Int->Prop}{cs xs:List DCe}{lo n:Nat}(h1:cs.length=512)(h2:lo+n<=512)(h3:n<=xs.length)(hc:∀c∈cs,nQ K c)(hx:∀c∈xs,nQ K c):(qa cs lo n xs).length=512/\∀c∈qa cs lo n xs,nQ K c:=by
 unfold qa;refine⟨?_,λc hh=>?_⟩
 ·simp;omega
 ·simp only[List.mem_append]at hh
  rcases hh with(hh|hh)|hh
  ·exact hc c (List.mem_of_mem_take hh)
  ·exact hx c (List.mem_of_mem_take hh)
  ·exact hc c (List.mem_of_mem_drop hh)
theorem Gn{K:Int->Prop}{cs:List DCe}{ls:List DLn}{a:Int}(h:kM K cs ls)(ha:0<=a/\a<512):Ok (jZ a cs ls) λr=>∃i Z3 Z0 x,r=(i,Z3,Z0,())/\kM K Z3 Z0/\Z0[i]?=some x/\x.1=a/4/\x.2.2.length=4:=by
 obtain⟨a0,a1⟩:=ha;obtain⟨h1,h2,h3,h4,h5⟩:=id h;unfold jZ;rw[Int.tdiv_eq_ediv_of_nonneg a0,dS (x:=a/4) (by omega) (by omega)];dsimp only;rw[Int.tmod_eq_emod_of_nonneg (show 0<=a/4 by omega)];refine Ok.nat (by omega) λi hi=>?_
 have YL:i<ls.length:=by omega
 obtain⟨x,hx⟩:∃x,ls[i]?=some x:=⟨_,oGE YL⟩;have hg:dN ls i=some x:=hx;have hL:=h4 i x hx;simp only[hg,oBS]
 (with_reducible refine dI (λZ9=>?_) λZ9=>?_)
 ·refine Ok.ret ⟨i,cs,ls,x,rfl,h,hx,Z9,?_⟩
  rcases hL with⟨g1,_,_⟩|⟨_,_,_,g,_⟩
  ·omega
  ·exact g
 ·refine Ok.bind (P:=λr=>∃Z3,r=(a/4,i,Z3,ls,())/\Z3.length=512/\(∀c∈Z3,nQ K c)/\∀(j:Nat) y,ls[j]?=some y->PT Z3 y) ?_ ?_
  ·refine Ok.cond (λhd=>?_) λ_=>Ok.ret ⟨cs,rfl,h1,h2,h5⟩
   rcases hL with⟨_,g,_⟩|⟨g1,g2,g3,g4,g5⟩
   ·rw[g]at hd;cases hd
   ·rw[dS (x:=x.1*4) (by omega) (by omega)];refine Ok.nat (by omega) λq hq=>?_;refine dJ (by unfold ge;simp;omega) ?_
    try simp only[hg,oBS]
    rw[g4,h1]
    have QU:Nat.min 4 (Nat.sub 512 q)=4:=by
     show min 4 (512-q)=4;omega
    rw[QU];refine dJ (by unfold ge;simp;omega) ?_;refine dJ rfl ?_;obtain⟨s1,s2⟩:=Iz (lo:=q) (n:=4) h1 (by omega) (by omega) h2 g5;refine Ok.ret ⟨_,rfl,s1,s2,λj y hy=>?_⟩;by_cases hij:j=i
    ·subst hij;rw[hx]at hy
     injection hy with hy
     subst hy;exact .inr (.inl hd)
    ·rcases h5 j y hy with g|g|g
     ·exact .inl g
     ·exact .inr (.inl g)
     ·rcases h4 j y hy with⟨g',_,_⟩|⟨y1,y2,y3,y4,y5⟩
      ·exact .inl g'
      ·refine .inr (.inr λo ho=>?_);rw[GS (by omega) (by omega) (by omega)];exact g o ho
  rintro _ ⟨Z3,rfl,c1,c2,c3⟩;dsimp only;rw[dS (x:=a/4*4) (by omega) (by omega),dS (x:=a/4+1) (by omega) (by omega),dS (x:=(a/4+1)*4) (by omega) (by omega)];simp only[hg,oBS];refine Ok.get (by rw[oLM];exact YL) λ_ _=>?_;refine Ok.nat (by omega) λq hq=>?_;refine Ok.nat (by omega) λq2 YD=>?_;refine dJ (by unfold ge;simp;omega) ?_
  have hw:(mZ Z3 q (Nat.sub q2 q)).length=4:=by
   unfold mZ;rw[oLT,List.length_drop];show min (q2-q) _=4;omega
  refine dJ (dZ (by omega)) ?_;refine Ok.get (by rw[oLM,oLM];exact YL) λ_ _=>?_;rw[iS,iS,show List.append [] (mZ Z3 q (Nat.sub q2 q))=mZ Z3 q (Nat.sub q2 q)from rfl];have Zn:kM K Z3 ls:=⟨c1,c2,h3,h4,c3⟩;refine Ok.ret ⟨i,Z3,_,_,rfl,Zn.line hx (.inr ⟨by dsimp only;omega,by dsimp only;omega,by dsimp only;omega,hw,λc hc=>c2 c ?_⟩) (.inr (.inr λo ho=>?_)),rj hx,rfl,hw⟩
  ·dsimp only at hc;unfold mZ at hc;exact List.mem_of_mem_drop (List.mem_of_mem_take hc)
  ·dsimp only;unfold mZ;rw[hq,oTN,List.getElem?_take_of_lt (show o<Nat.sub q2 q by show o<q2-q;omega),List.getElem?_drop]
theorem JR{K:Int->Prop}{cs:List DCe}{ls:List DLn}{a:Int}(h:kM K cs ls)(ha:0<=a/\a<512):Ok (ni a cs ls) λr=>∃t v Z3 Z0,r=(t,v,Z3,Z0,())/\nQ K (t,v)/\kM K Z3 Z0:=by
 refine(Gn h ha).bind ?_;rintro _ ⟨i,Z3,Z0,x,rfl,hm,hx,Z2,X7⟩;have hg:dN Z0 i=some x:=hx;simp[hg];rw[Int.tmod_eq_emod_of_nonneg ha.1];refine Ok.nat (by omega) λj hj=>?_;refine Ok.get (by omega) λ_ _=>?_;refine Ok.get (by omega) λc hc=>?_
 have ZH:nQ K c:=by
  rcases hm.lines i x hx with⟨_,_,g⟩|⟨_,_,_,_,g⟩
  ·omega
  ·exact g c (dT hc)
 exact Ok.ret ⟨_,_,_,_,rfl,ZH,hm⟩
theorem zH{K:Int->Prop}{cs:List DCe}{ls:List DLn}{a t v:Int}(h:kM K cs ls)(ha:0<=a/\a<512)(hc:nQ K (t,v)):Ok (jY a t v cs ls) λr=>∃Z3 Z0,r=(Z3,Z0,())/\kM K Z3 Z0:=by
 refine(Gn h ha).bind ?_;rintro _ ⟨i,Z3,Z0,x,rfl,hm,hx,Z2,X7⟩;have hg:dN Z0 i=some x:=hx;have YL:=(oGS hx).1;simp[hg];rw[Int.tmod_eq_emod_of_nonneg ha.1];refine Ok.nat (by omega) λj hj=>?_;refine Ok.get (by omega) λ_ _=>?_;refine Ok.get (by omega) λ_ _=>?_;refine Ok.get (by simp_all) λ_ _=>?_;rw[iS];refine Ok.ret ⟨_,_,rfl,hm.line hx ?_ (.inr (.inl rfl))⟩
 rcases hm.lines i x hx with⟨_,_,g⟩|⟨g1,g2,g3,g4,g5⟩
 ·omega
 ·exact .inr ⟨g1,g2,g3,by simp_all,iT g5 λ_ _=>hc⟩
theorem oB(x:Int):W16 (wk .u16 x):=by
 unfold wk;rw[wy];exact⟨by omega,by omega⟩
theorem Mr{ss bs:List Int}{key t v t' v':Int}(h:LV bs ss)(hv:W16 v)(YG:W16 v'):Ok (jW bs key ss t v t' v') λ_=>True:=by
 obtain⟨v0,v1⟩:=hv;obtain⟨u0,u1⟩:=YG;unfold jW;rw[dW (x:=v) (by omega) (by omega),dW (by omega) (by omega)];refine(ux h ⟨v0,v1⟩).bind ?_;rintro⟨r,o,ok,_⟩ _;refine(ux h ⟨u0,u1⟩).bind ?_;rintro⟨r',o',ok',_⟩ _;cases ok<;>cases ok'<;>exact Ok.ret trivial
theorem Fd(b:Bool):jx b=some (0,(bif b then 1 else 0),()):=by cases b<;>rfl
theorem O5{op b c:Int}(hb:W16 b)(hc:W16 c):Ok (jV op b c) λr=>∃v e,r=(0,v,e,())/\W16 v/\0<=e/\e<=6:=by
 obtain⟨b0,b1⟩:=hb;obtain⟨c0,c1⟩:=hc;have ZX:∀x:Int,W16 x->Ok (some ((0:Int),x,(0:Int),())) λr=>∃v e,r=(0,v,e,())/\W16 v/\0<=e/\e<=6:=λx h=>Ok.ret ⟨x,0,rfl,h,by decide,by decide⟩;have z5:Ok (some ((0:Int),(0:Int),(5:Int),())) λr=>∃v e,r=(0,v,e,())/\W16 v/\0<=e/\e<=6:=Ok.ret ⟨0,5,rfl,⟨by decide,by decide⟩,by decide,by decide⟩;have hw:=oB;unfold jV
 (with_reducible refine dI (λZ9=>?_) λZ9=>?_)
 ·exact ZX _ (oB _)
 (with_reducible refine dI (λZY=>?_) λZY=>?_)
 ·exact ZX _ (oB _)
 (with_reducible refine dI (λhcc=>?_) λhcc=>?_)
 ·exact ZX _ (oB _)
 have hq:∀X:Option (Int×Int×Int×Unit),c≠0->(X=(bif(op==6)then(bif(c != 0)then some ((0:Int),wk .u16 (Int.tdiv b c),(0:Int),())else none)else bif(c != 0)then some ((0:Int),Int.tmod b c,(0:Int),())else none))->Ok X λr=>∃v e,r=(0,v,e,())/\W16 v/\0<=e/\e<=6:=by
  rintro _ hne rfl;refine Ok.cond (λ_=>dJ (by rw[bne_iff_ne];exact hne) (ZX _ (oB _))) λ_=>dJ (by rw[bne_iff_ne];exact hne) (ZX _ ?_);rw[Int.tmod_eq_emod_of_nonneg b0];have h1:=Int.emod_nonneg b hne;have h2:=Int.emod_lt_of_pos b (show 0<c by omega);exact⟨h1,by omega⟩
 (with_reducible refine dI (λW'=>?_) λW'=>?_)
 ·(with_reducible refine dI (λXZ=>?_) λXZ=>?_)
  ·exact z5
  ·simp_all
 (with_reducible refine dI (λW'=>?_) λW'=>?_)
 ·(with_reducible refine dI (λXZ=>?_) λXZ=>?_)
  ·exact z5
  ·simp_all
 (with_reducible refine dI (λVt=>?_) λVt=>?_)
 ·exact ZX _ (hw _)
 (with_reducible refine dI (λVt=>?_) λVt=>?_)
 ·exact ZX _ (hw _)
 (with_reducible refine dI (λVt=>?_) λVt=>?_)
 ·exact ZX _ (hw _)
 (with_reducible refine dI (λVt=>?_) λVt=>?_)
 ·rw[Int.tmod_eq_emod_of_nonneg c0];refine Ok.nat (by omega) λj hj=>?_;exact ZX _ (hw _)
 (with_reducible refine dI (λVt=>?_) λVt=>?_)
 ·rw[Int.tmod_eq_emod_of_nonneg c0];refine Ok.nat (by omega) λj hj=>ZX _ ?_;show W16 (Int.fdiv b (2 ^ (min j 16)));have hp:(0:Int)<2 ^ (min j 16):=Int.pow_pos (by decide);rw[Int.fdiv_eq_ediv_of_nonneg _ (by omega)];exact⟨Int.ediv_nonneg b0 (by omega),by have:=Int.ediv_le_self (2 ^ (min j 16)) b0;omega⟩
 rw[Fd];refine ZX _ ?_;cases decide (b<c)
 ·exact⟨by decide,by decide⟩
 ·exact⟨by decide,by decide⟩
def MX(K:Int->Prop)(r:Int×Int×Int×Unit):Prop:=∃t v e,r=(t,v,e,())/\nQ K (t,v)/\0<=e/\e<=6
theorem qv{K:Int->Prop}{t v e:Int}(h:nQ K (t,v))(h0:0<=e)(h1:e<=6):Ok (some (t,v,e,())) (MX K):=Ok.ret ⟨t,v,e,rfl,h,h0,h1⟩
theorem wH{K:Int->Prop}{v:Int}(h:W16 v):nQ K (0,v):=lM h
theorem DS{K:Int->Prop}(b:Bool):nQ K (0,bif b then 1 else 0):=wH (by cases b<;>exact⟨by decide,by decide⟩)
theorem sC{K:Int->Prop}:nQ K (0,0):=wH ⟨by decide,by decide⟩
theorem P8{ss bs:List Int}{key op t v t' v':Int}(h:LV bs ss)(hb:nQ (RK bs ss) (t,v))(hc:nQ (RK bs ss) (t',v')):Ok (q9 bs key ss op t v t' v') (MX (RK bs ss)):=by
 obtain⟨t0,t2,v0,v1,_⟩:=hb;obtain⟨u0,u2,w0,w1,_⟩:=hc;dsimp only at t0 t2 v0 v1 u0 u2 w0 w1;obtain⟨_,eN,n1,n2,rfl,WP,hn2,hn3⟩:=O5 (op:=op) (b:=v) (c:=v') ⟨v0,v1⟩ ⟨w0,w1⟩;obtain⟨_,eA,a1,a2,a3,rfl,Xq,Xr,ha3,_⟩:=xo (key:=key) (tag:=t) (back:=false) h (v:=v) (n:=v') ⟨v0,v1⟩ ⟨w0,w1⟩;obtain⟨_,eB,b1,b2,b3,rfl,hb1,hb2,U0,_⟩:=xo (key:=key) (tag:=t') (back:=false) h (v:=v') (n:=v) ⟨w0,w1⟩ ⟨v0,v1⟩;obtain⟨_,eC,c1,c2,c3,rfl,ZP,ZH,Sx,_⟩:=xo (key:=key) (tag:=t) (back:=true) h (v:=v) (n:=v') ⟨v0,v1⟩ ⟨w0,w1⟩;obtain⟨⟨p1,p2,p3,p4,ok,_⟩,eP,_⟩:=Mr (key:=key) (t:=t) (t':=t') h (v:=v) (v':=v') ⟨v0,v1⟩ ⟨w0,w1⟩;unfold q9
 (with_reducible refine dI (λZ9=>?_) λZ9=>?_)
 ·exact qv sC (by decide) (by decide)
 (with_reducible refine dI (λZY=>?_) λZY=>?_)
 ·exact qv sC (by decide) (by decide)
 cases h14:(op==14)with
 |true=>
  simp only[oCT,Fd,oBS];exact qv (DS _) (by decide) (by decide)
 |false=>
  simp only[oCF,eN,eA,eB,eC,eP,oBS]
  rcases(show t=0\/t=1\/t=2 by omega)with rfl|rfl|rfl<;>rcases(show t'=0\/t'=1\/t'=2 by omega)with rfl|rfl|rfl
  all_goals
   cases h3:(op==3)<;>cases h4:(op==4)<;>cases h13:(op==13)<;>simp only[Int.reduceBEq,oCT,oCF,oBS,h3,h4,h13,Fd,eN,eA,eB,eC,eP,BEq.rfl]
  all_goals first
   |exact qv (wH WP) hn2 hn3
   |exact qv Xq Xr ha3
   |exact qv hb1 hb2 U0
   |exact qv ZP ZH Sx
   |exact qv sC (by decide) (by decide)
   |(cases ok<;>first
    |exact qv sC (by decide) (by decide)
    |exact qv (DS _) (by decide) (by decide)
    |exact qv (wH (oB _)) (by decide) (by decide))
theorem Kw{l:List Int}{k:Int}(h:DOk l k):Ok (ma l k) λr=>∃t b s k',r=(t,b,s,l,k',())/\0<=t/\t<4/\0<=b/\b<=63/\DOk l k':=by
 unfold ma
 (with_reducible refine fk (by omega) (by omega) (by omega) (λv0 k0 a0 b0 d0=>?_);try dsimp only)
 (with_reducible refine fk (by omega) (by omega) (by omega) (λv1 k1 a1 b1 d1=>?_);try dsimp only)
 (with_reducible refine Ok.nat (by omega) (λj1 hj1=>?_);try dsimp only)
 have hm:∀x∈[(0:Int),1,2,3,7,63],0<=x/\x<=63:=by simp_all
 refine Ok.get (by simp;omega) λx hx=>?_;refine Ok.get (by simp;omega) λy hy=>?_;have WK:=hm y (dT hy)
 (with_reducible refine fk (by omega) (by omega) (by omega) (λv2 k2 a2 b2 d2=>?_);try dsimp only)
 exact Ok.ret ⟨_,_,_,_,rfl,a0,b0,WK.1,WK.2,d2⟩
def ib:List DTh->Int->List Int
 | [],_=>[]
 |t::ts,i=>if t.1=1 then i::ib ts (i+1)else ib ts (i+1)
theorem Ay(a b:List DTh)(i:Int):ib (a++b) i=ib a i++ib b (i+a.length):=by
 induction a generalizing i with
 |nil=>simp[ib]
 |cons t a ih=>
  simp[ib,ih];rw[show i+1+(a.length:Int)=i+((a.length+1:Nat):Int) by omega];split<;>rfl
theorem zQ(a:List DTh)(i:Int):(ib a i).length<=a.length:=by
 induction a generalizing i with
 |nil=>simp[ib]
 |cons t a ih=>
  simp[ib];have:=ih (i+1);split<;>simp<;>omega
theorem He{a:List DTh}{i x:Int}(h:x∈ib a i):i<=x/\x<i+a.length/\∃t,a[(x-i).toNat]?=some t/\t.1=1:=by
 induction a generalizing i with
 |nil=>simp[ib]at h
 |cons t a ih=>
  simp[ib]at h
  have key:x∈ib a (i+1)->i<=x/\x<i+((t::a).length:Int)/\∃t',(t::a)[(x-i).toNat]?=some t'/\t'.1=1:=by
   intro h;have ⟨h1,h2,t',h3,h4⟩:=ih h;refine⟨by omega,by simp;omega,t',?_,h4⟩;rw[show(x-i).toNat=(x-(i+1)).toNat+1 by omega,List.getElem?_cons_succ];exact h3
  split at h
  ·rename_i ht;rcases List.mem_cons.1 h with rfl|h
   ·exact⟨by omega,by simp;omega,t,by simp,ht⟩
   ·exact key h
  ·exact key h
theorem Lv{ts:List DTh}(h:ts.length<=1000):lV ts=some (ib ts 0,()):=by
 have e:ej gU NN (ts,(ts.length:Int),0,[],())=some (ts,(ts.length:Int),(ts.length:Int),false,ib ts 0,()):=by
  have:=sU (f:=gU) (N:=NN) (st:=λk=>(ts,(ts.length:Int),(k:Int),ib (ts.take k) 0,())) (n:=ts.length) (t:=(ts,(ts.length:Int),(ts.length:Int),false,ib ts 0,())) (by unfold NN;omega) ?_ ?_
  ·exact this
  ·intro k hk;unfold gU;dsimp only
   (with_reducible refine dI (λZ9=>?_) λZ9=>?_)
   ·rw[dP];simp;obtain⟨x,hx⟩:∃x,ts[k]?=some x:=⟨_,oGE hk⟩;rw[show dN ts k=some x from hx];simp;have hlen:=zQ (ts.take k) 0;rw[oLT]at hlen
    have W3:ib (ts.take (k+1)) 0=ib (ts.take k) 0++(if x.1=1 then[(k:Int)]else[]):=by
     rw[List.take_add_one,hx,Ay];congr 1;rw[oLT,show 0+((min k ts.length:Nat):Int)=(k:Int) by omega];simp only[Option.toList,ib]
    refine Ok.bind (P:=(·=(ts,(ts.length:Int),(k:Int),ib (ts.take (k+1)) 0,()))) ?_ ?_
    ·(with_reducible refine dI (λZY=>?_) λZY=>?_)
     ·refine dJ (dZ (by simp;omega)) ?_;rw[W3,oIP ZY];exact Ok.ret rfl
     ·rw[W3,oIN ZY,List.append_nil];exact Ok.ret rfl
    ·rintro _ rfl
     (simp (disch:=omega) only [dS,ek,dW,dV])
     exact Ok.ret rfl
   ·omega
  ·unfold gU;dsimp only
   (with_reducible refine dI (λZ9=>?_) λZ9=>?_)
   ·omega
   ·rw[List.take_length];exact Ok.ret rfl
 refine ff ?_;unfold lV;delta dR
 try dsimp only
 rw[e];exact Ok.ret rfl
theorem ye{ow:List Int}{qs:List (List Int)}(h:iI ow qs):lk ow qs=some (ow,qs,()):=by
 have hq4:∀q∈qs,q.length<=4:=λq hq=>h.qlen4 hq;obtain⟨h1,h2,h3,h4⟩:=h
 have e:ej it NN (qs,(qs.length:Int),0,ow,qs,(),(),ow,[],())=some (qs,(qs.length:Int),(qs.length:Int),false,ow,qs,(),(),ow,qs,()):=by
  have:=sU (f:=it) (N:=NN) (st:=λk=>(qs,(qs.length:Int),(k:Int),ow,qs,(),(),ow,qs.take k,())) (n:=qs.length) (t:=(qs,(qs.length:Int),(qs.length:Int),false,ow,qs,(),(),ow,qs,())) (by unfold NN;omega) ?_ ?_
  ·exact this
  ·intro k hk;unfold it
   (with_reducible refine dI (λZ9=>?_) λZ9=>?_)
   ·rw[dP];refine Ok.get (by omega) λx hx=>?_;have:=hq4 x (dT hx);refine dJ (dZ (by omega)) (dJ (dZ (by simp;omega)) ?_)
    (simp (disch:=omega) only [dS,ek,dW,dV])
    refine Ok.ret ?_;rw[List.take_add_one,hx];rfl
   ·omega
  ·unfold it
   (with_reducible refine dI (λZ9=>?_) λZ9=>?_)
   ·omega
   ·rw[List.take_length];exact Ok.ret rfl
 refine ff ?_;refine dJ (dZ (by omega)) ?_;rw[show List.append [] ow=ow from rfl];delta dR
 try dsimp only
 rw[e];exact Ok.ret rfl
theorem E9{ow:List Int}{qs:List (List Int)}{lock t:Int}(h:iI ow qs):Ok (jw ow qs lock t) λr=>∃Y' qs' n b,r=(Y',qs',n,b,())/\iI Y' qs'/\-1<=n/\n<=3:=by
 unfold jw;rw[ye h];obtain⟨h1,h2,h3,h4⟩:=id h;refine Ok.bind (P:=λr=>∃b,r=(lock,b,(),(),ow,qs,())/\(b=false->0<=lock/\lock<4)) ?_ ?_
 ·(with_reducible refine dI (λZ9=>?_) λZ9=>?_)
  ·exact Ok.ret ⟨true,rfl,λh=>by cases h⟩
  ·(with_reducible refine dI (λZY=>?_) λZY=>?_)
   ·exact Ok.ret ⟨true,rfl,λh=>by cases h⟩
   ·refine Ok.nat (by omega) λj hj=>?_;refine Ok.get (by omega) λx hx=>?_;exact Ok.ret ⟨_,rfl,λ_=>⟨by omega,by omega⟩⟩
 rintro _ ⟨b,rfl,hb⟩;dsimp only;refine Ok.cond (λ_=>Ok.ret ⟨_,_,_,_,rfl,h,by omega,by omega⟩) λhbf=>?_;obtain⟨l0,l1⟩:=hb hbf;obtain⟨j,rfl⟩:∃j:Nat,lock=j:=⟨lock.toNat,by omega⟩;obtain⟨o,ho⟩:∃o,ow[j]?=some o:=⟨_,oGE (by omega)⟩;obtain⟨q,hq⟩:∃q,qs[j]?=some q:=⟨_,oGE (by omega)⟩;have go:dN ow j=some o:=ho;have gq:dN qs j=some q:=hq;have gm:∀f:Int->Int,dN (List.modify ow j f) j=some (f o):=λf=>rj ho;have gm2:∀f g:Int->Int,dN (List.modify (List.modify ow j f) j g) j=some (g (f o)):=λf g=>rj (rj ho);delta dR;simp only[dP,oBS,go,gq,gm,gm2];have Xs:iI (List.modify ow j λ_=>-1) qs:=⟨by rw[oLM];exact h1,h2,iT h3 λ_ _=>⟨by omega,by omega⟩,h4⟩
 (with_reducible refine dI (λhcc=>?_) λhcc=>?_)
 ·obtain⟨x,hx⟩:∃x,q[0]?=some x:=⟨_,oGE (by omega)⟩;have gx:dN q 0=some x:=hx;have X7:=(h4 q (dT hq)).2 x (dT hx);simp only[gx,oBS];refine dJ (by unfold ge;simp;omega) ?_;refine Ok.ret ⟨_,_,_,_,rfl,⟨by rw[oLM,oLM];exact h1,by rw[oLM];exact h2,iT (iT h3 λ_ _=>⟨by omega,by omega⟩) λ_ _=>⟨by omega,by omega⟩,iT h4 λ_ _=>?_⟩,by omega,by omega⟩;obtain⟨q1,q2⟩:=h4 q (dT hq);unfold mZ;have hs:(List.take (Nat.sub q.length 1) (List.drop 1 q)).Sublist q:=(List.take_sublist _ _).trans (List.drop_sublist _ _);exact⟨q1.sublist hs,λt ht=>q2 t (hs.subset ht)⟩
 ·exact Ok.ret ⟨_,_,_,_,rfl,Xs,by omega,by omega⟩
theorem Hu{q:List Int}{x:Int}(h:q.Nodup)(hx:x ∉ q):(q++[x]).Nodup:=by
 grind
theorem Od{ow:List Int}{qs:List (List Int)}{t:Int}(h:iI ow qs):Ok (ng ow qs t) λr=>∃Y' qs' nx,r=(Y',qs',nx,())/\iI Y' qs'/\nx.length<=4/\∀x∈nx,0<=x/\x<=3:=by
 unfold ng;rw[ye h];delta dR;simp only[oBS];have h2:=h.qlen;refine Ok.loop (P:=λs'=>∃k:Nat,∃qs',s'=(t,(qs.length:Int),(k:Int),(),(),ow,qs',())/\k<=qs.length/\iI ow qs') (R:=λr=>∃a b c qs',r=(t,a,b,c,(),(),ow,qs',())/\iI ow qs') (m:=λs'=>(s'.2.1-s'.2.2.1).toNat) ⟨0,qs,rfl,by omega,h⟩ (by unfold NN;dsimp only;omega) ?_ ?_
 ·rintro _ ⟨k,qs',rfl,hk,hl⟩;obtain⟨g1,g2,g3,g4⟩:=id hl;unfold pX;dsimp only
  (with_reducible refine dI (λZ9=>?_) λZ9=>?_)
  ·obtain⟨q,hq⟩:∃q,qs'[k]?=some q:=⟨_,oGE (by omega)⟩;have gq:dN qs' k=some q:=hq;obtain⟨q1,q2⟩:=g4 q (dT hq);have q3:=hl.qlen4 (dT hq);delta dR;simp only[dP,oBS,gq]
   refine Ok.loop (P:=λs'=>∃j:Nat,∃l,s'=(t,(k:Int),(qs.length:Int),(k:Int),k,(q.length:Int),(j:Int),(),(),ow,qs',l,())/\j<=q.length/\l.Sublist (q.take j))
    (R:=λr=>∃a b c d l,r=(t,(k:Int),(qs.length:Int),(k:Int),a,b,c,d,(),(),ow,qs',l,())/\l.Sublist q) (m:=λs'=>(s'.2.2.2.2.2.1-s'.2.2.2.2.2.2.1).toNat) ⟨0,[],rfl,by omega,by simp⟩ (by unfold NN;dsimp only;omega) ?_ ?_
   ·rintro _ ⟨j,l,rfl,hj,Z'⟩;unfold pY;dsimp only
    (with_reducible refine dI (λZY=>?_) λZY=>?_)
    ·obtain⟨x,hx⟩:∃x,q[j]?=some x:=⟨_,oGE (by omega)⟩;have gx:dN q j=some x:=hx;simp only[dP,oBS,gq,gx];have SX:=Z'.length_le;rw[oLT]at SX
     have R6:q.take (j+1)=q.take j++[x]:=by rw[List.take_add_one,hx];rfl
     refine Ok.bind (P:=λr=>∃l',r=(t,(k:Int),(qs.length:Int),(k:Int),k,(q.length:Int),(j:Int),(),(),ow,qs',l',())/\l'.Sublist (q.take (j+1))) ?_ ?_
     ·refine Ok.cond (λ_=>dJ (dZ (by simp;omega)) (Ok.ret ⟨_,rfl,?_⟩)) λ_=>Ok.ret ⟨l,rfl,?_⟩
      ·rw[R6];exact Z'.append (List.Sublist.refl _)
      ·rw[R6];exact Z'.trans (List.sublist_append_left _ _)
     ·rintro _ ⟨l',rfl,hs⟩;dsimp only
      (simp (disch:=omega) only [dS,ek,dW,dV])
      exact Ok.ret ⟨⟨j+1,l',rfl,by omega,hs⟩,by dsimp only;omega⟩
    ·exact Ok.ret ⟨_,_,_,_,l,rfl,Z'.trans (List.take_sublist _ _)⟩
   ·rintro _ ⟨a,b,c,d,l,rfl,hs⟩;dsimp only;simp only[dP,oBS,gq]
    (simp (disch:=omega) only [dS,ek,dW,dV])
    exact Ok.ret ⟨⟨k+1,_,rfl,by omega,⟨g1,by rw[oLM];exact g2,g3,iT g4 λ_ _=>⟨q1.sublist hs,λt ht=>q2 t (hs.subset ht)⟩⟩⟩,by dsimp only;omega⟩
  ·exact Ok.ret ⟨_,_,_,qs',rfl,hl⟩
 ·rintro _ ⟨a,b,c,qs',rfl,hl⟩;dsimp only
  refine Ok.loop (P:=λs'=>∃k:Nat,∃Y' qs' nx,s'=(t,4,(k:Int),(),(),Y',qs',nx,())/\k<=4/\nx.length<=k/\iI Y' qs'/\∀x∈nx,0<=x/\x<=3) (R:=λr=>∃a b c Y' qs' nx,r=(t,a,b,c,(),(),Y',qs',nx,())/\iI Y' qs'/\nx.length<=4/\∀x∈nx,0<=x/\x<=3) (m:=λs'=>(4-s'.2.2.1).toNat)
   ⟨0,ow,qs',[],by rw[hl.olen];rfl,by omega,by simp,hl,eJ⟩ (by unfold NN;dsimp only;omega) ?_ ?_
  ·rintro _ ⟨k,Y',qs',nx,rfl,hk,Yi,YI,XN⟩;unfold pW;dsimp only
   (with_reducible refine dI (λZ9=>?_) λZ9=>?_)
   ·refine(E9 YI).bind ?_;rintro _ ⟨ow2,qs2,n,bb,rfl,Yg,n0,n1⟩;dsimp only;refine Ok.bind (P:=λr=>∃R8,r=(t,4,(k:Int),(),(),Y',qs',R8,ow2,qs2,())/\R8.length<=k+1/\∀x∈R8,0<=x/\x<=3) ?_ ?_
    ·refine Ok.cond (λ_=>?_) λ_=>Ok.ret ⟨nx,rfl,by omega,XN⟩
     (with_reducible refine dI (λZY=>?_) λZY=>?_)
     ·refine dJ (dZ (by simp;omega)) (Ok.ret ⟨_,rfl,by rw[fi];simp;omega,gE XN (all_cons ⟨by omega,n1⟩ eJ)⟩)
     ·exact Ok.ret ⟨nx,rfl,by omega,XN⟩
    ·rintro _ ⟨R8,rfl,WP,hn2⟩;dsimp only
     (simp (disch:=omega) only [dS,ek,dW,dV])
     exact Ok.ret ⟨⟨k+1,_,_,_,rfl,by omega,WP,Yg,hn2⟩,by dsimp only;omega⟩
   ·exact Ok.ret ⟨_,_,_,_,_,_,rfl,YI,by omega,XN⟩
  ·rintro _ ⟨a,b,c,Y',qs',nx,rfl,YI,hn4,XN⟩;exact Ok.ret ⟨_,_,_,rfl,YI,hn4,XN⟩
theorem M6{ow:List Int}{qs:List (List Int)}{lock t:Int}(h:iI ow qs)(ht:0<=t/\t<=3):Ok (ne ow qs lock t) λr=>∃Y' qs' n,r=(Y',qs',n,())/\iI Y' qs':=by
 unfold ne;rw[ye h];simp only[oBS];obtain⟨h1,h2,h3,h4⟩:=id h;refine Ok.bind (P:=λr=>∃b,r=(lock,t,b,ow,qs,(),(),ow,qs,())/\(b=false->0<=lock/\lock<4)) ?_ ?_
 ·(with_reducible refine dI (λZ9=>?_) λZ9=>?_)
  ·exact Ok.ret ⟨true,rfl,λh=>by cases h⟩
  ·(with_reducible refine dI (λZY=>?_) λZY=>?_)
   ·exact Ok.ret ⟨true,rfl,λh=>by cases h⟩
   ·refine Ok.nat (by omega) λj hj=>?_;refine Ok.get (by omega) λx hx=>?_;exact Ok.ret ⟨_,rfl,λ_=>⟨by omega,by omega⟩⟩
 rintro _ ⟨b,rfl,hb⟩;dsimp only;refine Ok.cond (λ_=>Ok.ret ⟨_,_,_,rfl,h⟩) λhbf=>?_;obtain⟨l0,l1⟩:=hb hbf;delta dR
 try dsimp only
 obtain⟨r,e,hr⟩:=gX (f:=mB) (n:=NN) (s:=(lock,t,qs,(qs.length:Int),0,ow,qs,(),(),ow,qs,())) (P:=λs'=>∃k:Nat,s'=(lock,t,qs,(qs.length:Int),(k:Int),ow,qs,(),(),ow,qs,())/\k<=qs.length/\∀(i:Nat) q,i<k->qs[i]?=some q->t ∉ q)
  (R:=λr=>r=.inl (2,ow,qs,())\/((∃a b c,r=.inr (lock,t,a,b,c,false,ow,qs,(),(),ow,qs,()))/\∀q∈qs,t ∉ q)) (m:=λs'=>(s'.2.2.2.1-s'.2.2.2.2.1).toNat) ⟨0,rfl,by omega,λi q hi=>by omega⟩ (by unfold NN;dsimp only;omega) (by
   rintro _ ⟨k,rfl,hk,ZN⟩;unfold mB;dsimp only
   (with_reducible refine dI (λZ9=>?_) λZ9=>?_)
   ·obtain⟨q,hq⟩:∃q,qs[k]?=some q:=⟨_,oGE (by omega)⟩;have gq:dN qs k=some q:=hq;have q3:=h.qlen4 (dT hq);delta dR;simp only[dP,oBS,gq]
    obtain⟨r,e,hr⟩:=gX (f:=mC) (n:=NN) (s:=(lock,t,qs,(qs.length:Int),(k:Int),q,(q.length:Int),0,ow,qs,(),(),ow,qs,())) (P:=λs'=>∃j:Nat,s'=(lock,t,qs,(qs.length:Int),(k:Int),q,(q.length:Int),(j:Int),ow,qs,(),(),ow,qs,())/\j<=q.length/\∀(i:Nat) x,i<j->q[i]?=some x->x≠t)
     (R:=λr=>r=.inl (2,ow,qs,())\/((∃a b c,r=.inr (lock,t,qs,(qs.length:Int),(k:Int),a,b,c,false,ow,qs,(),(),ow,qs,()))/\t ∉ q)) (m:=λs'=>(s'.2.2.2.2.2.2.1-s'.2.2.2.2.2.2.2.1).toNat) ⟨0,rfl,by omega,λi x hi=>by omega⟩ (by unfold NN;dsimp only;omega) (by
      rintro _ ⟨j,rfl,hj,hne⟩;unfold mC;dsimp only
      (with_reducible refine dI (λZY=>?_) λZY=>?_)
      ·obtain⟨x,hx⟩:∃x,q[j]?=some x:=⟨_,oGE (by omega)⟩;have gx:dN q j=some x:=hx;simp only[dP,oBS,gx]
       (with_reducible refine dI (λhcc=>?_) λhcc=>?_)
       ·exact Ok.ret (.inl rfl)
       ·(simp (disch:=omega) only [dS,ek,dW,dV])
        exact Ok.ret ⟨⟨j+1,rfl,by omega,GD hne hx hcc⟩,by dsimp only;omega⟩
      ·refine Ok.ret (.inr ⟨⟨_,_,_,rfl⟩,λhm=>?_⟩);obtain⟨i,hi⟩:=List.getElem?_of_mem hm
       exact hne i t (by have:=(oGS hi).1;omega) hi rfl)
    rw[e];rcases hr with rfl|⟨⟨a,b,c,rfl⟩,S4⟩
    ·exact Ok.ret (.inl rfl)
    ·dsimp only
     (simp (disch:=omega) only [dS,ek,dW,dV])
     refine Ok.ret ⟨⟨k+1,rfl,by omega,λi q' hi T2=>?_⟩,by dsimp only;omega⟩;by_cases hik:i=k
     ·simp_all
     ·exact ZN i q' (by omega) T2
   ·refine Ok.ret (.inr ⟨⟨_,_,_,rfl⟩,λq hq=>?_⟩);obtain⟨i,hi⟩:=List.getElem?_of_mem hq
    exact ZN i q (by have:=(oGS hi).1;omega) hi)
 rw[e];rcases hr with rfl|⟨⟨a,b,c,rfl⟩,S4⟩
 ·exact Ok.ret ⟨_,_,_,rfl,h⟩
 ·dsimp only;obtain⟨j,rfl⟩:∃j:Nat,lock=j:=⟨lock.toNat,by omega⟩;obtain⟨o,ho⟩:∃o,ow[j]?=some o:=⟨_,oGE (by omega)⟩;obtain⟨q,hq⟩:∃q,qs[j]?=some q:=⟨_,oGE (by omega)⟩;have go:dN ow j=some o:=ho;have gq:dN qs j=some q:=hq;simp only[dP,oBS,go,gq]
  (with_reducible refine dI (λW'=>?_) λW'=>?_)
  ·exact Ok.ret ⟨_,_,_,rfl,⟨by rw[oLM];exact h1,h2,iT h3 λ_ _=>⟨by omega,ht.2⟩,h4⟩⟩
  ·have q3:=h.qlen4 (dT hq);refine dJ (dZ (by simp;omega)) (dJ (by simp) (Ok.ret ⟨_,_,_,rfl,⟨h1,by rw[oLM];exact h2,h3,iT h4 λ_ _=>⟨?_,?_⟩⟩⟩))
   ·exact Hu (h4 q (dT hq)).1 (S4 q (dT hq))
   ·exact gE (h4 q (dT hq)).2 (all_cons ht eJ)
theorem fe{α:Type}{l:List α}{i:Nat}{a:α}(h:l[i]?=some a)(f:α->α):List.modify l i f=l.set i (f a):=by
 apply List.ext_getElem?
 grind
theorem iD{α:Type}{l:List α}{i:Nat}(h:i<l.length)(a:α):dN (l.set i a) i=some a:=by
 show(l.set i a)[i]?=some a
 simp_all
theorem nY{α:Type}{l:List α}{i:Nat}(h:i<l.length)(a:α)(f:α->α):List.modify (l.set i a) i f=l.set i (f a):=by
 rw[fe (iD h a),List.set_set]
theorem lI{α:Type}{P:α->Prop}{l:List α}{i:Nat}{a:α}(h:∀x∈l,P x)(ha:P a):∀x∈l.set i a,P x:=by
 grind
theorem MOk.set{n:Int}{ss bs:List Int}{cs Z3:List DCe}{ls Z0:List DLn}{ts:List DTh}(h:MOk n ss bs cs ls ts)(hm:kM (RK bs ss) Z3 Z0){i:Nat}{t:DTh}(ht:yy (RK bs ss) n t):MOk n ss bs Z3 Z0 (ts.set i t):=
 ⟨h.lay,hm,by rw[List.length_set];exact h.tlen,lI h.thr ht⟩
def QE(code:List DIn)(t:DTh)(s:Int)(t':DTh):Prop:=
 (s=-1/\t'.1=1/\((t'.2.2.2.1=t.2.2.2.1/\t'.2.2.1=t.2.2.1+1)\/t'.2.2.2.1=t.2.2.2.1+1))\/(s=2/\t'.1=4/\t'.2.2.2.1=t.2.2.2.1)\/
  (s=1/\t'.1=2/\t'.2.2.2.1=t.2.2.2.1/\∃i:DIn,1<=t'.2.2.1/\code[(t'.2.2.1-1).toNat]?=some i/\i.1=23)
def FB(n key:Int)(code:List DIn)(ss bs:List Int)(ts:List DTh)(i:Nat)(t:DTh)(r:Int×List Int×Int×List DCe×List DLn×List DTh×Unit):Prop:=
 ∃s Z3 Z0 t',r=(s,bs,key,Z3,Z0,ts.set i t',())/\kM (RK bs ss) Z3 Z0/\yy (RK bs ss) n t'/\QE code t s t'
theorem mK{n key:Int}{code:List DIn}{ss bs:List Int}{ts:List DTh}{i:Nat}{t t':DTh}{Z3:List DCe}{Z0:List DLn}(hm:kM (RK bs ss) Z3 Z0)(ht:yy (RK bs ss) n t')(h1:t'.1=1)
 (h:(t'.2.2.2.1=t.2.2.2.1/\t'.2.2.1=t.2.2.1+1)\/t'.2.2.2.1=t.2.2.2.1+1):Ok (some (-1,bs,key,Z3,Z0,ts.set i t',())) (FB n key code ss bs ts i t):=Ok.ret ⟨_,_,_,_,rfl,hm,ht,.inl ⟨rfl,h1,h⟩⟩
theorem mb{n key W7:Int}{code:List DIn}{ss bs:List Int}{ts:List DTh}{i:Nat}{t:DTh}{Z3:List DCe}{Z0:List DLn}(hm:kM (RK bs ss) Z3 Z0)(ht:yy (RK bs ss) n t)(hw:0<=W7/\W7<=6):
 Ok (some (2,bs,key,Z3,Z0,ts.set i (4,t.2.1,t.2.2.1,t.2.2.2.1,t.2.2.2.2.1,t.2.2.2.2.2.1,W7,0),())) (FB n key code ss bs ts i t):=Ok.ret ⟨_,_,_,_,rfl,hm,ht.ended hw,.inr (.inl ⟨rfl,rfl,rfl⟩)⟩
theorem gW(op:Int):kS op=some (m0 op||op==22||op==24,()):=by
 unfold kS;rw[xF]
 grind
set_option maxHeartbeats 4000000 in
theorem O4{n key:Int}{code:List DIn}{ss bs:List Int}{d:List (List Int)}{cs:List DCe}{ls:List DLn}{ts:List DTh}{i:Nat}{t:DTh}(hp:mY code ss d)(h:MOk n ss bs cs ls ts)(ht:ts[i]?=some t)(hs:t.1=1)
 (hc:t.2.2.2.1+1<=n)(hn:n<=1099511627776):Ok (oI code ss d (i:Int) bs key cs ls ts) (FB n key code ss bs ts i t):=by
 have hok:=h.thr t (dT ht);have hm:=h.mem;obtain⟨_,hl,hr,⟨p0,p1⟩,⟨c0,c1⟩,ha,⟨s0,s1⟩,⟨r0,r1⟩,hco⟩:=id hok;obtain⟨st,rs,pc,ct,hd,sa,tr,co⟩:=t;dsimp only at *;subst hs;have YL:=(oGS ht).1;have hg:dN ts i=some (1,rs,pc,ct,hd,sa,tr,co):=ht;have e1:∀f:DTh->DTh,List.modify ts i f=ts.set i (f (1,rs,pc,ct,hd,sa,tr,co)):=λf=>fe ht f;have e2:∀x,dN (ts.set i x) i=some x:=λx=>iD YL x;have e3:∀(x:DTh)(f:DTh->DTh),List.modify (ts.set i x) i f=ts.set i (f x):=λx f=>nY YL x f
 have eT:∀W7,fA (i:Nat) W7 ts=some (2,ts.set i (4,rs,pc,ct,hd,sa,W7,0),()):=λW7=>by rw[M2 (n:=n) ht,e1]
 have mk:∀{RC:List DCe}{RA ct' RD:Int},RC.length=8->(∀c∈RC,nQ (RK bs ss) c)->0<=RA/\RA<=255->0<=ct'/\ct'<=n->-1<=RD/\RD<=255->yy (RK bs ss) n (1,RC,RA,ct',hd,RD,tr,co):=
  λh1 h2 h3 h4 h5=>⟨⟨show(0:Int)<=1 by decide,show(1:Int)<=4 by decide⟩,h1,h2,h3,h4,ha,h5,⟨r0,r1⟩,hco⟩
 unfold oI;rw[dP];delta dR;simp only[hg,oBS]
 (with_reducible refine dI (λZ9=>?_) λZ9=>?_)
 ·rw[eT 2];exact mb hm hok (by decide)
 refine Ok.nat p0 λj hj=>?_;subst hj;have Zm:=hp.clen;refine Ok.get (by omega) λx hx=>?_;obtain⟨op,A,B,C,I⟩:=x;obtain⟨⟨o0,o1⟩,⟨A0,A1,_⟩,⟨B0,B1,_⟩,⟨C0,C1,_⟩,⟨I0,I1,_⟩,QS,hsys,VB⟩:=hp.ins _ (dT hx);dsimp only at *;obtain⟨A,rfl⟩:∃k:Nat,A=k:=⟨A.toNat,by omega⟩;obtain⟨B,rfl⟩:∃k:Nat,B=k:=⟨B.toNat,by omega⟩;obtain⟨C,rfl⟩:∃k:Nat,C=k:=⟨C.toNat,by omega⟩;obtain⟨I,rfl⟩:∃k:Nat,I=k:=⟨I.toNat,by omega⟩;obtain⟨⟨ta,va⟩,gA⟩:∃c,dN rs A=some c:=⟨_,oGE (by omega)⟩;obtain⟨⟨tb,vb⟩,gB⟩:∃c,dN rs B=some c:=⟨_,oGE (by omega)⟩;obtain⟨⟨tc,vc⟩,gC⟩:∃c,dN rs C=some c:=⟨_,oGE (by omega)⟩;have cA:=hr _ (dT gA);have cB:=hr _ (dT gB);have cC:=hr _ (dT gC);have eR:∀f:DCe->DCe,List.modify rs A f=rs.set A (f (ta,va)):=λf=>fe gA f;have w1:w64 ((j:Int)+1)=(j:Int)+1:=dS (by omega) (by omega);have wI:wk .u16 (I:Int)=I:=ek (by omega) (by omega);have Ze:∀{c:DCe},nQ (RK bs ss) c->(rs.set A c).length=8/\∀x∈rs.set A c,nQ (RK bs ss) x:=λhc=>⟨by rw[List.length_set];exact hl,lI hr hc⟩;have wc:w64 (ct+1)=ct+1:=dS (by omega) (by omega);simp only[dP,hg,gA,gB,oBS,w1,wI]
 rcases(show op=0\/op=1\/op=2\/op=15\/op=16\/op=17\/op=18\/op=19\/op=20\/op=21\/op=22\/op=23\/op=24\/(3<=op/\op<=14) by omega)with rfl|rfl|rfl|rfl|rfl|rfl|rfl|rfl|rfl|rfl|rfl|rfl|rfl|⟨q0,q1⟩
 all_goals try simp only[Int.reduceBEq,oCT,oCF,dP,hg,gA,gB,gC,e1,e2,e3,eR,eT,oBS,w1,wI,wc,gW,m0,Bool.or_false,Bool.or_true,Bool.or_self,bne_self_eq_false]
 ·exact mK hm (mk hl hr (by omega) (by omega) (by omega)) rfl (.inl ⟨rfl,rfl⟩)
 ·exact mK hm (mk (Ze (lM (by omega))).1 (Ze (lM (by omega))).2 (by omega) (by omega) (by omega)) rfl (.inl ⟨rfl,rfl⟩)
 ·exact mK hm (mk (Ze cB).1 (Ze cB).2 (by omega) (by omega) (by omega)) rfl (.inl ⟨rfl,rfl⟩)
 ·have hI:=QS rfl;have U1:=h.lay.2.1;obtain⟨b,hb⟩:∃b,bs[I]?=some b:=⟨_,oGE (by omega)⟩;obtain⟨z,hz⟩:∃z,ss[I]?=some z:=⟨_,oGE (by omega)⟩;have XQ:=h.lay.2.2 I (by omega);unfold zw at XQ;rw[fC hb,fC hz]at XQ;have hz2:=h.lay.1.2.2 z (dT hz);have wb:wk .u16 b=b:=ek (by omega) (by omega);have gb:dN bs I=some b:=hb;simp only[gb,wb,Int.reduceBEq,oCT,oCF,dP,hg,gA,gB,gC,e1,e2,e3,eR,eT,oBS,w1,wI,wc,gW,m0,Bool.or_false,Bool.or_true,Bool.or_self,bne_self_eq_false];have ZY:nQ (RK bs ss) (1,b):=⟨by dsimp only;omega,by dsimp only;omega,by dsimp only;omega,by dsimp only;omega,λ_=>⟨I,b,z,hb,hz,by dsimp only;omega,by dsimp only;omega⟩⟩;exact mK hm (mk (Ze ZY).1 (Ze ZY).2 (by omega) (by omega) (by omega)) rfl (.inl ⟨rfl,rfl⟩)
 ·obtain⟨_,em,t1,x1,e,rfl,ZP,Vw,Vx,Wx⟩:=xo (key:=key) (tag:=tb) (v:=vb) (n:=(I:Int)) (back:=false) h.lay ⟨cB.2.2.1,cB.2.2.2.1⟩ ⟨by omega,by omega⟩;simp only[em,oBS];by_cases hne:e=0
  ·subst hne;have wx:wk .i64 x1=x1:=dW (by have:=ZP.2.2.1;dsimp only at this;omega) (by have:=ZP.2.2.2.1;dsimp only at this;omega);obtain⟨_,el,t2,x2,Vm,VO,rfl,ZH,hm2⟩:=JR (a:=x1) hm ⟨ZP.2.2.1,Wx rfl⟩;simp only[wx,el,Int.reduceBEq,oCT,oCF,dP,hg,gA,gB,gC,e1,e2,e3,eR,eT,oBS,w1,wI,wc,gW,m0,Bool.or_false,Bool.or_true,Bool.or_self,bne_self_eq_false];exact mK hm2 (mk (Ze ZH).1 (Ze ZH).2 (by omega) (by omega) (by omega)) rfl (.inl ⟨rfl,rfl⟩)
  ·simp only[bne_iff_ne.2 hne,oCT];exact mb hm hok ⟨Vw,Vx⟩
 ·obtain⟨_,em,t1,x1,e,rfl,ZP,Vw,Vx,Wx⟩:=xo (key:=key) (tag:=ta) (v:=va) (n:=(I:Int)) (back:=false) h.lay ⟨cA.2.2.1,cA.2.2.2.1⟩ ⟨by omega,by omega⟩;simp only[em,oBS];by_cases hne:e=0
  ·subst hne;have wx:wk .i64 x1=x1:=dW (by have:=ZP.2.2.1;dsimp only at this;omega) (by have:=ZP.2.2.2.1;dsimp only at this;omega);obtain⟨_,el,Vm,VO,rfl,hm2⟩:=zH (a:=x1) (t:=tb) (v:=vb) hm ⟨ZP.2.2.1,Wx rfl⟩ cB;simp only[wx,el,Int.reduceBEq,oCT,oCF,dP,hg,gA,gB,gC,e1,e2,e3,eR,eT,oBS,w1,wI,wc,gW,m0,Bool.or_false,Bool.or_true,Bool.or_self,bne_self_eq_false];exact mK hm2 (mk hl hr (by omega) (by omega) (by omega)) rfl (.inl ⟨rfl,rfl⟩)
  ·simp only[bne_iff_ne.2 hne,oCT];exact mb hm hok ⟨Vw,Vx⟩
 ·have:=VB (by decide);exact mK hm (mk hl hr (by omega) (by omega) (by omega)) rfl (.inr rfl)
 ·have:=VB (by decide);by_cases hta:ta=0
  ·subst hta
   cases va==0 with
   |true=>
    simp only[BEq.rfl,Int.reduceBEq,oCT,oCF,dP,hg,gA,gB,gC,e1,e2,e3,eR,eT,oBS,w1,wI,wc,gW,m0,Bool.or_false,Bool.or_true,Bool.or_self,bne_self_eq_false];exact mK hm (mk hl hr (by omega) (by omega) (by omega)) rfl (.inr rfl)
   |false=>
    simp only[show(false==true)=false from rfl,Int.reduceBEq,oCT,oCF,dP,hg,gA,gB,gC,e1,e2,e3,eR,eT,oBS,w1,wI,wc,gW,m0,Bool.or_false,Bool.or_true,Bool.or_self,bne_self_eq_false];exact mK hm (mk hl hr (by omega) (by omega) (by omega)) rfl (.inr rfl)
  ·simp only[bne_iff_ne.2 hta,oCT];exact mb hm hok (by decide)
 ·have:=VB (by decide);by_cases hta:ta=0
  ·subst hta
   cases va==0 with
   |true=>
    simp only[show(true==false)=false from rfl,Int.reduceBEq,oCT,oCF,dP,hg,gA,gB,gC,e1,e2,e3,eR,eT,oBS,w1,wI,wc,gW,m0,Bool.or_false,Bool.or_true,Bool.or_self,bne_self_eq_false];exact mK hm (mk hl hr (by omega) (by omega) (by omega)) rfl (.inr rfl)
   |false=>
    simp only[BEq.rfl,Int.reduceBEq,oCT,oCF,dP,hg,gA,gB,gC,e1,e2,e3,eR,eT,oBS,w1,wI,wc,gW,m0,Bool.or_false,Bool.or_true,Bool.or_self,bne_self_eq_false];exact mK hm (mk hl hr (by omega) (by omega) (by omega)) rfl (.inr rfl)
  ·simp only[bne_iff_ne.2 hta,oCT];exact mb hm hok (by decide)
 ·have:=VB (by decide);have wj:wk .u16 ((j:Int)+1)=(j:Int)+1:=ek (by omega) (by omega);rw[wj];exact mK hm (mk (Ze (lM (by omega))).1 (Ze (lM (by omega))).2 (by omega) (by omega) (by omega)) rfl (.inr rfl)
 ·by_cases hta:ta=0
  ·subst hta;have wa:wk .i64 va=va:=dW (by have:=cA.2.2.1;dsimp only at this;omega) (by have:=cA.2.2.2.1;dsimp only at this;omega);have a0:=cA.2.2.1;dsimp only at a0;by_cases hva:va>255
   ·simp only[oDT hva,bne_self_eq_false,oCT,oCF];exact mb hm hok (by decide)
   ·simp only[oDF hva,wa,Int.reduceBEq,oCT,oCF,dP,hg,gA,gB,gC,e1,e2,e3,eR,eT,oBS,w1,wI,wc,gW,m0,Bool.or_false,Bool.or_true,Bool.or_self,bne_self_eq_false];exact mK hm (mk hl hr (by omega) (by omega) (by omega)) rfl (.inr rfl)
  ·simp only[bne_iff_ne.2 hta,oCT];exact mb hm hok (by decide)
 ·refine Ok.ret ⟨_,_,_,_,rfl,hm,⟨⟨show(0:Int)<=2 by decide,show(2:Int)<=4 by decide⟩,hl,hr,⟨by dsimp only;omega,by dsimp only;omega⟩,⟨c0,by dsimp only;omega⟩,ha,⟨s0,s1⟩,⟨r0,r1⟩,hco⟩,.inr (.inr ⟨rfl,rfl,rfl,(23,(A:Int),(B:Int),(C:Int),(I:Int)),by dsimp only;omega,?_,rfl⟩)⟩;dsimp only;rw[show(j:Int)+1-1=(j:Int) by omega,oTN];exact hx
 ·by_cases hsa:sa=-1
  ·simp only[beq_iff_eq.2 hsa,oCT];exact mb hm hok (by decide)
  ·simp only[oBF hsa,Int.reduceBEq,oCT,oCF,dP,hg,gA,gB,gC,e1,e2,e3,eR,eT,oBS,w1,wI,wc,gW,m0,Bool.or_false,Bool.or_true,Bool.or_self,bne_self_eq_false];exact mK hm (mk hl hr (by omega) (by omega) (by omega)) rfl (.inr rfl)
 ·obtain⟨_,ed,t1,x1,e,rfl,ZP,Vw,Vx⟩:=P8 (key:=key) (op:=op) h.lay cB cC;have n0:(op==0)=false:=oBF (by omega);have n1:(op==1)=false:=oBF (by omega);have n2:(op==2)=false:=oBF (by omega);have n15:(op==15)=false:=oBF (by omega);have n16:(op==16)=false:=oBF (by omega);have n17:(op==17)=false:=oBF (by omega);have n18:(op==18)=false:=oBF (by omega);have n19:(op==19)=false:=oBF (by omega);have n20:(op==20)=false:=oBF (by omega);have n21:(op==21)=false:=oBF (by omega);have n22:(op==22)=false:=oBF (by omega);have n23:(op==23)=false:=oBF (by omega);have n24:(op==24)=false:=oBF (by omega);simp only[n0,n1,n2,n15,n16,n17,n18,n19,n20,n21,n22,n23,n24,ed,Int.reduceBEq,oCT,oCF,dP,hg,gA,gB,gC,e1,e2,e3,eR,eT,oBS,w1,wI,wc,gW,m0,Bool.or_false,Bool.or_true,Bool.or_self,bne_self_eq_false];by_cases hne:e=0
  ·subst hne;simp only[n18,n19,n20,n21,n22,n24,Int.reduceBEq,oCT,oCF,dP,hg,gA,gB,gC,e1,e2,e3,eR,eT,oBS,w1,wI,wc,gW,m0,Bool.or_false,Bool.or_true,Bool.or_self,bne_self_eq_false];exact mK hm (mk (Ze ZP).1 (Ze ZP).2 (by omega) (by omega) (by omega)) rfl (.inl ⟨rfl,rfl⟩)
  ·simp only[bne_iff_ne.2 hne,oCT];exact mb hm hok ⟨Vw,Vx⟩
theorem yy.mono{K:Int->Prop}{n m:Int}{t:DTh}(h:yy K n t)(hm:n<=m):yy K m t:=⟨h.state,h.len,h.regs,h.pc,⟨h.count.1,by have:=h.count.2;omega⟩,h.handler,h.saved,h.trap,h.code⟩
theorem MOk.mono{n m:Int}{ss bs:List Int}{cs:List DCe}{ls:List DLn}{ts:List DTh}(h:MOk n ss bs cs ls ts)(hm:n<=m):MOk m ss bs cs ls ts:=⟨h.lay,h.mem,h.tlen,λt ht=>(h.thr t ht).mono hm⟩
theorem As{α:Type}{l:List α}{i:Nat}{a:α}(h:l[i]?=some a):l.set i a=l:=by
 apply List.ext_getElem?
 grind
def Qi(code:List DIn)(s:Int)(t':DTh):Prop:=
 (s=0/\t'.1=1)\/(s=2/\t'.1=4)\/(s=1/\t'.1=2/\∃i:DIn,1<=t'.2.2.1/\code[(t'.2.2.1-1).toNat]?=some i/\i.1=23)
def Oy(n key:Int)(code:List DIn)(ss bs:List Int)(ts:List DTh)(i:Nat)(r:List Int×Int×List DCe×List DLn×List DTh×Int×Int×Unit):Prop:=
 ∃s Z3 Z0 t',r=(bs,key,Z3,Z0,ts.set i t',s,0,())/\kM (RK bs ss) Z3 Z0/\yy (RK bs ss) n t'/\((s=3/\ts[i]?=some t'/\t'.1≠1)\/Qi code s t')
def PW(i:Nat)(s:Int×Int×(List DIn)×(List (Int))×(List (List (Int)))×Unit×Int×Unit×Unit×Unit×(List (Int))×Int×(List DCe)×(List DLn)×(List DTh)×Unit):Nat:=
 match s.2.2.2.2.2.2.2.2.2.2.2.2.2.2.1[i]? with
 |some t=>((s.2.1-t.2.2.2.1)*256+(255-t.2.2.1)).toNat
 |none=>0
theorem Eg{i:Nat}{a b k:Int}{code:List DIn}{ss bs:List Int}{d:List (List Int)}{cs:List DCe}{ls:List DLn}{ts:List DTh}{t:DTh}(h:ts[i]?=some t):PW i (a,b,code,ss,d,(),0,(),(),(),bs,k,cs,ls,ts,())=((b-t.2.2.2.1)*256+(255-t.2.2.1)).toNat:=by
 unfold PW
 simp_all
theorem K1{n key k:Int}{code:List DIn}{ss bs:List Int}{d:List (List Int)}{cs:List DCe}{ls:List DLn}{ts:List DTh}{i:Nat}(hp:mY code ss d)(h:MOk n ss bs cs ls ts)(Yq:0<=n)(hn:n+64<=1099511627776)(hi:i<4)(hk:1<=k/\k<=64):
 Ok (lT code ss d bs key cs ls ts (i:Int) k) (Oy (n+64) key code ss bs ts i):=by
 have Xi:=h.tlen;obtain⟨t,ht⟩:∃t,ts[i]?=some t:=⟨_,oGE (by omega)⟩;have hg:dN ts i=some t:=ht
 have YL:i<ts.length:=by omega
 have hok:=h.thr t (dT ht);unfold lT;rw[uj hp h (by omega)];simp;rw[oDF (show ¬(i:Int)<0 by omega),oDF (show ¬(i:Int)>=4 by omega),oDF (show ¬k<1 by omega),oDF (show ¬k>64 by omega)];simp only[oBS,oCF,tF h,dP,hg]
 (with_reducible refine dI (λZ9=>?_) λZ9=>?_)
 ·refine Ok.ret ⟨3,cs,ls,t,?_,h.mem,hok.mono (by omega),.inl ⟨rfl,ht,Z9⟩⟩;rw[As ht]
 have TR:=hok.count;have hpc:=hok.pc;rw[dS (x:=t.2.2.2.1+k) (by omega) (by omega)]
 refine Ok.loop (P:=λs'=>∃Z3 Z0 t',s'=((i:Int),t.2.2.2.1+k,code,ss,d,(),0,(),(),(),bs,key,Z3,Z0,ts.set i t',())/\kM (RK bs ss) Z3 Z0/\yy (RK bs ss) (n+64) t'/\t'.1=1/\t'.2.2.2.1<t.2.2.2.1+k)
  (R:=λr=>∃s Z3 Z0 t',r=(s,0,bs,key,Z3,Z0,ts.set i t',())/\kM (RK bs ss) Z3 Z0/\yy (RK bs ss) (n+64) t'/\Qi code s t') (m:=PW i) ⟨cs,ls,t,by rw[As ht],h.mem,hok.mono (by omega),Z9,by omega⟩ ?_ ?_ ?_
 ·rw[Eg ht];unfold NN;omega
 ·rintro _ ⟨Z3,Z0,t',rfl,hm,X5,hr,hlt⟩;have ZF:(ts.set i t')[i]?=some t':=iD YL t';unfold pB;dsimp only;refine(O4 hp (((h.mono (show n<=n+64 by omega)).set hm X5):MOk (n+64) ss bs Z3 Z0 (ts.set i t')) ZF hr (by omega) (by omega)).bind ?_;rintro _ ⟨s,Vm,VO,t2,rfl,hm2,Ws,Y6⟩;dsimp only;rw[List.set_set]
  (with_reducible refine dI (λZY=>?_) λZY=>?_)
  ·refine Ok.ret ⟨_,_,_,_,rfl,hm2,Ws,?_⟩
   rcases Y6 with⟨q,_⟩|⟨q1,q2,_⟩|⟨q1,q2,_,q3⟩
   ·exact absurd q ZY
   ·exact .inr (.inl ⟨q1,q2⟩)
   ·exact .inr (.inr ⟨q1,q2,q3⟩)
  ·rw[dP];simp only[oBS,iD YL];have h0:=Ws.count;have h1:=Ws.pc;have h2:=X5.pc
   rcases Y6 with⟨_,q1,q2⟩|⟨q1,_⟩|⟨q1,_⟩
   ·(with_reducible refine dI (λhcc=>?_) λhcc=>?_)
    ·exact Ok.ret ⟨_,_,_,_,rfl,hm2,Ws,.inl ⟨rfl,q1⟩⟩
    ·refine Ok.ret ⟨⟨_,_,_,rfl,hm2,Ws,q1,by omega⟩,?_⟩;rw[Eg ZF,Eg (iD YL t2)];omega
   ·omega
   ·omega
 ·rintro _ ⟨s,Z3,Z0,t',rfl,hm,X5,hs⟩;exact Ok.ret ⟨_,_,_,_,rfl,hm,X5,.inr hs⟩
def Jl(bs ss:List Int)(a:Int):Nat->Nat->Option (Int×Int)
 |0,_=>none
 |n+1,k=>if bs.getD k 0<=a/\a<bs.getD k 0+ss.getD k 0 then some ((k:Int),a-bs.getD k 0)else Jl bs ss a n (k+1)
def Lr(bs ss:List Int)(a:Int):Option (Int×Int):=Jl bs ss a bs.length 0
theorem Jj{bs ss:List Int}{a r o:Int}:∀{n k:Nat},k+n=bs.length->bs.length=ss.length->Jl bs ss a n k=some (r,o)->∃(j:Nat)(b z:Int),r=j/\o=a-b/\bs[j]?=some b/\ss[j]?=some z/\b<=a/\a<b+z:=by
 intro n
 induction n with
 |zero=>intro k _ _ h;cases h
 |succ n ih=>
  intro k hk hl h;simp only[Jl]at h;split at h
  ·rename_i hh
   injection h with h
   injection h with h1 h2
   refine⟨k,_,_,h1.symm,h2.symm,?_,?_,hh.1,hh.2⟩
   all_goals rw[Kg (by omega)];exact oGE (by omega)
  ·exact ih (by omega) hl h
theorem Jk{bs ss:List Int}{a:Int}:∀{n k:Nat},k+n=bs.length->Jl bs ss a n k=none->∀(j:Nat)(b z:Int),k<=j->bs[j]?=some b->ss[j]?=some z->¬(b<=a/\a<b+z):=by
 intro n
 induction n with
 |zero=>
  simp_all
 |succ n ih=>
  intro k hk h j b z hj hb hz;simp[Jl]at h;split at h
  ·cases h
  ·rename_i hh;by_cases hjk:j=k
   ·simp_all
   ·exact ih (by omega) h j b z (by omega) hb hz
theorem Cp{bs ss:List Int}{a r o:Int}(hl:bs.length=ss.length)(h:Lr bs ss a=some (r,o)):∃(j:Nat)(b z:Int),r=j/\o=a-b/\bs[j]?=some b/\ss[j]?=some z/\b<=a/\a<b+z:=Jj (by omega) hl h
theorem NL{bs ss:List Int}{a:Int}(h:RK bs ss a):∃r o,Lr bs ss a=some (r,o):=by
 cases e:Lr bs ss a with
 |some x=>exact⟨x.1,x.2,rfl⟩
 |none=>
  have ⟨j,b,z,h1,h2,h3,h4⟩:=h;exact absurd ⟨h3,h4⟩ (Jk (by omega) e j b z (by omega) h1 h2)
theorem zO{bs ss:List Int}{key a:Int}(h:LV bs ss)(ha:W16 a):ft bs key ss a=some (match Lr bs ss a with|some (r,o)=>(r,o,true,())|none=>(0,0,false,())):=by
 obtain⟨hs,hl,hr⟩:=h;obtain⟨a0,a1⟩:=ha;have WF:=hs.2.1
 have Ru:∀(n k N:Nat),k+n=bs.length->n<N->ej eU N (ss,a,bs,(bs.length:Int),(k:Int),bs,key,0,0,())=some (match Jl bs ss a n k with|some (r,o)=>.inl (true,r,o,())|none=>.inr (ss,a,bs,(bs.length:Int),(bs.length:Int),false,bs,key,0,0,())):=by
  intro n
  induction n with
  |zero=>
   intro k N hk hN;obtain⟨N,rfl⟩:∃M,N=M+1:=⟨N-1,by omega⟩
   obtain rfl:k=bs.length:=by omega
   have e:eU (ss,a,bs,(bs.length:Int),(bs.length:Int),bs,key,0,0,())=some (.inr (.inr (ss,a,bs,(bs.length:Int),(bs.length:Int),false,bs,key,0,0,()))):=by
    refine ff ?_;unfold eU;dsimp only
    (with_reducible refine dI (λZ9=>?_) λZ9=>?_)
    ·omega
    ·exact Ok.ret rfl
   simp only[ej,e,oBS,Jl]
  |succ n ih=>
   intro k N hk hN;obtain⟨N,rfl⟩:∃M,N=M+1:=⟨N-1,by omega⟩;obtain⟨b,hb⟩:∃b,bs[k]?=some b:=⟨_,oGE (by omega)⟩;obtain⟨z,hz⟩:∃z,ss[k]?=some z:=⟨_,oGE (by omega)⟩;have hz2:=hs.2.2 z (dT hz);have Vg:=hr k (by omega);unfold zw at Vg;rw[fC hb,fC hz]at Vg;by_cases hh:b<=a/\a<b+z
   ·have e:eU (ss,a,bs,(bs.length:Int),(k:Int),bs,key,0,0,())=some (.inr (.inl (true,(k:Int),a-b,()))):=by
     refine ff ?_;unfold eU;dsimp only;rw[oDT (show(k:Int)<bs.length by omega),dP];simp only[oCT,oBS,show dN bs k=some b from hb,show dN ss k=some z from hz];rw[oDT (show a>=b by omega),dS (x:=b+z) (by omega) (by omega),oDT hh.2,dS (x:=a-b) (by omega) (by omega)];exact Ok.ret rfl
    simp only[ej,e,oBS,Jl,fC hb,fC hz,oIP hh]
   ·have e:eU (ss,a,bs,(bs.length:Int),(k:Int),bs,key,0,0,())=some (.inl (ss,a,bs,(bs.length:Int),((k+1:Nat):Int),bs,key,0,0,())):=by
     refine ff ?_;unfold eU;dsimp only;rw[oDT (show(k:Int)<bs.length by omega),dP];simp only[oCT,oBS,show dN bs k=some b from hb,show dN ss k=some z from hz];rw[dS (x:=b+z) (by omega) (by omega)];by_cases h1:a>=b
     ·rw[oDT h1,oDF (show ¬a<b+z by omega)];simp only[oCT,oCF];rw[dS (x:=(k:Int)+1) (by omega) (by omega)];exact Ok.ret rfl
     ·rw[oDF h1];simp only[oCF];rw[dS (x:=(k:Int)+1) (by omega) (by omega)];exact Ok.ret rfl
    simp only[ej,e,oBS,Jl,fC hb,fC hz,oIN hh];exact ih (k+1) N (by omega) (by omega)
 unfold ft Lr;delta dR
 try dsimp only
 rw[show ej eU NN (ss,a,bs,(bs.length:Int),0,bs,key,0,0,())=_ from Ru bs.length 0 NN (by omega) (by unfold NN;omega)]
 cases Jl bs ss a bs.length 0 with
 |some x=>rfl
 |none=>rfl
def vB(bs ss:List Int)(key:Int)(c:DCe):DCn:=
 if c.1=0 then(0,c.2,0,0)else if c.1=2 then(2,wk .u16 (c.2-key),0,0)else match Lr bs ss c.2 with|some (r,o)=>(1,0,r,o)|none=>(1,0,-1,c.2)
theorem Af{K:Int->Prop}{bs ss:List Int}{key:Int}{c:DCe}(h:LV bs ss)(hc:nQ K c):j0 bs key ss c.1 c.2=some ((vB bs ss key c).1,(vB bs ss key c).2.1,(vB bs ss key c).2.2.1,(vB bs ss key c).2.2.2,()):=by
 have ⟨c0,c1,c2,c3,_⟩:=hc;unfold j0 vB;rw[dW (by omega) (by omega)];dsimp only;rw[zO h ⟨c2,c3⟩]
 rcases(show c.1=0\/c.1=1\/c.1=2 by omega)with e|e|e<;>rw[e]
 ·rfl
 ·simp
  cases Lr bs ss c.2 with
  |some x=>rfl
  |none=>rfl
 ·rfl
theorem nR(x:Int):W16 (wk .u16 x):=oB x
theorem Kz{bs ss:List Int}{key:Int}{c:DCe}(h:LV bs ss)(hc:nQ (RK bs ss) c):Pr ss (vB bs ss key c):=by
 have ⟨c0,c1,c2,c3,c4⟩:=hc;unfold vB
 rcases(show c.1=0\/c.1=1\/c.1=2 by omega)with e|e|e
 ·rw[oIP e];exact .inl ⟨.inl rfl,rfl,rfl,c2,c3⟩
 ·rw[oIN (by omega),oIN (by omega)];have ⟨r,o,hro⟩:=NL (c4 e);rw[hro];obtain⟨j,b,z,rfl,rfl,h1,h2,h3,h4⟩:=Cp h.2.1 hro;exact .inr ⟨rfl,rfl,by simp_all,z,by simp_all,by simp_all,by dsimp only;omega⟩
 ·rw[oIN (by omega),oIP e];exact .inl ⟨.inr rfl,rfl,rfl,nR _⟩
theorem Gx{K:Int->Prop}{bs ss:List Int}{key:Int}{c:DCe}(hc:nQ K c):(vB bs ss key c).1=c.1/\(c.1=0->(vB bs ss key c).2.1=c.2):=by
 have ⟨c0,c1,_⟩:=hc;unfold vB
 rcases(show c.1=0\/c.1=1\/c.1=2 by omega)with e|e|e
 ·simp_all
 ·rw[oIN (by omega),oIN (by omega)]
  cases Lr bs ss c.2 with
  |some x=>simp_all
  |none=>simp_all
 ·simp_all
def Hz(cs:List DCe)(ls:List DLn)(a:Int):DCe:=
 match ls[(a/4%4).toNat]? with
 |some x=>if x.1=a/4 then x.2.2.getD (a%4).toNat (0,0)else cs.getD a.toNat (0,0)
 |none=>(0,0)
theorem getD_some{α:Type}{l:List α}{k:Nat}{d x:α}(h:l[k]?=some x):l.getD k d=x:=by simp_all
theorem JO{K:Int->Prop}{cs:List DCe}{ls:List DLn}{a:Int}(h:kM K cs ls)(ha:0<=a/\a<512):nh cs ls a=some ((Hz cs ls a).1,(Hz cs ls a).2,())/\nQ K (Hz cs ls a):=by
 obtain⟨a0,a1⟩:=ha;obtain⟨h1,h2,h3,h4,_⟩:=id h;unfold nh Hz;rw[Int.tdiv_eq_ediv_of_nonneg a0,dS (x:=a/4) (by omega) (by omega)];dsimp only;rw[Int.tmod_eq_emod_of_nonneg (show 0<=a/4 by omega),Int.tmod_eq_emod_of_nonneg a0];obtain⟨i,hi⟩:∃i:Nat,a/4%4=i:=⟨(a/4%4).toNat,by omega⟩;rw[hi,dP,oTN];obtain⟨x,hx⟩:∃x,ls[i]?=some x:=⟨_,oGE (by omega)⟩;simp only[oBS,show dN ls i=some x from hx,hx];by_cases hq:x.1=a/4
 ·rcases h4 i x hx with⟨g,_,_⟩|⟨_,_,_,g4,g5⟩
  ·omega
  ·obtain⟨j,hj⟩:∃j:Nat,a%4=j:=⟨(a%4).toNat,by omega⟩;obtain⟨y,hy⟩:∃y,x.2.2[j]?=some y:=⟨_,oGE (by omega)⟩;rw[hj,dP,oTN,oIP hq,getD_some hy,beq_iff_eq.2 hq];simp only[oCT,oBS,show dN x.2.2 j=some y from hy];exact⟨trivial,g5 y (dT hy)⟩
 ·obtain⟨j,rfl⟩:∃j:Nat,a=j:=⟨a.toNat,by omega⟩;obtain⟨y,hy⟩:∃y,cs[j]?=some y:=⟨_,oGE (by omega)⟩;rw[oIN hq,oBF hq,dP,oTN,getD_some hy];simp only[oCF,oBS,show dN cs j=some y from hy];exact⟨trivial,h2 y (dT hy)⟩
def kB(call:Int):List Int:=
 if call=0\/call=8\/call=9\/call=11\/call=12 then[78]else if call=1\/call=2 then[72,80,78]else if call=3 then[78,78]else if call=4 then[72]else if call=5 then[72,78]
 else if call=10 then[78,88]else if call=13\/call=14 then[78,80,78]else[]
theorem JY(call:Int):(kB call).length<=3:=by
 unfold kB
 repeat' split
 all_goals simp
def BOk(b:ByteArray)(l:List Int):Prop:=Ap b=(l.length:Int)/\∀j:Nat,zG b j=l[j]?
theorem Qy:BOk (bytes []) []:=⟨rfl,λj=>rfl⟩
theorem Qx{a:Nat}(h:a<256):BOk (bytes [a]) [(a:Int)]:=⟨rfl,λj=>by
 match j with
 |0=>show some (((UInt8.ofNat a).toNat:Nat):Int)=some (a:Int);simp;omega
 |n+1=>rfl⟩
theorem Qw{a b:Nat}(h:a<256)(hb:b<256):BOk (bytes [a,b]) [(a:Int),(b:Int)]:=⟨rfl,λj=>by
 match j with
 |0=>show some (((UInt8.ofNat a).toNat:Nat):Int)=some (a:Int);simp;omega
 |1=>show some (((UInt8.ofNat b).toNat:Nat):Int)=some (b:Int);simp;omega
 |n+2=>rfl⟩
theorem Qv{a b c:Nat}(h:a<256)(hb:b<256)(hc:c<256):BOk (bytes [a,b,c]) [(a:Int),(b:Int),(c:Int)]:=⟨rfl,λj=>by
 match j with
 |0=>show some (((UInt8.ofNat a).toNat:Nat):Int)=some (a:Int);simp;omega
 |1=>show some (((UInt8.ofNat b).toNat:Nat):Int)=some (b:Int);simp;omega
 |2=>show some (((UInt8.ofNat c).toNat:Nat):Int)=some (c:Int);simp;omega
 |n+3=>rfl⟩
theorem uV{call:Int}(h:0<=call/\call<=15):call=0\/call=1\/call=2\/call=3\/call=4\/call=5\/call=6\/call=7\/call=8\/call=9\/call=10\/call=11\/call=12\/call=13\/call=14\/call=15:=by omega
theorem AH{call:Int}(h:0<=call/\call<=15):∃b,jT call=some (b,())/\BOk b (kB call):=by
 rcases uV h with rfl|rfl|rfl|rfl|rfl|rfl|rfl|rfl|rfl|rfl|rfl|rfl|rfl|rfl|rfl|rfl
 all_goals first
  |exact⟨_,rfl,Qy⟩
  |exact⟨_,rfl,Qx (by decide)⟩
  |exact⟨_,rfl,Qw (by decide) (by decide)⟩
  |exact⟨_,rfl,Qv (by decide) (by decide) (by decide)⟩
def Mb(k t:Int):Bool:=if k=78 then t==0 else if k=72 then t==2 else if k=80 then t==1 else true
theorem Kl(k t:Int):lm k t=some (Mb k t,()):=by
 unfold lm Mb;by_cases h1:k=78
 ·simp[h1]
 ·by_cases h2:k=72
  ·simp[h2]
  ·by_cases h3:k=80
   ·simp[h3]
   ·simp[h1,h2,h3,oBF h1,oBF h2,oBF h3]
def rq(call:Int):Int:=if call=1\/call=13 then 1 else if call=2\/call=14 then 2 else 0
theorem ud{call:Int}(h:0<=call/\call<=15):gY call=some (rq call,()):=by
 rcases uV h with rfl|rfl|rfl|rfl|rfl|rfl|rfl|rfl|rfl|rfl|rfl|rfl|rfl|rfl|rfl|rfl<;>rfl
theorem vW{call:Int}(h:0<=call/\call<=15):gw call=some (((kB call).length:Int),()):=by
 have ⟨b,e,hb⟩:=AH h;unfold gw;rw[oDF (show ¬call<0 by omega),oDF (show ¬call>15 by omega),e];simp[hb.1]
theorem Ir{bs ss:List Int}{key t v n:Int}(h:LV bs ss)(hv:W16 v)(hn:0<=n/\n<=65535):Ok (kR bs key ss t v n) λr=>∃a e,r=(a,e,())/\(e=0->t=1/\a=v/\∃(j:Nat)(b z:Int),bs[j]?=some b/\ss[j]?=some z/\b<=v/\v+n<=b+z/\v<b+z):=by
 obtain⟨v0,v1⟩:=hv;unfold kR
 (with_reducible refine dI (λZ9=>?_) λZ9=>?_)
 ·exact Ok.ret ⟨_,_,rfl,λh=>by omega⟩
 rw[dW (x:=v) (by omega) (by omega)];dsimp only;rw[zO h ⟨v0,v1⟩];simp only[oBS]
 cases e:Lr bs ss v with
 |none=>exact Ok.ret ⟨_,_,rfl,λh=>by omega⟩
 |some x=>
  obtain⟨r,o⟩:=x;obtain⟨j,b,z,rfl,rfl,h1,h2,h3,h4⟩:=Cp h.2.1 e;have hj:=(oGS h1).1;have hr:=h.2.2 j hj;unfold zw at hr;rw[fC h1,fC h2]at hr;rw[oDF (show ¬n<0 by omega),dP];simp only[oNT,oCF,oBS,show dN ss j=some z from h2];rw[dS (x:=z-(v-b)) (by omega) (by omega)]
  (with_reducible refine dI (λZY=>?_) λZY=>?_)
  ·exact Ok.ret ⟨_,_,rfl,λh=>by omega⟩
  ·exact Ok.ret ⟨_,_,rfl,λ_=>⟨Z9,dW (by omega) (by omega),j,b,z,h1,h2,h3,by omega,h4⟩⟩
structure KO (call:Int)(m:Int)(bs ss:List Int)(rs:List DCe):Prop where
 fit:∀(j:Nat) k c,(kB call)[j]?=some k->rs[j]?=some c->Mb k c.1=true
 buf:0<rq call->∃p q,rs[1]?=some p/\rs[2]?=some q/\q.2<=16/\p.1=1/\∃(j:Nat)(b z:Int),bs[j]?=some b/\ss[j]?=some z/\b<=p.2/\p.2+q.2<=b+z
 code:call=10\/call=12->∃c,rs[0]?=some c/\c.2<m
theorem Ft{call m:Int}{bs ss:List Int}{rs:List DCe}(h:KO call m bs ss rs):Ok (some ((0:Int),())) λr=>∃e,r=(e,())/\0<=e/\e<=6/\(e=0->KO call m bs ss rs):=Ok.ret ⟨0,rfl,by decide,by decide,λ_=>h⟩
theorem yj{call m:Int}{bs ss:List Int}{rs:List DCe}:Ok (some ((6:Int),())) λr=>∃e,r=(e,())/\0<=e/\e<=6/\(e=0->KO call m bs ss rs):=Ok.ret ⟨6,rfl,by decide,by decide,λh=>absurd h (by decide)⟩
theorem Ia{n key:Int}{code:List DIn}{ss bs:List Int}{d:List (List Int)}{cs:List DCe}{ls:List DLn}{ts:List DTh}{i:Nat}{t:DTh}{x:DIn}(h:MOk n ss bs cs ls ts)(ht:ts[i]?=some t)(hp1:1<=t.2.2.1)
 (hx:code[(t.2.2.1-1).toNat]?=some x)(hc:0<=x.2.2.2.2/\x.2.2.2.2<=15):Ok (lS code ss d bs key cs ls ts (i:Int)) λr=>∃e,r=(e,())/\0<=e/\e<=6/\(e=0->KO x.2.2.2.2 code.length bs ss t.2.1):=by
 have hok:=h.thr t (dT ht);obtain⟨_,hl,hr,⟨p0,p1⟩,_⟩:=id hok;obtain⟨o,A,B,C,call⟩:=x;dsimp only at hc⊢;obtain⟨b,eb,hb1,hb2⟩:=AH hc;have hk3:=JY call;obtain⟨st,rs,pc,rest⟩:=t;dsimp only at *;obtain⟨j,hj⟩:∃j:Nat,pc-1=j:=⟨(pc-1).toNat,by omega⟩;rw[hj,oTN]at hx;unfold lS;rw[dP];simp only[oBS,show dN ts i=some (st,rs,pc,rest)from ht];rw[dS (x:=pc-1) (by omega) (by omega),hj,dP];simp only[oBS,show dN code j=some (o,A,B,C,call)from hx,eb,hb1];obtain⟨c0,hc0⟩:∃c,rs[0]?=some c:=⟨_,oGE (by omega)⟩;obtain⟨c1,ZP⟩:∃c,rs[1]?=some c:=⟨_,oGE (by omega)⟩;obtain⟨c2,ZH⟩:∃c,rs[2]?=some c:=⟨_,oGE (by omega)⟩;have v0:=hr c0 (dT hc0);have v1:=hr c1 (dT ZP);have v2:=hr c2 (dT ZH);have g0:dN rs 0=some c0:=hc0;have g1:dN rs 1=some c1:=ZP;have g2:dN rs 2=some c2:=ZH
 obtain⟨y,e,hy⟩:=gX (f:=lD) (n:=NN) (s:=(call,b,((kB call).length:Int),0,code,ss,d,bs,key,cs,ls,ts,st,rs,pc,rest.1,rest.2.1,rest.2.2.1,rest.2.2.2.1,rest.2.2.2.2,()))
  (P:=λs'=>∃q:Nat,s'=(call,b,((kB call).length:Int),(q:Int),code,ss,d,bs,key,cs,ls,ts,st,rs,pc,rest.1,rest.2.1,rest.2.2.1,rest.2.2.2.1,rest.2.2.2.2,())/\q<=(kB call).length/\∀(j:Nat) k c,j<q->(kB call)[j]?=some k->rs[j]?=some c->Mb k c.1=true)
  (R:=λr=>r=.inl (6,())\/(∃q,r=.inr (call,b,((kB call).length:Int),q,false,code,ss,d,bs,key,cs,ls,ts,st,rs,pc,rest.1,rest.2.1,rest.2.2.1,rest.2.2.2.1,rest.2.2.2.2,())/\∀(j:Nat) k c,(kB call)[j]?=some k->rs[j]?=some c->Mb k c.1=true))
  (m:=λs'=>(s'.2.2.1-s'.2.2.2.1).toNat) ⟨0,rfl,by omega,λj k c hj=>by omega⟩ (by unfold NN;dsimp only;omega) (by
   rintro _ ⟨q,rfl,hq,ZW⟩;unfold lD;dsimp only
   (with_reducible refine dI (λZ9=>?_) λZ9=>?_)
   ·rw[dP];obtain⟨k,hk⟩:∃k,(kB call)[q]?=some k:=⟨_,oGE (by omega)⟩;obtain⟨c,hcq⟩:∃c,rs[q]?=some c:=⟨_,oGE (by omega)⟩;simp only[oBS,hb2 q,hk,show dN rs q=some c from hcq,Kl]
    (with_reducible refine dI (λZY=>?_) λZY=>?_)
    ·exact Ok.ret (.inl rfl)
    ·rw[dS (x:=(q:Int)+1) (by omega) (by omega)];refine Ok.ret ⟨⟨q+1,rfl,by omega,λj' k' c' ZU h1 h2=>?_⟩,by dsimp only;omega⟩;by_cases hjq:j'=q
     ·subst hjq;rw[hk]at h1;rw[hcq]at h2;cases h1;cases h2;exact ZY
     ·exact ZW j' k' c' (by omega) h1 h2
   ·refine Ok.ret (.inr ⟨_,rfl,λj k c h1 h2=>ZW j k c ?_ h1 h2⟩);have:=(oGS h1).1
    omega)
 rw[e];rcases hy with rfl|⟨q,rfl,ZW⟩
 ·exact yj
 dsimp only;rw[ud hc];delta dR;simp only[oBS,g0,g1,g2];rw[dW (x:=c2.2) (by have:=v2.2.2.1;omega) (by have:=v2.2.2.2.1;omega),dW (x:=c0.2) (by have:=v0.2.2.1;omega) (by have:=v0.2.2.2.1;omega)]
 have ZX:(0<rq call->∃p q,rs[1]?=some p/\rs[2]?=some q/\q.2<=16/\p.1=1/\∃(j:Nat)(b z:Int),bs[j]?=some b/\ss[j]?=some z/\b<=p.2/\p.2+q.2<=b+z)->Ok ((bif(call==10)then(some ((decide (c0.2>=(code.length:Int))),()))else
  bif(call==12)then(some ((decide (c0.2>=(code.length:Int))),()))else some (false,()):Option (Bool×Unit)).bind λ(x35,_)=>bif x35 then(some ((6:Int),()))else some (0,()))
  λr=>∃e,r=(e,())/\0<=e/\e<=6/\(e=0->KO call code.length bs ss rs):=by
  intro hbuf;by_cases q10:call=10
  ·simp only[beq_iff_eq.2 q10,oCT,oBS]
   (with_reducible refine dI (λZY=>?_) λZY=>?_)
   ·exact yj
   ·exact Ft ⟨ZW,hbuf,λ_=>⟨c0,hc0,by omega⟩⟩
  ·by_cases q12:call=12
   ·simp only[oBF q10,beq_iff_eq.2 q12,oCT,oCF,oBS]
    (with_reducible refine dI (λZY=>?_) λZY=>?_)
    ·exact yj
    ·exact Ft ⟨ZW,hbuf,λ_=>⟨c0,hc0,by omega⟩⟩
   ·simp only[oBF q10,oBF q12,oCF,oBS];exact Ft ⟨ZW,hbuf,λh=>by omega⟩
 (with_reducible refine dI (λZ9=>?_) λZ9=>?_)
 ·refine(Ir (t:=c1.1) (v:=c1.2) (n:=c2.2) h.lay ⟨v1.2.2.1,v1.2.2.2.1⟩ ⟨v2.2.2.1,v2.2.2.2.1⟩).bind ?_;rintro _ ⟨a,e,rfl,he⟩;dsimp only
  (with_reducible refine dI (λZY=>?_) λZY=>?_)
  ·exact yj
  obtain⟨w1,_,j,b',z,w2,w3,w4,w5,w6⟩:=he ZY
  (with_reducible refine dI (λhcc=>?_) λhcc=>?_)
  ·exact yj
  exact ZX λ_=>⟨c1,c2,ZP,ZH,by omega,w1,j,b',z,w2,w3,w4,w5⟩
 ·exact ZX λh=>by omega
structure ww (n:Int)(ss:List Int)(i stop trap count pc call:Int)(args data:List DCn):Prop where
 hthr:0<=i/\i<4
 hstop:0<=stop/\stop<=3
 htrap:0<=trap/\trap<=6
 hcnt:0<=count/\count<=n
 hpc:0<=pc/\pc<=255
 hcall:0<=call/\call<=15
 hargs:args.length<=3/\∀c∈args,Pr ss c
 hdata:data.length<=16/\∀c∈data,Pr ss c
 hkind:stop=1->args.length=(kB call).length/\∀(j:Nat) k a,(kB call)[j]?=some k->args[j]?=some a->Mb k a.1=true
 hbuf:stop=1->rq call=2->∃a,args[2]?=some a/\a.2.1<=16
def Qj(stop trap:Int)(t':DTh):Prop:=(stop=0/\t'.1=1)\/(stop=1/\t'.1=2)\/(stop=2/\t'.1=4/\t'.2.2.2.2.2.2.1=trap)\/(stop=3/\t'.1≠1)
def GF(n key:Int)(ss bs:List Int)(ts:List DTh)(i:Nat)(r:(List (Int))×Int×(List DCe)×(List DLn)×(List DTh)×Int×Int×Int×Int×Int×Int×(List DCn)×(List DCn)×Int×Unit):Prop:=
 ∃Z3 Z0 t' stop trap call args data,r=(bs,key,Z3,Z0,ts.set i t',(i:Int),stop,trap,t'.2.2.2.1,t'.2.2.1,call,args,data,0,())/\kM (RK bs ss) Z3 Z0/\yy (RK bs ss) n t' /\
  ww n ss i stop trap t'.2.2.2.1 t'.2.2.1 call args data/\Qj stop trap t'/\(stop=3->ts[i]?=some t')
theorem wE{n:Int}{ss bs:List Int}{i:Nat}{t':DTh}{stop trap:Int}(hi:i<4)(ht:yy (RK bs ss) n t')(hs:0<=stop/\stop<=3)(hs1:stop≠1)(Ri:0<=trap/\trap<=6):ww n ss i stop trap t'.2.2.2.1 t'.2.2.1 0 [] []:=
 ⟨⟨by omega,by omega⟩,hs,Ri,ht.count,ht.pc,by decide,⟨by decide,eJ⟩,⟨by decide,eJ⟩,λh=>absurd h hs1,λh=>absurd h hs1⟩
theorem sZ{α β:Type}(f:α->β){l:List α}{k:Nat}{x:α}(h:l[k]?=some x):(l.take k).map f++[f x]=(l.take (k+1)).map f:=by
 rw[List.take_add_one,h];simp
theorem yG{β:Type}(f:Nat->β)(k:Nat):(List.range k).map f++[f k]=(List.range (k+1)).map f:=by
 rw[List.range_succ];simp
set_option maxHeartbeats 4000000 in
theorem wY{n key k:Int}{code:List DIn}{ss bs:List Int}{d:List (List Int)}{cs:List DCe}{ls:List DLn}{ts:List DTh}{i:Nat}(hp:mY code ss d)(h:MOk n ss bs cs ls ts)(Yq:0<=n)(hn:n+64<=1099511627776)(hi:i<4)(hk:1<=k/\k<=64):
 Ok (ln code ss d bs key cs ls ts (i:Int) k) (GF (n+64) key ss bs ts i):=by
 have Xi:=h.tlen
 have YL:i<ts.length:=by omega
 unfold ln;refine(K1 hp h Yq hn hi hk).bind ?_;rintro _ ⟨s,Z3,Z0,t',rfl,hm,ZF,hs⟩;have hM:MOk (n+64) ss bs Z3 Z0 (ts.set i t'):=(h.mono (show n<=n+64 by omega)).set hm ZF;have TX:(ts.set i t')[i]?=some t':=iD YL t';dsimp only;simp only[bne_self_eq_false,oCF,dP,oBS,iD YL]
 rcases hs with⟨rfl,hs1,Y6⟩|⟨rfl,hs1⟩|⟨rfl,hs1⟩|⟨rfl,hs1,x,Y6,R5,WF⟩
 ·exact Ok.ret ⟨_,_,_,_,_,_,_,_,rfl,hm,ZF,wE hi ZF (by decide) (by decide) (by decide),.inr (.inr (.inr ⟨rfl,Y6⟩)),λ_=>hs1⟩
 ·exact Ok.ret ⟨_,_,_,_,_,_,_,_,rfl,hm,ZF,wE hi ZF (by decide) (by decide) (by decide),.inl ⟨rfl,hs1⟩,λh=>absurd h (by decide)⟩
 ·exact Ok.ret ⟨_,_,_,_,_,_,_,_,rfl,hm,ZF,wE hi ZF (by decide) (by decide) ZF.trap,.inr (.inr (.inl ⟨rfl,hs1,rfl⟩)),λh=>absurd h (by decide)⟩
 ·have Yf:=hp.ins x (dT R5);have hcall:0<=x.2.2.2.2/\x.2.2.2.2<=15:=⟨Yf.imm.1,Yf.sys WF⟩;obtain⟨_,ec,e,rfl,Vw,Vx,SE⟩:=Ia (key:=key) (d:=d) hM TX Y6 R5 hcall;obtain⟨o,A,B,C,call⟩:=x;dsimp only at hcall SE;have hk3:=JY call;have hl8:=ZF.len;obtain⟨j,hj⟩:∃j:Nat,t'.2.2.1-1=j:=⟨(t'.2.2.1-1).toNat,by omega⟩;have hpc:=ZF.pc;rw[hj,oTN]at R5;rw[dS (x:=t'.2.2.1-1) (by omega) (by omega),hj];simp only[Int.reduceBEq,oCT,oCF,ec,oBS,dP,show dN code j=some (o,A,B,C,call)from R5,vW hcall];by_cases hne:e=0
  ·subst hne;obtain⟨ZW,hbuf,_⟩:=SE rfl
   have e1:ej iv NN (((kB call).length:Int),0,code,ss,d,(),0,(),(),(),0,0,0,0,0,0,(),(),bs,key,Z3,Z0,ts.set i t',t'.1,t'.2.1,t'.2.2.1,t'.2.2.2.1,t'.2.2.2.2.1,t'.2.2.2.2.2.1,t'.2.2.2.2.2.2.1,t'.2.2.2.2.2.2.2,(i:Int),1,0,t'.2.2.2.1,t'.2.2.1,call,[],(),())=
    some (((kB call).length:Int),((kB call).length:Int),false,code,ss,d,(),0,(),(),(),0,0,0,0,0,0,(),(),bs,key,Z3,Z0,ts.set i t',t'.1,t'.2.1,t'.2.2.1,t'.2.2.2.1,t'.2.2.2.2.1,t'.2.2.2.2.2.1,t'.2.2.2.2.2.2.1,t'.2.2.2.2.2.2.2,(i:Int),1,0,t'.2.2.2.1,t'.2.2.1,call,(t'.2.1.take (kB call).length).map (vB bs ss key),(),()):=by
    refine sU (f:=iv) (N:=NN) (st:=λq=>(((kB call).length:Int),(q:Int),code,ss,d,(),0,(),(),(),0,0,0,0,0,0,(),(),bs,key,Z3,Z0,ts.set i t',t'.1,t'.2.1,t'.2.2.1,t'.2.2.2.1,t'.2.2.2.2.1,t'.2.2.2.2.2.1,t'.2.2.2.2.2.2.1,t'.2.2.2.2.2.2.2,(i:Int),1,0,t'.2.2.2.1,t'.2.2.1,call,(t'.2.1.take q).map (vB bs ss key),(),())) (n:=(kB call).length) (by unfold NN;omega) ?_ ?_
    ·intro q hq;unfold iv;dsimp only;rw[oDT (show(q:Int)<(kB call).length by omega),dP];simp only[oCT,oBS];refine Ok.get (by omega) λc hc=>?_;rw[Af h.lay (ZF.regs c (dT hc))];simp only[oBS];refine dJ (dZ (by simp;omega)) ?_;rw[dS (x:=(q:Int)+1) (by omega) (by omega)];refine Ok.ret ?_;rw[<- sZ (vB bs ss key) hc];rfl
    ·unfold iv;dsimp only;rw[oDF (show ¬((kB call).length:Int)<(kB call).length by omega)];exact Ok.ret rfl
   have hargs:((t'.2.1.take (kB call).length).map (vB bs ss key)).length=(kB call).length:=by rw[List.length_map,oLT];omega
   have SO:∀(j:Nat) a,((t'.2.1.take (kB call).length).map (vB bs ss key))[j]?=some a->∃c,t'.2.1[j]?=some c/\a=vB bs ss key c:=by
    intro j a ha;rw[List.getElem?_map]at ha
    cases hc:(t'.2.1.take (kB call).length)[j]? with
    |none=>rw[hc]at ha;cases ha
    |some c=>
     rw[hc]at ha
     injection ha with ha
     refine⟨c,?_,ha.symm⟩;rw[List.getElem?_take]at hc;split at hc
     ·exact hc
     ·cases hc
   have Vp:∀c∈(t'.2.1.take (kB call).length).map (vB bs ss key),Pr ss c:=by
    intro c hc;obtain⟨c',XY,rfl⟩:=List.mem_map.1 hc;exact Kz h.lay (ZF.regs c' (List.mem_of_mem_take XY))
   have UC:∀(j:Nat) k a,(kB call)[j]?=some k->((t'.2.1.take (kB call).length).map (vB bs ss key))[j]?=some a->Mb k a.1=true:=by
    intro j k a hk ha;obtain⟨c,hc,rfl⟩:=SO j a ha;rw[(Gx (ZF.regs c (dT hc))).1];exact ZW j k c hk hc
   have Sv:rq call=2->∃a,((t'.2.1.take (kB call).length).map (vB bs ss key))[2]?=some a/\a.2.1<=16:=by
    intro hb;obtain⟨p,q,hp1,YD,Tc,_⟩:=hbuf (by omega)
    have hkk:(kB call)[2]?=some 78:=by
     have:call=2\/call=14:=by unfold rq at hb;split at hb<;>first|omega|(split at hb<;>omega)
     rcases this with rfl|rfl<;>rfl
    have hf:=ZW 2 78 q hkk YD;have hl3:=(oGS hkk).1;refine⟨vB bs ss key q,?_,?_⟩
    ·rw[List.getElem?_map,List.getElem?_take,oIP hl3,YD];rfl
    ·have hq:=(Gx (bs:=bs) (ss:=ss) (key:=key) (ZF.regs q (dT YD))).2 (by unfold Mb at hf;simpa using hf);rw[hq];exact Tc
   simp only[e1,bne_self_eq_false,oCF,oBS,ud hcall]
   have ZX:∀data:List DCn,data.length<=16->(∀c∈data,Pr ss c)->Ok (some (bs,key,Z3,Z0,ts.set i t',(i:Int),(1:Int),(0:Int),t'.2.2.2.1,t'.2.2.1,call,(t'.2.1.take (kB call).length).map (vB bs ss key),data,(0:Int),())) (GF (n+64) key ss bs ts i):=
    λdata h1 h2=>Ok.ret ⟨_,_,_,_,_,_,_,_,rfl,hm,ZF,⟨⟨by omega,by omega⟩,by decide,by decide,ZF.count,ZF.pc,hcall,⟨by omega,Vp⟩,⟨h1,h2⟩,λ_=>⟨hargs,UC⟩,λ_=>Sv⟩,.inr (.inl ⟨rfl,hs1⟩),λh=>absurd h (by decide)⟩
   by_cases hb1:rq call=1
   ·obtain⟨p,q,hp1,YD,Tc,_,jr,b,z,Sw,hbz2,hbz3,hbz4⟩:=hbuf (by omega);have hp':=ZF.regs p (dT hp1);have T2:=ZF.regs q (dT YD);have hjr:=(oGS Sw).1;have Td:=h.lay.2.2 jr hjr;unfold zw at Td;rw[fC Sw,fC hbz2]at Td;obtain⟨m,hqm⟩:∃m:Nat,q.2=m:=⟨q.2.toNat,by have:=T2.2.2.1;omega⟩
    have e2:ej iu NN ((m:Int),0,code,ss,d,(),0,(),(),(),0,0,0,0,0,0,(),(),bs,key,Z3,Z0,ts.set i t',t'.1,t'.2.1,t'.2.2.1,t'.2.2.2.1,t'.2.2.2.2.1,t'.2.2.2.2.2.1,t'.2.2.2.2.2.2.1,t'.2.2.2.2.2.2.2,(i:Int),1,0,t'.2.2.2.1,t'.2.2.1,call,(t'.2.1.take (kB call).length).map (vB bs ss key),[],())=
     some ((m:Int),(m:Int),false,code,ss,d,(),0,(),(),(),0,0,0,0,0,0,(),(),bs,key,Z3,Z0,ts.set i t',t'.1,t'.2.1,t'.2.2.1,t'.2.2.2.1,t'.2.2.2.2.1,t'.2.2.2.2.2.1,t'.2.2.2.2.2.2.1,t'.2.2.2.2.2.2.2,(i:Int),1,0,t'.2.2.2.1,t'.2.2.1,call,(t'.2.1.take (kB call).length).map (vB bs ss key),(List.range m).map (λj:Nat=>vB bs ss key (Hz Z3 Z0 (p.2+(j:Int)))),()):=by
     refine sU (f:=iu) (N:=NN) (st:=λq=>((m:Int),(q:Int),code,ss,d,(),0,(),(),(),0,0,0,0,0,0,(),(),bs,key,Z3,Z0,ts.set i t',t'.1,t'.2.1,t'.2.2.1,t'.2.2.2.1,t'.2.2.2.2.1,t'.2.2.2.2.2.1,t'.2.2.2.2.2.2.1,t'.2.2.2.2.2.2.2,(i:Int),1,0,t'.2.2.2.1,t'.2.2.1,call,(t'.2.1.take (kB call).length).map (vB bs ss key),(List.range q).map (λj:Nat=>vB bs ss key (Hz Z3 Z0 (p.2+(j:Int)))),())) (n:=m) (by unfold NN;omega) ?_ ?_
     ·intro v hv;unfold iu;dsimp only;have R0:=hp'.2.2.1;have hp01:=hp'.2.2.2.1;rw[oDT (show(v:Int)<m by omega)];simp only[oCT,oBS,show dN t'.2.1 1=some p from hp1];rw[dW (x:=p.2) (by omega) (by omega),dS (x:=p.2+v) (by omega) (by omega)];obtain⟨RU,RV⟩:=JO (a:=p.2+v) hm ⟨by omega,by omega⟩;rw[RU];simp only[oBS];rw[Af h.lay RV];simp only[oBS];refine dJ (dZ (by simp;omega)) ?_;rw[dS (x:=(v:Int)+1) (by omega) (by omega)];refine Ok.ret ?_;rw[<- yG];rfl
     ·unfold iu;dsimp only;rw[oDF (show ¬(m:Int)<m by omega)];exact Ok.ret rfl
    simp only[hb1,BEq.rfl,oCT,show dN t'.2.1 2=some q from YD,oBS];rw[dW (x:=q.2) (by omega) (by omega),hqm,e2];simp only[oBS];refine ZX _ (by rw[List.length_map,List.length_range];omega) ?_;intro c hc;obtain⟨v,hv,rfl⟩:=List.mem_map.1 hc;have hv:=List.mem_range.1 hv;have R0:=hp'.2.2.1;exact Kz h.lay (JO (a:=p.2+v) hm ⟨by omega,by omega⟩).2
   ·simp only[oBF hb1,oCF];exact ZX [] (by decide) eJ
  ·unfold mD kQ;simp only[bne_iff_ne.2 hne,oCT];rw[dZ (show 4<=1000/\0+t'.2.1.length<=1000000 by omega)];simp only[oCT,oBS,dP,iD YL,nY YL];exact Ok.ret ⟨_,_,_,_,_,_,_,_,rfl,hm,ZF.ended ⟨Vw,Vx⟩,wE hi (ZF.ended ⟨Vw,Vx⟩) (by decide) (by decide) ⟨Vw,Vx⟩,.inr (.inr (.inl ⟨rfl,rfl,rfl⟩)),λh=>absurd h (by decide)⟩
theorem ED{a b:Int}:mmR false a b<=a/\mmR false a b<=b/\(mmR false a b=a\/mmR false a b=b):=by
 unfold mmR;simp;omega
theorem re{α:Type}{l:List α}{i j:Nat}(h:i≠j)(a:α):(l.set i a)[j]?=l[j]?:=by
 simp_all
theorem OB.setFile{d:List (List DCn)}{o:DOp}{f:Nat}{x y:List DCn}(h:OB d o)(hf:d[f]?=some x)(WJ:x.length<=y.length):OB (d.set f y) o:=by
 rcases h with h|⟨h1,z,h2,h3,h4⟩
 ·exact .inl h
 ·refine .inr ⟨h1,?_⟩;by_cases e:f=o.1.toNat
  ·subst e;rw[hf]at h2;cases h2;exact⟨y,iD (oGS hf).1 y,h3,by omega⟩
  ·simp_all
theorem fH.setFile{ss:List Int}{d:List (List DCn)}{os:List DOp}{f:Nat}{x y:List DCn}(h:fH ss d os)(hf:d[f]?=some x)(h64:y.length<=64)(hc:∀c∈y,Pr ss c)(WJ:x.length<=y.length):fH ss (d.set f y) os:=
 ⟨by rw[List.length_set];exact h.dlen,lI h.flen h64,lI h.cells hc,h.olen,λo ho=>(h.opens o ho).setFile hf WJ⟩
theorem fH.setOpen{ss:List Int}{d:List (List DCn)}{os:List DOp}{i:Nat}{o:DOp}(h:fH ss d os)(ho:OB d o):fH ss d (os.set i o):=
 ⟨h.dlen,h.flen,h.cells,by rw[List.length_set];exact h.olen,lI h.opens ho⟩
theorem AC{ss:List Int}{d:List (List DCn)}{os:List DOp}{h:Int}(hF:fH ss d os):∃b,gI d os h=some (b,())/\(b=true->∃(j f:Nat)(o:DOp)(x:List DCn),h=j/\j<8/\os[j]?=some o/\o.1=f/\d[f]?=some x/\0<=o.2.1/\o.2.1<=x.length):=by
 have:Ok (gI d os h) λr=>∃b,r=(b,())/\(b=true->∃(j f:Nat)(o:DOp)(x:List DCn),h=j/\j<8/\os[j]?=some o/\o.1=f/\d[f]?=some x/\0<=o.2.1/\o.2.1<=x.length):=by
  unfold gI;delta dR
  (with_reducible refine dI (λZ9=>?_) λZ9=>?_)
  ·(with_reducible refine dI (λZY=>?_) λZY=>?_)
   ·refine Ok.nat (by omega) λj hj=>?_;have h8:=hF.olen;refine Ok.get (by omega) λo ho=>?_;refine Ok.ret ⟨_,rfl,λhb=>?_⟩
    rcases hF.opens o (dT ho)with⟨h1,_⟩|⟨h1,x,h2,h3,h4⟩
    ·simp_all
    ·exact⟨j,o.1.toNat,o,x,hj,by omega,ho,by omega,h2,h3,h4⟩
   ·exact Ok.ret ⟨_,rfl,λh=>by cases h⟩
  ·exact Ok.ret ⟨_,rfl,λh=>by cases h⟩
 obtain⟨_,e,b,rfl,hb⟩:=this;exact⟨b,e,hb⟩
theorem tE{ss:List Int}{d:List (List DCn)}{os:List DOp}(h:fH ss d os):gd d os=some (d,os,()):=
 copy17_ok (by have:=h.dlen;omega) (λx hx=>by have:=h.flen x hx;omega) (by have:=h.olen;omega)
theorem GK{ss:List Int}{d:List (List DCn)}{os:List DOp}{h:Int}{l:List DCn}(hs:zu ss)(hF:fH ss d os)(hl:l.length<=16)(VC:∀c∈l,Pr ss c):
 Ok (lP d os h l) λr=>∃d' Y9 n b,r=(d',Y9,n,b,())/\fH ss d' Y9/\0<=n/\n<=16:=by
 obtain⟨b,eo,hb⟩:=AC (h:=h) hF;unfold lP;rw[tE hF];simp only[oBS,eo]
 cases b with
 |false=>
  simp only[Bool.not_false,oCT,oBS];exact Ok.ret ⟨_,_,_,_,rfl,hF,by decide,by decide⟩
 |true=>
  obtain⟨j,f,o,x,rfl,hj,ho,hof,hx,o0,o1⟩:=hb rfl;have hg:dN os j=some o:=ho;have We:dN d f=some x:=hx;have hjl:=(oGS ho).1;have Zo:=(oGS hx).1;have UM:=hF.flen x (dT hx);simp only[oNT,oCF,dP,oBS,hg]
  cases hw:o.2.2 with
  |false=>
   simp only[Bool.not_false,oCT,oBS];exact Ok.ret ⟨_,_,_,_,rfl,hF,by decide,by decide⟩
  |true=>
   delta dR;simp only[oNT,oCF,oBS,mr (n:=(l.length:Int)) hs VC (by omega) (by omega),dP,hg,hof,We];rw[dS (x:=64-o.2.1) (by omega) (by omega)];obtain⟨m1,m2,m3⟩:=ED (a:=(l.length:Int)) (b:=64-o.2.1);generalize mmR false (l.length:Int) (64-o.2.1)=k at m1 m2 m3
   refine Ok.loop (P:=λs'=>∃(i:Nat)(y:List DCn),s'=(l,j,k,k,(i:Int),(),(),d,f,os,y,())/\(i:Int)<=k/\(∀c∈y,Pr ss c)/\x.length<=y.length/\o.2.1+i<=y.length/\y.length<=64)
    (R:=λr=>∃y:List DCn,r=(l,j,k,k,k,false,(),(),d,f,os,y,())/\(∀c∈y,Pr ss c)/\x.length<=y.length/\o.2.1+k<=y.length/\y.length<=64) (m:=λs'=>(k-s'.2.2.2.2.1).toNat) ⟨0,x,rfl,by omega,hF.cells x (dT hx),by omega,by omega,UM⟩ (by unfold NN;dsimp only;omega) ?_ ?_
   ·rintro _ ⟨i,y,rfl,hi,hy,WJ,hoy,UN⟩;unfold pA;dsimp only
    (with_reducible refine dI (λZ9=>?_) λZ9=>?_)
    ·delta dR;simp only[hg,oBS,dP];rw[dS (x:=o.2.1+i) (by omega) (by omega)];obtain⟨c,hc⟩:∃c,l[i]?=some c:=⟨_,oGE (by omega)⟩;have ZI:dN l i=some c:=hc;have U4:=VC c (dT hc);simp only[ZI,oBS];refine Ok.bind (P:=λr=>∃y':List DCn,r=(l,j,k,k,(i:Int),(),(),d,f,os,y',())/\(∀c∈y',Pr ss c)/\x.length<=y'.length/\o.2.1+i+1<=y'.length/\y'.length<=64) ?_ ?_
     ·(with_reducible refine dI (λZY=>?_) λZY=>?_)
      ·refine Ok.nat (by omega) λq hq=>?_;refine Ok.get (by omega) λ_ hz=>?_;refine Ok.get (by omega) λ_ _=>?_;rw[fe hz];exact Ok.ret ⟨_,rfl,lI hy U4,by rw[List.length_set];omega,by rw[List.length_set];omega,by rw[List.length_set];omega⟩
      ·refine dJ (dZ (by simp;omega)) ?_;exact Ok.ret ⟨_,rfl,gE hy (all_cons U4 eJ),by rw[fi];omega,by rw[fi,List.length_singleton];omega,by rw[fi,List.length_singleton];omega⟩
     ·rintro _ ⟨y',rfl,g1,g2,g3,g4⟩;dsimp only;rw[dS (x:=(i:Int)+1) (by omega) (by omega)];exact Ok.ret ⟨⟨i+1,y',rfl,by omega,g1,g2,by omega,g4⟩,by dsimp only;omega⟩
    ·obtain rfl:(i:Int)=k:=by omega
     exact Ok.ret ⟨y,rfl,hy,WJ,hoy,UN⟩
   ·rintro _ ⟨y,rfl,hy,WJ,hoy,UN⟩;dsimp only;simp only[hg,oBS,hof,dP,We];refine dJ (by simp) ?_;rw[dS (x:=o.2.1+k) (by omega) (by omega),fe hx,fe ho];refine Ok.ret ⟨_,_,_,_,rfl,(hF.setFile hx UN hy WJ).setOpen (.inr ⟨by dsimp only;omega,y,?_,by dsimp only;omega,by dsimp only;omega⟩),by omega,by omega⟩;dsimp only;rw[hof,oTN];exact iD Zo y
theorem Jo{ss:List Int}{d:List (List DCn)}{os:List DOp}{h n:Int}(hF:fH ss d os)(hn:0<=n/\n<=65535):
 Ok (nc d os h n) λr=>(∃d' Y9,r=.inl (d',Y9,(),false,())/\fH ss d' Y9)\/(∃d' Y9 l,r=.inr (d',Y9,l,true,())/\fH ss d' Y9/\(l.length:Int)<=n/\l.length<=64/\∀c∈l,Pr ss c):=by
 obtain⟨b,eo,hb⟩:=AC (h:=h) hF;unfold nc;rw[tE hF];simp only[oBS,eo]
 cases b with
 |false=>
  exact Ok.ret (.inl ⟨_,_,rfl,hF⟩)
 |true=>
  obtain⟨j,f,o,x,rfl,hj,ho,hof,hx,o0,o1⟩:=hb rfl;have hg:dN os j=some o:=ho;have We:dN d f=some x:=hx;have UM:=hF.flen x (dT hx);rw[oDF (show ¬n<0 by omega)];simp only[oNT,oCF,dP,oBS,hg]
  cases hw:o.2.2 with
  |true=>exact Ok.ret (.inl ⟨_,_,rfl,hF⟩)
  |false=>
   delta dR;simp only[oCF,dP,oBS,hg,hof,We];rw[dS (x:=(x.length:Int)-o.2.1) (by omega) (by omega)];obtain⟨m1,m2,m3⟩:=ED (a:=n) (b:=(x.length:Int)-o.2.1);generalize mmR false n ((x.length:Int)-o.2.1)=k at m1 m2 m3;rw[dS (x:=o.2.1+k) (by omega) (by omega)];refine Ok.nat o0 λp hp=>?_;refine Ok.nat (by omega) λq hq=>?_;refine dJ (by unfold ge;simp;omega) ?_
   have hw2:(mZ x p (Nat.sub q p)).length=q-p:=by
    unfold mZ;rw[oLT,List.length_drop];show min (q-p) _=q-p;omega
   refine dJ (dZ (by omega)) ?_;rw[fe ho];refine Ok.ret (.inr ⟨_,_,_,rfl,hF.setOpen (.inr ⟨by dsimp only;omega,x,by dsimp only;rw[hof,oTN];exact hx,by dsimp only;omega,by dsimp only;omega⟩),?_,?_,?_⟩)
   ·rw[fi,hw2];simp;omega
   ·rw[fi,hw2];simp;omega
   ·refine gE eJ λc hc=>hF.cells x (dT hx) c ?_;unfold mZ at hc;exact List.mem_of_mem_drop (List.mem_of_mem_take hc)
theorem H6{ss:List Int}{d:List (List DCn)}{os:List DOp}{h:Int}(hF:fH ss d os):Ok (lQ d os h) λr=>∃d' Y9 b,r=(d',Y9,b,())/\fH ss d' Y9:=by
 have ⟨b,eo,hb⟩:=AC (h:=h) hF;unfold lQ;rw[tE hF];simp only[eo]
 cases b with
 |false=>exact Ok.ret ⟨_,_,_,rfl,hF⟩
 |true=>
  obtain⟨j,f,o,x,rfl,hj,ho,hof,hx,o0,o1⟩:=hb rfl;have hg:dN os j=some o:=ho;simp only[dP,oBS,hg];rw[fe ho];exact Ok.ret ⟨_,_,_,rfl,hF.setOpen (.inl ⟨rfl,rfl,rfl⟩)⟩
theorem Jb{ss:List Int}{d:List (List DCn)}{os:List DOp}{h n:Int}(hF:fH ss d os):Ok (na d os h n) λr=>∃d' Y9 b,r=(d',Y9,b,())/\fH ss d' Y9:=by
 obtain⟨b,eo,hb⟩:=AC (h:=h) hF;unfold na;rw[tE hF];simp only[eo]
 cases b with
 |false=>
  exact Ok.ret ⟨_,_,_,rfl,hF⟩
 |true=>
  obtain⟨j,f,o,x,rfl,hj,ho,hof,hx,o0,o1⟩:=hb rfl;have hg:dN os j=some o:=ho;have We:dN d f=some x:=hx;delta dR;simp only[oNT,oCF,dP,oBS,hg,hof,We];by_cases hn:n<0
  ·simp only[oDT hn,oCT,oBS];exact Ok.ret ⟨_,_,_,rfl,hF⟩
  ·simp only[oDF hn,oCF,oBS]
   (with_reducible refine dI (λZ9=>?_) λZ9=>?_)
   ·exact Ok.ret ⟨_,_,_,rfl,hF⟩
   ·simp only[dP,oBS,hg];rw[fe ho];exact Ok.ret ⟨_,_,_,rfl,hF.setOpen (.inr ⟨by dsimp only;omega,x,by simp_all,by dsimp only;omega,by dsimp only;omega⟩)⟩
theorem LD{ss:List Int}{d:List (List DCn)}{os:List DOp}{file mode:Int}(hF:fH ss d os):Ok (nd d os file mode) λr=>∃d' Y9 h,r=(d',Y9,h,())/\fH ss d' Y9/\-1<=h/\h<=7:=by
 have h8:=hF.olen;have hd4:=hF.dlen;unfold nd;rw[tE hF];simp only[oBS];refine Ok.loop (P:=λs'=>∃i:Nat,s'=(file,mode,(i:Int),d,os,(),(),d,os,())/\i<=8) (R:=λr=>∃i:Nat,r=(file,mode,(i:Int),false,d,os,(),(),d,os,())/\i<=8) (m:=λs'=>(8-s'.2.2.1).toNat) ⟨0,rfl,by omega⟩ (by unfold NN;dsimp only;omega) ?_ ?_
 ·rintro _ ⟨i,rfl,hi⟩;unfold pV;delta dR;simp only[h8,dP,oBS]
  (with_reducible refine dI (λZ9=>?_) λZ9=>?_)
  ·refine Ok.get (by omega) λo ho=>?_
   (with_reducible refine dI (λZY=>?_) λZY=>?_)
   ·rw[dS (x:=(i:Int)+1) (by omega) (by omega)];exact Ok.ret ⟨⟨i+1,rfl,by omega⟩,by dsimp only;omega⟩
   ·exact Ok.ret ⟨i,rfl,hi⟩
  ·exact Ok.ret ⟨i,rfl,hi⟩
 rintro _ ⟨i,rfl,hi⟩;delta dR;simp only[h8];have bad:fH ss d os/\(-1:Int)<=-1/\(-1:Int)<=7:=⟨hF,by decide,by decide⟩;refine Ok.bind (P:=λr=>(∃b:Bool,r=(file,mode,(i:Int),b,(),(),d,os,())/\(b=false->0<=file/\file<d.length/\i<8))) ?_ ?_
 ·(with_reducible refine dI (λZ9=>?_) λZ9=>?_)
  ·exact Ok.ret ⟨true,rfl,λh=>by cases h⟩
  (with_reducible refine dI (λZY=>?_) λZY=>?_)
  ·exact Ok.ret ⟨true,rfl,λh=>by cases h⟩
  (with_reducible refine dI (λhcc=>?_) λhcc=>?_)
  ·exact Ok.ret ⟨true,rfl,λh=>by cases h⟩
  (with_reducible refine dI (λW'=>?_) λW'=>?_)
  ·exact Ok.ret ⟨true,rfl,λh=>by cases h⟩
  exact Ok.ret ⟨_,rfl,λh=>⟨by omega,by omega,by rw[beq_eq_false_iff_ne]at h;omega⟩⟩
 rintro _ ⟨b,rfl,hb⟩;dsimp only
 cases b with
 |true=>exact Ok.ret ⟨_,_,_,rfl,bad⟩
 |false=>
  obtain⟨f0,f1,hi8⟩:=hb rfl;obtain⟨f,rfl⟩:∃f:Nat,file=f:=⟨file.toNat,by omega⟩;obtain⟨x,hx⟩:∃x,d[f]?=some x:=⟨_,oGE (by omega)⟩;obtain⟨o,ho⟩:∃o,os[i]?=some o:=⟨_,oGE (by omega)⟩;have We:dN d f=some x:=hx;have hg:dN os i=some o:=ho;have Zo:=(oGS hx).1;have YL:=(oGS ho).1;simp only[oCF,dP,oBS,We,hg];by_cases h1:mode=1
  ·subst h1;simp only[BEq.rfl,oCT];rw[fe hx];simp only[h8]
   refine Ok.loop (P:=λs'=>∃(q:Nat)(Y9:List DOp),s'=((f:Int),1,(i:Int),((8:Nat):Int),(q:Int),(),(),d.set f [],Y9,())/\q<=8/\Y9.length=8/\(∀(j:Nat) o,j<q->Y9[j]?=some o->OB (d.set f []) o)/\∀j:Nat,q<=j->Y9[j]?=os[j]?)
    (R:=λr=>∃(z:Int)(Y9:List DOp),r=((f:Int),1,(i:Int),((8:Nat):Int),z,false,(),(),d.set f [],Y9,())/\fH ss (d.set f []) Y9) (m:=λs'=>(8-s'.2.2.2.2.1).toNat) ⟨0,os,rfl,by omega,h8,λj o hj=>by omega,λ_ _=>rfl⟩ (by unfold NN;dsimp only;omega) ?_ ?_
   ·rintro _ ⟨q,Y9,rfl,hq,YI,ha,hr⟩;unfold pU;dsimp only
    (with_reducible refine dI (λZ9=>?_) λZ9=>?_)
    ·obtain⟨o',Zi⟩:∃o',Y9[q]?=some o':=⟨_,oGE (by omega)⟩;have Uy:dN Y9 q=some o':=Zi;have hop:=hF.opens o' (dT (by rw[<- hr q (by omega)];exact Zi));simp only[dP,oBS,Uy];refine Ok.bind (P:=λr=>∃o2:DOp,OB (d.set f []) o2/\r=((f:Int),1,(i:Int),((8:Nat):Int),(q:Int),(),(),d.set f [],Y9.set q o2,())) ?_ ?_
     ·by_cases hof:o'.1=f
      ·simp only[beq_iff_eq.2 hof,oCT];rw[fe Zi];exact Ok.ret ⟨_,.inr ⟨by dsimp only;omega,[],by dsimp only;rw[hof,oTN];exact iD Zo [],by dsimp only;omega,by simp⟩,rfl⟩
      ·simp only[oBF hof,oCF];refine Ok.ret ⟨o',?_,by rw[As Zi]⟩;rcases hop with h|⟨g1,z,g2,g3⟩
       ·exact .inl h
       ·exact .inr ⟨g1,z,by rw[re (by omega)];exact g2,g3⟩
     ·rintro _ ⟨o2,Q3,rfl⟩;dsimp only;rw[dS (x:=(q:Int)+1) (by omega) (by omega)];refine Ok.ret ⟨⟨q+1,_,rfl,by omega,by rw[List.length_set];exact YI,λj o hj hjo=>?_,λj hj=>?_⟩,by dsimp only;omega⟩
      ·by_cases e:q=j
       ·subst e;rw[show(Y9.set q o2)[q]?=some o2 from iD (by omega) o2]at hjo;cases hjo;exact Q3
       ·rw[re e]at hjo;exact ha j o (by omega) hjo
      ·rw[re (by omega)];exact hr j (by omega)
    ·refine Ok.ret ⟨_,_,rfl,⟨by rw[List.length_set];exact hd4,lI hF.flen (by simp),lI hF.cells eJ,YI,λo' Zi=>?_⟩⟩;obtain⟨j,hj⟩:=List.getElem?_of_mem Zi;have:=(oGS hj).1;exact ha j o' (by omega) hj
   ·rintro _ ⟨z,Y9,rfl,TO⟩;have YI:=TO.olen;obtain⟨o',Zi⟩:∃o',Y9[i]?=some o':=⟨_,oGE (by omega)⟩;have Uy:dN Y9 i=some o':=Zi;simp only[dP,oBS,Uy,show((1:Int)==2)=false from rfl,oCF];rw[fe Zi];exact Ok.ret ⟨_,_,_,rfl,TO.setOpen (.inr ⟨by dsimp only;omega,[],by dsimp only;rw[oTN];exact iD Zo [],by dsimp only;omega,by simp⟩),by omega,by omega⟩
  ·simp only[oBF h1,oCF];rw[fe ho];by_cases h2:mode=2
   ·subst h2;simp only[BEq.rfl,oCT,oBS,iD YL,nY YL];exact Ok.ret ⟨_,_,_,rfl,hF.setOpen (.inr ⟨by dsimp only;omega,x,by dsimp only;rw[oTN];exact hx,by dsimp only;omega,by dsimp only;omega⟩),by omega,by omega⟩
   ·simp only[oBF h2,oCF,oBS];exact Ok.ret ⟨_,_,_,rfl,hF.setOpen (.inr ⟨by dsimp only;omega,x,by dsimp only;rw[oTN];exact hx,by dsimp only;omega,by dsimp only;omega⟩),by omega,by omega⟩
theorem f9(n:Int)(b:Bool):∃v,eu n b=some (0,v,0,0,(),-1,false,())/\W16 v:=by
 cases b with
 |true=>exact⟨_,rfl,nR _⟩
 |false=>exact⟨_,rfl,nR _⟩
theorem jC{ss:List Int}{v:Int}(h:W16 v):Pr ss (0,v,0,0):=.inl ⟨.inl rfl,rfl,rfl,h⟩
theorem O2{ss:List Int}{v:Int}(h:W16 v):Pr ss (2,v,0,0):=.inl ⟨.inr rfl,rfl,rfl,h⟩
theorem Ja{ss:List Int}{us:List DOu}{sk:Int}{l:List DCn}(hu:us.length<=200)(ho:∀(i:Nat) x,us[i]?=some x->PR ss i x)(hl:l.length<=16)(VC:∀c∈l,Pr ss c):
 Ok (m9 us sk l) λr=>∃T' n b,r=(T',n,b,())/\T'.length<=200/\∀(i:Nat) x,T'[i]?=some x->PR ss i x:=by
 have hc:jv us=some (us,()):=DY (by omega) λx hx=>by
  obtain⟨j,hj⟩:=List.getElem?_of_mem hx;have:=(ho j x hj).2.2.2.1;omega
 unfold m9;rw[hc];delta dR;refine Ok.bind (P:=λr=>∃b:Bool,r=(us,sk,l,b,us,())/\(b=false->0<=sk/\sk<2/\us.length<200)) ?_ ?_
 ·(with_reducible refine dI (λZ9=>?_) λZ9=>?_)
  ·exact Ok.ret ⟨true,rfl,λh=>by cases h⟩
  (with_reducible refine dI (λZY=>?_) λZY=>?_)
  ·exact Ok.ret ⟨true,rfl,λh=>by cases h⟩
  (with_reducible refine dI (λhcc=>?_) λhcc=>?_)
  ·exact Ok.ret ⟨true,rfl,λh=>by cases h⟩
  exact Ok.ret ⟨_,rfl,λh=>⟨by omega,by omega,by omega⟩⟩
 rintro _ ⟨b,rfl,hb⟩;dsimp only
 cases b with
 |true=>exact Ok.ret ⟨_,_,_,rfl,hu,ho⟩
 |false=>
  obtain⟨s0,s1,hlt⟩:=hb rfl;simp only[oCF];refine dJ (dZ (by omega)) (dJ (dZ (by simp;omega)) ?_);refine Ok.ret ⟨_,_,_,rfl,by rw[fi];simp;omega,λi x hx=>?_⟩;simp at hx;rw[List.getElem?_append]at hx;split at hx
  ·exact ho i x hx
  ·rename_i hi;obtain⟨q,hq⟩:∃q,i-us.length=q:=⟨_,rfl⟩;rw[hq]at hx
   cases q with
   |zero=>
    have:x=((us.length:Int),sk,l):=by simp_all
    subst this;exact⟨by dsimp only;omega,s0,s1,hl,VC⟩
   |succ q=>simp at hx
theorem Cr{ss:List Int}{ins:List (List Int)}{sk n:Int}(hi:ins.length<=2)(h:∀x∈ins,x.length<=64/\∀w∈x,W16 w)(hn:0<=n/\n<=65535):
 Ok (jO ins sk n) λr=>(∃Yl,r=.inl (Yl,(),false,())/\Yl.length<=2/\∀x∈Yl,x.length<=64/\∀w∈x,W16 w)\/
  (∃Yl l,r=.inr (Yl,l,true,())/\(Yl.length<=2/\∀x∈Yl,x.length<=64/\∀w∈x,W16 w)/\(l.length:Int)<=n/\l.length<=64/\∀c∈l,Pr ss c):=by
 unfold jO;rw[yd (by omega) (λx hx=>by have:=(h x hx).1;omega)];delta dR;simp only[oBS];refine Ok.bind (P:=λr=>∃b:Bool,r=(ins,sk,n,b,ins,())/\(b=false->0<=sk/\sk<ins.length)) ?_ ?_
 ·(with_reducible refine dI (λZ9=>?_) λZ9=>?_)
  ·exact Ok.ret ⟨true,rfl,λh=>by cases h⟩
  (with_reducible refine dI (λZY=>?_) λZY=>?_)
  ·exact Ok.ret ⟨true,rfl,λh=>by cases h⟩
  exact Ok.ret ⟨_,rfl,λ_=>⟨by omega,by omega⟩⟩
 rintro _ ⟨b,rfl,hb⟩;dsimp only
 cases b with
 |true=>exact Ok.ret (Or.inl ⟨_,rfl,hi,h⟩)
 |false=>
 obtain⟨s0,s1⟩:=hb rfl;obtain⟨j,rfl⟩:∃j:Nat,sk=j:=⟨sk.toNat,by omega⟩;obtain⟨x,hx⟩:∃x,ins[j]?=some x:=⟨_,oGE (by omega)⟩;have We:dN ins j=some x:=hx;have hjl:=(oGS hx).1;obtain⟨UM,hxw⟩:=h x (dT hx);simp only[oCF,oBS,dP,We];obtain⟨m1,m2,m3⟩:=ED (a:=n) (b:=(x.length:Int));generalize mmR false n (x.length:Int)=k at m1 m2 m3;obtain⟨q,rfl⟩:∃q:Nat,k=q:=⟨k.toNat,by omega⟩;simp only[dP,oBS];refine dJ (by unfold ge;simp;omega) ?_
 have hw:mZ x 0 (Nat.sub q 0)=x.take q:=by unfold mZ;rw[List.drop_zero];rfl
 have T6:(x.take q).length=q:=by rw[oLT];omega
 rw[hw];simp only[T6]
 have e:ej gc NN ((j:Int),(q:Int),x.take q,(q:Int),0,ins,[],())=some ((j:Int),(q:Int),x.take q,(q:Int),(q:Int),false,ins,(x.take q).map (λw=>(0,w,0,0)),()):=by
  have:=sU (f:=gc) (N:=NN) (st:=λi=>((j:Int),(q:Int),x.take q,(q:Int),(i:Int),ins,((x.take q).take i).map (λw=>((0:Int),w,(0:Int),(0:Int))),())) (n:=q) (t:=((j:Int),(q:Int),x.take q,(q:Int),(q:Int),false,ins,(x.take q).map (λw=>((0:Int),w,(0:Int),(0:Int))),())) (by unfold NN;omega) ?_ ?_
  ·exact this
  ·intro i hi;unfold gc;dsimp only;rw[oDT (show(i:Int)<q by omega),dP];simp only[oCT,oBS];refine Ok.get (by omega) λw hw=>?_;refine dJ (dZ (by simp;omega)) ?_;rw[dS (x:=(i:Int)+1) (by omega) (by omega)];refine Ok.ret ?_;rw[<- sZ (λw=>((0:Int),w,(0:Int),(0:Int))) hw];rfl
  ·unfold gc;dsimp only;rw[oDF (show ¬(q:Int)<q by omega)];refine Ok.ret ?_;rw[show(x.take q).take q=x.take q from List.take_of_length_le (by omega)]
 rw[e];simp only[dP,oBS,We];refine dJ (by unfold ge;simp;omega) ?_;rw[fe hx]
 have hd:∀c∈mZ x q (Nat.sub x.length q),c∈x:=λc hc=>by
  unfold mZ at hc;exact List.mem_of_mem_drop (List.mem_of_mem_take hc)
 have SH:(mZ x q (Nat.sub x.length q)).length<=64:=by
  unfold mZ;rw[oLT,List.length_drop];omega
 refine Ok.ret (.inr ⟨_,_,rfl,⟨by rw[List.length_set];exact hi,lI h ⟨SH,λw hw=>hxw w (hd w hw)⟩⟩,by rw[List.length_map,T6];omega,by rw[List.length_map,T6];omega,λc hc=>?_⟩);obtain⟨w,hw,rfl⟩:=List.mem_map.1 hc;exact jC (hxw w (List.mem_of_mem_take hw))
theorem zD{n:Int}{ss:List Int}{i stop trap count pc call:Int}{args data:List DCn}(hs:zu ss)(h:ww n ss i stop trap count pc call args data)(hn:n<=1099511627776):jU i stop trap count pc call args data=some (true,()):=by
 have ⟨⟨a1,a2⟩,⟨b1,b2⟩,⟨c1,c2⟩,⟨d1,d2⟩,⟨e1,e2⟩,⟨f1,f2⟩,⟨g1,g2⟩,⟨k1,k2⟩,_,_⟩:=h;refine ff ?_;unfold jU;rw[mr hs g2 (by omega) (by omega),mr hs k2 (by omega) (by omega)];refine dJ (oDT a1) (dJ (oDT (by omega)) (dJ (oDT b1) (dJ (oDT b2) (dJ (oDT c1) (dJ (oDT c2) (dJ (oDT d1) (dJ (oDT (by omega)) (dJ (oDT e1) (dJ (oDT e2) (dJ (oDT f1) (dJ (oDT f2) ?_)))))))))));exact Ok.ret rfl
theorem HC{n:Int}{ss:List Int}{i trap count pc call:Int}{args data:List DCn}(h:ww n ss i 1 trap count pc call args data):lR i 1 trap count pc call args data=some (true,()):=by
 obtain⟨hl,hk⟩:=h.hkind rfl;obtain⟨b,eb,hb1,hb2⟩:=AH h.hcall;have h3:=JY call
 have e:ej gT NN (b,args,(args.length:Int),0,i,1,trap,count,pc,call,args,data,())=some (.inr (b,args,(args.length:Int),(args.length:Int),false,i,1,trap,count,pc,call,args,data,())):=by
  refine sU (f:=gT) (N:=NN) (st:=λq=>(b,args,(args.length:Int),(q:Int),i,1,trap,count,pc,call,args,data,())) (n:=args.length) (by unfold NN;omega) ?_ ?_
  ·intro q hq;obtain⟨k,hkq⟩:∃k,(kB call)[q]?=some k:=⟨_,oGE (by omega)⟩;obtain⟨a,ha⟩:∃a,args[q]?=some a:=⟨_,oGE (by omega)⟩;unfold gT;dsimp only;rw[oDT (show(q:Int)<args.length by omega),dP];simp only[oCT,oBS,show dN args q=some a from ha,hb2 q,hkq,Kl,hk q k a hkq ha,oCF];rw[dS (x:=(q:Int)+1) (by omega) (by omega)];exact Ok.ret rfl
  ·unfold gT;dsimp only;rw[oDF (show ¬(args.length:Int)<args.length by omega)];exact Ok.ret rfl
 unfold lR;delta dR
 simp_all
def Ox(call:Int):Bool:=decide ((1<=call/\call<=7)\/call=13\/call=14)
theorem Ow{call:Int}(h:0<=call/\call<=15):pT call=some (Ox call,()):=by
 rcases uV h with rfl|rfl|rfl|rfl|rfl|rfl|rfl|rfl|rfl|rfl|rfl|rfl|rfl|rfl|rfl|rfl<;>rfl
structure Qc (ss:List Int)(t v r o:Int)(data:List DCn)(sp:Int)(w:Bool):Prop where
 val:Pr ss (t,v,r,o)
 dat:data.length<=64/\∀c∈data,Pr ss c
 spn:-1<=sp/\sp<=3
def DoP(ss:List Int)(r:(List (Int))×(List (Int))×(List (List (Int)))×(List (List DCn))×(List DOp)×(List DOu)×Int×Int×Int×Int×(List DCn)×Int×Bool×Int×Unit):Prop:=
 ∃ck rn ins d os us t v rg o data,r=(ck,rn,ins,d,os,us,t,v,rg,o,data,-1,false,0,())/\yz ss ck rn ins d os us/\Pr ss (t,v,rg,o)/\data.length<=16/\∀c∈data,Pr ss c
theorem kv{ss:List Int}{ck rn:List Int}{ins:List (List Int)}{d:List (List DCn)}{os:List DOp}{us:List DOu}{t v rg o:Int}{data:List DCn}(h:yz ss ck rn ins d os us)(hv:Pr ss (t,v,rg,o))(hd:data.length<=16/\∀c∈data,Pr ss c):
 Ok (some (ck,rn,ins,d,os,us,t,v,rg,o,data,(-1:Int),false,(0:Int),())) (DoP ss):=Ok.ret ⟨_,_,_,_,_,_,_,_,_,_,_,rfl,h,hv,hd⟩
theorem Pr.val{ss:List Int}{c:DCn}(h:Pr ss c):W16 c.2.1:=by
 rcases h with⟨_,_,_,h⟩|⟨_,h,_⟩
 ·exact h
 ·rw[h];exact⟨by decide,by decide⟩
theorem Pt{n:Int}{ss:List Int}{i trap count pc call:Int}{args data:List DCn}(h:ww n ss i 1 trap count pc call args data):rq call=0\/rq call=1\/(rq call=2/\∃a,args[2]?=some a/\a.2.1<=16):=by
 by_cases h2:rq call=2
 ·exact .inr (.inr ⟨h2,h.hbuf rfl h2⟩)
 ·have:rq call=0\/rq call=1\/rq call=2:=by unfold rq;split<;>first|omega|(split<;>omega)
  omega
theorem wU{α:Type}{a b:Option α}{Q:α->Prop}(h:Ok a Q)(e:b=a):Ok b Q:=by simp_all
set_option maxHeartbeats 4000000 in
theorem Oe{n:Int}{ss:List Int}{ck rn:List Int}{ins:List (List Int)}{d:List (List DCn)}{os:List DOp}{us:List DOu}{i trap count pc call:Int}{args data:List DCn}(hs:zu ss)(hO:yz ss ck rn ins d os us)(hR:ww n ss i 1 trap count pc call args data)
 (ha:Ox call=true)(hn:n<=1099511627776):Ok (nS ck rn ins d os us i 1 trap count pc call args data) (DoP ss):=by
 have hc:=hR.hcall;have Vv:=hR.hdata;have VT:=hR.hargs;unfold nS;rw[ui hs hO,zD hs hR hn,Ow hc,ha,HC hR,ud hc];simp only[oBS,oNT,oCF,bne_self_eq_false];refine Ok.bind (P:=λr=>r=(false,ck,rn,ins,d,os,us,i,1,trap,count,pc,call,args,data,(),(),(),(),(),(),0,0,0,0,(),0,false,())) ?_ ?_
 ·rcases Pt hR with h|h|⟨h,a,h2,h3⟩
  ·rw[h];exact Ok.ret rfl
  ·rw[h];exact Ok.ret rfl
  ·rw[h];simp only[BEq.rfl,oCT,show dN args 2=some a from h2,oBS];rw[oDF (show ¬a.2.1>16 by omega)];exact Ok.ret rfl
 rintro _ rfl;dsimp only;delta dR;simp only[oCF,DX hO,oBS]
 refine Ok.loop (P:=λs'=>∃(k:Nat)(vs:List Int),s'=(args,(args.length:Int),(k:Int),ck,rn,ins,d,os,us,i,1,trap,count,pc,call,args,data,(),(),(),(),(),(),0,0,0,0,(),0,false,ck,rn,ins,d,os,us,vs,())/\k<=args.length/\vs.length=3/\(∀v∈vs,W16 v)/\∀(j:Nat) a,j<k->args[j]?=some a->vs[j]?=some a.2.1)
  (R:=λr=>∃(z:Int)(vs:List Int),r=(args,(args.length:Int),z,false,ck,rn,ins,d,os,us,i,1,trap,count,pc,call,args,data,(),(),(),(),(),(),0,0,0,0,(),0,false,ck,rn,ins,d,os,us,vs,())/\vs.length=3/\(∀v∈vs,W16 v)/\∀(j:Nat) a,args[j]?=some a->vs[j]?=some a.2.1) (m:=λs'=>(s'.2.1-s'.2.2.1).toNat)
  ⟨0,[0,0,0],rfl,by omega,rfl,all_cons ⟨by decide,by decide⟩ (all_cons ⟨by decide,by decide⟩ (all_cons ⟨by decide,by decide⟩ eJ)),λj a hj=>by omega⟩ (by unfold NN;dsimp only;omega) ?_ ?_
 ·rintro _ ⟨k,vs,rfl,hk,R7,T5,hva⟩;unfold sE;dsimp only
  (with_reducible refine dI (λZ9=>?_) λZ9=>?_)
  ·simp only[dP,oBS];refine Ok.get (by omega) λa hak=>?_;have hw:=(VT.2 a (dT hak)).val;refine Ok.get (by omega) λv hv=>?_;refine Ok.get (by omega) λ_ _=>?_;rw[dW (x:=a.2.1) (by have:=hw.1;omega) (by have:=hw.2;omega),dS (x:=(k:Int)+1) (by omega) (by omega),fe hv];refine Ok.ret ⟨⟨k+1,_,rfl,by omega,by rw[List.length_set];exact R7,lI T5 hw,λj a' hj TP=>?_⟩,by dsimp only;omega⟩;by_cases e:k=j
   ·subst e;rw[hak]at TP;cases TP;exact iD (by omega) _
   ·rw[re e];exact hva j a' (by omega) TP
  ·refine Ok.ret ⟨_,vs,rfl,R7,T5,λj a TP=>hva j a ?_ TP⟩;have:=(oGS TP).1;omega
 rintro _ ⟨z,vs,rfl,R7,T5,hva⟩;obtain⟨v0,TL,Yj⟩:=f9 0 false
 obtain⟨a0,a1,a2,rfl⟩:∃a b c,vs=[a,b,c]:=by
  match vs,R7 with
  | [a,b,c],_=>exact⟨a,b,c,rfl⟩
 have w0:W16 a0:=T5 a0 (by simp);have w1:W16 a1:=T5 a1 (by simp);have w2:W16 a2:=T5 a2 (by simp);have g0:dN [a0,a1,a2] 0=some a0:=rfl;have g1:dN [a0,a1,a2] 1=some a1:=rfl;have g2:dN [a0,a1,a2] 2=some a2:=rfl
 have Sc:rq call=2->a2<=16:=λh=>by
  obtain⟨a,h2,h3⟩:=hR.hbuf rfl h;have:=hva 2 a h2
  have:a2=a.2.1:=by simpa using this
  omega
 have Zx:([]:List DCn).length<=16/\∀c∈([]:List DCn),Pr ss c:=⟨by decide,eJ⟩;dsimp only;simp only[TL,oBS,g0,g1,g2];rcases uV hc with rfl|rfl|rfl|rfl|rfl|rfl|rfl|rfl|rfl|rfl|rfl|rfl|rfl|rfl|rfl|rfl
 all_goals first|(exact absurd ha (by decide))|simp only[Int.reduceBEq,oCT,oCF]
 ·obtain⟨_,e,d1,T9,m,b,rfl,hF,_⟩:=GK (h:=a0) hs hO.files Vv.1 Vv.2;obtain⟨v,ev,hv⟩:=f9 m b;simp only[e,ev,oBS];exact kv ⟨hO.clock,hO.rand,hO.ilen,hO.inp,hF,hO.ulen,hO.outs⟩ (jC hv) Zx
 ·have Yh:=Sc rfl;obtain⟨_,e,hr⟩:=Jo (h:=a0) (n:=a2) hO.files w2
  rcases hr with⟨d1,T9,rfl,hF⟩|⟨d1,T9,l,rfl,hF,hl,_,VC⟩
  ·simp only[e,TL,oBS];exact kv ⟨hO.clock,hO.rand,hO.ilen,hO.inp,hF,hO.ulen,hO.outs⟩ (jC Yj) Zx
  ·obtain⟨v,ev,hv⟩:=f9 (l.length:Int) true;simp only[e,ev,oBS];exact kv ⟨hO.clock,hO.rand,hO.ilen,hO.inp,hF,hO.ulen,hO.outs⟩ (jC hv) ⟨by omega,VC⟩
 ·obtain⟨_,e,d1,T9,h,rfl,hF,h0,h7⟩:=LD (file:=a0) (mode:=a1) hO.files;simp only[e,oBS];have VF:yz ss ck rn ins d1 T9 us:=⟨hO.clock,hO.rand,hO.ilen,hO.inp,hF,hO.ulen,hO.outs⟩;by_cases hh:h>=0
  ·simp only[oDT hh,oCT];exact kv VF (O2 (nR _)) Zx
  ·simp only[oDF hh,oCF];exact kv VF (jC Yj) Zx
 ·obtain⟨_,e,d1,T9,b,rfl,hF⟩:=H6 (h:=a0) hO.files;obtain⟨v,ev,hv⟩:=f9 0 b;simp only[e,ev,oBS];exact kv ⟨hO.clock,hO.rand,hO.ilen,hO.inp,hF,hO.ulen,hO.outs⟩ (jC hv) Zx
 ·obtain⟨_,e,d1,T9,b,rfl,hF⟩:=Jb (h:=a0) (n:=a1) hO.files;obtain⟨v,ev,hv⟩:=f9 0 b;simp only[e,ev,oBS];exact kv ⟨hO.clock,hO.rand,hO.ilen,hO.inp,hF,hO.ulen,hO.outs⟩ (jC hv) Zx
 ·cases ck with
  |nil=>exact kv hO (jC Yj) Zx
  |cons x ck=>
   obtain⟨v,ev,hv⟩:=f9 (wk .i64 x) true
   have hw:mZ (x::ck) 1 (Nat.sub (x::ck).length 1)=ck:=by unfold mZ;simp
   refine wU (kv (ck:=ck) ⟨⟨by have:=hO.clock.1;simp at this;omega,λw hw=>hO.clock.2 w (by simp[hw])⟩,hO.rand,hO.ilen,hO.inp,hO.files,hO.ulen,hO.outs⟩ (jC hv) Zx) ?_;simp only[oLC,show dN (x::ck) 0=some x from rfl,oBS,ev];have hd:∀inst:Decidable (((ck.length+1:Nat):Int)>0),@decide _ inst=true:=λinst=>oDT (by omega);rw[oLC]at hw;rw[hd,show ge 1 (ck.length+1) (ck.length+1)=true by unfold ge;simp,hw];rfl
 ·cases rn with
  |nil=>exact kv hO (jC Yj) Zx
  |cons x rn=>
   obtain⟨v,ev,hv⟩:=f9 (wk .i64 x) true
   have hw:mZ (x::rn) 1 (Nat.sub (x::rn).length 1)=rn:=by unfold mZ;simp
   refine wU (kv (rn:=rn) ⟨hO.clock,⟨by have:=hO.rand.1;simp at this;omega,λw hw=>hO.rand.2 w (by simp[hw])⟩,hO.ilen,hO.inp,hO.files,hO.ulen,hO.outs⟩ (jC hv) Zx) ?_;simp only[oLC,show dN (x::rn) 0=some x from rfl,oBS,ev];have hd:∀inst:Decidable (((rn.length+1:Nat):Int)>0),@decide _ inst=true:=λinst=>oDT (by omega);rw[oLC]at hw;rw[hd,show ge 1 (rn.length+1) (rn.length+1)=true by unfold ge;simp,hw];rfl
 ·obtain⟨_,e,us1,m,b,rfl,hu,ho⟩:=Ja (sk:=a0) hO.ulen hO.outs Vv.1 Vv.2;obtain⟨v,ev,hv⟩:=f9 m b;simp only[e,ev,oBS];exact kv ⟨hO.clock,hO.rand,hO.ilen,hO.inp,hO.files,hu,ho⟩ (jC hv) Zx
 ·have Yh:=Sc rfl;obtain⟨_,e,hr⟩:=Cr (ss:=ss) (sk:=a0) (n:=a2) hO.ilen hO.inp w2
  rcases hr with⟨in1,rfl,WN,YH⟩|⟨in1,l,rfl,⟨WN,YH⟩,hl,_,VC⟩
  ·simp only[e,TL,oBS];exact kv ⟨hO.clock,hO.rand,WN,YH,hO.files,hO.ulen,hO.outs⟩ (jC Yj) Zx
  ·obtain⟨v,ev,hv⟩:=f9 (l.length:Int) true;simp only[e,ev,oBS];exact kv ⟨hO.clock,hO.rand,WN,YH,hO.files,hO.ulen,hO.outs⟩ (jC hv) ⟨by omega,VC⟩
def F1(bs:List Int)(key:Int)(c:DCn):DCe:=if c.1=0 then(0,c.2.1)else if c.1=2 then(2,wk .u16 (c.2.1+key))else(1,wk .u16 (bs.getD c.2.2.1.toNat 0+c.2.2.2))
theorem F5{bs ss:List Int}(h:LV bs ss){r o n:Int}(h1:0<=r)(h2:ss[r.toNat]?=some n)(h3:0<=o)(h4:o<n):∃b,bs[r.toNat]?=some b/\0<=b+o/\b+o<512/\b<=b+o/\b+o<b+n:=by
 have ⟨hs,hl,hr⟩:=h;have hj:=(oGS h2).1;have ⟨b,hb⟩:∃b,bs[r.toNat]?=some b:=⟨_,oGE (by omega)⟩;have WS:=hr r.toNat (by omega);unfold zw at WS;rw[fC hb,fC h2]at WS;exact⟨b,hb,by omega,by omega,by omega,by omega⟩
theorem F0{bs ss:List Int}{key:Int}{c:DCn}(h:LV bs ss)(hc:Pr ss c):iA bs key ss c.1 c.2.1 c.2.2.1 c.2.2.2=some ((F1 bs key c).1,(F1 bs key c).2,0,())/\nQ (RK bs ss) (F1 bs key c):=by
 unfold iA F1;rw[oP hc]
 rcases hc with⟨h1|h1,h2,h3,h4⟩|⟨h1,h2,h3,n,h5,h6,h7⟩
 ·rw[h1];exact⟨rfl,lM h4⟩
 ·rw[h1];exact⟨rfl,(show(0:Int)<=2 by decide),(show(2:Int)<=2 by decide),(nR _).1,(nR _).2,λe=>absurd (show(2:Int)=1 from e) (by decide)⟩
 ·obtain⟨b,hb,b0,b1,b2,b3⟩:=F5 h h3 h5 h6 h7;obtain⟨j,hj⟩:∃j:Nat,c.2.2.1=j:=⟨c.2.2.1.toNat,by omega⟩;rw[hj]at hb h5⊢;rw[h1,fC hb];simp[Int.reduceBEq,Int.reduceEq,oCF,if_false,dP,oBS,show dN bs j=some b from hb];rw[dS (by omega) (by omega),ek (by omega) (by omega)];exact⟨rfl,by omega,by omega,by omega,by omega,λ_=>⟨j,b,n,hb,h5,b2,b3⟩⟩
theorem If{bs ss:List Int}{key r o n:Int}(h:LV bs ss)(h1:0<=r)(h2:ss[r.toNat]?=some n)(h3:0<=o)(h4:o<n):∃a,j3 bs key ss r o=some (a,0,())/\0<=a/\a<512/\a=bs.getD r.toNat 0+o:=by
 have ⟨b,hb,b0,b1,_⟩:=F5 h h1 h2 h3 h4;obtain⟨j,rfl⟩:∃j:Nat,r=j:=⟨r.toNat,by omega⟩;unfold j3;rw[C5 h1 h2 h3 h4];simp[dP,show dN bs j=some b from hb];rw[dS (by omega) (by omega)]
 simp_all
theorem LK(pc t v:Int):oJ pc t v=some (1,[(t,v),(0,0),(0,0),(0,0),(0,0),(0,0),(0,0),(0,0)],pc,0,-1,-1,0,0,()):=rfl
def Qd(n key:Int)(ss bs:List Int)(r:Bool×(List (Int))×Int×(List DCe)×(List DLn)×(List DTh)×Unit):Prop:=∃b Z3 Z0 Zl,r=(b,bs,key,Z3,Z0,Zl,())/\(b=true->MOk n ss bs Z3 Z0 Zl)
theorem xj{n key:Int}{ss bs:List Int}{cs:List DCe}{ls:List DLn}{ts:List DTh}:Ok (some (false,bs,key,cs,ls,ts,())) (Qd n key ss bs):=Ok.ret ⟨_,_,_,_,rfl,λh=>by cases h⟩
theorem pS{n key ct cv:Int}{ss bs:List Int}{cs:List DCe}{ls:List DLn}{ts:List DTh}{i:Nat}(h:MOk n ss bs cs ls ts)(hi:i<4)(hc:nQ (RK bs ss) (ct,cv)):
 Ok ((dN ts i).bind λ_=>(dN ts i).bind λx75=>(dN x75.2.1 0).bind λ_=>(dN ts i).bind λx77=>(dN x77.2.1 0).bind λ_=>(dN (List.modify ts i λe=>(e.1,((List.modify e.2.1 0 λ_=>(ct,cv)),e.2.2))) i).bind λ_=>
  some (true,bs,key,cs,ls,List.modify (List.modify ts i λe=>(e.1,((List.modify e.2.1 0 λ_=>(ct,cv)),e.2.2))) i λe=>((1:Int),e.2),())) (Qd n key ss bs):=by
 have Xi:=h.tlen;have ⟨t,ht⟩:∃t,ts[i]?=some t:=⟨_,oGE (by omega)⟩;have hg:dN ts i=some t:=ht;have YL:=(oGS ht).1;have hok:=h.thr t (dT ht);have ⟨c,hc0⟩:∃c,t.2.1[0]?=some c:=⟨_,oGE (by have:=hok.len;omega)⟩;simp[hg,show dN t.2.1 0=some c from hc0,fe ht,fe hc0,iD YL,nY YL];exact Ok.ret ⟨_,_,_,_,rfl,λ_=>h.set h.mem ⟨⟨show(0:Int)<=1 by decide,show(1:Int)<=4 by decide⟩,by dsimp only;rw[List.length_set];exact hok.len,lI hok.regs hc,hok.pc,hok.count,hok.handler,hok.saved,hok.trap,hok.code⟩⟩
theorem GN{K:Int->Prop}{n pc:Int}{rs:List DCe}(hl:rs.length=8)(hr:∀c∈rs,nQ K c)(hp:0<=pc/\pc<=255)(hn:0<=n):yy K n (1,rs,pc,0,-1,-1,0,0):=
 ⟨⟨show(0:Int)<=1 by decide,show(1:Int)<=4 by decide⟩,hl,hr,hp,⟨show(0:Int)<=0 by decide,hn⟩,⟨show(-1:Int)<=-1 by decide,show(-1:Int)<=255 by decide⟩,⟨show(-1:Int)<=-1 by decide,show(-1:Int)<=255 by decide⟩,⟨show(0:Int)<=0 by decide,show(0:Int)<=6 by decide⟩,⟨show(0:Int)<=0 by decide,show(0:Int)<=65535 by decide⟩⟩
theorem MOk.mk_mem{n:Int}{ss bs:List Int}{cs Z3:List DCe}{ls Z0:List DLn}{ts:List DTh}(h:MOk n ss bs cs ls ts)(hm:kM (RK bs ss) Z3 Z0):MOk n ss bs Z3 Z0 ts:=⟨h.lay,hm,h.tlen,h.thr⟩
set_option maxHeartbeats 4000000 in
theorem Lx{n m key:Int}{code:List DIn}{ss bs:List Int}{dd:List (List Int)}{cs:List DCe}{ls:List DLn}{ts:List DTh}{i:Nat}{trap count pc call:Int}{args data:List DCn}{t v rg o sp:Int}{dat:List DCn}{w:Bool}(h:MOk n ss bs cs ls ts)(hi:i<4)
 (hR:ww m ss (i:Int) 1 trap count pc call args data)(hv:Pr ss (t,v,rg,o))(hd:dat.length<=16/\∀c∈dat,Pr ss c)(ZC:-1<=sp/\sp<=3):
 Ok (oG code ss dd (i:Int) 1 trap count pc call args data t v rg o dat sp w bs key cs ls ts) (Qd n key ss bs):=by
 have hL:=h.lay;have Xi:=h.tlen;obtain⟨Zr,Yp⟩:=hR.hkind rfl;have hargs:=hR.hargs;obtain⟨VI,Yr⟩:=F0 (key:=key) hL hv;obtain⟨th,X5⟩:∃th,ts[i]?=some th:=⟨_,oGE (by omega)⟩;have hok:=h.thr th (dT X5);have hc0:=hok.count;have YL:=(oGS X5).1;dsimp only at VI;unfold oG;delta dR;rw[dP,VI,ud hR.hcall];simp only[oBS,bne_self_eq_false,oCF];refine Ok.get YL λ_ _=>?_;have ZX:=pS (key:=key) (ct:=(F1 bs key (t,v,rg,o)).1) (cv:=(F1 bs key (t,v,rg,o)).2) h hi Yr
 have buf:rq call=2->dat.length>0->∃a:DCn,args[1]?=some a/\Pr ss a/\a.1=1/\∃y,ej kP NN (i,dat,(dat.length:Int),0,bs,key,cs,ls,ts,code,ss,dd,(i:Int),1,trap,count,pc,call,args,data,t,v,rg,o,dat,sp,w,(F1 bs key (t,v,rg,o)).1,(F1 bs key (t,v,rg,o)).2,a.2.2.1,a.2.2.2,())=some y /\
  ((∃Z3 Z0,y=.inl (false,bs,key,Z3,Z0,ts,()))\/(∃Z3 Z0 z f,y=.inr (i,dat,(dat.length:Int),z,false,bs,key,Z3,Z0,ts,code,ss,dd,(i:Int),1,trap,count,pc,call,args,data,t,v,rg,o,dat,sp,w,(F1 bs key (t,v,rg,o)).1,(F1 bs key (t,v,rg,o)).2,a.2.2.1,f,())/\kM (RK bs ss) Z3 Z0)):=by
  intro hb ZZ
  have hkk:(kB call)[1]?=some 80:=by
   have:call=2\/call=14:=by unfold rq at hb;split at hb<;>first|omega|(split at hb<;>omega)
   rcases this with rfl|rfl<;>rfl
  have Xs:=(oGS hkk).1;obtain⟨a,ha⟩:∃a,args[1]?=some a:=⟨_,oGE (by omega)⟩;have VT:=hargs.2 a (dT ha);have ZW:=Yp 1 80 a hkk ha
  have Xq:a.1=1:=by unfold Mb at ZW;simpa using ZW
  have ha32:0<=a.2.2.2/\a.2.2.2<=32:=by
   rcases VT with⟨g,_⟩|⟨_,_,_,z,g1,g2,g3⟩
   ·omega
   ·have:=hL.1.2.2 z (dT g1);omega
  refine⟨a,ha,VT,Xq,?_⟩
  refine gX (f:=kP) (n:=NN) (P:=λs'=>∃k:Nat,∃Z3 Z0,s'=(i,dat,(dat.length:Int),(k:Int),bs,key,Z3,Z0,ts,code,ss,dd,(i:Int),1,trap,count,pc,call,args,data,t,v,rg,o,dat,sp,w,(F1 bs key (t,v,rg,o)).1,(F1 bs key (t,v,rg,o)).2,a.2.2.1,a.2.2.2+k,())/\k<=dat.length/\kM (RK bs ss) Z3 Z0)
   (R:=λy=>(∃Z3 Z0,y=.inl (false,bs,key,Z3,Z0,ts,()))\/(∃Z3 Z0 z f,y=.inr (i,dat,(dat.length:Int),z,false,bs,key,Z3,Z0,ts,code,ss,dd,(i:Int),1,trap,count,pc,call,args,data,t,v,rg,o,dat,sp,w,(F1 bs key (t,v,rg,o)).1,(F1 bs key (t,v,rg,o)).2,a.2.2.1,f,())/\kM (RK bs ss) Z3 Z0))
   (m:=λs'=>(s'.2.2.1-s'.2.2.2.1).toNat) ⟨0,cs,ls,by simp,by omega,h.mem⟩ (by unfold NN;dsimp only;omega) ?_
  rintro _ ⟨k,Z3,Z0,rfl,hk,hm⟩;unfold kP;dsimp only
  (with_reducible refine dI (λZ9=>?_) λZ9=>?_)
  ·rw[dP];simp only[oBS];refine Ok.get (by omega) λc hc=>?_;obtain⟨Z7,XQ⟩:=F0 (key:=key) hL (hd.2 c (dT hc));rw[Z7];simp only[oBS,bne_self_eq_false,oCF];refine zY.bind ?_;rintro⟨q,_⟩ hin;dsimp only at hin⊢
   (with_reducible refine dI (λZY=>?_) λZY=>?_)
   ·exact Ok.ret (.inl ⟨_,_,rfl⟩)
   ·obtain⟨g1,g2,z,g3,g4⟩:=hin ZY;obtain⟨ad,ea,a0,a1,_⟩:=If (key:=key) hL g1 g3 g2 g4;rw[ea];simp only[oBS];refine(zH hm ⟨a0,a1⟩ XQ).bind ?_;rintro _ ⟨Vm,VO,rfl,hm2⟩;dsimp only;rw[dS (x:=a.2.2.2+k+1) (by omega) (by omega),dS (x:=(k:Int)+1) (by omega) (by omega)];exact Ok.ret ⟨⟨k+1,_,_,by rw[show a.2.2.2+((k+1:Nat):Int)=a.2.2.2+k+1 by omega];rfl,by omega,hm2⟩,by dsimp only;omega⟩
  ·exact Ok.ret (.inr ⟨_,_,_,_,rfl,hm⟩)
 rcases uV hR.hcall with rfl|rfl|rfl|rfl|rfl|rfl|rfl|rfl|rfl|rfl|rfl|rfl|rfl|rfl|rfl|rfl
 case inr.inr.inl=>
  simp only[show((rq 2)==2)=true from rfl,oCT];by_cases ZZ:dat.length>0
  ·obtain⟨a,ha,VT,Xq,y,ey,hy⟩:=buf rfl ZZ;simp only[oDT (show((dat.length:Nat):Int)>0 by omega),oCT,show dN args 1=some a from ha,oBS,oP VT,oNT,oCF,bne_eq_false_iff_eq.2 Xq,ey]
   rcases hy with⟨Z3,Z0,rfl⟩|⟨Z3,Z0,z,f,rfl,hm⟩
   ·exact xj
   ·simp only[Int.reduceBEq,oCF];exact pS (h.mk_mem hm) hi Yr
  ·simp only[oDF (show ¬((dat.length:Nat):Int)>0 by omega),oCF,Int.reduceBEq];exact ZX
 case inr.inr.inr.inr.inr.inr.inr.inr.inr.inr.inr.inr.inr.inr.inl=>
  simp only[show((rq 14)==2)=true from rfl,oCT];by_cases ZZ:dat.length>0
  ·obtain⟨a,ha,VT,Xq,y,ey,hy⟩:=buf rfl ZZ;simp only[oDT (show((dat.length:Nat):Int)>0 by omega),oCT,show dN args 1=some a from ha,oBS,oP VT,oNT,oCF,bne_eq_false_iff_eq.2 Xq,ey]
   rcases hy with⟨Z3,Z0,rfl⟩|⟨Z3,Z0,z,f,rfl,hm⟩
   ·exact xj
   ·simp only[Int.reduceBEq,oCF];exact pS (h.mk_mem hm) hi Yr
  ·simp only[oDF (show ¬((dat.length:Nat):Int)>0 by omega),oCF,Int.reduceBEq];exact ZX
 case inr.inr.inr.inr.inr.inr.inr.inr.inr.inr.inr.inr.inl=>
  obtain⟨a,ha⟩:∃a,args[0]?=some a:=⟨_,oGE (by rw[Zr];decide)⟩;have hva:=(hargs.2 a (dT ha)).val;simp only[show((rq 12)==2)=false from rfl,oCF,Int.reduceBEq,oCT,show dN args 0=some a from ha,oBS];rw[dW (x:=a.2.1) (by have:=hva.1;omega) (by have:=hva.2;omega)];by_cases h1:a.2.1>255
  ·simp only[oDT h1,oCT];exact xj
  by_cases h2:a.1=0
  ·simp only[oDF h1,oCF,bne_eq_false_iff_eq.2 h2,show dN ts i=some th from X5,oBS,fe X5];exact pS (h.set h.mem ⟨hok.state,hok.len,hok.regs,hok.pc,hok.count,⟨by dsimp only;have:=hva.1;omega,by dsimp only;omega⟩,hok.saved,hok.trap,hok.code⟩) hi Yr
  ·simp only[oDF h1,oCF,bne_iff_ne.2 h2,oCT];exact xj
 case inr.inr.inr.inr.inr.inr.inr.inr.inr.inr.inl=>
  obtain⟨a,ha⟩:∃a,args[0]?=some a:=⟨_,oGE (by rw[Zr];decide)⟩;obtain⟨c,hc⟩:∃c,args[1]?=some c:=⟨_,oGE (by rw[Zr];decide)⟩;have hva:=(hargs.2 a (dT ha)).val;obtain⟨Z7,XQ⟩:=F0 (key:=key) hL (hargs.2 c (dT hc));simp only[show((rq 10)==2)=false from rfl,oCF,Int.reduceBEq,oCT];by_cases hsp0:sp>=0
  ·obtain⟨j,rfl⟩:∃j:Nat,sp=j:=⟨sp.toNat,by omega⟩;obtain⟨tj,Rg⟩:∃tj,ts[j]?=some tj:=⟨_,oGE (by omega)⟩;simp only[oDT hsp0,oCT,show dN args 0=some a from ha,show dN args 1=some c from hc,oBS,Z7,bne_self_eq_false,oCF,dP,show dN ts j=some tj from Rg];rw[dW (x:=a.2.1) (by have:=hva.1;omega) (by have:=hva.2;omega)];by_cases h0:tj.1=0
   ·by_cases h1:a.2.1>255
    ·simp only[bne_eq_false_iff_eq.2 h0,oCF,oDT h1,oCT,oBS];exact xj
    by_cases h2:a.1=0
    ·simp only[bne_eq_false_iff_eq.2 h0,oDF h1,oCF,bne_eq_false_iff_eq.2 h2,oBS,show dN args 0=some a from ha,dW (x:=a.2.1) (by have:=hva.1;omega) (by have:=hva.2;omega),LK,dP,show dN ts j=some tj from Rg,fe Rg];refine pS (h.set h.mem (GN rfl (all_cons XQ ?_) ⟨hva.1,by omega⟩ (by omega))) hi Yr;exact all_cons (lM (by decide)) (all_cons (lM (by decide)) (all_cons (lM (by decide)) (all_cons (lM (by decide)) (all_cons (lM (by decide)) (all_cons (lM (by decide)) (all_cons (lM (by decide)) eJ))))))
    ·simp only[bne_eq_false_iff_eq.2 h0,oDF h1,oCF,bne_iff_ne.2 h2,oCT,oBS];exact xj
   ·simp only[bne_iff_ne.2 h0,oCT,oBS];exact xj
  ·simp only[oDF hsp0,oCF];exact ZX
 all_goals
  simp only[show((rq 0)==2)=false from rfl,show((rq 1)==2)=false from rfl,show((rq 3)==2)=false from rfl,show((rq 4)==2)=false from rfl,show((rq 5)==2)=false from rfl,show((rq 6)==2)=false from rfl,show((rq 7)==2)=false from rfl,
   show((rq 8)==2)=false from rfl,show((rq 9)==2)=false from rfl,show((rq 11)==2)=false from rfl,show((rq 13)==2)=false from rfl,show((rq 15)==2)=false from rfl,oCF,Int.reduceBEq]
  exact ZX
def gM(c:Int×Int×Int×Int):Prop:=
 ((c.1=0\/c.1=2)/\c.2.2.1=0/\c.2.2.2=0/\0<=c.2.1/\c.2.1<=65535)\/
 (c.1=1/\c.2.1=0/\((c.2.2.1=-1/\0<=c.2.2.2/\c.2.2.2<=65535)\/(0<=c.2.2.1/\c.2.2.1<4/\0<=c.2.2.2/\c.2.2.2<32)))
structure MV (a0 a1 a2 a3 a4 a5:Int)(a6 a7:List (Int×Int×Int×Int)):Prop where
 thread:0<=a0/\a0<=3
 stop:0<=a1/\a1<=3
 trap:0<=a2/\a2<=6
 count:0<=a3/\a3<=1099511627776
 pc:0<=a4/\a4<=255
 call:0<=a5/\a5<=15
 args:(∀c∈a6,gM c)/\a6.length<=3
 data:(∀c∈a7,gM c)/\a7.length<=16
theorem Pr.cell{ss:List Int}{c:DCn}(hs:zu ss)(h:Pr ss c):gM c:=by
 rcases h with⟨h1,h2,h3,h4⟩|⟨h1,h2,h3,n,h4,h5,h6⟩
 ·exact .inl ⟨h1,h2,h3,h4.1,h4.2⟩
 ·have hn:=hs.2.2 n (dT h4);have hl:=(oGS h4).1;have WF:=hs.2.1;exact .inr ⟨h1,h2,.inr ⟨h3,by omega,h5,by omega⟩⟩
theorem ww.z{n:Int}{ss:List Int}{i stop trap count pc call:Int}{args data:List DCn}(hs:zu ss)(h:ww n ss i stop trap count pc call args data)(hn:n<=1099511627776):MV i stop trap count pc call args data:=
 ⟨⟨h.hthr.1,by have:=h.hthr.2;omega⟩,h.hstop,h.htrap,⟨h.hcnt.1,by have:=h.hcnt.2;omega⟩,h.hpc,h.hcall,⟨λc hc=>(h.hargs.2 c hc).cell hs,h.hargs.1⟩,⟨λc hc=>(h.hdata.2 c hc).cell hs,h.hdata.1⟩⟩
inductive Il:DEn->Prop
 |slice {i k stop trap count pc call:Int} {args data:List DCn}:MV i stop trap count pc call args data->stop≠3->1<=k/\k<=64->Il (1,i,k,i,stop,trap,count,pc,call,args,data,0,0,0,0,[],0,false)
 |result {i trap count pc call:Int} {args data:List DCn} {t v rg o sp:Int} {dat:List DCn} {w:Bool}:MV i 1 trap count pc call args data->gM (t,v,rg,o)->(∀c∈dat,gM c)/\dat.length<=16->-1<=sp/\sp<=3->Il (2,i,0,i,1,trap,count,pc,call,args,data,t,v,rg,o,dat,sp,w)
 |signal {i:Int}:0<=i/\i<=3->Il (3,i,0,0,0,0,0,0,0,[],[],0,0,0,0,[],0,false)
 |wake {i t v rg o:Int}:0<=i/\i<=3->gM (t,v,rg,o)->Il (4,i,0,0,0,0,0,0,0,[],[],t,v,rg,o,[],-1,false)
theorem rP{rec:List DEn}{x:DEn}(h:∀e∈rec,Il e)(hx:Il x):∀e∈List.append rec [x],Il e:=gE h (λe he=>by rw[List.mem_singleton.1 he];exact hx)
def OL(js:List Int):Prop:=∀(u:Nat)(j:Int),js[u]?=some j->j≠u
theorem OL.set{js:List Int}{i:Nat}{x:Int}(h:OL js)(hx:x≠i):OL (js.set i x):=by
 intro u j hj;rw[List.getElem?_set]at hj;split at hj
 ·rename_i hiu;subst hiu;split at hj
  ·injection hj with hj
   rw[<- hj];exact hx
  ·cases hj
 ·exact h u j hj
theorem oR{S T:Type}{f:S->Option (S⊕T)}(P:S->Prop)(Q:T->Prop)(m:S->Nat)
 (h:∀s,P s->(∃s',f s=some (.inl s')/\P s'/\m s'<m s)\/∃t,f s=some (.inr t)/\Q t):∀n s,P s->m s<n->∃t,ej f n s=some t/\Q t:=by
 intro n
 induction n with
 |zero=>omega
 |succ n ih=>
  intro s hp hm
  rcases h s hp with⟨s',e,hp',hm'⟩|⟨t,e,hq⟩
  ·have ⟨t,e2,hq⟩:=ih s' hp' (by omega);exact⟨t,by simp[ej,e];exact e2,hq⟩
  ·exact⟨t,by simp[ej,e],hq⟩
theorem zA{x:Int}(h0:0<=x)(h1:x<=65535):wk .u16 x=x:=by
 unfold wk;rw[wy];omega
theorem gS{b n m:Nat}(hb:b<=1000)(h:n+m<=1000000):dX b n m=true:=by
 have h2:=Nat.mul_le_mul h hb;simp[dX];omega
def be:Nat->Int->List Int
 |0,_=>[]
 |n+1,v=>(v/256 ^ n)%256::be n v
def cb(c:Int×Int×Int×Int):List Int:=if c.1=1 then[1,c.2.2.1+1]++be 2 c.2.2.2 else[c.1,0]++be 2 c.2.1
def lb(xs:List (Int×Int×Int×Int)):List Int:=(xs.length:Int)::xs.flatMap cb
section
variable {a0 a1 a2 a3 a4 a5:Int} {a6 a7:List (Int×Int×Int×Int)}
def rb(a0 a1 a2 a3 a4 a5:Int)(a6 a7:List (Int×Int×Int×Int)):List Int:=a0::a1::a2::(be 6 a3++a4::a5::(lb a6++lb a7))
end
def val(v:Int):List Int->Int
 | []=>v
 |x::r=>val (v*256+x) r
section
variable {a0 a1 a2 a3 a4 a5:Int} {a6 a7:List (Int×Int×Int×Int)}
end
theorem P1{α:Type}(a b:List α):List.append a b=a++b:=rfl
def xb(t v rg o:Int)(dat:List DCn)(sp:Int)(w:Bool):List Int:=cb (t,v,rg,o)++(sp+1)::(bif w then 1 else 0)::lb dat
def wb:DEn->List Int
 |(k,i,n,a0,a1,a2,a3,a4,a5,a6,a7,t,v,rg,o,dat,sp,w)=>
  k::i::n::(be 2 (if k=1\/k=2 then rb a0 a1 a2 a3 a4 a5 a6 a7 else[]).length++((if k=1\/k=2 then rb a0 a1 a2 a3 a4 a5 a6 a7 else[])++(if k=2\/k=4 then xb t v rg o dat sp w else[])))
theorem nilc:(∀c∈([]:List DCn),gM c)/\([]:List DCn).length<=16:=⟨(λc hc=>by cases hc),by decide⟩
section
variable (i n a0 a1 a2 a3 a4 a5:Int) (a6 a7:List DCn) (t v rg o:Int) (dat:List DCn) (sp:Int) (w:Bool)
end
def enV(e:DEn):Option (Bool×Unit):=gh e.1 e.2.1 e.2.2.1 e.2.2.2.1 e.2.2.2.2.1 e.2.2.2.2.2.1 e.2.2.2.2.2.2.1 e.2.2.2.2.2.2.2.1 e.2.2.2.2.2.2.2.2.1 e.2.2.2.2.2.2.2.2.2.1 e.2.2.2.2.2.2.2.2.2.2.1 e.2.2.2.2.2.2.2.2.2.2.2.1 e.2.2.2.2.2.2.2.2.2.2.2.2.1 e.2.2.2.2.2.2.2.2.2.2.2.2.2.1 e.2.2.2.2.2.2.2.2.2.2.2.2.2.2.1 e.2.2.2.2.2.2.2.2.2.2.2.2.2.2.2.1 e.2.2.2.2.2.2.2.2.2.2.2.2.2.2.2.2.1 e.2.2.2.2.2.2.2.2.2.2.2.2.2.2.2.2.2
theorem OU:∀xs:List DCn,∃r,fm xs []=some (r,())
 | []=>⟨true,by kernel_rfl⟩
 |x::xs=>⟨false,by
  have h:(((x::xs).length:Int) != (([]:List DCn).length:Int))=true:=by
   rw[bne_iff_ne,oLC,List.length_nil];omega
  unfold fm
  simp only[dV,h,oCT]⟩
theorem NE(a0 a1 a2 a3 a4 a5:Int)(a6 a7:List DCn):∃r,fS a0 a1 a2 a3 a4 a5 a6 a7 0 0 0 0 0 0 [] []=some (r,()):=by
 obtain⟨r,e1⟩:=OU a6;obtain⟨s,e2⟩:=OU a7;unfold fS;rw[e1,e2];cases a0==0<;>cases a1==0<;>cases a2==0<;>cases a3==0<;>cases a4==0<;>cases a5==0<;>cases r<;>exact⟨_,rfl⟩
def eb(l:List DEn):List Int:=l.flatMap wb
def mn(c:Int×Int×Int×Int):Prop:=
 ((c.1=0\/c.1=2)/\c.2.2.1=0/\c.2.2.2=0)\/
 (c.1=1/\c.2.1=0/\((c.2.2.1=-1/\0<=c.2.2.2/\c.2.2.2<=65535)\/(0<=c.2.2.1/\c.2.2.1<4/\0<=c.2.2.2/\c.2.2.2<32)))
instance (c:Int×Int×Int×Int):Decidable (mn c):=by unfold mn;exact inferInstance
def rB(c:Int×Int×Int×Int):Prop:=0<=c.2.1/\c.2.1<=65535
theorem mn.ok{c:Int×Int×Int×Int}(h:mn c)(t:rB c):gM c:=by
 rcases h with⟨h1,h2,h3⟩|h
 ·exact .inl ⟨h1,h2,h3,t.1,t.2⟩
 ·exact .inr h
theorem gM.v{c:Int×Int×Int×Int}(h:gM c):mn c:=by
 rcases h with⟨h1,h2,h3,_⟩|h
 ·exact .inl ⟨h1,h2,h3⟩
 ·exact .inr h
theorem wA{P:Prop}[Decidable P]{b:Bool}(h:b=true↔P):some (b,())=some (decide P,()):=by
 rw[show b=decide P by grind]
theorem Cq(c:Int×Int×Int×Int):i3 c.1 c.2.1 c.2.2.1 c.2.2.2=some (decide (mn c),()):=by
 obtain⟨t,v,r,o⟩:=c;unfold i3 mn;simp only;by_cases h0:t=0
 ·by_cases hr:r=0<;>by_cases ho:o=0<;>simp[Bool.cond_eq_ite,h0,hr,ho]
 by_cases h2:t=2
 ·by_cases hr:r=0<;>by_cases ho:o=0<;>simp[Bool.cond_eq_ite,h2,hr,ho]
 by_cases h1:t=1
 ·subst h1;by_cases hv:v=0
  ·by_cases hr:r=-1
   ·subst hr;by_cases ho:0<=o<;>by_cases hp:o<=65535<;>simp[Bool.cond_eq_ite,hv,ho,hp]
   ·by_cases r0:0<=r<;>by_cases r1:r<4<;>by_cases o0:0<=o<;>by_cases o1:o<32<;>simp[Bool.cond_eq_ite,hv,hr,r0,r1,o0,o1]
  ·by_cases hr:r=-1
   ·subst hr;by_cases ho:0<=o<;>simp[Bool.cond_eq_ite,hv,ho]
   ·simp[Bool.cond_eq_ite,hv,hr]
 ·simp[Bool.cond_eq_ite,h0,h1,h2]
theorem Jn(c:Int×Int×Int×Int):gJ c.1 c.2.1 c.2.2.1 c.2.2.2=some (decide (mn c),()):=by
 obtain⟨t,v,r,o⟩:=c;unfold gJ mn;simp only;by_cases h0:t=0
 ·by_cases hr:r=0<;>by_cases ho:o=0<;>simp[Bool.cond_eq_ite,h0,hr,ho]
 by_cases h2:t=2
 ·by_cases hr:r=0<;>by_cases ho:o=0<;>simp[Bool.cond_eq_ite,h2,hr,ho]
 by_cases h1:t=1
 ·subst h1;by_cases hv:v=0
  ·by_cases hr:r=-1
   ·subst hr;by_cases ho:0<=o<;>by_cases hp:o<=65535<;>simp[Bool.cond_eq_ite,hv,ho,hp]
   ·by_cases r0:0<=r<;>by_cases r1:r<4<;>by_cases o0:0<=o<;>by_cases o1:o<32<;>simp[Bool.cond_eq_ite,hv,hr,r0,r1,o0,o1]
  ·by_cases hr:r=-1
   ·subst hr;by_cases ho:0<=o<;>simp[Bool.cond_eq_ite,hv,ho]
   ·simp[Bool.cond_eq_ite,hv,hr]
 ·simp[Bool.cond_eq_ite,h0,h1,h2]
theorem MM{α:Type}{xs:List α}{i:Nat}(h:i<xs.length):dN xs i=some xs[i]:=oGE h
theorem GC{α:Type}{P:α->Prop}{xs:List α}{i:Nat}(h:i<xs.length)(ha:∀x∈xs.take i,P x)(hx:P xs[i]):∀x∈xs.take (i+1),P x:=by
 intro x hm;rw[List.take_succ_eq_append_getElem h]at hm;rcases List.mem_append.1 hm with h1|h1
 all_goals simp_all
theorem OH{xs:List (Int×Int×Int×Int)}{n:Int}(hl:xs.length<=100000):fv xs n=some (decide ((∀c∈xs,mn c)/\(xs.length:Int)<=n),()):=by
 unfold fv
 obtain⟨t,e,ht⟩:=oR (f:=f7)
  (λs=>∃i:Nat,i<=xs.length/\s=(xs,n,xs,(xs.length:Int),(i:Int),())/\∀c∈xs.take i,mn c)
  (λt=>(t=.inl (false,())/\¬ ∀c∈xs,mn c)\/((∃x3 x4 x5 x6,t=.inr (xs,n,x3,x4,x5,x6,()))/\∀c∈xs,mn c))
  (λs=>(s.2.2.2.1-s.2.2.2.2.1).toNat) (by
   rintro _ ⟨i,hi,rfl,hv⟩;unfold f7;by_cases hn:(i:Int)<xs.length
   ·have YH:i<xs.length:=by omega
    simp only[hn,decide_true,oCT,dP,oBS,MM YH,Jn];by_cases hc:mn xs[i]
    ·left;simp only[hc,decide_true,oNT,oCF];rw[dS (x:=(i:Int)+1) (by omega) (by omega)];exact⟨_,rfl,⟨i+1,by omega,rfl,GC YH hv hc⟩,by simp only;omega⟩
    ·right;simp only[hc,decide_false,Bool.not_false,oCT];exact⟨_,rfl,.inl ⟨rfl,λh=>hc (h _ (List.getElem_mem YH))⟩⟩
   ·right;simp only[hn,decide_false,oCF]
    have:i=xs.length:=by omega
    subst this
    exact⟨_,rfl,.inr ⟨⟨_,_,_,_,rfl⟩,by simp_all⟩⟩) NN (xs,n,xs,(xs.length:Int),0,()) ⟨0,by omega,rfl,by simp⟩ (by show((xs.length:Int)-0).toNat<NN;unfold NN;omega)
 simp only[dV,e]
 rcases ht with⟨rfl,h⟩|⟨⟨x3,x4,x5,x6,rfl⟩,h⟩
 ·simp only;exact wA ⟨λq=>absurd q (by decide),λq=>absurd q.1 h⟩
 ·simp only;exact wA ⟨λq=>⟨h,of_decide_eq_true q⟩,λq=>oDT q.2⟩
theorem uy{xs:List (Int×Int×Int×Int)}{n:Int}(hl:xs.length<=100000):gu xs n=some (decide ((∀c∈xs,mn c)/\(xs.length:Int)<=n),()):=by
 have X0:∃v,fJ xs=some (v,())/\(v<0↔∀c∈xs,mn c):=by
  unfold fJ
  obtain⟨t,e,ht⟩:=oR (f:=fV)
   (λs=>∃i:Nat,i<=xs.length/\s=(xs,(xs.length:Int),(i:Int),())/\∀c∈xs.take i,mn c)
   (λt=>(∃v,0<=v/\t=.inl (v,())/\¬ ∀c∈xs,mn c)\/((∃x1 x2 x3 x4,t=.inr (x1,x2,x3,x4,()))/\∀c∈xs,mn c))
   (λs=>(s.2.1-s.2.2.1).toNat) (by
    rintro _ ⟨i,hi,rfl,hv⟩;unfold fV;by_cases hn2:(i:Int)<xs.length
    ·have YH:i<xs.length:=by omega
     simp only[hn2,decide_true,oCT,dP,oBS,MM YH,kH,Cq];by_cases hc:mn xs[i]
     ·left;simp only[hc,decide_true,oNT,oCF];rw[dS (x:=(i:Int)+1) (by omega) (by omega)];exact⟨_,rfl,⟨i+1,by omega,rfl,GC YH hv hc⟩,by simp only;omega⟩
     ·right;simp only[hc,decide_false,Bool.not_false,oCT];exact⟨_,rfl,.inl ⟨_,by omega,rfl,λh=>hc (h _ (List.getElem_mem YH))⟩⟩
    ·right;simp only[hn2,decide_false,oCF]
     have:i=xs.length:=by omega
     subst this
     exact⟨_,rfl,.inr ⟨⟨_,_,_,_,rfl⟩,by rw[List.take_length]at hv;exact hv⟩⟩) NN (xs,(xs.length:Int),0,()) ⟨0,by omega,rfl,by simp⟩ (by show((xs.length:Int)-0).toNat<NN;unfold NN;omega)
  simp only[dV,e]
  rcases ht with⟨v,hv,rfl,h⟩|⟨⟨x1,x2,x3,x4,rfl⟩,h⟩
  ·exact⟨v,rfl,by constructor<;>intro h2<;>first|omega|exact absurd h2 h⟩
  ·simp_all
 obtain⟨v,e,hv⟩:=X0;unfold gu fW;simp only[dV];by_cases hln:(xs.length:Int)<=n
 ·simp only[hln,decide_true,oCT,e,oBS];exact wA (by rw[<- hv];simp)
 ·simp only[hln,decide_false,oCF];exact wA (by simp)
def In(a0 a1 a2 a3 a4 a5:Int)(a6 a7:List (Int×Int×Int×Int)):Prop:=
 (0<=a0/\a0<=3)/\(0<=a1/\a1<=3)/\(0<=a2/\a2<=6)/\(0<=a3/\a3<=1099511627776)/\(0<=a4/\a4<=255)/\(0<=a5/\a5<=15)/\((∀c∈a6,mn c)/\(a6.length:Int)<=3)/\((∀c∈a7,mn c)/\(a7.length:Int)<=16)
instance (a0 a1 a2 a3 a4 a5:Int) (a6 a7:List (Int×Int×Int×Int)):Decidable (In a0 a1 a2 a3 a4 a5 a6 a7):=by unfold In;exact inferInstance
section
variable {a0 a1 a2 a3 a4 a5:Int} {a6 a7:List (Int×Int×Int×Int)}
theorem In.ok(h:In a0 a1 a2 a3 a4 a5 a6 a7)(t6:∀c∈a6,rB c)(t7:∀c∈a7,rB c):MV a0 a1 a2 a3 a4 a5 a6 a7:=by
 obtain⟨h0,h1,h2,h3,h4,h5,⟨h6,l6⟩,h7,l7⟩:=h;exact⟨h0,h1,h2,h3,h4,h5,⟨λc hc=>(h6 c hc).ok (t6 c hc),by omega⟩,λc hc=>(h7 c hc).ok (t7 c hc),by omega⟩
theorem MV.v(h:MV a0 a1 a2 a3 a4 a5 a6 a7):In a0 a1 a2 a3 a4 a5 a6 a7:=by
 obtain⟨h0,h1,h2,h3,h4,h5,⟨h6,l6⟩,h7,l7⟩:=h;exact⟨h0,h1,h2,h3,h4,h5,⟨λc hc=>(h6 c hc).v,by omega⟩,λc hc=>(h7 c hc).v,by omega⟩
theorem KB{P Q:Prop}[Decidable P][Decidable Q]{o:Option (Bool×Unit)}(h:P->o=some (decide Q,())):(bif decide P then o else some (false,()))=some (decide (P/\Q),()):=by
 by_cases hp:P
 ·simp only[hp,decide_true,oCT,true_and];exact h hp
 ·simp only[hp,decide_false,oCF,false_and]
theorem Er(x lo hi:Int):fj x lo hi=some (decide (lo<=x/\x<=hi),()):=by
 unfold fj;exact KB λ_=>rfl
theorem Hd(l6:a6.length<=100000)(l7:a7.length<=100000):iq a0 a1 a2 a3 a4 a5 a6 a7=some (decide (In a0 a1 a2 a3 a4 a5 a6 a7),()):=by
 unfold iq In
 iterate 6
  rw[Er];simp only[oBS];refine KB λ_=>?_
 rw[uy l6];simp only[oBS];refine KB λ_=>?_;rw[uy l7];rfl
end
abbrev DLa:Type:=Int×Int×Int×Int×Int×Int×(List DCn)×(List DCn)
def EnS(e:DEn):Prop:=e.2.2.2.2.2.2.2.2.2.1.length<=1000/\e.2.2.2.2.2.2.2.2.2.2.1.length<=1000/\e.2.2.2.2.2.2.2.2.2.2.2.2.2.2.2.1.length<=1000
def Sm(s:List Int×List DLa):Prop:=s.1.length=4/\s.2.length=4/\∀x∈s.2,x.2.2.2.2.2.2.1.length<=1000/\x.2.2.2.2.2.2.2.length<=1000
theorem ME{a b:List DCn}(ha:a.length<=1000):∃r,fm a b=some (r,()):=by
 unfold fm;simp only[dV];by_cases hl:a.length=b.length
 ·have hb:((a.length:Int) != (b.length:Int))=false:=by simp[hl]
  simp only[hb,oCF]
  obtain⟨t,e,ht⟩:=oR (f:=gP)
   (λs=>∃i:Nat,i<=a.length/\s=(a,b,(a.length:Int),(i:Int),()))
   (λt=>t=.inl (false,())\/∃x3 x4 x5 x6 x7,t=.inr (x3,x4,x5,x6,x7,()))
   (λs=>(s.2.2.1-s.2.2.2.1).toNat) (by
    rintro _ ⟨i,hi,rfl⟩;unfold gP;by_cases hlt:(i:Int)<a.length
    ·have YH:i<a.length:=by omega
     have QJ:i<b.length:=by omega
     simp only[hlt,decide_true,oCT,dP,oBS,dN,oGE YH,oGE QJ]
     cases(!((a[i].1==b[i].1)&&((a[i].2.1==b[i].2.1)&&((a[i].2.2.1==b[i].2.2.1)&&((a[i].2.2.2==b[i].2.2.2)&&true)))))with
     |true=>exact .inr ⟨_,rfl,.inl rfl⟩
     |false=>
      left;simp only[oCF];rw[dS (x:=(i:Int)+1) (by omega) (by omega)];exact⟨_,rfl,⟨i+1,by omega,rfl⟩,by simp only;omega⟩
    ·right;simp only[hlt,decide_false,oCF]
     exact⟨_,rfl,.inr ⟨_,_,_,_,_,rfl⟩⟩) NN (a,b,(a.length:Int),0,()) ⟨0,by omega,rfl⟩ (by show((a.length:Int)-0).toNat<NN;unfold NN;omega)
  rcases ht with rfl|⟨x3,x4,x5,x6,x7,rfl⟩
  ·exact⟨false,by simp only[e]⟩
  ·exact⟨true,by simp only[e]⟩
 ·have hb:((a.length:Int) != (b.length:Int))=true:=by simp;omega
  simp only[hb,oCT];exact⟨false,rfl⟩
theorem OY{a0 a1 a2 a3 a4 a5:Int}{a6 a7:List DCn}{b0 b1 b2 b3 b4 b5:Int}{b6 b7:List DCn}(h6:a6.length<=1000)(h7:a7.length<=1000):∃r,fS a0 a1 a2 a3 a4 a5 a6 a7 b0 b1 b2 b3 b4 b5 b6 b7=some (r,()):=by
 obtain⟨r,e1⟩:=ME (b:=b6) h6;obtain⟨s,e2⟩:=ME (b:=b7) h7;unfold fS;rw[e1,e2];cases a0==b0<;>cases a1==b1<;>cases a2==b2<;>cases a3==b3<;>cases a4==b4<;>cases a5==b5<;>cases r<;>exact⟨_,rfl⟩
theorem L8{t v rg o sp:Int}{dat:List DCn}{w:Bool}(hd:dat.length<=1000):∃b,g7 t v rg o dat sp w=some (b,())/\(b=true->-1<=sp/\sp<4):=by
 unfold g7;have h1:=Cq (t,v,rg,o);simp only at h1;rw[h1,uy (by omega)];simp only[oBS];cases decide (mn (t,v,rg,o))<;>cases decide ((∀c∈dat,mn c)/\(dat.length:Int)<=16)
 ·exact⟨false,rfl,λh=>by cases h⟩
 ·exact⟨false,rfl,λh=>by cases h⟩
 ·exact⟨false,rfl,λh=>by cases h⟩
 ·simp only[oCT];by_cases hs:sp>=-1
  ·rw[oDT hs];exact⟨_,rfl,λh=>⟨hs,of_decide_eq_true h⟩⟩
  ·rw[oDF hs];exact⟨false,rfl,λh=>by cases h⟩
theorem JG{t v rg o sp:Int}{dat:List DCn}{w:Bool}:∃b,f8 t v rg o dat sp w=some (b,()):=by
 unfold f8;dsimp only;cases((t==0)&&((v==0)&&((rg==0)&&((o==0)&&true))))<;>cases(dR (List.length dat))==0<;>cases sp==0<;>exact⟨_,rfl⟩
theorem Kn{e:DEn}(h:EnS e):∃b,enV e=some (b,())/\(b=true->(0<=e.2.1/\e.2.1<4)/\(e.1=2->-1<=e.2.2.2.2.2.2.2.2.2.2.2.2.2.2.2.2.1/\e.2.2.2.2.2.2.2.2.2.2.2.2.2.2.2.2.1<4)):=by
 obtain⟨a0,a1,a2,a3,a4,a5,a6,a7,a8,a9,a10,a11,a12,a13,a14,a15,a16,a17⟩:=e;obtain⟨h9,ZT,UV⟩:=h;simp only at h9 ZT UV;have F:∃b,(some (false,()):Option (Bool×Unit))=some (b,())/\(b=true->(0<=a1/\a1<4)/\(a0=2->-1<=a16/\a16<4)):=⟨false,rfl,λh=>by cases h⟩;show ∃b,gh a0 a1 a2 a3 a4 a5 a6 a7 a8 a9 a10 a11 a12 a13 a14 a15 a16 a17=some (b,())/\(b=true->(0<=a1/\a1<4)/\(a0=2->-1<=a16/\a16<4));unfold gh;by_cases h1:a1<0
 ·rw[oDT h1];exact F
 by_cases h2:a1>=4
 ·rw[oDF h1,oDT h2];exact F
 rw[oDF h1,oDF h2,Hd (by omega) (by omega)]
 have hthr:0<=a1/\a1<4:=by omega
 obtain⟨x1,e1⟩:=NE a3 a4 a5 a6 a7 a8 a9 a10;obtain⟨nb,e2⟩:=JG (t:=a11) (v:=a12) (rg:=a13) (o:=a14) (sp:=a16) (dat:=a15) (w:=a17);obtain⟨fb,e3,hf⟩:=L8 (t:=a11) (v:=a12) (rg:=a13) (o:=a14) (sp:=a16) (w:=a17) UV;rw[e1,e2,e3];simp only[oCF,oBS];have N:∀b:Bool,a0≠2->∃c,(some (b,()):Option (Bool×Unit))=some (c,())/\(c=true->(0<=a1/\a1<4)/\(a0=2->-1<=a16/\a16<4)):=λb hn=>⟨b,rfl,λ_=>⟨hthr,λh=>absurd h hn⟩⟩
 have W:∀b:Bool,a0≠2->∃c,(bif fb then bif a16==-1 then bif !a17 then some ((dR (List.length a15))==0,())else some (false,())else some (false,())else some (false,()):Option (Bool×Unit))=some (c,())/\(c=true->(0<=a1/\a1<4)/\(a0=2->-1<=a16/\a16<4)):=λ_ hn=>by
  cases fb<;>cases a16==-1<;>cases a17<;>exact N _ hn
 by_cases k1:a0=1
 ·have hn:a0≠2:=by omega
  simp only[beq_iff_eq.2 k1,oCT]
  cases decide (In a3 a4 a5 a6 a7 a8 a9 a10)<;>cases decide (a2>=1)<;>cases decide (a2<=64)<;>cases a3==a1<;>cases a4 != 3<;>first|exact F|exact N _ hn
 by_cases k2:a0=2
 ·simp only[oBF k1,beq_iff_eq.2 k2,oCT,oCF];have Q:∃c,(some (fb,()):Option (Bool×Unit))=some (c,())/\(c=true->(0<=a1/\a1<4)/\(a0=2->-1<=a16/\a16<4)):=⟨fb,rfl,λh=>⟨hthr,λ_=>hf h⟩⟩
  cases decide (In a3 a4 a5 a6 a7 a8 a9 a10)<;>cases a2==0<;>cases a3==a1<;>cases a4==1<;>first|exact F|exact Q
 by_cases k3:a0=3
 ·simp only[oBF k1,oBF k2,beq_iff_eq.2 k3,oCT,oCF]
  cases decide (In a3 a4 a5 a6 a7 a8 a9 a10)<;>cases a2==0<;>cases x1<;>first|exact F|exact N _ k2
 by_cases k4:a0=4
 ·simp only[oBF k1,oBF k2,oBF k3,beq_iff_eq.2 k4,oCT,oCF]
  cases decide (In a3 a4 a5 a6 a7 a8 a9 a10)<;>cases a2==0<;>cases x1<;>first|exact F|exact W true k2
 ·simp only[oBF k1,oBF k2,oBF k3,oBF k4,oCF];cases decide (In a3 a4 a5 a6 a7 a8 a9 a10)<;>exact F
def enF(e:DEn)(st:List Int)(la:List DLa):Option (Bool×List Int×List DLa×Unit):=gV e.1 e.2.1 e.2.2.1 e.2.2.2.1 e.2.2.2.2.1 e.2.2.2.2.2.1 e.2.2.2.2.2.2.1 e.2.2.2.2.2.2.2.1 e.2.2.2.2.2.2.2.2.1 e.2.2.2.2.2.2.2.2.2.1 e.2.2.2.2.2.2.2.2.2.2.1 e.2.2.2.2.2.2.2.2.2.2.2.1 e.2.2.2.2.2.2.2.2.2.2.2.2.1 e.2.2.2.2.2.2.2.2.2.2.2.2.2.1 e.2.2.2.2.2.2.2.2.2.2.2.2.2.2.1 e.2.2.2.2.2.2.2.2.2.2.2.2.2.2.2.1 e.2.2.2.2.2.2.2.2.2.2.2.2.2.2.2.2.1 e.2.2.2.2.2.2.2.2.2.2.2.2.2.2.2.2.2 st la
theorem JT{α:Type}(l:List α)(i:Nat)(f:α->α){n:Nat}(h:l.length=n):(List.modify l i f).length=n:=by rw[oLM];exact h
theorem Sm.st{st:List Int}{la:List DLa}(h:Sm (st,la))(i:Nat)(f:Int->Int):Sm (List.modify st i f,la):=⟨JT st i f h.1,h.2⟩
theorem Sm.la{st:List Int}{la:List DLa}(h:Sm (st,la))(i:Nat)(x:DLa)(hx:x.2.2.2.2.2.2.1.length<=1000/\x.2.2.2.2.2.2.2.length<=1000):Sm (st,List.modify la i λ_=>x):=by
 refine⟨h.1,JT la i _ h.2.1,λy hy=>?_⟩;obtain⟨j,hj⟩:=List.getElem?_of_mem hy;rw[List.getElem?_modify]at hj
 cases hl:la[j]? with
 |none=>rw[hl]at hj;split at hj<;>cases hj
 |some z=>
  rw[hl]at hj;split at hj
  ·injection hj with hj;rw[<- hj];exact hx
  ·injection hj with hj;rw[<- hj];exact h.2.2 z (dT hl)
def OE(r:Bool×List Int×List DLa×Unit):Prop:=∃b st la,r=(b,st,la,())/\Sm (st,la)
theorem Ic{a0 a2 a3 a4 a5 a6 a7 a8 a11 a12 a13 a14 a16:Int}{i:Nat}{a9 a10 a15:List DCn}{a17:Bool}{st:List Int}{la:List DLa}(hs:Sm (st,la))(h9:a9.length<=1000)(ZT:a10.length<=1000)(hi:i<4)(ZC:-1<=a16/\a16<4):
 Ok (iP a0 i a2 a3 a4 a5 a6 a7 a8 a9 a10 a11 a12 a13 a14 a15 a16 a17 st la) OE:=by
 have h4:st.length=4:=hs.1;obtain⟨x,hx⟩:∃x,st[i]?=some x:=⟨_,oGE (by omega)⟩;obtain⟨y,hy⟩:∃y,la[i]?=some y:=⟨_,oGE (by have:la.length=4:=hs.2.1;omega)⟩;obtain⟨r,er⟩:=OY (a0:=a3) (a1:=a4) (a2:=a5) (a3:=a6) (a4:=a7) (a5:=a8) (b0:=y.1) (b1:=y.2.1) (b2:=y.2.2.1) (b3:=y.2.2.2.1) (b4:=y.2.2.2.2.1) (b5:=y.2.2.2.2.2.1) (b6:=y.2.2.2.2.2.2.1) (b7:=y.2.2.2.2.2.2.2) h9 ZT;unfold iP;simp only[dP,oBS,show dN st i=some x from hx,show dN la i=some y from hy,er];refine Ok.bind (P:=λq=>∃b:Bool,q=(i,a16,b,st,la,a0,(i:Int),a2,a3,a4,a5,a6,a7,a8,a9,a10,a11,a12,a13,a14,a15,a16,a17,())) ?_ ?_
 ·cases x != 2 with
  |true=>exact Ok.ret ⟨_,rfl⟩
  |false=>
   simp only[oCF]
   cases r with
   |false=>exact Ok.ret ⟨_,rfl⟩
   |true=>
    simp only[oNT,oCF];by_cases hk:a16=-1
    ·simp only[bne_eq_false_iff_eq.2 hk,oCF];exact Ok.ret ⟨_,rfl⟩
    ·simp only[bne_iff_ne.2 hk,oCT];obtain⟨k,rfl⟩:∃k:Nat,a16=k:=⟨a16.toNat,by omega⟩;obtain⟨z,hz⟩:∃z,st[k]?=some z:=⟨_,oGE (by omega)⟩;simp only[dP,oBS,show dN st k=some z from hz];cases z != 0<;>exact Ok.ret ⟨_,rfl⟩
 ·rintro _ ⟨b,rfl⟩;dsimp only
  cases b with
  |true=>exact Ok.ret ⟨_,_,_,rfl,hs⟩
  |false=>
   simp only[oCF,show dN st i=some x from hx,oBS];refine Ok.bind (P:=λq=>∃VZ,q=(a16,VZ,la,())/\Sm (VZ,la)) ?_ ?_
   ·cases a8==0<;>cases a17<;>exact Ok.ret ⟨_,rfl,hs.st _ _⟩
   ·rintro _ ⟨VZ,rfl,hs'⟩;dsimp only;by_cases hk:a16=-1
    ·simp only[bne_eq_false_iff_eq.2 hk,oCF,oBS];exact Ok.ret ⟨_,_,_,rfl,hs'⟩
    ·simp only[bne_iff_ne.2 hk,oCT];obtain⟨k,rfl⟩:∃k:Nat,a16=k:=⟨a16.toNat,by omega⟩;obtain⟨z,hz⟩:∃z,VZ[k]?=some z:=⟨_,oGE (by have:VZ.length=4:=hs'.1;omega)⟩;simp only[dP,oBS,show dN VZ k=some z from hz];exact Ok.ret ⟨_,_,_,rfl,hs'.st _ _⟩
theorem Kh{e:DEn}{st:List Int}{la:List DLa}(hs:Sm (st,la))(he:EnS e)(hi:0<=e.2.1/\e.2.1<4)(hk:e.1=2->-1<=e.2.2.2.2.2.2.2.2.2.2.2.2.2.2.2.2.1/\e.2.2.2.2.2.2.2.2.2.2.2.2.2.2.2.2.1<4):Ok (enF e st la) OE:=by
 obtain⟨a0,a1,a2,a3,a4,a5,a6,a7,a8,a9,a10,a11,a12,a13,a14,a15,a16,a17⟩:=e;obtain⟨h9,ZT,UV⟩:=he;simp only at h9 ZT UV hi hk;obtain⟨i,rfl⟩:∃i:Nat,a1=i:=⟨a1.toNat,by omega⟩;have h4:st.length=4:=hs.1;obtain⟨x,hx⟩:∃x,st[i]?=some x:=⟨_,oGE (by omega)⟩;obtain⟨y,hy⟩:∃y,la[i]?=some y:=⟨_,oGE (by have:la.length=4:=hs.2.1;omega)⟩;show Ok (gV a0 i a2 a3 a4 a5 a6 a7 a8 a9 a10 a11 a12 a13 a14 a15 a16 a17 st la) OE;unfold gV;simp only[dP,oBS,show dN st i=some x from hx,show dN la i=some y from hy];by_cases k1:a0=1
 ·simp only[beq_iff_eq.2 k1,oCT]
  cases x != 1 with
  |true=>exact Ok.ret ⟨_,_,_,rfl,hs⟩
  |false=>
   have WO:=hs.la i (a3,a4,a5,a6,a7,a8,a9,a10) ⟨h9,ZT⟩
   cases a4==2 with
   |true=>exact Ok.ret ⟨_,_,_,rfl,WO.st _ _⟩
   |false=>cases a4==1 with
    |true=>exact Ok.ret ⟨_,_,_,rfl,WO.st _ _⟩
    |false=>exact Ok.ret ⟨_,_,_,rfl,WO⟩
 by_cases k2:a0=2
 ·simp only[oBF k1,beq_iff_eq.2 k2,oCT,oCF];obtain⟨_,e,b,VZ,Rv,rfl,h⟩:=Ic (a0:=a0) (a2:=a2) (a3:=a3) (a4:=a4) (a5:=a5) (a6:=a6) (a7:=a7) (a8:=a8) (a11:=a11) (a12:=a12) (a13:=a13) (a14:=a14) (a15:=a15) (a17:=a17) hs h9 ZT (show i<4 by omega) (hk k2);simp only[e,oBS];exact Ok.ret ⟨_,_,_,rfl,h⟩
 by_cases k3:a0=3
 ·simp only[oBF k1,oBF k2,beq_iff_eq.2 k3,oCT,oCF];exact Ok.ret ⟨_,_,_,rfl,hs⟩
 by_cases k4:a0=4
 ·simp only[oBF k1,oBF k2,oBF k3,beq_iff_eq.2 k4,oCT,oCF]
  cases x != 3 with
  |true=>exact Ok.ret ⟨_,_,_,rfl,hs⟩
  |false=>exact Ok.ret ⟨_,_,_,rfl,hs.st _ _⟩
 ·simp only[oBF k1,oBF k2,oBF k3,oBF k4,oCF];exact Ok.ret ⟨_,_,_,rfl,hs⟩
def stp(s:List Int×List DLa)(e:DEn):Option (List Int×List DLa):=
 match enV e with
 |some (true,_)=>match enF e s.1 s.2 with
  |some (true,st,la,_)=>some (st,la)
  |_=>none
 |_=>none
def u5(l:List DEn)(s:List Int×List DLa):Option (List Int×List DLa):=l.foldlM stp s
theorem wz(l m:List DEn)(s:List Int×List DLa):u5 (l++m) s=(u5 l s).bind (u5 m):=by
 unfold u5;exact List.foldlM_append
def s0:List Int×List DLa:=([1,0,0,0],List.replicate 4 (0,(0,(0,(0,(0,(0,([],[]))))))))
theorem sm0:Sm s0:=⟨rfl,rfl,λx hx=>by rw[List.eq_of_mem_replicate hx];exact⟨by decide,by decide⟩⟩
theorem Aq{l:List DEn}(h:∀e∈l,EnS e)(hl:l.length<=100000):(∃st la,u5 l s0=some (st,la)/\fa l=some (st,true,()))\/(u5 l s0=none/\fa l=some ([],false,())):=by
 unfold fa;rw[show pM 4 4 1=true from rfl,show pM 4 4 8=true from rfl];simp only[oCT,dV];rw[show dN (List.replicate 4 (0:Int)) 0=some 0 from rfl];simp only[oBS];rw[show List.modify (List.replicate 4 (0:Int)) 0 (λ_=>1)=s0.1 from rfl]
 obtain⟨t,e,ht⟩:=oR (f:=ia)
  (λs=>∃i:Nat,∃st la,i<=l.length/\s=(l,(l.length:Int),(i:Int),st,la,())/\u5 (l.take i) s0=some (st,la)/\Sm (st,la))
  (λt=>(t=.inl (false,(),())/\u5 l s0=none)\/∃x1 x2 x3 x4 st la,t=.inr (x1,x2,x3,x4,st,la,())/\u5 l s0=some (st,la))
  (λs=>(s.2.1-s.2.2.1).toNat) (by
   rintro _ ⟨i,st,la,hi,rfl,hst,hs⟩;unfold ia;by_cases hn:(i:Int)<l.length
   ·have YH:i<l.length:=by omega
    have he:=h _ (List.getElem_mem YH)
    have Wp:u5 l s0=(stp (st,la) l[i]).bind (u5 (l.drop (i+1))):=by
     have e1:l=l.take i++l[i]::l.drop (i+1):=by
      rw[<- List.drop_eq_getElem_cons YH,List.take_append_drop]
     rw[show u5 l s0=u5 (l.take i++l[i]::l.drop (i+1)) s0 from congrArg (λq=>u5 q s0) e1,wz,hst];rfl
    have W3:u5 (l.take (i+1)) s0=stp (st,la) l[i]:=by
     rw[List.take_succ_eq_append_getElem YH,wz,hst];show(stp (st,la) l[i]).bind (λs=>some s)=_;cases stp (st,la) l[i]<;>rfl
    obtain⟨b,ev,hv⟩:=Kn he;unfold enV at ev;simp only[hn,decide_true,oCT,dP,oBS,dN,oGE YH];rw[ev]
    cases b with
    |false=>
     right;refine⟨_,rfl,.inl ⟨rfl,?_⟩⟩;rw[Wp];unfold stp enV;rw[ev];rfl
    |true=>
     obtain⟨h1,h2⟩:=hv rfl;obtain⟨_,ef,b,VZ,Rv,rfl,hs'⟩:=Kh hs he h1 h2;have ef':=ef;unfold enF at ef;simp only[oBS,oNT,oCF];rw[ef]
     have Ti:stp (st,la) l[i]=if b=true then some (VZ,Rv)else none:=by
      unfold stp enV;rw[ev];simp only[ef'];cases b<;>rfl
     cases b with
     |false=>
      right;refine⟨_,rfl,.inl ⟨rfl,?_⟩⟩;rw[Wp,Ti];rfl
     |true=>
      left;simp only[oBS,oNT,oCF];rw[dS (x:=(i:Int)+1) (by omega) (by omega)];exact⟨_,rfl,⟨i+1,VZ,Rv,by omega,rfl,by rw[W3,Ti];rfl,hs'⟩,by simp only;omega⟩
   ·right;simp only[hn,decide_false,oCF]
    have:i=l.length:=by omega
    subst this;rw[List.take_length]at hst
    exact⟨_,rfl,.inr ⟨_,_,_,_,_,_,rfl,hst⟩⟩) NN (l,(l.length:Int),0,s0.1,s0.2,()) ⟨0,s0.1,s0.2,by omega,rfl,rfl,sm0⟩ (by show((l.length:Int)-0).toNat<NN;unfold NN;omega)
 have e':ej ia NN (l,(l.length:Int),0,s0.1,List.replicate 4 (0,(0,(0,(0,(0,(0,([],[]))))))),())=some t:=e
 rcases ht with⟨rfl,YN⟩|⟨x1,x2,x3,x4,st,la,rfl,Rq⟩
 ·exact .inr ⟨YN,by simp only[e']⟩
 ·exact .inl ⟨st,la,Rq,by simp only[e']⟩
theorem gj{l:List Int}{k n:Int}(h:DOk l k)(hn:0<n)(hn2:n<=9223372036854775807):∃v k',dK n l k=some (v,l,k',())/\0<=v/\v<n/\DOk l k':=by
 obtain⟨r,e,v,k',rfl,a,b,d⟩:=fk (f:=λr=>some r) (Q:=λr=>∃v k',r=(v,l,k',())/\0<=v/\v<n/\DOk l k') h hn hn2 λv k' a b d=>Ok.ret ⟨v,k',rfl,a,b,d⟩
 cases ht:dK n l k with
 |none=>rw[ht]at e;cases e
 |some y=>rw[ht]at e;exact⟨v,k',e,a,b,d⟩
theorem M3:oL [8,4]=some (12,()):=by kernel_rfl
theorem Qz{v:Int}(h0:0<=v)(h1:v<12):∃r o e,uo [8,4] v=some (r,o,e,())/\0<=r/\r<4/\0<=o/\o<32:=by
 obtain⟨j,rfl⟩:∃j:Nat,v=j:=⟨v.toNat,by omega⟩
 have hj:j<12:=by omega
 match j,hj with
 |0,_=>exact⟨0,0,0,by kernel_rfl,by decide⟩
 |1,_=>exact⟨0,1,0,by kernel_rfl,by decide⟩
 |2,_=>exact⟨0,2,0,by kernel_rfl,by decide⟩
 |3,_=>exact⟨0,3,0,by kernel_rfl,by decide⟩
 |4,_=>exact⟨0,4,0,by kernel_rfl,by decide⟩
 |5,_=>exact⟨0,5,0,by kernel_rfl,by decide⟩
 |6,_=>exact⟨0,6,0,by kernel_rfl,by decide⟩
 |7,_=>exact⟨0,7,0,by kernel_rfl,by decide⟩
 |8,_=>exact⟨1,0,0,by kernel_rfl,by decide⟩
 |9,_=>exact⟨1,1,0,by kernel_rfl,by decide⟩
 |10,_=>exact⟨1,2,0,by kernel_rfl,by decide⟩
 |11,_=>exact⟨1,3,0,by kernel_rfl,by decide⟩
theorem MZ{l:List Int}{k:Int}(h:DOk l k):∃v k',gi l k=some (v,l,k',())/\0<=v/\v<=65535/\DOk l k':=by
 obtain⟨a,k1,e1,a0,a1,d1⟩:=gj h (n:=5) (by decide) (by decide);have h8:=gj d1 (n:=8) (by decide) (by decide);have h3:=gj d1 (n:=3) (by decide) (by decide);have h6:=gj d1 (n:=65536) (by decide) (by decide);obtain⟨b,k2,e2,b0,b1,d2⟩:=h8;obtain⟨c,k3,e3,c0,c1,d3⟩:=h3;obtain⟨d,k4,e4,d0,d1',d4⟩:=h6;unfold gi;simp only[e1,oBS];by_cases hs:a=0\/a=1\/a=2
 ·refine⟨b,k2,?_,b0,by omega,d2⟩
  rcases hs with rfl|rfl|rfl<;>simp[e2,zA b0 (by omega)]
 ·by_cases h3:a=3
  ·subst h3;refine⟨65535-c,k3,?_,by omega,by omega,d3⟩;simp[e3];rw[dS (by omega) (by omega),zA (by omega) (by omega)]
  ·refine⟨d,k4,?_,d0,by omega,d4⟩
   have n0:(a==0)=false:=by simp;omega
   have n1:(a==1)=false:=by simp;omega
   have n2:(a==2)=false:=by simp;omega
   have n3:(a==3)=false:=by simp;omega
   simp[n0,n1,n2,n3,e4,zA d0 (by omega)]
theorem wP{l:List Int}{k:Int}(h:DOk l k):∃a b c d k',iC [8,4] l k=some (a,b,c,d,l,k',())/\gM (a,b,c,d)/\DOk l k':=by
 obtain⟨s,k1,e1,s0,s1,d1⟩:=gj h (n:=6) (by decide) (by decide);unfold iC;simp only[e1,oBS];by_cases h4:s=4
 ·subst h4;obtain⟨v,k2,e2,v0,v1,d2⟩:=gj d1 (n:=12) (by decide) (by decide);obtain⟨r,o,e,e3,q⟩:=Qz v0 v1;refine⟨1,0,r,o,k2,?_,.inr ⟨rfl,rfl,.inr q⟩,d2⟩;simp[M3,e2,e3]
 ·have n4:(s==4)=false:=by simpa using h4
  by_cases h5:s=5
  ·subst h5;obtain⟨v,k2,e2,v0,v1,d2⟩:=gj d1 (n:=10) (by decide) (by decide);refine⟨2,v,0,0,k2,?_,.inl ⟨.inr rfl,rfl,rfl,v0,by show v<=65535;omega⟩,d2⟩;simp[e2,zA v0 (by omega)]
  ·have n5:(s==5)=false:=by simpa using h5
   obtain⟨v,k2,e2,v0,v1,d2⟩:=MZ d1;refine⟨0,v,0,0,k2,?_,.inl ⟨.inl rfl,rfl,rfl,v0,v1⟩,d2⟩;simp[n4,n5,e2]
theorem yl{l:List Int}{k a:Int}(h:DOk l k)(ha:0<=a)(Xr:a<=1000):∃xs k',fQ a l k=some (xs,l,k',())/\(∀c∈xs,gM c)/\(xs.length:Int)<=a/\DOk l k':=by
 obtain⟨n,k1,e1,n0,n1,d1⟩:=gj h (n:=a+1) (by omega) (by omega);unfold fQ;rw[dS (x:=a+1) (by omega) (by omega)];simp only[e1,oBS]
 obtain⟨t,e,k2,xs,b1,b2,rfl,g1,g2,g3⟩:=oR (f:=lH)
  (λs=>∃n k xs,s=(n,l,k,xs,())/\0<=n/\n+(xs.length:Int)<=a/\DOk l k/\∀c∈xs,gM c)
  (λt=>∃k xs b1 b2,t=(b1,b2,l,k,xs,())/\(∀c∈xs,gM c)/\(xs.length:Int)<=a/\DOk l k)
  (λs=>s.1.toNat) (by
   rintro _ ⟨n,k,xs,rfl,h0,h1,hd,hx⟩;unfold lH;by_cases hn:n>0
   ·left;obtain⟨c1,c2,c3,c4,k2,e2,q2,d2⟩:=wP hd;obtain⟨z,k3,e3,z0,z1,d3⟩:=gj d2 (n:=12) (by decide) (by decide);simp only[hn,decide_true,oCT,e2,oBS,e3]
    have hlen:xs.length<=1000:=by omega
    by_cases hz:z=0
    ·subst hz;obtain⟨y,k4,e4,y0,y1,d4⟩:=gj d3 (n:=65536) (by decide) (by decide);simp only[beq_self_eq_true,oCT,e4,oBS];rw[gS (by decide) (by simp;omega),dS (x:=n-1) (by omega) (by omega)];refine⟨_,rfl,⟨n-1,k4,_,rfl,by omega,by simp;omega,d4,λc hc=>?_⟩,by simp only;omega⟩;rcases List.mem_append.1 hc with hc|hc
     ·exact hx c hc
     ·rw[List.mem_singleton.1 hc];exact .inr ⟨rfl,rfl,.inl ⟨rfl,y0,by show y<=65535;omega⟩⟩
    ·have hzb:(z==0)=false:=by simpa using hz
     simp only[hzb,oCF,oBS];rw[gS (by decide) (by simp;omega),dS (x:=n-1) (by omega) (by omega)];refine⟨_,rfl,⟨n-1,k3,_,rfl,by omega,by simp;omega,d3,λc hc=>?_⟩,by simp only;omega⟩;rcases List.mem_append.1 hc with hc|hc
     ·exact hx c hc
     ·rw[List.mem_singleton.1 hc];exact q2
   ·right;simp only[hn,decide_false,oCF]
    exact⟨_,rfl,k,xs,_,_,rfl,hx,by omega,hd⟩) NN (n,l,k1,[],()) ⟨n,k1,[],rfl,n0,by simp;omega,d1,λc hc=>by simp at hc⟩ (by show n.toNat<NN;unfold NN;omega)
 exact⟨xs,k2,by rw[e];rfl,g1,g2,g3⟩
theorem Ls{l ys:List Int}{k:Int}(h:DOk l k)(hy:ys.length<=3)(v5 v6 v7 v8 v9 v10:Int)(v11 v12:Unit)(v13 v14 v15 v16 v17 v18:Int)(v20:Unit):
 ∃xs k' i,ej iR NN (ys,(ys.length:Int),0,l,k,v5,v6,v7,v8,v9,v10,v11,v12,v13,v14,v15,v16,v17,v18,[],v20,())=some (ys,(ys.length:Int),i,false,l,k',v5,v6,v7,v8,v9,v10,v11,v12,v13,v14,v15,v16,v17,v18,xs,v20,())/\
  (∀c∈xs,gM c)/\xs.length<=3/\DOk l k':=by
 obtain⟨t,e,xs,k',i,rfl,g1,g2,g3⟩:=oR (f:=iR)
  (λs=>∃(i:Nat)(k:Int)(xs:List (Int×Int×Int×Int)),s=(ys,(ys.length:Int),(i:Int),l,k,v5,v6,v7,v8,v9,v10,v11,v12,v13,v14,v15,v16,v17,v18,xs,v20,())/\i<=ys.length/\xs.length<=i/\DOk l k/\∀c∈xs,gM c)
  (λt=>∃(xs:List (Int×Int×Int×Int))(k' i:Int),t=(ys,(ys.length:Int),i,false,l,k',v5,v6,v7,v8,v9,v10,v11,v12,v13,v14,v15,v16,v17,v18,xs,v20,())/\(∀c∈xs,gM c)/\xs.length<=3/\DOk l k')
  (λs=>(s.2.1-s.2.2.1).toNat) (by
   rintro _ ⟨i,k,xs,rfl,hi,Rn,hd,hx⟩;unfold iR;by_cases hn:(i:Int)<ys.length
   ·left
    have YH:i<ys.length:=by omega
    have Rx:∀{c:Int×Int×Int×Int},gM c->∀c'∈xs.append [c],gM c':=by
     intro c hc c' XY;rcases List.mem_append.1 XY with h1|h1
     ·exact hx c' h1
     ·rw[List.mem_singleton.1 h1];exact hc
    have ZX:∀(k2:Int)(c:Int×Int×Int×Int),DOk l k2->gM c->∃s',some (.inl (ys,(ys.length:Int),w64 ((i:Int)+1),l,k2,v5,v6,v7,v8,v9,v10,v11,v12,v13,v14,v15,v16,v17,v18,xs.append [c],v20,()))=some (.inl s':(_⊕(List Int×Int×Int×Bool×List Int×Int×Int×Int×Int×Int×Int×Int×Unit×Unit×Int×Int×Int×Int×Int×Int×List (Int×Int×Int×Int)×Unit×Unit)))/\(∃(i:Nat)(k:Int)(xs:List (Int×Int×Int×Int)),s'=(ys,(ys.length:Int),(i:Int),l,k,v5,v6,v7,v8,v9,v10,v11,v12,v13,v14,v15,v16,v17,v18,xs,v20,())/\i<=ys.length/\xs.length<=i/\DOk l k/\∀c∈xs,gM c)/\(s'.2.1-s'.2.2.1).toNat<((ys.length:Int)-(i:Int)).toNat:=by
     intro k2 c d2 hc;rw[dS (x:=(i:Int)+1) (by omega) (by omega)];refine⟨_,rfl,⟨i+1,k2,_,rfl,by omega,?_,d2,Rx hc⟩,by simp only;omega⟩;show(xs++[c]).length<=i+1;simp;omega
    have Vj:∀c:Int×Int×Int×Int,dX 24 xs.length [c].length=true:=λc=>gS (by decide) (by simp;omega);simp only[hn,decide_true,oCT,dP,oBS,dN,oGE YH];generalize ys[i]=y;by_cases hN:y=78
    ·subst hN;obtain⟨z,k2,e2,z0,z1,d2⟩:=gj hd (n:=5) (by decide) (by decide);simp only[beq_self_eq_true,oCT,e2,oBS,zA z0 (by omega:z<=65535),Vj];exact ZX k2 _ d2 (.inl ⟨.inl rfl,rfl,rfl,z0,by show z<=65535;omega⟩)
    ·have hNb:(y==78)=false:=by simpa using hN
     simp only[hNb,oCF];by_cases hH:y=72
     ·subst hH;obtain⟨z,k2,e2,z0,z1,d2⟩:=gj hd (n:=4) (by decide) (by decide);simp only[beq_self_eq_true,oCT,e2,oBS,zA z0 (by omega:z<=65535),Vj];exact ZX k2 _ d2 (.inl ⟨.inr rfl,rfl,rfl,z0,by show z<=65535;omega⟩)
     ·have hHb:(y==72)=false:=by simpa using hH
      simp only[hHb,oCF];by_cases hP:y=80
      ·subst hP;obtain⟨z,k2,e2,z0,z1,d2⟩:=gj hd (n:=2) (by decide) (by decide);obtain⟨u,k3,e3,u0,u1,d3⟩:=gj d2 (n:=4) (by decide) (by decide);simp only[beq_self_eq_true,oCT,e2,e3,oBS,Vj];exact ZX k3 _ d3 (.inr ⟨rfl,rfl,.inr ⟨z0,by show z<4;omega,u0,by show u<32;omega⟩⟩)
      ·have hPb:(y==80)=false:=by simpa using hP
       simp only[hPb,oCF];obtain⟨c1,c2,c3,c4,k2,e2,q2,d2⟩:=wP hd;simp only[e2,oBS,Vj,oCT];exact ZX k2 _ d2 q2
   ·right;simp only[hn,decide_false,oCF]
    exact⟨_,rfl,xs,k,i,rfl,hx,by omega,hd⟩) NN _ ⟨0,k,[],rfl,by omega,by simp,h,λc hc=>by simp at hc⟩ (by show((ys.length:Int)-0).toNat<NN;unfold NN;omega)
 exact⟨xs,k',i,e,g1,g2,g3⟩
def Pc:List ByteArray:=[(bytes [78]),(bytes [72,80,78]),(bytes [72,80,78]),(bytes [78,78]),(bytes [72]),(bytes [72,78]),(bytes []),(bytes []),(bytes [78]),(bytes [78]),(bytes [78,88]),(bytes [78]),(bytes [78]),(bytes [78,80,78]),(bytes [78,80,78]),(bytes [])]
theorem JW{j:Nat}(h:j<16):∃s ys,dN Pc j=some s/\MD s=true/\Ix s=ys/\ys.length<=3:=by
 match j,h with
 |0,_=>exact⟨_,[78],rfl,by kernel_rfl,by kernel_rfl,by decide⟩
 |1,_=>exact⟨_,[72,80,78],rfl,by kernel_rfl,by kernel_rfl,by decide⟩
 |2,_=>exact⟨_,[72,80,78],rfl,by kernel_rfl,by kernel_rfl,by decide⟩
 |3,_=>exact⟨_,[78,78],rfl,by kernel_rfl,by kernel_rfl,by decide⟩
 |4,_=>exact⟨_,[72],rfl,by kernel_rfl,by kernel_rfl,by decide⟩
 |5,_=>exact⟨_,[72,78],rfl,by kernel_rfl,by kernel_rfl,by decide⟩
 |6,_=>exact⟨_,[],rfl,by kernel_rfl,by kernel_rfl,by decide⟩
 |7,_=>exact⟨_,[],rfl,by kernel_rfl,by kernel_rfl,by decide⟩
 |8,_=>exact⟨_,[78],rfl,by kernel_rfl,by kernel_rfl,by decide⟩
 |9,_=>exact⟨_,[78],rfl,by kernel_rfl,by kernel_rfl,by decide⟩
 |10,_=>exact⟨_,[78,88],rfl,by kernel_rfl,by kernel_rfl,by decide⟩
 |11,_=>exact⟨_,[78],rfl,by kernel_rfl,by kernel_rfl,by decide⟩
 |12,_=>exact⟨_,[78],rfl,by kernel_rfl,by kernel_rfl,by decide⟩
 |13,_=>exact⟨_,[78,80,78],rfl,by kernel_rfl,by kernel_rfl,by decide⟩
 |14,_=>exact⟨_,[78,80,78],rfl,by kernel_rfl,by kernel_rfl,by decide⟩
 |15,_=>exact⟨_,[],rfl,by kernel_rfl,by kernel_rfl,by decide⟩
 |n+16,h=>exact absurd h (by omega)
theorem KW{j:Nat}(h:j<6):∃s:Int,dN [1,1,1,0,2,3] j=some s/\0<=s/\s<=3:=by
 match j,h with
 |0,_=>exact⟨_,rfl,by decide⟩
 |1,_=>exact⟨_,rfl,by decide⟩
 |2,_=>exact⟨_,rfl,by decide⟩
 |3,_=>exact⟨_,rfl,by decide⟩
 |4,_=>exact⟨_,rfl,by decide⟩
 |5,_=>exact⟨_,rfl,by decide⟩
theorem zP{l:List Int}{k:Int}(h:DOk l k):∃a0 a1 a2 a3 a4 a5 a6 a7 k',i6 l k=some (a0,a1,a2,a3,a4,a5,a6,a7,l,k',())/\MV a0 a1 a2 a3 a4 a5 a6 a7/\DOk l k':=by
 obtain⟨t,k1,e1,t0,t1,d1⟩:=gj h (n:=4) (by decide) (by decide);obtain⟨s,k2,e2,s0,s1,d2⟩:=gj d1 (n:=6) (by decide) (by decide);obtain⟨c,k3,e3,c0,c1,d3⟩:=gj d2 (n:=50) (by decide) (by decide);obtain⟨p,k4,e4,p0,p1,d4⟩:=gj d3 (n:=64) (by decide) (by decide);obtain⟨j,rfl⟩:∃j:Nat,s=j:=⟨s.toNat,by omega⟩;obtain⟨st,e5,st0,st1⟩:=KW (j:=j) (by omega);unfold i6;simp only[e1,e2,e3,e4,e5,dP,oBS]
 have Ri:∃tr k5,(bif(st==2)then((dK 6 l k4).bind λ(x16,x17,x18,_)=>
  let x19:Int:=(w64 (1+x16));
  some (x17,x18,0,0,0,0,0,0,(),(),t,st,x19,c,p,0,(),(),()))else
  some (l,k4,0,0,0,0,0,0,(),(),t,st,0,c,p,0,(),(),()):Option ((List (Int))×Int×Int×Int×Int×Int×Int×Int×Unit×Unit×Int×Int×Int×Int×Int×Int×Unit×Unit×Unit))=some (l,k5,0,0,0,0,0,0,(),(),t,st,tr,c,p,0,(),(),())/\0<=tr/\tr<=6/\DOk l k5:=by
  by_cases h2:st=2
  ·subst h2;obtain⟨v,k5,e6,v0,v1,d5⟩:=gj d4 (n:=6) (by decide) (by decide);refine⟨1+v,k5,?_,by omega,by omega,d5⟩;simp only[beq_self_eq_true,oCT,e6,oBS];rw[dS (by omega) (by omega)]
  ·have h2b:(st==2)=false:=by simpa using h2
   exact⟨0,k4,by simp only[h2b,oCF],by decide,by decide,d4⟩
 obtain⟨tr,k5,e6,RF,RG,d5⟩:=Ri;simp only[e6,oBS];by_cases h1:st=1
 ·subst h1;obtain⟨ca,k6,e7,ca0,ca1,d6⟩:=gj d5 (n:=16) (by decide) (by decide);obtain⟨q,rfl⟩:∃q:Nat,ca=q:=⟨ca.toNat,by omega⟩;obtain⟨str,ys,e8,e9,e10,VN⟩:=JW (j:=q) (by omega);obtain⟨xs,k7,i,e11,hx,Rn,d7⟩:=Ls d6 VN 0 0 0 0 0 0 () () t 1 tr c p q ();have e8':dN [(bytes [78]),(bytes [72,80,78]),(bytes [72,80,78]),(bytes [78,78]),(bytes [72]),(bytes [72,78]),(bytes []),(bytes []),(bytes [78]),(bytes [78]),(bytes [78,88]),(bytes [78]),(bytes [78]),(bytes [78,80,78]),(bytes [78,80,78]),(bytes [])] q=some str:=e8;simp only[bne_self_eq_false,oCF,e7,oBS,dP,e8',e9,e10,oCT,dV,e11]
  have TU:∃da k8,(bif((q:Int)==1)then((fQ 6 l k7).bind λ(x65,x66,x67,_)=>
   some (x66,x67,(0:Int),(0:Int),(0:Int),(0:Int),(0:Int),(0:Int),(),(),t,(1:Int),tr,c,p,(q:Int),xs,x65,()))else
   bif((q:Int)==13)then((fQ 6 l k7).bind λ(x65,x66,x67,_)=>
   some (x66,x67,0,0,0,0,0,0,(),(),t,1,tr,c,p,(q:Int),xs,x65,()))else
   some (l,k7,0,0,0,0,0,0,(),(),t,1,tr,c,p,(q:Int),xs,[],()):Option ((List (Int))×Int×Int×Int×Int×Int×Int×Int×Unit×Unit×Int×Int×Int×Int×Int×Int×(List (Int×Int×Int×Int))×(List (Int×Int×Int×Int))×Unit))=some (l,k8,0,0,0,0,0,0,(),(),t,1,tr,c,p,(q:Int),xs,da,())/\(∀c∈da,gM c)/\da.length<=16/\DOk l k8:=by
   obtain⟨da,k8,RL,g1,g2,d8⟩:=yl d7 (a:=6) (by decide) (by decide);by_cases hb1:(q:Int)=1
   ·refine⟨da,k8,?_,g1,by omega,d8⟩;rw[hb1];simp only[beq_self_eq_true,oCT,RL,oBS]
   ·have Ss:((q:Int)==1)=false:=by simpa using hb1
    by_cases hb2:(q:Int)=13
    ·refine⟨da,k8,?_,g1,by omega,d8⟩;simp only[Ss,oCF];rw[hb2];simp only[beq_self_eq_true,oCT,RL,oBS]
    ·have Up:((q:Int)==13)=false:=by simpa using hb2
     exact⟨[],k7,by simp only[Ss,Up,oCF],λc hc=>by simp at hc,by decide,d7⟩
  obtain⟨da,k8,RL,da1,da2,d8⟩:=TU;simp only[RL,oBS];obtain⟨z,k9,e13,z0,z1,d9⟩:=gj d8 (n:=10) (by decide) (by decide);simp only[e13,oBS];by_cases hz:z=0
  ·subst hz;obtain⟨ar,k10,e14,g1,g2,d10⟩:=yl d9 (a:=3) (by decide) (by decide);refine⟨t,1,tr,c,p,q,ar,da,k10,?_,⟨⟨t0,by omega⟩,by decide,⟨RF,RG⟩,⟨c0,by omega⟩,⟨p0,by omega⟩,⟨ca0,by omega⟩,⟨g1,by omega⟩,da1,da2⟩,d10⟩;simp only[beq_self_eq_true,oCT,e14,oBS]
  ·have UO:(z==0)=false:=by simpa using hz
   refine⟨t,1,tr,c,p,q,xs,da,k9,?_,⟨⟨t0,by omega⟩,by decide,⟨RF,RG⟩,⟨c0,by omega⟩,⟨p0,by omega⟩,⟨ca0,by omega⟩,⟨hx,Rn⟩,da1,da2⟩,d9⟩;simp only[UO,oCF,oBS]
 ·have h1b:(st != 1)=true:=by simpa using h1
  simp only[h1b,oCT];exact⟨t,st,tr,c,p,0,[],[],k5,rfl,⟨⟨t0,by omega⟩,⟨st0,st1⟩,⟨RF,RG⟩,⟨c0,by omega⟩,⟨p0,by omega⟩,by decide,⟨λc hc=>by simp at hc,by decide⟩,⟨λc hc=>by simp at hc,by decide⟩⟩,d5⟩
end Go.Proofs.YtoldehogdgdhmaaGreat
