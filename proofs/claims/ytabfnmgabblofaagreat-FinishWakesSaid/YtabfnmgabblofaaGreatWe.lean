/- Part of the proof; no condition. -/
import Derived.Test.YtabfnmgabblofaaGreatWd
import Derived.WalkKit
import Derived.WalkSpells
import Derived.Handy
import Derived.OpenShut
set_option linter.unusedVariables false
set_option linter.unusedSimpArgs false
namespace Go.Proofs.YtabfnmgabblofaaGreat
open Go.RowKit
set_option maxRecDepth 100000
noncomputable section
def jC:T33->Option (T33⊕(T15⊕(Int×Int×LDCn×T2V))):=λ(v0,v1,v2,v3,v4,v5,v6,v7)=>bif(decide (v4<v3))then((gk v4).bind λx0=>
(fU v2 x0).bind λx1=>
(ir v6 x1.1 x1.2.1 x1.2.2.1 x1.2.2.2).bind λ(x2,_)=>bif(!x2)then(some (.inr (.inl (false,(),0,(),(),(),()))))else let x3:=w64 (v4+1);some (.inl (v0,v1,v2,v3,x3,v5,v6,v7)))else some (.inr (.inr (v0,v1,v2,v3,v4,false,v5,v6,v7)))
def jB:T2Q->Option (T2Q⊕(T15⊕T2V)):=λ(v0,v1,v2,v3,v4,v5,v6,v7,v8,v9,eu,eE,eG,eI,eK,_)=>bif(decide (v1<v0))then((gk v1).bind λx0=>
(fU eK x0).bind λ_=>
(fU eK x0).bind λx2=>let x3:=fZ x2.length;
(match gd jC NN (v0,v1,x2,x3,0,v2,v3,v4,v5,v6,v7,v8,v9,eu,eE,eG,eI,eK,())with
|none=>none
|some (.inl (x4,x5,x6,x7,x8,x9,_))=>some (.inr (.inl (x4,x5,x6,x7,x8,x9,())))
|some (.inr (x4,x5,_,_,_,_,ac))=>let ax:=w64 (x5+1);some (.inl (x4,ax,ac))))else some (.inr (.inr (v0,v1,false,v2,v3,v4,v5,v6,v7,v8,v9,eu,eE,eG,eI,eK,())))
def jA:T3s->Option (T3s⊕(Int×LLCn×Int×Int×LDCn×T3i)):=λ(v0,v1,v2,v3,v4,v5,v6,v7,v8,v9,eu,eE,eG,eI,eK,eO,eS,eV,eY,fa,fe,fh,fj)=>bif(decide (v6<v5))then((gk v6).bind λx0=>
(fU v4 x0).bind λx1=>
(gk v0).bind λx2=>
(fU eu x2).bind λx3=>let x4:=w64 (x3+v6);
(iD eu eE v8 x1.1 x1.2.1 x1.2.2.1 x1.2.2.2).bind λ(x5,x6,_,_)=>
(gk x4).bind λx8=>
(fU fh x8).bind λ_=>
(fU fh x8).bind λ_=>let ae:=fh.modify x8 λe=>(x5,x6);let af:=w64 (v6+1);some (.inl (v0,v1,v2,v3,v4,v5,af,v7,v8,v9,eu,eE,eG,eI,eK,eO,eS,eV,eY,fa,fe,ae,fj)))else some (.inr (v0,v1,v2,v3,v4,v5,v6,false,v7,v8,v9,eu,eE,eG,eI,eK,eO,eS,eV,eY,fa,fe,fh,fj))
def jz:T3k->Option (T3k⊕(LLCn×T3i)):=λ(v0,v1,v2,v3)=>bif(decide (v2<v1))then((gk v2).bind λx0=>
(fU v0 x0).bind λx1=>let x2:=fZ x1.length;
(gd jA NN (v2,v0,v1,v2,x1,x2,0,v3)).bind λ(_,x4,x5,x6,_,_,_,_,ae)=>let aD:=w64 (x6+1);some (.inl (x4,x5,aD,ae)))else some (.inr (v0,v1,v2,false,v3))
def jy:T44->Option (T44⊕(LDTs×Int×Int×LDCn×Int×Int×Bool×T3J)):=λ(v0,v1,v2,v3,v4,v5,v6,v7,v8,v9,eu,eE,eG,eI,eK,eO,eS,eV,eY,fa,fe,fh,fj,fm,fr,fv,fw,fA,fB,fC,fD,fE,fF,fG)=>bif(decide (v5<v4))then((gk v5).bind λx0=>
(fU v3 x0).bind λx1=>
(iD v9 eu v7 x1.1 x1.2.1 x1.2.2.1 x1.2.2.2).bind λ(x2,x3,_,_)=>let x5:LDCe:=[(x2,x3)];bif(gl 4 fF.length x5.length)then let x6:LDCe:=(List.append fF x5);let x7:=w64 (v5+1);some (.inl (v0,v1,v2,v3,v4,x7,v6,v7,v8,v9,eu,eE,eG,eI,eK,eO,eS,eV,eY,fa,fe,fh,fj,fm,fr,fv,fw,fA,fB,fC,fD,fE,x6,fG))else none)else some (.inr (v0,v1,v2,v3,v4,v5,false,v6,v7,v8,v9,eu,eE,eG,eI,eK,eO,eS,eV,eY,fa,fe,fh,fj,fm,fr,fv,fw,fA,fB,fC,fD,fE,fF,fG))
def jx:T3j->Option (T3j⊕(LDTs×Int×Int×Bool×T30)):=λ(v0,v1,v2,v3,v4,v5,v6,v7,v8,v9,eu,eE,eG,eI,eK,eO,eS,eV,eY,fa,_)=>bif(decide (v2<v1))then((gk v2).bind λx0=>
(fU v0 x0).bind λx1=>let x2:=fZ x1.2.2.2.2.2.2.2.length;
(gd jy NN (v0,v1,v2,x1.2.2.2.2.2.2.2,x2,0,v3,v4,v5,v6,v7,v8,v9,eu,eE,eG,eI,eK,eO,eS,eV,eY,fa,x1.1,x1.2.1,x1.2.2.1,x1.2.2.2.1,x1.2.2.2.2.1,x1.2.2.2.2.2.1,x1.2.2.2.2.2.2.1,x1.2.2.2.2.2.2.2,x1.1,[],x1.2.1,x1.2.2.1,x1.2.2.2.1,x1.2.2.2.2.1,x1.2.2.2.2.2.1,x1.2.2.2.2.2.2.1,())).bind λ(x3,x4,x5,_,_,_,_,ac,ae,af,ag,ah,ai,aj,ak,am,an,ap,aq,av,ax,ay,az,aA,_,_,_,_,_,_,_,_,aK,aL,aM,aO,aP,aQ,aR,aS,_)=>let aT:LDTh:=[(aK,(aL,(aM,(aO,(aP,(aQ,(aR,aS)))))))];bif(gl 80 aA.length aT.length)then let aU:LDTh:=(List.append aA aT);let aV:=w64 (x5+1);some (.inl (x3,x4,aV,ac,ae,af,ag,ah,ai,aj,ak,am,an,ap,aq,av,ax,ay,az,aU,()))else none)else some (.inr (v0,v1,v2,false,v3,v4,v5,v6,v7,v8,v9,eu,eE,eG,eI,eK,eO,eS,eV,eY,fa,()))
def lJ(a0:LDIn)(a1:LI)(a2:LLI)(a3:LI)(a4:Int)(a5:z_)(a6:LDTs):Option (T1i):=
(mK a0 a1 a2 a5 a6).bind λ(x0,_)=>bif(!x0)then(some ([],0,[],[],[],false,()))else
(jT a3 a4 a1).bind λ(x1,_)=>bif(!x1)then(some ([],0,[],[],[],false,()))else
(oR a5 a6).bind λ(x2,_)=>let x3:=fZ x2.length;
(match gd jB NN (x3,0,a0,a1,a2,a3,a4,a5,a6,(),0,(),(),(),x2,())with
|none=>none
|some (.inl (x4,_,x6,_,_,_,_))=>some ([],x6,[],[],[],x4,())
|some (.inr (_,_,_,x7,x8,x9,ac,ae,af,ag,ah,ai,aj,ak,am,_,_))=>bif(gl 8 0 ac.length)then let ap:v_:=(List.append [] ac);bif(xA 512 512 2)then let aq:LDCe:=(List.replicate 512 (0,0));
(o4).bind λ(av,_)=>let ax:=fZ af.length;
(gd jz NN (af,ax,0,x7,x8,x9,ac,ae,af,ag,ah,ai,aj,ak,am,ap,ae,aq,av,(),())).bind λ(_,_,_,_,aD,aE,aF,aG,aH,aI,aJ,aK,aL,aM,aO,aP,aQ,aR,aS,aT,_,_)=>let aV:=fZ aJ.length;
(gd jx NN (aJ,aV,0,aD,aE,aF,aG,aH,aI,aJ,aK,aL,aM,aO,aP,aQ,aR,aS,aT,[],())).bind λ(_,_,_,_,_,_,_,_,_,_,_,_,_,_,_,_,bp,bq,bt,bv,bx,_)=>some (bp,bq,bt,bv,bx,true,())else none else none)
def DA:X.Cfg:=⟨E0,[yf,nv,ye,lS,sR,sS],[(150,R6),(151,R6)],[⟨12,0,qS (zl [3,4,5,6]++Zaa 37 77::il [38,39]++sP 43 gp::il [44,45]) yao,[(.ret,qS yav [(14,Zab)]),(.exit 2,qS (zl [3,4,5,6]++Zaa 37 77::il [38,39]++sP 43 gp::il [44,45]++[Xaa 46]) yao)]⟩,⟨6,1,qS (zl [3,4,5,6]++Zaa 37 77::il [38,39]) yao,[(.ret,qS yav [(14,Zab)]),(.exit 0,qS (zl [3,4,5,6]++Zaa 37 77::il [38,39]++[Xaa 40]) yao)]⟩,⟨28,2,qS (zl [3,4,5,6,12]++Uaa 13::sP 68 (yaa gp)::il [69,70]++sP 75 gp::il [76,77]) zao,[(.exit 6,qS (zl [3,4,5,6,12]++Uaa 13::sP 68 (yaa gp)::il [69,70]++sP 75 gp::il [76,77]++[Xaa 78]) zao)]⟩,⟨22,3,qS (zl [3,4,5,6,12]++sP 68 (yaa gp)::il [69,70]) zao,[(.exit 4,qS (zl [3,4,5,6,12]++sP 68 (yaa gp)::il [69,70]++[Xaa 71]) zao)]⟩,⟨43,4,qS (zl [3,4,6,12,19]++sP 104 (yaa vC)::il [105,106]++sP 126 gp::il [127,128]) yat,[(.exit 10,qS (zl [3,4,6,12,19]++sP 104 (yaa vC)::il [105,106]++sP 126 gp::il [127,128]++[Xaa 129]) yat)]⟩,⟨35,5,qS (zl [3,4,6,12]++sP 104 (yaa vC)::il [105,106]) zat,[(.exit 8,qS (zl [3,4,6,12]++sP 104 (yaa vC)::il [105,106]++[Xaa 107]) zat)]⟩]⟩
def wl:Ctr:=⟨13,175,[.agg uab,.agg Uab,.agg uaf],[],[⟨zak,[.agg 5,.one],[]⟩],as2 (as4 ap1) lJ⟩
theorem De:Lk 5 wl:=ls DA (aC Fc (aC pm (aC Fb (aC oc (aC xL (aC wM aN))))))
def nJ:T3O->Option (T3O⊕T3R):=λ(v0,v1,v2,v3,v4,v5,v6,v7,v8,v9,eu,eE,eG,eI,eK,eO,eS,eV,eY,fa,fe,fh,fj,fm,fr,fv,fw,fA,fB,fC,fD,fE,fF,fG,fH,fI,_)=>bif(decide (v1<v0))then(((fV 3 v2 v3).bind λ(x0,x1,x2,_)=>bif(x0==0)then((fU fH 0).bind λ_=>
(fU fH 0).bind λ_=>
(jM eI x1 x2).bind λ(x5,x6,x7,x8,x9,ac,_)=>
(gk v1).bind λae=>
(fU fH 0).bind λaf=>
(fU af ae).bind λ_=>
(fU fH 0).bind λah=>
(fU ah ae).bind λ_=>let aj:=fH.modify 0 λe=>(e.modify ae λe=>(x5,(x6,(x7,x8))));some (v0,v1,x9,ac,v4,v5,v6,v7,v8,v9,eu,eE,eG,eI,eK,eO,eS,eV,eY,fa,fe,fh,fj,fm,fr,fv,fw,fA,fB,fC,fD,fE,fF,fG,aj,fI,()))else some (v0,v1,x1,x2,v4,v5,v6,v7,v8,v9,eu,eE,eG,eI,eK,eO,eS,eV,eY,fa,fe,fh,fj,fm,fr,fv,fw,fA,fB,fC,fD,fE,fF,fG,fH,fI,()):Option (T3O)).bind λ(x0,x1,x2,x3,x4,x5,x6,x7,x8,x9,ac,ae,af,ag,ah,ai,aj,ak)=>let aL:=w64 (x1+1);some (.inl (x0,aL,x2,x3,x4,x5,x6,x7,x8,x9,ac,ae,af,ag,ah,ai,aj,ak)))else some (.inr (v0,v1,false,v2,v3,v4,v5,v6,v7,v8,v9,eu,eE,eG,eI,eK,eO,eS,eV,eY,fa,fe,fh,fj,fm,fr,fv,fw,fA,fB,fC,fD,fE,fF,fG,fH,fI,()))
def rB:T40->Option (T40⊕(Int×Int×Int×T3R)):=λ(v0,v1,v2,v3,v4,v5,v6,v7,v8,v9,eu,eE,eG,eI,eK,eO,eS,eV,eY,fa,fe,fh,fj,fm,fr,fv,fw,fA,fB,fC,fD,fE,fF,fG,fH,fI,fJ,fK,fL,_)=>bif(decide (v4<v3))then(((fV 3 v5 v6).bind λ(x0,x1,x2,_)=>bif(x0==0)then((gk v0).bind λx3=>
(fU fL x3).bind λ_=>
(fU fL x3).bind λ_=>
(jM eS x1 x2).bind λ(x6,x7,x8,x9,ac,ae,_)=>
(gk v4).bind λaf=>
(fU fL x3).bind λag=>
(fU ag.2.2.2.2.2.2.2 af).bind λ_=>
(fU fL x3).bind λai=>
(fU ai.2.2.2.2.2.2.2 af).bind λ_=>let ak:=fL.modify x3 λe=>(e.1,(e.2.1,(e.2.2.1,(e.2.2.2.1,(e.2.2.2.2.1,(e.2.2.2.2.2.1,(e.2.2.2.2.2.2.1,(e.2.2.2.2.2.2.2.modify af λe=>(x6,(x7,(x8,x9)))))))))));some (v0,v1,v2,v3,v4,ac,ae,v7,v8,v9,eu,eE,eG,eI,eK,eO,eS,eV,eY,fa,fe,fh,fj,fm,fr,fv,fw,fA,fB,fC,fD,fE,fF,fG,fH,fI,fJ,fK,ak,()))else some (v0,v1,v2,v3,v4,x1,x2,v7,v8,v9,eu,eE,eG,eI,eK,eO,eS,eV,eY,fa,fe,fh,fj,fm,fr,fv,fw,fA,fB,fC,fD,fE,fF,fG,fH,fI,fJ,fK,fL,()):Option (T40)).bind λ(x0,x1,x2,x3,x4,x5,x6,x7,x8,x9,ac,ae,af,ag,ah,ai,aj,ak,am)=>let aP:=w64 (x4+1);some (.inl (x0,x1,x2,x3,aP,x5,x6,x7,x8,x9,ac,ae,af,ag,ah,ai,aj,ak,am)))else some (.inr (v0,v1,v2,v3,v4,false,v5,v6,v7,v8,v9,eu,eE,eG,eI,eK,eO,eS,eV,eY,fa,fe,fh,fj,fm,fr,fv,fw,fA,fB,fC,fD,fE,fF,fG,fH,fI,fJ,fK,fL,()))
def nI:T3O->Option (T3O⊕T3R):=λ(v0,v1,v2,v3,v4,v5,v6,v7,v8,v9,eu,eE,eG,eI,eK,eO,eS,eV,eY,fa,fe,fh,fj,fm,fr,fv,fw,fA,fB,fC,fD,fE,fF,fG,fH,fI,_)=>bif(decide (v1<v0))then(((gk v1).bind λx0=>
(fU fI x0).bind λ_=>
(fU fI x0).bind λ_=>
(fU fI x0).bind λx3=>let x4:=fZ x3.2.2.2.2.2.2.2.length;
(gd rB NN (v1,v0,v1,x4,0,v2,v3,v4,v5,v6,v7,v8,v9,eu,eE,eG,eI,eK,eO,eS,eV,eY,fa,fe,fh,fj,fm,fr,fv,fw,fA,fB,fC,fD,fE,fF,fG,fH,fI,())).bind λ(x5,x6,x7,_,_,_,ae,af,ag,ah,ai,aj,ak,am,an,ap,aq,av,ax,ay,az,aA,aB,aD,aE,aF,aG,aH,aI,aJ,aK,aL,aM,aO,aP,aQ,aR,aS,aT,aU,_)=>
(fV 4 ae af).bind λ(aV,aW,aY,_)=>bif(aV==0)then((fV 5 aW aY).bind λ(aZ,ba,bc,_)=>
(gk x5).bind λbd=>
(fU aU bd).bind λ_=>
(fU aU bd).bind λ_=>let bg:=aU.modify bd λe=>(aZ,e.2);some (x6,x7,ba,bc,ag,ah,ai,aj,ak,am,an,ap,aq,av,ax,ay,az,aA,aB,aD,aE,aF,aG,aH,aI,aJ,aK,aL,aM,aO,aP,aQ,aR,aS,aT,bg,()))else some (x6,x7,aW,aY,ag,ah,ai,aj,ak,am,an,ap,aq,av,ax,ay,az,aA,aB,aD,aE,aF,aG,aH,aI,aJ,aK,aL,aM,aO,aP,aQ,aR,aS,aT,aU,()):Option (T3O)).bind λ(x0,x1,x2,x3,x4,x5,x6,x7,x8,x9,ac,ae,af,ag,ah,ai,aj,ak,am,an,ap,aq,av,ax,ay,az,aA,aB,aD,aE,aF,aG,aH,aI,aJ,aK,_)=>let aL:=w64 (x1+1);some (.inl (x0,aL,x2,x3,x4,x5,x6,x7,x8,x9,ac,ae,af,ag,ah,ai,aj,ak,am,an,ap,aq,av,ax,ay,az,aA,aB,aD,aE,aF,aG,aH,aI,aJ,aK,())))else some (.inr (v0,v1,false,v2,v3,v4,v5,v6,v7,v8,v9,eu,eE,eG,eI,eK,eO,eS,eV,eY,fa,fe,fh,fj,fm,fr,fv,fw,fA,fB,fC,fD,fE,fF,fG,fH,fI,()))
def n8(a0:LI)(a1:Int):Option (LDIn×LI×LLI×LI×Int×LDCe×LDLn×LDTh×T07):=
(vh a0 a1).bind λ(x0,x1,x2,x3,x4,x5,x6,x7,x8,x9,ac,ae,af,ag,ah,ai,aj,ak,am,an,_)=>
(match((fV 3 am an).bind λ(ap,aq,av,_)=>bif(ap==0)then((mL x0 x1 x2 x3 x4 x5 x6 x7).bind λ(ax,ay,_)=>
(fU ax 0).bind λ_=>
(fU ax 0).bind λ_=>
(fU ax 0).bind λaB=>let aD:=fZ aB.length;
(gd nJ NN (aD,0,aq,av,(),(),(),(),0,(),(),(),x0,x1,x2,x3,x4,x5,x6,x8,x9,ac,ae,af,ag,ah,ai,aj,ak,x3,x4,x5,x6,x7,ax,ay,())).bind λ(_,_,_,aH,aI,aJ,aK,aL,aM,aO,aP,aQ,aR,aS,aT,aU,aV,aW,aY,aZ,ba,bc,bd,be,bf,bg,bh,bi,bj,bk,bm,bn,bo,bp,bq,bt,bv,_)=>let bx:=fZ bv.length;
(gd nI NN (bx,0,aH,aI,aJ,aK,aL,aM,aO,aP,aQ,aR,aS,aT,aU,aV,aW,aY,aZ,ba,bc,bd,be,bf,bg,bh,bi,bj,bk,bm,bn,bo,bp,bq,bt,bv,())).bind λ(_,_,_,bD,bE,bF,bG,bH,bI,bJ,bK,bL,bM,bN,bO,bP,bQ,bR,bS,bT,bU,bV,bW,bY,bZ,b8,b9,cb,cd,cf,cg,ch,ci,cj,cn,cq,cr,_)=>
(lJ bN bO bP cg ch cq cr).bind λ(cu,cw,cx,cy,cz,cD,_)=>bif cD then(some (.inl (bD,bE,bF,bG,bH,bI,bJ,bK,bL,bM,bN,bO,bP,bQ,bR,bS,bT,bU,bV,bW,bY,bZ,b8,b9,cb,cd,cf,cu,cw,cx,cy,cz,())))else some (.inr (bD,bE,bF,bG,bH,bI,bJ,bK,bL,bM,bN,bO,bP,bQ,bR,bS,bT,bU,bV,bW,bY,bZ,b8,b9,cb,cd,cf,cg,ch,ci,cj,cn,())))else some (.inr (aq,av,(),(),(),(),0,(),(),(),x0,x1,x2,x3,x4,x5,x6,x8,x9,ac,ae,af,ag,ah,ai,aj,ak,x3,x4,x5,x6,x7,())):Option (T3H⊕T3H))with
|none=>none
|some (.inl (ap,aq,_,_,_,_,_,_,_,_,aF,aG,aH,_,_,_,_,_,_,_,_,_,_,_,_,_,_,aY,aZ,ba,bc,bd,_))=>
(fU bd 0).bind λ_=>
(fU bd 0).bind λ_=>some (aF,aG,aH,aY,aZ,ba,bc,bd,ap,aq,())
|some (.inr (ap,aq,_,_,_,_,_,_,_,_,aF,aG,aH,_,_,_,_,_,_,_,_,_,_,_,_,_,_,aY,aZ,ba,bc,bd,_))=>
(fU bd 0).bind λ_=>some (aF,aG,aH,aY,aZ,ba,bc,bd,ap,aq,()))
def DS:X.Cfg:=⟨E0,[Ex,hJ,sL,oA,wl],[],[⟨11,0,qE,[(.normal,(qS Uay Xam))]⟩,(lx 8 1 Uay Xam 29),⟨26,2,qE,[(.normal,(qS Xay Xam))]⟩,⟨23,3,(qS Xay Xam),[(.exit 4,(qS (zl [0,2,3,4,5,6]++il [8,48,49,58,59]++[Xaa 60]) Xam))]⟩,⟨19,4,qE,[(.normal,(qS Zay Xam))]⟩,⟨16,5,(qS Zay Xam),[(.exit 2,(qS (zl [0,2,3,4,5,6]++il [48,49]++[Xaa 50]) Xam))]⟩,⟨3,6,qE,[(.normal,(qS uaz [(2,yab),(6,Xad),(8,Zab),(10,Zal),(12,Zac)])),(.normal,(qS uaz [(2,yab),(6,Xad),(8,Zab),(10,Zal),(12,Zaf)]))]⟩]⟩
def wB:Ctr:=⟨24,176,[.ptr ⟨2,0,[]⟩ [0]],[(2,yab)],[⟨uL [gR,RI,(yaa RW),RI,CW,gS,iu,(uaa nA)],[.agg 3,.agg 5],[(2,yab)]⟩],ap2 n8⟩
theorem Dq:Lk 10 wB:=ls DS (aC MV (aC ig (aC xG (aC qU (aC De aN)))))
def oJ:Int×LI×T03->Option ((Int×LI×T03)⊕(Int×Bool×LI×T03)):=λ(v0,v1,v2,v3,_)=>bif(decide (v0>0))then(let x0:v_:=[8,4];
(jM x0 v1 v2).bind λ(x1,x2,x3,x4,x5,x6,_)=>
((fV 12 x5 x6).bind λ(x7,x8,x9,_)=>bif(x7==0)then((fV 65536 x8 x9).bind λ(ac,ae,af,_)=>some (v0,ae,af,v3,1,0,(-1),ac,()))else some (v0,x8,x9,v3,x1,x2,x3,x4,()):Option (Int×LI×Int×LDCn×T0w)).bind λ(x7,x8,x9,ac,ae,af,ag,ah,_)=>let ai:LDCn:=[(ae,(af,(ag,ah)))];bif(gl 24 ac.length ai.length)then let aj:LDCn:=(List.append ac ai);let ak:=w64 (x7-1);some (.inl (ak,x8,x9,aj,()))else none)else some (.inr (v0,false,v1,v2,v3,()))
def jW(a0:Int)(a1:LI)(a2:Int):Option (LDCn×T07):=let x0:=w64 (a0+1);
(fV x0 a1 a2).bind λ(x1,x2,x3,_)=>
(gd oJ NN (x1,x2,x3,[],())).bind λ(_,_,x6,x7,x8,_)=>some (x8,x6,x7,())
def GA:X.Cfg:=⟨E0,[hJ,oA],[],[⟨9,0,qE,[(.normal,qS [zaa 0,Zaa 5 13,Uaa 6,zaa 7] [(2,yab),(13,Xag),(16,yag)])]⟩,(lx 4 1 [zaa 0,Zaa 5 13,Uaa 6] [(2,yab),(13,Xag)] 13)]⟩
def sV:Ctr:=⟨59,177,[.ptr ⟨2,0,[]⟩ [0],shU I64],[(2,yab)],[⟨Xag,[.one],[(2,yab)]⟩],ap3 jW⟩
theorem xO:Lk 6 sV:=ls GA (aC ig (aC qU aN))
def lr:T3m->Option (T3m⊕(LI×Int×Int×Bool×T39)):=λ(v0,v1,v2,v3,v4,v5,v6,v7,v8,v9,eu,eE,eG,eI,eK,eO,eS,eV,eY,fa,fe,_)=>bif(decide (v2<v1))then(((gk v2).bind λx0=>
(fU v0 x0).bind λx1=>bif(x1==78)then((fV 5 v3 v4).bind λ(x2,x3,x4,_)=>let x5:=wk .u16 x2;let x6:LDCn:=[(0,(x5,(0,0)))];bif(gl 24 fa.length x6.length)then let x7:LDCn:=(List.append fa x6);some (v0,v1,v2,x3,x4,v5,v6,v7,v8,v9,eu,eE,eG,eI,eK,eO,eS,eV,eY,x7,fe,())else none)else bif(x1==72)then((fV 4 v3 v4).bind λ(x2,x3,x4,_)=>let x5:=wk .u16 x2;let x6:LDCn:=[(2,(x5,(0,0)))];bif(gl 24 fa.length x6.length)then let x7:LDCn:=(List.append fa x6);some (v0,v1,v2,x3,x4,v5,v6,v7,v8,v9,eu,eE,eG,eI,eK,eO,eS,eV,eY,x7,fe,())else none)else bif(x1==80)then((fV 2 v3 v4).bind λ(x2,x3,x4,_)=>
(fV 4 x3 x4).bind λ(x5,x6,x7,_)=>let x8:LDCn:=[(1,(0,(x2,x5)))];bif(gl 24 fa.length x8.length)then let x9:LDCn:=(List.append fa x8);some (v0,v1,v2,x6,x7,v5,v6,v7,v8,v9,eu,eE,eG,eI,eK,eO,eS,eV,eY,x9,fe,())else none)else let x2:v_:=[8,4];
(jM x2 v3 v4).bind λ(x3,x4,x5,x6,x7,x8,_)=>let x9:LDCn:=[(x3,(x4,(x5,x6)))];bif(gl 24 fa.length x9.length)then let ac:LDCn:=(List.append fa x9);some (v0,v1,v2,x7,x8,v5,v6,v7,v8,v9,eu,eE,eG,eI,eK,eO,eS,eV,eY,ac,fe,())else none:Option (T3m)).bind λ(x0,x1,x2,x3,x4,x5,x6,x7,x8,x9,ac,ae)=>let aq:=w64 (x2+1);some (.inl (x0,x1,aq,x3,x4,x5,x6,x7,x8,x9,ac,ae)))else some (.inr (v0,v1,v2,false,v3,v4,v5,v6,v7,v8,v9,eu,eE,eG,eI,eK,eO,eS,eV,eY,fa,fe,()))
def lM(a0:LI)(a1:Int):Option (Int×Int×Int×Int×Int×Int×LDCn×LDCn×T07):=
(fV 4 a0 a1).bind λ(x0,x1,x2,_)=>let x3:v_:=[1,1,1,0,2,3];
(fV 6 x1 x2).bind λ(x4,x5,x6,_)=>
(gk x4).bind λx7=>
(fU x3 x7).bind λ_=>
(fU x3 x7).bind λx9=>
(fV 50 x5 x6).bind λ(ac,ae,af,_)=>
(fV 64 ae af).bind λ(ag,ah,ai,_)=>
(bif(x9==2)then((fV 6 ah ai).bind λ(aj,ak,am,_)=>let an:=w64 (1+aj);some (ak,am,0,0,0,0,0,0,(),(),x0,x9,an,ac,ag,0,(),(),()))else some (ah,ai,0,0,0,0,0,0,(),(),x0,x9,0,ac,ag,0,(),(),()):Option (LI×Int×Int×Int×Int×Int×Int×Int×Unit×Unit×T1L)).bind λ(aj,ak,am,an,ap,aq,av,ax,ay,az,aA,aB,aD,aE,aF,aG,_,aI,_)=>bif(aB != 1)then(some (aA,aB,aD,aE,aF,aG,[],[],aj,ak,()))else
(fV 16 aj ak).bind λ(aJ,aK,aL,_)=>let aM:List (ByteArray):=[(bytes [78]),(bytes [72,80,78]),(bytes [72,80,78]),(bytes [78,78]),(bytes [72]),(bytes [72,78]),(bytes []),(bytes []),(bytes [78]),(bytes [78]),(bytes [78,88]),(bytes [78]),(bytes [78]),(bytes [78,80,78]),(bytes [78,80,78]),(bytes [])];
(gk aJ).bind λaO=>
(fU aM aO).bind λ_=>
(fU aM aO).bind λaQ=>bif(Sk aQ)then let aR:v_:=(NB aQ);let aS:=fZ aR.length;
(gd lr NN (aR,aS,0,aK,aL,am,an,ap,aq,av,ax,ay,az,aA,aB,aD,aE,aF,aJ,[],aI,())).bind λ(_,_,_,_,aY,aZ,ba,bc,bd,be,bf,bg,bh,bi,bj,bk,bm,bn,bo,bp,bq,_,_)=>
(bif(bp==1)then((jW 6 aY aZ).bind λ(bv,bx,bA,_)=>some (bx,bA,ba,bc,bd,be,bf,bg,bh,bi,bj,bk,bm,bn,bo,bp,bq,bv,()))else bif(bp==13)then((jW 6 aY aZ).bind λ(bv,bx,bA,_)=>some (bx,bA,ba,bc,bd,be,bf,bg,bh,bi,bj,bk,bm,bn,bo,bp,bq,bv,()))else some (aY,aZ,ba,bc,bd,be,bf,bg,bh,bi,bj,bk,bm,bn,bo,bp,bq,[],()):Option (T38)).bind λ(bv,bx,bA,bB,bC,bD,bE,bF,bG,bH,bI,bJ,bK,bL,bM,bN,bO,bP,_)=>
((fV 10 bv bx).bind λ(bQ,bR,bS,_)=>bif(bQ==0)then((jW 3 bR bS).bind λ(bT,bU,bV,_)=>some (bU,bV,bA,bB,bC,bD,bE,bF,bG,bH,bI,bJ,bK,bL,bM,bN,bT,bP,()))else some (bR,bS,bA,bB,bC,bD,bE,bF,bG,bH,bI,bJ,bK,bL,bM,bN,bO,bP,()):Option (T38)).bind λ(bQ,bR,_,_,_,_,_,_,_,_,b9,cb,cd,cf,cg,ch,ci,cj,_)=>some (b9,cb,cd,cf,cg,ch,ci,cj,bQ,bR,())else none
def DP:X.Cfg:=⟨E0,[hJ,oA,sV],[],[⟨2,0,qE,[(.normal,qS Zau [(2,yab),(6,zae),(8,zae)])]⟩,⟨14,1,qE,[(.normal,qS yaz Uat)]⟩,(lx 11 2 yaz Uat 42),⟨20,3,qE,[(.normal,qS Zau Xat)]⟩,⟨22,4,qE,[(.normal,qS Zau Xat)]⟩]⟩
def wy:Ctr:=⟨25,178,[.ptr ⟨2,0,[]⟩ [0]],[(2,yab)],[⟨zag,[.agg 8],[(2,yab)]⟩],ap2 lM⟩
theorem Dn:Lk 7 wy:=ls DP (aC ig (aC qU (aC xO aN)))
def pa(a0:LI)(a1:Int):Option (T21):=let x0:v_:=[8,4];
(jM x0 a0 a1).bind λ(x1,x2,x3,x4,x5,x6,_)=>
(fV 6 x5 x6).bind λ(x7,x8,x9,_)=>
(fV 3 x8 x9).bind λ(ac,ae,af,_)=>bif(ac==0)then((jW 5 ae af).bind λ(ag,ah,ai,_)=>
((fV 5 ah ai).bind λ(aj,ak,am,_)=>bif(aj==0)then((fV 4 ak am).bind λ(an,ap,aq,_)=>some (ap,aq,0,0,0,0,(),0,false,x1,x2,x3,x4,ag,an,(x7==0),()))else some (ak,am,0,0,0,0,(),0,false,x1,x2,x3,x4,ag,(-1),(x7==0),()):Option (T2Y)).bind λ(aj,ak,_,_,_,_,_,_,_,az,aA,aB,aD,aE,aF,aG,_)=>some (az,aA,aB,aD,aE,aF,aG,aj,ak,()))else
((fV 5 ae af).bind λ(ag,ah,ai,_)=>bif(ag==0)then((fV 4 ah ai).bind λ(aj,ak,am,_)=>some (ak,am,0,0,0,0,(),0,false,x1,x2,x3,x4,[],aj,(x7==0),()))else some (ah,ai,0,0,0,0,(),0,false,x1,x2,x3,x4,[],(-1),(x7==0),()):Option (T2Y)).bind λ(ag,ah,_,_,_,_,_,_,_,av,ax,ay,az,aA,aB,aD,_)=>some (av,ax,ay,az,aA,aB,aD,ag,ah,())
def Gx:X.Cfg:=⟨E0,[oA,hJ,sV],[],[⟨4,0,qE,[(.normal,qS Zau [(2,yab),(6,Zad),(8,yah)])]⟩]⟩
def yE:Ctr:=⟨26,179,[.ptr ⟨2,0,[]⟩ [0]],[(2,yab)],[⟨yah,[.agg 7],[(2,yab)]⟩],ap2 pa⟩
theorem FA:Lk 7 yE:=ls Gx (aC qU (aC ig (aC xO aN)))
def m7:T47->Option (T47⊕(Int×Bool×T46)):=λ(v0,v1,v2,v3,v4,v5,v6,v7,v8,v9,eu,eE,eG,eI,eK,eO,eS,eV,eY,fa,fe,fh,fj,fm,fr,fv,fw,fA,fB,fC,fD,fE,fF,fG,fH,fI,fJ)=>bif(decide (v0<5))then(bif(fI != 1)then((lM v1 v2).bind λ(x0,x1,x2,x3,x4,x5,x6,x7,x8,x9,_)=>let ac:=w64 (v0+1);some (.inl (ac,x8,x9,v3,v4,v5,v6,v7,v8,v9,eu,eE,eG,eI,eK,eO,eS,eV,eY,fa,fe,fh,fj,fm,fr,fv,fw,fA,fB,fC,fD,fE,fF,fG,x0,x1,x2,x3,x4,x5,x6,x7,())))else some (.inr (v0,false,v1,v2,v3,v4,v5,v6,v7,v8,v9,eu,eE,eG,eI,eK,eO,eS,eV,eY,fa,fe,fh,fj,fm,fr,fv,fw,fA,fB,fC,fD,fE,fF,fG,fH,fI,fJ)))else some (.inr (v0,false,v1,v2,v3,v4,v5,v6,v7,v8,v9,eu,eE,eG,eI,eK,eO,eS,eV,eY,fa,fe,fh,fj,fm,fr,fv,fw,fA,fB,fC,fD,fE,fF,fG,fH,fI,fJ))
def m6:T49->Option (T49⊕(Int×Int×Bool×T48)):=λ(v0,v1,v2,v3,v4,v5,v6,v7,v8,v9,eu,eE,eG,eI,eK,eO,eS,eV,eY,fa,fe,fh,fj,fm,fr,fv,fw,fA,fB,fC,fD,fE,fF,fG,fH,fI,fJ,fK,fL,fM,fN,fO,fP)=>bif(decide (v1<v0))then(((gk v1).bind λx0=>
(fU fO x0).bind λ_=>
(fU fO x0).bind λx2=>bif(x2.1==1)then(let x3:Int:=(fZ fB.length);
(fV x3 v2 v3).bind λ(x4,x5,x6,_)=>
(gk x4).bind λx7=>
(fU fD x7).bind λx8=>
(gX fD fE fB x8).bind λ(x9,_,_,_)=>
(gk x9).bind λaf=>
(fU fB af).bind λag=>
(fV ag x5 x6).bind λ(ah,ai,aj,_)=>
(gk v1).bind λak=>
(fU fO ak).bind λ_=>
(fU fO ak).bind λ_=>let ap:=fO.modify ak λe=>(e.1,(e.2.1,(x9,e.2.2.2)));
(gk v1).bind λaq=>
(fU ap aq).bind λ_=>
(fU ap aq).bind λ_=>let ay:=ap.modify aq λe=>(e.1,(e.2.1,(e.2.2.1,ah)));some (v0,v1,ai,aj,v4,v5,v6,v7,v8,v9,eu,eE,eG,eI,eK,eO,eS,eV,eY,fa,fe,fh,fj,fm,fr,fv,fw,fA,fB,fC,fD,fE,fF,fG,fH,fI,fJ,fK,fL,fM,fN,ay,fP))else some (v0,v1,v2,v3,v4,v5,v6,v7,v8,v9,eu,eE,eG,eI,eK,eO,eS,eV,eY,fa,fe,fh,fj,fm,fr,fv,fw,fA,fB,fC,fD,fE,fF,fG,fH,fI,fJ,fK,fL,fM,fN,fO,fP):Option (T49)).bind λ(x0,x1,x2,x3,x4,x5,x6,x7,x8,x9,ac,ae,af,ag,ah,ai,aj,ak,am,an,ap,aq,av,ax,ay,az)=>let bc:=w64 (x1+1);some (.inl (x0,bc,x2,x3,x4,x5,x6,x7,x8,x9,ac,ae,af,ag,ah,ai,aj,ak,am,an,ap,aq,av,ax,ay,az)))else some (.inr (v0,v1,false,v2,v3,v4,v5,v6,v7,v8,v9,eu,eE,eG,eI,eK,eO,eS,eV,eY,fa,fe,fh,fj,fm,fr,fv,fw,fA,fB,fC,fD,fE,fF,fG,fH,fI,fJ,fK,fL,fM,fN,fO,fP))
def m8(a0:LI)(a1:Int):Option (LDIn×LI×LLI×LI×Int×LDCe×LDLn×LDTh×Int×Int×Int×Int×Int×Int×LDCn×LDCn×T21):=
(n8 a0 a1).bind λ(x0,x1,x2,x3,x4,x5,x6,x7,x8,x9,_)=>
(lM x8 x9).bind λ(ac,ae,af,ag,ah,ai,aj,ak,am,an,_)=>
(gd m7 NN (0,am,an,(),(),(),(),0,(),(),(),0,0,0,0,0,0,(),(),0,0,0,0,(),0,false,x0,x1,x2,x3,x4,x5,x6,x7,ac,ae,af,ag,ah,ai,aj,ak,())).bind λ(_,_,av,ax,ay,az,aA,aB,aD,aE,aF,aG,aH,aI,aJ,aK,aL,aM,aO,aP,aQ,aR,aS,aT,aU,aV,aW,aY,aZ,ba,bc,bd,be,bf,bg,bh,bi,bj,bk,bm,bn,bo,bp,_)=>
(gk bh).bind λbq=>
(fU bg bq).bind λ_=>
(fU bg bq).bind λ_=>let bx:=bg.modify bq λe=>(2,e.2);
(pa av ax).bind λ(bA,bB,bC,bD,bE,bF,bG,bH,bI,_)=>let bJ:=fZ bo.length;
(gd m6 NN (bJ,0,bH,bI,ay,az,aA,aB,aD,aE,aF,aG,aH,aI,aJ,aK,aL,aM,aO,aP,aQ,aR,aS,aT,aU,aV,aW,aY,aZ,ba,bc,bd,be,bf,bx,bh,bi,bj,bk,bm,bn,bo,bp,bA,bB,bC,bD,bE,bF,bG,())).bind λ(_,_,_,bN,bO,bP,bQ,bR,bS,bT,bU,bV,bW,bY,bZ,b8,b9,cb,cd,cf,cg,ch,ci,cj,cn,cq,cr,cu,cw,cx,cy,cz,cD,cE,cF,cG,cH,cI,cJ,cK,cL,cM,cN,cO,cP,cQ,cR,cS,cT,cU,cV,_)=>
(bif(cM==10)then((fV 3 bN bO).bind λ(cW,cX,cY,_)=>bif(decide (cW>0))then((fU cG 3).bind λ_=>
(fU cG 3).bind λ_=>let c9:=cG.modify 3 λe=>(0,e.2);bif(cH != 3)then(some (cX,cY,bP,bQ,bR,bS,bT,bU,bV,bW,bY,bZ,b8,b9,cb,cd,cf,cg,ch,ci,cj,cn,cq,cr,cu,cw,cx,cy,cz,cD,cE,cF,c9,cH,cI,cJ,cK,cL,cM,cN,cO,cP,cQ,cR,cS,cT,3,cV,()))else some (cX,cY,bP,bQ,bR,bS,bT,bU,bV,bW,bY,bZ,b8,b9,cb,cd,cf,cg,ch,ci,cj,cn,cq,cr,cu,cw,cx,cy,cz,cD,cE,cF,c9,cH,cI,cJ,cK,cL,cM,cN,cO,cP,cQ,cR,cS,cT,cU,cV,()))else some (cX,cY,bP,bQ,bR,bS,bT,bU,bV,bW,bY,bZ,b8,b9,cb,cd,cf,cg,ch,ci,cj,cn,cq,cr,cu,cw,cx,cy,cz,cD,cE,cF,cG,cH,cI,cJ,cK,cL,cM,cN,cO,cP,cQ,cR,cS,cT,cU,cV,()))else some (bN,bO,bP,bQ,bR,bS,bT,bU,bV,bW,bY,bZ,b8,b9,cb,cd,cf,cg,ch,ci,cj,cn,cq,cr,cu,cw,cx,cy,cz,cD,cE,cF,cG,cH,cI,cJ,cK,cL,cM,cN,cO,cP,cQ,cR,cS,cT,cU,cV,()):Option (T48)).bind λ(cW,cX,_,_,_,_,_,_,_,_,_,_,_,_,_,_,_,_,_,_,_,_,_,_,_,dG,dH,dI,dJ,dK,dL,dM,dN,dO,dP,dQ,dR,dS,dT,dU,dV,dW,dX,dY,dZ,ee,ef,ej,_)=>some (dG,dH,dI,dJ,dK,dL,dM,dN,dO,dP,dQ,dR,dS,dT,dU,dV,dW,dX,dY,dZ,ee,ef,ej,cW,cX,())
def Cj:X.Cfg:=⟨E0,[wB,wy,yE,hJ,jI],[],[(lx 5 0 (zl [0,2,3,4,5,6,7,8]++[Uaa 9]) [(2,yab),(6,Xad),(8,Zab),(10,zae),(12,Zad),(14,uab),(16,Zaf),(18,zag)] 28),⟨16,1,qE,[(.normal,(qS zaz Uao))]⟩,⟨13,2,(qS zaz Uao),[(.exit 2,(qS (zl [0,2,3,4,5,6,7,8,10]++(42,.pk ⟨18,6,[]⟩ [0,0])::il [43,44]++[Xaa 45]) Uao))]⟩,⟨20,3,qE,[(.normal,qS (zl [0,2,3,4,5,6,7,8,10]) Uao)]⟩]⟩
def uU:Ctr:=⟨9,180,[.ptr ⟨2,0,[]⟩ [0]],[(2,yab)],[⟨uL [gR,RI,(yaa RW),RI,CW,gS,iu,(uaa nA),I64,I64,I64,I64,I64,I64,gp,gp,CB,CW,I64,I64,gp,I64,.bool],[.agg 3,.agg 5,.agg 8,.agg 7],[(2,yab)]⟩],ap2 m8⟩
theorem BY:Lk 11 uU:=ls Cj (aC Dq (aC Dn (aC FA (aC ig (aC kY aN)))))
def wD(a0 a1:Int):h_:=bif(a1 != 0)then let x0:Int:=(Int.tmod a0 a1);
(bif(decide (x0<0))then(let x1:Int:=(w64 (x0+a1));some (x1,()))else some (x0,()):h_).bind λ(x1,_)=>some (x1,())else none
def Kt:X.Cfg:=⟨E0,[],[],[⟨2,0,qE,[(.normal,qS [Uaa 5] [])]⟩]⟩
def CQ:Ctr:=⟨89,181,uad,[],[⟨zac,[.one],[]⟩],ap2 wD⟩
theorem Kd:Lk 1 CQ:=ls Kt aN
def tN(a0:Int)(a1:LDCe)(a2 a3 a4 a5 a6 a7 a8 a9 ek:Int):Option (T1Q):=
(oN a0 a1 a2 a3 a4 a5 a6 a7).bind λ(x0,x1,x2)=>
((wD a8 8).bind λ(x8,_)=>let x9:=fZ x1.length;bif(decide (x8<x9))then((gk x8).bind λac=>
(fU x1 ac).bind λ_=>
(fU x1 ac).bind λ_=>let ag:=x1.modify ac λe=>(a9,ek);some (0,(),0,0,0,0,0,0,x0,ag,x2))else some (0,(),0,0,0,0,0,0,x0,x1,x2):Option (Int×Unit×Int×Int×Int×Int×T2j)).bind λ(_,_,_,_,_,_,_,_,aj)=>some (aj)
def Ii:X.Cfg:=⟨E0,[sI,CQ],[],[⟨2,0,qE,[(.normal,(qS (zl [6,7]) [(14,uL [I64,N1,I64,I64,I64,I64,I64,CW]),(16,Uaf)]))]⟩]⟩
def zZ:Ctr:=⟨54,182,[.agg Uad,shU I64,.agg Xab],[],[⟨Uaf,[.agg 8],[]⟩],as2 (as8 ap1) tN⟩
theorem HK:Lk 3 zZ:=ls Ii (aC xC (aC Kd aN))
def na(a0:LDIn)(a1:LI)(a2:LLI)(a3:LI)(a4:Int)(a5:LDCe)(a6:LDLn)(a7:LDTh)(a8 a9 ek ew eF:Int)(eH:LDCn)(eJ:Int)(eM:Bool):Option (T1i):=
((oh a0 a1 a2 a3 a4 a5 a6 a7).bind λ(x0,_)=>bif(!x0)then(some (a8,true,a0,a1,a2,a3,a4,a5,a6,a7,a9,ek,ew,eF,eH,eJ,eM,(),0,(),(),(),()))else
(lL a9 ek ew eF eH eJ eM).bind λ(x1,_)=>bif(!x1)then(some (a8,true,a0,a1,a2,a3,a4,a5,a6,a7,a9,ek,ew,eF,eH,eJ,eM,(),0,(),(),(),()))else bif(decide (a8<0))then(some (a8,true,a0,a1,a2,a3,a4,a5,a6,a7,a9,ek,ew,eF,eH,eJ,eM,(),0,(),(),(),()))else bif(decide (a8>=4))then(some (a8,true,a0,a1,a2,a3,a4,a5,a6,a7,a9,ek,ew,eF,eH,eJ,eM,(),0,(),(),(),()))else
(gk a8).bind λx2=>
(fU a7 x2).bind λx3=>some (a8,(x3.1 != 3),a0,a1,a2,a3,a4,a5,a6,a7,a9,ek,ew,eF,eH,eJ,eM,(),0,(),(),(),()):Option (T3n)).bind λ(x0,x1,_,x3,_,x5,x6,x7,x8,x9,ac,ae,af,ag,_)=>bif x1 then((iF x5 x6 x7 x8 x9).bind λ(av,ax,ay,az,aA,_)=>some (av,ax,ay,az,aA,false,()))else
(iY x5 x6 x3 ac ae af ag).bind λ(av,ax,ay,_)=>bif(ay != 0)then((iF x5 x6 x7 x8 x9).bind λ(az,aA,aB,aD,aE,_)=>some (az,aA,aB,aD,aE,false,()))else
(iF x5 x6 x7 x8 x9).bind λ(az,aA,aB,aD,aE,_)=>
(gk x0).bind λaF=>
(fU aE aF).bind λ_=>
(fU aE aF).bind λaH=>
(fU aE aF).bind λaI=>
(tN aH.1 aI.2.1 aH.2.2.1 aH.2.2.2.1 aH.2.2.2.2.1 aH.2.2.2.2.2.1 aH.2.2.2.2.2.2.1 aH.2.2.2.2.2.2.2 0 av ax).bind λ(aJ,aK,aL,aM,aO,aP,aQ,aR,_)=>
(gk x0).bind λaS=>
(fU aE aS).bind λ_=>
(fU aE aS).bind λ_=>let aV:=aE.modify aS λe=>(aJ,(aK,(aL,(aM,(aO,(aP,(aQ,aR)))))));
(gk x0).bind λaW=>
(fU aV aW).bind λ_=>
(fU aV aW).bind λ_=>let ba:=aV.modify aW λe=>(1,e.2);some (az,aA,aB,aD,ba,true,())
def Gv:X.Cfg:=⟨E0,[uy,ru,rp,oz,zZ],[],[⟨2,0,qE,[(.normal,qS Zax yas)]⟩]⟩
def yC:Ctr:=⟨22,183,[.agg uab,.agg uac,shU I64,.agg Xac],[],[⟨Zak,[.agg 5,.one],[]⟩],as1 (as2 (as4 (as8 ap1))) na⟩
theorem Fy:Lk 10 yC:=ls Gv (aC zH (aC vU (aC vR (aC qT (aC HK aN)))))
def mW:Int×Int×T0G->Option ((Int×Int×T0G)⊕((Bool×Unit)⊕(Int×Int×Bool×T0G))):=λ(v0,v1,v2,v3,v4,v5,_)=>bif(decide (v1<v0))then((gk v1).bind λx0=>
(fU v2 x0).bind λx1=>
(gk v1).bind λx2=>
(fU v4 x2).bind λx3=>bif(x1 != x3)then(some (.inr (.inl (false,()))))else let x4:=w64 (v1+1);some (.inl (v0,x4,v2,v3,v4,v5,())))else some (.inr (.inr (v0,v1,false,v2,v3,v4,v5,())))
def qH(a0:LI)(a1:Int)(a2:LI)(a3:Int):f_:=bif(a1 != a3)then(some (false,()))else let x0:=fZ a0.length;let x1:=fZ a2.length;bif(x0 != x1)then(some (false,()))else let x2:=fZ a0.length;
(match gd mW NN (x2,0,a0,a1,a2,a3,())with
|none=>none
|some (.inl (x3,_))=>some (x3,())
|some (.inr (_,_))=>some (true,()))
def IT:X.Cfg:=⟨E0,[],[],[⟨6,0,qS (zl [2,3]++il [22,23]) [(6,Uab),(8,Uab)],[(.ret,qS uau []),(.exit 0,qS (zl [2,3]++il [22,23]++[Xaa 24]) [(6,Uab),(8,Uab)])]⟩]⟩
def At:Ctr:=⟨49,184,[.agg Uab,.agg Uab],[],[⟨zab,[.one],[]⟩],ap4 qH⟩
theorem H9:Lk 1 At:=ls IT aN
def mZ:LDCe×T0j->Option ((LDCe×T0j)⊕((Bool×Unit)⊕(LDCe×T0B))):=λ(v0,v1,v2,v3,_)=>bif(decide (v3<v2))then((gk v3).bind λx0=>
(fU v0 x0).bind λx1=>
(gk v3).bind λx2=>
(fU v1 x2).bind λx3=>bif(!((x1.1==x3.1)&&((x1.2==x3.2)&&true)))then(some (.inr (.inl (false,()))))else let x4:=w64 (v3+1);some (.inl (v0,v1,v2,x4,())))else some (.inr (.inr (v0,v1,v2,v3,false,())))
def mr(a0 a1:LDCe):f_:=let x0:=fZ a0.length;let x1:=fZ a1.length;bif(x0 != x1)then(some (false,()))else let x2:=fZ a0.length;
(match gd mZ NN (a0,a1,x2,0,())with
|none=>none
|some (.inl (x3,_))=>some (x3,())
|some (.inr (_,_))=>some (true,()))
def IV:X.Cfg:=⟨E0,[],[],[⟨6,0,qS (sP 0 gS::sP 1 gS::il [12,13]) [],[(.ret,qS uau []),(.exit 0,qS [sP 0 gS,sP 1 gS,Uaa 12,Uaa 13,Xaa 14] [])]⟩]⟩
def uR:Ctr:=⟨80,185,uL [gS,gS],[],[⟨zab,[.one],[]⟩],ap2 mr⟩
theorem zQ:Lk 1 uR:=ls IV aN
def mV:Int×Int×T0C->Option ((Int×Int×T0C)⊕((Bool×Unit)⊕T1p)):=λ(v0,v1,v2,v3,v4,v5,_)=>bif(decide (v1<v0))then((gk v1).bind λx0=>
(fU v3 x0).bind λx1=>
(gk v1).bind λx2=>
(fU v5 x2).bind λx3=>
(bif(x1.1 != x3.1)then(some (v0,v1,true,v2,v3,v4,v5,()))else bif(!(x1.2.1==x3.2.1))then(some (v0,v1,true,v2,v3,v4,v5,()))else
(mr x1.2.2 x3.2.2).bind λ(x4,_)=>some (v0,v1,(!x4),v2,v3,v4,v5,()):Option (T1p)).bind λ(x4,x5,x6,x7)=>bif x6 then(some (.inr (.inl (false,()))))else let ae:=w64 (x5+1);some (.inl (x4,ae,x7)))else some (.inr (.inr (v0,v1,false,v2,v3,v4,v5,())))
def qD(a0:LDCe)(a1:LDLn)(a2:LDCe)(a3:LDLn):f_:=
(mr a0 a2).bind λ(x0,_)=>bif(!x0)then(some (false,()))else let x1:=fZ a1.length;let x2:=fZ a3.length;bif(x1 != x2)then(some (false,()))else let x3:=fZ a1.length;
(match gd mV NN (x3,0,a0,a1,a2,a3,())with
|none=>none
|some (.inl (x4,_))=>some (x4,())
|some (.inr (_,_))=>some (true,()))
def IQ:X.Cfg:=⟨E0,[uR],[],[⟨12,0,qE,[(.normal,qS (zl [2,3]++il [25,26]++[Xaa 58]) zaq)]⟩,⟨6,1,qS (zl [2,3]++il [25,26]) zaq,[(.ret,qS uau []),(.exit 0,qS (zl [2,3]++il [25,26]++[Xaa 27]) zaq)]⟩]⟩
def Aq:Ctr:=⟨50,186,[.agg yad,.agg yad],[],[⟨zab,[.one],[]⟩],ap4 qD⟩
theorem H6:Lk 2 Aq:=ls IQ (aC zQ aN)
def qB(a0:Int)(a1:LDCe)(a2 a3 a4 a5 a6 a7 a8:Int)(a9:LDCe)(ek ew eF eH eJ eM:Int):f_:=bif(a0==a8)then(bif(a2==ek)then(bif(a3==ew)then(bif(a4==eF)then(bif(a5==eH)then(bif(a6==eJ)then(bif(a7==eM)then((mr a1 a9).bind λ(x0,_)=>some (x0,()))else some (false,()))else some (false,()))else some (false,()))else some (false,()))else some (false,()))else some (false,()))else some (false,())
def IH:X.Cfg:=⟨E0,[uR],[],[]⟩
def Ao:Ctr:=⟨51,187,[.agg Uad,.agg Uad],[],[⟨zab,[.one],[]⟩],as1 (as2 (as4 (as8 ap1))) qB⟩
theorem H4:Lk 2 Ao:=ls IH (aC zQ aN)
def mO:T2G->Option (T2G⊕((Bool×Unit)⊕(Int×Int×T2r))):=λ(v0,v1,v2,v3,v4,v5,v6,v7,v8,v9,eu,eE,_)=>bif(decide (v1<v0))then((gk v1).bind λx0=>
(fU v6 x0).bind λx1=>
(gk v1).bind λx2=>
(fU eE x2).bind λx3=>
(qB x1.1 x1.2.1 x1.2.2.1 x1.2.2.2.1 x1.2.2.2.2.1 x1.2.2.2.2.2.1 x1.2.2.2.2.2.2.1 x1.2.2.2.2.2.2.2 x3.1 x3.2.1 x3.2.2.1 x3.2.2.2.1 x3.2.2.2.2.1 x3.2.2.2.2.2.1 x3.2.2.2.2.2.2.1 x3.2.2.2.2.2.2.2).bind λ(x4,_)=>bif(!x4)then(some (.inr (.inl (false,()))))else let x5:=w64 (v1+1);some (.inl (v0,x5,v2,v3,v4,v5,v6,v7,v8,v9,eu,eE,())))else some (.inr (.inr (v0,v1,false,v2,v3,v4,v5,v6,v7,v8,v9,eu,eE,())))
def oo(a0:LI)(a1:Int)(a2:LDCe)(a3:LDLn)(a4:LDTh)(a5:LI)(a6:Int)(a7:LDCe)(a8:LDLn)(a9:LDTh):f_:=
((qH a0 a1 a5 a6).bind λ(x0,_)=>bif(!x0)then(some (true,a0,a1,a2,a3,a4,a5,a6,a7,a8,a9,()))else
(qD a2 a3 a7 a8).bind λ(x1,_)=>bif(!x1)then(some (true,a0,a1,a2,a3,a4,a5,a6,a7,a8,a9,()))else let x2:=fZ a4.length;let x3:=fZ a9.length;some ((x2 != x3),a0,a1,a2,a3,a4,a5,a6,a7,a8,a9,()):Option (T2r)).bind λ(x0,x1,x2,x3,x4,x5,x6)=>bif x0 then(some (false,()))else let ae:=fZ x5.length;
(match gd mO NN (ae,0,x1,x2,x3,x4,x5,x6)with
|none=>none
|some (.inl (af,_))=>some (af,())
|some (.inr (_,_))=>some (true,()))
def IG:X.Cfg:=⟨E0,[At,Aq,Ao],[],[⟨2,0,qE,[(.normal,qS [zaa 2,zaa 3,Xaa 28] Uaq)]⟩,⟨6,1,qS (zl [2,3]++il [31,32]) Uaq,[(.ret,qS uau []),(.exit 0,qS (zl [2,3]++il [31,32]++[Xaa 33]) Uaq)]⟩]⟩
def An:Ctr:=⟨19,188,[.agg uac,.agg uac],[],[⟨zab,[.one],[]⟩],as1 (as8 ap1) oo⟩
theorem H3:Lk 3 An:=ls IG (aC H9 (aC H6 (aC H4 aN)))
def jb:T3D->Option (T3D⊕((Bool×Unit)⊕T3F)):=λ(v0,v1,v2,v3,v4,v5,v6,v7,v8,v9,eu,eE,eG,eI,eK,eO,eS,eV,eY,fa,fe,fh,_)=>bif(decide (v4<v3))then((match((gk v4).bind λx0=>
(fU fh x0).bind λ_=>
(fU fh x0).bind λx2=>
(na v5 v6 v7 v8 v9 eu eE eG x2 eI eK eO eS eV eY fa).bind λ(x3,x4,x5,x6,x7,x8,_)=>
(match iI v5 v6 v7 v8 v9 eu eE eG x2 eI eK eO eS eV eY fa with
|none=>none
|some (.inl (x9,ac,ae,af,ag,ah,_))=>bif(!(x8==ah))then(some (.inl (false,())))else
(oo x3 x4 x5 x6 x7 x9 ac ae af ag).bind λ(ai,_)=>bif(!ai)then(some (.inl (false,())))else some (.inr (v0,v1,v2,v3,v4,false,v5,v6,v7,v8,v9,eu,eE,eG,eI,eK,eO,eS,eV,eY,fa,fe,fh,()))
|some (.inr (x9,ac,ae,af,ag,ah,_))=>bif(!(x8==ah))then(some (.inl (false,())))else
(oo x3 x4 x5 x6 x7 x9 ac ae af ag).bind λ(ai,_)=>bif(!ai)then(some (.inl (false,())))else some (.inr (v0,v1,v2,v3,v4,false,v5,v6,v7,v8,v9,eu,eE,eG,eI,eK,eO,eS,eV,eY,fa,fe,fh,()))):Option ((Bool×Unit)⊕T3F))with
|none=>none
|some (.inl (x0,_))=>some (.inr (.inl (x0,())))
|some (.inr (x0,x1,x2,x3,x4,_,x6,x7,x8,x9,ac,ae,af,ag,ah,ai,aj))=>let ax:=w64 (x4+1);some (.inl (x0,x1,x2,x3,ax,x6,x7,x8,x9,ac,ae,af,ag,ah,ai,aj))))else some (.inr (.inr (v0,v1,v2,v3,v4,false,v5,v6,v7,v8,v9,eu,eE,eG,eI,eK,eO,eS,eV,eY,fa,fe,fh,())))
def ja:T32->Option (T32⊕((Bool×Unit)⊕(Int×Int×Int×Bool×T2S))):=λ(v0,v1,v2,v3,v4,v5,v6,v7,v8,v9,eu,eE,_)=>bif(decide (v2<v1))then((gk v2).bind λx0=>
(fU eE x0).bind λ_=>
(fU eE x0).bind λx2=>
(xe v0 6).bind λ(x3,_)=>let x4:=w64 (x3-1);let x5:v_:=[v0,1,x4];let x6:=fZ x5.length;
(match gd jb NN (v0,v1,v2,x6,0,v3,v4,v5,v6,v7,v8,v9,eu,x2.1,x2.2.1,x2.2.2.1,x2.2.2.2.1,x2.2.2.2.2.1,x2.2.2.2.2.2.1,x2.2.2.2.2.2.2,eE,x5,())with
|none=>none
|some (.inl (x7,_))=>some (.inr (.inl (x7,())))
|some (.inr (x7,x8,x9,_,_,_,ag,ah,ai,aj,ak,am,an,ap,_,_,_,_,_,_,_,aD,_,_))=>let aF:=w64 (x9+1);some (.inl (x7,x8,aF,ag,ah,ai,aj,ak,am,an,ap,aD,()))))else some (.inr (.inr (v0,v1,v2,false,v3,v4,v5,v6,v7,v8,v9,eu,eE,())))
def mj(a0 a1 a2 a3:Int)(a4:LDCn)(a5:Int)(a6:Bool)(a7:LI)(a8:Int):f_:=let x0:=fZ a4.length;bif(decide (x0>60))then((o8).bind λ(x1,_)=>some (x1,()))else
(m8 a7 0).bind λ(x1,x2,x3,x4,x5,x6,x7,x8,_,_,_,_,_,_,_,_,ak,am,an,ap,aq,av,ax,_)=>
(fU x8 1).bind λ_=>
(fU x8 1).bind λ_=>let aD:=x8.modify 1 λe=>(3,e.2);let aE:List (Int×Int×Int×Int×LDCn×Int×Bool):=[(ak,(am,(an,(ap,(aq,(av,ax)))))),(a0,(a1,(a2,(a3,(a4,(a5,a6))))))];let aF:=fZ aE.length;
(match gd ja NN (a8,aF,0,x1,x2,x3,x4,x5,x6,x7,aD,aE,())with
|none=>none
|some (.inl (aG,_))=>some (aG,())
|some (.inr (_,_))=>
(o8).bind λ(aU,_)=>some (aU,()))
def wR:X.Cfg:=⟨E0,[yy,uU,GT,yC,q7,An],[(40,(.pair CB (.pair CW (.pair I64 (.pair I64 (.pair (uaa KCn) (.pair I64 .bool)))))))],[⟨18,0,qE,[(.ret,qS [Xaa 6] []),(.normal,(qS (Uaa 2::zl [8,9,13]++Zaa 40 83::il [41,42]++Zaa 50 103::il [51,52]++[Xaa 80]) Xaq))]⟩,⟨15,1,(qS (Uaa 2::zl [8,9,13]++Zaa 40 83::il [41,42]++Zaa 50 103::il [51,52]) Xaq),[(.ret,qS [Xaa 6] []),(.exit 2,(qS (Uaa 2::zl [8,9,13]++Zaa 40 83::il [41,42]++Zaa 50 103::il [51,52]++[Xaa 53]) Xaq))]⟩,⟨9,2,(qS (Uaa 2::zl [8,9]++Zaa 40 83::il [41,42]) Zat),[(.ret,qS [Xaa 6] []),(.exit 0,(qS [Uaa 2,zaa 8,zaa 9,Zaa 40 83,Uaa 41,Uaa 42,Xaa 43] Zat))]⟩]⟩
def qh:Ctr:=⟨6,189,[.agg Xac,shU RI,shU I64],[],[⟨zab,[.one],[]⟩],as8 ap1 mj⟩
theorem k_law14_FinishWakes:Lk 13 qh:=ls wR (aC Ft (aC BY (aC Lx (aC Fy (aC uk (aC H3 aN))))))
end
end Go.Proofs.YtabfnmgabblofaaGreat
namespace Go.Proofs.YtabfnmgabblofaaGreat
set_option maxRecDepth 100000
noncomputable section
end
end Go.Proofs.YtabfnmgabblofaaGreat
namespace Go.Proofs.YtabfnmgabblofaaGreat
open Go.RowKit
theorem VK:(Tryz.prog.funcs.all λfn=>!(fn.name== "runtime.NumGoroutine"))=true:=by kernel_rfl
theorem MJ:tD Tryz.prog 8:=by
 obtain⟨fn,hf,hb⟩:∃fn,Tryz.prog.funcs[8]?=some fn/\fn.body.isSome=true:=by
  have hs:(match Tryz.prog.funcs[8]? with|some fn=>fn.body.isSome|none=>false)=true:=by kernel_rfl
  cases h:Tryz.prog.funcs[8]? with|none=>rw[h]at hs;cases hs|some fn=>rw[h]at hs;exact⟨fn,rfl,hs⟩
 obtain⟨c,hc⟩:=Option.isSome_iff_exists.1 hb;refine Jg hf ?_ hc;obtain⟨hlt,he⟩:=Array.getElem?_eq_some_iff.1 hf;have:=Array.all_eq_true.1 VK 8 hlt;rw[he]at this;simpa using this
def Uf(x:Value)(w:World)(e:Ending)(w':World):Prop:=e=.returned (.pointer (some ⟨w.heap.size,0,none⟩))/\w'=w.alloc (.cells #[x,.int .i64 0] 79)
theorem Ty(x:Value)(hx:x.oneCell'=true)(w:World):Calls Tryz.prog 8 #[x] w (Uf x w):=by
 cases x;all_goals first
  |(go_enter Tryz.func8,Tryz.ntmps8
    go_wp2
    go_ret
    exact⟨rfl,rfl⟩)
  |simp[Value.oneCell']at hx
theorem Va:GX Tryz.prog E0:=by
 intro f n tm h;simp only[E0]at h;split at h;rename_i e;subst e;injection h with h
 injection h with h1 h2
 subst h1 h2;refine⟨MJ,λx hx=>?_,79,λl2 w hl YM=>?_⟩;simp only[oMC,List.not_mem_nil,or_false]at hx;rcases hx with hx|hx;injection hx;injection hx with hx;rw[hx];rfl
 match l2,hl with| [x],_=>exact Ty x (YM x (by simp[bxV])) w
 simp at h
theorem e0_ok:Jx Tryz.prog E0:=RO Va
def Ok{α:Type}(o:Option α)(Q:α->Prop):Prop:=∃a,o=some a/\Q a
section
variable {α β:Type}
theorem fR{a:α}{Q:α->Prop}(h:Q a):Ok (some a) Q:=⟨a,rfl,h⟩
theorem Ok.bind{o:Option α}{f:α->Option β}{P:α->Prop}{Q:β->Prop}(h:Ok o P)(h2:∀a,P a->Ok (f a) Q):Ok (o.bind f) Q:=by obtain⟨a,rfl,h1⟩:=h;simp_all
theorem Ok.mono{o:Option α}{P Q:α->Prop}(h:Ok o P)(h2:∀a,P a->Q a):Ok o Q:=by have ⟨a,e,h1⟩:=h;exact⟨a,e,h2 a h1⟩
theorem gf{c:Bool}{a b:Option α}{Q:α->Prop}(h1:c=true->Ok a Q)(h2:c=false->Ok b Q):Ok (bif c then a else b) Q:=by grind
class BP (b:Bool) (P N:outParam Prop):Prop where
 t:b=true->P
 f:b=false->N
instance (priority:=low) bpVar {b:Bool}:BP b (b=true) (b=false):=⟨id,id⟩
instance Wo {p:Prop}{i:Decidable p}:BP (@decide p i) p (¬p):=⟨of_decide_eq_true,of_decide_eq_false⟩
instance WA {α:Type}[BEq α][LawfulBEq α]{a b:α}:BP (a==b) (a=b) (¬a=b):=⟨eq_of_beq,λh=>beq_eq_false_iff_ne.1 h⟩
instance Wz {α:Type}[BEq α][LawfulBEq α]{a b:α}:BP (a != b) (¬a=b) (a=b):=⟨λh=>bne_iff_ne.1 h,λh=>bne_eq_false_iff_eq.1 h⟩
instance Wn {b:Bool}{P N:Prop}[h:BP b P N]:BP (!b) N P:=⟨λe=>h.f (by simpa using e),λe=>h.t (by simpa using e)⟩
theorem fT{c:Bool}{P N:Prop}[h:BP c P N]{a b:Option α}{Q:α->Prop}(h1:P->Ok a Q)(h2:N->Ok b Q):Ok (bif c then a else b) Q:=by cases hc:c with|true=>exact h1 (h.t hc)|false=>exact h2 (h.f hc)
theorem gP{l:List α}{i:Nat}{f:α->Option β}{Q:β->Prop}(h:i<l.length)(h2:∀a,l[i]?=some a->Ok (f a) Q):Ok ((fU l i).bind f) Q:=by have e:fU l i=some l[i]:=oGE h;simp_all
theorem ju{x:Int}{f:Nat->Option β}{Q:β->Prop}(h:0<=x)(h2:∀n:Nat,x=n->Ok (f n) Q):Ok ((gk x).bind f) Q:=by obtain⟨n,rfl⟩:∃n:Nat,x=n:=⟨x.toNat,by omega⟩;exact h2 n rfl
theorem f7{l:List α}{i:Nat}{f:α->Option β}{Q:β->Prop}(h2:∀a,l[i]?=some a->Ok (f a) Q)(h:i<l.length:=by omega):Ok ((fU l i).bind f) Q:=gP h h2
theorem gW{x:Int}{f:Nat->Option β}{Q:β->Prop}(h2:∀n:Nat,x=n->Ok (f n) Q)(h:0<=x:=by omega):Ok ((gk x).bind f) Q:=ju h h2
theorem Ok.val{v:α}{f:α->Option β}{Q:β->Prop}(h:∀x,x=v->Ok (f x) Q):Ok (f v) Q:=h v rfl
theorem fS{c:Bool}{a b:Option α}{Q:α->Prop}(hc:c=true)(h1:Ok a Q):Ok (bif c then a else b) Q:=by simp_all
theorem hU{S T:Type}{f:S->Option (S⊕T)}(P:S->Prop)(R:T->Prop)(m:S->Nat){n:Nat}{s:S}(hs:P s)(hm:m s<n) (h:∀s,P s->Ok (f s) λr=>match r with|.inl s'=>P s'/\m s'<m s|.inr t=>R t):Ok (gd f n s) R:=by induction n generalizing s with|zero=>omega|succ n ih=>have ⟨r,e,hr⟩:=h s hs;cases r with|inl s'=>have ⟨t,e2,hq⟩:=ih hr.1 (by omega);exact⟨t,by simp[gd,e];exact e2,hq⟩|inr t=>exact⟨t,by simp[gd,e],hr⟩
theorem gQ{S T:Type}{f:S->Option (S⊕T)}{g:T->Option β}{Q:β->Prop}(P:S->Prop)(R:T->Prop)(m:S->Nat){n:Nat}{s:S}(hs:P s)(hm:m s<n)
 (h:∀s,P s->Ok (f s) λr=>match r with|.inl s'=>P s'/\m s'<m s|.inr t=>R t)(hg:∀t,R t->Ok (g t) Q):Ok ((gd f n s).bind g) Q:=(hU P R m hs hm h).bind hg
end
theorem gG{x:Int}(h1:-9223372036854775808<=x)(h2:x<=9223372036854775807):w64 x=x:=Qa h1 h2
theorem iG{x:Int}(h1:-9223372036854775808<=x:=by omega)(h2:x<=9223372036854775807:=by omega):w64 x=x:=gG h1 h2
theorem fY(n:Nat):gk (n:Int)=some n:=rfl
theorem gg(n:Nat):fZ n=(n:Int):=rfl
theorem f8{α:Type}{l:List α}{i:Nat}{a:α}(h:l[i]?=some a):a∈l:=List.mem_of_getElem? h
def W16(x:Int):Prop:=0<=x/\x<=65535
theorem gr{x:Int}(h0:0<=x)(h1:x<=65535):wk .u16 x=x:=by unfold wk;rw[EF];omega
theorem gi{x:Int}(h0:-9223372036854775808<=x)(h1:x<=9223372036854775807):wk .i64 x=x:=gG h0 h1
theorem ge{b n m:Nat}(h:b<=1000/\n+m<=1000000):gl b n m=true:=by have:=Nat.mul_le_mul h.2 h.1;simp[gl];omega
structure DOk (l:M_)(k:Int):Prop where
 num:∀x∈l,R8 x
 len:l.length<=maxLen
 lo:0<=k
 hi:k<=l.length
theorem DOk.start{l:M_}(h:∀x∈l,R8 x)(hl:l.length<=maxLen):DOk l 0:=⟨h,hl,by omega,by omega⟩
theorem O0{a b:Int}(ha:R8 a)(hb:0<b)(ZP:b<=9223372036854775807):∃v,mi a b=some (v,())/\0<=v/\v<b:=by
 have hne:(b != 0)=true:=by simp;omega
 have hm:=Int.tmod_lt_of_pos a hb;have hm2:-b<Int.tmod a b:=by have:=Int.tmod_lt_of_pos (-a) hb;rw[Int.neg_tmod]at this;omega
 unfold mi;simp[hne];by_cases h:Int.tmod a b<0;refine⟨Int.tmod a b+b,?_,by omega,by omega⟩;simp[h,decide_true];rw[gG (by omega) (by omega)];refine⟨Int.tmod a b,?_,by omega,hm⟩;simp[h,decide_false,oCF]
section
variable {β:Type} {l:M_} {k n:Int} {Q:β->Prop}
theorem UT{a b:Int}{f:Int×Unit->Option β}(ha:R8 a)(hb:0<b)(ZP:b<=9223372036854775807)(K:∀v,0<=v->v<b->Ok (f (v,())) Q):Ok ((mi a b).bind f) Q:=by have ⟨v,e,h0,h1⟩:=O0 ha hb ZP;simp_all
theorem gM{f:Int×M_×Int×Unit->Option β}(h:DOk l k)(hn:0<n)(hn2:n<=9223372036854775807)(K:∀v k',0<=v->v<n->DOk l k'->Ok (f (v,l,k',())) Q):Ok ((fV n l k).bind f) Q:=by
 have hl:=h.len;have hlo:=h.lo;have WE:maxLen<=9223372036854775807:=by decide
 by_cases hk:k>=(l.length:Int);have e:fV n l k=some (0,l,k,()):=by unfold fV;simp[gg,hk]
 simp_all
 ·obtain⟨j,rfl⟩:∃j:Nat,k=j:=⟨k.toNat,by omega⟩
  have hj:j<l.length:=by omega
  obtain⟨v,hv,h0,h1⟩:=O0 (h.num _ (oGX hj)) hn hn2
  have e:fV n l j=some (v,l,(j:Int)+1,()):=by
   unfold fV;delta fZ
   try dsimp only
   rw[iG (x:=(j:Int)+1),iG (x:=(j:Int)+1-1)];rw[show(j:Int)+1-1=j by omega,fY];simp[hk,decide_false,oCF,oBS,fU,oGE hj,xe,hv]
  rw[e];exact K v _ h0 h1 ⟨h.num,hl,by omega,by omega⟩
theorem KY{f:Int×M_×Int×Unit->Option β}(h:DOk l k)(K:∀v k',0<=v->v<=65535->DOk l k'->Ok (f (v,l,k',())) Q):Ok ((kW l k).bind f) Q:=by
 have hw:Ok (kW l k) λr=>∃v k',r=(v,l,k',())/\0<=v/\v<=65535/\DOk l k':=by
  unfold kW;refine gM (by assumption) (by omega) (by omega) λv k a b d=>?_;try dsimp only
  refine Ok.bind (P:=λr=>∃b,r=(v,b,l,k,())) ?_ ?_
  ·repeat ((with_reducible refine fT (λhc=>?_) λhc=>?_);· exact fR ⟨_,rfl⟩)
   exact fR ⟨_,rfl⟩
  ·rintro _ ⟨b,rfl⟩;refine gf (λ_=>?_) λ_=>?_
   ·refine gM (by assumption) (by omega) (by omega) λv k a b d=>?_;try dsimp only
    (simp (disch:=omega) only [gG,gr,gi,gg])
    exact fR ⟨_,_,rfl,by omega,by omega,by assumption⟩
   ·refine fT (λhc=>?_) λhc=>?_
    ·refine gM (by assumption) (by omega) (by omega) λv k a b d=>?_;try dsimp only
     (simp (disch:=omega) only [gG,gr,gi,gg])
     exact fR ⟨_,_,rfl,by omega,by omega,by assumption⟩
    ·refine gM (by omega) (by omega) (by omega) λv k a b d=>?_;try dsimp only
     (simp (disch:=omega) only [gG,gr,gi,gg])
     exact fR ⟨_,_,rfl,by omega,by omega,by omega⟩
 refine hw.bind ?_;simp_all
end
def AW(s:M_):Prop:=1<=s.length/\s.length<=4/\∀x∈s,1<=x/\x<=32
theorem We{P:Int->Prop}{a b c:Int}(ha:P a)(hb:P b)(hc:P c):∀x∈[a,b,c],P x:=by simp_all
theorem Ql{l:M_}{k:Int}(h:DOk l k):Ok (qK l k) λr=>∃s k',r=(s,l,k',())/\AW s/\DOk l k':=by
 unfold qK;refine gM (by assumption) (by omega) (by omega) λv0 k0 a0 b0 d0=>?_;try dsimp only
 (simp (disch:=omega) only [gG,gr,gi,gg])
 refine gM (by assumption) (by omega) (by omega) λv1 k1 a1 b1 d1=>?_;try dsimp only
 refine gQ (P:=λ((c,l',k',s,_):Int×M_×Int×M_×Unit)=>l'=l/\DOk l k'/\0<=c/\c+s.length<=4/\1<=s.length/\∀x∈s,1<=x/\x<=32)
  (R:=λ((_,_,l',k',s,_):Int×Bool×M_×Int×M_×Unit)=>l'=l/\DOk l k'/\AW s) (m:=λs=>s.1.toNat) ⟨rfl,d1,a1,by simp;omega,by simp,by simp;omega⟩ (by unfold NN;dsimp only;omega) ?_ ?_
 ·rintro⟨c,l',k3,s,_⟩ ⟨rfl,XF,hc0,hcs,hs1,hs⟩;dsimp only at *;unfold t6;dsimp only;refine fT (λhc=>?_) λhc=>?_
  ·refine gM (by assumption) (by omega) (by omega) λv2 k2 a2 b2 d2=>?_;try dsimp only
   refine ju (by omega) λj hj=>?_;try dsimp only
   have Zs:∀x∈[(6:Int),12,32],6<=x/\x<=32:=by simp_all
   refine gP (by simp;omega) λa ha=>?_;refine gP (by simp;omega) λb hb=>?_;have h7:=Zs b (f8 hb)
   refine gM (by assumption) (by omega) (by omega) λv3 k3 a3 b3 d3=>?_;try dsimp only
   (simp (disch:=omega) only [gG,gr,gi,gg])
   refine fS (ge (by simp;omega)) ?_;refine fR ⟨⟨rfl,by assumption,by omega,?_,?_,?_⟩,?_⟩
   ·simp;omega
   ·simp
   ·intro x hx;simp at hx;rcases hx with hx|rfl
    ·exact hs x hx
    ·omega
   ·dsimp only;omega
  ·exact fR ⟨rfl,XF,hs1,by dsimp only;omega,hs⟩
 rintro⟨a,b,l',k3,s,_⟩ ⟨rfl,XF,hs⟩;exact fR ⟨_,_,rfl,hs,XF⟩
def tI(op:Int):Bool:=!(op==18||op==23||op==0||op==24)
def tH(op:Int):Bool:=!(op==18||op==23||op==0||op==24||op==1||op==15||op==19||op==20||op==21||op==22)
def tG(op:Int):Bool:=!(op==18||op==23||op==0||op==24||op==1||op==15||op==19||op==20||op==21||op==22||op==2||op==16||op==17)
def tF(op:Int):Bool:=op==1||op==15||op==19||op==20||op==21||op==16||op==17||op==18||op==23
def nO(op:Int):Bool:=op==18||op==19||op==20||op==21
theorem JC{op:Int}(h0:0<=op)(h1:op<=24):kT op=some (tI op,tH op,tG op,tF op,()):=by
 obtain⟨n,rfl⟩:∃n:Nat,op=n:=⟨op.toNat,by omega⟩;have hn:n<25:=by omega
 have key:∀n:Fin 25,(kT ((n.val:Nat):Int)).map (λx=>(x.1,x.2.1,x.2.2.1,x.2.2.2.1))=some (tI (n.val:Nat),tH (n.val:Nat),tG (n.val:Nat),tF (n.val:Nat)):=by decide
 have:=key ⟨n,hn⟩;cases h:kT (n:Int)with|none=>simp_all|some x=>obtain⟨a,b,c,d,_⟩:=x;simp_all
theorem wN(op:Int):iX op=some (nO op,()):=by unfold iX nO;grind
structure kn (n m:Int)(i:DIn):Prop where
 op:0<=i.1/\i.1<=24
 a:0<=i.2.1/\i.2.1<8/\(tI i.1=false->i.2.1=0)
 b:0<=i.2.2.1/\i.2.2.1<8/\(tH i.1=false->i.2.2.1=0)
 c:0<=i.2.2.2.1/\i.2.2.2.1<8/\(tG i.1=false->i.2.2.2.1=0)
 imm:0<=i.2.2.2.2/\i.2.2.2.2<=65535/\(tF i.1=false->i.2.2.2.2=0)
 lea:i.1=15->i.2.2.2.2<n
 sys:i.1=23->i.2.2.2.2<=15
 jmp:nO i.1=true->i.2.2.2.2<m
theorem ins_mk{n m o a b c i:Int}(ho:0<=o/\o<=24)(ha:0<=a/\a<8)(hb:0<=b/\b<8)(hc:0<=c/\c<8)(hi:0<=i/\i<=65535)(hA:tI o=true\/a=0)(hB:tH o=true\/b=0)(hC:tG o=true\/c=0)(hI:tF o=true\/i=0)
 (hl:o=15->i<n)(hs:o=23->i<=15)(hj:nO o=true->i<m):kn n m (o,a,b,c,i):=
 ⟨ho,⟨ha.1,ha.2,λh=>hA.elim (λh'=>by simp_all) id⟩,⟨hb.1,hb.2,λh=>hB.elim (λh'=>by simp_all) id⟩,
  ⟨hc.1,hc.2,λh=>hC.elim (λh'=>by simp_all) id⟩,⟨hi.1,hi.2,λh=>hI.elim (λh'=>by simp_all) id⟩,hl,hs,hj⟩
theorem HG{n m r v:Int}(h:0<=r/\r<8)(hv:0<=v/\v<=65535):kn n m (1,r,0,0,v):=ins_mk (by decide) h (by decide) (by decide) hv (.inl (by decide)) (.inr rfl) (.inr rfl) (.inl (by decide)) (by omega) (by omega) (λh=>absurd h (by decide))
theorem JY{n m r v:Int}(h:0<=r/\r<8)(hv:0<=v/\v<8):kn n m (2,r,v,0,0):=ins_mk (by decide) h hv (by decide) (by decide) (.inl (by decide)) (.inl (by decide)) (.inr rfl) (.inr rfl) (by omega) (by omega) (λh=>absurd h (by decide))
theorem Bq{n m v:Int}(hv:0<=v/\v<=15):kn n m (23,0,0,0,v):=ins_mk (by decide) (by decide) (by decide) (by decide) (by omega) (.inr rfl) (.inr rfl) (.inr rfl) (.inl (by decide)) (by omega) (by omega) (λh=>absurd h (by decide))
theorem J3{n m r v:Int}(h:0<=r/\r<8)(hv:0<=v/\v<n)(hn:n<=4):kn n m (15,r,0,0,v):=ins_mk (by decide) h (by decide) (by decide) (by omega) (.inl (by decide)) (.inr rfl) (.inr rfl) (.inl (by decide)) (by omega) (by omega) (λh=>absurd h (by decide))
theorem NC{n m o a b v:Int}(ho:o=16\/o=17)(h:0<=a/\a<8)(hb:0<=b/\b<8)(hv:0<=v/\v<=65535):kn n m (o,a,b,0,v):=by rcases ho with rfl|rfl;all_goals exact ins_mk (by decide) h hb (by decide) hv (.inl (by decide)) (.inl (by decide)) (.inr rfl) (.inl (by decide)) (by omega) (by omega) (λh=>absurd h (by decide))
theorem JU{n m o a b c:Int}(ho:3<=o/\o<=14)(h:0<=a/\a<8)(hb:0<=b/\b<8)(hc:0<=c/\c<8):kn n m (o,a,b,c,0):=ins_mk (by omega) h hb hc (by decide) (.inl (by unfold tI;simp;omega)) (.inl (by unfold tH;simp;omega)) (.inl (by unfold tG;simp;omega)) (.inr rfl) (by omega) (by omega) (λh=>by unfold nO at h;simp at h;omega)
theorem TJ{n m v:Int}(hv:0<=v/\v<=65535)(hm:v<m):kn n m (18,0,0,0,v):=ins_mk (by decide) (by decide) (by decide) (by decide) hv (.inr rfl) (.inr rfl) (.inr rfl) (.inl (by decide)) (by omega) (by omega) (λ_=>hm)
theorem Tk{n m:Int}:kn n m (24,0,0,0,0):=ins_mk (by decide) (by decide) (by decide) (by decide) (by decide) (.inr rfl) (.inr rfl) (.inr rfl) (.inr rfl) (by omega) (by omega) (λh=>absurd h (by decide))
theorem kn.mono{n m m':Int}{i:DIn}(h:kn n m i)(hm:m<=m'):kn n m' i:=⟨h.op,h.a,h.b,h.c,h.imm,h.lea,h.sys,λhj=>by have:=h.jmp hj;omega⟩
theorem Kf{n m a v:Int}(h:0<=a/\a<8)(hv:0<=v/\v<=65535)(hm:v<m):kn n m (20,a,0,0,v):=ins_mk (by decide) h (by decide) (by decide) hv (.inl (by decide)) (.inr rfl) (.inr rfl) (.inl (by decide)) (by omega) (by omega) (λ_=>hm)
theorem Rk{n XA k:Int}{l:M_}(h:DOk l k)(hn:1<=n/\n<=4)(hm:1<=XA/\XA<=100):Ok (qL n XA l k) λr=>∃o a b c i k',r=(o,a,b,c,i,l,k',())/\kn n XA (o,a,b,c,i)/\DOk l k':=by
 unfold qL;refine gM (by assumption) (by omega) (by omega) λv0 k0 a0 b0 d0=>?_;try dsimp only
 rw[JC (by omega) (by omega)];simp only[oBS];refine Ok.bind (P:=λr=>∃x k',r=(n,XA,l,k',0,0,0,0,0,v0,x,0,0,0,tI v0,tH v0,tG v0,tF v0,())/\0<=x/\x<8/\(tI v0=false->x=0)/\DOk l k') ?_ ?_
 ·refine gf (λhc=>?_) λhc=>fR ⟨_,_,rfl,by omega,by omega,λ_=>rfl,d0⟩
  refine gM (by assumption) (by omega) (by omega) λv1 k1 a1 b1 d1=>?_;try dsimp only
  exact fR ⟨_,_,rfl,a1,b1,(λhh=>by rw[hc]at hh;cases hh),d1⟩
 rintro _ ⟨xa,k1,rfl,ha0,Ys,X0,d1⟩;dsimp only;refine Ok.bind (P:=λr=>∃x k',r=(n,XA,l,k',0,0,0,0,0,v0,xa,x,0,0,tI v0,tH v0,tG v0,tF v0,())/\0<=x/\x<8/\(tH v0=false->x=0)/\DOk l k') ?_ ?_
 ·refine gf (λhc=>?_) λhc=>fR ⟨_,_,rfl,by omega,by omega,λ_=>rfl,d1⟩
  refine gM (by assumption) (by omega) (by omega) λv2 k2 a2 b2 d2=>?_;try dsimp only
  exact fR ⟨_,_,rfl,a2,b2,(λhh=>by rw[hc]at hh;cases hh),d2⟩
 rintro _ ⟨xb,k2,rfl,hb0,ZI,ZP,d2⟩;dsimp only;refine Ok.bind (P:=λr=>∃x k',r=(n,XA,l,k',0,0,0,0,0,v0,xa,xb,x,0,tI v0,tH v0,tG v0,tF v0,())/\0<=x/\x<8/\(tG v0=false->x=0)/\DOk l k') ?_ ?_
 ·refine gf (λhc=>?_) λhc=>fR ⟨_,_,rfl,by omega,by omega,λ_=>rfl,d2⟩
  refine gM (by assumption) (by omega) (by omega) λv3 k3 a3 b3 d3=>?_;try dsimp only
  exact fR ⟨_,_,rfl,a3,b3,(λhh=>by rw[hc]at hh;cases hh),d3⟩
 rintro _ ⟨xc,k3,rfl,hc0,ZL,ZH,d3⟩;dsimp only;rw[wN];simp only[oBS];refine Ok.bind (P:=λr=>∃x k',r=(l,k',0,0,0,0,0,v0,xa,xb,xc,x,())/\0<=x/\x<=65535/\(tF v0=false->x=0)/\(v0=15->x<n)/\(v0=23->x<=15)/\(nO v0=true->x<XA)/\DOk l k') ?_ ?_
 ·refine gf (λhj=>?_) λhj=>?_
  ·refine gM (by assumption) (by omega) (by omega) λv4 k4 a4 b4 d4=>?_;try dsimp only
   have hne:v0≠15/\v0≠23:=by constructor<;>(rintro rfl;exact absurd hj (by decide))
   exact fR ⟨_,_,rfl,a4,by omega,(λhh=>by
    have:tF v0=true:=by unfold nO at hj;unfold tF;simp at hj⊢;omega
    rw[this]at hh;cases hh),by omega,by omega,λ_=>b4,d4⟩
  ·refine fT (λhc5=>?_) λhc5=>?_
   ·subst hc5
    refine gM (by assumption) (by omega) (by omega) λv4 k4 a4 b4 d4=>?_;try dsimp only
    exact fR ⟨_,_,rfl,a4,by omega,λhh=>absurd hh (by decide),by omega,by omega,λhh=>absurd hh (by decide),d4⟩
   ·refine fT (λhc6=>?_) λhc6=>?_
    ·subst hc6
     refine gM (by assumption) (by omega) (by omega) λv4 k4 a4 b4 d4=>?_;try dsimp only
     exact fR ⟨_,_,rfl,a4,by omega,λhh=>absurd hh (by decide),by omega,by omega,λhh=>absurd hh (by decide),d4⟩
    ·refine gf (λhu=>?_) λhu=>?_
     ·refine KY (by assumption) λv4 k4 a4 b4 d4=>?_;try dsimp only
      (simp (disch:=omega) only [gG,gr,gi,gg])
      exact fR ⟨_,_,rfl,a4,by omega,(λhh=>by rw[hu]at hh;cases hh),by omega,by omega,(λhh=>by rw[show nO v0=false from hj]at hh;cases hh),d4⟩
     ·exact fR ⟨_,_,rfl,by omega,by omega,λ_=>rfl,by omega,by omega,(λhh=>by rw[show nO v0=false from hj]at hh;cases hh),d3⟩
 rintro _ ⟨xi,k4,rfl,hi0,Xr,Ya,hi3,hi4,hi5,d4⟩;exact fR ⟨_,_,_,_,_,_,rfl,⟨⟨a0,by dsimp only;omega⟩,⟨ha0,Ys,X0⟩,⟨hb0,ZI,ZP⟩,⟨hc0,ZL,ZH⟩,⟨hi0,Xr,Ya⟩,hi3,hi4,hi5⟩,d4⟩
theorem pE{α β:Type}{l:List α}{i:Nat}{f:α->Option β}{Q:β->Prop}(P:α->Prop)(h:i<l.length)(hP:∀x∈l,P x)(h2:∀a,P a->Ok (f a) Q):Ok ((fU l i).bind f) Q:=gP h λa ha=>h2 a (hP a (f8 ha))
theorem gy{α:Type}{P:α->Prop}:∀x∈([]:List α),P x:=λ_ h=>by cases h
theorem all_cons{α:Type}{P:α->Prop}{a:α}{l:List α}(h:P a)(h2:∀x∈l,P x):∀x∈a::l,P x:=by simp_all
theorem UW(a b:Int):kV a b=some (1,a,0,0,b,()):=rfl
theorem US(a b:Int):o6 a b=some (2,a,b,0,0,()):=rfl
theorem Sg(a:Int):jV a=some (23,0,0,0,a,()):=rfl
theorem Wj{x:Int}(h:1<=x):1<=mmR false 5 x/\mmR false 5 x<=5:=by unfold mmR;simp;omega
def L1(n at_:Int)(l:M_)(r:F_×M_×Int×Unit):Prop:=∃xs k',r=(xs,l,k',())/\1<=xs.length/\xs.length<=6/\(∀i∈xs,kn n (at_+xs.length) i)/\DOk l k'
theorem EV{n at_:Int}{l:M_}{xs:F_}{k:Int}(h1:1<=xs.length/\xs.length<=6)(h2:∀i∈xs,kn n (at_+xs.length) i)(h3:DOk l k):Ok (some (xs,l,k,())) (L1 n at_ l):=fR ⟨xs,k,rfl,h1.1,h1.2,h2,h3⟩
theorem RE{s l:M_}{at_ k:Int}(h:DOk l k)(hs:AW s)(ha:0<=at_/\at_<=99):Ok (si s (at_+1) at_ l k) (L1 s.length at_ l):=by
 obtain⟨hs1,WZ,hsz⟩:=hs
 have hn:1<=(s.length:Int)/\(s.length:Int)<=4:=by omega
 unfold si;delta fZ;simp only[UW,US,Sg,oBS]
 refine gM (by assumption) (by omega) (by omega) λvr kr ar br dr=>?_;try dsimp only
 refine gW λj hj=>?_;refine pE (λa=>1<=a/\a<=32) (by omega) hsz λz hz=>?_
 (simp (disch:=omega) only [gG,gr,gi,gg])
 have h5:=Wj (x:=z+1) (by omega);generalize mmR false 5 (z+1)=mm at h5
 refine gM (by assumption) (by omega) (by omega) λvu ku au bu du=>?_;try dsimp only
 refine gM (by assumption) (by omega) (by omega) λvw kw aw bw dw=>?_;try dsimp only
 iterate 19
  refine fT (λhcc=>?_) λhcc=>?_
  ·repeat (first|(simp (disch:=omega) only [gG,gr,gi,gg])|(with_reducible refine gM (by assumption) (by omega) (by omega) (λv k a b d=>?_);try dsimp only)|(with_reducible refine KY (by assumption) (λv k a b d=>?_);try dsimp only)|(with_reducible refine ju (by omega) (λj hj=>?_);try dsimp only)|((with_reducible first|refine pE (λa=>1<=a/\a<=32) (by omega) (by assumption) (λe he=>?_)|refine pE (λa=>3<=a/\a<=14) (by simp only[oLC,oLN];omega) (by(first|exact(all_cons (by omega) (all_cons (by omega) gy))|exact(all_cons (by omega) (all_cons (by omega) (all_cons (by omega) gy)))|exact(all_cons (by omega) (all_cons (by omega) (all_cons (by omega) (all_cons (by omega) (all_cons (by omega) (all_cons (by omega) (all_cons (by omega) (all_cons (by omega) gy)))))))))) (λe he=>?_)|refine pE (λa=>0<=a/\a<=15) (by simp only[oLC,oLN];omega) (by(first|exact(all_cons (by omega) (all_cons (by omega) gy))|exact(all_cons (by omega) (all_cons (by omega) (all_cons (by omega) gy)))|exact(all_cons (by omega) (all_cons (by omega) (all_cons (by omega) (all_cons (by omega) (all_cons (by omega) (all_cons (by omega) (all_cons (by omega) (all_cons (by omega) gy)))))))))) (λe he=>?_)|refine pE (λa=>1<=a/\a<=100) (by simp only[oLC,oLN];omega) (by(first|exact(all_cons (by omega) (all_cons (by omega) gy))|exact(all_cons (by omega) (all_cons (by omega) (all_cons (by omega) gy)))|exact(all_cons (by omega) (all_cons (by omega) (all_cons (by omega) (all_cons (by omega) (all_cons (by omega) (all_cons (by omega) (all_cons (by omega) (all_cons (by omega) gy)))))))))) (λe he=>?_));try dsimp only)|(with_reducible refine fS (ge (by first|omega|simp)) ?_;try dsimp only)|(refine pE (λ(a:F_)=>(1<=a.length/\a.length<=6)/\∀i∈a,kn s.length (at_+a.length) i) (by simp only[oLC,oLN];omega) (all_cons ⟨by simp,by((repeat' (first|exact gy|refine all_cons ?_ ?_|exact HG (by omega) (by omega)|exact JY (by omega) (by omega)|exact Bq (by omega)|exact J3 (by omega) (by omega) (by omega)|exact NC (by omega) (by omega) (by omega) (by omega)|exact JU (by omega) (by omega) (by omega) (by omega)|exact Kf (by omega) (by omega) (by simp only[oLC,oLN];omega)));done)⟩ (all_cons ⟨by simp,by((repeat' (first|exact gy|refine all_cons ?_ ?_|exact HG (by omega) (by omega)|exact JY (by omega) (by omega)|exact Bq (by omega)|exact J3 (by omega) (by omega) (by omega)|exact NC (by omega) (by omega) (by omega) (by omega)|exact JU (by omega) (by omega) (by omega) (by omega)|exact Kf (by omega) (by omega) (by simp only[oLC,oLN];omega)));done)⟩ gy)) (λe he=>?_);try dsimp only))
   first
    |exact EV he.1 he.2 (by assumption)
    |(refine EV (by simp) ?_ (by assumption);try simp only[List.append_eq,List.cons_append,oNA]
      ((repeat' (first|exact gy|refine all_cons ?_ ?_|exact HG (by omega) (by omega)|exact JY (by omega) (by omega)|exact Bq (by omega)|exact J3 (by omega) (by omega) (by omega)|exact NC (by omega) (by omega) (by omega) (by omega)|exact JU (by omega) (by omega) (by omega) (by omega)|exact Kf (by omega) (by omega) (by simp only[oLC,oLN];omega)));done))
 refine(Rk (by assumption) hn (by omega)).bind ?_;rintro _ ⟨o,a,b,c,i,k',rfl,hi,hd⟩;exact EV (by simp) (all_cons (hi.mono (by simp)) gy) hd
theorem kX{α:Type}{P:α->Prop}{l m:List α}(h:∀x∈l,P x)(h2:∀x∈m,P x):∀x∈List.append l m,P x:=λx hx=>(oMA.1 (show x∈l++m from hx)).elim (h x) (h2 x)
theorem ij{α:Type}(l m:List α):(List.append l m).length=l.length+m.length:=oLA
theorem rW{l:M_}{k n:Int}(h:DOk l k)(hn:0<=n/\n<=1000):Ok (iZ n l k) λr=>∃ws k',r=(ws,l,k',())/\(ws.length:Int)<=n/\(∀w∈ws,W16 w)/\DOk l k':=by
 unfold iZ
 (simp (disch:=omega) only [gG,gr,gi,gg])
 refine gM (by assumption) (by omega) (by omega) λv0 k0 a0 b0 d0=>?_;try dsimp only
 refine gQ (P:=λ((c,l',k',s,_):Int×M_×Int×M_×Unit)=>l'=l/\DOk l k'/\0<=c/\c+s.length<=n/\∀x∈s,W16 x)
  (R:=λ((_,_,l',k',s,_):Int×Bool×M_×Int×M_×Unit)=>l'=l/\DOk l k'/\(s.length:Int)<=n/\∀x∈s,W16 x) (m:=λs=>s.1.toNat) ⟨rfl,d0,a0,by simp;omega,gy⟩ (by unfold NN;dsimp only;omega) ?_ ?_
 ·rintro⟨c,l',k3,s,_⟩ ⟨rfl,XF,hc0,hcs,hs⟩;unfold tZ;dsimp only;refine fT (λhcc=>?_) λhcc=>?_
  ·refine KY (by assumption) λv1 k1 a1 b1 d1=>?_;try dsimp only
   refine fS (ge (by simp;omega)) ?_
   (simp (disch:=omega) only [gG,gr,gi,gg])
   exact fR ⟨⟨rfl,by omega,by omega,by rw[ij];simp;omega,kX hs (all_cons ⟨a1,b1⟩ gy)⟩,by omega⟩
  ·exact fR ⟨rfl,XF,by dsimp only;omega,hs⟩
 rintro⟨a,b,l',k3,s,_⟩ ⟨rfl,XF,hs,hw⟩;exact fR ⟨_,_,rfl,hs,hw,XF⟩
structure jP (code:F_)(s:M_)(d:j_):Prop where
 sz:AW s
 len:d.length=s.length
 fit:∀(j:Nat) x n,d[j]?=some x->s[j]?=some n->(x.length:Int)<=n
 num:∀x∈d,∀w∈x,W16 w
 clen:1<=code.length/\code.length<=64
 ins:∀i∈code,kn s.length code.length i
theorem LK{code:F_}{s:M_}{d:j_}{l:M_}{k:Int}(hp:jP code s d):Ok (gd jF NN ((code.length:Int),0,l,k,(),(),(),code,s,d,())) λr=>∃a b c,r=(a,b,c,l,k,(),(),(),code,s,d,()):=by
 have:=gQ (f:=jF) (n:=NN) (Q:=λr=>∃a b c,r=(a,b,c,l,k,(),(),(),code,s,d,())) (s:=((code.length:Int),0,l,k,(),(),(),code,s,d,()))
  (P:=λs'=>∃i:Int,s'=((code.length:Int),i,l,k,(),(),(),code,s,d,())/\0<=i/\i<=code.length) (R:=λr=>∃a b c,r=(a,b,c,l,k,(),(),(),code,s,d,())) (m:=λs=>(s.1-s.2.1).toNat) ⟨0,rfl,by omega,by omega⟩ (by unfold NN;dsimp only;have:=hp.clen;omega) ?_ (λt ht=>fR ht)
 simp_all
 ·rintro _ ⟨i,rfl,hi0,Xr⟩;unfold jF;dsimp only;have hc:=hp.clen;refine fT (λhcc=>?_) λhcc=>?_
  ·refine Ok.bind (P:=λr=>r=((code.length:Int),i,l,k,(),(),(),code,s,d,())) ?_ ?_
   ·refine ju (by omega) λj hj=>?_;try dsimp only
    refine f7 λx hx=>?_;have hin:=hp.ins x (f8 hx);rw[wN];refine gf (λhjp=>?_) λ_=>fR rfl;refine gW λj2 hj2=>?_;refine f7 λy hy=>?_
    have hjj:j2=j:=by omega
    subst hjj;rw[hx]at hy
    injection hy with hy
    subst hy;have:=hin.jmp hjp;refine gf (λhcc=>?_) (λhcc=>?_)
    ·have h9:(x.2.2.2.2:Int)>=(code.length:Int):=of_decide_eq_true hcc;omega
    ·exact fR rfl
   ·rintro _ rfl;dsimp only
    (simp (disch:=omega) only [gG,gr,gi,gg])
    exact fR ⟨⟨i+1,rfl,by omega,by omega⟩,by dsimp only;omega⟩
  ·exact fR ⟨_,_,_,rfl⟩
theorem MA{l:M_}{k:Int}(h:DOk l k):Ok (n6 l k) λr=>∃code s d k',r=(code,s,d,l,k',())/\jP code s d/\DOk l k':=by
 unfold n6;refine(Ql h).bind ?_;rintro _ ⟨s,k1,rfl,hs,hd⟩;obtain⟨hs1,WZ,hsz⟩:=id hs;dsimp only;delta fZ;try dsimp only
 refine gQ (P:=λs'=>∃k' d,s'=((s.length:Int),(d.length:Int),l,k',(),(),(),(),s,d,())/\DOk l k'/\d.length<=s.length/\(∀(j:Nat) x n,d[j]?=some x->s[j]?=some n->(x.length:Int)<=n)/\∀x∈d,∀w∈x,W16 w)
  (R:=λr=>∃a b c k' d,r=(a,b,c,l,k',(),(),(),(),s,d,())/\DOk l k'/\d.length=s.length/\(∀(j:Nat) x n,d[j]?=some x->s[j]?=some n->(x.length:Int)<=n)/\∀x∈d,∀w∈x,W16 w)
  (m:=λs=>(s.1-s.2.1).toNat) ⟨k1,[],rfl,hd,by simp,by simp,gy⟩ (by unfold NN;dsimp only;omega) ?_ ?_
 ·rintro _ ⟨k',d,rfl,Yy,hdl,Z2,Xb⟩;unfold rA;dsimp only;refine fT (λhcc=>?_) λhcc=>?_
  ·refine ju (by omega) λj hj=>?_;try dsimp only
   refine f7 λx hx=>?_;refine f7 λy hy=>?_
   have ZO:j=d.length:=by omega
   subst ZO;have WK:=hsz y (f8 hy);refine(rW Yy ⟨by omega,by omega⟩).bind ?_;rintro _ ⟨ws,k2,rfl,hwl,hww,hd2⟩;dsimp only;refine fS (ge (by simp;omega)) ?_
   (simp (disch:=omega) only [gG,gr,gi,gg])
   refine fR ⟨⟨k2,List.append d [ws],by rw[ij];simp,hd2,by rw[ij];simp;omega,?_,kX Xb (all_cons hww gy)⟩,by dsimp only;omega⟩;intro i x n hx hn;rw[show List.append d [ws]=d++[ws]from rfl,List.getElem?_append]at hx;split at hx
   ·exact Z2 i x n hx hn
   ·rename_i hge
    have:i-d.length=0:=by
     rcases Nat.eq_zero_or_pos (i-d.length)with h|h
     ·exact h
     ·rw[oGN (by simp;omega)]at hx;cases hx
    have hi:i=d.length:=by omega
    subst hi;simp at hx;subst hx;rw[hy]at hn
    injection hn with hn
    omega
  ·exact fR ⟨_,_,_,_,_,rfl,Yy,by omega,Z2,Xb⟩
 rintro _ ⟨a,b,c,k2,d,rfl,hd2,hdl,Z2,Xb⟩;dsimp only;refine gM (by assumption) (by omega) (by omega) λv0 k0 a0 b0 d0=>?_;try dsimp only
 (simp (disch:=omega) only [gG,gr,gi,gg])
 refine gQ (P:=λs'=>∃i k' code,s'=(i,l,k',(),(),(),code,s,d,())/\0<=i/\i<=12/\DOk l k'/\code.length<=62/\∀i∈code,kn s.length code.length i)
  (R:=λr=>∃a b k' code,r=(a,b,l,k',(),(),(),code,s,d,())/\DOk l k'/\code.length<=62/\∀i∈code,kn s.length code.length i)
  (m:=λs=>s.1.toNat) ⟨_,_,[],rfl,by omega,by omega,d0,by simp,gy⟩ (by unfold NN;dsimp only;omega) ?_ ?_
 rintro _ ⟨i,k',code,rfl,hi0,Xr,Yy,Y4,Yb⟩;unfold rz;dsimp only;refine fT (λhcc=>?_) λhcc=>?_;refine Ok.bind (P:=λr=>∃k' code,r=(i,l,k',(),(),(),code,s,d,())/\DOk l k'/\code.length<=62/\∀i∈code,kn s.length code.length i) ?_ ?_
 ·(simp (disch:=omega) only [gG,gr,gi,gg])
  refine(RE Yy hs ⟨by omega,by omega⟩).bind ?_;rintro _ ⟨xs,k3,rfl,Z0,hx6,hxs,XF⟩;dsimp only
  (simp (disch:=omega) only [gG,gr,gi,gg])
  refine fT (λhcc=>?_) λhcc=>?_
  ·refine fS (ge (by omega)) ?_;refine fR ⟨_,_,rfl,XF,by rw[ij];omega,?_⟩;rw[ij];exact kX (λi hi=>(Yb i hi).mono (by omega)) (λi hi=>(hxs i hi).mono (by omega))
  ·exact fR ⟨_,_,rfl,XF,Y4,Yb⟩
 rintro _ ⟨k3,YS,rfl,XF,hcl2,WT⟩;dsimp only
 (simp (disch:=omega) only [gG,gr,gi,gg])
 exact fR ⟨⟨_,_,_,rfl,by omega,by omega,XF,hcl2,WT⟩,by dsimp only;omega⟩;exact fR ⟨_,_,_,_,rfl,Yy,Y4,Yb⟩;rintro _ ⟨a,b,k3,code,rfl,XF,Y4,Yb⟩;dsimp only;refine Ok.bind (P:=λr=>∃k' code,r=(l,k',(),(),(),code,s,d,())/\DOk l k'/\code.length<=63/\∀i∈code,kn s.length (code.length+1) i) ?_ ?_
 ·refine gM (by assumption) (by omega) (by omega) λv1 k1 a1 b1 d1=>?_;try dsimp only
  refine fT (λhcc=>?_) λhcc=>?_
  ·(simp (disch:=omega) only [gG,gr,gi,gg])
   refine gM (by assumption) (by omega) (by omega) λv2 k2 a2 b2 d2=>?_;try dsimp only
   refine fS (ge (by simp;omega)) ?_;refine fR ⟨_,_,rfl,d2,by rw[ij];simp;omega,?_⟩;rw[ij];exact kX (λi hi=>(Yb i hi).mono (by simp;omega)) (all_cons (TJ (by omega) (by simp;omega)) gy)
  ·refine fT (λhcc=>?_) λhcc=>?_
   ·refine fS (ge (by simp;omega)) ?_;refine fR ⟨_,_,rfl,d1,by rw[ij];simp;omega,?_⟩;rw[ij];exact kX (λi hi=>(Yb i hi).mono (by simp;omega)) (all_cons Tk gy)
   ·exact fR ⟨_,_,rfl,d1,by omega,λi hi=>(Yb i hi).mono (by omega)⟩
 rintro _ ⟨k4,YS,rfl,hd4,hcl2,WT⟩;dsimp only;refine gM (by assumption) (by omega) (by omega) λv3 k3 a3 b3 d3=>?_;try dsimp only
 simp only[UW,Sg,oBS];refine fS (ge (by simp;omega)) ?_;simp only[ij];refine gf (λhc=>?_) λ_=>?_;have ZJ:∀i∈List.append YS [(1,0,0,0,v3),(23,0,0,0,0)],kn s.length (YS.length+1) i:=kX WT (all_cons (HG (by omega) (by omega)) (all_cons (Bq (by omega)) gy));simp only[oDE]at hc;have hcn:(YS.length:Int)+2>64:=by have:((YS.length + [((1:Int),(0:Int),(0:Int),(0:Int),v3),(23,0,0,0,0)].length:Nat):Int)>64:=hc;simpa using this
 have h63:YS.length=63:=by omega
 refine fS (by rw[h63];rfl) ?_;have hlen:(oM (List.append YS [((1:Int),(0:Int),(0:Int),(0:Int),v3),(23,0,0,0,0)]) 0 (Nat.sub 64 0)).length=64:=by unfold oM;rw[oLT,List.drop_zero,ij,h63];rfl
 have hp:jP (oM (List.append YS [((1:Int),(0:Int),(0:Int),(0:Int),v3),(23,0,0,0,0)]) 0 (Nat.sub 64 0)) s d:=by refine⟨hs,hdl,Z2,Xb,by rw[hlen];decide,λi hi=>?_⟩;rw[hlen];refine(ZJ i ?_).mono (by omega);unfold oM at hi;exact List.mem_of_mem_drop (List.mem_of_mem_take hi)
 refine(LK (l:=l) (k:=_) hp).bind ?_;rintro _ ⟨a,b,c,rfl⟩;exact fR ⟨_,_,_,_,rfl,hp,d3⟩;have hp:jP (List.append YS [(1,0,0,0,v3),(23,0,0,0,0)]) s d:=by refine⟨hs,hdl,Z2,Xb,?_,?_⟩;rw[ij];rename_i hc;have hcn:¬((YS.length + [((1:Int),(0:Int),(0:Int),(0:Int),v3),(23,0,0,0,0)].length:Nat):Int)>64:=of_decide_eq_false hc;simp only[oLC,oLN]at hcn⊢;omega;rw[ij];exact kX (λi hi=>(WT i hi).mono (by simp)) (all_cons (HG (by omega) (by omega)) (all_cons (Bq (by omega)) gy))
 have hf:=LK (l:=l) (k:=k3) hp;rw[ij]at hf;refine hf.bind ?_;rintro _ ⟨a,b,c,rfl⟩;exact fR ⟨_,_,_,_,rfl,hp,d3⟩
theorem LX{P:Int->Prop}{s:M_}{i:Nat}{x:Int}(h:∀(j:Nat) y,j<i->s[j]?=some y->P y)(hx:s[i]?=some x)(hp:P x):∀(j:Nat) y,j<i+1->s[j]?=some y->P y:=by grind
theorem Nw{s:M_}(hl:s.length<=1000):Ok (iV s) λr=>r.1=true↔AW s:=by
 unfold iV;delta fZ;try dsimp only
 obtain⟨t,e,ht⟩:=hU (f:=oG) (n:=NN) (s:=(s,s,(s.length:Int),0,())) (P:=λs'=>∃i:Nat,s'=(s,s,(s.length:Int),(i:Int),())/\i<=s.length/\∀(j:Nat) y,j<i->s[j]?=some y->1<=y/\y<=32) (R:=λr=>(r=.inl (false,())/\∃y∈s,¬(1<=y/\y<=32))\/((∃a b c d,r=.inr (s,a,b,c,d,()))/\∀y∈s,1<=y/\y<=32)) (m:=λs'=>(s'.2.2.1-s'.2.2.2.1).toNat) ⟨0,rfl,by omega,λj y hj=>by omega⟩ (by unfold NN;dsimp only;omega) (by
  rintro _ ⟨i,rfl,hi,ZJ⟩;unfold oG;refine fT (λhcc=>?_) λhcc=>?_;rw[fY];refine f7 λx hx=>?_;refine fT (λXE=>?_) λXE=>?_;exact fR (.inl ⟨rfl,x,f8 hx,by omega⟩);refine fT (λXo=>?_) λXo=>?_;exact fR (.inl ⟨rfl,x,f8 hx,by omega⟩)
  ·(simp (disch:=omega) only [gG,gr,gi,gg])
   exact fR ⟨⟨i+1,rfl,by omega,LX ZJ hx ⟨by omega,by omega⟩⟩,by dsimp only;omega⟩
  refine fR (.inr ⟨⟨_,_,_,_,rfl⟩,λy hy=>?_⟩);have ⟨j,hj⟩:=List.getElem?_of_mem hy;exact ZJ j y (by have:=(oGS hj).1;omega) hj)
 rw[e];rcases ht with⟨rfl,y,hy,hn⟩|⟨⟨a,b,c,d,rfl⟩,ZJ⟩;exact fR ⟨λh=>(by cases h),λh=>absurd (h.2.2 y hy) hn⟩;dsimp only;refine fT (λhcc=>?_) λhcc=>?_;exact fR ⟨λh=>⟨by omega,(by have:=of_decide_eq_true h;omega),ZJ⟩,λh=>oDT (by have:=h.2.1;omega)⟩;exact fR ⟨λh=>(by cases h),λh=>by have:=h.1;omega⟩
abbrev VS(xs:M_):Prop:=AW xs
theorem Pz{l:M_}{k:Nat}(h:k<l.length):l.getD k 0=l[k]:=by simp[List.getD,h]
def wY(bs ss:M_)(i:Nat):Prop:=0<=bs.getD i 0/\bs.getD i 0+ss.getD i 0<=512/\∀k,k<i->¬(bs.getD i 0<=bs.getD k 0+ss.getD k 0/\bs.getD k 0<=bs.getD i 0+ss.getD i 0)
def LV(bs ss:M_):Prop:=VS ss/\bs.length=ss.length/\∀i,i<bs.length->wY bs ss i
theorem VS.at_{ss:M_}(h:VS ss){i:Nat}(hi:i<ss.length):1<=ss[i]/\ss[i]<=32:=h.2.2 _ (oGX hi)
def vM(ss:M_)(seed:Int):Nat->M_×Int|0=>(List.replicate ss.length 0,1+seed/ss.length%50)|k+1=>((vM ss seed k).1.set (((k+seed)%ss.length).toNat) (vM ss seed k).2,(vM ss seed k).2+(ss.getD ((k+seed)%ss.length).toNat 0+1+seed/(50*ss.length)%40))
def mkB(ss:M_)(seed:Int):M_:=(vM ss seed ss.length).1
theorem Ra(ss:M_)(seed:Int)(k:Nat):(vM ss seed k).1.length=ss.length:=by induction k with|zero=>simp[vM]|succ k ih=>simp[vM,ih]
theorem VS.getD{ss:M_}(h:VS ss){i:Nat}(hi:i<ss.length):1<=ss.getD i 0/\ss.getD i 0<=32:=by rw[Pz hi];exact h.at_ hi
theorem Sn{n k:Nat}{seed:Int}(hn:1<=n):0<=((k:Int)+seed)%n/\((k:Int)+seed)%n<n:=⟨Int.emod_nonneg _ (by omega),Int.emod_lt_of_pos _ (by omega)⟩
theorem Tz{ss:M_}{seed:Int}(h:VS ss)(hs:0<=seed)(k:Nat):1<=(vM ss seed k).2/\(vM ss seed k).2<=50+72*k:=by induction k with|zero=>simp[vM];omega|succ k ih=>simp only[vM];have hr:=Sn (k:=k) (seed:=seed) h.1;have:=h.getD (i:=(((k:Int)+seed)%ss.length).toNat) (by omega);omega
theorem O6{ss:M_}(h0:1<=ss.length)(h1:ss.length<=4):(∃a,ss=[a])\/(∃a b,ss=[a,b])\/(∃a b c,ss=[a,b,c])\/(∃a b c d,ss=[a,b,c,d]):=by match ss,h0,h1 with| [a],_,_=>simp_all| [a,b],_,_=>simp_all| [a,b,c],_,_=>simp_all| [a,b,c,d],_,_=>simp_all
theorem A3{P:Nat->Prop}(h0:P 0):∀i,i<1->P i:=by simp_all
theorem EP{P:Nat->Prop}(h0:P 0)(h1:P 1):∀i,i<2->P i:=by grind
theorem Li{P:Nat->Prop}(h0:P 0)(h1:P 1)(h2:P 2):∀i,i<3->P i:=by grind
theorem QR{P:Nat->Prop}(h0:P 0)(h1:P 1)(h2:P 2)(h3:P 3):∀i,i<4->P i:=by grind
def P9(b s:Int):Prop:=0<=b/\b+s<=512
def jd(b s b' s':Int):Prop:=¬(b<=b'+s'/\b'<=b+s)
theorem LV1{a x:Int}(hv:VS [a])(h:P9 x a):LV [x] [a]:=⟨hv,rfl,A3 ⟨h.1,h.2,λk hk=>by omega⟩⟩
theorem LV2{a b x y:Int}(hv:VS [a,b])(h:P9 x a)(h':P9 y b)(h1:jd y b x a):LV [x,y] [a,b]:=⟨hv,rfl,EP ⟨h.1,h.2,λk hk=>by omega⟩ ⟨h'.1,h'.2,A3 h1⟩⟩
theorem LV3{a b c x y z:Int}(hv:VS [a,b,c])(h:P9 x a)(h':P9 y b)(h'':P9 z c)(h1:jd y b x a)(h2:jd z c x a)(h3:jd z c y b):LV [x,y,z] [a,b,c]:=⟨hv,rfl,Li ⟨h.1,h.2,λk hk=>by omega⟩ ⟨h'.1,h'.2,A3 h1⟩ ⟨h''.1,h''.2,EP h2 h3⟩⟩
theorem LV4{a b c d x y z u:Int}(hv:VS [a,b,c,d])(h:P9 x a)(h':P9 y b)(h'':P9 z c)(h''':P9 u d)(h1:jd y b x a)(h2:jd z c x a)(h3:jd z c y b)(h4:jd u d x a)(h5:jd u d y b)(h6:jd u d z c):LV [x,y,z,u] [a,b,c,d]:=⟨hv,rfl,QR ⟨h.1,h.2,λk hk=>by omega⟩ ⟨h'.1,h'.2,A3 h1⟩ ⟨h''.1,h''.2,EP h2 h3⟩ ⟨h'''.1,h'''.2,Li h4 h5 h6⟩⟩
theorem Vu{ss:M_}(hv:VS ss){seed:Int}(hs:0<=seed):LV (mkB ss seed) ss:=by
 have YQ:=hv;rcases O6 hv.1 hv.2.1 with⟨a,rfl⟩|⟨a,b,rfl⟩|⟨a,b,c,rfl⟩|⟨a,b,c,d,rfl⟩;obtain⟨_,_,hx⟩:=hv;have ha:=hx a (by simp);have e0:(((0:Nat):Int)+seed)%1=0:=by omega
 have hB:mkB [a] seed=[1+seed/1%50]:=by simp[mkB,vM,List.replicate]
 rw[hB];exact LV1 YQ ⟨by omega,by omega⟩;obtain⟨_,_,hx⟩:=hv;have ha:=hx a (by simp);have hb:=hx b (by simp);rcases(show seed%2=0\/seed%2=1 by omega)with ht|ht;have e1:(1+seed)%2=1:=by omega
 simp only[mkB,vM,oLC,oLN,List.replicate];simp[ht,e1];exact LV2 YQ ⟨by omega,by omega⟩ ⟨by omega,by omega⟩ (by unfold jd;omega);have e1:(1+seed)%2=0:=by omega
 simp only[mkB,vM,oLC,oLN,List.replicate];simp[ht,e1];exact LV2 YQ ⟨by omega,by omega⟩ ⟨by omega,by omega⟩ (by unfold jd;omega);obtain⟨_,_,hx⟩:=hv;have ha:=hx a (by simp);have hb:=hx b (by simp);have hc:=hx c (by simp);rcases(show seed%3=0\/seed%3=1\/seed%3=2 by omega)with ht|ht|ht;have e1:(1+seed)%3=1:=by omega
 have e2:(2+seed)%3=2:=by omega
 simp only[mkB,vM,oLC,oLN,List.replicate];simp[ht,e1,e2];exact LV3 YQ ⟨by omega,by omega⟩ ⟨by omega,by omega⟩ ⟨by omega,by omega⟩ (by unfold jd;omega) (by unfold jd;omega) (by unfold jd;omega);have e1:(1+seed)%3=2:=by omega
 have e2:(2+seed)%3=0:=by omega
 simp only[mkB,vM,oLC,oLN,List.replicate];simp[ht,e1,e2];exact LV3 YQ ⟨by omega,by omega⟩ ⟨by omega,by omega⟩ ⟨by omega,by omega⟩ (by unfold jd;omega) (by unfold jd;omega) (by unfold jd;omega);have e1:(1+seed)%3=0:=by omega
 have e2:(2+seed)%3=1:=by omega
 simp only[mkB,vM,oLC,oLN,List.replicate];simp[ht,e1,e2];exact LV3 YQ ⟨by omega,by omega⟩ ⟨by omega,by omega⟩ ⟨by omega,by omega⟩ (by unfold jd;omega) (by unfold jd;omega) (by unfold jd;omega);obtain⟨_,_,hx⟩:=hv;have ha:=hx a (by simp);have hb:=hx b (by simp);have hc:=hx c (by simp);have hd:=hx d (by simp);have hq:∀q g:Int,q=1+seed/4%50->g=seed/(50*4)%40->1<=q/\q<=50/\0<=g/\g<40:=λq g e e'=>by subst e;subst e';omega
 rcases(show seed%4=0\/seed%4=1\/seed%4=2\/seed%4=3 by omega)with ht|ht|ht|ht;have e1:(1+seed)%4=1:=by omega
 have e2:(2+seed)%4=2:=by omega
 have e3:(3+seed)%4=3:=by omega
 simp only[mkB,vM,oLC,oLN,List.replicate];simp[ht,e1,e2,e3];exact LV4 YQ ⟨by omega,by omega⟩ ⟨by omega,by omega⟩ ⟨by omega,by omega⟩ ⟨by omega,by omega⟩ (by unfold jd;omega) (by unfold jd;omega) (by unfold jd;omega) (by unfold jd;omega) (by unfold jd;omega) (by unfold jd;omega);have e1:(1+seed)%4=2:=by omega
 have e2:(2+seed)%4=3:=by omega
 have e3:(3+seed)%4=0:=by omega
 simp only[mkB,vM,oLC,oLN,List.replicate];simp[ht,e1,e2,e3];exact LV4 YQ ⟨by omega,by omega⟩ ⟨by omega,by omega⟩ ⟨by omega,by omega⟩ ⟨by omega,by omega⟩ (by unfold jd;omega) (by unfold jd;omega) (by unfold jd;omega) (by unfold jd;omega) (by unfold jd;omega) (by unfold jd;omega);have e1:(1+seed)%4=3:=by omega
 have e2:(2+seed)%4=0:=by omega
 have e3:(3+seed)%4=1:=by omega
 simp only[mkB,vM,oLC,oLN,List.replicate];simp[ht,e1,e2,e3];exact LV4 YQ ⟨by omega,by omega⟩ ⟨by omega,by omega⟩ ⟨by omega,by omega⟩ ⟨by omega,by omega⟩ (by unfold jd;omega) (by unfold jd;omega) (by unfold jd;omega) (by unfold jd;omega) (by unfold jd;omega) (by unfold jd;omega);have e1:(1+seed)%4=0:=by omega
 have e2:(2+seed)%4=1:=by omega
 have e3:(3+seed)%4=2:=by omega
 simp only[mkB,vM,oLC,oLN,List.replicate];simp[ht,e1,e2,e3];exact LV4 YQ ⟨by omega,by omega⟩ ⟨by omega,by omega⟩ ⟨by omega,by omega⟩ ⟨by omega,by omega⟩ (by unfold jd;omega) (by unfold jd;omega) (by unfold jd;omega) (by unfold jd;omega) (by unfold jd;omega) (by unfold jd;omega)
theorem MK{α:Type}(l:List α)(i:Nat)(a:α):List.modify l i (λ_=>a)=l.set i a:=by apply oEG;grind
theorem TE{s:M_}{seed:Int}(hs:AW s)(h0:0<=seed)(h1:seed<=1073741824):Ok (qI s seed) λr=>∃key,r=(mkB s seed,key,0,())/\W16 key:=by
 obtain⟨hs1,WZ,hsz⟩:=id hs;unfold qI;delta fZ;try dsimp only
 refine Ok.bind (P:=λr=>r=(s,seed,false,(),0,())) ?_ ?_;refine(Nw (by omega)).bind ?_;rintro⟨v,_⟩ hv;have hv:v=true:=hv.2 hs;subst hv;simp only[oNT,oCF];refine fT (λZ1=>?_) λZ1=>?_;omega;exact fR (by rw[oDF (by omega)]);rintro _ rfl;dsimp only;refine gf (λh=>by cases h) λ_=>?_;rw[fY];simp only[oBS];refine fS (by unfold xA;rw[oBA];exact⟨oDT rfl,oDT (by omega)⟩) ?_;refine fS (by rw[bne_iff_ne];omega) ?_;have Yq:Int.tdiv seed s.length=seed/s.length:=Int.tdiv_eq_ediv_of_nonneg h0;have hq:0<=seed/(s.length:Int)/\seed/(s.length:Int)<=seed:=⟨Int.ediv_nonneg h0 (by omega),Int.ediv_le_self _ h0⟩;have hm1:Int.tmod (seed/(s.length:Int)) 50=seed/(s.length:Int)%50:=oTE hq.1;rw[Yq,iG (x:=seed/(s.length:Int)),hm1,iG (x:=1+seed/(s.length:Int)%50)];have XT:W16 (wk .u16 (w64 (40503*seed))):=by unfold wk;rw[EF];exact⟨by omega,by omega⟩
 generalize wk .u16 (w64 (40503*seed))=key at XT;refine gQ (P:=λs'=>∃k:Nat,s'=(s,seed,(s.length:Int),(vM s seed k).2,(s.length:Int),(k:Int),(),0,(vM s seed k).1,key,())/\k<=s.length) (R:=λr=>∃a b c d e f g h,r=(a,b,c,d,e,f,g,(),h,(vM s seed s.length).1,key,()))
  (m:=λs'=>(s'.2.2.2.2.1-s'.2.2.2.2.2.1).toNat) ⟨0,rfl,by omega⟩ (by unfold NN;dsimp only;omega) ?_ ?_
 rintro _ ⟨k,rfl,hk⟩;unfold tX;dsimp only;have hb:=Tz hs h0 k;refine fT (λhcc=>?_) λhcc=>?_;have hr:=Sn (k:=k) (seed:=seed) hs1;rw[iG (x:=(k:Int)+seed)];refine fS (by rw[bne_iff_ne];omega) ?_;rw[oTE (show 0<=(k:Int)+seed by omega)];refine ju hr.1 λr WI=>?_;have hl:=Ra s seed k;refine f7 λx hx=>?_;refine f7 λy hy=>?_;refine ju hr.1 λr2 hrr2=>?_;have:r2=r:=by omega
 subst this;refine f7 λz hz=>?_;have Xm:=hsz z (f8 hz);rw[iG (x:=z+1),iG (x:=50*(s.length:Int))];refine fS (by rw[bne_iff_ne];omega) ?_;have hd2:Int.tdiv seed (50*(s.length:Int))=seed/(50*s.length):=Int.tdiv_eq_ediv_of_nonneg h0;have Y6:0<=seed/(50*(s.length:Int))/\seed/(50*(s.length:Int))<=seed:=⟨Int.ediv_nonneg h0 (by omega),Int.ediv_le_self _ h0⟩;have hm3:Int.tmod (seed/(50*(s.length:Int))) 40=seed/(50*s.length)%40:=oTE Y6.1;rw[hd2,iG (x:=seed/(50*(s.length:Int))),hm3];generalize hg:seed/(50*(s.length:Int))%40=g;have Zq:0<=g/\g<40:=by omega
 rw[iG (x:=z+1+g),iG (x:=(vM s seed k).2+(z+1+g)),iG (x:=(k:Int)+1),MK];have e1:(vM s seed (k+1)).1=(vM s seed k).1.set r2 (vM s seed k).2:=by simp only[vM];rw[WI];rfl
 have e2:(vM s seed (k+1)).2=(vM s seed k).2+(z+1+g):=by simp only[vM];rw[WI,hg,oTN,oGD,hz];rfl
 refine fR ⟨⟨k+1,?_,by omega⟩,by dsimp only;omega⟩;rw[e1,e2];rfl;have:k=s.length:=by omega
 subst this;exact fR ⟨_,_,_,_,_,_,_,_,rfl⟩;rintro _ ⟨a,b,c,d,e,f,g,h,rfl⟩;exact fR ⟨key,rfl,XT⟩
theorem nz{S T:Type}{f:S->Option (S⊕T)}(st:Nat->S){n N:Nat}{t:T}(hn:n<N)(h:∀i,i<n->Ok (f (st i)) (·=.inl (st (i+1))))(he:Ok (f (st n)) (·=.inr t)):gd f N (st 0)=some t:=by
 have key:∀k i,i+k=n->∀N,k<N->gd f N (st i)=some t:=by
  intro k;induction k with
  |zero=>
  intro i hi N hN;obtain⟨x,e,hx⟩:=he;have:i=n:=by omega
  subst this;obtain⟨N',rfl⟩:∃N',N=N'+1:=⟨N-1,by omega⟩;simp[gd,e,hx]
  |succ k ih=>intro i hi N hN;have ⟨x,e,hx⟩:=h i (by omega);obtain⟨N',rfl⟩:∃N',N=N'+1:=⟨N-1,by omega⟩;simp[gd,e,hx];exact ih (i+1) (by omega) N' (by omega)
 simp_all
theorem gV{α:Type}{o:Option α}{a:α}(h:Ok o (·=a)):o=some a:=by obtain⟨x,e,rfl⟩:=h;exact e
theorem gw{l:M_}{k:Nat}{x:Int}(h:l[k]?=some x):l.getD k 0=x:=by simp_all
theorem u6{s:M_}(h:AW s):iV s=some (true,()):=by have ⟨⟨v,u⟩,e,hv⟩:=Nw (s:=s) (by have:=h.2.1;omega);simp_all
theorem u5{bs ss:M_}{key:Int}(h:LV bs ss):jT bs key ss=some (true,()):=by
 obtain⟨hs,hl,hr⟩:=h;have h4:=hs.2.1;unfold jT;rw[u6 hs];delta fZ;simp only[oBS,oNT,oCF,hl,oBN];have e:gd md NN (ss,bs,(ss.length:Int),0,bs,key,())=some (.inr (ss,bs,(ss.length:Int),(ss.length:Int),false,bs,key,())):=by
  refine nz (st:=λi=>(ss,bs,(ss.length:Int),(i:Int),bs,key,())) (n:=ss.length) (by unfold NN;omega) ?_ ?_;intro i hi;unfold md;dsimp only;have hri:=hr i (by omega);unfold wY at hri;refine fT (λZ'=>?_) λZ'=>?_;rw[fY];simp only[oBS];refine f7 λb hb=>?_;rw[gw hb]at hri;refine fT (λZ1=>?_) λZ1=>?_;omega;refine f7 λz hz=>?_;rw[gw hz]at hri;have Xm:=hs.2.2 z (f8 hz)
  (simp (disch:=omega) only [gG,gr,gi,gg])
  refine fT (λhcc=>?_) λhcc=>?_;omega;refine fS (by unfold jl;simp;omega) ?_;have hwl:(oM bs 0 (Nat.sub i 0)).length=i:=by unfold oM;rw[oLT,List.drop_zero];show min i _=i;omega
  rw[hwl];have e:gd me NN (ss,(i:Int),b,bs,(ss.length:Int),(i:Int),oM bs 0 (Nat.sub i 0),(i:Int),0,bs,key,())=some (.inr (ss,(i:Int),b,bs,(ss.length:Int),(i:Int),oM bs 0 (Nat.sub i 0),(i:Int),(i:Int),false,bs,key,())):=by
   refine nz (st:=λj=>(ss,(i:Int),b,bs,(ss.length:Int),(i:Int),oM bs 0 (Nat.sub i 0),(i:Int),(j:Int),bs,key,())) (n:=i) (by unfold NN;omega) ?_ ?_;intro j hj;unfold me;dsimp only;refine fT (λZ'=>?_) λZ'=>?_;rw[fY,fY];simp only[oBS];have hx:(fU (oM bs 0 (Nat.sub i 0)) j)=bs[j]?:=by unfold fU oM;rw[List.getElem?_take,List.drop_zero];exact oIP hj
   rw[hx];obtain⟨c,hc⟩:=gz bs j (by omega);obtain⟨y,hy⟩:=gz ss j (by omega);have WK:=hs.2.2 y (f8 hy);have W4:fU ss i=some z:=hz;have QA:fU ss j=some y:=hy;rw[hc,W4,QA];simp only[oBS];have hrj:=(hr j (by omega)).1;have hrj2:=(hr j (by omega)).2.1;rw[gw hc]at hrj hrj2;rw[gw hy]at hrj2;have Yh:=hri.2.2 j hj;rw[gw hc,gw hy]at Yh;rw[iG (x:=b+z),iG (x:=c+y)];by_cases h1:b+z>=c;have h2:¬c+y>=b:=by omega
   simp only[h1,h2,decide_true,decide_false,oCT,oCF]
   (simp (disch:=omega) only [gG,gr,gi,gg])
   exact fR rfl;simp only[h1,decide_false,oCF]
   (simp (disch:=omega) only [gG,gr,gi,gg])
   exact fR rfl;omega;unfold me;dsimp only;refine fT (λZ'=>?_) λZ'=>?_;omega;exact fR rfl
  rw[e]
  (simp (disch:=omega) only [gG,gr,gi,gg])
  exact fR rfl;omega;unfold md;dsimp only;refine fT (λZ'=>?_) λZ'=>?_;omega;exact fR rfl
 rw[e]
theorem Pl{n m o a b c i:Int}(h:kn n m (o,a,b,c,i))(hn:n<=4)(hm:m<=64):oY o a b c i=some (true,()):=by
 obtain⟨⟨o0,o1⟩,⟨a0,a1,a2⟩,⟨b0,b1,b2⟩,⟨c0,c1,c2⟩,⟨i0,i1,i2⟩,hl,hs,hj⟩:=h;dsimp only at *;have Ye:∀(k:Nat)(x:Int)(u:Bool),k<3->[a,b,c][k]?=some x->(k=0->u=tI o)->(k=1->u=tH o)->(k=2->u=tG o)->0<=x->x<8->(u=false->x=0)->Ok (mb (3,(k:Int),o,a,b,c,i,tI o,tH o,tG o,tF o,[a,b,c],())) (·=.inl (3,((k+1:Nat):Int),o,a,b,c,i,tI o,tH o,tG o,tF o,[a,b,c],())):=by
  intro k x u hk hx h0 h1 h2 hx0 Z0 Ym;unfold mb;dsimp only;refine fT (λZ'=>?_) λZ'=>?_;rw[fY];simp only[oBS];rw[show fU [a,b,c] k=some x from hx];simp only[oBS];rw[oDF (show ¬x<0 by omega),oDF (show ¬x>=8 by omega)];simp only[oCF];have ZT:Ok (some ((3:Int),(k:Int),false,o,a,b,c,i,tI o,tH o,tG o,tF o,[a,b,c],())) (·=((3:Int),(k:Int),false,o,a,b,c,i,tI o,tH o,tG o,tF o,[a,b,c],())):=fR rfl;have fin2:u=false->(x != 0)=false:=λh=>by rw[Ym h];rfl
  refine Ok.bind (P:=(·=((3:Int),(k:Int),false,o,a,b,c,i,tI o,tH o,tG o,tF o,[a,b,c],()))) ?_ ?_;rcases(show k=0\/k=1\/k=2 by omega)with rfl|rfl|rfl;rw[<- h0 rfl]at ZT⊢;refine fS rfl ?_;refine gf (λhu=>?_) λ_=>ZT;rw[fin2 (by simpa using hu)];exact ZT;rw[<- h1 rfl]at ZT⊢;refine gf (λhu=>by cases hu) λ_=>fS rfl (gf (λhu=>?_) λ_=>ZT);rw[fin2 (by simpa using hu)];exact ZT;rw[<- h2 rfl]at ZT⊢;refine gf (λhu=>by cases hu) λ_=>gf (λhu=>by cases hu) λ_=>fS rfl (gf (λhu=>?_) λ_=>ZT);rw[fin2 (by simpa using hu)];exact ZT;rintro _ rfl;dsimp only;rw[iG (x:=(k:Int)+1)];exact fR rfl;omega
 have e:gd mb NN (3,0,o,a,b,c,i,tI o,tH o,tG o,tF o,[a,b,c],())=some (.inr (3,3,false,o,a,b,c,i,tI o,tH o,tG o,tF o,[a,b,c],())):=by refine nz (st:=λk=>(3,(k:Int),o,a,b,c,i,tI o,tH o,tG o,tF o,[a,b,c],())) (n:=3) (by unfold NN;omega) ?_ ?_;intro k hk;rcases(show k=0\/k=1\/k=2 by omega)with rfl|rfl|rfl;exact Ye 0 a _ (by omega) rfl (λ_=>rfl) (by omega) (by omega) a0 a1 a2;exact Ye 1 b _ (by omega) rfl (by omega) (λ_=>rfl) (by omega) b0 b1 b2;exact Ye 2 c _ (by omega) rfl (by omega) (by omega) (λ_=>rfl) c0 c1 c2;exact fR rfl
 refine gV ?_;unfold oY;rw[oDF (show ¬o<0 by omega),oDF (show ¬o>24 by omega),JC o0 o1];simp only[oCF,oBS];rw[show fZ [a,b,c].length=3 from rfl,e];dsimp only;rw[oDF (show ¬i<0 by omega),oDF (show ¬i>65535 by omega)];simp only[oCF];refine Ok.bind (P:=(·=(false,o,a,b,c,i,()))) ?_ ?_;refine gf (λhu=>?_) λ_=>fR rfl;exact fR (by rw[i2 (by simpa using hu)];rfl);rintro _ rfl;dsimp only;rw[wN];simp only[oCF,oBS];refine gf (λhu=>?_) λ_=>?_;exact fR (by rw[oDT (by have:=hj hu;omega)]);refine fT (λhcc=>?_) λhcc=>?_;exact fR (by rw[oDT (by have:=hl hcc;omega)]);refine fT (λXE=>?_) λXE=>?_;exact fR (by rw[oDT (by have:=hs XE;omega)]);exact fR rfl
theorem GL{code:F_}{s:M_}{d:j_}(h:jP code s d):lm code s d=some (0,()):=by
 have hs:=h.sz;have WZ:=hs.2.1;have hc:=h.clen;have hl:=h.len;have e0:gd ma NN (d,(d.length:Int),0,code,s,d,())=some (.inr (d,(d.length:Int),(d.length:Int),false,code,s,d,())):=by
  refine nz (st:=λk=>(d,(d.length:Int),(k:Int),code,s,d,())) (n:=d.length) (by unfold NN;omega) ?_ ?_;intro k hk;unfold ma;dsimp only;refine fT (λZ'=>?_) λZ'=>?_;rw[fY];delta fZ;simp only[oBS];refine f7 λx hx=>?_;refine f7 λy hy=>?_;have:=h.fit k x y hx hy;refine fT (λZ1=>?_) λZ1=>?_;omega
  ·(simp (disch:=omega) only [gG,gr,gi,gg])
   exact fR rfl
  omega;unfold ma;dsimp only;refine fT (λZ'=>?_) λZ'=>?_;omega;exact fR rfl
 have e1:gd l9 NN (code,(code.length:Int),0,code,s,d,())=some (.inr (code,(code.length:Int),(code.length:Int),false,code,s,d,())):=by
  refine nz (st:=λk=>(code,(code.length:Int),(k:Int),code,s,d,())) (n:=code.length) (by unfold NN;omega) ?_ ?_;intro k hk;unfold l9;dsimp only;refine fT (λZ'=>?_) λZ'=>?_;rw[fY];simp only[oBS];refine f7 λx hx=>?_;obtain⟨o,a,b,c,i⟩:=x;rw[Pl (h.ins _ (f8 hx)) (by omega) (by omega)]
  (simp (disch:=omega) only [gG,gr,gi,gg])
  exact fR rfl;omega;unfold l9;dsimp only;refine fT (λZ'=>?_) λZ'=>?_;omega;exact fR rfl
 have e3:gd l8 NN (code,(code.length:Int),0,code,s,d,())=some (.inr (code,(code.length:Int),(code.length:Int),false,code,s,d,())):=by
  refine nz (st:=λk=>(code,(code.length:Int),(k:Int),code,s,d,())) (n:=code.length) (by unfold NN;omega) ?_ ?_;intro k hk;unfold l8;dsimp only;refine fT (λZ'=>?_) λZ'=>?_;rw[fY];simp only[oBS];refine f7 λx hx=>?_;have hp:=h.ins x (f8 hx);rw[wN];simp only[oBS];refine Ok.bind (P:=(·=(code,(code.length:Int),(k:Int),false,code,s,d,()))) ?_ ?_;refine gf (λhj=>?_) λ_=>?_;have:=hp.jmp hj;refine fT (λZ1=>?_) λZ1=>?_;have Z1:x.2.2.2.2>=(code.length:Int):=Z1;omega;refine fT (λhcc=>?_) λhcc=>?_;exact fR (by rw[oDF (show ¬x.2.2.2.2>=fZ s.length by rw[gg];have:=hp.lea hcc;omega)]);exact fR rfl;refine fT (λhcc=>?_) λhcc=>?_;exact fR (by rw[oDF (show ¬x.2.2.2.2>=fZ s.length by rw[gg];have:=hp.lea hcc;omega)]);exact fR rfl;rintro _ rfl;dsimp only;simp only[oCF]
  (simp (disch:=omega) only [gG,gr,gi,gg])
  exact fR rfl;omega;unfold l8;dsimp only;refine fT (λZ'=>?_) λZ'=>?_;omega;exact fR rfl
 refine gV ?_;unfold lm;rw[u6 hs];delta fZ;simp only[oBS,oNT,oCF,hl,oBN];rw[hl]at e0;rw[e0];dsimp only;refine fT (λZ'=>?_) λZ'=>?_;omega;refine fT (λZ1=>?_) λZ1=>?_;omega;rw[e1];dsimp only;rw[e3];exact fR rfl
def RK(bs ss:M_)(a:Int):Prop:=∃(j:Nat)(b z:Int),bs[j]?=some b/\ss[j]?=some z/\b<=a/\a<b+z
def oC(K:Int->Prop)(c:DCe):Prop:=0<=c.1/\c.1<=2/\0<=c.2/\c.2<=65535/\(c.1=1->K c.2)
theorem oC.mono{K K':Int->Prop}{c:DCe}(h:oC K c)(hk:∀a,K a->K' a):oC K' c:=⟨h.1,h.2.1,h.2.2.1,h.2.2.2.1,λe=>hk _ (h.2.2.2.2 e)⟩
theorem kF{K:Int->Prop}{v:Int}(h:0<=v/\v<=65535):oC K (0,v):=⟨by omega,by omega,h.1,h.2,λe=>absurd (show(0:Int)=1 from e) (by decide)⟩
def Vt(K:Int->Prop)(i:Nat)(x:DLn):Prop:=(x.1=-1/\x.2.1=false/\x.2.2=[])\/(0<=x.1/\x.1<128/\x.1%4=i/\x.2.2.length=4/\∀c∈x.2.2,oC K c)
def VF(cs:C_)(x:DLn):Prop:=x.1=-1\/x.2.1=true\/∀o:Nat,o<4->cs[(x.1*4).toNat+o]?=x.2.2[o]?
structure ld (K:Int->Prop)(cs:C_)(ls:G_):Prop where
 clen:cs.length=512
 cells:∀c∈cs,oC K c
 llen:ls.length=4
 lines:∀(i:Nat) x,ls[i]?=some x->Vt K i x
 coh:∀(i:Nat) x,ls[i]?=some x->VF cs x
structure Bk (K:Int->Prop)(n:Int)(t:DTh):Prop where
 state:0<=t.1/\t.1<=4
 len:t.2.1.length=8
 regs:∀c∈t.2.1,oC K c
 pc:0<=t.2.2.1/\t.2.2.1<=255
 count:0<=t.2.2.2.1/\t.2.2.2.1<=n
 handler:-1<=t.2.2.2.2.1/\t.2.2.2.2.1<=255
 saved:-1<=t.2.2.2.2.2.1/\t.2.2.2.2.2.1<=255
 trap:0<=t.2.2.2.2.2.2.1/\t.2.2.2.2.2.2.1<=6
 code:W16 t.2.2.2.2.2.2.2
structure MOk (n:Int)(ss bs:M_)(cs:C_)(ls:G_)(ts:J_):Prop where
 lay:LV bs ss
 mem:ld (RK bs ss) cs ls
 tlen:ts.length=4
 thr:∀t∈ts,Bk (RK bs ss) n t
theorem LY{K:Int->Prop}{l:C_}(hl:l.length<=1000)(h:∀c∈l,oC K c):pT l=some (true,()):=by
 have e:gd nY NN (l,(l.length:Int),0,())=some (.inr (l,(l.length:Int),(l.length:Int),false,())):=by
  refine nz (st:=λk=>(l,(l.length:Int),(k:Int),())) (n:=l.length) (by unfold NN;omega) ?_ ?_;intro k hk;unfold nY;refine fT (λZ'=>?_) λZ'=>?_;rw[fY];refine f7 λx hx=>?_;have:=h x (f8 hx);unfold mY;rw[oDT (show x.1<=2 from this.2.1)]
  (simp (disch:=omega) only [gG,gr,gi,gg])
  exact fR rfl;omega;unfold nY;refine fT (λZ'=>?_) λZ'=>?_;omega;exact fR rfl
 refine gV ?_;unfold pT;delta fZ;try dsimp only
 rw[e];exact fR rfl
theorem L8{K:Int->Prop}{cs:C_}{ls:G_}(h:ld K cs ls):oZ cs ls=some (true,()):=by
 obtain⟨h1,h2,h3,h4,_⟩:=h;have e:gd mc NN (ls,4,0,cs,ls,())=some (.inr (ls,4,4,false,cs,ls,())):=by
  refine nz (st:=λk=>(ls,4,(k:Int),cs,ls,())) (n:=4) (by unfold NN;omega) ?_ ?_;intro k hk;unfold mc;dsimp only;refine fT (λZ'=>?_) λZ'=>?_;rw[fY];simp only[oBS];refine f7 λx hx=>?_;rcases h4 k x hx with⟨e1,e2,e3⟩|⟨g1,g2,g3,g4,g5⟩;rw[e1,e2,e3]
  (simp (disch:=omega) only [gG,gr,gi,gg])
  exact fR rfl;rw[show(x.1==-1)=false by rw[beq_eq_false_iff_ne];omega,oDF (show ¬x.1<0 by omega),oDF (show ¬x.1>=128 by omega),oTE g1,g3,g4,LY (by omega) g5];simp;refine Ok.bind (P:=(·=(ls,4,(k:Int),false,cs,ls,()))) ?_ ?_;refine gf (λh=>by cases h) λ_=>fR rfl;rintro _ rfl;dsimp only;simp only[oCF]
  (simp (disch:=omega) only [gG,gr,gi,gg])
  exact fR rfl;omega;unfold mc;exact fR rfl
 refine gV ?_;unfold oZ;delta fZ;simp only[h1,h3,LY (show cs.length<=1000 by omega) h2,oBS,oNT];refine Ok.bind (P:=(·=(false,cs,ls,()))) ?_ ?_;exact fR rfl;rintro _ rfl;dsimp only;simp only[oCF];rw[h3,show((4:Nat):Int)=4 from rfl,e];exact fR rfl
theorem L7{K:Int->Prop}{t:DTh}(h:Bk K 1099511627776 t):oV t.1 t.2.1 t.2.2.1 t.2.2.2.1 t.2.2.2.2.1 t.2.2.2.2.2.1 t.2.2.2.2.2.2.1 t.2.2.2.2.2.2.2=some (true,()):=by
 obtain⟨⟨a1,a2⟩,hl,hr,⟨b1,b2⟩,⟨c1,c2⟩,⟨d1,d2⟩,⟨e1,e2⟩,⟨f1,f2⟩,_⟩:=h;obtain⟨s,rs,pc,ct,ha,sa,tr,co⟩:=t;dsimp only at *;have e:gd l7 NN (rs,(rs.length:Int),0,s,rs,pc,ct,ha,sa,tr,co,())=some (.inr (rs,(rs.length:Int),(rs.length:Int),false,s,rs,pc,ct,ha,sa,tr,co,())):=by
  refine nz (st:=λk=>(rs,(rs.length:Int),(k:Int),s,rs,pc,ct,ha,sa,tr,co,())) (n:=rs.length) (by unfold NN;omega) ?_ ?_;intro k hk;unfold l7;refine fT (λZ'=>?_) λZ'=>?_;rw[fY];refine f7 λx hx=>?_;have:=hr x (f8 hx);unfold mY;rw[oDT (show x.1<=2 from this.2.1)]
  (simp (disch:=omega) only [gG,gr,gi,gg])
  exact fR rfl;omega;unfold l7;refine fT (λZ'=>?_) λZ'=>?_;omega;exact fR rfl
 refine gV ?_;unfold oV;delta fZ;try dsimp only
 rw[e];dsimp only;rw[hl];refine fS (oDT a1) (fS (oDT a2) (fS rfl (fS (oDT b1) (fS (oDT b2) (fS (oDT c1) (fS (oDT c2) (fS (oDT d1) (fS (oDT d2) (fS (oDT e1) (fS (oDT e2) (fS (oDT f1) ?_)))))))))));exact fR (by simp_all)
theorem u4{code:F_}{ss bs:M_}{d:j_}{n key:Int}{cs:C_}{ls:G_}{ts:J_}(hp:jP code ss d)(h:MOk n ss bs cs ls ts)(hn:n<=1099511627776):lk code ss d bs key cs ls ts=some (true,()):=by
 have ⟨h1,h2,h3,h4⟩:=h;have e:gd oF NN (ts,4,0,bs,key,cs,ls,ts,())=some (.inr (ts,4,4,false,bs,key,cs,ls,ts,())):=by
  refine nz (st:=λk=>(ts,4,(k:Int),bs,key,cs,ls,ts,())) (n:=4) (by unfold NN;omega) ?_ ?_;intro k hk;unfold oF;refine fT (λZ'=>?_) λZ'=>?_;rw[fY];refine f7 λx hx=>?_;have ht:=h4 x (f8 hx);rw[L7 ⟨ht.state,ht.len,ht.regs,ht.pc,⟨ht.count.1,by have:=ht.count.2;omega⟩,ht.handler,ht.saved,ht.trap,ht.code⟩]
  (simp (disch:=omega) only [gG,gr,gi,gg])
  exact fR rfl;omega;exact fR rfl
 refine gV ?_;unfold lk;rw[GL hp,u5 h1,L8 h2];delta fZ;simp only[oBS,oNT,oCF,oBN,h3];rw[show((4:Nat):Int)=4 from rfl,e];exact fR rfl
def g7:G_:=[(-1,false,[]),(-1,false,[]),(-1,false,[]),(-1,false,[])]
theorem LP:o4=some (g7,()):=by kernel_rfl
theorem Jh{K:Int->Prop}{cs:C_}(h:cs.length=512)(hc:∀c∈cs,oC K c):ld K cs g7:=by
 have key:∀(i:Nat) x,g7[i]?=some x->x=(-1,false,[]):=λi x hx=>by have:=f8 hx;simp[g7]at this;exact this
 exact⟨h,hc,rfl,λi x hx=>by rw[key i x hx];exact .inl ⟨rfl,rfl,rfl⟩,λi x hx=>by rw[key i x hx];exact .inl rfl⟩
theorem iO{α:Type}{P:α->Prop}{l:List α}{i:Nat}{f:α->α}(h:∀x∈l,P x)(hf:∀x,P x->P (f x)):∀x∈List.modify l i f,P x:=by intro x hx;have ⟨j,hj⟩:=List.getElem?_of_mem hx;grind
theorem TF{code:F_}{ss bs:M_}{d:j_}{key:Int}(hp:jP code ss d)(hl:LV bs ss):Ok (qF code ss d bs key) λr=>∃cs,r=(cs,g7,0,())/\cs.length=512/\∀c∈cs,oC (λ_=>False) c:=by
 unfold qF;rw[u5 hl,LP];delta fZ;simp only[oBS,oNT,oCF,hp.len,oBN];refine fS (by decide) ?_;obtain⟨t,e,ht⟩:=hU (f:=pU) (n:=NN) (s:=(d,(ss.length:Int),0,code,ss,d,bs,key,(),(),List.replicate 512 (0,0),g7,())) (P:=λs'=>∃k:Nat,∃cs,s'=(d,(ss.length:Int),(k:Int),code,ss,d,bs,key,(),(),cs,g7,())/\k<=ss.length/\cs.length=512/\∀c∈cs,oC (λ_=>False) c) (R:=λr=>∃a b c e cs,r=.inr (a,b,c,e,code,ss,d,bs,key,(),(),cs,g7,())/\cs.length=512/\∀c∈cs,oC (λ_=>False) c) (m:=λs'=>(s'.2.1-s'.2.2.1).toNat) ⟨0,_,rfl,by omega,List.length_replicate,λc hc=>by rw[List.eq_of_mem_replicate hc];exact kF (by decide)⟩ (by unfold NN;dsimp only;have:=hp.sz.2.1;omega) (by
  rintro _ ⟨k,cs,rfl,hk,ZL,ZH⟩;unfold pU;dsimp only;have hlen:=hp.len;have WZ:=hp.sz.2.1;refine fT (λZ'=>?_) λZ'=>?_;rw[fY];delta fZ;simp only[oBS];refine f7 λx hx=>?_;refine f7 λy hy=>?_;have hf:=hp.fit k x y hx hy;have Xb:=hp.num x (f8 hx);obtain⟨_,hbl,hr⟩:=hl;have hrk:=hr k (by omega);unfold wY at hrk;obtain⟨b,hb⟩:=gz bs k (by omega);rw[gw hb,gw hy]at hrk;refine fT (λZ1=>?_) λZ1=>?_;omega;refine gQ (P:=λs'=>∃j:Nat,∃cs,s'=((k:Int),d,(ss.length:Int),(k:Int),x,(x.length:Int),(j:Int),code,ss,d,bs,key,(),(),cs,g7,())/\j<=x.length/\cs.length=512/\∀c∈cs,oC (λ_=>False) c)
   (R:=λr=>∃a b c e cs,r=(a,d,(ss.length:Int),(k:Int),b,c,e,false,code,ss,d,bs,key,(),(),cs,g7,())/\cs.length=512/\∀c∈cs,oC (λ_=>False) c) (m:=λs'=>(s'.2.2.2.2.2.1-s'.2.2.2.2.2.2.1).toNat)
   ⟨0,cs,rfl,by omega,ZL,ZH⟩ (by unfold NN;dsimp only;omega) ?_ ?_
  rintro _ ⟨j,cs,rfl,hj,ZL,ZH⟩;unfold tW;dsimp only;refine fT (λhcc=>?_) λhcc=>?_;rw[fY,fY];simp only[oBS];refine f7 λv hv=>?_;have Xk:=Xb v (f8 hv);rw[show fU bs k=some b from hb];simp only[oBS]
  (simp (disch:=omega) only [gG,gr,gi,gg])
  refine gW λa ha=>?_;refine f7 λc hc=>?_;refine f7 λc' YG=>?_;exact fR ⟨⟨j+1,_,rfl,by omega,by rw[oLM];exact ZL,iO ZH λz hz=>⟨hz.1,hz.2.1,Xk.1,Xk.2,hz.2.2.2.2⟩⟩,by dsimp only;omega⟩;exact fR ⟨_,_,_,_,_,rfl,ZL,ZH⟩;rintro _ ⟨a,b,c,e,cs,rfl,ZL,ZH⟩;dsimp only
  (simp (disch:=omega) only [gG,gr,gi,gg])
  exact fR ⟨⟨k+1,_,rfl,by omega,ZL,ZH⟩,by dsimp only;omega⟩;exact fR ⟨_,_,_,_,_,rfl,ZL,ZH⟩)
 rw[e];obtain⟨a,b,c,e,cs,rfl,ZL,ZH⟩:=ht;exact fR ⟨cs,rfl,ZL,ZH⟩
theorem Uq{K:Int->Prop}:∀c∈List.replicate 8 ((0:Int),(0:Int)),oC K c:=λc hc=>by rw[List.eq_of_mem_replicate hc];exact kF (by decide)
theorem SO{K:Int->Prop}{s:Int}(h:0<=s/\s<=4):Bk K 0 (s,List.replicate 8 (0,0),0,0,-1,-1,0,0):=⟨h,rfl,Uq,⟨by simp_all,by simp_all⟩,⟨by simp_all,by simp_all⟩,⟨by simp_all,by simp_all⟩,⟨by simp_all,by simp_all⟩,⟨by simp_all,by simp_all⟩,⟨by simp_all,by simp_all⟩⟩
def Pr(ss:M_)(c:DCn):Prop:=((c.1=0\/c.1=2)/\c.2.2.1=0/\c.2.2.2=0/\W16 c.2.1)\/(c.1=1/\c.2.1=0/\0<=c.2.2.1/\∃n,ss[c.2.2.1.toNat]?=some n/\0<=c.2.2.2/\c.2.2.2<n)
theorem Jp{ss:M_}{c:DCn}(hs:AW ss)(h:Pr ss c):ji c.1 c.2.1 c.2.2.1 c.2.2.2=some (true,()):=by
 refine gV ?_;unfold ji;rcases h with⟨h1,h2,h3,_⟩|⟨h1,h2,h3,n,h4,h5,h6⟩;rw[h2,h3];rcases h1 with h1|h1<;>rw[h1]<;>exact fR rfl
 have hn:=hs.2.2 n (f8 h4);have hl:=(oGS h4).1;have WZ:=hs.2.1;rw[h1,h2,show(c.2.2.1==-1)=false by rw[beq_eq_false_iff_ne];omega];refine gf (λh=>by cases h) λ_=>gf (λh=>by cases h) λ_=>fS rfl ?_;refine gf (λh=>by cases h) λ_=>fS rfl ?_;exact fS (oDT h3) (fS (oDT (by omega)) (fS (oDT h5) (fR (by rw[oDT (show c.2.2.2<32 by omega)]))))
theorem mu{ss:M_}{l:D_}{n:Int}(hs:AW ss)(h:∀c∈l,Pr ss c)(hn:(l.length:Int)<=n)(hl:l.length<=1000):g8 l n=some (true,()):=by
 have e:gd je NN (l,n,l,(l.length:Int),0,())=some (.inr (l,n,l,(l.length:Int),(l.length:Int),false,())):=by
  refine nz (st:=λk=>(l,n,l,(l.length:Int),(k:Int),())) (n:=l.length) (by unfold NN;omega) ?_ ?_;intro k hk;unfold je;refine fT (λZ'=>?_) λZ'=>?_;rw[fY];refine f7 λx hx=>?_;rw[Jp hs (h x (f8 hx))]
  (simp (disch:=omega) only [gG,gr,gi,gg])
  exact fR rfl;omega;unfold je;refine fT (λZ'=>?_) λZ'=>?_;omega;exact fR rfl
 refine gV ?_;unfold g8;delta fZ;try dsimp only
 rw[e];exact fR (congrArg (λb=>(b,())) (oDT hn))
def Ue(d:i_)(o:DOp):Prop:=(o.1=-1/\o.2.1=0/\o.2.2=false)\/(0<=o.1/\∃x,d[o.1.toNat]?=some x/\0<=o.2.1/\o.2.1<=x.length)
structure iL (ss:M_)(d:i_)(os:H_):Prop where
 dlen:d.length<=4
 flen:∀x∈d,x.length<=64
 cells:∀x∈d,∀c∈x,Pr ss c
 olen:os.length=8
 opens:∀o∈os,Ue d o
theorem D2{ss:M_}{d:i_}{os:H_}(hs:AW ss)(h:iL ss d os):mH d os=some (true,()):=by
 obtain⟨h1,h2,h3,h4,h5⟩:=h;have e0:gd lZ NN (d,(d.length:Int),0,d,os,())=some (.inr (d,(d.length:Int),(d.length:Int),false,d,os,())):=by
  refine nz (st:=λk=>(d,(d.length:Int),(k:Int),d,os,())) (n:=d.length) (by unfold NN;omega) ?_ ?_;intro k hk;unfold lZ;dsimp only;refine fT (λZ'=>?_) λZ'=>?_;rw[fY];simp only[oBS];refine f7 λx hx=>?_;have:=h2 x (f8 hx);rw[mu hs (h3 x (f8 hx)) (by omega) (by omega)];simp only[oBS,oNT,oCF]
  (simp (disch:=omega) only [gG,gr,gi,gg])
  exact fR rfl;omega;unfold lZ;dsimp only;refine fT (λZ'=>?_) λZ'=>?_;omega;exact fR rfl
 have e2:gd oD NN (os,8,0,d,os,())=some (.inr (os,8,8,false,d,os,())):=by
  refine nz (st:=λk=>(os,8,(k:Int),d,os,())) (n:=8) (by unfold NN;omega) ?_ ?_;intro k hk;unfold oD;dsimp only;refine fT (λZ'=>?_) λZ'=>?_;rw[fY];simp only[oBS];refine f7 λx hx=>?_;obtain⟨f,o,w⟩:=x;refine Ok.bind (P:=(·=(os,8,(k:Int),false,d,os,f,o,w,()))) ?_ ?_;rcases h5 _ (f8 hx)with⟨g1,g2,g3⟩|⟨g1,y,g2,g3,g4⟩;have g1:f=-1:=g1;have g2:o=0:=g2;have g3:w=false:=g3;subst g1 g2 g3;dsimp only;refine fS rfl (gf (λh=>by cases h) λ_=>gf (λh=>by cases h) λ_=>gf (λh=>by cases h) λ_=>gf (λh=>?_) λ_=>gf (λh=>by cases h) λ_=>fR rfl);have h:(-1:Int)>=(d.length:Int):=of_decide_eq_true h;omega;dsimp only at g1 g2 g3 g4⊢;have hl:=(oGS g2).1;rw[show(f==-1)=false by rw[beq_eq_false_iff_ne];omega,oDF (show ¬f < -1 by omega)];simp only[oCF];refine gf (λh=>?_) λ_=>fS (oDT g1) ?_;have h:f>=(d.length:Int):=of_decide_eq_true h;omega;rw[oDF (show ¬o<0 by omega)];simp only[oCF];refine ju g1 λj hj=>?_;refine f7 λz hz=>?_;have hjj:j=f.toNat:=by omega
  subst hjj;rw[g2]at hz;injection hz with hz
  subst hz;exact fR (by rw[oDF (show ¬o>fZ y.length from λh=>by rw[gg]at h;omega)]);rintro _ rfl;dsimp only;simp only[oCF]
  (simp (disch:=omega) only [gG,gr,gi,gg])
  exact fR rfl;omega;exact fR rfl
 refine gV ?_;unfold mH;delta fZ;try dsimp only
 refine fT (λZ'=>?_) λZ'=>?_;omega;rw[h4];rw[e0];dsimp only;rw[h4,show((8:Nat):Int)=8 from rfl,e2];exact fR rfl
def Ul(ss:M_)(i:Nat)(x:DOu):Prop:=x.1=i/\0<=x.2.1/\x.2.1<2/\x.2.2.length<=16/\∀c∈x.2.2,Pr ss c
structure vB (ss:M_)(ck rn:M_)(ins:j_)(d:i_)(os:H_)(us:I_):Prop where
 clock:ck.length<=64/\∀w∈ck,W16 w
 rand:rn.length<=64/\∀w∈rn,W16 w
 ilen:ins.length<=2
 inp:∀x∈ins,x.length<=64/\∀w∈x,W16 w
 files:iL ss d os
 ulen:us.length<=200
 outs:∀(i:Nat) x,us[i]?=some x->Ul ss i x
theorem MF{ss:M_}{us:I_}(hl:us.length<=200)(h:∀(i:Nat) x,us[i]?=some x->Ul ss i x):mG us=some (true,()):=by
 have e:gd kC NN (us,(us.length:Int),0,())=some (.inr (us,(us.length:Int),(us.length:Int),false,())):=by
  refine nz (st:=λk=>(us,(us.length:Int),(k:Int),())) (n:=us.length) (by unfold NN;omega) ?_ ?_;intro k hk;unfold kC;refine fT (λZ'=>?_) λZ'=>?_;rw[fY];refine f7 λx hx=>?_;have ⟨g1,g2,g3,g4,g5⟩:=h k x hx;rw[g1,oDF (show ¬x.2.1<0 by omega),oDF (show ¬x.2.1>=2 by omega)];simp;refine gf (λh=>?_) λ_=>?_;have h:(x.2.2.length:Int)>16:=of_decide_eq_true h;omega
  ·(simp (disch:=omega) only [gG,gr,gi,gg])
   exact fR rfl
  omega;unfold kC;refine fT (λZ'=>?_) λZ'=>?_;omega;exact fR rfl
 refine gV ?_;unfold mG;delta fZ;try dsimp only
 rw[e];exact fR rfl
theorem u3{ss ck rn:M_}{ins:j_}{d:i_}{os:H_}{us:I_}(hs:AW ss)(h:vB ss ck rn ins d os us):lj ck rn ins d os us=some (true,()):=by
 have e0:gd lY NN (ins,(ins.length:Int),0,ck,rn,ins,d,os,us,())=some (.inr (ins,(ins.length:Int),(ins.length:Int),false,ck,rn,ins,d,os,us,())):=by
  refine nz (st:=λk=>(ins,(ins.length:Int),(k:Int),ck,rn,ins,d,os,us,())) (n:=ins.length) (by unfold NN;have:=h.ilen;omega) ?_ ?_;intro k hk;have hil:=h.ilen;unfold lY;dsimp only;refine fT (λZ'=>?_) λZ'=>?_;rw[fY];delta fZ;simp only[oBS];refine f7 λx hx=>?_;have:=(h.inp x (f8 hx)).1;refine fT (λZ1=>?_) λZ1=>?_;omega
  ·(simp (disch:=omega) only [gG,gr,gi,gg])
   exact fR rfl
  omega;unfold lY;dsimp only;refine fT (λZ'=>?_) λZ'=>?_;omega;exact fR rfl
 have e1:gd lX NN (us,(us.length:Int),0,ck,rn,ins,d,os,us,())=some (.inr (us,(us.length:Int),(us.length:Int),false,ck,rn,ins,d,os,us,())):=by
  refine nz (st:=λk=>(us,(us.length:Int),(k:Int),ck,rn,ins,d,os,us,())) (n:=us.length) (by unfold NN;have:=h.ulen;omega) ?_ ?_;intro k hk;have hul:=h.ulen;unfold lX;dsimp only;refine fT (λZ'=>?_) λZ'=>?_;rw[fY];simp only[oBS];refine f7 λx hx=>?_;obtain⟨_,_,_,g4,g5⟩:=h.outs k x hx;rw[mu hs g5 (by omega) (by omega)]
  (simp (disch:=omega) only [gG,gr,gi,gg])
  exact fR rfl;omega;unfold lX;dsimp only;refine fT (λZ'=>?_) λZ'=>?_;omega;exact fR rfl
 have c1:=h.clock.1;have c2:=h.rand.1;have c3:=h.ilen;have c4:=h.ulen;refine gV ?_;unfold lj;delta fZ;try dsimp only
 rw[e0];dsimp only;rw[e1];dsimp only;refine fS (oDT (show(ck.length:Int)<=64 by omega)) (fS (oDT (show(rn.length:Int)<=64 by omega)) (fS (oDT (show(ins.length:Int)<=2 by omega)) ?_));rw[D2 hs h.files];refine fS (oDT (show(us.length:Int)<=200 by omega)) ?_;rw[MF h.ulen h.outs];exact fR rfl
def sF:H_:=List.replicate 8 (-1,0,false)
theorem Q1(a:j_):gd vI NN (a,8,0,(),(),(),List.replicate 8 (0,(0,false)),())=some (a,8,8,false,(),(),(),sF,()):=by rfl
theorem Q7{ss:M_}{a:j_}(hs:AW ss)(hl:a.length<=4)(h:∀x∈a,x.length<=64/\∀w∈x,W16 w):Ok (r8 a) λr=>∃d,r=(d,sF,0,())/\iL ss d sF:=by
 unfold r8;refine fS (by decide) ?_;dsimp only;rw[show fZ (List.replicate 8 ((0:Int),((0:Int),false))).length=8 from rfl,Q1];delta fZ;simp only[oBS];refine gQ (P:=λs'=>∃k:Nat,∃d,s'=(a,(a.length:Int),(k:Int),(),(),d,sF,())/\k<=a.length/\d.length=k/\(∀x∈d,x.length<=64)/\∀x∈d,∀c∈x,Pr ss c)
  (R:=λr=>∃e b c f d,r=(e,b,c,f,(),(),d,sF,())/\d.length<=4/\(∀x∈d,x.length<=64)/\∀x∈d,∀c∈x,Pr ss c) (m:=λs'=>(s'.2.1-s'.2.2.1).toNat) ⟨0,[],rfl,by omega,rfl,gy,gy⟩ (by unfold NN;dsimp only;omega) ?_ ?_
 rintro _ ⟨k,d,rfl,hk,Yq,hd2,XF⟩;unfold vG;dsimp only;refine fT (λZ'=>?_) λZ'=>?_;rw[fY];delta fZ;simp only[oBS];refine f7 λx hx=>?_;obtain⟨Z0,Ym⟩:=h x (f8 hx);refine gQ (P:=λs'=>∃j:Nat,∃l,s'=(a,(a.length:Int),(k:Int),x,(x.length:Int),(j:Int),(),(),d,sF,l,())/\j<=x.length/\l.length=j/\∀c∈l,Pr ss c)
  (R:=λr=>∃b c e f l,r=(a,(a.length:Int),(k:Int),b,c,e,f,(),(),d,sF,l,())/\l.length<=64/\∀c∈l,Pr ss c) (m:=λs'=>(s'.2.2.2.2.1-s'.2.2.2.2.2.1).toNat) ⟨0,[],rfl,by omega,rfl,gy⟩ (by unfold NN;dsimp only;omega) ?_ ?_
 rintro _ ⟨j,l,rfl,hj,Xs,XU⟩;unfold vH;dsimp only;refine fT (λZ1=>?_) λZ1=>?_;rw[fY];simp only[oBS];refine f7 λv hv=>?_;refine fS (ge (by simp;omega)) ?_
 (simp (disch:=omega) only [gG,gr,gi,gg])
 exact fR ⟨⟨j+1,_,rfl,by omega,by rw[ij,Xs];rfl,kX XU (all_cons (.inl ⟨.inl rfl,rfl,rfl,Ym v (f8 hv)⟩) gy)⟩,by dsimp only;omega⟩;exact fR ⟨_,_,_,_,_,rfl,by omega,XU⟩;rintro _ ⟨b,c,e,f,l,rfl,Xs,XU⟩;dsimp only;refine fS (ge (by simp;omega)) ?_
 (simp (disch:=omega) only [gG,gr,gi,gg])
 exact fR ⟨⟨k+1,_,rfl,by omega,by rw[ij,Yq];rfl,kX hd2 (all_cons Xs gy),kX XF (all_cons XU gy)⟩,by dsimp only;omega⟩;exact fR ⟨_,_,_,_,_,rfl,by omega,hd2,XF⟩;rintro _ ⟨e,b,c,f,d,rfl,Yq,hd2,XF⟩;have hf:iL ss d sF:=⟨Yq,hd2,XF,rfl,λo ho=>by rw[List.eq_of_mem_replicate ho];exact .inl ⟨rfl,rfl,rfl⟩⟩;dsimp only;rw[D2 hs hf];exact fR ⟨d,rfl,hf⟩
theorem Cw{a:j_}(hl:a.length<=1000)(h:∀x∈a,x.length<=1000):iN a=some (a,()):=by
 have e:gd iH NN (a,(a.length:Int),0,[],())=some (a,(a.length:Int),(a.length:Int),false,a,()):=by
  have:=nz (f:=iH) (N:=NN) (st:=λk=>(a,(a.length:Int),(k:Int),a.take k,())) (n:=a.length) (t:=(a,(a.length:Int),(a.length:Int),false,a,())) (by unfold NN;omega) ?_ ?_;exact this;intro k hk;unfold iH;refine fT (λZ'=>?_) λZ'=>?_;rw[fY];refine f7 λx hx=>?_;have:=h x (f8 hx);refine fS (ge (by omega)) (fS (ge (by simp;omega)) ?_)
  (simp (disch:=omega) only [gG,gr,gi,gg])
  refine fR ?_;rw[List.take_add_one,hx];rfl;omega;unfold iH;refine fT (λZ'=>?_) λZ'=>?_;omega;rw[List.take_length];exact fR rfl
 refine gV ?_;unfold iN;delta fZ;try dsimp only
 rw[e];exact fR rfl
theorem ME{ss l:M_}{k:Int}(hs:AW ss)(h:DOk l k):Ok (n7 l k) λr=>∃ck rn ins d os k',r=(ck,rn,ins,d,os,(),l,k',())/\vB ss ck rn ins d os []/\DOk l k':=by unfold n7;refine(rW h (by decide)).bind ?_;rintro _ ⟨w1,k1,rfl,h1,g1,d1⟩;refine(rW d1 (by decide)).bind ?_;rintro _ ⟨w2,k2,rfl,h2,g2,d2⟩;dsimp only;refine(rW d2 (by decide)).bind ?_;rintro _ ⟨w3,k3,rfl,h3,g3,d3⟩;dsimp only;refine(rW d3 (by decide)).bind ?_;rintro _ ⟨w4,k4,rfl,h4,g4,d4⟩;dsimp only;refine(rW d4 (by decide)).bind ?_;rintro _ ⟨w5,k5,rfl,h5,g5,d5⟩;dsimp only;refine(rW d5 (by decide)).bind ?_;rintro _ ⟨w6,k6,rfl,h6,g6,d6⟩;dsimp only;refine Ok.bind (P:=λr=>∃ck rn ins d os,r=(ck,rn,ins,d,os,(),0,())/\vB ss ck rn ins d os []) ?_ ?_;unfold r7;refine(Q7 (ss:=ss) (a:=[w1,w2]) hs (by simp) (all_cons ⟨by omega,g1⟩ (all_cons ⟨by omega,g2⟩ gy))).bind ?_;rintro _ ⟨d,rfl,hf⟩;refine gf (λh=>by cases h) λ_=>?_;refine fS (ge (by omega)) (fS (ge (by omega)) ?_);have ho:vB ss w5 w6 [w3,w4] d sF []:=⟨⟨by omega,g5⟩,⟨by omega,g6⟩,by simp,all_cons ⟨by omega,g3⟩ (all_cons ⟨by omega,g4⟩ gy),hf,by simp,λi x hx=>by simp_all⟩;rw[Cw (by simp) (all_cons (by omega) (all_cons (by omega) gy))];simp only[oBS];rw[show List.append [] w5=w5 from rfl,show List.append [] w6=w6 from rfl,u3 hs ho];exact fR ⟨_,_,_,_,_,rfl,ho⟩;rintro _ ⟨ck,rn,ins,d,os,rfl,ho⟩;exact fR ⟨_,_,_,_,_,_,rfl,ho,d6⟩
theorem xP{ss:M_}{r o n:Int}(h1:0<=r)(h2:ss[r.toNat]?=some n)(h3:0<=o)(h4:o<n):hY ss r o=some (true,()):=by refine gV ?_;have hl:=(oGS h2).1;refine fS (oDT h1) (fS (oDT (show r<(ss.length:Int) by omega)) (fS (oDT h3) ?_));obtain⟨j,rfl⟩:∃j:Nat,r=j:=⟨r.toNat,by omega⟩;rw[fY];simp;rw[show fU ss j=some n from h2];exact fR (by simp_all)
theorem ml{ss:M_}{c:DCn}(h:Pr ss c):ir ss c.1 c.2.1 c.2.2.1 c.2.2.2=some (true,()):=by
 refine gV ?_;unfold ir;rcases h with⟨h1,h2,h3,_⟩|⟨h1,h2,h3,n,h4,h5,h6⟩;rw[h2,h3];rcases h1 with h1|h1<;>rw[h1]<;>exact fR rfl
 rw[h1,h2,xP h3 h4 h5 h6];exact fR rfl
theorem JT{ss:M_}{d:i_}{os:H_}(h:iL ss d os):nT ss d os=some (true,()):=by
 obtain⟨h1,h2,h3,h4,h5⟩:=h;have e0:gd lh NN (ss,d,(d.length:Int),0,d,os,())=some (.inr (ss,d,(d.length:Int),(d.length:Int),false,d,os,())):=by
  refine nz (st:=λk=>(ss,d,(d.length:Int),(k:Int),d,os,())) (n:=d.length) (by unfold NN;omega) ?_ ?_;intro k hk;unfold lh;dsimp only;refine fT (λZ'=>?_) λZ'=>?_;rw[fY];delta fZ;refine f7 λx hx=>?_;have Z0:=h2 x (f8 hx);have e:gd li NN (ss,d,(d.length:Int),(k:Int),x,(x.length:Int),0,d,os,())=some (.inr (ss,d,(d.length:Int),(k:Int),x,(x.length:Int),(x.length:Int),false,d,os,())):=by
   refine nz (st:=λj=>(ss,d,(d.length:Int),(k:Int),x,(x.length:Int),(j:Int),d,os,())) (n:=x.length) (by unfold NN;omega) ?_ ?_;intro j hj;unfold li;refine fT (λZ'=>?_) λZ'=>?_;rw[fY];refine f7 λy hy=>?_;rw[ml (h3 x (f8 hx) y (f8 hy))]
   (simp (disch:=omega) only [gG,gr,gi,gg])
   exact fR rfl;omega;unfold li;refine fT (λZ'=>?_) λZ'=>?_;omega;exact fR rfl
  rw[e];dsimp only
  (simp (disch:=omega) only [gG,gr,gi,gg])
  exact fR rfl;omega;unfold lh;dsimp only;refine fT (λZ'=>?_) λZ'=>?_;omega;exact fR rfl
 refine gV ?_;unfold nT;delta fZ;try dsimp only
 rw[e0];exact fR rfl
theorem copy17_ok{d:i_}{os:H_}(h1:d.length<=1000)(h2:∀x∈d,x.length<=1000)(h3:os.length<=1000):jg d os=some (d,os,()):=by
 have e:gd kN NN (d,(d.length:Int),0,d,os,(),(),[],os,())=some (d,(d.length:Int),(d.length:Int),false,d,os,(),(),d,os,()):=by
  have:=nz (f:=kN) (N:=NN) (st:=λk=>(d,(d.length:Int),(k:Int),d,os,(),(),d.take k,os,())) (n:=d.length) (t:=(d,(d.length:Int),(d.length:Int),false,d,os,(),(),d,os,())) (by unfold NN;omega) ?_ ?_;exact this;intro k hk;unfold kN;refine fT (λZ'=>?_) λZ'=>?_;rw[fY];refine f7 λx hx=>?_;have:=h2 x (f8 hx);refine fS (ge (by omega)) (fS (ge (by simp;omega)) ?_)
  (simp (disch:=omega) only [gG,gr,gi,gg])
  refine fR ?_;rw[List.take_add_one,hx];rfl;omega;unfold kN;refine fT (λZ'=>?_) λZ'=>?_;omega;rw[List.take_length];exact fR rfl
 refine gV ?_;refine fS (ge (by omega)) ?_;rw[show List.append [] os=os from rfl];delta fZ;try dsimp only
 rw[e];exact fR rfl
theorem Cy{us:I_}(h1:us.length<=1000)(h2:∀x∈us,x.2.2.length<=1000):kM us=some (us,()):=by
 have e:gd kL NN (us,(us.length:Int),0,[],())=some (us,(us.length:Int),(us.length:Int),false,us,()):=by
  have:=nz (f:=kL) (N:=NN) (st:=λk=>(us,(us.length:Int),(k:Int),us.take k,())) (n:=us.length) (t:=(us,(us.length:Int),(us.length:Int),false,us,())) (by unfold NN;omega) ?_ ?_;exact this;intro k hk;unfold kL;refine fT (λZ'=>?_) λZ'=>?_;rw[fY];refine f7 λx hx=>?_;have:=h2 x (f8 hx);refine fS (ge (by omega)) (fS (ge (by simp;omega)) ?_)
  (simp (disch:=omega) only [gG,gr,gi,gg])
  refine fR ?_;rw[List.take_add_one,hx];rfl;omega;unfold kL;refine fT (λZ'=>?_) λZ'=>?_;omega;rw[List.take_length];exact fR rfl
 refine gV ?_;unfold kM;delta fZ;try dsimp only
 rw[e];exact fR rfl
theorem Cx{ss ck rn:M_}{ins:j_}{d:i_}{os:H_}{us:I_}(h:vB ss ck rn ins d os us):qv ck rn ins d os us=some (ck,rn,ins,d,os,us,()):=by
 have h1:=h.clock.1;have h2:=h.rand.1;have h3:=h.ilen;have h4:=h.ulen;have h5:=h.files.olen;have h6:=h.files.dlen;refine gV ?_;refine fS (ge (by omega)) (fS (ge (by omega)) ?_);rw[Cw (by omega) (λx hx=>by have:=(h.inp x hx).1;omega),copy17_ok (by omega) (λx hx=>by have:=h.files.flen x hx;omega) (by omega),Cy (by omega) (λx hx=>by
  have ⟨i,hi⟩:=List.getElem?_of_mem hx;have:=(h.outs i x hi).2.2.2.1
  omega)]
 exact fR rfl
theorem O2:wC=some ([-1,-1,-1,-1],[[],[],[],[]],()):=by kernel_rfl
structure kz (ow:M_)(qs:j_):Prop where
 olen:ow.length=4
 qlen:qs.length=4
 owner:∀o∈ow,-1<=o/\o<=3
 queue:∀q∈qs,q.Nodup/\∀t∈q,0<=t/\t<=3
theorem OT:∀{n:Nat}{q:M_},q.Nodup->(∀t∈q,0<=t/\t<n)->q.length<=n:=by
 intro n;induction n with
 |zero=>intro q _ h;cases q with|nil=>simp|cons x q=>have:=h x (by simp);omega
 |succ n ih=>
 intro q hq h;have h1:(q.erase (n:Int)).Nodup:=hq.erase _;have h2:∀t∈q.erase (n:Int),0<=t/\t<n:=λt ht=>by have hm:=(hq.mem_erase_iff).1 ht;have:=h t hm.2;omega
 have h3:=ih h1 h2;have h4:=List.length_erase (a:=(n:Int)) (l:=q);split at h4<;>omega
theorem kz.qlen4{ow:M_}{qs:j_}(h:kz ow qs){q:M_}(hq:q∈qs):q.length<=4:=OT (h.queue q hq).1 λt ht=>by have:=(h.queue q hq).2 t ht;omega
theorem UV:kz [-1,-1,-1,-1] [[],[],[],[]]:=⟨rfl,rfl,by decide,by decide⟩
theorem Vt.len{K:Int->Prop}{i:Nat}{x:DLn}(h:Vt K i x):x.2.2.length<=4:=by rcases h with⟨_,_,h⟩|⟨_,_,_,h,_⟩;simp_all;omega
theorem PI{K:Int->Prop}{cs:C_}{ls:G_}(h:ld K cs ls):qG cs ls=some (cs,ls,()):=by
 obtain⟨h1,h2,h3,h4,_⟩:=h;have e:gd kU NN (ls,(ls.length:Int),0,cs,ls,(),(),cs,[],())=some (ls,(ls.length:Int),(ls.length:Int),false,cs,ls,(),(),cs,ls,()):=by
  have:=nz (f:=kU) (N:=NN) (st:=λk=>(ls,(ls.length:Int),(k:Int),cs,ls,(),(),cs,ls.take k,())) (n:=ls.length) (t:=(ls,(ls.length:Int),(ls.length:Int),false,cs,ls,(),(),cs,ls,())) (by unfold NN;omega) ?_ ?_;exact this;intro k hk;unfold kU;refine fT (λZ'=>?_) λZ'=>?_;rw[fY];refine f7 λx hx=>?_;have:=(h4 k x hx).len;refine fS (ge (by omega)) (fS (ge (by simp;omega)) ?_)
  (simp (disch:=omega) only [gG,gr,gi,gg])
  refine fR ?_;rw[List.take_add_one,hx];rfl;omega;unfold kU;refine fT (λZ'=>?_) λZ'=>?_;omega;rw[List.take_length];exact fR rfl
 refine gV ?_;unfold qG;refine fS (ge (by omega)) ?_;rw[show List.append [] cs=cs from rfl];delta fZ;try dsimp only
 rw[e];exact fR rfl
theorem ut{n key:Int}{ss bs:M_}{cs:C_}{ls:G_}{ts:J_}(h:MOk n ss bs cs ls ts):kS bs key cs ls ts=some (bs,key,cs,ls,ts,()):=by
 obtain⟨h1,h2,h3,h4⟩:=h;have hb:=h1.2.1;have WZ:=h1.1.2.1;have e:gd kR NN (ts,(ts.length:Int),0,bs,key,cs,ls,ts,(),0,(),(),(),bs,key,cs,ls,[],())=some (ts,(ts.length:Int),(ts.length:Int),false,bs,key,cs,ls,ts,(),0,(),(),(),bs,key,cs,ls,ts,()):=by
  have:=nz (f:=kR) (N:=NN) (st:=λk=>(ts,(ts.length:Int),(k:Int),bs,key,cs,ls,ts,(),0,(),(),(),bs,key,cs,ls,ts.take k,())) (n:=ts.length) (t:=(ts,(ts.length:Int),(ts.length:Int),false,bs,key,cs,ls,ts,(),0,(),(),(),bs,key,cs,ls,ts,())) (by unfold NN;omega) ?_ ?_;exact this;intro k hk;unfold kR;dsimp only;refine fT (λZ'=>?_) λZ'=>?_;rw[fY];refine f7 λx hx=>?_;have:=(h4 x (f8 hx)).len;refine fS (ge (by omega)) (fS (ge (by simp;omega)) ?_)
  (simp (disch:=omega) only [gG,gr,gi,gg])
  refine fR ?_;rw[List.take_add_one,hx];rfl;omega;unfold kR;refine fT (λZ'=>?_) λZ'=>?_;omega;rw[List.take_length];exact fR rfl
 refine gV ?_;unfold kS;refine fS (ge (by omega)) ?_;rw[PI h2,show List.append [] bs=bs from rfl];delta fZ;simp;rw[e];exact fR rfl
theorem vq{α:Type}{l:List α}{i:Nat}{f:α->α}{a:α}(h:l[i]?=some a):(List.modify l i f)[i]?=some (f a):=by simp_all
theorem lu{α:Type}(l:List α)(i:Nat)(f g:α->α):List.modify (List.modify l i f) i g=List.modify l i λa=>g (f a):=by apply oEG;grind
theorem MOk.thread{n:Int}{ss bs:M_}{cs:C_}{ls:G_}{ts:J_}(h:MOk n ss bs cs ls ts){i:Nat}{t:DTh}{f:DTh->DTh}(ht:ts[i]?=some t)(hf:Bk (RK bs ss) n (f t)):MOk n ss bs cs ls (List.modify ts i f):=by
 refine⟨h.lay,h.mem,by rw[oLM];exact h.tlen,λx hx=>?_⟩;have ⟨j,hj⟩:=List.getElem?_of_mem hx;by_cases hij:i=j;simp_all;simp[hij]at hj;have:ts[j]?=some x:=by simp_all
 exact h.thr x (f8 this)
theorem Sx{n key:Int}{ss bs:M_}{cs:C_}{ls:G_}{ts:J_}(h:MOk n ss bs cs ls ts)(i:Int):Ok (pO bs key cs ls ts i) λr=>r.1=true->0<=i/\i<4/\∀t,ts[i.toNat]?=some t->t.2.2.2.2.1≠-1:=by
 unfold pO;delta fZ;have:=h.tlen;refine fT (λZ'=>?_) λZ'=>?_;exact fR (λh=>by cases h);refine fT (λZ1=>?_) λZ1=>?_;exact fR (λh=>by cases h);refine gW λj hj=>?_;refine f7 λt ht=>?_;subst hj;refine fT (λhcc=>?_) λhcc=>?_;refine fT (λXE=>?_) λXE=>?_;exact fR (λ_=>⟨by omega,by omega,λt' ZU=>by
  rw[oTN,ht]at ZU
  injection ZU with ZU
  rw[<- ZU]
  exact XE⟩)
 exact fR (λh=>by cases h);exact fR (λh=>by cases h)
theorem SN{n W5:Int}{ts:J_}{i:Nat}{t:DTh}(ht:ts[i]?=some t):iv i W5 ts=some (2,List.modify ts i λt=>(4,t.2.1,t.2.2.1,t.2.2.2.1,t.2.2.2.2.1,t.2.2.2.2.2.1,W5,0),()):=by refine gV ?_;have hl:=(oGS ht).1;refine gP hl λ_ _=>?_;refine gP (by simp_all) λ_ _=>?_;refine gP (by simp_all) λ_ _=>?_;rw[lu,lu];exact fR rfl
theorem Bk.ended{K:Int->Prop}{n W5:Int}{t:DTh}(h:Bk K n t)(hw:0<=W5/\W5<=6):Bk K n (4,t.2.1,t.2.2.1,t.2.2.2.1,t.2.2.2.2.1,t.2.2.2.2.2.1,W5,0):=⟨⟨by omega,by omega⟩,h.len,h.regs,h.pc,h.count,h.handler,h.saved,hw,⟨by simp_all,by simp_all⟩⟩
theorem yW{ss bs:M_}{key a:Int}(h:LV bs ss)(ha:0<=a/\a<=65535):Ok (gX bs key ss a) λr=>(r.2.2.1=true->∃b n,0<=r.1/\bs[r.1.toNat]?=some b/\ss[r.1.toNat]?=some n/\0<=r.2.1/\r.2.1<n/\a=b+r.2.1):=by
 obtain⟨hs,hl,hr⟩:=h;have WZ:=hs.2.1;unfold gX;delta fZ;try dsimp only
 obtain⟨t,e,ht⟩:=hU (f:=gL) (n:=NN) (s:=(ss,a,bs,(bs.length:Int),0,bs,key,0,0,())) (P:=λs'=>∃k:Nat,s'=(ss,a,bs,(bs.length:Int),(k:Int),bs,key,0,0,())/\k<=bs.length) (R:=λr=>(∃x y,r=.inl (true,x,y,())/\∃b n,0<=x/\bs[x.toNat]?=some b/\ss[x.toNat]?=some n/\0<=y/\y<n/\a=b+y)\/∃z,r=.inr z) (m:=λs'=>(s'.2.2.2.1-s'.2.2.2.2.1).toNat) ⟨0,rfl,by omega⟩ (by unfold NN;dsimp only;omega) (by
  rintro _ ⟨k,rfl,hk⟩;unfold gL;dsimp only;refine fT (λZ'=>?_) λZ'=>?_;rw[fY];simp only[oBS];obtain⟨b,hb⟩:=gz bs k (by omega);obtain⟨y,hy⟩:=gz ss k (by omega);have WK:=hs.2.2 y (f8 hy);have hrk:=hr k (by omega);unfold wY at hrk;rw[gw hb,gw hy]at hrk;rw[show fU bs k=some b from hb];rw[show fU ss k=some y from hy];simp only[oBS];rw[iG (x:=b+y)];by_cases h1:a>=b;by_cases h2:a<b+y;simp only[h1,h2,decide_true,oCT];rw[iG (x:=a-b)];exact fR (.inl ⟨_,_,rfl,b,y,by omega,by rw[oTN];exact hb,by rw[oTN];exact hy,by omega,by omega,by omega⟩);simp only[h1,h2,decide_true,decide_false,oCT,oCF]
  (simp (disch:=omega) only [gG,gr,gi,gg])
  exact fR ⟨⟨k+1,rfl,by omega⟩,by dsimp only;omega⟩;simp only[h1,decide_false,oCF]
  (simp (disch:=omega) only [gG,gr,gi,gg])
  exact fR ⟨⟨k+1,rfl,by omega⟩,by dsimp only;omega⟩;exact fR (.inr ⟨_,rfl⟩))
 rw[e];rcases ht with⟨x,y,rfl,T'⟩|⟨z,rfl⟩;exact fR λ_=>T';exact fR λh=>by cases h
theorem Ek{ss:M_}{r o:Int}:Ok (hY ss r o) λx=>x.1=true->0<=r/\0<=o/\∃n,ss[r.toNat]?=some n/\o<n:=by
 unfold hY;delta fZ;refine fT (λZ'=>?_) λZ'=>?_;refine fT (λZ1=>?_) λZ1=>?_;refine fT (λhcc=>?_) λhcc=>?_;refine gW λj hj=>?_;refine f7 λn hn=>?_;exact fR λh=>⟨by omega,by omega,n,by simp_all,of_decide_eq_true h⟩;exact fR λh=>by cases h
 exact fR λh=>by cases h
 exact fR λh=>by cases h
theorem BI{ss bs:M_}{key tag v n:Int}{back:Bool}(h:LV bs ss)(hv:W16 v)(hn:W16 n):Ok (iJ bs key ss tag v n back) λr=>∃t x e,r=(t,x,e,())/\oC (RK bs ss) (t,x)/\0<=e/\e<=6/\(e=0->x<512):=by
 have hz:∀e:Int,0<e->e<=6->∃t x e',((0:Int),(0:Int),e,())=(t,x,e',())/\oC (RK bs ss) (t,x)/\0<=e'/\e'<=6/\(e'=0->x<512):=λe h1 h2=>⟨0,0,e,rfl,kF (by decide),by omega,h2,by omega⟩;obtain⟨v0,v1⟩:=hv;obtain⟨n0,n1⟩:=hn;unfold iJ;refine fT (λZ'=>?_) λZ'=>?_;exact fR (hz 3 (by decide) (by decide))
 ·rw[gi (x:=v) (by omega) (by omega),gi (x:=n) (by omega) (by omega)];refine(yW h ⟨v0,v1⟩).bind ?_;rintro⟨r,o,ok,_⟩ Za;dsimp only at Za⊢;refine fT (λZ1=>?_) λZ1=>?_
  ·exact fR (hz 4 (by decide) (by decide))
  ·obtain⟨b,z,hr0,hb,hzz,ho0,ho1,_⟩:=Za Z1;have Xm:=h.1.2.2 z (f8 hzz);refine Ok.bind (P:=λx=>∃o',x=(ss,bs,key,0,0,r,o',())/\-70000<=o'/\o'<=70000) ?_ ?_
   ·refine gf (λ_=>?_) λ_=>?_
    all_goals
     (simp (disch:=omega) only [gG,gr,gi,gg])
     exact fR ⟨_,rfl,by omega,by omega⟩
   rintro _ ⟨o',rfl,Xc,ho3⟩;dsimp only;refine Ek.bind ?_;rintro⟨q,_⟩ hin;dsimp only at hin⊢;refine fT (λhcc=>?_) λhcc=>?_
   ·exact fR (hz 4 (by decide) (by decide))
   ·obtain⟨_,g1,m,g2,g3⟩:=hin hcc;refine ju hr0 λj hj=>?_;subst hj;rw[oTN]at hb g2;have hjl:=(oGS hb).1;have hrj:=h.2.2 j hjl;unfold wY at hrj;rw[gw hb,gw g2]at hrj;rw[show fU bs j=some b from hb];simp only[oBS];rw[iG (x:=b+o'),gr (x:=b+o') (by omega) (by omega)];exact fR ⟨_,_,_,rfl,⟨by dsimp only;omega,by dsimp only;omega,by dsimp only;omega,by dsimp only;omega,λ_=>⟨j,b,m,hb,g2,by dsimp only;omega,by dsimp only;omega⟩⟩,by decide,by decide,λ_=>by omega⟩
theorem ld.line{K:Int->Prop}{cs:C_}{ls:G_}(h:ld K cs ls){i:Nat}{x:DLn}{f:DLn->DLn}(hx:ls[i]?=some x)(hf:Vt K i (f x))(hg:VF cs (f x)):ld K cs (List.modify ls i f):=by
 have key:∀(j:Nat) y,(List.modify ls i f)[j]?=some y->Vt K j y/\VF cs y:=λj y hy=>by by_cases hij:i=j;simp_all;simp[hij]at hy;exact⟨h.lines j y (by simp_all),h.coh j y (by simp_all)⟩
 exact⟨h.clen,h.cells,by rw[oLM];exact h.llen,λj y hy=>(key j y hy).1,λj y hy=>(key j y hy).2⟩
theorem Mc{cs xs:C_}{lo k:Nat}(h1:lo+4<=cs.length)(h3:4<=xs.length)(hk:k<lo\/lo+4<=k):(sm cs lo 4 xs)[k]?=cs[k]?:=by unfold sm;rcases hk with hk|hk;rw[List.append_assoc,oAL (by rw[oLT];omega),List.getElem?_take_of_lt hk];rw[oAR (by simp;omega),List.getElem?_drop];congr 1;simp;omega
theorem ND{K:Int->Prop}{cs xs:C_}{lo n:Nat}(h1:cs.length=512)(h2:lo+n<=512)(h3:n<=xs.length)(hc:∀c∈cs,oC K c)(hx:∀c∈xs,oC K c):(sm cs lo n xs).length=512/\∀c∈sm cs lo n xs,oC K c:=by unfold sm;refine⟨?_,λc hh=>?_⟩;simp;omega;simp only[oMA]at hh;rcases hh with(hh|hh)|hh;exact hc c (List.mem_of_mem_take hh);exact hx c (List.mem_of_mem_take hh);exact hc c (List.mem_of_mem_drop hh)
theorem LL{K:Int->Prop}{cs:C_}{ls:G_}{a:Int}(h:ld K cs ls)(ha:0<=a/\a<512):Ok (mU a cs ls) λr=>∃i Z5 Z3 x,r=(i,Z5,Z3,())/\ld K Z5 Z3/\Z3[i]?=some x/\x.1=a/4/\x.2.2.length=4:=by
 obtain⟨a0,a1⟩:=ha;obtain⟨h1,h2,h3,h4,h5⟩:=id h;unfold mU;rw[Int.tdiv_eq_ediv_of_nonneg a0,iG (x:=a/4)];dsimp only;rw[oTE (show 0<=a/4 by omega)];refine gW λi hi=>?_;have hil:i<ls.length:=by omega
 obtain⟨x,hx⟩:=gz ls i hil;have hg:fU ls i=some x:=hx;have hL:=h4 i x hx;simp only[hg,oBS];refine fT (λZ'=>?_) λZ'=>?_;refine fR ⟨i,cs,ls,x,rfl,h,hx,Z',?_⟩;rcases hL with⟨g1,_,_⟩|⟨_,_,_,g,_⟩;omega;exact g
 ·refine Ok.bind (P:=λr=>∃Z5,r=(a/4,i,Z5,ls,())/\Z5.length=512/\(∀c∈Z5,oC K c)/\∀(j:Nat) y,ls[j]?=some y->VF Z5 y) ?_ ?_
  ·refine gf (λhd=>?_) λ_=>fR ⟨cs,rfl,h1,h2,h5⟩
   rcases hL with⟨_,g,_⟩|⟨g1,g2,g3,g4,g5⟩
   ·rw[g]at hd;cases hd
   ·rw[iG (x:=x.1*4)];refine gW λq hq=>?_;refine fS (by unfold jl;simp;omega) ?_
    try simp only[hg,oBS]
    rw[g4,h1]
    have hmin:Nat.min 4 (Nat.sub 512 q)=4:=by
     show min 4 (512-q)=4;omega
    rw[hmin];refine fS (by unfold jl;simp;omega) ?_;refine fS rfl ?_;obtain⟨s1,s2⟩:=ND (lo:=q) (n:=4) h1 (by omega) (by omega) h2 g5;refine fR ⟨_,rfl,s1,s2,λj y hy=>?_⟩;by_cases hij:j=i
    ·subst hij;rw[hx]at hy
     injection hy with hy
     subst hy;exact .inr (.inl hd)
    ·rcases h5 j y hy with g|g|g
     ·exact .inl g
     ·exact .inr (.inl g)
     ·rcases h4 j y hy with⟨g',_,_⟩|⟨y1,y2,y3,y4,y5⟩
      ·exact .inl g'
      ·refine .inr (.inr λo ho=>?_);rw[Mc (by omega) (by omega) (by omega)];exact g o ho
  rintro _ ⟨Z5,rfl,c1,c2,c3⟩;dsimp only;rw[iG (x:=a/4*4),iG (x:=a/4+1),iG (x:=(a/4+1)*4)];simp only[hg,oBS];refine gP (by rw[oLM];exact hil) λ_ _=>?_;refine gW λq hq=>?_;refine gW λq2 Y6=>?_;refine fS (by unfold jl;simp;omega) ?_
  have hw:(oM Z5 q (Nat.sub q2 q)).length=4:=by
   unfold oM;rw[oLT,List.length_drop];show min (q2-q) _=4;omega
  refine fS (ge (by omega)) ?_;refine gP (by rw[oLM,oLM];exact hil) λ_ _=>?_;rw[lu,lu,show List.append [] (oM Z5 q (Nat.sub q2 q))=oM Z5 q (Nat.sub q2 q)from rfl];have Zs:ld K Z5 ls:=⟨c1,c2,h3,h4,c3⟩;refine fR ⟨i,Z5,_,_,rfl,Zs.line hx (.inr ⟨by dsimp only;omega,by dsimp only;omega,by dsimp only;omega,hw,λc hc=>c2 c ?_⟩) (.inr (.inr λo ho=>?_)),vq hx,rfl,hw⟩
  ·dsimp only at hc;unfold oM at hc;exact List.mem_of_mem_drop (List.mem_of_mem_take hc)
  ·dsimp only;unfold oM;rw[hq,oTN,List.getElem?_take_of_lt (show o<Nat.sub q2 q by show o<q2-q;omega),List.getElem?_drop]
theorem O4{K:Int->Prop}{cs:C_}{ls:G_}{a:Int}(h:ld K cs ls)(ha:0<=a/\a<512):Ok (qC a cs ls) λr=>∃t v Z5 Z3,r=(t,v,Z5,Z3,())/\oC K (t,v)/\ld K Z5 Z3:=by
 refine(LL h ha).bind ?_;rintro _ ⟨i,Z5,Z3,x,rfl,hm,hx,Z0,Ym⟩;have hg:fU Z3 i=some x:=hx;simp[hg];rw[oTE ha.1];refine gW λj hj=>?_;refine f7 λ_ _=>?_;refine f7 λc hc=>?_;have ZH:oC K c:=by rcases hm.lines i x hx with⟨_,_,g⟩|⟨_,_,_,_,g⟩;omega;exact g c (f8 hc)
 exact fR ⟨_,_,_,_,rfl,ZH,hm⟩
theorem yP{K:Int->Prop}{cs:C_}{ls:G_}{a t v:Int}(h:ld K cs ls)(ha:0<=a/\a<512)(hc:oC K (t,v)):Ok (mS a t v cs ls) λr=>∃Z5 Z3,r=(Z5,Z3,())/\ld K Z5 Z3:=by refine(LL h ha).bind ?_;rintro _ ⟨i,Z5,Z3,x,rfl,hm,hx,Z0,Ym⟩;have hg:fU Z3 i=some x:=hx;have hil:=(oGS hx).1;simp[hg];rw[oTE ha.1];refine gW λj hj=>?_;refine f7 λ_ _=>?_;refine f7 λ_ _=>?_;refine gP (by simp_all) λ_ _=>?_;rw[lu];refine fR ⟨_,_,rfl,hm.line hx ?_ (.inr (.inl rfl))⟩;rcases hm.lines i x hx with⟨_,_,g⟩|⟨g1,g2,g3,g4,g5⟩;omega;exact .inr ⟨g1,g2,g3,by simp_all,iO g5 λ_ _=>hc⟩
theorem rX(x:Int):W16 (wk .u16 x):=by unfold wk;rw[EF];exact⟨by omega,by omega⟩
theorem RR{ss bs:M_}{key t v t' v':Int}(h:LV bs ss)(hv:W16 v)(YF:W16 v'):Ok (mQ bs key ss t v t' v') λ_=>True:=by obtain⟨v0,v1⟩:=hv;obtain⟨u0,u1⟩:=YF;unfold mQ;rw[gi (x:=v) (by omega) (by omega),gi (by omega) (by omega)];refine(yW h ⟨v0,v1⟩).bind ?_;rintro⟨r,o,ok,_⟩ _;refine(yW h ⟨u0,u1⟩).bind ?_;rintro⟨r',o',ok',_⟩ _;cases ok<;>cases ok'<;>exact fR trivial
theorem KA(b:Bool):mq b=some (0,(bif b then 1 else 0),()):=by cases b<;>rfl
theorem UQ{op b c:Int}(hb:W16 b)(hc:W16 c):Ok (mP op b c) λr=>∃v e,r=(0,v,e,())/\W16 v/\0<=e/\e<=6:=by
 obtain⟨b0,b1⟩:=hb;obtain⟨c0,c1⟩:=hc;have ZT:∀x:Int,W16 x->Ok (some ((0:Int),x,(0:Int),())) λr=>∃v e,r=(0,v,e,())/\W16 v/\0<=e/\e<=6:=λx h=>fR ⟨x,0,rfl,h,by decide,by decide⟩;have z5:Ok (some ((0:Int),(0:Int),(5:Int),())) λr=>∃v e,r=(0,v,e,())/\W16 v/\0<=e/\e<=6:=fR ⟨0,5,rfl,⟨by decide,by decide⟩,by decide,by decide⟩;have hw:=rX;unfold mP;refine fT (λZ'=>?_) λZ'=>?_;exact ZT _ (rX _);refine fT (λZ1=>?_) λZ1=>?_;exact ZT _ (rX _);refine fT (λhcc=>?_) λhcc=>?_;exact ZT _ (rX _);have hq:∀X:Option (Int×Int×Int×Unit),c≠0->(X=(bif(op==6)then(bif(c != 0)then some ((0:Int),wk .u16 (Int.tdiv b c),(0:Int),())else none)else bif(c != 0)then some ((0:Int),Int.tmod b c,(0:Int),())else none))->Ok X λr=>∃v e,r=(0,v,e,())/\W16 v/\0<=e/\e<=6:=by rintro _ hne rfl;refine gf (λ_=>fS (by rw[bne_iff_ne];exact hne) (ZT _ (rX _))) λ_=>fS (by rw[bne_iff_ne];exact hne) (ZT _ ?_);rw[oTE b0];have h1:=Int.emod_nonneg b hne;have h2:=Int.emod_lt_of_pos b (show 0<c by omega);exact⟨h1,by omega⟩
 refine fT (λXE=>?_) λXE=>?_;refine fT (λXo=>?_) λXo=>?_;exact z5;simp_all;refine fT (λXE=>?_) λXE=>?_;refine fT (λXo=>?_) λXo=>?_;exact z5;simp_all;refine fT (λhcf=>?_) λhcf=>?_;exact ZT _ (hw _);refine fT (λhcf=>?_) λhcf=>?_;exact ZT _ (hw _);refine fT (λhcf=>?_) λhcf=>?_;exact ZT _ (hw _);refine fT (λhcf=>?_) λhcf=>?_;rw[oTE c0];refine gW λj hj=>?_;exact ZT _ (hw _);refine fT (λhcf=>?_) λhcf=>?_;rw[oTE c0];refine gW λj hj=>ZT _ ?_;show W16 (Int.fdiv b (2 ^ (min j 16)));have hp:(0:Int)<2 ^ (min j 16):=Int.pow_pos (by decide);rw[Int.fdiv_eq_ediv_of_nonneg _ (by omega)];exact⟨Int.ediv_nonneg b0 (by omega),by have:=Int.ediv_le_self (2 ^ (min j 16)) b0;omega⟩;rw[KA];refine ZT _ ?_;cases decide (b<c);exact⟨by decide,by decide⟩;exact⟨by decide,by decide⟩
def SG(K:Int->Prop)(r:Int×Int×Int×Unit):Prop:=∃t v e,r=(t,v,e,())/\oC K (t,v)/\0<=e/\e<=6
theorem ur{K:Int->Prop}{t v e:Int}(h:oC K (t,v))(h0:0<=e)(h1:e<=6):Ok (some (t,v,e,())) (SG K):=fR ⟨t,v,e,rfl,h,h0,h1⟩
theorem A6{K:Int->Prop}{v:Int}(h:W16 v):oC K (0,v):=kF h
theorem Jd{K:Int->Prop}(b:Bool):oC K (0,bif b then 1 else 0):=A6 (by cases b<;>exact⟨by decide,by decide⟩)
theorem wZ{K:Int->Prop}:oC K (0,0):=A6 ⟨by decide,by decide⟩
theorem VT{ss bs:M_}{key op t v t' v':Int}(h:LV bs ss)(hb:oC (RK bs ss) (t,v))(hc:oC (RK bs ss) (t',v')):Ok (vf bs key ss op t v t' v') (SG (RK bs ss)):=by
 obtain⟨t0,t2,v0,v1,_⟩:=hb;obtain⟨u0,u2,w0,w1,_⟩:=hc;dsimp only at t0 t2 v0 v1 u0 u2 w0 w1;obtain⟨_,eN,n1,n2,rfl,WF,hn2,hn3⟩:=UQ (op:=op) (b:=v) (c:=v') ⟨v0,v1⟩ ⟨w0,w1⟩;obtain⟨_,eA,a1,a2,a3,rfl,Ys,X0,ha3,_⟩:=BI (key:=key) (tag:=t) (back:=false) h (v:=v) (n:=v') ⟨v0,v1⟩ ⟨w0,w1⟩;obtain⟨_,eB,b1,b2,b3,rfl,ZI,ZP,hb3,_⟩:=BI (key:=key) (tag:=t') (back:=false) h (v:=v') (n:=v) ⟨w0,w1⟩ ⟨v0,v1⟩;obtain⟨_,eC,c1,c2,c3,rfl,ZL,ZH,hc3,_⟩:=BI (key:=key) (tag:=t) (back:=true) h (v:=v) (n:=v') ⟨v0,v1⟩ ⟨w0,w1⟩;obtain⟨⟨p1,p2,p3,p4,ok,_⟩,eP,_⟩:=RR (key:=key) (t:=t) (t':=t') h (v:=v) (v':=v') ⟨v0,v1⟩ ⟨w0,w1⟩;unfold vf;refine fT (λZ'=>?_) λZ'=>?_;exact ur wZ (by decide) (by decide);refine fT (λZ1=>?_) λZ1=>?_;exact ur wZ (by decide) (by decide);cases h14:(op==14)with
 |true=>simp only[oCT,KA,oBS];exact ur (Jd _) (by decide) (by decide)|false=>
 simp only[oCF,eN,eA,eB,eC,eP,oBS];rcases(show t=0\/t=1\/t=2 by omega)with rfl|rfl|rfl<;>rcases(show t'=0\/t'=1\/t'=2 by omega)with rfl|rfl|rfl
 all_goals cases h3:(op==3)<;>cases h4:(op==4)<;>cases h13:(op==13)<;>simp only[Int.reduceBEq,oCT,oCF,oBS,h3,h4,h13,KA,eN,eA,eB,eC,eP,BEq.rfl]
 all_goals first
  |exact ur (A6 WF) hn2 hn3
  |exact ur Ys X0 ha3
  |exact ur ZI ZP hb3
  |exact ur ZL ZH hc3
  |exact ur wZ (by decide) (by decide)
  |(cases ok<;>first
   |exact ur wZ (by decide) (by decide)
   |exact ur (Jd _) (by decide) (by decide)
   |exact ur (A6 (rX _)) (by decide) (by decide))
theorem PN{l:M_}{k:Int}(h:DOk l k):Ok (pd l k) λr=>∃t b s k',r=(t,b,s,l,k',())/\0<=t/\t<4/\0<=b/\b<=63/\DOk l k':=by
 unfold pd;refine gM (by omega) (by omega) (by omega) λv0 k0 a0 b0 d0=>?_;try dsimp only
 refine gM (by omega) (by omega) (by omega) λv1 k1 a1 b1 d1=>?_;try dsimp only
 refine ju (by omega) λj1 hj1=>?_;try dsimp only
 have hm:∀x∈[(0:Int),1,2,3,7,63],0<=x/\x<=63:=by simp_all
 refine gP (by simp;omega) λx hx=>?_;refine gP (by simp;omega) λy hy=>?_;have WK:=hm y (f8 hy);refine gM (by omega) (by omega) (by omega) λv2 k2 a2 b2 d2=>?_;try dsimp only
 exact fR ⟨_,_,_,_,rfl,a0,b0,WK.1,WK.2,d2⟩
def kD:J_->Int->M_| [],_=>[]|t::ts,i=>if t.1=1 then i::kD ts (i+1)else kD ts (i+1)
theorem EQ(a b:J_)(i:Int):kD (a++b) i=kD a i++kD b (i+a.length):=by induction a generalizing i with|nil=>simp[kD]|cons t a ih=>simp[kD,ih];rw[show i+1+(a.length:Int)=i+((a.length+1:Nat):Int) by omega];split<;>rfl
theorem Ec(a:J_)(i:Int):(kD a i).length<=a.length:=by induction a generalizing i with|nil=>simp[kD]|cons t a ih=>simp[kD];have:=ih (i+1);split<;>simp<;>omega
theorem Mw{a:J_}{i x:Int}(h:x∈kD a i):i<=x/\x<i+a.length/\∃t,a[(x-i).toNat]?=some t/\t.1=1:=by
 induction a generalizing i with
 |nil=>simp[kD]at h|cons t a ih=>
 simp[kD]at h;have key:x∈kD a (i+1)->i<=x/\x<i+((t::a).length:Int)/\∃t',(t::a)[(x-i).toNat]?=some t'/\t'.1=1:=by intro h;have ⟨h1,h2,t',h3,h4⟩:=ih h;refine⟨by omega,by simp;omega,t',?_,h4⟩;rw[show(x-i).toNat=(x-(i+1)).toNat+1 by omega,List.getElem?_cons_succ];exact h3
 split at h;rename_i ht;rcases oMC.1 h with rfl|h;exact⟨by omega,by simp;omega,t,by simp,ht⟩;exact key h;exact key h
theorem QT{ts:J_}(h:ts.length<=1000):oW ts=some (kD ts 0,()):=by
 have e:gd ke NN (ts,(ts.length:Int),0,[],())=some (ts,(ts.length:Int),(ts.length:Int),false,kD ts 0,()):=by
  have:=nz (f:=ke) (N:=NN) (st:=λk=>(ts,(ts.length:Int),(k:Int),kD (ts.take k) 0,())) (n:=ts.length) (t:=(ts,(ts.length:Int),(ts.length:Int),false,kD ts 0,())) (by unfold NN;omega) ?_ ?_;exact this;intro k hk;unfold ke;dsimp only;refine fT (λZ'=>?_) λZ'=>?_;rw[fY];simp;obtain⟨x,hx⟩:=gz ts k hk;rw[show fU ts k=some x from hx];simp;have hlen:=Ec (ts.take k) 0;rw[oLT]at hlen;have hnext:kD (ts.take (k+1)) 0=kD (ts.take k) 0++(if x.1=1 then[(k:Int)]else[]):=by rw[List.take_add_one,hx,EQ];congr 1;rw[oLT,show 0+((min k ts.length:Nat):Int)=(k:Int) by omega];simp only[Option.toList,kD]
  refine Ok.bind (P:=(·=(ts,(ts.length:Int),(k:Int),kD (ts.take (k+1)) 0,()))) ?_ ?_;refine fT (λZ1=>?_) λZ1=>?_;refine fS (ge (by simp;omega)) ?_;rw[hnext,oIP Z1];exact fR rfl;rw[hnext,oIN Z1,List.append_nil];exact fR rfl;rintro _ rfl
  (simp (disch:=omega) only [gG,gr,gi,gg])
  exact fR rfl;omega;unfold ke;dsimp only;refine fT (λZ'=>?_) λZ'=>?_;omega;rw[List.take_length];exact fR rfl
 refine gV ?_;unfold oW;delta fZ;try dsimp only
 rw[e];exact fR rfl
theorem Cz{ow:M_}{qs:j_}(h:kz ow qs):oj ow qs=some (ow,qs,()):=by
 have hq4:∀q∈qs,q.length<=4:=λq hq=>h.qlen4 hq;obtain⟨h1,h2,h3,h4⟩:=h;have e:gd kO NN (qs,(qs.length:Int),0,ow,qs,(),(),ow,[],())=some (qs,(qs.length:Int),(qs.length:Int),false,ow,qs,(),(),ow,qs,()):=by
  have:=nz (f:=kO) (N:=NN) (st:=λk=>(qs,(qs.length:Int),(k:Int),ow,qs,(),(),ow,qs.take k,())) (n:=qs.length) (t:=(qs,(qs.length:Int),(qs.length:Int),false,ow,qs,(),(),ow,qs,())) (by unfold NN;omega) ?_ ?_;exact this;intro k hk;unfold kO;refine fT (λZ'=>?_) λZ'=>?_;rw[fY];refine f7 λx hx=>?_;have:=hq4 x (f8 hx);refine fS (ge (by omega)) (fS (ge (by simp;omega)) ?_)
  (simp (disch:=omega) only [gG,gr,gi,gg])
  refine fR ?_;rw[List.take_add_one,hx];rfl;omega;unfold kO;refine fT (λZ'=>?_) λZ'=>?_;omega;rw[List.take_length];exact fR rfl
 refine gV ?_;refine fS (ge (by omega)) ?_;rw[show List.append [] ow=ow from rfl];delta fZ;try dsimp only
 rw[e];exact fR rfl
theorem Eg{q:M_}{x:Int}(h:q.Nodup)(hx:x ∉ q):(q++[x]).Nodup:=by grind
theorem gu{α:Type}{l:List α}{i:Nat}{a:α}(h:l[i]?=some a)(f:α->α):List.modify l i f=l.set i (f a):=by apply oEG;grind
theorem iw{α:Type}{l:List α}{i:Nat}(h:i<l.length)(a:α):fU (l.set i a) i=some a:=by show(l.set i a)[i]?=some a;simp_all
theorem pG{α:Type}{l:List α}{i:Nat}(h:i<l.length)(a:α)(f:α->α):List.modify (l.set i a) i f=l.set i (f a):=by rw[gu (iw h a),List.set_set]
theorem jX{α:Type}{P:α->Prop}{l:List α}{i:Nat}{a:α}(h:∀x∈l,P x)(ha:P a):∀x∈l.set i a,P x:=by grind
theorem MOk.set{n:Int}{ss bs:M_}{cs Z5:C_}{ls Z3:G_}{ts:J_}(h:MOk n ss bs cs ls ts)(hm:ld (RK bs ss) Z5 Z3){i:Nat}{t:DTh}(ht:Bk (RK bs ss) n t):MOk n ss bs Z5 Z3 (ts.set i t):=⟨h.lay,hm,by rw[oLS];exact h.tlen,jX h.thr ht⟩
def Ww(code:F_)(t:DTh)(s:Int)(t':DTh):Prop:=
 (s=-1/\t'.1=1/\((t'.2.2.2.1=t.2.2.2.1/\t'.2.2.1=t.2.2.1+1)\/t'.2.2.2.1=t.2.2.2.1+1))\/(s=2/\t'.1=4/\t'.2.2.2.1=t.2.2.2.1)\/
  (s=1/\t'.1=2/\t'.2.2.2.1=t.2.2.2.1/\∃i:DIn,1<=t'.2.2.1/\code[(t'.2.2.1-1).toNat]?=some i/\i.1=23)
def KW(n key:Int)(code:F_)(ss bs:M_)(ts:J_)(i:Nat)(t:DTh)(r:Int×M_×Int×C_×G_×J_×Unit):Prop:=∃s Z5 Z3 t',r=(s,bs,key,Z5,Z3,ts.set i t',())/\ld (RK bs ss) Z5 Z3/\Bk (RK bs ss) n t'/\Ww code t s t'
theorem p5{n key:Int}{code:F_}{ss bs:M_}{ts:J_}{i:Nat}{t t':DTh}{Z5:C_}{Z3:G_}(hm:ld (RK bs ss) Z5 Z3)(ht:Bk (RK bs ss) n t')(h1:t'.1=1)
 (h:(t'.2.2.2.1=t.2.2.2.1/\t'.2.2.1=t.2.2.1+1)\/t'.2.2.2.1=t.2.2.2.1+1):Ok (some (-1,bs,key,Z5,Z3,ts.set i t',())) (KW n key code ss bs ts i t):=fR ⟨_,_,_,_,rfl,hm,ht,.inl ⟨rfl,h1,h⟩⟩
theorem pf{n key W5:Int}{code:F_}{ss bs:M_}{ts:J_}{i:Nat}{t:DTh}{Z5:C_}{Z3:G_}(hm:ld (RK bs ss) Z5 Z3)(ht:Bk (RK bs ss) n t)(hw:0<=W5/\W5<=6):
 Ok (some (2,bs,key,Z5,Z3,ts.set i (4,t.2.1,t.2.2.1,t.2.2.2.1,t.2.2.2.2.1,t.2.2.2.2.2.1,W5,0),())) (KW n key code ss bs ts i t):=fR ⟨_,_,_,_,rfl,hm,ht.ended hw,.inr (.inl ⟨rfl,rfl,rfl⟩)⟩
theorem kj(op:Int):nX op=some (nO op||op==22||op==24,()):=by unfold nX;rw[wN];grind
set_option maxHeartbeats 4000000 in
theorem UP{n key:Int}{code:F_}{ss bs:M_}{d:j_}{cs:C_}{ls:G_}{ts:J_}{i:Nat}{t:DTh}(hp:jP code ss d)(h:MOk n ss bs cs ls ts)(ht:ts[i]?=some t)(hs:t.1=1) (hc:t.2.2.2.1+1<=n)(hn:n<=1099511627776):Ok (sb code ss d (i:Int) bs key cs ls ts) (KW n key code ss bs ts i t):=by
 have hok:=h.thr t (f8 ht);have hm:=h.mem;obtain⟨_,hl,hr,⟨p0,p1⟩,⟨c0,c1⟩,ha,⟨s0,s1⟩,⟨r0,r1⟩,hco⟩:=id hok;obtain⟨st,rs,pc,ct,hd,sa,tr,co⟩:=t;dsimp only at *;subst hs;have hil:=(oGS ht).1;have hg:fU ts i=some (1,rs,pc,ct,hd,sa,tr,co):=ht;have e1:∀f:DTh->DTh,List.modify ts i f=ts.set i (f (1,rs,pc,ct,hd,sa,tr,co)):=λf=>gu ht f;have e2:∀x,fU (ts.set i x) i=some x:=λx=>iw hil x;have e3:∀(x:DTh)(f:DTh->DTh),List.modify (ts.set i x) i f=ts.set i (f x):=λx f=>pG hil x f;have eT:∀W5,iv (i:Nat) W5 ts=some (2,ts.set i (4,rs,pc,ct,hd,sa,W5,0),()):=λW5=>by rw[SN (n:=n) ht,e1]
 have mk:∀{rs':C_}{pc' ct' sa':Int},rs'.length=8->(∀c∈rs',oC (RK bs ss) c)->0<=pc'/\pc'<=255->0<=ct'/\ct'<=n->-1<=sa'/\sa'<=255->Bk (RK bs ss) n (1,rs',pc',ct',hd,sa',tr,co):=λh1 h2 h3 h4 h5=>⟨⟨show(0:Int)<=1 by decide,show(1:Int)<=4 by decide⟩,h1,h2,h3,h4,ha,h5,⟨r0,r1⟩,hco⟩;unfold sb;rw[fY];delta fZ;simp only[hg,oBS];refine fT (λZ'=>?_) λZ'=>?_;rw[eT 2];exact pf hm hok (by decide);refine ju p0 λj hj=>?_;subst hj;have Y4:=hp.clen;refine f7 λx hx=>?_;obtain⟨op,A,B,C,I⟩:=x;obtain⟨⟨o0,o1⟩,⟨A0,A1,_⟩,⟨B0,B1,_⟩,⟨C0,C1,_⟩,⟨I0,I1,_⟩,hlea,hsys,hjmp⟩:=hp.ins _ (f8 hx);dsimp only at *;obtain⟨A,rfl⟩:∃k:Nat,A=k:=⟨A.toNat,by omega⟩;obtain⟨B,rfl⟩:∃k:Nat,B=k:=⟨B.toNat,by omega⟩;obtain⟨C,rfl⟩:∃k:Nat,C=k:=⟨C.toNat,by omega⟩;obtain⟨I,rfl⟩:∃k:Nat,I=k:=⟨I.toNat,by omega⟩;obtain⟨⟨ta,va⟩,gA⟩:∃c,fU rs A=some c:=⟨_,oGE (by omega)⟩;obtain⟨⟨tb,vb⟩,gB⟩:∃c,fU rs B=some c:=⟨_,oGE (by omega)⟩;obtain⟨⟨tc,vc⟩,gC⟩:∃c,fU rs C=some c:=⟨_,oGE (by omega)⟩;have cA:=hr _ (f8 gA);have cB:=hr _ (f8 gB);have cC:=hr _ (f8 gC);have eR:∀f:DCe->DCe,List.modify rs A f=rs.set A (f (ta,va)):=λf=>gu gA f;have w1:w64 ((j:Int)+1)=(j:Int)+1:=gG (by omega) (by omega);have wI:wk .u16 (I:Int)=I:=gr (by omega) (by omega);have Zc:∀{c:DCe},oC (RK bs ss) c->(rs.set A c).length=8/\∀x∈rs.set A c,oC (RK bs ss) x:=λhc=>⟨by rw[oLS];exact hl,jX hr hc⟩;have wc:w64 (ct+1)=ct+1:=gG (by omega) (by omega);simp only[fY,hg,gA,gB,oBS,w1,wI];rcases(show op=0\/op=1\/op=2\/op=15\/op=16\/op=17\/op=18\/op=19\/op=20\/op=21\/op=22\/op=23\/op=24\/(3<=op/\op<=14) by omega)with rfl|rfl|rfl|rfl|rfl|rfl|rfl|rfl|rfl|rfl|rfl|rfl|rfl|⟨q0,q1⟩;all_goals try simp only[Int.reduceBEq,oCT,oCF,fY,hg,gA,gB,gC,e1,e2,e3,eR,eT,oBS,w1,wI,wc,kj,nO,Bool.or_false,Bool.or_true,Bool.or_self,oBN]
 exact p5 hm (mk hl hr (by omega) (by omega) (by omega)) rfl (.inl ⟨rfl,rfl⟩);exact p5 hm (mk (Zc (kF (by omega))).1 (Zc (kF (by omega))).2 (by omega) (by omega) (by omega)) rfl (.inl ⟨rfl,rfl⟩);exact p5 hm (mk (Zc cB).1 (Zc cB).2 (by omega) (by omega) (by omega)) rfl (.inl ⟨rfl,rfl⟩);have hI:=hlea rfl;have hbl:=h.lay.2.1;obtain⟨b,hb⟩:=gz bs I (by omega);obtain⟨z,hz⟩:=gz ss I (by omega);have Yj:=h.lay.2.2 I (by omega);unfold wY at Yj;rw[gw hb,gw hz]at Yj;have Xm:=h.lay.1.2.2 z (f8 hz);have wb:wk .u16 b=b:=gr (by omega) (by omega);have gb:fU bs I=some b:=hb;simp only[gb,wb,Int.reduceBEq,oCT,oCF,fY,hg,gA,gB,gC,e1,e2,e3,eR,eT,oBS,w1,wI,wc,kj,nO,Bool.or_false,Bool.or_true,Bool.or_self,oBN];have Z1:oC (RK bs ss) (1,b):=⟨by dsimp only;omega,by dsimp only;omega,by dsimp only;omega,by dsimp only;omega,λ_=>⟨I,b,z,hb,hz,by dsimp only;omega,by dsimp only;omega⟩⟩;exact p5 hm (mk (Zc Z1).1 (Zc Z1).2 (by omega) (by omega) (by omega)) rfl (.inl ⟨rfl,rfl⟩);obtain⟨_,em,t1,x1,e,rfl,ZL,he0,he6,O'⟩:=BI (key:=key) (tag:=tb) (v:=vb) (n:=(I:Int)) (back:=false) h.lay ⟨cB.2.2.1,cB.2.2.2.1⟩ ⟨by omega,by omega⟩;simp only[em,oBS];by_cases hne:e=0;subst hne;have wx:wk .i64 x1=x1:=gi (by have:=ZL.2.2.1;dsimp only at this;omega) (by have:=ZL.2.2.2.1;dsimp only at this;omega);obtain⟨_,el,t2,x2,cs2,ls2,rfl,ZH,hm2⟩:=O4 (a:=x1) hm ⟨ZL.2.2.1,O' rfl⟩;simp only[wx,el,Int.reduceBEq,oCT,oCF,fY,hg,gA,gB,gC,e1,e2,e3,eR,eT,oBS,w1,wI,wc,kj,nO,Bool.or_false,Bool.or_true,Bool.or_self,oBN];exact p5 hm2 (mk (Zc ZH).1 (Zc ZH).2 (by omega) (by omega) (by omega)) rfl (.inl ⟨rfl,rfl⟩);simp only[bne_iff_ne.2 hne,oCT];exact pf hm hok ⟨he0,he6⟩;obtain⟨_,em,t1,x1,e,rfl,ZL,he0,he6,O'⟩:=BI (key:=key) (tag:=ta) (v:=va) (n:=(I:Int)) (back:=false) h.lay ⟨cA.2.2.1,cA.2.2.2.1⟩ ⟨by omega,by omega⟩;simp only[em,oBS];by_cases hne:e=0;subst hne;have wx:wk .i64 x1=x1:=gi (by have:=ZL.2.2.1;dsimp only at this;omega) (by have:=ZL.2.2.2.1;dsimp only at this;omega);obtain⟨_,el,cs2,ls2,rfl,hm2⟩:=yP (a:=x1) (t:=tb) (v:=vb) hm ⟨ZL.2.2.1,O' rfl⟩ cB;simp only[wx,el,Int.reduceBEq,oCT,oCF,fY,hg,gA,gB,gC,e1,e2,e3,eR,eT,oBS,w1,wI,wc,kj,nO,Bool.or_false,Bool.or_true,Bool.or_self,oBN];exact p5 hm2 (mk hl hr (by omega) (by omega) (by omega)) rfl (.inl ⟨rfl,rfl⟩);simp only[bne_iff_ne.2 hne,oCT];exact pf hm hok ⟨he0,he6⟩;have:=hjmp (by decide);exact p5 hm (mk hl hr (by omega) (by omega) (by omega)) rfl (.inr rfl);have:=hjmp (by decide);by_cases hta:ta=0;subst hta;cases va==0 with|true=>simp only[BEq.rfl,Int.reduceBEq,oCT,oCF,fY,hg,gA,gB,gC,e1,e2,e3,eR,eT,oBS,w1,wI,wc,kj,nO,Bool.or_false,Bool.or_true,Bool.or_self,oBN];exact p5 hm (mk hl hr (by omega) (by omega) (by omega)) rfl (.inr rfl)|false=>simp only[show(false==true)=false from rfl,Int.reduceBEq,oCT,oCF,fY,hg,gA,gB,gC,e1,e2,e3,eR,eT,oBS,w1,wI,wc,kj,nO,Bool.or_false,Bool.or_true,Bool.or_self,oBN];exact p5 hm (mk hl hr (by omega) (by omega) (by omega)) rfl (.inr rfl)
 simp only[bne_iff_ne.2 hta,oCT];exact pf hm hok (by decide);have:=hjmp (by decide);by_cases hta:ta=0;subst hta;cases va==0 with|true=>simp only[show(true==false)=false from rfl,Int.reduceBEq,oCT,oCF,fY,hg,gA,gB,gC,e1,e2,e3,eR,eT,oBS,w1,wI,wc,kj,nO,Bool.or_false,Bool.or_true,Bool.or_self,oBN];exact p5 hm (mk hl hr (by omega) (by omega) (by omega)) rfl (.inr rfl)|false=>simp only[BEq.rfl,Int.reduceBEq,oCT,oCF,fY,hg,gA,gB,gC,e1,e2,e3,eR,eT,oBS,w1,wI,wc,kj,nO,Bool.or_false,Bool.or_true,Bool.or_self,oBN];exact p5 hm (mk hl hr (by omega) (by omega) (by omega)) rfl (.inr rfl)
 simp only[bne_iff_ne.2 hta,oCT];exact pf hm hok (by decide);have:=hjmp (by decide);have wj:wk .u16 ((j:Int)+1)=(j:Int)+1:=gr (by omega) (by omega);rw[wj];exact p5 hm (mk (Zc (kF (by omega))).1 (Zc (kF (by omega))).2 (by omega) (by omega) (by omega)) rfl (.inr rfl);by_cases hta:ta=0;subst hta;have wa:wk .i64 va=va:=gi (by have:=cA.2.2.1;dsimp only at this;omega) (by have:=cA.2.2.2.1;dsimp only at this;omega);have a0:=cA.2.2.1;dsimp only at a0;by_cases hva:va>255;simp only[oDT hva,oBN,oCT,oCF];exact pf hm hok (by decide);simp only[oDF hva,wa,Int.reduceBEq,oCT,oCF,fY,hg,gA,gB,gC,e1,e2,e3,eR,eT,oBS,w1,wI,wc,kj,nO,Bool.or_false,Bool.or_true,Bool.or_self,oBN];exact p5 hm (mk hl hr (by omega) (by omega) (by omega)) rfl (.inr rfl);simp only[bne_iff_ne.2 hta,oCT];exact pf hm hok (by decide);refine fR ⟨_,_,_,_,rfl,hm,⟨⟨show(0:Int)<=2 by decide,show(2:Int)<=4 by decide⟩,hl,hr,⟨by dsimp only;omega,by dsimp only;omega⟩,⟨c0,by dsimp only;omega⟩,ha,⟨s0,s1⟩,⟨r0,r1⟩,hco⟩,.inr (.inr ⟨rfl,rfl,rfl,(23,(A:Int),(B:Int),(C:Int),(I:Int)),by dsimp only;omega,?_,rfl⟩)⟩;dsimp only;rw[show(j:Int)+1-1=(j:Int) by omega,oTN];exact hx;by_cases hsa:sa=-1;simp only[beq_iff_eq.2 hsa,oCT];exact pf hm hok (by decide);simp only[oBF hsa,Int.reduceBEq,oCT,oCF,fY,hg,gA,gB,gC,e1,e2,e3,eR,eT,oBS,w1,wI,wc,kj,nO,Bool.or_false,Bool.or_true,Bool.or_self,oBN];exact p5 hm (mk hl hr (by omega) (by omega) (by omega)) rfl (.inr rfl);obtain⟨_,ed,t1,x1,e,rfl,ZL,he0,he6⟩:=VT (key:=key) (op:=op) h.lay cB cC;have n0:(op==0)=false:=oBF (by omega);have n1:(op==1)=false:=oBF (by omega);have n2:(op==2)=false:=oBF (by omega);have n15:(op==15)=false:=oBF (by omega);have n16:(op==16)=false:=oBF (by omega);have n17:(op==17)=false:=oBF (by omega);have n18:(op==18)=false:=oBF (by omega);have n19:(op==19)=false:=oBF (by omega);have n20:(op==20)=false:=oBF (by omega);have n21:(op==21)=false:=oBF (by omega);have n22:(op==22)=false:=oBF (by omega);have n23:(op==23)=false:=oBF (by omega);have n24:(op==24)=false:=oBF (by omega);simp only[n0,n1,n2,n15,n16,n17,n18,n19,n20,n21,n22,n23,n24,ed,Int.reduceBEq,oCT,oCF,fY,hg,gA,gB,gC,e1,e2,e3,eR,eT,oBS,w1,wI,wc,kj,nO,Bool.or_false,Bool.or_true,Bool.or_self,oBN];by_cases hne:e=0;subst hne;simp only[n18,n19,n20,n21,n22,n24,Int.reduceBEq,oCT,oCF,fY,hg,gA,gB,gC,e1,e2,e3,eR,eT,oBS,w1,wI,wc,kj,nO,Bool.or_false,Bool.or_true,Bool.or_self,oBN];exact p5 hm (mk (Zc ZL).1 (Zc ZL).2 (by omega) (by omega) (by omega)) rfl (.inl ⟨rfl,rfl⟩);simp only[bne_iff_ne.2 hne,oCT];exact pf hm hok ⟨he0,he6⟩
theorem Bk.mono{K:Int->Prop}{n m:Int}{t:DTh}(h:Bk K n t)(hm:n<=m):Bk K m t:=⟨h.state,h.len,h.regs,h.pc,⟨h.count.1,by have:=h.count.2;omega⟩,h.handler,h.saved,h.trap,h.code⟩
theorem MOk.mono{n m:Int}{ss bs:M_}{cs:C_}{ls:G_}{ts:J_}(h:MOk n ss bs cs ls ts)(hm:n<=m):MOk m ss bs cs ls ts:=⟨h.lay,h.mem,h.tlen,λt ht=>(h.thr t ht).mono hm⟩
theorem EK{α:Type}{l:List α}{i:Nat}{a:α}(h:l[i]?=some a):l.set i a=l:=by apply oEG;grind
def Wa(code:F_)(s:Int)(t':DTh):Prop:=(s=0/\t'.1=1)\/(s=2/\t'.1=4)\/(s=1/\t'.1=2/\∃i:DIn,1<=t'.2.2.1/\code[(t'.2.2.1-1).toNat]?=some i/\i.1=23)
def Uc(n key:Int)(code:F_)(ss bs:M_)(ts:J_)(i:Nat)(r:M_×Int×C_×G_×J_×Int×Int×Unit):Prop:=∃s Z5 Z3 t',r=(bs,key,Z5,Z3,ts.set i t',s,0,())/\ld (RK bs ss) Z5 Z3/\Bk (RK bs ss) n t'/\((s=3/\ts[i]?=some t'/\t'.1≠1)\/Wa code s t')
abbrev g_:=List v_
def VJ(i:Nat)(s:Int×Int×F_×v_×g_×Unit×Int×Unit×Unit×Unit×v_×Int×C_×G_×J_×Unit):Nat:=match s.2.2.2.2.2.2.2.2.2.2.2.2.2.2.1[i]? with|some t=>((s.2.1-t.2.2.2.1)*256+(255-t.2.2.1)).toNat|none=>0
theorem JE{i:Nat}{a b k:Int}{code:F_}{ss bs:M_}{d:j_}{cs:C_}{ls:G_}{ts:J_}{t:DTh}(h:ts[i]?=some t):VJ i (a,b,code,ss,d,(),0,(),(),(),bs,k,cs,ls,ts,())=((b-t.2.2.2.1)*256+(255-t.2.2.1)).toNat:=by unfold VJ;simp_all
theorem Qk{n key k:Int}{code:F_}{ss bs:M_}{d:j_}{cs:C_}{ls:G_}{ts:J_}{i:Nat}(hp:jP code ss d)(h:MOk n ss bs cs ls ts)(hn0:0<=n)(hn:n+64<=1099511627776)(hi:i<4)(hk:1<=k/\k<=64):Ok (oU code ss d bs key cs ls ts (i:Int) k) (Uc (n+64) key code ss bs ts i):=by
 have Yl:=h.tlen;obtain⟨t,ht⟩:=gz ts i (by omega);have hg:fU ts i=some t:=ht;have hil:i<ts.length:=by omega
 have hok:=h.thr t (f8 ht);unfold oU;rw[u4 hp h (by omega)];simp;rw[oDF (show ¬(i:Int)<0 by omega),oDF (show ¬(i:Int)>=4 by omega),oDF (show ¬k<1 by omega),oDF (show ¬k>64 by omega)];simp only[oBS,oCF,ut h,fY,hg];refine fT (λZ'=>?_) λZ'=>?_;refine fR ⟨3,cs,ls,t,?_,h.mem,hok.mono (by omega),.inl ⟨rfl,ht,Z'⟩⟩;rw[EK ht];have hct:=hok.count;have hpc:=hok.pc;rw[iG (x:=t.2.2.2.1+k)];refine gQ (P:=λs'=>∃Z5 Z3 t',s'=((i:Int),t.2.2.2.1+k,code,ss,d,(),0,(),(),(),bs,key,Z5,Z3,ts.set i t',())/\ld (RK bs ss) Z5 Z3/\Bk (RK bs ss) (n+64) t'/\t'.1=1/\t'.2.2.2.1<t.2.2.2.1+k)
  (R:=λr=>∃s Z5 Z3 t',r=(s,0,bs,key,Z5,Z3,ts.set i t',())/\ld (RK bs ss) Z5 Z3/\Bk (RK bs ss) (n+64) t'/\Wa code s t') (m:=VJ i) ⟨cs,ls,t,by rw[EK ht],h.mem,hok.mono (by omega),Z',by omega⟩ ?_ ?_ ?_
 rw[JE ht];unfold NN;omega;rintro _ ⟨Z5,Z3,t',rfl,hm,Zk,hr,hlt⟩;have ZU:(ts.set i t')[i]?=some t':=iw hil t';unfold tg;dsimp only;refine(UP hp (((h.mono (show n<=n+64 by omega)).set hm Zk):MOk (n+64) ss bs Z5 Z3 (ts.set i t')) ZU hr (by omega) (by omega)).bind ?_;rintro _ ⟨s,cs2,ls2,t2,rfl,hm2,f6,YV⟩;dsimp only;rw[List.set_set];refine fT (λZ1=>?_) λZ1=>?_;refine fR ⟨_,_,_,_,rfl,hm2,f6,?_⟩;rcases YV with⟨q,_⟩|⟨q1,q2,_⟩|⟨q1,q2,_,q3⟩;exact absurd q Z1;exact .inr (.inl ⟨q1,q2⟩);exact .inr (.inr ⟨q1,q2,q3⟩);rw[fY];simp only[oBS,iw hil];have h0:=f6.count;have h1:=f6.pc;have h2:=Zk.pc;rcases YV with⟨_,q1,q2⟩|⟨q1,_⟩|⟨q1,_⟩;refine fT (λhcc=>?_) λhcc=>?_;exact fR ⟨_,_,_,_,rfl,hm2,f6,.inl ⟨rfl,q1⟩⟩;refine fR ⟨⟨_,_,_,rfl,hm2,f6,q1,by omega⟩,?_⟩;rw[JE ZU,JE (iw hil t2)];omega;omega;omega;rintro _ ⟨s,Z5,Z3,t',rfl,hm,Zk,hs⟩;exact fR ⟨_,_,_,_,rfl,hm,Zk,.inr hs⟩
def Ot(bs ss:M_)(a:Int):Nat->Nat->Option (Int×Int)|0,_=>none|n+1,k=>if bs.getD k 0<=a/\a<bs.getD k 0+ss.getD k 0 then some ((k:Int),a-bs.getD k 0)else Ot bs ss a n (k+1)
def Ov(bs ss:M_)(a:Int):Option (Int×Int):=Ot bs ss a bs.length 0
theorem Oq{bs ss:M_}{a r o:Int}:∀{n k:Nat},k+n=bs.length->bs.length=ss.length->Ot bs ss a n k=some (r,o)->∃(j:Nat)(b z:Int),r=j/\o=a-b/\bs[j]?=some b/\ss[j]?=some z/\b<=a/\a<b+z:=by
 intro n;induction n with
 |zero=>intro k _ _ h;cases h|succ n ih=>
 intro k hk hl h;simp only[Ot]at h;split at h
 ·rename_i hh
  injection h with h
  injection h with h1 h2
  refine⟨k,_,_,h1.symm,h2.symm,?_,?_,hh.1,hh.2⟩
  all_goals rw[Pz (by omega)];exact oGE (by omega)
 exact ih (by omega) hl h
theorem Hn{bs ss:M_}{a:Int}:∀{n k:Nat},k+n=bs.length->Ot bs ss a n k=none->∀(j:Nat)(b z:Int),k<=j->bs[j]?=some b->ss[j]?=some z->¬(b<=a/\a<b+z):=by intro n;induction n with|zero=>simp_all|succ n ih=>intro k hk h j b z hj hb hz;simp[Ot]at h;split at h;cases h;rename_i hh;by_cases hjk:j=k;simp_all;exact ih (by omega) h j b z (by omega) hb hz
theorem xu{bs ss:M_}{a r o:Int}(hl:bs.length=ss.length)(h:Ov bs ss a=some (r,o)):∃(j:Nat)(b z:Int),r=j/\o=a-b/\bs[j]?=some b/\ss[j]?=some z/\b<=a/\a<b+z:=Oq (by omega) hl h
theorem Ou{bs ss:M_}{a:Int}(h:RK bs ss a):∃r o,Ov bs ss a=some (r,o):=by cases e:Ov bs ss a with|some x=>exact⟨x.1,x.2,rfl⟩|none=>have ⟨j,b,z,h1,h2,h3,h4⟩:=h;exact absurd ⟨h3,h4⟩ (Hn (by omega) e j b z (by omega) h1 h2)
theorem yX{bs ss:M_}{key a:Int}(h:LV bs ss)(ha:W16 a):gX bs key ss a=some (match Ov bs ss a with|some (r,o)=>(r,o,true,())|none=>(0,0,false,())):=by
 obtain⟨hs,hl,hr⟩:=h;obtain⟨a0,a1⟩:=ha;have WZ:=hs.2.1;have key1:∀(n k N:Nat),k+n=bs.length->n<N->gd gL N (ss,a,bs,(bs.length:Int),(k:Int),bs,key,0,0,())=some (match Ot bs ss a n k with|some (r,o)=>.inl (true,r,o,())|none=>.inr (ss,a,bs,(bs.length:Int),(bs.length:Int),false,bs,key,0,0,())):=by
  intro n;induction n with
  |zero=>
  intro k N hk hN;obtain⟨N,rfl⟩:∃M,N=M+1:=⟨N-1,by omega⟩;obtain rfl:k=bs.length:=by omega
  have e:gL (ss,a,bs,(bs.length:Int),(bs.length:Int),bs,key,0,0,())=some (.inr (.inr (ss,a,bs,(bs.length:Int),(bs.length:Int),false,bs,key,0,0,()))):=by refine gV ?_;unfold gL;dsimp only;refine fT (λZ'=>?_) λZ'=>?_;omega;exact fR rfl
  simp only[gd,e,oBS,Ot]
  |succ n ih=>
  intro k N hk hN;obtain⟨N,rfl⟩:∃M,N=M+1:=⟨N-1,by omega⟩;obtain⟨b,hb⟩:=gz bs k (by omega);obtain⟨z,hz⟩:=gz ss k (by omega);have Xm:=hs.2.2 z (f8 hz);have hrk:=hr k (by omega);unfold wY at hrk;rw[gw hb,gw hz]at hrk;by_cases hh:b<=a/\a<b+z;have e:gL (ss,a,bs,(bs.length:Int),(k:Int),bs,key,0,0,())=some (.inr (.inl (true,(k:Int),a-b,()))):=by refine gV ?_;unfold gL;dsimp only;rw[oDT (show(k:Int)<bs.length by omega),fY];simp only[oCT,oBS,show fU bs k=some b from hb,show fU ss k=some z from hz];rw[oDT (show a>=b by omega),iG (x:=b+z),oDT hh.2,iG (x:=a-b)];exact fR rfl
  simp only[gd,e,oBS,Ot,gw hb,gw hz,oIP hh];have e:gL (ss,a,bs,(bs.length:Int),(k:Int),bs,key,0,0,())=some (.inl (ss,a,bs,(bs.length:Int),((k+1:Nat):Int),bs,key,0,0,())):=by refine gV ?_;unfold gL;dsimp only;rw[oDT (show(k:Int)<bs.length by omega),fY];simp only[oCT,oBS,show fU bs k=some b from hb,show fU ss k=some z from hz];rw[iG (x:=b+z)];by_cases h1:a>=b;rw[oDT h1,oDF (show ¬a<b+z by omega)];simp only[oCT,oCF];rw[iG (x:=(k:Int)+1)];exact fR rfl;rw[oDF h1];simp only[oCF];rw[iG (x:=(k:Int)+1)];exact fR rfl
  simp only[gd,e,oBS,Ot,gw hb,gw hz,oIN hh];exact ih (k+1) N (by omega) (by omega)
 unfold gX Ov;delta fZ;try dsimp only
 rw[show gd gL NN (ss,a,bs,(bs.length:Int),0,bs,key,0,0,())=_ from key1 bs.length 0 NN (by omega) (by unfold NN;omega)];cases Ot bs ss a bs.length 0 with|some x=>rfl|none=>rfl
def rS(bs ss:M_)(key:Int)(c:DCe):DCn:=if c.1=0 then(0,c.2,0,0)else if c.1=2 then(2,wk .u16 (c.2-key),0,0)else match Ov bs ss c.2 with|some (r,o)=>(1,0,r,o)|none=>(1,0,-1,c.2)
theorem vx{K:Int->Prop}{bs ss:M_}{key:Int}{c:DCe}(h:LV bs ss)(hc:oC K c):jU bs key ss c.1 c.2=some ((rS bs ss key c).1,(rS bs ss key c).2.1,(rS bs ss key c).2.2.1,(rS bs ss key c).2.2.2,()):=by
 have ⟨c0,c1,c2,c3,_⟩:=hc;unfold jU rS;rw[gi (by omega) (by omega)];dsimp only;rw[yX h ⟨c2,c3⟩];rcases(show c.1=0\/c.1=1\/c.1=2 by omega)with e|e|e<;>rw[e]
 rfl;simp;cases Ov bs ss c.2 with|some x=>rfl|none=>rfl
 rfl
theorem j5(x:Int):W16 (wk .u16 x):=rX x
theorem GO{bs ss:M_}{key:Int}{c:DCe}(h:LV bs ss)(hc:oC (RK bs ss) c):Pr ss (rS bs ss key c):=by have ⟨c0,c1,c2,c3,c4⟩:=hc;unfold rS;rcases(show c.1=0\/c.1=1\/c.1=2 by omega)with e|e|e;rw[oIP e];exact .inl ⟨.inl rfl,rfl,rfl,c2,c3⟩;rw[oIN (by omega),oIN (by omega)];have ⟨r,o,hro⟩:=Ou (c4 e);rw[hro];obtain⟨j,b,z,rfl,rfl,h1,h2,h3,h4⟩:=xu h.2.1 hro;exact .inr ⟨rfl,rfl,by simp_all,z,by simp_all,by simp_all,by dsimp only;omega⟩;rw[oIN (by omega),oIP e];exact .inl ⟨.inr rfl,rfl,rfl,j5 _⟩
theorem Bi{K:Int->Prop}{bs ss:M_}{key:Int}{c:DCe}(hc:oC K c):(rS bs ss key c).1=c.1/\(c.1=0->(rS bs ss key c).2.1=c.2):=by
 have ⟨c0,c1,_⟩:=hc;unfold rS;rcases(show c.1=0\/c.1=1\/c.1=2 by omega)with e|e|e;simp_all;rw[oIN (by omega),oIN (by omega)];cases Ov bs ss c.2 with|some x=>simp_all|none=>simp_all
 simp_all
def J0(cs:C_)(ls:G_)(a:Int):DCe:=match ls[(a/4%4).toNat]? with|some x=>if x.1=a/4 then x.2.2.getD (a%4).toNat (0,0)else cs.getD a.toNat (0,0)|none=>(0,0)
theorem getD_some{α:Type}{l:List α}{k:Nat}{d x:α}(h:l[k]?=some x):l.getD k d=x:=by simp_all
theorem E1{K:Int->Prop}{cs:C_}{ls:G_}{a:Int}(h:ld K cs ls)(ha:0<=a/\a<512):oq cs ls a=some ((J0 cs ls a).1,(J0 cs ls a).2,())/\oC K (J0 cs ls a):=by obtain⟨a0,a1⟩:=ha;obtain⟨h1,h2,h3,h4,_⟩:=id h;unfold oq J0;rw[Int.tdiv_eq_ediv_of_nonneg a0,iG (x:=a/4)];dsimp only;rw[oTE (show 0<=a/4 by omega),oTE a0];obtain⟨i,hi⟩:∃i:Nat,a/4%4=i:=⟨(a/4%4).toNat,by omega⟩;rw[hi,fY,oTN];obtain⟨x,hx⟩:=gz ls i (by omega);simp only[oBS,show fU ls i=some x from hx,hx];by_cases hq:x.1=a/4;rcases h4 i x hx with⟨g,_,_⟩|⟨_,_,_,g4,g5⟩;omega;obtain⟨j,hj⟩:∃j:Nat,a%4=j:=⟨(a%4).toNat,by omega⟩;obtain⟨y,hy⟩:=gz x.2.2 j (by omega);rw[hj,fY,oTN,oIP hq,getD_some hy,beq_iff_eq.2 hq];simp only[oCT,oBS,show fU x.2.2 j=some y from hy];exact⟨trivial,g5 y (f8 hy)⟩;obtain⟨j,rfl⟩:∃j:Nat,a=j:=⟨a.toNat,by omega⟩;obtain⟨y,hy⟩:=gz cs j (by omega);rw[oIN hq,oBF hq,fY,oTN,getD_some hy];simp only[oCF,oBS,show fU cs j=some y from hy];exact⟨trivial,h2 y (f8 hy)⟩
def kB(call:Int):M_:=
 if call=0\/call=8\/call=9\/call=11\/call=12 then[78]else if call=1\/call=2 then[72,80,78]else if call=3 then[78,78]else if call=4 then[72]else if call=5 then[72,78]
 else if call=10 then[78,88]else if call=13\/call=14 then[78,80,78]else[]
theorem Pd(call:Int):(kB call).length<=3:=by
 unfold kB;repeat' split
 all_goals simp
def BOk(b:ByteArray)(l:M_):Prop:=Br b=(l.length:Int)/\∀j:Nat,D5 b j=l[j]?
theorem Ws:BOk (bytes []) []:=⟨rfl,λj=>rfl⟩
theorem Wr{a:Nat}(h:a<256):BOk (bytes [a]) [(a:Int)]:=⟨rfl,λj=>by
 match j with
 |0=>show some (((UInt8.ofNat a).toNat:Nat):Int)=some (a:Int);simp;omega
 |n+1=>rfl⟩
theorem Wq{a b:Nat}(h:a<256)(hb:b<256):BOk (bytes [a,b]) [(a:Int),(b:Int)]:=⟨rfl,λj=>by
 match j with
 |0=>show some (((UInt8.ofNat a).toNat:Nat):Int)=some (a:Int);simp;omega
 |1=>show some (((UInt8.ofNat b).toNat:Nat):Int)=some (b:Int);simp;omega
 |n+2=>rfl⟩
theorem Wp{a b c:Nat}(h:a<256)(hb:b<256)(hc:c<256):BOk (bytes [a,b,c]) [(a:Int),(b:Int),(c:Int)]:=⟨rfl,λj=>by
 match j with
 |0=>show some (((UInt8.ofNat a).toNat:Nat):Int)=some (a:Int);simp;omega
 |1=>show some (((UInt8.ofNat b).toNat:Nat):Int)=some (b:Int);simp;omega
 |2=>show some (((UInt8.ofNat c).toNat:Nat):Int)=some (c:Int);simp;omega
 |n+3=>rfl⟩
theorem uw{call:Int}(h:0<=call/\call<=15):call=0\/call=1\/call=2\/call=3\/call=4\/call=5\/call=6\/call=7\/call=8\/call=9\/call=10\/call=11\/call=12\/call=13\/call=14\/call=15:=by omega
theorem E5{call:Int}(h:0<=call/\call<=15):∃b,mM call=some (b,())/\BOk b (kB call):=by
 rcases uw h with rfl|rfl|rfl|rfl|rfl|rfl|rfl|rfl|rfl|rfl|rfl|rfl|rfl|rfl|rfl|rfl;all_goals first
  |exact⟨_,rfl,Ws⟩
  |exact⟨_,rfl,Wr (by decide)⟩
  |exact⟨_,rfl,Wq (by decide) (by decide)⟩
  |exact⟨_,rfl,Wp (by decide) (by decide) (by decide)⟩
def M8(k t:Int):Bool:=if k=78 then t==0 else if k=72 then t==2 else if k=80 then t==1 else true
theorem PD(k t:Int):ol k t=some (M8 k t,()):=by unfold ol M8;by_cases h1:k=78;simp[h1];by_cases h2:k=72;simp[h2];by_cases h3:k=80;simp[h3];simp[h1,h2,h3,oBF h1,oBF h2,oBF h3]
def vA(call:Int):Int:=if call=1\/call=13 then 1 else if call=2\/call=14 then 2 else 0
theorem rP{call:Int}(h:0<=call/\call<=15):kv call=some (vA call,()):=by rcases uw h with rfl|rfl|rfl|rfl|rfl|rfl|rfl|rfl|rfl|rfl|rfl|rfl|rfl|rfl|rfl|rfl<;>rfl
theorem AA{call:Int}(h:0<=call/\call<=15):jD call=some (((kB call).length:Int),()):=by have ⟨b,e,hb⟩:=E5 h;unfold jD;rw[oDF (show ¬call<0 by omega),oDF (show ¬call>15 by omega),e];simp[hb.1]
theorem Nu{bs ss:M_}{key t v n:Int}(h:LV bs ss)(hv:W16 v)(hn:0<=n/\n<=65535):Ok (nW bs key ss t v n) λr=>∃a e,r=(a,e,())/\(e=0->t=1/\a=v/\∃(j:Nat)(b z:Int),bs[j]?=some b/\ss[j]?=some z/\b<=v/\v+n<=b+z/\v<b+z):=by obtain⟨v0,v1⟩:=hv;unfold nW;refine fT (λZ'=>?_) λZ'=>?_;exact fR ⟨_,_,rfl,λh=>by omega⟩;rw[gi (x:=v) (by omega) (by omega)];dsimp only;rw[yX h ⟨v0,v1⟩];simp only[oBS];cases e:Ov bs ss v with|none=>exact fR ⟨_,_,rfl,λh=>by omega⟩|some x=>obtain⟨r,o⟩:=x;obtain⟨j,b,z,rfl,rfl,h1,h2,h3,h4⟩:=xu h.2.1 e;have hj:=(oGS h1).1;have hr:=h.2.2 j hj;unfold wY at hr;rw[gw h1,gw h2]at hr;rw[oDF (show ¬n<0 by omega),fY];simp only[oNT,oCF,oBS,show fU ss j=some z from h2];rw[iG (x:=z-(v-b))];refine fT (λZ1=>?_) λZ1=>?_;exact fR ⟨_,_,rfl,λh=>by omega⟩;exact fR ⟨_,_,rfl,λ_=>⟨Z',gi (by omega) (by omega),j,b,z,h1,h2,h3,by omega,h4⟩⟩
structure P6 (call:Int)(m:Int)(bs ss:M_)(rs:C_):Prop where
 fit:∀(j:Nat) k c,(kB call)[j]?=some k->rs[j]?=some c->M8 k c.1=true
 buf:0<vA call->∃p q,rs[1]?=some p/\rs[2]?=some q/\q.2<=16/\p.1=1/\∃(j:Nat)(b z:Int),bs[j]?=some b/\ss[j]?=some z/\b<=p.2/\p.2+q.2<=b+z
 code:call=10\/call=12->∃c,rs[0]?=some c/\c.2<m
theorem KQ{call m:Int}{bs ss:M_}{rs:C_}(h:P6 call m bs ss rs):Ok (some ((0:Int),())) λr=>∃e,r=(e,())/\0<=e/\e<=6/\(e=0->P6 call m bs ss rs):=fR ⟨0,rfl,by decide,by decide,λ_=>h⟩
theorem CF{call m:Int}{bs ss:M_}{rs:C_}:Ok (some ((6:Int),())) λr=>∃e,r=(e,())/\0<=e/\e<=6/\(e=0->P6 call m bs ss rs):=fR ⟨6,rfl,by decide,by decide,λh=>absurd h (by decide)⟩
theorem Nl{n key:Int}{code:F_}{ss bs:M_}{d:j_}{cs:C_}{ls:G_}{ts:J_}{i:Nat}{t:DTh}{x:DIn}(h:MOk n ss bs cs ls ts)(ht:ts[i]?=some t)(hp1:1<=t.2.2.1) (hx:code[(t.2.2.1-1).toNat]?=some x)(hc:0<=x.2.2.2.2/\x.2.2.2.2<=15):Ok (oT code ss d bs key cs ls ts (i:Int)) λr=>∃e,r=(e,())/\0<=e/\e<=6/\(e=0->P6 x.2.2.2.2 code.length bs ss t.2.1):=by
 have hok:=h.thr t (f8 ht);obtain⟨_,hl,hr,⟨p0,p1⟩,_⟩:=id hok;obtain⟨o,A,B,C,call⟩:=x;dsimp only at hc⊢;obtain⟨b,eb,ZI,ZP⟩:=E5 hc;have X3:=Pd call;obtain⟨st,rs,pc,rest⟩:=t;dsimp only at *;obtain⟨j,hj⟩:∃j:Nat,pc-1=j:=⟨(pc-1).toNat,by omega⟩;rw[hj,oTN]at hx;unfold oT;rw[fY];simp only[oBS,show fU ts i=some (st,rs,pc,rest)from ht];rw[iG (x:=pc-1),hj,fY];simp only[oBS,show fU code j=some (o,A,B,C,call)from hx,eb,ZI];obtain⟨c0,hc0⟩:=gz rs 0 (by omega);obtain⟨c1,ZL⟩:=gz rs 1 (by omega);obtain⟨c2,ZH⟩:=gz rs 2 (by omega);have v0:=hr c0 (f8 hc0);have v1:=hr c1 (f8 ZL);have v2:=hr c2 (f8 ZH);have g0:fU rs 0=some c0:=hc0;have g1:fU rs 1=some c1:=ZL;have g2:fU rs 2=some c2:=ZH;obtain⟨y,e,hy⟩:=hU (f:=oE) (n:=NN) (s:=(call,b,((kB call).length:Int),0,code,ss,d,bs,key,cs,ls,ts,st,rs,pc,rest.1,rest.2.1,rest.2.2.1,rest.2.2.2.1,rest.2.2.2.2,())) (P:=λs'=>∃q:Nat,s'=(call,b,((kB call).length:Int),(q:Int),code,ss,d,bs,key,cs,ls,ts,st,rs,pc,rest.1,rest.2.1,rest.2.2.1,rest.2.2.2.1,rest.2.2.2.2,())/\q<=(kB call).length/\∀(j:Nat) k c,j<q->(kB call)[j]?=some k->rs[j]?=some c->M8 k c.1=true) (R:=λr=>r=.inl (6,())\/(∃q,r=.inr (call,b,((kB call).length:Int),q,false,code,ss,d,bs,key,cs,ls,ts,st,rs,pc,rest.1,rest.2.1,rest.2.2.1,rest.2.2.2.1,rest.2.2.2.2,())/\∀(j:Nat) k c,(kB call)[j]?=some k->rs[j]?=some c->M8 k c.1=true)) (m:=λs'=>(s'.2.2.1-s'.2.2.2.1).toNat) ⟨0,rfl,by omega,λj k c hj=>by omega⟩ (by unfold NN;dsimp only;omega) (by rintro _ ⟨q,rfl,hq,Z2⟩;unfold oE;dsimp only;refine fT (λZ'=>?_) λZ'=>?_;rw[fY];obtain⟨k,hk⟩:=gz (kB call) q (by omega);obtain⟨c,hcq⟩:=gz rs q (by omega);simp only[oBS,ZP q,hk,show fU rs q=some c from hcq,PD];refine fT (λZ1=>?_) λZ1=>?_;exact fR (.inl rfl);rw[iG (x:=(q:Int)+1)];refine fR ⟨⟨q+1,rfl,by omega,λj' k' c' ZO h1 h2=>?_⟩,by dsimp only;omega⟩;by_cases hjq:j'=q;subst hjq;rw[hk]at h1;rw[hcq]at h2;cases h1;cases h2;exact Z1;exact Z2 j' k' c' (by omega) h1 h2;refine fR (.inr ⟨_,rfl,λj k c h1 h2=>Z2 j k c ?_ h1 h2⟩);have:=(oGS h1).1;omega);rw[e];rcases hy with rfl|⟨q,rfl,Z2⟩;exact CF;dsimp only;rw[rP hc];delta fZ;simp only[oBS,g0,g1,g2];rw[gi (x:=c2.2) (by have:=v2.2.2.1;omega) (by have:=v2.2.2.2.1;omega),gi (x:=c0.2) (by have:=v0.2.2.1;omega) (by have:=v0.2.2.2.1;omega)];have ZT:(0<vA call->∃p q,rs[1]?=some p/\rs[2]?=some q/\q.2<=16/\p.1=1/\∃(j:Nat)(b z:Int),bs[j]?=some b/\ss[j]?=some z/\b<=p.2/\p.2+q.2<=b+z)->Ok ((bif(call==10)then(some ((decide (c0.2>=(code.length:Int))),()))else bif(call==12)then(some ((decide (c0.2>=(code.length:Int))),()))else some (false,()):f_).bind λ(x35,_)=>bif x35 then(some ((6:Int),()))else some (0,())) λr=>∃e,r=(e,())/\0<=e/\e<=6/\(e=0->P6 call code.length bs ss rs):=by intro hbuf;by_cases q10:call=10;simp only[beq_iff_eq.2 q10,oCT,oBS];refine fT (λZ1=>?_) λZ1=>?_;exact CF;exact KQ ⟨Z2,hbuf,λ_=>⟨c0,hc0,by omega⟩⟩;by_cases q12:call=12;simp only[oBF q10,beq_iff_eq.2 q12,oCT,oCF,oBS];refine fT (λZ1=>?_) λZ1=>?_;exact CF;exact KQ ⟨Z2,hbuf,λ_=>⟨c0,hc0,by omega⟩⟩;simp only[oBF q10,oBF q12,oCF,oBS];exact KQ ⟨Z2,hbuf,λh=>by omega⟩
 refine fT (λZ'=>?_) λZ'=>?_;refine(Nu (t:=c1.1) (v:=c1.2) (n:=c2.2) h.lay ⟨v1.2.2.1,v1.2.2.2.1⟩ ⟨v2.2.2.1,v2.2.2.2.1⟩).bind ?_;rintro _ ⟨a,e,rfl,he⟩;dsimp only;refine fT (λZ1=>?_) λZ1=>?_;exact CF;obtain⟨w1,_,j,b',z,w2,w3,w4,w5,w6⟩:=he Z1;refine fT (λhcc=>?_) λhcc=>?_;exact CF;exact ZT λ_=>⟨c1,c2,ZL,ZH,by omega,w1,j,b',z,w2,w3,w4,w5⟩;exact ZT λh=>by omega
structure AX (n:Int)(ss:M_)(i stop trap count pc call:Int)(args data:D_):Prop where
 hthr:0<=i/\i<4
 hstop:0<=stop/\stop<=3
 htrap:0<=trap/\trap<=6
 hcnt:0<=count/\count<=n
 hpc:0<=pc/\pc<=255
 hcall:0<=call/\call<=15
 hargs:args.length<=3/\∀c∈args,Pr ss c
 hdata:data.length<=16/\∀c∈data,Pr ss c
 hkind:stop=1->args.length=(kB call).length/\∀(j:Nat) k a,(kB call)[j]?=some k->args[j]?=some a->M8 k a.1=true
 hbuf:stop=1->vA call=2->∃a,args[2]?=some a/\a.2.1<=16
def Wy(stop trap:Int)(t':DTh):Prop:=(stop=0/\t'.1=1)\/(stop=1/\t'.1=2)\/(stop=2/\t'.1=4/\t'.2.2.2.2.2.2.1=trap)\/(stop=3/\t'.1≠1)
theorem Rf{bs ss:M_}(h:LV bs ss){r r':Nat}{b z b' z' o o':Int}(hne:r≠r')(hb:bs[r]?=some b)(hz:ss[r]?=some z)(Y':bs[r']?=some b')(W4:ss[r']?=some z')(h0:0<=o)(h1:o<z)(h0':0<=o')(h1':o'<z'):b+o≠b'+o':=by have ⟨_,hl,hg⟩:=h;have l1:=(oGS hb).1;have l2:=(oGS Y').1;have g1:=hg r l1;have g2:=hg r' l2;unfold wY at g1 g2;rw[gw hb,gw hz]at g1;rw[gw Y',gw W4]at g2;by_cases hlt:r'<r;have:=g1.2.2 r' hlt;rw[gw Y',gw W4]at this;omega;have:=g2.2.2 r (by omega);rw[gw hb,gw hz]at this;omega
theorem TY{bs ss:M_}{key:Int}{p q:DCe}(h:LV bs ss)(hp:oC (RK bs ss) p)(hq:oC (RK bs ss) q)(hp1:p.1=1){j:Nat}{b z:Int}(hb:bs[j]?=some b)(hz:ss[j]?=some z)(h1:b<=p.2)(h2:p.2+q.2<=b+z):∃z',ss[(rS bs ss key p).2.2.1.toNat]?=some z'/\(rS bs ss key p).2.2.2+q.2<=z':=by
 have ⟨_,_,_,_,hrk⟩:=hp;have ⟨r,o,e⟩:=Ou (hrk hp1);obtain⟨j',b',z',rfl,rfl,k1,k2,k3,k4⟩:=xu h.2.1 e;have hq0:=hq.2.2.1;have hc:rS bs ss key p=(1,0,(j':Int),p.2-b'):=by unfold rS;simp_all
 rw[hc];refine⟨z',by simp_all,?_⟩;show p.2-b'+q.2<=z';by_cases hjj:j'=j;subst hjj;rw[k1]at hb;rw[k2]at hz;injection hb with hb
 injection hz with hz
 omega;by_cases hq1:q.2=0;omega;exact absurd (show b'+(p.2-b')=b+(p.2-b) by omega) (Rf h hjj k1 k2 hb hz (by omega) (by omega) (by omega) (by omega))
def P3(ss:M_)(call:Int)(args:D_):Prop:=(vA call=2->∃a q z,args[1]?=some a/\args[2]?=some q/\ss[a.2.2.1.toNat]?=some z/\a.2.2.2+q.2.1<=z)/\(call=10\/call=12->∃a,args[0]?=some a/\a.1=0/\a.2.1<=255)
def LZ(n key:Int)(ss bs:M_)(ts:J_)(i:Nat)(r:v_×Int×C_×G_×J_×Int×Int×Int×Int×Int×Int×D_×D_×Int×Unit):Prop:=
 ∃Z5 Z3 t' stop trap call args data,r=(bs,key,Z5,Z3,ts.set i t',(i:Int),stop,trap,t'.2.2.2.1,t'.2.2.1,call,args,data,0,())/\ld (RK bs ss) Z5 Z3/\Bk (RK bs ss) n t' /\
  AX n ss i stop trap t'.2.2.2.1 t'.2.2.1 call args data/\Wy stop trap t'/\(stop=3->ts[i]?=some t')/\(stop=1->P3 ss call args)
theorem A2{n:Int}{ss bs:M_}{i:Nat}{t':DTh}{stop trap:Int}(hi:i<4)(ht:Bk (RK bs ss) n t')(hs:0<=stop/\stop<=3)(hs1:stop≠1)(htr:0<=trap/\trap<=6):AX n ss i stop trap t'.2.2.2.1 t'.2.2.1 0 [] []:=⟨⟨by omega,by omega⟩,hs,htr,ht.count,ht.pc,by decide,⟨by decide,gy⟩,⟨by decide,gy⟩,λh=>absurd h hs1,λh=>absurd h hs1⟩
theorem jY{α β:Type}(f:α->β){l:List α}{k:Nat}{x:α}(h:l[k]?=some x):(l.take k).map f++[f x]=(l.take (k+1)).map f:=by rw[List.take_add_one,h];simp
theorem rd{β:Type}(f:Nat->β)(k:Nat):(List.range k).map f++[f k]=(List.range (k+1)).map f:=by rw[List.range_succ];simp
set_option maxHeartbeats 4000000 in
theorem Bp{n key k:Int}{code:F_}{ss bs:M_}{d:j_}{cs:C_}{ls:G_}{ts:J_}{i:Nat}(hp:jP code ss d)(h:MOk n ss bs cs ls ts)(hn0:0<=n)(hn:n+64<=1099511627776)(hi:i<4)(hk:1<=k/\k<=64):Ok (om code ss d bs key cs ls ts (i:Int) k) (LZ (n+64) key ss bs ts i):=by
 have Yl:=h.tlen;have hil:i<ts.length:=by omega
 unfold om;refine(Qk hp h hn0 hn hi hk).bind ?_;rintro _ ⟨s,Z5,Z3,t',rfl,hm,ZU,hs⟩;have hM:MOk (n+64) ss bs Z5 Z3 (ts.set i t'):=(h.mono (show n<=n+64 by omega)).set hm ZU;have hgt:(ts.set i t')[i]?=some t':=iw hil t';dsimp only;simp only[oBN,oCF,fY,oBS,iw hil];rcases hs with⟨rfl,hs1,YV⟩|⟨rfl,hs1⟩|⟨rfl,hs1⟩|⟨rfl,hs1,x,YV,hs3,WZ⟩;exact fR ⟨_,_,_,_,_,_,_,_,rfl,hm,ZU,A2 hi ZU (by decide) (by decide) (by decide),.inr (.inr (.inr ⟨rfl,YV⟩)),λ_=>hs1,λh=>absurd h (by decide)⟩;exact fR ⟨_,_,_,_,_,_,_,_,rfl,hm,ZU,A2 hi ZU (by decide) (by decide) (by decide),.inl ⟨rfl,hs1⟩,λh=>absurd h (by decide),λh=>absurd h (by decide)⟩;exact fR ⟨_,_,_,_,_,_,_,_,rfl,hm,ZU,A2 hi ZU (by decide) (by decide) ZU.trap,.inr (.inr (.inl ⟨rfl,hs1,rfl⟩)),λh=>absurd h (by decide),λh=>absurd h (by decide)⟩;have Yb:=hp.ins x (f8 hs3);have hcall:0<=x.2.2.2.2/\x.2.2.2.2<=15:=⟨Yb.imm.1,Yb.sys WZ⟩;obtain⟨_,ec,e,rfl,he0,he6,hcok⟩:=Nl (key:=key) (d:=d) hM hgt YV hs3 hcall;obtain⟨o,A,B,C,call⟩:=x;dsimp only at hcall hcok;have X3:=Pd call;have hl8:=ZU.len;obtain⟨j,hj⟩:∃j:Nat,t'.2.2.1-1=j:=⟨(t'.2.2.1-1).toNat,by omega⟩;have hpc:=ZU.pc;rw[hj,oTN]at hs3;rw[iG (x:=t'.2.2.1-1),hj];simp only[Int.reduceBEq,oCT,oCF,ec,oBS,fY,show fU code j=some (o,A,B,C,call)from hs3,AA hcall];by_cases hne:e=0;subst hne;obtain⟨Z2,hbuf,Yp⟩:=hcok rfl;have e1:gd kQ NN (((kB call).length:Int),0,code,ss,d,(),0,(),(),(),0,0,0,0,0,0,(),(),bs,key,Z5,Z3,ts.set i t',t'.1,t'.2.1,t'.2.2.1,t'.2.2.2.1,t'.2.2.2.2.1,t'.2.2.2.2.2.1,t'.2.2.2.2.2.2.1,t'.2.2.2.2.2.2.2,(i:Int),1,0,t'.2.2.2.1,t'.2.2.1,call,[],(),())= some (((kB call).length:Int),((kB call).length:Int),false,code,ss,d,(),0,(),(),(),0,0,0,0,0,0,(),(),bs,key,Z5,Z3,ts.set i t',t'.1,t'.2.1,t'.2.2.1,t'.2.2.2.1,t'.2.2.2.2.1,t'.2.2.2.2.2.1,t'.2.2.2.2.2.2.1,t'.2.2.2.2.2.2.2,(i:Int),1,0,t'.2.2.2.1,t'.2.2.1,call,(t'.2.1.take (kB call).length).map (rS bs ss key),(),()):=by refine nz (f:=kQ) (N:=NN) (st:=λq=>(((kB call).length:Int),(q:Int),code,ss,d,(),0,(),(),(),0,0,0,0,0,0,(),(),bs,key,Z5,Z3,ts.set i t',t'.1,t'.2.1,t'.2.2.1,t'.2.2.2.1,t'.2.2.2.2.1,t'.2.2.2.2.2.1,t'.2.2.2.2.2.2.1,t'.2.2.2.2.2.2.2,(i:Int),1,0,t'.2.2.2.1,t'.2.2.1,call,(t'.2.1.take q).map (rS bs ss key),(),())) (n:=(kB call).length) (by unfold NN;omega) ?_ ?_;intro q hq;unfold kQ;dsimp only;rw[oDT (show(q:Int)<(kB call).length by omega),fY];simp only[oCT,oBS];refine f7 λc hc=>?_;rw[vx h.lay (ZU.regs c (f8 hc))];simp only[oBS];refine fS (ge (by simp;omega)) ?_;rw[iG (x:=(q:Int)+1)];refine fR ?_;rw[<- jY (rS bs ss key) hc];rfl;unfold kQ;dsimp only;rw[oDF (show ¬((kB call).length:Int)<(kB call).length by omega)];exact fR rfl
 have hargs:((t'.2.1.take (kB call).length).map (rS bs ss key)).length=(kB call).length:=by rw[oLP,oLT];omega
 have hgetA:∀(j:Nat) a,((t'.2.1.take (kB call).length).map (rS bs ss key))[j]?=some a->∃c,t'.2.1[j]?=some c/\a=rS bs ss key c:=by
  intro j a ha;rw[oGP]at ha;cases hc:(t'.2.1.take (kB call).length)[j]? with
  |none=>rw[hc]at ha;cases ha|some c=>
  rw[hc]at ha;injection ha with ha
  refine⟨c,?_,ha.symm⟩;rw[List.getElem?_take]at hc;split at hc;exact hc;cases hc
 have hargsPr:∀c∈(t'.2.1.take (kB call).length).map (rS bs ss key),Pr ss c:=by intro c hc;obtain⟨c',YG,rfl⟩:=List.mem_map.1 hc;exact GO h.lay (ZU.regs c' (List.mem_of_mem_take YG))
 have hkinds:∀(j:Nat) k a,(kB call)[j]?=some k->((t'.2.1.take (kB call).length).map (rS bs ss key))[j]?=some a->M8 k a.1=true:=by intro j k a hk ha;obtain⟨c,hc,rfl⟩:=hgetA j a ha;rw[(Bi (ZU.regs c (f8 hc))).1];exact Z2 j k c hk hc
 have hbuf2:vA call=2->∃a,((t'.2.1.take (kB call).length).map (rS bs ss key))[2]?=some a/\a.2.1<=16:=by
  intro hb;obtain⟨p,q,hp1,Y6,hq16,_⟩:=hbuf (by omega);have hkk:(kB call)[2]?=some 78:=by
   have:call=2\/call=14:=by unfold vA at hb;split at hb<;>first|omega|(split at hb<;>omega)
   rcases this with rfl|rfl<;>rfl
  have hf:=Z2 2 78 q hkk Y6;have hl3:=(oGS hkk).1;refine⟨rS bs ss key q,?_,?_⟩;rw[oGP,List.getElem?_take,oIP hl3,Y6];rfl;have hq:=(Bi (bs:=bs) (ss:=ss) (key:=key) (ZU.regs q (f8 Y6))).2 (by unfold M8 at hf;simpa using hf);rw[hq];exact hq16
 simp only[e1,oBN,oCF,oBS,rP hcall];have hfitok:P3 ss call ((t'.2.1.take (kB call).length).map (rS bs ss key)):=by
  refine⟨λhb=>?_,λhcc=>?_⟩;obtain⟨p,q,hp1,Y6,hq16,hp0,jr,b,z,ZI,hz1,ZP,hb3⟩:=hbuf (by omega);have hkk:(kB call)[1]?=some 80/\(kB call)[2]?=some 78:=by
   have:call=2\/call=14:=by unfold vA at hb;split at hb<;>first|omega|(split at hb<;>omega)
   rcases this with rfl|rfl<;>exact⟨rfl,rfl⟩
  have hl3:=(oGS hkk.2).1;have hf:=Z2 2 78 q hkk.2 Y6;have hq:=(Bi (bs:=bs) (ss:=ss) (key:=key) (ZU.regs q (f8 Y6))).2 (by unfold M8 at hf;simpa using hf);obtain⟨z',g1,g2⟩:=TY (key:=key) h.lay (ZU.regs p (f8 hp1)) (ZU.regs q (f8 Y6)) hp0 ZI hz1 ZP hb3;refine⟨rS bs ss key p,rS bs ss key q,z',by rw[oGP,List.getElem?_take,oIP (by omega),hp1];rfl,by rw[oGP,List.getElem?_take,oIP hl3,Y6];rfl,g1,by rw[hq];exact g2⟩;obtain⟨c,hc0,Y4⟩:=Yp hcc;have hkk:(kB call)[0]?=some 78:=by rcases hcc with rfl|rfl<;>rfl
  have hl0:=(oGS hkk).1;have hf:=Z2 0 78 c hkk hc0;have hq:=Bi (bs:=bs) (ss:=ss) (key:=key) (ZU.regs c (f8 hc0));refine⟨rS bs ss key c,by rw[oGP,List.getElem?_take,oIP hl0,hc0];rfl,?_,?_⟩;rw[hq.1];unfold M8 at hf;simpa using hf;rw[hq.2 (by unfold M8 at hf;simpa using hf)];have:=hp.clen;omega
 have ZT:∀data:D_,data.length<=16->(∀c∈data,Pr ss c)->Ok (some (bs,key,Z5,Z3,ts.set i t',(i:Int),(1:Int),(0:Int),t'.2.2.2.1,t'.2.2.1,call,(t'.2.1.take (kB call).length).map (rS bs ss key),data,(0:Int),())) (LZ (n+64) key ss bs ts i):=λdata h1 h2=>fR ⟨_,_,_,_,_,_,_,_,rfl,hm,ZU,⟨⟨by omega,by omega⟩,by decide,by decide,ZU.count,ZU.pc,hcall,⟨by omega,hargsPr⟩,⟨h1,h2⟩,λ_=>⟨hargs,hkinds⟩,λ_=>hbuf2⟩,.inr (.inl ⟨rfl,hs1⟩),λh=>absurd h (by decide),λ_=>hfitok⟩;by_cases ZI:vA call=1;obtain⟨p,q,hp1,Y6,hq16,_,jr,b,z,hbz1,hbz2,hbz3,hbz4⟩:=hbuf (by omega);have hp':=ZU.regs p (f8 hp1);have hq':=ZU.regs q (f8 Y6);have hjr:=(oGS hbz1).1;have hreg:=h.lay.2.2 jr hjr;unfold wY at hreg;rw[gw hbz1,gw hbz2]at hreg;obtain⟨m,hqm⟩:∃m:Nat,q.2=m:=⟨q.2.toNat,by have:=hq'.2.2.1;omega⟩;have e2:gd kP NN ((m:Int),0,code,ss,d,(),0,(),(),(),0,0,0,0,0,0,(),(),bs,key,Z5,Z3,ts.set i t',t'.1,t'.2.1,t'.2.2.1,t'.2.2.2.1,t'.2.2.2.2.1,t'.2.2.2.2.2.1,t'.2.2.2.2.2.2.1,t'.2.2.2.2.2.2.2,(i:Int),1,0,t'.2.2.2.1,t'.2.2.1,call,(t'.2.1.take (kB call).length).map (rS bs ss key),[],())= some ((m:Int),(m:Int),false,code,ss,d,(),0,(),(),(),0,0,0,0,0,0,(),(),bs,key,Z5,Z3,ts.set i t',t'.1,t'.2.1,t'.2.2.1,t'.2.2.2.1,t'.2.2.2.2.1,t'.2.2.2.2.2.1,t'.2.2.2.2.2.2.1,t'.2.2.2.2.2.2.2,(i:Int),1,0,t'.2.2.2.1,t'.2.2.1,call,(t'.2.1.take (kB call).length).map (rS bs ss key),(List.range m).map (λj:Nat=>rS bs ss key (J0 Z5 Z3 (p.2+(j:Int)))),()):=by refine nz (f:=kP) (N:=NN) (st:=λq=>((m:Int),(q:Int),code,ss,d,(),0,(),(),(),0,0,0,0,0,0,(),(),bs,key,Z5,Z3,ts.set i t',t'.1,t'.2.1,t'.2.2.1,t'.2.2.2.1,t'.2.2.2.2.1,t'.2.2.2.2.2.1,t'.2.2.2.2.2.2.1,t'.2.2.2.2.2.2.2,(i:Int),1,0,t'.2.2.2.1,t'.2.2.1,call,(t'.2.1.take (kB call).length).map (rS bs ss key),(List.range q).map (λj:Nat=>rS bs ss key (J0 Z5 Z3 (p.2+(j:Int)))),())) (n:=m) (by unfold NN;omega) ?_ ?_;intro v hv;unfold kP;dsimp only;have hp0:=hp'.2.2.1;have hp01:=hp'.2.2.2.1;rw[oDT (show(v:Int)<m by omega)];simp only[oCT,oBS,show fU t'.2.1 1=some p from hp1];rw[gi (x:=p.2) (by omega) (by omega),iG (x:=p.2+v)];obtain⟨hlk,hlv⟩:=E1 (a:=p.2+v) hm ⟨by omega,by omega⟩;rw[hlk];simp only[oBS];rw[vx h.lay hlv];simp only[oBS];refine fS (ge (by simp;omega)) ?_;rw[iG (x:=(v:Int)+1)];refine fR ?_;rw[<- rd];rfl;unfold kP;dsimp only;rw[oDF (show ¬(m:Int)<m by omega)];exact fR rfl
 simp only[ZI,BEq.rfl,oCT,show fU t'.2.1 2=some q from Y6,oBS];rw[gi (x:=q.2) (by omega) (by omega),hqm,e2];simp only[oBS];refine ZT _ (by rw[oLP,List.length_range];omega) ?_;intro c hc;obtain⟨v,hv,rfl⟩:=List.mem_map.1 hc;have hv:=List.mem_range.1 hv;have hp0:=hp'.2.2.1;exact GO h.lay (E1 (a:=p.2+v) hm ⟨by omega,by omega⟩).2;simp only[oBF ZI,oCF];exact ZT [] (by decide) gy;unfold pS nV;simp only[bne_iff_ne.2 hne,oCT];rw[ge (show 4<=1000/\0+t'.2.1.length<=1000000 by omega)];simp only[oCT,oBS,fY,iw hil,pG hil];exact fR ⟨_,_,_,_,_,_,_,_,rfl,hm,ZU.ended ⟨he0,he6⟩,A2 hi (ZU.ended ⟨he0,he6⟩) (by decide) (by decide) ⟨he0,he6⟩,.inr (.inr (.inl ⟨rfl,rfl,rfl⟩)),λh=>absurd h (by decide),λh=>absurd h (by decide)⟩
theorem JZ{a b:Int}:mmR false a b<=a/\mmR false a b<=b/\(mmR false a b=a\/mmR false a b=b):=by unfold mmR;simp;omega
theorem pH{α:Type}{l:List α}{i j:Nat}(h:i≠j)(a:α):(l.set i a)[j]?=l[j]?:=by simp_all
theorem Ue.setFile{d:i_}{o:DOp}{f:Nat}{x y:D_}(h:Ue d o)(hf:d[f]?=some x)(T':x.length<=y.length):Ue (d.set f y) o:=by rcases h with h|⟨h1,z,h2,h3,h4⟩;exact .inl h;refine .inr ⟨h1,?_⟩;by_cases e:f=o.1.toNat;subst e;rw[hf]at h2;cases h2;exact⟨y,iw (oGS hf).1 y,h3,by omega⟩;simp_all
theorem iL.setFile{ss:M_}{d:i_}{os:H_}{f:Nat}{x y:D_}(h:iL ss d os)(hf:d[f]?=some x)(h64:y.length<=64)(hc:∀c∈y,Pr ss c)(T':x.length<=y.length):iL ss (d.set f y) os:=⟨by rw[oLS];exact h.dlen,jX h.flen h64,jX h.cells hc,h.olen,λo ho=>(h.opens o ho).setFile hf T'⟩
theorem iL.setOpen{ss:M_}{d:i_}{os:H_}{i:Nat}{o:DOp}(h:iL ss d os)(ho:Ue d o):iL ss d (os.set i o):=⟨h.dlen,h.flen,h.cells,by rw[oLS];exact h.olen,jX h.opens ho⟩
theorem EW{ss:M_}{d:i_}{os:H_}{h:Int}(hF:iL ss d os):∃b,jK d os h=some (b,())/\(b=true->∃(j f:Nat)(o:DOp)(x:D_),h=j/\j<8/\os[j]?=some o/\o.1=f/\d[f]?=some x/\0<=o.2.1/\o.2.1<=x.length):=by
 have:Ok (jK d os h) λr=>∃b,r=(b,())/\(b=true->∃(j f:Nat)(o:DOp)(x:D_),h=j/\j<8/\os[j]?=some o/\o.1=f/\d[f]?=some x/\0<=o.2.1/\o.2.1<=x.length):=by unfold jK;delta fZ;refine fT (λZ'=>?_) λZ'=>?_;refine fT (λZ1=>?_) λZ1=>?_;refine gW λj hj=>?_;have h8:=hF.olen;refine f7 λo ho=>?_;refine fR ⟨_,rfl,λhb=>?_⟩;rcases hF.opens o (f8 ho)with⟨h1,_⟩|⟨h1,x,h2,h3,h4⟩;simp_all;exact⟨j,o.1.toNat,o,x,hj,by omega,ho,by omega,h2,h3,h4⟩;exact fR ⟨_,rfl,λh=>by cases h⟩;exact fR ⟨_,rfl,λh=>by cases h⟩
 obtain⟨_,e,b,rfl,hb⟩:=this;exact⟨b,e,hb⟩
theorem xW{ss:M_}{d:i_}{os:H_}(h:iL ss d os):jg d os=some (d,os,()):=copy17_ok (by have:=h.dlen;omega) (λx hx=>by have:=h.flen x hx;omega) (by have:=h.olen;omega)
theorem D1{ss:M_}{d:i_}{os:H_}{h:Int}{l:D_}(hs:AW ss)(hF:iL ss d os)(hl:l.length<=16)(W':∀c∈l,Pr ss c):Ok (oP d os h l) λr=>∃d' Y8 n b,r=(d',Y8,n,b,())/\iL ss d' Y8/\0<=n/\n<=16:=by
 obtain⟨b,eo,hb⟩:=EW (h:=h) hF;unfold oP;rw[xW hF];simp only[oBS,eo];cases b with
 |false=>simp only[Bool.not_false,oCT,oBS];exact fR ⟨_,_,_,_,rfl,hF,by decide,by decide⟩|true=>
 obtain⟨j,f,o,x,rfl,hj,ho,hof,hx,o0,o1⟩:=hb rfl;have hg:fU os j=some o:=ho;have hgx:fU d f=some x:=hx;have hjl:=(oGS ho).1;have ZD:=(oGS hx).1;have hx64:=hF.flen x (f8 hx);simp only[oNT,oCF,fY,oBS,hg];cases hw:o.2.2 with
 |false=>simp only[Bool.not_false,oCT,oBS];exact fR ⟨_,_,_,_,rfl,hF,by decide,by decide⟩|true=>
 delta fZ;simp only[oNT,oCF,oBS,mu (n:=(l.length:Int)) hs W' (by omega) (by omega),fY,hg,hof,hgx];rw[iG (x:=64-o.2.1)];obtain⟨m1,m2,m3⟩:=JZ (a:=(l.length:Int)) (b:=64-o.2.1);generalize mmR false (l.length:Int) (64-o.2.1)=k at m1 m2 m3;refine gQ (P:=λs'=>∃(i:Nat)(y:D_),s'=(l,j,k,k,(i:Int),(),(),d,f,os,y,())/\(i:Int)<=k/\(∀c∈y,Pr ss c)/\x.length<=y.length/\o.2.1+i<=y.length/\y.length<=64)
  (R:=λr=>∃y:D_,r=(l,j,k,k,k,false,(),(),d,f,os,y,())/\(∀c∈y,Pr ss c)/\x.length<=y.length/\o.2.1+k<=y.length/\y.length<=64) (m:=λs'=>(k-s'.2.2.2.2.1).toNat) ⟨0,x,rfl,by omega,hF.cells x (f8 hx),by omega,by omega,hx64⟩ (by unfold NN;dsimp only;omega) ?_ ?_
 rintro _ ⟨i,y,rfl,hi,hy,T',hoy,hy64⟩;unfold te;dsimp only;refine fT (λZ'=>?_) λZ'=>?_;delta fZ;simp only[hg,oBS,fY];rw[iG (x:=o.2.1+i)];obtain⟨c,hc⟩:=gz l i (by omega);have Zx:fU l i=some c:=hc;have hcp:=W' c (f8 hc);simp only[Zx,oBS];refine Ok.bind (P:=λr=>∃y':D_,r=(l,j,k,k,(i:Int),(),(),d,f,os,y',())/\(∀c∈y',Pr ss c)/\x.length<=y'.length/\o.2.1+i+1<=y'.length/\y'.length<=64) ?_ ?_;refine fT (λZ1=>?_) λZ1=>?_;refine gW λq hq=>?_;refine f7 λ_ hz=>?_;refine f7 λ_ _=>?_;rw[gu hz];exact fR ⟨_,rfl,jX hy hcp,by rw[oLS];omega,by rw[oLS];omega,by rw[oLS];omega⟩;refine fS (ge (by simp;omega)) ?_;exact fR ⟨_,rfl,kX hy (all_cons hcp gy),by rw[ij];omega,by rw[ij,List.length_singleton];omega,by rw[ij,List.length_singleton];omega⟩;rintro _ ⟨y',rfl,g1,g2,g3,g4⟩;dsimp only;rw[iG (x:=(i:Int)+1)];exact fR ⟨⟨i+1,y',rfl,by omega,g1,g2,by omega,g4⟩,by dsimp only;omega⟩;obtain rfl:(i:Int)=k:=by omega
 exact fR ⟨y,rfl,hy,T',hoy,hy64⟩;rintro _ ⟨y,rfl,hy,T',hoy,hy64⟩;dsimp only;simp only[hg,oBS,hof,fY,hgx];refine fS (by simp) ?_;rw[iG (x:=o.2.1+k),gu hx,gu ho];refine fR ⟨_,_,_,_,rfl,(hF.setFile hx hy64 hy T').setOpen (.inr ⟨by dsimp only;omega,y,?_,by dsimp only;omega,by dsimp only;omega⟩),by omega,by omega⟩;dsimp only;rw[hof,oTN];exact iw ZD y
theorem Hr{ss:M_}{d:i_}{os:H_}{h n:Int}(hF:iL ss d os)(hn:0<=n/\n<=65535):Ok (qx d os h n) λr=>(∃d' Y8,r=.inl (d',Y8,(),false,())/\iL ss d' Y8)\/(∃d' Y8 l,r=.inr (d',Y8,l,true,())/\iL ss d' Y8/\(l.length:Int)<=n/\l.length<=64/\∀c∈l,Pr ss c):=by
 obtain⟨b,eo,hb⟩:=EW (h:=h) hF;unfold qx;rw[xW hF];simp only[oBS,eo];cases b with
 |false=>exact fR (.inl ⟨_,_,rfl,hF⟩)|true=>
 obtain⟨j,f,o,x,rfl,hj,ho,hof,hx,o0,o1⟩:=hb rfl;have hg:fU os j=some o:=ho;have hgx:fU d f=some x:=hx;have hx64:=hF.flen x (f8 hx);rw[oDF (show ¬n<0 by omega)];simp only[oNT,oCF,fY,oBS,hg];cases hw:o.2.2 with
 |true=>exact fR (.inl ⟨_,_,rfl,hF⟩)|false=>
 delta fZ;simp only[oCF,fY,oBS,hg,hof,hgx];rw[iG (x:=(x.length:Int)-o.2.1)];obtain⟨m1,m2,m3⟩:=JZ (a:=n) (b:=(x.length:Int)-o.2.1);generalize mmR false n ((x.length:Int)-o.2.1)=k at m1 m2 m3;rw[iG (x:=o.2.1+k)];refine ju o0 λp hp=>?_;refine gW λq hq=>?_;refine fS (by unfold jl;simp;omega) ?_;have hw2:(oM x p (Nat.sub q p)).length=q-p:=by unfold oM;rw[oLT,List.length_drop];show min (q-p) _=q-p;omega
 refine fS (ge (by omega)) ?_;rw[gu ho];refine fR (.inr ⟨_,_,_,rfl,hF.setOpen (.inr ⟨by dsimp only;omega,x,by dsimp only;rw[hof,oTN];exact hx,by dsimp only;omega,by dsimp only;omega⟩),?_,?_,?_⟩);rw[ij,hw2];simp;omega;rw[ij,hw2];simp;omega;refine kX gy λc hc=>hF.cells x (f8 hx) c ?_;unfold oM at hc;exact List.mem_of_mem_drop (List.mem_of_mem_take hc)
theorem Et{ss:M_}{d:i_}{os:H_}{h:Int}(hF:iL ss d os):Ok (oQ d os h) λr=>∃d' Y8 b,r=(d',Y8,b,())/\iL ss d' Y8:=by have ⟨b,eo,hb⟩:=EW (h:=h) hF;unfold oQ;rw[xW hF];simp only[eo];cases b with|false=>exact fR ⟨_,_,_,rfl,hF⟩|true=>obtain⟨j,f,o,x,rfl,hj,ho,hof,hx,o0,o1⟩:=hb rfl;have hg:fU os j=some o:=ho;simp only[fY,oBS,hg];rw[gu ho];exact fR ⟨_,_,_,rfl,hF.setOpen (.inl ⟨rfl,rfl,rfl⟩)⟩
theorem Hm{ss:M_}{d:i_}{os:H_}{h n:Int}(hF:iL ss d os):Ok (qw d os h n) λr=>∃d' Y8 b,r=(d',Y8,b,())/\iL ss d' Y8:=by obtain⟨b,eo,hb⟩:=EW (h:=h) hF;unfold qw;rw[xW hF];simp only[eo];cases b with|false=>exact fR ⟨_,_,_,rfl,hF⟩|true=>obtain⟨j,f,o,x,rfl,hj,ho,hof,hx,o0,o1⟩:=hb rfl;have hg:fU os j=some o:=ho;have hgx:fU d f=some x:=hx;delta fZ;simp only[oNT,oCF,fY,oBS,hg,hof,hgx];by_cases hn:n<0;simp only[oDT hn,oCT,oBS];exact fR ⟨_,_,_,rfl,hF⟩;simp only[oDF hn,oCF,oBS];refine fT (λZ'=>?_) λZ'=>?_;exact fR ⟨_,_,_,rfl,hF⟩;simp only[fY,oBS,hg];rw[gu ho];exact fR ⟨_,_,_,rfl,hF.setOpen (.inr ⟨by dsimp only;omega,x,by simp_all,by dsimp only;omega,by dsimp only;omega⟩)⟩
theorem Lp{ss:M_}{d:i_}{os:H_}{file mode:Int}(hF:iL ss d os):Ok (qy d os file mode) λr=>∃d' Y8 h,r=(d',Y8,h,())/\iL ss d' Y8/\-1<=h/\h<=7:=by
 have h8:=hF.olen;have hd4:=hF.dlen;unfold qy;rw[xW hF];simp only[oBS];refine gQ (P:=λs'=>∃i:Nat,s'=(file,mode,(i:Int),d,os,(),(),d,os,())/\i<=8) (R:=λr=>∃i:Nat,r=(file,mode,(i:Int),false,d,os,(),(),d,os,())/\i<=8) (m:=λs'=>(8-s'.2.2.1).toNat) ⟨0,rfl,by omega⟩ (by unfold NN;dsimp only;omega) ?_ ?_;rintro _ ⟨i,rfl,hi⟩;unfold tS;delta fZ;simp only[h8,fY,oBS];refine fT (λZ'=>?_) λZ'=>?_;refine f7 λo ho=>?_;refine fT (λZ1=>?_) λZ1=>?_;rw[iG (x:=(i:Int)+1)];exact fR ⟨⟨i+1,rfl,by omega⟩,by dsimp only;omega⟩;exact fR ⟨i,rfl,hi⟩;exact fR ⟨i,rfl,hi⟩;rintro _ ⟨i,rfl,hi⟩;delta fZ;simp only[h8];have bad:iL ss d os/\(-1:Int)<=-1/\(-1:Int)<=7:=⟨hF,by decide,by decide⟩;refine Ok.bind (P:=λr=>(∃b:Bool,r=(file,mode,(i:Int),b,(),(),d,os,())/\(b=false->0<=file/\file<d.length/\i<8))) ?_ ?_;refine fT (λZ'=>?_) λZ'=>?_;exact fR ⟨true,rfl,λh=>by cases h⟩;refine fT (λZ1=>?_) λZ1=>?_;exact fR ⟨true,rfl,λh=>by cases h⟩;refine fT (λhcc=>?_) λhcc=>?_;exact fR ⟨true,rfl,λh=>by cases h⟩;refine fT (λXE=>?_) λXE=>?_;exact fR ⟨true,rfl,λh=>by cases h⟩;exact fR ⟨_,rfl,λh=>⟨by omega,by omega,by rw[beq_eq_false_iff_ne]at h;omega⟩⟩;rintro _ ⟨b,rfl,hb⟩;dsimp only;cases b with
 |true=>exact fR ⟨_,_,_,rfl,bad⟩|false=>
 obtain⟨f0,f1,hi8⟩:=hb rfl;obtain⟨f,rfl⟩:∃f:Nat,file=f:=⟨file.toNat,by omega⟩;obtain⟨x,hx⟩:=gz d f (by omega);obtain⟨o,ho⟩:=gz os i (by omega);have hgx:fU d f=some x:=hx;have hg:fU os i=some o:=ho;have ZD:=(oGS hx).1;have hil:=(oGS ho).1;simp only[oCF,fY,oBS,hgx,hg];by_cases h1:mode=1;subst h1;simp only[BEq.rfl,oCT];rw[gu hx];simp only[h8];refine gQ (P:=λs'=>∃(q:Nat)(Y8:H_),s'=((f:Int),1,(i:Int),((8:Nat):Int),(q:Int),(),(),d.set f [],Y8,())/\q<=8/\Y8.length=8/\(∀(j:Nat) o,j<q->Y8[j]?=some o->Ue (d.set f []) o)/\∀j:Nat,q<=j->Y8[j]?=os[j]?)
  (R:=λr=>∃(z:Int)(Y8:H_),r=((f:Int),1,(i:Int),((8:Nat):Int),z,false,(),(),d.set f [],Y8,())/\iL ss (d.set f []) Y8) (m:=λs'=>(8-s'.2.2.2.2.1).toNat) ⟨0,os,rfl,by omega,h8,λj o hj=>by omega,λ_ _=>rfl⟩ (by unfold NN;dsimp only;omega) ?_ ?_
 rintro _ ⟨q,Y8,rfl,hq,YH,ha,hr⟩;unfold tR;dsimp only;refine fT (λZ'=>?_) λZ'=>?_;obtain⟨o',Zv⟩:∃o',Y8[q]?=some o':=⟨_,oGE (by omega)⟩;have hg':fU Y8 q=some o':=Zv;have hop:=hF.opens o' (f8 (by rw[<- hr q (by omega)];exact Zv));simp only[fY,oBS,hg'];refine Ok.bind (P:=λr=>∃o2:DOp,Ue (d.set f []) o2/\r=((f:Int),1,(i:Int),((8:Nat):Int),(q:Int),(),(),d.set f [],Y8.set q o2,())) ?_ ?_;by_cases hof:o'.1=f;simp only[beq_iff_eq.2 hof,oCT];rw[gu Zv];exact fR ⟨_,.inr ⟨by dsimp only;omega,[],by dsimp only;rw[hof,oTN];exact iw ZD [],by dsimp only;omega,by simp⟩,rfl⟩;simp only[oBF hof,oCF];refine fR ⟨o',?_,by rw[EK Zv]⟩;rcases hop with h|⟨g1,z,g2,g3⟩;exact .inl h;exact .inr ⟨g1,z,by rw[pH (by omega)];exact g2,g3⟩;rintro _ ⟨o2,hop2,rfl⟩;dsimp only;rw[iG (x:=(q:Int)+1)];refine fR ⟨⟨q+1,_,rfl,by omega,by rw[oLS];exact YH,λj o hj hjo=>?_,λj hj=>?_⟩,by dsimp only;omega⟩;by_cases e:q=j;subst e;rw[show(Y8.set q o2)[q]?=some o2 from iw (by omega) o2]at hjo;cases hjo;exact hop2;rw[pH e]at hjo;exact ha j o (by omega) hjo;rw[pH (by omega)];exact hr j (by omega);refine fR ⟨_,_,rfl,⟨by rw[oLS];exact hd4,jX hF.flen (by simp),jX hF.cells gy,YH,λo' Zv=>?_⟩⟩;obtain⟨j,hj⟩:=List.getElem?_of_mem Zv;have:=(oGS hj).1;exact ha j o' (by omega) hj;rintro _ ⟨z,Y8,rfl,hF'⟩;have YH:=hF'.olen;obtain⟨o',Zv⟩:∃o',Y8[i]?=some o':=⟨_,oGE (by omega)⟩;have hg':fU Y8 i=some o':=Zv;simp only[fY,oBS,hg',show((1:Int)==2)=false from rfl,oCF];rw[gu Zv];exact fR ⟨_,_,_,rfl,hF'.setOpen (.inr ⟨by dsimp only;omega,[],by dsimp only;rw[oTN];exact iw ZD [],by dsimp only;omega,by simp⟩),by omega,by omega⟩;simp only[oBF h1,oCF];rw[gu ho];by_cases h2:mode=2;subst h2;simp only[BEq.rfl,oCT,oBS,iw hil,pG hil];exact fR ⟨_,_,_,rfl,hF.setOpen (.inr ⟨by dsimp only;omega,x,by dsimp only;rw[oTN];exact hx,by dsimp only;omega,by dsimp only;omega⟩),by omega,by omega⟩;simp only[oBF h2,oCF,oBS];exact fR ⟨_,_,_,rfl,hF.setOpen (.inr ⟨by dsimp only;omega,x,by dsimp only;rw[oTN];exact hx,by dsimp only;omega,by dsimp only;omega⟩),by omega,by omega⟩
theorem ia(n:Int)(b:Bool):∃v,gt n b=some (0,v,0,0,(),-1,false,())/\W16 v:=by cases b with|true=>exact⟨_,rfl,j5 _⟩|false=>exact⟨_,rfl,j5 _⟩
theorem SM(n:Int)(b:Bool):∃v,gt n b=some (0,v,0,0,(),-1,false,())/\W16 v/\(b=false->v=65535)/\(b=true->0<=n->n<=1000->v≠65535):=by cases b with|true=>exact⟨_,rfl,j5 _,(λh=>by cases h),λ_ h0 h1=>by rw[gr h0 (by omega)];omega⟩|false=>exact⟨_,rfl,j5 _,λ_=>by decide,(λh=>by cases h)⟩
theorem i3{ss:M_}{v:Int}(h:W16 v):Pr ss (0,v,0,0):=.inl ⟨.inl rfl,rfl,rfl,h⟩
theorem OK{ss:M_}{v:Int}(h:W16 v):Pr ss (2,v,0,0):=.inl ⟨.inr rfl,rfl,rfl,h⟩
theorem Oe{ss:M_}{us:I_}{sk:Int}{l:D_}(hu:us.length<=200)(ho:∀(i:Nat) x,us[i]?=some x->Ul ss i x)(hl:l.length<=16)(W':∀c∈l,Pr ss c):Ok (mp us sk l) λr=>∃X9 n b,r=(X9,n,b,())/\X9.length<=200/\∀(i:Nat) x,X9[i]?=some x->Ul ss i x:=by
 have hc:kM us=some (us,()):=Cy (by omega) λx hx=>by obtain⟨j,hj⟩:=List.getElem?_of_mem hx;have:=(ho j x hj).2.2.2.1;omega
 unfold mp;rw[hc];delta fZ;refine Ok.bind (P:=λr=>∃b:Bool,r=(us,sk,l,b,us,())/\(b=false->0<=sk/\sk<2/\us.length<200)) ?_ ?_;refine fT (λZ'=>?_) λZ'=>?_;exact fR ⟨true,rfl,λh=>by cases h⟩;refine fT (λZ1=>?_) λZ1=>?_;exact fR ⟨true,rfl,λh=>by cases h⟩;refine fT (λhcc=>?_) λhcc=>?_;exact fR ⟨true,rfl,λh=>by cases h⟩;exact fR ⟨_,rfl,λh=>⟨by omega,by omega,by omega⟩⟩;rintro _ ⟨b,rfl,hb⟩;dsimp only;cases b with
 |true=>exact fR ⟨_,_,_,rfl,hu,ho⟩|false=>
 obtain⟨s0,s1,hlt⟩:=hb rfl;simp only[oCF];refine fS (ge (by omega)) (fS (ge (by simp;omega)) ?_);refine fR ⟨_,_,_,rfl,by rw[ij];simp;omega,λi x hx=>?_⟩;simp at hx;rw[List.getElem?_append]at hx;split at hx;simp_all;rename_i hi;obtain⟨q,hq⟩:∃q,i-us.length=q:=⟨_,rfl⟩;rw[hq]at hx;cases q with
 |zero=>
 have:x=((us.length:Int),sk,l):=by simp_all
 subst this;exact⟨by omega,s0,s1,hl,W'⟩
 |succ q=>simp at hx
theorem QJ{ss:M_}{us:I_}{sk:Int}{l:D_}(hu:us.length<=200)(ho:∀(i:Nat) x,us[i]?=some x->Ul ss i x)(hl:l.length<=16)(W':∀c∈l,Pr ss c):Ok (mp us sk l) λr=>∃X9 n b,r=(X9,n,b,())/\X9.length<=200/\(∀(i:Nat) x,X9[i]?=some x->Ul ss i x)/\((b=false/\X9=us)\/(b=true/\n=l.length/\X9=us++[((us.length:Int),sk,l)]/\0<=sk/\sk<2/\us.length<200)):=by
 have hc:kM us=some (us,()):=Cy (by omega) λx hx=>by obtain⟨j,hj⟩:=List.getElem?_of_mem hx;have:=(ho j x hj).2.2.2.1;omega
 unfold mp;rw[hc];delta fZ;refine Ok.bind (P:=λr=>∃b:Bool,r=(us,sk,l,b,us,())/\(b=false->0<=sk/\sk<2/\us.length<200)) ?_ ?_;refine fT (λZ'=>?_) λZ'=>?_;exact fR ⟨true,rfl,λh=>by cases h⟩;refine fT (λZ1=>?_) λZ1=>?_;exact fR ⟨true,rfl,λh=>by cases h⟩;refine fT (λhcc=>?_) λhcc=>?_;exact fR ⟨true,rfl,λh=>by cases h⟩;exact fR ⟨_,rfl,λh=>⟨by omega,by omega,by omega⟩⟩;rintro _ ⟨b,rfl,hb⟩;cases b with
 |true=>exact fR ⟨_,_,_,rfl,hu,ho,.inl ⟨rfl,rfl⟩⟩|false=>
 obtain⟨s0,s1,hlt⟩:=hb rfl;simp only[oCF];refine fS (ge (by omega)) (fS (ge (by simp;omega)) ?_);refine fR ⟨_,_,_,rfl,by rw[ij];simp;omega,λi x hx=>?_,.inr ⟨rfl,rfl,rfl,s0,s1,by omega⟩⟩;simp at hx;rw[List.getElem?_append]at hx;split at hx;simp_all;rename_i hi;obtain⟨q,hq⟩:∃q,i-us.length=q:=⟨_,rfl⟩;rw[hq]at hx;cases q with
 |zero=>
 have:x=((us.length:Int),sk,l):=by simp_all
 subst this;exact⟨by omega,s0,s1,hl,W'⟩
 |succ q=>simp at hx
theorem zA{ss:M_}{ins:j_}{sk n:Int}(hi:ins.length<=2)(h:∀x∈ins,x.length<=64/\∀w∈x,W16 w)(hn:0<=n/\n<=65535):Ok (mF ins sk n) λr=>(∃Yd,r=.inl (Yd,(),false,())/\Yd.length<=2/\∀x∈Yd,x.length<=64/\∀w∈x,W16 w)\/(∃Yd l,r=.inr (Yd,l,true,())/\(Yd.length<=2/\∀x∈Yd,x.length<=64/\∀w∈x,W16 w)/\(l.length:Int)<=n/\l.length<=64/\∀c∈l,Pr ss c):=by
 unfold mF;rw[Cw (by omega) (λx hx=>by grind)];delta fZ;simp only[oBS];refine Ok.bind (P:=λr=>∃b:Bool,r=(ins,sk,n,b,ins,())/\(b=false->0<=sk/\sk<ins.length)) ?_ ?_;refine fT (λZ'=>?_) λZ'=>?_;exact fR ⟨true,rfl,λh=>by cases h⟩;refine fT (λZ1=>?_) λZ1=>?_;exact fR ⟨true,rfl,λh=>by cases h⟩;exact fR ⟨_,rfl,λ_=>⟨by omega,by omega⟩⟩;rintro _ ⟨b,rfl,hb⟩;dsimp only;cases b with
 |true=>exact fR (Or.inl ⟨_,rfl,hi,h⟩)|false=>
 obtain⟨s0,s1⟩:=hb rfl;obtain⟨j,rfl⟩:∃j:Nat,sk=j:=⟨sk.toNat,by omega⟩;obtain⟨x,hx⟩:=gz ins j (by omega);have hgx:fU ins j=some x:=hx;have hjl:=(oGS hx).1;obtain⟨hx64,hxw⟩:=h x (f8 hx);simp only[oCF,oBS,fY,hgx];obtain⟨m1,m2,m3⟩:=JZ (a:=n) (b:=(x.length:Int));generalize mmR false n (x.length:Int)=k at m1 m2 m3;obtain⟨q,rfl⟩:∃q:Nat,k=q:=⟨k.toNat,by omega⟩;simp only[fY,oBS];refine fS (by unfold jl;simp;omega) ?_;have hw:oM x 0 (Nat.sub q 0)=x.take q:=by unfold oM;rw[List.drop_zero];rfl
 have hwl:(x.take q).length=q:=by rw[oLT];omega
 rw[hw];simp only[hwl];have e:gd jf NN ((j:Int),(q:Int),x.take q,(q:Int),0,ins,[],())=some ((j:Int),(q:Int),x.take q,(q:Int),(q:Int),false,ins,(x.take q).map (λw=>(0,w,0,0)),()):=by have:=nz (f:=jf) (N:=NN) (st:=λi=>((j:Int),(q:Int),x.take q,(q:Int),(i:Int),ins,((x.take q).take i).map (λw=>((0:Int),w,(0:Int),(0:Int))),())) (n:=q) (t:=((j:Int),(q:Int),x.take q,(q:Int),(q:Int),false,ins,(x.take q).map (λw=>((0:Int),w,(0:Int),(0:Int))),())) (by unfold NN;omega) ?_ ?_;exact this;intro i hi;unfold jf;dsimp only;rw[oDT (show(i:Int)<q by omega),fY];simp only[oCT,oBS];refine f7 λw hw=>?_;refine fS (ge (by simp;omega)) ?_;rw[iG (x:=(i:Int)+1)];refine fR ?_;rw[<- jY (λw=>((0:Int),w,(0:Int),(0:Int))) hw];rfl;unfold jf;dsimp only;rw[oDF (show ¬(q:Int)<q by omega)];refine fR ?_;rw[show(x.take q).take q=x.take q from List.take_of_length_le (by omega)]
 rw[e];simp only[fY,oBS,hgx];refine fS (by unfold jl;simp;omega) ?_;rw[gu hx];have hd:∀c∈oM x q (Nat.sub x.length q),c∈x:=λc hc=>by unfold oM at hc;exact List.mem_of_mem_drop (List.mem_of_mem_take hc)
 have hdl:(oM x q (Nat.sub x.length q)).length<=64:=by unfold oM;rw[oLT,List.length_drop];omega
 refine fR (.inr ⟨_,_,rfl,⟨by rw[oLS];exact hi,jX h ⟨hdl,λw hw=>hxw w (hd w hw)⟩⟩,by rw[oLP,hwl];omega,by rw[oLP,hwl];omega,λc hc=>?_⟩);obtain⟨w,hw,rfl⟩:=List.mem_map.1 hc;exact i3 (hxw w (List.mem_of_mem_take hw))
theorem yL{n:Int}{ss:M_}{i stop trap count pc call:Int}{args data:D_}(hs:AW ss)(h:AX n ss i stop trap count pc call args data)(hn:n<=1099511627776):mN i stop trap count pc call args data=some (true,()):=by have ⟨⟨a1,a2⟩,⟨b1,b2⟩,⟨c1,c2⟩,⟨d1,d2⟩,⟨e1,e2⟩,⟨f1,f2⟩,⟨g1,g2⟩,⟨k1,k2⟩,_,_⟩:=h;refine gV ?_;unfold mN;rw[mu hs g2 (by omega) (by omega),mu hs k2 (by omega) (by omega)];refine fS (oDT a1) (fS (oDT (by omega)) (fS (oDT b1) (fS (oDT b2) (fS (oDT c1) (fS (oDT c2) (fS (oDT d1) (fS (oDT (by omega)) (fS (oDT e1) (fS (oDT e2) (fS (oDT f1) (fS (oDT f2) ?_)))))))))));exact fR rfl
theorem Eh{n:Int}{ss:M_}{i trap count pc call:Int}{args data:D_}(h:AX n ss i 1 trap count pc call args data):oS i 1 trap count pc call args data=some (true,()):=by
 obtain⟨hl,hk⟩:=h.hkind rfl;obtain⟨b,eb,ZI,ZP⟩:=E5 h.hcall;have h3:=Pd call;have e:gd j9 NN (b,args,(args.length:Int),0,i,1,trap,count,pc,call,args,data,())=some (.inr (b,args,(args.length:Int),(args.length:Int),false,i,1,trap,count,pc,call,args,data,())):=by refine nz (f:=j9) (N:=NN) (st:=λq=>(b,args,(args.length:Int),(q:Int),i,1,trap,count,pc,call,args,data,())) (n:=args.length) (by unfold NN;omega) ?_ ?_;intro q hq;obtain⟨k,hkq⟩:=gz (kB call) q (by omega);obtain⟨a,ha⟩:=gz args q (by omega);unfold j9;dsimp only;rw[oDT (show(q:Int)<args.length by omega),fY];simp only[oCT,oBS,show fU args q=some a from ha,ZP q,hkq,PD,hk q k a hkq ha,oCF];rw[iG (x:=(q:Int)+1)];exact fR rfl;unfold j9;dsimp only;rw[oDF (show ¬(args.length:Int)<args.length by omega)];exact fR rfl
 unfold oS;delta fZ;simp_all
def RY(call:Int):Bool:=decide ((1<=call/\call<=7)\/call=13\/call=14)
theorem PX{call:Int}(h:0<=call/\call<=15):tQ call=some (RY call,()):=by rcases uw h with rfl|rfl|rfl|rfl|rfl|rfl|rfl|rfl|rfl|rfl|rfl|rfl|rfl|rfl|rfl|rfl<;>rfl
structure V2 (ss:M_)(t v r o:Int)(data:D_)(sp:Int)(w:Bool):Prop where
 val:Pr ss (t,v,r,o)
 dat:data.length<=64/\∀c∈data,Pr ss c
 spn:-1<=sp/\sp<=3
def R5(us X9:I_)(call:Int)(args data:D_)(t v:Int):Prop:=(call≠13/\X9=us)\/(call=13/\t=0/\((X9=us/\v=65535)\/(v≠65535/\∃a,args[0]?=some a/\X9=us++[((us.length:Int),a.2.1,data)]/\0<=a.2.1/\a.2.1<2/\us.length<200)))
def Uo(call:Int)(args dat:D_):Prop:=dat≠[]->vA call=2/\∃q:DCn,args[2]?=some q/\(dat.length:Int)<=q.2.1
def DoX(ss:M_)(us0:I_)(call:Int)(args dat0:D_)(r:v_×v_×g_×i_×H_×I_×Int×Int×Int×Int×D_×Int×Bool×Int×Unit):Prop:=∃ck rn ins d os us t v rg o data,r=(ck,rn,ins,d,os,us,t,v,rg,o,data,-1,false,0,())/\vB ss ck rn ins d os us/\Pr ss (t,v,rg,o)/\(data.length<=16/\∀c∈data,Pr ss c)/\R5 us0 us call args dat0 t v/\Uo call args data
theorem ni{ss:M_}{us0:I_}{call:Int}{args dat0:D_}{ck rn:M_}{ins:j_}{d:i_}{os:H_}{us:I_}{t v rg o:Int}{data:D_}(h:vB ss ck rn ins d os us)(hv:Pr ss (t,v,rg,o))(hd:data.length<=16/\∀c∈data,Pr ss c)
 (hu:R5 us0 us call args dat0 t v)(hp:Uo call args data):Ok (some (ck,rn,ins,d,os,us,t,v,rg,o,data,(-1:Int),false,(0:Int),())) (DoX ss us0 call args dat0):=fR ⟨_,_,_,_,_,_,_,_,_,_,_,rfl,h,hv,hd,hu,hp⟩
theorem kE{call:Int}{args:D_}:Uo call args []:=λh=>absurd rfl h
def DoP(ss:M_)(r:v_×v_×g_×i_×H_×I_×Int×Int×Int×Int×D_×Int×Bool×Int×Unit):Prop:=∃ck rn ins d os us t v rg o data,r=(ck,rn,ins,d,os,us,t,v,rg,o,data,-1,false,0,())/\vB ss ck rn ins d os us/\Pr ss (t,v,rg,o)/\data.length<=16/\∀c∈data,Pr ss c
theorem nj{ss:M_}{ck rn:M_}{ins:j_}{d:i_}{os:H_}{us:I_}{t v rg o:Int}{data:D_}(h:vB ss ck rn ins d os us)(hv:Pr ss (t,v,rg,o))(hd:data.length<=16/\∀c∈data,Pr ss c):
 Ok (some (ck,rn,ins,d,os,us,t,v,rg,o,data,(-1:Int),false,(0:Int),())) (DoP ss):=fR ⟨_,_,_,_,_,_,_,_,_,_,_,rfl,h,hv,hd⟩
theorem Pr.val{ss:M_}{c:DCn}(h:Pr ss c):W16 c.2.1:=by rcases h with⟨_,_,_,h⟩|⟨_,h,_⟩;exact h;rw[h];exact⟨by decide,by decide⟩
theorem Sy{n:Int}{ss:M_}{i trap count pc call:Int}{args data:D_}(h:AX n ss i 1 trap count pc call args data):vA call=0\/vA call=1\/(vA call=2/\∃a,args[2]?=some a/\a.2.1<=16):=by
 by_cases h2:vA call=2;exact .inr (.inr ⟨h2,h.hbuf rfl h2⟩);have:vA call=0\/vA call=1\/vA call=2:=by unfold vA;split<;>first|omega|(split<;>omega)
 omega
theorem rV{α:Type}{a b:Option α}{Q:α->Prop}(h:Ok a Q)(e:b=a):Ok b Q:=by simp_all
set_option maxHeartbeats 4000000 in
theorem VU{n:Int}{ss:M_}{ck rn:M_}{ins:j_}{d:i_}{os:H_}{us:I_}{i trap count pc call:Int}{args data:D_}(hs:AW ss)(hO:vB ss ck rn ins d os us)(hR:AX n ss i 1 trap count pc call args data) (ha:RY call=true)(hn:n<=1099511627776):Ok (nG ck rn ins d os us i 1 trap count pc call args data) (DoP ss):=by
 have hc:=hR.hcall;have X':=hR.hdata;have Yh:=hR.hargs;unfold nG;rw[u3 hs hO,yL hs hR hn,PX hc,ha,Eh hR,rP hc];simp only[oBS,oNT,oCF,oBN];refine Ok.bind (P:=λr=>r=(false,ck,rn,ins,d,os,us,i,1,trap,count,pc,call,args,data,(),(),(),(),(),(),0,0,0,0,(),0,false,())) ?_ ?_;rcases Sy hR with h|h|⟨h,a,h2,h3⟩;rw[h];exact fR rfl;rw[h];exact fR rfl;rw[h];simp only[BEq.rfl,oCT,show fU args 2=some a from h2,oBS];rw[oDF (show ¬a.2.1>16 by omega)];exact fR rfl;rintro _ rfl;dsimp only;delta fZ;simp only[oCF,Cx hO,oBS];refine gQ (P:=λs'=>∃(k:Nat)(vs:M_),s'=(args,(args.length:Int),(k:Int),ck,rn,ins,d,os,us,i,1,trap,count,pc,call,args,data,(),(),(),(),(),(),0,0,0,0,(),0,false,ck,rn,ins,d,os,us,vs,())/\k<=args.length/\vs.length=3/\(∀v∈vs,W16 v)/\∀(j:Nat) a,j<k->args[j]?=some a->vs[j]?=some a.2.1)
  (R:=λr=>∃(z:Int)(vs:M_),r=(args,(args.length:Int),z,false,ck,rn,ins,d,os,us,i,1,trap,count,pc,call,args,data,(),(),(),(),(),(),0,0,0,0,(),0,false,ck,rn,ins,d,os,us,vs,())/\vs.length=3/\(∀v∈vs,W16 v)/\∀(j:Nat) a,args[j]?=some a->vs[j]?=some a.2.1) (m:=λs'=>(s'.2.1-s'.2.2.1).toNat)
  ⟨0,[0,0,0],rfl,by omega,rfl,all_cons ⟨by decide,by decide⟩ (all_cons ⟨by decide,by decide⟩ (all_cons ⟨by decide,by decide⟩ gy)),λj a hj=>by omega⟩ (by unfold NN;dsimp only;omega) ?_ ?_
 rintro _ ⟨k,vs,rfl,hk,B',WJ,hva⟩;unfold r6;dsimp only;refine fT (λZ'=>?_) λZ'=>?_;simp only[fY,oBS];refine f7 λa hak=>?_;have hw:=(Yh.2 a (f8 hak)).val;refine f7 λv hv=>?_;refine f7 λ_ _=>?_;rw[gi (x:=a.2.1) (by have:=hw.1;omega) (by have:=hw.2;omega),iG (x:=(k:Int)+1),gu hv];refine fR ⟨⟨k+1,_,rfl,by omega,by rw[oLS];exact B',jX WJ hw,λj a' hj WB=>?_⟩,by dsimp only;omega⟩;by_cases e:k=j;subst e;rw[hak]at WB;cases WB;exact iw (by omega) _;rw[pH e];exact hva j a' (by omega) WB;refine fR ⟨_,vs,rfl,B',WJ,λj a WB=>hva j a ?_ WB⟩;have:=(oGS WB).1;omega;rintro _ ⟨z,vs,rfl,B',WJ,hva⟩;obtain⟨v0,ev0,YQ⟩:=ia 0 false;obtain⟨a0,a1,a2,rfl⟩:∃a b c,vs=[a,b,c]:=by match vs,B' with| [a,b,c],_=>exact⟨a,b,c,rfl⟩
 have w0:W16 a0:=WJ a0 (by simp);have w1:W16 a1:=WJ a1 (by simp);have w2:W16 a2:=WJ a2 (by simp);have g0:fU [a0,a1,a2] 0=some a0:=rfl;have g1:fU [a0,a1,a2] 1=some a1:=rfl;have g2:fU [a0,a1,a2] 2=some a2:=rfl;have a2le:vA call=2->a2<=16:=λh=>by
  obtain⟨a,h2,h3⟩:=hR.hbuf rfl h;have:=hva 2 a h2;have:a2=a.2.1:=by simpa using this
  omega
 have ZV:([]:D_).length<=16/\∀c∈([]:D_),Pr ss c:=⟨by decide,gy⟩;dsimp only;simp only[ev0,oBS,g0,g1,g2];rcases uw hc with rfl|rfl|rfl|rfl|rfl|rfl|rfl|rfl|rfl|rfl|rfl|rfl|rfl|rfl|rfl|rfl;all_goals first|(exact absurd ha (by decide))|simp only[Int.reduceBEq,oCT,oCF]
 obtain⟨_,e,d1,WM,m,b,rfl,hF,_⟩:=D1 (h:=a0) hs hO.files X'.1 X'.2;obtain⟨v,ev,hv⟩:=ia m b;simp only[e,ev,oBS];exact nj ⟨hO.clock,hO.rand,hO.ilen,hO.inp,hF,hO.ulen,hO.outs⟩ (i3 hv) ZV;have Yi:=a2le rfl;obtain⟨_,e,hr⟩:=Hr (h:=a0) (n:=a2) hO.files w2;rcases hr with⟨d1,WM,rfl,hF⟩|⟨d1,WM,l,rfl,hF,hl,_,W'⟩;simp only[e,ev0,oBS];exact nj ⟨hO.clock,hO.rand,hO.ilen,hO.inp,hF,hO.ulen,hO.outs⟩ (i3 YQ) ZV;obtain⟨v,ev,hv⟩:=ia (l.length:Int) true;simp only[e,ev,oBS];exact nj ⟨hO.clock,hO.rand,hO.ilen,hO.inp,hF,hO.ulen,hO.outs⟩ (i3 hv) ⟨by omega,W'⟩;obtain⟨_,e,d1,WM,h,rfl,hF,h0,h7⟩:=Lp (file:=a0) (mode:=a1) hO.files;simp only[e,oBS];have Xe:vB ss ck rn ins d1 WM us:=⟨hO.clock,hO.rand,hO.ilen,hO.inp,hF,hO.ulen,hO.outs⟩;by_cases hh:h>=0;simp only[oDT hh,oCT];exact nj Xe (OK (j5 _)) ZV;simp only[oDF hh,oCF];exact nj Xe (i3 YQ) ZV;obtain⟨_,e,d1,WM,b,rfl,hF⟩:=Et (h:=a0) hO.files;obtain⟨v,ev,hv⟩:=ia 0 b;simp only[e,ev,oBS];exact nj ⟨hO.clock,hO.rand,hO.ilen,hO.inp,hF,hO.ulen,hO.outs⟩ (i3 hv) ZV;obtain⟨_,e,d1,WM,b,rfl,hF⟩:=Hm (h:=a0) (n:=a1) hO.files;obtain⟨v,ev,hv⟩:=ia 0 b;simp only[e,ev,oBS];exact nj ⟨hO.clock,hO.rand,hO.ilen,hO.inp,hF,hO.ulen,hO.outs⟩ (i3 hv) ZV;cases ck with
 |nil=>exact nj hO (i3 YQ) ZV|cons x ck=>
  obtain⟨v,ev,hv⟩:=ia (wk .i64 x) true;have hw:oM (x::ck) 1 (Nat.sub (x::ck).length 1)=ck:=by unfold oM;simp
  refine rV (nj (ck:=ck) ⟨⟨by have:=hO.clock.1;simp at this;omega,λw hw=>hO.clock.2 w (by simp[hw])⟩,hO.rand,hO.ilen,hO.inp,hO.files,hO.ulen,hO.outs⟩ (i3 hv) ZV) ?_;simp only[oLC,show fU (x::ck) 0=some x from rfl,oBS,ev];have hd:∀inst:Decidable (((ck.length+1:Nat):Int)>0),@decide _ inst=true:=λinst=>oDT (by omega);rw[oLC]at hw;rw[hd,show jl 1 (ck.length+1) (ck.length+1)=true by unfold jl;simp,hw];rfl
 cases rn with
 |nil=>exact nj hO (i3 YQ) ZV|cons x rn=>
  obtain⟨v,ev,hv⟩:=ia (wk .i64 x) true;have hw:oM (x::rn) 1 (Nat.sub (x::rn).length 1)=rn:=by unfold oM;simp
  refine rV (nj (rn:=rn) ⟨hO.clock,⟨by have:=hO.rand.1;simp at this;omega,λw hw=>hO.rand.2 w (by simp[hw])⟩,hO.ilen,hO.inp,hO.files,hO.ulen,hO.outs⟩ (i3 hv) ZV) ?_;simp only[oLC,show fU (x::rn) 0=some x from rfl,oBS,ev];have hd:∀inst:Decidable (((rn.length+1:Nat):Int)>0),@decide _ inst=true:=λinst=>oDT (by omega);rw[oLC]at hw;rw[hd,show jl 1 (rn.length+1) (rn.length+1)=true by unfold jl;simp,hw];rfl
 obtain⟨_,e,us1,m,b,rfl,hu,ho⟩:=Oe (sk:=a0) hO.ulen hO.outs X'.1 X'.2;obtain⟨v,ev,hv⟩:=ia m b;simp only[e,ev,oBS];exact nj ⟨hO.clock,hO.rand,hO.ilen,hO.inp,hO.files,hu,ho⟩ (i3 hv) ZV;have Yi:=a2le rfl;obtain⟨_,e,hr⟩:=zA (ss:=ss) (sk:=a0) (n:=a2) hO.ilen hO.inp w2;rcases hr with⟨in1,rfl,Xr,Ya⟩|⟨in1,l,rfl,⟨Xr,Ya⟩,hl,_,W'⟩;simp only[e,ev0,oBS];exact nj ⟨hO.clock,hO.rand,Xr,Ya,hO.files,hO.ulen,hO.outs⟩ (i3 YQ) ZV;obtain⟨v,ev,hv⟩:=ia (l.length:Int) true;simp only[e,ev,oBS];exact nj ⟨hO.clock,hO.rand,Xr,Ya,hO.files,hO.ulen,hO.outs⟩ (i3 hv) ⟨by omega,W'⟩
set_option maxHeartbeats 4000000 in
theorem Vd{n:Int}{ss:M_}{ck rn:M_}{ins:j_}{d:i_}{os:H_}{us:I_}{i trap count pc call:Int}{args data:D_}(hs:AW ss)(hO:vB ss ck rn ins d os us)(hR:AX n ss i 1 trap count pc call args data) (ha:RY call=true)(hn:n<=1099511627776):Ok (nG ck rn ins d os us i 1 trap count pc call args data) (DoX ss us call args data):=by
 have hc:=hR.hcall;have X':=hR.hdata;have Yh:=hR.hargs;unfold nG;rw[u3 hs hO,yL hs hR hn,PX hc,ha,Eh hR,rP hc];simp only[oBS,oNT,oCF,oBN];refine Ok.bind (P:=λr=>r=(false,ck,rn,ins,d,os,us,i,1,trap,count,pc,call,args,data,(),(),(),(),(),(),0,0,0,0,(),0,false,())) ?_ ?_;rcases Sy hR with h|h|⟨h,a,h2,h3⟩;rw[h];exact fR rfl;rw[h];exact fR rfl;rw[h];simp only[BEq.rfl,oCT,show fU args 2=some a from h2,oBS];rw[oDF (show ¬a.2.1>16 by omega)];exact fR rfl;rintro _ rfl;dsimp only;delta fZ;simp only[oCF,Cx hO,oBS];refine gQ (P:=λs'=>∃(k:Nat)(vs:M_),s'=(args,(args.length:Int),(k:Int),ck,rn,ins,d,os,us,i,1,trap,count,pc,call,args,data,(),(),(),(),(),(),0,0,0,0,(),0,false,ck,rn,ins,d,os,us,vs,())/\k<=args.length/\vs.length=3/\(∀v∈vs,W16 v)/\∀(j:Nat) a,j<k->args[j]?=some a->vs[j]?=some a.2.1)
  (R:=λr=>∃(z:Int)(vs:M_),r=(args,(args.length:Int),z,false,ck,rn,ins,d,os,us,i,1,trap,count,pc,call,args,data,(),(),(),(),(),(),0,0,0,0,(),0,false,ck,rn,ins,d,os,us,vs,())/\vs.length=3/\(∀v∈vs,W16 v)/\∀(j:Nat) a,args[j]?=some a->vs[j]?=some a.2.1) (m:=λs'=>(s'.2.1-s'.2.2.1).toNat)
  ⟨0,[0,0,0],rfl,by omega,rfl,all_cons ⟨by decide,by decide⟩ (all_cons ⟨by decide,by decide⟩ (all_cons ⟨by decide,by decide⟩ gy)),λj a hj=>by omega⟩ (by unfold NN;dsimp only;omega) ?_ ?_
 rintro _ ⟨k,vs,rfl,hk,B',WJ,hva⟩;unfold r6;dsimp only;refine fT (λZ'=>?_) λZ'=>?_;simp only[fY,oBS];refine f7 λa hak=>?_;have hw:=(Yh.2 a (f8 hak)).val;refine f7 λv hv=>?_;refine f7 λ_ _=>?_;rw[gi (x:=a.2.1) (by have:=hw.1;omega) (by have:=hw.2;omega),iG (x:=(k:Int)+1),gu hv];refine fR ⟨⟨k+1,_,rfl,by omega,by rw[oLS];exact B',jX WJ hw,λj a' hj WB=>?_⟩,by dsimp only;omega⟩;by_cases e:k=j;subst e;rw[hak]at WB;cases WB;exact iw (by omega) _;rw[pH e];exact hva j a' (by omega) WB;refine fR ⟨_,vs,rfl,B',WJ,λj a WB=>hva j a ?_ WB⟩;have:=(oGS WB).1;omega;rintro _ ⟨z,vs,rfl,B',WJ,hva⟩;obtain⟨v0,ev0,YQ⟩:=ia 0 false;obtain⟨a0,a1,a2,rfl⟩:∃a b c,vs=[a,b,c]:=by match vs,B' with| [a,b,c],_=>exact⟨a,b,c,rfl⟩
 have w0:W16 a0:=WJ a0 (by simp);have w1:W16 a1:=WJ a1 (by simp);have w2:W16 a2:=WJ a2 (by simp);have g0:fU [a0,a1,a2] 0=some a0:=rfl;have g1:fU [a0,a1,a2] 1=some a1:=rfl;have g2:fU [a0,a1,a2] 2=some a2:=rfl;have a2le:vA call=2->a2<=16:=λh=>by
  obtain⟨a,h2,h3⟩:=hR.hbuf rfl h;have:=hva 2 a h2;have:a2=a.2.1:=by simpa using this
  omega
 have a2x:vA call=2->∀{l:D_},(l.length:Int)<=a2->∃q:DCn,args[2]?=some q/\(l.length:Int)<=q.2.1:=λh l hl=>by
  obtain⟨a,h2,h3⟩:=hR.hbuf rfl h;have:=hva 2 a h2;have e2:a2=a.2.1:=by simpa using this
  exact⟨a,h2,by omega⟩
 have ZV:([]:D_).length<=16/\∀c∈([]:D_),Pr ss c:=⟨by decide,gy⟩;dsimp only;simp only[ev0,oBS,g0,g1,g2];rcases uw hc with rfl|rfl|rfl|rfl|rfl|rfl|rfl|rfl|rfl|rfl|rfl|rfl|rfl|rfl|rfl|rfl;all_goals first|(exact absurd ha (by decide))|simp only[Int.reduceBEq,oCT,oCF]
 obtain⟨_,e,d1,WM,m,b,rfl,hF,_⟩:=D1 (h:=a0) hs hO.files X'.1 X'.2;obtain⟨v,ev,hv⟩:=ia m b;simp only[e,ev,oBS];exact ni ⟨hO.clock,hO.rand,hO.ilen,hO.inp,hF,hO.ulen,hO.outs⟩ (i3 hv) ZV (.inl ⟨by decide,rfl⟩) kE;have Yi:=a2le rfl;obtain⟨_,e,hr⟩:=Hr (h:=a0) (n:=a2) hO.files w2;rcases hr with⟨d1,WM,rfl,hF⟩|⟨d1,WM,l,rfl,hF,hl,_,W'⟩;simp only[e,ev0,oBS];exact ni ⟨hO.clock,hO.rand,hO.ilen,hO.inp,hF,hO.ulen,hO.outs⟩ (i3 YQ) ZV (.inl ⟨by decide,rfl⟩) kE;obtain⟨v,ev,hv⟩:=ia (l.length:Int) true;simp only[e,ev,oBS];exact ni ⟨hO.clock,hO.rand,hO.ilen,hO.inp,hF,hO.ulen,hO.outs⟩ (i3 hv) ⟨by omega,W'⟩ (.inl ⟨by decide,rfl⟩) (λ_=>⟨rfl,a2x rfl hl⟩);obtain⟨_,e,d1,WM,h,rfl,hF,h0,h7⟩:=Lp (file:=a0) (mode:=a1) hO.files;simp only[e,oBS];have Xe:vB ss ck rn ins d1 WM us:=⟨hO.clock,hO.rand,hO.ilen,hO.inp,hF,hO.ulen,hO.outs⟩;by_cases hh:h>=0;simp only[oDT hh,oCT];exact ni Xe (OK (j5 _)) ZV (.inl ⟨by decide,rfl⟩) kE;simp only[oDF hh,oCF];exact ni Xe (i3 YQ) ZV (.inl ⟨by decide,rfl⟩) kE;obtain⟨_,e,d1,WM,b,rfl,hF⟩:=Et (h:=a0) hO.files;obtain⟨v,ev,hv⟩:=ia 0 b;simp only[e,ev,oBS];exact ni ⟨hO.clock,hO.rand,hO.ilen,hO.inp,hF,hO.ulen,hO.outs⟩ (i3 hv) ZV (.inl ⟨by decide,rfl⟩) kE;obtain⟨_,e,d1,WM,b,rfl,hF⟩:=Hm (h:=a0) (n:=a1) hO.files;obtain⟨v,ev,hv⟩:=ia 0 b;simp only[e,ev,oBS];exact ni ⟨hO.clock,hO.rand,hO.ilen,hO.inp,hF,hO.ulen,hO.outs⟩ (i3 hv) ZV (.inl ⟨by decide,rfl⟩) kE;cases ck with
 |nil=>exact ni hO (i3 YQ) ZV (.inl ⟨by decide,rfl⟩) kE|cons x ck=>
  obtain⟨v,ev,hv⟩:=ia (wk .i64 x) true;have hw:oM (x::ck) 1 (Nat.sub (x::ck).length 1)=ck:=by unfold oM;simp
  refine rV (ni (ck:=ck) ⟨⟨by have:=hO.clock.1;simp at this;omega,λw hw=>hO.clock.2 w (by simp[hw])⟩,hO.rand,hO.ilen,hO.inp,hO.files,hO.ulen,hO.outs⟩ (i3 hv) ZV (.inl ⟨by decide,rfl⟩) kE) ?_;simp only[oLC,show fU (x::ck) 0=some x from rfl,oBS,ev];have hd:∀inst:Decidable (((ck.length+1:Nat):Int)>0),@decide _ inst=true:=λinst=>oDT (by omega);rw[oLC]at hw;rw[hd,show jl 1 (ck.length+1) (ck.length+1)=true by unfold jl;simp,hw];rfl
 cases rn with
 |nil=>exact ni hO (i3 YQ) ZV (.inl ⟨by decide,rfl⟩) kE|cons x rn=>
  obtain⟨v,ev,hv⟩:=ia (wk .i64 x) true;have hw:oM (x::rn) 1 (Nat.sub (x::rn).length 1)=rn:=by unfold oM;simp
  refine rV (ni (rn:=rn) ⟨hO.clock,⟨by have:=hO.rand.1;simp at this;omega,λw hw=>hO.rand.2 w (by simp[hw])⟩,hO.ilen,hO.inp,hO.files,hO.ulen,hO.outs⟩ (i3 hv) ZV (.inl ⟨by decide,rfl⟩) kE) ?_;simp only[oLC,show fU (x::rn) 0=some x from rfl,oBS,ev];have hd:∀inst:Decidable (((rn.length+1:Nat):Int)>0),@decide _ inst=true:=λinst=>oDT (by omega);rw[oLC]at hw;rw[hd,show jl 1 (rn.length+1) (rn.length+1)=true by unfold jl;simp,hw];rfl
 obtain⟨_,e,us1,m,b,rfl,hu,ho,hx⟩:=QJ (sk:=a0) hO.ulen hO.outs X'.1 X'.2;obtain⟨v,ev,hv,hv0',hv1'⟩:=SM m b;have hsend:R5 us us1 13 args data 0 v:=by
  refine .inr ⟨rfl,rfl,?_⟩;rcases hx with⟨hb,hu⟩|⟨hb,hm,hu,s0,s1,hlt⟩;exact .inl ⟨hu,hv0' hb⟩;obtain⟨Y5,_⟩:=hR.hkind rfl;obtain⟨a,ha⟩:=gz args 0 (by rw[Y5];decide);have e0:a0=a.2.1:=by simpa using hva 0 a ha
  exact .inr ⟨hv1' hb (by omega) (by have:=X'.1;omega),a,ha,by rw[hu,e0],by omega,by omega,hlt⟩
 simp only[e,ev,oBS];exact ni ⟨hO.clock,hO.rand,hO.ilen,hO.inp,hO.files,hu,ho⟩ (i3 hv) ZV hsend kE;have Yi:=a2le rfl;obtain⟨_,e,hr⟩:=zA (ss:=ss) (sk:=a0) (n:=a2) hO.ilen hO.inp w2;rcases hr with⟨in1,rfl,Xr,Ya⟩|⟨in1,l,rfl,⟨Xr,Ya⟩,hl,_,W'⟩;simp only[e,ev0,oBS];exact ni ⟨hO.clock,hO.rand,Xr,Ya,hO.files,hO.ulen,hO.outs⟩ (i3 YQ) ZV (.inl ⟨by decide,rfl⟩) kE;obtain⟨v,ev,hv⟩:=ia (l.length:Int) true;simp only[e,ev,oBS];exact ni ⟨hO.clock,hO.rand,Xr,Ya,hO.files,hO.ulen,hO.outs⟩ (i3 hv) ⟨by omega,W'⟩ (.inl ⟨by decide,rfl⟩) (λ_=>⟨rfl,a2x rfl hl⟩)
def pX(bs:M_)(key:Int)(c:DCn):DCe:=if c.1=0 then(0,c.2.1)else if c.1=2 then(2,wk .u16 (c.2.1+key))else(1,wk .u16 (bs.getD c.2.2.1.toNat 0+c.2.2.2))
theorem EU{bs ss:M_}(h:LV bs ss){r o n:Int}(h1:0<=r)(h2:ss[r.toNat]?=some n)(h3:0<=o)(h4:o<n):∃b,bs[r.toNat]?=some b/\0<=b+o/\b+o<512/\b<=b+o/\b+o<b+n:=by have ⟨hs,hl,hr⟩:=h;have hj:=(oGS h2).1;have ⟨b,hb⟩:=gz bs r.toNat (by omega);have WI:=hr r.toNat (by omega);unfold wY at WI;rw[gw hb,gw h2]at WI;exact⟨b,hb,by omega,by omega,by omega,by omega⟩
theorem rE{bs ss:M_}{key:Int}{c:DCn}(h:LV bs ss)(hc:Pr ss c):iD bs key ss c.1 c.2.1 c.2.2.1 c.2.2.2=some ((pX bs key c).1,(pX bs key c).2,0,())/\oC (RK bs ss) (pX bs key c):=by unfold iD pX;rw[ml hc];rcases hc with⟨h1|h1,h2,h3,h4⟩|⟨h1,h2,h3,n,h5,h6,h7⟩;rw[h1];exact⟨rfl,kF h4⟩;rw[h1];exact⟨rfl,(show(0:Int)<=2 by decide),(show(2:Int)<=2 by decide),(j5 _).1,(j5 _).2,λe=>absurd (show(2:Int)=1 from e) (by decide)⟩;obtain⟨b,hb,b0,b1,b2,b3⟩:=EU h h3 h5 h6 h7;obtain⟨j,hj⟩:∃j:Nat,c.2.2.1=j:=⟨c.2.2.1.toNat,by omega⟩;rw[hj]at hb h5⊢;rw[h1,gw hb];simp[oCF,if_false,fY,show fU bs j=some b from hb];rw[gG (by omega) (by omega),gr (by omega) (by omega)];exact⟨rfl,by omega,by omega,by omega,by omega,λ_=>⟨j,b,n,hb,h5,b2,b3⟩⟩
theorem Ez{bs ss:M_}{key r o n:Int}(h:LV bs ss)(h1:0<=r)(h2:ss[r.toNat]?=some n)(h3:0<=o)(h4:o<n):∃a,mX bs key ss r o=some (a,0,())/\0<=a/\a<512/\a=bs.getD r.toNat 0+o:=by have ⟨b,hb,b0,b1,_⟩:=EU h h1 h2 h3 h4;obtain⟨j,rfl⟩:∃j:Nat,r=j:=⟨r.toNat,by omega⟩;unfold mX;rw[xP h1 h2 h3 h4];simp[fY,show fU bs j=some b from hb];rw[gG (by omega) (by omega)];simp_all
theorem Lq(pc t v:Int):sc pc t v=some (1,[(t,v),(0,0),(0,0),(0,0),(0,0),(0,0),(0,0),(0,0)],pc,0,-1,-1,0,0,()):=rfl
def V4(n key:Int)(ss bs:M_)(r:Bool×v_×Int×C_×G_×J_×Unit):Prop:=∃b Z5 Z3 ZZ,r=(b,bs,key,Z5,Z3,ZZ,())/\(b=true->MOk n ss bs Z5 Z3 ZZ)
theorem BE{n key:Int}{ss bs:M_}{cs:C_}{ls:G_}{ts:J_}:Ok (some (false,bs,key,cs,ls,ts,())) (V4 n key ss bs):=fR ⟨_,_,_,_,rfl,λh=>by cases h⟩
theorem tM{n key ct cv:Int}{ss bs:M_}{cs:C_}{ls:G_}{ts:J_}{i:Nat}(h:MOk n ss bs cs ls ts)(hi:i<4)(hc:oC (RK bs ss) (ct,cv)):Ok ((fU ts i).bind λ_=>(fU ts i).bind λx75=>(fU x75.2.1 0).bind λ_=>(fU ts i).bind λx77=>(fU x77.2.1 0).bind λ_=>(fU (List.modify ts i λe=>(e.1,((List.modify e.2.1 0 λ_=>(ct,cv)),e.2.2))) i).bind λ_=> some (true,bs,key,cs,ls,List.modify (List.modify ts i λe=>(e.1,((List.modify e.2.1 0 λ_=>(ct,cv)),e.2.2))) i λe=>((1:Int),e.2),())) (V4 n key ss bs):=by have Yl:=h.tlen;have ⟨t,ht⟩:=gz ts i (by omega);have hg:fU ts i=some t:=ht;have hil:=(oGS ht).1;have hok:=h.thr t (f8 ht);have ⟨c,hc0⟩:=gz t.2.1 0 (by have:=hok.len;omega);simp[hg,show fU t.2.1 0=some c from hc0,gu ht,gu hc0,iw hil,pG hil];exact fR ⟨_,_,_,_,rfl,λ_=>h.set h.mem ⟨⟨show(0:Int)<=1 by decide,show(1:Int)<=4 by decide⟩,by dsimp only;rw[oLS];exact hok.len,jX hok.regs hc,hok.pc,hok.count,hok.handler,hok.saved,hok.trap,hok.code⟩⟩
theorem D4{K:Int->Prop}{n pc:Int}{rs:C_}(hl:rs.length=8)(hr:∀c∈rs,oC K c)(hp:0<=pc/\pc<=255)(hn:0<=n):Bk K n (1,rs,pc,0,-1,-1,0,0):=⟨⟨show(0:Int)<=1 by decide,show(1:Int)<=4 by decide⟩,hl,hr,hp,⟨show(0:Int)<=0 by decide,hn⟩,⟨show(-1:Int)<=-1 by decide,show(-1:Int)<=255 by decide⟩,⟨show(-1:Int)<=-1 by decide,show(-1:Int)<=255 by decide⟩,⟨show(0:Int)<=0 by decide,show(0:Int)<=6 by decide⟩,⟨show(0:Int)<=0 by decide,show(0:Int)<=65535 by decide⟩⟩
theorem MOk.mk_mem{n:Int}{ss bs:M_}{cs Z5:C_}{ls Z3:G_}{ts:J_}(h:MOk n ss bs cs ls ts)(hm:ld (RK bs ss) Z5 Z3):MOk n ss bs Z5 Z3 ts:=⟨h.lay,hm,h.tlen,h.thr⟩
set_option maxHeartbeats 4000000 in
theorem Vz{n m key:Int}{code:F_}{ss bs:M_}{dd:j_}{cs:C_}{ls:G_}{ts:J_}{i:Nat}{trap count pc call:Int}{args data:D_}{t v rg o sp:Int}{dat:D_}{w:Bool}(h:MOk n ss bs cs ls ts)(hi:i<4) (hR:AX m ss (i:Int) 1 trap count pc call args data)(hv:Pr ss (t,v,rg,o))(hd:dat.length<=16/\∀c∈dat,Pr ss c)(ZB:-1<=sp/\sp<=3):Ok (nH code ss dd (i:Int) 1 trap count pc call args data t v rg o dat sp w bs key cs ls ts) (V4 n key ss bs):=by
 have hL:=h.lay;have Yl:=h.tlen;obtain⟨Y5,XR⟩:=hR.hkind rfl;have hargs:=hR.hargs;obtain⟨Xv,Zo⟩:=rE (key:=key) hL hv;obtain⟨th,Zk⟩:=gz ts i (by omega);have hok:=h.thr th (f8 Zk);have hc0:=hok.count;have hil:=(oGS Zk).1;dsimp only at Xv;unfold nH;delta fZ;rw[fY,Xv,rP hR.hcall];simp only[oBS,oBN,oCF];refine gP hil λ_ _=>?_;have ZT:=tM (key:=key) (ct:=(pX bs key (t,v,rg,o)).1) (cv:=(pX bs key (t,v,rg,o)).2) h hi Zo;have buf:vA call=2->dat.length>0->∃a:DCn,args[1]?=some a/\Pr ss a/\a.1=1/\∃y,gd jq NN (i,dat,(dat.length:Int),0,bs,key,cs,ls,ts,code,ss,dd,(i:Int),1,trap,count,pc,call,args,data,t,v,rg,o,dat,sp,w,(pX bs key (t,v,rg,o)).1,(pX bs key (t,v,rg,o)).2,a.2.2.1,a.2.2.2,())=some y /\((∃Z5 Z3,y=.inl (false,bs,key,Z5,Z3,ts,()))\/(∃Z5 Z3 z f,y=.inr (i,dat,(dat.length:Int),z,false,bs,key,Z5,Z3,ts,code,ss,dd,(i:Int),1,trap,count,pc,call,args,data,t,v,rg,o,dat,sp,w,(pX bs key (t,v,rg,o)).1,(pX bs key (t,v,rg,o)).2,a.2.2.1,f,())/\ld (RK bs ss) Z5 Z3)):=by
  intro hb ZX;have hkk:(kB call)[1]?=some 80:=by
   have:call=2\/call=14:=by unfold vA at hb;split at hb<;>first|omega|(split at hb<;>omega)
   rcases this with rfl|rfl<;>rfl
  have Xs:=(oGS hkk).1;obtain⟨a,ha⟩:=gz args 1 (by omega);have Yh:=hargs.2 a (f8 ha);have Z2:=XR 1 80 a hkk ha;have Ys:a.1=1:=by unfold M8 at Z2;simpa using Z2
  have ha32:0<=a.2.2.2/\a.2.2.2<=32:=by rcases Yh with⟨g,_⟩|⟨_,_,_,z,g1,g2,g3⟩;omega;have:=hL.1.2.2 z (f8 g1);omega
  refine⟨a,ha,Yh,Ys,?_⟩;refine hU (f:=jq) (n:=NN) (P:=λs'=>∃k:Nat,∃Z5 Z3,s'=(i,dat,(dat.length:Int),(k:Int),bs,key,Z5,Z3,ts,code,ss,dd,(i:Int),1,trap,count,pc,call,args,data,t,v,rg,o,dat,sp,w,(pX bs key (t,v,rg,o)).1,(pX bs key (t,v,rg,o)).2,a.2.2.1,a.2.2.2+k,())/\k<=dat.length/\ld (RK bs ss) Z5 Z3)
   (R:=λy=>(∃Z5 Z3,y=.inl (false,bs,key,Z5,Z3,ts,()))\/(∃Z5 Z3 z f,y=.inr (i,dat,(dat.length:Int),z,false,bs,key,Z5,Z3,ts,code,ss,dd,(i:Int),1,trap,count,pc,call,args,data,t,v,rg,o,dat,sp,w,(pX bs key (t,v,rg,o)).1,(pX bs key (t,v,rg,o)).2,a.2.2.1,f,())/\ld (RK bs ss) Z5 Z3))
   (m:=λs'=>(s'.2.2.1-s'.2.2.2.1).toNat) ⟨0,cs,ls,by simp,by omega,h.mem⟩ (by unfold NN;dsimp only;omega) ?_
  rintro _ ⟨k,Z5,Z3,rfl,hk,hm⟩;unfold jq;dsimp only;refine fT (λZ'=>?_) λZ'=>?_;rw[fY];simp only[oBS];refine f7 λc hc=>?_;obtain⟨Z8,Yj⟩:=rE (key:=key) hL (hd.2 c (f8 hc));rw[Z8];simp only[oBS,oBN,oCF];refine Ek.bind ?_;rintro⟨q,_⟩ hin;dsimp only at hin⊢;refine fT (λZ1=>?_) λZ1=>?_;exact fR (.inl ⟨_,_,rfl⟩);obtain⟨g1,g2,z,g3,g4⟩:=hin Z1;obtain⟨ad,ea,a0,a1,_⟩:=Ez (key:=key) hL g1 g3 g2 g4;rw[ea];simp only[oBS];refine(yP hm ⟨a0,a1⟩ Yj).bind ?_;rintro _ ⟨cs2,ls2,rfl,hm2⟩;dsimp only;rw[iG (x:=a.2.2.2+k+1),iG (x:=(k:Int)+1)];exact fR ⟨⟨k+1,_,_,by rw[show a.2.2.2+((k+1:Nat):Int)=a.2.2.2+k+1 by omega];rfl,by omega,hm2⟩,by dsimp only;omega⟩;exact fR (.inr ⟨_,_,_,_,rfl,hm⟩)
 rcases uw hR.hcall with rfl|rfl|rfl|rfl|rfl|rfl|rfl|rfl|rfl|rfl|rfl|rfl|rfl|rfl|rfl|rfl;case inr.inr.inl=>
  simp only[show((vA 2)==2)=true from rfl,oCT];by_cases ZX:dat.length>0
  ·obtain⟨a,ha,Yh,Ys,y,ey,hy⟩:=buf rfl ZX;simp only[oDT (show((dat.length:Nat):Int)>0 by omega),oCT,show fU args 1=some a from ha,oBS,ml Yh,oNT,oCF,bne_eq_false_iff_eq.2 Ys,ey]
   rcases hy with⟨Z5,Z3,rfl⟩|⟨Z5,Z3,z,f,rfl,hm⟩
   ·exact BE
   ·simp only[Int.reduceBEq,oCF];exact tM (h.mk_mem hm) hi Zo
  ·simp only[oDF (show ¬((dat.length:Nat):Int)>0 by omega),oCF,Int.reduceBEq];exact ZT
 case inr.inr.inr.inr.inr.inr.inr.inr.inr.inr.inr.inr.inr.inr.inl=>
  simp only[show((vA 14)==2)=true from rfl,oCT];by_cases ZX:dat.length>0
  ·obtain⟨a,ha,Yh,Ys,y,ey,hy⟩:=buf rfl ZX;simp only[oDT (show((dat.length:Nat):Int)>0 by omega),oCT,show fU args 1=some a from ha,oBS,ml Yh,oNT,oCF,bne_eq_false_iff_eq.2 Ys,ey]
   rcases hy with⟨Z5,Z3,rfl⟩|⟨Z5,Z3,z,f,rfl,hm⟩
   ·exact BE
   ·simp only[Int.reduceBEq,oCF];exact tM (h.mk_mem hm) hi Zo
  ·simp only[oDF (show ¬((dat.length:Nat):Int)>0 by omega),oCF,Int.reduceBEq];exact ZT
 case inr.inr.inr.inr.inr.inr.inr.inr.inr.inr.inr.inr.inl=>
  obtain⟨a,ha⟩:=gz args 0 (by rw[Y5];decide);have hva:=(hargs.2 a (f8 ha)).val;simp only[show((vA 12)==2)=false from rfl,oCF,Int.reduceBEq,oCT,show fU args 0=some a from ha,oBS];rw[gi (x:=a.2.1) (by have:=hva.1;omega) (by have:=hva.2;omega)];by_cases h1:a.2.1>255
  ·simp only[oDT h1,oCT];exact BE
  by_cases h2:a.1=0
  ·simp only[oDF h1,oCF,bne_eq_false_iff_eq.2 h2,show fU ts i=some th from Zk,oBS,gu Zk];exact tM (h.set h.mem ⟨hok.state,hok.len,hok.regs,hok.pc,hok.count,⟨by dsimp only;have:=hva.1;omega,by dsimp only;omega⟩,hok.saved,hok.trap,hok.code⟩) hi Zo
  ·simp only[oDF h1,oCF,bne_iff_ne.2 h2,oCT];exact BE
 case inr.inr.inr.inr.inr.inr.inr.inr.inr.inr.inl=>
  obtain⟨a,ha⟩:=gz args 0 (by rw[Y5];decide);obtain⟨c,hc⟩:=gz args 1 (by rw[Y5];decide);have hva:=(hargs.2 a (f8 ha)).val;obtain⟨Z8,Yj⟩:=rE (key:=key) hL (hargs.2 c (f8 hc));simp only[show((vA 10)==2)=false from rfl,oCF,Int.reduceBEq,oCT];by_cases hsp0:sp>=0
  ·obtain⟨j,rfl⟩:∃j:Nat,sp=j:=⟨sp.toNat,by omega⟩;obtain⟨tj,A'⟩:=gz ts j (by omega);simp only[oDT hsp0,oCT,show fU args 0=some a from ha,show fU args 1=some c from hc,oBS,Z8,oBN,oCF,fY,show fU ts j=some tj from A'];rw[gi (x:=a.2.1) (by have:=hva.1;omega) (by have:=hva.2;omega)];by_cases h0:tj.1=0
   ·by_cases h1:a.2.1>255
    ·simp only[bne_eq_false_iff_eq.2 h0,oCF,oDT h1,oCT,oBS];exact BE
    by_cases h2:a.1=0
    ·simp only[bne_eq_false_iff_eq.2 h0,oDF h1,oCF,bne_eq_false_iff_eq.2 h2,oBS,show fU args 0=some a from ha,gi (x:=a.2.1) (by have:=hva.1;omega) (by have:=hva.2;omega),Lq,fY,show fU ts j=some tj from A',gu A'];refine tM (h.set h.mem (D4 rfl (all_cons Yj ?_) ⟨hva.1,by omega⟩ (by omega))) hi Zo;exact all_cons (kF (by decide)) (all_cons (kF (by decide)) (all_cons (kF (by decide)) (all_cons (kF (by decide)) (all_cons (kF (by decide)) (all_cons (kF (by decide)) (all_cons (kF (by decide)) gy))))))
    ·simp only[bne_eq_false_iff_eq.2 h0,oDF h1,oCF,bne_iff_ne.2 h2,oCT,oBS];exact BE
   ·simp only[bne_iff_ne.2 h0,oCT,oBS];exact BE
  ·simp only[oDF hsp0,oCF];exact ZT
 all_goals exact ZT
def Wb(n key:Int)(ss bs X:M_)(i:Nat)(r:Bool×v_×Int×C_×G_×J_×Unit):Prop:=∃Z5 Z3 ZZ,r=(true,bs,key,Z5,Z3,ZZ,())/\MOk n ss bs Z5 Z3 ZZ/\ZZ.map (·.1)=X.set i 1
def EI(st:M_)(sp:Int):M_:=if sp=-1 then st else st.set sp.toNat 1
theorem HD{ts:J_}{i:Nat}{t t':DTh}(h:ts[i]?=some t)(e:t'.1=t.1):(ts.set i t').map (·.1)=ts.map (·.1):=by rw[List.map_set,e];apply oEG;intro j;rw[List.getElem?_set];split;rename_i hij;subst hij;rw[oGP,h,oLP,oIP (oGS h).1];rfl;rfl
theorem ve{n key ct cv:Int}{ss bs:M_}{cs:C_}{ls:G_}{ts:J_}{i:Nat}{X:M_}(h:MOk n ss bs cs ls ts)(hX:ts.map (·.1)=X)(hi:i<4)(hc:oC (RK bs ss) (ct,cv)):Ok ((fU ts i).bind λ_=>(fU ts i).bind λx75=>(fU x75.2.1 0).bind λ_=>(fU ts i).bind λx77=>(fU x77.2.1 0).bind λ_=>(fU (List.modify ts i λe=>(e.1,((List.modify e.2.1 0 λ_=>(ct,cv)),e.2.2))) i).bind λ_=> some (true,bs,key,cs,ls,List.modify (List.modify ts i λe=>(e.1,((List.modify e.2.1 0 λ_=>(ct,cv)),e.2.2))) i λe=>((1:Int),e.2),())) (Wb n key ss bs X i):=by have Yl:=h.tlen;have ⟨t,ht⟩:=gz ts i (by omega);have hg:fU ts i=some t:=ht;have hil:=(oGS ht).1;have hok:=h.thr t (f8 ht);have ⟨c,hc0⟩:=gz t.2.1 0 (by have:=hok.len;omega);simp[hg,show fU t.2.1 0=some c from hc0,gu ht,gu hc0,iw hil,pG hil];refine fR ⟨_,_,_,rfl,h.set h.mem ⟨⟨show(0:Int)<=1 by decide,show(1:Int)<=4 by decide⟩,by dsimp only;rw[oLS];exact hok.len,jX hok.regs hc,hok.pc,hok.count,hok.handler,hok.saved,hok.trap,hok.code⟩,by simp_all⟩
set_option maxHeartbeats 4000000 in
theorem Ts{n m key:Int}{code:F_}{ss bs:M_}{dd:j_}{cs:C_}{ls:G_}{ts:J_}{i:Nat}{trap count pc call:Int}{args data:D_}{t v rg o sp:Int}{dat:D_}{w:Bool}(h:MOk n ss bs cs ls ts)(hi:i<4) (hR:AX m ss (i:Int) 1 trap count pc call args data)(hv:Pr ss (t,v,rg,o))(hd:dat.length<=16/\∀c∈dat,Pr ss c)(hF:P3 ss call args)(hD:Uo call args dat)(hS:sp=-1\/(call=10/\∃j:Nat,sp=j/\j<4/\∃tj,ts[j]?=some tj/\tj.1=0)):Ok (nH code ss dd (i:Int) 1 trap count pc call args data t v rg o dat sp w bs key cs ls ts) (Wb n key ss bs (EI (ts.map (·.1)) sp) i):=by
 have hL:=h.lay;have Yl:=h.tlen;obtain⟨Y5,XR⟩:=hR.hkind rfl;have hargs:=hR.hargs;obtain⟨Xv,Zo⟩:=rE (key:=key) hL hv;obtain⟨th,Zk⟩:=gz ts i (by omega);have hok:=h.thr th (f8 Zk);have hc0:=hok.count;have hil:=(oGS Zk).1;dsimp only at Xv;unfold nH;delta fZ;rw[fY,Xv,rP hR.hcall];simp only[oBS,oBN,oCF];refine gP hil λ_ _=>?_;have hX:call≠10->ts.map (·.1)=EI (ts.map (·.1)) sp:=λhc=>by rcases hS with rfl|⟨ZM,_⟩;rfl;exact absurd ZM hc
 have ZT:=λhc:call≠10=>ve (key:=key) (ct:=(pX bs key (t,v,rg,o)).1) (cv:=(pX bs key (t,v,rg,o)).2) h (hX hc) hi Zo;have buf:vA call=2->dat.length>0->∃a:DCn,args[1]?=some a/\Pr ss a/\a.1=1/\∃y,gd jq NN (i,dat,(dat.length:Int),0,bs,key,cs,ls,ts,code,ss,dd,(i:Int),1,trap,count,pc,call,args,data,t,v,rg,o,dat,sp,w,(pX bs key (t,v,rg,o)).1,(pX bs key (t,v,rg,o)).2,a.2.2.1,a.2.2.2,())=some y /\(∃Z5 Z3 z f,y=.inr (i,dat,(dat.length:Int),z,false,bs,key,Z5,Z3,ts,code,ss,dd,(i:Int),1,trap,count,pc,call,args,data,t,v,rg,o,dat,sp,w,(pX bs key (t,v,rg,o)).1,(pX bs key (t,v,rg,o)).2,a.2.2.1,f,())/\ld (RK bs ss) Z5 Z3):=by
  intro hb ZX;have hkk:(kB call)[1]?=some 80:=by
   have:call=2\/call=14:=by unfold vA at hb;split at hb<;>first|omega|(split at hb<;>omega)
   rcases this with rfl|rfl<;>rfl
  have Xs:=(oGS hkk).1;obtain⟨a,ha⟩:=gz args 1 (by omega);have Yh:=hargs.2 a (f8 ha);have Z2:=XR 1 80 a hkk ha;have Ys:a.1=1:=by unfold M8 at Z2;simpa using Z2
  have ha32:0<=a.2.2.2/\a.2.2.2<=32:=by rcases Yh with⟨g,_⟩|⟨_,_,_,z,g1,g2,g3⟩;omega;have:=hL.1.2.2 z (f8 g1);omega
  obtain⟨a',q',z',XD,hq',W4,Yi⟩:=hF.1 hb;rw[ha]at XD;injection XD with XD
  subst XD;obtain⟨_,q2,Y6,hdl⟩:=hD (λe=>by rw[e]at ZX;exact absurd ZX (by decide));rw[hq']at Y6;injection Y6 with Y6
  subst Y6;have ha0:0<=a.2.2.1:=by rcases Yh with⟨g,_⟩|⟨_,_,g,_⟩;omega;exact g
  refine⟨a,ha,Yh,Ys,?_⟩;refine hU (f:=jq) (n:=NN) (P:=λs'=>∃k:Nat,∃Z5 Z3,s'=(i,dat,(dat.length:Int),(k:Int),bs,key,Z5,Z3,ts,code,ss,dd,(i:Int),1,trap,count,pc,call,args,data,t,v,rg,o,dat,sp,w,(pX bs key (t,v,rg,o)).1,(pX bs key (t,v,rg,o)).2,a.2.2.1,a.2.2.2+k,())/\k<=dat.length/\ld (RK bs ss) Z5 Z3)
   (R:=λy=>(∃Z5 Z3 z f,y=.inr (i,dat,(dat.length:Int),z,false,bs,key,Z5,Z3,ts,code,ss,dd,(i:Int),1,trap,count,pc,call,args,data,t,v,rg,o,dat,sp,w,(pX bs key (t,v,rg,o)).1,(pX bs key (t,v,rg,o)).2,a.2.2.1,f,())/\ld (RK bs ss) Z5 Z3))
   (m:=λs'=>(s'.2.2.1-s'.2.2.2.1).toNat) ⟨0,cs,ls,by simp,by omega,h.mem⟩ (by unfold NN;dsimp only;omega) ?_
  rintro _ ⟨k,Z5,Z3,rfl,hk,hm⟩;unfold jq;dsimp only;refine fT (λZ'=>?_) λZ'=>?_;rw[fY];simp only[oBS];refine f7 λc hc=>?_;obtain⟨Z8,Yj⟩:=rE (key:=key) hL (hd.2 c (f8 hc));rw[Z8];simp only[oBS,oBN,oCF];rw[xP ha0 W4 (show 0<=a.2.2.2+k by omega) (show a.2.2.2+k<z' by omega)];simp only[oBS,oNT,oCF];obtain⟨ad,ea,a0,a1,_⟩:=Ez (key:=key) hL ha0 W4 (show 0<=a.2.2.2+k by omega) (show a.2.2.2+k<z' by omega);rw[ea];simp only[oBS];refine(yP hm ⟨a0,a1⟩ Yj).bind ?_;rintro _ ⟨cs2,ls2,rfl,hm2⟩;dsimp only;rw[iG (x:=a.2.2.2+k+1),iG (x:=(k:Int)+1)];exact fR ⟨⟨k+1,_,_,by rw[show a.2.2.2+((k+1:Nat):Int)=a.2.2.2+k+1 by omega];rfl,by omega,hm2⟩,by dsimp only;omega⟩;exact fR ⟨_,_,_,_,rfl,hm⟩
 rcases uw hR.hcall with rfl|rfl|rfl|rfl|rfl|rfl|rfl|rfl|rfl|rfl|rfl|rfl|rfl|rfl|rfl|rfl;case inr.inr.inl=>
  simp only[show((vA 2)==2)=true from rfl,oCT];by_cases ZX:dat.length>0
  ·obtain⟨a,ha,Yh,Ys,y,ey,hy⟩:=buf rfl ZX;simp only[oDT (show((dat.length:Nat):Int)>0 by omega),oCT,show fU args 1=some a from ha,oBS,ml Yh,oNT,oCF,bne_eq_false_iff_eq.2 Ys,ey];obtain⟨Z5,Z3,z,f,rfl,hm⟩:=hy;simp only[Int.reduceBEq,oCF];exact ve (h.mk_mem hm) (hX (by decide)) hi Zo
  ·simp only[oDF (show ¬((dat.length:Nat):Int)>0 by omega),oCF,Int.reduceBEq];exact ZT (by decide)
 case inr.inr.inr.inr.inr.inr.inr.inr.inr.inr.inr.inr.inr.inr.inl=>
  simp only[show((vA 14)==2)=true from rfl,oCT];by_cases ZX:dat.length>0
  ·obtain⟨a,ha,Yh,Ys,y,ey,hy⟩:=buf rfl ZX;simp only[oDT (show((dat.length:Nat):Int)>0 by omega),oCT,show fU args 1=some a from ha,oBS,ml Yh,oNT,oCF,bne_eq_false_iff_eq.2 Ys,ey];obtain⟨Z5,Z3,z,f,rfl,hm⟩:=hy;simp only[Int.reduceBEq,oCF];exact ve (h.mk_mem hm) (hX (by decide)) hi Zo
  ·simp only[oDF (show ¬((dat.length:Nat):Int)>0 by omega),oCF,Int.reduceBEq];exact ZT (by decide)
 case inr.inr.inr.inr.inr.inr.inr.inr.inr.inr.inr.inr.inl=>
  obtain⟨a,ha⟩:=gz args 0 (by rw[Y5];decide);have hva:=(hargs.2 a (f8 ha)).val;simp only[show((vA 12)==2)=false from rfl,oCF,Int.reduceBEq,oCT,show fU args 0=some a from ha,oBS];rw[gi (x:=a.2.1) (by have:=hva.1;omega) (by have:=hva.2;omega)];obtain⟨a',XD,h2,h1⟩:=hF.2 (.inr rfl);rw[ha]at XD
  injection XD with XD
  subst XD
  have h1:¬a.2.1>255:=by omega
  ·simp only[oDF h1,oCF,bne_eq_false_iff_eq.2 h2,show fU ts i=some th from Zk,oBS,gu Zk];exact ve (h.set h.mem ⟨hok.state,hok.len,hok.regs,hok.pc,hok.count,⟨by dsimp only;have:=hva.1;omega,by dsimp only;omega⟩,hok.saved,hok.trap,hok.code⟩) ((HD (t':=(th.1,th.2.1,th.2.2.1,th.2.2.2.1,a.2.1,th.2.2.2.2.2)) Zk rfl).trans (hX (by decide))) hi Zo
 case inr.inr.inr.inr.inr.inr.inr.inr.inr.inr.inl=>
  obtain⟨a,ha⟩:=gz args 0 (by rw[Y5];decide);obtain⟨c,hc⟩:=gz args 1 (by rw[Y5];decide);have hva:=(hargs.2 a (f8 ha)).val;obtain⟨Z8,Yj⟩:=rE (key:=key) hL (hargs.2 c (f8 hc));simp only[show((vA 10)==2)=false from rfl,oCF,Int.reduceBEq,oCT];rcases hS with rfl|⟨_,j,rfl,hj4,tj,A',h0⟩
  ·simp only[oDF (show ¬(-1:Int)>=0 by decide),oCF];exact ve h rfl hi Zo
  ·obtain⟨a',XD,h2,h1⟩:=hF.2 (.inl rfl);rw[ha]at XD
   injection XD with XD
   subst XD
   have h1:¬a.2.1>255:=by omega
   simp only[oDT (show(j:Int)>=0 by omega),oCT,show fU args 0=some a from ha,show fU args 1=some c from hc,oBS,Z8,oBN,oCF,fY,show fU ts j=some tj from A'];rw[gi (x:=a.2.1) (by have:=hva.1;omega) (by have:=hva.2;omega)];simp only[bne_eq_false_iff_eq.2 h0,oDF h1,oCF,bne_eq_false_iff_eq.2 h2,oBS,show fU args 0=some a from ha,gi (x:=a.2.1) (by have:=hva.1;omega) (by have:=hva.2;omega),Lq,fY,show fU ts j=some tj from A',gu A'];refine ve (h.set h.mem (D4 rfl (all_cons Yj ?_) ⟨hva.1,by omega⟩ (by omega))) ?_ hi Zo
   ·exact all_cons (kF (by decide)) (all_cons (kF (by decide)) (all_cons (kF (by decide)) (all_cons (kF (by decide)) (all_cons (kF (by decide)) (all_cons (kF (by decide)) (all_cons (kF (by decide)) gy))))))
   ·unfold EI;rw[List.map_set,oIN (by omega),oTN]
 all_goals
  exact ZT (by decide)
def InQ(qs:j_)(x:Int):Prop:=∃(j:Nat)(q:M_),qs[j]?=some q/\x∈q
def CX(qs:j_):Prop:=∀(i j:Nat)(q r:M_)(x:Int),qs[i]?=some q->qs[j]?=some r->x∈q->x∈r->i=j
def R4(qs:j_)(n:Int)(qs':j_):Prop:=(n=-1/\qs'=qs)\/∃(j:Nat)(q:M_),qs[j]?=some (n::q)/\qs'=qs.set j q
def P0(qs:j_)(t how:Int)(qs':j_):Prop:=(how≠1/\qs'=qs)\/(how=1/\(∀q∈qs,t ∉ q)/\∃(j:Nat)(q:M_),qs[j]?=some q/\qs'=qs.set j (q++[t]))
theorem rk{α:Type}{l:List α}{i j:Nat}{a b:α}(h:(l.set i a)[j]?=some b):(i=j/\b=a)\/(i≠j/\l[j]?=some b):=by rw[List.getElem?_set]at h;split at h;all_goals simp_all
theorem Tu{ow:M_}{qs qs':j_}{n:Int}(hl:kz ow qs)(hX:CX qs)(h:R4 qs n qs')(hn:n≠-1):InQ qs n/\CX qs'/\∀y,InQ qs' y->InQ qs y/\y≠n:=by rcases h with⟨h,_⟩|⟨j,q,hj,rfl⟩;omega;have Zn:=(hl.queue _ (f8 hj)).1;rw[List.nodup_cons]at Zn;refine⟨⟨j,_,hj,List.mem_cons_self ..⟩,λa b u v x ha hb hu hv=>?_,λy hy=>?_⟩;rcases rk ha with⟨e1,e2⟩|⟨e1,e2⟩;rcases rk hb with⟨e3,e4⟩|⟨e3,e4⟩;omega;exact e1▸hX j b _ v x hj e4 (List.mem_cons_of_mem _ (e2▸hu)) hv;rcases rk hb with⟨e3,e4⟩|⟨e3,e4⟩;exact e3▸hX a j u _ x e2 hj hu (List.mem_cons_of_mem _ (e4▸hv));exact hX a b u v x e2 e4 hu hv;have ⟨a,u,ha,hu⟩:=hy;rcases rk ha with⟨e1,e2⟩|⟨e1,e2⟩;subst e2;exact⟨⟨j,_,hj,List.mem_cons_of_mem _ hu⟩,λe=>Zn.1 (e▸hu)⟩;refine⟨⟨a,u,e2,hu⟩,λe=>e1 ?_⟩;exact hX j a _ u n hj e2 (List.mem_cons_self ..) (e▸hu)
theorem UL{qs qs':j_}{t how:Int}(hX:CX qs)(h:P0 qs t how qs'):CX qs'/\∀y,InQ qs' y->InQ qs y\/(y=t/\how=1):=by
 rcases h with⟨_,rfl⟩|⟨h1,Xa,j,q,hj,rfl⟩;simp_all;refine⟨λa b u v x ha hb hu hv=>?_,λy hy=>?_⟩;have key:∀(b:Nat)(v:M_),j≠b->qs[b]?=some v->x∈q++[t]->x∈v->j=b:=λb v hne hb hu hv=>by rcases oMA.1 hu with hu|hu;exact hX j b q v x hj hb hu hv;exact absurd (List.mem_singleton.1 hu▸hv) (Xa v (f8 hb))
 rcases rk ha with⟨e1,e2⟩|⟨e1,e2⟩;rcases rk hb with⟨e3,e4⟩|⟨e3,e4⟩;omega;exact e1▸key b v e3 e4 (e2▸hu) hv;rcases rk hb with⟨e3,e4⟩|⟨e3,e4⟩;exact e3▸(key a u e1 e2 (e4▸hv) hu).symm;exact hX a b u v x e2 e4 hu hv;have ⟨a,u,ha,hu⟩:=hy;rcases rk ha with⟨e1,e2⟩|⟨e1,e2⟩;subst e2;rcases oMA.1 hu with hu|hu;exact .inl ⟨j,q,hj,hu⟩;simp_all;exact .inl ⟨a,u,e2,hu⟩
structure R3 (qs:j_)(nx:M_)(qs':j_):Prop where
 was:∀x∈nx,InQ qs x
 nd:nx.Nodup
 now:∀y,InQ qs' y->InQ qs y/\y ∉ nx
 cross:CX qs'
theorem R3.nil{qs:j_}(h:CX qs):R3 qs [] qs:=⟨gy,List.nodup_nil,λy hy=>⟨hy,by simp⟩,h⟩
theorem R3.snoc{ow:M_}{qs qs1 qs2:j_}{nx:M_}{n:Int}(h:R3 qs nx qs1)(hl:kz ow qs1)(hn:n>=0)(hp:R4 qs1 n qs2):R3 qs (List.append nx [n]) qs2:=by have ⟨h1,h2,h3⟩:=Tu hl h.cross hp (by omega);have ⟨g1,g2⟩:=h.now n h1;refine⟨kX h.was (all_cons g1 gy),Eg h.nd g2,λy hy=>?_,h2⟩;have ⟨k1,k2⟩:=h3 y hy;have ⟨k3,k4⟩:=h.now y k1;simp_all
theorem EL{α:Type}{l:List α}{i:Nat}{a:α}(h:l[i]?=some a):l.set i a=l:=by apply oEG;grind
theorem LD{ow:M_}{qs:j_}{lock t:Int}(h:kz ow qs):Ok (jL ow qs lock t) λr=>∃Zp qs' n b,r=(Zp,qs',n,b,())/\kz Zp qs'/\(-1<=n/\n<=3)/\R4 qs n qs'/\(n>=0->b=true):=by
 unfold jL;rw[Cz h];obtain⟨h1,h2,h3,h4⟩:=id h;refine Ok.bind (P:=λr=>∃b,r=(lock,b,(),(),ow,qs,())/\(b=false->0<=lock/\lock<4)) ?_ ?_;refine fT (λZ'=>?_) λZ'=>?_;exact fR ⟨true,rfl,λh=>by cases h⟩;refine fT (λZ1=>?_) λZ1=>?_;exact fR ⟨true,rfl,λh=>by cases h⟩;refine gW λj hj=>?_;refine f7 λx hx=>?_;exact fR ⟨_,rfl,λ_=>⟨by omega,by omega⟩⟩;rintro _ ⟨b,rfl,hb⟩;dsimp only;refine gf (λ_=>fR ⟨_,_,_,_,rfl,h,by omega,.inl ⟨rfl,rfl⟩,λhn=>absurd hn (by decide)⟩) λhbf=>?_;obtain⟨l0,l1⟩:=hb hbf;obtain⟨j,rfl⟩:∃j:Nat,lock=j:=⟨lock.toNat,by omega⟩;obtain⟨o,ho⟩:=gz ow j (by omega);obtain⟨q,hq⟩:=gz qs j (by omega);have go:fU ow j=some o:=ho;have gq:fU qs j=some q:=hq;have gm:∀f:Int->Int,fU (List.modify ow j f) j=some (f o):=λf=>vq ho;have gm2:∀f g:Int->Int,fU (List.modify (List.modify ow j f) j g) j=some (g (f o)):=λf g=>vq (vq ho);delta fZ;simp only[fY,oBS,go,gq,gm,gm2];have Xs:kz (List.modify ow j λ_=>-1) qs:=⟨by rw[oLM];exact h1,h2,iO h3 λ_ _=>⟨by omega,by omega⟩,h4⟩;refine fT (λhcc=>?_) λhcc=>?_;obtain⟨x,hx⟩:=gz q 0 (by omega);have gx:fU q 0=some x:=hx;have Ym:=(h4 q (f8 hq)).2 x (f8 hx);simp only[gx,oBS];refine fS (by unfold jl;simp;omega) ?_;obtain⟨y,q',rfl⟩:∃y q',q=y::q':=by cases q with|nil=>cases hx|cons y q'=>exact⟨y,q',rfl⟩
 obtain rfl:y=x:=by injection hx
 have hw:oM (y::q') 1 (Nat.sub (y::q').length 1)=q':=by show((y::q').drop 1).take ((y::q').length-1)=q';simp_all
 refine fR ⟨_,_,_,_,rfl,⟨by simp_all,by rw[oLM];exact h2,iO (iO h3 λ_ _=>⟨by omega,by omega⟩) λ_ _=>⟨by omega,by omega⟩,iO h4 λ_ _=>?_⟩,by omega,.inr ⟨j,q',hq,by rw[hw,gu hq]⟩,λ_=>rfl⟩;obtain⟨q1,q2⟩:=h4 _ (f8 hq);simp_all;exact fR ⟨_,_,_,_,rfl,Xs,by omega,.inl ⟨rfl,rfl⟩,λ_=>rfl⟩
theorem Ux{ow:M_}{qs:j_}{lock t:Int}(h:kz ow qs)(ht:0<=t/\t<=3):Ok (qz ow qs lock t) λr=>∃Zp qs' n,r=(Zp,qs',n,())/\kz Zp qs'/\P0 qs t n qs':=by
 unfold qz;rw[Cz h];simp only[oBS];obtain⟨h1,h2,h3,h4⟩:=id h;refine Ok.bind (P:=λr=>∃b,r=(lock,t,b,ow,qs,(),(),ow,qs,())/\(b=false->0<=lock/\lock<4)) ?_ ?_;refine fT (λZ'=>?_) λZ'=>?_;exact fR ⟨true,rfl,λh=>by cases h⟩;refine fT (λZ1=>?_) λZ1=>?_;exact fR ⟨true,rfl,λh=>by cases h⟩;refine gW λj hj=>?_;refine f7 λx hx=>?_;exact fR ⟨_,rfl,λ_=>⟨by omega,by omega⟩⟩;rintro _ ⟨b,rfl,hb⟩;dsimp only;refine gf (λ_=>fR ⟨_,_,_,rfl,h,.inl ⟨by decide,rfl⟩⟩) λhbf=>?_;obtain⟨l0,l1⟩:=hb hbf;delta fZ;try dsimp only
 obtain⟨r,e,hr⟩:=hU (f:=pQ) (n:=NN) (s:=(lock,t,qs,(qs.length:Int),0,ow,qs,(),(),ow,qs,())) (P:=λs'=>∃k:Nat,s'=(lock,t,qs,(qs.length:Int),(k:Int),ow,qs,(),(),ow,qs,())/\k<=qs.length/\∀(i:Nat) q,i<k->qs[i]?=some q->t ∉ q) (R:=λr=>r=.inl (2,ow,qs,())\/((∃a b c,r=.inr (lock,t,a,b,c,false,ow,qs,(),(),ow,qs,()))/\∀q∈qs,t ∉ q)) (m:=λs'=>(s'.2.2.2.1-s'.2.2.2.2.1).toNat) ⟨0,rfl,by omega,λi q hi=>by omega⟩ (by unfold NN;dsimp only;omega) (by
  rintro _ ⟨k,rfl,hk,ZJ⟩;unfold pQ;dsimp only;refine fT (λZ'=>?_) λZ'=>?_;obtain⟨q,hq⟩:=gz qs k (by omega);have gq:fU qs k=some q:=hq;have q3:=h.qlen4 (f8 hq);delta fZ;simp only[fY,oBS,gq];obtain⟨r,e,hr⟩:=hU (f:=pR) (n:=NN) (s:=(lock,t,qs,(qs.length:Int),(k:Int),q,(q.length:Int),0,ow,qs,(),(),ow,qs,())) (P:=λs'=>∃j:Nat,s'=(lock,t,qs,(qs.length:Int),(k:Int),q,(q.length:Int),(j:Int),ow,qs,(),(),ow,qs,())/\j<=q.length/\∀(i:Nat) x,i<j->q[i]?=some x->x≠t) (R:=λr=>r=.inl (2,ow,qs,())\/((∃a b c,r=.inr (lock,t,qs,(qs.length:Int),(k:Int),a,b,c,false,ow,qs,(),(),ow,qs,()))/\t ∉ q)) (m:=λs'=>(s'.2.2.2.2.2.2.1-s'.2.2.2.2.2.2.2.1).toNat) ⟨0,rfl,by omega,λi x hi=>by omega⟩ (by unfold NN;dsimp only;omega) (by
   rintro _ ⟨j,rfl,hj,hne⟩;unfold pR;dsimp only;refine fT (λZ1=>?_) λZ1=>?_;obtain⟨x,hx⟩:=gz q j (by omega);have gx:fU q j=some x:=hx;simp only[fY,oBS,gx];refine fT (λhcc=>?_) λhcc=>?_;exact fR (.inl rfl)
   ·(simp (disch:=omega) only [gG,gr,gi,gg])
    exact fR ⟨⟨j+1,rfl,by omega,LX hne hx hcc⟩,by dsimp only;omega⟩
   refine fR (.inr ⟨⟨_,_,_,rfl⟩,λhm=>?_⟩);obtain⟨i,hi⟩:=List.getElem?_of_mem hm;exact hne i t (by have:=(oGS hi).1;omega) hi rfl)
  rw[e];rcases hr with rfl|⟨⟨a,b,c,rfl⟩,Xa⟩;exact fR (.inl rfl);dsimp only
  (simp (disch:=omega) only [gG,gr,gi,gg])
  refine fR ⟨⟨k+1,rfl,by omega,λi q' hi hq'=>?_⟩,by dsimp only;omega⟩;by_cases hik:i=k;simp_all;exact ZJ i q' (by omega) hq';refine fR (.inr ⟨⟨_,_,_,rfl⟩,λq hq=>?_⟩);obtain⟨i,hi⟩:=List.getElem?_of_mem hq;exact ZJ i q (by have:=(oGS hi).1;omega) hi)
 rw[e];rcases hr with rfl|⟨⟨a,b,c,rfl⟩,Xa⟩;exact fR ⟨_,_,_,rfl,h,.inl ⟨by decide,rfl⟩⟩;dsimp only;obtain⟨j,rfl⟩:∃j:Nat,lock=j:=⟨lock.toNat,by omega⟩;obtain⟨o,ho⟩:=gz ow j (by omega);obtain⟨q,hq⟩:=gz qs j (by omega);have go:fU ow j=some o:=ho;have gq:fU qs j=some q:=hq;simp only[fY,oBS,go,gq];refine fT (λXE=>?_) λXE=>?_;exact fR ⟨_,_,_,rfl,⟨by rw[oLM];exact h1,h2,iO h3 λ_ _=>⟨by omega,ht.2⟩,h4⟩,.inl ⟨by decide,rfl⟩⟩;have q3:=h.qlen4 (f8 hq);refine fS (ge (by simp;omega)) (fS (by simp) (fR ⟨_,_,_,rfl,⟨h1,by rw[oLM];exact h2,h3,iO h4 λ_ _=>⟨?_,?_⟩⟩,.inr ⟨rfl,Xa,j,q,hq,by rw[gu hq];rfl⟩⟩));exact Eg (h4 q (f8 hq)).1 (Xa q (f8 hq));exact kX (h4 q (f8 hq)).2 (all_cons ht gy)
theorem Vc{ow:M_}{qs:j_}{t:Int}(h:kz ow qs)(ht:¬InQ qs t)(hX:CX qs):Ok (qA ow qs t) λr=>∃Zp qs' nx,r=(Zp,qs',nx,())/\kz Zp qs'/\nx.length<=4/\(∀x∈nx,0<=x/\x<=3)/\R3 qs nx qs':=by
 unfold qA;rw[Cz h];delta fZ;simp only[oBS];have h2:=h.qlen;have Xa:∀(k:Nat) q,qs[k]?=some q->t ∉ q:=λk q hq hm=>ht ⟨k,q,hq,hm⟩;refine gQ (P:=λs'=>∃k:Nat,s'=(t,(qs.length:Int),(k:Int),(),(),ow,qs,())/\k<=qs.length) (R:=λr=>∃a b c,r=(t,a,b,c,(),(),ow,qs,())) (m:=λs'=>(s'.2.1-s'.2.2.1).toNat) ⟨0,rfl,by omega⟩ (by unfold NN;dsimp only;omega) ?_ ?_;rintro _ ⟨k,rfl,hk⟩;unfold tU;dsimp only;refine fT (λZ'=>?_) λZ'=>?_;obtain⟨q,hq⟩:=gz qs k (by omega);have gq:fU qs k=some q:=hq;have q3:=h.qlen4 (f8 hq);delta fZ;simp only[fY,oBS,gq];refine gQ (P:=λs'=>∃j:Nat,s'=(t,(k:Int),(qs.length:Int),(k:Int),k,(q.length:Int),(j:Int),(),(),ow,qs,q.take j,())/\j<=q.length)
  (R:=λr=>∃a b c d,r=(t,(k:Int),(qs.length:Int),(k:Int),a,b,c,d,(),(),ow,qs,q,())) (m:=λs'=>(s'.2.2.2.2.2.1-s'.2.2.2.2.2.2.1).toNat) ⟨0,rfl,by omega⟩ (by unfold NN;dsimp only;omega) ?_ ?_
 rintro _ ⟨j,rfl,hj⟩;unfold tV;dsimp only;refine fT (λZ1=>?_) λZ1=>?_;obtain⟨x,hx⟩:=gz q j (by omega);have gx:fU q j=some x:=hx;have hxt:x≠t:=λe=>Xa k q hq (e▸f8 hx);simp only[fY,oBS,gq,gx,bne_iff_ne.2 hxt,oCT];rw[ge (by simp;omega)];simp only[oCT,oBS]
 (simp (disch:=omega) only [gG,gr,gi,gg])
 exact fR ⟨⟨j+1,by rw[List.take_add_one,hx];rfl,by omega⟩,by dsimp only;omega⟩;have:j=q.length:=by omega
 subst this;exact fR ⟨_,_,_,_,by rw[List.take_length]⟩;rintro _ ⟨a,b,c,d,rfl⟩;dsimp only;simp only[fY,oBS,gq];rw[gu hq,EL hq]
 (simp (disch:=omega) only [gG,gr,gi,gg])
 exact fR ⟨⟨k+1,rfl,by omega⟩,by dsimp only;omega⟩;exact fR ⟨_,_,_,rfl⟩;rintro _ ⟨a,b,c,rfl⟩;dsimp only;refine gQ (P:=λs'=>∃k:Nat,∃Zp qs' nx,s'=(t,4,(k:Int),(),(),Zp,qs',nx,())/\k<=4/\nx.length<=k/\kz Zp qs'/\(∀x∈nx,0<=x/\x<=3)/\R3 qs nx qs') (R:=λr=>∃a b c Zp qs' nx,r=(t,a,b,c,(),(),Zp,qs',nx,())/\kz Zp qs'/\nx.length<=4/\(∀x∈nx,0<=x/\x<=3)/\R3 qs nx qs') (m:=λs'=>(4-s'.2.2.1).toNat)
  ⟨0,ow,qs,[],by rw[h.olen];rfl,by omega,by simp,h,gy,.nil hX⟩ (by unfold NN;dsimp only;omega) ?_ ?_
 rintro _ ⟨k,Zp,qs',nx,rfl,hk,XG,YH,XH,hp⟩;unfold tT;dsimp only;refine fT (λZ'=>?_) λZ'=>?_;refine(LD YH).bind ?_;rintro _ ⟨ow2,qs2,n,bb,rfl,XU,⟨n0,n1⟩,XW,hbt⟩;dsimp only;refine Ok.bind (P:=λr=>∃nx',r=(t,4,(k:Int),(),(),Zp,qs',nx',ow2,qs2,())/\nx'.length<=k+1/\(∀x∈nx',0<=x/\x<=3)/\R3 qs nx' qs2) ?_ ?_;by_cases hn:n>=0;have hb:bb=true:=hbt hn;subst hb;simp only[oCT,oDT hn];refine fS (ge (by simp;omega)) (fR ⟨_,rfl,by rw[ij];simp;omega,kX XH (all_cons ⟨by omega,n1⟩ gy),hp.snoc YH hn XW⟩);have hq:qs2=qs':=by rcases XW with⟨_,e⟩|⟨j,q,hj,_⟩;exact e;have:=((YH.queue _ (f8 hj)).2 n (List.mem_cons_self ..)).1;omega
 subst hq;cases bb with|true=>simp only[oCT,oDF hn,oCF];exact fR ⟨nx,rfl,by omega,XH,hp⟩|false=>exact fR ⟨nx,rfl,by omega,XH,hp⟩
 rintro _ ⟨nx',rfl,WF,hn2,hp2⟩;dsimp only
 (simp (disch:=omega) only [gG,gr,gi,gg])
 exact fR ⟨⟨k+1,_,_,_,rfl,by omega,WF,XU,hn2,hp2⟩,by dsimp only;omega⟩;exact fR ⟨_,_,_,_,_,_,rfl,YH,by omega,XH,hp⟩;rintro _ ⟨a,b,c,Zp,qs',nx,rfl,YH,hn4,XH,hp⟩;exact fR ⟨_,_,_,rfl,YH,hn4,XH,hp⟩
theorem D3{ss:M_}{t v rg o sp:Int}{dat:D_}{w:Bool}(hs:AW ss)(hv:Pr ss (t,v,rg,o))(hd:dat.length<=16/\∀c∈dat,Pr ss c)(ZB:-1<=sp/\sp<=3):jS t v rg o dat sp w=some (true,()):=by refine gV ?_;unfold jS;rw[show ji t v rg o=some (true,())from Jp hs hv,mu hs hd.2 (by omega) (by omega)];refine fS (oDT ZB.1) ?_;exact fR (by rw[oDT (show sp<4 by omega)])
def T9(st:M_)(i:Nat)(call:Int)(w:Bool)(sp:Int):M_:=if sp=-1 then st.set i (if call=0 then 4 else if w=true then 3 else 1)else(st.set i (if call=0 then 4 else if w=true then 3 else 1)).set sp.toNat 1
theorem V3{n m key:Int}{code:F_}{ss bs:M_}{dd:j_}{cs:C_}{ls:G_}{ts:J_}{i:Nat}{trap count pc call:Int}{args data:D_}{t v rg o sp:Int}{dat:D_}{w:Bool}(hp:jP code ss dd)(h:MOk n ss bs cs ls ts)(hi:i<4) (hn:n<=1099511627776)(hm:m<=1099511627776)(hR:AX m ss (i:Int) 1 trap count pc call args data)(hv:Pr ss (t,v,rg,o))(hd:dat.length<=16/\∀c∈dat,Pr ss c)(ZB:-1<=sp/\sp<=3){th:DTh}(Zk:ts[i]?=some th)(h2:th.1=2)(hF:P3 ss call args)(hD:Uo call args dat)(hS:sp=-1\/(call=10/\w=false/\∃j:Nat,sp=j/\j<4/\∃tj,ts[j]?=some tj/\tj.1=0)):Ok (r9 code ss dd bs key cs ls ts (i:Int) 1 trap count pc call args data t v rg o dat sp w) λr=>∃Z5 Z3 ZZ b,r=(bs,key,Z5,Z3,ZZ,b,())/\MOk n ss bs Z5 Z3 ZZ/\ZZ.map (·.1)=T9 (ts.map (·.1)) i call w sp:=by
 have Yl:=h.tlen;obtain⟨Y5,XR⟩:=hR.hkind rfl;have hok:=h.thr th (f8 Zk);have hg:fU ts i=some th:=Zk;unfold r9;delta fZ;rw[u4 hp h hn,yL hp.sz hR hm,AA hR.hcall,D3 hp.sz hv hd ZB,Y5];simp only[oBS,oNT,oCF,oBN,fY,hg];simp only[bne_eq_false_iff_eq.2 h2,oCF,ut h,oBS,fY,hg];by_cases hc0:call=0;subst hc0;obtain⟨a,ha⟩:=gz args 0 (by rw[Y5];decide);have hva:=(hR.hargs.2 a (f8 ha)).val;simp only[BEq.rfl,oCT,show fU args 0=some a from ha,oBS];unfold pS nV;rw[ge (show 4<=1000/\0+th.2.1.length<=1000000 by have:=hok.len;omega)];simp only[oCT,oBS,gu Zk];refine gP (by rw[oLS];omega) λ_ _=>?_;exact fR ⟨_,_,_,_,rfl,h.set h.mem ⟨⟨show(0:Int)<=4 by decide,show(4:Int)<=4 by decide⟩,by dsimp only;rw[ij];simpa using hok.len,kX gy hok.regs,hok.pc,hok.count,hok.handler,hok.saved,⟨show(0:Int)<=0 by decide,show(0:Int)<=6 by decide⟩,hva⟩,by
  rcases hS with rfl|⟨ZM,_⟩
  ·rw[List.map_set];rfl
  ·exact absurd ZM (by decide)⟩
 simp only[oBF hc0,oCF];cases w with
 |true=>
 simp only[oCT,gu Zk];refine gP (by rw[oLS];omega) λ_ _=>?_;refine gP (by rw[oLS];omega) λ_ _=>?_;exact fR ⟨_,_,_,_,rfl,h.set h.mem ⟨⟨show(0:Int)<=3 by decide,show(3:Int)<=4 by decide⟩,hok.len,hok.regs,hok.pc,hok.count,hok.handler,hok.saved,hok.trap,hok.code⟩,by
  rcases hS with rfl|⟨_,hw,_⟩
  ·rw[List.map_set];unfold T9;rw[oIP rfl,oIN hc0,oIP rfl]
  ·cases hw⟩
 |false=>simp only[oCF];refine(Ts h hi hR hv hd hF hD (hS.imp id λ⟨a,_,b⟩=>⟨a,b⟩)).bind ?_;rintro _ ⟨Z5,Z3,ZZ,rfl,hb,hst⟩;simp only[oNT,oCF];have htl':=hb.tlen;refine f7 λ_ _=>?_;refine f7 λ_ _=>?_;refine fR ⟨_,_,_,_,rfl,hb,?_⟩;rw[hst];unfold EI T9;rw[oIN hc0,oIN (show ¬false=true by decide)];by_cases hm:sp=-1;rw[oIP hm,oIP hm];rw[oIN hm,oIN hm];rcases hS with hS|⟨_,_,j,rfl,_,tj,A',h0⟩;exact absurd hS hm;rw[oTN];refine List.set_comm _ _ (λe=>?_);simp_all
theorem SE{n key:Int}{code:F_}{ss bs:M_}{dd:j_}{cs:C_}{ls:G_}{ts:J_}{i:Nat}{t v rg o sp:Int}{dat:D_}{w:Bool}(hp:jP code ss dd)(h:MOk n ss bs cs ls ts) (hn:n<=1099511627776)(hv:Pr ss (t,v,rg,o))(hd:dat.length<=16/\∀c∈dat,Pr ss c)(ZB:-1<=sp/\sp<=3){th:DTh}(Zk:ts[i]?=some th)(h3:th.1=3):Ok (iI code ss dd bs key cs ls ts (i:Int) t v rg o dat sp w) λr=>∃Z5 Z3 ZZ b,r=.inr (bs,key,Z5,Z3,ZZ,b,())/\MOk n ss bs Z5 Z3 ZZ/\ZZ.map (·.1)=(ts.map (·.1)).set i 1:=by
 have Yl:=h.tlen;obtain⟨Xv,Zo⟩:=rE (key:=key) h.lay hv;dsimp only at Xv;unfold iI;rw[u4 hp h hn,D3 hp.sz hv hd ZB];simp only[oBS,oNT,oCF];have hil0:=(oGS Zk).1;have h1:¬(i:Int)<0:=by omega
 have h2:¬(i:Int)>=4:=by omega
 have hok:=h.thr th (f8 Zk);have hil:=(oGS Zk).1;have hg:fU ts i=some th:=Zk;obtain⟨c,hc0⟩:=gz th.2.1 0 (by have:=hok.len;omega);simp only[oDF h1,oDF h2,oCF,fY,oBS,hg];simp only[bne_eq_false_iff_eq.2 h3,oCF,Xv,oBS,oBN,ut h,fY,hg,show fU th.2.1 0=some c from hc0,gu Zk,gu hc0,iw hil,pG hil];exact fR ⟨_,_,_,_,rfl,h.set h.mem ⟨⟨show(0:Int)<=1 by decide,show(1:Int)<=4 by decide⟩,by dsimp only;rw[oLS];exact hok.len,jX hok.regs Zo,hok.pc,hok.count,hok.handler,hok.saved,hok.trap,hok.code⟩,by rw[List.map_set]⟩
theorem Na{n key:Int}{ss bs:M_}{cs:C_}{ls:G_}{ts:J_}(h:MOk n ss bs cs ls ts)(i:Int):Ok (mI bs key cs ls ts i) λr=>∃ZZ b,r=(bs,key,cs,ls,ZZ,b,())/\MOk n ss bs cs ls ZZ/\∀(j:Nat) t',ZZ[j]?=some t'->∃t,ts[j]?=some t/\t'.1=t.1:=by
 unfold mI;rw[ut h];refine(Sx h i).bind ?_;rintro⟨b,_⟩ hb;refine fT (λZ'=>?_) λZ'=>?_;exact fR ⟨ts,false,rfl,h,λj t' e=>⟨t',e,rfl⟩⟩;have hb:=hb Z';have Yl:=h.tlen;have ⟨ZI,ZP,hb3⟩:=hb;refine ju ZI λj hj=>?_;subst hj;refine f7 λt ht=>?_;refine f7 λt1 Yk=>?_;refine f7 λt2 YW=>?_;refine f7 λt3 ht3=>?_;rw[ht]at Yk YW ht3;injection Yk with Yk
 injection YW with YW
 subst Yk YW;refine gP (by rw[oLM];omega) λt4 ht4=>?_;have hne:=hb3 t (by rw[oTN];exact ht);have hok:=h.thr t (f8 ht);rw[lu];refine fR ⟨_,_,rfl,h.thread ht ⟨hok.state,hok.len,hok.regs,⟨by have:=hok.handler;dsimp only;omega,hok.handler.2⟩,hok.count,hok.handler,⟨by have:=hok.pc;dsimp only;omega,hok.pc.2⟩,hok.trap,hok.code⟩,λu t' e=>?_⟩;rw[oGM]at e;cases hu:ts[u]? with|none=>rw[hu]at e;split at e<;>cases e|some t0=>rw[hu]at e;refine⟨t0,rfl,?_⟩;split at e<;>(injection e with e;rw[<- e])
def Um(js:M_):Prop:=∀(u:Nat)(j:Int),js[u]?=some j->j≠u
theorem Um.set{js:M_}{i:Nat}{x:Int}(h:Um js)(hx:x≠i):Um (js.set i x):=by intro u j hj;rw[List.getElem?_set]at hj;split at hj;simp_all;exact h u j hj
def Uj(qs:j_)(ts:J_)(js:M_):Prop:=(∀x,InQ qs x->∃(i:Nat)(t:DTh),x=i/\ts[i]?=some t/\t.1=3/\js[i]?=some (-1))/\∀(i:Nat)(j:Int),js[i]?=some j->j≠-1->∃t,ts[i]?=some t/\t.1=3
structure km (n:Int)(q:Nat)(code:F_)(ss:M_)(dt:j_)(bs:M_)(cs:C_)(ls:G_)(ts:J_)(ck rn:M_)(ins:j_)(d:i_)(os:H_)(us:I_)(ow:M_)(qs:j_)(rec:E_)(js:M_):Prop where
 prog:jP code ss dt
 mach:MOk n ss bs cs ls ts
 outs:vB ss ck rn ins d os us
 lock:kz ow qs
 rlen:rec.length<=q
 jlen:js.length=4
 jne:Um js
 xq:Uj qs ts js
 xx:CX qs
def V1(n key:Int)(q:Nat)(code:F_)(ss:M_)(dt:j_)(bs:M_)(r:F_×v_×g_×v_×Int×C_×G_×J_×v_×v_×g_×i_×H_×I_×v_×g_×E_×v_×Unit):Prop:=∃cs ls ts ck rn ins d os us ow qs rec js,r=(code,ss,dt,bs,key,cs,ls,ts,ck,rn,ins,d,os,us,ow,qs,rec,js,())/\km n q code ss dt bs cs ls ts ck rn ins d os us ow qs rec js
theorem Bs{st:M_}{ZZ:J_}{k:Nat}{x:Int}(e:ZZ.map (·.1)=st)(h:st[k]?=some x):∃t',ZZ[k]?=some t'/\t'.1=x:=by rw[<- e,oGP]at h;simp_all
theorem Qi{ts:J_}{k:Nat}{t:DTh}(h:ts[k]?=some t):(ts.map (·.1))[k]?=some t.1:=by simp_all
theorem km.woken{n:Int}{q:Nat}{code:F_}{ss:M_}{dt:j_}{bs:M_}{cs Z5:C_}{ls Z3:G_}{ts ZZ:J_}{ck rn:M_}{ins:j_}{d:i_}{os:H_}{us:I_}{ow:M_}{qs:j_}{rec:E_}{js:M_}{i:Nat}{v:Int}{th:DTh} (h:km n q code ss dt bs cs ls ts ck rn ins d os us ow qs rec js)(Zk:ts[i]?=some th)(h3:th.1=3)(hnq:¬InQ qs i)(hv:W16 v)(hM:MOk n ss bs Z5 Z3 ZZ)(hst:ZZ.map (·.1)=(ts.map (·.1)).set i 1):km n (q+1) code ss dt bs Z5 Z3 ZZ ck rn ins d os us ow qs (List.append rec [(4,(i:Int),0,0,0,0,0,0,0,[],[],0,v,0,0,[],-1,false)]) (js.set i (-1)):=by have Yl:=h.mach.tlen;have hil:=(oGS Zk).1;have keep:∀(k:Nat)(t:DTh),k≠i->ts[k]?=some t->∃t',ZZ[k]?=some t'/\t'.1=t.1:=λk t hk ht=>Bs hst (by rw[List.getElem?_set_ne (Ne.symm hk)];exact Qi ht);refine⟨h.prog,hM,h.outs,h.lock,by have:=h.rlen;rw[ij];simp;omega,by rw[oLS];exact h.jlen,h.jne.set (by omega),⟨λx hx=>?_,λk j hk hj=>?_⟩,h.xx⟩;obtain⟨k,t,rfl,hk,ht3,hj⟩:=h.xq.1 x hx;have hki:k≠i:=λe=>hnq (e▸hx);obtain⟨t',ZU,e⟩:=keep k t hki hk;exact⟨k,t',rfl,ZU,by rw[e,ht3],by rw[List.getElem?_set_ne (Ne.symm hki)];exact hj⟩;rcases rk hk with⟨_,e⟩|⟨hne,hk⟩;exact absurd e hj;obtain⟨t,ht,ht3⟩:=h.xq.2 k j hk hj;obtain⟨t',ZU,e⟩:=keep k t (Ne.symm hne) ht;simp_all
theorem Nv{n:Int}{q:Nat}{code:F_}{ss:M_}{dt:j_}{bs:M_}{key:Int}{cs:C_}{ls:G_}{ts:J_}{ck rn:M_}{ins:j_}{d:i_}{os:H_}{us:I_}{ow:M_}{qs:j_}{rec:E_}{js:M_}{i:Nat}{v:Int}{th:DTh}(h:km n q code ss dt bs cs ls ts ck rn ins d os us ow qs rec js)(hn:n<=1099511627776)(hq:q<=900)(hv:W16 v)(Zk:ts[i]?=some th)(h3:th.1=3)(hnq:¬InQ qs i)(hjs:js[i]?=some (-1)):Ok (qu (i:Int) v code ss dt bs key cs ls ts ck rn ins d os us ow qs rec js) (V1 n key (q+1) code ss dt bs):=by unfold qu;rw[gi (x:=v) (by have:=hv.1;omega) (by have:=hv.2;omega)];obtain⟨v2,ev,Xk⟩:=ia v true;simp only[ev,oBS];obtain⟨_,eW,Z5,Z3,ZZ,b,rfl,hM,hst⟩:=SE (key:=key) (t:=0) (rg:=0) (o:=0) (sp:=-1) (w:=false) h.prog h.mach hn (i3 Xk) ⟨by decide,gy⟩ (by decide) Zk h3;rw[eW];dsimp only;refine gP (by rw[hM.tlen];decide) λ_ _=>?_;refine gP (by rw[hM.tlen];decide) λ_ _=>?_;have hr:=h.rlen;refine fS (ge (by simp;omega)) ?_;have hW:=h.woken Zk h3 hnq Xk hM hst;rw[EL hjs]at hW;exact fR ⟨_,_,_,_,_,_,_,_,_,_,_,_,_,rfl,hW⟩
theorem KZ{n:Int}{q:Nat}{code:F_}{ss:M_}{dt:j_}{bs:M_}{key:Int}{cs:C_}{ls:G_}{ts:J_}{ck rn:M_}{ins:j_}{d:i_}{os:H_}{us:I_}{ow:M_}{qs:j_}{rec:E_}{js:M_}{i:Nat}{v:Int}{th:DTh}(h:km n q code ss dt bs cs ls ts ck rn ins d os us ow qs rec js)(hn:n<=1099511627776)(hq:q<=900)(hv:W16 v)(Zk:ts[i]?=some th)(h3:th.1=3)(hnq:¬InQ qs i):Ok (lH (i:Int) v code ss dt bs key cs ls ts ck rn ins d os us ow qs rec) λr=>∃Z5 Z3 ZZ rec',r=(code,ss,dt,bs,key,Z5,Z3,ZZ,ck,rn,ins,d,os,us,ow,qs,rec',())/\km n (q+1) code ss dt bs Z5 Z3 ZZ ck rn ins d os us ow qs rec' (js.set i (-1))/\ZZ.map (·.1)=(ts.map (·.1)).set i 1:=by unfold lH;rw[gi (x:=v) (by have:=hv.1;omega) (by have:=hv.2;omega)];obtain⟨v2,ev,Xk⟩:=ia v true;simp only[ev,oBS];obtain⟨_,eW,Z5,Z3,ZZ,b,rfl,hM,hst⟩:=SE (key:=key) (t:=0) (rg:=0) (o:=0) (sp:=-1) (w:=false) h.prog h.mach hn (i3 Xk) ⟨by decide,gy⟩ (by decide) Zk h3;rw[eW];dsimp only;refine gP (by rw[hM.tlen];decide) λ_ _=>?_;refine gP (by rw[hM.tlen];decide) λ_ _=>?_;have hr:=h.rlen;refine fS (ge (by simp;omega)) ?_;exact fR ⟨_,_,_,_,rfl,h.woken Zk h3 hnq Xk hM hst,hst⟩
def SpP(ts:J_)(call:Int)(w:Bool)(sp:Int):Prop:=sp=-1\/(call=10/\w=false/\∃j:Nat,sp=j/\j<4/\∃tj,ts[j]?=some tj/\tj.1=0)
def QjP(ow:M_)(qs:j_)(js:M_)(i:Nat)(call:Int)(args:D_)(w:Bool)(Zp:M_)(qs':j_)(Xg:M_):Prop:=
 (w=false/\Xg=js/\((call≠9/\qs'=qs)\/(call=9/\∃(a:DCn)(nx:Int)(b:Bool),args[0]?=some a/\jL ow qs a.2.1 (i:Int)=some (Zp,qs',nx,b,()))))\/
 (w=true/\call≠0/\call≠9/\((Xg=js/\P0 qs i 1 qs')\/(qs'=qs/\∃k:Int,k≠-1/\k≠i/\Xg=js.set i k)))
def V5(n key:Int)(code:F_)(ss:M_)(dt:j_)(bs:M_)(cs:C_)(ls:G_)(ts:J_)(us:I_)(ow:M_)(qs:j_)(rec:E_)(js:M_)(i:Nat)(call:Int)(args data:D_)(r:Int×Int×Int×Int×D_×Int×Bool×F_×v_×g_×v_×Int×C_×G_×J_×v_×v_×g_×i_×H_×I_×v_×g_×E_×v_×Unit):Prop:=∃t v rg o dat sp w ck rn ins d os X9 Zp qs' Xg,r=(t,v,rg,o,dat,sp,w,code,ss,dt,bs,key,cs,ls,ts,ck,rn,ins,d,os,X9,Zp,qs',rec,Xg,())/\vB ss ck rn ins d os X9/\kz Zp qs'/\Pr ss (t,v,rg,o)/\(dat.length<=16/\∀c∈dat,Pr ss c)/\(-1<=sp/\sp<=3)/\R5 us X9 call args data t v/\Uo call args dat/\SpP ts call w sp/\QjP ow qs js i call args w Zp qs' Xg
set_option maxHeartbeats 4000000 in
theorem OM{n m:Int}{q:Nat}{code:F_}{ss:M_}{dt:j_}{bs:M_}{key:Int}{cs:C_}{ls:G_}{ts:J_}{ck rn:M_}{ins:j_}{d:i_}{os:H_}{us:I_}{ow:M_}{qs:j_}{rec:E_}{js:M_}{i:Nat}{trap count pc call:Int}{args data:D_}(h:km n q code ss dt bs cs ls ts ck rn ins d os us ow qs rec js)(hi:i<4)(hm:m<=1099511627776)(hR:AX m ss (i:Int) 1 trap count pc call args data):Ok (mD (i:Int) 1 trap count pc call args data code ss dt bs key cs ls ts ck rn ins d os us ow qs rec js) (V5 n key code ss dt bs cs ls ts us ow qs rec js i call args data):=by
 obtain⟨Y5,_⟩:=hR.hkind rfl;have Yl:=h.mach.tlen;obtain⟨v0,ev0,YQ⟩:=ia 0 true;obtain⟨v1,ev1,W2⟩:=ia 0 false;have ZV:([]:D_).length<=16/\∀c∈([]:D_),Pr ss c:=⟨by decide,gy⟩;have ZT:∀{v:Int}{w:Bool}{Zp:M_}{qs':j_}{Xg:M_},W16 v->kz Zp qs'->call≠13->QjP ow qs js i call args w Zp qs' Xg->Ok (some ((0:Int),v,(0:Int),(0:Int),([]:D_),(-1:Int),w,code,ss,dt,bs,key,cs,ls,ts,ck,rn,ins,d,os,us,Zp,qs',rec,Xg,())) (V5 n key code ss dt bs cs ls ts us ow qs rec js i call args data):=λhv hl h13 hj=>fR ⟨_,_,_,_,_,_,_,_,_,_,_,_,_,_,_,_,rfl,h.outs,hl,i3 hv,ZV,by decide,.inl ⟨h13,rfl⟩,kE,.inl rfl,hj⟩;have Xi:call≠9->QjP ow qs js i call args false ow qs js:=λh9=>.inl ⟨rfl,rfl,.inl ⟨h9,rfl⟩⟩;have hdo:RY call=true->Ok ((nG ck rn ins d os us (i:Int) 1 trap count pc call args data).bind λ(x35,x36,x37,x38,x39,x40,x41,x42,x43,x44,x45,x46,x47,x48,_)=>some (x41,x42,x43,x44,x45,x46,x47,code,ss,dt,bs,key,cs,ls,ts,x35,x36,x37,x38,x39,x40,ow,qs,rec,js,())) (V5 n key code ss dt bs cs ls ts us ow qs rec js i call args data):=by intro ha;refine(Vd h.prog.sz h.outs hR ha hm).bind ?_;rintro _ ⟨ck',rn',Yd,d',Y8,X9,t,v,rg,o,dat,rfl,hO,hv,hd,hu,hp⟩;exact fR ⟨_,_,_,_,_,_,_,_,_,_,_,_,_,_,_,_,rfl,hO,h.lock,hv,hd,by decide,hu,hp,.inl rfl,.inl ⟨rfl,rfl,.inl ⟨(λe=>by subst e;exact absurd ha (by decide)),rfl⟩⟩⟩
 have arg0:0<(kB call).length->∃a,fU args 0=some a/\W16 a.2.1/\wk .i64 a.2.1=a.2.1:=λhl=>by obtain⟨a,ha⟩:=gz args 0 (by omega);have hva:=(hR.hargs.2 a (f8 ha)).val;exact⟨a,ha,hva,gi (by have:=hva.1;omega) (by have:=hva.2;omega)⟩
 unfold mD;delta fZ;try dsimp only
 rcases uw hR.hcall with rfl|rfl|rfl|rfl|rfl|rfl|rfl|rfl|rfl|rfl|rfl|rfl|rfl|rfl|rfl|rfl;all_goals simp only[Int.reduceBEq,oCT,oCF,oBS,ev0,ev1]
 all_goals first
  |exact hdo rfl
  |exact ZT YQ h.lock (by decide) (Xi (by decide))
  |skip
 obtain⟨a,ga,ha,wa⟩:=arg0 (by decide);simp only[ga,oBS,wa];refine(Ux h.lock (by omega)).bind ?_;rintro _ ⟨Zp,qs',how,rfl,hl,hpush⟩;dsimp only;obtain⟨v,ev,hv⟩:=ia 0 (how != 2);simp only[ev,oBS];refine ZT hv hl (by decide) ?_;rcases hpush with⟨hne,hq⟩|⟨h1,ZS⟩;exact .inl ⟨oBF hne,rfl,.inl ⟨by decide,hq⟩⟩;exact .inr ⟨beq_iff_eq.2 h1,by decide,by decide,.inl ⟨rfl,.inr ⟨rfl,ZS⟩⟩⟩;obtain⟨a,ga,ha,wa⟩:=arg0 (by decide);simp only[ga,oBS,wa];obtain⟨_,e,Zp,qs',nx,b,rfl,hl,_,_,_⟩:=LD (lock:=a.2.1) (t:=(i:Int)) h.lock;simp only[e,oBS];obtain⟨v,ev,hv⟩:=ia 0 b;simp only[ev,oBS];exact ZT hv hl (by decide) (.inl ⟨rfl,rfl,.inr ⟨rfl,a,nx,b,ga,e⟩⟩);obtain⟨y,e,hy⟩:=hU (f:=mC) (n:=NN) (s:=((ts.length:Int),0,code,ss,dt,bs,key,cs,ls,ts,ck,rn,ins,d,os,us,ow,qs,rec,js,0,0,0,0,(),0,false,())) (P:=λs'=>∃k:Nat,s'=((ts.length:Int),(k:Int),code,ss,dt,bs,key,cs,ls,ts,ck,rn,ins,d,os,us,ow,qs,rec,js,0,0,0,0,(),0,false,())/\k<=4) (R:=λy=>(∃v k,y=.inl (code,ss,dt,bs,key,cs,ls,ts,ck,rn,ins,d,os,us,ow,qs,rec,js,0,v,0,0,(),k,false,())/\W16 v/\∃j:Nat,k=j/\j<4/\∃tj,ts[j]?=some tj/\tj.1=0)\/(∃a b f,y=.inr (a,b,f,code,ss,dt,bs,key,cs,ls,ts,ck,rn,ins,d,os,us,ow,qs,rec,js,0,0,0,0,(),0,false,()))) (m:=λs'=>(s'.1-s'.2.1).toNat) ⟨0,rfl,by omega⟩ (by unfold NN;dsimp only;omega) (by rintro _ ⟨k,rfl,hk⟩;unfold mC;dsimp only;refine fT (λZ'=>?_) λZ'=>?_;obtain⟨t,ht⟩:=gz ts k (by omega);simp only[fY,oBS,show fU ts k=some t from ht];refine fT (λZ1=>?_) λZ1=>?_;obtain⟨v,ev,hv⟩:=ia (k:Int) true;simp only[ev,oBS];exact fR (.inl ⟨_,_,rfl,hv,k,rfl,by omega,t,ht,by first|exact beq_iff_eq.1 Z1|exact Z1⟩);rw[iG (x:=(k:Int)+1)];exact fR ⟨⟨k+1,rfl,by omega⟩,by dsimp only;omega⟩;exact fR (.inr ⟨_,_,_,rfl⟩));simp only[e];rcases hy with⟨v,k,rfl,hv,j,rfl,hj4,tj,A',hj0⟩|⟨a,b,f,rfl⟩;exact fR ⟨_,_,_,_,_,_,_,_,_,_,_,_,_,_,_,_,rfl,h.outs,h.lock,i3 hv,ZV,by omega,.inl ⟨by decide,rfl⟩,kE,.inr ⟨rfl,rfl,j,rfl,hj4,tj,A',hj0⟩,Xi (by decide)⟩;simp only[ev1,oBS];exact ZT W2 h.lock (by decide) (Xi (by decide));obtain⟨a,ga,ha,wa⟩:=arg0 (by decide);simp only[ga,oBS,wa];obtain⟨j,hj⟩:∃j:Nat,a.2.1=j:=⟨a.2.1.toNat,by have:=ha.1;omega⟩;simp only[hj];by_cases h1:(j:Int)=i;simp only[beq_iff_eq.2 h1,oCT,oBS,ev1];exact ZT W2 h.lock (by decide) (Xi (by decide));by_cases h2:(j:Int)>=4;simp only[oBF h1,oDT h2,oCT,oCF,oBS,ev1];exact ZT W2 h.lock (by decide) (Xi (by decide));obtain⟨t,ht⟩:=gz ts j (by omega);simp only[oBF h1,oDF h2,oCF,oBS,fY,show fU ts j=some t from ht];cases t.1==0 with|true=>simp only[oCT,ev1,oBS];exact ZT W2 h.lock (by decide) (Xi (by decide))|false=>simp only[oCF,fY,oBS,show fU ts j=some t from ht];cases t.1==4 with|true=>obtain⟨v,ev,hv⟩:=ia (wk .i64 t.2.2.2.2.2.2.2) true;simp only[oCT,ev,oBS];exact ZT hv h.lock (by decide) (Xi (by decide))|false=>obtain⟨z,hz⟩:=gz js i (by have:=h.jlen;omega);simp only[oCF,show fU js i=some z from hz,oBS,ev0,gu hz];exact ZT YQ h.lock (by decide) (.inr ⟨rfl,by decide,by decide,.inr ⟨rfl,j,by omega,h1,rfl⟩⟩)
theorem RT{st:M_}{i k:Nat}{call sp:Int}{w:Bool}{ts:J_}{t:DTh}(hs:SpP ts call w sp)(hk:ts[k]?=some t)(h3:t.1=3)(hi:k≠i)(hst:st=ts.map (·.1)):(T9 st i call w sp)[k]?=some 3:=by
 have h0:st[k]?=some 3:=by simp_all
 unfold T9;by_cases hm:sp=-1;rw[oIP hm,List.getElem?_set_ne (Ne.symm hi),h0];rw[oIN hm];rcases hs with hs|⟨_,_,j,rfl,_,tj,A',hj0⟩;omega;rw[oTN,List.getElem?_set_ne (λe=>?_),List.getElem?_set_ne (Ne.symm hi),h0];simp_all
theorem RS{st:M_}{i:Nat}{call sp:Int}{ts:J_}(hs:SpP ts call true sp)(h0:call≠0)(hi:i<st.length):(T9 st i call true sp)[i]?=some 3:=by unfold T9;rcases hs with rfl|⟨_,hw,_⟩;simp_all;cases hw
theorem GQ{n m:Int}{q:Nat}{code:F_}{ss:M_}{dt:j_}{bs:M_}{key:Int}{cs:C_}{ls:G_}{ts:J_}{ck rn:M_}{ins:j_}{d:i_}{os:H_}{us:I_}{ow:M_}{qs:j_}{rec:E_}{js:M_}{i:Nat}{trap count pc call:Int}{args data:D_}(h:km n q code ss dt bs cs ls ts ck rn ins d os us ow qs rec js)(hi:i<4)(hn:n<=1099511627776)(hm:m<=1099511627776)(hq:q<=800)(hR:AX m ss (i:Int) 1 trap count pc call args data)(hF:P3 ss call args){th:DTh}(Zk:ts[i]?=some th)(h2t:th.1=2):Ok (lI (i:Int) 1 trap count pc call args data code ss dt bs key cs ls ts ck rn ins d os us ow qs rec js) (V1 n key (q+2) code ss dt bs):=by
 obtain⟨Y5,_⟩:=hR.hkind rfl;unfold lI;refine Ok.bind (P:=λr=>∃nx,r=(nx,code,ss,dt,bs,key,cs,ls,ts,ck,rn,ins,d,os,us,ow,qs,rec,js,(i:Int),1,trap,count,pc,call,args,data,())/\(nx≠-1->call=9/\∃(a:DCn)(ow1:M_)(qs1:j_)(b:Bool),args[0]?=some a/\jL ow qs a.2.1 (i:Int)=some (ow1,qs1,nx,b,())/\R4 qs nx qs1)/\-1<=nx/\nx<=3) ?_ ?_;by_cases h9:call=9;subst h9;obtain⟨a,ha⟩:=gz args 0 (by rw[Y5];decide);have hva:=(hR.hargs.2 a (f8 ha)).val;obtain⟨_,e,Zp,qs',nx,b,rfl,hl,XH,XW,_⟩:=LD (lock:=a.2.1) (t:=(i:Int)) h.lock;simp only[BEq.rfl,oCT,show fU args 0=some a from ha,oBS,gi (x:=a.2.1) (by have:=hva.1;omega) (by have:=hva.2;omega),e];exact fR ⟨nx,rfl,λ_=>⟨by first|rfl|trivial,a,Zp,qs',b,ha,e,XW⟩,XH.1,XH.2⟩;simp only[oBF h9,oCF];exact fR ⟨_,rfl,λhn=>absurd rfl hn,by decide,by decide⟩;rintro _ ⟨nx,rfl,XH,hnx0,hnx3⟩;dsimp only;refine(OM h hi hm hR).bind ?_;rintro _ ⟨t,v,rg,o,dat,sp,w,ck',rn',Yd,d',Y8,X9,Zp,qs',Xg,rfl,hO,hL,hv,hd,hs,hu,hdp,ZB,hqj⟩;dsimp only;refine(V3 h.prog h.mach hi hn hm hR hv hd hs Zk h2t hF hdp ZB).bind ?_;rintro _ ⟨Z5,Z3,ZZ,b,rfl,hM,hst⟩;dsimp only;have hr:=h.rlen;have Yl:=h.mach.tlen;have hjl:=h.jlen;have ZX:sp≠-1->sp.toNat<4:=λ_=>by omega
 refine fS (ge (by simp;omega)) ?_;have WL:¬InQ qs i:=λhq=>by
  obtain⟨k,tk,e,hk,X3,_⟩:=h.xq.1 i hq;obtain rfl:k=i:=by omega
  rw[Zk]at hk;injection hk with hk
  rw[hk]at h2t;omega
 have jsi:js[i]?=some (-1):=by
  obtain⟨j,hj⟩:=gz js i (by omega);by_cases e:j=-1;rw[hj,e];obtain⟨tk,hk,X3⟩:=h.xq.2 i j hj e;rw[Zk]at hk;injection hk with hk
  rw[hk]at h2t;omega
 have keep:∀(k:Nat)(tk:DTh),k≠i->ts[k]?=some tk->tk.1=3->∃t',ZZ[k]?=some t'/\t'.1=3:=λk tk hk ht h3=>Bs hst (RT ZB ht h3 hk rfl);have hq:Xg.length=4/\Um Xg/\Uj qs' ZZ Xg/\CX qs':=by
  rcases hqj with⟨hw,rfl,hqq⟩|⟨hw,hc0,hc9,hqq⟩;have Z9:CX qs'/\∀x,InQ qs' x->InQ qs x:=by
   rcases hqq with⟨_,rfl⟩|⟨h9,a,nx2,b2,X0,e2⟩;exact⟨h.xx,λx hx=>hx⟩;obtain⟨_,e3,_,_,nx3,_,rfl,_,_,XW,_⟩:=LD (lock:=a.2.1) (t:=(i:Int)) h.lock;rw[e2]at e3;injection e3 with e3
   simp only[oPJ]at e3;obtain⟨_,rfl,rfl,_⟩:=e3;by_cases hn:nx2=-1;rcases XW with⟨_,rfl⟩|⟨j,q,hj,_⟩;exact⟨h.xx,λx hx=>hx⟩;have:=((h.lock.queue _ (f8 hj)).2 nx2 (List.mem_cons_self ..)).1;omega;obtain⟨_,g2,g3⟩:=Tu h.lock h.xx XW hn;exact⟨g2,λx hx=>(g3 x hx).1⟩
  refine⟨hjl,h.jne,⟨λx hx=>?_,λk j hk hj=>?_⟩,Z9.1⟩;obtain⟨k,tk,rfl,hk,X3,hkj⟩:=h.xq.1 x (Z9.2 x hx);obtain⟨t',ZU,e⟩:=keep k tk (λe=>WL (e▸Z9.2 _ hx)) hk X3;exact⟨k,t',rfl,ZU,e,hkj⟩;obtain⟨tk,ht,X3⟩:=h.xq.2 k j hk hj;have hki:k≠i:=λe=>by
   subst e;rw[jsi]at hk;injection hk with hk
   exact hj hk.symm
  exact keep k tk hki ht X3;subst hw;obtain⟨ti,hti,hti3⟩:=Bs hst (RS ZB hc0 (by rw[oLP];omega));rcases hqq with⟨rfl,hpush⟩|⟨rfl,k0,hk0,hk0i,rfl⟩;obtain⟨g1,g2⟩:=UL h.xx hpush;refine⟨hjl,h.jne,⟨λx hx=>?_,λk j hk hj=>?_⟩,g1⟩;rcases g2 x hx with hx|⟨rfl,_⟩;obtain⟨k,tk,rfl,hk,X3,hkj⟩:=h.xq.1 x hx;obtain⟨t',ZU,e⟩:=keep k tk (λe=>WL (e▸hx)) hk X3;exact⟨k,t',rfl,ZU,e,hkj⟩;exact⟨i,ti,rfl,hti,hti3,jsi⟩;obtain⟨tk,ht,X3⟩:=h.xq.2 k j hk hj;have hki:k≠i:=λe=>by
   subst e;rw[jsi]at hk;injection hk with hk
   exact hj hk.symm
  exact keep k tk hki ht X3;refine⟨by rw[oLS];exact hjl,h.jne.set hk0i,⟨λx hx=>?_,λk j hk hj=>?_⟩,h.xx⟩;obtain⟨k,tk,rfl,hk,X3,hkj⟩:=h.xq.1 x hx;have hki:k≠i:=λe=>WL (e▸hx);obtain⟨t',ZU,e⟩:=keep k tk hki hk X3;exact⟨k,t',rfl,ZU,e,by rw[List.getElem?_set_ne (Ne.symm hki)];exact hkj⟩;rcases rk hk with⟨e,_⟩|⟨hne,hk⟩;subst e;exact⟨ti,hti,hti3⟩;obtain⟨tk,ht,X3⟩:=h.xq.2 k j hk hj;exact keep k tk (Ne.symm hne) ht X3
 obtain⟨hq1,Y6,hq3,hq4⟩:=hq;have h3:km n (q+1) code ss dt bs Z5 Z3 ZZ ck' rn' Yd d' Y8 X9 Zp qs' (List.append rec [(2,(i:Int),0,(i:Int),1,trap,count,pc,call,args,data,t,v,rg,o,dat,sp,w)]) Xg:=⟨h.prog,hM,hO,hL,by rw[ij];simp;omega,hq1,Y6,hq3,hq4⟩;by_cases hn0:nx>=0;simp only[oDT hn0,oCT];obtain⟨h9,a,ow1,qs1,b1,Ys,eg,XW⟩:=XH (by omega);obtain⟨g1,g2,g3⟩:=Tu h.lock h.xx XW (by omega);obtain⟨k,tk,rfl,hk,X3,hkj⟩:=h.xq.1 nx g1;have hki:k≠i:=λe=>WL (e▸g1);obtain⟨t',ZU,e3⟩:=keep k tk hki hk X3;have hqq:qs'=qs1/\Xg=js:=by
  rcases hqj with⟨_,hjj,hqq⟩|⟨_,_,h9',_⟩;refine⟨?_,hjj⟩;rcases hqq with⟨hn9,_⟩|⟨_,a2,nx2,b2,X0,e2⟩;exact absurd h9 hn9;rw[Ys]at X0;injection X0 with X0
  subst X0;rw[eg]at e2;injection e2 with e2
  simp only[oPJ]at e2;exact e2.2.1.symm;exact absurd h9 h9'
 obtain⟨rfl,rfl⟩:=hqq;refine(Nv h3 hn (by omega) ⟨by decide,by decide⟩ ZU e3 (λhq=>(g3 _ hq).2 rfl) hkj).bind ?_;rintro _ ⟨cs3,ls3,ts3,ck3,rn3,ins3,d3,os3,us3,ow3,qs3,rec3,js3,rfl,h4⟩;exact fR ⟨_,_,_,_,_,_,_,_,_,_,_,_,_,rfl,h4⟩;simp only[oDF hn0,oCF];have h4:=h3;exact fR ⟨_,_,_,_,_,_,_,_,_,_,_,_,_,rfl,h4.prog,h4.mach,h4.outs,h4.lock,by have:=h4.rlen;omega,h4.jlen,h4.jne,h4.xq,h4.xx⟩
theorem KF{n:Int}{q:Nat}{code:F_}{ss:M_}{dt:j_}{bs:M_}{key:Int}{cs:C_}{ls:G_}{ts:J_}{ck rn:M_}{ins:j_}{d:i_}{os:H_}{us:I_}{ow:M_}{qs:j_}{rec:E_}{js:M_}{i:Nat}(h:km n q code ss dt bs cs ls ts ck rn ins d os us ow qs rec js)(hi:i<4)(hn:n<=1099511627776)(hq:q<=800){th:DTh}(Zk:ts[i]?=some th)(h4t:th.1=4):Ok (mE (i:Int) code ss dt bs key cs ls ts ck rn ins d os us ow qs rec js) (V1 n key (q+7) code ss dt bs):=by
 unfold mE;delta fZ;try dsimp only
 have WL:¬InQ qs i:=λhq=>by
  obtain⟨k,tk,e,hk,X3,_⟩:=h.xq.1 i hq;obtain rfl:k=i:=by omega
  rw[Zk]at hk;injection hk with hk
  rw[hk]at h4t;omega
 refine(Vc h.lock WL h.xx).bind ?_;rintro _ ⟨Zp,qs',nx,rfl,hl,hn4,XH,Xu⟩;dsimp only;have hwt0:=λx hx=>h.xq.1 x (Xu.was x hx);refine gQ (P:=λs'=>∃k:Nat,∃cs ls ts rec,s'=((i:Int),(nx.length:Int),(k:Int),code,ss,dt,bs,key,cs,ls,ts,ck,rn,ins,d,os,us,Zp,qs',rec,js,nx,())/\k<=nx.length/\km n (q+k) code ss dt bs cs ls ts ck rn ins d os us Zp qs' rec js/\(∀(m:Nat) x,k<=m->nx[m]?=some x->∃(u:Nat)(t:DTh),x=u/\ts[u]?=some t/\t.1=3/\js[u]?=some (-1))/\∃t,ts[i]?=some t/\t.1=4)
  (R:=λr=>∃a b f cs ls ts rec,r=((i:Int),a,b,f,code,ss,dt,bs,key,cs,ls,ts,ck,rn,ins,d,os,us,Zp,qs',rec,js,nx,())/\km n (q+4) code ss dt bs cs ls ts ck rn ins d os us Zp qs' rec js/\∃t,ts[i]?=some t/\t.1=4) (m:=λs'=>(s'.2.1-s'.2.2.1).toNat)
  ⟨0,cs,ls,ts,rec,rfl,by omega,⟨h.prog,h.mach,h.outs,hl,by have:=h.rlen;omega,h.jlen,h.jne,⟨λx hx=>h.xq.1 x (Xu.now x hx).1,h.xq.2⟩,Xu.cross⟩,λm x _ hx=>hwt0 x (f8 hx),th,Zk,h4t⟩ (by unfold NN;dsimp only;omega) ?_ ?_
 rintro _ ⟨k,cs2,ls2,ts2,QC,rfl,hk,h2,hw2,ti,hti,hti4⟩;unfold td;dsimp only;refine fT (λZ'=>?_) λZ'=>?_;obtain⟨x,hx⟩:=gz nx k (by omega);simp only[fY,oBS,show fU nx k=some x from hx];obtain⟨u,tu,rfl,hu,hu3,huj⟩:=hw2 k x (oLE _) hx;have hunq:¬InQ qs' u:=λhq=>(Xu.now _ hq).2 (f8 hx);refine(KZ h2 hn (by omega) ⟨by decide,by decide⟩ hu hu3 hunq).bind ?_;rintro _ ⟨cs3,ls3,ts3,rec3,rfl,h3,hst3⟩;rw[EL huj]at h3;have keep:∀(m:Nat)(t:DTh),m≠u->ts2[m]?=some t->∃t',ts3[m]?=some t'/\t'.1=t.1:=λm t hm ht=>Bs hst3 (by rw[List.getElem?_set_ne (Ne.symm hm)];exact Qi ht);have hiu:i≠u:=λe=>by
  subst e;rw[hti]at hu;injection hu with hu
  rw[hu]at hti4;omega
 have hw3:∀(m:Nat) x,k+1<=m->nx[m]?=some x->∃(v:Nat)(t:DTh),x=v/\ts3[v]?=some t/\t.1=3/\js[v]?=some (-1):=λm x hm hxm=>by
  obtain⟨v,tv,rfl,hv,B',W3⟩:=hw2 m x (by omega) hxm;have hvu:v≠u:=λe=>by subst e;have Xs:=(oGS hx).1;have:=(List.getElem?_inj Xs Xu.nd).1 (hx.trans hxm.symm);omega
  obtain⟨t',ZU,e⟩:=keep v tv hvu hv;exact⟨v,t',rfl,ZU,by rw[e,B'],W3⟩
 obtain⟨ti',hti',zl⟩:=keep i ti hiu hti;dsimp only;rw[iG (x:=(k:Int)+1)];exact fR ⟨⟨k+1,_,_,_,_,rfl,by omega,h3,hw3,ti',hti',by rw[zl,hti4]⟩,by dsimp only;omega⟩;exact fR ⟨_,_,_,_,_,_,_,rfl,⟨h2.prog,h2.mach,h2.outs,h2.lock,by have:=h2.rlen;omega,h2.jlen,h2.jne,h2.xq,h2.xx⟩,ti,hti,hti4⟩;rintro _ ⟨a,b,f,cs2,ls2,ts2,QC,rfl,h2,hti2⟩;dsimp only;refine gQ (P:=λs'=>∃k c:Nat,∃cs ls ts rec js,s'=((i:Int),4,(k:Int),code,ss,dt,bs,key,cs,ls,ts,ck,rn,ins,d,os,us,Zp,qs',rec,js,())/\(k<=4/\c<=k/\(i<k->c+1<=k))/\km n (q+4+c) code ss dt bs cs ls ts ck rn ins d os us Zp qs' rec js/\∃t,ts[i]?=some t/\t.1=4)
  (R:=λr=>∃a b c f cs ls ts rec js,r=(a,b,c,f,code,ss,dt,bs,key,cs,ls,ts,ck,rn,ins,d,os,us,Zp,qs',rec,js,())/\km n (q+7) code ss dt bs cs ls ts ck rn ins d os us Zp qs' rec js) (m:=λs'=>(s'.2.1-s'.2.2.1).toNat)
  ⟨0,0,cs2,ls2,ts2,QC,js,by rw[h.jlen];rfl,by omega,h2,hti2⟩ (by unfold NN;dsimp only;have:=h.jlen;omega) ?_ ?_
 rintro _ ⟨k,c,cs2,ls2,ts2,QC,js2,rfl,hk,h2,t,ht,ht4⟩;unfold s9;dsimp only;refine fT (λZ'=>?_) λZ'=>?_;obtain⟨x,hx⟩:=gz js2 k (by have:=h2.jlen;omega);have htc:=(h2.mach.thr t (f8 ht)).code;simp only[fY,oBS,show fU js2 k=some x from hx,show fU ts2 i=some t from ht];refine Ok.bind (P:=λr=>∃cs ls ts rec js,r=((i:Int),4,(k:Int),code,ss,dt,bs,key,cs,ls,ts,ck,rn,ins,d,os,us,Zp,qs',rec,js,())/\∃c':Nat,(c'<=k+1/\(i<k+1->c'<=k))/\km n (q+4+c') code ss dt bs cs ls ts ck rn ins d os us Zp qs' rec js/\∃t,ts[i]?=some t/\t.1=4) ?_ ?_;refine fT (λZ1=>?_) λZ1=>?_;have hki:x≠(k:Int):=h2.jne k x hx;have hxi:x=(i:Int):=by first|exact Z1|exact beq_iff_eq.1 Z1
 obtain⟨tk,htk,htk3⟩:=h2.xq.2 k x hx (by omega);have hknq:¬InQ qs' k:=λhq=>by
  obtain⟨k2,_,e,_,_,hj⟩:=h2.xq.1 k hq;obtain rfl:k2=k:=by omega
  rw[hx]at hj;injection hj with hj
  omega
 refine(KZ h2 hn (by omega) htc htk htk3 hknq).bind ?_;rintro _ ⟨cs3,ls3,ts3,rec3,rfl,h3,hst3⟩;obtain⟨ti',hti',zl⟩:∃t',ts3[i]?=some t'/\t'.1=4:=Bs hst3 (by rw[List.getElem?_set_ne (by omega),Qi ht,ht4]);simp only[fY,oBS,show fU js2 k=some x from hx,gu hx];exact fR ⟨_,_,_,_,_,rfl,c+1,by omega,h3,ti',hti',zl⟩;exact fR ⟨_,_,_,_,_,rfl,c,by omega,h2,t,ht,ht4⟩;rintro _ ⟨cs3,ls3,ts3,rec3,js3,rfl,c',YG,h3,hti3⟩;dsimp only;rw[iG (x:=(k:Int)+1)];exact fR ⟨⟨k+1,c',_,_,_,_,_,rfl,by omega,h3,hti3⟩,by dsimp only;omega⟩;exact fR ⟨_,_,_,_,_,_,_,_,_,rfl,h2.prog,h2.mach,h2.outs,h2.lock,by have:=h2.rlen;omega,h2.jlen,h2.jne,h2.xq,h2.xx⟩;rintro _ ⟨a,b,c,f,cs2,ls2,ts2,QC,js2,rfl,h2⟩;exact fR ⟨_,_,_,_,_,_,_,_,_,_,_,_,_,rfl,h2⟩
end Go.Proofs.YtabfnmgabblofaaGreat
