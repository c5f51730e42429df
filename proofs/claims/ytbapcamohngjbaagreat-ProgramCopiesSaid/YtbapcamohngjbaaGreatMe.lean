/- Part of the proof; no condition. -/
import Derived.Test.YtbapcamohngjbaaGreatMd
import Derived.WalkKit
import Derived.WalkSpells
import Derived.Handy
import Derived.OpenShut
set_option linter.unusedVariables false
set_option linter.unusedSimpArgs false
namespace Go.Proofs.YtbapcamohngjbaaGreat
open Go.RowKit
set_option maxRecDepth 100000
noncomputable section
def ki:T3r->Option (T3r⊕T3y):=λ(v0,v1,v2,v3,v4,v5,v6,v7,v8,v9,v10,v11,v12,v13,v14,v15,v16,v17,v18,v19,v20,v21,v22,v23,v24,v25,v26,v27,v28,v29,v30,v31,v32,v33,v34,v35,v36,_)=>
bif decide (v1 < v0) then (((dL 3 v2 v3).bind λ(x0,x1,x2,_)=>
bif (x0==0) then ((dK v35 0).bind λx3=>
(dK v35 0).bind λx4=>
(kY v13 x1 x2).bind λ(x5,x6,x7,x8,x9,ac,_)=>
(d7 v1).bind λae=>
(dK v35 0).bind λaf=>
(dK af ae).bind λag=>
(dK v35 0).bind λah=>
(dK ah ae).bind λai=>
let aj:=(List.modify v35 0 λe=>(List.modify e ae λe=>(x5,(x6,(x7,x8)))));
some (v0,v1,x9,ac,v4,v5,v6,v7,v8,v9,v10,v11,v12,v13,v14,v15,v16,v17,v18,v19,v20,v21,v22,v23,v24,v25,v26,v27,v28,v29,v30,v31,v32,v33,v34,aj,v36,())) else
some (v0,v1,x1,x2,v4,v5,v6,v7,v8,v9,v10,v11,v12,v13,v14,v15,v16,v17,v18,v19,v20,v21,v22,v23,v24,v25,v26,v27,v28,v29,v30,v31,v32,v33,v34,v35,v36,()):Option (T3r)).bind λ(x0,x1,x2,x3,x4,x5,x6,x7,x8,x9,ac,ae,af,ag,ah,ai,aj,ak)=>
let aM:=w64 (x1+1);
some (.inl (x0,aM,x2,x3,x4,x5,x6,x7,x8,x9,ac,ae,af,ag,ah,ai,aj,ak))) else
some (.inr (v0,v1,false,v2,v3,v4,v5,v6,v7,v8,v9,v10,v11,v12,v13,v14,v15,v16,v17,v18,v19,v20,v21,v22,v23,v24,v25,v26,v27,v28,v29,v30,v31,v32,v33,v34,v35,v36,()))
def nB:T3G->Option (T3G⊕(Int×Int×Int×T3y)):=λ(v0,v1,v2,v3,v4,v5,v6,v7,v8,v9,v10,v11,v12,v13,v14,v15,v16,v17,v18,v19,v20,v21,v22,v23,v24,v25,v26,v27,v28,v29,v30,v31,v32,v33,v34,v35,v36,v37,v38,v39,_)=>
bif decide (v4 < v3) then (((dL 3 v5 v6).bind λ(x0,x1,x2,_)=>
bif (x0==0) then ((d7 v0).bind λx3=>
(dK v39 x3).bind λx4=>
(dK v39 x3).bind λx5=>
(kY v16 x1 x2).bind λ(x6,x7,x8,x9,ac,ae,_)=>
(d7 v4).bind λaf=>
(dK v39 x3).bind λag=>
(dK ag.2.2.2.2.2.2.2 af).bind λah=>
(dK v39 x3).bind λai=>
(dK ai.2.2.2.2.2.2.2 af).bind λaj=>
let ak:=(List.modify v39 x3 λe=>(e.1,(e.2.1,(e.2.2.1,(e.2.2.2.1,(e.2.2.2.2.1,(e.2.2.2.2.2.1,(e.2.2.2.2.2.2.1,(List.modify e.2.2.2.2.2.2.2 af λe=>(x6,(x7,(x8,x9))))))))))));
some (v0,v1,v2,v3,v4,ac,ae,v7,v8,v9,v10,v11,v12,v13,v14,v15,v16,v17,v18,v19,v20,v21,v22,v23,v24,v25,v26,v27,v28,v29,v30,v31,v32,v33,v34,v35,v36,v37,v38,ak,())) else
some (v0,v1,v2,v3,v4,x1,x2,v7,v8,v9,v10,v11,v12,v13,v14,v15,v16,v17,v18,v19,v20,v21,v22,v23,v24,v25,v26,v27,v28,v29,v30,v31,v32,v33,v34,v35,v36,v37,v38,v39,()):Option (T3G)).bind λ(x0,x1,x2,x3,x4,x5,x6,x7,x8,x9,ac,ae,af,ag,ah,ai,aj,ak,am)=>
let aQ:=w64 (x4+1);
some (.inl (x0,x1,x2,x3,aQ,x5,x6,x7,x8,x9,ac,ae,af,ag,ah,ai,aj,ak,am))) else
some (.inr (v0,v1,v2,v3,v4,false,v5,v6,v7,v8,v9,v10,v11,v12,v13,v14,v15,v16,v17,v18,v19,v20,v21,v22,v23,v24,v25,v26,v27,v28,v29,v30,v31,v32,v33,v34,v35,v36,v37,v38,v39,()))
def kg:T3r->Option (T3r⊕T3y):=λ(v0,v1,v2,v3,v4,v5,v6,v7,v8,v9,v10,v11,v12,v13,v14,v15,v16,v17,v18,v19,v20,v21,v22,v23,v24,v25,v26,v27,v28,v29,v30,v31,v32,v33,v34,v35,v36,_)=>
bif decide (v1 < v0) then (((d7 v1).bind λx0=>
(dK v36 x0).bind λx1=>
(dK v36 x0).bind λx2=>
(dK v36 x0).bind λx3=>
let x4:=dM x3.2.2.2.2.2.2.2.length;
(dU nB NN (v1,v0,v1,x4,0,v2,v3,v4,v5,v6,v7,v8,v9,v10,v11,v12,v13,v14,v15,v16,v17,v18,v19,v20,v21,v22,v23,v24,v25,v26,v27,v28,v29,v30,v31,v32,v33,v34,v35,v36,())).bind λ(x5,x6,x7,x8,x9,ac,ae,af,ag,ah,ai,aj,ak,am,an,ap,aq,av,ax,ay,az,aA,aB,aD,aE,aF,aG,aH,aI,aJ,aK,aL,aM,aO,aP,aQ,aR,aS,aT,aU,aV,_)=>
(dL 4 ae af).bind λ(aW,aY,aZ,_)=>
bif (aW==0) then ((dL 5 aY aZ).bind λ(ba,bc,bd,_)=>
(d7 x5).bind λbe=>
(dK aV be).bind λbf=>
(dK aV be).bind λbg=>
let bh:=List.modify aV be λe=>(ba,e.2);
some (x6,x7,bc,bd,ag,ah,ai,aj,ak,am,an,ap,aq,av,ax,ay,az,aA,aB,aD,aE,aF,aG,aH,aI,aJ,aK,aL,aM,aO,aP,aQ,aR,aS,aT,aU,bh,())) else
some (x6,x7,aY,aZ,ag,ah,ai,aj,ak,am,an,ap,aq,av,ax,ay,az,aA,aB,aD,aE,aF,aG,aH,aI,aJ,aK,aL,aM,aO,aP,aQ,aR,aS,aT,aU,aV,()):Option (T3r)).bind λ(x0,x1,x2,x3,x4,x5,x6,x7,x8,x9,ac,ae,af,ag,ah,ai,aj,ak,am,an,ap,aq,av,ax,ay,az,aA,aB,aD,aE,aF,aG,aH,aI,aJ,aK,aL,_)=>
let aM:=w64 (x1+1);
some (.inl (x0,aM,x2,x3,x4,x5,x6,x7,x8,x9,ac,ae,af,ag,ah,ai,aj,ak,am,an,ap,aq,av,ax,ay,az,aA,aB,aD,aE,aF,aG,aH,aI,aJ,aK,aL,()))) else
some (.inr (v0,v1,false,v2,v3,v4,v5,v6,v7,v8,v9,v10,v11,v12,v13,v14,v15,v16,v17,v18,v19,v20,v21,v22,v23,v24,v25,v26,v27,v28,v29,v30,v31,v32,v33,v34,v35,v36,()))
def kG(a0:List (Int)) (a1:Int):Option (LDIn×LI×LLI×LI×Int×LDCe×LDLn×LDTh×T06):=
(qg a0 a1).bind λ(x0,x1,x2,x3,x4,x5,x6,x7,x8,x9,ac,ae,af,ag,ah,ai,aj,ak,am,an,_)=>
(match ((dL 3 am an).bind λ(ap,aq,av,_)=>
bif (ap==0) then ((lw x0 x1 x2 x3 x4 x5 x6 x7).bind λ(ax,ay,_)=>
(dK ax 0).bind λaz=>
(dK ax 0).bind λaA=>
(dK ax 0).bind λaB=>
let aD:=dM aB.length;
(dU ki NN (aD,0,aq,av,(),(),(),(),0,(),(),(),x0,x1,x2,x3,x4,x5,x6,x7,x8,x9,ac,ae,af,ag,ah,ai,aj,ak,x3,x4,x5,x6,x7,ax,ay,())).bind λ(aE,aF,aG,aH,aI,aJ,aK,aL,aM,aO,aP,aQ,aR,aS,aT,aU,aV,aW,aY,aZ,ba,bc,bd,be,bf,bg,bh,bi,bj,bk,bm,bn,bo,bp,bq,bt,bv,bx,_)=>
let bA:=dM bx.length;
(dU kg NN (bA,0,aH,aI,aJ,aK,aL,aM,aO,aP,aQ,aR,aS,aT,aU,aV,aW,aY,aZ,ba,bc,bd,be,bf,bg,bh,bi,bj,bk,bm,bn,bo,bp,bq,bt,bv,bx,())).bind λ(bB,bC,bD,bE,bF,bG,bH,bI,bJ,bK,bL,bM,bN,bO,bP,bQ,bR,bS,bT,bU,bV,bW,bY,bZ,b8,b9,ca,cb,cd,cf,cg,ch,ci,cj,cn,cq,cr,cu,_)=>
(kx bO bP bQ ch ci cr cu).bind λ(cw,cx,cy,cz,cD,cE,_)=>
bif cE then (some (.inl (bE,bF,bG,bH,bI,bJ,bK,bL,bM,bN,bO,bP,bQ,bR,bS,bT,bU,bV,bW,bY,bZ,b8,b9,ca,cb,cd,cf,cg,cw,cx,cy,cz,cD,()))) else
some (.inr (bE,bF,bG,bH,bI,bJ,bK,bL,bM,bN,bO,bP,bQ,bR,bS,bT,bU,bV,bW,bY,bZ,b8,b9,ca,cb,cd,cf,cg,ch,ci,cj,cn,cq,()))) else
some (.inr (aq,av,(),(),(),(),0,(),(),(),x0,x1,x2,x3,x4,x5,x6,x7,x8,x9,ac,ae,af,ag,ah,ai,aj,ak,x3,x4,x5,x6,x7,())):Option (T3k⊕T3k)) with
| none=>none
| some (.inl (ap,aq,av,ax,ay,az,aA,aB,aD,aE,aF,aG,aH,aI,aJ,aK,aL,aM,aO,aP,aQ,aR,aS,aT,aU,aV,aW,aY,aZ,ba,bc,bd,be,_))=>
some (aF,aG,aH,aZ,ba,bc,bd,be,ap,aq,())
| some (.inr (ap,aq,av,ax,ay,az,aA,aB,aD,aE,aF,aG,aH,aI,aJ,aK,aL,aM,aO,aP,aQ,aR,aS,aT,aU,aV,aW,aY,aZ,ba,bc,bd,be,_))=>
some (aF,aG,aH,aZ,ba,bc,bd,be,ap,aq,()))
def yA:X.Cfg:=⟨E0,[zq,fw,sI,uU,qX],[],[⟨11,0,qE,[(.normal,(qS [(pP 0 2),(pP 2 6),(pP 3 8),(pP 4 10),(pP 5 12),(pP 6 14),(sP 27 I64),(sP 28 I64)] [(2,(uL [RI,I64])),(6,(uL [N1,N1,N1])),(8,(uL [N1,CW,N1,N1,N1])),(10,(uL [eW,RI,(.row false RW),RI,CW,eS,fe,fA,RW,RW,(.row false RW),(.row false ef),gt,iH,RI,(.row false RI),FY,RI])),(12,(uL [RI,CW,eS,fe,fA])),(14,(uL [(.row true (.row true KCn)),(.row true F1)]))]))]⟩,(lx 8 1 [(pP 0 2),(pP 2 6),(pP 3 8),(pP 4 10),(pP 5 12),(pP 6 14),(sP 27 I64),(sP 28 I64)] [(2,(uL [RI,I64])),(6,(uL [N1,N1,N1])),(8,(uL [N1,CW,N1,N1,N1])),(10,(uL [eW,RI,(.row false RW),RI,CW,eS,fe,fA,RW,RW,(.row false RW),(.row false ef),gt,iH,RI,(.row false RI),FY,RI])),(12,(uL [RI,CW,eS,fe,fA])),(14,(uL [(.row true (.row true KCn)),(.row true F1)]))] 29),⟨26,2,qE,[(.normal,(qS [(pP 0 2),(pP 2 6),(pP 3 8),(pP 4 10),(pP 5 12),(pP 6 14),(sP 8 I64),(sP 48 I64),(sP 49 I64),(sP 58 I64),(sP 59 I64)] [(2,(uL [RI,I64])),(6,(uL [N1,N1,N1])),(8,(uL [N1,CW,N1,N1,N1])),(10,(uL [eW,RI,(.row false RW),RI,CW,eS,fe,fA,RW,RW,(.row false RW),(.row false ef),gt,iH,RI,(.row false RI),FY,RI])),(12,(uL [RI,CW,eS,fe,fA])),(14,(uL [(.row true (.row true KCn)),(.row true F1)]))]))]⟩,⟨23,3,(qS [(pP 0 2),(pP 2 6),(pP 3 8),(pP 4 10),(pP 5 12),(pP 6 14),(sP 8 I64),(sP 48 I64),(sP 49 I64),(sP 58 I64),(sP 59 I64)] [(2,(uL [RI,I64])),(6,(uL [N1,N1,N1])),(8,(uL [N1,CW,N1,N1,N1])),(10,(uL [eW,RI,(.row false RW),RI,CW,eS,fe,fA,RW,RW,(.row false RW),(.row false ef),gt,iH,RI,(.row false RI),FY,RI])),(12,(uL [RI,CW,eS,fe,fA])),(14,(uL [(.row true (.row true KCn)),(.row true F1)]))]),[(.exit 4,(qS [(pP 0 2),(pP 2 6),(pP 3 8),(pP 4 10),(pP 5 12),(pP 6 14),(sP 8 I64),(sP 48 I64),(sP 49 I64),(sP 58 I64),(sP 59 I64),(sP 60 .bool)] [(2,(uL [RI,I64])),(6,(uL [N1,N1,N1])),(8,(uL [N1,CW,N1,N1,N1])),(10,(uL [eW,RI,(.row false RW),RI,CW,eS,fe,fA,RW,RW,(.row false RW),(.row false ef),gt,iH,RI,(.row false RI),FY,RI])),(12,(uL [RI,CW,eS,fe,fA])),(14,(uL [(.row true (.row true KCn)),(.row true F1)]))]))]⟩,⟨19,4,qE,[(.normal,(qS [(pP 0 2),(pP 2 6),(pP 3 8),(pP 4 10),(pP 5 12),(pP 6 14),(sP 48 I64),(sP 49 I64)] [(2,(uL [RI,I64])),(6,(uL [N1,N1,N1])),(8,(uL [N1,CW,N1,N1,N1])),(10,(uL [eW,RI,(.row false RW),RI,CW,eS,fe,fA,RW,RW,(.row false RW),(.row false ef),gt,iH,RI,(.row false RI),FY,RI])),(12,(uL [RI,CW,eS,fe,fA])),(14,(uL [(.row true (.row true KCn)),(.row true F1)]))]))]⟩,⟨16,5,(qS [(pP 0 2),(pP 2 6),(pP 3 8),(pP 4 10),(pP 5 12),(pP 6 14),(sP 48 I64),(sP 49 I64)] [(2,(uL [RI,I64])),(6,(uL [N1,N1,N1])),(8,(uL [N1,CW,N1,N1,N1])),(10,(uL [eW,RI,(.row false RW),RI,CW,eS,fe,fA,RW,RW,(.row false RW),(.row false ef),gt,iH,RI,(.row false RI),FY,RI])),(12,(uL [RI,CW,eS,fe,fA])),(14,(uL [(.row true (.row true KCn)),(.row true F1)]))]),[(.exit 2,(qS [(pP 0 2),(pP 2 6),(pP 3 8),(pP 4 10),(pP 5 12),(pP 6 14),(sP 48 I64),(sP 49 I64),(sP 50 .bool)] [(2,(uL [RI,I64])),(6,(uL [N1,N1,N1])),(8,(uL [N1,CW,N1,N1,N1])),(10,(uL [eW,RI,(.row false RW),RI,CW,eS,fe,fA,RW,RW,(.row false RW),(.row false ef),gt,iH,RI,(.row false RI),FY,RI])),(12,(uL [RI,CW,eS,fe,fA])),(14,(uL [(.row true (.row true KCn)),(.row true F1)]))]))]⟩,⟨3,6,qE,[(.normal,(qS [(pP 0 2),(pP 2 6),(pP 3 8),(pP 4 10),(pP 5 12)] [(2,(uL [RI,I64])),(6,(uL [N1,N1,N1])),(8,(uL [N1,CW,N1,N1,N1])),(10,(uL [eW,RI,(.row false RW),RI,CW,eS,fe,fA,RW,RW,(.row false RW),(.row false ef),gt,iH,RI,(.row false RI),FY,RI])),(12,(uL [RI,CW,(.row true KCe),iG,nn]))])),(.normal,(qS [(pP 0 2),(pP 2 6),(pP 3 8),(pP 4 10),(pP 5 12)] [(2,(uL [RI,I64])),(6,(uL [N1,N1,N1])),(8,(uL [N1,CW,N1,N1,N1])),(10,(uL [eW,RI,(.row false RW),RI,CW,eS,fe,fA,RW,RW,(.row false RW),(.row false ef),gt,iH,RI,(.row false RI),FY,RI])),(12,(uL [RI,CW,eS,fe,fA]))]))]⟩]⟩
def ri:Ctr:=⟨15,117,[.ptr ⟨2,0,[]⟩ [0]],[(2,(uL [RI,I64]))],[⟨(uL [eW,RI,(.row false RW),RI,CW,eS,fe,fA]),[.agg 3,.agg 5],[(2,(uL [RI,I64]))]⟩],ap2 kG⟩
theorem yc:Lk 10 ri:=ls (C:=yA) rfl (aC GT (aC fL (aC z0 (aC Ct (aC xQ aN))))) (by kernel_rfl) λh=>by kernel_rfl
def gW(a0:List (Int)):Option (LI×Unit):=
bif (dX 8 0 a0.length) then let x0:List (Int):=(List.append [] a0);
some (x0,()) else none
def sq:X.Cfg:=⟨E0,[],[],[]⟩
def nc:Ctr:=⟨152,118,(uL [RI]),[],[⟨(uL [(.row true I64)]),[.one],[]⟩],ap1 gW⟩
theorem r8:Lk 1 nc:=ls (C:=sq) rfl aN (by kernel_rfl) λh=>by kernel_rfl
def jQ(a0:List (Int)) (a1:Int):Option (T06):=
(gW a0).bind λ(x0,_)=>
some (x0,a1,())
def A6:X.Cfg:=⟨E0,[nc],[],[]⟩
def oE:Ctr:=⟨87,119,[.agg (uL [RI,CW])],[],[⟨(uL [(.row true I64),CW]),[.agg 2],[]⟩],ap2 jQ⟩
theorem si:Lk 2 oE:=ls (C:=A6) rfl (aC r8 aN) (by kernel_rfl) λh=>by kernel_rfl
def fk(a0:LDCe):Option (LDCe×Unit):=
bif (dX 4 0 a0.length) then let x0:LDCe:=(List.append [] a0);
some (x0,()) else none
def rB:X.Cfg:=⟨E0,[],[],[]⟩
def i9:Ctr:=⟨79,120,(uL [eS]),[],[⟨(uL [(.row true KCe)]),[.one],[]⟩],ap1 fk⟩
theorem mt:Lk 1 i9:=ls (C:=rB) rfl aN (by kernel_rfl) λh=>by kernel_rfl
def gz(a0:LDLn):Option (LDLn×Unit):=
bif (dX 40 0 a0.length) then let x0:LDLn:=(List.append [] a0);
some (x0,()) else none
def rA:X.Cfg:=⟨E0,[],[(5,Ni),(7,Ni)],[]⟩
def mB:Ctr:=⟨80,121,(uL [fe]),[],[⟨(uL [(.row true Nj)]),[.one],[]⟩],ap1 gz⟩
theorem ry:Lk 1 mB:=ls (C:=rA) rfl aN (by kernel_rfl) λh=>by kernel_rfl
def i7:Int×T0N->Option ((Int×T0N)⊕(Int×Int×Bool×T0E)):=λ(v0,v1,v2,v3,v4,v5,_)=>
bif decide (v1 < v0) then ((d7 v1).bind λx0=>
(dK v5 x0).bind λx1=>
(dK v5 x0).bind λx2=>
(fk x2.2.2).bind λ(x3,_)=>
(d7 v1).bind λx4=>
(dK v5 x4).bind λx5=>
(dK v5 x4).bind λx6=>
let x7:=(List.modify v5 x4 λe=>(e.1,(e.2.1,x3)));
let x8:=w64 (v1+1);
some (.inl (v0,x8,v2,v3,v4,x7,()))) else
some (.inr (v0,v1,false,v2,v3,v4,v5,()))
def lJ(a0:LDCe) (a1:LDLn):Option (T04):=
(fk a0).bind λ(x0,_)=>
(gz a1).bind λ(x1,_)=>
let x2:=dM x1.length;
(dU i7 NN (x2,0,(),(),x0,x1,())).bind λ(x3,x4,x5,x6,x7,x8)=>
some (x8)
def A5:X.Cfg:=⟨E0,[i9,mB],[],[(lx 4 0 [(pP 2 6),(pP 3 8),(14,.pk ⟨8,1,[]⟩ [0,0]),(sP 15 I64),(sP 16 I64)] [(6,(uL [N1,N1])),(8,(uL [(.row true KCe),(.row true Nj)]))] 17)]⟩
def sW:Ctr:=⟨27,122,[.agg (uL [eS,fe])],[],[⟨(uL [(.row true KCe),(.row true Nj)]),[.agg 2],[]⟩],ap2 lJ⟩
theorem Am:Lk 2 sW:=ls (C:=A5) rfl (aC mt (aC ry aN)) (by kernel_rfl) λh=>by kernel_rfl
def gj:T2U->Option (T2U⊕T2Y):=λ(v0,v1,v2,v3,v4,v5,v6,v7,v8,v9,v10,v11,v12,v13,v14,v15,v16,v17,_)=>
bif decide (v2 < v1) then ((d7 v2).bind λx0=>
(dK v0 x0).bind λx1=>
(fk x1.2.1).bind λ(x2,_)=>
let x3:LDTh:=[(x1.1,(x2,(x1.2.2.1,(x1.2.2.2.1,(x1.2.2.2.2.1,(x1.2.2.2.2.2.1,(x1.2.2.2.2.2.2.1,x1.2.2.2.2.2.2.2)))))))];
bif (dX 80 v17.length x3.length) then let x4:LDTh:=(List.append v17 x3);
let x5:=w64 (v2+1);
some (.inl (v0,v1,x5,v3,v4,v5,v6,v7,v8,v9,v10,v11,v12,v13,v14,v15,v16,x4,())) else none) else
some (.inr (v0,v1,v2,false,v3,v4,v5,v6,v7,v8,v9,v10,v11,v12,v13,v14,v15,v16,v17,()))
def kD(a0:List (Int)) (a1:Int) (a2:LDCe) (a3:LDLn) (a4:LDTh):Option (T0S):=
(jQ a0 a1).bind λ(x0,x1,_)=>
(lJ a2 a3).bind λ(x2,x3,_)=>
let x4:=dM a4.length;
(dU gj NN (a4,x4,0,a0,a1,a2,a3,a4,(),0,(),(),(),x0,x1,x2,x3,[],())).bind λ(x5,x6,x7,x8,x9,ac,ae,af,ag,ah,ai,aj,ak,am,an)=>
some (an)
def yq:X.Cfg:=⟨E0,[oE,sW,i9],[(27,JO),(28,JO)],[(lx 4 0 [(pP 2 6),(pP 3 8),(sP 14 fA),(sP 15 I64),(sP 16 I64)] [(4,(uL [RI,CW,eS,fe,fA])),(6,(uL [N1,CW,N1,N1,N1])),(8,(uL [(.row true I64),CW,(.row true KCe),(.row true Nj),nn]))] 17)]⟩
def q8:Ctr:=⟨32,123,[.agg (uL [RI,CW,eS,fe,fA])],[],[⟨(uL [(.row true I64),CW,(.row true KCe),(.row true Nj),nn]),[.agg 5],[]⟩],ap5 kD⟩
theorem xU:Lk 3 q8:=ls (C:=yq) rfl (aC si (aC Am (aC mt aN))) (by kernel_rfl) λh=>by kernel_rfl
def jM:Int×Int×T0B->Option ((Int×Int×T0B)⊕((Bool×Unit)⊕(Int×Int×Bool×T0B))):=λ(v0,v1,v2,v3,v4,v5,_)=>
bif decide (v1 < v0) then ((d7 v1).bind λx0=>
(dK v2 x0).bind λx1=>
(d7 v1).bind λx2=>
(dK v4 x2).bind λx3=>
bif (x1 != x3) then (some (.inr (.inl (false,())))) else
let x4:=w64 (v1+1);
some (.inl (v0,x4,v2,v3,v4,v5,()))) else
some (.inr (.inr (v0,v1,false,v2,v3,v4,v5,())))
def mW(a0:List (Int)) (a1:Int) (a2:List (Int)) (a3:Int):Option (Bool×Unit):=
bif (a1 != a3) then (some (false,())) else
let x0:=dM a0.length;
let x1:=dM a2.length;
bif (x0 != x1) then (some (false,())) else
let x2:=dM a0.length;
(match dU jM NN (x2,0,a0,a1,a2,a3,()) with
| none=>none
| some (.inl (x3,_))=>
some (x3,())
| some (.inr (x3,_))=>
some (true,()))
def C8:X.Cfg:=⟨E0,[],[],[⟨6,0,(qS [(pP 2 6),(pP 3 8),(sP 22 I64),(sP 23 I64)] [(6,(uL [RI,CW])),(8,(uL [RI,CW]))]),[(.ret,(qS [(sP 4 .bool)] [])),(.exit 0,(qS [(pP 2 6),(pP 3 8),(sP 22 I64),(sP 23 I64),(sP 24 .bool)] [(6,(uL [RI,CW])),(8,(uL [RI,CW]))]))]⟩]⟩
def uP:Ctr:=⟨57,124,[.agg (uL [RI,CW]),.agg (uL [RI,CW])],[],[⟨(uL [.bool]),[.one],[]⟩],ap4 mW⟩
theorem Cn:Lk 1 uP:=ls (C:=C8) rfl aN (by kernel_rfl) λh=>by kernel_rfl
def jP:LDCe×T0i->Option ((LDCe×T0i)⊕((Bool×Unit)⊕(LDCe×LDCe×T0c))):=λ(v0,v1,v2,v3,_)=>
bif decide (v3 < v2) then ((d7 v3).bind λx0=>
(dK v0 x0).bind λx1=>
(d7 v3).bind λx2=>
(dK v1 x2).bind λx3=>
bif (!((x1.1==x3.1) && ((x1.2==x3.2) && true))) then (some (.inr (.inl (false,())))) else
let x4:=w64 (v3+1);
some (.inl (v0,v1,v2,x4,()))) else
some (.inr (.inr (v0,v1,v2,v3,false,())))
def jh(a0:LDCe) (a1:LDCe):Option (Bool×Unit):=
let x0:=dM a0.length;
let x1:=dM a1.length;
bif (x0 != x1) then (some (false,())) else
let x2:=dM a0.length;
(match dU jP NN (a0,a1,x2,0,()) with
| none=>none
| some (.inl (x3,_))=>
some (x3,())
| some (.inr (x3,_))=>
some (true,()))
def Da:X.Cfg:=⟨E0,[],[],[⟨6,0,(qS [(sP 0 eS),(sP 1 eS),(sP 12 I64),(sP 13 I64)] []),[(.ret,(qS [(sP 4 .bool)] [])),(.exit 0,(qS [(sP 0 eS),(sP 1 eS),(sP 12 I64),(sP 13 I64),(sP 14 .bool)] []))]⟩]⟩
def pX:Ctr:=⟨78,125,(uL [eS,eS]),[],[⟨(uL [.bool]),[.one],[]⟩],ap2 jh⟩
theorem uo:Lk 1 pX:=ls (C:=Da) rfl aN (by kernel_rfl) λh=>by kernel_rfl
def jL:Int×Int×T0w->Option ((Int×Int×T0w)⊕((Bool×Unit)⊕T1j)):=λ(v0,v1,v2,v3,v4,v5,_)=>
bif decide (v1 < v0) then ((d7 v1).bind λx0=>
(dK v3 x0).bind λx1=>
(d7 v1).bind λx2=>
(dK v5 x2).bind λx3=>
(bif (x1.1 != x3.1) then (some (v0,v1,true,v2,v3,v4,v5,())) else
bif (!(x1.2.1==x3.2.1)) then (some (v0,v1,true,v2,v3,v4,v5,())) else
(jh x1.2.2 x3.2.2).bind λ(x4,_)=>
some (v0,v1,(!x4),v2,v3,v4,v5,()):Option (T1j)).bind λ(x4,x5,x6,x7)=>
bif x6 then (some (.inr (.inl (false,())))) else
let ae:=w64 (x5+1);
some (.inl (x4,ae,x7))) else
some (.inr (.inr (v0,v1,false,v2,v3,v4,v5,())))
def mT(a0:LDCe) (a1:LDLn) (a2:LDCe) (a3:LDLn):Option (Bool×Unit):=
(jh a0 a2).bind λ(x0,_)=>
bif (!x0) then (some (false,())) else
let x1:=dM a1.length;
let x2:=dM a3.length;
bif (x1 != x2) then (some (false,())) else
let x3:=dM a1.length;
(match dU jL NN (x3,0,a0,a1,a2,a3,()) with
| none=>none
| some (.inl (x4,_))=>
some (x4,())
| some (.inr (x4,_))=>
some (true,()))
def C5:X.Cfg:=⟨E0,[pX],[],[⟨12,0,qE,[(.normal,(qS [(pP 2 6),(pP 3 8),(sP 25 I64),(sP 26 I64),(sP 58 .bool)] [(6,(uL [eS,fe])),(8,(uL [eS,fe]))]))]⟩,⟨6,1,(qS [(pP 2 6),(pP 3 8),(sP 25 I64),(sP 26 I64)] [(6,(uL [eS,fe])),(8,(uL [eS,fe]))]),[(.ret,(qS [(sP 4 .bool)] [])),(.exit 0,(qS [(pP 2 6),(pP 3 8),(sP 25 I64),(sP 26 I64),(sP 27 .bool)] [(6,(uL [eS,fe])),(8,(uL [eS,fe]))]))]⟩]⟩
def uM:Ctr:=⟨26,126,[.agg (uL [eS,fe]),.agg (uL [eS,fe])],[],[⟨(uL [.bool]),[.one],[]⟩],ap4 mT⟩
theorem Ck:Lk 2 uM:=ls (C:=C5) rfl (aC uo aN) (by kernel_rfl) λh=>by kernel_rfl
def mS(a0:Int) (a1:LDCe) (a2:Int) (a3:Int) (a4:Int) (a5:Int) (a6:Int) (a7:Int) (a8:Int) (a9:LDCe) (a10:Int) (a11:Int) (a12:Int) (a13:Int) (a14:Int) (a15:Int):Option (Bool×Unit):=
bif (a0==a8) then (bif (a2==a10) then (bif (a3==a11) then (bif (a4==a12) then (bif (a5==a13) then (bif (a6==a14) then (bif (a7==a15) then ((jh a1 a9).bind λ(x0,_)=>
some (x0,())) else
some (false,())) else
some (false,())) else
some (false,())) else
some (false,())) else
some (false,())) else
some (false,())) else
some (false,())
def CS:X.Cfg:=⟨E0,[pX],[],[]⟩
def uJ:Ctr:=⟨88,127,[.agg (uL [I64,eS,I64,I64,I64,I64,I64,CW]),.agg (uL [I64,eS,I64,I64,I64,I64,I64,CW])],[],[⟨(uL [.bool]),[.one],[]⟩],ap16 mS⟩
theorem Ci:Lk 2 uJ:=ls (C:=CS) rfl (aC uo aN) (by kernel_rfl) λh=>by kernel_rfl
def jG:T2x->Option (T2x⊕((Bool×Unit)⊕(Int×Int×T2h))):=λ(v0,v1,v2,v3,v4,v5,v6,v7,v8,v9,v10,v11,_)=>
bif decide (v1 < v0) then ((d7 v1).bind λx0=>
(dK v6 x0).bind λx1=>
(d7 v1).bind λx2=>
(dK v11 x2).bind λx3=>
(mS x1.1 x1.2.1 x1.2.2.1 x1.2.2.2.1 x1.2.2.2.2.1 x1.2.2.2.2.2.1 x1.2.2.2.2.2.2.1 x1.2.2.2.2.2.2.2 x3.1 x3.2.1 x3.2.2.1 x3.2.2.2.1 x3.2.2.2.2.1 x3.2.2.2.2.2.1 x3.2.2.2.2.2.2.1 x3.2.2.2.2.2.2.2).bind λ(x4,_)=>
bif (!x4) then (some (.inr (.inl (false,())))) else
let x5:=w64 (v1+1);
some (.inl (v0,x5,v2,v3,v4,v5,v6,v7,v8,v9,v10,v11,()))) else
some (.inr (.inr (v0,v1,false,v2,v3,v4,v5,v6,v7,v8,v9,v10,v11,())))
def kV(a0:List (Int)) (a1:Int) (a2:LDCe) (a3:LDLn) (a4:LDTh) (a5:List (Int)) (a6:Int) (a7:LDCe) (a8:LDLn) (a9:LDTh):Option (Bool×Unit):=
((mW a0 a1 a5 a6).bind λ(x0,_)=>
bif (!x0) then (some (true,a0,a1,a2,a3,a4,a5,a6,a7,a8,a9,())) else
(mT a2 a3 a7 a8).bind λ(x1,_)=>
bif (!x1) then (some (true,a0,a1,a2,a3,a4,a5,a6,a7,a8,a9,())) else
let x2:=dM a4.length;
let x3:=dM a9.length;
some ((x2 != x3),a0,a1,a2,a3,a4,a5,a6,a7,a8,a9,()):Option (T2h)).bind λ(x0,x1,x2,x3,x4,x5,x6)=>
bif x0 then (some (false,())) else
let ae:=dM x5.length;
(match dU jG NN (ae,0,x1,x2,x3,x4,x5,x6) with
| none=>none
| some (.inl (af,_))=>
some (af,())
| some (.inr (af,_))=>
some (true,()))
def CR:X.Cfg:=⟨E0,[uP,uM,uJ],[],[⟨2,0,qE,[(.normal,(qS [(pP 2 6),(pP 3 8),(sP 28 .bool)] [(6,(uL [RI,CW,eS,fe,fA])),(8,(uL [RI,CW,eS,fe,fA]))]))]⟩,⟨6,1,(qS [(pP 2 6),(pP 3 8),(sP 31 I64),(sP 32 I64)] [(6,(uL [RI,CW,eS,fe,fA])),(8,(uL [RI,CW,eS,fe,fA]))]),[(.ret,(qS [(sP 4 .bool)] [])),(.exit 0,(qS [(pP 2 6),(pP 3 8),(sP 31 I64),(sP 32 I64),(sP 33 .bool)] [(6,(uL [RI,CW,eS,fe,fA])),(8,(uL [RI,CW,eS,fe,fA]))]))]⟩]⟩
def uI:Ctr:=⟨33,128,[.agg (uL [RI,CW,eS,fe,fA]),.agg (uL [RI,CW,eS,fe,fA])],[],[⟨(uL [.bool]),[.one],[]⟩],ap10 kV⟩
theorem Ch:Lk 3 uI:=ls (C:=CR) rfl (aC Cn (aC Ck (aC Ci aN))) (by kernel_rfl) λh=>by kernel_rfl
def gG:T0C->Option (T0C⊕((Bool×Unit)⊕T0T)):=λ(v0,v1,v2,v3,_)=>
bif decide (v3 < v2) then ((d7 v3).bind λx0=>
(dK v0 x0).bind λx1=>
(d7 v3).bind λx2=>
(dK v1 x2).bind λx3=>
bif (x1 != x3) then (some (.inr (.inl (false,())))) else
let x4:=w64 (v3+1);
some (.inl (v0,v1,v2,x4,()))) else
some (.inr (.inr (v0,v1,v2,v3,false,())))
def i6(a0:List (Int)) (a1:List (Int)):Option (Bool×Unit):=
let x0:=dM a0.length;
let x1:=dM a1.length;
bif (x0 != x1) then (some (false,())) else
let x2:=dM a0.length;
(match dU gG NN (a0,a1,x2,0,()) with
| none=>none
| some (.inl (x3,_))=>
some (x3,())
| some (.inr (x3,_))=>
some (true,()))
def ve:X.Cfg:=⟨E0,[],[],[⟨6,0,(qS [(sP 0 RI),(sP 1 RI),(sP 12 I64),(sP 13 I64)] []),[(.ret,(qS [(sP 4 .bool)] [])),(.exit 0,(qS [(sP 0 RI),(sP 1 RI),(sP 12 I64),(sP 13 I64),(sP 14 .bool)] []))]⟩]⟩
def oU:Ctr:=⟨34,129,(uL [RI,RI]),[],[⟨(uL [.bool]),[.one],[]⟩],ap2 i6⟩
theorem u7:Lk 1 oU:=ls (C:=ve) rfl aN (by kernel_rfl) λh=>by kernel_rfl
def tp:T0C->Option (T0C⊕((Bool×Unit)⊕T0T)):=λ(v0,v1,v2,v3,_)=>
bif decide (v3 < v2) then ((d7 v3).bind λx0=>
(dK v1 x0).bind λx1=>
bif decide (x1 < 1) then (some (.inr (.inl (false,())))) else
bif decide (x1 > 32) then (some (.inr (.inl (false,())))) else
let x2:=w64 (v3+1);
some (.inl (v0,v1,v2,x2,()))) else
some (.inr (.inr (v0,v1,v2,v3,false,())))
def nh(a0:List (Int)):Option (Bool×Unit):=
let x0:=dM a0.length;
(match dU tp NN (a0,a0,x0,0,()) with
| none=>none
| some (.inl (x1,_))=>
some (x1,())
| some (.inr (x1,_))=>
let x6:=dM x1.length;
bif decide (x6>=1) then (let x7:Int:=(dM x1.length);
some ((decide (x7<=4)),())) else
some (false,()))
def ye:X.Cfg:=⟨E0,[],[],[⟨3,0,(qS [(sP 0 RI),(sP 5 RI),(sP 6 I64),(sP 7 I64)] []),[(.ret,(qS [(sP 2 .bool)] [])),(.exit 0,(qS [(sP 0 RI),(sP 5 RI),(sP 6 I64),(sP 7 I64),(sP 8 .bool)] []))]⟩]⟩
def nk:Ctr:=⟨151,130,(uL [RI]),[],[⟨(uL [.bool]),[.one],[]⟩],ap1 nh⟩
theorem qO:Lk 1 nk:=ls (C:=ye) rfl aN (by kernel_rfl) λh=>by kernel_rfl
def qI(a0:Int):Option (T0o):=
(bif (a0==1) then (some (a0,true,false,false,false,false,())) else
bif (a0==15) then (some (a0,true,false,false,false,false,())) else
bif (a0==19) then (some (a0,true,false,false,false,false,())) else
bif (a0==20) then (some (a0,true,false,false,false,false,())) else
some (a0,(a0==21),false,false,false,false,()):Option (Int×Bool×T0o)).bind λ(x0,x1,_)=>
bif x1 then (some (true,false,false,true,())) else
bif (x0==2) then (some (true,true,false,false,())) else
bif (x0==16) then (some (true,true,false,true,())) else
bif (x0==17) then (some (true,true,false,true,())) else
bif (x0==18) then (some (false,false,false,true,())) else
bif (x0==23) then (some (false,false,false,true,())) else
bif (x0==22) then (some (true,false,false,false,())) else
bif (x0==0) then (some (false,false,false,false,())) else
bif (x0==24) then (some (false,false,false,false,())) else
some (true,true,true,false,())
def yv:X.Cfg:=⟨E0,[],[],[⟨3,0,qE,[(.normal,(qS [(pP 2 6),(sP 3 I64),(sP 4 .bool)] [(6,(uL [.bool,.bool,.bool,.bool]))]))]⟩]⟩
def rb:Ctr:=⟨212,131,(uL [I64]),[],[⟨(uL [.bool,.bool,.bool,.bool]),[.agg 4],[]⟩],ap1 qI⟩
theorem xX:Lk 1 rb:=ls (C:=yv) rfl aN (by kernel_rfl) λh=>by kernel_rfl
def ii(a0:Bool) (a1:Int) (a2:Int):Option (Bool×Unit):=
bif (a1==0) then (some (true,())) else
bif a0 then (bif decide (a1 > 0) then (some ((decide (a1<=a2)),())) else
some (false,())) else
some (false,())
def wQ:X.Cfg:=⟨E0,[],[],[]⟩
def pZ:Ctr:=⟨213,132,(uL [.bool,I64,I64]),[],[⟨(uL [.bool]),[.one],[]⟩],ap3 ii⟩
theorem wA:Lk 1 pZ:=ls (C:=wQ) rfl aN (by kernel_rfl) λh=>by kernel_rfl
def oa(a0:Int):Option (Bool×Unit):=
bif (a0==18) then (some (true,())) else
bif (a0==19) then (some (true,())) else
bif (a0==20) then (some (true,())) else
some ((a0==21),())
def A9:X.Cfg:=⟨E0,[],[],[]⟩
def oG:Ctr:=⟨174,133,(uL [I64]),[],[⟨(uL [.bool]),[.one],[]⟩],ap1 oa⟩
theorem sm:Lk 1 oG:=ls (C:=A9) rfl aN (by kernel_rfl) λh=>by kernel_rfl
def t7(a0:Int):Option (Int×Unit):=
(oa a0).bind λ(x0,_)=>
bif x0 then (some (63,())) else
bif (a0==15) then (some (3,())) else
bif (a0==23) then (some (15,())) else
some (65535,())
def Db:X.Cfg:=⟨E0,[oG],[],[]⟩
def uR:Ctr:=⟨214,134,(uL [I64]),[],[⟨(uL [I64]),[.one],[]⟩],ap1 t7⟩
theorem Cp:Lk 2 uR:=ls (C:=Db) rfl (aC sm aN) (by kernel_rfl) λh=>by kernel_rfl
def n9(a0:Int) (a1:Int) (a2:Int) (a3:Int) (a4:Int):Option (Bool×Unit):=
bif decide (a0 < 0) then (some (false,())) else
bif decide (a0 > 24) then (some (false,())) else
(qI a0).bind λ(x0,x1,x2,x3,_)=>
(ii x0 a1 7).bind λ(x4,_)=>
bif x4 then ((ii x1 a2 7).bind λ(x5,_)=>
bif x5 then ((ii x2 a3 7).bind λ(x6,_)=>
bif x6 then ((t7 a0).bind λ(x7,_)=>
(ii x3 a4 x7).bind λ(x8,_)=>
some (x8,())) else
some (false,())) else
some (false,())) else
some (false,())
def A8:X.Cfg:=⟨E0,[rb,pZ,uR],[],[]⟩
def oF:Ctr:=⟨173,135,[.agg (uL [I64,I64,I64,I64,I64])],[],[⟨(uL [.bool]),[.one],[]⟩],ap5 n9⟩
theorem sj:Lk 3 oF:=ls (C:=A8) rfl (aC xX (aC wA (aC Cp aN))) (by kernel_rfl) λh=>by kernel_rfl
def u4:T1h->Option (T1h⊕((Int×Unit)⊕T1x)):=λ(v0,v1,v2,v3,v4,v5,_)=>
bif decide (v2 < v1) then ((d7 v2).bind λx0=>
(dK v0 x0).bind λx1=>
let x2:=dM x1.length;
(d7 v2).bind λx3=>
(dK v4 x3).bind λx4=>
bif decide (x2 > x4) then (some (.inr (.inl (1,())))) else
let x5:=w64 (v2+1);
some (.inl (v0,v1,x5,v3,v4,v5,()))) else
some (.inr (.inr (v0,v1,v2,false,v3,v4,v5,())))
def u3:T1t->Option (T1t⊕((Int×Unit)⊕T1J)):=λ(v0,v1,v2,v3,v4,v5,v6,_)=>
bif decide (v3 < v2) then ((match ((d7 v3).bind λx0=>
(dK v1 x0).bind λx1=>
(n9 x1.1 x1.2.1 x1.2.2.1 x1.2.2.2.1 x1.2.2.2.2).bind λ(x2,_)=>
bif (!x2) then (some (.inl (5,()))) else
((oa x1.1).bind λ(x3,_)=>
bif x3 then (let x4:Int:=(dM v4.length);
bif decide (x1.2.2.2.2>=x4) then (some (v0,v1,v2,v3,true,v4,v5,v6,())) else
bif (x1.1==15) then (let x5:Int:=(dM v5.length);
some (v0,v1,v2,v3,(decide (x1.2.2.2.2>=x5)),v4,v5,v6,())) else
some (v0,v1,v2,v3,false,v4,v5,v6,())) else
bif (x1.1==15) then (let x4:Int:=(dM v5.length);
some (v0,v1,v2,v3,(decide (x1.2.2.2.2>=x4)),v4,v5,v6,())) else
some (v0,v1,v2,v3,false,v4,v5,v6,()):Option (T1J)).bind λ(x3,x4,x5,x6,x7,x8)=>
bif x7 then (some (.inr (6,x4,x5,x6,x8))) else
some (.inr (x3,x4,x5,x6,x8)):Option ((Int×Unit)⊕T1t)) with
| none=>none
| some (.inl (x0,_))=>
some (.inr (.inl (x0,())))
| some (.inr (x0,x1,x2,x3,x4,x5,x6,_))=>
let x7:=w64 (x3+1);
some (.inl (x0,x1,x2,x7,x4,x5,x6,())))) else
some (.inr (.inr (v0,v1,v2,v3,false,v4,v5,v6,())))
def rR(a0:LDIn) (a1:List (Int)) (a2:List LI):Option (Int×Unit):=
(nh a1).bind λ(x0,_)=>
bif (!x0) then (some (1,())) else
let x1:=dM a2.length;
let x2:=dM a1.length;
bif (x1 != x2) then (some (1,())) else
let x3:=dM a2.length;
(match dU u4 NN (a2,x3,0,a0,a1,a2,()) with
| none=>none
| some (.inl (x4,_))=>
some (x4,())
| some (.inr (x4,x5,x6,x7,x8,x9))=>
let ae:=dM x8.length;
bif (ae==0) then (some (3,())) else
let af:=dM x8.length;
bif decide (af > 64) then (some (3,())) else
let ag:=dM x8.length;
(match dU u3 NN (0,x8,ag,0,x8,x9) with
| none=>none
| some (.inl (ah,_))=>
some (ah,())
| some (.inr (ah,_))=>
some (ah,())))
def Ba:X.Cfg:=⟨E0,[nk,oF,oG],[],[⟨6,0,(qS [(pP 1 4),(sP 22 (.row false RW)),(sP 23 I64),(sP 24 I64)] [(4,(uL [eW,RI,(.row false RW)]))]),[(.ret,(qS [(sP 2 I64)] [])),(.exit 0,(qS [(pP 1 4),(sP 22 (.row false RW)),(sP 23 I64),(sP 24 I64),(sP 25 .bool)] [(4,(uL [eW,RI,(.row false RW)]))]))]⟩,⟨27,1,qE,[(.normal,(qS [(pP 1 4),(sP 5 I64),(sP 49 eW),(sP 50 I64),(sP 51 I64),(sP 81 .bool)] [(4,(uL [eW,RI,(.row false RW)]))]))]⟩,⟨22,2,qE,[(.ret,(qS [(sP 2 I64)] [])),(.normal,(qS [(pP 1 4),(sP 5 I64),(sP 49 eW),(sP 50 I64),(sP 51 I64)] [(4,(uL [eW,RI,(.row false RW)]))]))]⟩,⟨19,3,(qS [(pP 1 4),(sP 5 I64),(sP 49 eW),(sP 50 I64),(sP 51 I64)] [(4,(uL [eW,RI,(.row false RW)]))]),[(.ret,(qS [(sP 2 I64)] [])),(.exit 2,(qS [(pP 1 4),(sP 5 I64),(sP 49 eW),(sP 50 I64),(sP 51 I64),(sP 52 .bool)] [(4,(uL [eW,RI,(.row false RW)]))]))]⟩]⟩
def sY:Ctr:=⟨111,136,[.agg (uL [eW,RI,(.row false RW)])],[],[⟨(uL [I64]),[.one],[]⟩],ap3 rR⟩
theorem Ao:Lk 4 sY:=ls (C:=Ba) rfl (aC qO (aC sj (aC sm aN))) (by kernel_rfl) λh=>by kernel_rfl
def mj(a0:LDIn) (a1:List (Int)) (a2:List LI):Option (Int×Unit):=
(rR a0 a1 a2).bind λ(x0,_)=>
some (x0,())
def wP:X.Cfg:=⟨E0,[sY],[],[]⟩
def mC:Ctr:=⟨153,137,[.agg (uL [eW,RI,(.row false RW)])],[],[⟨(uL [I64]),[.one],[]⟩],ap3 mj⟩
theorem pz:Lk 5 mC:=ls (C:=wP) rfl (aC Ao aN) (by kernel_rfl) λh=>by kernel_rfl
def vL:LI×T0f->Option ((LI×T0f)⊕(LI×Int×Int×T00)):=λ(v0,v1,v2,v3,_)=>
bif decide (v2 < v1) then ((d7 v2).bind λx0=>
(dK v0 x0).bind λx1=>
let x2:Int:=(shR .shr .u16 x1 8);
let x3:=wk .u8 x2;
let x4:=wk .u8 x1;
let x5:List (Int):=[x3,x4];
bif (dX 1 v3.length x5.length) then let x6:List (Int):=(List.append v3 x5);
let x7:=w64 (v2+1);
some (.inl (v0,v1,x7,x6,())) else none) else
some (.inr (v0,v1,v2,false,v3,()))
def t6(a0:List (Int)):Option (LI×Unit):=
let x0:=dM a0.length;
(dU vL NN (a0,x0,0,[],())).bind λ(x1,x2,x3,x4,x5,_)=>
some (x5,())
def Cv:X.Cfg:=⟨E0,[],[],[(lx 4 0 [(3,.pk ⟨9,0,[]⟩ [0,0]),(sP 6 RW),(sP 7 I64),(sP 8 I64)] [(9,(uL [(.row true CB)]))] 9)]⟩
def uw:Ctr:=⟨154,138,(uL [RW]),[],[⟨(uL [(.row true CB)]),[.one],[]⟩],ap1 t6⟩
theorem B5:Lk 1 uw:=ls (C:=Cv) rfl aN (by kernel_rfl) λh=>by kernel_rfl
def qJ(a0:Int) (a1:Int) (a2:Int) (a3:Int) (a4:Int):Option (T06):=
(n9 a0 a1 a2 a3 a4).bind λ(x0,_)=>
bif (!x0) then (some ([],1,())) else
let x1:=wk .u8 a0;
let x2:=wk .u8 a1;
let x3:=wk .u8 a2;
let x4:=wk .u8 a3;
let x5:Int:=(shR .shr .i64 a4 8);
let x6:=wk .u8 x5;
let x7:=wk .u8 a4;
let x8:List (Int):=[x1,x2,x3,x4,x6,x7];
some (x8,0,())
def yw:X.Cfg:=⟨E0,[oF],[],[]⟩
def rd:Ctr:=⟨155,139,[.agg (uL [I64,I64,I64,I64,I64])],[],[⟨(uL [(.row true CB),I64]),[.one,.one],[]⟩],ap5 qJ⟩
theorem xY:Lk 4 rd:=ls (C:=yw) rfl (aC sj aN) (by kernel_rfl) λh=>by kernel_rfl
def rp:LI×T14->Option ((LI×T14)⊕(LI×T1k)):=λ(v0,v1,v2,v3,v4,v5,v6,_)=>
bif decide (v2 < v1) then ((d7 v2).bind λx0=>
(dK v0 x0).bind λx1=>
let x2:=wk .u8 x1;
(d7 v2).bind λx3=>
(dK v5 x3).bind λx4=>
let x5:=dM x4.length;
let x6:=wk .u8 x5;
let x7:List (Int):=[x2,x6];
bif (dX 1 v6.length x7.length) then let x8:List (Int):=(List.append v6 x7);
(d7 v2).bind λx9=>
(dK v5 x9).bind λac=>
(t6 ac).bind λ(ae,_)=>
bif (dX 1 x8.length ae.length) then let af:List (Int):=(List.append x8 ae);
let ag:=w64 (v2+1);
some (.inl (v0,v1,ag,v3,v4,v5,af,())) else none else none) else
some (.inr (v0,v1,v2,false,v3,v4,v5,v6,()))
def ro:T1w->Option (T1w⊕(LDIn×T1k)):=λ(v0,v1,v2,v3,v4,v5,v6,_)=>
bif decide (v2 < v1) then ((d7 v2).bind λx0=>
(dK v0 x0).bind λx1=>
(qJ x1.1 x1.2.1 x1.2.2.1 x1.2.2.2.1 x1.2.2.2.2).bind λ(x2,x3,_)=>
bif (dX 1 v6.length x2.length) then let x4:List (Int):=(List.append v6 x2);
let x5:=w64 (v2+1);
some (.inl (v0,v1,x5,v3,v4,v5,x4,())) else none) else
some (.inr (v0,v1,v2,false,v3,v4,v5,v6,()))
def oS(a0:LDIn) (a1:List (Int)) (a2:List LI):Option (T06):=
(mj a0 a1 a2).bind λ(x0,_)=>
bif (x0 != 0) then (some ([],x0,())) else
let x1:=dM a1.length;
let x2:=wk .u8 x1;
let x3:=dM a1.length;
(dU rp NN (a1,x3,0,a0,a1,a2,[x2],())).bind λ(x4,x5,x6,x7,x8,x9,ac,ae,_)=>
let af:=dM x8.length;
let ag:=wk .u8 af;
bif (dX 1 ae.length (List.length [ag])) then let ah:List (Int):=(List.append ae [ag]);
let ai:=dM x8.length;
(dU ro NN (x8,ai,0,x8,x9,ac,ah,())).bind λ(aj,ak,am,an,ap,aq,av,ax,_)=>
some (ax,0,()) else none
def vf:X.Cfg:=⟨E0,[mC,uw,rd],[],[(lx 8 0 [(pP 1 4),(5,.pk ⟨13,0,[]⟩ [0,0]),(sP 23 RI),(sP 24 I64),(sP 25 I64)] [(4,(uL [eW,RI,(.row false RW)])),(13,(uL [(.row true CB)]))] 26),⟨17,1,(qS [(5,.pk ⟨13,0,[]⟩ [0,0]),(sP 59 eW),(sP 60 I64),(sP 61 I64)] [(4,(uL [eW,RI,(.row false RW)])),(13,(uL [(.row true CB)]))]),[(.exit 2,(qS [(5,.pk ⟨13,0,[]⟩ [0,0]),(sP 59 eW),(sP 60 I64),(sP 61 I64),(sP 62 .bool)] [(4,(uL [eW,RI,(.row false RW)])),(13,(uL [(.row true CB)]))]))]⟩]⟩
def oV:Ctr:=⟨89,140,[.agg (uL [eW,RI,(.row false RW)])],[],[⟨(uL [(.row true CB),I64]),[.one,.one],[]⟩],ap3 oS⟩
theorem u9:Lk 6 oV:=ls (C:=vf) rfl (aC pz (aC B5 (aC xY aN))) (by kernel_rfl) λh=>by kernel_rfl
def tz:T2d->Option (T2d⊕((Bool×Unit)⊕T2o)):=λ(v0,v1,v2,v3,v4,v5,v6,v7,v8,v9,_)=>
bif decide (v7 < v6) then ((match ((d7 v7).bind λx0=>
(dK v8 x0).bind λx1=>
(d7 v7).bind λx2=>
(dK v0 x2).bind λx3=>
let x4:=w64 (x1+x3);
bif decide (v2<=x4) then ((d7 v7).bind λx5=>
(dK v8 x5).bind λx6=>
(d7 v1).bind λx7=>
(dK v0 x7).bind λx8=>
let x9:=w64 (v2+x8);
bif decide (x6<=x9) then (some (.inl (false,()))) else
some (.inr (v0,v1,v2,v3,v4,v5,v6,v7,false,v8,v9,()))) else
some (.inr (v0,v1,v2,v3,v4,v5,v6,v7,false,v8,v9,())):Option ((Bool×Unit)⊕T2o)) with
| none=>none
| some (.inl (x0,_))=>
some (.inr (.inl (x0,())))
| some (.inr (x0,x1,x2,x3,x4,x5,x6,x7,x8,x9,ac,_))=>
let ae:=w64 (x7+1);
some (.inl (x0,x1,x2,x3,x4,x5,x6,ae,x9,ac,())))) else
some (.inr (.inr (v0,v1,v2,v3,v4,v5,v6,v7,false,v8,v9,())))
def tw:T1d->Option (T1d⊕((Bool×Unit)⊕(LI×T1b))):=λ(v0,v1,v2,v3,v4)=>
bif decide (v3 < v2) then ((d7 v3).bind λx0=>
(dK v1 x0).bind λx1=>
(bif decide (x1 < 0) then (some (v0,v3,x1,v1,v2,v3,true,v4)) else
bif decide (x1>=512) then (some (v0,v3,x1,v1,v2,v3,true,v4)) else
(d7 v3).bind λx2=>
(dK v0 x2).bind λx3=>
let x4:=w64 (x1+x3);
some (v0,v3,x1,v1,v2,v3,(decide (x4 > 512)),v4):Option (T1Z)).bind λ(x2,x3,x4,x5,x6,x7,x8,x9)=>
bif x8 then (some (.inr (.inl (false,())))) else
(match dU tz NN (x2,x3,x4,x5,x6,x7,x3,0,x9) with
| none=>none
| some (.inl (ae,_))=>
some (.inr (.inl (ae,())))
| some (.inr (ae,af,ag,ah,ai,aj,ak,am,an,ap))=>
let av:=w64 (aj+1);
some (.inl (ae,ah,ai,av,ap)))) else
some (.inr (.inr (v0,v1,v2,v3,false,v4)))
def qH(a0:List (Int)) (a1:Int) (a2:List (Int)):Option (Bool×Unit):=
(nh a2).bind λ(x0,_)=>
bif (!x0) then (some (false,())) else
let x1:=dM a0.length;
let x2:=dM a2.length;
bif (x1 != x2) then (some (false,())) else
let x3:=dM a0.length;
(match dU tw NN (a2,a0,x3,0,a0,a1,()) with
| none=>none
| some (.inl (x4,_))=>
some (x4,())
| some (.inr (x4,_))=>
some (true,()))
def yu:X.Cfg:=⟨E0,[nk],[],[⟨12,0,qE,[(.normal,(qS [(sP 1 RI),(pP 2 6),(sP 5 I64),(sP 6 I64),(sP 20 RI),(sP 21 I64),(sP 22 I64),(sP 41 .bool)] [(6,(uL [RI,CW]))]))]⟩,⟨18,1,qE,[(.ret,(qS [(sP 4 .bool)] [])),(.normal,(qS [(sP 1 RI),(pP 2 6),(sP 5 I64),(sP 6 I64),(sP 20 RI),(sP 21 I64),(sP 22 I64),(sP 42 I64),(sP 43 I64),(sP 71 .bool)] [(6,(uL [RI,CW]))]))]⟩,⟨15,2,(qS [(sP 1 RI),(pP 2 6),(sP 5 I64),(sP 6 I64),(sP 20 RI),(sP 21 I64),(sP 22 I64),(sP 42 I64),(sP 43 I64)] [(6,(uL [RI,CW]))]),[(.ret,(qS [(sP 4 .bool)] [])),(.exit 2,(qS [(sP 1 RI),(pP 2 6),(sP 5 I64),(sP 6 I64),(sP 20 RI),(sP 21 I64),(sP 22 I64),(sP 42 I64),(sP 43 I64),(sP 44 .bool)] [(6,(uL [RI,CW]))]))]⟩,⟨6,3,(qS [(sP 1 RI),(pP 2 6),(sP 20 RI),(sP 21 I64),(sP 22 I64)] [(6,(uL [RI,CW]))]),[(.ret,(qS [(sP 4 .bool)] [])),(.exit 0,(qS [(sP 1 RI),(pP 2 6),(sP 20 RI),(sP 21 I64),(sP 22 I64),(sP 23 .bool)] [(6,(uL [RI,CW]))]))]⟩]⟩
def ra:Ctr:=⟨82,141,[.agg (uL [RI,CW]),shU RI],[],[⟨(uL [.bool]),[.one],[]⟩],ap3 qH⟩
theorem xW:Lk 2 ra:=ls (C:=yu) rfl (aC qO aN) (by kernel_rfl) λh=>by kernel_rfl
def tu:T0e->Option (T0e⊕(Int×Int×Bool×LDLn×Unit)):=λ(v0,v1,v2,_)=>
bif decide (v1 < v0) then ((d7 v1).bind λx0=>
(dK v2 x0).bind λx1=>
(dK v2 x0).bind λx2=>
let x3:=(List.modify v2 x0 λe=>((-1),e.2));
let x4:=w64 (v1+1);
some (.inl (v0,x4,x3,()))) else
some (.inr (v0,v1,false,v2,()))
def qG:Option (LDLn×Unit):=
bif (qw 4 4 3) then let x0:LDLn:=(List.replicate 4 (0,(false,[])));
let x1:=dM x0.length;
(dU tu NN (x1,0,x0,())).bind λ(x2,x3,x4,x5,_)=>
some (x5,()) else none
def yr:X.Cfg:=⟨E0,[],[(3,Ni)],[(lx 4 0 [(1,.pk ⟨5,0,[]⟩ [0,0]),(sP 5 I64),(sP 6 I64)] [(5,(uL [iG]))] 7)]⟩
def q9:Ctr:=⟨83,142,[],[],[⟨(uL [iG]),[.one],[]⟩],λh=>qG⟩
theorem xV:Lk 1 q9:=ls (C:=yr) rfl aN (by kernel_rfl) λh=>by kernel_rfl
def to:LI×Int×Int×LDCe×Unit->Option ((LI×Int×Int×LDCe×Unit)⊕(LI×Int×Int×Bool×LDCe×Unit)):=λ(v0,v1,v2,v3,_)=>
bif decide (v2 < v1) then ((d7 v2).bind λx0=>
(dK v0 x0).bind λx1=>
let x2:LDCe:=[(0,x1)];
bif (dX 4 v3.length x2.length) then let x3:LDCe:=(List.append v3 x2);
let x4:=w64 (v2+1);
some (.inl (v0,v1,x4,x3,())) else none) else
some (.inr (v0,v1,v2,false,v3,()))
def qB(a0:List (Int)):Option (LDCe×Unit):=
let x0:=dM a0.length;
(dU to NN (a0,x0,0,[],())).bind λ(x1,x2,x3,x4,x5,_)=>
some (x5,())
def yd:X.Cfg:=⟨E0,[],[],[(lx 4 0 [(3,.pk ⟨9,0,[]⟩ [0,0]),(sP 6 RW),(sP 7 I64),(sP 8 I64)] [(9,(uL [(.row true KCe)]))] 9)]⟩
def qR:Ctr:=⟨84,143,(uL [RW]),[],[⟨(uL [(.row true KCe)]),[.one],[]⟩],ap1 qB⟩
theorem xL:Lk 1 qR:=ls (C:=yd) rfl aN (by kernel_rfl) λh=>by kernel_rfl
def uZ:T2A->Option (T2A⊕(T0h⊕T2F)):=λ(v0,v1,v2,v3,v4,v5,v6,v7,v8,v9,v10,v11,_)=>
bif decide (v2 < v1) then ((match ((d7 v2).bind λx0=>
(dK v0 x0).bind λx1=>
let x2:=dM x1.length;
(d7 v2).bind λx3=>
(dK v4 x3).bind λx4=>
bif decide (x2 > x4) then (some (.inl (1,(),(),()))) else
(d7 v2).bind λx5=>
(dK v6 x5).bind λx6=>
(d7 x6).bind λx7=>
bif (jo x7 v10.length v10.length) then (qB x1).bind λ(x8,_)=>
bif (jo x7 (Nat.add x7 (Nat.min x8.length (Nat.sub v10.length x7))) v10.length) then bif (Nat.blt 0 (Nat.min x8.length (Nat.sub v10.length x7))) then (let x9:LDCe:=(oe v10 x7 (Nat.min x8.length (Nat.sub v10.length x7)) x8);
let ac:=(dM (Nat.min x8.length (Nat.sub v10.length x7)));
some (.inr (v0,v1,v2,v3,v4,v5,v6,v7,v8,v9,x9,v11,()))) else
let x9:=(dM (Nat.min x8.length (Nat.sub v10.length x7)));
some (.inr (v0,v1,v2,v3,v4,v5,v6,v7,v8,v9,v10,v11,())) else none else none:Option (T0h⊕T2A)) with
| none=>none
| some (.inl (x0,x1,x2,_))=>
some (.inr (.inl (x0,x1,x2,())))
| some (.inr (x0,x1,x2,x3,x4,x5,x6,x7,x8,x9,ac,ae,_))=>
let af:=w64 (x2+1);
some (.inl (x0,x1,af,x3,x4,x5,x6,x7,x8,x9,ac,ae,())))) else
some (.inr (.inr (v0,v1,v2,false,v3,v4,v5,v6,v7,v8,v9,v10,v11,())))
def rQ(a0:LDIn) (a1:List (Int)) (a2:List LI) (a3:List (Int)) (a4:Int):Option (LDCe×LDLn×Int×Unit):=
(qH a3 a4 a1).bind λ(x0,_)=>
bif (!x0) then (some ([],[],1,())) else
let x1:=dM a2.length;
let x2:=dM a1.length;
bif (x1 != x2) then (some ([],[],1,())) else
bif (qw 512 512 2) then let x3:LDCe:=(List.replicate 512 (0,0));
(qG).bind λ(x4,_)=>
let x5:=dM a2.length;
(match dU uZ NN (a2,x5,0,a0,a1,a2,a3,a4,(),(),x3,x4,()) with
| none=>none
| some (.inl (x6,x7,x8,_))=>
some ([],[],x6,())
| some (.inr (x6,x7,x8,x9,ac,ae,af,ag,ah,ai,aj,ak,am,_))=>
some (ak,am,0,())) else none
def A4:X.Cfg:=⟨E0,[ra,q9,qR],[],[⟨10,0,qE,[(.ret,(qS [(pP 4 10),(sP 5 I64)] [(10,(uL [N1,N1]))])),(.normal,(qS [(pP 2 6),(pP 3 8),(pP 4 10),(pP 6 14),(sP 28 (.row false RW)),(sP 29 I64),(sP 30 I64)] [(6,(uL [eW,RI,(.row false RW)])),(8,(uL [RI,CW])),(10,(uL [N1,N1])),(14,(uL [(.row true KCe),iG]))]))]⟩,⟨7,1,(qS [(pP 2 6),(pP 3 8),(pP 4 10),(pP 6 14),(sP 28 (.row false RW)),(sP 29 I64),(sP 30 I64)] [(6,(uL [eW,RI,(.row false RW)])),(8,(uL [RI,CW])),(10,(uL [N1,N1])),(14,(uL [(.row true KCe),iG]))]),[(.ret,(qS [(pP 4 10),(sP 5 I64)] [(10,(uL [N1,N1]))])),(.exit 0,(qS [(pP 2 6),(pP 3 8),(pP 4 10),(pP 6 14),(sP 28 (.row false RW)),(sP 29 I64),(sP 30 I64),(sP 31 .bool)] [(6,(uL [eW,RI,(.row false RW)])),(8,(uL [RI,CW])),(10,(uL [N1,N1])),(14,(uL [(.row true KCe),iG]))]))]⟩]⟩
def sV:Ctr:=⟨29,144,[.agg (uL [eW,RI,(.row false RW)]),.agg (uL [RI,CW])],[],[⟨(uL [(.row true KCe),iG,I64]),[.agg 2,.one],[]⟩],ap5 rQ⟩
theorem Al:Lk 3 sV:=ls (C:=A4) rfl (aC xW (aC xV (aC xL aN))) (by kernel_rfl) λh=>by kernel_rfl
def qK:Option (T1I):=
bif (qw 8 8 2) then let x0:LDCe:=(List.replicate 8 (0,0));
some (0,x0,0,0,(-1),(-1),0,0,()) else none
def yx:X.Cfg:=⟨E0,[],[],[]⟩
def re:Ctr:=⟨156,145,[],[],[⟨(uL [I64,(.row true KCe),I64,I64,I64,I64,I64,CW]),[.agg 8],[]⟩],λh=>qK⟩
theorem xZ:Lk 1 re:=ls (C:=yx) rfl aN (by kernel_rfl) λh=>by kernel_rfl
def rP:T2k->Option (T2k⊕T2s):=λ(v0,v1,v2,v3,v4,v5,v6,v7,v8,v9,v10,_)=>
bif decide (v0 < 4) then ((qK).bind λ(x0,x1,x2,x3,x4,x5,x6,x7,_)=>
let x8:LDTh:=[(x0,(x1,(x2,(x3,(x4,(x5,(x6,x7)))))))];
bif (dX 80 v10.length x8.length) then let x9:LDTh:=(List.append v10 x8);
let ac:=w64 (v0+1);
some (.inl (ac,v1,v2,v3,v4,v5,v6,v7,v8,v9,x9,())) else none) else
some (.inr (v0,false,v1,v2,v3,v4,v5,v6,v7,v8,v9,v10,()))
def pe(a0:LDIn) (a1:List (Int)) (a2:List LI) (a3:List (Int)) (a4:Int):Option (LI×Int×LDCe×LDLn×LDTh×Int×Unit):=
(mj a0 a1 a2).bind λ(x0,_)=>
bif (x0 != 0) then (some ([],0,[],[],[],x0,())) else
(rQ a0 a1 a2 a3 a4).bind λ(x1,x2,x3,_)=>
bif (x3 != 0) then (some ([],0,[],[],[],x3,())) else
(jQ a3 a4).bind λ(x4,x5,_)=>
(dU rP NN (0,(),0,(),(),(),x4,x5,x1,x2,[],())).bind λ(x6,x7,x8,x9,ac,ae,af,ag,ah,ai,aj,ak,_)=>
(dK ak 0).bind λam=>
(dK ak 0).bind λan=>
let ap:=List.modify ak 0 λe=>(1,e.2);
some (ag,ah,ai,aj,ap,0,())
def wO:X.Cfg:=⟨E0,[mC,sV,oE,re],[(35,JO),(36,JO)],[(lx 12 0 [(pP 4 10),(pP 9 20),(sP 30 I64)] [(10,(uL [N1,CW,N1,N1,N1])),(20,(uL [RI,CW,eS,fe,nn]))] 31)]⟩
def pY:Ctr:=⟨90,146,[.agg (uL [eW,RI,(.row false RW)]),.agg (uL [RI,CW])],[],[⟨(uL [RI,CW,eS,fe,nn,I64]),[.agg 5,.one],[]⟩],ap5 pe⟩
theorem wz:Lk 6 pY:=ls (C:=wO) rfl (aC pz (aC Al (aC si (aC xZ aN)))) (by kernel_rfl) λh=>by kernel_rfl
def n8:Option (Bool×Unit):=
let x0:LDIn:=[(0,(0,(0,(0,0))))];
(oS x0 [1] [[]]).bind λ(x1,x2,_)=>
(pe x0 [1] [[]] [3] 0).bind λ(x3,x4,x5,x6,x7,x8,_)=>
bif (x2==0) then (bif (x8==0) then (let x9:ByteArray:=(Hp x1);
bif (Oi x9 (bytes [1,1,0,1,0,0,0,0,0,0])) then (let ac:Int:=(dM x7.length);
bif (ac==4) then ((dK x7 0).bind λae=>
(dK x7 0).bind λaf=>
bif (af.1==1) then ((dK x7 1).bind λag=>
(dK x7 1).bind λah=>
some ((ah.1==0),())) else
some (false,())) else
some (false,())) else
some (false,())) else
some (false,())) else
some (false,())
def A7:X.Cfg:=⟨E0,[oV,pY],[(9,(.row true CW))],[]⟩
def sX:Ctr:=⟨35,147,[],[],[⟨(uL [.bool]),[.one],[]⟩],λh=>n8⟩
theorem An:Lk 7 sX:=ls (C:=A7) rfl (aC u9 (aC wz aN)) (by kernel_rfl) λh=>by kernel_rfl
def ig(a0:List (Int)) (a1:Int):Option (Bool×Unit):=
(kG a0 0).bind λ(x0,x1,x2,x3,x4,x5,x6,x7,_)=>
(gv x3 x4 x5 x6 x7).bind λ(ac,ae,af,ag,ah,_)=>
(kD x3 x4 x5 x6 x7).bind λ(ai,aj,ak,am,an,_)=>
((kV ai aj ak am an x3 x4 x5 x6 x7).bind λ(ap,_)=>
bif (!ap) then (some (a1,true,x3,x4,x5,x6,x7,ac,ae,af,ag,ah,ai,aj,ak,am,an,())) else
let aq:=dM an.length;
bif (aq==0) then (some (a1,true,x3,x4,x5,x6,x7,ac,ae,af,ag,ah,ai,aj,ak,am,an,())) else
(dK an 0).bind λav=>
(dK an 0).bind λax=>
(dK an 0).bind λay=>
let az:=dM ay.2.1.length;
bif (az==0) then (some (a1,true,x3,x4,x5,x6,x7,ac,ae,af,ag,ah,ai,aj,ak,am,an,())) else
let aA:=dM ak.length;
some (a1,(aA==0),x3,x4,x5,x6,x7,ac,ae,af,ag,ah,ai,aj,ak,am,an,()):Option (Int×Bool×LI×Int×LDCe×LDLn×LDTh×T2e)).bind λ(ap,aq,av,ax,ay,az,aA,aB,aD,aE,aF,aG,aH,aI,aJ,aK,aL,_)=>
bif aq then (some (false,())) else
(dK aL 0).bind λaM=>
(dK aL 0).bind λaO=>
(dK aL 0).bind λaP=>
(dK aP.2.1 0).bind λaQ=>
(dK aL 0).bind λaR=>
(dK aR.2.1 0).bind λaS=>
let aT:=wk .u16 (aS.2+1);
(dK aL 0).bind λaU=>
(dK aU.2.1 0).bind λaV=>
(dK aL 0).bind λaW=>
(dK aW.2.1 0).bind λaY=>
let aZ:=(List.modify aL 0 λe=>(e.1,((List.modify e.2.1 0 λe=>(e.1,aT)),e.2.2)));
let ba:=dM aJ.length;
(qf ap ba).bind λ(bc,_)=>
(d7 bc).bind λbd=>
(dK aJ bd).bind λbe=>
(dK aJ bd).bind λbf=>
let bg:=wk .u16 (bf.2+1);
(d7 bc).bind λbh=>
(dK aJ bh).bind λbi=>
(dK aJ bh).bind λbj=>
let bk:=List.modify aJ bh λe=>(e.1,bg);
(dK aH 0).bind λbm=>
(dK aH 0).bind λbn=>
let bo:=w64 (bn+1);
(dK aH 0).bind λbp=>
(dK aH 0).bind λbq=>
let bt:=List.modify aH 0 λe=>bo;
(kV av ax ay az aA aB aD aE aF aG).bind λ(bv,_)=>
bif bv then ((i6 av aB).bind λ(bx,_)=>
bif bx then ((n8).bind λ(bA,_)=>
some (bA,())) else
some (false,())) else
some (false,())
def pB:X.Cfg:=⟨E0,[ri,jl,q8,uI,Br,oU,sX],[],[⟨5,0,qE,[(.normal,(qS [(sP 1 I64),(pP 6 14),(pP 7 16),(pP 8 18),(sP 44 .bool)] [(14,(uL [RI,CW,eS,fe,fA])),(16,(uL [RI,CW,(.row true KCe),iG,nn])),(18,(uL [(.row true I64),CW,(.row true KCe),(.row true Nj),nn]))]))]⟩]⟩
def lc:Ctr:=⟨5,148,(uL [RI,I64]),[],[⟨(uL [.bool]),[.one],[]⟩],ap2 ig⟩
theorem k_law08_ProgramCopies:Lk 11 lc:=ls (C:=pB) rfl (aC yc (aC k8 (aC xU (aC Ch (aC Ft (aC u7 (aC An aN))))))) (by kernel_rfl) λh=>by kernel_rfl
end
end Go.Proofs.YtbapcamohngjbaaGreat
namespace Go.Proofs.YtbapcamohngjbaaGreat
set_option maxRecDepth 100000
noncomputable section
end
end Go.Proofs.YtbapcamohngjbaaGreat
namespace Go.Proofs.YtbapcamohngjbaaGreat
open Go.RowKit
theorem Ov:(Tryz.prog.funcs.all λfn=>!(fn.name=="runtime.NumGoroutine"))=true:=by kernel_rfl
theorem GJ:p8 Tryz.prog 14:=by
 obtain⟨fn,hf,hb⟩:∃fn,Tryz.prog.funcs[14]?=some fn/\fn.body.isSome=true:=by
  have hs:(match Tryz.prog.funcs[14]? with | some fn=>fn.body.isSome | none=>false)=true:=by kernel_rfl
  cases h:Tryz.prog.funcs[14]? with
  | none=>rw[h] at hs;cases hs
  | some fn=>rw[h] at hs;exact⟨fn,rfl,hs⟩
 obtain⟨c,hc⟩:=Option.isSome_iff_exists.1 hb;refine Dp hf ?_ hc;obtain⟨hlt,he⟩:=Array.getElem?_eq_some_iff.1 hf;have:=Array.all_eq_true.1 Ov 14 hlt;rw[he] at this;simpa using this
def Nh(x:Value) (w:World) (e:Ending) (w':World):Prop:=e=.returned (.pointer (some ⟨w.heap.size,0,none⟩))/\w'=w.alloc (.cells #[x,.int .i64 0] 105)
theorem MG(x:Value) (hx:x.oneCell'=true) (w:World) :
 Calls Tryz.prog 14 #[x] w (Nh x w):=by
 cases x
 all_goals first
  | (go_enter Tryz.func14,Tryz.ntmps14
     go_wp2
     go_ret
     exact⟨rfl,rfl⟩)
  | simp[Value.oneCell'] at hx
theorem e0_ok:JS Tryz.prog E0:=by
 intro f n tm h;simp only[E0] at h;split at h
 ·rename_i e;subst e
  injection h with h
  injection h with h1 h2
  subst h1 h2;refine⟨GJ,λx hx=>?_,105,λl2 w hl hone=>?_⟩
  ·simp only[List.mem_cons,List.not_mem_nil,or_false] at hx;rcases hx with hx | hx
   ·injection hx
   ·injection hx with hx;rw[hx];rfl
  ·match l2,hl with
   | [x],_=>exact MG x (hone x (by simp[bxV])) w
 ·simp at h
def Ok{α:Type}(o:Option α) (Q:α->Prop):Prop:=∃a,o=some a/\Q a
section
variable {α β:Type}
theorem Ok.ret{a:α}{Q:α->Prop}(h:Q a):Ok (some a) Q:=⟨a,rfl,h⟩
theorem Ok.bind{o:Option α}{f:α->Option β}{P:α->Prop}{Q:β->Prop}(h:Ok o P) (h2:∀a,P a->Ok (f a) Q):Ok (o.bind f) Q:=by
 obtain⟨a,rfl,h1⟩:=h;exact h2 a h1
theorem Ok.mono{o:Option α}{P Q:α->Prop}(h:Ok o P) (h2:∀a,P a->Q a):Ok o Q:=by
 obtain⟨a,e,h1⟩:=h;exact⟨a,e,h2 a h1⟩
theorem Ok.cond{c:Bool}{a b:Option α}{Q:α->Prop}(h1:c=true->Ok a Q) (h2:c=false->Ok b Q):Ok (bif c then a else b) Q:=by
 cases c with
 | true=>exact h1 rfl
 | false=>exact h2 rfl
class BP (b:Bool) (P N:outParam Prop):Prop where
 t:b=true->P
 f:b=false->N
instance (priority:=low) bpVar {b:Bool}:BP b (b=true) (b=false):=⟨id,id⟩
instance OV {p:Prop} {i:Decidable p}:BP (@decide p i) p (¬ p):=⟨of_decide_eq_true,of_decide_eq_false⟩
instance O7 {α:Type} [BEq α] [LawfulBEq α] {a b:α}:BP (a==b) (a=b) (¬ a=b):=⟨eq_of_beq,λh=>beq_eq_false_iff_ne.1 h⟩
instance O6 {α:Type} [BEq α] [LawfulBEq α] {a b:α}:BP (a != b) (¬ a=b) (a=b):=⟨λh=>bne_iff_ne.1 h,λh=>bne_eq_false_iff_eq.1 h⟩
instance OU {b:Bool} {P N:Prop} [h:BP b P N]:BP (!b) N P:=⟨λe=>h.f (by simpa using e),λe=>h.t (by simpa using e)⟩
theorem dG{c:Bool}{P N:Prop} [h:BP c P N] {a b:Option α}{Q:α->Prop}(h1:P->Ok a Q) (h2:N->Ok b Q):Ok (bif c then a else b) Q:=by
 cases hc:c with
 | true=>exact h1 (h.t hc)
 | false=>exact h2 (h.f hc)
theorem Ok.get{l:List α}{i:Nat}{f:α->Option β}{Q:β->Prop}(h:i < l.length) (h2:∀a,l[i]?=some a->Ok (f a) Q):Ok ((dK l i).bind f) Q:=by
 have e:dK l i=some l[i]:=oGE h;rw[e];exact h2 _ (oGE h)
theorem Ok.nat{x:Int}{f:Nat->Option β}{Q:β->Prop}(h:0<=x) (h2:∀n:Nat,x=n->Ok (f n) Q):Ok ((d7 x).bind f) Q:=by
 obtain⟨n,rfl⟩:∃n:Nat,x=n:=⟨x.toNat,by omega⟩;exact h2 n rfl
theorem Ok.val{v:α}{f:α->Option β}{Q:β->Prop}(h:∀x,x=v->Ok (f x) Q):Ok (f v) Q:=h v rfl
theorem dH{c:Bool}{a b:Option α}{Q:α->Prop}(hc:c=true) (h1:Ok a Q):Ok (bif c then a else b) Q:=by rw[hc];exact h1
theorem fH{S T:Type}{f:S->Option (S⊕T)}(P:S->Prop) (R:T->Prop) (m:S->Nat) {n:Nat}{s:S}(hs:P s) (hm:m s < n)
 (h:∀s,P s->Ok (f s) λr=>match r with | .inl s'=>P s'/\m s' < m s | .inr t=>R t):Ok (dU f n s) R:=by
 induction n generalizing s with
 | zero=>omega
 | succ n ih=>
  obtain⟨r,e,hr⟩:=h s hs
  cases r with
  | inl s'=>
   obtain⟨t,e2,hq⟩:=ih hr.1 (by have:=hr.2;omega);exact⟨t,by simp only[dU,e,oBS];exact e2,hq⟩
  | inr t=>exact⟨t,by simp[dU,e],hr⟩
theorem Ok.loop{S T:Type}{f:S->Option (S⊕T)}{g:T->Option β}{Q:β->Prop}(P:S->Prop) (R:T->Prop) (m:S->Nat) {n:Nat}{s:S}(hs:P s) (hm:m s < n)
 (h:∀s,P s->Ok (f s) λr=>match r with | .inl s'=>P s'/\m s' < m s | .inr t=>R t) (hg:∀t,R t->Ok (g t) Q):Ok ((dU f n s).bind g) Q:=(fH P R m hs hm h).bind hg
end
theorem dQ{x:Int}(h1:-9223372036854775808<=x) (h2:x<=9223372036854775807):w64 x=x:=JX h1 h2
theorem dN(n:Nat):d7 (n:Int)=some n:=rfl
theorem dW(n:Nat):dM n=(n:Int):=rfl
theorem dP{α:Type}{l:List α}{i:Nat}{a:α}(h:l[i]?=some a):a∈l:=List.mem_of_getElem? h
def W16(x:Int):Prop:=0<=x/\x<=65535
theorem dZ{x:Int}(h0:0<=x) (h1:x<=65535):wk .u16 x=x:=by
 unfold wk;rw[zx];omega
theorem dV{x:Int}(h0:-9223372036854775808<=x) (h1:x<=9223372036854775807):wk .i64 x=x:=dQ h0 h1
theorem dT{b n m:Nat}(h:b<=1000/\n+m<=1000000):dX b n m=true:=by
 have:(n+m)*b<=1000000*1000:=Nat.mul_le_mul h.2 h.1;simp only[dX,oBA,oDE];omega
structure DOk (l:List Int) (k:Int):Prop where
 num:∀x∈l,Hz x
 len:l.length<=maxLen
 lo:0<=k
 hi:k<=l.length
theorem Bz{l:List Int}(h:∀x∈l,Hz x) (hl:l.length<=maxLen):DOk l 0:=⟨h,hl,by omega,by omega⟩
theorem LE{a b:Int}(ha:Hz a) (hb:0 < b) (hb2:b<=9223372036854775807):∃v,gH a b=some (v,())/\0<=v/\v < b:=by
 have hne:(b != 0)=true:=by simp;omega
 have hm:Int.tmod a b < b:=Int.tmod_lt_of_pos a hb
 have hm2:-b < Int.tmod a b:=by
  have:=Int.tmod_lt_of_pos (-a) hb;rw[Int.neg_tmod] at this;omega
 unfold gH;simp only[hne,oCT];by_cases h:Int.tmod a b < 0
 ·refine⟨Int.tmod a b+b,?_,by omega,by omega⟩;simp only[h,decide_true,oCT,oBS];rw[dQ (by omega) (by omega)]
 ·refine⟨Int.tmod a b,?_,by omega,hm⟩;simp only[h,decide_false,oCF,oBS]
section
variable {β:Type} {l:List Int} {k n:Int} {Q:β->Prop}
theorem NG{a b:Int}{f:Int×Unit->Option β}(ha:Hz a) (hb:0 < b) (hb2:b<=9223372036854775807) (K:∀v,0<=v->v < b->Ok (f (v,())) Q):Ok ((gH a b).bind f) Q:=by
 obtain⟨v,e,h0,h1⟩:=LE ha hb hb2;rw[e];exact K v h0 h1
theorem fi{f:Int×List Int×Int×Unit->Option β}(h:DOk l k) (hn:0 < n) (hn2:n<=9223372036854775807) (K:∀v k',0<=v->v < n->DOk l k'->Ok (f (v,l,k',())) Q):Ok ((dL n l k).bind f) Q:=by
 have hl:=h.len;have hlo:=h.lo;have hhi:=h.hi
 have hmx:maxLen<=9223372036854775807:=by decide
 by_cases hk:k>=(l.length:Int)
 ·have e:dL n l k=some (0,l,k,()):=by unfold dL;simp[dW,hk]
  rw[e];exact K 0 k (by omega) hn h
 ·obtain⟨j,rfl⟩:∃j:Nat,k=j:=⟨k.toNat,by omega⟩
  have hj:j < l.length:=by omega
  obtain⟨v,hv,h0,h1⟩:=LE (h.num _ (List.getElem_mem hj)) hn hn2
  have e:dL n l j=some (v,l,(j:Int)+1,()):=by
   unfold dL;delta dM
   try dsimp only
   rw[dQ (x:=(j:Int)+1) (by omega) (by omega),dQ (x:=(j:Int)+1 - 1) (by omega) (by omega)];rw[show (j:Int)+1 - 1=j by omega,dN];simp only[hk,decide_false,oCF,oBS,dK,oGE hj,qf,hv]
  rw[e];exact K v _ h0 h1 ⟨h.num,hl,by omega,by omega⟩
theorem EX{f:Int×List Int×Int×Unit->Option β}(h:DOk l k) (K:∀v k',0<=v->v<=65535->DOk l k'->Ok (f (v,l,k',())) Q):Ok ((ij l k).bind f) Q:=by
 have hw:Ok (ij l k) λr=>∃v k',r=(v,l,k',())/\0<=v/\v<=65535/\DOk l k':=by
  unfold ij
  (with_reducible refine fi (by assumption) (by omega) (by omega) (λv k a b d=>?_);try dsimp only)
  refine Ok.bind (P:=λr=>∃b,r=(v,b,l,k,())) ?_ ?_
  ·repeat ((with_reducible refine dG (λhc=>?_) λhc=>?_);· exact Ok.ret ⟨_,rfl⟩)
   exact Ok.ret ⟨_,rfl⟩
  ·rintro _ ⟨b,rfl⟩;dsimp only;refine Ok.cond (λ_=>?_) λ_=>?_
   ·(with_reducible refine fi (by assumption) (by omega) (by omega) (λv k a b d=>?_);try dsimp only)
    (simp (disch:=omega) only [dQ,dZ,dV,dW])
    exact Ok.ret ⟨_,_,rfl,by omega,by omega,by assumption⟩
   ·(with_reducible refine dG (λhc=>?_) λhc=>?_)
    ·(with_reducible refine fi (by assumption) (by omega) (by omega) (λv k a b d=>?_);try dsimp only)
     (simp (disch:=omega) only [dQ,dZ,dV,dW])
     exact Ok.ret ⟨_,_,rfl,by omega,by omega,by assumption⟩
    ·(with_reducible refine fi (by assumption) (by omega) (by omega) (λv k a b d=>?_);try dsimp only)
     (simp (disch:=omega) only [dQ,dZ,dV,dW])
     exact Ok.ret ⟨_,_,rfl,by omega,by omega,by assumption⟩
 refine hw.bind ?_;rintro _ ⟨v,k',rfl,h0,h1,h2⟩;exact K v k' h0 h1 h2
end
def xC(s:List Int):Prop:=1<=s.length/\s.length<=4/\∀x∈s,1<=x/\x<=32
theorem Oq{P:Int->Prop}{a b c:Int}(ha:P a) (hb:P b) (hc:P c):∀x∈[a,b,c],P x:=by
 intro x hx;simp only[List.mem_cons,List.not_mem_nil,or_false] at hx
 rcases hx with rfl | rfl | rfl<;>assumption
theorem J7{l:List Int}{k:Int}(h:DOk l k):Ok (mY l k) λr=>∃s k',r=(s,l,k',())/\xC s/\DOk l k':=by
 unfold mY
 (with_reducible refine fi (by assumption) (by omega) (by omega) (λv0 k0 a0 b0 d0=>?_);try dsimp only)
 (simp (disch:=omega) only [dQ,dZ,dV,dW])
 (with_reducible refine fi (by assumption) (by omega) (by omega) (λv1 k1 a1 b1 d1=>?_);try dsimp only)
 refine Ok.loop (P:=λ((c,l',k',s,_):Int×List Int×Int×List Int×Unit)=>l'=l/\DOk l k'/\0<=c/\c+s.length<=4/\1<=s.length/\∀x∈s,1<=x/\x<=32)
  (R:=λ((_,_,l',k',s,_):Int×Bool×List Int×Int×List Int×Unit)=>l'=l/\DOk l k'/\xC s) (m:=λs=>s.1.toNat) ⟨rfl,d1,a1,by simp;omega,by simp,by simp;omega⟩ (by unfold NN;dsimp only;omega) ?_ ?_
 ·rintro⟨c,l',k3,s,_⟩ ⟨rfl,hd3,hc0,hcs,hs1,hs⟩;dsimp only at *;unfold ph;dsimp only
  (with_reducible refine dG (λhc=>?_) λhc=>?_)
  ·(with_reducible refine fi (by assumption) (by omega) (by omega) (λv2 k2 a2 b2 d2=>?_);try dsimp only)
   (with_reducible refine Ok.nat (by omega) (λj hj=>?_);try dsimp only)
   have hmem:∀x∈[(6:Int),12,32],6<=x/\x<=32:=Oq (by omega) (by omega) (by omega);refine Ok.get (by simp;omega) λa ha=>?_;have h6:=hmem a (dP ha);refine Ok.get (by simp;omega) λb hb=>?_;have h7:=hmem b (dP hb)
   (with_reducible refine fi (by assumption) (by omega) (by omega) (λv3 k3 a3 b3 d3=>?_);try dsimp only)
   (simp (disch:=omega) only [dQ,dZ,dV,dW])
   refine dH (dT (by simp;omega)) ?_;refine Ok.ret ⟨⟨rfl,by assumption,by omega,?_,?_,?_⟩,?_⟩
   ·simp;omega
   ·simp
   ·intro x hx;simp only[List.append_eq,List.mem_append,List.mem_cons,List.not_mem_nil,or_false] at hx;rcases hx with hx | rfl
    ·exact hs x hx
    ·omega
   ·dsimp only;omega
  ·exact Ok.ret ⟨rfl,hd3,hs1,by dsimp only;omega,hs⟩
 ·rintro⟨a,b,l',k3,s,_⟩ ⟨rfl,hd3,hs⟩;exact Ok.ret ⟨_,_,rfl,hs,hd3⟩
def nV(op:Int):Bool:=!(op==18 || op==23 || op==0 || op==24)
def nU(op:Int):Bool:=!(op==18 || op==23 || op==0 || op==24 || op==1 || op==15 || op==19 || op==20 || op==21 || op==22)
def nT(op:Int):Bool:=!(op==18 || op==23 || op==0 || op==24 || op==1 || op==15 || op==19 || op==20 || op==21 || op==22 || op==2 || op==16 || op==17)
def nS(op:Int):Bool:=op==1 || op==15 || op==19 || op==20 || op==21 || op==16 || op==17 || op==18 || op==23
def lP(op:Int):Bool:=op==18 || op==19 || op==20 || op==21
theorem HE{op:Int}(h0:0<=op) (h1:op<=24):jg op=some (nV op,nU op,nT op,nS op,()):=by
 obtain⟨n,rfl⟩:∃n:Nat,op=n:=⟨op.toNat,by omega⟩
 have hn:n < 25:=by omega
 have key:∀n:Fin 25,(jg ((n.val:Nat):Int)).map (λx=>(x.1,x.2.1,x.2.2.1,x.2.2.2.1))=some (nV (n.val:Nat),nU (n.val:Nat),nT (n.val:Nat),nS (n.val:Nat)):=by decide
 have:=key ⟨n,hn⟩;dsimp only at this
 cases h:jg (n:Int) with
 | none=>rw[h] at this;cases this
 | some x=>
  obtain⟨a,b,c,d,_⟩:=x;rw[h] at this;simp only[oMS,oSJ,oPJ] at this;rw[this.1,this.2.1,this.2.2.1,this.2.2.2]
theorem wB(op:Int):gw op=some (lP op,()):=by
 unfold gw lP;cases op==18<;>cases op==19<;>cases op==20<;>cases op==21<;>rfl
structure g7 (n m:Int) (i:DIn):Prop where
 op:0<=i.1/\i.1<=24
 a:0<=i.2.1/\i.2.1 < 8/\(nV i.1=false->i.2.1=0)
 b:0<=i.2.2.1/\i.2.2.1 < 8/\(nU i.1=false->i.2.2.1=0)
 c:0<=i.2.2.2.1/\i.2.2.2.1 < 8/\(nT i.1=false->i.2.2.2.1=0)
 imm:0<=i.2.2.2.2/\i.2.2.2.2<=65535/\(nS i.1=false->i.2.2.2.2=0)
 lea:i.1=15->i.2.2.2.2 < n
 sys:i.1=23->i.2.2.2.2<=15
 jmp:lP i.1=true->i.2.2.2.2 < m
theorem ins_mk{n m o a b c i:Int}(ho:0<=o/\o<=24) (ha:0<=a/\a < 8) (hb:0<=b/\b < 8) (hc:0<=c/\c < 8) (hi:0<=i/\i<=65535) (hA:nV o=true\/a=0) (hB:nU o=true\/b=0) (hC:nT o=true\/c=0) (hI:nS o=true\/i=0)
 (hl:o=15->i < n) (hs:o=23->i<=15) (hj:lP o=true->i < m):g7 n m (o,a,b,c,i):=
 ⟨ho,⟨ha.1,ha.2,λh=>hA.elim (λh'=>by rw[show nV o=false from h] at h';cases h') id⟩,⟨hb.1,hb.2,λh=>hB.elim (λh'=>by rw[show nU o=false from h] at h';cases h') id⟩,
  ⟨hc.1,hc.2,λh=>hC.elim (λh'=>by rw[show nT o=false from h] at h';cases h') id⟩,⟨hi.1,hi.2,λh=>hI.elim (λh'=>by rw[show nS o=false from h] at h';cases h') id⟩,hl,hs,hj⟩
theorem B3{n m r v:Int}(h:0<=r/\r < 8) (hv:0<=v/\v<=65535):g7 n m (1,r,0,0,v):=ins_mk (by decide) h (by decide) (by decide) hv (.inl (by decide)) (.inr rfl) (.inr rfl) (.inl (by decide)) (by omega) (by omega) (λh=>absurd h (by decide))
theorem D0{n m r v:Int}(h:0<=r/\r < 8) (hv:0<=v/\v < 8):g7 n m (2,r,v,0,0):=ins_mk (by decide) h hv (by decide) (by decide) (.inl (by decide)) (.inl (by decide)) (.inr rfl) (.inr rfl) (by omega) (by omega) (λh=>absurd h (by decide))
theorem vM{n m v:Int}(hv:0<=v/\v<=15):g7 n m (23,0,0,0,v):=ins_mk (by decide) (by decide) (by decide) (by decide) (by omega) (.inr rfl) (.inr rfl) (.inr rfl) (.inl (by decide)) (by omega) (by omega) (λh=>absurd h (by decide))
theorem D4{n m r v:Int}(h:0<=r/\r < 8) (hv:0<=v/\v < n) (hn:n<=4):g7 n m (15,r,0,0,v):=ins_mk (by decide) h (by decide) (by decide) (by omega) (.inl (by decide)) (.inr rfl) (.inr rfl) (.inl (by decide)) (by omega) (by omega) (λh=>absurd h (by decide))
theorem HJ{n m o a b v:Int}(ho:o=16\/o=17) (h:0<=a/\a < 8) (hb:0<=b/\b < 8) (hv:0<=v/\v<=65535):g7 n m (o,a,b,0,v):=by
 rcases ho with rfl | rfl
 ·exact ins_mk (by decide) h hb (by decide) hv (.inl (by decide)) (.inl (by decide)) (.inr rfl) (.inl (by decide)) (by omega) (by omega) (λh=>absurd h (by decide))
 ·exact ins_mk (by decide) h hb (by decide) hv (.inl (by decide)) (.inl (by decide)) (.inr rfl) (.inl (by decide)) (by omega) (by omega) (λh=>absurd h (by decide))
theorem DX{n m o a b c:Int}(ho:3<=o/\o<=14) (h:0<=a/\a < 8) (hb:0<=b/\b < 8) (hc:0<=c/\c < 8):g7 n m (o,a,b,c,0):=
 ins_mk (by omega) h hb hc (by decide) (.inl (by unfold nV;simp;omega)) (.inl (by unfold nU;simp;omega)) (.inl (by unfold nT;simp;omega)) (.inr rfl) (by omega) (by omega) (λh=>by unfold lP at h;simp at h;omega)
theorem MQ{n m v:Int}(hv:0<=v/\v<=65535) (hm:v < m):g7 n m (18,0,0,0,v):=ins_mk (by decide) (by decide) (by decide) (by decide) hv (.inr rfl) (.inr rfl) (.inr rfl) (.inl (by decide)) (by omega) (by omega) (λ_=>hm)
theorem Mu{n m:Int}:g7 n m (24,0,0,0,0):=ins_mk (by decide) (by decide) (by decide) (by decide) (by decide) (.inr rfl) (.inr rfl) (.inr rfl) (.inr rfl) (by omega) (by omega) (λh=>absurd h (by decide))
theorem g7.mono{n m m':Int}{i:DIn}(h:g7 n m i) (hm:m<=m'):g7 n m' i:=⟨h.op,h.a,h.b,h.c,h.imm,h.lea,h.sys,λhj=>by have:=h.jmp hj;omega⟩
theorem Ee{n m a v:Int}(h:0<=a/\a < 8) (hv:0<=v/\v<=65535) (hm:v < m):g7 n m (20,a,0,0,v):=ins_mk (by decide) h (by decide) (by decide) hv (.inl (by decide)) (.inr rfl) (.inr rfl) (.inl (by decide)) (by omega) (by omega) (λ_=>hm)
theorem KW{n most k:Int}{l:List Int}(h:DOk l k) (hn:1<=n/\n<=4) (hm:1<=most/\most<=100):Ok (mZ n most l k) λr=>∃o a b c i k',r=(o,a,b,c,i,l,k',())/\g7 n most (o,a,b,c,i)/\DOk l k':=by
 unfold mZ
 (with_reducible refine fi (by assumption) (by omega) (by omega) (λv0 k0 a0 b0 d0=>?_);try dsimp only)
 rw[HE (by omega) (by omega)];simp only[oBS];refine Ok.bind (P:=λr=>∃x k',r=(n,most,l,k',0,0,0,0,0,v0,x,0,0,0,nV v0,nU v0,nT v0,nS v0,())/\0<=x/\x < 8/\(nV v0=false->x=0)/\DOk l k') ?_ ?_
 ·refine Ok.cond (λhc=>?_) λhc=>Ok.ret ⟨_,_,rfl,by omega,by omega,λ_=>rfl,d0⟩
  (with_reducible refine fi (by assumption) (by omega) (by omega) (λv1 k1 a1 b1 d1=>?_);try dsimp only)
  exact Ok.ret ⟨_,_,rfl,a1,b1,(λhh=>by rw[hc] at hh;cases hh),d1⟩
 rintro _ ⟨xa,k1,rfl,ha0,ha1,ha2,d1⟩;dsimp only;refine Ok.bind (P:=λr=>∃x k',r=(n,most,l,k',0,0,0,0,0,v0,xa,x,0,0,nV v0,nU v0,nT v0,nS v0,())/\0<=x/\x < 8/\(nU v0=false->x=0)/\DOk l k') ?_ ?_
 ·refine Ok.cond (λhc=>?_) λhc=>Ok.ret ⟨_,_,rfl,by omega,by omega,λ_=>rfl,d1⟩
  (with_reducible refine fi (by assumption) (by omega) (by omega) (λv2 k2 a2 b2 d2=>?_);try dsimp only)
  exact Ok.ret ⟨_,_,rfl,a2,b2,(λhh=>by rw[hc] at hh;cases hh),d2⟩
 rintro _ ⟨xb,k2,rfl,hb0,hb1,hb2,d2⟩;dsimp only;refine Ok.bind (P:=λr=>∃x k',r=(n,most,l,k',0,0,0,0,0,v0,xa,xb,x,0,nV v0,nU v0,nT v0,nS v0,())/\0<=x/\x < 8/\(nT v0=false->x=0)/\DOk l k') ?_ ?_
 ·refine Ok.cond (λhc=>?_) λhc=>Ok.ret ⟨_,_,rfl,by omega,by omega,λ_=>rfl,d2⟩
  (with_reducible refine fi (by assumption) (by omega) (by omega) (λv3 k3 a3 b3 d3=>?_);try dsimp only)
  exact Ok.ret ⟨_,_,rfl,a3,b3,(λhh=>by rw[hc] at hh;cases hh),d3⟩
 rintro _ ⟨xc,k3,rfl,hc0,hc1,hc2,d3⟩;dsimp only;rw[wB];simp only[oBS];refine Ok.bind (P:=λr=>∃x k',r=(l,k',0,0,0,0,0,v0,xa,xb,xc,x,())/\0<=x/\x<=65535/\(nS v0=false->x=0)/\(v0=15->x < n)/\(v0=23->x<=15)/\(lP v0=true->x < most)/\DOk l k') ?_ ?_
 ·refine Ok.cond (λhj=>?_) λhj=>?_
  ·(with_reducible refine fi (by assumption) (by omega) (by omega) (λv4 k4 a4 b4 d4=>?_);try dsimp only)
   have hj:lP v0=true:=hj
   have hne:v0≠15/\v0≠23:=by constructor<;>(rintro rfl;exact absurd hj (by decide))
   exact Ok.ret ⟨_,_,rfl,a4,by omega,(λhh=>by
    have:nS v0=true:=by unfold lP at hj;unfold nS;simp at hj ⊢;omega
    rw[this] at hh;cases hh),by omega,by omega,λ_=>b4,d4⟩
  ·(with_reducible refine dG (λhc5=>?_) λhc5=>?_)
   ·subst hc5
    (with_reducible refine fi (by assumption) (by omega) (by omega) (λv4 k4 a4 b4 d4=>?_);try dsimp only)
    exact Ok.ret ⟨_,_,rfl,a4,by omega,λhh=>absurd hh (by decide),by omega,by omega,λhh=>absurd hh (by decide),d4⟩
   ·(with_reducible refine dG (λhc6=>?_) λhc6=>?_)
    ·subst hc6
     (with_reducible refine fi (by assumption) (by omega) (by omega) (λv4 k4 a4 b4 d4=>?_);try dsimp only)
     exact Ok.ret ⟨_,_,rfl,a4,by omega,λhh=>absurd hh (by decide),by omega,by omega,λhh=>absurd hh (by decide),d4⟩
    ·refine Ok.cond (λhu=>?_) λhu=>?_
     ·(with_reducible refine EX (by assumption) (λv4 k4 a4 b4 d4=>?_);try dsimp only)
      (simp (disch:=omega) only [dQ,dZ,dV,dW])
      exact Ok.ret ⟨_,_,rfl,a4,by omega,(λhh=>by rw[hu] at hh;cases hh),by omega,by omega,(λhh=>by rw[show lP v0=false from hj] at hh;cases hh),d4⟩
     ·exact Ok.ret ⟨_,_,rfl,by omega,by omega,λ_=>rfl,by omega,by omega,(λhh=>by rw[show lP v0=false from hj] at hh;cases hh),d3⟩
 rintro _ ⟨xi,k4,rfl,hi0,hi1,hi2,hi3,hi4,hi5,d4⟩;exact Ok.ret ⟨_,_,_,_,_,_,rfl,⟨⟨a0,by dsimp only;omega⟩,⟨ha0,ha1,ha2⟩,⟨hb0,hb1,hb2⟩,⟨hc0,hc1,hc2⟩,⟨hi0,hi1,hi2⟩,hi3,hi4,hi5⟩,d4⟩
theorem lZ{α β:Type}{l:List α}{i:Nat}{f:α->Option β}{Q:β->Prop}(P:α->Prop) (h:i < l.length) (hP:∀x∈l,P x) (h2:∀a,P a->Ok (f a) Q):Ok ((dK l i).bind f) Q:=Ok.get h λa ha=>h2 a (hP a (dP ha))
theorem ee{α:Type}{P:α->Prop}:∀x∈([]:List α),P x:=λ_ h=>by cases h
theorem all_cons{α:Type}{P:α->Prop}{a:α}{l:List α}(h:P a) (h2:∀x∈l,P x):∀x∈a :: l,P x:=λx hx=>by
 rcases List.mem_cons.1 hx with rfl | hx
 ·exact h
 ·exact h2 x hx
theorem NJ(a b:Int):ie a b=some (1,a,0,0,b,()):=rfl
theorem NF(a b:Int):lI a b=some (2,a,b,0,0,()):=rfl
theorem Ly(a:Int):gI a=some (23,0,0,0,a,()):=rfl
theorem OR{x:Int}(h:1<=x):1<=mmR false 5 x/\mmR false 5 x<=5:=by
 unfold mmR;simp only[Bool.false_eq_true,if_false];split<;>omega
def FZ(n at_:Int) (l:List Int) (r:List DIn×List Int×Int×Unit):Prop:=∃xs k',r=(xs,l,k',())/\1<=xs.length/\xs.length<=6/\(∀i∈xs,g7 n (at_+xs.length) i)/\DOk l k'
theorem zL{n at_:Int}{l:List Int}{xs:List DIn}{k:Int}(h1:1<=xs.length/\xs.length<=6) (h2:∀i∈xs,g7 n (at_+xs.length) i) (h3:DOk l k):Ok (some (xs,l,k,())) (FZ n at_ l):=Ok.ret ⟨xs,k,rfl,h1.1,h1.2,h2,h3⟩
theorem ME{s l:List Int}{at_ k:Int}(h:DOk l k) (hs:xC s) (ha:0<=at_/\at_<=99):Ok (oc s (at_+1) at_ l k) (FZ s.length at_ l):=by
 obtain⟨hs1,hs4,hsz⟩:=hs
 have hn:1<=(s.length:Int)/\(s.length:Int)<=4:=by omega
 unfold oc;delta dM;simp only[NJ,NF,Ly,oBS]
 (with_reducible refine fi (by assumption) (by omega) (by omega) (λvr kr ar br dr=>?_);try dsimp only)
 refine Ok.nat (by omega) λj hj=>?_;refine lZ (λa=>1<=a/\a<=32) (by omega) hsz λz hz=>?_
 (simp (disch:=omega) only [dQ,dZ,dV,dW])
 have h5:=OR (x:=z+1) (by omega);generalize mmR false 5 (z+1)=mm at h5
 (with_reducible refine fi (by assumption) (by omega) (by omega) (λvu ku au bu du=>?_);try dsimp only)
 (with_reducible refine fi (by assumption) (by omega) (by omega) (λvw kw aw bw dw=>?_);try dsimp only)
 iterate 19
  (with_reducible refine dG (λhcc=>?_) λhcc=>?_)
  ·repeat (first | (simp (disch:=omega) only [dQ,dZ,dV,dW]) | (with_reducible refine fi (by assumption) (by omega) (by omega) (λv k a b d=>?_);try dsimp only) | (with_reducible refine EX (by assumption) (λv k a b d=>?_);try dsimp only) | (with_reducible refine Ok.nat (by omega) (λj hj=>?_);try dsimp only) | ((with_reducible first | refine lZ (λa=>1<=a/\a<=32) (by omega) (by assumption) (λe he=>?_) | refine lZ (λa=>3<=a/\a<=14) (by simp only[oLC,List.length_nil];omega) (by (first | exact (all_cons (by omega) (all_cons (by omega) ee)) | exact (all_cons (by omega) (all_cons (by omega) (all_cons (by omega) ee))) | exact (all_cons (by omega) (all_cons (by omega) (all_cons (by omega) (all_cons (by omega) (all_cons (by omega) (all_cons (by omega) (all_cons (by omega) (all_cons (by omega) ee)))))))))) (λe he=>?_) | refine lZ (λa=>0<=a/\a<=15) (by simp only[oLC,List.length_nil];omega) (by (first | exact (all_cons (by omega) (all_cons (by omega) ee)) | exact (all_cons (by omega) (all_cons (by omega) (all_cons (by omega) ee))) | exact (all_cons (by omega) (all_cons (by omega) (all_cons (by omega) (all_cons (by omega) (all_cons (by omega) (all_cons (by omega) (all_cons (by omega) (all_cons (by omega) ee)))))))))) (λe he=>?_) | refine lZ (λa=>1<=a/\a<=100) (by simp only[oLC,List.length_nil];omega) (by (first | exact (all_cons (by omega) (all_cons (by omega) ee)) | exact (all_cons (by omega) (all_cons (by omega) (all_cons (by omega) ee))) | exact (all_cons (by omega) (all_cons (by omega) (all_cons (by omega) (all_cons (by omega) (all_cons (by omega) (all_cons (by omega) (all_cons (by omega) (all_cons (by omega) ee)))))))))) (λe he=>?_));try dsimp only) | (with_reducible refine dH (dT (by first | omega | simp)) ?_;try dsimp only) | (refine lZ (λ(a:List DIn)=>(1<=a.length/\a.length<=6)/\∀i∈a,g7 s.length (at_+a.length) i) (by simp only[oLC,List.length_nil];omega) (all_cons ⟨by simp,by ((repeat' (first | exact ee | refine all_cons ?_ ?_ | exact B3 (by omega) (by omega) | exact D0 (by omega) (by omega) | exact vM (by omega) | exact D4 (by omega) (by omega) (by omega) | exact HJ (by omega) (by omega) (by omega) (by omega) | exact DX (by omega) (by omega) (by omega) (by omega) | exact Ee (by omega) (by omega) (by simp only[oLC,List.length_nil];omega)));done)⟩ (all_cons ⟨by simp,by ((repeat' (first | exact ee | refine all_cons ?_ ?_ | exact B3 (by omega) (by omega) | exact D0 (by omega) (by omega) | exact vM (by omega) | exact D4 (by omega) (by omega) (by omega) | exact HJ (by omega) (by omega) (by omega) (by omega) | exact DX (by omega) (by omega) (by omega) (by omega) | exact Ee (by omega) (by omega) (by simp only[oLC,List.length_nil];omega)));done)⟩ ee)) (λe he=>?_);try dsimp only))
   first
    | exact zL he.1 he.2 (by assumption)
    | (refine zL (by simp) ?_ (by assumption);try simp only[List.append_eq,List.cons_append,List.nil_append]
       ((repeat' (first | exact ee | refine all_cons ?_ ?_ | exact B3 (by omega) (by omega) | exact D0 (by omega) (by omega) | exact vM (by omega) | exact D4 (by omega) (by omega) (by omega) | exact HJ (by omega) (by omega) (by omega) (by omega) | exact DX (by omega) (by omega) (by omega) (by omega) | exact Ee (by omega) (by omega) (by simp only[oLC,List.length_nil];omega)));done))
 refine (KW (by assumption) hn (by omega)).bind ?_;rintro _ ⟨o,a,b,c,i,k',rfl,hi,hd⟩;exact zL (by simp) (all_cons (hi.mono (by simp)) ee) hd
theorem iE{α:Type}{P:α->Prop}{l m:List α}(h:∀x∈l,P x) (h2:∀x∈m,P x):∀x∈List.append l m,P x:=λx hx=>(List.mem_append.1 (show x∈l++m from hx)).elim (h x) (h2 x)
theorem eV{α:Type}(l m:List α):(List.append l m).length=l.length+m.length:=List.length_append
theorem nP{l:List Int}{k n:Int}(h:DOk l k) (hn:0<=n/\n<=1000):Ok (fG n l k) λr=>∃ws k',r=(ws,l,k',())/\(ws.length:Int)<=n/\(∀w∈ws,W16 w)/\DOk l k':=by
 unfold fG
 (simp (disch:=omega) only [dQ,dZ,dV,dW])
 (with_reducible refine fi (by assumption) (by omega) (by omega) (λv0 k0 a0 b0 d0=>?_);try dsimp only)
 refine Ok.loop (P:=λ((c,l',k',s,_):Int×List Int×Int×List Int×Unit)=>l'=l/\DOk l k'/\0<=c/\c+s.length<=n/\∀x∈s,W16 x)
  (R:=λ((_,_,l',k',s,_):Int×Bool×List Int×Int×List Int×Unit)=>l'=l/\DOk l k'/\(s.length:Int)<=n/\∀x∈s,W16 x) (m:=λs=>s.1.toNat) ⟨rfl,d0,a0,by simp;omega,ee⟩ (by unfold NN;dsimp only;omega) ?_ ?_
 ·rintro⟨c,l',k3,s,_⟩ ⟨rfl,hd3,hc0,hcs,hs⟩;dsimp only at *;unfold pf;dsimp only
  (with_reducible refine dG (λhcc=>?_) λhcc=>?_)
  ·(with_reducible refine EX (by assumption) (λv1 k1 a1 b1 d1=>?_);try dsimp only)
   refine dH (dT (by simp;omega)) ?_
   (simp (disch:=omega) only [dQ,dZ,dV,dW])
   exact Ok.ret ⟨⟨rfl,by assumption,by omega,by rw[eV];simp;omega,iE hs (all_cons ⟨a1,b1⟩ ee)⟩,by dsimp only;omega⟩
  ·exact Ok.ret ⟨rfl,hd3,by dsimp only;omega,hs⟩
 ·rintro⟨a,b,l',k3,s,_⟩ ⟨rfl,hd3,hs,hw⟩;exact Ok.ret ⟨_,_,rfl,hs,hw,hd3⟩
structure j9 (code:List DIn) (s:List Int) (d:List (List Int)):Prop where
 sz:xC s
 len:d.length=s.length
 fit:∀(j:Nat) x n,d[j]?=some x->s[j]?=some n->(x.length:Int)<=n
 num:∀x∈d,∀w∈x,W16 w
 clen:1<=code.length/\code.length<=64
 ins:∀i∈code,g7 s.length code.length i
theorem FE{code:List DIn}{s:List Int}{d:List (List Int)}{l:List Int}{k:Int}(hp:j9 code s d) :
 Ok (dU fI NN ((code.length:Int),0,l,k,(),(),(),code,s,d,())) λr=>∃a b c,r=(a,b,c,l,k,(),(),(),code,s,d,()):=by
 have:=Ok.loop (f:=fI) (n:=NN) (g:=λt=>some t) (Q:=λr=>∃a b c,r=(a,b,c,l,k,(),(),(),code,s,d,())) (s:=((code.length:Int),0,l,k,(),(),(),code,s,d,()))
  (P:=λs'=>∃i:Int,s'=((code.length:Int),i,l,k,(),(),(),code,s,d,())/\0<=i/\i<=code.length) (R:=λr=>∃a b c,r=(a,b,c,l,k,(),(),(),code,s,d,())) (m:=λs=>(s.1 - s.2.1).toNat) ⟨0,rfl,by omega,by omega⟩ (by unfold NN;dsimp only;have:=hp.clen;omega) ?_ (λt ht=>Ok.ret ht)
 ·obtain⟨a,e,h⟩:=this;refine⟨a,?_,h⟩
  cases hl:dU fI NN ((code.length:Int),0,l,k,(),(),(),code,s,d,()) with
  | none=>rw[hl] at e;cases e
  | some x=>rw[hl] at e;exact e
 ·rintro _ ⟨i,rfl,hi0,hi1⟩;unfold fI;dsimp only;have hc:=hp.clen
  (with_reducible refine dG (λhcc=>?_) λhcc=>?_)
  ·refine Ok.bind (P:=λr=>r=((code.length:Int),i,l,k,(),(),(),code,s,d,())) ?_ ?_
   ·(with_reducible refine Ok.nat (by omega) (λj hj=>?_);try dsimp only)
    refine Ok.get (by omega) λx hx=>?_;have hin:=hp.ins x (dP hx);rw[wB];simp only[oBS];refine Ok.cond (λhjp=>?_) λ_=>Ok.ret rfl;refine Ok.nat (by omega) λj2 hj2=>?_;refine Ok.get (by omega) λy hy=>?_
    have hjj:j2=j:=by omega
    subst hjj;rw[hx] at hy
    injection hy with hy
    subst hy;have:=hin.jmp hjp;refine Ok.cond (λhcc=>?_) (λhcc=>?_)
    ·have h9:(x.2.2.2.2:Int)>=(code.length:Int):=of_decide_eq_true hcc;omega
    ·exact Ok.ret rfl
   ·rintro _ rfl;dsimp only
    (simp (disch:=omega) only [dQ,dZ,dV,dW])
    exact Ok.ret ⟨⟨i+1,rfl,by omega,by omega⟩,by dsimp only;omega⟩
  ·exact Ok.ret ⟨_,_,_,rfl⟩
theorem Gy{l:List Int}{k:Int}(h:DOk l k):Ok (kE l k) λr=>∃code s d k',r=(code,s,d,l,k',())/\j9 code s d/\DOk l k':=by
 unfold kE;refine (J7 h).bind ?_;rintro _ ⟨s,k1,rfl,hs,hd⟩;obtain⟨hs1,hs4,hsz⟩:=id hs;dsimp only;delta dM
 try dsimp only
 refine Ok.loop (P:=λs'=>∃k' d,s'=((s.length:Int),(d.length:Int),l,k',(),(),(),(),s,d,())/\DOk l k'/\d.length<=s.length/\(∀(j:Nat) x n,d[j]?=some x->s[j]?=some n->(x.length:Int)<=n)/\∀x∈d,∀w∈x,W16 w)
  (R:=λr=>∃a b c k' d,r=(a,b,c,l,k',(),(),(),(),s,d,())/\DOk l k'/\d.length=s.length/\(∀(j:Nat) x n,d[j]?=some x->s[j]?=some n->(x.length:Int)<=n)/\∀x∈d,∀w∈x,W16 w)
  (m:=λs=>(s.1 - s.2.1).toNat) ⟨k1,[],rfl,hd,by simp,by simp,ee⟩ (by unfold NN;dsimp only;omega) ?_ ?_
 ·rintro _ ⟨k',d,rfl,hd',hdl,hfit,hnum⟩;unfold nA;dsimp only
  (with_reducible refine dG (λhcc=>?_) λhcc=>?_)
  ·(with_reducible refine Ok.nat (by omega) (λj hj=>?_);try dsimp only)
   refine Ok.get (by omega) λx hx=>?_;refine Ok.get (by omega) λy hy=>?_
   have hj':j=d.length:=by omega
   subst hj';have hy2:=hsz y (dP hy);refine (nP hd' ⟨by omega,by omega⟩).bind ?_;rintro _ ⟨ws,k2,rfl,hwl,hww,hd2⟩;dsimp only;refine dH (dT (by simp;omega)) ?_
   (simp (disch:=omega) only [dQ,dZ,dV,dW])
   refine Ok.ret ⟨⟨k2,List.append d [ws],by rw[eV];simp,hd2,by rw[eV];simp;omega,?_,iE hnum (all_cons hww ee)⟩,by dsimp only;omega⟩;intro i x n hx hn;rw[show List.append d [ws]=d++[ws] from rfl,List.getElem?_append] at hx;split at hx
   ·exact hfit i x n hx hn
   ·rename_i hge
    have:i - d.length=0:=by
     rcases Nat.eq_zero_or_pos (i - d.length) with h | h
     ·exact h
     ·rw[oGN (by simp;omega)] at hx;cases hx
    have hi:i=d.length:=by omega
    subst hi;simp at hx;subst hx;rw[hy] at hn
    injection hn with hn
    omega
  ·exact Ok.ret ⟨_,_,_,_,_,rfl,hd',by omega,hfit,hnum⟩
 rintro _ ⟨a,b,c,k2,d,rfl,hd2,hdl,hfit,hnum⟩;dsimp only
 (with_reducible refine fi (by assumption) (by omega) (by omega) (λv0 k0 a0 b0 d0=>?_);try dsimp only)
 (simp (disch:=omega) only [dQ,dZ,dV,dW])
 refine Ok.loop (P:=λs'=>∃i k' code,s'=(i,l,k',(),(),(),code,s,d,())/\0<=i/\i<=12/\DOk l k'/\code.length<=62/\∀i∈code,g7 s.length code.length i)
  (R:=λr=>∃a b k' code,r=(a,b,l,k',(),(),(),code,s,d,())/\DOk l k'/\code.length<=62/\∀i∈code,g7 s.length code.length i)
  (m:=λs=>s.1.toNat) ⟨_,_,[],rfl,by omega,by omega,d0,by simp,ee⟩ (by unfold NN;dsimp only;omega) ?_ ?_
 ·rintro _ ⟨i,k',code,rfl,hi0,hi1,hd',hcl,hins⟩;unfold nz;dsimp only
  (with_reducible refine dG (λhcc=>?_) λhcc=>?_)
  ·refine Ok.bind (P:=λr=>∃k' code,r=(i,l,k',(),(),(),code,s,d,())/\DOk l k'/\code.length<=62/\∀i∈code,g7 s.length code.length i) ?_ ?_
   ·(simp (disch:=omega) only [dQ,dZ,dV,dW])
    refine (ME hd' hs ⟨by omega,by omega⟩).bind ?_;rintro _ ⟨xs,k3,rfl,hx1,hx6,hxs,hd3⟩;dsimp only
    (simp (disch:=omega) only [dQ,dZ,dV,dW])
    (with_reducible refine dG (λhcc=>?_) λhcc=>?_)
    ·refine dH (dT (by omega)) ?_;refine Ok.ret ⟨_,_,rfl,hd3,by rw[eV];omega,?_⟩;rw[eV];exact iE (λi hi=>(hins i hi).mono (by omega)) (λi hi=>(hxs i hi).mono (by omega))
    ·exact Ok.ret ⟨_,_,rfl,hd3,hcl,hins⟩
   ·rintro _ ⟨k3,code2,rfl,hd3,hcl2,hins2⟩;dsimp only
    (simp (disch:=omega) only [dQ,dZ,dV,dW])
    exact Ok.ret ⟨⟨_,_,_,rfl,by omega,by omega,hd3,hcl2,hins2⟩,by dsimp only;omega⟩
  ·exact Ok.ret ⟨_,_,_,_,rfl,hd',hcl,hins⟩
 rintro _ ⟨a,b,k3,code,rfl,hd3,hcl,hins⟩;dsimp only;refine Ok.bind (P:=λr=>∃k' code,r=(l,k',(),(),(),code,s,d,())/\DOk l k'/\code.length<=63/\∀i∈code,g7 s.length (code.length+1) i) ?_ ?_
 ·(with_reducible refine fi (by assumption) (by omega) (by omega) (λv1 k1 a1 b1 d1=>?_);try dsimp only)
  (with_reducible refine dG (λhcc=>?_) λhcc=>?_)
  ·(simp (disch:=omega) only [dQ,dZ,dV,dW])
   (with_reducible refine fi (by assumption) (by omega) (by omega) (λv2 k2 a2 b2 d2=>?_);try dsimp only)
   refine dH (dT (by simp;omega)) ?_;refine Ok.ret ⟨_,_,rfl,d2,by rw[eV];simp;omega,?_⟩;rw[eV];exact iE (λi hi=>(hins i hi).mono (by simp;omega)) (all_cons (MQ (by omega) (by simp;omega)) ee)
  ·(with_reducible refine dG (λhcc=>?_) λhcc=>?_)
   ·refine dH (dT (by simp;omega)) ?_;refine Ok.ret ⟨_,_,rfl,d1,by rw[eV];simp;omega,?_⟩;rw[eV];exact iE (λi hi=>(hins i hi).mono (by simp;omega)) (all_cons Mu ee)
   ·exact Ok.ret ⟨_,_,rfl,d1,by omega,λi hi=>(hins i hi).mono (by omega)⟩
 rintro _ ⟨k4,code2,rfl,hd4,hcl2,hins2⟩;dsimp only
 (with_reducible refine fi (by assumption) (by omega) (by omega) (λv3 k3 a3 b3 d3=>?_);try dsimp only)
 simp only[NJ,Ly,oBS];refine dH (dT (by simp;omega)) ?_;simp only[eV];refine Ok.cond (λhc=>?_) λ_=>?_
 ·have hall:∀i∈List.append code2 [(1,0,0,0,v3),(23,0,0,0,0)],g7 s.length (code2.length+1) i:=iE hins2 (all_cons (B3 (by omega) (by omega)) (all_cons (vM (by omega)) ee));simp only[oDE] at hc
  have hcn:(code2.length:Int)+2 > 64:=by
   have:((code2.length + [((1:Int),(0:Int),(0:Int),(0:Int),v3),(23,0,0,0,0)].length:Nat):Int) > 64:=hc;simpa using this
  have h63:code2.length=63:=by omega
  refine dH (by rw[h63];rfl) ?_
  have hlen:(nu (List.append code2 [((1:Int),(0:Int),(0:Int),(0:Int),v3),(23,0,0,0,0)]) 0 (Nat.sub 64 0)).length=64:=by
   unfold nu;rw[oLT,List.drop_zero,eV,h63];rfl
  have hp:j9 (nu (List.append code2 [((1:Int),(0:Int),(0:Int),(0:Int),v3),(23,0,0,0,0)]) 0 (Nat.sub 64 0)) s d:=by
   refine⟨hs,hdl,hfit,hnum,by rw[hlen];decide,λi hi=>?_⟩;rw[hlen];refine (hall i ?_).mono (by omega);unfold nu at hi;exact List.mem_of_mem_drop (List.mem_of_mem_take hi)
  refine (FE (l:=l) (k:=_) hp).bind ?_;rintro _ ⟨a,b,c,rfl⟩;exact Ok.ret ⟨_,_,_,_,rfl,hp,d3⟩
 ·have hp:j9 (List.append code2 [(1,0,0,0,v3),(23,0,0,0,0)]) s d:=by
   refine⟨hs,hdl,hfit,hnum,?_,?_⟩
   ·rw[eV];rename_i hc;have hcn:¬ ((code2.length + [((1:Int),(0:Int),(0:Int),(0:Int),v3),(23,0,0,0,0)].length:Nat):Int) > 64:=of_decide_eq_false hc;simp only[oLC,List.length_nil] at hcn ⊢;omega
   ·rw[eV];exact iE (λi hi=>(hins2 i hi).mono (by simp)) (all_cons (B3 (by omega) (by omega)) (all_cons (vM (by omega)) ee))
  have hf:=FE (l:=l) (k:=k3) hp;rw[eV] at hf;refine hf.bind ?_;rintro _ ⟨a,b,c,rfl⟩;exact Ok.ret ⟨_,_,_,_,rfl,hp,d3⟩
theorem FV{P:Int->Prop}{s:List Int}{i:Nat}{x:Int}(h:∀(j:Nat) y,j < i->s[j]?=some y->P y) (hx:s[i]?=some x) (hp:P x):∀(j:Nat) y,j < i+1->s[j]?=some y->P y:=by
 intro j y hj hy;by_cases hji:j=i
 ·subst hji;rw[hx] at hy
  injection hy with hy
  subst hy;exact hp
 ·exact h j y (by omega) hy
theorem HD{s:List Int}(hl:s.length<=1000):Ok (gF s) λr=>r.1=true↔xC s:=by
 unfold gF;delta dM
 try dsimp only
 obtain⟨t,e,ht⟩:=fH (f:=lj) (n:=NN) (s:=(s,s,(s.length:Int),0,())) (P:=λs'=>∃i:Nat,s'=(s,s,(s.length:Int),(i:Int),())/\i<=s.length/\∀(j:Nat) y,j < i->s[j]?=some y->1<=y/\y<=32)
  (R:=λr=>(r=.inl (false,())/\∃y∈s,¬ (1<=y/\y<=32))\/((∃a b c d,r=.inr (s,a,b,c,d,()))/\∀y∈s,1<=y/\y<=32)) (m:=λs'=>(s'.2.2.1 - s'.2.2.2.1).toNat) ⟨0,rfl,by omega,λj y hj=>by omega⟩ (by unfold NN;dsimp only;omega) (by
   rintro _ ⟨i,rfl,hi,hall⟩;unfold lj;dsimp only
   (with_reducible refine dG (λhcc=>?_) λhcc=>?_)
   ·rw[dN];simp only[oBS];refine Ok.get (by omega) λx hx=>?_
    (with_reducible refine dG (λhcd=>?_) λhcd=>?_)
    ·exact Ok.ret (.inl ⟨rfl,x,dP hx,by omega⟩)
    ·(with_reducible refine dG (λhce=>?_) λhce=>?_)
     ·exact Ok.ret (.inl ⟨rfl,x,dP hx,by omega⟩)
     ·(simp (disch:=omega) only [dQ,dZ,dV,dW])
      exact Ok.ret ⟨⟨i+1,rfl,by omega,FV hall hx ⟨by omega,by omega⟩⟩,by dsimp only;omega⟩
   ·refine Ok.ret (.inr ⟨⟨_,_,_,_,rfl⟩,λy hy=>?_⟩);obtain⟨j,hj⟩:=List.getElem?_of_mem hy
    exact hall j y (by have:=(oGS hj).1;omega) hj)
 rw[e];rcases ht with ⟨rfl,y,hy,hn⟩ | ⟨⟨a,b,c,d,rfl⟩,hall⟩
 ·exact Ok.ret ⟨λh=>(by cases h),λh=>absurd (h.2.2 y hy) hn⟩
 ·dsimp only
  (with_reducible refine dG (λhcc=>?_) λhcc=>?_)
  ·exact Ok.ret ⟨λh=>⟨by omega,(by have:=of_decide_eq_true h;omega),hall⟩,λh=>oDT (by have:=h.2.1;omega)⟩
  ·exact Ok.ret ⟨λh=>(by cases h),λh=>by have:=h.1;omega⟩
abbrev VS(xs:List Int):Prop:=xC xs
theorem Ey{l:List Int}{k:Nat}(h:k < l.length):l.getD k 0=l[k]:=by simp[List.getD,h]
def vi(bs ss:List Int) (i:Nat):Prop:=
 0<=bs.getD i 0/\bs.getD i 0+ss.getD i 0<=512/\∀k,k < i->¬ (bs.getD i 0<=bs.getD k 0+ss.getD k 0/\bs.getD k 0<=bs.getD i 0+ss.getD i 0)
def LV(bs ss:List Int):Prop:=VS ss/\bs.length=ss.length/\∀i,i < bs.length->vi bs ss i
theorem VS.at_{ss:List Int}(h:VS ss) {i:Nat}(hi:i < ss.length):1<=ss[i]/\ss[i]<=32:=h.2.2 _ (List.getElem_mem hi)
def qM(ss:List Int) (seed:Int):Nat->List Int×Int
 | 0=>(List.replicate ss.length 0,1+seed / ss.length % 50)
 | k+1=>((qM ss seed k).1.set (((k+seed) % ss.length).toNat) (qM ss seed k).2,(qM ss seed k).2+(ss.getD ((k+seed) % ss.length).toNat 0+1+seed / (50*ss.length) % 40))
def mkB(ss:List Int) (seed:Int):List Int:=(qM ss seed ss.length).1
theorem KP(ss:List Int) (seed:Int) (k:Nat):(qM ss seed k).1.length=ss.length:=by
 induction k with
 | zero=>simp[qM]
 | succ k ih=>simp[qM,ih]
theorem VS.getD{ss:List Int}(h:VS ss) {i:Nat}(hi:i < ss.length):1<=ss.getD i 0/\ss.getD i 0<=32:=by rw[Ey hi];exact h.at_ hi
theorem LB{n k:Nat}{seed:Int}(hn:1<=n):0<=((k:Int)+seed) % n/\((k:Int)+seed) % n < n:=
 ⟨Int.emod_nonneg _ (by omega),Int.emod_lt_of_pos _ (by omega)⟩
theorem MI{ss:List Int}{seed:Int}(h:VS ss) (hs:0<=seed) (k:Nat):1<=(qM ss seed k).2/\(qM ss seed k).2<=50+72*k:=by
 induction k with
 | zero=>simp only[qM];have:=Int.emod_nonneg (seed / (ss.length:Int)) (show (50:Int)≠0 by decide);have:=Int.emod_lt_of_pos (seed / (ss.length:Int)) (show (0:Int) < 50 by decide);omega
 | succ k ih=>
  simp only[qM];have hr:=LB (k:=k) (seed:=seed) h.1;have:=h.getD (i:=(((k:Int)+seed) % ss.length).toNat) (by omega);have:=Int.emod_nonneg (seed / (50*(ss.length:Int))) (show (40:Int)≠0 by decide);have:=Int.emod_lt_of_pos (seed / (50*(ss.length:Int))) (show (0:Int) < 40 by decide);omega
theorem I4{ss:List Int}(h0:1<=ss.length) (h1:ss.length<=4):(∃a,ss=[a])\/(∃a b,ss=[a,b])\/(∃a b c,ss=[a,b,c])\/(∃a b c d,ss=[a,b,c,d]):=by
 match ss,h0,h1 with
 | [a],_,_=>exact .inl ⟨a,rfl⟩
 | [a,b],_,_=>exact .inr (.inl ⟨a,b,rfl⟩)
 | [a,b,c],_,_=>exact .inr (.inr (.inl ⟨a,b,c,rfl⟩))
 | [a,b,c,d],_,_=>exact .inr (.inr (.inr ⟨a,b,c,d,rfl⟩))
theorem vm{P:Nat->Prop}(h0:P 0):∀i,i < 1->P i:=λi hi=>by
 match i,hi with
 | 0,_=>exact h0
theorem zH{P:Nat->Prop}(h0:P 0) (h1:P 1):∀i,i < 2->P i:=λi hi=>by
 match i,hi with
 | 0,_=>exact h0
 | 1,_=>exact h1
theorem Fi{P:Nat->Prop}(h0:P 0) (h1:P 1) (h2:P 2):∀i,i < 3->P i:=λi hi=>by
 match i,hi with
 | 0,_=>exact h0
 | 1,_=>exact h1
 | 2,_=>exact h2
theorem Kw{P:Nat->Prop}(h0:P 0) (h1:P 1) (h2:P 2) (h3:P 3):∀i,i < 4->P i:=λi hi=>by
 match i,hi with
 | 0,_=>exact h0
 | 1,_=>exact h1
 | 2,_=>exact h2
 | 3,_=>exact h3
def JV(b s:Int):Prop:=0<=b/\b+s<=512
def fR(b s b' s':Int):Prop:=¬ (b<=b'+s'/\b'<=b+s)
theorem LV1{a x:Int}(hv:VS [a]) (h:JV x a):LV [x] [a]:=
 ⟨hv,rfl,vm ⟨h.1,h.2,λk hk=>by omega⟩⟩
theorem LV2{a b x y:Int}(hv:VS [a,b]) (h:JV x a) (h':JV y b) (h1:fR y b x a):LV [x,y] [a,b]:=
 ⟨hv,rfl,zH ⟨h.1,h.2,λk hk=>by omega⟩ ⟨h'.1,h'.2,vm h1⟩⟩
theorem LV3{a b c x y z:Int}(hv:VS [a,b,c]) (h:JV x a) (h':JV y b) (h'':JV z c) (h1:fR y b x a) (h2:fR z c x a) (h3:fR z c y b):LV [x,y,z] [a,b,c]:=
 ⟨hv,rfl,Fi ⟨h.1,h.2,λk hk=>by omega⟩ ⟨h'.1,h'.2,vm h1⟩ ⟨h''.1,h''.2,zH h2 h3⟩⟩
theorem LV4{a b c d x y z u:Int}(hv:VS [a,b,c,d]) (h:JV x a) (h':JV y b) (h'':JV z c) (h''':JV u d) (h1:fR y b x a) (h2:fR z c x a) (h3:fR z c y b) (h4:fR u d x a) (h5:fR u d y b) (h6:fR u d z c):LV [x,y,z,u] [a,b,c,d]:=
 ⟨hv,rfl,Kw ⟨h.1,h.2,λk hk=>by omega⟩ ⟨h'.1,h'.2,vm h1⟩ ⟨h''.1,h''.2,zH h2 h3⟩ ⟨h'''.1,h'''.2,Fi h4 h5 h6⟩⟩
theorem N9{ss:List Int}(hv:VS ss) {seed:Int}(hs:0<=seed):LV (mkB ss seed) ss:=by
 have hv0:=hv;rcases I4 hv.1 hv.2.1 with ⟨a,rfl⟩ | ⟨a,b,rfl⟩ | ⟨a,b,c,rfl⟩ | ⟨a,b,c,d,rfl⟩
 ·obtain⟨_,_,hx⟩:=hv;have ha:=hx a (by simp)
  have e0:(((0:Nat):Int)+seed) % 1=0:=by omega
  have hB:mkB [a] seed=[1+seed / 1 % 50]:=by simp[mkB,qM,List.replicate]
  rw[hB];exact LV1 hv0 ⟨by omega,by omega⟩
 ·obtain⟨_,_,hx⟩:=hv;have ha:=hx a (by simp);have hb:=hx b (by simp);rcases (show seed % 2=0\/seed % 2=1 by omega) with ht | ht
  ·have e1:(1+seed) % 2=1:=by omega
   simp only[mkB,qM,oLC,List.length_nil,List.replicate];simp[ht,e1];exact LV2 hv0 ⟨by omega,by omega⟩ ⟨by omega,by omega⟩ (by unfold fR;omega)
  ·have e1:(1+seed) % 2=0:=by omega
   simp only[mkB,qM,oLC,List.length_nil,List.replicate];simp[ht,e1];exact LV2 hv0 ⟨by omega,by omega⟩ ⟨by omega,by omega⟩ (by unfold fR;omega)
 ·obtain⟨_,_,hx⟩:=hv;have ha:=hx a (by simp);have hb:=hx b (by simp);have hc:=hx c (by simp);rcases (show seed % 3=0\/seed % 3=1\/seed % 3=2 by omega) with ht | ht | ht
  ·have e1:(1+seed) % 3=1:=by omega
   have e2:(2+seed) % 3=2:=by omega
   simp only[mkB,qM,oLC,List.length_nil,List.replicate];simp[ht,e1,e2];exact LV3 hv0 ⟨by omega,by omega⟩ ⟨by omega,by omega⟩ ⟨by omega,by omega⟩ (by unfold fR;omega) (by unfold fR;omega) (by unfold fR;omega)
  ·have e1:(1+seed) % 3=2:=by omega
   have e2:(2+seed) % 3=0:=by omega
   simp only[mkB,qM,oLC,List.length_nil,List.replicate];simp[ht,e1,e2];exact LV3 hv0 ⟨by omega,by omega⟩ ⟨by omega,by omega⟩ ⟨by omega,by omega⟩ (by unfold fR;omega) (by unfold fR;omega) (by unfold fR;omega)
  ·have e1:(1+seed) % 3=0:=by omega
   have e2:(2+seed) % 3=1:=by omega
   simp only[mkB,qM,oLC,List.length_nil,List.replicate];simp[ht,e1,e2];exact LV3 hv0 ⟨by omega,by omega⟩ ⟨by omega,by omega⟩ ⟨by omega,by omega⟩ (by unfold fR;omega) (by unfold fR;omega) (by unfold fR;omega)
 ·obtain⟨_,_,hx⟩:=hv;have ha:=hx a (by simp);have hb:=hx b (by simp);have hc:=hx c (by simp);have hd:=hx d (by simp)
  have hq:∀q g:Int,q=1+seed / 4 % 50->g=seed / (50*4) % 40->1<=q/\q<=50/\0<=g/\g < 40:=λq g e e'=>by subst e;subst e';omega
  rcases (show seed % 4=0\/seed % 4=1\/seed % 4=2\/seed % 4=3 by omega) with ht | ht | ht | ht
  ·have e1:(1+seed) % 4=1:=by omega
   have e2:(2+seed) % 4=2:=by omega
   have e3:(3+seed) % 4=3:=by omega
   simp only[mkB,qM,oLC,List.length_nil,List.replicate];simp[ht,e1,e2,e3];exact LV4 hv0 ⟨by omega,by omega⟩ ⟨by omega,by omega⟩ ⟨by omega,by omega⟩ ⟨by omega,by omega⟩ (by unfold fR;omega) (by unfold fR;omega) (by unfold fR;omega) (by unfold fR;omega) (by unfold fR;omega) (by unfold fR;omega)
  ·have e1:(1+seed) % 4=2:=by omega
   have e2:(2+seed) % 4=3:=by omega
   have e3:(3+seed) % 4=0:=by omega
   simp only[mkB,qM,oLC,List.length_nil,List.replicate];simp[ht,e1,e2,e3];exact LV4 hv0 ⟨by omega,by omega⟩ ⟨by omega,by omega⟩ ⟨by omega,by omega⟩ ⟨by omega,by omega⟩ (by unfold fR;omega) (by unfold fR;omega) (by unfold fR;omega) (by unfold fR;omega) (by unfold fR;omega) (by unfold fR;omega)
  ·have e1:(1+seed) % 4=3:=by omega
   have e2:(2+seed) % 4=0:=by omega
   have e3:(3+seed) % 4=1:=by omega
   simp only[mkB,qM,oLC,List.length_nil,List.replicate];simp[ht,e1,e2,e3];exact LV4 hv0 ⟨by omega,by omega⟩ ⟨by omega,by omega⟩ ⟨by omega,by omega⟩ ⟨by omega,by omega⟩ (by unfold fR;omega) (by unfold fR;omega) (by unfold fR;omega) (by unfold fR;omega) (by unfold fR;omega) (by unfold fR;omega)
  ·have e1:(1+seed) % 4=0:=by omega
   have e2:(2+seed) % 4=1:=by omega
   have e3:(3+seed) % 4=2:=by omega
   simp only[mkB,qM,oLC,List.length_nil,List.replicate];simp[ht,e1,e2,e3];exact LV4 hv0 ⟨by omega,by omega⟩ ⟨by omega,by omega⟩ ⟨by omega,by omega⟩ ⟨by omega,by omega⟩ (by unfold fR;omega) (by unfold fR;omega) (by unfold fR;omega) (by unfold fR;omega) (by unfold fR;omega) (by unfold fR;omega)
theorem ze{α:Type}(l:List α) (i:Nat) (a:α):List.modify l i (λ_=>a)=l.set i a:=by
 apply List.ext_getElem?;intro j;rw[List.getElem?_modify,List.getElem?_set];by_cases h:i=j
 ·subst h;simp only[if_true];by_cases hl:i < l.length
  ·simp[hl]
  ·simp[hl,oGN (Nat.le_of_not_lt hl)]
 ·simp[h]
theorem MM{s:List Int}{seed:Int}(hs:xC s) (h0:0<=seed) (h1:seed<=1073741824):Ok (mX s seed) λr=>∃key,r=(mkB s seed,key,0,())/\W16 key:=by
 obtain⟨hs1,hs4,hsz⟩:=id hs;unfold mX;delta dM
 try dsimp only
 refine Ok.bind (P:=λr=>r=(s,seed,false,(),0,())) ?_ ?_
 ·refine (HD (by omega)).bind ?_;rintro⟨v,_⟩ hv;have hv:v=true:=hv.2 hs;subst hv;simp only[oNT,oCF]
  (with_reducible refine dG (λhcb=>?_) λhcb=>?_)
  ·omega
  ·exact Ok.ret (by rw[oDF (by omega)])
 rintro _ rfl;dsimp only;refine Ok.cond (λh=>by cases h) λ_=>?_;rw[dN];simp only[oBS];refine dH (by unfold qw;rw[oBA];exact⟨oDT rfl,oDT (by omega)⟩) ?_;refine dH (by rw[bne_iff_ne];omega) ?_;have hd1:Int.tdiv seed s.length=seed / s.length:=Int.tdiv_eq_ediv_of_nonneg h0;have hq:0<=seed / (s.length:Int)/\seed / (s.length:Int)<=seed:=⟨Int.ediv_nonneg h0 (by omega),Int.ediv_le_self _ h0⟩;have hm1:Int.tmod (seed / (s.length:Int)) 50=seed / (s.length:Int) % 50:=Int.tmod_eq_emod_of_nonneg hq.1
 have hm2:0<=seed / (s.length:Int) % 50/\seed / (s.length:Int) % 50 < 50:=by omega
 rw[hd1,dQ (x:=seed / (s.length:Int)) (by omega) (by omega),hm1,dQ (x:=1+seed / (s.length:Int) % 50) (by omega) (by omega)]
 have hkey:W16 (wk .u16 (w64 (40503*seed))):=by
  unfold wk;rw[zx];exact⟨by omega,by omega⟩
 generalize wk .u16 (w64 (40503*seed))=key at hkey
 refine Ok.loop (P:=λs'=>∃k:Nat,s'=(s,seed,(s.length:Int),(qM s seed k).2,(s.length:Int),(k:Int),(),0,(qM s seed k).1,key,())/\k<=s.length) (R:=λr=>∃a b c d e f g h,r=(a,b,c,d,e,f,g,(),h,(qM s seed s.length).1,key,()))
  (m:=λs'=>(s'.2.2.2.2.1 - s'.2.2.2.2.2.1).toNat) ⟨0,rfl,by omega⟩ (by unfold NN;dsimp only;omega) ?_ ?_
 ·rintro _ ⟨k,rfl,hk⟩;unfold pd;dsimp only;have hb:=MI hs h0 k
  (with_reducible refine dG (λhcc=>?_) λhcc=>?_)
  ·have hr:=LB (k:=k) (seed:=seed) hs1;rw[dQ (x:=(k:Int)+seed) (by omega) (by omega)];refine dH (by rw[bne_iff_ne];omega) ?_;rw[Int.tmod_eq_emod_of_nonneg (show 0<=(k:Int)+seed by omega)];refine Ok.nat hr.1 λr hrr=>?_;have hl:=KP s seed k;refine Ok.get (by omega) λx hx=>?_;refine Ok.get (by omega) λy hy=>?_;refine Ok.nat hr.1 λr2 hrr2=>?_
   have:r2=r:=by omega
   subst this;refine Ok.get (by omega) λz hz=>?_;have hz2:=hsz z (dP hz);rw[dQ (x:=z+1) (by omega) (by omega),dQ (x:=50*(s.length:Int)) (by omega) (by omega)];refine dH (by rw[bne_iff_ne];omega) ?_;have hd2:Int.tdiv seed (50*(s.length:Int))=seed / (50*s.length):=Int.tdiv_eq_ediv_of_nonneg h0;have hq2:0<=seed / (50*(s.length:Int))/\seed / (50*(s.length:Int))<=seed:=⟨Int.ediv_nonneg h0 (by omega),Int.ediv_le_self _ h0⟩;have hm3:Int.tmod (seed / (50*(s.length:Int))) 40=seed / (50*s.length) % 40:=Int.tmod_eq_emod_of_nonneg hq2.1;rw[hd2,dQ (x:=seed / (50*(s.length:Int))) (by omega) (by omega),hm3];generalize hg:seed / (50*(s.length:Int)) % 40=g
   have hg2:0<=g/\g < 40:=by omega
   rw[dQ (x:=z+1+g) (by omega) (by omega),dQ (x:=(qM s seed k).2+(z+1+g)) (by omega) (by omega),dQ (x:=(k:Int)+1) (by omega) (by omega),ze]
   have e1:(qM s seed (k+1)).1=(qM s seed k).1.set r2 (qM s seed k).2:=by
    simp only[qM];rw[hrr];rfl
   have e2:(qM s seed (k+1)).2=(qM s seed k).2+(z+1+g):=by
    simp only[qM];rw[hrr,hg,oTN,oGD,hz];rfl
   refine Ok.ret ⟨⟨k+1,?_,by omega⟩,by dsimp only;omega⟩;rw[e1,e2];rfl
  ·have:k=s.length:=by omega
   subst this;exact Ok.ret ⟨_,_,_,_,_,_,_,_,rfl⟩
 ·rintro _ ⟨a,b,c,d,e,f,g,h,rfl⟩;exact Ok.ret ⟨key,rfl,hkey⟩
theorem l8{S T:Type}{f:S->Option (S⊕T)}(st:Nat->S) {n N:Nat}{t:T}(hn:n < N) (h:∀i,i < n->Ok (f (st i)) (·=.inl (st (i+1)))) (he:Ok (f (st n)) (·=.inr t)):dU f N (st 0)=some t:=by
 have key:∀k i,i+k=n->∀N,k < N->dU f N (st i)=some t:=by
  intro k
  induction k with
  | zero=>
   intro i hi N hN;obtain⟨x,e,hx⟩:=he
   have:i=n:=by omega
   subst this;obtain⟨N',rfl⟩:∃N',N=N'+1:=⟨N - 1,by omega⟩;simp only[dU,e,hx,oBS]
  | succ k ih=>
   intro i hi N hN;obtain⟨x,e,hx⟩:=h i (by omega);obtain⟨N',rfl⟩:∃N',N=N'+1:=⟨N - 1,by omega⟩;simp only[dU,e,hx,oBS];exact ih (i+1) (by omega) N' (by omega)
 exact key n 0 (by omega) N hn
theorem eO{α:Type}{o:Option α}{a:α}(h:Ok o (·=a)):o=some a:=by
 obtain⟨x,e,rfl⟩:=h;exact e
theorem eG{l:List Int}{k:Nat}{x:Int}(h:l[k]?=some x):l.getD k 0=x:=by rw[oGD,h];rfl
theorem yP{s:List Int}(h:xC s):gF s=some (true,()):=by
 obtain⟨⟨v,u⟩,e,hv⟩:=HD (s:=s) (by have:=h.2.1;omega);have hv:v=true:=hv.2 h;rw[e,hv]
theorem qa{bs ss:List Int}{key:Int}(h:LV bs ss):gD bs key ss=some (true,()):=by
 obtain⟨hs,hl,hr⟩:=h;have h4:=hs.2.1;unfold gD;rw[yP hs];delta dM;simp only[oBS,oNT,oCF,hl,bne_self_eq_false]
 have e:dU i4 NN (ss,bs,(ss.length:Int),0,bs,key,())=some (.inr (ss,bs,(ss.length:Int),(ss.length:Int),false,bs,key,())):=by
  refine l8 (st:=λi=>(ss,bs,(ss.length:Int),(i:Int),bs,key,())) (n:=ss.length) (by unfold NN;omega) ?_ ?_
  ·intro i hi;unfold i4;dsimp only;have hri:=hr i (by omega);unfold vi at hri
   (with_reducible refine dG (λhca=>?_) λhca=>?_)
   ·rw[dN];simp only[oBS];refine Ok.get (by omega) λb hb=>?_;rw[eG hb] at hri
    (with_reducible refine dG (λhcb=>?_) λhcb=>?_)
    ·omega
    ·refine Ok.get (by omega) λz hz=>?_;rw[eG hz] at hri;have hz2:=hs.2.2 z (dP hz)
     (simp (disch:=omega) only [dQ,dZ,dV,dW])
     (with_reducible refine dG (λhcc=>?_) λhcc=>?_)
     ·omega
     ·refine dH (by unfold jo;simp;omega) ?_
      have hwl:(nu bs 0 (Nat.sub i 0)).length=i:=by unfold nu;rw[oLT,List.drop_zero];show min i _=i;omega
      rw[hwl]
      have e:dU i5 NN (ss,(i:Int),b,bs,(ss.length:Int),(i:Int),nu bs 0 (Nat.sub i 0),(i:Int),0,bs,key,())=some (.inr (ss,(i:Int),b,bs,(ss.length:Int),(i:Int),nu bs 0 (Nat.sub i 0),(i:Int),(i:Int),false,bs,key,())):=by
       refine l8 (st:=λj=>(ss,(i:Int),b,bs,(ss.length:Int),(i:Int),nu bs 0 (Nat.sub i 0),(i:Int),(j:Int),bs,key,())) (n:=i) (by unfold NN;omega) ?_ ?_
       ·intro j hj;unfold i5;dsimp only
        (with_reducible refine dG (λhca=>?_) λhca=>?_)
        ·rw[dN,dN];simp only[oBS]
         have hx:(dK (nu bs 0 (Nat.sub i 0)) j)=bs[j]?:=by
          unfold dK nu;rw[List.getElem?_take,List.drop_zero];exact oIP hj
         rw[hx];obtain⟨c,hc⟩:∃c,bs[j]?=some c:=⟨_,oGE (by omega)⟩;obtain⟨y,hy⟩:∃y,ss[j]?=some y:=⟨_,oGE (by omega)⟩;have hy2:=hs.2.2 y (dP hy);have hz':dK ss i=some z:=hz;have hy':dK ss j=some y:=hy;rw[hc,hz',hy'];simp only[oBS];have hrj:=(hr j (by omega)).1;have hrj2:=(hr j (by omega)).2.1;rw[eG hc] at hrj hrj2;rw[eG hy] at hrj2;have hap:=hri.2.2 j hj;rw[eG hc,eG hy] at hap;rw[dQ (x:=b+z) (by omega) (by omega),dQ (x:=c+y) (by omega) (by omega)];by_cases h1:b+z>=c
         ·have h2:¬ c+y>=b:=by omega
          simp only[h1,h2,decide_true,decide_false,oCT,oCF]
          (simp (disch:=omega) only [dQ,dZ,dV,dW])
          exact Ok.ret rfl
         ·simp only[h1,decide_false,oCF]
          (simp (disch:=omega) only [dQ,dZ,dV,dW])
          exact Ok.ret rfl
        ·omega
       ·unfold i5;dsimp only
        (with_reducible refine dG (λhca=>?_) λhca=>?_)
        ·omega
        ·exact Ok.ret rfl
      rw[e]
      (simp (disch:=omega) only [dQ,dZ,dV,dW])
      exact Ok.ret rfl
   ·omega
  ·unfold i4;dsimp only
   (with_reducible refine dG (λhca=>?_) λhca=>?_)
   ·omega
   ·exact Ok.ret rfl
 rw[e]
theorem Jf{n m o a b c i:Int}(h:g7 n m (o,a,b,c,i)) (hn:n<=4) (hm:m<=64):lE o a b c i=some (true,()):=by
 obtain⟨⟨o0,o1⟩,⟨a0,a1,a2⟩,⟨b0,b1,b2⟩,⟨c0,c1,c2⟩,⟨i0,i1,i2⟩,hl,hs,hj⟩:=h;dsimp only at *
 have step:∀(k:Nat) (x:Int) (u:Bool),k < 3->[a,b,c][k]?=some x->(k=0->u=nV o)->(k=1->u=nU o)->(k=2->u=nT o)->0<=x->x < 8->(u=false->x=0) ->
  Ok (iZ (3,(k:Int),o,a,b,c,i,nV o,nU o,nT o,nS o,[a,b,c],())) (·=.inl (3,((k+1:Nat):Int),o,a,b,c,i,nV o,nU o,nT o,nS o,[a,b,c],())):=by
  intro k x u hk hx h0 h1 h2 hx0 hx1 hx2;unfold iZ;dsimp only
  (with_reducible refine dG (λhca=>?_) λhca=>?_)
  ·rw[dN];simp only[oBS];rw[show dK [a,b,c] k=some x from hx];simp only[oBS];rw[oDF (show ¬ x < 0 by omega),oDF (show ¬ x>=8 by omega)];simp only[oCF];have fin:Ok (some ((3:Int),(k:Int),false,o,a,b,c,i,nV o,nU o,nT o,nS o,[a,b,c],())) (·=((3:Int),(k:Int),false,o,a,b,c,i,nV o,nU o,nT o,nS o,[a,b,c],())):=Ok.ret rfl
   have fin2:u=false->(x != 0)=false:=λh=>by rw[hx2 h];rfl
   refine Ok.bind (P:=(·=((3:Int),(k:Int),false,o,a,b,c,i,nV o,nU o,nT o,nS o,[a,b,c],()))) ?_ ?_
   ·rcases (show k=0\/k=1\/k=2 by omega) with rfl | rfl | rfl
    ·rw[<- h0 rfl] at fin ⊢;refine dH rfl ?_;refine Ok.cond (λhu=>?_) λ_=>fin;rw[fin2 (by simpa using hu)];exact fin
    ·rw[<- h1 rfl] at fin ⊢;refine Ok.cond (λhu=>by cases hu) λ_=>dH rfl (Ok.cond (λhu=>?_) λ_=>fin);rw[fin2 (by simpa using hu)];exact fin
    ·rw[<- h2 rfl] at fin ⊢;refine Ok.cond (λhu=>by cases hu) λ_=>Ok.cond (λhu=>by cases hu) λ_=>dH rfl (Ok.cond (λhu=>?_) λ_=>fin);rw[fin2 (by simpa using hu)];exact fin
   ·rintro _ rfl;dsimp only;rw[dQ (x:=(k:Int)+1) (by omega) (by omega)];exact Ok.ret rfl
  ·omega
 have e:dU iZ NN (3,0,o,a,b,c,i,nV o,nU o,nT o,nS o,[a,b,c],())=some (.inr (3,3,false,o,a,b,c,i,nV o,nU o,nT o,nS o,[a,b,c],())):=by
  refine l8 (st:=λk=>(3,(k:Int),o,a,b,c,i,nV o,nU o,nT o,nS o,[a,b,c],())) (n:=3) (by unfold NN;omega) ?_ ?_
  ·intro k hk;rcases (show k=0\/k=1\/k=2 by omega) with rfl | rfl | rfl
   ·exact step 0 a _ (by omega) rfl (λ_=>rfl) (by omega) (by omega) a0 a1 a2
   ·exact step 1 b _ (by omega) rfl (by omega) (λ_=>rfl) (by omega) b0 b1 b2
   ·exact step 2 c _ (by omega) rfl (by omega) (by omega) (λ_=>rfl) c0 c1 c2
  ·exact Ok.ret rfl
 refine eO ?_;unfold lE;rw[oDF (show ¬ o < 0 by omega),oDF (show ¬ o > 24 by omega),HE o0 o1];simp only[oCF,oBS];rw[show dM [a,b,c].length=3 from rfl,e];dsimp only;rw[oDF (show ¬ i < 0 by omega),oDF (show ¬ i > 65535 by omega)];simp only[oCF];refine Ok.bind (P:=(·=(false,o,a,b,c,i,()))) ?_ ?_
 ·refine Ok.cond (λhu=>?_) λ_=>Ok.ret rfl;exact Ok.ret (by rw[i2 (by simpa using hu)];rfl)
 rintro _ rfl;dsimp only;rw[wB];simp only[oCF,oBS];refine Ok.cond (λhu=>?_) λ_=>?_
 ·exact Ok.ret (by rw[oDT (by have:=hj hu;omega)])
 ·(with_reducible refine dG (λhcc=>?_) λhcc=>?_)
  ·exact Ok.ret (by rw[oDT (by have:=hl hcc;omega)])
  ·(with_reducible refine dG (λhcd=>?_) λhcd=>?_)
   ·exact Ok.ret (by rw[oDT (by have:=hs hcd;omega)])
   ·exact Ok.ret rfl
theorem Bo{code:List DIn}{s:List Int}{d:List (List Int)}(h:j9 code s d):ix code s d=some (0,()):=by
 have hs:=h.sz;have hs4:=hs.2.1;have hc:=h.clen;have hl:=h.len
 have e0:dU iY NN (d,(d.length:Int),0,code,s,d,())=some (.inr (d,(d.length:Int),(d.length:Int),false,code,s,d,())):=by
  refine l8 (st:=λk=>(d,(d.length:Int),(k:Int),code,s,d,())) (n:=d.length) (by unfold NN;omega) ?_ ?_
  ·intro k hk;unfold iY;dsimp only
   (with_reducible refine dG (λhca=>?_) λhca=>?_)
   ·rw[dN];delta dM;simp only[oBS];refine Ok.get (by omega) λx hx=>?_;refine Ok.get (by omega) λy hy=>?_;have:=h.fit k x y hx hy
    (with_reducible refine dG (λhcb=>?_) λhcb=>?_)
    ·omega
    ·(simp (disch:=omega) only [dQ,dZ,dV,dW])
     exact Ok.ret rfl
   ·omega
  ·unfold iY;dsimp only
   (with_reducible refine dG (λhca=>?_) λhca=>?_)
   ·omega
   ·exact Ok.ret rfl
 have e1:dU iX NN (code,(code.length:Int),0,code,s,d,())=some (.inr (code,(code.length:Int),(code.length:Int),false,code,s,d,())):=by
  refine l8 (st:=λk=>(code,(code.length:Int),(k:Int),code,s,d,())) (n:=code.length) (by unfold NN;omega) ?_ ?_
  ·intro k hk;unfold iX;dsimp only
   (with_reducible refine dG (λhca=>?_) λhca=>?_)
   ·rw[dN];simp only[oBS];refine Ok.get (by omega) λx hx=>?_;obtain⟨o,a,b,c,i⟩:=x;rw[Jf (h.ins _ (dP hx)) (by omega) (by omega)];simp only[oBS,oNT,oCF]
    (simp (disch:=omega) only [dQ,dZ,dV,dW])
    exact Ok.ret rfl
   ·omega
  ·unfold iX;dsimp only
   (with_reducible refine dG (λhca=>?_) λhca=>?_)
   ·omega
   ·exact Ok.ret rfl
 have e3:dU iW NN (code,(code.length:Int),0,code,s,d,())=some (.inr (code,(code.length:Int),(code.length:Int),false,code,s,d,())):=by
  refine l8 (st:=λk=>(code,(code.length:Int),(k:Int),code,s,d,())) (n:=code.length) (by unfold NN;omega) ?_ ?_
  ·intro k hk;unfold iW;dsimp only
   (with_reducible refine dG (λhca=>?_) λhca=>?_)
   ·rw[dN];simp only[oBS];refine Ok.get (by omega) λx hx=>?_;have hp:=h.ins x (dP hx);rw[wB];simp only[oBS];refine Ok.bind (P:=(·=(code,(code.length:Int),(k:Int),false,code,s,d,()))) ?_ ?_
    ·refine Ok.cond (λhj=>?_) λ_=>?_
     ·have:=hp.jmp hj
      (with_reducible refine dG (λhcb=>?_) λhcb=>?_)
      ·have hcb:x.2.2.2.2>=(code.length:Int):=hcb;omega
      ·(with_reducible refine dG (λhcc=>?_) λhcc=>?_)
       ·exact Ok.ret (by rw[oDF (show ¬ x.2.2.2.2>=dM s.length by rw[dW];have:=hp.lea hcc;omega)])
       ·exact Ok.ret rfl
     ·(with_reducible refine dG (λhcc=>?_) λhcc=>?_)
      ·exact Ok.ret (by rw[oDF (show ¬ x.2.2.2.2>=dM s.length by rw[dW];have:=hp.lea hcc;omega)])
      ·exact Ok.ret rfl
    ·rintro _ rfl;dsimp only;simp only[oCF]
     (simp (disch:=omega) only [dQ,dZ,dV,dW])
     exact Ok.ret rfl
   ·omega
  ·unfold iW;dsimp only
   (with_reducible refine dG (λhca=>?_) λhca=>?_)
   ·omega
   ·exact Ok.ret rfl
 refine eO ?_;unfold ix;rw[yP hs];delta dM;simp only[oBS,oNT,oCF,hl,bne_self_eq_false];rw[hl] at e0;rw[e0];dsimp only
 (with_reducible refine dG (λhca=>?_) λhca=>?_)
 ·omega
 ·(with_reducible refine dG (λhcb=>?_) λhcb=>?_)
  ·omega
  ·rw[e1];dsimp only;rw[e3];exact Ok.ret rfl
def RK(bs ss:List Int) (a:Int):Prop:=∃(j:Nat) (b z:Int),bs[j]?=some b/\ss[j]?=some z/\b<=a/\a < b+z
def mH(K:Int->Prop) (c:DCe):Prop:=0<=c.1/\c.1<=2/\0<=c.2/\c.2<=65535/\(c.1=1->K c.2)
theorem mH.mono{K K':Int->Prop}{c:DCe}(h:mH K c) (hk:∀a,K a->K' a):mH K' c:=⟨h.1,h.2.1,h.2.2.1,h.2.2.2.1,λe=>hk _ (h.2.2.2.2 e)⟩
theorem la{K:Int->Prop}{v:Int}(h:0<=v/\v<=65535):mH K (0,v):=⟨by dsimp only;omega,by dsimp only;omega,h.1,h.2,λe=>absurd (show (0:Int)=1 from e) (by decide)⟩
def N8(K:Int->Prop) (i:Nat) (x:DLn):Prop:=(x.1=-1/\x.2.1=false/\x.2.2=[])\/(0<=x.1/\x.1 < 128/\x.1 % 4=i/\x.2.2.length=4/\∀c∈x.2.2,mH K c)
def On(cs:List DCe) (x:DLn):Prop:=x.1=-1\/x.2.1=true\/∀o:Nat,o < 4->cs[(x.1*4).toNat+o]?=x.2.2[o]?
structure jp (K:Int->Prop) (cs:List DCe) (ls:List DLn):Prop where
 clen:cs.length=512
 cells:∀c∈cs,mH K c
 llen:ls.length=4
 lines:∀(i:Nat) x,ls[i]?=some x->N8 K i x
 coh:∀(i:Nat) x,ls[i]?=some x->On cs x
structure xB (K:Int->Prop) (n:Int) (t:DTh):Prop where
 state:0<=t.1/\t.1<=4
 len:t.2.1.length=8
 regs:∀c∈t.2.1,mH K c
 pc:0<=t.2.2.1/\t.2.2.1<=255
 count:0<=t.2.2.2.1/\t.2.2.2.1<=n
 handler:-1<=t.2.2.2.2.1/\t.2.2.2.2.1<=255
 saved:-1<=t.2.2.2.2.2.1/\t.2.2.2.2.2.1<=255
 trap:0<=t.2.2.2.2.2.2.1/\t.2.2.2.2.2.2.1<=6
 code:W16 t.2.2.2.2.2.2.2
structure MOk (n:Int) (ss bs:List Int) (cs:List DCe) (ls:List DLn) (ts:List DTh):Prop where
 lay:LV bs ss
 mem:jp (RK bs ss) cs ls
 tlen:ts.length=4
 thr:∀t∈ts,xB (RK bs ss) n t
theorem FW{K:Int->Prop}{l:List DCe}(hl:l.length<=1000) (h:∀c∈l,mH K c):mh l=some (true,()):=by
 have e:dU kC NN (l,(l.length:Int),0,())=some (.inr (l,(l.length:Int),(l.length:Int),false,())):=by
  refine l8 (st:=λk=>(l,(l.length:Int),(k:Int),())) (n:=l.length) (by unfold NN;omega) ?_ ?_
  ·intro k hk;unfold kC;dsimp only
   (with_reducible refine dG (λhca=>?_) λhca=>?_)
   ·rw[dN];simp only[oBS];refine Ok.get (by omega) λx hx=>?_;have:=h x (dP hx);unfold jO;rw[oDT (show x.1<=2 from this.2.1)];simp only[oBS,oNT,oCF]
    (simp (disch:=omega) only [dQ,dZ,dV,dW])
    exact Ok.ret rfl
   ·omega
  ·unfold kC;dsimp only
   (with_reducible refine dG (λhca=>?_) λhca=>?_)
   ·omega
   ·exact Ok.ret rfl
 refine eO ?_;unfold mh;delta dM
 try dsimp only
 rw[e];exact Ok.ret rfl
theorem F7{K:Int->Prop}{cs:List DCe}{ls:List DLn}(h:jp K cs ls):lF cs ls=some (true,()):=by
 obtain⟨h1,h2,h3,h4,_⟩:=h
 have e:dU i3 NN (ls,4,0,cs,ls,())=some (.inr (ls,4,4,false,cs,ls,())):=by
  refine l8 (st:=λk=>(ls,4,(k:Int),cs,ls,())) (n:=4) (by unfold NN;omega) ?_ ?_
  ·intro k hk;unfold i3;dsimp only
   (with_reducible refine dG (λhca=>?_) λhca=>?_)
   ·rw[dN];simp only[oBS];refine Ok.get (by omega) λx hx=>?_;rcases h4 k x hx with ⟨e1,e2,e3⟩ | ⟨g1,g2,g3,g4,g5⟩
    ·rw[e1,e2,e3];simp only[beq_self_eq_true,oCT,oCF]
     (simp (disch:=omega) only [dQ,dZ,dV,dW])
     exact Ok.ret rfl
    ·rw[show (x.1==-1)=false by rw[beq_eq_false_iff_ne];omega,oDF (show ¬ x.1 < 0 by omega),oDF (show ¬ x.1>=128 by omega),Int.tmod_eq_emod_of_nonneg g1,g3,g4,FW (by omega) g5];simp only[oCF,bne_self_eq_false,oBS,oNT];refine Ok.bind (P:=(·=(ls,4,(k:Int),false,cs,ls,()))) ?_ ?_
     ·refine Ok.cond (λh=>by cases h) λ_=>Ok.ret rfl
     ·rintro _ rfl;dsimp only;simp only[oCF]
      (simp (disch:=omega) only [dQ,dZ,dV,dW])
      exact Ok.ret rfl
   ·omega
  ·unfold i3;exact Ok.ret rfl
 refine eO ?_;unfold lF;delta dM;simp only[h1,h3,FW (show cs.length<=1000 by omega) h2,oBS,oNT];refine Ok.bind (P:=(·=(false,cs,ls,()))) ?_ ?_
 ·exact Ok.ret rfl
 ·rintro _ rfl;dsimp only;simp only[oCF];rw[h3,show ((4:Nat):Int)=4 from rfl,e];exact Ok.ret rfl
theorem F6{K:Int->Prop}{t:DTh}(h:xB K 1099511627776 t):lB t.1 t.2.1 t.2.2.1 t.2.2.2.1 t.2.2.2.2.1 t.2.2.2.2.2.1 t.2.2.2.2.2.2.1 t.2.2.2.2.2.2.2=some (true,()):=by
 obtain⟨⟨a1,a2⟩,hl,hr,⟨b1,b2⟩,⟨c1,c2⟩,⟨d1,d2⟩,⟨e1,e2⟩,⟨f1,f2⟩,_⟩:=h;obtain⟨s,rs,pc,ct,ha,sa,tr,co⟩:=t;dsimp only at *
 have e:dU iV NN (rs,(rs.length:Int),0,s,rs,pc,ct,ha,sa,tr,co,())=some (.inr (rs,(rs.length:Int),(rs.length:Int),false,s,rs,pc,ct,ha,sa,tr,co,())):=by
  refine l8 (st:=λk=>(rs,(rs.length:Int),(k:Int),s,rs,pc,ct,ha,sa,tr,co,())) (n:=rs.length) (by unfold NN;omega) ?_ ?_
  ·intro k hk;unfold iV;dsimp only
   (with_reducible refine dG (λhca=>?_) λhca=>?_)
   ·rw[dN];simp only[oBS];refine Ok.get (by omega) λx hx=>?_;have:=hr x (dP hx);unfold jO;rw[oDT (show x.1<=2 from this.2.1)];simp only[oBS,oNT,oCF]
    (simp (disch:=omega) only [dQ,dZ,dV,dW])
    exact Ok.ret rfl
   ·omega
  ·unfold iV;dsimp only
   (with_reducible refine dG (λhca=>?_) λhca=>?_)
   ·omega
   ·exact Ok.ret rfl
 refine eO ?_;unfold lB;delta dM
 try dsimp only
 rw[e];dsimp only;rw[hl];refine dH (oDT a1) (dH (oDT a2) (dH rfl (dH (oDT b1) (dH (oDT b2) (dH (oDT c1) (dH (oDT c2) (dH (oDT d1) (dH (oDT d2) (dH (oDT e1) (dH (oDT e2) (dH (oDT f1) ?_)))))))))));exact Ok.ret (by rw[oDT f2])
theorem tg{code:List DIn}{ss bs:List Int}{d:List (List Int)}{n key:Int}{cs:List DCe}{ls:List DLn}{ts:List DTh}(hp:j9 code ss d) (h:MOk n ss bs cs ls ts) (hn:n<=1099511627776):iw code ss d bs key cs ls ts=some (true,()):=by
 obtain⟨h1,h2,h3,h4⟩:=h
 have e:dU li NN (ts,4,0,bs,key,cs,ls,ts,())=some (.inr (ts,4,4,false,bs,key,cs,ls,ts,())):=by
  refine l8 (st:=λk=>(ts,4,(k:Int),bs,key,cs,ls,ts,())) (n:=4) (by unfold NN;omega) ?_ ?_
  ·intro k hk;unfold li;dsimp only
   (with_reducible refine dG (λhca=>?_) λhca=>?_)
   ·rw[dN];simp only[oBS];refine Ok.get (by omega) λx hx=>?_;have ht:=h4 x (dP hx);rw[F6 ⟨ht.state,ht.len,ht.regs,ht.pc,⟨ht.count.1,by have:=ht.count.2;omega⟩,ht.handler,ht.saved,ht.trap,ht.code⟩];simp only[oBS,oNT,oCF]
    (simp (disch:=omega) only [dQ,dZ,dV,dW])
    exact Ok.ret rfl
   ·omega
  ·exact Ok.ret rfl
 refine eO ?_;unfold iw;rw[Bo hp,qa h1,F7 h2];delta dM;simp only[oBS,oNT,oCF,bne_self_eq_false,h3];refine Ok.cond (λh=>by cases h) λ_=>?_;rw[show ((4:Nat):Int)=4 from rfl,e];exact Ok.ret rfl
def eX:List DLn:=[(-1,false,[]),(-1,false,[]),(-1,false,[]),(-1,false,[])]
theorem FJ:lG=some (eX,()):=by kernel_rfl
theorem Dq{K:Int->Prop}{cs:List DCe}(h:cs.length=512) (hc:∀c∈cs,mH K c):jp K cs eX:=by
 have key:∀(i:Nat) x,eX[i]?=some x->x=(-1,false,[]):=λi x hx=>by
  have:=dP hx;simp only[eX,List.mem_cons,List.not_mem_nil,or_false,or_self] at this;exact this
 exact⟨h,hc,rfl,λi x hx=>by rw[key i x hx];exact .inl ⟨rfl,rfl,rfl⟩,λi x hx=>by rw[key i x hx];exact .inl rfl⟩
theorem iA{α:Type}{P:α->Prop}{l:List α}{i:Nat}{f:α->α}(h:∀x∈l,P x) (hf:∀x,P x->P (f x)):∀x∈List.modify l i f,P x:=by
 intro x hx;obtain⟨j,hj⟩:=List.getElem?_of_mem hx;rw[List.getElem?_modify] at hj
 cases hl:l[j]? with
 | none=>rw[hl] at hj;cases hj
 | some y=>
  rw[hl] at hj;have hy:=h y (dP hl)
  injection hj with hj
  subst hj;split
  ·exact hf y hy
  ·exact hy
theorem MN{code:List DIn}{ss bs:List Int}{d:List (List Int)}{key:Int}(hp:j9 code ss d) (hl:LV bs ss):Ok (mU code ss d bs key) λr=>∃cs,r=(cs,eX,0,())/\cs.length=512/\∀c∈cs,mH (λ_=>False) c:=by
 unfold mU;rw[qa hl,FJ];delta dM;simp only[oBS,oNT,oCF,hp.len,bne_self_eq_false];refine dH (by decide) ?_
 obtain⟨t,e,ht⟩:=fH (f:=mi) (n:=NN) (s:=(d,(ss.length:Int),0,code,ss,d,bs,key,(),(),List.replicate 512 (0,0),eX,()))
  (P:=λs'=>∃k:Nat,∃cs,s'=(d,(ss.length:Int),(k:Int),code,ss,d,bs,key,(),(),cs,eX,())/\k<=ss.length/\cs.length=512/\∀c∈cs,mH (λ_=>False) c)
  (R:=λr=>∃a b c e cs,r=.inr (a,b,c,e,code,ss,d,bs,key,(),(),cs,eX,())/\cs.length=512/\∀c∈cs,mH (λ_=>False) c) (m:=λs'=>(s'.2.1 - s'.2.2.1).toNat)
  ⟨0,_,rfl,by omega,List.length_replicate,λc hc=>by rw[List.eq_of_mem_replicate hc];exact la (by decide)⟩ (by unfold NN;dsimp only;have:=hp.sz.2.1;omega) (by
   rintro _ ⟨k,cs,rfl,hk,hc1,hc2⟩;unfold mi;dsimp only;have hlen:=hp.len;have hs4:=hp.sz.2.1
   (with_reducible refine dG (λhca=>?_) λhca=>?_)
   ·rw[dN];delta dM;simp only[oBS];refine Ok.get (by omega) λx hx=>?_;refine Ok.get (by omega) λy hy=>?_;have hf:=hp.fit k x y hx hy;have hy2:=hp.sz.2.2 y (dP hy);have hnum:=hp.num x (dP hx);obtain⟨_,hbl,hr⟩:=hl;have hrk:=hr k (by omega);unfold vi at hrk;obtain⟨b,hb⟩:∃b,bs[k]?=some b:=⟨_,oGE (by omega)⟩;rw[eG hb,eG hy] at hrk
    (with_reducible refine dG (λhcb=>?_) λhcb=>?_)
    ·omega
    ·refine Ok.loop (P:=λs'=>∃j:Nat,∃cs,s'=((k:Int),d,(ss.length:Int),(k:Int),x,(x.length:Int),(j:Int),code,ss,d,bs,key,(),(),cs,eX,())/\j<=x.length/\cs.length=512/\∀c∈cs,mH (λ_=>False) c)
      (R:=λr=>∃a b c e cs,r=(a,d,(ss.length:Int),(k:Int),b,c,e,false,code,ss,d,bs,key,(),(),cs,eX,())/\cs.length=512/\∀c∈cs,mH (λ_=>False) c) (m:=λs'=>(s'.2.2.2.2.2.1 - s'.2.2.2.2.2.2.1).toNat)
      ⟨0,cs,rfl,by omega,hc1,hc2⟩ (by unfold NN;dsimp only;omega) ?_ ?_
     ·rintro _ ⟨j,cs,rfl,hj,hc1,hc2⟩;unfold pb;dsimp only
      (with_reducible refine dG (λhcc=>?_) λhcc=>?_)
      ·rw[dN,dN];simp only[oBS];refine Ok.get (by omega) λv hv=>?_;have hv2:=hnum v (dP hv);rw[show dK bs k=some b from hb];simp only[oBS]
       (simp (disch:=omega) only [dQ,dZ,dV,dW])
       refine Ok.nat (by omega) λa ha=>?_;refine Ok.get (by omega) λc hc=>?_;refine Ok.get (by omega) λc' hc'=>?_;exact Ok.ret ⟨⟨j+1,_,rfl,by omega,by rw[oLM];exact hc1,iA hc2 λz hz=>⟨hz.1,hz.2.1,hv2.1,hv2.2,hz.2.2.2.2⟩⟩,by dsimp only;omega⟩
      ·exact Ok.ret ⟨_,_,_,_,_,rfl,hc1,hc2⟩
     ·rintro _ ⟨a,b,c,e,cs,rfl,hc1,hc2⟩;dsimp only
      (simp (disch:=omega) only [dQ,dZ,dV,dW])
      exact Ok.ret ⟨⟨k+1,_,rfl,by omega,hc1,hc2⟩,by dsimp only;omega⟩
   ·exact Ok.ret ⟨_,_,_,_,_,rfl,hc1,hc2⟩)
 rw[e];obtain⟨a,b,c,e,cs,rfl,hc1,hc2⟩:=ht;exact Ok.ret ⟨cs,rfl,hc1,hc2⟩
theorem Np{K:Int->Prop}:∀c∈List.replicate 8 ((0:Int),(0:Int)),mH K c:=λc hc=>by rw[List.eq_of_mem_replicate hc];exact la (by decide)
theorem LW{K:Int->Prop}{s:Int}(h:0<=s/\s<=4):xB K 0 (s,List.replicate 8 (0,0),0,0,-1,-1,0,0):=
 ⟨h,rfl,Np,⟨by dsimp only;omega,by dsimp only;omega⟩,⟨by dsimp only;omega,by dsimp only;omega⟩,⟨by dsimp only;omega,by dsimp only;omega⟩,⟨by dsimp only;omega,by dsimp only;omega⟩,⟨by dsimp only;omega,by dsimp only;omega⟩,⟨by dsimp only;omega,by dsimp only;omega⟩⟩
theorem J4{code:List DIn}{ss bs:List Int}{d:List (List Int)}{key:Int}(hp:j9 code ss d) (hl:LV bs ss):Ok (lD code ss d bs key) λr=>∃cs ts,r=(bs,key,cs,eX,ts,0,())/\MOk 0 ss bs cs eX ts:=by
 unfold lD;rw[Bo hp,qa hl];simp only[oBS,oNT,oCF,bne_self_eq_false];refine (MN hp hl).bind ?_;rintro _ ⟨cs,rfl,hc1,hc2⟩;dsimp only;have hbl:=hl.2.1;have hs4:=hp.sz.2.1;refine dH (dT (by omega)) ?_;rw[show List.append [] bs=bs from rfl]
 refine Ok.loop (P:=λs'=>∃k:Nat,∃ts,s'=((k:Int),(),0,(),(),(),bs,key,cs,eX,ts,())/\k<=4/\ts.length=k/\∀t∈ts,xB (RK bs ss) 0 t)
  (R:=λr=>∃a b ts,r=(a,b,(),0,(),(),(),bs,key,cs,eX,ts,())/\ts.length=4/\∀t∈ts,xB (RK bs ss) 0 t) (m:=λs'=>(4 - s'.1).toNat) ⟨0,[],rfl,by omega,rfl,ee⟩ (by unfold NN;dsimp only;omega) ?_ ?_
 ·rintro _ ⟨k,ts,rfl,hk,ht1,ht2⟩;unfold oR;dsimp only
  (with_reducible refine dG (λhca=>?_) λhca=>?_)
  ·refine dH (by decide) ?_;refine Ok.bind (P:=λr=>∃s,(0<=s/\s<=4)/\r=((k:Int),(),0,(),(),(),bs,key,cs,eX,ts,s,List.replicate 8 (0,0),0,0,-1,-1,0,0,())) ?_ ?_
   ·(with_reducible refine dG (λhcb=>?_) λhcb=>?_)
    ·exact Ok.ret ⟨1,by decide,rfl⟩
    ·exact Ok.ret ⟨0,by decide,rfl⟩
   ·rintro _ ⟨s,hs,rfl⟩;dsimp only;refine dH (dT (by simp;omega)) ?_
    (simp (disch:=omega) only [dQ,dZ,dV,dW])
    exact Ok.ret ⟨⟨k+1,_,rfl,by omega,by rw[eV,ht1];rfl,iE ht2 (all_cons (LW hs) ee)⟩,by dsimp only;omega⟩
  ·exact Ok.ret ⟨_,_,_,rfl,by omega,ht2⟩
 ·rintro _ ⟨a,b,ts,rfl,ht1,ht2⟩;exact Ok.ret ⟨cs,ts,rfl,hl,Dq hc1 λc hc=>(hc2 c hc).mono λ_ h=>h.elim,ht1,ht2⟩
def Pr(ss:List Int) (c:DCn):Prop:=
 ((c.1=0\/c.1=2)/\c.2.2.1=0/\c.2.2.2=0/\W16 c.2.1)\/(c.1=1/\c.2.1=0/\0<=c.2.2.1/\∃n,ss[c.2.2.1.toNat]?=some n/\0<=c.2.2.2/\c.2.2.2 < n)
theorem Dy{ss:List Int}{c:DCn}(hs:xC ss) (h:Pr ss c):je c.1 c.2.1 c.2.2.1 c.2.2.2=some (true,()):=by
 refine eO ?_;unfold je;rcases h with ⟨h1,h2,h3,_⟩ | ⟨h1,h2,h3,n,h4,h5,h6⟩
 ·rw[h2,h3]
  rcases h1 with h1 | h1<;>rw[h1]<;>exact Ok.ret rfl
 ·have hn:=hs.2.2 n (dP h4);have hl:=(oGS h4).1;have hs4:=hs.2.1;rw[h1,h2,show (c.2.2.1==-1)=false by rw[beq_eq_false_iff_ne];omega];refine Ok.cond (λh=>by cases h) λ_=>Ok.cond (λh=>by cases h) λ_=>dH rfl ?_;refine Ok.cond (λh=>by cases h) λ_=>dH rfl ?_;exact dH (oDT h3) (dH (oDT (by omega)) (dH (oDT h5) (Ok.ret (by rw[oDT (show c.2.2.2 < 32 by omega)]))))
theorem jk{ss:List Int}{l:List DCn}{n:Int}(hs:xC ss) (h:∀c∈l,Pr ss c) (hn:(l.length:Int)<=n) (hl:l.length<=1000):ff l n=some (true,()):=by
 have e:dU iU NN (l,n,l,(l.length:Int),0,())=some (.inr (l,n,l,(l.length:Int),(l.length:Int),false,())):=by
  refine l8 (st:=λk=>(l,n,l,(l.length:Int),(k:Int),())) (n:=l.length) (by unfold NN;omega) ?_ ?_
  ·intro k hk;unfold iU;dsimp only
   (with_reducible refine dG (λhca=>?_) λhca=>?_)
   ·rw[dN];simp only[oBS];refine Ok.get (by omega) λx hx=>?_;rw[Dy hs (h x (dP hx))];simp only[oBS,oNT,oCF]
    (simp (disch:=omega) only [dQ,dZ,dV,dW])
    exact Ok.ret rfl
   ·omega
  ·unfold iU;dsimp only
   (with_reducible refine dG (λhca=>?_) λhca=>?_)
   ·omega
   ·exact Ok.ret rfl
 refine eO ?_;unfold ff;delta dM
 try dsimp only
 rw[e];exact Ok.ret (congrArg (λb=>(b,())) (oDT hn))
def Ng(d:List (List DCn)) (o:DOp):Prop:=(o.1=-1/\o.2.1=0/\o.2.2=false)\/(0<=o.1/\∃x,d[o.1.toNat]?=some x/\0<=o.2.1/\o.2.1<=x.length)
structure ft (ss:List Int) (d:List (List DCn)) (os:List DOp):Prop where
 dlen:d.length<=4
 flen:∀x∈d,x.length<=64
 cells:∀x∈d,∀c∈x,Pr ss c
 olen:os.length=8
 opens:∀o∈os,Ng d o
theorem yM{ss:List Int}{d:List (List DCn)}{os:List DOp}(hs:xC ss) (h:ft ss d os):jA d os=some (true,()):=by
 obtain⟨h1,h2,h3,h4,h5⟩:=h
 have e0:dU iT NN (d,(d.length:Int),0,d,os,())=some (.inr (d,(d.length:Int),(d.length:Int),false,d,os,())):=by
  refine l8 (st:=λk=>(d,(d.length:Int),(k:Int),d,os,())) (n:=d.length) (by unfold NN;omega) ?_ ?_
  ·intro k hk;unfold iT;dsimp only
   (with_reducible refine dG (λhca=>?_) λhca=>?_)
   ·rw[dN];simp only[oBS];refine Ok.get (by omega) λx hx=>?_;have:=h2 x (dP hx);rw[jk hs (h3 x (dP hx)) (by omega) (by omega)];simp only[oBS,oNT,oCF]
    (simp (disch:=omega) only [dQ,dZ,dV,dW])
    exact Ok.ret rfl
   ·omega
  ·unfold iT;dsimp only
   (with_reducible refine dG (λhca=>?_) λhca=>?_)
   ·omega
   ·exact Ok.ret rfl
 have e2:dU lf NN (os,8,0,d,os,())=some (.inr (os,8,8,false,d,os,())):=by
  refine l8 (st:=λk=>(os,8,(k:Int),d,os,())) (n:=8) (by unfold NN;omega) ?_ ?_
  ·intro k hk;unfold lf;dsimp only
   (with_reducible refine dG (λhca=>?_) λhca=>?_)
   ·rw[dN];simp only[oBS];refine Ok.get (by omega) λx hx=>?_;obtain⟨f,o,w⟩:=x;refine Ok.bind (P:=(·=(os,8,(k:Int),false,d,os,f,o,w,()))) ?_ ?_
    ·rcases h5 _ (dP hx) with ⟨g1,g2,g3⟩ | ⟨g1,y,g2,g3,g4⟩
     ·have g1:f=-1:=g1;have g2:o=0:=g2;have g3:w=false:=g3;subst g1 g2 g3;dsimp only;refine dH rfl (Ok.cond (λh=>by cases h) λ_=>Ok.cond (λh=>by cases h) λ_=>Ok.cond (λh=>by cases h) λ_=>Ok.cond (λh=>?_) λ_=>Ok.cond (λh=>by cases h) λ_=>Ok.ret rfl);have h:(-1:Int)>=(d.length:Int):=of_decide_eq_true h;omega
     ·dsimp only at g1 g2 g3 g4 ⊢;have hl:=(oGS g2).1;rw[show (f==-1)=false by rw[beq_eq_false_iff_ne];omega,oDF (show ¬ f < -1 by omega)];simp only[oCF];refine Ok.cond (λh=>?_) λ_=>dH (oDT g1) ?_
      ·have h:f>=(d.length:Int):=of_decide_eq_true h;omega
      ·rw[oDF (show ¬ o < 0 by omega)];simp only[oCF];refine Ok.nat g1 λj hj=>?_;refine Ok.get (by omega) λz hz=>?_
       have hjj:j=f.toNat:=by omega
       subst hjj;rw[g2] at hz
       injection hz with hz
       subst hz;exact Ok.ret (by rw[oDF (show ¬ o > dM y.length from λh=>by rw[dW] at h;omega)])
    ·rintro _ rfl;dsimp only;simp only[oCF]
     (simp (disch:=omega) only [dQ,dZ,dV,dW])
     exact Ok.ret rfl
   ·omega
  ·exact Ok.ret rfl
 refine eO ?_;unfold jA;delta dM
 try dsimp only
 (with_reducible refine dG (λhca=>?_) λhca=>?_)
 ·omega
 ·rw[h4];refine Ok.cond (λh=>by cases h) λ_=>?_;rw[e0];dsimp only;rw[h4,show ((8:Nat):Int)=8 from rfl,e2];exact Ok.ret rfl
def Om(ss:List Int) (i:Nat) (x:DOu):Prop:=x.1=i/\0<=x.2.1/\x.2.1 < 2/\x.2.2.length<=16/\∀c∈x.2.2,Pr ss c
structure xD (ss:List Int) (ck rn:List Int) (ins:List (List Int)) (d:List (List DCn)) (os:List DOp) (us:List DOu):Prop where
 clock:ck.length<=64/\∀w∈ck,W16 w
 rand:rn.length<=64/\∀w∈rn,W16 w
 ilen:ins.length<=2
 inp:∀x∈ins,x.length<=64/\∀w∈x,W16 w
 files:ft ss d os
 ulen:us.length<=200
 outs:∀(i:Nat) x,us[i]?=some x->Om ss i x
theorem GE{ss:List Int}{us:List DOu}(hl:us.length<=200) (h:∀(i:Nat) x,us[i]?=some x->Om ss i x):jz us=some (true,()):=by
 have e:dU gX NN (us,(us.length:Int),0,())=some (.inr (us,(us.length:Int),(us.length:Int),false,())):=by
  refine l8 (st:=λk=>(us,(us.length:Int),(k:Int),())) (n:=us.length) (by unfold NN;omega) ?_ ?_
  ·intro k hk;unfold gX;dsimp only
   (with_reducible refine dG (λhca=>?_) λhca=>?_)
   ·rw[dN];simp only[oBS];refine Ok.get (by omega) λx hx=>?_;obtain⟨g1,g2,g3,g4,g5⟩:=h k x hx;rw[g1,oDF (show ¬ x.2.1 < 0 by omega),oDF (show ¬ x.2.1>=2 by omega)];simp only[bne_self_eq_false,oCF,oBS];refine Ok.cond (λh=>?_) λ_=>?_
    ·have h:(x.2.2.length:Int) > 16:=of_decide_eq_true h;omega
    ·(simp (disch:=omega) only [dQ,dZ,dV,dW])
     exact Ok.ret rfl
   ·omega
  ·unfold gX;dsimp only
   (with_reducible refine dG (λhca=>?_) λhca=>?_)
   ·omega
   ·exact Ok.ret rfl
 refine eO ?_;unfold jz;delta dM
 try dsimp only
 rw[e];exact Ok.ret rfl
theorem te{ss ck rn:List Int}{ins:List (List Int)}{d:List (List DCn)}{os:List DOp}{us:List DOu}(hs:xC ss) (h:xD ss ck rn ins d os us):iv ck rn ins d os us=some (true,()):=by
 have e0:dU iS NN (ins,(ins.length:Int),0,ck,rn,ins,d,os,us,())=some (.inr (ins,(ins.length:Int),(ins.length:Int),false,ck,rn,ins,d,os,us,())):=by
  refine l8 (st:=λk=>(ins,(ins.length:Int),(k:Int),ck,rn,ins,d,os,us,())) (n:=ins.length) (by unfold NN;have:=h.ilen;omega) ?_ ?_
  ·intro k hk;have hil:=h.ilen;unfold iS;dsimp only
   (with_reducible refine dG (λhca=>?_) λhca=>?_)
   ·rw[dN];delta dM;simp only[oBS];refine Ok.get (by omega) λx hx=>?_;have:=(h.inp x (dP hx)).1
    (with_reducible refine dG (λhcb=>?_) λhcb=>?_)
    ·omega
    ·(simp (disch:=omega) only [dQ,dZ,dV,dW])
     exact Ok.ret rfl
   ·omega
  ·unfold iS;dsimp only
   (with_reducible refine dG (λhca=>?_) λhca=>?_)
   ·omega
   ·exact Ok.ret rfl
 have e1:dU iR NN (us,(us.length:Int),0,ck,rn,ins,d,os,us,())=some (.inr (us,(us.length:Int),(us.length:Int),false,ck,rn,ins,d,os,us,())):=by
  refine l8 (st:=λk=>(us,(us.length:Int),(k:Int),ck,rn,ins,d,os,us,())) (n:=us.length) (by unfold NN;have:=h.ulen;omega) ?_ ?_
  ·intro k hk;have hul:=h.ulen;unfold iR;dsimp only
   (with_reducible refine dG (λhca=>?_) λhca=>?_)
   ·rw[dN];simp only[oBS];refine Ok.get (by omega) λx hx=>?_;obtain⟨_,_,_,g4,g5⟩:=h.outs k x hx;rw[jk hs g5 (by omega) (by omega)];simp only[oBS,oNT,oCF]
    (simp (disch:=omega) only [dQ,dZ,dV,dW])
    exact Ok.ret rfl
   ·omega
  ·unfold iR;dsimp only
   (with_reducible refine dG (λhca=>?_) λhca=>?_)
   ·omega
   ·exact Ok.ret rfl
 have c1:=h.clock.1;have c2:=h.rand.1;have c3:=h.ilen;have c4:=h.ulen;refine eO ?_;unfold iv;delta dM
 try dsimp only
 rw[e0];dsimp only;rw[e1];dsimp only;refine dH (oDT (show (ck.length:Int)<=64 by omega)) (dH (oDT (show (rn.length:Int)<=64 by omega)) (dH (oDT (show (ins.length:Int)<=2 by omega)) ?_));rw[yM hs h.files];simp only[oBS,oCT];refine dH (oDT (show (us.length:Int)<=200 by omega)) ?_;rw[GE h.ulen h.outs];exact Ok.ret rfl
def ot:List DOp:=List.replicate 8 (-1,0,false)
theorem KG(a:List (List Int)):dU qF NN (a,8,0,(),(),(),List.replicate 8 (0,(0,false)),())=some (a,8,8,false,(),(),(),ot,()):=by
 rfl
theorem KL{ss:List Int}{a:List (List Int)}(hs:xC ss) (hl:a.length<=4) (h:∀x∈a,x.length<=64/\∀w∈x,W16 w):Ok (nX a) λr=>∃d,r=(d,ot,0,())/\ft ss d ot:=by
 unfold nX;refine dH (by decide) ?_;dsimp only;rw[show dM (List.replicate 8 ((0:Int),((0:Int),false))).length=8 from rfl,KG];delta dM;simp only[oBS]
 refine Ok.loop (P:=λs'=>∃k:Nat,∃d,s'=(a,(a.length:Int),(k:Int),(),(),d,ot,())/\k<=a.length/\d.length=k/\(∀x∈d,x.length<=64)/\∀x∈d,∀c∈x,Pr ss c)
  (R:=λr=>∃e b c f d,r=(e,b,c,f,(),(),d,ot,())/\d.length<=4/\(∀x∈d,x.length<=64)/\∀x∈d,∀c∈x,Pr ss c) (m:=λs'=>(s'.2.1 - s'.2.2.1).toNat) ⟨0,[],rfl,by omega,rfl,ee,ee⟩ (by unfold NN;dsimp only;omega) ?_ ?_
 ·rintro _ ⟨k,d,rfl,hk,hd1,hd2,hd3⟩;unfold qC;dsimp only
  (with_reducible refine dG (λhca=>?_) λhca=>?_)
  ·rw[dN];delta dM;simp only[oBS];refine Ok.get (by omega) λx hx=>?_;obtain⟨hx1,hx2⟩:=h x (dP hx)
   refine Ok.loop (P:=λs'=>∃j:Nat,∃l,s'=(a,(a.length:Int),(k:Int),x,(x.length:Int),(j:Int),(),(),d,ot,l,())/\j<=x.length/\l.length=j/\∀c∈l,Pr ss c)
    (R:=λr=>∃b c e f l,r=(a,(a.length:Int),(k:Int),b,c,e,f,(),(),d,ot,l,())/\l.length<=64/\∀c∈l,Pr ss c) (m:=λs'=>(s'.2.2.2.2.1 - s'.2.2.2.2.2.1).toNat) ⟨0,[],rfl,by omega,rfl,ee⟩ (by unfold NN;dsimp only;omega) ?_ ?_
   ·rintro _ ⟨j,l,rfl,hj,hl1,hl2⟩;unfold qD;dsimp only
    (with_reducible refine dG (λhcb=>?_) λhcb=>?_)
    ·rw[dN];simp only[oBS];refine Ok.get (by omega) λv hv=>?_;refine dH (dT (by simp;omega)) ?_
     (simp (disch:=omega) only [dQ,dZ,dV,dW])
     exact Ok.ret ⟨⟨j+1,_,rfl,by omega,by rw[eV,hl1];rfl,iE hl2 (all_cons (.inl ⟨.inl rfl,rfl,rfl,hx2 v (dP hv)⟩) ee)⟩,by dsimp only;omega⟩
    ·exact Ok.ret ⟨_,_,_,_,_,rfl,by omega,hl2⟩
   ·rintro _ ⟨b,c,e,f,l,rfl,hl1,hl2⟩;dsimp only;refine dH (dT (by simp;omega)) ?_
    (simp (disch:=omega) only [dQ,dZ,dV,dW])
    exact Ok.ret ⟨⟨k+1,_,rfl,by omega,by rw[eV,hd1];rfl,iE hd2 (all_cons hl1 ee),iE hd3 (all_cons hl2 ee)⟩,by dsimp only;omega⟩
  ·exact Ok.ret ⟨_,_,_,_,_,rfl,by omega,hd2,hd3⟩
 ·rintro _ ⟨e,b,c,f,d,rfl,hd1,hd2,hd3⟩;have hf:ft ss d ot:=⟨hd1,hd2,hd3,rfl,λo ho=>by rw[List.eq_of_mem_replicate ho];exact .inl ⟨rfl,rfl,rfl⟩⟩;dsimp only;rw[yM hs hf];simp only[oBS,oNT,oCF];exact Ok.ret ⟨d,rfl,hf⟩
theorem w7{a:List (List Int)}(hl:a.length<=1000) (h:∀x∈a,x.length<=1000):fu a=some (a,()):=by
 have e:dU fq NN (a,(a.length:Int),0,[],())=some (a,(a.length:Int),(a.length:Int),false,a,()):=by
  have:=l8 (f:=fq) (N:=NN) (st:=λk=>(a,(a.length:Int),(k:Int),a.take k,())) (n:=a.length) (t:=(a,(a.length:Int),(a.length:Int),false,a,())) (by unfold NN;omega) ?_ ?_
  ·exact this
  ·intro k hk;unfold fq;dsimp only
   (with_reducible refine dG (λhca=>?_) λhca=>?_)
   ·rw[dN];simp only[oBS];refine Ok.get (by omega) λx hx=>?_;have:=h x (dP hx);refine dH (dT (by omega)) (dH (dT (by simp;omega)) ?_)
    (simp (disch:=omega) only [dQ,dZ,dV,dW])
    refine Ok.ret ?_;rw[List.take_add_one,hx];rfl
   ·omega
  ·unfold fq;dsimp only
   (with_reducible refine dG (λhca=>?_) λhca=>?_)
   ·omega
   ·rw[List.take_length];exact Ok.ret rfl
 refine eO ?_;unfold fu;delta dM
 try dsimp only
 rw[e];exact Ok.ret rfl
theorem GD{ss l:List Int}{k:Int}(hs:xC ss) (h:DOk l k):Ok (kF l k) λr=>∃ck rn ins d os k',r=(ck,rn,ins,d,os,(),l,k',())/\xD ss ck rn ins d os []/\DOk l k':=by
 unfold kF;refine (nP h (by decide)).bind ?_;rintro _ ⟨w1,k1,rfl,h1,g1,d1⟩;dsimp only;refine (nP d1 (by decide)).bind ?_;rintro _ ⟨w2,k2,rfl,h2,g2,d2⟩;dsimp only;refine (nP d2 (by decide)).bind ?_;rintro _ ⟨w3,k3,rfl,h3,g3,d3⟩;dsimp only;refine (nP d3 (by decide)).bind ?_;rintro _ ⟨w4,k4,rfl,h4,g4,d4⟩;dsimp only;refine (nP d4 (by decide)).bind ?_;rintro _ ⟨w5,k5,rfl,h5,g5,d5⟩;dsimp only;refine (nP d5 (by decide)).bind ?_;rintro _ ⟨w6,k6,rfl,h6,g6,d6⟩;dsimp only;refine Ok.bind (P:=λr=>∃ck rn ins d os,r=(ck,rn,ins,d,os,(),0,())/\xD ss ck rn ins d os []) ?_ ?_
 ·unfold nW;refine (KL (ss:=ss) (a:=[w1,w2]) hs (by simp) (all_cons ⟨by omega,g1⟩ (all_cons ⟨by omega,g2⟩ ee))).bind ?_;rintro _ ⟨d,rfl,hf⟩;dsimp only;refine Ok.cond (λh=>by cases h) λ_=>?_;refine dH (dT (by omega)) (dH (dT (by omega)) ?_);have ho:xD ss w5 w6 [w3,w4] d ot []:=⟨⟨by omega,g5⟩,⟨by omega,g6⟩,by simp,all_cons ⟨by omega,g3⟩ (all_cons ⟨by omega,g4⟩ ee),hf,by simp,λi x hx=>by simp at hx⟩;rw[w7 (by simp) (all_cons (by omega) (all_cons (by omega) ee))];simp only[oBS];rw[show List.append [] w5=w5 from rfl,show List.append [] w6=w6 from rfl,te hs ho];exact Ok.ret ⟨_,_,_,_,_,rfl,ho⟩
 ·rintro _ ⟨ck,rn,ins,d,os,rfl,ho⟩;exact Ok.ret ⟨_,_,_,_,_,_,rfl,ho,d6⟩
theorem Cu{ss:List Int}{r o n:Int}(h1:0<=r) (h2:ss[r.toNat]?=some n) (h3:0<=o) (h4:o < n):fm ss r o=some (true,()):=by
 refine eO ?_;have hl:=(oGS h2).1;unfold fm;refine dH (oDT h1) (dH (oDT (show r < (ss.length:Int) by omega)) (dH (oDT h3) ?_));obtain⟨j,rfl⟩:∃j:Nat,r=j:=⟨r.toNat,by omega⟩;rw[dN];simp only[oBS];rw[show dK ss j=some n from h2];simp only[oBS];exact Ok.ret (by rw[oDT h4])
theorem mq{ss:List Int}{c:DCn}(h:Pr ss c):f8 ss c.1 c.2.1 c.2.2.1 c.2.2.2=some (true,()):=by
 refine eO ?_;unfold f8;rcases h with ⟨h1,h2,h3,_⟩ | ⟨h1,h2,h3,n,h4,h5,h6⟩
 ·rw[h2,h3]
  rcases h1 with h1 | h1<;>rw[h1]<;>exact Ok.ret rfl
 ·rw[h1,h2,Cu h3 h4 h5 h6];exact Ok.ret rfl
theorem DW{ss:List Int}{d:List (List DCn)}{os:List DOp}(h:ft ss d os):kq ss d os=some (true,()):=by
 obtain⟨h1,h2,h3,h4,h5⟩:=h
 have e0:dU it NN (ss,d,(d.length:Int),0,d,os,())=some (.inr (ss,d,(d.length:Int),(d.length:Int),false,d,os,())):=by
  refine l8 (st:=λk=>(ss,d,(d.length:Int),(k:Int),d,os,())) (n:=d.length) (by unfold NN;omega) ?_ ?_
  ·intro k hk;unfold it;dsimp only
   (with_reducible refine dG (λhca=>?_) λhca=>?_)
   ·rw[dN];delta dM;simp only[oBS];refine Ok.get (by omega) λx hx=>?_;have hx1:=h2 x (dP hx)
    have e:dU iu NN (ss,d,(d.length:Int),(k:Int),x,(x.length:Int),0,d,os,())=some (.inr (ss,d,(d.length:Int),(k:Int),x,(x.length:Int),(x.length:Int),false,d,os,())):=by
     refine l8 (st:=λj=>(ss,d,(d.length:Int),(k:Int),x,(x.length:Int),(j:Int),d,os,())) (n:=x.length) (by unfold NN;omega) ?_ ?_
     ·intro j hj;unfold iu;dsimp only
      (with_reducible refine dG (λhca=>?_) λhca=>?_)
      ·rw[dN];simp only[oBS];refine Ok.get (by omega) λy hy=>?_;rw[mq (h3 x (dP hx) y (dP hy))];simp only[oBS,oNT,oCF]
       (simp (disch:=omega) only [dQ,dZ,dV,dW])
       exact Ok.ret rfl
      ·omega
     ·unfold iu;dsimp only
      (with_reducible refine dG (λhca=>?_) λhca=>?_)
      ·omega
      ·exact Ok.ret rfl
    rw[e];dsimp only
    (simp (disch:=omega) only [dQ,dZ,dV,dW])
    exact Ok.ret rfl
   ·omega
  ·unfold it;dsimp only
   (with_reducible refine dG (λhca=>?_) λhca=>?_)
   ·omega
   ·exact Ok.ret rfl
 refine eO ?_;unfold kq;delta dM
 try dsimp only
 rw[e0];exact Ok.ret rfl
theorem copy17_ok{d:List (List DCn)}{os:List DOp}(h1:d.length<=1000) (h2:∀x∈d,x.length<=1000) (h3:os.length<=1000):fF d os=some (d,os,()):=by
 have e:dU hU NN (d,(d.length:Int),0,d,os,(),(),[],os,())=some (d,(d.length:Int),(d.length:Int),false,d,os,(),(),d,os,()):=by
  have:=l8 (f:=hU) (N:=NN) (st:=λk=>(d,(d.length:Int),(k:Int),d,os,(),(),d.take k,os,())) (n:=d.length) (t:=(d,(d.length:Int),(d.length:Int),false,d,os,(),(),d,os,())) (by unfold NN;omega) ?_ ?_
  ·exact this
  ·intro k hk;unfold hU;dsimp only
   (with_reducible refine dG (λhca=>?_) λhca=>?_)
   ·rw[dN];simp only[oBS];refine Ok.get (by omega) λx hx=>?_;have:=h2 x (dP hx);refine dH (dT (by omega)) (dH (dT (by simp;omega)) ?_)
    (simp (disch:=omega) only [dQ,dZ,dV,dW])
    refine Ok.ret ?_;rw[List.take_add_one,hx];rfl
   ·omega
  ·unfold hU;dsimp only
   (with_reducible refine dG (λhca=>?_) λhca=>?_)
   ·omega
   ·rw[List.take_length];exact Ok.ret rfl
 refine eO ?_;unfold fF;refine dH (dT (by omega)) ?_;rw[show List.append [] os=os from rfl];delta dM
 try dsimp only
 rw[e];exact Ok.ret rfl
theorem Dt{us:List DOu}(h1:us.length<=1000) (h2:∀x∈us,x.2.2.length<=1000):jb us=some (us,()):=by
 have e:dU hJ NN (us,(us.length:Int),0,[],())=some (us,(us.length:Int),(us.length:Int),false,us,()):=by
  have:=l8 (f:=hJ) (N:=NN) (st:=λk=>(us,(us.length:Int),(k:Int),us.take k,())) (n:=us.length) (t:=(us,(us.length:Int),(us.length:Int),false,us,())) (by unfold NN;omega) ?_ ?_
  ·exact this
  ·intro k hk;unfold hJ;dsimp only
   (with_reducible refine dG (λhca=>?_) λhca=>?_)
   ·rw[dN];simp only[oBS];refine Ok.get (by omega) λx hx=>?_;have:=h2 x (dP hx);refine dH (dT (by omega)) (dH (dT (by simp;omega)) ?_)
    (simp (disch:=omega) only [dQ,dZ,dV,dW])
    refine Ok.ret ?_;rw[List.take_add_one,hx];rfl
   ·omega
  ·unfold hJ;dsimp only
   (with_reducible refine dG (λhca=>?_) λhca=>?_)
   ·omega
   ·rw[List.take_length];exact Ok.ret rfl
 refine eO ?_;unfold jb;delta dM
 try dsimp only
 rw[e];exact Ok.ret rfl
theorem Ds{ss ck rn:List Int}{ins:List (List Int)}{d:List (List DCn)}{os:List DOp}{us:List DOu}(h:xD ss ck rn ins d os us):kR ck rn ins d os us=some (ck,rn,ins,d,os,us,()):=by
 have h1:=h.clock.1;have h2:=h.rand.1;have h3:=h.ilen;have h4:=h.ulen;have h5:=h.files.olen;have h6:=h.files.dlen;refine eO ?_;unfold kR;refine dH (dT (by omega)) (dH (dT (by omega)) ?_)
 rw[w7 (by omega) (λx hx=>by have:=(h.inp x hx).1;omega),copy17_ok (by omega) (λx hx=>by have:=h.files.flen x hx;omega) (by omega),Dt (by omega) (λx hx=>by
  obtain⟨i,hi⟩:=List.getElem?_of_mem hx;have:=(h.outs i x hi).2.2.2.1
  omega)]
 exact Ok.ret rfl
theorem IZ:rm=some ([-1,-1,-1,-1],[[],[],[],[]],()):=by kernel_rfl
structure ir (ow:List Int) (qs:List (List Int)):Prop where
 olen:ow.length=4
 qlen:qs.length=4
 owner:∀o∈ow,-1<=o/\o<=3
 queue:∀q∈qs,q.Nodup/\∀t∈q,0<=t/\t<=3
theorem IS:∀{n:Nat}{q:List Int},q.Nodup->(∀t∈q,0<=t/\t < n)->q.length<=n:=by
 intro n
 induction n with
 | zero=>
  intro q _ h
  cases q with
  | nil=>simp
  | cons x q=>have:=h x (by simp);omega
 | succ n ih=>
  intro q hq h;have h1:(q.erase (n:Int)).Nodup:=hq.erase _
  have h2:∀t∈q.erase (n:Int),0<=t/\t < n:=λt ht=>by
   have hm:=(hq.mem_erase_iff).1 ht;have:=h t hm.2;have:=hm.1;omega
  have h3:=ih h1 h2;have h4:=List.length_erase (a:=(n:Int)) (l:=q);split at h4<;>omega
theorem ir.qlen4{ow:List Int}{qs:List (List Int)}(h:ir ow qs) {q:List Int}(hq:q∈qs):q.length<=4:=IS (h.queue q hq).1 λt ht=>by have:=(h.queue q hq).2 t ht;omega
theorem NI:ir [-1,-1,-1,-1] [[],[],[],[]]:=⟨rfl,rfl,by decide,by decide⟩
theorem Li{code:List DIn}{ss bs:List Int}{dt:List (List Int)}{key:Int}{ck rn:List Int}{ins:List (List Int)}{d:List (List DCn)}{os:List DOp}{us:List DOu}(hp:j9 code ss dt) (hl:LV bs ss) (ho:xD ss ck rn ins d os us) :
 Ok (ln code ss dt bs key ck rn ins d os us) λr=>∃cs ts,r=(code,ss,dt,bs,key,cs,eX,ts,ck,rn,ins,d,os,us,[-1,-1,-1,-1],[[],[],[],[]],(),[-1,-1,-1,-1],0,())/\MOk 0 ss bs cs eX ts:=by
 unfold ln;refine (J4 hp hl).bind ?_;rintro _ ⟨cs,ts,rfl,hm⟩;dsimp only;rw[te hp.sz ho,DW ho.files,Ds ho,IZ];simp only[oBS,oNT,oCF,bne_self_eq_false]
 have e:dU oO NN (0,(),(),(),(),0,(),(),(),(),(),(),(),(),(),(),(),(),(),code,ss,dt,bs,key,cs,eX,ts,ck,rn,ins,d,os,us,[-1,-1,-1,-1],[[],[],[],[]],(),[],())
  = some (4,false,(),(),(),(),0,(),(),(),(),(),(),(),(),(),(),(),(),(),code,ss,dt,bs,key,cs,eX,ts,ck,rn,ins,d,os,us,[-1,-1,-1,-1],[[],[],[],[]],(),[-1,-1,-1,-1],()):=rfl
 rw[e];exact Ok.ret ⟨cs,ts,rfl,hm⟩
theorem N8.len{K:Int->Prop}{i:Nat}{x:DLn}(h:N8 K i x):x.2.2.length<=4:=by
 rcases h with ⟨_,_,h⟩ | ⟨_,_,_,h,_⟩
 ·rw[h];simp
 ·omega
theorem Jw{K:Int->Prop}{cs:List DCe}{ls:List DLn}(h:jp K cs ls):mV cs ls=some (cs,ls,()):=by
 obtain⟨h1,h2,h3,h4,_⟩:=h
 have e:dU ic NN (ls,(ls.length:Int),0,cs,ls,(),(),cs,[],())=some (ls,(ls.length:Int),(ls.length:Int),false,cs,ls,(),(),cs,ls,()):=by
  have:=l8 (f:=ic) (N:=NN) (st:=λk=>(ls,(ls.length:Int),(k:Int),cs,ls,(),(),cs,ls.take k,())) (n:=ls.length) (t:=(ls,(ls.length:Int),(ls.length:Int),false,cs,ls,(),(),cs,ls,())) (by unfold NN;omega) ?_ ?_
  ·exact this
  ·intro k hk;unfold ic;dsimp only
   (with_reducible refine dG (λhca=>?_) λhca=>?_)
   ·rw[dN];simp only[oBS];refine Ok.get (by omega) λx hx=>?_;have:=(h4 k x hx).len;refine dH (dT (by omega)) (dH (dT (by simp;omega)) ?_)
    (simp (disch:=omega) only [dQ,dZ,dV,dW])
    refine Ok.ret ?_;rw[List.take_add_one,hx];rfl
   ·omega
  ·unfold ic;dsimp only
   (with_reducible refine dG (λhca=>?_) λhca=>?_)
   ·omega
   ·rw[List.take_length];exact Ok.ret rfl
 refine eO ?_;unfold mV;refine dH (dT (by omega)) ?_;rw[show List.append [] cs=cs from rfl];delta dM
 try dsimp only
 rw[e];exact Ok.ret rfl
theorem nK{n key:Int}{ss bs:List Int}{cs:List DCe}{ls:List DLn}{ts:List DTh}(h:MOk n ss bs cs ls ts):gv bs key cs ls ts=some (bs,key,cs,ls,ts,()):=by
 obtain⟨h1,h2,h3,h4⟩:=h;have hb:=h1.2.1;have hs4:=h1.1.2.1
 have e:dU ib NN (ts,(ts.length:Int),0,bs,key,cs,ls,ts,(),0,(),(),(),bs,key,cs,ls,[],())=some (ts,(ts.length:Int),(ts.length:Int),false,bs,key,cs,ls,ts,(),0,(),(),(),bs,key,cs,ls,ts,()):=by
  have:=l8 (f:=ib) (N:=NN) (st:=λk=>(ts,(ts.length:Int),(k:Int),bs,key,cs,ls,ts,(),0,(),(),(),bs,key,cs,ls,ts.take k,())) (n:=ts.length) (t:=(ts,(ts.length:Int),(ts.length:Int),false,bs,key,cs,ls,ts,(),0,(),(),(),bs,key,cs,ls,ts,())) (by unfold NN;omega) ?_ ?_
  ·exact this
  ·intro k hk;unfold ib;dsimp only
   (with_reducible refine dG (λhca=>?_) λhca=>?_)
   ·rw[dN];simp only[oBS];refine Ok.get (by omega) λx hx=>?_;have:=(h4 x (dP hx)).len;refine dH (dT (by omega)) (dH (dT (by simp;omega)) ?_)
    (simp (disch:=omega) only [dQ,dZ,dV,dW])
    refine Ok.ret ?_;rw[List.take_add_one,hx];rfl
   ·omega
  ·unfold ib;dsimp only
   (with_reducible refine dG (λhca=>?_) λhca=>?_)
   ·omega
   ·rw[List.take_length];exact Ok.ret rfl
 refine eO ?_;unfold gv;refine dH (dT (by omega)) ?_;rw[Jw h2,show List.append [] bs=bs from rfl];delta dM;simp only[oBS];rw[e];exact Ok.ret rfl
theorem qm{α:Type}{l:List α}{i:Nat}{f:α->α}{a:α}(h:l[i]?=some a):(List.modify l i f)[i]?=some (f a):=by rw[List.getElem?_modify,h];simp
theorem iz{α:Type}(l:List α) (i:Nat) (f g:α->α):List.modify (List.modify l i f) i g=List.modify l i λa=>g (f a):=by
 apply List.ext_getElem?;intro j;simp only[List.getElem?_modify];by_cases h:i=j
 ·simp only[h,if_true];cases l[j]?<;>rfl
 ·simp[h]
theorem MOk.thread{n:Int}{ss bs:List Int}{cs:List DCe}{ls:List DLn}{ts:List DTh}(h:MOk n ss bs cs ls ts) {i:Nat}{t:DTh}{f:DTh->DTh}(ht:ts[i]?=some t) (hf:xB (RK bs ss) n (f t)):MOk n ss bs cs ls (List.modify ts i f):=by
 refine⟨h.lay,h.mem,by rw[oLM];exact h.tlen,λx hx=>?_⟩;obtain⟨j,hj⟩:=List.getElem?_of_mem hx;rw[List.getElem?_modify] at hj;by_cases hij:i=j
 ·subst hij;rw[ht] at hj
  have hj:f t=x:=by simpa using hj
  rw[<- hj];exact hf
 ·simp only[hij,if_false] at hj
  have:ts[j]?=some x:=by simpa using hj
  exact h.thr x (dP this)
theorem LJ{n key:Int}{ss bs:List Int}{cs:List DCe}{ls:List DLn}{ts:List DTh}(h:MOk n ss bs cs ls ts) (i:Int):Ok (md bs key cs ls ts i) λr=>r.1=true->0<=i/\i < 4/\∀t,ts[i.toNat]?=some t->t.2.2.2.2.1≠-1:=by
 unfold md;delta dM
 try dsimp only
 have:=h.tlen
 (with_reducible refine dG (λhca=>?_) λhca=>?_)
 ·exact Ok.ret (λh=>by cases h)
 ·(with_reducible refine dG (λhcb=>?_) λhcb=>?_)
  ·exact Ok.ret (λh=>by cases h)
  ·refine Ok.nat (by omega) λj hj=>?_;refine Ok.get (by omega) λt ht=>?_;subst hj
   (with_reducible refine dG (λhcc=>?_) λhcc=>?_)
   ·(with_reducible refine dG (λhcd=>?_) λhcd=>?_)
    ·exact Ok.ret (λ_=>⟨by omega,by omega,λt' ht'=>by
      rw[oTN,ht] at ht'
      injection ht' with ht'
      rw[<- ht']
      exact hcd⟩)
    ·exact Ok.ret (λh=>by cases h)
   ·exact Ok.ret (λh=>by cases h)
theorem Hb{n key:Int}{ss bs:List Int}{cs:List DCe}{ls:List DLn}{ts:List DTh}(h:MOk n ss bs cs ls ts) (i:Int):Ok (jB bs key cs ls ts i) λr=>∃ts' b,r=(bs,key,cs,ls,ts',b,())/\MOk n ss bs cs ls ts':=by
 unfold jB;rw[nK h];simp only[oBS];refine (LJ h i).bind ?_;rintro⟨b,_⟩ hb;dsimp only at hb ⊢
 (with_reducible refine dG (λhca=>?_) λhca=>?_)
 ·exact Ok.ret ⟨ts,false,rfl,h⟩
 ·have hb:=hb hca;have htl:=h.tlen;obtain⟨hb1,hb2,hb3⟩:=hb;refine Ok.nat hb1 λj hj=>?_;subst hj;refine Ok.get (by omega) λt ht=>?_;refine Ok.get (by omega) λt1 ht1=>?_;refine Ok.get (by omega) λt2 ht2=>?_;refine Ok.get (by omega) λt3 ht3=>?_;rw[ht] at ht1 ht2 ht3
  injection ht1 with ht1
  injection ht2 with ht2
  subst ht1 ht2;refine Ok.get (by rw[oLM];omega) λt4 ht4=>?_;have hne:=hb3 t (by rw[oTN];exact ht);have hok:=h.thr t (dP ht);rw[iz];exact Ok.ret ⟨_,_,rfl,h.thread ht ⟨hok.state,hok.len,hok.regs,⟨by have:=hok.handler;dsimp only;omega,hok.handler.2⟩,hok.count,hok.handler,⟨by have:=hok.pc;dsimp only;omega,hok.pc.2⟩,hok.trap,hok.code⟩⟩
theorem LU{n why:Int}{ts:List DTh}{i:Nat}{t:DTh}(ht:ts[i]?=some t):fb i why ts=some (2,List.modify ts i λt=>(4,t.2.1,t.2.2.1,t.2.2.2.1,t.2.2.2.2.1,t.2.2.2.2.2.1,why,0),()):=by
 refine eO ?_;have hl:=(oGS ht).1;unfold fb;refine Ok.get hl λ_ _=>?_;refine Ok.get (by rw[oLM];exact hl) λ_ _=>?_;refine Ok.get (by rw[oLM,oLM];exact hl) λ_ _=>?_;rw[iz,iz];exact Ok.ret rfl
theorem xB.ended{K:Int->Prop}{n why:Int}{t:DTh}(h:xB K n t) (hw:0<=why/\why<=6):xB K n (4,t.2.1,t.2.2.1,t.2.2.2.1,t.2.2.2.2.1,t.2.2.2.2.2.1,why,0):=
 ⟨⟨by dsimp only;omega,by dsimp only;omega⟩,h.len,h.regs,h.pc,h.count,h.handler,h.saved,hw,⟨by dsimp only;omega,by dsimp only;omega⟩⟩
theorem tG{ss bs:List Int}{key a:Int}(h:LV bs ss) (ha:0<=a/\a<=65535):Ok (fa bs key ss a) λr=>(r.2.2.1=true->∃b n,0<=r.1/\bs[r.1.toNat]?=some b/\ss[r.1.toNat]?=some n/\0<=r.2.1/\r.2.1 < n/\a=b+r.2.1):=by
 obtain⟨hs,hl,hr⟩:=h;have hs4:=hs.2.1;unfold fa;delta dM
 try dsimp only
 obtain⟨t,e,ht⟩:=fH (f:=eJ) (n:=NN) (s:=(ss,a,bs,(bs.length:Int),0,bs,key,0,0,())) (P:=λs'=>∃k:Nat,s'=(ss,a,bs,(bs.length:Int),(k:Int),bs,key,0,0,())/\k<=bs.length)
  (R:=λr=>(∃x y,r=.inl (true,x,y,())/\∃b n,0<=x/\bs[x.toNat]?=some b/\ss[x.toNat]?=some n/\0<=y/\y < n/\a=b+y)\/∃z,r=.inr z) (m:=λs'=>(s'.2.2.2.1 - s'.2.2.2.2.1).toNat) ⟨0,rfl,by omega⟩ (by unfold NN;dsimp only;omega) (by
   rintro _ ⟨k,rfl,hk⟩;unfold eJ;dsimp only
   (with_reducible refine dG (λhca=>?_) λhca=>?_)
   ·rw[dN];simp only[oBS];obtain⟨b,hb⟩:∃b,bs[k]?=some b:=⟨_,oGE (by omega)⟩;obtain⟨y,hy⟩:∃y,ss[k]?=some y:=⟨_,oGE (by omega)⟩;have hy2:=hs.2.2 y (dP hy);have hrk:=hr k (by omega);unfold vi at hrk;rw[eG hb,eG hy] at hrk;rw[show dK bs k=some b from hb];simp only[oBS];rw[show dK ss k=some y from hy];simp only[oBS];rw[dQ (x:=b+y) (by omega) (by omega)];by_cases h1:a>=b
    ·by_cases h2:a < b+y
     ·simp only[h1,h2,decide_true,oCT];rw[dQ (x:=a - b) (by omega) (by omega)];exact Ok.ret (.inl ⟨_,_,rfl,b,y,by omega,by rw[oTN];exact hb,by rw[oTN];exact hy,by omega,by omega,by omega⟩)
     ·simp only[h1,h2,decide_true,decide_false,oCT,oCF]
      (simp (disch:=omega) only [dQ,dZ,dV,dW])
      exact Ok.ret ⟨⟨k+1,rfl,by omega⟩,by dsimp only;omega⟩
    ·simp only[h1,decide_false,oCF]
     (simp (disch:=omega) only [dQ,dZ,dV,dW])
     exact Ok.ret ⟨⟨k+1,rfl,by omega⟩,by dsimp only;omega⟩
   ·exact Ok.ret (.inr ⟨_,rfl⟩))
 rw[e];rcases ht with ⟨x,y,rfl,hxy⟩ | ⟨z,rfl⟩
 ·exact Ok.ret λ_=>hxy
 ·exact Ok.ret λh=>by cases h
theorem zg{ss:List Int}{r o:Int}:Ok (fm ss r o) λx=>x.1=true->0<=r/\0<=o/\∃n,ss[r.toNat]?=some n/\o < n:=by
 unfold fm;delta dM
 try dsimp only
 (with_reducible refine dG (λhca=>?_) λhca=>?_)
 ·(with_reducible refine dG (λhcb=>?_) λhcb=>?_)
  ·(with_reducible refine dG (λhcc=>?_) λhcc=>?_)
   ·refine Ok.nat (by omega) λj hj=>?_;refine Ok.get (by omega) λn hn=>?_;subst hj;exact Ok.ret λh=>⟨by omega,by omega,n,by rw[oTN];exact hn,of_decide_eq_true h⟩
   ·exact Ok.ret λh=>by cases h
  ·exact Ok.ret λh=>by cases h
 ·exact Ok.ret λh=>by cases h
theorem we{ss bs:List Int}{key tag v n:Int}{back:Bool}(h:LV bs ss) (hv:W16 v) (hn:W16 n):Ok (fr bs key ss tag v n back) λr=>∃t x e,r=(t,x,e,())/\mH (RK bs ss) (t,x)/\0<=e/\e<=6/\(e=0->x < 512):=by
 have hz:∀e:Int,0 < e->e<=6->∃t x e',((0:Int),(0:Int),e,())=(t,x,e',())/\mH (RK bs ss) (t,x)/\0<=e'/\e'<=6/\(e'=0->x < 512):=λe h1 h2=>⟨0,0,e,rfl,la (by decide),by omega,h2,by omega⟩;obtain⟨v0,v1⟩:=hv;obtain⟨n0,n1⟩:=hn;unfold fr
 (with_reducible refine dG (λhca=>?_) λhca=>?_)
 ·exact Ok.ret (hz 3 (by decide) (by decide))
 ·rw[dV (x:=v) (by omega) (by omega),dV (x:=n) (by omega) (by omega)];refine (tG h ⟨v0,v1⟩).bind ?_;rintro⟨r,o,ok,_⟩ hres;dsimp only at hres ⊢
  (with_reducible refine dG (λhcb=>?_) λhcb=>?_)
  ·exact Ok.ret (hz 4 (by decide) (by decide))
  ·obtain⟨b,z,hr0,hb,hzz,ho0,ho1,_⟩:=hres hcb;have hz2:=h.1.2.2 z (dP hzz);refine Ok.bind (P:=λx=>∃o',x=(ss,bs,key,0,0,r,o',())/\-70000<=o'/\o'<=70000) ?_ ?_
   ·refine Ok.cond (λ_=>?_) λ_=>?_
    ·(simp (disch:=omega) only [dQ,dZ,dV,dW])
     exact Ok.ret ⟨_,rfl,by omega,by omega⟩
    ·(simp (disch:=omega) only [dQ,dZ,dV,dW])
     exact Ok.ret ⟨_,rfl,by omega,by omega⟩
   rintro _ ⟨o',rfl,ho2,ho3⟩;dsimp only;refine zg.bind ?_;rintro⟨q,_⟩ hin;dsimp only at hin ⊢
   (with_reducible refine dG (λhcc=>?_) λhcc=>?_)
   ·exact Ok.ret (hz 4 (by decide) (by decide))
   ·obtain⟨_,g1,m,g2,g3⟩:=hin hcc;have hm2:=h.1.2.2 m (dP g2);refine Ok.nat hr0 λj hj=>?_;subst hj;rw[oTN] at hb g2;have hjl:=(oGS hb).1;have hrj:=h.2.2 j hjl;unfold vi at hrj;rw[eG hb,eG g2] at hrj;rw[show dK bs j=some b from hb];simp only[oBS];rw[dQ (x:=b+o') (by omega) (by omega),dZ (x:=b+o') (by omega) (by omega)];exact Ok.ret ⟨_,_,_,rfl,⟨by dsimp only;omega,by dsimp only;omega,by dsimp only;omega,by dsimp only;omega,λ_=>⟨j,b,m,hb,g2,by dsimp only;omega,by dsimp only;omega⟩⟩,by decide,by decide,λ_=>by omega⟩
theorem jp.line{K:Int->Prop}{cs:List DCe}{ls:List DLn}(h:jp K cs ls) {i:Nat}{x:DLn}{f:DLn->DLn}(hx:ls[i]?=some x) (hf:N8 K i (f x)) (hg:On cs (f x)):jp K cs (List.modify ls i f):=by
 have key:∀(j:Nat) y,(List.modify ls i f)[j]?=some y->N8 K j y/\On cs y:=λj y hy=>by
  rw[List.getElem?_modify] at hy;by_cases hij:i=j
  ·subst hij;rw[hx] at hy
   have hy:f x=y:=by simpa using hy
   rw[<- hy];exact⟨hf,hg⟩
  ·simp only[hij,if_false] at hy;exact⟨h.lines j y (by simpa using hy),h.coh j y (by simpa using hy)⟩
 exact⟨h.clen,h.cells,by rw[oLM];exact h.llen,λj y hy=>(key j y hy).1,λj y hy=>(key j y hy).2⟩
theorem Gd{cs xs:List DCe}{lo k:Nat}(h1:lo+4<=cs.length) (h3:4<=xs.length) (hk:k < lo\/lo+4<=k):(oe cs lo 4 xs)[k]?=cs[k]?:=by
 unfold oe;rcases hk with hk | hk
 ·rw[List.append_assoc,List.getElem?_append_left (by rw[oLT];omega),List.getElem?_take_of_lt hk]
 ·rw[List.getElem?_append_right (by simp only[List.length_append,oLT];omega),List.getElem?_drop];congr 1;simp only[List.length_append,oLT];omega
theorem HK{K:Int->Prop}{cs xs:List DCe}{lo n:Nat}(h1:cs.length=512) (h2:lo+n<=512) (h3:n<=xs.length) (hc:∀c∈cs,mH K c) (hx:∀c∈xs,mH K c):(oe cs lo n xs).length=512/\∀c∈oe cs lo n xs,mH K c:=by
 unfold oe;refine⟨?_,λc hh=>?_⟩
 ·simp only[List.length_append,oLT,List.length_drop];omega
 ·simp only[List.mem_append] at hh;rcases hh with (hh | hh) | hh
  ·exact hc c (List.mem_of_mem_take hh)
  ·exact hx c (List.mem_of_mem_take hh)
  ·exact hc c (List.mem_of_mem_drop hh)
theorem FF{K:Int->Prop}{cs:List DCe}{ls:List DLn}{a:Int}(h:jp K cs ls) (ha:0<=a/\a < 512):Ok (jK a cs ls) λr=>∃i cs' ls' x,r=(i,cs',ls',())/\jp K cs' ls'/\ls'[i]?=some x/\x.1=a / 4/\x.2.2.length=4:=by
 obtain⟨a0,a1⟩:=ha;obtain⟨h1,h2,h3,h4,h5⟩:=id h;unfold jK;rw[Int.tdiv_eq_ediv_of_nonneg a0,dQ (x:=a / 4) (by omega) (by omega)];dsimp only;rw[Int.tmod_eq_emod_of_nonneg (show 0<=a / 4 by omega)];refine Ok.nat (by omega) λi hi=>?_
 have hil:i < ls.length:=by omega
 obtain⟨x,hx⟩:∃x,ls[i]?=some x:=⟨_,oGE hil⟩;have hg:dK ls i=some x:=hx;have hL:=h4 i x hx;simp only[hg,oBS]
 (with_reducible refine dG (λhca=>?_) λhca=>?_)
 ·refine Ok.ret ⟨i,cs,ls,x,rfl,h,hx,hca,?_⟩;rcases hL with ⟨g1,_,_⟩ | ⟨_,_,_,g,_⟩
  ·omega
  ·exact g
 ·refine Ok.bind (P:=λr=>∃cs',r=(a / 4,i,cs',ls,())/\cs'.length=512/\(∀c∈cs',mH K c)/\∀(j:Nat) y,ls[j]?=some y->On cs' y) ?_ ?_
  ·refine Ok.cond (λhd=>?_) λ_=>Ok.ret ⟨cs,rfl,h1,h2,h5⟩;rcases hL with ⟨_,g,_⟩ | ⟨g1,g2,g3,g4,g5⟩
   ·rw[g] at hd;cases hd
   ·rw[dQ (x:=x.1*4) (by omega) (by omega)];refine Ok.nat (by omega) λq hq=>?_;refine dH (by unfold jo;simp;omega) ?_
    try simp only[hg,oBS]
    rw[g4,h1]
    have hmin:Nat.min 4 (Nat.sub 512 q)=4:=by
     show min 4 (512 - q)=4;omega
    rw[hmin];refine dH (by unfold jo;simp;omega) ?_;refine dH rfl ?_;obtain⟨s1,s2⟩:=HK (lo:=q) (n:=4) h1 (by omega) (by omega) h2 g5;refine Ok.ret ⟨_,rfl,s1,s2,λj y hy=>?_⟩;by_cases hij:j=i
    ·subst hij;rw[hx] at hy
     injection hy with hy
     subst hy;exact .inr (.inl hd)
    ·rcases h5 j y hy with g | g | g
     ·exact .inl g
     ·exact .inr (.inl g)
     ·rcases h4 j y hy with ⟨g',_,_⟩ | ⟨y1,y2,y3,y4,y5⟩
      ·exact .inl g'
      ·refine .inr (.inr λo ho=>?_);rw[Gd (by omega) (by omega) (by omega)];exact g o ho
  rintro _ ⟨cs',rfl,c1,c2,c3⟩;dsimp only;rw[dQ (x:=a / 4*4) (by omega) (by omega),dQ (x:=a / 4+1) (by omega) (by omega),dQ (x:=(a / 4+1)*4) (by omega) (by omega)];simp only[hg,oBS];refine Ok.get (by rw[oLM];exact hil) λ_ _=>?_;refine Ok.nat (by omega) λq hq=>?_;refine Ok.nat (by omega) λq2 hq2=>?_;refine dH (by unfold jo;simp;omega) ?_
  have hw:(nu cs' q (Nat.sub q2 q)).length=4:=by
   unfold nu;rw[oLT,List.length_drop];show min (q2 - q) _=4;omega
  refine dH (dT (by omega)) ?_;refine Ok.get (by rw[oLM,oLM];exact hil) λ_ _=>?_;rw[iz,iz,show List.append [] (nu cs' q (Nat.sub q2 q))=nu cs' q (Nat.sub q2 q) from rfl];have hmem:jp K cs' ls:=⟨c1,c2,h3,h4,c3⟩;refine Ok.ret ⟨i,cs',_,_,rfl,hmem.line hx (.inr ⟨by dsimp only;omega,by dsimp only;omega,by dsimp only;omega,hw,λc hc=>c2 c ?_⟩) (.inr (.inr λo ho=>?_)),qm hx,rfl,hw⟩
  ·dsimp only at hc;unfold nu at hc;exact List.mem_of_mem_drop (List.mem_of_mem_take hc)
  ·dsimp only;unfold nu;rw[hq,oTN,List.getElem?_take_of_lt (show o < Nat.sub q2 q by show o < q2 - q;omega),List.getElem?_drop]
theorem I3{K:Int->Prop}{cs:List DCe}{ls:List DLn}{a:Int}(h:jp K cs ls) (ha:0<=a/\a < 512):Ok (kX a cs ls) λr=>∃t v cs' ls',r=(t,v,cs',ls',())/\mH K (t,v)/\jp K cs' ls':=by
 unfold kX;refine (FF h ha).bind ?_;rintro _ ⟨i,cs',ls',x,rfl,hm,hx,hx1,hx2⟩;dsimp only;have hg:dK ls' i=some x:=hx;simp only[hg,oBS];rw[Int.tmod_eq_emod_of_nonneg ha.1];refine Ok.nat (by omega) λj hj=>?_;refine Ok.get (by omega) λ_ _=>?_;refine Ok.get (by omega) λc hc=>?_
 have hc2:mH K c:=by
  rcases hm.lines i x hx with ⟨_,_,g⟩ | ⟨_,_,_,_,g⟩
  ·rw[g] at hx2;cases hx2
  ·exact g c (dP hc)
 exact Ok.ret ⟨_,_,_,_,rfl,hc2,hm⟩
theorem yS{K:Int->Prop}{cs:List DCe}{ls:List DLn}{a t v:Int}(h:jp K cs ls) (ha:0<=a/\a < 512) (hc:mH K (t,v)):Ok (iy a t v cs ls) λr=>∃cs' ls',r=(cs',ls',())/\jp K cs' ls':=by
 unfold iy;refine (FF h ha).bind ?_;rintro _ ⟨i,cs',ls',x,rfl,hm,hx,hx1,hx2⟩;dsimp only;have hg:dK ls' i=some x:=hx;have hil:=(oGS hx).1;simp only[hg,oBS];rw[Int.tmod_eq_emod_of_nonneg ha.1];refine Ok.nat (by omega) λj hj=>?_;refine Ok.get (by omega) λ_ _=>?_;refine Ok.get (by omega) λ_ _=>?_;refine Ok.get (by rw[oLM];exact hil) λ_ _=>?_;rw[iz];refine Ok.ret ⟨_,_,rfl,hm.line hx ?_ (.inr (.inl rfl))⟩;rcases hm.lines i x hx with ⟨_,_,g⟩ | ⟨g1,g2,g3,g4,g5⟩
 ·rw[g] at hx2;cases hx2
 ·exact .inr ⟨g1,g2,g3,by dsimp only;rw[oLM];exact g4,iA g5 λ_ _=>hc⟩
theorem nQ(x:Int):W16 (wk .u16 x):=by
 unfold wk;rw[zx];exact⟨by omega,by omega⟩
theorem Lm{ss bs:List Int}{key t v t' v':Int}(h:LV bs ss) (hv:W16 v) (hv':W16 v'):Ok (jI bs key ss t v t' v') λ_=>True:=by
 obtain⟨v0,v1⟩:=hv;obtain⟨u0,u1⟩:=hv';unfold jI;rw[dV (x:=v) (by omega) (by omega),dV (x:=v') (by omega) (by omega)];refine (tG h ⟨v0,v1⟩).bind ?_;rintro⟨r,o,ok,_⟩ _;dsimp only;refine (tG h ⟨u0,u1⟩).bind ?_;rintro⟨r',o',ok',_⟩ _;dsimp only;cases ok<;>cases ok'<;>exact Ok.ret trivial
theorem Ez(b:Bool):jf b=some (0,(bif b then 1 else 0),()):=by cases b<;>rfl
theorem ND{op b c:Int}(hb:W16 b) (hc:W16 c):Ok (jH op b c) λr=>∃v e,r=(0,v,e,())/\W16 v/\0<=e/\e<=6:=by
 obtain⟨b0,b1⟩:=hb;obtain⟨c0,c1⟩:=hc;have fin:∀x:Int,W16 x->Ok (some ((0:Int),x,(0:Int),())) λr=>∃v e,r=(0,v,e,())/\W16 v/\0<=e/\e<=6:=λx h=>Ok.ret ⟨x,0,rfl,h,by decide,by decide⟩;have z5:Ok (some ((0:Int),(0:Int),(5:Int),())) λr=>∃v e,r=(0,v,e,())/\W16 v/\0<=e/\e<=6:=Ok.ret ⟨0,5,rfl,⟨by decide,by decide⟩,by decide,by decide⟩;have hw:∀x:Int,W16 (IntKind.wrap .u16 x):=nQ;unfold jH
 (with_reducible refine dG (λhca=>?_) λhca=>?_)
 ·exact fin _ (nQ _)
 (with_reducible refine dG (λhcb=>?_) λhcb=>?_)
 ·exact fin _ (nQ _)
 (with_reducible refine dG (λhcc=>?_) λhcc=>?_)
 ·exact fin _ (nQ _)
 have hq:∀X:Option (Int×Int×Int×Unit),c≠0->(X=(bif (op==6) then (bif (c != 0) then some ((0:Int),wk .u16 (Int.tdiv b c),(0:Int),()) else none) else bif (c != 0) then some ((0:Int),Int.tmod b c,(0:Int),()) else none))->Ok X λr=>∃v e,r=(0,v,e,())/\W16 v/\0<=e/\e<=6:=by
  rintro _ hne rfl;refine Ok.cond (λ_=>dH (by rw[bne_iff_ne];exact hne) (fin _ (nQ _))) λ_=>dH (by rw[bne_iff_ne];exact hne) (fin _ ?_);rw[Int.tmod_eq_emod_of_nonneg b0];have h1:=Int.emod_nonneg b hne;have h2:=Int.emod_lt_of_pos b (show 0 < c by omega);exact⟨h1,by omega⟩
 (with_reducible refine dG (λhcd=>?_) λhcd=>?_)
 ·(with_reducible refine dG (λhce=>?_) λhce=>?_)
  ·exact z5
  ·exact hq _ hce rfl
 (with_reducible refine dG (λhcd=>?_) λhcd=>?_)
 ·(with_reducible refine dG (λhce=>?_) λhce=>?_)
  ·exact z5
  ·exact hq _ hce rfl
 (with_reducible refine dG (λhcf=>?_) λhcf=>?_)
 ·exact fin _ (hw _)
 (with_reducible refine dG (λhcf=>?_) λhcf=>?_)
 ·exact fin _ (hw _)
 (with_reducible refine dG (λhcf=>?_) λhcf=>?_)
 ·exact fin _ (hw _)
 (with_reducible refine dG (λhcf=>?_) λhcf=>?_)
 ·rw[Int.tmod_eq_emod_of_nonneg c0];refine Ok.nat (by omega) λj hj=>?_;exact fin _ (hw _)
 (with_reducible refine dG (λhcf=>?_) λhcf=>?_)
 ·rw[Int.tmod_eq_emod_of_nonneg c0];refine Ok.nat (by omega) λj hj=>fin _ ?_;show W16 (Int.fdiv b (2 ^ (min j 16)));have hp:(0:Int) < 2 ^ (min j 16):=Int.pow_pos (by decide);rw[Int.fdiv_eq_ediv_of_nonneg _ (by omega)];exact⟨Int.ediv_nonneg b0 (by omega),by have:=Int.ediv_le_self (2 ^ (min j 16)) b0;omega⟩
 rw[Ez];refine fin _ ?_;cases decide (b < c)
 ·exact⟨by decide,by decide⟩
 ·exact⟨by decide,by decide⟩
def LQ(K:Int->Prop) (r:Int×Int×Int×Unit):Prop:=∃t v e,r=(t,v,e,())/\mH K (t,v)/\0<=e/\e<=6
theorem pD{K:Int->Prop}{t v e:Int}(h:mH K (t,v)) (h0:0<=e) (h1:e<=6):Ok (some (t,v,e,())) (LQ K):=Ok.ret ⟨t,v,e,rfl,h,h0,h1⟩
theorem vp{K:Int->Prop}{v:Int}(h:W16 v):mH K (0,v):=la h
theorem Dm{K:Int->Prop}(b:Bool):mH K (0,bif b then 1 else 0):=vp (by cases b<;>exact⟨by decide,by decide⟩)
theorem rK{K:Int->Prop}:mH K (0,0):=vp ⟨by decide,by decide⟩
theorem OA{ss bs:List Int}{key op t v t' v':Int}(h:LV bs ss) (hb:mH (RK bs ss) (t,v)) (hc:mH (RK bs ss) (t',v')):Ok (qd bs key ss op t v t' v') (LQ (RK bs ss)):=by
 obtain⟨t0,t2,v0,v1,_⟩:=hb;obtain⟨u0,u2,w0,w1,_⟩:=hc;dsimp only at t0 t2 v0 v1 u0 u2 w0 w1;obtain⟨_,eN,n1,n2,rfl,hn1,hn2,hn3⟩:=ND (op:=op) (b:=v) (c:=v') ⟨v0,v1⟩ ⟨w0,w1⟩;obtain⟨_,eA,a1,a2,a3,rfl,ha1,ha2,ha3,_⟩:=we (key:=key) (tag:=t) (back:=false) h (v:=v) (n:=v') ⟨v0,v1⟩ ⟨w0,w1⟩;obtain⟨_,eB,b1,b2,b3,rfl,hb1,hb2,hb3,_⟩:=we (key:=key) (tag:=t') (back:=false) h (v:=v') (n:=v) ⟨w0,w1⟩ ⟨v0,v1⟩;obtain⟨_,eC,c1,c2,c3,rfl,hc1,hc2,hc3,_⟩:=we (key:=key) (tag:=t) (back:=true) h (v:=v) (n:=v') ⟨v0,v1⟩ ⟨w0,w1⟩;obtain⟨⟨p1,p2,p3,p4,ok,_⟩,eP,_⟩:=Lm (key:=key) (t:=t) (t':=t') h (v:=v) (v':=v') ⟨v0,v1⟩ ⟨w0,w1⟩;unfold qd
 (with_reducible refine dG (λhca=>?_) λhca=>?_)
 ·exact pD rK (by decide) (by decide)
 (with_reducible refine dG (λhcb=>?_) λhcb=>?_)
 ·exact pD rK (by decide) (by decide)
 cases h14:(op==14) with
 | true=>
  simp only[oCT,Ez,oBS];exact pD (Dm _) (by decide) (by decide)
 | false=>
  simp only[oCF,eN,eA,eB,eC,eP,oBS]
  rcases (show t=0\/t=1\/t=2 by omega) with rfl | rfl | rfl<;>rcases (show t'=0\/t'=1\/t'=2 by omega) with rfl | rfl | rfl
  all_goals
   cases h3:(op==3)<;>cases h4:(op==4)<;>cases h13:(op==13)<;>simp only[Int.reduceBEq,oCT,oCF,oBS,h3,h4,h13,Ez,eN,eA,eB,eC,eP,BEq.rfl]
  all_goals first
   | exact pD (vp hn1) hn2 hn3
   | exact pD ha1 ha2 ha3
   | exact pD hb1 hb2 hb3
   | exact pD hc1 hc2 hc3
   | exact pD rK (by decide) (by decide)
   | (cases ok<;>first
    | exact pD rK (by decide) (by decide)
    | exact pD (Dm _) (by decide) (by decide)
    | exact pD (vp (nQ _)) (by decide) (by decide))
theorem JB{l:List Int}{k:Int}(h:DOk l k):Ok (lL l k) λr=>∃t b s k',r=(t,b,s,l,k',())/\0<=t/\t < 4/\0<=b/\b<=63/\DOk l k':=by
 unfold lL
 (with_reducible refine fi (by assumption) (by omega) (by omega) (λv0 k0 a0 b0 d0=>?_);try dsimp only)
 (with_reducible refine fi (by assumption) (by omega) (by omega) (λv1 k1 a1 b1 d1=>?_);try dsimp only)
 (with_reducible refine Ok.nat (by omega) (λj1 hj1=>?_);try dsimp only)
 have hm:∀x∈[(0:Int),1,2,3,7,63],0<=x/\x<=63:=all_cons (by omega) (all_cons (by omega) (all_cons (by omega) (all_cons (by omega) (all_cons (by omega) (all_cons (by omega) ee)))));refine Ok.get (by simp only[oLC,List.length_nil];omega) λx hx=>?_;refine Ok.get (by simp only[oLC,List.length_nil];omega) λy hy=>?_;have hy2:=hm y (dP hy)
 (with_reducible refine fi (by assumption) (by omega) (by omega) (λv2 k2 a2 b2 d2=>?_);try dsimp only)
 exact Ok.ret ⟨_,_,_,_,rfl,a0,b0,hy2.1,hy2.2,d2⟩
def gY:List DTh->Int->List Int
 | [],_=>[]
 | t :: ts,i=>if t.1=1 then i :: gY ts (i+1) else gY ts (i+1)
theorem zI(a b:List DTh) (i:Int):gY (a++b) i=gY a i++gY b (i+a.length):=by
 induction a generalizing i with
 | nil=>simp[gY]
 | cons t a ih=>
  simp only[List.cons_append,gY,ih,oLC];rw[show i+1+(a.length:Int)=i+((a.length+1:Nat):Int) by omega];split<;>rfl
theorem y8(a:List DTh) (i:Int):(gY a i).length<=a.length:=by
 induction a generalizing i with
 | nil=>simp[gY]
 | cons t a ih=>
  simp only[gY];have:=ih (i+1);split<;>simp only[oLC]<;>omega
theorem Gt{a:List DTh}{i x:Int}(h:x∈gY a i):i<=x/\x < i+a.length/\∃t,a[(x - i).toNat]?=some t/\t.1=1:=by
 induction a generalizing i with
 | nil=>simp[gY] at h
 | cons t a ih=>
  simp only[gY] at h
  have key:x∈gY a (i+1)->i<=x/\x < i+((t :: a).length:Int)/\∃t',(t :: a)[(x - i).toNat]?=some t'/\t'.1=1:=by
   intro h;obtain⟨h1,h2,t',h3,h4⟩:=ih h;refine⟨by omega,by simp only[oLC];omega,t',?_,h4⟩;rw[show (x - i).toNat=(x - (i+1)).toNat+1 by omega,List.getElem?_cons_succ];exact h3
  split at h
  ·rename_i ht;rcases List.mem_cons.1 h with rfl | h
   ·exact⟨by omega,by simp only[oLC];omega,t,by simp,ht⟩
   ·exact key h
  ·exact key h
theorem Ky{ts:List DTh}(h:ts.length<=1000):lC ts=some (gY ts 0,()):=by
 have e:dU gQ NN (ts,(ts.length:Int),0,[],())=some (ts,(ts.length:Int),(ts.length:Int),false,gY ts 0,()):=by
  have:=l8 (f:=gQ) (N:=NN) (st:=λk=>(ts,(ts.length:Int),(k:Int),gY (ts.take k) 0,())) (n:=ts.length) (t:=(ts,(ts.length:Int),(ts.length:Int),false,gY ts 0,())) (by unfold NN;omega) ?_ ?_
  ·exact this
  ·intro k hk;unfold gQ;dsimp only
   (with_reducible refine dG (λhca=>?_) λhca=>?_)
   ·rw[dN];simp only[oBS];obtain⟨x,hx⟩:∃x,ts[k]?=some x:=⟨_,oGE hk⟩;rw[show dK ts k=some x from hx];simp only[oBS];have hlen:=y8 (ts.take k) 0;rw[oLT] at hlen
    have hnext:gY (ts.take (k+1)) 0=gY (ts.take k) 0++(if x.1=1 then [(k:Int)] else []):=by
     rw[List.take_add_one,hx,zI];congr 1;rw[oLT,show 0+((min k ts.length:Nat):Int)=(k:Int) by omega];simp only[Option.toList,gY]
    refine Ok.bind (P:=(·=(ts,(ts.length:Int),(k:Int),gY (ts.take (k+1)) 0,()))) ?_ ?_
    ·(with_reducible refine dG (λhcb=>?_) λhcb=>?_)
     ·refine dH (dT (by simp;omega)) ?_;rw[hnext,oIP hcb];exact Ok.ret rfl
     ·rw[hnext,oIN hcb,List.append_nil];exact Ok.ret rfl
    ·rintro _ rfl;dsimp only
     (simp (disch:=omega) only [dQ,dZ,dV,dW])
     exact Ok.ret rfl
   ·omega
  ·unfold gQ;dsimp only
   (with_reducible refine dG (λhca=>?_) λhca=>?_)
   ·omega
   ·rw[List.take_length];exact Ok.ret rfl
 refine eO ?_;unfold lC;delta dM
 try dsimp only
 rw[e];exact Ok.ret rfl
theorem w8{ow:List Int}{qs:List (List Int)}(h:ir ow qs):jd ow qs=some (ow,qs,()):=by
 have hq4:∀q∈qs,q.length<=4:=λq hq=>h.qlen4 hq;obtain⟨h1,h2,h3,h4⟩:=h
 have e:dU hY NN (qs,(qs.length:Int),0,ow,qs,(),(),ow,[],())=some (qs,(qs.length:Int),(qs.length:Int),false,ow,qs,(),(),ow,qs,()):=by
  have:=l8 (f:=hY) (N:=NN) (st:=λk=>(qs,(qs.length:Int),(k:Int),ow,qs,(),(),ow,qs.take k,())) (n:=qs.length) (t:=(qs,(qs.length:Int),(qs.length:Int),false,ow,qs,(),(),ow,qs,())) (by unfold NN;omega) ?_ ?_
  ·exact this
  ·intro k hk;unfold hY;dsimp only
   (with_reducible refine dG (λhca=>?_) λhca=>?_)
   ·rw[dN];simp only[oBS];refine Ok.get (by omega) λx hx=>?_;have:=hq4 x (dP hx);refine dH (dT (by omega)) (dH (dT (by simp;omega)) ?_)
    (simp (disch:=omega) only [dQ,dZ,dV,dW])
    refine Ok.ret ?_;rw[List.take_add_one,hx];rfl
   ·omega
  ·unfold hY;dsimp only
   (with_reducible refine dG (λhca=>?_) λhca=>?_)
   ·omega
   ·rw[List.take_length];exact Ok.ret rfl
 refine eO ?_;unfold jd;refine dH (dT (by omega)) ?_;rw[show List.append [] ow=ow from rfl];delta dM
 try dsimp only
 rw[e];exact Ok.ret rfl
theorem Ev{ow:List Int}{qs:List (List Int)}{lock t:Int}(h:ir ow qs):Ok (jc ow qs lock t) λr=>∃ow' qs' n b,r=(ow',qs',n,b,())/\ir ow' qs'/\-1<=n/\n<=3:=by
 unfold jc;rw[w8 h];simp only[oBS];obtain⟨h1,h2,h3,h4⟩:=id h;refine Ok.bind (P:=λr=>∃b,r=(lock,b,(),(),ow,qs,())/\(b=false->0<=lock/\lock < 4)) ?_ ?_
 ·(with_reducible refine dG (λhca=>?_) λhca=>?_)
  ·exact Ok.ret ⟨true,rfl,λh=>by cases h⟩
  ·(with_reducible refine dG (λhcb=>?_) λhcb=>?_)
   ·exact Ok.ret ⟨true,rfl,λh=>by cases h⟩
   ·refine Ok.nat (by omega) λj hj=>?_;refine Ok.get (by omega) λx hx=>?_;exact Ok.ret ⟨_,rfl,λ_=>⟨by omega,by omega⟩⟩
 rintro _ ⟨b,rfl,hb⟩;dsimp only;refine Ok.cond (λ_=>Ok.ret ⟨_,_,_,_,rfl,h,by omega,by omega⟩) λhbf=>?_;obtain⟨l0,l1⟩:=hb hbf;obtain⟨j,rfl⟩:∃j:Nat,lock=j:=⟨lock.toNat,by omega⟩;obtain⟨o,ho⟩:∃o,ow[j]?=some o:=⟨_,oGE (by omega)⟩;obtain⟨q,hq⟩:∃q,qs[j]?=some q:=⟨_,oGE (by omega)⟩;have go:dK ow j=some o:=ho;have gq:dK qs j=some q:=hq;have gm:∀f:Int->Int,dK (List.modify ow j f) j=some (f o):=λf=>qm ho;have gm2:∀f g:Int->Int,dK (List.modify (List.modify ow j f) j g) j=some (g (f o)):=λf g=>qm (qm ho);delta dM;simp only[dN,oBS,go,gq,gm,gm2];have hl1:ir (List.modify ow j λ_=>-1) qs:=⟨by rw[oLM];exact h1,h2,iA h3 λ_ _=>⟨by omega,by omega⟩,h4⟩
 (with_reducible refine dG (λhcc=>?_) λhcc=>?_)
 ·obtain⟨x,hx⟩:∃x,q[0]?=some x:=⟨_,oGE (by omega)⟩;have gx:dK q 0=some x:=hx;have hx2:=(h4 q (dP hq)).2 x (dP hx);simp only[gx,oBS];refine dH (by unfold jo;simp;omega) ?_;refine Ok.ret ⟨_,_,_,_,rfl,⟨by rw[oLM,oLM];exact h1,by rw[oLM];exact h2,iA (iA h3 λ_ _=>⟨by omega,by omega⟩) λ_ _=>⟨by omega,by omega⟩,iA h4 λ_ _=>?_⟩,by omega,by omega⟩;obtain⟨q1,q2⟩:=h4 q (dP hq);unfold nu;have hs:(List.take (Nat.sub q.length 1) (List.drop 1 q)).Sublist q:=(List.take_sublist _ _).trans (List.drop_sublist _ _);exact⟨q1.sublist hs,λt ht=>q2 t (hs.subset ht)⟩
 ·exact Ok.ret ⟨_,_,_,_,rfl,hl1,by omega,by omega⟩
theorem GI{q:List Int}{x:Int}(h:q.Nodup) (hx:x ∉ q):(q++[x]).Nodup:=by
 rw[List.nodup_append];refine⟨h,by simp,λa ha b hb=>?_⟩;simp only[List.mem_singleton] at hb;subst hb;intro e;subst e;exact hx ha
theorem MY{ow:List Int}{qs:List (List Int)}{t:Int}(h:ir ow qs):Ok (mR ow qs t) λr=>∃ow' qs' nx,r=(ow',qs',nx,())/\ir ow' qs'/\nx.length<=4/\∀x∈nx,0<=x/\x<=3:=by
 unfold mR;rw[w8 h];delta dM;simp only[oBS];have h2:=h.qlen;refine Ok.loop (P:=λs'=>∃k:Nat,∃qs',s'=(t,(qs.length:Int),(k:Int),(),(),ow,qs',())/\k<=qs.length/\ir ow qs') (R:=λr=>∃a b c qs',r=(t,a,b,c,(),(),ow,qs',())/\ir ow qs') (m:=λs'=>(s'.2.1 - s'.2.2.1).toNat) ⟨0,qs,rfl,by omega,h⟩ (by unfold NN;dsimp only;omega) ?_ ?_
 ·rintro _ ⟨k,qs',rfl,hk,hl⟩;obtain⟨g1,g2,g3,g4⟩:=id hl;unfold o9;dsimp only
  (with_reducible refine dG (λhca=>?_) λhca=>?_)
  ·obtain⟨q,hq⟩:∃q,qs'[k]?=some q:=⟨_,oGE (by omega)⟩;have gq:dK qs' k=some q:=hq;obtain⟨q1,q2⟩:=g4 q (dP hq);have q3:=hl.qlen4 (dP hq);delta dM;simp only[dN,oBS,gq]
   refine Ok.loop (P:=λs'=>∃j:Nat,∃l,s'=(t,(k:Int),(qs.length:Int),(k:Int),k,(q.length:Int),(j:Int),(),(),ow,qs',l,())/\j<=q.length/\l.Sublist (q.take j))
    (R:=λr=>∃a b c d l,r=(t,(k:Int),(qs.length:Int),(k:Int),a,b,c,d,(),(),ow,qs',l,())/\l.Sublist q) (m:=λs'=>(s'.2.2.2.2.2.1 - s'.2.2.2.2.2.2.1).toNat) ⟨0,[],rfl,by omega,by simp⟩ (by unfold NN;dsimp only;omega) ?_ ?_
   ·rintro _ ⟨j,l,rfl,hj,hsub⟩;unfold pa;dsimp only
    (with_reducible refine dG (λhcb=>?_) λhcb=>?_)
    ·obtain⟨x,hx⟩:∃x,q[j]?=some x:=⟨_,oGE (by omega)⟩;have gx:dK q j=some x:=hx;simp only[dN,oBS,gq,gx];have hll:=hsub.length_le;rw[oLT] at hll
     have htk:q.take (j+1)=q.take j++[x]:=by rw[List.take_add_one,hx];rfl
     refine Ok.bind (P:=λr=>∃l',r=(t,(k:Int),(qs.length:Int),(k:Int),k,(q.length:Int),(j:Int),(),(),ow,qs',l',())/\l'.Sublist (q.take (j+1))) ?_ ?_
     ·refine Ok.cond (λ_=>dH (dT (by simp;omega)) (Ok.ret ⟨_,rfl,?_⟩)) λ_=>Ok.ret ⟨l,rfl,?_⟩
      ·rw[htk];exact hsub.append (List.Sublist.refl _)
      ·rw[htk];exact hsub.trans (List.sublist_append_left _ _)
     ·rintro _ ⟨l',rfl,hs⟩;dsimp only
      (simp (disch:=omega) only [dQ,dZ,dV,dW])
      exact Ok.ret ⟨⟨j+1,l',rfl,by omega,hs⟩,by dsimp only;omega⟩
    ·exact Ok.ret ⟨_,_,_,_,l,rfl,hsub.trans (List.take_sublist _ _)⟩
   ·rintro _ ⟨a,b,c,d,l,rfl,hs⟩;dsimp only;simp only[dN,oBS,gq]
    (simp (disch:=omega) only [dQ,dZ,dV,dW])
    exact Ok.ret ⟨⟨k+1,_,rfl,by omega,⟨g1,by rw[oLM];exact g2,g3,iA g4 λ_ _=>⟨q1.sublist hs,λt ht=>q2 t (hs.subset ht)⟩⟩⟩,by dsimp only;omega⟩
  ·exact Ok.ret ⟨_,_,_,qs',rfl,hl⟩
 ·rintro _ ⟨a,b,c,qs',rfl,hl⟩;dsimp only
  refine Ok.loop (P:=λs'=>∃k:Nat,∃ow' qs' nx,s'=(t,4,(k:Int),(),(),ow',qs',nx,())/\k<=4/\nx.length<=k/\ir ow' qs'/\∀x∈nx,0<=x/\x<=3) (R:=λr=>∃a b c ow' qs' nx,r=(t,a,b,c,(),(),ow',qs',nx,())/\ir ow' qs'/\nx.length<=4/\∀x∈nx,0<=x/\x<=3) (m:=λs'=>(4 - s'.2.2.1).toNat)
   ⟨0,ow,qs',[],by rw[hl.olen];rfl,by omega,by simp,hl,ee⟩ (by unfold NN;dsimp only;omega) ?_ ?_
  ·rintro _ ⟨k,ow',qs',nx,rfl,hk,hnl,hl',hnx⟩;unfold o8;dsimp only
   (with_reducible refine dG (λhca=>?_) λhca=>?_)
   ·refine (Ev hl').bind ?_;rintro _ ⟨ow2,qs2,n,bb,rfl,hl2,n0,n1⟩;dsimp only;refine Ok.bind (P:=λr=>∃nx',r=(t,4,(k:Int),(),(),ow',qs',nx',ow2,qs2,())/\nx'.length<=k+1/\∀x∈nx',0<=x/\x<=3) ?_ ?_
    ·refine Ok.cond (λ_=>?_) λ_=>Ok.ret ⟨nx,rfl,by omega,hnx⟩
     (with_reducible refine dG (λhcb=>?_) λhcb=>?_)
     ·refine dH (dT (by simp;omega)) (Ok.ret ⟨_,rfl,by rw[eV];simp;omega,iE hnx (all_cons ⟨by omega,n1⟩ ee)⟩)
     ·exact Ok.ret ⟨nx,rfl,by omega,hnx⟩
    ·rintro _ ⟨nx',rfl,hn1,hn2⟩;dsimp only
     (simp (disch:=omega) only [dQ,dZ,dV,dW])
     exact Ok.ret ⟨⟨k+1,_,_,_,rfl,by omega,hn1,hl2,hn2⟩,by dsimp only;omega⟩
   ·exact Ok.ret ⟨_,_,_,_,_,_,rfl,hl',by omega,hnx⟩
  ·rintro _ ⟨a,b,c,ow',qs',nx,rfl,hl',hn4,hnx⟩;exact Ok.ret ⟨_,_,_,rfl,hl',hn4,hnx⟩
theorem LY{ow:List Int}{qs:List (List Int)}{lock t:Int}(h:ir ow qs) (ht:0<=t/\t<=3):Ok (mQ ow qs lock t) λr=>∃ow' qs' n,r=(ow',qs',n,())/\ir ow' qs':=by
 unfold mQ;rw[w8 h];simp only[oBS];obtain⟨h1,h2,h3,h4⟩:=id h;refine Ok.bind (P:=λr=>∃b,r=(lock,t,b,ow,qs,(),(),ow,qs,())/\(b=false->0<=lock/\lock < 4)) ?_ ?_
 ·(with_reducible refine dG (λhca=>?_) λhca=>?_)
  ·exact Ok.ret ⟨true,rfl,λh=>by cases h⟩
  ·(with_reducible refine dG (λhcb=>?_) λhcb=>?_)
   ·exact Ok.ret ⟨true,rfl,λh=>by cases h⟩
   ·refine Ok.nat (by omega) λj hj=>?_;refine Ok.get (by omega) λx hx=>?_;exact Ok.ret ⟨_,rfl,λ_=>⟨by omega,by omega⟩⟩
 rintro _ ⟨b,rfl,hb⟩;dsimp only;refine Ok.cond (λ_=>Ok.ret ⟨_,_,_,rfl,h⟩) λhbf=>?_;obtain⟨l0,l1⟩:=hb hbf;delta dM
 try dsimp only
 obtain⟨r,e,hr⟩:=fH (f:=me) (n:=NN) (s:=(lock,t,qs,(qs.length:Int),0,ow,qs,(),(),ow,qs,())) (P:=λs'=>∃k:Nat,s'=(lock,t,qs,(qs.length:Int),(k:Int),ow,qs,(),(),ow,qs,())/\k<=qs.length/\∀(i:Nat) q,i < k->qs[i]?=some q->t ∉ q)
  (R:=λr=>r=.inl (2,ow,qs,())\/((∃a b c,r=.inr (lock,t,a,b,c,false,ow,qs,(),(),ow,qs,()))/\∀q∈qs,t ∉ q)) (m:=λs'=>(s'.2.2.2.1 - s'.2.2.2.2.1).toNat) ⟨0,rfl,by omega,λi q hi=>by omega⟩ (by unfold NN;dsimp only;omega) (by
   rintro _ ⟨k,rfl,hk,hall⟩;unfold me;dsimp only
   (with_reducible refine dG (λhca=>?_) λhca=>?_)
   ·obtain⟨q,hq⟩:∃q,qs[k]?=some q:=⟨_,oGE (by omega)⟩;have gq:dK qs k=some q:=hq;have q3:=h.qlen4 (dP hq);delta dM;simp only[dN,oBS,gq]
    obtain⟨r,e,hr⟩:=fH (f:=mf) (n:=NN) (s:=(lock,t,qs,(qs.length:Int),(k:Int),q,(q.length:Int),0,ow,qs,(),(),ow,qs,())) (P:=λs'=>∃j:Nat,s'=(lock,t,qs,(qs.length:Int),(k:Int),q,(q.length:Int),(j:Int),ow,qs,(),(),ow,qs,())/\j<=q.length/\∀(i:Nat) x,i < j->q[i]?=some x->x≠t)
     (R:=λr=>r=.inl (2,ow,qs,())\/((∃a b c,r=.inr (lock,t,qs,(qs.length:Int),(k:Int),a,b,c,false,ow,qs,(),(),ow,qs,()))/\t ∉ q)) (m:=λs'=>(s'.2.2.2.2.2.2.1 - s'.2.2.2.2.2.2.2.1).toNat) ⟨0,rfl,by omega,λi x hi=>by omega⟩ (by unfold NN;dsimp only;omega) (by
      rintro _ ⟨j,rfl,hj,hne⟩;unfold mf;dsimp only
      (with_reducible refine dG (λhcb=>?_) λhcb=>?_)
      ·obtain⟨x,hx⟩:∃x,q[j]?=some x:=⟨_,oGE (by omega)⟩;have gx:dK q j=some x:=hx;simp only[dN,oBS,gx]
       (with_reducible refine dG (λhcc=>?_) λhcc=>?_)
       ·exact Ok.ret (.inl rfl)
       ·(simp (disch:=omega) only [dQ,dZ,dV,dW])
        exact Ok.ret ⟨⟨j+1,rfl,by omega,FV hne hx hcc⟩,by dsimp only;omega⟩
      ·refine Ok.ret (.inr ⟨⟨_,_,_,rfl⟩,λhm=>?_⟩);obtain⟨i,hi⟩:=List.getElem?_of_mem hm
       exact hne i t (by have:=(oGS hi).1;omega) hi rfl)
    rw[e];rcases hr with rfl | ⟨⟨a,b,c,rfl⟩,hnot⟩
    ·exact Ok.ret (.inl rfl)
    ·dsimp only
     (simp (disch:=omega) only [dQ,dZ,dV,dW])
     refine Ok.ret ⟨⟨k+1,rfl,by omega,λi q' hi hq'=>?_⟩,by dsimp only;omega⟩;by_cases hik:i=k
     ·subst hik;rw[hq] at hq'
      injection hq' with hq'
      rw[<- hq'];exact hnot
     ·exact hall i q' (by omega) hq'
   ·refine Ok.ret (.inr ⟨⟨_,_,_,rfl⟩,λq hq=>?_⟩);obtain⟨i,hi⟩:=List.getElem?_of_mem hq
    exact hall i q (by have:=(oGS hi).1;omega) hi)
 rw[e];rcases hr with rfl | ⟨⟨a,b,c,rfl⟩,hnot⟩
 ·exact Ok.ret ⟨_,_,_,rfl,h⟩
 ·dsimp only;obtain⟨j,rfl⟩:∃j:Nat,lock=j:=⟨lock.toNat,by omega⟩;obtain⟨o,ho⟩:∃o,ow[j]?=some o:=⟨_,oGE (by omega)⟩;obtain⟨q,hq⟩:∃q,qs[j]?=some q:=⟨_,oGE (by omega)⟩;have go:dK ow j=some o:=ho;have gq:dK qs j=some q:=hq;simp only[dN,oBS,go,gq]
  (with_reducible refine dG (λhcd=>?_) λhcd=>?_)
  ·exact Ok.ret ⟨_,_,_,rfl,⟨by rw[oLM];exact h1,h2,iA h3 λ_ _=>⟨by omega,ht.2⟩,h4⟩⟩
  ·have q3:=h.qlen4 (dP hq);refine dH (dT (by simp;omega)) (dH (by simp) (Ok.ret ⟨_,_,_,rfl,⟨h1,by rw[oLM];exact h2,h3,iA h4 λ_ _=>⟨?_,?_⟩⟩⟩))
   ·exact GI (h4 q (dP hq)).1 (hnot q (dP hq))
   ·exact iE (h4 q (dP hq)).2 (all_cons ht ee)
theorem eq{α:Type}{l:List α}{i:Nat}{a:α}(h:l[i]?=some a) (f:α->α):List.modify l i f=l.set i (f a):=by
 rw[<- ze];apply List.ext_getElem?;intro j;simp only[List.getElem?_modify];by_cases hij:i=j
 ·subst hij;rw[h];rfl
 ·simp[hij]
theorem gl{α:Type}{l:List α}{i:Nat}(h:i < l.length) (a:α):dK (l.set i a) i=some a:=by
 show (l.set i a)[i]?=some a;rw[List.getElem?_set];simp[h]
theorem nD{α:Type}{l:List α}{i:Nat}(h:i < l.length) (a:α) (f:α->α):List.modify (l.set i a) i f=l.set i (f a):=by
 rw[eq (a:=a) (gl h a),List.set_set]
theorem im{α:Type}{P:α->Prop}{l:List α}{i:Nat}{a:α}(h:∀x∈l,P x) (ha:P a):∀x∈l.set i a,P x:=by
 intro x hx;rcases List.mem_or_eq_of_mem_set hx with hx | rfl
 ·exact h x hx
 ·exact ha
theorem MOk.set{n:Int}{ss bs:List Int}{cs cs':List DCe}{ls ls':List DLn}{ts:List DTh}(h:MOk n ss bs cs ls ts) (hm:jp (RK bs ss) cs' ls') {i:Nat}{t:DTh}(ht:xB (RK bs ss) n t):MOk n ss bs cs' ls' (ts.set i t):=
 ⟨h.lay,hm,by rw[List.length_set];exact h.tlen,im h.thr ht⟩
def O3(code:List DIn) (t:DTh) (s:Int) (t':DTh):Prop:=
 (s=-1/\t'.1=1/\((t'.2.2.2.1=t.2.2.2.1/\t'.2.2.1=t.2.2.1+1)\/t'.2.2.2.1=t.2.2.2.1+1))\/(s=2/\t'.1=4/\t'.2.2.2.1=t.2.2.2.1) \/
  (s=1/\t'.1=2/\t'.2.2.2.1=t.2.2.2.1/\∃i:DIn,1<=t'.2.2.1/\code[(t'.2.2.1 - 1).toNat]?=some i/\i.1=23)
def EU(n key:Int) (code:List DIn) (ss bs:List Int) (ts:List DTh) (i:Nat) (t:DTh) (r:Int×List Int×Int×List DCe×List DLn×List DTh×Unit):Prop:=
 ∃s cs' ls' t',r=(s,bs,key,cs',ls',ts.set i t',())/\jp (RK bs ss) cs' ls'/\xB (RK bs ss) n t'/\O3 code t s t'
theorem mr{n key:Int}{code:List DIn}{ss bs:List Int}{ts:List DTh}{i:Nat}{t t':DTh}{cs':List DCe}{ls':List DLn}(hm:jp (RK bs ss) cs' ls') (ht:xB (RK bs ss) n t') (h1:t'.1=1)
 (h:(t'.2.2.2.1=t.2.2.2.1/\t'.2.2.1=t.2.2.1+1)\/t'.2.2.2.1=t.2.2.2.1+1):Ok (some (-1,bs,key,cs',ls',ts.set i t',())) (EU n key code ss bs ts i t):=Ok.ret ⟨_,_,_,_,rfl,hm,ht,.inl ⟨rfl,h1,h⟩⟩
theorem lM{n key why:Int}{code:List DIn}{ss bs:List Int}{ts:List DTh}{i:Nat}{t:DTh}{cs':List DCe}{ls':List DLn}(hm:jp (RK bs ss) cs' ls') (ht:xB (RK bs ss) n t) (hw:0<=why/\why<=6) :
 Ok (some (2,bs,key,cs',ls',ts.set i (4,t.2.1,t.2.2.1,t.2.2.2.1,t.2.2.2.2.1,t.2.2.2.2.2.1,why,0),())) (EU n key code ss bs ts i t):=Ok.ret ⟨_,_,_,_,rfl,hm,ht.ended hw,.inr (.inl ⟨rfl,rfl,rfl⟩)⟩
theorem gT(op:Int):kA op=some (lP op || op==22 || op==24,()):=by
 unfold kA;rw[wB];simp only[oBS];cases lP op<;>cases op==22<;>rfl
set_option maxHeartbeats 4000000 in
theorem NC{n key:Int}{code:List DIn}{ss bs:List Int}{d:List (List Int)}{cs:List DCe}{ls:List DLn}{ts:List DTh}{i:Nat}{t:DTh}(hp:j9 code ss d) (h:MOk n ss bs cs ls ts) (ht:ts[i]?=some t) (hs:t.1=1)
 (hc:t.2.2.2.1+1<=n) (hn:n<=1099511627776):Ok (n5 code ss d (i:Int) bs key cs ls ts) (EU n key code ss bs ts i t):=by
 have hok:=h.thr t (dP ht);have hm:=h.mem;obtain⟨_,hl,hr,⟨p0,p1⟩,⟨c0,c1⟩,ha,⟨s0,s1⟩,⟨r0,r1⟩,hco⟩:=id hok;obtain⟨st,rs,pc,ct,hd,sa,tr,co⟩:=t;dsimp only at *;subst hs;have hil:=(oGS ht).1;have hg:dK ts i=some (1,rs,pc,ct,hd,sa,tr,co):=ht;have e1:∀f:DTh->DTh,List.modify ts i f=ts.set i (f (1,rs,pc,ct,hd,sa,tr,co)):=λf=>eq ht f;have e2:∀x,dK (ts.set i x) i=some x:=λx=>gl hil x;have e3:∀(x:DTh) (f:DTh->DTh),List.modify (ts.set i x) i f=ts.set i (f x):=λx f=>nD hil x f
 have eT:∀why,fb (i:Nat) why ts=some (2,ts.set i (4,rs,pc,ct,hd,sa,why,0),()):=λwhy=>by rw[LU (n:=n) ht,e1]
 have mk:∀{rs':List DCe} {pc' ct' sa':Int},rs'.length=8->(∀c∈rs',mH (RK bs ss) c)->0<=pc'/\pc'<=255->0<=ct'/\ct'<=n->-1<=sa'/\sa'<=255->xB (RK bs ss) n (1,rs',pc',ct',hd,sa',tr,co):=
  λh1 h2 h3 h4 h5=>⟨⟨show (0:Int)<=1 by decide,show (1:Int)<=4 by decide⟩,h1,h2,h3,h4,ha,h5,⟨r0,r1⟩,hco⟩
 unfold n5;rw[dN];delta dM;simp only[hg,oBS]
 (with_reducible refine dG (λhca=>?_) λhca=>?_)
 ·rw[eT 2];exact lM hm hok (by decide)
 refine Ok.nat p0 λj hj=>?_;subst hj;have hcl:=hp.clen;refine Ok.get (by omega) λx hx=>?_;obtain⟨op,A,B,C,I⟩:=x;obtain⟨⟨o0,o1⟩,⟨A0,A1,_⟩,⟨B0,B1,_⟩,⟨C0,C1,_⟩,⟨I0,I1,_⟩,hlea,hsys,hjmp⟩:=hp.ins _ (dP hx);dsimp only at *;obtain⟨A,rfl⟩:∃k:Nat,A=k:=⟨A.toNat,by omega⟩;obtain⟨B,rfl⟩:∃k:Nat,B=k:=⟨B.toNat,by omega⟩;obtain⟨C,rfl⟩:∃k:Nat,C=k:=⟨C.toNat,by omega⟩;obtain⟨I,rfl⟩:∃k:Nat,I=k:=⟨I.toNat,by omega⟩;obtain⟨⟨ta,va⟩,gA⟩:∃c,dK rs A=some c:=⟨_,oGE (by omega)⟩;obtain⟨⟨tb,vb⟩,gB⟩:∃c,dK rs B=some c:=⟨_,oGE (by omega)⟩;obtain⟨⟨tc,vc⟩,gC⟩:∃c,dK rs C=some c:=⟨_,oGE (by omega)⟩;have cA:=hr _ (dP gA);have cB:=hr _ (dP gB);have cC:=hr _ (dP gC);have eR:∀f:DCe->DCe,List.modify rs A f=rs.set A (f (ta,va)):=λf=>eq gA f;have w1:w64 ((j:Int)+1)=(j:Int)+1:=dQ (by omega) (by omega);have wI:wk .u16 (I:Int)=I:=dZ (by omega) (by omega);have setOk:∀{c:DCe},mH (RK bs ss) c->(rs.set A c).length=8/\∀x∈rs.set A c,mH (RK bs ss) x:=λhc=>⟨by rw[List.length_set];exact hl,im hr hc⟩;have wc:w64 (ct+1)=ct+1:=dQ (by omega) (by omega);simp only[dN,hg,gA,gB,oBS,w1,wI];rcases (show op=0\/op=1\/op=2\/op=15\/op=16\/op=17\/op=18\/op=19\/op=20\/op=21\/op=22\/op=23\/op=24\/(3<=op/\op<=14) by omega) with rfl | rfl | rfl | rfl | rfl | rfl | rfl | rfl | rfl | rfl | rfl | rfl | rfl | ⟨q0,q1⟩
 all_goals try simp only[Int.reduceBEq,oCT,oCF,dN,hg,gA,gB,gC,e1,e2,e3,eR,eT,oBS,w1,wI,wc,gT,lP,Bool.or_false,Bool.or_true,Bool.or_self,bne_self_eq_false]
 ·exact mr hm (mk hl hr (by omega) (by omega) (by omega)) rfl (.inl ⟨rfl,rfl⟩)
 ·exact mr hm (mk (setOk (la (by omega))).1 (setOk (la (by omega))).2 (by omega) (by omega) (by omega)) rfl (.inl ⟨rfl,rfl⟩)
 ·exact mr hm (mk (setOk cB).1 (setOk cB).2 (by omega) (by omega) (by omega)) rfl (.inl ⟨rfl,rfl⟩)
 ·have hI:=hlea rfl;have hbl:=h.lay.2.1;obtain⟨b,hb⟩:∃b,bs[I]?=some b:=⟨_,oGE (by omega)⟩;obtain⟨z,hz⟩:∃z,ss[I]?=some z:=⟨_,oGE (by omega)⟩;have hr2:=h.lay.2.2 I (by omega);unfold vi at hr2;rw[eG hb,eG hz] at hr2;have hz2:=h.lay.1.2.2 z (dP hz);have wb:wk .u16 b=b:=dZ (by omega) (by omega);have gb:dK bs I=some b:=hb;simp only[gb,wb,Int.reduceBEq,oCT,oCF,dN,hg,gA,gB,gC,e1,e2,e3,eR,eT,oBS,w1,wI,wc,gT,lP,Bool.or_false,Bool.or_true,Bool.or_self,bne_self_eq_false];have hcb:mH (RK bs ss) (1,b):=⟨by dsimp only;omega,by dsimp only;omega,by dsimp only;omega,by dsimp only;omega,λ_=>⟨I,b,z,hb,hz,by dsimp only;omega,by dsimp only;omega⟩⟩;exact mr hm (mk (setOk hcb).1 (setOk hcb).2 (by omega) (by omega) (by omega)) rfl (.inl ⟨rfl,rfl⟩)
 ·obtain⟨_,em,t1,x1,e,rfl,hc1,he0,he6,hx512⟩:=we (key:=key) (tag:=tb) (v:=vb) (n:=(I:Int)) (back:=false) h.lay ⟨cB.2.2.1,cB.2.2.2.1⟩ ⟨by omega,by omega⟩;simp only[em,oBS];by_cases hne:e=0
  ·subst hne;have wx:wk .i64 x1=x1:=dV (by have:=hc1.2.2.1;dsimp only at this;omega) (by have:=hc1.2.2.2.1;dsimp only at this;omega);obtain⟨_,el,t2,x2,cs2,ls2,rfl,hc2,hm2⟩:=I3 (a:=x1) hm ⟨hc1.2.2.1,hx512 rfl⟩;simp only[wx,el,Int.reduceBEq,oCT,oCF,dN,hg,gA,gB,gC,e1,e2,e3,eR,eT,oBS,w1,wI,wc,gT,lP,Bool.or_false,Bool.or_true,Bool.or_self,bne_self_eq_false];exact mr hm2 (mk (setOk hc2).1 (setOk hc2).2 (by omega) (by omega) (by omega)) rfl (.inl ⟨rfl,rfl⟩)
  ·simp only[bne_iff_ne.2 hne,oCT];exact lM hm hok ⟨he0,he6⟩
 ·obtain⟨_,em,t1,x1,e,rfl,hc1,he0,he6,hx512⟩:=we (key:=key) (tag:=ta) (v:=va) (n:=(I:Int)) (back:=false) h.lay ⟨cA.2.2.1,cA.2.2.2.1⟩ ⟨by omega,by omega⟩;simp only[em,oBS];by_cases hne:e=0
  ·subst hne;have wx:wk .i64 x1=x1:=dV (by have:=hc1.2.2.1;dsimp only at this;omega) (by have:=hc1.2.2.2.1;dsimp only at this;omega);obtain⟨_,el,cs2,ls2,rfl,hm2⟩:=yS (a:=x1) (t:=tb) (v:=vb) hm ⟨hc1.2.2.1,hx512 rfl⟩ cB;simp only[wx,el,Int.reduceBEq,oCT,oCF,dN,hg,gA,gB,gC,e1,e2,e3,eR,eT,oBS,w1,wI,wc,gT,lP,Bool.or_false,Bool.or_true,Bool.or_self,bne_self_eq_false];exact mr hm2 (mk hl hr (by omega) (by omega) (by omega)) rfl (.inl ⟨rfl,rfl⟩)
  ·simp only[bne_iff_ne.2 hne,oCT];exact lM hm hok ⟨he0,he6⟩
 ·have:=hjmp (by decide);exact mr hm (mk hl hr (by omega) (by omega) (by omega)) rfl (.inr rfl)
 ·have:=hjmp (by decide);by_cases hta:ta=0
  ·subst hta
   cases va==0 with
   | true=>
    simp only[BEq.rfl,Int.reduceBEq,oCT,oCF,dN,hg,gA,gB,gC,e1,e2,e3,eR,eT,oBS,w1,wI,wc,gT,lP,Bool.or_false,Bool.or_true,Bool.or_self,bne_self_eq_false];exact mr hm (mk hl hr (by omega) (by omega) (by omega)) rfl (.inr rfl)
   | false=>
    simp only[show (false==true)=false from rfl,Int.reduceBEq,oCT,oCF,dN,hg,gA,gB,gC,e1,e2,e3,eR,eT,oBS,w1,wI,wc,gT,lP,Bool.or_false,Bool.or_true,Bool.or_self,bne_self_eq_false];exact mr hm (mk hl hr (by omega) (by omega) (by omega)) rfl (.inr rfl)
  ·simp only[bne_iff_ne.2 hta,oCT];exact lM hm hok (by decide)
 ·have:=hjmp (by decide);by_cases hta:ta=0
  ·subst hta
   cases va==0 with
   | true=>
    simp only[show (true==false)=false from rfl,Int.reduceBEq,oCT,oCF,dN,hg,gA,gB,gC,e1,e2,e3,eR,eT,oBS,w1,wI,wc,gT,lP,Bool.or_false,Bool.or_true,Bool.or_self,bne_self_eq_false];exact mr hm (mk hl hr (by omega) (by omega) (by omega)) rfl (.inr rfl)
   | false=>
    simp only[BEq.rfl,Int.reduceBEq,oCT,oCF,dN,hg,gA,gB,gC,e1,e2,e3,eR,eT,oBS,w1,wI,wc,gT,lP,Bool.or_false,Bool.or_true,Bool.or_self,bne_self_eq_false];exact mr hm (mk hl hr (by omega) (by omega) (by omega)) rfl (.inr rfl)
  ·simp only[bne_iff_ne.2 hta,oCT];exact lM hm hok (by decide)
 ·have:=hjmp (by decide);have wj:wk .u16 ((j:Int)+1)=(j:Int)+1:=dZ (by omega) (by omega);rw[wj];exact mr hm (mk (setOk (la (by omega))).1 (setOk (la (by omega))).2 (by omega) (by omega) (by omega)) rfl (.inr rfl)
 ·by_cases hta:ta=0
  ·subst hta;have wa:wk .i64 va=va:=dV (by have:=cA.2.2.1;dsimp only at this;omega) (by have:=cA.2.2.2.1;dsimp only at this;omega);have a0:=cA.2.2.1;dsimp only at a0;by_cases hva:va > 255
   ·simp only[oDT hva,bne_self_eq_false,oCT,oCF];exact lM hm hok (by decide)
   ·simp only[oDF hva,wa,Int.reduceBEq,oCT,oCF,dN,hg,gA,gB,gC,e1,e2,e3,eR,eT,oBS,w1,wI,wc,gT,lP,Bool.or_false,Bool.or_true,Bool.or_self,bne_self_eq_false];exact mr hm (mk hl hr (by omega) (by omega) (by omega)) rfl (.inr rfl)
  ·simp only[bne_iff_ne.2 hta,oCT];exact lM hm hok (by decide)
 ·refine Ok.ret ⟨_,_,_,_,rfl,hm,⟨⟨show (0:Int)<=2 by decide,show (2:Int)<=4 by decide⟩,hl,hr,⟨by dsimp only;omega,by dsimp only;omega⟩,⟨c0,by dsimp only;omega⟩,ha,⟨s0,s1⟩,⟨r0,r1⟩,hco⟩,.inr (.inr ⟨rfl,rfl,rfl,(23,(A:Int),(B:Int),(C:Int),(I:Int)),by dsimp only;omega,?_,rfl⟩)⟩;dsimp only;rw[show (j:Int)+1 - 1=(j:Int) by omega,oTN];exact hx
 ·by_cases hsa:sa=-1
  ·simp only[beq_iff_eq.2 hsa,oCT];exact lM hm hok (by decide)
  ·simp only[oBF hsa,Int.reduceBEq,oCT,oCF,dN,hg,gA,gB,gC,e1,e2,e3,eR,eT,oBS,w1,wI,wc,gT,lP,Bool.or_false,Bool.or_true,Bool.or_self,bne_self_eq_false];exact mr hm (mk hl hr (by omega) (by omega) (by omega)) rfl (.inr rfl)
 ·obtain⟨_,ed,t1,x1,e,rfl,hc1,he0,he6⟩:=OA (key:=key) (op:=op) h.lay cB cC;have n0:(op==0)=false:=oBF (by omega);have n1:(op==1)=false:=oBF (by omega);have n2:(op==2)=false:=oBF (by omega);have n15:(op==15)=false:=oBF (by omega);have n16:(op==16)=false:=oBF (by omega);have n17:(op==17)=false:=oBF (by omega);have n18:(op==18)=false:=oBF (by omega);have n19:(op==19)=false:=oBF (by omega);have n20:(op==20)=false:=oBF (by omega);have n21:(op==21)=false:=oBF (by omega);have n22:(op==22)=false:=oBF (by omega);have n23:(op==23)=false:=oBF (by omega);have n24:(op==24)=false:=oBF (by omega);simp only[n0,n1,n2,n15,n16,n17,n18,n19,n20,n21,n22,n23,n24,ed,Int.reduceBEq,oCT,oCF,dN,hg,gA,gB,gC,e1,e2,e3,eR,eT,oBS,w1,wI,wc,gT,lP,Bool.or_false,Bool.or_true,Bool.or_self,bne_self_eq_false];by_cases hne:e=0
  ·subst hne;simp only[n18,n19,n20,n21,n22,n24,Int.reduceBEq,oCT,oCF,dN,hg,gA,gB,gC,e1,e2,e3,eR,eT,oBS,w1,wI,wc,gT,lP,Bool.or_false,Bool.or_true,Bool.or_self,bne_self_eq_false];exact mr hm (mk (setOk hc1).1 (setOk hc1).2 (by omega) (by omega) (by omega)) rfl (.inl ⟨rfl,rfl⟩)
  ·simp only[bne_iff_ne.2 hne,oCT];exact lM hm hok ⟨he0,he6⟩
theorem xB.mono{K:Int->Prop}{n m:Int}{t:DTh}(h:xB K n t) (hm:n<=m):xB K m t:=⟨h.state,h.len,h.regs,h.pc,⟨h.count.1,by have:=h.count.2;omega⟩,h.handler,h.saved,h.trap,h.code⟩
theorem MOk.mono{n m:Int}{ss bs:List Int}{cs:List DCe}{ls:List DLn}{ts:List DTh}(h:MOk n ss bs cs ls ts) (hm:n<=m):MOk m ss bs cs ls ts:=⟨h.lay,h.mem,h.tlen,λt ht=>(h.thr t ht).mono hm⟩
theorem zD{α:Type}{l:List α}{i:Nat}{a:α}(h:l[i]?=some a):l.set i a=l:=by
 apply List.ext_getElem?;intro j;rw[List.getElem?_set];split
 ·rename_i hij;subst hij;have:=(oGS h).1;rw[oIP this,h]
 ·rfl
def OM(code:List DIn) (s:Int) (t':DTh):Prop:=
 (s=0/\t'.1=1)\/(s=2/\t'.1=4)\/(s=1/\t'.1=2/\∃i:DIn,1<=t'.2.2.1/\code[(t'.2.2.1 - 1).toNat]?=some i/\i.1=23)
def Nd(n key:Int) (code:List DIn) (ss bs:List Int) (ts:List DTh) (i:Nat) (r:List Int×Int×List DCe×List DLn×List DTh×Int×Int×Unit):Prop:=
 ∃s cs' ls' t',r=(bs,key,cs',ls',ts.set i t',s,0,())/\jp (RK bs ss) cs' ls'/\xB (RK bs ss) n t'/\((s=3/\ts[i]?=some t'/\t'.1≠1)\/OM code s t')
def Ou(i:Nat) (s:Int×Int×(List DIn)×(List (Int))×(List (List (Int)))×Unit×Int×Unit×Unit×Unit×(List (Int))×Int×(List DCe)×(List DLn)×(List DTh)×Unit):Nat:=
 match s.2.2.2.2.2.2.2.2.2.2.2.2.2.2.1[i]? with
 | some t=>((s.2.1 - t.2.2.2.1)*256+(255 - t.2.2.1)).toNat
 | none=>0
theorem DK{i:Nat}{a b k:Int}{code:List DIn}{ss bs:List Int}{d:List (List Int)}{cs:List DCe}{ls:List DLn}{ts:List DTh}{t:DTh}(h:ts[i]?=some t):Ou i (a,b,code,ss,d,(),0,(),(),(),bs,k,cs,ls,ts,())=((b - t.2.2.2.1)*256+(255 - t.2.2.1)).toNat:=by
 unfold Ou;dsimp only;rw[h]
theorem J6{n key k:Int}{code:List DIn}{ss bs:List Int}{d:List (List Int)}{cs:List DCe}{ls:List DLn}{ts:List DTh}{i:Nat}(hp:j9 code ss d) (h:MOk n ss bs cs ls ts) (hn0:0<=n) (hn:n+64<=1099511627776) (hi:i < 4) (hk:1<=k/\k<=64) :
 Ok (lA code ss d bs key cs ls ts (i:Int) k) (Nd (n+64) key code ss bs ts i):=by
 have htl:=h.tlen;obtain⟨t,ht⟩:∃t,ts[i]?=some t:=⟨_,oGE (by omega)⟩;have hg:dK ts i=some t:=ht
 have hil:i < ts.length:=by omega
 have hok:=h.thr t (dP ht);unfold lA;rw[tg hp h (by omega)];simp only[oBS,oNT,oCF,nK h,dN,hg];rw[oDF (show ¬ (i:Int) < 0 by omega),oDF (show ¬ (i:Int)>=4 by omega),oDF (show ¬ k < 1 by omega),oDF (show ¬ k > 64 by omega)];simp only[oBS,oCF,nK h,dN,hg]
 (with_reducible refine dG (λhca=>?_) λhca=>?_)
 ·refine Ok.ret ⟨3,cs,ls,t,?_,h.mem,hok.mono (by omega),.inl ⟨rfl,ht,hca⟩⟩;rw[zD ht]
 have hct:=hok.count;have hpc:=hok.pc;rw[dQ (x:=t.2.2.2.1+k) (by omega) (by omega)]
 refine Ok.loop (P:=λs'=>∃cs' ls' t',s'=((i:Int),t.2.2.2.1+k,code,ss,d,(),0,(),(),(),bs,key,cs',ls',ts.set i t',())/\jp (RK bs ss) cs' ls'/\xB (RK bs ss) (n+64) t'/\t'.1=1/\t'.2.2.2.1 < t.2.2.2.1+k)
  (R:=λr=>∃s cs' ls' t',r=(s,0,bs,key,cs',ls',ts.set i t',())/\jp (RK bs ss) cs' ls'/\xB (RK bs ss) (n+64) t'/\OM code s t') (m:=Ou i) ⟨cs,ls,t,by rw[zD ht],h.mem,hok.mono (by omega),hca,by omega⟩ ?_ ?_ ?_
 ·rw[DK ht];unfold NN;omega
 ·rintro _ ⟨cs',ls',t',rfl,hm,hth,hr,hlt⟩;have ht':(ts.set i t')[i]?=some t':=gl hil t';unfold oQ;dsimp only;refine (NC hp (((h.mono (show n<=n+64 by omega)).set hm hth):MOk (n+64) ss bs cs' ls' (ts.set i t')) ht' hr (by omega) (by omega)).bind ?_;rintro _ ⟨s,cs2,ls2,t2,rfl,hm2,hth2,hs2⟩;dsimp only;rw[List.set_set]
  (with_reducible refine dG (λhcb=>?_) λhcb=>?_)
  ·refine Ok.ret ⟨_,_,_,_,rfl,hm2,hth2,?_⟩;rcases hs2 with ⟨q,_⟩ | ⟨q1,q2,_⟩ | ⟨q1,q2,_,q3⟩
   ·exact absurd q hcb
   ·exact .inr (.inl ⟨q1,q2⟩)
   ·exact .inr (.inr ⟨q1,q2,q3⟩)
  ·rw[dN];simp only[oBS,gl hil];have h0:=hth2.count;have h1:=hth2.pc;have h2:=hth.pc;rcases hs2 with ⟨_,q1,q2⟩ | ⟨q1,_⟩ | ⟨q1,_⟩
   ·(with_reducible refine dG (λhcc=>?_) λhcc=>?_)
    ·exact Ok.ret ⟨_,_,_,_,rfl,hm2,hth2,.inl ⟨rfl,q1⟩⟩
    ·refine Ok.ret ⟨⟨_,_,_,rfl,hm2,hth2,q1,by omega⟩,?_⟩;rw[DK ht',DK (gl hil t2)];omega
   ·omega
   ·omega
 ·rintro _ ⟨s,cs',ls',t',rfl,hm,hth,hs⟩;exact Ok.ret ⟨_,_,_,_,rfl,hm,hth,.inr hs⟩
def Iy(bs ss:List Int) (a:Int):Nat->Nat->Option (Int×Int)
 | 0,_=>none
 | n+1,k=>if bs.getD k 0<=a/\a < bs.getD k 0+ss.getD k 0 then some ((k:Int),a - bs.getD k 0) else Iy bs ss a n (k+1)
def Ku(bs ss:List Int) (a:Int):Option (Int×Int):=Iy bs ss a bs.length 0
theorem Iw{bs ss:List Int}{a r o:Int}:∀{n k:Nat},k+n=bs.length->bs.length=ss.length->Iy bs ss a n k=some (r,o)->∃(j:Nat) (b z:Int),r=j/\o=a - b/\bs[j]?=some b/\ss[j]?=some z/\b<=a/\a < b+z:=by
 intro n
 induction n with
 | zero=>intro k _ _ h;cases h
 | succ n ih=>
  intro k hk hl h;simp only[Iy] at h;split at h
  ·rename_i hh
   injection h with h
   injection h with h1 h2
   refine⟨k,_,_,h1.symm,h2.symm,?_,?_,hh.1,hh.2⟩
   ·rw[Ey (by omega)];exact oGE (by omega)
   ·rw[Ey (by omega)];exact oGE (by omega)
  ·exact ih (by omega) hl h
theorem Ix{bs ss:List Int}{a:Int}:∀{n k:Nat},k+n=bs.length->Iy bs ss a n k=none->∀(j:Nat) (b z:Int),k<=j->bs[j]?=some b->ss[j]?=some z->¬ (b<=a/\a < b+z):=by
 intro n
 induction n with
 | zero=>
  intro k hk _ j b z hj hb;have:=(oGS hb).1;omega
 | succ n ih=>
  intro k hk h j b z hj hb hz;simp only[Iy] at h;split at h
  ·cases h
  ·rename_i hh;by_cases hjk:j=k
   ·subst hjk;rw[eG hb,eG hz] at hh;exact hh
   ·exact ih (by omega) h j b z (by omega) hb hz
theorem BM{bs ss:List Int}{a r o:Int}(hl:bs.length=ss.length) (h:Ku bs ss a=some (r,o)):∃(j:Nat) (b z:Int),r=j/\o=a - b/\bs[j]?=some b/\ss[j]?=some z/\b<=a/\a < b+z:=Iw (by omega) hl h
theorem Mz{bs ss:List Int}{a:Int}(h:RK bs ss a):∃r o,Ku bs ss a=some (r,o):=by
 cases e:Ku bs ss a with
 | some x=>exact⟨x.1,x.2,rfl⟩
 | none=>
  obtain⟨j,b,z,h1,h2,h3,h4⟩:=h;exact absurd ⟨h3,h4⟩ (Ix (by omega) e j b z (by omega) h1 h2)
theorem yZ{bs ss:List Int}{key a:Int}(h:LV bs ss) (ha:W16 a):fa bs key ss a=some (match Ku bs ss a with | some (r,o)=>(r,o,true,()) | none=>(0,0,false,())):=by
 obtain⟨hs,hl,hr⟩:=h;obtain⟨a0,a1⟩:=ha;have hs4:=hs.2.1
 have key1:∀(n k N:Nat),k+n=bs.length->n < N->dU eJ N (ss,a,bs,(bs.length:Int),(k:Int),bs,key,0,0,())=some (match Iy bs ss a n k with | some (r,o)=>.inl (true,r,o,()) | none=>.inr (ss,a,bs,(bs.length:Int),(bs.length:Int),false,bs,key,0,0,())):=by
  intro n
  induction n with
  | zero=>
   intro k N hk hN;obtain⟨N,rfl⟩:∃M,N=M+1:=⟨N - 1,by omega⟩
   obtain rfl:k=bs.length:=by omega
   have e:eJ (ss,a,bs,(bs.length:Int),(bs.length:Int),bs,key,0,0,())=some (.inr (.inr (ss,a,bs,(bs.length:Int),(bs.length:Int),false,bs,key,0,0,()))):=by
    refine eO ?_;unfold eJ;dsimp only
    (with_reducible refine dG (λhca=>?_) λhca=>?_)
    ·omega
    ·exact Ok.ret rfl
   simp only[dU,e,oBS,Iy]
  | succ n ih=>
   intro k N hk hN;obtain⟨N,rfl⟩:∃M,N=M+1:=⟨N - 1,by omega⟩;obtain⟨b,hb⟩:∃b,bs[k]?=some b:=⟨_,oGE (by omega)⟩;obtain⟨z,hz⟩:∃z,ss[k]?=some z:=⟨_,oGE (by omega)⟩;have hz2:=hs.2.2 z (dP hz);have hrk:=hr k (by omega);unfold vi at hrk;rw[eG hb,eG hz] at hrk;by_cases hh:b<=a/\a < b+z
   ·have e:eJ (ss,a,bs,(bs.length:Int),(k:Int),bs,key,0,0,())=some (.inr (.inl (true,(k:Int),a - b,()))):=by
     refine eO ?_;unfold eJ;dsimp only;rw[oDT (show (k:Int) < bs.length by omega),dN];simp only[oCT,oBS,show dK bs k=some b from hb,show dK ss k=some z from hz];rw[oDT (show a>=b by omega),dQ (x:=b+z) (by omega) (by omega),oDT hh.2,dQ (x:=a - b) (by omega) (by omega)];exact Ok.ret rfl
    simp only[dU,e,oBS,Iy,eG hb,eG hz,oIP hh]
   ·have e:eJ (ss,a,bs,(bs.length:Int),(k:Int),bs,key,0,0,())=some (.inl (ss,a,bs,(bs.length:Int),((k+1:Nat):Int),bs,key,0,0,())):=by
     refine eO ?_;unfold eJ;dsimp only;rw[oDT (show (k:Int) < bs.length by omega),dN];simp only[oCT,oBS,show dK bs k=some b from hb,show dK ss k=some z from hz];rw[dQ (x:=b+z) (by omega) (by omega)];by_cases h1:a>=b
     ·rw[oDT h1,oDF (show ¬ a < b+z by omega)];simp only[oCT,oCF];rw[dQ (x:=(k:Int)+1) (by omega) (by omega)];exact Ok.ret rfl
     ·rw[oDF h1];simp only[oCF];rw[dQ (x:=(k:Int)+1) (by omega) (by omega)];exact Ok.ret rfl
    simp only[dU,e,oBS,Iy,eG hb,eG hz,oIN hh];exact ih (k+1) N (by omega) (by omega)
 unfold fa Ku;delta dM
 try dsimp only
 rw[show dU eJ NN (ss,a,bs,(bs.length:Int),0,bs,key,0,0,())=_ from key1 bs.length 0 NN (by omega) (by unfold NN;omega)]
 cases Iy bs ss a bs.length 0 with
 | some x=>rfl
 | none=>rfl
def qQ(bs ss:List Int) (key:Int) (c:DCe):DCn:=
 if c.1=0 then (0,c.2,0,0) else if c.1=2 then (2,wk .u16 (c.2 - key),0,0) else match Ku bs ss c.2 with | some (r,o)=>(1,0,r,o) | none=>(1,0,-1,c.2)
theorem qr{K:Int->Prop}{bs ss:List Int}{key:Int}{c:DCe}(h:LV bs ss) (hc:mH K c):gE bs key ss c.1 c.2=some ((qQ bs ss key c).1,(qQ bs ss key c).2.1,(qQ bs ss key c).2.2.1,(qQ bs ss key c).2.2.2,()):=by
 obtain⟨c0,c1,c2,c3,_⟩:=hc;unfold gE qQ;rw[dV (x:=c.2) (by omega) (by omega)];dsimp only;rw[yZ h ⟨c2,c3⟩]
 rcases (show c.1=0\/c.1=1\/c.1=2 by omega) with e | e | e<;>rw[e]
 ·rfl
 ·simp only[Int.reduceBEq,Int.reduceEq,oCF,if_false,oBS]
  cases Ku bs ss c.2 with
  | some x=>rfl
  | none=>rfl
 ·rfl
theorem mc(x:Int):W16 (wk .u16 x):=nQ x
theorem Bp{bs ss:List Int}{key:Int}{c:DCe}(h:LV bs ss) (hc:mH (RK bs ss) c):Pr ss (qQ bs ss key c):=by
 obtain⟨c0,c1,c2,c3,c4⟩:=hc;unfold qQ;rcases (show c.1=0\/c.1=1\/c.1=2 by omega) with e | e | e
 ·rw[oIP e];exact .inl ⟨.inl rfl,rfl,rfl,c2,c3⟩
 ·rw[oIN (by omega),oIN (by omega)];obtain⟨r,o,hro⟩:=Mz (c4 e);rw[hro];obtain⟨j,b,z,rfl,rfl,h1,h2,h3,h4⟩:=BM h.2.1 hro;exact .inr ⟨rfl,rfl,by dsimp only;omega,z,by rw[oTN];exact h2,by dsimp only;omega,by dsimp only;omega⟩
 ·rw[oIN (by omega),oIP e];exact .inl ⟨.inr rfl,rfl,rfl,mc _⟩
theorem FQ{K:Int->Prop}{bs ss:List Int}{key:Int}{c:DCe}(hc:mH K c):(qQ bs ss key c).1=c.1/\(c.1=0->(qQ bs ss key c).2.1=c.2):=by
 obtain⟨c0,c1,_⟩:=hc;unfold qQ;rcases (show c.1=0\/c.1=1\/c.1=2 by omega) with e | e | e
 ·rw[oIP e];exact⟨e.symm,λ_=>rfl⟩
 ·rw[oIN (by omega),oIN (by omega)]
  cases Ku bs ss c.2 with
  | some x=>exact⟨e.symm,λh=>by omega⟩
  | none=>exact⟨e.symm,λh=>by omega⟩
 ·rw[oIN (by omega),oIP e];exact⟨e.symm,λh=>by omega⟩
def D2(cs:List DCe) (ls:List DLn) (a:Int):DCe:=
 match ls[(a / 4 % 4).toNat]? with
 | some x=>if x.1=a / 4 then x.2.2.getD (a % 4).toNat (0,0) else cs.getD a.toNat (0,0)
 | none=>(0,0)
theorem getD_some{α:Type}{l:List α}{k:Nat}{d x:α}(h:l[k]?=some x):l.getD k d=x:=by rw[oGD,h];rfl
theorem zQ{K:Int->Prop}{cs:List DCe}{ls:List DLn}{a:Int}(h:jp K cs ls) (ha:0<=a/\a < 512):kW cs ls a=some ((D2 cs ls a).1,(D2 cs ls a).2,())/\mH K (D2 cs ls a):=by
 obtain⟨a0,a1⟩:=ha;obtain⟨h1,h2,h3,h4,_⟩:=id h;unfold kW D2;rw[Int.tdiv_eq_ediv_of_nonneg a0,dQ (x:=a / 4) (by omega) (by omega)];dsimp only;rw[Int.tmod_eq_emod_of_nonneg (show 0<=a / 4 by omega),Int.tmod_eq_emod_of_nonneg a0];obtain⟨i,hi⟩:∃i:Nat,a / 4 % 4=i:=⟨(a / 4 % 4).toNat,by omega⟩;rw[hi,dN,oTN];obtain⟨x,hx⟩:∃x,ls[i]?=some x:=⟨_,oGE (by omega)⟩;simp only[oBS,show dK ls i=some x from hx,hx];by_cases hq:x.1=a / 4
 ·rcases h4 i x hx with ⟨g,_,_⟩ | ⟨_,_,_,g4,g5⟩
  ·omega
  ·obtain⟨j,hj⟩:∃j:Nat,a % 4=j:=⟨(a % 4).toNat,by omega⟩;obtain⟨y,hy⟩:∃y,x.2.2[j]?=some y:=⟨_,oGE (by omega)⟩;rw[hj,dN,oTN,oIP hq,getD_some hy,beq_iff_eq.2 hq];simp only[oCT,oBS,show dK x.2.2 j=some y from hy];exact⟨trivial,g5 y (dP hy)⟩
 ·obtain⟨j,rfl⟩:∃j:Nat,a=j:=⟨a.toNat,by omega⟩;obtain⟨y,hy⟩:∃y,cs[j]?=some y:=⟨_,oGE (by omega)⟩;rw[oIN hq,oBF hq,dN,oTN,getD_some hy];simp only[oCF,oBS,show dK cs j=some y from hy];exact⟨trivial,h2 y (dP hy)⟩
def kB(call:Int):List Int:=
 if call=0\/call=8\/call=9\/call=11\/call=12 then [78] else if call=1\/call=2 then [72,80,78] else if call=3 then [78,78] else if call=4 then [72] else if call=5 then [72,78]
 else if call=10 then [78,88] else if call=13\/call=14 then [78,80,78] else []
theorem I7(call:Int):(kB call).length<=3:=by
 unfold kB
 repeat' split
 all_goals simp
def BOk(b:ByteArray) (l:List Int):Prop:=zA b=(l.length:Int)/\∀j:Nat,yR b j=l[j]?
theorem OZ:BOk (bytes []) []:=⟨rfl,λj=>rfl⟩
theorem OY{a:Nat}(h:a < 256):BOk (bytes [a]) [(a:Int)]:=⟨rfl,λj=>by
 match j with
 | 0=>show some (((UInt8.ofNat a).toNat:Nat):Int)=some (a:Int);simp;omega
 | n+1=>rfl⟩
theorem OX{a b:Nat}(h:a < 256) (hb:b < 256):BOk (bytes [a,b]) [(a:Int),(b:Int)]:=⟨rfl,λj=>by
 match j with
 | 0=>show some (((UInt8.ofNat a).toNat:Nat):Int)=some (a:Int);simp;omega
 | 1=>show some (((UInt8.ofNat b).toNat:Nat):Int)=some (b:Int);simp;omega
 | n+2=>rfl⟩
theorem OW{a b c:Nat}(h:a < 256) (hb:b < 256) (hc:c < 256):BOk (bytes [a,b,c]) [(a:Int),(b:Int),(c:Int)]:=⟨rfl,λj=>by
 match j with
 | 0=>show some (((UInt8.ofNat a).toNat:Nat):Int)=some (a:Int);simp;omega
 | 1=>show some (((UInt8.ofNat b).toNat:Nat):Int)=some (b:Int);simp;omega
 | 2=>show some (((UInt8.ofNat c).toNat:Nat):Int)=some (c:Int);simp;omega
 | n+3=>rfl⟩
theorem tT{call:Int}(h:0<=call/\call<=15):call=0\/call=1\/call=2\/call=3\/call=4\/call=5\/call=6\/call=7\/call=8\/call=9\/call=10\/call=11\/call=12\/call=13\/call=14\/call=15:=by omega
theorem zS{call:Int}(h:0<=call/\call<=15):∃b,jE call=some (b,())/\BOk b (kB call):=by
 rcases tT h with rfl | rfl | rfl | rfl | rfl | rfl | rfl | rfl | rfl | rfl | rfl | rfl | rfl | rfl | rfl | rfl
 all_goals first
  | exact⟨_,rfl,OZ⟩
  | exact⟨_,rfl,OY (by decide)⟩
  | exact⟨_,rfl,OX (by decide) (by decide)⟩
  | exact⟨_,rfl,OW (by decide) (by decide) (by decide)⟩
def K8(k t:Int):Bool:=if k=78 then t==0 else if k=72 then t==2 else if k=80 then t==1 else true
theorem Js(k t:Int):kT k t=some (K8 k t,()):=by
 unfold kT K8;by_cases h1:k=78
 ·simp[h1]
 ·by_cases h2:k=72
  ·simp[h2]
  ·by_cases h3:k=80
   ·simp[h3]
   ·simp[h1,h2,h3,oBF h1,oBF h2,oBF h3]
def qt(call:Int):Int:=if call=1\/call=13 then 1 else if call=2\/call=14 then 2 else 0
theorem s7{call:Int}(h:0<=call/\call<=15):gV call=some (qt call,()):=by
 rcases tT h with rfl | rfl | rfl | rfl | rfl | rfl | rfl | rfl | rfl | rfl | rfl | rfl | rfl | rfl | rfl | rfl<;>rfl
theorem uV{call:Int}(h:0<=call/\call<=15):gi call=some (((kB call).length:Int),()):=by
 obtain⟨b,e,hb⟩:=zS h;unfold gi;rw[oDF (show ¬ call < 0 by omega),oDF (show ¬ call > 15 by omega),e];simp only[oCF,oBS,hb.1]
theorem HB{bs ss:List Int}{key t v n:Int}(h:LV bs ss) (hv:W16 v) (hn:0<=n/\n<=65535):Ok (kz bs key ss t v n) λr=>∃a e,r=(a,e,())/\(e=0->t=1/\a=v/\∃(j:Nat) (b z:Int),bs[j]?=some b/\ss[j]?=some z/\b<=v/\v+n<=b+z/\v < b+z):=by
 obtain⟨v0,v1⟩:=hv;unfold kz
 (with_reducible refine dG (λhca=>?_) λhca=>?_)
 ·exact Ok.ret ⟨_,_,rfl,λh=>by omega⟩
 rw[dV (x:=v) (by omega) (by omega)];dsimp only;rw[yZ h ⟨v0,v1⟩];simp only[oBS]
 cases e:Ku bs ss v with
 | none=>exact Ok.ret ⟨_,_,rfl,λh=>by omega⟩
 | some x=>
  obtain⟨r,o⟩:=x;obtain⟨j,b,z,rfl,rfl,h1,h2,h3,h4⟩:=BM h.2.1 e;have hj:=(oGS h1).1;have hr:=h.2.2 j hj;unfold vi at hr;rw[eG h1,eG h2] at hr;have hz:=h.1.2.2 z (dP h2);dsimp only;rw[oDF (show ¬ n < 0 by omega),dN];simp only[oNT,oCF,oBS,show dK ss j=some z from h2];rw[dQ (x:=z - (v - b)) (by omega) (by omega)]
  (with_reducible refine dG (λhcb=>?_) λhcb=>?_)
  ·exact Ok.ret ⟨_,_,rfl,λh=>by omega⟩
  ·exact Ok.ret ⟨_,_,rfl,λ_=>⟨hca,dV (by omega) (by omega),j,b,z,h1,h2,h3,by omega,h4⟩⟩
structure JT (call:Int) (m:Int) (bs ss:List Int) (rs:List DCe):Prop where
 fit:∀(j:Nat) k c,(kB call)[j]?=some k->rs[j]?=some c->K8 k c.1=true
 buf:0 < qt call->∃p q,rs[1]?=some p/\rs[2]?=some q/\q.2<=16/\p.1=1/\∃(j:Nat) (b z:Int),bs[j]?=some b/\ss[j]?=some z/\b<=p.2/\p.2+q.2<=b+z
 code:call=10\/call=12->∃c,rs[0]?=some c/\c.2 < m
theorem EO{call m:Int}{bs ss:List Int}{rs:List DCe}(h:JT call m bs ss rs):Ok (some ((0:Int),())) λr=>∃e,r=(e,())/\0<=e/\e<=6/\(e=0->JT call m bs ss rs):=Ok.ret ⟨0,rfl,by decide,by decide,λ_=>h⟩
theorem xg{call m:Int}{bs ss:List Int}{rs:List DCe}:Ok (some ((6:Int),())) λr=>∃e,r=(e,())/\0<=e/\e<=6/\(e=0->JT call m bs ss rs):=Ok.ret ⟨6,rfl,by decide,by decide,λh=>absurd h (by decide)⟩
theorem Hn{n key:Int}{code:List DIn}{ss bs:List Int}{d:List (List Int)}{cs:List DCe}{ls:List DLn}{ts:List DTh}{i:Nat}{t:DTh}{x:DIn}(h:MOk n ss bs cs ls ts) (ht:ts[i]?=some t) (hp1:1<=t.2.2.1)
 (hx:code[(t.2.2.1 - 1).toNat]?=some x) (hc:0<=x.2.2.2.2/\x.2.2.2.2<=15):Ok (lz code ss d bs key cs ls ts (i:Int)) λr=>∃e,r=(e,())/\0<=e/\e<=6/\(e=0->JT x.2.2.2.2 code.length bs ss t.2.1):=by
 have hok:=h.thr t (dP ht);obtain⟨_,hl,hr,⟨p0,p1⟩,_⟩:=id hok;obtain⟨o,A,B,C,call⟩:=x;dsimp only at hc ⊢;obtain⟨b,eb,hb1,hb2⟩:=zS hc;have hk3:=I7 call;obtain⟨st,rs,pc,rest⟩:=t;dsimp only at *;obtain⟨j,hj⟩:∃j:Nat,pc - 1=j:=⟨(pc - 1).toNat,by omega⟩;rw[hj,oTN] at hx;unfold lz;rw[dN];simp only[oBS,show dK ts i=some (st,rs,pc,rest) from ht];rw[dQ (x:=pc - 1) (by omega) (by omega),hj,dN];simp only[oBS,show dK code j=some (o,A,B,C,call) from hx,eb,hb1];obtain⟨c0,hc0⟩:∃c,rs[0]?=some c:=⟨_,oGE (by omega)⟩;obtain⟨c1,hc1⟩:∃c,rs[1]?=some c:=⟨_,oGE (by omega)⟩;obtain⟨c2,hc2⟩:∃c,rs[2]?=some c:=⟨_,oGE (by omega)⟩;have v0:=hr c0 (dP hc0);have v1:=hr c1 (dP hc1);have v2:=hr c2 (dP hc2);have g0:dK rs 0=some c0:=hc0;have g1:dK rs 1=some c1:=hc1;have g2:dK rs 2=some c2:=hc2
 obtain⟨y,e,hy⟩:=fH (f:=lh) (n:=NN) (s:=(call,b,((kB call).length:Int),0,code,ss,d,bs,key,cs,ls,ts,st,rs,pc,rest.1,rest.2.1,rest.2.2.1,rest.2.2.2.1,rest.2.2.2.2,()))
  (P:=λs'=>∃q:Nat,s'=(call,b,((kB call).length:Int),(q:Int),code,ss,d,bs,key,cs,ls,ts,st,rs,pc,rest.1,rest.2.1,rest.2.2.1,rest.2.2.2.1,rest.2.2.2.2,())/\q<=(kB call).length/\∀(j:Nat) k c,j < q->(kB call)[j]?=some k->rs[j]?=some c->K8 k c.1=true)
  (R:=λr=>r=.inl (6,())\/(∃q,r=.inr (call,b,((kB call).length:Int),q,false,code,ss,d,bs,key,cs,ls,ts,st,rs,pc,rest.1,rest.2.1,rest.2.2.1,rest.2.2.2.1,rest.2.2.2.2,())/\∀(j:Nat) k c,(kB call)[j]?=some k->rs[j]?=some c->K8 k c.1=true))
  (m:=λs'=>(s'.2.2.1 - s'.2.2.2.1).toNat) ⟨0,rfl,by omega,λj k c hj=>by omega⟩ (by unfold NN;dsimp only;omega) (by
   rintro _ ⟨q,rfl,hq,hfit⟩;unfold lh;dsimp only
   (with_reducible refine dG (λhca=>?_) λhca=>?_)
   ·rw[dN];obtain⟨k,hk⟩:∃k,(kB call)[q]?=some k:=⟨_,oGE (by omega)⟩;obtain⟨c,hcq⟩:∃c,rs[q]?=some c:=⟨_,oGE (by omega)⟩;simp only[oBS,hb2 q,hk,show dK rs q=some c from hcq,Js]
    (with_reducible refine dG (λhcb=>?_) λhcb=>?_)
    ·exact Ok.ret (.inl rfl)
    ·rw[dQ (x:=(q:Int)+1) (by omega) (by omega)];refine Ok.ret ⟨⟨q+1,rfl,by omega,λj' k' c' hj' h1 h2=>?_⟩,by dsimp only;omega⟩;by_cases hjq:j'=q
     ·subst hjq;rw[hk] at h1;rw[hcq] at h2;cases h1;cases h2;exact hcb
     ·exact hfit j' k' c' (by omega) h1 h2
   ·refine Ok.ret (.inr ⟨_,rfl,λj k c h1 h2=>hfit j k c ?_ h1 h2⟩);have:=(oGS h1).1
    omega)
 rw[e];rcases hy with rfl | ⟨q,rfl,hfit⟩
 ·exact xg
 dsimp only;rw[s7 hc];delta dM;simp only[oBS,g0,g1,g2];rw[dV (x:=c2.2) (by have:=v2.2.2.1;omega) (by have:=v2.2.2.2.1;omega),dV (x:=c0.2) (by have:=v0.2.2.1;omega) (by have:=v0.2.2.2.1;omega)]
 have fin:(0 < qt call->∃p q,rs[1]?=some p/\rs[2]?=some q/\q.2<=16/\p.1=1/\∃(j:Nat) (b z:Int),bs[j]?=some b/\ss[j]?=some z/\b<=p.2/\p.2+q.2<=b+z)->Ok ((bif (call==10) then (some ((decide (c0.2>=(code.length:Int))),())) else
  bif (call==12) then (some ((decide (c0.2>=(code.length:Int))),())) else some (false,()):Option (Bool×Unit)).bind λ(x35,_)=>bif x35 then (some ((6:Int),())) else some (0,()))
  λr=>∃e,r=(e,())/\0<=e/\e<=6/\(e=0->JT call code.length bs ss rs):=by
  intro hbuf;by_cases q10:call=10
  ·simp only[beq_iff_eq.2 q10,oCT,oBS]
   (with_reducible refine dG (λhcb=>?_) λhcb=>?_)
   ·exact xg
   ·exact EO ⟨hfit,hbuf,λ_=>⟨c0,hc0,by omega⟩⟩
  ·by_cases q12:call=12
   ·simp only[oBF q10,beq_iff_eq.2 q12,oCT,oCF,oBS]
    (with_reducible refine dG (λhcb=>?_) λhcb=>?_)
    ·exact xg
    ·exact EO ⟨hfit,hbuf,λ_=>⟨c0,hc0,by omega⟩⟩
   ·simp only[oBF q10,oBF q12,oCF,oBS];exact EO ⟨hfit,hbuf,λh=>by omega⟩
 (with_reducible refine dG (λhca=>?_) λhca=>?_)
 ·refine (HB (t:=c1.1) (v:=c1.2) (n:=c2.2) h.lay ⟨v1.2.2.1,v1.2.2.2.1⟩ ⟨v2.2.2.1,v2.2.2.2.1⟩).bind ?_;rintro _ ⟨a,e,rfl,he⟩;dsimp only
  (with_reducible refine dG (λhcb=>?_) λhcb=>?_)
  ·exact xg
  obtain⟨w1,_,j,b',z,w2,w3,w4,w5,w6⟩:=he hcb
  (with_reducible refine dG (λhcc=>?_) λhcc=>?_)
  ·exact xg
  exact fin λ_=>⟨c1,c2,hc1,hc2,by omega,w1,j,b',z,w2,w3,w4,w5⟩
 ·exact fin λh=>by omega
structure yJ (n:Int) (ss:List Int) (i stop trap count pc call:Int) (args data:List DCn):Prop where
 hthr:0<=i/\i < 4
 hstop:0<=stop/\stop<=3
 htrap:0<=trap/\trap<=6
 hcnt:0<=count/\count<=n
 hpc:0<=pc/\pc<=255
 hcall:0<=call/\call<=15
 hargs:args.length<=3/\∀c∈args,Pr ss c
 hdata:data.length<=16/\∀c∈data,Pr ss c
 hkind:stop=1->args.length=(kB call).length/\∀(j:Nat) k a,(kB call)[j]?=some k->args[j]?=some a->K8 k a.1=true
 hbuf:stop=1->qt call=2->∃a,args[2]?=some a/\a.2.1<=16
def O5(stop trap:Int) (t':DTh):Prop:=(stop=0/\t'.1=1)\/(stop=1/\t'.1=2)\/(stop=2/\t'.1=4/\t'.2.2.2.2.2.2.1=trap)\/(stop=3/\t'.1≠1)
def FX(n key:Int) (ss bs:List Int) (ts:List DTh) (i:Nat) (r:(List (Int))×Int×(List DCe)×(List DLn)×(List DTh)×Int×Int×Int×Int×Int×Int×(List DCn)×(List DCn)×Int×Unit):Prop:=
 ∃cs' ls' t' stop trap call args data,r=(bs,key,cs',ls',ts.set i t',(i:Int),stop,trap,t'.2.2.2.1,t'.2.2.1,call,args,data,0,())/\jp (RK bs ss) cs' ls'/\xB (RK bs ss) n t' /\
  yJ n ss i stop trap t'.2.2.2.1 t'.2.2.1 call args data/\O5 stop trap t'/\(stop=3->ts[i]?=some t')
theorem vl{n:Int}{ss bs:List Int}{i:Nat}{t':DTh}{stop trap:Int}(hi:i < 4) (ht:xB (RK bs ss) n t') (hs:0<=stop/\stop<=3) (hs1:stop≠1) (htr:0<=trap/\trap<=6):yJ n ss i stop trap t'.2.2.2.1 t'.2.2.1 0 [] []:=
 ⟨⟨by omega,by omega⟩,hs,htr,ht.count,ht.pc,by decide,⟨by decide,ee⟩,⟨by decide,ee⟩,λh=>absurd h hs1,λh=>absurd h hs1⟩
theorem gJ{α β:Type}(f:α->β) {l:List α}{k:Nat}{x:α}(h:l[k]?=some x):(l.take k).map f++[f x]=(l.take (k+1)).map f:=by
 rw[List.take_add_one,h];simp
theorem ni{β:Type}(f:Nat->β) (k:Nat):(List.range k).map f++[f k]=(List.range (k+1)).map f:=by
 rw[List.range_succ];simp
set_option maxHeartbeats 4000000 in
theorem vK{n key k:Int}{code:List DIn}{ss bs:List Int}{d:List (List Int)}{cs:List DCe}{ls:List DLn}{ts:List DTh}{i:Nat}(hp:j9 code ss d) (h:MOk n ss bs cs ls ts) (hn0:0<=n) (hn:n+64<=1099511627776) (hi:i < 4) (hk:1<=k/\k<=64) :
 Ok (kU code ss d bs key cs ls ts (i:Int) k) (FX (n+64) key ss bs ts i):=by
 have htl:=h.tlen
 have hil:i < ts.length:=by omega
 unfold kU;refine (J6 hp h hn0 hn hi hk).bind ?_;rintro _ ⟨s,cs',ls',t',rfl,hm,ht',hs⟩;have hM:MOk (n+64) ss bs cs' ls' (ts.set i t'):=(h.mono (show n<=n+64 by omega)).set hm ht';have hgt:(ts.set i t')[i]?=some t':=gl hil t';dsimp only;simp only[bne_self_eq_false,oCF,dN,oBS,gl hil];rcases hs with ⟨rfl,hs1,hs2⟩ | ⟨rfl,hs1⟩ | ⟨rfl,hs1⟩ | ⟨rfl,hs1,x,hs2,hs3,hs4⟩
 ·exact Ok.ret ⟨_,_,_,_,_,_,_,_,rfl,hm,ht',vl hi ht' (by decide) (by decide) (by decide),.inr (.inr (.inr ⟨rfl,hs2⟩)),λ_=>hs1⟩
 ·exact Ok.ret ⟨_,_,_,_,_,_,_,_,rfl,hm,ht',vl hi ht' (by decide) (by decide) (by decide),.inl ⟨rfl,hs1⟩,λh=>absurd h (by decide)⟩
 ·exact Ok.ret ⟨_,_,_,_,_,_,_,_,rfl,hm,ht',vl hi ht' (by decide) (by decide) ht'.trap,.inr (.inr (.inl ⟨rfl,hs1,rfl⟩)),λh=>absurd h (by decide)⟩
 ·have hins:=hp.ins x (dP hs3);have hcall:0<=x.2.2.2.2/\x.2.2.2.2<=15:=⟨hins.imm.1,hins.sys hs4⟩;obtain⟨_,ec,e,rfl,he0,he6,hcok⟩:=Hn (key:=key) (d:=d) hM hgt hs2 hs3 hcall;obtain⟨o,A,B,C,call⟩:=x;dsimp only at hcall hcok;have hk3:=I7 call;have hl8:=ht'.len;obtain⟨j,hj⟩:∃j:Nat,t'.2.2.1 - 1=j:=⟨(t'.2.2.1 - 1).toNat,by omega⟩;have hpc:=ht'.pc;rw[hj,oTN] at hs3;rw[dQ (x:=t'.2.2.1 - 1) (by omega) (by omega),hj];simp only[Int.reduceBEq,oCT,oCF,ec,oBS,dN,show dK code j=some (o,A,B,C,call) from hs3,uV hcall];by_cases hne:e=0
  ·subst hne;obtain⟨hfit,hbuf,_⟩:=hcok rfl
   have e1:dU ia NN (((kB call).length:Int),0,code,ss,d,(),0,(),(),(),0,0,0,0,0,0,(),(),bs,key,cs',ls',ts.set i t',t'.1,t'.2.1,t'.2.2.1,t'.2.2.2.1,t'.2.2.2.2.1,t'.2.2.2.2.2.1,t'.2.2.2.2.2.2.1,t'.2.2.2.2.2.2.2,(i:Int),1,0,t'.2.2.2.1,t'.2.2.1,call,[],(),()) =
    some (((kB call).length:Int),((kB call).length:Int),false,code,ss,d,(),0,(),(),(),0,0,0,0,0,0,(),(),bs,key,cs',ls',ts.set i t',t'.1,t'.2.1,t'.2.2.1,t'.2.2.2.1,t'.2.2.2.2.1,t'.2.2.2.2.2.1,t'.2.2.2.2.2.2.1,t'.2.2.2.2.2.2.2,(i:Int),1,0,t'.2.2.2.1,t'.2.2.1,call,(t'.2.1.take (kB call).length).map (qQ bs ss key),(),()):=by
    refine l8 (f:=ia) (N:=NN) (st:=λq=>(((kB call).length:Int),(q:Int),code,ss,d,(),0,(),(),(),0,0,0,0,0,0,(),(),bs,key,cs',ls',ts.set i t',t'.1,t'.2.1,t'.2.2.1,t'.2.2.2.1,t'.2.2.2.2.1,t'.2.2.2.2.2.1,t'.2.2.2.2.2.2.1,t'.2.2.2.2.2.2.2,(i:Int),1,0,t'.2.2.2.1,t'.2.2.1,call,(t'.2.1.take q).map (qQ bs ss key),(),())) (n:=(kB call).length) (by unfold NN;omega) ?_ ?_
    ·intro q hq;unfold ia;dsimp only;rw[oDT (show (q:Int) < (kB call).length by omega),dN];simp only[oCT,oBS];refine Ok.get (by omega) λc hc=>?_;rw[qr h.lay (ht'.regs c (dP hc))];simp only[oBS];refine dH (dT (by simp;omega)) ?_;rw[dQ (x:=(q:Int)+1) (by omega) (by omega)];refine Ok.ret ?_;rw[<- gJ (qQ bs ss key) hc];rfl
    ·unfold ia;dsimp only;rw[oDF (show ¬ ((kB call).length:Int) < (kB call).length by omega)];exact Ok.ret rfl
   have hargs:((t'.2.1.take (kB call).length).map (qQ bs ss key)).length=(kB call).length:=by rw[List.length_map,oLT];omega
   have hgetA:∀(j:Nat) a,((t'.2.1.take (kB call).length).map (qQ bs ss key))[j]?=some a->∃c,t'.2.1[j]?=some c/\a=qQ bs ss key c:=by
    intro j a ha;rw[List.getElem?_map] at ha
    cases hc:(t'.2.1.take (kB call).length)[j]? with
    | none=>rw[hc] at ha;cases ha
    | some c=>
     rw[hc] at ha
     injection ha with ha
     refine⟨c,?_,ha.symm⟩;rw[List.getElem?_take] at hc;split at hc
     ·exact hc
     ·cases hc
   have hargsPr:∀c∈(t'.2.1.take (kB call).length).map (qQ bs ss key),Pr ss c:=by
    intro c hc;obtain⟨c',hc',rfl⟩:=List.mem_map.1 hc;exact Bp h.lay (ht'.regs c' (List.mem_of_mem_take hc'))
   have hkinds:∀(j:Nat) k a,(kB call)[j]?=some k->((t'.2.1.take (kB call).length).map (qQ bs ss key))[j]?=some a->K8 k a.1=true:=by
    intro j k a hk ha;obtain⟨c,hc,rfl⟩:=hgetA j a ha;rw[(FQ (ht'.regs c (dP hc))).1];exact hfit j k c hk hc
   have hbuf2:qt call=2->∃a,((t'.2.1.take (kB call).length).map (qQ bs ss key))[2]?=some a/\a.2.1<=16:=by
    intro hb;obtain⟨p,q,hp1,hq2,hq16,_⟩:=hbuf (by omega)
    have hkk:(kB call)[2]?=some 78:=by
     have:call=2\/call=14:=by unfold qt at hb;split at hb<;>first | omega | (split at hb<;>omega)
     rcases this with rfl | rfl<;>rfl
    have hf:=hfit 2 78 q hkk hq2;have hl3:=(oGS hkk).1;refine⟨qQ bs ss key q,?_,?_⟩
    ·rw[List.getElem?_map,List.getElem?_take,oIP hl3,hq2];rfl
    ·have hq:=(FQ (bs:=bs) (ss:=ss) (key:=key) (ht'.regs q (dP hq2))).2 (by unfold K8 at hf;simpa using hf);rw[hq];exact hq16
   simp only[e1,bne_self_eq_false,oCF,oBS,s7 hcall]
   have fin:∀data:List DCn,data.length<=16->(∀c∈data,Pr ss c)->Ok (some (bs,key,cs',ls',ts.set i t',(i:Int),(1:Int),(0:Int),t'.2.2.2.1,t'.2.2.1,call,(t'.2.1.take (kB call).length).map (qQ bs ss key),data,(0:Int),())) (FX (n+64) key ss bs ts i):=
    λdata h1 h2=>Ok.ret ⟨_,_,_,_,_,_,_,_,rfl,hm,ht',⟨⟨by omega,by omega⟩,by decide,by decide,ht'.count,ht'.pc,hcall,⟨by omega,hargsPr⟩,⟨h1,h2⟩,λ_=>⟨hargs,hkinds⟩,λ_=>hbuf2⟩,.inr (.inl ⟨rfl,hs1⟩),λh=>absurd h (by decide)⟩
   by_cases hb1:qt call=1
   ·obtain⟨p,q,hp1,hq2,hq16,_,jr,b,z,hbz1,hbz2,hbz3,hbz4⟩:=hbuf (by omega);have hp':=ht'.regs p (dP hp1);have hq':=ht'.regs q (dP hq2);have hjr:=(oGS hbz1).1;have hreg:=h.lay.2.2 jr hjr;unfold vi at hreg;rw[eG hbz1,eG hbz2] at hreg;obtain⟨m,hqm⟩:∃m:Nat,q.2=m:=⟨q.2.toNat,by have:=hq'.2.2.1;omega⟩
    have e2:dU hZ NN ((m:Int),0,code,ss,d,(),0,(),(),(),0,0,0,0,0,0,(),(),bs,key,cs',ls',ts.set i t',t'.1,t'.2.1,t'.2.2.1,t'.2.2.2.1,t'.2.2.2.2.1,t'.2.2.2.2.2.1,t'.2.2.2.2.2.2.1,t'.2.2.2.2.2.2.2,(i:Int),1,0,t'.2.2.2.1,t'.2.2.1,call,(t'.2.1.take (kB call).length).map (qQ bs ss key),[],()) =
     some ((m:Int),(m:Int),false,code,ss,d,(),0,(),(),(),0,0,0,0,0,0,(),(),bs,key,cs',ls',ts.set i t',t'.1,t'.2.1,t'.2.2.1,t'.2.2.2.1,t'.2.2.2.2.1,t'.2.2.2.2.2.1,t'.2.2.2.2.2.2.1,t'.2.2.2.2.2.2.2,(i:Int),1,0,t'.2.2.2.1,t'.2.2.1,call,(t'.2.1.take (kB call).length).map (qQ bs ss key),(List.range m).map (λj:Nat=>qQ bs ss key (D2 cs' ls' (p.2+(j:Int)))),()):=by
     refine l8 (f:=hZ) (N:=NN) (st:=λq=>((m:Int),(q:Int),code,ss,d,(),0,(),(),(),0,0,0,0,0,0,(),(),bs,key,cs',ls',ts.set i t',t'.1,t'.2.1,t'.2.2.1,t'.2.2.2.1,t'.2.2.2.2.1,t'.2.2.2.2.2.1,t'.2.2.2.2.2.2.1,t'.2.2.2.2.2.2.2,(i:Int),1,0,t'.2.2.2.1,t'.2.2.1,call,(t'.2.1.take (kB call).length).map (qQ bs ss key),(List.range q).map (λj:Nat=>qQ bs ss key (D2 cs' ls' (p.2+(j:Int)))),())) (n:=m) (by unfold NN;omega) ?_ ?_
     ·intro v hv;unfold hZ;dsimp only;have hp0:=hp'.2.2.1;have hp01:=hp'.2.2.2.1;rw[oDT (show (v:Int) < m by omega)];simp only[oCT,oBS,show dK t'.2.1 1=some p from hp1];rw[dV (x:=p.2) (by omega) (by omega),dQ (x:=p.2+v) (by omega) (by omega)];obtain⟨hlk,hlv⟩:=zQ (a:=p.2+v) hm ⟨by omega,by omega⟩;rw[hlk];simp only[oBS];rw[qr h.lay hlv];simp only[oBS];refine dH (dT (by simp;omega)) ?_;rw[dQ (x:=(v:Int)+1) (by omega) (by omega)];refine Ok.ret ?_;rw[<- ni];rfl
     ·unfold hZ;dsimp only;rw[oDF (show ¬ (m:Int) < m by omega)];exact Ok.ret rfl
    simp only[hb1,BEq.rfl,oCT,show dK t'.2.1 2=some q from hq2,oBS];rw[dV (x:=q.2) (by omega) (by omega),hqm,e2];simp only[oBS];refine fin _ (by rw[List.length_map,List.length_range];omega) ?_;intro c hc;obtain⟨v,hv,rfl⟩:=List.mem_map.1 hc;have hv:=List.mem_range.1 hv;have hp0:=hp'.2.2.1;exact Bp h.lay (zQ (a:=p.2+v) hm ⟨by omega,by omega⟩).2
   ·simp only[oBF hb1,oCF];exact fin [] (by decide) ee
  ·unfold mg ky;simp only[bne_iff_ne.2 hne,oCT];rw[dT (show 4<=1000/\0+t'.2.1.length<=1000000 by omega)];simp only[oCT,oBS,dN,gl hil,nD hil];exact Ok.ret ⟨_,_,_,_,_,_,_,_,rfl,hm,ht'.ended ⟨he0,he6⟩,vl hi (ht'.ended ⟨he0,he6⟩) (by decide) (by decide) ⟨he0,he6⟩,.inr (.inr (.inl ⟨rfl,rfl,rfl⟩)),λh=>absurd h (by decide)⟩
theorem D1{a b:Int}:mmR false a b<=a/\mmR false a b<=b/\(mmR false a b=a\/mmR false a b=b):=by
 unfold mmR;simp only[Bool.false_eq_true,if_false];split<;>omega
theorem kj{α:Type}{l:List α}{i j:Nat}(h:i≠j) (a:α):(l.set i a)[j]?=l[j]?:=by
 rw[List.getElem?_set];simp[h]
theorem Ng.setFile{d:List (List DCn)}{o:DOp}{f:Nat}{x y:List DCn}(h:Ng d o) (hf:d[f]?=some x) (hxy:x.length<=y.length):Ng (d.set f y) o:=by
 rcases h with h | ⟨h1,z,h2,h3,h4⟩
 ·exact .inl h
 ·refine .inr ⟨h1,?_⟩;by_cases e:f=o.1.toNat
  ·subst e;rw[hf] at h2;cases h2;exact⟨y,gl (oGS hf).1 y,h3,by omega⟩
  ·exact⟨z,by rw[kj e];exact h2,h3,h4⟩
theorem ft.setFile{ss:List Int}{d:List (List DCn)}{os:List DOp}{f:Nat}{x y:List DCn}(h:ft ss d os) (hf:d[f]?=some x) (h64:y.length<=64) (hc:∀c∈y,Pr ss c) (hxy:x.length<=y.length):ft ss (d.set f y) os:=
 ⟨by rw[List.length_set];exact h.dlen,im h.flen h64,im h.cells hc,h.olen,λo ho=>(h.opens o ho).setFile hf hxy⟩
theorem ft.setOpen{ss:List Int}{d:List (List DCn)}{os:List DOp}{i:Nat}{o:DOp}(h:ft ss d os) (ho:Ng d o):ft ss d (os.set i o):=
 ⟨h.dlen,h.flen,h.cells,by rw[List.length_set];exact h.olen,im h.opens ho⟩
theorem zM{ss:List Int}{d:List (List DCn)}{os:List DOp}{h:Int}(hF:ft ss d os):∃b,gu d os h=some (b,())/\(b=true->∃(j f:Nat) (o:DOp) (x:List DCn),h=j/\j < 8/\os[j]?=some o/\o.1=f/\d[f]?=some x/\0<=o.2.1/\o.2.1<=x.length):=by
 have:Ok (gu d os h) λr=>∃b,r=(b,())/\(b=true->∃(j f:Nat) (o:DOp) (x:List DCn),h=j/\j < 8/\os[j]?=some o/\o.1=f/\d[f]?=some x/\0<=o.2.1/\o.2.1<=x.length):=by
  unfold gu;delta dM;simp only[hF.olen]
  (with_reducible refine dG (λhca=>?_) λhca=>?_)
  ·(with_reducible refine dG (λhcb=>?_) λhcb=>?_)
   ·refine Ok.nat (by omega) λj hj=>?_;have h8:=hF.olen;refine Ok.get (by omega) λo ho=>?_;refine Ok.ret ⟨_,rfl,λhb=>?_⟩;rcases hF.opens o (dP ho) with ⟨h1,_⟩ | ⟨h1,x,h2,h3,h4⟩
    ·rw[h1] at hb;simp at hb
    ·exact⟨j,o.1.toNat,o,x,hj,by omega,ho,by omega,h2,h3,h4⟩
   ·exact Ok.ret ⟨_,rfl,λh=>by cases h⟩
  ·exact Ok.ret ⟨_,rfl,λh=>by cases h⟩
 obtain⟨_,e,b,rfl,hb⟩:=this;exact⟨b,e,hb⟩
theorem sA{ss:List Int}{d:List (List DCn)}{os:List DOp}(h:ft ss d os):fF d os=some (d,os,()):=
 copy17_ok (by have:=h.dlen;omega) (λx hx=>by have:=h.flen x hx;omega) (by have:=h.olen;omega)
theorem F4{ss:List Int}{d:List (List DCn)}{os:List DOp}{h:Int}{l:List DCn}(hs:xC ss) (hF:ft ss d os) (hl:l.length<=16) (hlc:∀c∈l,Pr ss c) :
 Ok (lp d os h l) λr=>∃d' os' n b,r=(d',os',n,b,())/\ft ss d' os'/\0<=n/\n<=16:=by
 obtain⟨b,eo,hb⟩:=zM (h:=h) hF;unfold lp;rw[sA hF];simp only[oBS,eo]
 cases b with
 | false=>
  simp only[Bool.not_false,oCT,oBS];exact Ok.ret ⟨_,_,_,_,rfl,hF,by decide,by decide⟩
 | true=>
  obtain⟨j,f,o,x,rfl,hj,ho,hof,hx,o0,o1⟩:=hb rfl;have hg:dK os j=some o:=ho;have hgx:dK d f=some x:=hx;have hjl:=(oGS ho).1;have hfl:=(oGS hx).1;have hx64:=hF.flen x (dP hx);simp only[oNT,oCF,dN,oBS,hg]
  cases hw:o.2.2 with
  | false=>
   simp only[Bool.not_false,oCT,oBS];exact Ok.ret ⟨_,_,_,_,rfl,hF,by decide,by decide⟩
  | true=>
   delta dM;simp only[oNT,oCF,oBS,jk (n:=(l.length:Int)) hs hlc (by omega) (by omega),dN,hg,hof,hgx];rw[dQ (x:=64 - o.2.1) (by omega) (by omega)];obtain⟨m1,m2,m3⟩:=D1 (a:=(l.length:Int)) (b:=64 - o.2.1);generalize mmR false (l.length:Int) (64 - o.2.1)=k at m1 m2 m3
   refine Ok.loop (P:=λs'=>∃(i:Nat) (y:List DCn),s'=(l,j,k,k,(i:Int),(),(),d,f,os,y,())/\(i:Int)<=k/\(∀c∈y,Pr ss c)/\x.length<=y.length/\o.2.1+i<=y.length/\y.length<=64)
    (R:=λr=>∃y:List DCn,r=(l,j,k,k,k,false,(),(),d,f,os,y,())/\(∀c∈y,Pr ss c)/\x.length<=y.length/\o.2.1+k<=y.length/\y.length<=64) (m:=λs'=>(k - s'.2.2.2.2.1).toNat) ⟨0,x,rfl,by omega,hF.cells x (dP hx),by omega,by omega,hx64⟩ (by unfold NN;dsimp only;omega) ?_ ?_
   ·rintro _ ⟨i,y,rfl,hi,hy,hxy,hoy,hy64⟩;unfold oP;dsimp only
    (with_reducible refine dG (λhca=>?_) λhca=>?_)
    ·delta dM;simp only[hg,oBS,dN];rw[dQ (x:=o.2.1+i) (by omega) (by omega)];obtain⟨c,hc⟩:∃c,l[i]?=some c:=⟨_,oGE (by omega)⟩;have hgc:dK l i=some c:=hc;have hcp:=hlc c (dP hc);simp only[hgc,oBS];refine Ok.bind (P:=λr=>∃y':List DCn,r=(l,j,k,k,(i:Int),(),(),d,f,os,y',())/\(∀c∈y',Pr ss c)/\x.length<=y'.length/\o.2.1+i+1<=y'.length/\y'.length<=64) ?_ ?_
     ·(with_reducible refine dG (λhcb=>?_) λhcb=>?_)
      ·refine Ok.nat (by omega) λq hq=>?_;refine Ok.get (by omega) λ_ hz=>?_;refine Ok.get (by omega) λ_ _=>?_;rw[eq hz];exact Ok.ret ⟨_,rfl,im hy hcp,by rw[List.length_set];omega,by rw[List.length_set];omega,by rw[List.length_set];omega⟩
      ·refine dH (dT (by simp;omega)) ?_;exact Ok.ret ⟨_,rfl,iE hy (all_cons hcp ee),by rw[eV];omega,by rw[eV,List.length_singleton];omega,by rw[eV,List.length_singleton];omega⟩
     ·rintro _ ⟨y',rfl,g1,g2,g3,g4⟩;dsimp only;rw[dQ (x:=(i:Int)+1) (by omega) (by omega)];exact Ok.ret ⟨⟨i+1,y',rfl,by omega,g1,g2,by omega,g4⟩,by dsimp only;omega⟩
    ·obtain rfl:(i:Int)=k:=by omega
     exact Ok.ret ⟨y,rfl,hy,hxy,hoy,hy64⟩
   ·rintro _ ⟨y,rfl,hy,hxy,hoy,hy64⟩;dsimp only;simp only[hg,oBS,hof,dN,hgx];refine dH (by simp) ?_;rw[dQ (x:=o.2.1+k) (by omega) (by omega),eq hx,eq ho];refine Ok.ret ⟨_,_,_,_,rfl,(hF.setFile hx hy64 hy hxy).setOpen (.inr ⟨by dsimp only;omega,y,?_,by dsimp only;omega,by dsimp only;omega⟩),by omega,by omega⟩;dsimp only;rw[hof,oTN];exact gl hfl y
theorem IA{ss:List Int}{d:List (List DCn)}{os:List DOp}{h n:Int}(hF:ft ss d os) (hn:0<=n/\n<=65535) :
 Ok (mO d os h n) λr=>(∃d' os',r=.inl (d',os',(),false,())/\ft ss d' os')\/(∃d' os' l,r=.inr (d',os',l,true,())/\ft ss d' os'/\(l.length:Int)<=n/\l.length<=64/\∀c∈l,Pr ss c):=by
 obtain⟨b,eo,hb⟩:=zM (h:=h) hF;unfold mO;rw[sA hF];simp only[oBS,eo]
 cases b with
 | false=>
  simp only[Bool.not_false,oCT,oBS];exact Ok.ret (.inl ⟨_,_,rfl,hF⟩)
 | true=>
  obtain⟨j,f,o,x,rfl,hj,ho,hof,hx,o0,o1⟩:=hb rfl;have hg:dK os j=some o:=ho;have hgx:dK d f=some x:=hx;have hx64:=hF.flen x (dP hx);rw[oDF (show ¬ n < 0 by omega)];simp only[oNT,oCF,dN,oBS,hg]
  cases hw:o.2.2 with
  | true=>exact Ok.ret (.inl ⟨_,_,rfl,hF⟩)
  | false=>
   delta dM;simp only[oCF,dN,oBS,hg,hof,hgx];rw[dQ (x:=(x.length:Int) - o.2.1) (by omega) (by omega)];obtain⟨m1,m2,m3⟩:=D1 (a:=n) (b:=(x.length:Int) - o.2.1);generalize mmR false n ((x.length:Int) - o.2.1)=k at m1 m2 m3;rw[dQ (x:=o.2.1+k) (by omega) (by omega)];refine Ok.nat o0 λp hp=>?_;refine Ok.nat (by omega) λq hq=>?_;refine dH (by unfold jo;simp;omega) ?_
   have hw2:(nu x p (Nat.sub q p)).length=q - p:=by
    unfold nu;rw[oLT,List.length_drop];show min (q - p) _=q - p;omega
   refine dH (dT (by omega)) ?_;rw[eq ho];refine Ok.ret (.inr ⟨_,_,_,rfl,hF.setOpen (.inr ⟨by dsimp only;omega,x,by dsimp only;rw[hof,oTN];exact hx,by dsimp only;omega,by dsimp only;omega⟩),?_,?_,?_⟩)
   ·rw[eV,hw2];simp;omega
   ·rw[eV,hw2];simp;omega
   ·refine iE ee λc hc=>hF.cells x (dP hx) c ?_;unfold nu at hc;exact List.mem_of_mem_drop (List.mem_of_mem_take hc)
theorem Hi{ss:List Int}{d:List (List DCn)}{os:List DOp}{h:Int}(hF:ft ss d os):Ok (lq d os h) λr=>∃d' os' b,r=(d',os',b,())/\ft ss d' os':=by
 obtain⟨b,eo,hb⟩:=zM (h:=h) hF;unfold lq;rw[sA hF];simp only[oBS,eo]
 cases b with
 | false=>exact Ok.ret ⟨_,_,_,rfl,hF⟩
 | true=>
  obtain⟨j,f,o,x,rfl,hj,ho,hof,hx,o0,o1⟩:=hb rfl;have hg:dK os j=some o:=ho;simp only[oNT,oCF,dN,oBS,hg];rw[eq ho];exact Ok.ret ⟨_,_,_,rfl,hF.setOpen (.inl ⟨rfl,rfl,rfl⟩)⟩
theorem Ip{ss:List Int}{d:List (List DCn)}{os:List DOp}{h n:Int}(hF:ft ss d os):Ok (mN d os h n) λr=>∃d' os' b,r=(d',os',b,())/\ft ss d' os':=by
 obtain⟨b,eo,hb⟩:=zM (h:=h) hF;unfold mN;rw[sA hF];simp only[oBS,eo]
 cases b with
 | false=>
  simp only[Bool.not_false,oCT,oBS];exact Ok.ret ⟨_,_,_,rfl,hF⟩
 | true=>
  obtain⟨j,f,o,x,rfl,hj,ho,hof,hx,o0,o1⟩:=hb rfl;have hg:dK os j=some o:=ho;have hgx:dK d f=some x:=hx;delta dM;simp only[oNT,oCF,dN,oBS,hg,hof,hgx];by_cases hn:n < 0
  ·simp only[oDT hn,oCT,oBS];exact Ok.ret ⟨_,_,_,rfl,hF⟩
  ·simp only[oDF hn,oCF,oBS]
   (with_reducible refine dG (λhca=>?_) λhca=>?_)
   ·exact Ok.ret ⟨_,_,_,rfl,hF⟩
   ·simp only[dN,oBS,hg];rw[eq ho];exact Ok.ret ⟨_,_,_,rfl,hF.setOpen (.inr ⟨by dsimp only;omega,x,by dsimp only;rw[hof,oTN];exact hx,by dsimp only;omega,by dsimp only;omega⟩)⟩
theorem KH{ss:List Int}{d:List (List DCn)}{os:List DOp}{file mode:Int}(hF:ft ss d os):Ok (mP d os file mode) λr=>∃d' os' h,r=(d',os',h,())/\ft ss d' os'/\-1<=h/\h<=7:=by
 have h8:=hF.olen;have hd4:=hF.dlen;unfold mP;rw[sA hF];simp only[oBS];refine Ok.loop (P:=λs'=>∃i:Nat,s'=(file,mode,(i:Int),d,os,(),(),d,os,())/\i<=8) (R:=λr=>∃i:Nat,r=(file,mode,(i:Int),false,d,os,(),(),d,os,())/\i<=8) (m:=λs'=>(8 - s'.2.2.1).toNat) ⟨0,rfl,by omega⟩ (by unfold NN;dsimp only;omega) ?_ ?_
 ·rintro _ ⟨i,rfl,hi⟩;unfold o7;delta dM;simp only[h8,dN,oBS]
  (with_reducible refine dG (λhca=>?_) λhca=>?_)
  ·refine Ok.get (by omega) λo ho=>?_
   (with_reducible refine dG (λhcb=>?_) λhcb=>?_)
   ·rw[dQ (x:=(i:Int)+1) (by omega) (by omega)];exact Ok.ret ⟨⟨i+1,rfl,by omega⟩,by dsimp only;omega⟩
   ·exact Ok.ret ⟨i,rfl,hi⟩
  ·exact Ok.ret ⟨i,rfl,hi⟩
 rintro _ ⟨i,rfl,hi⟩;delta dM;simp only[h8];have bad:ft ss d os/\(-1:Int)<=-1/\(-1:Int)<=7:=⟨hF,by decide,by decide⟩;refine Ok.bind (P:=λr=>(∃b:Bool,r=(file,mode,(i:Int),b,(),(),d,os,())/\(b=false->0<=file/\file < d.length/\i < 8))) ?_ ?_
 ·(with_reducible refine dG (λhca=>?_) λhca=>?_)
  ·exact Ok.ret ⟨true,rfl,λh=>by cases h⟩
  (with_reducible refine dG (λhcb=>?_) λhcb=>?_)
  ·exact Ok.ret ⟨true,rfl,λh=>by cases h⟩
  (with_reducible refine dG (λhcc=>?_) λhcc=>?_)
  ·exact Ok.ret ⟨true,rfl,λh=>by cases h⟩
  (with_reducible refine dG (λhcd=>?_) λhcd=>?_)
  ·exact Ok.ret ⟨true,rfl,λh=>by cases h⟩
  exact Ok.ret ⟨_,rfl,λh=>⟨by omega,by omega,by rw[beq_eq_false_iff_ne] at h;omega⟩⟩
 rintro _ ⟨b,rfl,hb⟩;dsimp only
 cases b with
 | true=>exact Ok.ret ⟨_,_,_,rfl,bad⟩
 | false=>
  obtain⟨f0,f1,hi8⟩:=hb rfl;obtain⟨f,rfl⟩:∃f:Nat,file=f:=⟨file.toNat,by omega⟩;obtain⟨x,hx⟩:∃x,d[f]?=some x:=⟨_,oGE (by omega)⟩;obtain⟨o,ho⟩:∃o,os[i]?=some o:=⟨_,oGE (by omega)⟩;have hgx:dK d f=some x:=hx;have hg:dK os i=some o:=ho;have hfl:=(oGS hx).1;have hil:=(oGS ho).1;simp only[oCF,dN,oBS,hgx,hg];by_cases h1:mode=1
  ·subst h1;simp only[BEq.rfl,oCT];rw[eq hx];simp only[h8]
   refine Ok.loop (P:=λs'=>∃(q:Nat) (os':List DOp),s'=((f:Int),1,(i:Int),((8:Nat):Int),(q:Int),(),(),d.set f [],os',())/\q<=8/\os'.length=8/\(∀(j:Nat) o,j < q->os'[j]?=some o->Ng (d.set f []) o)/\∀j:Nat,q<=j->os'[j]?=os[j]?)
    (R:=λr=>∃(z:Int) (os':List DOp),r=((f:Int),1,(i:Int),((8:Nat):Int),z,false,(),(),d.set f [],os',())/\ft ss (d.set f []) os') (m:=λs'=>(8 - s'.2.2.2.2.1).toNat) ⟨0,os,rfl,by omega,h8,λj o hj=>by omega,λ_ _=>rfl⟩ (by unfold NN;dsimp only;omega) ?_ ?_
   ·rintro _ ⟨q,os',rfl,hq,hl',ha,hr⟩;unfold o6;dsimp only
    (with_reducible refine dG (λhca=>?_) λhca=>?_)
    ·obtain⟨o',ho'⟩:∃o',os'[q]?=some o':=⟨_,oGE (by omega)⟩;have hg':dK os' q=some o':=ho';have hop:=hF.opens o' (dP (by rw[<- hr q (by omega)];exact ho'));simp only[dN,oBS,hg'];refine Ok.bind (P:=λr=>∃o2:DOp,Ng (d.set f []) o2/\r=((f:Int),1,(i:Int),((8:Nat):Int),(q:Int),(),(),d.set f [],os'.set q o2,())) ?_ ?_
     ·by_cases hof:o'.1=f
      ·simp only[beq_iff_eq.2 hof,oCT];rw[eq ho'];exact Ok.ret ⟨_,.inr ⟨by dsimp only;omega,[],by dsimp only;rw[hof,oTN];exact gl hfl [],by dsimp only;omega,by simp⟩,rfl⟩
      ·simp only[oBF hof,oCF];refine Ok.ret ⟨o',?_,by rw[zD ho']⟩;rcases hop with h | ⟨g1,z,g2,g3⟩
       ·exact .inl h
       ·exact .inr ⟨g1,z,by rw[kj (by omega)];exact g2,g3⟩
     ·rintro _ ⟨o2,hop2,rfl⟩;dsimp only;rw[dQ (x:=(q:Int)+1) (by omega) (by omega)];refine Ok.ret ⟨⟨q+1,_,rfl,by omega,by rw[List.length_set];exact hl',λj o hj hjo=>?_,λj hj=>?_⟩,by dsimp only;omega⟩
      ·by_cases e:q=j
       ·subst e;rw[show (os'.set q o2)[q]?=some o2 from gl (by omega) o2] at hjo;cases hjo;exact hop2
       ·rw[kj e] at hjo;exact ha j o (by omega) hjo
      ·rw[kj (by omega)];exact hr j (by omega)
    ·refine Ok.ret ⟨_,_,rfl,⟨by rw[List.length_set];exact hd4,im hF.flen (by simp),im hF.cells ee,hl',λo' ho'=>?_⟩⟩;obtain⟨j,hj⟩:=List.getElem?_of_mem ho';have:=(oGS hj).1;exact ha j o' (by omega) hj
   ·rintro _ ⟨z,os',rfl,hF'⟩;have hl':=hF'.olen;obtain⟨o',ho'⟩:∃o',os'[i]?=some o':=⟨_,oGE (by omega)⟩;have hg':dK os' i=some o':=ho';simp only[dN,oBS,hg',show ((1:Int)==2)=false from rfl,oCF];rw[eq ho'];exact Ok.ret ⟨_,_,_,rfl,hF'.setOpen (.inr ⟨by dsimp only;omega,[],by dsimp only;rw[oTN];exact gl hfl [],by dsimp only;omega,by simp⟩),by omega,by omega⟩
  ·simp only[oBF h1,oCF];rw[eq ho];by_cases h2:mode=2
   ·subst h2;simp only[BEq.rfl,oCT,oBS,gl hil,nD hil];exact Ok.ret ⟨_,_,_,rfl,hF.setOpen (.inr ⟨by dsimp only;omega,x,by dsimp only;rw[oTN];exact hx,by dsimp only;omega,by dsimp only;omega⟩),by omega,by omega⟩
   ·simp only[oBF h2,oCF,oBS];exact Ok.ret ⟨_,_,_,rfl,hF.setOpen (.inr ⟨by dsimp only;omega,x,by dsimp only;rw[oTN];exact hx,by dsimp only;omega,by dsimp only;omega⟩),by omega,by omega⟩
theorem fS(n:Int) (b:Bool):∃v,d8 n b=some (0,v,0,0,(),-1,false,())/\W16 v:=by
 unfold d8
 cases b with
 | true=>exact⟨_,rfl,mc _⟩
 | false=>exact⟨_,rfl,mc _⟩
theorem jU{ss:List Int}{v:Int}(h:W16 v):Pr ss (0,v,0,0):=.inl ⟨.inl rfl,rfl,rfl,h⟩
theorem LC{ss:List Int}{v:Int}(h:W16 v):Pr ss (2,v,0,0):=.inl ⟨.inr rfl,rfl,rfl,h⟩
theorem Io{ss:List Int}{us:List DOu}{sk:Int}{l:List DCn}(hu:us.length<=200) (ho:∀(i:Nat) x,us[i]?=some x->Om ss i x) (hl:l.length<=16) (hlc:∀c∈l,Pr ss c) :
 Ok (mM us sk l) λr=>∃us' n b,r=(us',n,b,())/\us'.length<=200/\∀(i:Nat) x,us'[i]?=some x->Om ss i x:=by
 have hc:jb us=some (us,()):=Dt (by omega) λx hx=>by
  obtain⟨j,hj⟩:=List.getElem?_of_mem hx;have:=(ho j x hj).2.2.2.1;omega
 unfold mM;rw[hc];delta dM;simp only[oBS];refine Ok.bind (P:=λr=>∃b:Bool,r=(us,sk,l,b,us,())/\(b=false->0<=sk/\sk < 2/\us.length < 200)) ?_ ?_
 ·(with_reducible refine dG (λhca=>?_) λhca=>?_)
  ·exact Ok.ret ⟨true,rfl,λh=>by cases h⟩
  (with_reducible refine dG (λhcb=>?_) λhcb=>?_)
  ·exact Ok.ret ⟨true,rfl,λh=>by cases h⟩
  (with_reducible refine dG (λhcc=>?_) λhcc=>?_)
  ·exact Ok.ret ⟨true,rfl,λh=>by cases h⟩
  exact Ok.ret ⟨_,rfl,λh=>⟨by omega,by omega,by omega⟩⟩
 rintro _ ⟨b,rfl,hb⟩;dsimp only
 cases b with
 | true=>exact Ok.ret ⟨_,_,_,rfl,hu,ho⟩
 | false=>
  obtain⟨s0,s1,hlt⟩:=hb rfl;simp only[oCF];refine dH (dT (by omega)) (dH (dT (by simp;omega)) ?_);refine Ok.ret ⟨_,_,_,rfl,by rw[eV];simp;omega,λi x hx=>?_⟩;simp only[List.append_eq,List.nil_append] at hx;rw[List.getElem?_append] at hx;split at hx
  ·exact ho i x hx
  ·rename_i hi;obtain⟨q,hq⟩:∃q,i - us.length=q:=⟨_,rfl⟩;rw[hq] at hx
   cases q with
   | zero=>
    have:x=((us.length:Int),sk,l):=by simpa using hx.symm
    subst this;exact⟨by dsimp only;omega,s0,s1,hl,hlc⟩
   | succ q=>simp at hx
theorem BN{ss:List Int}{ins:List (List Int)}{sk n:Int}(hi:ins.length<=2) (h:∀x∈ins,x.length<=64/\∀w∈x,W16 w) (hn:0<=n/\n<=65535) :
 Ok (jy ins sk n) λr=>(∃ins',r=.inl (ins',(),false,())/\ins'.length<=2/\∀x∈ins',x.length<=64/\∀w∈x,W16 w) \/
  (∃ins' l,r=.inr (ins',l,true,())/\(ins'.length<=2/\∀x∈ins',x.length<=64/\∀w∈x,W16 w)/\(l.length:Int)<=n/\l.length<=64/\∀c∈l,Pr ss c):=by
 unfold jy;rw[w7 (by omega) (λx hx=>by have:=(h x hx).1;omega)];delta dM;simp only[oBS];refine Ok.bind (P:=λr=>∃b:Bool,r=(ins,sk,n,b,ins,())/\(b=false->0<=sk/\sk < ins.length)) ?_ ?_
 ·(with_reducible refine dG (λhca=>?_) λhca=>?_)
  ·exact Ok.ret ⟨true,rfl,λh=>by cases h⟩
  (with_reducible refine dG (λhcb=>?_) λhcb=>?_)
  ·exact Ok.ret ⟨true,rfl,λh=>by cases h⟩
  exact Ok.ret ⟨_,rfl,λ_=>⟨by omega,by omega⟩⟩
 rintro _ ⟨b,rfl,hb⟩;dsimp only
 cases b with
 | true=>exact Ok.ret (Or.inl ⟨_,rfl,hi,h⟩)
 | false=>
 obtain⟨s0,s1⟩:=hb rfl;obtain⟨j,rfl⟩:∃j:Nat,sk=j:=⟨sk.toNat,by omega⟩;obtain⟨x,hx⟩:∃x,ins[j]?=some x:=⟨_,oGE (by omega)⟩;have hgx:dK ins j=some x:=hx;have hjl:=(oGS hx).1;obtain⟨hx64,hxw⟩:=h x (dP hx);simp only[oCF,oBS,dN,hgx];obtain⟨m1,m2,m3⟩:=D1 (a:=n) (b:=(x.length:Int));generalize mmR false n (x.length:Int)=k at m1 m2 m3;obtain⟨q,rfl⟩:∃q:Nat,k=q:=⟨k.toNat,by omega⟩;simp only[dN,oBS];refine dH (by unfold jo;simp;omega) ?_
 have hw:nu x 0 (Nat.sub q 0)=x.take q:=by unfold nu;rw[List.drop_zero];rfl
 have hwl:(x.take q).length=q:=by rw[oLT];omega
 rw[hw];simp only[hwl]
 have e:dU fT NN ((j:Int),(q:Int),x.take q,(q:Int),0,ins,[],())=some ((j:Int),(q:Int),x.take q,(q:Int),(q:Int),false,ins,(x.take q).map (λw=>(0,w,0,0)),()):=by
  have:=l8 (f:=fT) (N:=NN) (st:=λi=>((j:Int),(q:Int),x.take q,(q:Int),(i:Int),ins,((x.take q).take i).map (λw=>((0:Int),w,(0:Int),(0:Int))),())) (n:=q) (t:=((j:Int),(q:Int),x.take q,(q:Int),(q:Int),false,ins,(x.take q).map (λw=>((0:Int),w,(0:Int),(0:Int))),())) (by unfold NN;omega) ?_ ?_
  ·exact this
  ·intro i hi;unfold fT;dsimp only;rw[oDT (show (i:Int) < q by omega),dN];simp only[oCT,oBS];refine Ok.get (by omega) λw hw=>?_;refine dH (dT (by simp;omega)) ?_;rw[dQ (x:=(i:Int)+1) (by omega) (by omega)];refine Ok.ret ?_;rw[<- gJ (λw=>((0:Int),w,(0:Int),(0:Int))) hw];rfl
  ·unfold fT;dsimp only;rw[oDF (show ¬ (q:Int) < q by omega)];refine Ok.ret ?_;rw[show (x.take q).take q=x.take q from List.take_of_length_le (by omega)]
 rw[e];simp only[dN,oBS,hgx];refine dH (by unfold jo;simp;omega) ?_
 try simp only[dN,oBS,hgx]
 rw[eq hx]
 have hd:∀c∈nu x q (Nat.sub x.length q),c∈x:=λc hc=>by
  unfold nu at hc;exact List.mem_of_mem_drop (List.mem_of_mem_take hc)
 have hdl:(nu x q (Nat.sub x.length q)).length<=64:=by
  unfold nu;rw[oLT,List.length_drop];omega
 refine Ok.ret (.inr ⟨_,_,rfl,⟨by rw[List.length_set];exact hi,im h ⟨hdl,λw hw=>hxw w (hd w hw)⟩⟩,by rw[List.length_map,hwl];omega,by rw[List.length_map,hwl];omega,λc hc=>?_⟩);obtain⟨w,hw,rfl⟩:=List.mem_map.1 hc;exact jU (hxw w (List.mem_of_mem_take hw))
theorem yO{n:Int}{ss:List Int}{i stop trap count pc call:Int}{args data:List DCn}(hs:xC ss) (h:yJ n ss i stop trap count pc call args data) (hn:n<=1099511627776):jF i stop trap count pc call args data=some (true,()):=by
 obtain⟨⟨a1,a2⟩,⟨b1,b2⟩,⟨c1,c2⟩,⟨d1,d2⟩,⟨e1,e2⟩,⟨f1,f2⟩,⟨g1,g2⟩,⟨k1,k2⟩,_,_⟩:=h;refine eO ?_;unfold jF;rw[jk (n:=3) hs g2 (by omega) (by omega),jk (n:=16) hs k2 (by omega) (by omega)];refine dH (oDT a1) (dH (oDT (by omega)) (dH (oDT b1) (dH (oDT b2) (dH (oDT c1) (dH (oDT c2) (dH (oDT d1) (dH (oDT (by omega)) (dH (oDT e1) (dH (oDT e2) (dH (oDT f1) (dH (oDT f2) ?_)))))))))));exact Ok.ret rfl
theorem GO{n:Int}{ss:List Int}{i trap count pc call:Int}{args data:List DCn}(h:yJ n ss i 1 trap count pc call args data):ly i 1 trap count pc call args data=some (true,()):=by
 obtain⟨hl,hk⟩:=h.hkind rfl;obtain⟨b,eb,hb1,hb2⟩:=zS h.hcall;have h3:=I7 call
 have e:dU gP NN (b,args,(args.length:Int),0,i,1,trap,count,pc,call,args,data,())=some (.inr (b,args,(args.length:Int),(args.length:Int),false,i,1,trap,count,pc,call,args,data,())):=by
  refine l8 (f:=gP) (N:=NN) (st:=λq=>(b,args,(args.length:Int),(q:Int),i,1,trap,count,pc,call,args,data,())) (n:=args.length) (by unfold NN;omega) ?_ ?_
  ·intro q hq;obtain⟨k,hkq⟩:∃k,(kB call)[q]?=some k:=⟨_,oGE (by omega)⟩;obtain⟨a,ha⟩:∃a,args[q]?=some a:=⟨_,oGE (by omega)⟩;unfold gP;dsimp only;rw[oDT (show (q:Int) < args.length by omega),dN];simp only[oCT,oBS,show dK args q=some a from ha,hb2 q,hkq,Js,hk q k a hkq ha,oNT,oCF];rw[dQ (x:=(q:Int)+1) (by omega) (by omega)];exact Ok.ret rfl
  ·unfold gP;dsimp only;rw[oDF (show ¬ (args.length:Int) < args.length by omega)];exact Ok.ret rfl
 unfold ly;delta dM;simp only[eb,oBS,hb1,hl,bne_self_eq_false,oCF];rw[hl] at e;rw[e]
def Nc(call:Int):Bool:=decide ((1<=call/\call<=7)\/call=13\/call=14)
theorem Nb{call:Int}(h:0<=call/\call<=15):o5 call=some (Nc call,()):=by
 rcases tT h with rfl | rfl | rfl | rfl | rfl | rfl | rfl | rfl | rfl | rfl | rfl | rfl | rfl | rfl | rfl | rfl<;>rfl
structure OG (ss:List Int) (t v r o:Int) (data:List DCn) (sp:Int) (w:Bool):Prop where
 val:Pr ss (t,v,r,o)
 dat:data.length<=64/\∀c∈data,Pr ss c
 spn:-1<=sp/\sp<=3
def DoP(ss:List Int) (r:(List (Int))×(List (Int))×(List (List (Int)))×(List (List DCn))×(List DOp)×(List DOu)×Int×Int×Int×Int×(List DCn)×Int×Bool×Int×Unit):Prop:=
 ∃ck rn ins d os us t v rg o data,r=(ck,rn,ins,d,os,us,t,v,rg,o,data,-1,false,0,())/\xD ss ck rn ins d os us/\Pr ss (t,v,rg,o)/\data.length<=16/\∀c∈data,Pr ss c
theorem jY{ss:List Int}{ck rn:List Int}{ins:List (List Int)}{d:List (List DCn)}{os:List DOp}{us:List DOu}{t v rg o:Int}{data:List DCn}(h:xD ss ck rn ins d os us) (hv:Pr ss (t,v,rg,o)) (hd:data.length<=16/\∀c∈data,Pr ss c) :
 Ok (some (ck,rn,ins,d,os,us,t,v,rg,o,data,(-1:Int),false,(0:Int),())) (DoP ss):=Ok.ret ⟨_,_,_,_,_,_,_,_,_,_,_,rfl,h,hv,hd⟩
theorem Pr.val{ss:List Int}{c:DCn}(h:Pr ss c):W16 c.2.1:=by
 rcases h with ⟨_,_,_,h⟩ | ⟨_,h,_⟩
 ·exact h
 ·rw[h];exact⟨by decide,by decide⟩
theorem NY{n:Int}{ss:List Int}{i trap count pc call:Int}{args data:List DCn}(h:yJ n ss i 1 trap count pc call args data):qt call=0\/qt call=1\/(qt call=2/\∃a,args[2]?=some a/\a.2.1<=16):=by
 by_cases h2:qt call=2
 ·exact .inr (.inr ⟨h2,h.hbuf rfl h2⟩)
 ·have:qt call=0\/qt call=1\/qt call=2:=by unfold qt;split<;>first | omega | (split<;>omega)
  omega
theorem vF{α:Type}{a b:Option α}{Q:α->Prop}(h:Ok a Q) (e:b=a):Ok b Q:=by rw[e];exact h
set_option maxHeartbeats 4000000 in
theorem M0{n:Int}{ss:List Int}{ck rn:List Int}{ins:List (List Int)}{d:List (List DCn)}{os:List DOp}{us:List DOu}{i trap count pc call:Int}{args data:List DCn}(hs:xC ss) (hO:xD ss ck rn ins d os us) (hR:yJ n ss i 1 trap count pc call args data)
 (ha:Nc call=true) (hn:n<=1099511627776):Ok (nv ck rn ins d os us i 1 trap count pc call args data) (DoP ss):=by
 have hc:=hR.hcall;have hdat:=hR.hdata;have hap:=hR.hargs;unfold nv;rw[te hs hO,yO hs hR hn,Nb hc,ha,GO hR,s7 hc];simp only[oBS,oNT,oCF,bne_self_eq_false];refine Ok.bind (P:=λr=>r=(false,ck,rn,ins,d,os,us,i,1,trap,count,pc,call,args,data,(),(),(),(),(),(),0,0,0,0,(),0,false,())) ?_ ?_
 ·rcases NY hR with h | h | ⟨h,a,h2,h3⟩
  ·rw[h];exact Ok.ret rfl
  ·rw[h];exact Ok.ret rfl
  ·rw[h];simp only[BEq.rfl,oCT,show dK args 2=some a from h2,oBS];rw[oDF (show ¬ a.2.1 > 16 by omega)];exact Ok.ret rfl
 rintro _ rfl;dsimp only;delta dM;simp only[oCF,Ds hO,oBS]
 refine Ok.loop (P:=λs'=>∃(k:Nat) (vs:List Int),s'=(args,(args.length:Int),(k:Int),ck,rn,ins,d,os,us,i,1,trap,count,pc,call,args,data,(),(),(),(),(),(),0,0,0,0,(),0,false,ck,rn,ins,d,os,us,vs,())/\k<=args.length/\vs.length=3/\(∀v∈vs,W16 v)/\∀(j:Nat) a,j < k->args[j]?=some a->vs[j]?=some a.2.1)
  (R:=λr=>∃(z:Int) (vs:List Int),r=(args,(args.length:Int),z,false,ck,rn,ins,d,os,us,i,1,trap,count,pc,call,args,data,(),(),(),(),(),(),0,0,0,0,(),0,false,ck,rn,ins,d,os,us,vs,())/\vs.length=3/\(∀v∈vs,W16 v)/\∀(j:Nat) a,args[j]?=some a->vs[j]?=some a.2.1) (m:=λs'=>(s'.2.1 - s'.2.2.1).toNat)
  ⟨0,[0,0,0],rfl,by omega,rfl,all_cons ⟨by decide,by decide⟩ (all_cons ⟨by decide,by decide⟩ (all_cons ⟨by decide,by decide⟩ ee)),λj a hj=>by omega⟩ (by unfold NN;dsimp only;omega) ?_ ?_
 ·rintro _ ⟨k,vs,rfl,hk,hv3,hvw,hva⟩;unfold rN;dsimp only
  (with_reducible refine dG (λhca=>?_) λhca=>?_)
  ·simp only[dN,oBS];refine Ok.get (by omega) λa hak=>?_;have hw:=(hap.2 a (dP hak)).val;refine Ok.get (by omega) λv hv=>?_;refine Ok.get (by omega) λ_ _=>?_;rw[dV (x:=a.2.1) (by have:=hw.1;omega) (by have:=hw.2;omega),dQ (x:=(k:Int)+1) (by omega) (by omega),eq hv];refine Ok.ret ⟨⟨k+1,_,rfl,by omega,by rw[List.length_set];exact hv3,im hvw hw,λj a' hj haj=>?_⟩,by dsimp only;omega⟩;by_cases e:k=j
   ·subst e;rw[hak] at haj;cases haj;exact gl (by omega) _
   ·rw[kj e];exact hva j a' (by omega) haj
  ·refine Ok.ret ⟨_,vs,rfl,hv3,hvw,λj a haj=>hva j a ?_ haj⟩;have:=(oGS haj).1;omega
 rintro _ ⟨z,vs,rfl,hv3,hvw,hva⟩;obtain⟨v0,ev0,hv0⟩:=fS 0 false
 obtain⟨a0,a1,a2,rfl⟩:∃a b c,vs=[a,b,c]:=by
  match vs,hv3 with
  | [a,b,c],_=>exact⟨a,b,c,rfl⟩
 have w0:W16 a0:=hvw a0 (by simp);have w1:W16 a1:=hvw a1 (by simp);have w2:W16 a2:=hvw a2 (by simp);have g0:dK [a0,a1,a2] 0=some a0:=rfl;have g1:dK [a0,a1,a2] 1=some a1:=rfl;have g2:dK [a0,a1,a2] 2=some a2:=rfl
 have a2le:qt call=2->a2<=16:=λh=>by
  obtain⟨a,h2,h3⟩:=hR.hbuf rfl h;have:=hva 2 a h2
  have:a2=a.2.1:=by simpa using this
  omega
 have nil16:([]:List DCn).length<=16/\∀c∈([]:List DCn),Pr ss c:=⟨by decide,ee⟩;dsimp only;simp only[ev0,oBS,g0,g1,g2];rcases tT hc with rfl | rfl | rfl | rfl | rfl | rfl | rfl | rfl | rfl | rfl | rfl | rfl | rfl | rfl | rfl | rfl
 all_goals first | (exact absurd ha (by decide)) | simp only[Int.reduceBEq,oCT,oCF]
 ·obtain⟨_,e,d1,os1,m,b,rfl,hF,_⟩:=F4 (h:=a0) hs hO.files hdat.1 hdat.2;obtain⟨v,ev,hv⟩:=fS m b;simp only[e,ev,oBS];exact jY ⟨hO.clock,hO.rand,hO.ilen,hO.inp,hF,hO.ulen,hO.outs⟩ (jU hv) nil16
 ·have hle:=a2le rfl;obtain⟨_,e,hr⟩:=IA (h:=a0) (n:=a2) hO.files w2;rcases hr with ⟨d1,os1,rfl,hF⟩ | ⟨d1,os1,l,rfl,hF,hl,_,hlc⟩
  ·simp only[e,ev0,oBS];exact jY ⟨hO.clock,hO.rand,hO.ilen,hO.inp,hF,hO.ulen,hO.outs⟩ (jU hv0) nil16
  ·obtain⟨v,ev,hv⟩:=fS (l.length:Int) true;simp only[e,ev,oBS];exact jY ⟨hO.clock,hO.rand,hO.ilen,hO.inp,hF,hO.ulen,hO.outs⟩ (jU hv) ⟨by omega,hlc⟩
 ·obtain⟨_,e,d1,os1,h,rfl,hF,h0,h7⟩:=KH (file:=a0) (mode:=a1) hO.files;simp only[e,oBS];have hout:xD ss ck rn ins d1 os1 us:=⟨hO.clock,hO.rand,hO.ilen,hO.inp,hF,hO.ulen,hO.outs⟩;by_cases hh:h>=0
  ·simp only[oDT hh,oCT];exact jY hout (LC (mc _)) nil16
  ·simp only[oDF hh,oCF];exact jY hout (jU hv0) nil16
 ·obtain⟨_,e,d1,os1,b,rfl,hF⟩:=Hi (h:=a0) hO.files;obtain⟨v,ev,hv⟩:=fS 0 b;simp only[e,ev,oBS];exact jY ⟨hO.clock,hO.rand,hO.ilen,hO.inp,hF,hO.ulen,hO.outs⟩ (jU hv) nil16
 ·obtain⟨_,e,d1,os1,b,rfl,hF⟩:=Ip (h:=a0) (n:=a1) hO.files;obtain⟨v,ev,hv⟩:=fS 0 b;simp only[e,ev,oBS];exact jY ⟨hO.clock,hO.rand,hO.ilen,hO.inp,hF,hO.ulen,hO.outs⟩ (jU hv) nil16
 ·cases ck with
  | nil=>exact jY hO (jU hv0) nil16
  | cons x ck=>
   obtain⟨v,ev,hv⟩:=fS (wk .i64 x) true
   have hw:nu (x :: ck) 1 (Nat.sub (x :: ck).length 1)=ck:=by unfold nu;simp
   refine vF (jY (ck:=ck) ⟨⟨by have:=hO.clock.1;simp at this;omega,λw hw=>hO.clock.2 w (by simp[hw])⟩,hO.rand,hO.ilen,hO.inp,hO.files,hO.ulen,hO.outs⟩ (jU hv) nil16) ?_;simp only[oLC,show dK (x :: ck) 0=some x from rfl,oBS,ev];have hd:∀inst:Decidable (((ck.length+1:Nat):Int) > 0),@decide _ inst=true:=λinst=>oDT (by omega);rw[oLC] at hw;rw[hd,show jo 1 (ck.length+1) (ck.length+1)=true by unfold jo;simp,hw];rfl
 ·cases rn with
  | nil=>exact jY hO (jU hv0) nil16
  | cons x rn=>
   obtain⟨v,ev,hv⟩:=fS (wk .i64 x) true
   have hw:nu (x :: rn) 1 (Nat.sub (x :: rn).length 1)=rn:=by unfold nu;simp
   refine vF (jY (rn:=rn) ⟨hO.clock,⟨by have:=hO.rand.1;simp at this;omega,λw hw=>hO.rand.2 w (by simp[hw])⟩,hO.ilen,hO.inp,hO.files,hO.ulen,hO.outs⟩ (jU hv) nil16) ?_;simp only[oLC,show dK (x :: rn) 0=some x from rfl,oBS,ev];have hd:∀inst:Decidable (((rn.length+1:Nat):Int) > 0),@decide _ inst=true:=λinst=>oDT (by omega);rw[oLC] at hw;rw[hd,show jo 1 (rn.length+1) (rn.length+1)=true by unfold jo;simp,hw];rfl
 ·obtain⟨_,e,us1,m,b,rfl,hu,ho⟩:=Io (sk:=a0) hO.ulen hO.outs hdat.1 hdat.2;obtain⟨v,ev,hv⟩:=fS m b;simp only[e,ev,oBS];exact jY ⟨hO.clock,hO.rand,hO.ilen,hO.inp,hO.files,hu,ho⟩ (jU hv) nil16
 ·have hle:=a2le rfl;obtain⟨_,e,hr⟩:=BN (ss:=ss) (sk:=a0) (n:=a2) hO.ilen hO.inp w2;rcases hr with ⟨in1,rfl,hi1,hi2⟩ | ⟨in1,l,rfl,⟨hi1,hi2⟩,hl,_,hlc⟩
  ·simp only[e,ev0,oBS];exact jY ⟨hO.clock,hO.rand,hi1,hi2,hO.files,hO.ulen,hO.outs⟩ (jU hv0) nil16
  ·obtain⟨v,ev,hv⟩:=fS (l.length:Int) true;simp only[e,ev,oBS];exact jY ⟨hO.clock,hO.rand,hi1,hi2,hO.files,hO.ulen,hO.outs⟩ (jU hv) ⟨by omega,hlc⟩
def y9(bs:List Int) (key:Int) (c:DCn):DCe:=if c.1=0 then (0,c.2.1) else if c.1=2 then (2,wk .u16 (c.2.1+key)) else (1,wk .u16 (bs.getD c.2.2.1.toNat 0+c.2.2.2))
theorem Fn{bs ss:List Int}(h:LV bs ss) {r o n:Int}(h1:0<=r) (h2:ss[r.toNat]?=some n) (h3:0<=o) (h4:o < n):∃b,bs[r.toNat]?=some b/\0<=b+o/\b+o < 512/\b<=b+o/\b+o < b+n:=by
 obtain⟨hs,hl,hr⟩:=h;have hj:=(oGS h2).1;obtain⟨b,hb⟩:∃b,bs[r.toNat]?=some b:=⟨_,oGE (by omega)⟩;have hrr:=hr r.toNat (by omega);unfold vi at hrr;rw[eG hb,eG h2] at hrr;exact⟨b,hb,by omega,by omega,by omega,by omega⟩
theorem vV{bs ss:List Int}{key:Int}{c:DCn}(h:LV bs ss) (hc:Pr ss c):f7 bs key ss c.1 c.2.1 c.2.2.1 c.2.2.2=some ((y9 bs key c).1,(y9 bs key c).2,0,())/\mH (RK bs ss) (y9 bs key c):=by
 unfold f7 y9;rw[mq hc];simp only[oBS,oNT,oCF];rcases hc with ⟨h1 | h1,h2,h3,h4⟩ | ⟨h1,h2,h3,n,h5,h6,h7⟩
 ·rw[h1];exact⟨rfl,la h4⟩
 ·rw[h1];exact⟨rfl,(show (0:Int)<=2 by decide),(show (2:Int)<=2 by decide),(mc _).1,(mc _).2,λe=>absurd (show (2:Int)=1 from e) (by decide)⟩
 ·obtain⟨b,hb,b0,b1,b2,b3⟩:=Fn h h3 h5 h6 h7;obtain⟨j,hj⟩:∃j:Nat,c.2.2.1=j:=⟨c.2.2.1.toNat,by omega⟩;rw[hj] at hb h5 ⊢;rw[oTN] at hb h5 ⊢;rw[h1,eG hb];simp only[Int.reduceBEq,Int.reduceEq,oCF,if_false,dN,oBS,show dK bs j=some b from hb];rw[dQ (x:=b+c.2.2.2) (by omega) (by omega),dZ (x:=b+c.2.2.2) (by omega) (by omega)];exact⟨rfl,by dsimp only;omega,by dsimp only;omega,by dsimp only;omega,by dsimp only;omega,λ_=>⟨j,b,n,hb,h5,b2,b3⟩⟩
theorem Ht{bs ss:List Int}{key r o n:Int}(h:LV bs ss) (h1:0<=r) (h2:ss[r.toNat]?=some n) (h3:0<=o) (h4:o < n):∃a,jN bs key ss r o=some (a,0,())/\0<=a/\a < 512/\a=bs.getD r.toNat 0+o:=by
 obtain⟨b,hb,b0,b1,_⟩:=Fn h h1 h2 h3 h4;obtain⟨j,rfl⟩:∃j:Nat,r=j:=⟨r.toNat,by omega⟩;rw[oTN] at hb ⊢;unfold jN;rw[Cu h1 h2 h3 h4];simp only[oBS,oNT,oCF,dN,show dK bs j=some b from hb];rw[dQ (x:=b+o) (by omega) (by omega)];exact⟨_,rfl,b0,b1,by rw[eG hb]⟩
theorem KM(pc t v:Int):n6 pc t v=some (1,[(t,v),(0,0),(0,0),(0,0),(0,0),(0,0),(0,0),(0,0)],pc,0,-1,-1,0,0,()):=rfl
def OH(n key:Int) (ss bs:List Int) (r:Bool×(List (Int))×Int×(List DCe)×(List DLn)×(List DTh)×Unit):Prop:=∃b cs' ls' ts',r=(b,bs,key,cs',ls',ts',())/\(b=true->MOk n ss bs cs' ls' ts')
theorem vW{n key:Int}{ss bs:List Int}{cs:List DCe}{ls:List DLn}{ts:List DTh}:Ok (some (false,bs,key,cs,ls,ts,())) (OH n key ss bs):=Ok.ret ⟨_,_,_,_,rfl,λh=>by cases h⟩
theorem o4{n key ct cv:Int}{ss bs:List Int}{cs:List DCe}{ls:List DLn}{ts:List DTh}{i:Nat}(h:MOk n ss bs cs ls ts) (hi:i < 4) (hc:mH (RK bs ss) (ct,cv)) :
 Ok ((dK ts i).bind λ_=>(dK ts i).bind λx75=>(dK x75.2.1 0).bind λ_=>(dK ts i).bind λx77=>(dK x77.2.1 0).bind λ_=>(dK (List.modify ts i λe=>(e.1,((List.modify e.2.1 0 λ_=>(ct,cv)),e.2.2))) i).bind λ_=>
  some (true,bs,key,cs,ls,List.modify (List.modify ts i λe=>(e.1,((List.modify e.2.1 0 λ_=>(ct,cv)),e.2.2))) i λe=>((1:Int),e.2),())) (OH n key ss bs):=by
 have htl:=h.tlen;obtain⟨t,ht⟩:∃t,ts[i]?=some t:=⟨_,oGE (by omega)⟩;have hg:dK ts i=some t:=ht;have hil:=(oGS ht).1;have hok:=h.thr t (dP ht);obtain⟨c,hc0⟩:∃c,t.2.1[0]?=some c:=⟨_,oGE (by have:=hok.len;omega)⟩;simp only[hg,oBS,show dK t.2.1 0=some c from hc0,eq ht,eq hc0,gl hil,nD hil];exact Ok.ret ⟨_,_,_,_,rfl,λ_=>h.set h.mem ⟨⟨show (0:Int)<=1 by decide,show (1:Int)<=4 by decide⟩,by dsimp only;rw[List.length_set];exact hok.len,im hok.regs hc,hok.pc,hok.count,hok.handler,hok.saved,hok.trap,hok.code⟩⟩
theorem F8{K:Int->Prop}{n pc:Int}{rs:List DCe}(hl:rs.length=8) (hr:∀c∈rs,mH K c) (hp:0<=pc/\pc<=255) (hn:0<=n):xB K n (1,rs,pc,0,-1,-1,0,0):=
 ⟨⟨show (0:Int)<=1 by decide,show (1:Int)<=4 by decide⟩,hl,hr,hp,⟨show (0:Int)<=0 by decide,hn⟩,⟨show (-1:Int)<=-1 by decide,show (-1:Int)<=255 by decide⟩,⟨show (-1:Int)<=-1 by decide,show (-1:Int)<=255 by decide⟩,⟨show (0:Int)<=0 by decide,show (0:Int)<=6 by decide⟩,⟨show (0:Int)<=0 by decide,show (0:Int)<=65535 by decide⟩⟩
theorem MOk.mk_mem{n:Int}{ss bs:List Int}{cs cs':List DCe}{ls ls':List DLn}{ts:List DTh}(h:MOk n ss bs cs ls ts) (hm:jp (RK bs ss) cs' ls'):MOk n ss bs cs' ls' ts:=⟨h.lay,hm,h.tlen,h.thr⟩
set_option maxHeartbeats 4000000 in
theorem KA{n m key:Int}{code:List DIn}{ss bs:List Int}{dd:List (List Int)}{cs:List DCe}{ls:List DLn}{ts:List DTh}{i:Nat}{trap count pc call:Int}{args data:List DCn}{t v rg o sp:Int}{dat:List DCn}{w:Bool}(h:MOk n ss bs cs ls ts) (hi:i < 4)
 (hR:yJ m ss (i:Int) 1 trap count pc call args data) (hv:Pr ss (t,v,rg,o)) (hd:dat.length<=16/\∀c∈dat,Pr ss c) (hsp:-1<=sp/\sp<=3) :
 Ok (nY code ss dd (i:Int) 1 trap count pc call args data t v rg o dat sp w bs key cs ls ts) (OH n key ss bs):=by
 have hL:=h.lay;have htl:=h.tlen;obtain⟨hk1,hk2⟩:=hR.hkind rfl;have hargs:=hR.hargs;obtain⟨hraw,hrawc⟩:=vV (key:=key) hL hv;obtain⟨th,hth⟩:∃th,ts[i]?=some th:=⟨_,oGE (by omega)⟩;have hok:=h.thr th (dP hth);have hc0:=hok.count;have hil:=(oGS hth).1;dsimp only at hraw;unfold nY;delta dM;rw[dN,hraw,s7 hR.hcall];simp only[oBS,bne_self_eq_false,oCF];refine Ok.get hil λ_ _=>?_;have fin:=o4 (key:=key) (ct:=(y9 bs key (t,v,rg,o)).1) (cv:=(y9 bs key (t,v,rg,o)).2) h hi hrawc
 have buf:qt call=2->dat.length > 0->∃a:DCn,args[1]?=some a/\Pr ss a/\a.1=1/\∃y,dU kv NN (i,dat,(dat.length:Int),0,bs,key,cs,ls,ts,code,ss,dd,(i:Int),1,trap,count,pc,call,args,data,t,v,rg,o,dat,sp,w,(y9 bs key (t,v,rg,o)).1,(y9 bs key (t,v,rg,o)).2,a.2.2.1,a.2.2.2,())=some y /\
  ((∃cs' ls',y=.inl (false,bs,key,cs',ls',ts,()))\/(∃cs' ls' z f,y=.inr (i,dat,(dat.length:Int),z,false,bs,key,cs',ls',ts,code,ss,dd,(i:Int),1,trap,count,pc,call,args,data,t,v,rg,o,dat,sp,w,(y9 bs key (t,v,rg,o)).1,(y9 bs key (t,v,rg,o)).2,a.2.2.1,f,())/\jp (RK bs ss) cs' ls')):=by
  intro hb hpos
  have hkk:(kB call)[1]?=some 80:=by
   have:call=2\/call=14:=by unfold qt at hb;split at hb<;>first | omega | (split at hb<;>omega)
   rcases this with rfl | rfl<;>rfl
  have hl1:=(oGS hkk).1;obtain⟨a,ha⟩:∃a,args[1]?=some a:=⟨_,oGE (by omega)⟩;have hap:=hargs.2 a (dP ha);have hfit:=hk2 1 80 a hkk ha
  have ha1:a.1=1:=by unfold K8 at hfit;simpa using hfit
  have ha32:0<=a.2.2.2/\a.2.2.2<=32:=by
   rcases hap with ⟨g,_⟩ | ⟨_,_,_,z,g1,g2,g3⟩
   ·omega
   ·have:=hL.1.2.2 z (dP g1);omega
  refine⟨a,ha,hap,ha1,?_⟩
  refine fH (f:=kv) (n:=NN) (P:=λs'=>∃k:Nat,∃cs' ls',s'=(i,dat,(dat.length:Int),(k:Int),bs,key,cs',ls',ts,code,ss,dd,(i:Int),1,trap,count,pc,call,args,data,t,v,rg,o,dat,sp,w,(y9 bs key (t,v,rg,o)).1,(y9 bs key (t,v,rg,o)).2,a.2.2.1,a.2.2.2+k,())/\k<=dat.length/\jp (RK bs ss) cs' ls')
   (R:=λy=>(∃cs' ls',y=.inl (false,bs,key,cs',ls',ts,()))\/(∃cs' ls' z f,y=.inr (i,dat,(dat.length:Int),z,false,bs,key,cs',ls',ts,code,ss,dd,(i:Int),1,trap,count,pc,call,args,data,t,v,rg,o,dat,sp,w,(y9 bs key (t,v,rg,o)).1,(y9 bs key (t,v,rg,o)).2,a.2.2.1,f,())/\jp (RK bs ss) cs' ls'))
   (m:=λs'=>(s'.2.2.1 - s'.2.2.2.1).toNat) ⟨0,cs,ls,by simp,by omega,h.mem⟩ (by unfold NN;dsimp only;omega) ?_
  rintro _ ⟨k,cs',ls',rfl,hk,hm⟩;unfold kv;dsimp only
  (with_reducible refine dG (λhca=>?_) λhca=>?_)
  ·rw[dN];simp only[oBS];refine Ok.get (by omega) λc hc=>?_;obtain⟨hr1,hr2⟩:=vV (key:=key) hL (hd.2 c (dP hc));rw[hr1];simp only[oBS,bne_self_eq_false,oCF];refine zg.bind ?_;rintro⟨q,_⟩ hin;dsimp only at hin ⊢
   (with_reducible refine dG (λhcb=>?_) λhcb=>?_)
   ·exact Ok.ret (.inl ⟨_,_,rfl⟩)
   ·obtain⟨g1,g2,z,g3,g4⟩:=hin hcb;obtain⟨ad,ea,a0,a1,_⟩:=Ht (key:=key) hL g1 g3 g2 g4;rw[ea];simp only[oBS];refine (yS hm ⟨a0,a1⟩ hr2).bind ?_;rintro _ ⟨cs2,ls2,rfl,hm2⟩;dsimp only;rw[dQ (x:=a.2.2.2+k+1) (by omega) (by omega),dQ (x:=(k:Int)+1) (by omega) (by omega)];exact Ok.ret ⟨⟨k+1,_,_,by rw[show a.2.2.2+((k+1:Nat):Int)=a.2.2.2+k+1 by omega];rfl,by omega,hm2⟩,by dsimp only;omega⟩
  ·exact Ok.ret (.inr ⟨_,_,_,_,rfl,hm⟩)
 rcases tT hR.hcall with rfl | rfl | rfl | rfl | rfl | rfl | rfl | rfl | rfl | rfl | rfl | rfl | rfl | rfl | rfl | rfl
 case inr.inr.inl=>
  simp only[show ((qt 2)==2)=true from rfl,oCT];by_cases hpos:dat.length > 0
  ·obtain⟨a,ha,hap,ha1,y,ey,hy⟩:=buf rfl hpos;simp only[oDT (show ((dat.length:Nat):Int) > 0 by omega),oCT,show dK args 1=some a from ha,oBS,mq hap,oNT,oCF,bne_eq_false_iff_eq.2 ha1,ey];rcases hy with ⟨cs',ls',rfl⟩ | ⟨cs',ls',z,f,rfl,hm⟩
   ·exact vW
   ·simp only[Int.reduceBEq,oCF];exact o4 (h.mk_mem hm) hi hrawc
  ·simp only[oDF (show ¬ ((dat.length:Nat):Int) > 0 by omega),oCF,Int.reduceBEq];exact fin
 case inr.inr.inr.inr.inr.inr.inr.inr.inr.inr.inr.inr.inr.inr.inl=>
  simp only[show ((qt 14)==2)=true from rfl,oCT];by_cases hpos:dat.length > 0
  ·obtain⟨a,ha,hap,ha1,y,ey,hy⟩:=buf rfl hpos;simp only[oDT (show ((dat.length:Nat):Int) > 0 by omega),oCT,show dK args 1=some a from ha,oBS,mq hap,oNT,oCF,bne_eq_false_iff_eq.2 ha1,ey];rcases hy with ⟨cs',ls',rfl⟩ | ⟨cs',ls',z,f,rfl,hm⟩
   ·exact vW
   ·simp only[Int.reduceBEq,oCF];exact o4 (h.mk_mem hm) hi hrawc
  ·simp only[oDF (show ¬ ((dat.length:Nat):Int) > 0 by omega),oCF,Int.reduceBEq];exact fin
 case inr.inr.inr.inr.inr.inr.inr.inr.inr.inr.inr.inr.inl=>
  obtain⟨a,ha⟩:∃a,args[0]?=some a:=⟨_,oGE (by rw[hk1];decide)⟩;have hva:=(hargs.2 a (dP ha)).val;simp only[show ((qt 12)==2)=false from rfl,oCF,Int.reduceBEq,oCT,show dK args 0=some a from ha,oBS];rw[dV (x:=a.2.1) (by have:=hva.1;omega) (by have:=hva.2;omega)];by_cases h1:a.2.1 > 255
  ·simp only[oDT h1,oCT];exact vW
  by_cases h2:a.1=0
  ·simp only[oDF h1,oCF,bne_eq_false_iff_eq.2 h2,show dK ts i=some th from hth,oBS,eq hth];exact o4 (h.set h.mem ⟨hok.state,hok.len,hok.regs,hok.pc,hok.count,⟨by dsimp only;have:=hva.1;omega,by dsimp only;omega⟩,hok.saved,hok.trap,hok.code⟩) hi hrawc
  ·simp only[oDF h1,oCF,bne_iff_ne.2 h2,oCT];exact vW
 case inr.inr.inr.inr.inr.inr.inr.inr.inr.inr.inl=>
  obtain⟨a,ha⟩:∃a,args[0]?=some a:=⟨_,oGE (by rw[hk1];decide)⟩;obtain⟨c,hc⟩:∃c,args[1]?=some c:=⟨_,oGE (by rw[hk1];decide)⟩;have hva:=(hargs.2 a (dP ha)).val;obtain⟨hr1,hr2⟩:=vV (key:=key) hL (hargs.2 c (dP hc));simp only[show ((qt 10)==2)=false from rfl,oCF,Int.reduceBEq,oCT];by_cases hsp0:sp>=0
  ·obtain⟨j,rfl⟩:∃j:Nat,sp=j:=⟨sp.toNat,by omega⟩;obtain⟨tj,htj⟩:∃tj,ts[j]?=some tj:=⟨_,oGE (by omega)⟩;simp only[oDT hsp0,oCT,show dK args 0=some a from ha,show dK args 1=some c from hc,oBS,hr1,bne_self_eq_false,oCF,dN,show dK ts j=some tj from htj];rw[dV (x:=a.2.1) (by have:=hva.1;omega) (by have:=hva.2;omega)];by_cases h0:tj.1=0
   ·by_cases h1:a.2.1 > 255
    ·simp only[bne_eq_false_iff_eq.2 h0,oCF,oDT h1,oCT,oBS];exact vW
    by_cases h2:a.1=0
    ·simp only[bne_eq_false_iff_eq.2 h0,oDF h1,oCF,bne_eq_false_iff_eq.2 h2,oBS,show dK args 0=some a from ha,dV (x:=a.2.1) (by have:=hva.1;omega) (by have:=hva.2;omega),KM,dN,show dK ts j=some tj from htj,eq htj];refine o4 (h.set h.mem (F8 rfl (all_cons hr2 ?_) ⟨hva.1,by omega⟩ (by omega))) hi hrawc;exact all_cons (la (by decide)) (all_cons (la (by decide)) (all_cons (la (by decide)) (all_cons (la (by decide)) (all_cons (la (by decide)) (all_cons (la (by decide)) (all_cons (la (by decide)) ee))))))
    ·simp only[bne_eq_false_iff_eq.2 h0,oDF h1,oCF,bne_iff_ne.2 h2,oCT,oBS];exact vW
   ·simp only[bne_iff_ne.2 h0,oCT,oBS];exact vW
  ·simp only[oDF hsp0,oCF];exact fin
 all_goals
  simp only[show ((qt 0)==2)=false from rfl,show ((qt 1)==2)=false from rfl,show ((qt 3)==2)=false from rfl,show ((qt 4)==2)=false from rfl,show ((qt 5)==2)=false from rfl,show ((qt 6)==2)=false from rfl,show ((qt 7)==2)=false from rfl,
   show ((qt 8)==2)=false from rfl,show ((qt 9)==2)=false from rfl,show ((qt 11)==2)=false from rfl,show ((qt 13)==2)=false from rfl,show ((qt 15)==2)=false from rfl,oCF,Int.reduceBEq]
  exact fin
theorem yN{ss:List Int}{t v rg o sp:Int}{dat:List DCn}{w:Bool}(hs:xC ss) (hv:Pr ss (t,v,rg,o)) (hd:dat.length<=16/\∀c∈dat,Pr ss c) (hsp:-1<=sp/\sp<=3):jC t v rg o dat sp w=some (true,()):=by
 refine eO ?_;unfold jC;rw[show je t v rg o=some (true,()) from Dy hs hv,jk (n:=16) hs hd.2 (by omega) (by omega)];refine dH (oDT hsp.1) ?_;exact Ok.ret (by rw[oDT (show sp < 4 by omega)])
theorem N6{n m key:Int}{code:List DIn}{ss bs:List Int}{dd:List (List Int)}{cs:List DCe}{ls:List DLn}{ts:List DTh}{i:Nat}{trap count pc call:Int}{args data:List DCn}{t v rg o sp:Int}{dat:List DCn}{w:Bool}(hp:j9 code ss dd) (h:MOk n ss bs cs ls ts) (hi:i < 4)
 (hn:n<=1099511627776) (hm:m<=1099511627776) (hR:yJ m ss (i:Int) 1 trap count pc call args data) (hv:Pr ss (t,v,rg,o)) (hd:dat.length<=16/\∀c∈dat,Pr ss c) (hsp:-1<=sp/\sp<=3) :
 Ok (nZ code ss dd bs key cs ls ts (i:Int) 1 trap count pc call args data t v rg o dat sp w) λr=>∃cs' ls' ts' b,r=(bs,key,cs',ls',ts',b,())/\MOk n ss bs cs' ls' ts':=by
 have htl:=h.tlen;obtain⟨hk1,hk2⟩:=hR.hkind rfl;obtain⟨th,hth⟩:∃th,ts[i]?=some th:=⟨_,oGE (by omega)⟩;have hok:=h.thr th (dP hth);have hil:=(oGS hth).1;have hg:dK ts i=some th:=hth;unfold nZ;delta dM;rw[tg hp h hn,yO hp.sz hR hm,uV hR.hcall,yN hp.sz hv hd hsp,hk1];simp only[oBS,oNT,oCF,bne_self_eq_false,dN,hg];by_cases h2:th.1=2
 ·simp only[bne_eq_false_iff_eq.2 h2,oCF,nK h,oBS,dN,hg];by_cases hc0:call=0
  ·subst hc0;obtain⟨a,ha⟩:∃a,args[0]?=some a:=⟨_,oGE (by rw[hk1];decide)⟩;have hva:=(hR.hargs.2 a (dP ha)).val;simp only[BEq.rfl,oCT,show dK args 0=some a from ha,oBS];unfold mg ky;rw[dT (show 4<=1000/\0+th.2.1.length<=1000000 by have:=hok.len;omega)];simp only[oCT,oBS,eq hth];exact Ok.ret ⟨_,_,_,_,rfl,h.set h.mem ⟨⟨show (0:Int)<=4 by decide,show (4:Int)<=4 by decide⟩,by dsimp only;rw[eV];simpa using hok.len,iE ee hok.regs,hok.pc,hok.count,hok.handler,hok.saved,⟨show (0:Int)<=0 by decide,show (0:Int)<=6 by decide⟩,hva⟩⟩
  ·simp only[oBF hc0,oCF]
   cases w with
   | true=>
    simp only[oCT,eq hth];exact Ok.ret ⟨_,_,_,_,rfl,h.set h.mem ⟨⟨show (0:Int)<=3 by decide,show (3:Int)<=4 by decide⟩,hok.len,hok.regs,hok.pc,hok.count,hok.handler,hok.saved,hok.trap,hok.code⟩⟩
   | false=>
    simp only[oCF];refine (KA h hi hR hv hd hsp).bind ?_;rintro _ ⟨b,cs',ls',ts',rfl,hb⟩;dsimp only
    cases b with
    | true=>exact Ok.ret ⟨_,_,_,_,rfl,hb rfl⟩
    | false=>exact Ok.ret ⟨_,_,_,_,rfl,h⟩
 ·simp only[bne_iff_ne.2 h2,oCT];exact Ok.ret ⟨_,_,_,_,rfl,h⟩
theorem JL{n key:Int}{code:List DIn}{ss bs:List Int}{dd:List (List Int)}{cs:List DCe}{ls:List DLn}{ts:List DTh}{i t v rg o sp:Int}{dat:List DCn}{w:Bool}(hp:j9 code ss dd) (h:MOk n ss bs cs ls ts)
 (hn:n<=1099511627776) (hv:Pr ss (t,v,rg,o)) (hd:dat.length<=16/\∀c∈dat,Pr ss c) (hsp:-1<=sp/\sp<=3) :
 Ok (kS code ss dd bs key cs ls ts i t v rg o dat sp w) λr=>∃cs' ls' ts' b,r=(bs,key,cs',ls',ts',b,())/\MOk n ss bs cs' ls' ts':=by
 have htl:=h.tlen;obtain⟨hraw,hrawc⟩:=vV (key:=key) h.lay hv;dsimp only at hraw;unfold kS;rw[tg hp h hn,yN hp.sz hv hd hsp];simp only[oBS,oNT,oCF];by_cases h1:i < 0
 ·simp only[oDT h1,oCT,oBS];exact Ok.ret ⟨_,_,_,_,rfl,h⟩
 by_cases h2:i>=4
 ·simp only[oDF h1,oDT h2,oCT,oCF,oBS];exact Ok.ret ⟨_,_,_,_,rfl,h⟩
 obtain⟨i,rfl⟩:∃k:Nat,i=k:=⟨i.toNat,by omega⟩;obtain⟨th,hth⟩:∃th,ts[i]?=some th:=⟨_,oGE (by omega)⟩;have hok:=h.thr th (dP hth);have hil:=(oGS hth).1;have hg:dK ts i=some th:=hth;obtain⟨c,hc0⟩:∃c,th.2.1[0]?=some c:=⟨_,oGE (by have:=hok.len;omega)⟩;simp only[oDF h1,oDF h2,oCF,dN,oBS,hg];by_cases h3:th.1=3
 ·simp only[bne_eq_false_iff_eq.2 h3,oCF,hraw,oBS,bne_self_eq_false,nK h,dN,hg,show dK th.2.1 0=some c from hc0,eq hth,eq hc0,gl hil,nD hil];exact Ok.ret ⟨_,_,_,_,rfl,h.set h.mem ⟨⟨show (0:Int)<=1 by decide,show (1:Int)<=4 by decide⟩,by dsimp only;rw[List.length_set];exact hok.len,im hok.regs hrawc,hok.pc,hok.count,hok.handler,hok.saved,hok.trap,hok.code⟩⟩
 ·simp only[bne_iff_ne.2 h3,oCT];exact Ok.ret ⟨_,_,_,_,rfl,h⟩
structure ja (n:Int) (q:Nat) (code:List DIn) (ss:List Int) (dt:List (List Int)) (bs:List Int) (cs:List DCe) (ls:List DLn) (ts:List DTh) (ck rn:List Int) (ins:List (List Int)) (d:List (List DCn)) (os:List DOp) (us:List DOu) (ow:List Int) (qs:List (List Int)) (rec:List DEn) (js:List Int):Prop where
 prog:j9 code ss dt
 mach:MOk n ss bs cs ls ts
 outs:xD ss ck rn ins d os us
 lock:ir ow qs
 rlen:rec.length<=q
 jlen:js.length=4
def OF(n key:Int) (q:Nat) (code:List DIn) (ss:List Int) (dt:List (List Int)) (bs:List Int) (r:(List DIn)×(List (Int))×(List (List (Int)))×(List (Int))×Int×(List DCe)×(List DLn)×(List DTh)×(List (Int))×(List (Int))×(List (List (Int)))×(List (List DCn))×(List DOp)×(List DOu)×(List (Int))×(List (List (Int)))×(List DEn)×(List (Int))×Unit):Prop:=
 ∃cs ls ts ck rn ins d os us ow qs rec js,r=(code,ss,dt,bs,key,cs,ls,ts,ck,rn,ins,d,os,us,ow,qs,rec,js,())/\ja n q code ss dt bs cs ls ts ck rn ins d os us ow qs rec js
theorem HC{n:Int}{q:Nat}{code:List DIn}{ss:List Int}{dt:List (List Int)}{bs:List Int}{key:Int}{cs:List DCe}{ls:List DLn}{ts:List DTh}{ck rn:List Int}{ins:List (List Int)}{d:List (List DCn)}{os:List DOp}{us:List DOu}{ow:List Int}{qs:List (List Int)}{rec:List DEn}{js:List Int}{i v:Int}(h:ja n q code ss dt bs cs ls ts ck rn ins d os us ow qs rec js) (hn:n<=1099511627776) (hq:q<=900) (hv:W16 v) :
 Ok (mK i v code ss dt bs key cs ls ts ck rn ins d os us ow qs rec js) (OF n key (q+1) code ss dt bs):=by
 unfold mK;rw[dV (x:=v) (by have:=hv.1;omega) (by have:=hv.2;omega)];obtain⟨v2,ev,hv2⟩:=fS v true;simp only[ev,oBS];refine (JL h.prog h.mach hn (jU hv2) ⟨by decide,ee⟩ (by decide)).bind ?_;rintro _ ⟨cs',ls',ts',b,rfl,hM⟩;dsimp only;have hr:=h.rlen;refine dH (dT (by simp;omega)) ?_;exact Ok.ret ⟨_,_,_,_,_,_,_,_,_,_,_,_,_,rfl,h.prog,hM,h.outs,h.lock,by rw[eV];simp;omega,h.jlen⟩
theorem EY{n:Int}{q:Nat}{code:List DIn}{ss:List Int}{dt:List (List Int)}{bs:List Int}{key:Int}{cs:List DCe}{ls:List DLn}{ts:List DTh}{ck rn:List Int}{ins:List (List Int)}{d:List (List DCn)}{os:List DOp}{us:List DOu}{ow:List Int}{qs:List (List Int)}{rec:List DEn}{js:List Int}{i v:Int}(h:ja n q code ss dt bs cs ls ts ck rn ins d os us ow qs rec js) (hn:n<=1099511627776) (hq:q<=900) (hv:W16 v) :
 Ok (iI i v code ss dt bs key cs ls ts ck rn ins d os us ow qs rec) λr=>∃cs' ls' ts' rec',r=(code,ss,dt,bs,key,cs',ls',ts',ck,rn,ins,d,os,us,ow,qs,rec',())/\ja n (q+1) code ss dt bs cs' ls' ts' ck rn ins d os us ow qs rec' js:=by
 unfold iI;rw[dV (x:=v) (by have:=hv.1;omega) (by have:=hv.2;omega)];obtain⟨v2,ev,hv2⟩:=fS v true;simp only[ev,oBS];refine (JL h.prog h.mach hn (jU hv2) ⟨by decide,ee⟩ (by decide)).bind ?_;rintro _ ⟨cs',ls',ts',b,rfl,hM⟩;dsimp only;have hr:=h.rlen;refine dH (dT (by simp;omega)) ?_;exact Ok.ret ⟨_,_,_,_,rfl,h.prog,hM,h.outs,h.lock,by rw[eV];simp;omega,h.jlen⟩
def OI(n key:Int) (q:Nat) (code:List DIn) (ss:List Int) (dt:List (List Int)) (bs:List Int) (cs:List DCe) (ls:List DLn) (ts:List DTh) (rec:List DEn) (r:Int×Int×Int×Int×(List DCn)×Int×Bool×(List DIn)×(List (Int))×(List (List (Int)))×(List (Int))×Int×(List DCe)×(List DLn)×(List DTh)×(List (Int))×(List (Int))×(List (List (Int)))×(List (List DCn))×(List DOp)×(List DOu)×(List (Int))×(List (List (Int)))×(List DEn)×(List (Int))×Unit):Prop:=
 ∃t v rg o dat sp w ck rn ins d os us ow qs js,r=(t,v,rg,o,dat,sp,w,code,ss,dt,bs,key,cs,ls,ts,ck,rn,ins,d,os,us,ow,qs,rec,js,())/\ja n q code ss dt bs cs ls ts ck rn ins d os us ow qs rec js/\Pr ss (t,v,rg,o)/\(dat.length<=16/\∀c∈dat,Pr ss c)/\-1<=sp/\sp<=3
set_option maxHeartbeats 4000000 in
theorem Gz{n m:Int}{q:Nat}{code:List DIn}{ss:List Int}{dt:List (List Int)}{bs:List Int}{key:Int}{cs:List DCe}{ls:List DLn}{ts:List DTh}{ck rn:List Int}{ins:List (List Int)}{d:List (List DCn)}{os:List DOp}{us:List DOu}{ow:List Int}{qs:List (List Int)}{rec:List DEn}{js:List Int}{i:Nat}{trap count pc call:Int}{args data:List DCn}(h:ja n q code ss dt bs cs ls ts ck rn ins d os us ow qs rec js) (hi:i < 4) (hm:m<=1099511627776) (hR:yJ m ss (i:Int) 1 trap count pc call args data) :
 Ok (jw (i:Int) 1 trap count pc call args data code ss dt bs key cs ls ts ck rn ins d os us ow qs rec js) (OI n key q code ss dt bs cs ls ts rec):=by
 obtain⟨hk1,_⟩:=hR.hkind rfl;have htl:=h.mach.tlen;obtain⟨v0,ev0,hv0⟩:=fS 0 true;obtain⟨v1,ev1,hv1⟩:=fS 0 false;have nil16:([]:List DCn).length<=16/\∀c∈([]:List DCn),Pr ss c:=⟨by decide,ee⟩
 have fin:∀{v:Int} {w:Bool} {ow':List Int} {qs':List (List Int)} {js':List Int},W16 v->ir ow' qs'->js'.length=4->Ok (some ((0:Int),v,(0:Int),(0:Int),([]:List DCn),(-1:Int),w,code,ss,dt,bs,key,cs,ls,ts,ck,rn,ins,d,os,us,ow',qs',rec,js',())) (OI n key q code ss dt bs cs ls ts rec):=
  λhv hl hj=>Ok.ret ⟨_,_,_,_,_,_,_,_,_,_,_,_,_,_,_,_,rfl,⟨h.prog,h.mach,h.outs,hl,h.rlen,hj⟩,jU hv,nil16,by decide,by decide⟩
 have hdo:Nc call=true->Ok ((nv ck rn ins d os us (i:Int) 1 trap count pc call args data).bind λ(x35,x36,x37,x38,x39,x40,x41,x42,x43,x44,x45,x46,x47,x48,_)=>some (x41,x42,x43,x44,x45,x46,x47,code,ss,dt,bs,key,cs,ls,ts,x35,x36,x37,x38,x39,x40,ow,qs,rec,js,())) (OI n key q code ss dt bs cs ls ts rec):=by
  intro ha;refine (M0 h.prog.sz h.outs hR ha hm).bind ?_;rintro _ ⟨ck',rn',ins',d',os',us',t,v,rg,o,dat,rfl,hO,hv,hd1,hd2⟩;exact Ok.ret ⟨_,_,_,_,_,_,_,_,_,_,_,_,_,_,_,_,rfl,⟨h.prog,h.mach,hO,h.lock,h.rlen,h.jlen⟩,hv,⟨hd1,hd2⟩,by decide,by decide⟩
 have arg0:0 < (kB call).length->∃a,dK args 0=some a/\W16 a.2.1/\wk .i64 a.2.1=a.2.1:=λhl=>by
  obtain⟨a,ha⟩:∃a,args[0]?=some a:=⟨_,oGE (by omega)⟩;have hva:=(hR.hargs.2 a (dP ha)).val;exact⟨a,ha,hva,dV (by have:=hva.1;omega) (by have:=hva.2;omega)⟩
 unfold jw;delta dM
 try dsimp only
 rcases tT hR.hcall with rfl | rfl | rfl | rfl | rfl | rfl | rfl | rfl | rfl | rfl | rfl | rfl | rfl | rfl | rfl | rfl
 all_goals simp only[Int.reduceBEq,oCT,oCF,oBS,ev0,ev1]
 all_goals first
  | exact hdo rfl
  | exact fin hv0 h.lock h.jlen
  | skip
 ·obtain⟨a,ga,ha,wa⟩:=arg0 (by decide);simp only[ga,oBS,wa];refine (LY h.lock (by omega)).bind ?_;rintro _ ⟨ow',qs',how,rfl,hl⟩;dsimp only;obtain⟨v,ev,hv⟩:=fS 0 (how != 2);simp only[ev,oBS];exact fin hv hl h.jlen
 ·obtain⟨a,ga,ha,wa⟩:=arg0 (by decide);simp only[ga,oBS,wa];refine (Ev h.lock).bind ?_;rintro _ ⟨ow',qs',nx,b,rfl,hl,_⟩;dsimp only;obtain⟨v,ev,hv⟩:=fS 0 b;simp only[ev,oBS];exact fin hv hl h.jlen
 ·obtain⟨y,e,hy⟩:=fH (f:=jv) (n:=NN) (s:=(ts,(ts.length:Int),0,code,ss,dt,bs,key,cs,ls,ts,ck,rn,ins,d,os,us,ow,qs,rec,js,0,0,0,0,(),0,false,()))
   (P:=λs'=>∃k:Nat,s'=(ts,(ts.length:Int),(k:Int),code,ss,dt,bs,key,cs,ls,ts,ck,rn,ins,d,os,us,ow,qs,rec,js,0,0,0,0,(),0,false,())/\k<=4)
   (R:=λy=>(∃v k,y=.inl (code,ss,dt,bs,key,cs,ls,ts,ck,rn,ins,d,os,us,ow,qs,rec,js,0,v,0,0,(),k,false,())/\W16 v/\0<=k/\k<=3)\/(∃a b c f,y=.inr (a,b,c,f,code,ss,dt,bs,key,cs,ls,ts,ck,rn,ins,d,os,us,ow,qs,rec,js,0,0,0,0,(),0,false,())))
   (m:=λs'=>(s'.2.1 - s'.2.2.1).toNat) ⟨0,rfl,by omega⟩ (by unfold NN;dsimp only;omega) (by
    rintro _ ⟨k,rfl,hk⟩;unfold jv;dsimp only
    (with_reducible refine dG (λhca=>?_) λhca=>?_)
    ·obtain⟨t,ht⟩:∃t,ts[k]?=some t:=⟨_,oGE (by omega)⟩;simp only[dN,oBS,show dK ts k=some t from ht]
     (with_reducible refine dG (λhcb=>?_) λhcb=>?_)
     ·obtain⟨v,ev,hv⟩:=fS (k:Int) true;simp only[ev,oBS];exact Ok.ret (.inl ⟨_,_,rfl,hv,by omega,by omega⟩)
     ·rw[dQ (x:=(k:Int)+1) (by omega) (by omega)];exact Ok.ret ⟨⟨k+1,rfl,by omega⟩,by dsimp only;omega⟩
    ·exact Ok.ret (.inr ⟨_,_,_,_,rfl⟩))
  simp only[e];rcases hy with ⟨v,k,rfl,hv,k0,k3⟩ | ⟨a,b,c,f,rfl⟩
  ·exact Ok.ret ⟨_,_,_,_,_,_,_,_,_,_,_,_,_,_,_,_,rfl,⟨h.prog,h.mach,h.outs,h.lock,h.rlen,h.jlen⟩,jU hv,nil16,by omega,by omega⟩
  ·simp only[ev1,oBS];exact fin hv1 h.lock h.jlen
 ·obtain⟨a,ga,ha,wa⟩:=arg0 (by decide);simp only[ga,oBS,wa];obtain⟨j,hj⟩:∃j:Nat,a.2.1=j:=⟨a.2.1.toNat,by have:=ha.1;omega⟩;simp only[hj];by_cases h1:(j:Int)=i
  ·simp only[beq_iff_eq.2 h1,oCT,oBS,ev1];exact fin hv1 h.lock h.jlen
  by_cases h2:(j:Int)>=4
  ·simp only[oBF h1,oDT h2,oCT,oCF,oBS,ev1];exact fin hv1 h.lock h.jlen
  obtain⟨t,ht⟩:∃t,ts[j]?=some t:=⟨_,oGE (by omega)⟩;simp only[oBF h1,oDF h2,oCF,oBS,dN,show dK ts j=some t from ht]
  cases t.1==0 with
  | true=>
   simp only[oCT,ev1,oBS];exact fin hv1 h.lock h.jlen
  | false=>
   simp only[oCF,dN,oBS,show dK ts j=some t from ht]
   cases t.1==4 with
   | true=>
    obtain⟨v,ev,hv⟩:=fS (wk .i64 t.2.2.2.2.2.2.2) true;simp only[oCT,ev,oBS];exact fin hv h.lock h.jlen
   | false=>
    obtain⟨z,hz⟩:∃z,js[i]?=some z:=⟨_,oGE (by have:=h.jlen;omega)⟩;simp only[oCF,show dK js i=some z from hz,oBS,ev0,eq hz];exact fin hv0 h.lock (by rw[List.length_set];exact h.jlen)
theorem xo{n m:Int}{q:Nat}{code:List DIn}{ss:List Int}{dt:List (List Int)}{bs:List Int}{key:Int}{cs:List DCe}{ls:List DLn}{ts:List DTh}{ck rn:List Int}{ins:List (List Int)}{d:List (List DCn)}{os:List DOp}{us:List DOu}{ow:List Int}{qs:List (List Int)}{rec:List DEn}{js:List Int}{i:Nat}{trap count pc call:Int}{args data:List DCn}(h:ja n q code ss dt bs cs ls ts ck rn ins d os us ow qs rec js) (hi:i < 4) (hn:n<=1099511627776) (hm:m<=1099511627776) (hq:q<=800) (hR:yJ m ss (i:Int) 1 trap count pc call args data) :
 Ok (iJ (i:Int) 1 trap count pc call args data code ss dt bs key cs ls ts ck rn ins d os us ow qs rec js) (OF n key (q+2) code ss dt bs):=by
 obtain⟨hk1,_⟩:=hR.hkind rfl;unfold iJ;refine Ok.bind (P:=λr=>∃nx,r=(nx,code,ss,dt,bs,key,cs,ls,ts,ck,rn,ins,d,os,us,ow,qs,rec,js,(i:Int),1,trap,count,pc,call,args,data,())) ?_ ?_
 ·by_cases h9:call=9
  ·subst h9;obtain⟨a,ha⟩:∃a,args[0]?=some a:=⟨_,oGE (by rw[hk1];decide)⟩;simp only[BEq.rfl,oCT,show dK args 0=some a from ha,oBS];refine (Ev h.lock).bind ?_;rintro _ ⟨ow',qs',nx,b,rfl,hl,_⟩;exact Ok.ret ⟨nx,rfl⟩
  ·simp only[oBF h9,oCF];exact Ok.ret ⟨_,rfl⟩
 rintro _ ⟨nx,rfl⟩;dsimp only;refine (Gz h hi hm hR).bind ?_;rintro _ ⟨t,v,rg,o,dat,sp,w,ck',rn',ins',d',os',us',ow',qs',js',rfl,h2,hv,hd,hs1,hs2⟩;dsimp only;refine (N6 h.prog h.mach hi hn hm hR hv hd ⟨hs1,hs2⟩).bind ?_;rintro _ ⟨cs',ls',ts',b,rfl,hM⟩;dsimp only;have hr:=h.rlen;refine dH (dT (by simp;omega)) ?_;have h3:∀e:DEn,ja n (q+1) code ss dt bs cs' ls' ts' ck' rn' ins' d' os' us' ow' qs' (List.append rec [e]) js':=λe=>⟨h2.prog,hM,h2.outs,h2.lock,by rw[eV];simp;omega,h2.jlen⟩
 (with_reducible refine dG (λhca=>?_) λhca=>?_)
 ·refine (HC (h3 _) hn (by omega) ⟨by decide,by decide⟩).bind ?_;rintro _ ⟨cs3,ls3,ts3,ck3,rn3,ins3,d3,os3,us3,ow3,qs3,rec3,js3,rfl,h4⟩;exact Ok.ret ⟨_,_,_,_,_,_,_,_,_,_,_,_,_,rfl,h4⟩
 ·have h4:=h3 (2,(i:Int),0,(i:Int),1,trap,count,pc,call,args,data,t,v,rg,o,dat,sp,w);exact Ok.ret ⟨_,_,_,_,_,_,_,_,_,_,_,_,_,rfl,h4.prog,h4.mach,h4.outs,h4.lock,by have:=h4.rlen;omega,h4.jlen⟩
theorem Bf{n:Int}{q:Nat}{code:List DIn}{ss:List Int}{dt:List (List Int)}{bs:List Int}{key:Int}{cs:List DCe}{ls:List DLn}{ts:List DTh}{ck rn:List Int}{ins:List (List Int)}{d:List (List DCn)}{os:List DOp}{us:List DOu}{ow:List Int}{qs:List (List Int)}{rec:List DEn}{js:List Int}{i:Nat}(h:ja n q code ss dt bs cs ls ts ck rn ins d os us ow qs rec js) (hi:i < 4) (hn:n<=1099511627776) (hq:q<=800) :
 Ok (jx (i:Int) code ss dt bs key cs ls ts ck rn ins d os us ow qs rec js) (OF n key (q+8) code ss dt bs):=by
 unfold jx;delta dM
 try dsimp only
 refine (MY h.lock).bind ?_;rintro _ ⟨ow',qs',nx,rfl,hl,hn4,hnx⟩;dsimp only
 refine Ok.loop (P:=λs'=>∃k:Nat,∃cs ls ts rec,s'=((i:Int),(nx.length:Int),(k:Int),code,ss,dt,bs,key,cs,ls,ts,ck,rn,ins,d,os,us,ow',qs',rec,js,nx,())/\k<=nx.length/\ja n (q+k) code ss dt bs cs ls ts ck rn ins d os us ow' qs' rec js)
  (R:=λr=>∃a b f cs ls ts rec,r=((i:Int),a,b,f,code,ss,dt,bs,key,cs,ls,ts,ck,rn,ins,d,os,us,ow',qs',rec,js,nx,())/\ja n (q+4) code ss dt bs cs ls ts ck rn ins d os us ow' qs' rec js) (m:=λs'=>(s'.2.1 - s'.2.2.1).toNat)
  ⟨0,cs,ls,ts,rec,rfl,by omega,h.prog,h.mach,h.outs,hl,by have:=h.rlen;omega,h.jlen⟩ (by unfold NN;dsimp only;omega) ?_ ?_
 ·rintro _ ⟨k,cs2,ls2,ts2,rec2,rfl,hk,h2⟩;unfold oN;dsimp only
  (with_reducible refine dG (λhca=>?_) λhca=>?_)
  ·obtain⟨x,hx⟩:∃x,nx[k]?=some x:=⟨_,oGE (by omega)⟩;simp only[dN,oBS,show dK nx k=some x from hx];refine (EY h2 hn (by omega) ⟨by decide,by decide⟩).bind ?_;rintro _ ⟨cs3,ls3,ts3,rec3,rfl,h3⟩;dsimp only;rw[dQ (x:=(k:Int)+1) (by omega) (by omega)];exact Ok.ret ⟨⟨k+1,_,_,_,_,rfl,by omega,h3⟩,by dsimp only;omega⟩
  ·exact Ok.ret ⟨_,_,_,_,_,_,_,rfl,h2.prog,h2.mach,h2.outs,h2.lock,by have:=h2.rlen;omega,h2.jlen⟩
 rintro _ ⟨a,b,f,cs2,ls2,ts2,rec2,rfl,h2⟩;dsimp only
 refine Ok.loop (P:=λs'=>∃k:Nat,∃cs ls ts rec js,s'=((i:Int),4,(k:Int),code,ss,dt,bs,key,cs,ls,ts,ck,rn,ins,d,os,us,ow',qs',rec,js,())/\k<=4/\ja n (q+4+k) code ss dt bs cs ls ts ck rn ins d os us ow' qs' rec js)
  (R:=λr=>∃a b c f cs ls ts rec js,r=(a,b,c,f,code,ss,dt,bs,key,cs,ls,ts,ck,rn,ins,d,os,us,ow',qs',rec,js,())/\ja n (q+8) code ss dt bs cs ls ts ck rn ins d os us ow' qs' rec js) (m:=λs'=>(s'.2.1 - s'.2.2.1).toNat)
  ⟨0,cs2,ls2,ts2,rec2,js,by rw[h.jlen];rfl,by omega,h2⟩ (by unfold NN;dsimp only;have:=h.jlen;omega) ?_ ?_
 ·rintro _ ⟨k,cs2,ls2,ts2,rec2,js2,rfl,hk,h2⟩;unfold oM;dsimp only
  (with_reducible refine dG (λhca=>?_) λhca=>?_)
  ·obtain⟨x,hx⟩:∃x,js2[k]?=some x:=⟨_,oGE (by have:=h2.jlen;omega)⟩;obtain⟨t,ht⟩:∃t,ts2[i]?=some t:=⟨_,oGE (by have:=h2.mach.tlen;omega)⟩;have htc:=(h2.mach.thr t (dP ht)).code;simp only[dN,oBS,show dK js2 k=some x from hx,show dK ts2 i=some t from ht];refine Ok.bind (P:=λr=>∃cs ls ts rec js,r=((i:Int),4,(k:Int),code,ss,dt,bs,key,cs,ls,ts,ck,rn,ins,d,os,us,ow',qs',rec,js,())/\ja n (q+4+(k+1)) code ss dt bs cs ls ts ck rn ins d os us ow' qs' rec js) ?_ ?_
   ·(with_reducible refine dG (λhcb=>?_) λhcb=>?_)
    ·refine (EY h2 hn (by omega) htc).bind ?_;rintro _ ⟨cs3,ls3,ts3,rec3,rfl,h3⟩;simp only[dN,oBS,show dK js2 k=some x from hx,eq hx];exact Ok.ret ⟨_,_,_,_,_,rfl,h3.prog,h3.mach,h3.outs,h3.lock,by have:=h3.rlen;omega,by rw[List.length_set];exact h3.jlen⟩
    ·exact Ok.ret ⟨_,_,_,_,_,rfl,h2.prog,h2.mach,h2.outs,h2.lock,by have:=h2.rlen;omega,h2.jlen⟩
   ·rintro _ ⟨cs3,ls3,ts3,rec3,js3,rfl,h3⟩;dsimp only;rw[dQ (x:=(k:Int)+1) (by omega) (by omega)];exact Ok.ret ⟨⟨k+1,_,_,_,_,_,rfl,by omega,h3⟩,by dsimp only;omega⟩
  ·exact Ok.ret ⟨_,_,_,_,_,_,_,_,_,rfl,h2.prog,h2.mach,h2.outs,h2.lock,by have:=h2.rlen;omega,h2.jlen⟩
 ·rintro _ ⟨a,b,c,f,cs2,ls2,ts2,rec2,js2,rfl,h2⟩;exact Ok.ret ⟨_,_,_,_,_,_,_,_,_,_,_,_,_,rfl,h2⟩
def OJ(n key:Int) (q:Nat) (code:List DIn) (ss:List Int) (dt:List (List Int)) (bs:List Int) (r:(List DIn)×(List (Int))×(List (List (Int)))×(List (Int))×Int×(List DCe)×(List DLn)×(List DTh)×(List (Int))×(List (Int))×(List (List (Int)))×(List (List DCn))×(List DOp)×(List DOu)×(List (Int))×(List (List (Int)))×(List DEn)×(List (Int))×Int×Unit):Prop:=
 (∃e,r=([],[],[],[],0,[],[],[],[],[],[],[],[],[],[],[],[],[],e,())/\e≠0)\/(∃cs ls ts ck rn ins d os us ow qs rec js,r=(code,ss,dt,bs,key,cs,ls,ts,ck,rn,ins,d,os,us,ow,qs,rec,js,0,())/\ja n q code ss dt bs cs ls ts ck rn ins d os us ow qs rec js)
theorem EF{code:List DIn}{ss:List Int}{dt:List (List Int)}{bs:List Int}{key:Int}{cs:List DCe}{ls:List DLn}{ts:List DTh}{ck rn:List Int}{ins:List (List Int)}{d:List (List DCn)}{os:List DOp}{us:List DOu}{ow:List Int}{qs:List (List Int)}{rec:List DEn}{js:List Int}(h1:rec.length<=1000) (h2:js.length<=1000):kt code ss dt bs key cs ls ts ck rn ins d os us ow qs rec js=some (code,ss,dt,bs,key,cs,ls,ts,ck,rn,ins,d,os,us,ow,qs,rec,js,()):=by
 unfold kt;rw[dT (show 8<=1000/\0+js.length<=1000000 by omega),dT (show 184<=1000/\0+rec.length<=1000000 by omega)];rfl
set_option maxHeartbeats 4000000 in
theorem IT{n:Int}{q:Nat}{code:List DIn}{ss:List Int}{dt:List (List Int)}{bs:List Int}{key:Int}{cs:List DCe}{ls:List DLn}{ts:List DTh}{ck rn:List Int}{ins:List (List Int)}{d:List (List DCn)}{os:List DOp}{us:List DOu}{ow:List Int}{qs:List (List Int)}{rec:List DEn}{js:List Int}{c1 c2:Int}{c3:Bool}(h:ja n q code ss dt bs cs ls ts ck rn ins d os us ow qs rec js) (hn0:0<=n) (hn:n+64<=1099511627776) (hq:q<=700) (hc1:Hz c1) (hc2:Hz c2) :
 Ok (mL code ss dt bs key cs ls ts ck rn ins d os us ow qs rec js c1 c2 c3) (OJ (n+64) key (q+12) code ss dt bs):=by
 have htl:=h.mach.tlen;have hr:=h.rlen;unfold mL;delta dM;rw[Ky (by omega)];simp only[oBS];have hrl:=y8 ts 0
 (with_reducible refine dG (λhca=>?_) λhca=>?_)
 ·exact Ok.ret (.inl ⟨15,rfl,by decide⟩)
 (with_reducible refine dG (λhcb=>?_) λhcb=>?_)
 ·exact Ok.ret (.inl ⟨3,rfl,by decide⟩)
 refine NG hc1 (by omega) (by omega) λv v0 v1=>?_;dsimp only;obtain⟨k,rfl⟩:∃k:Nat,v=k:=⟨v.toNat,by omega⟩;obtain⟨x,hx⟩:∃x,(gY ts 0)[k]?=some x:=⟨_,oGE (by omega)⟩;obtain⟨x0,x1,_⟩:=Gt (dP hx);obtain⟨i,rfl⟩:∃i:Nat,x=i:=⟨x.toNat,by omega⟩
 have hi:i < 4:=by omega
 simp only[dN,oBS,show dK (gY ts 0) k=some (i:Int) from hx];refine NG hc2 (by decide) (by decide) λu u0 u1=>?_;dsimp only;rw[dQ (x:=1+u) (by omega) (by omega),EF (by omega) (by have:=h.jlen;omega)]
 have hk:1<=1+u/\1+u<=64:=by omega
 generalize 1+u=kk at hk;simp only[oBS]
 cases c3 with
 | false=>
  simp only[oCF];have h2:ja n (q+1) code ss dt bs cs ls ts ck rn ins d os us ow qs rec js:=⟨h.prog,h.mach,h.outs,h.lock,by omega,h.jlen⟩;have htl2:=h2.mach.tlen;refine (vK h2.prog h2.mach hn0 hn hi hk).bind ?_;rintro _ ⟨cs3,ls3,t3,stop,trap,call,args,data,rfl,hm3,hth3,hreq,hask,_⟩;dsimp only;have hr2:=h2.rlen;have hM3:=(h2.mach.mono (show n<=n+64 by omega)).set hm3 (i:=i) hth3;refine dH (dT (by simp;omega)) ?_;refine Ok.bind (P:=λr=>∃cs ls ts ck rn ins d os us ow qs rec js,r=((i:Int),(),(),(),(),0,(),(),(),(),(),(),(),(),(),(),(),(),(),code,ss,dt,bs,key,cs,ls,ts,ck,rn,ins,d,os,us,ow,qs,rec,js,())/\ja (n+64) (q+4) code ss dt bs cs ls ts ck rn ins d os us ow qs rec js) ?_ ?_
  ·by_cases hs1:stop=1
   ·subst hs1;simp only[BEq.rfl,oCT];refine (xo (q:=q+2) ⟨h2.prog,hM3,h2.outs,h2.lock,by rw[eV];simp;omega,h2.jlen⟩ hi (by omega) hn (by omega) hreq).bind ?_;rintro _ ⟨cs4,ls4,ts4,ck4,rn4,ins4,d4,os4,us4,ow4,qs4,rec4,js4,rfl,h4⟩;exact Ok.ret ⟨_,_,_,_,_,_,_,_,_,_,_,_,_,rfl,h4⟩
   ·simp only[oBF hs1,oCF];exact Ok.ret ⟨_,_,_,_,_,_,_,_,_,_,_,_,_,rfl,h2.prog,hM3,h2.outs,h2.lock,by rw[eV];simp;omega,h2.jlen⟩
  rintro _ ⟨cs,ls,ts,ck,rn,ins,d,os,us,ow,qs,rec,js,rfl,h5⟩;dsimp only;obtain⟨t5,ht5⟩:∃t5,ts[i]?=some t5:=⟨_,oGE (by have:=h5.mach.tlen;omega)⟩;simp only[dN,oBS,show dK ts i=some t5 from ht5];refine Ok.bind (P:=λr=>∃cs ls ts ck rn ins d os us ow qs rec js,r=((),(),(),(),0,(),(),(),(),(),(),(),(),(),(),(),(),(),code,ss,dt,bs,key,cs,ls,ts,ck,rn,ins,d,os,us,ow,qs,rec,js,())/\ja (n+64) (q+12) code ss dt bs cs ls ts ck rn ins d os us ow qs rec js) ?_ ?_
  ·(with_reducible refine dG (λhce=>?_) λhce=>?_)
   ·refine (Bf h5 hi (by omega) (by omega)).bind ?_;rintro _ ⟨cs4,ls4,ts4,ck4,rn4,ins4,d4,os4,us4,ow4,qs4,rec4,js4,rfl,h4⟩;exact Ok.ret ⟨_,_,_,_,_,_,_,_,_,_,_,_,_,rfl,h4⟩
   ·exact Ok.ret ⟨_,_,_,_,_,_,_,_,_,_,_,_,_,rfl,h5.prog,h5.mach,h5.outs,h5.lock,by have:=h5.rlen;omega,h5.jlen⟩
  rintro _ ⟨cs,ls,ts,ck,rn,ins,d,os,us,ow,qs,rec,js,rfl,h6⟩;exact Ok.ret (.inr ⟨_,_,_,_,_,_,_,_,_,_,_,_,_,rfl,h6⟩)
 | true=>
  simp only[oCT];obtain⟨⟨b,_⟩,eC,_⟩:=LJ (key:=key) h.mach (i:Int);simp only[eC,oBS]
  cases b with
  | false=>
   simp only[oCF];have h2:ja n (q+1) code ss dt bs cs ls ts ck rn ins d os us ow qs rec js:=⟨h.prog,h.mach,h.outs,h.lock,by omega,h.jlen⟩;have htl2:=h2.mach.tlen;refine (vK h2.prog h2.mach hn0 hn hi hk).bind ?_;rintro _ ⟨cs3,ls3,t3,stop,trap,call,args,data,rfl,hm3,hth3,hreq,hask,_⟩;dsimp only;have hr2:=h2.rlen;have hM3:=(h2.mach.mono (show n<=n+64 by omega)).set hm3 (i:=i) hth3;refine dH (dT (by simp;omega)) ?_;refine Ok.bind (P:=λr=>∃cs ls ts ck rn ins d os us ow qs rec js,r=((i:Int),(),(),(),(),0,(),(),(),(),(),(),(),(),(),(),(),(),(),code,ss,dt,bs,key,cs,ls,ts,ck,rn,ins,d,os,us,ow,qs,rec,js,())/\ja (n+64) (q+4) code ss dt bs cs ls ts ck rn ins d os us ow qs rec js) ?_ ?_
   ·by_cases hs1:stop=1
    ·subst hs1;simp only[BEq.rfl,oCT];refine (xo (q:=q+2) ⟨h2.prog,hM3,h2.outs,h2.lock,by rw[eV];simp;omega,h2.jlen⟩ hi (by omega) hn (by omega) hreq).bind ?_;rintro _ ⟨cs4,ls4,ts4,ck4,rn4,ins4,d4,os4,us4,ow4,qs4,rec4,js4,rfl,h4⟩;exact Ok.ret ⟨_,_,_,_,_,_,_,_,_,_,_,_,_,rfl,h4⟩
    ·simp only[oBF hs1,oCF];exact Ok.ret ⟨_,_,_,_,_,_,_,_,_,_,_,_,_,rfl,h2.prog,hM3,h2.outs,h2.lock,by rw[eV];simp;omega,h2.jlen⟩
   rintro _ ⟨cs,ls,ts,ck,rn,ins,d,os,us,ow,qs,rec,js,rfl,h5⟩;dsimp only;obtain⟨t5,ht5⟩:∃t5,ts[i]?=some t5:=⟨_,oGE (by have:=h5.mach.tlen;omega)⟩;simp only[dN,oBS,show dK ts i=some t5 from ht5];refine Ok.bind (P:=λr=>∃cs ls ts ck rn ins d os us ow qs rec js,r=((),(),(),(),0,(),(),(),(),(),(),(),(),(),(),(),(),(),code,ss,dt,bs,key,cs,ls,ts,ck,rn,ins,d,os,us,ow,qs,rec,js,())/\ja (n+64) (q+12) code ss dt bs cs ls ts ck rn ins d os us ow qs rec js) ?_ ?_
   ·(with_reducible refine dG (λhce=>?_) λhce=>?_)
    ·refine (Bf h5 hi (by omega) (by omega)).bind ?_;rintro _ ⟨cs4,ls4,ts4,ck4,rn4,ins4,d4,os4,us4,ow4,qs4,rec4,js4,rfl,h4⟩;exact Ok.ret ⟨_,_,_,_,_,_,_,_,_,_,_,_,_,rfl,h4⟩
    ·exact Ok.ret ⟨_,_,_,_,_,_,_,_,_,_,_,_,_,rfl,h5.prog,h5.mach,h5.outs,h5.lock,by have:=h5.rlen;omega,h5.jlen⟩
   rintro _ ⟨cs,ls,ts,ck,rn,ins,d,os,us,ow,qs,rec,js,rfl,h6⟩;exact Ok.ret (.inr ⟨_,_,_,_,_,_,_,_,_,_,_,_,_,rfl,h6⟩)
  | true=>
   obtain⟨_,eD,ts',b',rfl,hD⟩:=Hb (key:=key) h.mach (i:Int);simp only[oCT,eD,oBS];rw[dT (show 184<=1000/\rec.length + _<=1000000 by simp;omega)];simp only[oCT];have h2:ja n (q+1) code ss dt bs cs ls ts' ck rn ins d os us ow qs (List.append rec [(3,(i:Int),0,0,0,0,0,0,0,[],[],0,0,0,0,[],0,false)]) js:=⟨h.prog,hD,h.outs,h.lock,by rw[eV];simp;omega,h.jlen⟩;have htl2:=h2.mach.tlen;refine (vK h2.prog h2.mach hn0 hn hi hk).bind ?_;rintro _ ⟨cs3,ls3,t3,stop,trap,call,args,data,rfl,hm3,hth3,hreq,hask,_⟩;dsimp only;have hr2:=h2.rlen;have hM3:=(h2.mach.mono (show n<=n+64 by omega)).set hm3 (i:=i) hth3;refine dH (dT (by simp;omega)) ?_;refine Ok.bind (P:=λr=>∃cs ls ts ck rn ins d os us ow qs rec js,r=((i:Int),(),(),(),(),0,(),(),(),(),(),(),(),(),(),(),(),(),(),code,ss,dt,bs,key,cs,ls,ts,ck,rn,ins,d,os,us,ow,qs,rec,js,())/\ja (n+64) (q+4) code ss dt bs cs ls ts ck rn ins d os us ow qs rec js) ?_ ?_
   ·by_cases hs1:stop=1
    ·subst hs1;simp only[BEq.rfl,oCT];refine (xo (q:=q+2) ⟨h2.prog,hM3,h2.outs,h2.lock,by rw[eV];simp;omega,h2.jlen⟩ hi (by omega) hn (by omega) hreq).bind ?_;rintro _ ⟨cs4,ls4,ts4,ck4,rn4,ins4,d4,os4,us4,ow4,qs4,rec4,js4,rfl,h4⟩;exact Ok.ret ⟨_,_,_,_,_,_,_,_,_,_,_,_,_,rfl,h4⟩
    ·simp only[oBF hs1,oCF];exact Ok.ret ⟨_,_,_,_,_,_,_,_,_,_,_,_,_,rfl,h2.prog,hM3,h2.outs,h2.lock,by rw[eV];simp;omega,h2.jlen⟩
   rintro _ ⟨cs,ls,ts,ck,rn,ins,d,os,us,ow,qs,rec,js,rfl,h5⟩;dsimp only;obtain⟨t5,ht5⟩:∃t5,ts[i]?=some t5:=⟨_,oGE (by have:=h5.mach.tlen;omega)⟩;simp only[dN,oBS,show dK ts i=some t5 from ht5];refine Ok.bind (P:=λr=>∃cs ls ts ck rn ins d os us ow qs rec js,r=((),(),(),(),0,(),(),(),(),(),(),(),(),(),(),(),(),(),code,ss,dt,bs,key,cs,ls,ts,ck,rn,ins,d,os,us,ow,qs,rec,js,())/\ja (n+64) (q+12) code ss dt bs cs ls ts ck rn ins d os us ow qs rec js) ?_ ?_
   ·(with_reducible refine dG (λhce=>?_) λhce=>?_)
    ·refine (Bf h5 hi (by omega) (by omega)).bind ?_;rintro _ ⟨cs4,ls4,ts4,ck4,rn4,ins4,d4,os4,us4,ow4,qs4,rec4,js4,rfl,h4⟩;exact Ok.ret ⟨_,_,_,_,_,_,_,_,_,_,_,_,_,rfl,h4⟩
    ·exact Ok.ret ⟨_,_,_,_,_,_,_,_,_,_,_,_,_,rfl,h5.prog,h5.mach,h5.outs,h5.lock,by have:=h5.rlen;omega,h5.jlen⟩
   rintro _ ⟨cs,ls,ts,ck,rn,ins,d,os,us,ow,qs,rec,js,rfl,h6⟩;exact Ok.ret (.inr ⟨_,_,_,_,_,_,_,_,_,_,_,_,_,rfl,h6⟩)
theorem I5{l ss:List Int}{k:Int}(hs:xC ss) (h:DOk l k):Ok (lK ss l k) λr=>∃bs key k',r=(bs,key,l,k',())/\LV bs ss/\W16 key/\DOk l k':=by
 unfold lK
 (with_reducible refine fi (by assumption) (by omega) (by omega) (λv0 k0 a0 b0 d0=>?_);try dsimp only)
 refine (MM hs a0 (by omega)).bind ?_;rintro _ ⟨key,rfl,hk⟩;exact Ok.ret ⟨_,_,_,rfl,N9 hs a0,hk,d0⟩
theorem Nz{l:List Int}{k:Int}(h:DOk l k):Ok (qg l k) λr=>∃code ss dt bs key cs ls ts ck rn ins d os us ow qs rec js k',r=(code,ss,dt,bs,key,cs,ls,ts,ck,rn,ins,d,os,us,ow,qs,rec,js,l,k',())/\W16 key/\ja 1152 216 code ss dt bs cs ls ts ck rn ins d os us ow qs rec js/\DOk l k':=by
 unfold qg;refine (Gy h).bind ?_;rintro _ ⟨code,ss,dt,k1,rfl,hp,h1⟩;dsimp only;refine (I5 hp.sz h1).bind ?_;rintro _ ⟨bs,key,k2,rfl,hL,hkey,h2⟩;dsimp only;refine (GD hp.sz h2).bind ?_;rintro _ ⟨ck,rn,ins,d,os,k3,rfl,hO,h3⟩;dsimp only;refine (Li hp hL hO).bind ?_;rintro _ ⟨cs,ts,rfl,hM⟩;dsimp only
 (with_reducible refine fi (by assumption) (by omega) (by omega) (λv4 k4 a4 b4 d4=>?_);try dsimp only)
 rw[dQ (x:=3+v4) (by omega) (by omega)]
 obtain⟨y,e,hy⟩:=fH (f:=od) (n:=NN) (s:=(3+v4,l,k4,(),(),(),(),0,(),(),(),(),(),(),(),(),(),(),(),(),(),code,ss,dt,bs,key,cs,eX,ts,ck,rn,ins,d,os,[],[-1,-1,-1,-1],[[],[],[],[]],[],[-1,-1,-1,-1],()))
  (P:=λs'=>∃(c k':Int) (q:Nat),∃cs ls ts ck rn ins d os us ow qs rec js,s'=(c,l,k',(),(),(),(),0,(),(),(),(),(),(),(),(),(),(),(),(),(),code,ss,dt,bs,key,cs,ls,ts,ck,rn,ins,d,os,us,ow,qs,rec,js,())/\0<=c/\c+q<=18/\DOk l k'/\ja (64*q) (12*q) code ss dt bs cs ls ts ck rn ins d os us ow qs rec js)
  (R:=λy=>(∃(c k':Int) (f:Bool) (q:Nat),∃cs ls ts ck rn ins d os us ow qs rec js z1 z2 z3 z4 z5 z6 z7 z8 z9 z10 z11 z12 z13 z14 z15 z16 z17 z18,y=.inl (c,f,l,k',(),(),(),(),0,(),(),(),(),(),(),(),(),(),(),(),(),(),code,ss,dt,bs,key,cs,ls,ts,ck,rn,ins,d,os,us,ow,qs,rec,js,z1,z2,z3,z4,z5,z6,z7,z8,z9,z10,z11,z12,z13,z14,z15,z16,z17,z18,())/\q<=18/\DOk l k'/\ja (64*q) (12*q) code ss dt bs cs ls ts ck rn ins d os us ow qs rec js) \/
   (∃(c k':Int) (f:Bool) (q:Nat),∃cs ls ts ck rn ins d os us ow qs rec js,y=.inr (c,f,l,k',(),(),(),(),0,(),(),(),(),(),(),(),(),(),(),(),(),(),code,ss,dt,bs,key,cs,ls,ts,ck,rn,ins,d,os,us,ow,qs,rec,js,())/\q<=18/\DOk l k'/\ja (64*q) (12*q) code ss dt bs cs ls ts ck rn ins d os us ow qs rec js)) (m:=λs'=>s'.1.toNat)
  ⟨3+v4,k4,0,_,_,_,_,_,_,_,_,_,_,_,_,_,rfl,by omega,by omega,d4,hp,by simpa using hM,hO,NI,by simp,rfl⟩ (by unfold NN;dsimp only;omega) (by
   rintro _ ⟨c,k',q,cs,ls,ts,ck,rn,ins,d,os,us,ow,qs,rec,js,rfl,hc0,hcq,hd,hR⟩;unfold od;dsimp only
   (with_reducible refine dG (λhca=>?_) λhca=>?_)
   ·refine (JB hd).bind ?_;rintro _ ⟨t,b,s,k5,rfl,t0,t1,b0,b1,hd5⟩;dsimp only;refine (IT hR (by omega) (by omega) (by omega) ⟨by omega,by omega⟩ ⟨by omega,by omega⟩).bind ?_;rintro _ (⟨e,rfl,he⟩ | ⟨cs2,ls2,ts2,ck2,rn2,ins2,d2,os2,us2,ow2,qs2,rec2,js2,rfl,hR2⟩)
    ·dsimp only;rw[bne_iff_ne.2 he];exact Ok.ret (.inl ⟨_,_,_,q,_,_,_,_,_,_,_,_,_,_,_,_,_,_,_,_,_,_,_,_,_,_,_,_,_,_,_,_,_,_,_,rfl,by omega,hd5,hR⟩)
    ·dsimp only;rw[dQ (x:=c - 1) (by omega) (by omega)];refine Ok.ret ⟨⟨_,_,q+1,_,_,_,_,_,_,_,_,_,_,_,_,_,rfl,by omega,by omega,hd5,?_⟩,by dsimp only;omega⟩;rw[show 64*((q+1:Nat):Int)=64*(q:Int)+64 by omega,show 12*(q+1)=12*q+12 by omega];exact hR2
   ·exact Ok.ret (.inr ⟨_,_,_,q,_,_,_,_,_,_,_,_,_,_,_,_,_,rfl,by omega,hd,hR⟩))
 rw[e];have fin:∀{q:Nat} {cs ls ts ck rn ins d os us ow qs rec js},q<=18->ja (64*q) (12*q) code ss dt bs cs ls ts ck rn ins d os us ow qs rec js->ja 1152 216 code ss dt bs cs ls ts ck rn ins d os us ow qs rec js:=λhq hR=>⟨hR.prog,hR.mach.mono (by omega),hR.outs,hR.lock,by have:=hR.rlen;omega,hR.jlen⟩;rcases hy with ⟨c,k',f,q,cs,ls,ts,ck,rn,ins,d,os,us,ow,qs,rec,js,z1,z2,z3,z4,z5,z6,z7,z8,z9,z10,z11,z12,z13,z14,z15,z16,z17,z18,rfl,hq,hd,hR⟩ | ⟨c,k',f,q,cs,ls,ts,ck,rn,ins,d,os,us,ow,qs,rec,js,rfl,hq,hd,hR⟩
 ·exact Ok.ret ⟨_,_,_,_,_,_,_,_,_,_,_,_,_,_,_,_,_,_,_,rfl,hkey,fin hq hR,hd⟩
 ·exact Ok.ret ⟨_,_,_,_,_,_,_,_,_,_,_,_,_,_,_,_,_,_,_,rfl,hkey,fin hq hR,hd⟩
end Go.Proofs.YtbapcamohngjbaaGreat
