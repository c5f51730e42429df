/- Part of the proof; no condition. -/
import Derived.Test.YtdcpgpngdcfhhaaGreatSd
import Derived.WalkKit
import Derived.WalkSpells
import Derived.Handy
import Derived.OpenShut
set_option linter.unusedVariables false
set_option linter.unusedSimpArgs false
namespace Go.Proofs.YtdcpgpngdcfhhaaGreat
open Go.RowKit
set_option maxRecDepth 100000
def kN:T3L→Option (T3L⊕T3S):=fun(v0,v1,v2,v3,v4,v5,v6,v7,v8,v9,v10,v11,v12,v13,v14,v15,v16,v17,v18,v19,v20,v21,v22,v23,v24,v25,v26,v27,v28,v29,v30,v31,v32,v33,v34,v35,v36,_)=>
bif (decide (v1 < v0)) then (((dJ 3 v2 v3).bind fun(x0,x1,x2,_)=>
bif (x0==0) then ((dH v35 0).bind fun x3=>
(dH v35 0).bind fun x4=>
(lC v13 x1 x2).bind fun(x5,x6,x7,x8,x9,ac,_)=>
(dW v1).bind fun ae=>
(dH v35 0).bind fun af=>
(dH af ae).bind fun ag=>
(dH v35 0).bind fun ah=>
(dH ah ae).bind fun ai=>
let aj:=(List.modify v35 0 fun e=>(List.modify e ae fun e=>(x5,(x6,(x7,x8)))));
some (v0,v1,x9,ac,v4,v5,v6,v7,v8,v9,v10,v11,v12,v13,v14,v15,v16,v17,v18,v19,v20,v21,v22,v23,v24,v25,v26,v27,v28,v29,v30,v31,v32,v33,v34,aj,v36,())) else
some (v0,v1,x1,x2,v4,v5,v6,v7,v8,v9,v10,v11,v12,v13,v14,v15,v16,v17,v18,v19,v20,v21,v22,v23,v24,v25,v26,v27,v28,v29,v30,v31,v32,v33,v34,v35,v36,()):Option (T3L)).bind fun(x0,x1,x2,x3,x4,x5,x6,x7,x8,x9,ac,ae,af,ag,ah,ai,aj,ak,am,an,ap,aq,av,ax,ay,az,aA,aB,aD,aE,aF,aG,aH,aI,aJ,aK,aL,_)=>
let aM:=(w64 (x1+1));
some (.inl (x0,aM,x2,x3,x4,x5,x6,x7,x8,x9,ac,ae,af,ag,ah,ai,aj,ak,am,an,ap,aq,av,ax,ay,az,aA,aB,aD,aE,aF,aG,aH,aI,aJ,aK,aL,()))) else
some (.inr (v0,v1,false,v2,v3,v4,v5,v6,v7,v8,v9,v10,v11,v12,v13,v14,v15,v16,v17,v18,v19,v20,v21,v22,v23,v24,v25,v26,v27,v28,v29,v30,v31,v32,v33,v34,v35,v36,()))
def oj:T40→Option (T40⊕(Int×Int×Int×T3S)):=fun(v0,v1,v2,v3,v4,v5,v6,v7,v8,v9,v10,v11,v12,v13,v14,v15,v16,v17,v18,v19,v20,v21,v22,v23,v24,v25,v26,v27,v28,v29,v30,v31,v32,v33,v34,v35,v36,v37,v38,v39,_)=>
bif (decide (v4 < v3)) then (((dJ 3 v5 v6).bind fun(x0,x1,x2,_)=>
bif (x0==0) then ((dW v0).bind fun x3=>
(dH v39 x3).bind fun x4=>
(dH v39 x3).bind fun x5=>
(lC v16 x1 x2).bind fun(x6,x7,x8,x9,ac,ae,_)=>
(dW v4).bind fun af=>
(dH v39 x3).bind fun ag=>
(dH ag.2.2.2.2.2.2.2 af).bind fun ah=>
(dH v39 x3).bind fun ai=>
(dH ai.2.2.2.2.2.2.2 af).bind fun aj=>
let ak:=(List.modify v39 x3 fun e=>(e.1,(e.2.1,(e.2.2.1,(e.2.2.2.1,(e.2.2.2.2.1,(e.2.2.2.2.2.1,(e.2.2.2.2.2.2.1,(List.modify e.2.2.2.2.2.2.2 af fun e=>(x6,(x7,(x8,x9))))))))))));
some (v0,v1,v2,v3,v4,ac,ae,v7,v8,v9,v10,v11,v12,v13,v14,v15,v16,v17,v18,v19,v20,v21,v22,v23,v24,v25,v26,v27,v28,v29,v30,v31,v32,v33,v34,v35,v36,v37,v38,ak,())) else
some (v0,v1,v2,v3,v4,x1,x2,v7,v8,v9,v10,v11,v12,v13,v14,v15,v16,v17,v18,v19,v20,v21,v22,v23,v24,v25,v26,v27,v28,v29,v30,v31,v32,v33,v34,v35,v36,v37,v38,v39,()):Option (T40)).bind fun(x0,x1,x2,x3,x4,x5,x6,x7,x8,x9,ac,ae,af,ag,ah,ai,aj,ak,am,an,ap,aq,av,ax,ay,az,aA,aB,aD,aE,aF,aG,aH,aI,aJ,aK,aL,aM,aO,aP,_)=>
let aQ:=(w64 (x4+1));
some (.inl (x0,x1,x2,x3,aQ,x5,x6,x7,x8,x9,ac,ae,af,ag,ah,ai,aj,ak,am,an,ap,aq,av,ax,ay,az,aA,aB,aD,aE,aF,aG,aH,aI,aJ,aK,aL,aM,aO,aP,()))) else
some (.inr (v0,v1,v2,v3,v4,false,v5,v6,v7,v8,v9,v10,v11,v12,v13,v14,v15,v16,v17,v18,v19,v20,v21,v22,v23,v24,v25,v26,v27,v28,v29,v30,v31,v32,v33,v34,v35,v36,v37,v38,v39,()))
def kM:T3L→Option (T3L⊕T3S):=fun(v0,v1,v2,v3,v4,v5,v6,v7,v8,v9,v10,v11,v12,v13,v14,v15,v16,v17,v18,v19,v20,v21,v22,v23,v24,v25,v26,v27,v28,v29,v30,v31,v32,v33,v34,v35,v36,_)=>
bif (decide (v1 < v0)) then (((dW v1).bind fun x0=>
(dH v36 x0).bind fun x1=>
(dH v36 x0).bind fun x2=>
(dH v36 x0).bind fun x3=>
let x4:=(dK (List.length x3.2.2.2.2.2.2.2));
(dQ oj NN (v1,v0,v1,x4,0,v2,v3,v4,v5,v6,v7,v8,v9,v10,v11,v12,v13,v14,v15,v16,v17,v18,v19,v20,v21,v22,v23,v24,v25,v26,v27,v28,v29,v30,v31,v32,v33,v34,v35,v36,())).bind fun(x5,x6,x7,x8,x9,ac,ae,af,ag,ah,ai,aj,ak,am,an,ap,aq,av,ax,ay,az,aA,aB,aD,aE,aF,aG,aH,aI,aJ,aK,aL,aM,aO,aP,aQ,aR,aS,aT,aU,aV,_)=>
(dJ 4 ae af).bind fun(aW,aY,aZ,_)=>
bif (aW==0) then ((dJ 5 aY aZ).bind fun(ba,bc,bd,_)=>
(dW x5).bind fun be=>
(dH aV be).bind fun bf=>
(dH aV be).bind fun bg=>
let bh:=(List.modify aV be fun e=>(ba,e.2));
some (x6,x7,bc,bd,ag,ah,ai,aj,ak,am,an,ap,aq,av,ax,ay,az,aA,aB,aD,aE,aF,aG,aH,aI,aJ,aK,aL,aM,aO,aP,aQ,aR,aS,aT,aU,bh,())) else
some (x6,x7,aY,aZ,ag,ah,ai,aj,ak,am,an,ap,aq,av,ax,ay,az,aA,aB,aD,aE,aF,aG,aH,aI,aJ,aK,aL,aM,aO,aP,aQ,aR,aS,aT,aU,aV,()):Option (T3L)).bind fun(x0,x1,x2,x3,x4,x5,x6,x7,x8,x9,ac,ae,af,ag,ah,ai,aj,ak,am,an,ap,aq,av,ax,ay,az,aA,aB,aD,aE,aF,aG,aH,aI,aJ,aK,aL,_)=>
let aM:=(w64 (x1+1));
some (.inl (x0,aM,x2,x3,x4,x5,x6,x7,x8,x9,ac,ae,af,ag,ah,ai,aj,ak,am,an,ap,aq,av,ax,ay,az,aA,aB,aD,aE,aF,aG,aH,aI,aJ,aK,aL,()))) else
some (.inr (v0,v1,false,v2,v3,v4,v5,v6,v7,v8,v9,v10,v11,v12,v13,v14,v15,v16,v17,v18,v19,v20,v21,v22,v23,v24,v25,v26,v27,v28,v29,v30,v31,v32,v33,v34,v35,v36,()))
def hJ(a0:List (Int)) (a1:Int):Option (LDIn×LI×LLI×LI×Int×LDCe×LDLn×LDTh×T07):=
(rF a0 a1).bind fun(x0,x1,x2,x3,x4,x5,x6,x7,x8,x9,ac,ae,af,ag,ah,ai,aj,ak,am,an,_)=>
(match ((dJ 3 am an).bind fun(ap,aq,av,_)=>
bif (ap==0) then ((jV x0 x1 x2 x3 x4 x5 x6 x7).bind fun(ax,ay,_)=>
(dH ax 0).bind fun az=>
(dH ax 0).bind fun aA=>
(dH ax 0).bind fun aB=>
let aD:=(dK (List.length aB));
(dQ kN NN (aD,0,aq,av,(),(),(),(),0,(),(),(),x0,x1,x2,x3,x4,x5,x6,x7,x8,x9,ac,ae,af,ag,ah,ai,aj,ak,x3,x4,x5,x6,x7,ax,ay,())).bind fun(aE,aF,aG,aH,aI,aJ,aK,aL,aM,aO,aP,aQ,aR,aS,aT,aU,aV,aW,aY,aZ,ba,bc,bd,be,bf,bg,bh,bi,bj,bk,bl,bm,bn,bo,bp,bq,bt,bv,_)=>
let bx:=(dK (List.length bv));
(dQ kM NN (bx,0,aH,aI,aJ,aK,aL,aM,aO,aP,aQ,aR,aS,aT,aU,aV,aW,aY,aZ,ba,bc,bd,be,bf,bg,bh,bi,bj,bk,bl,bm,bn,bo,bp,bq,bt,bv,())).bind fun(bA,bB,bC,bD,bE,bF,bG,bH,bI,bJ,bK,bL,bM,bN,bO,bP,bQ,bR,bS,bT,bU,bV,bW,bY,bZ,b8,b9,ca,cb,cd,cf,cg,ch,ci,cj,cl,cn,cq,_)=>
(kZ bN bO bP cg ch cn cq).bind fun(cr,cu,cw,cx,cy,cz,_)=>
bif cz then (some (.inl (bD,bE,bF,bG,bH,bI,bJ,bK,bL,bM,bN,bO,bP,bQ,bR,bS,bT,bU,bV,bW,bY,bZ,b8,b9,ca,cb,cd,cf,cr,cu,cw,cx,cy,()))) else
some (.inr (bD,bE,bF,bG,bH,bI,bJ,bK,bL,bM,bN,bO,bP,bQ,bR,bS,bT,bU,bV,bW,bY,bZ,b8,b9,ca,cb,cd,cf,cg,ch,ci,cj,cl,()))) else
some (.inr (aq,av,(),(),(),(),0,(),(),(),x0,x1,x2,x3,x4,x5,x6,x7,x8,x9,ac,ae,af,ag,ah,ai,aj,ak,x3,x4,x5,x6,x7,())):Option (T3D⊕T3D)) with
| none=>none
| some (.inl (ap,aq,av,ax,ay,az,aA,aB,aD,aE,aF,aG,aH,aI,aJ,aK,aL,aM,aO,aP,aQ,aR,aS,aT,aU,aV,aW,aY,aZ,ba,bc,bd,be,_))=>
some (aF,aG,aH,aZ,ba,bc,bd,be,ap,aq,())
| some (.inr (ap,aq,av,ax,ay,az,aA,aB,aD,aE,aF,aG,aH,aI,aJ,aK,aL,aM,aO,aP,aQ,aR,aS,aT,aU,aV,aW,aY,aZ,ba,bc,bd,be,_))=>
some (aF,aG,aH,aZ,ba,bc,bd,be,ap,aq,()))
noncomputable def Au:X.Cfg:=⟨E0,[Be,fq,pD,wQ,sy],[],[⟨11,0,qE,[(.normal,(qS [(pP 0 2),(pP 2 6),(pP 3 8),(pP 4 10),(pP 5 12),(pP 6 14),(sP 27 I64),(sP 28 I64)] [(2,(uL [RI,I64])),(6,(uL [N1,N1,N1])),(8,(uL [N1,CW,N1,N1,N1])),(10,(uL [fb,RI,(.row false RW),RI,CW,eJ,eX,fB,RW,RW,(.row false RW),(.row false d8),gH,iU,RI,(.row false RI),HW,RI])),(12,(uL [RI,CW,eJ,eX,fB])),(14,(uL [(.row true (.row true KCn)),(.row true Bh)]))]))]⟩,(lx 8 1 [(pP 0 2),(pP 2 6),(pP 3 8),(pP 4 10),(pP 5 12),(pP 6 14),(sP 27 I64),(sP 28 I64)] [(2,(uL [RI,I64])),(6,(uL [N1,N1,N1])),(8,(uL [N1,CW,N1,N1,N1])),(10,(uL [fb,RI,(.row false RW),RI,CW,eJ,eX,fB,RW,RW,(.row false RW),(.row false d8),gH,iU,RI,(.row false RI),HW,RI])),(12,(uL [RI,CW,eJ,eX,fB])),(14,(uL [(.row true (.row true KCn)),(.row true Bh)]))] 29),⟨26,2,qE,[(.normal,(qS [(pP 0 2),(pP 2 6),(pP 3 8),(pP 4 10),(pP 5 12),(pP 6 14),(sP 8 I64),(sP 48 I64),(sP 49 I64),(sP 58 I64),(sP 59 I64)] [(2,(uL [RI,I64])),(6,(uL [N1,N1,N1])),(8,(uL [N1,CW,N1,N1,N1])),(10,(uL [fb,RI,(.row false RW),RI,CW,eJ,eX,fB,RW,RW,(.row false RW),(.row false d8),gH,iU,RI,(.row false RI),HW,RI])),(12,(uL [RI,CW,eJ,eX,fB])),(14,(uL [(.row true (.row true KCn)),(.row true Bh)]))]))]⟩,⟨23,3,(qS [(pP 0 2),(pP 2 6),(pP 3 8),(pP 4 10),(pP 5 12),(pP 6 14),(sP 8 I64),(sP 48 I64),(sP 49 I64),(sP 58 I64),(sP 59 I64)] [(2,(uL [RI,I64])),(6,(uL [N1,N1,N1])),(8,(uL [N1,CW,N1,N1,N1])),(10,(uL [fb,RI,(.row false RW),RI,CW,eJ,eX,fB,RW,RW,(.row false RW),(.row false d8),gH,iU,RI,(.row false RI),HW,RI])),(12,(uL [RI,CW,eJ,eX,fB])),(14,(uL [(.row true (.row true KCn)),(.row true Bh)]))]),[(.exit 4,(qS [(pP 0 2),(pP 2 6),(pP 3 8),(pP 4 10),(pP 5 12),(pP 6 14),(sP 8 I64),(sP 48 I64),(sP 49 I64),(sP 58 I64),(sP 59 I64),(sP 60 .bool)] [(2,(uL [RI,I64])),(6,(uL [N1,N1,N1])),(8,(uL [N1,CW,N1,N1,N1])),(10,(uL [fb,RI,(.row false RW),RI,CW,eJ,eX,fB,RW,RW,(.row false RW),(.row false d8),gH,iU,RI,(.row false RI),HW,RI])),(12,(uL [RI,CW,eJ,eX,fB])),(14,(uL [(.row true (.row true KCn)),(.row true Bh)]))]))]⟩,⟨19,4,qE,[(.normal,(qS [(pP 0 2),(pP 2 6),(pP 3 8),(pP 4 10),(pP 5 12),(pP 6 14),(sP 48 I64),(sP 49 I64)] [(2,(uL [RI,I64])),(6,(uL [N1,N1,N1])),(8,(uL [N1,CW,N1,N1,N1])),(10,(uL [fb,RI,(.row false RW),RI,CW,eJ,eX,fB,RW,RW,(.row false RW),(.row false d8),gH,iU,RI,(.row false RI),HW,RI])),(12,(uL [RI,CW,eJ,eX,fB])),(14,(uL [(.row true (.row true KCn)),(.row true Bh)]))]))]⟩,⟨16,5,(qS [(pP 0 2),(pP 2 6),(pP 3 8),(pP 4 10),(pP 5 12),(pP 6 14),(sP 48 I64),(sP 49 I64)] [(2,(uL [RI,I64])),(6,(uL [N1,N1,N1])),(8,(uL [N1,CW,N1,N1,N1])),(10,(uL [fb,RI,(.row false RW),RI,CW,eJ,eX,fB,RW,RW,(.row false RW),(.row false d8),gH,iU,RI,(.row false RI),HW,RI])),(12,(uL [RI,CW,eJ,eX,fB])),(14,(uL [(.row true (.row true KCn)),(.row true Bh)]))]),[(.exit 2,(qS [(pP 0 2),(pP 2 6),(pP 3 8),(pP 4 10),(pP 5 12),(pP 6 14),(sP 48 I64),(sP 49 I64),(sP 50 .bool)] [(2,(uL [RI,I64])),(6,(uL [N1,N1,N1])),(8,(uL [N1,CW,N1,N1,N1])),(10,(uL [fb,RI,(.row false RW),RI,CW,eJ,eX,fB,RW,RW,(.row false RW),(.row false d8),gH,iU,RI,(.row false RI),HW,RI])),(12,(uL [RI,CW,eJ,eX,fB])),(14,(uL [(.row true (.row true KCn)),(.row true Bh)]))]))]⟩,⟨3,6,qE,[(.normal,(qS [(pP 0 2),(pP 2 6),(pP 3 8),(pP 4 10),(pP 5 12)] [(2,(uL [RI,I64])),(6,(uL [N1,N1,N1])),(8,(uL [N1,CW,N1,N1,N1])),(10,(uL [fb,RI,(.row false RW),RI,CW,eJ,eX,fB,RW,RW,(.row false RW),(.row false d8),gH,iU,RI,(.row false RI),HW,RI])),(12,(uL [RI,CW,(.row true KCe),iP,qi]))])),(.normal,(qS [(pP 0 2),(pP 2 6),(pP 3 8),(pP 4 10),(pP 5 12)] [(2,(uL [RI,I64])),(6,(uL [N1,N1,N1])),(8,(uL [N1,CW,N1,N1,N1])),(10,(uL [fb,RI,(.row false RW),RI,CW,eJ,eX,fB,RW,RW,(.row false RW),(.row false d8),gH,iU,RI,(.row false RI),HW,RI])),(12,(uL [RI,CW,eJ,eX,fB]))]))]⟩]⟩
def ll:Ctr:=⟨8,117,[.ptr ⟨2,0,[]⟩ [0]],[(2,(uL [RI,I64]))],[⟨(uL [fb,RI,(.row false RW),RI,CW,eJ,eX,fB]),[.agg 3,.agg 5],[(2,(uL [RI,I64]))]⟩],ap2 hJ⟩
theorem n8:Lk 10 ll:=ls (C:=Au) rfl (aC IQ (aC fC (aC tQ (aC Eg (aC zR aN))))) (by kernel_rfl) fun h=>by kernel_rfl
def pW:T1G→Option (T1G⊕(LDLn×T1v)):=fun(v0,v1,v2,v3,v4,v5,v6,_)=>
bif (decide (v2 < v1)) then (((dW v2).bind fun x0=>
(dH v0 x0).bind fun x1=>
bif x1.2.1 then (let x2:Int:=(w64 (x1.1*4));
(dW x2).bind fun x3=>
bif (hY x3 (List.length v5) (List.length v5)) then bif (hY x3 (Nat.add x3 (Nat.min (List.length x1.2.2) (Nat.sub (List.length v5) x3))) (List.length v5)) then bif (Nat.blt 0 (Nat.min (List.length x1.2.2) (Nat.sub (List.length v5) x3))) then (let x4:LDCe:=(lP v5 x3 (Nat.min (List.length x1.2.2) (Nat.sub (List.length v5) x3)) x1.2.2);
let x5:=(dK (Nat.min (List.length x1.2.2) (Nat.sub (List.length v5) x3)));
some (v0,v1,v2,v3,v4,x4,v6,())) else
let x4:=(dK (Nat.min (List.length x1.2.2) (Nat.sub (List.length v5) x3)));
some (v0,v1,v2,v3,v4,v5,v6,()) else none else none) else
some (v0,v1,v2,v3,v4,v5,v6,()):Option (T1G)).bind fun(x0,x1,x2,x3,x4,x5,x6,_)=>
let x7:=(w64 (x2+1));
some (.inl (x0,x1,x7,x3,x4,x5,x6,()))) else
some (.inr (v0,v1,v2,false,v3,v4,v5,v6,()))
def mc(a0:LDCe) (a1:LDLn):Option (T04):=
(jB a0 a1).bind fun(x0,x1,_)=>
let x2:=(dK (List.length x1));
(dQ pW NN (x1,x2,0,(),(),x0,x1,())).bind fun(x3,x4,x5,x6,x7,x8,x9,ac,_)=>
(j6).bind fun(ae,_)=>
some (x9,ae,())
noncomputable def CD:X.Cfg:=⟨E0,[nY,mw],[],[⟨7,0,qE,[(.normal,(qS [(pP 2 6),(pP 3 8),(sP 9 eX),(sP 10 I64),(sP 11 I64)] [(6,(uL [N1,N1])),(8,(uL [(.row true KCe),eX]))]))]⟩,(lx 4 1 [(pP 2 6),(pP 3 8),(sP 9 eX),(sP 10 I64),(sP 11 I64)] [(6,(uL [N1,N1])),(8,(uL [(.row true KCe),eX]))] 12)]⟩
def ur:Ctr:=⟨21,118,[.agg (uL [eJ,eX])],[],[⟨(uL [(.row true KCe),iP]),[.agg 2],[]⟩],ap2 mc⟩
theorem BV:Lk 2 ur:=ls (C:=CD) rfl (aC qO (aC pm aN)) (by kernel_rfl) fun h=>by kernel_rfl
def mQ(a0:List (Int)) (a1:Int) (a2:Int):Option (Bool×Unit):=
bif (decide (a1≥0)) then (let x0:Int:=(dK (List.length a0));
bif (decide (a1 < x0)) then (bif (decide (a2≥0)) then ((dW a1).bind fun x1=>
(dH a0 x1).bind fun x2=>
some ((decide (a2 < x2)),())) else
some (false,())) else
some (false,())) else
some (false,())
noncomputable def yG:X.Cfg:=⟨E0,[],[],[]⟩
def qY:Ctr:=⟨72,119,[shU RI,.agg (uL [I64,I64])],[],[⟨(uL [.bool]),[.one],[]⟩],ap3 mQ⟩
theorem yk:Lk 1 qY:=ls (C:=yG) rfl aN (by kernel_rfl) fun h=>by kernel_rfl
def jm(a0:List (Int)) (a1:Int) (a2:List (Int)) (a3:Int) (a4:Int):Option (T02):=
(mQ a2 a3 a4).bind fun(x0,_)=>
bif (!x0) then (some (0,6,())) else
let x1:=(dK (List.length a0));
bif (decide (a3≥x1)) then (some (0,6,())) else
(dW a3).bind fun x2=>
(dH a0 x2).bind fun x3=>
let x4:=(w64 (x3+a4));
some (x4,0,())
noncomputable def xg:X.Cfg:=⟨E0,[qY],[],[]⟩
def p8:Ctr:=⟨40,120,[.agg (uL [RI,CW]),shU RI,.agg (uL [I64,I64])],[],[⟨(uL [I64,I64]),[.one,.one],[]⟩],ap5 jm⟩
theorem w8:Lk 2 p8:=ls (C:=xg) rfl (aC yk aN) (by kernel_rfl) fun h=>by kernel_rfl
def o5(a0:LDCe) (a1:LDLn) (a2:Int):Option (T0e):=
(bif (decide (a2 < 0)) then (some (a2,true,a0,a1,0,0,())) else
bif (decide (a2≥512)) then (some (a2,true,a0,a1,0,0,())) else
let x0:=(dK (List.length a0));
some (a2,(decide (a2≥x0)),a0,a1,0,0,()):Option (Int×Bool×LDCe×LDLn×T02)).bind fun(x0,x1,x2,x3,x4,x5,_)=>
bif x1 then (some (0,0,false,())) else
let x6:=(w64 (Int.tdiv x0 4));
let x7:=(Int.tmod x6 4);
(let x8:=(dK (List.length x3));
bif (decide (x7 < x8)) then ((dW x7).bind fun x9=>
(dH x3 x9).bind fun ac=>
bif (ac.1==x6) then (let ae:Int:=(Int.tmod x0 4);
(dW x7).bind fun af=>
(dH x3 af).bind fun ag=>
let ah:=(dK (List.length ag.2.2));
some (x0,x7,(decide (ae < ah)),x2,x3,x4,x5,())) else
some (x0,x7,false,x2,x3,x4,x5,())) else
some (x0,x7,false,x2,x3,x4,x5,()):Option (Int×Int×Bool×LDCe×LDLn×T02)).bind fun(x8,x9,ac,ae,af,ag,ah,_)=>
bif ac then ((dW x9).bind fun ai=>
(dH af ai).bind fun aj=>
let ak:=(Int.tmod x8 4);
(dW ak).bind fun am=>
(dH aj.2.2 am).bind fun an=>
some (an.1,an.2,true,())) else
(dW x8).bind fun ai=>
(dH ae ai).bind fun aj=>
some (aj.1,aj.2,true,())
noncomputable def Gj:X.Cfg:=⟨E0,[],[],[⟨2,0,qE,[(.normal,(qS [(sP 1 I64),(pP 2 6),(pP 4 10),(sP 20 .bool)] [(6,(uL [eJ,eX])),(10,(uL [CB,CW]))]))]⟩,⟨7,1,qE,[(.normal,(qS [(sP 1 I64),(pP 2 6),(pP 4 10),(sP 7 I64),(sP 52 .bool)] [(6,(uL [eJ,eX])),(10,(uL [CB,CW]))]))]⟩]⟩
def zt:Ctr:=⟨41,121,[.agg (uL [eJ,eX]),shU I64],[],[⟨(uL [CB,CW,.bool]),[.agg 2,.one],[]⟩],ap3 o5⟩
theorem F1:Lk 1 zt:=ls (C:=Gj) rfl aN (by kernel_rfl) fun h=>by kernel_rfl
def eQ:T2c→Option (T2c⊕(T0c⊕T2r)):=fun(v0,v1,v2,v3,v4,v5,v6,v7,v8,_)=>
bif (decide (v4 < v3)) then ((dW v4).bind fun x0=>
(dH v2 x0).bind fun x1=>
(let x2:=(dK (List.length v0));
bif (decide (v4 < x2)) then (bif (decide (v1≥x1)) then (let x3:Int:=(w64 (v1 - x1));
(dW v4).bind fun x4=>
(dH v0 x4).bind fun x5=>
some (v0,v1,v4,x1,v2,v3,v4,(decide (x3 < x5)),v5,v6,v7,v8,())) else
some (v0,v1,v4,x1,v2,v3,v4,false,v5,v6,v7,v8,())) else
some (v0,v1,v4,x1,v2,v3,v4,false,v5,v6,v7,v8,()):Option (T2N)).bind fun(x2,x3,x4,x5,x6,x7,x8,x9,ac,ae,af,ag,_)=>
bif x9 then (let ah:Int:=(w64 (x3 - x5));
some (.inr (.inl (true,x4,ah,())))) else
let ah:=(w64 (x8+1));
some (.inl (x2,x3,x6,x7,ah,ac,ae,af,ag,()))) else
some (.inr (.inr (v0,v1,v2,v3,v4,false,v5,v6,v7,v8,())))
def jl(a0:List (Int)) (a1:Int) (a2:List (Int)) (a3:Int):Option (T0e):=
let x0:=(dK (List.length a0));
(match dQ eQ NN (a2,a3,a0,x0,0,a0,a1,0,0,()) with
| none=>none
| some (.inl (x1,x2,x3,_))=>
some (x2,x3,x1,())
| some (.inr (x1,x2,x3,x4,x5,x6,x7,x8,x9,ac,_))=>
some (0,0,false,()))
noncomputable def xf:X.Cfg:=⟨E0,[],[],[⟨8,0,qE,[(.normal,(qS [(sP 1 RI),(sP 2 I64),(pP 6 14),(sP 8 I64),(sP 9 I64),(sP 11 RI),(sP 12 I64),(sP 13 I64),(sP 36 .bool)] [(8,(uL [RI,CW])),(14,(uL [I64,I64]))]))]⟩,⟨3,1,(qS [(sP 1 RI),(sP 2 I64),(pP 6 14),(sP 11 RI),(sP 12 I64),(sP 13 I64)] [(8,(uL [RI,CW])),(14,(uL [I64,I64]))]),[(.ret,(qS [(pP 6 14),(sP 7 .bool)] [(14,(uL [I64,I64]))])),(.exit 0,(qS [(sP 1 RI),(sP 2 I64),(pP 6 14),(sP 11 RI),(sP 12 I64),(sP 13 I64),(sP 14 .bool)] [(8,(uL [RI,CW])),(14,(uL [I64,I64]))]))]⟩]⟩
def p7:Ctr:=⟨73,122,[.agg (uL [RI,CW]),shU RI,shU I64],[],[⟨(uL [I64,I64,.bool]),[.agg 2,.one],[]⟩],ap4 jl⟩
theorem w7:Lk 1 p7:=ls (C:=xf) rfl aN (by kernel_rfl) fun h=>by kernel_rfl
def iX(a0:List (Int)) (a1:Int) (a2:List (Int)) (a3:Int) (a4:Int):Option (T0w):=
bif (a3==2) then (let x0:Int:=(wk .u16 (a4 - a1));
some (a3,x0,0,0,())) else
bif (a3==1) then (let x0:Int:=(wk .i64 a4);
(jl a0 a1 a2 x0).bind fun(x1,x2,x3,_)=>
(bif (!x3) then (let x4:Int:=(wk .i64 a4);
some (a3,a4,0,0,0,0,(-1),x4,())) else
some (a3,a4,0,0,0,0,x1,x2,()):Option (T1M)).bind fun(x4,x5,x6,x7,x8,x9,ac,ae,_)=>
some (x4,0,ac,ae,())) else
some (a3,a4,0,0,())
noncomputable def Ar:X.Cfg:=⟨E0,[p7],[],[⟨7,0,qE,[(.normal,(qS [(pP 5 12),(pP 6 14),(pP 7 16)] [(12,(uL [CB,CW])),(14,(uL [CB,CW,I64,I64])),(16,(uL [I64,I64]))]))]⟩]⟩
def oa:Ctr:=⟨42,123,[.agg (uL [RI,CW]),shU RI,.agg (uL [CB,CW])],[],[⟨(uL [CB,CW,I64,I64]),[.agg 4],[]⟩],ap5 iX⟩
theorem sj:Lk 2 oa:=ls (C:=Ar) rfl (aC w7 aN) (by kernel_rfl) fun h=>by kernel_rfl
def gd:T2T→Option (T2T⊕T2W):=fun(v0,v1,v2,v3,v4,v5,v6,v7,v8,v9,v10,v11,v12,_)=>
bif (decide (v6 < v5)) then ((jm v9 v10 v0 v1 v6).bind fun(x0,x1,_)=>
(o5 v7 v8 x0).bind fun(x2,x3,x4,_)=>
(iX v9 v10 v0 x2 x3).bind fun(x5,x6,x7,x8,_)=>
let x9:LDCn:=[(x5,(x6,(x7,x8)))];
bif (dV 24 (List.length v12) (List.length x9)) then let ac:LDCn:=(List.append v12 x9);
let ae:=(w64 (v6+1));
some (.inl (v0,v1,v2,v3,v4,v5,ae,v7,v8,v9,v10,v11,ac,())) else none) else
some (.inr (v0,v1,v2,v3,v4,v5,v6,false,v7,v8,v9,v10,v11,v12,()))
def gc:T2d→Option (T2d⊕T2s):=fun(v0,v1,v2,v3,v4,v5,v6,v7,v8,_)=>
bif (decide (v3 < v2)) then ((dW v3).bind fun x0=>
(dH v1 x0).bind fun x1=>
(dQ gd NN (v0,v3,v1,v2,v3,x1,0,v4,v5,v6,v7,v8,[],())).bind fun(x2,x3,x4,x5,x6,x7,x8,x9,ac,ae,af,ag,ah,ai,_)=>
bif (dV 24 (List.length ah) (List.length [ai])) then let aj:List LDCn:=(List.append ah [ai]);
let ak:=(w64 (x6+1));
some (.inl (x2,x4,x5,ak,ac,ae,af,ag,aj,())) else none) else
some (.inr (v0,v1,v2,v3,false,v4,v5,v6,v7,v8,()))
def j8(a0:LDCe) (a1:LDLn) (a2:List (Int)) (a3:Int) (a4:List (Int)):Option (LLCn×Unit):=
let x0:=(dK (List.length a4));
(dQ gc NN (a4,a4,x0,0,a0,a1,a2,a3,[],())).bind fun(x1,x2,x3,x4,x5,x6,x7,x8,x9,ac,_)=>
some (ac,())
noncomputable def yQ:X.Cfg:=⟨E0,[p8,zt,oa],[(52,(.row true KCn)),(53,(.row true KCn))],[⟨12,0,(qS [(sP 2 RI),(pP 3 8),(pP 4 10),(7,.pk ⟨17,0,[]⟩ [0,0]),(sP 8 I64),(10,.pk ⟨23,0,[]⟩ [0,0]),(sP 16 RI),(sP 17 I64),(sP 18 I64),(sP 23 I64),(sP 24 I64)] [(8,(uL [eJ,eX])),(10,(uL [RI,CW])),(17,(uL [(.row true (.row true KCn))])),(23,(uL [(.row true KCn)]))]),[(.exit 2,(qS [(sP 2 RI),(pP 3 8),(pP 4 10),(7,.pk ⟨17,0,[]⟩ [0,0]),(sP 8 I64),(10,.pk ⟨23,0,[]⟩ [0,0]),(sP 16 RI),(sP 17 I64),(sP 18 I64),(sP 23 I64),(sP 24 I64),(sP 25 .bool)] [(8,(uL [eJ,eX])),(10,(uL [RI,CW])),(17,(uL [(.row true (.row true KCn))])),(23,(uL [(.row true KCn)]))]))]⟩,(lx 4 1 [(sP 2 RI),(pP 3 8),(pP 4 10),(7,.pk ⟨17,0,[]⟩ [0,0]),(sP 16 RI),(sP 17 I64),(sP 18 I64)] [(8,(uL [eJ,eX])),(10,(uL [RI,CW])),(17,(uL [(.row true (.row true KCn))]))] 19)]⟩
def rq:Ctr:=⟨17,124,[.agg (uL [eJ,eX]),.agg (uL [RI,CW]),shU RI],[],[⟨(uL [(.row true (.row true KCn))]),[.one],[]⟩],ap5 j8⟩
theorem yz:Lk 3 rq:=ls (C:=yQ) rfl (aC w8 (aC F1 (aC sj aN))) (by kernel_rfl) fun h=>by kernel_rfl
def fF:T3E→Option (T3E⊕T3H):=fun(v0,v1,v2,v3,v4,v5,v6,v7,v8,v9,v10,v11,v12,v13,v14,v15,v16,v17,v18,v19,v20,v21,v22,v23,v24,v25,v26,v27,v28,v29,v30,v31,v32,v33,_)=>
bif (decide (v5 < v4)) then ((dW v5).bind fun x0=>
(dH v3 x0).bind fun x1=>
(iX v9 v10 v7 x1.1 x1.2).bind fun(x2,x3,x4,x5,_)=>
let x6:LDCn:=[(x2,(x3,(x4,x5)))];
bif (dV 24 (List.length v33) (List.length x6)) then let x7:LDCn:=(List.append v33 x6);
let x8:=(w64 (v5+1));
some (.inl (v0,v1,v2,v3,v4,x8,v6,v7,v8,v9,v10,v11,v12,v13,v14,v15,v16,v17,v18,v19,v20,v21,v22,v23,v24,v25,v26,v27,v28,v29,v30,v31,v32,x7,())) else none) else
some (.inr (v0,v1,v2,v3,v4,v5,false,v6,v7,v8,v9,v10,v11,v12,v13,v14,v15,v16,v17,v18,v19,v20,v21,v22,v23,v24,v25,v26,v27,v28,v29,v30,v31,v32,v33,()))
def fE:T30→Option (T30⊕T37):=fun(v0,v1,v2,v3,v4,v5,v6,v7,v8,v9,v10,v11,v12,v13,v14,_)=>
bif (decide (v2 < v1)) then ((dW v2).bind fun x0=>
(dH v0 x0).bind fun x1=>
let x2:=(dK (List.length x1.2.1));
(dQ fF NN (v0,v1,v2,x1.2.1,x2,0,v3,v4,v5,v6,v7,v8,v9,v10,v11,v12,v13,v14,x1.1,x1.2.1,x1.2.2.1,x1.2.2.2.1,x1.2.2.2.2.1,x1.2.2.2.2.2.1,x1.2.2.2.2.2.2.1,x1.2.2.2.2.2.2.2,x1.1,x1.2.2.1,x1.2.2.2.1,x1.2.2.2.2.1,x1.2.2.2.2.2.1,x1.2.2.2.2.2.2.1,x1.2.2.2.2.2.2.2,[],())).bind fun(x3,x4,x5,x6,x7,x8,x9,ac,ae,af,ag,ah,ai,aj,ak,am,an,ap,aq,av,ax,ay,az,aA,aB,aD,aE,aF,aG,aH,aI,aJ,aK,aL,aM,_)=>
let aO:LDTs:=[(aF,(aG,(aH,(aI,(aJ,(aK,(aL,aM)))))))];
bif (dV 80 (List.length aq) (List.length aO)) then let aP:LDTs:=(List.append aq aO);
let aQ:=(w64 (x5+1));
some (.inl (x3,x4,aQ,ac,ae,af,ag,ah,ai,aj,ak,am,an,ap,aP,())) else none) else
some (.inr (v0,v1,v2,false,v3,v4,v5,v6,v7,v8,v9,v10,v11,v12,v13,v14,()))
def fO(a0:LDIn) (a1:List (Int)) (a2:List LI) (a3:List (Int)) (a4:Int) (a5:LDCe) (a6:LDLn) (a7:LDTh):Option (T0a):=
(j8 a5 a6 a3 a4 a1).bind fun(x0,_)=>
let x1:=(dK (List.length a7));
(dQ fE NN (a7,x1,0,a0,a1,a2,a3,a4,a5,a6,a7,(),(),x0,[],())).bind fun(x2,x3,x4,x5,x6,x7,x8,x9,ac,ae,af,ag,ah,ai,aj,ak,_)=>
some (aj,ak,())
noncomputable def vn:X.Cfg:=⟨E0,[rq,oa],[(63,Bh),(64,Bh)],[⟨12,0,(qS [(pP 2 6),(pP 3 8),(pP 4 10),(pP 5 12),(pP 8 18),(sP 20 fB),(sP 21 I64),(sP 22 I64),(sP 42 eJ),(sP 43 I64),(sP 44 I64)] [(6,(uL [fb,RI,(.row false RW)])),(8,(uL [RI,CW,eJ,eX,fB])),(10,(uL [N1,N1])),(12,(uL [(.row true (.row true KCn)),(.row true Bh)])),(16,(uL [I64,eJ,I64,I64,I64,I64,I64,CW])),(18,(uL [I64,I64,I64,I64,I64,I64,CW,(.row true KCn)]))]),[(.exit 2,(qS [(pP 2 6),(pP 3 8),(pP 4 10),(pP 5 12),(pP 8 18),(sP 20 fB),(sP 21 I64),(sP 22 I64),(sP 42 eJ),(sP 43 I64),(sP 44 I64),(sP 45 .bool)] [(6,(uL [fb,RI,(.row false RW)])),(8,(uL [RI,CW,eJ,eX,fB])),(10,(uL [N1,N1])),(12,(uL [(.row true (.row true KCn)),(.row true Bh)])),(16,(uL [I64,eJ,I64,I64,I64,I64,I64,CW])),(18,(uL [I64,I64,I64,I64,I64,I64,CW,(.row true KCn)]))]))]⟩,(lx 4 1 [(pP 2 6),(pP 3 8),(pP 4 10),(pP 5 12),(sP 20 fB),(sP 21 I64),(sP 22 I64)] [(6,(uL [fb,RI,(.row false RW)])),(8,(uL [RI,CW,eJ,eX,fB])),(10,(uL [N1,N1])),(12,(uL [(.row true (.row true KCn)),(.row true Bh)]))] 23)]⟩
def oI:Ctr:=⟨23,125,[.agg (uL [fb,RI,(.row false RW)]),.agg (uL [RI,CW,eJ,eX,fB])],[],[⟨(uL [(.row true (.row true KCn)),(.row true Bh)]),[.agg 2],[]⟩],ap8 fO⟩
theorem vg:Lk 4 oI:=ls (C:=vn) rfl (aC yz (aC sj aN)) (by kernel_rfl) fun h=>by kernel_rfl
def gl:T0F→Option (T0F⊕((Bool×Unit)⊕(LDCn×T0E))):=fun(v0,v1,v2,v3,_)=>
bif (decide (v3 < v2)) then ((dW v3).bind fun x0=>
(dH v0 x0).bind fun x1=>
(dW v3).bind fun x2=>
(dH v1 x2).bind fun x3=>
let x4:Bool:=(!((x1.1==x3.1) && ((x1.2.1==x3.2.1) && ((x1.2.2.1==x3.2.2.1) && ((x1.2.2.2==x3.2.2.2) && true)))));
bif x4 then (some (.inr (.inl (false,())))) else
let x5:=(w64 (v3+1));
some (.inl (v0,v1,v2,x5,()))) else
some (.inr (.inr (v0,v1,v2,v3,false,())))
def fm(a0:LDCn) (a1:LDCn):Option (Bool×Unit):=
let x0:=(dK (List.length a0));
let x1:=(dK (List.length a1));
bif (x0 != x1) then (some (false,())) else
let x2:=(dK (List.length a0));
(match dQ gl NN (a0,a1,x2,0,()) with
| none=>none
| some (.inl (x3,_))=>
some (x3,())
| some (.inr (x3,x4,x5,x6,x7,_))=>
some (true,()))
noncomputable def vl:X.Cfg:=⟨E0,[],[],[⟨6,0,(qS [(sP 0 d8),(sP 1 d8),(sP 12 I64),(sP 13 I64)] []),[(.ret,(qS [(sP 4 .bool)] [])),(.exit 0,(qS [(sP 0 d8),(sP 1 d8),(sP 12 I64),(sP 13 I64),(sP 14 .bool)] []))]⟩]⟩
def kS:Ctr:=⟨19,126,(uL [d8,d8]),[],[⟨(uL [.bool]),[.one],[]⟩],ap2 fm⟩
theorem oz:Lk 1 kS:=ls (C:=vl) rfl aN (by kernel_rfl) fun h=>by kernel_rfl
def jX:T1d→Option (T1d⊕((Bool×Unit)⊕T1u)):=fun(v0,v1,v2,v3,v4,v5,_)=>
bif (decide (v1 < v0)) then ((dW v1).bind fun x0=>
(dH v2 x0).bind fun x1=>
(dW v1).bind fun x2=>
(dH v4 x2).bind fun x3=>
(fm x1 x3).bind fun(x4,_)=>
bif (!x4) then (some (.inr (.inl (false,())))) else
let x5:=(w64 (v1+1));
some (.inl (v0,x5,v2,v3,v4,v5,()))) else
some (.inr (.inr (v0,v1,false,v2,v3,v4,v5,())))
def jW:T1H→Option (T1H⊕((Bool×Unit)⊕T1V)):=fun(v0,v1,v2,v3,v4,v5,v6,_)=>
bif (decide (v2 < v1)) then ((dW v2).bind fun x0=>
(dH v0 x0).bind fun x1=>
(dW v2).bind fun x2=>
(dH v6 x2).bind fun x3=>
(bif (x1.1 != x3.1) then (some (v0,v1,v2,true,v3,v4,v5,v6,())) else
bif (x1.2.1 != x3.2.1) then (some (v0,v1,v2,true,v3,v4,v5,v6,())) else
bif (x1.2.2.1 != x3.2.2.1) then (some (v0,v1,v2,true,v3,v4,v5,v6,())) else
bif (x1.2.2.2.1 != x3.2.2.2.1) then (some (v0,v1,v2,true,v3,v4,v5,v6,())) else
bif (x1.2.2.2.2.1 != x3.2.2.2.2.1) then (some (v0,v1,v2,true,v3,v4,v5,v6,())) else
bif (x1.2.2.2.2.2.1 != x3.2.2.2.2.2.1) then (some (v0,v1,v2,true,v3,v4,v5,v6,())) else
bif (x1.2.2.2.2.2.2.1 != x3.2.2.2.2.2.2.1) then (some (v0,v1,v2,true,v3,v4,v5,v6,())) else
(fm x1.2.2.2.2.2.2.2 x3.2.2.2.2.2.2.2).bind fun(x4,_)=>
some (v0,v1,v2,(!x4),v3,v4,v5,v6,()):Option (T1V)).bind fun(x4,x5,x6,x7,x8,x9,ac,ae,_)=>
bif x7 then (some (.inr (.inl (false,())))) else
let af:=(w64 (x6+1));
some (.inl (x4,x5,af,x8,x9,ac,ae,()))) else
some (.inr (.inr (v0,v1,v2,false,v3,v4,v5,v6,())))
def jx(a0:List LDCn) (a1:LDTs) (a2:List LDCn) (a3:LDTs):Option (Bool×Unit):=
let x0:=(dK (List.length a0));
let x1:=(dK (List.length a2));
bif (x0 != x1) then (some (false,())) else
let x2:=(dK (List.length a1));
let x3:=(dK (List.length a3));
bif (x2 != x3) then (some (false,())) else
let x4:=(dK (List.length a0));
(match dQ jX NN (x4,0,a0,a1,a2,a3,()) with
| none=>none
| some (.inl (x5,_))=>
some (x5,())
| some (.inr (x5,x6,x7,x8,x9,ac,ae,_))=>
let af:=(dK (List.length x9));
(match dQ jW NN (x9,af,0,x8,x9,ac,ae,()) with
| none=>none
| some (.inl (ag,_))=>
some (ag,())
| some (.inr (ag,ah,ai,aj,ak,am,an,ap,_))=>
some (true,())))
noncomputable def EA:X.Cfg:=⟨E0,[kS],[],[⟨6,0,(qS [(pP 2 6),(pP 3 8),(sP 27 I64),(sP 28 I64)] [(6,(uL [(.row false d8),(.row false mI)])),(8,(uL [(.row false d8),(.row false mI)]))]),[(.ret,(qS [(sP 4 .bool)] [])),(.exit 0,(qS [(pP 2 6),(pP 3 8),(sP 27 I64),(sP 28 I64),(sP 29 .bool)] [(6,(uL [(.row false d8),(.row false mI)])),(8,(uL [(.row false d8),(.row false mI)]))]))]⟩,⟨21,1,qE,[(.normal,(qS [(pP 3 8),(sP 45 (.row false mI)),(sP 46 I64),(sP 47 I64),(sP 111 .bool)] [(6,(uL [(.row false d8),(.row false mI)])),(8,(uL [(.row false d8),(.row false mI)]))]))]⟩,⟨15,2,(qS [(pP 3 8),(sP 45 (.row false mI)),(sP 46 I64),(sP 47 I64)] [(6,(uL [(.row false d8),(.row false mI)])),(8,(uL [(.row false d8),(.row false mI)]))]),[(.ret,(qS [(sP 4 .bool)] [])),(.exit 2,(qS [(pP 3 8),(sP 45 (.row false mI)),(sP 46 I64),(sP 47 I64),(sP 48 .bool)] [(6,(uL [(.row false d8),(.row false mI)])),(8,(uL [(.row false d8),(.row false mI)]))]))]⟩]⟩
def wA:Ctr:=⟨22,127,[.agg (uL [(.row false d8),(.row false mI)]),.agg (uL [(.row false d8),(.row false mI)])],[],[⟨(uL [.bool]),[.one],[]⟩],ap4 jx⟩
theorem D1:Lk 2 wA:=ls (C:=EA) rfl (aC oz aN) (by kernel_rfl) fun h=>by kernel_rfl
def fk(a0:Int) (a1:Int) (a2:Int):Option (Bool×Unit):=
bif (decide (a0≥a1)) then (some ((decide (a0≤a2)),())) else
some (false,())
noncomputable def vi:X.Cfg:=⟨E0,[],[],[]⟩
def oG:Ctr:=⟨112,128,(uL [I64,I64,I64]),[],[⟨(uL [.bool]),[.one],[]⟩],ap3 fk⟩
theorem ve:Lk 1 oG:=ls (C:=vi) rfl aN (by kernel_rfl) fun h=>by kernel_rfl
def r6(a0:Int) (a1:Int) (a2:Int) (a3:Int):Option (Bool×Unit):=
bif (a0==0) then (bif (a2==0) then (some ((a3==0),())) else
some (false,())) else
bif (a0==2) then (bif (a2==0) then (some ((a3==0),())) else
some (false,())) else
bif (a0==1) then ((bif (a2==(-1)) then (bif (decide (a3≥0)) then (some ((decide (a3≤65535)),a0,a1,a2,a3,())) else
some (false,a0,a1,a2,a3,())) else
some (false,a0,a1,a2,a3,()):Option (T0Q)).bind fun(x0,x1,x2,x3,x4,_)=>
bif (x2==0) then (bif x0 then (some (true,())) else
bif (decide (x3≥0)) then (bif (decide (x3 < 4)) then (bif (decide (x4≥0)) then (some ((decide (x4 < 32)),())) else
some (false,())) else
some (false,())) else
some (false,())) else
some (false,())) else
some (false,())
noncomputable def Aa:X.Cfg:=⟨E0,[],[],[⟨7,0,qE,[(.normal,(qS [(pP 1 4),(sP 3 .bool)] [(4,(uL [CB,CW,I64,I64]))]))]⟩]⟩
def so:Ctr:=⟨143,129,[.agg (uL [CB,CW,I64,I64])],[],[⟨(uL [.bool]),[.one],[]⟩],ap4 r6⟩
theorem zL:Lk 1 so:=ls (C:=Aa) rfl aN (by kernel_rfl) fun h=>by kernel_rfl
def od(a0:Int) (a1:Int) (a2:Int) (a3:Int):Option (Bool×Unit):=
(r6 a0 a1 a2 a3).bind fun(x0,_)=>
some ((!x0),())
noncomputable def vj:X.Cfg:=⟨E0,[so],[],[]⟩
def oH:Ctr:=⟨142,130,[.agg (uL [CB,CW,I64,I64])],[],[⟨(uL [.bool]),[.one],[]⟩],ap4 od⟩
theorem vf:Lk 2 oH:=ls (C:=vj) rfl (aC zL aN) (by kernel_rfl) fun h=>by kernel_rfl
def mN:T0n→Option (T0n⊕((Int×Unit)⊕T0E)):=fun(v0,v1,v2,_)=>
bif (decide (v2 < v1)) then ((dW v2).bind fun x0=>
(dH v0 x0).bind fun x1=>
(od x1.1 x1.2.1 x1.2.2.1 x1.2.2.2).bind fun(x2,_)=>
bif x2 then (some (.inr (.inl (v2,())))) else
let x3:=(w64 (v2+1));
some (.inl (v0,v1,x3,()))) else
some (.inr (.inr (v0,v1,v2,false,())))
def jt(a0:LDCn):Option (Int×Unit):=
let x0:=(dK (List.length a0));
(match dQ mN NN (a0,x0,0,()) with
| none=>none
| some (.inl (x1,_))=>
some (x1,())
| some (.inr (x1,x2,x3,x4,_))=>
some ((-1),()))
noncomputable def oB:X.Cfg:=⟨E0,[oH],[],[⟨3,0,(qS [(sP 0 d8),(1,.fn 142 []),(sP 7 I64),(sP 8 I64)] []),[(.ret,(qS [(sP 4 I64)] [])),(.exit 0,(qS [(sP 0 d8),(1,.fn 142 []),(sP 7 I64),(sP 8 I64),(sP 9 .bool)] []))]⟩]⟩
def jF:Ctr:=⟨159,131,[shU d8,.fn 142 []],[],[⟨(uL [I64]),[.one],[]⟩],ap1 jt⟩
theorem ox:Lk 3 jF:=ls (C:=oB) rfl (aC vf aN) (by kernel_rfl) fun h=>by kernel_rfl
def ii(a0:LDCn):Option (Bool×Unit):=
(jt a0).bind fun(x0,_)=>
some ((decide (x0≥0)),())
noncomputable def nc:X.Cfg:=⟨E0,[jF],[],[]⟩
def ix:Ctr:=⟨141,132,[shU d8,.fn 142 []],[],[⟨(uL [.bool]),[.one],[]⟩],ap1 ii⟩
theorem na:Lk 4 ix:=ls (C:=nc) rfl (aC ox aN) (by kernel_rfl) fun h=>by kernel_rfl
def mP(a0:LDCn) (a1:Int):Option (Bool×Unit):=
let x0:=(dK (List.length a0));
bif (decide (x0≤a1)) then ((ii a0).bind fun(x1,_)=>
some ((!x1),())) else
some (false,())
noncomputable def yF:X.Cfg:=⟨E0,[ix],[],[]⟩
def qX:Ctr:=⟨113,133,(uL [d8,I64]),[],[⟨(uL [.bool]),[.one],[]⟩],ap2 mP⟩
theorem yj:Lk 5 qX:=ls (C:=yF) rfl (aC na aN) (by kernel_rfl) fun h=>by kernel_rfl
def qo(a0:Int) (a1:Int) (a2:Int) (a3:Int) (a4:Int) (a5:Int) (a6:LDCn) (a7:LDCn):Option (Bool×Unit):=
(fk a0 0 3).bind fun(x0,_)=>
bif x0 then ((fk a1 0 3).bind fun(x1,_)=>
bif x1 then ((fk a2 0 6).bind fun(x2,_)=>
bif x2 then ((fk a3 0 1099511627776).bind fun(x3,_)=>
bif x3 then ((fk a4 0 255).bind fun(x4,_)=>
bif x4 then ((fk a5 0 15).bind fun(x5,_)=>
bif x5 then ((mP a6 3).bind fun(x6,_)=>
bif x6 then ((mP a7 16).bind fun(x7,_)=>
some (x7,())) else
some (false,())) else
some (false,())) else
some (false,())) else
some (false,())) else
some (false,())) else
some (false,())) else
some (false,())
noncomputable def yE:X.Cfg:=⟨E0,[oG,qX],[],[]⟩
def qW:Ctr:=⟨77,134,[.agg (uL [I64,I64,I64,I64,I64,I64,d8,d8])],[],[⟨(uL [.bool]),[.one],[]⟩],ap8 qo⟩
theorem yi:Lk 6 qW:=ls (C:=yE) rfl (aC ve (aC yj aN)) (by kernel_rfl) fun h=>by kernel_rfl
def zH:T0h→Option (T0h⊕T0v):=fun(v0,v1,v2,_)=>
bif (decide (v0≥0)) then (let x0:Int:=(w64 (8*v0));
(dW x0).bind fun x1=>
let x2:Int:=(shR .shr .i64 v1 x1);
let x3:=(wk .u8 x2);
bif (dV 1 (List.length v2) (List.length [x3])) then let x4:List (Int):=(List.append v2 [x3]);
let x5:=(w64 (v0 - 1));
some (.inl (x5,v1,x4,())) else none) else
some (.inr (v0,v1,false,v2,()))
def o8(a0:Int) (a1:Int) (a2:List (Int)):Option (LI×Unit):=
let x0:=(w64 (a0 - 1));
(dQ zH NN (x0,a1,a2,())).bind fun(x1,x2,x3,x4,_)=>
some (x4,())
noncomputable def Gk:X.Cfg:=⟨E0,[],[],[(lx 3 0 [(0,.pk ⟨3,0,[]⟩ [0,0]),(sP 1 I64),(sP 2 I64)] [(3,(uL [(.row true CB)]))] 10)]⟩
def te:Ctr:=⟨78,135,[.pk ⟨3,0,[]⟩ [0,0],shU I64,shU I64],[(3,(uL [(.row true CB)]))],[⟨(uL [(.row true CB)]),[.one],[(3,[])]⟩],ap3 o8⟩
theorem yy:Lk 1 te:=ls (C:=Gk) rfl aN (by kernel_rfl) fun h=>by kernel_rfl
def vI(a0:Int) (a1:Int) (a2:Int) (a3:Int) (a4:List (Int)):Option (LI×Unit):=
bif (a0==1) then (let x0:Int:=(w64 (a2+1));
let x1:=(wk .u8 x0);
let x2:List (Int):=[a0,x1];
bif (dV 1 (List.length a4) (List.length x2)) then let x3:List (Int):=(List.append a4 x2);
(o8 2 a3 x3).bind fun(x4,_)=>
some (x4,()) else none) else
let x0:List (Int):=[a0,0];
bif (dV 1 (List.length a4) (List.length x0)) then let x1:List (Int):=(List.append a4 x0);
let x2:=(wk .i64 a1);
(o8 2 x2 x1).bind fun(x3,_)=>
some (x3,()) else none
noncomputable def EV:X.Cfg:=⟨E0,[te],[],[]⟩
def wN:Ctr:=⟨114,136,[.pk ⟨3,0,[]⟩ [0,0],.agg (uL [CB,CW,I64,I64])],[(3,(uL [(.row true CB)]))],[⟨(uL [(.row true CB)]),[.one],[(3,[])]⟩],ap5 vI⟩
theorem Ed:Lk 2 wN:=ls (C:=EV) rfl (aC yy aN) (by kernel_rfl) fun h=>by kernel_rfl
def xQ:LDCn×T0h→Option ((LDCn×T0h)⊕(LDCn×T0v)):=fun(v0,v1,v2,v3,_)=>
bif (decide (v2 < v1)) then ((dW v2).bind fun x0=>
(dH v0 x0).bind fun x1=>
(vI x1.1 x1.2.1 x1.2.2.1 x1.2.2.2 v3).bind fun(x2,_)=>
let x3:=(w64 (v2+1));
some (.inl (v0,v1,x3,x2,()))) else
some (.inr (v0,v1,v2,false,v3,()))
def qz(a0:LDCn) (a1:List (Int)):Option (LI×Unit):=
let x0:=(dK (List.length a0));
let x1:=(wk .u8 x0);
bif (dV 1 (List.length a1) (List.length [x1])) then let x2:List (Int):=(List.append a1 [x1]);
let x3:=(dK (List.length a0));
(dQ xQ NN (a0,x3,0,x2,())).bind fun(x4,x5,x6,x7,x8,_)=>
some (x8,()) else none
noncomputable def EU:X.Cfg:=⟨E0,[wN],[],[(lx 4 0 [(0,.pk ⟨3,0,[]⟩ [0,0]),(sP 13 d8),(sP 14 I64),(sP 15 I64)] [(3,(uL [(.row true CB)]))] 16)]⟩
def wM:Ctr:=⟨79,137,[.pk ⟨3,0,[]⟩ [0,0],shU d8],[(3,(uL [(.row true CB)]))],[⟨(uL [(.row true CB)]),[.one],[(3,[])]⟩],ap2 qz⟩
theorem Ec:Lk 3 wM:=ls (C:=EU) rfl (aC Ed aN) (by kernel_rfl) fun h=>by kernel_rfl
def kL(a0:Int) (a1:Int) (a2:Int) (a3:Int) (a4:Int) (a5:Int) (a6:LDCn) (a7:LDCn):Option (T07):=
(qo a0 a1 a2 a3 a4 a5 a6 a7).bind fun(x0,_)=>
bif (!x0) then (some ([],1,())) else
let x1:=(wk .u8 a0);
let x2:=(wk .u8 a1);
let x3:=(wk .u8 a2);
let x4:List (Int):=[x1,x2,x3];
(o8 6 a3 x4).bind fun(x5,_)=>
let x6:=(wk .u8 a4);
let x7:=(wk .u8 a5);
let x8:List (Int):=[x6,x7];
bif (dV 1 (List.length x5) (List.length x8)) then let x9:List (Int):=(List.append x5 x8);
(qz a6 x9).bind fun(ac,_)=>
(qz a7 ac).bind fun(ae,_)=>
some (ae,0,()) else none
noncomputable def vo:X.Cfg:=⟨E0,[qW,te,wM],[],[]⟩
def kT:Ctr:=⟨49,138,[.agg (uL [I64,I64,I64,I64,I64,I64,d8,d8])],[],[⟨(uL [(.row true CB),I64]),[.one,.one],[]⟩],ap8 kL⟩
theorem oA:Lk 7 kT:=ls (C:=vo) rfl (aC yi (aC yy (aC Ec aN))) (by kernel_rfl) fun h=>by kernel_rfl
def kC(a0:Int) (a1:List (Int)) (a2:Bool):Option (LI×T06):=
bif a2 then (some ([],a1,true,())) else
let x0:=(dK (List.length a1));
bif (decide (a0 > x0)) then (some ([],a1,true,())) else
(dW a0).bind fun x1=>
bif (hY 0 x1 (List.length a1)) then let x2:List (Int):=(nv a1 0 (Nat.sub x1 0));
(dW a0).bind fun x3=>
bif (hY x3 (List.length a1) (List.length a1)) then let x4:List (Int):=(nv a1 x3 (Nat.sub (List.length a1) x3));
some (x2,x4,a2,()) else none else none
noncomputable def qf:X.Cfg:=⟨E0,[],[],[]⟩
def kF:Ctr:=⟨115,139,[.ptr ⟨2,0,[]⟩ [0],shU I64],[(2,(uL [(.row false CB),.bool]))],[⟨(uL [(.row false CB)]),[.one],[(2,(uL [(.row false CB),.bool]))]⟩],ap3 kC⟩
theorem qc:Lk 1 kF:=ls (C:=qf) rfl aN (by kernel_rfl) fun h=>by kernel_rfl
def mX:Int×LI×T0y→Option ((Int×LI×T0y)⊕(Int×LI×Int×Int×Bool×T06)):=fun(v0,v1,v2,v3,v4,v5,_)=>
bif (decide (v3 < v2)) then ((dW v3).bind fun x0=>
(dH v1 x0).bind fun x1=>
let x2:Int:=(shR .shl .i64 v0 8);
let x3:=(wk .i64 x1);
let x4:Int:=(arR .or .i64 x2 x3);
let x5:=(w64 (v3+1));
some (.inl (x4,v1,v2,x5,v4,v5,()))) else
some (.inr (v0,v1,v2,v3,false,v4,v5,()))
def dZ(a0:Int) (a1:List (Int)) (a2:Bool):Option (T0i):=
(kC a0 a1 a2).bind fun(x0,x1,x2,_)=>
let x3:=(dK (List.length x0));
(dQ mX NN (0,x0,x3,0,x1,x2,())).bind fun(x4,x5,x6,x7,x8,x9,ac,_)=>
some (x4,x9,ac,())
noncomputable def oC:X.Cfg:=⟨E0,[kF],[],[(lx 4 0 [(pP 0 2),(sP 5 I64),(sP 10 (.row false CB)),(sP 11 I64),(sP 12 I64)] [(2,(uL [(.row false CB),.bool]))] 13)]⟩
def fA:Ctr:=⟨80,140,[.ptr ⟨2,0,[]⟩ [0],shU I64],[(2,(uL [(.row false CB),.bool]))],[⟨(uL [I64]),[.one],[(2,(uL [(.row false CB),.bool]))]⟩],ap3 dZ⟩
theorem gE:Lk 2 fA:=ls (C:=oC) rfl (aC qc aN) (by kernel_rfl) fun h=>by kernel_rfl
def kD(a0:List (Int)) (a1:Bool):Option (Int×Int×T0y):=
(dZ 1 a0 a1).bind fun(x0,x1,x2,_)=>
let x3:=(wk .u8 x0);
(dZ 1 x1 x2).bind fun(x4,x5,x6,_)=>
(dZ 2 x5 x6).bind fun(x7,x8,x9,_)=>
bif (x3==1) then (let ac:Int:=(w64 (x4 - 1));
some (x3,0,ac,x7,x8,x9,())) else
let ac:=(wk .u16 x7);
some (x3,ac,x4,0,x8,x9,())
noncomputable def qh:X.Cfg:=⟨E0,[fA],[],[]⟩
def kH:Ctr:=⟨116,141,[.ptr ⟨2,0,[]⟩ [0]],[(2,(uL [(.row false CB),.bool]))],[⟨(uL [CB,CW,I64,I64]),[.agg 4],[(2,(uL [(.row false CB),.bool]))]⟩],ap2 kD⟩
theorem qe:Lk 3 kH:=ls (C:=qh) rfl (aC gE aN) (by kernel_rfl) fun h=>by kernel_rfl
def n6:Int×LI×Bool×LDCn×Unit→Option ((Int×LI×Bool×LDCn×Unit)⊕(Int×Bool×LI×Bool×LDCn×Unit)):=fun(v0,v1,v2,v3,_)=>
bif (decide (v0 > 0)) then (bif (!v2) then ((kD v1 v2).bind fun(x0,x1,x2,x3,x4,x5,_)=>
let x6:LDCn:=[(x0,(x1,(x2,x3)))];
bif (dV 24 (List.length v3) (List.length x6)) then let x7:LDCn:=(List.append v3 x6);
let x8:=(w64 (v0 - 1));
some (.inl (x8,x4,x5,x7,())) else none) else
some (.inr (v0,false,v1,v2,v3,()))) else
some (.inr (v0,false,v1,v2,v3,()))
def hU(a0:List (Int)) (a1:Bool):Option (LDCn×T06):=
(dZ 1 a0 a1).bind fun(x0,x1,x2,_)=>
(dQ n6 NN (x0,x1,x2,[],())).bind fun(x3,x4,x5,x6,x7,_)=>
some (x7,x5,x6,())
noncomputable def qg:X.Cfg:=⟨E0,[fA,kH],[],[(lx 4 0 [(pP 0 2),(3,.pk ⟨9,0,[]⟩ [0,0]),(sP 4 I64)] [(2,(uL [(.row false CB),.bool])),(9,(uL [(.row true KCn)]))] 15)]⟩
def kG:Ctr:=⟨81,142,[.ptr ⟨2,0,[]⟩ [0]],[(2,(uL [(.row false CB),.bool]))],[⟨(uL [(.row true KCn)]),[.one],[(2,(uL [(.row false CB),.bool]))]⟩],ap2 hU⟩
theorem qd:Lk 4 kG:=ls (C:=qg) rfl (aC gE (aC qe aN)) (by kernel_rfl) fun h=>by kernel_rfl
def tD(a0:List (Int)) (a1:List (Int)):Option (Bool×Unit):=
let x0:ByteArray:=(Fl a0);
let x1:ByteArray:=(Fl a1);
some ((Py x0 x1),())
noncomputable def CU:X.Cfg:=⟨E0,[],[],[]⟩
def uz:Ctr:=⟨82,143,(uL [(.row false CB),(.row false CB)]),[],[⟨(uL [.bool]),[.one],[]⟩],ap2 tD⟩
theorem B5:Lk 1 uz:=ls (C:=CU) rfl aN (by kernel_rfl) fun h=>by kernel_rfl
def pY(a0:List (Int)):Option (T23):=
(dZ 1 a0 false).bind fun(x0,x1,x2,_)=>
(dZ 1 x1 x2).bind fun(x3,x4,x5,_)=>
(dZ 1 x4 x5).bind fun(x6,x7,x8,_)=>
(dZ 6 x7 x8).bind fun(x9,ac,ae,_)=>
(dZ 1 ac ae).bind fun(af,ag,ah,_)=>
(dZ 1 ag ah).bind fun(ai,aj,ak,_)=>
(hU aj ak).bind fun(am,an,ap,_)=>
(hU an ap).bind fun(aq,av,ax,_)=>
bif ax then (some (0,0,0,0,0,0,[],[],4,())) else
(kL x0 x3 x6 x9 af ai am aq).bind fun(ay,az,_)=>
(let aA:=(dK (List.length av));
bif (decide (aA > 0)) then (some (true,0,0,0,0,0,0,(),(),x0,x3,x6,x9,af,ai,am,aq,())) else
bif (az != 0) then (some (true,0,0,0,0,0,0,(),(),x0,x3,x6,x9,af,ai,am,aq,())) else
(tD ay a0).bind fun(aB,_)=>
some ((!aB),0,0,0,0,0,0,(),(),x0,x3,x6,x9,af,ai,am,aq,()):Option (Bool×Int×Int×Int×Int×Int×Int×Unit×Unit×T1N)).bind fun(aA,aB,aD,aE,aF,aG,aH,aI,aJ,aK,aL,aM,aO,aP,aQ,aR,aS,_)=>
bif aA then (some (0,0,0,0,0,0,[],[],5,())) else
some (aK,aL,aM,aO,aP,aQ,aR,aS,0,())
noncomputable def xj:X.Cfg:=⟨E0,[fA,kG,kT,uz],[],[⟨10,0,qE,[(.normal,(qS [(pP 2 6),(pP 5 12),(sP 55 .bool)] [(6,(uL [I64,I64,I64,I64,I64,I64,N1,N1])),(12,(uL [I64,I64,I64,I64,I64,I64,d8,d8]))]))]⟩]⟩
def p9:Ctr:=⟨50,144,(uL [(.row false CB)]),[],[⟨(uL [I64,I64,I64,I64,I64,I64,d8,d8,I64]),[.agg 8,.one],[]⟩],ap1 pY⟩
theorem w9:Lk 8 p9:=ls (C:=xj) rfl (aC gE (aC qd (aC oA (aC B5 aN)))) (by kernel_rfl) fun h=>by kernel_rfl
def vE(a0:Int) (a1:Int) (a2:Int) (a3:Int) (a4:Int) (a5:Int) (a6:LDCn) (a7:LDCn) (a8:Int) (a9:Int) (a10:Int) (a11:Int) (a12:Int) (a13:Int) (a14:LDCn) (a15:LDCn):Option (Bool×Unit):=
bif (a0==a8) then (bif (a1==a9) then (bif (a2==a10) then (bif (a3==a11) then (bif (a4==a12) then (bif (a5==a13) then ((fm a6 a14).bind fun(x0,_)=>
bif x0 then ((fm a7 a15).bind fun(x1,_)=>
some (x1,())) else
some (false,())) else
some (false,())) else
some (false,())) else
some (false,())) else
some (false,())) else
some (false,())) else
some (false,())
noncomputable def ED:X.Cfg:=⟨E0,[kS],[],[]⟩
def wC:Ctr:=⟨51,145,[.agg (uL [I64,I64,I64,I64,I64,I64,d8,d8]),.agg (uL [I64,I64,I64,I64,I64,I64,d8,d8])],[],[⟨(uL [.bool]),[.one],[]⟩],ap16 vE⟩
theorem D3:Lk 2 wC:=ls (C:=ED) rfl (aC oz aN) (by kernel_rfl) fun h=>by kernel_rfl
def o6:Option (Bool×Unit):=
let x0:LDCn:=[(1,(0,(1,3)))];
(kL 0 1 0 0 0 10 x0 []).bind fun(x1,x2,_)=>
(pY x1).bind fun(x3,x4,x5,x6,x7,x8,x9,ac,ae,_)=>
bif (x2==0) then (bif (ae==0) then (let af:Int:=(dK (List.length x1));
bif (af==17) then (bif (hY 11 16 (List.length x1)) then let ag:List (Int):=(nv x1 11 (Nat.sub 16 11));
let ah:ByteArray:=(Fl ag);
bif (Py ah (bytes [1,1,2,0,3])) then ((vE x3 x4 x5 x6 x7 x8 x9 ac 0 1 0 0 0 10 x0 []).bind fun(ai,_)=>
some (ai,())) else
some (false,()) else none) else
some (false,())) else
some (false,())) else
some (false,())
noncomputable def CR:X.Cfg:=⟨E0,[kT,p9,wC],[],[]⟩
def uy:Ctr:=⟨25,146,[],[],[⟨(uL [.bool]),[.one],[]⟩],fun h=>o6⟩
theorem B4:Lk 9 uy:=ls (C:=CR) rfl (aC oA (aC w9 (aC D3 aN))) (by kernel_rfl) fun h=>by kernel_rfl
def gP(a0:List (Int)):Option (Bool×Unit):=
(hJ a0 0).bind fun(x0,x1,x2,x3,x4,x5,x6,x7,x8,x9,_)=>
(mc x5 x6).bind fun(ac,ae,_)=>
(fO x0 x1 x2 x3 x4 x5 x6 x7).bind fun(af,ag,_)=>
(fO x0 x1 x2 x3 x4 ac ae x7).bind fun(ah,ai,_)=>
(jx af ag ah ai).bind fun(aj,_)=>
bif aj then ((fO x0 x1 x2 x3 x4 ac ae x7).bind fun(ak,am,_)=>
(jV x0 x1 x2 x3 x4 x5 x6 x7).bind fun(an,ap,_)=>
(jx ak am an ap).bind fun(aq,_)=>
bif aq then ((o6).bind fun(av,_)=>
some (av,())) else
some (false,())) else
some (false,())
noncomputable def px:X.Cfg:=⟨E0,[ll,ur,oI,wA,pD,uy],[],[]⟩
def kx:Ctr:=⟨6,147,(uL [RI]),[],[⟨(uL [.bool]),[.one],[]⟩],ap1 gP⟩
theorem k_law13_CanonicalCaches:Lk 11 kx:=ls (C:=px) rfl (aC n8 (aC BV (aC vg (aC D1 (aC tQ (aC B4 aN)))))) (by kernel_rfl) fun h=>by kernel_rfl
def pb(a0:List (Int)) (a1:Int):Option (T0z):=
let x0:List (Int):=[0,0,0,1,2];
(dJ 5 a0 a1).bind fun(x1,x2,x3,_)=>
(dW x1).bind fun x4=>
(dH x0 x4).bind fun x5=>
(dH x0 x4).bind fun x6=>
let x7:=(wk .u8 x6);
(gQ x2 x3).bind fun(x8,x9,ac,_)=>
some (x7,x8,x9,ac,())
noncomputable def Gp:X.Cfg:=⟨E0,[fq,kU],[],[]⟩
def tg:Ctr:=⟨10,148,[.ptr ⟨2,0,[]⟩ [0]],[(2,(uL [RI,I64]))],[⟨(uL [CB,CW]),[.agg 2],[(2,(uL [RI,I64]))]⟩],ap2 pb⟩
theorem yA:Lk 5 tg:=ls (C:=Gp) rfl (aC fC (aC nb aN)) (by kernel_rfl) fun h=>by kernel_rfl
def qn(a0:Int) (a1:Int):Option (Bool×Unit):=
some ((decide (a0≤2)),())
noncomputable def Ei:X.Cfg:=⟨E0,[],[],[]⟩
def qV:Ctr:=⟨32,149,[.agg (uL [CB,CW])],[],[⟨(uL [.bool]),[.one],[]⟩],ap2 qn⟩
theorem vP:Lk 1 qV:=ls (C:=Ei) rfl aN (by kernel_rfl) fun h=>by kernel_rfl
def lO(a0:Int):Option (Bool×Unit):=
bif (decide (a0 < 0)) then (some (true,())) else
some ((decide (a0≥512)),())
noncomputable def xd:X.Cfg:=⟨E0,[],[],[]⟩
def lR:Ctr:=⟨33,150,(uL [I64]),[],[⟨(uL [.bool]),[.one],[]⟩],ap1 lO⟩
theorem p5:Lk 1 lR:=ls (C:=xd) rfl aN (by kernel_rfl) fun h=>by kernel_rfl
def jn(a0:LDCe):Option (LDCe×Unit):=
bif (dV 4 0 (List.length a0)) then let x0:LDCe:=(List.append [] a0);
some (x0,()) else none
noncomputable def sX:X.Cfg:=⟨E0,[],[],[]⟩
def nk:Ctr:=⟨65,151,(uL [eJ]),[],[⟨(uL [(.row true KCe)]),[.one],[]⟩],ap1 jn⟩
theorem sU:Lk 1 nk:=ls (C:=sX) rfl aN (by kernel_rfl) fun h=>by kernel_rfl
def mO(a0:LDLn):Option (LDLn×Unit):=
bif (dV 40 0 (List.length a0)) then let x0:LDLn:=(List.append [] a0);
some (x0,()) else none
noncomputable def sW:X.Cfg:=⟨E0,[],[(5,O0),(7,O0)],[]⟩
def nj:Ctr:=⟨66,152,(uL [eX]),[],[⟨(uL [(.row true Ns)]),[.one],[]⟩],ap1 mO⟩
theorem sT:Lk 1 nj:=ls (C:=sW) rfl aN (by kernel_rfl) fun h=>by kernel_rfl
def wW:T1e→Option (T1e⊕T1v):=fun(v0,v1,v2,v3,v4,v5,_)=>
bif (decide (v1 < v0)) then ((dW v1).bind fun x0=>
(dH v5 x0).bind fun x1=>
(dH v5 x0).bind fun x2=>
(jn x2.2.2).bind fun(x3,_)=>
(dW v1).bind fun x4=>
(dH v5 x4).bind fun x5=>
(dH v5 x4).bind fun x6=>
let x7:=(List.modify v5 x4 fun e=>(e.1,(e.2.1,x3)));
let x8:=(w64 (v1+1));
some (.inl (v0,x8,v2,v3,v4,x7,()))) else
some (.inr (v0,v1,false,v2,v3,v4,v5,()))
def tC(a0:LDCe) (a1:LDLn):Option (T04):=
(jn a0).bind fun(x0,_)=>
(mO a1).bind fun(x1,_)=>
let x2:=(dK (List.length x1));
(dQ wW NN (x2,0,(),(),x0,x1,())).bind fun(x3,x4,x5,x6,x7,x8,x9,_)=>
some (x8,x9,())
noncomputable def CQ:X.Cfg:=⟨E0,[nk,nj],[],[(lx 4 0 [(pP 2 6),(pP 3 8),(14,.pk ⟨8,1,[]⟩ [0,0]),(sP 15 I64),(sP 16 I64)] [(6,(uL [N1,N1])),(8,(uL [(.row true KCe),(.row true Ns)]))] 17)]⟩
def ux:Ctr:=⟨34,153,[.agg (uL [eJ,eX])],[],[⟨(uL [(.row true KCe),(.row true Ns)]),[.agg 2],[]⟩],ap2 tC⟩
theorem B3:Lk 2 ux:=ls (C:=CQ) rfl (aC sU (aC sT aN)) (by kernel_rfl) fun h=>by kernel_rfl
def mg(a0:LDCe) (a1:LDLn) (a2:Int) (a3:Int) (a4:Int):Option (T0m):=
(qn a3 a4).bind fun(x0,_)=>
bif (!x0) then (some ([],[],1,())) else
(lO a2).bind fun(x1,_)=>
bif x1 then (some ([],[],6,())) else
let x2:=(dK (List.length a0));
bif (decide (a2≥x2)) then (some ([],[],6,())) else
(tC a0 a1).bind fun(x3,x4,_)=>
(dW a2).bind fun x5=>
(dH x3 x5).bind fun x6=>
(dH x3 x5).bind fun x7=>
let x8:=(List.modify x3 x5 fun e=>(a3,a4));
some (x8,x4,0,())
noncomputable def CN:X.Cfg:=⟨E0,[qV,lR,ux],[],[]⟩
def pI:Ctr:=⟨11,154,[.agg (uL [eJ,eX]),shU I64,.agg (uL [CB,CW])],[],[⟨(uL [(.row true KCe),(.row true Ns),I64]),[.agg 2,.one],[]⟩],ap5 mg⟩
theorem tU:Lk 3 pI:=ls (C:=CN) rfl (aC vP (aC p5 (aC B3 aN))) (by kernel_rfl) fun h=>by kernel_rfl
def vG(a0:LDCe) (a1:LDLn) (a2:Int) (a3:Int) (a4:Int):Option (T0m):=
(iI a3 a4).bind fun(x0,_)=>
bif (!x0) then (some ([],[],1,())) else
bif (decide (a2 < 0)) then (some ([],[],6,())) else
bif (decide (a2≥512)) then (some ([],[],6,())) else
(jB a0 a1).bind fun(x1,x2,_)=>
(dW a2).bind fun x3=>
(dH x1 x3).bind fun x4=>
(dH x1 x3).bind fun x5=>
let x6:=(List.modify x1 x3 fun e=>(a3,a4));
some (x6,x2,0,())
noncomputable def EO:X.Cfg:=⟨E0,[mA,nY],[],[]⟩
def wG:Ctr:=⟨12,155,[.agg (uL [eJ,eX]),shU I64,.agg (uL [CB,CW])],[],[⟨(uL [(.row true KCe),iP,I64]),[.agg 2,.one],[]⟩],ap5 vG⟩
theorem D7:Lk 2 wG:=ls (C:=EO) rfl (aC pq (aC qO aN)) (by kernel_rfl) fun h=>by kernel_rfl
def xP:LDCe×T0l→Option ((LDCe×T0l)⊕((Bool×Unit)⊕(LDCe×T0C))):=fun(v0,v1,v2,v3,_)=>
bif (decide (v3 < v2)) then ((dW v3).bind fun x0=>
(dH v0 x0).bind fun x1=>
(dW v3).bind fun x2=>
(dH v1 x2).bind fun x3=>
bif (!((x1.1==x3.1) && ((x1.2==x3.2) && true))) then (some (.inr (.inl (false,())))) else
let x4:=(w64 (v3+1));
some (.inl (v0,v1,v2,x4,()))) else
some (.inr (.inr (v0,v1,v2,v3,false,())))
def qy(a0:LDCe) (a1:LDCe):Option (Bool×Unit):=
let x0:=(dK (List.length a0));
let x1:=(dK (List.length a1));
bif (x0 != x1) then (some (false,())) else
let x2:=(dK (List.length a0));
(match dQ xP NN (a0,a1,x2,0,()) with
| none=>none
| some (.inl (x3,_))=>
some (x3,())
| some (.inr (x3,x4,x5,x6,x7,_))=>
some (true,()))
noncomputable def ET:X.Cfg:=⟨E0,[],[],[⟨6,0,(qS [(sP 0 eJ),(sP 1 eJ),(sP 12 I64),(sP 13 I64)] []),[(.ret,(qS [(sP 4 .bool)] [])),(.exit 0,(qS [(sP 0 eJ),(sP 1 eJ),(sP 12 I64),(sP 13 I64),(sP 14 .bool)] []))]⟩]⟩
def wL:Ctr:=⟨37,156,(uL [eJ,eJ]),[],[⟨(uL [.bool]),[.one],[]⟩],ap2 qy⟩
theorem Eb:Lk 1 wL:=ls (C:=ET) rfl aN (by kernel_rfl) fun h=>by kernel_rfl
def xO:Int×Int×T0D→Option ((Int×Int×T0D)⊕((Bool×Unit)⊕T1t)):=fun(v0,v1,v2,v3,v4,v5,_)=>
bif (decide (v1 < v0)) then ((dW v1).bind fun x0=>
(dH v3 x0).bind fun x1=>
(dW v1).bind fun x2=>
(dH v5 x2).bind fun x3=>
(bif (x1.1 != x3.1) then (some (v0,v1,true,v2,v3,v4,v5,())) else
bif (!(x1.2.1==x3.2.1)) then (some (v0,v1,true,v2,v3,v4,v5,())) else
(qy x1.2.2 x3.2.2).bind fun(x4,_)=>
some (v0,v1,(!x4),v2,v3,v4,v5,()):Option (T1t)).bind fun(x4,x5,x6,x7,x8,x9,ac,_)=>
bif x6 then (some (.inr (.inl (false,())))) else
let ae:=(w64 (x5+1));
some (.inl (x4,ae,x7,x8,x9,ac,()))) else
some (.inr (.inr (v0,v1,false,v2,v3,v4,v5,())))
def vF(a0:LDCe) (a1:LDLn) (a2:LDCe) (a3:LDLn):Option (Bool×Unit):=
(qy a0 a2).bind fun(x0,_)=>
bif (!x0) then (some (false,())) else
let x1:=(dK (List.length a1));
let x2:=(dK (List.length a3));
bif (x1 != x2) then (some (false,())) else
let x3:=(dK (List.length a1));
(match dQ xO NN (x3,0,a0,a1,a2,a3,()) with
| none=>none
| some (.inl (x4,_))=>
some (x4,())
| some (.inr (x4,x5,x6,x7,x8,x9,ac,_))=>
some (true,()))
noncomputable def EN:X.Cfg:=⟨E0,[wL],[],[⟨12,0,qE,[(.normal,(qS [(pP 2 6),(pP 3 8),(sP 25 I64),(sP 26 I64),(sP 58 .bool)] [(6,(uL [eJ,eX])),(8,(uL [eJ,eX]))]))]⟩,⟨6,1,(qS [(pP 2 6),(pP 3 8),(sP 25 I64),(sP 26 I64)] [(6,(uL [eJ,eX])),(8,(uL [eJ,eX]))]),[(.ret,(qS [(sP 4 .bool)] [])),(.exit 0,(qS [(pP 2 6),(pP 3 8),(sP 25 I64),(sP 26 I64),(sP 27 .bool)] [(6,(uL [eJ,eX])),(8,(uL [eJ,eX]))]))]⟩]⟩
def wF:Ctr:=⟨13,157,[.agg (uL [eJ,eX]),.agg (uL [eJ,eX])],[],[⟨(uL [.bool]),[.one],[]⟩],ap4 vF⟩
theorem D6:Lk 2 wF:=ls (C:=EN) rfl (aC Eb aN) (by kernel_rfl) fun h=>by kernel_rfl
def mh(a0:LDCe) (a1:LDLn) (a2:Int):Option (T0f):=
(lO a2).bind fun(x0,_)=>
bif x0 then (some (0,0,6,())) else
let x1:=(dK (List.length a0));
bif (decide (a2≥x1)) then (some (0,0,6,())) else
(dW a2).bind fun x2=>
(dH a0 x2).bind fun x3=>
some (x3.1,x3.2,0,())
noncomputable def CO:X.Cfg:=⟨E0,[lR],[],[]⟩
def mB:Ctr:=⟨14,158,[.agg (uL [eJ,eX]),shU I64],[],[⟨(uL [CB,CW,I64]),[.agg 2,.one],[]⟩],ap3 mh⟩
theorem pt:Lk 2 mB:=ls (C:=CO) rfl (aC p5 aN) (by kernel_rfl) fun h=>by kernel_rfl
def vH(a0:LDCe) (a1:LDLn) (a2:Int):Option (T0f):=
bif (decide (a2 < 0)) then (some (0,0,6,())) else
bif (decide (a2≥512)) then (some (0,0,6,())) else
(dW a2).bind fun x0=>
(dH a0 x0).bind fun x1=>
some (x1.1,x1.2,0,())
noncomputable def EP:X.Cfg:=⟨E0,[],[],[]⟩
def wH:Ctr:=⟨15,159,[.agg (uL [eJ,eX]),shU I64],[],[⟨(uL [CB,CW,I64]),[.agg 2,.one],[]⟩],ap3 vH⟩
theorem D8:Lk 1 wH:=ls (C:=EP) rfl aN (by kernel_rfl) fun h=>by kernel_rfl
def uK:T0J→Option (T0J⊕((Bool×Unit)⊕(LI×T0H))):=fun(v0,v1,v2,v3,_)=>
bif (decide (v3 < v2)) then ((dW v3).bind fun x0=>
(dH v1 x0).bind fun x1=>
bif (decide (x1 < 1)) then (some (.inr (.inl (false,())))) else
bif (decide (x1 > 32)) then (some (.inr (.inl (false,())))) else
let x2:=(w64 (v3+1));
some (.inl (v0,v1,v2,x2,()))) else
some (.inr (.inr (v0,v1,v2,v3,false,())))
def r7(a0:List (Int)):Option (Bool×Unit):=
let x0:=(dK (List.length a0));
(match dQ uK NN (a0,a0,x0,0,()) with
| none=>none
| some (.inl (x1,_))=>
some (x1,())
| some (.inr (x1,x2,x3,x4,x5,_))=>
let x6:=(dK (List.length x1));
bif (decide (x6≥1)) then (let x7:Int:=(dK (List.length x1));
some ((decide (x7≤4)),())) else
some (false,()))
noncomputable def Ab:X.Cfg:=⟨E0,[],[],[⟨3,0,(qS [(sP 0 RI),(sP 5 RI),(sP 6 I64),(sP 7 I64)] []),[(.ret,(qS [(sP 2 .bool)] [])),(.exit 0,(qS [(sP 0 RI),(sP 5 RI),(sP 6 I64),(sP 7 I64),(sP 8 .bool)] []))]⟩]⟩
def sq:Ctr:=⟨108,160,(uL [RI]),[],[⟨(uL [.bool]),[.one],[]⟩],ap1 r7⟩
theorem zM:Lk 1 sq:=ls (C:=Ab) rfl aN (by kernel_rfl) fun h=>by kernel_rfl
def uP:T2q→Option (T2q⊕((Bool×Unit)⊕T2C)):=fun(v0,v1,v2,v3,v4,v5,v6,v7,v8,v9,_)=>
bif (decide (v7 < v6)) then ((match ((dW v7).bind fun x0=>
(dH v8 x0).bind fun x1=>
(dW v7).bind fun x2=>
(dH v0 x2).bind fun x3=>
let x4:=(w64 (x1+x3));
bif (decide (v2≤x4)) then ((dW v7).bind fun x5=>
(dH v8 x5).bind fun x6=>
(dW v1).bind fun x7=>
(dH v0 x7).bind fun x8=>
let x9:=(w64 (v2+x8));
bif (decide (x6≤x9)) then (some (.inl (false,()))) else
some (.inr (v0,v1,v2,v3,v4,v5,v6,v7,false,v8,v9,()))) else
some (.inr (v0,v1,v2,v3,v4,v5,v6,v7,false,v8,v9,())):Option ((Bool×Unit)⊕T2C)) with
| none=>none
| some (.inl (x0,_))=>
some (.inr (.inl (x0,())))
| some (.inr (x0,x1,x2,x3,x4,x5,x6,x7,x8,x9,ac,_))=>
let ae:=(w64 (x7+1));
some (.inl (x0,x1,x2,x3,x4,x5,x6,ae,x9,ac,())))) else
some (.inr (.inr (v0,v1,v2,v3,v4,v5,v6,v7,false,v8,v9,())))
def uO:T1o→Option (T1o⊕((Bool×Unit)⊕(LI×T1m))):=fun(v0,v1,v2,v3,v4,v5,_)=>
bif (decide (v3 < v2)) then ((dW v3).bind fun x0=>
(dH v1 x0).bind fun x1=>
(bif (decide (x1 < 0)) then (some (v0,v3,x1,v1,v2,v3,true,v4,v5,())) else
bif (decide (x1≥512)) then (some (v0,v3,x1,v1,v2,v3,true,v4,v5,())) else
(dW v3).bind fun x2=>
(dH v0 x2).bind fun x3=>
let x4:=(w64 (x1+x3));
some (v0,v3,x1,v1,v2,v3,(decide (x4 > 512)),v4,v5,()):Option (T2b)).bind fun(x2,x3,x4,x5,x6,x7,x8,x9,ac,_)=>
bif x8 then (some (.inr (.inl (false,())))) else
(match dQ uP NN (x2,x3,x4,x5,x6,x7,x3,0,x9,ac,()) with
| none=>none
| some (.inl (ae,_))=>
some (.inr (.inl (ae,())))
| some (.inr (ae,af,ag,ah,ai,aj,ak,am,an,ap,aq,_))=>
let av:=(w64 (aj+1));
some (.inl (ae,ah,ai,av,ap,aq,())))) else
some (.inr (.inr (v0,v1,v2,v3,false,v4,v5,())))
def se(a0:List (Int)) (a1:Int) (a2:List (Int)):Option (Bool×Unit):=
(r7 a2).bind fun(x0,_)=>
bif (!x0) then (some (false,())) else
let x1:=(dK (List.length a0));
let x2:=(dK (List.length a2));
bif (x1 != x2) then (some (false,())) else
let x3:=(dK (List.length a0));
(match dQ uO NN (a2,a0,x3,0,a0,a1,()) with
| none=>none
| some (.inl (x4,_))=>
some (x4,())
| some (.inr (x4,x5,x6,x7,x8,x9,ac,_))=>
some (true,()))
noncomputable def Aq:X.Cfg:=⟨E0,[sq],[],[⟨12,0,qE,[(.normal,(qS [(sP 1 RI),(pP 2 6),(sP 5 I64),(sP 6 I64),(sP 20 RI),(sP 21 I64),(sP 22 I64),(sP 41 .bool)] [(6,(uL [RI,CW]))]))]⟩,⟨18,1,qE,[(.ret,(qS [(sP 4 .bool)] [])),(.normal,(qS [(sP 1 RI),(pP 2 6),(sP 5 I64),(sP 6 I64),(sP 20 RI),(sP 21 I64),(sP 22 I64),(sP 42 I64),(sP 43 I64),(sP 71 .bool)] [(6,(uL [RI,CW]))]))]⟩,⟨15,2,(qS [(sP 1 RI),(pP 2 6),(sP 5 I64),(sP 6 I64),(sP 20 RI),(sP 21 I64),(sP 22 I64),(sP 42 I64),(sP 43 I64)] [(6,(uL [RI,CW]))]),[(.ret,(qS [(sP 4 .bool)] [])),(.exit 2,(qS [(sP 1 RI),(pP 2 6),(sP 5 I64),(sP 6 I64),(sP 20 RI),(sP 21 I64),(sP 22 I64),(sP 42 I64),(sP 43 I64),(sP 44 .bool)] [(6,(uL [RI,CW]))]))]⟩,⟨6,3,(qS [(sP 1 RI),(pP 2 6),(sP 20 RI),(sP 21 I64),(sP 22 I64)] [(6,(uL [RI,CW]))]),[(.ret,(qS [(sP 4 .bool)] [])),(.exit 0,(qS [(sP 1 RI),(pP 2 6),(sP 20 RI),(sP 21 I64),(sP 22 I64),(sP 23 .bool)] [(6,(uL [RI,CW]))]))]⟩]⟩
def sF:Ctr:=⟨67,161,[.agg (uL [RI,CW]),shU RI],[],[⟨(uL [.bool]),[.one],[]⟩],ap3 se⟩
theorem zX:Lk 2 sF:=ls (C:=Aq) rfl (aC zM aN) (by kernel_rfl) fun h=>by kernel_rfl
def uN:T0g→Option (T0g⊕(Int×Int×Bool×LDLn×Unit)):=fun(v0,v1,v2,_)=>
bif (decide (v1 < v0)) then ((dW v1).bind fun x0=>
(dH v2 x0).bind fun x1=>
(dH v2 x0).bind fun x2=>
let x3:=(List.modify v2 x0 fun e=>((-1),e.2));
let x4:=(w64 (v1+1));
some (.inl (v0,x4,x3,()))) else
some (.inr (v0,v1,false,v2,()))
def sd:Option (LDLn×Unit):=
bif (sQ 4 4 3) then let x0:LDLn:=(List.replicate 4 (0,(false,[])));
let x1:=(dK (List.length x0));
(dQ uN NN (x1,0,x0,())).bind fun(x2,x3,x4,x5,_)=>
some (x5,()) else none
noncomputable def Ap:X.Cfg:=⟨E0,[],[(3,O0)],[(lx 4 0 [(1,.pk ⟨5,0,[]⟩ [0,0]),(sP 5 I64),(sP 6 I64)] [(5,(uL [iP]))] 7)]⟩
def sE:Ctr:=⟨68,162,[],[],[⟨(uL [iP]),[.one],[]⟩],fun h=>sd⟩
theorem zW:Lk 1 sE:=ls (C:=Ap) rfl aN (by kernel_rfl) fun h=>by kernel_rfl
def uJ:LI×Int×Int×LDCe×Unit→Option ((LI×Int×Int×LDCe×Unit)⊕(LI×Int×Int×Bool×LDCe×Unit)):=fun(v0,v1,v2,v3,_)=>
bif (decide (v2 < v1)) then ((dW v2).bind fun x0=>
(dH v0 x0).bind fun x1=>
let x2:LDCe:=[(0,x1)];
bif (dV 4 (List.length v3) (List.length x2)) then let x3:LDCe:=(List.append v3 x2);
let x4:=(w64 (v2+1));
some (.inl (v0,v1,x4,x3,())) else none) else
some (.inr (v0,v1,v2,false,v3,()))
def rZ(a0:List (Int)):Option (LDCe×Unit):=
let x0:=(dK (List.length a0));
(dQ uJ NN (a0,x0,0,[],())).bind fun(x1,x2,x3,x4,x5,_)=>
some (x5,())
noncomputable def z0:X.Cfg:=⟨E0,[],[],[(lx 4 0 [(3,.pk ⟨9,0,[]⟩ [0,0]),(sP 6 RW),(sP 7 I64),(sP 8 I64)] [(9,(uL [(.row true KCe)]))] 9)]⟩
def sn:Ctr:=⟨69,163,(uL [RW]),[],[⟨(uL [(.row true KCe)]),[.one],[]⟩],ap1 rZ⟩
theorem zK:Lk 1 sn:=ls (C:=z0) rfl aN (by kernel_rfl) fun h=>by kernel_rfl
def wV:T2P→Option (T2P⊕(T0k⊕T2U)):=fun(v0,v1,v2,v3,v4,v5,v6,v7,v8,v9,v10,v11,_)=>
bif (decide (v2 < v1)) then ((match ((dW v2).bind fun x0=>
(dH v0 x0).bind fun x1=>
let x2:=(dK (List.length x1));
(dW v2).bind fun x3=>
(dH v4 x3).bind fun x4=>
bif (decide (x2 > x4)) then (some (.inl (1,(),(),()))) else
(dW v2).bind fun x5=>
(dH v6 x5).bind fun x6=>
(dW x6).bind fun x7=>
bif (hY x7 (List.length v10) (List.length v10)) then (rZ x1).bind fun(x8,_)=>
bif (hY x7 (Nat.add x7 (Nat.min (List.length x8) (Nat.sub (List.length v10) x7))) (List.length v10)) then bif (Nat.blt 0 (Nat.min (List.length x8) (Nat.sub (List.length v10) x7))) then (let x9:LDCe:=(lP v10 x7 (Nat.min (List.length x8) (Nat.sub (List.length v10) x7)) x8);
let ac:=(dK (Nat.min (List.length x8) (Nat.sub (List.length v10) x7)));
some (.inr (v0,v1,v2,v3,v4,v5,v6,v7,v8,v9,x9,v11,()))) else
let x9:=(dK (Nat.min (List.length x8) (Nat.sub (List.length v10) x7)));
some (.inr (v0,v1,v2,v3,v4,v5,v6,v7,v8,v9,v10,v11,())) else none else none:Option (T0k⊕T2P)) with
| none=>none
| some (.inl (x0,x1,x2,_))=>
some (.inr (.inl (x0,x1,x2,())))
| some (.inr (x0,x1,x2,x3,x4,x5,x6,x7,x8,x9,ac,ae,_))=>
let af:=(w64 (x2+1));
some (.inl (x0,x1,af,x3,x4,x5,x6,x7,x8,x9,ac,ae,())))) else
some (.inr (.inr (v0,v1,v2,false,v3,v4,v5,v6,v7,v8,v9,v10,v11,())))
def tB(a0:LDIn) (a1:List (Int)) (a2:List LI) (a3:List (Int)) (a4:Int):Option (T0m):=
(se a3 a4 a1).bind fun(x0,_)=>
bif (!x0) then (some ([],[],1,())) else
let x1:=(dK (List.length a2));
let x2:=(dK (List.length a1));
bif (x1 != x2) then (some ([],[],1,())) else
bif (sQ 512 512 2) then let x3:LDCe:=(List.replicate 512 (0,0));
(sd).bind fun(x4,_)=>
let x5:=(dK (List.length a2));
(match dQ wV NN (a2,x5,0,a0,a1,a2,a3,a4,(),(),x3,x4,()) with
| none=>none
| some (.inl (x6,x7,x8,_))=>
some ([],[],x6,())
| some (.inr (x6,x7,x8,x9,ac,ae,af,ag,ah,ai,aj,ak,am,_))=>
some (ak,am,0,())) else none
noncomputable def CP:X.Cfg:=⟨E0,[sF,sE,sn],[],[⟨10,0,qE,[(.ret,(qS [(pP 4 10),(sP 5 I64)] [(10,(uL [N1,N1]))])),(.normal,(qS [(pP 2 6),(pP 3 8),(pP 4 10),(pP 6 14),(sP 28 (.row false RW)),(sP 29 I64),(sP 30 I64)] [(6,(uL [fb,RI,(.row false RW)])),(8,(uL [RI,CW])),(10,(uL [N1,N1])),(14,(uL [(.row true KCe),iP]))]))]⟩,⟨7,1,(qS [(pP 2 6),(pP 3 8),(pP 4 10),(pP 6 14),(sP 28 (.row false RW)),(sP 29 I64),(sP 30 I64)] [(6,(uL [fb,RI,(.row false RW)])),(8,(uL [RI,CW])),(10,(uL [N1,N1])),(14,(uL [(.row true KCe),iP]))]),[(.ret,(qS [(pP 4 10),(sP 5 I64)] [(10,(uL [N1,N1]))])),(.exit 0,(qS [(pP 2 6),(pP 3 8),(pP 4 10),(pP 6 14),(sP 28 (.row false RW)),(sP 29 I64),(sP 30 I64),(sP 31 .bool)] [(6,(uL [fb,RI,(.row false RW)])),(8,(uL [RI,CW])),(10,(uL [N1,N1])),(14,(uL [(.row true KCe),iP]))]))]⟩]⟩
def uw:Ctr:=⟨38,164,[.agg (uL [fb,RI,(.row false RW)]),.agg (uL [RI,CW])],[],[⟨(uL [(.row true KCe),iP,I64]),[.agg 2,.one],[]⟩],ap5 tB⟩
theorem B2:Lk 3 uw:=ls (C:=CP) rfl (aC zX (aC zW (aC zK aN))) (by kernel_rfl) fun h=>by kernel_rfl
def pX(a0:Int) (a1:Int):Option (Bool×Unit):=
(qn a0 a1).bind fun(x0,_)=>
some ((!x0),())
noncomputable def xe:X.Cfg:=⟨E0,[qV],[],[]⟩
def p6:Ctr:=⟨110,165,[.agg (uL [CB,CW])],[],[⟨(uL [.bool]),[.one],[]⟩],ap2 pX⟩
theorem wZ:Lk 2 p6:=ls (C:=xe) rfl (aC vP aN) (by kernel_rfl) fun h=>by kernel_rfl
def nw:T0l→Option (T0l⊕((Int×Unit)⊕T0C)):=fun(v0,v1,v2,_)=>
bif (decide (v2 < v1)) then ((dW v2).bind fun x0=>
(dH v0 x0).bind fun x1=>
(pX x1.1 x1.2).bind fun(x2,_)=>
bif x2 then (some (.inr (.inl (v2,())))) else
let x3:=(w64 (v2+1));
some (.inl (v0,v1,x3,()))) else
some (.inr (.inr (v0,v1,v2,false,())))
def jL(a0:LDCe):Option (Int×Unit):=
let x0:=(dK (List.length a0));
(match dQ nw NN (a0,x0,0,()) with
| none=>none
| some (.inl (x1,_))=>
some (x1,())
| some (.inr (x1,x2,x3,x4,_))=>
some ((-1),()))
noncomputable def pu:X.Cfg:=⟨E0,[p6],[],[⟨3,0,(qS [(sP 0 eJ),(1,.fn 110 []),(sP 7 I64),(sP 8 I64)] []),[(.ret,(qS [(sP 4 I64)] [])),(.exit 0,(qS [(sP 0 eJ),(1,.fn 110 []),(sP 7 I64),(sP 8 I64),(sP 9 .bool)] []))]⟩]⟩
def kq:Ctr:=⟨139,166,[shU eJ,.fn 110 []],[],[⟨(uL [I64]),[.one],[]⟩],ap1 jL⟩
theorem pe:Lk 3 kq:=ls (C:=pu) rfl (aC wZ aN) (by kernel_rfl) fun h=>by kernel_rfl
def iM(a0:LDCe):Option (Bool×Unit):=
(jL a0).bind fun(x0,_)=>
some ((decide (x0≥0)),())
noncomputable def nA:X.Cfg:=⟨E0,[kq],[],[]⟩
def iO:Ctr:=⟨109,167,[shU eJ,.fn 110 []],[],[⟨(uL [.bool]),[.one],[]⟩],ap1 iM⟩
theorem nz:Lk 4 iO:=ls (C:=nA) rfl (aC pe aN) (by kernel_rfl) fun h=>by kernel_rfl
def n5(a0:LDCe) (a1:Int):Option (Bool×Unit):=
let x0:=(dK (List.length a0));
bif (x0==a1) then ((iM a0).bind fun(x1,_)=>
some ((!x1),())) else
some (false,())
noncomputable def An:X.Cfg:=⟨E0,[iO],[],[]⟩
def n9:Ctr:=⟨70,168,(uL [eJ,I64]),[],[⟨(uL [.bool]),[.one],[]⟩],ap2 n5⟩
theorem si:Lk 5 n9:=ls (C:=An) rfl (aC nz aN) (by kernel_rfl) fun h=>by kernel_rfl
def tA(a0:Int) (a1:Int) (a2:Bool) (a3:LDCe):Option (Bool×Unit):=
bif (a1==(-1)) then (bif (!a2) then (let x0:Int:=(dK (List.length a3));
some ((x0==0),())) else
some (false,())) else
bif (decide (a1≥0)) then (bif (decide (a1 < 128)) then (let x0:Int:=(Int.tmod a1 4);
bif (x0==a0) then ((n5 a3 4).bind fun(x1,_)=>
some (x1,())) else
some (false,())) else
some (false,())) else
some (false,())
noncomputable def CM:X.Cfg:=⟨E0,[n9],[],[]⟩
def uv:Ctr:=⟨71,169,[shU I64,.agg (uL [I64,.bool,eJ])],[],[⟨(uL [.bool]),[.one],[]⟩],ap4 tA⟩
theorem BZ:Lk 6 uv:=ls (C:=CM) rfl (aC si aN) (by kernel_rfl) fun h=>by kernel_rfl
def uM:T10→Option (T10⊕((Bool×Unit)⊕T1l)):=fun(v0,v1,v2,v3,v4,_)=>
bif (decide (v2 < v1)) then ((dW v2).bind fun x0=>
(dH v0 x0).bind fun x1=>
(tA v2 x1.1 x1.2.1 x1.2.2).bind fun(x2,_)=>
bif (!x2) then (some (.inr (.inl (false,())))) else
let x3:=(w64 (v2+1));
some (.inl (v0,v1,x3,v3,v4,()))) else
some (.inr (.inr (v0,v1,v2,false,v3,v4,())))
def sc(a0:LDCe) (a1:LDLn):Option (Bool×Unit):=
(n5 a0 512).bind fun(x0,_)=>
bif (!x0) then (some (false,())) else
let x1:=(dK (List.length a1));
bif (x1 != 4) then (some (false,())) else
let x2:=(dK (List.length a1));
(match dQ uM NN (a1,x2,0,a0,a1,()) with
| none=>none
| some (.inl (x3,_))=>
some (x3,())
| some (.inr (x3,x4,x5,x6,x7,x8,_))=>
some (true,()))
noncomputable def Ao:X.Cfg:=⟨E0,[n9,uv],[],[⟨6,0,(qS [(sP 16 eX),(sP 17 I64),(sP 18 I64)] [(4,(uL [eJ,eX]))]),[(.ret,(qS [(sP 2 .bool)] [])),(.exit 0,(qS [(sP 16 eX),(sP 17 I64),(sP 18 I64),(sP 19 .bool)] [(4,(uL [eJ,eX]))]))]⟩]⟩
def sD:Ctr:=⟨39,170,[.agg (uL [eJ,eX])],[],[⟨(uL [.bool]),[.one],[]⟩],ap2 sc⟩
theorem zV:Lk 7 sD:=ls (C:=Ao) rfl (aC si (aC BZ aN)) (by kernel_rfl) fun h=>by kernel_rfl
def o7:Option (Bool×Unit):=
let x0:List (Int):=[7,8];
(tB [] [3] [x0] [1] 0).bind fun(x1,x2,x3,_)=>
(mh x1 x2 2).bind fun(x4,x5,x6,_)=>
bif (x3==0) then (bif (x6==0) then (bif (x5==8) then (let x7:Int:=(dK (List.length x1));
bif (x7==512) then (let x8:Int:=(dK (List.length x2));
bif (x8==4) then ((sc x1 x2).bind fun(x9,_)=>
some (x9,())) else
some (false,())) else
some (false,())) else
some (false,())) else
some (false,())) else
some (false,())
noncomputable def CS:X.Cfg:=⟨E0,[uw,mB,sD],[(8,(.row true CW))],[]⟩
def pJ:Ctr:=⟨16,171,[],[],[⟨(uL [.bool]),[.one],[]⟩],fun h=>o7⟩
theorem tV:Lk 8 pJ:=ls (C:=CS) rfl (aC B2 (aC pt (aC zV aN))) (by kernel_rfl) fun h=>by kernel_rfl
def qb:T34→Option (T34⊕((Bool×Unit)⊕(Int×Int×Int×Int×Int×Bool×T2w))):=fun(v0,v1,v2,v3,v4,v5,v6,v7,v8,v9,v10,v11,v12,v13,v14,v15,_)=>
bif (decide (v4 < v3)) then ((dW v4).bind fun x0=>
(dH v15 x0).bind fun x1=>
(dH v15 x0).bind fun x2=>
(mg v9 v10 v0 x2.1 x2.2).bind fun(x3,x4,x5,_)=>
(vG v9 v10 v0 x2.1 x2.2).bind fun(x6,x7,x8,_)=>
bif (x5 != x8) then (some (.inr (.inl (false,())))) else
(vF x3 x4 x6 x7).bind fun(x9,_)=>
bif (!x9) then (some (.inr (.inl (false,())))) else
let ac:=(w64 (v4+1));
some (.inl (v0,v1,v2,v3,ac,v5,v6,v7,v8,v9,v10,v11,v12,v13,v14,v15,()))) else
some (.inr (.inr (v0,v1,v2,v3,v4,false,v5,v6,v7,v8,v9,v10,v11,v12,v13,v14,v15,())))
def qa:T2K→Option (T2K⊕((Bool×Unit)⊕(Int×Int×Bool×T2m))):=fun(v0,v1,v2,v3,v4,v5,v6,v7,v8,v9,v10,v11,_)=>
bif (decide (v1 < v0)) then ((dW v1).bind fun x0=>
(dH v11 x0).bind fun x1=>
(dH v11 x0).bind fun x2=>
(pb v9 v10).bind fun(x3,x4,x5,x6,_)=>
let x7:LDCe:=[(v2,v3),(x3,x4)];
let x8:=(dK (List.length x7));
(match dQ qb NN (x2,v0,v1,x8,0,v2,v3,v4,v5,v6,v7,v8,x5,x6,v11,x7,()) with
| none=>none
| some (.inl (x9,_))=>
some (.inr (.inl (x9,())))
| some (.inr (x9,ac,ae,af,ag,ah,ai,aj,ak,am,an,ap,aq,av,ax,ay,az,_))=>
(mh an ap x9).bind fun(aA,aB,aD,_)=>
(vH an ap x9).bind fun(aE,aF,aG,_)=>
bif (!((aA==aE) && ((aB==aF) && true))) then (some (.inr (.inl (false,())))) else
bif (aD != aG) then (some (.inr (.inl (false,())))) else
let aH:=(w64 (ae+1));
some (.inl (ac,aH,ai,aj,ak,am,an,ap,aq,av,ax,ay,())))) else
some (.inr (.inr (v0,v1,false,v2,v3,v4,v5,v6,v7,v8,v9,v10,v11,())))
def sL(a0:List (Int)) (a1:Int) (a2:Int) (a3:Int):Option (Bool×Unit):=
(hJ a0 0).bind fun(x0,x1,x2,x3,x4,x5,x6,x7,x8,x9,_)=>
(o4 a1 514).bind fun(ac,_)=>
let ae:=(w64 (ac - 1));
(o4 a1 120).bind fun(af,_)=>
let ag:List (Int):=[a1,ae,af];
let ah:=(dK (List.length ag));
(match dQ qa NN (ah,0,a2,a3,x3,x4,x5,x6,x7,x8,x9,ag,()) with
| none=>none
| some (.inl (ai,_))=>
some (ai,())
| some (.inr (ai,aj,ak,am,an,ap,aq,av,ax,ay,az,aA,aB,_))=>
(o7).bind fun(aD,_)=>
some (aD,()))
noncomputable def sY:X.Cfg:=⟨E0,[ll,xE,tg,pI,wG,wF,mB,wH,pJ],[],[⟨12,0,(qS [(pP 5 12),(pP 7 48),(pP 9 20),(sP 11 I64),(35,.pk ⟨73,0,[]⟩ [0,0]),(sP 36 I64),(sP 37 I64),(44,.pk ⟨91,0,[]⟩ [0,0]),(sP 45 I64),(sP 46 I64)] [(12,(uL [CB,CW])),(20,(uL [RI,CW,eJ,eX,fB])),(48,(uL [RI,I64])),(73,(uL [(.row true I64)])),(91,(uL [(.row true KCe)]))]),[(.ret,(qS [(sP 6 .bool)] [])),(.exit 2,(qS [(pP 5 12),(pP 7 48),(pP 9 20),(sP 11 I64),(35,.pk ⟨73,0,[]⟩ [0,0]),(sP 36 I64),(sP 37 I64),(44,.pk ⟨91,0,[]⟩ [0,0]),(sP 45 I64),(sP 46 I64),(sP 47 .bool)] [(12,(uL [CB,CW])),(20,(uL [RI,CW,eJ,eX,fB])),(48,(uL [RI,I64])),(73,(uL [(.row true I64)])),(91,(uL [(.row true KCe)]))]))]⟩,⟨5,1,(qS [(pP 5 12),(pP 7 48),(pP 9 20),(35,.pk ⟨73,0,[]⟩ [0,0]),(sP 36 I64),(sP 37 I64)] [(12,(uL [CB,CW])),(20,(uL [RI,CW,eJ,eX,fB])),(48,(uL [RI,I64])),(73,(uL [(.row true I64)]))]),[(.ret,(qS [(sP 6 .bool)] [])),(.exit 0,(qS [(pP 5 12),(pP 7 48),(pP 9 20),(35,.pk ⟨73,0,[]⟩ [0,0]),(sP 36 I64),(sP 37 I64),(sP 38 .bool)] [(12,(uL [CB,CW])),(20,(uL [RI,CW,eJ,eX,fB])),(48,(uL [RI,I64])),(73,(uL [(.row true I64)]))]))]⟩]⟩
def td:Ctr:=⟨3,172,[shU RI,shU I64,.agg (uL [CB,CW])],[],[⟨(uL [.bool]),[.one],[]⟩],ap4 sL⟩
theorem F2:Lk 11 td:=ls (C:=sY) rfl (aC n8 (aC BY (aC yA (aC tU (aC D7 (aC D6 (aC pt (aC D8 (aC tV aN))))))))) (by kernel_rfl) fun h=>by kernel_rfl
def rV:T2X→Option (T2X⊕((Bool×Unit)⊕T33)):=fun(v0,v1,v2,v3,v4,v5,v6,v7,v8,v9,v10,v11,v12,v13,v14,_)=>
bif (decide (v3 < v2)) then ((dW v3).bind fun x0=>
(dH v13 x0).bind fun x1=>
(dH v13 x0).bind fun x2=>
(bif (v3 != v0) then ((dW v3).bind fun x3=>
(dH v6 x3).bind fun x4=>
bif (!((x2.1==x4.1) && ((x2.2==x4.2) && true))) then (some (v0,v1,v2,v3,true,v4,v5,v6,v7,v8,v9,v10,v11,v12,v13,v14,())) else
bif (v3==v0) then (some (v0,v1,v2,v3,(!((x2.1==v9) && ((x2.2==v10) && true))),v4,v5,v6,v7,v8,v9,v10,v11,v12,v13,v14,())) else
some (v0,v1,v2,v3,false,v4,v5,v6,v7,v8,v9,v10,v11,v12,v13,v14,())) else
bif (v3==v0) then (some (v0,v1,v2,v3,(!((x2.1==v9) && ((x2.2==v10) && true))),v4,v5,v6,v7,v8,v9,v10,v11,v12,v13,v14,())) else
some (v0,v1,v2,v3,false,v4,v5,v6,v7,v8,v9,v10,v11,v12,v13,v14,()):Option (T33)).bind fun(x3,x4,x5,x6,x7,x8,x9,ac,ae,af,ag,ah,ai,aj,ak,am,_)=>
bif x7 then (some (.inr (.inl (false,())))) else
let an:=(w64 (x6+1));
some (.inl (x3,x4,x5,an,x8,x9,ac,ae,af,ag,ah,ai,aj,ak,am,()))) else
some (.inr (.inr (v0,v1,v2,v3,false,v4,v5,v6,v7,v8,v9,v10,v11,v12,v13,v14,())))
def uQ(a0:List (Int)) (a1:Int) (a2:Int):Option (Bool×Unit):=
(hJ a0 0).bind fun(x0,x1,x2,x3,x4,x5,x6,x7,x8,x9,_)=>
(o4 a1 512).bind fun(ac,_)=>
(o4 a2 512).bind fun(ae,_)=>
(pb x8 x9).bind fun(af,ag,ah,ai,_)=>
(pb ah ai).bind fun(aj,ak,am,an,_)=>
(mg x5 x6 ac af ag).bind fun(ap,aq,av,_)=>
bif (av != 0) then (some (false,())) else
let ax:=(dK (List.length ap));
bif (ax != 512) then (some (false,())) else
let ay:=(dK (List.length ap));
(match dQ rV NN (ac,ae,ay,0,x3,x4,x5,x6,x7,af,ag,aj,ak,ap,aq,()) with
| none=>none
| some (.inl (az,_))=>
some (az,())
| some (.inr (az,aA,aB,aD,aE,aF,aG,aH,aI,aJ,aK,aL,aM,aO,aP,aQ,_))=>
(mg aP aQ aA aM aO).bind fun(aR,aS,aT,_)=>
(mh aR aS az).bind fun(aU,aV,aW,_)=>
(bif (az==aA) then (some (aT,aW,aM,aO,aU,aV,())) else
some (aT,aW,aK,aL,aU,aV,()):Option (T1b)).bind fun(aY,aZ,ba,bc,bd,be,_)=>
bif (aY==0) then (bif (aZ==0) then (bif ((bd==ba) && ((be==bc) && true)) then ((o7).bind fun(bf,_)=>
some (bf,())) else
some (false,())) else
some (false,())) else
some (false,()))
noncomputable def vm:X.Cfg:=⟨E0,[ll,xE,tg,pI,mB,pJ],[],[⟨16,0,qE,[(.normal,(qS [(sP 1 I64),(sP 2 I64),(pP 9 20),(pP 10 22),(pP 11 24),(pP 12 26),(52,.pk ⟨26,0,[]⟩ [0,0]),(sP 53 I64),(sP 54 I64),(sP 81 .bool)] [(20,(uL [RI,CW,eJ,eX,fB])),(22,(uL [CB,CW])),(24,(uL [CB,CW])),(26,(uL [(.row true KCe),(.row true Ns)]))]))]⟩,⟨11,1,(qS [(sP 1 I64),(sP 2 I64),(pP 9 20),(pP 10 22),(pP 11 24),(pP 12 26),(52,.pk ⟨26,0,[]⟩ [0,0]),(sP 53 I64),(sP 54 I64)] [(20,(uL [RI,CW,eJ,eX,fB])),(22,(uL [CB,CW])),(24,(uL [CB,CW])),(26,(uL [(.row true KCe),(.row true Ns)]))]),[(.ret,(qS [(sP 6 .bool)] [])),(.exit 0,(qS [(sP 1 I64),(sP 2 I64),(pP 9 20),(pP 10 22),(pP 11 24),(pP 12 26),(52,.pk ⟨26,0,[]⟩ [0,0]),(sP 53 I64),(sP 54 I64),(sP 55 .bool)] [(20,(uL [RI,CW,eJ,eX,fB])),(22,(uL [CB,CW])),(24,(uL [CB,CW])),(26,(uL [(.row true KCe),(.row true Ns)]))]))]⟩,⟨20,2,qE,[(.normal,(qS [(pP 10 22),(sP 17 I64),(pP 18 38),(sP 19 I64)] [(22,(uL [CB,CW])),(38,(uL [CB,CW]))]))]⟩]⟩
def vv:Ctr:=⟨4,173,(uL [RI,I64,I64]),[],[⟨(uL [.bool]),[.one],[]⟩],ap3 uQ⟩
theorem IP:Lk 11 vv:=ls (C:=vm) rfl (aC n8 (aC BY (aC yA (aC tU (aC pt (aC tV aN)))))) (by kernel_rfl) fun h=>by kernel_rfl
end Go.Proofs.YtdcpgpngdcfhhaaGreat
namespace Go.Proofs.YtdcpgpngdcfhhaaGreat
set_option maxRecDepth 100000
end Go.Proofs.YtdcpgpngdcfhhaaGreat
namespace Go.Proofs.YtdcpgpngdcfhhaaGreat
open Go.RowKit
theorem P4:(Tryz.prog.funcs.all fun fn=>!(fn.name=="runtime.NumGoroutine"))=true:=by kernel_rfl
theorem IF:ry Tryz.prog 7:=by
 obtain⟨fn,hf,hb⟩:∃fn,Tryz.prog.funcs[7]?=some fn∧fn.body.isSome=true:=by
  have hs:(match Tryz.prog.funcs[7]? with | some fn=>fn.body.isSome | none=>false)=true:=by kernel_rfl
  cases h:Tryz.prog.funcs[7]? with
  | none=>rw[h] at hs;cases hs
  | some fn=>rw[h] at hs;exact⟨fn,rfl,hs⟩
 obtain⟨c,hc⟩:=Option.isSome_iff_exists.1 hb;refine Fa hf ?_ hc;obtain⟨hlt,he⟩:=Array.getElem?_eq_some_iff.1 hf;have:=Array.all_eq_true.1 P4 7 hlt;rw[he] at this;simpa using this
def OY(x:Value) (w:World) (e:Ending) (w':World):Prop:=e=.returned (.pointer (some ⟨w.heap.size,0,none⟩))∧w'=w.alloc (.cells #[x,.int .i64 0] 66)
theorem Om(x:Value) (hx:x.oneCell'=true) (w:World) :
 Calls Tryz.prog 7 #[x] w (OY x w):=by
 cases x
 all_goals first
  | (go_enter Tryz.func7,Tryz.ntmps7
     go_wp2
     go_ret
     exact⟨rfl,rfl⟩)
  | simp[Value.oneCell'] at hx
theorem e0_ok:Lu Tryz.prog E0:=by
 intro f n tm h;simp only[E0] at h;split at h
 ·rename_i e;subst e
  injection h with h
  injection h with h1 h2
  subst h1 h2;refine⟨IF,fun x hx=>?_,66,fun l2 w hl hone=>?_⟩
  ·simp only[List.mem_cons,List.not_mem_nil,or_false] at hx;rcases hx with hx | hx
   ·injection hx
   ·injection hx with hx;rw[hx];rfl
  ·match l2,hl with
   | [x],_=>exact Om x (hone x (by simp[bxV])) w
 ·simp at h
def Ok{α:Type}(o:Option α) (Q:α→Prop):Prop:=∃a,o=some a∧Q a
section
variable {α β:Type}
theorem Ok.ret{a:α}{Q:α→Prop}(h:Q a):Ok (some a) Q:=⟨a,rfl,h⟩
theorem Ok.bind{o:Option α}{f:α→Option β}{P:α→Prop}{Q:β→Prop}(h:Ok o P) (h2:∀a,P a→Ok (f a) Q):Ok (o.bind f) Q:=by
 obtain⟨a,rfl,h1⟩:=h;exact h2 a h1
theorem Ok.mono{o:Option α}{P Q:α→Prop}(h:Ok o P) (h2:∀a,P a→Q a):Ok o Q:=by
 obtain⟨a,e,h1⟩:=h;exact⟨a,e,h2 a h1⟩
theorem Ok.cond{c:Bool}{a b:Option α}{Q:α→Prop}(h1:c=true→Ok a Q) (h2:c=false→Ok b Q):Ok (bif c then a else b) Q:=by
 cases c with
 | true=>exact h1 rfl
 | false=>exact h2 rfl
class BP (b:Bool) (P N:outParam Prop):Prop where
 t:b=true→P
 f:b=false→N
instance (priority:=low) bpVar {b:Bool}:BP b (b=true) (b=false):=⟨id,id⟩
instance Qu {p:Prop} {i:Decidable p}:BP (@decide p i) p (¬ p):=⟨of_decide_eq_true,of_decide_eq_false⟩
instance QG {α:Type} [BEq α] [LawfulBEq α] {a b:α}:BP (a==b) (a=b) (¬ a=b):=⟨eq_of_beq,fun h=>beq_eq_false_iff_ne.1 h⟩
instance QF {α:Type} [BEq α] [LawfulBEq α] {a b:α}:BP (a != b) (¬ a=b) (a=b):=⟨fun h=>bne_iff_ne.1 h,fun h=>bne_eq_false_iff_eq.1 h⟩
instance Qt {b:Bool} {P N:Prop} [h:BP b P N]:BP (!b) N P:=⟨fun e=>h.f (by simpa using e),fun e=>h.t (by simpa using e)⟩
theorem dE{c:Bool}{P N:Prop} [h:BP c P N] {a b:Option α}{Q:α→Prop}(h1:P→Ok a Q) (h2:N→Ok b Q):Ok (bif c then a else b) Q:=by
 cases hc:c with
 | true=>exact h1 (h.t hc)
 | false=>exact h2 (h.f hc)
theorem Ok.get{l:List α}{i:Nat}{f:α→Option β}{Q:β→Prop}(h:i < l.length) (h2:∀a,l[i]?=some a→Ok (f a) Q):Ok ((dH l i).bind f) Q:=by
 have e:dH l i=some l[i]:=oGE h;rw[e];exact h2 _ (oGE h)
theorem Ok.nat{x:Int}{f:Nat→Option β}{Q:β→Prop}(h:0≤x) (h2:∀n:Nat,x=n→Ok (f n) Q):Ok ((dW x).bind f) Q:=by
 obtain⟨n,rfl⟩:∃n:Nat,x=n:=⟨x.toNat,by omega⟩;exact h2 n rfl
theorem Ok.val{v:α}{f:α→Option β}{Q:β→Prop}(h:∀x,x=v→Ok (f x) Q):Ok (f v) Q:=h v rfl
theorem dF{c:Bool}{a b:Option α}{Q:α→Prop}(hc:c=true) (h1:Ok a Q):Ok (bif c then a else b) Q:=by rw[hc];exact h1
theorem fN{S T:Type}{f:S→Option (S⊕T)}(P:S→Prop) (R:T→Prop) (m:S→Nat) {n:Nat}{s:S}(hs:P s) (hm:m s < n)
 (h:∀s,P s→Ok (f s) fun r=>match r with | .inl s'=>P s'∧m s' < m s | .inr t=>R t):Ok (dQ f n s) R:=by
 induction n generalizing s with
 | zero=>omega
 | succ n ih=>
  obtain⟨r,e,hr⟩:=h s hs
  cases r with
  | inl s'=>
   obtain⟨t,e2,hq⟩:=ih hr.1 (by have:=hr.2;omega);exact⟨t,by simp only[dQ,e,oBS];exact e2,hq⟩
  | inr t=>exact⟨t,by simp[dQ,e],hr⟩
theorem Ok.loop{S T:Type}{f:S→Option (S⊕T)}{g:T→Option β}{Q:β→Prop}(P:S→Prop) (R:T→Prop) (m:S→Nat) {n:Nat}{s:S}(hs:P s) (hm:m s < n)
 (h:∀s,P s→Ok (f s) fun r=>match r with | .inl s'=>P s'∧m s' < m s | .inr t=>R t) (hg:∀t,R t→Ok (g t) Q):Ok ((dQ f n s).bind g) Q:=(fN P R m hs hm h).bind hg
end
theorem dO{x:Int}(h1:-9223372036854775808≤x) (h2:x≤9223372036854775807):w64 x=x:=Lz h1 h2
theorem dL(n:Nat):dW (n:Int)=some n:=rfl
theorem dU(n:Nat):dK n=(n:Int):=rfl
theorem dN{α:Type}{l:List α}{i:Nat}{a:α}(h:l[i]?=some a):a∈l:=List.mem_of_getElem? h
def W16(x:Int):Prop:=0≤x∧x≤65535
theorem dY{x:Int}(h0:0≤x) (h1:x≤65535):wk .u16 x=x:=by
 unfold wk;rw[Bk];omega
theorem dT{x:Int}(h0:-9223372036854775808≤x) (h1:x≤9223372036854775807):wk .i64 x=x:=dO h0 h1
theorem dS{b n m:Nat}(h:b≤1000∧n+m≤1000000):dV b n m=true:=by
 have:(n+m)*b≤1000000*1000:=Nat.mul_le_mul h.2 h.1;simp only[dV,oBA,oDE];omega
structure DOk (l:List Int) (k:Int):Prop where
 num:∀x∈l,Nt x
 len:l.length≤maxLen
 lo:0≤k
 hi:k≤l.length
theorem Dn{l:List Int}(h:∀x∈l,Nt x) (hl:l.length≤maxLen):DOk l 0:=⟨h,hl,by omega,by omega⟩
theorem Ni{a b:Int}(ha:Nt a) (hb:0 < b) (hb2:b≤9223372036854775807):∃v,jo a b=some (v,())∧0≤v∧v < b:=by
 have hne:(b != 0)=true:=by simp;omega
 have hm:Int.tmod a b < b:=Int.tmod_lt_of_pos a hb
 have hm2:-b < Int.tmod a b:=by
  have:=Int.tmod_lt_of_pos (-a) hb;rw[Int.neg_tmod] at this;omega
 unfold jo;simp only[hne,oCT];by_cases h:Int.tmod a b < 0
 ·refine⟨Int.tmod a b+b,?_,by omega,by omega⟩;simp only[h,decide_true,oCT,oBS];rw[dO (by omega) (by omega)]
 ·refine⟨Int.tmod a b,?_,by omega,hm⟩;simp only[h,decide_false,oCF,oBS]
section
variable {β:Type} {l:List Int} {k n:Int} {Q:β→Prop}
theorem Pm{a b:Int}{f:Int×Unit→Option β}(ha:Nt a) (hb:0 < b) (hb2:b≤9223372036854775807) (K:∀v,0≤v→v < b→Ok (f (v,())) Q):Ok ((jo a b).bind f) Q:=by
 obtain⟨v,e,h0,h1⟩:=Ni ha hb hb2;rw[e];exact K v h0 h1
theorem fi{f:Int×List Int×Int×Unit→Option β}(h:DOk l k) (hn:0 < n) (hn2:n≤9223372036854775807) (K:∀v k',0≤v→v < n→DOk l k'→Ok (f (v,l,k',())) Q):Ok ((dJ n l k).bind f) Q:=by
 have hl:=h.len;have hlo:=h.lo;have hhi:=h.hi
 have hmx:maxLen≤9223372036854775807:=by decide
 by_cases hk:k≥(l.length:Int)
 ·have e:dJ n l k=some (0,l,k,()):=by unfold dJ;simp[dU,hk]
  rw[e];exact K 0 k (by omega) hn h
 ·obtain⟨j,rfl⟩:∃j:Nat,k=j:=⟨k.toNat,by omega⟩
  have hj:j < l.length:=by omega
  obtain⟨v,hv,h0,h1⟩:=Ni (h.num _ (List.getElem_mem hj)) hn hn2
  have e:dJ n l j=some (v,l,(j:Int)+1,()):=by
   unfold dJ;delta dK
   try dsimp only
   rw[dO (x:=(j:Int)+1) (by omega) (by omega),dO (x:=(j:Int)+1 - 1) (by omega) (by omega)];rw[show (j:Int)+1 - 1=j by omega,dL];simp only[hk,decide_false,oCF,oBS,dH,oGE hj,o4,hv]
  rw[e];exact K v _ h0 h1 ⟨h.num,hl,by omega,by omega⟩
theorem GS{f:Int×List Int×Int×Unit→Option β}(h:DOk l k) (K:∀v k',0≤v→v≤65535→DOk l k'→Ok (f (v,l,k',())) Q):Ok ((gQ l k).bind f) Q:=by
 have hw:Ok (gQ l k) fun r=>∃v k',r=(v,l,k',())∧0≤v∧v≤65535∧DOk l k':=by
  unfold gQ
  (with_reducible refine fi (by assumption) (by omega) (by omega) (fun v k a b d=>?_);try dsimp only)
  refine Ok.bind (P:=fun r=>∃b,r=(v,b,l,k,())) ?_ ?_
  ·repeat ((with_reducible refine dE (fun hc=>?_) fun hc=>?_);· exact Ok.ret ⟨_,rfl⟩)
   exact Ok.ret ⟨_,rfl⟩
  ·rintro _ ⟨b,rfl⟩;dsimp only;refine Ok.cond (fun _=>?_) fun _=>?_
   ·(with_reducible refine fi (by assumption) (by omega) (by omega) (fun v k a b d=>?_);try dsimp only)
    (simp (disch:=omega) only [dO,dY,dT,dU])
    exact Ok.ret ⟨_,_,rfl,by omega,by omega,by assumption⟩
   ·(with_reducible refine dE (fun hc=>?_) fun hc=>?_)
    ·(with_reducible refine fi (by assumption) (by omega) (by omega) (fun v k a b d=>?_);try dsimp only)
     (simp (disch:=omega) only [dO,dY,dT,dU])
     exact Ok.ret ⟨_,_,rfl,by omega,by omega,by assumption⟩
    ·(with_reducible refine fi (by assumption) (by omega) (by omega) (fun v k a b d=>?_);try dsimp only)
     (simp (disch:=omega) only [dO,dY,dT,dU])
     exact Ok.ret ⟨_,_,rfl,by omega,by omega,by assumption⟩
 refine hw.bind ?_;rintro _ ⟨v,k',rfl,h0,h1,h2⟩;exact K v k' h0 h1 h2
end
def zA(s:List Int):Prop:=1≤s.length∧s.length≤4∧∀x∈s,1≤x∧x≤32
theorem P1{P:Int→Prop}{a b c:Int}(ha:P a) (hb:P b) (hc:P c):∀x∈[a,b,c],P x:=by
 intro x hx;simp only[List.mem_cons,List.not_mem_nil,or_false] at hx
 rcases hx with rfl | rfl | rfl<;>assumption
theorem LJ{l:List Int}{k:Int}(h:DOk l k):Ok (nM l k) fun r=>∃s k',r=(s,l,k',())∧zA s∧DOk l k':=by
 unfold nM
 (with_reducible refine fi (by assumption) (by omega) (by omega) (fun v0 k0 a0 b0 d0=>?_);try dsimp only)
 (simp (disch:=omega) only [dO,dY,dT,dU])
 (with_reducible refine fi (by assumption) (by omega) (by omega) (fun v1 k1 a1 b1 d1=>?_);try dsimp only)
 refine Ok.loop (P:=fun((c,l',k',s,_):Int×List Int×Int×List Int×Unit)=>l'=l∧DOk l k'∧0≤c∧c+s.length≤4∧1≤s.length∧∀x∈s,1≤x∧x≤32)
  (R:=fun((_,_,l',k',s,_):Int×Bool×List Int×Int×List Int×Unit)=>l'=l∧DOk l k'∧zA s) (m:=fun s=>s.1.toNat) ⟨rfl,d1,a1,by simp;omega,by simp,by simp;omega⟩ (by unfold NN;dsimp only;omega) ?_ ?_
 ·rintro⟨c,l',k3,s,_⟩ ⟨rfl,hd3,hc0,hcs,hs1,hs⟩;dsimp only at *;unfold qB;dsimp only
  (with_reducible refine dE (fun hc=>?_) fun hc=>?_)
  ·(with_reducible refine fi (by assumption) (by omega) (by omega) (fun v2 k2 a2 b2 d2=>?_);try dsimp only)
   (with_reducible refine Ok.nat (by omega) (fun j hj=>?_);try dsimp only)
   have hmem:∀x∈[(6:Int),12,32],6≤x∧x≤32:=P1 (by omega) (by omega) (by omega);refine Ok.get (by simp;omega) fun a ha=>?_;have h6:=hmem a (dN ha);refine Ok.get (by simp;omega) fun b hb=>?_;have h7:=hmem b (dN hb)
   (with_reducible refine fi (by assumption) (by omega) (by omega) (fun v3 k3 a3 b3 d3=>?_);try dsimp only)
   (simp (disch:=omega) only [dO,dY,dT,dU])
   refine dF (dS (by simp;omega)) ?_;refine Ok.ret ⟨⟨rfl,by assumption,by omega,?_,?_,?_⟩,?_⟩
   ·simp;omega
   ·simp
   ·intro x hx;simp only[List.append_eq,List.mem_append,List.mem_cons,List.not_mem_nil,or_false] at hx;rcases hx with hx | rfl
    ·exact hs x hx
    ·omega
   ·dsimp only;omega
  ·exact Ok.ret ⟨rfl,hd3,hs1,by dsimp only;omega,hs⟩
 ·rintro⟨a,b,l',k3,s,_⟩ ⟨rfl,hd3,hs⟩;exact Ok.ret ⟨_,_,rfl,hs,hd3⟩
def oR(op:Int):Bool:=!(op==18 || op==23 || op==0 || op==24)
def oQ(op:Int):Bool:=!(op==18 || op==23 || op==0 || op==24 || op==1 || op==15 || op==19 || op==20 || op==21 || op==22)
def oP(op:Int):Bool:=!(op==18 || op==23 || op==0 || op==24 || op==1 || op==15 || op==19 || op==20 || op==21 || op==22 || op==2 || op==16 || op==17)
def oO(op:Int):Bool:=op==1 || op==15 || op==19 || op==20 || op==21 || op==16 || op==17 || op==18 || op==23
def mp(op:Int):Bool:=op==18 || op==19 || op==20 || op==21
theorem Jv{op:Int}(h0:0≤op) (h1:op≤24):jA op=some (oR op,oQ op,oP op,oO op,()):=by
 obtain⟨n,rfl⟩:∃n:Nat,op=n:=⟨op.toNat,by omega⟩
 have hn:n < 25:=by omega
 have key:∀n:Fin 25,(jA ((n.val:Nat):Int)).map (fun x=>(x.1,x.2.1,x.2.2.1,x.2.2.2.1))=some (oR (n.val:Nat),oQ (n.val:Nat),oP (n.val:Nat),oO (n.val:Nat)):=by decide
 have:=key ⟨n,hn⟩;dsimp only at this
 cases h:jA (n:Int) with
 | none=>rw[h] at this;cases this
 | some x=>
  obtain⟨a,b,c,d,_⟩:=x;rw[h] at this;simp only[oMS,oSJ,oPJ] at this;rw[this.1,this.2.1,this.2.2.1,this.2.2.2]
theorem yB(op:Int):gJ op=some (mp op,()):=by
 unfold gJ mp;cases op==18<;>cases op==19<;>cases op==20<;>cases op==21<;>rfl
structure ic (n m:Int) (i:DIn):Prop where
 op:0≤i.1∧i.1≤24
 a:0≤i.2.1∧i.2.1 < 8∧(oR i.1=false→i.2.1=0)
 b:0≤i.2.2.1∧i.2.2.1 < 8∧(oQ i.1=false→i.2.2.1=0)
 c:0≤i.2.2.2.1∧i.2.2.2.1 < 8∧(oP i.1=false→i.2.2.2.1=0)
 imm:0≤i.2.2.2.2∧i.2.2.2.2≤65535∧(oO i.1=false→i.2.2.2.2=0)
 lea:i.1=15→i.2.2.2.2 < n
 sys:i.1=23→i.2.2.2.2≤15
 jmp:mp i.1=true→i.2.2.2.2 < m
theorem ins_mk{n m o a b c i:Int}(ho:0≤o∧o≤24) (ha:0≤a∧a < 8) (hb:0≤b∧b < 8) (hc:0≤c∧c < 8) (hi:0≤i∧i≤65535) (hA:oR o=true∨a=0) (hB:oQ o=true∨b=0) (hC:oP o=true∨c=0) (hI:oO o=true∨i=0)
 (hl:o=15→i < n) (hs:o=23→i≤15) (hj:mp o=true→i < m):ic n m (o,a,b,c,i):=
 ⟨ho,⟨ha.1,ha.2,fun h=>hA.elim (fun h'=>by rw[show oR o=false from h] at h';cases h') id⟩,⟨hb.1,hb.2,fun h=>hB.elim (fun h'=>by rw[show oQ o=false from h] at h';cases h') id⟩,
  ⟨hc.1,hc.2,fun h=>hC.elim (fun h'=>by rw[show oP o=false from h] at h';cases h') id⟩,⟨hi.1,hi.2,fun h=>hI.elim (fun h'=>by rw[show oO o=false from h] at h';cases h') id⟩,hl,hs,hj⟩
theorem DP{n m r v:Int}(h:0≤r∧r < 8) (hv:0≤v∧v≤65535):ic n m (1,r,0,0,v):=ins_mk (by decide) h (by decide) (by decide) hv (.inl (by decide)) (.inr rfl) (.inr rfl) (.inl (by decide)) (by omega) (by omega) (fun h=>absurd h (by decide))
theorem FP{n m r v:Int}(h:0≤r∧r < 8) (hv:0≤v∧v < 8):ic n m (2,r,v,0,0):=ins_mk (by decide) h hv (by decide) (by decide) (.inl (by decide)) (.inl (by decide)) (.inr rfl) (.inr rfl) (by omega) (by omega) (fun h=>absurd h (by decide))
theorem xR{n m v:Int}(hv:0≤v∧v≤15):ic n m (23,0,0,0,v):=ins_mk (by decide) (by decide) (by decide) (by decide) (by omega) (.inr rfl) (.inr rfl) (.inr rfl) (.inl (by decide)) (by omega) (by omega) (fun h=>absurd h (by decide))
theorem FS{n m r v:Int}(h:0≤r∧r < 8) (hv:0≤v∧v < n) (hn:n≤4):ic n m (15,r,0,0,v):=ins_mk (by decide) h (by decide) (by decide) (by omega) (.inl (by decide)) (.inr rfl) (.inr rfl) (.inl (by decide)) (by omega) (by omega) (fun h=>absurd h (by decide))
theorem Jz{n m o a b v:Int}(ho:o=16∨o=17) (h:0≤a∧a < 8) (hb:0≤b∧b < 8) (hv:0≤v∧v≤65535):ic n m (o,a,b,0,v):=by
 rcases ho with rfl | rfl
 ·exact ins_mk (by decide) h hb (by decide) hv (.inl (by decide)) (.inl (by decide)) (.inr rfl) (.inl (by decide)) (by omega) (by omega) (fun h=>absurd h (by decide))
 ·exact ins_mk (by decide) h hb (by decide) hv (.inl (by decide)) (.inl (by decide)) (.inr rfl) (.inl (by decide)) (by omega) (by omega) (fun h=>absurd h (by decide))
theorem FM{n m o a b c:Int}(ho:3≤o∧o≤14) (h:0≤a∧a < 8) (hb:0≤b∧b < 8) (hc:0≤c∧c < 8):ic n m (o,a,b,c,0):=
 ins_mk (by omega) h hb hc (by decide) (.inl (by unfold oR;simp;omega)) (.inl (by unfold oQ;simp;omega)) (.inl (by unfold oP;simp;omega)) (.inr rfl) (by omega) (by omega) (fun h=>by unfold mp at h;simp at h;omega)
theorem Ox{n m v:Int}(hv:0≤v∧v≤65535) (hm:v < m):ic n m (18,0,0,0,v):=ins_mk (by decide) (by decide) (by decide) (by decide) hv (.inr rfl) (.inr rfl) (.inr rfl) (.inl (by decide)) (by omega) (by omega) (fun _=>hm)
theorem Oa{n m:Int}:ic n m (24,0,0,0,0):=ins_mk (by decide) (by decide) (by decide) (by decide) (by decide) (.inr rfl) (.inr rfl) (.inr rfl) (.inr rfl) (by omega) (by omega) (fun h=>absurd h (by decide))
theorem ic.mono{n m m':Int}{i:DIn}(h:ic n m i) (hm:m≤m'):ic n m' i:=⟨h.op,h.a,h.b,h.c,h.imm,h.lea,h.sys,fun hj=>by have:=h.jmp hj;omega⟩
theorem F4{n m a v:Int}(h:0≤a∧a < 8) (hv:0≤v∧v≤65535) (hm:v < m):ic n m (20,a,0,0,v):=ins_mk (by decide) h (by decide) (by decide) hv (.inl (by decide)) (.inr rfl) (.inr rfl) (.inl (by decide)) (by omega) (by omega) (fun _=>hm)
theorem My{n most k:Int}{l:List Int}(h:DOk l k) (hn:1≤n∧n≤4) (hm:1≤most∧most≤100):Ok (nN n most l k) fun r=>∃o a b c i k',r=(o,a,b,c,i,l,k',())∧ic n most (o,a,b,c,i)∧DOk l k':=by
 unfold nN
 (with_reducible refine fi (by assumption) (by omega) (by omega) (fun v0 k0 a0 b0 d0=>?_);try dsimp only)
 rw[Jv (by omega) (by omega)];simp only[oBS];refine Ok.bind (P:=fun r=>∃x k',r=(n,most,l,k',0,0,0,0,0,v0,x,0,0,0,oR v0,oQ v0,oP v0,oO v0,())∧0≤x∧x < 8∧(oR v0=false→x=0)∧DOk l k') ?_ ?_
 ·refine Ok.cond (fun hc=>?_) fun hc=>Ok.ret ⟨_,_,rfl,by omega,by omega,fun _=>rfl,d0⟩
  (with_reducible refine fi (by assumption) (by omega) (by omega) (fun v1 k1 a1 b1 d1=>?_);try dsimp only)
  exact Ok.ret ⟨_,_,rfl,a1,b1,(fun hh=>by rw[hc] at hh;cases hh),d1⟩
 rintro _ ⟨xa,k1,rfl,ha0,ha1,ha2,d1⟩;dsimp only;refine Ok.bind (P:=fun r=>∃x k',r=(n,most,l,k',0,0,0,0,0,v0,xa,x,0,0,oR v0,oQ v0,oP v0,oO v0,())∧0≤x∧x < 8∧(oQ v0=false→x=0)∧DOk l k') ?_ ?_
 ·refine Ok.cond (fun hc=>?_) fun hc=>Ok.ret ⟨_,_,rfl,by omega,by omega,fun _=>rfl,d1⟩
  (with_reducible refine fi (by assumption) (by omega) (by omega) (fun v2 k2 a2 b2 d2=>?_);try dsimp only)
  exact Ok.ret ⟨_,_,rfl,a2,b2,(fun hh=>by rw[hc] at hh;cases hh),d2⟩
 rintro _ ⟨xb,k2,rfl,hb0,hb1,hb2,d2⟩;dsimp only;refine Ok.bind (P:=fun r=>∃x k',r=(n,most,l,k',0,0,0,0,0,v0,xa,xb,x,0,oR v0,oQ v0,oP v0,oO v0,())∧0≤x∧x < 8∧(oP v0=false→x=0)∧DOk l k') ?_ ?_
 ·refine Ok.cond (fun hc=>?_) fun hc=>Ok.ret ⟨_,_,rfl,by omega,by omega,fun _=>rfl,d2⟩
  (with_reducible refine fi (by assumption) (by omega) (by omega) (fun v3 k3 a3 b3 d3=>?_);try dsimp only)
  exact Ok.ret ⟨_,_,rfl,a3,b3,(fun hh=>by rw[hc] at hh;cases hh),d3⟩
 rintro _ ⟨xc,k3,rfl,hc0,hc1,hc2,d3⟩;dsimp only;rw[yB];simp only[oBS];refine Ok.bind (P:=fun r=>∃x k',r=(l,k',0,0,0,0,0,v0,xa,xb,xc,x,())∧0≤x∧x≤65535∧(oO v0=false→x=0)∧(v0=15→x < n)∧(v0=23→x≤15)∧(mp v0=true→x < most)∧DOk l k') ?_ ?_
 ·refine Ok.cond (fun hj=>?_) fun hj=>?_
  ·(with_reducible refine fi (by assumption) (by omega) (by omega) (fun v4 k4 a4 b4 d4=>?_);try dsimp only)
   have hj:mp v0=true:=hj
   have hne:v0≠15∧v0≠23:=by constructor<;>(rintro rfl;exact absurd hj (by decide))
   exact Ok.ret ⟨_,_,rfl,a4,by omega,(fun hh=>by
    have:oO v0=true:=by unfold mp at hj;unfold oO;simp at hj ⊢;omega
    rw[this] at hh;cases hh),by omega,by omega,fun _=>b4,d4⟩
  ·(with_reducible refine dE (fun hc5=>?_) fun hc5=>?_)
   ·subst hc5
    (with_reducible refine fi (by assumption) (by omega) (by omega) (fun v4 k4 a4 b4 d4=>?_);try dsimp only)
    exact Ok.ret ⟨_,_,rfl,a4,by omega,fun hh=>absurd hh (by decide),by omega,by omega,fun hh=>absurd hh (by decide),d4⟩
   ·(with_reducible refine dE (fun hc6=>?_) fun hc6=>?_)
    ·subst hc6
     (with_reducible refine fi (by assumption) (by omega) (by omega) (fun v4 k4 a4 b4 d4=>?_);try dsimp only)
     exact Ok.ret ⟨_,_,rfl,a4,by omega,fun hh=>absurd hh (by decide),by omega,by omega,fun hh=>absurd hh (by decide),d4⟩
    ·refine Ok.cond (fun hu=>?_) fun hu=>?_
     ·(with_reducible refine GS (by assumption) (fun v4 k4 a4 b4 d4=>?_);try dsimp only)
      (simp (disch:=omega) only [dO,dY,dT,dU])
      exact Ok.ret ⟨_,_,rfl,a4,by omega,(fun hh=>by rw[hu] at hh;cases hh),by omega,by omega,(fun hh=>by rw[show mp v0=false from hj] at hh;cases hh),d4⟩
     ·exact Ok.ret ⟨_,_,rfl,by omega,by omega,fun _=>rfl,by omega,by omega,(fun hh=>by rw[show mp v0=false from hj] at hh;cases hh),d3⟩
 rintro _ ⟨xi,k4,rfl,hi0,hi1,hi2,hi3,hi4,hi5,d4⟩;exact Ok.ret ⟨_,_,_,_,_,_,rfl,⟨⟨a0,by dsimp only;omega⟩,⟨ha0,ha1,ha2⟩,⟨hb0,hb1,hb2⟩,⟨hc0,hc1,hc2⟩,⟨hi0,hi1,hi2⟩,hi3,hi4,hi5⟩,d4⟩
theorem mE{α β:Type}{l:List α}{i:Nat}{f:α→Option β}{Q:β→Prop}(P:α→Prop) (h:i < l.length) (hP:∀x∈l,P x) (h2:∀a,P a→Ok (f a) Q):Ok ((dH l i).bind f) Q:=Ok.get h fun a ha=>h2 a (hP a (dN ha))
theorem ef{α:Type}{P:α→Prop}:∀x∈([]:List α),P x:=fun _ h=>by cases h
theorem all_cons{α:Type}{P:α→Prop}{a:α}{l:List α}(h:P a) (h2:∀x∈l,P x):∀x∈a :: l,P x:=fun x hx=>by
 rcases List.mem_cons.1 hx with rfl | hx
 ·exact h
 ·exact h2 x hx
theorem Po(a b:Int):iv a b=some (1,a,0,0,b,()):=rfl
theorem Pl(a b:Int):mf a b=some (2,a,b,0,0,()):=rfl
theorem Nb(a:Int):gO a=some (23,0,0,0,a,()):=rfl
theorem Qq{x:Int}(h:1≤x):1≤mmR false 5 x∧mmR false 5 x≤5:=by
 unfold mmR;simp only[Bool.false_eq_true,if_false];split<;>omega
def HX(n at_:Int) (l:List Int) (r:List DIn×List Int×Int×Unit):Prop:=∃xs k',r=(xs,l,k',())∧1≤xs.length∧xs.length≤6∧(∀i∈xs,ic n (at_+xs.length) i)∧DOk l k'
theorem Bx{n at_:Int}{l:List Int}{xs:List DIn}{k:Int}(h1:1≤xs.length∧xs.length≤6) (h2:∀i∈xs,ic n (at_+xs.length) i) (h3:DOk l k):Ok (some (xs,l,k,())) (HX n at_ l):=Ok.ret ⟨xs,k,rfl,h1.1,h1.2,h2,h3⟩
theorem Oj{s l:List Int}{at_ k:Int}(h:DOk l k) (hs:zA s) (ha:0≤at_∧at_≤99):Ok (o9 s (at_+1) at_ l k) (HX s.length at_ l):=by
 obtain⟨hs1,hs4,hsz⟩:=hs
 have hn:1≤(s.length:Int)∧(s.length:Int)≤4:=by omega
 unfold o9;delta dK;simp only[Po,Pl,Nb,oBS]
 (with_reducible refine fi (by assumption) (by omega) (by omega) (fun vr kr ar br dr=>?_);try dsimp only)
 refine Ok.nat (by omega) fun j hj=>?_;refine mE (fun a=>1≤a∧a≤32) (by omega) hsz fun z hz=>?_
 (simp (disch:=omega) only [dO,dY,dT,dU])
 have h5:=Qq (x:=z+1) (by omega);generalize mmR false 5 (z+1)=mm at h5
 (with_reducible refine fi (by assumption) (by omega) (by omega) (fun vu ku au bu du=>?_);try dsimp only)
 (with_reducible refine fi (by assumption) (by omega) (by omega) (fun vw kw aw bw dw=>?_);try dsimp only)
 iterate 19
  (with_reducible refine dE (fun hcc=>?_) fun hcc=>?_)
  ·repeat (first | (simp (disch:=omega) only [dO,dY,dT,dU]) | (with_reducible refine fi (by assumption) (by omega) (by omega) (fun v k a b d=>?_);try dsimp only) | (with_reducible refine GS (by assumption) (fun v k a b d=>?_);try dsimp only) | (with_reducible refine Ok.nat (by omega) (fun j hj=>?_);try dsimp only) | ((with_reducible first | refine mE (fun a=>1≤a∧a≤32) (by omega) (by assumption) (fun e he=>?_) | refine mE (fun a=>3≤a∧a≤14) (by simp only[oLC,List.length_nil];omega) (by (first | exact (all_cons (by omega) (all_cons (by omega) ef)) | exact (all_cons (by omega) (all_cons (by omega) (all_cons (by omega) ef))) | exact (all_cons (by omega) (all_cons (by omega) (all_cons (by omega) (all_cons (by omega) (all_cons (by omega) (all_cons (by omega) (all_cons (by omega) (all_cons (by omega) ef)))))))))) (fun e he=>?_) | refine mE (fun a=>0≤a∧a≤15) (by simp only[oLC,List.length_nil];omega) (by (first | exact (all_cons (by omega) (all_cons (by omega) ef)) | exact (all_cons (by omega) (all_cons (by omega) (all_cons (by omega) ef))) | exact (all_cons (by omega) (all_cons (by omega) (all_cons (by omega) (all_cons (by omega) (all_cons (by omega) (all_cons (by omega) (all_cons (by omega) (all_cons (by omega) ef)))))))))) (fun e he=>?_) | refine mE (fun a=>1≤a∧a≤100) (by simp only[oLC,List.length_nil];omega) (by (first | exact (all_cons (by omega) (all_cons (by omega) ef)) | exact (all_cons (by omega) (all_cons (by omega) (all_cons (by omega) ef))) | exact (all_cons (by omega) (all_cons (by omega) (all_cons (by omega) (all_cons (by omega) (all_cons (by omega) (all_cons (by omega) (all_cons (by omega) (all_cons (by omega) ef)))))))))) (fun e he=>?_));try dsimp only) | (with_reducible refine dF (dS (by first | omega | simp)) ?_;try dsimp only) | (refine mE (fun(a:List DIn)=>(1≤a.length∧a.length≤6)∧∀i∈a,ic s.length (at_+a.length) i) (by simp only[oLC,List.length_nil];omega) (all_cons ⟨by simp,by ((repeat' (first | exact ef | refine all_cons ?_ ?_ | exact DP (by omega) (by omega) | exact FP (by omega) (by omega) | exact xR (by omega) | exact FS (by omega) (by omega) (by omega) | exact Jz (by omega) (by omega) (by omega) (by omega) | exact FM (by omega) (by omega) (by omega) (by omega) | exact F4 (by omega) (by omega) (by simp only[oLC,List.length_nil];omega)));done)⟩ (all_cons ⟨by simp,by ((repeat' (first | exact ef | refine all_cons ?_ ?_ | exact DP (by omega) (by omega) | exact FP (by omega) (by omega) | exact xR (by omega) | exact FS (by omega) (by omega) (by omega) | exact Jz (by omega) (by omega) (by omega) (by omega) | exact FM (by omega) (by omega) (by omega) (by omega) | exact F4 (by omega) (by omega) (by simp only[oLC,List.length_nil];omega)));done)⟩ ef)) (fun e he=>?_);try dsimp only))
   first
    | exact Bx he.1 he.2 (by assumption)
    | (refine Bx (by simp) ?_ (by assumption);try simp only[List.append_eq,List.cons_append,List.nil_append]
       ((repeat' (first | exact ef | refine all_cons ?_ ?_ | exact DP (by omega) (by omega) | exact FP (by omega) (by omega) | exact xR (by omega) | exact FS (by omega) (by omega) (by omega) | exact Jz (by omega) (by omega) (by omega) (by omega) | exact FM (by omega) (by omega) (by omega) (by omega) | exact F4 (by omega) (by omega) (by simp only[oLC,List.length_nil];omega)));done))
 refine (My (by assumption) hn (by omega)).bind ?_;rintro _ ⟨o,a,b,c,i,k',rfl,hi,hd⟩;exact Bx (by simp) (all_cons (hi.mono (by simp)) ef) hd
theorem iS{α:Type}{P:α→Prop}{l m:List α}(h:∀x∈l,P x) (h2:∀x∈m,P x):∀x∈List.append l m,P x:=fun x hx=>(List.mem_append.1 (show x∈l++m from hx)).elim (h x) (h2 x)
theorem eW{α:Type}(l m:List α):(List.append l m).length=l.length+m.length:=List.length_append
theorem oL{l:List Int}{k n:Int}(h:DOk l k) (hn:0≤n∧n≤1000):Ok (fM n l k) fun r=>∃ws k',r=(ws,l,k',())∧(ws.length:Int)≤n∧(∀w∈ws,W16 w)∧DOk l k':=by
 unfold fM
 (simp (disch:=omega) only [dO,dY,dT,dU])
 (with_reducible refine fi (by assumption) (by omega) (by omega) (fun v0 k0 a0 b0 d0=>?_);try dsimp only)
 refine Ok.loop (P:=fun((c,l',k',s,_):Int×List Int×Int×List Int×Unit)=>l'=l∧DOk l k'∧0≤c∧c+s.length≤n∧∀x∈s,W16 x)
  (R:=fun((_,_,l',k',s,_):Int×Bool×List Int×Int×List Int×Unit)=>l'=l∧DOk l k'∧(s.length:Int)≤n∧∀x∈s,W16 x) (m:=fun s=>s.1.toNat) ⟨rfl,d0,a0,by simp;omega,ef⟩ (by unfold NN;dsimp only;omega) ?_ ?_
 ·rintro⟨c,l',k3,s,_⟩ ⟨rfl,hd3,hc0,hcs,hs⟩;dsimp only at *;unfold qA;dsimp only
  (with_reducible refine dE (fun hcc=>?_) fun hcc=>?_)
  ·(with_reducible refine GS (by assumption) (fun v1 k1 a1 b1 d1=>?_);try dsimp only)
   refine dF (dS (by simp;omega)) ?_
   (simp (disch:=omega) only [dO,dY,dT,dU])
   exact Ok.ret ⟨⟨rfl,by assumption,by omega,by rw[eW];simp;omega,iS hs (all_cons ⟨a1,b1⟩ ef)⟩,by dsimp only;omega⟩
  ·exact Ok.ret ⟨rfl,hd3,by dsimp only;omega,hs⟩
 ·rintro⟨a,b,l',k3,s,_⟩ ⟨rfl,hd3,hs,hw⟩;exact Ok.ret ⟨_,_,rfl,hs,hw,hd3⟩
structure kI (code:List DIn) (s:List Int) (d:List (List Int)):Prop where
 sz:zA s
 len:d.length=s.length
 fit:∀(j:Nat) x n,d[j]?=some x→s[j]?=some n→(x.length:Int)≤n
 num:∀x∈d,∀w∈x,W16 w
 clen:1≤code.length∧code.length≤64
 ins:∀i∈code,ic s.length code.length i
theorem HB{code:List DIn}{s:List Int}{d:List (List Int)}{l:List Int}{k:Int}(hp:kI code s d) :
 Ok (dQ fP NN ((code.length:Int),0,l,k,(),(),(),code,s,d,())) fun r=>∃a b c,r=(a,b,c,l,k,(),(),(),code,s,d,()):=by
 have:=Ok.loop (f:=fP) (n:=NN) (g:=fun t=>some t) (Q:=fun r=>∃a b c,r=(a,b,c,l,k,(),(),(),code,s,d,())) (s:=((code.length:Int),0,l,k,(),(),(),code,s,d,()))
  (P:=fun s'=>∃i:Int,s'=((code.length:Int),i,l,k,(),(),(),code,s,d,())∧0≤i∧i≤code.length) (R:=fun r=>∃a b c,r=(a,b,c,l,k,(),(),(),code,s,d,())) (m:=fun s=>(s.1 - s.2.1).toNat) ⟨0,rfl,by omega,by omega⟩ (by unfold NN;dsimp only;have:=hp.clen;omega) ?_ (fun t ht=>Ok.ret ht)
 ·obtain⟨a,e,h⟩:=this;refine⟨a,?_,h⟩
  cases hl:dQ fP NN ((code.length:Int),0,l,k,(),(),(),code,s,d,()) with
  | none=>rw[hl] at e;cases e
  | some x=>rw[hl] at e;exact e
 ·rintro _ ⟨i,rfl,hi0,hi1⟩;unfold fP;dsimp only;have hc:=hp.clen
  (with_reducible refine dE (fun hcc=>?_) fun hcc=>?_)
  ·refine Ok.bind (P:=fun r=>r=((code.length:Int),i,l,k,(),(),(),code,s,d,())) ?_ ?_
   ·(with_reducible refine Ok.nat (by omega) (fun j hj=>?_);try dsimp only)
    refine Ok.get (by omega) fun x hx=>?_;have hin:=hp.ins x (dN hx);rw[yB];simp only[oBS];refine Ok.cond (fun hjp=>?_) fun _=>Ok.ret rfl;refine Ok.nat (by omega) fun j2 hj2=>?_;refine Ok.get (by omega) fun y hy=>?_
    have hjj:j2=j:=by omega
    subst hjj;rw[hx] at hy
    injection hy with hy
    subst hy;have:=hin.jmp hjp;refine Ok.cond (fun hcc=>?_) (fun hcc=>?_)
    ·have h9:(x.2.2.2.2:Int)≥(code.length:Int):=of_decide_eq_true hcc;omega
    ·exact Ok.ret rfl
   ·rintro _ rfl;dsimp only
    (simp (disch:=omega) only [dO,dY,dT,dU])
    exact Ok.ret ⟨⟨i+1,rfl,by omega,by omega⟩,by dsimp only;omega⟩
  ·exact Ok.ret ⟨_,_,_,rfl⟩
theorem Iu{l:List Int}{k:Int}(h:DOk l k):Ok (lc l k) fun r=>∃code s d k',r=(code,s,d,l,k',())∧kI code s d∧DOk l k':=by
 unfold lc;refine (LJ h).bind ?_;rintro _ ⟨s,k1,rfl,hs,hd⟩;obtain⟨hs1,hs4,hsz⟩:=id hs;dsimp only;delta dK
 try dsimp only
 refine Ok.loop (P:=fun s'=>∃k' d,s'=((s.length:Int),(d.length:Int),l,k',(),(),(),(),s,d,())∧DOk l k'∧d.length≤s.length∧(∀(j:Nat) x n,d[j]?=some x→s[j]?=some n→(x.length:Int)≤n)∧∀x∈d,∀w∈x,W16 w)
  (R:=fun r=>∃a b c k' d,r=(a,b,c,l,k',(),(),(),(),s,d,())∧DOk l k'∧d.length=s.length∧(∀(j:Nat) x n,d[j]?=some x→s[j]?=some n→(x.length:Int)≤n)∧∀x∈d,∀w∈x,W16 w)
  (m:=fun s=>(s.1 - s.2.1).toNat) ⟨k1,[],rfl,hd,by simp,by simp,ef⟩ (by unfold NN;dsimp only;omega) ?_ ?_
 ·rintro _ ⟨k',d,rfl,hd',hdl,hfit,hnum⟩;unfold oi;dsimp only
  (with_reducible refine dE (fun hcc=>?_) fun hcc=>?_)
  ·(with_reducible refine Ok.nat (by omega) (fun j hj=>?_);try dsimp only)
   refine Ok.get (by omega) fun x hx=>?_;refine Ok.get (by omega) fun y hy=>?_
   have hj':j=d.length:=by omega
   subst hj';have hy2:=hsz y (dN hy);refine (oL hd' ⟨by omega,by omega⟩).bind ?_;rintro _ ⟨ws,k2,rfl,hwl,hww,hd2⟩;dsimp only;refine dF (dS (by simp;omega)) ?_
   (simp (disch:=omega) only [dO,dY,dT,dU])
   refine Ok.ret ⟨⟨k2,List.append d [ws],by rw[eW];simp,hd2,by rw[eW];simp;omega,?_,iS hnum (all_cons hww ef)⟩,by dsimp only;omega⟩;intro i x n hx hn;rw[show List.append d [ws]=d++[ws] from rfl,List.getElem?_append] at hx;split at hx
   ·exact hfit i x n hx hn
   ·rename_i hge
    have:i - d.length=0:=by
     rcases Nat.eq_zero_or_pos (i - d.length) with h | h
     ·exact h
     ·rw[oGN (by simp;omega)] at hx;cases hx
    have hi:i=d.length:=by omega
    subst hi;simp at hx;subst hx;rw[hy] at hn
    injection hn with hn
    omega
  ·exact Ok.ret ⟨_,_,_,_,_,rfl,hd',by omega,hfit,hnum⟩
 rintro _ ⟨a,b,c,k2,d,rfl,hd2,hdl,hfit,hnum⟩;dsimp only
 (with_reducible refine fi (by assumption) (by omega) (by omega) (fun v0 k0 a0 b0 d0=>?_);try dsimp only)
 (simp (disch:=omega) only [dO,dY,dT,dU])
 refine Ok.loop (P:=fun s'=>∃i k' code,s'=(i,l,k',(),(),(),code,s,d,())∧0≤i∧i≤12∧DOk l k'∧code.length≤62∧∀i∈code,ic s.length code.length i)
  (R:=fun r=>∃a b k' code,r=(a,b,l,k',(),(),(),code,s,d,())∧DOk l k'∧code.length≤62∧∀i∈code,ic s.length code.length i)
  (m:=fun s=>s.1.toNat) ⟨_,_,[],rfl,by omega,by omega,d0,by simp,ef⟩ (by unfold NN;dsimp only;omega) ?_ ?_
 ·rintro _ ⟨i,k',code,rfl,hi0,hi1,hd',hcl,hins⟩;unfold oh;dsimp only
  (with_reducible refine dE (fun hcc=>?_) fun hcc=>?_)
  ·refine Ok.bind (P:=fun r=>∃k' code,r=(i,l,k',(),(),(),code,s,d,())∧DOk l k'∧code.length≤62∧∀i∈code,ic s.length code.length i) ?_ ?_
   ·(simp (disch:=omega) only [dO,dY,dT,dU])
    refine (Oj hd' hs ⟨by omega,by omega⟩).bind ?_;rintro _ ⟨xs,k3,rfl,hx1,hx6,hxs,hd3⟩;dsimp only
    (simp (disch:=omega) only [dO,dY,dT,dU])
    (with_reducible refine dE (fun hcc=>?_) fun hcc=>?_)
    ·refine dF (dS (by omega)) ?_;refine Ok.ret ⟨_,_,rfl,hd3,by rw[eW];omega,?_⟩;rw[eW];exact iS (fun i hi=>(hins i hi).mono (by omega)) (fun i hi=>(hxs i hi).mono (by omega))
    ·exact Ok.ret ⟨_,_,rfl,hd3,hcl,hins⟩
   ·rintro _ ⟨k3,code2,rfl,hd3,hcl2,hins2⟩;dsimp only
    (simp (disch:=omega) only [dO,dY,dT,dU])
    exact Ok.ret ⟨⟨_,_,_,rfl,by omega,by omega,hd3,hcl2,hins2⟩,by dsimp only;omega⟩
  ·exact Ok.ret ⟨_,_,_,_,rfl,hd',hcl,hins⟩
 rintro _ ⟨a,b,k3,code,rfl,hd3,hcl,hins⟩;dsimp only;refine Ok.bind (P:=fun r=>∃k' code,r=(l,k',(),(),(),code,s,d,())∧DOk l k'∧code.length≤63∧∀i∈code,ic s.length (code.length+1) i) ?_ ?_
 ·(with_reducible refine fi (by assumption) (by omega) (by omega) (fun v1 k1 a1 b1 d1=>?_);try dsimp only)
  (with_reducible refine dE (fun hcc=>?_) fun hcc=>?_)
  ·(simp (disch:=omega) only [dO,dY,dT,dU])
   (with_reducible refine fi (by assumption) (by omega) (by omega) (fun v2 k2 a2 b2 d2=>?_);try dsimp only)
   refine dF (dS (by simp;omega)) ?_;refine Ok.ret ⟨_,_,rfl,d2,by rw[eW];simp;omega,?_⟩;rw[eW];exact iS (fun i hi=>(hins i hi).mono (by simp;omega)) (all_cons (Ox (by omega) (by simp;omega)) ef)
  ·(with_reducible refine dE (fun hcc=>?_) fun hcc=>?_)
   ·refine dF (dS (by simp;omega)) ?_;refine Ok.ret ⟨_,_,rfl,d1,by rw[eW];simp;omega,?_⟩;rw[eW];exact iS (fun i hi=>(hins i hi).mono (by simp;omega)) (all_cons Oa ef)
   ·exact Ok.ret ⟨_,_,rfl,d1,by omega,fun i hi=>(hins i hi).mono (by omega)⟩
 rintro _ ⟨k4,code2,rfl,hd4,hcl2,hins2⟩;dsimp only
 (with_reducible refine fi (by assumption) (by omega) (by omega) (fun v3 k3 a3 b3 d3=>?_);try dsimp only)
 simp only[Po,Nb,oBS];refine dF (dS (by simp;omega)) ?_;simp only[eW];refine Ok.cond (fun hc=>?_) fun _=>?_
 ·have hall:∀i∈List.append code2 [(1,0,0,0,v3),(23,0,0,0,0)],ic s.length (code2.length+1) i:=iS hins2 (all_cons (DP (by omega) (by omega)) (all_cons (xR (by omega)) ef));simp only[oDE] at hc
  have hcn:(code2.length:Int)+2 > 64:=by
   have:((code2.length + [((1:Int),(0:Int),(0:Int),(0:Int),v3),(23,0,0,0,0)].length:Nat):Int) > 64:=hc;simpa using this
  have h63:code2.length=63:=by omega
  refine dF (by rw[h63];rfl) ?_
  have hlen:(nv (List.append code2 [((1:Int),(0:Int),(0:Int),(0:Int),v3),(23,0,0,0,0)]) 0 (Nat.sub 64 0)).length=64:=by
   unfold nv;rw[oLT,List.drop_zero,eW,h63];rfl
  have hp:kI (nv (List.append code2 [((1:Int),(0:Int),(0:Int),(0:Int),v3),(23,0,0,0,0)]) 0 (Nat.sub 64 0)) s d:=by
   refine⟨hs,hdl,hfit,hnum,by rw[hlen];decide,fun i hi=>?_⟩;rw[hlen];refine (hall i ?_).mono (by omega);unfold nv at hi;exact List.mem_of_mem_drop (List.mem_of_mem_take hi)
  refine (HB (l:=l) (k:=_) hp).bind ?_;rintro _ ⟨a,b,c,rfl⟩;exact Ok.ret ⟨_,_,_,_,rfl,hp,d3⟩
 ·have hp:kI (List.append code2 [(1,0,0,0,v3),(23,0,0,0,0)]) s d:=by
   refine⟨hs,hdl,hfit,hnum,?_,?_⟩
   ·rw[eW];rename_i hc;have hcn:¬ ((code2.length + [((1:Int),(0:Int),(0:Int),(0:Int),v3),(23,0,0,0,0)].length:Nat):Int) > 64:=of_decide_eq_false hc;simp only[oLC,List.length_nil] at hcn ⊢;omega
   ·rw[eW];exact iS (fun i hi=>(hins2 i hi).mono (by simp)) (all_cons (DP (by omega) (by omega)) (all_cons (xR (by omega)) ef))
  have hf:=HB (l:=l) (k:=k3) hp;rw[eW] at hf;refine hf.bind ?_;rintro _ ⟨a,b,c,rfl⟩;exact Ok.ret ⟨_,_,_,_,rfl,hp,d3⟩
theorem HS{P:Int→Prop}{s:List Int}{i:Nat}{x:Int}(h:∀(j:Nat) y,j < i→s[j]?=some y→P y) (hx:s[i]?=some x) (hp:P x):∀(j:Nat) y,j < i+1→s[j]?=some y→P y:=by
 intro j y hj hy;by_cases hji:j=i
 ·subst hji;rw[hx] at hy
  injection hy with hy
  subst hy;exact hp
 ·exact h j y (by omega) hy
theorem Ju{s:List Int}(hl:s.length≤1000):Ok (gN s) fun r=>r.1=true↔zA s:=by
 unfold gN;delta dK
 try dsimp only
 obtain⟨t,e,ht⟩:=fN (f:=lN) (n:=NN) (s:=(s,s,(s.length:Int),0,())) (P:=fun s'=>∃i:Nat,s'=(s,s,(s.length:Int),(i:Int),())∧i≤s.length∧∀(j:Nat) y,j < i→s[j]?=some y→1≤y∧y≤32)
  (R:=fun r=>(r=.inl (false,())∧∃y∈s,¬ (1≤y∧y≤32))∨((∃a b c d,r=.inr (s,a,b,c,d,()))∧∀y∈s,1≤y∧y≤32)) (m:=fun s'=>(s'.2.2.1 - s'.2.2.2.1).toNat) ⟨0,rfl,by omega,fun j y hj=>by omega⟩ (by unfold NN;dsimp only;omega) (by
   rintro _ ⟨i,rfl,hi,hall⟩;unfold lN;dsimp only
   (with_reducible refine dE (fun hcc=>?_) fun hcc=>?_)
   ·rw[dL];simp only[oBS];refine Ok.get (by omega) fun x hx=>?_
    (with_reducible refine dE (fun hcd=>?_) fun hcd=>?_)
    ·exact Ok.ret (.inl ⟨rfl,x,dN hx,by omega⟩)
    ·(with_reducible refine dE (fun hce=>?_) fun hce=>?_)
     ·exact Ok.ret (.inl ⟨rfl,x,dN hx,by omega⟩)
     ·(simp (disch:=omega) only [dO,dY,dT,dU])
      exact Ok.ret ⟨⟨i+1,rfl,by omega,HS hall hx ⟨by omega,by omega⟩⟩,by dsimp only;omega⟩
   ·refine Ok.ret (.inr ⟨⟨_,_,_,_,rfl⟩,fun y hy=>?_⟩);obtain⟨j,hj⟩:=List.getElem?_of_mem hy
    exact hall j y (by have:=(oGS hj).1;omega) hj)
 rw[e];rcases ht with ⟨rfl,y,hy,hn⟩ | ⟨⟨a,b,c,d,rfl⟩,hall⟩
 ·exact Ok.ret ⟨fun h=>(by cases h),fun h=>absurd (h.2.2 y hy) hn⟩
 ·dsimp only
  (with_reducible refine dE (fun hcc=>?_) fun hcc=>?_)
  ·exact Ok.ret ⟨fun h=>⟨by omega,(by have:=of_decide_eq_true h;omega),hall⟩,fun h=>oDT (by have:=h.2.1;omega)⟩
  ·exact Ok.ret ⟨fun h=>(by cases h),fun h=>by have:=h.1;omega⟩
abbrev VS(xs:List Int):Prop:=zA xs
theorem Gt{l:List Int}{k:Nat}(h:k < l.length):l.getD k 0=l[k]:=by simp[List.getD,h]
def vz(bs ss:List Int) (i:Nat):Prop:=
 0≤bs.getD i 0∧bs.getD i 0+ss.getD i 0≤512∧∀k,k < i→¬ (bs.getD i 0≤bs.getD k 0+ss.getD k 0∧bs.getD k 0≤bs.getD i 0+ss.getD i 0)
def LV(bs ss:List Int):Prop:=VS ss∧bs.length=ss.length∧∀i,i < bs.length→vz bs ss i
theorem VS.at_{ss:List Int}(h:VS ss) {i:Nat}(hi:i < ss.length):1≤ss[i]∧ss[i]≤32:=h.2.2 _ (List.getElem_mem hi)
def sg(ss:List Int) (seed:Int):Nat→List Int×Int
 | 0=>(List.replicate ss.length 0,1+seed / ss.length % 50)
 | k+1=>((sg ss seed k).1.set (((k+seed) % ss.length).toNat) (sg ss seed k).2,(sg ss seed k).2+(ss.getD ((k+seed) % ss.length).toNat 0+1+seed / (50*ss.length) % 40))
def mkB(ss:List Int) (seed:Int):List Int:=(sg ss seed ss.length).1
theorem Ms(ss:List Int) (seed:Int) (k:Nat):(sg ss seed k).1.length=ss.length:=by
 induction k with
 | zero=>simp[sg]
 | succ k ih=>simp[sg,ih]
theorem VS.getD{ss:List Int}(h:VS ss) {i:Nat}(hi:i < ss.length):1≤ss.getD i 0∧ss.getD i 0≤32:=by rw[Gt hi];exact h.at_ hi
theorem Nf{n k:Nat}{seed:Int}(hn:1≤n):0≤((k:Int)+seed) % n∧((k:Int)+seed) % n < n:=
 ⟨Int.emod_nonneg _ (by omega),Int.emod_lt_of_pos _ (by omega)⟩
theorem On{ss:List Int}{seed:Int}(h:VS ss) (hs:0≤seed) (k:Nat):1≤(sg ss seed k).2∧(sg ss seed k).2≤50+72*k:=by
 induction k with
 | zero=>simp only[sg];have:=Int.emod_nonneg (seed / (ss.length:Int)) (show (50:Int)≠0 by decide);have:=Int.emod_lt_of_pos (seed / (ss.length:Int)) (show (0:Int) < 50 by decide);omega
 | succ k ih=>
  simp only[sg];have hr:=Nf (k:=k) (seed:=seed) h.1;have:=h.getD (i:=(((k:Int)+seed) % ss.length).toNat) (by omega);have:=Int.emod_nonneg (seed / (50*(ss.length:Int))) (show (40:Int)≠0 by decide);have:=Int.emod_lt_of_pos (seed / (50*(ss.length:Int))) (show (0:Int) < 40 by decide);omega
theorem KJ{ss:List Int}(h0:1≤ss.length) (h1:ss.length≤4):(∃a,ss=[a])∨(∃a b,ss=[a,b])∨(∃a b c,ss=[a,b,c])∨(∃a b c d,ss=[a,b,c,d]):=by
 match ss,h0,h1 with
 | [a],_,_=>exact .inl ⟨a,rfl⟩
 | [a,b],_,_=>exact .inr (.inl ⟨a,b,rfl⟩)
 | [a,b,c],_,_=>exact .inr (.inr (.inl ⟨a,b,c,rfl⟩))
 | [a,b,c,d],_,_=>exact .inr (.inr (.inr ⟨a,b,c,d,rfl⟩))
theorem xq{P:Nat→Prop}(h0:P 0):∀i,i < 1→P i:=fun i hi=>by
 match i,hi with
 | 0,_=>exact h0
theorem Bt{P:Nat→Prop}(h0:P 0) (h1:P 1):∀i,i < 2→P i:=fun i hi=>by
 match i,hi with
 | 0,_=>exact h0
 | 1,_=>exact h1
theorem Hj{P:Nat→Prop}(h0:P 0) (h1:P 1) (h2:P 2):∀i,i < 3→P i:=fun i hi=>by
 match i,hi with
 | 0,_=>exact h0
 | 1,_=>exact h1
 | 2,_=>exact h2
theorem L9{P:Nat→Prop}(h0:P 0) (h1:P 1) (h2:P 2) (h3:P 3):∀i,i < 4→P i:=fun i hi=>by
 match i,hi with
 | 0,_=>exact h0
 | 1,_=>exact h1
 | 2,_=>exact h2
 | 3,_=>exact h3
def Lx(b s:Int):Prop:=0≤b∧b+s≤512
def fX(b s b' s':Int):Prop:=¬ (b≤b'+s'∧b'≤b+s)
theorem LV1{a x:Int}(hv:VS [a]) (h:Lx x a):LV [x] [a]:=
 ⟨hv,rfl,xq ⟨h.1,h.2,fun k hk=>by omega⟩⟩
theorem LV2{a b x y:Int}(hv:VS [a,b]) (h:Lx x a) (h':Lx y b) (h1:fX y b x a):LV [x,y] [a,b]:=
 ⟨hv,rfl,Bt ⟨h.1,h.2,fun k hk=>by omega⟩ ⟨h'.1,h'.2,xq h1⟩⟩
theorem LV3{a b c x y z:Int}(hv:VS [a,b,c]) (h:Lx x a) (h':Lx y b) (h'':Lx z c) (h1:fX y b x a) (h2:fX z c x a) (h3:fX z c y b):LV [x,y,z] [a,b,c]:=
 ⟨hv,rfl,Hj ⟨h.1,h.2,fun k hk=>by omega⟩ ⟨h'.1,h'.2,xq h1⟩ ⟨h''.1,h''.2,Bt h2 h3⟩⟩
theorem LV4{a b c d x y z u:Int}(hv:VS [a,b,c,d]) (h:Lx x a) (h':Lx y b) (h'':Lx z c) (h''':Lx u d) (h1:fX y b x a) (h2:fX z c x a) (h3:fX z c y b) (h4:fX u d x a) (h5:fX u d y b) (h6:fX u d z c):LV [x,y,z,u] [a,b,c,d]:=
 ⟨hv,rfl,L9 ⟨h.1,h.2,fun k hk=>by omega⟩ ⟨h'.1,h'.2,xq h1⟩ ⟨h''.1,h''.2,Bt h2 h3⟩ ⟨h'''.1,h'''.2,Hj h4 h5 h6⟩⟩
theorem PN{ss:List Int}(hv:VS ss) {seed:Int}(hs:0≤seed):LV (mkB ss seed) ss:=by
 have hv0:=hv;rcases KJ hv.1 hv.2.1 with ⟨a,rfl⟩ | ⟨a,b,rfl⟩ | ⟨a,b,c,rfl⟩ | ⟨a,b,c,d,rfl⟩
 ·obtain⟨_,_,hx⟩:=hv;have ha:=hx a (by simp)
  have e0:(((0:Nat):Int)+seed) % 1=0:=by omega
  have hB:mkB [a] seed=[1+seed / 1 % 50]:=by simp[mkB,sg,List.replicate]
  rw[hB];exact LV1 hv0 ⟨by omega,by omega⟩
 ·obtain⟨_,_,hx⟩:=hv;have ha:=hx a (by simp);have hb:=hx b (by simp);rcases (show seed % 2=0∨seed % 2=1 by omega) with ht | ht
  ·have e1:(1+seed) % 2=1:=by omega
   simp only[mkB,sg,oLC,List.length_nil,List.replicate];simp[ht,e1];exact LV2 hv0 ⟨by omega,by omega⟩ ⟨by omega,by omega⟩ (by unfold fX;omega)
  ·have e1:(1+seed) % 2=0:=by omega
   simp only[mkB,sg,oLC,List.length_nil,List.replicate];simp[ht,e1];exact LV2 hv0 ⟨by omega,by omega⟩ ⟨by omega,by omega⟩ (by unfold fX;omega)
 ·obtain⟨_,_,hx⟩:=hv;have ha:=hx a (by simp);have hb:=hx b (by simp);have hc:=hx c (by simp);rcases (show seed % 3=0∨seed % 3=1∨seed % 3=2 by omega) with ht | ht | ht
  ·have e1:(1+seed) % 3=1:=by omega
   have e2:(2+seed) % 3=2:=by omega
   simp only[mkB,sg,oLC,List.length_nil,List.replicate];simp[ht,e1,e2];exact LV3 hv0 ⟨by omega,by omega⟩ ⟨by omega,by omega⟩ ⟨by omega,by omega⟩ (by unfold fX;omega) (by unfold fX;omega) (by unfold fX;omega)
  ·have e1:(1+seed) % 3=2:=by omega
   have e2:(2+seed) % 3=0:=by omega
   simp only[mkB,sg,oLC,List.length_nil,List.replicate];simp[ht,e1,e2];exact LV3 hv0 ⟨by omega,by omega⟩ ⟨by omega,by omega⟩ ⟨by omega,by omega⟩ (by unfold fX;omega) (by unfold fX;omega) (by unfold fX;omega)
  ·have e1:(1+seed) % 3=0:=by omega
   have e2:(2+seed) % 3=1:=by omega
   simp only[mkB,sg,oLC,List.length_nil,List.replicate];simp[ht,e1,e2];exact LV3 hv0 ⟨by omega,by omega⟩ ⟨by omega,by omega⟩ ⟨by omega,by omega⟩ (by unfold fX;omega) (by unfold fX;omega) (by unfold fX;omega)
 ·obtain⟨_,_,hx⟩:=hv;have ha:=hx a (by simp);have hb:=hx b (by simp);have hc:=hx c (by simp);have hd:=hx d (by simp)
  have hq:∀q g:Int,q=1+seed / 4 % 50→g=seed / (50*4) % 40→1≤q∧q≤50∧0≤g∧g < 40:=fun q g e e'=>by subst e;subst e';omega
  rcases (show seed % 4=0∨seed % 4=1∨seed % 4=2∨seed % 4=3 by omega) with ht | ht | ht | ht
  ·have e1:(1+seed) % 4=1:=by omega
   have e2:(2+seed) % 4=2:=by omega
   have e3:(3+seed) % 4=3:=by omega
   simp only[mkB,sg,oLC,List.length_nil,List.replicate];simp[ht,e1,e2,e3];exact LV4 hv0 ⟨by omega,by omega⟩ ⟨by omega,by omega⟩ ⟨by omega,by omega⟩ ⟨by omega,by omega⟩ (by unfold fX;omega) (by unfold fX;omega) (by unfold fX;omega) (by unfold fX;omega) (by unfold fX;omega) (by unfold fX;omega)
  ·have e1:(1+seed) % 4=2:=by omega
   have e2:(2+seed) % 4=3:=by omega
   have e3:(3+seed) % 4=0:=by omega
   simp only[mkB,sg,oLC,List.length_nil,List.replicate];simp[ht,e1,e2,e3];exact LV4 hv0 ⟨by omega,by omega⟩ ⟨by omega,by omega⟩ ⟨by omega,by omega⟩ ⟨by omega,by omega⟩ (by unfold fX;omega) (by unfold fX;omega) (by unfold fX;omega) (by unfold fX;omega) (by unfold fX;omega) (by unfold fX;omega)
  ·have e1:(1+seed) % 4=3:=by omega
   have e2:(2+seed) % 4=0:=by omega
   have e3:(3+seed) % 4=1:=by omega
   simp only[mkB,sg,oLC,List.length_nil,List.replicate];simp[ht,e1,e2,e3];exact LV4 hv0 ⟨by omega,by omega⟩ ⟨by omega,by omega⟩ ⟨by omega,by omega⟩ ⟨by omega,by omega⟩ (by unfold fX;omega) (by unfold fX;omega) (by unfold fX;omega) (by unfold fX;omega) (by unfold fX;omega) (by unfold fX;omega)
  ·have e1:(1+seed) % 4=0:=by omega
   have e2:(2+seed) % 4=1:=by omega
   have e3:(3+seed) % 4=2:=by omega
   simp only[mkB,sg,oLC,List.length_nil,List.replicate];simp[ht,e1,e2,e3];exact LV4 hv0 ⟨by omega,by omega⟩ ⟨by omega,by omega⟩ ⟨by omega,by omega⟩ ⟨by omega,by omega⟩ (by unfold fX;omega) (by unfold fX;omega) (by unfold fX;omega) (by unfold fX;omega) (by unfold fX;omega) (by unfold fX;omega)
theorem AZ{α:Type}(l:List α) (i:Nat) (a:α):List.modify l i (fun _=>a)=l.set i a:=by
 apply List.ext_getElem?;intro j;rw[List.getElem?_modify,List.getElem?_set];by_cases h:i=j
 ·subst h;simp only[if_true];by_cases hl:i < l.length
  ·simp[hl]
  ·simp[hl,oGN (Nat.le_of_not_lt hl)]
 ·simp[h]
theorem Ot{s:List Int}{seed:Int}(hs:zA s) (h0:0≤seed) (h1:seed≤1073741824):Ok (nL s seed) fun r=>∃key,r=(mkB s seed,key,0,())∧W16 key:=by
 obtain⟨hs1,hs4,hsz⟩:=id hs;unfold nL;delta dK
 try dsimp only
 refine Ok.bind (P:=fun r=>r=(s,seed,false,(),0,())) ?_ ?_
 ·refine (Ju (by omega)).bind ?_;rintro⟨v,_⟩ hv;have hv:v=true:=hv.2 hs;subst hv;simp only[oNT,oCF]
  (with_reducible refine dE (fun hcb=>?_) fun hcb=>?_)
  ·omega
  ·exact Ok.ret (by rw[oDF (by omega)])
 rintro _ rfl;dsimp only;refine Ok.cond (fun h=>by cases h) fun _=>?_;rw[dL];simp only[oBS];refine dF (by unfold sQ;rw[oBA];exact⟨oDT rfl,oDT (by omega)⟩) ?_;refine dF (by rw[bne_iff_ne];omega) ?_;have hd1:Int.tdiv seed s.length=seed / s.length:=Int.tdiv_eq_ediv_of_nonneg h0;have hq:0≤seed / (s.length:Int)∧seed / (s.length:Int)≤seed:=⟨Int.ediv_nonneg h0 (by omega),Int.ediv_le_self _ h0⟩;have hm1:Int.tmod (seed / (s.length:Int)) 50=seed / (s.length:Int) % 50:=Int.tmod_eq_emod_of_nonneg hq.1
 have hm2:0≤seed / (s.length:Int) % 50∧seed / (s.length:Int) % 50 < 50:=by omega
 rw[hd1,dO (x:=seed / (s.length:Int)) (by omega) (by omega),hm1,dO (x:=1+seed / (s.length:Int) % 50) (by omega) (by omega)]
 have hkey:W16 (wk .u16 (w64 (40503*seed))):=by
  unfold wk;rw[Bk];exact⟨by omega,by omega⟩
 generalize wk .u16 (w64 (40503*seed))=key at hkey
 refine Ok.loop (P:=fun s'=>∃k:Nat,s'=(s,seed,(s.length:Int),(sg s seed k).2,(s.length:Int),(k:Int),(),0,(sg s seed k).1,key,())∧k≤s.length) (R:=fun r=>∃a b c d e f g h,r=(a,b,c,d,e,f,g,(),h,(sg s seed s.length).1,key,()))
  (m:=fun s'=>(s'.2.2.2.2.1 - s'.2.2.2.2.2.1).toNat) ⟨0,rfl,by omega⟩ (by unfold NN;dsimp only;omega) ?_ ?_
 ·rintro _ ⟨k,rfl,hk⟩;unfold qx;dsimp only;have hb:=On hs h0 k
  (with_reducible refine dE (fun hcc=>?_) fun hcc=>?_)
  ·have hr:=Nf (k:=k) (seed:=seed) hs1;rw[dO (x:=(k:Int)+seed) (by omega) (by omega)];refine dF (by rw[bne_iff_ne];omega) ?_;rw[Int.tmod_eq_emod_of_nonneg (show 0≤(k:Int)+seed by omega)];refine Ok.nat hr.1 fun r hrr=>?_;have hl:=Ms s seed k;refine Ok.get (by omega) fun x hx=>?_;refine Ok.get (by omega) fun y hy=>?_;refine Ok.nat hr.1 fun r2 hrr2=>?_
   have:r2=r:=by omega
   subst this;refine Ok.get (by omega) fun z hz=>?_;have hz2:=hsz z (dN hz);rw[dO (x:=z+1) (by omega) (by omega),dO (x:=50*(s.length:Int)) (by omega) (by omega)];refine dF (by rw[bne_iff_ne];omega) ?_;have hd2:Int.tdiv seed (50*(s.length:Int))=seed / (50*s.length):=Int.tdiv_eq_ediv_of_nonneg h0;have hq2:0≤seed / (50*(s.length:Int))∧seed / (50*(s.length:Int))≤seed:=⟨Int.ediv_nonneg h0 (by omega),Int.ediv_le_self _ h0⟩;have hm3:Int.tmod (seed / (50*(s.length:Int))) 40=seed / (50*s.length) % 40:=Int.tmod_eq_emod_of_nonneg hq2.1;rw[hd2,dO (x:=seed / (50*(s.length:Int))) (by omega) (by omega),hm3];generalize hg:seed / (50*(s.length:Int)) % 40=g
   have hg2:0≤g∧g < 40:=by omega
   rw[dO (x:=z+1+g) (by omega) (by omega),dO (x:=(sg s seed k).2+(z+1+g)) (by omega) (by omega),dO (x:=(k:Int)+1) (by omega) (by omega),AZ]
   have e1:(sg s seed (k+1)).1=(sg s seed k).1.set r2 (sg s seed k).2:=by
    simp only[sg];rw[hrr];rfl
   have e2:(sg s seed (k+1)).2=(sg s seed k).2+(z+1+g):=by
    simp only[sg];rw[hrr,hg,oTN,oGD,hz];rfl
   refine Ok.ret ⟨⟨k+1,?_,by omega⟩,by dsimp only;omega⟩;rw[e1,e2];rfl
  ·have:k=s.length:=by omega
   subst this;exact Ok.ret ⟨_,_,_,_,_,_,_,_,rfl⟩
 ·rintro _ ⟨a,b,c,d,e,f,g,h,rfl⟩;exact Ok.ret ⟨key,rfl,hkey⟩
theorem mH{S T:Type}{f:S→Option (S⊕T)}(st:Nat→S) {n N:Nat}{t:T}(hn:n < N) (h:∀i,i < n→Ok (f (st i)) (·=.inl (st (i+1)))) (he:Ok (f (st n)) (·=.inr t)):dQ f N (st 0)=some t:=by
 have key:∀k i,i+k=n→∀N,k < N→dQ f N (st i)=some t:=by
  intro k
  induction k with
  | zero=>
   intro i hi N hN;obtain⟨x,e,hx⟩:=he
   have:i=n:=by omega
   subst this;obtain⟨N',rfl⟩:∃N',N=N'+1:=⟨N - 1,by omega⟩;simp only[dQ,e,hx,oBS]
  | succ k ih=>
   intro i hi N hN;obtain⟨x,e,hx⟩:=h i (by omega);obtain⟨N',rfl⟩:∃N',N=N'+1:=⟨N - 1,by omega⟩;simp only[dQ,e,hx,oBS];exact ih (i+1) (by omega) N' (by omega)
 exact key n 0 (by omega) N hn
theorem eL{α:Type}{o:Option α}{a:α}(h:Ok o (·=a)):o=some a:=by
 obtain⟨x,e,rfl⟩:=h;exact e
theorem d9{l:List Int}{k:Nat}{x:Int}(h:l[k]?=some x):l.getD k 0=x:=by rw[oGD,h];rfl
theorem AJ{s:List Int}(h:zA s):gN s=some (true,()):=by
 obtain⟨⟨v,u⟩,e,hv⟩:=Ju (s:=s) (by have:=h.2.1;omega);have hv:v=true:=hv.2 h;rw[e,hv]
theorem rA{bs ss:List Int}{key:Int}(h:LV bs ss):gL bs key ss=some (true,()):=by
 obtain⟨hs,hl,hr⟩:=h;have h4:=hs.2.1;unfold gL;rw[AJ hs];delta dK;simp only[oBS,oNT,oCF,hl,bne_self_eq_false]
 have e:dQ jj NN (ss,bs,(ss.length:Int),0,bs,key,())=some (.inr (ss,bs,(ss.length:Int),(ss.length:Int),false,bs,key,())):=by
  refine mH (st:=fun i=>(ss,bs,(ss.length:Int),(i:Int),bs,key,())) (n:=ss.length) (by unfold NN;omega) ?_ ?_
  ·intro i hi;unfold jj;dsimp only;have hri:=hr i (by omega);unfold vz at hri
   (with_reducible refine dE (fun hca=>?_) fun hca=>?_)
   ·rw[dL];simp only[oBS];refine Ok.get (by omega) fun b hb=>?_;rw[d9 hb] at hri
    (with_reducible refine dE (fun hcb=>?_) fun hcb=>?_)
    ·omega
    ·refine Ok.get (by omega) fun z hz=>?_;rw[d9 hz] at hri;have hz2:=hs.2.2 z (dN hz)
     (simp (disch:=omega) only [dO,dY,dT,dU])
     (with_reducible refine dE (fun hcc=>?_) fun hcc=>?_)
     ·omega
     ·refine dF (by unfold hY;simp;omega) ?_
      have hwl:(nv bs 0 (Nat.sub i 0)).length=i:=by unfold nv;rw[oLT,List.drop_zero];show min i _=i;omega
      rw[hwl]
      have e:dQ jk NN (ss,(i:Int),b,bs,(ss.length:Int),(i:Int),nv bs 0 (Nat.sub i 0),(i:Int),0,bs,key,())=some (.inr (ss,(i:Int),b,bs,(ss.length:Int),(i:Int),nv bs 0 (Nat.sub i 0),(i:Int),(i:Int),false,bs,key,())):=by
       refine mH (st:=fun j=>(ss,(i:Int),b,bs,(ss.length:Int),(i:Int),nv bs 0 (Nat.sub i 0),(i:Int),(j:Int),bs,key,())) (n:=i) (by unfold NN;omega) ?_ ?_
       ·intro j hj;unfold jk;dsimp only
        (with_reducible refine dE (fun hca=>?_) fun hca=>?_)
        ·rw[dL,dL];simp only[oBS]
         have hx:(dH (nv bs 0 (Nat.sub i 0)) j)=bs[j]?:=by
          unfold dH nv;rw[List.getElem?_take,List.drop_zero];exact oIP hj
         rw[hx];obtain⟨c,hc⟩:∃c,bs[j]?=some c:=⟨_,oGE (by omega)⟩;obtain⟨y,hy⟩:∃y,ss[j]?=some y:=⟨_,oGE (by omega)⟩;have hy2:=hs.2.2 y (dN hy);have hz':dH ss i=some z:=hz;have hy':dH ss j=some y:=hy;rw[hc,hz',hy'];simp only[oBS];have hrj:=(hr j (by omega)).1;have hrj2:=(hr j (by omega)).2.1;rw[d9 hc] at hrj hrj2;rw[d9 hy] at hrj2;have hap:=hri.2.2 j hj;rw[d9 hc,d9 hy] at hap;rw[dO (x:=b+z) (by omega) (by omega),dO (x:=c+y) (by omega) (by omega)];by_cases h1:b+z≥c
         ·have h2:¬ c+y≥b:=by omega
          simp only[h1,h2,decide_true,decide_false,oCT,oCF]
          (simp (disch:=omega) only [dO,dY,dT,dU])
          exact Ok.ret rfl
         ·simp only[h1,decide_false,oCF]
          (simp (disch:=omega) only [dO,dY,dT,dU])
          exact Ok.ret rfl
        ·omega
       ·unfold jk;dsimp only
        (with_reducible refine dE (fun hca=>?_) fun hca=>?_)
        ·omega
        ·exact Ok.ret rfl
      rw[e]
      (simp (disch:=omega) only [dO,dY,dT,dU])
      exact Ok.ret rfl
   ·omega
  ·unfold jj;dsimp only
   (with_reducible refine dE (fun hca=>?_) fun hca=>?_)
   ·omega
   ·exact Ok.ret rfl
 rw[e]
theorem KU{n m o a b c i:Int}(h:ic n m (o,a,b,c,i)) (hn:n≤4) (hm:m≤64):mb o a b c i=some (true,()):=by
 obtain⟨⟨o0,o1⟩,⟨a0,a1,a2⟩,⟨b0,b1,b2⟩,⟨c0,c1,c2⟩,⟨i0,i1,i2⟩,hl,hs,hj⟩:=h;dsimp only at *
 have step:∀(k:Nat) (x:Int) (u:Bool),k < 3→[a,b,c][k]?=some x→(k=0→u=oR o)→(k=1→u=oQ o)→(k=2→u=oP o)→0≤x→x < 8→(u=false→x=0) →
  Ok (jh (3,(k:Int),o,a,b,c,i,oR o,oQ o,oP o,oO o,[a,b,c],())) (·=.inl (3,((k+1:Nat):Int),o,a,b,c,i,oR o,oQ o,oP o,oO o,[a,b,c],())):=by
  intro k x u hk hx h0 h1 h2 hx0 hx1 hx2;unfold jh;dsimp only
  (with_reducible refine dE (fun hca=>?_) fun hca=>?_)
  ·rw[dL];simp only[oBS];rw[show dH [a,b,c] k=some x from hx];simp only[oBS];rw[oDF (show ¬ x < 0 by omega),oDF (show ¬ x≥8 by omega)];simp only[oCF];have fin:Ok (some ((3:Int),(k:Int),false,o,a,b,c,i,oR o,oQ o,oP o,oO o,[a,b,c],())) (·=((3:Int),(k:Int),false,o,a,b,c,i,oR o,oQ o,oP o,oO o,[a,b,c],())):=Ok.ret rfl
   have fin2:u=false→(x != 0)=false:=fun h=>by rw[hx2 h];rfl
   refine Ok.bind (P:=(·=((3:Int),(k:Int),false,o,a,b,c,i,oR o,oQ o,oP o,oO o,[a,b,c],()))) ?_ ?_
   ·rcases (show k=0∨k=1∨k=2 by omega) with rfl | rfl | rfl
    ·rw[← h0 rfl] at fin ⊢;refine dF rfl ?_;refine Ok.cond (fun hu=>?_) fun _=>fin;rw[fin2 (by simpa using hu)];exact fin
    ·rw[← h1 rfl] at fin ⊢;refine Ok.cond (fun hu=>by cases hu) fun _=>dF rfl (Ok.cond (fun hu=>?_) fun _=>fin);rw[fin2 (by simpa using hu)];exact fin
    ·rw[← h2 rfl] at fin ⊢;refine Ok.cond (fun hu=>by cases hu) fun _=>Ok.cond (fun hu=>by cases hu) fun _=>dF rfl (Ok.cond (fun hu=>?_) fun _=>fin);rw[fin2 (by simpa using hu)];exact fin
   ·rintro _ rfl;dsimp only;rw[dO (x:=(k:Int)+1) (by omega) (by omega)];exact Ok.ret rfl
  ·omega
 have e:dQ jh NN (3,0,o,a,b,c,i,oR o,oQ o,oP o,oO o,[a,b,c],())=some (.inr (3,3,false,o,a,b,c,i,oR o,oQ o,oP o,oO o,[a,b,c],())):=by
  refine mH (st:=fun k=>(3,(k:Int),o,a,b,c,i,oR o,oQ o,oP o,oO o,[a,b,c],())) (n:=3) (by unfold NN;omega) ?_ ?_
  ·intro k hk;rcases (show k=0∨k=1∨k=2 by omega) with rfl | rfl | rfl
   ·exact step 0 a _ (by omega) rfl (fun _=>rfl) (by omega) (by omega) a0 a1 a2
   ·exact step 1 b _ (by omega) rfl (by omega) (fun _=>rfl) (by omega) b0 b1 b2
   ·exact step 2 c _ (by omega) rfl (by omega) (by omega) (fun _=>rfl) c0 c1 c2
  ·exact Ok.ret rfl
 refine eL ?_;unfold mb;rw[oDF (show ¬ o < 0 by omega),oDF (show ¬ o > 24 by omega),Jv o0 o1];simp only[oCF,oBS];rw[show dK [a,b,c].length=3 from rfl,e];dsimp only;rw[oDF (show ¬ i < 0 by omega),oDF (show ¬ i > 65535 by omega)];simp only[oCF];refine Ok.bind (P:=(·=(false,o,a,b,c,i,()))) ?_ ?_
 ·refine Ok.cond (fun hu=>?_) fun _=>Ok.ret rfl;exact Ok.ret (by rw[i2 (by simpa using hu)];rfl)
 rintro _ rfl;dsimp only;rw[yB];simp only[oCF,oBS];refine Ok.cond (fun hu=>?_) fun _=>?_
 ·exact Ok.ret (by rw[oDT (by have:=hj hu;omega)])
 ·(with_reducible refine dE (fun hcc=>?_) fun hcc=>?_)
  ·exact Ok.ret (by rw[oDT (by have:=hl hcc;omega)])
  ·(with_reducible refine dE (fun hcd=>?_) fun hcd=>?_)
   ·exact Ok.ret (by rw[oDT (by have:=hs hcd;omega)])
   ·exact Ok.ret rfl
theorem Dd{code:List DIn}{s:List Int}{d:List (List Int)}(h:kI code s d):iG code s d=some (0,()):=by
 have hs:=h.sz;have hs4:=hs.2.1;have hc:=h.clen;have hl:=h.len
 have e0:dQ jg NN (d,(d.length:Int),0,code,s,d,())=some (.inr (d,(d.length:Int),(d.length:Int),false,code,s,d,())):=by
  refine mH (st:=fun k=>(d,(d.length:Int),(k:Int),code,s,d,())) (n:=d.length) (by unfold NN;omega) ?_ ?_
  ·intro k hk;unfold jg;dsimp only
   (with_reducible refine dE (fun hca=>?_) fun hca=>?_)
   ·rw[dL];delta dK;simp only[oBS];refine Ok.get (by omega) fun x hx=>?_;refine Ok.get (by omega) fun y hy=>?_;have:=h.fit k x y hx hy
    (with_reducible refine dE (fun hcb=>?_) fun hcb=>?_)
    ·omega
    ·(simp (disch:=omega) only [dO,dY,dT,dU])
     exact Ok.ret rfl
   ·omega
  ·unfold jg;dsimp only
   (with_reducible refine dE (fun hca=>?_) fun hca=>?_)
   ·omega
   ·exact Ok.ret rfl
 have e1:dQ jf NN (code,(code.length:Int),0,code,s,d,())=some (.inr (code,(code.length:Int),(code.length:Int),false,code,s,d,())):=by
  refine mH (st:=fun k=>(code,(code.length:Int),(k:Int),code,s,d,())) (n:=code.length) (by unfold NN;omega) ?_ ?_
  ·intro k hk;unfold jf;dsimp only
   (with_reducible refine dE (fun hca=>?_) fun hca=>?_)
   ·rw[dL];simp only[oBS];refine Ok.get (by omega) fun x hx=>?_;obtain⟨o,a,b,c,i⟩:=x;rw[KU (h.ins _ (dN hx)) (by omega) (by omega)];simp only[oBS,oNT,oCF]
    (simp (disch:=omega) only [dO,dY,dT,dU])
    exact Ok.ret rfl
   ·omega
  ·unfold jf;dsimp only
   (with_reducible refine dE (fun hca=>?_) fun hca=>?_)
   ·omega
   ·exact Ok.ret rfl
 have e3:dQ je NN (code,(code.length:Int),0,code,s,d,())=some (.inr (code,(code.length:Int),(code.length:Int),false,code,s,d,())):=by
  refine mH (st:=fun k=>(code,(code.length:Int),(k:Int),code,s,d,())) (n:=code.length) (by unfold NN;omega) ?_ ?_
  ·intro k hk;unfold je;dsimp only
   (with_reducible refine dE (fun hca=>?_) fun hca=>?_)
   ·rw[dL];simp only[oBS];refine Ok.get (by omega) fun x hx=>?_;have hp:=h.ins x (dN hx);rw[yB];simp only[oBS];refine Ok.bind (P:=(·=(code,(code.length:Int),(k:Int),false,code,s,d,()))) ?_ ?_
    ·refine Ok.cond (fun hj=>?_) fun _=>?_
     ·have:=hp.jmp hj
      (with_reducible refine dE (fun hcb=>?_) fun hcb=>?_)
      ·have hcb:x.2.2.2.2≥(code.length:Int):=hcb;omega
      ·(with_reducible refine dE (fun hcc=>?_) fun hcc=>?_)
       ·exact Ok.ret (by rw[oDF (show ¬ x.2.2.2.2≥dK s.length by rw[dU];have:=hp.lea hcc;omega)])
       ·exact Ok.ret rfl
     ·(with_reducible refine dE (fun hcc=>?_) fun hcc=>?_)
      ·exact Ok.ret (by rw[oDF (show ¬ x.2.2.2.2≥dK s.length by rw[dU];have:=hp.lea hcc;omega)])
      ·exact Ok.ret rfl
    ·rintro _ rfl;dsimp only;simp only[oCF]
     (simp (disch:=omega) only [dO,dY,dT,dU])
     exact Ok.ret rfl
   ·omega
  ·unfold je;dsimp only
   (with_reducible refine dE (fun hca=>?_) fun hca=>?_)
   ·omega
   ·exact Ok.ret rfl
 refine eL ?_;unfold iG;rw[AJ hs];delta dK;simp only[oBS,oNT,oCF,hl,bne_self_eq_false];rw[hl] at e0;rw[e0];dsimp only
 (with_reducible refine dE (fun hca=>?_) fun hca=>?_)
 ·omega
 ·(with_reducible refine dE (fun hcb=>?_) fun hcb=>?_)
  ·omega
  ·rw[e1];dsimp only;rw[e3];exact Ok.ret rfl
def RK(bs ss:List Int) (a:Int):Prop:=∃(j:Nat) (b z:Int),bs[j]?=some b∧ss[j]?=some z∧b≤a∧a < b+z
def lT(K:Int→Prop) (c:DCe):Prop:=0≤c.1∧c.1≤2∧0≤c.2∧c.2≤65535∧(c.1=1→K c.2)
theorem lT.mono{K K':Int→Prop}{c:DCe}(h:lT K c) (hk:∀a,K a→K' a):lT K' c:=⟨h.1,h.2.1,h.2.2.1,h.2.2.2.1,fun e=>hk _ (h.2.2.2.2 e)⟩
theorem lF{K:Int→Prop}{v:Int}(h:0≤v∧v≤65535):lT K (0,v):=⟨by dsimp only;omega,by dsimp only;omega,h.1,h.2,fun e=>absurd (show (0:Int)=1 from e) (by decide)⟩
def PM(K:Int→Prop) (i:Nat) (x:DLn):Prop:=(x.1=-1∧x.2.1=false∧x.2.2=[])∨(0≤x.1∧x.1 < 128∧x.1 % 4=i∧x.2.2.length=4∧∀c∈x.2.2,lT K c)
def PZ(cs:List DCe) (x:DLn):Prop:=x.1=-1∨x.2.1=true∨∀o:Nat,o < 4→cs[(x.1*4).toNat+o]?=x.2.2[o]?
structure iL (K:Int→Prop) (cs:List DCe) (ls:List DLn):Prop where
 clen:cs.length=512
 cells:∀c∈cs,lT K c
 llen:ls.length=4
 lines:∀(i:Nat) x,ls[i]?=some x→PM K i x
 coh:∀(i:Nat) x,ls[i]?=some x→PZ cs x
structure zy (K:Int→Prop) (n:Int) (t:DTh):Prop where
 state:0≤t.1∧t.1≤4
 len:t.2.1.length=8
 regs:∀c∈t.2.1,lT K c
 pc:0≤t.2.2.1∧t.2.2.1≤255
 count:0≤t.2.2.2.1∧t.2.2.2.1≤n
 handler:-1≤t.2.2.2.2.1∧t.2.2.2.2.1≤255
 saved:-1≤t.2.2.2.2.2.1∧t.2.2.2.2.2.1≤255
 trap:0≤t.2.2.2.2.2.2.1∧t.2.2.2.2.2.2.1≤6
 code:W16 t.2.2.2.2.2.2.2
structure MOk (n:Int) (ss bs:List Int) (cs:List DCe) (ls:List DLn) (ts:List DTh):Prop where
 lay:LV bs ss
 mem:iL (RK bs ss) cs ls
 tlen:ts.length=4
 thr:∀t∈ts,zy (RK bs ss) n t
theorem HU{K:Int→Prop}{l:List DCe}(hl:l.length≤1000) (h:∀c∈l,lT K c):mV l=some (true,()):=by
 have e:dQ lb NN (l,(l.length:Int),0,())=some (.inr (l,(l.length:Int),(l.length:Int),false,())):=by
  refine mH (st:=fun k=>(l,(l.length:Int),(k:Int),())) (n:=l.length) (by unfold NN;omega) ?_ ?_
  ·intro k hk;unfold lb;dsimp only
   (with_reducible refine dE (fun hca=>?_) fun hca=>?_)
   ·rw[dL];simp only[oBS];refine Ok.get (by omega) fun x hx=>?_;have:=h x (dN hx);unfold iI;rw[oDT (show x.1≤2 from this.2.1)];simp only[oBS,oNT,oCF]
    (simp (disch:=omega) only [dO,dY,dT,dU])
    exact Ok.ret rfl
   ·omega
  ·unfold lb;dsimp only
   (with_reducible refine dE (fun hca=>?_) fun hca=>?_)
   ·omega
   ·exact Ok.ret rfl
 refine eL ?_;unfold mV;delta dK
 try dsimp only
 rw[e];exact Ok.ret rfl
theorem H7{K:Int→Prop}{cs:List DCe}{ls:List DLn}(h:iL K cs ls):md cs ls=some (true,()):=by
 obtain⟨h1,h2,h3,h4,_⟩:=h
 have e:dQ ji NN (ls,4,0,cs,ls,())=some (.inr (ls,4,4,false,cs,ls,())):=by
  refine mH (st:=fun k=>(ls,4,(k:Int),cs,ls,())) (n:=4) (by unfold NN;omega) ?_ ?_
  ·intro k hk;unfold ji;dsimp only
   (with_reducible refine dE (fun hca=>?_) fun hca=>?_)
   ·rw[dL];simp only[oBS];refine Ok.get (by omega) fun x hx=>?_;rcases h4 k x hx with ⟨e1,e2,e3⟩ | ⟨g1,g2,g3,g4,g5⟩
    ·rw[e1,e2,e3];simp only[beq_self_eq_true,oCT,oCF]
     (simp (disch:=omega) only [dO,dY,dT,dU])
     exact Ok.ret rfl
    ·rw[show (x.1==-1)=false by rw[beq_eq_false_iff_ne];omega,oDF (show ¬ x.1 < 0 by omega),oDF (show ¬ x.1≥128 by omega),Int.tmod_eq_emod_of_nonneg g1,g3,g4,HU (by omega) g5];simp only[oCF,bne_self_eq_false,oBS,oNT];refine Ok.bind (P:=(·=(ls,4,(k:Int),false,cs,ls,()))) ?_ ?_
     ·refine Ok.cond (fun h=>by cases h) fun _=>Ok.ret rfl
     ·rintro _ rfl;dsimp only;simp only[oCF]
      (simp (disch:=omega) only [dO,dY,dT,dU])
      exact Ok.ret rfl
   ·omega
  ·unfold ji;exact Ok.ret rfl
 refine eL ?_;unfold md;delta dK;simp only[h1,h3,HU (show cs.length≤1000 by omega) h2,oBS,oNT];refine Ok.bind (P:=(·=(false,cs,ls,()))) ?_ ?_
 ·exact Ok.ret rfl
 ·rintro _ rfl;dsimp only;simp only[oCF];rw[h3,show ((4:Nat):Int)=4 from rfl,e];exact Ok.ret rfl
theorem H6{K:Int→Prop}{t:DTh}(h:zy K 1099511627776 t):l8 t.1 t.2.1 t.2.2.1 t.2.2.2.1 t.2.2.2.2.1 t.2.2.2.2.2.1 t.2.2.2.2.2.2.1 t.2.2.2.2.2.2.2=some (true,()):=by
 obtain⟨⟨a1,a2⟩,hl,hr,⟨b1,b2⟩,⟨c1,c2⟩,⟨d1,d2⟩,⟨e1,e2⟩,⟨f1,f2⟩,_⟩:=h;obtain⟨s,rs,pc,ct,ha,sa,tr,co⟩:=t;dsimp only at *
 have e:dQ jd NN (rs,(rs.length:Int),0,s,rs,pc,ct,ha,sa,tr,co,())=some (.inr (rs,(rs.length:Int),(rs.length:Int),false,s,rs,pc,ct,ha,sa,tr,co,())):=by
  refine mH (st:=fun k=>(rs,(rs.length:Int),(k:Int),s,rs,pc,ct,ha,sa,tr,co,())) (n:=rs.length) (by unfold NN;omega) ?_ ?_
  ·intro k hk;unfold jd;dsimp only
   (with_reducible refine dE (fun hca=>?_) fun hca=>?_)
   ·rw[dL];simp only[oBS];refine Ok.get (by omega) fun x hx=>?_;have:=hr x (dN hx);unfold iI;rw[oDT (show x.1≤2 from this.2.1)];simp only[oBS,oNT,oCF]
    (simp (disch:=omega) only [dO,dY,dT,dU])
    exact Ok.ret rfl
   ·omega
  ·unfold jd;dsimp only
   (with_reducible refine dE (fun hca=>?_) fun hca=>?_)
   ·omega
   ·exact Ok.ret rfl
 refine eL ?_;unfold l8;delta dK
 try dsimp only
 rw[e];dsimp only;rw[hl];refine dF (oDT a1) (dF (oDT a2) (dF rfl (dF (oDT b1) (dF (oDT b2) (dF (oDT c1) (dF (oDT c2) (dF (oDT d1) (dF (oDT d2) (dF (oDT e1) (dF (oDT e2) (dF (oDT f1) ?_)))))))))));exact Ok.ret (by rw[oDT f2])
theorem uG{code:List DIn}{ss bs:List Int}{d:List (List Int)}{n key:Int}{cs:List DCe}{ls:List DLn}{ts:List DTh}(hp:kI code ss d) (h:MOk n ss bs cs ls ts) (hn:n≤1099511627776):iF code ss d bs key cs ls ts=some (true,()):=by
 obtain⟨h1,h2,h3,h4⟩:=h
 have e:dQ lM NN (ts,4,0,bs,key,cs,ls,ts,())=some (.inr (ts,4,4,false,bs,key,cs,ls,ts,())):=by
  refine mH (st:=fun k=>(ts,4,(k:Int),bs,key,cs,ls,ts,())) (n:=4) (by unfold NN;omega) ?_ ?_
  ·intro k hk;unfold lM;dsimp only
   (with_reducible refine dE (fun hca=>?_) fun hca=>?_)
   ·rw[dL];simp only[oBS];refine Ok.get (by omega) fun x hx=>?_;have ht:=h4 x (dN hx);rw[H6 ⟨ht.state,ht.len,ht.regs,ht.pc,⟨ht.count.1,by have:=ht.count.2;omega⟩,ht.handler,ht.saved,ht.trap,ht.code⟩];simp only[oBS,oNT,oCF]
    (simp (disch:=omega) only [dO,dY,dT,dU])
    exact Ok.ret rfl
   ·omega
  ·exact Ok.ret rfl
 refine eL ?_;unfold iF;rw[Dd hp,rA h1,H7 h2];delta dK;simp only[oBS,oNT,oCF,bne_self_eq_false,h3];refine Ok.cond (fun h=>by cases h) fun _=>?_;rw[show ((4:Nat):Int)=4 from rfl,e];exact Ok.ret rfl
def eK:List DLn:=[(-1,false,[]),(-1,false,[]),(-1,false,[]),(-1,false,[])]
theorem C5:j6=some (eK,()):=by kernel_rfl
theorem yZ{K:Int→Prop}{cs:List DCe}(h:cs.length=512) (hc:∀c∈cs,lT K c):iL K cs eK:=by
 have key:∀(i:Nat) x,eK[i]?=some x→x=(-1,false,[]):=fun i x hx=>by
  have:=dN hx;simp only[eK,List.mem_cons,List.not_mem_nil,or_false,or_self] at this;exact this
 exact⟨h,hc,rfl,fun i x hx=>by rw[key i x hx];exact .inl ⟨rfl,rfl,rfl⟩,fun i x hx=>by rw[key i x hx];exact .inl rfl⟩
theorem iK{α:Type}{P:α→Prop}{l:List α}{i:Nat}{f:α→α}(h:∀x∈l,P x) (hf:∀x,P x→P (f x)):∀x∈List.modify l i f,P x:=by
 intro x hx;obtain⟨j,hj⟩:=List.getElem?_of_mem hx;rw[List.getElem?_modify] at hj
 cases hl:l[j]? with
 | none=>rw[hl] at hj;cases hj
 | some y=>
  rw[hl] at hj;have hy:=h y (dN hl)
  injection hj with hj
  subst hj;split
  ·exact hf y hy
  ·exact hy
theorem Ov{code:List DIn}{ss bs:List Int}{d:List (List Int)}{key:Int}(hp:kI code ss d) (hl:LV bs ss):Ok (nK code ss d bs key) fun r=>∃cs,r=(cs,eK,0,())∧cs.length=512∧∀c∈cs,lT (fun _=>False) c:=by
 unfold nK;rw[rA hl,C5];delta dK;simp only[oBS,oNT,oCF,hp.len,bne_self_eq_false];refine dF (by decide) ?_
 obtain⟨t,e,ht⟩:=fN (f:=mW) (n:=NN) (s:=(d,(ss.length:Int),0,code,ss,d,bs,key,(),(),List.replicate 512 (0,0),eK,()))
  (P:=fun s'=>∃k:Nat,∃cs,s'=(d,(ss.length:Int),(k:Int),code,ss,d,bs,key,(),(),cs,eK,())∧k≤ss.length∧cs.length=512∧∀c∈cs,lT (fun _=>False) c)
  (R:=fun r=>∃a b c e cs,r=.inr (a,b,c,e,code,ss,d,bs,key,(),(),cs,eK,())∧cs.length=512∧∀c∈cs,lT (fun _=>False) c) (m:=fun s'=>(s'.2.1 - s'.2.2.1).toNat)
  ⟨0,_,rfl,by omega,List.length_replicate,fun c hc=>by rw[List.eq_of_mem_replicate hc];exact lF (by decide)⟩ (by unfold NN;dsimp only;have:=hp.sz.2.1;omega) (by
   rintro _ ⟨k,cs,rfl,hk,hc1,hc2⟩;unfold mW;dsimp only;have hlen:=hp.len;have hs4:=hp.sz.2.1
   (with_reducible refine dE (fun hca=>?_) fun hca=>?_)
   ·rw[dL];delta dK;simp only[oBS];refine Ok.get (by omega) fun x hx=>?_;refine Ok.get (by omega) fun y hy=>?_;have hf:=hp.fit k x y hx hy;have hy2:=hp.sz.2.2 y (dN hy);have hnum:=hp.num x (dN hx);obtain⟨_,hbl,hr⟩:=hl;have hrk:=hr k (by omega);unfold vz at hrk;obtain⟨b,hb⟩:∃b,bs[k]?=some b:=⟨_,oGE (by omega)⟩;rw[d9 hb,d9 hy] at hrk
    (with_reducible refine dE (fun hcb=>?_) fun hcb=>?_)
    ·omega
    ·refine Ok.loop (P:=fun s'=>∃j:Nat,∃cs,s'=((k:Int),d,(ss.length:Int),(k:Int),x,(x.length:Int),(j:Int),code,ss,d,bs,key,(),(),cs,eK,())∧j≤x.length∧cs.length=512∧∀c∈cs,lT (fun _=>False) c)
      (R:=fun r=>∃a b c e cs,r=(a,d,(ss.length:Int),(k:Int),b,c,e,false,code,ss,d,bs,key,(),(),cs,eK,())∧cs.length=512∧∀c∈cs,lT (fun _=>False) c) (m:=fun s'=>(s'.2.2.2.2.2.1 - s'.2.2.2.2.2.2.1).toNat)
      ⟨0,cs,rfl,by omega,hc1,hc2⟩ (by unfold NN;dsimp only;omega) ?_ ?_
     ·rintro _ ⟨j,cs,rfl,hj,hc1,hc2⟩;unfold qw;dsimp only
      (with_reducible refine dE (fun hcc=>?_) fun hcc=>?_)
      ·rw[dL,dL];simp only[oBS];refine Ok.get (by omega) fun v hv=>?_;have hv2:=hnum v (dN hv);rw[show dH bs k=some b from hb];simp only[oBS]
       (simp (disch:=omega) only [dO,dY,dT,dU])
       refine Ok.nat (by omega) fun a ha=>?_;refine Ok.get (by omega) fun c hc=>?_;refine Ok.get (by omega) fun c' hc'=>?_;exact Ok.ret ⟨⟨j+1,_,rfl,by omega,by rw[oLM];exact hc1,iK hc2 fun z hz=>⟨hz.1,hz.2.1,hv2.1,hv2.2,hz.2.2.2.2⟩⟩,by dsimp only;omega⟩
      ·exact Ok.ret ⟨_,_,_,_,_,rfl,hc1,hc2⟩
     ·rintro _ ⟨a,b,c,e,cs,rfl,hc1,hc2⟩;dsimp only
      (simp (disch:=omega) only [dO,dY,dT,dU])
      exact Ok.ret ⟨⟨k+1,_,rfl,by omega,hc1,hc2⟩,by dsimp only;omega⟩
   ·exact Ok.ret ⟨_,_,_,_,_,rfl,hc1,hc2⟩)
 rw[e];obtain⟨a,b,c,e,cs,rfl,hc1,hc2⟩:=ht;exact Ok.ret ⟨cs,rfl,hc1,hc2⟩
theorem O6{K:Int→Prop}:∀c∈List.replicate 8 ((0:Int),(0:Int)),lT K c:=fun c hc=>by rw[List.eq_of_mem_replicate hc];exact lF (by decide)
theorem NA{K:Int→Prop}{s:Int}(h:0≤s∧s≤4):zy K 0 (s,List.replicate 8 (0,0),0,0,-1,-1,0,0):=
 ⟨h,rfl,O6,⟨by dsimp only;omega,by dsimp only;omega⟩,⟨by dsimp only;omega,by dsimp only;omega⟩,⟨by dsimp only;omega,by dsimp only;omega⟩,⟨by dsimp only;omega,by dsimp only;omega⟩,⟨by dsimp only;omega,by dsimp only;omega⟩,⟨by dsimp only;omega,by dsimp only;omega⟩⟩
theorem LF{code:List DIn}{ss bs:List Int}{d:List (List Int)}{key:Int}(hp:kI code ss d) (hl:LV bs ss):Ok (ma code ss d bs key) fun r=>∃cs ts,r=(bs,key,cs,eK,ts,0,())∧MOk 0 ss bs cs eK ts:=by
 unfold ma;rw[Dd hp,rA hl];simp only[oBS,oNT,oCF,bne_self_eq_false];refine (Ov hp hl).bind ?_;rintro _ ⟨cs,rfl,hc1,hc2⟩;dsimp only;have hbl:=hl.2.1;have hs4:=hp.sz.2.1;refine dF (dS (by omega)) ?_;rw[show List.append [] bs=bs from rfl]
 refine Ok.loop (P:=fun s'=>∃k:Nat,∃ts,s'=((k:Int),(),0,(),(),(),bs,key,cs,eK,ts,())∧k≤4∧ts.length=k∧∀t∈ts,zy (RK bs ss) 0 t)
  (R:=fun r=>∃a b ts,r=(a,b,(),0,(),(),(),bs,key,cs,eK,ts,())∧ts.length=4∧∀t∈ts,zy (RK bs ss) 0 t) (m:=fun s'=>(4 - s'.1).toNat) ⟨0,[],rfl,by omega,rfl,ef⟩ (by unfold NN;dsimp only;omega) ?_ ?_
 ·rintro _ ⟨k,ts,rfl,hk,ht1,ht2⟩;unfold pV;dsimp only
  (with_reducible refine dE (fun hca=>?_) fun hca=>?_)
  ·refine dF (by decide) ?_;refine Ok.bind (P:=fun r=>∃s,(0≤s∧s≤4)∧r=((k:Int),(),0,(),(),(),bs,key,cs,eK,ts,s,List.replicate 8 (0,0),0,0,-1,-1,0,0,())) ?_ ?_
   ·(with_reducible refine dE (fun hcb=>?_) fun hcb=>?_)
    ·exact Ok.ret ⟨1,by decide,rfl⟩
    ·exact Ok.ret ⟨0,by decide,rfl⟩
   ·rintro _ ⟨s,hs,rfl⟩;dsimp only;refine dF (dS (by simp;omega)) ?_
    (simp (disch:=omega) only [dO,dY,dT,dU])
    exact Ok.ret ⟨⟨k+1,_,rfl,by omega,by rw[eW,ht1];rfl,iS ht2 (all_cons (NA hs) ef)⟩,by dsimp only;omega⟩
  ·exact Ok.ret ⟨_,_,_,rfl,by omega,ht2⟩
 ·rintro _ ⟨a,b,ts,rfl,ht1,ht2⟩;exact Ok.ret ⟨cs,ts,rfl,hl,yZ hc1 fun c hc=>(hc2 c hc).mono fun _ h=>h.elim,ht1,ht2⟩
def Pr(ss:List Int) (c:DCn):Prop:=
 ((c.1=0∨c.1=2)∧c.2.2.1=0∧c.2.2.2=0∧W16 c.2.1)∨(c.1=1∧c.2.1=0∧0≤c.2.2.1∧∃n,ss[c.2.2.1.toNat]?=some n∧0≤c.2.2.2∧c.2.2.2 < n)
theorem Fk{ss:List Int}{c:DCn}(hs:zA ss) (h:Pr ss c):jy c.1 c.2.1 c.2.2.1 c.2.2.2=some (true,()):=by
 refine eL ?_;unfold jy;rcases h with ⟨h1,h2,h3,_⟩ | ⟨h1,h2,h3,n,h4,h5,h6⟩
 ·rw[h2,h3]
  rcases h1 with h1 | h1<;>rw[h1]<;>exact Ok.ret rfl
 ·have hn:=hs.2.2 n (dN h4);have hl:=(oGS h4).1;have hs4:=hs.2.1;rw[h1,h2,show (c.2.2.1==-1)=false by rw[beq_eq_false_iff_ne];omega];refine Ok.cond (fun h=>by cases h) fun _=>Ok.cond (fun h=>by cases h) fun _=>dF rfl ?_;refine Ok.cond (fun h=>by cases h) fun _=>dF rfl ?_;exact dF (oDT h3) (dF (oDT (by omega)) (dF (oDT h5) (Ok.ret (by rw[oDT (show c.2.2.2 < 32 by omega)]))))
theorem jE{ss:List Int}{l:List DCn}{n:Int}(hs:zA ss) (h:∀c∈l,Pr ss c) (hn:(l.length:Int)≤n) (hl:l.length≤1000):ff l n=some (true,()):=by
 have e:dQ jc NN (l,n,l,(l.length:Int),0,())=some (.inr (l,n,l,(l.length:Int),(l.length:Int),false,())):=by
  refine mH (st:=fun k=>(l,n,l,(l.length:Int),(k:Int),())) (n:=l.length) (by unfold NN;omega) ?_ ?_
  ·intro k hk;unfold jc;dsimp only
   (with_reducible refine dE (fun hca=>?_) fun hca=>?_)
   ·rw[dL];simp only[oBS];refine Ok.get (by omega) fun x hx=>?_;rw[Fk hs (h x (dN hx))];simp only[oBS,oNT,oCF]
    (simp (disch:=omega) only [dO,dY,dT,dU])
    exact Ok.ret rfl
   ·omega
  ·unfold jc;dsimp only
   (with_reducible refine dE (fun hca=>?_) fun hca=>?_)
   ·omega
   ·exact Ok.ret rfl
 refine eL ?_;unfold ff;delta dK
 try dsimp only
 rw[e];exact Ok.ret (congrArg (fun b=>(b,())) (oDT hn))
def OX(d:List (List DCn)) (o:DOp):Prop:=(o.1=-1∧o.2.1=0∧o.2.2=false)∨(0≤o.1∧∃x,d[o.1.toNat]?=some x∧0≤o.2.1∧o.2.1≤x.length)
structure fv (ss:List Int) (d:List (List DCn)) (os:List DOp):Prop where
 dlen:d.length≤4
 flen:∀x∈d,x.length≤64
 cells:∀x∈d,∀c∈x,Pr ss c
 olen:os.length=8
 opens:∀o∈os,OX d o
theorem AG{ss:List Int}{d:List (List DCn)}{os:List DOp}(hs:zA ss) (h:fv ss d os):jR d os=some (true,()):=by
 obtain⟨h1,h2,h3,h4,h5⟩:=h
 have e0:dQ jb NN (d,(d.length:Int),0,d,os,())=some (.inr (d,(d.length:Int),(d.length:Int),false,d,os,())):=by
  refine mH (st:=fun k=>(d,(d.length:Int),(k:Int),d,os,())) (n:=d.length) (by unfold NN;omega) ?_ ?_
  ·intro k hk;unfold jb;dsimp only
   (with_reducible refine dE (fun hca=>?_) fun hca=>?_)
   ·rw[dL];simp only[oBS];refine Ok.get (by omega) fun x hx=>?_;have:=h2 x (dN hx);rw[jE hs (h3 x (dN hx)) (by omega) (by omega)];simp only[oBS,oNT,oCF]
    (simp (disch:=omega) only [dO,dY,dT,dU])
    exact Ok.ret rfl
   ·omega
  ·unfold jb;dsimp only
   (with_reducible refine dE (fun hca=>?_) fun hca=>?_)
   ·omega
   ·exact Ok.ret rfl
 have e2:dQ lK NN (os,8,0,d,os,())=some (.inr (os,8,8,false,d,os,())):=by
  refine mH (st:=fun k=>(os,8,(k:Int),d,os,())) (n:=8) (by unfold NN;omega) ?_ ?_
  ·intro k hk;unfold lK;dsimp only
   (with_reducible refine dE (fun hca=>?_) fun hca=>?_)
   ·rw[dL];simp only[oBS];refine Ok.get (by omega) fun x hx=>?_;obtain⟨f,o,w⟩:=x;refine Ok.bind (P:=(·=(os,8,(k:Int),false,d,os,f,o,w,()))) ?_ ?_
    ·rcases h5 _ (dN hx) with ⟨g1,g2,g3⟩ | ⟨g1,y,g2,g3,g4⟩
     ·have g1:f=-1:=g1;have g2:o=0:=g2;have g3:w=false:=g3;subst g1 g2 g3;dsimp only;refine dF rfl (Ok.cond (fun h=>by cases h) fun _=>Ok.cond (fun h=>by cases h) fun _=>Ok.cond (fun h=>by cases h) fun _=>Ok.cond (fun h=>?_) fun _=>Ok.cond (fun h=>by cases h) fun _=>Ok.ret rfl);have h:(-1:Int)≥(d.length:Int):=of_decide_eq_true h;omega
     ·dsimp only at g1 g2 g3 g4 ⊢;have hl:=(oGS g2).1;rw[show (f==-1)=false by rw[beq_eq_false_iff_ne];omega,oDF (show ¬ f < -1 by omega)];simp only[oCF];refine Ok.cond (fun h=>?_) fun _=>dF (oDT g1) ?_
      ·have h:f≥(d.length:Int):=of_decide_eq_true h;omega
      ·rw[oDF (show ¬ o < 0 by omega)];simp only[oCF];refine Ok.nat g1 fun j hj=>?_;refine Ok.get (by omega) fun z hz=>?_
       have hjj:j=f.toNat:=by omega
       subst hjj;rw[g2] at hz
       injection hz with hz
       subst hz;exact Ok.ret (by rw[oDF (show ¬ o > dK y.length from fun h=>by rw[dU] at h;omega)])
    ·rintro _ rfl;dsimp only;simp only[oCF]
     (simp (disch:=omega) only [dO,dY,dT,dU])
     exact Ok.ret rfl
   ·omega
  ·exact Ok.ret rfl
 refine eL ?_;unfold jR;delta dK
 try dsimp only
 (with_reducible refine dE (fun hca=>?_) fun hca=>?_)
 ·omega
 ·rw[h4];refine Ok.cond (fun h=>by cases h) fun _=>?_;rw[e0];dsimp only;rw[h4,show ((8:Nat):Int)=8 from rfl,e2];exact Ok.ret rfl
def PY(ss:List Int) (i:Nat) (x:DOu):Prop:=x.1=i∧0≤x.2.1∧x.2.1 < 2∧x.2.2.length≤16∧∀c∈x.2.2,Pr ss c
structure zB (ss:List Int) (ck rn:List Int) (ins:List (List Int)) (d:List (List DCn)) (os:List DOp) (us:List DOu):Prop where
 clock:ck.length≤64∧∀w∈ck,W16 w
 rand:rn.length≤64∧∀w∈rn,W16 w
 ilen:ins.length≤2
 inp:∀x∈ins,x.length≤64∧∀w∈x,W16 w
 files:fv ss d os
 ulen:us.length≤200
 outs:∀(i:Nat) x,us[i]?=some x→PY ss i x
theorem IA{ss:List Int}{us:List DOu}(hl:us.length≤200) (h:∀(i:Nat) x,us[i]?=some x→PY ss i x):jQ us=some (true,()):=by
 have e:dQ hZ NN (us,(us.length:Int),0,())=some (.inr (us,(us.length:Int),(us.length:Int),false,())):=by
  refine mH (st:=fun k=>(us,(us.length:Int),(k:Int),())) (n:=us.length) (by unfold NN;omega) ?_ ?_
  ·intro k hk;unfold hZ;dsimp only
   (with_reducible refine dE (fun hca=>?_) fun hca=>?_)
   ·rw[dL];simp only[oBS];refine Ok.get (by omega) fun x hx=>?_;obtain⟨g1,g2,g3,g4,g5⟩:=h k x hx;rw[g1,oDF (show ¬ x.2.1 < 0 by omega),oDF (show ¬ x.2.1≥2 by omega)];simp only[bne_self_eq_false,oCF,oBS];refine Ok.cond (fun h=>?_) fun _=>?_
    ·have h:(x.2.2.length:Int) > 16:=of_decide_eq_true h;omega
    ·(simp (disch:=omega) only [dO,dY,dT,dU])
     exact Ok.ret rfl
   ·omega
  ·unfold hZ;dsimp only
   (with_reducible refine dE (fun hca=>?_) fun hca=>?_)
   ·omega
   ·exact Ok.ret rfl
 refine eL ?_;unfold jQ;delta dK
 try dsimp only
 rw[e];exact Ok.ret rfl
theorem uF{ss ck rn:List Int}{ins:List (List Int)}{d:List (List DCn)}{os:List DOp}{us:List DOu}(hs:zA ss) (h:zB ss ck rn ins d os us):iE ck rn ins d os us=some (true,()):=by
 have e0:dQ ja NN (ins,(ins.length:Int),0,ck,rn,ins,d,os,us,())=some (.inr (ins,(ins.length:Int),(ins.length:Int),false,ck,rn,ins,d,os,us,())):=by
  refine mH (st:=fun k=>(ins,(ins.length:Int),(k:Int),ck,rn,ins,d,os,us,())) (n:=ins.length) (by unfold NN;have:=h.ilen;omega) ?_ ?_
  ·intro k hk;have hil:=h.ilen;unfold ja;dsimp only
   (with_reducible refine dE (fun hca=>?_) fun hca=>?_)
   ·rw[dL];delta dK;simp only[oBS];refine Ok.get (by omega) fun x hx=>?_;have:=(h.inp x (dN hx)).1
    (with_reducible refine dE (fun hcb=>?_) fun hcb=>?_)
    ·omega
    ·(simp (disch:=omega) only [dO,dY,dT,dU])
     exact Ok.ret rfl
   ·omega
  ·unfold ja;dsimp only
   (with_reducible refine dE (fun hca=>?_) fun hca=>?_)
   ·omega
   ·exact Ok.ret rfl
 have e1:dQ i9 NN (us,(us.length:Int),0,ck,rn,ins,d,os,us,())=some (.inr (us,(us.length:Int),(us.length:Int),false,ck,rn,ins,d,os,us,())):=by
  refine mH (st:=fun k=>(us,(us.length:Int),(k:Int),ck,rn,ins,d,os,us,())) (n:=us.length) (by unfold NN;have:=h.ulen;omega) ?_ ?_
  ·intro k hk;have hul:=h.ulen;unfold i9;dsimp only
   (with_reducible refine dE (fun hca=>?_) fun hca=>?_)
   ·rw[dL];simp only[oBS];refine Ok.get (by omega) fun x hx=>?_;obtain⟨_,_,_,g4,g5⟩:=h.outs k x hx;rw[jE hs g5 (by omega) (by omega)];simp only[oBS,oNT,oCF]
    (simp (disch:=omega) only [dO,dY,dT,dU])
    exact Ok.ret rfl
   ·omega
  ·unfold i9;dsimp only
   (with_reducible refine dE (fun hca=>?_) fun hca=>?_)
   ·omega
   ·exact Ok.ret rfl
 have c1:=h.clock.1;have c2:=h.rand.1;have c3:=h.ilen;have c4:=h.ulen;refine eL ?_;unfold iE;delta dK
 try dsimp only
 rw[e0];dsimp only;rw[e1];dsimp only;refine dF (oDT (show (ck.length:Int)≤64 by omega)) (dF (oDT (show (rn.length:Int)≤64 by omega)) (dF (oDT (show (ins.length:Int)≤2 by omega)) ?_));rw[AG hs h.files];simp only[oBS,oCT];refine dF (oDT (show (us.length:Int)≤200 by omega)) ?_;rw[IA h.ulen h.outs];exact Ok.ret rfl
def pz:List DOp:=List.replicate 8 (-1,0,false)
theorem Mj(a:List (List Int)):dQ sb NN (a,8,0,(),(),(),List.replicate 8 (0,(0,false)),())=some (a,8,8,false,(),(),(),pz,()):=by
 rfl
theorem Mo{ss:List Int}{a:List (List Int)}(hs:zA ss) (hl:a.length≤4) (h:∀x∈a,x.length≤64∧∀w∈x,W16 w):Ok (oT a) fun r=>∃d,r=(d,pz,0,())∧fv ss d pz:=by
 unfold oT;refine dF (by decide) ?_;dsimp only;rw[show dK (List.replicate 8 ((0:Int),((0:Int),false))).length=8 from rfl,Mj];delta dK;simp only[oBS]
 refine Ok.loop (P:=fun s'=>∃k:Nat,∃d,s'=(a,(a.length:Int),(k:Int),(),(),d,pz,())∧k≤a.length∧d.length=k∧(∀x∈d,x.length≤64)∧∀x∈d,∀c∈x,Pr ss c)
  (R:=fun r=>∃e b c f d,r=(e,b,c,f,(),(),d,pz,())∧d.length≤4∧(∀x∈d,x.length≤64)∧∀x∈d,∀c∈x,Pr ss c) (m:=fun s'=>(s'.2.1 - s'.2.2.1).toNat) ⟨0,[],rfl,by omega,rfl,ef,ef⟩ (by unfold NN;dsimp only;omega) ?_ ?_
 ·rintro _ ⟨k,d,rfl,hk,hd1,hd2,hd3⟩;unfold r8;dsimp only
  (with_reducible refine dE (fun hca=>?_) fun hca=>?_)
  ·rw[dL];delta dK;simp only[oBS];refine Ok.get (by omega) fun x hx=>?_;obtain⟨hx1,hx2⟩:=h x (dN hx)
   refine Ok.loop (P:=fun s'=>∃j:Nat,∃l,s'=(a,(a.length:Int),(k:Int),x,(x.length:Int),(j:Int),(),(),d,pz,l,())∧j≤x.length∧l.length=j∧∀c∈l,Pr ss c)
    (R:=fun r=>∃b c e f l,r=(a,(a.length:Int),(k:Int),b,c,e,f,(),(),d,pz,l,())∧l.length≤64∧∀c∈l,Pr ss c) (m:=fun s'=>(s'.2.2.2.2.1 - s'.2.2.2.2.2.1).toNat) ⟨0,[],rfl,by omega,rfl,ef⟩ (by unfold NN;dsimp only;omega) ?_ ?_
   ·rintro _ ⟨j,l,rfl,hj,hl1,hl2⟩;unfold r9;dsimp only
    (with_reducible refine dE (fun hcb=>?_) fun hcb=>?_)
    ·rw[dL];simp only[oBS];refine Ok.get (by omega) fun v hv=>?_;refine dF (dS (by simp;omega)) ?_
     (simp (disch:=omega) only [dO,dY,dT,dU])
     exact Ok.ret ⟨⟨j+1,_,rfl,by omega,by rw[eW,hl1];rfl,iS hl2 (all_cons (.inl ⟨.inl rfl,rfl,rfl,hx2 v (dN hv)⟩) ef)⟩,by dsimp only;omega⟩
    ·exact Ok.ret ⟨_,_,_,_,_,rfl,by omega,hl2⟩
   ·rintro _ ⟨b,c,e,f,l,rfl,hl1,hl2⟩;dsimp only;refine dF (dS (by simp;omega)) ?_
    (simp (disch:=omega) only [dO,dY,dT,dU])
    exact Ok.ret ⟨⟨k+1,_,rfl,by omega,by rw[eW,hd1];rfl,iS hd2 (all_cons hl1 ef),iS hd3 (all_cons hl2 ef)⟩,by dsimp only;omega⟩
  ·exact Ok.ret ⟨_,_,_,_,_,rfl,by omega,hd2,hd3⟩
 ·rintro _ ⟨e,b,c,f,d,rfl,hd1,hd2,hd3⟩;have hf:fv ss d pz:=⟨hd1,hd2,hd3,rfl,fun o ho=>by rw[List.eq_of_mem_replicate ho];exact .inl ⟨rfl,rfl,rfl⟩⟩;dsimp only;rw[AG hs hf];simp only[oBS,oNT,oCF];exact Ok.ret ⟨d,rfl,hf⟩
theorem y9{a:List (List Int)}(hl:a.length≤1000) (h:∀x∈a,x.length≤1000):fw a=some (a,()):=by
 have e:dQ ft NN (a,(a.length:Int),0,[],())=some (a,(a.length:Int),(a.length:Int),false,a,()):=by
  have:=mH (f:=ft) (N:=NN) (st:=fun k=>(a,(a.length:Int),(k:Int),a.take k,())) (n:=a.length) (t:=(a,(a.length:Int),(a.length:Int),false,a,())) (by unfold NN;omega) ?_ ?_
  ·exact this
  ·intro k hk;unfold ft;dsimp only
   (with_reducible refine dE (fun hca=>?_) fun hca=>?_)
   ·rw[dL];simp only[oBS];refine Ok.get (by omega) fun x hx=>?_;have:=h x (dN hx);refine dF (dS (by omega)) (dF (dS (by simp;omega)) ?_)
    (simp (disch:=omega) only [dO,dY,dT,dU])
    refine Ok.ret ?_;rw[List.take_add_one,hx];rfl
   ·omega
  ·unfold ft;dsimp only
   (with_reducible refine dE (fun hca=>?_) fun hca=>?_)
   ·omega
   ·rw[List.take_length];exact Ok.ret rfl
 refine eL ?_;unfold fw;delta dK
 try dsimp only
 rw[e];exact Ok.ret rfl
theorem Iz{ss l:List Int}{k:Int}(hs:zA ss) (h:DOk l k):Ok (ld l k) fun r=>∃ck rn ins d os k',r=(ck,rn,ins,d,os,(),l,k',())∧zB ss ck rn ins d os []∧DOk l k':=by
 unfold ld;refine (oL h (by decide)).bind ?_;rintro _ ⟨w1,k1,rfl,h1,g1,d1⟩;dsimp only;refine (oL d1 (by decide)).bind ?_;rintro _ ⟨w2,k2,rfl,h2,g2,d2⟩;dsimp only;refine (oL d2 (by decide)).bind ?_;rintro _ ⟨w3,k3,rfl,h3,g3,d3⟩;dsimp only;refine (oL d3 (by decide)).bind ?_;rintro _ ⟨w4,k4,rfl,h4,g4,d4⟩;dsimp only;refine (oL d4 (by decide)).bind ?_;rintro _ ⟨w5,k5,rfl,h5,g5,d5⟩;dsimp only;refine (oL d5 (by decide)).bind ?_;rintro _ ⟨w6,k6,rfl,h6,g6,d6⟩;dsimp only;refine Ok.bind (P:=fun r=>∃ck rn ins d os,r=(ck,rn,ins,d,os,(),0,())∧zB ss ck rn ins d os []) ?_ ?_
 ·unfold oS;refine (Mo (ss:=ss) (a:=[w1,w2]) hs (by simp) (all_cons ⟨by omega,g1⟩ (all_cons ⟨by omega,g2⟩ ef))).bind ?_;rintro _ ⟨d,rfl,hf⟩;dsimp only;refine Ok.cond (fun h=>by cases h) fun _=>?_;refine dF (dS (by omega)) (dF (dS (by omega)) ?_);have ho:zB ss w5 w6 [w3,w4] d pz []:=⟨⟨by omega,g5⟩,⟨by omega,g6⟩,by simp,all_cons ⟨by omega,g3⟩ (all_cons ⟨by omega,g4⟩ ef),hf,by simp,fun i x hx=>by simp at hx⟩;rw[y9 (by simp) (all_cons (by omega) (all_cons (by omega) ef))];simp only[oBS];rw[show List.append [] w5=w5 from rfl,show List.append [] w6=w6 from rfl,uF hs ho];exact Ok.ret ⟨_,_,_,_,_,rfl,ho⟩
 ·rintro _ ⟨ck,rn,ins,d,os,rfl,ho⟩;exact Ok.ret ⟨_,_,_,_,_,_,rfl,ho,d6⟩
theorem Eh{ss:List Int}{r o n:Int}(h1:0≤r) (h2:ss[r.toNat]?=some n) (h3:0≤o) (h4:o < n):fr ss r o=some (true,()):=by
 refine eL ?_;have hl:=(oGS h2).1;unfold fr;refine dF (oDT h1) (dF (oDT (show r < (ss.length:Int) by omega)) (dF (oDT h3) ?_));obtain⟨j,rfl⟩:∃j:Nat,r=j:=⟨r.toNat,by omega⟩;rw[dL];simp only[oBS];rw[show dH ss j=some n from h2];simp only[oBS];exact Ok.ret (by rw[oDT h4])
theorem m7{ss:List Int}{c:DCn}(h:Pr ss c):gj ss c.1 c.2.1 c.2.2.1 c.2.2.2=some (true,()):=by
 refine eL ?_;unfold gj;rcases h with ⟨h1,h2,h3,_⟩ | ⟨h1,h2,h3,n,h4,h5,h6⟩
 ·rw[h2,h3]
  rcases h1 with h1 | h1<;>rw[h1]<;>exact Ok.ret rfl
 ·rw[h1,h2,Eh h3 h4 h5 h6];exact Ok.ret rfl
theorem FL{ss:List Int}{d:List (List DCn)}{os:List DOp}(h:fv ss d os):kW ss d os=some (true,()):=by
 obtain⟨h1,h2,h3,h4,h5⟩:=h
 have e0:dQ iC NN (ss,d,(d.length:Int),0,d,os,())=some (.inr (ss,d,(d.length:Int),(d.length:Int),false,d,os,())):=by
  refine mH (st:=fun k=>(ss,d,(d.length:Int),(k:Int),d,os,())) (n:=d.length) (by unfold NN;omega) ?_ ?_
  ·intro k hk;unfold iC;dsimp only
   (with_reducible refine dE (fun hca=>?_) fun hca=>?_)
   ·rw[dL];delta dK;simp only[oBS];refine Ok.get (by omega) fun x hx=>?_;have hx1:=h2 x (dN hx)
    have e:dQ iD NN (ss,d,(d.length:Int),(k:Int),x,(x.length:Int),0,d,os,())=some (.inr (ss,d,(d.length:Int),(k:Int),x,(x.length:Int),(x.length:Int),false,d,os,())):=by
     refine mH (st:=fun j=>(ss,d,(d.length:Int),(k:Int),x,(x.length:Int),(j:Int),d,os,())) (n:=x.length) (by unfold NN;omega) ?_ ?_
     ·intro j hj;unfold iD;dsimp only
      (with_reducible refine dE (fun hca=>?_) fun hca=>?_)
      ·rw[dL];simp only[oBS];refine Ok.get (by omega) fun y hy=>?_;rw[m7 (h3 x (dN hx) y (dN hy))];simp only[oBS,oNT,oCF]
       (simp (disch:=omega) only [dO,dY,dT,dU])
       exact Ok.ret rfl
      ·omega
     ·unfold iD;dsimp only
      (with_reducible refine dE (fun hca=>?_) fun hca=>?_)
      ·omega
      ·exact Ok.ret rfl
    rw[e];dsimp only
    (simp (disch:=omega) only [dO,dY,dT,dU])
    exact Ok.ret rfl
   ·omega
  ·unfold iC;dsimp only
   (with_reducible refine dE (fun hca=>?_) fun hca=>?_)
   ·omega
   ·exact Ok.ret rfl
 refine eL ?_;unfold kW;delta dK
 try dsimp only
 rw[e0];exact Ok.ret rfl
theorem copy17_ok{d:List (List DCn)}{os:List DOp}(h1:d.length≤1000) (h2:∀x∈d,x.length≤1000) (h3:os.length≤1000):fL d os=some (d,os,()):=by
 have e:dQ im NN (d,(d.length:Int),0,d,os,(),(),[],os,())=some (d,(d.length:Int),(d.length:Int),false,d,os,(),(),d,os,()):=by
  have:=mH (f:=im) (N:=NN) (st:=fun k=>(d,(d.length:Int),(k:Int),d,os,(),(),d.take k,os,())) (n:=d.length) (t:=(d,(d.length:Int),(d.length:Int),false,d,os,(),(),d,os,())) (by unfold NN;omega) ?_ ?_
  ·exact this
  ·intro k hk;unfold im;dsimp only
   (with_reducible refine dE (fun hca=>?_) fun hca=>?_)
   ·rw[dL];simp only[oBS];refine Ok.get (by omega) fun x hx=>?_;have:=h2 x (dN hx);refine dF (dS (by omega)) (dF (dS (by simp;omega)) ?_)
    (simp (disch:=omega) only [dO,dY,dT,dU])
    refine Ok.ret ?_;rw[List.take_add_one,hx];rfl
   ·omega
  ·unfold im;dsimp only
   (with_reducible refine dE (fun hca=>?_) fun hca=>?_)
   ·omega
   ·rw[List.take_length];exact Ok.ret rfl
 refine eL ?_;unfold fL;refine dF (dS (by omega)) ?_;rw[show List.append [] os=os from rfl];delta dK
 try dsimp only
 rw[e];exact Ok.ret rfl
theorem Fe{us:List DOu}(h1:us.length≤1000) (h2:∀x∈us,x.2.2.length≤1000):ju us=some (us,()):=by
 have e:dQ ij NN (us,(us.length:Int),0,[],())=some (us,(us.length:Int),(us.length:Int),false,us,()):=by
  have:=mH (f:=ij) (N:=NN) (st:=fun k=>(us,(us.length:Int),(k:Int),us.take k,())) (n:=us.length) (t:=(us,(us.length:Int),(us.length:Int),false,us,())) (by unfold NN;omega) ?_ ?_
  ·exact this
  ·intro k hk;unfold ij;dsimp only
   (with_reducible refine dE (fun hca=>?_) fun hca=>?_)
   ·rw[dL];simp only[oBS];refine Ok.get (by omega) fun x hx=>?_;have:=h2 x (dN hx);refine dF (dS (by omega)) (dF (dS (by simp;omega)) ?_)
    (simp (disch:=omega) only [dO,dY,dT,dU])
    refine Ok.ret ?_;rw[List.take_add_one,hx];rfl
   ·omega
  ·unfold ij;dsimp only
   (with_reducible refine dE (fun hca=>?_) fun hca=>?_)
   ·omega
   ·rw[List.take_length];exact Ok.ret rfl
 refine eL ?_;unfold ju;delta dK
 try dsimp only
 rw[e];exact Ok.ret rfl
theorem Fd{ss ck rn:List Int}{ins:List (List Int)}{d:List (List DCn)}{os:List DOp}{us:List DOu}(h:zB ss ck rn ins d os us):lu ck rn ins d os us=some (ck,rn,ins,d,os,us,()):=by
 have h1:=h.clock.1;have h2:=h.rand.1;have h3:=h.ilen;have h4:=h.ulen;have h5:=h.files.olen;have h6:=h.files.dlen;refine eL ?_;unfold lu;refine dF (dS (by omega)) (dF (dS (by omega)) ?_)
 rw[y9 (by omega) (fun x hx=>by have:=(h.inp x hx).1;omega),copy17_ok (by omega) (fun x hx=>by have:=h.files.flen x hx;omega) (by omega),Fe (by omega) (fun x hx=>by
  obtain⟨i,hi⟩:=List.getElem?_of_mem hx;have:=(h.outs i x hi).2.2.2.1
  omega)]
 exact Ok.ret rfl
theorem KG:sK=some ([-1,-1,-1,-1],[[],[],[],[]],()):=by kernel_rfl
structure iA (ow:List Int) (qs:List (List Int)):Prop where
 olen:ow.length=4
 qlen:qs.length=4
 owner:∀o∈ow,-1≤o∧o≤3
 queue:∀q∈qs,q.Nodup∧∀t∈q,0≤t∧t≤3
theorem KA:∀{n:Nat}{q:List Int},q.Nodup→(∀t∈q,0≤t∧t < n)→q.length≤n:=by
 intro n
 induction n with
 | zero=>
  intro q _ h
  cases q with
  | nil=>simp
  | cons x q=>have:=h x (by simp);omega
 | succ n ih=>
  intro q hq h;have h1:(q.erase (n:Int)).Nodup:=hq.erase _
  have h2:∀t∈q.erase (n:Int),0≤t∧t < n:=fun t ht=>by
   have hm:=(hq.mem_erase_iff).1 ht;have:=h t hm.2;have:=hm.1;omega
  have h3:=ih h1 h2;have h4:=List.length_erase (a:=(n:Int)) (l:=q);split at h4<;>omega
theorem iA.qlen4{ow:List Int}{qs:List (List Int)}(h:iA ow qs) {q:List Int}(hq:q∈qs):q.length≤4:=KA (h.queue q hq).1 fun t ht=>by have:=(h.queue q hq).2 t ht;omega
theorem Pn:iA [-1,-1,-1,-1] [[],[],[],[]]:=⟨rfl,rfl,by decide,by decide⟩
theorem MW{code:List DIn}{ss bs:List Int}{dt:List (List Int)}{key:Int}{ck rn:List Int}{ins:List (List Int)}{d:List (List DCn)}{os:List DOp}{us:List DOu}(hp:kI code ss dt) (hl:LV bs ss) (ho:zB ss ck rn ins d os us) :
 Ok (lU code ss dt bs key ck rn ins d os us) fun r=>∃cs ts,r=(code,ss,dt,bs,key,cs,eK,ts,ck,rn,ins,d,os,us,[-1,-1,-1,-1],[[],[],[],[]],(),[-1,-1,-1,-1],0,())∧MOk 0 ss bs cs eK ts:=by
 unfold lU;refine (LF hp hl).bind ?_;rintro _ ⟨cs,ts,rfl,hm⟩;dsimp only;rw[uF hp.sz ho,FL ho.files,Fd ho,KG];simp only[oBS,oNT,oCF,bne_self_eq_false]
 have e:dQ pS NN (0,(),(),(),(),0,(),(),(),(),(),(),(),(),(),(),(),(),(),code,ss,dt,bs,key,cs,eK,ts,ck,rn,ins,d,os,us,[-1,-1,-1,-1],[[],[],[],[]],(),[],())
  = some (4,false,(),(),(),(),0,(),(),(),(),(),(),(),(),(),(),(),(),(),code,ss,dt,bs,key,cs,eK,ts,ck,rn,ins,d,os,us,[-1,-1,-1,-1],[[],[],[],[]],(),[-1,-1,-1,-1],()):=rfl
 rw[e];exact Ok.ret ⟨cs,ts,rfl,hm⟩
theorem PM.len{K:Int→Prop}{i:Nat}{x:DLn}(h:PM K i x):x.2.2.length≤4:=by
 rcases h with ⟨_,_,h⟩ | ⟨_,_,_,h,_⟩
 ·rw[h];simp
 ·omega
theorem Ff{K:Int→Prop}{cs:List DCe}{ls:List DLn}(h:iL K cs ls):jB cs ls=some (cs,ls,()):=by
 obtain⟨h1,h2,h3,h4,_⟩:=h
 have e:dQ iu NN (ls,(ls.length:Int),0,cs,ls,(),(),cs,[],())=some (ls,(ls.length:Int),(ls.length:Int),false,cs,ls,(),(),cs,ls,()):=by
  have:=mH (f:=iu) (N:=NN) (st:=fun k=>(ls,(ls.length:Int),(k:Int),cs,ls,(),(),cs,ls.take k,())) (n:=ls.length) (t:=(ls,(ls.length:Int),(ls.length:Int),false,cs,ls,(),(),cs,ls,())) (by unfold NN;omega) ?_ ?_
  ·exact this
  ·intro k hk;unfold iu;dsimp only
   (with_reducible refine dE (fun hca=>?_) fun hca=>?_)
   ·rw[dL];simp only[oBS];refine Ok.get (by omega) fun x hx=>?_;have:=(h4 k x hx).len;refine dF (dS (by omega)) (dF (dS (by simp;omega)) ?_)
    (simp (disch:=omega) only [dO,dY,dT,dU])
    refine Ok.ret ?_;rw[List.take_add_one,hx];rfl
   ·omega
  ·unfold iu;dsimp only
   (with_reducible refine dE (fun hca=>?_) fun hca=>?_)
   ·omega
   ·rw[List.take_length];exact Ok.ret rfl
 refine eL ?_;unfold jB;refine dF (dS (by omega)) ?_;rw[show List.append [] cs=cs from rfl];delta dK
 try dsimp only
 rw[e];exact Ok.ret rfl
theorem qT{n key:Int}{ss bs:List Int}{cs:List DCe}{ls:List DLn}{ts:List DTh}(h:MOk n ss bs cs ls ts):it bs key cs ls ts=some (bs,key,cs,ls,ts,()):=by
 obtain⟨h1,h2,h3,h4⟩:=h;have hb:=h1.2.1;have hs4:=h1.1.2.1
 have e:dQ is NN (ts,(ts.length:Int),0,bs,key,cs,ls,ts,(),0,(),(),(),bs,key,cs,ls,[],())=some (ts,(ts.length:Int),(ts.length:Int),false,bs,key,cs,ls,ts,(),0,(),(),(),bs,key,cs,ls,ts,()):=by
  have:=mH (f:=is) (N:=NN) (st:=fun k=>(ts,(ts.length:Int),(k:Int),bs,key,cs,ls,ts,(),0,(),(),(),bs,key,cs,ls,ts.take k,())) (n:=ts.length) (t:=(ts,(ts.length:Int),(ts.length:Int),false,bs,key,cs,ls,ts,(),0,(),(),(),bs,key,cs,ls,ts,())) (by unfold NN;omega) ?_ ?_
  ·exact this
  ·intro k hk;unfold is;dsimp only
   (with_reducible refine dE (fun hca=>?_) fun hca=>?_)
   ·rw[dL];simp only[oBS];refine Ok.get (by omega) fun x hx=>?_;have:=(h4 x (dN hx)).len;refine dF (dS (by omega)) (dF (dS (by simp;omega)) ?_)
    (simp (disch:=omega) only [dO,dY,dT,dU])
    refine Ok.ret ?_;rw[List.take_add_one,hx];rfl
   ·omega
  ·unfold is;dsimp only
   (with_reducible refine dE (fun hca=>?_) fun hca=>?_)
   ·omega
   ·rw[List.take_length];exact Ok.ret rfl
 refine eL ?_;unfold it;refine dF (dS (by omega)) ?_;rw[Ff h2,show List.append [] bs=bs from rfl];delta dK;simp only[oBS];rw[e];exact Ok.ret rfl
theorem rM{α:Type}{l:List α}{i:Nat}{f:α→α}{a:α}(h:l[i]?=some a):(List.modify l i f)[i]?=some (f a):=by rw[List.getElem?_modify,h];simp
theorem iJ{α:Type}(l:List α) (i:Nat) (f g:α→α):List.modify (List.modify l i f) i g=List.modify l i fun a=>g (f a):=by
 apply List.ext_getElem?;intro j;simp only[List.getElem?_modify];by_cases h:i=j
 ·simp only[h,if_true];cases l[j]?<;>rfl
 ·simp[h]
theorem MOk.thread{n:Int}{ss bs:List Int}{cs:List DCe}{ls:List DLn}{ts:List DTh}(h:MOk n ss bs cs ls ts) {i:Nat}{t:DTh}{f:DTh→DTh}(ht:ts[i]?=some t) (hf:zy (RK bs ss) n (f t)):MOk n ss bs cs ls (List.modify ts i f):=by
 refine⟨h.lay,h.mem,by rw[oLM];exact h.tlen,fun x hx=>?_⟩;obtain⟨j,hj⟩:=List.getElem?_of_mem hx;rw[List.getElem?_modify] at hj;by_cases hij:i=j
 ·subst hij;rw[ht] at hj
  have hj:f t=x:=by simpa using hj
  rw[← hj];exact hf
 ·simp only[hij,if_false] at hj
  have:ts[j]?=some x:=by simpa using hj
  exact h.thr x (dN this)
theorem Nm{n key:Int}{ss bs:List Int}{cs:List DCe}{ls:List DLn}{ts:List DTh}(h:MOk n ss bs cs ls ts) (i:Int):Ok (mR bs key cs ls ts i) fun r=>r.1=true→0≤i∧i < 4∧∀t,ts[i.toNat]?=some t→t.2.2.2.2.1≠-1:=by
 unfold mR;delta dK
 try dsimp only
 have:=h.tlen
 (with_reducible refine dE (fun hca=>?_) fun hca=>?_)
 ·exact Ok.ret (fun h=>by cases h)
 ·(with_reducible refine dE (fun hcb=>?_) fun hcb=>?_)
  ·exact Ok.ret (fun h=>by cases h)
  ·refine Ok.nat (by omega) fun j hj=>?_;refine Ok.get (by omega) fun t ht=>?_;subst hj
   (with_reducible refine dE (fun hcc=>?_) fun hcc=>?_)
   ·(with_reducible refine dE (fun hcd=>?_) fun hcd=>?_)
    ·exact Ok.ret (fun _=>⟨by omega,by omega,fun t' ht'=>by
      rw[oTN,ht] at ht'
      injection ht' with ht'
      rw[← ht']
      exact hcd⟩)
    ·exact Ok.ret (fun h=>by cases h)
   ·exact Ok.ret (fun h=>by cases h)
theorem I4{n key:Int}{ss bs:List Int}{cs:List DCe}{ls:List DLn}{ts:List DTh}(h:MOk n ss bs cs ls ts) (i:Int):Ok (jS bs key cs ls ts i) fun r=>∃ts' b,r=(bs,key,cs,ls,ts',b,())∧MOk n ss bs cs ls ts':=by
 unfold jS;rw[qT h];simp only[oBS];refine (Nm h i).bind ?_;rintro⟨b,_⟩ hb;dsimp only at hb ⊢
 (with_reducible refine dE (fun hca=>?_) fun hca=>?_)
 ·exact Ok.ret ⟨ts,false,rfl,h⟩
 ·have hb:=hb hca;have htl:=h.tlen;obtain⟨hb1,hb2,hb3⟩:=hb;refine Ok.nat hb1 fun j hj=>?_;subst hj;refine Ok.get (by omega) fun t ht=>?_;refine Ok.get (by omega) fun t1 ht1=>?_;refine Ok.get (by omega) fun t2 ht2=>?_;refine Ok.get (by omega) fun t3 ht3=>?_;rw[ht] at ht1 ht2 ht3
  injection ht1 with ht1
  injection ht2 with ht2
  subst ht1 ht2;refine Ok.get (by rw[oLM];omega) fun t4 ht4=>?_;have hne:=hb3 t (by rw[oTN];exact ht);have hok:=h.thr t (dN ht);rw[iJ];exact Ok.ret ⟨_,_,rfl,h.thread ht ⟨hok.state,hok.len,hok.regs,⟨by have:=hok.handler;dsimp only;omega,hok.handler.2⟩,hok.count,hok.handler,⟨by have:=hok.pc;dsimp only;omega,hok.pc.2⟩,hok.trap,hok.code⟩⟩
theorem Nz{n why:Int}{ts:List DTh}{i:Nat}{t:DTh}(ht:ts[i]?=some t):fc i why ts=some (2,List.modify ts i fun t=>(4,t.2.1,t.2.2.1,t.2.2.2.1,t.2.2.2.2.1,t.2.2.2.2.2.1,why,0),()):=by
 refine eL ?_;have hl:=(oGS ht).1;unfold fc;refine Ok.get hl fun _ _=>?_;refine Ok.get (by rw[oLM];exact hl) fun _ _=>?_;refine Ok.get (by rw[oLM,oLM];exact hl) fun _ _=>?_;rw[iJ,iJ];exact Ok.ret rfl
theorem zy.ended{K:Int→Prop}{n why:Int}{t:DTh}(h:zy K n t) (hw:0≤why∧why≤6):zy K n (4,t.2.1,t.2.2.1,t.2.2.2.1,t.2.2.2.2.1,t.2.2.2.2.2.1,why,0):=
 ⟨⟨by dsimp only;omega,by dsimp only;omega⟩,h.len,h.regs,h.pc,h.count,h.handler,h.saved,hw,⟨by dsimp only;omega,by dsimp only;omega⟩⟩
theorem uX{ss bs:List Int}{key a:Int}(h:LV bs ss) (ha:0≤a∧a≤65535):Ok (fa bs key ss a) fun r=>(r.2.2.1=true→∃b n,0≤r.1∧bs[r.1.toNat]?=some b∧ss[r.1.toNat]?=some n∧0≤r.2.1∧r.2.1 < n∧a=b+r.2.1):=by
 obtain⟨hs,hl,hr⟩:=h;have hs4:=hs.2.1;unfold fa;delta dK
 try dsimp only
 obtain⟨t,e,ht⟩:=fN (f:=eI) (n:=NN) (s:=(ss,a,bs,(bs.length:Int),0,bs,key,0,0,())) (P:=fun s'=>∃k:Nat,s'=(ss,a,bs,(bs.length:Int),(k:Int),bs,key,0,0,())∧k≤bs.length)
  (R:=fun r=>(∃x y,r=.inl (true,x,y,())∧∃b n,0≤x∧bs[x.toNat]?=some b∧ss[x.toNat]?=some n∧0≤y∧y < n∧a=b+y)∨∃z,r=.inr z) (m:=fun s'=>(s'.2.2.2.1 - s'.2.2.2.2.1).toNat) ⟨0,rfl,by omega⟩ (by unfold NN;dsimp only;omega) (by
   rintro _ ⟨k,rfl,hk⟩;unfold eI;dsimp only
   (with_reducible refine dE (fun hca=>?_) fun hca=>?_)
   ·rw[dL];simp only[oBS];obtain⟨b,hb⟩:∃b,bs[k]?=some b:=⟨_,oGE (by omega)⟩;obtain⟨y,hy⟩:∃y,ss[k]?=some y:=⟨_,oGE (by omega)⟩;have hy2:=hs.2.2 y (dN hy);have hrk:=hr k (by omega);unfold vz at hrk;rw[d9 hb,d9 hy] at hrk;rw[show dH bs k=some b from hb];simp only[oBS];rw[show dH ss k=some y from hy];simp only[oBS];rw[dO (x:=b+y) (by omega) (by omega)];by_cases h1:a≥b
    ·by_cases h2:a < b+y
     ·simp only[h1,h2,decide_true,oCT];rw[dO (x:=a - b) (by omega) (by omega)];exact Ok.ret (.inl ⟨_,_,rfl,b,y,by omega,by rw[oTN];exact hb,by rw[oTN];exact hy,by omega,by omega,by omega⟩)
     ·simp only[h1,h2,decide_true,decide_false,oCT,oCF]
      (simp (disch:=omega) only [dO,dY,dT,dU])
      exact Ok.ret ⟨⟨k+1,rfl,by omega⟩,by dsimp only;omega⟩
    ·simp only[h1,decide_false,oCF]
     (simp (disch:=omega) only [dO,dY,dT,dU])
     exact Ok.ret ⟨⟨k+1,rfl,by omega⟩,by dsimp only;omega⟩
   ·exact Ok.ret (.inr ⟨_,rfl⟩))
 rw[e];rcases ht with ⟨x,y,rfl,hxy⟩ | ⟨z,rfl⟩
 ·exact Ok.ret fun _=>hxy
 ·exact Ok.ret fun h=>by cases h
theorem A3{ss:List Int}{r o:Int}:Ok (fr ss r o) fun x=>x.1=true→0≤r∧0≤o∧∃n,ss[r.toNat]?=some n∧o < n:=by
 unfold fr;delta dK
 try dsimp only
 (with_reducible refine dE (fun hca=>?_) fun hca=>?_)
 ·(with_reducible refine dE (fun hcb=>?_) fun hcb=>?_)
  ·(with_reducible refine dE (fun hcc=>?_) fun hcc=>?_)
   ·refine Ok.nat (by omega) fun j hj=>?_;refine Ok.get (by omega) fun n hn=>?_;subst hj;exact Ok.ret fun h=>⟨by omega,by omega,n,by rw[oTN];exact hn,of_decide_eq_true h⟩
   ·exact Ok.ret fun h=>by cases h
  ·exact Ok.ret fun h=>by cases h
 ·exact Ok.ret fun h=>by cases h
theorem ye{ss bs:List Int}{key tag v n:Int}{back:Bool}(h:LV bs ss) (hv:W16 v) (hn:W16 n):Ok (fu bs key ss tag v n back) fun r=>∃t x e,r=(t,x,e,())∧lT (RK bs ss) (t,x)∧0≤e∧e≤6∧(e=0→x < 512):=by
 have hz:∀e:Int,0 < e→e≤6→∃t x e',((0:Int),(0:Int),e,())=(t,x,e',())∧lT (RK bs ss) (t,x)∧0≤e'∧e'≤6∧(e'=0→x < 512):=fun e h1 h2=>⟨0,0,e,rfl,lF (by decide),by omega,h2,by omega⟩;obtain⟨v0,v1⟩:=hv;obtain⟨n0,n1⟩:=hn;unfold fu
 (with_reducible refine dE (fun hca=>?_) fun hca=>?_)
 ·exact Ok.ret (hz 3 (by decide) (by decide))
 ·rw[dT (x:=v) (by omega) (by omega),dT (x:=n) (by omega) (by omega)];refine (uX h ⟨v0,v1⟩).bind ?_;rintro⟨r,o,ok,_⟩ hres;dsimp only at hres ⊢
  (with_reducible refine dE (fun hcb=>?_) fun hcb=>?_)
  ·exact Ok.ret (hz 4 (by decide) (by decide))
  ·obtain⟨b,z,hr0,hb,hzz,ho0,ho1,_⟩:=hres hcb;have hz2:=h.1.2.2 z (dN hzz);refine Ok.bind (P:=fun x=>∃o',x=(ss,bs,key,0,0,r,o',())∧-70000≤o'∧o'≤70000) ?_ ?_
   ·refine Ok.cond (fun _=>?_) fun _=>?_
    ·(simp (disch:=omega) only [dO,dY,dT,dU])
     exact Ok.ret ⟨_,rfl,by omega,by omega⟩
    ·(simp (disch:=omega) only [dO,dY,dT,dU])
     exact Ok.ret ⟨_,rfl,by omega,by omega⟩
   rintro _ ⟨o',rfl,ho2,ho3⟩;dsimp only;refine A3.bind ?_;rintro⟨q,_⟩ hin;dsimp only at hin ⊢
   (with_reducible refine dE (fun hcc=>?_) fun hcc=>?_)
   ·exact Ok.ret (hz 4 (by decide) (by decide))
   ·obtain⟨_,g1,m,g2,g3⟩:=hin hcc;have hm2:=h.1.2.2 m (dN g2);refine Ok.nat hr0 fun j hj=>?_;subst hj;rw[oTN] at hb g2;have hjl:=(oGS hb).1;have hrj:=h.2.2 j hjl;unfold vz at hrj;rw[d9 hb,d9 g2] at hrj;rw[show dH bs j=some b from hb];simp only[oBS];rw[dO (x:=b+o') (by omega) (by omega),dY (x:=b+o') (by omega) (by omega)];exact Ok.ret ⟨_,_,_,rfl,⟨by dsimp only;omega,by dsimp only;omega,by dsimp only;omega,by dsimp only;omega,fun _=>⟨j,b,m,hb,g2,by dsimp only;omega,by dsimp only;omega⟩⟩,by decide,by decide,fun _=>by omega⟩
theorem iL.line{K:Int→Prop}{cs:List DCe}{ls:List DLn}(h:iL K cs ls) {i:Nat}{x:DLn}{f:DLn→DLn}(hx:ls[i]?=some x) (hf:PM K i (f x)) (hg:PZ cs (f x)):iL K cs (List.modify ls i f):=by
 have key:∀(j:Nat) y,(List.modify ls i f)[j]?=some y→PM K j y∧PZ cs y:=fun j y hy=>by
  rw[List.getElem?_modify] at hy;by_cases hij:i=j
  ·subst hij;rw[hx] at hy
   have hy:f x=y:=by simpa using hy
   rw[← hy];exact⟨hf,hg⟩
  ·simp only[hij,if_false] at hy;exact⟨h.lines j y (by simpa using hy),h.coh j y (by simpa using hy)⟩
 exact⟨h.clen,h.cells,by rw[oLM];exact h.llen,fun j y hy=>(key j y hy).1,fun j y hy=>(key j y hy).2⟩
theorem AO{cs xs:List DCe}{lo k:Nat}(h1:lo+4≤cs.length) (h3:4≤xs.length) (hk:k < lo∨lo+4≤k):(lP cs lo 4 xs)[k]?=cs[k]?:=by
 unfold lP;rcases hk with hk | hk
 ·rw[List.append_assoc,List.getElem?_append_left (by rw[oLT];omega),List.getElem?_take_of_lt hk]
 ·rw[List.getElem?_append_right (by simp only[List.length_append,oLT];omega),List.getElem?_drop];congr 1;simp only[List.length_append,oLT];omega
theorem JA{cs xs:List DCe}{lo o:Nat}(h1:lo+4≤cs.length) (h3:xs.length=4) (ho:o < 4):(lP cs lo 4 xs)[lo+o]?=xs[o]?:=by
 unfold lP;rw[List.getElem?_append_left (by simp only[List.length_append,oLT];omega),List.getElem?_append_right (by rw[oLT];omega),oLT,show lo+o - min lo cs.length=o by omega,List.getElem?_take_of_lt ho]
theorem Dt{K:Int→Prop}{cs xs:List DCe}{lo n:Nat}(h1:cs.length=512) (h2:lo+n≤512) (h3:n≤xs.length) (hc:∀c∈cs,lT K c) (hx:∀c∈xs,lT K c):(lP cs lo n xs).length=512∧∀c∈lP cs lo n xs,lT K c:=by
 unfold lP;refine⟨?_,fun c hh=>?_⟩
 ·simp only[List.length_append,oLT,List.length_drop];omega
 ·simp only[List.mem_append] at hh;rcases hh with (hh | hh) | hh
  ·exact hc c (List.mem_of_mem_take hh)
  ·exact hx c (List.mem_of_mem_take hh)
  ·exact hc c (List.mem_of_mem_drop hh)
theorem HC{K:Int→Prop}{cs:List DCe}{ls:List DLn}{a:Int}(h:iL K cs ls) (ha:0≤a∧a < 512):Ok (j5 a cs ls) fun r=>∃i cs' ls' x,r=(i,cs',ls',())∧iL K cs' ls'∧ls'[i]?=some x∧x.1=a / 4∧x.2.2.length=4:=by
 obtain⟨a0,a1⟩:=ha;obtain⟨h1,h2,h3,h4,h5⟩:=id h;unfold j5;rw[Int.tdiv_eq_ediv_of_nonneg a0,dO (x:=a / 4) (by omega) (by omega)];dsimp only;rw[Int.tmod_eq_emod_of_nonneg (show 0≤a / 4 by omega)];refine Ok.nat (by omega) fun i hi=>?_
 have hil:i < ls.length:=by omega
 obtain⟨x,hx⟩:∃x,ls[i]?=some x:=⟨_,oGE hil⟩;have hg:dH ls i=some x:=hx;have hL:=h4 i x hx;simp only[hg,oBS]
 (with_reducible refine dE (fun hca=>?_) fun hca=>?_)
 ·refine Ok.ret ⟨i,cs,ls,x,rfl,h,hx,hca,?_⟩;rcases hL with ⟨g1,_,_⟩ | ⟨_,_,_,g,_⟩
  ·omega
  ·exact g
 ·refine Ok.bind (P:=fun r=>∃cs',r=(a / 4,i,cs',ls,())∧cs'.length=512∧(∀c∈cs',lT K c)∧∀(j:Nat) y,ls[j]?=some y→PZ cs' y) ?_ ?_
  ·refine Ok.cond (fun hd=>?_) fun _=>Ok.ret ⟨cs,rfl,h1,h2,h5⟩;rcases hL with ⟨_,g,_⟩ | ⟨g1,g2,g3,g4,g5⟩
   ·rw[g] at hd;cases hd
   ·rw[dO (x:=x.1*4) (by omega) (by omega)];refine Ok.nat (by omega) fun q hq=>?_;refine dF (by unfold hY;simp;omega) ?_
    try simp only[hg,oBS]
    rw[g4,h1]
    have hmin:Nat.min 4 (Nat.sub 512 q)=4:=by
     show min 4 (512 - q)=4;omega
    rw[hmin];refine dF (by unfold hY;simp;omega) ?_;refine dF rfl ?_;obtain⟨s1,s2⟩:=Dt (lo:=q) (n:=4) h1 (by omega) (by omega) h2 g5;refine Ok.ret ⟨_,rfl,s1,s2,fun j y hy=>?_⟩;by_cases hij:j=i
    ·subst hij;rw[hx] at hy
     injection hy with hy
     subst hy;exact .inr (.inl hd)
    ·rcases h5 j y hy with g | g | g
     ·exact .inl g
     ·exact .inr (.inl g)
     ·rcases h4 j y hy with ⟨g',_,_⟩ | ⟨y1,y2,y3,y4,y5⟩
      ·exact .inl g'
      ·refine .inr (.inr fun o ho=>?_);rw[AO (by omega) (by omega) (by omega)];exact g o ho
  rintro _ ⟨cs',rfl,c1,c2,c3⟩;dsimp only;rw[dO (x:=a / 4*4) (by omega) (by omega),dO (x:=a / 4+1) (by omega) (by omega),dO (x:=(a / 4+1)*4) (by omega) (by omega)];simp only[hg,oBS];refine Ok.get (by rw[oLM];exact hil) fun _ _=>?_;refine Ok.nat (by omega) fun q hq=>?_;refine Ok.nat (by omega) fun q2 hq2=>?_;refine dF (by unfold hY;simp;omega) ?_
  have hw:(nv cs' q (Nat.sub q2 q)).length=4:=by
   unfold nv;rw[oLT,List.length_drop];show min (q2 - q) _=4;omega
  refine dF (dS (by omega)) ?_;refine Ok.get (by rw[oLM,oLM];exact hil) fun _ _=>?_;rw[iJ,iJ,show List.append [] (nv cs' q (Nat.sub q2 q))=nv cs' q (Nat.sub q2 q) from rfl];have hmem:iL K cs' ls:=⟨c1,c2,h3,h4,c3⟩;refine Ok.ret ⟨i,cs',_,_,rfl,hmem.line hx (.inr ⟨by dsimp only;omega,by dsimp only;omega,by dsimp only;omega,hw,fun c hc=>c2 c ?_⟩) (.inr (.inr fun o ho=>?_)),rM hx,rfl,hw⟩
  ·dsimp only at hc;unfold nv at hc;exact List.mem_of_mem_drop (List.mem_of_mem_take hc)
  ·dsimp only;unfold nv;rw[hq,oTN,List.getElem?_take_of_lt (show o < Nat.sub q2 q by show o < q2 - q;omega),List.getElem?_drop]
theorem KI{K:Int→Prop}{cs:List DCe}{ls:List DLn}{a:Int}(h:iL K cs ls) (ha:0≤a∧a < 512):Ok (lB a cs ls) fun r=>∃t v cs' ls',r=(t,v,cs',ls',())∧lT K (t,v)∧iL K cs' ls':=by
 unfold lB;refine (HC h ha).bind ?_;rintro _ ⟨i,cs',ls',x,rfl,hm,hx,hx1,hx2⟩;dsimp only;have hg:dH ls' i=some x:=hx;simp only[hg,oBS];rw[Int.tmod_eq_emod_of_nonneg ha.1];refine Ok.nat (by omega) fun j hj=>?_;refine Ok.get (by omega) fun _ _=>?_;refine Ok.get (by omega) fun c hc=>?_
 have hc2:lT K c:=by
  rcases hm.lines i x hx with ⟨_,_,g⟩ | ⟨_,_,_,_,g⟩
  ·rw[g] at hx2;cases hx2
  ·exact g c (dN hc)
 exact Ok.ret ⟨_,_,_,_,rfl,hc2,hm⟩
theorem AM{K:Int→Prop}{cs:List DCe}{ls:List DLn}{a t v:Int}(h:iL K cs ls) (ha:0≤a∧a < 512) (hc:lT K (t,v)):Ok (iH a t v cs ls) fun r=>∃cs' ls',r=(cs',ls',())∧iL K cs' ls':=by
 unfold iH;refine (HC h ha).bind ?_;rintro _ ⟨i,cs',ls',x,rfl,hm,hx,hx1,hx2⟩;dsimp only;have hg:dH ls' i=some x:=hx;have hil:=(oGS hx).1;simp only[hg,oBS];rw[Int.tmod_eq_emod_of_nonneg ha.1];refine Ok.nat (by omega) fun j hj=>?_;refine Ok.get (by omega) fun _ _=>?_;refine Ok.get (by omega) fun _ _=>?_;refine Ok.get (by rw[oLM];exact hil) fun _ _=>?_;rw[iJ];refine Ok.ret ⟨_,_,rfl,hm.line hx ?_ (.inr (.inl rfl))⟩;rcases hm.lines i x hx with ⟨_,_,g⟩ | ⟨g1,g2,g3,g4,g5⟩
 ·rw[g] at hx2;cases hx2
 ·exact .inr ⟨g1,g2,g3,by dsimp only;rw[oLM];exact g4,iK g5 fun _ _=>hc⟩
theorem oM(x:Int):W16 (wk .u16 x):=by
 unfold wk;rw[Bk];exact⟨by omega,by omega⟩
theorem MZ{ss bs:List Int}{key t v t' v':Int}(h:LV bs ss) (hv:W16 v) (hv':W16 v'):Ok (j3 bs key ss t v t' v') fun _=>True:=by
 obtain⟨v0,v1⟩:=hv;obtain⟨u0,u1⟩:=hv';unfold j3;rw[dT (x:=v) (by omega) (by omega),dT (x:=v') (by omega) (by omega)];refine (uX h ⟨v0,v1⟩).bind ?_;rintro⟨r,o,ok,_⟩ _;dsimp only;refine (uX h ⟨u0,u1⟩).bind ?_;rintro⟨r',o',ok',_⟩ _;dsimp only;cases ok<;>cases ok'<;>exact Ok.ret trivial
theorem Gu(b:Bool):jz b=some (0,(bif b then 1 else 0),()):=by cases b<;>rfl
theorem Pj{op b c:Int}(hb:W16 b) (hc:W16 c):Ok (j0 op b c) fun r=>∃v e,r=(0,v,e,())∧W16 v∧0≤e∧e≤6:=by
 obtain⟨b0,b1⟩:=hb;obtain⟨c0,c1⟩:=hc;have fin:∀x:Int,W16 x→Ok (some ((0:Int),x,(0:Int),())) fun r=>∃v e,r=(0,v,e,())∧W16 v∧0≤e∧e≤6:=fun x h=>Ok.ret ⟨x,0,rfl,h,by decide,by decide⟩;have z5:Ok (some ((0:Int),(0:Int),(5:Int),())) fun r=>∃v e,r=(0,v,e,())∧W16 v∧0≤e∧e≤6:=Ok.ret ⟨0,5,rfl,⟨by decide,by decide⟩,by decide,by decide⟩;have hw:∀x:Int,W16 (IntKind.wrap .u16 x):=oM;unfold j0
 (with_reducible refine dE (fun hca=>?_) fun hca=>?_)
 ·exact fin _ (oM _)
 (with_reducible refine dE (fun hcb=>?_) fun hcb=>?_)
 ·exact fin _ (oM _)
 (with_reducible refine dE (fun hcc=>?_) fun hcc=>?_)
 ·exact fin _ (oM _)
 have hq:∀X:Option (Int×Int×Int×Unit),c≠0→(X=(bif (op==6) then (bif (c != 0) then some ((0:Int),wk .u16 (Int.tdiv b c),(0:Int),()) else none) else bif (c != 0) then some ((0:Int),Int.tmod b c,(0:Int),()) else none))→Ok X fun r=>∃v e,r=(0,v,e,())∧W16 v∧0≤e∧e≤6:=by
  rintro _ hne rfl;refine Ok.cond (fun _=>dF (by rw[bne_iff_ne];exact hne) (fin _ (oM _))) fun _=>dF (by rw[bne_iff_ne];exact hne) (fin _ ?_);rw[Int.tmod_eq_emod_of_nonneg b0];have h1:=Int.emod_nonneg b hne;have h2:=Int.emod_lt_of_pos b (show 0 < c by omega);exact⟨h1,by omega⟩
 (with_reducible refine dE (fun hcd=>?_) fun hcd=>?_)
 ·(with_reducible refine dE (fun hce=>?_) fun hce=>?_)
  ·exact z5
  ·exact hq _ hce rfl
 (with_reducible refine dE (fun hcd=>?_) fun hcd=>?_)
 ·(with_reducible refine dE (fun hce=>?_) fun hce=>?_)
  ·exact z5
  ·exact hq _ hce rfl
 (with_reducible refine dE (fun hcf=>?_) fun hcf=>?_)
 ·exact fin _ (hw _)
 (with_reducible refine dE (fun hcf=>?_) fun hcf=>?_)
 ·exact fin _ (hw _)
 (with_reducible refine dE (fun hcf=>?_) fun hcf=>?_)
 ·exact fin _ (hw _)
 (with_reducible refine dE (fun hcf=>?_) fun hcf=>?_)
 ·rw[Int.tmod_eq_emod_of_nonneg c0];refine Ok.nat (by omega) fun j hj=>?_;exact fin _ (hw _)
 (with_reducible refine dE (fun hcf=>?_) fun hcf=>?_)
 ·rw[Int.tmod_eq_emod_of_nonneg c0];refine Ok.nat (by omega) fun j hj=>fin _ ?_;show W16 (Int.fdiv b (2 ^ (min j 16)));have hp:(0:Int) < 2 ^ (min j 16):=Int.pow_pos (by decide);rw[Int.fdiv_eq_ediv_of_nonneg _ (by omega)];exact⟨Int.ediv_nonneg b0 (by omega),by have:=Int.ediv_le_self (2 ^ (min j 16)) b0;omega⟩
 rw[Gu];refine fin _ ?_;cases decide (b < c)
 ·exact⟨by decide,by decide⟩
 ·exact⟨by decide,by decide⟩
def Nv(K:Int→Prop) (r:Int×Int×Int×Unit):Prop:=∃t v e,r=(t,v,e,())∧lT K (t,v)∧0≤e∧e≤6
theorem qR{K:Int→Prop}{t v e:Int}(h:lT K (t,v)) (h0:0≤e) (h1:e≤6):Ok (some (t,v,e,())) (Nv K):=Ok.ret ⟨t,v,e,rfl,h,h0,h1⟩
theorem xu{K:Int→Prop}{v:Int}(h:W16 v):lT K (0,v):=lF h
theorem E7{K:Int→Prop}(b:Bool):lT K (0,bif b then 1 else 0):=xu (by cases b<;>exact⟨by decide,by decide⟩)
theorem to{K:Int→Prop}:lT K (0,0):=xu ⟨by decide,by decide⟩
theorem P9{ss bs:List Int}{key op t v t' v':Int}(h:LV bs ss) (hb:lT (RK bs ss) (t,v)) (hc:lT (RK bs ss) (t',v')):Ok (rD bs key ss op t v t' v') (Nv (RK bs ss)):=by
 obtain⟨t0,t2,v0,v1,_⟩:=hb;obtain⟨u0,u2,w0,w1,_⟩:=hc;dsimp only at t0 t2 v0 v1 u0 u2 w0 w1;obtain⟨_,eN,n1,n2,rfl,hn1,hn2,hn3⟩:=Pj (op:=op) (b:=v) (c:=v') ⟨v0,v1⟩ ⟨w0,w1⟩;obtain⟨_,eA,a1,a2,a3,rfl,ha1,ha2,ha3,_⟩:=ye (key:=key) (tag:=t) (back:=false) h (v:=v) (n:=v') ⟨v0,v1⟩ ⟨w0,w1⟩;obtain⟨_,eB,b1,b2,b3,rfl,hb1,hb2,hb3,_⟩:=ye (key:=key) (tag:=t') (back:=false) h (v:=v') (n:=v) ⟨w0,w1⟩ ⟨v0,v1⟩;obtain⟨_,eC,c1,c2,c3,rfl,hc1,hc2,hc3,_⟩:=ye (key:=key) (tag:=t) (back:=true) h (v:=v) (n:=v') ⟨v0,v1⟩ ⟨w0,w1⟩;obtain⟨⟨p1,p2,p3,p4,ok,_⟩,eP,_⟩:=MZ (key:=key) (t:=t) (t':=t') h (v:=v) (v':=v') ⟨v0,v1⟩ ⟨w0,w1⟩;unfold rD
 (with_reducible refine dE (fun hca=>?_) fun hca=>?_)
 ·exact qR to (by decide) (by decide)
 (with_reducible refine dE (fun hcb=>?_) fun hcb=>?_)
 ·exact qR to (by decide) (by decide)
 cases h14:(op==14) with
 | true=>
  simp only[oCT,Gu,oBS];exact qR (E7 _) (by decide) (by decide)
 | false=>
  simp only[oCF,eN,eA,eB,eC,eP,oBS]
  rcases (show t=0∨t=1∨t=2 by omega) with rfl | rfl | rfl<;>rcases (show t'=0∨t'=1∨t'=2 by omega) with rfl | rfl | rfl
  all_goals
   cases h3:(op==3)<;>cases h4:(op==4)<;>cases h13:(op==13)<;>simp only[Int.reduceBEq,oCT,oCF,oBS,h3,h4,h13,Gu,eN,eA,eB,eC,eP,BEq.rfl]
  all_goals first
   | exact qR (xu hn1) hn2 hn3
   | exact qR ha1 ha2 ha3
   | exact qR hb1 hb2 hb3
   | exact qR hc1 hc2 hc3
   | exact qR to (by decide) (by decide)
   | (cases ok<;>first
    | exact qR to (by decide) (by decide)
    | exact qR (E7 _) (by decide) (by decide)
    | exact qR (xu (oM _)) (by decide) (by decide))
theorem Le{l:List Int}{k:Int}(h:DOk l k):Ok (mj l k) fun r=>∃t b s k',r=(t,b,s,l,k',())∧0≤t∧t < 4∧0≤b∧b≤63∧DOk l k':=by
 unfold mj
 (with_reducible refine fi (by assumption) (by omega) (by omega) (fun v0 k0 a0 b0 d0=>?_);try dsimp only)
 (with_reducible refine fi (by assumption) (by omega) (by omega) (fun v1 k1 a1 b1 d1=>?_);try dsimp only)
 (with_reducible refine Ok.nat (by omega) (fun j1 hj1=>?_);try dsimp only)
 have hm:∀x∈[(0:Int),1,2,3,7,63],0≤x∧x≤63:=all_cons (by omega) (all_cons (by omega) (all_cons (by omega) (all_cons (by omega) (all_cons (by omega) (all_cons (by omega) ef)))));refine Ok.get (by simp only[oLC,List.length_nil];omega) fun x hx=>?_;refine Ok.get (by simp only[oLC,List.length_nil];omega) fun y hy=>?_;have hy2:=hm y (dN hy)
 (with_reducible refine fi (by assumption) (by omega) (by omega) (fun v2 k2 a2 b2 d2=>?_);try dsimp only)
 exact Ok.ret ⟨_,_,_,_,rfl,a0,b0,hy2.1,hy2.2,d2⟩
def ia:List DTh→Int→List Int
 | [],_=>[]
 | t :: ts,i=>if t.1=1 then i :: ia ts (i+1) else ia ts (i+1)
theorem Bu(a b:List DTh) (i:Int):ia (a++b) i=ia a i++ia b (i+a.length):=by
 induction a generalizing i with
 | nil=>simp[ia]
 | cons t a ih=>
  simp only[List.cons_append,ia,ih,oLC];rw[show i+1+(a.length:Int)=i+((a.length+1:Nat):Int) by omega];split<;>rfl
theorem AU(a:List DTh) (i:Int):(ia a i).length≤a.length:=by
 induction a generalizing i with
 | nil=>simp[ia]
 | cons t a ih=>
  simp only[ia];have:=ih (i+1);split<;>simp only[oLC]<;>omega
theorem Ip{a:List DTh}{i x:Int}(h:x∈ia a i):i≤x∧x < i+a.length∧∃t,a[(x - i).toNat]?=some t∧t.1=1:=by
 induction a generalizing i with
 | nil=>simp[ia] at h
 | cons t a ih=>
  simp only[ia] at h
  have key:x∈ia a (i+1)→i≤x∧x < i+((t :: a).length:Int)∧∃t',(t :: a)[(x - i).toNat]?=some t'∧t'.1=1:=by
   intro h;obtain⟨h1,h2,t',h3,h4⟩:=ih h;refine⟨by omega,by simp only[oLC];omega,t',?_,h4⟩;rw[show (x - i).toNat=(x - (i+1)).toNat+1 by omega,List.getElem?_cons_succ];exact h3
  split at h
  ·rename_i ht;rcases List.mem_cons.1 h with rfl | h
   ·exact⟨by omega,by simp only[oLC];omega,t,by simp,ht⟩
   ·exact key h
  ·exact key h
theorem Mc{ts:List DTh}(h:ts.length≤1000):l9 ts=some (ia ts 0,()):=by
 have e:dQ gX NN (ts,(ts.length:Int),0,[],())=some (ts,(ts.length:Int),(ts.length:Int),false,ia ts 0,()):=by
  have:=mH (f:=gX) (N:=NN) (st:=fun k=>(ts,(ts.length:Int),(k:Int),ia (ts.take k) 0,())) (n:=ts.length) (t:=(ts,(ts.length:Int),(ts.length:Int),false,ia ts 0,())) (by unfold NN;omega) ?_ ?_
  ·exact this
  ·intro k hk;unfold gX;dsimp only
   (with_reducible refine dE (fun hca=>?_) fun hca=>?_)
   ·rw[dL];simp only[oBS];obtain⟨x,hx⟩:∃x,ts[k]?=some x:=⟨_,oGE hk⟩;rw[show dH ts k=some x from hx];simp only[oBS];have hlen:=AU (ts.take k) 0;rw[oLT] at hlen
    have hnext:ia (ts.take (k+1)) 0=ia (ts.take k) 0++(if x.1=1 then [(k:Int)] else []):=by
     rw[List.take_add_one,hx,Bu];congr 1;rw[oLT,show 0+((min k ts.length:Nat):Int)=(k:Int) by omega];simp only[Option.toList,ia]
    refine Ok.bind (P:=(·=(ts,(ts.length:Int),(k:Int),ia (ts.take (k+1)) 0,()))) ?_ ?_
    ·(with_reducible refine dE (fun hcb=>?_) fun hcb=>?_)
     ·refine dF (dS (by simp;omega)) ?_;rw[hnext,oIP hcb];exact Ok.ret rfl
     ·rw[hnext,oIN hcb,List.append_nil];exact Ok.ret rfl
    ·rintro _ rfl;dsimp only
     (simp (disch:=omega) only [dO,dY,dT,dU])
     exact Ok.ret rfl
   ·omega
  ·unfold gX;dsimp only
   (with_reducible refine dE (fun hca=>?_) fun hca=>?_)
   ·omega
   ·rw[List.take_length];exact Ok.ret rfl
 refine eL ?_;unfold l9;delta dK
 try dsimp only
 rw[e];exact Ok.ret rfl
theorem za{ow:List Int}{qs:List (List Int)}(h:iA ow qs):jw ow qs=some (ow,qs,()):=by
 have hq4:∀q∈qs,q.length≤4:=fun q hq=>h.qlen4 hq;obtain⟨h1,h2,h3,h4⟩:=h
 have e:dQ io NN (qs,(qs.length:Int),0,ow,qs,(),(),ow,[],())=some (qs,(qs.length:Int),(qs.length:Int),false,ow,qs,(),(),ow,qs,()):=by
  have:=mH (f:=io) (N:=NN) (st:=fun k=>(qs,(qs.length:Int),(k:Int),ow,qs,(),(),ow,qs.take k,())) (n:=qs.length) (t:=(qs,(qs.length:Int),(qs.length:Int),false,ow,qs,(),(),ow,qs,())) (by unfold NN;omega) ?_ ?_
  ·exact this
  ·intro k hk;unfold io;dsimp only
   (with_reducible refine dE (fun hca=>?_) fun hca=>?_)
   ·rw[dL];simp only[oBS];refine Ok.get (by omega) fun x hx=>?_;have:=hq4 x (dN hx);refine dF (dS (by omega)) (dF (dS (by simp;omega)) ?_)
    (simp (disch:=omega) only [dO,dY,dT,dU])
    refine Ok.ret ?_;rw[List.take_add_one,hx];rfl
   ·omega
  ·unfold io;dsimp only
   (with_reducible refine dE (fun hca=>?_) fun hca=>?_)
   ·omega
   ·rw[List.take_length];exact Ok.ret rfl
 refine eL ?_;unfold jw;refine dF (dS (by omega)) ?_;rw[show List.append [] ow=ow from rfl];delta dK
 try dsimp only
 rw[e];exact Ok.ret rfl
theorem Gq{ow:List Int}{qs:List (List Int)}{lock t:Int}(h:iA ow qs):Ok (jv ow qs lock t) fun r=>∃ow' qs' n b,r=(ow',qs',n,b,())∧iA ow' qs'∧-1≤n∧n≤3:=by
 unfold jv;rw[za h];simp only[oBS];obtain⟨h1,h2,h3,h4⟩:=id h;refine Ok.bind (P:=fun r=>∃b,r=(lock,b,(),(),ow,qs,())∧(b=false→0≤lock∧lock < 4)) ?_ ?_
 ·(with_reducible refine dE (fun hca=>?_) fun hca=>?_)
  ·exact Ok.ret ⟨true,rfl,fun h=>by cases h⟩
  ·(with_reducible refine dE (fun hcb=>?_) fun hcb=>?_)
   ·exact Ok.ret ⟨true,rfl,fun h=>by cases h⟩
   ·refine Ok.nat (by omega) fun j hj=>?_;refine Ok.get (by omega) fun x hx=>?_;exact Ok.ret ⟨_,rfl,fun _=>⟨by omega,by omega⟩⟩
 rintro _ ⟨b,rfl,hb⟩;dsimp only;refine Ok.cond (fun _=>Ok.ret ⟨_,_,_,_,rfl,h,by omega,by omega⟩) fun hbf=>?_;obtain⟨l0,l1⟩:=hb hbf;obtain⟨j,rfl⟩:∃j:Nat,lock=j:=⟨lock.toNat,by omega⟩;obtain⟨o,ho⟩:∃o,ow[j]?=some o:=⟨_,oGE (by omega)⟩;obtain⟨q,hq⟩:∃q,qs[j]?=some q:=⟨_,oGE (by omega)⟩;have go:dH ow j=some o:=ho;have gq:dH qs j=some q:=hq;have gm:∀f:Int→Int,dH (List.modify ow j f) j=some (f o):=fun f=>rM ho;have gm2:∀f g:Int→Int,dH (List.modify (List.modify ow j f) j g) j=some (g (f o)):=fun f g=>rM (rM ho);delta dK;simp only[dL,oBS,go,gq,gm,gm2];have hl1:iA (List.modify ow j fun _=>-1) qs:=⟨by rw[oLM];exact h1,h2,iK h3 fun _ _=>⟨by omega,by omega⟩,h4⟩
 (with_reducible refine dE (fun hcc=>?_) fun hcc=>?_)
 ·obtain⟨x,hx⟩:∃x,q[0]?=some x:=⟨_,oGE (by omega)⟩;have gx:dH q 0=some x:=hx;have hx2:=(h4 q (dN hq)).2 x (dN hx);simp only[gx,oBS];refine dF (by unfold hY;simp;omega) ?_;refine Ok.ret ⟨_,_,_,_,rfl,⟨by rw[oLM,oLM];exact h1,by rw[oLM];exact h2,iK (iK h3 fun _ _=>⟨by omega,by omega⟩) fun _ _=>⟨by omega,by omega⟩,iK h4 fun _ _=>?_⟩,by omega,by omega⟩;obtain⟨q1,q2⟩:=h4 q (dN hq);unfold nv;have hs:(List.take (Nat.sub q.length 1) (List.drop 1 q)).Sublist q:=(List.take_sublist _ _).trans (List.drop_sublist _ _);exact⟨q1.sublist hs,fun t ht=>q2 t (hs.subset ht)⟩
 ·exact Ok.ret ⟨_,_,_,_,rfl,hl1,by omega,by omega⟩
theorem IE{q:List Int}{x:Int}(h:q.Nodup) (hx:x ∉ q):(q++[x]).Nodup:=by
 rw[List.nodup_append];refine⟨h,by simp,fun a ha b hb=>?_⟩;simp only[List.mem_singleton] at hb;subst hb;intro e;subst e;exact hx ha
theorem OF{ow:List Int}{qs:List (List Int)}{t:Int}(h:iA ow qs):Ok (nJ ow qs t) fun r=>∃ow' qs' nx,r=(ow',qs',nx,())∧iA ow' qs'∧nx.length≤4∧∀x∈nx,0≤x∧x≤3:=by
 unfold nJ;rw[za h];delta dK;simp only[oBS];have h2:=h.qlen;refine Ok.loop (P:=fun s'=>∃k:Nat,∃qs',s'=(t,(qs.length:Int),(k:Int),(),(),ow,qs',())∧k≤qs.length∧iA ow qs') (R:=fun r=>∃a b c qs',r=(t,a,b,c,(),(),ow,qs',())∧iA ow qs') (m:=fun s'=>(s'.2.1 - s'.2.2.1).toNat) ⟨0,qs,rfl,by omega,h⟩ (by unfold NN;dsimp only;omega) ?_ ?_
 ·rintro _ ⟨k,qs',rfl,hk,hl⟩;obtain⟨g1,g2,g3,g4⟩:=id hl;unfold qu;dsimp only
  (with_reducible refine dE (fun hca=>?_) fun hca=>?_)
  ·obtain⟨q,hq⟩:∃q,qs'[k]?=some q:=⟨_,oGE (by omega)⟩;have gq:dH qs' k=some q:=hq;obtain⟨q1,q2⟩:=g4 q (dN hq);have q3:=hl.qlen4 (dN hq);delta dK;simp only[dL,oBS,gq]
   refine Ok.loop (P:=fun s'=>∃j:Nat,∃l,s'=(t,(k:Int),(qs.length:Int),(k:Int),k,(q.length:Int),(j:Int),(),(),ow,qs',l,())∧j≤q.length∧l.Sublist (q.take j))
    (R:=fun r=>∃a b c d l,r=(t,(k:Int),(qs.length:Int),(k:Int),a,b,c,d,(),(),ow,qs',l,())∧l.Sublist q) (m:=fun s'=>(s'.2.2.2.2.2.1 - s'.2.2.2.2.2.2.1).toNat) ⟨0,[],rfl,by omega,by simp⟩ (by unfold NN;dsimp only;omega) ?_ ?_
   ·rintro _ ⟨j,l,rfl,hj,hsub⟩;unfold qv;dsimp only
    (with_reducible refine dE (fun hcb=>?_) fun hcb=>?_)
    ·obtain⟨x,hx⟩:∃x,q[j]?=some x:=⟨_,oGE (by omega)⟩;have gx:dH q j=some x:=hx;simp only[dL,oBS,gq,gx];have hll:=hsub.length_le;rw[oLT] at hll
     have htk:q.take (j+1)=q.take j++[x]:=by rw[List.take_add_one,hx];rfl
     refine Ok.bind (P:=fun r=>∃l',r=(t,(k:Int),(qs.length:Int),(k:Int),k,(q.length:Int),(j:Int),(),(),ow,qs',l',())∧l'.Sublist (q.take (j+1))) ?_ ?_
     ·refine Ok.cond (fun _=>dF (dS (by simp;omega)) (Ok.ret ⟨_,rfl,?_⟩)) fun _=>Ok.ret ⟨l,rfl,?_⟩
      ·rw[htk];exact hsub.append (List.Sublist.refl _)
      ·rw[htk];exact hsub.trans (List.sublist_append_left _ _)
     ·rintro _ ⟨l',rfl,hs⟩;dsimp only
      (simp (disch:=omega) only [dO,dY,dT,dU])
      exact Ok.ret ⟨⟨j+1,l',rfl,by omega,hs⟩,by dsimp only;omega⟩
    ·exact Ok.ret ⟨_,_,_,_,l,rfl,hsub.trans (List.take_sublist _ _)⟩
   ·rintro _ ⟨a,b,c,d,l,rfl,hs⟩;dsimp only;simp only[dL,oBS,gq]
    (simp (disch:=omega) only [dO,dY,dT,dU])
    exact Ok.ret ⟨⟨k+1,_,rfl,by omega,⟨g1,by rw[oLM];exact g2,g3,iK g4 fun _ _=>⟨q1.sublist hs,fun t ht=>q2 t (hs.subset ht)⟩⟩⟩,by dsimp only;omega⟩
  ·exact Ok.ret ⟨_,_,_,qs',rfl,hl⟩
 ·rintro _ ⟨a,b,c,qs',rfl,hl⟩;dsimp only
  refine Ok.loop (P:=fun s'=>∃k:Nat,∃ow' qs' nx,s'=(t,4,(k:Int),(),(),ow',qs',nx,())∧k≤4∧nx.length≤k∧iA ow' qs'∧∀x∈nx,0≤x∧x≤3) (R:=fun r=>∃a b c ow' qs' nx,r=(t,a,b,c,(),(),ow',qs',nx,())∧iA ow' qs'∧nx.length≤4∧∀x∈nx,0≤x∧x≤3) (m:=fun s'=>(4 - s'.2.2.1).toNat)
   ⟨0,ow,qs',[],by rw[hl.olen];rfl,by omega,by simp,hl,ef⟩ (by unfold NN;dsimp only;omega) ?_ ?_
  ·rintro _ ⟨k,ow',qs',nx,rfl,hk,hnl,hl',hnx⟩;unfold qt;dsimp only
   (with_reducible refine dE (fun hca=>?_) fun hca=>?_)
   ·refine (Gq hl').bind ?_;rintro _ ⟨ow2,qs2,n,bb,rfl,hl2,n0,n1⟩;dsimp only;refine Ok.bind (P:=fun r=>∃nx',r=(t,4,(k:Int),(),(),ow',qs',nx',ow2,qs2,())∧nx'.length≤k+1∧∀x∈nx',0≤x∧x≤3) ?_ ?_
    ·refine Ok.cond (fun _=>?_) fun _=>Ok.ret ⟨nx,rfl,by omega,hnx⟩
     (with_reducible refine dE (fun hcb=>?_) fun hcb=>?_)
     ·refine dF (dS (by simp;omega)) (Ok.ret ⟨_,rfl,by rw[eW];simp;omega,iS hnx (all_cons ⟨by omega,n1⟩ ef)⟩)
     ·exact Ok.ret ⟨nx,rfl,by omega,hnx⟩
    ·rintro _ ⟨nx',rfl,hn1,hn2⟩;dsimp only
     (simp (disch:=omega) only [dO,dY,dT,dU])
     exact Ok.ret ⟨⟨k+1,_,_,_,rfl,by omega,hn1,hl2,hn2⟩,by dsimp only;omega⟩
   ·exact Ok.ret ⟨_,_,_,_,_,_,rfl,hl',by omega,hnx⟩
  ·rintro _ ⟨a,b,c,ow',qs',nx,rfl,hl',hn4,hnx⟩;exact Ok.ret ⟨_,_,_,rfl,hl',hn4,hnx⟩
theorem NC{ow:List Int}{qs:List (List Int)}{lock t:Int}(h:iA ow qs) (ht:0≤t∧t≤3):Ok (nI ow qs lock t) fun r=>∃ow' qs' n,r=(ow',qs',n,())∧iA ow' qs':=by
 unfold nI;rw[za h];simp only[oBS];obtain⟨h1,h2,h3,h4⟩:=id h;refine Ok.bind (P:=fun r=>∃b,r=(lock,t,b,ow,qs,(),(),ow,qs,())∧(b=false→0≤lock∧lock < 4)) ?_ ?_
 ·(with_reducible refine dE (fun hca=>?_) fun hca=>?_)
  ·exact Ok.ret ⟨true,rfl,fun h=>by cases h⟩
  ·(with_reducible refine dE (fun hcb=>?_) fun hcb=>?_)
   ·exact Ok.ret ⟨true,rfl,fun h=>by cases h⟩
   ·refine Ok.nat (by omega) fun j hj=>?_;refine Ok.get (by omega) fun x hx=>?_;exact Ok.ret ⟨_,rfl,fun _=>⟨by omega,by omega⟩⟩
 rintro _ ⟨b,rfl,hb⟩;dsimp only;refine Ok.cond (fun _=>Ok.ret ⟨_,_,_,rfl,h⟩) fun hbf=>?_;obtain⟨l0,l1⟩:=hb hbf;delta dK
 try dsimp only
 obtain⟨r,e,hr⟩:=fN (f:=mS) (n:=NN) (s:=(lock,t,qs,(qs.length:Int),0,ow,qs,(),(),ow,qs,())) (P:=fun s'=>∃k:Nat,s'=(lock,t,qs,(qs.length:Int),(k:Int),ow,qs,(),(),ow,qs,())∧k≤qs.length∧∀(i:Nat) q,i < k→qs[i]?=some q→t ∉ q)
  (R:=fun r=>r=.inl (2,ow,qs,())∨((∃a b c,r=.inr (lock,t,a,b,c,false,ow,qs,(),(),ow,qs,()))∧∀q∈qs,t ∉ q)) (m:=fun s'=>(s'.2.2.2.1 - s'.2.2.2.2.1).toNat) ⟨0,rfl,by omega,fun i q hi=>by omega⟩ (by unfold NN;dsimp only;omega) (by
   rintro _ ⟨k,rfl,hk,hall⟩;unfold mS;dsimp only
   (with_reducible refine dE (fun hca=>?_) fun hca=>?_)
   ·obtain⟨q,hq⟩:∃q,qs[k]?=some q:=⟨_,oGE (by omega)⟩;have gq:dH qs k=some q:=hq;have q3:=h.qlen4 (dN hq);delta dK;simp only[dL,oBS,gq]
    obtain⟨r,e,hr⟩:=fN (f:=mT) (n:=NN) (s:=(lock,t,qs,(qs.length:Int),(k:Int),q,(q.length:Int),0,ow,qs,(),(),ow,qs,())) (P:=fun s'=>∃j:Nat,s'=(lock,t,qs,(qs.length:Int),(k:Int),q,(q.length:Int),(j:Int),ow,qs,(),(),ow,qs,())∧j≤q.length∧∀(i:Nat) x,i < j→q[i]?=some x→x≠t)
     (R:=fun r=>r=.inl (2,ow,qs,())∨((∃a b c,r=.inr (lock,t,qs,(qs.length:Int),(k:Int),a,b,c,false,ow,qs,(),(),ow,qs,()))∧t ∉ q)) (m:=fun s'=>(s'.2.2.2.2.2.2.1 - s'.2.2.2.2.2.2.2.1).toNat) ⟨0,rfl,by omega,fun i x hi=>by omega⟩ (by unfold NN;dsimp only;omega) (by
      rintro _ ⟨j,rfl,hj,hne⟩;unfold mT;dsimp only
      (with_reducible refine dE (fun hcb=>?_) fun hcb=>?_)
      ·obtain⟨x,hx⟩:∃x,q[j]?=some x:=⟨_,oGE (by omega)⟩;have gx:dH q j=some x:=hx;simp only[dL,oBS,gx]
       (with_reducible refine dE (fun hcc=>?_) fun hcc=>?_)
       ·exact Ok.ret (.inl rfl)
       ·(simp (disch:=omega) only [dO,dY,dT,dU])
        exact Ok.ret ⟨⟨j+1,rfl,by omega,HS hne hx hcc⟩,by dsimp only;omega⟩
      ·refine Ok.ret (.inr ⟨⟨_,_,_,rfl⟩,fun hm=>?_⟩);obtain⟨i,hi⟩:=List.getElem?_of_mem hm
       exact hne i t (by have:=(oGS hi).1;omega) hi rfl)
    rw[e];rcases hr with rfl | ⟨⟨a,b,c,rfl⟩,hnot⟩
    ·exact Ok.ret (.inl rfl)
    ·dsimp only
     (simp (disch:=omega) only [dO,dY,dT,dU])
     refine Ok.ret ⟨⟨k+1,rfl,by omega,fun i q' hi hq'=>?_⟩,by dsimp only;omega⟩;by_cases hik:i=k
     ·subst hik;rw[hq] at hq'
      injection hq' with hq'
      rw[← hq'];exact hnot
     ·exact hall i q' (by omega) hq'
   ·refine Ok.ret (.inr ⟨⟨_,_,_,rfl⟩,fun q hq=>?_⟩);obtain⟨i,hi⟩:=List.getElem?_of_mem hq
    exact hall i q (by have:=(oGS hi).1;omega) hi)
 rw[e];rcases hr with rfl | ⟨⟨a,b,c,rfl⟩,hnot⟩
 ·exact Ok.ret ⟨_,_,_,rfl,h⟩
 ·dsimp only;obtain⟨j,rfl⟩:∃j:Nat,lock=j:=⟨lock.toNat,by omega⟩;obtain⟨o,ho⟩:∃o,ow[j]?=some o:=⟨_,oGE (by omega)⟩;obtain⟨q,hq⟩:∃q,qs[j]?=some q:=⟨_,oGE (by omega)⟩;have go:dH ow j=some o:=ho;have gq:dH qs j=some q:=hq;simp only[dL,oBS,go,gq]
  (with_reducible refine dE (fun hcd=>?_) fun hcd=>?_)
  ·exact Ok.ret ⟨_,_,_,rfl,⟨by rw[oLM];exact h1,h2,iK h3 fun _ _=>⟨by omega,ht.2⟩,h4⟩⟩
  ·have q3:=h.qlen4 (dN hq);refine dF (dS (by simp;omega)) (dF (by simp) (Ok.ret ⟨_,_,_,rfl,⟨h1,by rw[oLM];exact h2,h3,iK h4 fun _ _=>⟨?_,?_⟩⟩⟩))
   ·exact IE (h4 q (dN hq)).1 (hnot q (dN hq))
   ·exact iS (h4 q (dN hq)).2 (all_cons ht ef)
theorem eq{α:Type}{l:List α}{i:Nat}{a:α}(h:l[i]?=some a) (f:α→α):List.modify l i f=l.set i (f a):=by
 rw[← AZ];apply List.ext_getElem?;intro j;simp only[List.getElem?_modify];by_cases hij:i=j
 ·subst hij;rw[h];rfl
 ·simp[hij]
theorem gz{α:Type}{l:List α}{i:Nat}(h:i < l.length) (a:α):dH (l.set i a) i=some a:=by
 show (l.set i a)[i]?=some a;rw[List.getElem?_set];simp[h]
theorem om{α:Type}{l:List α}{i:Nat}(h:i < l.length) (a:α) (f:α→α):List.modify (l.set i a) i f=l.set i (f a):=by
 rw[eq (a:=a) (gz h a),List.set_set]
theorem iw{α:Type}{P:α→Prop}{l:List α}{i:Nat}{a:α}(h:∀x∈l,P x) (ha:P a):∀x∈l.set i a,P x:=by
 intro x hx;rcases List.mem_or_eq_of_mem_set hx with hx | rfl
 ·exact h x hx
 ·exact ha
theorem MOk.set{n:Int}{ss bs:List Int}{cs cs':List DCe}{ls ls':List DLn}{ts:List DTh}(h:MOk n ss bs cs ls ts) (hm:iL (RK bs ss) cs' ls') {i:Nat}{t:DTh}(ht:zy (RK bs ss) n t):MOk n ss bs cs' ls' (ts.set i t):=
 ⟨h.lay,hm,by rw[List.length_set];exact h.tlen,iw h.thr ht⟩
def QC(code:List DIn) (t:DTh) (s:Int) (t':DTh):Prop:=
 (s=-1∧t'.1=1∧((t'.2.2.2.1=t.2.2.2.1∧t'.2.2.1=t.2.2.1+1)∨t'.2.2.2.1=t.2.2.2.1+1))∨(s=2∧t'.1=4∧t'.2.2.2.1=t.2.2.2.1) ∨
  (s=1∧t'.1=2∧t'.2.2.2.1=t.2.2.2.1∧∃i:DIn,1≤t'.2.2.1∧code[(t'.2.2.1 - 1).toNat]?=some i∧i.1=23)
def GQ(n key:Int) (code:List DIn) (ss bs:List Int) (ts:List DTh) (i:Nat) (t:DTh) (r:Int×List Int×Int×List DCe×List DLn×List DTh×Unit):Prop:=
 ∃s cs' ls' t',r=(s,bs,key,cs',ls',ts.set i t',())∧iL (RK bs ss) cs' ls'∧zy (RK bs ss) n t'∧QC code t s t'
theorem m8{n key:Int}{code:List DIn}{ss bs:List Int}{ts:List DTh}{i:Nat}{t t':DTh}{cs':List DCe}{ls':List DLn}(hm:iL (RK bs ss) cs' ls') (ht:zy (RK bs ss) n t') (h1:t'.1=1)
 (h:(t'.2.2.2.1=t.2.2.2.1∧t'.2.2.1=t.2.2.1+1)∨t'.2.2.2.1=t.2.2.2.1+1):Ok (some (-1,bs,key,cs',ls',ts.set i t',())) (GQ n key code ss bs ts i t):=Ok.ret ⟨_,_,_,_,rfl,hm,ht,.inl ⟨rfl,h1,h⟩⟩
theorem ml{n key why:Int}{code:List DIn}{ss bs:List Int}{ts:List DTh}{i:Nat}{t:DTh}{cs':List DCe}{ls':List DLn}(hm:iL (RK bs ss) cs' ls') (ht:zy (RK bs ss) n t) (hw:0≤why∧why≤6) :
 Ok (some (2,bs,key,cs',ls',ts.set i (4,t.2.1,t.2.2.1,t.2.2.2.1,t.2.2.2.2.1,t.2.2.2.2.2.1,why,0),())) (GQ n key code ss bs ts i t):=Ok.ret ⟨_,_,_,_,rfl,hm,ht.ended hw,.inr (.inl ⟨rfl,rfl,rfl⟩)⟩
theorem g7(op:Int):la op=some (mp op || op==22 || op==24,()):=by
 unfold la;rw[yB];simp only[oBS];cases mp op<;>cases op==22<;>rfl
set_option maxHeartbeats 4000000 in
theorem Pi{n key:Int}{code:List DIn}{ss bs:List Int}{d:List (List Int)}{cs:List DCe}{ls:List DLn}{ts:List DTh}{i:Nat}{t:DTh}(hp:kI code ss d) (h:MOk n ss bs cs ls ts) (ht:ts[i]?=some t) (hs:t.1=1)
 (hc:t.2.2.2.1+1≤n) (hn:n≤1099511627776):Ok (oW code ss d (i:Int) bs key cs ls ts) (GQ n key code ss bs ts i t):=by
 have hok:=h.thr t (dN ht);have hm:=h.mem;obtain⟨_,hl,hr,⟨p0,p1⟩,⟨c0,c1⟩,ha,⟨s0,s1⟩,⟨r0,r1⟩,hco⟩:=id hok;obtain⟨st,rs,pc,ct,hd,sa,tr,co⟩:=t;dsimp only at *;subst hs;have hil:=(oGS ht).1;have hg:dH ts i=some (1,rs,pc,ct,hd,sa,tr,co):=ht;have e1:∀f:DTh→DTh,List.modify ts i f=ts.set i (f (1,rs,pc,ct,hd,sa,tr,co)):=fun f=>eq ht f;have e2:∀x,dH (ts.set i x) i=some x:=fun x=>gz hil x;have e3:∀(x:DTh) (f:DTh→DTh),List.modify (ts.set i x) i f=ts.set i (f x):=fun x f=>om hil x f
 have eT:∀why,fc (i:Nat) why ts=some (2,ts.set i (4,rs,pc,ct,hd,sa,why,0),()):=fun why=>by rw[Nz (n:=n) ht,e1]
 have mk:∀{rs':List DCe} {pc' ct' sa':Int},rs'.length=8→(∀c∈rs',lT (RK bs ss) c)→0≤pc'∧pc'≤255→0≤ct'∧ct'≤n→-1≤sa'∧sa'≤255→zy (RK bs ss) n (1,rs',pc',ct',hd,sa',tr,co):=
  fun h1 h2 h3 h4 h5=>⟨⟨show (0:Int)≤1 by decide,show (1:Int)≤4 by decide⟩,h1,h2,h3,h4,ha,h5,⟨r0,r1⟩,hco⟩
 unfold oW;rw[dL];delta dK;simp only[hg,oBS]
 (with_reducible refine dE (fun hca=>?_) fun hca=>?_)
 ·rw[eT 2];exact ml hm hok (by decide)
 refine Ok.nat p0 fun j hj=>?_;subst hj;have hcl:=hp.clen;refine Ok.get (by omega) fun x hx=>?_;obtain⟨op,A,B,C,I⟩:=x;obtain⟨⟨o0,o1⟩,⟨A0,A1,_⟩,⟨B0,B1,_⟩,⟨C0,C1,_⟩,⟨I0,I1,_⟩,hlea,hsys,hjmp⟩:=hp.ins _ (dN hx);dsimp only at *;obtain⟨A,rfl⟩:∃k:Nat,A=k:=⟨A.toNat,by omega⟩;obtain⟨B,rfl⟩:∃k:Nat,B=k:=⟨B.toNat,by omega⟩;obtain⟨C,rfl⟩:∃k:Nat,C=k:=⟨C.toNat,by omega⟩;obtain⟨I,rfl⟩:∃k:Nat,I=k:=⟨I.toNat,by omega⟩;obtain⟨⟨ta,va⟩,gA⟩:∃c,dH rs A=some c:=⟨_,oGE (by omega)⟩;obtain⟨⟨tb,vb⟩,gB⟩:∃c,dH rs B=some c:=⟨_,oGE (by omega)⟩;obtain⟨⟨tc,vc⟩,gC⟩:∃c,dH rs C=some c:=⟨_,oGE (by omega)⟩;have cA:=hr _ (dN gA);have cB:=hr _ (dN gB);have cC:=hr _ (dN gC);have eR:∀f:DCe→DCe,List.modify rs A f=rs.set A (f (ta,va)):=fun f=>eq gA f;have w1:w64 ((j:Int)+1)=(j:Int)+1:=dO (by omega) (by omega);have wI:wk .u16 (I:Int)=I:=dY (by omega) (by omega);have setOk:∀{c:DCe},lT (RK bs ss) c→(rs.set A c).length=8∧∀x∈rs.set A c,lT (RK bs ss) x:=fun hc=>⟨by rw[List.length_set];exact hl,iw hr hc⟩;have wc:w64 (ct+1)=ct+1:=dO (by omega) (by omega);simp only[dL,hg,gA,gB,oBS,w1,wI];rcases (show op=0∨op=1∨op=2∨op=15∨op=16∨op=17∨op=18∨op=19∨op=20∨op=21∨op=22∨op=23∨op=24∨(3≤op∧op≤14) by omega) with rfl | rfl | rfl | rfl | rfl | rfl | rfl | rfl | rfl | rfl | rfl | rfl | rfl | ⟨q0,q1⟩
 all_goals try simp only[Int.reduceBEq,oCT,oCF,dL,hg,gA,gB,gC,e1,e2,e3,eR,eT,oBS,w1,wI,wc,g7,mp,Bool.or_false,Bool.or_true,Bool.or_self,bne_self_eq_false]
 ·exact m8 hm (mk hl hr (by omega) (by omega) (by omega)) rfl (.inl ⟨rfl,rfl⟩)
 ·exact m8 hm (mk (setOk (lF (by omega))).1 (setOk (lF (by omega))).2 (by omega) (by omega) (by omega)) rfl (.inl ⟨rfl,rfl⟩)
 ·exact m8 hm (mk (setOk cB).1 (setOk cB).2 (by omega) (by omega) (by omega)) rfl (.inl ⟨rfl,rfl⟩)
 ·have hI:=hlea rfl;have hbl:=h.lay.2.1;obtain⟨b,hb⟩:∃b,bs[I]?=some b:=⟨_,oGE (by omega)⟩;obtain⟨z,hz⟩:∃z,ss[I]?=some z:=⟨_,oGE (by omega)⟩;have hr2:=h.lay.2.2 I (by omega);unfold vz at hr2;rw[d9 hb,d9 hz] at hr2;have hz2:=h.lay.1.2.2 z (dN hz);have wb:wk .u16 b=b:=dY (by omega) (by omega);have gb:dH bs I=some b:=hb;simp only[gb,wb,Int.reduceBEq,oCT,oCF,dL,hg,gA,gB,gC,e1,e2,e3,eR,eT,oBS,w1,wI,wc,g7,mp,Bool.or_false,Bool.or_true,Bool.or_self,bne_self_eq_false];have hcb:lT (RK bs ss) (1,b):=⟨by dsimp only;omega,by dsimp only;omega,by dsimp only;omega,by dsimp only;omega,fun _=>⟨I,b,z,hb,hz,by dsimp only;omega,by dsimp only;omega⟩⟩;exact m8 hm (mk (setOk hcb).1 (setOk hcb).2 (by omega) (by omega) (by omega)) rfl (.inl ⟨rfl,rfl⟩)
 ·obtain⟨_,em,t1,x1,e,rfl,hc1,he0,he6,hx512⟩:=ye (key:=key) (tag:=tb) (v:=vb) (n:=(I:Int)) (back:=false) h.lay ⟨cB.2.2.1,cB.2.2.2.1⟩ ⟨by omega,by omega⟩;simp only[em,oBS];by_cases hne:e=0
  ·subst hne;have wx:wk .i64 x1=x1:=dT (by have:=hc1.2.2.1;dsimp only at this;omega) (by have:=hc1.2.2.2.1;dsimp only at this;omega);obtain⟨_,el,t2,x2,cs2,ls2,rfl,hc2,hm2⟩:=KI (a:=x1) hm ⟨hc1.2.2.1,hx512 rfl⟩;simp only[wx,el,Int.reduceBEq,oCT,oCF,dL,hg,gA,gB,gC,e1,e2,e3,eR,eT,oBS,w1,wI,wc,g7,mp,Bool.or_false,Bool.or_true,Bool.or_self,bne_self_eq_false];exact m8 hm2 (mk (setOk hc2).1 (setOk hc2).2 (by omega) (by omega) (by omega)) rfl (.inl ⟨rfl,rfl⟩)
  ·simp only[bne_iff_ne.2 hne,oCT];exact ml hm hok ⟨he0,he6⟩
 ·obtain⟨_,em,t1,x1,e,rfl,hc1,he0,he6,hx512⟩:=ye (key:=key) (tag:=ta) (v:=va) (n:=(I:Int)) (back:=false) h.lay ⟨cA.2.2.1,cA.2.2.2.1⟩ ⟨by omega,by omega⟩;simp only[em,oBS];by_cases hne:e=0
  ·subst hne;have wx:wk .i64 x1=x1:=dT (by have:=hc1.2.2.1;dsimp only at this;omega) (by have:=hc1.2.2.2.1;dsimp only at this;omega);obtain⟨_,el,cs2,ls2,rfl,hm2⟩:=AM (a:=x1) (t:=tb) (v:=vb) hm ⟨hc1.2.2.1,hx512 rfl⟩ cB;simp only[wx,el,Int.reduceBEq,oCT,oCF,dL,hg,gA,gB,gC,e1,e2,e3,eR,eT,oBS,w1,wI,wc,g7,mp,Bool.or_false,Bool.or_true,Bool.or_self,bne_self_eq_false];exact m8 hm2 (mk hl hr (by omega) (by omega) (by omega)) rfl (.inl ⟨rfl,rfl⟩)
  ·simp only[bne_iff_ne.2 hne,oCT];exact ml hm hok ⟨he0,he6⟩
 ·have:=hjmp (by decide);exact m8 hm (mk hl hr (by omega) (by omega) (by omega)) rfl (.inr rfl)
 ·have:=hjmp (by decide);by_cases hta:ta=0
  ·subst hta
   cases va==0 with
   | true=>
    simp only[BEq.rfl,Int.reduceBEq,oCT,oCF,dL,hg,gA,gB,gC,e1,e2,e3,eR,eT,oBS,w1,wI,wc,g7,mp,Bool.or_false,Bool.or_true,Bool.or_self,bne_self_eq_false];exact m8 hm (mk hl hr (by omega) (by omega) (by omega)) rfl (.inr rfl)
   | false=>
    simp only[show (false==true)=false from rfl,Int.reduceBEq,oCT,oCF,dL,hg,gA,gB,gC,e1,e2,e3,eR,eT,oBS,w1,wI,wc,g7,mp,Bool.or_false,Bool.or_true,Bool.or_self,bne_self_eq_false];exact m8 hm (mk hl hr (by omega) (by omega) (by omega)) rfl (.inr rfl)
  ·simp only[bne_iff_ne.2 hta,oCT];exact ml hm hok (by decide)
 ·have:=hjmp (by decide);by_cases hta:ta=0
  ·subst hta
   cases va==0 with
   | true=>
    simp only[show (true==false)=false from rfl,Int.reduceBEq,oCT,oCF,dL,hg,gA,gB,gC,e1,e2,e3,eR,eT,oBS,w1,wI,wc,g7,mp,Bool.or_false,Bool.or_true,Bool.or_self,bne_self_eq_false];exact m8 hm (mk hl hr (by omega) (by omega) (by omega)) rfl (.inr rfl)
   | false=>
    simp only[BEq.rfl,Int.reduceBEq,oCT,oCF,dL,hg,gA,gB,gC,e1,e2,e3,eR,eT,oBS,w1,wI,wc,g7,mp,Bool.or_false,Bool.or_true,Bool.or_self,bne_self_eq_false];exact m8 hm (mk hl hr (by omega) (by omega) (by omega)) rfl (.inr rfl)
  ·simp only[bne_iff_ne.2 hta,oCT];exact ml hm hok (by decide)
 ·have:=hjmp (by decide);have wj:wk .u16 ((j:Int)+1)=(j:Int)+1:=dY (by omega) (by omega);rw[wj];exact m8 hm (mk (setOk (lF (by omega))).1 (setOk (lF (by omega))).2 (by omega) (by omega) (by omega)) rfl (.inr rfl)
 ·by_cases hta:ta=0
  ·subst hta;have wa:wk .i64 va=va:=dT (by have:=cA.2.2.1;dsimp only at this;omega) (by have:=cA.2.2.2.1;dsimp only at this;omega);have a0:=cA.2.2.1;dsimp only at a0;by_cases hva:va > 255
   ·simp only[oDT hva,bne_self_eq_false,oCT,oCF];exact ml hm hok (by decide)
   ·simp only[oDF hva,wa,Int.reduceBEq,oCT,oCF,dL,hg,gA,gB,gC,e1,e2,e3,eR,eT,oBS,w1,wI,wc,g7,mp,Bool.or_false,Bool.or_true,Bool.or_self,bne_self_eq_false];exact m8 hm (mk hl hr (by omega) (by omega) (by omega)) rfl (.inr rfl)
  ·simp only[bne_iff_ne.2 hta,oCT];exact ml hm hok (by decide)
 ·refine Ok.ret ⟨_,_,_,_,rfl,hm,⟨⟨show (0:Int)≤2 by decide,show (2:Int)≤4 by decide⟩,hl,hr,⟨by dsimp only;omega,by dsimp only;omega⟩,⟨c0,by dsimp only;omega⟩,ha,⟨s0,s1⟩,⟨r0,r1⟩,hco⟩,.inr (.inr ⟨rfl,rfl,rfl,(23,(A:Int),(B:Int),(C:Int),(I:Int)),by dsimp only;omega,?_,rfl⟩)⟩;dsimp only;rw[show (j:Int)+1 - 1=(j:Int) by omega,oTN];exact hx
 ·by_cases hsa:sa=-1
  ·simp only[beq_iff_eq.2 hsa,oCT];exact ml hm hok (by decide)
  ·simp only[oBF hsa,Int.reduceBEq,oCT,oCF,dL,hg,gA,gB,gC,e1,e2,e3,eR,eT,oBS,w1,wI,wc,g7,mp,Bool.or_false,Bool.or_true,Bool.or_self,bne_self_eq_false];exact m8 hm (mk hl hr (by omega) (by omega) (by omega)) rfl (.inr rfl)
 ·obtain⟨_,ed,t1,x1,e,rfl,hc1,he0,he6⟩:=P9 (key:=key) (op:=op) h.lay cB cC;have n0:(op==0)=false:=oBF (by omega);have n1:(op==1)=false:=oBF (by omega);have n2:(op==2)=false:=oBF (by omega);have n15:(op==15)=false:=oBF (by omega);have n16:(op==16)=false:=oBF (by omega);have n17:(op==17)=false:=oBF (by omega);have n18:(op==18)=false:=oBF (by omega);have n19:(op==19)=false:=oBF (by omega);have n20:(op==20)=false:=oBF (by omega);have n21:(op==21)=false:=oBF (by omega);have n22:(op==22)=false:=oBF (by omega);have n23:(op==23)=false:=oBF (by omega);have n24:(op==24)=false:=oBF (by omega);simp only[n0,n1,n2,n15,n16,n17,n18,n19,n20,n21,n22,n23,n24,ed,Int.reduceBEq,oCT,oCF,dL,hg,gA,gB,gC,e1,e2,e3,eR,eT,oBS,w1,wI,wc,g7,mp,Bool.or_false,Bool.or_true,Bool.or_self,bne_self_eq_false];by_cases hne:e=0
  ·subst hne;simp only[n18,n19,n20,n21,n22,n24,Int.reduceBEq,oCT,oCF,dL,hg,gA,gB,gC,e1,e2,e3,eR,eT,oBS,w1,wI,wc,g7,mp,Bool.or_false,Bool.or_true,Bool.or_self,bne_self_eq_false];exact m8 hm (mk (setOk hc1).1 (setOk hc1).2 (by omega) (by omega) (by omega)) rfl (.inl ⟨rfl,rfl⟩)
  ·simp only[bne_iff_ne.2 hne,oCT];exact ml hm hok ⟨he0,he6⟩
theorem zy.mono{K:Int→Prop}{n m:Int}{t:DTh}(h:zy K n t) (hm:n≤m):zy K m t:=⟨h.state,h.len,h.regs,h.pc,⟨h.count.1,by have:=h.count.2;omega⟩,h.handler,h.saved,h.trap,h.code⟩
theorem MOk.mono{n m:Int}{ss bs:List Int}{cs:List DCe}{ls:List DLn}{ts:List DTh}(h:MOk n ss bs cs ls ts) (hm:n≤m):MOk m ss bs cs ls ts:=⟨h.lay,h.mem,h.tlen,fun t ht=>(h.thr t ht).mono hm⟩
theorem Bp{α:Type}{l:List α}{i:Nat}{a:α}(h:l[i]?=some a):l.set i a=l:=by
 apply List.ext_getElem?;intro j;rw[List.getElem?_set];split
 ·rename_i hij;subst hij;have:=(oGS h).1;rw[oIP this,h]
 ·rfl
def Ql(code:List DIn) (s:Int) (t':DTh):Prop:=
 (s=0∧t'.1=1)∨(s=2∧t'.1=4)∨(s=1∧t'.1=2∧∃i:DIn,1≤t'.2.2.1∧code[(t'.2.2.1 - 1).toNat]?=some i∧i.1=23)
def OV(n key:Int) (code:List DIn) (ss bs:List Int) (ts:List DTh) (i:Nat) (r:List Int×Int×List DCe×List DLn×List DTh×Int×Int×Unit):Prop:=
 ∃s cs' ls' t',r=(bs,key,cs',ls',ts.set i t',s,0,())∧iL (RK bs ss) cs' ls'∧zy (RK bs ss) n t'∧((s=3∧ts[i]?=some t'∧t'.1≠1)∨Ql code s t')
def P3(i:Nat) (s:Int×Int×(List DIn)×(List (Int))×(List (List (Int)))×Unit×Int×Unit×Unit×Unit×(List (Int))×Int×(List DCe)×(List DLn)×(List DTh)×Unit):Nat:=
 match s.2.2.2.2.2.2.2.2.2.2.2.2.2.2.1[i]? with
 | some t=>((s.2.1 - t.2.2.2.1)*256+(255 - t.2.2.1)).toNat
 | none=>0
theorem Fy{i:Nat}{a b k:Int}{code:List DIn}{ss bs:List Int}{d:List (List Int)}{cs:List DCe}{ls:List DLn}{ts:List DTh}{t:DTh}(h:ts[i]?=some t):P3 i (a,b,code,ss,d,(),0,(),(),(),bs,k,cs,ls,ts,())=((b - t.2.2.2.1)*256+(255 - t.2.2.1)).toNat:=by
 unfold P3;dsimp only;rw[h]
theorem LH{n key k:Int}{code:List DIn}{ss bs:List Int}{d:List (List Int)}{cs:List DCe}{ls:List DLn}{ts:List DTh}{i:Nat}(hp:kI code ss d) (h:MOk n ss bs cs ls ts) (hn0:0≤n) (hn:n+64≤1099511627776) (hi:i < 4) (hk:1≤k∧k≤64) :
 Ok (l7 code ss d bs key cs ls ts (i:Int) k) (OV (n+64) key code ss bs ts i):=by
 have htl:=h.tlen;obtain⟨t,ht⟩:∃t,ts[i]?=some t:=⟨_,oGE (by omega)⟩;have hg:dH ts i=some t:=ht
 have hil:i < ts.length:=by omega
 have hok:=h.thr t (dN ht);unfold l7;rw[uG hp h (by omega)];simp only[oBS,oNT,oCF,qT h,dL,hg];rw[oDF (show ¬ (i:Int) < 0 by omega),oDF (show ¬ (i:Int)≥4 by omega),oDF (show ¬ k < 1 by omega),oDF (show ¬ k > 64 by omega)];simp only[oBS,oCF,qT h,dL,hg]
 (with_reducible refine dE (fun hca=>?_) fun hca=>?_)
 ·refine Ok.ret ⟨3,cs,ls,t,?_,h.mem,hok.mono (by omega),.inl ⟨rfl,ht,hca⟩⟩;rw[Bp ht]
 have hct:=hok.count;have hpc:=hok.pc;rw[dO (x:=t.2.2.2.1+k) (by omega) (by omega)]
 refine Ok.loop (P:=fun s'=>∃cs' ls' t',s'=((i:Int),t.2.2.2.1+k,code,ss,d,(),0,(),(),(),bs,key,cs',ls',ts.set i t',())∧iL (RK bs ss) cs' ls'∧zy (RK bs ss) (n+64) t'∧t'.1=1∧t'.2.2.2.1 < t.2.2.2.1+k)
  (R:=fun r=>∃s cs' ls' t',r=(s,0,bs,key,cs',ls',ts.set i t',())∧iL (RK bs ss) cs' ls'∧zy (RK bs ss) (n+64) t'∧Ql code s t') (m:=P3 i) ⟨cs,ls,t,by rw[Bp ht],h.mem,hok.mono (by omega),hca,by omega⟩ ?_ ?_ ?_
 ·rw[Fy ht];unfold NN;omega
 ·rintro _ ⟨cs',ls',t',rfl,hm,hth,hr,hlt⟩;have ht':(ts.set i t')[i]?=some t':=gz hil t';unfold pU;dsimp only;refine (Pi hp (((h.mono (show n≤n+64 by omega)).set hm hth):MOk (n+64) ss bs cs' ls' (ts.set i t')) ht' hr (by omega) (by omega)).bind ?_;rintro _ ⟨s,cs2,ls2,t2,rfl,hm2,hth2,hs2⟩;dsimp only;rw[List.set_set]
  (with_reducible refine dE (fun hcb=>?_) fun hcb=>?_)
  ·refine Ok.ret ⟨_,_,_,_,rfl,hm2,hth2,?_⟩;rcases hs2 with ⟨q,_⟩ | ⟨q1,q2,_⟩ | ⟨q1,q2,_,q3⟩
   ·exact absurd q hcb
   ·exact .inr (.inl ⟨q1,q2⟩)
   ·exact .inr (.inr ⟨q1,q2,q3⟩)
  ·rw[dL];simp only[oBS,gz hil];have h0:=hth2.count;have h1:=hth2.pc;have h2:=hth.pc;rcases hs2 with ⟨_,q1,q2⟩ | ⟨q1,_⟩ | ⟨q1,_⟩
   ·(with_reducible refine dE (fun hcc=>?_) fun hcc=>?_)
    ·exact Ok.ret ⟨_,_,_,_,rfl,hm2,hth2,.inl ⟨rfl,q1⟩⟩
    ·refine Ok.ret ⟨⟨_,_,_,rfl,hm2,hth2,q1,by omega⟩,?_⟩;rw[Fy ht',Fy (gz hil t2)];omega
   ·omega
   ·omega
 ·rintro _ ⟨s,cs',ls',t',rfl,hm,hth,hs⟩;exact Ok.ret ⟨_,_,_,_,rfl,hm,hth,.inr hs⟩
def Ft(bs ss:List Int) (a:Int):Nat→Nat→Option (Int×Int)
 | 0,_=>none
 | n+1,k=>if bs.getD k 0≤a∧a < bs.getD k 0+ss.getD k 0 then some ((k:Int),a - bs.getD k 0) else Ft bs ss a n (k+1)
def Jp(bs ss:List Int) (a:Int):Option (Int×Int):=Ft bs ss a bs.length 0
theorem Kf{bs ss:List Int}{a r o:Int}:∀{n k:Nat},k+n=bs.length→bs.length=ss.length→Ft bs ss a n k=some (r,o)→∃(j:Nat) (b z:Int),r=j∧o=a - b∧bs[j]?=some b∧ss[j]?=some z∧b≤a∧a < b+z:=by
 intro n
 induction n with
 | zero=>intro k _ _ h;cases h
 | succ n ih=>
  intro k hk hl h;simp only[Ft] at h;split at h
  ·rename_i hh
   injection h with h
   injection h with h1 h2
   refine⟨k,_,_,h1.symm,h2.symm,?_,?_,hh.1,hh.2⟩
   ·rw[Gt (by omega)];exact oGE (by omega)
   ·rw[Gt (by omega)];exact oGE (by omega)
  ·exact ih (by omega) hl h
theorem Kg{bs ss:List Int}{a:Int}:∀{n k:Nat},k+n=bs.length→Ft bs ss a n k=none→∀(j:Nat) (b z:Int),k≤j→bs[j]?=some b→ss[j]?=some z→¬ (b≤a∧a < b+z):=by
 intro n
 induction n with
 | zero=>
  intro k hk _ j b z hj hb;have:=(oGS hb).1;omega
 | succ n ih=>
  intro k hk h j b z hj hb hz;simp only[Ft] at h;split at h
  ·cases h
  ·rename_i hh;by_cases hjk:j=k
   ·subst hjk;rw[d9 hb,d9 hz] at hh;exact hh
   ·exact ih (by omega) h j b z (by omega) hb hz
theorem DB{bs ss:List Int}{a r o:Int}(hl:bs.length=ss.length) (h:Jp bs ss a=some (r,o)):∃(j:Nat) (b z:Int),r=j∧o=a - b∧bs[j]?=some b∧ss[j]?=some z∧b≤a∧a < b+z:=Kf (by omega) hl h
theorem Of{bs ss:List Int}{a:Int}(h:RK bs ss a):∃r o,Jp bs ss a=some (r,o):=by
 cases e:Jp bs ss a with
 | some x=>exact⟨x.1,x.2,rfl⟩
 | none=>
  obtain⟨j,b,z,h1,h2,h3,h4⟩:=h;exact absurd ⟨h3,h4⟩ (Kg (by omega) e j b z (by omega) h1 h2)
theorem AT{bs ss:List Int}{key a:Int}(h:LV bs ss) (ha:W16 a):fa bs key ss a=some (match Jp bs ss a with | some (r,o)=>(r,o,true,()) | none=>(0,0,false,())):=by
 obtain⟨hs,hl,hr⟩:=h;obtain⟨a0,a1⟩:=ha;have hs4:=hs.2.1
 have key1:∀(n k N:Nat),k+n=bs.length→n < N→dQ eI N (ss,a,bs,(bs.length:Int),(k:Int),bs,key,0,0,())=some (match Ft bs ss a n k with | some (r,o)=>.inl (true,r,o,()) | none=>.inr (ss,a,bs,(bs.length:Int),(bs.length:Int),false,bs,key,0,0,())):=by
  intro n
  induction n with
  | zero=>
   intro k N hk hN;obtain⟨N,rfl⟩:∃M,N=M+1:=⟨N - 1,by omega⟩
   obtain rfl:k=bs.length:=by omega
   have e:eI (ss,a,bs,(bs.length:Int),(bs.length:Int),bs,key,0,0,())=some (.inr (.inr (ss,a,bs,(bs.length:Int),(bs.length:Int),false,bs,key,0,0,()))):=by
    refine eL ?_;unfold eI;dsimp only
    (with_reducible refine dE (fun hca=>?_) fun hca=>?_)
    ·omega
    ·exact Ok.ret rfl
   simp only[dQ,e,oBS,Ft]
  | succ n ih=>
   intro k N hk hN;obtain⟨N,rfl⟩:∃M,N=M+1:=⟨N - 1,by omega⟩;obtain⟨b,hb⟩:∃b,bs[k]?=some b:=⟨_,oGE (by omega)⟩;obtain⟨z,hz⟩:∃z,ss[k]?=some z:=⟨_,oGE (by omega)⟩;have hz2:=hs.2.2 z (dN hz);have hrk:=hr k (by omega);unfold vz at hrk;rw[d9 hb,d9 hz] at hrk;by_cases hh:b≤a∧a < b+z
   ·have e:eI (ss,a,bs,(bs.length:Int),(k:Int),bs,key,0,0,())=some (.inr (.inl (true,(k:Int),a - b,()))):=by
     refine eL ?_;unfold eI;dsimp only;rw[oDT (show (k:Int) < bs.length by omega),dL];simp only[oCT,oBS,show dH bs k=some b from hb,show dH ss k=some z from hz];rw[oDT (show a≥b by omega),dO (x:=b+z) (by omega) (by omega),oDT hh.2,dO (x:=a - b) (by omega) (by omega)];exact Ok.ret rfl
    simp only[dQ,e,oBS,Ft,d9 hb,d9 hz,oIP hh]
   ·have e:eI (ss,a,bs,(bs.length:Int),(k:Int),bs,key,0,0,())=some (.inl (ss,a,bs,(bs.length:Int),((k+1:Nat):Int),bs,key,0,0,())):=by
     refine eL ?_;unfold eI;dsimp only;rw[oDT (show (k:Int) < bs.length by omega),dL];simp only[oCT,oBS,show dH bs k=some b from hb,show dH ss k=some z from hz];rw[dO (x:=b+z) (by omega) (by omega)];by_cases h1:a≥b
     ·rw[oDT h1,oDF (show ¬ a < b+z by omega)];simp only[oCT,oCF];rw[dO (x:=(k:Int)+1) (by omega) (by omega)];exact Ok.ret rfl
     ·rw[oDF h1];simp only[oCF];rw[dO (x:=(k:Int)+1) (by omega) (by omega)];exact Ok.ret rfl
    simp only[dQ,e,oBS,Ft,d9 hb,d9 hz,oIN hh];exact ih (k+1) N (by omega) (by omega)
 unfold fa Jp;delta dK
 try dsimp only
 rw[show dQ eI NN (ss,a,bs,(bs.length:Int),0,bs,key,0,0,())=_ from key1 bs.length 0 NN (by omega) (by unfold NN;omega)]
 cases Ft bs ss a bs.length 0 with
 | some x=>rfl
 | none=>rfl
def oF(bs ss:List Int) (key:Int) (c:DCe):DCn:=
 if c.1=0 then (0,c.2,0,0) else if c.1=2 then (2,wk .u16 (c.2 - key),0,0) else match Jp bs ss c.2 with | some (r,o)=>(1,0,r,o) | none=>(1,0,-1,c.2)
theorem rR{K:Int→Prop}{bs ss:List Int}{key:Int}{c:DCe}(h:LV bs ss) (hc:lT K c):gM bs key ss c.1 c.2=some ((oF bs ss key c).1,(oF bs ss key c).2.1,(oF bs ss key c).2.2.1,(oF bs ss key c).2.2.2,()):=by
 obtain⟨c0,c1,c2,c3,_⟩:=hc;unfold gM oF;rw[dT (x:=c.2) (by omega) (by omega)];dsimp only;rw[AT h ⟨c2,c3⟩]
 rcases (show c.1=0∨c.1=1∨c.1=2 by omega) with e | e | e<;>rw[e]
 ·rfl
 ·simp only[Int.reduceBEq,Int.reduceEq,oCF,if_false,oBS]
  cases Jp bs ss c.2 with
  | some x=>rfl
  | none=>rfl
 ·rfl
theorem mM(x:Int):W16 (wk .u16 x):=oM x
theorem De{bs ss:List Int}{key:Int}{c:DCe}(h:LV bs ss) (hc:lT (RK bs ss) c):Pr ss (oF bs ss key c):=by
 obtain⟨c0,c1,c2,c3,c4⟩:=hc;unfold oF;rcases (show c.1=0∨c.1=1∨c.1=2 by omega) with e | e | e
 ·rw[oIP e];exact .inl ⟨.inl rfl,rfl,rfl,c2,c3⟩
 ·rw[oIN (by omega),oIN (by omega)];obtain⟨r,o,hro⟩:=Of (c4 e);rw[hro];obtain⟨j,b,z,rfl,rfl,h1,h2,h3,h4⟩:=DB h.2.1 hro;exact .inr ⟨rfl,rfl,by dsimp only;omega,z,by rw[oTN];exact h2,by dsimp only;omega,by dsimp only;omega⟩
 ·rw[oIN (by omega),oIP e];exact .inl ⟨.inr rfl,rfl,rfl,mM _⟩
theorem HN{K:Int→Prop}{bs ss:List Int}{key:Int}{c:DCe}(hc:lT K c):(oF bs ss key c).1=c.1∧(c.1=0→(oF bs ss key c).2.1=c.2):=by
 obtain⟨c0,c1,_⟩:=hc;unfold oF;rcases (show c.1=0∨c.1=1∨c.1=2 by omega) with e | e | e
 ·rw[oIP e];exact⟨e.symm,fun _=>rfl⟩
 ·rw[oIN (by omega),oIN (by omega)]
  cases Jp bs ss c.2 with
  | some x=>exact⟨e.symm,fun h=>by omega⟩
  | none=>exact⟨e.symm,fun h=>by omega⟩
 ·rw[oIN (by omega),oIP e];exact⟨e.symm,fun h=>by omega⟩
def sR(cs:List DCe) (ls:List DLn) (a:Int):DCe:=
 match ls[(a / 4 % 4).toNat]? with
 | some x=>if x.1=a / 4 then x.2.2.getD (a % 4).toNat (0,0) else cs.getD a.toNat (0,0)
 | none=>(0,0)
theorem getD_some{α:Type}{l:List α}{k:Nat}{d x:α}(h:l[k]?=some x):l.getD k d=x:=by rw[oGD,h];rfl
theorem yf{K:Int→Prop}{cs:List DCe}{ls:List DLn}{a:Int}(h:iL K cs ls) (ha:0≤a∧a < 512):lA cs ls a=some ((sR cs ls a).1,(sR cs ls a).2,())∧lT K (sR cs ls a):=by
 obtain⟨a0,a1⟩:=ha;obtain⟨h1,h2,h3,h4,_⟩:=id h;unfold lA sR;rw[Int.tdiv_eq_ediv_of_nonneg a0,dO (x:=a / 4) (by omega) (by omega)];dsimp only;rw[Int.tmod_eq_emod_of_nonneg (show 0≤a / 4 by omega),Int.tmod_eq_emod_of_nonneg a0];obtain⟨i,hi⟩:∃i:Nat,a / 4 % 4=i:=⟨(a / 4 % 4).toNat,by omega⟩;rw[hi,dL,oTN];obtain⟨x,hx⟩:∃x,ls[i]?=some x:=⟨_,oGE (by omega)⟩;simp only[oBS,show dH ls i=some x from hx,hx];by_cases hq:x.1=a / 4
 ·rcases h4 i x hx with ⟨g,_,_⟩ | ⟨_,_,_,g4,g5⟩
  ·omega
  ·obtain⟨j,hj⟩:∃j:Nat,a % 4=j:=⟨(a % 4).toNat,by omega⟩;obtain⟨y,hy⟩:∃y,x.2.2[j]?=some y:=⟨_,oGE (by omega)⟩;rw[hj,dL,oTN,oIP hq,getD_some hy,beq_iff_eq.2 hq];simp only[oCT,oBS,show dH x.2.2 j=some y from hy];exact⟨trivial,g5 y (dN hy)⟩
 ·obtain⟨j,rfl⟩:∃j:Nat,a=j:=⟨a.toNat,by omega⟩;obtain⟨y,hy⟩:∃y,cs[j]?=some y:=⟨_,oGE (by omega)⟩;rw[oIN hq,oBF hq,dL,oTN,getD_some hy];simp only[oCF,oBS,show dH cs j=some y from hy];exact⟨trivial,h2 y (dN hy)⟩
def kB(call:Int):List Int:=
 if call=0∨call=8∨call=9∨call=11∨call=12 then [78] else if call=1∨call=2 then [72,80,78] else if call=3 then [78,78] else if call=4 then [72] else if call=5 then [72,78]
 else if call=10 then [78,88] else if call=13∨call=14 then [78,80,78] else []
theorem KM(call:Int):(kB call).length≤3:=by
 unfold kB
 repeat' split
 all_goals simp
def BOk(b:ByteArray) (l:List Int):Prop:=Bm b=(l.length:Int)∧∀j:Nat,AL b j=l[j]?
theorem Qy:BOk (bytes []) []:=⟨rfl,fun j=>rfl⟩
theorem Qx{a:Nat}(h:a < 256):BOk (bytes [a]) [(a:Int)]:=⟨rfl,fun j=>by
 match j with
 | 0=>show some (((UInt8.ofNat a).toNat:Nat):Int)=some (a:Int);simp;omega
 | n+1=>rfl⟩
theorem Qw{a b:Nat}(h:a < 256) (hb:b < 256):BOk (bytes [a,b]) [(a:Int),(b:Int)]:=⟨rfl,fun j=>by
 match j with
 | 0=>show some (((UInt8.ofNat a).toNat:Nat):Int)=some (a:Int);simp;omega
 | 1=>show some (((UInt8.ofNat b).toNat:Nat):Int)=some (b:Int);simp;omega
 | n+2=>rfl⟩
theorem Qv{a b c:Nat}(h:a < 256) (hb:b < 256) (hc:c < 256):BOk (bytes [a,b,c]) [(a:Int),(b:Int),(c:Int)]:=⟨rfl,fun j=>by
 match j with
 | 0=>show some (((UInt8.ofNat a).toNat:Nat):Int)=some (a:Int);simp;omega
 | 1=>show some (((UInt8.ofNat b).toNat:Nat):Int)=some (b:Int);simp;omega
 | 2=>show some (((UInt8.ofNat c).toNat:Nat):Int)=some (c:Int);simp;omega
 | n+3=>rfl⟩
theorem vt{call:Int}(h:0≤call∧call≤15):call=0∨call=1∨call=2∨call=3∨call=4∨call=5∨call=6∨call=7∨call=8∨call=9∨call=10∨call=11∨call=12∨call=13∨call=14∨call=15:=by omega
theorem BD{call:Int}(h:0≤call∧call≤15):∃b,jY call=some (b,())∧BOk b (kB call):=by
 rcases vt h with rfl | rfl | rfl | rfl | rfl | rfl | rfl | rfl | rfl | rfl | rfl | rfl | rfl | rfl | rfl | rfl
 all_goals first
  | exact⟨_,rfl,Qy⟩
  | exact⟨_,rfl,Qx (by decide)⟩
  | exact⟨_,rfl,Qw (by decide) (by decide)⟩
  | exact⟨_,rfl,Qv (by decide) (by decide) (by decide)⟩
def MM(k t:Int):Bool:=if k=78 then t==0 else if k=72 then t==2 else if k=80 then t==1 else true
theorem K6(k t:Int):ly k t=some (MM k t,()):=by
 unfold ly MM;by_cases h1:k=78
 ·simp[h1]
 ·by_cases h2:k=72
  ·simp[h2]
  ·by_cases h3:k=80
   ·simp[h3]
   ·simp[h1,h2,h3,oBF h1,oBF h2,oBF h3]
def rS(call:Int):Int:=if call=1∨call=13 then 1 else if call=2∨call=14 then 2 else 0
theorem uC{call:Int}(h:0≤call∧call≤15):g9 call=some (rS call,()):=by
 rcases vt h with rfl | rfl | rfl | rfl | rfl | rfl | rfl | rfl | rfl | rfl | rfl | rfl | rfl | rfl | rfl | rfl<;>rfl
theorem wR{call:Int}(h:0≤call∧call≤15):gw call=some (((kB call).length:Int),()):=by
 obtain⟨b,e,hb⟩:=BD h;unfold gw;rw[oDF (show ¬ call < 0 by omega),oDF (show ¬ call > 15 by omega),e];simp only[oCF,oBS,hb.1]
theorem Js{bs ss:List Int}{key t v n:Int}(h:LV bs ss) (hv:W16 v) (hn:0≤n∧n≤65535):Ok (k9 bs key ss t v n) fun r=>∃a e,r=(a,e,())∧(e=0→t=1∧a=v∧∃(j:Nat) (b z:Int),bs[j]?=some b∧ss[j]?=some z∧b≤v∧v+n≤b+z∧v < b+z):=by
 obtain⟨v0,v1⟩:=hv;unfold k9
 (with_reducible refine dE (fun hca=>?_) fun hca=>?_)
 ·exact Ok.ret ⟨_,_,rfl,fun h=>by omega⟩
 rw[dT (x:=v) (by omega) (by omega)];dsimp only;rw[AT h ⟨v0,v1⟩];simp only[oBS]
 cases e:Jp bs ss v with
 | none=>exact Ok.ret ⟨_,_,rfl,fun h=>by omega⟩
 | some x=>
  obtain⟨r,o⟩:=x;obtain⟨j,b,z,rfl,rfl,h1,h2,h3,h4⟩:=DB h.2.1 e;have hj:=(oGS h1).1;have hr:=h.2.2 j hj;unfold vz at hr;rw[d9 h1,d9 h2] at hr;have hz:=h.1.2.2 z (dN h2);dsimp only;rw[oDF (show ¬ n < 0 by omega),dL];simp only[oNT,oCF,oBS,show dH ss j=some z from h2];rw[dO (x:=z - (v - b)) (by omega) (by omega)]
  (with_reducible refine dE (fun hcb=>?_) fun hcb=>?_)
  ·exact Ok.ret ⟨_,_,rfl,fun h=>by omega⟩
  ·exact Ok.ret ⟨_,_,rfl,fun _=>⟨hca,dT (by omega) (by omega),j,b,z,h1,h2,h3,by omega,h4⟩⟩
structure Lv (call:Int) (m:Int) (bs ss:List Int) (rs:List DCe):Prop where
 fit:∀(j:Nat) k c,(kB call)[j]?=some k→rs[j]?=some c→MM k c.1=true
 buf:0 < rS call→∃p q,rs[1]?=some p∧rs[2]?=some q∧q.2≤16∧p.1=1∧∃(j:Nat) (b z:Int),bs[j]?=some b∧ss[j]?=some z∧b≤p.2∧p.2+q.2≤b+z
 code:call=10∨call=12→∃c,rs[0]?=some c∧c.2 < m
theorem GJ{call m:Int}{bs ss:List Int}{rs:List DCe}(h:Lv call m bs ss rs):Ok (some ((0:Int),())) fun r=>∃e,r=(e,())∧0≤e∧e≤6∧(e=0→Lv call m bs ss rs):=Ok.ret ⟨0,rfl,by decide,by decide,fun _=>h⟩
theorem zg{call m:Int}{bs ss:List Int}{rs:List DCe}:Ok (some ((6:Int),())) fun r=>∃e,r=(e,())∧0≤e∧e≤6∧(e=0→Lv call m bs ss rs):=Ok.ret ⟨6,rfl,by decide,by decide,fun h=>absurd h (by decide)⟩
theorem Je{n key:Int}{code:List DIn}{ss bs:List Int}{d:List (List Int)}{cs:List DCe}{ls:List DLn}{ts:List DTh}{i:Nat}{t:DTh}{x:DIn}(h:MOk n ss bs cs ls ts) (ht:ts[i]?=some t) (hp1:1≤t.2.2.1)
 (hx:code[(t.2.2.1 - 1).toNat]?=some x) (hc:0≤x.2.2.2.2∧x.2.2.2.2≤15):Ok (l6 code ss d bs key cs ls ts (i:Int)) fun r=>∃e,r=(e,())∧0≤e∧e≤6∧(e=0→Lv x.2.2.2.2 code.length bs ss t.2.1):=by
 have hok:=h.thr t (dN ht);obtain⟨_,hl,hr,⟨p0,p1⟩,_⟩:=id hok;obtain⟨o,A,B,C,call⟩:=x;dsimp only at hc ⊢;obtain⟨b,eb,hb1,hb2⟩:=BD hc;have hk3:=KM call;obtain⟨st,rs,pc,rest⟩:=t;dsimp only at *;obtain⟨j,hj⟩:∃j:Nat,pc - 1=j:=⟨(pc - 1).toNat,by omega⟩;rw[hj,oTN] at hx;unfold l6;rw[dL];simp only[oBS,show dH ts i=some (st,rs,pc,rest) from ht];rw[dO (x:=pc - 1) (by omega) (by omega),hj,dL];simp only[oBS,show dH code j=some (o,A,B,C,call) from hx,eb,hb1];obtain⟨c0,hc0⟩:∃c,rs[0]?=some c:=⟨_,oGE (by omega)⟩;obtain⟨c1,hc1⟩:∃c,rs[1]?=some c:=⟨_,oGE (by omega)⟩;obtain⟨c2,hc2⟩:∃c,rs[2]?=some c:=⟨_,oGE (by omega)⟩;have v0:=hr c0 (dN hc0);have v1:=hr c1 (dN hc1);have v2:=hr c2 (dN hc2);have g0:dH rs 0=some c0:=hc0;have g1:dH rs 1=some c1:=hc1;have g2:dH rs 2=some c2:=hc2
 obtain⟨y,e,hy⟩:=fN (f:=lL) (n:=NN) (s:=(call,b,((kB call).length:Int),0,code,ss,d,bs,key,cs,ls,ts,st,rs,pc,rest.1,rest.2.1,rest.2.2.1,rest.2.2.2.1,rest.2.2.2.2,()))
  (P:=fun s'=>∃q:Nat,s'=(call,b,((kB call).length:Int),(q:Int),code,ss,d,bs,key,cs,ls,ts,st,rs,pc,rest.1,rest.2.1,rest.2.2.1,rest.2.2.2.1,rest.2.2.2.2,())∧q≤(kB call).length∧∀(j:Nat) k c,j < q→(kB call)[j]?=some k→rs[j]?=some c→MM k c.1=true)
  (R:=fun r=>r=.inl (6,())∨(∃q,r=.inr (call,b,((kB call).length:Int),q,false,code,ss,d,bs,key,cs,ls,ts,st,rs,pc,rest.1,rest.2.1,rest.2.2.1,rest.2.2.2.1,rest.2.2.2.2,())∧∀(j:Nat) k c,(kB call)[j]?=some k→rs[j]?=some c→MM k c.1=true))
  (m:=fun s'=>(s'.2.2.1 - s'.2.2.2.1).toNat) ⟨0,rfl,by omega,fun j k c hj=>by omega⟩ (by unfold NN;dsimp only;omega) (by
   rintro _ ⟨q,rfl,hq,hfit⟩;unfold lL;dsimp only
   (with_reducible refine dE (fun hca=>?_) fun hca=>?_)
   ·rw[dL];obtain⟨k,hk⟩:∃k,(kB call)[q]?=some k:=⟨_,oGE (by omega)⟩;obtain⟨c,hcq⟩:∃c,rs[q]?=some c:=⟨_,oGE (by omega)⟩;simp only[oBS,hb2 q,hk,show dH rs q=some c from hcq,K6]
    (with_reducible refine dE (fun hcb=>?_) fun hcb=>?_)
    ·exact Ok.ret (.inl rfl)
    ·rw[dO (x:=(q:Int)+1) (by omega) (by omega)];refine Ok.ret ⟨⟨q+1,rfl,by omega,fun j' k' c' hj' h1 h2=>?_⟩,by dsimp only;omega⟩;by_cases hjq:j'=q
     ·subst hjq;rw[hk] at h1;rw[hcq] at h2;cases h1;cases h2;exact hcb
     ·exact hfit j' k' c' (by omega) h1 h2
   ·refine Ok.ret (.inr ⟨_,rfl,fun j k c h1 h2=>hfit j k c ?_ h1 h2⟩);have:=(oGS h1).1
    omega)
 rw[e];rcases hy with rfl | ⟨q,rfl,hfit⟩
 ·exact zg
 dsimp only;rw[uC hc];delta dK;simp only[oBS,g0,g1,g2];rw[dT (x:=c2.2) (by have:=v2.2.2.1;omega) (by have:=v2.2.2.2.1;omega),dT (x:=c0.2) (by have:=v0.2.2.1;omega) (by have:=v0.2.2.2.1;omega)]
 have fin:(0 < rS call→∃p q,rs[1]?=some p∧rs[2]?=some q∧q.2≤16∧p.1=1∧∃(j:Nat) (b z:Int),bs[j]?=some b∧ss[j]?=some z∧b≤p.2∧p.2+q.2≤b+z)→Ok ((bif (call==10) then (some ((decide (c0.2≥(code.length:Int))),())) else
  bif (call==12) then (some ((decide (c0.2≥(code.length:Int))),())) else some (false,()):Option (Bool×Unit)).bind fun(x35,_)=>bif x35 then (some ((6:Int),())) else some (0,()))
  fun r=>∃e,r=(e,())∧0≤e∧e≤6∧(e=0→Lv call code.length bs ss rs):=by
  intro hbuf;by_cases q10:call=10
  ·simp only[beq_iff_eq.2 q10,oCT,oBS]
   (with_reducible refine dE (fun hcb=>?_) fun hcb=>?_)
   ·exact zg
   ·exact GJ ⟨hfit,hbuf,fun _=>⟨c0,hc0,by omega⟩⟩
  ·by_cases q12:call=12
   ·simp only[oBF q10,beq_iff_eq.2 q12,oCT,oCF,oBS]
    (with_reducible refine dE (fun hcb=>?_) fun hcb=>?_)
    ·exact zg
    ·exact GJ ⟨hfit,hbuf,fun _=>⟨c0,hc0,by omega⟩⟩
   ·simp only[oBF q10,oBF q12,oCF,oBS];exact GJ ⟨hfit,hbuf,fun h=>by omega⟩
 (with_reducible refine dE (fun hca=>?_) fun hca=>?_)
 ·refine (Js (t:=c1.1) (v:=c1.2) (n:=c2.2) h.lay ⟨v1.2.2.1,v1.2.2.2.1⟩ ⟨v2.2.2.1,v2.2.2.2.1⟩).bind ?_;rintro _ ⟨a,e,rfl,he⟩;dsimp only
  (with_reducible refine dE (fun hcb=>?_) fun hcb=>?_)
  ·exact zg
  obtain⟨w1,_,j,b',z,w2,w3,w4,w5,w6⟩:=he hcb
  (with_reducible refine dE (fun hcc=>?_) fun hcc=>?_)
  ·exact zg
  exact fin fun _=>⟨c1,c2,hc1,hc2,by omega,w1,j,b',z,w2,w3,w4,w5⟩
 ·exact fin fun h=>by omega
structure AD (n:Int) (ss:List Int) (i stop trap count pc call:Int) (args data:List DCn):Prop where
 hthr:0≤i∧i < 4
 hstop:0≤stop∧stop≤3
 htrap:0≤trap∧trap≤6
 hcnt:0≤count∧count≤n
 hpc:0≤pc∧pc≤255
 hcall:0≤call∧call≤15
 hargs:args.length≤3∧∀c∈args,Pr ss c
 hdata:data.length≤16∧∀c∈data,Pr ss c
 hkind:stop=1→args.length=(kB call).length∧∀(j:Nat) k a,(kB call)[j]?=some k→args[j]?=some a→MM k a.1=true
 hbuf:stop=1→rS call=2→∃a,args[2]?=some a∧a.2.1≤16
def QE(stop trap:Int) (t':DTh):Prop:=(stop=0∧t'.1=1)∨(stop=1∧t'.1=2)∨(stop=2∧t'.1=4∧t'.2.2.2.2.2.2.1=trap)∨(stop=3∧t'.1≠1)
def HV(n key:Int) (ss bs:List Int) (ts:List DTh) (i:Nat) (r:(List (Int))×Int×(List DCe)×(List DLn)×(List DTh)×Int×Int×Int×Int×Int×Int×(List DCn)×(List DCn)×Int×Unit):Prop:=
 ∃cs' ls' t' stop trap call args data,r=(bs,key,cs',ls',ts.set i t',(i:Int),stop,trap,t'.2.2.2.1,t'.2.2.1,call,args,data,0,())∧iL (RK bs ss) cs' ls'∧zy (RK bs ss) n t' ∧
  AD n ss i stop trap t'.2.2.2.1 t'.2.2.1 call args data∧QE stop trap t'∧(stop=3→ts[i]?=some t')
theorem xp{n:Int}{ss bs:List Int}{i:Nat}{t':DTh}{stop trap:Int}(hi:i < 4) (ht:zy (RK bs ss) n t') (hs:0≤stop∧stop≤3) (hs1:stop≠1) (htr:0≤trap∧trap≤6):AD n ss i stop trap t'.2.2.2.1 t'.2.2.1 0 [] []:=
 ⟨⟨by omega,by omega⟩,hs,htr,ht.count,ht.pc,by decide,⟨by decide,ef⟩,⟨by decide,ef⟩,fun h=>absurd h hs1,fun h=>absurd h hs1⟩
theorem fJ{α β:Type}(f:α→β) {l:List α}{k:Nat}{x:α}(h:l[k]?=some x):(l.take k).map f++[f x]=(l.take (k+1)).map f:=by
 rw[List.take_add_one,h];simp
theorem iY{β:Type}(f:Nat→β) (k:Nat):(List.range k).map f++[f k]=(List.range (k+1)).map f:=by
 rw[List.range_succ];simp
set_option maxHeartbeats 4000000 in
theorem xN{n key k:Int}{code:List DIn}{ss bs:List Int}{d:List (List Int)}{cs:List DCe}{ls:List DLn}{ts:List DTh}{i:Nat}(hp:kI code ss d) (h:MOk n ss bs cs ls ts) (hn0:0≤n) (hn:n+64≤1099511627776) (hi:i < 4) (hk:1≤k∧k≤64) :
 Ok (lz code ss d bs key cs ls ts (i:Int) k) (HV (n+64) key ss bs ts i):=by
 have htl:=h.tlen
 have hil:i < ts.length:=by omega
 unfold lz;refine (LH hp h hn0 hn hi hk).bind ?_;rintro _ ⟨s,cs',ls',t',rfl,hm,ht',hs⟩;have hM:MOk (n+64) ss bs cs' ls' (ts.set i t'):=(h.mono (show n≤n+64 by omega)).set hm ht';have hgt:(ts.set i t')[i]?=some t':=gz hil t';dsimp only;simp only[bne_self_eq_false,oCF,dL,oBS,gz hil];rcases hs with ⟨rfl,hs1,hs2⟩ | ⟨rfl,hs1⟩ | ⟨rfl,hs1⟩ | ⟨rfl,hs1,x,hs2,hs3,hs4⟩
 ·exact Ok.ret ⟨_,_,_,_,_,_,_,_,rfl,hm,ht',xp hi ht' (by decide) (by decide) (by decide),.inr (.inr (.inr ⟨rfl,hs2⟩)),fun _=>hs1⟩
 ·exact Ok.ret ⟨_,_,_,_,_,_,_,_,rfl,hm,ht',xp hi ht' (by decide) (by decide) (by decide),.inl ⟨rfl,hs1⟩,fun h=>absurd h (by decide)⟩
 ·exact Ok.ret ⟨_,_,_,_,_,_,_,_,rfl,hm,ht',xp hi ht' (by decide) (by decide) ht'.trap,.inr (.inr (.inl ⟨rfl,hs1,rfl⟩)),fun h=>absurd h (by decide)⟩
 ·have hins:=hp.ins x (dN hs3);have hcall:0≤x.2.2.2.2∧x.2.2.2.2≤15:=⟨hins.imm.1,hins.sys hs4⟩;obtain⟨_,ec,e,rfl,he0,he6,hcok⟩:=Je (key:=key) (d:=d) hM hgt hs2 hs3 hcall;obtain⟨o,A,B,C,call⟩:=x;dsimp only at hcall hcok;have hk3:=KM call;have hl8:=ht'.len;obtain⟨j,hj⟩:∃j:Nat,t'.2.2.1 - 1=j:=⟨(t'.2.2.1 - 1).toNat,by omega⟩;have hpc:=ht'.pc;rw[hj,oTN] at hs3;rw[dO (x:=t'.2.2.1 - 1) (by omega) (by omega),hj];simp only[Int.reduceBEq,oCT,oCF,ec,oBS,dL,show dH code j=some (o,A,B,C,call) from hs3,wR hcall];by_cases hne:e=0
  ·subst hne;obtain⟨hfit,hbuf,_⟩:=hcok rfl
   have e1:dQ ir NN (((kB call).length:Int),0,code,ss,d,(),0,(),(),(),0,0,0,0,0,0,(),(),bs,key,cs',ls',ts.set i t',t'.1,t'.2.1,t'.2.2.1,t'.2.2.2.1,t'.2.2.2.2.1,t'.2.2.2.2.2.1,t'.2.2.2.2.2.2.1,t'.2.2.2.2.2.2.2,(i:Int),1,0,t'.2.2.2.1,t'.2.2.1,call,[],(),()) =
    some (((kB call).length:Int),((kB call).length:Int),false,code,ss,d,(),0,(),(),(),0,0,0,0,0,0,(),(),bs,key,cs',ls',ts.set i t',t'.1,t'.2.1,t'.2.2.1,t'.2.2.2.1,t'.2.2.2.2.1,t'.2.2.2.2.2.1,t'.2.2.2.2.2.2.1,t'.2.2.2.2.2.2.2,(i:Int),1,0,t'.2.2.2.1,t'.2.2.1,call,(t'.2.1.take (kB call).length).map (oF bs ss key),(),()):=by
    refine mH (f:=ir) (N:=NN) (st:=fun q=>(((kB call).length:Int),(q:Int),code,ss,d,(),0,(),(),(),0,0,0,0,0,0,(),(),bs,key,cs',ls',ts.set i t',t'.1,t'.2.1,t'.2.2.1,t'.2.2.2.1,t'.2.2.2.2.1,t'.2.2.2.2.2.1,t'.2.2.2.2.2.2.1,t'.2.2.2.2.2.2.2,(i:Int),1,0,t'.2.2.2.1,t'.2.2.1,call,(t'.2.1.take q).map (oF bs ss key),(),())) (n:=(kB call).length) (by unfold NN;omega) ?_ ?_
    ·intro q hq;unfold ir;dsimp only;rw[oDT (show (q:Int) < (kB call).length by omega),dL];simp only[oCT,oBS];refine Ok.get (by omega) fun c hc=>?_;rw[rR h.lay (ht'.regs c (dN hc))];simp only[oBS];refine dF (dS (by simp;omega)) ?_;rw[dO (x:=(q:Int)+1) (by omega) (by omega)];refine Ok.ret ?_;rw[← fJ (oF bs ss key) hc];rfl
    ·unfold ir;dsimp only;rw[oDF (show ¬ ((kB call).length:Int) < (kB call).length by omega)];exact Ok.ret rfl
   have hargs:((t'.2.1.take (kB call).length).map (oF bs ss key)).length=(kB call).length:=by rw[List.length_map,oLT];omega
   have hgetA:∀(j:Nat) a,((t'.2.1.take (kB call).length).map (oF bs ss key))[j]?=some a→∃c,t'.2.1[j]?=some c∧a=oF bs ss key c:=by
    intro j a ha;rw[List.getElem?_map] at ha
    cases hc:(t'.2.1.take (kB call).length)[j]? with
    | none=>rw[hc] at ha;cases ha
    | some c=>
     rw[hc] at ha
     injection ha with ha
     refine⟨c,?_,ha.symm⟩;rw[List.getElem?_take] at hc;split at hc
     ·exact hc
     ·cases hc
   have hargsPr:∀c∈(t'.2.1.take (kB call).length).map (oF bs ss key),Pr ss c:=by
    intro c hc;obtain⟨c',hc',rfl⟩:=List.mem_map.1 hc;exact De h.lay (ht'.regs c' (List.mem_of_mem_take hc'))
   have hkinds:∀(j:Nat) k a,(kB call)[j]?=some k→((t'.2.1.take (kB call).length).map (oF bs ss key))[j]?=some a→MM k a.1=true:=by
    intro j k a hk ha;obtain⟨c,hc,rfl⟩:=hgetA j a ha;rw[(HN (ht'.regs c (dN hc))).1];exact hfit j k c hk hc
   have hbuf2:rS call=2→∃a,((t'.2.1.take (kB call).length).map (oF bs ss key))[2]?=some a∧a.2.1≤16:=by
    intro hb;obtain⟨p,q,hp1,hq2,hq16,_⟩:=hbuf (by omega)
    have hkk:(kB call)[2]?=some 78:=by
     have:call=2∨call=14:=by unfold rS at hb;split at hb<;>first | omega | (split at hb<;>omega)
     rcases this with rfl | rfl<;>rfl
    have hf:=hfit 2 78 q hkk hq2;have hl3:=(oGS hkk).1;refine⟨oF bs ss key q,?_,?_⟩
    ·rw[List.getElem?_map,List.getElem?_take,oIP hl3,hq2];rfl
    ·have hq:=(HN (bs:=bs) (ss:=ss) (key:=key) (ht'.regs q (dN hq2))).2 (by unfold MM at hf;simpa using hf);rw[hq];exact hq16
   simp only[e1,bne_self_eq_false,oCF,oBS,uC hcall]
   have fin:∀data:List DCn,data.length≤16→(∀c∈data,Pr ss c)→Ok (some (bs,key,cs',ls',ts.set i t',(i:Int),(1:Int),(0:Int),t'.2.2.2.1,t'.2.2.1,call,(t'.2.1.take (kB call).length).map (oF bs ss key),data,(0:Int),())) (HV (n+64) key ss bs ts i):=
    fun data h1 h2=>Ok.ret ⟨_,_,_,_,_,_,_,_,rfl,hm,ht',⟨⟨by omega,by omega⟩,by decide,by decide,ht'.count,ht'.pc,hcall,⟨by omega,hargsPr⟩,⟨h1,h2⟩,fun _=>⟨hargs,hkinds⟩,fun _=>hbuf2⟩,.inr (.inl ⟨rfl,hs1⟩),fun h=>absurd h (by decide)⟩
   by_cases hb1:rS call=1
   ·obtain⟨p,q,hp1,hq2,hq16,_,jr,b,z,hbz1,hbz2,hbz3,hbz4⟩:=hbuf (by omega);have hp':=ht'.regs p (dN hp1);have hq':=ht'.regs q (dN hq2);have hjr:=(oGS hbz1).1;have hreg:=h.lay.2.2 jr hjr;unfold vz at hreg;rw[d9 hbz1,d9 hbz2] at hreg;obtain⟨m,hqm⟩:∃m:Nat,q.2=m:=⟨q.2.toNat,by have:=hq'.2.2.1;omega⟩
    have e2:dQ iq NN ((m:Int),0,code,ss,d,(),0,(),(),(),0,0,0,0,0,0,(),(),bs,key,cs',ls',ts.set i t',t'.1,t'.2.1,t'.2.2.1,t'.2.2.2.1,t'.2.2.2.2.1,t'.2.2.2.2.2.1,t'.2.2.2.2.2.2.1,t'.2.2.2.2.2.2.2,(i:Int),1,0,t'.2.2.2.1,t'.2.2.1,call,(t'.2.1.take (kB call).length).map (oF bs ss key),[],()) =
     some ((m:Int),(m:Int),false,code,ss,d,(),0,(),(),(),0,0,0,0,0,0,(),(),bs,key,cs',ls',ts.set i t',t'.1,t'.2.1,t'.2.2.1,t'.2.2.2.1,t'.2.2.2.2.1,t'.2.2.2.2.2.1,t'.2.2.2.2.2.2.1,t'.2.2.2.2.2.2.2,(i:Int),1,0,t'.2.2.2.1,t'.2.2.1,call,(t'.2.1.take (kB call).length).map (oF bs ss key),(List.range m).map (fun j:Nat=>oF bs ss key (sR cs' ls' (p.2+(j:Int)))),()):=by
     refine mH (f:=iq) (N:=NN) (st:=fun q=>((m:Int),(q:Int),code,ss,d,(),0,(),(),(),0,0,0,0,0,0,(),(),bs,key,cs',ls',ts.set i t',t'.1,t'.2.1,t'.2.2.1,t'.2.2.2.1,t'.2.2.2.2.1,t'.2.2.2.2.2.1,t'.2.2.2.2.2.2.1,t'.2.2.2.2.2.2.2,(i:Int),1,0,t'.2.2.2.1,t'.2.2.1,call,(t'.2.1.take (kB call).length).map (oF bs ss key),(List.range q).map (fun j:Nat=>oF bs ss key (sR cs' ls' (p.2+(j:Int)))),())) (n:=m) (by unfold NN;omega) ?_ ?_
     ·intro v hv;unfold iq;dsimp only;have hp0:=hp'.2.2.1;have hp01:=hp'.2.2.2.1;rw[oDT (show (v:Int) < m by omega)];simp only[oCT,oBS,show dH t'.2.1 1=some p from hp1];rw[dT (x:=p.2) (by omega) (by omega),dO (x:=p.2+v) (by omega) (by omega)];obtain⟨hlk,hlv⟩:=yf (a:=p.2+v) hm ⟨by omega,by omega⟩;rw[hlk];simp only[oBS];rw[rR h.lay hlv];simp only[oBS];refine dF (dS (by simp;omega)) ?_;rw[dO (x:=(v:Int)+1) (by omega) (by omega)];refine Ok.ret ?_;rw[← iY];rfl
     ·unfold iq;dsimp only;rw[oDF (show ¬ (m:Int) < m by omega)];exact Ok.ret rfl
    simp only[hb1,BEq.rfl,oCT,show dH t'.2.1 2=some q from hq2,oBS];rw[dT (x:=q.2) (by omega) (by omega),hqm,e2];simp only[oBS];refine fin _ (by rw[List.length_map,List.length_range];omega) ?_;intro c hc;obtain⟨v,hv,rfl⟩:=List.mem_map.1 hc;have hv:=List.mem_range.1 hv;have hp0:=hp'.2.2.1;exact De h.lay (yf (a:=p.2+v) hm ⟨by omega,by omega⟩).2
   ·simp only[oBF hb1,oCF];exact fin [] (by decide) ef
  ·unfold mU k8;simp only[bne_iff_ne.2 hne,oCT];rw[dS (show 4≤1000∧0+t'.2.1.length≤1000000 by omega)];simp only[oCT,oBS,dL,gz hil,om hil];exact Ok.ret ⟨_,_,_,_,_,_,_,_,rfl,hm,ht'.ended ⟨he0,he6⟩,xp hi (ht'.ended ⟨he0,he6⟩) (by decide) (by decide) ⟨he0,he6⟩,.inr (.inr (.inl ⟨rfl,rfl,rfl⟩)),fun h=>absurd h (by decide)⟩
theorem FQ{a b:Int}:mmR false a b≤a∧mmR false a b≤b∧(mmR false a b=a∨mmR false a b=b):=by
 unfold mmR;simp only[Bool.false_eq_true,if_false];split<;>omega
theorem kO{α:Type}{l:List α}{i j:Nat}(h:i≠j) (a:α):(l.set i a)[j]?=l[j]?:=by
 rw[List.getElem?_set];simp[h]
theorem OX.setFile{d:List (List DCn)}{o:DOp}{f:Nat}{x y:List DCn}(h:OX d o) (hf:d[f]?=some x) (hxy:x.length≤y.length):OX (d.set f y) o:=by
 rcases h with h | ⟨h1,z,h2,h3,h4⟩
 ·exact .inl h
 ·refine .inr ⟨h1,?_⟩;by_cases e:f=o.1.toNat
  ·subst e;rw[hf] at h2;cases h2;exact⟨y,gz (oGS hf).1 y,h3,by omega⟩
  ·exact⟨z,by rw[kO e];exact h2,h3,h4⟩
theorem fv.setFile{ss:List Int}{d:List (List DCn)}{os:List DOp}{f:Nat}{x y:List DCn}(h:fv ss d os) (hf:d[f]?=some x) (h64:y.length≤64) (hc:∀c∈y,Pr ss c) (hxy:x.length≤y.length):fv ss (d.set f y) os:=
 ⟨by rw[List.length_set];exact h.dlen,iw h.flen h64,iw h.cells hc,h.olen,fun o ho=>(h.opens o ho).setFile hf hxy⟩
theorem fv.setOpen{ss:List Int}{d:List (List DCn)}{os:List DOp}{i:Nat}{o:DOp}(h:fv ss d os) (ho:OX d o):fv ss d (os.set i o):=
 ⟨h.dlen,h.flen,h.cells,by rw[List.length_set];exact h.olen,iw h.opens ho⟩
theorem By{ss:List Int}{d:List (List DCn)}{os:List DOp}{h:Int}(hF:fv ss d os):∃b,gI d os h=some (b,())∧(b=true→∃(j f:Nat) (o:DOp) (x:List DCn),h=j∧j < 8∧os[j]?=some o∧o.1=f∧d[f]?=some x∧0≤o.2.1∧o.2.1≤x.length):=by
 have:Ok (gI d os h) fun r=>∃b,r=(b,())∧(b=true→∃(j f:Nat) (o:DOp) (x:List DCn),h=j∧j < 8∧os[j]?=some o∧o.1=f∧d[f]?=some x∧0≤o.2.1∧o.2.1≤x.length):=by
  unfold gI;delta dK;simp only[hF.olen]
  (with_reducible refine dE (fun hca=>?_) fun hca=>?_)
  ·(with_reducible refine dE (fun hcb=>?_) fun hcb=>?_)
   ·refine Ok.nat (by omega) fun j hj=>?_;have h8:=hF.olen;refine Ok.get (by omega) fun o ho=>?_;refine Ok.ret ⟨_,rfl,fun hb=>?_⟩;rcases hF.opens o (dN ho) with ⟨h1,_⟩ | ⟨h1,x,h2,h3,h4⟩
    ·rw[h1] at hb;simp at hb
    ·exact⟨j,o.1.toNat,o,x,hj,by omega,ho,by omega,h2,h3,h4⟩
   ·exact Ok.ret ⟨_,rfl,fun h=>by cases h⟩
  ·exact Ok.ret ⟨_,rfl,fun h=>by cases h⟩
 obtain⟨_,e,b,rfl,hb⟩:=this;exact⟨b,e,hb⟩
theorem t9{ss:List Int}{d:List (List DCn)}{os:List DOp}(h:fv ss d os):fL d os=some (d,os,()):=
 copy17_ok (by have:=h.dlen;omega) (fun x hx=>by have:=h.flen x hx;omega) (by have:=h.olen;omega)
theorem H4{ss:List Int}{d:List (List DCn)}{os:List DOp}{h:Int}{l:List DCn}(hs:zA ss) (hF:fv ss d os) (hl:l.length≤16) (hlc:∀c∈l,Pr ss c) :
 Ok (lV d os h l) fun r=>∃d' os' n b,r=(d',os',n,b,())∧fv ss d' os'∧0≤n∧n≤16:=by
 obtain⟨b,eo,hb⟩:=By (h:=h) hF;unfold lV;rw[t9 hF];simp only[oBS,eo]
 cases b with
 | false=>
  simp only[Bool.not_false,oCT,oBS];exact Ok.ret ⟨_,_,_,_,rfl,hF,by decide,by decide⟩
 | true=>
  obtain⟨j,f,o,x,rfl,hj,ho,hof,hx,o0,o1⟩:=hb rfl;have hg:dH os j=some o:=ho;have hgx:dH d f=some x:=hx;have hjl:=(oGS ho).1;have hfl:=(oGS hx).1;have hx64:=hF.flen x (dN hx);simp only[oNT,oCF,dL,oBS,hg]
  cases hw:o.2.2 with
  | false=>
   simp only[Bool.not_false,oCT,oBS];exact Ok.ret ⟨_,_,_,_,rfl,hF,by decide,by decide⟩
  | true=>
   delta dK;simp only[oNT,oCF,oBS,jE (n:=(l.length:Int)) hs hlc (by omega) (by omega),dL,hg,hof,hgx];rw[dO (x:=64 - o.2.1) (by omega) (by omega)];obtain⟨m1,m2,m3⟩:=FQ (a:=(l.length:Int)) (b:=64 - o.2.1);generalize mmR false (l.length:Int) (64 - o.2.1)=k at m1 m2 m3
   refine Ok.loop (P:=fun s'=>∃(i:Nat) (y:List DCn),s'=(l,j,k,k,(i:Int),(),(),d,f,os,y,())∧(i:Int)≤k∧(∀c∈y,Pr ss c)∧x.length≤y.length∧o.2.1+i≤y.length∧y.length≤64)
    (R:=fun r=>∃y:List DCn,r=(l,j,k,k,k,false,(),(),d,f,os,y,())∧(∀c∈y,Pr ss c)∧x.length≤y.length∧o.2.1+k≤y.length∧y.length≤64) (m:=fun s'=>(k - s'.2.2.2.2.1).toNat) ⟨0,x,rfl,by omega,hF.cells x (dN hx),by omega,by omega,hx64⟩ (by unfold NN;dsimp only;omega) ?_ ?_
   ·rintro _ ⟨i,y,rfl,hi,hy,hxy,hoy,hy64⟩;unfold pT;dsimp only
    (with_reducible refine dE (fun hca=>?_) fun hca=>?_)
    ·delta dK;simp only[hg,oBS,dL];rw[dO (x:=o.2.1+i) (by omega) (by omega)];obtain⟨c,hc⟩:∃c,l[i]?=some c:=⟨_,oGE (by omega)⟩;have hgc:dH l i=some c:=hc;have hcp:=hlc c (dN hc);simp only[hgc,oBS];refine Ok.bind (P:=fun r=>∃y':List DCn,r=(l,j,k,k,(i:Int),(),(),d,f,os,y',())∧(∀c∈y',Pr ss c)∧x.length≤y'.length∧o.2.1+i+1≤y'.length∧y'.length≤64) ?_ ?_
     ·(with_reducible refine dE (fun hcb=>?_) fun hcb=>?_)
      ·refine Ok.nat (by omega) fun q hq=>?_;refine Ok.get (by omega) fun _ hz=>?_;refine Ok.get (by omega) fun _ _=>?_;rw[eq hz];exact Ok.ret ⟨_,rfl,iw hy hcp,by rw[List.length_set];omega,by rw[List.length_set];omega,by rw[List.length_set];omega⟩
      ·refine dF (dS (by simp;omega)) ?_;exact Ok.ret ⟨_,rfl,iS hy (all_cons hcp ef),by rw[eW];omega,by rw[eW,List.length_singleton];omega,by rw[eW,List.length_singleton];omega⟩
     ·rintro _ ⟨y',rfl,g1,g2,g3,g4⟩;dsimp only;rw[dO (x:=(i:Int)+1) (by omega) (by omega)];exact Ok.ret ⟨⟨i+1,y',rfl,by omega,g1,g2,by omega,g4⟩,by dsimp only;omega⟩
    ·obtain rfl:(i:Int)=k:=by omega
     exact Ok.ret ⟨y,rfl,hy,hxy,hoy,hy64⟩
   ·rintro _ ⟨y,rfl,hy,hxy,hoy,hy64⟩;dsimp only;simp only[hg,oBS,hof,dL,hgx];refine dF (by simp) ?_;rw[dO (x:=o.2.1+k) (by omega) (by omega),eq hx,eq ho];refine Ok.ret ⟨_,_,_,_,rfl,(hF.setFile hx hy64 hy hxy).setOpen (.inr ⟨by dsimp only;omega,y,?_,by dsimp only;omega,by dsimp only;omega⟩),by omega,by omega⟩;dsimp only;rw[hof,oTN];exact gz hfl y
theorem Kj{ss:List Int}{d:List (List DCn)}{os:List DOp}{h n:Int}(hF:fv ss d os) (hn:0≤n∧n≤65535) :
 Ok (nG d os h n) fun r=>(∃d' os',r=.inl (d',os',(),false,())∧fv ss d' os')∨(∃d' os' l,r=.inr (d',os',l,true,())∧fv ss d' os'∧(l.length:Int)≤n∧l.length≤64∧∀c∈l,Pr ss c):=by
 obtain⟨b,eo,hb⟩:=By (h:=h) hF;unfold nG;rw[t9 hF];simp only[oBS,eo]
 cases b with
 | false=>
  simp only[Bool.not_false,oCT,oBS];exact Ok.ret (.inl ⟨_,_,rfl,hF⟩)
 | true=>
  obtain⟨j,f,o,x,rfl,hj,ho,hof,hx,o0,o1⟩:=hb rfl;have hg:dH os j=some o:=ho;have hgx:dH d f=some x:=hx;have hx64:=hF.flen x (dN hx);rw[oDF (show ¬ n < 0 by omega)];simp only[oNT,oCF,dL,oBS,hg]
  cases hw:o.2.2 with
  | true=>exact Ok.ret (.inl ⟨_,_,rfl,hF⟩)
  | false=>
   delta dK;simp only[oCF,dL,oBS,hg,hof,hgx];rw[dO (x:=(x.length:Int) - o.2.1) (by omega) (by omega)];obtain⟨m1,m2,m3⟩:=FQ (a:=n) (b:=(x.length:Int) - o.2.1);generalize mmR false n ((x.length:Int) - o.2.1)=k at m1 m2 m3;rw[dO (x:=o.2.1+k) (by omega) (by omega)];refine Ok.nat o0 fun p hp=>?_;refine Ok.nat (by omega) fun q hq=>?_;refine dF (by unfold hY;simp;omega) ?_
   have hw2:(nv x p (Nat.sub q p)).length=q - p:=by
    unfold nv;rw[oLT,List.length_drop];show min (q - p) _=q - p;omega
   refine dF (dS (by omega)) ?_;rw[eq ho];refine Ok.ret (.inr ⟨_,_,_,rfl,hF.setOpen (.inr ⟨by dsimp only;omega,x,by dsimp only;rw[hof,oTN];exact hx,by dsimp only;omega,by dsimp only;omega⟩),?_,?_,?_⟩)
   ·rw[eW,hw2];simp;omega
   ·rw[eW,hw2];simp;omega
   ·refine iS ef fun c hc=>hF.cells x (dN hx) c ?_;unfold nv at hc;exact List.mem_of_mem_drop (List.mem_of_mem_take hc)
theorem Ja{ss:List Int}{d:List (List DCn)}{os:List DOp}{h:Int}(hF:fv ss d os):Ok (lW d os h) fun r=>∃d' os' b,r=(d',os',b,())∧fv ss d' os':=by
 obtain⟨b,eo,hb⟩:=By (h:=h) hF;unfold lW;rw[t9 hF];simp only[oBS,eo]
 cases b with
 | false=>exact Ok.ret ⟨_,_,_,rfl,hF⟩
 | true=>
  obtain⟨j,f,o,x,rfl,hj,ho,hof,hx,o0,o1⟩:=hb rfl;have hg:dH os j=some o:=ho;simp only[oNT,oCF,dL,oBS,hg];rw[eq ho];exact Ok.ret ⟨_,_,_,rfl,hF.setOpen (.inl ⟨rfl,rfl,rfl⟩)⟩
theorem J8{ss:List Int}{d:List (List DCn)}{os:List DOp}{h n:Int}(hF:fv ss d os):Ok (nF d os h n) fun r=>∃d' os' b,r=(d',os',b,())∧fv ss d' os':=by
 obtain⟨b,eo,hb⟩:=By (h:=h) hF;unfold nF;rw[t9 hF];simp only[oBS,eo]
 cases b with
 | false=>
  simp only[Bool.not_false,oCT,oBS];exact Ok.ret ⟨_,_,_,rfl,hF⟩
 | true=>
  obtain⟨j,f,o,x,rfl,hj,ho,hof,hx,o0,o1⟩:=hb rfl;have hg:dH os j=some o:=ho;have hgx:dH d f=some x:=hx;delta dK;simp only[oNT,oCF,dL,oBS,hg,hof,hgx];by_cases hn:n < 0
  ·simp only[oDT hn,oCT,oBS];exact Ok.ret ⟨_,_,_,rfl,hF⟩
  ·simp only[oDF hn,oCF,oBS]
   (with_reducible refine dE (fun hca=>?_) fun hca=>?_)
   ·exact Ok.ret ⟨_,_,_,rfl,hF⟩
   ·simp only[dL,oBS,hg];rw[eq ho];exact Ok.ret ⟨_,_,_,rfl,hF.setOpen (.inr ⟨by dsimp only;omega,x,by dsimp only;rw[hof,oTN];exact hx,by dsimp only;omega,by dsimp only;omega⟩)⟩
theorem Mk{ss:List Int}{d:List (List DCn)}{os:List DOp}{file mode:Int}(hF:fv ss d os):Ok (nH d os file mode) fun r=>∃d' os' h,r=(d',os',h,())∧fv ss d' os'∧-1≤h∧h≤7:=by
 have h8:=hF.olen;have hd4:=hF.dlen;unfold nH;rw[t9 hF];simp only[oBS];refine Ok.loop (P:=fun s'=>∃i:Nat,s'=(file,mode,(i:Int),d,os,(),(),d,os,())∧i≤8) (R:=fun r=>∃i:Nat,r=(file,mode,(i:Int),false,d,os,(),(),d,os,())∧i≤8) (m:=fun s'=>(8 - s'.2.2.1).toNat) ⟨0,rfl,by omega⟩ (by unfold NN;dsimp only;omega) ?_ ?_
 ·rintro _ ⟨i,rfl,hi⟩;unfold qr;delta dK;simp only[h8,dL,oBS]
  (with_reducible refine dE (fun hca=>?_) fun hca=>?_)
  ·refine Ok.get (by omega) fun o ho=>?_
   (with_reducible refine dE (fun hcb=>?_) fun hcb=>?_)
   ·rw[dO (x:=(i:Int)+1) (by omega) (by omega)];exact Ok.ret ⟨⟨i+1,rfl,by omega⟩,by dsimp only;omega⟩
   ·exact Ok.ret ⟨i,rfl,hi⟩
  ·exact Ok.ret ⟨i,rfl,hi⟩
 rintro _ ⟨i,rfl,hi⟩;delta dK;simp only[h8];have bad:fv ss d os∧(-1:Int)≤-1∧(-1:Int)≤7:=⟨hF,by decide,by decide⟩;refine Ok.bind (P:=fun r=>(∃b:Bool,r=(file,mode,(i:Int),b,(),(),d,os,())∧(b=false→0≤file∧file < d.length∧i < 8))) ?_ ?_
 ·(with_reducible refine dE (fun hca=>?_) fun hca=>?_)
  ·exact Ok.ret ⟨true,rfl,fun h=>by cases h⟩
  (with_reducible refine dE (fun hcb=>?_) fun hcb=>?_)
  ·exact Ok.ret ⟨true,rfl,fun h=>by cases h⟩
  (with_reducible refine dE (fun hcc=>?_) fun hcc=>?_)
  ·exact Ok.ret ⟨true,rfl,fun h=>by cases h⟩
  (with_reducible refine dE (fun hcd=>?_) fun hcd=>?_)
  ·exact Ok.ret ⟨true,rfl,fun h=>by cases h⟩
  exact Ok.ret ⟨_,rfl,fun h=>⟨by omega,by omega,by rw[beq_eq_false_iff_ne] at h;omega⟩⟩
 rintro _ ⟨b,rfl,hb⟩;dsimp only
 cases b with
 | true=>exact Ok.ret ⟨_,_,_,rfl,bad⟩
 | false=>
  obtain⟨f0,f1,hi8⟩:=hb rfl;obtain⟨f,rfl⟩:∃f:Nat,file=f:=⟨file.toNat,by omega⟩;obtain⟨x,hx⟩:∃x,d[f]?=some x:=⟨_,oGE (by omega)⟩;obtain⟨o,ho⟩:∃o,os[i]?=some o:=⟨_,oGE (by omega)⟩;have hgx:dH d f=some x:=hx;have hg:dH os i=some o:=ho;have hfl:=(oGS hx).1;have hil:=(oGS ho).1;simp only[oCF,dL,oBS,hgx,hg];by_cases h1:mode=1
  ·subst h1;simp only[BEq.rfl,oCT];rw[eq hx];simp only[h8]
   refine Ok.loop (P:=fun s'=>∃(q:Nat) (os':List DOp),s'=((f:Int),1,(i:Int),((8:Nat):Int),(q:Int),(),(),d.set f [],os',())∧q≤8∧os'.length=8∧(∀(j:Nat) o,j < q→os'[j]?=some o→OX (d.set f []) o)∧∀j:Nat,q≤j→os'[j]?=os[j]?)
    (R:=fun r=>∃(z:Int) (os':List DOp),r=((f:Int),1,(i:Int),((8:Nat):Int),z,false,(),(),d.set f [],os',())∧fv ss (d.set f []) os') (m:=fun s'=>(8 - s'.2.2.2.2.1).toNat) ⟨0,os,rfl,by omega,h8,fun j o hj=>by omega,fun _ _=>rfl⟩ (by unfold NN;dsimp only;omega) ?_ ?_
   ·rintro _ ⟨q,os',rfl,hq,hl',ha,hr⟩;unfold qq;dsimp only
    (with_reducible refine dE (fun hca=>?_) fun hca=>?_)
    ·obtain⟨o',ho'⟩:∃o',os'[q]?=some o':=⟨_,oGE (by omega)⟩;have hg':dH os' q=some o':=ho';have hop:=hF.opens o' (dN (by rw[← hr q (by omega)];exact ho'));simp only[dL,oBS,hg'];refine Ok.bind (P:=fun r=>∃o2:DOp,OX (d.set f []) o2∧r=((f:Int),1,(i:Int),((8:Nat):Int),(q:Int),(),(),d.set f [],os'.set q o2,())) ?_ ?_
     ·by_cases hof:o'.1=f
      ·simp only[beq_iff_eq.2 hof,oCT];rw[eq ho'];exact Ok.ret ⟨_,.inr ⟨by dsimp only;omega,[],by dsimp only;rw[hof,oTN];exact gz hfl [],by dsimp only;omega,by simp⟩,rfl⟩
      ·simp only[oBF hof,oCF];refine Ok.ret ⟨o',?_,by rw[Bp ho']⟩;rcases hop with h | ⟨g1,z,g2,g3⟩
       ·exact .inl h
       ·exact .inr ⟨g1,z,by rw[kO (by omega)];exact g2,g3⟩
     ·rintro _ ⟨o2,hop2,rfl⟩;dsimp only;rw[dO (x:=(q:Int)+1) (by omega) (by omega)];refine Ok.ret ⟨⟨q+1,_,rfl,by omega,by rw[List.length_set];exact hl',fun j o hj hjo=>?_,fun j hj=>?_⟩,by dsimp only;omega⟩
      ·by_cases e:q=j
       ·subst e;rw[show (os'.set q o2)[q]?=some o2 from gz (by omega) o2] at hjo;cases hjo;exact hop2
       ·rw[kO e] at hjo;exact ha j o (by omega) hjo
      ·rw[kO (by omega)];exact hr j (by omega)
    ·refine Ok.ret ⟨_,_,rfl,⟨by rw[List.length_set];exact hd4,iw hF.flen (by simp),iw hF.cells ef,hl',fun o' ho'=>?_⟩⟩;obtain⟨j,hj⟩:=List.getElem?_of_mem ho';have:=(oGS hj).1;exact ha j o' (by omega) hj
   ·rintro _ ⟨z,os',rfl,hF'⟩;have hl':=hF'.olen;obtain⟨o',ho'⟩:∃o',os'[i]?=some o':=⟨_,oGE (by omega)⟩;have hg':dH os' i=some o':=ho';simp only[dL,oBS,hg',show ((1:Int)==2)=false from rfl,oCF];rw[eq ho'];exact Ok.ret ⟨_,_,_,rfl,hF'.setOpen (.inr ⟨by dsimp only;omega,[],by dsimp only;rw[oTN];exact gz hfl [],by dsimp only;omega,by simp⟩),by omega,by omega⟩
  ·simp only[oBF h1,oCF];rw[eq ho];by_cases h2:mode=2
   ·subst h2;simp only[BEq.rfl,oCT,oBS,gz hil,om hil];exact Ok.ret ⟨_,_,_,rfl,hF.setOpen (.inr ⟨by dsimp only;omega,x,by dsimp only;rw[oTN];exact hx,by dsimp only;omega,by dsimp only;omega⟩),by omega,by omega⟩
   ·simp only[oBF h2,oCF,oBS];exact Ok.ret ⟨_,_,_,rfl,hF.setOpen (.inr ⟨by dsimp only;omega,x,by dsimp only;rw[oTN];exact hx,by dsimp only;omega,by dsimp only;omega⟩),by omega,by omega⟩
theorem fY(n:Int) (b:Bool):∃v,d7 n b=some (0,v,0,0,(),-1,false,())∧W16 v:=by
 unfold d7
 cases b with
 | true=>exact⟨_,rfl,mM _⟩
 | false=>exact⟨_,rfl,mM _⟩
theorem kg{ss:List Int}{v:Int}(h:W16 v):Pr ss (0,v,0,0):=.inl ⟨.inl rfl,rfl,rfl,h⟩
theorem Ng{ss:List Int}{v:Int}(h:W16 v):Pr ss (2,v,0,0):=.inl ⟨.inr rfl,rfl,rfl,h⟩
theorem J7{ss:List Int}{us:List DOu}{sk:Int}{l:List DCn}(hu:us.length≤200) (ho:∀(i:Nat) x,us[i]?=some x→PY ss i x) (hl:l.length≤16) (hlc:∀c∈l,Pr ss c) :
 Ok (nE us sk l) fun r=>∃us' n b,r=(us',n,b,())∧us'.length≤200∧∀(i:Nat) x,us'[i]?=some x→PY ss i x:=by
 have hc:ju us=some (us,()):=Fe (by omega) fun x hx=>by
  obtain⟨j,hj⟩:=List.getElem?_of_mem hx;have:=(ho j x hj).2.2.2.1;omega
 unfold nE;rw[hc];delta dK;simp only[oBS];refine Ok.bind (P:=fun r=>∃b:Bool,r=(us,sk,l,b,us,())∧(b=false→0≤sk∧sk < 2∧us.length < 200)) ?_ ?_
 ·(with_reducible refine dE (fun hca=>?_) fun hca=>?_)
  ·exact Ok.ret ⟨true,rfl,fun h=>by cases h⟩
  (with_reducible refine dE (fun hcb=>?_) fun hcb=>?_)
  ·exact Ok.ret ⟨true,rfl,fun h=>by cases h⟩
  (with_reducible refine dE (fun hcc=>?_) fun hcc=>?_)
  ·exact Ok.ret ⟨true,rfl,fun h=>by cases h⟩
  exact Ok.ret ⟨_,rfl,fun h=>⟨by omega,by omega,by omega⟩⟩
 rintro _ ⟨b,rfl,hb⟩;dsimp only
 cases b with
 | true=>exact Ok.ret ⟨_,_,_,rfl,hu,ho⟩
 | false=>
  obtain⟨s0,s1,hlt⟩:=hb rfl;simp only[oCF];refine dF (dS (by omega)) (dF (dS (by simp;omega)) ?_);refine Ok.ret ⟨_,_,_,rfl,by rw[eW];simp;omega,fun i x hx=>?_⟩;simp only[List.append_eq,List.nil_append] at hx;rw[List.getElem?_append] at hx;split at hx
  ·exact ho i x hx
  ·rename_i hi;obtain⟨q,hq⟩:∃q,i - us.length=q:=⟨_,rfl⟩;rw[hq] at hx
   cases q with
   | zero=>
    have:x=((us.length:Int),sk,l):=by simpa using hx.symm
    subst this;exact⟨by dsimp only;omega,s0,s1,hl,hlc⟩
   | succ q=>simp at hx
theorem DC{ss:List Int}{ins:List (List Int)}{sk n:Int}(hi:ins.length≤2) (h:∀x∈ins,x.length≤64∧∀w∈x,W16 w) (hn:0≤n∧n≤65535) :
 Ok (jP ins sk n) fun r=>(∃ins',r=.inl (ins',(),false,())∧ins'.length≤2∧∀x∈ins',x.length≤64∧∀w∈x,W16 w) ∨
  (∃ins' l,r=.inr (ins',l,true,())∧(ins'.length≤2∧∀x∈ins',x.length≤64∧∀w∈x,W16 w)∧(l.length:Int)≤n∧l.length≤64∧∀c∈l,Pr ss c):=by
 unfold jP;rw[y9 (by omega) (fun x hx=>by have:=(h x hx).1;omega)];delta dK;simp only[oBS];refine Ok.bind (P:=fun r=>∃b:Bool,r=(ins,sk,n,b,ins,())∧(b=false→0≤sk∧sk < ins.length)) ?_ ?_
 ·(with_reducible refine dE (fun hca=>?_) fun hca=>?_)
  ·exact Ok.ret ⟨true,rfl,fun h=>by cases h⟩
  (with_reducible refine dE (fun hcb=>?_) fun hcb=>?_)
  ·exact Ok.ret ⟨true,rfl,fun h=>by cases h⟩
  exact Ok.ret ⟨_,rfl,fun _=>⟨by omega,by omega⟩⟩
 rintro _ ⟨b,rfl,hb⟩;dsimp only
 cases b with
 | true=>exact Ok.ret (Or.inl ⟨_,rfl,hi,h⟩)
 | false=>
 obtain⟨s0,s1⟩:=hb rfl;obtain⟨j,rfl⟩:∃j:Nat,sk=j:=⟨sk.toNat,by omega⟩;obtain⟨x,hx⟩:∃x,ins[j]?=some x:=⟨_,oGE (by omega)⟩;have hgx:dH ins j=some x:=hx;have hjl:=(oGS hx).1;obtain⟨hx64,hxw⟩:=h x (dN hx);simp only[oCF,oBS,dL,hgx];obtain⟨m1,m2,m3⟩:=FQ (a:=n) (b:=(x.length:Int));generalize mmR false n (x.length:Int)=k at m1 m2 m3;obtain⟨q,rfl⟩:∃q:Nat,k=q:=⟨k.toNat,by omega⟩;simp only[dL,oBS];refine dF (by unfold hY;simp;omega) ?_
 have hw:nv x 0 (Nat.sub q 0)=x.take q:=by unfold nv;rw[List.drop_zero];rfl
 have hwl:(x.take q).length=q:=by rw[oLT];omega
 rw[hw];simp only[hwl]
 have e:dQ fZ NN ((j:Int),(q:Int),x.take q,(q:Int),0,ins,[],())=some ((j:Int),(q:Int),x.take q,(q:Int),(q:Int),false,ins,(x.take q).map (fun w=>(0,w,0,0)),()):=by
  have:=mH (f:=fZ) (N:=NN) (st:=fun i=>((j:Int),(q:Int),x.take q,(q:Int),(i:Int),ins,((x.take q).take i).map (fun w=>((0:Int),w,(0:Int),(0:Int))),())) (n:=q) (t:=((j:Int),(q:Int),x.take q,(q:Int),(q:Int),false,ins,(x.take q).map (fun w=>((0:Int),w,(0:Int),(0:Int))),())) (by unfold NN;omega) ?_ ?_
  ·exact this
  ·intro i hi;unfold fZ;dsimp only;rw[oDT (show (i:Int) < q by omega),dL];simp only[oCT,oBS];refine Ok.get (by omega) fun w hw=>?_;refine dF (dS (by simp;omega)) ?_;rw[dO (x:=(i:Int)+1) (by omega) (by omega)];refine Ok.ret ?_;rw[← fJ (fun w=>((0:Int),w,(0:Int),(0:Int))) hw];rfl
  ·unfold fZ;dsimp only;rw[oDF (show ¬ (q:Int) < q by omega)];refine Ok.ret ?_;rw[show (x.take q).take q=x.take q from List.take_of_length_le (by omega)]
 rw[e];simp only[dL,oBS,hgx];refine dF (by unfold hY;simp;omega) ?_
 try simp only[dL,oBS,hgx]
 rw[eq hx]
 have hd:∀c∈nv x q (Nat.sub x.length q),c∈x:=fun c hc=>by
  unfold nv at hc;exact List.mem_of_mem_drop (List.mem_of_mem_take hc)
 have hdl:(nv x q (Nat.sub x.length q)).length≤64:=by
  unfold nv;rw[oLT,List.length_drop];omega
 refine Ok.ret (.inr ⟨_,_,rfl,⟨by rw[List.length_set];exact hi,iw h ⟨hdl,fun w hw=>hxw w (hd w hw)⟩⟩,by rw[List.length_map,hwl];omega,by rw[List.length_map,hwl];omega,fun c hc=>?_⟩);obtain⟨w,hw,rfl⟩:=List.mem_map.1 hc;exact kg (hxw w (List.mem_of_mem_take hw))
theorem AI{n:Int}{ss:List Int}{i stop trap count pc call:Int}{args data:List DCn}(hs:zA ss) (h:AD n ss i stop trap count pc call args data) (hn:n≤1099511627776):jZ i stop trap count pc call args data=some (true,()):=by
 obtain⟨⟨a1,a2⟩,⟨b1,b2⟩,⟨c1,c2⟩,⟨d1,d2⟩,⟨e1,e2⟩,⟨f1,f2⟩,⟨g1,g2⟩,⟨k1,k2⟩,_,_⟩:=h;refine eL ?_;unfold jZ;rw[jE (n:=3) hs g2 (by omega) (by omega),jE (n:=16) hs k2 (by omega) (by omega)];refine dF (oDT a1) (dF (oDT (by omega)) (dF (oDT b1) (dF (oDT b2) (dF (oDT c1) (dF (oDT c2) (dF (oDT d1) (dF (oDT (by omega)) (dF (oDT e1) (dF (oDT e2) (dF (oDT f1) (dF (oDT f2) ?_)))))))))));exact Ok.ret rfl
theorem IL{n:Int}{ss:List Int}{i trap count pc call:Int}{args data:List DCn}(h:AD n ss i 1 trap count pc call args data):lZ i 1 trap count pc call args data=some (true,()):=by
 obtain⟨hl,hk⟩:=h.hkind rfl;obtain⟨b,eb,hb1,hb2⟩:=BD h.hcall;have h3:=KM call
 have e:dQ gW NN (b,args,(args.length:Int),0,i,1,trap,count,pc,call,args,data,())=some (.inr (b,args,(args.length:Int),(args.length:Int),false,i,1,trap,count,pc,call,args,data,())):=by
  refine mH (f:=gW) (N:=NN) (st:=fun q=>(b,args,(args.length:Int),(q:Int),i,1,trap,count,pc,call,args,data,())) (n:=args.length) (by unfold NN;omega) ?_ ?_
  ·intro q hq;obtain⟨k,hkq⟩:∃k,(kB call)[q]?=some k:=⟨_,oGE (by omega)⟩;obtain⟨a,ha⟩:∃a,args[q]?=some a:=⟨_,oGE (by omega)⟩;unfold gW;dsimp only;rw[oDT (show (q:Int) < args.length by omega),dL];simp only[oCT,oBS,show dH args q=some a from ha,hb2 q,hkq,K6,hk q k a hkq ha,oNT,oCF];rw[dO (x:=(q:Int)+1) (by omega) (by omega)];exact Ok.ret rfl
  ·unfold gW;dsimp only;rw[oDF (show ¬ (args.length:Int) < args.length by omega)];exact Ok.ret rfl
 unfold lZ;delta dK;simp only[eb,oBS,hb1,hl,bne_self_eq_false,oCF];rw[hl] at e;rw[e]
def OU(call:Int):Bool:=decide ((1≤call∧call≤7)∨call=13∨call=14)
theorem OT{call:Int}(h:0≤call∧call≤15):qp call=some (OU call,()):=by
 rcases vt h with rfl | rfl | rfl | rfl | rfl | rfl | rfl | rfl | rfl | rfl | rfl | rfl | rfl | rfl | rfl | rfl<;>rfl
structure Qf (ss:List Int) (t v r o:Int) (data:List DCn) (sp:Int) (w:Bool):Prop where
 val:Pr ss (t,v,r,o)
 dat:data.length≤64∧∀c∈data,Pr ss c
 spn:-1≤sp∧sp≤3
def DoP(ss:List Int) (r:(List (Int))×(List (Int))×(List (List (Int)))×(List (List DCn))×(List DOp)×(List DOu)×Int×Int×Int×Int×(List DCn)×Int×Bool×Int×Unit):Prop:=
 ∃ck rn ins d os us t v rg o data,r=(ck,rn,ins,d,os,us,t,v,rg,o,data,-1,false,0,())∧zB ss ck rn ins d os us∧Pr ss (t,v,rg,o)∧data.length≤16∧∀c∈data,Pr ss c
theorem kn{ss:List Int}{ck rn:List Int}{ins:List (List Int)}{d:List (List DCn)}{os:List DOp}{us:List DOu}{t v rg o:Int}{data:List DCn}(h:zB ss ck rn ins d os us) (hv:Pr ss (t,v,rg,o)) (hd:data.length≤16∧∀c∈data,Pr ss c) :
 Ok (some (ck,rn,ins,d,os,us,t,v,rg,o,data,(-1:Int),false,(0:Int),())) (DoP ss):=Ok.ret ⟨_,_,_,_,_,_,_,_,_,_,_,rfl,h,hv,hd⟩
theorem Pr.val{ss:List Int}{c:DCn}(h:Pr ss c):W16 c.2.1:=by
 rcases h with ⟨_,_,_,h⟩ | ⟨_,h,_⟩
 ·exact h
 ·rw[h];exact⟨by decide,by decide⟩
theorem PE{n:Int}{ss:List Int}{i trap count pc call:Int}{args data:List DCn}(h:AD n ss i 1 trap count pc call args data):rS call=0∨rS call=1∨(rS call=2∧∃a,args[2]?=some a∧a.2.1≤16):=by
 by_cases h2:rS call=2
 ·exact .inr (.inr ⟨h2,h.hbuf rfl h2⟩)
 ·have:rS call=0∨rS call=1∨rS call=2:=by unfold rS;split<;>first | omega | (split<;>omega)
  omega
theorem xI{α:Type}{a b:Option α}{Q:α→Prop}(h:Ok a Q) (e:b=a):Ok b Q:=by rw[e];exact h
set_option maxHeartbeats 4000000 in
theorem OH{n:Int}{ss:List Int}{ck rn:List Int}{ins:List (List Int)}{d:List (List DCn)}{os:List DOp}{us:List DOu}{i trap count pc call:Int}{args data:List DCn}(hs:zA ss) (hO:zB ss ck rn ins d os us) (hR:AD n ss i 1 trap count pc call args data)
 (ha:OU call=true) (hn:n≤1099511627776):Ok (oe ck rn ins d os us i 1 trap count pc call args data) (DoP ss):=by
 have hc:=hR.hcall;have hdat:=hR.hdata;have hap:=hR.hargs;unfold oe;rw[uF hs hO,AI hs hR hn,OT hc,ha,IL hR,uC hc];simp only[oBS,oNT,oCF,bne_self_eq_false];refine Ok.bind (P:=fun r=>r=(false,ck,rn,ins,d,os,us,i,1,trap,count,pc,call,args,data,(),(),(),(),(),(),0,0,0,0,(),0,false,())) ?_ ?_
 ·rcases PE hR with h | h | ⟨h,a,h2,h3⟩
  ·rw[h];exact Ok.ret rfl
  ·rw[h];exact Ok.ret rfl
  ·rw[h];simp only[BEq.rfl,oCT,show dH args 2=some a from h2,oBS];rw[oDF (show ¬ a.2.1 > 16 by omega)];exact Ok.ret rfl
 rintro _ rfl;dsimp only;delta dK;simp only[oCF,Fd hO,oBS]
 refine Ok.loop (P:=fun s'=>∃(k:Nat) (vs:List Int),s'=(args,(args.length:Int),(k:Int),ck,rn,ins,d,os,us,i,1,trap,count,pc,call,args,data,(),(),(),(),(),(),0,0,0,0,(),0,false,ck,rn,ins,d,os,us,vs,())∧k≤args.length∧vs.length=3∧(∀v∈vs,W16 v)∧∀(j:Nat) a,j < k→args[j]?=some a→vs[j]?=some a.2.1)
  (R:=fun r=>∃(z:Int) (vs:List Int),r=(args,(args.length:Int),z,false,ck,rn,ins,d,os,us,i,1,trap,count,pc,call,args,data,(),(),(),(),(),(),0,0,0,0,(),0,false,ck,rn,ins,d,os,us,vs,())∧vs.length=3∧(∀v∈vs,W16 v)∧∀(j:Nat) a,args[j]?=some a→vs[j]?=some a.2.1) (m:=fun s'=>(s'.2.1 - s'.2.2.1).toNat)
  ⟨0,[0,0,0],rfl,by omega,rfl,all_cons ⟨by decide,by decide⟩ (all_cons ⟨by decide,by decide⟩ (all_cons ⟨by decide,by decide⟩ ef)),fun j a hj=>by omega⟩ (by unfold NN;dsimp only;omega) ?_ ?_
 ·rintro _ ⟨k,vs,rfl,hk,hv3,hvw,hva⟩;unfold tw;dsimp only
  (with_reducible refine dE (fun hca=>?_) fun hca=>?_)
  ·simp only[dL,oBS];refine Ok.get (by omega) fun a hak=>?_;have hw:=(hap.2 a (dN hak)).val;refine Ok.get (by omega) fun v hv=>?_;refine Ok.get (by omega) fun _ _=>?_;rw[dT (x:=a.2.1) (by have:=hw.1;omega) (by have:=hw.2;omega),dO (x:=(k:Int)+1) (by omega) (by omega),eq hv];refine Ok.ret ⟨⟨k+1,_,rfl,by omega,by rw[List.length_set];exact hv3,iw hvw hw,fun j a' hj haj=>?_⟩,by dsimp only;omega⟩;by_cases e:k=j
   ·subst e;rw[hak] at haj;cases haj;exact gz (by omega) _
   ·rw[kO e];exact hva j a' (by omega) haj
  ·refine Ok.ret ⟨_,vs,rfl,hv3,hvw,fun j a haj=>hva j a ?_ haj⟩;have:=(oGS haj).1;omega
 rintro _ ⟨z,vs,rfl,hv3,hvw,hva⟩;obtain⟨v0,ev0,hv0⟩:=fY 0 false
 obtain⟨a0,a1,a2,rfl⟩:∃a b c,vs=[a,b,c]:=by
  match vs,hv3 with
  | [a,b,c],_=>exact⟨a,b,c,rfl⟩
 have w0:W16 a0:=hvw a0 (by simp);have w1:W16 a1:=hvw a1 (by simp);have w2:W16 a2:=hvw a2 (by simp);have g0:dH [a0,a1,a2] 0=some a0:=rfl;have g1:dH [a0,a1,a2] 1=some a1:=rfl;have g2:dH [a0,a1,a2] 2=some a2:=rfl
 have a2le:rS call=2→a2≤16:=fun h=>by
  obtain⟨a,h2,h3⟩:=hR.hbuf rfl h;have:=hva 2 a h2
  have:a2=a.2.1:=by simpa using this
  omega
 have nil16:([]:List DCn).length≤16∧∀c∈([]:List DCn),Pr ss c:=⟨by decide,ef⟩;dsimp only;simp only[ev0,oBS,g0,g1,g2];rcases vt hc with rfl | rfl | rfl | rfl | rfl | rfl | rfl | rfl | rfl | rfl | rfl | rfl | rfl | rfl | rfl | rfl
 all_goals first | (exact absurd ha (by decide)) | simp only[Int.reduceBEq,oCT,oCF]
 ·obtain⟨_,e,d1,os1,m,b,rfl,hF,_⟩:=H4 (h:=a0) hs hO.files hdat.1 hdat.2;obtain⟨v,ev,hv⟩:=fY m b;simp only[e,ev,oBS];exact kn ⟨hO.clock,hO.rand,hO.ilen,hO.inp,hF,hO.ulen,hO.outs⟩ (kg hv) nil16
 ·have hle:=a2le rfl;obtain⟨_,e,hr⟩:=Kj (h:=a0) (n:=a2) hO.files w2;rcases hr with ⟨d1,os1,rfl,hF⟩ | ⟨d1,os1,l,rfl,hF,hl,_,hlc⟩
  ·simp only[e,ev0,oBS];exact kn ⟨hO.clock,hO.rand,hO.ilen,hO.inp,hF,hO.ulen,hO.outs⟩ (kg hv0) nil16
  ·obtain⟨v,ev,hv⟩:=fY (l.length:Int) true;simp only[e,ev,oBS];exact kn ⟨hO.clock,hO.rand,hO.ilen,hO.inp,hF,hO.ulen,hO.outs⟩ (kg hv) ⟨by omega,hlc⟩
 ·obtain⟨_,e,d1,os1,h,rfl,hF,h0,h7⟩:=Mk (file:=a0) (mode:=a1) hO.files;simp only[e,oBS];have hout:zB ss ck rn ins d1 os1 us:=⟨hO.clock,hO.rand,hO.ilen,hO.inp,hF,hO.ulen,hO.outs⟩;by_cases hh:h≥0
  ·simp only[oDT hh,oCT];exact kn hout (Ng (mM _)) nil16
  ·simp only[oDF hh,oCF];exact kn hout (kg hv0) nil16
 ·obtain⟨_,e,d1,os1,b,rfl,hF⟩:=Ja (h:=a0) hO.files;obtain⟨v,ev,hv⟩:=fY 0 b;simp only[e,ev,oBS];exact kn ⟨hO.clock,hO.rand,hO.ilen,hO.inp,hF,hO.ulen,hO.outs⟩ (kg hv) nil16
 ·obtain⟨_,e,d1,os1,b,rfl,hF⟩:=J8 (h:=a0) (n:=a1) hO.files;obtain⟨v,ev,hv⟩:=fY 0 b;simp only[e,ev,oBS];exact kn ⟨hO.clock,hO.rand,hO.ilen,hO.inp,hF,hO.ulen,hO.outs⟩ (kg hv) nil16
 ·cases ck with
  | nil=>exact kn hO (kg hv0) nil16
  | cons x ck=>
   obtain⟨v,ev,hv⟩:=fY (wk .i64 x) true
   have hw:nv (x :: ck) 1 (Nat.sub (x :: ck).length 1)=ck:=by unfold nv;simp
   refine xI (kn (ck:=ck) ⟨⟨by have:=hO.clock.1;simp at this;omega,fun w hw=>hO.clock.2 w (by simp[hw])⟩,hO.rand,hO.ilen,hO.inp,hO.files,hO.ulen,hO.outs⟩ (kg hv) nil16) ?_;simp only[oLC,show dH (x :: ck) 0=some x from rfl,oBS,ev];have hd:∀inst:Decidable (((ck.length+1:Nat):Int) > 0),@decide _ inst=true:=fun inst=>oDT (by omega);rw[oLC] at hw;rw[hd,show hY 1 (ck.length+1) (ck.length+1)=true by unfold hY;simp,hw];rfl
 ·cases rn with
  | nil=>exact kn hO (kg hv0) nil16
  | cons x rn=>
   obtain⟨v,ev,hv⟩:=fY (wk .i64 x) true
   have hw:nv (x :: rn) 1 (Nat.sub (x :: rn).length 1)=rn:=by unfold nv;simp
   refine xI (kn (rn:=rn) ⟨hO.clock,⟨by have:=hO.rand.1;simp at this;omega,fun w hw=>hO.rand.2 w (by simp[hw])⟩,hO.ilen,hO.inp,hO.files,hO.ulen,hO.outs⟩ (kg hv) nil16) ?_;simp only[oLC,show dH (x :: rn) 0=some x from rfl,oBS,ev];have hd:∀inst:Decidable (((rn.length+1:Nat):Int) > 0),@decide _ inst=true:=fun inst=>oDT (by omega);rw[oLC] at hw;rw[hd,show hY 1 (rn.length+1) (rn.length+1)=true by unfold hY;simp,hw];rfl
 ·obtain⟨_,e,us1,m,b,rfl,hu,ho⟩:=J7 (sk:=a0) hO.ulen hO.outs hdat.1 hdat.2;obtain⟨v,ev,hv⟩:=fY m b;simp only[e,ev,oBS];exact kn ⟨hO.clock,hO.rand,hO.ilen,hO.inp,hO.files,hu,ho⟩ (kg hv) nil16
 ·have hle:=a2le rfl;obtain⟨_,e,hr⟩:=DC (ss:=ss) (sk:=a0) (n:=a2) hO.ilen hO.inp w2;rcases hr with ⟨in1,rfl,hi1,hi2⟩ | ⟨in1,l,rfl,⟨hi1,hi2⟩,hl,_,hlc⟩
  ·simp only[e,ev0,oBS];exact kn ⟨hO.clock,hO.rand,hi1,hi2,hO.files,hO.ulen,hO.outs⟩ (kg hv0) nil16
  ·obtain⟨v,ev,hv⟩:=fY (l.length:Int) true;simp only[e,ev,oBS];exact kn ⟨hO.clock,hO.rand,hi1,hi2,hO.files,hO.ulen,hO.outs⟩ (kg hv) ⟨by omega,hlc⟩
def AV(bs:List Int) (key:Int) (c:DCn):DCe:=if c.1=0 then (0,c.2.1) else if c.1=2 then (2,wk .u16 (c.2.1+key)) else (1,wk .u16 (bs.getD c.2.2.1.toNat 0+c.2.2.2))
theorem Hn{bs ss:List Int}(h:LV bs ss) {r o n:Int}(h1:0≤r) (h2:ss[r.toNat]?=some n) (h3:0≤o) (h4:o < n):∃b,bs[r.toNat]?=some b∧0≤b+o∧b+o < 512∧b≤b+o∧b+o < b+n:=by
 obtain⟨hs,hl,hr⟩:=h;have hj:=(oGS h2).1;obtain⟨b,hb⟩:∃b,bs[r.toNat]?=some b:=⟨_,oGE (by omega)⟩;have hrr:=hr r.toNat (by omega);unfold vz at hrr;rw[d9 hb,d9 h2] at hrr;exact⟨b,hb,by omega,by omega,by omega,by omega⟩
theorem xZ{bs ss:List Int}{key:Int}{c:DCn}(h:LV bs ss) (hc:Pr ss c):gi bs key ss c.1 c.2.1 c.2.2.1 c.2.2.2=some ((AV bs key c).1,(AV bs key c).2,0,())∧lT (RK bs ss) (AV bs key c):=by
 unfold gi AV;rw[m7 hc];simp only[oBS,oNT,oCF];rcases hc with ⟨h1 | h1,h2,h3,h4⟩ | ⟨h1,h2,h3,n,h5,h6,h7⟩
 ·rw[h1];exact⟨rfl,lF h4⟩
 ·rw[h1];exact⟨rfl,(show (0:Int)≤2 by decide),(show (2:Int)≤2 by decide),(mM _).1,(mM _).2,fun e=>absurd (show (2:Int)=1 from e) (by decide)⟩
 ·obtain⟨b,hb,b0,b1,b2,b3⟩:=Hn h h3 h5 h6 h7;obtain⟨j,hj⟩:∃j:Nat,c.2.2.1=j:=⟨c.2.2.1.toNat,by omega⟩;rw[hj] at hb h5 ⊢;rw[oTN] at hb h5 ⊢;rw[h1,d9 hb];simp only[Int.reduceBEq,Int.reduceEq,oCF,if_false,dL,oBS,show dH bs j=some b from hb];rw[dO (x:=b+c.2.2.2) (by omega) (by omega),dY (x:=b+c.2.2.2) (by omega) (by omega)];exact⟨rfl,by dsimp only;omega,by dsimp only;omega,by dsimp only;omega,by dsimp only;omega,fun _=>⟨j,b,n,hb,h5,b2,b3⟩⟩
theorem Jj{bs ss:List Int}{key r o n:Int}(h:LV bs ss) (h1:0≤r) (h2:ss[r.toNat]?=some n) (h3:0≤o) (h4:o < n):∃a,j7 bs key ss r o=some (a,0,())∧0≤a∧a < 512∧a=bs.getD r.toNat 0+o:=by
 obtain⟨b,hb,b0,b1,_⟩:=Hn h h1 h2 h3 h4;obtain⟨j,rfl⟩:∃j:Nat,r=j:=⟨r.toNat,by omega⟩;rw[oTN] at hb ⊢;unfold j7;rw[Eh h1 h2 h3 h4];simp only[oBS,oNT,oCF,dL,show dH bs j=some b from hb];rw[dO (x:=b+o) (by omega) (by omega)];exact⟨_,rfl,b0,b1,by rw[d9 hb]⟩
theorem Mp(pc t v:Int):oY pc t v=some (1,[(t,v),(0,0),(0,0),(0,0),(0,0),(0,0),(0,0),(0,0)],pc,0,-1,-1,0,0,()):=rfl
def Qg(n key:Int) (ss bs:List Int) (r:Bool×(List (Int))×Int×(List DCe)×(List DLn)×(List DTh)×Unit):Prop:=∃b cs' ls' ts',r=(b,bs,key,cs',ls',ts',())∧(b=true→MOk n ss bs cs' ls' ts')
theorem ya{n key:Int}{ss bs:List Int}{cs:List DCe}{ls:List DLn}{ts:List DTh}:Ok (some (false,bs,key,cs,ls,ts,())) (Qg n key ss bs):=Ok.ret ⟨_,_,_,_,rfl,fun h=>by cases h⟩
theorem qm{n key ct cv:Int}{ss bs:List Int}{cs:List DCe}{ls:List DLn}{ts:List DTh}{i:Nat}(h:MOk n ss bs cs ls ts) (hi:i < 4) (hc:lT (RK bs ss) (ct,cv)) :
 Ok ((dH ts i).bind fun _=>(dH ts i).bind fun x75=>(dH x75.2.1 0).bind fun _=>(dH ts i).bind fun x77=>(dH x77.2.1 0).bind fun _=>(dH (List.modify ts i fun e=>(e.1,((List.modify e.2.1 0 fun _=>(ct,cv)),e.2.2))) i).bind fun _=>
  some (true,bs,key,cs,ls,List.modify (List.modify ts i fun e=>(e.1,((List.modify e.2.1 0 fun _=>(ct,cv)),e.2.2))) i fun e=>((1:Int),e.2),())) (Qg n key ss bs):=by
 have htl:=h.tlen;obtain⟨t,ht⟩:∃t,ts[i]?=some t:=⟨_,oGE (by omega)⟩;have hg:dH ts i=some t:=ht;have hil:=(oGS ht).1;have hok:=h.thr t (dN ht);obtain⟨c,hc0⟩:∃c,t.2.1[0]?=some c:=⟨_,oGE (by have:=hok.len;omega)⟩;simp only[hg,oBS,show dH t.2.1 0=some c from hc0,eq ht,eq hc0,gz hil,om hil];exact Ok.ret ⟨_,_,_,_,rfl,fun _=>h.set h.mem ⟨⟨show (0:Int)≤1 by decide,show (1:Int)≤4 by decide⟩,by dsimp only;rw[List.length_set];exact hok.len,iw hok.regs hc,hok.pc,hok.count,hok.handler,hok.saved,hok.trap,hok.code⟩⟩
theorem H8{K:Int→Prop}{n pc:Int}{rs:List DCe}(hl:rs.length=8) (hr:∀c∈rs,lT K c) (hp:0≤pc∧pc≤255) (hn:0≤n):zy K n (1,rs,pc,0,-1,-1,0,0):=
 ⟨⟨show (0:Int)≤1 by decide,show (1:Int)≤4 by decide⟩,hl,hr,hp,⟨show (0:Int)≤0 by decide,hn⟩,⟨show (-1:Int)≤-1 by decide,show (-1:Int)≤255 by decide⟩,⟨show (-1:Int)≤-1 by decide,show (-1:Int)≤255 by decide⟩,⟨show (0:Int)≤0 by decide,show (0:Int)≤6 by decide⟩,⟨show (0:Int)≤0 by decide,show (0:Int)≤65535 by decide⟩⟩
theorem MOk.mk_mem{n:Int}{ss bs:List Int}{cs cs':List DCe}{ls ls':List DLn}{ts:List DTh}(h:MOk n ss bs cs ls ts) (hm:iL (RK bs ss) cs' ls'):MOk n ss bs cs' ls' ts:=⟨h.lay,hm,h.tlen,h.thr⟩
set_option maxHeartbeats 4000000 in
theorem Me{n m key:Int}{code:List DIn}{ss bs:List Int}{dd:List (List Int)}{cs:List DCe}{ls:List DLn}{ts:List DTh}{i:Nat}{trap count pc call:Int}{args data:List DCn}{t v rg o sp:Int}{dat:List DCn}{w:Bool}(h:MOk n ss bs cs ls ts) (hi:i < 4)
 (hR:AD m ss (i:Int) 1 trap count pc call args data) (hv:Pr ss (t,v,rg,o)) (hd:dat.length≤16∧∀c∈dat,Pr ss c) (hsp:-1≤sp∧sp≤3) :
 Ok (oU code ss dd (i:Int) 1 trap count pc call args data t v rg o dat sp w bs key cs ls ts) (Qg n key ss bs):=by
 have hL:=h.lay;have htl:=h.tlen;obtain⟨hk1,hk2⟩:=hR.hkind rfl;have hargs:=hR.hargs;obtain⟨hraw,hrawc⟩:=xZ (key:=key) hL hv;obtain⟨th,hth⟩:∃th,ts[i]?=some th:=⟨_,oGE (by omega)⟩;have hok:=h.thr th (dN hth);have hc0:=hok.count;have hil:=(oGS hth).1;dsimp only at hraw;unfold oU;delta dK;rw[dL,hraw,uC hR.hcall];simp only[oBS,bne_self_eq_false,oCF];refine Ok.get hil fun _ _=>?_;have fin:=qm (key:=key) (ct:=(AV bs key (t,v,rg,o)).1) (cv:=(AV bs key (t,v,rg,o)).2) h hi hrawc
 have buf:rS call=2→dat.length > 0→∃a:DCn,args[1]?=some a∧Pr ss a∧a.1=1∧∃y,dQ kY NN (i,dat,(dat.length:Int),0,bs,key,cs,ls,ts,code,ss,dd,(i:Int),1,trap,count,pc,call,args,data,t,v,rg,o,dat,sp,w,(AV bs key (t,v,rg,o)).1,(AV bs key (t,v,rg,o)).2,a.2.2.1,a.2.2.2,())=some y ∧
  ((∃cs' ls',y=.inl (false,bs,key,cs',ls',ts,()))∨(∃cs' ls' z f,y=.inr (i,dat,(dat.length:Int),z,false,bs,key,cs',ls',ts,code,ss,dd,(i:Int),1,trap,count,pc,call,args,data,t,v,rg,o,dat,sp,w,(AV bs key (t,v,rg,o)).1,(AV bs key (t,v,rg,o)).2,a.2.2.1,f,())∧iL (RK bs ss) cs' ls')):=by
  intro hb hpos
  have hkk:(kB call)[1]?=some 80:=by
   have:call=2∨call=14:=by unfold rS at hb;split at hb<;>first | omega | (split at hb<;>omega)
   rcases this with rfl | rfl<;>rfl
  have hl1:=(oGS hkk).1;obtain⟨a,ha⟩:∃a,args[1]?=some a:=⟨_,oGE (by omega)⟩;have hap:=hargs.2 a (dN ha);have hfit:=hk2 1 80 a hkk ha
  have ha1:a.1=1:=by unfold MM at hfit;simpa using hfit
  have ha32:0≤a.2.2.2∧a.2.2.2≤32:=by
   rcases hap with ⟨g,_⟩ | ⟨_,_,_,z,g1,g2,g3⟩
   ·omega
   ·have:=hL.1.2.2 z (dN g1);omega
  refine⟨a,ha,hap,ha1,?_⟩
  refine fN (f:=kY) (n:=NN) (P:=fun s'=>∃k:Nat,∃cs' ls',s'=(i,dat,(dat.length:Int),(k:Int),bs,key,cs',ls',ts,code,ss,dd,(i:Int),1,trap,count,pc,call,args,data,t,v,rg,o,dat,sp,w,(AV bs key (t,v,rg,o)).1,(AV bs key (t,v,rg,o)).2,a.2.2.1,a.2.2.2+k,())∧k≤dat.length∧iL (RK bs ss) cs' ls')
   (R:=fun y=>(∃cs' ls',y=.inl (false,bs,key,cs',ls',ts,()))∨(∃cs' ls' z f,y=.inr (i,dat,(dat.length:Int),z,false,bs,key,cs',ls',ts,code,ss,dd,(i:Int),1,trap,count,pc,call,args,data,t,v,rg,o,dat,sp,w,(AV bs key (t,v,rg,o)).1,(AV bs key (t,v,rg,o)).2,a.2.2.1,f,())∧iL (RK bs ss) cs' ls'))
   (m:=fun s'=>(s'.2.2.1 - s'.2.2.2.1).toNat) ⟨0,cs,ls,by simp,by omega,h.mem⟩ (by unfold NN;dsimp only;omega) ?_
  rintro _ ⟨k,cs',ls',rfl,hk,hm⟩;unfold kY;dsimp only
  (with_reducible refine dE (fun hca=>?_) fun hca=>?_)
  ·rw[dL];simp only[oBS];refine Ok.get (by omega) fun c hc=>?_;obtain⟨hr1,hr2⟩:=xZ (key:=key) hL (hd.2 c (dN hc));rw[hr1];simp only[oBS,bne_self_eq_false,oCF];refine A3.bind ?_;rintro⟨q,_⟩ hin;dsimp only at hin ⊢
   (with_reducible refine dE (fun hcb=>?_) fun hcb=>?_)
   ·exact Ok.ret (.inl ⟨_,_,rfl⟩)
   ·obtain⟨g1,g2,z,g3,g4⟩:=hin hcb;obtain⟨ad,ea,a0,a1,_⟩:=Jj (key:=key) hL g1 g3 g2 g4;rw[ea];simp only[oBS];refine (AM hm ⟨a0,a1⟩ hr2).bind ?_;rintro _ ⟨cs2,ls2,rfl,hm2⟩;dsimp only;rw[dO (x:=a.2.2.2+k+1) (by omega) (by omega),dO (x:=(k:Int)+1) (by omega) (by omega)];exact Ok.ret ⟨⟨k+1,_,_,by rw[show a.2.2.2+((k+1:Nat):Int)=a.2.2.2+k+1 by omega];rfl,by omega,hm2⟩,by dsimp only;omega⟩
  ·exact Ok.ret (.inr ⟨_,_,_,_,rfl,hm⟩)
 rcases vt hR.hcall with rfl | rfl | rfl | rfl | rfl | rfl | rfl | rfl | rfl | rfl | rfl | rfl | rfl | rfl | rfl | rfl
 case inr.inr.inl=>
  simp only[show ((rS 2)==2)=true from rfl,oCT];by_cases hpos:dat.length > 0
  ·obtain⟨a,ha,hap,ha1,y,ey,hy⟩:=buf rfl hpos;simp only[oDT (show ((dat.length:Nat):Int) > 0 by omega),oCT,show dH args 1=some a from ha,oBS,m7 hap,oNT,oCF,bne_eq_false_iff_eq.2 ha1,ey];rcases hy with ⟨cs',ls',rfl⟩ | ⟨cs',ls',z,f,rfl,hm⟩
   ·exact ya
   ·simp only[Int.reduceBEq,oCF];exact qm (h.mk_mem hm) hi hrawc
  ·simp only[oDF (show ¬ ((dat.length:Nat):Int) > 0 by omega),oCF,Int.reduceBEq];exact fin
 case inr.inr.inr.inr.inr.inr.inr.inr.inr.inr.inr.inr.inr.inr.inl=>
  simp only[show ((rS 14)==2)=true from rfl,oCT];by_cases hpos:dat.length > 0
  ·obtain⟨a,ha,hap,ha1,y,ey,hy⟩:=buf rfl hpos;simp only[oDT (show ((dat.length:Nat):Int) > 0 by omega),oCT,show dH args 1=some a from ha,oBS,m7 hap,oNT,oCF,bne_eq_false_iff_eq.2 ha1,ey];rcases hy with ⟨cs',ls',rfl⟩ | ⟨cs',ls',z,f,rfl,hm⟩
   ·exact ya
   ·simp only[Int.reduceBEq,oCF];exact qm (h.mk_mem hm) hi hrawc
  ·simp only[oDF (show ¬ ((dat.length:Nat):Int) > 0 by omega),oCF,Int.reduceBEq];exact fin
 case inr.inr.inr.inr.inr.inr.inr.inr.inr.inr.inr.inr.inl=>
  obtain⟨a,ha⟩:∃a,args[0]?=some a:=⟨_,oGE (by rw[hk1];decide)⟩;have hva:=(hargs.2 a (dN ha)).val;simp only[show ((rS 12)==2)=false from rfl,oCF,Int.reduceBEq,oCT,show dH args 0=some a from ha,oBS];rw[dT (x:=a.2.1) (by have:=hva.1;omega) (by have:=hva.2;omega)];by_cases h1:a.2.1 > 255
  ·simp only[oDT h1,oCT];exact ya
  by_cases h2:a.1=0
  ·simp only[oDF h1,oCF,bne_eq_false_iff_eq.2 h2,show dH ts i=some th from hth,oBS,eq hth];exact qm (h.set h.mem ⟨hok.state,hok.len,hok.regs,hok.pc,hok.count,⟨by dsimp only;have:=hva.1;omega,by dsimp only;omega⟩,hok.saved,hok.trap,hok.code⟩) hi hrawc
  ·simp only[oDF h1,oCF,bne_iff_ne.2 h2,oCT];exact ya
 case inr.inr.inr.inr.inr.inr.inr.inr.inr.inr.inl=>
  obtain⟨a,ha⟩:∃a,args[0]?=some a:=⟨_,oGE (by rw[hk1];decide)⟩;obtain⟨c,hc⟩:∃c,args[1]?=some c:=⟨_,oGE (by rw[hk1];decide)⟩;have hva:=(hargs.2 a (dN ha)).val;obtain⟨hr1,hr2⟩:=xZ (key:=key) hL (hargs.2 c (dN hc));simp only[show ((rS 10)==2)=false from rfl,oCF,Int.reduceBEq,oCT];by_cases hsp0:sp≥0
  ·obtain⟨j,rfl⟩:∃j:Nat,sp=j:=⟨sp.toNat,by omega⟩;obtain⟨tj,htj⟩:∃tj,ts[j]?=some tj:=⟨_,oGE (by omega)⟩;simp only[oDT hsp0,oCT,show dH args 0=some a from ha,show dH args 1=some c from hc,oBS,hr1,bne_self_eq_false,oCF,dL,show dH ts j=some tj from htj];rw[dT (x:=a.2.1) (by have:=hva.1;omega) (by have:=hva.2;omega)];by_cases h0:tj.1=0
   ·by_cases h1:a.2.1 > 255
    ·simp only[bne_eq_false_iff_eq.2 h0,oCF,oDT h1,oCT,oBS];exact ya
    by_cases h2:a.1=0
    ·simp only[bne_eq_false_iff_eq.2 h0,oDF h1,oCF,bne_eq_false_iff_eq.2 h2,oBS,show dH args 0=some a from ha,dT (x:=a.2.1) (by have:=hva.1;omega) (by have:=hva.2;omega),Mp,dL,show dH ts j=some tj from htj,eq htj];refine qm (h.set h.mem (H8 rfl (all_cons hr2 ?_) ⟨hva.1,by omega⟩ (by omega))) hi hrawc;exact all_cons (lF (by decide)) (all_cons (lF (by decide)) (all_cons (lF (by decide)) (all_cons (lF (by decide)) (all_cons (lF (by decide)) (all_cons (lF (by decide)) (all_cons (lF (by decide)) ef))))))
    ·simp only[bne_eq_false_iff_eq.2 h0,oDF h1,oCF,bne_iff_ne.2 h2,oCT,oBS];exact ya
   ·simp only[bne_iff_ne.2 h0,oCT,oBS];exact ya
  ·simp only[oDF hsp0,oCF];exact fin
 all_goals
  simp only[show ((rS 0)==2)=false from rfl,show ((rS 1)==2)=false from rfl,show ((rS 3)==2)=false from rfl,show ((rS 4)==2)=false from rfl,show ((rS 5)==2)=false from rfl,show ((rS 6)==2)=false from rfl,show ((rS 7)==2)=false from rfl,
   show ((rS 8)==2)=false from rfl,show ((rS 9)==2)=false from rfl,show ((rS 11)==2)=false from rfl,show ((rS 13)==2)=false from rfl,show ((rS 15)==2)=false from rfl,oCF,Int.reduceBEq]
  exact fin
end Go.Proofs.YtdcpgpngdcfhhaaGreat
