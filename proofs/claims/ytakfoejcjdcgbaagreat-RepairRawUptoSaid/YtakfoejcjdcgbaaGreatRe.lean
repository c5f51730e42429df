/- Part of the proof; no condition. -/
import Derived.Test.YtakfoejcjdcgbaaGreatRd
import Derived.Sort.Row
import Derived.Sort.Grow
import Derived.Shelf.Sort.Plain
import Derived.Ground.Names2Prog
import Derived.Shelf.Slices.CompactI
import Derived.Test.YtakfoejcjdcgbaaGreatProg
import Derived.Shelf.Slices.In.SortNone
import Derived.WalkKit
import Derived.WalkSpells
import Derived.Handy
import Derived.OpenShut
import Derived.Lib.SlicesCompact
set_option linter.unusedVariables false
set_option linter.unusedSimpArgs false
namespace Go.Proofs.YtakfoejcjdcgbaaGreat
open Go.RowKit
set_option maxRecDepth 100000
noncomputable section
def dJ(a0:List LDCn)(a1:LDTs)(a2:Int)(a3:Int):Option (T1B):=
(eU a0 a1).bind λ(x0,_)=>
bif(!x0)then(some (0,0,[],0,0,0,0,0,0,0,[],1,()))else
bif(a2==(-1))then(bif(decide (a3<0))then(some (0,0,[],0,0,0,0,0,0,0,[],30,()))else
let x1:=bJ a1.length;
bif(decide (a3>=x1))then(some (0,0,[],0,0,0,0,0,0,0,[],30,()))else
(cl a3).bind λx2=>
(bV a1 x2).bind λx3=>
(eT x3.1 x3.2.1 x3.2.2.1 x3.2.2.2.1 x3.2.2.2.2.1 x3.2.2.2.2.2.1 x3.2.2.2.2.2.2.1 x3.2.2.2.2.2.2.2).bind λ(x4,x5,x6,x7,x8,x9,ac,ae,_)=>
some (a2,a3,[],x4,x5,x6,x7,x8,x9,ac,ae,0,()))else
(bif(decide (a2<0))then(some (true,a0,a1,a2,a3,0,0,(),0,0,0,0,0,0,0,(),()))else
let x1:=bJ a0.length;
bif(decide (a2>=x1))then(some (true,a0,a1,a2,a3,0,0,(),0,0,0,0,0,0,0,(),()))else
bif(decide (a3<0))then(some (true,a0,a1,a2,a3,0,0,(),0,0,0,0,0,0,0,(),()))else
bif(decide (a3>32))then(some (true,a0,a1,a2,a3,0,0,(),0,0,0,0,0,0,0,(),()))else
let x2:=w64 (a3*8);
(cl a2).bind λx3=>
(bV a0 x3).bind λx4=>
let x5:=bJ x4.length;
some ((decide (x2>=x5)),a0,a1,a2,a3,0,0,(),0,0,0,0,0,0,0,(),()):Option (Bool×LLCn×LDTs×Int×Int×Int×Int×Unit×Int×Int×Int×Int×Int×Int×T04)).bind λ(x1,x2,x3,x4,x5,x6,x7,x8,x9,ac,ae,_)=>
bif x1 then(some (0,0,[],0,0,0,0,0,0,0,[],30,()))else
(cl x4).bind λan=>
(bV x2 an).bind λap=>
let aq:=w64 (x5*8);
let au:=w64 (aq+8);
let av:=bJ ap.length;
let aw:=mmR false au av;
(cl aq).bind λax=>
(cl aw).bind λay=>
bif(df ax ay ap.length)then let az:LDCn:=(pO ap ax (Nat.sub ay ax));
bif(b6 24 0 az.length)then let aA:LDCn:=(List.append [] az);
some (x4,x5,aA,0,0,0,0,0,0,0,[],0,())else none else none
def BW:X.Cfg:=⟨E0,[jd,jc],[],[⟨11,0,qE,[(.normal,qS [zaa 2,zaa 3,zaa 4,Xaa 69] [(6,uab),(8,Xab),(10,Xac)])]⟩]⟩
def kL:Ctr:=⟨77,45,[.agg uab,.agg Xab],[],[⟨uL [I64,I64,(uaa KCn),I64,I64,I64,I64,I64,I64,CW,bZ,I64],[.agg 11,.one],[]⟩],ap4 dJ⟩
theorem mB:Lk 3 kL:=ls BW (aC lD (aC lC aN))
def dX:T0g->Option (T0g⊕T0r):=λ(v0,v1,v2,_)=>
bif(decide (v1<8))then(let x0:Int:=(w64 (8*v1));
let x1:=wk .u64 x0;
(cl x1).bind λx2=>
let x3:Int:=(shR .shr .u64 v0 x2);
let x4:=wk .u8 x3;
bif(b6 1 v2.length (List.length [x4]))then let x5:List (Int):=(List.append v2 [x4]);
let x6:=w64 (v1+1);
some (.inl (v0,x6,x5,()))else none)else
some (.inr (v0,v1,false,v2,()))
def cb(a0:Int)(a1:List (Int)):Option (LI×Unit):=
let x0:=wk .u64 a0;
(bM dX NN (x0,0,a1,())).bind λ(x1,x2,x3,x4,_)=>
some (x4,())
def vK:X.Cfg:=⟨E0,[],[],[(lx 4 0 [Zaa 0 3,sP 5 (.int .u64),Uaa 6] [(3,Zab)] 10)]⟩
def lJ:Ctr:=⟨107,46,[.pk ⟨3,0,[]⟩ [0,0],shU I64],[(3,Zab)],[⟨Zab,[.one],[(3,[])]⟩],ap2 cb⟩
theorem oU:Lk 1 lJ:=ls vK aN
def eG:LDCn×T03->Option ((LDCn×T03)⊕(LDCn×T0c)):=λ(v0,v1,v2,_)=>
let x0:=bJ v0.length;
bif(decide (v1<x0))then((cl v1).bind λx1=>
(bV v0 x1).bind λx2=>
let x3:=wk .i64 x2.1;
(cb x3 v2).bind λ(x4,_)=>
(cl v1).bind λx5=>
(bV v0 x5).bind λx6=>
let x7:=wk .i64 x6.2.1;
(cb x7 x4).bind λ(x8,_)=>
(cl v1).bind λx9=>
(bV v0 x9).bind λac=>
(cb ac.2.2.1 x8).bind λ(ae,_)=>
(cl v1).bind λaf=>
(bV v0 af).bind λah=>
(cb ah.2.2.2 ae).bind λ(aj,_)=>
let ak:=w64 (v1+1);
some (.inl (v0,ak,aj,())))else
some (.inr (v0,v1,false,v2,()))
def iw(a0:LDCn)(a1:List (Int)):Option (LI×Unit):=
let x0:=bJ a0.length;
(cb x0 a1).bind λ(x1,_)=>
(bM eG NN (a0,0,x1,())).bind λ(x2,x3,x4,x5,_)=>
some (x5,())
def yg:X.Cfg:=⟨E0,[lJ],[],[(lx 4 0 [Zaa 0 3,sP 1 bZ,Uaa 5] [(3,Zab)] 13)]⟩
def qZ:Ctr:=⟨106,47,[.pk ⟨3,0,[]⟩ [0,0],shU bZ],[(3,Zab)],[⟨Zab,[.one],[(3,[])]⟩],ap2 iw⟩
theorem xB:Lk 2 qZ:=ls yg (aC oU aN)
def eH:T1S->Option (T1S⊕(Int×Bool×T1O)):=λ(v0,v1,v2,v3,v4,v5,v6,v7,v8,v9,v10,v11,v12,v13,v14,v15,v16,_)=>
bif(decide (v0<7))then(((cl v0).bind λx0=>
bif(Nat.beq x0 0)then((cb v10 v1).bind λ(x1,_)=>
some (v0,x1,v2,v3,v4,v5,v6,v7,v8,v9,v10,v11,v12,v13,v14,v15,v16,()))else
bif(Nat.beq x0 1)then((cb v11 v1).bind λ(x1,_)=>
some (v0,x1,v2,v3,v4,v5,v6,v7,v8,v9,v10,v11,v12,v13,v14,v15,v16,()))else
bif(Nat.beq x0 2)then((cb v12 v1).bind λ(x1,_)=>
some (v0,x1,v2,v3,v4,v5,v6,v7,v8,v9,v10,v11,v12,v13,v14,v15,v16,()))else
bif(Nat.beq x0 3)then((cb v13 v1).bind λ(x1,_)=>
some (v0,x1,v2,v3,v4,v5,v6,v7,v8,v9,v10,v11,v12,v13,v14,v15,v16,()))else
bif(Nat.beq x0 4)then((cb v14 v1).bind λ(x1,_)=>
some (v0,x1,v2,v3,v4,v5,v6,v7,v8,v9,v10,v11,v12,v13,v14,v15,v16,()))else
bif(Nat.beq x0 5)then((cb v15 v1).bind λ(x1,_)=>
some (v0,x1,v2,v3,v4,v5,v6,v7,v8,v9,v10,v11,v12,v13,v14,v15,v16,()))else
bif(Nat.beq x0 6)then(cb v16 v1).bind λ(x1,_)=>
some (v0,x1,v2,v3,v4,v5,v6,v7,v8,v9,v10,v11,v12,v13,v14,v15,v16,())else none:Option (T1S)).bind λ(x0,x1,x2)=>
let an:=w64 (x0+1);
some (.inl (an,x1,x2)))else
some (.inr (v0,false,v1,v2,v3,v4,v5,v6,v7,v8,v9,v10,v11,v12,v13,v14,v15,v16,()))
def jX(a0:Int)(a1:Int)(a2:LDCn)(a3:Int)(a4:Int)(a5:Int)(a6:Int)(a7:Int)(a8:Int)(a9:Int)(a10:LDCn):Option (LI×Unit):=
(cb a0 []).bind λ(x0,_)=>
(cb a1 x0).bind λ(x1,_)=>
(iw a2 x1).bind λ(x2,_)=>
let x3:=wk .i64 a9;
(bM eH NN (0,x2,a3,a4,a5,a6,a7,a8,a9,a10,a3,a4,a5,a6,a7,a8,x3,())).bind λ(x4,x5,x6,x7,x8,x9,ac,ae,af,ah,aj,_)=>
(iw aj x6).bind λ(aw,_)=>
some (aw,())
def yj:X.Cfg:=⟨E0,[lJ,qZ],[],[⟨9,0,qE,[(.normal,qS [Zaa 3 9,zaa 4,zaa 5,Uaa 6] [(9,Zab),(10,Uad),(12,Xag)])]⟩,(lx 6 1 [Zaa 3 9,zaa 4,zaa 5,Uaa 6] [(9,Zab),(10,Uad),(12,Xag)] 37)]⟩
def q7:Ctr:=⟨78,48,[.agg Zac],[],[⟨Zab,[.one],[]⟩],ap11 jX⟩
theorem xC:Lk 3 q7:=ls yj (aC oU (aC xB aN))
def mo(a0:List (Int))(a1:List (Int)):Option (Bool×Unit):=
let x0:ByteArray:=(mK a0);
let x1:ByteArray:=(mK a1);
some ((IS x0 x1),())
def yc:X.Cfg:=⟨E0,[],[],[]⟩
def qW:Ctr:=⟨147,49,uag,[],[⟨zab,[.one],[]⟩],ap2 mo⟩
theorem xy:Lk 1 qW:=ls yc aN
def kS(a0:Bool)(a1:List (Int))(a2:Bool)(a3:List (Int)):Option (Bool×Unit):=
bif(!a0)then(some ((a0==a2),()))else
bif(!a2)then(some ((a0==a2),()))else
(mo a1 a3).bind λ(x0,_)=>
some (x0,())
def zY:X.Cfg:=⟨E0,[qW],[],[]⟩
def sw:Ctr:=⟨136,50,[.agg uad,.agg uad],[],[⟨zab,[.one],[]⟩],ap4 kS⟩
theorem zK:Lk 2 sw:=ls zY (aC xy aN)
def cG:T1h->Option (T1h⊕((List (Bool×List (Int)))×(List (Bool))×T0R)):=λ(v0,v1,v2,v3,v4,_)=>
let x0:=bJ v4.length;
bif(decide (v3<x0))then((cl v3).bind λx1=>
(bV v4 x1).bind λx2=>
(bV v4 x1).bind λx3=>
(cl v3).bind λx4=>
(bV v4 x4).bind λx5=>
(bV v4 x4).bind λx6=>
(cl v2).bind λx7=>
(bV v0 x7).bind λx8=>
(kS x3.1 x6.2.1 x8.1 x8.2).bind λ(x9,_)=>
bif(!x9)then(let ac:Int:=(w64 (v3+1));
some (.inl (v0,v1,v2,ac,v4,())))else
some (.inr (v0,v1,v2,v3,false,v4,())))else
some (.inr (v0,v1,v2,v3,false,v4,()))
def eI:T13->Option (T13⊕((List (Bool×List (Int)))×(List (Bool))×T0F)):=λ(v0,v1,v2,v3,_)=>
let x0:=bJ v0.length;
bif(decide (v2<x0))then((cl v2).bind λx1=>
(bV v1 x1).bind λx2=>
bif(!x2)then(let x3:Int:=(w64 (v2+1));
some (.inl (v0,v1,x3,v3,())))else
(bM cG NN (v0,v1,v2,0,v3,())).bind λ(x3,x4,x5,x6,x7,x8,_)=>
(let x9:=bJ x8.length;
bif(x6==x9)then((cl x5).bind λac=>
(bV x3 ac).bind λae=>
bif ae.1 then((cl x5).bind λaf=>
(bV x3 af).bind λah=>
bif(b6 1 0 ah.2.length)then let aj:List (Int):=(List.append [] ah.2);
let ak:List (Bool×LI×List (Int)):=[(ae.1,(aj,[]))];
bif(b6 56 x8.length ak.length)then let am:List (Bool×LI×List (Int)):=(List.append x8 ak);
some (x3,x4,x5,x6,am,())else none else none)else
let af:List (Bool×LI×List (Int)):=[(ae.1,([],[]))];
bif(b6 56 x8.length af.length)then let ah:List (Bool×LI×List (Int)):=(List.append x8 af);
some (x3,x4,x5,x6,ah,())else none)else
some (x3,x4,x5,x6,x8,()):Option (T1h)).bind λ(x9,ac,ae,af,ah,_)=>
(cl af).bind λaj=>
(bV ah aj).bind λak=>
(bV ah aj).bind λam=>
(bV ah aj).bind λan=>
bif(b6 8 an.2.2.length (List.length [ae]))then let ap:List (Int):=(List.append an.2.2 [ae]);
(cl af).bind λaq=>
(bV ah aq).bind λau=>
(bV ah aq).bind λav=>
bif(Nat.beq aq aj)then let aw:List (Bool×LI×List (Int)):=(List.modify ah aq λe=>(e.1,(e.2.1,ap)));
let ax:=w64 (ae+1);
some (.inl (x9,ac,ax,aw,()))else none else none)else
some (.inr (v0,v1,v2,false,v3,()))
def fr(a0:List (Bool×List (Int)))(a1:List (Bool)):Option ((List (Bool×LI×List (Int)))×Int×Unit):=
let x0:=bJ a0.length;
bif(decide (x0>5))then(some ([],3,()))else
let x1:=bJ a1.length;
let x2:=bJ a0.length;
bif(x1 != x2)then(some ([],1,()))else
(bM eI NN (a0,a1,0,[],())).bind λ(x3,x4,x5,x6,x7,_)=>
some (x7,0,())
def uy:X.Cfg:=⟨E0,[sw],[(76,(.pair .bool (.pair (uaa CB) (uaa I64)))),(77,(.pair .bool (.pair (uaa CB) (uaa I64))))],[⟨18,0,(qS [sP 0 (yaa (.pair .bool (yaa CB))),sP 1 (yaa .bool),Zaa 6 15,Uaa 7,Uaa 8] [(15,[shU (uaa (.pair .bool (.pair (yaa CB) (uaa I64))))])]),[(.exit 2,(qS [sP 0 (yaa (.pair .bool (yaa CB))),sP 1 (yaa .bool),Zaa 6 15,Uaa 7,Uaa 8,Xaa 51] [(15,[shU (uaa (.pair .bool (.pair (yaa CB) (uaa I64))))])]))]⟩,⟨21,1,qE,[(.normal,(qS [sP 0 (yaa (.pair .bool (yaa CB))),sP 1 (yaa .bool),Zaa 6 15,Uaa 7,Uaa 8] [(15,[shU (uaa (.pair .bool (.pair (yaa CB) (uaa I64))))])]))]⟩,(lx 10 2 [sP 0 (yaa (.pair .bool (yaa CB))),sP 1 (yaa .bool),Zaa 6 15,Uaa 7] [(15,[shU (uaa (.pair .bool (.pair (yaa CB) (uaa I64))))])] 21)]⟩
def of:Ctr:=⟨108,51,yag,[],[⟨[shU (uaa (.pair .bool (.pair (yaa CB) (uaa I64)))),shU I64],[.one,.one],[]⟩],ap2 fr⟩
theorem uo:Lk 3 of:=ls uy (aC zK aN)
def i7(a0:Int):Option (Int×Unit):=
bif(decide (a0<1))then(some (0,()))else
bif(decide (a0>5))then(some (0,()))else
let x0:=w64 (Int.tdiv a0 2);
let x1:=w64 (x0+1);
some (x1,())
def vI:X.Cfg:=⟨E0,[],[],[]⟩
def o6:Ctr:=⟨109,52,zac,[],[⟨zac,[.one],[]⟩],ap1 i7⟩
theorem vy:Lk 1 o6:=ls vI aN
def cN:T1g->Option (T1g⊕((List (Bool×LI×List (Int)))×Int×T0H)):=λ(v0,v1,v2,v3,v4,v5,_)=>
(cl v3).bind λx0=>
(bV v0 x0).bind λx1=>
let x2:=bJ x1.2.2.length;
bif(decide (v4<x2))then(bif(v3 != v1)then(((cl v3).bind λx3=>
(bV v0 x3).bind λx4=>
(cl v4).bind λx5=>
(bV x4.2.2 x5).bind λx6=>
bif(x6==v2)then(bif(b6 8 v5.length (List.length [v2]))then let x7:List (Int):=(List.append v5 [v2]);
some (v0,v1,v2,v3,v4,x7,())else none)else
some (v0,v1,v2,v3,v4,v5,()):Option (T1g)).bind λ(x3,x4,x5,x6,x7,x8,_)=>
let x9:=w64 (x7+1);
some (.inl (x3,x4,x5,x6,x9,x8,())))else
some (.inr (v0,v1,v2,v3,v4,false,v5,())))else
some (.inr (v0,v1,v2,v3,v4,false,v5,()))
def dl:T12->Option (T12⊕((List (Bool×LI×List (Int)))×T0H)):=λ(v0,v1,v2,v3,v4,_)=>
let x0:=bJ v0.length;
bif(decide (v3<x0))then((bM cN NN (v0,v1,v2,v3,0,v4,())).bind λ(x1,x2,x3,x4,x5,x6,x7,_)=>
let x8:=w64 (x4+1);
some (.inl (x1,x2,x3,x8,x7,())))else
some (.inr (v0,v1,v2,v3,false,v4,()))
def fm:T0P->Option (T0P⊕((List (Bool×LI×List (Int)))×T0r)):=λ(v0,v1,v2,v3,_)=>
bif(decide (v2<5))then((bM dl NN (v0,v1,v2,0,v3,())).bind λ(x0,x1,x2,x3,x4,x5,_)=>
let x6:=w64 (x2+1);
some (.inl (x0,x1,x6,x5,())))else
some (.inr (v0,v1,v2,false,v3,()))
def i6(a0:List (Bool×LI×List (Int)))(a1:Int):Option (LI×Unit):=
(bM fm NN (a0,a1,0,[],())).bind λ(x0,x1,x2,x3,x4,_)=>
some (x4,())
def vH:X.Cfg:=⟨E0,[],[],[⟨17,0,qE,[(.normal,qS [(0,shU (yaa (.pair .bool (.pair (yaa CB) RI)))),Uaa 1,Zaa 5 13,Uaa 6,Uaa 7,Uaa 8] [(13,uac)])]⟩,⟨14,1,qS [(0,shU (yaa (.pair .bool (.pair (yaa CB) RI)))),Uaa 1,Zaa 5 13,Uaa 6,Uaa 7,Uaa 8] [(13,uac)],[(.exit 4,qS [(0,shU (yaa (.pair .bool (.pair (yaa CB) RI)))),Uaa 1,Zaa 5 13,Uaa 6,Uaa 7,Uaa 8,Xaa 31] [(13,uac)])]⟩,⟨9,2,qS [(0,shU (yaa (.pair .bool (.pair (yaa CB) RI)))),Uaa 1,Zaa 5 13,Uaa 6,Uaa 7] [(13,uac)],[(.exit 2,qS [(0,shU (yaa (.pair .bool (.pair (yaa CB) RI)))),Uaa 1,Zaa 5 13,Uaa 6,Uaa 7,Xaa 16] [(13,uac)])]⟩,(lx 4 3 [(0,shU (yaa (.pair .bool (.pair (yaa CB) RI)))),Uaa 1,Zaa 5 13,Uaa 6] [(13,uac)] 10)]⟩
def o5:Ctr:=⟨110,53,[shU (yaa (.pair .bool (.pair (yaa CB) RI))),shU I64],[],[⟨uac,[.one],[]⟩],ap2 i6⟩
theorem vw:Lk 1 o5:=ls vH aN
def fq:T1C->Option (T1C⊕((List (Bool))×T1D)):=λ(v0,v1,v2,v3,v4,v5)=>
let x0:=bJ v0.length;
bif(decide (v4<x0))then(((cl v4).bind λx1=>
(bV v0 x1).bind λx2=>
bif x2 then(let x3:Int:=(w64 (v3+1));
some (v0,v1,v2,x3,v4,v5))else
some (v0,v1,v2,v3,v4,v5):Option (T1C)).bind λ(x1,x2,x3,x4,x5,x6)=>
let ac:=w64 (x5+1);
some (.inl (x1,x2,x3,x4,ac,x6)))else
some (.inr (v0,v1,v2,v3,v4,false,v5))
def dm:T1u->Option (T1u⊕((Int×T0h)⊕T1x)):=λ(v0,v1,v2,v3,v4,v5,v6,_)=>
let x0:=bJ v0.length;
bif(decide (v2<x0))then((match((cl v2).bind λx1=>
(bV v0 x1).bind λx2=>
bif(!x2.1)then(some (.inl (v0,v1,v2,true,v3,v4,v5,v6,())))else
(cl v2).bind λx3=>
(bV v0 x3).bind λx4=>
let x5:=bJ x4.2.2.length;
(i7 v1).bind λ(x6,_)=>
bif(decide (x5<x6))then(some (.inl (v0,v1,v2,true,v3,v4,v5,v6,())))else
(cl v2).bind λx7=>
(bV v0 x7).bind λx8=>
(i6 v0 v2).bind λ(x9,_)=>
(let ac:=bJ v0.length;
bif(ac==1)then(some (v3,v4,v5,1,x8.2.1,x9,()))else
some (v3,v4,v5,2,x8.2.1,x9,()):Option (Int×Unit×Unit×T0h)).bind λ(ac,ae,af,ah)=>
some (.inr (0,ah)):Option (T1x⊕(Int×T0h)))with
|none=>none
|some (.inl (x1,x2,x3,x4,x5,x6,x7,x8,_))=>
let x9:=w64 (x3+1);
some (.inl (x1,x2,x9,x5,x6,x7,x8,()))
|some (.inr (x1,x2,x3,x4,_))=>
some (.inr (.inl (x1,x2,x3,x4,())))))else
some (.inr (.inr (v0,v1,v2,false,v3,v4,v5,v6,())))
def f9(a0:List (Bool×List (Int)))(a1:List (Bool))(a2:Int):Option (Int×T0m):=
(fr a0 a1).bind λ(x0,x1,_)=>
bif(x1 != 0)then(some (0,[],[],x1,()))else
bif(decide (a2<1))then(some (0,[],[],1,()))else
bif(decide (a2>5))then(some (0,[],[],1,()))else
(bM fq NN (a1,a2,x0,0,0,0,(),(),x0,())).bind λ(x2,x3,x4,x5,x6,x7,x8)=>
bif(decide (x5<x3))then(some (4,[],[],0,()))else
(match bM dm NN (x4,x5,0,x8)with
|none=>none
|some (.inl (af,ah,aj,ak,_))=>
some (ah,aj,ak,af,())
|some (.inr (af,ah,aj,ak,_))=>
some (3,[],[],0,()))
def vJ:X.Cfg:=⟨E0,[of,o6,o5],[],[⟨14,0,qE,[(.normal,(qS [sP 1 (yaa .bool),Uaa 2,zaa 6,(8,shU (yaa (.pair .bool (.pair (yaa CB) RI)))),Uaa 10,Uaa 11] [(14,yad),(19,[shU (yaa (.pair .bool (.pair (yaa CB) RI)))])]))]⟩,(lx 11 1 [sP 1 (yaa .bool),Uaa 2,zaa 6,(8,shU (yaa (.pair .bool (.pair (yaa CB) RI)))),Uaa 10,Uaa 11] [(14,yad),(19,[shU (yaa (.pair .bool (.pair (yaa CB) RI)))])] 34),⟨28,2,qE,[(.normal,qS [zaa 6,zaa 13] [(14,yad),(28,Uae)])]⟩,⟨24,3,qE,[(.normal,(qS [zaa 6,(8,shU (yaa (.pair .bool (.pair (yaa CB) RI)))),Uaa 10,Uaa 12,Xaa 69] [(14,yad),(19,[shU (yaa (.pair .bool (.pair (yaa CB) RI)))])])),(.ret,qS [zaa 6,Uaa 7] [(14,Uae)])]⟩,⟨21,4,(qS [zaa 6,(8,shU (yaa (.pair .bool (.pair (yaa CB) RI)))),Uaa 10,Uaa 12] [(14,yad),(19,[shU (yaa (.pair .bool (.pair (yaa CB) RI)))])]),[(.ret,qS [zaa 6,Uaa 7] [(14,Uae)]),(.exit 2,(qS [zaa 6,(8,shU (yaa (.pair .bool (.pair (yaa CB) RI)))),Uaa 10,Uaa 12,Xaa 50] [(14,yad),(19,[shU (yaa (.pair .bool (.pair (yaa CB) RI)))])]))]⟩]⟩
def o7:Ctr:=⟨79,54,zag,[],[⟨uL [I64,(yaa CB),RI,I64],[.agg 3,.one],[]⟩],ap3 f9⟩
theorem vz:Lk 4 o7:=ls vJ (aC uo (aC vy (aC vw aN)))
def fV:T2l->Option (T2l⊕((List (LLCn×LDTs))×(List (Bool))×T2k)):=λ(v0,v1,v2,v3,v4,v5,v6,v7,v8,v9,v10,v11,v12,v13,v14,v15,v16,v17,v18,_)=>
let x0:=bJ v0.length;
bif(decide (v3<x0))then((cl v3).bind λx1=>
(bV v0 x1).bind λx2=>
(dJ x2.1 x2.2 v4 v5).bind λ(x3,x4,x5,x6,x7,x8,x9,ac,ae,af,ah,aj,_)=>
let ak:List (Int×Int×LDCn×Int×Int×Int×Int×Int×Int×Int×LDCn):=[(x3,(x4,(x5,(x6,(x7,(x8,(x9,(ac,(ae,(af,ah))))))))))];
bif(b6 120 v18.length ak.length)then let am:List (Int×Int×LDCn×Int×Int×Int×Int×Int×Int×Int×LDCn):=(List.append v18 ak);
(jX x3 x4 x5 x6 x7 x8 x9 ac ae af ah).bind λ(an,_)=>
let ap:List (Bool×List (Int)):=[((aj==0),an)];
bif(b6 32 v17.length ap.length)then let aq:List (Bool×List (Int)):=(List.append v17 ap);
let au:=w64 (v3+1);
some (.inl (v0,v1,v2,au,v4,v5,v6,v7,v8,v9,v10,v11,v12,v13,v14,v15,v16,aq,am,()))else none else none)else
some (.inr (v0,v1,v2,v3,false,v4,v5,v6,v7,v8,v9,v10,v11,v12,v13,v14,v15,v16,v17,v18,()))
def eF:T2o->Option (T2o⊕(T1G⊕T2p)):=λ(v0,v1,v2,v3,v4,v5,v6,v7,v8,v9,v10,v11,v12,v13,v14,v15,v16,v17,v18,v19,_)=>
let x0:=bJ v0.length;
bif(decide (v3<x0))then(((cl v3).bind λx1=>
(bV v1 x1).bind λx2=>
bif x2 then((cl v3).bind λx3=>
(bV v2 x3).bind λx4=>
bif x4.1 then((cl v3).bind λx5=>
(bV v2 x5).bind λx6=>
let x7:ByteArray:=(mK x6.2);
let x8:ByteArray:=(mK v18);
some (v0,v1,v2,v3,(IS x7 x8),v4,v5,v6,v7,v8,v9,v10,v11,v12,v13,v14,v15,v16,v17,v18,v19,()))else
some (v0,v1,v2,v3,false,v4,v5,v6,v7,v8,v9,v10,v11,v12,v13,v14,v15,v16,v17,v18,v19,()))else
some (v0,v1,v2,v3,false,v4,v5,v6,v7,v8,v9,v10,v11,v12,v13,v14,v15,v16,v17,v18,v19,()):Option (T2p)).bind λ(x1,x2,x3,x4,x5,x6,x7,x8,x9,ac,ae,af,ah,aj,ak,am,an,ap,aq,au,av,_)=>
bif x5 then((cl x4).bind λaw=>
(bV ap aw).bind λax=>
(bV ap aw).bind λay=>
some (.inr (.inl (av,0,ay.1,ay.2.1,ay.2.2.1,ay.2.2.2.1,ay.2.2.2.2.1,ay.2.2.2.2.2.1,ay.2.2.2.2.2.2.1,ay.2.2.2.2.2.2.2.1,ay.2.2.2.2.2.2.2.2.1,ay.2.2.2.2.2.2.2.2.2.1,ay.2.2.2.2.2.2.2.2.2.2,()))))else
let aw:=w64 (x4+1);
some (.inl (x1,x2,x3,aw,x6,x7,x8,x9,ac,ae,af,ah,aj,ak,am,an,ap,aq,au,av,())))else
some (.inr (.inr (v0,v1,v2,v3,false,v4,v5,v6,v7,v8,v9,v10,v11,v12,v13,v14,v15,v16,v17,v18,v19,())))
def iv(a0:List (LLCn×LDTs))(a1:List (Bool))(a2:Int)(a3:Int)(a4:Int):Option (T1F):=
(bM fV NN (a0,a1,a4,0,a2,a3,0,0,(),0,0,0,0,0,0,0,(),[],[],())).bind λ(x0,x1,x2,x3,x4,x5,x6,x7,x8,x9,ac,ae,af,ah,aj,ak,am,an,ap,aq,_)=>
(f9 ap x1 x2).bind λ(au,av,aw,ax,_)=>
bif(ax != 0)then(some (0,0,[],0,0,0,0,0,0,0,[],[],ax,()))else
bif(au==3)then(some (0,0,[],0,0,0,0,0,0,0,[],[],31,()))else
bif(au==4)then(some (0,0,[],0,0,0,0,0,0,0,[],[],31,()))else
(match bM eF NN (x0,x1,ap,0,x7,x8,x9,ac,ae,af,ah,aj,ak,am,an,ap,aq,au,av,aw,())with
|none=>none
|some (.inl (ay,az,aA,aB,aD,aE,aF,aG,aH,aI,aJ,aK,aL,_))=>
some (aA,aB,aD,aE,aF,aG,aH,aI,aJ,aK,aL,ay,az,())
|some (.inr (ay,az,aA,aB,aD,aE,aF,aG,aH,aI,aJ,aK,aL,_))=>
some (0,0,[],0,0,0,0,0,0,0,[],[],31,()))
def yb:X.Cfg:=⟨E0,[kL,q7,o7],[(36,(.pair I64 (.pair I64 (.pair (uaa KCn) nq)))),(37,(.pair I64 (.pair I64 (.pair (uaa KCn) nq)))),(44,(.pair .bool (uaa CB))),(45,(.pair .bool (uaa CB)))],[(lx 5 0 [sP 0 (yaa (.pair (yaa bZ) (yaa ch))),sP 1 (yaa .bool),Uaa 3,zaa 6,zaa 8,Zaa 11 25,Zaa 12 27,Uaa 13] [(14,Xab),(18,Xac),(25,yaf),(27,[shU (uaa (.pair I64 (.pair I64 (.pair bZ ch))))])] 22),⟨24,1,qE,[(.normal,(qS [sP 0 (yaa (.pair (yaa bZ) (yaa ch))),sP 1 (yaa .bool),zaa 8,sP 11 (yaa (.pair .bool (yaa CB))),Zaa 12 27,zaa 16,Uaa 18,Xaa 94] [(18,Xac),(25,Zad),(27,[shU (uaa (.pair I64 (.pair I64 (.pair bZ ch))))]),(34,Uae)]))]⟩,⟨20,2,(qS [sP 0 (yaa (.pair (yaa bZ) (yaa ch))),sP 1 (yaa .bool),zaa 8,sP 11 (yaa (.pair .bool (yaa CB))),Zaa 12 27,zaa 16,Uaa 18] [(18,Xac),(25,Zad),(27,[shU (uaa (.pair I64 (.pair I64 (.pair bZ ch))))]),(34,Uae)]),[(.ret,qS [zaa 8,sP 9 RI,Uaa 10] [(18,Zac)]),(.exit 2,(qS [sP 0 (yaa (.pair (yaa bZ) (yaa ch))),sP 1 (yaa .bool),zaa 8,sP 11 (yaa (.pair .bool (yaa CB))),Zaa 12 27,zaa 16,Uaa 18,Xaa 69] [(18,Xac),(25,Zad),(27,[shU (uaa (.pair I64 (.pair I64 (.pair bZ ch))))]),(34,Uae)]))]⟩]⟩
def mH:Ctr:=⟨39,55,[shU (yaa (.pair (yaa bZ) (yaa ch))),shU (yaa .bool),.agg Xab,shU I64],[],[⟨Uag,[.agg 11,.one,.one],[]⟩],ap5 iv⟩
theorem qt:Lk 5 mH:=ls yb (aC mB (aC xC (aC vz aN)))
def cy:(List (Bool))×T0a->Option (((List (Bool))×T0a)⊕((Int×Unit)⊕((List (Bool))×Bool×T0d))):=λ(v0,v1,v2,v3,_)=>
bif(decide (v3<v2))then((cl v3).bind λx0=>
(bV v0 x0).bind λx1=>
bif(v1==x1)then(some (.inr (.inl (v3,()))))else
let x2:=w64 (v3+1);
some (.inl (v0,v1,v2,x2,())))else
some (.inr (.inr (v0,v1,v2,v3,false,())))
def fL(a0:List (Bool))(a1:Bool):Option (Int×Unit):=
let x0:=bJ a0.length;
(match bM cy NN (a0,a1,x0,0,())with
|none=>none
|some (.inl (x1,_))=>
some (x1,())
|some (.inr (x1,_))=>
some ((-1),()))
def pC:X.Cfg:=⟨E0,[],[],[⟨3,0,qS [sP 0 (yaa .bool),Xaa 1,Uaa 7,Uaa 8] [],[(.ret,qS [Uaa 4] []),(.exit 0,qS [sP 0 (yaa .bool),Xaa 1,Uaa 7,Uaa 8,Xaa 9] [])]⟩]⟩
def kI:Ctr:=⟨56,56,uL [(yaa .bool),.bool],[],[⟨zac,[.one],[]⟩],ap2 fL⟩
theorem px:Lk 1 kI:=ls pC aN
def dK:LLCn×Int×T0v->Option ((LLCn×Int×T0v)⊕(LLCn×Int×Int×Bool×T0o)):=λ(v0,v1,v2,v3,v4,v5,_)=>
bif(decide (v2<v1))then((cl v2).bind λx0=>
(bV v0 x0).bind λx1=>
let x2:=bJ x1.length;
bif(b6 8 v5.length (List.length [x2]))then let x3:List (Int):=(List.append v5 [x2]);
let x4:=w64 (v2+1);
some (.inl (v0,v1,x4,v3,v4,x3,()))else none)else
some (.inr (v0,v1,v2,false,v3,v4,v5,()))
def eM(a0:List LDCn)(a1:LDTs):Option (LI×Unit):=
let x0:=bJ a0.length;
(bM dK NN (a0,x0,0,a0,a1,[],())).bind λ(x1,x2,x3,x4,x5,x6,x7,_)=>
some (x7,())
def yo:X.Cfg:=⟨E0,[],[],[(lx 4 0 [Zaa 3 9,sP 7 (yaa bZ),Uaa 8,Uaa 9] [(4,uab),(9,uac)] 10)]⟩
def iL:Ctr:=⟨31,57,[.agg uab],[],[⟨uac,[.one],[]⟩],ap2 eM⟩
theorem j5:Lk 1 iL:=ls yo aN
def gb(a0:Int):Option (Bool×Unit):=
(iz a0).bind λ(x0,_)=>
some ((!x0),())
def vP:X.Cfg:=⟨E0,[mJ],[],[]⟩
def o9:Ctr:=⟨69,58,zac,[],[⟨zab,[.one],[]⟩],ap1 gb⟩
theorem vB:Lk 2 o9:=ls vP (aC qv aN)
def bP:T0l->Option (T0l⊕((Int×Unit)⊕T0x)):=λ(v0,v1,v2,_)=>
bif(decide (v2<v1))then((cl v2).bind λx0=>
(bV v0 x0).bind λx1=>
(gb x1).bind λ(x2,_)=>
bif x2 then(some (.inr (.inl (v2,()))))else
let x3:=w64 (v2+1);
some (.inl (v0,v1,x3,())))else
some (.inr (.inr (v0,v1,v2,false,())))
def eC(a0:List (Int)):Option (Int×Unit):=
let x0:=bJ a0.length;
(match bM bP NN (a0,x0,0,())with
|none=>none
|some (.inl (x1,_))=>
some (x1,())
|some (.inr (x1,_))=>
some ((-1),()))
def nj:X.Cfg:=⟨E0,[o9],[],[⟨3,0,(qS [sP 0 RI,(1,.fn 69 []),Uaa 7,Uaa 8] []),[(.ret,qS [Uaa 4] []),(.exit 0,(qS [sP 0 RI,(1,.fn 69 []),Uaa 7,Uaa 8,Xaa 9] []))]⟩]⟩
def iP:Ctr:=⟨97,59,[shU RI,.fn 69 []],[],[⟨zac,[.one],[]⟩],ap1 eC⟩
theorem nc:Lk 3 iP:=ls nj (aC vB aN)
def cx(a0:List (Int)):Option (Bool×Unit):=
(eC a0).bind λ(x0,_)=>
some ((decide (x0>=0)),())
def lH:X.Cfg:=⟨E0,[iP],[],[]⟩
def gR:Ctr:=⟨68,60,[shU RI,.fn 69 []],[],[⟨zab,[.one],[]⟩],ap1 cx⟩
theorem lB:Lk 4 gR:=ls lH (aC nc aN)
def dz:T1m->Option (T1m⊕(Int×Int×Int×Int×T0M)):=λ(v0,v1,v2,v3,v4,v5,v6,v7,_)=>
let x0:=w64 (v3*8);
bif(decide (x0<v2))then(let x1:LDCe:=[(v1,v3)];
bif(b6 16 v7.length x1.length)then let x2:LDCe:=(List.append v7 x1);
let x3:=w64 (v3+1);
some (.inl (v0,v1,v2,x3,v4,v5,v6,x2,()))else none)else
some (.inr (v0,v1,v2,v3,v4,v5,v6,false,v7,()))
def eq:T0J->Option (T0J⊕(Int×T0M)):=λ(v0,v1,v2,v3,v4,_)=>
bif(decide (v3<v2))then((cl v3).bind λx0=>
(bV v1 x0).bind λx1=>
(bM dz NN (v0,v3,x1,0,v1,v2,v3,v4,())).bind λ(x2,x3,x4,x5,x6,x7,x8,x9,ac,_)=>
let ae:=w64 (x8+1);
some (.inl (x2,x6,x7,ae,ac,())))else
some (.inr (v0,v1,v2,v3,false,v4,()))
def dy:T0f->Option (T0f⊕T0q):=λ(v0,v1,v2,_)=>
bif(decide (v1<v0))then(let x0:LDCe:=[((-1),v1)];
bif(b6 16 v2.length x0.length)then let x1:LDCe:=(List.append v2 x0);
let x2:=w64 (v1+1);
some (.inl (v0,x2,x1,()))else none)else
some (.inr (v0,v1,false,v2,()))
def dA(a0:List (Int))(a1:Int):Option (T05):=
let x0:=bJ a0.length;
bif(decide (x0>4))then(some ([],3,()))else
bif(decide (a1>4))then(some ([],3,()))else
bif(decide (a1<0))then(some ([],1,()))else
(cx a0).bind λ(x1,_)=>
bif x1 then(some ([],1,()))else
let x2:=bJ a0.length;
(bM eq NN (a1,a0,x2,0,[],())).bind λ(x3,x4,x5,x6,x7,x8,_)=>
(bM dy NN (x3,0,x8,())).bind λ(x9,ac,ae,af,_)=>
some (af,0,())
def Af:X.Cfg:=⟨E0,[gR],[],[⟨16,0,qS [Uaa 1,Zaa 6 15,Uaa 7,Uaa 8,Uaa 9,sP 24 RI,Uaa 25,Uaa 26] [(15,yab)],[(.exit 2,qS [Uaa 1,Zaa 6 15,Uaa 7,Uaa 8,Uaa 9,sP 24 RI,Uaa 25,Uaa 26,Xaa 34] [(15,yab)])]⟩,(lx 10 1 [Uaa 1,Zaa 6 15,sP 24 RI,Uaa 25,Uaa 26] [(15,yab)] 27),⟨22,2,qS [Zaa 6 15,Uaa 44,Uaa 45] [(15,yab)],[(.exit 4,qS [Zaa 6 15,Uaa 44,Uaa 45,Xaa 46] [(15,yab)])]⟩]⟩
def jw:Ctr:=⟨32,61,uaf,[],[⟨zaf,[.one,.one],[]⟩],ap2 dA⟩
theorem lf:Lk 5 jw:=ls Af (aC lB aN)
def eD(a0:List LDCn):Option (LLCn×Unit):=
bif(b6 24 0 a0.length)then let x0:List LDCn:=(List.append [] a0);
some (x0,())else none
def nn:X.Cfg:=⟨E0,[],[(5,(uaa KCn)),(7,(uaa KCn))],[]⟩
def iR:Ctr:=⟨64,62,uL [(yaa bZ)],[],[⟨uL [(uaa bZ)],[.one],[]⟩],ap1 eD⟩
theorem ng:Lk 1 iR:=ls nn aN
def fM(a0:LDTs):Option (LDTs×Unit):=
bif(b6 80 0 a0.length)then let x0:LDTs:=(List.append [] a0);
some (x0,())else none
def pD:X.Cfg:=⟨E0,[],[(5,nq),(7,nq)],[]⟩
def kJ:Ctr:=⟨65,63,uL [(yaa ch)],[],[⟨uL [(uaa ch)],[.one],[]⟩],ap1 fM⟩
theorem py:Lk 1 kJ:=ls pD aN
def fw:T19->Option (T19⊕(Int×Int×Bool×T0N)):=λ(v0,v1,v2,v3,v4)=>
bif(decide (v1<v0))then((cl v1).bind λx0=>
(bV v2 x0).bind λx1=>
bif(df v3 x0 x0)then(bV v2 x0).bind λx2=>
(cZ x2).bind λ(x3,_)=>
(cl v1).bind λx4=>
(bV v2 x4).bind λx5=>
(bV v2 x4).bind λx6=>
bif(Nat.beq x4 v3)then let x7:Int:=(w64 (v1+1));
some (.inl (v0,x7,(List.modify v2 x4 λe=>x3),(Nat.add v3 1),v4))else none else none)else
some (.inr (v0,v1,false,v2,v3,v4))
def fu:Int×Int×T0B->Option ((Int×Int×T0B)⊕(Int×Int×Bool×T0B)):=λ(v0,v1,v2,v3,v4)=>
bif(decide (v1<v0))then((cl v1).bind λx0=>
(bV v3 x0).bind λx1=>
(bV v3 x0).bind λx2=>
(eN x2.1 x2.2.1 x2.2.2.1 x2.2.2.2.1 x2.2.2.2.2.1 x2.2.2.2.2.2.1 x2.2.2.2.2.2.2.1 x2.2.2.2.2.2.2.2).bind λ(x3,x4,x5,x6,x7,x8,x9,ac,_)=>
(cl v1).bind λae=>
(bV v3 ae).bind λaf=>
(bV v3 ae).bind λah=>
let aj:=(List.modify v3 ae λe=>(x3,(x4,(x5,(x6,(x7,(x8,(x9,ac))))))));
let ak:=w64 (v1+1);
some (.inl (v0,ak,v2,aj,v4)))else
some (.inr (v0,v1,false,v2,v3,v4))
def eX(a0:List LDCn)(a1:LDTs):Option (T08):=
(eD a0).bind λ(x0,_)=>
(fM a1).bind λ(x1,_)=>
let x2:=bJ x0.length;
(bM fw NN (x2,0,x0,0,x1,(),(),())).bind λ(x3,x4,x5,x6,x7,x8,x9)=>
bif(Nat.beq x7 x6.length)then let ae:Int:=(bJ x8.length);
(bM fu NN (ae,0,x6,x8,x9)).bind λ(af,ah,aj,ak,am,_)=>
some (ak,am,())else none
def vQ:X.Cfg:=⟨E0,[iR,kJ,fc,j9],[],[(lx 4 0 [zaa 1,zaa 2,Zaa 16 4,Uaa 17,Uaa 18] [(4,[.half KCn () (),shU (uaa ch)]),(6,Uab)] 19),⟨11,1,(qS [zaa 1,zaa 2,(31,.pk ⟨4,1,[]⟩ [0,0]),Uaa 32,Uaa 33] [(4,uae),(6,Uab)]),[(.exit 2,(qS [zaa 1,zaa 2,(31,.pk ⟨4,1,[]⟩ [0,0]),Uaa 32,Uaa 33,Xaa 34] [(4,uae),(6,Uab)]))]⟩]⟩
def jf:Ctr:=⟨30,64,[.agg uab],[],[⟨uae,[.agg 2],[]⟩],ap2 eX⟩
theorem lF:Lk 3 jf:=ls vQ (aC ng (aC py (aC gD (aC mC aN))))
def iA(a0:Int)(a1:Int)(a2:Int)(a3:Int)(a4:Int)(a5:Int)(a6:Int)(a7:LDCn):Option (Bool×Unit):=
bif(a0==0)then(bif(a1==0)then(bif(a2==0)then(bif(a3==0)then(bif(a4==0)then(bif(a5==0)then(bif(a6==0)then(let x0:Int:=(bJ a7.length);
some ((x0==0),()))else
some (false,()))else
some (false,()))else
some (false,()))else
some (false,()))else
some (false,()))else
some (false,()))else
some (false,())
def yn:X.Cfg:=⟨E0,[],[],[]⟩
def ra:Ctr:=⟨91,65,[.agg Uad],[],[⟨zab,[.one],[]⟩],ap8 iA⟩
theorem xF:Lk 1 ra:=ls yn aN
def kw(a0:List LDCn)(a1:LDTs)(a2:Int)(a3:Int)(a4:LDCn)(a5:Int)(a6:Int)(a7:Int)(a8:Int)(a9:Int)(a10:Int)(a11:Int)(a12:LDCn):Option (T0n):=
(jm a0 a1 a2 a3).bind λ(x0,_)=>
bif(x0 != 0)then(some ([],[],x0,()))else
bif(a2==(-1))then(let x1:Int:=(bJ a4.length);
bif(decide (x1>0))then(some ([],[],5,()))else
(eX a0 a1).bind λ(x2,x3,_)=>
(eN a5 a6 a7 a8 a9 a10 a11 a12).bind λ(x4,x5,x6,x7,x8,x9,ac,ae,_)=>
(cl a3).bind λaf=>
(bV x3 af).bind λah=>
(bV x3 af).bind λaj=>
let ak:=(List.modify x3 af λe=>(x4,(x5,(x6,(x7,(x8,(x9,(ac,ae))))))));
some (x2,ak,0,()))else
let x1:=bJ a4.length;
(cl a2).bind λx2=>
(bV a0 x2).bind λx3=>
(eK x3 a3).bind λ(x4,_)=>
let x5:=bJ x4.length;
bif(x1 != x5)then(some ([],[],5,()))else
(iA a5 a6 a7 a8 a9 a10 a11 a12).bind λ(x6,_)=>
bif(!x6)then(some ([],[],5,()))else
(eX a0 a1).bind λ(x7,x8,_)=>
((cl a2).bind λx9=>
(bV x7 x9).bind λac=>
(bV x7 x9).bind λae=>
(bV x7 x9).bind λaf=>
(cl a3).bind λah=>
bif(Nat.blt ah 33)then bif(Nat.blt (Nat.add (Nat.add (Nat.add ah ah) (Nat.add ah ah)) (Nat.add (Nat.add ah ah) (Nat.add ah ah))) af.length)then bif(Nat.blt af.length 1099511627777)then(bV x7 x9).bind λaj=>
(bV x7 x9).bind λak=>
bif(df (Nat.add (Nat.add (Nat.add ah ah) (Nat.add ah ah)) (Nat.add (Nat.add ah ah) (Nat.add ah ah))) (Nat.add (Nat.add (Nat.add (Nat.add ah ah) (Nat.add ah ah)) (Nat.add (Nat.add ah ah) (Nat.add ah ah))) (Nat.min a4.length (Nat.min 8 (Nat.sub af.length (Nat.add (Nat.add (Nat.add ah ah) (Nat.add ah ah)) (Nat.add (Nat.add ah ah) (Nat.add ah ah))))))) ak.length)then bif(Nat.blt 0 (Nat.min a4.length (Nat.min 8 (Nat.sub af.length (Nat.add (Nat.add (Nat.add ah ah) (Nat.add ah ah)) (Nat.add (Nat.add ah ah) (Nat.add ah ah)))))))then(let am:List LDCn:=(List.modify x7 x9 λe=>(pi ak (Nat.add (Nat.add (Nat.add ah ah) (Nat.add ah ah)) (Nat.add (Nat.add ah ah) (Nat.add ah ah))) (Nat.min a4.length (Nat.min 8 (Nat.sub af.length (Nat.add (Nat.add (Nat.add ah ah) (Nat.add ah ah)) (Nat.add (Nat.add ah ah) (Nat.add ah ah)))))) a4));
let an:=(bJ (Nat.min a4.length (Nat.min 8 (Nat.sub af.length (Nat.add (Nat.add (Nat.add ah ah) (Nat.add ah ah)) (Nat.add (Nat.add ah ah) (Nat.add ah ah)))))));
some ((),(),am,x8,()))else
let am:=(bJ (Nat.min a4.length (Nat.min 8 (Nat.sub af.length (Nat.add (Nat.add (Nat.add ah ah) (Nat.add ah ah)) (Nat.add (Nat.add ah ah) (Nat.add ah ah)))))));
some ((),(),x7,x8,())else none else none else none else none:Option (T0C)).bind λ(x9,ac,ae,af,_)=>
some (ae,af,0,())
def BZ:X.Cfg:=⟨E0,[oi,jf,j9,lp,ra],[],[⟨17,0,qE,[(.normal,qS [zaa 4,zaa 8] [(10,Uab),(18,uae)])]⟩]⟩
def pL:Ctr:=⟨54,66,[.agg uab,.agg Zac],[],[⟨Zag,[.agg 2,.one],[]⟩],ap13 kw⟩
theorem ur:Lk 7 pL:=ls BZ (aC sg (aC lF (aC mC (aC nP (aC xF aN)))))
def f7:T22->Option (T22⊕(LI×(List (Int×Int×LDCn×Int×Int×Int×Int×Int×Int×Int×LDCn))×Int×LI×Int×Int×Bool×T0C)):=λ(v0,v1,v2,v3,v4,v5,v6,v7,v8,v9,_)=>
bif(decide (v5<v4))then((cl v5).bind λx0=>
(bV v3 x0).bind λx1=>
(cl x1).bind λx2=>
(cl x1).bind λx3=>
bif(gk x2 x3 4)then let x4:LDCn:=(List.replicate x2 (0,(0,(0,0))));
bif(b6 24 v8.length (List.length [x4]))then let x5:List LDCn:=(List.append v8 [x4]);
let x6:=w64 (v5+1);
some (.inl (v0,v1,v2,v3,v4,x6,v6,v7,x5,v9,()))else none else none)else
some (.inr (v0,v1,v2,v3,v4,v5,false,v6,v7,v8,v9,()))
def de:T1U->Option (T1U⊕(T0i⊕((List (Int×Int×LDCn×Int×Int×Int×Int×Int×Int×Int×LDCn))×Int×T16))):=λ(v0,v1,v2,v3,v4,v5,v6,v7,_)=>
bif(decide (v2<v1))then((cl v2).bind λx0=>
(bV v0 x0).bind λx1=>
(cl v2).bind λx2=>
(bV v5 x2).bind λx3=>
(bV v5 x2).bind λx4=>
bif(!((x1.1==x4.1)&&((x1.2.1==x4.2)&&true)))then(some (.inr (.inl (5,(),(),()))))else
(kw v6 v7 x1.1 x1.2.1 x1.2.2.1 x1.2.2.2.1 x1.2.2.2.2.1 x1.2.2.2.2.2.1 x1.2.2.2.2.2.2.1 x1.2.2.2.2.2.2.2.1 x1.2.2.2.2.2.2.2.2.1 x1.2.2.2.2.2.2.2.2.2.1 x1.2.2.2.2.2.2.2.2.2.2).bind λ(x5,x6,x7,_)=>
bif(x7 != 0)then(some (.inr (.inl (5,(),(),()))))else
let x8:=w64 (v2+1);
some (.inl (v0,v1,x8,v3,v4,v5,x5,x6,())))else
some (.inr (.inr (v0,v1,v2,false,v3,v4,v5,v6,v7,())))
def iB(a0:List (Int))(a1:List (Int×Int×LDCn×Int×Int×Int×Int×Int×Int×Int×LDCn)):Option (T0n):=
(dA a0 0).bind λ(x0,x1,_)=>
bif(x1 != 0)then(some ([],[],x1,()))else
let x2:=bJ a1.length;
let x3:=bJ x0.length;
let x4:=w64 (x2-x3);
bif(decide (x4<0))then(some ([],[],5,()))else
bif(decide (x4>4))then(some ([],[],5,()))else
(cl x4).bind λx5=>
(cl x4).bind λx6=>
bif(gk x5 x6 8)then let x7:LDTs:=(List.replicate x5 (0,(0,(0,(0,(0,(0,(0,[]))))))));
let x8:=bJ a0.length;
(bM f7 NN (a0,a1,x4,a0,x8,0,(),(),[],x7,())).bind λ(x9,ac,ae,af,ah,aj,ak,am,an,ap)=>
(dA x9 ae).bind λ(au,av,_)=>
let aw:=bJ ac.length;
(match bM de NN (ac,aw,0,am,an,au,ap)with
|none=>none
|some (.inl (ax,ay,az,_))=>
some ([],[],ax,())
|some (.inr (ax,ay,az,aA,aB,aD,aE,aF,aG,_))=>
some (aF,aG,0,()))else none
def yr:X.Cfg:=⟨E0,[jw,pL],[(36,nq),(48,(uaa KCn)),(49,(uaa KCn))],[(lx 12 0 [sP 0 RI,(1,shU (yaa (.pair I64 (.pair I64 (.pair bZ ch))))),zaa 4,Uaa 8,zaa 9,sP 38 RI,Uaa 39,Uaa 40] [(10,Uab),(20,uae)] 41),⟨20,1,qS [zaa 4,Zaa 6 15,zaa 9,(58,shU (yaa (.pair I64 (.pair I64 (.pair bZ ch))))),Uaa 59,Uaa 60] [(10,Uab),(15,yab),(20,uae)],[(.ret,qS [zaa 4,Uaa 5] [(10,Uab)]),(.exit 2,qS [zaa 4,Zaa 6 15,zaa 9,(58,shU (yaa (.pair I64 (.pair I64 (.pair bZ ch))))),Uaa 59,Uaa 60,Xaa 61] [(10,Uab),(15,yab),(20,uae)])]⟩]⟩
def re:Ctr:=⟨58,67,[shU RI,shU (yaa (.pair I64 (.pair I64 (.pair bZ ch))))],[],[⟨Zag,[.agg 2,.one],[]⟩],ap2 iB⟩
theorem xI:Lk 8 re:=ls yr (aC lf (aC ur aN))
def cE:T28->Option (T28⊕((Int×Unit×T09)⊕((List (LLCn×LDTs))×(List (Bool))×Int×LI×Int×Int×Bool×T1Q))):=λ(v0,v1,v2,v3,v4,v5,v6,v7,v8,v9,v10,v11,_)=>
bif(decide (v5<v4))then((cl v5).bind λx0=>
(bV v9 x0).bind λx1=>
(bV v9 x0).bind λx2=>
(gJ v0 v1 x2.1 x2.2 v2).bind λ(x3,x4,x5,x6,x7,x8,x9,ac,ae,af,ah,aj,ak,_)=>
bif(ak != 0)then(some (.inr (.inl (ak,(),(),(),()))))else
let am:List (Int×Int×LDCn×Int×Int×Int×Int×Int×Int×Int×LDCn):=[(x3,(x4,(x5,(x6,(x7,(x8,(x9,(ac,(ae,(af,ah))))))))))];
bif(b6 120 v10.length am.length)then let an:List (Int×Int×LDCn×Int×Int×Int×Int×Int×Int×Int×LDCn):=(List.append v10 am);
bif(b6 8 v11.length aj.length)then let ap:List (Int):=(List.append v11 aj);
let aq:=w64 (v5+1);
some (.inl (v0,v1,v2,v3,v4,aq,v6,v7,v8,v9,an,ap,()))else none else none)else
some (.inr (.inr (v0,v1,v2,v3,v4,v5,false,v6,v7,v8,v9,v10,v11,())))
def i5(a0:List (LLCn×LDTs))(a1:List (Bool))(a2:Int):Option (T0z):=
(fL a1 true).bind λ(x0,_)=>
let x1:=bJ a1.length;
let x2:=bJ a0.length;
bif(x1 != x2)then(some ([],[],[],1,()))else
bif(decide (x0<0))then(some ([],[],[],1,()))else
(cl x0).bind λx3=>
(bV a0 x3).bind λx4=>
(eM x4.1 x4.2).bind λ(x5,_)=>
(cl x0).bind λx6=>
(bV a0 x6).bind λx7=>
let x8:=bJ x7.2.length;
(dA x5 x8).bind λ(x9,ac,_)=>
bif(ac != 0)then(some ([],[],[],ac,()))else
let ae:=bJ x9.length;
(match bM cE NN (a0,a1,a2,x5,ae,0,(),(),x5,x9,[],[],())with
|none=>none
|some (.inl (af,ah,aj,ak,_))=>
some ([],[],[],af,())
|some (.inr (af,ah,aj,ak,am,an,ap,aq,au,av,aw,ax,ay,_))=>
bif(Nat.blt ay.length 4611686018427387904)then let az:List (Int):=(t6 1 ay);
(iB ak ax).bind λ(aA,aB,aD,_)=>
bif(aD != 0)then(some ([],[],[],aD,()))else
bif(Nat.blt az.length 4611686018427387904)then let aE:List (Int):=(t6 2 az);
let aF:=pO aE 0 (rowN az);
some (aA,aB,aF,0,())else none else none)
def vE:X.Cfg:=⟨E0,[kI,iL,jw,lI,re],[(74,(.pair I64 (.pair I64 (.pair (uaa KCn) nq)))),(75,(.pair I64 (.pair I64 (.pair (uaa KCn) nq))))],[⟨14,0,(qS [sP 0 (yaa (.pair (yaa bZ) (yaa ch))),sP 1 (yaa .bool),Uaa 2,zaa 6,sP 10 RI,Zaa 13 29,Zaa 14 31,Zaa 53 25,Uaa 54,Uaa 55] [(14,Uab),(23,Xae),(25,yab),(29,[shU (uaa (.pair I64 (.pair I64 (.pair bZ ch))))]),(31,uac)]),[(.ret,(qS [zaa 6,Zaa 7 17,Uaa 8] [(14,Uab),(17,uL [N1])])),(.exit 0,(qS [sP 0 (yaa (.pair (yaa bZ) (yaa ch))),sP 1 (yaa .bool),Uaa 2,zaa 6,sP 10 RI,Zaa 13 29,Zaa 14 31,Zaa 53 25,Uaa 54,Uaa 55,Xaa 56] [(14,Uab),(23,Xae),(25,yab),(29,[shU (uaa (.pair I64 (.pair I64 (.pair bZ ch))))]),(31,uac)]))]⟩]⟩
def oZ:Ctr:=⟨26,68,uah,[],[⟨uL [(yaa bZ),(yaa ch),RI,I64],[.agg 2,.one,.one],[]⟩],ap3 i5⟩
theorem vu:Lk 9 oZ:=ls vE (aC px (aC j5 (aC lf (aC oT (aC xI aN)))))
def dx:LI×Int×T0f->Option ((LI×Int×T0f)⊕(LI×Int×T0q)):=λ(v0,v1,v2,v3,v4,_)=>
let x0:=w64 (v3*8);
(cl v2).bind λx1=>
(bV v0 x1).bind λx2=>
bif(decide (x0<x2))then(let x3:LDCe:=[(v2,v3)];
bif(b6 16 v4.length x3.length)then let x4:LDCe:=(List.append v4 x3);
let x5:=w64 (v3+1);
some (.inl (v0,v1,v2,x5,x4,()))else none)else
some (.inr (v0,v1,v2,v3,false,v4,()))
def d8:T0y->Option (T0y⊕T0M):=λ(v0,v1,v2,v3,_)=>
let x0:=bJ v0.length;
bif(decide (v2<x0))then((bM dx NN (v0,v1,v2,0,v3,())).bind λ(x1,x2,x3,x4,x5,x6,_)=>
let x7:=w64 (x3+1);
some (.inl (x1,x2,x7,x6,())))else
some (.inr (v0,v1,v2,false,v3,()))
def dw:T0f->Option (T0f⊕T0q):=λ(v0,v1,v2,_)=>
bif(decide (v1<v0))then(let x0:LDCe:=[((-1),v1)];
bif(b6 16 v2.length x0.length)then let x1:LDCe:=(List.append v2 x0);
let x2:=w64 (v1+1);
some (.inl (v0,x2,x1,()))else none)else
some (.inr (v0,v1,false,v2,()))
def eJ(a0:List (Int))(a1:Int):Option (T05):=
(dR a0 a1).bind λ(x0,_)=>
bif(x0 != 0)then(some ([],x0,()))else
(bM d8 NN (a0,a1,0,[],())).bind λ(x1,x2,x3,x4,x5,_)=>
(bM dw NN (x2,0,x5,())).bind λ(x6,x7,x8,x9,_)=>
some (x9,0,())
def Aa:X.Cfg:=⟨E0,[j8],[],[⟨13,0,qS [sP 0 RI,Uaa 1,Zaa 7 17,Uaa 8,Uaa 9] [(17,yab)],[(.exit 2,qS [sP 0 RI,Uaa 1,Zaa 7 17,Uaa 8,Uaa 9,Xaa 29] [(17,yab)])]⟩,(lx 8 1 [sP 0 RI,Uaa 1,Zaa 7 17,Uaa 8] [(17,yab)] 20),⟨19,2,qS [Uaa 1,Zaa 7 17,Uaa 10] [(17,yab)],[(.exit 4,qS [Uaa 1,Zaa 7 17,Uaa 10,Xaa 40] [(17,yab)])]⟩]⟩
def jv:Ctr:=⟨35,69,uaf,[],[⟨zaf,[.one,.one],[]⟩],ap2 eJ⟩
theorem ld:Lk 2 jv:=ls Aa (aC mA aN)
def kV(a0:Int)(a1:Int)(a2:Int)(a3:Int)(a4:Int)(a5:Int)(a6:Int)(a7:LDCn):Option (Bool×Unit):=
bif(a0==0)then(bif(a1==0)then(bif(a2==0)then(bif(a3==0)then(bif(a4==0)then(bif(a5==0)then(bif(a6==0)then(let x0:Int:=(bJ a7.length);
some ((x0==0),()))else
some (false,()))else
some (false,()))else
some (false,()))else
some (false,()))else
some (false,()))else
some (false,()))else
some (false,())
def z7:X.Cfg:=⟨E0,[],[],[]⟩
def sA:Ctr:=⟨112,70,[.agg Uad],[],[⟨zab,[.one],[]⟩],ap8 kV⟩
theorem zN:Lk 1 sA:=ls z7 aN
def ku(a0:List LDCn)(a1:LDTs)(a2:Int)(a3:Int)(a4:LDCn)(a5:Int)(a6:Int)(a7:Int)(a8:Int)(a9:Int)(a10:Int)(a11:Int)(a12:LDCn):Option (T0n):=
(dJ a0 a1 a2 a3).bind λ(x0,x1,x2,x3,x4,x5,x6,x7,x8,x9,ac,ae,_)=>
bif(ae != 0)then(some ([],[],ae,()))else
(let af:=bJ a4.length;
let ah:=bJ x2.length;
bif(af != ah)then(some (true,a0,a1,a2,a3,a4,a5,a6,a7,a8,a9,a10,a11,a12,(),(),()))else
bif(a2 != (-1))then((kV a5 a6 a7 a8 a9 a10 a11 a12).bind λ(aj,_)=>
some ((!aj),a0,a1,a2,a3,a4,a5,a6,a7,a8,a9,a10,a11,a12,(),(),()))else
some (false,a0,a1,a2,a3,a4,a5,a6,a7,a8,a9,a10,a11,a12,(),(),()):Option (Bool×LLCn×LDTs×Int×Int×LDCn×Int×Int×Int×Int×Int×Int×Int×LDCn×T09)).bind λ(af,ah,aj,ak,am,an,ap,aq,au,av,aw,ax,ay,az,aA,aB,_)=>
bif af then(some ([],[],5,()))else
(gn ah aj).bind λ(aD,aE,_)=>
bif(ak==(-1))then((eT ap aq au av aw ax ay az).bind λ(aF,aG,aH,aI,aJ,aK,aL,aM,_)=>
(cl am).bind λaO=>
(bV aE aO).bind λaP=>
(bV aE aO).bind λaQ=>
let aR:=(List.modify aE aO λe=>(aF,(aG,(aH,(aI,(aJ,(aK,(aL,aM))))))));
some (aD,aR,0,()))else
((cl ak).bind λaF=>
(bV aD aF).bind λaG=>
(bV aD aF).bind λaH=>
let aI:=w64 (am*8);
(bV aD aF).bind λaJ=>
(cl aI).bind λaK=>
bif(df aK aJ.length aJ.length)then(bV aD aF).bind λaL=>
(bV aD aF).bind λaM=>
bif(df aK (Nat.add aK (Nat.min an.length (Nat.sub aJ.length aK))) aM.length)then bif(Nat.blt 0 (Nat.min an.length (Nat.sub aJ.length aK)))then(let aO:List LDCn:=(List.modify aD aF λe=>(pi aM aK (Nat.min an.length (Nat.sub aJ.length aK)) an));
let aP:=(bJ (Nat.min an.length (Nat.sub aJ.length aK)));
some (aA,aB,aO,aE,()))else
let aO:=(bJ (Nat.min an.length (Nat.sub aJ.length aK)));
some (aA,aB,aD,aE,())else none else none:Option (T0C)).bind λ(aF,aG,aH,aI,_)=>
some (aH,aI,0,())
def BV:X.Cfg:=⟨E0,[kL,sA,oh,jc],[],[⟨6,0,qE,[(.normal,qS [zaa 2,zaa 3,zaa 4,Xaa 38] [(6,uab),(8,Zac),(10,Uab)])]⟩,⟨13,1,qE,[(.normal,qS [zaa 4,zaa 8] [(10,Uab),(18,Uac)])]⟩]⟩
def pJ:Ctr:=⟨83,71,[.agg uab,.agg Zac],[],[⟨yah,[.agg 2,.one],[]⟩],ap13 ku⟩
theorem up:Lk 4 pJ:=ls BV (aC mB (aC zN (aC sf (aC lC aN))))
def fZ:T1N->Option (T1N⊕(LI×(List (Int×Int×LDCn×Int×Int×Int×Int×Int×Int×Int×LDCn))×Int×Int×Bool×T09)):=λ(v0,v1,v2,v3,v4)=>
let x0:=bJ v1.length;
bif(decide (v3<x0))then(((cl v3).bind λx1=>
(bV v1 x1).bind λx2=>
bif(x2.1==(-1))then(let x3:Int:=(w64 (v2+1));
some (v0,v1,x3,v3,v4))else
some (v0,v1,v2,v3,v4):Option (T1N)).bind λ(x1,x2,x3,x4,x5)=>
let x7:=w64 (x4+1);
some (.inl (x1,x2,x3,x7,x5)))else
some (.inr (v0,v1,v2,v3,false,v4))
def fY:T1V->Option (T1V⊕(LI×T1T)):=λ(v0,v1,v2,v3,v4,v5,v6,v7,_)=>
let x0:=bJ v0.length;
bif(decide (v2<x0))then((cl v2).bind λx1=>
(bV v0 x1).bind λx2=>
(cl x2).bind λx3=>
(cl x2).bind λx4=>
bif(gk x3 x4 4)then let x5:LDCn:=(List.replicate x3 (0,(0,(0,0))));
bif(b6 24 v6.length (List.length [x5]))then let x6:List LDCn:=(List.append v6 [x5]);
let x7:=w64 (v2+1);
some (.inl (v0,v1,x7,v3,v4,v5,x6,v7,()))else none else none)else
some (.inr (v0,v1,v2,false,v3,v4,v5,v6,v7,()))
def dc:T1R->Option (T1R⊕(T0i⊕T1T)):=λ(v0,v1,v2,v3,v4,v5,v6,_)=>
let x0:=bJ v0.length;
bif(decide (v1<x0))then((cl v1).bind λx1=>
(bV v0 x1).bind λx2=>
(ku v5 v6 x2.1 x2.2.1 x2.2.2.1 x2.2.2.2.1 x2.2.2.2.2.1 x2.2.2.2.2.2.1 x2.2.2.2.2.2.2.1 x2.2.2.2.2.2.2.2.1 x2.2.2.2.2.2.2.2.2.1 x2.2.2.2.2.2.2.2.2.2.1 x2.2.2.2.2.2.2.2.2.2.2).bind λ(x3,x4,x5,_)=>
(cl v1).bind λx6=>
(bV v0 x6).bind λx7=>
(cl v1).bind λx8=>
(bV v4 x8).bind λx9=>
(bV v4 x8).bind λac=>
bif(!((x7.1==ac.1)&&((x7.2.1==ac.2)&&true)))then(some (.inr (.inl (5,(),(),()))))else
bif(x5 != 0)then(some (.inr (.inl (5,(),(),()))))else
let ae:=w64 (v1+1);
some (.inl (v0,ae,v2,v3,v4,x3,x4,())))else
some (.inr (.inr (v0,v1,false,v2,v3,v4,v5,v6,())))
def iy(a0:List (Int))(a1:List (Int×Int×LDCn×Int×Int×Int×Int×Int×Int×Int×LDCn)):Option (T0n):=
(dR a0 0).bind λ(x0,_)=>
bif(x0 != 0)then(some ([],[],x0,()))else
(bM fZ NN (a0,a1,0,0,(),(),())).bind λ(x1,x2,x3,x4,x5,x6,x7,_)=>
(eJ x1 x3).bind λ(x8,x9,_)=>
bif(x9 != 0)then(some ([],[],5,()))else
let ac:=bJ x8.length;
let ae:=bJ x2.length;
bif(ac != ae)then(some ([],[],5,()))else
(cl x3).bind λaf=>
(cl x3).bind λah=>
bif(gk af ah 8)then let aj:LDTs:=(List.replicate af (0,(0,(0,(0,(0,(0,(0,[]))))))));
(bM fY NN (x1,x2,0,x6,x7,x8,[],aj,())).bind λ(ak,am,an,ap,aq)=>
(match bM dc NN (am,0,aq)with
|none=>none
|some (.inl (ay,az,aA,_))=>
some ([],[],ay,())
|some (.inr (ay,az,aA,aB,aD,aE,aF,aG,_))=>
some (aF,aG,0,()))else none
def yk:X.Cfg:=⟨E0,[j8,jv,pJ],[(54,nq),(69,(uaa KCn)),(70,(uaa KCn))],[⟨11,0,qE,[(.normal,qS [sP 0 RI,(1,shU (yaa (.pair I64 (.pair I64 (.pair bZ ch))))),zaa 4,Uaa 7,Uaa 8] [(10,Uab)])]⟩,(lx 8 1 [sP 0 RI,(1,shU (yaa (.pair I64 (.pair I64 (.pair bZ ch))))),zaa 4,Uaa 7,Uaa 8] [(10,Uab)] 25),⟨20,2,qS [sP 0 RI,(1,shU (yaa (.pair I64 (.pair I64 (.pair bZ ch))))),zaa 4,Zaa 9 21,zaa 11,Uaa 12] [(10,Uab),(21,yab),(24,Uac)],[(.exit 2,qS [sP 0 RI,(1,shU (yaa (.pair I64 (.pair I64 (.pair bZ ch))))),zaa 4,Zaa 9 21,zaa 11,Uaa 12,Xaa 59] [(10,Uab),(21,yab),(24,Uac)])]⟩,⟨26,3,qS [(1,shU (yaa (.pair I64 (.pair I64 (.pair bZ ch))))),zaa 4,Zaa 9 21,zaa 11,Uaa 13] [(10,Uab),(21,yab),(24,Uac)],[(.ret,qS [zaa 4,Uaa 5] [(10,Uab)]),(.exit 4,qS [(1,shU (yaa (.pair I64 (.pair I64 (.pair bZ ch))))),zaa 4,Zaa 9 21,zaa 11,Uaa 13,Xaa 75] [(10,Uab),(21,yab),(24,Uac)])]⟩]⟩
def q8:Ctr:=⟨80,72,[shU RI,shU (yaa (.pair I64 (.pair I64 (.pair bZ ch))))],[],[⟨yah,[.agg 2,.one],[]⟩],ap2 iy⟩
theorem xD:Lk 5 q8:=ls yk (aC mA (aC ld (aC up aN)))
def c8:T1j->Option (T1j⊕((List (LLCn×LDTs))×(List (Bool))×Int×Int×Int×Bool×T09)):=λ(v0,v1,v2,v3,v4,v5)=>
let x0:=bJ v0.length;
bif(decide (v4<x0))then(let x1:Int:=(bJ v1.length);
let x2:=bJ v0.length;
bif(x1==x2)then(((cl v4).bind λx3=>
(bV v1 x3).bind λx4=>
bif x4 then(bif(decide (v3<0))then(some (v0,v1,v2,v4,v4,v5))else
some (v0,v1,v2,v3,v4,v5))else
some (v0,v1,v2,v3,v4,v5):Option (T1j)).bind λ(x3,x4,x5,x6,x7,x8)=>
let ac:=w64 (x7+1);
some (.inl (x3,x4,x5,x6,ac,x8)))else
some (.inr (v0,v1,v2,v3,v4,false,v5)))else
some (.inr (v0,v1,v2,v3,v4,false,v5))
def fU:T2a->Option (T2a⊕((List (LLCn×LDTs))×(List (Bool))×Int×LI×T21)):=λ(v0,v1,v2,v3,v4,v5,v6,v7,v8,v9,v10,v11,v12,_)=>
let x0:=bJ v5.length;
bif(decide (v6<x0))then((cl v6).bind λx1=>
(bV v5 x1).bind λx2=>
(cl x2).bind λx3=>
(bV v11 x3).bind λx4=>
(bV v11 x3).bind λx5=>
let x6:=List.modify v11 x3 λe=>true;
let x7:=w64 (v6+1);
some (.inl (v0,v1,v2,v3,v4,v5,x7,v7,v8,v9,v10,x6,v12,())))else
some (.inr (v0,v1,v2,v3,v4,v5,v6,false,v7,v8,v9,v10,v11,v12,()))
def cL:T24->Option (T24⊕((Int×Unit×T09)⊕((List (LLCn×LDTs))×(List (Bool))×T21))):=λ(v0,v1,v2,v3,v4,v5,v6,v7,v8,v9,v10,_)=>
let x0:=bJ v8.length;
bif(decide (v4<x0))then((cl v4).bind λx1=>
(bV v8 x1).bind λx2=>
(bV v8 x1).bind λx3=>
(iv v0 v1 x3.1 x3.2 v2).bind λ(x4,x5,x6,x7,x8,x9,ac,ae,af,ah,aj,ak,am,_)=>
bif(am != 0)then(some (.inr (.inl (am,(),(),(),()))))else
let an:List (Int×Int×LDCn×Int×Int×Int×Int×Int×Int×Int×LDCn):=[(x4,(x5,(x6,(x7,(x8,(x9,(ac,(ae,(af,(ah,aj))))))))))];
bif(b6 120 v10.length an.length)then let ap:List (Int×Int×LDCn×Int×Int×Int×Int×Int×Int×Int×LDCn):=(List.append v10 an);
(bM fU NN (v0,v1,v2,v3,v4,ak,0,v5,v6,v7,v8,v9,ap,())).bind λ(aq,au,av,aw,ax,ay,az,aA,aB)=>
let aI:=w64 (ax+1);
some (.inl (aq,au,av,aw,aI,aB))else none)else
some (.inr (.inr (v0,v1,v2,v3,v4,false,v5,v6,v7,v8,v9,v10,())))
def fT:T1e->Option (T1e⊕(Int×Bool×T10)):=λ(v0,v1,v2,v3,v4,v5,v6,_)=>
let x0:=bJ v3.length;
bif(decide (v0<x0))then(((cl v0).bind λx1=>
(bV v3 x1).bind λx2=>
(bV v3 x1).bind λx3=>
bif x3 then(bif(b6 8 v6.length (List.length [v0]))then let x4:List (Int):=(List.append v6 [v0]);
some (v0,v1,v2,v3,v4,v5,x4,())else none)else
some (v0,v1,v2,v3,v4,v5,v6,()):Option (T1e)).bind λ(x1,x2,x3,x4,x5)=>
let x8:=w64 (x1+1);
some (.inl (x8,x2,x3,x4,x5)))else
some (.inr (v0,false,v1,v2,v3,v4,v5,v6,()))
def jU(a0:List (LLCn×LDTs))(a1:List (Bool))(a2:Int):Option (T0z):=
(bM c8 NN (a0,a1,a2,(-1),0,(),(),())).bind λ(x0,x1,x2,x3,x4,x5,x6,x7,_)=>
bif(decide (x3<0))then(some ([],[],[],1,()))else
(cl x3).bind λx8=>
(bV x0 x8).bind λx9=>
(dS x9.1 x9.2).bind λ(ac,_)=>
(cl x3).bind λae=>
(bV x0 ae).bind λaf=>
let ah:=bJ af.2.length;
(eJ ac ah).bind λ(aj,ak,_)=>
bif(ak != 0)then(some ([],[],[],ak,()))else
let am:=bJ x0.length;
(cl am).bind λan=>
(cl am).bind λap=>
bif(gk an ap 1)then let aq:List (Bool):=(List.replicate an false);
(match bM cL NN (x0,x1,x2,ac,0,x6,x7,ac,aj,aq,[],())with
|none=>none
|some (.inl (au,av,aw,ax,_))=>
some ([],[],[],au,())
|some (.inr (au,av,aw,ax,ay,az,aA,aB,aD,aE,aF,aG,_))=>
(iy ax aG).bind λ(aH,aI,aJ,_)=>
bif(aJ != 0)then(some ([],[],[],aJ,()))else
(bM fT NN (0,aA,aB,aF,aH,aI,[],())).bind λ(aK,aL,aM,aO,aP,aQ,aR,aS,_)=>
some (aQ,aR,aS,0,()))else none
def xZ:X.Cfg:=⟨E0,[gx,jv,mH,q8],[(96,(.pair I64 (.pair I64 (.pair (uaa KCn) nq)))),(97,(.pair I64 (.pair I64 (.pair (uaa KCn) nq))))],[⟨7,0,qE,[(.normal,qS [sP 0 (yaa (.pair (yaa bZ) (yaa ch))),sP 1 (yaa .bool),Uaa 2,zaa 6,Uaa 9,Uaa 10] [(14,Uab)])]⟩,(lx 4 1 [sP 0 (yaa (.pair (yaa bZ) (yaa ch))),sP 1 (yaa .bool),Uaa 2,zaa 6,Uaa 9,Uaa 10] [(14,Uab)] 34),⟨31,2,(qS [sP 0 (yaa (.pair (yaa bZ) (yaa ch))),sP 1 (yaa .bool),Uaa 2,zaa 6,sP 11 RI,Zaa 12 27,Zaa 14 31,Zaa 15 33,Uaa 16,sP 18 RI,Uaa 20] [(14,Uab),(25,Xae),(27,yab),(31,yae),(33,[shU (uaa (.pair I64 (.pair I64 (.pair bZ ch))))])]),[(.exit 4,(qS [sP 0 (yaa (.pair (yaa bZ) (yaa ch))),sP 1 (yaa .bool),Uaa 2,zaa 6,sP 11 RI,Zaa 12 27,Zaa 14 31,Zaa 15 33,Uaa 16,sP 18 RI,Uaa 20,Xaa 101] [(14,Uab),(25,Xae),(27,yab),(31,yae),(33,[shU (uaa (.pair I64 (.pair I64 (.pair bZ ch))))])]))]⟩,⟨21,3,(qS [sP 0 (yaa (.pair (yaa bZ) (yaa ch))),sP 1 (yaa .bool),Uaa 2,zaa 6,sP 11 RI,Zaa 12 27,Zaa 14 31,Zaa 15 33,Uaa 16] [(14,Uab),(25,Xae),(27,yab),(31,yae),(33,[shU (uaa (.pair I64 (.pair I64 (.pair bZ ch))))])]),[(.ret,(qS [zaa 6,Zaa 7 17,Uaa 8] [(14,Uab),(17,uL [N1])])),(.exit 2,(qS [sP 0 (yaa (.pair (yaa bZ) (yaa ch))),sP 1 (yaa .bool),Uaa 2,zaa 6,sP 11 RI,Zaa 12 27,Zaa 14 31,Zaa 15 33,Uaa 16,Xaa 75] [(14,Uab),(25,Xae),(27,yab),(31,yae),(33,[shU (uaa (.pair I64 (.pair I64 (.pair bZ ch))))])]))]⟩,⟨45,4,qE,[(.normal,qS [zaa 6,Zaa 14 31,zaa 21,Zaa 22 47,Uaa 23] [(14,Uab),(31,yae),(44,Uac),(47,uac)])]⟩,⟨42,5,qS [zaa 6,Zaa 14 31,zaa 21,Zaa 22 47,Uaa 23] [(14,Uab),(31,yae),(44,Uac),(47,uac)],[(.exit 6,qS [zaa 6,Zaa 14 31,zaa 21,Zaa 22 47,Uaa 23,Xaa 123] [(14,Uab),(31,yae),(44,Uac),(47,uac)])]⟩]⟩
def qU:Ctr:=⟨40,73,uah,[],[⟨uL [(uaa (uaa KCn)),(uaa nq),(uaa I64),I64],[.agg 2,.one,.one],[]⟩],ap3 jU⟩
theorem xw:Lk 6 qU:=ls xZ (aC iG (aC ld (aC qt (aC xD aN))))
def dP:LDCn×LDCn×Int×Unit->Option ((LDCn×LDCn×Int×Unit)⊕((Bool×Unit)⊕(LDCn×LDCn×T01))):=λ(v0,v1,v2,_)=>
let x0:=bJ v0.length;
bif(decide (v2<x0))then((cl v2).bind λx1=>
(bV v0 x1).bind λx2=>
(cl v2).bind λx3=>
(bV v1 x3).bind λx4=>
let x5:Bool:=(!((x2.1==x4.1)&&((x2.2.1==x4.2.1)&&((x2.2.2.1==x4.2.2.1)&&((x2.2.2.2==x4.2.2.2)&&true)))));
bif x5 then(some (.inr (.inl (false,()))))else
let x6:=w64 (v2+1);
some (.inl (v0,v1,x6,())))else
some (.inr (.inr (v0,v1,v2,false,())))
def dY(a0:LDCn)(a1:LDCn):Option (Bool×Unit):=
let x0:=bJ a0.length;
let x1:=bJ a1.length;
bif(x0 != x1)then(some (false,()))else
(match bM dP NN (a0,a1,0,())with
|none=>none
|some (.inl (x2,_))=>
some (x2,())
|some (.inr (x2,_))=>
some (true,()))
def rM:X.Cfg:=⟨E0,[],[],[⟨6,0,qS [sP 0 bZ,sP 1 bZ,Uaa 5] [],[(.ret,qS [Xaa 4] []),(.exit 0,qS [sP 0 bZ,sP 1 bZ,Uaa 5,Xaa 14] [])]⟩]⟩
def gy:Ctr:=⟨50,74,uL [bZ,bZ],[],[⟨zab,[.one],[]⟩],ap2 dY⟩
theorem i4:Lk 1 gy:=ls rM aN
def fX(a0:Int)(a1:Int)(a2:Int)(a3:Int)(a4:Int)(a5:Int)(a6:Int)(a7:LDCn)(a8:Int)(a9:Int)(a10:Int)(a11:Int)(a12:Int)(a13:Int)(a14:Int)(a15:LDCn):Option (Bool×Unit):=
bif(a0==a8)then(bif(a1==a9)then(bif(a2==a10)then(bif(a3==a11)then(bif(a4==a12)then(bif(a5==a13)then(bif(a6==a14)then((dY a7 a15).bind λ(x0,_)=>
some (x0,()))else
some (false,()))else
some (false,()))else
some (false,()))else
some (false,()))else
some (false,()))else
some (false,()))else
some (false,())
def sY:X.Cfg:=⟨E0,[gy],[],[]⟩
def jL:Ctr:=⟨51,75,[.agg Uad,.agg Uad],[],[⟨zab,[.one],[]⟩],ap16 fX⟩
theorem mY:Lk 2 jL:=ls sY (aC i4 aN)
def fN(a0:Int)(a1:Int)(a2:LDCn)(a3:Int)(a4:Int)(a5:Int)(a6:Int)(a7:Int)(a8:Int)(a9:Int)(a10:LDCn)(a11:Int)(a12:Int)(a13:LDCn)(a14:Int)(a15:Int)(a16:Int)(a17:Int)(a18:Int)(a19:Int)(a20:Int)(a21:LDCn):Option (Bool×Unit):=
bif((a0==a11)&&((a1==a12)&&true))then((dY a2 a13).bind λ(x0,_)=>
bif x0 then((fX a3 a4 a5 a6 a7 a8 a9 a10 a14 a15 a16 a17 a18 a19 a20 a21).bind λ(x1,_)=>
some (x1,()))else
some (false,()))else
some (false,())
def yi:X.Cfg:=⟨E0,[gy,jL],[],[]⟩
def mI:Ctr:=⟨41,76,[.agg Zac,.agg Zac],[],[⟨zab,[.one],[]⟩],ap22 fN⟩
theorem qu:Lk 3 mI:=ls yi (aC i4 (aC mY aN))
def d6:T0m->Option (T0m⊕((Bool×Unit)⊕(LI×LI×T01))):=λ(v0,v1,v2,_)=>
let x0:=bJ v0.length;
bif(decide (v2<x0))then((cl v2).bind λx1=>
(bV v0 x1).bind λx2=>
(cl v2).bind λx3=>
(bV v1 x3).bind λx4=>
bif(x2 != x4)then(some (.inr (.inl (false,()))))else
let x5:=w64 (v2+1);
some (.inl (v0,v1,x5,())))else
some (.inr (.inr (v0,v1,v2,false,())))
def fW(a0:List (Int))(a1:List (Int)):Option (Bool×Unit):=
let x0:=bJ a0.length;
let x1:=bJ a1.length;
bif(x0 != x1)then(some (false,()))else
(match bM d6 NN (a0,a1,0,())with
|none=>none
|some (.inl (x2,_))=>
some (x2,())
|some (.inr (x2,_))=>
some (true,()))
def sW:X.Cfg:=⟨E0,[],[],[⟨6,0,qS [sP 0 RI,sP 1 RI,Uaa 5] [],[(.ret,qS [Xaa 4] []),(.exit 0,qS [sP 0 RI,sP 1 RI,Uaa 5,Xaa 14] [])]⟩]⟩
def m6:Ctr:=⟨27,77,uL [RI,RI],[],[⟨zab,[.one],[]⟩],ap2 fW⟩
theorem sO:Lk 1 m6:=ls sW aN
def gm:T0K->Option (T0K⊕((Bool×Unit)⊕(Int×T0E))):=λ(v0,v1,v2,v3,v4,_)=>
let x0:=bJ v1.length;
bif(decide (v0<x0))then((cl v0).bind λx1=>
(bV v1 x1).bind λx2=>
(cl v0).bind λx3=>
(bV v3 x3).bind λx4=>
(dY x2 x4).bind λ(x5,_)=>
bif(!x5)then(some (.inr (.inl (false,()))))else
let x6:=w64 (v0+1);
some (.inl (x6,v1,v2,v3,v4,())))else
some (.inr (.inr (v0,false,v1,v2,v3,v4,())))
def gl:T0K->Option (T0K⊕((Bool×Unit)⊕(Int×T0E))):=λ(v0,v1,v2,v3,v4,_)=>
let x0:=bJ v2.length;
bif(decide (v0<x0))then((cl v0).bind λx1=>
(bV v2 x1).bind λx2=>
(cl v0).bind λx3=>
(bV v4 x3).bind λx4=>
(fX x2.1 x2.2.1 x2.2.2.1 x2.2.2.2.1 x2.2.2.2.2.1 x2.2.2.2.2.2.1 x2.2.2.2.2.2.2.1 x2.2.2.2.2.2.2.2 x4.1 x4.2.1 x4.2.2.1 x4.2.2.2.1 x4.2.2.2.2.1 x4.2.2.2.2.2.1 x4.2.2.2.2.2.2.1 x4.2.2.2.2.2.2.2).bind λ(x5,_)=>
bif(!x5)then(some (.inr (.inl (false,()))))else
let x6:=w64 (v0+1);
some (.inl (x6,v1,v2,v3,v4,())))else
some (.inr (.inr (v0,false,v1,v2,v3,v4,())))
def jk(a0:List LDCn)(a1:LDTs)(a2:List LDCn)(a3:LDTs):Option (Bool×Unit):=
let x0:=bJ a0.length;
let x1:=bJ a2.length;
bif(x0 != x1)then(some (false,()))else
let x2:=bJ a1.length;
let x3:=bJ a3.length;
bif(x2 != x3)then(some (false,()))else
(match bM gm NN (0,a0,a1,a2,a3,())with
|none=>none
|some (.inl (x4,_))=>
some (x4,())
|some (.inr (x4,x5,x6))=>
(match bM gl NN (0,x6)with
|none=>none
|some (.inl (ac,_))=>
some (ac,())
|some (.inr (ac,_))=>
some (true,())))
def z8:X.Cfg:=⟨E0,[gy,jL],[],[⟨6,0,qS [zaa 2,zaa 3,Uaa 5] [(6,uab),(8,uab)],[(.ret,qS [Xaa 4] []),(.exit 0,qS [zaa 2,zaa 3,Uaa 5,Xaa 27] [(6,uab),(8,uab)])]⟩,⟨14,1,qS [zaa 2,zaa 3,Uaa 6] [(6,uab),(8,uab)],[(.ret,qS [Xaa 4] []),(.exit 2,qS [zaa 2,zaa 3,Uaa 6,Xaa 46] [(6,uab),(8,uab)])]⟩]⟩
def og:Ctr:=⟨22,78,[.agg uab,.agg uab],[],[⟨zab,[.one],[]⟩],ap4 jk⟩
theorem se:Lk 3 og:=ls z8 (aC i4 (aC mY aN))
def fP(a0:List (LLCn×LDTs))(a1:List (Bool))(a2:Int)(a3:Int)(a4:Int):Option (Bool×Unit):=
(gJ a0 a1 a2 a3 a4).bind λ(x0,x1,x2,x3,x4,x5,x6,x7,x8,x9,ac,ae,af,_)=>
(iv a0 a1 a2 a3 a4).bind λ(ah,aj,ak,am,an,ap,aq,au,av,aw,ax,ay,az,_)=>
(i5 a0 a1 a4).bind λ(aA,aB,aD,aE,_)=>
(jU a0 a1 a4).bind λ(aF,aG,aH,aI,_)=>
bif(af==az)then(bif(aE==aI)then((fN x0 x1 x2 x3 x4 x5 x6 x7 x8 x9 ac ah aj ak am an ap aq au av aw ax).bind λ(aJ,_)=>
bif aJ then((fW ae ay).bind λ(aK,_)=>
bif aK then((jk aA aB aF aG).bind λ(aL,_)=>
bif aL then((fW aD aH).bind λ(aM,_)=>
some (aM,()))else
some (false,()))else
some (false,()))else
some (false,()))else
some (false,()))else
some (false,())
def yv:X.Cfg:=⟨E0,[lI,mH,oZ,qU,mI,m6,og],[],[]⟩
def rh:Ctr:=⟨11,79,[shU (yaa (.pair (yaa bZ) (yaa ch))),shU (yaa .bool),.agg Xab,shU I64],[],[⟨zab,[.one],[]⟩],ap5 fP⟩
theorem xL:Lk 10 rh:=ls yv (aC oT (aC qt (aC vu (aC xw (aC qu (aC sO (aC se aN)))))))
def gK(a0:List LDCn)(a1:LDTs):Option (Bool×Unit):=
(ga a0 a1).bind λ(x0,_)=>
some (x0,())
def vO:X.Cfg:=⟨E0,[je],[],[]⟩
def o8:Ctr:=⟨28,80,[.agg uab],[],[⟨zab,[.one],[]⟩],ap2 gK⟩
theorem vA:Lk 6 o8:=ls vO (aC lE aN)
def eW:T1M->Option (T1M⊕(Int×T1L)):=λ(v0,v1,v2,v3,v4,v5,_)=>
bif(decide (v1<v0))then((cl v1).bind λx0=>
(bV v4 x0).bind λx1=>
(bV v4 x0).bind λx2=>
(iV v2 v3 x2.1 x2.2).bind λ(x3,x4,x5,x6,x7,x8,x9,ac,ae,af,ah,_)=>
let aj:List (Int×Int×LDCn×Int×Int×Int×Int×Int×Int×Int×LDCn):=[(x3,(x4,(x5,(x6,(x7,(x8,(x9,(ac,(ae,(af,ah))))))))))];
bif(b6 120 v5.length aj.length)then let ak:List (Int×Int×LDCn×Int×Int×Int×Int×Int×Int×Int×LDCn):=(List.append v5 aj);
let am:=w64 (v1+1);
some (.inl (v0,am,v2,v3,v4,ak,()))else none)else
some (.inr (v0,v1,false,v2,v3,v4,v5,()))
def gZ(a0:List LDCn)(a1:LDTs):Option (T1z):=
(ga a0 a1).bind λ(x0,_)=>
bif(!x0)then(some ([],1,()))else
(eM a0 a1).bind λ(x1,_)=>
let x2:=bJ a1.length;
(dA x1 x2).bind λ(x3,x4,_)=>
let x5:=bJ x3.length;
(bM eW NN (x5,0,a0,a1,x3,[],())).bind λ(x6,x7,x8,x9,ac,ae,af,_)=>
some (af,0,())
def B1:X.Cfg:=⟨E0,[je,iL,jw,pK],[(31,(.pair I64 (.pair I64 (.pair (uaa KCn) nq)))),(32,(.pair I64 (.pair I64 (.pair (uaa KCn) nq))))],[(lx 8 0 [zaa 1,Zaa 6 15,Zaa 21 11,Uaa 22,Uaa 23] [(4,uab),(11,yab),(15,[shU (uaa (.pair I64 (.pair I64 (.pair bZ ch))))])] 24)]⟩
def u7:Ctr:=⟨61,81,[.agg uab],[],[⟨[shU (uaa (.pair I64 (.pair I64 (.pair bZ ch)))),shU I64],[.one,.one],[]⟩],ap2 gZ⟩
theorem BM:Lk 6 u7:=ls B1 (aC lE (aC j5 (aC lf (aC uq aN))))
def dq:LI×T0l->Option ((LI×T0l)⊕((Bool×Unit)⊕(LI×T0x))):=λ(v0,v1,v2,v3,_)=>
bif(decide (v3<v2))then((cl v3).bind λx0=>
(bV v0 x0).bind λx1=>
(cl v3).bind λx2=>
(bV v1 x2).bind λx3=>
bif(x1 != x3)then(some (.inr (.inl (false,()))))else
let x4:=w64 (v3+1);
some (.inl (v0,v1,v2,x4,())))else
some (.inr (.inr (v0,v1,v2,v3,false,())))
def gi(a0:List (Int))(a1:List (Int)):Option (Bool×Unit):=
let x0:=bJ a0.length;
let x1:=bJ a1.length;
bif(x0 != x1)then(some (false,()))else
let x2:=bJ a0.length;
(match bM dq NN (a0,a1,x2,0,())with
|none=>none
|some (.inl (x3,_))=>
some (x3,())
|some (.inr (x3,_))=>
some (true,()))
def qA:X.Cfg:=⟨E0,[],[],[⟨6,0,qS [sP 0 RI,sP 1 RI,Uaa 12,Uaa 13] [],[(.ret,qS [Xaa 4] []),(.exit 0,qS [sP 0 RI,sP 1 RI,Uaa 12,Uaa 13,Xaa 14] [])]⟩]⟩
def ln:Ctr:=⟨62,82,uL [RI,RI],[],[⟨zab,[.one],[]⟩],ap2 gi⟩
theorem qq:Lk 1 ln:=ls qA aN
def cQ:LDCn×LDCn×T02->Option ((LDCn×LDCn×T02)⊕((Bool×Unit)⊕(LDCn×LDCn×T0d))):=λ(v0,v1,v2,v3,_)=>
bif(decide (v3<v2))then((cl v3).bind λx0=>
(bV v0 x0).bind λx1=>
(cl v3).bind λx2=>
(bV v1 x2).bind λx3=>
let x4:Bool:=(!((x1.1==x3.1)&&((x1.2.1==x3.2.1)&&((x1.2.2.1==x3.2.2.1)&&((x1.2.2.2==x3.2.2.2)&&true)))));
bif x4 then(some (.inr (.inl (false,()))))else
let x5:=w64 (v3+1);
some (.inl (v0,v1,v2,x5,())))else
some (.inr (.inr (v0,v1,v2,v3,false,())))
def dO(a0:LDCn)(a1:LDCn):Option (Bool×Unit):=
let x0:=bJ a0.length;
let x1:=bJ a1.length;
bif(x0 != x1)then(some (false,()))else
let x2:=bJ a0.length;
(match bM cQ NN (a0,a1,x2,0,())with
|none=>none
|some (.inl (x3,_))=>
some (x3,())
|some (.inr (x3,_))=>
some (true,()))
def oR:X.Cfg:=⟨E0,[],[],[⟨6,0,qS [sP 0 bZ,sP 1 bZ,Uaa 12,Uaa 13] [],[(.ret,qS [Xaa 4] []),(.exit 0,qS [sP 0 bZ,sP 1 bZ,Uaa 12,Uaa 13,Xaa 14] [])]⟩]⟩
def jQ:Ctr:=⟨96,83,uL [bZ,bZ],[],[⟨zab,[.one],[]⟩],ap2 dO⟩
theorem oP:Lk 1 jQ:=ls oR aN
def jZ(a0:Int)(a1:Int)(a2:LDCn)(a3:Int)(a4:Int)(a5:Int)(a6:Int)(a7:Int)(a8:Int)(a9:Int)(a10:LDCn)(a11:Int)(a12:Int)(a13:LDCn)(a14:Int)(a15:Int)(a16:Int)(a17:Int)(a18:Int)(a19:Int)(a20:Int)(a21:LDCn):Option (Bool×Unit):=
bif((a0==a11)&&((a1==a12)&&true))then((dO a2 a13).bind λ(x0,_)=>
bif x0 then(bif(a3==a14)then(bif(a4==a15)then(bif(a5==a16)then(bif(a6==a17)then(bif(a7==a18)then(bif(a8==a19)then(bif(a9==a20)then((dO a10 a21).bind λ(x1,_)=>
some (x1,()))else
some (false,()))else
some (false,()))else
some (false,()))else
some (false,()))else
some (false,()))else
some (false,()))else
some (false,()))else
some (false,()))else
some (false,())
def yp:X.Cfg:=⟨E0,[jQ],[],[]⟩
def rb:Ctr:=⟨63,84,[.agg Zac,.agg Zac],[],[⟨zab,[.one],[]⟩],ap22 jZ⟩
theorem xG:Lk 2 rb:=ls yp (aC oP aN)
def cV:T2d->Option (T2d⊕(Int×T2c)):=λ(v0,v1,v2,v3,v4,_)=>
bif(decide (v1<v0))then(((cl v1).bind λx0=>
(bV v2 x0).bind λx1=>
(bV v2 x0).bind λx2=>
(cl v1).bind λx3=>
(bV v3 x3).bind λx4=>
(bV v3 x3).bind λx5=>
(jZ x2.1 x2.2.1 x2.2.2.1 x2.2.2.2.1 x2.2.2.2.2.1 x2.2.2.2.2.2.1 x2.2.2.2.2.2.2.1 x2.2.2.2.2.2.2.2.1 x2.2.2.2.2.2.2.2.2.1 x2.2.2.2.2.2.2.2.2.2.1 x2.2.2.2.2.2.2.2.2.2.2 x5.1 x5.2.1 x5.2.2.1 x5.2.2.2.1 x5.2.2.2.2.1 x5.2.2.2.2.2.1 x5.2.2.2.2.2.2.1 x5.2.2.2.2.2.2.2.1 x5.2.2.2.2.2.2.2.2.1 x5.2.2.2.2.2.2.2.2.2.1 x5.2.2.2.2.2.2.2.2.2.2).bind λ(x6,_)=>
bif(!x6)then((cl v1).bind λx7=>
(bV v2 x7).bind λx8=>
(bV v2 x7).bind λx9=>
let ac:LDCe:=[(x9.1,x9.2.1)];
bif(b6 16 v4.length ac.length)then let ae:LDCe:=(List.append v4 ac);
some (v0,v1,v2,v3,ae,())else none)else
some (v0,v1,v2,v3,v4,()):Option (T2d)).bind λ(x0,x1,x2,x3,x4,_)=>
let x5:=w64 (x1+1);
some (.inl (x0,x5,x2,x3,x4,())))else
some (.inr (v0,v1,false,v2,v3,v4,()))
def dC(a0:List LDCn)(a1:LDTs)(a2:List LDCn)(a3:LDTs):Option (T05):=
(gZ a0 a1).bind λ(x0,x1,_)=>
(gZ a2 a3).bind λ(x2,x3,_)=>
(bif(x1 != 0)then(some (true,x0,x2,()))else
bif(x3 != 0)then(some (true,x0,x2,()))else
(eM a0 a1).bind λ(x4,_)=>
(eM a2 a3).bind λ(x5,_)=>
(gi x4 x5).bind λ(x6,_)=>
bif(!x6)then(some (true,x0,x2,()))else
let x7:=bJ a1.length;
let x8:=bJ a3.length;
some ((x7 != x8),x0,x2,()):Option (Bool×(List (Int×Int×LDCn×Int×Int×Int×Int×Int×Int×Int×LDCn))×(List (Int×Int×LDCn×Int×Int×Int×Int×Int×Int×Int×LDCn))×Unit)).bind λ(x4,x5,x6,_)=>
bif x4 then(some ([],1,()))else
let x7:=bJ x5.length;
(bM cV NN (x7,0,x5,x6,[],())).bind λ(x8,x9,ac,ae,af,ah,_)=>
some (ah,0,())
def uB:X.Cfg:=⟨E0,[u7,iL,ln,rb],[],[⟨4,0,qE,[(.normal,(qS [Zaa 6 15,Zaa 8 19,Xaa 44] [(15,[shU (uaa (.pair I64 (.pair I64 (.pair bZ ch))))]),(19,[shU (uaa (.pair I64 (.pair I64 (.pair bZ ch))))])]))]⟩,⟨12,1,qE,[(.normal,(qS [Zaa 6 15,Zaa 8 19,Zaa 10 23,Uaa 46,Uaa 47] [(15,[shU (uaa (.pair I64 (.pair I64 (.pair bZ ch))))]),(19,[shU (uaa (.pair I64 (.pair I64 (.pair bZ ch))))]),(23,yab)]))]⟩,(lx 9 2 [Zaa 6 15,Zaa 8 19,Zaa 10 23,Uaa 46,Uaa 47] [(15,[shU (uaa (.pair I64 (.pair I64 (.pair bZ ch))))]),(19,[shU (uaa (.pair I64 (.pair I64 (.pair bZ ch))))]),(23,yab)] 48)]⟩
def kN:Ctr:=⟨29,85,[.agg uab,.agg uab],[],[⟨zaf,[.one,.one],[]⟩],ap4 dC⟩
theorem nS:Lk 7 kN:=ls uB (aC BM (aC j5 (aC qq (aC xG aN))))
def dV:T1E->Option (T1E⊕(Int×Int×Int×Int×Bool×T1q)):=λ(v0,v1,v2,v3,v4,v5,v6,v7,v8,v9,v10,v11,v12,_)=>
bif(decide (v3<v2))then((cl v3).bind λx0=>
(bV v12 x0).bind λx1=>
(bV v12 x0).bind λx2=>
(cl x2).bind λx3=>
(cl x2).bind λx4=>
bif(gk x3 x4 4)then let x5:LDCn:=(List.replicate x3 (0,(0,(0,0))));
bif(b6 24 v10.length (List.length [x5]))then let x6:List LDCn:=(List.append v10 [x5]);
let x7:=w64 (v3+1);
some (.inl (v0,v1,v2,x7,v4,v5,v6,v7,v8,v9,x6,v11,v12,()))else none else none)else
some (.inr (v0,v1,v2,v3,false,v4,v5,v6,v7,v8,v9,v10,v11,v12,()))
def cK(a0:List LDCn)(a1:LDTs)(a2:List LDCn)(a3:LDTs)(a4:Int)(a5:Int):Option (T18⊕T18):=
(gK a2 a3).bind λ(x0,_)=>
bif(!x0)then(some (.inl (0,0,[],[],[],0,1,())))else
(dC a0 a1 a2 a3).bind λ(x1,x2,_)=>
bif(x2==0)then((eX a0 a1).bind λ(x3,x4,_)=>
some (.inl (a4,a5,x3,x4,x1,0,0,())))else
let x3:=bJ a3.length;
(cl x3).bind λx4=>
(cl x3).bind λx5=>
bif(gk x4 x5 8)then let x6:LDTs:=(List.replicate x4 (0,(0,(0,(0,(0,(0,(0,[]))))))));
(eM a2 a3).bind λ(x7,_)=>
let x8:=bJ x7.length;
(bM dV NN (a4,a5,x8,0,0,0,(),(),(),0,[],x6,x7,())).bind λ(x9,ac,ae,af,ah,aj,ak,am,an,ap,aq,au,av,aw,_)=>
let ax:=bJ av.length;
(dA aw ax).bind λ(ay,az,_)=>
some (.inr (x9,ac,au,av,ay,0,0,()))else none
def vF:X.Cfg:=⟨E0,[o8,kN,jf,iL,jw],[(39,nq),(53,(uaa KCn)),(54,(uaa KCn))],[(lx 12 0 [Uaa 2,Uaa 3,zaa 8,zaa 12,Zaa 13 29,Zaa 43 29,Uaa 44,Uaa 45] [(18,zae),(26,Uac),(29,uac)] 46)]⟩
def o4:Ctr:=⟨8,86,[.agg uab,.agg uab,shU I64,shU I64],[],[⟨uL [I64,I64,(uaa (uaa KCn)),(uaa ch),(uaa (.pair I64 I64)),I64,I64],[.agg 6,.one],[]⟩,⟨zah,[.agg 6,.one],[]⟩],ap6 cK⟩
theorem vv:Lk 8 o4:=ls vF (aC vA (aC nS (aC lF (aC j5 (aC lf aN)))))
def d7:T0m->Option (T0m⊕((Bool×Unit)⊕(LI×LI×T01))):=λ(v0,v1,v2,_)=>
let x0:=bJ v0.length;
bif(decide (v2<x0))then((cl v2).bind λx1=>
(bV v0 x1).bind λx2=>
(cl v2).bind λx3=>
(bV v1 x3).bind λx4=>
bif(x2 != x4)then(some (.inr (.inl (false,()))))else
let x5:=w64 (v2+1);
some (.inl (v0,v1,x5,())))else
some (.inr (.inr (v0,v1,v2,false,())))
def gV(a0:List (Int))(a1:List (Int)):Option (Bool×Unit):=
let x0:=bJ a0.length;
let x1:=bJ a1.length;
bif(x0 != x1)then(some (false,()))else
(match bM d7 NN (a0,a1,0,())with
|none=>none
|some (.inl (x2,_))=>
some (x2,())
|some (.inr (x2,_))=>
some (true,()))
def sX:X.Cfg:=⟨E0,[],[],[⟨6,0,qS [sP 0 RI,sP 1 RI,Uaa 5] [],[(.ret,qS [Xaa 4] []),(.exit 0,qS [sP 0 RI,sP 1 RI,Uaa 5,Xaa 14] [])]⟩]⟩
def m7:Ctr:=⟨72,87,uL [RI,RI],[],[⟨zab,[.one],[]⟩],ap2 gV⟩
theorem sQ:Lk 1 m7:=ls sX aN
def eV:T1K->Option (T1K⊕T1L):=λ(v0,v1,v2,v3,v4,_)=>
let x0:=bJ v3.length;
bif(decide (v0<x0))then((cl v0).bind λx1=>
(bV v3 x1).bind λx2=>
(bV v3 x1).bind λx3=>
(dJ v1 v2 x3.1 x3.2).bind λ(x4,x5,x6,x7,x8,x9,ac,ae,af,ah,aj,ak,_)=>
let am:List (Int×Int×LDCn×Int×Int×Int×Int×Int×Int×Int×LDCn):=[(x4,(x5,(x6,(x7,(x8,(x9,(ac,(ae,(af,(ah,aj))))))))))];
bif(b6 120 v4.length am.length)then let an:List (Int×Int×LDCn×Int×Int×Int×Int×Int×Int×Int×LDCn):=(List.append v4 am);
let ap:=w64 (v0+1);
some (.inl (ap,v1,v2,v3,an,()))else none)else
some (.inr (v0,false,v1,v2,v3,v4,()))
def kv(a0:List LDCn)(a1:LDTs):Option (T1z):=
(dS a0 a1).bind λ(x0,_)=>
let x1:=bJ a1.length;
(eJ x0 x1).bind λ(x2,x3,_)=>
bif(x3 != 0)then(some ([],1,()))else
(bM eV NN (0,a0,a1,x2,[],())).bind λ(x4,x5,x6,x7,x8,x9,_)=>
some (x9,0,())
def BX:X.Cfg:=⟨E0,[gx,jv,kL],[(38,(.pair I64 (.pair I64 (.pair (uaa KCn) nq)))),(39,(.pair I64 (.pair I64 (.pair (uaa KCn) nq))))],[(lx 8 0 [zaa 1,Zaa 4 11,Zaa 6 15,Uaa 7] [(4,uab),(11,yab),(15,[shU (uaa (.pair I64 (.pair I64 (.pair (uaa KCn) ch))))])] 24)]⟩
def u5:Ctr:=⟨73,88,[.agg uab],[],[⟨[shU (uaa (.pair I64 (.pair I64 (.pair (uaa KCn) ch)))),shU I64],[.one,.one],[]⟩],ap2 kv⟩
theorem BL:Lk 4 u5:=ls BX (aC iG (aC ld (aC mB aN)))
def cT:T2b->Option (T2b⊕T2c):=λ(v0,v1,v2,v3,_)=>
let x0:=bJ v1.length;
bif(decide (v0<x0))then(((cl v0).bind λx1=>
(bV v1 x1).bind λx2=>
(bV v1 x1).bind λx3=>
(cl v0).bind λx4=>
(bV v2 x4).bind λx5=>
(bV v2 x4).bind λx6=>
(bV v1 x1).bind λx7=>
(bV v2 x4).bind λx8=>
(fN x3.1 x3.2.1 x7.2.2.1 x3.2.2.2.1 x3.2.2.2.2.1 x3.2.2.2.2.2.1 x3.2.2.2.2.2.2.1 x3.2.2.2.2.2.2.2.1 x3.2.2.2.2.2.2.2.2.1 x3.2.2.2.2.2.2.2.2.2.1 x3.2.2.2.2.2.2.2.2.2.2 x6.1 x6.2.1 x8.2.2.1 x6.2.2.2.1 x6.2.2.2.2.1 x6.2.2.2.2.2.1 x6.2.2.2.2.2.2.1 x6.2.2.2.2.2.2.2.1 x6.2.2.2.2.2.2.2.2.1 x6.2.2.2.2.2.2.2.2.2.1 x6.2.2.2.2.2.2.2.2.2.2).bind λ(x9,_)=>
bif(!x9)then((cl v0).bind λac=>
(bV v1 ac).bind λae=>
(bV v1 ac).bind λaf=>
let ah:LDCe:=[(af.1,af.2.1)];
bif(b6 16 v3.length ah.length)then let aj:LDCe:=(List.append v3 ah);
some (v0,v1,v2,aj,())else none)else
some (v0,v1,v2,v3,()):Option (T2b)).bind λ(x1,x2,x3,x4,_)=>
let x5:=w64 (x1+1);
some (.inl (x5,x2,x3,x4,())))else
some (.inr (v0,false,v1,v2,v3,()))
def du(a0:List LDCn)(a1:LDTs)(a2:List LDCn)(a3:LDTs):Option (T05):=
((eU a0 a1).bind λ(x0,_)=>
bif(!x0)then(some (true,a0,a1,a2,a3,()))else
(eU a2 a3).bind λ(x1,_)=>
bif(!x1)then(some (true,a0,a1,a2,a3,()))else
(dS a0 a1).bind λ(x2,_)=>
(dS a2 a3).bind λ(x3,_)=>
(gV x2 x3).bind λ(x4,_)=>
bif(!x4)then(some (true,a0,a1,a2,a3,()))else
let x5:=bJ a1.length;
let x6:=bJ a3.length;
some ((x5 != x6),a0,a1,a2,a3,()):Option (T0E)).bind λ(x0,x1,x2,x3,x4,_)=>
bif x0 then(some ([],1,()))else
(kv x1 x2).bind λ(x5,x6,_)=>
(kv x3 x4).bind λ(x7,x8,_)=>
(bM cT NN (0,x5,x7,[],())).bind λ(x9,ac,ae,af,ah,_)=>
some (ah,0,())
def uz:X.Cfg:=⟨E0,[jd,gx,m7,u5,mI],[],[⟨2,0,qE,[(.normal,qS [zaa 2,zaa 3,Xaa 36] [(6,uab),(8,uab)])]⟩,⟨12,1,qE,[(.normal,(qS [Zaa 6 15,Zaa 8 19,Zaa 10 23,Uaa 11] [(15,[shU (uaa (.pair I64 (.pair I64 (.pair (uaa KCn) ch))))]),(19,[shU (uaa (.pair I64 (.pair I64 (.pair (uaa KCn) ch))))]),(23,yab)]))]⟩,(lx 9 2 [Zaa 6 15,Zaa 8 19,Zaa 10 23,Uaa 11] [(15,[shU (uaa (.pair I64 (.pair I64 (.pair (uaa KCn) ch))))]),(19,[shU (uaa (.pair I64 (.pair I64 (.pair (uaa KCn) ch))))]),(23,yab)] 50)]⟩
def kK:Ctr:=⟨34,89,[.agg uab,.agg uab],[],[⟨zaf,[.one,.one],[]⟩],ap4 du⟩
theorem nO:Lk 5 kK:=ls uz (aC lD (aC iG (aC sQ (aC BL (aC qu aN)))))
def c9:T1H->Option (T1H⊕(Int×Int×Int×Bool×T1w)):=λ(v0,v1,v2,v3,v4,v5,v6,v7,v8,v9,v10,v11,v12,v13,_)=>
let x0:=bJ v3.length;
bif(decide (v2<x0))then((cl v2).bind λx1=>
(bV v3 x1).bind λx2=>
let x3:=bJ x2.length;
(cl x3).bind λx4=>
(cl x3).bind λx5=>
bif(gk x4 x5 4)then let x6:LDCn:=(List.replicate x4 (0,(0,(0,0))));
bif(b6 24 v12.length (List.length [x6]))then let x7:List LDCn:=(List.append v12 [x6]);
let x8:=w64 (v2+1);
some (.inl (v0,v1,x8,v3,v4,v5,v6,v7,v8,v9,v10,v11,x7,v13,()))else none else none)else
some (.inr (v0,v1,v2,false,v3,v4,v5,v6,v7,v8,v9,v10,v11,v12,v13,()))
def cF(a0:List LDCn)(a1:LDTs)(a2:List LDCn)(a3:LDTs)(a4:Int)(a5:Int):Option (T18):=
(eU a2 a3).bind λ(x0,_)=>
bif(!x0)then(some (0,0,[],[],[],0,1,()))else
(du a0 a1 a2 a3).bind λ(x1,x2,_)=>
bif(x2==0)then((gn a0 a1).bind λ(x3,x4,_)=>
some (a4,a5,x3,x4,x1,0,0,()))else
(dS a2 a3).bind λ(x3,_)=>
let x4:=bJ a3.length;
(eJ x3 x4).bind λ(x5,x6,_)=>
let x7:=bJ a3.length;
(cl x7).bind λx8=>
(cl x7).bind λx9=>
bif(gk x8 x9 8)then let ac:LDTs:=(List.replicate x8 (0,(0,(0,(0,(0,(0,(0,[]))))))));
(bM c9 NN (a4,a5,0,a2,a3,0,0,(),(),(),0,x5,[],ac,())).bind λ(ae,af,ah,aj,ak,am,an,ap,aq,au,av,aw,ax,ay,az,_)=>
some (ae,af,ay,az,ax,0,0,())else none
def ya:X.Cfg:=⟨E0,[jd,kK,oh,gx,jv],[(44,nq),(62,(uaa KCn)),(63,(uaa KCn))],[(lx 12 0 [Uaa 2,Uaa 3,zaa 5,zaa 8,Zaa 10 23,zaa 12,Uaa 13] [(12,uab),(18,zae),(23,yab),(26,Uac)] 50)]⟩
def qV:Ctr:=⟨9,90,[.agg uab,.agg uab,shU I64,shU I64],[],[⟨zah,[.agg 6,.one],[]⟩],ap6 cF⟩
theorem xx:Lk 6 qV:=ls ya (aC lD (aC nO (aC sf (aC iG (aC ld aN)))))
def cS:LDCe×T05->Option ((LDCe×T05)⊕((Bool×Unit)⊕(LDCe×LDCe×T01))):=λ(v0,v1,v2,_)=>
let x0:=bJ v0.length;
bif(decide (v2<x0))then((cl v2).bind λx1=>
(bV v0 x1).bind λx2=>
(cl v2).bind λx3=>
(bV v1 x3).bind λx4=>
bif(!((x2.1==x4.1)&&((x2.2==x4.2)&&true)))then(some (.inr (.inl (false,()))))else
let x5:=w64 (v2+1);
some (.inl (v0,v1,x5,())))else
some (.inr (.inr (v0,v1,v2,false,())))
def kU(a0:LDCe)(a1:LDCe):Option (Bool×Unit):=
let x0:=bJ a0.length;
let x1:=bJ a1.length;
bif(x0 != x1)then(some (false,()))else
(match bM cS NN (a0,a1,0,())with
|none=>none
|some (.inl (x2,_))=>
some (x2,())
|some (.inr (x2,_))=>
some (true,()))
def z6:X.Cfg:=⟨E0,[],[],[⟨6,0,qS [sP 0 (yaa (.pair I64 I64)),sP 1 (yaa (.pair I64 I64)),Uaa 5] [],[(.ret,qS [Xaa 4] []),(.exit 0,qS [sP 0 (yaa (.pair I64 I64)),sP 1 (yaa (.pair I64 I64)),Uaa 5,Xaa 14] [])]⟩]⟩
def sy:Ctr:=⟨37,91,Uaf,[],[⟨zab,[.one],[]⟩],ap2 kU⟩
theorem zM:Lk 1 sy:=ls z6 aN
def dU(a0:Int)(a1:Int)(a2:List LDCn)(a3:LDTs)(a4:LDCe)(a5:Int)(a6:Int)(a7:Int)(a8:List LDCn)(a9:LDTs)(a10:LDCe)(a11:Int):Option (Bool×Unit):=
bif(a0==a6)then(bif(a1==a7)then(bif(a5==a11)then((kU a4 a10).bind λ(x0,_)=>
bif x0 then((jk a2 a3 a8 a9).bind λ(x1,_)=>
some (x1,()))else
some (false,()))else
some (false,()))else
some (false,()))else
some (false,())
def zX:X.Cfg:=⟨E0,[sy,og],[],[]⟩
def od:Ctr:=⟨10,92,[.agg yac,.agg yac],[],[⟨zab,[.one],[]⟩],ap12 dU⟩
theorem sd:Lk 4 od:=ls zX (aC zM (aC se aN))
def cM(a0:LDCe):Option (LDCe×Unit):=
bif(b6 16 0 a0.length)then let x0:LDCe:=(List.append [] a0);
some (x0,())else none
def nW:X.Cfg:=⟨E0,[],[],[]⟩
def gr:Ctr:=⟨84,93,Zae,[],[⟨yab,[.one],[]⟩],ap1 cM⟩
theorem js:Lk 1 gr:=ls nW aN
def jn(a0:Int)(a1:Int)(a2:List LDCn)(a3:LDTs)(a4:LDCe)(a5:Int):Option (T0S):=
(eX a2 a3).bind λ(x0,x1,_)=>
(cM a4).bind λ(x2,_)=>
some (a0,a1,x0,x1,x2,a5,())
def Ah:X.Cfg:=⟨E0,[jf,gr],[],[]⟩
def ol:Ctr:=⟨48,94,[.agg yac],[],[⟨uL [I64,I64,(uaa (uaa KCn)),(uaa ch),(uaa (.pair I64 I64)),I64],[.agg 6],[]⟩],ap6 jn⟩
theorem si:Lk 4 ol:=ls Ah (aC lF (aC js aN))
def iQ:Ctr:=⟨87,95,uL [(yaa (yaa (.pair I64 I64)))],[],[⟨Zae,[.one],[]⟩],ap1 dg⟩
theorem ne:Lvl E0 TT libBj 1 iQ:=(BD (FD rfl) lA).mono (by decide)
def jx:Ctr:=⟨85,96,[.fn 86 [],shU (yaa (.pair I64 I64))],[],[⟨Zae,[.one],[]⟩],ap1 dB⟩
theorem nR:Lvl E0 TT libBj 1 jx:=(BD (FD rfl) lW).mono (by decide)
def j3(a0:LDCe)(a1:LDCe):Option (LDCe×Unit):=
let x0:List LDCe:=[a0,a1];
(dg x0).bind λ(x1,_)=>
(dB x1).bind λ(x2,_)=>
some (x2,())
def yw:X.Cfg:=⟨E0,[iQ,jx],[(7,(uaa (.pair I64 I64)))],[]⟩
def ri:Ctr:=⟨49,97,Uaf,[],[⟨Zae,[.one],[]⟩],ap2 j3⟩
theorem xM:Lk 2 ri:=ls yw (aC ne (aC nR aN))
def gU(a0:Int)(a1:Int)(a2:List LDCn)(a3:LDTs)(a4:LDCe)(a5:Int)(a6:List LDCn)(a7:LDTs)(a8:List LDCn)(a9:LDTs):Option (T18):=
(jn a0 a1 a2 a3 a4 a5).bind λ(x0,x1,x2,x3,x4,x5,_)=>
(dC a6 a7 a8 a9).bind λ(x6,x7,_)=>
bif(x7 != 0)then(some (x0,x1,x2,x3,x4,x5,x7,()))else
(j3 x4 x6).bind λ(x8,_)=>
some (x0,x1,x2,x3,x8,x5,0,())
def sU:X.Cfg:=⟨E0,[ol,kN,ri],[],[]⟩
def mZ:Ctr:=⟨20,98,[.agg yac,.agg uab,.agg uab],[],[⟨uL [I64,I64,(uaa (uaa KCn)),(uaa ch),(yaa (.pair I64 I64)),I64,I64],[.agg 6,.one],[]⟩],ap10 gU⟩
theorem sM:Lk 8 mZ:=ls sU (aC si (aC nS (aC xM aN)))
def jW(a0:Int)(a1:Int)(a2:Int)(a3:Int):Option (Bool×Unit):=
bif(!((a0==(-1))==(a2==(-1))))then(some ((a2==(-1)),()))else
bif(decide (a0<a2))then(some (true,()))else
bif(a0==a2)then(some ((decide (a1<a3)),()))else
some (false,())
def ye:X.Cfg:=⟨E0,[],[],[]⟩
def qY:Ctr:=⟨137,99,[.agg Xab,.agg Xab],[],[⟨zab,[.one],[]⟩],ap4 jW⟩
theorem xA:Lk 1 qY:=ls ye aN
def eR:LDCe×T0e->Option ((LDCe×T0e)⊕(LDCe×Int×T0a)):=λ(v0,v1,v2,v3,_)=>
let x0:=bJ v0.length;
bif(decide (v1<x0))then((cl v1).bind λx1=>
(bV v0 x1).bind λx2=>
(jW x2.1 x2.2 v2 v3).bind λ(x3,_)=>
bif x3 then(let x4:Int:=(w64 (v1+1));
some (.inl (v0,x4,v2,v3,())))else
some (.inr (v0,v1,false,v2,v3,())))else
some (.inr (v0,v1,false,v2,v3,()))
def kt(a0:LDCe)(a1:Int)(a2:Int):Option (LDCe×Unit):=
(bM eR NN (a0,0,a1,a2,())).bind λ(x0,x1,x2,x3,x4,_)=>
(match(let x5:Int:=(bJ x0.length);
bif(decide (x1<x5))then((cl x1).bind λx6=>
(bV x0 x6).bind λx7=>
bif((x7.1==x3)&&((x7.2==x4)&&true))then(some (.inl (x0,())))else
some (.inr (x0,x1,false,x3,x4,())))else
some (.inr (x0,x1,false,x3,x4,())):Option ((LDCe×Unit)⊕(LDCe×Int×T0a)))with
|none=>none
|some (.inl (x5,_))=>
some (x5,())
|some (.inr (x5,x6,x7,x8,x9,_))=>
(cl x6).bind λac=>
bif(df 0 ac x5.length)then let ae:LDCe:=(pO x5 0 (Nat.sub ac 0));
bif(b6 16 0 ae.length)then let af:LDCe:=(List.append [] ae);
let ah:LDCe:=[(x8,x9)];
bif(b6 16 af.length ah.length)then let aj:LDCe:=(List.append af ah);
(cl x6).bind λak=>
bif(df ak x5.length x5.length)then let am:LDCe:=(pO x5 ak (Nat.sub x5.length ak));
bif(b6 16 aj.length am.length)then let an:LDCe:=(List.append aj am);
some (an,())else none else none else none else none else none)
def BU:X.Cfg:=⟨E0,[qY],[],[(lx 3 0 [sP 0 (yaa (.pair I64 I64)),zaa 3,Uaa 5] [(8,Xab)] 18),⟨6,1,qE,[(.ret,qS [sP 4 (yaa (.pair I64 I64))] []),(.normal,qS [sP 0 (yaa (.pair I64 I64)),zaa 3,Uaa 5,Xaa 32] [(8,Xab)])]⟩]⟩
def u4:Ctr:=⟨111,100,[shU (yaa (.pair I64 I64)),.agg Xab],[],[⟨Zae,[.one],[]⟩],ap3 kt⟩
theorem BK:Lk 2 u4:=ls BU (aC xA aN)
def dH:LDCe×T0w->Option ((LDCe×T0w)⊕(LDCe×LDCe×LDCe×Int×Bool×Unit×Unit)):=λ(v0,v1,v2,v3,v4,_)=>
let x0:=bJ v0.length;
bif(decide (v3<x0))then((cl v3).bind λx1=>
(bV v0 x1).bind λx2=>
(kt v2 x2.1 x2.2).bind λ(x3,_)=>
let x4:=w64 (v3+1);
some (.inl (v0,v1,x3,x4,v4,())))else
some (.inr (v0,v1,v2,v3,false,v4,()))
def dG:T0w->Option (T0w⊕(LDCe×LDCe×Int×Bool×Unit×Unit)):=λ(v0,v1,v2,v3,_)=>
let x0:=bJ v0.length;
bif(decide (v2<x0))then((cl v2).bind λx1=>
(bV v0 x1).bind λx2=>
(kt v1 x2.1 x2.2).bind λ(x3,_)=>
let x4:=w64 (v2+1);
some (.inl (v0,x3,x4,v3,())))else
some (.inr (v0,v1,v2,false,v3,()))
def jV(a0:LDCe)(a1:LDCe):Option (LDCe×Unit):=
(bM dH NN (a0,a1,[],0,(),())).bind λ(x0,x1,x2,x3,x4,x5,_)=>
(bM dG NN (x1,x2,0,x5,())).bind λ(x6,x7,_)=>
some (x7,())
def yd:X.Cfg:=⟨E0,[u4],[],[(lx 4 0 [sP 0 (yaa (.pair I64 I64)),sP 1 (yaa (.pair I64 I64)),sP 5 (yaa (.pair I64 I64)),Uaa 6] [(13,uL [N0])] 11),⟨10,1,(qS [sP 1 (yaa (.pair I64 I64)),sP 5 (yaa (.pair I64 I64)),Uaa 7] [(13,uL [N0])]),[(.exit 2,(qS [sP 1 (yaa (.pair I64 I64)),sP 5 (yaa (.pair I64 I64)),Uaa 7,Xaa 23] [(13,uL [N0])]))]⟩]⟩
def qX:Ctr:=⟨81,101,Uaf,[],[⟨Zae,[.one],[]⟩],ap2 jV⟩
theorem xz:Lk 3 qX:=ls yd (aC BK aN)
def iu(a0:Int)(a1:Int)(a2:List LDCn)(a3:LDTs)(a4:LDCe)(a5:Int)(a6:List LDCn)(a7:LDTs)(a8:List LDCn)(a9:LDTs):Option (T18):=
(du a6 a7 a8 a9).bind λ(x0,x1,_)=>
bif(x1 != 0)then(some (a0,a1,a2,a3,a4,a5,x1,()))else
(jV a4 x0).bind λ(x2,_)=>
some (a0,a1,a2,a3,x2,a5,0,())
def ux:X.Cfg:=⟨E0,[kK,qX],[],[]⟩
def oe:Ctr:=⟨42,102,[.agg yac,.agg uab,.agg uab],[],[⟨Uah,[.agg 6,.one],[]⟩],ap10 iu⟩
theorem um:Lk 6 oe:=ls ux (aC nO (aC xz aN))
def kW(a0:LDCe)(a1:Int):Option (LDCe×LDCe×Unit):=
let x0:=bJ a0.length;
let x1:=mmR false a1 x0;
let x2:=mmR true 0 x1;
(cl x2).bind λx3=>
bif(df 0 x3 a0.length)then let x4:LDCe:=(pO a0 0 (Nat.sub x3 0));
(cM x4).bind λ(x5,_)=>
(cl x2).bind λx6=>
bif(df x6 a0.length a0.length)then let x7:LDCe:=(pO a0 x6 (Nat.sub a0.length x6));
(cM x7).bind λ(x8,_)=>
some (x5,x8,())else none else none
def Ag:X.Cfg:=⟨E0,[gr],[],[]⟩
def sC:Ctr:=⟨52,103,Xah,[],[⟨Zah,[.one,.one],[]⟩],ap2 kW⟩
theorem zP:Lk 2 sC:=ls Ag (aC js aN)
def cu:T23->Option (T23⊕(T25⊕T25)):=λ(v0,v1,v2,v3,v4,v5,v6,v7,v8,v9,v10,v11,v12,v13,v14,v15,v16,v17,v18,v19,v20,_)=>
bif(decide (v2<v1))then((cl v2).bind λx0=>
(bV v17 x0).bind λx1=>
(bV v17 x0).bind λx2=>
(iW v3 v4 x2.1 x2.2).bind λ(x3,x4,x5,x6,x7,x8,x9,ac,ae,af,ah,aj,_)=>
bif(aj==0)then((kw v19 v20 x3 x4 x5 x6 x7 x8 x9 ac ae af ah).bind λ(ak,am,an,_)=>
bif(an != 0)then(some (.inr (.inl (an,v1,v2,true,v3,v4,v5,v6,v7,v8,v9,v10,v11,v12,v13,v14,v15,v16,v17,v18,ak,am,()))))else
let ap:=w64 (v2+1);
some (.inl (an,v1,ap,v3,v4,v5,v6,v7,v8,v9,v10,v11,v12,v13,v14,v15,v16,v17,v18,ak,am,())))else
bif(aj != 0)then(some (.inr (.inl (aj,v1,v2,true,v3,v4,v5,v6,v7,v8,v9,v10,v11,v12,v13,v14,v15,v16,v17,v18,v19,v20,()))))else
let ak:=w64 (v2+1);
some (.inl (aj,v1,ak,v3,v4,v5,v6,v7,v8,v9,v10,v11,v12,v13,v14,v15,v16,v17,v18,v19,v20,())))else
some (.inr (.inr (v0,v1,v2,false,v3,v4,v5,v6,v7,v8,v9,v10,v11,v12,v13,v14,v15,v16,v17,v18,v19,v20,())))
def jT(a0:Int)(a1:Int)(a2:List LDCn)(a3:LDTs)(a4:LDCe)(a5:Int)(a6:List LDCn)(a7:LDTs)(a8:Int):Option (T18):=
(jn a0 a1 a2 a3 a4 a5).bind λ(x0,x1,x2,x3,x4,x5,_)=>
bif(decide (a8<0))then(some (x0,x1,x2,x3,x4,x5,6,()))else
(kW a4 a8).bind λ(x6,x7,_)=>
let x8:=bJ x6.length;
(match bM cu NN (0,x8,0,a6,a7,0,0,(),(),(),0,x0,x1,x2,x3,x4,x5,x6,x7,x2,x3,())with
|none=>none
|some (.inl (x9,ac,ae,af,ah,aj,ak,am,an,ap,aq,au,av,aw,ax,ay,az,aA,aB,aD,aE,aF,_))=>
bif(x9 != 0)then(some (av,aw,ax,ay,az,aA,x9,()))else
let aG:=bJ aB.length;
let aH:=w64 (aA+aG);
some (av,aw,aE,aF,aD,aH,0,())
|some (.inr (x9,ac,ae,af,ah,aj,ak,am,an,ap,aq,au,av,aw,ax,ay,az,aA,aB,aD,aE,aF,_))=>
bif(x9 != 0)then(some (av,aw,ax,ay,az,aA,x9,()))else
let aG:=bJ aB.length;
let aH:=w64 (aA+aG);
some (av,aw,aE,aF,aD,aH,0,()))
def xY:X.Cfg:=⟨E0,[ol,sC,pM,pL],[],[⟨10,0,qS [zaa 4,zaa 6,zaa 8,Zaa 9 21,Zaa 10 23,zaa 11,Uaa 12,Zaa 31 21,Uaa 32,Uaa 33] [(10,uab),(14,zae),(18,Xaf),(21,yab),(23,yab),(24,uab)],[(.exit 0,qS [zaa 4,zaa 6,zaa 8,Zaa 9 21,Zaa 10 23,zaa 11,Uaa 12,Zaa 31 21,Uaa 32,Uaa 33,Xaa 53] [(10,uab),(14,zae),(18,Xaf),(21,yab),(23,yab),(24,uab)]),(.exit 0,qS [zaa 4,zaa 6,zaa 8,Zaa 9 21,Zaa 10 23,zaa 11,Uaa 12,Zaa 31 21,Uaa 32,Uaa 33,Xaa 34] [(10,uab),(14,zae),(18,Xaf),(21,yab),(23,yab),(24,uab)])]⟩]⟩
def qT:Ctr:=⟨23,104,[.agg yac,.agg uab,shU I64],[],[⟨uL [I64,I64,(yaa bZ),(yaa ch),(uaa (.pair I64 I64)),I64,I64],[.agg 6,.one],[]⟩],ap9 jT⟩
theorem xu:Lk 8 qT:=ls xY (aC si (aC zP (aC ut (aC ur aN))))
def kT(a0:LDCe)(a1:Int):Option (LDCe×LDCe×Unit):=
let x0:=bJ a0.length;
let x1:=mmR false a1 x0;
let x2:=mmR true 0 x1;
(cl x2).bind λx3=>
bif(df 0 x3 a0.length)then let x4:LDCe:=(pO a0 0 (Nat.sub x3 0));
bif(b6 16 0 x4.length)then let x5:LDCe:=(List.append [] x4);
(cl x2).bind λx6=>
bif(df x6 a0.length a0.length)then let x7:LDCe:=(pO a0 x6 (Nat.sub a0.length x6));
bif(b6 16 0 x7.length)then let x8:LDCe:=(List.append [] x7);
some (x5,x8,())else none else none else none else none
def zZ:X.Cfg:=⟨E0,[],[],[]⟩
def sx:Ctr:=⟨82,105,Xah,[],[⟨Zah,[.one,.one],[]⟩],ap2 kT⟩
theorem zL:Lk 1 sx:=ls zZ aN
def cC:T29->Option (T29⊕(T17⊕(Int×Bool×T26))):=λ(v0,v1,v2,v3,v4,v5,v6,v7,v8,v9,v10,v11,v12,v13,v14,v15,v16,v17,v18,v19,v20,v21)=>
let x0:=bJ v15.length;
bif(decide (v0<x0))then((cl v0).bind λx1=>
(bV v15 x1).bind λx2=>
(bV v15 x1).bind λx3=>
(dJ v7 v8 x3.1 x3.2).bind λ(x4,x5,x6,x7,x8,x9,ac,ae,af,ah,aj,ak,_)=>
bif(ak != 0)then(some (.inr (.inl (ak,v1,v2,v3,v4,v5,v6,()))))else
(ku v19 v20 x4 x5 x6 x7 x8 x9 ac ae af ah aj).bind λ(am,an,ap,_)=>
bif(ap != 0)then(some (.inr (.inl (ap,v1,v2,v3,v4,v5,v6,()))))else
let aq:=w64 (v0+1);
some (.inl (aq,v1,v2,v3,v4,v5,v6,v7,v8,v9,v10,v11,v12,v13,v14,v15,v16,v17,v18,am,an,v21)))else
some (.inr (.inr (v0,false,v1,v2,v3,v4,v5,v6,v7,v8,v9,v10,v11,v12,v13,v14,v15,v16,v17,v18,v19,v20,v21)))
def kR(a0:Int)(a1:Int)(a2:List LDCn)(a3:LDTs)(a4:LDCe)(a5:Int)(a6:List LDCn)(a7:LDTs)(a8:Int):Option (T18):=
bif(decide (a8<0))then(some (a0,a1,a2,a3,a4,a5,6,()))else
(kT a4 a8).bind λ(x0,x1,_)=>
(match bM cC NN (0,a0,a1,a2,a3,a4,a5,a6,a7,0,0,(),(),(),0,x0,x1,a0,a1,a2,a3,a4,a5,())with
|none=>none
|some (.inl (x2,x3,x4,x5,x6,x7,x8,_))=>
some (x3,x4,x5,x6,x7,x8,x2,())
|some (.inr (x2,x3,x4,x5,x6,x7,x8,x9,ac,ae,af,ah,aj,ak,am,an,ap,aq,au,av,aw,ax,_))=>
let aA:=bJ ap.length;
let aB:=w64 (x9+aA);
some (au,av,aw,ax,aq,aB,0,()))
def zW:X.Cfg:=⟨E0,[sx,kL,pJ],[],[⟨8,0,qS [zaa 3,zaa 4,zaa 6,Zaa 8 19,Zaa 9 21,zaa 10,Uaa 11] [(8,yac),(10,uab),(14,zae),(19,yab),(21,yab),(22,yac)],[(.ret,qS [zaa 6,Uaa 7] [(14,yac)]),(.exit 0,qS [zaa 3,zaa 4,zaa 6,Zaa 8 19,Zaa 9 21,zaa 10,Uaa 11,Xaa 28] [(8,yac),(10,uab),(14,zae),(19,yab),(21,yab),(22,yac)])]⟩]⟩
def su:Ctr:=⟨43,106,[.agg yac,.agg uab,shU I64],[],[⟨Uah,[.agg 6,.one],[]⟩],ap9 kR⟩
theorem zJ:Lk 5 su:=ls zW (aC zL (aC mB (aC up aN)))
def iU(a0:Int)(a1:Int)(a2:List LDCn)(a3:LDTs)(a4:LDCe)(a5:Int):Option (Bool×Unit):=
let x0:=bJ a4.length;
some ((x0==0),())
def rL:X.Cfg:=⟨E0,[],[],[]⟩
def ma:Ctr:=⟨21,107,[.agg yac],[],[⟨zab,[.one],[]⟩],ap6 iU⟩
theorem rJ:Lk 1 ma:=ls rL aN
def jF(a0:Int)(a1:Int)(a2:List LDCn)(a3:LDTs)(a4:LDCe)(a5:Int):Option (Bool×Unit):=
let x0:=bJ a4.length;
some ((x0==0),())
def sV:X.Cfg:=⟨E0,[],[],[]⟩
def m0:Ctr:=⟨44,108,[.agg yac],[],[⟨zab,[.one],[]⟩],ap6 jF⟩
theorem sN:Lk 1 m0:=ls sV aN
def cD(a0:Int)(a1:Int)(a2:List LDCn)(a3:LDTs)(a4:LDCe)(a5:Int)(a6:List LDCn)(a7:LDTs)(a8:List LDCn)(a9:LDTs)(a10:Int):Option (Bool×Unit):=
(gU a0 a1 a2 a3 a4 a5 a6 a7 a8 a9).bind λ(x0,x1,x2,x3,x4,x5,x6,_)=>
(iu a0 a1 a2 a3 a4 a5 a6 a7 a8 a9).bind λ(x7,x8,x9,ac,ae,af,ah,_)=>
(jT a0 a1 a2 a3 a4 a5 a8 a9 a10).bind λ(aj,ak,am,an,ap,aq,au,_)=>
(kR a0 a1 a2 a3 a4 a5 a8 a9 a10).bind λ(av,aw,ax,ay,az,aA,aB,_)=>
bif(x6==ah)then(bif(au==aB)then((dU x0 x1 x2 x3 x4 x5 x7 x8 x9 ac ae af).bind λ(aD,_)=>
bif aD then((dU aj ak am an ap aq av aw ax ay az aA).bind λ(aE,_)=>
bif aE then((iU a0 a1 a2 a3 a4 a5).bind λ(aF,_)=>
(jF a0 a1 a2 a3 a4 a5).bind λ(aG,_)=>
some ((aF==aG),()))else
some (false,()))else
some (false,()))else
some (false,()))else
some (false,())
def s7:X.Cfg:=⟨E0,[mZ,oe,qT,su,od,ma,m0],[],[]⟩
def m9:Ctr:=⟨12,109,[.agg yac,.agg uab,.agg uab,shU I64],[],[⟨zab,[.one],[]⟩],ap11 cD⟩
theorem sS:Lk 9 m9:=ls s7 (aC sM (aC um (aC xu (aC zJ (aC sd (aC rJ (aC sN aN)))))))
def nB:T1J->Option (T1J⊕(Int×Int×Int×Bool×Bool×Bool×Bool×Bool×Int×T15)):=λ(v0,v1,v2,v3,v4,v5,v6,v7,v8,v9,v10,v11,v12,v13,_)=>
(ca 4 v12 v13).bind λ(x0,x1,x2,_)=>
let x3:=w64 (2+x0);
bif(decide (v8<x3))then((ca 3 x1 x2).bind λ(x4,x5,x6,_)=>
(zd v9 v10 x4 x5 x6).bind λ(x7,x8,x9)=>
let ae:List (LLCn×LDTs):=[(x7,x8)];
bif(b6 48 v11.length ae.length)then let af:List (LLCn×LDTs):=(List.append v11 ae);
let ah:=w64 (v8+1);
some (.inl (v0,v1,v2,v3,v4,v5,v6,v7,ah,v9,v10,af,x9))else none)else
some (.inr (v0,v1,v2,v3,v4,v5,v6,v7,v8,false,v9,v10,v11,x1,x2,()))
def CN(a0:List (Int))(a1:Bool)(a2:Bool)(a3:Bool)(a4:Bool)(a5:Bool)(a6:Int)(a7:Int)(a8:Int):Option (Bool×Unit):=
(IY a0).bind λ(x0,_)=>
bif(!x0)then((dn).bind λ(x1,_)=>
some (x1,()))else
(wW a0 0).bind λ(x1,x2,x3)=>
(bM nB NN (a6,a7,a8,a1,a2,a3,a4,a5,0,x1,x2,[],x3)).bind λ(x5,x6,x7,x8,x9,ac,ae,af,ah,aj,ak,am,an,ap,aq,_)=>
(let au:=wk .i64 x5;
let av:=bJ an.length;
bif(decide (au<av))then((cl au).bind λaw=>
(bV an aw).bind λax=>
(bV an aw).bind λay=>
(A8 ay.1 ay.2 ap aq).bind λ(az,aA,aB,aD,_)=>
(cl au).bind λaE=>
(bV an aE).bind λaF=>
(bV an aE).bind λaG=>
let aH:=List.modify an aE λe=>(az,aA);
some (x6,x7,x8,x9,ac,ae,af,ak,am,aH,aB,aD,()))else
some (x6,x7,x8,x9,ac,ae,af,ak,am,an,ap,aq,()):Option (Int×Int×Bool×Bool×Bool×Bool×T15)).bind λ(au,av,aw,ax,ay,az,aA,aB,aD,aE,aF,aG,_)=>
(ca 5 aF aG).bind λ(aH,aI,aJ,_)=>
let aK:=w64 (aH-1);
(ca 3 aI aJ).bind λ(aL,_)=>
let aP:=bJ aE.length;
(cl aP).bind λaQ=>
bif(df 0 aQ 5)then let aR:List (Bool):=(pO [aw,ax,ay,az,aA] 0 aQ);
(td au 5).bind λ(aS,_)=>
let aT:=w64 (1+aS);
(fP aE aR aK aL aT).bind λ(aU,_)=>
bif(!aU)then(some (false,()))else
(bV aE 0).bind λaV=>
(bV aE 0).bind λaW=>
(bV aE 1).bind λaY=>
(bV aE 1).bind λaZ=>
(match cK aW.1 aW.2 aZ.1 aZ.2 2 3 with
|none=>none
|some (.inl (ba,bc,bd,be,bf,bg,bh,_))=>
(bV aE 0).bind λbi=>
(bV aE 0).bind λbj=>
(bV aE 1).bind λbk=>
(bV aE 1).bind λbl=>
(cF bj.1 bj.2 bl.1 bl.2 2 3).bind λ(bm,bn,bo,bp,bq,bt,bu,_)=>
bif(bh==bu)then((dU ba bc bd be bf bg bm bn bo bp bq bt).bind λ(bv,_)=>
bif bv then((bV aE 1).bind λbw=>
(bV aE 1).bind λbx=>
(td av 8).bind λ(bz,_)=>
let bA:=w64 (bz-1);
(cD bm bn bo bp bq bt bx.1 bx.2 aB aD bA).bind λ(bB,_)=>
bif bB then((bV aE 0).bind λbC=>
(bV aE 0).bind λbD=>
(cD bm bn bo bp bq bt aB aD bD.1 bD.2 2).bind λ(bE,_)=>
bif bE then((dn).bind λ(bF,_)=>
some (bF,()))else
some (false,()))else
some (false,()))else
some (false,()))else
some (false,())
|some (.inr (ba,bc,bd,be,bf,bg,bh,_))=>
(bV aE 0).bind λbi=>
(bV aE 0).bind λbj=>
(bV aE 1).bind λbk=>
(bV aE 1).bind λbl=>
(cF bj.1 bj.2 bl.1 bl.2 2 3).bind λ(bm,bn,bo,bp,bq,bt,bu,_)=>
bif(bh==bu)then((dU ba bc bd be bf bg bm bn bo bp bq bt).bind λ(bv,_)=>
bif bv then((bV aE 1).bind λbw=>
(bV aE 1).bind λbx=>
(td av 8).bind λ(bz,_)=>
let bA:=w64 (bz-1);
(cD bm bn bo bp bq bt bx.1 bx.2 aB aD bA).bind λ(bB,_)=>
bif bB then((bV aE 0).bind λbC=>
(bV aE 0).bind λbD=>
(cD bm bn bo bp bq bt aB aD bD.1 bD.2 2).bind λ(bE,_)=>
bif bE then((dn).bind λ(bF,_)=>
some (bF,()))else
some (false,()))else
some (false,()))else
some (false,()))else
some (false,()))else none
def jE:T0t->Option (T0t⊕(Int×Int×Bool×T08)):=λ(v0,v1,v2,v3,_)=>
let x0:=bJ v2.length;
bif(decide (v1<x0))then(let x1:Int:=(w64 (v0+4));
(cl v1).bind λx2=>
(bV v2 x2).bind λx3=>
let x4:=bJ x3.length;
let x5:=w64 (x1+x4);
let x6:=w64 (v1+1);
some (.inl (x5,x6,v2,v3,())))else
some (.inr (v0,v1,false,v2,v3,()))
def jD:T0t->Option (T0t⊕(Int×Int×Bool×T08)):=λ(v0,v1,v2,v3,_)=>
let x0:=bJ v3.length;
bif(decide (v1<x0))then(let x1:Int:=(w64 (v0+10));
(cl v1).bind λx2=>
(bV v3 x2).bind λx3=>
let x4:=bJ x3.2.2.2.2.2.2.2.length;
let x5:=w64 (x1+x4);
let x6:=w64 (v1+1);
some (.inl (x5,x6,v2,v3,())))else
some (.inr (v0,v1,false,v2,v3,()))
def jS(a0:List LDCn)(a1:LDTs):Option (Bool×Unit):=
(bM jE NN (0,0,a0,a1,())).bind λ(x0,x1,x2,x3)=>
(bM jD NN (x0,0,x3)).bind λ(x5,_)=>
some ((decide (x5<=1500)),())
def xX:X.Cfg:=⟨E0,[],[],[(lx 4 0 [zaa 1,Uaa 3,Uaa 4] [(4,uab)] 10),⟨10,1,qS [zaa 1,Uaa 3,Uaa 5] [(4,uab)],[(.exit 2,qS [zaa 1,Uaa 3,Uaa 5,Xaa 26] [(4,uab)])]⟩]⟩
def qR:Ctr:=⟨24,111,[.agg uab],[],[⟨zab,[.one],[]⟩],ap2 jS⟩
theorem xt:Lk 1 qR:=ls xX aN
def jG:(List (LLCn×LDTs))×Int×Unit->Option (((List (LLCn×LDTs))×Int×Unit)⊕((Bool×Unit)⊕((List (LLCn×LDTs))×T01))):=λ(v0,v1,_)=>
let x0:=bJ v0.length;
bif(decide (v1<x0))then((cl v1).bind λx1=>
(bV v0 x1).bind λx2=>
(jS x2.1 x2.2).bind λ(x3,_)=>
bif(!x3)then(some (.inr (.inl (false,()))))else
let x4:=w64 (v1+1);
some (.inl (v0,x4,())))else
some (.inr (.inr (v0,v1,false,())))
def fO(a0:List (LLCn×LDTs)):Option (Bool×Unit):=
let x0:=bJ a0.length;
bif(decide (x0>8))then(some (false,()))else
(match bM jG NN (a0,0,())with
|none=>none
|some (.inl (x1,_))=>
some (x1,())
|some (.inr (x1,_))=>
some (true,()))
def yu:X.Cfg:=⟨E0,[qR],[],[⟨6,0,qS [sP 0 (yaa (.pair (yaa bZ) (yaa ch))),Uaa 3] [],[(.ret,qS [Xaa 2] []),(.exit 0,qS [sP 0 (yaa (.pair (yaa bZ) (yaa ch))),Uaa 3,Xaa 10] [])]⟩]⟩
def rf:Ctr:=⟨6,112,uL [(yaa (.pair (yaa bZ) (yaa ch)))],[],[⟨zab,[.one],[]⟩],ap1 fO⟩
theorem xJ:Lk 2 rf:=ls yu (aC xt aN)
def iX(a0:List (LLCn×LDTs))(a1:List (Bool))(a2:Int)(a3:Int)(a4:Int)(a5:Int)(a6:Int)(a7:List LDCn)(a8:LDTs)(a9:LDCe)(a10:Int)(a11:Int):Option (Bool×Unit):=
((fO a0).bind λ(x0,_)=>
bif(!x0)then(some (a0,a1,a4,a11,true,a2,a3,a5,a6,a7,a8,a9,a10,()))else
let x1:=bJ a1.length;
bif(decide (x1>50))then(some (a0,a1,a4,a11,true,a2,a3,a5,a6,a7,a8,a9,a10,()))else
let x2:List (LLCn×LDTs):=[(a7,a8)];
(fO x2).bind λ(x3,_)=>
bif(!x3)then(some (a0,a1,a4,a11,true,a2,a3,a5,a6,a7,a8,a9,a10,()))else
let x4:=bJ a9.length;
bif(decide (x4>60))then(some (a0,a1,a4,a11,true,a2,a3,a5,a6,a7,a8,a9,a10,()))else
let x5:=bJ a0.length;
some (a0,a1,a4,a11,(decide (x5<2)),a2,a3,a5,a6,a7,a8,a9,a10,()):Option ((List (LLCn×LDTs))×(List (Bool))×Int×Int×Bool×Int×T17)).bind λ(x0,x1,x2,x3,x4,x5,x6,x7,x8,x9,ac,ae,af,_)=>
bif x4 then((dn).bind λ(ah,_)=>
some (ah,()))else
(bV x0 0).bind λah=>
(bV x0 1).bind λaj=>
(match cK ah.1 ah.2 aj.1 aj.2 2 3 with
|none=>none
|some (.inl (ak,am,an,ap,aq,au,av,_))=>
(bV x0 0).bind λaw=>
(bV x0 1).bind λax=>
(cF aw.1 aw.2 ax.1 ax.2 2 3).bind λ(ay,az,aA,aB,aD,aE,aF,_)=>
bif(av==aF)then((dU ak am an ap aq au ay az aA aB aD aE).bind λ(aG,_)=>
bif aG then((fP x0 x1 x5 x6 x2).bind λ(aH,_)=>
bif aH then((bV x0 0).bind λaI=>
(bV x0 1).bind λaJ=>
(cD x7 x8 x9 ac ae af aI.1 aI.2 aJ.1 aJ.2 x3).bind λ(aK,_)=>
bif aK then((dn).bind λ(aL,_)=>
some (aL,()))else
some (false,()))else
some (false,()))else
some (false,()))else
some (false,())
|some (.inr (ak,am,an,ap,aq,au,av,_))=>
(bV x0 0).bind λaw=>
(bV x0 1).bind λax=>
(cF aw.1 aw.2 ax.1 ax.2 2 3).bind λ(ay,az,aA,aB,aD,aE,aF,_)=>
bif(av==aF)then((dU ak am an ap aq au ay az aA aB aD aE).bind λ(aG,_)=>
bif aG then((fP x0 x1 x5 x6 x2).bind λ(aH,_)=>
bif aH then((bV x0 0).bind λaI=>
(bV x0 1).bind λaJ=>
(cD x7 x8 x9 ac ae af aI.1 aI.2 aJ.1 aJ.2 x3).bind λ(aK,_)=>
bif aK then((dn).bind λ(aL,_)=>
some (aL,()))else
some (false,()))else
some (false,()))else
some (false,()))else
some (false,()))
def rN:X.Cfg:=⟨E0,[rf,rg,o4,qV,od,rh,m9],[(28,(.pair (uaa (uaa KCn)) (uaa nq)))],[⟨2,0,qE,[(.normal,qS [sP 0 (yaa (.pair (yaa bZ) (yaa ch))),sP 1 (yaa .bool),Uaa 3,Uaa 5,zaa 8,zaa 10,Xaa 42] [(18,Xab),(22,yac)])]⟩]⟩
def mb:Ctr:=⟨3,113,[shU (yaa (.pair (yaa bZ) (yaa ch))),shU (yaa .bool),.agg Xab,shU I64,.agg yac,shU I64],[],[⟨zab,[.one],[]⟩],ap12 iX⟩
theorem k_law34_RepairRaw:Lk 11 mb:=ls rN (aC xJ (aC xK (aC vv (aC xx (aC sd (aC xL (aC sS aN)))))))
end
end Go.Proofs.YtakfoejcjdcgbaaGreat
namespace Go.Proofs.YtakfoejcjdcgbaaGreat
set_option maxRecDepth 100000
noncomputable section
end
end Go.Proofs.YtakfoejcjdcgbaaGreat
namespace Go.Proofs.YtakfoejcjdcgbaaGreat
open Go.RowKit Go.Sort
def zo:Array Value->Nat->List Value->Array Value
 |c,_,[]=>c
 |c,o,v::r=>zo (c.setIfInBounds o v) (o+1) r
theorem El:∀(vs:List Value)(c:Array Value)(o k:Nat),(zo c o vs)[k]?=if o<=k/\k<o+vs.length/\k<c.size then vs[k-o]? else c[k]?:=by
 intro vs
 induction vs with
 |nil=>intro c o k;rw[oIN (by simp;omega)];rfl
 |cons v r ih=>
  intro c o k;show(zo (c.setIfInBounds o v) (o+1) r)[k]?=_;rw[ih,oLC,Array.size_setIfInBounds];by_cases h1:o+1<=k/\k<o+1+r.length/\k<c.size
  ·rw[oIP h1,oIP (by omega)];obtain⟨m,hm⟩:∃m,k-o=m+1:=⟨k-o-1,by omega⟩;rw[hm,List.getElem?_cons_succ,show k-(o+1)=m by omega]
  ·rw[oIN h1,Array.getElem?_setIfInBounds];by_cases h2:o=k
   ·subst h2;by_cases h3:o<c.size
    ·rw[oIP rfl,oIP h3,oIP (by omega),Nat.sub_self];rfl
    ·rw[oIP rfl,oIN h3,oIN (by omega),Array.getElem?_eq_none (by omega)]
   ·rw[oIN h2,oIN (by omega)]
theorem zp(b:Nat):∀(vs:List Value)(w:World)(o:Nat),vs≠[]->w.setCells b o vs=mapBlock w b λc=>zo c o vs:=by
 intro vs
 induction vs with
 |nil=>intro w o h;exact absurd rfl h
 |cons v r ih=>
  intro w o _;show(w.setCell ⟨b,o,none⟩ v).setCells b (o+1) r=_;rw[setCell_eq];by_cases hr:r=[]
  ·subst hr;rfl
  ·rw[ih _ _ hr,mapBlock_mapBlock];rfl
theorem Mc(zs:List Int)(c:Array Value):putCells (Value.int .i64) 0 zs.toArray c=zo c 0 (zs.map λz=>.int .i64 z):=by
 apply Array.ext_getElem?;intro k;rw[El,List.length_map];unfold putCells;rw[Array.getElem?_mapIdx];by_cases h:k<c.size
 ·rw[Array.getElem?_eq_getElem h];simp only[oMS,List.size_toArray,Nat.zero_add,Nat.sub_zero];by_cases g:k<zs.length
  ·rw[oIP ⟨Nat.zero_le _,g⟩,oIP ⟨Nat.zero_le _,g,h⟩,List.getElem?_map,oGE g];simp[g]
  ·rw[oIN (by omega),oIN (by omega)]
 ·rw[Array.getElem?_eq_none (by omega),oIN (by omega)];rfl
theorem zq(w:World)(b:Nat){zs:List Int}(h:zs≠[]):w.setCells b 0 (zs.map λz=>.int .i64 z)=putRow (Value.int .i64) w b 0 zs.toArray:=by
 rw[zp b _ w 0 (by simpa using h)];unfold putRow;congr 1;funext c;exact(Mc zs c).symm
section
variable {M:Fm} {σ σ':St} {ts:Array Value} {w:World} {G:Gh}
end
end Go.Proofs.YtakfoejcjdcgbaaGreat
namespace Go.Proofs.YtakfoejcjdcgbaaGreat
open Go.Shelf
def BG:Go.Shelf.Ren:=⟨λ|189=>57|125=>93|257=>92|128=>129|129=>130|294=>120|295=>121|296=>122|297=>123|298=>124|299=>125|216=>126|300=>127|301=>128|328=>140|329=>141|330=>142|331=>143|332=>144|215=>139|343=>156|n=>n,λ|28=>42|3=>3|46=>127|0=>0|51=>161|53=>163|4=>4|183=>153|182=>152|131=>158|5=>5|9=>9|218=>171|222=>175|228=>183|229=>184|n=>n,λ|n=>n⟩
theorem Hp:Go.Proofs.Lays.n189 Tryz.prog BG:={
 mixed:=by kernel_rfl
 f125:=Tryz.func93.trans (congrArg some (by kernel_rfl))
 f128:=Tryz.func129.trans (congrArg some (by kernel_rfl))
 f129:=Tryz.func130.trans (congrArg some (by kernel_rfl))
 f189:=Tryz.func57.trans (congrArg some (by kernel_rfl))
 f215:=Tryz.func139.trans (congrArg some (by kernel_rfl))
 f216:=Tryz.func126.trans (congrArg some (by kernel_rfl))
 f257:=Tryz.func92.trans (congrArg some (by kernel_rfl))
 f294:=Tryz.func120.trans (congrArg some (by kernel_rfl))
 f295:=Tryz.func121.trans (congrArg some (by kernel_rfl))
 f296:=Tryz.func122.trans (congrArg some (by kernel_rfl))
 f297:=Tryz.func123.trans (congrArg some (by kernel_rfl))
 f298:=Tryz.func124.trans (congrArg some (by kernel_rfl))
 f299:=Tryz.func125.trans (congrArg some (by kernel_rfl))
 f300:=Tryz.func127.trans (congrArg some (by kernel_rfl))
 f301:=Tryz.func128.trans (congrArg some (by kernel_rfl))
 f328:=Tryz.func140.trans (congrArg some (by kernel_rfl))
 f329:=Tryz.func141.trans (congrArg some (by kernel_rfl))
 f330:=Tryz.func142.trans (congrArg some (by kernel_rfl))
 f331:=Tryz.func143.trans (congrArg some (by kernel_rfl))
 f332:=Tryz.func144.trans (congrArg some (by kernel_rfl))
 f343:=Tryz.func156.trans (congrArg some (by kernel_rfl))
 t0:=Tryz.underlying0
 a0:=Tryz.isAgg0
 z0:=Tryz.sizeOf0
 v0:=Tryz.zeroValue0
 t3:=Tryz.underlying3
 a3:=Tryz.isAgg3
 z3:=Tryz.sizeOf3
 v3:=Tryz.zeroValue3
 t4:=Tryz.underlying4
 a4:=Tryz.isAgg4
 z4:=Tryz.sizeOf4
 v4:=Tryz.zeroValue4
 t5:=Tryz.underlying5
 a5:=Tryz.isAgg5
 z5:=Tryz.sizeOf5
 v5:=Tryz.zeroValue5
 t9:=Tryz.underlying9
 a9:=Tryz.isAgg9
 z9:=Tryz.sizeOf9
 v9:=Tryz.zeroValue9
 t28:=Tryz.underlying42
 a28:=Tryz.isAgg42
 z28:=Tryz.sizeOf42
 v28:=Tryz.zeroValue42
 t46:=Tryz.underlying127
 a46:=Tryz.isAgg127
 z46:=Tryz.sizeOf127
 v46:=Tryz.zeroValue127
 t51:=Tryz.underlying161
 a51:=Tryz.isAgg161
 z51:=Tryz.sizeOf161
 v51:=Tryz.zeroValue161
 t53:=Tryz.underlying163
 a53:=Tryz.isAgg163
 z53:=Tryz.sizeOf163
 v53:=Tryz.zeroValue163
 t131:=Tryz.underlying158
 a131:=Tryz.isAgg158
 z131:=Tryz.sizeOf158
 v131:=Tryz.zeroValue158
 t182:=Tryz.underlying152
 a182:=Tryz.isAgg152
 z182:=Tryz.sizeOf152
 v182:=Tryz.zeroValue152
 t183:=Tryz.underlying153
 a183:=Tryz.isAgg153
 z183:=Tryz.sizeOf153
 v183:=Tryz.zeroValue153
 t218:=Tryz.underlying171
 a218:=Tryz.isAgg171
 z218:=Tryz.sizeOf171
 v218:=Tryz.zeroValue171
 t222:=Tryz.underlying175
 a222:=Tryz.isAgg175
 z222:=Tryz.sizeOf175
 v222:=Tryz.zeroValue175
 t228:=Tryz.underlying183
 a228:=Tryz.isAgg183
 z228:=Tryz.sizeOf183
 v228:=Tryz.zeroValue183
 t229:=Tryz.underlying184
 a229:=Tryz.isAgg184
 z229:=Tryz.sizeOf184
 v229:=Tryz.zeroValue184 }
def BF:Go.Shelf.Ren:=⟨λ|20=>59|n=>n,λ|22=>42|3=>3|4=>4|0=>0|n=>n,λ|n=>n⟩
theorem Ho:Go.Proofs.Lays2.n20 Tryz.prog BF:={
 mixed:=by kernel_rfl
 f20:=Tryz.func59.trans (congrArg some (by kernel_rfl))
 t0:=Tryz.underlying0
 a0:=Tryz.isAgg0
 z0:=Tryz.sizeOf0
 v0:=Tryz.zeroValue0
 t3:=Tryz.underlying3
 a3:=Tryz.isAgg3
 z3:=Tryz.sizeOf3
 v3:=Tryz.zeroValue3
 t4:=Tryz.underlying4
 a4:=Tryz.isAgg4
 z4:=Tryz.sizeOf4
 v4:=Tryz.zeroValue4
 t22:=Tryz.underlying42
 a22:=Tryz.isAgg42
 z22:=Tryz.sizeOf42
 v22:=Tryz.zeroValue42
 i3:=by kernel_rfl }
end Go.Proofs.YtakfoejcjdcgbaaGreat
namespace Go.Proofs.YtakfoejcjdcgbaaGreat
open Go.RowKit Go.Sort
theorem xd(w:World)(b o:Nat)(d:Array Int):(putRow (Value.int .i64) w b o d).heap.size=w.heap.size:=by simp[putRow,mapBlock]
theorem Du{w:World}{b:Nat}{zs:List Int}(h:∀j,j<zs.length->w.cell? ⟨b,j,none⟩=some (Fp (zs.getD j 0))/\w.frozen? ⟨b,j,none⟩=false):Holds (Value.int .i64) w b 0 zs.toArray:=by
 intro j hj
 have hj:j<zs.length:=by simpa using hj
 rw[Nat.zero_add];refine⟨(h j hj).1.trans ?_,(h j hj).2⟩;simp[Fp,hj,oGD]
theorem zt{w:World}{b:Nat}{zs:List Int}(hz:zs≠[])(q:Nat){j:Nat}(hj:j<w.heap.size)(os:Array Obj):(Sort.grow (putRow (Value.int .i64) (Sort.ahead w q) b 0 zs.toArray) os).heap[j]?=(w.setCells b 0 (zs.map Fp)).heap[j]?:=by
 rw[show zs.map Fp=zs.map λz=>Value.int .i64 z from rfl,zq w b hz];show((putRow (Value.int .i64) w b 0 zs.toArray).heap++os)[j]?=_;exact Array.getElem?_append_left (by rw[xd];exact hj)
theorem I5:KD Tryz.prog 1 57:=by
 refine⟨iJ Tryz.func57 (by kernel_rfl) rfl,λa w=>Any.slices_Sort_int_none Hp a 0 w,λb cap zs w hz Vz hc hm hb hcell=>?_⟩;refine(Any.slices_Sort_int Hp b 0 cap zs w (Du hcell) hb Vz).mono ?_;rintro e w' ⟨rfl,n,os,rfl⟩;refine⟨rfl,rfl,rfl,rfl,?_,λj hj=>?_⟩
 ·show _<=((putRow (Value.int .i64) w b 0 _).heap++os).size;rw[Array.size_append,xd];exact Nat.le_add_right _ _
 ·exact zt (zs:=t6 1 zs) (λh=>hz (oEN (by rw[<- mt 1,h];rfl))) n hj os
theorem Cl:KD Tryz.prog 2 59:=by
 refine⟨iJ Tryz.func59 (by kernel_rfl) rfl,λa w=>Any.slices_Compact_int_empty Ho a 0 w,λb cap zs w hz Vz hc hm hb hcell=>?_⟩;refine(Any.slices_Compact_int Ho b 0 cap zs w (Du hcell) (by omega) hc).mono ?_;rintro e w' ⟨rfl,n,rfl⟩;refine⟨rfl,rfl,rfl,rfl,?_,λj hj=>?_⟩
 ·show _<=(putRow (Value.int .i64) w b 0 _).heap.size;rw[xd];exact Nat.le_refl _
 ·have h:=zt (w:=w) (b:=b) (zs:=t6 2 zs) (λh=>hz (oEN (by rw[<- mt 2,h];rfl))) n hj #[];rw[<- h];show _=((putRow (Value.int .i64) (Sort.ahead w n) b 0 _).heap++#[])[j]?;rw[Array.append_empty];rfl
end Go.Proofs.YtakfoejcjdcgbaaGreat
namespace Go.Proofs.YtakfoejcjdcgbaaGreat
open Go.RowKit
theorem Pe:(Tryz.prog.funcs.all λfn=>!(fn.name=="runtime.NumGoroutine"))=true:=by kernel_rfl
theorem EB:gS Tryz.prog 14:=by
 obtain⟨fn,hf,hb⟩:∃fn,Tryz.prog.funcs[14]?=some fn/\fn.body.isSome=true:=by
  have hs:(match Tryz.prog.funcs[14]? with|some fn=>fn.body.isSome|none=>false)=true:=by kernel_rfl
  cases h:Tryz.prog.funcs[14]? with
  |none=>rw[h]at hs;cases hs
  |some fn=>rw[h]at hs;exact⟨fn,rfl,hs⟩
 obtain⟨c,hc⟩:=Option.isSome_iff_exists.1 hb;refine iJ hf ?_ hc;obtain⟨hlt,he⟩:=Array.getElem?_eq_some_iff.1 hf;have:=Array.all_eq_true.1 Pe 14 hlt;rw[he]at this;simpa using this
def Nd(x:Value)(w:World)(e:Ending)(w':World):Prop:=e=.returned (.pointer (some ⟨w.heap.size,0,none⟩))/\w'=w.alloc (.cells #[x,.int .i64 0] 80)
theorem Mo(x:Value)(hx:x.oneCell'=true)(w:World):
 Calls Tryz.prog 14 #[x] w (Nd x w):=by
 cases x
 all_goals first
  |(go_enter Tryz.func14,Tryz.ntmps14
    go_wp2
    go_ret
    exact⟨rfl,rfl⟩)
  |simp[Value.oneCell']at hx
theorem Ow:yV Tryz.prog E0:=by
 intro f n tm h;simp only[E0]at h;split at h
 ·rename_i e;subst e
  injection h with h
  injection h with h1 h2
  subst h1 h2;refine⟨EB,λx hx=>?_,80,λl2 w hl Zt=>?_⟩
  ·simp only[List.mem_cons,List.not_mem_nil,or_false]at hx;rcases hx with hx|hx
   ·injection hx
   ·injection hx with hx;rw[hx];rfl
  ·match l2,hl with
   | [x],_=>exact Mo x (Zt x (by simp[bxV])) w
 ·simp at h
theorem e0_ok:wd Tryz.prog E0:=⟨Ow,λf hf=>by
 by_cases h1:f=57
 ·subst h1;exact⟨λ_=>I5,λh=>by cases h⟩
 ·by_cases h2:f=59
  ·subst h2;exact⟨λ_=>Cl,λh=>by cases h⟩
  ·by_cases h3:f=90
   ·subst h3;exact⟨λh=>absurd rfl h,λ_=>Dh⟩
   ·exact absurd (show E0.row f=0 from(oIN h1).trans ((oIN h2).trans (oIN h3))) hf⟩
def Ok{α:Type}(o:Option α)(Q:α->Prop):Prop:=∃a,o=some a/\Q a
section
variable {α β:Type}
theorem Ok.ret{a:α}{Q:α->Prop}(h:Q a):Ok (some a) Q:=⟨a,rfl,h⟩
theorem Ok.bind{o:Option α}{f:α->Option β}{P:α->Prop}{Q:β->Prop}(h:Ok o P)(h2:∀a,P a->Ok (f a) Q):Ok (o.bind f) Q:=by
 obtain⟨a,rfl,h1⟩:=h
 simp_all
theorem Ok.mono{o:Option α}{P Q:α->Prop}(h:Ok o P)(h2:∀a,P a->Q a):Ok o Q:=by
 have ⟨a,e,h1⟩:=h;exact⟨a,e,h2 a h1⟩
theorem Ok.cond{c:Bool}{a b:Option α}{Q:α->Prop}(h1:c=true->Ok a Q)(h2:c=false->Ok b Q):Ok (bif c then a else b) Q:=by
 grind
class BP (b:Bool) (P N:outParam Prop):Prop where
 t:b=true->P
 f:b=false->N
theorem Ok.get{l:List α}{i:Nat}{f:α->Option β}{Q:β->Prop}(h:i<l.length)(h2:∀a,l[i]?=some a->Ok (f a) Q):Ok ((bV l i).bind f) Q:=by
 have e:bV l i=some l[i]:=oGE h
 simp_all
theorem Ok.nat{x:Int}{f:Nat->Option β}{Q:β->Prop}(h:0<=x)(h2:∀n:Nat,x=n->Ok (f n) Q):Ok ((cl x).bind f) Q:=by
 obtain⟨n,rfl⟩:∃n:Nat,x=n:=⟨x.toNat,by omega⟩;exact h2 n rfl
theorem Ok.val{v:α}{f:α->Option β}{Q:β->Prop}(h:∀x,x=v->Ok (f x) Q):Ok (f v) Q:=h v rfl
theorem Ni{c:Bool}{a b:Option α}{Q:α->Prop}(hc:c=true)(h1:Ok a Q):Ok (bif c then a else b) Q:=by simp_all
theorem ou{S T:Type}{f:S->Option (S⊕T)}(P:S->Prop)(R:T->Prop)(m:S->Nat){n:Nat}{s:S}(hs:P s)(hm:m s<n)
 (h:∀s,P s->Ok (f s) λr=>match r with|.inl s'=>P s'/\m s'<m s|.inr t=>R t):Ok (bM f n s) R:=by
 induction n generalizing s with
 |zero=>omega
 |succ n ih=>
  have ⟨r,e,hr⟩:=h s hs
  cases r with
  |inl s'=>
   have ⟨t,e2,hq⟩:=ih hr.1 (by omega);exact⟨t,by simp[bM,e];exact e2,hq⟩
  |inr t=>exact⟨t,by simp[bM,e],hr⟩
theorem Ok.loop{S T:Type}{f:S->Option (S⊕T)}{g:T->Option β}{Q:β->Prop}(P:S->Prop)(R:T->Prop)(m:S->Nat){n:Nat}{s:S}(hs:P s)(hm:m s<n)
 (h:∀s,P s->Ok (f s) λr=>match r with|.inl s'=>P s'/\m s'<m s|.inr t=>R t)(hg:∀t,R t->Ok (g t) Q):Ok ((bM f n s).bind g) Q:=(ou P R m hs hm h).bind hg
end
theorem bR{x:Int}(h1:-9223372036854775808<=x)(h2:x<=9223372036854775807):w64 x=x:=wrap_i64 h1 h2
theorem bN(n:Nat):cl (n:Int)=some n:=rfl
theorem Dj(n:Nat):bJ n=(n:Int):=rfl
theorem loop_seq{S T:Type}{f:S->Option (S⊕T)}(st:Nat->S){n N:Nat}{fin:T}(hn:n<N)(h:∀i,i<n->f (st i)=some (.inl (st (i+1))))(he:f (st n)=some (.inr fin)):bM f N (st 0)=some fin:=by
 have Z0:∀k i,i+k=n->k<N->∀M,k<M->bM f M (st i)=some fin:=by
  intro k
  induction k with
  |zero=>
   intro i hi _ M hM;obtain⟨M,rfl⟩:∃m,M=m+1:=⟨M-1,by omega⟩
   have:i=n:=by omega
   subst this;simp[bM,he]
  |succ k ih=>
   intro i hi hk M hM;obtain⟨M,rfl⟩:∃m,M=m+1:=⟨M-1,by omega⟩;simp only[bM,h i (by omega),oBS];exact ih (i+1) (by omega) (by omega) M (by omega)
 exact Z0 n 0 (by omega) hn N hn
theorem fD{S T:Type}{f:S->Option (S⊕T)}(st:Nat->S)(p:Nat->Prop){n N:Nat}{bad:Nat->T}{fin:T}(hn:n<N)
 (h:∀i,i<n->(p i/\f (st i)=some (.inl (st (i+1))))\/(¬p i/\f (st i)=some (.inr (bad i))))(he:f (st n)=some (.inr fin)):
 ((∀i,i<n->p i)/\bM f N (st 0)=some fin)\/∃k,k<n/\(∀i,i<k->p i)/\¬p k/\bM f N (st 0)=some (bad k):=by
 have Z0:∀k i,i+k=n->(∀j,j<i->p j)->∀M,k<M->((∀i,i<n->p i)/\bM f M (st i)=some fin)\/∃k,k<n/\(∀i,i<k->p i)/\¬p k/\bM f M (st i)=some (bad k):=by
  intro k
  induction k with
  |zero=>
   intro i hi hp M hM;obtain⟨M,rfl⟩:∃m,M=m+1:=⟨M-1,by omega⟩
   have:i=n:=by omega
   subst this;exact .inl ⟨hp,by simp[bM,he]⟩
  |succ k ih=>
   intro i hi hp M hM;obtain⟨M,rfl⟩:∃m,M=m+1:=⟨M-1,by omega⟩
   rcases h i (by omega)with⟨h1,e⟩|⟨h1,e⟩
   ·simp only[bM,e,oBS]
    exact ih (i+1) (by omega) (λj hj=>by
     by_cases e:j=i
     ·subst e;exact h1
     ·exact hp j (by omega)) M (by omega)
   ·exact .inr ⟨i,by omega,hp,h1,by simp[bM,e]⟩
 exact Z0 n 0 (by omega) (λj hj=>by omega) N hn
abbrev Sm{α:Type}(l:List α):Prop:=l.length<=1099511627776
theorem eA{n:Nat}(h:n<=1099511627776):n<NN:=by unfold NN;omega
theorem bQ{α:Type}{l:List α}{i:Nat}(h:i<l.length):bV l i=some l[i]:=oGE h
theorem KS(x y:PID):((x.1==y.1)&&((x.2==y.2)&&true))=decide (x=y):=by
 rw[Bool.and_true,Bool.eq_iff_iff];simp[Prod.ext_iff]
theorem fb{α:Type}{l:List α}{i:Nat}(h:i<l.length):l.take i++[l[i]]=l.take (i+1):=(List.take_append_getElem h)
theorem bT{sz n m:Nat}(h1:n<=1099511627776)(h2:m<=1099511627776)(h3:sz<=128)(h4:n+m<=1099511627776):b6 sz n m=true:=by
 unfold b6;have:(n+m)*sz<=1099511627776*128:=Nat.mul_le_mul h4 h3;simp only[oBA,oDE];exact⟨h4,by omega⟩
theorem NV{a b:List PID}(ha:Sm a)(hb:Sm b):kU a b=some (decide (a=b),()):=by
 unfold kU;simp only[Dj];by_cases hl:a.length=b.length
 rotate_left
 ·have:(((a.length:Int) != (b.length:Int)))=true:=by simp;omega
  rw[this,oCT,oDF λe=>hl (by rw[e])]
 have:(((a.length:Int) != (b.length:Int)))=false:=by simp;omega
 rw[this,oCF]
 have step:∀i,i<a.length->(a[i]?=b[i]?/\cS (a,b,(i:Int),())=some (.inl (a,b,((i+1:Nat):Int),())))\/(¬a[i]?=b[i]?/\cS (a,b,(i:Int),())=some (.inr (.inl (false,())))):=by
  intro i hi;unfold cS;delta bJ
  have ZT:i<b.length:=by omega
  dsimp only;rw[oDT (show(i:Int)<a.length by omega),oCT,bN];simp only[oBS,bQ hi,bQ ZT,KS];rw[bR (by omega) (by omega)];rw[oGE hi,oGE ZT];by_cases e:a[i]=b[i]
  ·rw[oDT e];exact .inl ⟨by rw[e],rfl⟩
  ·rw[oDF e];exact .inr ⟨λh=>e (by injection h),rfl⟩
 have fin:cS (a,b,(a.length:Int),())=some (.inr (.inr (a,b,(a.length:Int),false,()))):=by
  unfold cS;delta bJ;dsimp only;rw[oDF (show ¬(a.length:Int)<a.length by omega)];rfl
 rcases fD (f:=cS) (λi=>(a,b,(i:Int),())) _ (eA ha) step fin with⟨h1,h2⟩|⟨k,hk,_,h1,h2⟩
 ·simp only[show bM cS NN (a,b,0,())=_ from h2];rw[oDT (p:=a=b)]
  exact List.ext_getElem? λi=>by
   by_cases hi:i<a.length
   ·exact h1 i hi
   ·rw[oGN (by omega),oGN (by omega)]
 ·simp only[show bM cS NN (a,b,0,())=_ from h2];rw[oDF λe=>h1 (by rw[e])]
theorem yO{a:List PID}(h:Sm a):cM a=some (a,()):=by
 unfold cM;rw[bT (by omega) h (by omega) (by have:=h;omega),oCT];rfl
theorem I4{a:List PID}(h:Sm a):dB a=some (lM a,()):=oIP h
theorem Mr{a b:List PID}(h:a.length+b.length<=1099511627776):j3 a b=some (lM (a++b),()):=by
 unfold j3 dg
 have e:List.flatten [a,b]=a++b:=by simp
 dsimp only;rw[e,oIP ⟨by rw[List.length_append];exact h,by simp⟩,oBS];dsimp only;rw[I4 (show Sm (a++b) by unfold Sm;rw[List.length_append];exact h)];rfl
def jj(n:Nat)(k:Int):Nat:=(max 0 (min k (n:Int))).toNat
theorem Pu(n:Nat)(k:Int):mmR true 0 (mmR false k (bJ n))=(jj n k:Int):=by
 rw[Dj];unfold mmR jj;simp only[Bool.false_eq_true,if_false,if_true];by_cases h1:(n:Int)<k
 ·rw[oIP h1,Int.min_eq_right (by omega)];by_cases h2:(0:Int)<n
  ·rw[oIP h2,Int.max_eq_right (by omega),Int.toNat_of_nonneg (by omega)]
  ·rw[oIN h2,Int.max_eq_left (by omega)];rfl
 ·rw[oIN h1,Int.min_eq_left (by omega)];by_cases h2:(0:Int)<k
  ·rw[oIP h2,Int.max_eq_right (by omega),Int.toNat_of_nonneg (by omega)]
  ·rw[oIN h2,Int.max_eq_left (by omega)];rfl
theorem CM(n:Nat)(k:Int):jj n k<=n:=by
 unfold jj;omega
theorem NJ{a:List PID}(h:Sm a)(k:Int):kW a k=some (a.take (jj a.length k),a.drop (jj a.length k),()):=by
 unfold kW;dsimp only;have hk:=CM a.length k;have h0:=h;simp only[Pu,bN,oBS]
 have e1:df 0 (jj a.length k) a.length=true:=by unfold df;simp[hk]
 have e2:df (jj a.length k) a.length a.length=true:=by unfold df;simp[hk]
 have e3:pO a 0 (Nat.sub (jj a.length k) 0)=a.take (jj a.length k):=by unfold pO;rfl
 have e4:pO a (jj a.length k) (Nat.sub a.length (jj a.length k))=a.drop (jj a.length k):=by
  unfold pO;rw[List.take_of_length_le (by rw[List.length_drop];exact Nat.le_refl _)]
 rw[e1,oCT,e3,yO (by unfold Sm;rw[oLT];omega),oBS];dsimp only;rw[e2,oCT,e4,yO (by unfold Sm;rw[List.length_drop];omega)];rfl
theorem Iz:dn=some (true,()):=rfl
theorem lV{α S T:Type}[DecidableEq α]{a b:List α}(hl:a.length=b.length)(hs:Sm a){f:S->Option (S⊕T)}(st:Nat->S){bad fin:T}
 (step:∀i (h:i<a.length)(h':i<b.length),f (st i)=bif decide (a[i]=b[i])then some (.inl (st (i+1)))else some (.inr bad))(he:f (st a.length)=some (.inr fin)):
 bM f NN (st 0)=some (bif decide (a=b)then fin else bad):=by
 rcases fD (f:=f) st (λi=>a[i]?=b[i]?) (bad:=λ_=>bad) (eA hs) (λi hi=>by
  rw[step i hi (hl▸hi),oGE hi,oGE (hl▸hi)];by_cases e:a[i]=b[i]'(hl▸hi)
  ·exact .inl ⟨by rw[e],by rw[oDT e];rfl⟩
  ·exact .inr ⟨λh=>e (by injection h),by rw[oDF e];rfl⟩) he with⟨h1,h2⟩|⟨k,hk,_,h1,h2⟩
 ·rw[h2,oDT (p:=a=b)]
  ·rfl
  ·exact List.ext_getElem? λi=>by
    by_cases hi:i<a.length
    ·exact h1 i hi
    ·rw[oGN (by omega),oGN (by omega)]
 ·rw[h2,oDF λe=>h1 (by rw[e])];rfl
theorem qf{α:Type}{a b:List α}(h:a.length=b.length):((a.length:Int) != (b.length:Int))=false:=by simp;omega
theorem mw{α:Type}{a b:List α}(h:¬a.length=b.length):((a.length:Int) != (b.length:Int))=true:=by simp;omega
theorem KW(x y:Int):(x != y)=!decide (x=y):=by
 by_cases h:x=y
 ·subst h;simp
 ·rw[oDF h,bne_iff_ne.2 h];rfl
theorem oJ{α:Type}(b:Bool)(x y:α):(bif !b then x else y)=bif b then y else x:=by cases b<;>rfl
theorem La(x y:DCn):(!((x.1==y.1)&&((x.2.1==y.2.1)&&((x.2.2.1==y.2.2.1)&&((x.2.2.2==y.2.2.2)&&true)))))=!decide (x=y):=by
 congr 1;rw[Bool.and_true,Bool.eq_iff_iff];simp[Prod.ext_iff]
theorem K5{a b:List Int}(ha:Sm a):gi a b=some (decide (a=b),()):=by
 unfold gi;delta bJ;dsimp only;by_cases hl:a.length=b.length
 rotate_left
 ·rw[mw hl,oCT,oDF λe=>hl (by rw[e])]
 rw[qf hl,oCF];have h0:=ha
 have:=lV (f:=dq) hl ha (λi=>(a,b,(a.length:Int),(i:Int),())) (bad:=.inl (false,())) (fin:=.inr (a,b,(a.length:Int),(a.length:Int),false,()))
  (λi h h'=>by
   unfold dq;dsimp only;rw[oDT (show(i:Int)<a.length by omega),oCT,bN];simp only[oBS,bQ h,bQ h',KW,oJ];rw[bR (by omega) (by omega)]
   rfl)
  (by
   unfold dq;dsimp only;rw[oDF (show ¬(a.length:Int)<a.length by omega)]
   rfl)
 rw[show bM dq NN (a,b,(a.length:Int),0,())=_ from this];by_cases e:a=b
 ·rw[oDT e];rfl
 ·rw[oDF e];rfl
theorem zr{a b:List Int}(ha:Sm a):gV a b=some (decide (a=b),()):=by
 unfold gV;delta bJ;dsimp only;by_cases hl:a.length=b.length
 rotate_left
 ·rw[mw hl,oCT,oDF λe=>hl (by rw[e])]
 rw[qf hl,oCF];have h0:=ha
 have:=lV (f:=d7) hl ha (λi=>(a,b,(i:Int),())) (bad:=.inl (false,())) (fin:=.inr (a,b,(a.length:Int),false,()))
  (λi h h'=>by
   unfold d7;delta bJ;dsimp only;rw[oDT (show(i:Int)<a.length by omega),oCT,bN];simp only[oBS,bQ h,bQ h',KW,oJ];rw[bR (by omega) (by omega)]
   rfl)
  (by
   unfold d7;delta bJ;dsimp only;rw[oDF (show ¬(a.length:Int)<a.length by omega)]
   rfl)
 rw[show bM d7 NN (a,b,0,())=_ from this];by_cases e:a=b
 ·rw[oDT e];rfl
 ·rw[oDF e];rfl
theorem DE{a b:List DCn}(ha:Sm a):dO a b=some (decide (a=b),()):=by
 unfold dO;delta bJ;dsimp only;by_cases hl:a.length=b.length
 rotate_left
 ·rw[mw hl,oCT,oDF λe=>hl (by rw[e])]
 rw[qf hl,oCF];have h0:=ha
 have:=lV (f:=cQ) hl ha (λi=>(a,b,(a.length:Int),(i:Int),())) (bad:=.inl (false,())) (fin:=.inr (a,b,(a.length:Int),(a.length:Int),false,()))
  (λi h h'=>by
   unfold cQ;dsimp only;rw[oDT (show(i:Int)<a.length by omega),oCT,bN];simp only[oBS,bQ h,bQ h',La,oJ];rw[bR (by omega) (by omega)]
   rfl)
  (by
   unfold cQ;dsimp only;rw[oDF (show ¬(a.length:Int)<a.length by omega)]
   rfl)
 rw[show bM cQ NN (a,b,(a.length:Int),0,())=_ from this];by_cases e:a=b
 ·rw[oDT e];rfl
 ·rw[oDF e];rfl
theorem oA{a b:List DCn}(ha:Sm a):dY a b=some (decide (a=b),()):=by
 unfold dY;delta bJ;dsimp only;by_cases hl:a.length=b.length
 rotate_left
 ·rw[mw hl,oCT,oDF λe=>hl (by rw[e])]
 rw[qf hl,oCF];have h0:=ha
 have:=lV (f:=dP) hl ha (λi=>(a,b,(i:Int),())) (bad:=.inl (false,())) (fin:=.inr (a,b,(a.length:Int),false,()))
  (λi h h'=>by
   unfold dP;delta bJ;dsimp only;rw[oDT (show(i:Int)<a.length by omega),oCT,bN];simp only[oBS,bQ h,bQ h',La,oJ];rw[bR (by omega) (by omega)]
   rfl)
  (by
   unfold dP;delta bJ;dsimp only;rw[oDF (show ¬(a.length:Int)<a.length by omega)]
   rfl)
 rw[show bM dP NN (a,b,0,())=_ from this];by_cases e:a=b
 ·rw[oDT e];rfl
 ·rw[oDF e];rfl
abbrev PG:=Int×Int×List DCn×DTs
instance PK:DecidableEq DCn:=inferInstance
instance PR:DecidableEq (Int×Int×Int×List DCn):=inferInstance
instance PI:DecidableEq DTs:=inferInstanceAs (DecidableEq (Int×Int×Int×Int×(Int×Int×Int×List DCn)))
instance PJ:DecidableEq PG:=inferInstanceAs (DecidableEq (Int×Int×List DCn×DTs))
theorem AI{x y:Int}{p:Prop}[Decidable p]:(bif(x==y)then(some (decide p,()))else some (false,()):Option (Bool×Unit))=some (decide (x=y/\p),()):=by
 by_cases h:x=y
 ·subst h;simp
 ·rw[oBF h,oDF (p:=x=y/\p) λe=>h e.1];rfl
theorem wL{p q:Prop}[Decidable p][Decidable q]:((some (decide p,())).bind λ(x0,_)=>bif x0 then some (decide q,())else some (false,()):Option (Bool×Unit))=some (decide (p/\q),()):=by
 by_cases h:p<;>by_cases h':q<;>simp[h,h']
theorem wK{x y z w:Int}{p:Prop}[Decidable p]:(bif((x==y)&&((z==w)&&true))then(some (decide p,()))else some (false,()):Option (Bool×Unit))=some (decide (x=y/\z=w/\p),()):=by
 by_cases h:x=y
 ·subst h;by_cases h:z=w
  ·subst h;simp
  ·rw[oBF h,oDF (p:=x=x/\z=w/\p) λe=>h e.2.1];simp
 ·rw[oBF h,oDF (p:=x=y/\z=w/\p) λe=>h e.1];rfl
theorem u9{o:Option (Bool×Unit)}:(o.bind λ(x0,_)=>some (x0,()))=o:=by
 cases o with
 |none=>rfl
 |some x=>obtain⟨x,⟨⟩⟩:=x;rfl
theorem MP{x y:PG}(hx:Sm x.2.2.1)(hy:Sm x.2.2.2.2.2.2.2.2.2.2):
 jZ x.1 x.2.1 x.2.2.1 x.2.2.2.1 x.2.2.2.2.1 x.2.2.2.2.2.1 x.2.2.2.2.2.2.1 x.2.2.2.2.2.2.2.1 x.2.2.2.2.2.2.2.2.1 x.2.2.2.2.2.2.2.2.2.1 x.2.2.2.2.2.2.2.2.2.2 y.1 y.2.1 y.2.2.1 y.2.2.2.1 y.2.2.2.2.1 y.2.2.2.2.2.1 y.2.2.2.2.2.2.1 y.2.2.2.2.2.2.2.1 y.2.2.2.2.2.2.2.2.1 y.2.2.2.2.2.2.2.2.2.1 y.2.2.2.2.2.2.2.2.2.2=some (decide (x=y),()):=by
 unfold jZ;simp only[DE hx,DE hy,u9,AI,wL,wK];congr 2;rw[decide_eq_decide];simp only[Prod.ext_iff,and_assoc]
theorem tW{x y:DTs}(hx:Sm x.2.2.2.2.2.2.2):
 fX x.1 x.2.1 x.2.2.1 x.2.2.2.1 x.2.2.2.2.1 x.2.2.2.2.2.1 x.2.2.2.2.2.2.1 x.2.2.2.2.2.2.2 y.1 y.2.1 y.2.2.1 y.2.2.2.1 y.2.2.2.2.1 y.2.2.2.2.2.1 y.2.2.2.2.2.2.1 y.2.2.2.2.2.2.2=some (decide (x=y),()):=by
 unfold fX;simp only[oA hx,u9,AI];congr 2;rw[decide_eq_decide];simp only[Prod.ext_iff,and_assoc]
theorem MO{x y:PG}(hx:Sm x.2.2.1)(hy:Sm x.2.2.2.2.2.2.2.2.2.2):
 fN x.1 x.2.1 x.2.2.1 x.2.2.2.1 x.2.2.2.2.1 x.2.2.2.2.2.1 x.2.2.2.2.2.2.1 x.2.2.2.2.2.2.2.1 x.2.2.2.2.2.2.2.2.1 x.2.2.2.2.2.2.2.2.2.1 x.2.2.2.2.2.2.2.2.2.2 y.1 y.2.1 y.2.2.1 y.2.2.2.1 y.2.2.2.2.1 y.2.2.2.2.2.1 y.2.2.2.2.2.2.1 y.2.2.2.2.2.2.2.1 y.2.2.2.2.2.2.2.2.1 y.2.2.2.2.2.2.2.2.2.1 y.2.2.2.2.2.2.2.2.2.2=some (decide (x=y),()):=by
 unfold fN;have:=tW (x:=x.2.2.2) (y:=y.2.2.2) hy;simp only[oA hx,this,u9,wL,wK];congr 2;rw[decide_eq_decide];simp only[Prod.ext_iff,and_assoc]
abbrev CC:=List (List DCn)
abbrev TT':=List DTs
def szs(C:CC):List Int:=C.map λc=>(c.length:Int)
theorem g7(C:CC):(szs C).length=C.length:=List.length_map _
theorem kQ{α β:Type}{f:α->β}{l:List α}{i:Nat}(h:i<l.length):(l.take i).map f++[f l[i]]=(l.take (i+1)).map f:=by
 rw[<- fb h,List.map_append];rfl
theorem pj{C:CC}{T:TT'}(h:Sm C):eM C T=some (szs C,()):=by
 unfold eM;delta bJ;dsimp only;have h0:=h
 have step:∀i,i<C.length->dK (C,(C.length:Int),(i:Int),C,T,szs (C.take i),())=some (.inl (C,(C.length:Int),((i+1:Nat):Int),C,T,szs (C.take (i+1)),())):=by
  intro i hi;unfold dK;delta bJ;dsimp only;rw[oDT (show(i:Int)<C.length by omega),oCT,bN];simp only[oBS,bQ hi];rw[bT (by rw[g7,oLT];omega) (by simp) (by omega) (by rw[g7,oLT,List.length_singleton];omega),oCT,bR (by omega) (by omega)];have:List.append (szs (C.take i)) [((C[i].length:Nat):Int)]=szs (C.take (i+1)):=kQ (f:=λc:List DCn=>(c.length:Int)) hi;rw[this];rfl
 have fin:dK (C,(C.length:Int),(C.length:Int),C,T,szs (C.take C.length),())=some (.inr (C,(C.length:Int),(C.length:Int),false,C,T,szs (C.take C.length),())):=by
  unfold dK;dsimp only;rw[oDF (show ¬(C.length:Int)<C.length by omega)];rfl
 have:=loop_seq (f:=dK) (λi=>(C,(C.length:Int),(i:Int),C,T,szs (C.take i),())) (eA h) step fin;rw[show bM dK NN (C,(C.length:Int),0,C,T,[],())=_ from this,List.take_length,oBS]
theorem nC{C:CC}{T:TT'}(h:Sm C):dS C T=some (szs C,()):=by
 unfold dS;have h0:=h
 have step:∀i,i<C.length->dI ((i:Int),C,T,szs (C.take i),())=some (.inl (((i+1:Nat):Int),C,T,szs (C.take (i+1)),())):=by
  intro i hi;unfold dI;delta bJ;dsimp only;rw[oDT (show(i:Int)<C.length by omega),oCT,bN];simp only[oBS,bQ hi];rw[bT (by rw[g7,oLT];omega) (by simp) (by omega) (by rw[g7,oLT,List.length_singleton];omega),oCT,bR (by omega) (by omega)];have:List.append (szs (C.take i)) [((C[i].length:Nat):Int)]=szs (C.take (i+1)):=kQ (f:=λc:List DCn=>(c.length:Int)) hi;rw[this];rfl
 have fin:dI ((C.length:Int),C,T,szs (C.take C.length),())=some (.inr ((C.length:Int),false,C,T,szs (C.take C.length),())):=by
  unfold dI;delta bJ;dsimp only;rw[oDF (show ¬(C.length:Int)<C.length by omega)];rfl
 have:=loop_seq (f:=dI) (λi=>((i:Int),C,T,szs (C.take i),())) (eA h) step fin;rw[show bM dI NN (0,C,T,[],())=_ from this,List.take_length,oBS]
def okZ(z:Int):Bool:=decide (1<=z/\z<=32)
theorem Bf(z:Int):iz z=some (okZ z,()):=by
 unfold iz okZ;by_cases h:z>=1
 ·rw[oDT h,oCT];congr 2;rw[decide_eq_decide];omega
 ·rw[oDF h,oCF,oDF (by omega)]
def shp(C:CC)(T:TT'):Prop:=C.length<=4/\T.length<=4/\∀c∈C,okZ (c.length:Int)=true
instance {C:CC} {T:TT'}:Decidable (shp C T):=inferInstanceAs (Decidable (_/\_/\_))
theorem tG{α:Type}{p:α->Bool}{l:List α}(h:∀i,(hi:i<l.length)->p l[i]=true):∀x∈l,p x=true:=by
 intro x hx;obtain⟨i,hi,rfl⟩:=List.mem_iff_getElem.1 hx;exact h i hi
theorem E1{C:CC}(h:Sm C):cR C=some (!decide (∀c∈C,okZ (c.length:Int)=true),()):=by
 unfold cR fi;delta bJ;dsimp only;have h0:=h
 have step:∀i,i<C.length->((∀hi:i<C.length,okZ (C[i].length:Int)=true)/\bY (C,(C.length:Int),(i:Int),())=some (.inl (C,(C.length:Int),((i+1:Nat):Int),())))\/
  (¬(∀hi:i<C.length,okZ (C[i].length:Int)=true)/\bY (C,(C.length:Int),(i:Int),())=some (.inr (.inl ((i:Int),())))):=by
  intro i hi;unfold bY;dsimp only;rw[oDT (show(i:Int)<C.length by omega),oCT,bN]
  have e:gW C[i]=some (!okZ (C[i].length:Int),()):=by
   unfold gW;delta bJ;dsimp only;rw[Bf];rfl
  simp only[oBS,bQ hi,e];rw[bR (by omega) (by omega)];by_cases q:okZ (C[i].length:Int)=true
  ·exact .inl ⟨λ_=>q,by rw[q];rfl⟩
  ·exact .inr ⟨λg=>q (g hi),by rw[Bool.not_eq_true]at q;rw[q];rfl⟩
 have fin:bY (C,(C.length:Int),(C.length:Int),())=some (.inr (.inr (C,(C.length:Int),(C.length:Int),false,()))):=by
  unfold bY;dsimp only;rw[oDF (show ¬(C.length:Int)<C.length by omega)];rfl
 rcases fD (f:=bY) (λi=>(C,(C.length:Int),(i:Int),())) _ (eA h) step fin with⟨h1,h2⟩|⟨k,hk,_,h1,h2⟩
 ·rw[show bM bY NN (C,(C.length:Int),0,())=_ from h2];rw[oDT (tG (p:=λc:List DCn=>okZ (c.length:Int)) λi hi=>h1 i hi hi)];rfl
 ·rw[show bM bY NN (C,(C.length:Int),0,())=_ from h2];rw[oDF (λg=>h1 λhi=>g _ (List.getElem_mem hi))];simp only[oBS];rw[oDT (show(k:Int)>=0 by omega)];rfl
theorem oz{C:CC}{T:TT'}(h:Sm C):ga C T=some (decide (shp C T),()):=by
 unfold ga;delta bJ;dsimp only;by_cases h1:C.length<=4
 ·rw[oDT (show(C.length:Int)<=4 by omega),oCT];by_cases h2:T.length<=4
  ·rw[oDT (show(T.length:Int)<=4 by omega),oCT,E1 h];simp only[oBS,Bool.not_not];congr 2;rw[decide_eq_decide];exact⟨λg=>⟨h1,h2,g⟩,λg=>g.2.2⟩
  ·rw[oDF (show ¬(T.length:Int)<=4 by omega),oCF,oDF λg=>h2 g.2.1]
 ·rw[oDF (show ¬(C.length:Int)<=4 by omega),oCF,oDF λg=>h1 g.1]
theorem EZ{S:List Int}(h:Sm S)(hok:∀z∈S,okZ z=true):cx S=some (false,()):=by
 unfold cx eC;delta bJ;dsimp only;have h0:=h
 have step:∀i,i<S.length->bP (S,(S.length:Int),(i:Int),())=some (.inl (S,(S.length:Int),((i+1:Nat):Int),())):=by
  intro i hi;unfold bP;dsimp only;rw[oDT (show(i:Int)<S.length by omega),oCT,bN]
  have e:gb S[i]=some (false,()):=by
   unfold gb;rw[Bf,hok _ (List.getElem_mem hi)];rfl
  simp only[oBS,bQ hi,e];rw[bR (by omega) (by omega)];rfl
 have fin:bP (S,(S.length:Int),(S.length:Int),())=some (.inr (.inr (S,(S.length:Int),(S.length:Int),false,()))):=by
  unfold bP;dsimp only;rw[oDF (show ¬(S.length:Int)<S.length by omega)];rfl
 have:=loop_seq (f:=bP) (λi=>(S,(S.length:Int),(i:Int),())) (eA h) step fin;rw[show bM bP NN (S,(S.length:Int),0,())=_ from this];rfl
theorem Io{S:List Int}{n:Nat}(h:Sm S):∃e:Int,dR S n=some (e,())/\(e=0↔S.length<=4/\n<=4/\∀z∈S,okZ z=true):=by
 unfold dR;delta bJ;dsimp only;by_cases h1:S.length<=4
 rotate_left
 ·rw[oDT (show(S.length:Int)>4 by omega),oCT];exact⟨3,rfl,λg=>absurd g (by decide),λg=>absurd g.1 h1⟩
 rw[oDF (show ¬(S.length:Int)>4 by omega),oCF];by_cases h2:n<=4
 rotate_left
 ·rw[oDT (show(n:Int)>4 by omega),oCT];exact⟨3,rfl,λg=>absurd g (by decide),λg=>absurd g.2.1 h2⟩
 rw[oDF (show ¬(n:Int)>4 by omega),oCF];have h0:=h
 have step:∀i,i<S.length->((∀hi:i<S.length,okZ S[i]=true)/\b4 (S,(n:Int),(i:Int),())=some (.inl (S,(n:Int),((i+1:Nat):Int),())))\/
  (¬(∀hi:i<S.length,okZ S[i]=true)/\b4 (S,(n:Int),(i:Int),())=some (.inr (.inl (1,())))):=by
  intro i hi;unfold b4;delta bJ;dsimp only;rw[oDT (show(i:Int)<S.length by omega),oCT,bN];simp only[oBS,bQ hi];rw[bR (by omega) (by omega)];by_cases q1:S[i]<1
  ·rw[oDT q1];exact .inr ⟨λg=>by have:=of_decide_eq_true (g hi);omega,rfl⟩
  ·rw[oDF q1,oCF];by_cases q2:S[i]>32
   ·rw[oDT q2];exact .inr ⟨λg=>by have:=of_decide_eq_true (g hi);omega,rfl⟩
   ·rw[oDF q2,oCF];exact .inl ⟨λ_=>oDT (by omega),rfl⟩
 have fin:b4 (S,(n:Int),(S.length:Int),())=some (.inr (.inr (S,(n:Int),(S.length:Int),false,()))):=by
  unfold b4;delta bJ;dsimp only;rw[oDF (show ¬(S.length:Int)<S.length by omega)];rfl
 rcases fD (f:=b4) (λi=>(S,(n:Int),(i:Int),())) _ (eA h) step fin with⟨g1,g2⟩|⟨k,hk,_,g1,g2⟩
 ·rw[show bM b4 NN (S,(n:Int),0,())=_ from g2];dsimp only;rw[oDF (show ¬(n:Int)<0 by omega)];exact⟨0,rfl,λ_=>⟨h1,h2,tG λi hi=>g1 i hi hi⟩,λ_=>rfl⟩
 ·rw[show bM b4 NN (S,(n:Int),0,())=_ from g2];exact⟨1,rfl,λg=>absurd g (by decide),λg=>absurd (λhi=>g.2.2 _ (List.getElem_mem hi)) g1⟩
theorem Gl{C:CC}{T:TT'}:((szs C).length<=4/\T.length<=4/\∀z∈szs C,okZ z=true)↔shp C T:=by
 unfold shp szs;rw[List.length_map];simp
theorem i9{C:CC}{T:TT'}(h:Sm C):eU C T=some (decide (shp C T),()):=by
 unfold eU;rw[nC h];obtain⟨e,h1,h2⟩:=Io (S:=szs C) (n:=T.length) (show Sm (szs C) by unfold Sm;rw[g7];exact h);rw[Gl]at h2;delta bJ;simp only[oBS,h1];congr 2;rw[Bool.eq_iff_iff,beq_iff_eq,decide_eq_true_iff];exact h2
def rp(z:Int):Nat:=((z+7)/8).toNat
def pN(S:List Int)(i:Nat):List PID:=(List.range (rp (S.getD i 0))).map λ(j:Nat)=>((i:Int),(j:Int))
def pgs(S:List Int)(n:Nat):List PID:=(List.range S.length).flatMap (pN S)++(List.range n).map λ(t:Nat)=>(-1,(t:Int))
def Szs(S:List Int):Prop:=S.length<=4/\∀z∈S,okZ z=true
theorem ze{S:List Int}(h:Szs S){i:Nat}(hi:i<S.length):1<=S[i]/\S[i]<=32:=of_decide_eq_true (h.2 _ (List.getElem_mem hi))
theorem Ik{S:List Int}(h:Szs S){i:Nat}(hi:i<S.length):rp (S.getD i 0)<=4:=by
 have:=ze h hi
 have e:S.getD i 0=S[i]:=by simp[hi]
 rw[e];unfold rp;omega
theorem p9{S:List Int}(h:Szs S):∀i,i<=S.length->((List.range i).flatMap (pN S)).length<=4*i:=by
 intro i
 induction i with
 |zero=>intro _;simp
 |succ i ih=>
  intro hi;rw[List.range_succ,List.flatMap_append,List.length_append];have h1:=ih (by omega)
  have h2:(pN S i).length=rp (S.getD i 0):=by unfold pN;simp
  have h3:=Ik h (i:=i) (by omega);simp only[List.flatMap_cons,List.flatMap_nil,List.append_nil];omega
theorem Ap{S:List Int}(i:Nat):(List.range (i+1)).flatMap (pN S)=(List.range i).flatMap (pN S)++pN S i:=by
 rw[List.range_succ,List.flatMap_append];simp
theorem oD{α:Type}(f:Nat->α)(j:Nat):(List.range (j+1)).map f=(List.range j).map f++[f j]:=by
 rw[List.range_succ,List.map_append];rfl
theorem zF{z:Int}(h:1<=z/\z<=32)(j:Nat):((j:Int)*8<z)↔j<rp z:=by
 unfold rp;omega
theorem zH{S:List Int}{n:Nat}(h:Szs S)(hn:n<=4):dA S n=some (pgs S n,0,()):=by
 unfold dA;delta bJ;dsimp only;have h4:=h.1;rw[oDF (show ¬(S.length:Int)>4 by omega),oCF,oDF (show ¬(n:Int)>4 by omega),oCF,oDF (show ¬(n:Int)<0 by omega),oCF];rw[EZ (by unfold Sm;omega) h.2,oBS];simp only[oCF]
 have WF:∀i,i<S.length->eq ((n:Int),S,(S.length:Int),(i:Int),(List.range i).flatMap (pN S),())=some (.inl ((n:Int),S,(S.length:Int),((i+1:Nat):Int),(List.range (i+1)).flatMap (pN S),())):=by
  intro i hi;have hz:=ze h hi;have hl:=p9 h i (by omega);have hc:=Ik h hi
  have eg:S.getD i 0=S[i]:=by simp[hi]
  unfold eq;dsimp only;rw[oDT (show(i:Int)<S.length by omega),oCT,bN];simp only[oBS,bQ hi]
  let A:=(List.range i).flatMap (pN S)
  let st:Nat->_:=λj=>((n:Int),(i:Int),S[i],(j:Int),S,(S.length:Int),(i:Int),A++(List.range j).map (λ(j:Nat)=>(((i:Int),(j:Int)):PID)),())
  have WE:∀j,j<rp S[i]->dz (st j)=some (.inl (st (j+1))):=by
   intro j hj;show dz ((n:Int),(i:Int),S[i],(j:Int),S,(S.length:Int),(i:Int),A++(List.range j).map (λ(j:Nat)=>(((i:Int),(j:Int)):PID)),())=_;unfold dz;dsimp only;rw[eg]at hc;rw[bR (x:=(j:Int)*8) (by omega) (by omega),oDT ((zF hz j).2 hj),oCT];have hA:A.length<=4*i:=hl;rw[bT (by rw[List.length_append,List.length_map,List.length_range];omega) (by simp) (by omega) (by rw[List.length_append,List.length_map,List.length_range,List.length_singleton];omega),oCT,bR (by omega) (by omega)]
   have e:List.append (A++(List.range j).map (λ(j:Nat)=>(((i:Int),(j:Int)):PID))) [((i:Int),(j:Int))]=A++(List.range (j+1)).map (λ(j:Nat)=>(((i:Int),(j:Int)):PID)):=by
    rw[oD,<- List.append_assoc];rfl
   rw[e];rfl
  have Up:dz (st (rp S[i]))=some (.inr ((n:Int),(i:Int),S[i],(rp S[i]:Int),S,(S.length:Int),(i:Int),false,A++(List.range (rp S[i])).map (λ(j:Nat)=>(((i:Int),(j:Int)):PID)),())):=by
   show dz ((n:Int),(i:Int),S[i],(rp S[i]:Int),S,(S.length:Int),(i:Int),A++(List.range (rp S[i])).map (λ(j:Nat)=>(((i:Int),(j:Int)):PID)),())=_;unfold dz;dsimp only;rw[eg]at hc;rw[bR (x:=(rp S[i]:Int)*8) (by omega) (by omega),oDF (λg=>by have:=(zF hz _).1 g;omega)];rfl
  have hI:=loop_seq (f:=dz) st (n:=rp S[i]) (N:=NN) (by rw[eg]at hc;unfold NN;omega) WE Up
  have e0:st 0=((n:Int),(i:Int),S[i],0,S,(S.length:Int),(i:Int),(List.range i).flatMap (pN S),()):=by
   show((n:Int),(i:Int),S[i],(0:Int),S,(S.length:Int),(i:Int),A++[],())=_;rw[List.append_nil]
  rw[<- e0,hI];simp only[oBS];rw[bR (by omega) (by omega),Ap]
  have er:(List.range (rp S[i])).map (λ(j:Nat)=>(((i:Int),(j:Int)):PID))=pN S i:=by unfold pN;rw[eg]
  rw[er];rfl
 have Uq:eq ((n:Int),S,(S.length:Int),(S.length:Int),(List.range S.length).flatMap (pN S),())=some (.inr ((n:Int),S,(S.length:Int),(S.length:Int),false,(List.range S.length).flatMap (pN S),())):=by
  unfold eq;dsimp only;rw[oDF (show ¬(S.length:Int)<S.length by omega)];rfl
 have hO:=loop_seq (f:=eq) (λi=>((n:Int),S,(S.length:Int),(i:Int),(List.range i).flatMap (pN S),())) (n:=S.length) (N:=NN) (by unfold NN;omega) WF Uq;rw[show bM eq NN ((n:Int),S,(S.length:Int),0,[],())=_ from hO];simp only[oBS];have hl:=p9 h S.length (Nat.le_refl _)
 let B:=(List.range S.length).flatMap (pN S)
 have hB:B.length<=4*S.length:=hl
 let st:Nat->_:=λt=>((n:Int),(t:Int),B++(List.range t).map (λ(t:Nat)=>((-1,(t:Int)):PID)),())
 have WG:∀t,t<n->dy (st t)=some (.inl (st (t+1))):=by
  intro t ht;show dy ((n:Int),(t:Int),B++(List.range t).map (λ(t:Nat)=>((-1,(t:Int)):PID)),())=_;unfold dy;dsimp only;rw[oDT (show(t:Int)<n by omega),oCT];rw[bT (by rw[List.length_append,List.length_map,List.length_range];omega) (by simp) (by omega) (by rw[List.length_append,List.length_map,List.length_range,List.length_singleton];omega),oCT,bR (by omega) (by omega)]
  have e:List.append (B++(List.range t).map (λ(t:Nat)=>((-1,(t:Int)):PID))) [(-1,(t:Int))]=B++(List.range (t+1)).map (λ(t:Nat)=>((-1,(t:Int)):PID)):=by
   rw[oD,<- List.append_assoc];rfl
  rw[e];rfl
 have Ur:dy (st n)=some (.inr ((n:Int),(n:Int),false,B++(List.range n).map (λ(t:Nat)=>((-1,(t:Int)):PID)),())):=by
  show dy ((n:Int),(n:Int),B++(List.range n).map (λ(t:Nat)=>((-1,(t:Int)):PID)),())=_;unfold dy;dsimp only;rw[oDF (show ¬(n:Int)<n by omega)];rfl
 have hT:=loop_seq (f:=dy) st (n:=n) (N:=NN) (by unfold NN;omega) WG Ur
 have e0:st 0=((n:Int),0,B,()):=by
  show((n:Int),(0:Int),B++[],())=_;rw[List.append_nil]
 rw[e0]at hT;rw[hT];rfl
theorem Dn{S:List Int}{n:Nat}(h:Szs S)(hn:n<=4):eJ S n=some (pgs S n,0,()):=by
 unfold eJ;have h4:=h.1;obtain⟨e,h1,h2⟩:=Io (S:=S) (n:=n) (by unfold Sm;omega);have e0:e=0:=h2.2 ⟨h.1,hn,h.2⟩;subst e0;rw[h1,oBS];simp only[bne_self_eq_false,oCF]
 have WF:∀i,i<S.length->d8 (S,(n:Int),(i:Int),(List.range i).flatMap (pN S),())=some (.inl (S,(n:Int),((i+1:Nat):Int),(List.range (i+1)).flatMap (pN S),())):=by
  intro i hi;have hz:=ze h hi;have hl:=p9 h i (by omega);have hc:=Ik h hi
  have eg:S.getD i 0=S[i]:=by simp[hi]
  unfold d8;delta bJ;dsimp only;rw[oDT (show(i:Int)<S.length by omega),oCT]
  let A:=(List.range i).flatMap (pN S)
  let st:Nat->_:=λj=>(S,(n:Int),(i:Int),(j:Int),A++(List.range j).map (λ(j:Nat)=>(((i:Int),(j:Int)):PID)),())
  have WE:∀j,j<rp S[i]->dx (st j)=some (.inl (st (j+1))):=by
   intro j hj;show dx (S,(n:Int),(i:Int),(j:Int),A++(List.range j).map (λ(j:Nat)=>(((i:Int),(j:Int)):PID)),())=_;unfold dx;dsimp only;rw[eg]at hc;rw[bN];simp only[oBS,bQ hi];rw[bR (x:=(j:Int)*8) (by omega) (by omega),oDT ((zF hz j).2 hj),oCT];have hA:A.length<=4*i:=hl;rw[bT (by rw[List.length_append,List.length_map,List.length_range];omega) (by simp) (by omega) (by rw[List.length_append,List.length_map,List.length_range,List.length_singleton];omega),oCT,bR (by omega) (by omega)]
   have e:List.append (A++(List.range j).map (λ(j:Nat)=>(((i:Int),(j:Int)):PID))) [((i:Int),(j:Int))]=A++(List.range (j+1)).map (λ(j:Nat)=>(((i:Int),(j:Int)):PID)):=by
    rw[oD,<- List.append_assoc];rfl
   rw[e];rfl
  have Up:dx (st (rp S[i]))=some (.inr (S,(n:Int),(i:Int),(rp S[i]:Int),false,A++(List.range (rp S[i])).map (λ(j:Nat)=>(((i:Int),(j:Int)):PID)),())):=by
   show dx (S,(n:Int),(i:Int),(rp S[i]:Int),A++(List.range (rp S[i])).map (λ(j:Nat)=>(((i:Int),(j:Int)):PID)),())=_;unfold dx;dsimp only;rw[eg]at hc;rw[bN];simp only[oBS,bQ hi];rw[bR (x:=(rp S[i]:Int)*8) (by omega) (by omega),oDF (λg=>by have:=(zF hz _).1 g;omega)];rfl
  have hI:=loop_seq (f:=dx) st (n:=rp S[i]) (N:=NN) (by rw[eg]at hc;unfold NN;omega) WE Up
  have e0:st 0=(S,(n:Int),(i:Int),0,(List.range i).flatMap (pN S),()):=by
   show(S,(n:Int),(i:Int),(0:Int),A++[],())=_;rw[List.append_nil]
  rw[<- e0,hI];simp only[oBS];rw[bR (by omega) (by omega),Ap]
  have er:(List.range (rp S[i])).map (λ(j:Nat)=>(((i:Int),(j:Int)):PID))=pN S i:=by unfold pN;rw[eg]
  rw[er];rfl
 have Uq:d8 (S,(n:Int),(S.length:Int),(List.range S.length).flatMap (pN S),())=some (.inr (S,(n:Int),(S.length:Int),false,(List.range S.length).flatMap (pN S),())):=by
  unfold d8;delta bJ;dsimp only;rw[oDF (show ¬(S.length:Int)<S.length by omega)];rfl
 have hO:=loop_seq (f:=d8) (λi=>(S,(n:Int),(i:Int),(List.range i).flatMap (pN S),())) (n:=S.length) (N:=NN) (by unfold NN;omega) WF Uq;rw[show bM d8 NN (S,(n:Int),0,[],())=_ from hO];simp only[oBS];have hl:=p9 h S.length (Nat.le_refl _)
 let B:=(List.range S.length).flatMap (pN S)
 have hB:B.length<=4*S.length:=hl
 let st:Nat->_:=λt=>((n:Int),(t:Int),B++(List.range t).map (λ(t:Nat)=>((-1,(t:Int)):PID)),())
 have WG:∀t,t<n->dw (st t)=some (.inl (st (t+1))):=by
  intro t ht;show dw ((n:Int),(t:Int),B++(List.range t).map (λ(t:Nat)=>((-1,(t:Int)):PID)),())=_;unfold dw;dsimp only;rw[oDT (show(t:Int)<n by omega),oCT];rw[bT (by rw[List.length_append,List.length_map,List.length_range];omega) (by simp) (by omega) (by rw[List.length_append,List.length_map,List.length_range,List.length_singleton];omega),oCT,bR (by omega) (by omega)]
  have e:List.append (B++(List.range t).map (λ(t:Nat)=>((-1,(t:Int)):PID))) [(-1,(t:Int))]=B++(List.range (t+1)).map (λ(t:Nat)=>((-1,(t:Int)):PID)):=by
   rw[oD,<- List.append_assoc];rfl
  rw[e];rfl
 have Ur:dw (st n)=some (.inr ((n:Int),(n:Int),false,B++(List.range n).map (λ(t:Nat)=>((-1,(t:Int)):PID)),())):=by
  show dw ((n:Int),(n:Int),B++(List.range n).map (λ(t:Nat)=>((-1,(t:Int)):PID)),())=_;unfold dw;dsimp only;rw[oDF (show ¬(n:Int)<n by omega)];rfl
 have hT:=loop_seq (f:=dw) st (n:=n) (N:=NN) (by unfold NN;omega) WG Ur
 have e0:st 0=((n:Int),0,B,()):=by
  show((n:Int),(0:Int),B++[],())=_;rw[List.append_nil]
 rw[e0]at hT;rw[hT];rfl
abbrev zTs:DTs:=(0,0,0,0,0,0,0,[])
def pg(C:CC)(T:TT')(p:PID):PG:=if p.1=-1 then(p.1,p.2,[],T.getD p.2.toNat zTs)else(p.1,p.2,((C.getD p.1.toNat []).drop (8*p.2.toNat)).take 8,zTs)
def SmT(T:TT'):Prop:=∀t∈T,Sm t.2.2.2.2.2.2.2
theorem Hg{S:List Int}{i:Nat}{p:PID}:p∈pN S i↔∃j:Nat,j<rp (S.getD i 0)/\p=((i:Int),(j:Int)):=by
 unfold pN;simp only[List.mem_map,List.mem_range];exact⟨λ⟨j,h,e⟩=>⟨j,h,e.symm⟩,λ⟨j,h,e⟩=>⟨j,h,e.symm⟩⟩
theorem uh{S:List Int}{n:Nat}{p:PID}:p∈pgs S n↔(∃i j:Nat,i<S.length/\j<rp (S.getD i 0)/\p=((i:Int),(j:Int)))\/∃t:Nat,t<n/\p=(-1,(t:Int)):=by
 unfold pgs;simp only[List.mem_append,List.mem_flatMap,List.mem_range,Hg,List.mem_map];constructor
 ·rintro(⟨i,hi,j,hj,e⟩|⟨t,ht,e⟩)
  ·exact .inl ⟨i,j,hi,hj,e⟩
  ·exact .inr ⟨t,ht,e.symm⟩
 ·rintro(⟨i,j,hi,hj,e⟩|⟨t,ht,e⟩)
  ·exact .inl ⟨i,hi,j,hj,e⟩
  ·exact .inr ⟨t,ht,e.symm⟩
theorem nJ{S:List Int}{n:Nat}(h:Szs S)(hn:n<=4):(pgs S n).length<=20:=by
 have h1:=p9 h S.length (Nat.le_refl _);have h2:=h.1;unfold pgs;rw[List.length_append,List.length_map,List.length_range];omega
theorem mU{C:CC}{T:TT'}(h:shp C T):Szs (szs C):=⟨by rw[g7];exact h.1,(Gl.2 h).2.2⟩
theorem uU{a:List DCn}(h:Sm a):cZ a=some (a,()):=by
 unfold cZ;rw[bT (by omega) h (by omega) (by have:=h;omega),oCT];rfl
theorem wX{C:CC}{i:Nat}(h:i<C.length):(szs C).getD i 0=(C[i].length:Int):=by simp[szs,h]
theorem Fw{l:List DCn}{a:Nat}(h:a<=l.length):pO l a (Nat.sub (Nat.min (a+8) l.length) a)=(l.drop a).take 8:=by
 unfold pO;rcases Nat.le_total (a+8) l.length with h1|h1
 ·rw[show Nat.min (a+8) l.length=a+8 from Nat.min_eq_left h1,show Nat.sub (a+8) a=8 by show a+8-a=8;omega]
 ·rw[show Nat.min (a+8) l.length=l.length from Nat.min_eq_right h1,show Nat.sub l.length a=(l.drop a).length by rw[List.length_drop];rfl,List.take_length,List.take_of_length_le (by rw[List.length_drop];omega)]
theorem BA(a b:Nat):mmR false (a:Int) (b:Int)=(Nat.min a b:Nat):=by
 unfold mmR;simp only[Bool.false_eq_true,if_false];show _=((min a b:Nat):Int);split<;>omega
theorem KX{c:List DCn}{j:Nat}(h:j<rp (c.length:Int)):8*j<c.length:=by
 unfold rp at h;omega
theorem Df{C:CC}{T:TT'}{i j:Nat}(hi:i<C.length):pg C T ((i:Int),(j:Int))=((i:Int),(j:Int),((C[i].drop (8*j)).take 8),zTs):=by
 unfold pg;rw[oIN (by simp)];simp[hi]
theorem qa{C:CC}{T:TT'}{t:Nat}(ht:t<T.length):pg C T (-1,(t:Int))=(-1,(t:Int),[],T[t]):=by
 unfold pg;rw[oIP rfl];simp[ht]
def Oo(x:PG):Int×Int×List DCn×Int×Int×Int×Int×Int×Int×Int×List DCn×Unit:=(x.1,x.2.1,x.2.2.1,x.2.2.2.1,x.2.2.2.2.1,x.2.2.2.2.2.1,x.2.2.2.2.2.2.1,x.2.2.2.2.2.2.2.1,x.2.2.2.2.2.2.2.2.1,x.2.2.2.2.2.2.2.2.2.1,x.2.2.2.2.2.2.2.2.2.2,())
theorem Oj{C:CC}{T:TT'}(h:shp C T)(hT:SmT T){p:PID}(hp:p∈pgs (szs C) T.length):iV C T p.1 p.2=some (Oo (pg C T p)):=by
 unfold iV
 rcases uh.1 hp with⟨i,j,hi,hj,rfl⟩|⟨t,ht,rfl⟩
 ·rw[g7]at hi;rw[wX hi]at hj;have ZY:=KX hj;have hok:=of_decide_eq_true (h.2.2 _ (List.getElem_mem hi));rw[oBF (show((i:Int))≠-1 by omega),oCF,bN];simp only[oBS,bQ hi];unfold eK;delta bJ;dsimp only;rw[oDF (show ¬(j:Int)<0 by omega),oCF,oDF (show ¬(j:Int)>32 by omega),oCF];simp only[oBS];rw[bR (x:=(j:Int)*8) (by omega) (by omega),oDF (show ¬(j:Int)*8>=(C[i].length:Int) by omega),oCF,bR (x:=(j:Int)*8+8) (by omega) (by omega)];rw[show(j:Int)*8=((8*j:Nat):Int) by omega,show((8*j:Nat):Int)+8=((8*j+8:Nat):Int) by omega,BA,bN,bN];simp only[oBS]
  have ho:df (8*j) (Nat.min (8*j+8) C[i].length) C[i].length=true:=by
   unfold df;have h1:Nat.min (8*j+8) C[i].length=min (8*j+8) C[i].length:=rfl;rw[h1];simp only[oBA,oDE];omega
  rw[ho,oCT,Fw (by omega)];simp only[oBS];rw[uU (by unfold Sm;rw[oLT];omega),Df hi];rfl
 ·have hs:Sm (T[t]'ht).2.2.2.2.2.2.2:=hT _ (List.getElem_mem ht);rw[show((-1:Int)==-1)=true from rfl,oCT,bN];simp only[oBS,bQ ht];unfold eN;rw[uU hs,qa ht];rfl
theorem Ol{C:CC}{T:TT'}(h:shp C T)(hT:SmT T){p:PID}(hp:p∈pgs (szs C) T.length):dJ C T p.1 p.2=some ((pg C T p).1,(pg C T p).2.1,(pg C T p).2.2.1,(pg C T p).2.2.2.1,(pg C T p).2.2.2.2.1,(pg C T p).2.2.2.2.2.1,(pg C T p).2.2.2.2.2.2.1,(pg C T p).2.2.2.2.2.2.2.1,(pg C T p).2.2.2.2.2.2.2.2.1,(pg C T p).2.2.2.2.2.2.2.2.2.1,(pg C T p).2.2.2.2.2.2.2.2.2.2,0,()):=by
 unfold dJ;have h4:=h.1;rw[i9 (by unfold Sm;omega),oBS];dsimp only;rw[oDT h];simp only[oNT,oCF]
 rcases uh.1 hp with⟨i,j,hi,hj,rfl⟩|⟨t,ht,rfl⟩
 ·rw[g7]at hi;rw[wX hi]at hj;have ZY:=KX hj;have hok:=of_decide_eq_true (h.2.2 _ (List.getElem_mem hi));rw[oBF (show((i:Int))≠-1 by omega),oCF];delta bJ;dsimp only;rw[oDF (show ¬(i:Int)<0 by omega),oCF,oDF (show ¬(i:Int)>=C.length by omega),oCF,oDF (show ¬(j:Int)<0 by omega),oCF,oDF (show ¬(j:Int)>32 by omega),oCF];rw[bN];simp only[oBS,bQ hi];rw[bR (x:=(j:Int)*8) (by omega) (by omega),oDF (show ¬(j:Int)*8>=(C[i].length:Int) by omega),oCF,bN];simp only[oBS,bQ hi];rw[bR (x:=(j:Int)*8+8) (by omega) (by omega)];rw[show(j:Int)*8=((8*j:Nat):Int) by omega,show((8*j:Nat):Int)+8=((8*j+8:Nat):Int) by omega,BA,bN,bN];simp only[oBS]
  have ho:df (8*j) (Nat.min (8*j+8) C[i].length) C[i].length=true:=by
   unfold df;have h1:Nat.min (8*j+8) C[i].length=min (8*j+8) C[i].length:=rfl;rw[h1];simp only[oBA,oDE];omega
  rw[ho,oCT,Fw (by omega),bT (by omega) (by rw[oLT];omega) (by omega) (by rw[oLT];omega),oCT,Df hi];rfl
 ·have hs:Sm (T[t]'ht).2.2.2.2.2.2.2:=hT _ (List.getElem_mem ht);rw[show((-1:Int)==-1)=true from rfl,oCT];delta bJ;dsimp only;rw[oDF (show ¬(t:Int)<0 by omega),oCF,oDF (show ¬(t:Int)>=T.length by omega),oCF,bN];simp only[oBS,bQ ht];unfold eT;rw[bT (by omega) hs (by omega) (by have:=hs;omega),oCT,qa ht];rfl
theorem IF{C:CC}{T:TT'}(h:shp C T)(hT:SmT T):gZ C T=some ((pgs (szs C) T.length).map (pg C T),0,()):=by
 unfold gZ;have h4:=h.1
 have hS:Sm C:=by unfold Sm;omega
 rw[oz hS,oBS];dsimp only;rw[oDT h];simp only[oNT,oCF];rw[pj hS,oBS];delta bJ;dsimp only;rw[zH (mU h) h.2.1,oBS];dsimp only;have hlen:=nJ (mU h) h.2.1;have hg:∀p∈pgs (szs C) T.length,iV C T p.1 p.2=some (Oo (pg C T p)):=λp hp=>Oj h hT hp;generalize pgs (szs C) T.length=ps at hlen hg⊢
 have step:∀i,i<ps.length->eW ((ps.length:Int),(i:Int),C,T,ps,(ps.take i).map (pg C T),())=some (.inl ((ps.length:Int),((i+1:Nat):Int),C,T,ps,(ps.take (i+1)).map (pg C T),())):=by
  intro i hi;unfold eW;dsimp only;rw[oDT (show(i:Int)<ps.length by omega),oCT,bN];simp only[oBS,bQ hi,hg _ (List.getElem_mem hi)];rw[bT (by rw[List.length_map,oLT];omega) (by simp) (by omega) (by rw[List.length_map,oLT,List.length_singleton];omega),oCT,bR (by omega) (by omega),<- kQ hi];rfl
 have fin:eW ((ps.length:Int),(ps.length:Int),C,T,ps,(ps.take ps.length).map (pg C T),())=some (.inr ((ps.length:Int),(ps.length:Int),false,C,T,ps,(ps.take ps.length).map (pg C T),())):=by
  unfold eW;dsimp only;rw[oDF (show ¬(ps.length:Int)<ps.length by omega)];rfl
 have:=loop_seq (f:=eW) (λi=>((ps.length:Int),(i:Int),C,T,ps,(ps.take i).map (pg C T),())) (n:=ps.length) (N:=NN) (by unfold NN;omega) step fin;rw[show bM eW NN ((ps.length:Int),0,C,T,ps,[],())=_ from this,List.take_length];rfl
theorem IE{C:CC}{T:TT'}(h:¬shp C T)(hS:Sm C):gZ C T=some ([],1,()):=by
 unfold gZ;rw[oz hS,oBS];dsimp only;rw[oDF h];rfl
theorem OL{C:CC}{T:TT'}(h:shp C T)(hT:SmT T):kv C T=some ((pgs (szs C) T.length).map (pg C T),0,()):=by
 unfold kv;have h4:=h.1
 have hS:Sm C:=by unfold Sm;omega
 rw[nC hS,oBS];delta bJ;dsimp only;rw[Dn (mU h) h.2.1,oBS];dsimp only;simp only[bne_self_eq_false,oCF];have hlen:=nJ (mU h) h.2.1;have hg:=λp hp=>Ol h hT (p:=p) hp;generalize pgs (szs C) T.length=ps at hlen hg⊢
 have step:∀i,i<ps.length->eV ((i:Int),C,T,ps,(ps.take i).map (pg C T),())=some (.inl (((i+1:Nat):Int),C,T,ps,(ps.take (i+1)).map (pg C T),())):=by
  intro i hi;unfold eV;delta bJ;dsimp only;rw[oDT (show(i:Int)<ps.length by omega),oCT,bN];simp only[oBS,bQ hi,hg _ (List.getElem_mem hi)];rw[bT (by rw[List.length_map,oLT];omega) (by simp) (by omega) (by rw[List.length_map,oLT,List.length_singleton];omega),oCT,bR (by omega) (by omega),<- kQ hi];rfl
 have fin:eV ((ps.length:Int),C,T,ps,(ps.take ps.length).map (pg C T),())=some (.inr ((ps.length:Int),false,C,T,ps,(ps.take ps.length).map (pg C T),())):=by
  unfold eV;delta bJ;dsimp only;rw[oDF (show ¬(ps.length:Int)<ps.length by omega)];rfl
 have:=loop_seq (f:=eV) (λi=>((i:Int),C,T,ps,(ps.take i).map (pg C T),())) (n:=ps.length) (N:=NN) (by unfold NN;omega) step fin;rw[show bM eV NN (0,C,T,ps,[],())=_ from this,List.take_length];rfl
def ve(C:CC)(T:TT')(D:CC)(U:TT'):Prop:=shp C T/\shp D U/\szs C=szs D/\T.length=U.length
instance {C:CC} {T:TT'} {D:CC} {U:TT'}:Decidable (ve C T D U):=inferInstanceAs (Decidable (_/\_/\_/\_))
def dif(C:CC)(T:TT')(D:CC)(U:TT'):List PID:=(pgs (szs C) T.length).filter λp=>!decide (pg C T p=pg D U p)
theorem tN{α:Type}{q:α->Bool}{l:List α}{i:Nat}(h:i<l.length):(l.take (i+1)).filter q=(l.take i).filter q++bif q l[i]then[l[i]]else[]:=by
 rw[<- fb h,List.filter_append];congr 1
theorem Mi{C:CC}{T:TT'}(p:PID):((pg C T p).1,(pg C T p).2.1)=p:=by
 unfold pg;split<;>rfl
theorem NP{C:CC}{T:TT'}(h:shp C T)(hT:SmT T){p:PID}(hp:p∈pgs (szs C) T.length):Sm (pg C T p).2.2.1/\Sm (pg C T p).2.2.2.2.2.2.2.2.2.2:=by
 rcases uh.1 hp with⟨i,j,hi,hj,rfl⟩|⟨t,ht,rfl⟩
 ·rw[g7]at hi;rw[Df hi];exact⟨by unfold Sm;rw[oLT];omega,by unfold Sm;simp⟩
 ·rw[qa ht];exact⟨by unfold Sm;simp,hT _ (List.getElem_mem ht)⟩
theorem Ie{C:CC}{T:TT'}{D:CC}{U:TT'}(h:shp C T):(dif C T D U).length<=20:=Nat.le_trans (List.length_filter_le _ _) (nJ (mU h) h.2.1)
theorem AK{C:CC}{T:TT'}{D:CC}{U:TT'}(h:ve C T D U)(hT:SmT T)(hU:SmT U):dC C T D U=some (dif C T D U,0,()):=by
 unfold dC;obtain⟨h1,h2,h3,h4⟩:=h;have k1:=h1.1;have k2:=h2.1
 have hC:Sm C:=by unfold Sm;omega
 have hD:Sm D:=by unfold Sm;omega
 rw[IF h1 hT,oBS];dsimp only;rw[IF h2 hU,oBS];dsimp only;simp only[bne_self_eq_false,oCF];rw[pj hC,oBS];dsimp only;rw[pj hD,oBS];dsimp only;rw[K5 (by unfold Sm;rw[g7];omega),oBS,oDT h3];delta bJ;simp only[oNT,oCF,oBS];rw[qf h4,oCF,<- h3,<- h4];unfold dif;have hlen:=nJ (mU h1) h1.2.1;have hm:∀p∈pgs (szs C) T.length,Sm (pg C T p).2.2.1/\Sm (pg C T p).2.2.2.2.2.2.2.2.2.2:=λp hp=>NP h1 hT hp;generalize pgs (szs C) T.length=ps at hlen hm⊢;rw[List.length_map]
 have step:∀i,i<ps.length->cV ((ps.length:Int),(i:Int),ps.map (pg C T),ps.map (pg D U),(ps.take i).filter (λp=>!decide (pg C T p=pg D U p)),())=
  some (.inl ((ps.length:Int),((i+1:Nat):Int),ps.map (pg C T),ps.map (pg D U),(ps.take (i+1)).filter (λp=>!decide (pg C T p=pg D U p)),())):=by
  intro i hi
  have VH:i<(ps.map (pg C T)).length:=by rw[List.length_map];exact hi
  have hi2:i<(ps.map (pg D U)).length:=by rw[List.length_map];exact hi
  obtain⟨m1,m2⟩:=hm _ (List.getElem_mem hi);unfold cV;dsimp only;rw[oDT (show(i:Int)<ps.length by omega),oCT,bN];simp only[oBS,bQ VH,bQ hi2,List.getElem_map];rw[MP m1 m2];simp only[oBS];rw[tN hi];by_cases e:pg C T ps[i]=pg D U ps[i]
  ·rw[oDT e];simp only[oNT,oCF,oBS,List.append_nil];rw[bR (by omega) (by omega)];rfl
  ·rw[oDF e];simp only[Bool.not_false,oCT,oBS];have hf:=List.length_filter_le (λp=>!decide (pg C T p=pg D U p)) (ps.take i);rw[oLT]at hf;rw[bT (Nat.le_trans hf (by omega)) (by simp) (by omega) (Nat.le_trans (Nat.add_le_add_right hf _) (by rw[List.length_singleton];omega)),oCT,Mi];simp only[oBS];rw[bR (by omega) (by omega)];rfl
 have fin:cV ((ps.length:Int),(ps.length:Int),ps.map (pg C T),ps.map (pg D U),(ps.take ps.length).filter (λp=>!decide (pg C T p=pg D U p)),())=
  some (.inr ((ps.length:Int),(ps.length:Int),false,ps.map (pg C T),ps.map (pg D U),(ps.take ps.length).filter (λp=>!decide (pg C T p=pg D U p)),())):=by
  unfold cV;dsimp only;rw[oDF (show ¬(ps.length:Int)<ps.length by omega)];rfl
 have:=loop_seq (f:=cV) (λi=>((ps.length:Int),(i:Int),ps.map (pg C T),ps.map (pg D U),(ps.take i).filter (λp=>!decide (pg C T p=pg D U p)),())) (n:=ps.length) (N:=NN) (by unfold NN;omega) step fin;rw[show bM cV NN ((ps.length:Int),0,ps.map (pg C T),ps.map (pg D U),[],())=_ from this,List.take_length];rfl
theorem wO{C:CC}{T:TT'}{D:CC}{U:TT'}(h:¬ve C T D U)(hC:Sm C)(hD:Sm D)(hT:SmT T)(hU:SmT U):dC C T D U=some ([],1,()):=by
 unfold dC;by_cases h1:shp C T
 rotate_left
 ·rw[IE h1 hC,oBS];dsimp only;by_cases h2:shp D U
  ·rw[IF h2 hU];rfl
  ·rw[IE h2 hD];rfl
 rw[IF h1 hT,oBS];dsimp only;by_cases h2:shp D U
 rotate_left
 ·rw[IE h2 hD];rfl
 rw[IF h2 hU,oBS];dsimp only;simp only[bne_self_eq_false,oCF];rw[pj hC,oBS];dsimp only;rw[pj hD,oBS];dsimp only;rw[K5 (by unfold Sm;rw[g7];exact hC),oBS];by_cases h3:szs C=szs D
 rotate_left
 ·rw[oDF h3];rfl
 rw[oDT h3];delta bJ;simp only[oNT,oCF,oBS];rw[mw λh4=>h ⟨h1,h2,h3,h4⟩];rfl
theorem AM{C:CC}{T:TT'}{D:CC}{U:TT'}(h:ve C T D U)(hT:SmT T)(hU:SmT U):du C T D U=some (dif C T D U,0,()):=by
 unfold du;obtain⟨h1,h2,h3,h4⟩:=h;have k1:=h1.1;have k2:=h2.1
 have hC:Sm C:=by unfold Sm;omega
 have hD:Sm D:=by unfold Sm;omega
 rw[i9 hC,oDT h1,oBS];dsimp only;rw[i9 hD,oDT h2,oBS];simp only[oNT,oCF];rw[nC hC,oBS];dsimp only;rw[nC hD,oBS];dsimp only;rw[zr (by unfold Sm;rw[g7];omega),oBS,oDT h3];delta bJ;simp only[oNT,oCF,oBS];rw[qf h4,oCF,OL h1 hT,oBS];dsimp only;rw[OL h2 hU,oBS,<- h3,<- h4];dsimp only;unfold dif;have hlen:=nJ (mU h1) h1.2.1;have hm:∀p∈pgs (szs C) T.length,Sm (pg C T p).2.2.1/\Sm (pg C T p).2.2.2.2.2.2.2.2.2.2:=λp hp=>NP h1 hT hp;generalize pgs (szs C) T.length=ps at hlen hm⊢
 have step:∀i,i<ps.length->cT ((i:Int),ps.map (pg C T),ps.map (pg D U),(ps.take i).filter (λp=>!decide (pg C T p=pg D U p)),())=
  some (.inl (((i+1:Nat):Int),ps.map (pg C T),ps.map (pg D U),(ps.take (i+1)).filter (λp=>!decide (pg C T p=pg D U p)),())):=by
  intro i hi
  have VH:i<(ps.map (pg C T)).length:=by rw[List.length_map];exact hi
  have hi2:i<(ps.map (pg D U)).length:=by rw[List.length_map];exact hi
  obtain⟨m1,m2⟩:=hm _ (List.getElem_mem hi);unfold cT;delta bJ;dsimp only;rw[oDT (show(i:Int)<((ps.map (pg C T)).length:Int) by omega),oCT,bN];simp only[oBS,bQ VH,bQ hi2,List.getElem_map];rw[MO m1 m2];simp only[oBS];rw[tN hi];by_cases e:pg C T ps[i]=pg D U ps[i]
  ·rw[oDT e];simp only[oNT,oCF,oBS,List.append_nil];rw[bR (by omega) (by omega)];rfl
  ·rw[oDF e];simp only[Bool.not_false,oCT,oBS];have hf:=List.length_filter_le (λp=>!decide (pg C T p=pg D U p)) (ps.take i);rw[oLT]at hf;rw[bT (Nat.le_trans hf (by omega)) (by simp) (by omega) (Nat.le_trans (Nat.add_le_add_right hf _) (by rw[List.length_singleton];omega)),oCT,Mi];simp only[oBS];rw[bR (by omega) (by omega)];rfl
 have fin:cT ((ps.length:Int),ps.map (pg C T),ps.map (pg D U),(ps.take ps.length).filter (λp=>!decide (pg C T p=pg D U p)),())=
  some (.inr ((ps.length:Int),false,ps.map (pg C T),ps.map (pg D U),(ps.take ps.length).filter (λp=>!decide (pg C T p=pg D U p)),())):=by
  unfold cT;delta bJ;dsimp only;rw[oDF (show ¬(ps.length:Int)<((ps.map (pg C T)).length:Int) by rw[List.length_map];omega)];rfl
 have:=loop_seq (f:=cT) (λi=>((i:Int),ps.map (pg C T),ps.map (pg D U),(ps.take i).filter (λp=>!decide (pg C T p=pg D U p)),())) (n:=ps.length) (N:=NN) (by unfold NN;omega) step fin;rw[show bM cT NN (0,ps.map (pg C T),ps.map (pg D U),[],())=_ from this,List.take_length];rfl
theorem wP{C:CC}{T:TT'}{D:CC}{U:TT'}(h:¬ve C T D U)(hC:Sm C)(hD:Sm D):du C T D U=some ([],1,()):=by
 unfold du;rw[i9 hC,oBS];dsimp only;by_cases h1:shp C T
 rotate_left
 ·rw[oDF h1];rfl
 rw[oDT h1];simp only[oNT,oCF];rw[i9 hD,oBS];dsimp only;by_cases h2:shp D U
 rotate_left
 ·rw[oDF h2];rfl
 rw[oDT h2];simp only[oNT,oCF];rw[nC hC,oBS];dsimp only;rw[nC hD,oBS];dsimp only;rw[zr (by unfold Sm;rw[g7];exact hC),oBS];by_cases h3:szs C=szs D
 rotate_left
 ·rw[oDF h3];rfl
 rw[oDT h3];delta bJ;simp only[oNT,oCF,oBS];rw[mw λh4=>h ⟨h1,h2,h3,h4⟩];rfl
theorem DK{v:DTs}(h:Sm v.2.2.2.2.2.2.2):eT v.1 v.2.1 v.2.2.1 v.2.2.2.1 v.2.2.2.2.1 v.2.2.2.2.2.1 v.2.2.2.2.2.2.1 v.2.2.2.2.2.2.2=some (v.1,v.2.1,v.2.2.1,v.2.2.2.1,v.2.2.2.2.1,v.2.2.2.2.2.1,v.2.2.2.2.2.2.1,v.2.2.2.2.2.2.2,()):=by
 unfold eT;rw[bT (by omega) h (by omega) (by have:=h;omega),oCT];rfl
theorem D9{T:TT'}{i:Nat}{v:DTs}(h:SmT T)(hv:Sm v.2.2.2.2.2.2.2):SmT (T.modify i λ_=>v):=by
 intro t ht;obtain⟨j,hj⟩:=List.mem_iff_getElem?.1 ht;rw[List.getElem?_modify]at hj
 cases e:T[j]? with
 |none=>rw[e]at hj;simp at hj
 |some u=>
  rw[e]at hj;have hj:some (if i=j then v else u)=some t:=hj
  injection hj with hj
  split at hj
  ·rw[<- hj];exact hv
  ·rw[<- hj];exact h _ (List.mem_of_getElem? e)
theorem D6{c x:List DCn}{a:Nat}(h:a+x.length<=c.length):(pi c a x.length x).length=c.length:=by
 unfold pi;rw[List.take_length,List.length_append,List.length_append,oLT,List.length_drop,Nat.min_eq_left (by omega)];omega
theorem N3{c:List DCn}{j:Nat}(hc:c.length<=32)(h:8*j<c.length):eK c (j:Int)=some ((c.drop (8*j)).take 8,()):=by
 unfold eK;delta bJ;dsimp only;rw[oDF (show ¬(j:Int)<0 by omega),oCF,oDF (show ¬(j:Int)>32 by omega),oCF];simp only[oBS];rw[bR (x:=(j:Int)*8) (by omega) (by omega),oDF (show ¬(j:Int)*8>=(c.length:Int) by omega),oCF,bR (x:=(j:Int)*8+8) (by omega) (by omega)];rw[show(j:Int)*8=((8*j:Nat):Int) by omega,show((8*j:Nat):Int)+8=((8*j+8:Nat):Int) by omega,BA,bN,bN];simp only[oBS]
 have ho:df (8*j) (Nat.min (8*j+8) c.length) c.length=true:=by
  unfold df;have h1:Nat.min (8*j+8) c.length=min (8*j+8) c.length:=rfl;rw[h1];simp only[oBA,oDE];omega
 rw[ho,oCT,Fw (by omega)]
abbrev Cls:Type:=Bool×(List Int)×List Int
def Byt(l:List Int):Prop:=∀x∈l,0<=x/\x<=255
theorem wN(l:List Int):(mK l).data.toList=l.map λn=>UInt8.ofNat n.toNat:=by
 have Z0:∀(l:List Int)(r:ByteArray),(l.foldl (λr n=>r.push (UInt8.ofNat n.toNat)) r).data.toList=r.data.toList++l.map λn=>UInt8.ofNat n.toNat:=by
  intro l
  induction l with
  |nil=>intro r;simp
  |cons x l ih=>intro r;rw[List.foldl_cons,ih];simp[ByteArray.push]
 unfold mK;rw[Z0];rfl
theorem oI{a b:List Int}(ha:Byt a)(hb:Byt b):IS (mK a) (mK b)=true↔a=b:=by
 unfold IS;rw[ByteArray.toList_eq,ByteArray.toList_eq,wN,wN,beq_iff_eq];refine⟨λh=>?_,λh=>by rw[h]⟩
 induction a generalizing b with
 |nil=>cases b with
  |nil=>rfl
  |cons y b=>simp at h
 |cons x a ih=>
  cases b with
  |nil=>simp at h
  |cons y b=>
   simp only[List.map_cons,List.cons.injEq]at h;have e:=ih (λz hz=>ha z (List.mem_cons_of_mem _ hz)) (λz hz=>hb z (List.mem_cons_of_mem _ hz)) h.2;have p:=ha x List.mem_cons_self;have q:=hb y List.mem_cons_self
   have e0:x.toNat=y.toNat:=by
    have:=congrArg UInt8.toNat h.1;simpa[UInt8.toNat_ofNat',Nat.mod_eq_of_lt (show x.toNat<256 by omega),Nat.mod_eq_of_lt (show y.toNat<256 by omega)]using this
   rw[e,show x=y by omega]
def at_(Q:List Cls)(b:List Int):Nat:=Q.findIdx λc=>decide (b=c.2.1)
def PD(L:List (List Int))(b:List Int)(i:Nat):List Int:=((List.range i).filter λj=>decide (L.getD j []=b)).map λj:Nat=>((j:Nat):Int)
structure PS (L:List (List Int))(Q:List Cls)(i:Nat):Prop where
 nd:(Q.map λc=>c.2.1).Nodup
 mem:∀c∈Q,c.2.2=PD L c.2.1 i
 all:∀j,j<i->∃c∈Q,c.2.1=L.getD j []
 sum:(Q.map λc=>c.2.2.length).sum=i
def iN(o c:Cls):Cls:=if c.1=true/\c.2.2.length>o.2.2.length then c else o
theorem GS{c0:Cls}:∀{Q:List Cls},(∀c∈Q,c.2.2.length<=c0.2.2.length)->Q.foldl iN c0=c0:=by
 intro Q
 induction Q with
 |nil=>intro _;rfl
 |cons c Q ih=>
  intro h;rw[List.foldl_cons]
  have e:iN c0 c=c0:=by
   unfold iN;rw[oIN (by have:=h c List.mem_cons_self;omega)]
  rw[e];exact ih λc hc=>h c (List.mem_cons_of_mem _ hc)
theorem GT{c0:Cls}(h0:c0.1=true):∀{Q:List Cls}{o:Cls},c0∈Q->(∀c∈Q,c=c0\/c.2.2.length<c0.2.2.length)->o.2.2.length<c0.2.2.length->Q.foldl iN o=c0:=by
 intro Q
 induction Q with
 |nil=>intro o h;cases h
 |cons c Q ih=>
  intro o hm h ho;rw[List.foldl_cons];have hQ:∀c∈Q,c=c0\/c.2.2.length<c0.2.2.length:=λc hc=>h c (List.mem_cons_of_mem _ hc);rcases h c List.mem_cons_self with rfl|g
  ·have e:iN o c=c:=by
    unfold iN;rw[oIP ⟨h0,ho⟩]
   rw[e]
   exact GS λc' hc=>by
    rcases hQ c' hc with rfl|g
    ·exact Nat.le_refl _
    ·omega
  ·have To:c0∈Q:=by
    rcases List.mem_cons.1 hm with rfl|h1
    ·omega
    ·exact h1
   refine ih To hQ ?_;unfold iN;split
   ·exact g
   ·exact ho
theorem OG{Q:List Cls}(hs:Sm Q):mn Q=some ((Q.foldl iN (false,([],[]))).1,(Q.foldl iN (false,([],[]))).2.1,(Q.foldl iN (false,([],[]))).2.2,()):=by
 unfold mn;delta bJ;dsimp only
 have l0:=loop_seq (f:=gI) (st:=λi=>(Q,(Q.length:Int),(i:Int),false,(),(),((Q.take i).foldl iN (false,([],[]))).1,((Q.take i).foldl iN (false,([],[]))).2.1,((Q.take i).foldl iN (false,([],[]))).2.2,())) (n:=Q.length) (N:=NN) (fin:=(Q,(Q.length:Int),(Q.length:Int),false,false,(),(),((Q.take Q.length).foldl iN (false,([],[]))).1,((Q.take Q.length).foldl iN (false,([],[]))).2.1,((Q.take Q.length).foldl iN (false,([],[]))).2.2,())) (eA hs) (λi hi=>by
  unfold gI kr;delta bJ;dsimp only;rw[oDT (show(i:Int)<(Q.length:Int) by omega),oCT,bN];simp only[oBS];rw[bQ hi];simp only[oBS];rw[<- fb hi,List.foldl_append,List.foldl_cons,List.foldl_nil];generalize(Q.take i).foldl iN (false,([],[]))=o;have hw:w64 ((i:Int)+1)=(i:Int)+1:=bR (by omega) (by unfold Sm at hs;omega);unfold iN
  cases hc:Q[i].1 with
  |true=>
   rw[oCT];simp only[oBS];by_cases g:Q[i].2.2.length>o.2.2.length
   ·rw[oDT (by omega),oCT,oIP ⟨by first|rfl|trivial,g⟩];simp only[oBS];rw[hw,hc];rfl
   ·rw[oDF (by omega),oCF,oIN (λh=>g h.2)];simp only[oBS];rw[hw];rfl
  |false=>
   rw[oCF];simp only[oBS,oCF];rw[oIN (λh=>by cases h.1),hw]
   rfl) (by
  unfold gI;dsimp only
  rw[oDF (by omega),oCF])
 rw[List.take_length]at l0;rw[show bM gI NN (Q,(Q.length:Int),0,false,(),(),false,[],[],())=_ from l0,oBS]
theorem uR{l:List Int}(hs:Sm l)(x:Int):dt l x=some (decide (x∈l),()):=by
 unfold dt is;delta bJ;dsimp only
 rcases fD (f:=cB) (st:=λi=>(l,x,(l.length:Int),(i:Int),())) (p:=λi=>∀h:i<l.length,x≠l[i]) (n:=l.length) (N:=NN) (bad:=λi=>.inl ((i:Int),())) (fin:=.inr (l,x,(l.length:Int),(l.length:Int),false,())) (eA hs) (λi hi=>by
  have e:cB (l,x,(l.length:Int),(i:Int),())=if x=l[i]then some (.inr (.inl ((i:Int),())))else some (.inl (l,x,(l.length:Int),((i+1:Nat):Int),())):=by
   unfold cB;dsimp only;rw[oDT (show(i:Int)<(l.length:Int) by omega),oCT,bN];simp only[oBS];rw[bQ hi];simp only[oBS];by_cases g:x=l[i]
   ·rw[beq_iff_eq.2 g,oCT,oIP g]
   ·rw[oBF g,oCF,oIN g,bR (by omega) (by unfold Sm at hs;omega)];rfl
  by_cases g:x=l[i]
  ·exact .inr ⟨λh=>h hi g,by rw[e,oIP g]⟩
  ·exact .inl ⟨λ_=>g,by rw[e,oIN g]⟩) (by
  unfold cB;dsimp only
  rw[oDF (by omega),oCF])with⟨hp,e⟩|⟨k,hk,hp,hn,e⟩
 ·rw[show bM cB NN (l,x,(l.length:Int),0,())=_ from e,oDF (show ¬x∈l from λhm=>by
   obtain⟨i,hi,e⟩:=List.mem_iff_getElem.1 hm
   exact hp i hi hi e.symm)]
  rfl
 ·have ZZ:x=l[k]:=Classical.byContradiction λh=>hn λ_=>h;rw[show bM cB NN (l,x,(l.length:Int),0,())=_ from e,oDT (show x∈l from ZZ▸List.getElem_mem hk)];dsimp only;rw[oBS];dsimp only;rw[oDT (show(k:Int)>=0 from Int.natCast_nonneg k)]
def lost(L:List (List Int))(b:List Int)(i:Nat):List Int:=((List.range i).filter λj=>decide (L.getD j []≠b)).map λj:Nat=>((j:Nat):Int)
abbrev jN:Type:=Bool×List Int
def gj(c:Cls):jN:=(c.1,c.2.1)
def atK(Q:List Cls)(k:jN):Nat:=Q.findIdx λc=>decide (k=gj c)
theorem IA(Q:List Cls)(k:jN):atK Q k<=Q.length:=List.findIdx_le_length
def AZ(Q:List Cls)(k:jN)(i:Int):List Cls:=(if atK Q k=Q.length then Q++[(k.1,(k.2,[]))]else Q).modify (atK Q k) λe=>(e.1,(e.2.1,e.2.2++[i]))
def gA(W:Nat->Option jN):Nat->List Cls
 |0=>[]
 |i+1=>match W i with
  |none=>gA W i
  |some k=>AZ (gA W i) k i
def xT(W:Nat->Option jN)(k:jN)(i:Nat):List Int:=((List.range i).filter λj=>decide (W j=some k)).map λj:Nat=>((j:Nat):Int)
def jC(W:Nat->Option jN)(i:Nat):Nat:=((List.range i).filter λj=>(W j).isSome).length
theorem oa(W:Nat->Option jN)(i:Nat):jC W (i+1)=jC W i+if(W i).isSome then 1 else 0:=by
 unfold jC;rw[List.range_succ,List.filter_append,List.length_append];cases h:(W i).isSome<;>simp[h]
theorem rV(W:Nat->Option jN)(i:Nat):jC W i<=i:=by
 unfold jC;exact Nat.le_trans (List.length_filter_le _ _) (by simp)
theorem kD(W:Nat->Option jN)(k:jN)(i:Nat):xT W k (i+1)=if W i=some k then xT W k i++[(i:Int)]else xT W k i:=by
 unfold xT;rw[List.range_succ,List.filter_append,List.map_append];by_cases h:W i=some k
 ·rw[oIP h,List.filter_cons_of_pos (by rw[oDT h])];rfl
 ·rw[oIN h,List.filter_cons_of_neg (by rw[oDF h];decide)];simp
theorem tp{W:Nat->Option jN}{k:jN}{i:Nat}{x:Int}:x∈xT W k i↔∃j:Nat,j<i/\W j=some k/\x=j:=by
 unfold xT;simp only[List.mem_map,List.mem_filter,List.mem_range,oDE];exact⟨λ⟨j,⟨h1,h2⟩,h3⟩=>⟨j,h1,h2,h3.symm⟩,λ⟨j,h1,h2,h3⟩=>⟨j,⟨h1,h2⟩,h3.symm⟩⟩
theorem Dt{W:Nat->Option jN}{k k':jN}(h:k≠k'):∀i,(xT W k i).length+(xT W k' i).length<=jC W i:=by
 intro i
 induction i with
 |zero=>simp[xT]
 |succ i ih=>
  rw[kD,kD,oa];by_cases h1:W i=some k
  ·rw[oIP h1,oIN (λh2=>h (Option.some.inj (h1.symm.trans h2))),List.length_append,List.length_singleton,h1];simp only[Option.isSome_some,if_true];omega
  ·rw[oIN h1];by_cases h2:W i=some k'
   ·rw[oIP h2,List.length_append,List.length_singleton,h2];simp only[Option.isSome_some,if_true];omega
   ·rw[oIN h2];omega
theorem J2(W:Nat->Option jN)(k:jN)(i:Nat):(xT W k i).length<=jC W i:=by
 have:=Dt (W:=W) (k:=k) (k':=(!k.1,k.2)) (λe=>by
  have:=congrArg Prod.fst e
  cases h:k.1<;>simp[h]at this) i
 omega
theorem JA{Q:List Cls}{k:jN}(h:atK Q k=Q.length)(i:Int):AZ Q k i=Q++[(k.1,(k.2,[i]))]/\∀c∈Q,gj c≠k:=by
 refine⟨?_,λc hc e=>?_⟩
 ·unfold AZ;rw[oIP h,h];apply List.ext_getElem?;intro n;rw[List.getElem?_modify];by_cases e:Q.length=n
  ·subst e;simp
  ·rcases Nat.lt_or_ge n Q.length with g|g
   ·rw[List.getElem?_append_left g,List.getElem?_append_left g];simp[e]
   ·rw[oGN (by simp;omega),oGN (by simp;omega)];rfl
 ·have h1:atK Q k<Q.length:=List.findIdx_lt_length_of_exists ⟨c,hc,oDT e.symm⟩;omega
theorem Jz{Q:List Cls}{k:jN}(h:atK Q k<Q.length)(i:Int):AZ Q k i=Q.take (atK Q k)++((Q[atK Q k]'h).1,((Q[atK Q k]'h).2.1,(Q[atK Q k]'h).2.2++[i]))::Q.drop (atK Q k+1)/\gj (Q[atK Q k]'h)=k/\Q=Q.take (atK Q k)++(Q[atK Q k]'h)::Q.drop (atK Q k+1):=by
 refine⟨?_,?_,?_⟩
 ·unfold AZ;rw[oIN (by omega),List.modify_eq_take_cons_drop h]
 ·have:=List.findIdx_getElem (xs:=Q) (p:=λc:Cls=>decide (k=gj c)) (w:=h);exact(of_decide_eq_true this).symm
 ·rw[List.getElem_cons_drop,List.take_append_drop]
structure PQ (W:Nat->Option jN)(Q:List Cls)(i:Nat):Prop where
 nd:(Q.map gj).Nodup
 mem:∀c∈Q,c.2.2=xT W (gj c) i/\c.2.2≠[]
 all:∀j k,j<i->W j=some k->∃c∈Q,gj c=k
 sum:(Q.map λc=>c.2.2.length).sum=jC W i
theorem qK(W:Nat->Option jN):∀i,PQ W (gA W i) i:=by
 intro i
 induction i with
 |zero=>exact⟨List.nodup_nil,λc hc=>(by cases hc),λj k hj=>absurd hj (Nat.not_lt_zero _),rfl⟩
 |succ i ih=>
  obtain⟨a,b,c,d⟩:=ih
  cases hW:W i with
  |none=>
   have e:gA W (i+1)=gA W i:=by
    show(match W i with|none=>gA W i|some k=>AZ (gA W i) k i)=_;rw[hW]
   rw[e];refine⟨a,λc' hc=>?_,λj k hj hk=>?_,?_⟩
   ·rw[kD,oIN (by rw[hW];exact λh=>by cases h)];exact b c' hc
   ·by_cases g:j=i
    ·subst g;rw[hW]at hk;cases hk
    ·exact c j k (by omega) hk
   ·rw[oa,hW];simpa using d
  |some kk=>
   have e:gA W (i+1)=AZ (gA W i) kk i:=by
    show(match W i with|none=>gA W i|some k=>AZ (gA W i) k i)=_;rw[hW]
   rw[e];generalize gA W i=Q at a b c d
   have VD:jC W (i+1)=jC W i+1:=by
    rw[oa,hW];rfl
   rcases Nat.lt_or_ge (atK Q kk) Q.length with h|h
   ·obtain⟨e1,e2,e3⟩:=Jz h (i:Int);rw[e1];generalize atK Q kk=n at h e2 e3;generalize hx:Q[n]=x at e2 e3;generalize hA:Q.take n=A at e3;generalize hB:Q.drop (n+1)=B at e3;subst e3
    have hne:∀c,c∈A\/c∈B->gj c≠gj x:=by
     intro c hc e;rw[List.map_append,List.map_cons,List.nodup_append]at a;obtain⟨_,a2,a3⟩:=a;rcases hc with hc|hc
     ·exact a3 _ (List.mem_map_of_mem (f:=gj) hc) _ List.mem_cons_self e
     ·exact(List.nodup_cons.1 a2).1 (e▸List.mem_map_of_mem (f:=gj) hc)
    have XJ:∀m:List Int,gj ((x.1,(x.2.1,m)):Cls)=gj x:=λ_=>rfl;refine⟨by simpa[XJ]using a,λc' hc=>?_,λj k hj hk=>?_,?_⟩
    ·rw[kD,hW];rcases List.mem_append.1 hc with h1|h1
     ·rw[oIN (λe=>hne c' (.inl h1) ((Option.some.inj e).symm.trans e2.symm))];exact b c' (List.mem_append_left _ h1)
     ·rcases List.mem_cons.1 h1 with rfl|h1
      ·rw[XJ,oIP (by rw[e2])];refine⟨?_,by simp⟩;show x.2.2++[(i:Int)]=_;rw[(b x (List.mem_append_right _ List.mem_cons_self)).1]
      ·rw[oIN (λe=>hne c' (.inr h1) ((Option.some.inj e).symm.trans e2.symm))];exact b c' (List.mem_append_right _ (List.mem_cons_of_mem _ h1))
    ·by_cases g:j=i
     ·subst g;rw[hW]at hk
      injection hk with hk
      exact⟨_,List.mem_append_right _ List.mem_cons_self,(XJ _).trans (e2.trans hk)⟩
     ·obtain⟨c',hc,e⟩:=c j k (by omega) hk;rcases List.mem_append.1 hc with h1|h1
      ·exact⟨c',List.mem_append_left _ h1,e⟩
      ·rcases List.mem_cons.1 h1 with rfl|h1
       ·exact⟨_,List.mem_append_right _ List.mem_cons_self,(XJ _).trans e⟩
       ·exact⟨c',List.mem_append_right _ (List.mem_cons_of_mem _ h1),e⟩
    ·rw[VD];simp only[List.map_append,List.map_cons,List.sum_append,List.sum_cons,List.length_append,List.length_singleton]at d⊢;omega
   ·obtain⟨e1,e2⟩:=JA (Nat.le_antisymm (IA _ _) h) (i:Int);rw[e1];have XJ:gj ((kk.1,(kk.2,[(i:Int)])):Cls)=kk:=rfl;refine⟨?_,λc' hc=>?_,λj k hj hk=>?_,?_⟩
    ·rw[List.map_append,List.nodup_append];refine⟨a,by simp,λx hx y hy=>?_⟩;obtain⟨c',hc,rfl⟩:=List.mem_map.1 hx;rw[List.map_singleton,List.mem_singleton,XJ]at hy;subst hy;exact e2 c' hc
    ·rw[kD,hW];rcases List.mem_append.1 hc with h1|h1
     ·rw[oIN (λe=>e2 c' h1 (Option.some.inj e).symm)];exact b c' h1
     ·rw[List.mem_singleton.1 h1,XJ,oIP rfl]
      have:xT W kk i=[]:=List.eq_nil_iff_forall_not_mem.2 λx hx=>by
       obtain⟨j,h3,h4,_⟩:=tp.1 hx;obtain⟨c2,Zp,e⟩:=c j kk h3 h4;exact e2 c2 Zp e
      rw[this];exact⟨rfl,by simp⟩
    ·by_cases g:j=i
     ·subst g;rw[hW]at hk
      injection hk with hk
      exact⟨_,List.mem_append_right _ (List.mem_singleton.2 rfl),XJ.trans hk⟩
     ·obtain⟨c',hc,e⟩:=c j k (by omega) hk;exact⟨c',List.mem_append_left _ hc,e⟩
    ·rw[VD];simp only[List.map_append,List.map_cons,List.map_nil,List.sum_append,List.sum_cons,List.sum_nil,List.length_singleton];omega
theorem Mh{Q:List Cls}:∀{o:Cls},Q.foldl iN o=o\/(Q.foldl iN o∈Q/\(Q.foldl iN o).1=true):=by
 induction Q with
 |nil=>intro o;exact .inl rfl
 |cons c Q ih=>
  intro o;rw[List.foldl_cons]
  rcases ih (o:=iN o c)with h|⟨h1,h2⟩
  ·rw[h];unfold iN;split
   ·rename_i g;exact .inr ⟨List.mem_cons_self,g.1⟩
   ·exact .inl rfl
  ·exact .inr ⟨List.mem_cons_of_mem _ h1,h2⟩
theorem tD(W:Nat->Option jN):∀i,(gA W i).length<=i:=by
 intro i
 induction i with
 |zero=>exact Nat.le_refl _
 |succ i ih=>
  show(match W i with|none=>gA W i|some k=>AZ (gA W i) k i).length<=_
  cases W i with
  |none=>exact Nat.le_succ_of_le ih
  |some k=>
   show(AZ _ _ _).length<=_;unfold AZ;rw[oLM];split
   ·rw[List.length_append,List.length_singleton];omega
   ·omega
theorem Kn{W:Nat->Option jN}{i:Nat}{c:Cls}(h:c∈gA W i):∃j,j<i/\W j=some (gj c):=by
 obtain⟨h1,h2⟩:=(qK W i).mem c h
 cases e:c.2.2 with
 |nil=>exact absurd e h2
 |cons x r=>
  obtain⟨j,h3,h4,_⟩:=tp.1 (show x∈xT W (gj c) i by rw[<- h1,e];exact List.mem_cons_self);exact⟨j,h3,h4⟩
theorem tC{W:Nat->Option jN}{i:Nat}{c:Cls}(h:c∈gA W i):c.2.2.length<=i:=by
 rw[((qK W i).mem c h).1];exact Nat.le_trans (J2 _ _ _) (rV _ _)
def j4(W:Nat->Option jN)(k:jN)(i:Nat):List Int:=((List.range i).filter λj=>(W j).isSome&&decide (W j≠some k)).map λj:Nat=>((j:Nat):Int)
theorem ww(W:Nat->Option jN)(k:jN)(i:Nat):j4 W k (i+1)=if(W i).isSome=true/\W i≠some k then j4 W k i++[(i:Int)]else j4 W k i:=by
 unfold j4;rw[List.range_succ,List.filter_append,List.map_append];by_cases h:(W i).isSome=true/\W i≠some k
 ·rw[oIP h,List.filter_cons_of_pos (by rw[h.1,oDT h.2];rfl)];rfl
 ·rw[oIN h,List.filter_cons_of_neg (by simpa using h),List.filter_nil,List.map_nil,List.append_nil]
theorem zE{W:Nat->Option jN}{k:jN}{i:Nat}{x:Int}:x∈j4 W k i↔∃j:Nat,j<i/\(W j).isSome=true/\W j≠some k/\x=j:=by
 unfold j4;simp only[List.mem_map,List.mem_filter,List.mem_range,oBA,oDE];exact⟨λ⟨j,⟨h1,h2,h4⟩,h3⟩=>⟨j,h1,h2,h4,h3.symm⟩,λ⟨j,h1,h2,h4,h3⟩=>⟨j,⟨h1,h2,h4⟩,h3.symm⟩⟩
theorem qk(W:Nat->Option jN)(k:jN)(i:Nat):(j4 W k i).length+(xT W k i).length=jC W i:=by
 induction i with
 |zero=>simp[j4,xT,jC]
 |succ i ih=>
  rw[ww,kD,oa]
  cases hW:W i with
  |none=>
   rw[oIN (λh=>by cases h.1),oIN (λh=>by cases h)];simpa using ih
  |some kk=>
   by_cases h:kk=k
   ·subst h;rw[oIN (λh=>h.2 rfl),oIP rfl,List.length_append,List.length_singleton];simp only[Option.isSome_some,if_true];omega
   ·rw[oIP ⟨rfl,λe=>h (Option.some.inj e)⟩,oIN (λe=>h (Option.some.inj e)),List.length_append,List.length_singleton];simp only[Option.isSome_some,if_true];omega
abbrev va(Q:List Cls):Cls:=Q.foldl iN (false,([],[]))
theorem CO{l:List Cls}(h:∀c∈l,c.2.2≠[])(hs:(l.map λc=>c.2.2.length).sum=0):l=[]:=by
 cases l with
 |nil=>rfl
 |cons c l=>
  rw[List.map_cons,List.sum_cons]at hs;exact absurd (List.length_eq_zero_iff.1 (show c.2.2.length=0 by omega)) (h c List.mem_cons_self)
structure Maj (W:Nat->Option jN)(N:Nat)(c0:Cls):Prop where
 mem:c0∈gA W N
 here:c0.1=true
 most:jC W N<2*c0.2.2.length
 ids:c0.2.2=xT W (gj c0) N
 best:va (gA W N)=c0
 oth:∀c∈gA W N,c=c0\/2*c.2.2.length<=jC W N
 one:j4 W (gj c0) N=[]↔c0.2.2.length=jC W N
 one':j4 W (gj c0) N=[]↔(gA W N).length=1
theorem Hi(W:Nat->Option jN)(N:Nat):(∃c0,Maj W N c0)\/((∀c∈gA W N,c.1=true->2*c.2.2.length<=jC W N)/\2*(va (gA W N)).2.2.length<=jC W N):=by
 obtain⟨nd,mem,all,sum⟩:=qK W N;by_cases h:∃c0∈gA W N,c0.1=true/\jC W N<2*c0.2.2.length
 ·obtain⟨c0,h1,h2,h3⟩:=h
  have oth:∀c∈gA W N,c=c0\/2*c.2.2.length<=jC W N:=λc hc=>by
   by_cases g:gj c=gj c0
   ·left
    have e1:c.2.2=c0.2.2:=by rw[(mem c hc).1,(mem c0 h1).1,g]
    obtain⟨a1,a2,a3⟩:=c;obtain⟨b1,b2,b3⟩:=c0
    injection g with g1 g2
    show(a1,(a2,a3))=(b1,(b2,b3));rw[show a1=b1 from g1,show a2=b2 from g2,show a3=b3 from e1]
   ·right;have:=Dt (W:=W) g N;rw[<- (mem c hc).1,<- (mem c0 h1).1]at this;omega
  have one:j4 W (gj c0) N=[]↔c0.2.2.length=jC W N:=by
   have:=qk W (gj c0) N;rw[<- (mem c0 h1).1]at this;rw[<- List.length_eq_zero_iff];omega
  refine .inl ⟨c0,h1,h2,h3,(mem c0 h1).1,?_,oth,one,one.trans ?_⟩
  ·refine GT h2 h1 (λc hc=>?_) ?_
   ·rcases oth c hc with g|g
    ·exact .inl g
    ·exact .inr (by omega)
   ·show 0<_;omega
  ·refine⟨λe=>?_,λe=>?_⟩
   ·obtain⟨A,B,hQ⟩:=List.append_of_mem h1;rw[hQ]at sum mem⊢;simp only[List.map_append,List.map_cons,List.sum_append,List.sum_cons]at sum;rw[CO (l:=A) (λc hc=>(mem c (List.mem_append_left _ hc)).2) (by omega),CO (l:=B) (λc hc=>(mem c (List.mem_append_right _ (List.mem_cons_of_mem _ hc))).2) (by omega)];rfl
   ·obtain⟨c,hc⟩:=List.length_eq_one_iff.1 e;rw[hc,List.mem_singleton]at h1;subst h1;rw[hc]at sum;simpa using sum
 ·right
  have h0:∀c∈gA W N,c.1=true->2*c.2.2.length<=jC W N:=λc hc ht=>by
   exact Classical.byContradiction λn=>h ⟨c,hc,ht,by omega⟩
  refine⟨h0,?_⟩
  rcases Mh (Q:=gA W N) (o:=(false,([],[])))with g|⟨g1,g2⟩
  ·show 2*(List.foldl iN (false,([],[])) (gA W N)).2.2.length<=_;rw[g];exact Nat.zero_le _
  ·exact h0 _ g1 g2
theorem Ke{α:Type}(x:α){P:Nat->Prop}[DecidablePred P]:∀n:Nat,(∀i j,P i->P j->i<n->j<n->i=j)->(List.range n).flatMap (λi=>if P i then[x]else[])=if ∃i,i<n/\P i then[x]else[]:=by
 intro n
 induction n with
 |zero=>intro _;simp
 |succ n ih=>
  intro h;rw[List.range_succ,List.flatMap_append,ih λi j a b c d=>h i j a b (by omega) (by omega)];by_cases g:P n
  ·have Zq:¬ ∃i,i<n/\P i:=λ⟨i,h1,h2⟩=>by
    have:=h i n h2 g (by omega) (by omega);omega
   rw[oIN Zq,oIP ⟨n,by omega,g⟩];simp[g]
  ·have e:(∃i,i<n+1/\P i)↔∃i,i<n/\P i:=⟨λ⟨i,h1,h2⟩=>⟨i,by
    by_cases e:i=n
    ·subst e;exact absurd h2 g
    ·omega,h2⟩,λ⟨i,h1,h2⟩=>⟨i,by omega,h2⟩⟩
   simp only[e];simp[g]
theorem wC{α β:Type}{f g:α->List β}:∀{l:List α},(∀x∈l,f x=g x)->l.flatMap f=l.flatMap g:=by
 intro l
 induction l with
 |nil=>intro _;rfl
 |cons x l ih=>
  intro h;rw[List.flatMap_cons,List.flatMap_cons,h x List.mem_cons_self,ih λy hy=>h y (List.mem_cons_of_mem _ hy)]
theorem Hq{Q:List Cls}(nd:(Q.map gj).Nodup){i j:Nat}(hi:i<Q.length)(hj:j<Q.length)(h:gj Q[i]=gj Q[j]):i=j:=by
 have hp:=List.pairwise_iff_getElem.1 nd;rcases Nat.lt_trichotomy i j with g|g|g
 ·exact absurd (by rw[List.getElem_map,List.getElem_map];exact h) (hp i j (by simpa using hi) (by simpa using hj) g)
 ·exact g
 ·exact absurd (by rw[List.getElem_map,List.getElem_map];exact h.symm) (hp j i (by simpa using hj) (by simpa using hi) g)
theorem B7{α β:Type}(q:α->Bool)(f:α->β)(l:List α):l.flatMap (λr=>if q r=true then[f r]else[])=(l.filter q).map f:=by
 induction l with
 |nil=>rfl
 |cons x l ih=>
  rw[List.flatMap_cons,ih];cases h:q x<;>simp[h]
theorem zu(q:Nat->Bool)(N:Nat):∀d,(∀r,N<=r->q r=false)->(List.range (N+d)).filter q=(List.range N).filter q:=by
 intro d
 induction d with
 |zero=>intro _;rfl
 |succ d ih=>
  intro h;rw[<- Nat.add_assoc,List.range_succ,List.filter_append,ih h];simp[h (N+d) (by omega)]
theorem BQ(W:Nat->Option jN)(k:jN)(N r:Nat):(xT W k N).filter (λx=>x==(r:Int))=if r<N/\W r=some k then[(r:Int)]else[]:=by
 induction N with
 |zero=>simp[xT]
 |succ N ih=>
  rw[kD];by_cases h:W N=some k
  ·rw[oIP h,List.filter_append,ih];by_cases e:N=r
   ·subst e;rw[oIN (by omega),oIP ⟨by omega,h⟩];simp
   ·have e':((N:Int)==(r:Int))=false:=oBF (by omega);simp only[List.filter_cons,e',List.filter_nil,List.append_nil,Bool.false_eq_true,if_false];by_cases g:r<N/\W r=some k
    ·rw[oIP g,oIP ⟨by omega,g.2⟩]
    ·rw[oIN g,oIN (λg'=>g ⟨by omega,g'.2⟩)]
  ·rw[oIN h,ih];by_cases g:r<N/\W r=some k
   ·rw[oIP g,oIP ⟨by omega,g.2⟩]
   ·rw[oIN g,oIN (λg'=>g ⟨by
     by_cases e:r=N
     ·subst e;exact absurd g'.2 h
     ·omega,g'.2⟩)]
def vk(Q:List Cls)(b r i:Nat):List Int:=(List.range i).flatMap λi=>if i=b then[]else(Q.getD i (false,([],[]))).2.2.filter λx=>x==(r:Int)
theorem Mk{W:Nat->Option jN}{N:Nat}{b:Nat}(hb:b<(gA W N).length)(r:Nat):vk (gA W N) b r (gA W N).length=if((decide (r<N))&&((W r).isSome&&decide (W r≠some (gj ((gA W N)[b]'hb)))))=true then[(r:Int)]else[]:=by
 obtain⟨nd,mem,all,sum⟩:=qK W N;generalize gA W N=Q at *
 have e1:vk Q b r Q.length=(List.range Q.length).flatMap λi=>if i≠b/\i<Q.length/\r<N/\W r=some (gj (Q.getD i (false,([],[]))))then[(r:Int)]else[]:=by
  unfold vk;apply wC;intro i hi;have hi:=List.mem_range.1 hi
  have hg:Q.getD i (false,([],[]))=Q[i]:=by rw[oGD,oGE hi,Option.getD_some]
  by_cases e:i=b
  ·rw[oIP e,oIN (λh=>h.1 e)]
  ·rw[oIN e,hg,(mem _ (List.getElem_mem hi)).1,BQ];by_cases g:r<N/\W r=some (gj Q[i])
   ·rw[oIP g,oIP ⟨e,hi,g⟩]
   ·rw[oIN g,oIN (λh=>g h.2.2)]
 rw[e1,Ke (r:Int) (P:=λi=>i≠b/\i<Q.length/\r<N/\W r=some (gj (Q.getD i (false,([],[]))))) Q.length (λi j h1 h2 hi hj=>by
  have hk:gj (Q.getD i (false,([],[])))=gj (Q.getD j (false,([],[]))):=Option.some.inj (h1.2.2.2.symm.trans h2.2.2.2);rw[oGD,oGE hi,Option.getD_some,oGD,oGE hj,Option.getD_some]at hk
  exact Hq nd hi hj hk)]
 by_cases g:r<N/\(W r).isSome=true/\W r≠some (gj Q[b])
 ·have hE:∃i,i<Q.length/\(i≠b/\i<Q.length/\r<N/\W r=some (gj (Q.getD i (false,([],[]))))):=by
   obtain⟨k,hk⟩:=Option.isSome_iff_exists.1 g.2.1;obtain⟨c,hc,e⟩:=all r k g.1 hk;obtain⟨i,hi,rfl⟩:=List.mem_iff_getElem.1 hc;refine⟨i,hi,λe2=>?_,hi,g.1,?_⟩
   ·subst e2;exact g.2.2 (by rw[hk,e])
   ·rw[oGD,oGE hi,Option.getD_some,e,hk]
  rw[oIP hE,oIP (by rw[oDT g.1,g.2.1,oDT g.2.2];rfl)]
 ·have hE:¬ ∃i,i<Q.length/\(i≠b/\i<Q.length/\r<N/\W r=some (gj (Q.getD i (false,([],[]))))):=by
   rintro⟨i,hi,h1,_,h2,h3⟩;rw[oGD,oGE hi,Option.getD_some]at h3;refine g ⟨h2,by rw[h3];rfl,λh4=>h1 ?_⟩;exact Hq nd hi hb (Option.some.inj (h3.symm.trans h4))
  rw[oIN hE,oIN (λh=>g (by simpa using h))]
theorem Ml{W:Nat->Option jN}{N:Nat}(hN:N<=5){b:Nat}(hb:b<(gA W N).length):(List.range 5).flatMap (λr=>vk (gA W N) b r (gA W N).length)=j4 W (gj ((gA W N)[b]'hb)) N:=by
 have e:(List.range 5).flatMap (λr=>vk (gA W N) b r (gA W N).length)=(List.range 5).flatMap λr:Nat=>if((decide (r<N))&&((W r).isSome&&decide (W r≠some (gj ((gA W N)[b]'hb)))))=true then[(r:Int)]else[]:=wC λr _=>Mk hb r
 rw[e,B7 (λr:Nat=>((decide (r<N))&&((W r).isSome&&decide (W r≠some (gj ((gA W N)[b]'hb)))))) (λr:Nat=>(r:Int)),show(5:Nat)=N+(5-N) by omega,zu _ N _ λr hr=>by rw[oDF (by omega)];rfl];unfold j4;congr 1;apply List.filter_congr;intro r hr;rw[oDT (List.mem_range.1 hr),Bool.true_and]
abbrev Ans:Type:=Bool×List Int
def nrm(a:Ans):jN:=(a.1,bif a.1 then a.2 else[])
def tM(A:List Ans)(I:List Bool)(i:Nat):Option jN:=if I.getD i false=true then some (nrm (A.getD i (false,[])))else none
structure yU (k:jN):Prop where
 byt:Byt k.2
 sm:Sm k.2
 nil:k.1=false->k.2=[]
structure vj (A:List Ans):Prop where
 byt:∀a∈A,Byt a.2
 sm:∀a∈A,Sm a.2
theorem N6{a:Ans}(h:Byt a.2)(h2:Sm a.2):yU (nrm a):=by
 unfold nrm
 cases a.1 with
 |true=>exact⟨h,h2,λe=>by cases e⟩
 |false=>exact⟨λx hx=>(by cases hx),(by simp[Sm]),λ_=>rfl⟩
theorem cP{α:Type}{l:List α}{i:Nat}{d:α}(h:i<l.length):l.getD i d=l[i]:=by rw[oGD,oGE h,Option.getD_some]
theorem Lh{A:List Ans}(hA:vj A)(i:Nat):Byt (A.getD i (false,[])).2/\Sm (A.getD i (false,[])).2:=by
 rcases Nat.lt_or_ge i A.length with h|h
 ·rw[cP h];exact⟨hA.byt _ (List.getElem_mem h),hA.sm _ (List.getElem_mem h)⟩
 ·rw[oGD,oGN h];exact⟨λx hx=>(by cases hx),(by simp[Sm])⟩
theorem NB{A:List Ans}(hA:vj A){I:List Bool}{i:Nat}{k:jN}(h:tM A I i=some k):yU k:=by
 unfold tM at h;split at h
 ·injection h with h
  rw[<- h];exact N6 (Lh hA i).1 (Lh hA i).2
 ·cases h
theorem DL{A:List Ans}(hA:vj A){I:List Bool}{i:Nat}{c:Cls}(h:c∈gA (tM A I) i):yU (gj c):=by
 obtain⟨j,_,hj⟩:=Kn h;exact NB hA hj
theorem NT{a:Ans}(ha:Byt a.2){c:Cls}(hc:yU (gj c)):i8 a.1 a.2 c.1 c.2.1=some (decide (nrm a=gj c),()):=by
 obtain⟨h,b⟩:=a;obtain⟨h',b',m⟩:=c;have hn:h'=false->b'=[]:=hc.nil;have Zx:Byt b':=hc.byt;have WR:Byt b:=ha;unfold i8 nrm gj;dsimp only;by_cases e:h=h'
 ·subst e;rw[beq_self_eq_true,oCT]
  cases h with
  |false=>
   rw[Bool.not_false,oCT,hn rfl];rfl
  |true=>
   rw[oNT,oCF];unfold mp;show some (IS (mK b) (mK b'),())=_;by_cases g:b=b'
   ·rw[(oI WR Zx).2 g,oDT (by rw[g];rfl)]
   ·rw[oDF (λe=>g (congrArg Prod.snd e)),Bool.eq_false_iff.2 λh=>g ((oI WR Zx).1 h)]
 ·rw[oBF e,oCF,oDF (λg=>e (congrArg Prod.fst g))]
theorem Mg{Q:List Cls}{a:Ans}(hQ:∀c∈Q,yU (gj c))(hb:Byt a.2)(hs:Sm Q):eO Q a.1 a.2=some ((atK Q (nrm a):Int),()):=by
 unfold eO fh;delta bJ;dsimp only
 rcases fD (f:=cd) (st:=λi=>(Q,a.1,a.2,(Q.length:Int),(i:Int),())) (p:=λi=>∀h:i<Q.length,nrm a≠gj Q[i]) (n:=Q.length) (N:=NN) (bad:=λi=>.inl ((i:Int),())) (fin:=.inr (Q,a.1,a.2,(Q.length:Int),(Q.length:Int),false,())) (eA hs) (λi hi=>by
  have h1:=hQ _ (List.getElem_mem hi)
  have e:cd (Q,a.1,a.2,(Q.length:Int),(i:Int),())=if nrm a=gj Q[i]then some (.inr (.inl ((i:Int),())))else some (.inl (Q,a.1,a.2,(Q.length:Int),((i+1:Nat):Int),())):=by
   unfold cd g6;dsimp only;rw[oDT (show(i:Int)<(Q.length:Int) by omega),oCT,bN];simp only[oBS];rw[bQ hi];simp only[oBS];rw[NT hb h1];simp only[oBS];by_cases g:nrm a=gj Q[i]
   ·rw[oDT g,oCT,oIP g]
   ·rw[oDF g,oCF,oIN g,bR (by omega) (by unfold Sm at hs;omega)];rfl
  by_cases g:nrm a=gj Q[i]
  ·exact .inr ⟨λh=>h hi g,by rw[e,oIP g]⟩
  ·exact .inl ⟨λ_=>g,by rw[e,oIN g]⟩) (by
  unfold cd;dsimp only
  rw[oDF (by omega),oCF])with⟨hp,e⟩|⟨k,hk,hp,hn,e⟩
 ·have e1:atK Q (nrm a)=Q.length:=List.findIdx_eq_length_of_false λc hc=>by
   obtain⟨i,hi,rfl⟩:=List.mem_iff_getElem.1 hc;exact oDF (hp i hi hi)
  rw[show bM cd NN (Q,a.1,a.2,(Q.length:Int),0,())=_ from e,e1];rfl
 ·have ZZ:nrm a=gj Q[k]:=Classical.byContradiction λh=>hn λ_=>h;have e1:atK Q (nrm a)=k:=(List.findIdx_eq hk).2 ⟨oDT ZZ,λj hj=>oDF (hp j hj (by omega))⟩;rw[show bM cd NN (Q,a.1,a.2,(Q.length:Int),0,())=_ from e,e1];dsimp only;rw[oBS];dsimp only;rw[oDT (show(k:Int)>=0 by omega),oCT]
theorem qJ(W:Nat->Option jN)(i:Nat):gA W (i+1)=match W i with
 |none=>gA W i
 |some k=>AZ (gA W i) k i:=rfl
theorem Dk{R:List Cls}{n:Nat}(hR:n<R.length)(x:Int):(R.modify n λe=>(e.1,(e.2.1,List.append (R[n]'hR).2.2 [x])))=R.modify n λe=>(e.1,(e.2.1,e.2.2++[x])):=by
 apply List.ext_getElem?;intro k;rw[List.getElem?_modify,List.getElem?_modify];by_cases e:n=k
 ·subst e;rw[oGE hR];simp
 ·simp[e]
theorem AF{A:List Ans}{I:List Bool}(hA:vj A)(hn:A.length<=5)(hI:I.length=A.length):dZ A I=some (gA (tM A I) A.length,0,()):=by
 obtain⟨W,hW⟩:∃W,W=tM A I:=⟨_,rfl⟩;unfold dZ;delta bJ;dsimp only;rw[oDF (show ¬(A.length:Int)>5 by omega),oCF,hI,bne_self_eq_false,oCF]
 have l0:=loop_seq (f:=dQ) (st:=λi=>(I,A,(A.length:Int),(i:Int),gA W i,())) (n:=A.length) (N:=NN) (fin:=(I,A,(A.length:Int),(A.length:Int),false,gA W A.length,())) (eA (by omega)) (λi hi=>by
  have c1:=tD W i;have c2:∀c∈gA W i,yU (gj c):=λc hc=>DL (I:=I) hA (by rw[<- hW];exact hc);have c3:∀c∈gA W i,c.2.2.length<=i:=λc hc=>tC hc;have hb:=hA.byt _ (List.getElem_mem hi);have Vo:=hA.sm _ (List.getElem_mem hi)
  have Vx:W i=if I[i]'(by omega)=true then some (nrm A[i])else none:=by
   rw[hW];unfold tM;rw[cP (show i<I.length by omega),cP hi]
  unfold dQ;delta bJ;dsimp only;rw[oDT (show(i:Int)<(A.length:Int) by omega),oCT,bN];simp only[oBS];rw[bQ hi];simp only[oBS];rw[bQ (show i<I.length by omega)];simp only[oBS];rw[qJ,Vx];by_cases hin:I[i]'(by omega)=true
  rotate_left
  ·rw[oIN hin,Bool.eq_false_iff.2 hin,Bool.not_false,oCT,bR (by omega) (by omega)];rfl
  rw[oIP hin,hin,oNT,oCF,Mg c2 hb (by unfold Sm;omega)];simp only[oBS];obtain⟨Q,hQ⟩:∃Q,Q=gA W i:=⟨_,rfl⟩;rw[<- hQ]at c1 c2 c3⊢;obtain⟨n,UO⟩:∃n,n=atK Q (nrm A[i]):=⟨_,rfl⟩;have hat:n<=Q.length:=UO▸IA Q (nrm A[i])
  have XT:AZ Q (nrm A[i]) i=(if n=Q.length then Q++[((nrm A[i]).1,((nrm A[i]).2,[]))]else Q).modify n λe=>(e.1,(e.2.1,e.2.2++[(i:Int)])):=by
   unfold AZ;rw[<- UO]
  rw[XT,<- UO]
  have fin:∀R:List Cls,n<R.length->(∀c∈R,c.2.2.length<=i)->((cl (n:Int)).bind λU0=>
   (bV R U0).bind λSq=>(bV R U0).bind λVt=>(bV R U0).bind λU1=>
   bif(b6 8 (List.length U1.2.2) (List.length [(i:Int)]))then let T4:List (Int):=(List.append U1.2.2 [(i:Int)]);
   (cl (n:Int)).bind λV4=>(bV R V4).bind λQK=>(bV R V4).bind λT5=>
   bif(Nat.beq V4 U0)then let QL:List (Bool×(List (Int))×List (Int)):=(List.modify R V4 λe=>(e.1,(e.2.1,T4)));
   let QM:Int:=(w64 ((i:Int)+1));
   (some (.inl (I,A,(A.length:Int),QM,QL,())):Option (((List (Bool))×(List (Bool×List (Int)))×Int×Int×(List (Bool×(List (Int))×List (Int)))×Unit)⊕((List (Bool))×(List (Bool×List (Int)))×Int×Int×Bool×(List (Bool×(List (Int))×List (Int)))×Unit)))else none else none)=some (.inl (I,A,(A.length:Int),((i+1:Nat):Int),R.modify n λe=>(e.1,(e.2.1,e.2.2++[(i:Int)])),())):=by
   intro R hR hm;rw[bN];simp only[oBS];rw[bQ hR];simp only[oBS];have To:=hm _ (List.getElem_mem hR);rw[bT (by omega) (by simp) (by omega) (by simp;omega),oCT,Nat.beq_refl,oCT,bR (by omega) (by omega),Dk hR];rfl
  by_cases g:n=Q.length
  ·have hm2:∀x:Cls,x.2.2=[]->∀c∈Q++[x],c.2.2.length<=i:=λx hx c hc=>by
    rcases List.mem_append.1 hc with h|h
    ·exact c3 c h
    ·rw[List.mem_singleton.1 h,hx];exact Nat.zero_le _
   rw[oIP g,beq_iff_eq.2 (show((n:Nat):Int)=(Q.length:Int) by omega),oCT];unfold nrm
   cases hh:A[i].1 with
   |true=>
    rw[oCT];unfold mq;rw[bT (by simp) Vo (by omega) (by rw[Nat.zero_add];exact Vo),oCT];simp only[oBS,List.append_eq,List.nil_append];rw[bT (by omega) (by simp) (by omega) (by simp;omega),oCT];simp only[oBS,List.append_eq];exact fin _ (by rw[List.length_append,List.length_singleton];omega) (hm2 _ rfl)
   |false=>
    rw[oCF];rw[bT (by omega) (by simp) (by omega) (by simp;omega),oCT];simp only[oBS,List.append_eq];exact fin _ (by rw[List.length_append,List.length_singleton];omega) (hm2 _ rfl)
  ·rw[oIN g,oBF (show((n:Nat):Int)≠(Q.length:Int) by omega),oCF];simp only[oBS]
   exact fin _ (by omega) c3) (by
  unfold dQ;dsimp only
  rw[oDF (by omega),oCF])
 rw[show bM dQ NN (I,A,(A.length:Int),0,[],())=_ from l0,oBS,hW]
theorem Cw{A:List Ans}{I:List Bool}(hs:Sm A)(Qq:Sm I)(h:¬(A.length<=5/\I.length=A.length)):dZ A I=some ([],if A.length<=5 then 1 else 3,()):=by
 unfold dZ;delta bJ;dsimp only;by_cases h1:A.length<=5
 ·rw[oDF (show ¬(A.length:Int)>5 by omega),oCF,oIP h1,bne_iff_ne.2 (show(I.length:Int)≠(A.length:Int)from λe=>h ⟨h1,by omega⟩),oCT]
 ·rw[oDT (show(A.length:Int)>5 by omega),oCT,oIN h1]
def vd(W:Nat->Option jN)(N:Nat)(least:Int):Int×List Int×List Int:=
 if(jC W N:Int)<least then(4,[],[])else
 if jC W N<2*(va (gA W N)).2.2.length then(if j4 W (gj (va (gA W N))) N=[]then 1 else 2,(va (gA W N)).2.1,j4 W (gj (va (gA W N))) N)else(3,[],[])
theorem FN{k:Int}:ko k=some (decide (1<=k/\k<=5),()):=by
 unfold ko;by_cases h1:k>=1
 ·rw[oDT h1,oCT];congr 2;rw[decide_eq_decide];omega
 ·rw[oDF h1,oCF,oDF (p:=1<=k/\k<=5) (by omega)]
theorem Di{n:Nat}(h1:1<=n)(h2:n<=5):jR (n:Int)=some ((((n/2+1:Nat):Nat):Int),()):=by
 unfold jR;rw[FN,oDT (by omega)];simp only[oBS,oNT,oCF]
 have e:Int.tdiv (n:Int) 2=((n/2:Nat):Int):=by
  rw[Int.tdiv_eq_ediv_of_nonneg (by omega)];rfl
 rw[e,bR (x:=((n/2:Nat):Int)) (by omega) (by omega),bR (by omega) (by omega)];rfl
theorem NK(l:List Cls){N:Nat}(h:∀c∈l,c.2.2.length<=N):(l.map λc=>c.2.2.length).sum<=l.length*N:=by
 induction l with
 |nil=>simp
 |cons c l ih=>
  rw[List.map_cons,List.sum_cons,oLC,Nat.add_mul];have:=h c List.mem_cons_self;have:=ih λc hc=>h c (List.mem_cons_of_mem _ hc);omega
theorem Kj{A:List Ans}{I:List Bool}(hA:vj A)(hn:A.length<=5)(hI:I.length=A.length){least:Int}(h1:1<=least)(h5:least<=5):
 gt A I least=some ((vd (tM A I) A.length least).1,(vd (tM A I) A.length least).2.1,(vd (tM A I) A.length least).2.2,0,()):=by
 obtain⟨W,hW⟩:∃W,W=tM A I:=⟨_,rfl⟩;obtain⟨nd,mem,all,sum⟩:=qK W A.length;have len:=tD W A.length;have Xv:∀c∈gA W A.length,c.2.2.length<=A.length:=λc hc=>tC hc;have VD:=rV W A.length;unfold gt;rw[AF hA hn hI,<- hW,oBS];dsimp only;rw[bne_self_eq_false,oCF,FN,oDT ⟨h1,h5⟩,oBS];delta bJ;dsimp only;rw[oNT,oCF];have YF:=Hi W A.length;unfold vd;obtain⟨Q,hQ⟩:∃Q,Q=gA W A.length:=⟨_,rfl⟩;rw[<- hQ]at sum len Xv⊢
 have l0:=loop_seq (f:=fS) (st:=λi=>(A,I,least,Q,((((Q.take i).map λc=>c.2.2.length).sum:Nat):Int),Q,(Q.length:Int),(i:Int),(0:Int),(),(),Q,())) (n:=Q.length) (N:=NN) (fin:=(A,I,least,Q,((((Q.take Q.length).map λc=>c.2.2.length).sum:Nat):Int),Q,(Q.length:Int),(Q.length:Int),false,(0:Int),(),(),Q,())) (eA (by omega)) (λi hi=>by
  unfold fS;delta bJ;dsimp only;rw[oDT (show(i:Int)<(Q.length:Int) by omega),oCT,bN];simp only[oBS];rw[bQ hi];simp only[oBS]
  have hs:((Q.take (i+1)).map λc=>c.2.2.length).sum=((Q.take i).map λc=>c.2.2.length).sum+Q[i].2.2.length:=by
   rw[<- fb hi];simp only[List.map_append,List.sum_append,List.map_cons,List.map_nil,List.sum_cons,List.sum_nil,Nat.add_zero]
  have YN:((Q.take i).map λc=>c.2.2.length).sum<=25:=by
   have h2:=NK (Q.take i) (N:=A.length) λc hc=>Xv c (List.mem_of_mem_take hc);have h3:(Q.take i).length*A.length<=5*5:=Nat.mul_le_mul (by rw[oLT];omega) hn;omega
  have:=Xv _ (List.getElem_mem hi);rw[bR (by omega) (by omega),bR (by omega) (by omega),hs,Int.natCast_add]
  rfl) (by
  unfold fS;dsimp only
  rw[oDF (by omega),oCF])
 rw[List.take_length,sum]at l0;rw[show bM fS NN (A,I,least,Q,0,Q,(Q.length:Int),0,0,(),(),Q,())=_ from l0,oBS];dsimp only;by_cases hc:(jC W A.length:Int)<least
 ·rw[oDT hc,oCT,oIP hc]
 rw[oDF hc,oCF,oIN hc,OG (by unfold Sm;omega),oBS];dsimp only
 rcases YF with⟨c0,M⟩|⟨_,Zq⟩
 rotate_left
 ·rw[<- hQ]at Zq;rw[oIN (show ¬jC W A.length<2*(va Q).2.2.length by omega)]
  have e1:((va Q).2.2.length:Int)≠(jC W A.length:Int):=by omega
  rw[show((((List.foldl iN (false,([],[])) Q).2.2.length:Nat):Int)==(jC W A.length:Int))=false from oBF e1,oCF,Di (by omega) (by omega),oBS];dsimp only;rw[oDT (show(((List.foldl iN (false,([],[])) Q).2.2.length:Nat):Int)<((jC W A.length/2+1:Nat):Int) by show((va Q).2.2.length:Int)<_;omega),oCT]
 have hb:=M.best;rw[<- hQ]at hb;have Zx:List.foldl iN (false,([],[])) Q=c0:=hb;rw[Zx];rw[hb,oIP M.most];dsimp only;have hl:=qk W (gj c0) A.length;rw[<- M.ids]at hl;by_cases g:j4 W (gj c0) A.length=[]
 ·rw[beq_iff_eq.2 (show(c0.2.2.length:Int)=(jC W A.length:Int) by have:=M.one.1 g;omega),oCT,oIP g,g]
 ·rw[oBF (show(c0.2.2.length:Int)≠(jC W A.length:Int)from λe=>g (M.one.2 (by omega))),oCF,oIN g,Di (by omega) (by omega),oBS];dsimp only;have hm:=M.most;rw[oDF (show ¬(c0.2.2.length:Int)<((jC W A.length/2+1:Nat):Int) by omega),oCF]
  have l2:=loop_seq (f:=fR) (st:=λi=>(I,(A.length:Int),(i:Int),(0:Int),(),(),c0.1,c0.2.1,c0.2.2,(2:Int),c0.2.1,j4 W (gj c0) i,())) (n:=A.length) (N:=NN) (fin:=(I,(A.length:Int),(A.length:Int),false,(0:Int),(),(),c0.1,c0.2.1,c0.2.2,(2:Int),c0.2.1,j4 W (gj c0) A.length,())) (eA (by omega)) (λi hi=>by
   unfold fR;dsimp only;rw[oDT (show(i:Int)<(A.length:Int) by omega),oCT,bN];simp only[oBS];rw[bQ (show i<I.length by omega)];simp only[oBS];have hw:w64 ((i:Int)+1)=(i:Int)+1:=bR (by omega) (by omega)
   have Vx:W i=if I[i]'(by omega)=true then some (nrm A[i])else none:=by
    rw[hW];unfold tM;rw[cP (show i<I.length by omega),cP hi]
   have hm:((i:Int)∈c0.2.2)↔W i=some (gj c0):=by
    rw[M.ids]
    exact tp.trans ⟨λ⟨j,h1,h2,h3⟩=>by
     obtain rfl:i=j:=by omega
     exact h2,λh=>⟨i,hi,h,rfl⟩⟩
   have Uh:=qk W (gj c0) i;have Zi:=rV W i;rw[ww];by_cases hin:I[i]'(by omega)=true
   rotate_left
   ·rw[Bool.eq_false_iff.2 hin,oCF];simp only[oBS];rw[Vx,oIN hin,oIN (λh=>by cases h.1),hw];rfl
   rw[hin,oCT,uR (by have:=Xv _ (hQ▸M.mem);unfold Sm;omega)];simp only[oBS];rw[oIP hin]at Vx;by_cases g:W i=some (gj c0)
   ·rw[oDT (hm.2 g),oNT,oCF,oIN (λn=>n.2 g)];simp only[oBS];rw[hw];rfl
   ·rw[oDF (λh=>g (hm.1 h)),Bool.not_false,oCT,oIP ⟨by rw[Vx];rfl,g⟩,bT (by omega) (by simp) (by omega) (by simp;omega),oCT];simp only[oBS];rw[hw]
    rfl) (by
   unfold fR;dsimp only
   rw[oDF (by omega),oCF])
  rw[show bM fR NN (I,(A.length:Int),0,0,(),(),c0.1,c0.2.1,c0.2.2,2,c0.2.1,[],())=_ from l2,oBS]
theorem EV{A:List Ans}{I:List Bool}(hA:vj A)(hs:Sm A)(Qq:Sm I){least:Int}(h:¬(A.length<=5/\I.length=A.length/\1<=least/\least<=5)):
 gt A I least=some (0,[],[],if A.length<=5 then 1 else 3,()):=by
 unfold gt;by_cases g:A.length<=5/\I.length=A.length
 ·rw[AF hA g.1 g.2,oBS];dsimp only;rw[bne_self_eq_false,oCF,FN,oDF (λg2=>h ⟨g.1,g.2,g2⟩),oBS];dsimp only;rw[Bool.not_false,oCT,oIP g.1]
 ·rw[Cw hs Qq g,oBS];dsimp only;by_cases g1:A.length<=5
  ·rw[oIP g1];rfl
  ·rw[oIN g1];rfl
theorem uf{α:Type}{l:List α}{i:Nat}(h:i<l.length){f:α->α}(hf:f l[i]=l[i]):l.modify i f=l:=by
 apply List.ext_getElem?;intro k;rw[List.getElem?_modify];by_cases e:i=k
 ·subst e;rw[oGE h];simp[hf]
 ·simp[e]
def R64(x:Int):Prop:=-9223372036854775808<=x/\x<=9223372036854775807
def le8(v:Int):List Int:=(List.range 8).map λi=>v%18446744073709551616/256 ^ i%256
theorem g8(v:Int):(le8 v).length=8:=by unfold le8;simp
theorem Hn(v:Int):Byt (le8 v):=λx hx=>by
 unfold le8 at hx;obtain⟨i,_,rfl⟩:=List.mem_map.1 hx;generalize v%18446744073709551616/256 ^ i=y;omega
theorem Pv:∀(n:Nat)(u w:Int),0<=u->0<=w->u<256 ^ n->w<256 ^ n->(∀i,i<n->u/256 ^ i%256=w/256 ^ i%256)->u=w:=by
 intro n
 induction n with
 |zero=>intro u w h1 h2 h3 h4 _;simp at h3 h4;omega
 |succ n ih=>
  intro u w h1 h2 h3 h4 h;have h0:=h 0 (by omega);rw[Int.pow_zero,Int.ediv_one,Int.ediv_one]at h0;have hp:(256:Int) ^ (n+1)=256 ^ n*256:=Int.pow_succ ..
  have e:=ih (u/256) (w/256) (by omega) (by omega) (Int.ediv_lt_of_lt_mul (by decide) (by omega)) (Int.ediv_lt_of_lt_mul (by decide) (by omega)) (λi hi=>by
   have:=h (i+1) (by omega);rw[show(256:Int) ^ (i+1)=256*256 ^ i from by rw[Int.pow_succ,Int.mul_comm],<- Int.ediv_ediv_of_nonneg (by decide),<- Int.ediv_ediv_of_nonneg (by decide)]at this
   exact this)
  omega
theorem lb(l:List Int):(l.flatMap le8).length=8*l.length:=by
 induction l with
 |nil=>rfl
 |cons x l ih=>rw[List.flatMap_cons,List.length_append,g8,ih,oLC];omega
theorem xm(l:List Int):Byt (l.flatMap le8):=λx hx=>by
 obtain⟨y,_,h⟩:=List.mem_flatMap.1 hx;exact Hn y x h
theorem Gk{u:Int}(i:Nat)(h:i<=7):shR .shr .u64 u (8*i)=u/256 ^ i:=by
 have e:min (8*i) (IntKind.bits .u64)=8*i:=by simp[IntKind.bits];omega
 have e2:(2:Int) ^ (8*i)=256 ^ i:=by rw[Int.pow_mul];rfl
 show u.fdiv (2 ^ (min (8*i) (IntKind.bits .u64)))=_;rw[e,e2];exact Int.fdiv_eq_ediv_of_nonneg _ (Int.le_of_lt (Int.pow_pos (by decide)))
theorem Fv(x:Int):wk .u64 x=x%18446744073709551616:=by
 show IntKind.wrap .u64 x=_;simp[IntKind.wrap,IntKind.bits,IntKind.signed]
theorem NA(x:Int):wk .u8 x=x%256:=by
 show IntKind.wrap .u8 x=_;simp[IntKind.wrap,IntKind.bits,IntKind.signed]
theorem JH(v:Int)(l:List Int)(n i:Int){acc:List Int}(ha:acc.length+8<=1099511627776):bM cU NN (v,l,n,i,0,acc,())=some (v,l,n,i,8,false,acc++le8 v,()):=by
 have l0:=loop_seq (f:=cU) (st:=λk=>(v,l,n,i,(k:Int),acc++(List.range k).map (λi=>v%18446744073709551616/256 ^ i%256),())) (n:=8) (N:=NN) (fin:=(v,l,n,i,((8:Nat):Int),false,acc++(List.range 8).map (λi=>v%18446744073709551616/256 ^ i%256),())) (eA (by omega)) (λk hk=>by
  unfold cU;dsimp only;rw[oDT (show(k:Int)<8 by omega),oCT,bR (x:=8*(k:Int)) (by omega) (by omega),show 8*(k:Int)=((8*k:Nat):Int) by omega,bN];simp only[oBS];rw[Gk k (by omega),Fv,NA,bT (by simp;omega) (by simp) (by omega) (by simp;omega),oCT,bR (by omega) (by omega),List.range_succ,List.map_append,<- List.append_assoc]
  rfl) (by
  unfold cU;dsimp only
  rw[oDF (by omega),oCF])
 rw[show bM cU NN (v,l,n,i,0,acc,())=bM cU NN (v,l,n,i,((0:Nat):Int),acc++(List.range 0).map (λi=>v%18446744073709551616/256 ^ i%256),())from by rw[List.range_zero,List.map_nil,List.append_nil];rfl,l0];rfl
theorem qe(l:List Int){acc:List Int}(ha:acc.length+8*l.length<=1099511627776):em l acc=some (acc++l.flatMap le8,()):=by
 unfold em;delta bJ;dsimp only
 have l0:=loop_seq (f:=dD) (st:=λk=>(l,(l.length:Int),(k:Int),acc++(l.take k).flatMap le8,())) (n:=l.length) (N:=NN) (fin:=(l,(l.length:Int),(l.length:Int),false,acc++(l.take l.length).flatMap le8,())) (eA (by omega)) (λk hk=>by
  unfold dD;dsimp only;rw[oDT (show(k:Int)<(l.length:Int) by omega),oCT,bN];simp only[oBS];rw[bQ hk];simp only[oBS];rw[JH _ _ _ _ (by rw[List.length_append,lb,oLT];omega)];simp only[oBS];rw[bR (by omega) (by omega),<- fb hk,List.flatMap_append,List.append_assoc]
  simp) (by
  unfold dD;dsimp only
  rw[oDF (by omega),oCF])
 rw[List.take_length]at l0;rw[show bM dD NN (l,(l.length:Int),0,acc,())=bM dD NN (l,(l.length:Int),((0:Nat):Int),acc++(l.take 0).flatMap le8,())from by rw[List.take_zero,List.flatMap_nil,List.append_nil];rfl,l0,oBS]
def qO(c:DCn):List Int:=[c.1,c.2.1,c.2.2.1,c.2.2.2]
def OU(c:DCn):Prop:=∀x∈qO c,R64 x
def IR(l:List DCn):List Int:=le8 (l.length:Int)++l.flatMap λc=>(qO c).flatMap le8
theorem Kq(c:DCn):((qO c).flatMap le8).length=32:=by rw[lb];rfl
theorem uX(l:List DCn):(l.flatMap λc=>(qO c).flatMap le8).length=32*l.length:=by
 induction l with
 |nil=>rfl
 |cons x l ih=>rw[List.flatMap_cons,List.length_append,Kq,ih,oLC];omega
theorem qj(l:List DCn):(IR l).length=8+32*l.length:=by
 unfold IR;rw[List.length_append,g8,uX]
theorem Dm(l:List DCn):Byt (IR l):=λx hx=>by
 rcases List.mem_append.1 hx with h|h
 ·exact Hn _ x h
 ·obtain⟨c,_,h⟩:=List.mem_flatMap.1 h;exact xm _ x h
theorem KY(l:List DCn)(hl:∀c∈l,R64 c.1/\R64 c.2.1){acc:List Int}(ha:acc.length+8+32*l.length<=1099511627776):jl l acc=some (acc++IR l,()):=by
 unfold jl;delta bJ;dsimp only;rw[qe _ (by simp;omega),oBS];dsimp only
 have l0:=loop_seq (f:=ft) (st:=λk=>(l,(l.length:Int),(k:Int),(acc++[(l.length:Int)].flatMap le8)++(l.take k).flatMap (λc=>(qO c).flatMap le8),())) (n:=l.length) (N:=NN) (fin:=(l,(l.length:Int),(l.length:Int),false,(acc++[(l.length:Int)].flatMap le8)++(l.take l.length).flatMap (λc=>(qO c).flatMap le8),())) (eA (by omega)) (λk hk=>by
  unfold ft;dsimp only;rw[oDT (show(k:Int)<(l.length:Int) by omega),oCT,bN];simp only[oBS];rw[bQ hk];simp only[oBS];have h:=hl _ (List.getElem_mem hk);unfold R64 at h;rw[show wk .i64 l[k].1=l[k].1 from wrap_i64 h.1.1 h.1.2,show wk .i64 l[k].2.1=l[k].2.1 from wrap_i64 h.2.1 h.2.2];rw[qe _ (by rw[List.length_append,List.length_append,uX,lb,oLT];simp;omega)];simp only[oBS];rw[bR (by omega) (by omega),<- fb hk,List.flatMap_append,List.append_assoc];simp only[List.flatMap_cons,List.flatMap_nil,List.append_nil]
  rfl) (by
  unfold ft;dsimp only
  rw[oDF (by omega),oCF])
 rw[List.take_length]at l0;rw[show bM ft NN (l,(l.length:Int),0,acc++[(l.length:Int)].flatMap le8,())=bM ft NN (l,(l.length:Int),((0:Nat):Int),(acc++[(l.length:Int)].flatMap le8)++(l.take 0).flatMap (λc=>(qO c).flatMap le8),())from by rw[List.take_zero,List.flatMap_nil,List.append_nil];rfl,l0,oBS];unfold IR;simp only[List.flatMap_cons,List.flatMap_nil,List.append_nil,List.append_assoc]
abbrev PG4:Type:=Int×Int×(List DCn)×Int×Int×Int×Int×Int×Int×Int×List DCn
def pgB(p:PG4):List Int:=[p.1,p.2.1].flatMap le8++(IR p.2.2.1++([p.2.2.2.1,p.2.2.2.2.1,p.2.2.2.2.2.1,p.2.2.2.2.2.2.1,p.2.2.2.2.2.2.2.1,p.2.2.2.2.2.2.2.2.1,p.2.2.2.2.2.2.2.2.2.1].flatMap le8++IR p.2.2.2.2.2.2.2.2.2.2))
structure PgR (p:PG4):Prop where
 ids:∀x∈[p.1,p.2.1],R64 x
 cells:∀c∈p.2.2.1,OU c
 nums:∀x∈[p.2.2.2.1,p.2.2.2.2.1,p.2.2.2.2.2.1,p.2.2.2.2.2.2.1,p.2.2.2.2.2.2.2.1,p.2.2.2.2.2.2.2.2.1,p.2.2.2.2.2.2.2.2.2.1],R64 x
 regs:∀c∈p.2.2.2.2.2.2.2.2.2.2,OU c
 lc:p.2.2.1.length<=1000
 lr:p.2.2.2.2.2.2.2.2.2.2.length<=1000
theorem Bx(p:PG4):Byt (pgB p):=λx hx=>by
 unfold pgB at hx;rcases List.mem_append.1 hx with h|h
 ·exact xm _ x h
 ·rcases List.mem_append.1 h with h|h
  ·exact Dm _ x h
  ·rcases List.mem_append.1 h with h|h
   ·exact xm _ x h
   ·exact Dm _ x h
abbrev zPg:PG4:=(0,(0,([],(0,(0,(0,(0,(0,(0,(0,[]))))))))))
def StK(C:CC)(T:TT'):Prop:=Sm C/\(∀c∈C,Sm c)/\Sm T/\SmT T
def PgK(p:PG):Prop:=Sm p.2.2.1/\Sm p.2.2.2.2.2.2.2.2.2.2
theorem Ax{C:CC}{T:TT'}(h:StK C T):eX C T=some (C,T,()):=by
 have h1:C.length<=1099511627776:=h.1;have h2:T.length<=1099511627776:=h.2.2.1;have hT:=h.2.2.2;unfold eX
 have e1:eD C=some (C,()):=by
  unfold eD;rw[bT (by omega) (by omega) (by omega) (by omega),oCT];rfl
 have e2:fM T=some (T,()):=by
  unfold fM;rw[bT (by omega) (by omega) (by omega) (by omega),oCT];rfl
 rw[e1,oBS];dsimp only;rw[e2,oBS];delta bJ;dsimp only
 have l0:=loop_seq (f:=fw) (st:=λi=>((C.length:Int),(i:Int),C,i,T,(),(),())) (n:=C.length) (N:=NN) (fin:=((C.length:Int),(C.length:Int),false,C,C.length,T,(),(),())) (eA (by omega)) (λi hi=>by
  unfold fw;dsimp only;have hok:=h.2.1 _ (List.getElem_mem hi);rw[oDT (show(i:Int)<(C.length:Int) by omega),oCT,bN,oBS,bQ hi,oBS,show df i i i=true by simp[df],oCT,oBS,uU hok,oBS];dsimp only;rw[oBS,bQ hi,oBS,oBS,Nat.beq_refl,oCT,uf hi rfl,bR (by omega) (by omega)]
  rfl) (by
  unfold fw;dsimp only
  rw[oDF (by omega),oCF])
 rw[show bM fw NN ((C.length:Int),0,C,0,T,(),(),())=_ from l0,oBS];dsimp only;rw[Nat.beq_refl,oCT]
 have l1:=loop_seq (f:=fu) (st:=λi=>((T.length:Int),(i:Int),C,T,(),(),())) (n:=T.length) (N:=NN) (fin:=((T.length:Int),(T.length:Int),false,C,T,(),(),())) (eA (by omega)) (λi hi=>by
  unfold fu;dsimp only;rw[oDT (show(i:Int)<(T.length:Int) by omega),oCT,bN];simp only[oBS];rw[bQ hi];simp only[oBS];unfold eN;rw[uU (hT _ (List.getElem_mem hi))];simp only[oBS];rw[uf hi rfl,bR (by omega) (by omega)]
  rfl) (by
  unfold fu;dsimp only
  rw[oDF (by omega),oCF])
 rw[show bM fu NN ((T.length:Int),0,C,T,(),(),())=_ from l1];rfl
theorem Ch{C:CC}{T:TT'}(h:StK C T):gn C T=some (C,T,()):=by
 unfold gn;have h4:C.length<=1099511627776:=h.1;have hT:=h.2.2.2
 have step:∀i,i<C.length->ef ((i:Int),C,T,(),(),C.take i,(),())=some (.inl (((i+1:Nat):Int),C,T,(),(),C.take (i+1),(),())):=by
  intro i hi;have hok:C[i].length<=1099511627776:=h.2.1 _ (List.getElem_mem hi);unfold ef;delta bJ;dsimp only;rw[oDT (show(i:Int)<C.length by omega),oCT,bN];simp only[oBS,bQ hi];rw[bT (by omega) (by omega) (by omega) (by omega),oCT,bT (by rw[oLT];omega) (by simp) (by omega) (by rw[oLT,List.length_singleton];omega),oCT,bR (by omega) (by omega),<- fb hi];rfl
 have fin:ef ((C.length:Int),C,T,(),(),C.take C.length,(),())=some (.inr ((C.length:Int),false,C,T,(),(),C.take C.length,(),())):=by
  unfold ef;delta bJ;dsimp only;rw[oDF (show ¬(C.length:Int)<C.length by omega)];rfl
 have:=loop_seq (f:=ef) (λi=>((i:Int),C,T,(),(),C.take i,(),())) (n:=C.length) (N:=NN) (by unfold NN;omega) step fin;rw[show bM ef NN (0,C,T,(),(),[],(),())=_ from this,List.take_length,oBS];dsimp only;have t4:T.length<=1099511627776:=h.2.2.1
 have WD:∀i,i<T.length->d9 ((i:Int),C,T,(),(),C,T.take i,())=some (.inl (((i+1:Nat):Int),C,T,(),(),C,T.take (i+1),())):=by
  intro i hi;unfold d9;delta bJ;dsimp only;rw[oDT (show(i:Int)<T.length by omega),oCT,bN];simp only[oBS,bQ hi,DK (hT _ (List.getElem_mem hi))];rw[bT (by rw[oLT];omega) (by simp) (by omega) (by rw[oLT,List.length_singleton];omega),oCT,bR (by omega) (by omega),<- fb hi];rfl
 have Uo:d9 ((T.length:Int),C,T,(),(),C,T.take T.length,())=some (.inr ((T.length:Int),false,C,T,(),(),C,T.take T.length,())):=by
  unfold d9;delta bJ;dsimp only;rw[oDF (show ¬(T.length:Int)<T.length by omega)];rfl
 have:=loop_seq (f:=d9) (λi=>((i:Int),C,T,(),(),C,T.take i,())) (n:=T.length) (N:=NN) (by unfold NN;omega) WD Uo;rw[show bM d9 NN (0,C,T,(),(),C,[],())=_ from this,List.take_length];rfl
theorem Gw{C:CC}{T:TT'}{D:CC}{U:TT'}(h:StK C T):jk C T D U=some (decide (C=D/\T=U),()):=by
 unfold jk;delta bJ;dsimp only;by_cases hl:C.length=D.length
 rotate_left
 ·rw[mw hl,oCT,oDF (p:=C=D/\T=U) λe=>hl (by rw[e.1])]
 rw[qf hl,oCF];by_cases hm:T.length=U.length
 rotate_left
 ·rw[mw hm,oCT,oDF (p:=C=D/\T=U) λe=>hm (by rw[e.2])]
 rw[qf hm,oCF];have c4:C.length<=1099511627776:=h.1;have t4:T.length<=1099511627776:=h.2.2.1;have hT:=h.2.2.2
 have q1:=lV (f:=gm) hl (by unfold Sm;omega) (λi=>((i:Int),C,T,D,U,())) (bad:=.inl (false,())) (fin:=.inr ((C.length:Int),false,C,T,D,U,()))
  (λi h1 h2=>by
   have hok:C[i].length<=1099511627776:=h.2.1 _ (List.getElem_mem h1);unfold gm;delta bJ;dsimp only;rw[oDT (show(i:Int)<C.length by omega),oCT,bN];simp only[oBS,bQ h1,bQ h2];rw[oA (by unfold Sm;omega)];simp only[oBS,oJ];rw[bR (by omega) (by omega)]
   rfl)
  (by
   unfold gm;delta bJ;dsimp only;rw[oDF (show ¬(C.length:Int)<C.length by omega)]
   rfl)
 have q2:=lV (f:=gl) hm (by unfold Sm;omega) (λi=>((i:Int),C,T,D,U,())) (bad:=.inl (false,())) (fin:=.inr ((T.length:Int),false,C,T,D,U,()))
  (λi h1 h2=>by
   unfold gl;delta bJ;dsimp only;rw[oDT (show(i:Int)<T.length by omega),oCT,bN];simp only[oBS,bQ h1,bQ h2];rw[tW (hT _ (List.getElem_mem h1))];simp only[oBS,oJ];rw[bR (by omega) (by omega)]
   rfl)
  (by
   unfold gl;delta bJ;dsimp only;rw[oDF (show ¬(T.length:Int)<T.length by omega)]
   rfl)
 rw[show bM gm NN (0,C,T,D,U,())=_ from q1];by_cases e1:C=D
 rotate_left
 ·rw[oDF e1,oDF (p:=C=D/\T=U) λe=>e1 e.1];rfl
 rw[oDT e1];dsimp only[oCT];rw[show bM gl NN (0,C,T,D,U,())=_ from q2];by_cases e2:T=U
 ·rw[oDT e2,oDT (p:=C=D/\T=U) ⟨e1,e2⟩];rfl
 ·rw[oDF e2,oDF (p:=C=D/\T=U) λe=>e2 e.2];rfl
theorem KU{c:List DCn}(hc:c.length<=32)(b:Int):eK c b=some (if 0<=b/\b<=32/\8*b.toNat<c.length then(c.drop (8*b.toNat)).take 8 else[],()):=by
 by_cases h:0<=b/\b<=32/\8*b.toNat<c.length
 ·rw[oIP h];obtain⟨j,rfl⟩:∃j:Nat,b=j:=⟨b.toNat,by omega⟩;exact N3 hc h.2.2
 ·rw[oIN h];unfold eK;delta bJ;dsimp only;by_cases h0:b<0
  ·rw[oDT h0];rfl
  rw[oDF h0,oCF];by_cases h1:b>32
  ·rw[oDT h1];rfl
  rw[oDF h1,oCF,bR (x:=b*8) (by omega) (by omega),oBS];rw[oDT (show b*8>=(c.length:Int) by omega)];rfl
def Th(C:CC)(T:TT')(a b:Int):Prop:=(a=-1/\0<=b/\b.toNat<T.length)\/(a≠-1/\0<=a/\a.toNat<C.length/\0<=b/\b<=32/\8*b.toNat<(C.getD a.toNat []).length)
instance {C:CC} {T:TT'} {a b:Int}:Decidable (Th C T a b):=inferInstanceAs (Decidable (_\/_))
theorem rQ{C:CC}{i:Nat}(h:i<C.length):C.getD i []=C[i]:=by simp[oGD,h]
theorem Ls{C:CC}{T:TT'}(hs:shp C T)(a b:Int):jY C T a b=some (decide (Th C T a b),()):=by
 unfold jY;delta bJ;dsimp only;by_cases ha:a=-1
 ·subst ha;rw[show((-1:Int)==-1)=true from rfl,oCT];by_cases hb:b>=0
  ·rw[oDT hb,oCT];congr 2;rw[decide_eq_decide];unfold Th;omega
  ·rw[oDF hb,oCF,oDF (p:=Th C T (-1) b)];unfold Th;omega
 ·rw[oBF ha,oCF];by_cases h1:a>=0
  rotate_left
  ·rw[oDF h1,oCF,oDF (p:=Th C T a b)];unfold Th;omega
  rw[oDT h1,oCT];by_cases h2:a<C.length
  rotate_left
  ·rw[oDF h2,oCF,oDF (p:=Th C T a b)];unfold Th;omega
  obtain⟨i,rfl⟩:∃i:Nat,a=i:=⟨a.toNat,by omega⟩
  have hi:i<C.length:=by omega
  rw[oDT h2,oCT,bN];simp only[oBS,bQ hi];have hok:=of_decide_eq_true (hs.2.2 _ (List.getElem_mem hi));rw[KU (by omega),oBS];dsimp only;congr 2;rw[decide_eq_decide];unfold Th;rw[oTN,rQ hi];by_cases h:0<=b/\b<=32/\8*b.toNat<C[i].length
  ·rw[oIP h];simp only[oLT,List.length_drop];omega
  ·rw[oIN h];simp only[List.length_nil];omega
theorem KL{C:CC}{T:TT'}(hs:shp C T){a b:Int}(h:Th C T a b):((a,b):PID)∈pgs (szs C) T.length:=by
 rcases h with⟨rfl,h1,h2⟩|⟨h0,h1,h2,h3,h4,h5⟩
 ·exact uh.2 (.inr ⟨b.toNat,h2,by rw[Int.toNat_of_nonneg h1]⟩)
 ·rw[rQ h2]at h5;refine uh.2 (.inl ⟨a.toNat,b.toNat,by rw[g7];exact h2,?_,by rw[Int.toNat_of_nonneg h1,Int.toNat_of_nonneg h3]⟩);rw[wX h2];have hok:=of_decide_eq_true (hs.2.2 _ (List.getElem_mem h2));exact(zF hok _).1 (by omega)
theorem K4{C:CC}{T:TT'}(hC:Sm C)(a b:Int):jm C T a b=some (if shp C T then(if Th C T a b then 0 else 30)else 1,()):=by
 unfold jm;rw[oz hC,oBS];dsimp only;by_cases hs:shp C T
 rotate_left
 ·rw[oDF hs,oIN hs];rfl
 rw[oDT hs,oIP hs];simp only[oNT,oCF];rw[Ls hs,oBS];dsimp only;by_cases h:Th C T a b
 ·rw[oDT h,oIP h];rfl
 ·rw[oDF h,oIN h];rfl
def C8(C:CC)(T:TT')(a b:Int)(x:List DCn)(v:DTs):CC×TT'×Int:=
 if shp C T then
  if Th C T a b then
   if a=-1 then(if x.length=0 then(C,T.modify b.toNat λ_=>v,0)else([],[],5))
   else if x.length=min 8 ((C.getD a.toNat []).length-8*b.toNat)/\v=zTs then(C.modify a.toNat λ_=>pi (C.getD a.toNat []) (8*b.toNat) x.length x,T,0)else([],[],5)
  else([],[],30)
 else([],[],1)
theorem Id(v:DTs):iA v.1 v.2.1 v.2.2.1 v.2.2.2.1 v.2.2.2.2.1 v.2.2.2.2.2.1 v.2.2.2.2.2.2.1 v.2.2.2.2.2.2.2=some (decide (v=zTs),()):=by
 obtain⟨v0,v1,v2,v3,v4,v5,v6,L⟩:=v;unfold iA;delta bJ;dsimp only
 have e:decide ((v0,v1,v2,v3,v4,v5,v6,L)=zTs)=(v0==0&&(v1==0&&(v2==0&&(v3==0&&(v4==0&&(v5==0&&(v6==0&&((L.length:Int)==0)))))))):=by
  rw[Bool.eq_iff_iff];simp[zTs,Prod.ext_iff]
 rw[e];cases v0==0
 ·rfl
 cases v1==0
 ·rfl
 cases v2==0
 ·rfl
 cases v3==0
 ·rfl
 cases v4==0
 ·rfl
 cases v5==0
 ·rfl
 cases v6==0<;>rfl
theorem Nx(v:DTs):kV v.1 v.2.1 v.2.2.1 v.2.2.2.1 v.2.2.2.2.1 v.2.2.2.2.2.1 v.2.2.2.2.2.2.1 v.2.2.2.2.2.2.2=some (decide (v=zTs),()):=(show kV v.1 v.2.1 v.2.2.1 v.2.2.2.1 v.2.2.2.2.1 v.2.2.2.2.2.1 v.2.2.2.2.2.2.1 v.2.2.2.2.2.2.2=iA v.1 v.2.1 v.2.2.1 v.2.2.2.1 v.2.2.2.2.1 v.2.2.2.2.2.1 v.2.2.2.2.2.2.1 v.2.2.2.2.2.2.2 by kernel_rfl).trans (Id v)
theorem ND{v:DTs}(hv:Sm v.2.2.2.2.2.2.2):eN v.1 v.2.1 v.2.2.1 v.2.2.2.1 v.2.2.2.2.1 v.2.2.2.2.2.1 v.2.2.2.2.2.2.1 v.2.2.2.2.2.2.2=some (v.1,v.2.1,v.2.2.1,v.2.2.2.1,v.2.2.2.2.1,v.2.2.2.2.2.1,v.2.2.2.2.2.2.1,v.2.2.2.2.2.2.2,()):=by
 unfold eN;rw[uU hv];rfl
theorem Pz(j:Nat):Nat.add (Nat.add (Nat.add j j) (Nat.add j j)) (Nat.add (Nat.add j j) (Nat.add j j))=8*j:=by
 show j+j+(j+j)+(j+j+(j+j))=8*j;omega
theorem DS{a b:Nat}(h:a<b):Nat.blt a b=true:=Nat.ble_eq_true_of_le h
theorem KP{C:CC}{T:TT'}(h:StK C T){x:List DCn}(hx:Sm x){v:DTs}(hv:Sm v.2.2.2.2.2.2.2)(a b:Int):
 kw C T a b x v.1 v.2.1 v.2.2.1 v.2.2.2.1 v.2.2.2.2.1 v.2.2.2.2.2.1 v.2.2.2.2.2.2.1 v.2.2.2.2.2.2.2=some ((C8 C T a b x v).1,(C8 C T a b x v).2.1,(C8 C T a b x v).2.2,()):=by
 unfold kw C8;rw[K4 h.1 a b,oBS];delta bJ;dsimp only;by_cases hs:shp C T
 rotate_left
 ·rw[oIN hs,oIN hs];rfl
 rw[oIP hs,oIP hs];by_cases ht:Th C T a b
 rotate_left
 ·rw[oIN ht,oIN ht];rfl
 rw[oIP ht,oIP ht,bne_self_eq_false,oCF];by_cases ha:a=-1
 ·rw[oIP ha,beq_iff_eq.2 ha,oCT]
  have h2:0<=b/\b.toNat<T.length:=by
   unfold Th at ht;omega
  by_cases hl:x.length=0
  ·rw[oIP hl,oDF (show ¬(x.length:Int)>0 by omega),oCF,Ax h,oBS];dsimp only;rw[ND hv,oBS];dsimp only;obtain⟨j,rfl⟩:∃j:Nat,b=j:=⟨b.toNat,by omega⟩;rw[bN,oBS,bQ (show j<T.length by omega),oBS,oBS];rfl
  ·rw[oIN hl,oDT (show(x.length:Int)>0 by omega),oCT]
 ·rw[oIN ha,oBF ha,oCF]
  have h2:0<=a/\a.toNat<C.length/\0<=b/\b<=32/\8*b.toNat<(C.getD a.toNat []).length:=by
   unfold Th at ht;omega
  obtain⟨i,rfl⟩:∃i:Nat,a=i:=⟨a.toNat,by omega⟩;obtain⟨j,rfl⟩:∃j:Nat,b=j:=⟨b.toNat,by omega⟩;simp only[oTN]at h2⊢;obtain⟨_,hi,_,hj,hij⟩:=h2;rw[rQ hi]at hij⊢
  have hc:C[i].length<=32:=(of_decide_eq_true (hs.2.2 _ (List.getElem_mem hi))).2 |> λg=>by omega
  have hlen:((C[i].drop (8*j)).take 8).length=min 8 (C[i].length-8*j):=by rw[oLT,List.length_drop]
  rw[bN,oBS,bQ hi,oBS,KU hc,oTN,oIP ⟨by omega,hj,hij⟩,oBS];dsimp only;rw[hlen];by_cases hl:x.length=min 8 (C[i].length-8*j)
  rotate_left
  ·rw[oIN (λg=>hl g.1),bne_iff_ne.2 (show(x.length:Int)≠((min 8 (C[i].length-8*j):Nat):Int) by omega),oCT]
  rw[hl,bne_self_eq_false,oCF,Id,oBS];dsimp only;by_cases hz:v=zTs
  rotate_left
  ·rw[oIN (λg=>hz g.2),oDF hz];rfl
  rw[oIP ⟨rfl,hz⟩,oDT hz,oNT,oCF,Ax h,oBS];dsimp only
  have m1:Nat.min (min 8 (C[i].length-8*j)) (Nat.min 8 (Nat.sub C[i].length (8*j)))=min 8 (C[i].length-8*j):=by
   show min (min 8 (C[i].length-8*j)) (min 8 (C[i].length-8*j))=_;omega
  rw[oBS,bQ hi,oBS,oBS,oBS,bN,oBS,Pz,m1,DS (show j<33 by omega),oCT,DS hij,oCT,DS (show C[i].length<1099511627777 by omega),oCT,oBS,oBS,
   show df (8*j) (Nat.add (8*j) (min 8 (C[i].length-8*j))) C[i].length=true by
    unfold df;rw[show Nat.add (8*j) (min 8 (C[i].length-8*j))=8*j+min 8 (C[i].length-8*j)from rfl];simp
    omega,oCT,DS (show 0<min 8 (C[i].length-8*j) by omega),oCT,oBS]
theorem H4{C:CC}{T:TT'}(h:StK C T)(a b:Int):dJ C T a b=some (if shp C T/\Th C T a b then((pg C T (a,b)).1,(pg C T (a,b)).2.1,(pg C T (a,b)).2.2.1,(pg C T (a,b)).2.2.2.1,(pg C T (a,b)).2.2.2.2.1,(pg C T (a,b)).2.2.2.2.2.1,(pg C T (a,b)).2.2.2.2.2.2.1,(pg C T (a,b)).2.2.2.2.2.2.2.1,(pg C T (a,b)).2.2.2.2.2.2.2.2.1,(pg C T (a,b)).2.2.2.2.2.2.2.2.2.1,(pg C T (a,b)).2.2.2.2.2.2.2.2.2.2,0,())else(0,0,[],0,0,0,0,0,0,0,[],if shp C T then 30 else 1,())):=by
 by_cases hs:shp C T
 rotate_left
 ·rw[oIN (λg=>hs g.1),oIN hs];unfold dJ;rw[i9 h.1,oDF hs];rfl
 by_cases ht:Th C T a b
 ·rw[oIP ⟨hs,ht⟩];exact Ol hs h.2.2.2 (KL hs ht)
 rw[oIN (λg=>ht g.2),oIP hs];unfold dJ;rw[i9 h.1,oDT hs,oBS];delta bJ;dsimp only;simp only[oNT,oCF];by_cases ha:a=-1
 ·rw[beq_iff_eq.2 ha,oCT];by_cases hb:b<0
  ·rw[oDT hb,oCT]
  rw[oDF hb,oCF,oDT (show b>=(T.length:Int) by unfold Th at ht;omega),oCT]
 rw[oBF ha,oCF];by_cases h1:a<0
 ·rw[oDT h1];rfl
 rw[oDF h1,oCF];by_cases h2:a>=(C.length:Int)
 ·rw[oDT h2];rfl
 rw[oDF h2,oCF];by_cases h3:b<0
 ·rw[oDT h3];rfl
 rw[oDF h3,oCF];by_cases h4:b>32
 ·rw[oDT h4];rfl
 rw[oDF h4,oCF];obtain⟨i,rfl⟩:∃i:Nat,a=i:=⟨a.toNat,by omega⟩
 have hi:i<C.length:=by omega
 rw[bN];simp only[oBS,bQ hi]
 have h5:b*8>=(C[i].length:Int):=by
  unfold Th at ht;rw[oTN,rQ hi]at ht;omega
 rw[bR (x:=b*8) (by omega) (by omega),oDT h5];rfl
theorem KO{C:CC}{T:TT'}(h:StK C T){x:List DCn}(hx:Sm x){v:DTs}(hv:Sm v.2.2.2.2.2.2.2)(a b:Int):
 ku C T a b x v.1 v.2.1 v.2.2.1 v.2.2.2.1 v.2.2.2.2.1 v.2.2.2.2.2.1 v.2.2.2.2.2.2.1 v.2.2.2.2.2.2.2=some ((C8 C T a b x v).1,(C8 C T a b x v).2.1,(C8 C T a b x v).2.2,()):=by
 unfold ku C8;rw[H4 h,oBS];by_cases hs:shp C T
 rotate_left
 ·rw[oIN (λg=>hs g.1),oIN hs,oIN hs];rfl
 simp only[oIP hs];by_cases ht:Th C T a b
 rotate_left
 ·rw[oIN (λg=>ht g.2),oIN ht];rfl
 rw[oIP ⟨hs,ht⟩,oIP ht];delta bJ;dsimp only;rw[bne_self_eq_false,oCF];by_cases ha:a=-1
 ·subst ha
  have h2:0<=b/\b.toNat<T.length:=by
   unfold Th at ht;omega
  obtain⟨t,rfl⟩:∃t:Nat,b=t:=⟨b.toNat,by omega⟩
  have VW:t<T.length:=by omega
  rw[qa VW,oIP rfl];dsimp only;by_cases hl:x.length=0
  rotate_left
  ·rw[mw (b:=([]:List DCn)) (by simpa using hl),oIN hl];rfl
  rw[qf (b:=([]:List DCn)) (by simpa using hl),oIP hl,oCF,show((-1:Int) != -1)=false from rfl,oCF,oBS];dsimp only;rw[oCF,Ch h,oBS];dsimp only;rw[show((-1:Int)==-1)=true from rfl,oCT,DK hv,oBS];dsimp only;rw[bN];simp only[oBS,bQ VW];rfl
 rw[oIN ha]
 have h2:0<=a/\a.toNat<C.length/\0<=b/\b<=32/\8*b.toNat<(C.getD a.toNat []).length:=by
  unfold Th at ht;omega
 obtain⟨i,rfl⟩:∃i:Nat,a=i:=⟨a.toNat,by omega⟩;obtain⟨j,rfl⟩:∃j:Nat,b=j:=⟨b.toNat,by omega⟩;simp only[oTN]at h2⊢;have hi:=h2.2.1;rw[rQ hi]at h2⊢;have hj:=h2.2.2.2.2;have hok:=of_decide_eq_true (hs.2.2 _ (List.getElem_mem hi));rw[Df hi];dsimp only
 have Vm:((C[i].drop (8*j)).take 8).length=min 8 (C[i].length-8*j):=by rw[oLT,List.length_drop]
 rw[Vm];by_cases hl:x.length=min 8 (C[i].length-8*j)
 rotate_left
 ·rw[oIN (λg=>hl g.1),show((x.length:Int) != ((min 8 (C[i].length-8*j):Nat):Int))=true by simp;omega,oCT];rfl
 rw[show((x.length:Int) != ((min 8 (C[i].length-8*j):Nat):Int))=false by simp;omega,oCF,bne_iff_ne.2 (show(i:Int)≠-1 by omega),oCT,Nx];by_cases hz:v=zTs
 rotate_left
 ·rw[oIN (λg=>hz g.2),oDF hz];rfl
 rw[oIP ⟨hl,hz⟩,oDT hz];simp only[oBS,oNT,oCF];rw[Ch h,oBS];dsimp only;rw[oBF (show(i:Int)≠-1 by omega),oCF,bN];simp only[oBS,bQ hi];rw[bR (by omega) (by omega),show(j:Int)*8=((8*j:Nat):Int) by omega,bN];simp only[oBS]
 have RG:Nat.min x.length (Nat.sub C[i].length (8*j))=x.length:=by
  show min x.length (C[i].length-8*j)=x.length;omega
 have YR:df (8*j) C[i].length C[i].length=true:=by unfold df;simp;omega
 have YK:df (8*j) (Nat.add (8*j) x.length) C[i].length=true:=by
  show df (8*j) (8*j+x.length) C[i].length=true;unfold df;simp;omega
 have hb:Nat.blt 0 x.length=true:=by rw[Nat.blt_eq];omega
 rw[YR,oCT,RG,YK,oCT,hb,oCT];rfl
theorem Gr{C:CC}{T:TT'}(h:StK C T){x:List DCn}{v:DTs}(hv:Sm v.2.2.2.2.2.2.2){a b:Int}(he:(C8 C T a b x v).2.2=0):StK (C8 C T a b x v).1 (C8 C T a b x v).2.1:=by
 unfold C8 at he⊢;split
 case isFalse=>rename_i g;rw[oIN g]at he;cases he
 rename_i hs;rw[oIP hs]at he;split
 case isFalse=>rename_i g;rw[oIN g]at he;cases he
 rename_i ht;rw[oIP ht]at he;split
 ·rename_i ha;rw[oIP ha]at he;split
  ·refine⟨h.1,h.2.1,?_,D9 h.2.2.2 hv⟩;show(T.modify _ _).length<=_;rw[oLM];exact h.2.2.1
  ·rename_i g;rw[oIN g]at he;cases he
 rename_i ha;rw[oIN ha]at he;split
 case isFalse=>rename_i g;rw[oIN g]at he;cases he
 rename_i hl
 have h2:a.toNat<C.length/\8*b.toNat<(C.getD a.toNat []).length:=by
  unfold Th at ht;omega
 rw[rQ h2.1]at hl h2⊢;refine⟨?_,λc hc=>?_,h.2.2.1,h.2.2.2⟩
 ·show(C.modify _ _).length<=_;rw[oLM];exact h.1
 ·obtain⟨k,hk,rfl⟩:=List.mem_iff_getElem.1 hc;rw[List.getElem_modify];split
  ·unfold Sm;rw[D6 (by omega)];exact h.2.1 _ (List.getElem_mem h2.1)
  ·exact h.2.1 _ (List.getElem_mem _)
abbrev ST:Type:=CC×TT'
structure PgQ (p:PG4):Prop where
 cells:∀c∈p.2.2.1,R64 c.1/\R64 c.2.1
 code:R64 p.2.2.2.2.2.2.2.2.2.1
 regs:∀c∈p.2.2.2.2.2.2.2.2.2.2,R64 c.1/\R64 c.2.1
 lc:p.2.2.1.length<=1048576
 lr:p.2.2.2.2.2.2.2.2.2.2.length<=1048576
structure StQ (C:CC)(T:TT'):Prop where
 len:C.length<=1048576
 lens:∀r∈C,r.length<=1048576
 tlen:T.length<=1048576
 tlens:∀t∈T,t.2.2.2.2.2.2.2.length<=1048576
 cells:∀r∈C,∀c∈r,R64 c.1/\R64 c.2.1
 codes:∀t∈T,R64 t.2.2.2.2.2.2.1
 regs:∀t∈T,∀c∈t.2.2.2.2.2.2.2,R64 c.1/\R64 c.2.1
theorem StQ.k{C:CC}{T:TT'}(h:StQ C T):StK C T:=⟨Nat.le_trans h.len (by omega),λc hc=>Nat.le_trans (h.lens c hc) (by omega),Nat.le_trans h.tlen (by omega),λt ht=>Nat.le_trans (h.tlens t ht) (by omega)⟩
theorem OY{C:CC}{T:TT'}(h:StQ C T)(p:PID):PgQ (pg C T p):=by
 have hz:R64 0:=by unfold R64;omega
 unfold pg;by_cases hp:p.1=-1
 ·rw[oIP hp];rcases Nat.lt_or_ge p.2.toNat T.length with g|g
  ·rw[cP g];exact⟨λc hc=>(by cases hc),h.codes _ (List.getElem_mem g),h.regs _ (List.getElem_mem g),Nat.zero_le _,h.tlens _ (List.getElem_mem g)⟩
  ·rw[oGD,oGN g];exact⟨λc hc=>(by cases hc),hz,λc hc=>(by cases hc),Nat.zero_le _,Nat.zero_le _⟩
 ·rw[oIN hp];rcases Nat.lt_or_ge p.1.toNat C.length with g|g
  ·rw[cP g];refine⟨λc hc=>h.cells _ (List.getElem_mem g) c (List.mem_of_mem_drop (List.mem_of_mem_take (show c∈(C[p.1.toNat].drop (8*p.2.toNat)).take 8 from hc))),hz,λc hc=>(by cases hc),?_,Nat.zero_le _⟩;show((C[p.1.toNat].drop (8*p.2.toNat)).take 8).length<=_;rw[oLT];omega
  ·rw[oGD,oGN g];exact⟨λc hc=>(by simp at hc),hz,λc hc=>(by cases hc),(by simp),Nat.zero_le _⟩
theorem KT{p:PG4}(h:PgQ p):Sm (pgB p):=by
 have h1:=h.lc;have h2:=h.lr;unfold pgB Sm;rw[List.length_append,List.length_append,List.length_append,lb,lb,qj,qj];simp;omega
theorem MU{p:PG4}(h:PgQ p):j0 p.1 p.2.1 p.2.2.1 p.2.2.2.1 p.2.2.2.2.1 p.2.2.2.2.2.1 p.2.2.2.2.2.2.1 p.2.2.2.2.2.2.2.1 p.2.2.2.2.2.2.2.2.1 p.2.2.2.2.2.2.2.2.2.1 p.2.2.2.2.2.2.2.2.2.2=some (pgB p,()):=by
 have h1:=h.lc;have h2:=h.lr;have h6:=h.code;unfold R64 at h6;unfold j0;dsimp only;rw[qe _ (by simp),oBS];dsimp only;rw[KY _ h.cells (by simp[lb,g8];omega),oBS];dsimp only;rw[show wk .i64 p.2.2.2.2.2.2.2.2.2.1=p.2.2.2.2.2.2.2.2.2.1 from wrap_i64 h6.1 h6.2];rw[qe _ (by simp[qj,g8];omega),oBS];dsimp only;rw[KY _ h.regs (by simp[qj,g8];omega),oBS];unfold pgB;simp only[List.nil_append,List.append_assoc]
def Hs(s:ST)(a b:Int):Prop:=shp s.1 s.2/\Th s.1 s.2 a b
noncomputable instance {s:ST}{a b:Int}:Decidable (Hs s a b):=Classical.propDecidable _
theorem H5{C:CC}{T:TT'}(h:StK C T)(a b:Int):iW C T a b=some (if Hs (C,T) a b then((pg C T (a,b)).1,(pg C T (a,b)).2.1,(pg C T (a,b)).2.2.1,(pg C T (a,b)).2.2.2.1,(pg C T (a,b)).2.2.2.2.1,(pg C T (a,b)).2.2.2.2.2.1,(pg C T (a,b)).2.2.2.2.2.2.1,(pg C T (a,b)).2.2.2.2.2.2.2.1,(pg C T (a,b)).2.2.2.2.2.2.2.2.1,(pg C T (a,b)).2.2.2.2.2.2.2.2.2.1,(pg C T (a,b)).2.2.2.2.2.2.2.2.2.2,0,())else(0,0,[],0,0,0,0,0,0,0,[],if shp C T then 30 else 1,())):=by
 unfold iW;rw[K4 h.1 a b,oBS];dsimp only;by_cases hs:shp C T
 rotate_left
 ·rw[oIN hs,oIN (λg=>hs g.1),oIN hs];rfl
 rw[oIP hs,oIP hs];by_cases ht:Th C T a b
 rotate_left
 ·rw[oIN ht,oIN (λg=>ht g.2)];rfl
 rw[oIP ht,oIP (show Hs (C,T) a b from⟨hs,ht⟩),bne_self_eq_false,oCF];have e:=Oj hs h.2.2.2 (KL hs ht);dsimp only at e;rw[e];rfl
noncomputable def vc (a b:Int)(s:ST):Ans:=if Hs s a b then(true,pgB (pg s.1 s.2 (a,b)))else(false,[])
noncomputable def f8 (a b:Int)(s:ST):PG4:=if Hs s a b then pg s.1 s.2 (a,b)else zPg
noncomputable def jP (l:List ST)(I:List Bool)(a b:Int)(i:Nat):Option jN:=if I.getD i false=true then some (vc a b (l.getD i ([],[])))else none
noncomputable def agK (l:List ST)(I:List Bool)(a b least:Int):PG4×List Int×Int:=
 if l.length<=5/\I.length=l.length/\1<=least/\least<=5 then
  if(vd (jP l I a b) l.length least).1=1\/(vd (jP l I a b) l.length least).1=2 then
   (f8 a b (l.getD ((List.range l.length).findIdx λk=>decide (jP l I a b k=some (true,(vd (jP l I a b) l.length least).2.1))) ([],[])),(vd (jP l I a b) l.length least).2.2,0)
  else(zPg,[],31)
 else(zPg,[],if l.length<=5 then 1 else 3)
theorem Fz{W:Nat->Option jN}{N:Nat}{least:Int}(h:(vd W N least).1=1\/(vd W N least).1=2):
 (vd W N least).2.2=j4 W (true,(vd W N least).2.1) N/\∃k,k<N/\W k=some (true,(vd W N least).2.1):=by
 unfold vd at h⊢;split at h
 ·rcases h with h|h<;>cases h
 rename_i h1;rw[oIN h1];split at h
 rotate_left
 ·rcases h with h|h<;>cases h
 rename_i h2;rw[oIP h2]
 rcases Hi W N with⟨c0,M⟩|⟨_,Zq⟩
 rotate_left
 ·omega
 dsimp only;rw[M.best]
 have e:gj c0=(true,c0.2.1):=by
  unfold gj;rw[M.here]
 rw[<- e];refine⟨rfl,?_⟩;have hm:=M.most
 cases g:c0.2.2 with
 |nil=>rw[g,List.length_nil]at hm;omega
 |cons x r=>
  obtain⟨j,h3,h4,_⟩:=tp.1 (show x∈xT W (gj c0) N by rw[<- M.ids,g];exact List.mem_cons_self);exact⟨j,h3,h4⟩
theorem FA(W:Nat->Option jN)(N:Nat)(least:Int):(vd W N least).1=1\/(vd W N least).1=2\/(vd W N least).1=3\/(vd W N least).1=4:=by
 unfold vd;split
 ·exact .inr (.inr (.inr rfl))
 split
 ·dsimp only;split
  ·exact .inl rfl
  ·exact .inr (.inl rfl)
 ·exact .inr (.inr (.inl rfl))
theorem Lq{W:Nat->Option jN}{N:Nat}{least:Int}{x:Int}(h:x∈(vd W N least).2.2):∃j:Nat,j<N/\x=j:=by
 unfold vd at h;split at h
 ·cases h
 split at h
 ·obtain⟨j,h1,_,_,h2⟩:=zE.1 h;exact⟨j,h1,h2⟩
 ·cases h
theorem KJ(W:Nat->Option jN)(N:Nat)(least:Int):(vd W N least).2.2.length<=N:=by
 unfold vd;split
 ·exact Nat.zero_le _
 split
 ·have:=qk W (gj (va (gA W N))) N;have:=rV W N;dsimp only;omega
 ·exact Nat.zero_le _
theorem FB{W W':Nat->Option jN}{N:Nat}(h:∀i,i<N->W i=W' i)(least:Int):vd W N least=vd W' N least:=by
 have e1:∀i,i<=N->gA W i=gA W' i:=by
  intro i
  induction i with
  |zero=>intro _;rfl
  |succ i ih=>
   intro hi;rw[qJ,qJ,h i (by omega),ih (by omega)]
 have e2:jC W N=jC W' N:=by
  unfold jC;congr 1
  exact List.filter_congr λj hj=>by rw[h j (List.mem_range.1 hj)]
 have e3:∀k,j4 W k N=j4 W' k N:=λk=>by
  unfold j4;congr 1
  exact List.filter_congr λj hj=>by rw[h j (List.mem_range.1 hj)]
 unfold vd;rw[e1 N (Nat.le_refl _),e2,e3]
theorem He{α:Type}{n i:Nat}(f g:Nat->α)(hi:i<n)(x:α)(h:∀j,g j=if j=i then x else f j):((List.range n).map f).modify i (λ_=>x)=(List.range n).map g:=by
 apply List.ext_getElem?;intro k;rw[List.getElem?_modify,List.getElem?_map,List.getElem?_map];rcases Nat.lt_or_ge k n with hk|hk
 ·rw[List.getElem?_range hk];simp only[oMS];rw[h k];by_cases e:i=k
  ·subst e;simp
  ·rw[oIN (λe'=>e e'.symm)];simp[e]
 ·rw[oGN (by simpa using hk)];rfl
theorem qF{n k:Nat}{q:Nat->Bool}(hk:k<n)(h1:q k=true)(h2:∀j,j<k->q j=false):(List.range n).findIdx q=k:=by
 have hl:k<(List.range n).length:=by rw[List.length_range];exact hk
 refine(List.findIdx_eq hl).2 ⟨by rw[List.getElem_range];exact h1,λj hj=>?_⟩;rw[List.getElem_range];exact h2 j hj
noncomputable def asL (l:List ST)(I:List Bool)(a b:Int)(i:Nat):List Ans:=(List.range l.length).map λj=>if j<i/\I.getD j false=true then vc a b (l.getD j ([],[]))else(false,[])
noncomputable def gsL (l:List ST)(I:List Bool)(a b:Int)(i:Nat):List PG4:=(List.range l.length).map λj=>if j<i/\I.getD j false=true then f8 a b (l.getD j ([],[]))else zPg
theorem yQ(l:List ST)(I:List Bool)(a b:Int)(i:Nat):(asL l I a b i).length=l.length:=by unfold asL;simp
theorem B2(l:List ST)(I:List Bool)(a b:Int)(i:Nat):(gsL l I a b i).length=l.length:=by unfold gsL;simp
theorem Kv(l:List ST)(I:List Bool)(a b:Int):asL l I a b 0=List.replicate l.length (false,[]):=List.eq_replicate_iff.2 ⟨yQ _ _ _ _ _,λx hx=>by
 obtain⟨j,_,e⟩:=List.mem_map.1 hx;rw[oIN (by omega)]at e
 exact e.symm⟩
theorem J7(l:List ST)(I:List Bool)(a b:Int):gsL l I a b 0=List.replicate l.length zPg:=List.eq_replicate_iff.2 ⟨B2 _ _ _ _ _,λx hx=>by
 obtain⟨j,_,e⟩:=List.mem_map.1 hx;rw[oIN (by omega)]at e
 exact e.symm⟩
theorem At{α:Type}{n:Nat}{f g:Nat->α}(h:∀j,j<n->f j=g j):(List.range n).map f=(List.range n).map g:=List.map_congr_left λj hj=>h j (List.mem_range.1 hj)
theorem ID{l:List ST}(a b:Int)(s:ST)(h:StQ s.1 s.2):Byt (vc a b s).2/\Sm (vc a b s).2:=by
 unfold vc;split
 ·exact⟨Bx _,KT (OY h _)⟩
 ·exact⟨λx hx=>(by cases hx),(by simp[Sm])⟩
theorem OI{l:List ST}(hl:∀s∈l,StQ s.1 s.2)(I:List Bool)(a b:Int)(i:Nat):vj (asL l I a b i):=by
 have Z0:∀x∈asL l I a b i,Byt x.2/\Sm x.2:=λx hx=>by
  obtain⟨j,hj,rfl⟩:=List.mem_map.1 hx;have hj:=List.mem_range.1 hj;split
  ·rw[cP hj];exact ID (l:=l) a b _ (hl _ (List.getElem_mem hj))
  ·exact⟨λx hx=>(by cases hx),(by simp[Sm])⟩
 exact⟨λx hx=>(Z0 x hx).1,λx hx=>(Z0 x hx).2⟩
theorem M5(a b:Int)(s:ST):nrm (vc a b s)=vc a b s:=by
 unfold vc nrm;split<;>rfl
theorem Lo(l:List ST)(I:List Bool)(a b:Int):∀i,i<l.length->tM (asL l I a b l.length) I i=jP l I a b i:=λi hi=>by
 unfold tM jP;by_cases h:I.getD i false=true
 ·rw[oIP h,oIP h]
  have e:(asL l I a b l.length).getD i (false,[])=vc a b (l.getD i ([],[])):=by
   rw[cP (by rw[yQ];exact hi)];unfold asL;rw[List.getElem_map,List.getElem_range,oIP ⟨hi,h⟩]
  rw[e,M5]
 ·rw[oIN h,oIN h]
theorem IJ{l:List ST}(hl:∀s∈l,StQ s.1 s.2)(hn:l.length<=1000){I:List Bool}(hI:Sm I)(a b least:Int):
 gJ l I a b least=some ((agK l I a b least).1.1,(agK l I a b least).1.2.1,(agK l I a b least).1.2.2.1,(agK l I a b least).1.2.2.2.1,(agK l I a b least).1.2.2.2.2.1,(agK l I a b least).1.2.2.2.2.2.1,(agK l I a b least).1.2.2.2.2.2.2.1,(agK l I a b least).1.2.2.2.2.2.2.2.1,(agK l I a b least).1.2.2.2.2.2.2.2.2.1,(agK l I a b least).1.2.2.2.2.2.2.2.2.2.1,(agK l I a b least).1.2.2.2.2.2.2.2.2.2.2,(agK l I a b least).2.1,(agK l I a b least).2.2,()):=by
 unfold gJ;delta bJ;dsimp only;rw[bN];simp only[oBS];rw[show gk l.length l.length 2=true by unfold gk;simp;omega,oCT,show gk l.length l.length 11=true by unfold gk;simp;omega,oCT]
 have l0:=loop_seq (f:=fj) (st:=λi=>(I,least,l,(l.length:Int),(i:Int),a,b,(0:Int),(0:Int),(),(0:Int),(0:Int),(0:Int),(0:Int),(0:Int),(0:Int),(0:Int),(),asL l I a b i,gsL l I a b i,())) (n:=l.length) (N:=NN)
  (fin:=(I,least,l,(l.length:Int),(l.length:Int),false,a,b,(0:Int),(0:Int),(),(0:Int),(0:Int),(0:Int),(0:Int),(0:Int),(0:Int),(0:Int),(),asL l I a b l.length,gsL l I a b l.length,())) (eA (by omega)) (λi hi=>by
  have hs:=hl _ (List.getElem_mem hi)
  have Yo:I.getD i false=false\/vc a b (l.getD i ([],[]))=(false,[])/\f8 a b (l.getD i ([],[]))=zPg->asL l I a b (i+1)=asL l I a b i/\gsL l I a b (i+1)=gsL l I a b i:=λh=>by
   refine⟨At λj hj=>?_,At λj hj=>?_⟩
   all_goals
    by_cases e:j=i
    ·subst e;rw[oIN (show ¬(j<j/\_)from λh=>absurd h.1 (Nat.lt_irrefl _))];rcases h with h|h
     ·rw[oIN (by rw[h];exact λh=>by cases h.2)]
     ·first
      |rw[h.1];split<;>rfl
      |rw[h.2];split<;>rfl
    ·by_cases g:j<i
     ·simp only[g,show j<i+1 by omega]
     ·simp only[g,show ¬j<i+1 by omega]
  unfold fj;delta bJ;dsimp only;rw[oDT (show(i:Int)<(l.length:Int) by omega),oCT,bN];simp only[oBS];rw[bQ hi];simp only[oBS]
  have hw:w64 ((i:Int)+1)=((i+1:Nat):Int):=by rw[bR (by omega) (by omega)];rfl
  by_cases h1:I.length<=i
  ·have e0:I.getD i false=false:=by rw[oGD,oGN h1];rfl
   obtain⟨e1,e2⟩:=Yo (.inl e0);rw[oDT (show(i:Int)>=(I.length:Int) by omega),oCT,e1,e2];dsimp only;rw[hw]
  rw[oDF (show ¬(i:Int)>=(I.length:Int) by omega),oCF,bQ (show i<I.length by omega)];simp only[oBS];have ei:I.getD i false=I[i]'(by omega):=cP (show i<I.length by omega)
  cases hin:I[i]'(by omega)with
  |false=>
   rw[hin]at ei;obtain⟨e1,e2⟩:=Yo (.inl ei);rw[Bool.not_false,oCT,e1,e2];dsimp only;rw[hw]
  |true=>
   rw[hin]at ei;rw[oNT,oCF,H5 hs.k];simp only[oBS];by_cases g:Hs (l[i].1,l[i].2) a b
   rotate_left
   ·obtain⟨e1,e2⟩:=Yo (.inr ⟨by unfold vc;rw[cP hi,oIN g],by unfold f8;rw[cP hi,oIN g]⟩);rw[oIN g];dsimp only
    have e3:((if shp l[i].1 l[i].2 then(30:Int)else 1)==0)=false:=by split<;>rfl
    rw[e3,oCF,e1,e2];dsimp only;rw[hw]
   rw[oIP g];dsimp only;rw[beq_self_eq_true,oCT,MU (OY hs (a,b))];simp only[oBS];rw[bQ (show i<(gsL l I a b i).length by rw[B2];exact hi)];simp only[oBS];rw[bQ (show i<(asL l I a b i).length by rw[yQ];exact hi)];simp only[oBS]
   have ea:vc a b (l.getD i ([],[]))=(true,pgB (pg l[i].1 l[i].2 (a,b))):=by unfold vc;rw[cP hi,oIP g]
   have eg:f8 a b (l.getD i ([],[]))=pg l[i].1 l[i].2 (a,b):=by unfold f8;rw[cP hi,oIP g]
   have m1:(asL l I a b i).modify i (λ_=>(true,pgB (pg l[i].1 l[i].2 (a,b))))=asL l I a b (i+1):=He _ _ hi _ λj=>by
    by_cases e:j=i
    ·subst e;rw[oIP rfl,oIP ⟨by omega,ei⟩,ea]
    ·rw[oIN e];by_cases g:j<i
     ·simp only[g,show j<i+1 by omega]
     ·simp only[g,show ¬j<i+1 by omega]
   have m2:(gsL l I a b i).modify i (λ_=>pg l[i].1 l[i].2 (a,b))=gsL l I a b (i+1):=He _ _ hi _ λj=>by
    by_cases e:j=i
    ·subst e;rw[oIP rfl,oIP ⟨by omega,ei⟩,eg]
    ·rw[oIN e];by_cases g:j<i
     ·simp only[g,show j<i+1 by omega]
     ·simp only[g,show ¬j<i+1 by omega]
   rw[<- m1,<- m2,hw]) (by
  unfold fj;dsimp only
  rw[oDF (by omega),oCF])
 rw[Kv,J7]at l0;rw[show bM fj NN (I,least,l,(l.length:Int),0,a,b,0,0,(),0,0,0,0,0,0,0,(),List.replicate l.length (false,[]),List.replicate l.length (0,(0,([],(0,(0,(0,(0,(0,(0,(0,[])))))))))),())=_ from l0,oBS];dsimp only;have hA:=OI hl I a b l.length;have V6:=yQ l I a b l.length;have hGl:=B2 l I a b l.length;unfold agK;by_cases hgood:l.length<=5/\I.length=l.length/\1<=least/\least<=5
 rotate_left
 ·rw[EV hA (by rw[Sm,V6];omega) hI (by rw[V6];exact hgood),oBS,oIN hgood,V6];dsimp only;by_cases g:l.length<=5
  ·rw[oIP g];rfl
  ·rw[oIN g];rfl
 rw[oIP hgood,Kj hA (by omega) (by omega) hgood.2.2.1 hgood.2.2.2,oBS,V6,FB (Lo l I a b) least];dsimp only;rw[bne_self_eq_false,oCF];have Yg:=FA (jP l I a b) l.length least;have YF:=Fz (W:=jP l I a b) (N:=l.length) (least:=least);have hlen:=KJ (jP l I a b) l.length least;generalize vd (jP l I a b) l.length least=V at Yg YF hlen⊢;obtain⟨K,bs,S⟩:=V;dsimp only at Yg YF hlen⊢;by_cases hk:K=1\/K=2
 rotate_left
 ·rw[oIN hk,bne_iff_ne.2 (show K≠1 from λe=>hk (.inl e)),oCT,bne_iff_ne.2 (show K≠2 from λe=>hk (.inr e)),oCT]
 rw[oIP hk];obtain⟨eS,k0,UI,WH⟩:=YF hk
 have Sd:(bif(K != 1)then(bif(K != 2)then(some (.inl (31,0,0,(),0,0,0,0,0,0,0,(),(),())))else
  some (.inr (I,asL l I a b l.length,false,0,0,(),0,0,0,0,0,0,0,(),asL l I a b l.length,gsL l I a b l.length,K,bs,S,())))else
  some (.inr (I,asL l I a b l.length,false,0,0,(),0,0,0,0,0,0,0,(),asL l I a b l.length,gsL l I a b l.length,K,bs,S,())):Option ((Int×Int×Int×Unit×Int×Int×Int×Int×Int×Int×Int×Unit×Unit×Unit)⊕((List (Bool))×(List (Bool×List (Int)))×Bool×Int×Int×Unit×Int×Int×Int×Int×Int×Int×Int×Unit×(List (Bool×List (Int)))×(List (Int×Int×(List DCn)×Int×Int×Int×Int×Int×Int×Int×List DCn))×Int×(List (Int))×(List (Int))×Unit)))=some (.inr (I,asL l I a b l.length,false,0,0,(),0,0,0,0,0,0,0,(),asL l I a b l.length,gsL l I a b l.length,K,bs,S,())):=by
  rcases hk with rfl|rfl
  ·rfl
  ·rfl
 rw[Sd];dsimp only;rw[V6]
 have Zy:∀i,i<l.length->(((i:Int)∈S)↔(jP l I a b i).isSome=true/\jP l I a b i≠some (true,bs)):=λi hi=>by
  rw[eS]
  exact zE.trans ⟨λ⟨j,h1,h2,h3,h4⟩=>by
   obtain rfl:i=j:=by omega
   exact⟨h2,h3⟩,λ⟨h2,h3⟩=>⟨i,hi,h2,h3,rfl⟩⟩
 have hin:∀i,i<l.length->dW (I,asL l I a b l.length,(l.length:Int),(i:Int),0,0,(),0,0,0,0,0,0,0,(),asL l I a b l.length,gsL l I a b l.length,K,bs,S,())=if jP l I a b i≠some (true,bs)then some (.inl (I,asL l I a b l.length,(l.length:Int),((i+1:Nat):Int),0,0,(),0,0,0,0,0,0,0,(),asL l I a b l.length,gsL l I a b l.length,K,bs,S,()))else
  some (.inr (.inl (S,0,(f8 a b (l.getD i ([],[]))).1,(f8 a b (l.getD i ([],[]))).2.1,(f8 a b (l.getD i ([],[]))).2.2.1,(f8 a b (l.getD i ([],[]))).2.2.2.1,(f8 a b (l.getD i ([],[]))).2.2.2.2.1,(f8 a b (l.getD i ([],[]))).2.2.2.2.2.1,(f8 a b (l.getD i ([],[]))).2.2.2.2.2.2.1,(f8 a b (l.getD i ([],[]))).2.2.2.2.2.2.2.1,(f8 a b (l.getD i ([],[]))).2.2.2.2.2.2.2.2.1,(f8 a b (l.getD i ([],[]))).2.2.2.2.2.2.2.2.2.1,(f8 a b (l.getD i ([],[]))).2.2.2.2.2.2.2.2.2.2,()))):=λi hi=>by
  have Z3:i<I.length:=by omega
  have ei:I.getD i false=I[i]:=cP Z3
  have hw:w64 ((i:Int)+1)=((i+1:Nat):Int):=by rw[bR (by omega) (by omega)];rfl
  have Zd:(asL l I a b l.length)[i]'(by omega)=if i<l.length/\I.getD i false=true then vc a b (l.getD i ([],[]))else(false,[]):=by
   unfold asL;rw[List.getElem_map,List.getElem_range]
  have Td:(gsL l I a b l.length)[i]'(by omega)=if i<l.length/\I.getD i false=true then f8 a b (l.getD i ([],[]))else zPg:=by
   unfold gsL;rw[List.getElem_map,List.getElem_range]
  unfold dW;dsimp only;rw[oDT (show(i:Int)<(l.length:Int) by omega),oCT,bN];simp only[oBS];rw[bQ (show i<(asL l I a b l.length).length by omega),Zd];simp only[oBS];rw[bQ Z3];simp only[oBS]
  cases hb:I[i]with
  |false=>
   rw[hb]at ei
   have Zq:jP l I a b i≠some (true,bs):=by
    unfold jP;rw[oIN (by rw[ei];exact λh=>by cases h)]
    exact λh=>by cases h
   rw[oCF,oIP Zq];simp only[oBS,oCF];rw[hw]
  |true=>
   rw[hb]at ei
   have WB:jP l I a b i=some (vc a b (l.getD i ([],[]))):=by
    unfold jP;rw[oIP ei]
   rw[oCT,oIP ⟨hi,ei⟩]
   cases hA1:(vc a b (l.getD i ([],[]))).1 with
   |false=>
    have Zq:jP l I a b i≠some (true,bs):=by
     rw[WB];intro h
     injection h with h
     rw[h]at hA1;cases hA1
    rw[oCF,oIP Zq];simp only[oBS,oCF];rw[hw]
   |true=>
    rw[oCT,uR (by unfold Sm;omega)];simp only[oBS];by_cases g:jP l I a b i≠some (true,bs)
    ·rw[oIP g,oDT ((Zy i hi).2 ⟨by rw[WB];rfl,g⟩),oNT,oCF,hw]
    ·rw[oIN g,oDF (λh=>g ((Zy i hi).1 h).2),Bool.not_false,oCT,bN,oBS,bQ (show i<(gsL l I a b l.length).length by omega),Td,oIP ⟨hi,ei⟩];rfl
 rcases fD (f:=dW) (st:=λi=>(I,asL l I a b l.length,(l.length:Int),(i:Int),(0:Int),(0:Int),(),(0:Int),(0:Int),(0:Int),(0:Int),(0:Int),(0:Int),(0:Int),(),asL l I a b l.length,gsL l I a b l.length,K,bs,S,())) (p:=λi=>jP l I a b i≠some (true,bs)) (n:=l.length) (N:=NN)
  (bad:=λi=>.inl (S,0,(f8 a b (l.getD i ([],[]))).1,(f8 a b (l.getD i ([],[]))).2.1,(f8 a b (l.getD i ([],[]))).2.2.1,(f8 a b (l.getD i ([],[]))).2.2.2.1,(f8 a b (l.getD i ([],[]))).2.2.2.2.1,(f8 a b (l.getD i ([],[]))).2.2.2.2.2.1,(f8 a b (l.getD i ([],[]))).2.2.2.2.2.2.1,(f8 a b (l.getD i ([],[]))).2.2.2.2.2.2.2.1,(f8 a b (l.getD i ([],[]))).2.2.2.2.2.2.2.2.1,(f8 a b (l.getD i ([],[]))).2.2.2.2.2.2.2.2.2.1,(f8 a b (l.getD i ([],[]))).2.2.2.2.2.2.2.2.2.2,())) (fin:=.inr (I,asL l I a b l.length,(l.length:Int),(l.length:Int),false,0,0,(),0,0,0,0,0,0,0,(),asL l I a b l.length,gsL l I a b l.length,K,bs,S,())) (eA (by omega)) (λi hi=>by
  by_cases g:jP l I a b i≠some (true,bs)
  ·exact .inl ⟨g,by rw[hin i hi,oIP g]⟩
  ·exact .inr ⟨g,by rw[hin i hi,oIN g]⟩) (by
  unfold dW;dsimp only
  rw[oDF (by omega),oCF])with⟨hp,e⟩|⟨k,hk,hp,Ui,e⟩
 ·exact absurd WH (hp k0 UI)
 ·have YJ:jP l I a b k=some (true,bs):=Classical.byContradiction Ui;rw[qF hk (oDT YJ) λj hj=>oDF (hp j hj)];rw[show bM dW NN (I,asL l I a b l.length,(l.length:Int),0,0,0,(),0,0,0,0,0,0,0,(),asL l I a b l.length,gsL l I a b l.length,K,bs,S,())=_ from e]
theorem k9(v:Int){acc:List Int}(ha:acc.length+8<=1099511627776):cb v acc=some (acc++le8 v,()):=by
 unfold cb;dsimp only;rw[Fv]
 have l0:=loop_seq (f:=dX) (st:=λk=>(v%18446744073709551616,(k:Int),acc++(List.range k).map (λi=>v%18446744073709551616/256 ^ i%256),())) (n:=8) (N:=NN) (fin:=(v%18446744073709551616,((8:Nat):Int),false,acc++(List.range 8).map (λi=>v%18446744073709551616/256 ^ i%256),())) (eA (by omega)) (λk hk=>by
  unfold dX;dsimp only;rw[oDT (show(k:Int)<8 by omega),oCT,bR (x:=8*(k:Int)) (by omega) (by omega),Fv,show 8*(k:Int)%18446744073709551616=((8*k:Nat):Int) by omega,bN];simp only[oBS];rw[Gk k (by omega),NA,bT (by simp;omega) (by simp) (by omega) (by simp;omega),oCT,bR (by omega) (by omega),List.range_succ,List.map_append,<- List.append_assoc]
  rfl) (by
  unfold dX;dsimp only
  rw[oDF (by omega),oCF])
 rw[show bM dX NN (v%18446744073709551616,0,acc,())=bM dX NN (v%18446744073709551616,((0:Nat):Int),acc++(List.range 0).map (λi=>v%18446744073709551616/256 ^ i%256),())from by rw[List.range_zero,List.map_nil,List.append_nil];rfl,l0,oBS];rfl
theorem Ip(l:List DCn)(hl:∀c∈l,R64 c.1/\R64 c.2.1){acc:List Int}(ha:acc.length+8+32*l.length<=1099511627776):iw l acc=some (acc++IR l,()):=by
 unfold iw;delta bJ;dsimp only;rw[k9 _ (by omega),oBS];dsimp only
 have l0:=loop_seq (f:=eG) (st:=λk=>(l,(k:Int),(acc++le8 (l.length:Int))++(l.take k).flatMap (λc=>(qO c).flatMap le8),())) (n:=l.length) (N:=NN) (fin:=(l,(l.length:Int),false,(acc++le8 (l.length:Int))++(l.take l.length).flatMap (λc=>(qO c).flatMap le8),())) (eA (by omega)) (λk hk=>by
  unfold eG;delta bJ;dsimp only;rw[oDT (show(k:Int)<(l.length:Int) by omega),oCT,bN];simp only[oBS];rw[bQ hk];simp only[oBS];have h:=hl _ (List.getElem_mem hk);unfold R64 at h
  have hlen:((acc++le8 (l.length:Int))++(l.take k).flatMap (λc=>(qO c).flatMap le8)).length<=acc.length+8+32*k:=by
   rw[List.length_append,List.length_append,uX,g8,oLT];omega
  rw[show wk .i64 l[k].1=l[k].1 from wrap_i64 h.1.1 h.1.2,show wk .i64 l[k].2.1=l[k].2.1 from wrap_i64 h.2.1 h.2.2];generalize hacc:(acc++le8 (l.length:Int))++(l.take k).flatMap (λc=>(qO c).flatMap le8)=X at hlen;rw[k9 _ (by omega)];simp only[oBS];rw[k9 _ (by rw[List.length_append,g8];omega)];simp only[oBS];rw[k9 _ (by rw[List.length_append,List.length_append,g8,g8];omega)];simp only[oBS];rw[k9 _ (by rw[List.length_append,List.length_append,List.length_append,g8,g8,g8];omega)];simp only[oBS]
  have e:(acc++le8 (l.length:Int))++(l.take (k+1)).flatMap (λc=>(qO c).flatMap le8)=X++le8 l[k].1++le8 l[k].2.1++le8 l[k].2.2.1++le8 l[k].2.2.2:=by
   rw[<- fb hk,List.flatMap_append,<- List.append_assoc,hacc];simp[qO]
  rw[bR (by omega) (by omega),e]
  rfl) (by
  unfold eG;delta bJ;dsimp only
  rw[oDF (by omega),oCF])
 rw[List.take_length]at l0;rw[show bM eG NN (l,0,acc++le8 (l.length:Int),())=bM eG NN (l,((0:Nat):Int),(acc++le8 (l.length:Int))++(l.take 0).flatMap (λc=>(qO c).flatMap le8),())from by rw[List.take_zero,List.flatMap_nil,List.append_nil];rfl,l0,oBS];unfold IR;simp only[List.append_assoc]
theorem MV{p:PG4}(h:PgQ p):jX p.1 p.2.1 p.2.2.1 p.2.2.2.1 p.2.2.2.2.1 p.2.2.2.2.2.1 p.2.2.2.2.2.2.1 p.2.2.2.2.2.2.2.1 p.2.2.2.2.2.2.2.2.1 p.2.2.2.2.2.2.2.2.2.1 p.2.2.2.2.2.2.2.2.2.2=some (pgB p,()):=by
 obtain⟨a,b,C,n0,n1,n2,n3,n4,n5,n6,R⟩:=p;have h1:C.length<=1048576:=h.lc;have h2:R.length<=1048576:=h.lr;have h6:R64 n6:=h.code;unfold R64 at h6;unfold jX;dsimp only;rw[k9 _ (by simp),oBS];dsimp only;rw[k9 _ (by simp[g8]),oBS];dsimp only;rw[Ip _ h.cells (by simp[g8];omega),oBS];dsimp only;rw[show wk .i64 n6=n6 from wrap_i64 h6.1 h6.2];obtain⟨X,hX⟩:∃X,X=[]++le8 a++le8 b++IR C:=⟨_,rfl⟩
 have hXl:X.length<=16+8+32*C.length:=by
  rw[hX];simp[g8,qj];omega
 rw[<- hX];obtain⟨Y,hY⟩:∃Y,Y=[n0,n1,n2,n3,n4,n5,n6]:=⟨_,rfl⟩
 have l0:=loop_seq (f:=eH) (st:=λk=>((k:Int),X++(Y.take k).flatMap le8,n0,n1,n2,n3,n4,n5,n6,R,n0,n1,n2,n3,n4,n5,n6,())) (n:=7) (N:=NN) (fin:=(((7:Nat):Int),false,X++(Y.take 7).flatMap le8,n0,n1,n2,n3,n4,n5,n6,R,n0,n1,n2,n3,n4,n5,n6,())) (eA (by omega)) (λk hk=>by
  have hlen:(X++(Y.take k).flatMap le8).length+8<=1099511627776:=by
   rw[List.length_append,lb,oLT];omega
  have hw:w64 ((k:Int)+1)=((k+1:Nat):Int):=by rw[bR (by omega) (by omega)];rfl
  unfold eH;dsimp only;rw[oDT (show(k:Int)<7 by omega),oCT,bN];simp only[oBS]
  obtain rfl|rfl|rfl|rfl|rfl|rfl|rfl:k=0\/k=1\/k=2\/k=3\/k=4\/k=5\/k=6:=by omega
  all_goals
   simp only[show Nat.beq 0 0=true from rfl,show Nat.beq 1 0=false from rfl,show Nat.beq 1 1=true from rfl,show Nat.beq 2 0=false from rfl,show Nat.beq 2 1=false from rfl,show Nat.beq 2 2=true from rfl,show Nat.beq 3 0=false from rfl,show Nat.beq 3 1=false from rfl,show Nat.beq 3 2=false from rfl,show Nat.beq 3 3=true from rfl,show Nat.beq 4 0=false from rfl,show Nat.beq 4 1=false from rfl,show Nat.beq 4 2=false from rfl,show Nat.beq 4 3=false from rfl,show Nat.beq 4 4=true from rfl,show Nat.beq 5 0=false from rfl,show Nat.beq 5 1=false from rfl,show Nat.beq 5 2=false from rfl,show Nat.beq 5 3=false from rfl,show Nat.beq 5 4=false from rfl,show Nat.beq 5 5=true from rfl,show Nat.beq 6 0=false from rfl,show Nat.beq 6 1=false from rfl,show Nat.beq 6 2=false from rfl,show Nat.beq 6 3=false from rfl,show Nat.beq 6 4=false from rfl,show Nat.beq 6 5=false from rfl,show Nat.beq 6 6=true from rfl,oCT,oCF];rw[k9 _ hlen];simp only[oBS];rw[hw];subst hY
   simp) (by
  unfold eH;dsimp only
  rw[oDF (by omega),oCF])
 rw[show bM eH NN (0,X,n0,n1,n2,n3,n4,n5,n6,R,n0,n1,n2,n3,n4,n5,n6,())=bM eH NN (((0:Nat):Int),X++(Y.take 0).flatMap le8,n0,n1,n2,n3,n4,n5,n6,R,n0,n1,n2,n3,n4,n5,n6,())from by rw[List.take_zero,List.flatMap_nil,List.append_nil];rfl,l0,oBS];dsimp only;rw[Ip _ (show ∀c∈R,R64 c.1/\R64 c.2.1 from h.regs) (by rw[List.length_append,lb,oLT];omega),oBS];subst hX hY;unfold pgB;simp
theorem L4{a:Ans}(ha:Byt a.2){c:Cls}(hc:yU (gj c)):kS c.1 c.2.1 a.1 a.2=some (decide (nrm a=gj c),()):=by
 obtain⟨h,b⟩:=a;obtain⟨h',b',m⟩:=c;have hn:h'=false->b'=[]:=hc.nil;have Zx:Byt b':=hc.byt;have WR:Byt b:=ha;unfold kS nrm gj;dsimp only
 cases h' with
 |false=>
  rw[hn rfl];cases h<;>rfl
 |true=>
  cases h with
  |false=>
   rw[oNT,oCF,Bool.not_false,oCT];rfl
  |true=>
   rw[oNT,oCF,oCF];unfold mo;show some (IS (mK b') (mK b),())=_;by_cases g:b=b'
   ·rw[(oI Zx WR).2 g.symm,oDT (by rw[g];rfl)]
   ·rw[oDF (λe=>g (congrArg Prod.snd e)),Bool.eq_false_iff.2 λh=>g ((oI Zx WR).1 h).symm]
theorem Pm{A:List Ans}{I:List Bool}{i:Nat}(hi:i<A.length){Q:List Cls}(hQ:∀c∈Q,yU (gj c))(hb:Byt A[i].2)(hs:Sm Q):bM cG NN (A,I,(i:Int),0,Q,())=some (A,I,(i:Int),(atK Q (nrm A[i]):Int),false,Q,()):=by
 rcases fD (f:=cG) (st:=λk=>(A,I,(i:Int),(k:Int),Q,())) (p:=λk=>∀h:k<Q.length,nrm A[i]≠gj Q[k]) (n:=Q.length) (N:=NN) (bad:=λk=>(A,I,(i:Int),(k:Int),false,Q,())) (fin:=(A,I,(i:Int),(Q.length:Int),false,Q,())) (eA hs) (λk hk=>by
  have h1:=hQ _ (List.getElem_mem hk)
  have e:cG (A,I,(i:Int),(k:Int),Q,())=if nrm A[i]=gj Q[k]then some (.inr (A,I,(i:Int),(k:Int),false,Q,()))else some (.inl (A,I,(i:Int),((k+1:Nat):Int),Q,())):=by
   unfold cG;delta bJ;dsimp only;rw[oDT (show(k:Int)<(Q.length:Int) by omega),oCT,bN];simp only[oBS];rw[bQ hk];simp only[oBS];rw[bN];simp only[oBS];rw[bQ hi];simp only[oBS];rw[L4 hb h1];simp only[oBS];by_cases g:nrm A[i]=gj Q[k]
   ·rw[oDT g,oNT,oCF,oIP g]
   ·rw[oDF g,Bool.not_false,oCT,oIN g,bR (by omega) (by unfold Sm at hs;omega)];rfl
  by_cases g:nrm A[i]=gj Q[k]
  ·exact .inr ⟨λh=>h hk g,by rw[e,oIP g]⟩
  ·exact .inl ⟨λ_=>g,by rw[e,oIN g]⟩) (by
  unfold cG;delta bJ;dsimp only
  rw[oDF (by omega),oCF])with⟨hp,e⟩|⟨k,hk,hp,hn,e⟩
 ·have e1:atK Q (nrm A[i])=Q.length:=List.findIdx_eq_length_of_false λc hc=>by
   obtain⟨k,hk,rfl⟩:=List.mem_iff_getElem.1 hc;exact oDF (hp k hk hk)
  rw[show bM cG NN (A,I,(i:Int),0,Q,())=_ from e,e1]
 ·have ZZ:nrm A[i]=gj Q[k]:=Classical.byContradiction λh=>hn λ_=>h;have e1:atK Q (nrm A[i])=k:=(List.findIdx_eq hk).2 ⟨oDT ZZ,λj hj=>oDF (hp j hj (by omega))⟩;rw[show bM cG NN (A,I,(i:Int),0,Q,())=_ from e,e1]
theorem DN{A:List Ans}{I:List Bool}(hA:vj A)(hn:A.length<=5)(hI:I.length=A.length):fr A I=some (gA (tM A I) A.length,0,()):=by
 obtain⟨W,hW⟩:∃W,W=tM A I:=⟨_,rfl⟩;unfold fr;delta bJ;dsimp only;rw[oDF (show ¬(A.length:Int)>5 by omega),oCF,hI,bne_self_eq_false,oCF]
 have l0:=loop_seq (f:=eI) (st:=λi=>(A,I,(i:Int),gA W i,())) (n:=A.length) (N:=NN) (fin:=(A,I,(A.length:Int),false,gA W A.length,())) (eA (by omega)) (λi hi=>by
  have c1:=tD W i;have c2:∀c∈gA W i,yU (gj c):=λc hc=>DL (I:=I) hA (by rw[<- hW];exact hc);have c3:∀c∈gA W i,c.2.2.length<=i:=λc hc=>tC hc;have hb:=hA.byt _ (List.getElem_mem hi);have Vo:=hA.sm _ (List.getElem_mem hi)
  have Vx:W i=if I[i]'(by omega)=true then some (nrm A[i])else none:=by
   rw[hW];unfold tM;rw[cP (show i<I.length by omega),cP hi]
  unfold eI;delta bJ;dsimp only;rw[oDT (show(i:Int)<(A.length:Int) by omega),oCT,bN];simp only[oBS];rw[bQ (show i<I.length by omega)];simp only[oBS];rw[qJ,Vx];by_cases hin:I[i]'(by omega)=true
  rotate_left
  ·rw[oIN hin,Bool.eq_false_iff.2 hin,Bool.not_false,oCT,bR (by omega) (by omega)];rfl
  rw[oIP hin,hin,oNT,oCF,Pm hi c2 hb (by unfold Sm;omega)];simp only[oBS];obtain⟨Q,hQ⟩:∃Q,Q=gA W i:=⟨_,rfl⟩;rw[<- hQ]at c1 c2 c3⊢;obtain⟨n,UO⟩:∃n,n=atK Q (nrm A[i]):=⟨_,rfl⟩;have hat:n<=Q.length:=UO▸IA Q (nrm A[i])
  have XT:AZ Q (nrm A[i]) i=(if n=Q.length then Q++[((nrm A[i]).1,((nrm A[i]).2,[]))]else Q).modify n λe=>(e.1,(e.2.1,e.2.2++[(i:Int)])):=by
   unfold AZ;rw[<- UO]
  rw[XT,<- UO]
  have fin:∀R:List Cls,n<R.length->(∀c∈R,c.2.2.length<=i)->((cl (n:Int)).bind λVt=>
   (bV R Vt).bind λU1=>(bV R Vt).bind λT4=>(bV R Vt).bind λV4=>
   bif(b6 8 (List.length V4.2.2) (List.length [(i:Int)]))then let QK:List (Int):=(List.append V4.2.2 [(i:Int)]);
   (cl (n:Int)).bind λT5=>(bV R T5).bind λQL=>(bV R T5).bind λQM=>
   bif(Nat.beq T5 Vt)then let x22:List (Bool×(List (Int))×List (Int)):=(List.modify R T5 λe=>(e.1,(e.2.1,QK)));
   let x23:Int:=(w64 ((i:Int)+1));
   (some (.inl (A,I,x23,x22,())):Option (((List (Bool×List (Int)))×(List (Bool))×Int×(List (Bool×(List (Int))×List (Int)))×Unit)⊕((List (Bool×List (Int)))×(List (Bool))×Int×Bool×(List (Bool×(List (Int))×List (Int)))×Unit)))else none else none)=some (.inl (A,I,((i+1:Nat):Int),R.modify n λe=>(e.1,(e.2.1,e.2.2++[(i:Int)])),())):=by
   intro R hR hm;rw[bN];simp only[oBS];rw[bQ hR];simp only[oBS];have To:=hm _ (List.getElem_mem hR);rw[bT (by omega) (by simp) (by omega) (by simp;omega),oCT,Nat.beq_refl,oCT,bR (by omega) (by omega),Dk hR];rfl
  by_cases g:n=Q.length
  ·have hm2:∀x:Cls,x.2.2=[]->∀c∈Q++[x],c.2.2.length<=i:=λx hx c hc=>by
    rcases List.mem_append.1 hc with h|h
    ·exact c3 c h
    ·rw[List.mem_singleton.1 h,hx];exact Nat.zero_le _
   rw[oIP g,beq_iff_eq.2 (show((n:Nat):Int)=(Q.length:Int) by omega),oCT,bN];simp only[oBS];rw[bQ hi];simp only[oBS];unfold nrm
   cases hh:A[i].1 with
   |true=>
    rw[oCT,bT (by simp) Vo (by omega) (by rw[Nat.zero_add];exact Vo),oCT];simp only[List.append_eq,List.nil_append];rw[bT (by omega) (by simp) (by omega) (by simp;omega),oCT];simp only[oBS,List.append_eq];exact fin _ (by rw[List.length_append,List.length_singleton];omega) (hm2 _ rfl)
   |false=>
    rw[oCF];rw[bT (by omega) (by simp) (by omega) (by simp;omega),oCT];simp only[oBS,List.append_eq];exact fin _ (by rw[List.length_append,List.length_singleton];omega) (hm2 _ rfl)
  ·rw[oIN g,oBF (show((n:Nat):Int)≠(Q.length:Int) by omega),oCF];simp only[oBS]
   exact fin _ (by omega) c3) (by
  unfold eI;delta bJ;dsimp only
  rw[oDF (by omega),oCF])
 rw[show bM eI NN (A,I,0,[],())=_ from l0,oBS,hW]
theorem AG{A:List Ans}{I:List Bool}(h:¬(A.length<=5/\I.length=A.length)):fr A I=some ([],if A.length<=5 then 1 else 3,()):=by
 unfold fr;delta bJ;dsimp only;by_cases h1:A.length<=5
 ·rw[oDF (show ¬(A.length:Int)>5 by omega),oCF,oIP h1,bne_iff_ne.2 (show(I.length:Int)≠(A.length:Int)from λe=>h ⟨h1,by omega⟩),oCT]
 ·rw[oDT (show(A.length:Int)>5 by omega),oCT,oIN h1]
theorem DC{α β:Type}{f:α->List β}{n:Nat}:∀{l:List α},(∀x∈l,(f x).length<=n)->(l.flatMap f).length<=n*l.length:=by
 intro l
 induction l with
 |nil=>intro _;simp
 |cons x l ih=>
  intro h;rw[List.flatMap_cons,List.length_append,oLC,Nat.mul_add];have h1:=h x List.mem_cons_self;have h2:=ih λy hy=>h y (List.mem_cons_of_mem _ hy);omega
def Mn(Q:List Cls)(b r i:Nat):List Int:=if i=b then[]else(Q.getD i (false,([],[]))).2.2.filter λx=>x==(r:Int)
theorem Mm{Q:List Cls}(hm:∀c∈Q,c.2.2.length<=5)(b r i:Nat):(Mn Q b r i).length<=5:=by
 unfold Mn;split
 ·exact Nat.zero_le _
 ·rcases Nat.lt_or_ge i Q.length with h|h
  ·rw[cP h];exact Nat.le_trans (List.length_filter_le _ _) (hm _ (List.getElem_mem h))
  ·rw[oGD,oGN h];exact Nat.zero_le _
theorem G8{Q:List Cls}(hm:∀c∈Q,c.2.2.length<=5)(b r i:Nat):(vk Q b r i).length<=5*i:=by
 have:=DC (f:=Mn Q b r) (n:=5) (l:=List.range i) λx _=>Mm hm b r x;rw[List.length_range]at this;exact this
theorem Py{Q:List Cls}(hm:∀c∈Q,c.2.2.length<=5){b r i:Nat}(hi:i<Q.length){out:List Int}(ho:out.length<=1000000):∃k:Int,bM cN NN (Q,(b:Int),(r:Int),(i:Int),0,out,())=some (Q,(b:Int),(r:Int),(i:Int),k,false,out++Mn Q b r i,()):=by
 have hmi:=hm _ (List.getElem_mem hi);unfold Mn;rw[cP hi]
 have start:∀(k:Nat)(o:List Int),cN (Q,(b:Int),(r:Int),(i:Int),(k:Int),o,())=(bif(decide ((k:Int)<(Q[i].2.2.length:Int)))then(bif((i:Int) != (b:Int))then(((cl (k:Int)).bind λx5=>
  (bV Q[i].2.2 x5).bind λx6=>
  bif(x6==(r:Int))then(bif(b6 8 (List.length o) (List.length [(r:Int)]))then let x7:List (Int):=(List.append o [(r:Int)]);
  some (Q,(b:Int),(r:Int),(i:Int),(k:Int),x7,())else none)else
  some (Q,(b:Int),(r:Int),(i:Int),(k:Int),o,()):Option ((List (Bool×(List (Int))×List (Int)))×Int×Int×Int×Int×(List (Int))×Unit)).bind λ(x3,x4,x5,x6,x7,x8,_)=>
  let x9:Int:=(w64 (x7+1));
  some (.inl (x3,x4,x5,x6,x9,x8,())))else
  some (.inr (Q,(b:Int),(r:Int),(i:Int),(k:Int),false,o,())))else
  some (.inr (Q,(b:Int),(r:Int),(i:Int),(k:Int),false,o,())):Option ((List Cls×Int×Int×Int×Int×(List (Int))×Unit)⊕(List Cls×Int×Int×Int×Int×Bool×(List (Int))×Unit))):=λk o=>by
  unfold cN;delta bJ;dsimp only;rw[bN];simp only[oBS];rw[bQ hi];simp only[oBS]
 by_cases e:i=b
 ·rw[oIP e,List.append_nil];refine⟨0,?_⟩
  have hs:cN (Q,(b:Int),(r:Int),(i:Int),0,out,())=some (.inr (Q,(b:Int),(r:Int),(i:Int),0,false,out,())):=by
   have:=start 0 out;rw[show(((0:Nat):Nat):Int)=0 from rfl]at this;rw[this,bne_eq_false_iff_eq.2 (show(i:Int)=(b:Int) by omega),oCF];cases decide ((0:Int)<(Q[i].2.2.length:Int))<;>rfl
  obtain⟨M,hM⟩:∃m,NN=m+1:=⟨NN-1,by unfold NN;omega⟩;rw[hM];simp only[bM,hs,oBS]
 ·rw[oIN e]
  have l0:=loop_seq (f:=cN) (st:=λk=>(Q,(b:Int),(r:Int),(i:Int),(k:Int),out++(Q[i].2.2.take k).filter (λx=>x==(r:Int)),())) (n:=Q[i].2.2.length) (N:=NN) (fin:=(Q,(b:Int),(r:Int),(i:Int),(Q[i].2.2.length:Int),false,out++(Q[i].2.2.take Q[i].2.2.length).filter (λx=>x==(r:Int)),())) (eA (by omega)) (λk hk=>by
   rw[start]
   have hlen:(out++(Q[i].2.2.take k).filter (λx=>x==(r:Int))).length<=out.length+5:=by
    rw[List.length_append];have:=List.length_filter_le (λx=>x==(r:Int)) (Q[i].2.2.take k);rw[oLT]at this;omega
   rw[oDT (show(k:Int)<(Q[i].2.2.length:Int) by omega),oCT,bne_iff_ne.2 (show(i:Int)≠(b:Int) by omega),oCT,bN];simp only[oBS];rw[bQ hk];simp only[oBS]
   have hw:w64 ((k:Int)+1)=((k+1:Nat):Int):=by rw[bR (by omega) (by omega)];rfl
   rw[<- fb hk,List.filter_append,<- List.append_assoc];by_cases g:Q[i].2.2[k]=(r:Int)
   ·rw[beq_iff_eq.2 g,oCT,bT (by omega) (by simp) (by omega) (by show _+1<=_;omega),oCT];simp only[oBS];rw[hw]
    have e2:[Q[i].2.2[k]].filter (λx=>x==(r:Int))=[(r:Int)]:=by simp[g]
    rw[e2];rfl
   ·rw[oBF g,oCF];simp only[oBS];rw[hw]
    have e2:[Q[i].2.2[k]].filter (λx=>x==(r:Int))=[]:=by simp[g]
    rw[e2,List.append_nil]) (by
   rw[start,oDF (by omega),oCF])
  rw[List.take_length]at l0;refine⟨(Q[i].2.2.length:Int),?_⟩;rw[show bM cN NN (Q,(b:Int),(r:Int),(i:Int),0,out,())=bM cN NN (Q,(b:Int),(r:Int),(i:Int),((0:Nat):Int),out++(Q[i].2.2.take 0).filter (λx=>x==(r:Int)),())from by rw[List.take_zero,List.filter_nil,List.append_nil];rfl,l0]
theorem G7(Q:List Cls)(b r i:Nat):vk Q b r (i+1)=vk Q b r i++Mn Q b r i:=by
 unfold vk;rw[List.range_succ,List.flatMap_append];simp[Mn]
theorem Px{Q:List Cls}(hq:Q.length<=5)(hm:∀c∈Q,c.2.2.length<=5)(b r:Nat){out:List Int}(ho:out.length<=100000):bM dl NN (Q,(b:Int),(r:Int),0,out,())=some (Q,(b:Int),(r:Int),(Q.length:Int),false,out++vk Q b r Q.length,()):=by
 have l0:=loop_seq (f:=dl) (st:=λi=>(Q,(b:Int),(r:Int),(i:Int),out++vk Q b r i,())) (n:=Q.length) (N:=NN) (fin:=(Q,(b:Int),(r:Int),(Q.length:Int),false,out++vk Q b r Q.length,())) (eA (by omega)) (λi hi=>by
  unfold dl;delta bJ;dsimp only;have hl:=G8 hm b r i;obtain⟨k,hk⟩:=Py hm (b:=b) (r:=r) hi (out:=out++vk Q b r i) (by rw[List.length_append];omega);rw[oDT (show(i:Int)<(Q.length:Int) by omega),oCT,hk];simp only[oBS];rw[bR (by omega) (by omega),G7,List.append_assoc]
  rfl) (by
  unfold dl;delta bJ;dsimp only
  rw[oDF (by omega),oCF])
 rw[show bM dl NN (Q,(b:Int),(r:Int),0,out,())=bM dl NN (Q,(b:Int),(r:Int),((0:Nat):Int),out++vk Q b r 0,())from by rw[show vk Q b r 0=[]from rfl,List.append_nil];rfl,l0]
theorem JG{Q:List Cls}(hq:Q.length<=5)(hm:∀c∈Q,c.2.2.length<=5)(b:Nat):i6 Q (b:Int)=some ((List.range 5).flatMap (λr=>vk Q b r Q.length),()):=by
 unfold i6
 have l0:=loop_seq (f:=fm) (st:=λr=>(Q,(b:Int),(r:Int),(List.range r).flatMap (λr=>vk Q b r Q.length),())) (n:=5) (N:=NN) (fin:=(Q,(b:Int),((5:Nat):Int),false,(List.range 5).flatMap (λr=>vk Q b r Q.length),())) (eA (by omega)) (λr hr=>by
  unfold fm;dsimp only;have hl:=DC (f:=λr=>vk Q b r Q.length) (n:=25) (l:=List.range r) λx _=>Nat.le_trans (G8 hm b x Q.length) (by omega);rw[List.length_range]at hl;rw[oDT (show(r:Int)<5 by omega),oCT,Px hq hm b r (by omega)];simp only[oBS];rw[bR (by omega) (by omega),List.range_succ,List.flatMap_append]
  simp) (by
  unfold fm;dsimp only
  rw[oDF (by omega),oCF])
 rw[show bM fm NN (Q,(b:Int),0,[],())=_ from l0,oBS]
theorem Mp{n:Nat}(h1:1<=n)(h2:n<=5):i7 (n:Int)=some ((((n/2+1:Nat):Nat):Int),()):=by
 unfold i7;rw[oDF (show ¬(n:Int)<1 by omega),oCF,oDF (show ¬(n:Int)>5 by omega),oCF]
 have e:Int.tdiv (n:Int) 2=((n/2:Nat):Int):=by
  rw[Int.tdiv_eq_ediv_of_nonneg (by omega)];rfl
 rw[e,bR (x:=((n/2:Nat):Int)) (by omega) (by omega)];dsimp only;rw[bR (by omega) (by omega)];rfl
theorem MT{A:List Ans}{I:List Bool}(hA:vj A)(hn:A.length<=5)(hI:I.length=A.length){least:Int}(h1:1<=least)(h5:least<=5):
 f9 A I least=some ((vd (tM A I) A.length least).1,(vd (tM A I) A.length least).2.1,(vd (tM A I) A.length least).2.2,0,()):=by
 obtain⟨W,hW⟩:∃W,W=tM A I:=⟨_,rfl⟩;have len:=tD W A.length;have Xv:∀c∈gA W A.length,c.2.2.length<=5:=λc hc=>Nat.le_trans (tC hc) hn;have VD:=rV W A.length;unfold f9;rw[DN hA hn hI,<- hW,oBS];dsimp only;rw[bne_self_eq_false,oCF,oDF (show ¬least<1 by omega),oCF,oDF (show ¬least>5 by omega),oCF];have YF:=Hi W A.length;have Y0:=@Ml W A.length hn;unfold vd;obtain⟨Q,hQ⟩:∃Q,Q=gA W A.length:=⟨_,rfl⟩;rw[<- hQ]at len Xv⊢
 have l0:=loop_seq (f:=fq) (st:=λi=>(I,least,Q,(jC W i:Int),(i:Int),(0:Int),(),(),Q,())) (n:=A.length) (N:=NN) (fin:=(I,least,Q,(jC W A.length:Int),(A.length:Int),false,(0:Int),(),(),Q,())) (eA (by omega)) (λi hi=>by
  have Vx:W i=if I[i]'(by omega)=true then some (nrm A[i])else none:=by
   rw[hW];unfold tM;rw[cP (show i<I.length by omega),cP hi]
  have hci:=rV W i;unfold fq;delta bJ;dsimp only;rw[oDT (show(i:Int)<(I.length:Int) by omega),oCT,bN];simp only[oBS];rw[bQ (show i<I.length by omega)];simp only[oBS]
  have hw:w64 ((i:Int)+1)=((i+1:Nat):Int):=by rw[bR (by omega) (by omega)];rfl
  rw[oa,Vx]
  cases hb:I[i]'(by omega)with
  |true=>
   rw[oCT];simp only[oBS];rw[hw,bR (x:=(jC W i:Int)+1) (by omega) (by omega)];rfl
  |false=>
   rw[oCF];simp only[oBS];rw[hw]
   rfl) (by
  unfold fq;delta bJ;dsimp only
  rw[oDF (by omega),oCF])
 rw[show bM fq NN (I,least,Q,0,0,0,(),(),Q,())=_ from l0,oBS];dsimp only;by_cases hc:(jC W A.length:Int)<least
 ·rw[oDT hc,oCT,oIP hc]
 rw[oDF hc,oCF,oIN hc]
 have hin:∀i (hi:i<Q.length),dm (Q,(jC W A.length:Int),(i:Int),0,(),(),Q,())=if Q[i].1=true/\jC W A.length<2*Q[i].2.2.length then some (.inr (.inl (0,if Q.length=1 then 1 else 2,Q[i].2.1,(List.range 5).flatMap (λr=>vk Q i r Q.length),())))else some (.inl (Q,(jC W A.length:Int),((i+1:Nat):Int),0,(),(),Q,())):=λi hi=>by
  have hw:w64 ((i:Int)+1)=((i+1:Nat):Int):=by rw[bR (by omega) (by omega)];rfl
  unfold dm;delta bJ;dsimp only;rw[oDT (show(i:Int)<(Q.length:Int) by omega),oCT,bN];simp only[oBS];rw[bQ hi];simp only[oBS]
  cases hh:Q[i].1 with
  |false=>
   rw[Bool.not_false,oCT,oIN (λh=>by cases h.1)];dsimp only;rw[hw]
  |true=>
   rw[oNT,oCF,Mp (by omega) (by omega)];simp only[oBS];by_cases g:jC W A.length<2*Q[i].2.2.length
   ·rw[oIP ⟨by first|rfl|trivial,g⟩,oDF (show ¬(Q[i].2.2.length:Int)<((jC W A.length/2+1:Nat):Int) by omega),oCF,JG (Nat.le_trans len hn) Xv i];simp only[oBS];by_cases g1:Q.length=1
    ·rw[oIP g1,beq_iff_eq.2 (show(Q.length:Int)=1 by omega),oCT];rfl
    ·rw[oIN g1,oBF (show(Q.length:Int)≠1 by omega),oCF];rfl
   ·rw[oIN (λh=>g h.2),oDT (show(Q[i].2.2.length:Int)<((jC W A.length/2+1:Nat):Int) by omega),oCT];dsimp only;rw[hw]
 rcases fD (f:=dm) (st:=λi=>(Q,(jC W A.length:Int),(i:Int),(0:Int),(),(),Q,())) (p:=λi=>∀hi:i<Q.length,¬(Q[i].1=true/\jC W A.length<2*Q[i].2.2.length)) (n:=Q.length) (N:=NN)
  (bad:=λi=>.inl (0,if Q.length=1 then 1 else 2,(Q.getD i (false,([],[]))).2.1,(List.range 5).flatMap (λr=>vk Q i r Q.length),())) (fin:=.inr (Q,(jC W A.length:Int),(Q.length:Int),false,0,(),(),Q,())) (eA (by omega)) (λi hi=>by
  by_cases g:Q[i].1=true/\jC W A.length<2*Q[i].2.2.length
  ·exact .inr ⟨λh=>h hi g,by rw[hin i hi,oIP g,cP hi]⟩
  ·exact .inl ⟨λ_=>g,by rw[hin i hi,oIN g]⟩) (by
  unfold dm;delta bJ;dsimp only
  rw[oDF (by omega),oCF])with⟨hp,e⟩|⟨k,hk,hp,Ui,e⟩
 ·rw[show bM dm NN (Q,(jC W A.length:Int),0,0,(),(),Q,())=_ from e]
  rcases YF with⟨c0,M⟩|⟨_,Zq⟩
  ·exfalso;obtain⟨i,hi,e2⟩:=List.mem_iff_getElem.1 (show c0∈Q by rw[hQ];exact M.mem);exact hp i hi hi ⟨by rw[e2];exact M.here,by rw[e2];exact M.most⟩
  ·rw[<- hQ]at Zq;rw[oIN (show ¬jC W A.length<2*(va Q).2.2.length by omega)]
 ·rw[show bM dm NN (Q,(jC W A.length:Int),0,0,(),(),Q,())=_ from e];have YJ:Q[k].1=true/\jC W A.length<2*Q[k].2.2.length:=Classical.byContradiction λh=>Ui λ_=>h
  rcases YF with⟨c0,M⟩|⟨h0,Zq⟩
  rotate_left
  ·exfalso;exact absurd YJ.2 (Nat.not_lt.2 (h0 Q[k] (by rw[<- hQ];exact List.getElem_mem hk) YJ.1))
  have ek:Q[k]=c0:=by
   rcases M.oth Q[k] (by rw[<- hQ];exact List.getElem_mem hk)with g|g
   ·exact g
   ·exact absurd YJ.2 (Nat.not_lt.2 g)
  have hb:=M.best;rw[<- hQ]at hb;rw[hb,oIP M.most]
  have eo:(List.range 5).flatMap (λr=>vk Q k r Q.length)=j4 W (gj c0) A.length:=by
   subst hQ;rw[Y0 hk,ek]
  rw[cP hk,ek,eo];have h1:=M.one';rw[<- hQ]at h1;dsimp only;by_cases g:j4 W (gj c0) A.length=[]
  ·rw[oIP g,oIP (h1.1 g)]
  ·rw[oIN g,oIN (λh=>g (h1.2 h))]
theorem Cc{A:List Ans}{I:List Bool}(hA:vj A){least:Int}(h:¬(A.length<=5/\I.length=A.length/\1<=least/\least<=5)):
 f9 A I least=some (0,[],[],if A.length<=5 then 1 else 3,()):=by
 unfold f9;by_cases g:A.length<=5/\I.length=A.length
 ·rw[DN hA g.1 g.2,oBS];dsimp only;rw[bne_self_eq_false,oCF,oIP g.1];by_cases g1:least<1
  ·rw[oDT g1,oCT]
  ·rw[oDF g1,oCF,oDT (show least>5 by omega),oCT]
 ·rw[AG g,oBS];dsimp only;by_cases g1:A.length<=5
  ·rw[oIP g1];rfl
  ·rw[oIN g1];rfl
noncomputable def arS (a b:Int)(s:ST):Ans:=(decide (Hs s a b),pgB (f8 a b s))
theorem Oi(a b:Int)(s:ST)(h:StQ s.1 s.2):PgQ (f8 a b s):=by
 have hz:R64 0:=by unfold R64;omega
 unfold f8;split
 ·exact OY h _
 ·exact⟨λc hc=>(by cases hc),hz,λc hc=>(by cases hc),Nat.zero_le _,Nat.zero_le _⟩
theorem OJ(a b:Int)(s:ST):nrm (arS a b s)=vc a b s:=by
 by_cases h:Hs s a b
 ·have e1:vc a b s=(true,pgB (pg s.1 s.2 (a,b))):=oIP h;have e2:f8 a b s=pg s.1 s.2 (a,b):=oIP h;rw[e1];unfold nrm arS;rw[e2,oDT h];rfl
 ·have e1:vc a b s=(false,[]):=oIN h;rw[e1];unfold nrm arS;rw[oDF h];rfl
theorem OK{l:List ST}(hl:∀s∈l,StQ s.1 s.2)(a b:Int):vj (l.map (arS a b)):=
 ⟨λx hx=>by
  obtain⟨s,hs,rfl⟩:=List.mem_map.1 hx
  exact Bx _,λx hx=>by
  obtain⟨s,hs,rfl⟩:=List.mem_map.1 hx
  exact KT (Oi a b s (hl s hs))⟩
theorem NC(l:List ST)(I:List Bool)(a b:Int):∀i,i<l.length->tM (l.map (arS a b)) I i=jP l I a b i:=λi hi=>by
 unfold tM jP;by_cases h:I.getD i false=true
 ·rw[oIP h,oIP h]
  have e:(l.map (arS a b)).getD i (false,[])=arS a b (l.getD i ([],[])):=by
   rw[cP (by rw[List.length_map];exact hi),cP hi,List.getElem_map]
  rw[e,OJ]
 ·rw[oIN h,oIN h]
theorem II{l:List ST}(hl:∀s∈l,StQ s.1 s.2)(hn:l.length<=1000)(I:List Bool)(a b least:Int):
 iv l I a b least=some ((agK l I a b least).1.1,(agK l I a b least).1.2.1,(agK l I a b least).1.2.2.1,(agK l I a b least).1.2.2.2.1,(agK l I a b least).1.2.2.2.2.1,(agK l I a b least).1.2.2.2.2.2.1,(agK l I a b least).1.2.2.2.2.2.2.1,(agK l I a b least).1.2.2.2.2.2.2.2.1,(agK l I a b least).1.2.2.2.2.2.2.2.2.1,(agK l I a b least).1.2.2.2.2.2.2.2.2.2.1,(agK l I a b least).1.2.2.2.2.2.2.2.2.2.2,(agK l I a b least).2.1,(agK l I a b least).2.2,()):=by
 unfold iv
 have l0:=loop_seq (f:=fV) (st:=λi=>(l,I,least,(i:Int),a,b,(0:Int),(0:Int),(),(0:Int),(0:Int),(0:Int),(0:Int),(0:Int),(0:Int),(0:Int),(),(l.take i).map (arS a b),(l.take i).map (f8 a b),())) (n:=l.length) (N:=NN)
  (fin:=(l,I,least,(l.length:Int),false,a,b,(0:Int),(0:Int),(),(0:Int),(0:Int),(0:Int),(0:Int),(0:Int),(0:Int),(0:Int),(),(l.take l.length).map (arS a b),(l.take l.length).map (f8 a b),())) (eA (by omega)) (λi hi=>by
  have hs:=hl _ (List.getElem_mem hi);have hq:=Oi a b l[i] hs;unfold fV;delta bJ;dsimp only;rw[oDT (show(i:Int)<(l.length:Int) by omega),oCT,bN];simp only[oBS];rw[bQ hi];simp only[oBS]
  have eg:dJ l[i].1 l[i].2 a b=some ((f8 a b l[i]).1,(f8 a b l[i]).2.1,(f8 a b l[i]).2.2.1,(f8 a b l[i]).2.2.2.1,(f8 a b l[i]).2.2.2.2.1,(f8 a b l[i]).2.2.2.2.2.1,(f8 a b l[i]).2.2.2.2.2.2.1,(f8 a b l[i]).2.2.2.2.2.2.2.1,(f8 a b l[i]).2.2.2.2.2.2.2.2.1,(f8 a b l[i]).2.2.2.2.2.2.2.2.2.1,(f8 a b l[i]).2.2.2.2.2.2.2.2.2.2,if Hs l[i] a b then 0 else if shp l[i].1 l[i].2 then 30 else 1,()):=by
   rw[H4 hs.k];unfold f8;by_cases g:shp l[i].1 l[i].2/\Th l[i].1 l[i].2 a b
   ·rw[oIP g,oIP (show Hs l[i] a b from g),oIP (show Hs l[i] a b from g)]
   ·rw[oIN g,oIN (show ¬Hs l[i] a b from g),oIN (show ¬Hs l[i] a b from g)]
  have ee:(((if Hs l[i] a b then(0:Int)else if shp l[i].1 l[i].2 then 30 else 1))==0)=decide (Hs l[i] a b):=by
   by_cases g:Hs l[i] a b
   ·rw[oIP g,oDT g];rfl
   ·rw[oIN g,oDF g];split<;>rfl
  rw[eg];simp only[oBS];rw[bT (by rw[List.length_map,oLT];omega) (by simp) (by omega) (by rw[List.length_map,oLT];show _+1<=_;omega),oCT,MV hq];simp only[oBS];rw[bT (by rw[List.length_map,oLT];omega) (by simp) (by omega) (by rw[List.length_map,oLT];show _+1<=_;omega),oCT,bR (by omega) (by omega),ee,<- fb hi,List.map_append,List.map_append]
  rfl) (by
  unfold fV;delta bJ;dsimp only
  rw[oDF (by omega),oCF])
 rw[List.take_length]at l0;rw[show bM fV NN (l,I,least,0,a,b,0,0,(),0,0,0,0,0,0,0,(),[],[],())=_ from l0,oBS];dsimp only;have hA:=OK hl a b;have V6:(l.map (arS a b)).length=l.length:=List.length_map _;unfold agK;by_cases hgood:l.length<=5/\I.length=l.length/\1<=least/\least<=5
 rotate_left
 ·rw[Cc hA (by rw[V6];exact hgood),oBS,oIN hgood,V6];dsimp only;by_cases g:l.length<=5
  ·rw[oIP g];rfl
  ·rw[oIN g];rfl
 rw[oIP hgood,MT hA (by omega) (by omega) hgood.2.2.1 hgood.2.2.2,oBS,V6,FB (NC l I a b) least];dsimp only;rw[bne_self_eq_false,oCF];have Yg:=FA (jP l I a b) l.length least;have YF:=Fz (W:=jP l I a b) (N:=l.length) (least:=least);generalize vd (jP l I a b) l.length least=V at Yg YF⊢;obtain⟨K,bs,S⟩:=V;dsimp only at Yg YF⊢;by_cases hk:K=1\/K=2
 rotate_left
 ·rw[oIN hk];rcases Yg with h|h|h|h
  ·exact absurd (.inl h) hk
  ·exact absurd (.inr h) hk
  ·subst h;rfl
  ·subst h;rfl
 rw[oIP hk];obtain⟨eS,k0,UI,WH⟩:=YF hk;rw[oBF (show K≠3 by omega),oCF,oBF (show K≠4 by omega),oCF]
 have Rb:Byt bs:=by
  unfold jP at WH;split at WH
  ·injection WH with WH
   have h1:=(ID (l:=l) a b _ (hl _ (List.getElem_mem UI))).1;rw[<- cP (d:=([],[])) UI,WH]at h1;exact h1
  ·cases WH
 have hin:∀i,i<l.length->eF (l,I,l.map (arS a b),(i:Int),0,0,(),0,0,0,0,0,0,0,(),l.map (arS a b),l.map (f8 a b),K,bs,S,())=if jP l I a b i≠some (true,bs)then some (.inl (l,I,l.map (arS a b),((i+1:Nat):Int),0,0,(),0,0,0,0,0,0,0,(),l.map (arS a b),l.map (f8 a b),K,bs,S,()))else
  some (.inr (.inl (S,0,(f8 a b (l.getD i ([],[]))).1,(f8 a b (l.getD i ([],[]))).2.1,(f8 a b (l.getD i ([],[]))).2.2.1,(f8 a b (l.getD i ([],[]))).2.2.2.1,(f8 a b (l.getD i ([],[]))).2.2.2.2.1,(f8 a b (l.getD i ([],[]))).2.2.2.2.2.1,(f8 a b (l.getD i ([],[]))).2.2.2.2.2.2.1,(f8 a b (l.getD i ([],[]))).2.2.2.2.2.2.2.1,(f8 a b (l.getD i ([],[]))).2.2.2.2.2.2.2.2.1,(f8 a b (l.getD i ([],[]))).2.2.2.2.2.2.2.2.2.1,(f8 a b (l.getD i ([],[]))).2.2.2.2.2.2.2.2.2.2,()))):=λi hi=>by
  have Z3:i<I.length:=by omega
  have ei:I.getD i false=I[i]:=cP Z3
  have hw:w64 ((i:Int)+1)=((i+1:Nat):Int):=by rw[bR (by omega) (by omega)];rfl
  have el:l.getD i ([],[])=l[i]:=cP hi;unfold eF;delta bJ;dsimp only;rw[oDT (show(i:Int)<(l.length:Int) by omega),oCT,bN];simp only[oBS];rw[bQ Z3];simp only[oBS]
  cases hb:I[i]with
  |false=>
   rw[hb]at ei
   have Zq:jP l I a b i≠some (true,bs):=by
    unfold jP;rw[oIN (by rw[ei];exact λh=>by cases h)]
    exact λh=>by cases h
   rw[oCF,oIP Zq];simp only[oBS,oCF];rw[hw]
  |true=>
   rw[hb]at ei
   have WB:jP l I a b i=some (vc a b l[i]):=by
    unfold jP;rw[oIP ei,el]
   rw[oCT,bQ (show i<(l.map (arS a b)).length by rw[V6];exact hi)];simp only[oBS,List.getElem_map];by_cases hA1:Hs l[i] a b
   rotate_left
   ·have Zq:jP l I a b i≠some (true,bs):=by
     rw[WB];unfold vc;rw[oIN hA1]
     exact λh=>by cases h
    rw[show(arS a b l[i]).1=false from oDF hA1,oCF,oIP Zq];simp only[oBS,oCF];rw[hw]
   ·have QA:jP l I a b i=some (true,(arS a b l[i]).2):=by
     rw[WB];unfold vc arS f8;rw[oIP hA1,oIP hA1]
    rw[show(arS a b l[i]).1=true from oDT hA1,oCT];have Ym:Byt (arS a b l[i]).2:=Bx _;by_cases g:(arS a b l[i]).2=bs
    ·rw[oIN (show ¬jP l I a b i≠some (true,bs)from λh=>h (by rw[QA,g]))];simp only[(oI Ym Rb).2 g,oBS,oCT];rw[bN,oBS,bQ (show i<(l.map (f8 a b)).length by rw[List.length_map];exact hi),List.getElem_map,el];rfl
    ·rw[oIP (show jP l I a b i≠some (true,bs)from λh=>g (by
      rw[QA]at h
      exact congrArg Prod.snd (Option.some.inj h)))]
     simp only[Bool.eq_false_iff.2 λh=>g ((oI Ym Rb).1 h),oBS,oCF];rw[hw]
 rcases fD (f:=eF) (st:=λi=>(l,I,l.map (arS a b),(i:Int),(0:Int),(0:Int),(),(0:Int),(0:Int),(0:Int),(0:Int),(0:Int),(0:Int),(0:Int),(),l.map (arS a b),l.map (f8 a b),K,bs,S,())) (p:=λi=>jP l I a b i≠some (true,bs)) (n:=l.length) (N:=NN)
  (bad:=λi=>.inl (S,0,(f8 a b (l.getD i ([],[]))).1,(f8 a b (l.getD i ([],[]))).2.1,(f8 a b (l.getD i ([],[]))).2.2.1,(f8 a b (l.getD i ([],[]))).2.2.2.1,(f8 a b (l.getD i ([],[]))).2.2.2.2.1,(f8 a b (l.getD i ([],[]))).2.2.2.2.2.1,(f8 a b (l.getD i ([],[]))).2.2.2.2.2.2.1,(f8 a b (l.getD i ([],[]))).2.2.2.2.2.2.2.1,(f8 a b (l.getD i ([],[]))).2.2.2.2.2.2.2.2.1,(f8 a b (l.getD i ([],[]))).2.2.2.2.2.2.2.2.2.1,(f8 a b (l.getD i ([],[]))).2.2.2.2.2.2.2.2.2.2,())) (fin:=.inr (l,I,l.map (arS a b),(l.length:Int),false,0,0,(),0,0,0,0,0,0,0,(),l.map (arS a b),l.map (f8 a b),K,bs,S,())) (eA (by omega)) (λi hi=>by
  by_cases g:jP l I a b i≠some (true,bs)
  ·exact .inl ⟨g,by rw[hin i hi,oIP g]⟩
  ·exact .inr ⟨g,by rw[hin i hi,oIN g]⟩) (by
  unfold eF;delta bJ;dsimp only
  rw[oDF (by omega),oCF])with⟨hp,e⟩|⟨k,hk,hp,Ui,e⟩
 ·exact absurd WH (hp k0 UI)
 ·have YJ:jP l I a b k=some (true,bs):=Classical.byContradiction Ui;rw[qF hk (oDT YJ) λj hj=>oDF (hp j hj)];rw[show bM eF NN (l,I,l.map (arS a b),0,0,0,(),0,0,0,0,0,0,0,(),l.map (arS a b),l.map (f8 a b),K,bs,S,())=_ from e]
theorem Ii{S:List Int}(h:Sm S):cx S=some (!decide (∀z∈S,okZ z=true),()):=by
 unfold cx eC;delta bJ;dsimp only;have h0:=h
 have step:∀i,i<S.length->((∀hi:i<S.length,okZ S[i]=true)/\bP (S,(S.length:Int),(i:Int),())=some (.inl (S,(S.length:Int),((i+1:Nat):Int),())))\/
  (¬(∀hi:i<S.length,okZ S[i]=true)/\bP (S,(S.length:Int),(i:Int),())=some (.inr (.inl ((i:Int),())))):=by
  intro i hi;unfold bP;dsimp only;rw[oDT (show(i:Int)<S.length by omega),oCT,bN]
  have e:gb S[i]=some (!okZ S[i],()):=by
   unfold gb;rw[Bf];rfl
  simp only[oBS,bQ hi,e];rw[bR (by omega) (by omega)];by_cases q:okZ S[i]=true
  ·exact .inl ⟨λ_=>q,by rw[q];rfl⟩
  ·exact .inr ⟨λg=>q (g hi),by rw[Bool.not_eq_true]at q;rw[q];rfl⟩
 have fin:bP (S,(S.length:Int),(S.length:Int),())=some (.inr (.inr (S,(S.length:Int),(S.length:Int),false,()))):=by
  unfold bP;dsimp only;rw[oDF (show ¬(S.length:Int)<S.length by omega)];rfl
 rcases fD (f:=bP) (λi=>(S,(S.length:Int),(i:Int),())) _ (eA h) step fin with⟨h1,h2⟩|⟨k,hk,_,h1,h2⟩
 ·rw[show bM bP NN (S,(S.length:Int),0,())=_ from h2];rw[oDT (tG (p:=okZ) λi hi=>h1 i hi hi)];rfl
 ·rw[show bM bP NN (S,(S.length:Int),0,())=_ from h2];rw[oDF (λg=>h1 λhi=>g _ (List.getElem_mem hi))];simp only[oBS];rw[oDT (show(k:Int)>=0 by omega)];rfl
theorem DO{S:List Int}{n:Nat}(h:Sm S):dR S n=some (if S.length<=4/\n<=4 then(if ∀z∈S,okZ z=true then 0 else 1)else 3,()):=by
 unfold dR;delta bJ;dsimp only;by_cases h1:S.length<=4
 rotate_left
 ·rw[oDT (show(S.length:Int)>4 by omega),oCT,oIN (λg=>h1 g.1)]
 rw[oDF (show ¬(S.length:Int)>4 by omega),oCF];by_cases h2:n<=4
 rotate_left
 ·rw[oDT (show(n:Int)>4 by omega),oCT,oIN (λg=>h2 g.2)]
 rw[oDF (show ¬(n:Int)>4 by omega),oCF,oIP ⟨h1,h2⟩];have h0:=h
 have step:∀i,i<S.length->((∀hi:i<S.length,okZ S[i]=true)/\b4 (S,(n:Int),(i:Int),())=some (.inl (S,(n:Int),((i+1:Nat):Int),())))\/
  (¬(∀hi:i<S.length,okZ S[i]=true)/\b4 (S,(n:Int),(i:Int),())=some (.inr (.inl (1,())))):=by
  intro i hi;unfold b4;delta bJ;dsimp only;rw[oDT (show(i:Int)<S.length by omega),oCT,bN];simp only[oBS,bQ hi];rw[bR (by omega) (by omega)];by_cases q1:S[i]<1
  ·rw[oDT q1];exact .inr ⟨λg=>by have:=of_decide_eq_true (g hi);omega,rfl⟩
  ·rw[oDF q1,oCF];by_cases q2:S[i]>32
   ·rw[oDT q2];exact .inr ⟨λg=>by have:=of_decide_eq_true (g hi);omega,rfl⟩
   ·rw[oDF q2,oCF];exact .inl ⟨λ_=>oDT (by omega),rfl⟩
 have fin:b4 (S,(n:Int),(S.length:Int),())=some (.inr (.inr (S,(n:Int),(S.length:Int),false,()))):=by
  unfold b4;delta bJ;dsimp only;rw[oDF (show ¬(S.length:Int)<S.length by omega)];rfl
 rcases fD (f:=b4) (λi=>(S,(n:Int),(i:Int),())) _ (eA h) step fin with⟨g1,g2⟩|⟨k,hk,_,g1,g2⟩
 ·rw[show bM b4 NN (S,(n:Int),0,())=_ from g2];dsimp only;rw[oDF (show ¬(n:Int)<0 by omega),oIP (tG λi hi=>g1 i hi hi)];rfl
 ·rw[show bM b4 NN (S,(n:Int),0,())=_ from g2,oIN (λg=>g1 λhi=>g _ (List.getElem_mem hi))]
theorem JS{S:List Int}{n:Nat}(h:Sm S)(hb:¬(Szs S/\n<=4)):∃e:Int,e≠0/\dA S n=some ([],e,())/\eJ S n=some ([],e,()):=by
 refine⟨if S.length<=4/\n<=4 then 1 else 3,by split<;>decide,?_,?_⟩
 ·unfold dA;delta bJ;dsimp only;by_cases h1:S.length<=4
  rotate_left
  ·rw[oDT (show(S.length:Int)>4 by omega),oCT,oIN (λg=>h1 g.1)]
  rw[oDF (show ¬(S.length:Int)>4 by omega),oCF];by_cases h2:n<=4
  rotate_left
  ·rw[oDT (show(n:Int)>4 by omega),oCT,oIN (λg=>h2 g.2)]
  rw[oDF (show ¬(n:Int)>4 by omega),oCF,oDF (show ¬(n:Int)<0 by omega),oCF,Ii h,oDF (λg=>hb ⟨⟨h1,g⟩,h2⟩),oBS,oIP ⟨h1,h2⟩];rfl
 ·unfold eJ;rw[DO h,oBS];dsimp only;by_cases g:S.length<=4/\n<=4
  ·rw[oIP g,oIP g,oIN (λg2=>hb ⟨⟨g.1,g2⟩,g.2⟩)];rfl
  ·rw[oIN g,oIN g];rfl
abbrev zC(S:List Int):CC:=S.map λz=>List.replicate z.toNat ((0,(0,(0,0))):DCn)
abbrev zT(n:Nat):TT':=List.replicate n (0,(0,(0,(0,(0,(0,(0,[])))))))
theorem ml{S:List Int}{i:Nat}(h:i<S.length):((S.take i).map λz=>List.replicate z.toNat ((0,(0,(0,0))):DCn))++[List.replicate S[i].toNat (0,(0,(0,0)))]=(S.take (i+1)).map λz=>List.replicate z.toNat ((0,(0,(0,0))):DCn):=by
 rw[<- fb h,List.map_append];rfl
theorem Fs{S:List Int}{n:Nat}(h:Szs S)(hn:n<=4):StK (zC S) (zT n):=by
 have h4:=h.1;refine⟨?_,λc hc=>?_,?_,λt ht=>?_⟩
 ·show(S.map _).length<=_;rw[List.length_map];omega
 ·obtain⟨z,hz,rfl⟩:=List.mem_map.1 hc;have:=of_decide_eq_true (h.2 z hz);show(List.replicate _ _).length<=_;rw[List.length_replicate];omega
 ·show(List.replicate _ _).length<=_;rw[List.length_replicate];omega
 ·rw[(List.mem_replicate.1 ht).2];simp[Sm]
theorem Md{I:List PID}{A:List PG}(hA:A.length=I.length)(hl:Sm A)(hid:∀i (h:i<I.length),((A[i]'(by omega)).1,(A[i]'(by omega)).2.1)=I[i])(hp:∀p∈A,PgK p):∀(k i:Nat),i+k=A.length->∀(C:CC)(T:TT'),StK C T->∀M,k<M ->
 (bM de M (A,(A.length:Int),(i:Int),(),(),I,C,T,())=some (.inl (5,(),(),()))/\bM dc M (A,(i:Int),(),(),I,C,T,())=some (.inl (5,(),(),())))\/
 ∃(C':CC)(T':TT'),StK C' T'/\bM de M (A,(A.length:Int),(i:Int),(),(),I,C,T,())=some (.inr (A,(A.length:Int),(A.length:Int),false,(),(),I,C',T',()))/\
  bM dc M (A,(i:Int),(),(),I,C,T,())=some (.inr (A,(A.length:Int),false,(),(),I,C',T',())):=by
 have WY:A.length<=1099511627776:=hl;intro k
 induction k with
 |zero=>
  intro i hi C T h M hM;obtain⟨M,rfl⟩:∃m,M=m+1:=⟨M-1,by omega⟩
  obtain rfl:i=A.length:=by omega
  have e1:de (A,(A.length:Int),(A.length:Int),(),(),I,C,T,())=some (.inr (.inr (A,(A.length:Int),(A.length:Int),false,(),(),I,C,T,()))):=by
   unfold de;dsimp only;rw[oDF (by omega),oCF]
  have e2:dc (A,(A.length:Int),(),(),I,C,T,())=some (.inr (.inr (A,(A.length:Int),false,(),(),I,C,T,()))):=by
   unfold dc;delta bJ;dsimp only;rw[oDF (by omega),oCF]
  exact .inr ⟨C,T,h,by simp only[bM,e1,oBS],by simp only[bM,e2,oBS]⟩
 |succ k ih=>
  intro i hi C T h M hM;obtain⟨M,rfl⟩:∃m,M=m+1:=⟨M-1,by omega⟩
  have Yv:i<A.length:=by omega
  have hii:i<I.length:=by omega
  have Tz:=hp _ (List.getElem_mem Yv);have hd:=hid i hii;have YD:A[i].1=I[i].1:=congrArg Prod.fst hd;have hd2:A[i].2.1=I[i].2:=congrArg Prod.snd hd;have e1:=KP h (x:=A[i].2.2.1) Tz.1 (v:=A[i].2.2.2) Tz.2 A[i].1 A[i].2.1;have e2:=KO h (x:=A[i].2.2.1) Tz.1 (v:=A[i].2.2.2) Tz.2 A[i].1 A[i].2.1;have e3:=Gr h (x:=A[i].2.2.1) (v:=A[i].2.2.2) Tz.2 (a:=A[i].1) (b:=A[i].2.1);generalize C8 C T A[i].1 A[i].2.1 A[i].2.2.1 A[i].2.2.2=r at e1 e2 e3
  have PW:(!((A[i].1==I[i].1)&&((A[i].2.1==I[i].2)&&true)))=false:=by rw[YD,hd2,beq_self_eq_true,beq_self_eq_true];rfl
  have hw:w64 ((i:Int)+1)=((i+1:Nat):Int):=by rw[bR (by omega) (by omega)];rfl
  have s1:de (A,(A.length:Int),(i:Int),(),(),I,C,T,())=bif(r.2.2 != 0)then(some (.inr (.inl (5,(),(),()))))else some (.inl (A,(A.length:Int),((i+1:Nat):Int),(),(),I,r.1,r.2.1,())):=by
   unfold de;dsimp only;rw[oDT (show(i:Int)<(A.length:Int) by omega),oCT,bN];simp only[oBS];rw[bQ Yv];simp only[oBS];rw[bQ hii];simp only[oBS];rw[PW,oCF,e1,oBS];dsimp only;rw[hw]
  have s2:dc (A,(i:Int),(),(),I,C,T,())=bif(r.2.2 != 0)then(some (.inr (.inl (5,(),(),()))))else some (.inl (A,((i+1:Nat):Int),(),(),I,r.1,r.2.1,())):=by
   unfold dc;delta bJ;dsimp only;rw[oDT (show(i:Int)<(A.length:Int) by omega),oCT,bN];simp only[oBS];rw[bQ Yv];simp only[oBS];rw[e2,oBS];dsimp only;rw[bQ hii];simp only[oBS];rw[PW,oCF,hw]
  by_cases he:r.2.2=0
  ·rw[bne_eq_false_iff_eq.2 he,oCF]at s1 s2
   rcases ih (i+1) (by omega) r.1 r.2.1 (e3 he) M (by omega)with⟨g1,g2⟩|⟨C',T',g0,g1,g2⟩
   ·exact .inl ⟨by simp only[bM,s1,oBS];exact g1,by simp only[bM,s2,oBS];exact g2⟩
   ·exact .inr ⟨C',T',g0,by simp only[bM,s1,oBS];exact g1,by simp only[bM,s2,oBS];exact g2⟩
  ·rw[bne_iff_ne.2 he,oCT]at s1 s2;exact .inl ⟨by simp only[bM,s1,oBS],by simp only[bM,s2,oBS]⟩
theorem KM{S:List Int}(h:Szs S){i:Nat}(hi:i<S.length):cl S[i]=some S[i].toNat/\gk S[i].toNat S[i].toNat 4=true:=by
 have hz:=ze h hi;refine⟨?_,by unfold gk;simp;omega⟩;obtain⟨m,hm⟩:∃m:Nat,S[i]=m:=⟨S[i].toNat,by omega⟩;rw[hm,bN,oTN]
theorem GU(S:List Int)(n:Nat):((pgs S n).filter λp=>decide (p.1=-1)).length=n:=by
 unfold pgs;rw[List.filter_append,List.length_append]
 have e1:((List.range S.length).flatMap (pN S)).filter (λp=>decide (p.1=-1))=[]:=List.filter_eq_nil_iff.2 λp hp=>by
  obtain⟨i,_,h⟩:=List.mem_flatMap.1 hp;obtain⟨j,_,rfl⟩:=Hg.1 h;simp
 have e2:((List.range n).map λ(t:Nat)=>((-1,(t:Int)):PID)).filter (λp=>decide (p.1=-1))=(List.range n).map λ(t:Nat)=>((-1,(t:Int)):PID):=List.filter_eq_self.2 λp hp=>by
  obtain⟨t,_,rfl⟩:=List.mem_map.1 hp;rfl
 rw[e1,e2];simp
theorem Fd{S:List Int}{n:Nat}(h:Szs S)(hn:n<=4){A:List PG}(hA:A.length=(pgs S n).length)(hid:∀i (h:i<(pgs S n).length),((A[i]'(by omega)).1,(A[i]'(by omega)).2.1)=(pgs S n)[i])(hp:∀p∈A,PgK p):
 ∃(C:CC)(T:TT')(e:Int),iB S A=some (C,T,e,())/\iy S A=some (C,T,e,())/\StK C T:=by
 have h4:=h.1;have hlen:=nJ h hn
 have RR:(pgs S n).length=(pgs S 0).length+n:=by
  unfold pgs;simp
 have hS:Sm S:=by unfold Sm;omega
 obtain⟨I,hI⟩:∃I,I=pgs S n:=⟨_,rfl⟩
 have q1:∀r,bM de NN (A,(A.length:Int),0,(),(),I,zC S,zT n,())=some r->iB S A=some ((match r with|.inl (x,_,_,_)=>([],[],x,())|.inr (_,_,_,_,_,_,_,c,t,_)=>(c,t,0,())):CC×TT'×Int×Unit):=λr hr=>by
  unfold iB;rw[show dA S 0=some (pgs S 0,0,())from zH (n:=0) h (by omega),oBS];delta bJ;dsimp only;rw[bne_self_eq_false,oCF,bR (x:=(A.length:Int)-_) (by omega) (by omega),show(A.length:Int)-((pgs S 0).length:Int)=(n:Int) by omega,oDF (show ¬(n:Int)<0 by omega),oCF,oDF (show ¬(n:Int)>4 by omega),oCF,bN];simp only[oBS];rw[show gk n n 8=true by unfold gk;simp;omega,oCT]
  have l0:=loop_seq (f:=f7) (st:=λi=>(S,A,(n:Int),S,(S.length:Int),(i:Int),(),(),(S.take i).map (λz=>List.replicate z.toNat ((0,(0,(0,0))):DCn)),zT n,())) (n:=S.length) (N:=NN) (fin:=(S,A,(n:Int),S,(S.length:Int),(S.length:Int),false,(),(),(S.take S.length).map (λz=>List.replicate z.toNat ((0,(0,(0,0))):DCn)),zT n,())) (eA (by omega)) (λi hi=>by
   obtain⟨z1,z2⟩:=KM h hi;unfold f7;dsimp only;rw[oDT (show(i:Int)<(S.length:Int) by omega),oCT,bN];simp only[oBS];rw[bQ hi];simp only[oBS];rw[z1];simp only[oBS];rw[z2,oCT];rw[bT (by rw[List.length_map,oLT];omega) (by simp) (by omega) (by rw[List.length_map,oLT];simp;omega),oCT,bR (by omega) (by omega)];rw[<- ml hi]
   rfl) (by
   unfold f7;dsimp only
   rw[oDF (by omega),oCF])
  rw[List.take_length]at l0;rw[show bM f7 NN (S,A,(n:Int),S,(S.length:Int),0,(),(),[],zT n,())=_ from l0,oBS];dsimp only;rw[zH h hn,oBS];dsimp only;rw[<- hI,hr]
  rcases r with⟨x,_,_,_⟩|⟨_,_,_,_,_,_,_,c,t,_⟩<;>rfl
 have q2:∀r,bM dc NN (A,0,(),(),I,zC S,zT n,())=some r->iy S A=some ((match r with|.inl (x,_,_,_)=>([],[],x,())|.inr (_,_,_,_,_,_,c,t,_)=>(c,t,0,())):CC×TT'×Int×Unit):=λr hr=>by
  unfold iy;rw[show dR S 0=some (0,())from(DO (n:=0) hS).trans (by rw[oIP ⟨h.1,by omega⟩,oIP h.2]),oBS];dsimp only;rw[bne_self_eq_false,oCF]
  have l0:=loop_seq (f:=fZ) (st:=λi=>(S,A,((((I.take i).filter λp=>decide (p.1=-1)).length:Nat):Int),(i:Int),(),(),())) (n:=A.length) (N:=NN) (fin:=(S,A,((((I.take A.length).filter λp=>decide (p.1=-1)).length:Nat):Int),(A.length:Int),false,(),(),())) (eA (by omega)) (λi hi=>by
   have hii:i<I.length:=by rw[hI];omega
   have hd:(A[i].1,A[i].2.1)=I[i]:=by subst hI;exact hid i hii
   have YD:A[i].1=I[i].1:=congrArg Prod.fst hd;have ZE:=List.length_filter_le (λp:PID=>decide (p.1=-1)) (I.take i);rw[oLT]at ZE
   have hw:w64 ((i:Int)+1)=((i+1:Nat):Int):=by rw[bR (by omega) (by omega)];rfl
   unfold fZ;delta bJ;dsimp only;rw[oDT (show(i:Int)<(A.length:Int) by omega),oCT,bN];simp only[oBS];rw[bQ hi];simp only[oBS];rw[YD,<- fb hii,List.filter_append,List.length_append];by_cases g:I[i].1=-1
   ·rw[beq_iff_eq.2 g,oCT];simp only[oBS]
    have e1:[I[i]].filter (λp:PID=>decide (p.1=-1))=[I[i]]:=by simp[g]
    rw[hw,bR (by omega) (by omega),e1];rfl
   ·rw[oBF g,oCF];simp only[oBS]
    have e1:[I[i]].filter (λp:PID=>decide (p.1=-1))=[]:=by simp[g]
    rw[hw,e1]
    rfl) (by
   unfold fZ;delta bJ;dsimp only
   rw[oDF (by omega),oCF])
  rw[show I.take A.length=I by rw[hA,<- hI,List.take_length],show(I.filter λp=>decide (p.1=-1)).length=n by rw[hI];exact GU S n]at l0;rw[show bM fZ NN (S,A,0,0,(),(),())=_ from l0,oBS];dsimp only;rw[Dn h hn,oBS];delta bJ;dsimp only;rw[bne_self_eq_false,oCF,<- hI,show(I.length:Int)=(A.length:Int) by rw[hA,hI],bne_self_eq_false,oCF,bN];simp only[oBS];rw[show gk n n 8=true by unfold gk;simp;omega,oCT]
  have l2:=loop_seq (f:=fY) (st:=λi=>(S,A,(i:Int),(),(),I,(S.take i).map (λz=>List.replicate z.toNat ((0,(0,(0,0))):DCn)),zT n,())) (n:=S.length) (N:=NN) (fin:=(S,A,(S.length:Int),false,(),(),I,(S.take S.length).map (λz=>List.replicate z.toNat ((0,(0,(0,0))):DCn)),zT n,())) (eA (by omega)) (λi hi=>by
   obtain⟨z1,z2⟩:=KM h hi;unfold fY;delta bJ;dsimp only;rw[oDT (show(i:Int)<(S.length:Int) by omega),oCT,bN];simp only[oBS];rw[bQ hi];simp only[oBS];rw[z1];simp only[oBS];rw[z2,oCT];rw[bT (by rw[List.length_map,oLT];omega) (by simp) (by omega) (by rw[List.length_map,oLT];simp;omega),oCT,bR (by omega) (by omega)];rw[<- ml hi]
   rfl) (by
   unfold fY;delta bJ;dsimp only
   rw[oDF (by omega),oCF])
  rw[List.take_length]at l2;rw[show bM fY NN (S,A,0,(),(),I,[],zT n,())=_ from l2,oBS];dsimp only;rw[hr]
  rcases r with⟨x,_,_,_⟩|⟨_,_,_,_,_,_,c,t,_⟩<;>rfl
 rcases Md (I:=I) (A:=A) (by rw[hI];exact hA) (by unfold Sm;omega) (by subst hI;exact hid) hp A.length 0 (by omega) (zC S) (zT n) (Fs h hn) NN (eA (by omega))with⟨g1,g2⟩|⟨C',T',g0,g1,g2⟩
 ·exact⟨_,_,_,q1 _ g1,q2 _ g2,⟨by simp[Sm],(λc hc=>by cases hc),by simp[Sm],(λt ht=>by cases ht)⟩⟩
 ·exact⟨_,_,_,q1 _ g1,q2 _ g2,g0⟩
end Go.Proofs.YtakfoejcjdcgbaaGreat
namespace Go.Proofs.YtakfoejcjdcgbaaGreat
open Go.RowKit Go.Lib
theorem OH:∀{l m:List Int},l.Pairwise (· < ·)->m.Pairwise (· < ·)->(∀x,x∈l↔x∈m)->l=m:=by
 intro l
 induction l with
 |nil=>
  intro m _ _ h
  cases m with
  |nil=>rfl
  |cons y m=>exact absurd ((h y).2 List.mem_cons_self) (by simp)
 |cons x l ih=>
  intro m hl hm h
  cases m with
  |nil=>exact absurd ((h x).1 List.mem_cons_self) (by simp)
  |cons y m=>
   obtain⟨hx,Yw⟩:=List.pairwise_cons.1 hl;obtain⟨hy,To⟩:=List.pairwise_cons.1 hm
   have e:x=y:=by
    rcases List.mem_cons.1 ((h x).1 List.mem_cons_self)with e|g
    ·exact e
    ·rcases List.mem_cons.1 ((h y).2 List.mem_cons_self)with e|g2
     ·exact e.symm
     ·have:=hy x g;have:=hx y g2;omega
   subst e;rw[ih Yw To λz=>?_];have hz:=h z;refine⟨λg=>?_,λg=>?_⟩
   ·rcases List.mem_cons.1 (hz.1 (List.mem_cons_of_mem _ g))with e|g2
    ·have:=hx z g;omega
    ·exact g2
   ·rcases List.mem_cons.1 (hz.2 (List.mem_cons_of_mem _ g))with e|g2
    ·have:=hy z g;omega
    ·exact g2
theorem pF{zs:List Int}{j:Nat}(h:j<zs.length):zs.toArray[j]! = zs[j]:=by simp[h]
theorem BB{zs:List Int}{x:Int}:x∈compact zs↔x∈zs:=by
 unfold compact compactUpTo;simp only[List.mem_map,List.mem_filter,List.mem_range];constructor
 ·rintro⟨j,⟨hj,_⟩,rfl⟩;rw[pF hj];exact List.getElem_mem hj
 ·intro h;have hlt:zs.findIdx (λy=>decide (y=x))<zs.length:=List.findIdx_lt_length_of_exists ⟨x,h,by simp⟩;refine⟨_,⟨hlt,?_⟩,?_⟩
  ·unfold keeps;by_cases h0:zs.findIdx (λy=>decide (y=x))=0
   ·exact oDT (.inl h0)
   ·have h1:=List.findIdx_getElem (xs:=zs) (p:=λy=>decide (y=x)) (w:=hlt);have h2:=List.not_of_lt_findIdx (xs:=zs) (p:=λy=>decide (y=x)) (i:=zs.findIdx (λy=>decide (y=x))-1) (by omega);have e1:=of_decide_eq_true h1
    have e2:zs[zs.findIdx (λy=>decide (y=x))-1]'(by omega)≠x:=by simpa using h2
    refine oDT (.inr ?_);rw[pF hlt,pF (show zs.findIdx (λy=>decide (y=x))-1<zs.length by omega),e1];exact λe=>e2 e.symm
  ·have:=List.findIdx_getElem (xs:=zs) (p:=λy=>decide (y=x)) (w:=hlt);have e:=of_decide_eq_true this;simp[hlt,e]
theorem Cm{zs:List Int}(h:zs.Pairwise (·<=·)):(compact zs).Pairwise (· < ·):=by
 unfold compact compactUpTo;refine List.pairwise_map.2 ?_;have hr:((List.range zs.length).filter (keeps zs.toArray)).Pairwise (· < ·):=List.Pairwise.filter _ List.pairwise_lt_range;refine hr.imp_of_mem λ{a b} ha hb hab=>?_;have ZR:b<zs.length:=List.mem_range.1 (List.mem_filter.1 hb).1;have hk:=of_decide_eq_true (List.mem_filter.1 hb).2
 have h0:b≠0:=by omega
 have h1:=hk.resolve_left h0;have h2:=List.pairwise_iff_getElem.1 h;rw[pF ZR,pF (show b-1<zs.length by omega)]at h1;rw[pF ZR,pF (show a<zs.length by omega)];have h3:=h2 (b-1) b (by omega) ZR (by omega)
 have h4:zs[a]<=zs[b-1]:=by
  rcases Nat.lt_or_ge a (b-1)with g|g
  ·exact h2 a (b-1) (by omega) (by omega) g
  ·have:a=b-1:=by omega
   subst this;exact Int.le_refl _
 omega
theorem Az{l m:List Int}(hm:m.Pairwise (· < ·))(h:∀x,x∈l↔x∈m):compact (l.mergeSort λx y=>decide (x<=y))=m:=by
 refine OH (Cm ?_) hm λx=>?_
 ·have:=List.pairwise_mergeSort (le:=λx y:Int=>decide (x<=y)) (λa b c h1 h2=>oDT (by have:=of_decide_eq_true h1;have:=of_decide_eq_true h2;omega)) (λa b=>by by_cases g:a<=b<;>simp[g];omega) l;exact this.imp λh=>of_decide_eq_true h
 ·rw[BB,List.mem_mergeSort,h]
theorem Lm(zs:List Int):pO (t6 2 zs) 0 (rowN zs)=Go.Lib.compact zs:=by
 show((Go.Lib.compact zs++List.replicate (zs.length-(Go.Lib.compact zs).length) 0).drop 0).take (Go.Lib.compact zs).length=_;simp
end Go.Proofs.YtakfoejcjdcgbaaGreat
