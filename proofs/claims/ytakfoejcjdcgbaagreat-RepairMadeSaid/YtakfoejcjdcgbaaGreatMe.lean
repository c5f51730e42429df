/- Part of the proof; no condition. -/
import Derived.Test.YtakfoejcjdcgbaaGreatMd
import Derived.Sort.Row
import Derived.Sort.Grow
import Derived.Shelf.Sort.Plain
import Derived.Ground.Names2Prog
import Derived.Shelf.Slices.CompactI
import Derived.Test.YtakfoejcjdcgbaaGreatProg
import Derived.Shelf.Slices.In.SortNone
import Derived.WalkKit
import Derived.WalkSpells
import Derived.Handy
import Derived.OpenShut
import Derived.Lib.SlicesCompact
set_option linter.unusedVariables false
set_option linter.unusedSimpArgs false
namespace Go.Proofs.YtakfoejcjdcgbaaGreat
open Go.RowKit
set_option maxRecDepth 100000
noncomputable section
def dM(a0:List LDCn)(a1:LDTs)(a2:Int)(a3:Int):Option (T1A):=
(eU a0 a1).bind λ(x0,_)=>
bif(!x0)then(some (0,0,[],0,0,0,0,0,0,0,[],1,()))else
bif(a2==(-1))then(bif(decide (a3<0))then(some (0,0,[],0,0,0,0,0,0,0,[],30,()))else
let x1:=bJ a1.length;
bif(decide (a3>=x1))then(some (0,0,[],0,0,0,0,0,0,0,[],30,()))else
(cj a3).bind λx2=>
(bV a1 x2).bind λx3=>
(eT x3.1 x3.2.1 x3.2.2.1 x3.2.2.2.1 x3.2.2.2.2.1 x3.2.2.2.2.2.1 x3.2.2.2.2.2.2.1 x3.2.2.2.2.2.2.2).bind λ(x4,x5,x6,x7,x8,x9,ac,ae,_)=>
some (a2,a3,[],x4,x5,x6,x7,x8,x9,ac,ae,0,()))else
(bif(decide (a2<0))then(some (true,a0,a1,a2,a3,0,0,(),0,0,0,0,0,0,0,(),()))else
let x1:=bJ a0.length;
bif(decide (a2>=x1))then(some (true,a0,a1,a2,a3,0,0,(),0,0,0,0,0,0,0,(),()))else
bif(decide (a3<0))then(some (true,a0,a1,a2,a3,0,0,(),0,0,0,0,0,0,0,(),()))else
bif(decide (a3>32))then(some (true,a0,a1,a2,a3,0,0,(),0,0,0,0,0,0,0,(),()))else
let x2:=w64 (a3*8);
(cj a2).bind λx3=>
(bV a0 x3).bind λx4=>
let x5:=bJ x4.length;
some ((decide (x2>=x5)),a0,a1,a2,a3,0,0,(),0,0,0,0,0,0,0,(),()):Option (Bool×LLCn×LDTs×Int×Int×Int×Int×Unit×Int×Int×Int×Int×Int×Int×T04)).bind λ(x1,x2,x3,x4,x5,x6,x7,x8,x9,ac,ae,_)=>
bif x1 then(some (0,0,[],0,0,0,0,0,0,0,[],30,()))else
(cj x4).bind λan=>
(bV x2 an).bind λap=>
let aq:=w64 (x5*8);
let au:=w64 (aq+8);
let av:=bJ ap.length;
let aw:=mmR false au av;
(cj aq).bind λax=>
(cj aw).bind λay=>
bif(cR ax ay ap.length)then let az:LDCn:=(px ap ax (Nat.sub ay ax));
bif(b8 24 0 az.length)then let aA:LDCn:=(List.append [] az);
some (x4,x5,aA,0,0,0,0,0,0,0,[],0,())else none else none
def Ci:X.Cfg:=⟨E0,[jf,je],[],[⟨11,0,qE,[(.normal,qS [zaa 2,zaa 3,zaa 4,Xaa 69] [(6,uab),(8,uac),(10,Zac)])]⟩]⟩
def kR:Ctr:=⟨77,45,[.agg uab,.agg uac],[],[⟨uL [I64,I64,(uaa KCn),I64,I64,I64,I64,I64,I64,CW,b7,I64],[.agg 11,.one],[]⟩],ap4 dM⟩
theorem mJ:Lk 3 kR:=ls Ci (aC lO (aC lN aN))
def dZ:T0g->Option (T0g⊕T0r):=λ(v0,v1,v2,_)=>
bif(decide (v1<8))then(let x0:Int:=(w64 (8*v1));
let x1:=wk .u64 x0;
(cj x1).bind λx2=>
let x3:Int:=(shR .shr .u64 v0 x2);
let x4:=wk .u8 x3;
bif(b8 1 v2.length (List.length [x4]))then let x5:List (Int):=(List.append v2 [x4]);
let x6:=w64 (v1+1);
some (.inl (v0,x6,x5,()))else none)else
some (.inr (v0,v1,false,v2,()))
def cc(a0:Int)(a1:List (Int)):Option (LI×Unit):=
let x0:=wk .u64 a0;
(bM dZ NN (x0,0,a1,())).bind λ(x1,x2,x3,x4,_)=>
some (x4,())
def vV:X.Cfg:=⟨E0,[],[],[(lx 4 0 [Zaa 0 3,sP 5 (.int .u64),Uaa 6] [(3,yac)] 10)]⟩
def lU:Ctr:=⟨107,46,[.pk ⟨3,0,[]⟩ [0,0],shU I64],[(3,yac)],[⟨yac,[.one],[(3,[])]⟩],ap2 cc⟩
theorem o8:Lk 1 lU:=ls vV aN
def eF:LDCn×T03->Option ((LDCn×T03)⊕(LDCn×T0c)):=λ(v0,v1,v2,_)=>
let x0:=bJ v0.length;
bif(decide (v1<x0))then((cj v1).bind λx1=>
(bV v0 x1).bind λx2=>
let x3:=wk .i64 x2.1;
(cc x3 v2).bind λ(x4,_)=>
(cj v1).bind λx5=>
(bV v0 x5).bind λx6=>
let x7:=wk .i64 x6.2.1;
(cc x7 x4).bind λ(x8,_)=>
(cj v1).bind λx9=>
(bV v0 x9).bind λac=>
(cc ac.2.2.1 x8).bind λ(ae,_)=>
(cj v1).bind λaf=>
(bV v0 af).bind λah=>
(cc ah.2.2.2 ae).bind λ(aj,_)=>
let ak:=w64 (v1+1);
some (.inl (v0,ak,aj,())))else
some (.inr (v0,v1,false,v2,()))
def iy(a0:LDCn)(a1:List (Int)):Option (LI×Unit):=
let x0:=bJ a0.length;
(cc x0 a1).bind λ(x1,_)=>
(bM eF NN (a0,0,x1,())).bind λ(x2,x3,x4,x5,_)=>
some (x5,())
def yx:X.Cfg:=⟨E0,[lU],[],[(lx 4 0 [Zaa 0 3,sP 1 b7,Uaa 5] [(3,yac)] 13)]⟩
def rl:Ctr:=⟨106,47,[.pk ⟨3,0,[]⟩ [0,0],shU b7],[(3,yac)],[⟨yac,[.one],[(3,[])]⟩],ap2 iy⟩
theorem xP:Lk 2 rl:=ls yx (aC o8 aN)
def eG:T1R->Option (T1R⊕(Int×Bool×T1N)):=λ(v0,v1,v2,v3,v4,v5,v6,v7,v8,v9,v10,v11,v12,v13,v14,v15,v16,_)=>
bif(decide (v0<7))then(((cj v0).bind λx0=>
bif(Nat.beq x0 0)then((cc v10 v1).bind λ(x1,_)=>
some (v0,x1,v2,v3,v4,v5,v6,v7,v8,v9,v10,v11,v12,v13,v14,v15,v16,()))else
bif(Nat.beq x0 1)then((cc v11 v1).bind λ(x1,_)=>
some (v0,x1,v2,v3,v4,v5,v6,v7,v8,v9,v10,v11,v12,v13,v14,v15,v16,()))else
bif(Nat.beq x0 2)then((cc v12 v1).bind λ(x1,_)=>
some (v0,x1,v2,v3,v4,v5,v6,v7,v8,v9,v10,v11,v12,v13,v14,v15,v16,()))else
bif(Nat.beq x0 3)then((cc v13 v1).bind λ(x1,_)=>
some (v0,x1,v2,v3,v4,v5,v6,v7,v8,v9,v10,v11,v12,v13,v14,v15,v16,()))else
bif(Nat.beq x0 4)then((cc v14 v1).bind λ(x1,_)=>
some (v0,x1,v2,v3,v4,v5,v6,v7,v8,v9,v10,v11,v12,v13,v14,v15,v16,()))else
bif(Nat.beq x0 5)then((cc v15 v1).bind λ(x1,_)=>
some (v0,x1,v2,v3,v4,v5,v6,v7,v8,v9,v10,v11,v12,v13,v14,v15,v16,()))else
bif(Nat.beq x0 6)then(cc v16 v1).bind λ(x1,_)=>
some (v0,x1,v2,v3,v4,v5,v6,v7,v8,v9,v10,v11,v12,v13,v14,v15,v16,())else none:Option (T1R)).bind λ(x0,x1,x2)=>
let an:=w64 (x0+1);
some (.inl (an,x1,x2)))else
some (.inr (v0,false,v1,v2,v3,v4,v5,v6,v7,v8,v9,v10,v11,v12,v13,v14,v15,v16,()))
def j3(a0:Int)(a1:Int)(a2:LDCn)(a3:Int)(a4:Int)(a5:Int)(a6:Int)(a7:Int)(a8:Int)(a9:Int)(a10:LDCn):Option (LI×Unit):=
(cc a0 []).bind λ(x0,_)=>
(cc a1 x0).bind λ(x1,_)=>
(iy a2 x1).bind λ(x2,_)=>
let x3:=wk .i64 a9;
(bM eG NN (0,x2,a3,a4,a5,a6,a7,a8,a9,a10,a3,a4,a5,a6,a7,a8,x3,())).bind λ(x4,x5,x6,x7,x8,x9,ac,ae,af,ah,aj,_)=>
(iy aj x6).bind λ(aw,_)=>
some (aw,())
def yA:X.Cfg:=⟨E0,[lU,rl],[],[⟨9,0,qE,[(.normal,qS [Zaa 3 9,zaa 4,zaa 5,Uaa 6] [(9,yac),(10,Xad),(12,zah)])]⟩,(lx 6 1 [Zaa 3 9,zaa 4,zaa 5,Uaa 6] [(9,yac),(10,Xad),(12,zah)] 37)]⟩
def rm:Ctr:=⟨78,48,[.agg uad],[],[⟨yac,[.one],[]⟩],ap11 j3⟩
theorem xQ:Lk 3 rm:=ls yA (aC o8 (aC xP aN))
def my(a0:List (Int))(a1:List (Int)):Option (Bool×Unit):=
let x0:ByteArray:=(mS a0);
let x1:ByteArray:=(mS a1);
some ((Jn x0 x1),())
def yr:X.Cfg:=⟨E0,[],[],[]⟩
def ri:Ctr:=⟨147,49,Xag,[],[⟨Uab,[.one],[]⟩],ap2 my⟩
theorem xM:Lk 1 ri:=ls yr aN
def kZ(a0:Bool)(a1:List (Int))(a2:Bool)(a3:List (Int)):Option (Bool×Unit):=
bif(!a0)then(some ((a0==a2),()))else
bif(!a2)then(some ((a0==a2),()))else
(my a1 a3).bind λ(x0,_)=>
some (x0,())
def At:X.Cfg:=⟨E0,[ri],[],[]⟩
def sL:Ctr:=⟨136,50,[.agg yad,.agg yad],[],[⟨Uab,[.one],[]⟩],ap4 kZ⟩
theorem Ac:Lk 2 sL:=ls At (aC xM aN)
def cI:T1g->Option (T1g⊕((List (Bool×List (Int)))×(List (Bool))×T0R)):=λ(v0,v1,v2,v3,v4,_)=>
let x0:=bJ v4.length;
bif(decide (v3<x0))then((cj v3).bind λx1=>
(bV v4 x1).bind λx2=>
(bV v4 x1).bind λx3=>
(cj v3).bind λx4=>
(bV v4 x4).bind λx5=>
(bV v4 x4).bind λx6=>
(cj v2).bind λx7=>
(bV v0 x7).bind λx8=>
(kZ x3.1 x6.2.1 x8.1 x8.2).bind λ(x9,_)=>
bif(!x9)then(let ac:Int:=(w64 (v3+1));
some (.inl (v0,v1,v2,ac,v4,())))else
some (.inr (v0,v1,v2,v3,false,v4,())))else
some (.inr (v0,v1,v2,v3,false,v4,()))
def eH:T13->Option (T13⊕((List (Bool×List (Int)))×(List (Bool))×T0F)):=λ(v0,v1,v2,v3,_)=>
let x0:=bJ v0.length;
bif(decide (v2<x0))then((cj v2).bind λx1=>
(bV v1 x1).bind λx2=>
bif(!x2)then(let x3:Int:=(w64 (v2+1));
some (.inl (v0,v1,x3,v3,())))else
(bM cI NN (v0,v1,v2,0,v3,())).bind λ(x3,x4,x5,x6,x7,x8,_)=>
(let x9:=bJ x8.length;
bif(x6==x9)then((cj x5).bind λac=>
(bV x3 ac).bind λae=>
bif ae.1 then((cj x5).bind λaf=>
(bV x3 af).bind λah=>
bif(b8 1 0 ah.2.length)then let aj:List (Int):=(List.append [] ah.2);
let ak:List (Bool×LI×List (Int)):=[(ae.1,(aj,[]))];
bif(b8 56 x8.length ak.length)then let am:List (Bool×LI×List (Int)):=(List.append x8 ak);
some (x3,x4,x5,x6,am,())else none else none)else
let af:List (Bool×LI×List (Int)):=[(ae.1,([],[]))];
bif(b8 56 x8.length af.length)then let ah:List (Bool×LI×List (Int)):=(List.append x8 af);
some (x3,x4,x5,x6,ah,())else none)else
some (x3,x4,x5,x6,x8,()):Option (T1g)).bind λ(x9,ac,ae,af,ah,_)=>
(cj af).bind λaj=>
(bV ah aj).bind λak=>
(bV ah aj).bind λam=>
(bV ah aj).bind λan=>
bif(b8 8 an.2.2.length (List.length [ae]))then let ap:List (Int):=(List.append an.2.2 [ae]);
(cj af).bind λaq=>
(bV ah aq).bind λau=>
(bV ah aq).bind λav=>
bif(Nat.beq aq aj)then let aw:List (Bool×LI×List (Int)):=(List.modify ah aq λe=>(e.1,(e.2.1,ap)));
let ax:=w64 (ae+1);
some (.inl (x9,ac,ax,aw,()))else none else none)else
some (.inr (v0,v1,v2,false,v3,()))
def fr(a0:List (Bool×List (Int)))(a1:List (Bool)):Option ((List (Bool×LI×List (Int)))×Int×Unit):=
let x0:=bJ a0.length;
bif(decide (x0>5))then(some ([],3,()))else
let x1:=bJ a1.length;
let x2:=bJ a0.length;
bif(x1 != x2)then(some ([],1,()))else
(bM eH NN (a0,a1,0,[],())).bind λ(x3,x4,x5,x6,x7,_)=>
some (x7,0,())
def uF:X.Cfg:=⟨E0,[sL],[(76,(.pair .bool (.pair (uaa CB) (uaa I64)))),(77,(.pair .bool (.pair (uaa CB) (uaa I64))))],[⟨18,0,(qS [sP 0 (yaa (.pair .bool (yaa CB))),sP 1 (yaa .bool),Zaa 6 15,Uaa 7,Uaa 8] [(15,[shU (uaa (.pair .bool (.pair (yaa CB) (uaa I64))))])]),[(.exit 2,(qS [sP 0 (yaa (.pair .bool (yaa CB))),sP 1 (yaa .bool),Zaa 6 15,Uaa 7,Uaa 8,Xaa 51] [(15,[shU (uaa (.pair .bool (.pair (yaa CB) (uaa I64))))])]))]⟩,⟨21,1,qE,[(.normal,(qS [sP 0 (yaa (.pair .bool (yaa CB))),sP 1 (yaa .bool),Zaa 6 15,Uaa 7,Uaa 8] [(15,[shU (uaa (.pair .bool (.pair (yaa CB) (uaa I64))))])]))]⟩,(lx 10 2 [sP 0 (yaa (.pair .bool (yaa CB))),sP 1 (yaa .bool),Zaa 6 15,Uaa 7] [(15,[shU (uaa (.pair .bool (.pair (yaa CB) (uaa I64))))])] 21)]⟩
def ov:Ctr:=⟨108,51,Zag,[],[⟨[shU (uaa (.pair .bool (.pair (yaa CB) (uaa I64)))),shU I64],[.one,.one],[]⟩],ap2 fr⟩
theorem uw:Lk 3 ov:=ls uF (aC Ac aN)
def i9(a0:Int):Option (Int×Unit):=
bif(decide (a0<1))then(some (0,()))else
bif(decide (a0>5))then(some (0,()))else
let x0:=w64 (Int.tdiv a0 2);
let x1:=w64 (x0+1);
some (x1,())
def vT:X.Cfg:=⟨E0,[],[],[]⟩
def pi:Ctr:=⟨109,52,zac,[],[⟨zac,[.one],[]⟩],ap1 i9⟩
theorem vI:Lk 1 pi:=ls vT aN
def cP:T1f->Option (T1f⊕((List (Bool×LI×List (Int)))×Int×T0H)):=λ(v0,v1,v2,v3,v4,v5,_)=>
(cj v3).bind λx0=>
(bV v0 x0).bind λx1=>
let x2:=bJ x1.2.2.length;
bif(decide (v4<x2))then(bif(v3 != v1)then(((cj v3).bind λx3=>
(bV v0 x3).bind λx4=>
(cj v4).bind λx5=>
(bV x4.2.2 x5).bind λx6=>
bif(x6==v2)then(bif(b8 8 v5.length (List.length [v2]))then let x7:List (Int):=(List.append v5 [v2]);
some (v0,v1,v2,v3,v4,x7,())else none)else
some (v0,v1,v2,v3,v4,v5,()):Option (T1f)).bind λ(x3,x4,x5,x6,x7,x8,_)=>
let x9:=w64 (x7+1);
some (.inl (x3,x4,x5,x6,x9,x8,())))else
some (.inr (v0,v1,v2,v3,v4,false,v5,())))else
some (.inr (v0,v1,v2,v3,v4,false,v5,()))
def dq:T12->Option (T12⊕((List (Bool×LI×List (Int)))×T0H)):=λ(v0,v1,v2,v3,v4,_)=>
let x0:=bJ v0.length;
bif(decide (v3<x0))then((bM cP NN (v0,v1,v2,v3,0,v4,())).bind λ(x1,x2,x3,x4,x5,x6,x7,_)=>
let x8:=w64 (x4+1);
some (.inl (x1,x2,x3,x8,x7,())))else
some (.inr (v0,v1,v2,v3,false,v4,()))
def fm:T0P->Option (T0P⊕((List (Bool×LI×List (Int)))×T0r)):=λ(v0,v1,v2,v3,_)=>
bif(decide (v2<5))then((bM dq NN (v0,v1,v2,0,v3,())).bind λ(x0,x1,x2,x3,x4,x5,_)=>
let x6:=w64 (x2+1);
some (.inl (x0,x1,x6,x5,())))else
some (.inr (v0,v1,v2,false,v3,()))
def i8(a0:List (Bool×LI×List (Int)))(a1:Int):Option (LI×Unit):=
(bM fm NN (a0,a1,0,[],())).bind λ(x0,x1,x2,x3,x4,_)=>
some (x4,())
def vR:X.Cfg:=⟨E0,[],[],[⟨17,0,qE,[(.normal,qS [(0,shU (yaa (.pair .bool (.pair (yaa CB) RI)))),Uaa 1,Zaa 5 13,Uaa 6,Uaa 7,Uaa 8] [(13,Uac)])]⟩,⟨14,1,qS [(0,shU (yaa (.pair .bool (.pair (yaa CB) RI)))),Uaa 1,Zaa 5 13,Uaa 6,Uaa 7,Uaa 8] [(13,Uac)],[(.exit 4,qS [(0,shU (yaa (.pair .bool (.pair (yaa CB) RI)))),Uaa 1,Zaa 5 13,Uaa 6,Uaa 7,Uaa 8,Xaa 31] [(13,Uac)])]⟩,⟨9,2,qS [(0,shU (yaa (.pair .bool (.pair (yaa CB) RI)))),Uaa 1,Zaa 5 13,Uaa 6,Uaa 7] [(13,Uac)],[(.exit 2,qS [(0,shU (yaa (.pair .bool (.pair (yaa CB) RI)))),Uaa 1,Zaa 5 13,Uaa 6,Uaa 7,Xaa 16] [(13,Uac)])]⟩,(lx 4 3 [(0,shU (yaa (.pair .bool (.pair (yaa CB) RI)))),Uaa 1,Zaa 5 13,Uaa 6] [(13,Uac)] 10)]⟩
def pf:Ctr:=⟨110,53,[shU (yaa (.pair .bool (.pair (yaa CB) RI))),shU I64],[],[⟨Uac,[.one],[]⟩],ap2 i8⟩
theorem vH:Lk 1 pf:=ls vR aN
def fq:T1B->Option (T1B⊕((List (Bool))×T1C)):=λ(v0,v1,v2,v3,v4,v5)=>
let x0:=bJ v0.length;
bif(decide (v4<x0))then(((cj v4).bind λx1=>
(bV v0 x1).bind λx2=>
bif x2 then(let x3:Int:=(w64 (v3+1));
some (v0,v1,v2,x3,v4,v5))else
some (v0,v1,v2,v3,v4,v5):Option (T1B)).bind λ(x1,x2,x3,x4,x5,x6)=>
let ac:=w64 (x5+1);
some (.inl (x1,x2,x3,x4,ac,x6)))else
some (.inr (v0,v1,v2,v3,v4,false,v5))
def dt:T1t->Option (T1t⊕((Int×T0h)⊕T1w)):=λ(v0,v1,v2,v3,v4,v5,v6,_)=>
let x0:=bJ v0.length;
bif(decide (v2<x0))then((match((cj v2).bind λx1=>
(bV v0 x1).bind λx2=>
bif(!x2.1)then(some (.inl (v0,v1,v2,true,v3,v4,v5,v6,())))else
(cj v2).bind λx3=>
(bV v0 x3).bind λx4=>
let x5:=bJ x4.2.2.length;
(i9 v1).bind λ(x6,_)=>
bif(decide (x5<x6))then(some (.inl (v0,v1,v2,true,v3,v4,v5,v6,())))else
(cj v2).bind λx7=>
(bV v0 x7).bind λx8=>
(i8 v0 v2).bind λ(x9,_)=>
(let ac:=bJ v0.length;
bif(ac==1)then(some (v3,v4,v5,1,x8.2.1,x9,()))else
some (v3,v4,v5,2,x8.2.1,x9,()):Option (Int×Unit×Unit×T0h)).bind λ(ac,ae,af,ah)=>
some (.inr (0,ah)):Option (T1w⊕(Int×T0h)))with
|none=>none
|some (.inl (x1,x2,x3,x4,x5,x6,x7,x8,_))=>
let x9:=w64 (x3+1);
some (.inl (x1,x2,x9,x5,x6,x7,x8,()))
|some (.inr (x1,x2,x3,x4,_))=>
some (.inr (.inl (x1,x2,x3,x4,())))))else
some (.inr (.inr (v0,v1,v2,false,v3,v4,v5,v6,())))
def f9(a0:List (Bool×List (Int)))(a1:List (Bool))(a2:Int):Option (Int×T0m):=
(fr a0 a1).bind λ(x0,x1,_)=>
bif(x1 != 0)then(some (0,[],[],x1,()))else
bif(decide (a2<1))then(some (0,[],[],1,()))else
bif(decide (a2>5))then(some (0,[],[],1,()))else
(bM fq NN (a1,a2,x0,0,0,0,(),(),x0,())).bind λ(x2,x3,x4,x5,x6,x7,x8)=>
bif(decide (x5<x3))then(some (4,[],[],0,()))else
(match bM dt NN (x4,x5,0,x8)with
|none=>none
|some (.inl (af,ah,aj,ak,_))=>
some (ah,aj,ak,af,())
|some (.inr (af,ah,aj,ak,_))=>
some (3,[],[],0,()))
def vU:X.Cfg:=⟨E0,[ov,pi,pf],[],[⟨14,0,qE,[(.normal,(qS [sP 1 (yaa .bool),Uaa 2,zaa 6,(8,shU (yaa (.pair .bool (.pair (yaa CB) RI)))),Uaa 10,Uaa 11] [(14,zad),(19,[shU (yaa (.pair .bool (.pair (yaa CB) RI)))])]))]⟩,(lx 11 1 [sP 1 (yaa .bool),Uaa 2,zaa 6,(8,shU (yaa (.pair .bool (.pair (yaa CB) RI)))),Uaa 10,Uaa 11] [(14,zad),(19,[shU (yaa (.pair .bool (.pair (yaa CB) RI)))])] 34),⟨28,2,qE,[(.normal,qS [zaa 6,zaa 13] [(14,zad),(28,Zae)])]⟩,⟨24,3,qE,[(.normal,(qS [zaa 6,(8,shU (yaa (.pair .bool (.pair (yaa CB) RI)))),Uaa 10,Uaa 12,Xaa 69] [(14,zad),(19,[shU (yaa (.pair .bool (.pair (yaa CB) RI)))])])),(.ret,qS [zaa 6,Uaa 7] [(14,Zae)])]⟩,⟨21,4,(qS [zaa 6,(8,shU (yaa (.pair .bool (.pair (yaa CB) RI)))),Uaa 10,Uaa 12] [(14,zad),(19,[shU (yaa (.pair .bool (.pair (yaa CB) RI)))])]),[(.ret,qS [zaa 6,Uaa 7] [(14,Zae)]),(.exit 2,(qS [zaa 6,(8,shU (yaa (.pair .bool (.pair (yaa CB) RI)))),Uaa 10,Uaa 12,Xaa 50] [(14,zad),(19,[shU (yaa (.pair .bool (.pair (yaa CB) RI)))])]))]⟩]⟩
def pj:Ctr:=⟨79,54,uah,[],[⟨uL [I64,(yaa CB),RI,I64],[.agg 3,.one],[]⟩],ap3 f9⟩
theorem vJ:Lk 4 pj:=ls vU (aC uw (aC vI (aC vH aN)))
def fV:T2k->Option (T2k⊕((List (LLCn×LDTs))×(List (Bool))×T2j)):=λ(v0,v1,v2,v3,v4,v5,v6,v7,v8,v9,v10,v11,v12,v13,v14,v15,v16,v17,v18,_)=>
let x0:=bJ v0.length;
bif(decide (v3<x0))then((cj v3).bind λx1=>
(bV v0 x1).bind λx2=>
(dM x2.1 x2.2 v4 v5).bind λ(x3,x4,x5,x6,x7,x8,x9,ac,ae,af,ah,aj,_)=>
let ak:List (Int×Int×LDCn×Int×Int×Int×Int×Int×Int×Int×LDCn):=[(x3,(x4,(x5,(x6,(x7,(x8,(x9,(ac,(ae,(af,ah))))))))))];
bif(b8 120 v18.length ak.length)then let am:List (Int×Int×LDCn×Int×Int×Int×Int×Int×Int×Int×LDCn):=(List.append v18 ak);
(j3 x3 x4 x5 x6 x7 x8 x9 ac ae af ah).bind λ(an,_)=>
let ap:List (Bool×List (Int)):=[((aj==0),an)];
bif(b8 32 v17.length ap.length)then let aq:List (Bool×List (Int)):=(List.append v17 ap);
let au:=w64 (v3+1);
some (.inl (v0,v1,v2,au,v4,v5,v6,v7,v8,v9,v10,v11,v12,v13,v14,v15,v16,aq,am,()))else none else none)else
some (.inr (v0,v1,v2,v3,false,v4,v5,v6,v7,v8,v9,v10,v11,v12,v13,v14,v15,v16,v17,v18,()))
def eE:T2n->Option (T2n⊕(T1F⊕T2o)):=λ(v0,v1,v2,v3,v4,v5,v6,v7,v8,v9,v10,v11,v12,v13,v14,v15,v16,v17,v18,v19,_)=>
let x0:=bJ v0.length;
bif(decide (v3<x0))then(((cj v3).bind λx1=>
(bV v1 x1).bind λx2=>
bif x2 then((cj v3).bind λx3=>
(bV v2 x3).bind λx4=>
bif x4.1 then((cj v3).bind λx5=>
(bV v2 x5).bind λx6=>
let x7:ByteArray:=(mS x6.2);
let x8:ByteArray:=(mS v18);
some (v0,v1,v2,v3,(Jn x7 x8),v4,v5,v6,v7,v8,v9,v10,v11,v12,v13,v14,v15,v16,v17,v18,v19,()))else
some (v0,v1,v2,v3,false,v4,v5,v6,v7,v8,v9,v10,v11,v12,v13,v14,v15,v16,v17,v18,v19,()))else
some (v0,v1,v2,v3,false,v4,v5,v6,v7,v8,v9,v10,v11,v12,v13,v14,v15,v16,v17,v18,v19,()):Option (T2o)).bind λ(x1,x2,x3,x4,x5,x6,x7,x8,x9,ac,ae,af,ah,aj,ak,am,an,ap,aq,au,av,_)=>
bif x5 then((cj x4).bind λaw=>
(bV ap aw).bind λax=>
(bV ap aw).bind λay=>
some (.inr (.inl (av,0,ay.1,ay.2.1,ay.2.2.1,ay.2.2.2.1,ay.2.2.2.2.1,ay.2.2.2.2.2.1,ay.2.2.2.2.2.2.1,ay.2.2.2.2.2.2.2.1,ay.2.2.2.2.2.2.2.2.1,ay.2.2.2.2.2.2.2.2.2.1,ay.2.2.2.2.2.2.2.2.2.2,()))))else
let aw:=w64 (x4+1);
some (.inl (x1,x2,x3,aw,x6,x7,x8,x9,ac,ae,af,ah,aj,ak,am,an,ap,aq,au,av,())))else
some (.inr (.inr (v0,v1,v2,v3,false,v4,v5,v6,v7,v8,v9,v10,v11,v12,v13,v14,v15,v16,v17,v18,v19,())))
def iw(a0:List (LLCn×LDTs))(a1:List (Bool))(a2:Int)(a3:Int)(a4:Int):Option (T1E):=
(bM fV NN (a0,a1,a4,0,a2,a3,0,0,(),0,0,0,0,0,0,0,(),[],[],())).bind λ(x0,x1,x2,x3,x4,x5,x6,x7,x8,x9,ac,ae,af,ah,aj,ak,am,an,ap,aq,_)=>
(f9 ap x1 x2).bind λ(au,av,aw,ax,_)=>
bif(ax != 0)then(some (0,0,[],0,0,0,0,0,0,0,[],[],ax,()))else
bif(au==3)then(some (0,0,[],0,0,0,0,0,0,0,[],[],31,()))else
bif(au==4)then(some (0,0,[],0,0,0,0,0,0,0,[],[],31,()))else
(match bM eE NN (x0,x1,ap,0,x7,x8,x9,ac,ae,af,ah,aj,ak,am,an,ap,aq,au,av,aw,())with
|none=>none
|some (.inl (ay,az,aA,aB,aD,aE,aF,aG,aH,aI,aJ,aK,aL,_))=>
some (aA,aB,aD,aE,aF,aG,aH,aI,aJ,aK,aL,ay,az,())
|some (.inr (ay,az,aA,aB,aD,aE,aF,aG,aH,aI,aJ,aK,aL,_))=>
some (0,0,[],0,0,0,0,0,0,0,[],[],31,()))
def yq:X.Cfg:=⟨E0,[kR,rm,pj],[(36,(.pair I64 (.pair I64 (.pair (uaa KCn) jG)))),(37,(.pair I64 (.pair I64 (.pair (uaa KCn) jG)))),(44,(.pair .bool (uaa CB))),(45,(.pair .bool (uaa CB)))],[(lx 5 0 [sP 0 (yaa (.pair (yaa b7) (yaa ct))),sP 1 (yaa .bool),Uaa 3,zaa 6,zaa 8,Zaa 11 25,Zaa 12 27,Uaa 13] [(14,uac),(18,Zac),(25,Uaf),(27,[shU (uaa (.pair I64 (.pair I64 (.pair b7 ct))))])] 22),⟨24,1,qE,[(.normal,(qS [sP 0 (yaa (.pair (yaa b7) (yaa ct))),sP 1 (yaa .bool),zaa 8,sP 11 (yaa (.pair .bool (yaa CB))),Zaa 12 27,zaa 16,Uaa 18,Xaa 94] [(18,Zac),(25,yae),(27,[shU (uaa (.pair I64 (.pair I64 (.pair b7 ct))))]),(34,Zae)]))]⟩,⟨20,2,(qS [sP 0 (yaa (.pair (yaa b7) (yaa ct))),sP 1 (yaa .bool),zaa 8,sP 11 (yaa (.pair .bool (yaa CB))),Zaa 12 27,zaa 16,Uaa 18] [(18,Zac),(25,yae),(27,[shU (uaa (.pair I64 (.pair I64 (.pair b7 ct))))]),(34,Zae)]),[(.ret,qS [zaa 8,sP 9 RI,Uaa 10] [(18,uad)]),(.exit 2,(qS [sP 0 (yaa (.pair (yaa b7) (yaa ct))),sP 1 (yaa .bool),zaa 8,sP 11 (yaa (.pair .bool (yaa CB))),Zaa 12 27,zaa 16,Uaa 18,Xaa 69] [(18,Zac),(25,yae),(27,[shU (uaa (.pair I64 (.pair I64 (.pair b7 ct))))]),(34,Zae)]))]⟩]⟩
def mP:Ctr:=⟨39,55,[shU (yaa (.pair (yaa b7) (yaa ct))),shU (yaa .bool),.agg uac,shU I64],[],[⟨yah,[.agg 11,.one,.one],[]⟩],ap5 iw⟩
theorem qH:Lk 5 mP:=ls yq (aC mJ (aC xQ (aC vJ aN)))
def cB:(List (Bool))×T0a->Option (((List (Bool))×T0a)⊕((Int×Unit)⊕((List (Bool))×Bool×T0d))):=λ(v0,v1,v2,v3,_)=>
bif(decide (v3<v2))then((cj v3).bind λx0=>
(bV v0 x0).bind λx1=>
bif(v1==x1)then(some (.inr (.inl (v3,()))))else
let x2:=w64 (v3+1);
some (.inl (v0,v1,v2,x2,())))else
some (.inr (.inr (v0,v1,v2,v3,false,())))
def fM(a0:List (Bool))(a1:Bool):Option (Int×Unit):=
let x0:=bJ a0.length;
(match bM cB NN (a0,a1,x0,0,())with
|none=>none
|some (.inl (x1,_))=>
some (x1,())
|some (.inr (x1,_))=>
some ((-1),()))
def pN:X.Cfg:=⟨E0,[],[],[⟨3,0,qS [sP 0 (yaa .bool),Xaa 1,Uaa 7,Uaa 8] [],[(.ret,qS [Uaa 4] []),(.exit 0,qS [sP 0 (yaa .bool),Xaa 1,Uaa 7,Uaa 8,Xaa 9] [])]⟩]⟩
def kO:Ctr:=⟨56,56,uL [(yaa .bool),.bool],[],[⟨zac,[.one],[]⟩],ap2 fM⟩
theorem pI:Lk 1 kO:=ls pN aN
def dN:LLCn×Int×T0v->Option ((LLCn×Int×T0v)⊕(LLCn×Int×Int×Bool×T0o)):=λ(v0,v1,v2,v3,v4,v5,_)=>
bif(decide (v2<v1))then((cj v2).bind λx0=>
(bV v0 x0).bind λx1=>
let x2:=bJ x1.length;
bif(b8 8 v5.length (List.length [x2]))then let x3:List (Int):=(List.append v5 [x2]);
let x4:=w64 (v2+1);
some (.inl (v0,v1,x4,v3,v4,x3,()))else none)else
some (.inr (v0,v1,v2,false,v3,v4,v5,()))
def eM(a0:List LDCn)(a1:LDTs):Option (LI×Unit):=
let x0:=bJ a0.length;
(bM dN NN (a0,x0,0,a0,a1,[],())).bind λ(x1,x2,x3,x4,x5,x6,x7,_)=>
some (x7,())
def yF:X.Cfg:=⟨E0,[],[],[(lx 4 0 [Zaa 3 9,sP 7 (yaa b7),Uaa 8,Uaa 9] [(4,uab),(9,Uac)] 10)]⟩
def iN:Ctr:=⟨31,57,[.agg uab],[],[⟨Uac,[.one],[]⟩],ap2 eM⟩
theorem ke:Lk 1 iN:=ls yF aN
def gb(a0:Int):Option (Bool×Unit):=
(iA a0).bind λ(x0,_)=>
some ((!x0),())
def wb:X.Cfg:=⟨E0,[mR],[],[]⟩
def pn:Ctr:=⟨69,58,zac,[],[⟨Uab,[.one],[]⟩],ap1 gb⟩
theorem vL:Lk 2 pn:=ls wb (aC qJ aN)
def bR:T0l->Option (T0l⊕((Int×Unit)⊕T0x)):=λ(v0,v1,v2,_)=>
bif(decide (v2<v1))then((cj v2).bind λx0=>
(bV v0 x0).bind λx1=>
(gb x1).bind λ(x2,_)=>
bif x2 then(some (.inr (.inl (v2,()))))else
let x3:=w64 (v2+1);
some (.inl (v0,v1,x3,())))else
some (.inr (.inr (v0,v1,v2,false,())))
def eB(a0:List (Int)):Option (Int×Unit):=
let x0:=bJ a0.length;
(match bM bR NN (a0,x0,0,())with
|none=>none
|some (.inl (x1,_))=>
some (x1,())
|some (.inr (x1,_))=>
some ((-1),()))
def nC:X.Cfg:=⟨E0,[pn],[],[⟨3,0,(qS [sP 0 RI,(1,.fn 69 []),Uaa 7,Uaa 8] []),[(.ret,qS [Uaa 4] []),(.exit 0,(qS [sP 0 RI,(1,.fn 69 []),Uaa 7,Uaa 8,Xaa 9] []))]⟩]⟩
def iR:Ctr:=⟨97,59,[shU RI,.fn 69 []],[],[⟨zac,[.one],[]⟩],ap1 eB⟩
theorem nw:Lk 3 iR:=ls nC (aC vL aN)
def cA(a0:List (Int)):Option (Bool×Unit):=
(eB a0).bind λ(x0,_)=>
some ((decide (x0>=0)),())
def lS:X.Cfg:=⟨E0,[iR],[],[]⟩
def gR:Ctr:=⟨68,60,[shU RI,.fn 69 []],[],[⟨Uab,[.one],[]⟩],ap1 cA⟩
theorem lM:Lk 4 gR:=ls lS (aC nw aN)
def dC:T1l->Option (T1l⊕(Int×Int×Int×Int×T0M)):=λ(v0,v1,v2,v3,v4,v5,v6,v7,_)=>
let x0:=w64 (v3*8);
bif(decide (x0<v2))then(let x1:LDCe:=[(v1,v3)];
bif(b8 16 v7.length x1.length)then let x2:LDCe:=(List.append v7 x1);
let x3:=w64 (v3+1);
some (.inl (v0,v1,v2,x3,v4,v5,v6,x2,()))else none)else
some (.inr (v0,v1,v2,v3,v4,v5,v6,false,v7,()))
def ef:T0J->Option (T0J⊕(Int×T0M)):=λ(v0,v1,v2,v3,v4,_)=>
bif(decide (v3<v2))then((cj v3).bind λx0=>
(bV v1 x0).bind λx1=>
(bM dC NN (v0,v3,x1,0,v1,v2,v3,v4,())).bind λ(x2,x3,x4,x5,x6,x7,x8,x9,ac,_)=>
let ae:=w64 (x8+1);
some (.inl (x2,x6,x7,ae,ac,())))else
some (.inr (v0,v1,v2,v3,false,v4,()))
def dB:T0f->Option (T0f⊕T0q):=λ(v0,v1,v2,_)=>
bif(decide (v1<v0))then(let x0:LDCe:=[((-1),v1)];
bif(b8 16 v2.length x0.length)then let x1:LDCe:=(List.append v2 x0);
let x2:=w64 (v1+1);
some (.inl (v0,x2,x1,()))else none)else
some (.inr (v0,v1,false,v2,()))
def dD(a0:List (Int))(a1:Int):Option (T05):=
let x0:=bJ a0.length;
bif(decide (x0>4))then(some ([],3,()))else
bif(decide (a1>4))then(some ([],3,()))else
bif(decide (a1<0))then(some ([],1,()))else
(cA a0).bind λ(x1,_)=>
bif x1 then(some ([],1,()))else
let x2:=bJ a0.length;
(bM ef NN (a1,a0,x2,0,[],())).bind λ(x3,x4,x5,x6,x7,x8,_)=>
(bM dB NN (x3,0,x8,())).bind λ(x9,ac,ae,af,_)=>
some (af,0,())
def AD:X.Cfg:=⟨E0,[gR],[],[⟨16,0,qS [Uaa 1,Zaa 6 15,Uaa 7,Uaa 8,Uaa 9,sP 24 RI,Uaa 25,Uaa 26] [(15,zab)],[(.exit 2,qS [Uaa 1,Zaa 6 15,Uaa 7,Uaa 8,Uaa 9,sP 24 RI,Uaa 25,Uaa 26,Xaa 34] [(15,zab)])]⟩,(lx 10 1 [Uaa 1,Zaa 6 15,sP 24 RI,Uaa 25,Uaa 26] [(15,zab)] 27),⟨22,2,qS [Zaa 6 15,Uaa 44,Uaa 45] [(15,zab)],[(.exit 4,qS [Zaa 6 15,Uaa 44,Uaa 45,Xaa 46] [(15,zab)])]⟩]⟩
def jA:Ctr:=⟨32,61,Xab,[],[⟨Xaf,[.one,.one],[]⟩],ap2 dD⟩
theorem lw:Lk 5 jA:=ls AD (aC lM aN)
def eC(a0:List LDCn):Option (LLCn×Unit):=
bif(b8 24 0 a0.length)then let x0:List LDCn:=(List.append [] a0);
some (x0,())else none
def nD:X.Cfg:=⟨E0,[],[(5,(uaa KCn)),(7,(uaa KCn))],[]⟩
def iT:Ctr:=⟨64,62,uL [(yaa b7)],[],[⟨uL [(uaa b7)],[.one],[]⟩],ap1 eC⟩
theorem nA:Lk 1 iT:=ls nD aN
def fN(a0:LDTs):Option (LDTs×Unit):=
bif(b8 80 0 a0.length)then let x0:LDTs:=(List.append [] a0);
some (x0,())else none
def pO:X.Cfg:=⟨E0,[],[(5,jG),(7,jG)],[]⟩
def kP:Ctr:=⟨65,63,uL [(yaa ct)],[],[⟨uL [(uaa ct)],[.one],[]⟩],ap1 fN⟩
theorem pJ:Lk 1 kP:=ls pO aN
def fw:T18->Option (T18⊕(Int×Int×Bool×T0N)):=λ(v0,v1,v2,v3,v4)=>
bif(decide (v1<v0))then((cj v1).bind λx0=>
(bV v2 x0).bind λx1=>
bif(cR v3 x0 x0)then(bV v2 x0).bind λx2=>
(df x2).bind λ(x3,_)=>
(cj v1).bind λx4=>
(bV v2 x4).bind λx5=>
(bV v2 x4).bind λx6=>
bif(Nat.beq x4 v3)then let x7:Int:=(w64 (v1+1));
some (.inl (v0,x7,(List.modify v2 x4 λe=>x3),(Nat.add v3 1),v4))else none else none)else
some (.inr (v0,v1,false,v2,v3,v4))
def fu:Int×Int×T0B->Option ((Int×Int×T0B)⊕(Int×Int×Bool×T0B)):=λ(v0,v1,v2,v3,v4)=>
bif(decide (v1<v0))then((cj v1).bind λx0=>
(bV v3 x0).bind λx1=>
(bV v3 x0).bind λx2=>
(eN x2.1 x2.2.1 x2.2.2.1 x2.2.2.2.1 x2.2.2.2.2.1 x2.2.2.2.2.2.1 x2.2.2.2.2.2.2.1 x2.2.2.2.2.2.2.2).bind λ(x3,x4,x5,x6,x7,x8,x9,ac,_)=>
(cj v1).bind λae=>
(bV v3 ae).bind λaf=>
(bV v3 ae).bind λah=>
let aj:=(List.modify v3 ae λe=>(x3,(x4,(x5,(x6,(x7,(x8,(x9,ac))))))));
let ak:=w64 (v1+1);
some (.inl (v0,ak,v2,aj,v4)))else
some (.inr (v0,v1,false,v2,v3,v4))
def eX(a0:List LDCn)(a1:LDTs):Option (T08):=
(eC a0).bind λ(x0,_)=>
(fN a1).bind λ(x1,_)=>
let x2:=bJ x0.length;
(bM fw NN (x2,0,x0,0,x1,(),(),())).bind λ(x3,x4,x5,x6,x7,x8,x9)=>
bif(Nat.beq x7 x6.length)then let ae:Int:=(bJ x8.length);
(bM fu NN (ae,0,x6,x8,x9)).bind λ(af,ah,aj,ak,am,_)=>
some (ak,am,())else none
def wc:X.Cfg:=⟨E0,[iT,kP,fb,kj],[],[(lx 4 0 [zaa 1,zaa 2,Zaa 16 4,Uaa 17,Uaa 18] [(4,[.half KCn () (),shU (uaa ct)]),(6,yab)] 19),⟨11,1,(qS [zaa 1,zaa 2,(31,.pk ⟨4,1,[]⟩ [0,0]),Uaa 32,Uaa 33] [(4,zae),(6,yab)]),[(.exit 2,(qS [zaa 1,zaa 2,(31,.pk ⟨4,1,[]⟩ [0,0]),Uaa 32,Uaa 33,Xaa 34] [(4,zae),(6,yab)]))]⟩]⟩
def jh:Ctr:=⟨30,64,[.agg uab],[],[⟨zae,[.agg 2],[]⟩],ap2 eX⟩
theorem lQ:Lk 3 jh:=ls wc (aC nA (aC pJ (aC gE (aC mK aN))))
def iB(a0:Int)(a1:Int)(a2:Int)(a3:Int)(a4:Int)(a5:Int)(a6:Int)(a7:LDCn):Option (Bool×Unit):=
bif(a0==0)then(bif(a1==0)then(bif(a2==0)then(bif(a3==0)then(bif(a4==0)then(bif(a5==0)then(bif(a6==0)then(let x0:Int:=(bJ a7.length);
some ((x0==0),()))else
some (false,()))else
some (false,()))else
some (false,()))else
some (false,()))else
some (false,()))else
some (false,()))else
some (false,())
def yE:X.Cfg:=⟨E0,[],[],[]⟩
def rp:Ctr:=⟨91,65,[.agg Xad],[],[⟨Uab,[.one],[]⟩],ap8 iB⟩
theorem xT:Lk 1 rp:=ls yE aN
def kC(a0:List LDCn)(a1:LDTs)(a2:Int)(a3:Int)(a4:LDCn)(a5:Int)(a6:Int)(a7:Int)(a8:Int)(a9:Int)(a10:Int)(a11:Int)(a12:LDCn):Option (T0n):=
(jp a0 a1 a2 a3).bind λ(x0,_)=>
bif(x0 != 0)then(some ([],[],x0,()))else
bif(a2==(-1))then(let x1:Int:=(bJ a4.length);
bif(decide (x1>0))then(some ([],[],5,()))else
(eX a0 a1).bind λ(x2,x3,_)=>
(eN a5 a6 a7 a8 a9 a10 a11 a12).bind λ(x4,x5,x6,x7,x8,x9,ac,ae,_)=>
(cj a3).bind λaf=>
(bV x3 af).bind λah=>
(bV x3 af).bind λaj=>
let ak:=(List.modify x3 af λe=>(x4,(x5,(x6,(x7,(x8,(x9,(ac,ae))))))));
some (x2,ak,0,()))else
let x1:=bJ a4.length;
(cj a2).bind λx2=>
(bV a0 x2).bind λx3=>
(eK x3 a3).bind λ(x4,_)=>
let x5:=bJ x4.length;
bif(x1 != x5)then(some ([],[],5,()))else
(iB a5 a6 a7 a8 a9 a10 a11 a12).bind λ(x6,_)=>
bif(!x6)then(some ([],[],5,()))else
(eX a0 a1).bind λ(x7,x8,_)=>
((cj a2).bind λx9=>
(bV x7 x9).bind λac=>
(bV x7 x9).bind λae=>
(bV x7 x9).bind λaf=>
(cj a3).bind λah=>
bif(Nat.blt ah 33)then bif(Nat.blt (Nat.add (Nat.add (Nat.add ah ah) (Nat.add ah ah)) (Nat.add (Nat.add ah ah) (Nat.add ah ah))) af.length)then bif(Nat.blt af.length 1099511627777)then(bV x7 x9).bind λaj=>
(bV x7 x9).bind λak=>
bif(cR (Nat.add (Nat.add (Nat.add ah ah) (Nat.add ah ah)) (Nat.add (Nat.add ah ah) (Nat.add ah ah))) (Nat.add (Nat.add (Nat.add (Nat.add ah ah) (Nat.add ah ah)) (Nat.add (Nat.add ah ah) (Nat.add ah ah))) (Nat.min a4.length (Nat.min 8 (Nat.sub af.length (Nat.add (Nat.add (Nat.add ah ah) (Nat.add ah ah)) (Nat.add (Nat.add ah ah) (Nat.add ah ah))))))) ak.length)then bif(Nat.blt 0 (Nat.min a4.length (Nat.min 8 (Nat.sub af.length (Nat.add (Nat.add (Nat.add ah ah) (Nat.add ah ah)) (Nat.add (Nat.add ah ah) (Nat.add ah ah)))))))then(let am:List LDCn:=(List.modify x7 x9 λe=>(pC ak (Nat.add (Nat.add (Nat.add ah ah) (Nat.add ah ah)) (Nat.add (Nat.add ah ah) (Nat.add ah ah))) (Nat.min a4.length (Nat.min 8 (Nat.sub af.length (Nat.add (Nat.add (Nat.add ah ah) (Nat.add ah ah)) (Nat.add (Nat.add ah ah) (Nat.add ah ah)))))) a4));
let an:=(bJ (Nat.min a4.length (Nat.min 8 (Nat.sub af.length (Nat.add (Nat.add (Nat.add ah ah) (Nat.add ah ah)) (Nat.add (Nat.add ah ah) (Nat.add ah ah)))))));
some ((),(),am,x8,()))else
let am:=(bJ (Nat.min a4.length (Nat.min 8 (Nat.sub af.length (Nat.add (Nat.add (Nat.add ah ah) (Nat.add ah ah)) (Nat.add (Nat.add ah ah) (Nat.add ah ah)))))));
some ((),(),x7,x8,())else none else none else none else none:Option (T0C)).bind λ(x9,ac,ae,af,_)=>
some (ae,af,0,())
def Cm:X.Cfg:=⟨E0,[oy,jh,kj,lE,rp],[],[⟨17,0,qE,[(.normal,qS [zaa 4,zaa 8] [(10,yab),(18,zae)])]⟩]⟩
def pX:Ctr:=⟨54,66,[.agg uab,.agg uad],[],[⟨Uah,[.agg 2,.one],[]⟩],ap13 kC⟩
theorem uz:Lk 7 pX:=ls Cm (aC sC (aC lQ (aC mK (aC nY (aC xT aN)))))
def f7:T21->Option (T21⊕(LI×(List (Int×Int×LDCn×Int×Int×Int×Int×Int×Int×Int×LDCn))×Int×LI×Int×Int×Bool×T0C)):=λ(v0,v1,v2,v3,v4,v5,v6,v7,v8,v9,_)=>
bif(decide (v5<v4))then((cj v5).bind λx0=>
(bV v3 x0).bind λx1=>
(cj x1).bind λx2=>
(cj x1).bind λx3=>
bif(gl x2 x3 4)then let x4:LDCn:=(List.replicate x2 (0,(0,(0,0))));
bif(b8 24 v8.length (List.length [x4]))then let x5:List LDCn:=(List.append v8 [x4]);
let x6:=w64 (v5+1);
some (.inl (v0,v1,v2,v3,v4,x6,v6,v7,x5,v9,()))else none else none)else
some (.inr (v0,v1,v2,v3,v4,v5,false,v6,v7,v8,v9,()))
def dm:T1T->Option (T1T⊕(T0i⊕((List (Int×Int×LDCn×Int×Int×Int×Int×Int×Int×Int×LDCn))×Int×T16))):=λ(v0,v1,v2,v3,v4,v5,v6,v7,_)=>
bif(decide (v2<v1))then((cj v2).bind λx0=>
(bV v0 x0).bind λx1=>
(cj v2).bind λx2=>
(bV v5 x2).bind λx3=>
(bV v5 x2).bind λx4=>
bif(!((x1.1==x4.1)&&((x1.2.1==x4.2)&&true)))then(some (.inr (.inl (5,(),(),()))))else
(kC v6 v7 x1.1 x1.2.1 x1.2.2.1 x1.2.2.2.1 x1.2.2.2.2.1 x1.2.2.2.2.2.1 x1.2.2.2.2.2.2.1 x1.2.2.2.2.2.2.2.1 x1.2.2.2.2.2.2.2.2.1 x1.2.2.2.2.2.2.2.2.2.1 x1.2.2.2.2.2.2.2.2.2.2).bind λ(x5,x6,x7,_)=>
bif(x7 != 0)then(some (.inr (.inl (5,(),(),()))))else
let x8:=w64 (v2+1);
some (.inl (v0,v1,x8,v3,v4,v5,x5,x6,())))else
some (.inr (.inr (v0,v1,v2,false,v3,v4,v5,v6,v7,())))
def iC(a0:List (Int))(a1:List (Int×Int×LDCn×Int×Int×Int×Int×Int×Int×Int×LDCn)):Option (T0n):=
(dD a0 0).bind λ(x0,x1,_)=>
bif(x1 != 0)then(some ([],[],x1,()))else
let x2:=bJ a1.length;
let x3:=bJ x0.length;
let x4:=w64 (x2-x3);
bif(decide (x4<0))then(some ([],[],5,()))else
bif(decide (x4>4))then(some ([],[],5,()))else
(cj x4).bind λx5=>
(cj x4).bind λx6=>
bif(gl x5 x6 8)then let x7:LDTs:=(List.replicate x5 (0,(0,(0,(0,(0,(0,(0,[]))))))));
let x8:=bJ a0.length;
(bM f7 NN (a0,a1,x4,a0,x8,0,(),(),[],x7,())).bind λ(x9,ac,ae,af,ah,aj,ak,am,an,ap)=>
(dD x9 ae).bind λ(au,av,_)=>
let aw:=bJ ac.length;
(match bM dm NN (ac,aw,0,am,an,au,ap)with
|none=>none
|some (.inl (ax,ay,az,_))=>
some ([],[],ax,())
|some (.inr (ax,ay,az,aA,aB,aD,aE,aF,aG,_))=>
some (aF,aG,0,()))else none
def yI:X.Cfg:=⟨E0,[jA,pX],[(36,jG),(48,(uaa KCn)),(49,(uaa KCn))],[(lx 12 0 [sP 0 RI,(1,shU (yaa (.pair I64 (.pair I64 (.pair b7 ct))))),zaa 4,Uaa 8,zaa 9,sP 38 RI,Uaa 39,Uaa 40] [(10,yab),(20,zae)] 41),⟨20,1,qS [zaa 4,Zaa 6 15,zaa 9,(58,shU (yaa (.pair I64 (.pair I64 (.pair b7 ct))))),Uaa 59,Uaa 60] [(10,yab),(15,zab),(20,zae)],[(.ret,qS [zaa 4,Uaa 5] [(10,yab)]),(.exit 2,qS [zaa 4,Zaa 6 15,zaa 9,(58,shU (yaa (.pair I64 (.pair I64 (.pair b7 ct))))),Uaa 59,Uaa 60,Xaa 61] [(10,yab),(15,zab),(20,zae)])]⟩]⟩
def ru:Ctr:=⟨58,67,[shU RI,shU (yaa (.pair I64 (.pair I64 (.pair b7 ct))))],[],[⟨Uah,[.agg 2,.one],[]⟩],ap2 iC⟩
theorem xW:Lk 8 ru:=ls yI (aC lw (aC uz aN))
def cH:T27->Option (T27⊕((Int×Unit×T09)⊕((List (LLCn×LDTs))×(List (Bool))×Int×LI×Int×Int×Bool×T1P))):=λ(v0,v1,v2,v3,v4,v5,v6,v7,v8,v9,v10,v11,_)=>
bif(decide (v5<v4))then((cj v5).bind λx0=>
(bV v9 x0).bind λx1=>
(bV v9 x0).bind λx2=>
(gK v0 v1 x2.1 x2.2 v2).bind λ(x3,x4,x5,x6,x7,x8,x9,ac,ae,af,ah,aj,ak,_)=>
bif(ak != 0)then(some (.inr (.inl (ak,(),(),(),()))))else
let am:List (Int×Int×LDCn×Int×Int×Int×Int×Int×Int×Int×LDCn):=[(x3,(x4,(x5,(x6,(x7,(x8,(x9,(ac,(ae,(af,ah))))))))))];
bif(b8 120 v10.length am.length)then let an:List (Int×Int×LDCn×Int×Int×Int×Int×Int×Int×Int×LDCn):=(List.append v10 am);
bif(b8 8 v11.length aj.length)then let ap:List (Int):=(List.append v11 aj);
let aq:=w64 (v5+1);
some (.inl (v0,v1,v2,v3,v4,aq,v6,v7,v8,v9,an,ap,()))else none else none)else
some (.inr (.inr (v0,v1,v2,v3,v4,v5,false,v6,v7,v8,v9,v10,v11,())))
def i7(a0:List (LLCn×LDTs))(a1:List (Bool))(a2:Int):Option (T0z):=
(fM a1 true).bind λ(x0,_)=>
let x1:=bJ a1.length;
let x2:=bJ a0.length;
bif(x1 != x2)then(some ([],[],[],1,()))else
bif(decide (x0<0))then(some ([],[],[],1,()))else
(cj x0).bind λx3=>
(bV a0 x3).bind λx4=>
(eM x4.1 x4.2).bind λ(x5,_)=>
(cj x0).bind λx6=>
(bV a0 x6).bind λx7=>
let x8:=bJ x7.2.length;
(dD x5 x8).bind λ(x9,ac,_)=>
bif(ac != 0)then(some ([],[],[],ac,()))else
let ae:=bJ x9.length;
(match bM cH NN (a0,a1,a2,x5,ae,0,(),(),x5,x9,[],[],())with
|none=>none
|some (.inl (af,ah,aj,ak,_))=>
some ([],[],[],af,())
|some (.inr (af,ah,aj,ak,am,an,ap,aq,au,av,aw,ax,ay,_))=>
bif(Nat.blt ay.length 4611686018427387904)then let az:List (Int):=(ue 1 ay);
(iC ak ax).bind λ(aA,aB,aD,_)=>
bif(aD != 0)then(some ([],[],[],aD,()))else
bif(Nat.blt az.length 4611686018427387904)then let aE:List (Int):=(ue 2 az);
let aF:=px aE 0 (rowN az);
some (aA,aB,aF,0,())else none else none)
def vO:X.Cfg:=⟨E0,[kO,iN,jA,lT,ru],[(74,(.pair I64 (.pair I64 (.pair (uaa KCn) jG)))),(75,(.pair I64 (.pair I64 (.pair (uaa KCn) jG))))],[⟨14,0,(qS [sP 0 (yaa (.pair (yaa b7) (yaa ct))),sP 1 (yaa .bool),Uaa 2,zaa 6,sP 10 RI,Zaa 13 29,Zaa 14 31,Zaa 53 25,Uaa 54,Uaa 55] [(14,yab),(23,Zad),(25,zab),(29,[shU (uaa (.pair I64 (.pair I64 (.pair b7 ct))))]),(31,Uac)]),[(.ret,(qS [zaa 6,Zaa 7 17,Uaa 8] [(14,yab),(17,uL [N1])])),(.exit 0,(qS [sP 0 (yaa (.pair (yaa b7) (yaa ct))),sP 1 (yaa .bool),Uaa 2,zaa 6,sP 10 RI,Zaa 13 29,Zaa 14 31,Zaa 53 25,Uaa 54,Uaa 55,Xaa 56] [(14,yab),(23,Zad),(25,zab),(29,[shU (uaa (.pair I64 (.pair I64 (.pair b7 ct))))]),(31,Uac)]))]⟩]⟩
def pd:Ctr:=⟨26,68,Xah,[],[⟨uL [(yaa b7),(yaa ct),RI,I64],[.agg 2,.one,.one],[]⟩],ap3 i7⟩
theorem vF:Lk 9 pd:=ls vO (aC pI (aC ke (aC lw (aC o7 (aC xW aN)))))
def dA:LI×Int×T0f->Option ((LI×Int×T0f)⊕(LI×Int×T0q)):=λ(v0,v1,v2,v3,v4,_)=>
let x0:=w64 (v3*8);
(cj v2).bind λx1=>
(bV v0 x1).bind λx2=>
bif(decide (x0<x2))then(let x3:LDCe:=[(v2,v3)];
bif(b8 16 v4.length x3.length)then let x4:LDCe:=(List.append v4 x3);
let x5:=w64 (v3+1);
some (.inl (v0,v1,v2,x5,x4,()))else none)else
some (.inr (v0,v1,v2,v3,false,v4,()))
def d9:T0y->Option (T0y⊕T0M):=λ(v0,v1,v2,v3,_)=>
let x0:=bJ v0.length;
bif(decide (v2<x0))then((bM dA NN (v0,v1,v2,0,v3,())).bind λ(x1,x2,x3,x4,x5,x6,_)=>
let x7:=w64 (x3+1);
some (.inl (x1,x2,x7,x6,())))else
some (.inr (v0,v1,v2,false,v3,()))
def dz:T0f->Option (T0f⊕T0q):=λ(v0,v1,v2,_)=>
bif(decide (v1<v0))then(let x0:LDCe:=[((-1),v1)];
bif(b8 16 v2.length x0.length)then let x1:LDCe:=(List.append v2 x0);
let x2:=w64 (v1+1);
some (.inl (v0,x2,x1,()))else none)else
some (.inr (v0,v1,false,v2,()))
def eI(a0:List (Int))(a1:Int):Option (T05):=
(dU a0 a1).bind λ(x0,_)=>
bif(x0 != 0)then(some ([],x0,()))else
(bM d9 NN (a0,a1,0,[],())).bind λ(x1,x2,x3,x4,x5,_)=>
(bM dz NN (x2,0,x5,())).bind λ(x6,x7,x8,x9,_)=>
some (x9,0,())
def Ay:X.Cfg:=⟨E0,[ki],[],[⟨13,0,qS [sP 0 RI,Uaa 1,Zaa 7 17,Uaa 8,Uaa 9] [(17,zab)],[(.exit 2,qS [sP 0 RI,Uaa 1,Zaa 7 17,Uaa 8,Uaa 9,Xaa 29] [(17,zab)])]⟩,(lx 8 1 [sP 0 RI,Uaa 1,Zaa 7 17,Uaa 8] [(17,zab)] 20),⟨19,2,qS [Uaa 1,Zaa 7 17,Uaa 10] [(17,zab)],[(.exit 4,qS [Uaa 1,Zaa 7 17,Uaa 10,Xaa 40] [(17,zab)])]⟩]⟩
def jy:Ctr:=⟨35,69,Xab,[],[⟨Xaf,[.one,.one],[]⟩],ap2 eI⟩
theorem lq:Lk 2 jy:=ls Ay (aC mI aN)
def lb(a0:Int)(a1:Int)(a2:Int)(a3:Int)(a4:Int)(a5:Int)(a6:Int)(a7:LDCn):Option (Bool×Unit):=
bif(a0==0)then(bif(a1==0)then(bif(a2==0)then(bif(a3==0)then(bif(a4==0)then(bif(a5==0)then(bif(a6==0)then(let x0:Int:=(bJ a7.length);
some ((x0==0),()))else
some (false,()))else
some (false,()))else
some (false,()))else
some (false,()))else
some (false,()))else
some (false,()))else
some (false,())
def Aw:X.Cfg:=⟨E0,[],[],[]⟩
def sO:Ctr:=⟨112,70,[.agg Xad],[],[⟨Uab,[.one],[]⟩],ap8 lb⟩
theorem Af:Lk 1 sO:=ls Aw aN
def kA(a0:List LDCn)(a1:LDTs)(a2:Int)(a3:Int)(a4:LDCn)(a5:Int)(a6:Int)(a7:Int)(a8:Int)(a9:Int)(a10:Int)(a11:Int)(a12:LDCn):Option (T0n):=
(dM a0 a1 a2 a3).bind λ(x0,x1,x2,x3,x4,x5,x6,x7,x8,x9,ac,ae,_)=>
bif(ae != 0)then(some ([],[],ae,()))else
(let af:=bJ a4.length;
let ah:=bJ x2.length;
bif(af != ah)then(some (true,a0,a1,a2,a3,a4,a5,a6,a7,a8,a9,a10,a11,a12,(),(),()))else
bif(a2 != (-1))then((lb a5 a6 a7 a8 a9 a10 a11 a12).bind λ(aj,_)=>
some ((!aj),a0,a1,a2,a3,a4,a5,a6,a7,a8,a9,a10,a11,a12,(),(),()))else
some (false,a0,a1,a2,a3,a4,a5,a6,a7,a8,a9,a10,a11,a12,(),(),()):Option (Bool×LLCn×LDTs×Int×Int×LDCn×Int×Int×Int×Int×Int×Int×Int×LDCn×T09)).bind λ(af,ah,aj,ak,am,an,ap,aq,au,av,aw,ax,ay,az,aA,aB,_)=>
bif af then(some ([],[],5,()))else
(eJ ah aj).bind λ(aD,aE,_)=>
bif(ak==(-1))then((eT ap aq au av aw ax ay az).bind λ(aF,aG,aH,aI,aJ,aK,aL,aM,_)=>
(cj am).bind λaO=>
(bV aE aO).bind λaP=>
(bV aE aO).bind λaQ=>
let aR:=(List.modify aE aO λe=>(aF,(aG,(aH,(aI,(aJ,(aK,(aL,aM))))))));
some (aD,aR,0,()))else
((cj ak).bind λaF=>
(bV aD aF).bind λaG=>
(bV aD aF).bind λaH=>
let aI:=w64 (am*8);
(bV aD aF).bind λaJ=>
(cj aI).bind λaK=>
bif(cR aK aJ.length aJ.length)then(bV aD aF).bind λaL=>
(bV aD aF).bind λaM=>
bif(cR aK (Nat.add aK (Nat.min an.length (Nat.sub aJ.length aK))) aM.length)then bif(Nat.blt 0 (Nat.min an.length (Nat.sub aJ.length aK)))then(let aO:List LDCn:=(List.modify aD aF λe=>(pC aM aK (Nat.min an.length (Nat.sub aJ.length aK)) an));
let aP:=(bJ (Nat.min an.length (Nat.sub aJ.length aK)));
some (aA,aB,aO,aE,()))else
let aO:=(bJ (Nat.min an.length (Nat.sub aJ.length aK)));
some (aA,aB,aD,aE,())else none else none:Option (T0C)).bind λ(aF,aG,aH,aI,_)=>
some (aH,aI,0,())
def Ch:X.Cfg:=⟨E0,[kR,sO,jz,je],[],[⟨6,0,qE,[(.normal,qS [zaa 2,zaa 3,zaa 4,Xaa 38] [(6,uab),(8,uad),(10,yab)])]⟩,⟨13,1,qE,[(.normal,qS [zaa 4,zaa 8] [(10,yab),(18,Zab)])]⟩]⟩
def pV:Ctr:=⟨83,71,[.agg uab,.agg uad],[],[⟨Zah,[.agg 2,.one],[]⟩],ap13 kA⟩
theorem ux:Lk 4 pV:=ls Ch (aC mJ (aC Af (aC lu (aC lN aN))))
def fZ:T1M->Option (T1M⊕(LI×(List (Int×Int×LDCn×Int×Int×Int×Int×Int×Int×Int×LDCn))×Int×Int×Bool×T09)):=λ(v0,v1,v2,v3,v4)=>
let x0:=bJ v1.length;
bif(decide (v3<x0))then(((cj v3).bind λx1=>
(bV v1 x1).bind λx2=>
bif(x2.1==(-1))then(let x3:Int:=(w64 (v2+1));
some (v0,v1,x3,v3,v4))else
some (v0,v1,v2,v3,v4):Option (T1M)).bind λ(x1,x2,x3,x4,x5)=>
let x7:=w64 (x4+1);
some (.inl (x1,x2,x3,x7,x5)))else
some (.inr (v0,v1,v2,v3,false,v4))
def fY:T1U->Option (T1U⊕(LI×T1S)):=λ(v0,v1,v2,v3,v4,v5,v6,v7,_)=>
let x0:=bJ v0.length;
bif(decide (v2<x0))then((cj v2).bind λx1=>
(bV v0 x1).bind λx2=>
(cj x2).bind λx3=>
(cj x2).bind λx4=>
bif(gl x3 x4 4)then let x5:LDCn:=(List.replicate x3 (0,(0,(0,0))));
bif(b8 24 v6.length (List.length [x5]))then let x6:List LDCn:=(List.append v6 [x5]);
let x7:=w64 (v2+1);
some (.inl (v0,v1,x7,v3,v4,v5,x6,v7,()))else none else none)else
some (.inr (v0,v1,v2,false,v3,v4,v5,v6,v7,()))
def dl:T1Q->Option (T1Q⊕(T0i⊕T1S)):=λ(v0,v1,v2,v3,v4,v5,v6,_)=>
let x0:=bJ v0.length;
bif(decide (v1<x0))then((cj v1).bind λx1=>
(bV v0 x1).bind λx2=>
(kA v5 v6 x2.1 x2.2.1 x2.2.2.1 x2.2.2.2.1 x2.2.2.2.2.1 x2.2.2.2.2.2.1 x2.2.2.2.2.2.2.1 x2.2.2.2.2.2.2.2.1 x2.2.2.2.2.2.2.2.2.1 x2.2.2.2.2.2.2.2.2.2.1 x2.2.2.2.2.2.2.2.2.2.2).bind λ(x3,x4,x5,_)=>
(cj v1).bind λx6=>
(bV v0 x6).bind λx7=>
(cj v1).bind λx8=>
(bV v4 x8).bind λx9=>
(bV v4 x8).bind λac=>
bif(!((x7.1==ac.1)&&((x7.2.1==ac.2)&&true)))then(some (.inr (.inl (5,(),(),()))))else
bif(x5 != 0)then(some (.inr (.inl (5,(),(),()))))else
let ae:=w64 (v1+1);
some (.inl (v0,ae,v2,v3,v4,x3,x4,())))else
some (.inr (.inr (v0,v1,false,v2,v3,v4,v5,v6,())))
def iz(a0:List (Int))(a1:List (Int×Int×LDCn×Int×Int×Int×Int×Int×Int×Int×LDCn)):Option (T0n):=
(dU a0 0).bind λ(x0,_)=>
bif(x0 != 0)then(some ([],[],x0,()))else
(bM fZ NN (a0,a1,0,0,(),(),())).bind λ(x1,x2,x3,x4,x5,x6,x7,_)=>
(eI x1 x3).bind λ(x8,x9,_)=>
bif(x9 != 0)then(some ([],[],5,()))else
let ac:=bJ x8.length;
let ae:=bJ x2.length;
bif(ac != ae)then(some ([],[],5,()))else
(cj x3).bind λaf=>
(cj x3).bind λah=>
bif(gl af ah 8)then let aj:LDTs:=(List.replicate af (0,(0,(0,(0,(0,(0,(0,[]))))))));
(bM fY NN (x1,x2,0,x6,x7,x8,[],aj,())).bind λ(ak,am,an,ap,aq)=>
(match bM dl NN (am,0,aq)with
|none=>none
|some (.inl (ay,az,aA,_))=>
some ([],[],ay,())
|some (.inr (ay,az,aA,aB,aD,aE,aF,aG,_))=>
some (aF,aG,0,()))else none
def yB:X.Cfg:=⟨E0,[ki,jy,pV],[(54,jG),(69,(uaa KCn)),(70,(uaa KCn))],[⟨11,0,qE,[(.normal,qS [sP 0 RI,(1,shU (yaa (.pair I64 (.pair I64 (.pair b7 ct))))),zaa 4,Uaa 7,Uaa 8] [(10,yab)])]⟩,(lx 8 1 [sP 0 RI,(1,shU (yaa (.pair I64 (.pair I64 (.pair b7 ct))))),zaa 4,Uaa 7,Uaa 8] [(10,yab)] 25),⟨20,2,qS [sP 0 RI,(1,shU (yaa (.pair I64 (.pair I64 (.pair b7 ct))))),zaa 4,Zaa 9 21,zaa 11,Uaa 12] [(10,yab),(21,zab),(24,Zab)],[(.exit 2,qS [sP 0 RI,(1,shU (yaa (.pair I64 (.pair I64 (.pair b7 ct))))),zaa 4,Zaa 9 21,zaa 11,Uaa 12,Xaa 59] [(10,yab),(21,zab),(24,Zab)])]⟩,⟨26,3,qS [(1,shU (yaa (.pair I64 (.pair I64 (.pair b7 ct))))),zaa 4,Zaa 9 21,zaa 11,Uaa 13] [(10,yab),(21,zab),(24,Zab)],[(.ret,qS [zaa 4,Uaa 5] [(10,yab)]),(.exit 4,qS [(1,shU (yaa (.pair I64 (.pair I64 (.pair b7 ct))))),zaa 4,Zaa 9 21,zaa 11,Uaa 13,Xaa 75] [(10,yab),(21,zab),(24,Zab)])]⟩]⟩
def rn:Ctr:=⟨80,72,[shU RI,shU (yaa (.pair I64 (.pair I64 (.pair b7 ct))))],[],[⟨Zah,[.agg 2,.one],[]⟩],ap2 iz⟩
theorem xR:Lk 5 rn:=ls yB (aC mI (aC lq (aC ux aN)))
def dg:T1i->Option (T1i⊕((List (LLCn×LDTs))×(List (Bool))×Int×Int×Int×Bool×T09)):=λ(v0,v1,v2,v3,v4,v5)=>
let x0:=bJ v0.length;
bif(decide (v4<x0))then(let x1:Int:=(bJ v1.length);
let x2:=bJ v0.length;
bif(x1==x2)then(((cj v4).bind λx3=>
(bV v1 x3).bind λx4=>
bif x4 then(bif(decide (v3<0))then(some (v0,v1,v2,v4,v4,v5))else
some (v0,v1,v2,v3,v4,v5))else
some (v0,v1,v2,v3,v4,v5):Option (T1i)).bind λ(x3,x4,x5,x6,x7,x8)=>
let ac:=w64 (x7+1);
some (.inl (x3,x4,x5,x6,ac,x8)))else
some (.inr (v0,v1,v2,v3,v4,false,v5)))else
some (.inr (v0,v1,v2,v3,v4,false,v5))
def fU:T29->Option (T29⊕((List (LLCn×LDTs))×(List (Bool))×Int×LI×T20)):=λ(v0,v1,v2,v3,v4,v5,v6,v7,v8,v9,v10,v11,v12,_)=>
let x0:=bJ v5.length;
bif(decide (v6<x0))then((cj v6).bind λx1=>
(bV v5 x1).bind λx2=>
(cj x2).bind λx3=>
(bV v11 x3).bind λx4=>
(bV v11 x3).bind λx5=>
let x6:=List.modify v11 x3 λe=>true;
let x7:=w64 (v6+1);
some (.inl (v0,v1,v2,v3,v4,v5,x7,v7,v8,v9,v10,x6,v12,())))else
some (.inr (v0,v1,v2,v3,v4,v5,v6,false,v7,v8,v9,v10,v11,v12,()))
def cM:T23->Option (T23⊕((Int×Unit×T09)⊕((List (LLCn×LDTs))×(List (Bool))×T20))):=λ(v0,v1,v2,v3,v4,v5,v6,v7,v8,v9,v10,_)=>
let x0:=bJ v8.length;
bif(decide (v4<x0))then((cj v4).bind λx1=>
(bV v8 x1).bind λx2=>
(bV v8 x1).bind λx3=>
(iw v0 v1 x3.1 x3.2 v2).bind λ(x4,x5,x6,x7,x8,x9,ac,ae,af,ah,aj,ak,am,_)=>
bif(am != 0)then(some (.inr (.inl (am,(),(),(),()))))else
let an:List (Int×Int×LDCn×Int×Int×Int×Int×Int×Int×Int×LDCn):=[(x4,(x5,(x6,(x7,(x8,(x9,(ac,(ae,(af,(ah,aj))))))))))];
bif(b8 120 v10.length an.length)then let ap:List (Int×Int×LDCn×Int×Int×Int×Int×Int×Int×Int×LDCn):=(List.append v10 an);
(bM fU NN (v0,v1,v2,v3,v4,ak,0,v5,v6,v7,v8,v9,ap,())).bind λ(aq,au,av,aw,ax,ay,az,aA,aB)=>
let aI:=w64 (ax+1);
some (.inl (aq,au,av,aw,aI,aB))else none)else
some (.inr (.inr (v0,v1,v2,v3,v4,false,v5,v6,v7,v8,v9,v10,())))
def fT:T1d->Option (T1d⊕(Int×Bool×T10)):=λ(v0,v1,v2,v3,v4,v5,v6,_)=>
let x0:=bJ v3.length;
bif(decide (v0<x0))then(((cj v0).bind λx1=>
(bV v3 x1).bind λx2=>
(bV v3 x1).bind λx3=>
bif x3 then(bif(b8 8 v6.length (List.length [v0]))then let x4:List (Int):=(List.append v6 [v0]);
some (v0,v1,v2,v3,v4,v5,x4,())else none)else
some (v0,v1,v2,v3,v4,v5,v6,()):Option (T1d)).bind λ(x1,x2,x3,x4,x5)=>
let x8:=w64 (x1+1);
some (.inl (x8,x2,x3,x4,x5)))else
some (.inr (v0,false,v1,v2,v3,v4,v5,v6,()))
def jY(a0:List (LLCn×LDTs))(a1:List (Bool))(a2:Int):Option (T0z):=
(bM dg NN (a0,a1,a2,(-1),0,(),(),())).bind λ(x0,x1,x2,x3,x4,x5,x6,x7,_)=>
bif(decide (x3<0))then(some ([],[],[],1,()))else
(cj x3).bind λx8=>
(bV x0 x8).bind λx9=>
(dV x9.1 x9.2).bind λ(ac,_)=>
(cj x3).bind λae=>
(bV x0 ae).bind λaf=>
let ah:=bJ af.2.length;
(eI ac ah).bind λ(aj,ak,_)=>
bif(ak != 0)then(some ([],[],[],ak,()))else
let am:=bJ x0.length;
(cj am).bind λan=>
(cj am).bind λap=>
bif(gl an ap 1)then let aq:List (Bool):=(List.replicate an false);
(match bM cM NN (x0,x1,x2,ac,0,x6,x7,ac,aj,aq,[],())with
|none=>none
|some (.inl (au,av,aw,ax,_))=>
some ([],[],[],au,())
|some (.inr (au,av,aw,ax,ay,az,aA,aB,aD,aE,aF,aG,_))=>
(iz ax aG).bind λ(aH,aI,aJ,_)=>
bif(aJ != 0)then(some ([],[],[],aJ,()))else
(bM fT NN (0,aA,aB,aF,aH,aI,[],())).bind λ(aK,aL,aM,aO,aP,aQ,aR,aS,_)=>
some (aQ,aR,aS,0,()))else none
def yo:X.Cfg:=⟨E0,[gA,jy,mP,rn],[(96,(.pair I64 (.pair I64 (.pair (uaa KCn) jG)))),(97,(.pair I64 (.pair I64 (.pair (uaa KCn) jG))))],[⟨7,0,qE,[(.normal,qS [sP 0 (yaa (.pair (yaa b7) (yaa ct))),sP 1 (yaa .bool),Uaa 2,zaa 6,Uaa 9,Uaa 10] [(14,yab)])]⟩,(lx 4 1 [sP 0 (yaa (.pair (yaa b7) (yaa ct))),sP 1 (yaa .bool),Uaa 2,zaa 6,Uaa 9,Uaa 10] [(14,yab)] 34),⟨31,2,(qS [sP 0 (yaa (.pair (yaa b7) (yaa ct))),sP 1 (yaa .bool),Uaa 2,zaa 6,sP 11 RI,Zaa 12 27,Zaa 14 31,Zaa 15 33,Uaa 16,sP 18 RI,Uaa 20] [(14,yab),(25,Zad),(27,zab),(31,Uae),(33,[shU (uaa (.pair I64 (.pair I64 (.pair b7 ct))))])]),[(.exit 4,(qS [sP 0 (yaa (.pair (yaa b7) (yaa ct))),sP 1 (yaa .bool),Uaa 2,zaa 6,sP 11 RI,Zaa 12 27,Zaa 14 31,Zaa 15 33,Uaa 16,sP 18 RI,Uaa 20,Xaa 101] [(14,yab),(25,Zad),(27,zab),(31,Uae),(33,[shU (uaa (.pair I64 (.pair I64 (.pair b7 ct))))])]))]⟩,⟨21,3,(qS [sP 0 (yaa (.pair (yaa b7) (yaa ct))),sP 1 (yaa .bool),Uaa 2,zaa 6,sP 11 RI,Zaa 12 27,Zaa 14 31,Zaa 15 33,Uaa 16] [(14,yab),(25,Zad),(27,zab),(31,Uae),(33,[shU (uaa (.pair I64 (.pair I64 (.pair b7 ct))))])]),[(.ret,(qS [zaa 6,Zaa 7 17,Uaa 8] [(14,yab),(17,uL [N1])])),(.exit 2,(qS [sP 0 (yaa (.pair (yaa b7) (yaa ct))),sP 1 (yaa .bool),Uaa 2,zaa 6,sP 11 RI,Zaa 12 27,Zaa 14 31,Zaa 15 33,Uaa 16,Xaa 75] [(14,yab),(25,Zad),(27,zab),(31,Uae),(33,[shU (uaa (.pair I64 (.pair I64 (.pair b7 ct))))])]))]⟩,⟨45,4,qE,[(.normal,qS [zaa 6,Zaa 14 31,zaa 21,Zaa 22 47,Uaa 23] [(14,yab),(31,Uae),(44,Zab),(47,Uac)])]⟩,⟨42,5,qS [zaa 6,Zaa 14 31,zaa 21,Zaa 22 47,Uaa 23] [(14,yab),(31,Uae),(44,Zab),(47,Uac)],[(.exit 6,qS [zaa 6,Zaa 14 31,zaa 21,Zaa 22 47,Uaa 23,Xaa 123] [(14,yab),(31,Uae),(44,Zab),(47,Uac)])]⟩]⟩
def rg:Ctr:=⟨40,73,Xah,[],[⟨uL [(uaa (uaa KCn)),(uaa jG),(uaa I64),I64],[.agg 2,.one,.one],[]⟩],ap3 jY⟩
theorem xK:Lk 6 rg:=ls yo (aC iI (aC lq (aC qH (aC xR aN))))
def dS:LDCn×LDCn×Int×Unit->Option ((LDCn×LDCn×Int×Unit)⊕((Bool×Unit)⊕(LDCn×LDCn×T01))):=λ(v0,v1,v2,_)=>
let x0:=bJ v0.length;
bif(decide (v2<x0))then((cj v2).bind λx1=>
(bV v0 x1).bind λx2=>
(cj v2).bind λx3=>
(bV v1 x3).bind λx4=>
let x5:Bool:=(!((x2.1==x4.1)&&((x2.2.1==x4.2.1)&&((x2.2.2.1==x4.2.2.1)&&((x2.2.2.2==x4.2.2.2)&&true)))));
bif x5 then(some (.inr (.inl (false,()))))else
let x6:=w64 (v2+1);
some (.inl (v0,v1,x6,())))else
some (.inr (.inr (v0,v1,v2,false,())))
def d5(a0:LDCn)(a1:LDCn):Option (Bool×Unit):=
let x0:=bJ a0.length;
let x1:=bJ a1.length;
bif(x0 != x1)then(some (false,()))else
(match bM dS NN (a0,a1,0,())with
|none=>none
|some (.inl (x2,_))=>
some (x2,())
|some (.inr (x2,_))=>
some (true,()))
def r7:X.Cfg:=⟨E0,[],[],[⟨6,0,qS [sP 0 b7,sP 1 b7,Uaa 5] [],[(.ret,qS [Xaa 4] []),(.exit 0,qS [sP 0 b7,sP 1 b7,Uaa 5,Xaa 14] [])]⟩]⟩
def gB:Ctr:=⟨50,74,uL [b7,b7],[],[⟨Uab,[.one],[]⟩],ap2 d5⟩
theorem i5:Lk 1 gB:=ls r7 aN
def fX(a0:Int)(a1:Int)(a2:Int)(a3:Int)(a4:Int)(a5:Int)(a6:Int)(a7:LDCn)(a8:Int)(a9:Int)(a10:Int)(a11:Int)(a12:Int)(a13:Int)(a14:Int)(a15:LDCn):Option (Bool×Unit):=
bif(a0==a8)then(bif(a1==a9)then(bif(a2==a10)then(bif(a3==a11)then(bif(a4==a12)then(bif(a5==a13)then(bif(a6==a14)then((d5 a7 a15).bind λ(x0,_)=>
some (x0,()))else
some (false,()))else
some (false,()))else
some (false,()))else
some (false,()))else
some (false,()))else
some (false,()))else
some (false,())
def tp:X.Cfg:=⟨E0,[gB],[],[]⟩
def jP:Ctr:=⟨51,75,[.agg Xad,.agg Xad],[],[⟨Uab,[.one],[]⟩],ap16 fX⟩
theorem ne:Lk 2 jP:=ls tp (aC i5 aN)
def fO(a0:Int)(a1:Int)(a2:LDCn)(a3:Int)(a4:Int)(a5:Int)(a6:Int)(a7:Int)(a8:Int)(a9:Int)(a10:LDCn)(a11:Int)(a12:Int)(a13:LDCn)(a14:Int)(a15:Int)(a16:Int)(a17:Int)(a18:Int)(a19:Int)(a20:Int)(a21:LDCn):Option (Bool×Unit):=
bif((a0==a11)&&((a1==a12)&&true))then((d5 a2 a13).bind λ(x0,_)=>
bif x0 then((fX a3 a4 a5 a6 a7 a8 a9 a10 a14 a15 a16 a17 a18 a19 a20 a21).bind λ(x1,_)=>
some (x1,()))else
some (false,()))else
some (false,())
def yz:X.Cfg:=⟨E0,[gB,jP],[],[]⟩
def mQ:Ctr:=⟨41,76,[.agg uad,.agg uad],[],[⟨Uab,[.one],[]⟩],ap22 fO⟩
theorem qI:Lk 3 mQ:=ls yz (aC i5 (aC ne aN))
def d7:T0m->Option (T0m⊕((Bool×Unit)⊕(LI×LI×T01))):=λ(v0,v1,v2,_)=>
let x0:=bJ v0.length;
bif(decide (v2<x0))then((cj v2).bind λx1=>
(bV v0 x1).bind λx2=>
(cj v2).bind λx3=>
(bV v1 x3).bind λx4=>
bif(x2 != x4)then(some (.inr (.inl (false,()))))else
let x5:=w64 (v2+1);
some (.inl (v0,v1,x5,())))else
some (.inr (.inr (v0,v1,v2,false,())))
def fW(a0:List (Int))(a1:List (Int)):Option (Bool×Unit):=
let x0:=bJ a0.length;
let x1:=bJ a1.length;
bif(x0 != x1)then(some (false,()))else
(match bM d7 NN (a0,a1,0,())with
|none=>none
|some (.inl (x2,_))=>
some (x2,())
|some (.inr (x2,_))=>
some (true,()))
def tj:X.Cfg:=⟨E0,[],[],[⟨6,0,qS [sP 0 RI,sP 1 RI,Uaa 5] [],[(.ret,qS [Xaa 4] []),(.exit 0,qS [sP 0 RI,sP 1 RI,Uaa 5,Xaa 14] [])]⟩]⟩
def ni:Ctr:=⟨27,77,uL [RI,RI],[],[⟨Uab,[.one],[]⟩],ap2 fW⟩
theorem s7:Lk 1 ni:=ls tj aN
def gq:T0K->Option (T0K⊕((Bool×Unit)⊕(Int×T0E))):=λ(v0,v1,v2,v3,v4,_)=>
let x0:=bJ v1.length;
bif(decide (v0<x0))then((cj v0).bind λx1=>
(bV v1 x1).bind λx2=>
(cj v0).bind λx3=>
(bV v3 x3).bind λx4=>
(d5 x2 x4).bind λ(x5,_)=>
bif(!x5)then(some (.inr (.inl (false,()))))else
let x6:=w64 (v0+1);
some (.inl (x6,v1,v2,v3,v4,())))else
some (.inr (.inr (v0,false,v1,v2,v3,v4,())))
def gp:T0K->Option (T0K⊕((Bool×Unit)⊕(Int×T0E))):=λ(v0,v1,v2,v3,v4,_)=>
let x0:=bJ v2.length;
bif(decide (v0<x0))then((cj v0).bind λx1=>
(bV v2 x1).bind λx2=>
(cj v0).bind λx3=>
(bV v4 x3).bind λx4=>
(fX x2.1 x2.2.1 x2.2.2.1 x2.2.2.2.1 x2.2.2.2.2.1 x2.2.2.2.2.2.1 x2.2.2.2.2.2.2.1 x2.2.2.2.2.2.2.2 x4.1 x4.2.1 x4.2.2.1 x4.2.2.2.1 x4.2.2.2.2.1 x4.2.2.2.2.2.1 x4.2.2.2.2.2.2.1 x4.2.2.2.2.2.2.2).bind λ(x5,_)=>
bif(!x5)then(some (.inr (.inl (false,()))))else
let x6:=w64 (v0+1);
some (.inl (x6,v1,v2,v3,v4,())))else
some (.inr (.inr (v0,false,v1,v2,v3,v4,())))
def jn(a0:List LDCn)(a1:LDTs)(a2:List LDCn)(a3:LDTs):Option (Bool×Unit):=
let x0:=bJ a0.length;
let x1:=bJ a2.length;
bif(x0 != x1)then(some (false,()))else
let x2:=bJ a1.length;
let x3:=bJ a3.length;
bif(x2 != x3)then(some (false,()))else
(match bM gq NN (0,a0,a1,a2,a3,())with
|none=>none
|some (.inl (x4,_))=>
some (x4,())
|some (.inr (x4,x5,x6))=>
(match bM gp NN (0,x6)with
|none=>none
|some (.inl (ac,_))=>
some (ac,())
|some (.inr (ac,_))=>
some (true,())))
def Ax:X.Cfg:=⟨E0,[gB,jP],[],[⟨6,0,qS [zaa 2,zaa 3,Uaa 5] [(6,uab),(8,uab)],[(.ret,qS [Xaa 4] []),(.exit 0,qS [zaa 2,zaa 3,Uaa 5,Xaa 27] [(6,uab),(8,uab)])]⟩,⟨14,1,qS [zaa 2,zaa 3,Uaa 6] [(6,uab),(8,uab)],[(.ret,qS [Xaa 4] []),(.exit 2,qS [zaa 2,zaa 3,Uaa 6,Xaa 46] [(6,uab),(8,uab)])]⟩]⟩
def ox:Ctr:=⟨22,78,[.agg uab,.agg uab],[],[⟨Uab,[.one],[]⟩],ap4 jn⟩
theorem sB:Lk 3 ox:=ls Ax (aC i5 (aC ne aN))
def j7(a0:List (LLCn×LDTs))(a1:List (Bool))(a2:Int)(a3:Int)(a4:Int):Option (Bool×Unit):=
(gK a0 a1 a2 a3 a4).bind λ(x0,x1,x2,x3,x4,x5,x6,x7,x8,x9,ac,ae,af,_)=>
(iw a0 a1 a2 a3 a4).bind λ(ah,aj,ak,am,an,ap,aq,au,av,aw,ax,ay,az,_)=>
(i7 a0 a1 a4).bind λ(aA,aB,aD,aE,_)=>
(jY a0 a1 a4).bind λ(aF,aG,aH,aI,_)=>
bif(af==az)then(bif(aE==aI)then((fO x0 x1 x2 x3 x4 x5 x6 x7 x8 x9 ac ah aj ak am an ap aq au av aw ax).bind λ(aJ,_)=>
bif aJ then((fW ae ay).bind λ(aK,_)=>
bif aK then((jn aA aB aF aG).bind λ(aL,_)=>
bif aL then((fW aD aH).bind λ(aM,_)=>
some (aM,()))else
some (false,()))else
some (false,()))else
some (false,()))else
some (false,()))else
some (false,())
def yJ:X.Cfg:=⟨E0,[lT,mP,pd,rg,mQ,ni,ox],[],[]⟩
def rx:Ctr:=⟨11,79,[shU (yaa (.pair (yaa b7) (yaa ct))),shU (yaa .bool),.agg uac,shU I64],[],[⟨Uab,[.one],[]⟩],ap5 j7⟩
theorem xY:Lk 10 rx:=ls yJ (aC o7 (aC qH (aC vF (aC xK (aC qI (aC s7 (aC sB aN)))))))
def gL(a0:List LDCn)(a1:LDTs):Option (Bool×Unit):=
(ga a0 a1).bind λ(x0,_)=>
some (x0,())
def wa:X.Cfg:=⟨E0,[jg],[],[]⟩
def pm:Ctr:=⟨28,80,[.agg uab],[],[⟨Uab,[.one],[]⟩],ap2 gL⟩
theorem vK:Lk 6 pm:=ls wa (aC lP aN)
def eW:T1L->Option (T1L⊕(Int×T1K)):=λ(v0,v1,v2,v3,v4,v5,_)=>
bif(decide (v1<v0))then((cj v1).bind λx0=>
(bV v4 x0).bind λx1=>
(bV v4 x0).bind λx2=>
(iX v2 v3 x2.1 x2.2).bind λ(x3,x4,x5,x6,x7,x8,x9,ac,ae,af,ah,_)=>
let aj:List (Int×Int×LDCn×Int×Int×Int×Int×Int×Int×Int×LDCn):=[(x3,(x4,(x5,(x6,(x7,(x8,(x9,(ac,(ae,(af,ah))))))))))];
bif(b8 120 v5.length aj.length)then let ak:List (Int×Int×LDCn×Int×Int×Int×Int×Int×Int×Int×LDCn):=(List.append v5 aj);
let am:=w64 (v1+1);
some (.inl (v0,am,v2,v3,v4,ak,()))else none)else
some (.inr (v0,v1,false,v2,v3,v4,v5,()))
def g6(a0:List LDCn)(a1:LDTs):Option (T1y):=
(ga a0 a1).bind λ(x0,_)=>
bif(!x0)then(some ([],1,()))else
(eM a0 a1).bind λ(x1,_)=>
let x2:=bJ a1.length;
(dD x1 x2).bind λ(x3,x4,_)=>
let x5:=bJ x3.length;
(bM eW NN (x5,0,a0,a1,x3,[],())).bind λ(x6,x7,x8,x9,ac,ae,af,_)=>
some (af,0,())
def Co:X.Cfg:=⟨E0,[jg,iN,jA,pW],[(31,(.pair I64 (.pair I64 (.pair (uaa KCn) jG)))),(32,(.pair I64 (.pair I64 (.pair (uaa KCn) jG))))],[(lx 8 0 [zaa 1,Zaa 6 15,Zaa 21 11,Uaa 22,Uaa 23] [(4,uab),(11,zab),(15,[shU (uaa (.pair I64 (.pair I64 (.pair b7 ct))))])] 24)]⟩
def vj:Ctr:=⟨61,81,[.agg uab],[],[⟨[shU (uaa (.pair I64 (.pair I64 (.pair b7 ct)))),shU I64],[.one,.one],[]⟩],ap2 g6⟩
theorem B8:Lk 6 vj:=ls Co (aC lP (aC ke (aC lw (aC uy aN))))
def dw:LI×T0l->Option ((LI×T0l)⊕((Bool×Unit)⊕(LI×T0x))):=λ(v0,v1,v2,v3,_)=>
bif(decide (v3<v2))then((cj v3).bind λx0=>
(bV v0 x0).bind λx1=>
(cj v3).bind λx2=>
(bV v1 x2).bind λx3=>
bif(x1 != x3)then(some (.inr (.inl (false,()))))else
let x4:=w64 (v3+1);
some (.inl (v0,v1,v2,x4,())))else
some (.inr (.inr (v0,v1,v2,v3,false,())))
def gi(a0:List (Int))(a1:List (Int)):Option (Bool×Unit):=
let x0:=bJ a0.length;
let x1:=bJ a1.length;
bif(x0 != x1)then(some (false,()))else
let x2:=bJ a0.length;
(match bM dw NN (a0,a1,x2,0,())with
|none=>none
|some (.inl (x3,_))=>
some (x3,())
|some (.inr (x3,_))=>
some (true,()))
def qP:X.Cfg:=⟨E0,[],[],[⟨6,0,qS [sP 0 RI,sP 1 RI,Uaa 12,Uaa 13] [],[(.ret,qS [Xaa 4] []),(.exit 0,qS [sP 0 RI,sP 1 RI,Uaa 12,Uaa 13,Xaa 14] [])]⟩]⟩
def lD:Ctr:=⟨62,82,uL [RI,RI],[],[⟨Uab,[.one],[]⟩],ap2 gi⟩
theorem qG:Lk 1 lD:=ls qP aN
def cU:LDCn×LDCn×T02->Option ((LDCn×LDCn×T02)⊕((Bool×Unit)⊕(LDCn×LDCn×T0d))):=λ(v0,v1,v2,v3,_)=>
bif(decide (v3<v2))then((cj v3).bind λx0=>
(bV v0 x0).bind λx1=>
(cj v3).bind λx2=>
(bV v1 x2).bind λx3=>
let x4:Bool:=(!((x1.1==x3.1)&&((x1.2.1==x3.2.1)&&((x1.2.2.1==x3.2.2.1)&&((x1.2.2.2==x3.2.2.2)&&true)))));
bif x4 then(some (.inr (.inl (false,()))))else
let x5:=w64 (v3+1);
some (.inl (v0,v1,v2,x5,())))else
some (.inr (.inr (v0,v1,v2,v3,false,())))
def dR(a0:LDCn)(a1:LDCn):Option (Bool×Unit):=
let x0:=bJ a0.length;
let x1:=bJ a1.length;
bif(x0 != x1)then(some (false,()))else
let x2:=bJ a0.length;
(match bM cU NN (a0,a1,x2,0,())with
|none=>none
|some (.inl (x3,_))=>
some (x3,())
|some (.inr (x3,_))=>
some (true,()))
def o4:X.Cfg:=⟨E0,[],[],[⟨6,0,qS [sP 0 b7,sP 1 b7,Uaa 12,Uaa 13] [],[(.ret,qS [Xaa 4] []),(.exit 0,qS [sP 0 b7,sP 1 b7,Uaa 12,Uaa 13,Xaa 14] [])]⟩]⟩
def jU:Ctr:=⟨96,83,uL [b7,b7],[],[⟨Uab,[.one],[]⟩],ap2 dR⟩
theorem oY:Lk 1 jU:=ls o4 aN
def j5(a0:Int)(a1:Int)(a2:LDCn)(a3:Int)(a4:Int)(a5:Int)(a6:Int)(a7:Int)(a8:Int)(a9:Int)(a10:LDCn)(a11:Int)(a12:Int)(a13:LDCn)(a14:Int)(a15:Int)(a16:Int)(a17:Int)(a18:Int)(a19:Int)(a20:Int)(a21:LDCn):Option (Bool×Unit):=
bif((a0==a11)&&((a1==a12)&&true))then((dR a2 a13).bind λ(x0,_)=>
bif x0 then(bif(a3==a14)then(bif(a4==a15)then(bif(a5==a16)then(bif(a6==a17)then(bif(a7==a18)then(bif(a8==a19)then(bif(a9==a20)then((dR a10 a21).bind λ(x1,_)=>
some (x1,()))else
some (false,()))else
some (false,()))else
some (false,()))else
some (false,()))else
some (false,()))else
some (false,()))else
some (false,()))else
some (false,()))else
some (false,())
def yG:X.Cfg:=⟨E0,[jU],[],[]⟩
def rq:Ctr:=⟨63,84,[.agg uad,.agg uad],[],[⟨Uab,[.one],[]⟩],ap22 j5⟩
theorem xU:Lk 2 rq:=ls yG (aC oY aN)
def c8:T2c->Option (T2c⊕(Int×T2b)):=λ(v0,v1,v2,v3,v4,_)=>
bif(decide (v1<v0))then(((cj v1).bind λx0=>
(bV v2 x0).bind λx1=>
(bV v2 x0).bind λx2=>
(cj v1).bind λx3=>
(bV v3 x3).bind λx4=>
(bV v3 x3).bind λx5=>
(j5 x2.1 x2.2.1 x2.2.2.1 x2.2.2.2.1 x2.2.2.2.2.1 x2.2.2.2.2.2.1 x2.2.2.2.2.2.2.1 x2.2.2.2.2.2.2.2.1 x2.2.2.2.2.2.2.2.2.1 x2.2.2.2.2.2.2.2.2.2.1 x2.2.2.2.2.2.2.2.2.2.2 x5.1 x5.2.1 x5.2.2.1 x5.2.2.2.1 x5.2.2.2.2.1 x5.2.2.2.2.2.1 x5.2.2.2.2.2.2.1 x5.2.2.2.2.2.2.2.1 x5.2.2.2.2.2.2.2.2.1 x5.2.2.2.2.2.2.2.2.2.1 x5.2.2.2.2.2.2.2.2.2.2).bind λ(x6,_)=>
bif(!x6)then((cj v1).bind λx7=>
(bV v2 x7).bind λx8=>
(bV v2 x7).bind λx9=>
let ac:LDCe:=[(x9.1,x9.2.1)];
bif(b8 16 v4.length ac.length)then let ae:LDCe:=(List.append v4 ac);
some (v0,v1,v2,v3,ae,())else none)else
some (v0,v1,v2,v3,v4,()):Option (T2c)).bind λ(x0,x1,x2,x3,x4,_)=>
let x5:=w64 (x1+1);
some (.inl (x0,x5,x2,x3,x4,())))else
some (.inr (v0,v1,false,v2,v3,v4,()))
def dF(a0:List LDCn)(a1:LDTs)(a2:List LDCn)(a3:LDTs):Option (T05):=
(g6 a0 a1).bind λ(x0,x1,_)=>
(g6 a2 a3).bind λ(x2,x3,_)=>
(bif(x1 != 0)then(some (true,x0,x2,()))else
bif(x3 != 0)then(some (true,x0,x2,()))else
(eM a0 a1).bind λ(x4,_)=>
(eM a2 a3).bind λ(x5,_)=>
(gi x4 x5).bind λ(x6,_)=>
bif(!x6)then(some (true,x0,x2,()))else
let x7:=bJ a1.length;
let x8:=bJ a3.length;
some ((x7 != x8),x0,x2,()):Option (Bool×(List (Int×Int×LDCn×Int×Int×Int×Int×Int×Int×Int×LDCn))×(List (Int×Int×LDCn×Int×Int×Int×Int×Int×Int×Int×LDCn))×Unit)).bind λ(x4,x5,x6,_)=>
bif x4 then(some ([],1,()))else
let x7:=bJ x5.length;
(bM c8 NN (x7,0,x5,x6,[],())).bind λ(x8,x9,ac,ae,af,ah,_)=>
some (ah,0,())
def uI:X.Cfg:=⟨E0,[vj,iN,lD,rq],[],[⟨4,0,qE,[(.normal,(qS [Zaa 6 15,Zaa 8 19,Xaa 44] [(15,[shU (uaa (.pair I64 (.pair I64 (.pair b7 ct))))]),(19,[shU (uaa (.pair I64 (.pair I64 (.pair b7 ct))))])]))]⟩,⟨12,1,qE,[(.normal,(qS [Zaa 6 15,Zaa 8 19,Zaa 10 23,Uaa 46,Uaa 47] [(15,[shU (uaa (.pair I64 (.pair I64 (.pair b7 ct))))]),(19,[shU (uaa (.pair I64 (.pair I64 (.pair b7 ct))))]),(23,zab)]))]⟩,(lx 9 2 [Zaa 6 15,Zaa 8 19,Zaa 10 23,Uaa 46,Uaa 47] [(15,[shU (uaa (.pair I64 (.pair I64 (.pair b7 ct))))]),(19,[shU (uaa (.pair I64 (.pair I64 (.pair b7 ct))))]),(23,zab)] 48)]⟩
def kT:Ctr:=⟨29,85,[.agg uab,.agg uab],[],[⟨Xaf,[.one,.one],[]⟩],ap4 dF⟩
theorem n8:Lk 7 kT:=ls uI (aC B8 (aC ke (aC qG (aC xU aN))))
def dX:T1D->Option (T1D⊕(Int×Int×Int×Int×Bool×T1p)):=λ(v0,v1,v2,v3,v4,v5,v6,v7,v8,v9,v10,v11,v12,_)=>
bif(decide (v3<v2))then((cj v3).bind λx0=>
(bV v12 x0).bind λx1=>
(bV v12 x0).bind λx2=>
(cj x2).bind λx3=>
(cj x2).bind λx4=>
bif(gl x3 x4 4)then let x5:LDCn:=(List.replicate x3 (0,(0,(0,0))));
bif(b8 24 v10.length (List.length [x5]))then let x6:List LDCn:=(List.append v10 [x5]);
let x7:=w64 (v3+1);
some (.inl (v0,v1,v2,x7,v4,v5,v6,v7,v8,v9,x6,v11,v12,()))else none else none)else
some (.inr (v0,v1,v2,v3,false,v4,v5,v6,v7,v8,v9,v10,v11,v12,()))
def cT(a0:List LDCn)(a1:LDTs)(a2:List LDCn)(a3:LDTs)(a4:Int)(a5:Int):Option (T17⊕T17):=
(gL a2 a3).bind λ(x0,_)=>
bif(!x0)then(some (.inl (0,0,[],[],[],0,1,())))else
(dF a0 a1 a2 a3).bind λ(x1,x2,_)=>
bif(x2==0)then((eX a0 a1).bind λ(x3,x4,_)=>
some (.inl (a4,a5,x3,x4,x1,0,0,())))else
let x3:=bJ a3.length;
(cj x3).bind λx4=>
(cj x3).bind λx5=>
bif(gl x4 x5 8)then let x6:LDTs:=(List.replicate x4 (0,(0,(0,(0,(0,(0,(0,[]))))))));
(eM a2 a3).bind λ(x7,_)=>
let x8:=bJ x7.length;
(bM dX NN (a4,a5,x8,0,0,0,(),(),(),0,[],x6,x7,())).bind λ(x9,ac,ae,af,ah,aj,ak,am,an,ap,aq,au,av,aw,_)=>
let ax:=bJ av.length;
(dD aw ax).bind λ(ay,az,_)=>
some (.inr (x9,ac,au,av,ay,0,0,()))else none
def vP:X.Cfg:=⟨E0,[pm,kT,jh,iN,jA],[(39,jG),(53,(uaa KCn)),(54,(uaa KCn))],[(lx 12 0 [Uaa 2,Uaa 3,zaa 8,zaa 12,Zaa 13 29,Zaa 43 29,Uaa 44,Uaa 45] [(18,Xae),(26,Zab),(29,Uac)] 46)]⟩
def pe:Ctr:=⟨8,86,[.agg uab,.agg uab,shU I64,shU I64],[],[⟨uL [I64,I64,(uaa (uaa KCn)),(uaa ct),(uaa (.pair I64 I64)),I64,I64],[.agg 6,.one],[]⟩,⟨uai,[.agg 6,.one],[]⟩],ap6 cT⟩
theorem vG:Lk 8 pe:=ls vP (aC vK (aC n8 (aC lQ (aC ke (aC lw aN)))))
def d8:T0m->Option (T0m⊕((Bool×Unit)⊕(LI×LI×T01))):=λ(v0,v1,v2,_)=>
let x0:=bJ v0.length;
bif(decide (v2<x0))then((cj v2).bind λx1=>
(bV v0 x1).bind λx2=>
(cj v2).bind λx3=>
(bV v1 x3).bind λx4=>
bif(x2 != x4)then(some (.inr (.inl (false,()))))else
let x5:=w64 (v2+1);
some (.inl (v0,v1,x5,())))else
some (.inr (.inr (v0,v1,v2,false,())))
def gX(a0:List (Int))(a1:List (Int)):Option (Bool×Unit):=
let x0:=bJ a0.length;
let x1:=bJ a1.length;
bif(x0 != x1)then(some (false,()))else
(match bM d8 NN (a0,a1,0,())with
|none=>none
|some (.inl (x2,_))=>
some (x2,())
|some (.inr (x2,_))=>
some (true,()))
def tk:X.Cfg:=⟨E0,[],[],[⟨6,0,qS [sP 0 RI,sP 1 RI,Uaa 5] [],[(.ret,qS [Xaa 4] []),(.exit 0,qS [sP 0 RI,sP 1 RI,Uaa 5,Xaa 14] [])]⟩]⟩
def nj:Ctr:=⟨72,87,uL [RI,RI],[],[⟨Uab,[.one],[]⟩],ap2 gX⟩
theorem s8:Lk 1 nj:=ls tk aN
def eV:T1J->Option (T1J⊕T1K):=λ(v0,v1,v2,v3,v4,_)=>
let x0:=bJ v3.length;
bif(decide (v0<x0))then((cj v0).bind λx1=>
(bV v3 x1).bind λx2=>
(bV v3 x1).bind λx3=>
(dM v1 v2 x3.1 x3.2).bind λ(x4,x5,x6,x7,x8,x9,ac,ae,af,ah,aj,ak,_)=>
let am:List (Int×Int×LDCn×Int×Int×Int×Int×Int×Int×Int×LDCn):=[(x4,(x5,(x6,(x7,(x8,(x9,(ac,(ae,(af,(ah,aj))))))))))];
bif(b8 120 v4.length am.length)then let an:List (Int×Int×LDCn×Int×Int×Int×Int×Int×Int×Int×LDCn):=(List.append v4 am);
let ap:=w64 (v0+1);
some (.inl (ap,v1,v2,v3,an,()))else none)else
some (.inr (v0,false,v1,v2,v3,v4,()))
def kB(a0:List LDCn)(a1:LDTs):Option (T1y):=
(dV a0 a1).bind λ(x0,_)=>
let x1:=bJ a1.length;
(eI x0 x1).bind λ(x2,x3,_)=>
bif(x3 != 0)then(some ([],1,()))else
(bM eV NN (0,a0,a1,x2,[],())).bind λ(x4,x5,x6,x7,x8,x9,_)=>
some (x9,0,())
def Cj:X.Cfg:=⟨E0,[gA,jy,kR],[(38,(.pair I64 (.pair I64 (.pair (uaa KCn) jG)))),(39,(.pair I64 (.pair I64 (.pair (uaa KCn) jG))))],[(lx 8 0 [zaa 1,Zaa 4 11,Zaa 6 15,Uaa 7] [(4,uab),(11,zab),(15,[shU (uaa (.pair I64 (.pair I64 (.pair (uaa KCn) ct))))])] 24)]⟩
def vh:Ctr:=⟨73,88,[.agg uab],[],[⟨[shU (uaa (.pair I64 (.pair I64 (.pair (uaa KCn) ct)))),shU I64],[.one,.one],[]⟩],ap2 kB⟩
theorem B6:Lk 4 vh:=ls Cj (aC iI (aC lq (aC mJ aN)))
def cY:T2a->Option (T2a⊕T2b):=λ(v0,v1,v2,v3,_)=>
let x0:=bJ v1.length;
bif(decide (v0<x0))then(((cj v0).bind λx1=>
(bV v1 x1).bind λx2=>
(bV v1 x1).bind λx3=>
(cj v0).bind λx4=>
(bV v2 x4).bind λx5=>
(bV v2 x4).bind λx6=>
(bV v1 x1).bind λx7=>
(bV v2 x4).bind λx8=>
(fO x3.1 x3.2.1 x7.2.2.1 x3.2.2.2.1 x3.2.2.2.2.1 x3.2.2.2.2.2.1 x3.2.2.2.2.2.2.1 x3.2.2.2.2.2.2.2.1 x3.2.2.2.2.2.2.2.2.1 x3.2.2.2.2.2.2.2.2.2.1 x3.2.2.2.2.2.2.2.2.2.2 x6.1 x6.2.1 x8.2.2.1 x6.2.2.2.1 x6.2.2.2.2.1 x6.2.2.2.2.2.1 x6.2.2.2.2.2.2.1 x6.2.2.2.2.2.2.2.1 x6.2.2.2.2.2.2.2.2.1 x6.2.2.2.2.2.2.2.2.2.1 x6.2.2.2.2.2.2.2.2.2.2).bind λ(x9,_)=>
bif(!x9)then((cj v0).bind λac=>
(bV v1 ac).bind λae=>
(bV v1 ac).bind λaf=>
let ah:LDCe:=[(af.1,af.2.1)];
bif(b8 16 v3.length ah.length)then let aj:LDCe:=(List.append v3 ah);
some (v0,v1,v2,aj,())else none)else
some (v0,v1,v2,v3,()):Option (T2a)).bind λ(x1,x2,x3,x4,_)=>
let x5:=w64 (x1+1);
some (.inl (x5,x2,x3,x4,())))else
some (.inr (v0,false,v1,v2,v3,()))
def dy(a0:List LDCn)(a1:LDTs)(a2:List LDCn)(a3:LDTs):Option (T05):=
((eU a0 a1).bind λ(x0,_)=>
bif(!x0)then(some (true,a0,a1,a2,a3,()))else
(eU a2 a3).bind λ(x1,_)=>
bif(!x1)then(some (true,a0,a1,a2,a3,()))else
(dV a0 a1).bind λ(x2,_)=>
(dV a2 a3).bind λ(x3,_)=>
(gX x2 x3).bind λ(x4,_)=>
bif(!x4)then(some (true,a0,a1,a2,a3,()))else
let x5:=bJ a1.length;
let x6:=bJ a3.length;
some ((x5 != x6),a0,a1,a2,a3,()):Option (T0E)).bind λ(x0,x1,x2,x3,x4,_)=>
bif x0 then(some ([],1,()))else
(kB x1 x2).bind λ(x5,x6,_)=>
(kB x3 x4).bind λ(x7,x8,_)=>
(bM cY NN (0,x5,x7,[],())).bind λ(x9,ac,ae,af,ah,_)=>
some (ah,0,())
def uG:X.Cfg:=⟨E0,[jf,gA,nj,vh,mQ],[],[⟨2,0,qE,[(.normal,qS [zaa 2,zaa 3,Xaa 36] [(6,uab),(8,uab)])]⟩,⟨12,1,qE,[(.normal,(qS [Zaa 6 15,Zaa 8 19,Zaa 10 23,Uaa 11] [(15,[shU (uaa (.pair I64 (.pair I64 (.pair (uaa KCn) ct))))]),(19,[shU (uaa (.pair I64 (.pair I64 (.pair (uaa KCn) ct))))]),(23,zab)]))]⟩,(lx 9 2 [Zaa 6 15,Zaa 8 19,Zaa 10 23,Uaa 11] [(15,[shU (uaa (.pair I64 (.pair I64 (.pair (uaa KCn) ct))))]),(19,[shU (uaa (.pair I64 (.pair I64 (.pair (uaa KCn) ct))))]),(23,zab)] 50)]⟩
def kQ:Ctr:=⟨34,89,[.agg uab,.agg uab],[],[⟨Xaf,[.one,.one],[]⟩],ap4 dy⟩
theorem nX:Lk 5 kQ:=ls uG (aC lO (aC iI (aC s8 (aC B6 (aC qI aN)))))
def dh:T1G->Option (T1G⊕(Int×Int×Int×Bool×T1v)):=λ(v0,v1,v2,v3,v4,v5,v6,v7,v8,v9,v10,v11,v12,v13,_)=>
let x0:=bJ v3.length;
bif(decide (v2<x0))then((cj v2).bind λx1=>
(bV v3 x1).bind λx2=>
let x3:=bJ x2.length;
(cj x3).bind λx4=>
(cj x3).bind λx5=>
bif(gl x4 x5 4)then let x6:LDCn:=(List.replicate x4 (0,(0,(0,0))));
bif(b8 24 v12.length (List.length [x6]))then let x7:List LDCn:=(List.append v12 [x6]);
let x8:=w64 (v2+1);
some (.inl (v0,v1,x8,v3,v4,v5,v6,v7,v8,v9,v10,v11,x7,v13,()))else none else none)else
some (.inr (v0,v1,v2,false,v3,v4,v5,v6,v7,v8,v9,v10,v11,v12,v13,()))
def cW(a0:List LDCn)(a1:LDTs)(a2:List LDCn)(a3:LDTs)(a4:Int)(a5:Int):Option (T17):=
(eU a2 a3).bind λ(x0,_)=>
bif(!x0)then(some (0,0,[],[],[],0,1,()))else
(dy a0 a1 a2 a3).bind λ(x1,x2,_)=>
bif(x2==0)then((eJ a0 a1).bind λ(x3,x4,_)=>
some (a4,a5,x3,x4,x1,0,0,()))else
(dV a2 a3).bind λ(x3,_)=>
let x4:=bJ a3.length;
(eI x3 x4).bind λ(x5,x6,_)=>
let x7:=bJ a3.length;
(cj x7).bind λx8=>
(cj x7).bind λx9=>
bif(gl x8 x9 8)then let ac:LDTs:=(List.replicate x8 (0,(0,(0,(0,(0,(0,(0,[]))))))));
(bM dh NN (a4,a5,0,a2,a3,0,0,(),(),(),0,x5,[],ac,())).bind λ(ae,af,ah,aj,ak,am,an,ap,aq,au,av,aw,ax,ay,az,_)=>
some (ae,af,ay,az,ax,0,0,())else none
def yp:X.Cfg:=⟨E0,[jf,kQ,jz,gA,jy],[(44,jG),(62,(uaa KCn)),(63,(uaa KCn))],[(lx 12 0 [Uaa 2,Uaa 3,zaa 5,zaa 8,Zaa 10 23,zaa 12,Uaa 13] [(12,uab),(18,Xae),(23,zab),(26,Zab)] 50)]⟩
def rh:Ctr:=⟨9,90,[.agg uab,.agg uab,shU I64,shU I64],[],[⟨uai,[.agg 6,.one],[]⟩],ap6 cW⟩
theorem xL:Lk 6 rh:=ls yp (aC lO (aC nX (aC lu (aC iI (aC lq aN)))))
def cX:LDCe×T05->Option ((LDCe×T05)⊕((Bool×Unit)⊕(LDCe×LDCe×T01))):=λ(v0,v1,v2,_)=>
let x0:=bJ v0.length;
bif(decide (v2<x0))then((cj v2).bind λx1=>
(bV v0 x1).bind λx2=>
(cj v2).bind λx3=>
(bV v1 x3).bind λx4=>
bif(!((x2.1==x4.1)&&((x2.2==x4.2)&&true)))then(some (.inr (.inl (false,()))))else
let x5:=w64 (v2+1);
some (.inl (v0,v1,x5,())))else
some (.inr (.inr (v0,v1,v2,false,())))
def la(a0:LDCe)(a1:LDCe):Option (Bool×Unit):=
let x0:=bJ a0.length;
let x1:=bJ a1.length;
bif(x0 != x1)then(some (false,()))else
(match bM cX NN (a0,a1,0,())with
|none=>none
|some (.inl (x2,_))=>
some (x2,())
|some (.inr (x2,_))=>
some (true,()))
def Av:X.Cfg:=⟨E0,[],[],[⟨6,0,qS [sP 0 (yaa (.pair I64 I64)),sP 1 (yaa (.pair I64 I64)),Uaa 5] [],[(.ret,qS [Xaa 4] []),(.exit 0,qS [sP 0 (yaa (.pair I64 I64)),sP 1 (yaa (.pair I64 I64)),Uaa 5,Xaa 14] [])]⟩]⟩
def sN:Ctr:=⟨37,91,uag,[],[⟨Uab,[.one],[]⟩],ap2 la⟩
theorem Ae:Lk 1 sN:=ls Av aN
def fJ(a0:Int)(a1:Int)(a2:List LDCn)(a3:LDTs)(a4:LDCe)(a5:Int)(a6:Int)(a7:Int)(a8:List LDCn)(a9:LDTs)(a10:LDCe)(a11:Int):Option (Bool×Unit):=
bif(a0==a6)then(bif(a1==a7)then(bif(a5==a11)then((la a4 a10).bind λ(x0,_)=>
bif x0 then((jn a2 a3 a8 a9).bind λ(x1,_)=>
some (x1,()))else
some (false,()))else
some (false,()))else
some (false,()))else
some (false,())
def As:X.Cfg:=⟨E0,[sN,ox],[],[]⟩
def ot:Ctr:=⟨10,92,[.agg Xac,.agg Xac],[],[⟨Uab,[.one],[]⟩],ap12 fJ⟩
theorem sA:Lk 4 ot:=ls As (aC Ae (aC sB aN))
def cO(a0:LDCe):Option (LDCe×Unit):=
bif(b8 16 0 a0.length)then let x0:LDCe:=(List.append [] a0);
some (x0,())else none
def od:X.Cfg:=⟨E0,[],[],[]⟩
def gw:Ctr:=⟨84,93,uaf,[],[⟨zab,[.one],[]⟩],ap1 cO⟩
theorem jv:Lk 1 gw:=ls od aN
def jq(a0:Int)(a1:Int)(a2:List LDCn)(a3:LDTs)(a4:LDCe)(a5:Int):Option (T0S):=
(eX a2 a3).bind λ(x0,x1,_)=>
(cO a4).bind λ(x2,_)=>
some (a0,a1,x0,x1,x2,a5,())
def AF:X.Cfg:=⟨E0,[jh,gw],[],[]⟩
def oz:Ctr:=⟨48,94,[.agg Xac],[],[⟨uL [I64,I64,(uaa (uaa KCn)),(uaa ct),(uaa (.pair I64 I64)),I64],[.agg 6],[]⟩],ap6 jq⟩
theorem sD:Lk 4 oz:=ls AF (aC lQ (aC jv aN))
def iS:Ctr:=⟨87,95,uL [(yaa (yaa (.pair I64 I64)))],[],[⟨uaf,[.one],[]⟩],ap1 dn⟩
theorem nz:Lvl E0 TT libBj 1 iS:=(BX (F9 rfl) lL).mono (by decide)
def jB:Ctr:=⟨85,96,[.fn 86 [],shU (yaa (.pair I64 I64))],[],[⟨uaf,[.one],[]⟩],ap1 dE⟩
theorem n7:Lvl E0 TT libBj 1 jB:=(BX (F9 rfl) mc).mono (by decide)
def j8(a0:LDCe)(a1:LDCe):Option (LDCe×Unit):=
let x0:List LDCe:=[a0,a1];
(dn x0).bind λ(x1,_)=>
(dE x1).bind λ(x2,_)=>
some (x2,())
def yK:X.Cfg:=⟨E0,[iS,jB],[(7,(uaa (.pair I64 I64)))],[]⟩
def ry:Ctr:=⟨49,97,uag,[],[⟨uaf,[.one],[]⟩],ap2 j8⟩
theorem xZ:Lk 2 ry:=ls yK (aC nz (aC n7 aN))
def gW(a0:Int)(a1:Int)(a2:List LDCn)(a3:LDTs)(a4:LDCe)(a5:Int)(a6:List LDCn)(a7:LDTs)(a8:List LDCn)(a9:LDTs):Option (T17):=
(jq a0 a1 a2 a3 a4 a5).bind λ(x0,x1,x2,x3,x4,x5,_)=>
(dF a6 a7 a8 a9).bind λ(x6,x7,_)=>
bif(x7 != 0)then(some (x0,x1,x2,x3,x4,x5,x7,()))else
(j8 x4 x6).bind λ(x8,_)=>
some (x0,x1,x2,x3,x8,x5,0,())
def tg:X.Cfg:=⟨E0,[oz,kT,ry],[],[]⟩
def ng:Ctr:=⟨20,98,[.agg Xac,.agg uab,.agg uab],[],[⟨uL [I64,I64,(uaa (uaa KCn)),(uaa ct),(yaa (.pair I64 I64)),I64,I64],[.agg 6,.one],[]⟩],ap10 gW⟩
theorem sY:Lk 8 ng:=ls tg (aC sD (aC n8 (aC xZ aN)))
def j0(a0:Int)(a1:Int)(a2:Int)(a3:Int):Option (Bool×Unit):=
bif(!((a0==(-1))==(a2==(-1))))then(some ((a2==(-1)),()))else
bif(decide (a0<a2))then(some (true,()))else
bif(a0==a2)then(some ((decide (a1<a3)),()))else
some (false,())
def yv:X.Cfg:=⟨E0,[],[],[]⟩
def rk:Ctr:=⟨137,99,[.agg uac,.agg uac],[],[⟨Uab,[.one],[]⟩],ap4 j0⟩
theorem xO:Lk 1 rk:=ls yv aN
def eR:LDCe×T0e->Option ((LDCe×T0e)⊕(LDCe×Int×T0a)):=λ(v0,v1,v2,v3,_)=>
let x0:=bJ v0.length;
bif(decide (v1<x0))then((cj v1).bind λx1=>
(bV v0 x1).bind λx2=>
(j0 x2.1 x2.2 v2 v3).bind λ(x3,_)=>
bif x3 then(let x4:Int:=(w64 (v1+1));
some (.inl (v0,x4,v2,v3,())))else
some (.inr (v0,v1,false,v2,v3,())))else
some (.inr (v0,v1,false,v2,v3,()))
def kz(a0:LDCe)(a1:Int)(a2:Int):Option (LDCe×Unit):=
(bM eR NN (a0,0,a1,a2,())).bind λ(x0,x1,x2,x3,x4,_)=>
(match(let x5:Int:=(bJ x0.length);
bif(decide (x1<x5))then((cj x1).bind λx6=>
(bV x0 x6).bind λx7=>
bif((x7.1==x3)&&((x7.2==x4)&&true))then(some (.inl (x0,())))else
some (.inr (x0,x1,false,x3,x4,())))else
some (.inr (x0,x1,false,x3,x4,())):Option ((LDCe×Unit)⊕(LDCe×Int×T0a)))with
|none=>none
|some (.inl (x5,_))=>
some (x5,())
|some (.inr (x5,x6,x7,x8,x9,_))=>
(cj x6).bind λac=>
bif(cR 0 ac x5.length)then let ae:LDCe:=(px x5 0 (Nat.sub ac 0));
bif(b8 16 0 ae.length)then let af:LDCe:=(List.append [] ae);
let ah:LDCe:=[(x8,x9)];
bif(b8 16 af.length ah.length)then let aj:LDCe:=(List.append af ah);
(cj x6).bind λak=>
bif(cR ak x5.length x5.length)then let am:LDCe:=(px x5 ak (Nat.sub x5.length ak));
bif(b8 16 aj.length am.length)then let an:LDCe:=(List.append aj am);
some (an,())else none else none else none else none else none)
def Cg:X.Cfg:=⟨E0,[rk],[],[(lx 3 0 [sP 0 (yaa (.pair I64 I64)),zaa 3,Uaa 5] [(8,uac)] 18),⟨6,1,qE,[(.ret,qS [sP 4 (yaa (.pair I64 I64))] []),(.normal,qS [sP 0 (yaa (.pair I64 I64)),zaa 3,Uaa 5,Xaa 32] [(8,uac)])]⟩]⟩
def vg:Ctr:=⟨111,100,[shU (yaa (.pair I64 I64)),.agg uac],[],[⟨uaf,[.one],[]⟩],ap3 kz⟩
theorem B5:Lk 2 vg:=ls Cg (aC xO aN)
def dK:LDCe×T0w->Option ((LDCe×T0w)⊕(LDCe×LDCe×LDCe×Int×Bool×Unit×Unit)):=λ(v0,v1,v2,v3,v4,_)=>
let x0:=bJ v0.length;
bif(decide (v3<x0))then((cj v3).bind λx1=>
(bV v0 x1).bind λx2=>
(kz v2 x2.1 x2.2).bind λ(x3,_)=>
let x4:=w64 (v3+1);
some (.inl (v0,v1,x3,x4,v4,())))else
some (.inr (v0,v1,v2,v3,false,v4,()))
def dJ:T0w->Option (T0w⊕(LDCe×LDCe×Int×Bool×Unit×Unit)):=λ(v0,v1,v2,v3,_)=>
let x0:=bJ v0.length;
bif(decide (v2<x0))then((cj v2).bind λx1=>
(bV v0 x1).bind λx2=>
(kz v1 x2.1 x2.2).bind λ(x3,_)=>
let x4:=w64 (v2+1);
some (.inl (v0,x3,x4,v3,())))else
some (.inr (v0,v1,v2,false,v3,()))
def jZ(a0:LDCe)(a1:LDCe):Option (LDCe×Unit):=
(bM dK NN (a0,a1,[],0,(),())).bind λ(x0,x1,x2,x3,x4,x5,_)=>
(bM dJ NN (x1,x2,0,x5,())).bind λ(x6,x7,_)=>
some (x7,())
def yu:X.Cfg:=⟨E0,[vg],[],[(lx 4 0 [sP 0 (yaa (.pair I64 I64)),sP 1 (yaa (.pair I64 I64)),sP 5 (yaa (.pair I64 I64)),Uaa 6] [(13,uL [N0])] 11),⟨10,1,(qS [sP 1 (yaa (.pair I64 I64)),sP 5 (yaa (.pair I64 I64)),Uaa 7] [(13,uL [N0])]),[(.exit 2,(qS [sP 1 (yaa (.pair I64 I64)),sP 5 (yaa (.pair I64 I64)),Uaa 7,Xaa 23] [(13,uL [N0])]))]⟩]⟩
def rj:Ctr:=⟨81,101,uag,[],[⟨uaf,[.one],[]⟩],ap2 jZ⟩
theorem xN:Lk 3 rj:=ls yu (aC B5 aN)
def iv(a0:Int)(a1:Int)(a2:List LDCn)(a3:LDTs)(a4:LDCe)(a5:Int)(a6:List LDCn)(a7:LDTs)(a8:List LDCn)(a9:LDTs):Option (T17):=
(dy a6 a7 a8 a9).bind λ(x0,x1,_)=>
bif(x1 != 0)then(some (a0,a1,a2,a3,a4,a5,x1,()))else
(jZ a4 x0).bind λ(x2,_)=>
some (a0,a1,a2,a3,x2,a5,0,())
def uE:X.Cfg:=⟨E0,[kQ,rj],[],[]⟩
def ou:Ctr:=⟨42,102,[.agg Xac,.agg uab,.agg uab],[],[⟨yai,[.agg 6,.one],[]⟩],ap10 iv⟩
theorem uv:Lk 6 ou:=ls uE (aC nX (aC xN aN))
def lf(a0:LDCe)(a1:Int):Option (LDCe×LDCe×Unit):=
let x0:=bJ a0.length;
let x1:=mmR false a1 x0;
let x2:=mmR true 0 x1;
(cj x2).bind λx3=>
bif(cR 0 x3 a0.length)then let x4:LDCe:=(px a0 0 (Nat.sub x3 0));
(cO x4).bind λ(x5,_)=>
(cj x2).bind λx6=>
bif(cR x6 a0.length a0.length)then let x7:LDCe:=(px a0 x6 (Nat.sub a0.length x6));
(cO x7).bind λ(x8,_)=>
some (x5,x8,())else none else none
def AE:X.Cfg:=⟨E0,[gw],[],[]⟩
def sR:Ctr:=⟨52,103,zai,[],[⟨Uai,[.one,.one],[]⟩],ap2 lf⟩
theorem Ah:Lk 2 sR:=ls AE (aC jv aN)
def cy:T22->Option (T22⊕(T24⊕T24)):=λ(v0,v1,v2,v3,v4,v5,v6,v7,v8,v9,v10,v11,v12,v13,v14,v15,v16,v17,v18,v19,v20,_)=>
bif(decide (v2<v1))then((cj v2).bind λx0=>
(bV v17 x0).bind λx1=>
(bV v17 x0).bind λx2=>
(iY v3 v4 x2.1 x2.2).bind λ(x3,x4,x5,x6,x7,x8,x9,ac,ae,af,ah,aj,_)=>
bif(aj==0)then((kC v19 v20 x3 x4 x5 x6 x7 x8 x9 ac ae af ah).bind λ(ak,am,an,_)=>
bif(an != 0)then(some (.inr (.inl (an,v1,v2,true,v3,v4,v5,v6,v7,v8,v9,v10,v11,v12,v13,v14,v15,v16,v17,v18,ak,am,()))))else
let ap:=w64 (v2+1);
some (.inl (an,v1,ap,v3,v4,v5,v6,v7,v8,v9,v10,v11,v12,v13,v14,v15,v16,v17,v18,ak,am,())))else
bif(aj != 0)then(some (.inr (.inl (aj,v1,v2,true,v3,v4,v5,v6,v7,v8,v9,v10,v11,v12,v13,v14,v15,v16,v17,v18,v19,v20,()))))else
let ak:=w64 (v2+1);
some (.inl (aj,v1,ak,v3,v4,v5,v6,v7,v8,v9,v10,v11,v12,v13,v14,v15,v16,v17,v18,v19,v20,())))else
some (.inr (.inr (v0,v1,v2,false,v3,v4,v5,v6,v7,v8,v9,v10,v11,v12,v13,v14,v15,v16,v17,v18,v19,v20,())))
def jX(a0:Int)(a1:Int)(a2:List LDCn)(a3:LDTs)(a4:LDCe)(a5:Int)(a6:List LDCn)(a7:LDTs)(a8:Int):Option (T17):=
(jq a0 a1 a2 a3 a4 a5).bind λ(x0,x1,x2,x3,x4,x5,_)=>
bif(decide (a8<0))then(some (x0,x1,x2,x3,x4,x5,6,()))else
(lf a4 a8).bind λ(x6,x7,_)=>
let x8:=bJ x6.length;
(match bM cy NN (0,x8,0,a6,a7,0,0,(),(),(),0,x0,x1,x2,x3,x4,x5,x6,x7,x2,x3,())with
|none=>none
|some (.inl (x9,ac,ae,af,ah,aj,ak,am,an,ap,aq,au,av,aw,ax,ay,az,aA,aB,aD,aE,aF,_))=>
bif(x9 != 0)then(some (av,aw,ax,ay,az,aA,x9,()))else
let aG:=bJ aB.length;
let aH:=w64 (aA+aG);
some (av,aw,aE,aF,aD,aH,0,())
|some (.inr (x9,ac,ae,af,ah,aj,ak,am,an,ap,aq,au,av,aw,ax,ay,az,aA,aB,aD,aE,aF,_))=>
bif(x9 != 0)then(some (av,aw,ax,ay,az,aA,x9,()))else
let aG:=bJ aB.length;
let aH:=w64 (aA+aG);
some (av,aw,aE,aF,aD,aH,0,()))
def yn:X.Cfg:=⟨E0,[oz,sR,pY,pX],[],[⟨10,0,qS [zaa 4,zaa 6,zaa 8,Zaa 9 21,Zaa 10 23,zaa 11,Uaa 12,Zaa 31 21,Uaa 32,Uaa 33] [(10,uab),(14,Xae),(18,yag),(21,zab),(23,zab),(24,uab)],[(.exit 0,qS [zaa 4,zaa 6,zaa 8,Zaa 9 21,Zaa 10 23,zaa 11,Uaa 12,Zaa 31 21,Uaa 32,Uaa 33,Xaa 53] [(10,uab),(14,Xae),(18,yag),(21,zab),(23,zab),(24,uab)]),(.exit 0,qS [zaa 4,zaa 6,zaa 8,Zaa 9 21,Zaa 10 23,zaa 11,Uaa 12,Zaa 31 21,Uaa 32,Uaa 33,Xaa 34] [(10,uab),(14,Xae),(18,yag),(21,zab),(23,zab),(24,uab)])]⟩]⟩
def rf:Ctr:=⟨23,104,[.agg Xac,.agg uab,shU I64],[],[⟨uL [I64,I64,(yaa b7),(yaa ct),(uaa (.pair I64 I64)),I64,I64],[.agg 6,.one],[]⟩],ap9 jX⟩
theorem xJ:Lk 8 rf:=ls yn (aC sD (aC Ah (aC uA (aC uz aN))))
def k9(a0:LDCe)(a1:Int):Option (LDCe×LDCe×Unit):=
let x0:=bJ a0.length;
let x1:=mmR false a1 x0;
let x2:=mmR true 0 x1;
(cj x2).bind λx3=>
bif(cR 0 x3 a0.length)then let x4:LDCe:=(px a0 0 (Nat.sub x3 0));
bif(b8 16 0 x4.length)then let x5:LDCe:=(List.append [] x4);
(cj x2).bind λx6=>
bif(cR x6 a0.length a0.length)then let x7:LDCe:=(px a0 x6 (Nat.sub a0.length x6));
bif(b8 16 0 x7.length)then let x8:LDCe:=(List.append [] x7);
some (x5,x8,())else none else none else none else none
def Au:X.Cfg:=⟨E0,[],[],[]⟩
def sM:Ctr:=⟨82,105,zai,[],[⟨Uai,[.one,.one],[]⟩],ap2 k9⟩
theorem Ad:Lk 1 sM:=ls Au aN
def cF:T28->Option (T28⊕((Int×T0S)⊕(Int×Bool×T25))):=λ(v0,v1,v2,v3,v4,v5,v6,v7,v8,v9,v10,v11,v12,v13,v14,v15,v16,v17,v18,v19,v20,v21)=>
let x0:=bJ v15.length;
bif(decide (v0<x0))then((cj v0).bind λx1=>
(bV v15 x1).bind λx2=>
(bV v15 x1).bind λx3=>
(dM v7 v8 x3.1 x3.2).bind λ(x4,x5,x6,x7,x8,x9,ac,ae,af,ah,aj,ak,_)=>
bif(ak != 0)then(some (.inr (.inl (ak,v1,v2,v3,v4,v5,v6,()))))else
(kA v19 v20 x4 x5 x6 x7 x8 x9 ac ae af ah aj).bind λ(am,an,ap,_)=>
bif(ap != 0)then(some (.inr (.inl (ap,v1,v2,v3,v4,v5,v6,()))))else
let aq:=w64 (v0+1);
some (.inl (aq,v1,v2,v3,v4,v5,v6,v7,v8,v9,v10,v11,v12,v13,v14,v15,v16,v17,v18,am,an,v21)))else
some (.inr (.inr (v0,false,v1,v2,v3,v4,v5,v6,v7,v8,v9,v10,v11,v12,v13,v14,v15,v16,v17,v18,v19,v20,v21)))
def kY(a0:Int)(a1:Int)(a2:List LDCn)(a3:LDTs)(a4:LDCe)(a5:Int)(a6:List LDCn)(a7:LDTs)(a8:Int):Option (T17):=
bif(decide (a8<0))then(some (a0,a1,a2,a3,a4,a5,6,()))else
(k9 a4 a8).bind λ(x0,x1,_)=>
(match bM cF NN (0,a0,a1,a2,a3,a4,a5,a6,a7,0,0,(),(),(),0,x0,x1,a0,a1,a2,a3,a4,a5,())with
|none=>none
|some (.inl (x2,x3,x4,x5,x6,x7,x8,_))=>
some (x3,x4,x5,x6,x7,x8,x2,())
|some (.inr (x2,x3,x4,x5,x6,x7,x8,x9,ac,ae,af,ah,aj,ak,am,an,ap,aq,au,av,aw,ax,_))=>
let aA:=bJ ap.length;
let aB:=w64 (x9+aA);
some (au,av,aw,ax,aq,aB,0,()))
def Ar:X.Cfg:=⟨E0,[sM,kR,pV],[],[⟨8,0,qS [zaa 3,zaa 4,zaa 6,Zaa 8 19,Zaa 9 21,zaa 10,Uaa 11] [(8,Xac),(10,uab),(14,Xae),(19,zab),(21,zab),(22,Xac)],[(.ret,qS [zaa 6,Uaa 7] [(14,Xac)]),(.exit 0,qS [zaa 3,zaa 4,zaa 6,Zaa 8 19,Zaa 9 21,zaa 10,Uaa 11,Xaa 28] [(8,Xac),(10,uab),(14,Xae),(19,zab),(21,zab),(22,Xac)])]⟩]⟩
def sK:Ctr:=⟨43,106,[.agg Xac,.agg uab,shU I64],[],[⟨yai,[.agg 6,.one],[]⟩],ap9 kY⟩
theorem Ab:Lk 5 sK:=ls Ar (aC Ad (aC mJ (aC ux aN)))
def iW(a0:Int)(a1:Int)(a2:List LDCn)(a3:LDTs)(a4:LDCe)(a5:Int):Option (Bool×Unit):=
let x0:=bJ a4.length;
some ((x0==0),())
def r6:X.Cfg:=⟨E0,[],[],[]⟩
def mj:Ctr:=⟨21,107,[.agg Xac],[],[⟨Uab,[.one],[]⟩],ap6 iW⟩
theorem rY:Lk 1 mj:=ls r6 aN
def jK(a0:Int)(a1:Int)(a2:List LDCn)(a3:LDTs)(a4:LDCe)(a5:Int):Option (Bool×Unit):=
let x0:=bJ a4.length;
some ((x0==0),())
def th:X.Cfg:=⟨E0,[],[],[]⟩
def nh:Ctr:=⟨44,108,[.agg Xac],[],[⟨Uab,[.one],[]⟩],ap6 jK⟩
theorem sZ:Lk 1 nh:=ls th aN
def cN(a0:Int)(a1:Int)(a2:List LDCn)(a3:LDTs)(a4:LDCe)(a5:Int)(a6:List LDCn)(a7:LDTs)(a8:List LDCn)(a9:LDTs)(a10:Int):Option (Bool×Unit):=
(gW a0 a1 a2 a3 a4 a5 a6 a7 a8 a9).bind λ(x0,x1,x2,x3,x4,x5,x6,_)=>
(iv a0 a1 a2 a3 a4 a5 a6 a7 a8 a9).bind λ(x7,x8,x9,ac,ae,af,ah,_)=>
(jX a0 a1 a2 a3 a4 a5 a8 a9 a10).bind λ(aj,ak,am,an,ap,aq,au,_)=>
(kY a0 a1 a2 a3 a4 a5 a8 a9 a10).bind λ(av,aw,ax,ay,az,aA,aB,_)=>
bif(x6==ah)then(bif(au==aB)then((fJ x0 x1 x2 x3 x4 x5 x7 x8 x9 ac ae af).bind λ(aD,_)=>
bif aD then((fJ aj ak am an ap aq av aw ax ay az aA).bind λ(aE,_)=>
bif aE then((iW a0 a1 a2 a3 a4 a5).bind λ(aF,_)=>
(jK a0 a1 a2 a3 a4 a5).bind λ(aG,_)=>
some ((aF==aG),()))else
some (false,()))else
some (false,()))else
some (false,()))else
some (false,())
def tu:X.Cfg:=⟨E0,[ng,ou,rf,sK,ot,mj,nh],[],[]⟩
def nq:Ctr:=⟨12,109,[.agg Xac,.agg uab,.agg uab,shU I64],[],[⟨Uab,[.one],[]⟩],ap11 cN⟩
theorem td:Lk 9 nq:=ls tu (aC sY (aC uv (aC xJ (aC Ab (aC sA (aC rY (aC sZ aN)))))))
def cG:T1I->Option (T1I⊕(Int×Int×Int×Bool×Bool×Bool×Bool×Bool×Int×T15)):=λ(v0,v1,v2,v3,v4,v5,v6,v7,v8,v9,v10,v11,v12,v13,_)=>
(bZ 4 v12 v13).bind λ(x0,x1,x2,_)=>
let x3:=w64 (2+x0);
bif(decide (v8<x3))then((bZ 3 x1 x2).bind λ(x4,x5,x6,_)=>
(kX v9 v10 x4 x5 x6).bind λ(x7,x8,x9)=>
let ae:List (LLCn×LDTs):=[(x7,x8)];
bif(b8 48 v11.length ae.length)then let af:List (LLCn×LDTs):=(List.append v11 ae);
let ah:=w64 (v8+1);
some (.inl (v0,v1,v2,v3,v4,v5,v6,v7,ah,v9,v10,af,x9))else none)else
some (.inr (v0,v1,v2,v3,v4,v5,v6,v7,v8,false,v9,v10,v11,x1,x2,()))
def iD(a0:List (Int))(a1:Bool)(a2:Bool)(a3:Bool)(a4:Bool)(a5:Bool)(a6:Int)(a7:Int)(a8:Int):Option (Bool×Unit):=
(tA a0).bind λ(x0,_)=>
bif(!x0)then((fP).bind λ(x1,_)=>
some (x1,()))else
(jW a0 0).bind λ(x1,x2,x3)=>
(bM cG NN (a6,a7,a8,a1,a2,a3,a4,a5,0,x1,x2,[],x3)).bind λ(x5,x6,x7,x8,x9,ac,ae,af,ah,aj,ak,am,an,ap,aq,_)=>
(let au:=wk .i64 x5;
let av:=bJ an.length;
bif(decide (au<av))then((cj au).bind λaw=>
(bV an aw).bind λax=>
(bV an aw).bind λay=>
(kx ay.1 ay.2 ap aq).bind λ(az,aA,aB,aD,_)=>
(cj au).bind λaE=>
(bV an aE).bind λaF=>
(bV an aE).bind λaG=>
let aH:=List.modify an aE λe=>(az,aA);
some (x6,x7,x8,x9,ac,ae,af,ak,am,aH,aB,aD,()))else
some (x6,x7,x8,x9,ac,ae,af,ak,am,an,ap,aq,()):Option (Int×Int×Bool×Bool×Bool×Bool×T15)).bind λ(au,av,aw,ax,ay,az,aA,aB,aD,aE,aF,aG,_)=>
(bZ 5 aF aG).bind λ(aH,aI,aJ,_)=>
let aK:=w64 (aH-1);
(bZ 3 aI aJ).bind λ(aL,_)=>
let aP:=bJ aE.length;
(cj aP).bind λaQ=>
bif(cR 0 aQ 5)then let aR:List (Bool):=(px [aw,ax,ay,az,aA] 0 aQ);
(ld au 5).bind λ(aS,_)=>
let aT:=w64 (1+aS);
(j7 aE aR aK aL aT).bind λ(aU,_)=>
bif(!aU)then(some (false,()))else
(bV aE 0).bind λaV=>
(bV aE 0).bind λaW=>
(bV aE 1).bind λaY=>
(bV aE 1).bind λaZ=>
(match cT aW.1 aW.2 aZ.1 aZ.2 2 3 with
|none=>none
|some (.inl (ba,bc,bd,be,bf,bg,bh,_))=>
(bV aE 0).bind λbi=>
(bV aE 0).bind λbj=>
(bV aE 1).bind λbk=>
(bV aE 1).bind λbl=>
(cW bj.1 bj.2 bl.1 bl.2 2 3).bind λ(bm,bn,bo,bp,bq,bt,bu,_)=>
bif(bh==bu)then((fJ ba bc bd be bf bg bm bn bo bp bq bt).bind λ(bv,_)=>
bif bv then((bV aE 1).bind λbw=>
(bV aE 1).bind λbx=>
(ld av 8).bind λ(bz,_)=>
let bA:=w64 (bz-1);
(cN bm bn bo bp bq bt bx.1 bx.2 aB aD bA).bind λ(bB,_)=>
bif bB then((bV aE 0).bind λbC=>
(bV aE 0).bind λbD=>
(cN bm bn bo bp bq bt aB aD bD.1 bD.2 2).bind λ(bE,_)=>
bif bE then((fP).bind λ(bF,_)=>
some (bF,()))else
some (false,()))else
some (false,()))else
some (false,()))else
some (false,())
|some (.inr (ba,bc,bd,be,bf,bg,bh,_))=>
(bV aE 0).bind λbi=>
(bV aE 0).bind λbj=>
(bV aE 1).bind λbk=>
(bV aE 1).bind λbl=>
(cW bj.1 bj.2 bl.1 bl.2 2 3).bind λ(bm,bn,bo,bp,bq,bt,bu,_)=>
bif(bh==bu)then((fJ ba bc bd be bf bg bm bn bo bp bq bt).bind λ(bv,_)=>
bif bv then((bV aE 1).bind λbw=>
(bV aE 1).bind λbx=>
(ld av 8).bind λ(bz,_)=>
let bA:=w64 (bz-1);
(cN bm bn bo bp bq bt bx.1 bx.2 aB aD bA).bind λ(bB,_)=>
bif bB then((bV aE 0).bind λbC=>
(bV aE 0).bind λbD=>
(cN bm bn bo bp bq bt aB aD bD.1 bD.2 2).bind λ(bE,_)=>
bif bE then((fP).bind λ(bF,_)=>
some (bF,()))else
some (false,()))else
some (false,()))else
some (false,()))else
some (false,()))else none
def qQ:X.Cfg:=⟨E0,[Ei,rv,re,ib,sJ,vf,zh,rx,pe,rh,ot,nq],[(42,(.pair (uaa (uaa KCn)) (uaa jG))),(43,(.pair (uaa (uaa KCn)) (uaa jG)))],[(lx 9 0 [sP 2 CB,Uaa 3,Uaa 4,(6,.ip zag),pP 11 54,zaa 12,Zaa 13 29,Uaa 14] [(26,uab),(29,Xai),(54,Xab)] 33),⟨13,1,qE,[(.normal,qS [Uaa 3,Uaa 4,(6,.ip zag),pP 11 54,zaa 12,Zaa 13 29] [(26,uab),(29,Xai),(54,Xab)])]⟩]⟩
def lF:Ctr:=⟨4,110,[shU RI,.agg zag,shU CB,shU I64,shU I64],[],[⟨Uab,[.one],[]⟩],ap9 iD⟩
theorem k_law34_RepairMade:Lk 11 lF:=ls qQ (aC Kp (aC xX (aC xI (aC i6 (aC Aa (aC B4 (aC DQ (aC xY (aC vG (aC xL (aC sA (aC td aN))))))))))))
def jJ:T0t->Option (T0t⊕(Int×Int×Bool×T08)):=λ(v0,v1,v2,v3,_)=>
let x0:=bJ v2.length;
bif(decide (v1<x0))then(let x1:Int:=(w64 (v0+4));
(cj v1).bind λx2=>
(bV v2 x2).bind λx3=>
let x4:=bJ x3.length;
let x5:=w64 (x1+x4);
let x6:=w64 (v1+1);
some (.inl (x5,x6,v2,v3,())))else
some (.inr (v0,v1,false,v2,v3,()))
def jI:T0t->Option (T0t⊕(Int×Int×Bool×T08)):=λ(v0,v1,v2,v3,_)=>
let x0:=bJ v3.length;
bif(decide (v1<x0))then(let x1:Int:=(w64 (v0+10));
(cj v1).bind λx2=>
(bV v3 x2).bind λx3=>
let x4:=bJ x3.2.2.2.2.2.2.2.length;
let x5:=w64 (x1+x4);
let x6:=w64 (v1+1);
some (.inl (x5,x6,v2,v3,())))else
some (.inr (v0,v1,false,v2,v3,()))
def p9(a0:List LDCn)(a1:LDTs):Option (Bool×Unit):=
(bM jJ NN (0,0,a0,a1,())).bind λ(x0,x1,x2,x3)=>
(bM jI NN (x0,0,x3)).bind λ(x5,_)=>
some ((decide (x5<=1500)),())
end
end Go.Proofs.YtakfoejcjdcgbaaGreat
namespace Go.Proofs.YtakfoejcjdcgbaaGreat
set_option maxRecDepth 100000
noncomputable section
end
end Go.Proofs.YtakfoejcjdcgbaaGreat
namespace Go.Proofs.YtakfoejcjdcgbaaGreat
open Go.RowKit Go.Sort
def zL:Array Value->Nat->List Value->Array Value
 |c,_,[]=>c
 |c,o,v::r=>zL (c.setIfInBounds o v) (o+1) r
theorem EP:∀(vs:List Value)(c:Array Value)(o k:Nat),(zL c o vs)[k]?=if o<=k/\k<o+vs.length/\k<c.size then vs[k-o]? else c[k]?:=by
 intro vs
 induction vs with
 |nil=>intro c o k;rw[oIN (by simp;omega)];rfl
 |cons v r ih=>
  intro c o k;show(zL (c.setIfInBounds o v) (o+1) r)[k]?=_;rw[ih,oLC,Array.size_setIfInBounds];by_cases h1:o+1<=k/\k<o+1+r.length/\k<c.size
  ·rw[oIP h1,oIP (by omega)];obtain⟨m,hm⟩:∃m,k-o=m+1:=⟨k-o-1,by omega⟩;rw[hm,List.getElem?_cons_succ,show k-(o+1)=m by omega]
  ·rw[oIN h1,Array.getElem?_setIfInBounds];by_cases h2:o=k
   ·subst h2;by_cases h3:o<c.size
    ·rw[oIP rfl,oIP h3,oIP (by omega),Nat.sub_self];rfl
    ·rw[oIP rfl,oIN h3,oIN (by omega),Array.getElem?_eq_none (by omega)]
   ·rw[oIN h2,oIN (by omega)]
theorem zM(b:Nat):∀(vs:List Value)(w:World)(o:Nat),vs≠[]->w.setCells b o vs=mapBlock w b λc=>zL c o vs:=by
 intro vs
 induction vs with
 |nil=>intro w o h;exact absurd rfl h
 |cons v r ih=>
  intro w o _;show(w.setCell ⟨b,o,none⟩ v).setCells b (o+1) r=_;rw[setCell_eq];by_cases hr:r=[]
  ·subst hr;rfl
  ·rw[ih _ _ hr,mapBlock_mapBlock];rfl
theorem ML(zs:List Int)(c:Array Value):putCells (Value.int .i64) 0 zs.toArray c=zL c 0 (zs.map λz=>.int .i64 z):=by
 apply Array.ext_getElem?;intro k;rw[EP,List.length_map];unfold putCells;rw[Array.getElem?_mapIdx];by_cases h:k<c.size
 ·rw[Array.getElem?_eq_getElem h];simp only[oMS,List.size_toArray,Nat.zero_add,Nat.sub_zero];by_cases g:k<zs.length
  ·rw[oIP ⟨Nat.zero_le _,g⟩,oIP ⟨Nat.zero_le _,g,h⟩,List.getElem?_map,oGE g];simp[g]
  ·rw[oIN (by omega),oIN (by omega)]
 ·rw[Array.getElem?_eq_none (by omega),oIN (by omega)];rfl
theorem zN(w:World)(b:Nat){zs:List Int}(h:zs≠[]):w.setCells b 0 (zs.map λz=>.int .i64 z)=putRow (Value.int .i64) w b 0 zs.toArray:=by
 rw[zM b _ w 0 (by simpa using h)];unfold putRow;congr 1;funext c;exact(ML zs c).symm
section
variable {M:Fm} {σ σ':St} {ts:Array Value} {w:World} {G:Gh}
end
end Go.Proofs.YtakfoejcjdcgbaaGreat
namespace Go.Proofs.YtakfoejcjdcgbaaGreat
open Go.Shelf
def B0:Go.Shelf.Ren:=⟨λ|189=>57|125=>93|257=>92|128=>129|129=>130|294=>120|295=>121|296=>122|297=>123|298=>124|299=>125|216=>126|300=>127|301=>128|328=>140|329=>141|330=>142|331=>143|332=>144|215=>139|343=>156|n=>n,λ|28=>42|3=>3|46=>127|0=>0|51=>161|53=>163|4=>4|183=>153|182=>152|131=>158|5=>5|9=>9|218=>171|222=>175|228=>183|229=>184|n=>n,λ|n=>n⟩
theorem H9:Go.Proofs.Lays.n189 Tryz.prog B0:={
 mixed:=by kernel_rfl
 f125:=Tryz.func93.trans (congrArg some (by kernel_rfl))
 f128:=Tryz.func129.trans (congrArg some (by kernel_rfl))
 f129:=Tryz.func130.trans (congrArg some (by kernel_rfl))
 f189:=Tryz.func57.trans (congrArg some (by kernel_rfl))
 f215:=Tryz.func139.trans (congrArg some (by kernel_rfl))
 f216:=Tryz.func126.trans (congrArg some (by kernel_rfl))
 f257:=Tryz.func92.trans (congrArg some (by kernel_rfl))
 f294:=Tryz.func120.trans (congrArg some (by kernel_rfl))
 f295:=Tryz.func121.trans (congrArg some (by kernel_rfl))
 f296:=Tryz.func122.trans (congrArg some (by kernel_rfl))
 f297:=Tryz.func123.trans (congrArg some (by kernel_rfl))
 f298:=Tryz.func124.trans (congrArg some (by kernel_rfl))
 f299:=Tryz.func125.trans (congrArg some (by kernel_rfl))
 f300:=Tryz.func127.trans (congrArg some (by kernel_rfl))
 f301:=Tryz.func128.trans (congrArg some (by kernel_rfl))
 f328:=Tryz.func140.trans (congrArg some (by kernel_rfl))
 f329:=Tryz.func141.trans (congrArg some (by kernel_rfl))
 f330:=Tryz.func142.trans (congrArg some (by kernel_rfl))
 f331:=Tryz.func143.trans (congrArg some (by kernel_rfl))
 f332:=Tryz.func144.trans (congrArg some (by kernel_rfl))
 f343:=Tryz.func156.trans (congrArg some (by kernel_rfl))
 t0:=Tryz.underlying0
 a0:=Tryz.isAgg0
 z0:=Tryz.sizeOf0
 v0:=Tryz.zeroValue0
 t3:=Tryz.underlying3
 a3:=Tryz.isAgg3
 z3:=Tryz.sizeOf3
 v3:=Tryz.zeroValue3
 t4:=Tryz.underlying4
 a4:=Tryz.isAgg4
 z4:=Tryz.sizeOf4
 v4:=Tryz.zeroValue4
 t5:=Tryz.underlying5
 a5:=Tryz.isAgg5
 z5:=Tryz.sizeOf5
 v5:=Tryz.zeroValue5
 t9:=Tryz.underlying9
 a9:=Tryz.isAgg9
 z9:=Tryz.sizeOf9
 v9:=Tryz.zeroValue9
 t28:=Tryz.underlying42
 a28:=Tryz.isAgg42
 z28:=Tryz.sizeOf42
 v28:=Tryz.zeroValue42
 t46:=Tryz.underlying127
 a46:=Tryz.isAgg127
 z46:=Tryz.sizeOf127
 v46:=Tryz.zeroValue127
 t51:=Tryz.underlying161
 a51:=Tryz.isAgg161
 z51:=Tryz.sizeOf161
 v51:=Tryz.zeroValue161
 t53:=Tryz.underlying163
 a53:=Tryz.isAgg163
 z53:=Tryz.sizeOf163
 v53:=Tryz.zeroValue163
 t131:=Tryz.underlying158
 a131:=Tryz.isAgg158
 z131:=Tryz.sizeOf158
 v131:=Tryz.zeroValue158
 t182:=Tryz.underlying152
 a182:=Tryz.isAgg152
 z182:=Tryz.sizeOf152
 v182:=Tryz.zeroValue152
 t183:=Tryz.underlying153
 a183:=Tryz.isAgg153
 z183:=Tryz.sizeOf153
 v183:=Tryz.zeroValue153
 t218:=Tryz.underlying171
 a218:=Tryz.isAgg171
 z218:=Tryz.sizeOf171
 v218:=Tryz.zeroValue171
 t222:=Tryz.underlying175
 a222:=Tryz.isAgg175
 z222:=Tryz.sizeOf175
 v222:=Tryz.zeroValue175
 t228:=Tryz.underlying183
 a228:=Tryz.isAgg183
 z228:=Tryz.sizeOf183
 v228:=Tryz.zeroValue183
 t229:=Tryz.underlying184
 a229:=Tryz.isAgg184
 z229:=Tryz.sizeOf184
 v229:=Tryz.zeroValue184 }
def BZ:Go.Shelf.Ren:=⟨λ|20=>59|n=>n,λ|22=>42|3=>3|4=>4|0=>0|n=>n,λ|n=>n⟩
theorem H8:Go.Proofs.Lays2.n20 Tryz.prog BZ:={
 mixed:=by kernel_rfl
 f20:=Tryz.func59.trans (congrArg some (by kernel_rfl))
 t0:=Tryz.underlying0
 a0:=Tryz.isAgg0
 z0:=Tryz.sizeOf0
 v0:=Tryz.zeroValue0
 t3:=Tryz.underlying3
 a3:=Tryz.isAgg3
 z3:=Tryz.sizeOf3
 v3:=Tryz.zeroValue3
 t4:=Tryz.underlying4
 a4:=Tryz.isAgg4
 z4:=Tryz.sizeOf4
 v4:=Tryz.zeroValue4
 t22:=Tryz.underlying42
 a22:=Tryz.isAgg42
 z22:=Tryz.sizeOf42
 v22:=Tryz.zeroValue42
 i3:=by kernel_rfl }
end Go.Proofs.YtakfoejcjdcgbaaGreat
namespace Go.Proofs.YtakfoejcjdcgbaaGreat
open Go.RowKit Go.Sort
theorem xu(w:World)(b o:Nat)(d:Array Int):(putRow (Value.int .i64) w b o d).heap.size=w.heap.size:=by simp[putRow,mapBlock]
theorem DV{w:World}{b:Nat}{zs:List Int}(h:∀j,j<zs.length->w.cell? ⟨b,j,none⟩=some (FU (zs.getD j 0))/\w.frozen? ⟨b,j,none⟩=false):Holds (Value.int .i64) w b 0 zs.toArray:=by
 intro j hj
 have hj:j<zs.length:=by simpa using hj
 rw[Nat.zero_add];refine⟨(h j hj).1.trans ?_,(h j hj).2⟩;simp[FU,hj,oGD]
theorem zP{w:World}{b:Nat}{zs:List Int}(hz:zs≠[])(q:Nat){j:Nat}(hj:j<w.heap.size)(os:Array Obj):(Sort.grow (putRow (Value.int .i64) (Sort.ahead w q) b 0 zs.toArray) os).heap[j]?=(w.setCells b 0 (zs.map FU)).heap[j]?:=by
 rw[show zs.map FU=zs.map λz=>Value.int .i64 z from rfl,zN w b hz];show((putRow (Value.int .i64) w b 0 zs.toArray).heap++os)[j]?=_;exact Array.getElem?_append_left (by rw[xu];exact hj)
theorem Jz:Lb Tryz.prog 1 57:=by
 refine⟨iL Tryz.func57 (by kernel_rfl) rfl,λa w=>Any.slices_Sort_int_none H9 a 0 w,λb cap zs w hz Vt hc hm hb hcell=>?_⟩;refine(Any.slices_Sort_int H9 b 0 cap zs w (DV hcell) hb Vt).mono ?_;rintro e w' ⟨rfl,n,os,rfl⟩;refine⟨rfl,rfl,rfl,rfl,?_,λj hj=>?_⟩
 ·show _<=((putRow (Value.int .i64) w b 0 _).heap++os).size;rw[Array.size_append,xu];exact Nat.le_add_right _ _
 ·exact zP (zs:=ue 1 zs) (λh=>hz (oEN (by rw[<- mD 1,h];rfl))) n hj os
theorem CM:Lb Tryz.prog 2 59:=by
 refine⟨iL Tryz.func59 (by kernel_rfl) rfl,λa w=>Any.slices_Compact_int_empty H8 a 0 w,λb cap zs w hz Vt hc hm hb hcell=>?_⟩;refine(Any.slices_Compact_int H8 b 0 cap zs w (DV hcell) (by omega) hc).mono ?_;rintro e w' ⟨rfl,n,rfl⟩;refine⟨rfl,rfl,rfl,rfl,?_,λj hj=>?_⟩
 ·show _<=(putRow (Value.int .i64) w b 0 _).heap.size;rw[xu];exact Nat.le_refl _
 ·have h:=zP (w:=w) (b:=b) (zs:=ue 2 zs) (λh=>hz (oEN (by rw[<- mD 2,h];rfl))) n hj #[];rw[<- h];show _=((putRow (Value.int .i64) (Sort.ahead w n) b 0 _).heap++#[])[j]?;rw[Array.append_empty];rfl
end Go.Proofs.YtakfoejcjdcgbaaGreat
namespace Go.Proofs.YtakfoejcjdcgbaaGreat
open Go.RowKit
theorem PQ:(Tryz.prog.funcs.all λfn=>!(fn.name=="runtime.NumGoroutine"))=true:=by kernel_rfl
theorem E5:gS Tryz.prog 14:=by
 obtain⟨fn,hf,hb⟩:∃fn,Tryz.prog.funcs[14]?=some fn/\fn.body.isSome=true:=by
  have hs:(match Tryz.prog.funcs[14]? with|some fn=>fn.body.isSome|none=>false)=true:=by kernel_rfl
  cases h:Tryz.prog.funcs[14]? with
  |none=>rw[h]at hs;cases hs
  |some fn=>rw[h]at hs;exact⟨fn,rfl,hs⟩
 obtain⟨c,hc⟩:=Option.isSome_iff_exists.1 hb;refine iL hf ?_ hc;obtain⟨hlt,he⟩:=Array.getElem?_eq_some_iff.1 hf;have:=Array.all_eq_true.1 PQ 14 hlt;rw[he]at this;simpa using this
def NQ(x:Value)(w:World)(e:Ending)(w':World):Prop:=e=.returned (.pointer (some ⟨w.heap.size,0,none⟩))/\w'=w.alloc (.cells #[x,.int .i64 0] 80)
theorem MX(x:Value)(hx:x.oneCell'=true)(w:World):
 Calls Tryz.prog 14 #[x] w (NQ x w):=by
 cases x
 all_goals first
  |(go_enter Tryz.func14,Tryz.ntmps14
    go_wp2
    go_ret
    exact⟨rfl,rfl⟩)
  |simp[Value.oneCell']at hx
theorem O7:zo Tryz.prog E0:=by
 intro f n tm h;simp only[E0]at h;split at h
 ·rename_i e;subst e
  injection h with h
  injection h with h1 h2
  subst h1 h2;refine⟨E5,λx hx=>?_,80,λl2 w hl Zs=>?_⟩
  ·simp only[List.mem_cons,List.not_mem_nil,or_false]at hx;rcases hx with hx|hx
   ·injection hx
   ·injection hx with hx;rw[hx];rfl
  ·match l2,hl with
   | [x],_=>exact MX x (Zs x (by simp[bxV])) w
 ·simp at h
theorem e0_ok:wq Tryz.prog E0:=⟨O7,λf hf=>by
 by_cases h1:f=57
 ·subst h1;exact⟨λ_=>Jz,λh=>by cases h⟩
 ·by_cases h2:f=59
  ·subst h2;exact⟨λ_=>CM,λh=>by cases h⟩
  ·by_cases h3:f=90
   ·subst h3;exact⟨λh=>absurd rfl h,λ_=>DG⟩
   ·exact absurd (show E0.row f=0 from(oIN h1).trans ((oIN h2).trans (oIN h3))) hf⟩
def Ok{α:Type}(o:Option α)(Q:α->Prop):Prop:=∃a,o=some a/\Q a
section
variable {α β:Type}
theorem Ok.ret{a:α}{Q:α->Prop}(h:Q a):Ok (some a) Q:=⟨a,rfl,h⟩
theorem Ok.bind{o:Option α}{f:α->Option β}{P:α->Prop}{Q:β->Prop}(h:Ok o P)(h2:∀a,P a->Ok (f a) Q):Ok (o.bind f) Q:=by
 obtain⟨a,rfl,h1⟩:=h
 simp_all
theorem Ok.mono{o:Option α}{P Q:α->Prop}(h:Ok o P)(h2:∀a,P a->Q a):Ok o Q:=by
 have ⟨a,e,h1⟩:=h;exact⟨a,e,h2 a h1⟩
theorem Ok.cond{c:Bool}{a b:Option α}{Q:α->Prop}(h1:c=true->Ok a Q)(h2:c=false->Ok b Q):Ok (bif c then a else b) Q:=by
 grind
class BP (b:Bool) (P N:outParam Prop):Prop where
 t:b=true->P
 f:b=false->N
theorem Ok.get{l:List α}{i:Nat}{f:α->Option β}{Q:β->Prop}(h:i<l.length)(h2:∀a,l[i]?=some a->Ok (f a) Q):Ok ((bV l i).bind f) Q:=by
 have e:bV l i=some l[i]:=oGE h
 simp_all
theorem Ok.nat{x:Int}{f:Nat->Option β}{Q:β->Prop}(h:0<=x)(h2:∀n:Nat,x=n->Ok (f n) Q):Ok ((cj x).bind f) Q:=by
 obtain⟨n,rfl⟩:∃n:Nat,x=n:=⟨x.toNat,by omega⟩;exact h2 n rfl
theorem Ok.val{v:α}{f:α->Option β}{Q:β->Prop}(h:∀x,x=v->Ok (f x) Q):Ok (f v) Q:=h v rfl
theorem NU{c:Bool}{a b:Option α}{Q:α->Prop}(hc:c=true)(h1:Ok a Q):Ok (bif c then a else b) Q:=by simp_all
theorem oD{S T:Type}{f:S->Option (S⊕T)}(P:S->Prop)(R:T->Prop)(m:S->Nat){n:Nat}{s:S}(hs:P s)(hm:m s<n)
 (h:∀s,P s->Ok (f s) λr=>match r with|.inl s'=>P s'/\m s'<m s|.inr t=>R t):Ok (bM f n s) R:=by
 induction n generalizing s with
 |zero=>omega
 |succ n ih=>
  have ⟨r,e,hr⟩:=h s hs
  cases r with
  |inl s'=>
   have ⟨t,e2,hq⟩:=ih hr.1 (by omega);exact⟨t,by simp[bM,e];exact e2,hq⟩
  |inr t=>exact⟨t,by simp[bM,e],hr⟩
theorem Ok.loop{S T:Type}{f:S->Option (S⊕T)}{g:T->Option β}{Q:β->Prop}(P:S->Prop)(R:T->Prop)(m:S->Nat){n:Nat}{s:S}(hs:P s)(hm:m s<n)
 (h:∀s,P s->Ok (f s) λr=>match r with|.inl s'=>P s'/\m s'<m s|.inr t=>R t)(hg:∀t,R t->Ok (g t) Q):Ok ((bM f n s).bind g) Q:=(oD P R m hs hm h).bind hg
end
theorem bS{x:Int}(h1:-9223372036854775808<=x)(h2:x<=9223372036854775807):w64 x=x:=wrap_i64 h1 h2
theorem bN(n:Nat):cj (n:Int)=some n:=rfl
theorem DI(n:Nat):bJ n=(n:Int):=rfl
theorem loop_seq{S T:Type}{f:S->Option (S⊕T)}(st:Nat->S){n N:Nat}{fin:T}(hn:n<N)(h:∀i,i<n->f (st i)=some (.inl (st (i+1))))(he:f (st n)=some (.inr fin)):bM f N (st 0)=some fin:=by
 have Z0:∀k i,i+k=n->k<N->∀M,k<M->bM f M (st i)=some fin:=by
  intro k
  induction k with
  |zero=>
   intro i hi _ M hM;obtain⟨M,rfl⟩:∃m,M=m+1:=⟨M-1,by omega⟩
   have:i=n:=by omega
   subst this;simp[bM,he]
  |succ k ih=>
   intro i hi hk M hM;obtain⟨M,rfl⟩:∃m,M=m+1:=⟨M-1,by omega⟩;simp only[bM,h i (by omega),oBS];exact ih (i+1) (by omega) (by omega) M (by omega)
 exact Z0 n 0 (by omega) hn N hn
theorem fD{S T:Type}{f:S->Option (S⊕T)}(st:Nat->S)(p:Nat->Prop){n N:Nat}{bad:Nat->T}{fin:T}(hn:n<N)
 (h:∀i,i<n->(p i/\f (st i)=some (.inl (st (i+1))))\/(¬p i/\f (st i)=some (.inr (bad i))))(he:f (st n)=some (.inr fin)):
 ((∀i,i<n->p i)/\bM f N (st 0)=some fin)\/∃k,k<n/\(∀i,i<k->p i)/\¬p k/\bM f N (st 0)=some (bad k):=by
 have Z0:∀k i,i+k=n->(∀j,j<i->p j)->∀M,k<M->((∀i,i<n->p i)/\bM f M (st i)=some fin)\/∃k,k<n/\(∀i,i<k->p i)/\¬p k/\bM f M (st i)=some (bad k):=by
  intro k
  induction k with
  |zero=>
   intro i hi hp M hM;obtain⟨M,rfl⟩:∃m,M=m+1:=⟨M-1,by omega⟩
   have:i=n:=by omega
   subst this;exact .inl ⟨hp,by simp[bM,he]⟩
  |succ k ih=>
   intro i hi hp M hM;obtain⟨M,rfl⟩:∃m,M=m+1:=⟨M-1,by omega⟩
   rcases h i (by omega)with⟨h1,e⟩|⟨h1,e⟩
   ·simp only[bM,e,oBS]
    exact ih (i+1) (by omega) (λj hj=>by
     by_cases e:j=i
     ·subst e;exact h1
     ·exact hp j (by omega)) M (by omega)
   ·exact .inr ⟨i,by omega,hp,h1,by simp[bM,e]⟩
 exact Z0 n 0 (by omega) (λj hj=>by omega) N hn
abbrev Sm{α:Type}(l:List α):Prop:=l.length<=1099511627776
theorem eu{n:Nat}(h:n<=1099511627776):n<NN:=by unfold NN;omega
theorem bO{α:Type}{l:List α}{i:Nat}(h:i<l.length):bV l i=some l[i]:=oGE h
theorem Ls(x y:PID):((x.1==y.1)&&((x.2==y.2)&&true))=decide (x=y):=by
 rw[Bool.and_true,Bool.eq_iff_iff];simp[Prod.ext_iff]
theorem eA{α:Type}{l:List α}{i:Nat}(h:i<l.length):l.take i++[l[i]]=l.take (i+1):=(List.take_append_getElem h)
theorem bQ{sz n m:Nat}(h1:n<=1099511627776)(h2:m<=1099511627776)(h3:sz<=128)(h4:n+m<=1099511627776):b8 sz n m=true:=by
 unfold b8;have:(n+m)*sz<=1099511627776*128:=Nat.mul_le_mul h4 h3;simp only[oBA,oDE];exact⟨h4,by omega⟩
theorem OA{a b:List PID}(ha:Sm a)(hb:Sm b):la a b=some (decide (a=b),()):=by
 unfold la;simp only[DI];by_cases hl:a.length=b.length
 rotate_left
 ·have:(((a.length:Int) != (b.length:Int)))=true:=by simp;omega
  rw[this,oCT,oDF λe=>hl (by rw[e])]
 have:(((a.length:Int) != (b.length:Int)))=false:=by simp;omega
 rw[this,oCF]
 have step:∀i,i<a.length->(a[i]?=b[i]?/\cX (a,b,(i:Int),())=some (.inl (a,b,((i+1:Nat):Int),())))\/(¬a[i]?=b[i]?/\cX (a,b,(i:Int),())=some (.inr (.inl (false,())))):=by
  intro i hi;unfold cX;delta bJ
  have ZT:i<b.length:=by omega
  dsimp only;rw[oDT (show(i:Int)<a.length by omega),oCT,bN];simp only[oBS,bO hi,bO ZT,Ls];rw[bS (by omega) (by omega)];rw[oGE hi,oGE ZT];by_cases e:a[i]=b[i]
  ·rw[oDT e];exact .inl ⟨by rw[e],rfl⟩
  ·rw[oDF e];exact .inr ⟨λh=>e (by injection h),rfl⟩
 have fin:cX (a,b,(a.length:Int),())=some (.inr (.inr (a,b,(a.length:Int),false,()))):=by
  unfold cX;delta bJ;dsimp only;rw[oDF (show ¬(a.length:Int)<a.length by omega)];rfl
 rcases fD (f:=cX) (λi=>(a,b,(i:Int),())) _ (eu ha) step fin with⟨h1,h2⟩|⟨k,hk,_,h1,h2⟩
 ·simp only[show bM cX NN (a,b,0,())=_ from h2];rw[oDT (p:=a=b)]
  exact List.ext_getElem? λi=>by
   by_cases hi:i<a.length
   ·exact h1 i hi
   ·rw[oGN (by omega),oGN (by omega)]
 ·simp only[show bM cX NN (a,b,0,())=_ from h2];rw[oDF λe=>h1 (by rw[e])]
theorem zf{a:List PID}(h:Sm a):cO a=some (a,()):=by
 unfold cO;rw[bQ (by omega) h (by omega) (by have:=h;omega),oCT];rfl
theorem Jy{a:List PID}(h:Sm a):dE a=some (lX a,()):=oIP h
theorem M4{a b:List PID}(h:a.length+b.length<=1099511627776):j8 a b=some (lX (a++b),()):=by
 unfold j8 dn
 have e:List.flatten [a,b]=a++b:=by simp
 dsimp only;rw[e,oIP ⟨by rw[List.length_append];exact h,by simp⟩,oBS];dsimp only;rw[Jy (show Sm (a++b) by unfold Sm;rw[List.length_append];exact h)];rfl
def jl(n:Nat)(k:Int):Nat:=(max 0 (min k (n:Int))).toNat
theorem P5(n:Nat)(k:Int):mmR true 0 (mmR false k (bJ n))=(jl n k:Int):=by
 rw[DI];unfold mmR jl;simp only[Bool.false_eq_true,if_false,if_true];by_cases h1:(n:Int)<k
 ·rw[oIP h1,Int.min_eq_right (by omega)];by_cases h2:(0:Int)<n
  ·rw[oIP h2,Int.max_eq_right (by omega),Int.toNat_of_nonneg (by omega)]
  ·rw[oIN h2,Int.max_eq_left (by omega)];rfl
 ·rw[oIN h1,Int.min_eq_left (by omega)];by_cases h2:(0:Int)<k
  ·rw[oIP h2,Int.max_eq_right (by omega),Int.toNat_of_nonneg (by omega)]
  ·rw[oIN h2,Int.max_eq_left (by omega)];rfl
theorem Di(n:Nat)(k:Int):jl n k<=n:=by
 unfold jl;omega
theorem Oo{a:List PID}(h:Sm a)(k:Int):lf a k=some (a.take (jl a.length k),a.drop (jl a.length k),()):=by
 unfold lf;dsimp only;have hk:=Di a.length k;have h0:=h;simp only[P5,bN,oBS]
 have e1:cR 0 (jl a.length k) a.length=true:=by unfold cR;simp[hk]
 have e2:cR (jl a.length k) a.length a.length=true:=by unfold cR;simp[hk]
 have e3:px a 0 (Nat.sub (jl a.length k) 0)=a.take (jl a.length k):=by unfold px;rfl
 have e4:px a (jl a.length k) (Nat.sub a.length (jl a.length k))=a.drop (jl a.length k):=by
  unfold px;rw[List.take_of_length_le (by rw[List.length_drop];exact Nat.le_refl _)]
 rw[e1,oCT,e3,zf (by unfold Sm;rw[oLT];omega),oBS];dsimp only;rw[e2,oCT,e4,zf (by unfold Sm;rw[List.length_drop];omega)];rfl
theorem I3:fP=some (true,()):=rfl
theorem mb{α S T:Type}[DecidableEq α]{a b:List α}(hl:a.length=b.length)(hs:Sm a){f:S->Option (S⊕T)}(st:Nat->S){bad fin:T}
 (step:∀i (h:i<a.length)(h':i<b.length),f (st i)=bif decide (a[i]=b[i])then some (.inl (st (i+1)))else some (.inr bad))(he:f (st a.length)=some (.inr fin)):
 bM f NN (st 0)=some (bif decide (a=b)then fin else bad):=by
 rcases fD (f:=f) st (λi=>a[i]?=b[i]?) (bad:=λ_=>bad) (eu hs) (λi hi=>by
  rw[step i hi (hl▸hi),oGE hi,oGE (hl▸hi)];by_cases e:a[i]=b[i]'(hl▸hi)
  ·exact .inl ⟨by rw[e],by rw[oDT e];rfl⟩
  ·exact .inr ⟨λh=>e (by injection h),by rw[oDF e];rfl⟩) he with⟨h1,h2⟩|⟨k,hk,_,h1,h2⟩
 ·rw[h2,oDT (p:=a=b)]
  ·rfl
  ·exact List.ext_getElem? λi=>by
    by_cases hi:i<a.length
    ·exact h1 i hi
    ·rw[oGN (by omega),oGN (by omega)]
 ·rw[h2,oDF λe=>h1 (by rw[e])];rfl
theorem qw{α:Type}{a b:List α}(h:a.length=b.length):((a.length:Int) != (b.length:Int))=false:=by simp;omega
theorem mF{α:Type}{a b:List α}(h:¬a.length=b.length):((a.length:Int) != (b.length:Int))=true:=by simp;omega
theorem Lw(x y:Int):(x != y)=!decide (x=y):=by
 by_cases h:x=y
 ·subst h;simp
 ·rw[oDF h,bne_iff_ne.2 h];rfl
theorem oR{α:Type}(b:Bool)(x y:α):(bif !b then x else y)=bif b then y else x:=by cases b<;>rfl
theorem LK(x y:DCn):(!((x.1==y.1)&&((x.2.1==y.2.1)&&((x.2.2.1==y.2.2.1)&&((x.2.2.2==y.2.2.2)&&true)))))=!decide (x=y):=by
 congr 1;rw[Bool.and_true,Bool.eq_iff_iff];simp[Prod.ext_iff]
theorem LE{a b:List Int}(ha:Sm a):gi a b=some (decide (a=b),()):=by
 unfold gi;delta bJ;dsimp only;by_cases hl:a.length=b.length
 rotate_left
 ·rw[mF hl,oCT,oDF λe=>hl (by rw[e])]
 rw[qw hl,oCF];have h0:=ha
 have:=mb (f:=dw) hl ha (λi=>(a,b,(a.length:Int),(i:Int),())) (bad:=.inl (false,())) (fin:=.inr (a,b,(a.length:Int),(a.length:Int),false,()))
  (λi h h'=>by
   unfold dw;dsimp only;rw[oDT (show(i:Int)<a.length by omega),oCT,bN];simp only[oBS,bO h,bO h',Lw,oR];rw[bS (by omega) (by omega)]
   rfl)
  (by
   unfold dw;dsimp only;rw[oDF (show ¬(a.length:Int)<a.length by omega)]
   rfl)
 rw[show bM dw NN (a,b,(a.length:Int),0,())=_ from this];by_cases e:a=b
 ·rw[oDT e];rfl
 ·rw[oDF e];rfl
theorem zO{a b:List Int}(ha:Sm a):gX a b=some (decide (a=b),()):=by
 unfold gX;delta bJ;dsimp only;by_cases hl:a.length=b.length
 rotate_left
 ·rw[mF hl,oCT,oDF λe=>hl (by rw[e])]
 rw[qw hl,oCF];have h0:=ha
 have:=mb (f:=d8) hl ha (λi=>(a,b,(i:Int),())) (bad:=.inl (false,())) (fin:=.inr (a,b,(a.length:Int),false,()))
  (λi h h'=>by
   unfold d8;delta bJ;dsimp only;rw[oDT (show(i:Int)<a.length by omega),oCT,bN];simp only[oBS,bO h,bO h',Lw,oR];rw[bS (by omega) (by omega)]
   rfl)
  (by
   unfold d8;delta bJ;dsimp only;rw[oDF (show ¬(a.length:Int)<a.length by omega)]
   rfl)
 rw[show bM d8 NN (a,b,0,())=_ from this];by_cases e:a=b
 ·rw[oDT e];rfl
 ·rw[oDF e];rfl
theorem D5{a b:List DCn}(ha:Sm a):dR a b=some (decide (a=b),()):=by
 unfold dR;delta bJ;dsimp only;by_cases hl:a.length=b.length
 rotate_left
 ·rw[mF hl,oCT,oDF λe=>hl (by rw[e])]
 rw[qw hl,oCF];have h0:=ha
 have:=mb (f:=cU) hl ha (λi=>(a,b,(a.length:Int),(i:Int),())) (bad:=.inl (false,())) (fin:=.inr (a,b,(a.length:Int),(a.length:Int),false,()))
  (λi h h'=>by
   unfold cU;dsimp only;rw[oDT (show(i:Int)<a.length by omega),oCT,bN];simp only[oBS,bO h,bO h',LK,oR];rw[bS (by omega) (by omega)]
   rfl)
  (by
   unfold cU;dsimp only;rw[oDF (show ¬(a.length:Int)<a.length by omega)]
   rfl)
 rw[show bM cU NN (a,b,(a.length:Int),0,())=_ from this];by_cases e:a=b
 ·rw[oDT e];rfl
 ·rw[oDF e];rfl
theorem oI{a b:List DCn}(ha:Sm a):d5 a b=some (decide (a=b),()):=by
 unfold d5;delta bJ;dsimp only;by_cases hl:a.length=b.length
 rotate_left
 ·rw[mF hl,oCT,oDF λe=>hl (by rw[e])]
 rw[qw hl,oCF];have h0:=ha
 have:=mb (f:=dS) hl ha (λi=>(a,b,(i:Int),())) (bad:=.inl (false,())) (fin:=.inr (a,b,(a.length:Int),false,()))
  (λi h h'=>by
   unfold dS;delta bJ;dsimp only;rw[oDT (show(i:Int)<a.length by omega),oCT,bN];simp only[oBS,bO h,bO h',LK,oR];rw[bS (by omega) (by omega)]
   rfl)
  (by
   unfold dS;delta bJ;dsimp only;rw[oDF (show ¬(a.length:Int)<a.length by omega)]
   rfl)
 rw[show bM dS NN (a,b,0,())=_ from this];by_cases e:a=b
 ·rw[oDT e];rfl
 ·rw[oDF e];rfl
abbrev PG:=Int×Int×List DCn×DTs
instance Ql:DecidableEq DCn:=inferInstance
instance Qs:DecidableEq (Int×Int×Int×List DCn):=inferInstance
instance Qj:DecidableEq DTs:=inferInstanceAs (DecidableEq (Int×Int×Int×Int×(Int×Int×Int×List DCn)))
instance Qk:DecidableEq PG:=inferInstanceAs (DecidableEq (Int×Int×List DCn×DTs))
theorem A6{x y:Int}{p:Prop}[Decidable p]:(bif(x==y)then(some (decide p,()))else some (false,()):Option (Bool×Unit))=some (decide (x=y/\p),()):=by
 by_cases h:x=y
 ·subst h;simp
 ·rw[oBF h,oDF (p:=x=y/\p) λe=>h e.1];rfl
theorem wX{p q:Prop}[Decidable p][Decidable q]:((some (decide p,())).bind λ(x0,_)=>bif x0 then some (decide q,())else some (false,()):Option (Bool×Unit))=some (decide (p/\q),()):=by
 by_cases h:p<;>by_cases h':q<;>simp[h,h']
theorem wW{x y z w:Int}{p:Prop}[Decidable p]:(bif((x==y)&&((z==w)&&true))then(some (decide p,()))else some (false,()):Option (Bool×Unit))=some (decide (x=y/\z=w/\p),()):=by
 by_cases h:x=y
 ·subst h;by_cases h:z=w
  ·subst h;simp
  ·rw[oBF h,oDF (p:=x=x/\z=w/\p) λe=>h e.2.1];simp
 ·rw[oBF h,oDF (p:=x=y/\z=w/\p) λe=>h e.1];rfl
theorem vk{o:Option (Bool×Unit)}:(o.bind λ(x0,_)=>some (x0,()))=o:=by
 cases o with
 |none=>rfl
 |some x=>obtain⟨x,⟨⟩⟩:=x;rfl
theorem Nt{x y:PG}(hx:Sm x.2.2.1)(hy:Sm x.2.2.2.2.2.2.2.2.2.2):
 j5 x.1 x.2.1 x.2.2.1 x.2.2.2.1 x.2.2.2.2.1 x.2.2.2.2.2.1 x.2.2.2.2.2.2.1 x.2.2.2.2.2.2.2.1 x.2.2.2.2.2.2.2.2.1 x.2.2.2.2.2.2.2.2.2.1 x.2.2.2.2.2.2.2.2.2.2 y.1 y.2.1 y.2.2.1 y.2.2.2.1 y.2.2.2.2.1 y.2.2.2.2.2.1 y.2.2.2.2.2.2.1 y.2.2.2.2.2.2.2.1 y.2.2.2.2.2.2.2.2.1 y.2.2.2.2.2.2.2.2.2.1 y.2.2.2.2.2.2.2.2.2.2=some (decide (x=y),()):=by
 unfold j5;simp only[D5 hx,D5 hy,vk,A6,wX,wW];congr 2;rw[decide_eq_decide];simp only[Prod.ext_iff,and_assoc]
theorem ua{x y:DTs}(hx:Sm x.2.2.2.2.2.2.2):
 fX x.1 x.2.1 x.2.2.1 x.2.2.2.1 x.2.2.2.2.1 x.2.2.2.2.2.1 x.2.2.2.2.2.2.1 x.2.2.2.2.2.2.2 y.1 y.2.1 y.2.2.1 y.2.2.2.1 y.2.2.2.2.1 y.2.2.2.2.2.1 y.2.2.2.2.2.2.1 y.2.2.2.2.2.2.2=some (decide (x=y),()):=by
 unfold fX;simp only[oI hx,vk,A6];congr 2;rw[decide_eq_decide];simp only[Prod.ext_iff,and_assoc]
theorem Ns{x y:PG}(hx:Sm x.2.2.1)(hy:Sm x.2.2.2.2.2.2.2.2.2.2):
 fO x.1 x.2.1 x.2.2.1 x.2.2.2.1 x.2.2.2.2.1 x.2.2.2.2.2.1 x.2.2.2.2.2.2.1 x.2.2.2.2.2.2.2.1 x.2.2.2.2.2.2.2.2.1 x.2.2.2.2.2.2.2.2.2.1 x.2.2.2.2.2.2.2.2.2.2 y.1 y.2.1 y.2.2.1 y.2.2.2.1 y.2.2.2.2.1 y.2.2.2.2.2.1 y.2.2.2.2.2.2.1 y.2.2.2.2.2.2.2.1 y.2.2.2.2.2.2.2.2.1 y.2.2.2.2.2.2.2.2.2.1 y.2.2.2.2.2.2.2.2.2.2=some (decide (x=y),()):=by
 unfold fO;have:=ua (x:=x.2.2.2) (y:=y.2.2.2) hy;simp only[oI hx,this,vk,wX,wW];congr 2;rw[decide_eq_decide];simp only[Prod.ext_iff,and_assoc]
abbrev CC:=List (List DCn)
abbrev TT':=List DTs
def szs(C:CC):List Int:=C.map λc=>(c.length:Int)
theorem gr(C:CC):(szs C).length=C.length:=List.length_map _
theorem kW{α β:Type}{f:α->β}{l:List α}{i:Nat}(h:i<l.length):(l.take i).map f++[f l[i]]=(l.take (i+1)).map f:=by
 rw[<- eA h,List.map_append];rfl
theorem pD{C:CC}{T:TT'}(h:Sm C):eM C T=some (szs C,()):=by
 unfold eM;delta bJ;dsimp only;have h0:=h
 have step:∀i,i<C.length->dN (C,(C.length:Int),(i:Int),C,T,szs (C.take i),())=some (.inl (C,(C.length:Int),((i+1:Nat):Int),C,T,szs (C.take (i+1)),())):=by
  intro i hi;unfold dN;delta bJ;dsimp only;rw[oDT (show(i:Int)<C.length by omega),oCT,bN];simp only[oBS,bO hi];rw[bQ (by rw[gr,oLT];omega) (by simp) (by omega) (by rw[gr,oLT,List.length_singleton];omega),oCT,bS (by omega) (by omega)];have:List.append (szs (C.take i)) [((C[i].length:Nat):Int)]=szs (C.take (i+1)):=kW (f:=λc:List DCn=>(c.length:Int)) hi;rw[this];rfl
 have fin:dN (C,(C.length:Int),(C.length:Int),C,T,szs (C.take C.length),())=some (.inr (C,(C.length:Int),(C.length:Int),false,C,T,szs (C.take C.length),())):=by
  unfold dN;dsimp only;rw[oDF (show ¬(C.length:Int)<C.length by omega)];rfl
 have:=loop_seq (f:=dN) (λi=>(C,(C.length:Int),(i:Int),C,T,szs (C.take i),())) (eu h) step fin;rw[show bM dN NN (C,(C.length:Int),0,C,T,[],())=_ from this,List.take_length,oBS]
theorem nK{C:CC}{T:TT'}(h:Sm C):dV C T=some (szs C,()):=by
 unfold dV;have h0:=h
 have step:∀i,i<C.length->dL ((i:Int),C,T,szs (C.take i),())=some (.inl (((i+1:Nat):Int),C,T,szs (C.take (i+1)),())):=by
  intro i hi;unfold dL;delta bJ;dsimp only;rw[oDT (show(i:Int)<C.length by omega),oCT,bN];simp only[oBS,bO hi];rw[bQ (by rw[gr,oLT];omega) (by simp) (by omega) (by rw[gr,oLT,List.length_singleton];omega),oCT,bS (by omega) (by omega)];have:List.append (szs (C.take i)) [((C[i].length:Nat):Int)]=szs (C.take (i+1)):=kW (f:=λc:List DCn=>(c.length:Int)) hi;rw[this];rfl
 have fin:dL ((C.length:Int),C,T,szs (C.take C.length),())=some (.inr ((C.length:Int),false,C,T,szs (C.take C.length),())):=by
  unfold dL;delta bJ;dsimp only;rw[oDF (show ¬(C.length:Int)<C.length by omega)];rfl
 have:=loop_seq (f:=dL) (λi=>((i:Int),C,T,szs (C.take i),())) (eu h) step fin;rw[show bM dL NN (0,C,T,[],())=_ from this,List.take_length,oBS]
def okZ(z:Int):Bool:=decide (1<=z/\z<=32)
theorem By(z:Int):iA z=some (okZ z,()):=by
 unfold iA okZ;by_cases h:z>=1
 ·rw[oDT h,oCT];congr 2;rw[decide_eq_decide];omega
 ·rw[oDF h,oCF,oDF (by omega)]
def shp(C:CC)(T:TT'):Prop:=C.length<=4/\T.length<=4/\∀c∈C,okZ (c.length:Int)=true
instance {C:CC} {T:TT'}:Decidable (shp C T):=inferInstanceAs (Decidable (_/\_/\_))
theorem tR{α:Type}{p:α->Bool}{l:List α}(h:∀i,(hi:i<l.length)->p l[i]=true):∀x∈l,p x=true:=by
 intro x hx;obtain⟨i,hi,rfl⟩:=List.mem_iff_getElem.1 hx;exact h i hi
theorem Fv{C:CC}(h:Sm C):cV C=some (!decide (∀c∈C,okZ (c.length:Int)=true),()):=by
 unfold cV fi;delta bJ;dsimp only;have h0:=h
 have step:∀i,i<C.length->((∀hi:i<C.length,okZ (C[i].length:Int)=true)/\bY (C,(C.length:Int),(i:Int),())=some (.inl (C,(C.length:Int),((i+1:Nat):Int),())))\/
  (¬(∀hi:i<C.length,okZ (C[i].length:Int)=true)/\bY (C,(C.length:Int),(i:Int),())=some (.inr (.inl ((i:Int),())))):=by
  intro i hi;unfold bY;dsimp only;rw[oDT (show(i:Int)<C.length by omega),oCT,bN]
  have e:gY C[i]=some (!okZ (C[i].length:Int),()):=by
   unfold gY;delta bJ;dsimp only;rw[By];rfl
  simp only[oBS,bO hi,e];rw[bS (by omega) (by omega)];by_cases q:okZ (C[i].length:Int)=true
  ·exact .inl ⟨λ_=>q,by rw[q];rfl⟩
  ·exact .inr ⟨λg=>q (g hi),by rw[Bool.not_eq_true]at q;rw[q];rfl⟩
 have fin:bY (C,(C.length:Int),(C.length:Int),())=some (.inr (.inr (C,(C.length:Int),(C.length:Int),false,()))):=by
  unfold bY;dsimp only;rw[oDF (show ¬(C.length:Int)<C.length by omega)];rfl
 rcases fD (f:=bY) (λi=>(C,(C.length:Int),(i:Int),())) _ (eu h) step fin with⟨h1,h2⟩|⟨k,hk,_,h1,h2⟩
 ·rw[show bM bY NN (C,(C.length:Int),0,())=_ from h2];rw[oDT (tR (p:=λc:List DCn=>okZ (c.length:Int)) λi hi=>h1 i hi hi)];rfl
 ·rw[show bM bY NN (C,(C.length:Int),0,())=_ from h2];rw[oDF (λg=>h1 λhi=>g _ (List.getElem_mem hi))];simp only[oBS];rw[oDT (show(k:Int)>=0 by omega)];rfl
theorem oH{C:CC}{T:TT'}(h:Sm C):ga C T=some (decide (shp C T),()):=by
 unfold ga;delta bJ;dsimp only;by_cases h1:C.length<=4
 ·rw[oDT (show(C.length:Int)<=4 by omega),oCT];by_cases h2:T.length<=4
  ·rw[oDT (show(T.length:Int)<=4 by omega),oCT,Fv h];simp only[oBS,Bool.not_not];congr 2;rw[decide_eq_decide];exact⟨λg=>⟨h1,h2,g⟩,λg=>g.2.2⟩
  ·rw[oDF (show ¬(T.length:Int)<=4 by omega),oCF,oDF λg=>h2 g.2.1]
 ·rw[oDF (show ¬(C.length:Int)<=4 by omega),oCF,oDF λg=>h1 g.1]
theorem Fu{S:List Int}(h:Sm S)(hok:∀z∈S,okZ z=true):cA S=some (false,()):=by
 unfold cA eB;delta bJ;dsimp only;have h0:=h
 have step:∀i,i<S.length->bR (S,(S.length:Int),(i:Int),())=some (.inl (S,(S.length:Int),((i+1:Nat):Int),())):=by
  intro i hi;unfold bR;dsimp only;rw[oDT (show(i:Int)<S.length by omega),oCT,bN]
  have e:gb S[i]=some (false,()):=by
   unfold gb;rw[By,hok _ (List.getElem_mem hi)];rfl
  simp only[oBS,bO hi,e];rw[bS (by omega) (by omega)];rfl
 have fin:bR (S,(S.length:Int),(S.length:Int),())=some (.inr (.inr (S,(S.length:Int),(S.length:Int),false,()))):=by
  unfold bR;dsimp only;rw[oDF (show ¬(S.length:Int)<S.length by omega)];rfl
 have:=loop_seq (f:=bR) (λi=>(S,(S.length:Int),(i:Int),())) (eu h) step fin;rw[show bM bR NN (S,(S.length:Int),0,())=_ from this];rfl
theorem IQ{S:List Int}{n:Nat}(h:Sm S):∃e:Int,dU S n=some (e,())/\(e=0↔S.length<=4/\n<=4/\∀z∈S,okZ z=true):=by
 unfold dU;delta bJ;dsimp only;by_cases h1:S.length<=4
 rotate_left
 ·rw[oDT (show(S.length:Int)>4 by omega),oCT];exact⟨3,rfl,λg=>absurd g (by decide),λg=>absurd g.1 h1⟩
 rw[oDF (show ¬(S.length:Int)>4 by omega),oCF];by_cases h2:n<=4
 rotate_left
 ·rw[oDT (show(n:Int)>4 by omega),oCT];exact⟨3,rfl,λg=>absurd g (by decide),λg=>absurd g.2.1 h2⟩
 rw[oDF (show ¬(n:Int)>4 by omega),oCF];have h0:=h
 have step:∀i,i<S.length->((∀hi:i<S.length,okZ S[i]=true)/\b5 (S,(n:Int),(i:Int),())=some (.inl (S,(n:Int),((i+1:Nat):Int),())))\/
  (¬(∀hi:i<S.length,okZ S[i]=true)/\b5 (S,(n:Int),(i:Int),())=some (.inr (.inl (1,())))):=by
  intro i hi;unfold b5;delta bJ;dsimp only;rw[oDT (show(i:Int)<S.length by omega),oCT,bN];simp only[oBS,bO hi];rw[bS (by omega) (by omega)];by_cases q1:S[i]<1
  ·rw[oDT q1];exact .inr ⟨λg=>by have:=of_decide_eq_true (g hi);omega,rfl⟩
  ·rw[oDF q1,oCF];by_cases q2:S[i]>32
   ·rw[oDT q2];exact .inr ⟨λg=>by have:=of_decide_eq_true (g hi);omega,rfl⟩
   ·rw[oDF q2,oCF];exact .inl ⟨λ_=>oDT (by omega),rfl⟩
 have fin:b5 (S,(n:Int),(S.length:Int),())=some (.inr (.inr (S,(n:Int),(S.length:Int),false,()))):=by
  unfold b5;delta bJ;dsimp only;rw[oDF (show ¬(S.length:Int)<S.length by omega)];rfl
 rcases fD (f:=b5) (λi=>(S,(n:Int),(i:Int),())) _ (eu h) step fin with⟨g1,g2⟩|⟨k,hk,_,g1,g2⟩
 ·rw[show bM b5 NN (S,(n:Int),0,())=_ from g2];dsimp only;rw[oDF (show ¬(n:Int)<0 by omega)];exact⟨0,rfl,λ_=>⟨h1,h2,tR λi hi=>g1 i hi hi⟩,λ_=>rfl⟩
 ·rw[show bM b5 NN (S,(n:Int),0,())=_ from g2];exact⟨1,rfl,λg=>absurd g (by decide),λg=>absurd (λhi=>g.2.2 _ (List.getElem_mem hi)) g1⟩
theorem xm{C:CC}{T:TT'}:((szs C).length<=4/\T.length<=4/\∀z∈szs C,okZ z=true)↔shp C T:=by
 unfold shp szs;rw[List.length_map];simp
theorem jb{C:CC}{T:TT'}(h:Sm C):eU C T=some (decide (shp C T),()):=by
 unfold eU;rw[nK h];obtain⟨e,h1,h2⟩:=IQ (S:=szs C) (n:=T.length) (show Sm (szs C) by unfold Sm;rw[gr];exact h);rw[xm]at h2;delta bJ;simp only[oBS,h1];congr 2;rw[Bool.eq_iff_iff,beq_iff_eq,decide_eq_true_iff];exact h2
def rF(z:Int):Nat:=((z+7)/8).toNat
def pZ(S:List Int)(i:Nat):List PID:=(List.range (rF (S.getD i 0))).map λ(j:Nat)=>((i:Int),(j:Int))
def pgs(S:List Int)(n:Nat):List PID:=(List.range S.length).flatMap (pZ S)++(List.range n).map λ(t:Nat)=>(-1,(t:Int))
def Szs(S:List Int):Prop:=S.length<=4/\∀z∈S,okZ z=true
theorem zA{S:List Int}(h:Szs S){i:Nat}(hi:i<S.length):1<=S[i]/\S[i]<=32:=of_decide_eq_true (h.2 _ (List.getElem_mem hi))
theorem IM{S:List Int}(h:Szs S){i:Nat}(hi:i<S.length):rF (S.getD i 0)<=4:=by
 have:=zA h hi
 have e:S.getD i 0=S[i]:=by simp[hi]
 rw[e];unfold rF;omega
theorem qn{S:List Int}(h:Szs S):∀i,i<=S.length->((List.range i).flatMap (pZ S)).length<=4*i:=by
 intro i
 induction i with
 |zero=>intro _;simp
 |succ i ih=>
  intro hi;rw[List.range_succ,List.flatMap_append,List.length_append];have h1:=ih (by omega)
  have h2:(pZ S i).length=rF (S.getD i 0):=by unfold pZ;simp
  have h3:=IM h (i:=i) (by omega);simp only[List.flatMap_cons,List.flatMap_nil,List.append_nil];omega
theorem AN{S:List Int}(i:Nat):(List.range (i+1)).flatMap (pZ S)=(List.range i).flatMap (pZ S)++pZ S i:=by
 rw[List.range_succ,List.flatMap_append];simp
theorem oL{α:Type}(f:Nat->α)(j:Nat):(List.range (j+1)).map f=(List.range j).map f++[f j]:=by
 rw[List.range_succ,List.map_append];rfl
theorem zZ{z:Int}(h:1<=z/\z<=32)(j:Nat):((j:Int)*8<z)↔j<rF z:=by
 unfold rF;omega
theorem z7{S:List Int}{n:Nat}(h:Szs S)(hn:n<=4):dD S n=some (pgs S n,0,()):=by
 unfold dD;delta bJ;dsimp only;have h4:=h.1;rw[oDF (show ¬(S.length:Int)>4 by omega),oCF,oDF (show ¬(n:Int)>4 by omega),oCF,oDF (show ¬(n:Int)<0 by omega),oCF];rw[Fu (by unfold Sm;omega) h.2,oBS];simp only[oCF]
 have WE:∀i,i<S.length->ef ((n:Int),S,(S.length:Int),(i:Int),(List.range i).flatMap (pZ S),())=some (.inl ((n:Int),S,(S.length:Int),((i+1:Nat):Int),(List.range (i+1)).flatMap (pZ S),())):=by
  intro i hi;have hz:=zA h hi;have hl:=qn h i (by omega);have hc:=IM h hi
  have eg:S.getD i 0=S[i]:=by simp[hi]
  unfold ef;dsimp only;rw[oDT (show(i:Int)<S.length by omega),oCT,bN];simp only[oBS,bO hi]
  let A:=(List.range i).flatMap (pZ S)
  let st:Nat->_:=λj=>((n:Int),(i:Int),S[i],(j:Int),S,(S.length:Int),(i:Int),A++(List.range j).map (λ(j:Nat)=>(((i:Int),(j:Int)):PID)),())
  have WD:∀j,j<rF S[i]->dC (st j)=some (.inl (st (j+1))):=by
   intro j hj;show dC ((n:Int),(i:Int),S[i],(j:Int),S,(S.length:Int),(i:Int),A++(List.range j).map (λ(j:Nat)=>(((i:Int),(j:Int)):PID)),())=_;unfold dC;dsimp only;rw[eg]at hc;rw[bS (x:=(j:Int)*8) (by omega) (by omega),oDT ((zZ hz j).2 hj),oCT];have hA:A.length<=4*i:=hl;rw[bQ (by rw[List.length_append,List.length_map,List.length_range];omega) (by simp) (by omega) (by rw[List.length_append,List.length_map,List.length_range,List.length_singleton];omega),oCT,bS (by omega) (by omega)]
   have e:List.append (A++(List.range j).map (λ(j:Nat)=>(((i:Int),(j:Int)):PID))) [((i:Int),(j:Int))]=A++(List.range (j+1)).map (λ(j:Nat)=>(((i:Int),(j:Int)):PID)):=by
    rw[oL,<- List.append_assoc];rfl
   rw[e];rfl
  have Un:dC (st (rF S[i]))=some (.inr ((n:Int),(i:Int),S[i],(rF S[i]:Int),S,(S.length:Int),(i:Int),false,A++(List.range (rF S[i])).map (λ(j:Nat)=>(((i:Int),(j:Int)):PID)),())):=by
   show dC ((n:Int),(i:Int),S[i],(rF S[i]:Int),S,(S.length:Int),(i:Int),A++(List.range (rF S[i])).map (λ(j:Nat)=>(((i:Int),(j:Int)):PID)),())=_;unfold dC;dsimp only;rw[eg]at hc;rw[bS (x:=(rF S[i]:Int)*8) (by omega) (by omega),oDF (λg=>by have:=(zZ hz _).1 g;omega)];rfl
  have hI:=loop_seq (f:=dC) st (n:=rF S[i]) (N:=NN) (by rw[eg]at hc;unfold NN;omega) WD Un
  have e0:st 0=((n:Int),(i:Int),S[i],0,S,(S.length:Int),(i:Int),(List.range i).flatMap (pZ S),()):=by
   show((n:Int),(i:Int),S[i],(0:Int),S,(S.length:Int),(i:Int),A++[],())=_;rw[List.append_nil]
  rw[<- e0,hI];simp only[oBS];rw[bS (by omega) (by omega),AN]
  have er:(List.range (rF S[i])).map (λ(j:Nat)=>(((i:Int),(j:Int)):PID))=pZ S i:=by unfold pZ;rw[eg]
  rw[er];rfl
 have Uo:ef ((n:Int),S,(S.length:Int),(S.length:Int),(List.range S.length).flatMap (pZ S),())=some (.inr ((n:Int),S,(S.length:Int),(S.length:Int),false,(List.range S.length).flatMap (pZ S),())):=by
  unfold ef;dsimp only;rw[oDF (show ¬(S.length:Int)<S.length by omega)];rfl
 have hO:=loop_seq (f:=ef) (λi=>((n:Int),S,(S.length:Int),(i:Int),(List.range i).flatMap (pZ S),())) (n:=S.length) (N:=NN) (by unfold NN;omega) WE Uo;rw[show bM ef NN ((n:Int),S,(S.length:Int),0,[],())=_ from hO];simp only[oBS];have hl:=qn h S.length (Nat.le_refl _)
 let B:=(List.range S.length).flatMap (pZ S)
 have hB:B.length<=4*S.length:=hl
 let st:Nat->_:=λt=>((n:Int),(t:Int),B++(List.range t).map (λ(t:Nat)=>((-1,(t:Int)):PID)),())
 have WF:∀t,t<n->dB (st t)=some (.inl (st (t+1))):=by
  intro t ht;show dB ((n:Int),(t:Int),B++(List.range t).map (λ(t:Nat)=>((-1,(t:Int)):PID)),())=_;unfold dB;dsimp only;rw[oDT (show(t:Int)<n by omega),oCT];rw[bQ (by rw[List.length_append,List.length_map,List.length_range];omega) (by simp) (by omega) (by rw[List.length_append,List.length_map,List.length_range,List.length_singleton];omega),oCT,bS (by omega) (by omega)]
  have e:List.append (B++(List.range t).map (λ(t:Nat)=>((-1,(t:Int)):PID))) [(-1,(t:Int))]=B++(List.range (t+1)).map (λ(t:Nat)=>((-1,(t:Int)):PID)):=by
   rw[oL,<- List.append_assoc];rfl
  rw[e];rfl
 have Up:dB (st n)=some (.inr ((n:Int),(n:Int),false,B++(List.range n).map (λ(t:Nat)=>((-1,(t:Int)):PID)),())):=by
  show dB ((n:Int),(n:Int),B++(List.range n).map (λ(t:Nat)=>((-1,(t:Int)):PID)),())=_;unfold dB;dsimp only;rw[oDF (show ¬(n:Int)<n by omega)];rfl
 have hT:=loop_seq (f:=dB) st (n:=n) (N:=NN) (by unfold NN;omega) WF Up
 have e0:st 0=((n:Int),0,B,()):=by
  show((n:Int),(0:Int),B++[],())=_;rw[List.append_nil]
 rw[e0]at hT;rw[hT];rfl
theorem DM{S:List Int}{n:Nat}(h:Szs S)(hn:n<=4):eI S n=some (pgs S n,0,()):=by
 unfold eI;have h4:=h.1;obtain⟨e,h1,h2⟩:=IQ (S:=S) (n:=n) (by unfold Sm;omega);have e0:e=0:=h2.2 ⟨h.1,hn,h.2⟩;subst e0;rw[h1,oBS];simp only[bne_self_eq_false,oCF]
 have WE:∀i,i<S.length->d9 (S,(n:Int),(i:Int),(List.range i).flatMap (pZ S),())=some (.inl (S,(n:Int),((i+1:Nat):Int),(List.range (i+1)).flatMap (pZ S),())):=by
  intro i hi;have hz:=zA h hi;have hl:=qn h i (by omega);have hc:=IM h hi
  have eg:S.getD i 0=S[i]:=by simp[hi]
  unfold d9;delta bJ;dsimp only;rw[oDT (show(i:Int)<S.length by omega),oCT]
  let A:=(List.range i).flatMap (pZ S)
  let st:Nat->_:=λj=>(S,(n:Int),(i:Int),(j:Int),A++(List.range j).map (λ(j:Nat)=>(((i:Int),(j:Int)):PID)),())
  have WD:∀j,j<rF S[i]->dA (st j)=some (.inl (st (j+1))):=by
   intro j hj;show dA (S,(n:Int),(i:Int),(j:Int),A++(List.range j).map (λ(j:Nat)=>(((i:Int),(j:Int)):PID)),())=_;unfold dA;dsimp only;rw[eg]at hc;rw[bN];simp only[oBS,bO hi];rw[bS (x:=(j:Int)*8) (by omega) (by omega),oDT ((zZ hz j).2 hj),oCT];have hA:A.length<=4*i:=hl;rw[bQ (by rw[List.length_append,List.length_map,List.length_range];omega) (by simp) (by omega) (by rw[List.length_append,List.length_map,List.length_range,List.length_singleton];omega),oCT,bS (by omega) (by omega)]
   have e:List.append (A++(List.range j).map (λ(j:Nat)=>(((i:Int),(j:Int)):PID))) [((i:Int),(j:Int))]=A++(List.range (j+1)).map (λ(j:Nat)=>(((i:Int),(j:Int)):PID)):=by
    rw[oL,<- List.append_assoc];rfl
   rw[e];rfl
  have Un:dA (st (rF S[i]))=some (.inr (S,(n:Int),(i:Int),(rF S[i]:Int),false,A++(List.range (rF S[i])).map (λ(j:Nat)=>(((i:Int),(j:Int)):PID)),())):=by
   show dA (S,(n:Int),(i:Int),(rF S[i]:Int),A++(List.range (rF S[i])).map (λ(j:Nat)=>(((i:Int),(j:Int)):PID)),())=_;unfold dA;dsimp only;rw[eg]at hc;rw[bN];simp only[oBS,bO hi];rw[bS (x:=(rF S[i]:Int)*8) (by omega) (by omega),oDF (λg=>by have:=(zZ hz _).1 g;omega)];rfl
  have hI:=loop_seq (f:=dA) st (n:=rF S[i]) (N:=NN) (by rw[eg]at hc;unfold NN;omega) WD Un
  have e0:st 0=(S,(n:Int),(i:Int),0,(List.range i).flatMap (pZ S),()):=by
   show(S,(n:Int),(i:Int),(0:Int),A++[],())=_;rw[List.append_nil]
  rw[<- e0,hI];simp only[oBS];rw[bS (by omega) (by omega),AN]
  have er:(List.range (rF S[i])).map (λ(j:Nat)=>(((i:Int),(j:Int)):PID))=pZ S i:=by unfold pZ;rw[eg]
  rw[er];rfl
 have Uo:d9 (S,(n:Int),(S.length:Int),(List.range S.length).flatMap (pZ S),())=some (.inr (S,(n:Int),(S.length:Int),false,(List.range S.length).flatMap (pZ S),())):=by
  unfold d9;delta bJ;dsimp only;rw[oDF (show ¬(S.length:Int)<S.length by omega)];rfl
 have hO:=loop_seq (f:=d9) (λi=>(S,(n:Int),(i:Int),(List.range i).flatMap (pZ S),())) (n:=S.length) (N:=NN) (by unfold NN;omega) WE Uo;rw[show bM d9 NN (S,(n:Int),0,[],())=_ from hO];simp only[oBS];have hl:=qn h S.length (Nat.le_refl _)
 let B:=(List.range S.length).flatMap (pZ S)
 have hB:B.length<=4*S.length:=hl
 let st:Nat->_:=λt=>((n:Int),(t:Int),B++(List.range t).map (λ(t:Nat)=>((-1,(t:Int)):PID)),())
 have WF:∀t,t<n->dz (st t)=some (.inl (st (t+1))):=by
  intro t ht;show dz ((n:Int),(t:Int),B++(List.range t).map (λ(t:Nat)=>((-1,(t:Int)):PID)),())=_;unfold dz;dsimp only;rw[oDT (show(t:Int)<n by omega),oCT];rw[bQ (by rw[List.length_append,List.length_map,List.length_range];omega) (by simp) (by omega) (by rw[List.length_append,List.length_map,List.length_range,List.length_singleton];omega),oCT,bS (by omega) (by omega)]
  have e:List.append (B++(List.range t).map (λ(t:Nat)=>((-1,(t:Int)):PID))) [(-1,(t:Int))]=B++(List.range (t+1)).map (λ(t:Nat)=>((-1,(t:Int)):PID)):=by
   rw[oL,<- List.append_assoc];rfl
  rw[e];rfl
 have Up:dz (st n)=some (.inr ((n:Int),(n:Int),false,B++(List.range n).map (λ(t:Nat)=>((-1,(t:Int)):PID)),())):=by
  show dz ((n:Int),(n:Int),B++(List.range n).map (λ(t:Nat)=>((-1,(t:Int)):PID)),())=_;unfold dz;dsimp only;rw[oDF (show ¬(n:Int)<n by omega)];rfl
 have hT:=loop_seq (f:=dz) st (n:=n) (N:=NN) (by unfold NN;omega) WF Up
 have e0:st 0=((n:Int),0,B,()):=by
  show((n:Int),(0:Int),B++[],())=_;rw[List.append_nil]
 rw[e0]at hT;rw[hT];rfl
abbrev zTs:DTs:=(0,0,0,0,0,0,0,[])
def pg(C:CC)(T:TT')(p:PID):PG:=if p.1=-1 then(p.1,p.2,[],T.getD p.2.toNat zTs)else(p.1,p.2,((C.getD p.1.toNat []).drop (8*p.2.toNat)).take 8,zTs)
def SmT(T:TT'):Prop:=∀t∈T,Sm t.2.2.2.2.2.2.2
theorem HW{S:List Int}{i:Nat}{p:PID}:p∈pZ S i↔∃j:Nat,j<rF (S.getD i 0)/\p=((i:Int),(j:Int)):=by
 unfold pZ;simp only[List.mem_map,List.mem_range];exact⟨λ⟨j,h,e⟩=>⟨j,h,e.symm⟩,λ⟨j,h,e⟩=>⟨j,h,e.symm⟩⟩
theorem up{S:List Int}{n:Nat}{p:PID}:p∈pgs S n↔(∃i j:Nat,i<S.length/\j<rF (S.getD i 0)/\p=((i:Int),(j:Int)))\/∃t:Nat,t<n/\p=(-1,(t:Int)):=by
 unfold pgs;simp only[List.mem_append,List.mem_flatMap,List.mem_range,HW,List.mem_map];constructor
 ·rintro(⟨i,hi,j,hj,e⟩|⟨t,ht,e⟩)
  ·exact .inl ⟨i,j,hi,hj,e⟩
  ·exact .inr ⟨t,ht,e.symm⟩
 ·rintro(⟨i,j,hi,hj,e⟩|⟨t,ht,e⟩)
  ·exact .inl ⟨i,hi,j,hj,e⟩
  ·exact .inr ⟨t,ht,e.symm⟩
theorem nR{S:List Int}{n:Nat}(h:Szs S)(hn:n<=4):(pgs S n).length<=20:=by
 have h1:=qn h S.length (Nat.le_refl _);have h2:=h.1;unfold pgs;rw[List.length_append,List.length_map,List.length_range];omega
theorem m8{C:CC}{T:TT'}(h:shp C T):Szs (szs C):=⟨by rw[gr];exact h.1,(xm.2 h).2.2⟩
theorem u7{a:List DCn}(h:Sm a):df a=some (a,()):=by
 unfold df;rw[bQ (by omega) h (by omega) (by have:=h;omega),oCT];rfl
theorem xi{C:CC}{i:Nat}(h:i<C.length):(szs C).getD i 0=(C[i].length:Int):=by simp[szs,h]
theorem F2{l:List DCn}{a:Nat}(h:a<=l.length):px l a (Nat.sub (Nat.min (a+8) l.length) a)=(l.drop a).take 8:=by
 unfold px;rcases Nat.le_total (a+8) l.length with h1|h1
 ·rw[show Nat.min (a+8) l.length=a+8 from Nat.min_eq_left h1,show Nat.sub (a+8) a=8 by show a+8-a=8;omega]
 ·rw[show Nat.min (a+8) l.length=l.length from Nat.min_eq_right h1,show Nat.sub l.length a=(l.drop a).length by rw[List.length_drop];rfl,List.take_length,List.take_of_length_le (by rw[List.length_drop];omega)]
theorem BU(a b:Nat):mmR false (a:Int) (b:Int)=(Nat.min a b:Nat):=by
 unfold mmR;simp only[Bool.false_eq_true,if_false];show _=((min a b:Nat):Int);split<;>omega
theorem Lx{c:List DCn}{j:Nat}(h:j<rF (c.length:Int)):8*j<c.length:=by
 unfold rF at h;omega
theorem DE{C:CC}{T:TT'}{i j:Nat}(hi:i<C.length):pg C T ((i:Int),(j:Int))=((i:Int),(j:Int),((C[i].drop (8*j)).take 8),zTs):=by
 unfold pg;rw[oIN (by simp)];simp[hi]
theorem qp{C:CC}{T:TT'}{t:Nat}(ht:t<T.length):pg C T (-1,(t:Int))=(-1,(t:Int),[],T[t]):=by
 unfold pg;rw[oIP rfl];simp[ht]
def O1(x:PG):Int×Int×List DCn×Int×Int×Int×Int×Int×Int×Int×List DCn×Unit:=(x.1,x.2.1,x.2.2.1,x.2.2.2.1,x.2.2.2.2.1,x.2.2.2.2.2.1,x.2.2.2.2.2.2.1,x.2.2.2.2.2.2.2.1,x.2.2.2.2.2.2.2.2.1,x.2.2.2.2.2.2.2.2.2.1,x.2.2.2.2.2.2.2.2.2.2,())
theorem OX{C:CC}{T:TT'}(h:shp C T)(hT:SmT T){p:PID}(hp:p∈pgs (szs C) T.length):iX C T p.1 p.2=some (O1 (pg C T p)):=by
 unfold iX
 rcases up.1 hp with⟨i,j,hi,hj,rfl⟩|⟨t,ht,rfl⟩
 ·rw[gr]at hi;rw[xi hi]at hj;have ZY:=Lx hj;have hok:=of_decide_eq_true (h.2.2 _ (List.getElem_mem hi));rw[oBF (show((i:Int))≠-1 by omega),oCF,bN];simp only[oBS,bO hi];unfold eK;delta bJ;dsimp only;rw[oDF (show ¬(j:Int)<0 by omega),oCF,oDF (show ¬(j:Int)>32 by omega),oCF];simp only[oBS];rw[bS (x:=(j:Int)*8) (by omega) (by omega),oDF (show ¬(j:Int)*8>=(C[i].length:Int) by omega),oCF,bS (x:=(j:Int)*8+8) (by omega) (by omega)];rw[show(j:Int)*8=((8*j:Nat):Int) by omega,show((8*j:Nat):Int)+8=((8*j+8:Nat):Int) by omega,BU,bN,bN];simp only[oBS]
  have ho:cR (8*j) (Nat.min (8*j+8) C[i].length) C[i].length=true:=by
   unfold cR;have h1:Nat.min (8*j+8) C[i].length=min (8*j+8) C[i].length:=rfl;rw[h1];simp only[oBA,oDE];omega
  rw[ho,oCT,F2 (by omega)];simp only[oBS];rw[u7 (by unfold Sm;rw[oLT];omega),DE hi];rfl
 ·have hs:Sm (T[t]'ht).2.2.2.2.2.2.2:=hT _ (List.getElem_mem ht);rw[show((-1:Int)==-1)=true from rfl,oCT,bN];simp only[oBS,bO ht];unfold eN;rw[u7 hs,qp ht];rfl
theorem OY{C:CC}{T:TT'}(h:shp C T)(hT:SmT T){p:PID}(hp:p∈pgs (szs C) T.length):dM C T p.1 p.2=some ((pg C T p).1,(pg C T p).2.1,(pg C T p).2.2.1,(pg C T p).2.2.2.1,(pg C T p).2.2.2.2.1,(pg C T p).2.2.2.2.2.1,(pg C T p).2.2.2.2.2.2.1,(pg C T p).2.2.2.2.2.2.2.1,(pg C T p).2.2.2.2.2.2.2.2.1,(pg C T p).2.2.2.2.2.2.2.2.2.1,(pg C T p).2.2.2.2.2.2.2.2.2.2,0,()):=by
 unfold dM;have h4:=h.1;rw[jb (by unfold Sm;omega),oBS];dsimp only;rw[oDT h];simp only[oNT,oCF]
 rcases up.1 hp with⟨i,j,hi,hj,rfl⟩|⟨t,ht,rfl⟩
 ·rw[gr]at hi;rw[xi hi]at hj;have ZY:=Lx hj;have hok:=of_decide_eq_true (h.2.2 _ (List.getElem_mem hi));rw[oBF (show((i:Int))≠-1 by omega),oCF];delta bJ;dsimp only;rw[oDF (show ¬(i:Int)<0 by omega),oCF,oDF (show ¬(i:Int)>=C.length by omega),oCF,oDF (show ¬(j:Int)<0 by omega),oCF,oDF (show ¬(j:Int)>32 by omega),oCF];rw[bN];simp only[oBS,bO hi];rw[bS (x:=(j:Int)*8) (by omega) (by omega),oDF (show ¬(j:Int)*8>=(C[i].length:Int) by omega),oCF,bN];simp only[oBS,bO hi];rw[bS (x:=(j:Int)*8+8) (by omega) (by omega)];rw[show(j:Int)*8=((8*j:Nat):Int) by omega,show((8*j:Nat):Int)+8=((8*j+8:Nat):Int) by omega,BU,bN,bN];simp only[oBS]
  have ho:cR (8*j) (Nat.min (8*j+8) C[i].length) C[i].length=true:=by
   unfold cR;have h1:Nat.min (8*j+8) C[i].length=min (8*j+8) C[i].length:=rfl;rw[h1];simp only[oBA,oDE];omega
  rw[ho,oCT,F2 (by omega),bQ (by omega) (by rw[oLT];omega) (by omega) (by rw[oLT];omega),oCT,DE hi];rfl
 ·have hs:Sm (T[t]'ht).2.2.2.2.2.2.2:=hT _ (List.getElem_mem ht);rw[show((-1:Int)==-1)=true from rfl,oCT];delta bJ;dsimp only;rw[oDF (show ¬(t:Int)<0 by omega),oCF,oDF (show ¬(t:Int)>=T.length by omega),oCF,bN];simp only[oBS,bO ht];unfold eT;rw[bQ (by omega) hs (by omega) (by have:=hs;omega),oCT,qp ht];rfl
theorem I9{C:CC}{T:TT'}(h:shp C T)(hT:SmT T):g6 C T=some ((pgs (szs C) T.length).map (pg C T),0,()):=by
 unfold g6;have h4:=h.1
 have hS:Sm C:=by unfold Sm;omega
 rw[oH hS,oBS];dsimp only;rw[oDT h];simp only[oNT,oCF];rw[pD hS,oBS];delta bJ;dsimp only;rw[z7 (m8 h) h.2.1,oBS];dsimp only;have hlen:=nR (m8 h) h.2.1;have hg:∀p∈pgs (szs C) T.length,iX C T p.1 p.2=some (O1 (pg C T p)):=λp hp=>OX h hT hp;generalize pgs (szs C) T.length=ps at hlen hg⊢
 have step:∀i,i<ps.length->eW ((ps.length:Int),(i:Int),C,T,ps,(ps.take i).map (pg C T),())=some (.inl ((ps.length:Int),((i+1:Nat):Int),C,T,ps,(ps.take (i+1)).map (pg C T),())):=by
  intro i hi;unfold eW;dsimp only;rw[oDT (show(i:Int)<ps.length by omega),oCT,bN];simp only[oBS,bO hi,hg _ (List.getElem_mem hi)];rw[bQ (by rw[List.length_map,oLT];omega) (by simp) (by omega) (by rw[List.length_map,oLT,List.length_singleton];omega),oCT,bS (by omega) (by omega),<- kW hi];rfl
 have fin:eW ((ps.length:Int),(ps.length:Int),C,T,ps,(ps.take ps.length).map (pg C T),())=some (.inr ((ps.length:Int),(ps.length:Int),false,C,T,ps,(ps.take ps.length).map (pg C T),())):=by
  unfold eW;dsimp only;rw[oDF (show ¬(ps.length:Int)<ps.length by omega)];rfl
 have:=loop_seq (f:=eW) (λi=>((ps.length:Int),(i:Int),C,T,ps,(ps.take i).map (pg C T),())) (n:=ps.length) (N:=NN) (by unfold NN;omega) step fin;rw[show bM eW NN ((ps.length:Int),0,C,T,ps,[],())=_ from this,List.take_length];rfl
theorem I8{C:CC}{T:TT'}(h:¬shp C T)(hS:Sm C):g6 C T=some ([],1,()):=by
 unfold g6;rw[oH hS,oBS];dsimp only;rw[oDF h];rfl
theorem Pm{C:CC}{T:TT'}(h:shp C T)(hT:SmT T):kB C T=some ((pgs (szs C) T.length).map (pg C T),0,()):=by
 unfold kB;have h4:=h.1
 have hS:Sm C:=by unfold Sm;omega
 rw[nK hS,oBS];delta bJ;dsimp only;rw[DM (m8 h) h.2.1,oBS];dsimp only;simp only[bne_self_eq_false,oCF];have hlen:=nR (m8 h) h.2.1;have hg:=λp hp=>OY h hT (p:=p) hp;generalize pgs (szs C) T.length=ps at hlen hg⊢
 have step:∀i,i<ps.length->eV ((i:Int),C,T,ps,(ps.take i).map (pg C T),())=some (.inl (((i+1:Nat):Int),C,T,ps,(ps.take (i+1)).map (pg C T),())):=by
  intro i hi;unfold eV;delta bJ;dsimp only;rw[oDT (show(i:Int)<ps.length by omega),oCT,bN];simp only[oBS,bO hi,hg _ (List.getElem_mem hi)];rw[bQ (by rw[List.length_map,oLT];omega) (by simp) (by omega) (by rw[List.length_map,oLT,List.length_singleton];omega),oCT,bS (by omega) (by omega),<- kW hi];rfl
 have fin:eV ((ps.length:Int),C,T,ps,(ps.take ps.length).map (pg C T),())=some (.inr ((ps.length:Int),false,C,T,ps,(ps.take ps.length).map (pg C T),())):=by
  unfold eV;delta bJ;dsimp only;rw[oDF (show ¬(ps.length:Int)<ps.length by omega)];rfl
 have:=loop_seq (f:=eV) (λi=>((i:Int),C,T,ps,(ps.take i).map (pg C T),())) (n:=ps.length) (N:=NN) (by unfold NN;omega) step fin;rw[show bM eV NN (0,C,T,ps,[],())=_ from this,List.take_length];rfl
def vo(C:CC)(T:TT')(D:CC)(U:TT'):Prop:=shp C T/\shp D U/\szs C=szs D/\T.length=U.length
instance {C:CC} {T:TT'} {D:CC} {U:TT'}:Decidable (vo C T D U):=inferInstanceAs (Decidable (_/\_/\_/\_))
def dif(C:CC)(T:TT')(D:CC)(U:TT'):List PID:=(pgs (szs C) T.length).filter λp=>!decide (pg C T p=pg D U p)
theorem tY{α:Type}{q:α->Bool}{l:List α}{i:Nat}(h:i<l.length):(l.take (i+1)).filter q=(l.take i).filter q++bif q l[i]then[l[i]]else[]:=by
 rw[<- eA h,List.filter_append];congr 1
theorem MR{C:CC}{T:TT'}(p:PID):((pg C T p).1,(pg C T p).2.1)=p:=by
 unfold pg;split<;>rfl
theorem Ov{C:CC}{T:TT'}(h:shp C T)(hT:SmT T){p:PID}(hp:p∈pgs (szs C) T.length):Sm (pg C T p).2.2.1/\Sm (pg C T p).2.2.2.2.2.2.2.2.2.2:=by
 rcases up.1 hp with⟨i,j,hi,hj,rfl⟩|⟨t,ht,rfl⟩
 ·rw[gr]at hi;rw[DE hi];exact⟨by unfold Sm;rw[oLT];omega,by unfold Sm;simp⟩
 ·rw[qp ht];exact⟨by unfold Sm;simp,hT _ (List.getElem_mem ht)⟩
theorem IG{C:CC}{T:TT'}{D:CC}{U:TT'}(h:shp C T):(dif C T D U).length<=20:=Nat.le_trans (List.length_filter_le _ _) (nR (m8 h) h.2.1)
theorem A8{C:CC}{T:TT'}{D:CC}{U:TT'}(h:vo C T D U)(hT:SmT T)(hU:SmT U):dF C T D U=some (dif C T D U,0,()):=by
 unfold dF;obtain⟨h1,h2,h3,h4⟩:=h;have k1:=h1.1;have k2:=h2.1
 have hC:Sm C:=by unfold Sm;omega
 have hD:Sm D:=by unfold Sm;omega
 rw[I9 h1 hT,oBS];dsimp only;rw[I9 h2 hU,oBS];dsimp only;simp only[bne_self_eq_false,oCF];rw[pD hC,oBS];dsimp only;rw[pD hD,oBS];dsimp only;rw[LE (by unfold Sm;rw[gr];omega),oBS,oDT h3];delta bJ;simp only[oNT,oCF,oBS];rw[qw h4,oCF,<- h3,<- h4];unfold dif;have hlen:=nR (m8 h1) h1.2.1;have hm:∀p∈pgs (szs C) T.length,Sm (pg C T p).2.2.1/\Sm (pg C T p).2.2.2.2.2.2.2.2.2.2:=λp hp=>Ov h1 hT hp;generalize pgs (szs C) T.length=ps at hlen hm⊢;rw[List.length_map]
 have step:∀i,i<ps.length->c8 ((ps.length:Int),(i:Int),ps.map (pg C T),ps.map (pg D U),(ps.take i).filter (λp=>!decide (pg C T p=pg D U p)),())=
  some (.inl ((ps.length:Int),((i+1:Nat):Int),ps.map (pg C T),ps.map (pg D U),(ps.take (i+1)).filter (λp=>!decide (pg C T p=pg D U p)),())):=by
  intro i hi
  have VB:i<(ps.map (pg C T)).length:=by rw[List.length_map];exact hi
  have hi2:i<(ps.map (pg D U)).length:=by rw[List.length_map];exact hi
  obtain⟨m1,m2⟩:=hm _ (List.getElem_mem hi);unfold c8;dsimp only;rw[oDT (show(i:Int)<ps.length by omega),oCT,bN];simp only[oBS,bO VB,bO hi2,List.getElem_map];rw[Nt m1 m2];simp only[oBS];rw[tY hi];by_cases e:pg C T ps[i]=pg D U ps[i]
  ·rw[oDT e];simp only[oNT,oCF,oBS,List.append_nil];rw[bS (by omega) (by omega)];rfl
  ·rw[oDF e];simp only[Bool.not_false,oCT,oBS];have hf:=List.length_filter_le (λp=>!decide (pg C T p=pg D U p)) (ps.take i);rw[oLT]at hf;rw[bQ (Nat.le_trans hf (by omega)) (by simp) (by omega) (Nat.le_trans (Nat.add_le_add_right hf _) (by rw[List.length_singleton];omega)),oCT,MR];simp only[oBS];rw[bS (by omega) (by omega)];rfl
 have fin:c8 ((ps.length:Int),(ps.length:Int),ps.map (pg C T),ps.map (pg D U),(ps.take ps.length).filter (λp=>!decide (pg C T p=pg D U p)),())=
  some (.inr ((ps.length:Int),(ps.length:Int),false,ps.map (pg C T),ps.map (pg D U),(ps.take ps.length).filter (λp=>!decide (pg C T p=pg D U p)),())):=by
  unfold c8;dsimp only;rw[oDF (show ¬(ps.length:Int)<ps.length by omega)];rfl
 have:=loop_seq (f:=c8) (λi=>((ps.length:Int),(i:Int),ps.map (pg C T),ps.map (pg D U),(ps.take i).filter (λp=>!decide (pg C T p=pg D U p)),())) (n:=ps.length) (N:=NN) (by unfold NN;omega) step fin;rw[show bM c8 NN ((ps.length:Int),0,ps.map (pg C T),ps.map (pg D U),[],())=_ from this,List.take_length];rfl
theorem w5{C:CC}{T:TT'}{D:CC}{U:TT'}(h:¬vo C T D U)(hC:Sm C)(hD:Sm D)(hT:SmT T)(hU:SmT U):dF C T D U=some ([],1,()):=by
 unfold dF;by_cases h1:shp C T
 rotate_left
 ·rw[I8 h1 hC,oBS];dsimp only;by_cases h2:shp D U
  ·rw[I9 h2 hU];rfl
  ·rw[I8 h2 hD];rfl
 rw[I9 h1 hT,oBS];dsimp only;by_cases h2:shp D U
 rotate_left
 ·rw[I8 h2 hD];rfl
 rw[I9 h2 hU,oBS];dsimp only;simp only[bne_self_eq_false,oCF];rw[pD hC,oBS];dsimp only;rw[pD hD,oBS];dsimp only;rw[LE (by unfold Sm;rw[gr];exact hC),oBS];by_cases h3:szs C=szs D
 rotate_left
 ·rw[oDF h3];rfl
 rw[oDT h3];delta bJ;simp only[oNT,oCF,oBS];rw[mF λh4=>h ⟨h1,h2,h3,h4⟩];rfl
theorem Ba{C:CC}{T:TT'}{D:CC}{U:TT'}(h:vo C T D U)(hT:SmT T)(hU:SmT U):dy C T D U=some (dif C T D U,0,()):=by
 unfold dy;obtain⟨h1,h2,h3,h4⟩:=h;have k1:=h1.1;have k2:=h2.1
 have hC:Sm C:=by unfold Sm;omega
 have hD:Sm D:=by unfold Sm;omega
 rw[jb hC,oDT h1,oBS];dsimp only;rw[jb hD,oDT h2,oBS];simp only[oNT,oCF];rw[nK hC,oBS];dsimp only;rw[nK hD,oBS];dsimp only;rw[zO (by unfold Sm;rw[gr];omega),oBS,oDT h3];delta bJ;simp only[oNT,oCF,oBS];rw[qw h4,oCF,Pm h1 hT,oBS];dsimp only;rw[Pm h2 hU,oBS,<- h3,<- h4];dsimp only;unfold dif;have hlen:=nR (m8 h1) h1.2.1;have hm:∀p∈pgs (szs C) T.length,Sm (pg C T p).2.2.1/\Sm (pg C T p).2.2.2.2.2.2.2.2.2.2:=λp hp=>Ov h1 hT hp;generalize pgs (szs C) T.length=ps at hlen hm⊢
 have step:∀i,i<ps.length->cY ((i:Int),ps.map (pg C T),ps.map (pg D U),(ps.take i).filter (λp=>!decide (pg C T p=pg D U p)),())=
  some (.inl (((i+1:Nat):Int),ps.map (pg C T),ps.map (pg D U),(ps.take (i+1)).filter (λp=>!decide (pg C T p=pg D U p)),())):=by
  intro i hi
  have VB:i<(ps.map (pg C T)).length:=by rw[List.length_map];exact hi
  have hi2:i<(ps.map (pg D U)).length:=by rw[List.length_map];exact hi
  obtain⟨m1,m2⟩:=hm _ (List.getElem_mem hi);unfold cY;delta bJ;dsimp only;rw[oDT (show(i:Int)<((ps.map (pg C T)).length:Int) by omega),oCT,bN];simp only[oBS,bO VB,bO hi2,List.getElem_map];rw[Ns m1 m2];simp only[oBS];rw[tY hi];by_cases e:pg C T ps[i]=pg D U ps[i]
  ·rw[oDT e];simp only[oNT,oCF,oBS,List.append_nil];rw[bS (by omega) (by omega)];rfl
  ·rw[oDF e];simp only[Bool.not_false,oCT,oBS];have hf:=List.length_filter_le (λp=>!decide (pg C T p=pg D U p)) (ps.take i);rw[oLT]at hf;rw[bQ (Nat.le_trans hf (by omega)) (by simp) (by omega) (Nat.le_trans (Nat.add_le_add_right hf _) (by rw[List.length_singleton];omega)),oCT,MR];simp only[oBS];rw[bS (by omega) (by omega)];rfl
 have fin:cY ((ps.length:Int),ps.map (pg C T),ps.map (pg D U),(ps.take ps.length).filter (λp=>!decide (pg C T p=pg D U p)),())=
  some (.inr ((ps.length:Int),false,ps.map (pg C T),ps.map (pg D U),(ps.take ps.length).filter (λp=>!decide (pg C T p=pg D U p)),())):=by
  unfold cY;delta bJ;dsimp only;rw[oDF (show ¬(ps.length:Int)<((ps.map (pg C T)).length:Int) by rw[List.length_map];omega)];rfl
 have:=loop_seq (f:=cY) (λi=>((i:Int),ps.map (pg C T),ps.map (pg D U),(ps.take i).filter (λp=>!decide (pg C T p=pg D U p)),())) (n:=ps.length) (N:=NN) (by unfold NN;omega) step fin;rw[show bM cY NN (0,ps.map (pg C T),ps.map (pg D U),[],())=_ from this,List.take_length];rfl
theorem w6{C:CC}{T:TT'}{D:CC}{U:TT'}(h:¬vo C T D U)(hC:Sm C)(hD:Sm D):dy C T D U=some ([],1,()):=by
 unfold dy;rw[jb hC,oBS];dsimp only;by_cases h1:shp C T
 rotate_left
 ·rw[oDF h1];rfl
 rw[oDT h1];simp only[oNT,oCF];rw[jb hD,oBS];dsimp only;by_cases h2:shp D U
 rotate_left
 ·rw[oDF h2];rfl
 rw[oDT h2];simp only[oNT,oCF];rw[nK hC,oBS];dsimp only;rw[nK hD,oBS];dsimp only;rw[zO (by unfold Sm;rw[gr];exact hC),oBS];by_cases h3:szs C=szs D
 rotate_left
 ·rw[oDF h3];rfl
 rw[oDT h3];delta bJ;simp only[oNT,oCF,oBS];rw[mF λh4=>h ⟨h1,h2,h3,h4⟩];rfl
theorem M0{x n:Int}(hn:0<n)(Wq:n<=1099511627776):∃y,ld x n=some (y,())/\0<=y/\y<n:=by
 unfold ld pB;rw[bne_iff_ne.2 (show n≠0 by omega),oCT];have h1:=Int.lt_tmod_of_pos x hn;have h2:=Int.tmod_lt_of_pos x hn;dsimp only;by_cases h:Int.tmod x n<0
 ·rw[oDT h,oCT,bS (by omega) (by omega)];exact⟨_,rfl,by omega,by omega⟩
 ·rw[oDF h,oCF];exact⟨_,rfl,by omega,by omega⟩
theorem gj{n:Int}(hn:0<n)(Wq:n<=1099511627776){l:List Int}(hl:l.length<=400){k:Int}(hk:0<=k):∃x k',bZ n l k=some (x,l,k',())/\0<=x/\x<n/\0<=k':=by
 unfold bZ;delta bJ;dsimp only;by_cases h:k>=l.length
 ·rw[oDT h,oCT];exact⟨0,k,rfl,by omega,hn,hk⟩
 ·rw[oDF h,oCF,bS (x:=k+1) (by omega) (by omega),bS (by omega) (by omega)];obtain⟨i,rfl⟩:∃i:Nat,k=i:=⟨k.toNat,by omega⟩
  have hi:i<l.length:=by omega
  rw[show(i:Int)+1-1=i by omega,bN];simp only[oBS,bO hi];obtain⟨y,e,h1,h2⟩:=M0 (x:=l[i]) hn Wq;rw[e];exact⟨y,(i:Int)+1,rfl,h1,h2,by omega⟩
def zn(C:CC)(T:TT'):Prop:=1<=C.length/\shp C T/\SmT T
theorem yW{v:DTs}(h:Sm v.2.2.2.2.2.2.2):eT v.1 v.2.1 v.2.2.1 v.2.2.2.1 v.2.2.2.2.1 v.2.2.2.2.2.1 v.2.2.2.2.2.2.1 v.2.2.2.2.2.2.2=some (v.1,v.2.1,v.2.2.1,v.2.2.2.1,v.2.2.2.2.1,v.2.2.2.2.2.1,v.2.2.2.2.2.2.1,v.2.2.2.2.2.2.2,()):=by
 unfold eT;rw[bQ (by omega) h (by omega) (by have:=h;omega),oCT];rfl
theorem LH{C:CC}{T:TT'}(h:shp C T)(hT:SmT T):eJ C T=some (C,T,()):=by
 unfold eJ;have h4:=h.1
 have step:∀i,i<C.length->cw ((i:Int),C,T,(),(),C.take i,(),())=some (.inl (((i+1:Nat):Int),C,T,(),(),C.take (i+1),(),())):=by
  intro i hi;have hok:=of_decide_eq_true (h.2.2 _ (List.getElem_mem hi));unfold cw;delta bJ;dsimp only;rw[oDT (show(i:Int)<C.length by omega),oCT,bN];simp only[oBS,bO hi];rw[bQ (by omega) (by omega) (by omega) (by omega),oCT,bQ (by rw[oLT];omega) (by simp) (by omega) (by rw[oLT,List.length_singleton];omega),oCT,bS (by omega) (by omega),<- eA hi];rfl
 have fin:cw ((C.length:Int),C,T,(),(),C.take C.length,(),())=some (.inr ((C.length:Int),false,C,T,(),(),C.take C.length,(),())):=by
  unfold cw;delta bJ;dsimp only;rw[oDF (show ¬(C.length:Int)<C.length by omega)];rfl
 have:=loop_seq (f:=cw) (λi=>((i:Int),C,T,(),(),C.take i,(),())) (n:=C.length) (N:=NN) (by unfold NN;omega) step fin;rw[show bM cw NN (0,C,T,(),(),[],(),())=_ from this,List.take_length,oBS];dsimp only;have t4:=h.2.1
 have X1:∀i,i<T.length->cu ((i:Int),C,T,(),(),C,T.take i,())=some (.inl (((i+1:Nat):Int),C,T,(),(),C,T.take (i+1),())):=by
  intro i hi;unfold cu;delta bJ;dsimp only;rw[oDT (show(i:Int)<T.length by omega),oCT,bN];simp only[oBS,bO hi,yW (hT _ (List.getElem_mem hi))];rw[bQ (by rw[oLT];omega) (by simp) (by omega) (by rw[oLT,List.length_singleton];omega),oCT,bS (by omega) (by omega),<- eA hi];rfl
 have V8:cu ((T.length:Int),C,T,(),(),C,T.take T.length,())=some (.inr ((T.length:Int),false,C,T,(),(),C,T.take T.length,())):=by
  unfold cu;delta bJ;dsimp only;rw[oDF (show ¬(T.length:Int)<T.length by omega)];rfl
 have:=loop_seq (f:=cu) (λi=>((i:Int),C,T,(),(),C,T.take i,())) (n:=T.length) (N:=NN) (by unfold NN;omega) X1 V8;rw[show bM cu NN (0,C,T,(),(),C,[],())=_ from this,List.take_length];rfl
def PE(C:CC)(T:TT')(D:CC)(U:TT'):Prop:=szs D=szs C/\U.length=T.length/\SmT U
theorem DN{C:CC}{T:TT'}{D:CC}{U:TT'}(h:PE C T D U)(hs:shp C T):shp D U:=by
 rw[<- xm,h.1,h.2.1];exact xm.2 hs
theorem ww{C D:CC}(h:szs D=szs C):D.length=C.length:=by rw[<- gr D,h,gr]
theorem Ey{C:CC}{i:Nat}{f:List DCn->List DCn}(h:∀c,(f c).length=c.length):szs (C.modify i f)=szs C:=by
 unfold szs;apply List.ext_getElem?;intro j;rw[List.getElem?_map,List.getElem?_map,List.getElem?_modify]
 cases C[j]? with
 |none=>simp
 |some c=>
  simp only[oMS];split
  ·simp[h]
  ·simp
theorem wy{T:TT'}{i:Nat}{v:DTs}(h:SmT T)(hv:Sm v.2.2.2.2.2.2.2):SmT (T.modify i λ_=>v):=by
 intro t ht;obtain⟨j,hj⟩:=List.mem_iff_getElem?.1 ht;rw[List.getElem?_modify]at hj
 cases e:T[j]? with
 |none=>rw[e]at hj;simp at hj
 |some u=>
  rw[e]at hj;have hj:some (if i=j then v else u)=some t:=hj
  injection hj with hj
  split at hj
  ·rw[<- hj];exact hv
  ·rw[<- hj];exact h _ (List.mem_of_getElem? e)
theorem PX(l:List Int):tA l=some (decide (l.length<=400),()):=by
 unfold tA;delta bJ;dsimp only;congr 2;rw[decide_eq_decide];omega
theorem E8{C:CC}{T:TT'}{D:CC}{U:TT'}(h:zn C T)(h1:PE C T D U):zn D U:=⟨by rw[ww h1.1];exact h.1,DN h1 h.2.1,h1.2.2⟩
theorem EA{c x:List DCn}{a:Nat}(h:a+x.length<=c.length):(pC c a x.length x).length=c.length:=by
 unfold pC;rw[List.take_length,List.length_append,List.length_append,oLT,List.length_drop,Nat.min_eq_left (by omega)];omega
theorem OF{c:List DCn}{j:Nat}(hc:c.length<=32)(h:8*j<c.length):eK c (j:Int)=some ((c.drop (8*j)).take 8,()):=by
 unfold eK;delta bJ;dsimp only;rw[oDF (show ¬(j:Int)<0 by omega),oCF,oDF (show ¬(j:Int)>32 by omega),oCF];simp only[oBS];rw[bS (x:=(j:Int)*8) (by omega) (by omega),oDF (show ¬(j:Int)*8>=(c.length:Int) by omega),oCF,bS (x:=(j:Int)*8+8) (by omega) (by omega)];rw[show(j:Int)*8=((8*j:Nat):Int) by omega,show((8*j:Nat):Int)+8=((8*j+8:Nat):Int) by omega,BU,bN,bN];simp only[oBS]
 have ho:cR (8*j) (Nat.min (8*j+8) c.length) c.length=true:=by
  unfold cR;have h1:Nat.min (8*j+8) c.length=min (8*j+8) c.length:=rfl;rw[h1];simp only[oBA,oDE];omega
 rw[ho,oCT,F2 (by omega)]
abbrev Cls:Type:=Bool×(List Int)×List Int
def Byt(l:List Int):Prop:=∀x∈l,0<=x/\x<=255
theorem wZ(l:List Int):(mS l).data.toList=l.map λn=>UInt8.ofNat n.toNat:=by
 have Z0:∀(l:List Int)(r:ByteArray),(l.foldl (λr n=>r.push (UInt8.ofNat n.toNat)) r).data.toList=r.data.toList++l.map λn=>UInt8.ofNat n.toNat:=by
  intro l
  induction l with
  |nil=>intro r;simp
  |cons x l ih=>intro r;rw[List.foldl_cons,ih];simp[ByteArray.push]
 unfold mS;rw[Z0];rfl
theorem oQ{a b:List Int}(ha:Byt a)(hb:Byt b):Jn (mS a) (mS b)=true↔a=b:=by
 unfold Jn;rw[ByteArray.toList_eq,ByteArray.toList_eq,wZ,wZ,beq_iff_eq];refine⟨λh=>?_,λh=>by rw[h]⟩
 induction a generalizing b with
 |nil=>cases b with
  |nil=>rfl
  |cons y b=>simp at h
 |cons x a ih=>
  cases b with
  |nil=>simp at h
  |cons y b=>
   simp only[List.map_cons,List.cons.injEq]at h;have e:=ih (λz hz=>ha z (List.mem_cons_of_mem _ hz)) (λz hz=>hb z (List.mem_cons_of_mem _ hz)) h.2;have p:=ha x List.mem_cons_self;have q:=hb y List.mem_cons_self
   have e0:x.toNat=y.toNat:=by
    have:=congrArg UInt8.toNat h.1;simpa[UInt8.toNat_ofNat',Nat.mod_eq_of_lt (show x.toNat<256 by omega),Nat.mod_eq_of_lt (show y.toNat<256 by omega)]using this
   rw[e,show x=y by omega]
def at_(Q:List Cls)(b:List Int):Nat:=Q.findIdx λc=>decide (b=c.2.1)
theorem rX{α:Type}{l:List α}{k:Nat}{f:α->α}{x:α}(h:x∈l.modify k f):x∈l\/∃y∈l,x=f y:=by
 obtain⟨i,hi,rfl⟩:=List.mem_iff_getElem.1 h;rw[List.getElem_modify];split
 ·exact .inr ⟨_,List.getElem_mem _,rfl⟩
 ·exact .inl (List.getElem_mem _)
def Qf(L:List (List Int))(b:List Int)(i:Nat):List Int:=((List.range i).filter λj=>decide (L.getD j []=b)).map λj:Nat=>((j:Nat):Int)
structure Qt (L:List (List Int))(Q:List Cls)(i:Nat):Prop where
 nd:(Q.map λc=>c.2.1).Nodup
 mem:∀c∈Q,c.2.2=Qf L c.2.1 i
 all:∀j,j<i->∃c∈Q,c.2.1=L.getD j []
 sum:(Q.map λc=>c.2.2.length).sum=i
def iP(o c:Cls):Cls:=if c.1=true/\c.2.2.length>o.2.2.length then c else o
theorem Hu{c0:Cls}:∀{Q:List Cls},(∀c∈Q,c.2.2.length<=c0.2.2.length)->Q.foldl iP c0=c0:=by
 intro Q
 induction Q with
 |nil=>intro _;rfl
 |cons c Q ih=>
  intro h;rw[List.foldl_cons]
  have e:iP c0 c=c0:=by
   unfold iP;rw[oIN (by have:=h c List.mem_cons_self;omega)]
  rw[e];exact ih λc hc=>h c (List.mem_cons_of_mem _ hc)
theorem Hv{c0:Cls}(h0:c0.1=true):∀{Q:List Cls}{o:Cls},c0∈Q->(∀c∈Q,c=c0\/c.2.2.length<c0.2.2.length)->o.2.2.length<c0.2.2.length->Q.foldl iP o=c0:=by
 intro Q
 induction Q with
 |nil=>intro o h;cases h
 |cons c Q ih=>
  intro o hm h ho;rw[List.foldl_cons];have hQ:∀c∈Q,c=c0\/c.2.2.length<c0.2.2.length:=λc hc=>h c (List.mem_cons_of_mem _ hc);rcases h c List.mem_cons_self with rfl|g
  ·have e:iP o c=c:=by
    unfold iP;rw[oIP ⟨h0,ho⟩]
   rw[e]
   exact Hu λc' hc=>by
    rcases hQ c' hc with rfl|g
    ·exact Nat.le_refl _
    ·omega
  ·have To:c0∈Q:=by
    rcases List.mem_cons.1 hm with rfl|h1
    ·omega
    ·exact h1
   refine ih To hQ ?_;unfold iP;split
   ·exact g
   ·exact ho
theorem Ph{Q:List Cls}(hs:Sm Q):mw Q=some ((Q.foldl iP (false,([],[]))).1,(Q.foldl iP (false,([],[]))).2.1,(Q.foldl iP (false,([],[]))).2.2,()):=by
 unfold mw;delta bJ;dsimp only
 have l0:=loop_seq (f:=gJ) (st:=λi=>(Q,(Q.length:Int),(i:Int),false,(),(),((Q.take i).foldl iP (false,([],[]))).1,((Q.take i).foldl iP (false,([],[]))).2.1,((Q.take i).foldl iP (false,([],[]))).2.2,())) (n:=Q.length) (N:=NN) (fin:=(Q,(Q.length:Int),(Q.length:Int),false,false,(),(),((Q.take Q.length).foldl iP (false,([],[]))).1,((Q.take Q.length).foldl iP (false,([],[]))).2.1,((Q.take Q.length).foldl iP (false,([],[]))).2.2,())) (eu hs) (λi hi=>by
  unfold gJ kw;delta bJ;dsimp only;rw[oDT (show(i:Int)<(Q.length:Int) by omega),oCT,bN];simp only[oBS];rw[bO hi];simp only[oBS];rw[<- eA hi,List.foldl_append,List.foldl_cons,List.foldl_nil];generalize(Q.take i).foldl iP (false,([],[]))=o;have hw:w64 ((i:Int)+1)=(i:Int)+1:=bS (by omega) (by unfold Sm at hs;omega);unfold iP
  cases hc:Q[i].1 with
  |true=>
   rw[oCT];simp only[oBS];by_cases g:Q[i].2.2.length>o.2.2.length
   ·rw[oDT (by omega),oCT,oIP ⟨by first|rfl|trivial,g⟩];simp only[oBS];rw[hw,hc];rfl
   ·rw[oDF (by omega),oCF,oIN (λh=>g h.2)];simp only[oBS];rw[hw];rfl
  |false=>
   rw[oCF];simp only[oBS,oCF];rw[oIN (λh=>by cases h.1),hw]
   rfl) (by
  unfold gJ;dsimp only
  rw[oDF (by omega),oCF])
 rw[List.take_length]at l0;rw[show bM gJ NN (Q,(Q.length:Int),0,false,(),(),false,[],[],())=_ from l0,oBS]
theorem uY{l:List Int}(hs:Sm l)(x:Int):dx l x=some (decide (x∈l),()):=by
 unfold dx iu;delta bJ;dsimp only
 rcases fD (f:=cE) (st:=λi=>(l,x,(l.length:Int),(i:Int),())) (p:=λi=>∀h:i<l.length,x≠l[i]) (n:=l.length) (N:=NN) (bad:=λi=>.inl ((i:Int),())) (fin:=.inr (l,x,(l.length:Int),(l.length:Int),false,())) (eu hs) (λi hi=>by
  have e:cE (l,x,(l.length:Int),(i:Int),())=if x=l[i]then some (.inr (.inl ((i:Int),())))else some (.inl (l,x,(l.length:Int),((i+1:Nat):Int),())):=by
   unfold cE;dsimp only;rw[oDT (show(i:Int)<(l.length:Int) by omega),oCT,bN];simp only[oBS];rw[bO hi];simp only[oBS];by_cases g:x=l[i]
   ·rw[beq_iff_eq.2 g,oCT,oIP g]
   ·rw[oBF g,oCF,oIN g,bS (by omega) (by unfold Sm at hs;omega)];rfl
  by_cases g:x=l[i]
  ·exact .inr ⟨λh=>h hi g,by rw[e,oIP g]⟩
  ·exact .inl ⟨λ_=>g,by rw[e,oIN g]⟩) (by
  unfold cE;dsimp only
  rw[oDF (by omega),oCF])with⟨hp,e⟩|⟨k,hk,hp,hn,e⟩
 ·rw[show bM cE NN (l,x,(l.length:Int),0,())=_ from e,oDF (show ¬x∈l from λhm=>by
   obtain⟨i,hi,e⟩:=List.mem_iff_getElem.1 hm
   exact hp i hi hi e.symm)]
  rfl
 ·have ZZ:x=l[k]:=Classical.byContradiction λh=>hn λ_=>h;rw[show bM cE NN (l,x,(l.length:Int),0,())=_ from e,oDT (show x∈l from ZZ▸List.getElem_mem hk)];dsimp only;rw[oBS];dsimp only;rw[oDT (show(k:Int)>=0 from Int.natCast_nonneg k)]
def lost(L:List (List Int))(b:List Int)(i:Nat):List Int:=((List.range i).filter λj=>decide (L.getD j []≠b)).map λj:Nat=>((j:Nat):Int)
abbrev jR:Type:=Bool×List Int
def gk(c:Cls):jR:=(c.1,c.2.1)
def atK(Q:List Cls)(k:jR):Nat:=Q.findIdx λc=>decide (k=gk c)
theorem I4(Q:List Cls)(k:jR):atK Q k<=Q.length:=List.findIdx_le_length
def Bn(Q:List Cls)(k:jR)(i:Int):List Cls:=(if atK Q k=Q.length then Q++[(k.1,(k.2,[]))]else Q).modify (atK Q k) λe=>(e.1,(e.2.1,e.2.2++[i]))
def gC(W:Nat->Option jR):Nat->List Cls
 |0=>[]
 |i+1=>match W i with
  |none=>gC W i
  |some k=>Bn (gC W i) k i
def yi(W:Nat->Option jR)(k:jR)(i:Nat):List Int:=((List.range i).filter λj=>decide (W j=some k)).map λj:Nat=>((j:Nat):Int)
def jH(W:Nat->Option jR)(i:Nat):Nat:=((List.range i).filter λj=>(W j).isSome).length
theorem om(W:Nat->Option jR)(i:Nat):jH W (i+1)=jH W i+if(W i).isSome then 1 else 0:=by
 unfold jH;rw[List.range_succ,List.filter_append,List.length_append];cases h:(W i).isSome<;>simp[h]
theorem sg(W:Nat->Option jR)(i:Nat):jH W i<=i:=by
 unfold jH;exact Nat.le_trans (List.length_filter_le _ _) (by simp)
theorem kJ(W:Nat->Option jR)(k:jR)(i:Nat):yi W k (i+1)=if W i=some k then yi W k i++[(i:Int)]else yi W k i:=by
 unfold yi;rw[List.range_succ,List.filter_append,List.map_append];by_cases h:W i=some k
 ·rw[oIP h,List.filter_cons_of_pos (by rw[oDT h])];rfl
 ·rw[oIN h,List.filter_cons_of_neg (by rw[oDF h];decide)];simp
theorem tG{W:Nat->Option jR}{k:jR}{i:Nat}{x:Int}:x∈yi W k i↔∃j:Nat,j<i/\W j=some k/\x=j:=by
 unfold yi;simp only[List.mem_map,List.mem_filter,List.mem_range,oDE];exact⟨λ⟨j,⟨h1,h2⟩,h3⟩=>⟨j,h1,h2,h3.symm⟩,λ⟨j,h1,h2,h3⟩=>⟨j,⟨h1,h2⟩,h3.symm⟩⟩
theorem DU{W:Nat->Option jR}{k k':jR}(h:k≠k'):∀i,(yi W k i).length+(yi W k' i).length<=jH W i:=by
 intro i
 induction i with
 |zero=>simp[yi]
 |succ i ih=>
  rw[kJ,kJ,om];by_cases h1:W i=some k
  ·rw[oIP h1,oIN (λh2=>h (Option.some.inj (h1.symm.trans h2))),List.length_append,List.length_singleton,h1];simp only[Option.isSome_some,if_true];omega
  ·rw[oIN h1];by_cases h2:W i=some k'
   ·rw[oIP h2,List.length_append,List.length_singleton,h2];simp only[Option.isSome_some,if_true];omega
   ·rw[oIN h2];omega
theorem Kx(W:Nat->Option jR)(k:jR)(i:Nat):(yi W k i).length<=jH W i:=by
 have:=DU (W:=W) (k:=k) (k':=(!k.1,k.2)) (λe=>by
  have:=congrArg Prod.fst e
  cases h:k.1<;>simp[h]at this) i
 omega
theorem J5{Q:List Cls}{k:jR}(h:atK Q k=Q.length)(i:Int):Bn Q k i=Q++[(k.1,(k.2,[i]))]/\∀c∈Q,gk c≠k:=by
 refine⟨?_,λc hc e=>?_⟩
 ·unfold Bn;rw[oIP h,h];apply List.ext_getElem?;intro n;rw[List.getElem?_modify];by_cases e:Q.length=n
  ·subst e;simp
  ·rcases Nat.lt_or_ge n Q.length with g|g
   ·rw[List.getElem?_append_left g,List.getElem?_append_left g];simp[e]
   ·rw[oGN (by simp;omega),oGN (by simp;omega)];rfl
 ·have h1:atK Q k<Q.length:=List.findIdx_lt_length_of_exists ⟨c,hc,oDT e.symm⟩;omega
theorem J4{Q:List Cls}{k:jR}(h:atK Q k<Q.length)(i:Int):Bn Q k i=Q.take (atK Q k)++((Q[atK Q k]'h).1,((Q[atK Q k]'h).2.1,(Q[atK Q k]'h).2.2++[i]))::Q.drop (atK Q k+1)/\gk (Q[atK Q k]'h)=k/\Q=Q.take (atK Q k)++(Q[atK Q k]'h)::Q.drop (atK Q k+1):=by
 refine⟨?_,?_,?_⟩
 ·unfold Bn;rw[oIN (by omega),List.modify_eq_take_cons_drop h]
 ·have:=List.findIdx_getElem (xs:=Q) (p:=λc:Cls=>decide (k=gk c)) (w:=h);exact(of_decide_eq_true this).symm
 ·rw[List.getElem_cons_drop,List.take_append_drop]
structure Qr (W:Nat->Option jR)(Q:List Cls)(i:Nat):Prop where
 nd:(Q.map gk).Nodup
 mem:∀c∈Q,c.2.2=yi W (gk c) i/\c.2.2≠[]
 all:∀j k,j<i->W j=some k->∃c∈Q,gk c=k
 sum:(Q.map λc=>c.2.2.length).sum=jH W i
theorem q8(W:Nat->Option jR):∀i,Qr W (gC W i) i:=by
 intro i
 induction i with
 |zero=>exact⟨List.nodup_nil,λc hc=>(by cases hc),λj k hj=>absurd hj (Nat.not_lt_zero _),rfl⟩
 |succ i ih=>
  obtain⟨a,b,c,d⟩:=ih
  cases hW:W i with
  |none=>
   have e:gC W (i+1)=gC W i:=by
    show(match W i with|none=>gC W i|some k=>Bn (gC W i) k i)=_;rw[hW]
   rw[e];refine⟨a,λc' hc=>?_,λj k hj hk=>?_,?_⟩
   ·rw[kJ,oIN (by rw[hW];exact λh=>by cases h)];exact b c' hc
   ·by_cases g:j=i
    ·subst g;rw[hW]at hk;cases hk
    ·exact c j k (by omega) hk
   ·rw[om,hW];simpa using d
  |some kk=>
   have e:gC W (i+1)=Bn (gC W i) kk i:=by
    show(match W i with|none=>gC W i|some k=>Bn (gC W i) k i)=_;rw[hW]
   rw[e];generalize gC W i=Q at a b c d
   have Vx:jH W (i+1)=jH W i+1:=by
    rw[om,hW];rfl
   rcases Nat.lt_or_ge (atK Q kk) Q.length with h|h
   ·obtain⟨e1,e2,e3⟩:=J4 h (i:Int);rw[e1];generalize atK Q kk=n at h e2 e3;generalize hx:Q[n]=x at e2 e3;generalize hA:Q.take n=A at e3;generalize hB:Q.drop (n+1)=B at e3;subst e3
    have hne:∀c,c∈A\/c∈B->gk c≠gk x:=by
     intro c hc e;rw[List.map_append,List.map_cons,List.nodup_append]at a;obtain⟨_,a2,a3⟩:=a;rcases hc with hc|hc
     ·exact a3 _ (List.mem_map_of_mem (f:=gk) hc) _ List.mem_cons_self e
     ·exact(List.nodup_cons.1 a2).1 (e▸List.mem_map_of_mem (f:=gk) hc)
    have XJ:∀m:List Int,gk ((x.1,(x.2.1,m)):Cls)=gk x:=λ_=>rfl;refine⟨by simpa[XJ]using a,λc' hc=>?_,λj k hj hk=>?_,?_⟩
    ·rw[kJ,hW];rcases List.mem_append.1 hc with h1|h1
     ·rw[oIN (λe=>hne c' (.inl h1) ((Option.some.inj e).symm.trans e2.symm))];exact b c' (List.mem_append_left _ h1)
     ·rcases List.mem_cons.1 h1 with rfl|h1
      ·rw[XJ,oIP (by rw[e2])];refine⟨?_,by simp⟩;show x.2.2++[(i:Int)]=_;rw[(b x (List.mem_append_right _ List.mem_cons_self)).1]
      ·rw[oIN (λe=>hne c' (.inr h1) ((Option.some.inj e).symm.trans e2.symm))];exact b c' (List.mem_append_right _ (List.mem_cons_of_mem _ h1))
    ·by_cases g:j=i
     ·subst g;rw[hW]at hk
      injection hk with hk
      exact⟨_,List.mem_append_right _ List.mem_cons_self,(XJ _).trans (e2.trans hk)⟩
     ·obtain⟨c',hc,e⟩:=c j k (by omega) hk;rcases List.mem_append.1 hc with h1|h1
      ·exact⟨c',List.mem_append_left _ h1,e⟩
      ·rcases List.mem_cons.1 h1 with rfl|h1
       ·exact⟨_,List.mem_append_right _ List.mem_cons_self,(XJ _).trans e⟩
       ·exact⟨c',List.mem_append_right _ (List.mem_cons_of_mem _ h1),e⟩
    ·rw[Vx];simp only[List.map_append,List.map_cons,List.sum_append,List.sum_cons,List.length_append,List.length_singleton]at d⊢;omega
   ·obtain⟨e1,e2⟩:=J5 (Nat.le_antisymm (I4 _ _) h) (i:Int);rw[e1];have XJ:gk ((kk.1,(kk.2,[(i:Int)])):Cls)=kk:=rfl;refine⟨?_,λc' hc=>?_,λj k hj hk=>?_,?_⟩
    ·rw[List.map_append,List.nodup_append];refine⟨a,by simp,λx hx y hy=>?_⟩;obtain⟨c',hc,rfl⟩:=List.mem_map.1 hx;rw[List.map_singleton,List.mem_singleton,XJ]at hy;subst hy;exact e2 c' hc
    ·rw[kJ,hW];rcases List.mem_append.1 hc with h1|h1
     ·rw[oIN (λe=>e2 c' h1 (Option.some.inj e).symm)];exact b c' h1
     ·rw[List.mem_singleton.1 h1,XJ,oIP rfl]
      have:yi W kk i=[]:=List.eq_nil_iff_forall_not_mem.2 λx hx=>by
       obtain⟨j,h3,h4,_⟩:=tG.1 hx;obtain⟨c2,Zo,e⟩:=c j kk h3 h4;exact e2 c2 Zo e
      rw[this];exact⟨rfl,by simp⟩
    ·by_cases g:j=i
     ·subst g;rw[hW]at hk
      injection hk with hk
      exact⟨_,List.mem_append_right _ (List.mem_singleton.2 rfl),XJ.trans hk⟩
     ·obtain⟨c',hc,e⟩:=c j k (by omega) hk;exact⟨c',List.mem_append_left _ hc,e⟩
    ·rw[Vx];simp only[List.map_append,List.map_cons,List.map_nil,List.sum_append,List.sum_cons,List.sum_nil,List.length_singleton];omega
theorem MQ{Q:List Cls}:∀{o:Cls},Q.foldl iP o=o\/(Q.foldl iP o∈Q/\(Q.foldl iP o).1=true):=by
 induction Q with
 |nil=>intro o;exact .inl rfl
 |cons c Q ih=>
  intro o;rw[List.foldl_cons]
  rcases ih (o:=iP o c)with h|⟨h1,h2⟩
  ·rw[h];unfold iP;split
   ·rename_i g;exact .inr ⟨List.mem_cons_self,g.1⟩
   ·exact .inl rfl
  ·exact .inr ⟨List.mem_cons_of_mem _ h1,h2⟩
theorem tO(W:Nat->Option jR):∀i,(gC W i).length<=i:=by
 intro i
 induction i with
 |zero=>exact Nat.le_refl _
 |succ i ih=>
  show(match W i with|none=>gC W i|some k=>Bn (gC W i) k i).length<=_
  cases W i with
  |none=>exact Nat.le_succ_of_le ih
  |some k=>
   show(Bn _ _ _).length<=_;unfold Bn;rw[oLM];split
   ·rw[List.length_append,List.length_singleton];omega
   ·omega
theorem KU{W:Nat->Option jR}{i:Nat}{c:Cls}(h:c∈gC W i):∃j,j<i/\W j=some (gk c):=by
 obtain⟨h1,h2⟩:=(q8 W i).mem c h
 cases e:c.2.2 with
 |nil=>exact absurd e h2
 |cons x r=>
  obtain⟨j,h3,h4,_⟩:=tG.1 (show x∈yi W (gk c) i by rw[<- h1,e];exact List.mem_cons_self);exact⟨j,h3,h4⟩
theorem tN{W:Nat->Option jR}{i:Nat}{c:Cls}(h:c∈gC W i):c.2.2.length<=i:=by
 rw[((q8 W i).mem c h).1];exact Nat.le_trans (Kx _ _ _) (sg _ _)
def j9(W:Nat->Option jR)(k:jR)(i:Nat):List Int:=((List.range i).filter λj=>(W j).isSome&&decide (W j≠some k)).map λj:Nat=>((j:Nat):Int)
theorem wI(W:Nat->Option jR)(k:jR)(i:Nat):j9 W k (i+1)=if(W i).isSome=true/\W i≠some k then j9 W k i++[(i:Int)]else j9 W k i:=by
 unfold j9;rw[List.range_succ,List.filter_append,List.map_append];by_cases h:(W i).isSome=true/\W i≠some k
 ·rw[oIP h,List.filter_cons_of_pos (by rw[h.1,oDT h.2];rfl)];rfl
 ·rw[oIN h,List.filter_cons_of_neg (by simpa using h),List.filter_nil,List.map_nil,List.append_nil]
theorem zY{W:Nat->Option jR}{k:jR}{i:Nat}{x:Int}:x∈j9 W k i↔∃j:Nat,j<i/\(W j).isSome=true/\W j≠some k/\x=j:=by
 unfold j9;simp only[List.mem_map,List.mem_filter,List.mem_range,oBA,oDE];exact⟨λ⟨j,⟨h1,h2,h4⟩,h3⟩=>⟨j,h1,h2,h4,h3.symm⟩,λ⟨j,h1,h2,h4,h3⟩=>⟨j,⟨h1,h2,h4⟩,h3.symm⟩⟩
theorem qA(W:Nat->Option jR)(k:jR)(i:Nat):(j9 W k i).length+(yi W k i).length=jH W i:=by
 induction i with
 |zero=>simp[j9,yi,jH]
 |succ i ih=>
  rw[wI,kJ,om]
  cases hW:W i with
  |none=>
   rw[oIN (λh=>by cases h.1),oIN (λh=>by cases h)];simpa using ih
  |some kk=>
   by_cases h:kk=k
   ·subst h;rw[oIN (λh=>h.2 rfl),oIP rfl,List.length_append,List.length_singleton];simp only[Option.isSome_some,if_true];omega
   ·rw[oIP ⟨rfl,λe=>h (Option.some.inj e)⟩,oIN (λe=>h (Option.some.inj e)),List.length_append,List.length_singleton];simp only[Option.isSome_some,if_true];omega
abbrev vl(Q:List Cls):Cls:=Q.foldl iP (false,([],[]))
theorem Dj{l:List Cls}(h:∀c∈l,c.2.2≠[])(hs:(l.map λc=>c.2.2.length).sum=0):l=[]:=by
 cases l with
 |nil=>rfl
 |cons c l=>
  rw[List.map_cons,List.sum_cons]at hs;exact absurd (List.length_eq_zero_iff.1 (show c.2.2.length=0 by omega)) (h c List.mem_cons_self)
structure Maj (W:Nat->Option jR)(N:Nat)(c0:Cls):Prop where
 mem:c0∈gC W N
 here:c0.1=true
 most:jH W N<2*c0.2.2.length
 ids:c0.2.2=yi W (gk c0) N
 best:vl (gC W N)=c0
 oth:∀c∈gC W N,c=c0\/2*c.2.2.length<=jH W N
 one:j9 W (gk c0) N=[]↔c0.2.2.length=jH W N
 one':j9 W (gk c0) N=[]↔(gC W N).length=1
theorem HY(W:Nat->Option jR)(N:Nat):(∃c0,Maj W N c0)\/((∀c∈gC W N,c.1=true->2*c.2.2.length<=jH W N)/\2*(vl (gC W N)).2.2.length<=jH W N):=by
 obtain⟨nd,mem,all,sum⟩:=q8 W N;by_cases h:∃c0∈gC W N,c0.1=true/\jH W N<2*c0.2.2.length
 ·obtain⟨c0,h1,h2,h3⟩:=h
  have oth:∀c∈gC W N,c=c0\/2*c.2.2.length<=jH W N:=λc hc=>by
   by_cases g:gk c=gk c0
   ·left
    have e1:c.2.2=c0.2.2:=by rw[(mem c hc).1,(mem c0 h1).1,g]
    obtain⟨a1,a2,a3⟩:=c;obtain⟨b1,b2,b3⟩:=c0
    injection g with g1 g2
    show(a1,(a2,a3))=(b1,(b2,b3));rw[show a1=b1 from g1,show a2=b2 from g2,show a3=b3 from e1]
   ·right;have:=DU (W:=W) g N;rw[<- (mem c hc).1,<- (mem c0 h1).1]at this;omega
  have one:j9 W (gk c0) N=[]↔c0.2.2.length=jH W N:=by
   have:=qA W (gk c0) N;rw[<- (mem c0 h1).1]at this;rw[<- List.length_eq_zero_iff];omega
  refine .inl ⟨c0,h1,h2,h3,(mem c0 h1).1,?_,oth,one,one.trans ?_⟩
  ·refine Hv h2 h1 (λc hc=>?_) ?_
   ·rcases oth c hc with g|g
    ·exact .inl g
    ·exact .inr (by omega)
   ·show 0<_;omega
  ·refine⟨λe=>?_,λe=>?_⟩
   ·obtain⟨A,B,hQ⟩:=List.append_of_mem h1;rw[hQ]at sum mem⊢;simp only[List.map_append,List.map_cons,List.sum_append,List.sum_cons]at sum;rw[Dj (l:=A) (λc hc=>(mem c (List.mem_append_left _ hc)).2) (by omega),Dj (l:=B) (λc hc=>(mem c (List.mem_append_right _ (List.mem_cons_of_mem _ hc))).2) (by omega)];rfl
   ·obtain⟨c,hc⟩:=List.length_eq_one_iff.1 e;rw[hc,List.mem_singleton]at h1;subst h1;rw[hc]at sum;simpa using sum
 ·right
  have h0:∀c∈gC W N,c.1=true->2*c.2.2.length<=jH W N:=λc hc ht=>by
   exact Classical.byContradiction λn=>h ⟨c,hc,ht,by omega⟩
  refine⟨h0,?_⟩
  rcases MQ (Q:=gC W N) (o:=(false,([],[])))with g|⟨g1,g2⟩
  ·show 2*(List.foldl iP (false,([],[])) (gC W N)).2.2.length<=_;rw[g];exact Nat.zero_le _
  ·exact h0 _ g1 g2
theorem KL{α:Type}(x:α){P:Nat->Prop}[DecidablePred P]:∀n:Nat,(∀i j,P i->P j->i<n->j<n->i=j)->(List.range n).flatMap (λi=>if P i then[x]else[])=if ∃i,i<n/\P i then[x]else[]:=by
 intro n
 induction n with
 |zero=>intro _;simp
 |succ n ih=>
  intro h;rw[List.range_succ,List.flatMap_append,ih λi j a b c d=>h i j a b (by omega) (by omega)];by_cases g:P n
  ·have Zp:¬ ∃i,i<n/\P i:=λ⟨i,h1,h2⟩=>by
    have:=h i n h2 g (by omega) (by omega);omega
   rw[oIN Zp,oIP ⟨n,by omega,g⟩];simp[g]
  ·have e:(∃i,i<n+1/\P i)↔∃i,i<n/\P i:=⟨λ⟨i,h1,h2⟩=>⟨i,by
    by_cases e:i=n
    ·subst e;exact absurd h2 g
    ·omega,h2⟩,λ⟨i,h1,h2⟩=>⟨i,by omega,h2⟩⟩
   simp only[e];simp[g]
theorem wO{α β:Type}{f g:α->List β}:∀{l:List α},(∀x∈l,f x=g x)->l.flatMap f=l.flatMap g:=by
 intro l
 induction l with
 |nil=>intro _;rfl
 |cons x l ih=>
  intro h;rw[List.flatMap_cons,List.flatMap_cons,h x List.mem_cons_self,ih λy hy=>h y (List.mem_cons_of_mem _ hy)]
theorem Ia{Q:List Cls}(nd:(Q.map gk).Nodup){i j:Nat}(hi:i<Q.length)(hj:j<Q.length)(h:gk Q[i]=gk Q[j]):i=j:=by
 have hp:=List.pairwise_iff_getElem.1 nd;rcases Nat.lt_trichotomy i j with g|g|g
 ·exact absurd (by rw[List.getElem_map,List.getElem_map];exact h) (hp i j (by simpa using hi) (by simpa using hj) g)
 ·exact g
 ·exact absurd (by rw[List.getElem_map,List.getElem_map];exact h.symm) (hp j i (by simpa using hj) (by simpa using hi) g)
theorem Cw{α β:Type}(q:α->Bool)(f:α->β)(l:List α):l.flatMap (λr=>if q r=true then[f r]else[])=(l.filter q).map f:=by
 induction l with
 |nil=>rfl
 |cons x l ih=>
  rw[List.flatMap_cons,ih];cases h:q x<;>simp[h]
theorem zQ(q:Nat->Bool)(N:Nat):∀d,(∀r,N<=r->q r=false)->(List.range (N+d)).filter q=(List.range N).filter q:=by
 intro d
 induction d with
 |zero=>intro _;rfl
 |succ d ih=>
  intro h;rw[<- Nat.add_assoc,List.range_succ,List.filter_append,ih h];simp[h (N+d) (by omega)]
theorem Cb(W:Nat->Option jR)(k:jR)(N r:Nat):(yi W k N).filter (λx=>x==(r:Int))=if r<N/\W r=some k then[(r:Int)]else[]:=by
 induction N with
 |zero=>simp[yi]
 |succ N ih=>
  rw[kJ];by_cases h:W N=some k
  ·rw[oIP h,List.filter_append,ih];by_cases e:N=r
   ·subst e;rw[oIN (by omega),oIP ⟨by omega,h⟩];simp
   ·have e':((N:Int)==(r:Int))=false:=oBF (by omega);simp only[List.filter_cons,e',List.filter_nil,List.append_nil,Bool.false_eq_true,if_false];by_cases g:r<N/\W r=some k
    ·rw[oIP g,oIP ⟨by omega,g.2⟩]
    ·rw[oIN g,oIN (λg'=>g ⟨by omega,g'.2⟩)]
  ·rw[oIN h,ih];by_cases g:r<N/\W r=some k
   ·rw[oIP g,oIP ⟨by omega,g.2⟩]
   ·rw[oIN g,oIN (λg'=>g ⟨by
     by_cases e:r=N
     ·subst e;exact absurd g'.2 h
     ·omega,g'.2⟩)]
def vw(Q:List Cls)(b r i:Nat):List Int:=(List.range i).flatMap λi=>if i=b then[]else(Q.getD i (false,([],[]))).2.2.filter λx=>x==(r:Int)
theorem MT{W:Nat->Option jR}{N:Nat}{b:Nat}(hb:b<(gC W N).length)(r:Nat):vw (gC W N) b r (gC W N).length=if((decide (r<N))&&((W r).isSome&&decide (W r≠some (gk ((gC W N)[b]'hb)))))=true then[(r:Int)]else[]:=by
 obtain⟨nd,mem,all,sum⟩:=q8 W N;generalize gC W N=Q at *
 have e1:vw Q b r Q.length=(List.range Q.length).flatMap λi=>if i≠b/\i<Q.length/\r<N/\W r=some (gk (Q.getD i (false,([],[]))))then[(r:Int)]else[]:=by
  unfold vw;apply wO;intro i hi;have hi:=List.mem_range.1 hi
  have hg:Q.getD i (false,([],[]))=Q[i]:=by rw[oGD,oGE hi,Option.getD_some]
  by_cases e:i=b
  ·rw[oIP e,oIN (λh=>h.1 e)]
  ·rw[oIN e,hg,(mem _ (List.getElem_mem hi)).1,Cb];by_cases g:r<N/\W r=some (gk Q[i])
   ·rw[oIP g,oIP ⟨e,hi,g⟩]
   ·rw[oIN g,oIN (λh=>g h.2.2)]
 rw[e1,KL (r:Int) (P:=λi=>i≠b/\i<Q.length/\r<N/\W r=some (gk (Q.getD i (false,([],[]))))) Q.length (λi j h1 h2 hi hj=>by
  have hk:gk (Q.getD i (false,([],[])))=gk (Q.getD j (false,([],[]))):=Option.some.inj (h1.2.2.2.symm.trans h2.2.2.2);rw[oGD,oGE hi,Option.getD_some,oGD,oGE hj,Option.getD_some]at hk
  exact Ia nd hi hj hk)]
 by_cases g:r<N/\(W r).isSome=true/\W r≠some (gk Q[b])
 ·have hE:∃i,i<Q.length/\(i≠b/\i<Q.length/\r<N/\W r=some (gk (Q.getD i (false,([],[]))))):=by
   obtain⟨k,hk⟩:=Option.isSome_iff_exists.1 g.2.1;obtain⟨c,hc,e⟩:=all r k g.1 hk;obtain⟨i,hi,rfl⟩:=List.mem_iff_getElem.1 hc;refine⟨i,hi,λe2=>?_,hi,g.1,?_⟩
   ·subst e2;exact g.2.2 (by rw[hk,e])
   ·rw[oGD,oGE hi,Option.getD_some,e,hk]
  rw[oIP hE,oIP (by rw[oDT g.1,g.2.1,oDT g.2.2];rfl)]
 ·have hE:¬ ∃i,i<Q.length/\(i≠b/\i<Q.length/\r<N/\W r=some (gk (Q.getD i (false,([],[]))))):=by
   rintro⟨i,hi,h1,_,h2,h3⟩;rw[oGD,oGE hi,Option.getD_some]at h3;refine g ⟨h2,by rw[h3];rfl,λh4=>h1 ?_⟩;exact Ia nd hi hb (Option.some.inj (h3.symm.trans h4))
  rw[oIN hE,oIN (λh=>g (by simpa using h))]
theorem MU{W:Nat->Option jR}{N:Nat}(hN:N<=5){b:Nat}(hb:b<(gC W N).length):(List.range 5).flatMap (λr=>vw (gC W N) b r (gC W N).length)=j9 W (gk ((gC W N)[b]'hb)) N:=by
 have e:(List.range 5).flatMap (λr=>vw (gC W N) b r (gC W N).length)=(List.range 5).flatMap λr:Nat=>if((decide (r<N))&&((W r).isSome&&decide (W r≠some (gk ((gC W N)[b]'hb)))))=true then[(r:Int)]else[]:=wO λr _=>MT hb r
 rw[e,Cw (λr:Nat=>((decide (r<N))&&((W r).isSome&&decide (W r≠some (gk ((gC W N)[b]'hb)))))) (λr:Nat=>(r:Int)),show(5:Nat)=N+(5-N) by omega,zQ _ N _ λr hr=>by rw[oDF (by omega)];rfl];unfold j9;congr 1;apply List.filter_congr;intro r hr;rw[oDT (List.mem_range.1 hr),Bool.true_and]
abbrev Ans:Type:=Bool×List Int
def nrm(a:Ans):jR:=(a.1,bif a.1 then a.2 else[])
def tX(A:List Ans)(I:List Bool)(i:Nat):Option jR:=if I.getD i false=true then some (nrm (A.getD i (false,[])))else none
structure zm (k:jR):Prop where
 byt:Byt k.2
 sm:Sm k.2
 nil:k.1=false->k.2=[]
structure vv (A:List Ans):Prop where
 byt:∀a∈A,Byt a.2
 sm:∀a∈A,Sm a.2
theorem OI{a:Ans}(h:Byt a.2)(h2:Sm a.2):zm (nrm a):=by
 unfold nrm
 cases a.1 with
 |true=>exact⟨h,h2,λe=>by cases e⟩
 |false=>exact⟨λx hx=>(by cases hx),(by simp[Sm]),λ_=>rfl⟩
theorem cS{α:Type}{l:List α}{i:Nat}{d:α}(h:i<l.length):l.getD i d=l[i]:=by rw[oGD,oGE h,Option.getD_some]
theorem LR{A:List Ans}(hA:vv A)(i:Nat):Byt (A.getD i (false,[])).2/\Sm (A.getD i (false,[])).2:=by
 rcases Nat.lt_or_ge i A.length with h|h
 ·rw[cS h];exact⟨hA.byt _ (List.getElem_mem h),hA.sm _ (List.getElem_mem h)⟩
 ·rw[oGD,oGN h];exact⟨λx hx=>(by cases hx),(by simp[Sm])⟩
theorem Og{A:List Ans}(hA:vv A){I:List Bool}{i:Nat}{k:jR}(h:tX A I i=some k):zm k:=by
 unfold tX at h;split at h
 ·injection h with h
  rw[<- h];exact OI (LR hA i).1 (LR hA i).2
 ·cases h
theorem Eb{A:List Ans}(hA:vv A){I:List Bool}{i:Nat}{c:Cls}(h:c∈gC (tX A I) i):zm (gk c):=by
 obtain⟨j,_,hj⟩:=KU h;exact Og hA hj
theorem Oy{a:Ans}(ha:Byt a.2){c:Cls}(hc:zm (gk c)):ja a.1 a.2 c.1 c.2.1=some (decide (nrm a=gk c),()):=by
 obtain⟨h,b⟩:=a;obtain⟨h',b',m⟩:=c;have hn:h'=false->b'=[]:=hc.nil;have Zw:Byt b':=hc.byt;have WQ:Byt b:=ha;unfold ja nrm gk;dsimp only;by_cases e:h=h'
 ·subst e;rw[beq_self_eq_true,oCT]
  cases h with
  |false=>
   rw[Bool.not_false,oCT,hn rfl];rfl
  |true=>
   rw[oNT,oCF];unfold mz;show some (Jn (mS b) (mS b'),())=_;by_cases g:b=b'
   ·rw[(oQ WQ Zw).2 g,oDT (by rw[g];rfl)]
   ·rw[oDF (λe=>g (congrArg Prod.snd e)),Bool.eq_false_iff.2 λh=>g ((oQ WQ Zw).1 h)]
 ·rw[oBF e,oCF,oDF (λg=>e (congrArg Prod.fst g))]
theorem MP{Q:List Cls}{a:Ans}(hQ:∀c∈Q,zm (gk c))(hb:Byt a.2)(hs:Sm Q):eO Q a.1 a.2=some ((atK Q (nrm a):Int),()):=by
 unfold eO fh;delta bJ;dsimp only
 rcases fD (f:=cf) (st:=λi=>(Q,a.1,a.2,(Q.length:Int),(i:Int),())) (p:=λi=>∀h:i<Q.length,nrm a≠gk Q[i]) (n:=Q.length) (N:=NN) (bad:=λi=>.inl ((i:Int),())) (fin:=.inr (Q,a.1,a.2,(Q.length:Int),(Q.length:Int),false,())) (eu hs) (λi hi=>by
  have h1:=hQ _ (List.getElem_mem hi)
  have e:cf (Q,a.1,a.2,(Q.length:Int),(i:Int),())=if nrm a=gk Q[i]then some (.inr (.inl ((i:Int),())))else some (.inl (Q,a.1,a.2,(Q.length:Int),((i+1:Nat):Int),())):=by
   unfold cf g7;dsimp only;rw[oDT (show(i:Int)<(Q.length:Int) by omega),oCT,bN];simp only[oBS];rw[bO hi];simp only[oBS];rw[Oy hb h1];simp only[oBS];by_cases g:nrm a=gk Q[i]
   ·rw[oDT g,oCT,oIP g]
   ·rw[oDF g,oCF,oIN g,bS (by omega) (by unfold Sm at hs;omega)];rfl
  by_cases g:nrm a=gk Q[i]
  ·exact .inr ⟨λh=>h hi g,by rw[e,oIP g]⟩
  ·exact .inl ⟨λ_=>g,by rw[e,oIN g]⟩) (by
  unfold cf;dsimp only
  rw[oDF (by omega),oCF])with⟨hp,e⟩|⟨k,hk,hp,hn,e⟩
 ·have e1:atK Q (nrm a)=Q.length:=List.findIdx_eq_length_of_false λc hc=>by
   obtain⟨i,hi,rfl⟩:=List.mem_iff_getElem.1 hc;exact oDF (hp i hi hi)
  rw[show bM cf NN (Q,a.1,a.2,(Q.length:Int),0,())=_ from e,e1];rfl
 ·have ZZ:nrm a=gk Q[k]:=Classical.byContradiction λh=>hn λ_=>h;have e1:atK Q (nrm a)=k:=(List.findIdx_eq hk).2 ⟨oDT ZZ,λj hj=>oDF (hp j hj (by omega))⟩;rw[show bM cf NN (Q,a.1,a.2,(Q.length:Int),0,())=_ from e,e1];dsimp only;rw[oBS];dsimp only;rw[oDT (show(k:Int)>=0 by omega),oCT]
theorem qZ(W:Nat->Option jR)(i:Nat):gC W (i+1)=match W i with
 |none=>gC W i
 |some k=>Bn (gC W i) k i:=rfl
theorem DJ{R:List Cls}{n:Nat}(hR:n<R.length)(x:Int):(R.modify n λe=>(e.1,(e.2.1,List.append (R[n]'hR).2.2 [x])))=R.modify n λe=>(e.1,(e.2.1,e.2.2++[x])):=by
 apply List.ext_getElem?;intro k;rw[List.getElem?_modify,List.getElem?_modify];by_cases e:n=k
 ·subst e;rw[oGE hR];simp
 ·simp[e]
theorem A3{A:List Ans}{I:List Bool}(hA:vv A)(hn:A.length<=5)(hI:I.length=A.length):d6 A I=some (gC (tX A I) A.length,0,()):=by
 obtain⟨W,hW⟩:∃W,W=tX A I:=⟨_,rfl⟩;unfold d6;delta bJ;dsimp only;rw[oDF (show ¬(A.length:Int)>5 by omega),oCF,hI,bne_self_eq_false,oCF]
 have l0:=loop_seq (f:=dT) (st:=λi=>(I,A,(A.length:Int),(i:Int),gC W i,())) (n:=A.length) (N:=NN) (fin:=(I,A,(A.length:Int),(A.length:Int),false,gC W A.length,())) (eu (by omega)) (λi hi=>by
  have c1:=tO W i;have c2:∀c∈gC W i,zm (gk c):=λc hc=>Eb (I:=I) hA (by rw[<- hW];exact hc);have c3:∀c∈gC W i,c.2.2.length<=i:=λc hc=>tN hc;have hb:=hA.byt _ (List.getElem_mem hi);have Vi:=hA.sm _ (List.getElem_mem hi)
  have Vq:W i=if I[i]'(by omega)=true then some (nrm A[i])else none:=by
   rw[hW];unfold tX;rw[cS (show i<I.length by omega),cS hi]
  unfold dT;delta bJ;dsimp only;rw[oDT (show(i:Int)<(A.length:Int) by omega),oCT,bN];simp only[oBS];rw[bO hi];simp only[oBS];rw[bO (show i<I.length by omega)];simp only[oBS];rw[qZ,Vq];by_cases hin:I[i]'(by omega)=true
  rotate_left
  ·rw[oIN hin,Bool.eq_false_iff.2 hin,Bool.not_false,oCT,bS (by omega) (by omega)];rfl
  rw[oIP hin,hin,oNT,oCF,MP c2 hb (by unfold Sm;omega)];simp only[oBS];obtain⟨Q,hQ⟩:∃Q,Q=gC W i:=⟨_,rfl⟩;rw[<- hQ]at c1 c2 c3⊢;obtain⟨n,UK⟩:∃n,n=atK Q (nrm A[i]):=⟨_,rfl⟩;have hat:n<=Q.length:=UK▸I4 Q (nrm A[i])
  have XT:Bn Q (nrm A[i]) i=(if n=Q.length then Q++[((nrm A[i]).1,((nrm A[i]).2,[]))]else Q).modify n λe=>(e.1,(e.2.1,e.2.2++[(i:Int)])):=by
   unfold Bn;rw[<- UK]
  rw[XT,<- UK]
  have fin:∀R:List Cls,n<R.length->(∀c∈R,c.2.2.length<=i)->((cj (n:Int)).bind λx12=>
   (bV R x12).bind λVW=>(bV R x12).bind λVX=>(bV R x12).bind λVm=>
   bif(b8 8 (List.length Vm.2.2) (List.length [(i:Int)]))then let VY:List (Int):=(List.append Vm.2.2 [(i:Int)]);
   (cj (n:Int)).bind λV6=>(bV R V6).bind λSl=>(bV R V6).bind λUV=>
   bif(Nat.beq V6 x12)then let QB:List (Bool×(List (Int))×List (Int)):=(List.modify R V6 λe=>(e.1,(e.2.1,VY)));
   let x21:Int:=(w64 ((i:Int)+1));
   (some (.inl (I,A,(A.length:Int),x21,QB,())):Option (((List (Bool))×(List (Bool×List (Int)))×Int×Int×(List (Bool×(List (Int))×List (Int)))×Unit)⊕((List (Bool))×(List (Bool×List (Int)))×Int×Int×Bool×(List (Bool×(List (Int))×List (Int)))×Unit)))else none else none)=some (.inl (I,A,(A.length:Int),((i+1:Nat):Int),R.modify n λe=>(e.1,(e.2.1,e.2.2++[(i:Int)])),())):=by
   intro R hR hm;rw[bN];simp only[oBS];rw[bO hR];simp only[oBS];have To:=hm _ (List.getElem_mem hR);rw[bQ (by omega) (by simp) (by omega) (by simp;omega),oCT,Nat.beq_refl,oCT,bS (by omega) (by omega),DJ hR];rfl
  by_cases g:n=Q.length
  ·have hm2:∀x:Cls,x.2.2=[]->∀c∈Q++[x],c.2.2.length<=i:=λx hx c hc=>by
    rcases List.mem_append.1 hc with h|h
    ·exact c3 c h
    ·rw[List.mem_singleton.1 h,hx];exact Nat.zero_le _
   rw[oIP g,beq_iff_eq.2 (show((n:Nat):Int)=(Q.length:Int) by omega),oCT];unfold nrm
   cases hh:A[i].1 with
   |true=>
    rw[oCT];unfold mA;rw[bQ (by simp) Vi (by omega) (by rw[Nat.zero_add];exact Vi),oCT];simp only[oBS,List.append_eq,List.nil_append];rw[bQ (by omega) (by simp) (by omega) (by simp;omega),oCT];simp only[oBS,List.append_eq];exact fin _ (by rw[List.length_append,List.length_singleton];omega) (hm2 _ rfl)
   |false=>
    rw[oCF];rw[bQ (by omega) (by simp) (by omega) (by simp;omega),oCT];simp only[oBS,List.append_eq];exact fin _ (by rw[List.length_append,List.length_singleton];omega) (hm2 _ rfl)
  ·rw[oIN g,oBF (show((n:Nat):Int)≠(Q.length:Int) by omega),oCF];simp only[oBS]
   exact fin _ (by omega) c3) (by
  unfold dT;dsimp only
  rw[oDF (by omega),oCF])
 rw[show bM dT NN (I,A,(A.length:Int),0,[],())=_ from l0,oBS,hW]
theorem CY{A:List Ans}{I:List Bool}(hs:Sm A)(hsI:Sm I)(h:¬(A.length<=5/\I.length=A.length)):d6 A I=some ([],if A.length<=5 then 1 else 3,()):=by
 unfold d6;delta bJ;dsimp only;by_cases h1:A.length<=5
 ·rw[oDF (show ¬(A.length:Int)>5 by omega),oCF,oIP h1,bne_iff_ne.2 (show(I.length:Int)≠(A.length:Int)from λe=>h ⟨h1,by omega⟩),oCT]
 ·rw[oDT (show(A.length:Int)>5 by omega),oCT,oIN h1]
def vd(W:Nat->Option jR)(N:Nat)(least:Int):Int×List Int×List Int:=
 if(jH W N:Int)<least then(4,[],[])else
 if jH W N<2*(vl (gC W N)).2.2.length then(if j9 W (gk (vl (gC W N))) N=[]then 1 else 2,(vl (gC W N)).2.1,j9 W (gk (vl (gC W N))) N)else(3,[],[])
theorem Gk{k:Int}:kv k=some (decide (1<=k/\k<=5),()):=by
 unfold kv;by_cases h1:k>=1
 ·rw[oDT h1,oCT];congr 2;rw[decide_eq_decide];omega
 ·rw[oDF h1,oCF,oDF (p:=1<=k/\k<=5) (by omega)]
theorem DH{n:Nat}(h1:1<=n)(h2:n<=5):jV (n:Int)=some ((((n/2+1:Nat):Nat):Int),()):=by
 unfold jV;rw[Gk,oDT (by omega)];simp only[oBS,oNT,oCF]
 have e:Int.tdiv (n:Int) 2=((n/2:Nat):Int):=by
  rw[Int.tdiv_eq_ediv_of_nonneg (by omega)];rfl
 rw[e,bS (x:=((n/2:Nat):Int)) (by omega) (by omega),bS (by omega) (by omega)];rfl
theorem Oq(l:List Cls){N:Nat}(h:∀c∈l,c.2.2.length<=N):(l.map λc=>c.2.2.length).sum<=l.length*N:=by
 induction l with
 |nil=>simp
 |cons c l ih=>
  rw[List.map_cons,List.sum_cons,oLC,Nat.add_mul];have:=h c List.mem_cons_self;have:=ih λc hc=>h c (List.mem_cons_of_mem _ hc);omega
theorem KQ{A:List Ans}{I:List Bool}(hA:vv A)(hn:A.length<=5)(hI:I.length=A.length){least:Int}(h1:1<=least)(h5:least<=5):
 gx A I least=some ((vd (tX A I) A.length least).1,(vd (tX A I) A.length least).2.1,(vd (tX A I) A.length least).2.2,0,()):=by
 obtain⟨W,hW⟩:∃W,W=tX A I:=⟨_,rfl⟩;obtain⟨nd,mem,all,sum⟩:=q8 W A.length;have len:=tO W A.length;have Xv:∀c∈gC W A.length,c.2.2.length<=A.length:=λc hc=>tN hc;have Vx:=sg W A.length;unfold gx;rw[A3 hA hn hI,<- hW,oBS];dsimp only;rw[bne_self_eq_false,oCF,Gk,oDT ⟨h1,h5⟩,oBS];delta bJ;dsimp only;rw[oNT,oCF];have YG:=HY W A.length;unfold vd;obtain⟨Q,hQ⟩:∃Q,Q=gC W A.length:=⟨_,rfl⟩;rw[<- hQ]at sum len Xv⊢
 have l0:=loop_seq (f:=fS) (st:=λi=>(A,I,least,Q,((((Q.take i).map λc=>c.2.2.length).sum:Nat):Int),Q,(Q.length:Int),(i:Int),(0:Int),(),(),Q,())) (n:=Q.length) (N:=NN) (fin:=(A,I,least,Q,((((Q.take Q.length).map λc=>c.2.2.length).sum:Nat):Int),Q,(Q.length:Int),(Q.length:Int),false,(0:Int),(),(),Q,())) (eu (by omega)) (λi hi=>by
  unfold fS;delta bJ;dsimp only;rw[oDT (show(i:Int)<(Q.length:Int) by omega),oCT,bN];simp only[oBS];rw[bO hi];simp only[oBS]
  have hs:((Q.take (i+1)).map λc=>c.2.2.length).sum=((Q.take i).map λc=>c.2.2.length).sum+Q[i].2.2.length:=by
   rw[<- eA hi];simp only[List.map_append,List.sum_append,List.map_cons,List.map_nil,List.sum_cons,List.sum_nil,Nat.add_zero]
  have YM:((Q.take i).map λc=>c.2.2.length).sum<=25:=by
   have h2:=Oq (Q.take i) (N:=A.length) λc hc=>Xv c (List.mem_of_mem_take hc);have h3:(Q.take i).length*A.length<=5*5:=Nat.mul_le_mul (by rw[oLT];omega) hn;omega
  have:=Xv _ (List.getElem_mem hi);rw[bS (by omega) (by omega),bS (by omega) (by omega),hs,Int.natCast_add]
  rfl) (by
  unfold fS;dsimp only
  rw[oDF (by omega),oCF])
 rw[List.take_length,sum]at l0;rw[show bM fS NN (A,I,least,Q,0,Q,(Q.length:Int),0,0,(),(),Q,())=_ from l0,oBS];dsimp only;by_cases hc:(jH W A.length:Int)<least
 ·rw[oDT hc,oCT,oIP hc]
 rw[oDF hc,oCF,oIN hc,Ph (by unfold Sm;omega),oBS];dsimp only
 rcases YG with⟨c0,M⟩|⟨_,Zp⟩
 rotate_left
 ·rw[<- hQ]at Zp;rw[oIN (show ¬jH W A.length<2*(vl Q).2.2.length by omega)]
  have e1:((vl Q).2.2.length:Int)≠(jH W A.length:Int):=by omega
  rw[show((((List.foldl iP (false,([],[])) Q).2.2.length:Nat):Int)==(jH W A.length:Int))=false from oBF e1,oCF,DH (by omega) (by omega),oBS];dsimp only;rw[oDT (show(((List.foldl iP (false,([],[])) Q).2.2.length:Nat):Int)<((jH W A.length/2+1:Nat):Int) by show((vl Q).2.2.length:Int)<_;omega),oCT]
 have hb:=M.best;rw[<- hQ]at hb;have Zw:List.foldl iP (false,([],[])) Q=c0:=hb;rw[Zw];rw[hb,oIP M.most];dsimp only;have hl:=qA W (gk c0) A.length;rw[<- M.ids]at hl;by_cases g:j9 W (gk c0) A.length=[]
 ·rw[beq_iff_eq.2 (show(c0.2.2.length:Int)=(jH W A.length:Int) by have:=M.one.1 g;omega),oCT,oIP g,g]
 ·rw[oBF (show(c0.2.2.length:Int)≠(jH W A.length:Int)from λe=>g (M.one.2 (by omega))),oCF,oIN g,DH (by omega) (by omega),oBS];dsimp only;have hm:=M.most;rw[oDF (show ¬(c0.2.2.length:Int)<((jH W A.length/2+1:Nat):Int) by omega),oCF]
  have l2:=loop_seq (f:=fR) (st:=λi=>(I,(A.length:Int),(i:Int),(0:Int),(),(),c0.1,c0.2.1,c0.2.2,(2:Int),c0.2.1,j9 W (gk c0) i,())) (n:=A.length) (N:=NN) (fin:=(I,(A.length:Int),(A.length:Int),false,(0:Int),(),(),c0.1,c0.2.1,c0.2.2,(2:Int),c0.2.1,j9 W (gk c0) A.length,())) (eu (by omega)) (λi hi=>by
   unfold fR;dsimp only;rw[oDT (show(i:Int)<(A.length:Int) by omega),oCT,bN];simp only[oBS];rw[bO (show i<I.length by omega)];simp only[oBS];have hw:w64 ((i:Int)+1)=(i:Int)+1:=bS (by omega) (by omega)
   have Vq:W i=if I[i]'(by omega)=true then some (nrm A[i])else none:=by
    rw[hW];unfold tX;rw[cS (show i<I.length by omega),cS hi]
   have hm:((i:Int)∈c0.2.2)↔W i=some (gk c0):=by
    rw[M.ids]
    exact tG.trans ⟨λ⟨j,h1,h2,h3⟩=>by
     obtain rfl:i=j:=by omega
     exact h2,λh=>⟨i,hi,h,rfl⟩⟩
   have Ug:=qA W (gk c0) i;have Zg:=sg W i;rw[wI];by_cases hin:I[i]'(by omega)=true
   rotate_left
   ·rw[Bool.eq_false_iff.2 hin,oCF];simp only[oBS];rw[Vq,oIN hin,oIN (λh=>by cases h.1),hw];rfl
   rw[hin,oCT,uY (by have:=Xv _ (hQ▸M.mem);unfold Sm;omega)];simp only[oBS];rw[oIP hin]at Vq;by_cases g:W i=some (gk c0)
   ·rw[oDT (hm.2 g),oNT,oCF,oIN (λn=>n.2 g)];simp only[oBS];rw[hw];rfl
   ·rw[oDF (λh=>g (hm.1 h)),Bool.not_false,oCT,oIP ⟨by rw[Vq];rfl,g⟩,bQ (by omega) (by simp) (by omega) (by simp;omega),oCT];simp only[oBS];rw[hw]
    rfl) (by
   unfold fR;dsimp only
   rw[oDF (by omega),oCF])
  rw[show bM fR NN (I,(A.length:Int),0,0,(),(),c0.1,c0.2.1,c0.2.2,2,c0.2.1,[],())=_ from l2,oBS]
theorem Fq{A:List Ans}{I:List Bool}(hA:vv A)(hs:Sm A)(hsI:Sm I){least:Int}(h:¬(A.length<=5/\I.length=A.length/\1<=least/\least<=5)):
 gx A I least=some (0,[],[],if A.length<=5 then 1 else 3,()):=by
 unfold gx;by_cases g:A.length<=5/\I.length=A.length
 ·rw[A3 hA g.1 g.2,oBS];dsimp only;rw[bne_self_eq_false,oCF,Gk,oDF (λg2=>h ⟨g.1,g.2,g2⟩),oBS];dsimp only;rw[Bool.not_false,oCT,oIP g.1]
 ·rw[CY hs hsI g,oBS];dsimp only;by_cases g1:A.length<=5
  ·rw[oIP g1];rfl
  ·rw[oIN g1];rfl
theorem um{α:Type}{l:List α}{i:Nat}(h:i<l.length){f:α->α}(hf:f l[i]=l[i]):l.modify i f=l:=by
 apply List.ext_getElem?;intro k;rw[List.getElem?_modify];by_cases e:i=k
 ·subst e;rw[oGE h];simp[hf]
 ·simp[e]
def R64(x:Int):Prop:=-9223372036854775808<=x/\x<=9223372036854775807
def le8(v:Int):List Int:=(List.range 8).map λi=>v%18446744073709551616/256 ^ i%256
theorem g8(v:Int):(le8 v).length=8:=by unfold le8;simp
theorem H7(v:Int):Byt (le8 v):=λx hx=>by
 unfold le8 at hx;obtain⟨i,_,rfl⟩:=List.mem_map.1 hx;generalize v%18446744073709551616/256 ^ i=y;omega
theorem P6:∀(n:Nat)(u w:Int),0<=u->0<=w->u<256 ^ n->w<256 ^ n->(∀i,i<n->u/256 ^ i%256=w/256 ^ i%256)->u=w:=by
 intro n
 induction n with
 |zero=>intro u w h1 h2 h3 h4 _;simp at h3 h4;omega
 |succ n ih=>
  intro u w h1 h2 h3 h4 h;have h0:=h 0 (by omega);rw[Int.pow_zero,Int.ediv_one,Int.ediv_one]at h0;have hp:(256:Int) ^ (n+1)=256 ^ n*256:=Int.pow_succ ..
  have e:=ih (u/256) (w/256) (by omega) (by omega) (Int.ediv_lt_of_lt_mul (by decide) (by omega)) (Int.ediv_lt_of_lt_mul (by decide) (by omega)) (λi hi=>by
   have:=h (i+1) (by omega);rw[show(256:Int) ^ (i+1)=256*256 ^ i from by rw[Int.pow_succ,Int.mul_comm],<- Int.ediv_ediv_of_nonneg (by decide),<- Int.ediv_ediv_of_nonneg (by decide)]at this
   exact this)
  omega
theorem lp(l:List Int):(l.flatMap le8).length=8*l.length:=by
 induction l with
 |nil=>rfl
 |cons x l ih=>rw[List.flatMap_cons,List.length_append,g8,ih,oLC];omega
theorem xC(l:List Int):Byt (l.flatMap le8):=λx hx=>by
 obtain⟨y,_,h⟩:=List.mem_flatMap.1 hx;exact H7 y x h
theorem GQ{u:Int}(i:Nat)(h:i<=7):shR .shr .u64 u (8*i)=u/256 ^ i:=by
 have e:min (8*i) (IntKind.bits .u64)=8*i:=by simp[IntKind.bits];omega
 have e2:(2:Int) ^ (8*i)=256 ^ i:=by rw[Int.pow_mul];rfl
 show u.fdiv (2 ^ (min (8*i) (IntKind.bits .u64)))=_;rw[e,e2];exact Int.fdiv_eq_ediv_of_nonneg _ (Int.le_of_lt (Int.pow_pos (by decide)))
theorem F1(x:Int):wk .u64 x=x%18446744073709551616:=by
 show IntKind.wrap .u64 x=_;simp[IntKind.wrap,IntKind.bits,IntKind.signed]
theorem Of(x:Int):wk .u8 x=x%256:=by
 show IntKind.wrap .u8 x=_;simp[IntKind.wrap,IntKind.bits,IntKind.signed]
theorem Kc(v:Int)(l:List Int)(n i:Int){acc:List Int}(ha:acc.length+8<=1099511627776):bM cZ NN (v,l,n,i,0,acc,())=some (v,l,n,i,8,false,acc++le8 v,()):=by
 have l0:=loop_seq (f:=cZ) (st:=λk=>(v,l,n,i,(k:Int),acc++(List.range k).map (λi=>v%18446744073709551616/256 ^ i%256),())) (n:=8) (N:=NN) (fin:=(v,l,n,i,((8:Nat):Int),false,acc++(List.range 8).map (λi=>v%18446744073709551616/256 ^ i%256),())) (eu (by omega)) (λk hk=>by
  unfold cZ;dsimp only;rw[oDT (show(k:Int)<8 by omega),oCT,bS (x:=8*(k:Int)) (by omega) (by omega),show 8*(k:Int)=((8*k:Nat):Int) by omega,bN];simp only[oBS];rw[GQ k (by omega),F1,Of,bQ (by simp;omega) (by simp) (by omega) (by simp;omega),oCT,bS (by omega) (by omega),List.range_succ,List.map_append,<- List.append_assoc]
  rfl) (by
  unfold cZ;dsimp only
  rw[oDF (by omega),oCF])
 rw[show bM cZ NN (v,l,n,i,0,acc,())=bM cZ NN (v,l,n,i,((0:Nat):Int),acc++(List.range 0).map (λi=>v%18446744073709551616/256 ^ i%256),())from by rw[List.range_zero,List.map_nil,List.append_nil];rfl,l0];rfl
theorem qv(l:List Int){acc:List Int}(ha:acc.length+8*l.length<=1099511627776):eb l acc=some (acc++l.flatMap le8,()):=by
 unfold eb;delta bJ;dsimp only
 have l0:=loop_seq (f:=dG) (st:=λk=>(l,(l.length:Int),(k:Int),acc++(l.take k).flatMap le8,())) (n:=l.length) (N:=NN) (fin:=(l,(l.length:Int),(l.length:Int),false,acc++(l.take l.length).flatMap le8,())) (eu (by omega)) (λk hk=>by
  unfold dG;dsimp only;rw[oDT (show(k:Int)<(l.length:Int) by omega),oCT,bN];simp only[oBS];rw[bO hk];simp only[oBS];rw[Kc _ _ _ _ (by rw[List.length_append,lp,oLT];omega)];simp only[oBS];rw[bS (by omega) (by omega),<- eA hk,List.flatMap_append,List.append_assoc]
  simp) (by
  unfold dG;dsimp only
  rw[oDF (by omega),oCF])
 rw[List.take_length]at l0;rw[show bM dG NN (l,(l.length:Int),0,acc,())=bM dG NN (l,(l.length:Int),((0:Nat):Int),acc++(l.take 0).flatMap le8,())from by rw[List.take_zero,List.flatMap_nil,List.append_nil];rfl,l0,oBS]
def nE(c:DCn):List Int:=[c.1,c.2.1,c.2.2.1,c.2.2.2]
def o6(c:DCn):Prop:=∀x∈nE c,R64 x
def Jm(l:List DCn):List Int:=le8 (l.length:Int)++l.flatMap λc=>(nE c).flatMap le8
theorem KX(c:DCn):((nE c).flatMap le8).length=32:=by rw[lp];rfl
theorem vb(l:List DCn):(l.flatMap λc=>(nE c).flatMap le8).length=32*l.length:=by
 induction l with
 |nil=>rfl
 |cons x l ih=>rw[List.flatMap_cons,List.length_append,KX,ih,oLC];omega
theorem qz(l:List DCn):(Jm l).length=8+32*l.length:=by
 unfold Jm;rw[List.length_append,g8,vb]
theorem DL(l:List DCn):Byt (Jm l):=λx hx=>by
 rcases List.mem_append.1 hx with h|h
 ·exact H7 _ x h
 ·obtain⟨c,_,h⟩:=List.mem_flatMap.1 h;exact xC _ x h
theorem Ly(l:List DCn)(hl:∀c∈l,R64 c.1/\R64 c.2.1){acc:List Int}(ha:acc.length+8+32*l.length<=1099511627776):jo l acc=some (acc++Jm l,()):=by
 unfold jo;delta bJ;dsimp only;rw[qv _ (by simp;omega),oBS];dsimp only
 have l0:=loop_seq (f:=ft) (st:=λk=>(l,(l.length:Int),(k:Int),(acc++[(l.length:Int)].flatMap le8)++(l.take k).flatMap (λc=>(nE c).flatMap le8),())) (n:=l.length) (N:=NN) (fin:=(l,(l.length:Int),(l.length:Int),false,(acc++[(l.length:Int)].flatMap le8)++(l.take l.length).flatMap (λc=>(nE c).flatMap le8),())) (eu (by omega)) (λk hk=>by
  unfold ft;dsimp only;rw[oDT (show(k:Int)<(l.length:Int) by omega),oCT,bN];simp only[oBS];rw[bO hk];simp only[oBS];have h:=hl _ (List.getElem_mem hk);unfold R64 at h;rw[show wk .i64 l[k].1=l[k].1 from wrap_i64 h.1.1 h.1.2,show wk .i64 l[k].2.1=l[k].2.1 from wrap_i64 h.2.1 h.2.2];rw[qv _ (by rw[List.length_append,List.length_append,vb,lp,oLT];simp;omega)];simp only[oBS];rw[bS (by omega) (by omega),<- eA hk,List.flatMap_append,List.append_assoc];simp only[List.flatMap_cons,List.flatMap_nil,List.append_nil]
  rfl) (by
  unfold ft;dsimp only
  rw[oDF (by omega),oCF])
 rw[List.take_length]at l0;rw[show bM ft NN (l,(l.length:Int),0,acc++[(l.length:Int)].flatMap le8,())=bM ft NN (l,(l.length:Int),((0:Nat):Int),(acc++[(l.length:Int)].flatMap le8)++(l.take 0).flatMap (λc=>(nE c).flatMap le8),())from by rw[List.take_zero,List.flatMap_nil,List.append_nil];rfl,l0,oBS];unfold Jm;simp only[List.flatMap_cons,List.flatMap_nil,List.append_nil,List.append_assoc]
abbrev PG4:Type:=Int×Int×(List DCn)×Int×Int×Int×Int×Int×Int×Int×List DCn
def pgB(p:PG4):List Int:=[p.1,p.2.1].flatMap le8++(Jm p.2.2.1++([p.2.2.2.1,p.2.2.2.2.1,p.2.2.2.2.2.1,p.2.2.2.2.2.2.1,p.2.2.2.2.2.2.2.1,p.2.2.2.2.2.2.2.2.1,p.2.2.2.2.2.2.2.2.2.1].flatMap le8++Jm p.2.2.2.2.2.2.2.2.2.2))
structure PgR (p:PG4):Prop where
 ids:∀x∈[p.1,p.2.1],R64 x
 cells:∀c∈p.2.2.1,o6 c
 nums:∀x∈[p.2.2.2.1,p.2.2.2.2.1,p.2.2.2.2.2.1,p.2.2.2.2.2.2.1,p.2.2.2.2.2.2.2.1,p.2.2.2.2.2.2.2.2.1,p.2.2.2.2.2.2.2.2.2.1],R64 x
 regs:∀c∈p.2.2.2.2.2.2.2.2.2.2,o6 c
 lc:p.2.2.1.length<=1000
 lr:p.2.2.2.2.2.2.2.2.2.2.length<=1000
theorem BR(p:PG4):Byt (pgB p):=λx hx=>by
 unfold pgB at hx;rcases List.mem_append.1 hx with h|h
 ·exact xC _ x h
 ·rcases List.mem_append.1 h with h|h
  ·exact DL _ x h
  ·rcases List.mem_append.1 h with h|h
   ·exact xC _ x h
   ·exact DL _ x h
abbrev zPg:PG4:=(0,(0,([],(0,(0,(0,(0,(0,(0,(0,[]))))))))))
def StK(C:CC)(T:TT'):Prop:=Sm C/\(∀c∈C,Sm c)/\Sm T/\SmT T
def PgK(p:PG):Prop:=Sm p.2.2.1/\Sm p.2.2.2.2.2.2.2.2.2.2
theorem AV{C:CC}{T:TT'}(h:StK C T):eX C T=some (C,T,()):=by
 have h1:C.length<=1099511627776:=h.1;have h2:T.length<=1099511627776:=h.2.2.1;have hT:=h.2.2.2;unfold eX
 have e1:eC C=some (C,()):=by
  unfold eC;rw[bQ (by omega) (by omega) (by omega) (by omega),oCT];rfl
 have e2:fN T=some (T,()):=by
  unfold fN;rw[bQ (by omega) (by omega) (by omega) (by omega),oCT];rfl
 rw[e1,oBS];dsimp only;rw[e2,oBS];delta bJ;dsimp only
 have l0:=loop_seq (f:=fw) (st:=λi=>((C.length:Int),(i:Int),C,i,T,(),(),())) (n:=C.length) (N:=NN) (fin:=((C.length:Int),(C.length:Int),false,C,C.length,T,(),(),())) (eu (by omega)) (λi hi=>by
  unfold fw;dsimp only;have hok:=h.2.1 _ (List.getElem_mem hi);rw[oDT (show(i:Int)<(C.length:Int) by omega),oCT,bN,oBS,bO hi,oBS,show cR i i i=true by simp[cR],oCT,oBS,u7 hok,oBS];dsimp only;rw[oBS,bO hi,oBS,oBS,Nat.beq_refl,oCT,um hi rfl,bS (by omega) (by omega)]
  rfl) (by
  unfold fw;dsimp only
  rw[oDF (by omega),oCF])
 rw[show bM fw NN ((C.length:Int),0,C,0,T,(),(),())=_ from l0,oBS];dsimp only;rw[Nat.beq_refl,oCT]
 have l1:=loop_seq (f:=fu) (st:=λi=>((T.length:Int),(i:Int),C,T,(),(),())) (n:=T.length) (N:=NN) (fin:=((T.length:Int),(T.length:Int),false,C,T,(),(),())) (eu (by omega)) (λi hi=>by
  unfold fu;dsimp only;rw[oDT (show(i:Int)<(T.length:Int) by omega),oCT,bN];simp only[oBS];rw[bO hi];simp only[oBS];unfold eN;rw[u7 (hT _ (List.getElem_mem hi))];simp only[oBS];rw[um hi rfl,bS (by omega) (by omega)]
  rfl) (by
  unfold fu;dsimp only
  rw[oDF (by omega),oCF])
 rw[show bM fu NN ((T.length:Int),0,C,T,(),(),())=_ from l1];rfl
theorem CI{C:CC}{T:TT'}(h:StK C T):eJ C T=some (C,T,()):=by
 unfold eJ;have h4:C.length<=1099511627776:=h.1;have hT:=h.2.2.2
 have step:∀i,i<C.length->cw ((i:Int),C,T,(),(),C.take i,(),())=some (.inl (((i+1:Nat):Int),C,T,(),(),C.take (i+1),(),())):=by
  intro i hi;have hok:C[i].length<=1099511627776:=h.2.1 _ (List.getElem_mem hi);unfold cw;delta bJ;dsimp only;rw[oDT (show(i:Int)<C.length by omega),oCT,bN];simp only[oBS,bO hi];rw[bQ (by omega) (by omega) (by omega) (by omega),oCT,bQ (by rw[oLT];omega) (by simp) (by omega) (by rw[oLT,List.length_singleton];omega),oCT,bS (by omega) (by omega),<- eA hi];rfl
 have fin:cw ((C.length:Int),C,T,(),(),C.take C.length,(),())=some (.inr ((C.length:Int),false,C,T,(),(),C.take C.length,(),())):=by
  unfold cw;delta bJ;dsimp only;rw[oDF (show ¬(C.length:Int)<C.length by omega)];rfl
 have:=loop_seq (f:=cw) (λi=>((i:Int),C,T,(),(),C.take i,(),())) (n:=C.length) (N:=NN) (by unfold NN;omega) step fin;rw[show bM cw NN (0,C,T,(),(),[],(),())=_ from this,List.take_length,oBS];dsimp only;have t4:T.length<=1099511627776:=h.2.2.1
 have X1:∀i,i<T.length->cu ((i:Int),C,T,(),(),C,T.take i,())=some (.inl (((i+1:Nat):Int),C,T,(),(),C,T.take (i+1),())):=by
  intro i hi;unfold cu;delta bJ;dsimp only;rw[oDT (show(i:Int)<T.length by omega),oCT,bN];simp only[oBS,bO hi,yW (hT _ (List.getElem_mem hi))];rw[bQ (by rw[oLT];omega) (by simp) (by omega) (by rw[oLT,List.length_singleton];omega),oCT,bS (by omega) (by omega),<- eA hi];rfl
 have V8:cu ((T.length:Int),C,T,(),(),C,T.take T.length,())=some (.inr ((T.length:Int),false,C,T,(),(),C,T.take T.length,())):=by
  unfold cu;delta bJ;dsimp only;rw[oDF (show ¬(T.length:Int)<T.length by omega)];rfl
 have:=loop_seq (f:=cu) (λi=>((i:Int),C,T,(),(),C,T.take i,())) (n:=T.length) (N:=NN) (by unfold NN;omega) X1 V8;rw[show bM cu NN (0,C,T,(),(),C,[],())=_ from this,List.take_length];rfl
theorem G7{C:CC}{T:TT'}{D:CC}{U:TT'}(h:StK C T):jn C T D U=some (decide (C=D/\T=U),()):=by
 unfold jn;delta bJ;dsimp only;by_cases hl:C.length=D.length
 rotate_left
 ·rw[mF hl,oCT,oDF (p:=C=D/\T=U) λe=>hl (by rw[e.1])]
 rw[qw hl,oCF];by_cases hm:T.length=U.length
 rotate_left
 ·rw[mF hm,oCT,oDF (p:=C=D/\T=U) λe=>hm (by rw[e.2])]
 rw[qw hm,oCF];have c4:C.length<=1099511627776:=h.1;have t4:T.length<=1099511627776:=h.2.2.1;have hT:=h.2.2.2
 have q1:=mb (f:=gq) hl (by unfold Sm;omega) (λi=>((i:Int),C,T,D,U,())) (bad:=.inl (false,())) (fin:=.inr ((C.length:Int),false,C,T,D,U,()))
  (λi h1 h2=>by
   have hok:C[i].length<=1099511627776:=h.2.1 _ (List.getElem_mem h1);unfold gq;delta bJ;dsimp only;rw[oDT (show(i:Int)<C.length by omega),oCT,bN];simp only[oBS,bO h1,bO h2];rw[oI (by unfold Sm;omega)];simp only[oBS,oR];rw[bS (by omega) (by omega)]
   rfl)
  (by
   unfold gq;delta bJ;dsimp only;rw[oDF (show ¬(C.length:Int)<C.length by omega)]
   rfl)
 have q2:=mb (f:=gp) hm (by unfold Sm;omega) (λi=>((i:Int),C,T,D,U,())) (bad:=.inl (false,())) (fin:=.inr ((T.length:Int),false,C,T,D,U,()))
  (λi h1 h2=>by
   unfold gp;delta bJ;dsimp only;rw[oDT (show(i:Int)<T.length by omega),oCT,bN];simp only[oBS,bO h1,bO h2];rw[ua (hT _ (List.getElem_mem h1))];simp only[oBS,oR];rw[bS (by omega) (by omega)]
   rfl)
  (by
   unfold gp;delta bJ;dsimp only;rw[oDF (show ¬(T.length:Int)<T.length by omega)]
   rfl)
 rw[show bM gq NN (0,C,T,D,U,())=_ from q1];by_cases e1:C=D
 rotate_left
 ·rw[oDF e1,oDF (p:=C=D/\T=U) λe=>e1 e.1];rfl
 rw[oDT e1];dsimp only[oCT];rw[show bM gp NN (0,C,T,D,U,())=_ from q2];by_cases e2:T=U
 ·rw[oDT e2,oDT (p:=C=D/\T=U) ⟨e1,e2⟩];rfl
 ·rw[oDF e2,oDF (p:=C=D/\T=U) λe=>e2 e.2];rfl
theorem Lu{c:List DCn}(hc:c.length<=32)(b:Int):eK c b=some (if 0<=b/\b<=32/\8*b.toNat<c.length then(c.drop (8*b.toNat)).take 8 else[],()):=by
 by_cases h:0<=b/\b<=32/\8*b.toNat<c.length
 ·rw[oIP h];obtain⟨j,rfl⟩:∃j:Nat,b=j:=⟨b.toNat,by omega⟩;exact OF hc h.2.2
 ·rw[oIN h];unfold eK;delta bJ;dsimp only;by_cases h0:b<0
  ·rw[oDT h0];rfl
  rw[oDF h0,oCF];by_cases h1:b>32
  ·rw[oDT h1];rfl
  rw[oDF h1,oCF,bS (x:=b*8) (by omega) (by omega),oBS];rw[oDT (show b*8>=(c.length:Int) by omega)];rfl
def Th(C:CC)(T:TT')(a b:Int):Prop:=(a=-1/\0<=b/\b.toNat<T.length)\/(a≠-1/\0<=a/\a.toNat<C.length/\0<=b/\b<=32/\8*b.toNat<(C.getD a.toNat []).length)
instance {C:CC} {T:TT'} {a b:Int}:Decidable (Th C T a b):=inferInstanceAs (Decidable (_\/_))
theorem sa{C:CC}{i:Nat}(h:i<C.length):C.getD i []=C[i]:=by simp[oGD,h]
theorem L0{C:CC}{T:TT'}(hs:shp C T)(a b:Int):j4 C T a b=some (decide (Th C T a b),()):=by
 unfold j4;delta bJ;dsimp only;by_cases ha:a=-1
 ·subst ha;rw[show((-1:Int)==-1)=true from rfl,oCT];by_cases hb:b>=0
  ·rw[oDT hb,oCT];congr 2;rw[decide_eq_decide];unfold Th;omega
  ·rw[oDF hb,oCF,oDF (p:=Th C T (-1) b)];unfold Th;omega
 ·rw[oBF ha,oCF];by_cases h1:a>=0
  rotate_left
  ·rw[oDF h1,oCF,oDF (p:=Th C T a b)];unfold Th;omega
  rw[oDT h1,oCT];by_cases h2:a<C.length
  rotate_left
  ·rw[oDF h2,oCF,oDF (p:=Th C T a b)];unfold Th;omega
  obtain⟨i,rfl⟩:∃i:Nat,a=i:=⟨a.toNat,by omega⟩
  have hi:i<C.length:=by omega
  rw[oDT h2,oCT,bN];simp only[oBS,bO hi];have hok:=of_decide_eq_true (hs.2.2 _ (List.getElem_mem hi));rw[Lu (by omega),oBS];dsimp only;congr 2;rw[decide_eq_decide];unfold Th;rw[oTN,sa hi];by_cases h:0<=b/\b<=32/\8*b.toNat<C[i].length
  ·rw[oIP h];simp only[oLT,List.length_drop];omega
  ·rw[oIN h];simp only[List.length_nil];omega
theorem Ll{C:CC}{T:TT'}(hs:shp C T){a b:Int}(h:Th C T a b):((a,b):PID)∈pgs (szs C) T.length:=by
 rcases h with⟨rfl,h1,h2⟩|⟨h0,h1,h2,h3,h4,h5⟩
 ·exact up.2 (.inr ⟨b.toNat,h2,by rw[Int.toNat_of_nonneg h1]⟩)
 ·rw[sa h2]at h5;refine up.2 (.inl ⟨a.toNat,b.toNat,by rw[gr];exact h2,?_,by rw[Int.toNat_of_nonneg h1,Int.toNat_of_nonneg h3]⟩);rw[xi h2];have hok:=of_decide_eq_true (hs.2.2 _ (List.getElem_mem h2));exact(zZ hok _).1 (by omega)
theorem LD{C:CC}{T:TT'}(hC:Sm C)(a b:Int):jp C T a b=some (if shp C T then(if Th C T a b then 0 else 30)else 1,()):=by
 unfold jp;rw[oH hC,oBS];dsimp only;by_cases hs:shp C T
 rotate_left
 ·rw[oDF hs,oIN hs];rfl
 rw[oDT hs,oIP hs];simp only[oNT,oCF];rw[L0 hs,oBS];dsimp only;by_cases h:Th C T a b
 ·rw[oDT h,oIP h];rfl
 ·rw[oDF h,oIN h];rfl
def Dx(C:CC)(T:TT')(a b:Int)(x:List DCn)(v:DTs):CC×TT'×Int:=
 if shp C T then
  if Th C T a b then
   if a=-1 then(if x.length=0 then(C,T.modify b.toNat λ_=>v,0)else([],[],5))
   else if x.length=min 8 ((C.getD a.toNat []).length-8*b.toNat)/\v=zTs then(C.modify a.toNat λ_=>pC (C.getD a.toNat []) (8*b.toNat) x.length x,T,0)else([],[],5)
  else([],[],30)
 else([],[],1)
theorem IF(v:DTs):iB v.1 v.2.1 v.2.2.1 v.2.2.2.1 v.2.2.2.2.1 v.2.2.2.2.2.1 v.2.2.2.2.2.2.1 v.2.2.2.2.2.2.2=some (decide (v=zTs),()):=by
 obtain⟨v0,v1,v2,v3,v4,v5,v6,L⟩:=v;unfold iB;delta bJ;dsimp only
 have e:decide ((v0,v1,v2,v3,v4,v5,v6,L)=zTs)=(v0==0&&(v1==0&&(v2==0&&(v3==0&&(v4==0&&(v5==0&&(v6==0&&((L.length:Int)==0)))))))):=by
  rw[Bool.eq_iff_iff];simp[zTs,Prod.ext_iff]
 rw[e];cases v0==0
 ·rfl
 cases v1==0
 ·rfl
 cases v2==0
 ·rfl
 cases v3==0
 ·rfl
 cases v4==0
 ·rfl
 cases v5==0
 ·rfl
 cases v6==0<;>rfl
theorem Oc(v:DTs):lb v.1 v.2.1 v.2.2.1 v.2.2.2.1 v.2.2.2.2.1 v.2.2.2.2.2.1 v.2.2.2.2.2.2.1 v.2.2.2.2.2.2.2=some (decide (v=zTs),()):=(show lb v.1 v.2.1 v.2.2.1 v.2.2.2.1 v.2.2.2.2.1 v.2.2.2.2.2.1 v.2.2.2.2.2.2.1 v.2.2.2.2.2.2.2=iB v.1 v.2.1 v.2.2.1 v.2.2.2.1 v.2.2.2.2.1 v.2.2.2.2.2.1 v.2.2.2.2.2.2.1 v.2.2.2.2.2.2.2 by kernel_rfl).trans (IF v)
theorem Oi{v:DTs}(hv:Sm v.2.2.2.2.2.2.2):eN v.1 v.2.1 v.2.2.1 v.2.2.2.1 v.2.2.2.2.1 v.2.2.2.2.2.1 v.2.2.2.2.2.2.1 v.2.2.2.2.2.2.2=some (v.1,v.2.1,v.2.2.1,v.2.2.2.1,v.2.2.2.2.1,v.2.2.2.2.2.1,v.2.2.2.2.2.2.1,v.2.2.2.2.2.2.2,()):=by
 unfold eN;rw[u7 hv];rfl
theorem Qa(j:Nat):Nat.add (Nat.add (Nat.add j j) (Nat.add j j)) (Nat.add (Nat.add j j) (Nat.add j j))=8*j:=by
 show j+j+(j+j)+(j+j+(j+j))=8*j;omega
theorem Ej{a b:Nat}(h:a<b):Nat.blt a b=true:=Nat.ble_eq_true_of_le h
theorem Lp{C:CC}{T:TT'}(h:StK C T){x:List DCn}(hx:Sm x){v:DTs}(hv:Sm v.2.2.2.2.2.2.2)(a b:Int):
 kC C T a b x v.1 v.2.1 v.2.2.1 v.2.2.2.1 v.2.2.2.2.1 v.2.2.2.2.2.1 v.2.2.2.2.2.2.1 v.2.2.2.2.2.2.2=some ((Dx C T a b x v).1,(Dx C T a b x v).2.1,(Dx C T a b x v).2.2,()):=by
 unfold kC Dx;rw[LD h.1 a b,oBS];delta bJ;dsimp only;by_cases hs:shp C T
 rotate_left
 ·rw[oIN hs,oIN hs];rfl
 rw[oIP hs,oIP hs];by_cases ht:Th C T a b
 rotate_left
 ·rw[oIN ht,oIN ht];rfl
 rw[oIP ht,oIP ht,bne_self_eq_false,oCF];by_cases ha:a=-1
 ·rw[oIP ha,beq_iff_eq.2 ha,oCT]
  have h2:0<=b/\b.toNat<T.length:=by
   unfold Th at ht;omega
  by_cases hl:x.length=0
  ·rw[oIP hl,oDF (show ¬(x.length:Int)>0 by omega),oCF,AV h,oBS];dsimp only;rw[Oi hv,oBS];dsimp only;obtain⟨j,rfl⟩:∃j:Nat,b=j:=⟨b.toNat,by omega⟩;rw[bN,oBS,bO (show j<T.length by omega),oBS,oBS];rfl
  ·rw[oIN hl,oDT (show(x.length:Int)>0 by omega),oCT]
 ·rw[oIN ha,oBF ha,oCF]
  have h2:0<=a/\a.toNat<C.length/\0<=b/\b<=32/\8*b.toNat<(C.getD a.toNat []).length:=by
   unfold Th at ht;omega
  obtain⟨i,rfl⟩:∃i:Nat,a=i:=⟨a.toNat,by omega⟩;obtain⟨j,rfl⟩:∃j:Nat,b=j:=⟨b.toNat,by omega⟩;simp only[oTN]at h2⊢;obtain⟨_,hi,_,hj,hij⟩:=h2;rw[sa hi]at hij⊢
  have hc:C[i].length<=32:=(of_decide_eq_true (hs.2.2 _ (List.getElem_mem hi))).2 |> λg=>by omega
  have hlen:((C[i].drop (8*j)).take 8).length=min 8 (C[i].length-8*j):=by rw[oLT,List.length_drop]
  rw[bN,oBS,bO hi,oBS,Lu hc,oTN,oIP ⟨by omega,hj,hij⟩,oBS];dsimp only;rw[hlen];by_cases hl:x.length=min 8 (C[i].length-8*j)
  rotate_left
  ·rw[oIN (λg=>hl g.1),bne_iff_ne.2 (show(x.length:Int)≠((min 8 (C[i].length-8*j):Nat):Int) by omega),oCT]
  rw[hl,bne_self_eq_false,oCF,IF,oBS];dsimp only;by_cases hz:v=zTs
  rotate_left
  ·rw[oIN (λg=>hz g.2),oDF hz];rfl
  rw[oIP ⟨rfl,hz⟩,oDT hz,oNT,oCF,AV h,oBS];dsimp only
  have m1:Nat.min (min 8 (C[i].length-8*j)) (Nat.min 8 (Nat.sub C[i].length (8*j)))=min 8 (C[i].length-8*j):=by
   show min (min 8 (C[i].length-8*j)) (min 8 (C[i].length-8*j))=_;omega
  rw[oBS,bO hi,oBS,oBS,oBS,bN,oBS,Qa,m1,Ej (show j<33 by omega),oCT,Ej hij,oCT,Ej (show C[i].length<1099511627777 by omega),oCT,oBS,oBS,
   show cR (8*j) (Nat.add (8*j) (min 8 (C[i].length-8*j))) C[i].length=true by
    unfold cR;rw[show Nat.add (8*j) (min 8 (C[i].length-8*j))=8*j+min 8 (C[i].length-8*j)from rfl];simp
    omega,oCT,Ej (show 0<min 8 (C[i].length-8*j) by omega),oCT,oBS]
theorem Iw{C:CC}{T:TT'}(h:StK C T)(a b:Int):dM C T a b=some (if shp C T/\Th C T a b then((pg C T (a,b)).1,(pg C T (a,b)).2.1,(pg C T (a,b)).2.2.1,(pg C T (a,b)).2.2.2.1,(pg C T (a,b)).2.2.2.2.1,(pg C T (a,b)).2.2.2.2.2.1,(pg C T (a,b)).2.2.2.2.2.2.1,(pg C T (a,b)).2.2.2.2.2.2.2.1,(pg C T (a,b)).2.2.2.2.2.2.2.2.1,(pg C T (a,b)).2.2.2.2.2.2.2.2.2.1,(pg C T (a,b)).2.2.2.2.2.2.2.2.2.2,0,())else(0,0,[],0,0,0,0,0,0,0,[],if shp C T then 30 else 1,())):=by
 by_cases hs:shp C T
 rotate_left
 ·rw[oIN (λg=>hs g.1),oIN hs];unfold dM;rw[jb h.1,oDF hs];rfl
 by_cases ht:Th C T a b
 ·rw[oIP ⟨hs,ht⟩];exact OY hs h.2.2.2 (Ll hs ht)
 rw[oIN (λg=>ht g.2),oIP hs];unfold dM;rw[jb h.1,oDT hs,oBS];delta bJ;dsimp only;simp only[oNT,oCF];by_cases ha:a=-1
 ·rw[beq_iff_eq.2 ha,oCT];by_cases hb:b<0
  ·rw[oDT hb,oCT]
  rw[oDF hb,oCF,oDT (show b>=(T.length:Int) by unfold Th at ht;omega),oCT]
 rw[oBF ha,oCF];by_cases h1:a<0
 ·rw[oDT h1];rfl
 rw[oDF h1,oCF];by_cases h2:a>=(C.length:Int)
 ·rw[oDT h2];rfl
 rw[oDF h2,oCF];by_cases h3:b<0
 ·rw[oDT h3];rfl
 rw[oDF h3,oCF];by_cases h4:b>32
 ·rw[oDT h4];rfl
 rw[oDF h4,oCF];obtain⟨i,rfl⟩:∃i:Nat,a=i:=⟨a.toNat,by omega⟩
 have hi:i<C.length:=by omega
 rw[bN];simp only[oBS,bO hi]
 have h5:b*8>=(C[i].length:Int):=by
  unfold Th at ht;rw[oTN,sa hi]at ht;omega
 rw[bS (x:=b*8) (by omega) (by omega),oDT h5];rfl
theorem Lo{C:CC}{T:TT'}(h:StK C T){x:List DCn}(hx:Sm x){v:DTs}(hv:Sm v.2.2.2.2.2.2.2)(a b:Int):
 kA C T a b x v.1 v.2.1 v.2.2.1 v.2.2.2.1 v.2.2.2.2.1 v.2.2.2.2.2.1 v.2.2.2.2.2.2.1 v.2.2.2.2.2.2.2=some ((Dx C T a b x v).1,(Dx C T a b x v).2.1,(Dx C T a b x v).2.2,()):=by
 unfold kA Dx;rw[Iw h,oBS];by_cases hs:shp C T
 rotate_left
 ·rw[oIN (λg=>hs g.1),oIN hs,oIN hs];rfl
 simp only[oIP hs];by_cases ht:Th C T a b
 rotate_left
 ·rw[oIN (λg=>ht g.2),oIN ht];rfl
 rw[oIP ⟨hs,ht⟩,oIP ht];delta bJ;dsimp only;rw[bne_self_eq_false,oCF];by_cases ha:a=-1
 ·subst ha
  have h2:0<=b/\b.toNat<T.length:=by
   unfold Th at ht;omega
  obtain⟨t,rfl⟩:∃t:Nat,b=t:=⟨b.toNat,by omega⟩
  have VR:t<T.length:=by omega
  rw[qp VR,oIP rfl];dsimp only;by_cases hl:x.length=0
  rotate_left
  ·rw[mF (b:=([]:List DCn)) (by simpa using hl),oIN hl];rfl
  rw[qw (b:=([]:List DCn)) (by simpa using hl),oIP hl,oCF,show((-1:Int) != -1)=false from rfl,oCF,oBS];dsimp only;rw[oCF,CI h,oBS];dsimp only;rw[show((-1:Int)==-1)=true from rfl,oCT,yW hv,oBS];dsimp only;rw[bN];simp only[oBS,bO VR];rfl
 rw[oIN ha]
 have h2:0<=a/\a.toNat<C.length/\0<=b/\b<=32/\8*b.toNat<(C.getD a.toNat []).length:=by
  unfold Th at ht;omega
 obtain⟨i,rfl⟩:∃i:Nat,a=i:=⟨a.toNat,by omega⟩;obtain⟨j,rfl⟩:∃j:Nat,b=j:=⟨b.toNat,by omega⟩;simp only[oTN]at h2⊢;have hi:=h2.2.1;rw[sa hi]at h2⊢;have hj:=h2.2.2.2.2;have hok:=of_decide_eq_true (hs.2.2 _ (List.getElem_mem hi));rw[DE hi];dsimp only
 have Vg:((C[i].drop (8*j)).take 8).length=min 8 (C[i].length-8*j):=by rw[oLT,List.length_drop]
 rw[Vg];by_cases hl:x.length=min 8 (C[i].length-8*j)
 rotate_left
 ·rw[oIN (λg=>hl g.1),show((x.length:Int) != ((min 8 (C[i].length-8*j):Nat):Int))=true by simp;omega,oCT];rfl
 rw[show((x.length:Int) != ((min 8 (C[i].length-8*j):Nat):Int))=false by simp;omega,oCF,bne_iff_ne.2 (show(i:Int)≠-1 by omega),oCT,Oc];by_cases hz:v=zTs
 rotate_left
 ·rw[oIN (λg=>hz g.2),oDF hz];rfl
 rw[oIP ⟨hl,hz⟩,oDT hz];simp only[oBS,oNT,oCF];rw[CI h,oBS];dsimp only;rw[oBF (show(i:Int)≠-1 by omega),oCF,bN];simp only[oBS,bO hi];rw[bS (by omega) (by omega),show(j:Int)*8=((8*j:Nat):Int) by omega,bN];simp only[oBS]
 have RA:Nat.min x.length (Nat.sub C[i].length (8*j))=x.length:=by
  show min x.length (C[i].length-8*j)=x.length;omega
 have YQ:cR (8*j) C[i].length C[i].length=true:=by unfold cR;simp;omega
 have YJ:cR (8*j) (Nat.add (8*j) x.length) C[i].length=true:=by
  show cR (8*j) (8*j+x.length) C[i].length=true;unfold cR;simp;omega
 have hb:Nat.blt 0 x.length=true:=by rw[Nat.blt_eq];omega
 rw[YQ,oCT,RA,YJ,oCT,hb,oCT];rfl
theorem GV{C:CC}{T:TT'}(h:StK C T){x:List DCn}{v:DTs}(hv:Sm v.2.2.2.2.2.2.2){a b:Int}(he:(Dx C T a b x v).2.2=0):StK (Dx C T a b x v).1 (Dx C T a b x v).2.1:=by
 unfold Dx at he⊢;split
 case isFalse=>rename_i g;rw[oIN g]at he;cases he
 rename_i hs;rw[oIP hs]at he;split
 case isFalse=>rename_i g;rw[oIN g]at he;cases he
 rename_i ht;rw[oIP ht]at he;split
 ·rename_i ha;rw[oIP ha]at he;split
  ·refine⟨h.1,h.2.1,?_,wy h.2.2.2 hv⟩;show(T.modify _ _).length<=_;rw[oLM];exact h.2.2.1
  ·rename_i g;rw[oIN g]at he;cases he
 rename_i ha;rw[oIN ha]at he;split
 case isFalse=>rename_i g;rw[oIN g]at he;cases he
 rename_i hl
 have h2:a.toNat<C.length/\8*b.toNat<(C.getD a.toNat []).length:=by
  unfold Th at ht;omega
 rw[sa h2.1]at hl h2⊢;refine⟨?_,λc hc=>?_,h.2.2.1,h.2.2.2⟩
 ·show(C.modify _ _).length<=_;rw[oLM];exact h.1
 ·obtain⟨k,hk,rfl⟩:=List.mem_iff_getElem.1 hc;rw[List.getElem_modify];split
  ·unfold Sm;rw[EA (by omega)];exact h.2.1 _ (List.getElem_mem h2.1)
  ·exact h.2.1 _ (List.getElem_mem _)
abbrev ST:Type:=CC×TT'
structure PgQ (p:PG4):Prop where
 cells:∀c∈p.2.2.1,R64 c.1/\R64 c.2.1
 code:R64 p.2.2.2.2.2.2.2.2.2.1
 regs:∀c∈p.2.2.2.2.2.2.2.2.2.2,R64 c.1/\R64 c.2.1
 lc:p.2.2.1.length<=1048576
 lr:p.2.2.2.2.2.2.2.2.2.2.length<=1048576
structure StQ (C:CC)(T:TT'):Prop where
 len:C.length<=1048576
 lens:∀r∈C,r.length<=1048576
 tlen:T.length<=1048576
 tlens:∀t∈T,t.2.2.2.2.2.2.2.length<=1048576
 cells:∀r∈C,∀c∈r,R64 c.1/\R64 c.2.1
 codes:∀t∈T,R64 t.2.2.2.2.2.2.1
 regs:∀t∈T,∀c∈t.2.2.2.2.2.2.2,R64 c.1/\R64 c.2.1
theorem StQ.k{C:CC}{T:TT'}(h:StQ C T):StK C T:=⟨Nat.le_trans h.len (by omega),λc hc=>Nat.le_trans (h.lens c hc) (by omega),Nat.le_trans h.tlen (by omega),λt ht=>Nat.le_trans (h.tlens t ht) (by omega)⟩
theorem Py{C:CC}{T:TT'}(h:StQ C T)(p:PID):PgQ (pg C T p):=by
 have hz:R64 0:=by unfold R64;omega
 unfold pg;by_cases hp:p.1=-1
 ·rw[oIP hp];rcases Nat.lt_or_ge p.2.toNat T.length with g|g
  ·rw[cS g];exact⟨λc hc=>(by cases hc),h.codes _ (List.getElem_mem g),h.regs _ (List.getElem_mem g),Nat.zero_le _,h.tlens _ (List.getElem_mem g)⟩
  ·rw[oGD,oGN g];exact⟨λc hc=>(by cases hc),hz,λc hc=>(by cases hc),Nat.zero_le _,Nat.zero_le _⟩
 ·rw[oIN hp];rcases Nat.lt_or_ge p.1.toNat C.length with g|g
  ·rw[cS g];refine⟨λc hc=>h.cells _ (List.getElem_mem g) c (List.mem_of_mem_drop (List.mem_of_mem_take (show c∈(C[p.1.toNat].drop (8*p.2.toNat)).take 8 from hc))),hz,λc hc=>(by cases hc),?_,Nat.zero_le _⟩;show((C[p.1.toNat].drop (8*p.2.toNat)).take 8).length<=_;rw[oLT];omega
  ·rw[oGD,oGN g];exact⟨λc hc=>(by simp at hc),hz,λc hc=>(by cases hc),(by simp),Nat.zero_le _⟩
theorem Lt{p:PG4}(h:PgQ p):Sm (pgB p):=by
 have h1:=h.lc;have h2:=h.lr;unfold pgB Sm;rw[List.length_append,List.length_append,List.length_append,lp,lp,qz,qz];simp;omega
theorem Ny{p:PG4}(h:PgQ p):j6 p.1 p.2.1 p.2.2.1 p.2.2.2.1 p.2.2.2.2.1 p.2.2.2.2.2.1 p.2.2.2.2.2.2.1 p.2.2.2.2.2.2.2.1 p.2.2.2.2.2.2.2.2.1 p.2.2.2.2.2.2.2.2.2.1 p.2.2.2.2.2.2.2.2.2.2=some (pgB p,()):=by
 have h1:=h.lc;have h2:=h.lr;have h6:=h.code;unfold R64 at h6;unfold j6;dsimp only;rw[qv _ (by simp),oBS];dsimp only;rw[Ly _ h.cells (by simp[lp,g8];omega),oBS];dsimp only;rw[show wk .i64 p.2.2.2.2.2.2.2.2.2.1=p.2.2.2.2.2.2.2.2.2.1 from wrap_i64 h6.1 h6.2];rw[qv _ (by simp[qz,g8];omega),oBS];dsimp only;rw[Ly _ h.regs (by simp[qz,g8];omega),oBS];unfold pgB;simp only[List.nil_append,List.append_assoc]
def Hs(s:ST)(a b:Int):Prop:=shp s.1 s.2/\Th s.1 s.2 a b
noncomputable instance {s:ST}{a b:Int}:Decidable (Hs s a b):=Classical.propDecidable _
theorem Ix{C:CC}{T:TT'}(h:StK C T)(a b:Int):iY C T a b=some (if Hs (C,T) a b then((pg C T (a,b)).1,(pg C T (a,b)).2.1,(pg C T (a,b)).2.2.1,(pg C T (a,b)).2.2.2.1,(pg C T (a,b)).2.2.2.2.1,(pg C T (a,b)).2.2.2.2.2.1,(pg C T (a,b)).2.2.2.2.2.2.1,(pg C T (a,b)).2.2.2.2.2.2.2.1,(pg C T (a,b)).2.2.2.2.2.2.2.2.1,(pg C T (a,b)).2.2.2.2.2.2.2.2.2.1,(pg C T (a,b)).2.2.2.2.2.2.2.2.2.2,0,())else(0,0,[],0,0,0,0,0,0,0,[],if shp C T then 30 else 1,())):=by
 unfold iY;rw[LD h.1 a b,oBS];dsimp only;by_cases hs:shp C T
 rotate_left
 ·rw[oIN hs,oIN (λg=>hs g.1),oIN hs];rfl
 rw[oIP hs,oIP hs];by_cases ht:Th C T a b
 rotate_left
 ·rw[oIN ht,oIN (λg=>ht g.2)];rfl
 rw[oIP ht,oIP (show Hs (C,T) a b from⟨hs,ht⟩),bne_self_eq_false,oCF];have e:=OX hs h.2.2.2 (Ll hs ht);dsimp only at e;rw[e];rfl
noncomputable def vn (a b:Int)(s:ST):Ans:=if Hs s a b then(true,pgB (pg s.1 s.2 (a,b)))else(false,[])
noncomputable def f8 (a b:Int)(s:ST):PG4:=if Hs s a b then pg s.1 s.2 (a,b)else zPg
noncomputable def jT (l:List ST)(I:List Bool)(a b:Int)(i:Nat):Option jR:=if I.getD i false=true then some (vn a b (l.getD i ([],[])))else none
noncomputable def agK (l:List ST)(I:List Bool)(a b least:Int):PG4×List Int×Int:=
 if l.length<=5/\I.length=l.length/\1<=least/\least<=5 then
  if(vd (jT l I a b) l.length least).1=1\/(vd (jT l I a b) l.length least).1=2 then
   (f8 a b (l.getD ((List.range l.length).findIdx λk=>decide (jT l I a b k=some (true,(vd (jT l I a b) l.length least).2.1))) ([],[])),(vd (jT l I a b) l.length least).2.2,0)
  else(zPg,[],31)
 else(zPg,[],if l.length<=5 then 1 else 3)
theorem F5{W:Nat->Option jR}{N:Nat}{least:Int}(h:(vd W N least).1=1\/(vd W N least).1=2):
 (vd W N least).2.2=j9 W (true,(vd W N least).2.1) N/\∃k,k<N/\W k=some (true,(vd W N least).2.1):=by
 unfold vd at h⊢;split at h
 ·rcases h with h|h<;>cases h
 rename_i h1;rw[oIN h1];split at h
 rotate_left
 ·rcases h with h|h<;>cases h
 rename_i h2;rw[oIP h2]
 rcases HY W N with⟨c0,M⟩|⟨_,Zp⟩
 rotate_left
 ·omega
 dsimp only;rw[M.best]
 have e:gk c0=(true,c0.2.1):=by
  unfold gk;rw[M.here]
 rw[<- e];refine⟨rfl,?_⟩;have hm:=M.most
 cases g:c0.2.2 with
 |nil=>rw[g,List.length_nil]at hm;omega
 |cons x r=>
  obtain⟨j,h3,h4,_⟩:=tG.1 (show x∈yi W (gk c0) N by rw[<- M.ids,g];exact List.mem_cons_self);exact⟨j,h3,h4⟩
theorem F6(W:Nat->Option jR)(N:Nat)(least:Int):(vd W N least).1=1\/(vd W N least).1=2\/(vd W N least).1=3\/(vd W N least).1=4:=by
 unfold vd;split
 ·exact .inr (.inr (.inr rfl))
 split
 ·dsimp only;split
  ·exact .inl rfl
  ·exact .inr (.inl rfl)
 ·exact .inr (.inr (.inl rfl))
theorem LZ{W:Nat->Option jR}{N:Nat}{least:Int}{x:Int}(h:x∈(vd W N least).2.2):∃j:Nat,j<N/\x=j:=by
 unfold vd at h;split at h
 ·cases h
 split at h
 ·obtain⟨j,h1,_,_,h2⟩:=zY.1 h;exact⟨j,h1,h2⟩
 ·cases h
theorem Li(W:Nat->Option jR)(N:Nat)(least:Int):(vd W N least).2.2.length<=N:=by
 unfold vd;split
 ·exact Nat.zero_le _
 split
 ·have:=qA W (gk (vl (gC W N))) N;have:=sg W N;dsimp only;omega
 ·exact Nat.zero_le _
theorem F7{W W':Nat->Option jR}{N:Nat}(h:∀i,i<N->W i=W' i)(least:Int):vd W N least=vd W' N least:=by
 have e1:∀i,i<=N->gC W i=gC W' i:=by
  intro i
  induction i with
  |zero=>intro _;rfl
  |succ i ih=>
   intro hi;rw[qZ,qZ,h i (by omega),ih (by omega)]
 have e2:jH W N=jH W' N:=by
  unfold jH;congr 1
  exact List.filter_congr λj hj=>by rw[h j (List.mem_range.1 hj)]
 have e3:∀k,j9 W k N=j9 W' k N:=λk=>by
  unfold j9;congr 1
  exact List.filter_congr λj hj=>by rw[h j (List.mem_range.1 hj)]
 unfold vd;rw[e1 N (Nat.le_refl _),e2,e3]
theorem HU{α:Type}{n i:Nat}(f g:Nat->α)(hi:i<n)(x:α)(h:∀j,g j=if j=i then x else f j):((List.range n).map f).modify i (λ_=>x)=(List.range n).map g:=by
 apply List.ext_getElem?;intro k;rw[List.getElem?_modify,List.getElem?_map,List.getElem?_map];rcases Nat.lt_or_ge k n with hk|hk
 ·rw[List.getElem?_range hk];simp only[oMS];rw[h k];by_cases e:i=k
  ·subst e;simp
  ·rw[oIN (λe'=>e e'.symm)];simp[e]
 ·rw[oGN (by simpa using hk)];rfl
theorem qV{n k:Nat}{q:Nat->Bool}(hk:k<n)(h1:q k=true)(h2:∀j,j<k->q j=false):(List.range n).findIdx q=k:=by
 have hl:k<(List.range n).length:=by rw[List.length_range];exact hk
 refine(List.findIdx_eq hl).2 ⟨by rw[List.getElem_range];exact h1,λj hj=>?_⟩;rw[List.getElem_range];exact h2 j hj
noncomputable def asL (l:List ST)(I:List Bool)(a b:Int)(i:Nat):List Ans:=(List.range l.length).map λj=>if j<i/\I.getD j false=true then vn a b (l.getD j ([],[]))else(false,[])
noncomputable def gsL (l:List ST)(I:List Bool)(a b:Int)(i:Nat):List PG4:=(List.range l.length).map λj=>if j<i/\I.getD j false=true then f8 a b (l.getD j ([],[]))else zPg
theorem zi(l:List ST)(I:List Bool)(a b:Int)(i:Nat):(asL l I a b i).length=l.length:=by unfold asL;simp
theorem Cq(l:List ST)(I:List Bool)(a b:Int)(i:Nat):(gsL l I a b i).length=l.length:=by unfold gsL;simp
theorem K3(l:List ST)(I:List Bool)(a b:Int):asL l I a b 0=List.replicate l.length (false,[]):=List.eq_replicate_iff.2 ⟨zi _ _ _ _ _,λx hx=>by
 obtain⟨j,_,e⟩:=List.mem_map.1 hx;rw[oIN (by omega)]at e
 exact e.symm⟩
theorem KE(l:List ST)(I:List Bool)(a b:Int):gsL l I a b 0=List.replicate l.length zPg:=List.eq_replicate_iff.2 ⟨Cq _ _ _ _ _,λx hx=>by
 obtain⟨j,_,e⟩:=List.mem_map.1 hx;rw[oIN (by omega)]at e
 exact e.symm⟩
theorem AR{α:Type}{n:Nat}{f g:Nat->α}(h:∀j,j<n->f j=g j):(List.range n).map f=(List.range n).map g:=List.map_congr_left λj hj=>h j (List.mem_range.1 hj)
theorem I7{l:List ST}(a b:Int)(s:ST)(h:StQ s.1 s.2):Byt (vn a b s).2/\Sm (vn a b s).2:=by
 unfold vn;split
 ·exact⟨BR _,Lt (Py h _)⟩
 ·exact⟨λx hx=>(by cases hx),(by simp[Sm])⟩
theorem Pj{l:List ST}(hl:∀s∈l,StQ s.1 s.2)(I:List Bool)(a b:Int)(i:Nat):vv (asL l I a b i):=by
 have Z0:∀x∈asL l I a b i,Byt x.2/\Sm x.2:=λx hx=>by
  obtain⟨j,hj,rfl⟩:=List.mem_map.1 hx;have hj:=List.mem_range.1 hj;split
  ·rw[cS hj];exact I7 (l:=l) a b _ (hl _ (List.getElem_mem hj))
  ·exact⟨λx hx=>(by cases hx),(by simp[Sm])⟩
 exact⟨λx hx=>(Z0 x hx).1,λx hx=>(Z0 x hx).2⟩
theorem NH(a b:Int)(s:ST):nrm (vn a b s)=vn a b s:=by
 unfold vn nrm;split<;>rfl
theorem LX(l:List ST)(I:List Bool)(a b:Int):∀i,i<l.length->tX (asL l I a b l.length) I i=jT l I a b i:=λi hi=>by
 unfold tX jT;by_cases h:I.getD i false=true
 ·rw[oIP h,oIP h]
  have e:(asL l I a b l.length).getD i (false,[])=vn a b (l.getD i ([],[])):=by
   rw[cS (by rw[zi];exact hi)];unfold asL;rw[List.getElem_map,List.getElem_range,oIP ⟨hi,h⟩]
  rw[e,NH]
 ·rw[oIN h,oIN h]
theorem Jd{l:List ST}(hl:∀s∈l,StQ s.1 s.2)(hn:l.length<=1000){I:List Bool}(hI:Sm I)(a b least:Int):
 gK l I a b least=some ((agK l I a b least).1.1,(agK l I a b least).1.2.1,(agK l I a b least).1.2.2.1,(agK l I a b least).1.2.2.2.1,(agK l I a b least).1.2.2.2.2.1,(agK l I a b least).1.2.2.2.2.2.1,(agK l I a b least).1.2.2.2.2.2.2.1,(agK l I a b least).1.2.2.2.2.2.2.2.1,(agK l I a b least).1.2.2.2.2.2.2.2.2.1,(agK l I a b least).1.2.2.2.2.2.2.2.2.2.1,(agK l I a b least).1.2.2.2.2.2.2.2.2.2.2,(agK l I a b least).2.1,(agK l I a b least).2.2,()):=by
 unfold gK;delta bJ;dsimp only;rw[bN];simp only[oBS];rw[show gl l.length l.length 2=true by unfold gl;simp;omega,oCT,show gl l.length l.length 11=true by unfold gl;simp;omega,oCT]
 have l0:=loop_seq (f:=fj) (st:=λi=>(I,least,l,(l.length:Int),(i:Int),a,b,(0:Int),(0:Int),(),(0:Int),(0:Int),(0:Int),(0:Int),(0:Int),(0:Int),(0:Int),(),asL l I a b i,gsL l I a b i,())) (n:=l.length) (N:=NN)
  (fin:=(I,least,l,(l.length:Int),(l.length:Int),false,a,b,(0:Int),(0:Int),(),(0:Int),(0:Int),(0:Int),(0:Int),(0:Int),(0:Int),(0:Int),(),asL l I a b l.length,gsL l I a b l.length,())) (eu (by omega)) (λi hi=>by
  have hs:=hl _ (List.getElem_mem hi)
  have Yn:I.getD i false=false\/vn a b (l.getD i ([],[]))=(false,[])/\f8 a b (l.getD i ([],[]))=zPg->asL l I a b (i+1)=asL l I a b i/\gsL l I a b (i+1)=gsL l I a b i:=λh=>by
   refine⟨AR λj hj=>?_,AR λj hj=>?_⟩
   all_goals
    by_cases e:j=i
    ·subst e;rw[oIN (show ¬(j<j/\_)from λh=>absurd h.1 (Nat.lt_irrefl _))];rcases h with h|h
     ·rw[oIN (by rw[h];exact λh=>by cases h.2)]
     ·first
      |rw[h.1];split<;>rfl
      |rw[h.2];split<;>rfl
    ·by_cases g:j<i
     ·simp only[g,show j<i+1 by omega]
     ·simp only[g,show ¬j<i+1 by omega]
  unfold fj;delta bJ;dsimp only;rw[oDT (show(i:Int)<(l.length:Int) by omega),oCT,bN];simp only[oBS];rw[bO hi];simp only[oBS]
  have hw:w64 ((i:Int)+1)=((i+1:Nat):Int):=by rw[bS (by omega) (by omega)];rfl
  by_cases h1:I.length<=i
  ·have e0:I.getD i false=false:=by rw[oGD,oGN h1];rfl
   obtain⟨e1,e2⟩:=Yn (.inl e0);rw[oDT (show(i:Int)>=(I.length:Int) by omega),oCT,e1,e2];dsimp only;rw[hw]
  rw[oDF (show ¬(i:Int)>=(I.length:Int) by omega),oCF,bO (show i<I.length by omega)];simp only[oBS];have ei:I.getD i false=I[i]'(by omega):=cS (show i<I.length by omega)
  cases hin:I[i]'(by omega)with
  |false=>
   rw[hin]at ei;obtain⟨e1,e2⟩:=Yn (.inl ei);rw[Bool.not_false,oCT,e1,e2];dsimp only;rw[hw]
  |true=>
   rw[hin]at ei;rw[oNT,oCF,Ix hs.k];simp only[oBS];by_cases g:Hs (l[i].1,l[i].2) a b
   rotate_left
   ·obtain⟨e1,e2⟩:=Yn (.inr ⟨by unfold vn;rw[cS hi,oIN g],by unfold f8;rw[cS hi,oIN g]⟩);rw[oIN g];dsimp only
    have e3:((if shp l[i].1 l[i].2 then(30:Int)else 1)==0)=false:=by split<;>rfl
    rw[e3,oCF,e1,e2];dsimp only;rw[hw]
   rw[oIP g];dsimp only;rw[beq_self_eq_true,oCT,Ny (Py hs (a,b))];simp only[oBS];rw[bO (show i<(gsL l I a b i).length by rw[Cq];exact hi)];simp only[oBS];rw[bO (show i<(asL l I a b i).length by rw[zi];exact hi)];simp only[oBS]
   have ea:vn a b (l.getD i ([],[]))=(true,pgB (pg l[i].1 l[i].2 (a,b))):=by unfold vn;rw[cS hi,oIP g]
   have eg:f8 a b (l.getD i ([],[]))=pg l[i].1 l[i].2 (a,b):=by unfold f8;rw[cS hi,oIP g]
   have m1:(asL l I a b i).modify i (λ_=>(true,pgB (pg l[i].1 l[i].2 (a,b))))=asL l I a b (i+1):=HU _ _ hi _ λj=>by
    by_cases e:j=i
    ·subst e;rw[oIP rfl,oIP ⟨by omega,ei⟩,ea]
    ·rw[oIN e];by_cases g:j<i
     ·simp only[g,show j<i+1 by omega]
     ·simp only[g,show ¬j<i+1 by omega]
   have m2:(gsL l I a b i).modify i (λ_=>pg l[i].1 l[i].2 (a,b))=gsL l I a b (i+1):=HU _ _ hi _ λj=>by
    by_cases e:j=i
    ·subst e;rw[oIP rfl,oIP ⟨by omega,ei⟩,eg]
    ·rw[oIN e];by_cases g:j<i
     ·simp only[g,show j<i+1 by omega]
     ·simp only[g,show ¬j<i+1 by omega]
   rw[<- m1,<- m2,hw]) (by
  unfold fj;dsimp only
  rw[oDF (by omega),oCF])
 rw[K3,KE]at l0;rw[show bM fj NN (I,least,l,(l.length:Int),0,a,b,0,0,(),0,0,0,0,0,0,0,(),List.replicate l.length (false,[]),List.replicate l.length (0,(0,([],(0,(0,(0,(0,(0,(0,(0,[])))))))))),())=_ from l0,oBS];dsimp only;have hA:=Pj hl I a b l.length;have V3:=zi l I a b l.length;have hGl:=Cq l I a b l.length;unfold agK;by_cases hgood:l.length<=5/\I.length=l.length/\1<=least/\least<=5
 rotate_left
 ·rw[Fq hA (by rw[Sm,V3];omega) hI (by rw[V3];exact hgood),oBS,oIN hgood,V3];dsimp only;by_cases g:l.length<=5
  ·rw[oIP g];rfl
  ·rw[oIN g];rfl
 rw[oIP hgood,KQ hA (by omega) (by omega) hgood.2.2.1 hgood.2.2.2,oBS,V3,F7 (LX l I a b) least];dsimp only;rw[bne_self_eq_false,oCF];have Yf:=F6 (jT l I a b) l.length least;have YG:=F5 (W:=jT l I a b) (N:=l.length) (least:=least);have hlen:=Li (jT l I a b) l.length least;generalize vd (jT l I a b) l.length least=V at Yf YG hlen⊢;obtain⟨K,bs,S⟩:=V;dsimp only at Yf YG hlen⊢;by_cases hk:K=1\/K=2
 rotate_left
 ·rw[oIN hk,bne_iff_ne.2 (show K≠1 from λe=>hk (.inl e)),oCT,bne_iff_ne.2 (show K≠2 from λe=>hk (.inr e)),oCT]
 rw[oIP hk];obtain⟨eS,k0,VD,WG⟩:=YG hk
 have R7:(bif(K != 1)then(bif(K != 2)then(some (.inl (31,0,0,(),0,0,0,0,0,0,0,(),(),())))else
  some (.inr (I,asL l I a b l.length,false,0,0,(),0,0,0,0,0,0,0,(),asL l I a b l.length,gsL l I a b l.length,K,bs,S,())))else
  some (.inr (I,asL l I a b l.length,false,0,0,(),0,0,0,0,0,0,0,(),asL l I a b l.length,gsL l I a b l.length,K,bs,S,())):Option ((Int×Int×Int×Unit×Int×Int×Int×Int×Int×Int×Int×Unit×Unit×Unit)⊕((List (Bool))×(List (Bool×List (Int)))×Bool×Int×Int×Unit×Int×Int×Int×Int×Int×Int×Int×Unit×(List (Bool×List (Int)))×(List (Int×Int×(List DCn)×Int×Int×Int×Int×Int×Int×Int×List DCn))×Int×(List (Int))×(List (Int))×Unit)))=some (.inr (I,asL l I a b l.length,false,0,0,(),0,0,0,0,0,0,0,(),asL l I a b l.length,gsL l I a b l.length,K,bs,S,())):=by
  rcases hk with rfl|rfl
  ·rfl
  ·rfl
 rw[R7];dsimp only;rw[V3]
 have Zx:∀i,i<l.length->(((i:Int)∈S)↔(jT l I a b i).isSome=true/\jT l I a b i≠some (true,bs)):=λi hi=>by
  rw[eS]
  exact zY.trans ⟨λ⟨j,h1,h2,h3,h4⟩=>by
   obtain rfl:i=j:=by omega
   exact⟨h2,h3⟩,λ⟨h2,h3⟩=>⟨i,hi,h2,h3,rfl⟩⟩
 have hin:∀i,i<l.length->dY (I,asL l I a b l.length,(l.length:Int),(i:Int),0,0,(),0,0,0,0,0,0,0,(),asL l I a b l.length,gsL l I a b l.length,K,bs,S,())=if jT l I a b i≠some (true,bs)then some (.inl (I,asL l I a b l.length,(l.length:Int),((i+1:Nat):Int),0,0,(),0,0,0,0,0,0,0,(),asL l I a b l.length,gsL l I a b l.length,K,bs,S,()))else
  some (.inr (.inl (S,0,(f8 a b (l.getD i ([],[]))).1,(f8 a b (l.getD i ([],[]))).2.1,(f8 a b (l.getD i ([],[]))).2.2.1,(f8 a b (l.getD i ([],[]))).2.2.2.1,(f8 a b (l.getD i ([],[]))).2.2.2.2.1,(f8 a b (l.getD i ([],[]))).2.2.2.2.2.1,(f8 a b (l.getD i ([],[]))).2.2.2.2.2.2.1,(f8 a b (l.getD i ([],[]))).2.2.2.2.2.2.2.1,(f8 a b (l.getD i ([],[]))).2.2.2.2.2.2.2.2.1,(f8 a b (l.getD i ([],[]))).2.2.2.2.2.2.2.2.2.1,(f8 a b (l.getD i ([],[]))).2.2.2.2.2.2.2.2.2.2,()))):=λi hi=>by
  have Z3:i<I.length:=by omega
  have ei:I.getD i false=I[i]:=cS Z3
  have hw:w64 ((i:Int)+1)=((i+1:Nat):Int):=by rw[bS (by omega) (by omega)];rfl
  have Y9:(asL l I a b l.length)[i]'(by omega)=if i<l.length/\I.getD i false=true then vn a b (l.getD i ([],[]))else(false,[]):=by
   unfold asL;rw[List.getElem_map,List.getElem_range]
  have Te:(gsL l I a b l.length)[i]'(by omega)=if i<l.length/\I.getD i false=true then f8 a b (l.getD i ([],[]))else zPg:=by
   unfold gsL;rw[List.getElem_map,List.getElem_range]
  unfold dY;dsimp only;rw[oDT (show(i:Int)<(l.length:Int) by omega),oCT,bN];simp only[oBS];rw[bO (show i<(asL l I a b l.length).length by omega),Y9];simp only[oBS];rw[bO Z3];simp only[oBS]
  cases hb:I[i]with
  |false=>
   rw[hb]at ei
   have Zp:jT l I a b i≠some (true,bs):=by
    unfold jT;rw[oIN (by rw[ei];exact λh=>by cases h)]
    exact λh=>by cases h
   rw[oCF,oIP Zp];simp only[oBS,oCF];rw[hw]
  |true=>
   rw[hb]at ei
   have WB:jT l I a b i=some (vn a b (l.getD i ([],[]))):=by
    unfold jT;rw[oIP ei]
   rw[oCT,oIP ⟨hi,ei⟩]
   cases hA1:(vn a b (l.getD i ([],[]))).1 with
   |false=>
    have Zp:jT l I a b i≠some (true,bs):=by
     rw[WB];intro h
     injection h with h
     rw[h]at hA1;cases hA1
    rw[oCF,oIP Zp];simp only[oBS,oCF];rw[hw]
   |true=>
    rw[oCT,uY (by unfold Sm;omega)];simp only[oBS];by_cases g:jT l I a b i≠some (true,bs)
    ·rw[oIP g,oDT ((Zx i hi).2 ⟨by rw[WB];rfl,g⟩),oNT,oCF,hw]
    ·rw[oIN g,oDF (λh=>g ((Zx i hi).1 h).2),Bool.not_false,oCT,bN,oBS,bO (show i<(gsL l I a b l.length).length by omega),Te,oIP ⟨hi,ei⟩];rfl
 rcases fD (f:=dY) (st:=λi=>(I,asL l I a b l.length,(l.length:Int),(i:Int),(0:Int),(0:Int),(),(0:Int),(0:Int),(0:Int),(0:Int),(0:Int),(0:Int),(0:Int),(),asL l I a b l.length,gsL l I a b l.length,K,bs,S,())) (p:=λi=>jT l I a b i≠some (true,bs)) (n:=l.length) (N:=NN)
  (bad:=λi=>.inl (S,0,(f8 a b (l.getD i ([],[]))).1,(f8 a b (l.getD i ([],[]))).2.1,(f8 a b (l.getD i ([],[]))).2.2.1,(f8 a b (l.getD i ([],[]))).2.2.2.1,(f8 a b (l.getD i ([],[]))).2.2.2.2.1,(f8 a b (l.getD i ([],[]))).2.2.2.2.2.1,(f8 a b (l.getD i ([],[]))).2.2.2.2.2.2.1,(f8 a b (l.getD i ([],[]))).2.2.2.2.2.2.2.1,(f8 a b (l.getD i ([],[]))).2.2.2.2.2.2.2.2.1,(f8 a b (l.getD i ([],[]))).2.2.2.2.2.2.2.2.2.1,(f8 a b (l.getD i ([],[]))).2.2.2.2.2.2.2.2.2.2,())) (fin:=.inr (I,asL l I a b l.length,(l.length:Int),(l.length:Int),false,0,0,(),0,0,0,0,0,0,0,(),asL l I a b l.length,gsL l I a b l.length,K,bs,S,())) (eu (by omega)) (λi hi=>by
  by_cases g:jT l I a b i≠some (true,bs)
  ·exact .inl ⟨g,by rw[hin i hi,oIP g]⟩
  ·exact .inr ⟨g,by rw[hin i hi,oIN g]⟩) (by
  unfold dY;dsimp only
  rw[oDF (by omega),oCF])with⟨hp,e⟩|⟨k,hk,hp,Uh,e⟩
 ·exact absurd WG (hp k0 VD)
 ·have Zh:jT l I a b k=some (true,bs):=Classical.byContradiction Uh;rw[qV hk (oDT Zh) λj hj=>oDF (hp j hj)];rw[show bM dY NN (I,asL l I a b l.length,(l.length:Int),0,0,0,(),0,0,0,0,0,0,0,(),asL l I a b l.length,gsL l I a b l.length,K,bs,S,())=_ from e]
theorem lm(v:Int){acc:List Int}(ha:acc.length+8<=1099511627776):cc v acc=some (acc++le8 v,()):=by
 unfold cc;dsimp only;rw[F1]
 have l0:=loop_seq (f:=dZ) (st:=λk=>(v%18446744073709551616,(k:Int),acc++(List.range k).map (λi=>v%18446744073709551616/256 ^ i%256),())) (n:=8) (N:=NN) (fin:=(v%18446744073709551616,((8:Nat):Int),false,acc++(List.range 8).map (λi=>v%18446744073709551616/256 ^ i%256),())) (eu (by omega)) (λk hk=>by
  unfold dZ;dsimp only;rw[oDT (show(k:Int)<8 by omega),oCT,bS (x:=8*(k:Int)) (by omega) (by omega),F1,show 8*(k:Int)%18446744073709551616=((8*k:Nat):Int) by omega,bN];simp only[oBS];rw[GQ k (by omega),Of,bQ (by simp;omega) (by simp) (by omega) (by simp;omega),oCT,bS (by omega) (by omega),List.range_succ,List.map_append,<- List.append_assoc]
  rfl) (by
  unfold dZ;dsimp only
  rw[oDF (by omega),oCF])
 rw[show bM dZ NN (v%18446744073709551616,0,acc,())=bM dZ NN (v%18446744073709551616,((0:Nat):Int),acc++(List.range 0).map (λi=>v%18446744073709551616/256 ^ i%256),())from by rw[List.range_zero,List.map_nil,List.append_nil];rfl,l0,oBS];rfl
theorem IR(l:List DCn)(hl:∀c∈l,R64 c.1/\R64 c.2.1){acc:List Int}(ha:acc.length+8+32*l.length<=1099511627776):iy l acc=some (acc++Jm l,()):=by
 unfold iy;delta bJ;dsimp only;rw[lm _ (by omega),oBS];dsimp only
 have l0:=loop_seq (f:=eF) (st:=λk=>(l,(k:Int),(acc++le8 (l.length:Int))++(l.take k).flatMap (λc=>(nE c).flatMap le8),())) (n:=l.length) (N:=NN) (fin:=(l,(l.length:Int),false,(acc++le8 (l.length:Int))++(l.take l.length).flatMap (λc=>(nE c).flatMap le8),())) (eu (by omega)) (λk hk=>by
  unfold eF;delta bJ;dsimp only;rw[oDT (show(k:Int)<(l.length:Int) by omega),oCT,bN];simp only[oBS];rw[bO hk];simp only[oBS];have h:=hl _ (List.getElem_mem hk);unfold R64 at h
  have hlen:((acc++le8 (l.length:Int))++(l.take k).flatMap (λc=>(nE c).flatMap le8)).length<=acc.length+8+32*k:=by
   rw[List.length_append,List.length_append,vb,g8,oLT];omega
  rw[show wk .i64 l[k].1=l[k].1 from wrap_i64 h.1.1 h.1.2,show wk .i64 l[k].2.1=l[k].2.1 from wrap_i64 h.2.1 h.2.2];generalize hacc:(acc++le8 (l.length:Int))++(l.take k).flatMap (λc=>(nE c).flatMap le8)=X at hlen;rw[lm _ (by omega)];simp only[oBS];rw[lm _ (by rw[List.length_append,g8];omega)];simp only[oBS];rw[lm _ (by rw[List.length_append,List.length_append,g8,g8];omega)];simp only[oBS];rw[lm _ (by rw[List.length_append,List.length_append,List.length_append,g8,g8,g8];omega)];simp only[oBS]
  have e:(acc++le8 (l.length:Int))++(l.take (k+1)).flatMap (λc=>(nE c).flatMap le8)=X++le8 l[k].1++le8 l[k].2.1++le8 l[k].2.2.1++le8 l[k].2.2.2:=by
   rw[<- eA hk,List.flatMap_append,<- List.append_assoc,hacc];simp[nE]
  rw[bS (by omega) (by omega),e]
  rfl) (by
  unfold eF;delta bJ;dsimp only
  rw[oDF (by omega),oCF])
 rw[List.take_length]at l0;rw[show bM eF NN (l,0,acc++le8 (l.length:Int),())=bM eF NN (l,((0:Nat):Int),(acc++le8 (l.length:Int))++(l.take 0).flatMap (λc=>(nE c).flatMap le8),())from by rw[List.take_zero,List.flatMap_nil,List.append_nil];rfl,l0,oBS];unfold Jm;simp only[List.append_assoc]
theorem Nz{p:PG4}(h:PgQ p):j3 p.1 p.2.1 p.2.2.1 p.2.2.2.1 p.2.2.2.2.1 p.2.2.2.2.2.1 p.2.2.2.2.2.2.1 p.2.2.2.2.2.2.2.1 p.2.2.2.2.2.2.2.2.1 p.2.2.2.2.2.2.2.2.2.1 p.2.2.2.2.2.2.2.2.2.2=some (pgB p,()):=by
 obtain⟨a,b,C,n0,n1,n2,n3,n4,n5,n6,R⟩:=p;have h1:C.length<=1048576:=h.lc;have h2:R.length<=1048576:=h.lr;have h6:R64 n6:=h.code;unfold R64 at h6;unfold j3;dsimp only;rw[lm _ (by simp),oBS];dsimp only;rw[lm _ (by simp[g8]),oBS];dsimp only;rw[IR _ h.cells (by simp[g8];omega),oBS];dsimp only;rw[show wk .i64 n6=n6 from wrap_i64 h6.1 h6.2];obtain⟨X,hX⟩:∃X,X=[]++le8 a++le8 b++Jm C:=⟨_,rfl⟩
 have hXl:X.length<=16+8+32*C.length:=by
  rw[hX];simp[g8,qz];omega
 rw[<- hX];obtain⟨Y,hY⟩:∃Y,Y=[n0,n1,n2,n3,n4,n5,n6]:=⟨_,rfl⟩
 have l0:=loop_seq (f:=eG) (st:=λk=>((k:Int),X++(Y.take k).flatMap le8,n0,n1,n2,n3,n4,n5,n6,R,n0,n1,n2,n3,n4,n5,n6,())) (n:=7) (N:=NN) (fin:=(((7:Nat):Int),false,X++(Y.take 7).flatMap le8,n0,n1,n2,n3,n4,n5,n6,R,n0,n1,n2,n3,n4,n5,n6,())) (eu (by omega)) (λk hk=>by
  have hlen:(X++(Y.take k).flatMap le8).length+8<=1099511627776:=by
   rw[List.length_append,lp,oLT];omega
  have hw:w64 ((k:Int)+1)=((k+1:Nat):Int):=by rw[bS (by omega) (by omega)];rfl
  unfold eG;dsimp only;rw[oDT (show(k:Int)<7 by omega),oCT,bN];simp only[oBS]
  obtain rfl|rfl|rfl|rfl|rfl|rfl|rfl:k=0\/k=1\/k=2\/k=3\/k=4\/k=5\/k=6:=by omega
  all_goals
   simp only[show Nat.beq 0 0=true from rfl,show Nat.beq 1 0=false from rfl,show Nat.beq 1 1=true from rfl,show Nat.beq 2 0=false from rfl,show Nat.beq 2 1=false from rfl,show Nat.beq 2 2=true from rfl,show Nat.beq 3 0=false from rfl,show Nat.beq 3 1=false from rfl,show Nat.beq 3 2=false from rfl,show Nat.beq 3 3=true from rfl,show Nat.beq 4 0=false from rfl,show Nat.beq 4 1=false from rfl,show Nat.beq 4 2=false from rfl,show Nat.beq 4 3=false from rfl,show Nat.beq 4 4=true from rfl,show Nat.beq 5 0=false from rfl,show Nat.beq 5 1=false from rfl,show Nat.beq 5 2=false from rfl,show Nat.beq 5 3=false from rfl,show Nat.beq 5 4=false from rfl,show Nat.beq 5 5=true from rfl,show Nat.beq 6 0=false from rfl,show Nat.beq 6 1=false from rfl,show Nat.beq 6 2=false from rfl,show Nat.beq 6 3=false from rfl,show Nat.beq 6 4=false from rfl,show Nat.beq 6 5=false from rfl,show Nat.beq 6 6=true from rfl,oCT,oCF];rw[lm _ hlen];simp only[oBS];rw[hw];subst hY
   simp) (by
  unfold eG;dsimp only
  rw[oDF (by omega),oCF])
 rw[show bM eG NN (0,X,n0,n1,n2,n3,n4,n5,n6,R,n0,n1,n2,n3,n4,n5,n6,())=bM eG NN (((0:Nat):Int),X++(Y.take 0).flatMap le8,n0,n1,n2,n3,n4,n5,n6,R,n0,n1,n2,n3,n4,n5,n6,())from by rw[List.take_zero,List.flatMap_nil,List.append_nil];rfl,l0,oBS];dsimp only;rw[IR _ (show ∀c∈R,R64 c.1/\R64 c.2.1 from h.regs) (by rw[List.length_append,lp,oLT];omega),oBS];subst hX hY;unfold pgB;simp
theorem MB{a:Ans}(ha:Byt a.2){c:Cls}(hc:zm (gk c)):kZ c.1 c.2.1 a.1 a.2=some (decide (nrm a=gk c),()):=by
 obtain⟨h,b⟩:=a;obtain⟨h',b',m⟩:=c;have hn:h'=false->b'=[]:=hc.nil;have Zw:Byt b':=hc.byt;have WQ:Byt b:=ha;unfold kZ nrm gk;dsimp only
 cases h' with
 |false=>
  rw[hn rfl];cases h<;>rfl
 |true=>
  cases h with
  |false=>
   rw[oNT,oCF,Bool.not_false,oCT];rfl
  |true=>
   rw[oNT,oCF,oCF];unfold my;show some (Jn (mS b') (mS b),())=_;by_cases g:b=b'
   ·rw[(oQ Zw WQ).2 g.symm,oDT (by rw[g];rfl)]
   ·rw[oDF (λe=>g (congrArg Prod.snd e)),Bool.eq_false_iff.2 λh=>g ((oQ Zw WQ).1 h).symm]
theorem PW{A:List Ans}{I:List Bool}{i:Nat}(hi:i<A.length){Q:List Cls}(hQ:∀c∈Q,zm (gk c))(hb:Byt A[i].2)(hs:Sm Q):bM cI NN (A,I,(i:Int),0,Q,())=some (A,I,(i:Int),(atK Q (nrm A[i]):Int),false,Q,()):=by
 rcases fD (f:=cI) (st:=λk=>(A,I,(i:Int),(k:Int),Q,())) (p:=λk=>∀h:k<Q.length,nrm A[i]≠gk Q[k]) (n:=Q.length) (N:=NN) (bad:=λk=>(A,I,(i:Int),(k:Int),false,Q,())) (fin:=(A,I,(i:Int),(Q.length:Int),false,Q,())) (eu hs) (λk hk=>by
  have h1:=hQ _ (List.getElem_mem hk)
  have e:cI (A,I,(i:Int),(k:Int),Q,())=if nrm A[i]=gk Q[k]then some (.inr (A,I,(i:Int),(k:Int),false,Q,()))else some (.inl (A,I,(i:Int),((k+1:Nat):Int),Q,())):=by
   unfold cI;delta bJ;dsimp only;rw[oDT (show(k:Int)<(Q.length:Int) by omega),oCT,bN];simp only[oBS];rw[bO hk];simp only[oBS];rw[bN];simp only[oBS];rw[bO hi];simp only[oBS];rw[MB hb h1];simp only[oBS];by_cases g:nrm A[i]=gk Q[k]
   ·rw[oDT g,oNT,oCF,oIP g]
   ·rw[oDF g,Bool.not_false,oCT,oIN g,bS (by omega) (by unfold Sm at hs;omega)];rfl
  by_cases g:nrm A[i]=gk Q[k]
  ·exact .inr ⟨λh=>h hk g,by rw[e,oIP g]⟩
  ·exact .inl ⟨λ_=>g,by rw[e,oIN g]⟩) (by
  unfold cI;delta bJ;dsimp only
  rw[oDF (by omega),oCF])with⟨hp,e⟩|⟨k,hk,hp,hn,e⟩
 ·have e1:atK Q (nrm A[i])=Q.length:=List.findIdx_eq_length_of_false λc hc=>by
   obtain⟨k,hk,rfl⟩:=List.mem_iff_getElem.1 hc;exact oDF (hp k hk hk)
  rw[show bM cI NN (A,I,(i:Int),0,Q,())=_ from e,e1]
 ·have ZZ:nrm A[i]=gk Q[k]:=Classical.byContradiction λh=>hn λ_=>h;have e1:atK Q (nrm A[i])=k:=(List.findIdx_eq hk).2 ⟨oDT ZZ,λj hj=>oDF (hp j hj (by omega))⟩;rw[show bM cI NN (A,I,(i:Int),0,Q,())=_ from e,e1]
theorem Ed{A:List Ans}{I:List Bool}(hA:vv A)(hn:A.length<=5)(hI:I.length=A.length):fr A I=some (gC (tX A I) A.length,0,()):=by
 obtain⟨W,hW⟩:∃W,W=tX A I:=⟨_,rfl⟩;unfold fr;delta bJ;dsimp only;rw[oDF (show ¬(A.length:Int)>5 by omega),oCF,hI,bne_self_eq_false,oCF]
 have l0:=loop_seq (f:=eH) (st:=λi=>(A,I,(i:Int),gC W i,())) (n:=A.length) (N:=NN) (fin:=(A,I,(A.length:Int),false,gC W A.length,())) (eu (by omega)) (λi hi=>by
  have c1:=tO W i;have c2:∀c∈gC W i,zm (gk c):=λc hc=>Eb (I:=I) hA (by rw[<- hW];exact hc);have c3:∀c∈gC W i,c.2.2.length<=i:=λc hc=>tN hc;have hb:=hA.byt _ (List.getElem_mem hi);have Vi:=hA.sm _ (List.getElem_mem hi)
  have Vq:W i=if I[i]'(by omega)=true then some (nrm A[i])else none:=by
   rw[hW];unfold tX;rw[cS (show i<I.length by omega),cS hi]
  unfold eH;delta bJ;dsimp only;rw[oDT (show(i:Int)<(A.length:Int) by omega),oCT,bN];simp only[oBS];rw[bO (show i<I.length by omega)];simp only[oBS];rw[qZ,Vq];by_cases hin:I[i]'(by omega)=true
  rotate_left
  ·rw[oIN hin,Bool.eq_false_iff.2 hin,Bool.not_false,oCT,bS (by omega) (by omega)];rfl
  rw[oIP hin,hin,oNT,oCF,PW hi c2 hb (by unfold Sm;omega)];simp only[oBS];obtain⟨Q,hQ⟩:∃Q,Q=gC W i:=⟨_,rfl⟩;rw[<- hQ]at c1 c2 c3⊢;obtain⟨n,UK⟩:∃n,n=atK Q (nrm A[i]):=⟨_,rfl⟩;have hat:n<=Q.length:=UK▸I4 Q (nrm A[i])
  have XT:Bn Q (nrm A[i]) i=(if n=Q.length then Q++[((nrm A[i]).1,((nrm A[i]).2,[]))]else Q).modify n λe=>(e.1,(e.2.1,e.2.2++[(i:Int)])):=by
   unfold Bn;rw[<- UK]
  rw[XT,<- UK]
  have fin:∀R:List Cls,n<R.length->(∀c∈R,c.2.2.length<=i)->((cj (n:Int)).bind λVX=>
   (bV R VX).bind λVm=>(bV R VX).bind λVY=>(bV R VX).bind λV6=>
   bif(b8 8 (List.length V6.2.2) (List.length [(i:Int)]))then let Sl:List (Int):=(List.append V6.2.2 [(i:Int)]);
   (cj (n:Int)).bind λUV=>(bV R UV).bind λQB=>(bV R UV).bind λx21=>
   bif(Nat.beq UV VX)then let x22:List (Bool×(List (Int))×List (Int)):=(List.modify R UV λe=>(e.1,(e.2.1,Sl)));
   let x23:Int:=(w64 ((i:Int)+1));
   (some (.inl (A,I,x23,x22,())):Option (((List (Bool×List (Int)))×(List (Bool))×Int×(List (Bool×(List (Int))×List (Int)))×Unit)⊕((List (Bool×List (Int)))×(List (Bool))×Int×Bool×(List (Bool×(List (Int))×List (Int)))×Unit)))else none else none)=some (.inl (A,I,((i+1:Nat):Int),R.modify n λe=>(e.1,(e.2.1,e.2.2++[(i:Int)])),())):=by
   intro R hR hm;rw[bN];simp only[oBS];rw[bO hR];simp only[oBS];have To:=hm _ (List.getElem_mem hR);rw[bQ (by omega) (by simp) (by omega) (by simp;omega),oCT,Nat.beq_refl,oCT,bS (by omega) (by omega),DJ hR];rfl
  by_cases g:n=Q.length
  ·have hm2:∀x:Cls,x.2.2=[]->∀c∈Q++[x],c.2.2.length<=i:=λx hx c hc=>by
    rcases List.mem_append.1 hc with h|h
    ·exact c3 c h
    ·rw[List.mem_singleton.1 h,hx];exact Nat.zero_le _
   rw[oIP g,beq_iff_eq.2 (show((n:Nat):Int)=(Q.length:Int) by omega),oCT,bN];simp only[oBS];rw[bO hi];simp only[oBS];unfold nrm
   cases hh:A[i].1 with
   |true=>
    rw[oCT,bQ (by simp) Vi (by omega) (by rw[Nat.zero_add];exact Vi),oCT];simp only[List.append_eq,List.nil_append];rw[bQ (by omega) (by simp) (by omega) (by simp;omega),oCT];simp only[oBS,List.append_eq];exact fin _ (by rw[List.length_append,List.length_singleton];omega) (hm2 _ rfl)
   |false=>
    rw[oCF];rw[bQ (by omega) (by simp) (by omega) (by simp;omega),oCT];simp only[oBS,List.append_eq];exact fin _ (by rw[List.length_append,List.length_singleton];omega) (hm2 _ rfl)
  ·rw[oIN g,oBF (show((n:Nat):Int)≠(Q.length:Int) by omega),oCF];simp only[oBS]
   exact fin _ (by omega) c3) (by
  unfold eH;delta bJ;dsimp only
  rw[oDF (by omega),oCF])
 rw[show bM eH NN (A,I,0,[],())=_ from l0,oBS,hW]
theorem A4{A:List Ans}{I:List Bool}(h:¬(A.length<=5/\I.length=A.length)):fr A I=some ([],if A.length<=5 then 1 else 3,()):=by
 unfold fr;delta bJ;dsimp only;by_cases h1:A.length<=5
 ·rw[oDF (show ¬(A.length:Int)>5 by omega),oCF,oIP h1,bne_iff_ne.2 (show(I.length:Int)≠(A.length:Int)from λe=>h ⟨h1,by omega⟩),oCT]
 ·rw[oDT (show(A.length:Int)>5 by omega),oCT,oIN h1]
theorem D3{α β:Type}{f:α->List β}{n:Nat}:∀{l:List α},(∀x∈l,(f x).length<=n)->(l.flatMap f).length<=n*l.length:=by
 intro l
 induction l with
 |nil=>intro _;simp
 |cons x l ih=>
  intro h;rw[List.flatMap_cons,List.length_append,oLC,Nat.mul_add];have h1:=h x List.mem_cons_self;have h2:=ih λy hy=>h y (List.mem_cons_of_mem _ hy);omega
def MW(Q:List Cls)(b r i:Nat):List Int:=if i=b then[]else(Q.getD i (false,([],[]))).2.2.filter λx=>x==(r:Int)
theorem MV{Q:List Cls}(hm:∀c∈Q,c.2.2.length<=5)(b r i:Nat):(MW Q b r i).length<=5:=by
 unfold MW;split
 ·exact Nat.zero_le _
 ·rcases Nat.lt_or_ge i Q.length with h|h
  ·rw[cS h];exact Nat.le_trans (List.length_filter_le _ _) (hm _ (List.getElem_mem h))
  ·rw[oGD,oGN h];exact Nat.zero_le _
theorem HI{Q:List Cls}(hm:∀c∈Q,c.2.2.length<=5)(b r i:Nat):(vw Q b r i).length<=5*i:=by
 have:=D3 (f:=MW Q b r) (n:=5) (l:=List.range i) λx _=>MV hm b r x;rw[List.length_range]at this;exact this
theorem P9{Q:List Cls}(hm:∀c∈Q,c.2.2.length<=5){b r i:Nat}(hi:i<Q.length){out:List Int}(ho:out.length<=1000000):∃k:Int,bM cP NN (Q,(b:Int),(r:Int),(i:Int),0,out,())=some (Q,(b:Int),(r:Int),(i:Int),k,false,out++MW Q b r i,()):=by
 have hmi:=hm _ (List.getElem_mem hi);unfold MW;rw[cS hi]
 have start:∀(k:Nat)(o:List Int),cP (Q,(b:Int),(r:Int),(i:Int),(k:Int),o,())=(bif(decide ((k:Int)<(Q[i].2.2.length:Int)))then(bif((i:Int) != (b:Int))then(((cj (k:Int)).bind λx5=>
  (bV Q[i].2.2 x5).bind λx6=>
  bif(x6==(r:Int))then(bif(b8 8 (List.length o) (List.length [(r:Int)]))then let x7:List (Int):=(List.append o [(r:Int)]);
  some (Q,(b:Int),(r:Int),(i:Int),(k:Int),x7,())else none)else
  some (Q,(b:Int),(r:Int),(i:Int),(k:Int),o,()):Option ((List (Bool×(List (Int))×List (Int)))×Int×Int×Int×Int×(List (Int))×Unit)).bind λ(x3,x4,x5,x6,x7,x8,_)=>
  let x9:Int:=(w64 (x7+1));
  some (.inl (x3,x4,x5,x6,x9,x8,())))else
  some (.inr (Q,(b:Int),(r:Int),(i:Int),(k:Int),false,o,())))else
  some (.inr (Q,(b:Int),(r:Int),(i:Int),(k:Int),false,o,())):Option ((List Cls×Int×Int×Int×Int×(List (Int))×Unit)⊕(List Cls×Int×Int×Int×Int×Bool×(List (Int))×Unit))):=λk o=>by
  unfold cP;delta bJ;dsimp only;rw[bN];simp only[oBS];rw[bO hi];simp only[oBS]
 by_cases e:i=b
 ·rw[oIP e,List.append_nil];refine⟨0,?_⟩
  have hs:cP (Q,(b:Int),(r:Int),(i:Int),0,out,())=some (.inr (Q,(b:Int),(r:Int),(i:Int),0,false,out,())):=by
   have:=start 0 out;rw[show(((0:Nat):Nat):Int)=0 from rfl]at this;rw[this,bne_eq_false_iff_eq.2 (show(i:Int)=(b:Int) by omega),oCF];cases decide ((0:Int)<(Q[i].2.2.length:Int))<;>rfl
  obtain⟨M,hM⟩:∃m,NN=m+1:=⟨NN-1,by unfold NN;omega⟩;rw[hM];simp only[bM,hs,oBS]
 ·rw[oIN e]
  have l0:=loop_seq (f:=cP) (st:=λk=>(Q,(b:Int),(r:Int),(i:Int),(k:Int),out++(Q[i].2.2.take k).filter (λx=>x==(r:Int)),())) (n:=Q[i].2.2.length) (N:=NN) (fin:=(Q,(b:Int),(r:Int),(i:Int),(Q[i].2.2.length:Int),false,out++(Q[i].2.2.take Q[i].2.2.length).filter (λx=>x==(r:Int)),())) (eu (by omega)) (λk hk=>by
   rw[start]
   have hlen:(out++(Q[i].2.2.take k).filter (λx=>x==(r:Int))).length<=out.length+5:=by
    rw[List.length_append];have:=List.length_filter_le (λx=>x==(r:Int)) (Q[i].2.2.take k);rw[oLT]at this;omega
   rw[oDT (show(k:Int)<(Q[i].2.2.length:Int) by omega),oCT,bne_iff_ne.2 (show(i:Int)≠(b:Int) by omega),oCT,bN];simp only[oBS];rw[bO hk];simp only[oBS]
   have hw:w64 ((k:Int)+1)=((k+1:Nat):Int):=by rw[bS (by omega) (by omega)];rfl
   rw[<- eA hk,List.filter_append,<- List.append_assoc];by_cases g:Q[i].2.2[k]=(r:Int)
   ·rw[beq_iff_eq.2 g,oCT,bQ (by omega) (by simp) (by omega) (by show _+1<=_;omega),oCT];simp only[oBS];rw[hw]
    have e2:[Q[i].2.2[k]].filter (λx=>x==(r:Int))=[(r:Int)]:=by simp[g]
    rw[e2];rfl
   ·rw[oBF g,oCF];simp only[oBS];rw[hw]
    have e2:[Q[i].2.2[k]].filter (λx=>x==(r:Int))=[]:=by simp[g]
    rw[e2,List.append_nil]) (by
   rw[start,oDF (by omega),oCF])
  rw[List.take_length]at l0;refine⟨(Q[i].2.2.length:Int),?_⟩;rw[show bM cP NN (Q,(b:Int),(r:Int),(i:Int),0,out,())=bM cP NN (Q,(b:Int),(r:Int),(i:Int),((0:Nat):Int),out++(Q[i].2.2.take 0).filter (λx=>x==(r:Int)),())from by rw[List.take_zero,List.filter_nil,List.append_nil];rfl,l0]
theorem HG(Q:List Cls)(b r i:Nat):vw Q b r (i+1)=vw Q b r i++MW Q b r i:=by
 unfold vw;rw[List.range_succ,List.flatMap_append];simp[MW]
theorem P8{Q:List Cls}(hq:Q.length<=5)(hm:∀c∈Q,c.2.2.length<=5)(b r:Nat){out:List Int}(ho:out.length<=100000):bM dq NN (Q,(b:Int),(r:Int),0,out,())=some (Q,(b:Int),(r:Int),(Q.length:Int),false,out++vw Q b r Q.length,()):=by
 have l0:=loop_seq (f:=dq) (st:=λi=>(Q,(b:Int),(r:Int),(i:Int),out++vw Q b r i,())) (n:=Q.length) (N:=NN) (fin:=(Q,(b:Int),(r:Int),(Q.length:Int),false,out++vw Q b r Q.length,())) (eu (by omega)) (λi hi=>by
  unfold dq;delta bJ;dsimp only;have hl:=HI hm b r i;obtain⟨k,hk⟩:=P9 hm (b:=b) (r:=r) hi (out:=out++vw Q b r i) (by rw[List.length_append];omega);rw[oDT (show(i:Int)<(Q.length:Int) by omega),oCT,hk];simp only[oBS];rw[bS (by omega) (by omega),HG,List.append_assoc]
  rfl) (by
  unfold dq;delta bJ;dsimp only
  rw[oDF (by omega),oCF])
 rw[show bM dq NN (Q,(b:Int),(r:Int),0,out,())=bM dq NN (Q,(b:Int),(r:Int),((0:Nat):Int),out++vw Q b r 0,())from by rw[show vw Q b r 0=[]from rfl,List.append_nil];rfl,l0]
theorem Kb{Q:List Cls}(hq:Q.length<=5)(hm:∀c∈Q,c.2.2.length<=5)(b:Nat):i8 Q (b:Int)=some ((List.range 5).flatMap (λr=>vw Q b r Q.length),()):=by
 unfold i8
 have l0:=loop_seq (f:=fm) (st:=λr=>(Q,(b:Int),(r:Int),(List.range r).flatMap (λr=>vw Q b r Q.length),())) (n:=5) (N:=NN) (fin:=(Q,(b:Int),((5:Nat):Int),false,(List.range 5).flatMap (λr=>vw Q b r Q.length),())) (eu (by omega)) (λr hr=>by
  unfold fm;dsimp only;have hl:=D3 (f:=λr=>vw Q b r Q.length) (n:=25) (l:=List.range r) λx _=>Nat.le_trans (HI hm b x Q.length) (by omega);rw[List.length_range]at hl;rw[oDT (show(r:Int)<5 by omega),oCT,P8 hq hm b r (by omega)];simp only[oBS];rw[bS (by omega) (by omega),List.range_succ,List.flatMap_append]
  simp) (by
  unfold fm;dsimp only
  rw[oDF (by omega),oCF])
 rw[show bM fm NN (Q,(b:Int),0,[],())=_ from l0,oBS]
theorem MY{n:Nat}(h1:1<=n)(h2:n<=5):i9 (n:Int)=some ((((n/2+1:Nat):Nat):Int),()):=by
 unfold i9;rw[oDF (show ¬(n:Int)<1 by omega),oCF,oDF (show ¬(n:Int)>5 by omega),oCF]
 have e:Int.tdiv (n:Int) 2=((n/2:Nat):Int):=by
  rw[Int.tdiv_eq_ediv_of_nonneg (by omega)];rfl
 rw[e,bS (x:=((n/2:Nat):Int)) (by omega) (by omega)];dsimp only;rw[bS (by omega) (by omega)];rfl
theorem Nx{A:List Ans}{I:List Bool}(hA:vv A)(hn:A.length<=5)(hI:I.length=A.length){least:Int}(h1:1<=least)(h5:least<=5):
 f9 A I least=some ((vd (tX A I) A.length least).1,(vd (tX A I) A.length least).2.1,(vd (tX A I) A.length least).2.2,0,()):=by
 obtain⟨W,hW⟩:∃W,W=tX A I:=⟨_,rfl⟩;have len:=tO W A.length;have Xv:∀c∈gC W A.length,c.2.2.length<=5:=λc hc=>Nat.le_trans (tN hc) hn;have Vx:=sg W A.length;unfold f9;rw[Ed hA hn hI,<- hW,oBS];dsimp only;rw[bne_self_eq_false,oCF,oDF (show ¬least<1 by omega),oCF,oDF (show ¬least>5 by omega),oCF];have YG:=HY W A.length;have Y0:=@MU W A.length hn;unfold vd;obtain⟨Q,hQ⟩:∃Q,Q=gC W A.length:=⟨_,rfl⟩;rw[<- hQ]at len Xv⊢
 have l0:=loop_seq (f:=fq) (st:=λi=>(I,least,Q,(jH W i:Int),(i:Int),(0:Int),(),(),Q,())) (n:=A.length) (N:=NN) (fin:=(I,least,Q,(jH W A.length:Int),(A.length:Int),false,(0:Int),(),(),Q,())) (eu (by omega)) (λi hi=>by
  have Vq:W i=if I[i]'(by omega)=true then some (nrm A[i])else none:=by
   rw[hW];unfold tX;rw[cS (show i<I.length by omega),cS hi]
  have hci:=sg W i;unfold fq;delta bJ;dsimp only;rw[oDT (show(i:Int)<(I.length:Int) by omega),oCT,bN];simp only[oBS];rw[bO (show i<I.length by omega)];simp only[oBS]
  have hw:w64 ((i:Int)+1)=((i+1:Nat):Int):=by rw[bS (by omega) (by omega)];rfl
  rw[om,Vq]
  cases hb:I[i]'(by omega)with
  |true=>
   rw[oCT];simp only[oBS];rw[hw,bS (x:=(jH W i:Int)+1) (by omega) (by omega)];rfl
  |false=>
   rw[oCF];simp only[oBS];rw[hw]
   rfl) (by
  unfold fq;delta bJ;dsimp only
  rw[oDF (by omega),oCF])
 rw[show bM fq NN (I,least,Q,0,0,0,(),(),Q,())=_ from l0,oBS];dsimp only;by_cases hc:(jH W A.length:Int)<least
 ·rw[oDT hc,oCT,oIP hc]
 rw[oDF hc,oCF,oIN hc]
 have hin:∀i (hi:i<Q.length),dt (Q,(jH W A.length:Int),(i:Int),0,(),(),Q,())=if Q[i].1=true/\jH W A.length<2*Q[i].2.2.length then some (.inr (.inl (0,if Q.length=1 then 1 else 2,Q[i].2.1,(List.range 5).flatMap (λr=>vw Q i r Q.length),())))else some (.inl (Q,(jH W A.length:Int),((i+1:Nat):Int),0,(),(),Q,())):=λi hi=>by
  have hw:w64 ((i:Int)+1)=((i+1:Nat):Int):=by rw[bS (by omega) (by omega)];rfl
  unfold dt;delta bJ;dsimp only;rw[oDT (show(i:Int)<(Q.length:Int) by omega),oCT,bN];simp only[oBS];rw[bO hi];simp only[oBS]
  cases hh:Q[i].1 with
  |false=>
   rw[Bool.not_false,oCT,oIN (λh=>by cases h.1)];dsimp only;rw[hw]
  |true=>
   rw[oNT,oCF,MY (by omega) (by omega)];simp only[oBS];by_cases g:jH W A.length<2*Q[i].2.2.length
   ·rw[oIP ⟨by first|rfl|trivial,g⟩,oDF (show ¬(Q[i].2.2.length:Int)<((jH W A.length/2+1:Nat):Int) by omega),oCF,Kb (Nat.le_trans len hn) Xv i];simp only[oBS];by_cases g1:Q.length=1
    ·rw[oIP g1,beq_iff_eq.2 (show(Q.length:Int)=1 by omega),oCT];rfl
    ·rw[oIN g1,oBF (show(Q.length:Int)≠1 by omega),oCF];rfl
   ·rw[oIN (λh=>g h.2),oDT (show(Q[i].2.2.length:Int)<((jH W A.length/2+1:Nat):Int) by omega),oCT];dsimp only;rw[hw]
 rcases fD (f:=dt) (st:=λi=>(Q,(jH W A.length:Int),(i:Int),(0:Int),(),(),Q,())) (p:=λi=>∀hi:i<Q.length,¬(Q[i].1=true/\jH W A.length<2*Q[i].2.2.length)) (n:=Q.length) (N:=NN)
  (bad:=λi=>.inl (0,if Q.length=1 then 1 else 2,(Q.getD i (false,([],[]))).2.1,(List.range 5).flatMap (λr=>vw Q i r Q.length),())) (fin:=.inr (Q,(jH W A.length:Int),(Q.length:Int),false,0,(),(),Q,())) (eu (by omega)) (λi hi=>by
  by_cases g:Q[i].1=true/\jH W A.length<2*Q[i].2.2.length
  ·exact .inr ⟨λh=>h hi g,by rw[hin i hi,oIP g,cS hi]⟩
  ·exact .inl ⟨λ_=>g,by rw[hin i hi,oIN g]⟩) (by
  unfold dt;delta bJ;dsimp only
  rw[oDF (by omega),oCF])with⟨hp,e⟩|⟨k,hk,hp,Uh,e⟩
 ·rw[show bM dt NN (Q,(jH W A.length:Int),0,0,(),(),Q,())=_ from e]
  rcases YG with⟨c0,M⟩|⟨_,Zp⟩
  ·exfalso;obtain⟨i,hi,e2⟩:=List.mem_iff_getElem.1 (show c0∈Q by rw[hQ];exact M.mem);exact hp i hi hi ⟨by rw[e2];exact M.here,by rw[e2];exact M.most⟩
  ·rw[<- hQ]at Zp;rw[oIN (show ¬jH W A.length<2*(vl Q).2.2.length by omega)]
 ·rw[show bM dt NN (Q,(jH W A.length:Int),0,0,(),(),Q,())=_ from e];have Zh:Q[k].1=true/\jH W A.length<2*Q[k].2.2.length:=Classical.byContradiction λh=>Uh λ_=>h
  rcases YG with⟨c0,M⟩|⟨h0,Zp⟩
  rotate_left
  ·exfalso;exact absurd Zh.2 (Nat.not_lt.2 (h0 Q[k] (by rw[<- hQ];exact List.getElem_mem hk) Zh.1))
  have ek:Q[k]=c0:=by
   rcases M.oth Q[k] (by rw[<- hQ];exact List.getElem_mem hk)with g|g
   ·exact g
   ·exact absurd Zh.2 (Nat.not_lt.2 g)
  have hb:=M.best;rw[<- hQ]at hb;rw[hb,oIP M.most]
  have eo:(List.range 5).flatMap (λr=>vw Q k r Q.length)=j9 W (gk c0) A.length:=by
   subst hQ;rw[Y0 hk,ek]
  rw[cS hk,ek,eo];have h1:=M.one';rw[<- hQ]at h1;dsimp only;by_cases g:j9 W (gk c0) A.length=[]
  ·rw[oIP g,oIP (h1.1 g)]
  ·rw[oIN g,oIN (λh=>g (h1.2 h))]
theorem CD{A:List Ans}{I:List Bool}(hA:vv A){least:Int}(h:¬(A.length<=5/\I.length=A.length/\1<=least/\least<=5)):
 f9 A I least=some (0,[],[],if A.length<=5 then 1 else 3,()):=by
 unfold f9;by_cases g:A.length<=5/\I.length=A.length
 ·rw[Ed hA g.1 g.2,oBS];dsimp only;rw[bne_self_eq_false,oCF,oIP g.1];by_cases g1:least<1
  ·rw[oDT g1,oCT]
  ·rw[oDF g1,oCF,oDT (show least>5 by omega),oCT]
 ·rw[A4 g,oBS];dsimp only;by_cases g1:A.length<=5
  ·rw[oIP g1];rfl
  ·rw[oIN g1];rfl
noncomputable def arS (a b:Int)(s:ST):Ans:=(decide (Hs s a b),pgB (f8 a b s))
theorem OW(a b:Int)(s:ST)(h:StQ s.1 s.2):PgQ (f8 a b s):=by
 have hz:R64 0:=by unfold R64;omega
 unfold f8;split
 ·exact Py h _
 ·exact⟨λc hc=>(by cases hc),hz,λc hc=>(by cases hc),Nat.zero_le _,Nat.zero_le _⟩
theorem Pk(a b:Int)(s:ST):nrm (arS a b s)=vn a b s:=by
 by_cases h:Hs s a b
 ·have e1:vn a b s=(true,pgB (pg s.1 s.2 (a,b))):=oIP h;have e2:f8 a b s=pg s.1 s.2 (a,b):=oIP h;rw[e1];unfold nrm arS;rw[e2,oDT h];rfl
 ·have e1:vn a b s=(false,[]):=oIN h;rw[e1];unfold nrm arS;rw[oDF h];rfl
theorem Pl{l:List ST}(hl:∀s∈l,StQ s.1 s.2)(a b:Int):vv (l.map (arS a b)):=
 ⟨λx hx=>by
  obtain⟨s,hs,rfl⟩:=List.mem_map.1 hx
  exact BR _,λx hx=>by
  obtain⟨s,hs,rfl⟩:=List.mem_map.1 hx
  exact Lt (OW a b s (hl s hs))⟩
theorem Oh(l:List ST)(I:List Bool)(a b:Int):∀i,i<l.length->tX (l.map (arS a b)) I i=jT l I a b i:=λi hi=>by
 unfold tX jT;by_cases h:I.getD i false=true
 ·rw[oIP h,oIP h]
  have e:(l.map (arS a b)).getD i (false,[])=arS a b (l.getD i ([],[])):=by
   rw[cS (by rw[List.length_map];exact hi),cS hi,List.getElem_map]
  rw[e,Pk]
 ·rw[oIN h,oIN h]
theorem Jc{l:List ST}(hl:∀s∈l,StQ s.1 s.2)(hn:l.length<=1000)(I:List Bool)(a b least:Int):
 iw l I a b least=some ((agK l I a b least).1.1,(agK l I a b least).1.2.1,(agK l I a b least).1.2.2.1,(agK l I a b least).1.2.2.2.1,(agK l I a b least).1.2.2.2.2.1,(agK l I a b least).1.2.2.2.2.2.1,(agK l I a b least).1.2.2.2.2.2.2.1,(agK l I a b least).1.2.2.2.2.2.2.2.1,(agK l I a b least).1.2.2.2.2.2.2.2.2.1,(agK l I a b least).1.2.2.2.2.2.2.2.2.2.1,(agK l I a b least).1.2.2.2.2.2.2.2.2.2.2,(agK l I a b least).2.1,(agK l I a b least).2.2,()):=by
 unfold iw
 have l0:=loop_seq (f:=fV) (st:=λi=>(l,I,least,(i:Int),a,b,(0:Int),(0:Int),(),(0:Int),(0:Int),(0:Int),(0:Int),(0:Int),(0:Int),(0:Int),(),(l.take i).map (arS a b),(l.take i).map (f8 a b),())) (n:=l.length) (N:=NN)
  (fin:=(l,I,least,(l.length:Int),false,a,b,(0:Int),(0:Int),(),(0:Int),(0:Int),(0:Int),(0:Int),(0:Int),(0:Int),(0:Int),(),(l.take l.length).map (arS a b),(l.take l.length).map (f8 a b),())) (eu (by omega)) (λi hi=>by
  have hs:=hl _ (List.getElem_mem hi);have hq:=OW a b l[i] hs;unfold fV;delta bJ;dsimp only;rw[oDT (show(i:Int)<(l.length:Int) by omega),oCT,bN];simp only[oBS];rw[bO hi];simp only[oBS]
  have eg:dM l[i].1 l[i].2 a b=some ((f8 a b l[i]).1,(f8 a b l[i]).2.1,(f8 a b l[i]).2.2.1,(f8 a b l[i]).2.2.2.1,(f8 a b l[i]).2.2.2.2.1,(f8 a b l[i]).2.2.2.2.2.1,(f8 a b l[i]).2.2.2.2.2.2.1,(f8 a b l[i]).2.2.2.2.2.2.2.1,(f8 a b l[i]).2.2.2.2.2.2.2.2.1,(f8 a b l[i]).2.2.2.2.2.2.2.2.2.1,(f8 a b l[i]).2.2.2.2.2.2.2.2.2.2,if Hs l[i] a b then 0 else if shp l[i].1 l[i].2 then 30 else 1,()):=by
   rw[Iw hs.k];unfold f8;by_cases g:shp l[i].1 l[i].2/\Th l[i].1 l[i].2 a b
   ·rw[oIP g,oIP (show Hs l[i] a b from g),oIP (show Hs l[i] a b from g)]
   ·rw[oIN g,oIN (show ¬Hs l[i] a b from g),oIN (show ¬Hs l[i] a b from g)]
  have ee:(((if Hs l[i] a b then(0:Int)else if shp l[i].1 l[i].2 then 30 else 1))==0)=decide (Hs l[i] a b):=by
   by_cases g:Hs l[i] a b
   ·rw[oIP g,oDT g];rfl
   ·rw[oIN g,oDF g];split<;>rfl
  rw[eg];simp only[oBS];rw[bQ (by rw[List.length_map,oLT];omega) (by simp) (by omega) (by rw[List.length_map,oLT];show _+1<=_;omega),oCT,Nz hq];simp only[oBS];rw[bQ (by rw[List.length_map,oLT];omega) (by simp) (by omega) (by rw[List.length_map,oLT];show _+1<=_;omega),oCT,bS (by omega) (by omega),ee,<- eA hi,List.map_append,List.map_append]
  rfl) (by
  unfold fV;delta bJ;dsimp only
  rw[oDF (by omega),oCF])
 rw[List.take_length]at l0;rw[show bM fV NN (l,I,least,0,a,b,0,0,(),0,0,0,0,0,0,0,(),[],[],())=_ from l0,oBS];dsimp only;have hA:=Pl hl a b;have V3:(l.map (arS a b)).length=l.length:=List.length_map _;unfold agK;by_cases hgood:l.length<=5/\I.length=l.length/\1<=least/\least<=5
 rotate_left
 ·rw[CD hA (by rw[V3];exact hgood),oBS,oIN hgood,V3];dsimp only;by_cases g:l.length<=5
  ·rw[oIP g];rfl
  ·rw[oIN g];rfl
 rw[oIP hgood,Nx hA (by omega) (by omega) hgood.2.2.1 hgood.2.2.2,oBS,V3,F7 (Oh l I a b) least];dsimp only;rw[bne_self_eq_false,oCF];have Yf:=F6 (jT l I a b) l.length least;have YG:=F5 (W:=jT l I a b) (N:=l.length) (least:=least);generalize vd (jT l I a b) l.length least=V at Yf YG⊢;obtain⟨K,bs,S⟩:=V;dsimp only at Yf YG⊢;by_cases hk:K=1\/K=2
 rotate_left
 ·rw[oIN hk];rcases Yf with h|h|h|h
  ·exact absurd (.inl h) hk
  ·exact absurd (.inr h) hk
  ·subst h;rfl
  ·subst h;rfl
 rw[oIP hk];obtain⟨eS,k0,VD,WG⟩:=YG hk;rw[oBF (show K≠3 by omega),oCF,oBF (show K≠4 by omega),oCF]
 have Q5:Byt bs:=by
  unfold jT at WG;split at WG
  ·injection WG with WG
   have h1:=(I7 (l:=l) a b _ (hl _ (List.getElem_mem VD))).1;rw[<- cS (d:=([],[])) VD,WG]at h1;exact h1
  ·cases WG
 have hin:∀i,i<l.length->eE (l,I,l.map (arS a b),(i:Int),0,0,(),0,0,0,0,0,0,0,(),l.map (arS a b),l.map (f8 a b),K,bs,S,())=if jT l I a b i≠some (true,bs)then some (.inl (l,I,l.map (arS a b),((i+1:Nat):Int),0,0,(),0,0,0,0,0,0,0,(),l.map (arS a b),l.map (f8 a b),K,bs,S,()))else
  some (.inr (.inl (S,0,(f8 a b (l.getD i ([],[]))).1,(f8 a b (l.getD i ([],[]))).2.1,(f8 a b (l.getD i ([],[]))).2.2.1,(f8 a b (l.getD i ([],[]))).2.2.2.1,(f8 a b (l.getD i ([],[]))).2.2.2.2.1,(f8 a b (l.getD i ([],[]))).2.2.2.2.2.1,(f8 a b (l.getD i ([],[]))).2.2.2.2.2.2.1,(f8 a b (l.getD i ([],[]))).2.2.2.2.2.2.2.1,(f8 a b (l.getD i ([],[]))).2.2.2.2.2.2.2.2.1,(f8 a b (l.getD i ([],[]))).2.2.2.2.2.2.2.2.2.1,(f8 a b (l.getD i ([],[]))).2.2.2.2.2.2.2.2.2.2,()))):=λi hi=>by
  have Z3:i<I.length:=by omega
  have ei:I.getD i false=I[i]:=cS Z3
  have hw:w64 ((i:Int)+1)=((i+1:Nat):Int):=by rw[bS (by omega) (by omega)];rfl
  have el:l.getD i ([],[])=l[i]:=cS hi;unfold eE;delta bJ;dsimp only;rw[oDT (show(i:Int)<(l.length:Int) by omega),oCT,bN];simp only[oBS];rw[bO Z3];simp only[oBS]
  cases hb:I[i]with
  |false=>
   rw[hb]at ei
   have Zp:jT l I a b i≠some (true,bs):=by
    unfold jT;rw[oIN (by rw[ei];exact λh=>by cases h)]
    exact λh=>by cases h
   rw[oCF,oIP Zp];simp only[oBS,oCF];rw[hw]
  |true=>
   rw[hb]at ei
   have WB:jT l I a b i=some (vn a b l[i]):=by
    unfold jT;rw[oIP ei,el]
   rw[oCT,bO (show i<(l.map (arS a b)).length by rw[V3];exact hi)];simp only[oBS,List.getElem_map];by_cases hA1:Hs l[i] a b
   rotate_left
   ·have Zp:jT l I a b i≠some (true,bs):=by
     rw[WB];unfold vn;rw[oIN hA1]
     exact λh=>by cases h
    rw[show(arS a b l[i]).1=false from oDF hA1,oCF,oIP Zp];simp only[oBS,oCF];rw[hw]
   ·have Os:jT l I a b i=some (true,(arS a b l[i]).2):=by
     rw[WB];unfold vn arS f8;rw[oIP hA1,oIP hA1]
    rw[show(arS a b l[i]).1=true from oDT hA1,oCT];have Yl:Byt (arS a b l[i]).2:=BR _;by_cases g:(arS a b l[i]).2=bs
    ·rw[oIN (show ¬jT l I a b i≠some (true,bs)from λh=>h (by rw[Os,g]))];simp only[(oQ Yl Q5).2 g,oBS,oCT];rw[bN,oBS,bO (show i<(l.map (f8 a b)).length by rw[List.length_map];exact hi),List.getElem_map,el];rfl
    ·rw[oIP (show jT l I a b i≠some (true,bs)from λh=>g (by
      rw[Os]at h
      exact congrArg Prod.snd (Option.some.inj h)))]
     simp only[Bool.eq_false_iff.2 λh=>g ((oQ Yl Q5).1 h),oBS,oCF];rw[hw]
 rcases fD (f:=eE) (st:=λi=>(l,I,l.map (arS a b),(i:Int),(0:Int),(0:Int),(),(0:Int),(0:Int),(0:Int),(0:Int),(0:Int),(0:Int),(0:Int),(),l.map (arS a b),l.map (f8 a b),K,bs,S,())) (p:=λi=>jT l I a b i≠some (true,bs)) (n:=l.length) (N:=NN)
  (bad:=λi=>.inl (S,0,(f8 a b (l.getD i ([],[]))).1,(f8 a b (l.getD i ([],[]))).2.1,(f8 a b (l.getD i ([],[]))).2.2.1,(f8 a b (l.getD i ([],[]))).2.2.2.1,(f8 a b (l.getD i ([],[]))).2.2.2.2.1,(f8 a b (l.getD i ([],[]))).2.2.2.2.2.1,(f8 a b (l.getD i ([],[]))).2.2.2.2.2.2.1,(f8 a b (l.getD i ([],[]))).2.2.2.2.2.2.2.1,(f8 a b (l.getD i ([],[]))).2.2.2.2.2.2.2.2.1,(f8 a b (l.getD i ([],[]))).2.2.2.2.2.2.2.2.2.1,(f8 a b (l.getD i ([],[]))).2.2.2.2.2.2.2.2.2.2,())) (fin:=.inr (l,I,l.map (arS a b),(l.length:Int),false,0,0,(),0,0,0,0,0,0,0,(),l.map (arS a b),l.map (f8 a b),K,bs,S,())) (eu (by omega)) (λi hi=>by
  by_cases g:jT l I a b i≠some (true,bs)
  ·exact .inl ⟨g,by rw[hin i hi,oIP g]⟩
  ·exact .inr ⟨g,by rw[hin i hi,oIN g]⟩) (by
  unfold eE;delta bJ;dsimp only
  rw[oDF (by omega),oCF])with⟨hp,e⟩|⟨k,hk,hp,Uh,e⟩
 ·exact absurd WG (hp k0 VD)
 ·have Zh:jT l I a b k=some (true,bs):=Classical.byContradiction Uh;rw[qV hk (oDT Zh) λj hj=>oDF (hp j hj)];rw[show bM eE NN (l,I,l.map (arS a b),0,0,0,(),0,0,0,0,0,0,0,(),l.map (arS a b),l.map (f8 a b),K,bs,S,())=_ from e]
theorem IK{S:List Int}(h:Sm S):cA S=some (!decide (∀z∈S,okZ z=true),()):=by
 unfold cA eB;delta bJ;dsimp only;have h0:=h
 have step:∀i,i<S.length->((∀hi:i<S.length,okZ S[i]=true)/\bR (S,(S.length:Int),(i:Int),())=some (.inl (S,(S.length:Int),((i+1:Nat):Int),())))\/
  (¬(∀hi:i<S.length,okZ S[i]=true)/\bR (S,(S.length:Int),(i:Int),())=some (.inr (.inl ((i:Int),())))):=by
  intro i hi;unfold bR;dsimp only;rw[oDT (show(i:Int)<S.length by omega),oCT,bN]
  have e:gb S[i]=some (!okZ S[i],()):=by
   unfold gb;rw[By];rfl
  simp only[oBS,bO hi,e];rw[bS (by omega) (by omega)];by_cases q:okZ S[i]=true
  ·exact .inl ⟨λ_=>q,by rw[q];rfl⟩
  ·exact .inr ⟨λg=>q (g hi),by rw[Bool.not_eq_true]at q;rw[q];rfl⟩
 have fin:bR (S,(S.length:Int),(S.length:Int),())=some (.inr (.inr (S,(S.length:Int),(S.length:Int),false,()))):=by
  unfold bR;dsimp only;rw[oDF (show ¬(S.length:Int)<S.length by omega)];rfl
 rcases fD (f:=bR) (λi=>(S,(S.length:Int),(i:Int),())) _ (eu h) step fin with⟨h1,h2⟩|⟨k,hk,_,h1,h2⟩
 ·rw[show bM bR NN (S,(S.length:Int),0,())=_ from h2];rw[oDT (tR (p:=okZ) λi hi=>h1 i hi hi)];rfl
 ·rw[show bM bR NN (S,(S.length:Int),0,())=_ from h2];rw[oDF (λg=>h1 λhi=>g _ (List.getElem_mem hi))];simp only[oBS];rw[oDT (show(k:Int)>=0 by omega)];rfl
theorem Ee{S:List Int}{n:Nat}(h:Sm S):dU S n=some (if S.length<=4/\n<=4 then(if ∀z∈S,okZ z=true then 0 else 1)else 3,()):=by
 unfold dU;delta bJ;dsimp only;by_cases h1:S.length<=4
 rotate_left
 ·rw[oDT (show(S.length:Int)>4 by omega),oCT,oIN (λg=>h1 g.1)]
 rw[oDF (show ¬(S.length:Int)>4 by omega),oCF];by_cases h2:n<=4
 rotate_left
 ·rw[oDT (show(n:Int)>4 by omega),oCT,oIN (λg=>h2 g.2)]
 rw[oDF (show ¬(n:Int)>4 by omega),oCF,oIP ⟨h1,h2⟩];have h0:=h
 have step:∀i,i<S.length->((∀hi:i<S.length,okZ S[i]=true)/\b5 (S,(n:Int),(i:Int),())=some (.inl (S,(n:Int),((i+1:Nat):Int),())))\/
  (¬(∀hi:i<S.length,okZ S[i]=true)/\b5 (S,(n:Int),(i:Int),())=some (.inr (.inl (1,())))):=by
  intro i hi;unfold b5;delta bJ;dsimp only;rw[oDT (show(i:Int)<S.length by omega),oCT,bN];simp only[oBS,bO hi];rw[bS (by omega) (by omega)];by_cases q1:S[i]<1
  ·rw[oDT q1];exact .inr ⟨λg=>by have:=of_decide_eq_true (g hi);omega,rfl⟩
  ·rw[oDF q1,oCF];by_cases q2:S[i]>32
   ·rw[oDT q2];exact .inr ⟨λg=>by have:=of_decide_eq_true (g hi);omega,rfl⟩
   ·rw[oDF q2,oCF];exact .inl ⟨λ_=>oDT (by omega),rfl⟩
 have fin:b5 (S,(n:Int),(S.length:Int),())=some (.inr (.inr (S,(n:Int),(S.length:Int),false,()))):=by
  unfold b5;delta bJ;dsimp only;rw[oDF (show ¬(S.length:Int)<S.length by omega)];rfl
 rcases fD (f:=b5) (λi=>(S,(n:Int),(i:Int),())) _ (eu h) step fin with⟨g1,g2⟩|⟨k,hk,_,g1,g2⟩
 ·rw[show bM b5 NN (S,(n:Int),0,())=_ from g2];dsimp only;rw[oDF (show ¬(n:Int)<0 by omega),oIP (tR λi hi=>g1 i hi hi)];rfl
 ·rw[show bM b5 NN (S,(n:Int),0,())=_ from g2,oIN (λg=>g1 λhi=>g _ (List.getElem_mem hi))]
theorem Km{S:List Int}{n:Nat}(h:Sm S)(hb:¬(Szs S/\n<=4)):∃e:Int,e≠0/\dD S n=some ([],e,())/\eI S n=some ([],e,()):=by
 refine⟨if S.length<=4/\n<=4 then 1 else 3,by split<;>decide,?_,?_⟩
 ·unfold dD;delta bJ;dsimp only;by_cases h1:S.length<=4
  rotate_left
  ·rw[oDT (show(S.length:Int)>4 by omega),oCT,oIN (λg=>h1 g.1)]
  rw[oDF (show ¬(S.length:Int)>4 by omega),oCF];by_cases h2:n<=4
  rotate_left
  ·rw[oDT (show(n:Int)>4 by omega),oCT,oIN (λg=>h2 g.2)]
  rw[oDF (show ¬(n:Int)>4 by omega),oCF,oDF (show ¬(n:Int)<0 by omega),oCF,IK h,oDF (λg=>hb ⟨⟨h1,g⟩,h2⟩),oBS,oIP ⟨h1,h2⟩];rfl
 ·unfold eI;rw[Ee h,oBS];dsimp only;by_cases g:S.length<=4/\n<=4
  ·rw[oIP g,oIP g,oIN (λg2=>hb ⟨⟨g.1,g2⟩,g.2⟩)];rfl
  ·rw[oIN g,oIN g];rfl
abbrev zC(S:List Int):CC:=S.map λz=>List.replicate z.toNat ((0,(0,(0,0))):DCn)
abbrev zT(n:Nat):TT':=List.replicate n (0,(0,(0,(0,(0,(0,(0,[])))))))
theorem mu{S:List Int}{i:Nat}(h:i<S.length):((S.take i).map λz=>List.replicate z.toNat ((0,(0,(0,0))):DCn))++[List.replicate S[i].toNat (0,(0,(0,0)))]=(S.take (i+1)).map λz=>List.replicate z.toNat ((0,(0,(0,0))):DCn):=by
 rw[<- eA h,List.map_append];rfl
theorem FY{S:List Int}{n:Nat}(h:Szs S)(hn:n<=4):StK (zC S) (zT n):=by
 have h4:=h.1;refine⟨?_,λc hc=>?_,?_,λt ht=>?_⟩
 ·show(S.map _).length<=_;rw[List.length_map];omega
 ·obtain⟨z,hz,rfl⟩:=List.mem_map.1 hc;have:=of_decide_eq_true (h.2 z hz);show(List.replicate _ _).length<=_;rw[List.length_replicate];omega
 ·show(List.replicate _ _).length<=_;rw[List.length_replicate];omega
 ·rw[(List.mem_replicate.1 ht).2];simp[Sm]
theorem MM{I:List PID}{A:List PG}(hA:A.length=I.length)(hl:Sm A)(hid:∀i (h:i<I.length),((A[i]'(by omega)).1,(A[i]'(by omega)).2.1)=I[i])(hp:∀p∈A,PgK p):∀(k i:Nat),i+k=A.length->∀(C:CC)(T:TT'),StK C T->∀M,k<M ->
 (bM dm M (A,(A.length:Int),(i:Int),(),(),I,C,T,())=some (.inl (5,(),(),()))/\bM dl M (A,(i:Int),(),(),I,C,T,())=some (.inl (5,(),(),())))\/
 ∃(C':CC)(T':TT'),StK C' T'/\bM dm M (A,(A.length:Int),(i:Int),(),(),I,C,T,())=some (.inr (A,(A.length:Int),(A.length:Int),false,(),(),I,C',T',()))/\
  bM dl M (A,(i:Int),(),(),I,C,T,())=some (.inr (A,(A.length:Int),false,(),(),I,C',T',())):=by
 have Xa:A.length<=1099511627776:=hl;intro k
 induction k with
 |zero=>
  intro i hi C T h M hM;obtain⟨M,rfl⟩:∃m,M=m+1:=⟨M-1,by omega⟩
  obtain rfl:i=A.length:=by omega
  have e1:dm (A,(A.length:Int),(A.length:Int),(),(),I,C,T,())=some (.inr (.inr (A,(A.length:Int),(A.length:Int),false,(),(),I,C,T,()))):=by
   unfold dm;dsimp only;rw[oDF (by omega),oCF]
  have e2:dl (A,(A.length:Int),(),(),I,C,T,())=some (.inr (.inr (A,(A.length:Int),false,(),(),I,C,T,()))):=by
   unfold dl;delta bJ;dsimp only;rw[oDF (by omega),oCF]
  exact .inr ⟨C,T,h,by simp only[bM,e1,oBS],by simp only[bM,e2,oBS]⟩
 |succ k ih=>
  intro i hi C T h M hM;obtain⟨M,rfl⟩:∃m,M=m+1:=⟨M-1,by omega⟩
  have Yu:i<A.length:=by omega
  have hii:i<I.length:=by omega
  have Tz:=hp _ (List.getElem_mem Yu);have hd:=hid i hii;have YE:A[i].1=I[i].1:=congrArg Prod.fst hd;have hd2:A[i].2.1=I[i].2:=congrArg Prod.snd hd;have e1:=Lp h (x:=A[i].2.2.1) Tz.1 (v:=A[i].2.2.2) Tz.2 A[i].1 A[i].2.1;have e2:=Lo h (x:=A[i].2.2.1) Tz.1 (v:=A[i].2.2.2) Tz.2 A[i].1 A[i].2.1;have e3:=GV h (x:=A[i].2.2.1) (v:=A[i].2.2.2) Tz.2 (a:=A[i].1) (b:=A[i].2.1);generalize Dx C T A[i].1 A[i].2.1 A[i].2.2.1 A[i].2.2.2=r at e1 e2 e3
  have hbe:(!((A[i].1==I[i].1)&&((A[i].2.1==I[i].2)&&true)))=false:=by rw[YE,hd2,beq_self_eq_true,beq_self_eq_true];rfl
  have hw:w64 ((i:Int)+1)=((i+1:Nat):Int):=by rw[bS (by omega) (by omega)];rfl
  have s1:dm (A,(A.length:Int),(i:Int),(),(),I,C,T,())=bif(r.2.2 != 0)then(some (.inr (.inl (5,(),(),()))))else some (.inl (A,(A.length:Int),((i+1:Nat):Int),(),(),I,r.1,r.2.1,())):=by
   unfold dm;dsimp only;rw[oDT (show(i:Int)<(A.length:Int) by omega),oCT,bN];simp only[oBS];rw[bO Yu];simp only[oBS];rw[bO hii];simp only[oBS];rw[hbe,oCF,e1,oBS];dsimp only;rw[hw]
  have s2:dl (A,(i:Int),(),(),I,C,T,())=bif(r.2.2 != 0)then(some (.inr (.inl (5,(),(),()))))else some (.inl (A,((i+1:Nat):Int),(),(),I,r.1,r.2.1,())):=by
   unfold dl;delta bJ;dsimp only;rw[oDT (show(i:Int)<(A.length:Int) by omega),oCT,bN];simp only[oBS];rw[bO Yu];simp only[oBS];rw[e2,oBS];dsimp only;rw[bO hii];simp only[oBS];rw[hbe,oCF,hw]
  by_cases he:r.2.2=0
  ·rw[bne_eq_false_iff_eq.2 he,oCF]at s1 s2
   rcases ih (i+1) (by omega) r.1 r.2.1 (e3 he) M (by omega)with⟨g1,g2⟩|⟨C',T',g0,g1,g2⟩
   ·exact .inl ⟨by simp only[bM,s1,oBS];exact g1,by simp only[bM,s2,oBS];exact g2⟩
   ·exact .inr ⟨C',T',g0,by simp only[bM,s1,oBS];exact g1,by simp only[bM,s2,oBS];exact g2⟩
  ·rw[bne_iff_ne.2 he,oCT]at s1 s2;exact .inl ⟨by simp only[bM,s1,oBS],by simp only[bM,s2,oBS]⟩
theorem Lm{S:List Int}(h:Szs S){i:Nat}(hi:i<S.length):cj S[i]=some S[i].toNat/\gl S[i].toNat S[i].toNat 4=true:=by
 have hz:=zA h hi;refine⟨?_,by unfold gl;simp;omega⟩;obtain⟨m,hm⟩:∃m:Nat,S[i]=m:=⟨S[i].toNat,by omega⟩;rw[hm,bN,oTN]
theorem Hw(S:List Int)(n:Nat):((pgs S n).filter λp=>decide (p.1=-1)).length=n:=by
 unfold pgs;rw[List.filter_append,List.length_append]
 have e1:((List.range S.length).flatMap (pZ S)).filter (λp=>decide (p.1=-1))=[]:=List.filter_eq_nil_iff.2 λp hp=>by
  obtain⟨i,_,h⟩:=List.mem_flatMap.1 hp;obtain⟨j,_,rfl⟩:=HW.1 h;simp
 have e2:((List.range n).map λ(t:Nat)=>((-1,(t:Int)):PID)).filter (λp=>decide (p.1=-1))=(List.range n).map λ(t:Nat)=>((-1,(t:Int)):PID):=List.filter_eq_self.2 λp hp=>by
  obtain⟨t,_,rfl⟩:=List.mem_map.1 hp;rfl
 rw[e1,e2];simp
theorem FI{S:List Int}{n:Nat}(h:Szs S)(hn:n<=4){A:List PG}(hA:A.length=(pgs S n).length)(hid:∀i (h:i<(pgs S n).length),((A[i]'(by omega)).1,(A[i]'(by omega)).2.1)=(pgs S n)[i])(hp:∀p∈A,PgK p):
 ∃(C:CC)(T:TT')(e:Int),iC S A=some (C,T,e,())/\iz S A=some (C,T,e,())/\StK C T:=by
 have h4:=h.1;have hlen:=nR h hn
 have RM:(pgs S n).length=(pgs S 0).length+n:=by
  unfold pgs;simp
 have hS:Sm S:=by unfold Sm;omega
 obtain⟨I,hI⟩:∃I,I=pgs S n:=⟨_,rfl⟩
 have q1:∀r,bM dm NN (A,(A.length:Int),0,(),(),I,zC S,zT n,())=some r->iC S A=some ((match r with|.inl (x,_,_,_)=>([],[],x,())|.inr (_,_,_,_,_,_,_,c,t,_)=>(c,t,0,())):CC×TT'×Int×Unit):=λr hr=>by
  unfold iC;rw[show dD S 0=some (pgs S 0,0,())from z7 (n:=0) h (by omega),oBS];delta bJ;dsimp only;rw[bne_self_eq_false,oCF,bS (x:=(A.length:Int)-_) (by omega) (by omega),show(A.length:Int)-((pgs S 0).length:Int)=(n:Int) by omega,oDF (show ¬(n:Int)<0 by omega),oCF,oDF (show ¬(n:Int)>4 by omega),oCF,bN];simp only[oBS];rw[show gl n n 8=true by unfold gl;simp;omega,oCT]
  have l0:=loop_seq (f:=f7) (st:=λi=>(S,A,(n:Int),S,(S.length:Int),(i:Int),(),(),(S.take i).map (λz=>List.replicate z.toNat ((0,(0,(0,0))):DCn)),zT n,())) (n:=S.length) (N:=NN) (fin:=(S,A,(n:Int),S,(S.length:Int),(S.length:Int),false,(),(),(S.take S.length).map (λz=>List.replicate z.toNat ((0,(0,(0,0))):DCn)),zT n,())) (eu (by omega)) (λi hi=>by
   obtain⟨z1,z2⟩:=Lm h hi;unfold f7;dsimp only;rw[oDT (show(i:Int)<(S.length:Int) by omega),oCT,bN];simp only[oBS];rw[bO hi];simp only[oBS];rw[z1];simp only[oBS];rw[z2,oCT];rw[bQ (by rw[List.length_map,oLT];omega) (by simp) (by omega) (by rw[List.length_map,oLT];simp;omega),oCT,bS (by omega) (by omega)];rw[<- mu hi]
   rfl) (by
   unfold f7;dsimp only
   rw[oDF (by omega),oCF])
  rw[List.take_length]at l0;rw[show bM f7 NN (S,A,(n:Int),S,(S.length:Int),0,(),(),[],zT n,())=_ from l0,oBS];dsimp only;rw[z7 h hn,oBS];dsimp only;rw[<- hI,hr]
  rcases r with⟨x,_,_,_⟩|⟨_,_,_,_,_,_,_,c,t,_⟩<;>rfl
 have q2:∀r,bM dl NN (A,0,(),(),I,zC S,zT n,())=some r->iz S A=some ((match r with|.inl (x,_,_,_)=>([],[],x,())|.inr (_,_,_,_,_,_,c,t,_)=>(c,t,0,())):CC×TT'×Int×Unit):=λr hr=>by
  unfold iz;rw[show dU S 0=some (0,())from(Ee (n:=0) hS).trans (by rw[oIP ⟨h.1,by omega⟩,oIP h.2]),oBS];dsimp only;rw[bne_self_eq_false,oCF]
  have l0:=loop_seq (f:=fZ) (st:=λi=>(S,A,((((I.take i).filter λp=>decide (p.1=-1)).length:Nat):Int),(i:Int),(),(),())) (n:=A.length) (N:=NN) (fin:=(S,A,((((I.take A.length).filter λp=>decide (p.1=-1)).length:Nat):Int),(A.length:Int),false,(),(),())) (eu (by omega)) (λi hi=>by
   have hii:i<I.length:=by rw[hI];omega
   have hd:(A[i].1,A[i].2.1)=I[i]:=by subst hI;exact hid i hii
   have YE:A[i].1=I[i].1:=congrArg Prod.fst hd;have ZE:=List.length_filter_le (λp:PID=>decide (p.1=-1)) (I.take i);rw[oLT]at ZE
   have hw:w64 ((i:Int)+1)=((i+1:Nat):Int):=by rw[bS (by omega) (by omega)];rfl
   unfold fZ;delta bJ;dsimp only;rw[oDT (show(i:Int)<(A.length:Int) by omega),oCT,bN];simp only[oBS];rw[bO hi];simp only[oBS];rw[YE,<- eA hii,List.filter_append,List.length_append];by_cases g:I[i].1=-1
   ·rw[beq_iff_eq.2 g,oCT];simp only[oBS]
    have e1:[I[i]].filter (λp:PID=>decide (p.1=-1))=[I[i]]:=by simp[g]
    rw[hw,bS (by omega) (by omega),e1];rfl
   ·rw[oBF g,oCF];simp only[oBS]
    have e1:[I[i]].filter (λp:PID=>decide (p.1=-1))=[]:=by simp[g]
    rw[hw,e1]
    rfl) (by
   unfold fZ;delta bJ;dsimp only
   rw[oDF (by omega),oCF])
  rw[show I.take A.length=I by rw[hA,<- hI,List.take_length],show(I.filter λp=>decide (p.1=-1)).length=n by rw[hI];exact Hw S n]at l0;rw[show bM fZ NN (S,A,0,0,(),(),())=_ from l0,oBS];dsimp only;rw[DM h hn,oBS];delta bJ;dsimp only;rw[bne_self_eq_false,oCF,<- hI,show(I.length:Int)=(A.length:Int) by rw[hA,hI],bne_self_eq_false,oCF,bN];simp only[oBS];rw[show gl n n 8=true by unfold gl;simp;omega,oCT]
  have l2:=loop_seq (f:=fY) (st:=λi=>(S,A,(i:Int),(),(),I,(S.take i).map (λz=>List.replicate z.toNat ((0,(0,(0,0))):DCn)),zT n,())) (n:=S.length) (N:=NN) (fin:=(S,A,(S.length:Int),false,(),(),I,(S.take S.length).map (λz=>List.replicate z.toNat ((0,(0,(0,0))):DCn)),zT n,())) (eu (by omega)) (λi hi=>by
   obtain⟨z1,z2⟩:=Lm h hi;unfold fY;delta bJ;dsimp only;rw[oDT (show(i:Int)<(S.length:Int) by omega),oCT,bN];simp only[oBS];rw[bO hi];simp only[oBS];rw[z1];simp only[oBS];rw[z2,oCT];rw[bQ (by rw[List.length_map,oLT];omega) (by simp) (by omega) (by rw[List.length_map,oLT];simp;omega),oCT,bS (by omega) (by omega)];rw[<- mu hi]
   rfl) (by
   unfold fY;delta bJ;dsimp only
   rw[oDF (by omega),oCF])
  rw[List.take_length]at l2;rw[show bM fY NN (S,A,0,(),(),I,[],zT n,())=_ from l2,oBS];dsimp only;rw[hr]
  rcases r with⟨x,_,_,_⟩|⟨_,_,_,_,_,_,c,t,_⟩<;>rfl
 rcases MM (I:=I) (A:=A) (by rw[hI];exact hA) (by unfold Sm;omega) (by subst hI;exact hid) hp A.length 0 (by omega) (zC S) (zT n) (FY h hn) NN (eu (by omega))with⟨g1,g2⟩|⟨C',T',g0,g1,g2⟩
 ·exact⟨_,_,_,q1 _ g1,q2 _ g2,⟨by simp[Sm],(λc hc=>by cases hc),by simp[Sm],(λt ht=>by cases ht)⟩⟩
 ·exact⟨_,_,_,q1 _ g1,q2 _ g2,g0⟩
end Go.Proofs.YtakfoejcjdcgbaaGreat
namespace Go.Proofs.YtakfoejcjdcgbaaGreat
open Go.RowKit Go.Lib
theorem Pi:∀{l m:List Int},l.Pairwise (· < ·)->m.Pairwise (· < ·)->(∀x,x∈l↔x∈m)->l=m:=by
 intro l
 induction l with
 |nil=>
  intro m _ _ h
  cases m with
  |nil=>rfl
  |cons y m=>exact absurd ((h y).2 List.mem_cons_self) (by simp)
 |cons x l ih=>
  intro m hl hm h
  cases m with
  |nil=>exact absurd ((h x).1 List.mem_cons_self) (by simp)
  |cons y m=>
   obtain⟨hx,Yv⟩:=List.pairwise_cons.1 hl;obtain⟨hy,To⟩:=List.pairwise_cons.1 hm
   have e:x=y:=by
    rcases List.mem_cons.1 ((h x).1 List.mem_cons_self)with e|g
    ·exact e
    ·rcases List.mem_cons.1 ((h y).2 List.mem_cons_self)with e|g2
     ·exact e.symm
     ·have:=hy x g;have:=hx y g2;omega
   subst e;rw[ih Yv To λz=>?_];have hz:=h z;refine⟨λg=>?_,λg=>?_⟩
   ·rcases List.mem_cons.1 (hz.1 (List.mem_cons_of_mem _ g))with e|g2
    ·have:=hx z g;omega
    ·exact g2
   ·rcases List.mem_cons.1 (hz.2 (List.mem_cons_of_mem _ g))with e|g2
    ·have:=hy z g;omega
    ·exact g2
theorem pR{zs:List Int}{j:Nat}(h:j<zs.length):zs.toArray[j]! = zs[j]:=by simp[h]
theorem BV{zs:List Int}{x:Int}:x∈compact zs↔x∈zs:=by
 unfold compact compactUpTo;simp only[List.mem_map,List.mem_filter,List.mem_range];constructor
 ·rintro⟨j,⟨hj,_⟩,rfl⟩;rw[pR hj];exact List.getElem_mem hj
 ·intro h;have hlt:zs.findIdx (λy=>decide (y=x))<zs.length:=List.findIdx_lt_length_of_exists ⟨x,h,by simp⟩;refine⟨_,⟨hlt,?_⟩,?_⟩
  ·unfold keeps;by_cases h0:zs.findIdx (λy=>decide (y=x))=0
   ·exact oDT (.inl h0)
   ·have h1:=List.findIdx_getElem (xs:=zs) (p:=λy=>decide (y=x)) (w:=hlt);have h2:=List.not_of_lt_findIdx (xs:=zs) (p:=λy=>decide (y=x)) (i:=zs.findIdx (λy=>decide (y=x))-1) (by omega);have e1:=of_decide_eq_true h1
    have e2:zs[zs.findIdx (λy=>decide (y=x))-1]'(by omega)≠x:=by simpa using h2
    refine oDT (.inr ?_);rw[pR hlt,pR (show zs.findIdx (λy=>decide (y=x))-1<zs.length by omega),e1];exact λe=>e2 e.symm
  ·have:=List.findIdx_getElem (xs:=zs) (p:=λy=>decide (y=x)) (w:=hlt);have e:=of_decide_eq_true this;simp[hlt,e]
theorem CN{zs:List Int}(h:zs.Pairwise (·<=·)):(compact zs).Pairwise (· < ·):=by
 unfold compact compactUpTo;refine List.pairwise_map.2 ?_;have hr:((List.range zs.length).filter (keeps zs.toArray)).Pairwise (· < ·):=List.Pairwise.filter _ List.pairwise_lt_range;refine hr.imp_of_mem λ{a b} ha hb hab=>?_;have ZR:b<zs.length:=List.mem_range.1 (List.mem_filter.1 hb).1;have hk:=of_decide_eq_true (List.mem_filter.1 hb).2
 have h0:b≠0:=by omega
 have h1:=hk.resolve_left h0;have h2:=List.pairwise_iff_getElem.1 h;rw[pR ZR,pR (show b-1<zs.length by omega)]at h1;rw[pR ZR,pR (show a<zs.length by omega)];have h3:=h2 (b-1) b (by omega) ZR (by omega)
 have h4:zs[a]<=zs[b-1]:=by
  rcases Nat.lt_or_ge a (b-1)with g|g
  ·exact h2 a (b-1) (by omega) (by omega) g
  ·have:a=b-1:=by omega
   subst this;exact Int.le_refl _
 omega
theorem AX{l m:List Int}(hm:m.Pairwise (· < ·))(h:∀x,x∈l↔x∈m):compact (l.mergeSort λx y=>decide (x<=y))=m:=by
 refine Pi (CN ?_) hm λx=>?_
 ·have:=List.pairwise_mergeSort (le:=λx y:Int=>decide (x<=y)) (λa b c h1 h2=>oDT (by have:=of_decide_eq_true h1;have:=of_decide_eq_true h2;omega)) (λa b=>by by_cases g:a<=b<;>simp[g];omega) l;exact this.imp λh=>of_decide_eq_true h
 ·rw[BV,List.mem_mergeSort,h]
theorem LV(zs:List Int):px (ue 2 zs) 0 (rowN zs)=Go.Lib.compact zs:=by
 show((Go.Lib.compact zs++List.replicate (zs.length-(Go.Lib.compact zs).length) 0).drop 0).take (Go.Lib.compact zs).length=_;simp
end Go.Proofs.YtakfoejcjdcgbaaGreat
