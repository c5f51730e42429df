/- Part of the proof; no condition. -/
import Derived.Test.YtbapcamohngjbaaGreatSd
import Derived.WalkKit
import Derived.WalkSpells
import Derived.Handy
import Derived.OpenShut
set_option linter.unusedVariables false
set_option linter.unusedSimpArgs false
namespace Go.Proofs.YtbapcamohngjbaaGreat
open Go.RowKit
set_option maxRecDepth 100000
noncomputable section
def iW:T1i->Option (T1i⊕((Bool×Unit)⊕T1v)):=λ(v0,v1,v2,v3)=>
bif decide (v2 < v1) then ((dZ v2).bind λx0=>
(dI v0 x0).bind λx1=>
let x2:=dM x1.length;
bif decide (x2 > 100) then (some (.inr (.inl (false,())))) else
let x3:=w64 (v2+1);
some (.inl (v0,v1,x3,v3))) else
some (.inr (.inr (v0,v1,v2,false,v3)))
def qD(a0:LDIn) (a1:List (Int)) (a2:List LI):Option (Bool×Unit):=
let x0:=dM a2.length;
(match dR iW NN (a2,x0,0,a0,a1,a2,()) with
| none=>none
| some (.inl (x1,_))=>
some (x1,())
| some (.inr (x1,x2,x3,x4,x5,x6,x7,_))=>
let x8:=dM x5.length;
bif decide (x8<=80) then (let x9:Int:=(dM x6.length);
bif decide (x9<=20) then (let ac:Int:=(dM x7.length);
some ((decide (ac<=20)),())) else
some (false,())) else
some (false,()))
def Hp:X.Cfg:=⟨E0,[],[],[⟨3,0,(qS [(pP 1 4),(sP 6 (.row false RW)),(sP 7 I64),(sP 8 I64)] [(4,(uL [eZ,RI,(.row false RW)]))]),[(.ret,(qS [(sP 2 .bool)] [])),(.exit 0,(qS [(pP 1 4),(sP 6 (.row false RW)),(sP 7 I64),(sP 8 I64),(sP 9 .bool)] [(4,(uL [eZ,RI,(.row false RW)]))]))]⟩]⟩
def zF:Ctr:=⟨20,149,[.agg (uL [eZ,RI,(.row false RW)])],[],[⟨(uL [.bool]),[.one],[]⟩],ap3 qD⟩
theorem Hh:Lk 1 zF:=ls (C:=Hp) rfl aN (by kernel_rfl) λh=>by kernel_rfl
def pj(a0:Int):Option (Bool×Unit):=
bif decide (a0 < 0) then (some (true,())) else
some ((decide (a0>=512)),())
def vn:X.Cfg:=⟨E0,[],[],[]⟩
def pn:Ctr:=⟨146,150,(uL [I64]),[],[⟨(uL [.bool]),[.one],[]⟩],ap1 pj⟩
theorem vl:Lk 1 pn:=ls (C:=vn) rfl aN (by kernel_rfl) λh=>by kernel_rfl
def si(a0:LDCe) (a1:LDLn) (a2:Int):Option (T0e):=
(pj a2).bind λ(x0,_)=>
bif x0 then (some (0,0,6,())) else
let x1:=dM a0.length;
bif decide (a2>=x1) then (some (0,0,6,())) else
(dZ a2).bind λx2=>
(dI a0 x2).bind λx3=>
some (x3.1,x3.2,0,())
def Bm:X.Cfg:=⟨E0,[pn],[],[]⟩
def tz:Ctr:=⟨70,151,[.agg (uL [eM,fi]),shU I64],[],[⟨(uL [CB,CW,I64]),[.agg 2,.one],[]⟩],ap3 si⟩
theorem AC:Lk 2 tz:=ls (C:=Bm) rfl (aC vl aN) (by kernel_rfl) λh=>by kernel_rfl
def pA(a0:Int) (a1:Int):Option (Bool×Unit):=
some ((decide (a0<=2)),())
def CG:X.Cfg:=⟨E0,[],[],[]⟩
def uK:Ctr:=⟨143,152,[.agg (uL [CB,CW])],[],[⟨(uL [.bool]),[.one],[]⟩],ap2 pA⟩
theorem Ck:Lk 1 uK:=ls (C:=CG) rfl aN (by kernel_rfl) λh=>by kernel_rfl
def lL(a0:Int) (a1:Int):Option (Bool×Unit):=
(pA a0 a1).bind λ(x0,_)=>
some ((!x0),())
def vo:X.Cfg:=⟨E0,[uK],[],[]⟩
def po:Ctr:=⟨148,153,[.agg (uL [CB,CW])],[],[⟨(uL [.bool]),[.one],[]⟩],ap2 lL⟩
theorem vm:Lk 2 po:=ls (C:=vo) rfl (aC Ck aN) (by kernel_rfl) λh=>by kernel_rfl
def eQ:T0i->Option (T0i⊕((Int×Unit)⊕T0w)):=λ(v0,v1,v2,_)=>
bif decide (v2 < v1) then ((dZ v2).bind λx0=>
(dI v0 x0).bind λx1=>
(lL x1.1 x1.2).bind λ(x2,_)=>
bif x2 then (some (.inr (.inl (v2,())))) else
let x3:=w64 (v2+1);
some (.inl (v0,v1,x3,()))) else
some (.inr (.inr (v0,v1,v2,false,())))
def gX(a0:LDCe):Option (Int×Unit):=
let x0:=dM a0.length;
(match dR eQ NN (a0,x0,0,()) with
| none=>none
| some (.inl (x1,_))=>
some (x1,())
| some (.inr (x1,_))=>
some ((-1),()))
def oM:X.Cfg:=⟨E0,[po],[],[⟨3,0,(qS [(sP 0 eM),(1,.fn 148 []),(sP 7 I64),(sP 8 I64)] []),[(.ret,(qS [(sP 4 I64)] [])),(.exit 0,(qS [(sP 0 eM),(1,.fn 148 []),(sP 7 I64),(sP 8 I64),(sP 9 .bool)] []))]⟩]⟩
def kx:Ctr:=⟨203,154,[shU eM,.fn 148 []],[],[⟨(uL [I64]),[.one],[]⟩],ap1 gX⟩
theorem oD:Lk 3 kx:=ls (C:=oM) rfl (aC vm aN) (by kernel_rfl) λh=>by kernel_rfl
def gf(a0:LDCe):Option (Bool×Unit):=
(gX a0).bind λ(x0,_)=>
some ((decide (x0>=0)),())
def nc:X.Cfg:=⟨E0,[kx],[],[]⟩
def i4:Ctr:=⟨147,155,[shU eM,.fn 148 []],[],[⟨(uL [.bool]),[.one],[]⟩],ap1 gf⟩
theorem nb:Lk 4 i4:=ls (C:=nc) rfl (aC oD aN) (by kernel_rfl) λh=>by kernel_rfl
def jd(a0:LDCe) (a1:Int):Option (Bool×Unit):=
let x0:=dM a0.length;
bif (x0==a1) then ((gf a0).bind λ(x1,_)=>
some ((!x1),())) else
some (false,())
def yA:X.Cfg:=⟨E0,[i4],[],[]⟩
def nO:Ctr:=⟨72,156,(uL [eM,I64]),[],[⟨(uL [.bool]),[.one],[]⟩],ap2 jd⟩
theorem rf:Lk 5 nO:=ls (C:=yA) rfl (aC nb aN) (by kernel_rfl) λh=>by kernel_rfl
def mb(a0:Int) (a1:Int) (a2:Bool) (a3:LDCe):Option (Bool×Unit):=
bif (a1==(-1)) then (bif (!a2) then (let x0:Int:=(dM a3.length);
some ((x0==0),())) else
some (false,())) else
bif decide (a1>=0) then (bif decide (a1 < 128) then (let x0:Int:=(Int.tmod a1 4);
bif (x0==a0) then ((jd a3 4).bind λ(x1,_)=>
some (x1,())) else
some (false,())) else
some (false,())) else
some (false,())
def Bk:X.Cfg:=⟨E0,[nO],[],[]⟩
def tu:Ctr:=⟨73,157,[shU I64,.agg (uL [I64,.bool,eM])],[],[⟨(uL [.bool]),[.one],[]⟩],ap4 mb⟩
theorem AA:Lk 6 tu:=ls (C:=Bk) rfl (aC rf aN) (by kernel_rfl) λh=>by kernel_rfl
def fT:T0R->Option (T0R⊕((Bool×Unit)⊕T1b)):=λ(v0,v1,v2,v3)=>
bif decide (v2 < v1) then ((dZ v2).bind λx0=>
(dI v0 x0).bind λx1=>
(mb v2 x1.1 x1.2.1 x1.2.2).bind λ(x2,_)=>
bif (!x2) then (some (.inr (.inl (false,())))) else
let x3:=w64 (v2+1);
some (.inl (v0,v1,x3,v3))) else
some (.inr (.inr (v0,v1,v2,false,v3)))
def fQ(a0:LDCe) (a1:LDLn):Option (Bool×Unit):=
(jd a0 512).bind λ(x0,_)=>
bif (!x0) then (some (false,())) else
let x1:=dM a1.length;
bif (x1 != 4) then (some (false,())) else
let x2:=dM a1.length;
(match dR fT NN (a1,x2,0,a0,a1,()) with
| none=>none
| some (.inl (x3,_))=>
some (x3,())
| some (.inr (x3,_))=>
some (true,()))
def yB:X.Cfg:=⟨E0,[nO,tu],[],[⟨6,0,(qS [(sP 16 fi),(sP 17 I64),(sP 18 I64)] [(4,(uL [eM,fi]))]),[(.ret,(qS [(sP 2 .bool)] [])),(.exit 0,(qS [(sP 16 fi),(sP 17 I64),(sP 18 I64),(sP 19 .bool)] [(4,(uL [eM,fi]))]))]⟩]⟩
def nP:Ctr:=⟨23,158,[.agg (uL [eM,fi])],[],[⟨(uL [.bool]),[.one],[]⟩],ap2 fQ⟩
theorem rh:Lk 7 nP:=ls (C:=yB) rfl (aC rf (aC AA aN)) (by kernel_rfl) λh=>by kernel_rfl
def iX:Option (Bool×Unit):=
let x0:List (Int):=[7,8];
(ke [] [3] [x0] [1] 0).bind λ(x1,x2,x3,_)=>
(si x1 x2 2).bind λ(x4,x5,x6,_)=>
bif (x3==0) then (bif (x6==0) then (bif (x5==8) then (let x7:Int:=(dM x1.length);
bif (x7==512) then (let x8:Int:=(dM x2.length);
bif (x8==4) then ((fQ x1 x2).bind λ(x9,_)=>
some (x9,())) else
some (false,())) else
some (false,())) else
some (false,())) else
some (false,())) else
some (false,())
def Bp:X.Cfg:=⟨E0,[o5,tz,nP],[(8,(.row true CW))],[]⟩
def tB:Ctr:=⟨21,159,[],[],[⟨(uL [.bool]),[.one],[]⟩],λh=>iX⟩
theorem AE:Lk 8 tB:=ls (C:=Bp) rfl (aC sJ (aC AC (aC rh aN))) (by kernel_rfl) λh=>by kernel_rfl
def kZ(a0:LDCe) (a1:LDLn) (a2:Int) (a3:Int) (a4:Int):Option (T04⊕T04):=
(lz a0 a1).bind λ(x0,x1,_)=>
let x2:=dM x1.length;
(is a3 x2).bind λ(x3,_)=>
(match ((is a2 9).bind λ(x4,_)=>
bif (x4==0) then (bif (gS 1 x0.length x0.length) then let x5:LDCe:=(jN x0 1 (Nat.sub x0.length 1));
some (.inl ((),(),x5,x1,())) else none) else
bif (x4==1) then (let x5:Int:=(dM x0.length);
(is a3 x5).bind λ(x6,_)=>
(is a4 5).bind λ(x7,_)=>
let x8:=wk .u8 x7;
(dZ x6).bind λx9=>
(dI x0 x9).bind λac=>
(dI x0 x9).bind λae=>
let af:=List.modify x0 x9 λe=>(x8,e.2);
some (.inr (.inl ((),(),af,x1,())))) else
bif (x4==2) then ((dI x1 0).bind λx5=>
(dI x1 0).bind λx6=>
(dI x1 0).bind λx7=>
let x8:LDLn:=[(x6.1,(x6.2.1,x7.2.2))];
bif (dY 40 x1.length x8.length) then let x9:LDLn:=(List.append x1 x8);
some (.inr (.inr ((),(),x0,x9,()))) else none) else
bif (x4==3) then ((dZ x3).bind λx5=>
(dI x1 x5).bind λx6=>
(dI x1 x5).bind λx7=>
(is a4 9).bind λ(x8,_)=>
let x9:=w64 (x8 - 4);
let ac:=w64 (x7.1+x9);
(dZ x3).bind λae=>
(dI x1 ae).bind λaf=>
(dI x1 ae).bind λag=>
let ah:=List.modify x1 ae λe=>(ac,e.2);
some (.inr (.inl ((),(),x0,ah,())))) else
bif (x4==4) then ((dZ x3).bind λx5=>
(dI x1 x5).bind λx6=>
(dI x1 x5).bind λx7=>
(dZ x3).bind λx8=>
(dI x1 x8).bind λx9=>
(dI x1 x8).bind λac=>
let ae:=(List.modify x1 x8 λe=>(e.1,((!x7.2.1),e.2.2)));
some (.inr (.inl ((),(),x0,ae,())))) else
bif (x4==5) then ((dZ x3).bind λx5=>
(dI x1 x5).bind λx6=>
(dI x1 x5).bind λx7=>
let x8:LDCe:=[(0,0)];
(dI x1 x5).bind λx9=>
bif (dY 4 x9.2.2.length x8.length) then let ac:LDCe:=(List.append x9.2.2 x8);
(dZ x3).bind λae=>
(dI x1 ae).bind λaf=>
(dI x1 ae).bind λag=>
bif (Nat.beq ae x5) then let ah:LDLn:=(List.modify x1 ae λe=>(e.1,(e.2.1,ac)));
some (.inr (.inl ((),(),x0,ah,()))) else none else none) else
bif (x4==6) then ((is a4 140).bind λ(x5,_)=>
let x6:=w64 (x5 - 2);
bif (nL 4 4 2) then let x7:LDCe:=(List.replicate 4 (0,0));
(dZ x3).bind λx8=>
(dI x1 x8).bind λx9=>
(dI x1 x8).bind λac=>
let ae:=(List.modify x1 x8 λe=>(x6,(false,x7)));
some (.inr (.inl ((),(),x0,ae,()))) else none) else
bif (x4==7) then ((dZ x3).bind λx5=>
(dI x1 x5).bind λx6=>
(dI x1 x5).bind λx7=>
(dI x1 x5).bind λx8=>
let x9:=dM x8.2.2.length;
bif decide (x9 > 0) then ((dZ x3).bind λac=>
(dI x1 ac).bind λae=>
(dI x1 ac).bind λaf=>
(is a4 4).bind λ(ag,_)=>
let ah:=wk .u8 ag;
(dI x1 ac).bind λai=>
(dI ai.2.2 0).bind λaj=>
(dI x1 ac).bind λak=>
(dI ak.2.2 0).bind λam=>
let an:=(List.modify x1 ac λe=>(e.1,(e.2.1,(List.modify e.2.2 0 λe=>(ah,e.2)))));
some (.inr (.inl ((),(),x0,an,())))) else
some (.inr (.inl ((),(),x0,x1,())))) else
some (.inr (.inl ((),(),x0,x1,()))):Option (T0E⊕(T0E⊕T0E))) with
| none=>none
| some (.inl (x4,x5,x6,x7,_))=>
some (.inl (x6,x7,()))
| some (.inr (.inl (x4,x5,x6,x7,_)))=>
some (.inl (x6,x7,()))
| some (.inr (.inr (x4,x5,x6,x7,_)))=>
some (.inr (x6,x7,())))
def yE:X.Cfg:=⟨E0,[qp,vL],[(48,LN),(49,LN)],[⟨3,0,qE,[(.normal,(qS [(pP 8 18),(pP 9 20)] [(18,(uL [N1,N1])),(20,(uL [eM,iZ]))])),(.normal,(qS [(pP 8 18),(pP 9 20)] [(18,(uL [N1,N1])),(20,(uL [(.row true KCe),iZ]))])),(.normal,(qS [(pP 8 18),(pP 9 20)] [(18,(uL [N1,N1])),(20,(uL [(.row true KCe),(.row true NG)]))]))]⟩]⟩
def rC:Ctr:=⟨22,160,[.agg (uL [eM,fi]),shU I64,shU I64,shU I64],[],[⟨(uL [eM,iZ]),[.agg 2],[]⟩,⟨(uL [eM,(.row true NG)]),[.agg 2],[]⟩],ap5 kZ⟩
theorem yh:Lk 3 rC:=ls (C:=yE) rfl (aC uD (aC Az aN)) (by kernel_rfl) λh=>by kernel_rfl
def pq:T0x->Option (T0x⊕((Bool×Unit)⊕(LDCe×T0w))):=λ(v0,v1,v2,v3,_)=>
bif decide (v3 < v2) then ((dZ v3).bind λx0=>
(dI v0 x0).bind λx1=>
(dZ v3).bind λx2=>
(dI v1 x2).bind λx3=>
bif (!((x1.1==x3.1) && ((x1.2==x3.2) && true))) then (some (.inr (.inl (false,())))) else
let x4:=w64 (v3+1);
some (.inl (v0,v1,v2,x4,()))) else
some (.inr (.inr (v0,v1,v2,v3,false,())))
def jx(a0:LDCe) (a1:LDCe):Option (Bool×Unit):=
let x0:=dM a0.length;
let x1:=dM a1.length;
bif (x0 != x1) then (some (false,())) else
let x2:=dM a0.length;
(match dR pq NN (a0,a1,x2,0,()) with
| none=>none
| some (.inl (x3,_))=>
some (x3,())
| some (.inr (x3,_))=>
some (true,()))
def rT:X.Cfg:=⟨E0,[],[],[⟨6,0,(qS [(sP 0 eM),(sP 1 eM),(sP 12 I64),(sP 13 I64)] []),[(.ret,(qS [(sP 4 .bool)] [])),(.exit 0,(qS [(sP 0 eM),(sP 1 eM),(sP 12 I64),(sP 13 I64),(sP 14 .bool)] []))]⟩]⟩
def mW:Ctr:=⟨150,161,(uL [eM,eM]),[],[⟨(uL [.bool]),[.one],[]⟩],ap2 jx⟩
theorem rP:Lk 1 mW:=ls (C:=rT) rfl aN (by kernel_rfl) λh=>by kernel_rfl
def mD(a0:LDCe) (a1:LDCe):Option (Bool×Unit):=
(jx a0 a1).bind λ(x0,_)=>
some (x0,())
def Eu:X.Cfg:=⟨E0,[mW],[],[]⟩
def rZ:Ctr:=⟨75,162,(uL [eM,eM]),[],[⟨(uL [.bool]),[.one],[]⟩],ap2 mD⟩
theorem wA:Lk 2 rZ:=ls (C:=Eu) rfl (aC rP aN) (by kernel_rfl) λh=>by kernel_rfl
def mI(a0:Int) (a1:Bool) (a2:LDCe) (a3:Int) (a4:Bool) (a5:LDCe):Option (Bool×Unit):=
bif (a0==a3) then (bif (a1==a4) then ((mD a2 a5).bind λ(x0,_)=>
some (x0,())) else
some (false,())) else
some (false,())
def w7:X.Cfg:=⟨E0,[rZ],[],[]⟩
def qr:Ctr:=⟨77,163,[.agg (uL [I64,.bool,eM]),.agg (uL [I64,.bool,eM])],[],[⟨(uL [.bool]),[.one],[]⟩],ap6 mI⟩
theorem wN:Lk 3 qr:=ls (C:=w7) rfl (aC wA aN) (by kernel_rfl) λh=>by kernel_rfl
def eS:LDLn×LDLn×T02->Option ((LDLn×LDLn×T02)⊕((Bool×Unit)⊕(LDLn×LDLn×T0d))):=λ(v0,v1,v2,v3,_)=>
bif decide (v3 < v2) then ((dZ v3).bind λx0=>
(dI v1 x0).bind λx1=>
(dZ v3).bind λx2=>
(dI v0 x2).bind λx3=>
(mI x1.1 x1.2.1 x1.2.2 x3.1 x3.2.1 x3.2.2).bind λ(x4,_)=>
bif (!x4) then (some (.inr (.inl (false,())))) else
let x5:=w64 (v3+1);
some (.inl (v0,v1,v2,x5,()))) else
some (.inr (.inr (v0,v1,v2,v3,false,())))
def gY(a0:LDLn) (a1:LDLn):Option (Bool×Unit):=
let x0:=dM a0.length;
let x1:=dM a1.length;
bif (x0 != x1) then (some (false,())) else
let x2:=dM a0.length;
(match dR eS NN (a1,a0,x2,0,()) with
| none=>none
| some (.inl (x3,_))=>
some (x3,())
| some (.inr (x3,_))=>
some (true,()))
def oN:X.Cfg:=⟨E0,[qr],[],[⟨6,0,(qS [(sP 1 fi),(2,.fn 77 []),(sP 15 fi),(sP 16 I64),(sP 17 I64)] []),[(.ret,(qS [(sP 6 .bool)] [])),(.exit 0,(qS [(sP 1 fi),(2,.fn 77 []),(sP 15 fi),(sP 16 I64),(sP 17 I64),(sP 18 .bool)] []))]⟩]⟩
def ky:Ctr:=⟨76,164,[shU fi,shU fi,.fn 77 []],[],[⟨(uL [.bool]),[.one],[]⟩],ap2 gY⟩
theorem oE:Lk 4 ky:=ls (C:=oN) rfl (aC wN aN) (by kernel_rfl) λh=>by kernel_rfl
def j9(a0:LDCe) (a1:LDLn) (a2:LDCe) (a3:LDLn):Option (Bool×Unit):=
(mD a0 a2).bind λ(x0,_)=>
bif x0 then ((gY a1 a3).bind λ(x1,_)=>
some (x1,())) else
some (false,())
def Bl:X.Cfg:=⟨E0,[rZ,ky],[],[]⟩
def tw:Ctr:=⟨25,165,[.agg (uL [eM,fi]),.agg (uL [eM,fi])],[],[⟨(uL [.bool]),[.one],[]⟩],ap4 j9⟩
theorem AB:Lk 5 tw:=ls (C:=Bl) rfl (aC wA (aC oE aN)) (by kernel_rfl) λh=>by kernel_rfl
def iq:T2T->Option (T2T⊕((Bool×Unit)⊕(Int×Int×Int×Int×Bool×T2H))):=λ(v0,v1,v2,v3,v4,v5,v6,v7,v8,v9,v10,v11,v12,v13,v14,v15,_)=>
bif decide (v3 < v2) then ((dZ v3).bind λx0=>
(dI v15 x0).bind λx1=>
(dI v15 x0).bind λx2=>
(ke v11 v12 v13 x2.1 x2.2).bind λ(x3,x4,x5,_)=>
(iG v11 v12 v13 x2.1 x2.2).bind λ(x6,x7,x8,_)=>
bif (x5 != x8) then (some (.inr (.inl (false,())))) else
(fP x3 x4 x6 x7).bind λ(x9,_)=>
bif (!x9) then (some (.inr (.inl (false,())))) else
let ac:=w64 (v3+1);
some (.inl (v0,v1,v2,ac,v4,v5,v6,v7,v8,v9,v10,v11,v12,v13,v14,v15,()))) else
some (.inr (.inr (v0,v1,v2,v3,false,v4,v5,v6,v7,v8,v9,v10,v11,v12,v13,v14,v15,())))
def ge:T2s->Option (T2s⊕((Bool×Unit)⊕(Int×Int×Bool×T2b))):=λ(v0,v1,v2,v3,v4,v5,v6,v7,v8,v9,_)=>
bif decide (v1 < v0) then ((dZ v1).bind λx0=>
(dI v9 x0).bind λx1=>
(dI v9 x0).bind λx2=>
let x3:List (LI×Int):=[(v4,v5),(v2,v3)];
let x4:=dM x3.length;
(match dR iq NN (v0,v1,x4,0,v2,v3,v4,v5,v6,v7,v8,x2.1,x2.2.1,x2.2.2,v9,x3,()) with
| none=>none
| some (.inl (x5,_))=>
some (.inr (.inl (x5,())))
| some (.inr (x5,x6,x7,x8,x9,ac,ae,af,ag,ah,ai,aj,ak,am,an,ap,aq,_))=>
let av:=w64 (x6+1);
some (.inl (x5,av,ac,ae,af,ag,ah,ai,aj,ap,())))) else
some (.inr (.inr (v0,v1,false,v2,v3,v4,v5,v6,v7,v8,v9,())))
def jz(a0:LDIn) (a1:List (Int)) (a2:List LI) (a3:List (Int)) (a4:Int) (a5:List (Int)) (a6:Int) (a7:Int) (a8:Int):Option (Bool×Unit):=
(qD a0 a1 a2).bind λ(x0,_)=>
bif (!x0) then ((iX).bind λ(x1,_)=>
some (x1,())) else
let x1:=dM a3.length;
bif decide (x1 > 30) then ((iX).bind λ(x2,_)=>
some (x2,())) else
(la a5 0).bind λ(x2,x3,x4,x5,x6,x7,x8,x9,_)=>
(match kZ x7 x8 a6 a7 a8 with
| none=>none
| some (.inl (af,ag,_))=>
((fQ x7 x8).bind λ(ah,_)=>
bif (!ah) then (some (a8,true,a0,a1,a2,a3,a4,x2,x3,x4,x5,x6,x7,x8,x9,())) else
(fQ af ag).bind λ(ai,_)=>
(gp af ag).bind λ(aj,_)=>
bif (!(ai==aj)) then (some (a8,true,a0,a1,a2,a3,a4,x2,x3,x4,x5,x6,x7,x8,x9,())) else
(j9 x7 x8 af ag).bind λ(ak,_)=>
(fP x7 x8 af ag).bind λ(am,_)=>
bif (!(ak==am)) then (some (a8,true,a0,a1,a2,a3,a4,x2,x3,x4,x5,x6,x7,x8,x9,())) else
(kf x7 x8).bind λ(an,ap,_)=>
(fP an ap x7 x8).bind λ(aq,_)=>
some (a8,(!aq),a0,a1,a2,a3,a4,x2,x3,x4,x5,x6,x7,x8,x9,()):Option (T2C)).bind λ(ah,ai,aj,ak,am,an,ap,aq,av,ax,ay,az,aA,aB,aD,_)=>
bif ai then (some (false,())) else
bif (gS 1 ax.length ax.length) then let aE:List LI:=(jN ax 1 (Nat.sub ax.length 1));
bif (dY 24 0 aE.length) then let aF:List LI:=(List.append [] aE);
(is ah 36).bind λ(aG,_)=>
(dZ aG).bind λaH=>
(dZ aG).bind λaI=>
bif (nL aH aI 1) then let aJ:List (Int):=(List.replicate aH 0);
bif (dY 24 aF.length (List.length [aJ])) then let aK:List LI:=(List.append aF [aJ]);
let aL:List (LDIn×LI×List LI):=[(aq,(av,ax)),(aj,(ak,am)),(aq,(av,aK))];
let aM:=dM aL.length;
(match dR ge NN (aM,0,an,ap,ay,az,aA,aB,aD,aL,()) with
| none=>none
| some (.inl (aO,_))=>
some (aO,())
| some (.inr (aO,aP,aQ,aR,aS,aT,aU,aV,aW,aY,aZ,_))=>
(iX).bind λ(ba,_)=>
some (ba,())) else none else none else none else none
| some (.inr (af,ag,_))=>
((fQ x7 x8).bind λ(ah,_)=>
bif (!ah) then (some (a8,true,a0,a1,a2,a3,a4,x2,x3,x4,x5,x6,x7,x8,x9,())) else
(fQ af ag).bind λ(ai,_)=>
(gp af ag).bind λ(aj,_)=>
bif (!(ai==aj)) then (some (a8,true,a0,a1,a2,a3,a4,x2,x3,x4,x5,x6,x7,x8,x9,())) else
(j9 x7 x8 af ag).bind λ(ak,_)=>
(fP x7 x8 af ag).bind λ(am,_)=>
bif (!(ak==am)) then (some (a8,true,a0,a1,a2,a3,a4,x2,x3,x4,x5,x6,x7,x8,x9,())) else
(kf x7 x8).bind λ(an,ap,_)=>
(fP an ap x7 x8).bind λ(aq,_)=>
some (a8,(!aq),a0,a1,a2,a3,a4,x2,x3,x4,x5,x6,x7,x8,x9,()):Option (T2C)).bind λ(ah,ai,aj,ak,am,an,ap,aq,av,ax,ay,az,aA,aB,aD,_)=>
bif ai then (some (false,())) else
bif (gS 1 ax.length ax.length) then let aE:List LI:=(jN ax 1 (Nat.sub ax.length 1));
bif (dY 24 0 aE.length) then let aF:List LI:=(List.append [] aE);
(is ah 36).bind λ(aG,_)=>
(dZ aG).bind λaH=>
(dZ aG).bind λaI=>
bif (nL aH aI 1) then let aJ:List (Int):=(List.replicate aH 0);
bif (dY 24 aF.length (List.length [aJ])) then let aK:List LI:=(List.append aF [aJ]);
let aL:List (LDIn×LI×List LI):=[(aq,(av,ax)),(aj,(ak,am)),(aq,(av,aK))];
let aM:=dM aL.length;
(match dR ge NN (aM,0,an,ap,ay,az,aA,aB,aD,aL,()) with
| none=>none
| some (.inl (aO,_))=>
some (aO,())
| some (.inr (aO,aP,aQ,aR,aS,aT,aU,aV,aW,aY,aZ,_))=>
(iX).bind λ(ba,_)=>
some (ba,())) else none else none else none else none)
def rW:X.Cfg:=⟨E0,[zF,tB,rF,rC,nP,oW,tw,uY,tA,vL,o5,qo],[(84,(.row true CW)),(88,(.row true CW)),(89,(.row true CW)),(94,(.pair (.row true KIn) (.pair (.row true I64) (.row true (.row true CW))))),(103,(.pair (.row true I64) CW))],[⟨8,0,qE,[(.normal,(qS [(sP 5 I64),(pP 6 14),(pP 7 16),(pP 14 30),(pP 15 32),(sP 79 .bool)] [(14,(uL [eZ,RI,(.row false RW)])),(16,(uL [RI,CW])),(30,(uL [eZ,RI,(.row false RW)])),(32,(uL [RI,CW,eM,fi,gd]))]))]⟩,⟨20,1,(qS [(pP 7 16),(pP 15 32),(pP 19 40),(94,.pk ⟨191,0,[]⟩ [0,0]),(sP 95 I64),(sP 96 I64),(103,.pk ⟨209,0,[]⟩ [0,0]),(sP 104 I64),(sP 105 I64)] [(16,(uL [RI,CW])),(32,(uL [RI,CW,eM,fi,gd])),(40,(uL [eZ,RI,(.row false RW)])),(191,[shU (.row true (.pair eZ (.pair RI (.row false RW))))]),(209,(uL [(.row true (.pair RI CW))]))]),[(.ret,(qS [(sP 12 .bool)] [])),(.exit 2,(qS [(pP 7 16),(pP 15 32),(pP 19 40),(94,.pk ⟨191,0,[]⟩ [0,0]),(sP 95 I64),(sP 96 I64),(103,.pk ⟨209,0,[]⟩ [0,0]),(sP 104 I64),(sP 105 I64),(sP 106 .bool)] [(16,(uL [RI,CW])),(32,(uL [RI,CW,eM,fi,gd])),(40,(uL [eZ,RI,(.row false RW)])),(191,[shU (.row true (.pair eZ (.pair RI (.row false RW))))]),(209,(uL [(.row true (.pair RI CW))]))]))]⟩,⟨14,2,(qS [(pP 7 16),(pP 15 32),(94,.pk ⟨191,0,[]⟩ [0,0]),(sP 95 I64),(sP 96 I64)] [(16,(uL [RI,CW])),(32,(uL [RI,CW,eM,fi,gd])),(191,[shU (.row true (.pair eZ (.pair RI (.row false RW))))])]),[(.ret,(qS [(sP 12 .bool)] [])),(.exit 0,(qS [(pP 7 16),(pP 15 32),(94,.pk ⟨191,0,[]⟩ [0,0]),(sP 95 I64),(sP 96 I64),(sP 97 .bool)] [(16,(uL [RI,CW])),(32,(uL [RI,CW,eM,fi,gd])),(191,[shU (.row true (.pair eZ (.pair RI (.row false RW))))])]))]⟩]⟩
def mZ:Ctr:=⟨4,166,[.agg (uL [eZ,RI,(.row false RW)]),.agg (uL [RI,CW]),shU RI,shU I64,shU I64,shU I64],[],[⟨(uL [.bool]),[.one],[]⟩],ap9 jz⟩
theorem k_law04_MemoryLoads:Lk 11 mZ:=ls (C:=rW) rfl (aC Hh (aC AE (aC yk (aC yh (aC rh (aC sG (aC AB (aC Cy (aC AD (aC Az (aC sJ (aC uC aN)))))))))))) (by kernel_rfl) λh=>by kernel_rfl
end
end Go.Proofs.YtbapcamohngjbaaGreat
namespace Go.Proofs.YtbapcamohngjbaaGreat
set_option maxRecDepth 100000
noncomputable section
end
end Go.Proofs.YtbapcamohngjbaaGreat
namespace Go.Proofs.YtbapcamohngjbaaGreat
open Go.RowKit
theorem ON:(Tryz.prog.funcs.all λfn=>!(fn.name=="runtime.NumGoroutine"))=true:=by kernel_rfl
theorem GX:qw Tryz.prog 14:=by
 obtain⟨fn,hf,hb⟩:∃fn,Tryz.prog.funcs[14]?=some fn/\fn.body.isSome=true:=by
  have hs:(match Tryz.prog.funcs[14]? with | some fn=>fn.body.isSome | none=>false)=true:=by kernel_rfl
  cases h:Tryz.prog.funcs[14]? with
  | none=>rw[h] at hs;cases hs
  | some fn=>rw[h] at hs;exact⟨fn,rfl,hs⟩
 obtain⟨c,hc⟩:=Option.isSome_iff_exists.1 hb;refine Dw hf ?_ hc;obtain⟨hlt,he⟩:=Array.getElem?_eq_some_iff.1 hf;have:=Array.all_eq_true.1 ON 14 hlt;rw[he] at this;simpa using this
def NB(x:Value) (w:World) (e:Ending) (w':World):Prop:=e=.returned (.pointer (some ⟨w.heap.size,0,none⟩))/\w'=w.alloc (.cells #[x,.int .i64 0] 105)
theorem M0(x:Value) (hx:x.oneCell'=true) (w:World) :
 Calls Tryz.prog 14 #[x] w (NB x w):=by
 cases x
 all_goals first
  | (go_enter Tryz.func14,Tryz.ntmps14
     go_wp2
     go_ret
     exact⟨rfl,rfl⟩)
  | simp[Value.oneCell'] at hx
theorem e0_ok:Kb Tryz.prog E0:=by
 intro f n tm h;simp only[E0] at h;split at h
 ·rename_i e;subst e
  injection h with h
  injection h with h1 h2
  subst h1 h2;refine⟨GX,λx hx=>?_,105,λl2 w hl hone=>?_⟩
  ·simp only[List.mem_cons,List.not_mem_nil,or_false] at hx;rcases hx with hx | hx
   ·injection hx
   ·injection hx with hx;rw[hx];rfl
  ·match l2,hl with
   | [x],_=>exact M0 x (hone x (by simp[bxV])) w
 ·simp at h
def Ok{α:Type}(o:Option α) (Q:α->Prop):Prop:=∃a,o=some a/\Q a
section
variable {α β:Type}
theorem Ok.ret{a:α}{Q:α->Prop}(h:Q a):Ok (some a) Q:=⟨a,rfl,h⟩
theorem Ok.bind{o:Option α}{f:α->Option β}{P:α->Prop}{Q:β->Prop}(h:Ok o P) (h2:∀a,P a->Ok (f a) Q):Ok (o.bind f) Q:=by
 obtain⟨a,rfl,h1⟩:=h;exact h2 a h1
theorem Ok.mono{o:Option α}{P Q:α->Prop}(h:Ok o P) (h2:∀a,P a->Q a):Ok o Q:=by
 obtain⟨a,e,h1⟩:=h;exact⟨a,e,h2 a h1⟩
theorem Ok.cond{c:Bool}{a b:Option α}{Q:α->Prop}(h1:c=true->Ok a Q) (h2:c=false->Ok b Q):Ok (bif c then a else b) Q:=by
 cases c with
 | true=>exact h1 rfl
 | false=>exact h2 rfl
class BP (b:Bool) (P N:outParam Prop):Prop where
 t:b=true->P
 f:b=false->N
instance (priority:=low) bpVar {b:Bool}:BP b (b=true) (b=false):=⟨id,id⟩
instance Pj {p:Prop} {i:Decidable p}:BP (@decide p i) p (¬ p):=⟨of_decide_eq_true,of_decide_eq_false⟩
instance Pw {α:Type} [BEq α] [LawfulBEq α] {a b:α}:BP (a==b) (a=b) (¬ a=b):=⟨eq_of_beq,λh=>beq_eq_false_iff_ne.1 h⟩
instance Pv {α:Type} [BEq α] [LawfulBEq α] {a b:α}:BP (a != b) (¬ a=b) (a=b):=⟨λh=>bne_iff_ne.1 h,λh=>bne_eq_false_iff_eq.1 h⟩
instance Pi {b:Bool} {P N:Prop} [h:BP b P N]:BP (!b) N P:=⟨λe=>h.f (by simpa using e),λe=>h.t (by simpa using e)⟩
theorem dF{c:Bool}{P N:Prop} [h:BP c P N] {a b:Option α}{Q:α->Prop}(h1:P->Ok a Q) (h2:N->Ok b Q):Ok (bif c then a else b) Q:=by
 cases hc:c with
 | true=>exact h1 (h.t hc)
 | false=>exact h2 (h.f hc)
theorem Ok.get{l:List α}{i:Nat}{f:α->Option β}{Q:β->Prop}(h:i < l.length) (h2:∀a,l[i]?=some a->Ok (f a) Q):Ok ((dI l i).bind f) Q:=by
 have e:dI l i=some l[i]:=oGE h;rw[e];exact h2 _ (oGE h)
theorem Ok.nat{x:Int}{f:Nat->Option β}{Q:β->Prop}(h:0<=x) (h2:∀n:Nat,x=n->Ok (f n) Q):Ok ((dZ x).bind f) Q:=by
 obtain⟨n,rfl⟩:∃n:Nat,x=n:=⟨x.toNat,by omega⟩;exact h2 n rfl
theorem Ok.val{v:α}{f:α->Option β}{Q:β->Prop}(h:∀x,x=v->Ok (f x) Q):Ok (f v) Q:=h v rfl
theorem dG{c:Bool}{a b:Option α}{Q:α->Prop}(hc:c=true) (h1:Ok a Q):Ok (bif c then a else b) Q:=by rw[hc];exact h1
theorem fS{S T:Type}{f:S->Option (S⊕T)}(P:S->Prop) (R:T->Prop) (m:S->Nat) {n:Nat}{s:S}(hs:P s) (hm:m s < n)
 (h:∀s,P s->Ok (f s) λr=>match r with | .inl s'=>P s'/\m s' < m s | .inr t=>R t):Ok (dR f n s) R:=by
 induction n generalizing s with
 | zero=>omega
 | succ n ih=>
  obtain⟨r,e,hr⟩:=h s hs
  cases r with
  | inl s'=>
   obtain⟨t,e2,hq⟩:=ih hr.1 (by have:=hr.2;omega);exact⟨t,by simp only[dR,e,oBS];exact e2,hq⟩
  | inr t=>exact⟨t,by simp[dR,e],hr⟩
theorem Ok.loop{S T:Type}{f:S->Option (S⊕T)}{g:T->Option β}{Q:β->Prop}(P:S->Prop) (R:T->Prop) (m:S->Nat) {n:Nat}{s:S}(hs:P s) (hm:m s < n)
 (h:∀s,P s->Ok (f s) λr=>match r with | .inl s'=>P s'/\m s' < m s | .inr t=>R t) (hg:∀t,R t->Ok (g t) Q):Ok ((dR f n s).bind g) Q:=(fS P R m hs hm h).bind hg
end
theorem dP{x:Int}(h1:-9223372036854775808<=x) (h2:x<=9223372036854775807):w64 x=x:=Kg h1 h2
theorem dK(n:Nat):dZ (n:Int)=some n:=rfl
theorem dV(n:Nat):dM n=(n:Int):=rfl
theorem dN{α:Type}{l:List α}{i:Nat}{a:α}(h:l[i]?=some a):a∈l:=List.mem_of_getElem? h
def W16(x:Int):Prop:=0<=x/\x<=65535
theorem d7{x:Int}(h0:0<=x) (h1:x<=65535):wk .u16 x=x:=by
 unfold wk;rw[zM];omega
theorem dU{x:Int}(h0:-9223372036854775808<=x) (h1:x<=9223372036854775807):wk .i64 x=x:=dP h0 h1
theorem dS{b n m:Nat}(h:b<=1000/\n+m<=1000000):dY b n m=true:=by
 have:(n+m)*b<=1000000*1000:=Nat.mul_le_mul h.2 h.1;simp only[dY,oBA,oDE];omega
structure DOk (l:List Int) (k:Int):Prop where
 num:∀x∈l,vg x
 len:l.length<=maxLen
 lo:0<=k
 hi:k<=l.length
theorem BO{l:List Int}(h:∀x∈l,vg x) (hl:l.length<=maxLen):DOk l 0:=⟨h,hl,by omega,by omega⟩
theorem L0{a b:Int}(ha:vg a) (hb:0 < b) (hb2:b<=9223372036854775807):∃v,g8 a b=some (v,())/\0<=v/\v < b:=by
 have hne:(b != 0)=true:=by simp;omega
 have hm:Int.tmod a b < b:=Int.tmod_lt_of_pos a hb
 have hm2:-b < Int.tmod a b:=by
  have:=Int.tmod_lt_of_pos (-a) hb;rw[Int.neg_tmod] at this;omega
 unfold g8;simp only[hne,oCT];by_cases h:Int.tmod a b < 0
 ·refine⟨Int.tmod a b+b,?_,by omega,by omega⟩;simp only[h,decide_true,oCT,oBS];rw[dP (by omega) (by omega)]
 ·refine⟨Int.tmod a b,?_,by omega,hm⟩;simp only[h,decide_false,oCF,oBS]
section
variable {β:Type} {l:List Int} {k n:Int} {Q:β->Prop}
theorem N2{a b:Int}{f:Int×Unit->Option β}(ha:vg a) (hb:0 < b) (hb2:b<=9223372036854775807) (K:∀v,0<=v->v < b->Ok (f (v,())) Q):Ok ((g8 a b).bind f) Q:=by
 obtain⟨v,e,h0,h1⟩:=L0 ha hb hb2;rw[e];exact K v h0 h1
theorem fu{f:Int×List Int×Int×Unit->Option β}(h:DOk l k) (hn:0 < n) (hn2:n<=9223372036854775807) (K:∀v k',0<=v->v < n->DOk l k'->Ok (f (v,l,k',())) Q):Ok ((dL n l k).bind f) Q:=by
 have hl:=h.len;have hlo:=h.lo;have hhi:=h.hi
 have hmx:maxLen<=9223372036854775807:=by decide
 by_cases hk:k>=(l.length:Int)
 ·have e:dL n l k=some (0,l,k,()):=by unfold dL;simp[dV,hk]
  rw[e];exact K 0 k (by omega) hn h
 ·obtain⟨j,rfl⟩:∃j:Nat,k=j:=⟨k.toNat,by omega⟩
  have hj:j < l.length:=by omega
  obtain⟨v,hv,h0,h1⟩:=L0 (h.num _ (List.getElem_mem hj)) hn hn2
  have e:dL n l j=some (v,l,(j:Int)+1,()):=by
   unfold dL;delta dM
   try dsimp only
   rw[dP (x:=(j:Int)+1) (by omega) (by omega),dP (x:=(j:Int)+1 - 1) (by omega) (by omega)];rw[show (j:Int)+1 - 1=j by omega,dK];simp only[hk,decide_false,oCF,oBS,dI,oGE hj,is,hv]
  rw[e];exact K v _ h0 h1 ⟨h.num,hl,by omega,by omega⟩
theorem Fb{f:Int×List Int×Int×Unit->Option β}(h:DOk l k) (K:∀v k',0<=v->v<=65535->DOk l k'->Ok (f (v,l,k',())) Q):Ok ((iJ l k).bind f) Q:=by
 have hw:Ok (iJ l k) λr=>∃v k',r=(v,l,k',())/\0<=v/\v<=65535/\DOk l k':=by
  unfold iJ
  (with_reducible refine fu (by assumption) (by omega) (by omega) (λv k a b d=>?_);try dsimp only)
  refine Ok.bind (P:=λr=>∃b,r=(v,b,l,k,())) ?_ ?_
  ·repeat ((with_reducible refine dF (λhc=>?_) λhc=>?_);· exact Ok.ret ⟨_,rfl⟩)
   exact Ok.ret ⟨_,rfl⟩
  ·rintro _ ⟨b,rfl⟩;dsimp only;refine Ok.cond (λ_=>?_) λ_=>?_
   ·(with_reducible refine fu (by assumption) (by omega) (by omega) (λv k a b d=>?_);try dsimp only)
    (simp (disch:=omega) only [dP,d7,dU,dV])
    exact Ok.ret ⟨_,_,rfl,by omega,by omega,by assumption⟩
   ·(with_reducible refine dF (λhc=>?_) λhc=>?_)
    ·(with_reducible refine fu (by assumption) (by omega) (by omega) (λv k a b d=>?_);try dsimp only)
     (simp (disch:=omega) only [dP,d7,dU,dV])
     exact Ok.ret ⟨_,_,rfl,by omega,by omega,by assumption⟩
    ·(with_reducible refine fu (by assumption) (by omega) (by omega) (λv k a b d=>?_);try dsimp only)
     (simp (disch:=omega) only [dP,d7,dU,dV])
     exact Ok.ret ⟨_,_,rfl,by omega,by omega,by assumption⟩
 refine hw.bind ?_;rintro _ ⟨v,k',rfl,h0,h1,h2⟩;exact K v k' h0 h1 h2
end
def vN(s:List Int):Prop:=1<=s.length/\s.length<=4/\∀x∈s,1<=x/\x<=32
theorem OJ{P:Int->Prop}{a b c:Int}(ha:P a) (hb:P b) (hc:P c):∀x∈[a,b,c],P x:=by
 intro x hx;simp only[List.mem_cons,List.not_mem_nil,or_false] at hx
 rcases hx with rfl | rfl | rfl<;>assumption
theorem Kq{l:List Int}{k:Int}(h:DOk l k):Ok (nv l k) λr=>∃s k',r=(s,l,k',())/\vN s/\DOk l k':=by
 unfold nv
 (with_reducible refine fu (by assumption) (by omega) (by omega) (λv0 k0 a0 b0 d0=>?_);try dsimp only)
 (simp (disch:=omega) only [dP,d7,dU,dV])
 (with_reducible refine fu (by assumption) (by omega) (by omega) (λv1 k1 a1 b1 d1=>?_);try dsimp only)
 refine Ok.loop (P:=λ((c,l',k',s,_):Int×List Int×Int×List Int×Unit)=>l'=l/\DOk l k'/\0<=c/\c+s.length<=4/\1<=s.length/\∀x∈s,1<=x/\x<=32)
  (R:=λ((_,_,l',k',s,_):Int×Bool×List Int×Int×List Int×Unit)=>l'=l/\DOk l k'/\vN s) (m:=λs=>s.1.toNat) ⟨rfl,d1,a1,by simp;omega,by simp,by simp;omega⟩ (by unfold NN;dsimp only;omega) ?_ ?_
 ·rintro⟨c,l',k3,s,_⟩ ⟨rfl,hd3,hc0,hcs,hs1,hs⟩;dsimp only at *;unfold pJ;dsimp only
  (with_reducible refine dF (λhc=>?_) λhc=>?_)
  ·(with_reducible refine fu (by assumption) (by omega) (by omega) (λv2 k2 a2 b2 d2=>?_);try dsimp only)
   (with_reducible refine Ok.nat (by omega) (λj hj=>?_);try dsimp only)
   have hmem:∀x∈[(6:Int),12,32],6<=x/\x<=32:=OJ (by omega) (by omega) (by omega);refine Ok.get (by simp;omega) λa ha=>?_;have h6:=hmem a (dN ha);refine Ok.get (by simp;omega) λb hb=>?_;have h7:=hmem b (dN hb)
   (with_reducible refine fu (by assumption) (by omega) (by omega) (λv3 k3 a3 b3 d3=>?_);try dsimp only)
   (simp (disch:=omega) only [dP,d7,dU,dV])
   refine dG (dS (by simp;omega)) ?_;refine Ok.ret ⟨⟨rfl,by assumption,by omega,?_,?_,?_⟩,?_⟩
   ·simp;omega
   ·simp
   ·intro x hx;simp only[List.append_eq,List.mem_append,List.mem_cons,List.not_mem_nil,or_false] at hx;rcases hx with hx | rfl
    ·exact hs x hx
    ·omega
   ·dsimp only;omega
  ·exact Ok.ret ⟨rfl,hd3,hs1,by dsimp only;omega,hs⟩
 ·rintro⟨a,b,l',k3,s,_⟩ ⟨rfl,hd3,hs⟩;exact Ok.ret ⟨_,_,rfl,hs,hd3⟩
def oo(op:Int):Bool:=!(op==18 || op==23 || op==0 || op==24)
def om(op:Int):Bool:=!(op==18 || op==23 || op==0 || op==24 || op==1 || op==15 || op==19 || op==20 || op==21 || op==22)
def ol(op:Int):Bool:=!(op==18 || op==23 || op==0 || op==24 || op==1 || op==15 || op==19 || op==20 || op==21 || op==22 || op==2 || op==16 || op==17)
def oj(op:Int):Bool:=op==1 || op==15 || op==19 || op==20 || op==21 || op==16 || op==17 || op==18 || op==23
def mh(op:Int):Bool:=op==18 || op==19 || op==20 || op==21
theorem HW{op:Int}(h0:0<=op) (h1:op<=24):jH op=some (oo op,om op,ol op,oj op,()):=by
 obtain⟨n,rfl⟩:∃n:Nat,op=n:=⟨op.toNat,by omega⟩
 have hn:n < 25:=by omega
 have key:∀n:Fin 25,(jH ((n.val:Nat):Int)).map (λx=>(x.1,x.2.1,x.2.2.1,x.2.2.2.1))=some (oo (n.val:Nat),om (n.val:Nat),ol (n.val:Nat),oj (n.val:Nat)):=by decide
 have:=key ⟨n,hn⟩;dsimp only at this
 cases h:jH (n:Int) with
 | none=>rw[h] at this;cases this
 | some x=>
  obtain⟨a,b,c,d,_⟩:=x;rw[h] at this;simp only[oMS,oSJ,oPJ] at this;rw[this.1,this.2.1,this.2.2.1,this.2.2.2]
theorem wO(op:Int):gU op=some (mh op,()):=by
 unfold gU mh;cases op==18<;>cases op==19<;>cases op==20<;>cases op==21<;>rfl
structure iv (n m:Int) (i:DIn):Prop where
 op:0<=i.1/\i.1<=24
 a:0<=i.2.1/\i.2.1 < 8/\(oo i.1=false->i.2.1=0)
 b:0<=i.2.2.1/\i.2.2.1 < 8/\(om i.1=false->i.2.2.1=0)
 c:0<=i.2.2.2.1/\i.2.2.2.1 < 8/\(ol i.1=false->i.2.2.2.1=0)
 imm:0<=i.2.2.2.2/\i.2.2.2.2<=65535/\(oj i.1=false->i.2.2.2.2=0)
 lea:i.1=15->i.2.2.2.2 < n
 sys:i.1=23->i.2.2.2.2<=15
 jmp:mh i.1=true->i.2.2.2.2 < m
theorem ins_mk{n m o a b c i:Int}(ho:0<=o/\o<=24) (ha:0<=a/\a < 8) (hb:0<=b/\b < 8) (hc:0<=c/\c < 8) (hi:0<=i/\i<=65535) (hA:oo o=true\/a=0) (hB:om o=true\/b=0) (hC:ol o=true\/c=0) (hI:oj o=true\/i=0)
 (hl:o=15->i < n) (hs:o=23->i<=15) (hj:mh o=true->i < m):iv n m (o,a,b,c,i):=
 ⟨ho,⟨ha.1,ha.2,λh=>hA.elim (λh'=>by rw[show oo o=false from h] at h';cases h') id⟩,⟨hb.1,hb.2,λh=>hB.elim (λh'=>by rw[show om o=false from h] at h';cases h') id⟩,
  ⟨hc.1,hc.2,λh=>hC.elim (λh'=>by rw[show ol o=false from h] at h';cases h') id⟩,⟨hi.1,hi.2,λh=>hI.elim (λh'=>by rw[show oj o=false from h] at h';cases h') id⟩,hl,hs,hj⟩
theorem Ci{n m r v:Int}(h:0<=r/\r < 8) (hv:0<=v/\v<=65535):iv n m (1,r,0,0,v):=ins_mk (by decide) h (by decide) (by decide) hv (.inl (by decide)) (.inr rfl) (.inr rfl) (.inl (by decide)) (by omega) (by omega) (λh=>absurd h (by decide))
theorem Ed{n m r v:Int}(h:0<=r/\r < 8) (hv:0<=v/\v < 8):iv n m (2,r,v,0,0):=ins_mk (by decide) h hv (by decide) (by decide) (.inl (by decide)) (.inl (by decide)) (.inr rfl) (.inr rfl) (by omega) (by omega) (λh=>absurd h (by decide))
theorem vY{n m v:Int}(hv:0<=v/\v<=15):iv n m (23,0,0,0,v):=ins_mk (by decide) (by decide) (by decide) (by decide) (by omega) (.inr rfl) (.inr rfl) (.inr rfl) (.inl (by decide)) (by omega) (by omega) (λh=>absurd h (by decide))
theorem Eh{n m r v:Int}(h:0<=r/\r < 8) (hv:0<=v/\v < n) (hn:n<=4):iv n m (15,r,0,0,v):=ins_mk (by decide) h (by decide) (by decide) (by omega) (.inl (by decide)) (.inr rfl) (.inr rfl) (.inl (by decide)) (by omega) (by omega) (λh=>absurd h (by decide))
theorem H3{n m o a b v:Int}(ho:o=16\/o=17) (h:0<=a/\a < 8) (hb:0<=b/\b < 8) (hv:0<=v/\v<=65535):iv n m (o,a,b,0,v):=by
 rcases ho with rfl | rfl
 ·exact ins_mk (by decide) h hb (by decide) hv (.inl (by decide)) (.inl (by decide)) (.inr rfl) (.inl (by decide)) (by omega) (by omega) (λh=>absurd h (by decide))
 ·exact ins_mk (by decide) h hb (by decide) hv (.inl (by decide)) (.inl (by decide)) (.inr rfl) (.inl (by decide)) (by omega) (by omega) (λh=>absurd h (by decide))
theorem Ea{n m o a b c:Int}(ho:3<=o/\o<=14) (h:0<=a/\a < 8) (hb:0<=b/\b < 8) (hc:0<=c/\c < 8):iv n m (o,a,b,c,0):=
 ins_mk (by omega) h hb hc (by decide) (.inl (by unfold oo;simp;omega)) (.inl (by unfold om;simp;omega)) (.inl (by unfold ol;simp;omega)) (.inr rfl) (by omega) (by omega) (λh=>by unfold mh at h;simp at h;omega)
theorem M8{n m v:Int}(hv:0<=v/\v<=65535) (hm:v < m):iv n m (18,0,0,0,v):=ins_mk (by decide) (by decide) (by decide) (by decide) hv (.inr rfl) (.inr rfl) (.inr rfl) (.inl (by decide)) (by omega) (by omega) (λ_=>hm)
theorem MO{n m:Int}:iv n m (24,0,0,0,0):=ins_mk (by decide) (by decide) (by decide) (by decide) (by decide) (.inr rfl) (.inr rfl) (.inr rfl) (.inr rfl) (by omega) (by omega) (λh=>absurd h (by decide))
theorem iv.mono{n m m':Int}{i:DIn}(h:iv n m i) (hm:m<=m'):iv n m' i:=⟨h.op,h.a,h.b,h.c,h.imm,h.lea,h.sys,λhj=>by have:=h.jmp hj;omega⟩
theorem Es{n m a v:Int}(h:0<=a/\a < 8) (hv:0<=v/\v<=65535) (hm:v < m):iv n m (20,a,0,0,v):=ins_mk (by decide) h (by decide) (by decide) hv (.inl (by decide)) (.inr rfl) (.inr rfl) (.inl (by decide)) (by omega) (by omega) (λ_=>hm)
theorem Lf{n most k:Int}{l:List Int}(h:DOk l k) (hn:1<=n/\n<=4) (hm:1<=most/\most<=100):Ok (nw n most l k) λr=>∃o a b c i k',r=(o,a,b,c,i,l,k',())/\iv n most (o,a,b,c,i)/\DOk l k':=by
 unfold nw
 (with_reducible refine fu (by assumption) (by omega) (by omega) (λv0 k0 a0 b0 d0=>?_);try dsimp only)
 rw[HW (by omega) (by omega)];simp only[oBS];refine Ok.bind (P:=λr=>∃x k',r=(n,most,l,k',0,0,0,0,0,v0,x,0,0,0,oo v0,om v0,ol v0,oj v0,())/\0<=x/\x < 8/\(oo v0=false->x=0)/\DOk l k') ?_ ?_
 ·refine Ok.cond (λhc=>?_) λhc=>Ok.ret ⟨_,_,rfl,by omega,by omega,λ_=>rfl,d0⟩
  (with_reducible refine fu (by assumption) (by omega) (by omega) (λv1 k1 a1 b1 d1=>?_);try dsimp only)
  exact Ok.ret ⟨_,_,rfl,a1,b1,(λhh=>by rw[hc] at hh;cases hh),d1⟩
 rintro _ ⟨xa,k1,rfl,ha0,ha1,ha2,d1⟩;dsimp only;refine Ok.bind (P:=λr=>∃x k',r=(n,most,l,k',0,0,0,0,0,v0,xa,x,0,0,oo v0,om v0,ol v0,oj v0,())/\0<=x/\x < 8/\(om v0=false->x=0)/\DOk l k') ?_ ?_
 ·refine Ok.cond (λhc=>?_) λhc=>Ok.ret ⟨_,_,rfl,by omega,by omega,λ_=>rfl,d1⟩
  (with_reducible refine fu (by assumption) (by omega) (by omega) (λv2 k2 a2 b2 d2=>?_);try dsimp only)
  exact Ok.ret ⟨_,_,rfl,a2,b2,(λhh=>by rw[hc] at hh;cases hh),d2⟩
 rintro _ ⟨xb,k2,rfl,hb0,hb1,hb2,d2⟩;dsimp only;refine Ok.bind (P:=λr=>∃x k',r=(n,most,l,k',0,0,0,0,0,v0,xa,xb,x,0,oo v0,om v0,ol v0,oj v0,())/\0<=x/\x < 8/\(ol v0=false->x=0)/\DOk l k') ?_ ?_
 ·refine Ok.cond (λhc=>?_) λhc=>Ok.ret ⟨_,_,rfl,by omega,by omega,λ_=>rfl,d2⟩
  (with_reducible refine fu (by assumption) (by omega) (by omega) (λv3 k3 a3 b3 d3=>?_);try dsimp only)
  exact Ok.ret ⟨_,_,rfl,a3,b3,(λhh=>by rw[hc] at hh;cases hh),d3⟩
 rintro _ ⟨xc,k3,rfl,hc0,hc1,hc2,d3⟩;dsimp only;rw[wO];simp only[oBS];refine Ok.bind (P:=λr=>∃x k',r=(l,k',0,0,0,0,0,v0,xa,xb,xc,x,())/\0<=x/\x<=65535/\(oj v0=false->x=0)/\(v0=15->x < n)/\(v0=23->x<=15)/\(mh v0=true->x < most)/\DOk l k') ?_ ?_
 ·refine Ok.cond (λhj=>?_) λhj=>?_
  ·(with_reducible refine fu (by assumption) (by omega) (by omega) (λv4 k4 a4 b4 d4=>?_);try dsimp only)
   have hj:mh v0=true:=hj
   have hne:v0≠15/\v0≠23:=by constructor<;>(rintro rfl;exact absurd hj (by decide))
   exact Ok.ret ⟨_,_,rfl,a4,by omega,(λhh=>by
    have:oj v0=true:=by unfold mh at hj;unfold oj;simp at hj ⊢;omega
    rw[this] at hh;cases hh),by omega,by omega,λ_=>b4,d4⟩
  ·(with_reducible refine dF (λhc5=>?_) λhc5=>?_)
   ·subst hc5
    (with_reducible refine fu (by assumption) (by omega) (by omega) (λv4 k4 a4 b4 d4=>?_);try dsimp only)
    exact Ok.ret ⟨_,_,rfl,a4,by omega,λhh=>absurd hh (by decide),by omega,by omega,λhh=>absurd hh (by decide),d4⟩
   ·(with_reducible refine dF (λhc6=>?_) λhc6=>?_)
    ·subst hc6
     (with_reducible refine fu (by assumption) (by omega) (by omega) (λv4 k4 a4 b4 d4=>?_);try dsimp only)
     exact Ok.ret ⟨_,_,rfl,a4,by omega,λhh=>absurd hh (by decide),by omega,by omega,λhh=>absurd hh (by decide),d4⟩
    ·refine Ok.cond (λhu=>?_) λhu=>?_
     ·(with_reducible refine Fb (by assumption) (λv4 k4 a4 b4 d4=>?_);try dsimp only)
      (simp (disch:=omega) only [dP,d7,dU,dV])
      exact Ok.ret ⟨_,_,rfl,a4,by omega,(λhh=>by rw[hu] at hh;cases hh),by omega,by omega,(λhh=>by rw[show mh v0=false from hj] at hh;cases hh),d4⟩
     ·exact Ok.ret ⟨_,_,rfl,by omega,by omega,λ_=>rfl,by omega,by omega,(λhh=>by rw[show mh v0=false from hj] at hh;cases hh),d3⟩
 rintro _ ⟨xi,k4,rfl,hi0,hi1,hi2,hi3,hi4,hi5,d4⟩;exact Ok.ret ⟨_,_,_,_,_,_,rfl,⟨⟨a0,by dsimp only;omega⟩,⟨ha0,ha1,ha2⟩,⟨hb0,hb1,hb2⟩,⟨hc0,hc1,hc2⟩,⟨hi0,hi1,hi2⟩,hi3,hi4,hi5⟩,d4⟩
theorem mt{α β:Type}{l:List α}{i:Nat}{f:α->Option β}{Q:β->Prop}(P:α->Prop) (h:i < l.length) (hP:∀x∈l,P x) (h2:∀a,P a->Ok (f a) Q):Ok ((dI l i).bind f) Q:=Ok.get h λa ha=>h2 a (hP a (dN ha))
theorem ee{α:Type}{P:α->Prop}:∀x∈([]:List α),P x:=λ_ h=>by cases h
theorem all_cons{α:Type}{P:α->Prop}{a:α}{l:List α}(h:P a) (h2:∀x∈l,P x):∀x∈a :: l,P x:=λx hx=>by
 rcases List.mem_cons.1 hx with rfl | hx
 ·exact h
 ·exact h2 x hx
theorem N4(a b:Int):iI a b=some (1,a,0,0,b,()):=rfl
theorem NZ(a b:Int):ma a b=some (2,a,b,0,0,()):=rfl
theorem LT(a:Int):g9 a=some (23,0,0,0,a,()):=rfl
theorem Pc{x:Int}(h:1<=x):1<=mmR false 5 x/\mmR false 5 x<=5:=by
 unfold mmR;simp only[Bool.false_eq_true,if_false];split<;>omega
def Gb(n at_:Int) (l:List Int) (r:List DIn×List Int×Int×Unit):Prop:=∃xs k',r=(xs,l,k',())/\1<=xs.length/\xs.length<=6/\(∀i∈xs,iv n (at_+xs.length) i)/\DOk l k'
theorem zZ{n at_:Int}{l:List Int}{xs:List DIn}{k:Int}(h1:1<=xs.length/\xs.length<=6) (h2:∀i∈xs,iv n (at_+xs.length) i) (h3:DOk l k):Ok (some (xs,l,k,())) (Gb n at_ l):=Ok.ret ⟨xs,k,rfl,h1.1,h1.2,h2,h3⟩
theorem MY{s l:List Int}{at_ k:Int}(h:DOk l k) (hs:vN s) (ha:0<=at_/\at_<=99):Ok (oA s (at_+1) at_ l k) (Gb s.length at_ l):=by
 obtain⟨hs1,hs4,hsz⟩:=hs
 have hn:1<=(s.length:Int)/\(s.length:Int)<=4:=by omega
 unfold oA;delta dM;simp only[N4,NZ,LT,oBS]
 (with_reducible refine fu (by assumption) (by omega) (by omega) (λvr kr ar br dr=>?_);try dsimp only)
 refine Ok.nat (by omega) λj hj=>?_;refine mt (λa=>1<=a/\a<=32) (by omega) hsz λz hz=>?_
 (simp (disch:=omega) only [dP,d7,dU,dV])
 have h5:=Pc (x:=z+1) (by omega);generalize mmR false 5 (z+1)=mm at h5
 (with_reducible refine fu (by assumption) (by omega) (by omega) (λvu ku au bu du=>?_);try dsimp only)
 (with_reducible refine fu (by assumption) (by omega) (by omega) (λvw kw aw bw dw=>?_);try dsimp only)
 iterate 19
  (with_reducible refine dF (λhcc=>?_) λhcc=>?_)
  ·repeat (first | (simp (disch:=omega) only [dP,d7,dU,dV]) | (with_reducible refine fu (by assumption) (by omega) (by omega) (λv k a b d=>?_);try dsimp only) | (with_reducible refine Fb (by assumption) (λv k a b d=>?_);try dsimp only) | (with_reducible refine Ok.nat (by omega) (λj hj=>?_);try dsimp only) | ((with_reducible first | refine mt (λa=>1<=a/\a<=32) (by omega) (by assumption) (λe he=>?_) | refine mt (λa=>3<=a/\a<=14) (by simp only[oLC,List.length_nil];omega) (by (first | exact (all_cons (by omega) (all_cons (by omega) ee)) | exact (all_cons (by omega) (all_cons (by omega) (all_cons (by omega) ee))) | exact (all_cons (by omega) (all_cons (by omega) (all_cons (by omega) (all_cons (by omega) (all_cons (by omega) (all_cons (by omega) (all_cons (by omega) (all_cons (by omega) ee)))))))))) (λe he=>?_) | refine mt (λa=>0<=a/\a<=15) (by simp only[oLC,List.length_nil];omega) (by (first | exact (all_cons (by omega) (all_cons (by omega) ee)) | exact (all_cons (by omega) (all_cons (by omega) (all_cons (by omega) ee))) | exact (all_cons (by omega) (all_cons (by omega) (all_cons (by omega) (all_cons (by omega) (all_cons (by omega) (all_cons (by omega) (all_cons (by omega) (all_cons (by omega) ee)))))))))) (λe he=>?_) | refine mt (λa=>1<=a/\a<=100) (by simp only[oLC,List.length_nil];omega) (by (first | exact (all_cons (by omega) (all_cons (by omega) ee)) | exact (all_cons (by omega) (all_cons (by omega) (all_cons (by omega) ee))) | exact (all_cons (by omega) (all_cons (by omega) (all_cons (by omega) (all_cons (by omega) (all_cons (by omega) (all_cons (by omega) (all_cons (by omega) (all_cons (by omega) ee)))))))))) (λe he=>?_));try dsimp only) | (with_reducible refine dG (dS (by first | omega | simp)) ?_;try dsimp only) | (refine mt (λ(a:List DIn)=>(1<=a.length/\a.length<=6)/\∀i∈a,iv s.length (at_+a.length) i) (by simp only[oLC,List.length_nil];omega) (all_cons ⟨by simp,by ((repeat' (first | exact ee | refine all_cons ?_ ?_ | exact Ci (by omega) (by omega) | exact Ed (by omega) (by omega) | exact vY (by omega) | exact Eh (by omega) (by omega) (by omega) | exact H3 (by omega) (by omega) (by omega) (by omega) | exact Ea (by omega) (by omega) (by omega) (by omega) | exact Es (by omega) (by omega) (by simp only[oLC,List.length_nil];omega)));done)⟩ (all_cons ⟨by simp,by ((repeat' (first | exact ee | refine all_cons ?_ ?_ | exact Ci (by omega) (by omega) | exact Ed (by omega) (by omega) | exact vY (by omega) | exact Eh (by omega) (by omega) (by omega) | exact H3 (by omega) (by omega) (by omega) (by omega) | exact Ea (by omega) (by omega) (by omega) (by omega) | exact Es (by omega) (by omega) (by simp only[oLC,List.length_nil];omega)));done)⟩ ee)) (λe he=>?_);try dsimp only))
   first
    | exact zZ he.1 he.2 (by assumption)
    | (refine zZ (by simp) ?_ (by assumption);try simp only[List.append_eq,List.cons_append,List.nil_append]
       ((repeat' (first | exact ee | refine all_cons ?_ ?_ | exact Ci (by omega) (by omega) | exact Ed (by omega) (by omega) | exact vY (by omega) | exact Eh (by omega) (by omega) (by omega) | exact H3 (by omega) (by omega) (by omega) (by omega) | exact Ea (by omega) (by omega) (by omega) (by omega) | exact Es (by omega) (by omega) (by simp only[oLC,List.length_nil];omega)));done))
 refine (Lf (by assumption) hn (by omega)).bind ?_;rintro _ ⟨o,a,b,c,i,k',rfl,hi,hd⟩;exact zZ (by simp) (all_cons (hi.mono (by simp)) ee) hd
theorem i7{α:Type}{P:α->Prop}{l m:List α}(h:∀x∈l,P x) (h2:∀x∈m,P x):∀x∈List.append l m,P x:=λx hx=>(List.mem_append.1 (show x∈l++m from hx)).elim (h x) (h2 x)
theorem eY{α:Type}(l m:List α):(List.append l m).length=l.length+m.length:=List.length_append
theorem og{l:List Int}{k n:Int}(h:DOk l k) (hn:0<=n/\n<=1000):Ok (fR n l k) λr=>∃ws k',r=(ws,l,k',())/\(ws.length:Int)<=n/\(∀w∈ws,W16 w)/\DOk l k':=by
 unfold fR
 (simp (disch:=omega) only [dP,d7,dU,dV])
 (with_reducible refine fu (by assumption) (by omega) (by omega) (λv0 k0 a0 b0 d0=>?_);try dsimp only)
 refine Ok.loop (P:=λ((c,l',k',s,_):Int×List Int×Int×List Int×Unit)=>l'=l/\DOk l k'/\0<=c/\c+s.length<=n/\∀x∈s,W16 x)
  (R:=λ((_,_,l',k',s,_):Int×Bool×List Int×Int×List Int×Unit)=>l'=l/\DOk l k'/\(s.length:Int)<=n/\∀x∈s,W16 x) (m:=λs=>s.1.toNat) ⟨rfl,d0,a0,by simp;omega,ee⟩ (by unfold NN;dsimp only;omega) ?_ ?_
 ·rintro⟨c,l',k3,s,_⟩ ⟨rfl,hd3,hc0,hcs,hs⟩;dsimp only at *;unfold pI;dsimp only
  (with_reducible refine dF (λhcc=>?_) λhcc=>?_)
  ·(with_reducible refine Fb (by assumption) (λv1 k1 a1 b1 d1=>?_);try dsimp only)
   refine dG (dS (by simp;omega)) ?_
   (simp (disch:=omega) only [dP,d7,dU,dV])
   exact Ok.ret ⟨⟨rfl,by assumption,by omega,by rw[eY];simp;omega,i7 hs (all_cons ⟨a1,b1⟩ ee)⟩,by dsimp only;omega⟩
  ·exact Ok.ret ⟨rfl,hd3,by dsimp only;omega,hs⟩
 ·rintro⟨a,b,l',k3,s,_⟩ ⟨rfl,hd3,hs,hw⟩;exact Ok.ret ⟨_,_,rfl,hs,hw,hd3⟩
structure kG (code:List DIn) (s:List Int) (d:List (List Int)):Prop where
 sz:vN s
 len:d.length=s.length
 fit:∀(j:Nat) x n,d[j]?=some x->s[j]?=some n->(x.length:Int)<=n
 num:∀x∈d,∀w∈x,W16 w
 clen:1<=code.length/\code.length<=64
 ins:∀i∈code,iv s.length code.length i
theorem FS{code:List DIn}{s:List Int}{d:List (List Int)}{l:List Int}{k:Int}(hp:kG code s d) :
 Ok (dR fW NN ((code.length:Int),0,l,k,(),(),(),code,s,d,())) λr=>∃a b c,r=(a,b,c,l,k,(),(),(),code,s,d,()):=by
 have:=Ok.loop (f:=fW) (n:=NN) (g:=λt=>some t) (Q:=λr=>∃a b c,r=(a,b,c,l,k,(),(),(),code,s,d,())) (s:=((code.length:Int),0,l,k,(),(),(),code,s,d,()))
  (P:=λs'=>∃i:Int,s'=((code.length:Int),i,l,k,(),(),(),code,s,d,())/\0<=i/\i<=code.length) (R:=λr=>∃a b c,r=(a,b,c,l,k,(),(),(),code,s,d,())) (m:=λs=>(s.1 - s.2.1).toNat) ⟨0,rfl,by omega,by omega⟩ (by unfold NN;dsimp only;have:=hp.clen;omega) ?_ (λt ht=>Ok.ret ht)
 ·obtain⟨a,e,h⟩:=this;refine⟨a,?_,h⟩
  cases hl:dR fW NN ((code.length:Int),0,l,k,(),(),(),code,s,d,()) with
  | none=>rw[hl] at e;cases e
  | some x=>rw[hl] at e;exact e
 ·rintro _ ⟨i,rfl,hi0,hi1⟩;unfold fW;dsimp only;have hc:=hp.clen
  (with_reducible refine dF (λhcc=>?_) λhcc=>?_)
  ·refine Ok.bind (P:=λr=>r=((code.length:Int),i,l,k,(),(),(),code,s,d,())) ?_ ?_
   ·(with_reducible refine Ok.nat (by omega) (λj hj=>?_);try dsimp only)
    refine Ok.get (by omega) λx hx=>?_;have hin:=hp.ins x (dN hx);rw[wO];simp only[oBS];refine Ok.cond (λhjp=>?_) λ_=>Ok.ret rfl;refine Ok.nat (by omega) λj2 hj2=>?_;refine Ok.get (by omega) λy hy=>?_
    have hjj:j2=j:=by omega
    subst hjj;rw[hx] at hy
    injection hy with hy
    subst hy;have:=hin.jmp hjp;refine Ok.cond (λhcc=>?_) (λhcc=>?_)
    ·have h9:(x.2.2.2.2:Int)>=(code.length:Int):=of_decide_eq_true hcc;omega
    ·exact Ok.ret rfl
   ·rintro _ rfl;dsimp only
    (simp (disch:=omega) only [dP,d7,dU,dV])
    exact Ok.ret ⟨⟨i+1,rfl,by omega,by omega⟩,by dsimp only;omega⟩
  ·exact Ok.ret ⟨_,_,_,rfl⟩
theorem GK{l:List Int}{k:Int}(h:DOk l k):Ok (k8 l k) λr=>∃code s d k',r=(code,s,d,l,k',())/\kG code s d/\DOk l k':=by
 unfold k8;refine (Kq h).bind ?_;rintro _ ⟨s,k1,rfl,hs,hd⟩;obtain⟨hs1,hs4,hsz⟩:=id hs;dsimp only;delta dM
 try dsimp only
 refine Ok.loop (P:=λs'=>∃k' d,s'=((s.length:Int),(d.length:Int),l,k',(),(),(),(),s,d,())/\DOk l k'/\d.length<=s.length/\(∀(j:Nat) x n,d[j]?=some x->s[j]?=some n->(x.length:Int)<=n)/\∀x∈d,∀w∈x,W16 w)
  (R:=λr=>∃a b c k' d,r=(a,b,c,l,k',(),(),(),(),s,d,())/\DOk l k'/\d.length=s.length/\(∀(j:Nat) x n,d[j]?=some x->s[j]?=some n->(x.length:Int)<=n)/\∀x∈d,∀w∈x,W16 w)
  (m:=λs=>(s.1 - s.2.1).toNat) ⟨k1,[],rfl,hd,by simp,by simp,ee⟩ (by unfold NN;dsimp only;omega) ?_ ?_
 ·rintro _ ⟨k',d,rfl,hd',hdl,hfit,hnum⟩;unfold nW;dsimp only
  (with_reducible refine dF (λhcc=>?_) λhcc=>?_)
  ·(with_reducible refine Ok.nat (by omega) (λj hj=>?_);try dsimp only)
   refine Ok.get (by omega) λx hx=>?_;refine Ok.get (by omega) λy hy=>?_
   have hj':j=d.length:=by omega
   subst hj';have hy2:=hsz y (dN hy);refine (og hd' ⟨by omega,by omega⟩).bind ?_;rintro _ ⟨ws,k2,rfl,hwl,hww,hd2⟩;dsimp only;refine dG (dS (by simp;omega)) ?_
   (simp (disch:=omega) only [dP,d7,dU,dV])
   refine Ok.ret ⟨⟨k2,List.append d [ws],by rw[eY];simp,hd2,by rw[eY];simp;omega,?_,i7 hnum (all_cons hww ee)⟩,by dsimp only;omega⟩;intro i x n hx hn;rw[show List.append d [ws]=d++[ws] from rfl,List.getElem?_append] at hx;split at hx
   ·exact hfit i x n hx hn
   ·rename_i hge
    have:i - d.length=0:=by
     rcases Nat.eq_zero_or_pos (i - d.length) with h | h
     ·exact h
     ·rw[oGN (by simp;omega)] at hx;cases hx
    have hi:i=d.length:=by omega
    subst hi;simp at hx;subst hx;rw[hy] at hn
    injection hn with hn
    omega
  ·exact Ok.ret ⟨_,_,_,_,_,rfl,hd',by omega,hfit,hnum⟩
 rintro _ ⟨a,b,c,k2,d,rfl,hd2,hdl,hfit,hnum⟩;dsimp only
 (with_reducible refine fu (by assumption) (by omega) (by omega) (λv0 k0 a0 b0 d0=>?_);try dsimp only)
 (simp (disch:=omega) only [dP,d7,dU,dV])
 refine Ok.loop (P:=λs'=>∃i k' code,s'=(i,l,k',(),(),(),code,s,d,())/\0<=i/\i<=12/\DOk l k'/\code.length<=62/\∀i∈code,iv s.length code.length i)
  (R:=λr=>∃a b k' code,r=(a,b,l,k',(),(),(),code,s,d,())/\DOk l k'/\code.length<=62/\∀i∈code,iv s.length code.length i)
  (m:=λs=>s.1.toNat) ⟨_,_,[],rfl,by omega,by omega,d0,by simp,ee⟩ (by unfold NN;dsimp only;omega) ?_ ?_
 ·rintro _ ⟨i,k',code,rfl,hi0,hi1,hd',hcl,hins⟩;unfold nV;dsimp only
  (with_reducible refine dF (λhcc=>?_) λhcc=>?_)
  ·refine Ok.bind (P:=λr=>∃k' code,r=(i,l,k',(),(),(),code,s,d,())/\DOk l k'/\code.length<=62/\∀i∈code,iv s.length code.length i) ?_ ?_
   ·(simp (disch:=omega) only [dP,d7,dU,dV])
    refine (MY hd' hs ⟨by omega,by omega⟩).bind ?_;rintro _ ⟨xs,k3,rfl,hx1,hx6,hxs,hd3⟩;dsimp only
    (simp (disch:=omega) only [dP,d7,dU,dV])
    (with_reducible refine dF (λhcc=>?_) λhcc=>?_)
    ·refine dG (dS (by omega)) ?_;refine Ok.ret ⟨_,_,rfl,hd3,by rw[eY];omega,?_⟩;rw[eY];exact i7 (λi hi=>(hins i hi).mono (by omega)) (λi hi=>(hxs i hi).mono (by omega))
    ·exact Ok.ret ⟨_,_,rfl,hd3,hcl,hins⟩
   ·rintro _ ⟨k3,code2,rfl,hd3,hcl2,hins2⟩;dsimp only
    (simp (disch:=omega) only [dP,d7,dU,dV])
    exact Ok.ret ⟨⟨_,_,_,rfl,by omega,by omega,hd3,hcl2,hins2⟩,by dsimp only;omega⟩
  ·exact Ok.ret ⟨_,_,_,_,rfl,hd',hcl,hins⟩
 rintro _ ⟨a,b,k3,code,rfl,hd3,hcl,hins⟩;dsimp only;refine Ok.bind (P:=λr=>∃k' code,r=(l,k',(),(),(),code,s,d,())/\DOk l k'/\code.length<=63/\∀i∈code,iv s.length (code.length+1) i) ?_ ?_
 ·(with_reducible refine fu (by assumption) (by omega) (by omega) (λv1 k1 a1 b1 d1=>?_);try dsimp only)
  (with_reducible refine dF (λhcc=>?_) λhcc=>?_)
  ·(simp (disch:=omega) only [dP,d7,dU,dV])
   (with_reducible refine fu (by assumption) (by omega) (by omega) (λv2 k2 a2 b2 d2=>?_);try dsimp only)
   refine dG (dS (by simp;omega)) ?_;refine Ok.ret ⟨_,_,rfl,d2,by rw[eY];simp;omega,?_⟩;rw[eY];exact i7 (λi hi=>(hins i hi).mono (by simp;omega)) (all_cons (M8 (by omega) (by simp;omega)) ee)
  ·(with_reducible refine dF (λhcc=>?_) λhcc=>?_)
   ·refine dG (dS (by simp;omega)) ?_;refine Ok.ret ⟨_,_,rfl,d1,by rw[eY];simp;omega,?_⟩;rw[eY];exact i7 (λi hi=>(hins i hi).mono (by simp;omega)) (all_cons MO ee)
   ·exact Ok.ret ⟨_,_,rfl,d1,by omega,λi hi=>(hins i hi).mono (by omega)⟩
 rintro _ ⟨k4,code2,rfl,hd4,hcl2,hins2⟩;dsimp only
 (with_reducible refine fu (by assumption) (by omega) (by omega) (λv3 k3 a3 b3 d3=>?_);try dsimp only)
 simp only[N4,LT,oBS];refine dG (dS (by simp;omega)) ?_;simp only[eY];refine Ok.cond (λhc=>?_) λ_=>?_
 ·have hall:∀i∈List.append code2 [(1,0,0,0,v3),(23,0,0,0,0)],iv s.length (code2.length+1) i:=i7 hins2 (all_cons (Ci (by omega) (by omega)) (all_cons (vY (by omega)) ee));simp only[oDE] at hc
  have hcn:(code2.length:Int)+2 > 64:=by
   have:((code2.length + [((1:Int),(0:Int),(0:Int),(0:Int),v3),(23,0,0,0,0)].length:Nat):Int) > 64:=hc;simpa using this
  have h63:code2.length=63:=by omega
  refine dG (by rw[h63];rfl) ?_
  have hlen:(jN (List.append code2 [((1:Int),(0:Int),(0:Int),(0:Int),v3),(23,0,0,0,0)]) 0 (Nat.sub 64 0)).length=64:=by
   unfold jN;rw[oLT,List.drop_zero,eY,h63];rfl
  have hp:kG (jN (List.append code2 [((1:Int),(0:Int),(0:Int),(0:Int),v3),(23,0,0,0,0)]) 0 (Nat.sub 64 0)) s d:=by
   refine⟨hs,hdl,hfit,hnum,by rw[hlen];decide,λi hi=>?_⟩;rw[hlen];refine (hall i ?_).mono (by omega);unfold jN at hi;exact List.mem_of_mem_drop (List.mem_of_mem_take hi)
  refine (FS (l:=l) (k:=_) hp).bind ?_;rintro _ ⟨a,b,c,rfl⟩;exact Ok.ret ⟨_,_,_,_,rfl,hp,d3⟩
 ·have hp:kG (List.append code2 [(1,0,0,0,v3),(23,0,0,0,0)]) s d:=by
   refine⟨hs,hdl,hfit,hnum,?_,?_⟩
   ·rw[eY];rename_i hc;have hcn:¬ ((code2.length + [((1:Int),(0:Int),(0:Int),(0:Int),v3),(23,0,0,0,0)].length:Nat):Int) > 64:=of_decide_eq_false hc;simp only[oLC,List.length_nil] at hcn ⊢;omega
   ·rw[eY];exact i7 (λi hi=>(hins2 i hi).mono (by simp)) (all_cons (Ci (by omega) (by omega)) (all_cons (vY (by omega)) ee))
  have hf:=FS (l:=l) (k:=k3) hp;rw[eY] at hf;refine hf.bind ?_;rintro _ ⟨a,b,c,rfl⟩;exact Ok.ret ⟨_,_,_,_,rfl,hp,d3⟩
theorem F7{P:Int->Prop}{s:List Int}{i:Nat}{x:Int}(h:∀(j:Nat) y,j < i->s[j]?=some y->P y) (hx:s[i]?=some x) (hp:P x):∀(j:Nat) y,j < i+1->s[j]?=some y->P y:=by
 intro j y hj hy;by_cases hji:j=i
 ·subst hji;rw[hx] at hy
  injection hy with hy
  subst hy;exact hp
 ·exact h j y (by omega) hy
theorem DV{s:List Int}(hl:s.length<=1000):Ok (fL s) λr=>r.1=true↔vN s:=by
 unfold fL;delta dM
 try dsimp only
 obtain⟨t,e,ht⟩:=fS (f:=lK) (n:=NN) (s:=(s,s,(s.length:Int),0,())) (P:=λs'=>∃i:Nat,s'=(s,s,(s.length:Int),(i:Int),())/\i<=s.length/\∀(j:Nat) y,j < i->s[j]?=some y->1<=y/\y<=32)
  (R:=λr=>(r=.inl (false,())/\∃y∈s,¬ (1<=y/\y<=32))\/((∃a b c d,r=.inr (s,a,b,c,d,()))/\∀y∈s,1<=y/\y<=32)) (m:=λs'=>(s'.2.2.1 - s'.2.2.2.1).toNat) ⟨0,rfl,by omega,λj y hj=>by omega⟩ (by unfold NN;dsimp only;omega) (by
   rintro _ ⟨i,rfl,hi,hall⟩;unfold lK;dsimp only
   (with_reducible refine dF (λhcc=>?_) λhcc=>?_)
   ·rw[dK];simp only[oBS];refine Ok.get (by omega) λx hx=>?_
    (with_reducible refine dF (λhcd=>?_) λhcd=>?_)
    ·exact Ok.ret (.inl ⟨rfl,x,dN hx,by omega⟩)
    ·(with_reducible refine dF (λhce=>?_) λhce=>?_)
     ·exact Ok.ret (.inl ⟨rfl,x,dN hx,by omega⟩)
     ·(simp (disch:=omega) only [dP,d7,dU,dV])
      exact Ok.ret ⟨⟨i+1,rfl,by omega,F7 hall hx ⟨by omega,by omega⟩⟩,by dsimp only;omega⟩
   ·refine Ok.ret (.inr ⟨⟨_,_,_,_,rfl⟩,λy hy=>?_⟩);obtain⟨j,hj⟩:=List.getElem?_of_mem hy
    exact hall j y (by have:=(oGS hj).1;omega) hj)
 rw[e];rcases ht with ⟨rfl,y,hy,hn⟩ | ⟨⟨a,b,c,d,rfl⟩,hall⟩
 ·exact Ok.ret ⟨λh=>(by cases h),λh=>absurd (h.2.2 y hy) hn⟩
 ·dsimp only
  (with_reducible refine dF (λhcc=>?_) λhcc=>?_)
  ·exact Ok.ret ⟨λh=>⟨by omega,(by have:=of_decide_eq_true h;omega),hall⟩,λh=>oDT (by have:=h.2.1;omega)⟩
  ·exact Ok.ret ⟨λh=>(by cases h),λh=>by have:=h.1;omega⟩
abbrev VS(xs:List Int):Prop:=vN xs
theorem EM{l:List Int}{k:Nat}(h:k < l.length):l.getD k 0=l[k]:=by simp[List.getD,h]
def nQ(bs ss:List Int) (i:Nat):Prop:=
 0<=bs.getD i 0/\bs.getD i 0+ss.getD i 0<=512/\∀k,k < i->¬ (bs.getD i 0<=bs.getD k 0+ss.getD k 0/\bs.getD k 0<=bs.getD i 0+ss.getD i 0)
def LV(bs ss:List Int):Prop:=VS ss/\bs.length=ss.length/\∀i,i < bs.length->nQ bs ss i
theorem VS.at_{ss:List Int}(h:VS ss) {i:Nat}(hi:i < ss.length):1<=ss[i]/\ss[i]<=32:=h.2.2 _ (List.getElem_mem hi)
def rd(ss:List Int) (seed:Int):Nat->List Int×Int
 | 0=>(List.replicate ss.length 0,1+seed / ss.length % 50)
 | k+1=>((rd ss seed k).1.set (((k+seed) % ss.length).toNat) (rd ss seed k).2,(rd ss seed k).2+(ss.getD ((k+seed) % ss.length).toNat 0+1+seed / (50*ss.length) % 40))
def mkB(ss:List Int) (seed:Int):List Int:=(rd ss seed ss.length).1
theorem K9(ss:List Int) (seed:Int) (k:Nat):(rd ss seed k).1.length=ss.length:=by
 induction k with
 | zero=>simp[rd]
 | succ k ih=>simp[rd,ih]
theorem VS.getD{ss:List Int}(h:VS ss) {i:Nat}(hi:i < ss.length):1<=ss.getD i 0/\ss.getD i 0<=32:=by rw[EM hi];exact h.at_ hi
theorem LX{n k:Nat}{seed:Int}(hn:1<=n):0<=((k:Int)+seed) % n/\((k:Int)+seed) % n < n:=
 ⟨Int.emod_nonneg _ (by omega),Int.emod_lt_of_pos _ (by omega)⟩
theorem M2{ss:List Int}{seed:Int}(h:VS ss) (hs:0<=seed) (k:Nat):1<=(rd ss seed k).2/\(rd ss seed k).2<=50+72*k:=by
 induction k with
 | zero=>simp only[rd];have:=Int.emod_nonneg (seed / (ss.length:Int)) (show (50:Int)≠0 by decide);have:=Int.emod_lt_of_pos (seed / (ss.length:Int)) (show (0:Int) < 50 by decide);omega
 | succ k ih=>
  simp only[rd];have hr:=LX (k:=k) (seed:=seed) h.1;have:=h.getD (i:=(((k:Int)+seed) % ss.length).toNat) (by omega);have:=Int.emod_nonneg (seed / (50*(ss.length:Int))) (show (40:Int)≠0 by decide);have:=Int.emod_lt_of_pos (seed / (50*(ss.length:Int))) (show (0:Int) < 40 by decide);omega
theorem Jp{ss:List Int}(h0:1<=ss.length) (h1:ss.length<=4):(∃a,ss=[a])\/(∃a b,ss=[a,b])\/(∃a b c,ss=[a,b,c])\/(∃a b c d,ss=[a,b,c,d]):=by
 match ss,h0,h1 with
 | [a],_,_=>exact .inl ⟨a,rfl⟩
 | [a,b],_,_=>exact .inr (.inl ⟨a,b,rfl⟩)
 | [a,b,c],_,_=>exact .inr (.inr (.inl ⟨a,b,c,rfl⟩))
 | [a,b,c,d],_,_=>exact .inr (.inr (.inr ⟨a,b,c,d,rfl⟩))
theorem vz{P:Nat->Prop}(h0:P 0):∀i,i < 1->P i:=λi hi=>by
 match i,hi with
 | 0,_=>exact h0
theorem zV{P:Nat->Prop}(h0:P 0) (h1:P 1):∀i,i < 2->P i:=λi hi=>by
 match i,hi with
 | 0,_=>exact h0
 | 1,_=>exact h1
theorem Fy{P:Nat->Prop}(h0:P 0) (h1:P 1) (h2:P 2):∀i,i < 3->P i:=λi hi=>by
 match i,hi with
 | 0,_=>exact h0
 | 1,_=>exact h1
 | 2,_=>exact h2
theorem KP{P:Nat->Prop}(h0:P 0) (h1:P 1) (h2:P 2) (h3:P 3):∀i,i < 4->P i:=λi hi=>by
 match i,hi with
 | 0,_=>exact h0
 | 1,_=>exact h1
 | 2,_=>exact h2
 | 3,_=>exact h3
def Ke(b s:Int):Prop:=0<=b/\b+s<=512
def gh(b s b' s':Int):Prop:=¬ (b<=b'+s'/\b'<=b+s)
theorem LV1{a x:Int}(hv:VS [a]) (h:Ke x a):LV [x] [a]:=
 ⟨hv,rfl,vz ⟨h.1,h.2,λk hk=>by omega⟩⟩
theorem LV2{a b x y:Int}(hv:VS [a,b]) (h:Ke x a) (h':Ke y b) (h1:gh y b x a):LV [x,y] [a,b]:=
 ⟨hv,rfl,zV ⟨h.1,h.2,λk hk=>by omega⟩ ⟨h'.1,h'.2,vz h1⟩⟩
theorem LV3{a b c x y z:Int}(hv:VS [a,b,c]) (h:Ke x a) (h':Ke y b) (h'':Ke z c) (h1:gh y b x a) (h2:gh z c x a) (h3:gh z c y b):LV [x,y,z] [a,b,c]:=
 ⟨hv,rfl,Fy ⟨h.1,h.2,λk hk=>by omega⟩ ⟨h'.1,h'.2,vz h1⟩ ⟨h''.1,h''.2,zV h2 h3⟩⟩
theorem LV4{a b c d x y z u:Int}(hv:VS [a,b,c,d]) (h:Ke x a) (h':Ke y b) (h'':Ke z c) (h''':Ke u d) (h1:gh y b x a) (h2:gh z c x a) (h3:gh z c y b) (h4:gh u d x a) (h5:gh u d y b) (h6:gh u d z c):LV [x,y,z,u] [a,b,c,d]:=
 ⟨hv,rfl,KP ⟨h.1,h.2,λk hk=>by omega⟩ ⟨h'.1,h'.2,vz h1⟩ ⟨h''.1,h''.2,zV h2 h3⟩ ⟨h'''.1,h'''.2,Fy h4 h5 h6⟩⟩
theorem Ov{ss:List Int}(hv:VS ss) {seed:Int}(hs:0<=seed):LV (mkB ss seed) ss:=by
 have hv0:=hv;rcases Jp hv.1 hv.2.1 with ⟨a,rfl⟩ | ⟨a,b,rfl⟩ | ⟨a,b,c,rfl⟩ | ⟨a,b,c,d,rfl⟩
 ·obtain⟨_,_,hx⟩:=hv;have ha:=hx a (by simp)
  have e0:(((0:Nat):Int)+seed) % 1=0:=by omega
  have hB:mkB [a] seed=[1+seed / 1 % 50]:=by simp[mkB,rd,List.replicate]
  rw[hB];exact LV1 hv0 ⟨by omega,by omega⟩
 ·obtain⟨_,_,hx⟩:=hv;have ha:=hx a (by simp);have hb:=hx b (by simp);rcases (show seed % 2=0\/seed % 2=1 by omega) with ht | ht
  ·have e1:(1+seed) % 2=1:=by omega
   simp only[mkB,rd,oLC,List.length_nil,List.replicate];simp[ht,e1];exact LV2 hv0 ⟨by omega,by omega⟩ ⟨by omega,by omega⟩ (by unfold gh;omega)
  ·have e1:(1+seed) % 2=0:=by omega
   simp only[mkB,rd,oLC,List.length_nil,List.replicate];simp[ht,e1];exact LV2 hv0 ⟨by omega,by omega⟩ ⟨by omega,by omega⟩ (by unfold gh;omega)
 ·obtain⟨_,_,hx⟩:=hv;have ha:=hx a (by simp);have hb:=hx b (by simp);have hc:=hx c (by simp);rcases (show seed % 3=0\/seed % 3=1\/seed % 3=2 by omega) with ht | ht | ht
  ·have e1:(1+seed) % 3=1:=by omega
   have e2:(2+seed) % 3=2:=by omega
   simp only[mkB,rd,oLC,List.length_nil,List.replicate];simp[ht,e1,e2];exact LV3 hv0 ⟨by omega,by omega⟩ ⟨by omega,by omega⟩ ⟨by omega,by omega⟩ (by unfold gh;omega) (by unfold gh;omega) (by unfold gh;omega)
  ·have e1:(1+seed) % 3=2:=by omega
   have e2:(2+seed) % 3=0:=by omega
   simp only[mkB,rd,oLC,List.length_nil,List.replicate];simp[ht,e1,e2];exact LV3 hv0 ⟨by omega,by omega⟩ ⟨by omega,by omega⟩ ⟨by omega,by omega⟩ (by unfold gh;omega) (by unfold gh;omega) (by unfold gh;omega)
  ·have e1:(1+seed) % 3=0:=by omega
   have e2:(2+seed) % 3=1:=by omega
   simp only[mkB,rd,oLC,List.length_nil,List.replicate];simp[ht,e1,e2];exact LV3 hv0 ⟨by omega,by omega⟩ ⟨by omega,by omega⟩ ⟨by omega,by omega⟩ (by unfold gh;omega) (by unfold gh;omega) (by unfold gh;omega)
 ·obtain⟨_,_,hx⟩:=hv;have ha:=hx a (by simp);have hb:=hx b (by simp);have hc:=hx c (by simp);have hd:=hx d (by simp)
  have hq:∀q g:Int,q=1+seed / 4 % 50->g=seed / (50*4) % 40->1<=q/\q<=50/\0<=g/\g < 40:=λq g e e'=>by subst e;subst e';omega
  rcases (show seed % 4=0\/seed % 4=1\/seed % 4=2\/seed % 4=3 by omega) with ht | ht | ht | ht
  ·have e1:(1+seed) % 4=1:=by omega
   have e2:(2+seed) % 4=2:=by omega
   have e3:(3+seed) % 4=3:=by omega
   simp only[mkB,rd,oLC,List.length_nil,List.replicate];simp[ht,e1,e2,e3];exact LV4 hv0 ⟨by omega,by omega⟩ ⟨by omega,by omega⟩ ⟨by omega,by omega⟩ ⟨by omega,by omega⟩ (by unfold gh;omega) (by unfold gh;omega) (by unfold gh;omega) (by unfold gh;omega) (by unfold gh;omega) (by unfold gh;omega)
  ·have e1:(1+seed) % 4=2:=by omega
   have e2:(2+seed) % 4=3:=by omega
   have e3:(3+seed) % 4=0:=by omega
   simp only[mkB,rd,oLC,List.length_nil,List.replicate];simp[ht,e1,e2,e3];exact LV4 hv0 ⟨by omega,by omega⟩ ⟨by omega,by omega⟩ ⟨by omega,by omega⟩ ⟨by omega,by omega⟩ (by unfold gh;omega) (by unfold gh;omega) (by unfold gh;omega) (by unfold gh;omega) (by unfold gh;omega) (by unfold gh;omega)
  ·have e1:(1+seed) % 4=3:=by omega
   have e2:(2+seed) % 4=0:=by omega
   have e3:(3+seed) % 4=1:=by omega
   simp only[mkB,rd,oLC,List.length_nil,List.replicate];simp[ht,e1,e2,e3];exact LV4 hv0 ⟨by omega,by omega⟩ ⟨by omega,by omega⟩ ⟨by omega,by omega⟩ ⟨by omega,by omega⟩ (by unfold gh;omega) (by unfold gh;omega) (by unfold gh;omega) (by unfold gh;omega) (by unfold gh;omega) (by unfold gh;omega)
  ·have e1:(1+seed) % 4=0:=by omega
   have e2:(2+seed) % 4=1:=by omega
   have e3:(3+seed) % 4=2:=by omega
   simp only[mkB,rd,oLC,List.length_nil,List.replicate];simp[ht,e1,e2,e3];exact LV4 hv0 ⟨by omega,by omega⟩ ⟨by omega,by omega⟩ ⟨by omega,by omega⟩ ⟨by omega,by omega⟩ (by unfold gh;omega) (by unfold gh;omega) (by unfold gh;omega) (by unfold gh;omega) (by unfold gh;omega) (by unfold gh;omega)
theorem zq{α:Type}(l:List α) (i:Nat) (a:α):List.modify l i (λ_=>a)=l.set i a:=by
 apply List.ext_getElem?;intro j;rw[List.getElem?_modify,List.getElem?_set];by_cases h:i=j
 ·subst h;simp only[if_true];by_cases hl:i < l.length
  ·simp[hl]
  ·simp[hl,oGN (Nat.le_of_not_lt hl)]
 ·simp[h]
theorem M5{s:List Int}{seed:Int}(hs:vN s) (h0:0<=seed) (h1:seed<=1073741824):Ok (nu s seed) λr=>∃key,r=(mkB s seed,key,0,())/\W16 key:=by
 obtain⟨hs1,hs4,hsz⟩:=id hs;unfold nu;delta dM
 try dsimp only
 refine Ok.bind (P:=λr=>r=(s,seed,false,(),0,())) ?_ ?_
 ·refine (DV (by omega)).bind ?_;rintro⟨v,_⟩ hv;have hv:v=true:=hv.2 hs;subst hv;simp only[oNT,oCF]
  (with_reducible refine dF (λhcb=>?_) λhcb=>?_)
  ·omega
  ·exact Ok.ret (by rw[oDF (by omega)])
 rintro _ rfl;dsimp only;refine Ok.cond (λh=>by cases h) λ_=>?_;rw[dK];simp only[oBS];refine dG (by unfold nL;rw[oBA];exact⟨oDT rfl,oDT (by omega)⟩) ?_;refine dG (by rw[bne_iff_ne];omega) ?_;have hd1:Int.tdiv seed s.length=seed / s.length:=Int.tdiv_eq_ediv_of_nonneg h0;have hq:0<=seed / (s.length:Int)/\seed / (s.length:Int)<=seed:=⟨Int.ediv_nonneg h0 (by omega),Int.ediv_le_self _ h0⟩;have hm1:Int.tmod (seed / (s.length:Int)) 50=seed / (s.length:Int) % 50:=Int.tmod_eq_emod_of_nonneg hq.1
 have hm2:0<=seed / (s.length:Int) % 50/\seed / (s.length:Int) % 50 < 50:=by omega
 rw[hd1,dP (x:=seed / (s.length:Int)) (by omega) (by omega),hm1,dP (x:=1+seed / (s.length:Int) % 50) (by omega) (by omega)]
 have hkey:W16 (wk .u16 (w64 (40503*seed))):=by
  unfold wk;rw[zM];exact⟨by omega,by omega⟩
 generalize wk .u16 (w64 (40503*seed))=key at hkey
 refine Ok.loop (P:=λs'=>∃k:Nat,s'=(s,seed,(s.length:Int),(rd s seed k).2,(s.length:Int),(k:Int),(),0,(rd s seed k).1,key,())/\k<=s.length) (R:=λr=>∃a b c d e f g h,r=(a,b,c,d,e,f,g,(),h,(rd s seed s.length).1,key,()))
  (m:=λs'=>(s'.2.2.2.2.1 - s'.2.2.2.2.2.1).toNat) ⟨0,rfl,by omega⟩ (by unfold NN;dsimp only;omega) ?_ ?_
 ·rintro _ ⟨k,rfl,hk⟩;unfold pH;dsimp only;have hb:=M2 hs h0 k
  (with_reducible refine dF (λhcc=>?_) λhcc=>?_)
  ·have hr:=LX (k:=k) (seed:=seed) hs1;rw[dP (x:=(k:Int)+seed) (by omega) (by omega)];refine dG (by rw[bne_iff_ne];omega) ?_;rw[Int.tmod_eq_emod_of_nonneg (show 0<=(k:Int)+seed by omega)];refine Ok.nat hr.1 λr hrr=>?_;have hl:=K9 s seed k;refine Ok.get (by omega) λx hx=>?_;refine Ok.get (by omega) λy hy=>?_;refine Ok.nat hr.1 λr2 hrr2=>?_
   have:r2=r:=by omega
   subst this;refine Ok.get (by omega) λz hz=>?_;have hz2:=hsz z (dN hz);rw[dP (x:=z+1) (by omega) (by omega),dP (x:=50*(s.length:Int)) (by omega) (by omega)];refine dG (by rw[bne_iff_ne];omega) ?_;have hd2:Int.tdiv seed (50*(s.length:Int))=seed / (50*s.length):=Int.tdiv_eq_ediv_of_nonneg h0;have hq2:0<=seed / (50*(s.length:Int))/\seed / (50*(s.length:Int))<=seed:=⟨Int.ediv_nonneg h0 (by omega),Int.ediv_le_self _ h0⟩;have hm3:Int.tmod (seed / (50*(s.length:Int))) 40=seed / (50*s.length) % 40:=Int.tmod_eq_emod_of_nonneg hq2.1;rw[hd2,dP (x:=seed / (50*(s.length:Int))) (by omega) (by omega),hm3];generalize hg:seed / (50*(s.length:Int)) % 40=g
   have hg2:0<=g/\g < 40:=by omega
   rw[dP (x:=z+1+g) (by omega) (by omega),dP (x:=(rd s seed k).2+(z+1+g)) (by omega) (by omega),dP (x:=(k:Int)+1) (by omega) (by omega),zq]
   have e1:(rd s seed (k+1)).1=(rd s seed k).1.set r2 (rd s seed k).2:=by
    simp only[rd];rw[hrr];rfl
   have e2:(rd s seed (k+1)).2=(rd s seed k).2+(z+1+g):=by
    simp only[rd];rw[hrr,hg,oTN,oGD,hz];rfl
   refine Ok.ret ⟨⟨k+1,?_,by omega⟩,by dsimp only;omega⟩;rw[e1,e2];rfl
  ·have:k=s.length:=by omega
   subst this;exact Ok.ret ⟨_,_,_,_,_,_,_,_,rfl⟩
 ·rintro _ ⟨a,b,c,d,e,f,g,h,rfl⟩;exact Ok.ret ⟨key,rfl,hkey⟩
theorem my{S T:Type}{f:S->Option (S⊕T)}(st:Nat->S) {n N:Nat}{t:T}(hn:n < N) (h:∀i,i < n->Ok (f (st i)) (·=.inl (st (i+1)))) (he:Ok (f (st n)) (·=.inr t)):dR f N (st 0)=some t:=by
 have key:∀k i,i+k=n->∀N,k < N->dR f N (st i)=some t:=by
  intro k
  induction k with
  | zero=>
   intro i hi N hN;obtain⟨x,e,hx⟩:=he
   have:i=n:=by omega
   subst this;obtain⟨N',rfl⟩:∃N',N=N'+1:=⟨N - 1,by omega⟩;simp only[dR,e,hx,oBS]
  | succ k ih=>
   intro i hi N hN;obtain⟨x,e,hx⟩:=h i (by omega);obtain⟨N',rfl⟩:∃N',N=N'+1:=⟨N - 1,by omega⟩;simp only[dR,e,hx,oBS];exact ih (i+1) (by omega) N' (by omega)
 exact key n 0 (by omega) N hn
theorem eV{α:Type}{o:Option α}{a:α}(h:Ok o (·=a)):o=some a:=by
 obtain⟨x,e,rfl⟩:=h;exact e
theorem dW{l:List Int}{k:Nat}{x:Int}(h:l[k]?=some x):l.getD k 0=x:=by rw[oGD,h];rfl
theorem yX{s:List Int}(h:vN s):fL s=some (true,()):=by
 obtain⟨⟨v,u⟩,e,hv⟩:=DV (s:=s) (by have:=h.2.1;omega);have hv:v=true:=hv.2 h;rw[e,hv]
theorem qy{bs ss:List Int}{key:Int}(h:LV bs ss):fK bs key ss=some (true,()):=by
 obtain⟨hs,hl,hr⟩:=h;have h4:=hs.2.1;unfold fK;rw[yX hs];delta dM;simp only[oBS,oNT,oCF,hl,bne_self_eq_false]
 have e:dR ff NN (ss,bs,(ss.length:Int),0,bs,key,())=some (.inr (ss,bs,(ss.length:Int),(ss.length:Int),false,bs,key,())):=by
  refine my (st:=λi=>(ss,bs,(ss.length:Int),(i:Int),bs,key,())) (n:=ss.length) (by unfold NN;omega) ?_ ?_
  ·intro i hi;unfold ff;dsimp only;have hri:=hr i (by omega);unfold nQ at hri
   (with_reducible refine dF (λhca=>?_) λhca=>?_)
   ·rw[dK];simp only[oBS];refine Ok.get (by omega) λb hb=>?_;rw[dW hb] at hri
    (with_reducible refine dF (λhcb=>?_) λhcb=>?_)
    ·omega
    ·refine Ok.get (by omega) λz hz=>?_;rw[dW hz] at hri;have hz2:=hs.2.2 z (dN hz)
     (simp (disch:=omega) only [dP,d7,dU,dV])
     (with_reducible refine dF (λhcc=>?_) λhcc=>?_)
     ·omega
     ·refine dG (by unfold gS;simp;omega) ?_
      have hwl:(jN bs 0 (Nat.sub i 0)).length=i:=by unfold jN;rw[oLT,List.drop_zero];show min i _=i;omega
      rw[hwl]
      have e:dR fh NN (ss,(i:Int),b,bs,(ss.length:Int),(i:Int),jN bs 0 (Nat.sub i 0),(i:Int),0,bs,key,())=some (.inr (ss,(i:Int),b,bs,(ss.length:Int),(i:Int),jN bs 0 (Nat.sub i 0),(i:Int),(i:Int),false,bs,key,())):=by
       refine my (st:=λj=>(ss,(i:Int),b,bs,(ss.length:Int),(i:Int),jN bs 0 (Nat.sub i 0),(i:Int),(j:Int),bs,key,())) (n:=i) (by unfold NN;omega) ?_ ?_
       ·intro j hj;unfold fh;dsimp only
        (with_reducible refine dF (λhca=>?_) λhca=>?_)
        ·rw[dK,dK];simp only[oBS]
         have hx:(dI (jN bs 0 (Nat.sub i 0)) j)=bs[j]?:=by
          unfold dI jN;rw[List.getElem?_take,List.drop_zero];exact oIP hj
         rw[hx];obtain⟨c,hc⟩:∃c,bs[j]?=some c:=⟨_,oGE (by omega)⟩;obtain⟨y,hy⟩:∃y,ss[j]?=some y:=⟨_,oGE (by omega)⟩;have hy2:=hs.2.2 y (dN hy);have hz':dI ss i=some z:=hz;have hy':dI ss j=some y:=hy;rw[hc,hz',hy'];simp only[oBS];have hrj:=(hr j (by omega)).1;have hrj2:=(hr j (by omega)).2.1;rw[dW hc] at hrj hrj2;rw[dW hy] at hrj2;have hap:=hri.2.2 j hj;rw[dW hc,dW hy] at hap;rw[dP (x:=b+z) (by omega) (by omega),dP (x:=c+y) (by omega) (by omega)];by_cases h1:b+z>=c
         ·have h2:¬ c+y>=b:=by omega
          simp only[h1,h2,decide_true,decide_false,oCT,oCF]
          (simp (disch:=omega) only [dP,d7,dU,dV])
          exact Ok.ret rfl
         ·simp only[h1,decide_false,oCF]
          (simp (disch:=omega) only [dP,d7,dU,dV])
          exact Ok.ret rfl
        ·omega
       ·unfold fh;dsimp only
        (with_reducible refine dF (λhca=>?_) λhca=>?_)
        ·omega
        ·exact Ok.ret rfl
      rw[e]
      (simp (disch:=omega) only [dP,d7,dU,dV])
      exact Ok.ret rfl
   ·omega
  ·unfold ff;dsimp only
   (with_reducible refine dF (λhca=>?_) λhca=>?_)
   ·omega
   ·exact Ok.ret rfl
 rw[e]
theorem IG{S T:Type}{f:S->Option (S⊕T)}(st:Nat->S) {n N:Nat}{bad good:T}(p:Nat->Prop) (hn:n < N)
 (h:∀i,i < n->(∀j,j < i->p j)->(p i/\f (st i)=some (.inl (st (i+1))))\/(¬ p i/\f (st i)=some (.inr bad))) (he:f (st n)=some (.inr good)) :
 ((∀i,i < n->p i)/\dR f N (st 0)=some good)\/((¬ ∀i,i < n->p i)/\dR f N (st 0)=some bad):=by
 have key:∀k i,i+k=n->(∀j,j < i->p j)->∀N,k < N->((∀i,i < n->p i)/\dR f N (st i)=some good)\/((¬ ∀i,i < n->p i)/\dR f N (st i)=some bad):=by
  intro k
  induction k with
  | zero=>
   intro i hi hp N hN
   obtain rfl:i=n:=by omega
   obtain⟨N',rfl⟩:∃N',N=N'+1:=⟨N - 1,by omega⟩;exact .inl ⟨hp,by simp only[dR,he,oBS]⟩
  | succ k ih=>
   intro i hi hp N hN;obtain⟨N',rfl⟩:∃N',N=N'+1:=⟨N - 1,by omega⟩;rcases h i (by omega) hp with ⟨hpi,e⟩ | ⟨hpi,e⟩
   ·simp only[dR,e,oBS];refine ih (i+1) (by omega) (λj hj=>?_) N' (by omega);by_cases hji:j=i
    ·rw[hji];exact hpi
    ·exact hp j (by omega)
   ·exact .inr ⟨λg=>hpi (g i (by omega)),by simp only[dR,e,oBS]⟩
 exact key n 0 (by omega) (λj hj=>by omega) N hn
def DN(o:Option (Bool×Unit)) (p:Prop):Prop:=(p/\o=some (true,()))\/(¬ p/\o=some (false,()))
theorem DN.val{o:Option (Bool×Unit)}{p:Prop}(h:DN o p):∃b,o=some (b,())/\(b=true↔p):=by
 rcases h with ⟨h,e⟩ | ⟨h,e⟩
 ·exact⟨_,e,λ_=>h,λ_=>rfl⟩
 ·exact⟨_,e,λg=>(by cases g),λg=>absurd g h⟩
theorem DN.same{o o':Option (Bool×Unit)}{p:Prop}(h:DN o p) (h':DN o' p):o=o':=by
 rcases h with ⟨h,e⟩ | ⟨h,e⟩<;>rcases h' with ⟨h',e'⟩ | ⟨h',e'⟩
 ·rw[e,e']
 ·exact absurd h h'
 ·exact absurd h' h
 ·rw[e,e']
theorem H5{ss:List Int}(h:ss.length<=1000):DN (fL ss) (vN ss):=by
 obtain⟨⟨v,u⟩,e,hv⟩:=DV h
 cases v with
 | true=>exact .inl ⟨hv.1 rfl,e⟩
 | false=>exact .inr ⟨λg=>(by cases hv.2 g),e⟩
theorem N6{bs ss:List Int}{key:Int}(hb:bs.length<=1000) (hs:ss.length<=1000) (hi:∀b∈bs,vg b):DN (fK bs key ss) (LV bs ss):=by
 unfold fK;rcases H5 hs with ⟨hz,e⟩ | ⟨hz,e⟩
 rotate_left
 ·rw[e];exact .inr ⟨λh=>hz h.1,rfl⟩
 rw[e];delta dM;simp only[oBS,oNT,oCF];by_cases hl:(bs.length:Int)=ss.length
 rotate_left
 ·rw[bne_iff_ne.2 hl];exact .inr ⟨λh=>hl (by rw[h.2.1]),rfl⟩
 rw[bne_eq_false_iff_eq.2 hl];have h4:=hz.2.1
 have key0:=IG (f:=ff) (N:=NN) (bad:=.inl (false,())) (good:=.inr (ss,bs,(bs.length:Int),(bs.length:Int),false,bs,key,())) (λi=>(ss,bs,(bs.length:Int),(i:Int),bs,key,())) (n:=bs.length) (λi=>nQ bs ss i) (by unfold NN;omega) (λi hi' hpre=>by
  obtain⟨b,hgb⟩:∃b,bs[i]?=some b:=⟨_,oGE hi'⟩;obtain⟨z,hgz⟩:∃z,ss[i]?=some z:=⟨_,oGE (by omega)⟩;have hz2:=hz.2.2 z (dN hgz);have hb64:=hi b (dN hgb);unfold vg at hb64;unfold ff;delta dM;dsimp only;rw[oDT (show (i:Int) < bs.length by omega),dK];simp only[oCT,oBS,show dI bs i=some b from hgb,show dI ss i=some z from hgz];rw[dP (x:=512 - z) (by omega) (by omega)];by_cases h0:b < 0
  ·rw[oDT h0];exact .inr ⟨λh=>by unfold nQ at h;rw[dW hgb] at h;omega,rfl⟩
  rw[oDF h0];by_cases h1:b > 512 - z
  ·rw[oDT h1];exact .inr ⟨λh=>by unfold nQ at h;rw[dW hgb,dW hgz] at h;omega,rfl⟩
  rw[oDF h1]
  have hwl:(jN bs 0 (Nat.sub i 0)).length=i:=by unfold jN;rw[oLT,List.drop_zero];show min i _=i;omega
  rw[show gS 0 i bs.length=true by unfold gS;simp;omega,hwl];simp only[oCT,oCF]
  rcases IG (f:=fh) (N:=NN) (bad:=.inl (false,())) (good:=.inr (ss,(i:Int),b,bs,(bs.length:Int),(i:Int),jN bs 0 (Nat.sub i 0),(i:Int),(i:Int),false,bs,key,())) (λj=>(ss,(i:Int),b,bs,(bs.length:Int),(i:Int),jN bs 0 (Nat.sub i 0),(i:Int),(j:Int),bs,key,())) (n:=i) (λk=>¬ (bs.getD i 0<=bs.getD k 0+ss.getD k 0/\bs.getD k 0<=bs.getD i 0+ss.getD i 0)) (by unfold NN;omega) (λj hj _=>by
   obtain⟨c,hgc⟩:∃c,bs[j]?=some c:=⟨_,oGE (by omega)⟩;obtain⟨y,hgy⟩:∃y,ss[j]?=some y:=⟨_,oGE (by omega)⟩;have hy2:=hz.2.2 y (dN hgy);have hc:=hpre j hj;unfold nQ at hc;rw[dW hgc,dW hgy] at hc
   have hx:(dI (jN bs 0 (Nat.sub i 0)) j)=some c:=by
    unfold dI jN;rw[List.getElem?_take,List.drop_zero,<- hgc];exact oIP hj
   unfold fh;dsimp only;rw[oDT (show (j:Int) < i by omega),dK,dK];simp only[oCT,oBS,hx,show dI ss j=some y from hgy,show dI ss i=some z from hgz];rw[dP (x:=b+z) (by omega) (by omega),dP (x:=c+y) (by omega) (by omega),dW hgb,dW hgz,dW hgc,dW hgy];by_cases g1:b+z>=c
   ·rw[oDT g1];by_cases g2:c+y>=b
    ·rw[oDT g2];exact .inr ⟨λh=>h ⟨by omega,by omega⟩,rfl⟩
    ·rw[oDF g2];simp only[oCT,oCF];rw[dP (x:=(j:Int)+1) (by omega) (by omega)];exact .inl ⟨λh=>g2 (by omega),rfl⟩
   ·rw[oDF g1];simp only[oCT,oCF];rw[dP (x:=(j:Int)+1) (by omega) (by omega)]
    exact .inl ⟨λh=>g1 (by omega),rfl⟩) (by
   unfold fh;dsimp only;rw[oDF (show ¬ (i:Int) < i by omega)]
   rfl) with ⟨hp,e⟩ | ⟨hp,e⟩
  ·rw[show dR fh NN (ss,(i:Int),b,bs,(bs.length:Int),(i:Int),jN bs 0 (Nat.sub i 0),(i:Int),0,bs,key,())=_ from e];dsimp only;rw[dP (x:=(i:Int)+1) (by omega) (by omega)];refine .inl ⟨⟨?_,?_,hp⟩,rfl⟩
   ·rw[dW hgb];omega
   ·rw[dW hgb,dW hgz];omega
  ·rw[show dR fh NN (ss,(i:Int),b,bs,(bs.length:Int),(i:Int),jN bs 0 (Nat.sub i 0),(i:Int),0,bs,key,())=_ from e]
   exact .inr ⟨λh=>hp h.2.2,rfl⟩) (by
  unfold ff;dsimp only;rw[oDF (show ¬ (bs.length:Int) < bs.length by omega)]
  rfl)
 simp only[oCF];rcases key0 with ⟨hp,e⟩ | ⟨hp,e⟩
 ·rw[show dR ff NN (ss,bs,(bs.length:Int),0,bs,key,())=_ from e];exact .inl ⟨⟨hz,by omega,hp⟩,rfl⟩
 ·rw[show dR ff NN (ss,bs,(bs.length:Int),0,bs,key,())=_ from e];exact .inr ⟨λh=>hp h.2.2,rfl⟩
theorem IQ:nJ=fL:=rfl
theorem Pf{bs ss:List Int}{key:Int}(hb:bs.length<=1000) (hs:ss.length<=1000) (hi:∀b∈bs,vg b):DN (kY bs key ss) (LV bs ss):=by
 unfold kY;rw[IQ];rcases H5 hs with ⟨hz,e⟩ | ⟨hz,e⟩
 rotate_left
 ·rw[e];exact .inr ⟨λh=>hz h.1,rfl⟩
 rw[e];delta dM;simp only[oBS,oNT,oCF];by_cases hl:(bs.length:Int)=ss.length
 rotate_left
 ·rw[bne_iff_ne.2 hl];exact .inr ⟨λh=>hl (by rw[h.2.1]),rfl⟩
 rw[bne_eq_false_iff_eq.2 hl];have h4:=hz.2.1
 have key0:=IG (f:=fU) (N:=NN) (bad:=.inl (false,())) (good:=.inr (ss,bs,(bs.length:Int),(bs.length:Int),false,bs,key,())) (λi=>(ss,bs,(bs.length:Int),(i:Int),bs,key,())) (n:=bs.length) (λi=>nQ bs ss i) (by unfold NN;omega) (λi hi' hpre=>by
  obtain⟨b,hgb⟩:∃b,bs[i]?=some b:=⟨_,oGE hi'⟩;obtain⟨z,hgz⟩:∃z,ss[i]?=some z:=⟨_,oGE (by omega)⟩;have hz2:=hz.2.2 z (dN hgz);have hb64:=hi b (dN hgb);unfold vg at hb64;unfold fU;dsimp only;rw[oDT (show (i:Int) < bs.length by omega),dK];simp only[oCT,oBS,show dI bs i=some b from hgb,show dI ss i=some z from hgz];by_cases h0:b < 0
  ·rw[oDT h0];exact .inr ⟨λh=>by unfold nQ at h;rw[dW hgb] at h;omega,rfl⟩
  rw[oDF h0];by_cases h1:b>=512
  ·rw[oDT h1];exact .inr ⟨λh=>by unfold nQ at h;rw[dW hgb,dW hgz] at h;omega,rfl⟩
  rw[oDF h1,dP (x:=b+z) (by omega) (by omega)];by_cases h2:b+z > 512
  ·rw[oDT h2];exact .inr ⟨λh=>by unfold nQ at h;rw[dW hgb,dW hgz] at h;omega,rfl⟩
  rw[oDF h2];simp only[oCF,oBS]
  rcases IG (f:=fV) (N:=NN) (bad:=.inl (false,())) (good:=.inr (ss,(i:Int),b,bs,(bs.length:Int),(i:Int),(i:Int),(i:Int),false,bs,key,())) (λj=>(ss,(i:Int),b,bs,(bs.length:Int),(i:Int),(i:Int),(j:Int),bs,key,())) (n:=i) (λk=>¬ (bs.getD i 0<=bs.getD k 0+ss.getD k 0/\bs.getD k 0<=bs.getD i 0+ss.getD i 0)) (by unfold NN;omega) (λj hj _=>by
   obtain⟨c,hgc⟩:∃c,bs[j]?=some c:=⟨_,oGE (by omega)⟩;obtain⟨y,hgy⟩:∃y,ss[j]?=some y:=⟨_,oGE (by omega)⟩;have hy2:=hz.2.2 y (dN hgy);have hc:=hpre j hj;unfold nQ at hc;rw[dW hgc,dW hgy] at hc;unfold fV;dsimp only;rw[oDT (show (j:Int) < i by omega),dK,dK];simp only[oCT,oBS,show dI bs j=some c from hgc,show dI ss j=some y from hgy,show dI ss i=some z from hgz];rw[dP (x:=b+z) (by omega) (by omega),dP (x:=c+y) (by omega) (by omega),dW hgb,dW hgz,dW hgc,dW hgy];by_cases g1:b<=c+y
   ·rw[oDT g1];by_cases g2:c<=b+z
    ·rw[oDT g2];exact .inr ⟨λh=>h ⟨by omega,by omega⟩,rfl⟩
    ·rw[oDF g2];simp only[oCT,oCF];rw[dP (x:=(j:Int)+1) (by omega) (by omega)];exact .inl ⟨λh=>g2 (by omega),rfl⟩
   ·rw[oDF g1];simp only[oCT,oCF];rw[dP (x:=(j:Int)+1) (by omega) (by omega)]
    exact .inl ⟨λh=>g1 (by omega),rfl⟩) (by
   unfold fV;dsimp only;rw[oDF (show ¬ (i:Int) < i by omega)]
   rfl) with ⟨hp,e⟩ | ⟨hp,e⟩
  ·rw[show dR fV NN (ss,(i:Int),b,bs,(bs.length:Int),(i:Int),(i:Int),0,bs,key,())=_ from e];dsimp only;rw[dP (x:=(i:Int)+1) (by omega) (by omega)];refine .inl ⟨⟨?_,?_,hp⟩,rfl⟩
   ·rw[dW hgb];omega
   ·rw[dW hgb,dW hgz];omega
  ·rw[show dR fV NN (ss,(i:Int),b,bs,(bs.length:Int),(i:Int),(i:Int),0,bs,key,())=_ from e]
   exact .inr ⟨λh=>hp h.2.2,rfl⟩) (by
  unfold fU;dsimp only;rw[oDF (show ¬ (bs.length:Int) < bs.length by omega)]
  rfl)
 simp only[oCF];rcases key0 with ⟨hp,e⟩ | ⟨hp,e⟩
 ·rw[show dR fU NN (ss,bs,(bs.length:Int),0,bs,key,())=_ from e];exact .inl ⟨⟨hz,by omega,hp⟩,rfl⟩
 ·rw[show dR fU NN (ss,bs,(bs.length:Int),0,bs,key,())=_ from e];exact .inr ⟨λh=>hp h.2.2,rfl⟩
theorem JA{n m o a b c i:Int}(h:iv n m (o,a,b,c,i)) (hn:n<=4) (hm:m<=64):l7 o a b c i=some (true,()):=by
 obtain⟨⟨o0,o1⟩,⟨a0,a1,a2⟩,⟨b0,b1,b2⟩,⟨c0,c1,c2⟩,⟨i0,i1,i2⟩,hl,hs,hj⟩:=h;dsimp only at *
 have step:∀(k:Nat) (x:Int) (u:Bool),k < 3->[a,b,c][k]?=some x->(k=0->u=oo o)->(k=1->u=om o)->(k=2->u=ol o)->0<=x->x < 8->(u=false->x=0) ->
  Ok (jv (3,(k:Int),o,a,b,c,i,oo o,om o,ol o,oj o,[a,b,c],())) (·=.inl (3,((k+1:Nat):Int),o,a,b,c,i,oo o,om o,ol o,oj o,[a,b,c],())):=by
  intro k x u hk hx h0 h1 h2 hx0 hx1 hx2;unfold jv;dsimp only
  (with_reducible refine dF (λhca=>?_) λhca=>?_)
  ·rw[dK];simp only[oBS];rw[show dI [a,b,c] k=some x from hx];simp only[oBS];rw[oDF (show ¬ x < 0 by omega),oDF (show ¬ x>=8 by omega)];simp only[oCF];have fin:Ok (some ((3:Int),(k:Int),false,o,a,b,c,i,oo o,om o,ol o,oj o,[a,b,c],())) (·=((3:Int),(k:Int),false,o,a,b,c,i,oo o,om o,ol o,oj o,[a,b,c],())):=Ok.ret rfl
   have fin2:u=false->(x != 0)=false:=λh=>by rw[hx2 h];rfl
   refine Ok.bind (P:=(·=((3:Int),(k:Int),false,o,a,b,c,i,oo o,om o,ol o,oj o,[a,b,c],()))) ?_ ?_
   ·rcases (show k=0\/k=1\/k=2 by omega) with rfl | rfl | rfl
    ·rw[<- h0 rfl] at fin ⊢;refine dG rfl ?_;refine Ok.cond (λhu=>?_) λ_=>fin;rw[fin2 (by simpa using hu)];exact fin
    ·rw[<- h1 rfl] at fin ⊢;refine Ok.cond (λhu=>by cases hu) λ_=>dG rfl (Ok.cond (λhu=>?_) λ_=>fin);rw[fin2 (by simpa using hu)];exact fin
    ·rw[<- h2 rfl] at fin ⊢;refine Ok.cond (λhu=>by cases hu) λ_=>Ok.cond (λhu=>by cases hu) λ_=>dG rfl (Ok.cond (λhu=>?_) λ_=>fin);rw[fin2 (by simpa using hu)];exact fin
   ·rintro _ rfl;dsimp only;rw[dP (x:=(k:Int)+1) (by omega) (by omega)];exact Ok.ret rfl
  ·omega
 have e:dR jv NN (3,0,o,a,b,c,i,oo o,om o,ol o,oj o,[a,b,c],())=some (.inr (3,3,false,o,a,b,c,i,oo o,om o,ol o,oj o,[a,b,c],())):=by
  refine my (st:=λk=>(3,(k:Int),o,a,b,c,i,oo o,om o,ol o,oj o,[a,b,c],())) (n:=3) (by unfold NN;omega) ?_ ?_
  ·intro k hk;rcases (show k=0\/k=1\/k=2 by omega) with rfl | rfl | rfl
   ·exact step 0 a _ (by omega) rfl (λ_=>rfl) (by omega) (by omega) a0 a1 a2
   ·exact step 1 b _ (by omega) rfl (by omega) (λ_=>rfl) (by omega) b0 b1 b2
   ·exact step 2 c _ (by omega) rfl (by omega) (by omega) (λ_=>rfl) c0 c1 c2
  ·exact Ok.ret rfl
 refine eV ?_;unfold l7;rw[oDF (show ¬ o < 0 by omega),oDF (show ¬ o > 24 by omega),HW o0 o1];simp only[oCF,oBS];rw[show dM [a,b,c].length=3 from rfl,e];dsimp only;rw[oDF (show ¬ i < 0 by omega),oDF (show ¬ i > 65535 by omega)];simp only[oCF];refine Ok.bind (P:=(·=(false,o,a,b,c,i,()))) ?_ ?_
 ·refine Ok.cond (λhu=>?_) λ_=>Ok.ret rfl;exact Ok.ret (by rw[i2 (by simpa using hu)];rfl)
 rintro _ rfl;dsimp only;rw[wO];simp only[oCF,oBS];refine Ok.cond (λhu=>?_) λ_=>?_
 ·exact Ok.ret (by rw[oDT (by have:=hj hu;omega)])
 ·(with_reducible refine dF (λhcc=>?_) λhcc=>?_)
  ·exact Ok.ret (by rw[oDT (by have:=hl hcc;omega)])
  ·(with_reducible refine dF (λhcd=>?_) λhcd=>?_)
   ·exact Ok.ret (by rw[oDT (by have:=hs hcd;omega)])
   ·exact Ok.ret rfl
theorem BE{code:List DIn}{s:List Int}{d:List (List Int)}(h:kG code s d):iT code s d=some (0,()):=by
 have hs:=h.sz;have hs4:=hs.2.1;have hc:=h.clen;have hl:=h.len
 have e0:dR ju NN (d,(d.length:Int),0,code,s,d,())=some (.inr (d,(d.length:Int),(d.length:Int),false,code,s,d,())):=by
  refine my (st:=λk=>(d,(d.length:Int),(k:Int),code,s,d,())) (n:=d.length) (by unfold NN;omega) ?_ ?_
  ·intro k hk;unfold ju;dsimp only
   (with_reducible refine dF (λhca=>?_) λhca=>?_)
   ·rw[dK];delta dM;simp only[oBS];refine Ok.get (by omega) λx hx=>?_;refine Ok.get (by omega) λy hy=>?_;have:=h.fit k x y hx hy
    (with_reducible refine dF (λhcb=>?_) λhcb=>?_)
    ·omega
    ·(simp (disch:=omega) only [dP,d7,dU,dV])
     exact Ok.ret rfl
   ·omega
  ·unfold ju;dsimp only
   (with_reducible refine dF (λhca=>?_) λhca=>?_)
   ·omega
   ·exact Ok.ret rfl
 have e1:dR jt NN (code,(code.length:Int),0,code,s,d,())=some (.inr (code,(code.length:Int),(code.length:Int),false,code,s,d,())):=by
  refine my (st:=λk=>(code,(code.length:Int),(k:Int),code,s,d,())) (n:=code.length) (by unfold NN;omega) ?_ ?_
  ·intro k hk;unfold jt;dsimp only
   (with_reducible refine dF (λhca=>?_) λhca=>?_)
   ·rw[dK];simp only[oBS];refine Ok.get (by omega) λx hx=>?_;obtain⟨o,a,b,c,i⟩:=x;rw[JA (h.ins _ (dN hx)) (by omega) (by omega)];simp only[oBS,oNT,oCF]
    (simp (disch:=omega) only [dP,d7,dU,dV])
    exact Ok.ret rfl
   ·omega
  ·unfold jt;dsimp only
   (with_reducible refine dF (λhca=>?_) λhca=>?_)
   ·omega
   ·exact Ok.ret rfl
 have e3:dR jq NN (code,(code.length:Int),0,code,s,d,())=some (.inr (code,(code.length:Int),(code.length:Int),false,code,s,d,())):=by
  refine my (st:=λk=>(code,(code.length:Int),(k:Int),code,s,d,())) (n:=code.length) (by unfold NN;omega) ?_ ?_
  ·intro k hk;unfold jq;dsimp only
   (with_reducible refine dF (λhca=>?_) λhca=>?_)
   ·rw[dK];simp only[oBS];refine Ok.get (by omega) λx hx=>?_;have hp:=h.ins x (dN hx);rw[wO];simp only[oBS];refine Ok.bind (P:=(·=(code,(code.length:Int),(k:Int),false,code,s,d,()))) ?_ ?_
    ·refine Ok.cond (λhj=>?_) λ_=>?_
     ·have:=hp.jmp hj
      (with_reducible refine dF (λhcb=>?_) λhcb=>?_)
      ·have hcb:x.2.2.2.2>=(code.length:Int):=hcb;omega
      ·(with_reducible refine dF (λhcc=>?_) λhcc=>?_)
       ·exact Ok.ret (by rw[oDF (show ¬ x.2.2.2.2>=dM s.length by rw[dV];have:=hp.lea hcc;omega)])
       ·exact Ok.ret rfl
     ·(with_reducible refine dF (λhcc=>?_) λhcc=>?_)
      ·exact Ok.ret (by rw[oDF (show ¬ x.2.2.2.2>=dM s.length by rw[dV];have:=hp.lea hcc;omega)])
      ·exact Ok.ret rfl
    ·rintro _ rfl;dsimp only;simp only[oCF]
     (simp (disch:=omega) only [dP,d7,dU,dV])
     exact Ok.ret rfl
   ·omega
  ·unfold jq;dsimp only
   (with_reducible refine dF (λhca=>?_) λhca=>?_)
   ·omega
   ·exact Ok.ret rfl
 refine eV ?_;unfold iT;rw[yX hs];delta dM;simp only[oBS,oNT,oCF,hl,bne_self_eq_false];rw[hl] at e0;rw[e0];dsimp only
 (with_reducible refine dF (λhca=>?_) λhca=>?_)
 ·omega
 ·(with_reducible refine dF (λhcb=>?_) λhcb=>?_)
  ·omega
  ·rw[e1];dsimp only;rw[e3];exact Ok.ret rfl
def RK(bs ss:List Int) (a:Int):Prop:=∃(j:Nat) (b z:Int),bs[j]?=some b/\ss[j]?=some z/\b<=a/\a < b+z
def m9(K:Int->Prop) (c:DCe):Prop:=0<=c.1/\c.1<=2/\0<=c.2/\c.2<=65535/\(c.1=1->K c.2)
theorem m9.mono{K K':Int->Prop}{c:DCe}(h:m9 K c) (hk:∀a,K a->K' a):m9 K' c:=⟨h.1,h.2.1,h.2.2.1,h.2.2.2.1,λe=>hk _ (h.2.2.2.2 e)⟩
theorem lD{K:Int->Prop}{v:Int}(h:0<=v/\v<=65535):m9 K (0,v):=⟨by dsimp only;omega,by dsimp only;omega,h.1,h.2,λe=>absurd (show (0:Int)=1 from e) (by decide)⟩
def Ou(K:Int->Prop) (i:Nat) (x:DLn):Prop:=(x.1=-1/\x.2.1=false/\x.2.2=[])\/(0<=x.1/\x.1 < 128/\x.1 % 4=i/\x.2.2.length=4/\∀c∈x.2.2,m9 K c)
def OH(cs:List DCe) (x:DLn):Prop:=x.1=-1\/x.2.1=true\/∀o:Nat,o < 4->cs[(x.1*4).toNat+o]?=x.2.2[o]?
structure i9 (K:Int->Prop) (cs:List DCe) (ls:List DLn):Prop where
 clen:cs.length=512
 cells:∀c∈cs,m9 K c
 llen:ls.length=4
 lines:∀(i:Nat) x,ls[i]?=some x->Ou K i x
 coh:∀(i:Nat) x,ls[i]?=some x->OH cs x
structure xM (K:Int->Prop) (n:Int) (t:DTh):Prop where
 state:0<=t.1/\t.1<=4
 len:t.2.1.length=8
 regs:∀c∈t.2.1,m9 K c
 pc:0<=t.2.2.1/\t.2.2.1<=255
 count:0<=t.2.2.2.1/\t.2.2.2.1<=n
 handler:-1<=t.2.2.2.2.1/\t.2.2.2.2.1<=255
 saved:-1<=t.2.2.2.2.2.1/\t.2.2.2.2.2.1<=255
 trap:0<=t.2.2.2.2.2.2.1/\t.2.2.2.2.2.2.1<=6
 code:W16 t.2.2.2.2.2.2.2
structure MOk (n:Int) (ss bs:List Int) (cs:List DCe) (ls:List DLn) (ts:List DTh):Prop where
 lay:LV bs ss
 mem:i9 (RK bs ss) cs ls
 tlen:ts.length=4
 thr:∀t∈ts,xM (RK bs ss) n t
theorem F8{K:Int->Prop}{l:List DCe}(hl:l.length<=1000) (h:∀c∈l,m9 K c):jy l=some (true,()):=by
 have e:dR fw NN (l,(l.length:Int),0,())=some (.inr (l,(l.length:Int),(l.length:Int),false,())):=by
  refine my (st:=λk=>(l,(l.length:Int),(k:Int),())) (n:=l.length) (by unfold NN;omega) ?_ ?_
  ·intro k hk;unfold fw;dsimp only
   (with_reducible refine dF (λhca=>?_) λhca=>?_)
   ·rw[dK];simp only[oBS];refine Ok.get (by omega) λx hx=>?_;have:=h x (dN hx);unfold iV;rw[oDT (show x.1<=2 from this.2.1)];simp only[oBS,oNT,oCF]
    (simp (disch:=omega) only [dP,d7,dU,dV])
    exact Ok.ret rfl
   ·omega
  ·unfold fw;dsimp only
   (with_reducible refine dF (λhca=>?_) λhca=>?_)
   ·omega
   ·exact Ok.ret rfl
 refine eV ?_;unfold jy;delta dM
 try dsimp only
 rw[e];exact Ok.ret rfl
theorem yW{K:Int->Prop}{cs:List DCe}{ls:List DLn}(h:i9 K cs ls):gp cs ls=some (true,()):=by
 obtain⟨h1,h2,h3,h4,_⟩:=h
 have e:dR fe NN (ls,4,0,cs,ls,())=some (.inr (ls,4,4,false,cs,ls,())):=by
  refine my (st:=λk=>(ls,4,(k:Int),cs,ls,())) (n:=4) (by unfold NN;omega) ?_ ?_
  ·intro k hk;unfold fe;dsimp only
   (with_reducible refine dF (λhca=>?_) λhca=>?_)
   ·rw[dK];simp only[oBS];refine Ok.get (by omega) λx hx=>?_;rcases h4 k x hx with ⟨e1,e2,e3⟩ | ⟨g1,g2,g3,g4,g5⟩
    ·rw[e1,e2,e3];simp only[beq_self_eq_true,oCT,oCF]
     (simp (disch:=omega) only [dP,d7,dU,dV])
     exact Ok.ret rfl
    ·rw[show (x.1==-1)=false by rw[beq_eq_false_iff_ne];omega,oDF (show ¬ x.1 < 0 by omega),oDF (show ¬ x.1>=128 by omega),Int.tmod_eq_emod_of_nonneg g1,g3,g4,F8 (by omega) g5];simp only[oCF,bne_self_eq_false,oBS,oNT];refine Ok.bind (P:=(·=(ls,4,(k:Int),false,cs,ls,()))) ?_ ?_
     ·refine Ok.cond (λh=>by cases h) λ_=>Ok.ret rfl
     ·rintro _ rfl;dsimp only;simp only[oCF]
      (simp (disch:=omega) only [dP,d7,dU,dV])
      exact Ok.ret rfl
   ·omega
  ·unfold fe;exact Ok.ret rfl
 refine eV ?_;unfold gp;delta dM;simp only[h1,h3,F8 (show cs.length<=1000 by omega) h2,oBS,oNT];refine Ok.bind (P:=(·=(false,cs,ls,()))) ?_ ?_
 ·exact Ok.ret rfl
 ·rintro _ rfl;dsimp only;simp only[oCF];rw[h3,show ((4:Nat):Int)=4 from rfl,e];exact Ok.ret rfl
theorem Gk{K:Int->Prop}{t:DTh}(h:xM K 1099511627776 t):lY t.1 t.2.1 t.2.2.1 t.2.2.2.1 t.2.2.2.2.1 t.2.2.2.2.2.1 t.2.2.2.2.2.2.1 t.2.2.2.2.2.2.2=some (true,()):=by
 obtain⟨⟨a1,a2⟩,hl,hr,⟨b1,b2⟩,⟨c1,c2⟩,⟨d1,d2⟩,⟨e1,e2⟩,⟨f1,f2⟩,_⟩:=h;obtain⟨s,rs,pc,ct,ha,sa,tr,co⟩:=t;dsimp only at *
 have e:dR jp NN (rs,(rs.length:Int),0,s,rs,pc,ct,ha,sa,tr,co,())=some (.inr (rs,(rs.length:Int),(rs.length:Int),false,s,rs,pc,ct,ha,sa,tr,co,())):=by
  refine my (st:=λk=>(rs,(rs.length:Int),(k:Int),s,rs,pc,ct,ha,sa,tr,co,())) (n:=rs.length) (by unfold NN;omega) ?_ ?_
  ·intro k hk;unfold jp;dsimp only
   (with_reducible refine dF (λhca=>?_) λhca=>?_)
   ·rw[dK];simp only[oBS];refine Ok.get (by omega) λx hx=>?_;have:=hr x (dN hx);unfold iV;rw[oDT (show x.1<=2 from this.2.1)];simp only[oBS,oNT,oCF]
    (simp (disch:=omega) only [dP,d7,dU,dV])
    exact Ok.ret rfl
   ·omega
  ·unfold jp;dsimp only
   (with_reducible refine dF (λhca=>?_) λhca=>?_)
   ·omega
   ·exact Ok.ret rfl
 refine eV ?_;unfold lY;delta dM
 try dsimp only
 rw[e];dsimp only;rw[hl];refine dG (oDT a1) (dG (oDT a2) (dG rfl (dG (oDT b1) (dG (oDT b2) (dG (oDT c1) (dG (oDT c2) (dG (oDT d1) (dG (oDT d2) (dG (oDT e1) (dG (oDT e2) (dG (oDT f1) ?_)))))))))));exact Ok.ret (by rw[oDT f2])
theorem tJ{code:List DIn}{ss bs:List Int}{d:List (List Int)}{n key:Int}{cs:List DCe}{ls:List DLn}{ts:List DTh}(hp:kG code ss d) (h:MOk n ss bs cs ls ts) (hn:n<=1099511627776):iS code ss d bs key cs ls ts=some (true,()):=by
 obtain⟨h1,h2,h3,h4⟩:=h
 have e:dR lJ NN (ts,4,0,bs,key,cs,ls,ts,())=some (.inr (ts,4,4,false,bs,key,cs,ls,ts,())):=by
  refine my (st:=λk=>(ts,4,(k:Int),bs,key,cs,ls,ts,())) (n:=4) (by unfold NN;omega) ?_ ?_
  ·intro k hk;unfold lJ;dsimp only
   (with_reducible refine dF (λhca=>?_) λhca=>?_)
   ·rw[dK];simp only[oBS];refine Ok.get (by omega) λx hx=>?_;have ht:=h4 x (dN hx);rw[Gk ⟨ht.state,ht.len,ht.regs,ht.pc,⟨ht.count.1,by have:=ht.count.2;omega⟩,ht.handler,ht.saved,ht.trap,ht.code⟩];simp only[oBS,oNT,oCF]
    (simp (disch:=omega) only [dP,d7,dU,dV])
    exact Ok.ret rfl
   ·omega
  ·exact Ok.ret rfl
 refine eV ?_;unfold iS;rw[BE hp,qy h1,yW h2];delta dM;simp only[oBS,oNT,oCF,bne_self_eq_false,h3];refine Ok.cond (λh=>by cases h) λ_=>?_;rw[show ((4:Nat):Int)=4 from rfl,e];exact Ok.ret rfl
def eK:List DLn:=[(-1,false,[]),(-1,false,[]),(-1,false,[]),(-1,false,[])]
theorem Bw:l8=some (eK,()):=by kernel_rfl
theorem Dx{K:Int->Prop}{cs:List DCe}(h:cs.length=512) (hc:∀c∈cs,m9 K c):i9 K cs eK:=by
 have key:∀(i:Nat) x,eK[i]?=some x->x=(-1,false,[]):=λi x hx=>by
  have:=dN hx;simp only[eK,List.mem_cons,List.not_mem_nil,or_false,or_self] at this;exact this
 exact⟨h,hc,rfl,λi x hx=>by rw[key i x hx];exact .inl ⟨rfl,rfl,rfl⟩,λi x hx=>by rw[key i x hx];exact .inl rfl⟩
theorem io{α:Type}{P:α->Prop}{l:List α}{i:Nat}{f:α->α}(h:∀x∈l,P x) (hf:∀x,P x->P (f x)):∀x∈List.modify l i f,P x:=by
 intro x hx;obtain⟨j,hj⟩:=List.getElem?_of_mem hx;rw[List.getElem?_modify] at hj
 cases hl:l[j]? with
 | none=>rw[hl] at hj;cases hj
 | some y=>
  rw[hl] at hj;have hy:=h y (dN hl)
  injection hj with hj
  subst hj;split
  ·exact hf y hy
  ·exact hy
theorem M6{code:List DIn}{ss bs:List Int}{d:List (List Int)}{key:Int}(hp:kG code ss d) (hl:LV bs ss):Ok (iG code ss d bs key) λr=>∃cs,r=(cs,eK,0,())/\cs.length=512/\∀c∈cs,m9 (λ_=>False) c:=by
 unfold iG;rw[qy hl,Bw];delta dM;simp only[oBS,oNT,oCF,hp.len,bne_self_eq_false];refine dG (by decide) ?_
 obtain⟨t,e,ht⟩:=fS (f:=iF) (n:=NN) (s:=(d,(ss.length:Int),0,code,ss,d,bs,key,(),(),List.replicate 512 (0,0),eK,()))
  (P:=λs'=>∃k:Nat,∃cs,s'=(d,(ss.length:Int),(k:Int),code,ss,d,bs,key,(),(),cs,eK,())/\k<=ss.length/\cs.length=512/\∀c∈cs,m9 (λ_=>False) c)
  (R:=λr=>∃a b c e cs,r=.inr (a,b,c,e,code,ss,d,bs,key,(),(),cs,eK,())/\cs.length=512/\∀c∈cs,m9 (λ_=>False) c) (m:=λs'=>(s'.2.1 - s'.2.2.1).toNat)
  ⟨0,_,rfl,by omega,List.length_replicate,λc hc=>by rw[List.eq_of_mem_replicate hc];exact lD (by decide)⟩ (by unfold NN;dsimp only;have:=hp.sz.2.1;omega) (by
   rintro _ ⟨k,cs,rfl,hk,hc1,hc2⟩;unfold iF;dsimp only;have hlen:=hp.len;have hs4:=hp.sz.2.1
   (with_reducible refine dF (λhca=>?_) λhca=>?_)
   ·rw[dK];delta dM;simp only[oBS];refine Ok.get (by omega) λx hx=>?_;refine Ok.get (by omega) λy hy=>?_;have hf:=hp.fit k x y hx hy;have hy2:=hp.sz.2.2 y (dN hy);have hnum:=hp.num x (dN hx);obtain⟨_,hbl,hr⟩:=hl;have hrk:=hr k (by omega);unfold nQ at hrk;obtain⟨b,hb⟩:∃b,bs[k]?=some b:=⟨_,oGE (by omega)⟩;rw[dW hb,dW hy] at hrk
    (with_reducible refine dF (λhcb=>?_) λhcb=>?_)
    ·omega
    ·refine Ok.loop (P:=λs'=>∃j:Nat,∃cs,s'=((k:Int),d,(ss.length:Int),(k:Int),x,(x.length:Int),(j:Int),code,ss,d,bs,key,(),(),cs,eK,())/\j<=x.length/\cs.length=512/\∀c∈cs,m9 (λ_=>False) c)
      (R:=λr=>∃a b c e cs,r=(a,d,(ss.length:Int),(k:Int),b,c,e,false,code,ss,d,bs,key,(),(),cs,eK,())/\cs.length=512/\∀c∈cs,m9 (λ_=>False) c) (m:=λs'=>(s'.2.2.2.2.2.1 - s'.2.2.2.2.2.2.1).toNat)
      ⟨0,cs,rfl,by omega,hc1,hc2⟩ (by unfold NN;dsimp only;omega) ?_ ?_
     ·rintro _ ⟨j,cs,rfl,hj,hc1,hc2⟩;unfold gL;dsimp only
      (with_reducible refine dF (λhcc=>?_) λhcc=>?_)
      ·rw[dK,dK];simp only[oBS];refine Ok.get (by omega) λv hv=>?_;have hv2:=hnum v (dN hv);rw[show dI bs k=some b from hb];simp only[oBS]
       (simp (disch:=omega) only [dP,d7,dU,dV])
       refine Ok.nat (by omega) λa ha=>?_;refine Ok.get (by omega) λc hc=>?_;refine Ok.get (by omega) λc' hc'=>?_;exact Ok.ret ⟨⟨j+1,_,rfl,by omega,by rw[oLM];exact hc1,io hc2 λz hz=>⟨hz.1,hz.2.1,hv2.1,hv2.2,hz.2.2.2.2⟩⟩,by dsimp only;omega⟩
      ·exact Ok.ret ⟨_,_,_,_,_,rfl,hc1,hc2⟩
     ·rintro _ ⟨a,b,c,e,cs,rfl,hc1,hc2⟩;dsimp only
      (simp (disch:=omega) only [dP,d7,dU,dV])
      exact Ok.ret ⟨⟨k+1,_,rfl,by omega,hc1,hc2⟩,by dsimp only;omega⟩
   ·exact Ok.ret ⟨_,_,_,_,_,rfl,hc1,hc2⟩)
 rw[e];obtain⟨a,b,c,e,cs,rfl,hc1,hc2⟩:=ht;exact Ok.ret ⟨cs,rfl,hc1,hc2⟩
theorem NJ{K:Int->Prop}:∀c∈List.replicate 8 ((0:Int),(0:Int)),m9 K c:=λc hc=>by rw[List.eq_of_mem_replicate hc];exact lD (by decide)
theorem Mh{K:Int->Prop}{s:Int}(h:0<=s/\s<=4):xM K 0 (s,List.replicate 8 (0,0),0,0,-1,-1,0,0):=
 ⟨h,rfl,NJ,⟨by dsimp only;omega,by dsimp only;omega⟩,⟨by dsimp only;omega,by dsimp only;omega⟩,⟨by dsimp only;omega,by dsimp only;omega⟩,⟨by dsimp only;omega,by dsimp only;omega⟩,⟨by dsimp only;omega,by dsimp only;omega⟩,⟨by dsimp only;omega,by dsimp only;omega⟩⟩
theorem Kn{code:List DIn}{ss bs:List Int}{d:List (List Int)}{key:Int}(hp:kG code ss d) (hl:LV bs ss):Ok (l6 code ss d bs key) λr=>∃cs ts,r=(bs,key,cs,eK,ts,0,())/\MOk 0 ss bs cs eK ts:=by
 unfold l6;rw[BE hp,qy hl];simp only[oBS,oNT,oCF,bne_self_eq_false];refine (M6 hp hl).bind ?_;rintro _ ⟨cs,rfl,hc1,hc2⟩;dsimp only;have hbl:=hl.2.1;have hs4:=hp.sz.2.1;refine dG (dS (by omega)) ?_;rw[show List.append [] bs=bs from rfl]
 refine Ok.loop (P:=λs'=>∃k:Nat,∃ts,s'=((k:Int),(),0,(),(),(),bs,key,cs,eK,ts,())/\k<=4/\ts.length=k/\∀t∈ts,xM (RK bs ss) 0 t)
  (R:=λr=>∃a b ts,r=(a,b,(),0,(),(),(),bs,key,cs,eK,ts,())/\ts.length=4/\∀t∈ts,xM (RK bs ss) 0 t) (m:=λs'=>(4 - s'.1).toNat) ⟨0,[],rfl,by omega,rfl,ee⟩ (by unfold NN;dsimp only;omega) ?_ ?_
 ·rintro _ ⟨k,ts,rfl,hk,ht1,ht2⟩;unfold pi;dsimp only
  (with_reducible refine dF (λhca=>?_) λhca=>?_)
  ·refine dG (by decide) ?_;refine Ok.bind (P:=λr=>∃s,(0<=s/\s<=4)/\r=((k:Int),(),0,(),(),(),bs,key,cs,eK,ts,s,List.replicate 8 (0,0),0,0,-1,-1,0,0,())) ?_ ?_
   ·(with_reducible refine dF (λhcb=>?_) λhcb=>?_)
    ·exact Ok.ret ⟨1,by decide,rfl⟩
    ·exact Ok.ret ⟨0,by decide,rfl⟩
   ·rintro _ ⟨s,hs,rfl⟩;dsimp only;refine dG (dS (by simp;omega)) ?_
    (simp (disch:=omega) only [dP,d7,dU,dV])
    exact Ok.ret ⟨⟨k+1,_,rfl,by omega,by rw[eY,ht1];rfl,i7 ht2 (all_cons (Mh hs) ee)⟩,by dsimp only;omega⟩
  ·exact Ok.ret ⟨_,_,_,rfl,by omega,ht2⟩
 ·rintro _ ⟨a,b,ts,rfl,ht1,ht2⟩;exact Ok.ret ⟨cs,ts,rfl,hl,Dx hc1 λc hc=>(hc2 c hc).mono λ_ h=>h.elim,ht1,ht2⟩
def Pr(ss:List Int) (c:DCn):Prop:=
 ((c.1=0\/c.1=2)/\c.2.2.1=0/\c.2.2.2=0/\W16 c.2.1)\/(c.1=1/\c.2.1=0/\0<=c.2.2.1/\∃n,ss[c.2.2.1.toNat]?=some n/\0<=c.2.2.2/\c.2.2.2 < n)
theorem DH{ss:List Int}{c:DCn}(hs:vN ss) (h:Pr ss c):jF c.1 c.2.1 c.2.2.1 c.2.2.2=some (true,()):=by
 refine eV ?_;unfold jF;rcases h with ⟨h1,h2,h3,_⟩ | ⟨h1,h2,h3,n,h4,h5,h6⟩
 ·rw[h2,h3]
  rcases h1 with h1 | h1<;>rw[h1]<;>exact Ok.ret rfl
 ·have hn:=hs.2.2 n (dN h4);have hl:=(oGS h4).1;have hs4:=hs.2.1;rw[h1,h2,show (c.2.2.1==-1)=false by rw[beq_eq_false_iff_ne];omega];refine Ok.cond (λh=>by cases h) λ_=>Ok.cond (λh=>by cases h) λ_=>dG rfl ?_;refine Ok.cond (λh=>by cases h) λ_=>dG rfl ?_;exact dG (oDT h3) (dG (oDT (by omega)) (dG (oDT h5) (Ok.ret (by rw[oDT (show c.2.2.2 < 32 by omega)]))))
theorem jK{ss:List Int}{l:List DCn}{n:Int}(hs:vN ss) (h:∀c∈l,Pr ss c) (hn:(l.length:Int)<=n) (hl:l.length<=1000):fm l n=some (true,()):=by
 have e:dR jo NN (l,n,l,(l.length:Int),0,())=some (.inr (l,n,l,(l.length:Int),(l.length:Int),false,())):=by
  refine my (st:=λk=>(l,n,l,(l.length:Int),(k:Int),())) (n:=l.length) (by unfold NN;omega) ?_ ?_
  ·intro k hk;unfold jo;dsimp only
   (with_reducible refine dF (λhca=>?_) λhca=>?_)
   ·rw[dK];simp only[oBS];refine Ok.get (by omega) λx hx=>?_;rw[DH hs (h x (dN hx))];simp only[oBS,oNT,oCF]
    (simp (disch:=omega) only [dP,d7,dU,dV])
    exact Ok.ret rfl
   ·omega
  ·unfold jo;dsimp only
   (with_reducible refine dF (λhca=>?_) λhca=>?_)
   ·omega
   ·exact Ok.ret rfl
 refine eV ?_;unfold fm;delta dM
 try dsimp only
 rw[e];exact Ok.ret (congrArg (λb=>(b,())) (oDT hn))
def NA(d:List (List DCn)) (o:DOp):Prop:=(o.1=-1/\o.2.1=0/\o.2.2=false)\/(0<=o.1/\∃x,d[o.1.toNat]?=some x/\0<=o.2.1/\o.2.1<=x.length)
structure fD (ss:List Int) (d:List (List DCn)) (os:List DOp):Prop where
 dlen:d.length<=4
 flen:∀x∈d,x.length<=64
 cells:∀x∈d,∀c∈x,Pr ss c
 olen:os.length=8
 opens:∀o∈os,NA d o
theorem yT{ss:List Int}{d:List (List DCn)}{os:List DOp}(hs:vN ss) (h:fD ss d os):jW d os=some (true,()):=by
 obtain⟨h1,h2,h3,h4,h5⟩:=h
 have e0:dR jn NN (d,(d.length:Int),0,d,os,())=some (.inr (d,(d.length:Int),(d.length:Int),false,d,os,())):=by
  refine my (st:=λk=>(d,(d.length:Int),(k:Int),d,os,())) (n:=d.length) (by unfold NN;omega) ?_ ?_
  ·intro k hk;unfold jn;dsimp only
   (with_reducible refine dF (λhca=>?_) λhca=>?_)
   ·rw[dK];simp only[oBS];refine Ok.get (by omega) λx hx=>?_;have:=h2 x (dN hx);rw[jK hs (h3 x (dN hx)) (by omega) (by omega)];simp only[oBS,oNT,oCF]
    (simp (disch:=omega) only [dP,d7,dU,dV])
    exact Ok.ret rfl
   ·omega
  ·unfold jn;dsimp only
   (with_reducible refine dF (λhca=>?_) λhca=>?_)
   ·omega
   ·exact Ok.ret rfl
 have e2:dR lH NN (os,8,0,d,os,())=some (.inr (os,8,8,false,d,os,())):=by
  refine my (st:=λk=>(os,8,(k:Int),d,os,())) (n:=8) (by unfold NN;omega) ?_ ?_
  ·intro k hk;unfold lH;dsimp only
   (with_reducible refine dF (λhca=>?_) λhca=>?_)
   ·rw[dK];simp only[oBS];refine Ok.get (by omega) λx hx=>?_;obtain⟨f,o,w⟩:=x;refine Ok.bind (P:=(·=(os,8,(k:Int),false,d,os,f,o,w,()))) ?_ ?_
    ·rcases h5 _ (dN hx) with ⟨g1,g2,g3⟩ | ⟨g1,y,g2,g3,g4⟩
     ·have g1:f=-1:=g1;have g2:o=0:=g2;have g3:w=false:=g3;subst g1 g2 g3;dsimp only;refine dG rfl (Ok.cond (λh=>by cases h) λ_=>Ok.cond (λh=>by cases h) λ_=>Ok.cond (λh=>by cases h) λ_=>Ok.cond (λh=>?_) λ_=>Ok.cond (λh=>by cases h) λ_=>Ok.ret rfl);have h:(-1:Int)>=(d.length:Int):=of_decide_eq_true h;omega
     ·dsimp only at g1 g2 g3 g4 ⊢;have hl:=(oGS g2).1;rw[show (f==-1)=false by rw[beq_eq_false_iff_ne];omega,oDF (show ¬ f < -1 by omega)];simp only[oCF];refine Ok.cond (λh=>?_) λ_=>dG (oDT g1) ?_
      ·have h:f>=(d.length:Int):=of_decide_eq_true h;omega
      ·rw[oDF (show ¬ o < 0 by omega)];simp only[oCF];refine Ok.nat g1 λj hj=>?_;refine Ok.get (by omega) λz hz=>?_
       have hjj:j=f.toNat:=by omega
       subst hjj;rw[g2] at hz
       injection hz with hz
       subst hz;exact Ok.ret (by rw[oDF (show ¬ o > dM y.length from λh=>by rw[dV] at h;omega)])
    ·rintro _ rfl;dsimp only;simp only[oCF]
     (simp (disch:=omega) only [dP,d7,dU,dV])
     exact Ok.ret rfl
   ·omega
  ·exact Ok.ret rfl
 refine eV ?_;unfold jW;delta dM
 try dsimp only
 (with_reducible refine dF (λhca=>?_) λhca=>?_)
 ·omega
 ·rw[h4];refine Ok.cond (λh=>by cases h) λ_=>?_;rw[e0];dsimp only;rw[h4,show ((8:Nat):Int)=8 from rfl,e2];exact Ok.ret rfl
def OG(ss:List Int) (i:Nat) (x:DOu):Prop:=x.1=i/\0<=x.2.1/\x.2.1 < 2/\x.2.2.length<=16/\∀c∈x.2.2,Pr ss c
structure xN (ss:List Int) (ck rn:List Int) (ins:List (List Int)) (d:List (List DCn)) (os:List DOp) (us:List DOu):Prop where
 clock:ck.length<=64/\∀w∈ck,W16 w
 rand:rn.length<=64/\∀w∈rn,W16 w
 ilen:ins.length<=2
 inp:∀x∈ins,x.length<=64/\∀w∈x,W16 w
 files:fD ss d os
 ulen:us.length<=200
 outs:∀(i:Nat) x,us[i]?=some x->OG ss i x
theorem GR{ss:List Int}{us:List DOu}(hl:us.length<=200) (h:∀(i:Nat) x,us[i]?=some x->OG ss i x):jV us=some (true,()):=by
 have e:dR ir NN (us,(us.length:Int),0,())=some (.inr (us,(us.length:Int),(us.length:Int),false,())):=by
  refine my (st:=λk=>(us,(us.length:Int),(k:Int),())) (n:=us.length) (by unfold NN;omega) ?_ ?_
  ·intro k hk;unfold ir;dsimp only
   (with_reducible refine dF (λhca=>?_) λhca=>?_)
   ·rw[dK];simp only[oBS];refine Ok.get (by omega) λx hx=>?_;obtain⟨g1,g2,g3,g4,g5⟩:=h k x hx;rw[g1,oDF (show ¬ x.2.1 < 0 by omega),oDF (show ¬ x.2.1>=2 by omega)];simp only[bne_self_eq_false,oCF,oBS];refine Ok.cond (λh=>?_) λ_=>?_
    ·have h:(x.2.2.length:Int) > 16:=of_decide_eq_true h;omega
    ·(simp (disch:=omega) only [dP,d7,dU,dV])
     exact Ok.ret rfl
   ·omega
  ·unfold ir;dsimp only
   (with_reducible refine dF (λhca=>?_) λhca=>?_)
   ·omega
   ·exact Ok.ret rfl
 refine eV ?_;unfold jV;delta dM
 try dsimp only
 rw[e];exact Ok.ret rfl
theorem tI{ss ck rn:List Int}{ins:List (List Int)}{d:List (List DCn)}{os:List DOp}{us:List DOu}(hs:vN ss) (h:xN ss ck rn ins d os us):iR ck rn ins d os us=some (true,()):=by
 have e0:dR jm NN (ins,(ins.length:Int),0,ck,rn,ins,d,os,us,())=some (.inr (ins,(ins.length:Int),(ins.length:Int),false,ck,rn,ins,d,os,us,())):=by
  refine my (st:=λk=>(ins,(ins.length:Int),(k:Int),ck,rn,ins,d,os,us,())) (n:=ins.length) (by unfold NN;have:=h.ilen;omega) ?_ ?_
  ·intro k hk;have hil:=h.ilen;unfold jm;dsimp only
   (with_reducible refine dF (λhca=>?_) λhca=>?_)
   ·rw[dK];delta dM;simp only[oBS];refine Ok.get (by omega) λx hx=>?_;have:=(h.inp x (dN hx)).1
    (with_reducible refine dF (λhcb=>?_) λhcb=>?_)
    ·omega
    ·(simp (disch:=omega) only [dP,d7,dU,dV])
     exact Ok.ret rfl
   ·omega
  ·unfold jm;dsimp only
   (with_reducible refine dF (λhca=>?_) λhca=>?_)
   ·omega
   ·exact Ok.ret rfl
 have e1:dR jl NN (us,(us.length:Int),0,ck,rn,ins,d,os,us,())=some (.inr (us,(us.length:Int),(us.length:Int),false,ck,rn,ins,d,os,us,())):=by
  refine my (st:=λk=>(us,(us.length:Int),(k:Int),ck,rn,ins,d,os,us,())) (n:=us.length) (by unfold NN;have:=h.ulen;omega) ?_ ?_
  ·intro k hk;have hul:=h.ulen;unfold jl;dsimp only
   (with_reducible refine dF (λhca=>?_) λhca=>?_)
   ·rw[dK];simp only[oBS];refine Ok.get (by omega) λx hx=>?_;obtain⟨_,_,_,g4,g5⟩:=h.outs k x hx;rw[jK hs g5 (by omega) (by omega)];simp only[oBS,oNT,oCF]
    (simp (disch:=omega) only [dP,d7,dU,dV])
    exact Ok.ret rfl
   ·omega
  ·unfold jl;dsimp only
   (with_reducible refine dF (λhca=>?_) λhca=>?_)
   ·omega
   ·exact Ok.ret rfl
 have c1:=h.clock.1;have c2:=h.rand.1;have c3:=h.ilen;have c4:=h.ulen;refine eV ?_;unfold iR;delta dM
 try dsimp only
 rw[e0];dsimp only;rw[e1];dsimp only;refine dG (oDT (show (ck.length:Int)<=64 by omega)) (dG (oDT (show (rn.length:Int)<=64 by omega)) (dG (oDT (show (ins.length:Int)<=2 by omega)) ?_));rw[yT hs h.files];simp only[oBS,oCT];refine dG (oDT (show (us.length:Int)<=200 by omega)) ?_;rw[GR h.ulen h.outs];exact Ok.ret rfl
def oP:List DOp:=List.replicate 8 (-1,0,false)
theorem K0(a:List (List Int)):dR ra NN (a,8,0,(),(),(),List.replicate 8 (0,(0,false)),())=some (a,8,8,false,(),(),(),oP,()):=by
 rfl
theorem K5{ss:List Int}{a:List (List Int)}(hs:vN ss) (hl:a.length<=4) (h:∀x∈a,x.length<=64/\∀w∈x,W16 w):Ok (ot a) λr=>∃d,r=(d,oP,0,())/\fD ss d oP:=by
 unfold ot;refine dG (by decide) ?_;dsimp only;rw[show dM (List.replicate 8 ((0:Int),((0:Int),false))).length=8 from rfl,K0];delta dM;simp only[oBS]
 refine Ok.loop (P:=λs'=>∃k:Nat,∃d,s'=(a,(a.length:Int),(k:Int),(),(),d,oP,())/\k<=a.length/\d.length=k/\(∀x∈d,x.length<=64)/\∀x∈d,∀c∈x,Pr ss c)
  (R:=λr=>∃e b c f d,r=(e,b,c,f,(),(),d,oP,())/\d.length<=4/\(∀x∈d,x.length<=64)/\∀x∈d,∀c∈x,Pr ss c) (m:=λs'=>(s'.2.1 - s'.2.2.1).toNat) ⟨0,[],rfl,by omega,rfl,ee,ee⟩ (by unfold NN;dsimp only;omega) ?_ ?_
 ·rintro _ ⟨k,d,rfl,hk,hd1,hd2,hd3⟩;unfold q8;dsimp only
  (with_reducible refine dF (λhca=>?_) λhca=>?_)
  ·rw[dK];delta dM;simp only[oBS];refine Ok.get (by omega) λx hx=>?_;obtain⟨hx1,hx2⟩:=h x (dN hx)
   refine Ok.loop (P:=λs'=>∃j:Nat,∃l,s'=(a,(a.length:Int),(k:Int),x,(x.length:Int),(j:Int),(),(),d,oP,l,())/\j<=x.length/\l.length=j/\∀c∈l,Pr ss c)
    (R:=λr=>∃b c e f l,r=(a,(a.length:Int),(k:Int),b,c,e,f,(),(),d,oP,l,())/\l.length<=64/\∀c∈l,Pr ss c) (m:=λs'=>(s'.2.2.2.2.1 - s'.2.2.2.2.2.1).toNat) ⟨0,[],rfl,by omega,rfl,ee⟩ (by unfold NN;dsimp only;omega) ?_ ?_
   ·rintro _ ⟨j,l,rfl,hj,hl1,hl2⟩;unfold q9;dsimp only
    (with_reducible refine dF (λhcb=>?_) λhcb=>?_)
    ·rw[dK];simp only[oBS];refine Ok.get (by omega) λv hv=>?_;refine dG (dS (by simp;omega)) ?_
     (simp (disch:=omega) only [dP,d7,dU,dV])
     exact Ok.ret ⟨⟨j+1,_,rfl,by omega,by rw[eY,hl1];rfl,i7 hl2 (all_cons (.inl ⟨.inl rfl,rfl,rfl,hx2 v (dN hv)⟩) ee)⟩,by dsimp only;omega⟩
    ·exact Ok.ret ⟨_,_,_,_,_,rfl,by omega,hl2⟩
   ·rintro _ ⟨b,c,e,f,l,rfl,hl1,hl2⟩;dsimp only;refine dG (dS (by simp;omega)) ?_
    (simp (disch:=omega) only [dP,d7,dU,dV])
    exact Ok.ret ⟨⟨k+1,_,rfl,by omega,by rw[eY,hd1];rfl,i7 hd2 (all_cons hl1 ee),i7 hd3 (all_cons hl2 ee)⟩,by dsimp only;omega⟩
  ·exact Ok.ret ⟨_,_,_,_,_,rfl,by omega,hd2,hd3⟩
 ·rintro _ ⟨e,b,c,f,d,rfl,hd1,hd2,hd3⟩;have hf:fD ss d oP:=⟨hd1,hd2,hd3,rfl,λo ho=>by rw[List.eq_of_mem_replicate ho];exact .inl ⟨rfl,rfl,rfl⟩⟩;dsimp only;rw[yT hs hf];simp only[oBS,oNT,oCF];exact Ok.ret ⟨d,rfl,hf⟩
theorem xn{a:List (List Int)}(hl:a.length<=1000) (h:∀x∈a,x.length<=1000):fE a=some (a,()):=by
 have e:dR fB NN (a,(a.length:Int),0,[],())=some (a,(a.length:Int),(a.length:Int),false,a,()):=by
  have:=my (f:=fB) (N:=NN) (st:=λk=>(a,(a.length:Int),(k:Int),a.take k,())) (n:=a.length) (t:=(a,(a.length:Int),(a.length:Int),false,a,())) (by unfold NN;omega) ?_ ?_
  ·exact this
  ·intro k hk;unfold fB;dsimp only
   (with_reducible refine dF (λhca=>?_) λhca=>?_)
   ·rw[dK];simp only[oBS];refine Ok.get (by omega) λx hx=>?_;have:=h x (dN hx);refine dG (dS (by omega)) (dG (dS (by simp;omega)) ?_)
    (simp (disch:=omega) only [dP,d7,dU,dV])
    refine Ok.ret ?_;rw[List.take_add_one,hx];rfl
   ·omega
  ·unfold fB;dsimp only
   (with_reducible refine dF (λhca=>?_) λhca=>?_)
   ·omega
   ·rw[List.take_length];exact Ok.ret rfl
 refine eV ?_;unfold fE;delta dM
 try dsimp only
 rw[e];exact Ok.ret rfl
theorem GQ{ss l:List Int}{k:Int}(hs:vN ss) (h:DOk l k):Ok (k9 l k) λr=>∃ck rn ins d os k',r=(ck,rn,ins,d,os,(),l,k',())/\xN ss ck rn ins d os []/\DOk l k':=by
 unfold k9;refine (og h (by decide)).bind ?_;rintro _ ⟨w1,k1,rfl,h1,g1,d1⟩;dsimp only;refine (og d1 (by decide)).bind ?_;rintro _ ⟨w2,k2,rfl,h2,g2,d2⟩;dsimp only;refine (og d2 (by decide)).bind ?_;rintro _ ⟨w3,k3,rfl,h3,g3,d3⟩;dsimp only;refine (og d3 (by decide)).bind ?_;rintro _ ⟨w4,k4,rfl,h4,g4,d4⟩;dsimp only;refine (og d4 (by decide)).bind ?_;rintro _ ⟨w5,k5,rfl,h5,g5,d5⟩;dsimp only;refine (og d5 (by decide)).bind ?_;rintro _ ⟨w6,k6,rfl,h6,g6,d6⟩;dsimp only;refine Ok.bind (P:=λr=>∃ck rn ins d os,r=(ck,rn,ins,d,os,(),0,())/\xN ss ck rn ins d os []) ?_ ?_
 ·unfold oq;refine (K5 (ss:=ss) (a:=[w1,w2]) hs (by simp) (all_cons ⟨by omega,g1⟩ (all_cons ⟨by omega,g2⟩ ee))).bind ?_;rintro _ ⟨d,rfl,hf⟩;dsimp only;refine Ok.cond (λh=>by cases h) λ_=>?_;refine dG (dS (by omega)) (dG (dS (by omega)) ?_);have ho:xN ss w5 w6 [w3,w4] d oP []:=⟨⟨by omega,g5⟩,⟨by omega,g6⟩,by simp,all_cons ⟨by omega,g3⟩ (all_cons ⟨by omega,g4⟩ ee),hf,by simp,λi x hx=>by simp at hx⟩;rw[xn (by simp) (all_cons (by omega) (all_cons (by omega) ee))];simp only[oBS];rw[show List.append [] w5=w5 from rfl,show List.append [] w6=w6 from rfl,tI hs ho];exact Ok.ret ⟨_,_,_,_,_,rfl,ho⟩
 ·rintro _ ⟨ck,rn,ins,d,os,rfl,ho⟩;exact Ok.ret ⟨_,_,_,_,_,_,rfl,ho,d6⟩
theorem CF{ss:List Int}{r o n:Int}(h1:0<=r) (h2:ss[r.toNat]?=some n) (h3:0<=o) (h4:o < n):fA ss r o=some (true,()):=by
 refine eV ?_;have hl:=(oGS h2).1;unfold fA;refine dG (oDT h1) (dG (oDT (show r < (ss.length:Int) by omega)) (dG (oDT h3) ?_));obtain⟨j,rfl⟩:∃j:Nat,r=j:=⟨r.toNat,by omega⟩;rw[dK];simp only[oBS];rw[show dI ss j=some n from h2];simp only[oBS];exact Ok.ret (by rw[oDT h4])
theorem mO{ss:List Int}{c:DCn}(h:Pr ss c):gy ss c.1 c.2.1 c.2.2.1 c.2.2.2=some (true,()):=by
 refine eV ?_;unfold gy;rcases h with ⟨h1,h2,h3,_⟩ | ⟨h1,h2,h3,n,h4,h5,h6⟩
 ·rw[h2,h3]
  rcases h1 with h1 | h1<;>rw[h1]<;>exact Ok.ret rfl
 ·rw[h1,h2,CF h3 h4 h5 h6];exact Ok.ret rfl
theorem D9{ss:List Int}{d:List (List DCn)}{os:List DOp}(h:fD ss d os):kR ss d os=some (true,()):=by
 obtain⟨h1,h2,h3,h4,h5⟩:=h
 have e0:dR iP NN (ss,d,(d.length:Int),0,d,os,())=some (.inr (ss,d,(d.length:Int),(d.length:Int),false,d,os,())):=by
  refine my (st:=λk=>(ss,d,(d.length:Int),(k:Int),d,os,())) (n:=d.length) (by unfold NN;omega) ?_ ?_
  ·intro k hk;unfold iP;dsimp only
   (with_reducible refine dF (λhca=>?_) λhca=>?_)
   ·rw[dK];delta dM;simp only[oBS];refine Ok.get (by omega) λx hx=>?_;have hx1:=h2 x (dN hx)
    have e:dR iQ NN (ss,d,(d.length:Int),(k:Int),x,(x.length:Int),0,d,os,())=some (.inr (ss,d,(d.length:Int),(k:Int),x,(x.length:Int),(x.length:Int),false,d,os,())):=by
     refine my (st:=λj=>(ss,d,(d.length:Int),(k:Int),x,(x.length:Int),(j:Int),d,os,())) (n:=x.length) (by unfold NN;omega) ?_ ?_
     ·intro j hj;unfold iQ;dsimp only
      (with_reducible refine dF (λhca=>?_) λhca=>?_)
      ·rw[dK];simp only[oBS];refine Ok.get (by omega) λy hy=>?_;rw[mO (h3 x (dN hx) y (dN hy))];simp only[oBS,oNT,oCF]
       (simp (disch:=omega) only [dP,d7,dU,dV])
       exact Ok.ret rfl
      ·omega
     ·unfold iQ;dsimp only
      (with_reducible refine dF (λhca=>?_) λhca=>?_)
      ·omega
      ·exact Ok.ret rfl
    rw[e];dsimp only
    (simp (disch:=omega) only [dP,d7,dU,dV])
    exact Ok.ret rfl
   ·omega
  ·unfold iP;dsimp only
   (with_reducible refine dF (λhca=>?_) λhca=>?_)
   ·omega
   ·exact Ok.ret rfl
 refine eV ?_;unfold kR;delta dM
 try dsimp only
 rw[e0];exact Ok.ret rfl
theorem copy17_ok{d:List (List DCn)}{os:List DOp}(h1:d.length<=1000) (h2:∀x∈d,x.length<=1000) (h3:os.length<=1000):fO d os=some (d,os,()):=by
 have e:dR iz NN (d,(d.length:Int),0,d,os,(),(),[],os,())=some (d,(d.length:Int),(d.length:Int),false,d,os,(),(),d,os,()):=by
  have:=my (f:=iz) (N:=NN) (st:=λk=>(d,(d.length:Int),(k:Int),d,os,(),(),d.take k,os,())) (n:=d.length) (t:=(d,(d.length:Int),(d.length:Int),false,d,os,(),(),d,os,())) (by unfold NN;omega) ?_ ?_
  ·exact this
  ·intro k hk;unfold iz;dsimp only
   (with_reducible refine dF (λhca=>?_) λhca=>?_)
   ·rw[dK];simp only[oBS];refine Ok.get (by omega) λx hx=>?_;have:=h2 x (dN hx);refine dG (dS (by omega)) (dG (dS (by simp;omega)) ?_)
    (simp (disch:=omega) only [dP,d7,dU,dV])
    refine Ok.ret ?_;rw[List.take_add_one,hx];rfl
   ·omega
  ·unfold iz;dsimp only
   (with_reducible refine dF (λhca=>?_) λhca=>?_)
   ·omega
   ·rw[List.take_length];exact Ok.ret rfl
 refine eV ?_;unfold fO;refine dG (dS (by omega)) ?_;rw[show List.append [] os=os from rfl];delta dM
 try dsimp only
 rw[e];exact Ok.ret rfl
theorem DA{us:List DOu}(h1:us.length<=1000) (h2:∀x∈us,x.2.2.length<=1000):jC us=some (us,()):=by
 have e:dR iy NN (us,(us.length:Int),0,[],())=some (us,(us.length:Int),(us.length:Int),false,us,()):=by
  have:=my (f:=iy) (N:=NN) (st:=λk=>(us,(us.length:Int),(k:Int),us.take k,())) (n:=us.length) (t:=(us,(us.length:Int),(us.length:Int),false,us,())) (by unfold NN;omega) ?_ ?_
  ·exact this
  ·intro k hk;unfold iy;dsimp only
   (with_reducible refine dF (λhca=>?_) λhca=>?_)
   ·rw[dK];simp only[oBS];refine Ok.get (by omega) λx hx=>?_;have:=h2 x (dN hx);refine dG (dS (by omega)) (dG (dS (by simp;omega)) ?_)
    (simp (disch:=omega) only [dP,d7,dU,dV])
    refine Ok.ret ?_;rw[List.take_add_one,hx];rfl
   ·omega
  ·unfold iy;dsimp only
   (with_reducible refine dF (λhca=>?_) λhca=>?_)
   ·omega
   ·rw[List.take_length];exact Ok.ret rfl
 refine eV ?_;unfold jC;delta dM
 try dsimp only
 rw[e];exact Ok.ret rfl
theorem Dz{ss ck rn:List Int}{ins:List (List Int)}{d:List (List DCn)}{os:List DOp}{us:List DOu}(h:xN ss ck rn ins d os us):lp ck rn ins d os us=some (ck,rn,ins,d,os,us,()):=by
 have h1:=h.clock.1;have h2:=h.rand.1;have h3:=h.ilen;have h4:=h.ulen;have h5:=h.files.olen;have h6:=h.files.dlen;refine eV ?_;unfold lp;refine dG (dS (by omega)) (dG (dS (by omega)) ?_)
 rw[xn (by omega) (λx hx=>by have:=(h.inp x hx).1;omega),copy17_ok (by omega) (λx hx=>by have:=h.files.flen x hx;omega) (by omega),DA (by omega) (λx hx=>by
  obtain⟨i,hi⟩:=List.getElem?_of_mem hx;have:=(h.outs i x hi).2.2.2.1
  omega)]
 exact Ok.ret rfl
theorem Jk:rI=some ([-1,-1,-1,-1],[[],[],[],[]],()):=by kernel_rfl
structure iN (ow:List Int) (qs:List (List Int)):Prop where
 olen:ow.length=4
 qlen:qs.length=4
 owner:∀o∈ow,-1<=o/\o<=3
 queue:∀q∈qs,q.Nodup/\∀t∈q,0<=t/\t<=3
theorem Jb:∀{n:Nat}{q:List Int},q.Nodup->(∀t∈q,0<=t/\t < n)->q.length<=n:=by
 intro n
 induction n with
 | zero=>
  intro q _ h
  cases q with
  | nil=>simp
  | cons x q=>have:=h x (by simp);omega
 | succ n ih=>
  intro q hq h;have h1:(q.erase (n:Int)).Nodup:=hq.erase _
  have h2:∀t∈q.erase (n:Int),0<=t/\t < n:=λt ht=>by
   have hm:=(hq.mem_erase_iff).1 ht;have:=h t hm.2;have:=hm.1;omega
  have h3:=ih h1 h2;have h4:=List.length_erase (a:=(n:Int)) (l:=q);split at h4<;>omega
theorem iN.qlen4{ow:List Int}{qs:List (List Int)}(h:iN ow qs) {q:List Int}(hq:q∈qs):q.length<=4:=Jb (h.queue q hq).1 λt ht=>by have:=(h.queue q hq).2 t ht;omega
theorem N3:iN [-1,-1,-1,-1] [[],[],[],[]]:=⟨rfl,rfl,by decide,by decide⟩
theorem LC{code:List DIn}{ss bs:List Int}{dt:List (List Int)}{key:Int}{ck rn:List Int}{ins:List (List Int)}{d:List (List DCn)}{os:List DOp}{us:List DOu}(hp:kG code ss dt) (hl:LV bs ss) (ho:xN ss ck rn ins d os us) :
 Ok (lP code ss dt bs key ck rn ins d os us) λr=>∃cs ts,r=(code,ss,dt,bs,key,cs,eK,ts,ck,rn,ins,d,os,us,[-1,-1,-1,-1],[[],[],[],[]],(),[-1,-1,-1,-1],0,())/\MOk 0 ss bs cs eK ts:=by
 unfold lP;refine (Kn hp hl).bind ?_;rintro _ ⟨cs,ts,rfl,hm⟩;dsimp only;rw[tI hp.sz ho,D9 ho.files,Dz ho,Jk];simp only[oBS,oNT,oCF,bne_self_eq_false]
 have e:dR pe NN (0,(),(),(),(),0,(),(),(),(),(),(),(),(),(),(),(),(),(),code,ss,dt,bs,key,cs,eK,ts,ck,rn,ins,d,os,us,[-1,-1,-1,-1],[[],[],[],[]],(),[],())
  = some (4,false,(),(),(),(),0,(),(),(),(),(),(),(),(),(),(),(),(),(),code,ss,dt,bs,key,cs,eK,ts,ck,rn,ins,d,os,us,[-1,-1,-1,-1],[[],[],[],[]],(),[-1,-1,-1,-1],()):=rfl
 rw[e];exact Ok.ret ⟨cs,ts,rfl,hm⟩
theorem Ou.len{K:Int->Prop}{i:Nat}{x:DLn}(h:Ou K i x):x.2.2.length<=4:=by
 rcases h with ⟨_,_,h⟩ | ⟨_,_,_,h,_⟩
 ·rw[h];simp
 ·omega
theorem DB{K:Int->Prop}{cs:List DCe}{ls:List DLn}(h:i9 K cs ls):lz cs ls=some (cs,ls,()):=by
 obtain⟨h1,h2,h3,h4,_⟩:=h
 have e:dR iH NN (ls,(ls.length:Int),0,cs,ls,(),(),cs,[],())=some (ls,(ls.length:Int),(ls.length:Int),false,cs,ls,(),(),cs,ls,()):=by
  have:=my (f:=iH) (N:=NN) (st:=λk=>(ls,(ls.length:Int),(k:Int),cs,ls,(),(),cs,ls.take k,())) (n:=ls.length) (t:=(ls,(ls.length:Int),(ls.length:Int),false,cs,ls,(),(),cs,ls,())) (by unfold NN;omega) ?_ ?_
  ·exact this
  ·intro k hk;unfold iH;dsimp only
   (with_reducible refine dF (λhca=>?_) λhca=>?_)
   ·rw[dK];simp only[oBS];refine Ok.get (by omega) λx hx=>?_;have:=(h4 k x hx).len;refine dG (dS (by omega)) (dG (dS (by simp;omega)) ?_)
    (simp (disch:=omega) only [dP,d7,dU,dV])
    refine Ok.ret ?_;rw[List.take_add_one,hx];rfl
   ·omega
  ·unfold iH;dsimp only
   (with_reducible refine dF (λhca=>?_) λhca=>?_)
   ·omega
   ·rw[List.take_length];exact Ok.ret rfl
 refine eV ?_;unfold lz;refine dG (dS (by omega)) ?_;rw[show List.append [] cs=cs from rfl];delta dM
 try dsimp only
 rw[e];exact Ok.ret rfl
theorem pY{n key:Int}{ss bs:List Int}{cs:List DCe}{ls:List DLn}{ts:List DTh}(h:MOk n ss bs cs ls ts):iE bs key cs ls ts=some (bs,key,cs,ls,ts,()):=by
 obtain⟨h1,h2,h3,h4⟩:=h;have hb:=h1.2.1;have hs4:=h1.1.2.1
 have e:dR iD NN (ts,(ts.length:Int),0,bs,key,cs,ls,ts,(),0,(),(),(),bs,key,cs,ls,[],())=some (ts,(ts.length:Int),(ts.length:Int),false,bs,key,cs,ls,ts,(),0,(),(),(),bs,key,cs,ls,ts,()):=by
  have:=my (f:=iD) (N:=NN) (st:=λk=>(ts,(ts.length:Int),(k:Int),bs,key,cs,ls,ts,(),0,(),(),(),bs,key,cs,ls,ts.take k,())) (n:=ts.length) (t:=(ts,(ts.length:Int),(ts.length:Int),false,bs,key,cs,ls,ts,(),0,(),(),(),bs,key,cs,ls,ts,())) (by unfold NN;omega) ?_ ?_
  ·exact this
  ·intro k hk;unfold iD;dsimp only
   (with_reducible refine dF (λhca=>?_) λhca=>?_)
   ·rw[dK];simp only[oBS];refine Ok.get (by omega) λx hx=>?_;have:=(h4 x (dN hx)).len;refine dG (dS (by omega)) (dG (dS (by simp;omega)) ?_)
    (simp (disch:=omega) only [dP,d7,dU,dV])
    refine Ok.ret ?_;rw[List.take_add_one,hx];rfl
   ·omega
  ·unfold iD;dsimp only
   (with_reducible refine dF (λhca=>?_) λhca=>?_)
   ·omega
   ·rw[List.take_length];exact Ok.ret rfl
 refine eV ?_;unfold iE;refine dG (dS (by omega)) ?_;rw[DB h2,show List.append [] bs=bs from rfl];delta dM;simp only[oBS];rw[e];exact Ok.ret rfl
theorem qL{α:Type}{l:List α}{i:Nat}{f:α->α}{a:α}(h:l[i]?=some a):(List.modify l i f)[i]?=some (f a):=by rw[List.getElem?_modify,h];simp
theorem iY{α:Type}(l:List α) (i:Nat) (f g:α->α):List.modify (List.modify l i f) i g=List.modify l i λa=>g (f a):=by
 apply List.ext_getElem?;intro j;simp only[List.getElem?_modify];by_cases h:i=j
 ·simp only[h,if_true];cases l[j]?<;>rfl
 ·simp[h]
theorem MOk.thread{n:Int}{ss bs:List Int}{cs:List DCe}{ls:List DLn}{ts:List DTh}(h:MOk n ss bs cs ls ts) {i:Nat}{t:DTh}{f:DTh->DTh}(ht:ts[i]?=some t) (hf:xM (RK bs ss) n (f t)):MOk n ss bs cs ls (List.modify ts i f):=by
 refine⟨h.lay,h.mem,by rw[oLM];exact h.tlen,λx hx=>?_⟩;obtain⟨j,hj⟩:=List.getElem?_of_mem hx;rw[List.getElem?_modify] at hj;by_cases hij:i=j
 ·subst hij;rw[ht] at hj
  have hj:f t=x:=by simpa using hj
  rw[<- hj];exact hf
 ·simp only[hij,if_false] at hj
  have:ts[j]?=some x:=by simpa using hj
  exact h.thr x (dN this)
theorem L5{n key:Int}{ss bs:List Int}{cs:List DCe}{ls:List DLn}{ts:List DTh}(h:MOk n ss bs cs ls ts) (i:Int):Ok (mE bs key cs ls ts i) λr=>r.1=true->0<=i/\i < 4/\∀t,ts[i.toNat]?=some t->t.2.2.2.2.1≠-1:=by
 unfold mE;delta dM
 try dsimp only
 have:=h.tlen
 (with_reducible refine dF (λhca=>?_) λhca=>?_)
 ·exact Ok.ret (λh=>by cases h)
 ·(with_reducible refine dF (λhcb=>?_) λhcb=>?_)
  ·exact Ok.ret (λh=>by cases h)
  ·refine Ok.nat (by omega) λj hj=>?_;refine Ok.get (by omega) λt ht=>?_;subst hj
   (with_reducible refine dF (λhcc=>?_) λhcc=>?_)
   ·(with_reducible refine dF (λhcd=>?_) λhcd=>?_)
    ·exact Ok.ret (λ_=>⟨by omega,by omega,λt' ht'=>by
      rw[oTN,ht] at ht'
      injection ht' with ht'
      rw[<- ht']
      exact hcd⟩)
    ·exact Ok.ret (λh=>by cases h)
   ·exact Ok.ret (λh=>by cases h)
theorem Hv{n key:Int}{ss bs:List Int}{cs:List DCe}{ls:List DLn}{ts:List DTh}(h:MOk n ss bs cs ls ts) (i:Int):Ok (jX bs key cs ls ts i) λr=>∃ts' b,r=(bs,key,cs,ls,ts',b,())/\MOk n ss bs cs ls ts':=by
 unfold jX;rw[pY h];simp only[oBS];refine (L5 h i).bind ?_;rintro⟨b,_⟩ hb;dsimp only at hb ⊢
 (with_reducible refine dF (λhca=>?_) λhca=>?_)
 ·exact Ok.ret ⟨ts,false,rfl,h⟩
 ·have hb:=hb hca;have htl:=h.tlen;obtain⟨hb1,hb2,hb3⟩:=hb;refine Ok.nat hb1 λj hj=>?_;subst hj;refine Ok.get (by omega) λt ht=>?_;refine Ok.get (by omega) λt1 ht1=>?_;refine Ok.get (by omega) λt2 ht2=>?_;refine Ok.get (by omega) λt3 ht3=>?_;rw[ht] at ht1 ht2 ht3
  injection ht1 with ht1
  injection ht2 with ht2
  subst ht1 ht2;refine Ok.get (by rw[oLM];omega) λt4 ht4=>?_;have hne:=hb3 t (by rw[oTN];exact ht);have hok:=h.thr t (dN ht);rw[iY];exact Ok.ret ⟨_,_,rfl,h.thread ht ⟨hok.state,hok.len,hok.regs,⟨by have:=hok.handler;dsimp only;omega,hok.handler.2⟩,hok.count,hok.handler,⟨by have:=hok.pc;dsimp only;omega,hok.pc.2⟩,hok.trap,hok.code⟩⟩
theorem Mg{n why:Int}{ts:List DTh}{i:Nat}{t:DTh}(ht:ts[i]?=some t):fj i why ts=some (2,List.modify ts i λt=>(4,t.2.1,t.2.2.1,t.2.2.2.1,t.2.2.2.2.1,t.2.2.2.2.2.1,why,0),()):=by
 refine eV ?_;have hl:=(oGS ht).1;unfold fj;refine Ok.get hl λ_ _=>?_;refine Ok.get (by rw[oLM];exact hl) λ_ _=>?_;refine Ok.get (by rw[oLM,oLM];exact hl) λ_ _=>?_;rw[iY,iY];exact Ok.ret rfl
theorem xM.ended{K:Int->Prop}{n why:Int}{t:DTh}(h:xM K n t) (hw:0<=why/\why<=6):xM K n (4,t.2.1,t.2.2.1,t.2.2.2.1,t.2.2.2.2.1,t.2.2.2.2.2.1,why,0):=
 ⟨⟨by dsimp only;omega,by dsimp only;omega⟩,h.len,h.regs,h.pc,h.count,h.handler,h.saved,hw,⟨by dsimp only;omega,by dsimp only;omega⟩⟩
theorem tU{ss bs:List Int}{key a:Int}(h:LV bs ss) (ha:0<=a/\a<=65535):Ok (fc bs key ss a) λr=>(r.2.2.1=true->∃b n,0<=r.1/\bs[r.1.toNat]?=some b/\ss[r.1.toNat]?=some n/\0<=r.2.1/\r.2.1 < n/\a=b+r.2.1):=by
 obtain⟨hs,hl,hr⟩:=h;have hs4:=hs.2.1;unfold fc;delta dM
 try dsimp only
 obtain⟨t,e,ht⟩:=fS (f:=eJ) (n:=NN) (s:=(ss,a,bs,(bs.length:Int),0,bs,key,0,0,())) (P:=λs'=>∃k:Nat,s'=(ss,a,bs,(bs.length:Int),(k:Int),bs,key,0,0,())/\k<=bs.length)
  (R:=λr=>(∃x y,r=.inl (true,x,y,())/\∃b n,0<=x/\bs[x.toNat]?=some b/\ss[x.toNat]?=some n/\0<=y/\y < n/\a=b+y)\/∃z,r=.inr z) (m:=λs'=>(s'.2.2.2.1 - s'.2.2.2.2.1).toNat) ⟨0,rfl,by omega⟩ (by unfold NN;dsimp only;omega) (by
   rintro _ ⟨k,rfl,hk⟩;unfold eJ;dsimp only
   (with_reducible refine dF (λhca=>?_) λhca=>?_)
   ·rw[dK];simp only[oBS];obtain⟨b,hb⟩:∃b,bs[k]?=some b:=⟨_,oGE (by omega)⟩;obtain⟨y,hy⟩:∃y,ss[k]?=some y:=⟨_,oGE (by omega)⟩;have hy2:=hs.2.2 y (dN hy);have hrk:=hr k (by omega);unfold nQ at hrk;rw[dW hb,dW hy] at hrk;rw[show dI bs k=some b from hb];simp only[oBS];rw[show dI ss k=some y from hy];simp only[oBS];rw[dP (x:=b+y) (by omega) (by omega)];by_cases h1:a>=b
    ·by_cases h2:a < b+y
     ·simp only[h1,h2,decide_true,oCT];rw[dP (x:=a - b) (by omega) (by omega)];exact Ok.ret (.inl ⟨_,_,rfl,b,y,by omega,by rw[oTN];exact hb,by rw[oTN];exact hy,by omega,by omega,by omega⟩)
     ·simp only[h1,h2,decide_true,decide_false,oCT,oCF]
      (simp (disch:=omega) only [dP,d7,dU,dV])
      exact Ok.ret ⟨⟨k+1,rfl,by omega⟩,by dsimp only;omega⟩
    ·simp only[h1,decide_false,oCF]
     (simp (disch:=omega) only [dP,d7,dU,dV])
     exact Ok.ret ⟨⟨k+1,rfl,by omega⟩,by dsimp only;omega⟩
   ·exact Ok.ret (.inr ⟨_,rfl⟩))
 rw[e];rcases ht with ⟨x,y,rfl,hxy⟩ | ⟨z,rfl⟩
 ·exact Ok.ret λ_=>hxy
 ·exact Ok.ret λh=>by cases h
theorem zt{ss:List Int}{r o:Int}:Ok (fA ss r o) λx=>x.1=true->0<=r/\0<=o/\∃n,ss[r.toNat]?=some n/\o < n:=by
 unfold fA;delta dM
 try dsimp only
 (with_reducible refine dF (λhca=>?_) λhca=>?_)
 ·(with_reducible refine dF (λhcb=>?_) λhcb=>?_)
  ·(with_reducible refine dF (λhcc=>?_) λhcc=>?_)
   ·refine Ok.nat (by omega) λj hj=>?_;refine Ok.get (by omega) λn hn=>?_;subst hj;exact Ok.ret λh=>⟨by omega,by omega,n,by rw[oTN];exact hn,of_decide_eq_true h⟩
   ·exact Ok.ret λh=>by cases h
  ·exact Ok.ret λh=>by cases h
 ·exact Ok.ret λh=>by cases h
theorem wv{ss bs:List Int}{key tag v n:Int}{back:Bool}(h:LV bs ss) (hv:W16 v) (hn:W16 n):Ok (fC bs key ss tag v n back) λr=>∃t x e,r=(t,x,e,())/\m9 (RK bs ss) (t,x)/\0<=e/\e<=6/\(e=0->x < 512):=by
 have hz:∀e:Int,0 < e->e<=6->∃t x e',((0:Int),(0:Int),e,())=(t,x,e',())/\m9 (RK bs ss) (t,x)/\0<=e'/\e'<=6/\(e'=0->x < 512):=λe h1 h2=>⟨0,0,e,rfl,lD (by decide),by omega,h2,by omega⟩;obtain⟨v0,v1⟩:=hv;obtain⟨n0,n1⟩:=hn;unfold fC
 (with_reducible refine dF (λhca=>?_) λhca=>?_)
 ·exact Ok.ret (hz 3 (by decide) (by decide))
 ·rw[dU (x:=v) (by omega) (by omega),dU (x:=n) (by omega) (by omega)];refine (tU h ⟨v0,v1⟩).bind ?_;rintro⟨r,o,ok,_⟩ hres;dsimp only at hres ⊢
  (with_reducible refine dF (λhcb=>?_) λhcb=>?_)
  ·exact Ok.ret (hz 4 (by decide) (by decide))
  ·obtain⟨b,z,hr0,hb,hzz,ho0,ho1,_⟩:=hres hcb;have hz2:=h.1.2.2 z (dN hzz);refine Ok.bind (P:=λx=>∃o',x=(ss,bs,key,0,0,r,o',())/\-70000<=o'/\o'<=70000) ?_ ?_
   ·refine Ok.cond (λ_=>?_) λ_=>?_
    ·(simp (disch:=omega) only [dP,d7,dU,dV])
     exact Ok.ret ⟨_,rfl,by omega,by omega⟩
    ·(simp (disch:=omega) only [dP,d7,dU,dV])
     exact Ok.ret ⟨_,rfl,by omega,by omega⟩
   rintro _ ⟨o',rfl,ho2,ho3⟩;dsimp only;refine zt.bind ?_;rintro⟨q,_⟩ hin;dsimp only at hin ⊢
   (with_reducible refine dF (λhcc=>?_) λhcc=>?_)
   ·exact Ok.ret (hz 4 (by decide) (by decide))
   ·obtain⟨_,g1,m,g2,g3⟩:=hin hcc;have hm2:=h.1.2.2 m (dN g2);refine Ok.nat hr0 λj hj=>?_;subst hj;rw[oTN] at hb g2;have hjl:=(oGS hb).1;have hrj:=h.2.2 j hjl;unfold nQ at hrj;rw[dW hb,dW g2] at hrj;rw[show dI bs j=some b from hb];simp only[oBS];rw[dP (x:=b+o') (by omega) (by omega),d7 (x:=b+o') (by omega) (by omega)];exact Ok.ret ⟨_,_,_,rfl,⟨by dsimp only;omega,by dsimp only;omega,by dsimp only;omega,by dsimp only;omega,λ_=>⟨j,b,m,hb,g2,by dsimp only;omega,by dsimp only;omega⟩⟩,by decide,by decide,λ_=>by omega⟩
theorem i9.line{K:Int->Prop}{cs:List DCe}{ls:List DLn}(h:i9 K cs ls) {i:Nat}{x:DLn}{f:DLn->DLn}(hx:ls[i]?=some x) (hf:Ou K i (f x)) (hg:OH cs (f x)):i9 K cs (List.modify ls i f):=by
 have key:∀(j:Nat) y,(List.modify ls i f)[j]?=some y->Ou K j y/\OH cs y:=λj y hy=>by
  rw[List.getElem?_modify] at hy;by_cases hij:i=j
  ·subst hij;rw[hx] at hy
   have hy:f x=y:=by simpa using hy
   rw[<- hy];exact⟨hf,hg⟩
  ·simp only[hij,if_false] at hy;exact⟨h.lines j y (by simpa using hy),h.coh j y (by simpa using hy)⟩
 exact⟨h.clen,h.cells,by rw[oLM];exact h.llen,λj y hy=>(key j y hy).1,λj y hy=>(key j y hy).2⟩
theorem Gq{cs xs:List DCe}{lo k:Nat}(h1:lo+4<=cs.length) (h3:4<=xs.length) (hk:k < lo\/lo+4<=k):(mJ cs lo 4 xs)[k]?=cs[k]?:=by
 unfold mJ;rcases hk with hk | hk
 ·rw[List.append_assoc,List.getElem?_append_left (by rw[oLT];omega),List.getElem?_take_of_lt hk]
 ·rw[List.getElem?_append_right (by simp only[List.length_append,oLT];omega),List.getElem?_drop];congr 1;simp only[List.length_append,oLT];omega
theorem H4{K:Int->Prop}{cs xs:List DCe}{lo n:Nat}(h1:cs.length=512) (h2:lo+n<=512) (h3:n<=xs.length) (hc:∀c∈cs,m9 K c) (hx:∀c∈xs,m9 K c):(mJ cs lo n xs).length=512/\∀c∈mJ cs lo n xs,m9 K c:=by
 unfold mJ;refine⟨?_,λc hh=>?_⟩
 ·simp only[List.length_append,oLT,List.length_drop];omega
 ·simp only[List.mem_append] at hh;rcases hh with (hh | hh) | hh
  ·exact hc c (List.mem_of_mem_take hh)
  ·exact hx c (List.mem_of_mem_take hh)
  ·exact hc c (List.mem_of_mem_drop hh)
theorem FT{K:Int->Prop}{cs:List DCe}{ls:List DLn}{a:Int}(h:i9 K cs ls) (ha:0<=a/\a < 512):Ok (j7 a cs ls) λr=>∃i cs' ls' x,r=(i,cs',ls',())/\i9 K cs' ls'/\ls'[i]?=some x/\x.1=a / 4/\x.2.2.length=4:=by
 obtain⟨a0,a1⟩:=ha;obtain⟨h1,h2,h3,h4,h5⟩:=id h;unfold j7;rw[Int.tdiv_eq_ediv_of_nonneg a0,dP (x:=a / 4) (by omega) (by omega)];dsimp only;rw[Int.tmod_eq_emod_of_nonneg (show 0<=a / 4 by omega)];refine Ok.nat (by omega) λi hi=>?_
 have hil:i < ls.length:=by omega
 obtain⟨x,hx⟩:∃x,ls[i]?=some x:=⟨_,oGE hil⟩;have hg:dI ls i=some x:=hx;have hL:=h4 i x hx;simp only[hg,oBS]
 (with_reducible refine dF (λhca=>?_) λhca=>?_)
 ·refine Ok.ret ⟨i,cs,ls,x,rfl,h,hx,hca,?_⟩;rcases hL with ⟨g1,_,_⟩ | ⟨_,_,_,g,_⟩
  ·omega
  ·exact g
 ·refine Ok.bind (P:=λr=>∃cs',r=(a / 4,i,cs',ls,())/\cs'.length=512/\(∀c∈cs',m9 K c)/\∀(j:Nat) y,ls[j]?=some y->OH cs' y) ?_ ?_
  ·refine Ok.cond (λhd=>?_) λ_=>Ok.ret ⟨cs,rfl,h1,h2,h5⟩;rcases hL with ⟨_,g,_⟩ | ⟨g1,g2,g3,g4,g5⟩
   ·rw[g] at hd;cases hd
   ·rw[dP (x:=x.1*4) (by omega) (by omega)];refine Ok.nat (by omega) λq hq=>?_;refine dG (by unfold gS;simp;omega) ?_
    try simp only[hg,oBS]
    rw[g4,h1]
    have hmin:Nat.min 4 (Nat.sub 512 q)=4:=by
     show min 4 (512 - q)=4;omega
    rw[hmin];refine dG (by unfold gS;simp;omega) ?_;refine dG rfl ?_;obtain⟨s1,s2⟩:=H4 (lo:=q) (n:=4) h1 (by omega) (by omega) h2 g5;refine Ok.ret ⟨_,rfl,s1,s2,λj y hy=>?_⟩;by_cases hij:j=i
    ·subst hij;rw[hx] at hy
     injection hy with hy
     subst hy;exact .inr (.inl hd)
    ·rcases h5 j y hy with g | g | g
     ·exact .inl g
     ·exact .inr (.inl g)
     ·rcases h4 j y hy with ⟨g',_,_⟩ | ⟨y1,y2,y3,y4,y5⟩
      ·exact .inl g'
      ·refine .inr (.inr λo ho=>?_);rw[Gq (by omega) (by omega) (by omega)];exact g o ho
  rintro _ ⟨cs',rfl,c1,c2,c3⟩;dsimp only;rw[dP (x:=a / 4*4) (by omega) (by omega),dP (x:=a / 4+1) (by omega) (by omega),dP (x:=(a / 4+1)*4) (by omega) (by omega)];simp only[hg,oBS];refine Ok.get (by rw[oLM];exact hil) λ_ _=>?_;refine Ok.nat (by omega) λq hq=>?_;refine Ok.nat (by omega) λq2 hq2=>?_;refine dG (by unfold gS;simp;omega) ?_
  have hw:(jN cs' q (Nat.sub q2 q)).length=4:=by
   unfold jN;rw[oLT,List.length_drop];show min (q2 - q) _=4;omega
  refine dG (dS (by omega)) ?_;refine Ok.get (by rw[oLM,oLM];exact hil) λ_ _=>?_;rw[iY,iY,show List.append [] (jN cs' q (Nat.sub q2 q))=jN cs' q (Nat.sub q2 q) from rfl];have hmem:i9 K cs' ls:=⟨c1,c2,h3,h4,c3⟩;refine Ok.ret ⟨i,cs',_,_,rfl,hmem.line hx (.inr ⟨by dsimp only;omega,by dsimp only;omega,by dsimp only;omega,hw,λc hc=>c2 c ?_⟩) (.inr (.inr λo ho=>?_)),qL hx,rfl,hw⟩
  ·dsimp only at hc;unfold jN at hc;exact List.mem_of_mem_drop (List.mem_of_mem_take hc)
  ·dsimp only;unfold jN;rw[hq,oTN,List.getElem?_take_of_lt (show o < Nat.sub q2 q by show o < q2 - q;omega),List.getElem?_drop]
theorem Jo{K:Int->Prop}{cs:List DCe}{ls:List DLn}{a:Int}(h:i9 K cs ls) (ha:0<=a/\a < 512):Ok (ly a cs ls) λr=>∃t v cs' ls',r=(t,v,cs',ls',())/\m9 K (t,v)/\i9 K cs' ls':=by
 unfold ly;refine (FT h ha).bind ?_;rintro _ ⟨i,cs',ls',x,rfl,hm,hx,hx1,hx2⟩;dsimp only;have hg:dI ls' i=some x:=hx;simp only[hg,oBS];rw[Int.tmod_eq_emod_of_nonneg ha.1];refine Ok.nat (by omega) λj hj=>?_;refine Ok.get (by omega) λ_ _=>?_;refine Ok.get (by omega) λc hc=>?_
 have hc2:m9 K c:=by
  rcases hm.lines i x hx with ⟨_,_,g⟩ | ⟨_,_,_,_,g⟩
  ·rw[g] at hx2;cases hx2
  ·exact g c (dN hc)
 exact Ok.ret ⟨_,_,_,_,rfl,hc2,hm⟩
theorem y8{K:Int->Prop}{cs:List DCe}{ls:List DLn}{a t v:Int}(h:i9 K cs ls) (ha:0<=a/\a < 512) (hc:m9 K (t,v)):Ok (iU a t v cs ls) λr=>∃cs' ls',r=(cs',ls',())/\i9 K cs' ls':=by
 unfold iU;refine (FT h ha).bind ?_;rintro _ ⟨i,cs',ls',x,rfl,hm,hx,hx1,hx2⟩;dsimp only;have hg:dI ls' i=some x:=hx;have hil:=(oGS hx).1;simp only[hg,oBS];rw[Int.tmod_eq_emod_of_nonneg ha.1];refine Ok.nat (by omega) λj hj=>?_;refine Ok.get (by omega) λ_ _=>?_;refine Ok.get (by omega) λ_ _=>?_;refine Ok.get (by rw[oLM];exact hil) λ_ _=>?_;rw[iY];refine Ok.ret ⟨_,_,rfl,hm.line hx ?_ (.inr (.inl rfl))⟩;rcases hm.lines i x hx with ⟨_,_,g⟩ | ⟨g1,g2,g3,g4,g5⟩
 ·rw[g] at hx2;cases hx2
 ·exact .inr ⟨g1,g2,g3,by dsimp only;rw[oLM];exact g4,io g5 λ_ _=>hc⟩
theorem oh(x:Int):W16 (wk .u16 x):=by
 unfold wk;rw[zM];exact⟨by omega,by omega⟩
theorem LF{ss bs:List Int}{key t v t' v':Int}(h:LV bs ss) (hv:W16 v) (hv':W16 v'):Ok (j5 bs key ss t v t' v') λ_=>True:=by
 obtain⟨v0,v1⟩:=hv;obtain⟨u0,u1⟩:=hv';unfold j5;rw[dU (x:=v) (by omega) (by omega),dU (x:=v') (by omega) (by omega)];refine (tU h ⟨v0,v1⟩).bind ?_;rintro⟨r,o,ok,_⟩ _;dsimp only;refine (tU h ⟨u0,u1⟩).bind ?_;rintro⟨r',o',ok',_⟩ _;dsimp only;cases ok<;>cases ok'<;>exact Ok.ret trivial
theorem EN(b:Bool):jG b=some (0,(bif b then 1 else 0),()):=by cases b<;>rfl
theorem NX{op b c:Int}(hb:W16 b) (hc:W16 c):Ok (j4 op b c) λr=>∃v e,r=(0,v,e,())/\W16 v/\0<=e/\e<=6:=by
 obtain⟨b0,b1⟩:=hb;obtain⟨c0,c1⟩:=hc;have fin:∀x:Int,W16 x->Ok (some ((0:Int),x,(0:Int),())) λr=>∃v e,r=(0,v,e,())/\W16 v/\0<=e/\e<=6:=λx h=>Ok.ret ⟨x,0,rfl,h,by decide,by decide⟩;have z5:Ok (some ((0:Int),(0:Int),(5:Int),())) λr=>∃v e,r=(0,v,e,())/\W16 v/\0<=e/\e<=6:=Ok.ret ⟨0,5,rfl,⟨by decide,by decide⟩,by decide,by decide⟩;have hw:∀x:Int,W16 (IntKind.wrap .u16 x):=oh;unfold j4
 (with_reducible refine dF (λhca=>?_) λhca=>?_)
 ·exact fin _ (oh _)
 (with_reducible refine dF (λhcb=>?_) λhcb=>?_)
 ·exact fin _ (oh _)
 (with_reducible refine dF (λhcc=>?_) λhcc=>?_)
 ·exact fin _ (oh _)
 have hq:∀X:Option (Int×Int×Int×Unit),c≠0->(X=(bif (op==6) then (bif (c != 0) then some ((0:Int),wk .u16 (Int.tdiv b c),(0:Int),()) else none) else bif (c != 0) then some ((0:Int),Int.tmod b c,(0:Int),()) else none))->Ok X λr=>∃v e,r=(0,v,e,())/\W16 v/\0<=e/\e<=6:=by
  rintro _ hne rfl;refine Ok.cond (λ_=>dG (by rw[bne_iff_ne];exact hne) (fin _ (oh _))) λ_=>dG (by rw[bne_iff_ne];exact hne) (fin _ ?_);rw[Int.tmod_eq_emod_of_nonneg b0];have h1:=Int.emod_nonneg b hne;have h2:=Int.emod_lt_of_pos b (show 0 < c by omega);exact⟨h1,by omega⟩
 (with_reducible refine dF (λhcd=>?_) λhcd=>?_)
 ·(with_reducible refine dF (λhce=>?_) λhce=>?_)
  ·exact z5
  ·exact hq _ hce rfl
 (with_reducible refine dF (λhcd=>?_) λhcd=>?_)
 ·(with_reducible refine dF (λhce=>?_) λhce=>?_)
  ·exact z5
  ·exact hq _ hce rfl
 (with_reducible refine dF (λhcf=>?_) λhcf=>?_)
 ·exact fin _ (hw _)
 (with_reducible refine dF (λhcf=>?_) λhcf=>?_)
 ·exact fin _ (hw _)
 (with_reducible refine dF (λhcf=>?_) λhcf=>?_)
 ·exact fin _ (hw _)
 (with_reducible refine dF (λhcf=>?_) λhcf=>?_)
 ·rw[Int.tmod_eq_emod_of_nonneg c0];refine Ok.nat (by omega) λj hj=>?_;exact fin _ (hw _)
 (with_reducible refine dF (λhcf=>?_) λhcf=>?_)
 ·rw[Int.tmod_eq_emod_of_nonneg c0];refine Ok.nat (by omega) λj hj=>fin _ ?_;show W16 (Int.fdiv b (2 ^ (min j 16)));have hp:(0:Int) < 2 ^ (min j 16):=Int.pow_pos (by decide);rw[Int.fdiv_eq_ediv_of_nonneg _ (by omega)];exact⟨Int.ediv_nonneg b0 (by omega),by have:=Int.ediv_le_self (2 ^ (min j 16)) b0;omega⟩
 rw[EN];refine fin _ ?_;cases decide (b < c)
 ·exact⟨by decide,by decide⟩
 ·exact⟨by decide,by decide⟩
def Mc(K:Int->Prop) (r:Int×Int×Int×Unit):Prop:=∃t v e,r=(t,v,e,())/\m9 K (t,v)/\0<=e/\e<=6
theorem pX{K:Int->Prop}{t v e:Int}(h:m9 K (t,v)) (h0:0<=e) (h1:e<=6):Ok (some (t,v,e,())) (Mc K):=Ok.ret ⟨t,v,e,rfl,h,h0,h1⟩
theorem vC{K:Int->Prop}{v:Int}(h:W16 v):m9 K (0,v):=lD h
theorem Ds{K:Int->Prop}(b:Bool):m9 K (0,bif b then 1 else 0):=vC (by cases b<;>exact⟨by decide,by decide⟩)
theorem sc{K:Int->Prop}:m9 K (0,0):=vC ⟨by decide,by decide⟩
theorem OU{ss bs:List Int}{key op t v t' v':Int}(h:LV bs ss) (hb:m9 (RK bs ss) (t,v)) (hc:m9 (RK bs ss) (t',v')):Ok (qB bs key ss op t v t' v') (Mc (RK bs ss)):=by
 obtain⟨t0,t2,v0,v1,_⟩:=hb;obtain⟨u0,u2,w0,w1,_⟩:=hc;dsimp only at t0 t2 v0 v1 u0 u2 w0 w1;obtain⟨_,eN,n1,n2,rfl,hn1,hn2,hn3⟩:=NX (op:=op) (b:=v) (c:=v') ⟨v0,v1⟩ ⟨w0,w1⟩;obtain⟨_,eA,a1,a2,a3,rfl,ha1,ha2,ha3,_⟩:=wv (key:=key) (tag:=t) (back:=false) h (v:=v) (n:=v') ⟨v0,v1⟩ ⟨w0,w1⟩;obtain⟨_,eB,b1,b2,b3,rfl,hb1,hb2,hb3,_⟩:=wv (key:=key) (tag:=t') (back:=false) h (v:=v') (n:=v) ⟨w0,w1⟩ ⟨v0,v1⟩;obtain⟨_,eC,c1,c2,c3,rfl,hc1,hc2,hc3,_⟩:=wv (key:=key) (tag:=t) (back:=true) h (v:=v) (n:=v') ⟨v0,v1⟩ ⟨w0,w1⟩;obtain⟨⟨p1,p2,p3,p4,ok,_⟩,eP,_⟩:=LF (key:=key) (t:=t) (t':=t') h (v:=v) (v':=v') ⟨v0,v1⟩ ⟨w0,w1⟩;unfold qB
 (with_reducible refine dF (λhca=>?_) λhca=>?_)
 ·exact pX sc (by decide) (by decide)
 (with_reducible refine dF (λhcb=>?_) λhcb=>?_)
 ·exact pX sc (by decide) (by decide)
 cases h14:(op==14) with
 | true=>
  simp only[oCT,EN,oBS];exact pX (Ds _) (by decide) (by decide)
 | false=>
  simp only[oCF,eN,eA,eB,eC,eP,oBS]
  rcases (show t=0\/t=1\/t=2 by omega) with rfl | rfl | rfl<;>rcases (show t'=0\/t'=1\/t'=2 by omega) with rfl | rfl | rfl
  all_goals
   cases h3:(op==3)<;>cases h4:(op==4)<;>cases h13:(op==13)<;>simp only[Int.reduceBEq,oCT,oCF,oBS,h3,h4,h13,EN,eN,eA,eB,eC,eP,BEq.rfl]
  all_goals first
   | exact pX (vC hn1) hn2 hn3
   | exact pX ha1 ha2 ha3
   | exact pX hb1 hb2 hb3
   | exact pX hc1 hc2 hc3
   | exact pX sc (by decide) (by decide)
   | (cases ok<;>first
    | exact pX sc (by decide) (by decide)
    | exact pX (Ds _) (by decide) (by decide)
    | exact pX (vC (oh _)) (by decide) (by decide))
theorem JV{l:List Int}{k:Int}(h:DOk l k):Ok (md l k) λr=>∃t b s k',r=(t,b,s,l,k',())/\0<=t/\t < 4/\0<=b/\b<=63/\DOk l k':=by
 unfold md
 (with_reducible refine fu (by assumption) (by omega) (by omega) (λv0 k0 a0 b0 d0=>?_);try dsimp only)
 (with_reducible refine fu (by assumption) (by omega) (by omega) (λv1 k1 a1 b1 d1=>?_);try dsimp only)
 (with_reducible refine Ok.nat (by omega) (λj1 hj1=>?_);try dsimp only)
 have hm:∀x∈[(0:Int),1,2,3,7,63],0<=x/\x<=63:=all_cons (by omega) (all_cons (by omega) (all_cons (by omega) (all_cons (by omega) (all_cons (by omega) (all_cons (by omega) ee)))));refine Ok.get (by simp only[oLC,List.length_nil];omega) λx hx=>?_;refine Ok.get (by simp only[oLC,List.length_nil];omega) λy hy=>?_;have hy2:=hm y (dN hy)
 (with_reducible refine fu (by assumption) (by omega) (by omega) (λv2 k2 a2 b2 d2=>?_);try dsimp only)
 exact Ok.ret ⟨_,_,_,_,rfl,a0,b0,hy2.1,hy2.2,d2⟩
def it:List DTh->Int->List Int
 | [],_=>[]
 | t :: ts,i=>if t.1=1 then i :: it ts (i+1) else it ts (i+1)
theorem zW(a b:List DTh) (i:Int):it (a++b) i=it a i++it b (i+a.length):=by
 induction a generalizing i with
 | nil=>simp[it]
 | cons t a ih=>
  simp only[List.cons_append,it,ih,oLC];rw[show i+1+(a.length:Int)=i+((a.length+1:Nat):Int) by omega];split<;>rfl
theorem zj(a:List DTh) (i:Int):(it a i).length<=a.length:=by
 induction a generalizing i with
 | nil=>simp[it]
 | cons t a ih=>
  simp only[it];have:=ih (i+1);split<;>simp only[oLC]<;>omega
theorem GF{a:List DTh}{i x:Int}(h:x∈it a i):i<=x/\x < i+a.length/\∃t,a[(x - i).toNat]?=some t/\t.1=1:=by
 induction a generalizing i with
 | nil=>simp[it] at h
 | cons t a ih=>
  simp only[it] at h
  have key:x∈it a (i+1)->i<=x/\x < i+((t :: a).length:Int)/\∃t',(t :: a)[(x - i).toNat]?=some t'/\t'.1=1:=by
   intro h;obtain⟨h1,h2,t',h3,h4⟩:=ih h;refine⟨by omega,by simp only[oLC];omega,t',?_,h4⟩;rw[show (x - i).toNat=(x - (i+1)).toNat+1 by omega,List.getElem?_cons_succ];exact h3
  split at h
  ·rename_i ht;rcases List.mem_cons.1 h with rfl | h
   ·exact⟨by omega,by simp only[oLC];omega,t,by simp,ht⟩
   ·exact key h
  ·exact key h
theorem KR{ts:List DTh}(h:ts.length<=1000):lZ ts=some (it ts 0,()):=by
 have e:dR ic NN (ts,(ts.length:Int),0,[],())=some (ts,(ts.length:Int),(ts.length:Int),false,it ts 0,()):=by
  have:=my (f:=ic) (N:=NN) (st:=λk=>(ts,(ts.length:Int),(k:Int),it (ts.take k) 0,())) (n:=ts.length) (t:=(ts,(ts.length:Int),(ts.length:Int),false,it ts 0,())) (by unfold NN;omega) ?_ ?_
  ·exact this
  ·intro k hk;unfold ic;dsimp only
   (with_reducible refine dF (λhca=>?_) λhca=>?_)
   ·rw[dK];simp only[oBS];obtain⟨x,hx⟩:∃x,ts[k]?=some x:=⟨_,oGE hk⟩;rw[show dI ts k=some x from hx];simp only[oBS];have hlen:=zj (ts.take k) 0;rw[oLT] at hlen
    have hnext:it (ts.take (k+1)) 0=it (ts.take k) 0++(if x.1=1 then [(k:Int)] else []):=by
     rw[List.take_add_one,hx,zW];congr 1;rw[oLT,show 0+((min k ts.length:Nat):Int)=(k:Int) by omega];simp only[Option.toList,it]
    refine Ok.bind (P:=(·=(ts,(ts.length:Int),(k:Int),it (ts.take (k+1)) 0,()))) ?_ ?_
    ·(with_reducible refine dF (λhcb=>?_) λhcb=>?_)
     ·refine dG (dS (by simp;omega)) ?_;rw[hnext,oIP hcb];exact Ok.ret rfl
     ·rw[hnext,oIN hcb,List.append_nil];exact Ok.ret rfl
    ·rintro _ rfl;dsimp only
     (simp (disch:=omega) only [dP,d7,dU,dV])
     exact Ok.ret rfl
   ·omega
  ·unfold ic;dsimp only
   (with_reducible refine dF (λhca=>?_) λhca=>?_)
   ·omega
   ·rw[List.take_length];exact Ok.ret rfl
 refine eV ?_;unfold lZ;delta dM
 try dsimp only
 rw[e];exact Ok.ret rfl
theorem xo{ow:List Int}{qs:List (List Int)}(h:iN ow qs):jE ow qs=some (ow,qs,()):=by
 have hq4:∀q∈qs,q.length<=4:=λq hq=>h.qlen4 hq;obtain⟨h1,h2,h3,h4⟩:=h
 have e:dR iA NN (qs,(qs.length:Int),0,ow,qs,(),(),ow,[],())=some (qs,(qs.length:Int),(qs.length:Int),false,ow,qs,(),(),ow,qs,()):=by
  have:=my (f:=iA) (N:=NN) (st:=λk=>(qs,(qs.length:Int),(k:Int),ow,qs,(),(),ow,qs.take k,())) (n:=qs.length) (t:=(qs,(qs.length:Int),(qs.length:Int),false,ow,qs,(),(),ow,qs,())) (by unfold NN;omega) ?_ ?_
  ·exact this
  ·intro k hk;unfold iA;dsimp only
   (with_reducible refine dF (λhca=>?_) λhca=>?_)
   ·rw[dK];simp only[oBS];refine Ok.get (by omega) λx hx=>?_;have:=hq4 x (dN hx);refine dG (dS (by omega)) (dG (dS (by simp;omega)) ?_)
    (simp (disch:=omega) only [dP,d7,dU,dV])
    refine Ok.ret ?_;rw[List.take_add_one,hx];rfl
   ·omega
  ·unfold iA;dsimp only
   (with_reducible refine dF (λhca=>?_) λhca=>?_)
   ·omega
   ·rw[List.take_length];exact Ok.ret rfl
 refine eV ?_;unfold jE;refine dG (dS (by omega)) ?_;rw[show List.append [] ow=ow from rfl];delta dM
 try dsimp only
 rw[e];exact Ok.ret rfl
theorem EJ{ow:List Int}{qs:List (List Int)}{lock t:Int}(h:iN ow qs):Ok (jD ow qs lock t) λr=>∃ow' qs' n b,r=(ow',qs',n,b,())/\iN ow' qs'/\-1<=n/\n<=3:=by
 unfold jD;rw[xo h];simp only[oBS];obtain⟨h1,h2,h3,h4⟩:=id h;refine Ok.bind (P:=λr=>∃b,r=(lock,b,(),(),ow,qs,())/\(b=false->0<=lock/\lock < 4)) ?_ ?_
 ·(with_reducible refine dF (λhca=>?_) λhca=>?_)
  ·exact Ok.ret ⟨true,rfl,λh=>by cases h⟩
  ·(with_reducible refine dF (λhcb=>?_) λhcb=>?_)
   ·exact Ok.ret ⟨true,rfl,λh=>by cases h⟩
   ·refine Ok.nat (by omega) λj hj=>?_;refine Ok.get (by omega) λx hx=>?_;exact Ok.ret ⟨_,rfl,λ_=>⟨by omega,by omega⟩⟩
 rintro _ ⟨b,rfl,hb⟩;dsimp only;refine Ok.cond (λ_=>Ok.ret ⟨_,_,_,_,rfl,h,by omega,by omega⟩) λhbf=>?_;obtain⟨l0,l1⟩:=hb hbf;obtain⟨j,rfl⟩:∃j:Nat,lock=j:=⟨lock.toNat,by omega⟩;obtain⟨o,ho⟩:∃o,ow[j]?=some o:=⟨_,oGE (by omega)⟩;obtain⟨q,hq⟩:∃q,qs[j]?=some q:=⟨_,oGE (by omega)⟩;have go:dI ow j=some o:=ho;have gq:dI qs j=some q:=hq;have gm:∀f:Int->Int,dI (List.modify ow j f) j=some (f o):=λf=>qL ho;have gm2:∀f g:Int->Int,dI (List.modify (List.modify ow j f) j g) j=some (g (f o)):=λf g=>qL (qL ho);delta dM;simp only[dK,oBS,go,gq,gm,gm2];have hl1:iN (List.modify ow j λ_=>-1) qs:=⟨by rw[oLM];exact h1,h2,io h3 λ_ _=>⟨by omega,by omega⟩,h4⟩
 (with_reducible refine dF (λhcc=>?_) λhcc=>?_)
 ·obtain⟨x,hx⟩:∃x,q[0]?=some x:=⟨_,oGE (by omega)⟩;have gx:dI q 0=some x:=hx;have hx2:=(h4 q (dN hq)).2 x (dN hx);simp only[gx,oBS];refine dG (by unfold gS;simp;omega) ?_;refine Ok.ret ⟨_,_,_,_,rfl,⟨by rw[oLM,oLM];exact h1,by rw[oLM];exact h2,io (io h3 λ_ _=>⟨by omega,by omega⟩) λ_ _=>⟨by omega,by omega⟩,io h4 λ_ _=>?_⟩,by omega,by omega⟩;obtain⟨q1,q2⟩:=h4 q (dN hq);unfold jN;have hs:(List.take (Nat.sub q.length 1) (List.drop 1 q)).Sublist q:=(List.take_sublist _ _).trans (List.drop_sublist _ _);exact⟨q1.sublist hs,λt ht=>q2 t (hs.subset ht)⟩
 ·exact Ok.ret ⟨_,_,_,_,rfl,hl1,by omega,by omega⟩
theorem GW{q:List Int}{x:Int}(h:q.Nodup) (hx:x ∉ q):(q++[x]).Nodup:=by
 rw[List.nodup_append];refine⟨h,by simp,λa ha b hb=>?_⟩;simp only[List.mem_singleton] at hb;subst hb;intro e;subst e;exact hx ha
theorem Nj{ow:List Int}{qs:List (List Int)}{t:Int}(h:iN ow qs):Ok (nq ow qs t) λr=>∃ow' qs' nx,r=(ow',qs',nx,())/\iN ow' qs'/\nx.length<=4/\∀x∈nx,0<=x/\x<=3:=by
 unfold nq;rw[xo h];delta dM;simp only[oBS];have h2:=h.qlen;refine Ok.loop (P:=λs'=>∃k:Nat,∃qs',s'=(t,(qs.length:Int),(k:Int),(),(),ow,qs',())/\k<=qs.length/\iN ow qs') (R:=λr=>∃a b c qs',r=(t,a,b,c,(),(),ow,qs',())/\iN ow qs') (m:=λs'=>(s'.2.1 - s'.2.2.1).toNat) ⟨0,qs,rfl,by omega,h⟩ (by unfold NN;dsimp only;omega) ?_ ?_
 ·rintro _ ⟨k,qs',rfl,hk,hl⟩;obtain⟨g1,g2,g3,g4⟩:=id hl;unfold pF;dsimp only
  (with_reducible refine dF (λhca=>?_) λhca=>?_)
  ·obtain⟨q,hq⟩:∃q,qs'[k]?=some q:=⟨_,oGE (by omega)⟩;have gq:dI qs' k=some q:=hq;obtain⟨q1,q2⟩:=g4 q (dN hq);have q3:=hl.qlen4 (dN hq);delta dM;simp only[dK,oBS,gq]
   refine Ok.loop (P:=λs'=>∃j:Nat,∃l,s'=(t,(k:Int),(qs.length:Int),(k:Int),k,(q.length:Int),(j:Int),(),(),ow,qs',l,())/\j<=q.length/\l.Sublist (q.take j))
    (R:=λr=>∃a b c d l,r=(t,(k:Int),(qs.length:Int),(k:Int),a,b,c,d,(),(),ow,qs',l,())/\l.Sublist q) (m:=λs'=>(s'.2.2.2.2.2.1 - s'.2.2.2.2.2.2.1).toNat) ⟨0,[],rfl,by omega,by simp⟩ (by unfold NN;dsimp only;omega) ?_ ?_
   ·rintro _ ⟨j,l,rfl,hj,hsub⟩;unfold pG;dsimp only
    (with_reducible refine dF (λhcb=>?_) λhcb=>?_)
    ·obtain⟨x,hx⟩:∃x,q[j]?=some x:=⟨_,oGE (by omega)⟩;have gx:dI q j=some x:=hx;simp only[dK,oBS,gq,gx];have hll:=hsub.length_le;rw[oLT] at hll
     have htk:q.take (j+1)=q.take j++[x]:=by rw[List.take_add_one,hx];rfl
     refine Ok.bind (P:=λr=>∃l',r=(t,(k:Int),(qs.length:Int),(k:Int),k,(q.length:Int),(j:Int),(),(),ow,qs',l',())/\l'.Sublist (q.take (j+1))) ?_ ?_
     ·refine Ok.cond (λ_=>dG (dS (by simp;omega)) (Ok.ret ⟨_,rfl,?_⟩)) λ_=>Ok.ret ⟨l,rfl,?_⟩
      ·rw[htk];exact hsub.append (List.Sublist.refl _)
      ·rw[htk];exact hsub.trans (List.sublist_append_left _ _)
     ·rintro _ ⟨l',rfl,hs⟩;dsimp only
      (simp (disch:=omega) only [dP,d7,dU,dV])
      exact Ok.ret ⟨⟨j+1,l',rfl,by omega,hs⟩,by dsimp only;omega⟩
    ·exact Ok.ret ⟨_,_,_,_,l,rfl,hsub.trans (List.take_sublist _ _)⟩
   ·rintro _ ⟨a,b,c,d,l,rfl,hs⟩;dsimp only;simp only[dK,oBS,gq]
    (simp (disch:=omega) only [dP,d7,dU,dV])
    exact Ok.ret ⟨⟨k+1,_,rfl,by omega,⟨g1,by rw[oLM];exact g2,g3,io g4 λ_ _=>⟨q1.sublist hs,λt ht=>q2 t (hs.subset ht)⟩⟩⟩,by dsimp only;omega⟩
  ·exact Ok.ret ⟨_,_,_,qs',rfl,hl⟩
 ·rintro _ ⟨a,b,c,qs',rfl,hl⟩;dsimp only
  refine Ok.loop (P:=λs'=>∃k:Nat,∃ow' qs' nx,s'=(t,4,(k:Int),(),(),ow',qs',nx,())/\k<=4/\nx.length<=k/\iN ow' qs'/\∀x∈nx,0<=x/\x<=3) (R:=λr=>∃a b c ow' qs' nx,r=(t,a,b,c,(),(),ow',qs',nx,())/\iN ow' qs'/\nx.length<=4/\∀x∈nx,0<=x/\x<=3) (m:=λs'=>(4 - s'.2.2.1).toNat)
   ⟨0,ow,qs',[],by rw[hl.olen];rfl,by omega,by simp,hl,ee⟩ (by unfold NN;dsimp only;omega) ?_ ?_
  ·rintro _ ⟨k,ow',qs',nx,rfl,hk,hnl,hl',hnx⟩;unfold pE;dsimp only
   (with_reducible refine dF (λhca=>?_) λhca=>?_)
   ·refine (EJ hl').bind ?_;rintro _ ⟨ow2,qs2,n,bb,rfl,hl2,n0,n1⟩;dsimp only;refine Ok.bind (P:=λr=>∃nx',r=(t,4,(k:Int),(),(),ow',qs',nx',ow2,qs2,())/\nx'.length<=k+1/\∀x∈nx',0<=x/\x<=3) ?_ ?_
    ·refine Ok.cond (λ_=>?_) λ_=>Ok.ret ⟨nx,rfl,by omega,hnx⟩
     (with_reducible refine dF (λhcb=>?_) λhcb=>?_)
     ·refine dG (dS (by simp;omega)) (Ok.ret ⟨_,rfl,by rw[eY];simp;omega,i7 hnx (all_cons ⟨by omega,n1⟩ ee)⟩)
     ·exact Ok.ret ⟨nx,rfl,by omega,hnx⟩
    ·rintro _ ⟨nx',rfl,hn1,hn2⟩;dsimp only
     (simp (disch:=omega) only [dP,d7,dU,dV])
     exact Ok.ret ⟨⟨k+1,_,_,_,rfl,by omega,hn1,hl2,hn2⟩,by dsimp only;omega⟩
   ·exact Ok.ret ⟨_,_,_,_,_,_,rfl,hl',by omega,hnx⟩
  ·rintro _ ⟨a,b,c,ow',qs',nx,rfl,hl',hn4,hnx⟩;exact Ok.ret ⟨_,_,_,rfl,hl',hn4,hnx⟩
theorem Mj{ow:List Int}{qs:List (List Int)}{lock t:Int}(h:iN ow qs) (ht:0<=t/\t<=3):Ok (nn ow qs lock t) λr=>∃ow' qs' n,r=(ow',qs',n,())/\iN ow' qs':=by
 unfold nn;rw[xo h];simp only[oBS];obtain⟨h1,h2,h3,h4⟩:=id h;refine Ok.bind (P:=λr=>∃b,r=(lock,t,b,ow,qs,(),(),ow,qs,())/\(b=false->0<=lock/\lock < 4)) ?_ ?_
 ·(with_reducible refine dF (λhca=>?_) λhca=>?_)
  ·exact Ok.ret ⟨true,rfl,λh=>by cases h⟩
  ·(with_reducible refine dF (λhcb=>?_) λhcb=>?_)
   ·exact Ok.ret ⟨true,rfl,λh=>by cases h⟩
   ·refine Ok.nat (by omega) λj hj=>?_;refine Ok.get (by omega) λx hx=>?_;exact Ok.ret ⟨_,rfl,λ_=>⟨by omega,by omega⟩⟩
 rintro _ ⟨b,rfl,hb⟩;dsimp only;refine Ok.cond (λ_=>Ok.ret ⟨_,_,_,rfl,h⟩) λhbf=>?_;obtain⟨l0,l1⟩:=hb hbf;delta dM
 try dsimp only
 obtain⟨r,e,hr⟩:=fS (f:=mF) (n:=NN) (s:=(lock,t,qs,(qs.length:Int),0,ow,qs,(),(),ow,qs,())) (P:=λs'=>∃k:Nat,s'=(lock,t,qs,(qs.length:Int),(k:Int),ow,qs,(),(),ow,qs,())/\k<=qs.length/\∀(i:Nat) q,i < k->qs[i]?=some q->t ∉ q)
  (R:=λr=>r=.inl (2,ow,qs,())\/((∃a b c,r=.inr (lock,t,a,b,c,false,ow,qs,(),(),ow,qs,()))/\∀q∈qs,t ∉ q)) (m:=λs'=>(s'.2.2.2.1 - s'.2.2.2.2.1).toNat) ⟨0,rfl,by omega,λi q hi=>by omega⟩ (by unfold NN;dsimp only;omega) (by
   rintro _ ⟨k,rfl,hk,hall⟩;unfold mF;dsimp only
   (with_reducible refine dF (λhca=>?_) λhca=>?_)
   ·obtain⟨q,hq⟩:∃q,qs[k]?=some q:=⟨_,oGE (by omega)⟩;have gq:dI qs k=some q:=hq;have q3:=h.qlen4 (dN hq);delta dM;simp only[dK,oBS,gq]
    obtain⟨r,e,hr⟩:=fS (f:=mG) (n:=NN) (s:=(lock,t,qs,(qs.length:Int),(k:Int),q,(q.length:Int),0,ow,qs,(),(),ow,qs,())) (P:=λs'=>∃j:Nat,s'=(lock,t,qs,(qs.length:Int),(k:Int),q,(q.length:Int),(j:Int),ow,qs,(),(),ow,qs,())/\j<=q.length/\∀(i:Nat) x,i < j->q[i]?=some x->x≠t)
     (R:=λr=>r=.inl (2,ow,qs,())\/((∃a b c,r=.inr (lock,t,qs,(qs.length:Int),(k:Int),a,b,c,false,ow,qs,(),(),ow,qs,()))/\t ∉ q)) (m:=λs'=>(s'.2.2.2.2.2.2.1 - s'.2.2.2.2.2.2.2.1).toNat) ⟨0,rfl,by omega,λi x hi=>by omega⟩ (by unfold NN;dsimp only;omega) (by
      rintro _ ⟨j,rfl,hj,hne⟩;unfold mG;dsimp only
      (with_reducible refine dF (λhcb=>?_) λhcb=>?_)
      ·obtain⟨x,hx⟩:∃x,q[j]?=some x:=⟨_,oGE (by omega)⟩;have gx:dI q j=some x:=hx;simp only[dK,oBS,gx]
       (with_reducible refine dF (λhcc=>?_) λhcc=>?_)
       ·exact Ok.ret (.inl rfl)
       ·(simp (disch:=omega) only [dP,d7,dU,dV])
        exact Ok.ret ⟨⟨j+1,rfl,by omega,F7 hne hx hcc⟩,by dsimp only;omega⟩
      ·refine Ok.ret (.inr ⟨⟨_,_,_,rfl⟩,λhm=>?_⟩);obtain⟨i,hi⟩:=List.getElem?_of_mem hm
       exact hne i t (by have:=(oGS hi).1;omega) hi rfl)
    rw[e];rcases hr with rfl | ⟨⟨a,b,c,rfl⟩,hnot⟩
    ·exact Ok.ret (.inl rfl)
    ·dsimp only
     (simp (disch:=omega) only [dP,d7,dU,dV])
     refine Ok.ret ⟨⟨k+1,rfl,by omega,λi q' hi hq'=>?_⟩,by dsimp only;omega⟩;by_cases hik:i=k
     ·subst hik;rw[hq] at hq'
      injection hq' with hq'
      rw[<- hq'];exact hnot
     ·exact hall i q' (by omega) hq'
   ·refine Ok.ret (.inr ⟨⟨_,_,_,rfl⟩,λq hq=>?_⟩);obtain⟨i,hi⟩:=List.getElem?_of_mem hq
    exact hall i q (by have:=(oGS hi).1;omega) hi)
 rw[e];rcases hr with rfl | ⟨⟨a,b,c,rfl⟩,hnot⟩
 ·exact Ok.ret ⟨_,_,_,rfl,h⟩
 ·dsimp only;obtain⟨j,rfl⟩:∃j:Nat,lock=j:=⟨lock.toNat,by omega⟩;obtain⟨o,ho⟩:∃o,ow[j]?=some o:=⟨_,oGE (by omega)⟩;obtain⟨q,hq⟩:∃q,qs[j]?=some q:=⟨_,oGE (by omega)⟩;have go:dI ow j=some o:=ho;have gq:dI qs j=some q:=hq;simp only[dK,oBS,go,gq]
  (with_reducible refine dF (λhcd=>?_) λhcd=>?_)
  ·exact Ok.ret ⟨_,_,_,rfl,⟨by rw[oLM];exact h1,h2,io h3 λ_ _=>⟨by omega,ht.2⟩,h4⟩⟩
  ·have q3:=h.qlen4 (dN hq);refine dG (dS (by simp;omega)) (dG (by simp) (Ok.ret ⟨_,_,_,rfl,⟨h1,by rw[oLM];exact h2,h3,io h4 λ_ _=>⟨?_,?_⟩⟩⟩))
   ·exact GW (h4 q (dN hq)).1 (hnot q (dN hq))
   ·exact i7 (h4 q (dN hq)).2 (all_cons ht ee)
theorem eq{α:Type}{l:List α}{i:Nat}{a:α}(h:l[i]?=some a) (f:α->α):List.modify l i f=l.set i (f a):=by
 rw[<- zq];apply List.ext_getElem?;intro j;simp only[List.getElem?_modify];by_cases hij:i=j
 ·subst hij;rw[h];rfl
 ·simp[hij]
theorem gN{α:Type}{l:List α}{i:Nat}(h:i < l.length) (a:α):dI (l.set i a) i=some a:=by
 show (l.set i a)[i]?=some a;rw[List.getElem?_set];simp[h]
theorem nZ{α:Type}{l:List α}{i:Nat}(h:i < l.length) (a:α) (f:α->α):List.modify (l.set i a) i f=l.set i (f a):=by
 rw[eq (a:=a) (gN h a),List.set_set]
theorem iK{α:Type}{P:α->Prop}{l:List α}{i:Nat}{a:α}(h:∀x∈l,P x) (ha:P a):∀x∈l.set i a,P x:=by
 intro x hx;rcases List.mem_or_eq_of_mem_set hx with hx | rfl
 ·exact h x hx
 ·exact ha
theorem MOk.set{n:Int}{ss bs:List Int}{cs cs':List DCe}{ls ls':List DLn}{ts:List DTh}(h:MOk n ss bs cs ls ts) (hm:i9 (RK bs ss) cs' ls') {i:Nat}{t:DTh}(ht:xM (RK bs ss) n t):MOk n ss bs cs' ls' (ts.set i t):=
 ⟨h.lay,hm,by rw[List.length_set];exact h.tlen,iK h.thr ht⟩
def Ps(code:List DIn) (t:DTh) (s:Int) (t':DTh):Prop:=
 (s=-1/\t'.1=1/\((t'.2.2.2.1=t.2.2.2.1/\t'.2.2.1=t.2.2.1+1)\/t'.2.2.2.1=t.2.2.2.1+1))\/(s=2/\t'.1=4/\t'.2.2.2.1=t.2.2.2.1) \/
  (s=1/\t'.1=2/\t'.2.2.2.1=t.2.2.2.1/\∃i:DIn,1<=t'.2.2.1/\code[(t'.2.2.1 - 1).toNat]?=some i/\i.1=23)
def E8(n key:Int) (code:List DIn) (ss bs:List Int) (ts:List DTh) (i:Nat) (t:DTh) (r:Int×List Int×Int×List DCe×List DLn×List DTh×Unit):Prop:=
 ∃s cs' ls' t',r=(s,bs,key,cs',ls',ts.set i t',())/\i9 (RK bs ss) cs' ls'/\xM (RK bs ss) n t'/\Ps code t s t'
theorem mP{n key:Int}{code:List DIn}{ss bs:List Int}{ts:List DTh}{i:Nat}{t t':DTh}{cs':List DCe}{ls':List DLn}(hm:i9 (RK bs ss) cs' ls') (ht:xM (RK bs ss) n t') (h1:t'.1=1)
 (h:(t'.2.2.2.1=t.2.2.2.1/\t'.2.2.1=t.2.2.1+1)\/t'.2.2.2.1=t.2.2.2.1+1):Ok (some (-1,bs,key,cs',ls',ts.set i t',())) (E8 n key code ss bs ts i t):=Ok.ret ⟨_,_,_,_,rfl,hm,ht,.inl ⟨rfl,h1,h⟩⟩
theorem me{n key why:Int}{code:List DIn}{ss bs:List Int}{ts:List DTh}{i:Nat}{t:DTh}{cs':List DCe}{ls':List DLn}(hm:i9 (RK bs ss) cs' ls') (ht:xM (RK bs ss) n t) (hw:0<=why/\why<=6) :
 Ok (some (2,bs,key,cs',ls',ts.set i (4,t.2.1,t.2.2.1,t.2.2.2.1,t.2.2.2.2.1,t.2.2.2.2.2.1,why,0),())) (E8 n key code ss bs ts i t):=Ok.ret ⟨_,_,_,_,rfl,hm,ht.ended hw,.inr (.inl ⟨rfl,rfl,rfl⟩)⟩
theorem ii(op:Int):kX op=some (mh op || op==22 || op==24,()):=by
 unfold kX;rw[wO];simp only[oBS];cases mh op<;>cases op==22<;>rfl
set_option maxHeartbeats 4000000 in
theorem NW{n key:Int}{code:List DIn}{ss bs:List Int}{d:List (List Int)}{cs:List DCe}{ls:List DLn}{ts:List DTh}{i:Nat}{t:DTh}(hp:kG code ss d) (h:MOk n ss bs cs ls ts) (ht:ts[i]?=some t) (hs:t.1=1)
 (hc:t.2.2.2.1+1<=n) (hn:n<=1099511627776):Ok (ox code ss d (i:Int) bs key cs ls ts) (E8 n key code ss bs ts i t):=by
 have hok:=h.thr t (dN ht);have hm:=h.mem;obtain⟨_,hl,hr,⟨p0,p1⟩,⟨c0,c1⟩,ha,⟨s0,s1⟩,⟨r0,r1⟩,hco⟩:=id hok;obtain⟨st,rs,pc,ct,hd,sa,tr,co⟩:=t;dsimp only at *;subst hs;have hil:=(oGS ht).1;have hg:dI ts i=some (1,rs,pc,ct,hd,sa,tr,co):=ht;have e1:∀f:DTh->DTh,List.modify ts i f=ts.set i (f (1,rs,pc,ct,hd,sa,tr,co)):=λf=>eq ht f;have e2:∀x,dI (ts.set i x) i=some x:=λx=>gN hil x;have e3:∀(x:DTh) (f:DTh->DTh),List.modify (ts.set i x) i f=ts.set i (f x):=λx f=>nZ hil x f
 have eT:∀why,fj (i:Nat) why ts=some (2,ts.set i (4,rs,pc,ct,hd,sa,why,0),()):=λwhy=>by rw[Mg (n:=n) ht,e1]
 have mk:∀{rs':List DCe} {pc' ct' sa':Int},rs'.length=8->(∀c∈rs',m9 (RK bs ss) c)->0<=pc'/\pc'<=255->0<=ct'/\ct'<=n->-1<=sa'/\sa'<=255->xM (RK bs ss) n (1,rs',pc',ct',hd,sa',tr,co):=
  λh1 h2 h3 h4 h5=>⟨⟨show (0:Int)<=1 by decide,show (1:Int)<=4 by decide⟩,h1,h2,h3,h4,ha,h5,⟨r0,r1⟩,hco⟩
 unfold ox;rw[dK];delta dM;simp only[hg,oBS]
 (with_reducible refine dF (λhca=>?_) λhca=>?_)
 ·rw[eT 2];exact me hm hok (by decide)
 refine Ok.nat p0 λj hj=>?_;subst hj;have hcl:=hp.clen;refine Ok.get (by omega) λx hx=>?_;obtain⟨op,A,B,C,I⟩:=x;obtain⟨⟨o0,o1⟩,⟨A0,A1,_⟩,⟨B0,B1,_⟩,⟨C0,C1,_⟩,⟨I0,I1,_⟩,hlea,hsys,hjmp⟩:=hp.ins _ (dN hx);dsimp only at *;obtain⟨A,rfl⟩:∃k:Nat,A=k:=⟨A.toNat,by omega⟩;obtain⟨B,rfl⟩:∃k:Nat,B=k:=⟨B.toNat,by omega⟩;obtain⟨C,rfl⟩:∃k:Nat,C=k:=⟨C.toNat,by omega⟩;obtain⟨I,rfl⟩:∃k:Nat,I=k:=⟨I.toNat,by omega⟩;obtain⟨⟨ta,va⟩,gA⟩:∃c,dI rs A=some c:=⟨_,oGE (by omega)⟩;obtain⟨⟨tb,vb⟩,gB⟩:∃c,dI rs B=some c:=⟨_,oGE (by omega)⟩;obtain⟨⟨tc,vc⟩,gC⟩:∃c,dI rs C=some c:=⟨_,oGE (by omega)⟩;have cA:=hr _ (dN gA);have cB:=hr _ (dN gB);have cC:=hr _ (dN gC);have eR:∀f:DCe->DCe,List.modify rs A f=rs.set A (f (ta,va)):=λf=>eq gA f;have w1:w64 ((j:Int)+1)=(j:Int)+1:=dP (by omega) (by omega);have wI:wk .u16 (I:Int)=I:=d7 (by omega) (by omega);have setOk:∀{c:DCe},m9 (RK bs ss) c->(rs.set A c).length=8/\∀x∈rs.set A c,m9 (RK bs ss) x:=λhc=>⟨by rw[List.length_set];exact hl,iK hr hc⟩;have wc:w64 (ct+1)=ct+1:=dP (by omega) (by omega);simp only[dK,hg,gA,gB,oBS,w1,wI];rcases (show op=0\/op=1\/op=2\/op=15\/op=16\/op=17\/op=18\/op=19\/op=20\/op=21\/op=22\/op=23\/op=24\/(3<=op/\op<=14) by omega) with rfl | rfl | rfl | rfl | rfl | rfl | rfl | rfl | rfl | rfl | rfl | rfl | rfl | ⟨q0,q1⟩
 all_goals try simp only[Int.reduceBEq,oCT,oCF,dK,hg,gA,gB,gC,e1,e2,e3,eR,eT,oBS,w1,wI,wc,ii,mh,Bool.or_false,Bool.or_true,Bool.or_self,bne_self_eq_false]
 ·exact mP hm (mk hl hr (by omega) (by omega) (by omega)) rfl (.inl ⟨rfl,rfl⟩)
 ·exact mP hm (mk (setOk (lD (by omega))).1 (setOk (lD (by omega))).2 (by omega) (by omega) (by omega)) rfl (.inl ⟨rfl,rfl⟩)
 ·exact mP hm (mk (setOk cB).1 (setOk cB).2 (by omega) (by omega) (by omega)) rfl (.inl ⟨rfl,rfl⟩)
 ·have hI:=hlea rfl;have hbl:=h.lay.2.1;obtain⟨b,hb⟩:∃b,bs[I]?=some b:=⟨_,oGE (by omega)⟩;obtain⟨z,hz⟩:∃z,ss[I]?=some z:=⟨_,oGE (by omega)⟩;have hr2:=h.lay.2.2 I (by omega);unfold nQ at hr2;rw[dW hb,dW hz] at hr2;have hz2:=h.lay.1.2.2 z (dN hz);have wb:wk .u16 b=b:=d7 (by omega) (by omega);have gb:dI bs I=some b:=hb;simp only[gb,wb,Int.reduceBEq,oCT,oCF,dK,hg,gA,gB,gC,e1,e2,e3,eR,eT,oBS,w1,wI,wc,ii,mh,Bool.or_false,Bool.or_true,Bool.or_self,bne_self_eq_false];have hcb:m9 (RK bs ss) (1,b):=⟨by dsimp only;omega,by dsimp only;omega,by dsimp only;omega,by dsimp only;omega,λ_=>⟨I,b,z,hb,hz,by dsimp only;omega,by dsimp only;omega⟩⟩;exact mP hm (mk (setOk hcb).1 (setOk hcb).2 (by omega) (by omega) (by omega)) rfl (.inl ⟨rfl,rfl⟩)
 ·obtain⟨_,em,t1,x1,e,rfl,hc1,he0,he6,hx512⟩:=wv (key:=key) (tag:=tb) (v:=vb) (n:=(I:Int)) (back:=false) h.lay ⟨cB.2.2.1,cB.2.2.2.1⟩ ⟨by omega,by omega⟩;simp only[em,oBS];by_cases hne:e=0
  ·subst hne;have wx:wk .i64 x1=x1:=dU (by have:=hc1.2.2.1;dsimp only at this;omega) (by have:=hc1.2.2.2.1;dsimp only at this;omega);obtain⟨_,el,t2,x2,cs2,ls2,rfl,hc2,hm2⟩:=Jo (a:=x1) hm ⟨hc1.2.2.1,hx512 rfl⟩;simp only[wx,el,Int.reduceBEq,oCT,oCF,dK,hg,gA,gB,gC,e1,e2,e3,eR,eT,oBS,w1,wI,wc,ii,mh,Bool.or_false,Bool.or_true,Bool.or_self,bne_self_eq_false];exact mP hm2 (mk (setOk hc2).1 (setOk hc2).2 (by omega) (by omega) (by omega)) rfl (.inl ⟨rfl,rfl⟩)
  ·simp only[bne_iff_ne.2 hne,oCT];exact me hm hok ⟨he0,he6⟩
 ·obtain⟨_,em,t1,x1,e,rfl,hc1,he0,he6,hx512⟩:=wv (key:=key) (tag:=ta) (v:=va) (n:=(I:Int)) (back:=false) h.lay ⟨cA.2.2.1,cA.2.2.2.1⟩ ⟨by omega,by omega⟩;simp only[em,oBS];by_cases hne:e=0
  ·subst hne;have wx:wk .i64 x1=x1:=dU (by have:=hc1.2.2.1;dsimp only at this;omega) (by have:=hc1.2.2.2.1;dsimp only at this;omega);obtain⟨_,el,cs2,ls2,rfl,hm2⟩:=y8 (a:=x1) (t:=tb) (v:=vb) hm ⟨hc1.2.2.1,hx512 rfl⟩ cB;simp only[wx,el,Int.reduceBEq,oCT,oCF,dK,hg,gA,gB,gC,e1,e2,e3,eR,eT,oBS,w1,wI,wc,ii,mh,Bool.or_false,Bool.or_true,Bool.or_self,bne_self_eq_false];exact mP hm2 (mk hl hr (by omega) (by omega) (by omega)) rfl (.inl ⟨rfl,rfl⟩)
  ·simp only[bne_iff_ne.2 hne,oCT];exact me hm hok ⟨he0,he6⟩
 ·have:=hjmp (by decide);exact mP hm (mk hl hr (by omega) (by omega) (by omega)) rfl (.inr rfl)
 ·have:=hjmp (by decide);by_cases hta:ta=0
  ·subst hta
   cases va==0 with
   | true=>
    simp only[BEq.rfl,Int.reduceBEq,oCT,oCF,dK,hg,gA,gB,gC,e1,e2,e3,eR,eT,oBS,w1,wI,wc,ii,mh,Bool.or_false,Bool.or_true,Bool.or_self,bne_self_eq_false];exact mP hm (mk hl hr (by omega) (by omega) (by omega)) rfl (.inr rfl)
   | false=>
    simp only[show (false==true)=false from rfl,Int.reduceBEq,oCT,oCF,dK,hg,gA,gB,gC,e1,e2,e3,eR,eT,oBS,w1,wI,wc,ii,mh,Bool.or_false,Bool.or_true,Bool.or_self,bne_self_eq_false];exact mP hm (mk hl hr (by omega) (by omega) (by omega)) rfl (.inr rfl)
  ·simp only[bne_iff_ne.2 hta,oCT];exact me hm hok (by decide)
 ·have:=hjmp (by decide);by_cases hta:ta=0
  ·subst hta
   cases va==0 with
   | true=>
    simp only[show (true==false)=false from rfl,Int.reduceBEq,oCT,oCF,dK,hg,gA,gB,gC,e1,e2,e3,eR,eT,oBS,w1,wI,wc,ii,mh,Bool.or_false,Bool.or_true,Bool.or_self,bne_self_eq_false];exact mP hm (mk hl hr (by omega) (by omega) (by omega)) rfl (.inr rfl)
   | false=>
    simp only[BEq.rfl,Int.reduceBEq,oCT,oCF,dK,hg,gA,gB,gC,e1,e2,e3,eR,eT,oBS,w1,wI,wc,ii,mh,Bool.or_false,Bool.or_true,Bool.or_self,bne_self_eq_false];exact mP hm (mk hl hr (by omega) (by omega) (by omega)) rfl (.inr rfl)
  ·simp only[bne_iff_ne.2 hta,oCT];exact me hm hok (by decide)
 ·have:=hjmp (by decide);have wj:wk .u16 ((j:Int)+1)=(j:Int)+1:=d7 (by omega) (by omega);rw[wj];exact mP hm (mk (setOk (lD (by omega))).1 (setOk (lD (by omega))).2 (by omega) (by omega) (by omega)) rfl (.inr rfl)
 ·by_cases hta:ta=0
  ·subst hta;have wa:wk .i64 va=va:=dU (by have:=cA.2.2.1;dsimp only at this;omega) (by have:=cA.2.2.2.1;dsimp only at this;omega);have a0:=cA.2.2.1;dsimp only at a0;by_cases hva:va > 255
   ·simp only[oDT hva,bne_self_eq_false,oCT,oCF];exact me hm hok (by decide)
   ·simp only[oDF hva,wa,Int.reduceBEq,oCT,oCF,dK,hg,gA,gB,gC,e1,e2,e3,eR,eT,oBS,w1,wI,wc,ii,mh,Bool.or_false,Bool.or_true,Bool.or_self,bne_self_eq_false];exact mP hm (mk hl hr (by omega) (by omega) (by omega)) rfl (.inr rfl)
  ·simp only[bne_iff_ne.2 hta,oCT];exact me hm hok (by decide)
 ·refine Ok.ret ⟨_,_,_,_,rfl,hm,⟨⟨show (0:Int)<=2 by decide,show (2:Int)<=4 by decide⟩,hl,hr,⟨by dsimp only;omega,by dsimp only;omega⟩,⟨c0,by dsimp only;omega⟩,ha,⟨s0,s1⟩,⟨r0,r1⟩,hco⟩,.inr (.inr ⟨rfl,rfl,rfl,(23,(A:Int),(B:Int),(C:Int),(I:Int)),by dsimp only;omega,?_,rfl⟩)⟩;dsimp only;rw[show (j:Int)+1 - 1=(j:Int) by omega,oTN];exact hx
 ·by_cases hsa:sa=-1
  ·simp only[beq_iff_eq.2 hsa,oCT];exact me hm hok (by decide)
  ·simp only[oBF hsa,Int.reduceBEq,oCT,oCF,dK,hg,gA,gB,gC,e1,e2,e3,eR,eT,oBS,w1,wI,wc,ii,mh,Bool.or_false,Bool.or_true,Bool.or_self,bne_self_eq_false];exact mP hm (mk hl hr (by omega) (by omega) (by omega)) rfl (.inr rfl)
 ·obtain⟨_,ed,t1,x1,e,rfl,hc1,he0,he6⟩:=OU (key:=key) (op:=op) h.lay cB cC;have n0:(op==0)=false:=oBF (by omega);have n1:(op==1)=false:=oBF (by omega);have n2:(op==2)=false:=oBF (by omega);have n15:(op==15)=false:=oBF (by omega);have n16:(op==16)=false:=oBF (by omega);have n17:(op==17)=false:=oBF (by omega);have n18:(op==18)=false:=oBF (by omega);have n19:(op==19)=false:=oBF (by omega);have n20:(op==20)=false:=oBF (by omega);have n21:(op==21)=false:=oBF (by omega);have n22:(op==22)=false:=oBF (by omega);have n23:(op==23)=false:=oBF (by omega);have n24:(op==24)=false:=oBF (by omega);simp only[n0,n1,n2,n15,n16,n17,n18,n19,n20,n21,n22,n23,n24,ed,Int.reduceBEq,oCT,oCF,dK,hg,gA,gB,gC,e1,e2,e3,eR,eT,oBS,w1,wI,wc,ii,mh,Bool.or_false,Bool.or_true,Bool.or_self,bne_self_eq_false];by_cases hne:e=0
  ·subst hne;simp only[n18,n19,n20,n21,n22,n24,Int.reduceBEq,oCT,oCF,dK,hg,gA,gB,gC,e1,e2,e3,eR,eT,oBS,w1,wI,wc,ii,mh,Bool.or_false,Bool.or_true,Bool.or_self,bne_self_eq_false];exact mP hm (mk (setOk hc1).1 (setOk hc1).2 (by omega) (by omega) (by omega)) rfl (.inl ⟨rfl,rfl⟩)
  ·simp only[bne_iff_ne.2 hne,oCT];exact me hm hok ⟨he0,he6⟩
theorem xM.mono{K:Int->Prop}{n m:Int}{t:DTh}(h:xM K n t) (hm:n<=m):xM K m t:=⟨h.state,h.len,h.regs,h.pc,⟨h.count.1,by have:=h.count.2;omega⟩,h.handler,h.saved,h.trap,h.code⟩
theorem MOk.mono{n m:Int}{ss bs:List Int}{cs:List DCe}{ls:List DLn}{ts:List DTh}(h:MOk n ss bs cs ls ts) (hm:n<=m):MOk m ss bs cs ls ts:=⟨h.lay,h.mem,h.tlen,λt ht=>(h.thr t ht).mono hm⟩
theorem zR{α:Type}{l:List α}{i:Nat}{a:α}(h:l[i]?=some a):l.set i a=l:=by
 apply List.ext_getElem?;intro j;rw[List.getElem?_set];split
 ·rename_i hij;subst hij;have:=(oGS h).1;rw[oIP this,h]
 ·rfl
def O6(code:List DIn) (s:Int) (t':DTh):Prop:=
 (s=0/\t'.1=1)\/(s=2/\t'.1=4)\/(s=1/\t'.1=2/\∃i:DIn,1<=t'.2.2.1/\code[(t'.2.2.1 - 1).toNat]?=some i/\i.1=23)
def Ny(n key:Int) (code:List DIn) (ss bs:List Int) (ts:List DTh) (i:Nat) (r:List Int×Int×List DCe×List DLn×List DTh×Int×Int×Unit):Prop:=
 ∃s cs' ls' t',r=(bs,key,cs',ls',ts.set i t',s,0,())/\i9 (RK bs ss) cs' ls'/\xM (RK bs ss) n t'/\((s=3/\ts[i]?=some t'/\t'.1≠1)\/O6 code s t')
def OL(i:Nat) (s:Int×Int×(List DIn)×(List (Int))×(List (List (Int)))×Unit×Int×Unit×Unit×Unit×(List (Int))×Int×(List DCe)×(List DLn)×(List DTh)×Unit):Nat:=
 match s.2.2.2.2.2.2.2.2.2.2.2.2.2.2.1[i]? with
 | some t=>((s.2.1 - t.2.2.2.1)*256+(255 - t.2.2.1)).toNat
 | none=>0
theorem DX{i:Nat}{a b k:Int}{code:List DIn}{ss bs:List Int}{d:List (List Int)}{cs:List DCe}{ls:List DLn}{ts:List DTh}{t:DTh}(h:ts[i]?=some t):OL i (a,b,code,ss,d,(),0,(),(),(),bs,k,cs,ls,ts,())=((b - t.2.2.2.1)*256+(255 - t.2.2.1)).toNat:=by
 unfold OL;dsimp only;rw[h]
theorem Kp{n key k:Int}{code:List DIn}{ss bs:List Int}{d:List (List Int)}{cs:List DCe}{ls:List DLn}{ts:List DTh}{i:Nat}(hp:kG code ss d) (h:MOk n ss bs cs ls ts) (hn0:0<=n) (hn:n+64<=1099511627776) (hi:i < 4) (hk:1<=k/\k<=64) :
 Ok (lX code ss d bs key cs ls ts (i:Int) k) (Ny (n+64) key code ss bs ts i):=by
 have htl:=h.tlen;obtain⟨t,ht⟩:∃t,ts[i]?=some t:=⟨_,oGE (by omega)⟩;have hg:dI ts i=some t:=ht
 have hil:i < ts.length:=by omega
 have hok:=h.thr t (dN ht);unfold lX;rw[tJ hp h (by omega)];simp only[oBS,oNT,oCF,pY h,dK,hg];rw[oDF (show ¬ (i:Int) < 0 by omega),oDF (show ¬ (i:Int)>=4 by omega),oDF (show ¬ k < 1 by omega),oDF (show ¬ k > 64 by omega)];simp only[oBS,oCF,pY h,dK,hg]
 (with_reducible refine dF (λhca=>?_) λhca=>?_)
 ·refine Ok.ret ⟨3,cs,ls,t,?_,h.mem,hok.mono (by omega),.inl ⟨rfl,ht,hca⟩⟩;rw[zR ht]
 have hct:=hok.count;have hpc:=hok.pc;rw[dP (x:=t.2.2.2.1+k) (by omega) (by omega)]
 refine Ok.loop (P:=λs'=>∃cs' ls' t',s'=((i:Int),t.2.2.2.1+k,code,ss,d,(),0,(),(),(),bs,key,cs',ls',ts.set i t',())/\i9 (RK bs ss) cs' ls'/\xM (RK bs ss) (n+64) t'/\t'.1=1/\t'.2.2.2.1 < t.2.2.2.1+k)
  (R:=λr=>∃s cs' ls' t',r=(s,0,bs,key,cs',ls',ts.set i t',())/\i9 (RK bs ss) cs' ls'/\xM (RK bs ss) (n+64) t'/\O6 code s t') (m:=OL i) ⟨cs,ls,t,by rw[zR ht],h.mem,hok.mono (by omega),hca,by omega⟩ ?_ ?_ ?_
 ·rw[DX ht];unfold NN;omega
 ·rintro _ ⟨cs',ls',t',rfl,hm,hth,hr,hlt⟩;have ht':(ts.set i t')[i]?=some t':=gN hil t';unfold ph;dsimp only;refine (NW hp (((h.mono (show n<=n+64 by omega)).set hm hth):MOk (n+64) ss bs cs' ls' (ts.set i t')) ht' hr (by omega) (by omega)).bind ?_;rintro _ ⟨s,cs2,ls2,t2,rfl,hm2,hth2,hs2⟩;dsimp only;rw[List.set_set]
  (with_reducible refine dF (λhcb=>?_) λhcb=>?_)
  ·refine Ok.ret ⟨_,_,_,_,rfl,hm2,hth2,?_⟩;rcases hs2 with ⟨q,_⟩ | ⟨q1,q2,_⟩ | ⟨q1,q2,_,q3⟩
   ·exact absurd q hcb
   ·exact .inr (.inl ⟨q1,q2⟩)
   ·exact .inr (.inr ⟨q1,q2,q3⟩)
  ·rw[dK];simp only[oBS,gN hil];have h0:=hth2.count;have h1:=hth2.pc;have h2:=hth.pc;rcases hs2 with ⟨_,q1,q2⟩ | ⟨q1,_⟩ | ⟨q1,_⟩
   ·(with_reducible refine dF (λhcc=>?_) λhcc=>?_)
    ·exact Ok.ret ⟨_,_,_,_,rfl,hm2,hth2,.inl ⟨rfl,q1⟩⟩
    ·refine Ok.ret ⟨⟨_,_,_,rfl,hm2,hth2,q1,by omega⟩,?_⟩;rw[DX ht',DX (gN hil t2)];omega
   ·omega
   ·omega
 ·rintro _ ⟨s,cs',ls',t',rfl,hm,hth,hs⟩;exact Ok.ret ⟨_,_,_,_,rfl,hm,hth,.inr hs⟩
def IO(bs ss:List Int) (a:Int):Nat->Nat->Option (Int×Int)
 | 0,_=>none
 | n+1,k=>if bs.getD k 0<=a/\a < bs.getD k 0+ss.getD k 0 then some ((k:Int),a - bs.getD k 0) else IO bs ss a n (k+1)
def KN(bs ss:List Int) (a:Int):Option (Int×Int):=IO bs ss a bs.length 0
theorem IM{bs ss:List Int}{a r o:Int}:∀{n k:Nat},k+n=bs.length->bs.length=ss.length->IO bs ss a n k=some (r,o)->∃(j:Nat) (b z:Int),r=j/\o=a - b/\bs[j]?=some b/\ss[j]?=some z/\b<=a/\a < b+z:=by
 intro n
 induction n with
 | zero=>intro k _ _ h;cases h
 | succ n ih=>
  intro k hk hl h;simp only[IO] at h;split at h
  ·rename_i hh
   injection h with h
   injection h with h1 h2
   refine⟨k,_,_,h1.symm,h2.symm,?_,?_,hh.1,hh.2⟩
   ·rw[EM (by omega)];exact oGE (by omega)
   ·rw[EM (by omega)];exact oGE (by omega)
  ·exact ih (by omega) hl h
theorem IN{bs ss:List Int}{a:Int}:∀{n k:Nat},k+n=bs.length->IO bs ss a n k=none->∀(j:Nat) (b z:Int),k<=j->bs[j]?=some b->ss[j]?=some z->¬ (b<=a/\a < b+z):=by
 intro n
 induction n with
 | zero=>
  intro k hk _ j b z hj hb;have:=(oGS hb).1;omega
 | succ n ih=>
  intro k hk h j b z hj hb hz;simp only[IO] at h;split at h
  ·cases h
  ·rename_i hh;by_cases hjk:j=k
   ·subst hjk;rw[dW hb,dW hz] at hh;exact hh
   ·exact ih (by omega) h j b z (by omega) hb hz
theorem B4{bs ss:List Int}{a r o:Int}(hl:bs.length=ss.length) (h:KN bs ss a=some (r,o)):∃(j:Nat) (b z:Int),r=j/\o=a - b/\bs[j]?=some b/\ss[j]?=some z/\b<=a/\a < b+z:=IM (by omega) hl h
theorem MT{bs ss:List Int}{a:Int}(h:RK bs ss a):∃r o,KN bs ss a=some (r,o):=by
 cases e:KN bs ss a with
 | some x=>exact⟨x.1,x.2,rfl⟩
 | none=>
  obtain⟨j,b,z,h1,h2,h3,h4⟩:=h;exact absurd ⟨h3,h4⟩ (IN (by omega) e j b z (by omega) h1 h2)
theorem zi{bs ss:List Int}{key a:Int}(h:LV bs ss) (ha:W16 a):fc bs key ss a=some (match KN bs ss a with | some (r,o)=>(r,o,true,()) | none=>(0,0,false,())):=by
 obtain⟨hs,hl,hr⟩:=h;obtain⟨a0,a1⟩:=ha;have hs4:=hs.2.1
 have key1:∀(n k N:Nat),k+n=bs.length->n < N->dR eJ N (ss,a,bs,(bs.length:Int),(k:Int),bs,key,0,0,())=some (match IO bs ss a n k with | some (r,o)=>.inl (true,r,o,()) | none=>.inr (ss,a,bs,(bs.length:Int),(bs.length:Int),false,bs,key,0,0,())):=by
  intro n
  induction n with
  | zero=>
   intro k N hk hN;obtain⟨N,rfl⟩:∃M,N=M+1:=⟨N - 1,by omega⟩
   obtain rfl:k=bs.length:=by omega
   have e:eJ (ss,a,bs,(bs.length:Int),(bs.length:Int),bs,key,0,0,())=some (.inr (.inr (ss,a,bs,(bs.length:Int),(bs.length:Int),false,bs,key,0,0,()))):=by
    refine eV ?_;unfold eJ;dsimp only
    (with_reducible refine dF (λhca=>?_) λhca=>?_)
    ·omega
    ·exact Ok.ret rfl
   simp only[dR,e,oBS,IO]
  | succ n ih=>
   intro k N hk hN;obtain⟨N,rfl⟩:∃M,N=M+1:=⟨N - 1,by omega⟩;obtain⟨b,hb⟩:∃b,bs[k]?=some b:=⟨_,oGE (by omega)⟩;obtain⟨z,hz⟩:∃z,ss[k]?=some z:=⟨_,oGE (by omega)⟩;have hz2:=hs.2.2 z (dN hz);have hrk:=hr k (by omega);unfold nQ at hrk;rw[dW hb,dW hz] at hrk;by_cases hh:b<=a/\a < b+z
   ·have e:eJ (ss,a,bs,(bs.length:Int),(k:Int),bs,key,0,0,())=some (.inr (.inl (true,(k:Int),a - b,()))):=by
     refine eV ?_;unfold eJ;dsimp only;rw[oDT (show (k:Int) < bs.length by omega),dK];simp only[oCT,oBS,show dI bs k=some b from hb,show dI ss k=some z from hz];rw[oDT (show a>=b by omega),dP (x:=b+z) (by omega) (by omega),oDT hh.2,dP (x:=a - b) (by omega) (by omega)];exact Ok.ret rfl
    simp only[dR,e,oBS,IO,dW hb,dW hz,oIP hh]
   ·have e:eJ (ss,a,bs,(bs.length:Int),(k:Int),bs,key,0,0,())=some (.inl (ss,a,bs,(bs.length:Int),((k+1:Nat):Int),bs,key,0,0,())):=by
     refine eV ?_;unfold eJ;dsimp only;rw[oDT (show (k:Int) < bs.length by omega),dK];simp only[oCT,oBS,show dI bs k=some b from hb,show dI ss k=some z from hz];rw[dP (x:=b+z) (by omega) (by omega)];by_cases h1:a>=b
     ·rw[oDT h1,oDF (show ¬ a < b+z by omega)];simp only[oCT,oCF];rw[dP (x:=(k:Int)+1) (by omega) (by omega)];exact Ok.ret rfl
     ·rw[oDF h1];simp only[oCF];rw[dP (x:=(k:Int)+1) (by omega) (by omega)];exact Ok.ret rfl
    simp only[dR,e,oBS,IO,dW hb,dW hz,oIN hh];exact ih (k+1) N (by omega) (by omega)
 unfold fc KN;delta dM
 try dsimp only
 rw[show dR eJ NN (ss,a,bs,(bs.length:Int),0,bs,key,0,0,())=_ from key1 bs.length 0 NN (by omega) (by unfold NN;omega)]
 cases IO bs ss a bs.length 0 with
 | some x=>rfl
 | none=>rfl
def rj(bs ss:List Int) (key:Int) (c:DCe):DCn:=
 if c.1=0 then (0,c.2,0,0) else if c.1=2 then (2,wk .u16 (c.2 - key),0,0) else match KN bs ss c.2 with | some (r,o)=>(1,0,r,o) | none=>(1,0,-1,c.2)
theorem qT{K:Int->Prop}{bs ss:List Int}{key:Int}{c:DCe}(h:LV bs ss) (hc:m9 K c):g7 bs key ss c.1 c.2=some ((rj bs ss key c).1,(rj bs ss key c).2.1,(rj bs ss key c).2.2.1,(rj bs ss key c).2.2.2,()):=by
 obtain⟨c0,c1,c2,c3,_⟩:=hc;unfold g7 rj;rw[dU (x:=c.2) (by omega) (by omega)];dsimp only;rw[zi h ⟨c2,c3⟩]
 rcases (show c.1=0\/c.1=1\/c.1=2 by omega) with e | e | e<;>rw[e]
 ·rfl
 ·simp only[Int.reduceBEq,Int.reduceEq,oCF,if_false,oBS]
  cases KN bs ss c.2 with
  | some x=>rfl
  | none=>rfl
 ·rfl
theorem mC(x:Int):W16 (wk .u16 x):=oh x
theorem BF{bs ss:List Int}{key:Int}{c:DCe}(h:LV bs ss) (hc:m9 (RK bs ss) c):Pr ss (rj bs ss key c):=by
 obtain⟨c0,c1,c2,c3,c4⟩:=hc;unfold rj;rcases (show c.1=0\/c.1=1\/c.1=2 by omega) with e | e | e
 ·rw[oIP e];exact .inl ⟨.inl rfl,rfl,rfl,c2,c3⟩
 ·rw[oIN (by omega),oIN (by omega)];obtain⟨r,o,hro⟩:=MT (c4 e);rw[hro];obtain⟨j,b,z,rfl,rfl,h1,h2,h3,h4⟩:=B4 h.2.1 hro;exact .inr ⟨rfl,rfl,by dsimp only;omega,z,by rw[oTN];exact h2,by dsimp only;omega,by dsimp only;omega⟩
 ·rw[oIN (by omega),oIP e];exact .inl ⟨.inr rfl,rfl,rfl,mC _⟩
theorem F2{K:Int->Prop}{bs ss:List Int}{key:Int}{c:DCe}(hc:m9 K c):(rj bs ss key c).1=c.1/\(c.1=0->(rj bs ss key c).2.1=c.2):=by
 obtain⟨c0,c1,_⟩:=hc;unfold rj;rcases (show c.1=0\/c.1=1\/c.1=2 by omega) with e | e | e
 ·rw[oIP e];exact⟨e.symm,λ_=>rfl⟩
 ·rw[oIN (by omega),oIN (by omega)]
  cases KN bs ss c.2 with
  | some x=>exact⟨e.symm,λh=>by omega⟩
  | none=>exact⟨e.symm,λh=>by omega⟩
 ·rw[oIN (by omega),oIP e];exact⟨e.symm,λh=>by omega⟩
def Ef(cs:List DCe) (ls:List DLn) (a:Int):DCe:=
 match ls[(a / 4 % 4).toNat]? with
 | some x=>if x.1=a / 4 then x.2.2.getD (a % 4).toNat (0,0) else cs.getD a.toNat (0,0)
 | none=>(0,0)
theorem getD_some{α:Type}{l:List α}{k:Nat}{d x:α}(h:l[k]?=some x):l.getD k d=x:=by rw[oGD,h];rfl
theorem Ae{K:Int->Prop}{cs:List DCe}{ls:List DLn}{a:Int}(h:i9 K cs ls) (ha:0<=a/\a < 512):lw cs ls a=some ((Ef cs ls a).1,(Ef cs ls a).2,())/\m9 K (Ef cs ls a):=by
 obtain⟨a0,a1⟩:=ha;obtain⟨h1,h2,h3,h4,_⟩:=id h;unfold lw Ef;rw[Int.tdiv_eq_ediv_of_nonneg a0,dP (x:=a / 4) (by omega) (by omega)];dsimp only;rw[Int.tmod_eq_emod_of_nonneg (show 0<=a / 4 by omega),Int.tmod_eq_emod_of_nonneg a0];obtain⟨i,hi⟩:∃i:Nat,a / 4 % 4=i:=⟨(a / 4 % 4).toNat,by omega⟩;rw[hi,dK,oTN];obtain⟨x,hx⟩:∃x,ls[i]?=some x:=⟨_,oGE (by omega)⟩;simp only[oBS,show dI ls i=some x from hx,hx];by_cases hq:x.1=a / 4
 ·rcases h4 i x hx with ⟨g,_,_⟩ | ⟨_,_,_,g4,g5⟩
  ·omega
  ·obtain⟨j,hj⟩:∃j:Nat,a % 4=j:=⟨(a % 4).toNat,by omega⟩;obtain⟨y,hy⟩:∃y,x.2.2[j]?=some y:=⟨_,oGE (by omega)⟩;rw[hj,dK,oTN,oIP hq,getD_some hy,beq_iff_eq.2 hq];simp only[oCT,oBS,show dI x.2.2 j=some y from hy];exact⟨trivial,g5 y (dN hy)⟩
 ·obtain⟨j,rfl⟩:∃j:Nat,a=j:=⟨a.toNat,by omega⟩;obtain⟨y,hy⟩:∃y,cs[j]?=some y:=⟨_,oGE (by omega)⟩;rw[oIN hq,oBF hq,dK,oTN,getD_some hy];simp only[oCF,oBS,show dI cs j=some y from hy];exact⟨trivial,h2 y (dN hy)⟩
def kB(call:Int):List Int:=
 if call=0\/call=8\/call=9\/call=11\/call=12 then [78] else if call=1\/call=2 then [72,80,78] else if call=3 then [78,78] else if call=4 then [72] else if call=5 then [72,78]
 else if call=10 then [78,88] else if call=13\/call=14 then [78,80,78] else []
theorem Js(call:Int):(kB call).length<=3:=by
 unfold kB
 repeat' split
 all_goals simp
def BOk(b:ByteArray) (l:List Int):Prop:=zO b=(l.length:Int)/\∀j:Nat,yZ b j=l[j]?
theorem Pn:BOk (bytes []) []:=⟨rfl,λj=>rfl⟩
theorem Pm{a:Nat}(h:a < 256):BOk (bytes [a]) [(a:Int)]:=⟨rfl,λj=>by
 match j with
 | 0=>show some (((UInt8.ofNat a).toNat:Nat):Int)=some (a:Int);simp;omega
 | n+1=>rfl⟩
theorem Pl{a b:Nat}(h:a < 256) (hb:b < 256):BOk (bytes [a,b]) [(a:Int),(b:Int)]:=⟨rfl,λj=>by
 match j with
 | 0=>show some (((UInt8.ofNat a).toNat:Nat):Int)=some (a:Int);simp;omega
 | 1=>show some (((UInt8.ofNat b).toNat:Nat):Int)=some (b:Int);simp;omega
 | n+2=>rfl⟩
theorem Pk{a b c:Nat}(h:a < 256) (hb:b < 256) (hc:c < 256):BOk (bytes [a,b,c]) [(a:Int),(b:Int),(c:Int)]:=⟨rfl,λj=>by
 match j with
 | 0=>show some (((UInt8.ofNat a).toNat:Nat):Int)=some (a:Int);simp;omega
 | 1=>show some (((UInt8.ofNat b).toNat:Nat):Int)=some (b:Int);simp;omega
 | 2=>show some (((UInt8.ofNat c).toNat:Nat):Int)=some (c:Int);simp;omega
 | n+3=>rfl⟩
theorem ud{call:Int}(h:0<=call/\call<=15):call=0\/call=1\/call=2\/call=3\/call=4\/call=5\/call=6\/call=7\/call=8\/call=9\/call=10\/call=11\/call=12\/call=13\/call=14\/call=15:=by omega
theorem Ag{call:Int}(h:0<=call/\call<=15):∃b,j0 call=some (b,())/\BOk b (kB call):=by
 rcases ud h with rfl | rfl | rfl | rfl | rfl | rfl | rfl | rfl | rfl | rfl | rfl | rfl | rfl | rfl | rfl | rfl
 all_goals first
  | exact⟨_,rfl,Pn⟩
  | exact⟨_,rfl,Pm (by decide)⟩
  | exact⟨_,rfl,Pl (by decide) (by decide)⟩
  | exact⟨_,rfl,Pk (by decide) (by decide) (by decide)⟩
def Ls(k t:Int):Bool:=if k=78 then t==0 else if k=72 then t==2 else if k=80 then t==1 else true
theorem JN(k t:Int):lr k t=some (Ls k t,()):=by
 unfold lr Ls;by_cases h1:k=78
 ·simp[h1]
 ·by_cases h2:k=72
  ·simp[h2]
  ·by_cases h3:k=80
   ·simp[h3]
   ·simp[h1,h2,h3,oBF h1,oBF h2,oBF h3]
def qU(call:Int):Int:=if call=1\/call=13 then 1 else if call=2\/call=14 then 2 else 0
theorem tE{call:Int}(h:0<=call/\call<=15):im call=some (qU call,()):=by
 rcases ud h with rfl | rfl | rfl | rfl | rfl | rfl | rfl | rfl | rfl | rfl | rfl | rfl | rfl | rfl | rfl | rfl<;>rfl
theorem ve{call:Int}(h:0<=call/\call<=15):gK call=some (((kB call).length:Int),()):=by
 obtain⟨b,e,hb⟩:=Ag h;unfold gK;rw[oDF (show ¬ call < 0 by omega),oDF (show ¬ call > 15 by omega),e];simp only[oCF,oBS,hb.1]
theorem HU{bs ss:List Int}{key t v n:Int}(h:LV bs ss) (hv:W16 v) (hn:0<=n/\n<=65535):Ok (kW bs key ss t v n) λr=>∃a e,r=(a,e,())/\(e=0->t=1/\a=v/\∃(j:Nat) (b z:Int),bs[j]?=some b/\ss[j]?=some z/\b<=v/\v+n<=b+z/\v < b+z):=by
 obtain⟨v0,v1⟩:=hv;unfold kW
 (with_reducible refine dF (λhca=>?_) λhca=>?_)
 ·exact Ok.ret ⟨_,_,rfl,λh=>by omega⟩
 rw[dU (x:=v) (by omega) (by omega)];dsimp only;rw[zi h ⟨v0,v1⟩];simp only[oBS]
 cases e:KN bs ss v with
 | none=>exact Ok.ret ⟨_,_,rfl,λh=>by omega⟩
 | some x=>
  obtain⟨r,o⟩:=x;obtain⟨j,b,z,rfl,rfl,h1,h2,h3,h4⟩:=B4 h.2.1 e;have hj:=(oGS h1).1;have hr:=h.2.2 j hj;unfold nQ at hr;rw[dW h1,dW h2] at hr;have hz:=h.1.2.2 z (dN h2);dsimp only;rw[oDF (show ¬ n < 0 by omega),dK];simp only[oNT,oCF,oBS,show dI ss j=some z from h2];rw[dP (x:=z - (v - b)) (by omega) (by omega)]
  (with_reducible refine dF (λhcb=>?_) λhcb=>?_)
  ·exact Ok.ret ⟨_,_,rfl,λh=>by omega⟩
  ·exact Ok.ret ⟨_,_,rfl,λ_=>⟨hca,dU (by omega) (by omega),j,b,z,h1,h2,h3,by omega,h4⟩⟩
structure Kc (call:Int) (m:Int) (bs ss:List Int) (rs:List DCe):Prop where
 fit:∀(j:Nat) k c,(kB call)[j]?=some k->rs[j]?=some c->Ls k c.1=true
 buf:0 < qU call->∃p q,rs[1]?=some p/\rs[2]?=some q/\q.2<=16/\p.1=1/\∃(j:Nat) (b z:Int),bs[j]?=some b/\ss[j]?=some z/\b<=p.2/\p.2+q.2<=b+z
 code:call=10\/call=12->∃c,rs[0]?=some c/\c.2 < m
theorem E3{call m:Int}{bs ss:List Int}{rs:List DCe}(h:Kc call m bs ss rs):Ok (some ((0:Int),())) λr=>∃e,r=(e,())/\0<=e/\e<=6/\(e=0->Kc call m bs ss rs):=Ok.ret ⟨0,rfl,by decide,by decide,λ_=>h⟩
theorem xw{call m:Int}{bs ss:List Int}{rs:List DCe}:Ok (some ((6:Int),())) λr=>∃e,r=(e,())/\0<=e/\e<=6/\(e=0->Kc call m bs ss rs):=Ok.ret ⟨6,rfl,by decide,by decide,λh=>absurd h (by decide)⟩
theorem HF{n key:Int}{code:List DIn}{ss bs:List Int}{d:List (List Int)}{cs:List DCe}{ls:List DLn}{ts:List DTh}{i:Nat}{t:DTh}{x:DIn}(h:MOk n ss bs cs ls ts) (ht:ts[i]?=some t) (hp1:1<=t.2.2.1)
 (hx:code[(t.2.2.1 - 1).toNat]?=some x) (hc:0<=x.2.2.2.2/\x.2.2.2.2<=15):Ok (lW code ss d bs key cs ls ts (i:Int)) λr=>∃e,r=(e,())/\0<=e/\e<=6/\(e=0->Kc x.2.2.2.2 code.length bs ss t.2.1):=by
 have hok:=h.thr t (dN ht);obtain⟨_,hl,hr,⟨p0,p1⟩,_⟩:=id hok;obtain⟨o,A,B,C,call⟩:=x;dsimp only at hc ⊢;obtain⟨b,eb,hb1,hb2⟩:=Ag hc;have hk3:=Js call;obtain⟨st,rs,pc,rest⟩:=t;dsimp only at *;obtain⟨j,hj⟩:∃j:Nat,pc - 1=j:=⟨(pc - 1).toNat,by omega⟩;rw[hj,oTN] at hx;unfold lW;rw[dK];simp only[oBS,show dI ts i=some (st,rs,pc,rest) from ht];rw[dP (x:=pc - 1) (by omega) (by omega),hj,dK];simp only[oBS,show dI code j=some (o,A,B,C,call) from hx,eb,hb1];obtain⟨c0,hc0⟩:∃c,rs[0]?=some c:=⟨_,oGE (by omega)⟩;obtain⟨c1,hc1⟩:∃c,rs[1]?=some c:=⟨_,oGE (by omega)⟩;obtain⟨c2,hc2⟩:∃c,rs[2]?=some c:=⟨_,oGE (by omega)⟩;have v0:=hr c0 (dN hc0);have v1:=hr c1 (dN hc1);have v2:=hr c2 (dN hc2);have g0:dI rs 0=some c0:=hc0;have g1:dI rs 1=some c1:=hc1;have g2:dI rs 2=some c2:=hc2
 obtain⟨y,e,hy⟩:=fS (f:=lI) (n:=NN) (s:=(call,b,((kB call).length:Int),0,code,ss,d,bs,key,cs,ls,ts,st,rs,pc,rest.1,rest.2.1,rest.2.2.1,rest.2.2.2.1,rest.2.2.2.2,()))
  (P:=λs'=>∃q:Nat,s'=(call,b,((kB call).length:Int),(q:Int),code,ss,d,bs,key,cs,ls,ts,st,rs,pc,rest.1,rest.2.1,rest.2.2.1,rest.2.2.2.1,rest.2.2.2.2,())/\q<=(kB call).length/\∀(j:Nat) k c,j < q->(kB call)[j]?=some k->rs[j]?=some c->Ls k c.1=true)
  (R:=λr=>r=.inl (6,())\/(∃q,r=.inr (call,b,((kB call).length:Int),q,false,code,ss,d,bs,key,cs,ls,ts,st,rs,pc,rest.1,rest.2.1,rest.2.2.1,rest.2.2.2.1,rest.2.2.2.2,())/\∀(j:Nat) k c,(kB call)[j]?=some k->rs[j]?=some c->Ls k c.1=true))
  (m:=λs'=>(s'.2.2.1 - s'.2.2.2.1).toNat) ⟨0,rfl,by omega,λj k c hj=>by omega⟩ (by unfold NN;dsimp only;omega) (by
   rintro _ ⟨q,rfl,hq,hfit⟩;unfold lI;dsimp only
   (with_reducible refine dF (λhca=>?_) λhca=>?_)
   ·rw[dK];obtain⟨k,hk⟩:∃k,(kB call)[q]?=some k:=⟨_,oGE (by omega)⟩;obtain⟨c,hcq⟩:∃c,rs[q]?=some c:=⟨_,oGE (by omega)⟩;simp only[oBS,hb2 q,hk,show dI rs q=some c from hcq,JN]
    (with_reducible refine dF (λhcb=>?_) λhcb=>?_)
    ·exact Ok.ret (.inl rfl)
    ·rw[dP (x:=(q:Int)+1) (by omega) (by omega)];refine Ok.ret ⟨⟨q+1,rfl,by omega,λj' k' c' hj' h1 h2=>?_⟩,by dsimp only;omega⟩;by_cases hjq:j'=q
     ·subst hjq;rw[hk] at h1;rw[hcq] at h2;cases h1;cases h2;exact hcb
     ·exact hfit j' k' c' (by omega) h1 h2
   ·refine Ok.ret (.inr ⟨_,rfl,λj k c h1 h2=>hfit j k c ?_ h1 h2⟩);have:=(oGS h1).1
    omega)
 rw[e];rcases hy with rfl | ⟨q,rfl,hfit⟩
 ·exact xw
 dsimp only;rw[tE hc];delta dM;simp only[oBS,g0,g1,g2];rw[dU (x:=c2.2) (by have:=v2.2.2.1;omega) (by have:=v2.2.2.2.1;omega),dU (x:=c0.2) (by have:=v0.2.2.1;omega) (by have:=v0.2.2.2.1;omega)]
 have fin:(0 < qU call->∃p q,rs[1]?=some p/\rs[2]?=some q/\q.2<=16/\p.1=1/\∃(j:Nat) (b z:Int),bs[j]?=some b/\ss[j]?=some z/\b<=p.2/\p.2+q.2<=b+z)->Ok ((bif (call==10) then (some ((decide (c0.2>=(code.length:Int))),())) else
  bif (call==12) then (some ((decide (c0.2>=(code.length:Int))),())) else some (false,()):Option (Bool×Unit)).bind λ(x35,_)=>bif x35 then (some ((6:Int),())) else some (0,()))
  λr=>∃e,r=(e,())/\0<=e/\e<=6/\(e=0->Kc call code.length bs ss rs):=by
  intro hbuf;by_cases q10:call=10
  ·simp only[beq_iff_eq.2 q10,oCT,oBS]
   (with_reducible refine dF (λhcb=>?_) λhcb=>?_)
   ·exact xw
   ·exact E3 ⟨hfit,hbuf,λ_=>⟨c0,hc0,by omega⟩⟩
  ·by_cases q12:call=12
   ·simp only[oBF q10,beq_iff_eq.2 q12,oCT,oCF,oBS]
    (with_reducible refine dF (λhcb=>?_) λhcb=>?_)
    ·exact xw
    ·exact E3 ⟨hfit,hbuf,λ_=>⟨c0,hc0,by omega⟩⟩
   ·simp only[oBF q10,oBF q12,oCF,oBS];exact E3 ⟨hfit,hbuf,λh=>by omega⟩
 (with_reducible refine dF (λhca=>?_) λhca=>?_)
 ·refine (HU (t:=c1.1) (v:=c1.2) (n:=c2.2) h.lay ⟨v1.2.2.1,v1.2.2.2.1⟩ ⟨v2.2.2.1,v2.2.2.2.1⟩).bind ?_;rintro _ ⟨a,e,rfl,he⟩;dsimp only
  (with_reducible refine dF (λhcb=>?_) λhcb=>?_)
  ·exact xw
  obtain⟨w1,_,j,b',z,w2,w3,w4,w5,w6⟩:=he hcb
  (with_reducible refine dF (λhcc=>?_) λhcc=>?_)
  ·exact xw
  exact fin λ_=>⟨c1,c2,hc1,hc2,by omega,w1,j,b',z,w2,w3,w4,w5⟩
 ·exact fin λh=>by omega
structure yQ (n:Int) (ss:List Int) (i stop trap count pc call:Int) (args data:List DCn):Prop where
 hthr:0<=i/\i < 4
 hstop:0<=stop/\stop<=3
 htrap:0<=trap/\trap<=6
 hcnt:0<=count/\count<=n
 hpc:0<=pc/\pc<=255
 hcall:0<=call/\call<=15
 hargs:args.length<=3/\∀c∈args,Pr ss c
 hdata:data.length<=16/\∀c∈data,Pr ss c
 hkind:stop=1->args.length=(kB call).length/\∀(j:Nat) k a,(kB call)[j]?=some k->args[j]?=some a->Ls k a.1=true
 hbuf:stop=1->qU call=2->∃a,args[2]?=some a/\a.2.1<=16
def Pu(stop trap:Int) (t':DTh):Prop:=(stop=0/\t'.1=1)\/(stop=1/\t'.1=2)\/(stop=2/\t'.1=4/\t'.2.2.2.2.2.2.1=trap)\/(stop=3/\t'.1≠1)
def F9(n key:Int) (ss bs:List Int) (ts:List DTh) (i:Nat) (r:(List (Int))×Int×(List DCe)×(List DLn)×(List DTh)×Int×Int×Int×Int×Int×Int×(List DCn)×(List DCn)×Int×Unit):Prop:=
 ∃cs' ls' t' stop trap call args data,r=(bs,key,cs',ls',ts.set i t',(i:Int),stop,trap,t'.2.2.2.1,t'.2.2.1,call,args,data,0,())/\i9 (RK bs ss) cs' ls'/\xM (RK bs ss) n t' /\
  yQ n ss i stop trap t'.2.2.2.1 t'.2.2.1 call args data/\Pu stop trap t'/\(stop=3->ts[i]?=some t')
theorem vy{n:Int}{ss bs:List Int}{i:Nat}{t':DTh}{stop trap:Int}(hi:i < 4) (ht:xM (RK bs ss) n t') (hs:0<=stop/\stop<=3) (hs1:stop≠1) (htr:0<=trap/\trap<=6):yQ n ss i stop trap t'.2.2.2.1 t'.2.2.1 0 [] []:=
 ⟨⟨by omega,by omega⟩,hs,htr,ht.count,ht.pc,by decide,⟨by decide,ee⟩,⟨by decide,ee⟩,λh=>absurd h hs1,λh=>absurd h hs1⟩
theorem fM{α β:Type}(f:α->β) {l:List α}{k:Nat}{x:α}(h:l[k]?=some x):(l.take k).map f++[f x]=(l.take (k+1)).map f:=by
 rw[List.take_add_one,h];simp
theorem nM{β:Type}(f:Nat->β) (k:Nat):(List.range k).map f++[f k]=(List.range (k+1)).map f:=by
 rw[List.range_succ];simp
set_option maxHeartbeats 4000000 in
theorem vW{n key k:Int}{code:List DIn}{ss bs:List Int}{d:List (List Int)}{cs:List DCe}{ls:List DLn}{ts:List DTh}{i:Nat}(hp:kG code ss d) (h:MOk n ss bs cs ls ts) (hn0:0<=n) (hn:n+64<=1099511627776) (hi:i < 4) (hk:1<=k/\k<=64) :
 Ok (lu code ss d bs key cs ls ts (i:Int) k) (F9 (n+64) key ss bs ts i):=by
 have htl:=h.tlen
 have hil:i < ts.length:=by omega
 unfold lu;refine (Kp hp h hn0 hn hi hk).bind ?_;rintro _ ⟨s,cs',ls',t',rfl,hm,ht',hs⟩;have hM:MOk (n+64) ss bs cs' ls' (ts.set i t'):=(h.mono (show n<=n+64 by omega)).set hm ht';have hgt:(ts.set i t')[i]?=some t':=gN hil t';dsimp only;simp only[bne_self_eq_false,oCF,dK,oBS,gN hil];rcases hs with ⟨rfl,hs1,hs2⟩ | ⟨rfl,hs1⟩ | ⟨rfl,hs1⟩ | ⟨rfl,hs1,x,hs2,hs3,hs4⟩
 ·exact Ok.ret ⟨_,_,_,_,_,_,_,_,rfl,hm,ht',vy hi ht' (by decide) (by decide) (by decide),.inr (.inr (.inr ⟨rfl,hs2⟩)),λ_=>hs1⟩
 ·exact Ok.ret ⟨_,_,_,_,_,_,_,_,rfl,hm,ht',vy hi ht' (by decide) (by decide) (by decide),.inl ⟨rfl,hs1⟩,λh=>absurd h (by decide)⟩
 ·exact Ok.ret ⟨_,_,_,_,_,_,_,_,rfl,hm,ht',vy hi ht' (by decide) (by decide) ht'.trap,.inr (.inr (.inl ⟨rfl,hs1,rfl⟩)),λh=>absurd h (by decide)⟩
 ·have hins:=hp.ins x (dN hs3);have hcall:0<=x.2.2.2.2/\x.2.2.2.2<=15:=⟨hins.imm.1,hins.sys hs4⟩;obtain⟨_,ec,e,rfl,he0,he6,hcok⟩:=HF (key:=key) (d:=d) hM hgt hs2 hs3 hcall;obtain⟨o,A,B,C,call⟩:=x;dsimp only at hcall hcok;have hk3:=Js call;have hl8:=ht'.len;obtain⟨j,hj⟩:∃j:Nat,t'.2.2.1 - 1=j:=⟨(t'.2.2.1 - 1).toNat,by omega⟩;have hpc:=ht'.pc;rw[hj,oTN] at hs3;rw[dP (x:=t'.2.2.1 - 1) (by omega) (by omega),hj];simp only[Int.reduceBEq,oCT,oCF,ec,oBS,dK,show dI code j=some (o,A,B,C,call) from hs3,ve hcall];by_cases hne:e=0
  ·subst hne;obtain⟨hfit,hbuf,_⟩:=hcok rfl
   have e1:dR iC NN (((kB call).length:Int),0,code,ss,d,(),0,(),(),(),0,0,0,0,0,0,(),(),bs,key,cs',ls',ts.set i t',t'.1,t'.2.1,t'.2.2.1,t'.2.2.2.1,t'.2.2.2.2.1,t'.2.2.2.2.2.1,t'.2.2.2.2.2.2.1,t'.2.2.2.2.2.2.2,(i:Int),1,0,t'.2.2.2.1,t'.2.2.1,call,[],(),()) =
    some (((kB call).length:Int),((kB call).length:Int),false,code,ss,d,(),0,(),(),(),0,0,0,0,0,0,(),(),bs,key,cs',ls',ts.set i t',t'.1,t'.2.1,t'.2.2.1,t'.2.2.2.1,t'.2.2.2.2.1,t'.2.2.2.2.2.1,t'.2.2.2.2.2.2.1,t'.2.2.2.2.2.2.2,(i:Int),1,0,t'.2.2.2.1,t'.2.2.1,call,(t'.2.1.take (kB call).length).map (rj bs ss key),(),()):=by
    refine my (f:=iC) (N:=NN) (st:=λq=>(((kB call).length:Int),(q:Int),code,ss,d,(),0,(),(),(),0,0,0,0,0,0,(),(),bs,key,cs',ls',ts.set i t',t'.1,t'.2.1,t'.2.2.1,t'.2.2.2.1,t'.2.2.2.2.1,t'.2.2.2.2.2.1,t'.2.2.2.2.2.2.1,t'.2.2.2.2.2.2.2,(i:Int),1,0,t'.2.2.2.1,t'.2.2.1,call,(t'.2.1.take q).map (rj bs ss key),(),())) (n:=(kB call).length) (by unfold NN;omega) ?_ ?_
    ·intro q hq;unfold iC;dsimp only;rw[oDT (show (q:Int) < (kB call).length by omega),dK];simp only[oCT,oBS];refine Ok.get (by omega) λc hc=>?_;rw[qT h.lay (ht'.regs c (dN hc))];simp only[oBS];refine dG (dS (by simp;omega)) ?_;rw[dP (x:=(q:Int)+1) (by omega) (by omega)];refine Ok.ret ?_;rw[<- fM (rj bs ss key) hc];rfl
    ·unfold iC;dsimp only;rw[oDF (show ¬ ((kB call).length:Int) < (kB call).length by omega)];exact Ok.ret rfl
   have hargs:((t'.2.1.take (kB call).length).map (rj bs ss key)).length=(kB call).length:=by rw[List.length_map,oLT];omega
   have hgetA:∀(j:Nat) a,((t'.2.1.take (kB call).length).map (rj bs ss key))[j]?=some a->∃c,t'.2.1[j]?=some c/\a=rj bs ss key c:=by
    intro j a ha;rw[List.getElem?_map] at ha
    cases hc:(t'.2.1.take (kB call).length)[j]? with
    | none=>rw[hc] at ha;cases ha
    | some c=>
     rw[hc] at ha
     injection ha with ha
     refine⟨c,?_,ha.symm⟩;rw[List.getElem?_take] at hc;split at hc
     ·exact hc
     ·cases hc
   have hargsPr:∀c∈(t'.2.1.take (kB call).length).map (rj bs ss key),Pr ss c:=by
    intro c hc;obtain⟨c',hc',rfl⟩:=List.mem_map.1 hc;exact BF h.lay (ht'.regs c' (List.mem_of_mem_take hc'))
   have hkinds:∀(j:Nat) k a,(kB call)[j]?=some k->((t'.2.1.take (kB call).length).map (rj bs ss key))[j]?=some a->Ls k a.1=true:=by
    intro j k a hk ha;obtain⟨c,hc,rfl⟩:=hgetA j a ha;rw[(F2 (ht'.regs c (dN hc))).1];exact hfit j k c hk hc
   have hbuf2:qU call=2->∃a,((t'.2.1.take (kB call).length).map (rj bs ss key))[2]?=some a/\a.2.1<=16:=by
    intro hb;obtain⟨p,q,hp1,hq2,hq16,_⟩:=hbuf (by omega)
    have hkk:(kB call)[2]?=some 78:=by
     have:call=2\/call=14:=by unfold qU at hb;split at hb<;>first | omega | (split at hb<;>omega)
     rcases this with rfl | rfl<;>rfl
    have hf:=hfit 2 78 q hkk hq2;have hl3:=(oGS hkk).1;refine⟨rj bs ss key q,?_,?_⟩
    ·rw[List.getElem?_map,List.getElem?_take,oIP hl3,hq2];rfl
    ·have hq:=(F2 (bs:=bs) (ss:=ss) (key:=key) (ht'.regs q (dN hq2))).2 (by unfold Ls at hf;simpa using hf);rw[hq];exact hq16
   simp only[e1,bne_self_eq_false,oCF,oBS,tE hcall]
   have fin:∀data:List DCn,data.length<=16->(∀c∈data,Pr ss c)->Ok (some (bs,key,cs',ls',ts.set i t',(i:Int),(1:Int),(0:Int),t'.2.2.2.1,t'.2.2.1,call,(t'.2.1.take (kB call).length).map (rj bs ss key),data,(0:Int),())) (F9 (n+64) key ss bs ts i):=
    λdata h1 h2=>Ok.ret ⟨_,_,_,_,_,_,_,_,rfl,hm,ht',⟨⟨by omega,by omega⟩,by decide,by decide,ht'.count,ht'.pc,hcall,⟨by omega,hargsPr⟩,⟨h1,h2⟩,λ_=>⟨hargs,hkinds⟩,λ_=>hbuf2⟩,.inr (.inl ⟨rfl,hs1⟩),λh=>absurd h (by decide)⟩
   by_cases hb1:qU call=1
   ·obtain⟨p,q,hp1,hq2,hq16,_,jr,b,z,hbz1,hbz2,hbz3,hbz4⟩:=hbuf (by omega);have hp':=ht'.regs p (dN hp1);have hq':=ht'.regs q (dN hq2);have hjr:=(oGS hbz1).1;have hreg:=h.lay.2.2 jr hjr;unfold nQ at hreg;rw[dW hbz1,dW hbz2] at hreg;obtain⟨m,hqm⟩:∃m:Nat,q.2=m:=⟨q.2.toNat,by have:=hq'.2.2.1;omega⟩
    have e2:dR iB NN ((m:Int),0,code,ss,d,(),0,(),(),(),0,0,0,0,0,0,(),(),bs,key,cs',ls',ts.set i t',t'.1,t'.2.1,t'.2.2.1,t'.2.2.2.1,t'.2.2.2.2.1,t'.2.2.2.2.2.1,t'.2.2.2.2.2.2.1,t'.2.2.2.2.2.2.2,(i:Int),1,0,t'.2.2.2.1,t'.2.2.1,call,(t'.2.1.take (kB call).length).map (rj bs ss key),[],()) =
     some ((m:Int),(m:Int),false,code,ss,d,(),0,(),(),(),0,0,0,0,0,0,(),(),bs,key,cs',ls',ts.set i t',t'.1,t'.2.1,t'.2.2.1,t'.2.2.2.1,t'.2.2.2.2.1,t'.2.2.2.2.2.1,t'.2.2.2.2.2.2.1,t'.2.2.2.2.2.2.2,(i:Int),1,0,t'.2.2.2.1,t'.2.2.1,call,(t'.2.1.take (kB call).length).map (rj bs ss key),(List.range m).map (λj:Nat=>rj bs ss key (Ef cs' ls' (p.2+(j:Int)))),()):=by
     refine my (f:=iB) (N:=NN) (st:=λq=>((m:Int),(q:Int),code,ss,d,(),0,(),(),(),0,0,0,0,0,0,(),(),bs,key,cs',ls',ts.set i t',t'.1,t'.2.1,t'.2.2.1,t'.2.2.2.1,t'.2.2.2.2.1,t'.2.2.2.2.2.1,t'.2.2.2.2.2.2.1,t'.2.2.2.2.2.2.2,(i:Int),1,0,t'.2.2.2.1,t'.2.2.1,call,(t'.2.1.take (kB call).length).map (rj bs ss key),(List.range q).map (λj:Nat=>rj bs ss key (Ef cs' ls' (p.2+(j:Int)))),())) (n:=m) (by unfold NN;omega) ?_ ?_
     ·intro v hv;unfold iB;dsimp only;have hp0:=hp'.2.2.1;have hp01:=hp'.2.2.2.1;rw[oDT (show (v:Int) < m by omega)];simp only[oCT,oBS,show dI t'.2.1 1=some p from hp1];rw[dU (x:=p.2) (by omega) (by omega),dP (x:=p.2+v) (by omega) (by omega)];obtain⟨hlk,hlv⟩:=Ae (a:=p.2+v) hm ⟨by omega,by omega⟩;rw[hlk];simp only[oBS];rw[qT h.lay hlv];simp only[oBS];refine dG (dS (by simp;omega)) ?_;rw[dP (x:=(v:Int)+1) (by omega) (by omega)];refine Ok.ret ?_;rw[<- nM];rfl
     ·unfold iB;dsimp only;rw[oDF (show ¬ (m:Int) < m by omega)];exact Ok.ret rfl
    simp only[hb1,BEq.rfl,oCT,show dI t'.2.1 2=some q from hq2,oBS];rw[dU (x:=q.2) (by omega) (by omega),hqm,e2];simp only[oBS];refine fin _ (by rw[List.length_map,List.length_range];omega) ?_;intro c hc;obtain⟨v,hv,rfl⟩:=List.mem_map.1 hc;have hv:=List.mem_range.1 hv;have hp0:=hp'.2.2.1;exact BF h.lay (Ae (a:=p.2+v) hm ⟨by omega,by omega⟩).2
   ·simp only[oBF hb1,oCF];exact fin [] (by decide) ee
  ·unfold mH kV;simp only[bne_iff_ne.2 hne,oCT];rw[dS (show 4<=1000/\0+t'.2.1.length<=1000000 by omega)];simp only[oCT,oBS,dK,gN hil,nZ hil];exact Ok.ret ⟨_,_,_,_,_,_,_,_,rfl,hm,ht'.ended ⟨he0,he6⟩,vy hi (ht'.ended ⟨he0,he6⟩) (by decide) (by decide) ⟨he0,he6⟩,.inr (.inr (.inl ⟨rfl,rfl,rfl⟩)),λh=>absurd h (by decide)⟩
theorem Ee{a b:Int}:mmR false a b<=a/\mmR false a b<=b/\(mmR false a b=a\/mmR false a b=b):=by
 unfold mmR;simp only[Bool.false_eq_true,if_false];split<;>omega
theorem kL{α:Type}{l:List α}{i j:Nat}(h:i≠j) (a:α):(l.set i a)[j]?=l[j]?:=by
 rw[List.getElem?_set];simp[h]
theorem NA.setFile{d:List (List DCn)}{o:DOp}{f:Nat}{x y:List DCn}(h:NA d o) (hf:d[f]?=some x) (hxy:x.length<=y.length):NA (d.set f y) o:=by
 rcases h with h | ⟨h1,z,h2,h3,h4⟩
 ·exact .inl h
 ·refine .inr ⟨h1,?_⟩;by_cases e:f=o.1.toNat
  ·subst e;rw[hf] at h2;cases h2;exact⟨y,gN (oGS hf).1 y,h3,by omega⟩
  ·exact⟨z,by rw[kL e];exact h2,h3,h4⟩
theorem fD.setFile{ss:List Int}{d:List (List DCn)}{os:List DOp}{f:Nat}{x y:List DCn}(h:fD ss d os) (hf:d[f]?=some x) (h64:y.length<=64) (hc:∀c∈y,Pr ss c) (hxy:x.length<=y.length):fD ss (d.set f y) os:=
 ⟨by rw[List.length_set];exact h.dlen,iK h.flen h64,iK h.cells hc,h.olen,λo ho=>(h.opens o ho).setFile hf hxy⟩
theorem fD.setOpen{ss:List Int}{d:List (List DCn)}{os:List DOp}{i:Nat}{o:DOp}(h:fD ss d os) (ho:NA d o):fD ss d (os.set i o):=
 ⟨h.dlen,h.flen,h.cells,by rw[List.length_set];exact h.olen,iK h.opens ho⟩
theorem Aa{ss:List Int}{d:List (List DCn)}{os:List DOp}{h:Int}(hF:fD ss d os):∃b,gT d os h=some (b,())/\(b=true->∃(j f:Nat) (o:DOp) (x:List DCn),h=j/\j < 8/\os[j]?=some o/\o.1=f/\d[f]?=some x/\0<=o.2.1/\o.2.1<=x.length):=by
 have:Ok (gT d os h) λr=>∃b,r=(b,())/\(b=true->∃(j f:Nat) (o:DOp) (x:List DCn),h=j/\j < 8/\os[j]?=some o/\o.1=f/\d[f]?=some x/\0<=o.2.1/\o.2.1<=x.length):=by
  unfold gT;delta dM;simp only[hF.olen]
  (with_reducible refine dF (λhca=>?_) λhca=>?_)
  ·(with_reducible refine dF (λhcb=>?_) λhcb=>?_)
   ·refine Ok.nat (by omega) λj hj=>?_;have h8:=hF.olen;refine Ok.get (by omega) λo ho=>?_;refine Ok.ret ⟨_,rfl,λhb=>?_⟩;rcases hF.opens o (dN ho) with ⟨h1,_⟩ | ⟨h1,x,h2,h3,h4⟩
    ·rw[h1] at hb;simp at hb
    ·exact⟨j,o.1.toNat,o,x,hj,by omega,ho,by omega,h2,h3,h4⟩
   ·exact Ok.ret ⟨_,rfl,λh=>by cases h⟩
  ·exact Ok.ret ⟨_,rfl,λh=>by cases h⟩
 obtain⟨_,e,b,rfl,hb⟩:=this;exact⟨b,e,hb⟩
theorem sS{ss:List Int}{d:List (List DCn)}{os:List DOp}(h:fD ss d os):fO d os=some (d,os,()):=
 copy17_ok (by have:=h.dlen;omega) (λx hx=>by have:=h.flen x hx;omega) (by have:=h.olen;omega)
theorem Gi{ss:List Int}{d:List (List DCn)}{os:List DOp}{h:Int}{l:List DCn}(hs:vN ss) (hF:fD ss d os) (hl:l.length<=16) (hlc:∀c∈l,Pr ss c) :
 Ok (lQ d os h l) λr=>∃d' os' n b,r=(d',os',n,b,())/\fD ss d' os'/\0<=n/\n<=16:=by
 obtain⟨b,eo,hb⟩:=Aa (h:=h) hF;unfold lQ;rw[sS hF];simp only[oBS,eo]
 cases b with
 | false=>
  simp only[Bool.not_false,oCT,oBS];exact Ok.ret ⟨_,_,_,_,rfl,hF,by decide,by decide⟩
 | true=>
  obtain⟨j,f,o,x,rfl,hj,ho,hof,hx,o0,o1⟩:=hb rfl;have hg:dI os j=some o:=ho;have hgx:dI d f=some x:=hx;have hjl:=(oGS ho).1;have hfl:=(oGS hx).1;have hx64:=hF.flen x (dN hx);simp only[oNT,oCF,dK,oBS,hg]
  cases hw:o.2.2 with
  | false=>
   simp only[Bool.not_false,oCT,oBS];exact Ok.ret ⟨_,_,_,_,rfl,hF,by decide,by decide⟩
  | true=>
   delta dM;simp only[oNT,oCF,oBS,jK (n:=(l.length:Int)) hs hlc (by omega) (by omega),dK,hg,hof,hgx];rw[dP (x:=64 - o.2.1) (by omega) (by omega)];obtain⟨m1,m2,m3⟩:=Ee (a:=(l.length:Int)) (b:=64 - o.2.1);generalize mmR false (l.length:Int) (64 - o.2.1)=k at m1 m2 m3
   refine Ok.loop (P:=λs'=>∃(i:Nat) (y:List DCn),s'=(l,j,k,k,(i:Int),(),(),d,f,os,y,())/\(i:Int)<=k/\(∀c∈y,Pr ss c)/\x.length<=y.length/\o.2.1+i<=y.length/\y.length<=64)
    (R:=λr=>∃y:List DCn,r=(l,j,k,k,k,false,(),(),d,f,os,y,())/\(∀c∈y,Pr ss c)/\x.length<=y.length/\o.2.1+k<=y.length/\y.length<=64) (m:=λs'=>(k - s'.2.2.2.2.1).toNat) ⟨0,x,rfl,by omega,hF.cells x (dN hx),by omega,by omega,hx64⟩ (by unfold NN;dsimp only;omega) ?_ ?_
   ·rintro _ ⟨i,y,rfl,hi,hy,hxy,hoy,hy64⟩;unfold pf;dsimp only
    (with_reducible refine dF (λhca=>?_) λhca=>?_)
    ·delta dM;simp only[hg,oBS,dK];rw[dP (x:=o.2.1+i) (by omega) (by omega)];obtain⟨c,hc⟩:∃c,l[i]?=some c:=⟨_,oGE (by omega)⟩;have hgc:dI l i=some c:=hc;have hcp:=hlc c (dN hc);simp only[hgc,oBS];refine Ok.bind (P:=λr=>∃y':List DCn,r=(l,j,k,k,(i:Int),(),(),d,f,os,y',())/\(∀c∈y',Pr ss c)/\x.length<=y'.length/\o.2.1+i+1<=y'.length/\y'.length<=64) ?_ ?_
     ·(with_reducible refine dF (λhcb=>?_) λhcb=>?_)
      ·refine Ok.nat (by omega) λq hq=>?_;refine Ok.get (by omega) λ_ hz=>?_;refine Ok.get (by omega) λ_ _=>?_;rw[eq hz];exact Ok.ret ⟨_,rfl,iK hy hcp,by rw[List.length_set];omega,by rw[List.length_set];omega,by rw[List.length_set];omega⟩
      ·refine dG (dS (by simp;omega)) ?_;exact Ok.ret ⟨_,rfl,i7 hy (all_cons hcp ee),by rw[eY];omega,by rw[eY,List.length_singleton];omega,by rw[eY,List.length_singleton];omega⟩
     ·rintro _ ⟨y',rfl,g1,g2,g3,g4⟩;dsimp only;rw[dP (x:=(i:Int)+1) (by omega) (by omega)];exact Ok.ret ⟨⟨i+1,y',rfl,by omega,g1,g2,by omega,g4⟩,by dsimp only;omega⟩
    ·obtain rfl:(i:Int)=k:=by omega
     exact Ok.ret ⟨y,rfl,hy,hxy,hoy,hy64⟩
   ·rintro _ ⟨y,rfl,hy,hxy,hoy,hy64⟩;dsimp only;simp only[hg,oBS,hof,dK,hgx];refine dG (by simp) ?_;rw[dP (x:=o.2.1+k) (by omega) (by omega),eq hx,eq ho];refine Ok.ret ⟨_,_,_,_,rfl,(hF.setFile hx hy64 hy hxy).setOpen (.inr ⟨by dsimp only;omega,y,?_,by dsimp only;omega,by dsimp only;omega⟩),by omega,by omega⟩;dsimp only;rw[hof,oTN];exact gN hfl y
theorem IR{ss:List Int}{d:List (List DCn)}{os:List DOp}{h n:Int}(hF:fD ss d os) (hn:0<=n/\n<=65535) :
 Ok (nj d os h n) λr=>(∃d' os',r=.inl (d',os',(),false,())/\fD ss d' os')\/(∃d' os' l,r=.inr (d',os',l,true,())/\fD ss d' os'/\(l.length:Int)<=n/\l.length<=64/\∀c∈l,Pr ss c):=by
 obtain⟨b,eo,hb⟩:=Aa (h:=h) hF;unfold nj;rw[sS hF];simp only[oBS,eo]
 cases b with
 | false=>
  simp only[Bool.not_false,oCT,oBS];exact Ok.ret (.inl ⟨_,_,rfl,hF⟩)
 | true=>
  obtain⟨j,f,o,x,rfl,hj,ho,hof,hx,o0,o1⟩:=hb rfl;have hg:dI os j=some o:=ho;have hgx:dI d f=some x:=hx;have hx64:=hF.flen x (dN hx);rw[oDF (show ¬ n < 0 by omega)];simp only[oNT,oCF,dK,oBS,hg]
  cases hw:o.2.2 with
  | true=>exact Ok.ret (.inl ⟨_,_,rfl,hF⟩)
  | false=>
   delta dM;simp only[oCF,dK,oBS,hg,hof,hgx];rw[dP (x:=(x.length:Int) - o.2.1) (by omega) (by omega)];obtain⟨m1,m2,m3⟩:=Ee (a:=n) (b:=(x.length:Int) - o.2.1);generalize mmR false n ((x.length:Int) - o.2.1)=k at m1 m2 m3;rw[dP (x:=o.2.1+k) (by omega) (by omega)];refine Ok.nat o0 λp hp=>?_;refine Ok.nat (by omega) λq hq=>?_;refine dG (by unfold gS;simp;omega) ?_
   have hw2:(jN x p (Nat.sub q p)).length=q - p:=by
    unfold jN;rw[oLT,List.length_drop];show min (q - p) _=q - p;omega
   refine dG (dS (by omega)) ?_;rw[eq ho];refine Ok.ret (.inr ⟨_,_,_,rfl,hF.setOpen (.inr ⟨by dsimp only;omega,x,by dsimp only;rw[hof,oTN];exact hx,by dsimp only;omega,by dsimp only;omega⟩),?_,?_,?_⟩)
   ·rw[eY,hw2];simp;omega
   ·rw[eY,hw2];simp;omega
   ·refine i7 ee λc hc=>hF.cells x (dN hx) c ?_;unfold jN at hc;exact List.mem_of_mem_drop (List.mem_of_mem_take hc)
theorem HB{ss:List Int}{d:List (List DCn)}{os:List DOp}{h:Int}(hF:fD ss d os):Ok (lR d os h) λr=>∃d' os' b,r=(d',os',b,())/\fD ss d' os':=by
 obtain⟨b,eo,hb⟩:=Aa (h:=h) hF;unfold lR;rw[sS hF];simp only[oBS,eo]
 cases b with
 | false=>exact Ok.ret ⟨_,_,_,rfl,hF⟩
 | true=>
  obtain⟨j,f,o,x,rfl,hj,ho,hof,hx,o0,o1⟩:=hb rfl;have hg:dI os j=some o:=ho;simp only[oNT,oCF,dK,oBS,hg];rw[eq ho];exact Ok.ret ⟨_,_,_,rfl,hF.setOpen (.inl ⟨rfl,rfl,rfl⟩)⟩
theorem IE{ss:List Int}{d:List (List DCn)}{os:List DOp}{h n:Int}(hF:fD ss d os):Ok (ni d os h n) λr=>∃d' os' b,r=(d',os',b,())/\fD ss d' os':=by
 obtain⟨b,eo,hb⟩:=Aa (h:=h) hF;unfold ni;rw[sS hF];simp only[oBS,eo]
 cases b with
 | false=>
  simp only[Bool.not_false,oCT,oBS];exact Ok.ret ⟨_,_,_,rfl,hF⟩
 | true=>
  obtain⟨j,f,o,x,rfl,hj,ho,hof,hx,o0,o1⟩:=hb rfl;have hg:dI os j=some o:=ho;have hgx:dI d f=some x:=hx;delta dM;simp only[oNT,oCF,dK,oBS,hg,hof,hgx];by_cases hn:n < 0
  ·simp only[oDT hn,oCT,oBS];exact Ok.ret ⟨_,_,_,rfl,hF⟩
  ·simp only[oDF hn,oCF,oBS]
   (with_reducible refine dF (λhca=>?_) λhca=>?_)
   ·exact Ok.ret ⟨_,_,_,rfl,hF⟩
   ·simp only[dK,oBS,hg];rw[eq ho];exact Ok.ret ⟨_,_,_,rfl,hF.setOpen (.inr ⟨by dsimp only;omega,x,by dsimp only;rw[hof,oTN];exact hx,by dsimp only;omega,by dsimp only;omega⟩)⟩
theorem K1{ss:List Int}{d:List (List DCn)}{os:List DOp}{file mode:Int}(hF:fD ss d os):Ok (nk d os file mode) λr=>∃d' os' h,r=(d',os',h,())/\fD ss d' os'/\-1<=h/\h<=7:=by
 have h8:=hF.olen;have hd4:=hF.dlen;unfold nk;rw[sS hF];simp only[oBS];refine Ok.loop (P:=λs'=>∃i:Nat,s'=(file,mode,(i:Int),d,os,(),(),d,os,())/\i<=8) (R:=λr=>∃i:Nat,r=(file,mode,(i:Int),false,d,os,(),(),d,os,())/\i<=8) (m:=λs'=>(8 - s'.2.2.1).toNat) ⟨0,rfl,by omega⟩ (by unfold NN;dsimp only;omega) ?_ ?_
 ·rintro _ ⟨i,rfl,hi⟩;unfold pD;delta dM;simp only[h8,dK,oBS]
  (with_reducible refine dF (λhca=>?_) λhca=>?_)
  ·refine Ok.get (by omega) λo ho=>?_
   (with_reducible refine dF (λhcb=>?_) λhcb=>?_)
   ·rw[dP (x:=(i:Int)+1) (by omega) (by omega)];exact Ok.ret ⟨⟨i+1,rfl,by omega⟩,by dsimp only;omega⟩
   ·exact Ok.ret ⟨i,rfl,hi⟩
  ·exact Ok.ret ⟨i,rfl,hi⟩
 rintro _ ⟨i,rfl,hi⟩;delta dM;simp only[h8];have bad:fD ss d os/\(-1:Int)<=-1/\(-1:Int)<=7:=⟨hF,by decide,by decide⟩;refine Ok.bind (P:=λr=>(∃b:Bool,r=(file,mode,(i:Int),b,(),(),d,os,())/\(b=false->0<=file/\file < d.length/\i < 8))) ?_ ?_
 ·(with_reducible refine dF (λhca=>?_) λhca=>?_)
  ·exact Ok.ret ⟨true,rfl,λh=>by cases h⟩
  (with_reducible refine dF (λhcb=>?_) λhcb=>?_)
  ·exact Ok.ret ⟨true,rfl,λh=>by cases h⟩
  (with_reducible refine dF (λhcc=>?_) λhcc=>?_)
  ·exact Ok.ret ⟨true,rfl,λh=>by cases h⟩
  (with_reducible refine dF (λhcd=>?_) λhcd=>?_)
  ·exact Ok.ret ⟨true,rfl,λh=>by cases h⟩
  exact Ok.ret ⟨_,rfl,λh=>⟨by omega,by omega,by rw[beq_eq_false_iff_ne] at h;omega⟩⟩
 rintro _ ⟨b,rfl,hb⟩;dsimp only
 cases b with
 | true=>exact Ok.ret ⟨_,_,_,rfl,bad⟩
 | false=>
  obtain⟨f0,f1,hi8⟩:=hb rfl;obtain⟨f,rfl⟩:∃f:Nat,file=f:=⟨file.toNat,by omega⟩;obtain⟨x,hx⟩:∃x,d[f]?=some x:=⟨_,oGE (by omega)⟩;obtain⟨o,ho⟩:∃o,os[i]?=some o:=⟨_,oGE (by omega)⟩;have hgx:dI d f=some x:=hx;have hg:dI os i=some o:=ho;have hfl:=(oGS hx).1;have hil:=(oGS ho).1;simp only[oCF,dK,oBS,hgx,hg];by_cases h1:mode=1
  ·subst h1;simp only[BEq.rfl,oCT];rw[eq hx];simp only[h8]
   refine Ok.loop (P:=λs'=>∃(q:Nat) (os':List DOp),s'=((f:Int),1,(i:Int),((8:Nat):Int),(q:Int),(),(),d.set f [],os',())/\q<=8/\os'.length=8/\(∀(j:Nat) o,j < q->os'[j]?=some o->NA (d.set f []) o)/\∀j:Nat,q<=j->os'[j]?=os[j]?)
    (R:=λr=>∃(z:Int) (os':List DOp),r=((f:Int),1,(i:Int),((8:Nat):Int),z,false,(),(),d.set f [],os',())/\fD ss (d.set f []) os') (m:=λs'=>(8 - s'.2.2.2.2.1).toNat) ⟨0,os,rfl,by omega,h8,λj o hj=>by omega,λ_ _=>rfl⟩ (by unfold NN;dsimp only;omega) ?_ ?_
   ·rintro _ ⟨q,os',rfl,hq,hl',ha,hr⟩;unfold pC;dsimp only
    (with_reducible refine dF (λhca=>?_) λhca=>?_)
    ·obtain⟨o',ho'⟩:∃o',os'[q]?=some o':=⟨_,oGE (by omega)⟩;have hg':dI os' q=some o':=ho';have hop:=hF.opens o' (dN (by rw[<- hr q (by omega)];exact ho'));simp only[dK,oBS,hg'];refine Ok.bind (P:=λr=>∃o2:DOp,NA (d.set f []) o2/\r=((f:Int),1,(i:Int),((8:Nat):Int),(q:Int),(),(),d.set f [],os'.set q o2,())) ?_ ?_
     ·by_cases hof:o'.1=f
      ·simp only[beq_iff_eq.2 hof,oCT];rw[eq ho'];exact Ok.ret ⟨_,.inr ⟨by dsimp only;omega,[],by dsimp only;rw[hof,oTN];exact gN hfl [],by dsimp only;omega,by simp⟩,rfl⟩
      ·simp only[oBF hof,oCF];refine Ok.ret ⟨o',?_,by rw[zR ho']⟩;rcases hop with h | ⟨g1,z,g2,g3⟩
       ·exact .inl h
       ·exact .inr ⟨g1,z,by rw[kL (by omega)];exact g2,g3⟩
     ·rintro _ ⟨o2,hop2,rfl⟩;dsimp only;rw[dP (x:=(q:Int)+1) (by omega) (by omega)];refine Ok.ret ⟨⟨q+1,_,rfl,by omega,by rw[List.length_set];exact hl',λj o hj hjo=>?_,λj hj=>?_⟩,by dsimp only;omega⟩
      ·by_cases e:q=j
       ·subst e;rw[show (os'.set q o2)[q]?=some o2 from gN (by omega) o2] at hjo;cases hjo;exact hop2
       ·rw[kL e] at hjo;exact ha j o (by omega) hjo
      ·rw[kL (by omega)];exact hr j (by omega)
    ·refine Ok.ret ⟨_,_,rfl,⟨by rw[List.length_set];exact hd4,iK hF.flen (by simp),iK hF.cells ee,hl',λo' ho'=>?_⟩⟩;obtain⟨j,hj⟩:=List.getElem?_of_mem ho';have:=(oGS hj).1;exact ha j o' (by omega) hj
   ·rintro _ ⟨z,os',rfl,hF'⟩;have hl':=hF'.olen;obtain⟨o',ho'⟩:∃o',os'[i]?=some o':=⟨_,oGE (by omega)⟩;have hg':dI os' i=some o':=ho';simp only[dK,oBS,hg',show ((1:Int)==2)=false from rfl,oCF];rw[eq ho'];exact Ok.ret ⟨_,_,_,rfl,hF'.setOpen (.inr ⟨by dsimp only;omega,[],by dsimp only;rw[oTN];exact gN hfl [],by dsimp only;omega,by simp⟩),by omega,by omega⟩
  ·simp only[oBF h1,oCF];rw[eq ho];by_cases h2:mode=2
   ·subst h2;simp only[BEq.rfl,oCT,oBS,gN hil,nZ hil];exact Ok.ret ⟨_,_,_,rfl,hF.setOpen (.inr ⟨by dsimp only;omega,x,by dsimp only;rw[oTN];exact hx,by dsimp only;omega,by dsimp only;omega⟩),by omega,by omega⟩
   ·simp only[oBF h2,oCF,oBS];exact Ok.ret ⟨_,_,_,rfl,hF.setOpen (.inr ⟨by dsimp only;omega,x,by dsimp only;rw[oTN];exact hx,by dsimp only;omega,by dsimp only;omega⟩),by omega,by omega⟩
theorem gi(n:Int) (b:Bool):∃v,d8 n b=some (0,v,0,0,(),-1,false,())/\W16 v:=by
 unfold d8
 cases b with
 | true=>exact⟨_,rfl,mC _⟩
 | false=>exact⟨_,rfl,mC _⟩
theorem km{ss:List Int}{v:Int}(h:W16 v):Pr ss (0,v,0,0):=.inl ⟨.inl rfl,rfl,rfl,h⟩
theorem LY{ss:List Int}{v:Int}(h:W16 v):Pr ss (2,v,0,0):=.inl ⟨.inr rfl,rfl,rfl,h⟩
theorem ID{ss:List Int}{us:List DOu}{sk:Int}{l:List DCn}(hu:us.length<=200) (ho:∀(i:Nat) x,us[i]?=some x->OG ss i x) (hl:l.length<=16) (hlc:∀c∈l,Pr ss c) :
 Ok (nh us sk l) λr=>∃us' n b,r=(us',n,b,())/\us'.length<=200/\∀(i:Nat) x,us'[i]?=some x->OG ss i x:=by
 have hc:jC us=some (us,()):=DA (by omega) λx hx=>by
  obtain⟨j,hj⟩:=List.getElem?_of_mem hx;have:=(ho j x hj).2.2.2.1;omega
 unfold nh;rw[hc];delta dM;simp only[oBS];refine Ok.bind (P:=λr=>∃b:Bool,r=(us,sk,l,b,us,())/\(b=false->0<=sk/\sk < 2/\us.length < 200)) ?_ ?_
 ·(with_reducible refine dF (λhca=>?_) λhca=>?_)
  ·exact Ok.ret ⟨true,rfl,λh=>by cases h⟩
  (with_reducible refine dF (λhcb=>?_) λhcb=>?_)
  ·exact Ok.ret ⟨true,rfl,λh=>by cases h⟩
  (with_reducible refine dF (λhcc=>?_) λhcc=>?_)
  ·exact Ok.ret ⟨true,rfl,λh=>by cases h⟩
  exact Ok.ret ⟨_,rfl,λh=>⟨by omega,by omega,by omega⟩⟩
 rintro _ ⟨b,rfl,hb⟩;dsimp only
 cases b with
 | true=>exact Ok.ret ⟨_,_,_,rfl,hu,ho⟩
 | false=>
  obtain⟨s0,s1,hlt⟩:=hb rfl;simp only[oCF];refine dG (dS (by omega)) (dG (dS (by simp;omega)) ?_);refine Ok.ret ⟨_,_,_,rfl,by rw[eY];simp;omega,λi x hx=>?_⟩;simp only[List.append_eq,List.nil_append] at hx;rw[List.getElem?_append] at hx;split at hx
  ·exact ho i x hx
  ·rename_i hi;obtain⟨q,hq⟩:∃q,i - us.length=q:=⟨_,rfl⟩;rw[hq] at hx
   cases q with
   | zero=>
    have:x=((us.length:Int),sk,l):=by simpa using hx.symm
    subst this;exact⟨by dsimp only;omega,s0,s1,hl,hlc⟩
   | succ q=>simp at hx
theorem B5{ss:List Int}{ins:List (List Int)}{sk n:Int}(hi:ins.length<=2) (h:∀x∈ins,x.length<=64/\∀w∈x,W16 w) (hn:0<=n/\n<=65535) :
 Ok (jU ins sk n) λr=>(∃ins',r=.inl (ins',(),false,())/\ins'.length<=2/\∀x∈ins',x.length<=64/\∀w∈x,W16 w) \/
  (∃ins' l,r=.inr (ins',l,true,())/\(ins'.length<=2/\∀x∈ins',x.length<=64/\∀w∈x,W16 w)/\(l.length:Int)<=n/\l.length<=64/\∀c∈l,Pr ss c):=by
 unfold jU;rw[xn (by omega) (λx hx=>by have:=(h x hx).1;omega)];delta dM;simp only[oBS];refine Ok.bind (P:=λr=>∃b:Bool,r=(ins,sk,n,b,ins,())/\(b=false->0<=sk/\sk < ins.length)) ?_ ?_
 ·(with_reducible refine dF (λhca=>?_) λhca=>?_)
  ·exact Ok.ret ⟨true,rfl,λh=>by cases h⟩
  (with_reducible refine dF (λhcb=>?_) λhcb=>?_)
  ·exact Ok.ret ⟨true,rfl,λh=>by cases h⟩
  exact Ok.ret ⟨_,rfl,λ_=>⟨by omega,by omega⟩⟩
 rintro _ ⟨b,rfl,hb⟩;dsimp only
 cases b with
 | true=>exact Ok.ret (Or.inl ⟨_,rfl,hi,h⟩)
 | false=>
 obtain⟨s0,s1⟩:=hb rfl;obtain⟨j,rfl⟩:∃j:Nat,sk=j:=⟨sk.toNat,by omega⟩;obtain⟨x,hx⟩:∃x,ins[j]?=some x:=⟨_,oGE (by omega)⟩;have hgx:dI ins j=some x:=hx;have hjl:=(oGS hx).1;obtain⟨hx64,hxw⟩:=h x (dN hx);simp only[oCF,oBS,dK,hgx];obtain⟨m1,m2,m3⟩:=Ee (a:=n) (b:=(x.length:Int));generalize mmR false n (x.length:Int)=k at m1 m2 m3;obtain⟨q,rfl⟩:∃q:Nat,k=q:=⟨k.toNat,by omega⟩;simp only[dK,oBS];refine dG (by unfold gS;simp;omega) ?_
 have hw:jN x 0 (Nat.sub q 0)=x.take q:=by unfold jN;rw[List.drop_zero];rfl
 have hwl:(x.take q).length=q:=by rw[oLT];omega
 rw[hw];simp only[hwl]
 have e:dR gj NN ((j:Int),(q:Int),x.take q,(q:Int),0,ins,[],())=some ((j:Int),(q:Int),x.take q,(q:Int),(q:Int),false,ins,(x.take q).map (λw=>(0,w,0,0)),()):=by
  have:=my (f:=gj) (N:=NN) (st:=λi=>((j:Int),(q:Int),x.take q,(q:Int),(i:Int),ins,((x.take q).take i).map (λw=>((0:Int),w,(0:Int),(0:Int))),())) (n:=q) (t:=((j:Int),(q:Int),x.take q,(q:Int),(q:Int),false,ins,(x.take q).map (λw=>((0:Int),w,(0:Int),(0:Int))),())) (by unfold NN;omega) ?_ ?_
  ·exact this
  ·intro i hi;unfold gj;dsimp only;rw[oDT (show (i:Int) < q by omega),dK];simp only[oCT,oBS];refine Ok.get (by omega) λw hw=>?_;refine dG (dS (by simp;omega)) ?_;rw[dP (x:=(i:Int)+1) (by omega) (by omega)];refine Ok.ret ?_;rw[<- fM (λw=>((0:Int),w,(0:Int),(0:Int))) hw];rfl
  ·unfold gj;dsimp only;rw[oDF (show ¬ (q:Int) < q by omega)];refine Ok.ret ?_;rw[show (x.take q).take q=x.take q from List.take_of_length_le (by omega)]
 rw[e];simp only[dK,oBS,hgx];refine dG (by unfold gS;simp;omega) ?_
 try simp only[dK,oBS,hgx]
 rw[eq hx]
 have hd:∀c∈jN x q (Nat.sub x.length q),c∈x:=λc hc=>by
  unfold jN at hc;exact List.mem_of_mem_drop (List.mem_of_mem_take hc)
 have hdl:(jN x q (Nat.sub x.length q)).length<=64:=by
  unfold jN;rw[oLT,List.length_drop];omega
 refine Ok.ret (.inr ⟨_,_,rfl,⟨by rw[List.length_set];exact hi,iK h ⟨hdl,λw hw=>hxw w (hd w hw)⟩⟩,by rw[List.length_map,hwl];omega,by rw[List.length_map,hwl];omega,λc hc=>?_⟩);obtain⟨w,hw,rfl⟩:=List.mem_map.1 hc;exact km (hxw w (List.mem_of_mem_take hw))
theorem yV{n:Int}{ss:List Int}{i stop trap count pc call:Int}{args data:List DCn}(hs:vN ss) (h:yQ n ss i stop trap count pc call args data) (hn:n<=1099511627776):j3 i stop trap count pc call args data=some (true,()):=by
 obtain⟨⟨a1,a2⟩,⟨b1,b2⟩,⟨c1,c2⟩,⟨d1,d2⟩,⟨e1,e2⟩,⟨f1,f2⟩,⟨g1,g2⟩,⟨k1,k2⟩,_,_⟩:=h;refine eV ?_;unfold j3;rw[jK (n:=3) hs g2 (by omega) (by omega),jK (n:=16) hs k2 (by omega) (by omega)];refine dG (oDT a1) (dG (oDT (by omega)) (dG (oDT b1) (dG (oDT b2) (dG (oDT c1) (dG (oDT c2) (dG (oDT d1) (dG (oDT (by omega)) (dG (oDT e1) (dG (oDT e2) (dG (oDT f1) (dG (oDT f2) ?_)))))))))));exact Ok.ret rfl
theorem Hd{n:Int}{ss:List Int}{i trap count pc call:Int}{args data:List DCn}(h:yQ n ss i 1 trap count pc call args data):lV i 1 trap count pc call args data=some (true,()):=by
 obtain⟨hl,hk⟩:=h.hkind rfl;obtain⟨b,eb,hb1,hb2⟩:=Ag h.hcall;have h3:=Js call
 have e:dR ib NN (b,args,(args.length:Int),0,i,1,trap,count,pc,call,args,data,())=some (.inr (b,args,(args.length:Int),(args.length:Int),false,i,1,trap,count,pc,call,args,data,())):=by
  refine my (f:=ib) (N:=NN) (st:=λq=>(b,args,(args.length:Int),(q:Int),i,1,trap,count,pc,call,args,data,())) (n:=args.length) (by unfold NN;omega) ?_ ?_
  ·intro q hq;obtain⟨k,hkq⟩:∃k,(kB call)[q]?=some k:=⟨_,oGE (by omega)⟩;obtain⟨a,ha⟩:∃a,args[q]?=some a:=⟨_,oGE (by omega)⟩;unfold ib;dsimp only;rw[oDT (show (q:Int) < args.length by omega),dK];simp only[oCT,oBS,show dI args q=some a from ha,hb2 q,hkq,JN,hk q k a hkq ha,oNT,oCF];rw[dP (x:=(q:Int)+1) (by omega) (by omega)];exact Ok.ret rfl
  ·unfold ib;dsimp only;rw[oDF (show ¬ (args.length:Int) < args.length by omega)];exact Ok.ret rfl
 unfold lV;delta dM;simp only[eb,oBS,hb1,hl,bne_self_eq_false,oCF];rw[hl] at e;rw[e]
def Nx(call:Int):Bool:=decide ((1<=call/\call<=7)\/call=13\/call=14)
theorem Nw{call:Int}(h:0<=call/\call<=15):pB call=some (Nx call,()):=by
 rcases ud h with rfl | rfl | rfl | rfl | rfl | rfl | rfl | rfl | rfl | rfl | rfl | rfl | rfl | rfl | rfl | rfl<;>rfl
structure O0 (ss:List Int) (t v r o:Int) (data:List DCn) (sp:Int) (w:Bool):Prop where
 val:Pr ss (t,v,r,o)
 dat:data.length<=64/\∀c∈data,Pr ss c
 spn:-1<=sp/\sp<=3
def DoP(ss:List Int) (r:(List (Int))×(List (Int))×(List (List (Int)))×(List (List DCn))×(List DOp)×(List DOu)×Int×Int×Int×Int×(List DCn)×Int×Bool×Int×Unit):Prop:=
 ∃ck rn ins d os us t v rg o data,r=(ck,rn,ins,d,os,us,t,v,rg,o,data,-1,false,0,())/\xN ss ck rn ins d os us/\Pr ss (t,v,rg,o)/\data.length<=16/\∀c∈data,Pr ss c
theorem kq{ss:List Int}{ck rn:List Int}{ins:List (List Int)}{d:List (List DCn)}{os:List DOp}{us:List DOu}{t v rg o:Int}{data:List DCn}(h:xN ss ck rn ins d os us) (hv:Pr ss (t,v,rg,o)) (hd:data.length<=16/\∀c∈data,Pr ss c) :
 Ok (some (ck,rn,ins,d,os,us,t,v,rg,o,data,(-1:Int),false,(0:Int),())) (DoP ss):=Ok.ret ⟨_,_,_,_,_,_,_,_,_,_,_,rfl,h,hv,hd⟩
theorem Pr.val{ss:List Int}{c:DCn}(h:Pr ss c):W16 c.2.1:=by
 rcases h with ⟨_,_,_,h⟩ | ⟨_,h,_⟩
 ·exact h
 ·rw[h];exact⟨by decide,by decide⟩
theorem Oi{n:Int}{ss:List Int}{i trap count pc call:Int}{args data:List DCn}(h:yQ n ss i 1 trap count pc call args data):qU call=0\/qU call=1\/(qU call=2/\∃a,args[2]?=some a/\a.2.1<=16):=by
 by_cases h2:qU call=2
 ·exact .inr (.inr ⟨h2,h.hbuf rfl h2⟩)
 ·have:qU call=0\/qU call=1\/qU call=2:=by unfold qU;split<;>first | omega | (split<;>omega)
  omega
theorem vQ{α:Type}{a b:Option α}{Q:α->Prop}(h:Ok a Q) (e:b=a):Ok b Q:=by rw[e];exact h
set_option maxHeartbeats 4000000 in
theorem Nl{n:Int}{ss:List Int}{ck rn:List Int}{ins:List (List Int)}{d:List (List DCn)}{os:List DOp}{us:List DOu}{i trap count pc call:Int}{args data:List DCn}(hs:vN ss) (hO:xN ss ck rn ins d os us) (hR:yQ n ss i 1 trap count pc call args data)
 (ha:Nx call=true) (hn:n<=1099511627776):Ok (nS ck rn ins d os us i 1 trap count pc call args data) (DoP ss):=by
 have hc:=hR.hcall;have hdat:=hR.hdata;have hap:=hR.hargs;unfold nS;rw[tI hs hO,yV hs hR hn,Nw hc,ha,Hd hR,tE hc];simp only[oBS,oNT,oCF,bne_self_eq_false];refine Ok.bind (P:=λr=>r=(false,ck,rn,ins,d,os,us,i,1,trap,count,pc,call,args,data,(),(),(),(),(),(),0,0,0,0,(),0,false,())) ?_ ?_
 ·rcases Oi hR with h | h | ⟨h,a,h2,h3⟩
  ·rw[h];exact Ok.ret rfl
  ·rw[h];exact Ok.ret rfl
  ·rw[h];simp only[BEq.rfl,oCT,show dI args 2=some a from h2,oBS];rw[oDF (show ¬ a.2.1 > 16 by omega)];exact Ok.ret rfl
 rintro _ rfl;dsimp only;delta dM;simp only[oCF,Dz hO,oBS]
 refine Ok.loop (P:=λs'=>∃(k:Nat) (vs:List Int),s'=(args,(args.length:Int),(k:Int),ck,rn,ins,d,os,us,i,1,trap,count,pc,call,args,data,(),(),(),(),(),(),0,0,0,0,(),0,false,ck,rn,ins,d,os,us,vs,())/\k<=args.length/\vs.length=3/\(∀v∈vs,W16 v)/\∀(j:Nat) a,j < k->args[j]?=some a->vs[j]?=some a.2.1)
  (R:=λr=>∃(z:Int) (vs:List Int),r=(args,(args.length:Int),z,false,ck,rn,ins,d,os,us,i,1,trap,count,pc,call,args,data,(),(),(),(),(),(),0,0,0,0,(),0,false,ck,rn,ins,d,os,us,vs,())/\vs.length=3/\(∀v∈vs,W16 v)/\∀(j:Nat) a,args[j]?=some a->vs[j]?=some a.2.1) (m:=λs'=>(s'.2.1 - s'.2.2.1).toNat)
  ⟨0,[0,0,0],rfl,by omega,rfl,all_cons ⟨by decide,by decide⟩ (all_cons ⟨by decide,by decide⟩ (all_cons ⟨by decide,by decide⟩ ee)),λj a hj=>by omega⟩ (by unfold NN;dsimp only;omega) ?_ ?_
 ·rintro _ ⟨k,vs,rfl,hk,hv3,hvw,hva⟩;unfold sf;dsimp only
  (with_reducible refine dF (λhca=>?_) λhca=>?_)
  ·simp only[dK,oBS];refine Ok.get (by omega) λa hak=>?_;have hw:=(hap.2 a (dN hak)).val;refine Ok.get (by omega) λv hv=>?_;refine Ok.get (by omega) λ_ _=>?_;rw[dU (x:=a.2.1) (by have:=hw.1;omega) (by have:=hw.2;omega),dP (x:=(k:Int)+1) (by omega) (by omega),eq hv];refine Ok.ret ⟨⟨k+1,_,rfl,by omega,by rw[List.length_set];exact hv3,iK hvw hw,λj a' hj haj=>?_⟩,by dsimp only;omega⟩;by_cases e:k=j
   ·subst e;rw[hak] at haj;cases haj;exact gN (by omega) _
   ·rw[kL e];exact hva j a' (by omega) haj
  ·refine Ok.ret ⟨_,vs,rfl,hv3,hvw,λj a haj=>hva j a ?_ haj⟩;have:=(oGS haj).1;omega
 rintro _ ⟨z,vs,rfl,hv3,hvw,hva⟩;obtain⟨v0,ev0,hv0⟩:=gi 0 false
 obtain⟨a0,a1,a2,rfl⟩:∃a b c,vs=[a,b,c]:=by
  match vs,hv3 with
  | [a,b,c],_=>exact⟨a,b,c,rfl⟩
 have w0:W16 a0:=hvw a0 (by simp);have w1:W16 a1:=hvw a1 (by simp);have w2:W16 a2:=hvw a2 (by simp);have g0:dI [a0,a1,a2] 0=some a0:=rfl;have g1:dI [a0,a1,a2] 1=some a1:=rfl;have g2:dI [a0,a1,a2] 2=some a2:=rfl
 have a2le:qU call=2->a2<=16:=λh=>by
  obtain⟨a,h2,h3⟩:=hR.hbuf rfl h;have:=hva 2 a h2
  have:a2=a.2.1:=by simpa using this
  omega
 have nil16:([]:List DCn).length<=16/\∀c∈([]:List DCn),Pr ss c:=⟨by decide,ee⟩;dsimp only;simp only[ev0,oBS,g0,g1,g2];rcases ud hc with rfl | rfl | rfl | rfl | rfl | rfl | rfl | rfl | rfl | rfl | rfl | rfl | rfl | rfl | rfl | rfl
 all_goals first | (exact absurd ha (by decide)) | simp only[Int.reduceBEq,oCT,oCF]
 ·obtain⟨_,e,d1,os1,m,b,rfl,hF,_⟩:=Gi (h:=a0) hs hO.files hdat.1 hdat.2;obtain⟨v,ev,hv⟩:=gi m b;simp only[e,ev,oBS];exact kq ⟨hO.clock,hO.rand,hO.ilen,hO.inp,hF,hO.ulen,hO.outs⟩ (km hv) nil16
 ·have hle:=a2le rfl;obtain⟨_,e,hr⟩:=IR (h:=a0) (n:=a2) hO.files w2;rcases hr with ⟨d1,os1,rfl,hF⟩ | ⟨d1,os1,l,rfl,hF,hl,_,hlc⟩
  ·simp only[e,ev0,oBS];exact kq ⟨hO.clock,hO.rand,hO.ilen,hO.inp,hF,hO.ulen,hO.outs⟩ (km hv0) nil16
  ·obtain⟨v,ev,hv⟩:=gi (l.length:Int) true;simp only[e,ev,oBS];exact kq ⟨hO.clock,hO.rand,hO.ilen,hO.inp,hF,hO.ulen,hO.outs⟩ (km hv) ⟨by omega,hlc⟩
 ·obtain⟨_,e,d1,os1,h,rfl,hF,h0,h7⟩:=K1 (file:=a0) (mode:=a1) hO.files;simp only[e,oBS];have hout:xN ss ck rn ins d1 os1 us:=⟨hO.clock,hO.rand,hO.ilen,hO.inp,hF,hO.ulen,hO.outs⟩;by_cases hh:h>=0
  ·simp only[oDT hh,oCT];exact kq hout (LY (mC _)) nil16
  ·simp only[oDF hh,oCF];exact kq hout (km hv0) nil16
 ·obtain⟨_,e,d1,os1,b,rfl,hF⟩:=HB (h:=a0) hO.files;obtain⟨v,ev,hv⟩:=gi 0 b;simp only[e,ev,oBS];exact kq ⟨hO.clock,hO.rand,hO.ilen,hO.inp,hF,hO.ulen,hO.outs⟩ (km hv) nil16
 ·obtain⟨_,e,d1,os1,b,rfl,hF⟩:=IE (h:=a0) (n:=a1) hO.files;obtain⟨v,ev,hv⟩:=gi 0 b;simp only[e,ev,oBS];exact kq ⟨hO.clock,hO.rand,hO.ilen,hO.inp,hF,hO.ulen,hO.outs⟩ (km hv) nil16
 ·cases ck with
  | nil=>exact kq hO (km hv0) nil16
  | cons x ck=>
   obtain⟨v,ev,hv⟩:=gi (wk .i64 x) true
   have hw:jN (x :: ck) 1 (Nat.sub (x :: ck).length 1)=ck:=by unfold jN;simp
   refine vQ (kq (ck:=ck) ⟨⟨by have:=hO.clock.1;simp at this;omega,λw hw=>hO.clock.2 w (by simp[hw])⟩,hO.rand,hO.ilen,hO.inp,hO.files,hO.ulen,hO.outs⟩ (km hv) nil16) ?_;simp only[oLC,show dI (x :: ck) 0=some x from rfl,oBS,ev];have hd:∀inst:Decidable (((ck.length+1:Nat):Int) > 0),@decide _ inst=true:=λinst=>oDT (by omega);rw[oLC] at hw;rw[hd,show gS 1 (ck.length+1) (ck.length+1)=true by unfold gS;simp,hw];rfl
 ·cases rn with
  | nil=>exact kq hO (km hv0) nil16
  | cons x rn=>
   obtain⟨v,ev,hv⟩:=gi (wk .i64 x) true
   have hw:jN (x :: rn) 1 (Nat.sub (x :: rn).length 1)=rn:=by unfold jN;simp
   refine vQ (kq (rn:=rn) ⟨hO.clock,⟨by have:=hO.rand.1;simp at this;omega,λw hw=>hO.rand.2 w (by simp[hw])⟩,hO.ilen,hO.inp,hO.files,hO.ulen,hO.outs⟩ (km hv) nil16) ?_;simp only[oLC,show dI (x :: rn) 0=some x from rfl,oBS,ev];have hd:∀inst:Decidable (((rn.length+1:Nat):Int) > 0),@decide _ inst=true:=λinst=>oDT (by omega);rw[oLC] at hw;rw[hd,show gS 1 (rn.length+1) (rn.length+1)=true by unfold gS;simp,hw];rfl
 ·obtain⟨_,e,us1,m,b,rfl,hu,ho⟩:=ID (sk:=a0) hO.ulen hO.outs hdat.1 hdat.2;obtain⟨v,ev,hv⟩:=gi m b;simp only[e,ev,oBS];exact kq ⟨hO.clock,hO.rand,hO.ilen,hO.inp,hO.files,hu,ho⟩ (km hv) nil16
 ·have hle:=a2le rfl;obtain⟨_,e,hr⟩:=B5 (ss:=ss) (sk:=a0) (n:=a2) hO.ilen hO.inp w2;rcases hr with ⟨in1,rfl,hi1,hi2⟩ | ⟨in1,l,rfl,⟨hi1,hi2⟩,hl,_,hlc⟩
  ·simp only[e,ev0,oBS];exact kq ⟨hO.clock,hO.rand,hi1,hi2,hO.files,hO.ulen,hO.outs⟩ (km hv0) nil16
  ·obtain⟨v,ev,hv⟩:=gi (l.length:Int) true;simp only[e,ev,oBS];exact kq ⟨hO.clock,hO.rand,hi1,hi2,hO.files,hO.ulen,hO.outs⟩ (km hv) ⟨by omega,hlc⟩
def zl(bs:List Int) (key:Int) (c:DCn):DCe:=if c.1=0 then (0,c.2.1) else if c.1=2 then (2,wk .u16 (c.2.1+key)) else (1,wk .u16 (bs.getD c.2.2.1.toNat 0+c.2.2.2))
theorem FD{bs ss:List Int}(h:LV bs ss) {r o n:Int}(h1:0<=r) (h2:ss[r.toNat]?=some n) (h3:0<=o) (h4:o < n):∃b,bs[r.toNat]?=some b/\0<=b+o/\b+o < 512/\b<=b+o/\b+o < b+n:=by
 obtain⟨hs,hl,hr⟩:=h;have hj:=(oGS h2).1;obtain⟨b,hb⟩:∃b,bs[r.toNat]?=some b:=⟨_,oGE (by omega)⟩;have hrr:=hr r.toNat (by omega);unfold nQ at hrr;rw[dW hb,dW h2] at hrr;exact⟨b,hb,by omega,by omega,by omega,by omega⟩
theorem wm{bs ss:List Int}{key:Int}{c:DCn}(h:LV bs ss) (hc:Pr ss c):gw bs key ss c.1 c.2.1 c.2.2.1 c.2.2.2=some ((zl bs key c).1,(zl bs key c).2,0,())/\m9 (RK bs ss) (zl bs key c):=by
 unfold gw zl;rw[mO hc];simp only[oBS,oNT,oCF];rcases hc with ⟨h1 | h1,h2,h3,h4⟩ | ⟨h1,h2,h3,n,h5,h6,h7⟩
 ·rw[h1];exact⟨rfl,lD h4⟩
 ·rw[h1];exact⟨rfl,(show (0:Int)<=2 by decide),(show (2:Int)<=2 by decide),(mC _).1,(mC _).2,λe=>absurd (show (2:Int)=1 from e) (by decide)⟩
 ·obtain⟨b,hb,b0,b1,b2,b3⟩:=FD h h3 h5 h6 h7;obtain⟨j,hj⟩:∃j:Nat,c.2.2.1=j:=⟨c.2.2.1.toNat,by omega⟩;rw[hj] at hb h5 ⊢;rw[oTN] at hb h5 ⊢;rw[h1,dW hb];simp only[Int.reduceBEq,Int.reduceEq,oCF,if_false,dK,oBS,show dI bs j=some b from hb];rw[dP (x:=b+c.2.2.2) (by omega) (by omega),d7 (x:=b+c.2.2.2) (by omega) (by omega)];exact⟨rfl,by dsimp only;omega,by dsimp only;omega,by dsimp only;omega,by dsimp only;omega,λ_=>⟨j,b,n,hb,h5,b2,b3⟩⟩
theorem HK{bs ss:List Int}{key r o n:Int}(h:LV bs ss) (h1:0<=r) (h2:ss[r.toNat]?=some n) (h3:0<=o) (h4:o < n):∃a,j8 bs key ss r o=some (a,0,())/\0<=a/\a < 512/\a=bs.getD r.toNat 0+o:=by
 obtain⟨b,hb,b0,b1,_⟩:=FD h h1 h2 h3 h4;obtain⟨j,rfl⟩:∃j:Nat,r=j:=⟨r.toNat,by omega⟩;rw[oTN] at hb ⊢;unfold j8;rw[CF h1 h2 h3 h4];simp only[oBS,oNT,oCF,dK,show dI bs j=some b from hb];rw[dP (x:=b+o) (by omega) (by omega)];exact⟨_,rfl,b0,b1,by rw[dW hb]⟩
theorem K6(pc t v:Int):oy pc t v=some (1,[(t,v),(0,0),(0,0),(0,0),(0,0),(0,0),(0,0),(0,0)],pc,0,-1,-1,0,0,()):=rfl
def O1(n key:Int) (ss bs:List Int) (r:Bool×(List (Int))×Int×(List DCe)×(List DLn)×(List DTh)×Unit):Prop:=∃b cs' ls' ts',r=(b,bs,key,cs',ls',ts',())/\(b=true->MOk n ss bs cs' ls' ts')
theorem wn{n key:Int}{ss bs:List Int}{cs:List DCe}{ls:List DLn}{ts:List DTh}:Ok (some (false,bs,key,cs,ls,ts,())) (O1 n key ss bs):=Ok.ret ⟨_,_,_,_,rfl,λh=>by cases h⟩
theorem pz{n key ct cv:Int}{ss bs:List Int}{cs:List DCe}{ls:List DLn}{ts:List DTh}{i:Nat}(h:MOk n ss bs cs ls ts) (hi:i < 4) (hc:m9 (RK bs ss) (ct,cv)) :
 Ok ((dI ts i).bind λ_=>(dI ts i).bind λx75=>(dI x75.2.1 0).bind λ_=>(dI ts i).bind λx77=>(dI x77.2.1 0).bind λ_=>(dI (List.modify ts i λe=>(e.1,((List.modify e.2.1 0 λ_=>(ct,cv)),e.2.2))) i).bind λ_=>
  some (true,bs,key,cs,ls,List.modify (List.modify ts i λe=>(e.1,((List.modify e.2.1 0 λ_=>(ct,cv)),e.2.2))) i λe=>((1:Int),e.2),())) (O1 n key ss bs):=by
 have htl:=h.tlen;obtain⟨t,ht⟩:∃t,ts[i]?=some t:=⟨_,oGE (by omega)⟩;have hg:dI ts i=some t:=ht;have hil:=(oGS ht).1;have hok:=h.thr t (dN ht);obtain⟨c,hc0⟩:∃c,t.2.1[0]?=some c:=⟨_,oGE (by have:=hok.len;omega)⟩;simp only[hg,oBS,show dI t.2.1 0=some c from hc0,eq ht,eq hc0,gN hil,nZ hil];exact Ok.ret ⟨_,_,_,_,rfl,λ_=>h.set h.mem ⟨⟨show (0:Int)<=1 by decide,show (1:Int)<=4 by decide⟩,by dsimp only;rw[List.length_set];exact hok.len,iK hok.regs hc,hok.pc,hok.count,hok.handler,hok.saved,hok.trap,hok.code⟩⟩
theorem Gl{K:Int->Prop}{n pc:Int}{rs:List DCe}(hl:rs.length=8) (hr:∀c∈rs,m9 K c) (hp:0<=pc/\pc<=255) (hn:0<=n):xM K n (1,rs,pc,0,-1,-1,0,0):=
 ⟨⟨show (0:Int)<=1 by decide,show (1:Int)<=4 by decide⟩,hl,hr,hp,⟨show (0:Int)<=0 by decide,hn⟩,⟨show (-1:Int)<=-1 by decide,show (-1:Int)<=255 by decide⟩,⟨show (-1:Int)<=-1 by decide,show (-1:Int)<=255 by decide⟩,⟨show (0:Int)<=0 by decide,show (0:Int)<=6 by decide⟩,⟨show (0:Int)<=0 by decide,show (0:Int)<=65535 by decide⟩⟩
theorem MOk.mk_mem{n:Int}{ss bs:List Int}{cs cs':List DCe}{ls ls':List DLn}{ts:List DTh}(h:MOk n ss bs cs ls ts) (hm:i9 (RK bs ss) cs' ls'):MOk n ss bs cs' ls' ts:=⟨h.lay,hm,h.tlen,h.thr⟩
set_option maxHeartbeats 4000000 in
theorem KV{n m key:Int}{code:List DIn}{ss bs:List Int}{dd:List (List Int)}{cs:List DCe}{ls:List DLn}{ts:List DTh}{i:Nat}{trap count pc call:Int}{args data:List DCn}{t v rg o sp:Int}{dat:List DCn}{w:Bool}(h:MOk n ss bs cs ls ts) (hi:i < 4)
 (hR:yQ m ss (i:Int) 1 trap count pc call args data) (hv:Pr ss (t,v,rg,o)) (hd:dat.length<=16/\∀c∈dat,Pr ss c) (hsp:-1<=sp/\sp<=3) :
 Ok (ou code ss dd (i:Int) 1 trap count pc call args data t v rg o dat sp w bs key cs ls ts) (O1 n key ss bs):=by
 have hL:=h.lay;have htl:=h.tlen;obtain⟨hk1,hk2⟩:=hR.hkind rfl;have hargs:=hR.hargs;obtain⟨hraw,hrawc⟩:=wm (key:=key) hL hv;obtain⟨th,hth⟩:∃th,ts[i]?=some th:=⟨_,oGE (by omega)⟩;have hok:=h.thr th (dN hth);have hc0:=hok.count;have hil:=(oGS hth).1;dsimp only at hraw;unfold ou;delta dM;rw[dK,hraw,tE hR.hcall];simp only[oBS,bne_self_eq_false,oCF];refine Ok.get hil λ_ _=>?_;have fin:=pz (key:=key) (ct:=(zl bs key (t,v,rg,o)).1) (cv:=(zl bs key (t,v,rg,o)).2) h hi hrawc
 have buf:qU call=2->dat.length > 0->∃a:DCn,args[1]?=some a/\Pr ss a/\a.1=1/\∃y,dR kT NN (i,dat,(dat.length:Int),0,bs,key,cs,ls,ts,code,ss,dd,(i:Int),1,trap,count,pc,call,args,data,t,v,rg,o,dat,sp,w,(zl bs key (t,v,rg,o)).1,(zl bs key (t,v,rg,o)).2,a.2.2.1,a.2.2.2,())=some y /\
  ((∃cs' ls',y=.inl (false,bs,key,cs',ls',ts,()))\/(∃cs' ls' z f,y=.inr (i,dat,(dat.length:Int),z,false,bs,key,cs',ls',ts,code,ss,dd,(i:Int),1,trap,count,pc,call,args,data,t,v,rg,o,dat,sp,w,(zl bs key (t,v,rg,o)).1,(zl bs key (t,v,rg,o)).2,a.2.2.1,f,())/\i9 (RK bs ss) cs' ls')):=by
  intro hb hpos
  have hkk:(kB call)[1]?=some 80:=by
   have:call=2\/call=14:=by unfold qU at hb;split at hb<;>first | omega | (split at hb<;>omega)
   rcases this with rfl | rfl<;>rfl
  have hl1:=(oGS hkk).1;obtain⟨a,ha⟩:∃a,args[1]?=some a:=⟨_,oGE (by omega)⟩;have hap:=hargs.2 a (dN ha);have hfit:=hk2 1 80 a hkk ha
  have ha1:a.1=1:=by unfold Ls at hfit;simpa using hfit
  have ha32:0<=a.2.2.2/\a.2.2.2<=32:=by
   rcases hap with ⟨g,_⟩ | ⟨_,_,_,z,g1,g2,g3⟩
   ·omega
   ·have:=hL.1.2.2 z (dN g1);omega
  refine⟨a,ha,hap,ha1,?_⟩
  refine fS (f:=kT) (n:=NN) (P:=λs'=>∃k:Nat,∃cs' ls',s'=(i,dat,(dat.length:Int),(k:Int),bs,key,cs',ls',ts,code,ss,dd,(i:Int),1,trap,count,pc,call,args,data,t,v,rg,o,dat,sp,w,(zl bs key (t,v,rg,o)).1,(zl bs key (t,v,rg,o)).2,a.2.2.1,a.2.2.2+k,())/\k<=dat.length/\i9 (RK bs ss) cs' ls')
   (R:=λy=>(∃cs' ls',y=.inl (false,bs,key,cs',ls',ts,()))\/(∃cs' ls' z f,y=.inr (i,dat,(dat.length:Int),z,false,bs,key,cs',ls',ts,code,ss,dd,(i:Int),1,trap,count,pc,call,args,data,t,v,rg,o,dat,sp,w,(zl bs key (t,v,rg,o)).1,(zl bs key (t,v,rg,o)).2,a.2.2.1,f,())/\i9 (RK bs ss) cs' ls'))
   (m:=λs'=>(s'.2.2.1 - s'.2.2.2.1).toNat) ⟨0,cs,ls,by simp,by omega,h.mem⟩ (by unfold NN;dsimp only;omega) ?_
  rintro _ ⟨k,cs',ls',rfl,hk,hm⟩;unfold kT;dsimp only
  (with_reducible refine dF (λhca=>?_) λhca=>?_)
  ·rw[dK];simp only[oBS];refine Ok.get (by omega) λc hc=>?_;obtain⟨hr1,hr2⟩:=wm (key:=key) hL (hd.2 c (dN hc));rw[hr1];simp only[oBS,bne_self_eq_false,oCF];refine zt.bind ?_;rintro⟨q,_⟩ hin;dsimp only at hin ⊢
   (with_reducible refine dF (λhcb=>?_) λhcb=>?_)
   ·exact Ok.ret (.inl ⟨_,_,rfl⟩)
   ·obtain⟨g1,g2,z,g3,g4⟩:=hin hcb;obtain⟨ad,ea,a0,a1,_⟩:=HK (key:=key) hL g1 g3 g2 g4;rw[ea];simp only[oBS];refine (y8 hm ⟨a0,a1⟩ hr2).bind ?_;rintro _ ⟨cs2,ls2,rfl,hm2⟩;dsimp only;rw[dP (x:=a.2.2.2+k+1) (by omega) (by omega),dP (x:=(k:Int)+1) (by omega) (by omega)];exact Ok.ret ⟨⟨k+1,_,_,by rw[show a.2.2.2+((k+1:Nat):Int)=a.2.2.2+k+1 by omega];rfl,by omega,hm2⟩,by dsimp only;omega⟩
  ·exact Ok.ret (.inr ⟨_,_,_,_,rfl,hm⟩)
 rcases ud hR.hcall with rfl | rfl | rfl | rfl | rfl | rfl | rfl | rfl | rfl | rfl | rfl | rfl | rfl | rfl | rfl | rfl
 case inr.inr.inl=>
  simp only[show ((qU 2)==2)=true from rfl,oCT];by_cases hpos:dat.length > 0
  ·obtain⟨a,ha,hap,ha1,y,ey,hy⟩:=buf rfl hpos;simp only[oDT (show ((dat.length:Nat):Int) > 0 by omega),oCT,show dI args 1=some a from ha,oBS,mO hap,oNT,oCF,bne_eq_false_iff_eq.2 ha1,ey];rcases hy with ⟨cs',ls',rfl⟩ | ⟨cs',ls',z,f,rfl,hm⟩
   ·exact wn
   ·simp only[Int.reduceBEq,oCF];exact pz (h.mk_mem hm) hi hrawc
  ·simp only[oDF (show ¬ ((dat.length:Nat):Int) > 0 by omega),oCF,Int.reduceBEq];exact fin
 case inr.inr.inr.inr.inr.inr.inr.inr.inr.inr.inr.inr.inr.inr.inl=>
  simp only[show ((qU 14)==2)=true from rfl,oCT];by_cases hpos:dat.length > 0
  ·obtain⟨a,ha,hap,ha1,y,ey,hy⟩:=buf rfl hpos;simp only[oDT (show ((dat.length:Nat):Int) > 0 by omega),oCT,show dI args 1=some a from ha,oBS,mO hap,oNT,oCF,bne_eq_false_iff_eq.2 ha1,ey];rcases hy with ⟨cs',ls',rfl⟩ | ⟨cs',ls',z,f,rfl,hm⟩
   ·exact wn
   ·simp only[Int.reduceBEq,oCF];exact pz (h.mk_mem hm) hi hrawc
  ·simp only[oDF (show ¬ ((dat.length:Nat):Int) > 0 by omega),oCF,Int.reduceBEq];exact fin
 case inr.inr.inr.inr.inr.inr.inr.inr.inr.inr.inr.inr.inl=>
  obtain⟨a,ha⟩:∃a,args[0]?=some a:=⟨_,oGE (by rw[hk1];decide)⟩;have hva:=(hargs.2 a (dN ha)).val;simp only[show ((qU 12)==2)=false from rfl,oCF,Int.reduceBEq,oCT,show dI args 0=some a from ha,oBS];rw[dU (x:=a.2.1) (by have:=hva.1;omega) (by have:=hva.2;omega)];by_cases h1:a.2.1 > 255
  ·simp only[oDT h1,oCT];exact wn
  by_cases h2:a.1=0
  ·simp only[oDF h1,oCF,bne_eq_false_iff_eq.2 h2,show dI ts i=some th from hth,oBS,eq hth];exact pz (h.set h.mem ⟨hok.state,hok.len,hok.regs,hok.pc,hok.count,⟨by dsimp only;have:=hva.1;omega,by dsimp only;omega⟩,hok.saved,hok.trap,hok.code⟩) hi hrawc
  ·simp only[oDF h1,oCF,bne_iff_ne.2 h2,oCT];exact wn
 case inr.inr.inr.inr.inr.inr.inr.inr.inr.inr.inl=>
  obtain⟨a,ha⟩:∃a,args[0]?=some a:=⟨_,oGE (by rw[hk1];decide)⟩;obtain⟨c,hc⟩:∃c,args[1]?=some c:=⟨_,oGE (by rw[hk1];decide)⟩;have hva:=(hargs.2 a (dN ha)).val;obtain⟨hr1,hr2⟩:=wm (key:=key) hL (hargs.2 c (dN hc));simp only[show ((qU 10)==2)=false from rfl,oCF,Int.reduceBEq,oCT];by_cases hsp0:sp>=0
  ·obtain⟨j,rfl⟩:∃j:Nat,sp=j:=⟨sp.toNat,by omega⟩;obtain⟨tj,htj⟩:∃tj,ts[j]?=some tj:=⟨_,oGE (by omega)⟩;simp only[oDT hsp0,oCT,show dI args 0=some a from ha,show dI args 1=some c from hc,oBS,hr1,bne_self_eq_false,oCF,dK,show dI ts j=some tj from htj];rw[dU (x:=a.2.1) (by have:=hva.1;omega) (by have:=hva.2;omega)];by_cases h0:tj.1=0
   ·by_cases h1:a.2.1 > 255
    ·simp only[bne_eq_false_iff_eq.2 h0,oCF,oDT h1,oCT,oBS];exact wn
    by_cases h2:a.1=0
    ·simp only[bne_eq_false_iff_eq.2 h0,oDF h1,oCF,bne_eq_false_iff_eq.2 h2,oBS,show dI args 0=some a from ha,dU (x:=a.2.1) (by have:=hva.1;omega) (by have:=hva.2;omega),K6,dK,show dI ts j=some tj from htj,eq htj];refine pz (h.set h.mem (Gl rfl (all_cons hr2 ?_) ⟨hva.1,by omega⟩ (by omega))) hi hrawc;exact all_cons (lD (by decide)) (all_cons (lD (by decide)) (all_cons (lD (by decide)) (all_cons (lD (by decide)) (all_cons (lD (by decide)) (all_cons (lD (by decide)) (all_cons (lD (by decide)) ee))))))
    ·simp only[bne_eq_false_iff_eq.2 h0,oDF h1,oCF,bne_iff_ne.2 h2,oCT,oBS];exact wn
   ·simp only[bne_iff_ne.2 h0,oCT,oBS];exact wn
  ·simp only[oDF hsp0,oCF];exact fin
 all_goals
  simp only[show ((qU 0)==2)=false from rfl,show ((qU 1)==2)=false from rfl,show ((qU 3)==2)=false from rfl,show ((qU 4)==2)=false from rfl,show ((qU 5)==2)=false from rfl,show ((qU 6)==2)=false from rfl,show ((qU 7)==2)=false from rfl,
   show ((qU 8)==2)=false from rfl,show ((qU 9)==2)=false from rfl,show ((qU 11)==2)=false from rfl,show ((qU 13)==2)=false from rfl,show ((qU 15)==2)=false from rfl,oCF,Int.reduceBEq]
  exact fin
theorem yU{ss:List Int}{t v rg o sp:Int}{dat:List DCn}{w:Bool}(hs:vN ss) (hv:Pr ss (t,v,rg,o)) (hd:dat.length<=16/\∀c∈dat,Pr ss c) (hsp:-1<=sp/\sp<=3):jY t v rg o dat sp w=some (true,()):=by
 refine eV ?_;unfold jY;rw[show jF t v rg o=some (true,()) from DH hs hv,jK (n:=16) hs hd.2 (by omega) (by omega)];refine dG (oDT hsp.1) ?_;exact Ok.ret (by rw[oDT (show sp < 4 by omega)])
theorem Oq{n m key:Int}{code:List DIn}{ss bs:List Int}{dd:List (List Int)}{cs:List DCe}{ls:List DLn}{ts:List DTh}{i:Nat}{trap count pc call:Int}{args data:List DCn}{t v rg o sp:Int}{dat:List DCn}{w:Bool}(hp:kG code ss dd) (h:MOk n ss bs cs ls ts) (hi:i < 4)
 (hn:n<=1099511627776) (hm:m<=1099511627776) (hR:yQ m ss (i:Int) 1 trap count pc call args data) (hv:Pr ss (t,v,rg,o)) (hd:dat.length<=16/\∀c∈dat,Pr ss c) (hsp:-1<=sp/\sp<=3) :
 Ok (ov code ss dd bs key cs ls ts (i:Int) 1 trap count pc call args data t v rg o dat sp w) λr=>∃cs' ls' ts' b,r=(bs,key,cs',ls',ts',b,())/\MOk n ss bs cs' ls' ts':=by
 have htl:=h.tlen;obtain⟨hk1,hk2⟩:=hR.hkind rfl;obtain⟨th,hth⟩:∃th,ts[i]?=some th:=⟨_,oGE (by omega)⟩;have hok:=h.thr th (dN hth);have hil:=(oGS hth).1;have hg:dI ts i=some th:=hth;unfold ov;delta dM;rw[tJ hp h hn,yV hp.sz hR hm,ve hR.hcall,yU hp.sz hv hd hsp,hk1];simp only[oBS,oNT,oCF,bne_self_eq_false,dK,hg];by_cases h2:th.1=2
 ·simp only[bne_eq_false_iff_eq.2 h2,oCF,pY h,oBS,dK,hg];by_cases hc0:call=0
  ·subst hc0;obtain⟨a,ha⟩:∃a,args[0]?=some a:=⟨_,oGE (by rw[hk1];decide)⟩;have hva:=(hR.hargs.2 a (dN ha)).val;simp only[BEq.rfl,oCT,show dI args 0=some a from ha,oBS];unfold mH kV;rw[dS (show 4<=1000/\0+th.2.1.length<=1000000 by have:=hok.len;omega)];simp only[oCT,oBS,eq hth];exact Ok.ret ⟨_,_,_,_,rfl,h.set h.mem ⟨⟨show (0:Int)<=4 by decide,show (4:Int)<=4 by decide⟩,by dsimp only;rw[eY];simpa using hok.len,i7 ee hok.regs,hok.pc,hok.count,hok.handler,hok.saved,⟨show (0:Int)<=0 by decide,show (0:Int)<=6 by decide⟩,hva⟩⟩
  ·simp only[oBF hc0,oCF]
   cases w with
   | true=>
    simp only[oCT,eq hth];exact Ok.ret ⟨_,_,_,_,rfl,h.set h.mem ⟨⟨show (0:Int)<=3 by decide,show (3:Int)<=4 by decide⟩,hok.len,hok.regs,hok.pc,hok.count,hok.handler,hok.saved,hok.trap,hok.code⟩⟩
   | false=>
    simp only[oCF];refine (KV h hi hR hv hd hsp).bind ?_;rintro _ ⟨b,cs',ls',ts',rfl,hb⟩;dsimp only
    cases b with
    | true=>exact Ok.ret ⟨_,_,_,_,rfl,hb rfl⟩
    | false=>exact Ok.ret ⟨_,_,_,_,rfl,h⟩
 ·simp only[bne_iff_ne.2 h2,oCT];exact Ok.ret ⟨_,_,_,_,rfl,h⟩
theorem J6{n key:Int}{code:List DIn}{ss bs:List Int}{dd:List (List Int)}{cs:List DCe}{ls:List DLn}{ts:List DTh}{i t v rg o sp:Int}{dat:List DCn}{w:Bool}(hp:kG code ss dd) (h:MOk n ss bs cs ls ts)
 (hn:n<=1099511627776) (hv:Pr ss (t,v,rg,o)) (hd:dat.length<=16/\∀c∈dat,Pr ss c) (hsp:-1<=sp/\sp<=3) :
 Ok (lq code ss dd bs key cs ls ts i t v rg o dat sp w) λr=>∃cs' ls' ts' b,r=(bs,key,cs',ls',ts',b,())/\MOk n ss bs cs' ls' ts':=by
 have htl:=h.tlen;obtain⟨hraw,hrawc⟩:=wm (key:=key) h.lay hv;dsimp only at hraw;unfold lq;rw[tJ hp h hn,yU hp.sz hv hd hsp];simp only[oBS,oNT,oCF];by_cases h1:i < 0
 ·simp only[oDT h1,oCT,oBS];exact Ok.ret ⟨_,_,_,_,rfl,h⟩
 by_cases h2:i>=4
 ·simp only[oDF h1,oDT h2,oCT,oCF,oBS];exact Ok.ret ⟨_,_,_,_,rfl,h⟩
 obtain⟨i,rfl⟩:∃k:Nat,i=k:=⟨i.toNat,by omega⟩;obtain⟨th,hth⟩:∃th,ts[i]?=some th:=⟨_,oGE (by omega)⟩;have hok:=h.thr th (dN hth);have hil:=(oGS hth).1;have hg:dI ts i=some th:=hth;obtain⟨c,hc0⟩:∃c,th.2.1[0]?=some c:=⟨_,oGE (by have:=hok.len;omega)⟩;simp only[oDF h1,oDF h2,oCF,dK,oBS,hg];by_cases h3:th.1=3
 ·simp only[bne_eq_false_iff_eq.2 h3,oCF,hraw,oBS,bne_self_eq_false,pY h,dK,hg,show dI th.2.1 0=some c from hc0,eq hth,eq hc0,gN hil,nZ hil];exact Ok.ret ⟨_,_,_,_,rfl,h.set h.mem ⟨⟨show (0:Int)<=1 by decide,show (1:Int)<=4 by decide⟩,by dsimp only;rw[List.length_set];exact hok.len,iK hok.regs hrawc,hok.pc,hok.count,hok.handler,hok.saved,hok.trap,hok.code⟩⟩
 ·simp only[bne_iff_ne.2 h3,oCT];exact Ok.ret ⟨_,_,_,_,rfl,h⟩
structure jB (n:Int) (q:Nat) (code:List DIn) (ss:List Int) (dt:List (List Int)) (bs:List Int) (cs:List DCe) (ls:List DLn) (ts:List DTh) (ck rn:List Int) (ins:List (List Int)) (d:List (List DCn)) (os:List DOp) (us:List DOu) (ow:List Int) (qs:List (List Int)) (rec:List DEn) (js:List Int):Prop where
 prog:kG code ss dt
 mach:MOk n ss bs cs ls ts
 outs:xN ss ck rn ins d os us
 lock:iN ow qs
 rlen:rec.length<=q
 jlen:js.length=4
def OZ(n key:Int) (q:Nat) (code:List DIn) (ss:List Int) (dt:List (List Int)) (bs:List Int) (r:(List DIn)×(List (Int))×(List (List (Int)))×(List (Int))×Int×(List DCe)×(List DLn)×(List DTh)×(List (Int))×(List (Int))×(List (List (Int)))×(List (List DCn))×(List DOp)×(List DOu)×(List (Int))×(List (List (Int)))×(List DEn)×(List (Int))×Unit):Prop:=
 ∃cs ls ts ck rn ins d os us ow qs rec js,r=(code,ss,dt,bs,key,cs,ls,ts,ck,rn,ins,d,os,us,ow,qs,rec,js,())/\jB n q code ss dt bs cs ls ts ck rn ins d os us ow qs rec js
theorem HV{n:Int}{q:Nat}{code:List DIn}{ss:List Int}{dt:List (List Int)}{bs:List Int}{key:Int}{cs:List DCe}{ls:List DLn}{ts:List DTh}{ck rn:List Int}{ins:List (List Int)}{d:List (List DCn)}{os:List DOp}{us:List DOu}{ow:List Int}{qs:List (List Int)}{rec:List DEn}{js:List Int}{i v:Int}(h:jB n q code ss dt bs cs ls ts ck rn ins d os us ow qs rec js) (hn:n<=1099511627776) (hq:q<=900) (hv:W16 v) :
 Ok (ne i v code ss dt bs key cs ls ts ck rn ins d os us ow qs rec js) (OZ n key (q+1) code ss dt bs):=by
 unfold ne;rw[dU (x:=v) (by have:=hv.1;omega) (by have:=hv.2;omega)];obtain⟨v2,ev,hv2⟩:=gi v true;simp only[ev,oBS];refine (J6 h.prog h.mach hn (km hv2) ⟨by decide,ee⟩ (by decide)).bind ?_;rintro _ ⟨cs',ls',ts',b,rfl,hM⟩;dsimp only;have hr:=h.rlen;refine dG (dS (by simp;omega)) ?_;exact Ok.ret ⟨_,_,_,_,_,_,_,_,_,_,_,_,_,rfl,h.prog,hM,h.outs,h.lock,by rw[eY];simp;omega,h.jlen⟩
theorem Fc{n:Int}{q:Nat}{code:List DIn}{ss:List Int}{dt:List (List Int)}{bs:List Int}{key:Int}{cs:List DCe}{ls:List DLn}{ts:List DTh}{ck rn:List Int}{ins:List (List Int)}{d:List (List DCn)}{os:List DOp}{us:List DOu}{ow:List Int}{qs:List (List Int)}{rec:List DEn}{js:List Int}{i v:Int}(h:jB n q code ss dt bs cs ls ts ck rn ins d os us ow qs rec js) (hn:n<=1099511627776) (hq:q<=900) (hv:W16 v) :
 Ok (jb i v code ss dt bs key cs ls ts ck rn ins d os us ow qs rec) λr=>∃cs' ls' ts' rec',r=(code,ss,dt,bs,key,cs',ls',ts',ck,rn,ins,d,os,us,ow,qs,rec',())/\jB n (q+1) code ss dt bs cs' ls' ts' ck rn ins d os us ow qs rec' js:=by
 unfold jb;rw[dU (x:=v) (by have:=hv.1;omega) (by have:=hv.2;omega)];obtain⟨v2,ev,hv2⟩:=gi v true;simp only[ev,oBS];refine (J6 h.prog h.mach hn (km hv2) ⟨by decide,ee⟩ (by decide)).bind ?_;rintro _ ⟨cs',ls',ts',b,rfl,hM⟩;dsimp only;have hr:=h.rlen;refine dG (dS (by simp;omega)) ?_;exact Ok.ret ⟨_,_,_,_,rfl,h.prog,hM,h.outs,h.lock,by rw[eY];simp;omega,h.jlen⟩
def O2(n key:Int) (q:Nat) (code:List DIn) (ss:List Int) (dt:List (List Int)) (bs:List Int) (cs:List DCe) (ls:List DLn) (ts:List DTh) (rec:List DEn) (r:Int×Int×Int×Int×(List DCn)×Int×Bool×(List DIn)×(List (Int))×(List (List (Int)))×(List (Int))×Int×(List DCe)×(List DLn)×(List DTh)×(List (Int))×(List (Int))×(List (List (Int)))×(List (List DCn))×(List DOp)×(List DOu)×(List (Int))×(List (List (Int)))×(List DEn)×(List (Int))×Unit):Prop:=
 ∃t v rg o dat sp w ck rn ins d os us ow qs js,r=(t,v,rg,o,dat,sp,w,code,ss,dt,bs,key,cs,ls,ts,ck,rn,ins,d,os,us,ow,qs,rec,js,())/\jB n q code ss dt bs cs ls ts ck rn ins d os us ow qs rec js/\Pr ss (t,v,rg,o)/\(dat.length<=16/\∀c∈dat,Pr ss c)/\-1<=sp/\sp<=3
set_option maxHeartbeats 4000000 in
theorem GL{n m:Int}{q:Nat}{code:List DIn}{ss:List Int}{dt:List (List Int)}{bs:List Int}{key:Int}{cs:List DCe}{ls:List DLn}{ts:List DTh}{ck rn:List Int}{ins:List (List Int)}{d:List (List DCn)}{os:List DOp}{us:List DOu}{ow:List Int}{qs:List (List Int)}{rec:List DEn}{js:List Int}{i:Nat}{trap count pc call:Int}{args data:List DCn}(h:jB n q code ss dt bs cs ls ts ck rn ins d os us ow qs rec js) (hi:i < 4) (hm:m<=1099511627776) (hR:yQ m ss (i:Int) 1 trap count pc call args data) :
 Ok (jS (i:Int) 1 trap count pc call args data code ss dt bs key cs ls ts ck rn ins d os us ow qs rec js) (O2 n key q code ss dt bs cs ls ts rec):=by
 obtain⟨hk1,_⟩:=hR.hkind rfl;have htl:=h.mach.tlen;obtain⟨v0,ev0,hv0⟩:=gi 0 true;obtain⟨v1,ev1,hv1⟩:=gi 0 false;have nil16:([]:List DCn).length<=16/\∀c∈([]:List DCn),Pr ss c:=⟨by decide,ee⟩
 have fin:∀{v:Int} {w:Bool} {ow':List Int} {qs':List (List Int)} {js':List Int},W16 v->iN ow' qs'->js'.length=4->Ok (some ((0:Int),v,(0:Int),(0:Int),([]:List DCn),(-1:Int),w,code,ss,dt,bs,key,cs,ls,ts,ck,rn,ins,d,os,us,ow',qs',rec,js',())) (O2 n key q code ss dt bs cs ls ts rec):=
  λhv hl hj=>Ok.ret ⟨_,_,_,_,_,_,_,_,_,_,_,_,_,_,_,_,rfl,⟨h.prog,h.mach,h.outs,hl,h.rlen,hj⟩,km hv,nil16,by decide,by decide⟩
 have hdo:Nx call=true->Ok ((nS ck rn ins d os us (i:Int) 1 trap count pc call args data).bind λ(x35,x36,x37,x38,x39,x40,x41,x42,x43,x44,x45,x46,x47,x48,_)=>some (x41,x42,x43,x44,x45,x46,x47,code,ss,dt,bs,key,cs,ls,ts,x35,x36,x37,x38,x39,x40,ow,qs,rec,js,())) (O2 n key q code ss dt bs cs ls ts rec):=by
  intro ha;refine (Nl h.prog.sz h.outs hR ha hm).bind ?_;rintro _ ⟨ck',rn',ins',d',os',us',t,v,rg,o,dat,rfl,hO,hv,hd1,hd2⟩;exact Ok.ret ⟨_,_,_,_,_,_,_,_,_,_,_,_,_,_,_,_,rfl,⟨h.prog,h.mach,hO,h.lock,h.rlen,h.jlen⟩,hv,⟨hd1,hd2⟩,by decide,by decide⟩
 have arg0:0 < (kB call).length->∃a,dI args 0=some a/\W16 a.2.1/\wk .i64 a.2.1=a.2.1:=λhl=>by
  obtain⟨a,ha⟩:∃a,args[0]?=some a:=⟨_,oGE (by omega)⟩;have hva:=(hR.hargs.2 a (dN ha)).val;exact⟨a,ha,hva,dU (by have:=hva.1;omega) (by have:=hva.2;omega)⟩
 unfold jS;delta dM
 try dsimp only
 rcases ud hR.hcall with rfl | rfl | rfl | rfl | rfl | rfl | rfl | rfl | rfl | rfl | rfl | rfl | rfl | rfl | rfl | rfl
 all_goals simp only[Int.reduceBEq,oCT,oCF,oBS,ev0,ev1]
 all_goals first
  | exact hdo rfl
  | exact fin hv0 h.lock h.jlen
  | skip
 ·obtain⟨a,ga,ha,wa⟩:=arg0 (by decide);simp only[ga,oBS,wa];refine (Mj h.lock (by omega)).bind ?_;rintro _ ⟨ow',qs',how,rfl,hl⟩;dsimp only;obtain⟨v,ev,hv⟩:=gi 0 (how != 2);simp only[ev,oBS];exact fin hv hl h.jlen
 ·obtain⟨a,ga,ha,wa⟩:=arg0 (by decide);simp only[ga,oBS,wa];refine (EJ h.lock).bind ?_;rintro _ ⟨ow',qs',nx,b,rfl,hl,_⟩;dsimp only;obtain⟨v,ev,hv⟩:=gi 0 b;simp only[ev,oBS];exact fin hv hl h.jlen
 ·obtain⟨y,e,hy⟩:=fS (f:=jR) (n:=NN) (s:=(ts,(ts.length:Int),0,code,ss,dt,bs,key,cs,ls,ts,ck,rn,ins,d,os,us,ow,qs,rec,js,0,0,0,0,(),0,false,()))
   (P:=λs'=>∃k:Nat,s'=(ts,(ts.length:Int),(k:Int),code,ss,dt,bs,key,cs,ls,ts,ck,rn,ins,d,os,us,ow,qs,rec,js,0,0,0,0,(),0,false,())/\k<=4)
   (R:=λy=>(∃v k,y=.inl (code,ss,dt,bs,key,cs,ls,ts,ck,rn,ins,d,os,us,ow,qs,rec,js,0,v,0,0,(),k,false,())/\W16 v/\0<=k/\k<=3)\/(∃a b c f,y=.inr (a,b,c,f,code,ss,dt,bs,key,cs,ls,ts,ck,rn,ins,d,os,us,ow,qs,rec,js,0,0,0,0,(),0,false,())))
   (m:=λs'=>(s'.2.1 - s'.2.2.1).toNat) ⟨0,rfl,by omega⟩ (by unfold NN;dsimp only;omega) (by
    rintro _ ⟨k,rfl,hk⟩;unfold jR;dsimp only
    (with_reducible refine dF (λhca=>?_) λhca=>?_)
    ·obtain⟨t,ht⟩:∃t,ts[k]?=some t:=⟨_,oGE (by omega)⟩;simp only[dK,oBS,show dI ts k=some t from ht]
     (with_reducible refine dF (λhcb=>?_) λhcb=>?_)
     ·obtain⟨v,ev,hv⟩:=gi (k:Int) true;simp only[ev,oBS];exact Ok.ret (.inl ⟨_,_,rfl,hv,by omega,by omega⟩)
     ·rw[dP (x:=(k:Int)+1) (by omega) (by omega)];exact Ok.ret ⟨⟨k+1,rfl,by omega⟩,by dsimp only;omega⟩
    ·exact Ok.ret (.inr ⟨_,_,_,_,rfl⟩))
  simp only[e];rcases hy with ⟨v,k,rfl,hv,k0,k3⟩ | ⟨a,b,c,f,rfl⟩
  ·exact Ok.ret ⟨_,_,_,_,_,_,_,_,_,_,_,_,_,_,_,_,rfl,⟨h.prog,h.mach,h.outs,h.lock,h.rlen,h.jlen⟩,km hv,nil16,by omega,by omega⟩
  ·simp only[ev1,oBS];exact fin hv1 h.lock h.jlen
 ·obtain⟨a,ga,ha,wa⟩:=arg0 (by decide);simp only[ga,oBS,wa];obtain⟨j,hj⟩:∃j:Nat,a.2.1=j:=⟨a.2.1.toNat,by have:=ha.1;omega⟩;simp only[hj];by_cases h1:(j:Int)=i
  ·simp only[beq_iff_eq.2 h1,oCT,oBS,ev1];exact fin hv1 h.lock h.jlen
  by_cases h2:(j:Int)>=4
  ·simp only[oBF h1,oDT h2,oCT,oCF,oBS,ev1];exact fin hv1 h.lock h.jlen
  obtain⟨t,ht⟩:∃t,ts[j]?=some t:=⟨_,oGE (by omega)⟩;simp only[oBF h1,oDF h2,oCF,oBS,dK,show dI ts j=some t from ht]
  cases t.1==0 with
  | true=>
   simp only[oCT,ev1,oBS];exact fin hv1 h.lock h.jlen
  | false=>
   simp only[oCF,dK,oBS,show dI ts j=some t from ht]
   cases t.1==4 with
   | true=>
    obtain⟨v,ev,hv⟩:=gi (wk .i64 t.2.2.2.2.2.2.2) true;simp only[oCT,ev,oBS];exact fin hv h.lock h.jlen
   | false=>
    obtain⟨z,hz⟩:∃z,js[i]?=some z:=⟨_,oGE (by have:=h.jlen;omega)⟩;simp only[oCF,show dI js i=some z from hz,oBS,ev0,eq hz];exact fin hv0 h.lock (by rw[List.length_set];exact h.jlen)
theorem xA{n m:Int}{q:Nat}{code:List DIn}{ss:List Int}{dt:List (List Int)}{bs:List Int}{key:Int}{cs:List DCe}{ls:List DLn}{ts:List DTh}{ck rn:List Int}{ins:List (List Int)}{d:List (List DCn)}{os:List DOp}{us:List DOu}{ow:List Int}{qs:List (List Int)}{rec:List DEn}{js:List Int}{i:Nat}{trap count pc call:Int}{args data:List DCn}(h:jB n q code ss dt bs cs ls ts ck rn ins d os us ow qs rec js) (hi:i < 4) (hn:n<=1099511627776) (hm:m<=1099511627776) (hq:q<=800) (hR:yQ m ss (i:Int) 1 trap count pc call args data) :
 Ok (jc (i:Int) 1 trap count pc call args data code ss dt bs key cs ls ts ck rn ins d os us ow qs rec js) (OZ n key (q+2) code ss dt bs):=by
 obtain⟨hk1,_⟩:=hR.hkind rfl;unfold jc;refine Ok.bind (P:=λr=>∃nx,r=(nx,code,ss,dt,bs,key,cs,ls,ts,ck,rn,ins,d,os,us,ow,qs,rec,js,(i:Int),1,trap,count,pc,call,args,data,())) ?_ ?_
 ·by_cases h9:call=9
  ·subst h9;obtain⟨a,ha⟩:∃a,args[0]?=some a:=⟨_,oGE (by rw[hk1];decide)⟩;simp only[BEq.rfl,oCT,show dI args 0=some a from ha,oBS];refine (EJ h.lock).bind ?_;rintro _ ⟨ow',qs',nx,b,rfl,hl,_⟩;exact Ok.ret ⟨nx,rfl⟩
  ·simp only[oBF h9,oCF];exact Ok.ret ⟨_,rfl⟩
 rintro _ ⟨nx,rfl⟩;dsimp only;refine (GL h hi hm hR).bind ?_;rintro _ ⟨t,v,rg,o,dat,sp,w,ck',rn',ins',d',os',us',ow',qs',js',rfl,h2,hv,hd,hs1,hs2⟩;dsimp only;refine (Oq h.prog h.mach hi hn hm hR hv hd ⟨hs1,hs2⟩).bind ?_;rintro _ ⟨cs',ls',ts',b,rfl,hM⟩;dsimp only;have hr:=h.rlen;refine dG (dS (by simp;omega)) ?_;have h3:∀e:DEn,jB n (q+1) code ss dt bs cs' ls' ts' ck' rn' ins' d' os' us' ow' qs' (List.append rec [e]) js':=λe=>⟨h2.prog,hM,h2.outs,h2.lock,by rw[eY];simp;omega,h2.jlen⟩
 (with_reducible refine dF (λhca=>?_) λhca=>?_)
 ·refine (HV (h3 _) hn (by omega) ⟨by decide,by decide⟩).bind ?_;rintro _ ⟨cs3,ls3,ts3,ck3,rn3,ins3,d3,os3,us3,ow3,qs3,rec3,js3,rfl,h4⟩;exact Ok.ret ⟨_,_,_,_,_,_,_,_,_,_,_,_,_,rfl,h4⟩
 ·have h4:=h3 (2,(i:Int),0,(i:Int),1,trap,count,pc,call,args,data,t,v,rg,o,dat,sp,w);exact Ok.ret ⟨_,_,_,_,_,_,_,_,_,_,_,_,_,rfl,h4.prog,h4.mach,h4.outs,h4.lock,by have:=h4.rlen;omega,h4.jlen⟩
theorem Bu{n:Int}{q:Nat}{code:List DIn}{ss:List Int}{dt:List (List Int)}{bs:List Int}{key:Int}{cs:List DCe}{ls:List DLn}{ts:List DTh}{ck rn:List Int}{ins:List (List Int)}{d:List (List DCn)}{os:List DOp}{us:List DOu}{ow:List Int}{qs:List (List Int)}{rec:List DEn}{js:List Int}{i:Nat}(h:jB n q code ss dt bs cs ls ts ck rn ins d os us ow qs rec js) (hi:i < 4) (hn:n<=1099511627776) (hq:q<=800) :
 Ok (jT (i:Int) code ss dt bs key cs ls ts ck rn ins d os us ow qs rec js) (OZ n key (q+8) code ss dt bs):=by
 unfold jT;delta dM
 try dsimp only
 refine (Nj h.lock).bind ?_;rintro _ ⟨ow',qs',nx,rfl,hl,hn4,hnx⟩;dsimp only
 refine Ok.loop (P:=λs'=>∃k:Nat,∃cs ls ts rec,s'=((i:Int),(nx.length:Int),(k:Int),code,ss,dt,bs,key,cs,ls,ts,ck,rn,ins,d,os,us,ow',qs',rec,js,nx,())/\k<=nx.length/\jB n (q+k) code ss dt bs cs ls ts ck rn ins d os us ow' qs' rec js)
  (R:=λr=>∃a b f cs ls ts rec,r=((i:Int),a,b,f,code,ss,dt,bs,key,cs,ls,ts,ck,rn,ins,d,os,us,ow',qs',rec,js,nx,())/\jB n (q+4) code ss dt bs cs ls ts ck rn ins d os us ow' qs' rec js) (m:=λs'=>(s'.2.1 - s'.2.2.1).toNat)
  ⟨0,cs,ls,ts,rec,rfl,by omega,h.prog,h.mach,h.outs,hl,by have:=h.rlen;omega,h.jlen⟩ (by unfold NN;dsimp only;omega) ?_ ?_
 ·rintro _ ⟨k,cs2,ls2,ts2,rec2,rfl,hk,h2⟩;unfold pd;dsimp only
  (with_reducible refine dF (λhca=>?_) λhca=>?_)
  ·obtain⟨x,hx⟩:∃x,nx[k]?=some x:=⟨_,oGE (by omega)⟩;simp only[dK,oBS,show dI nx k=some x from hx];refine (Fc h2 hn (by omega) ⟨by decide,by decide⟩).bind ?_;rintro _ ⟨cs3,ls3,ts3,rec3,rfl,h3⟩;dsimp only;rw[dP (x:=(k:Int)+1) (by omega) (by omega)];exact Ok.ret ⟨⟨k+1,_,_,_,_,rfl,by omega,h3⟩,by dsimp only;omega⟩
  ·exact Ok.ret ⟨_,_,_,_,_,_,_,rfl,h2.prog,h2.mach,h2.outs,h2.lock,by have:=h2.rlen;omega,h2.jlen⟩
 rintro _ ⟨a,b,f,cs2,ls2,ts2,rec2,rfl,h2⟩;dsimp only
 refine Ok.loop (P:=λs'=>∃k:Nat,∃cs ls ts rec js,s'=((i:Int),4,(k:Int),code,ss,dt,bs,key,cs,ls,ts,ck,rn,ins,d,os,us,ow',qs',rec,js,())/\k<=4/\jB n (q+4+k) code ss dt bs cs ls ts ck rn ins d os us ow' qs' rec js)
  (R:=λr=>∃a b c f cs ls ts rec js,r=(a,b,c,f,code,ss,dt,bs,key,cs,ls,ts,ck,rn,ins,d,os,us,ow',qs',rec,js,())/\jB n (q+8) code ss dt bs cs ls ts ck rn ins d os us ow' qs' rec js) (m:=λs'=>(s'.2.1 - s'.2.2.1).toNat)
  ⟨0,cs2,ls2,ts2,rec2,js,by rw[h.jlen];rfl,by omega,h2⟩ (by unfold NN;dsimp only;have:=h.jlen;omega) ?_ ?_
 ·rintro _ ⟨k,cs2,ls2,ts2,rec2,js2,rfl,hk,h2⟩;unfold pb;dsimp only
  (with_reducible refine dF (λhca=>?_) λhca=>?_)
  ·obtain⟨x,hx⟩:∃x,js2[k]?=some x:=⟨_,oGE (by have:=h2.jlen;omega)⟩;obtain⟨t,ht⟩:∃t,ts2[i]?=some t:=⟨_,oGE (by have:=h2.mach.tlen;omega)⟩;have htc:=(h2.mach.thr t (dN ht)).code;simp only[dK,oBS,show dI js2 k=some x from hx,show dI ts2 i=some t from ht];refine Ok.bind (P:=λr=>∃cs ls ts rec js,r=((i:Int),4,(k:Int),code,ss,dt,bs,key,cs,ls,ts,ck,rn,ins,d,os,us,ow',qs',rec,js,())/\jB n (q+4+(k+1)) code ss dt bs cs ls ts ck rn ins d os us ow' qs' rec js) ?_ ?_
   ·(with_reducible refine dF (λhcb=>?_) λhcb=>?_)
    ·refine (Fc h2 hn (by omega) htc).bind ?_;rintro _ ⟨cs3,ls3,ts3,rec3,rfl,h3⟩;simp only[dK,oBS,show dI js2 k=some x from hx,eq hx];exact Ok.ret ⟨_,_,_,_,_,rfl,h3.prog,h3.mach,h3.outs,h3.lock,by have:=h3.rlen;omega,by rw[List.length_set];exact h3.jlen⟩
    ·exact Ok.ret ⟨_,_,_,_,_,rfl,h2.prog,h2.mach,h2.outs,h2.lock,by have:=h2.rlen;omega,h2.jlen⟩
   ·rintro _ ⟨cs3,ls3,ts3,rec3,js3,rfl,h3⟩;dsimp only;rw[dP (x:=(k:Int)+1) (by omega) (by omega)];exact Ok.ret ⟨⟨k+1,_,_,_,_,_,rfl,by omega,h3⟩,by dsimp only;omega⟩
  ·exact Ok.ret ⟨_,_,_,_,_,_,_,_,_,rfl,h2.prog,h2.mach,h2.outs,h2.lock,by have:=h2.rlen;omega,h2.jlen⟩
 ·rintro _ ⟨a,b,c,f,cs2,ls2,ts2,rec2,js2,rfl,h2⟩;exact Ok.ret ⟨_,_,_,_,_,_,_,_,_,_,_,_,_,rfl,h2⟩
def O3(n key:Int) (q:Nat) (code:List DIn) (ss:List Int) (dt:List (List Int)) (bs:List Int) (r:(List DIn)×(List (Int))×(List (List (Int)))×(List (Int))×Int×(List DCe)×(List DLn)×(List DTh)×(List (Int))×(List (Int))×(List (List (Int)))×(List (List DCn))×(List DOp)×(List DOu)×(List (Int))×(List (List (Int)))×(List DEn)×(List (Int))×Int×Unit):Prop:=
 (∃e,r=([],[],[],[],0,[],[],[],[],[],[],[],[],[],[],[],[],[],e,())/\e≠0)\/(∃cs ls ts ck rn ins d os us ow qs rec js,r=(code,ss,dt,bs,key,cs,ls,ts,ck,rn,ins,d,os,us,ow,qs,rec,js,0,())/\jB n q code ss dt bs cs ls ts ck rn ins d os us ow qs rec js)
theorem ET{code:List DIn}{ss:List Int}{dt:List (List Int)}{bs:List Int}{key:Int}{cs:List DCe}{ls:List DLn}{ts:List DTh}{ck rn:List Int}{ins:List (List Int)}{d:List (List DCn)}{os:List DOp}{us:List DOu}{ow:List Int}{qs:List (List Int)}{rec:List DEn}{js:List Int}(h1:rec.length<=1000) (h2:js.length<=1000):kS code ss dt bs key cs ls ts ck rn ins d os us ow qs rec js=some (code,ss,dt,bs,key,cs,ls,ts,ck,rn,ins,d,os,us,ow,qs,rec,js,()):=by
 unfold kS;rw[dS (show 8<=1000/\0+js.length<=1000000 by omega),dS (show 184<=1000/\0+rec.length<=1000000 by omega)];rfl
set_option maxHeartbeats 4000000 in
theorem Jc{n:Int}{q:Nat}{code:List DIn}{ss:List Int}{dt:List (List Int)}{bs:List Int}{key:Int}{cs:List DCe}{ls:List DLn}{ts:List DTh}{ck rn:List Int}{ins:List (List Int)}{d:List (List DCn)}{os:List DOp}{us:List DOu}{ow:List Int}{qs:List (List Int)}{rec:List DEn}{js:List Int}{c1 c2:Int}{c3:Bool}(h:jB n q code ss dt bs cs ls ts ck rn ins d os us ow qs rec js) (hn0:0<=n) (hn:n+64<=1099511627776) (hq:q<=700) (hc1:vg c1) (hc2:vg c2) :
 Ok (ng code ss dt bs key cs ls ts ck rn ins d os us ow qs rec js c1 c2 c3) (O3 (n+64) key (q+12) code ss dt bs):=by
 have htl:=h.mach.tlen;have hr:=h.rlen;unfold ng;delta dM;rw[KR (by omega)];simp only[oBS];have hrl:=zj ts 0
 (with_reducible refine dF (λhca=>?_) λhca=>?_)
 ·exact Ok.ret (.inl ⟨15,rfl,by decide⟩)
 (with_reducible refine dF (λhcb=>?_) λhcb=>?_)
 ·exact Ok.ret (.inl ⟨3,rfl,by decide⟩)
 refine N2 hc1 (by omega) (by omega) λv v0 v1=>?_;dsimp only;obtain⟨k,rfl⟩:∃k:Nat,v=k:=⟨v.toNat,by omega⟩;obtain⟨x,hx⟩:∃x,(it ts 0)[k]?=some x:=⟨_,oGE (by omega)⟩;obtain⟨x0,x1,_⟩:=GF (dN hx);obtain⟨i,rfl⟩:∃i:Nat,x=i:=⟨x.toNat,by omega⟩
 have hi:i < 4:=by omega
 simp only[dK,oBS,show dI (it ts 0) k=some (i:Int) from hx];refine N2 hc2 (by decide) (by decide) λu u0 u1=>?_;dsimp only;rw[dP (x:=1+u) (by omega) (by omega),ET (by omega) (by have:=h.jlen;omega)]
 have hk:1<=1+u/\1+u<=64:=by omega
 generalize 1+u=kk at hk;simp only[oBS]
 cases c3 with
 | false=>
  simp only[oCF];have h2:jB n (q+1) code ss dt bs cs ls ts ck rn ins d os us ow qs rec js:=⟨h.prog,h.mach,h.outs,h.lock,by omega,h.jlen⟩;have htl2:=h2.mach.tlen;refine (vW h2.prog h2.mach hn0 hn hi hk).bind ?_;rintro _ ⟨cs3,ls3,t3,stop,trap,call,args,data,rfl,hm3,hth3,hreq,hask,_⟩;dsimp only;have hr2:=h2.rlen;have hM3:=(h2.mach.mono (show n<=n+64 by omega)).set hm3 (i:=i) hth3;refine dG (dS (by simp;omega)) ?_;refine Ok.bind (P:=λr=>∃cs ls ts ck rn ins d os us ow qs rec js,r=((i:Int),(),(),(),(),0,(),(),(),(),(),(),(),(),(),(),(),(),(),code,ss,dt,bs,key,cs,ls,ts,ck,rn,ins,d,os,us,ow,qs,rec,js,())/\jB (n+64) (q+4) code ss dt bs cs ls ts ck rn ins d os us ow qs rec js) ?_ ?_
  ·by_cases hs1:stop=1
   ·subst hs1;simp only[BEq.rfl,oCT];refine (xA (q:=q+2) ⟨h2.prog,hM3,h2.outs,h2.lock,by rw[eY];simp;omega,h2.jlen⟩ hi (by omega) hn (by omega) hreq).bind ?_;rintro _ ⟨cs4,ls4,ts4,ck4,rn4,ins4,d4,os4,us4,ow4,qs4,rec4,js4,rfl,h4⟩;exact Ok.ret ⟨_,_,_,_,_,_,_,_,_,_,_,_,_,rfl,h4⟩
   ·simp only[oBF hs1,oCF];exact Ok.ret ⟨_,_,_,_,_,_,_,_,_,_,_,_,_,rfl,h2.prog,hM3,h2.outs,h2.lock,by rw[eY];simp;omega,h2.jlen⟩
  rintro _ ⟨cs,ls,ts,ck,rn,ins,d,os,us,ow,qs,rec,js,rfl,h5⟩;dsimp only;obtain⟨t5,ht5⟩:∃t5,ts[i]?=some t5:=⟨_,oGE (by have:=h5.mach.tlen;omega)⟩;simp only[dK,oBS,show dI ts i=some t5 from ht5];refine Ok.bind (P:=λr=>∃cs ls ts ck rn ins d os us ow qs rec js,r=((),(),(),(),0,(),(),(),(),(),(),(),(),(),(),(),(),(),code,ss,dt,bs,key,cs,ls,ts,ck,rn,ins,d,os,us,ow,qs,rec,js,())/\jB (n+64) (q+12) code ss dt bs cs ls ts ck rn ins d os us ow qs rec js) ?_ ?_
  ·(with_reducible refine dF (λhce=>?_) λhce=>?_)
   ·refine (Bu h5 hi (by omega) (by omega)).bind ?_;rintro _ ⟨cs4,ls4,ts4,ck4,rn4,ins4,d4,os4,us4,ow4,qs4,rec4,js4,rfl,h4⟩;exact Ok.ret ⟨_,_,_,_,_,_,_,_,_,_,_,_,_,rfl,h4⟩
   ·exact Ok.ret ⟨_,_,_,_,_,_,_,_,_,_,_,_,_,rfl,h5.prog,h5.mach,h5.outs,h5.lock,by have:=h5.rlen;omega,h5.jlen⟩
  rintro _ ⟨cs,ls,ts,ck,rn,ins,d,os,us,ow,qs,rec,js,rfl,h6⟩;exact Ok.ret (.inr ⟨_,_,_,_,_,_,_,_,_,_,_,_,_,rfl,h6⟩)
 | true=>
  simp only[oCT];obtain⟨⟨b,_⟩,eC,_⟩:=L5 (key:=key) h.mach (i:Int);simp only[eC,oBS]
  cases b with
  | false=>
   simp only[oCF];have h2:jB n (q+1) code ss dt bs cs ls ts ck rn ins d os us ow qs rec js:=⟨h.prog,h.mach,h.outs,h.lock,by omega,h.jlen⟩;have htl2:=h2.mach.tlen;refine (vW h2.prog h2.mach hn0 hn hi hk).bind ?_;rintro _ ⟨cs3,ls3,t3,stop,trap,call,args,data,rfl,hm3,hth3,hreq,hask,_⟩;dsimp only;have hr2:=h2.rlen;have hM3:=(h2.mach.mono (show n<=n+64 by omega)).set hm3 (i:=i) hth3;refine dG (dS (by simp;omega)) ?_;refine Ok.bind (P:=λr=>∃cs ls ts ck rn ins d os us ow qs rec js,r=((i:Int),(),(),(),(),0,(),(),(),(),(),(),(),(),(),(),(),(),(),code,ss,dt,bs,key,cs,ls,ts,ck,rn,ins,d,os,us,ow,qs,rec,js,())/\jB (n+64) (q+4) code ss dt bs cs ls ts ck rn ins d os us ow qs rec js) ?_ ?_
   ·by_cases hs1:stop=1
    ·subst hs1;simp only[BEq.rfl,oCT];refine (xA (q:=q+2) ⟨h2.prog,hM3,h2.outs,h2.lock,by rw[eY];simp;omega,h2.jlen⟩ hi (by omega) hn (by omega) hreq).bind ?_;rintro _ ⟨cs4,ls4,ts4,ck4,rn4,ins4,d4,os4,us4,ow4,qs4,rec4,js4,rfl,h4⟩;exact Ok.ret ⟨_,_,_,_,_,_,_,_,_,_,_,_,_,rfl,h4⟩
    ·simp only[oBF hs1,oCF];exact Ok.ret ⟨_,_,_,_,_,_,_,_,_,_,_,_,_,rfl,h2.prog,hM3,h2.outs,h2.lock,by rw[eY];simp;omega,h2.jlen⟩
   rintro _ ⟨cs,ls,ts,ck,rn,ins,d,os,us,ow,qs,rec,js,rfl,h5⟩;dsimp only;obtain⟨t5,ht5⟩:∃t5,ts[i]?=some t5:=⟨_,oGE (by have:=h5.mach.tlen;omega)⟩;simp only[dK,oBS,show dI ts i=some t5 from ht5];refine Ok.bind (P:=λr=>∃cs ls ts ck rn ins d os us ow qs rec js,r=((),(),(),(),0,(),(),(),(),(),(),(),(),(),(),(),(),(),code,ss,dt,bs,key,cs,ls,ts,ck,rn,ins,d,os,us,ow,qs,rec,js,())/\jB (n+64) (q+12) code ss dt bs cs ls ts ck rn ins d os us ow qs rec js) ?_ ?_
   ·(with_reducible refine dF (λhce=>?_) λhce=>?_)
    ·refine (Bu h5 hi (by omega) (by omega)).bind ?_;rintro _ ⟨cs4,ls4,ts4,ck4,rn4,ins4,d4,os4,us4,ow4,qs4,rec4,js4,rfl,h4⟩;exact Ok.ret ⟨_,_,_,_,_,_,_,_,_,_,_,_,_,rfl,h4⟩
    ·exact Ok.ret ⟨_,_,_,_,_,_,_,_,_,_,_,_,_,rfl,h5.prog,h5.mach,h5.outs,h5.lock,by have:=h5.rlen;omega,h5.jlen⟩
   rintro _ ⟨cs,ls,ts,ck,rn,ins,d,os,us,ow,qs,rec,js,rfl,h6⟩;exact Ok.ret (.inr ⟨_,_,_,_,_,_,_,_,_,_,_,_,_,rfl,h6⟩)
  | true=>
   obtain⟨_,eD,ts',b',rfl,hD⟩:=Hv (key:=key) h.mach (i:Int);simp only[oCT,eD,oBS];rw[dS (show 184<=1000/\rec.length + _<=1000000 by simp;omega)];simp only[oCT];have h2:jB n (q+1) code ss dt bs cs ls ts' ck rn ins d os us ow qs (List.append rec [(3,(i:Int),0,0,0,0,0,0,0,[],[],0,0,0,0,[],0,false)]) js:=⟨h.prog,hD,h.outs,h.lock,by rw[eY];simp;omega,h.jlen⟩;have htl2:=h2.mach.tlen;refine (vW h2.prog h2.mach hn0 hn hi hk).bind ?_;rintro _ ⟨cs3,ls3,t3,stop,trap,call,args,data,rfl,hm3,hth3,hreq,hask,_⟩;dsimp only;have hr2:=h2.rlen;have hM3:=(h2.mach.mono (show n<=n+64 by omega)).set hm3 (i:=i) hth3;refine dG (dS (by simp;omega)) ?_;refine Ok.bind (P:=λr=>∃cs ls ts ck rn ins d os us ow qs rec js,r=((i:Int),(),(),(),(),0,(),(),(),(),(),(),(),(),(),(),(),(),(),code,ss,dt,bs,key,cs,ls,ts,ck,rn,ins,d,os,us,ow,qs,rec,js,())/\jB (n+64) (q+4) code ss dt bs cs ls ts ck rn ins d os us ow qs rec js) ?_ ?_
   ·by_cases hs1:stop=1
    ·subst hs1;simp only[BEq.rfl,oCT];refine (xA (q:=q+2) ⟨h2.prog,hM3,h2.outs,h2.lock,by rw[eY];simp;omega,h2.jlen⟩ hi (by omega) hn (by omega) hreq).bind ?_;rintro _ ⟨cs4,ls4,ts4,ck4,rn4,ins4,d4,os4,us4,ow4,qs4,rec4,js4,rfl,h4⟩;exact Ok.ret ⟨_,_,_,_,_,_,_,_,_,_,_,_,_,rfl,h4⟩
    ·simp only[oBF hs1,oCF];exact Ok.ret ⟨_,_,_,_,_,_,_,_,_,_,_,_,_,rfl,h2.prog,hM3,h2.outs,h2.lock,by rw[eY];simp;omega,h2.jlen⟩
   rintro _ ⟨cs,ls,ts,ck,rn,ins,d,os,us,ow,qs,rec,js,rfl,h5⟩;dsimp only;obtain⟨t5,ht5⟩:∃t5,ts[i]?=some t5:=⟨_,oGE (by have:=h5.mach.tlen;omega)⟩;simp only[dK,oBS,show dI ts i=some t5 from ht5];refine Ok.bind (P:=λr=>∃cs ls ts ck rn ins d os us ow qs rec js,r=((),(),(),(),0,(),(),(),(),(),(),(),(),(),(),(),(),(),code,ss,dt,bs,key,cs,ls,ts,ck,rn,ins,d,os,us,ow,qs,rec,js,())/\jB (n+64) (q+12) code ss dt bs cs ls ts ck rn ins d os us ow qs rec js) ?_ ?_
   ·(with_reducible refine dF (λhce=>?_) λhce=>?_)
    ·refine (Bu h5 hi (by omega) (by omega)).bind ?_;rintro _ ⟨cs4,ls4,ts4,ck4,rn4,ins4,d4,os4,us4,ow4,qs4,rec4,js4,rfl,h4⟩;exact Ok.ret ⟨_,_,_,_,_,_,_,_,_,_,_,_,_,rfl,h4⟩
    ·exact Ok.ret ⟨_,_,_,_,_,_,_,_,_,_,_,_,_,rfl,h5.prog,h5.mach,h5.outs,h5.lock,by have:=h5.rlen;omega,h5.jlen⟩
   rintro _ ⟨cs,ls,ts,ck,rn,ins,d,os,us,ow,qs,rec,js,rfl,h6⟩;exact Ok.ret (.inr ⟨_,_,_,_,_,_,_,_,_,_,_,_,_,rfl,h6⟩)
theorem Jq{l ss:List Int}{k:Int}(hs:vN ss) (h:DOk l k):Ok (mc ss l k) λr=>∃bs key k',r=(bs,key,l,k',())/\LV bs ss/\W16 key/\DOk l k':=by
 unfold mc
 (with_reducible refine fu (by assumption) (by omega) (by omega) (λv0 k0 a0 b0 d0=>?_);try dsimp only)
 refine (M5 hs a0 (by omega)).bind ?_;rintro _ ⟨key,rfl,hk⟩;exact Ok.ret ⟨_,_,_,rfl,Ov hs a0,hk,d0⟩
theorem NT{l:List Int}{k:Int}(h:DOk l k):Ok (qF l k) λr=>∃code ss dt bs key cs ls ts ck rn ins d os us ow qs rec js k',r=(code,ss,dt,bs,key,cs,ls,ts,ck,rn,ins,d,os,us,ow,qs,rec,js,l,k',())/\W16 key/\jB 1152 216 code ss dt bs cs ls ts ck rn ins d os us ow qs rec js/\DOk l k':=by
 unfold qF;refine (GK h).bind ?_;rintro _ ⟨code,ss,dt,k1,rfl,hp,h1⟩;dsimp only;refine (Jq hp.sz h1).bind ?_;rintro _ ⟨bs,key,k2,rfl,hL,hkey,h2⟩;dsimp only;refine (GQ hp.sz h2).bind ?_;rintro _ ⟨ck,rn,ins,d,os,k3,rfl,hO,h3⟩;dsimp only;refine (LC hp hL hO).bind ?_;rintro _ ⟨cs,ts,rfl,hM⟩;dsimp only
 (with_reducible refine fu (by assumption) (by omega) (by omega) (λv4 k4 a4 b4 d4=>?_);try dsimp only)
 rw[dP (x:=3+v4) (by omega) (by omega)]
 obtain⟨y,e,hy⟩:=fS (f:=oB) (n:=NN) (s:=(3+v4,l,k4,(),(),(),(),0,(),(),(),(),(),(),(),(),(),(),(),(),(),code,ss,dt,bs,key,cs,eK,ts,ck,rn,ins,d,os,[],[-1,-1,-1,-1],[[],[],[],[]],[],[-1,-1,-1,-1],()))
  (P:=λs'=>∃(c k':Int) (q:Nat),∃cs ls ts ck rn ins d os us ow qs rec js,s'=(c,l,k',(),(),(),(),0,(),(),(),(),(),(),(),(),(),(),(),(),(),code,ss,dt,bs,key,cs,ls,ts,ck,rn,ins,d,os,us,ow,qs,rec,js,())/\0<=c/\c+q<=18/\DOk l k'/\jB (64*q) (12*q) code ss dt bs cs ls ts ck rn ins d os us ow qs rec js)
  (R:=λy=>(∃(c k':Int) (f:Bool) (q:Nat),∃cs ls ts ck rn ins d os us ow qs rec js z1 z2 z3 z4 z5 z6 z7 z8 z9 z10 z11 z12 z13 z14 z15 z16 z17 z18,y=.inl (c,f,l,k',(),(),(),(),0,(),(),(),(),(),(),(),(),(),(),(),(),(),code,ss,dt,bs,key,cs,ls,ts,ck,rn,ins,d,os,us,ow,qs,rec,js,z1,z2,z3,z4,z5,z6,z7,z8,z9,z10,z11,z12,z13,z14,z15,z16,z17,z18,())/\q<=18/\DOk l k'/\jB (64*q) (12*q) code ss dt bs cs ls ts ck rn ins d os us ow qs rec js) \/
   (∃(c k':Int) (f:Bool) (q:Nat),∃cs ls ts ck rn ins d os us ow qs rec js,y=.inr (c,f,l,k',(),(),(),(),0,(),(),(),(),(),(),(),(),(),(),(),(),(),code,ss,dt,bs,key,cs,ls,ts,ck,rn,ins,d,os,us,ow,qs,rec,js,())/\q<=18/\DOk l k'/\jB (64*q) (12*q) code ss dt bs cs ls ts ck rn ins d os us ow qs rec js)) (m:=λs'=>s'.1.toNat)
  ⟨3+v4,k4,0,_,_,_,_,_,_,_,_,_,_,_,_,_,rfl,by omega,by omega,d4,hp,by simpa using hM,hO,N3,by simp,rfl⟩ (by unfold NN;dsimp only;omega) (by
   rintro _ ⟨c,k',q,cs,ls,ts,ck,rn,ins,d,os,us,ow,qs,rec,js,rfl,hc0,hcq,hd,hR⟩;unfold oB;dsimp only
   (with_reducible refine dF (λhca=>?_) λhca=>?_)
   ·refine (JV hd).bind ?_;rintro _ ⟨t,b,s,k5,rfl,t0,t1,b0,b1,hd5⟩;dsimp only;refine (Jc hR (by omega) (by omega) (by omega) ⟨by omega,by omega⟩ ⟨by omega,by omega⟩).bind ?_;rintro _ (⟨e,rfl,he⟩ | ⟨cs2,ls2,ts2,ck2,rn2,ins2,d2,os2,us2,ow2,qs2,rec2,js2,rfl,hR2⟩)
    ·dsimp only;rw[bne_iff_ne.2 he];exact Ok.ret (.inl ⟨_,_,_,q,_,_,_,_,_,_,_,_,_,_,_,_,_,_,_,_,_,_,_,_,_,_,_,_,_,_,_,_,_,_,_,rfl,by omega,hd5,hR⟩)
    ·dsimp only;rw[dP (x:=c - 1) (by omega) (by omega)];refine Ok.ret ⟨⟨_,_,q+1,_,_,_,_,_,_,_,_,_,_,_,_,_,rfl,by omega,by omega,hd5,?_⟩,by dsimp only;omega⟩;rw[show 64*((q+1:Nat):Int)=64*(q:Int)+64 by omega,show 12*(q+1)=12*q+12 by omega];exact hR2
   ·exact Ok.ret (.inr ⟨_,_,_,q,_,_,_,_,_,_,_,_,_,_,_,_,_,rfl,by omega,hd,hR⟩))
 rw[e];have fin:∀{q:Nat} {cs ls ts ck rn ins d os us ow qs rec js},q<=18->jB (64*q) (12*q) code ss dt bs cs ls ts ck rn ins d os us ow qs rec js->jB 1152 216 code ss dt bs cs ls ts ck rn ins d os us ow qs rec js:=λhq hR=>⟨hR.prog,hR.mach.mono (by omega),hR.outs,hR.lock,by have:=hR.rlen;omega,hR.jlen⟩;rcases hy with ⟨c,k',f,q,cs,ls,ts,ck,rn,ins,d,os,us,ow,qs,rec,js,z1,z2,z3,z4,z5,z6,z7,z8,z9,z10,z11,z12,z13,z14,z15,z16,z17,z18,rfl,hq,hd,hR⟩ | ⟨c,k',f,q,cs,ls,ts,ck,rn,ins,d,os,us,ow,qs,rec,js,rfl,hq,hd,hR⟩
 ·exact Ok.ret ⟨_,_,_,_,_,_,_,_,_,_,_,_,_,_,_,_,_,_,_,rfl,hkey,fin hq hR,hd⟩
 ·exact Ok.ret ⟨_,_,_,_,_,_,_,_,_,_,_,_,_,_,_,_,_,_,_,rfl,hkey,fin hq hR,hd⟩
def NU(bs ss:List Int) (key:Int) (cs:List DCe) (ls:List DLn) (r o:Nat):DCn:=rj bs ss key (Ef cs ls (bs.getD r 0+o))
def MV(bs ss:List Int) (key:Int) (cs:List DCe) (ls:List DLn) (r:Nat):List DCn:=(List.range (ss.getD r 0).toNat).map (NU bs ss key cs ls r)
def DQ(bs ss:List Int) (key:Int) (cs:List DCe) (ls:List DLn):List (List DCn):=(List.range ss.length).map (MV bs ss key cs ls)
def tH(bs ss:List Int) (key:Int) (t:DTh):DTs:=(t.1,t.2.2.1,t.2.2.2.1,t.2.2.2.2.1,t.2.2.2.2.2.1,t.2.2.2.2.2.2.1,t.2.2.2.2.2.2.2,t.2.1.map (rj bs ss key))
theorem LV.at_{bs ss:List Int}(h:LV bs ss) {r:Nat}(hr:r < ss.length):∃b z,bs[r]?=some b/\ss[r]?=some z/\1<=z/\z<=32/\0<=b/\b+z<=512:=by
 obtain⟨hs,hl,hg⟩:=h;obtain⟨b,hb⟩:∃b,bs[r]?=some b:=⟨_,oGE (by omega)⟩;obtain⟨z,hz⟩:∃z,ss[r]?=some z:=⟨_,oGE (by omega)⟩;have h1:=hg r (by omega);unfold nQ at h1;rw[dW hb,dW hz] at h1;have h2:=hs.2.2 z (dN hz);exact⟨b,z,hb,hz,h2.1,h2.2,h1.1,h1.2.1⟩
theorem GE{K:Int->Prop}{bs ss:List Int}{key:Int}{cs:List DCe}{ls:List DLn}(h:LV bs ss) (hm:i9 K cs ls):j6 cs ls bs key ss=some (DQ bs ss key cs ls,()):=by
 have hs4:=h.1.2.1
 have e0:∀(r:Nat) (b z:Int),bs[r]?=some b->ss[r]?=some z->1<=z->z<=32->0<=b->b+z<=512->∀(a1 a2 a3:_) (out:List (List DCn)),dR gn NN (ss,(r:Int),a1,a2,a3,z,0,cs,ls,bs,key,out,[],())=some (ss,(r:Int),a1,a2,a3,z,z,false,cs,ls,bs,key,out,MV bs ss key cs ls r,()):=by
  intro r b z hb hz z1 z32 b0 bz a1 a2 a3 out;obtain⟨n,rfl⟩:∃n:Nat,z=n:=⟨z.toNat,by omega⟩
  have e:MV bs ss key cs ls r=(List.range n).map (NU bs ss key cs ls r):=by unfold MV;rw[dW hz,oTN]
  rw[e];refine my (f:=gn) (N:=NN) (st:=λo=>(ss,(r:Int),a1,a2,a3,(n:Int),(o:Int),cs,ls,bs,key,out,(List.range o).map (NU bs ss key cs ls r),())) (n:=n) (by unfold NN;omega) ?_ ?_
  ·intro o ho;unfold gn;dsimp only;rw[oDT (show (o:Int) < n by omega),dK];simp only[oCT,oBS,show dI bs r=some b from hb];rw[dP (x:=b+o) (by omega) (by omega)];obtain⟨hlk,hlv⟩:=Ae (a:=b+o) hm ⟨by omega,by omega⟩;rw[hlk];simp only[oBS];rw[qT h hlv];simp only[oBS];refine dG (dS (by simp;omega)) ?_;rw[dP (x:=(o:Int)+1) (by omega) (by omega)];refine Ok.ret ?_;rw[<- nM];unfold NU;rw[dW hb];rfl
  ·unfold gn;dsimp only;rw[oDF (show ¬ (n:Int) < n by omega)];exact Ok.ret rfl
 have e1:dR gl NN (ss,ss,(ss.length:Int),0,cs,ls,bs,key,[],())=some (ss,ss,(ss.length:Int),(ss.length:Int),false,cs,ls,bs,key,DQ bs ss key cs ls,()):=by
  refine my (f:=gl) (N:=NN) (st:=λr=>(ss,ss,(ss.length:Int),(r:Int),cs,ls,bs,key,(List.range r).map (MV bs ss key cs ls),())) (n:=ss.length) (by unfold NN;omega) ?_ ?_
  ·intro r hr;obtain⟨b,z,hb,hz,z1,z32,b0,bz⟩:=h.at_ hr;unfold gl;dsimp only;rw[oDT (show (r:Int) < ss.length by omega),dK];simp only[oCT,oBS,show dI ss r=some z from hz];rw[e0 r b z hb hz z1 z32 b0 bz];simp only[oBS];refine dG (dS (by simp;omega)) ?_;rw[dP (x:=(r:Int)+1) (by omega) (by omega)];refine Ok.ret ?_;rw[<- nM];rfl
  ·unfold gl;dsimp only;rw[oDF (show ¬ (ss.length:Int) < ss.length by omega)];exact Ok.ret rfl
 unfold j6;delta dM
 try dsimp only
 rw[e1];rfl
theorem Km{n key:Int}{code:List DIn}{dt:List (List Int)}{bs ss:List Int}{cs:List DCe}{ls:List DLn}{ts:List DTh}(h:MOk n ss bs cs ls ts):lU code ss dt bs key cs ls ts=some (DQ bs ss key cs ls,ts.map (tH bs ss key),()):=by
 have h4:=h.tlen
 have e1:dR hZ NN (ts,(ts.length:Int),0,code,ss,dt,bs,key,cs,ls,ts,(),(),DQ bs ss key cs ls,[],())=some (ts,(ts.length:Int),(ts.length:Int),false,code,ss,dt,bs,key,cs,ls,ts,(),(),DQ bs ss key cs ls,ts.map (tH bs ss key),()):=by
  have:=my (f:=hZ) (N:=NN) (st:=λr=>(ts,(ts.length:Int),(r:Int),code,ss,dt,bs,key,cs,ls,ts,(),(),DQ bs ss key cs ls,(ts.take r).map (tH bs ss key),())) (n:=ts.length) (t:=(ts,(ts.length:Int),(ts.length:Int),false,code,ss,dt,bs,key,cs,ls,ts,(),(),DQ bs ss key cs ls,ts.map (tH bs ss key),())) (by unfold NN;omega) ?_ ?_
  ·exact this
  ·intro r hr;obtain⟨t,ht⟩:∃t,ts[r]?=some t:=⟨_,oGE (by omega)⟩;have hok:=h.thr t (dN ht);have h8:=hok.len;unfold hZ;delta dM;dsimp only;rw[oDT (show (r:Int) < ts.length by omega),dK];simp only[oCT,oBS,show dI ts r=some t from ht]
   have e0:∀(a1 a2 a3 a4 a5 a6 a7 a8 a9 a10 a11 a12 a13 a14:_),dR ia NN (ts,(ts.length:Int),(r:Int),t.2.1,(t.2.1.length:Int),0,code,ss,dt,bs,key,cs,ls,ts,(),(),DQ bs ss key cs ls,(ts.take r).map (tH bs ss key),a1,t.2.1,a2,a3,a4,a5,a6,a7,a8,a9,a10,a11,a12,a13,a14,[],()) =
    some (ts,(ts.length:Int),(r:Int),t.2.1,(t.2.1.length:Int),(t.2.1.length:Int),false,code,ss,dt,bs,key,cs,ls,ts,(),(),DQ bs ss key cs ls,(ts.take r).map (tH bs ss key),a1,t.2.1,a2,a3,a4,a5,a6,a7,a8,a9,a10,a11,a12,a13,a14,t.2.1.map (rj bs ss key),()):=by
    intro a1 a2 a3 a4 a5 a6 a7 a8 a9 a10 a11 a12 a13 a14
    have:=my (f:=ia) (N:=NN) (st:=λo=>(ts,(ts.length:Int),(r:Int),t.2.1,(t.2.1.length:Int),(o:Int),code,ss,dt,bs,key,cs,ls,ts,(),(),DQ bs ss key cs ls,(ts.take r).map (tH bs ss key),a1,t.2.1,a2,a3,a4,a5,a6,a7,a8,a9,a10,a11,a12,a13,a14,(t.2.1.take o).map (rj bs ss key),())) (n:=t.2.1.length)
     (t:=(ts,(ts.length:Int),(r:Int),t.2.1,(t.2.1.length:Int),(t.2.1.length:Int),false,code,ss,dt,bs,key,cs,ls,ts,(),(),DQ bs ss key cs ls,(ts.take r).map (tH bs ss key),a1,t.2.1,a2,a3,a4,a5,a6,a7,a8,a9,a10,a11,a12,a13,a14,t.2.1.map (rj bs ss key),())) (by unfold NN;omega) ?_ ?_
    ·exact this
    ·intro o ho;obtain⟨c,hc⟩:∃c,t.2.1[o]?=some c:=⟨_,oGE ho⟩;unfold ia;dsimp only;rw[oDT (show (o:Int) < t.2.1.length by omega),dK];simp only[oCT,oBS,show dI t.2.1 o=some c from hc];rw[qT h.lay (hok.regs c (dN hc))];simp only[oBS];refine dG (dS (by simp;omega)) ?_;rw[dP (x:=(o:Int)+1) (by omega) (by omega)];refine Ok.ret ?_;rw[<- fM (rj bs ss key) hc];rfl
    ·unfold ia;dsimp only;rw[oDF (show ¬ (t.2.1.length:Int) < t.2.1.length by omega),List.take_length];exact Ok.ret rfl
   rw[e0];simp only[oBS];refine dG (dS (by simp;omega)) ?_;rw[dP (x:=(r:Int)+1) (by omega) (by omega)];refine Ok.ret ?_;rw[<- fM (tH bs ss key) ht];rfl
  ·unfold hZ;dsimp only;rw[oDF (show ¬ (ts.length:Int) < ts.length by omega),List.take_length];exact Ok.ret rfl
 unfold lU;delta dM;simp only[GE h.lay h.mem,oBS];rw[e1];rfl
structure OY (n:Int) (ss:List Int) (v:DTs):Prop where
 state:0<=v.1/\v.1<=4
 pc:0<=v.2.1/\v.2.1<=255
 count:0<=v.2.2.1/\v.2.2.1<=n
 handler:-1<=v.2.2.2.1/\v.2.2.2.1<=255
 saved:-1<=v.2.2.2.2.1/\v.2.2.2.2.1<=255
 trap:0<=v.2.2.2.2.2.1/\v.2.2.2.2.2.1<=6
 code:W16 v.2.2.2.2.2.2.1
 len:v.2.2.2.2.2.2.2.length=8
 regs:∀c∈v.2.2.2.2.2.2.2,Pr ss c
structure BK (n:Int) (ss:List Int) (rg:List (List DCn)) (vs:List DTs):Prop where
 rlen:rg.length=ss.length
 fit:∀(j:Nat) x z,rg[j]?=some x->ss[j]?=some z->(x.length:Int)=z
 cells:∀x∈rg,∀c∈x,Pr ss c
 vlen:vs.length=4
 views:∀v∈vs,OY n ss v
theorem Kl{n key:Int}{bs ss:List Int}{cs:List DCe}{ls:List DLn}{ts:List DTh}(h:MOk n ss bs cs ls ts):BK n ss (DQ bs ss key cs ls) (ts.map (tH bs ss key)):=by
 refine⟨by unfold DQ;simp,λj x z hx hz=>?_,λx hx c hc=>?_,by rw[List.length_map];exact h.tlen,λv hv=>?_⟩
 ·unfold DQ at hx;rw[List.getElem?_map,List.getElem?_range (oGS hz).1] at hx
  injection hx with hx
  subst hx;have:=(h.lay.1.2.2 z (dN hz)).1;unfold MV;rw[List.length_map,List.length_range,dW hz];omega
 ·unfold DQ at hx;obtain⟨r,hr,rfl⟩:=List.mem_map.1 hx;have hr:=List.mem_range.1 hr;obtain⟨b,z,hb,hz,z1,z32,b0,bz⟩:=h.lay.at_ hr;unfold MV at hc;obtain⟨o,ho,rfl⟩:=List.mem_map.1 hc;have ho:=List.mem_range.1 ho;rw[dW hz] at ho;unfold NU;rw[dW hb];exact BF h.lay (Ae (a:=b+o) h.mem ⟨by omega,by omega⟩).2
 ·obtain⟨t,ht,rfl⟩:=List.mem_map.1 hv;have hok:=h.thr t ht;refine⟨hok.state,hok.pc,hok.count,hok.handler,hok.saved,hok.trap,hok.code,by unfold tH;dsimp only;rw[List.length_map];exact hok.len,λc hc=>?_⟩;unfold tH at hc;dsimp only at hc;obtain⟨c',hc',rfl⟩:=List.mem_map.1 hc;exact BF h.lay (hok.regs c' hc')
theorem HZ{l:List Int}(h:∀x∈l,1<=x/\x<=32):(l.length:Int)<=l.sum/\l.sum<=32*l.length:=by
 induction l with
 | nil=>simp
 | cons a l ih=>
  have h1:=h a (by simp);have h2:=ih λx hx=>h x (by simp[hx]);rw[List.sum_cons,oLC];omega
theorem Nk{l:List Int}{k:Nat}{x:Int}(h:l[k]?=some x):l.drop k=x :: l.drop (k+1):=by
 obtain⟨hk,rfl⟩:=oGS h;exact List.drop_eq_getElem_cons hk
theorem Ki{ss:List Int}(h:vN ss):l9 ss=some (ss.sum,()):=by
 have e:dR ie NN (0,ss,(ss.length:Int),0,())=some (ss.sum,ss,(ss.length:Int),(ss.length:Int),false,()):=by
  have:=my (f:=ie) (N:=NN) (st:=λk=>((ss.take k).sum,ss,(ss.length:Int),(k:Int),())) (n:=ss.length) (t:=(ss.sum,ss,(ss.length:Int),(ss.length:Int),false,())) (by unfold NN;have:=h.2.1;omega) ?_ ?_
  ·exact this
  ·intro k hk;obtain⟨x,hx⟩:∃x,ss[k]?=some x:=⟨_,oGE hk⟩;have hx2:=h.2.2 x (dN hx);have hb:=HZ (l:=ss.take k) λy hy=>h.2.2 y (List.mem_of_mem_take hy);have hl:=h.2.1;rw[oLT] at hb;unfold ie;dsimp only;rw[oDT (show (k:Int) < ss.length by omega),dK];simp only[oCT,oBS,show dI ss k=some x from hx];rw[dP (x:=(ss.take k).sum+x) (by omega) (by omega),dP (x:=(k:Int)+1) (by omega) (by omega)];refine Ok.ret ?_;rw[show ss.take (k+1)=ss.take k++[x] by rw[List.take_add_one,hx];rfl];simp
  ·unfold ie;dsimp only;rw[oDF (show ¬ (ss.length:Int) < ss.length by omega),List.take_length];exact Ok.ret rfl
 unfold l9;delta dM
 try dsimp only
 rw[e];rfl
theorem OX{ss:List Int}{i:Int}(h:vN ss) (h0:0<=i) (h1:i < ss.sum):Ok (qC ss i) λr=>∃rg o,r=(rg,o,0,())/\0<=rg/\∃n,ss[rg.toNat]?=some n/\0<=o/\o < n:=by
 have hl:=h.2.1;unfold qC;delta dM
 try dsimp only
 obtain⟨y,e,rg,o,rfl,hy⟩:=fS (f:=oz) (n:=NN) (s:=(i,ss,(ss.length:Int),0,0,0,())) (P:=λs'=>∃(k:Nat) (i':Int),s'=(i',ss,(ss.length:Int),(k:Int),0,0,())/\k<=ss.length/\0<=i'/\i' < (ss.drop k).sum/\i'<=1000)
  (R:=λy=>∃rg o,y=.inl (0,rg,o,())/\0<=rg/\∃n,ss[rg.toNat]?=some n/\0<=o/\o < n) (m:=λs'=>(s'.2.2.1 - s'.2.2.2.1).toNat) ⟨0,i,rfl,by omega,h0,h1,by have:=(HZ h.2.2).2;omega⟩ (by unfold NN;dsimp only;omega) (by
   rintro _ ⟨k,i',rfl,hk,i0,i1,i2⟩;unfold oz;dsimp only;by_cases hkl:k=ss.length
   ·subst hkl;rw[List.drop_length] at i1;simp at i1;omega
   obtain⟨x,hx⟩:∃x,ss[k]?=some x:=⟨_,oGE (by omega)⟩;have hx2:=h.2.2 x (dN hx);rw[Nk hx,List.sum_cons] at i1;rw[oDT (show (k:Int) < ss.length by omega),dK];simp only[oCT,oBS,show dI ss k=some x from hx];rw[oDT (show i'>=0 from i0)];by_cases hlt:i' < x
   ·rw[oDT hlt];exact Ok.ret ⟨_,_,rfl,by omega,x,by rw[oTN];exact hx,i0,hlt⟩
   ·rw[oDF hlt];simp only[oCT,oCF];rw[dP (x:=i' - x) (by omega) (by omega),dP (x:=(k:Int)+1) (by omega) (by omega)]
    exact Ok.ret ⟨⟨k+1,_,rfl,by omega,by omega,by omega,by omega⟩,by dsimp only;omega⟩)
 rw[e];exact Ok.ret ⟨rg,o,rfl,hy⟩
theorem F1{ss l:List Int}{k:Int}(hs:vN ss) (h:DOk l k):Ok (lA ss l k) λr=>∃t v rg o k',r=(t,v,rg,o,l,k',())/\Pr ss (t,v,rg,o)/\DOk l k':=by
 unfold lA
 (with_reducible refine fu (by assumption) (by omega) (by omega) (λv0 k0 a0 b0 d0=>?_);try dsimp only)
 rw[Ki hs];simp only[oBS];have hb:=HZ hs.2.2;have h1:=hs.1;have h4:=hs.2.1
 (with_reducible refine dF (λhca=>?_) λhca=>?_)
 ·(with_reducible refine fu (by assumption) (by omega) (by omega) (λv1 k1 a1 b1 d1=>?_);try dsimp only)
  refine (OX hs a1 b1).bind ?_;rintro _ ⟨rg,o,rfl,g1,n,g2,g3,g4⟩;exact Ok.ret ⟨_,_,_,_,_,rfl,.inr ⟨rfl,rfl,g1,n,g2,g3,g4⟩,d1⟩
 (with_reducible refine dF (λhcb=>?_) λhcb=>?_)
 ·(with_reducible refine fu (by assumption) (by omega) (by omega) (λv2 k2 a2 b2 d2=>?_);try dsimp only)
  exact Ok.ret ⟨_,_,_,_,_,rfl,LY (mC _),d2⟩
 ·(with_reducible refine Fb (by assumption) (λv3 k3 a3 b3 d3=>?_);try dsimp only)
  exact Ok.ret ⟨_,_,_,_,_,rfl,km ⟨by omega,by omega⟩,d3⟩
end Go.Proofs.YtbapcamohngjbaaGreat
