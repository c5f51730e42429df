/- Part of the proof; no condition. -/
import Derived.Test.YtakfoejcjdcgbaaGreatEd
import Derived.Test.YtakfoejcjdcgbaaGreatProg
import Derived.KernelRfl
import Derived.WalkKit
import Derived.WalkSpells
import Derived.Handy
import Derived.OpenShut
import Derived.Deep.Slices
set_option linter.unusedVariables false
set_option linter.unusedSimpArgs false
namespace Go.Proofs.YtakfoejcjdcgbaaGreat
open Go.RowKit
set_option maxRecDepth 100000
noncomputable section
abbrev KCn:CT:=(.pair (.int .u8) (.pair (.int .u16) (.pair I64 I64)))
abbrev dE:CT:=(.pair I64 (.pair I64 (.pair I64 (.pair I64 (.pair I64 (.pair I64 (.pair (.int .u16) (.row false KCn))))))))
abbrev nE:CT:=(.pair I64 (.pair I64 (.pair I64 (.pair I64 (.pair I64 (.pair I64 (.pair (.int .u16) (.row true KCn))))))))
abbrev b9:CT:=(.row false KCn)
abbrev RI:CT:=(.row false I64)
abbrev DCe:Type:=(Int×Int)
abbrev DCn:Type:=(Int×Int×Int×Int)
abbrev DTs:Type:=(Int×Int×Int×Int×Int×Int×Int×List DCn)
def HH(f i:Nat):List (Nat×Option Nat):=if f=77 then(if i=1000011 then[(11,some 1),(12,some 1)]else[])else if f=18 then(if i=0 then[(4,some 0)]else[])else if f=90 then(if i=0 then[(4,none)]else[])else if f=89 then(if i=0 then[(4,some 2),(4,some 10)]else[])else if f=30 then(if i=1000005 then[(6,none)]else if i=1000010 then[(6,none)]else[])else if f=20 then(if i=0 then[(6,some 4)]else[])else if f=53 then(if i=0 then[(4,some 2),(4,some 10)]else[])else if f=23 then(if i=0 then[(6,some 2),(6,some 3)]else[])else if f=5 then(if i=3000021 then[(11,some 2),(11,some 3),(11,some 4)]else if i=1 then[(11,some 2),(11,some 3)]else[])else[]
def HX:List Nat:=[7,87,85,54]
noncomputable def TT (f:FuncId):Option TFn:=if HX.contains f then none else kg Tryz.prog (HH f) f
theorem xe{f:FuncId}(h:HX.contains f=true):TT f=none:=oIP h
noncomputable def E0:Env:=⟨λf=>if f=14 then some (1,[.arg 0,.val (.int .i64 0)])else none,λf=>IL Tryz.prog f⟩
theorem tt_ok:tz Tryz.prog TT:=λf tf h=>vn HH (by kernel_rfl) f tf (by
 unfold TT at h
 split at h
 ·cases h
 ·exact h)
abbrev qE:Shs:=⟨[],[],[],([],[])⟩
abbrev qS(s:List (Nat×Sh))(c:List (Nat×List Sh)):Shs:=⟨s,c,[],([],[])⟩
abbrev N1:CT:=.nilr true
abbrev N0:CT:=.nilr false
abbrev CW:CT:=.int .u16
abbrev CB:CT:=.int .u8
abbrev uL(l:List CT):List Sh:=l.map fun c=>.d c ()
abbrev pP(t r:Nat):Nat×Sh:=(t,.ptr ⟨r,0,[]⟩ [0])
abbrev sP(t:Nat)(c:CT):Nat×Sh:=(t,.d c ())
abbrev Lk(n:Nat)(c:Ctr):Prop:=Lvl E0 TT GV n c
theorem aN{m:Nat}:yw E0 TT GV m []:=trivial
theorem aC{n m:Nat}{c:Ctr}{l:List Ctr}(h:Lk n c)(r:yw E0 TT GV m l)(hm:n≤m:=by decide):yw E0 TT GV m (c::l):=⟨h.mono hm,r⟩
abbrev lx(i n:Nat)(s:List (Nat×Sh))(c:List (Nat×List Sh))(b:Nat):ve:=⟨i,n,⟨s,c,[],([],[])⟩,[(.exit 0,⟨s++[(b,.d .bool ())],c,[],([],[])⟩)]⟩
abbrev LI:Type:=List Int
abbrev LDCe:Type:=List DCe
abbrev LDCn:Type:=List DCn
abbrev LDTs:Type:=List DTs
abbrev LLCn:Type:=List (List DCn)
abbrev T00:Type:=Int×Bool×Unit
abbrev T01:Type:=Int×Int×Unit
abbrev T02:Type:=LI×Int×Unit
abbrev T03:Type:=LLCn×LDTs×Unit
abbrev T04:Type:=Int×T00
abbrev T05:Type:=Int×Int×LDCe×Unit
abbrev T06:Type:=Int×T02
abbrev T07:Type:=LI×T01
abbrev T08:Type:=LLCn×LDTs×LI×Unit
abbrev T09:Type:=Int×Int×Bool×LDCe×Unit
abbrev T0a:Type:=Int×T08
abbrev T0b:Type:=LLCn×LDTs×T02
abbrev T0c:Type:=LLCn×LDTs×T03
abbrev T0d:Type:=LLCn×LDTs×Unit×Unit×Unit
abbrev T0e:Type:=Unit×Unit×T03
abbrev T0f:Type:=Unit×Unit×LLCn×Unit×Unit
abbrev T0g:Type:=Int×LI×T05
abbrev T0h:Type:=Int×T0c
abbrev T0i:Type:=Int×Int×T0d
abbrev T0j:Type:=LI×Int×T0e
abbrev T0k:Type:=LI×Int×T0f
abbrev T0l:Type:=LLCn×LDTs×T0e
abbrev T0m:Type:=LLCn×LDTs×T0f
abbrev T0n:Type:=Int×Int×Bool×T0d
abbrev T0o:Type:=Int×Int×LLCn×LDTs×LDCe×T01
abbrev T0p:Type:=Int×T0j
abbrev T0q:Type:=Int×T0k
abbrev T0r:Type:=Int×T0l
abbrev T0s:Type:=Int×T0m
abbrev T0t:Type:=LI×Int×Unit×Unit×LLCn×Unit×LDCn×Unit
abbrev T0u:Type:=Int×Bool×T0j
abbrev T0v:Type:=Int×Int×Int×Int×Int×Int×Int×LDCn×Unit
abbrev T0w:Type:=Int×Int×Int×T0g
abbrev T0x:Type:=Int×T0p
abbrev T0y:Type:=Int×T0u
abbrev T0z:Type:=Int×Int×T0t
abbrev T0A:Type:=Int×Int×Unit×Unit×Unit×T0a
abbrev T0B:Type:=LLCn×LDTs×Int×Int×LLCn×LDTs×LDCe×T06
abbrev T0C:Type:=Int×Int×Int×Int×T0A
abbrev T0D:Type:=Int×Int×Int×T0B
abbrev T0E:Type:=Int×Int×Int×Bool×T0B
abbrev T0F:Type:=LLCn×LDTs×LDCe×(List (Int×Int×LDCn×Int×Int×Int×Int×Int×Int×Int×LDCn))×Unit
abbrev T0G:Type:=Int×Int×T0F
abbrev T0H:Type:=LI×Int×Int×Int×Int×Int×Int×Int×Int×Unit×T0v
abbrev T0I:Type:=LLCn×LDTs×Int×Int×Unit×Unit×Unit×Int×Int×Int×LLCn×LDTs×LDCe×Int×LDCe×LDCe×T03
abbrev T0J:Type:=Int×T0H
abbrev T0K:Type:=Int×Int×Int×T0I
abbrev T0L:Type:=Int×Int×Int×Bool×T0I
abbrev T0M:Type:=(List (Int×Int×LDCn×Int×Int×Int×Int×Int×Int×Int×LDCn))×(List (Int×Int×LDCn×Int×Int×Int×Int×Int×Int×Int×LDCn))×LDCe×Unit
abbrev T0N:Type:=Int×Int×T0M
noncomputable abbrev ap1{A0 D R:Type}(f:A0→R)(h:A0×D):R:=f h.1
noncomputable abbrev ap2{A0 A1 D R:Type}(f:A0→A1→R)(h:A0×A1×D):R:=f h.1 h.2.1
noncomputable abbrev ap3{A0 A1 A2 D R:Type}(f:A0→A1→A2→R)(h:A0×A1×A2×D):R:=f h.1 h.2.1 h.2.2.1
noncomputable abbrev ap4{A0 A1 A2 A3 D R:Type}(f:A0→A1→A2→A3→R)(h:A0×A1×A2×A3×D):R:=f h.1 h.2.1 h.2.2.1 h.2.2.2.1
noncomputable abbrev ap5{A0 A1 A2 A3 A4 D R:Type}(f:A0→A1→A2→A3→A4→R)(h:A0×A1×A2×A3×A4×D):R:=f h.1 h.2.1 h.2.2.1 h.2.2.2.1 h.2.2.2.2.1
noncomputable abbrev ap6{A0 A1 A2 A3 A4 A5 D R:Type}(f:A0→A1→A2→A3→A4→A5→R)(h:A0×A1×A2×A3×A4×A5×D):R:=f h.1 h.2.1 h.2.2.1 h.2.2.2.1 h.2.2.2.2.1 h.2.2.2.2.2.1
noncomputable abbrev ap8{A0 A1 A2 A3 A4 A5 A6 A7 D R:Type}(f:A0→A1→A2→A3→A4→A5→A6→A7→R)(h:A0×A1×A2×A3×A4×A5×A6×A7×D):R:=f h.1 h.2.1 h.2.2.1 h.2.2.2.1 h.2.2.2.2.1 h.2.2.2.2.2.1 h.2.2.2.2.2.2.1 h.2.2.2.2.2.2.2.1
noncomputable abbrev ap9{A0 A1 A2 A3 A4 A5 A6 A7 A8 D R:Type}(f:A0→A1→A2→A3→A4→A5→A6→A7→A8→R)(h:A0×A1×A2×A3×A4×A5×A6×A7×A8×D):R:=f h.1 h.2.1 h.2.2.1 h.2.2.2.1 h.2.2.2.2.1 h.2.2.2.2.2.1 h.2.2.2.2.2.2.1 h.2.2.2.2.2.2.2.1 h.2.2.2.2.2.2.2.2.1
noncomputable abbrev ap10{A0 A1 A2 A3 A4 A5 A6 A7 A8 A9 D R:Type}(f:A0→A1→A2→A3→A4→A5→A6→A7→A8→A9→R)(h:A0×A1×A2×A3×A4×A5×A6×A7×A8×A9×D):R:=f h.1 h.2.1 h.2.2.1 h.2.2.2.1 h.2.2.2.2.1 h.2.2.2.2.2.1 h.2.2.2.2.2.2.1 h.2.2.2.2.2.2.2.1 h.2.2.2.2.2.2.2.2.1 h.2.2.2.2.2.2.2.2.2.1
noncomputable abbrev ap13{A0 A1 A2 A3 A4 A5 A6 A7 A8 A9 A10 A11 A12 D R:Type}(f:A0→A1→A2→A3→A4→A5→A6→A7→A8→A9→A10→A11→A12→R)(h:A0×A1×A2×A3×A4×A5×A6×A7×A8×A9×A10×A11×A12×D):R:=f h.1 h.2.1 h.2.2.1 h.2.2.2.1 h.2.2.2.2.1 h.2.2.2.2.2.1 h.2.2.2.2.2.2.1 h.2.2.2.2.2.2.2.1 h.2.2.2.2.2.2.2.2.1 h.2.2.2.2.2.2.2.2.2.1 h.2.2.2.2.2.2.2.2.2.2.1 h.2.2.2.2.2.2.2.2.2.2.2.1 h.2.2.2.2.2.2.2.2.2.2.2.2.1
noncomputable abbrev ap16{A0 A1 A2 A3 A4 A5 A6 A7 A8 A9 A10 A11 A12 A13 A14 A15 D R:Type}(f:A0→A1→A2→A3→A4→A5→A6→A7→A8→A9→A10→A11→A12→A13→A14→A15→R)(h:A0×A1×A2×A3×A4×A5×A6×A7×A8×A9×A10×A11×A12×A13×A14×A15×D):R:=f h.1 h.2.1 h.2.2.1 h.2.2.2.1 h.2.2.2.2.1 h.2.2.2.2.2.1 h.2.2.2.2.2.2.1 h.2.2.2.2.2.2.2.1 h.2.2.2.2.2.2.2.2.1 h.2.2.2.2.2.2.2.2.2.1 h.2.2.2.2.2.2.2.2.2.2.1 h.2.2.2.2.2.2.2.2.2.2.2.1 h.2.2.2.2.2.2.2.2.2.2.2.2.1 h.2.2.2.2.2.2.2.2.2.2.2.2.2.1 h.2.2.2.2.2.2.2.2.2.2.2.2.2.2.1 h.2.2.2.2.2.2.2.2.2.2.2.2.2.2.2.1
noncomputable abbrev ap22{A0 A1 A2 A3 A4 A5 A6 A7 A8 A9 A10 A11 A12 A13 A14 A15 A16 A17 A18 A19 A20 A21 D R:Type}(f:A0→A1→A2→A3→A4→A5→A6→A7→A8→A9→A10→A11→A12→A13→A14→A15→A16→A17→A18→A19→A20→A21→R)(h:A0×A1×A2×A3×A4×A5×A6×A7×A8×A9×A10×A11×A12×A13×A14×A15×A16×A17×A18×A19×A20×A21×D):R:=f h.1 h.2.1 h.2.2.1 h.2.2.2.1 h.2.2.2.2.1 h.2.2.2.2.2.1 h.2.2.2.2.2.2.1 h.2.2.2.2.2.2.2.1 h.2.2.2.2.2.2.2.2.1 h.2.2.2.2.2.2.2.2.2.1 h.2.2.2.2.2.2.2.2.2.2.1 h.2.2.2.2.2.2.2.2.2.2.2.1 h.2.2.2.2.2.2.2.2.2.2.2.2.1 h.2.2.2.2.2.2.2.2.2.2.2.2.2.1 h.2.2.2.2.2.2.2.2.2.2.2.2.2.2.1 h.2.2.2.2.2.2.2.2.2.2.2.2.2.2.2.1 h.2.2.2.2.2.2.2.2.2.2.2.2.2.2.2.2.1 h.2.2.2.2.2.2.2.2.2.2.2.2.2.2.2.2.2.1 h.2.2.2.2.2.2.2.2.2.2.2.2.2.2.2.2.2.2.1 h.2.2.2.2.2.2.2.2.2.2.2.2.2.2.2.2.2.2.2.1 h.2.2.2.2.2.2.2.2.2.2.2.2.2.2.2.2.2.2.2.2.1 h.2.2.2.2.2.2.2.2.2.2.2.2.2.2.2.2.2.2.2.2.2.1
theorem ls{n:Nat}(C:X.Cfg)(hT:yw E0 TT GV n C.TB){c:Ctr}(hE:C.E=E0:=by rfl)(h1:(TT c.f).isSome=true:=by kernel_rfl)(hg:∀h,X.runT aZ C () ((TT c.f).getD Je) c.outs (ek c.ins _ h).1 (mu c.pts [] (ek c.ins _ h).2).1=c.g h:=by intro h;kernel_rfl):Lk (n+1) c:=bh (n:=n) (C:=C) hE hT (bj h1) hg
abbrev yaa(t:Nat):Nat×Sh:=sP t I64
abbrev zaa(t:Nat):Nat×Sh:=sP t .bool
abbrev Uaa(t r:Nat):Nat×Sh:=(t,.pk ⟨r,0,[]⟩ [0,0])
abbrev Xp(t:CT):CT:=.row true t
abbrev Xq(t:CT):CT:=.row false t
abbrev uaa(t:Nat):Nat×Sh:=pP t (2*t+2)
abbrev Xaa:List Sh:=uL [(Xq b9),(Xq dE)]
abbrev Zaa:List Sh:=uL [RI,I64]
abbrev uab:List Sh:=uL [.bool]
abbrev yab:List Sh:=uL [N1,N1]
abbrev zab:List Sh:=uL [(Xp (.pair I64 I64))]
abbrev Uab:List Sh:=uL [(Xp (Xp KCn)),(Xp nE)]
abbrev Xab:List Sh:=uL [I64]
abbrev Zab:List Sh:=uL [I64,I64]
abbrev uac:List Sh:=uL [I64,I64,(Xq b9),(Xq dE),(Xp (.pair I64 I64)),I64]
abbrev yac:List Sh:=uL [I64,I64,N1,N1,N1,I64]
abbrev zac:List Sh:=uL [I64,I64,(Xq b9),(Xq dE),(Xq (.pair I64 I64)),I64]
abbrev Uac:List Sh:=uL [I64,I64,I64,I64,I64,I64,CW,(Xp KCn)]
abbrev Xac:List Sh:=uL [(Xp (Xp KCn)),N1]
abbrev Zac:List Sh:=uL [I64,I64,I64,I64,I64,I64,CW,b9]
abbrev uad:List Sh:=uL [I64,I64,b9,I64,I64,I64,I64,I64,I64,CW,b9]
abbrev yad:List Sh:=uL [(Xp b9),(Xp dE)]
abbrev zad:List Sh:=uL [(Xq (.pair I64 I64))]
abbrev Uad:List Sh:=uL [(Xp KCn)]
abbrev Xad:List Sh:=uL [(Xp I64)]
abbrev Zad:List Sh:=uL [(Xq b9),(Xp nE)]
abbrev uae:List Sh:=uL [(Xp (.pair I64 I64)),I64]
def oz(a0:List (Int)):Option (Bool×Unit):=
let x0:=bq a0.length;
some ((decide (x0<=400)),())
def D5:X.Cfg:=⟨E0,[],[],[]⟩
def yo:Ctr:=⟨13,0,uL [RI],[],[⟨uab,[.one],[]⟩],ap1 oz⟩
theorem DW:Lvl E0 TT libBj 1 yo:=bh (n:=0) (C:=D5) rfl (.intro) (bj (by kernel_rfl)) (λh=>by kernel_rfl)
def mK:Ctr:=⟨7,1,[],[],[⟨uab,[.one],[]⟩],λh=>bU⟩
theorem sx:Lvl E0 TT libBj 1 mK:=(sk (xe rfl) oe).mono (by decide)
def lw(a0:Int)(a1:Int):Option (Int×Unit):=
bif(a1 != 0)then let x0:Int:=(Int.tmod a0 a1);
(bif(decide (x0<0))then(let x1:Int:=(w64 (x0+a1));
some (x1,()))else
some (x0,()):Option (Int×Unit)).bind λ(x1,_)=>
some (x1,())else none
def we:X.Cfg:=⟨E0,[],[],[⟨2,0,qE,[(.normal,qS [yaa 5] [])]⟩]⟩
def p6:Ctr:=⟨47,2,Zab,[],[⟨Xab,[.one],[]⟩],ap2 lw⟩
theorem vU:Lvl E0 TT libBj 1 p6:=bh (n:=0) (C:=we) rfl (.intro) (bj (by kernel_rfl)) (λh=>by kernel_rfl)
def oy(a0:Int)(a1:Int):Option (Int×Unit):=
(lw a0 a1).bind λ(x0,_)=>
some (x0,())
def D4:X.Cfg:=⟨E0,[p6],[],[]⟩
def yn:Ctr:=⟨19,3,Zab,[],[⟨Xab,[.one],[]⟩],ap2 oy⟩
theorem DV:Lvl E0 TT libBj 2 yn:=bh (n:=1) (C:=D4) rfl (.intro (vU.mono (by decide)) (.intro)) (bj (by kernel_rfl)) (λh=>by kernel_rfl)
def bn(a0:Int)(a1:List (Int))(a2:Int):Option (T06):=
let x0:=bq a1.length;
bif(decide (a2>=x0))then(some (0,a1,a2,()))else
let x1:=w64 (a2+1);
let x2:=w64 (x1-1);
(eQ x2).bind λx3=>
(dz a1 x3).bind λx4=>
(oy x4 a0).bind λ(x5,_)=>
some (x5,a1,x1,())
def wj:X.Cfg:=⟨E0,[yn],[],[]⟩
def eH:Ctr:=⟨16,4,[.ptr ⟨2,0,[]⟩ [0],shU I64],[(2,Zaa)],[⟨Xab,[.one],[(2,Zaa)]⟩],ap3 bn⟩
theorem fJ:Lvl E0 TT libBj 3 eH:=bh (n:=2) (C:=wj) rfl (.intro (DV.mono (by decide)) (.intro)) (bj (by kernel_rfl)) (λh=>by kernel_rfl)
def dP(a0:List (Int))(a1:Int):Option (Int×Int×Int×T06):=
(bn 5 a0 a1).bind λ(x0,x1,x2,_)=>
bif(x0==4)then((bn 3 x1 x2).bind λ(x3,x4,x5,_)=>
(bn 8 x4 x5).bind λ(x6,x7)=>
some (1,0,x3,x6,x7))else
(bn 40 x1 x2).bind λ(x3,x4,x5,_)=>
let x6:=wk .u16 x3;
some (0,x6,0,0,x4,x5,())
def uo:X.Cfg:=⟨E0,[eH],[],[]⟩
def iq:Ctr:=⟨45,5,[.ptr ⟨2,0,[]⟩ [0]],[(2,Zaa)],[⟨uL [CB,CW,I64,I64],[.agg 4],[(2,Zaa)]⟩],ap2 dP⟩
theorem jV:Lvl E0 TT libBj 4 iq:=bh (n:=3) (C:=uo) rfl (.intro (fJ.mono (by decide)) (.intro)) (bj (by kernel_rfl)) (λh=>by kernel_rfl)
def c9:T0J->Option (T0J⊕(Int×Bool×T0H)):=λ(v0,v1,v2,v3,v4,v5,v6,v7,v8,v9,v10,v11,v12,v13,v14,v15,v16,v17,v18,_)=>
bif(decide (v0<8))then((dP v1 v2).bind λ(x0,x1,x2,x3,x4,x5,_)=>
let x6:LDCn:=[(x0,(x1,(x2,x3)))];
bif(cB 24 v18.length x6.length)then let x7:LDCn:=(List.append v18 x6);
let x8:=w64 (v0+1);
some (.inl (x8,x4,x5,v3,v4,v5,v6,v7,v8,v9,v10,v11,v12,v13,v14,v15,v16,v17,x7,()))else none)else
some (.inr (v0,false,v1,v2,v3,v4,v5,v6,v7,v8,v9,v10,v11,v12,v13,v14,v15,v16,v17,v18,()))
def fV(a0:List (Int))(a1:Int):Option (Int×Int×Int×Int×Int×Int×Int×LDCn×T02):=
(bn 5 a0 a1).bind λ(x0,x1,x2,_)=>
(bn 20 x1 x2).bind λ(x3,x4,x5,_)=>
(bn 30 x4 x5).bind λ(x6,x7,x8,_)=>
(bn 4 x7 x8).bind λ(x9,ac,ae,_)=>
let af:=w64 (x9-1);
(bn 4 ac ae).bind λ(ah,aj,ak,_)=>
let am:=w64 (ah-1);
(bn 7 aj ak).bind λ(an,ap,aq,_)=>
(bn 9 ap aq).bind λ(au,av,aw,_)=>
let ax:=wk .u16 au;
(bE c9 NN (0,av,aw,0,0,0,0,0,0,0,(),x0,x3,x6,af,am,an,ax,[],())).bind λ(ay,az,aA,aB,aD,aE,aF,aG,aH,aI,aJ,aK,aL,aM,aO,aP,aQ,aR,aS,aT,_)=>
some (aL,aM,aO,aP,aQ,aR,aS,aT,aA,aB,())
def up:X.Cfg:=⟨E0,[eH,iq],[],[(lx 4 0 [uaa 0,uaa 2,uaa 3,yaa 4] [(2,Zaa),(6,uL [I64,I64,I64,I64,I64,I64,CW,N1]),(8,Uac)] 24)]⟩
def kj:Ctr:=⟨46,6,[.ptr ⟨2,0,[]⟩ [0]],[(2,Zaa)],[⟨Uac,[.agg 8],[(2,Zaa)]⟩],ap2 fV⟩
theorem nN:Lvl E0 TT libBj 5 kj:=bh (n:=4) (C:=up) rfl (.intro (fJ.mono (by decide)) (.intro (jV.mono (by decide)) (.intro))) (bj (by kernel_rfl)) (λh=>by kernel_rfl)
def ew:T0z->Option (T0z⊕(Int×Int×Bool×T0t)):=λ(v0,v1,v2,v3,v4,v5,v6,v7,v8,_)=>
bif(decide (v1>=0))then((dP v2 v3).bind λ(x0,x1,x2,x3,x4,x5,_)=>
let x6:LDCn:=[(x0,(x1,(x2,x3)))];
bif(cB 24 v8.length x6.length)then let x7:LDCn:=(List.append v8 x6);
let x8:=w64 (v1-1);
some (.inl (v0,x8,x4,x5,v4,v5,v6,v7,x7,()))else none)else
some (.inr (v0,v1,false,v2,v3,v4,v5,v6,v7,v8,()))
def eu:T0q->Option (T0q⊕(Int×Bool×T0k)):=λ(v0,v1,v2,v3,v4,v5,v6,_)=>
bif(decide (v0>=0))then((bn 24 v1 v2).bind λ(x0,x1,x2,_)=>
(bE ew NN (v0,x0,x1,x2,v3,v4,v5,v6,[],())).bind λ(x3,x4,x5,x6,x7,x8,x9,ac,ae,af,_)=>
bif(cB 24 ac.length (List.length [af]))then let ah:List LDCn:=(List.append ac [af]);
let aj:=w64 (x3-1);
some (.inl (aj,x6,x7,x8,x9,ah,ae,()))else none)else
some (.inr (v0,false,v1,v2,v3,v4,v5,v6,()))
def eo:T0p->Option (T0p⊕T0u):=λ(v0,v1,v2,v3,v4,v5,v6,_)=>
bif(decide (v0>0))then((fV v1 v2).bind λ(x0,x1,x2,x3,x4,x5,x6,x7,x8,x9,_)=>
let ac:LDTs:=[(x0,(x1,(x2,(x3,(x4,(x5,(x6,x7)))))))];
bif(cB 80 v6.length ac.length)then let ae:LDTs:=(List.append v6 ac);
let af:=w64 (v0-1);
some (.inl (af,x8,x9,v3,v4,v5,ae,()))else none)else
some (.inr (v0,false,v1,v2,v3,v4,v5,v6,()))
def gt(a0:List (Int))(a1:Int):Option (T0b):=
(bn 3 a0 a1).bind λ(x0,x1,x2,_)=>
(bE eu NN (x0,x1,x2,(),(),[],(),())).bind λ(x3,x4,x5,x6,x7,x8,x9,ac,_)=>
(bn 4 x5 x6).bind λ(ae,af,ah,_)=>
(bE eo NN (ae,af,ah,x7,x8,x9,[],())).bind λ(aj,ak,am,an,ap,aq,au,av,_)=>
some (au,av,am,an,())
def sI:X.Cfg:=⟨E0,[eH,iq,kj],[(28,(Xp KCn)),(29,(Xp KCn)),(41,nE),(42,nE)],[⟨11,0,qS [uaa 0,uaa 2,uaa 3,yaa 4,Uaa 5 13,yaa 6] [(2,Zaa),(6,yab),(8,Xac),(13,Uad)],[(.exit 2,qS [uaa 0,uaa 2,uaa 3,yaa 4,Uaa 5 13,yaa 6,zaa 17] [(2,Zaa),(6,yab),(8,Xac),(13,Uad)])]⟩,(lx 4 1 [uaa 0,uaa 2,uaa 3,yaa 4] [(2,Zaa),(6,yab),(8,Xac)] 11),⟨17,2,qS [uaa 0,uaa 2,uaa 3,yaa 7] [(2,Zaa),(6,yab),(8,Uab)],[(.exit 4,qS [uaa 0,uaa 2,uaa 3,yaa 7,zaa 34] [(2,Zaa),(6,yab),(8,Uab)])]⟩]⟩
def mG:Ctr:=⟨15,7,[.ptr ⟨2,0,[]⟩ [0]],[(2,Zaa)],[⟨Uab,[.agg 2],[(2,Zaa)]⟩],ap2 gt⟩
theorem sq:Lvl E0 TT libBj 6 mG:=bh (n:=5) (C:=sI) rfl (.intro (fJ.mono (by decide)) (.intro (jV.mono (by decide)) (.intro (nN.mono (by decide)) (.intro)))) (bj (by kernel_rfl)) (λh=>by kernel_rfl)
def fN(a0:Int)(a1:Int)(a2:Int)(a3:Int)(a4:Int)(a5:Int)(a6:Int)(a7:LDCn):Option (T0v):=
bif(cB 24 0 a7.length)then let x0:LDCn:=(List.append [] a7);
some (a0,a1,a2,a3,a4,a5,a6,x0,())else none
def qG:X.Cfg:=⟨E0,[],[],[]⟩
def lj:Ctr:=⟨55,8,[.agg Zac],[],[⟨Uac,[.agg 8],[]⟩],ap8 fN⟩
theorem qx:Lvl E0 TT libBj 1 lj:=bh (n:=0) (C:=qG) rfl (.intro) (bj (by kernel_rfl)) (λh=>by kernel_rfl)
def cE:T0s->Option (T0s⊕(Int×Bool×T0m)):=λ(v0,v1,v2,v3,v4,v5,v6,_)=>
let x0:=bq v1.length;
bif(decide (v0<x0))then((eQ v0).bind λx1=>
(dz v1 x1).bind λx2=>
bif(cB 24 0 x2.length)then let x3:LDCn:=(List.append [] x2);
bif(cB 24 v5.length (List.length [x3]))then let x4:List LDCn:=(List.append v5 [x3]);
let x5:=w64 (v0+1);
some (.inl (x5,v1,v2,v3,v4,x4,v6,()))else none else none)else
some (.inr (v0,false,v1,v2,v3,v4,v5,v6,()))
def cD:T0r->Option (T0r⊕(Int×Bool×T0l)):=λ(v0,v1,v2,v3,v4,v5,v6,_)=>
let x0:=bq v2.length;
bif(decide (v0<x0))then((eQ v0).bind λx1=>
(dz v2 x1).bind λx2=>
(fN x2.1 x2.2.1 x2.2.2.1 x2.2.2.2.1 x2.2.2.2.2.1 x2.2.2.2.2.2.1 x2.2.2.2.2.2.2.1 x2.2.2.2.2.2.2.2).bind λ(x3,x4,x5,x6,x7,x8,x9,ac,_)=>
let ae:LDTs:=[(x3,(x4,(x5,(x6,(x7,(x8,(x9,ac)))))))];
bif(cB 80 v6.length ae.length)then let af:LDTs:=(List.append v6 ae);
let ah:=w64 (v0+1);
some (.inl (ah,v1,v2,v3,v4,v5,af,()))else none)else
some (.inr (v0,false,v1,v2,v3,v4,v5,v6,()))
def fX(a0:List LDCn)(a1:LDTs):Option (T03):=
(bE cE NN (0,a0,a1,(),(),[],(),())).bind λ(x0,x1,x2,x3,x4,x5,x6,x7,_)=>
(bE cD NN (0,x2,x3,x4,x5,x6,[],())).bind λ(x8,x9,ac,ae,af,ah,aj)=>
some (aj)
def ut:X.Cfg:=⟨E0,[lj],[(22,(Xp KCn)),(23,(Xp KCn)),(40,nE),(41,nE)],[(lx 4 0 [uaa 1,uaa 2,uaa 3,yaa 4] [(4,Xaa),(6,yab),(8,Xac)] 10),⟨10,1,qS [uaa 1,uaa 2,uaa 3,yaa 5] [(4,Xaa),(6,yab),(8,Uab)],[(.exit 2,qS [uaa 1,uaa 2,uaa 3,yaa 5,zaa 29] [(4,Xaa),(6,yab),(8,Uab)])]⟩]⟩
def km:Ctr:=⟨25,9,[.agg Xaa],[],[⟨Uab,[.agg 2],[]⟩],ap2 fX⟩
theorem nO:Lvl E0 TT libBj 2 km:=bh (n:=1) (C:=ut) rfl (.intro (qx.mono (by decide)) (.intro)) (bj (by kernel_rfl)) (λh=>by kernel_rfl)
def gI:T0x->Option (T0x⊕T0y):=λ(v0,v1,v2,v3,v4,v5,v6,v7,_)=>
bif(decide (v1<v0))then(((match(let x0:Int:=(bq v7.length);
bif(decide (x0>0))then((bn 3 v2 v3).bind λ(x1,x2,x3,_)=>
bif(x1==2)then(let x4:Int:=(bq v7.length);
(bn x4 x2 x3).bind λ(x5,x6,x7,_)=>
(fV x6 x7).bind λ(x8,x9,ac,ae,af,ah,aj,ak,am,an,_)=>
(eQ x5).bind λap=>
(dz v7 ap).bind λaq=>
(dz v7 ap).bind λau=>
let av:=(List.modify v7 ap λe=>(x8,(x9,(ac,(ae,(af,(ah,(aj,ak))))))));
some (.inl (v0,v1,am,an,v4,v5,v6,av,())))else
some (.inr (v0,v1,false,x2,x3,v4,v5,v6,v7,())))else
some (.inr (v0,v1,false,v2,v3,v4,v5,v6,v7,())):Option (T0x⊕T0y))with
|none=>none
|some (.inl (x0,x1,x2,x3,x4,x5,x6,x7,_))=>
some (x0,x1,x2,x3,x4,x5,x6,x7,())
|some (.inr (x0,x1,x2,x3,x4,x5,x6,x7,x8,_))=>
let x9:=bq x7.length;
(bn x9 x3 x4).bind λ(ac,ae,af,_)=>
(eQ ac).bind λah=>
(dz x7 ah).bind λaj=>
(dz x7 ah).bind λak=>
(eQ ac).bind λam=>
(dz x7 am).bind λan=>
(dz x7 am).bind λap=>
(dz x7 am).bind λaq=>
let au:=bq aq.length;
(bn au ae af).bind λ(av,aw,ax,_)=>
(dP aw ax).bind λ(ay,az,aA,aB,aD,aE,_)=>
(eQ av).bind λaF=>
(dz x7 ah).bind λaG=>
(dz aG aF).bind λaH=>
(dz x7 ah).bind λaI=>
(dz aI aF).bind λaJ=>
let aK:=(List.modify x7 ah λe=>(List.modify e aF λe=>(ay,(az,(aA,aB)))));
some (x0,x1,aD,aE,x5,x6,aK,x8,())):Option (T0x)).bind λ(x0,x1,x2,x3,x4,x5,x6,x7,_)=>
let x8:=w64 (x1+1);
some (.inl (x0,x8,x2,x3,x4,x5,x6,x7,())))else
some (.inr (v0,v1,false,v2,v3,v4,v5,v6,v7,()))
def fW(a0:List LDCn)(a1:LDTs)(a2:Int)(a3:List (Int))(a4:Int):Option (T0b):=
(fX a0 a1).bind λ(x0,x1,_)=>
(bE gI NN (a2,0,a3,a4,(),(),x0,x1,())).bind λ(x2,x3,x4,x5,x6,x7,x8,x9,ac,_)=>
some (x9,ac,x5,x6,())
def uq:X.Cfg:=⟨E0,[km,eH,kj,iq],[],[⟨8,0,qE,[(.exit 1,qS [uaa 0,yaa 2,uaa 6,uaa 7,yaa 8] [(2,Zaa),(14,yab),(16,Uab)]),(.normal,qS [uaa 0,yaa 2,uaa 6,uaa 7,yaa 8,zaa 25] [(2,Zaa),(14,yab),(16,Uab)])]⟩,⟨7,1,qE,[(.normal,qS [uaa 0,yaa 2,uaa 6,uaa 7,yaa 8] [(2,Zaa),(14,yab),(16,Uab)])]⟩,(lx 4 2 [uaa 0,yaa 2,uaa 6,uaa 7,yaa 8] [(2,Zaa),(14,yab),(16,Uab)] 14)]⟩
def nX:Ctr:=⟨17,10,[.ptr ⟨2,0,[]⟩ [0],.agg Xaa,shU I64],[(2,Zaa)],[⟨Uab,[.agg 2],[(2,Zaa)]⟩],ap5 fW⟩
theorem uf:Lvl E0 TT libBj 6 nX:=bh (n:=5) (C:=uq) rfl (.intro (nO.mono (by decide)) (.intro (fJ.mono (by decide)) (.intro (nN.mono (by decide)) (.intro (jV.mono (by decide)) (.intro))))) (bj (by kernel_rfl)) (λh=>by kernel_rfl)
def jc(a0:List LDCn)(a1:LDTs)(a2:List (Int))(a3:Int):Option (T0b):=
(fX a0 a1).bind λ(x0,x1,_)=>
(match((bn 4 a2 a3).bind λ(x2,x3,x4,_)=>
bif(x2==0)then(bif(cB 24 x0.length (List.length [([]:List Unit)]))then let x5:List LDCn:=(List.append x0 [[]]);
some (.inl (x3,x4,(),(),x5,x1,()))else none)else
bif(x2==1)then((dz x0 0).bind λx5=>
(dz x0 0).bind λx6=>
(bn 40 x3 x4).bind λ(x7,x8,x9,_)=>
(eQ x7).bind λac=>
(dz x0 0).bind λae=>
bif(cB 24 ae.length (List.length (List.replicate ac ((0,(0,(0,0))):Int×Int×Int×Int))))then let af:LDCn:=(List.append ae (List.replicate ac (0,(0,(0,0)))));
(dz x0 0).bind λah=>
(dz x0 0).bind λaj=>
let ak:=List.modify x0 0 λe=>af;
some (.inl (x8,x9,(),(),ak,x1,()))else none)else
bif(x2==2)then(let x5:LDTs:=[(0,(0,(0,(0,(0,(0,(0,[])))))))];
bif(cB 80 x1.length x5.length)then let x6:LDTs:=(List.append x1 x5);
some (.inl (x3,x4,(),(),x0,x6,()))else none)else
bif(iK 1 x0.length x0.length)then let x5:List LDCn:=(Aa x0 1 (Nat.sub x0.length 1));
some (.inr (x3,x4,(),(),x5,x1,()))else none:Option (T0j⊕T0j))with
|none=>none
|some (.inl (x2,x3,x4,x5,x6,x7,_))=>
some (x6,x7,x2,x3,())
|some (.inr (x2,x3,x4,x5,x6,x7,_))=>
some (x6,x7,x2,x3,()))
def wd:X.Cfg:=⟨E0,[km,eH],[(18,(Xp KCn)),(19,(Xp KCn)),(38,nE),(39,nE)],[⟨2,0,qE,[(.normal,qS [uaa 0,uaa 4,uaa 5] [(2,Zaa),(10,yab),(12,Uab)]),(.normal,qS [uaa 0,uaa 4,uaa 5] [(2,Zaa),(10,yab),(12,Zad)])]⟩]⟩
def p5:Ctr:=⟨18,11,[.ptr ⟨2,0,[]⟩ [0],.agg Xaa],[(2,Zaa)],[⟨Zad,[.agg 2],[(2,Zaa)]⟩],ap4 jc⟩
theorem vT:Lvl E0 TT libBj 4 p5:=bh (n:=3) (C:=wd) rfl (.intro (nO.mono (by decide)) (.intro (fJ.mono (by decide)) (.intro))) (bj (by kernel_rfl)) (λh=>by kernel_rfl)
def eV(a0:Int):Option (Bool×Unit):=
bif(decide (a0>=1))then(some ((decide (a0<=32)),()))else
some (false,())
def sL:X.Cfg:=⟨E0,[],[],[]⟩
def jl:Ctr:=⟨70,12,Xab,[],[⟨uab,[.one],[]⟩],ap1 eV⟩
theorem mi:Lvl E0 TT libBj 1 jl:=bh (n:=0) (C:=sL) rfl (.intro) (bj (by kernel_rfl)) (λh=>by kernel_rfl)
def eC(a0:LDCn):Option (Bool×Unit):=
let x0:=bq a0.length;
(eV x0).bind λ(x1,_)=>
some ((!x1),())
def oq:X.Cfg:=⟨E0,[jl],[],[]⟩
def jy:Ctr:=⟨95,13,uL [b9],[],[⟨uab,[.one],[]⟩],ap1 eC⟩
theorem oi:Lvl E0 TT libBj 2 jy:=bh (n:=1) (C:=oq) rfl (.intro (mi.mono (by decide)) (.intro)) (bj (by kernel_rfl)) (λh=>by kernel_rfl)
def bm:LLCn×T01->Option ((LLCn×T01)⊕((Int×Unit)⊕(LLCn×T04))):=λ(v0,v1,v2,_)=>
bif(decide (v2<v1))then((eQ v2).bind λx0=>
(dz v0 x0).bind λx1=>
(eC x1).bind λ(x2,_)=>
bif x2 then(some (.inr (.inl (v2,()))))else
let x3:=w64 (v2+1);
some (.inl (v0,v1,x3,())))else
some (.inr (.inr (v0,v1,v2,false,())))
def dc(a0:List LDCn):Option (Int×Unit):=
let x0:=bq a0.length;
(match bE bm NN (a0,x0,0,())with
|none=>none
|some (.inl (x1,_))=>
some (x1,())
|some (.inr (x1,_))=>
some ((-1),()))
def iZ:X.Cfg:=⟨E0,[jy],[],[⟨3,0,(qS [sP 0 (Xq b9),(1,.fn 95 []),yaa 7,yaa 8] []),[(.ret,qS [yaa 4] []),(.exit 0,(qS [sP 0 (Xq b9),(1,.fn 95 []),yaa 7,yaa 8,zaa 9] []))]⟩]⟩
def eN:Ctr:=⟨131,14,[shU (Xq b9),.fn 95 []],[],[⟨Xab,[.one],[]⟩],ap1 dc⟩
theorem iX:Lvl E0 TT libBj 3 eN:=bh (n:=2) (C:=iZ) rfl (.intro (oi.mono (by decide)) (.intro)) (bj (by kernel_rfl)) (λh=>by kernel_rfl)
def bZ(a0:List LDCn):Option (Bool×Unit):=
(dc a0).bind λ(x0,_)=>
some ((decide (x0>=0)),())
def gP:X.Cfg:=⟨E0,[eN],[],[]⟩
def dU:Ctr:=⟨94,15,[shU (Xq b9),.fn 95 []],[],[⟨uab,[.one],[]⟩],ap1 bZ⟩
theorem gO:Lvl E0 TT libBj 4 dU:=bh (n:=3) (C:=gP) rfl (.intro (iX.mono (by decide)) (.intro)) (bj (by kernel_rfl)) (λh=>by kernel_rfl)
def dC(a0:List LDCn)(a1:LDTs):Option (Bool×Unit):=
let x0:=bq a0.length;
bif(decide (x0<=4))then(let x1:Int:=(bq a1.length);
bif(decide (x1<=4))then((bZ a0).bind λ(x2,_)=>
some ((!x2),()))else
some (false,()))else
some (false,())
def qH:X.Cfg:=⟨E0,[dU],[],[]⟩
def fS:Ctr:=⟨60,16,[.agg Xaa],[],[⟨uab,[.one],[]⟩],ap2 dC⟩
theorem iC:Lvl E0 TT libBj 5 fS:=bh (n:=4) (C:=qH) rfl (.intro (gO.mono (by decide)) (.intro)) (bj (by kernel_rfl)) (λh=>by kernel_rfl)
def fO(a0:List LDCn)(a1:LDTs):Option (Bool×Unit):=
(dC a0 a1).bind λ(x0,_)=>
some (x0,())
def qI:X.Cfg:=⟨E0,[fS],[],[]⟩
def lk:Ctr:=⟨28,17,[.agg Xaa],[],[⟨uab,[.one],[]⟩],ap2 fO⟩
theorem qy:Lvl E0 TT libBj 6 lk:=bh (n:=5) (C:=qI) rfl (.intro (iC.mono (by decide)) (.intro)) (bj (by kernel_rfl)) (λh=>by kernel_rfl)
def cu:LLCn×Int×T0a->Option ((LLCn×Int×T0a)⊕(LLCn×Int×Int×Bool×T08)):=λ(v0,v1,v2,v3,v4,v5,_)=>
bif(decide (v2<v1))then((eQ v2).bind λx0=>
(dz v0 x0).bind λx1=>
let x2:=bq x1.length;
bif(cB 8 v5.length (List.length [x2]))then let x3:List (Int):=(List.append v5 [x2]);
let x4:=w64 (v2+1);
some (.inl (v0,v1,x4,v3,v4,x3,()))else none)else
some (.inr (v0,v1,v2,false,v3,v4,v5,()))
def dy(a0:List LDCn)(a1:LDTs):Option (LI×Unit):=
let x0:=bq a0.length;
(bE cu NN (a0,x0,0,a0,a1,[],())).bind λ(x1,x2,x3,x4,x5,x6,x7,_)=>
some (x7,())
def sM:X.Cfg:=⟨E0,[],[],[(lx 4 0 [Uaa 3 9,sP 7 (Xq b9),yaa 8,yaa 9] [(4,Xaa),(9,Xad)] 10)]⟩
def gA:Ctr:=⟨31,18,[.agg Xaa],[],[⟨Xad,[.one],[]⟩],ap2 dy⟩
theorem jj:Lvl E0 TT libBj 1 gA:=bh (n:=0) (C:=sM) rfl (.intro) (bj (by kernel_rfl)) (λh=>by kernel_rfl)
def fP(a0:Int):Option (Bool×Unit):=
(eV a0).bind λ(x0,_)=>
some ((!x0),())
def qJ:X.Cfg:=⟨E0,[jl],[],[]⟩
def ll:Ctr:=⟨69,19,Xab,[],[⟨uab,[.one],[]⟩],ap1 fP⟩
theorem qz:Lvl E0 TT libBj 2 ll:=bh (n:=1) (C:=qJ) rfl (.intro (mi.mono (by decide)) (.intro)) (bj (by kernel_rfl)) (λh=>by kernel_rfl)
def bD:T07->Option (T07⊕((Int×Unit)⊕(LI×T04))):=λ(v0,v1,v2,_)=>
bif(decide (v2<v1))then((eQ v2).bind λx0=>
(dz v0 x0).bind λx1=>
(fP x1).bind λ(x2,_)=>
bif x2 then(some (.inr (.inl (v2,()))))else
let x3:=w64 (v2+1);
some (.inl (v0,v1,x3,())))else
some (.inr (.inr (v0,v1,v2,false,())))
def dG(a0:List (Int)):Option (Int×Unit):=
let x0:=bq a0.length;
(match bE bD NN (a0,x0,0,())with
|none=>none
|some (.inl (x1,_))=>
some (x1,())
|some (.inr (x1,_))=>
some ((-1),()))
def jD:X.Cfg:=⟨E0,[ll],[],[⟨3,0,(qS [sP 0 RI,(1,.fn 69 []),yaa 7,yaa 8] []),[(.ret,qS [yaa 4] []),(.exit 0,(qS [sP 0 RI,(1,.fn 69 []),yaa 7,yaa 8,zaa 9] []))]⟩]⟩
def fw:Ctr:=⟨97,20,[shU RI,.fn 69 []],[],[⟨Xab,[.one],[]⟩],ap1 dG⟩
theorem jA:Lvl E0 TT libBj 3 fw:=bh (n:=2) (C:=jD) rfl (.intro (qz.mono (by decide)) (.intro)) (bj (by kernel_rfl)) (λh=>by kernel_rfl)
def cf(a0:List (Int)):Option (Bool×Unit):=
(dG a0).bind λ(x0,_)=>
some ((decide (x0>=0)),())
def iE:X.Cfg:=⟨E0,[fw],[],[]⟩
def en:Ctr:=⟨68,21,[shU RI,.fn 69 []],[],[⟨uab,[.one],[]⟩],ap1 cf⟩
theorem iB:Lvl E0 TT libBj 4 en:=bh (n:=3) (C:=iE) rfl (.intro (jA.mono (by decide)) (.intro)) (bj (by kernel_rfl)) (λh=>by kernel_rfl)
def cn:T0w->Option (T0w⊕(Int×Int×Int×Int×LI×T09)):=λ(v0,v1,v2,v3,v4,v5,v6,v7,_)=>
let x0:=w64 (v3*8);
bif(decide (x0<v2))then(let x1:LDCe:=[(v1,v3)];
bif(cB 16 v7.length x1.length)then let x2:LDCe:=(List.append v7 x1);
let x3:=w64 (v3+1);
some (.inl (v0,v1,v2,x3,v4,v5,v6,x2,()))else none)else
some (.inr (v0,v1,v2,v3,v4,v5,v6,false,v7,()))
def cF:T0g->Option (T0g⊕(Int×LI×T09)):=λ(v0,v1,v2,v3,v4,_)=>
bif(decide (v3<v2))then((eQ v3).bind λx0=>
(dz v1 x0).bind λx1=>
(bE cn NN (v0,v3,x1,0,v1,v2,v3,v4,())).bind λ(x2,x3,x4,x5,x6,x7,x8,x9,ac,_)=>
let ae:=w64 (x8+1);
some (.inl (x2,x6,x7,ae,ac,())))else
some (.inr (v0,v1,v2,v3,false,v4,()))
def cj:T05->Option (T05⊕T09):=λ(v0,v1,v2,_)=>
bif(decide (v1<v0))then(let x0:LDCe:=[((-1),v1)];
bif(cB 16 v2.length x0.length)then let x1:LDCe:=(List.append v2 x0);
let x2:=w64 (v1+1);
some (.inl (v0,x2,x1,()))else none)else
some (.inr (v0,v1,false,v2,()))
def fZ(a0:List (Int))(a1:Int):Option (LDCe×Int×Unit):=
let x0:=bq a0.length;
bif(decide (x0>4))then(some ([],3,()))else
bif(decide (a1>4))then(some ([],3,()))else
bif(decide (a1<0))then(some ([],1,()))else
(cf a0).bind λ(x1,_)=>
bif x1 then(some ([],1,()))else
let x2:=bq a0.length;
(bE cF NN (a1,a0,x2,0,[],())).bind λ(x3,x4,x5,x6,x7,x8,_)=>
(bE cj NN (x3,0,x8,())).bind λ(x9,ac,ae,af,_)=>
some (af,0,())
def uw:X.Cfg:=⟨E0,[en],[],[⟨16,0,qS [yaa 1,Uaa 6 15,yaa 7,yaa 8,yaa 9,sP 24 RI,yaa 25,yaa 26] [(15,zab)],[(.exit 2,qS [yaa 1,Uaa 6 15,yaa 7,yaa 8,yaa 9,sP 24 RI,yaa 25,yaa 26,zaa 34] [(15,zab)])]⟩,(lx 10 1 [yaa 1,Uaa 6 15,sP 24 RI,yaa 25,yaa 26] [(15,zab)] 27),⟨22,2,qS [Uaa 6 15,yaa 44,yaa 45] [(15,zab)],[(.exit 4,qS [Uaa 6 15,yaa 44,yaa 45,zaa 46] [(15,zab)])]⟩]⟩
def kp:Ctr:=⟨32,22,Zaa,[],[⟨uae,[.one,.one],[]⟩],ap2 fZ⟩
theorem nQ:Lvl E0 TT libBj 5 kp:=bh (n:=4) (C:=uw) rfl (.intro (iB.mono (by decide)) (.intro)) (bj (by kernel_rfl)) (λh=>by kernel_rfl)
def b6(a0:LDCn):Option (LDCn×Unit):=
bif(cB 24 0 a0.length)then let x0:LDCn:=(List.append [] a0);
some (x0,())else none
def kS:X.Cfg:=⟨E0,[],[],[]⟩
def cY:Ctr:=⟨66,23,uL [b9],[],[⟨Uad,[.one],[]⟩],ap1 b6⟩
theorem d5:Lvl E0 TT libBj 1 cY:=bh (n:=0) (C:=kS) rfl (.intro) (bj (by kernel_rfl)) (λh=>by kernel_rfl)
def eX(a0:Int)(a1:Int)(a2:Int)(a3:Int)(a4:Int)(a5:Int)(a6:Int)(a7:LDCn):Option (T0v):=
(b6 a7).bind λ(x0,_)=>
some (a0,a1,a2,a3,a4,a5,a6,x0,())
def sQ:X.Cfg:=⟨E0,[cY],[],[]⟩
def jm:Ctr:=⟨67,24,[.agg Zac],[],[⟨Uac,[.agg 8],[]⟩],ap8 eX⟩
theorem mj:Lvl E0 TT libBj 2 jm:=bh (n:=1) (C:=sQ) rfl (.intro (d5.mono (by decide)) (.intro)) (bj (by kernel_rfl)) (λh=>by kernel_rfl)
def eJ(a0:LDCn)(a1:Int):Option (LDCn×Unit):=
(bif(decide (a1<0))then(some (a0,a1,true,()))else
bif(decide (a1>32))then(some (a0,a1,true,()))else
let x0:=w64 (a1*8);
let x1:=bq a0.length;
some (a0,a1,(decide (x0>=x1)),()):Option (LDCn×T00)).bind λ(x0,x1,x2,_)=>
bif x2 then(some ([],()))else
let x3:=w64 (x1*8);
let x4:=w64 (x3+8);
let x5:=bq x0.length;
let x6:=mmR false x4 x5;
(eQ x3).bind λx7=>
(eQ x6).bind λx8=>
bif(iK x7 x8 x0.length)then let x9:LDCn:=(Aa x0 x7 (Nat.sub x8 x7));
some (x9,())else none
def uu:X.Cfg:=⟨E0,[],[],[⟨2,0,qE,[(.normal,qS [sP 0 b9,yaa 1,zaa 18] [])]⟩]⟩
def ko:Ctr:=⟨90,25,uL [b9,I64],[],[⟨uL [b9],[.one],[]⟩],ap2 eJ⟩
theorem nP:Lvl E0 TT libBj 1 ko:=bh (n:=0) (C:=uu) rfl (.intro) (bj (by kernel_rfl)) (λh=>by kernel_rfl)
def fF(a0:List LDCn)(a1:LDTs)(a2:Int)(a3:Int):Option (Int×Int×LDCn×T0v):=
bif(a2==(-1))then((eQ a3).bind λx0=>
(dz a1 x0).bind λx1=>
(eX x1.1 x1.2.1 x1.2.2.1 x1.2.2.2.1 x1.2.2.2.2.1 x1.2.2.2.2.2.1 x1.2.2.2.2.2.2.1 x1.2.2.2.2.2.2.2).bind λ(x2,x3,x4)=>
some (a2,a3,[],x2,x3,x4))else
(eQ a2).bind λx0=>
(dz a0 x0).bind λx1=>
(eJ x1 a3).bind λ(x2,_)=>
(b6 x2).bind λ(x3,_)=>
some (a2,a3,x3,0,0,0,0,0,0,0,[],())
def wg:X.Cfg:=⟨E0,[jm,ko,cY],[],[]⟩
def lJ:Ctr:=⟨89,26,[.agg Xaa,.agg Zab],[],[⟨uad,[.agg 11],[]⟩],ap4 fF⟩
theorem pA:Lvl E0 TT libBj 3 lJ:=bh (n:=2) (C:=wg) rfl (.intro (mj.mono (by decide)) (.intro (nP.mono (by decide)) (.intro (d5.mono (by decide)) (.intro)))) (bj (by kernel_rfl)) (λh=>by kernel_rfl)
def cS:T0G->Option (T0G⊕(Int×Int×Bool×T0F)):=λ(v0,v1,v2,v3,v4,v5,_)=>
bif(decide (v1<v0))then((eQ v1).bind λx0=>
(dz v4 x0).bind λx1=>
(dz v4 x0).bind λx2=>
(fF v2 v3 x2.1 x2.2).bind λ(x3,x4,x5,x6,x7,x8,x9,ac,ae,af,ah,_)=>
let aj:List (Int×Int×LDCn×Int×Int×Int×Int×Int×Int×Int×LDCn):=[(x3,(x4,(x5,(x6,(x7,(x8,(x9,(ac,(ae,(af,ah))))))))))];
bif(cB 120 v5.length aj.length)then let ak:List (Int×Int×LDCn×Int×Int×Int×Int×Int×Int×Int×LDCn):=(List.append v5 aj);
let am:=w64 (v1+1);
some (.inl (v0,am,v2,v3,v4,ak,()))else none)else
some (.inr (v0,v1,false,v2,v3,v4,v5,()))
def eF(a0:List LDCn)(a1:LDTs):Option ((List (Int×Int×LDCn×Int×Int×Int×Int×Int×Int×Int×LDCn))×Int×Unit):=
(dC a0 a1).bind λ(x0,_)=>
bif(!x0)then(some ([],1,()))else
(dy a0 a1).bind λ(x1,_)=>
let x2:=bq a1.length;
(fZ x1 x2).bind λ(x3,x4,_)=>
let x5:=bq x3.length;
(bE cS NN (x5,0,a0,a1,x3,[],())).bind λ(x6,x7,x8,x9,ac,ae,af,_)=>
some (af,0,())
def wi:X.Cfg:=⟨E0,[fS,gA,kp,lJ],[(31,(.pair I64 (.pair I64 (.pair (Xp KCn) nE)))),(32,(.pair I64 (.pair I64 (.pair (Xp KCn) nE))))],[(lx 8 0 [uaa 1,Uaa 6 15,Uaa 21 11,yaa 22,yaa 23] [(4,Xaa),(11,zab),(15,[shU (Xp (.pair I64 (.pair I64 (.pair b9 dE))))])] 24)]⟩
def p9:Ctr:=⟨61,27,[.agg Xaa],[],[⟨[shU (Xp (.pair I64 (.pair I64 (.pair b9 dE)))),shU I64],[.one,.one],[]⟩],ap2 eF⟩
theorem vY:Lvl E0 TT libBj 6 p9:=bh (n:=5) (C:=wi) rfl (.intro (iC.mono (by decide)) (.intro (jj.mono (by decide)) (.intro (nQ.mono (by decide)) (.intro (pA.mono (by decide)) (.intro))))) (bj (by kernel_rfl)) (λh=>by kernel_rfl)
def cg:LI×T07->Option ((LI×T07)⊕((Bool×Unit)⊕(LI×LI×T04))):=λ(v0,v1,v2,v3,_)=>
bif(decide (v3<v2))then((eQ v3).bind λx0=>
(dz v0 x0).bind λx1=>
(eQ v3).bind λx2=>
(dz v1 x2).bind λx3=>
bif(x1 != x3)then(some (.inr (.inl (false,()))))else
let x4:=w64 (v3+1);
some (.inl (v0,v1,v2,x4,())))else
some (.inr (.inr (v0,v1,v2,v3,false,())))
def dL(a0:List (Int))(a1:List (Int)):Option (Bool×Unit):=
let x0:=bq a0.length;
let x1:=bq a1.length;
bif(x0 != x1)then(some (false,()))else
let x2:=bq a0.length;
(match bE cg NN (a0,a1,x2,0,())with
|none=>none
|some (.inl (x3,_))=>
some (x3,())
|some (.inr (x3,_))=>
some (true,()))
def mp:X.Cfg:=⟨E0,[],[],[⟨6,0,qS [sP 0 RI,sP 1 RI,yaa 12,yaa 13] [],[(.ret,qS [zaa 4] []),(.exit 0,qS [sP 0 RI,sP 1 RI,yaa 12,yaa 13,zaa 14] [])]⟩]⟩
def ir:Ctr:=⟨62,28,uL [RI,RI],[],[⟨uab,[.one],[]⟩],ap2 dL⟩
theorem mh:Lvl E0 TT libBj 1 ir:=bh (n:=0) (C:=mp) rfl (.intro) (bj (by kernel_rfl)) (λh=>by kernel_rfl)
def bY:LDCn×LDCn×T01->Option ((LDCn×LDCn×T01)⊕((Bool×Unit)⊕(LDCn×LDCn×T04))):=λ(v0,v1,v2,v3,_)=>
bif(decide (v3<v2))then((eQ v3).bind λx0=>
(dz v0 x0).bind λx1=>
(eQ v3).bind λx2=>
(dz v1 x2).bind λx3=>
let x4:Bool:=(!((x1.1==x3.1)&&((x1.2.1==x3.2.1)&&((x1.2.2.1==x3.2.2.1)&&((x1.2.2.2==x3.2.2.2)&&true)))));
bif x4 then(some (.inr (.inl (false,()))))else
let x5:=w64 (v3+1);
some (.inl (v0,v1,v2,x5,())))else
some (.inr (.inr (v0,v1,v2,v3,false,())))
def cw(a0:LDCn)(a1:LDCn):Option (Bool×Unit):=
let x0:=bq a0.length;
let x1:=bq a1.length;
bif(x0 != x1)then(some (false,()))else
let x2:=bq a0.length;
(match bE bY NN (a0,a1,x2,0,())with
|none=>none
|some (.inl (x3,_))=>
some (x3,())
|some (.inr (x3,_))=>
some (true,()))
def kR:X.Cfg:=⟨E0,[],[],[⟨6,0,qS [sP 0 b9,sP 1 b9,yaa 12,yaa 13] [],[(.ret,qS [zaa 4] []),(.exit 0,qS [sP 0 b9,sP 1 b9,yaa 12,yaa 13,zaa 14] [])]⟩]⟩
def gn:Ctr:=⟨96,29,uL [b9,b9],[],[⟨uab,[.one],[]⟩],ap2 cw⟩
theorem kP:Lvl E0 TT libBj 1 gn:=bh (n:=0) (C:=kR) rfl (.intro) (bj (by kernel_rfl)) (λh=>by kernel_rfl)
def gv(a0:Int)(a1:Int)(a2:LDCn)(a3:Int)(a4:Int)(a5:Int)(a6:Int)(a7:Int)(a8:Int)(a9:Int)(a10:LDCn)(a11:Int)(a12:Int)(a13:LDCn)(a14:Int)(a15:Int)(a16:Int)(a17:Int)(a18:Int)(a19:Int)(a20:Int)(a21:LDCn):Option (Bool×Unit):=
bif((a0==a11)&&((a1==a12)&&true))then((cw a2 a13).bind λ(x0,_)=>
bif x0 then(bif(a3==a14)then(bif(a4==a15)then(bif(a5==a16)then(bif(a6==a17)then(bif(a7==a18)then(bif(a8==a19)then(bif(a9==a20)then((cw a10 a21).bind λ(x1,_)=>
some (x1,()))else
some (false,()))else
some (false,()))else
some (false,()))else
some (false,()))else
some (false,()))else
some (false,()))else
some (false,()))else
some (false,()))else
some (false,())
def sN:X.Cfg:=⟨E0,[gn],[],[]⟩
def mJ:Ctr:=⟨63,30,[.agg uad,.agg uad],[],[⟨uab,[.one],[]⟩],ap22 gv⟩
theorem sw:Lvl E0 TT libBj 2 mJ:=bh (n:=1) (C:=sN) rfl (.intro (kP.mono (by decide)) (.intro)) (bj (by kernel_rfl)) (λh=>by kernel_rfl)
def b4:T0N->Option (T0N⊕(Int×Int×Bool×T0M)):=λ(v0,v1,v2,v3,v4,_)=>
bif(decide (v1<v0))then(((eQ v1).bind λx0=>
(dz v2 x0).bind λx1=>
(dz v2 x0).bind λx2=>
(eQ v1).bind λx3=>
(dz v3 x3).bind λx4=>
(dz v3 x3).bind λx5=>
(gv x2.1 x2.2.1 x2.2.2.1 x2.2.2.2.1 x2.2.2.2.2.1 x2.2.2.2.2.2.1 x2.2.2.2.2.2.2.1 x2.2.2.2.2.2.2.2.1 x2.2.2.2.2.2.2.2.2.1 x2.2.2.2.2.2.2.2.2.2.1 x2.2.2.2.2.2.2.2.2.2.2 x5.1 x5.2.1 x5.2.2.1 x5.2.2.2.1 x5.2.2.2.2.1 x5.2.2.2.2.2.1 x5.2.2.2.2.2.2.1 x5.2.2.2.2.2.2.2.1 x5.2.2.2.2.2.2.2.2.1 x5.2.2.2.2.2.2.2.2.2.1 x5.2.2.2.2.2.2.2.2.2.2).bind λ(x6,_)=>
bif(!x6)then((eQ v1).bind λx7=>
(dz v2 x7).bind λx8=>
(dz v2 x7).bind λx9=>
let ac:LDCe:=[(x9.1,x9.2.1)];
bif(cB 16 v4.length ac.length)then let ae:LDCe:=(List.append v4 ac);
some (v0,v1,v2,v3,ae,())else none)else
some (v0,v1,v2,v3,v4,()):Option (T0N)).bind λ(x0,x1,x2,x3,x4,_)=>
let x5:=w64 (x1+1);
some (.inl (x0,x5,x2,x3,x4,())))else
some (.inr (v0,v1,false,v2,v3,v4,()))
def cG(a0:List LDCn)(a1:LDTs)(a2:List LDCn)(a3:LDTs):Option (LDCe×Int×Unit):=
(eF a0 a1).bind λ(x0,x1,_)=>
(eF a2 a3).bind λ(x2,x3,_)=>
(bif(x1 != 0)then(some (true,x0,x2,()))else
bif(x3 != 0)then(some (true,x0,x2,()))else
(dy a0 a1).bind λ(x4,_)=>
(dy a2 a3).bind λ(x5,_)=>
(dL x4 x5).bind λ(x6,_)=>
bif(!x6)then(some (true,x0,x2,()))else
let x7:=bq a1.length;
let x8:=bq a3.length;
some ((x7 != x8),x0,x2,()):Option (Bool×(List (Int×Int×LDCn×Int×Int×Int×Int×Int×Int×Int×LDCn))×(List (Int×Int×LDCn×Int×Int×Int×Int×Int×Int×Int×LDCn))×Unit)).bind λ(x4,x5,x6,_)=>
bif x4 then(some ([],1,()))else
let x7:=bq x5.length;
(bE b4 NN (x7,0,x5,x6,[],())).bind λ(x8,x9,ac,ae,af,ah,_)=>
some (ah,0,())
def pE:X.Cfg:=⟨E0,[p9,gA,ir,mJ],[],[⟨4,0,qE,[(.normal,(qS [Uaa 6 15,Uaa 8 19,zaa 44] [(15,[shU (Xp (.pair I64 (.pair I64 (.pair b9 dE))))]),(19,[shU (Xp (.pair I64 (.pair I64 (.pair b9 dE))))])]))]⟩,⟨12,1,qE,[(.normal,(qS [Uaa 6 15,Uaa 8 19,Uaa 10 23,yaa 46,yaa 47] [(15,[shU (Xp (.pair I64 (.pair I64 (.pair b9 dE))))]),(19,[shU (Xp (.pair I64 (.pair I64 (.pair b9 dE))))]),(23,zab)]))]⟩,(lx 9 2 [Uaa 6 15,Uaa 8 19,Uaa 10 23,yaa 46,yaa 47] [(15,[shU (Xp (.pair I64 (.pair I64 (.pair b9 dE))))]),(19,[shU (Xp (.pair I64 (.pair I64 (.pair b9 dE))))]),(23,zab)] 48)]⟩
def gX:Ctr:=⟨29,31,[.agg Xaa,.agg Xaa],[],[⟨uae,[.one,.one],[]⟩],ap4 cG⟩
theorem jX:Lvl E0 TT libBj 7 gX:=bh (n:=6) (C:=pE) rfl (.intro (vY.mono (by decide)) (.intro (jj.mono (by decide)) (.intro (mh.mono (by decide)) (.intro (sw.mono (by decide)) (.intro))))) (bj (by kernel_rfl)) (λh=>by kernel_rfl)
def cM(a0:List LDCn):Option (LLCn×Unit):=
bif(cB 24 0 a0.length)then let x0:List LDCn:=(List.append [] a0);
some (x0,())else none
def jE:X.Cfg:=⟨E0,[],[(5,(Xp KCn)),(7,(Xp KCn))],[]⟩
def fB:Ctr:=⟨64,32,uL [(Xq b9)],[],[⟨uL [(Xp b9)],[.one],[]⟩],ap1 cM⟩
theorem jC:Lvl E0 TT libBj 1 fB:=bh (n:=0) (C:=jE) rfl (.intro) (bj (by kernel_rfl)) (λh=>by kernel_rfl)
def dx(a0:LDTs):Option (LDTs×Unit):=
bif(cB 80 0 a0.length)then let x0:LDTs:=(List.append [] a0);
some (x0,())else none
def lF:X.Cfg:=⟨E0,[],[(5,nE),(7,nE)],[]⟩
def gW:Ctr:=⟨65,33,uL [(Xq dE)],[],[⟨uL [(Xp dE)],[.one],[]⟩],ap1 dx⟩
theorem lD:Lvl E0 TT libBj 1 gW:=bh (n:=0) (C:=lF) rfl (.intro) (bj (by kernel_rfl)) (λh=>by kernel_rfl)
def dg:T0i->Option (T0i⊕T0n):=λ(v0,v1,v2,v3)=>
bif(decide (v1<v0))then((eQ v1).bind λx0=>
(dz v2 x0).bind λx1=>
(dz v2 x0).bind λx2=>
(b6 x2).bind λ(x3,_)=>
(eQ v1).bind λx4=>
(dz v2 x4).bind λx5=>
(dz v2 x4).bind λx6=>
let x7:=List.modify v2 x4 λe=>x3;
let x8:=w64 (v1+1);
some (.inl (v0,x8,x7,v3)))else
some (.inr (v0,v1,false,v2,v3))
def df:T0i->Option (T0i⊕T0n):=λ(v0,v1,v2,v3,v4)=>
bif(decide (v1<v0))then((eQ v1).bind λx0=>
(dz v3 x0).bind λx1=>
(dz v3 x0).bind λx2=>
(eX x2.1 x2.2.1 x2.2.2.1 x2.2.2.2.1 x2.2.2.2.2.1 x2.2.2.2.2.2.1 x2.2.2.2.2.2.2.1 x2.2.2.2.2.2.2.2).bind λ(x3,x4,x5,x6,x7,x8,x9,ac,_)=>
(eQ v1).bind λae=>
(dz v3 ae).bind λaf=>
(dz v3 ae).bind λah=>
let aj:=(List.modify v3 ae λe=>(x3,(x4,(x5,(x6,(x7,(x8,(x9,ac))))))));
let ak:=w64 (v1+1);
some (.inl (v0,ak,v2,aj,v4)))else
some (.inr (v0,v1,false,v2,v3,v4))
def ej(a0:List LDCn)(a1:LDTs):Option (T03):=
(cM a0).bind λ(x0,_)=>
(dx a1).bind λ(x1,_)=>
let x2:=bq x0.length;
(bE dg NN (x2,0,x0,x1,(),(),())).bind λ(x3,x4,x5,x6,x7,x8)=>
let ac:=bq x7.length;
(bE df NN (ac,0,x6,x7,x8)).bind λ(ae,af,ah,aj,ak,_)=>
some (aj,ak,())
def qL:X.Cfg:=⟨E0,[fB,gW,cY,jm],[],[(lx 4 0 [uaa 1,uaa 2,Uaa 16 4,yaa 17,yaa 18] [(4,yad),(6,yab)] 19),⟨11,1,(qS [uaa 1,uaa 2,(31,.pk ⟨4,1,[]⟩ [0,0]),yaa 32,yaa 33] [(4,yad),(6,yab)]),[(.exit 2,(qS [uaa 1,uaa 2,(31,.pk ⟨4,1,[]⟩ [0,0]),yaa 32,yaa 33,zaa 34] [(4,yad),(6,yab)]))]⟩]⟩
def iF:Ctr:=⟨30,34,[.agg Xaa],[],[⟨yad,[.agg 2],[]⟩],ap2 ej⟩
theorem kZ:Lvl E0 TT libBj 3 iF:=bh (n:=2) (C:=qL) rfl (.intro (jC.mono (by decide)) (.intro (lD.mono (by decide)) (.intro (d5.mono (by decide)) (.intro (mj.mono (by decide)) (.intro))))) (bj (by kernel_rfl)) (λh=>by kernel_rfl)
def cC:T0C->Option (T0C⊕(Int×Int×Int×Int×Bool×T0A)):=λ(v0,v1,v2,v3,v4,v5,v6,v7,v8,v9,v10,v11,v12,_)=>
bif(decide (v3<v2))then((eQ v3).bind λx0=>
(dz v12 x0).bind λx1=>
(dz v12 x0).bind λx2=>
(eQ x2).bind λx3=>
(eQ x2).bind λx4=>
bif(sg x3 x4 4)then let x5:LDCn:=(List.replicate x3 (0,(0,(0,0))));
bif(cB 24 v10.length (List.length [x5]))then let x6:List LDCn:=(List.append v10 [x5]);
let x7:=w64 (v3+1);
some (.inl (v0,v1,v2,x7,v4,v5,v6,v7,v8,v9,x6,v11,v12,()))else none else none)else
some (.inr (v0,v1,v2,v3,false,v4,v5,v6,v7,v8,v9,v10,v11,v12,()))
def cA(a0:List LDCn)(a1:LDTs)(a2:List LDCn)(a3:LDTs)(a4:Int)(a5:Int):Option (T0o⊕T0o):=
(fO a2 a3).bind λ(x0,_)=>
bif(!x0)then(some (.inl (0,0,[],[],[],0,1,())))else
(cG a0 a1 a2 a3).bind λ(x1,x2,_)=>
bif(x2==0)then((ej a0 a1).bind λ(x3,x4,_)=>
some (.inl (a4,a5,x3,x4,x1,0,0,())))else
let x3:=bq a3.length;
(eQ x3).bind λx4=>
(eQ x3).bind λx5=>
bif(sg x4 x5 8)then let x6:LDTs:=(List.replicate x4 (0,(0,(0,(0,(0,(0,(0,[]))))))));
(dy a2 a3).bind λ(x7,_)=>
let x8:=bq x7.length;
(bE cC NN (a4,a5,x8,0,0,0,(),(),(),0,[],x6,x7,())).bind λ(x9,ac,ae,af,ah,aj,ak,am,an,ap,aq,au,av,aw,_)=>
let ax:=bq av.length;
(fZ aw ax).bind λ(ay,az,_)=>
some (.inr (x9,ac,au,av,ay,0,0,()))else none
def qF:X.Cfg:=⟨E0,[lk,gX,iF,gA,kp],[(39,nE),(53,(Xp KCn)),(54,(Xp KCn))],[(lx 12 0 [yaa 2,yaa 3,uaa 8,uaa 12,Uaa 13 29,Uaa 43 29,yaa 44,yaa 45] [(18,yac),(26,Uab),(29,Xad)] 46)]⟩
def li:Ctr:=⟨8,35,[.agg Xaa,.agg Xaa,shU I64,shU I64],[],[⟨uL [I64,I64,(Xp b9),(Xp dE),(Xp (.pair I64 I64)),I64,I64],[.agg 6,.one],[]⟩,⟨uL [I64,I64,(Xp (Xp KCn)),(Xp nE),(Xp (.pair I64 I64)),I64,I64],[.agg 6,.one],[]⟩],ap6 cA⟩
theorem qw:Lvl E0 TT libBj 8 li:=bh (n:=7) (C:=qF) rfl (.intro (qy.mono (by decide)) (.intro (jX.mono (by decide)) (.intro (kZ.mono (by decide)) (.intro (jj.mono (by decide)) (.intro (nQ.mono (by decide)) (.intro)))))) (bj (by kernel_rfl)) (λh=>by kernel_rfl)
def bW(a0:LDCe):Option (LDCe×Unit):=
bif(cB 16 0 a0.length)then let x0:LDCe:=(List.append [] a0);
some (x0,())else none
def jZ:X.Cfg:=⟨E0,[],[],[]⟩
def dV:Ctr:=⟨84,36,zad,[],[⟨zab,[.one],[]⟩],ap1 bW⟩
theorem ga:Lvl E0 TT libBj 1 dV:=bh (n:=0) (C:=jZ) rfl (.intro) (bj (by kernel_rfl)) (λh=>by kernel_rfl)
def f8(a0:Int)(a1:Int)(a2:List LDCn)(a3:LDTs)(a4:LDCe)(a5:Int):Option (Int×Int×LLCn×LDTs×LDCe×Int×Unit):=
(ej a2 a3).bind λ(x0,x1,_)=>
(bW a4).bind λ(x2,_)=>
some (a0,a1,x0,x1,x2,a5,())
def uy:X.Cfg:=⟨E0,[iF,dV],[],[]⟩
def kr:Ctr:=⟨48,37,[.agg zac],[],[⟨uL [I64,I64,(Xp b9),(Xp dE),(Xp (.pair I64 I64)),I64],[.agg 6],[]⟩],ap6 f8⟩
theorem nR:Lvl E0 TT libBj 4 kr:=bh (n:=3) (C:=uy) rfl (.intro (kZ.mono (by decide)) (.intro (ga.mono (by decide)) (.intro))) (bj (by kernel_rfl)) (λh=>by kernel_rfl)
def fA:Ctr:=⟨87,38,uL [(Xq (Xq (.pair I64 I64)))],[],[⟨zad,[.one],[]⟩],ap1 ca⟩
theorem jB:Lvl E0 TT libBj 1 fA:=(sk (xe rfl) iz).mono (by decide)
def gd:Ctr:=⟨85,39,[.fn 86 [],shU (Xq (.pair I64 I64))],[],[⟨zad,[.one],[]⟩],ap1 co⟩
theorem jW:Lvl E0 TT libBj 1 gd:=(sk (xe rfl) iU).mono (by decide)
def gw(a0:LDCe)(a1:LDCe):Option (LDCe×Unit):=
let x0:List LDCe:=[a0,a1];
(ca x0).bind λ(x1,_)=>
(co x1).bind λ(x2,_)=>
some (x2,())
def sO:X.Cfg:=⟨E0,[fA,gd],[(7,(Xp (.pair I64 I64)))],[]⟩
def mL:Ctr:=⟨49,40,uL [(Xq (.pair I64 I64)),(Xq (.pair I64 I64))],[],[⟨zad,[.one],[]⟩],ap2 gw⟩
theorem sy:Lvl E0 TT libBj 2 mL:=bh (n:=1) (C:=sO) rfl (.intro (jB.mono (by decide)) (.intro (jW.mono (by decide)) (.intro))) (bj (by kernel_rfl)) (λh=>by kernel_rfl)
def eA(a0:Int)(a1:Int)(a2:List LDCn)(a3:LDTs)(a4:LDCe)(a5:Int)(a6:List LDCn)(a7:LDTs)(a8:List LDCn)(a9:LDTs):Option (T0o):=
(f8 a0 a1 a2 a3 a4 a5).bind λ(x0,x1,x2,x3,x4,x5,_)=>
(cG a6 a7 a8 a9).bind λ(x6,x7,_)=>
bif(x7 != 0)then(some (x0,x1,x2,x3,x4,x5,x7,()))else
(gw x4 x6).bind λ(x8,_)=>
some (x0,x1,x2,x3,x8,x5,0,())
def om:X.Cfg:=⟨E0,[kr,gX,mL],[],[]⟩
def jw:Ctr:=⟨20,41,[.agg zac,.agg Xaa,.agg Xaa],[],[⟨uL [I64,I64,(Xp b9),(Xp dE),(Xq (.pair I64 I64)),I64,I64],[.agg 6,.one],[]⟩],ap10 eA⟩
theorem og:Lvl E0 TT libBj 8 jw:=bh (n:=7) (C:=om) rfl (.intro (nR.mono (by decide)) (.intro (jX.mono (by decide)) (.intro (sy.mono (by decide)) (.intro)))) (bj (by kernel_rfl)) (λh=>by kernel_rfl)
def bp(a0:Int)(a1:Int)(a2:List LDCn)(a3:LDTs)(a4:LDCe)(a5:Int):Option (Bool×Unit):=
let x0:=bq a4.length;
some ((x0==0),())
def nv:X.Cfg:=⟨E0,[],[],[]⟩
def i5:Ctr:=⟨21,42,[.agg zac],[],[⟨uab,[.one],[]⟩],ap6 bp⟩
theorem nq:Lvl E0 TT libBj 1 i5:=bh (n:=0) (C:=nv) rfl (.intro) (bj (by kernel_rfl)) (λh=>by kernel_rfl)
def cx:LDCn×LDCn×Int×Unit->Option ((LDCn×LDCn×Int×Unit)⊕((Bool×Unit)⊕(LDCn×LDCn×T00))):=λ(v0,v1,v2,_)=>
let x0:=bq v0.length;
bif(decide (v2<x0))then((eQ v2).bind λx1=>
(dz v0 x1).bind λx2=>
(eQ v2).bind λx3=>
(dz v1 x3).bind λx4=>
let x5:Bool:=(!((x2.1==x4.1)&&((x2.2.1==x4.2.1)&&((x2.2.2.1==x4.2.2.1)&&((x2.2.2.2==x4.2.2.2)&&true)))));
bif x5 then(some (.inr (.inl (false,()))))else
let x6:=w64 (v2+1);
some (.inl (v0,v1,x6,())))else
some (.inr (.inr (v0,v1,v2,false,())))
def de(a0:LDCn)(a1:LDCn):Option (Bool×Unit):=
let x0:=bq a0.length;
let x1:=bq a1.length;
bif(x0 != x1)then(some (false,()))else
(match bE cx NN (a0,a1,0,())with
|none=>none
|some (.inl (x2,_))=>
some (x2,())
|some (.inr (x2,_))=>
some (true,()))
def nw:X.Cfg:=⟨E0,[],[],[⟨6,0,qS [sP 0 b9,sP 1 b9,yaa 5] [],[(.ret,qS [zaa 4] []),(.exit 0,qS [sP 0 b9,sP 1 b9,yaa 5,zaa 14] [])]⟩]⟩
def fK:Ctr:=⟨50,43,uL [b9,b9],[],[⟨uab,[.one],[]⟩],ap2 de⟩
theorem iY:Lvl E0 TT libBj 1 fK:=bh (n:=0) (C:=nw) rfl (.intro) (bj (by kernel_rfl)) (λh=>by kernel_rfl)
def eB(a0:Int)(a1:Int)(a2:Int)(a3:Int)(a4:Int)(a5:Int)(a6:Int)(a7:LDCn)(a8:Int)(a9:Int)(a10:Int)(a11:Int)(a12:Int)(a13:Int)(a14:Int)(a15:LDCn):Option (Bool×Unit):=
bif(a0==a8)then(bif(a1==a9)then(bif(a2==a10)then(bif(a3==a11)then(bif(a4==a12)then(bif(a5==a13)then(bif(a6==a14)then((de a7 a15).bind λ(x0,_)=>
some (x0,()))else
some (false,()))else
some (false,()))else
some (false,()))else
some (false,()))else
some (false,()))else
some (false,()))else
some (false,())
def oo:X.Cfg:=⟨E0,[fK],[],[]⟩
def jx:Ctr:=⟨51,44,[.agg Zac,.agg Zac],[],[⟨uab,[.one],[]⟩],ap16 eB⟩
theorem oh:Lvl E0 TT libBj 2 jx:=bh (n:=1) (C:=oo) rfl (.intro (iY.mono (by decide)) (.intro)) (bj (by kernel_rfl)) (λh=>by kernel_rfl)
def dR:T0h->Option (T0h⊕((Bool×Unit)⊕(Int×Bool×T0c))):=λ(v0,v1,v2,v3,v4,_)=>
let x0:=bq v1.length;
bif(decide (v0<x0))then((eQ v0).bind λx1=>
(dz v1 x1).bind λx2=>
(eQ v0).bind λx3=>
(dz v3 x3).bind λx4=>
(de x2 x4).bind λ(x5,_)=>
bif(!x5)then(some (.inr (.inl (false,()))))else
let x6:=w64 (v0+1);
some (.inl (x6,v1,v2,v3,v4,())))else
some (.inr (.inr (v0,false,v1,v2,v3,v4,())))
def dQ:T0h->Option (T0h⊕((Bool×Unit)⊕(Int×Bool×T0c))):=λ(v0,v1,v2,v3,v4,_)=>
let x0:=bq v2.length;
bif(decide (v0<x0))then((eQ v0).bind λx1=>
(dz v2 x1).bind λx2=>
(eQ v0).bind λx3=>
(dz v4 x3).bind λx4=>
(eB x2.1 x2.2.1 x2.2.2.1 x2.2.2.2.1 x2.2.2.2.2.1 x2.2.2.2.2.2.1 x2.2.2.2.2.2.2.1 x2.2.2.2.2.2.2.2 x4.1 x4.2.1 x4.2.2.1 x4.2.2.2.1 x4.2.2.2.2.1 x4.2.2.2.2.2.1 x4.2.2.2.2.2.2.1 x4.2.2.2.2.2.2.2).bind λ(x5,_)=>
bif(!x5)then(some (.inr (.inl (false,()))))else
let x6:=w64 (v0+1);
some (.inl (x6,v1,v2,v3,v4,())))else
some (.inr (.inr (v0,false,v1,v2,v3,v4,())))
def dq(a0:List LDCn)(a1:LDTs)(a2:List LDCn)(a3:LDTs):Option (Bool×Unit):=
let x0:=bq a0.length;
let x1:=bq a2.length;
bif(x0 != x1)then(some (false,()))else
let x2:=bq a1.length;
let x3:=bq a3.length;
bif(x2 != x3)then(some (false,()))else
(match bE dR NN (0,a0,a1,a2,a3,())with
|none=>none
|some (.inl (x4,_))=>
some (x4,())
|some (.inr (x4,x5,x6))=>
(match bE dQ NN (0,x6)with
|none=>none
|some (.inl (ac,_))=>
some (ac,())
|some (.inr (ac,_))=>
some (true,())))
def ur:X.Cfg:=⟨E0,[fK,jx],[],[⟨6,0,qS [uaa 2,uaa 3,yaa 5] [(6,Xaa),(8,Xaa)],[(.ret,qS [zaa 4] []),(.exit 0,qS [uaa 2,uaa 3,yaa 5,zaa 27] [(6,Xaa),(8,Xaa)])]⟩,⟨14,1,qS [uaa 2,uaa 3,yaa 6] [(6,Xaa),(8,Xaa)],[(.ret,qS [zaa 4] []),(.exit 2,qS [uaa 2,uaa 3,yaa 6,zaa 46] [(6,Xaa),(8,Xaa)])]⟩]⟩
def nY:Ctr:=⟨22,45,[.agg Xaa,.agg Xaa],[],[⟨uab,[.one],[]⟩],ap4 dq⟩
theorem ug:Lvl E0 TT libBj 3 nY:=bh (n:=2) (C:=ur) rfl (.intro (iY.mono (by decide)) (.intro (oh.mono (by decide)) (.intro))) (bj (by kernel_rfl)) (λh=>by kernel_rfl)
def g8(a0:LDCe)(a1:Int):Option (LDCe×LDCe×Unit):=
let x0:=bq a0.length;
let x1:=mmR false a1 x0;
let x2:=mmR true 0 x1;
(eQ x2).bind λx3=>
bif(iK 0 x3 a0.length)then let x4:LDCe:=(Aa a0 0 (Nat.sub x3 0));
(bW x4).bind λ(x5,_)=>
(eQ x2).bind λx6=>
bif(iK x6 a0.length a0.length)then let x7:LDCe:=(Aa a0 x6 (Nat.sub a0.length x6));
(bW x7).bind λ(x8,_)=>
some (x5,x8,())else none else none
def ux:X.Cfg:=⟨E0,[dV],[],[]⟩
def n5:Ctr:=⟨52,46,uL [(Xq (.pair I64 I64)),I64],[],[⟨uL [(Xp (.pair I64 I64)),(Xp (.pair I64 I64))],[.one,.one],[]⟩],ap2 g8⟩
theorem ui:Lvl E0 TT libBj 2 n5:=bh (n:=1) (C:=ux) rfl (.intro (ga.mono (by decide)) (.intro)) (bj (by kernel_rfl)) (λh=>by kernel_rfl)
def gu(a0:List LDCn)(a1:LDTs)(a2:Int)(a3:Int):Option (Bool×Unit):=
bif(a2==(-1))then(bif(decide (a3>=0))then(let x0:Int:=(bq a1.length);
some ((decide (a3<x0)),()))else
some (false,()))else
bif(decide (a2>=0))then(let x0:Int:=(bq a0.length);
bif(decide (a2<x0))then((eQ a2).bind λx1=>
(dz a0 x1).bind λx2=>
(eJ x2 a3).bind λ(x3,_)=>
let x4:=bq x3.length;
some ((decide (x4>0)),()))else
some (false,()))else
some (false,())
def sK:X.Cfg:=⟨E0,[ko],[],[]⟩
def mI:Ctr:=⟨119,47,[.agg Xaa,.agg Zab],[],[⟨uab,[.one],[]⟩],ap4 gu⟩
theorem su:Lvl E0 TT libBj 2 mI:=bh (n:=1) (C:=sK) rfl (.intro (nP.mono (by decide)) (.intro)) (bj (by kernel_rfl)) (λh=>by kernel_rfl)
def fY(a0:List LDCn)(a1:LDTs)(a2:Int)(a3:Int):Option (Int×Unit):=
(dC a0 a1).bind λ(x0,_)=>
bif(!x0)then(some (1,()))else
(gu a0 a1 a2 a3).bind λ(x1,_)=>
bif(!x1)then(some (30,()))else
some (0,())
def uv:X.Cfg:=⟨E0,[fS,mI],[],[]⟩
def nZ:Ctr:=⟨88,48,[.agg Xaa,.agg Zab],[],[⟨Xab,[.one],[]⟩],ap4 fY⟩
theorem uh:Lvl E0 TT libBj 6 nZ:=bh (n:=5) (C:=uv) rfl (.intro (iC.mono (by decide)) (.intro (su.mono (by decide)) (.intro))) (bj (by kernel_rfl)) (λh=>by kernel_rfl)
def jd(a0:List LDCn)(a1:LDTs)(a2:Int)(a3:Int):Option (Int×Int×LDCn×Int×Int×Int×Int×Int×Int×Int×LDCn×Int×Unit):=
(fY a0 a1 a2 a3).bind λ(x0,_)=>
bif(x0 != 0)then(some (0,0,[],0,0,0,0,0,0,0,[],x0,()))else
(fF a0 a1 a2 a3).bind λ(x1,x2,x3,x4,x5,x6,x7,x8,x9,ac,ae,_)=>
some (x1,x2,x3,x4,x5,x6,x7,x8,x9,ac,ae,0,())
def wh:X.Cfg:=⟨E0,[nZ,lJ],[],[]⟩
def p8:Ctr:=⟨53,49,[.agg Xaa,.agg Zab],[],[⟨uL [I64,I64,b9,I64,I64,I64,I64,I64,I64,CW,b9,I64],[.agg 11,.one],[]⟩],ap4 jd⟩
theorem vW:Lvl E0 TT libBj 7 p8:=bh (n:=6) (C:=wh) rfl (.intro (uh.mono (by decide)) (.intro (pA.mono (by decide)) (.intro))) (bj (by kernel_rfl)) (λh=>by kernel_rfl)
def p7:Ctr:=⟨54,50,[.agg Xaa,.agg uad],[],[⟨uL [(Xq b9),(Xq dE),I64],[.agg 2,.one],[]⟩],ap13 bN⟩
theorem vV:Lvl E0 TT libBj 1 p7:=(sk (xe rfl) qp).mono (by decide)
def dB:T0K->Option (T0K⊕(T0L⊕T0L)):=λ(v0,v1,v2,v3,v4,v5,v6,v7,v8,v9,v10,v11,v12,v13,v14,v15,v16,v17,v18,v19,v20,_)=>
bif(decide (v2<v1))then((eQ v2).bind λx0=>
(dz v17 x0).bind λx1=>
(dz v17 x0).bind λx2=>
(jd v3 v4 x2.1 x2.2).bind λ(x3,x4,x5,x6,x7,x8,x9,ac,ae,af,ah,aj,_)=>
(bif(aj==0)then((bN v19 v20 x3 x4 x5 x6 x7 x8 x9 ac ae af ah).bind λ(ak,am,an,_)=>
some (an,v1,v2,v3,v4,v5,v6,v7,v8,v9,v10,v11,v12,v13,v14,v15,v16,v17,v18,ak,am,()))else
some (aj,v1,v2,v3,v4,v5,v6,v7,v8,v9,v10,v11,v12,v13,v14,v15,v16,v17,v18,v19,v20,()):Option (T0K)).bind λ(ak,am,an,ap)=>
bif(ak != 0)then(some (.inr (.inl (ak,am,an,true,ap))))else
let aL:=w64 (an+1);
some (.inl (ak,am,aL,ap)))else
some (.inr (.inr (v0,v1,v2,false,v3,v4,v5,v6,v7,v8,v9,v10,v11,v12,v13,v14,v15,v16,v17,v18,v19,v20,())))
def eU(a0:Int)(a1:Int)(a2:List LDCn)(a3:LDTs)(a4:LDCe)(a5:Int)(a6:List LDCn)(a7:LDTs)(a8:Int):Option (T0o):=
(f8 a0 a1 a2 a3 a4 a5).bind λ(x0,x1,x2,x3,x4,x5,_)=>
bif(decide (a8<0))then(some (x0,x1,x2,x3,x4,x5,6,()))else
(g8 a4 a8).bind λ(x6,x7,_)=>
let x8:=bq x6.length;
(match bE dB NN (0,x8,0,a6,a7,0,0,(),(),(),0,x0,x1,x2,x3,x4,x5,x6,x7,x2,x3,())with
|none=>none
|some (.inl (x9,ac,ae,af,ah,aj,ak,am,an,ap,aq,au,av,aw,ax,ay,az,aA,aB,aD,aE,aF,_))=>
bif(x9 != 0)then(some (av,aw,ax,ay,az,aA,x9,()))else
let aG:=bq aB.length;
let aH:=w64 (aA+aG);
some (av,aw,aE,aF,aD,aH,0,())
|some (.inr (x9,ac,ae,af,ah,aj,ak,am,an,ap,aq,au,av,aw,ax,ay,az,aA,aB,aD,aE,aF,_))=>
bif(x9 != 0)then(some (av,aw,ax,ay,az,aA,x9,()))else
let aG:=bq aB.length;
let aH:=w64 (aA+aG);
some (av,aw,aE,aF,aD,aH,0,()))
def sJ:X.Cfg:=⟨E0,[kr,n5,p8,p7],[],[⟨16,0,qE,[(.normal,qS [uaa 4,uaa 6,uaa 8,Uaa 9 21,Uaa 10 23,uaa 11,yaa 16,Uaa 31 21,yaa 32,yaa 33] [(10,Xaa),(14,yac),(18,uac),(21,zab),(23,zab),(24,Xaa)])]⟩,⟨10,1,qS [uaa 4,uaa 6,uaa 8,Uaa 9 21,Uaa 10 23,uaa 11,yaa 12,Uaa 31 21,yaa 32,yaa 33] [(10,Xaa),(14,yac),(18,uac),(21,zab),(23,zab),(24,Xaa)],[(.exit 0,qS [uaa 4,uaa 6,uaa 8,Uaa 9 21,Uaa 10 23,uaa 11,yaa 12,Uaa 31 21,yaa 32,yaa 33,zaa 53] [(10,Xaa),(14,yac),(18,uac),(21,zab),(23,zab),(24,Xaa)]),(.exit 0,qS [uaa 4,uaa 6,uaa 8,Uaa 9 21,Uaa 10 23,uaa 11,yaa 12,Uaa 31 21,yaa 32,yaa 33,zaa 34] [(10,Xaa),(14,yac),(18,uac),(21,zab),(23,zab),(24,Xaa)])]⟩]⟩
def mH:Ctr:=⟨23,51,[.agg zac,.agg Xaa,shU I64],[],[⟨uL [I64,I64,(Xq b9),(Xq dE),(Xp (.pair I64 I64)),I64,I64],[.agg 6,.one],[]⟩],ap9 eU⟩
theorem sr:Lvl E0 TT libBj 8 mH:=bh (n:=7) (C:=sJ) rfl (.intro (nR.mono (by decide)) (.intro (ui.mono (by decide)) (.intro (vW.mono (by decide)) (.intro (vV.mono (by decide)) (.intro))))) (bj (by kernel_rfl)) (λh=>by kernel_rfl)
def bu:T0D->Option (T0D⊕T0E):=λ(v0,v1,v2,v3,v4,v5,v6,v7,v8,v9,v10,v11,v12,_)=>
bif(decide (v2<30))then((match(let x0:Int:=(wk .i64 v0);
let x1:=Int.tmod x0 10;
bif(decide (v2<x1))then((bn 4 v11 v12).bind λ(x2,x3,x4,_)=>
(fW v3 v4 x2 x3 x4).bind λ(x5,x6,x7,x8,_)=>
(eA v5 v6 v7 v8 v9 v10 v3 v4 x5 x6).bind λ(x9,ac,ae,af,ah,aj,ak,_)=>
bif(ak != 0)then(some (.inl (false,())))else
(match((bp x9 ac ae af ah aj).bind λ(am,_)=>
bif am then((dq ae af x5 x6).bind λ(an,_)=>
bif(!an)then(some (.inl (false,())))else
some (.inr (v0,v1,v2,false,x5,x6,x9,ac,ae,af,ah,aj,x7,x8,())))else
some (.inr (v0,v1,v2,false,x5,x6,x9,ac,ae,af,ah,aj,x7,x8,())):Option ((Bool×Unit)⊕T0E))with
|none=>none
|some (.inl (am,_))=>
some (.inl (am,()))
|some (.inr (am,an,ap,aq,au,av,aw,ax,ay,az,aA,aB,aD))=>
(eU aw ax ay az aA aB au av an).bind λ(aF,aG,aH,aI,aJ,aK,aL,_)=>
bif(aL != 0)then(some (.inl (false,())))else
(bp aF aG aH aI aJ aK).bind λ(aM,_)=>
bif aM then((dq aH aI au av).bind λ(aO,_)=>
bif(!aO)then(some (.inl (false,())))else
some (.inr (am,an,ap,false,au,av,aF,aG,aH,aI,aJ,aK,aD)))else
some (.inr (am,an,ap,false,au,av,aF,aG,aH,aI,aJ,aK,aD))))else
(match((bp v5 v6 v7 v8 v9 v10).bind λ(x2,_)=>
bif x2 then((dq v7 v8 v3 v4).bind λ(x3,_)=>
bif(!x3)then(some (.inl (false,())))else
some (.inr (v0,v1,v2,false,v3,v4,v5,v6,v7,v8,v9,v10,v11,v12,())))else
some (.inr (v0,v1,v2,false,v3,v4,v5,v6,v7,v8,v9,v10,v11,v12,())):Option ((Bool×Unit)⊕T0E))with
|none=>none
|some (.inl (x2,_))=>
some (.inl (x2,()))
|some (.inr (x2,x3,x4,x5,x6,x7,x8,x9,ac,ae,af,ah,aj,ak,_))=>
(eU x8 x9 ac ae af ah x6 x7 x3).bind λ(am,an,ap,aq,au,av,aw,_)=>
bif(aw != 0)then(some (.inl (false,())))else
(bp am an ap aq au av).bind λ(ax,_)=>
bif ax then((dq ap aq x6 x7).bind λ(ay,_)=>
bif(!ay)then(some (.inl (false,())))else
some (.inr (x2,x3,x4,false,x6,x7,am,an,ap,aq,au,av,aj,ak,())))else
some (.inr (x2,x3,x4,false,x6,x7,am,an,ap,aq,au,av,aj,ak,()))):Option ((Bool×Unit)⊕T0E))with
|none=>none
|some (.inl (x0,_))=>
none
|some (.inr (x0,x1,x2,x3,x4,x5,x6,x7,x8,x9,ac,ae,af,ah,_))=>
let aj:=w64 (x2+1);
some (.inl (x0,x1,aj,x4,x5,x6,x7,x8,x9,ac,ae,af,ah,()))))else
some (.inr (v0,v1,v2,false,v3,v4,v5,v6,v7,v8,v9,v10,v11,v12,()))
def eW(a0:List (Int))(a1:Int)(a2:Int):Option (Bool×Unit):=
(oz a0).bind λ(x0,_)=>
bif(!x0)then((bU).bind λ(x1,_)=>
some (x1,()))else
(gt a0 0).bind λ(x1,x2,x3,x4,_)=>
(bn 30 x3 x4).bind λ(x5,x6,x7,_)=>
(fW x1 x2 x5 x6 x7).bind λ(x8,x9,ac,ae,_)=>
(bn 4 ac ae).bind λ(af,ah,aj,_)=>
bif(af==3)then((jc x8 x9 ah aj).bind λ(ak,am,an,ap,_)=>
let aq:=wk .i64 a1;
let au:=Int.tmod aq 5;
let av:=w64 (1+au);
(match cA ak am x1 x2 1 0 with
|none=>none
|some (.inl (aw,ax,ay,az,aA,aB,aD,_))=>
bif(aD != 0)then(some (false,()))else
(bE bu NN (a2,av,0,x1,x2,aw,ax,ay,az,aA,aB,an,ap,())).bind λ(aE,aF,aG,aH,aI,aJ,aK,aL,aM,aO,aP,aQ,aR,aS,_)=>
(bp aK aL aM aO aP aQ).bind λ(aT,_)=>
bif aT then(bif(decide (aQ>=0))then((bU).bind λ(aU,_)=>
some (aU,()))else
some (false,()))else
some (false,())
|some (.inr (aw,ax,ay,az,aA,aB,aD,_))=>
bif(aD != 0)then(some (false,()))else
(bE bu NN (a2,av,0,x1,x2,aw,ax,ay,az,aA,aB,an,ap,())).bind λ(aE,aF,aG,aH,aI,aJ,aK,aL,aM,aO,aP,aQ,aR,aS,_)=>
(bp aK aL aM aO aP aQ).bind λ(aT,_)=>
bif aT then(bif(decide (aQ>=0))then((bU).bind λ(aU,_)=>
some (aU,()))else
some (false,()))else
some (false,())))else
let ak:=wk .i64 a1;
let am:=Int.tmod ak 5;
let an:=w64 (1+am);
(match cA x8 x9 x1 x2 1 0 with
|none=>none
|some (.inl (ap,aq,au,av,aw,ax,ay,_))=>
bif(ay != 0)then(some (false,()))else
(bE bu NN (a2,an,0,x1,x2,ap,aq,au,av,aw,ax,ah,aj,())).bind λ(az,aA,aB,aD,aE,aF,aG,aH,aI,aJ,aK,aL,aM,aO,_)=>
(bp aG aH aI aJ aK aL).bind λ(aP,_)=>
bif aP then(bif(decide (aL>=0))then((bU).bind λ(aQ,_)=>
some (aQ,()))else
some (false,()))else
some (false,())
|some (.inr (ap,aq,au,av,aw,ax,ay,_))=>
bif(ay != 0)then(some (false,()))else
(bE bu NN (a2,an,0,x1,x2,ap,aq,au,av,aw,ax,ah,aj,())).bind λ(az,aA,aB,aD,aE,aF,aG,aH,aI,aJ,aK,aL,aM,aO,_)=>
(bp aG aH aI aJ aK aL).bind λ(aP,_)=>
bif aP then(bif(decide (aL>=0))then((bU).bind λ(aQ,_)=>
some (aQ,()))else
some (false,()))else
some (false,()))
def mq:X.Cfg:=⟨E0,[yo,mK,mG,eH,nX,p5,li,jw,i5,nY,mH],[],[⟨27,0,qE,[(.ret,qS [zaa 6] []),(.normal,qS [sP 2 CB,pP 7 42,uaa 8,yaa 10,uaa 11,yaa 13,zaa 78] [(18,Xaa),(24,zac),(42,Zaa)])]⟩,⟨19,1,qE,[(.ret,qS [zaa 6] []),(.normal,qS [sP 2 CB,pP 7 42,uaa 8,yaa 10,uaa 11,yaa 13,zaa 96] [(18,Xaa),(24,uac),(42,Zaa)])]⟩,(lx 16 2 [sP 2 CB,pP 7 42,uaa 8,yaa 10,uaa 11,yaa 13] [(18,Xaa),(24,uac),(42,Zaa)] 47)]⟩
def is:Ctr:=⟨5,52,uL [RI,CB,CB],[],[⟨uab,[.one],[]⟩],ap3 eW⟩
theorem k_law34_RepairEnds:Lvl E0 TT libBj 9 is:=bh (n:=8) (C:=mq) rfl (.intro (DW.mono (by decide)) (.intro (sx.mono (by decide)) (.intro (sq.mono (by decide)) (.intro (fJ.mono (by decide)) (.intro (uf.mono (by decide)) (.intro (vT.mono (by decide)) (.intro (qw.mono (by decide)) (.intro (og.mono (by decide)) (.intro (nq.mono (by decide)) (.intro (ug.mono (by decide)) (.intro (sr.mono (by decide)) (.intro)))))))))))) (bj (by kernel_rfl)) (λh=>by kernel_rfl)
end
end Go.Proofs.YtakfoejcjdcgbaaGreat
namespace Go.Proofs.YtakfoejcjdcgbaaGreat
set_option maxRecDepth 100000
noncomputable section
end
end Go.Proofs.YtakfoejcjdcgbaaGreat
namespace Go.Proofs.YtakfoejcjdcgbaaGreat
open Go.RowKit
theorem IP:(Tryz.prog.funcs.all λfn=>!(fn.name=="runtime.NumGoroutine"))=true:=by kernel_rfl
theorem zi:fC Tryz.prog 14:=by
 obtain⟨fn,hf,hb⟩:∃fn,Tryz.prog.funcs[14]?=some fn/\fn.body.isSome=true:=by
  have hs:(match Tryz.prog.funcs[14]? with|some fn=>fn.body.isSome|none=>false)=true:=by kernel_rfl
  cases h:Tryz.prog.funcs[14]? with
  |none=>rw[h]at hs;cases hs
  |some fn=>rw[h]at hs;exact⟨fn,rfl,hs⟩
 obtain⟨c,hc⟩:=Option.isSome_iff_exists.1 hb;refine gU hf ?_ hc;obtain⟨hlt,he⟩:=Array.getElem?_eq_some_iff.1 hf;have:=Array.all_eq_true.1 IP 14 hlt;rw[he]at this;simpa using this
def GL(x:Value)(w:World)(e:Ending)(w':World):Prop:=e=.returned (.pointer (some ⟨w.heap.size,0,none⟩))/\w'=w.alloc (.cells #[x,.int .i64 0] 80)
theorem F3(x:Value)(hx:x.oneCell'=true)(w:World):
 Calls Tryz.prog 14 #[x] w (GL x w):=by
 cases x
 all_goals first
  |(go_enter Tryz.func14,Tryz.ntmps14
    go_wp2
    go_ret
    exact⟨rfl,rfl⟩)
  |simp[Value.oneCell']at hx
theorem e0_ok:wY Tryz.prog E0:=by
 intro f n tm h;simp only[E0]at h;split at h
 ·rename_i e;subst e
  injection h with h
  injection h with h1 h2
  subst h1 h2;refine⟨zi,λx hx=>?_,80,λl2 w hl Zs=>?_⟩
  ·simp only[List.mem_cons,List.not_mem_nil,or_false]at hx;rcases hx with hx|hx
   ·injection hx
   ·injection hx with hx;rw[hx];rfl
  ·match l2,hl with
   | [x],_=>exact F3 x (Zs x (by simp[bxV])) w
 ·simp at h
def Ok{α:Type}(o:Option α)(Q:α->Prop):Prop:=∃a,o=some a/\Q a
section
variable {α β:Type}
theorem Ok.ret{a:α}{Q:α->Prop}(h:Q a):Ok (some a) Q:=⟨a,rfl,h⟩
theorem Ok.bind{o:Option α}{f:α->Option β}{P:α->Prop}{Q:β->Prop}(h:Ok o P)(h2:∀a,P a->Ok (f a) Q):Ok (o.bind f) Q:=by
 obtain⟨a,rfl,h1⟩:=h
 simp_all
theorem Ok.mono{o:Option α}{P Q:α->Prop}(h:Ok o P)(h2:∀a,P a->Q a):Ok o Q:=by
 have ⟨a,e,h1⟩:=h;exact⟨a,e,h2 a h1⟩
theorem Ok.cond{c:Bool}{a b:Option α}{Q:α->Prop}(h1:c=true->Ok a Q)(h2:c=false->Ok b Q):Ok (bif c then a else b) Q:=by
 grind
class BP (b:Bool) (P N:outParam Prop):Prop where
 t:b=true->P
 f:b=false->N
theorem Ok.get{l:List α}{i:Nat}{f:α->Option β}{Q:β->Prop}(h:i<l.length)(h2:∀a,l[i]?=some a->Ok (f a) Q):Ok ((dz l i).bind f) Q:=by
 have e:dz l i=some l[i]:=oGE h
 simp_all
theorem Ok.nat{x:Int}{f:Nat->Option β}{Q:β->Prop}(h:0<=x)(h2:∀n:Nat,x=n->Ok (f n) Q):Ok ((eQ x).bind f) Q:=by
 obtain⟨n,rfl⟩:∃n:Nat,x=n:=⟨x.toNat,by omega⟩;exact h2 n rfl
theorem Ok.val{v:α}{f:α->Option β}{Q:β->Prop}(h:∀x,x=v->Ok (f x) Q):Ok (f v) Q:=h v rfl
theorem GS{c:Bool}{a b:Option α}{Q:α->Prop}(hc:c=true)(h1:Ok a Q):Ok (bif c then a else b) Q:=by simp_all
theorem q8{S T:Type}{f:S->Option (S⊕T)}(P:S->Prop)(R:T->Prop)(m:S->Nat){n:Nat}{s:S}(hs:P s)(hm:m s<n)
 (h:∀s,P s->Ok (f s) λr=>match r with|.inl s'=>P s'/\m s'<m s|.inr t=>R t):Ok (bE f n s) R:=by
 induction n generalizing s with
 |zero=>omega
 |succ n ih=>
  have ⟨r,e,hr⟩:=h s hs
  cases r with
  |inl s'=>
   have ⟨t,e2,hq⟩:=ih hr.1 (by omega);exact⟨t,by simp[bE,e];exact e2,hq⟩
  |inr t=>exact⟨t,by simp[bE,e],hr⟩
theorem Ok.loop{S T:Type}{f:S->Option (S⊕T)}{g:T->Option β}{Q:β->Prop}(P:S->Prop)(R:T->Prop)(m:S->Nat){n:Nat}{s:S}(hs:P s)(hm:m s<n)
 (h:∀s,P s->Ok (f s) λr=>match r with|.inl s'=>P s'/\m s'<m s|.inr t=>R t)(hg:∀t,R t->Ok (g t) Q):Ok ((bE f n s).bind g) Q:=(q8 P R m hs hm h).bind hg
end
theorem b7{x:Int}(h1:-9223372036854775808<=x)(h2:x<=9223372036854775807):w64 x=x:=wrap_i64 h1 h2
theorem bS(n:Nat):eQ (n:Int)=some n:=rfl
theorem DO(n:Nat):bq n=(n:Int):=rfl
theorem eD{S T:Type}{f:S->Option (S⊕T)}(st:Nat->S){n N:Nat}{fin:T}(hn:n<N)(h:∀i,i<n->f (st i)=some (.inl (st (i+1))))(he:f (st n)=some (.inr fin)):bE f N (st 0)=some fin:=by
 have ZT:∀k i,i+k=n->k<N->∀M,k<M->bE f M (st i)=some fin:=by
  intro k
  induction k with
  |zero=>
   intro i hi _ M hM;obtain⟨M,rfl⟩:∃m,M=m+1:=⟨M-1,by omega⟩
   have:i=n:=by omega
   subst this;simp[bE,he]
  |succ k ih=>
   intro i hi hk M hM;obtain⟨M,rfl⟩:∃m,M=m+1:=⟨M-1,by omega⟩;simp only[bE,h i (by omega),oBS];exact ih (i+1) (by omega) (by omega) M (by omega)
 exact ZT n 0 (by omega) hn N hn
theorem uc{S T:Type}{f:S->Option (S⊕T)}(st:Nat->S)(p:Nat->Prop){n N:Nat}{bad:Nat->T}{fin:T}(hn:n<N)
 (h:∀i,i<n->(p i/\f (st i)=some (.inl (st (i+1))))\/(¬p i/\f (st i)=some (.inr (bad i))))(he:f (st n)=some (.inr fin)):
 ((∀i,i<n->p i)/\bE f N (st 0)=some fin)\/∃k,k<n/\(∀i,i<k->p i)/\¬p k/\bE f N (st 0)=some (bad k):=by
 have ZT:∀k i,i+k=n->(∀j,j<i->p j)->∀M,k<M->((∀i,i<n->p i)/\bE f M (st i)=some fin)\/∃k,k<n/\(∀i,i<k->p i)/\¬p k/\bE f M (st i)=some (bad k):=by
  intro k
  induction k with
  |zero=>
   intro i hi hp M hM;obtain⟨M,rfl⟩:∃m,M=m+1:=⟨M-1,by omega⟩
   have:i=n:=by omega
   subst this;exact .inl ⟨hp,by simp[bE,he]⟩
  |succ k ih=>
   intro i hi hp M hM;obtain⟨M,rfl⟩:∃m,M=m+1:=⟨M-1,by omega⟩
   rcases h i (by omega)with⟨h1,e⟩|⟨h1,e⟩
   ·simp only[bE,e,oBS]
    exact ih (i+1) (by omega) (λj hj=>by
     by_cases e:j=i
     ·subst e;exact h1
     ·exact hp j (by omega)) M (by omega)
   ·exact .inr ⟨i,by omega,hp,h1,by simp[bE,e]⟩
 exact ZT n 0 (by omega) (λj hj=>by omega) N hn
abbrev Sm{α:Type}(l:List α):Prop:=l.length<=1099511627776
theorem sf{n:Nat}(h:n<=1099511627776):n<NN:=by unfold NN;omega
theorem cI{α:Type}{l:List α}{i:Nat}(h:i<l.length):dz l i=some l[i]:=oGE h
theorem lO{α:Type}{l:List α}{i:Nat}(h:i<l.length):l.take i++[l[i]]=l.take (i+1):=(List.take_append_getElem h)
theorem bT{sz n m:Nat}(h1:n<=1099511627776)(h2:m<=1099511627776)(h3:sz<=128)(h4:n+m<=1099511627776):cB sz n m=true:=by
 unfold cB;have:(n+m)*sz<=1099511627776*128:=Nat.mul_le_mul h4 h3;simp only[oBA,oDE];exact⟨h4,by omega⟩
theorem tp{a:List PID}(h:Sm a):bW a=some (a,()):=by
 unfold bW;rw[bT (by omega) h (by omega) (by have:=h;omega),oCT];rfl
theorem Db{a:List PID}(h:Sm a):co a=some (iJ a,()):=oIP h
theorem F5{a b:List PID}(h:a.length+b.length<=1099511627776):gw a b=some (iJ (a++b),()):=by
 unfold gw ca
 have e:List.flatten [a,b]=a++b:=by simp
 dsimp only;rw[e,oIP ⟨by rw[List.length_append];exact h,by simp⟩,oBS];dsimp only;rw[Db (show Sm (a++b) by unfold Sm;rw[List.length_append];exact h)];rfl
def jK(n:Nat)(k:Int):Nat:=(max 0 (min k (n:Int))).toNat
theorem Jh(n:Nat)(k:Int):mmR true 0 (mmR false k (bq n))=(jK n k:Int):=by
 rw[DO];unfold mmR jK;simp only[Bool.false_eq_true,if_false,if_true];by_cases h1:(n:Int)<k
 ·rw[oIP h1,Int.min_eq_right (by omega)];by_cases h2:(0:Int)<n
  ·rw[oIP h2,Int.max_eq_right (by omega),Int.toNat_of_nonneg (by omega)]
  ·rw[oIN h2,Int.max_eq_left (by omega)];rfl
 ·rw[oIN h1,Int.min_eq_left (by omega)];by_cases h2:(0:Int)<k
  ·rw[oIP h2,Int.max_eq_right (by omega),Int.toNat_of_nonneg (by omega)]
  ·rw[oIN h2,Int.max_eq_left (by omega)];rfl
theorem C7(n:Nat)(k:Int):jK n k<=n:=by
 unfold jK;omega
theorem Hk{a:List PID}(h:Sm a)(k:Int):g8 a k=some (a.take (jK a.length k),a.drop (jK a.length k),()):=by
 unfold g8;dsimp only;have hk:=C7 a.length k;have h0:=h;simp only[Jh,bS,oBS]
 have e1:iK 0 (jK a.length k) a.length=true:=by unfold iK;simp[hk]
 have e2:iK (jK a.length k) a.length a.length=true:=by unfold iK;simp[hk]
 have e3:Aa a 0 (Nat.sub (jK a.length k) 0)=a.take (jK a.length k):=by unfold Aa;rfl
 have e4:Aa a (jK a.length k) (Nat.sub a.length (jK a.length k))=a.drop (jK a.length k):=by
  unfold Aa;rw[List.take_of_length_le (by rw[List.length_drop];exact Nat.le_refl _)]
 rw[e1,oCT,e3,tp (by unfold Sm;rw[oLT];omega),oBS];dsimp only;rw[e2,oCT,e4,tp (by unfold Sm;rw[List.length_drop];omega)];rfl
theorem CK:bU=some (true,()):=rfl
theorem jS{α S T:Type}[DecidableEq α]{a b:List α}(hl:a.length=b.length)(hs:Sm a){f:S->Option (S⊕T)}(st:Nat->S){bad fin:T}
 (step:∀i (h:i<a.length)(h':i<b.length),f (st i)=bif decide (a[i]=b[i])then some (.inl (st (i+1)))else some (.inr bad))(he:f (st a.length)=some (.inr fin)):
 bE f NN (st 0)=some (bif decide (a=b)then fin else bad):=by
 rcases uc (f:=f) st (λi=>a[i]?=b[i]?) (bad:=λ_=>bad) (sf hs) (λi hi=>by
  rw[step i hi (hl▸hi),oGE hi,oGE (hl▸hi)];by_cases e:a[i]=b[i]'(hl▸hi)
  ·exact .inl ⟨by rw[e],by rw[oDT e];rfl⟩
  ·exact .inr ⟨λh=>e (by injection h),by rw[oDF e];rfl⟩) he with⟨h1,h2⟩|⟨k,hk,_,h1,h2⟩
 ·rw[h2,oDT (p:=a=b)]
  ·rfl
  ·exact List.ext_getElem? λi=>by
    by_cases hi:i<a.length
    ·exact h1 i hi
    ·rw[oGN (by omega),oGN (by omega)]
 ·rw[h2,oDF λe=>h1 (by rw[e])];rfl
theorem rz{α:Type}{a b:List α}(h:a.length=b.length):((a.length:Int) != (b.length:Int))=false:=by simp;omega
theorem nc{α:Type}{a b:List α}(h:¬a.length=b.length):((a.length:Int) != (b.length:Int))=true:=by simp;omega
theorem HP(x y:Int):(x != y)=!decide (x=y):=by
 by_cases h:x=y
 ·subst h;simp
 ·rw[oDF h,bne_iff_ne.2 h];rfl
theorem mB{α:Type}(b:Bool)(x y:α):(bif !b then x else y)=bif b then y else x:=by cases b<;>rfl
theorem E9(x y:DCn):(!((x.1==y.1)&&((x.2.1==y.2.1)&&((x.2.2.1==y.2.2.1)&&((x.2.2.2==y.2.2.2)&&true)))))=!decide (x=y):=by
 congr 1;rw[Bool.and_true,Bool.eq_iff_iff];simp[Prod.ext_iff]
theorem E3{a b:List Int}(ha:Sm a):dL a b=some (decide (a=b),()):=by
 unfold dL;delta bq;dsimp only;by_cases hl:a.length=b.length
 rotate_left
 ·rw[nc hl,oCT,oDF λe=>hl (by rw[e])]
 rw[rz hl,oCF];have h0:=ha
 have:=jS (f:=cg) hl ha (λi=>(a,b,(a.length:Int),(i:Int),())) (bad:=.inl (false,())) (fin:=.inr (a,b,(a.length:Int),(a.length:Int),false,()))
  (λi h h'=>by
   unfold cg;dsimp only;rw[oDT (show(i:Int)<a.length by omega),oCT,bS];simp only[oBS,cI h,cI h',HP,mB];rw[b7 (by omega) (by omega)]
   rfl)
  (by
   unfold cg;dsimp only;rw[oDF (show ¬(a.length:Int)<a.length by omega)]
   rfl)
 rw[show bE cg NN (a,b,(a.length:Int),0,())=_ from this];by_cases e:a=b
 ·rw[oDT e];rfl
 ·rw[oDF e];rfl
theorem xZ{a b:List DCn}(ha:Sm a):cw a b=some (decide (a=b),()):=by
 unfold cw;delta bq;dsimp only;by_cases hl:a.length=b.length
 rotate_left
 ·rw[nc hl,oCT,oDF λe=>hl (by rw[e])]
 rw[rz hl,oCF];have h0:=ha
 have:=jS (f:=bY) hl ha (λi=>(a,b,(a.length:Int),(i:Int),())) (bad:=.inl (false,())) (fin:=.inr (a,b,(a.length:Int),(a.length:Int),false,()))
  (λi h h'=>by
   unfold bY;dsimp only;rw[oDT (show(i:Int)<a.length by omega),oCT,bS];simp only[oBS,cI h,cI h',E9,mB];rw[b7 (by omega) (by omega)]
   rfl)
  (by
   unfold bY;dsimp only;rw[oDF (show ¬(a.length:Int)<a.length by omega)]
   rfl)
 rw[show bE bY NN (a,b,(a.length:Int),0,())=_ from this];by_cases e:a=b
 ·rw[oDT e];rfl
 ·rw[oDF e];rfl
theorem ro{a b:List DCn}(ha:Sm a):de a b=some (decide (a=b),()):=by
 unfold de;delta bq;dsimp only;by_cases hl:a.length=b.length
 rotate_left
 ·rw[nc hl,oCT,oDF λe=>hl (by rw[e])]
 rw[rz hl,oCF];have h0:=ha
 have:=jS (f:=cx) hl ha (λi=>(a,b,(i:Int),())) (bad:=.inl (false,())) (fin:=.inr (a,b,(a.length:Int),false,()))
  (λi h h'=>by
   unfold cx;delta bq;dsimp only;rw[oDT (show(i:Int)<a.length by omega),oCT,bS];simp only[oBS,cI h,cI h',E9,mB];rw[b7 (by omega) (by omega)]
   rfl)
  (by
   unfold cx;delta bq;dsimp only;rw[oDF (show ¬(a.length:Int)<a.length by omega)]
   rfl)
 rw[show bE cx NN (a,b,0,())=_ from this];by_cases e:a=b
 ·rw[oDT e];rfl
 ·rw[oDF e];rfl
abbrev PG:=Int×Int×List DCn×DTs
instance Jm:DecidableEq DCn:=inferInstance
instance Js:DecidableEq (Int×Int×Int×List DCn):=inferInstance
instance Jk:DecidableEq DTs:=inferInstanceAs (DecidableEq (Int×Int×Int×Int×(Int×Int×Int×List DCn)))
instance Jl:DecidableEq PG:=inferInstanceAs (DecidableEq (Int×Int×List DCn×DTs))
theorem uV{x y:Int}{p:Prop}[Decidable p]:(bif(x==y)then(some (decide p,()))else some (false,()):Option (Bool×Unit))=some (decide (x=y/\p),()):=by
 by_cases h:x=y
 ·subst h;simp
 ·rw[oBF h,oDF (p:=x=y/\p) λe=>h e.1];rfl
theorem zQ{p q:Prop}[Decidable p][Decidable q]:((some (decide p,())).bind λ(x0,_)=>bif x0 then some (decide q,())else some (false,()):Option (Bool×Unit))=some (decide (p/\q),()):=by
 by_cases h:p<;>by_cases h':q<;>simp[h,h']
theorem zP{x y z w:Int}{p:Prop}[Decidable p]:(bif((x==y)&&((z==w)&&true))then(some (decide p,()))else some (false,()):Option (Bool×Unit))=some (decide (x=y/\z=w/\p),()):=by
 by_cases h:x=y
 ·subst h;by_cases h:z=w
  ·subst h;simp
  ·rw[oBF h,oDF (p:=x=x/\z=w/\p) λe=>h e.2.1];simp
 ·rw[oBF h,oDF (p:=x=y/\z=w/\p) λe=>h e.1];rfl
theorem uX{o:Option (Bool×Unit)}:(o.bind λ(x0,_)=>some (x0,()))=o:=by
 cases o with
 |none=>rfl
 |some x=>obtain⟨x,⟨⟩⟩:=x;rfl
theorem Gp{x y:PG}(hx:Sm x.2.2.1)(hy:Sm x.2.2.2.2.2.2.2.2.2.2):
 gv x.1 x.2.1 x.2.2.1 x.2.2.2.1 x.2.2.2.2.1 x.2.2.2.2.2.1 x.2.2.2.2.2.2.1 x.2.2.2.2.2.2.2.1 x.2.2.2.2.2.2.2.2.1 x.2.2.2.2.2.2.2.2.2.1 x.2.2.2.2.2.2.2.2.2.2 y.1 y.2.1 y.2.2.1 y.2.2.2.1 y.2.2.2.2.1 y.2.2.2.2.2.1 y.2.2.2.2.2.2.1 y.2.2.2.2.2.2.2.1 y.2.2.2.2.2.2.2.2.1 y.2.2.2.2.2.2.2.2.2.1 y.2.2.2.2.2.2.2.2.2.2=some (decide (x=y),()):=by
 unfold gv;simp only[xZ hx,xZ hy,uX,uV,zQ,zP];congr 2;rw[decide_eq_decide];simp only[Prod.ext_iff,and_assoc]
theorem Ba{x y:DTs}(hx:Sm x.2.2.2.2.2.2.2):
 eB x.1 x.2.1 x.2.2.1 x.2.2.2.1 x.2.2.2.2.1 x.2.2.2.2.2.1 x.2.2.2.2.2.2.1 x.2.2.2.2.2.2.2 y.1 y.2.1 y.2.2.1 y.2.2.2.1 y.2.2.2.2.1 y.2.2.2.2.2.1 y.2.2.2.2.2.2.1 y.2.2.2.2.2.2.2=some (decide (x=y),()):=by
 unfold eB;simp only[ro hx,uX,uV];congr 2;rw[decide_eq_decide];simp only[Prod.ext_iff,and_assoc]
abbrev CC:=List (List DCn)
abbrev TT':=List DTs
def szs(C:CC):List Int:=C.map λc=>(c.length:Int)
theorem eY(C:CC):(szs C).length=C.length:=List.length_map _
theorem jI{α β:Type}{f:α->β}{l:List α}{i:Nat}(h:i<l.length):(l.take i).map f++[f l[i]]=(l.take (i+1)).map f:=by
 rw[<- lO h,List.map_append];rfl
theorem mT{C:CC}{T:TT'}(h:Sm C):dy C T=some (szs C,()):=by
 unfold dy;delta bq;dsimp only;have h0:=h
 have step:∀i,i<C.length->cu (C,(C.length:Int),(i:Int),C,T,szs (C.take i),())=some (.inl (C,(C.length:Int),((i+1:Nat):Int),C,T,szs (C.take (i+1)),())):=by
  intro i hi;unfold cu;delta bq;dsimp only;rw[oDT (show(i:Int)<C.length by omega),oCT,bS];simp only[oBS,cI hi];rw[bT (by rw[eY,oLT];omega) (by simp) (by omega) (by rw[eY,oLT,List.length_singleton];omega),oCT,b7 (by omega) (by omega)];have:List.append (szs (C.take i)) [((C[i].length:Nat):Int)]=szs (C.take (i+1)):=jI (f:=λc:List DCn=>(c.length:Int)) hi;rw[this];rfl
 have fin:cu (C,(C.length:Int),(C.length:Int),C,T,szs (C.take C.length),())=some (.inr (C,(C.length:Int),(C.length:Int),false,C,T,szs (C.take C.length),())):=by
  unfold cu;dsimp only;rw[oDF (show ¬(C.length:Int)<C.length by omega)];rfl
 have:=eD (f:=cu) (λi=>(C,(C.length:Int),(i:Int),C,T,szs (C.take i),())) (sf h) step fin;rw[show bE cu NN (C,(C.length:Int),0,C,T,[],())=_ from this,List.take_length,oBS]
def okZ(z:Int):Bool:=decide (1<=z/\z<=32)
theorem Am(z:Int):eV z=some (okZ z,()):=by
 unfold eV okZ;by_cases h:z>=1
 ·rw[oDT h,oCT];congr 2;rw[decide_eq_decide];omega
 ·rw[oDF h,oCF,oDF (by omega)]
def shp(C:CC)(T:TT'):Prop:=C.length<=4/\T.length<=4/\∀c∈C,okZ (c.length:Int)=true
instance {C:CC} {T:TT'}:Decidable (shp C T):=inferInstanceAs (Decidable (_/\_/\_))
theorem Ev{α:Type}{p:α->Bool}{l:List α}(h:∀i,(hi:i<l.length)->p l[i]=true):∀x∈l,p x=true:=by
 intro x hx;obtain⟨i,hi,rfl⟩:=List.mem_iff_getElem.1 hx;exact h i hi
theorem zF{C:CC}(h:Sm C):bZ C=some (!decide (∀c∈C,okZ (c.length:Int)=true),()):=by
 unfold bZ dc;delta bq;dsimp only;have h0:=h
 have step:∀i,i<C.length->((∀hi:i<C.length,okZ (C[i].length:Int)=true)/\bm (C,(C.length:Int),(i:Int),())=some (.inl (C,(C.length:Int),((i+1:Nat):Int),())))\/
  (¬(∀hi:i<C.length,okZ (C[i].length:Int)=true)/\bm (C,(C.length:Int),(i:Int),())=some (.inr (.inl ((i:Int),())))):=by
  intro i hi;unfold bm;dsimp only;rw[oDT (show(i:Int)<C.length by omega),oCT,bS]
  have e:eC C[i]=some (!okZ (C[i].length:Int),()):=by
   unfold eC;delta bq;dsimp only;rw[Am];rfl
  simp only[oBS,cI hi,e];rw[b7 (by omega) (by omega)];by_cases q:okZ (C[i].length:Int)=true
  ·exact .inl ⟨λ_=>q,by rw[q];rfl⟩
  ·exact .inr ⟨λg=>q (g hi),by rw[Bool.not_eq_true]at q;rw[q];rfl⟩
 have fin:bm (C,(C.length:Int),(C.length:Int),())=some (.inr (.inr (C,(C.length:Int),(C.length:Int),false,()))):=by
  unfold bm;dsimp only;rw[oDF (show ¬(C.length:Int)<C.length by omega)];rfl
 rcases uc (f:=bm) (λi=>(C,(C.length:Int),(i:Int),())) _ (sf h) step fin with⟨h1,h2⟩|⟨k,hk,_,h1,h2⟩
 ·rw[show bE bm NN (C,(C.length:Int),0,())=_ from h2];rw[oDT (Ev (p:=λc:List DCn=>okZ (c.length:Int)) λi hi=>h1 i hi hi)];rfl
 ·rw[show bE bm NN (C,(C.length:Int),0,())=_ from h2];rw[oDF (λg=>h1 λhi=>g _ (List.getElem_mem hi))];simp only[oBS];rw[oDT (show(k:Int)>=0 by omega)];rfl
theorem lU{C:CC}{T:TT'}(h:Sm C):dC C T=some (decide (shp C T),()):=by
 unfold dC;delta bq;dsimp only;by_cases h1:C.length<=4
 ·rw[oDT (show(C.length:Int)<=4 by omega),oCT];by_cases h2:T.length<=4
  ·rw[oDT (show(T.length:Int)<=4 by omega),oCT,zF h];simp only[oBS,Bool.not_not];congr 2;rw[decide_eq_decide];exact⟨λg=>⟨h1,h2,g⟩,λg=>g.2.2⟩
  ·rw[oDF (show ¬(T.length:Int)<=4 by omega),oCF,oDF λg=>h2 g.2.1]
 ·rw[oDF (show ¬(C.length:Int)<=4 by omega),oCF,oDF λg=>h1 g.1]
theorem zE{S:List Int}(h:Sm S)(hok:∀z∈S,okZ z=true):cf S=some (false,()):=by
 unfold cf dG;delta bq;dsimp only;have h0:=h
 have step:∀i,i<S.length->bD (S,(S.length:Int),(i:Int),())=some (.inl (S,(S.length:Int),((i+1:Nat):Int),())):=by
  intro i hi;unfold bD;dsimp only;rw[oDT (show(i:Int)<S.length by omega),oCT,bS]
  have e:fP S[i]=some (false,()):=by
   unfold fP;rw[Am,hok _ (List.getElem_mem hi)];rfl
  simp only[oBS,cI hi,e];rw[b7 (by omega) (by omega)];rfl
 have fin:bD (S,(S.length:Int),(S.length:Int),())=some (.inr (.inr (S,(S.length:Int),(S.length:Int),false,()))):=by
  unfold bD;dsimp only;rw[oDF (show ¬(S.length:Int)<S.length by omega)];rfl
 have:=eD (f:=bD) (λi=>(S,(S.length:Int),(i:Int),())) (sf h) step fin;rw[show bE bD NN (S,(S.length:Int),0,())=_ from this];rfl
theorem vw{C:CC}{T:TT'}:((szs C).length<=4/\T.length<=4/\∀z∈szs C,okZ z=true)↔shp C T:=by
 unfold shp szs;rw[List.length_map];simp
def rL(z:Int):Nat:=((z+7)/8).toNat
def rr(S:List Int)(i:Nat):List PID:=(List.range (rL (S.getD i 0))).map λ(j:Nat)=>((i:Int),(j:Int))
def pgs(S:List Int)(n:Nat):List PID:=(List.range S.length).flatMap (rr S)++(List.range n).map λ(t:Nat)=>(-1,(t:Int))
def Szs(S:List Int):Prop:=S.length<=4/\∀z∈S,okZ z=true
theorem Ah{S:List Int}(h:Szs S){i:Nat}(hi:i<S.length):1<=S[i]/\S[i]<=32:=of_decide_eq_true (h.2 _ (List.getElem_mem hi))
theorem E8{S:List Int}(h:Szs S){i:Nat}(hi:i<S.length):rL (S.getD i 0)<=4:=by
 have:=Ah h hi
 have e:S.getD i 0=S[i]:=by simp[hi]
 rw[e];unfold rL;omega
theorem r9{S:List Int}(h:Szs S):∀i,i<=S.length->((List.range i).flatMap (rr S)).length<=4*i:=by
 intro i
 induction i with
 |zero=>intro _;simp
 |succ i ih=>
  intro hi;rw[List.range_succ,List.flatMap_append,List.length_append];have h1:=ih (by omega)
  have h2:(rr S i).length=rL (S.getD i 0):=by unfold rr;simp
  have h3:=E8 h (i:=i) (by omega);simp only[List.flatMap_cons,List.flatMap_nil,List.append_nil];omega
theorem Ch{S:List Int}(i:Nat):(List.range (i+1)).flatMap (rr S)=(List.range i).flatMap (rr S)++rr S i:=by
 rw[List.range_succ,List.flatMap_append];simp
theorem ru{α:Type}(f:Nat->α)(j:Nat):(List.range (j+1)).map f=(List.range j).map f++[f j]:=by
 rw[List.range_succ,List.map_append];rfl
theorem EV{z:Int}(h:1<=z/\z<=32)(j:Nat):((j:Int)*8<z)↔j<rL z:=by
 unfold rL;omega
theorem EW{S:List Int}{n:Nat}(h:Szs S)(hn:n<=4):fZ S n=some (pgs S n,0,()):=by
 unfold fZ;delta bq;dsimp only;have h4:=h.1;rw[oDF (show ¬(S.length:Int)>4 by omega),oCF,oDF (show ¬(n:Int)>4 by omega),oCF,oDF (show ¬(n:Int)<0 by omega),oCF];rw[zE (by unfold Sm;omega) h.2,oBS];simp only[oCF]
 have To:∀i,i<S.length->cF ((n:Int),S,(S.length:Int),(i:Int),(List.range i).flatMap (rr S),())=some (.inl ((n:Int),S,(S.length:Int),((i+1:Nat):Int),(List.range (i+1)).flatMap (rr S),())):=by
  intro i hi;have hz:=Ah h hi;have hl:=r9 h i (by omega);have hc:=E8 h hi
  have eg:S.getD i 0=S[i]:=by simp[hi]
  unfold cF;dsimp only;rw[oDT (show(i:Int)<S.length by omega),oCT,bS];simp only[oBS,cI hi]
  let A:=(List.range i).flatMap (rr S)
  let st:Nat->_:=λj=>((n:Int),(i:Int),S[i],(j:Int),S,(S.length:Int),(i:Int),A++(List.range j).map (λ(j:Nat)=>(((i:Int),(j:Int)):PID)),())
  have Tn:∀j,j<rL S[i]->cn (st j)=some (.inl (st (j+1))):=by
   intro j hj;show cn ((n:Int),(i:Int),S[i],(j:Int),S,(S.length:Int),(i:Int),A++(List.range j).map (λ(j:Nat)=>(((i:Int),(j:Int)):PID)),())=_;unfold cn;dsimp only;rw[eg]at hc;rw[b7 (x:=(j:Int)*8) (by omega) (by omega),oDT ((EV hz j).2 hj),oCT];have hA:A.length<=4*i:=hl;rw[bT (by rw[List.length_append,List.length_map,List.length_range];omega) (by simp) (by omega) (by rw[List.length_append,List.length_map,List.length_range,List.length_singleton];omega),oCT,b7 (by omega) (by omega)]
   have e:List.append (A++(List.range j).map (λ(j:Nat)=>(((i:Int),(j:Int)):PID))) [((i:Int),(j:Int))]=A++(List.range (j+1)).map (λ(j:Nat)=>(((i:Int),(j:Int)):PID)):=by
    rw[ru,<- List.append_assoc];rfl
   rw[e];rfl
  have PM:cn (st (rL S[i]))=some (.inr ((n:Int),(i:Int),S[i],(rL S[i]:Int),S,(S.length:Int),(i:Int),false,A++(List.range (rL S[i])).map (λ(j:Nat)=>(((i:Int),(j:Int)):PID)),())):=by
   show cn ((n:Int),(i:Int),S[i],(rL S[i]:Int),S,(S.length:Int),(i:Int),A++(List.range (rL S[i])).map (λ(j:Nat)=>(((i:Int),(j:Int)):PID)),())=_;unfold cn;dsimp only;rw[eg]at hc;rw[b7 (x:=(rL S[i]:Int)*8) (by omega) (by omega),oDF (λg=>by have:=(EV hz _).1 g;omega)];rfl
  have hI:=eD (f:=cn) st (n:=rL S[i]) (N:=NN) (by rw[eg]at hc;unfold NN;omega) Tn PM
  have e0:st 0=((n:Int),(i:Int),S[i],0,S,(S.length:Int),(i:Int),(List.range i).flatMap (rr S),()):=by
   show((n:Int),(i:Int),S[i],(0:Int),S,(S.length:Int),(i:Int),A++[],())=_;rw[List.append_nil]
  rw[<- e0,hI];simp only[oBS];rw[b7 (by omega) (by omega),Ch]
  have er:(List.range (rL S[i])).map (λ(j:Nat)=>(((i:Int),(j:Int)):PID))=rr S i:=by unfold rr;rw[eg]
  rw[er];rfl
 have PN:cF ((n:Int),S,(S.length:Int),(S.length:Int),(List.range S.length).flatMap (rr S),())=some (.inr ((n:Int),S,(S.length:Int),(S.length:Int),false,(List.range S.length).flatMap (rr S),())):=by
  unfold cF;dsimp only;rw[oDF (show ¬(S.length:Int)<S.length by omega)];rfl
 have hO:=eD (f:=cF) (λi=>((n:Int),S,(S.length:Int),(i:Int),(List.range i).flatMap (rr S),())) (n:=S.length) (N:=NN) (by unfold NN;omega) To PN;rw[show bE cF NN ((n:Int),S,(S.length:Int),0,[],())=_ from hO];simp only[oBS];have hl:=r9 h S.length (Nat.le_refl _)
 let B:=(List.range S.length).flatMap (rr S)
 have hB:B.length<=4*S.length:=hl
 let st:Nat->_:=λt=>((n:Int),(t:Int),B++(List.range t).map (λ(t:Nat)=>((-1,(t:Int)):PID)),())
 have stepT:∀t,t<n->cj (st t)=some (.inl (st (t+1))):=by
  intro t ht;show cj ((n:Int),(t:Int),B++(List.range t).map (λ(t:Nat)=>((-1,(t:Int)):PID)),())=_;unfold cj;dsimp only;rw[oDT (show(t:Int)<n by omega),oCT];rw[bT (by rw[List.length_append,List.length_map,List.length_range];omega) (by simp) (by omega) (by rw[List.length_append,List.length_map,List.length_range,List.length_singleton];omega),oCT,b7 (by omega) (by omega)]
  have e:List.append (B++(List.range t).map (λ(t:Nat)=>((-1,(t:Int)):PID))) [(-1,(t:Int))]=B++(List.range (t+1)).map (λ(t:Nat)=>((-1,(t:Int)):PID)):=by
   rw[ru,<- List.append_assoc];rfl
  rw[e];rfl
 have PO:cj (st n)=some (.inr ((n:Int),(n:Int),false,B++(List.range n).map (λ(t:Nat)=>((-1,(t:Int)):PID)),())):=by
  show cj ((n:Int),(n:Int),B++(List.range n).map (λ(t:Nat)=>((-1,(t:Int)):PID)),())=_;unfold cj;dsimp only;rw[oDF (show ¬(n:Int)<n by omega)];rfl
 have hT:=eD (f:=cj) st (n:=n) (N:=NN) (by unfold NN;omega) stepT PO
 have e0:st 0=((n:Int),0,B,()):=by
  show((n:Int),(0:Int),B++[],())=_;rw[List.append_nil]
 rw[e0]at hT;rw[hT];rfl
abbrev zTs:DTs:=(0,0,0,0,0,0,0,[])
def pg(C:CC)(T:TT')(p:PID):PG:=if p.1=-1 then(p.1,p.2,[],T.getD p.2.toNat zTs)else(p.1,p.2,((C.getD p.1.toNat []).drop (8*p.2.toNat)).take 8,zTs)
def SmT(T:TT'):Prop:=∀t∈T,Sm t.2.2.2.2.2.2.2
theorem si{S:List Int}{i:Nat}{p:PID}:p∈rr S i↔∃j:Nat,j<rL (S.getD i 0)/\p=((i:Int),(j:Int)):=by
 unfold rr;simp only[List.mem_map,List.mem_range];exact⟨λ⟨j,h,e⟩=>⟨j,h,e.symm⟩,λ⟨j,h,e⟩=>⟨j,h,e.symm⟩⟩
theorem jQ{S:List Int}{n:Nat}{p:PID}:p∈pgs S n↔(∃i j:Nat,i<S.length/\j<rL (S.getD i 0)/\p=((i:Int),(j:Int)))\/∃t:Nat,t<n/\p=(-1,(t:Int)):=by
 unfold pgs;simp only[List.mem_append,List.mem_flatMap,List.mem_range,si,List.mem_map];constructor
 ·rintro(⟨i,hi,j,hj,e⟩|⟨t,ht,e⟩)
  ·exact .inl ⟨i,j,hi,hj,e⟩
  ·exact .inr ⟨t,ht,e.symm⟩
 ·rintro(⟨i,j,hi,hj,e⟩|⟨t,ht,e⟩)
  ·exact .inl ⟨i,hi,j,hj,e⟩
  ·exact .inr ⟨t,ht,e.symm⟩
theorem sa{S:List Int}{n:Nat}(h:Szs S)(hn:n<=4):(pgs S n).length<=20:=by
 have h1:=r9 h S.length (Nat.le_refl _);have h2:=h.1;unfold pgs;rw[List.length_append,List.length_map,List.length_range];omega
theorem o9{C:CC}{T:TT'}(h:shp C T):Szs (szs C):=⟨by rw[eY];exact h.1,(vw.2 h).2.2⟩
theorem tj{a:List DCn}(h:Sm a):b6 a=some (a,()):=by
 unfold b6;rw[bT (by omega) h (by omega) (by have:=h;omega),oCT];rfl
theorem je{C:CC}{i:Nat}(h:i<C.length):(szs C).getD i 0=(C[i].length:Int):=by simp[szs,h]
theorem EJ{l:List DCn}{a:Nat}(h:a<=l.length):Aa l a (Nat.sub (Nat.min (a+8) l.length) a)=(l.drop a).take 8:=by
 unfold Aa;rcases Nat.le_total (a+8) l.length with h1|h1
 ·rw[show Nat.min (a+8) l.length=a+8 from Nat.min_eq_left h1,show Nat.sub (a+8) a=8 by show a+8-a=8;omega]
 ·rw[show Nat.min (a+8) l.length=l.length from Nat.min_eq_right h1,show Nat.sub l.length a=(l.drop a).length by rw[List.length_drop];rfl,List.take_length,List.take_of_length_le (by rw[List.length_drop];omega)]
theorem BN(a b:Nat):mmR false (a:Int) (b:Int)=(Nat.min a b:Nat):=by
 unfold mmR;simp only[Bool.false_eq_true,if_false];show _=((min a b:Nat):Int);split<;>omega
theorem xI{c:List DCn}{j:Nat}(h:j<rL (c.length:Int)):8*j<c.length:=by
 unfold rL at h;omega
theorem l6{C:CC}{T:TT'}{i j:Nat}(hi:i<C.length):pg C T ((i:Int),(j:Int))=((i:Int),(j:Int),((C[i].drop (8*j)).take 8),zTs):=by
 unfold pg;rw[oIN (by simp)];simp[hi]
theorem ff{C:CC}{T:TT'}{t:Nat}(ht:t<T.length):pg C T (-1,(t:Int))=(-1,(t:Int),[],T[t]):=by
 unfold pg;rw[oIP rfl];simp[ht]
def Ic(x:PG):Int×Int×List DCn×Int×Int×Int×Int×Int×Int×Int×List DCn×Unit:=(x.1,x.2.1,x.2.2.1,x.2.2.2.1,x.2.2.2.2.1,x.2.2.2.2.2.1,x.2.2.2.2.2.2.1,x.2.2.2.2.2.2.2.1,x.2.2.2.2.2.2.2.2.1,x.2.2.2.2.2.2.2.2.2.1,x.2.2.2.2.2.2.2.2.2.2,())
theorem H9{C:CC}{T:TT'}(h:shp C T)(hT:SmT T){p:PID}(hp:p∈pgs (szs C) T.length):fF C T p.1 p.2=some (Ic (pg C T p)):=by
 unfold fF
 rcases jQ.1 hp with⟨i,j,hi,hj,rfl⟩|⟨t,ht,rfl⟩
 ·rw[eY]at hi;rw[je hi]at hj;have ZX:=xI hj;have hok:=of_decide_eq_true (h.2.2 _ (List.getElem_mem hi));rw[oBF (show((i:Int))≠-1 by omega),oCF,bS];simp only[oBS,cI hi];unfold eJ;delta bq;dsimp only;rw[oDF (show ¬(j:Int)<0 by omega),oCF,oDF (show ¬(j:Int)>32 by omega),oCF];simp only[oBS];rw[b7 (x:=(j:Int)*8) (by omega) (by omega),oDF (show ¬(j:Int)*8>=(C[i].length:Int) by omega),oCF,b7 (x:=(j:Int)*8+8) (by omega) (by omega)];rw[show(j:Int)*8=((8*j:Nat):Int) by omega,show((8*j:Nat):Int)+8=((8*j+8:Nat):Int) by omega,BN,bS,bS];simp only[oBS]
  have ho:iK (8*j) (Nat.min (8*j+8) C[i].length) C[i].length=true:=by
   unfold iK;have h1:Nat.min (8*j+8) C[i].length=min (8*j+8) C[i].length:=rfl;rw[h1];simp only[oBA,oDE];omega
  rw[ho,oCT,EJ (by omega)];simp only[oBS];rw[tj (by unfold Sm;rw[oLT];omega),l6 hi];rfl
 ·have hs:Sm (T[t]'ht).2.2.2.2.2.2.2:=hT _ (List.getElem_mem ht);rw[show((-1:Int)==-1)=true from rfl,oCT,bS];simp only[oBS,cI ht];unfold eX;rw[tj hs,ff ht];rfl
theorem CP{C:CC}{T:TT'}(h:shp C T)(hT:SmT T):eF C T=some ((pgs (szs C) T.length).map (pg C T),0,()):=by
 unfold eF;have h4:=h.1
 have hS:Sm C:=by unfold Sm;omega
 rw[lU hS,oBS];dsimp only;rw[oDT h];simp only[oNT,oCF];rw[mT hS,oBS];delta bq;dsimp only;rw[EW (o9 h) h.2.1,oBS];dsimp only;have hlen:=sa (o9 h) h.2.1;have hg:∀p∈pgs (szs C) T.length,fF C T p.1 p.2=some (Ic (pg C T p)):=λp hp=>H9 h hT hp;generalize pgs (szs C) T.length=ps at hlen hg⊢
 have step:∀i,i<ps.length->cS ((ps.length:Int),(i:Int),C,T,ps,(ps.take i).map (pg C T),())=some (.inl ((ps.length:Int),((i+1:Nat):Int),C,T,ps,(ps.take (i+1)).map (pg C T),())):=by
  intro i hi;unfold cS;dsimp only;rw[oDT (show(i:Int)<ps.length by omega),oCT,bS];simp only[oBS,cI hi,hg _ (List.getElem_mem hi)];rw[bT (by rw[List.length_map,oLT];omega) (by simp) (by omega) (by rw[List.length_map,oLT,List.length_singleton];omega),oCT,b7 (by omega) (by omega),<- jI hi];rfl
 have fin:cS ((ps.length:Int),(ps.length:Int),C,T,ps,(ps.take ps.length).map (pg C T),())=some (.inr ((ps.length:Int),(ps.length:Int),false,C,T,ps,(ps.take ps.length).map (pg C T),())):=by
  unfold cS;dsimp only;rw[oDF (show ¬(ps.length:Int)<ps.length by omega)];rfl
 have:=eD (f:=cS) (λi=>((ps.length:Int),(i:Int),C,T,ps,(ps.take i).map (pg C T),())) (n:=ps.length) (N:=NN) (by unfold NN;omega) step fin;rw[show bE cS NN ((ps.length:Int),0,C,T,ps,[],())=_ from this,List.take_length];rfl
theorem CO{C:CC}{T:TT'}(h:¬shp C T)(hS:Sm C):eF C T=some ([],1,()):=by
 unfold eF;rw[lU hS,oBS];dsimp only;rw[oDF h];rfl
def CQ(C:CC)(T:TT')(D:CC)(U:TT'):Prop:=shp C T/\shp D U/\szs C=szs D/\T.length=U.length
instance {C:CC} {T:TT'} {D:CC} {U:TT'}:Decidable (CQ C T D U):=inferInstanceAs (Decidable (_/\_/\_/\_))
def dif(C:CC)(T:TT')(D:CC)(U:TT'):List PID:=(pgs (szs C) T.length).filter λp=>!decide (pg C T p=pg D U p)
theorem vl{α:Type}{q:α->Bool}{l:List α}{i:Nat}(h:i<l.length):(l.take (i+1)).filter q=(l.take i).filter q++bif q l[i]then[l[i]]else[]:=by
 rw[<- lO h,List.filter_append];congr 1
theorem IN{C:CC}{T:TT'}(p:PID):((pg C T p).1,(pg C T p).2.1)=p:=by
 unfold pg;split<;>rfl
theorem II{C:CC}{T:TT'}(h:shp C T)(hT:SmT T){p:PID}(hp:p∈pgs (szs C) T.length):Sm (pg C T p).2.2.1/\Sm (pg C T p).2.2.2.2.2.2.2.2.2.2:=by
 rcases jQ.1 hp with⟨i,j,hi,hj,rfl⟩|⟨t,ht,rfl⟩
 ·rw[eY]at hi;rw[l6 hi];exact⟨by unfold Sm;rw[oLT];omega,by unfold Sm;simp⟩
 ·rw[ff ht];exact⟨by unfold Sm;simp,hT _ (List.getElem_mem ht)⟩
theorem Gr{C:CC}{T:TT'}{D:CC}{U:TT'}(h:shp C T):(dif C T D U).length<=20:=Nat.le_trans (List.length_filter_le _ _) (sa (o9 h) h.2.1)
theorem uY{C:CC}{T:TT'}{D:CC}{U:TT'}(h:CQ C T D U)(hT:SmT T)(hU:SmT U):cG C T D U=some (dif C T D U,0,()):=by
 unfold cG;obtain⟨h1,h2,h3,h4⟩:=h;have k1:=h1.1;have k2:=h2.1
 have hC:Sm C:=by unfold Sm;omega
 have hD:Sm D:=by unfold Sm;omega
 rw[CP h1 hT,oBS];dsimp only;rw[CP h2 hU,oBS];dsimp only;simp only[bne_self_eq_false,oCF];rw[mT hC,oBS];dsimp only;rw[mT hD,oBS];dsimp only;rw[E3 (by unfold Sm;rw[eY];omega),oBS,oDT h3];delta bq;simp only[oNT,oCF,oBS];rw[rz h4,oCF,<- h3,<- h4];unfold dif;have hlen:=sa (o9 h1) h1.2.1;have hm:∀p∈pgs (szs C) T.length,Sm (pg C T p).2.2.1/\Sm (pg C T p).2.2.2.2.2.2.2.2.2.2:=λp hp=>II h1 hT hp;generalize pgs (szs C) T.length=ps at hlen hm⊢;rw[List.length_map]
 have step:∀i,i<ps.length->b4 ((ps.length:Int),(i:Int),ps.map (pg C T),ps.map (pg D U),(ps.take i).filter (λp=>!decide (pg C T p=pg D U p)),())=
  some (.inl ((ps.length:Int),((i+1:Nat):Int),ps.map (pg C T),ps.map (pg D U),(ps.take (i+1)).filter (λp=>!decide (pg C T p=pg D U p)),())):=by
  intro i hi
  have Uf:i<(ps.map (pg C T)).length:=by rw[List.length_map];exact hi
  have hi2:i<(ps.map (pg D U)).length:=by rw[List.length_map];exact hi
  obtain⟨m1,m2⟩:=hm _ (List.getElem_mem hi);unfold b4;dsimp only;rw[oDT (show(i:Int)<ps.length by omega),oCT,bS];simp only[oBS,cI Uf,cI hi2,List.getElem_map];rw[Gp m1 m2];simp only[oBS];rw[vl hi];by_cases e:pg C T ps[i]=pg D U ps[i]
  ·rw[oDT e];simp only[oNT,oCF,oBS,List.append_nil];rw[b7 (by omega) (by omega)];rfl
  ·rw[oDF e];simp only[Bool.not_false,oCT,oBS];have hf:=List.length_filter_le (λp=>!decide (pg C T p=pg D U p)) (ps.take i);rw[oLT]at hf;rw[bT (Nat.le_trans hf (by omega)) (by simp) (by omega) (Nat.le_trans (Nat.add_le_add_right hf _) (by rw[List.length_singleton];omega)),oCT,IN];simp only[oBS];rw[b7 (by omega) (by omega)];rfl
 have fin:b4 ((ps.length:Int),(ps.length:Int),ps.map (pg C T),ps.map (pg D U),(ps.take ps.length).filter (λp=>!decide (pg C T p=pg D U p)),())=
  some (.inr ((ps.length:Int),(ps.length:Int),false,ps.map (pg C T),ps.map (pg D U),(ps.take ps.length).filter (λp=>!decide (pg C T p=pg D U p)),())):=by
  unfold b4;dsimp only;rw[oDF (show ¬(ps.length:Int)<ps.length by omega)];rfl
 have:=eD (f:=b4) (λi=>((ps.length:Int),(i:Int),ps.map (pg C T),ps.map (pg D U),(ps.take i).filter (λp=>!decide (pg C T p=pg D U p)),())) (n:=ps.length) (N:=NN) (by unfold NN;omega) step fin;rw[show bE b4 NN ((ps.length:Int),0,ps.map (pg C T),ps.map (pg D U),[],())=_ from this,List.take_length];rfl
theorem zT{C:CC}{T:TT'}{D:CC}{U:TT'}(h:¬CQ C T D U)(hC:Sm C)(hD:Sm D)(hT:SmT T)(hU:SmT U):cG C T D U=some ([],1,()):=by
 unfold cG;by_cases h1:shp C T
 rotate_left
 ·rw[CO h1 hC,oBS];dsimp only;by_cases h2:shp D U
  ·rw[CP h2 hU];rfl
  ·rw[CO h2 hD];rfl
 rw[CP h1 hT,oBS];dsimp only;by_cases h2:shp D U
 rotate_left
 ·rw[CO h2 hD];rfl
 rw[CP h2 hU,oBS];dsimp only;simp only[bne_self_eq_false,oCF];rw[mT hC,oBS];dsimp only;rw[mT hD,oBS];dsimp only;rw[E3 (by unfold Sm;rw[eY];exact hC),oBS];by_cases h3:szs C=szs D
 rotate_left
 ·rw[oDF h3];rfl
 rw[oDT h3];delta bq;simp only[oNT,oCF,oBS];rw[nc λh4=>h ⟨h1,h2,h3,h4⟩];rfl
theorem IR{x n:Int}(hn:0<n)(Wr:n<=1099511627776):∃y,oy x n=some (y,())/\0<=y/\y<n:=by
 unfold oy lw;rw[bne_iff_ne.2 (show n≠0 by omega),oCT];have h1:=Int.lt_tmod_of_pos x hn;have h2:=Int.tmod_lt_of_pos x hn;dsimp only;by_cases h:Int.tmod x n<0
 ·rw[oDT h,oCT,b7 (by omega) (by omega)];exact⟨_,rfl,by omega,by omega⟩
 ·rw[oDF h,oCF];exact⟨_,rfl,by omega,by omega⟩
theorem dS{n:Int}(hn:0<n)(Wr:n<=1099511627776){l:List Int}(hl:l.length<=400){k:Int}(hk:0<=k):∃x k',bn n l k=some (x,l,k',())/\0<=x/\x<n/\0<=k':=by
 unfold bn;delta bq;dsimp only;by_cases h:k>=l.length
 ·rw[oDT h,oCT];exact⟨0,k,rfl,by omega,hn,hk⟩
 ·rw[oDF h,oCF,b7 (x:=k+1) (by omega) (by omega),b7 (by omega) (by omega)];obtain⟨i,rfl⟩:∃i:Nat,k=i:=⟨k.toNat,by omega⟩
  have hi:i<l.length:=by omega
  rw[show(i:Int)+1-1=i by omega,bS];simp only[oBS,cI hi];obtain⟨y,e,h1,h2⟩:=IR (x:=l[i]) hn Wr;rw[e];exact⟨y,(i:Int)+1,rfl,h1,h2,by omega⟩
theorem CA{l:List Int}(hl:l.length<=400){k:Int}(hk:0<=k):∃(c:DCn)(k':Int),dP l k=some (c.1,c.2.1,c.2.2.1,c.2.2.2,l,k',())/\0<=k':=by
 unfold dP;obtain⟨x,k1,e,_,_,h1⟩:=dS (n:=5) (by omega) (by omega) hl hk;rw[e];simp only[oBS];by_cases h:x=4
 ·rw[beq_iff_eq.2 h,oCT];obtain⟨x2,k2,e,_,_,h2⟩:=dS (n:=3) (by omega) (by omega) hl h1;rw[e];simp only[oBS];obtain⟨x3,k3,e,_,_,h3⟩:=dS (n:=8) (by omega) (by omega) hl h2;rw[e];exact⟨(1,0,x2,x3),k3,rfl,h3⟩
 ·rw[oBF h,oCF];obtain⟨x2,k2,e,_,_,h2⟩:=dS (n:=40) (by omega) (by omega) hl h1;rw[e];exact⟨(0,wk .u16 x2,0,0),k2,rfl,h2⟩
theorem EM{l:List Int}(hl:l.length<=400){k:Int}(hk:0<=k):∃(v:DTs)(k':Int),fV l k=some (v.1,v.2.1,v.2.2.1,v.2.2.2.1,v.2.2.2.2.1,v.2.2.2.2.2.1,v.2.2.2.2.2.2.1,v.2.2.2.2.2.2.2,l,k',())/\v.2.2.2.2.2.2.2.length<=8/\0<=k':=by
 unfold fV;obtain⟨x1,k1,e,_,_,h1⟩:=dS (n:=5) (by omega) (by omega) hl hk;rw[e];simp only[oBS];obtain⟨x2,k2,e,_,_,h2⟩:=dS (n:=20) (by omega) (by omega) hl h1;rw[e];simp only[oBS];obtain⟨x3,k3,e,_,_,h3⟩:=dS (n:=30) (by omega) (by omega) hl h2;rw[e];simp only[oBS];obtain⟨x4,k4,e,_,_,h4⟩:=dS (n:=4) (by omega) (by omega) hl h3;rw[e];simp only[oBS];obtain⟨x5,k5,e,_,_,h5⟩:=dS (n:=4) (by omega) (by omega) hl h4;rw[e];simp only[oBS];obtain⟨x6,k6,e,_,_,h6⟩:=dS (n:=7) (by omega) (by omega) hl h5;rw[e];simp only[oBS];obtain⟨x7,k7,e,_,_,h7⟩:=dS (n:=9) (by omega) (by omega) hl h6;rw[e];simp only[oBS]
 let st:Int->Int->List DCn->_:=λi k r=>(i,l,k,(0:Int),(0:Int),(0:Int),(0:Int),(0:Int),(0:Int),(0:Int),(),x1,x2,x3,w64 (x4-1),w64 (x5-1),x6,wk .u16 x7,r,())
 have step:∀(i:Nat)(k:Int)(r:List DCn),0<=k->r.length=i->i<8->∃(k':Int)(r':List DCn),0<=k'/\r'.length=i+1/\c9 (st i k r)=some (.inl (st ((i+1:Nat):Int) k' r')):=by
  intro i k r hk hr hi;show ∃(k':Int)(r':List DCn),0<=k'/\r'.length=i+1/\c9 ((i:Int),l,k,0,0,0,0,0,0,0,(),x1,x2,x3,w64 (x4-1),w64 (x5-1),x6,wk .u16 x7,r,())=_;unfold c9;dsimp only;rw[oDT (show(i:Int)<8 by omega),oCT];obtain⟨c,k',e,YQ⟩:=CA hl hk;rw[e];simp only[oBS];rw[bT (by omega) (by simp) (by omega) (by rw[List.length_singleton];omega),oCT,b7 (by omega) (by omega)];exact⟨k',r++[c],YQ,by rw[List.length_append,List.length_singleton,hr],rfl⟩
 have go:∀j i:Nat,i+j=8->∀(k:Int)(r:List DCn),0<=k->r.length=i->∀N,j<N->∃k' r',0<=k'/\r'.length=8/\bE c9 N (st i k r)=some (8,false,l,k',0,0,0,0,0,0,0,(),x1,x2,x3,w64 (x4-1),w64 (x5-1),x6,wk .u16 x7,r',()):=by
  intro j
  induction j with
  |zero=>
   intro i hi k r hk hr N hN;obtain⟨N,rfl⟩:∃m,N=m+1:=⟨N-1,by omega⟩;refine⟨k,r,hk,by omega,?_⟩
   obtain rfl:i=8:=by omega
   rfl
  |succ j ih=>
   intro i hi k r hk hr N hN;obtain⟨N,rfl⟩:∃m,N=m+1:=⟨N-1,by omega⟩;obtain⟨k1,r1,Y9,Z6,e⟩:=step i k r hk hr (by omega);obtain⟨k2,r2,hk2,V8,e2⟩:=ih (i+1) (by omega) k1 r1 Y9 Z6 N (by omega);refine⟨k2,r2,hk2,V8,?_⟩;simp only[bE,e,oBS];exact e2
 obtain⟨k8,r,MZ,hr,e⟩:=go 8 0 rfl k7 [] h7 rfl NN (by unfold NN;omega);rw[show bE c9 NN (0,l,k7,0,0,0,0,0,0,0,(),x1,x2,x3,w64 (x4-1),w64 (x5-1),x6,wk .u16 x7,[],())=_ from e];exact⟨(x1,x2,x3,w64 (x4-1),w64 (x5-1),x6,wk .u16 x7,r),k8,rfl,by show r.length<=8;omega,MZ⟩
def kV(C:CC)(T:TT'):Prop:=1<=C.length/\shp C T/\SmT T
theorem Fo{l:List Int}(hl:l.length<=400){k:Int}(hk:0<=k):∃(C:CC)(T:TT')(k':Int),gt l k=some (C,T,l,k',())/\kV C T/\0<=k':=by
 unfold gt;obtain⟨x1,k1,e,a1,b1,h1⟩:=dS (n:=3) (by omega) (by omega) hl hk;rw[e];simp only[oBS]
 have row:∀(j:Nat)(o:Int)(C:CC)(k:Int)(r:List DCn),0<=k->r.length+j<=32->∀N,j<N->∃k' r',0<=k'/\r'.length=r.length+j /\
  bE ew N (o,(j:Int)-1,l,k,(),(),C,(),r,())=some (o,-1,false,l,k',(),(),C,(),r',()):=by
  intro j o C
  induction j with
  |zero=>
   intro k r hk hr N hN;obtain⟨N,rfl⟩:∃m,N=m+1:=⟨N-1,by omega⟩;exact⟨k,r,hk,by omega,rfl⟩
  |succ j ih=>
   intro k r hk hr N hN;obtain⟨N,rfl⟩:∃m,N=m+1:=⟨N-1,by omega⟩;obtain⟨c,k1,e,Y9⟩:=CA hl hk
   have e1:ew (o,((j+1:Nat):Int)-1,l,k,(),(),C,(),r,())=some (.inl (o,(j:Int)-1,l,k1,(),(),C,(),r++[c],())):=by
    unfold ew;dsimp only;rw[oDT (show((j+1:Nat):Int)-1>=0 by omega),oCT,e];simp only[oBS];rw[bT (by omega) (by simp) (by omega) (by rw[List.length_singleton];omega),oCT,b7 (by omega) (by omega),show((j+1:Nat):Int)-1-1=(j:Int)-1 by omega];rfl
   obtain⟨k2,r2,hk2,V8,e2⟩:=ih k1 (r++[c]) Y9 (by rw[List.length_append,List.length_singleton];omega) N (by omega);refine⟨k2,r2,hk2,by rw[V8,List.length_append,List.length_singleton];omega,?_⟩;simp only[bE,e1,oBS];exact e2
 have Rl:∀(j:Nat)(C:CC)(k:Int),0<=k->C.length+j<=4->(∀c∈C,okZ (c.length:Int)=true)->∀N,j<N->∃k' C',0<=k'/\C'.length=C.length+j/\(∀c∈C',okZ (c.length:Int)=true)/\
  bE eu N ((j:Int)-1,l,k,(),(),C,(),())=some (-1,false,l,k',(),(),C',(),()):=by
  intro j
  induction j with
  |zero=>
   intro C k hk hC ho N hN;obtain⟨N,rfl⟩:∃m,N=m+1:=⟨N-1,by omega⟩;exact⟨k,C,hk,by omega,ho,rfl⟩
  |succ j ih=>
   intro C k hk hC ho N hN;obtain⟨N,rfl⟩:∃m,N=m+1:=⟨N-1,by omega⟩;obtain⟨y,k1,e,ya,yb,Y9⟩:=dS (n:=24) (by omega) (by omega) hl hk;obtain⟨k2,r,hk2,hr,e2⟩:=row (y.toNat+1) (((j+1:Nat):Int)-1) C k1 [] Y9 (by rw[List.length_nil];omega) NN (by unfold NN;omega);rw[show((y.toNat+1:Nat):Int)-1=y by omega]at e2;rw[List.length_nil]at hr
   have e1:eu (((j+1:Nat):Int)-1,l,k,(),(),C,(),())=some (.inl ((j:Int)-1,l,k2,(),(),C++[r],(),())):=by
    unfold eu;dsimp only;rw[oDT (show((j+1:Nat):Int)-1>=0 by omega),oCT,e];simp only[oBS];rw[e2];simp only[oBS];rw[bT (by omega) (by simp) (by omega) (by rw[List.length_singleton];omega),oCT,b7 (by omega) (by omega),show((j+1:Nat):Int)-1-1=(j:Int)-1 by omega];rfl
   obtain⟨k3,C3,hk3,Mp,Yf,e3⟩:=ih (C++[r]) k2 hk2 (by rw[List.length_append,List.length_singleton];omega) (by
    intro c hc;rcases List.mem_append.1 hc with hc|hc
    ·exact ho c hc
    ·rw[List.mem_singleton.1 hc]
     exact oDT (by omega)) N (by omega)
   refine⟨k3,C3,hk3,by rw[Mp,List.length_append,List.length_singleton];omega,Yf,?_⟩;simp only[bE,e1,oBS];exact e3
 obtain⟨k2,C,hk2,hC,ho,e2⟩:=Rl (x1.toNat+1) [] k1 h1 (by rw[List.length_nil];omega) (by simp) NN (by unfold NN;omega);rw[show((x1.toNat+1:Nat):Int)-1=x1 by omega]at e2;rw[List.length_nil]at hC;rw[e2];simp only[oBS];obtain⟨x3,k3,e,a3,b3,h3⟩:=dS (n:=4) (by omega) (by omega) hl hk2;rw[e];simp only[oBS]
 have NT:∀(j:Nat)(T:TT')(k:Int),0<=k->T.length+j<=4->SmT T->∀N,j<N->∃k' T',0<=k'/\T'.length=T.length+j/\SmT T' /\
  bE eo N ((j:Int),l,k,(),(),C,T,())=some (0,false,l,k',(),(),C,T',()):=by
  intro j
  induction j with
  |zero=>
   intro T k hk hT hs N hN;obtain⟨N,rfl⟩:∃m,N=m+1:=⟨N-1,by omega⟩;exact⟨k,T,hk,by omega,hs,rfl⟩
  |succ j ih=>
   intro T k hk hT hs N hN;obtain⟨N,rfl⟩:∃m,N=m+1:=⟨N-1,by omega⟩;obtain⟨v,k1,e,hv,Y9⟩:=EM hl hk
   have e1:eo (((j+1:Nat):Int),l,k,(),(),C,T,())=some (.inl ((j:Int),l,k1,(),(),C,T++[v],())):=by
    unfold eo;dsimp only;rw[oDT (show((j+1:Nat):Int)>0 by omega),oCT,e];simp only[oBS];rw[bT (by omega) (by simp) (by omega) (by rw[List.length_singleton];omega),oCT,b7 (by omega) (by omega),show((j+1:Nat):Int)-1=(j:Int) by omega];rfl
   obtain⟨k3,T3,hk3,MB,Us,e3⟩:=ih (T++[v]) k1 Y9 (by rw[List.length_append,List.length_singleton];omega) (by
    intro t ht;rcases List.mem_append.1 ht with ht|ht
    ·exact hs t ht
    ·rw[List.mem_singleton.1 ht];unfold Sm
     omega) N (by omega)
   refine⟨k3,T3,hk3,by rw[MB,List.length_append,List.length_singleton];omega,Us,?_⟩;simp only[bE,e1,oBS];exact e3
 obtain⟨k4,T,MY,hT,hs,e4⟩:=NT x3.toNat [] k3 h3 (by rw[List.length_nil];omega) (by intro t ht;simp at ht) NN (by unfold NN;omega);rw[show((x3.toNat:Nat):Int)=x3 by omega]at e4;rw[List.length_nil]at hT;rw[e4];exact⟨C,T,k4,rfl,⟨by omega,⟨by omega,by omega,ho⟩,hs⟩,MY⟩
theorem Ej{v:DTs}(h:Sm v.2.2.2.2.2.2.2):fN v.1 v.2.1 v.2.2.1 v.2.2.2.1 v.2.2.2.2.1 v.2.2.2.2.2.1 v.2.2.2.2.2.2.1 v.2.2.2.2.2.2.2=some (v.1,v.2.1,v.2.2.1,v.2.2.2.1,v.2.2.2.2.1,v.2.2.2.2.2.1,v.2.2.2.2.2.2.1,v.2.2.2.2.2.2.2,()):=by
 unfold fN;rw[bT (by omega) h (by omega) (by have:=h;omega),oCT];rfl
theorem E6{C:CC}{T:TT'}(h:shp C T)(hT:SmT T):fX C T=some (C,T,()):=by
 unfold fX;have h4:=h.1
 have step:∀i,i<C.length->cE ((i:Int),C,T,(),(),C.take i,(),())=some (.inl (((i+1:Nat):Int),C,T,(),(),C.take (i+1),(),())):=by
  intro i hi;have hok:=of_decide_eq_true (h.2.2 _ (List.getElem_mem hi));unfold cE;delta bq;dsimp only;rw[oDT (show(i:Int)<C.length by omega),oCT,bS];simp only[oBS,cI hi];rw[bT (by omega) (by omega) (by omega) (by omega),oCT,bT (by rw[oLT];omega) (by simp) (by omega) (by rw[oLT,List.length_singleton];omega),oCT,b7 (by omega) (by omega),<- lO hi];rfl
 have fin:cE ((C.length:Int),C,T,(),(),C.take C.length,(),())=some (.inr ((C.length:Int),false,C,T,(),(),C.take C.length,(),())):=by
  unfold cE;delta bq;dsimp only;rw[oDF (show ¬(C.length:Int)<C.length by omega)];rfl
 have:=eD (f:=cE) (λi=>((i:Int),C,T,(),(),C.take i,(),())) (n:=C.length) (N:=NN) (by unfold NN;omega) step fin;rw[show bE cE NN (0,C,T,(),(),[],(),())=_ from this,List.take_length,oBS];dsimp only;have t4:=h.2.1
 have Tm:∀i,i<T.length->cD ((i:Int),C,T,(),(),C,T.take i,())=some (.inl (((i+1:Nat):Int),C,T,(),(),C,T.take (i+1),())):=by
  intro i hi;unfold cD;delta bq;dsimp only;rw[oDT (show(i:Int)<T.length by omega),oCT,bS];simp only[oBS,cI hi,Ej (hT _ (List.getElem_mem hi))];rw[bT (by rw[oLT];omega) (by simp) (by omega) (by rw[oLT,List.length_singleton];omega),oCT,b7 (by omega) (by omega),<- lO hi];rfl
 have PL:cD ((T.length:Int),C,T,(),(),C,T.take T.length,())=some (.inr ((T.length:Int),false,C,T,(),(),C,T.take T.length,())):=by
  unfold cD;delta bq;dsimp only;rw[oDF (show ¬(T.length:Int)<T.length by omega)];rfl
 have:=eD (f:=cD) (λi=>((i:Int),C,T,(),(),C,T.take i,())) (n:=T.length) (N:=NN) (by unfold NN;omega) Tm PL;rw[show bE cD NN (0,C,T,(),(),C,[],())=_ from this,List.take_length];rfl
def qh(C:CC)(T:TT')(D:CC)(U:TT'):Prop:=szs D=szs C/\U.length=T.length/\SmT U
theorem jh{C:CC}{T:TT'}{D:CC}{U:TT'}(h:qh C T D U)(hs:shp C T):shp D U:=by
 rw[<- vw,h.1,h.2.1];exact vw.2 hs
theorem kA{C D:CC}(h:szs D=szs C):D.length=C.length:=by rw[<- eY D,h,eY]
theorem re{C D:CC}(h:szs D=szs C){i:Nat}(hi:i<C.length)(ZN:i<D.length):D[i].length=C[i].length:=by
 have e1:=je hi;have e2:=je ZN;rw[h,e1]at e2;omega
theorem yB{C:CC}{i:Nat}{f:List DCn->List DCn}(h:∀c,(f c).length=c.length):szs (C.modify i f)=szs C:=by
 unfold szs;apply List.ext_getElem?;intro j;rw[List.getElem?_map,List.getElem?_map,List.getElem?_modify]
 cases C[j]? with
 |none=>simp
 |some c=>
  simp only[oMS];split
  ·simp[h]
  ·simp
theorem rj{T:TT'}{i:Nat}{v:DTs}(h:SmT T)(hv:Sm v.2.2.2.2.2.2.2):SmT (T.modify i λ_=>v):=by
 intro t ht;obtain⟨j,hj⟩:=List.mem_iff_getElem?.1 ht;rw[List.getElem?_modify]at hj
 cases e:T[j]? with
 |none=>rw[e]at hj;simp at hj
 |some u=>
  rw[e]at hj;have hj:some (if i=j then v else u)=some t:=hj
  injection hj with hj
  split at hj
  ·rw[<- hj];exact hv
  ·rw[<- hj];exact h _ (List.mem_of_getElem? e)
theorem EU{C:CC}{T:TT'}(h:kV C T){n:Int}(hn:0<=n)(Wr:n<100){l:List Int}(hl:l.length<=400){k:Int}(hk:0<=k):
 ∃(D:CC)(U:TT')(k':Int),fW C T n l k=some (D,U,l,k',())/\qh C T D U/\0<=k':=by
 unfold fW;rw[E6 h.2.1 h.2.2,oBS];dsimp only
 obtain⟨t,e,D,U,k',h1,h2,h3⟩:=q8 (f:=gI) (λs=>∃(i:Nat)(k:Int)(D:CC)(U:TT'),s=(n,(i:Int),l,k,(),(),D,U,())/\(i:Int)<=n/\0<=k/\qh C T D U)
  (λt=>∃(D:CC)(U:TT')(k:Int),t=(n,n,false,l,k,(),(),D,U,())/\0<=k/\qh C T D U) (λs=>(n-s.2.1).toNat) (n:=NN) (s:=(n,0,l,k,(),(),C,T,())) ⟨0,k,C,T,rfl,hn,hk,rfl,rfl,h.2.2⟩ (by unfold NN;show(n-0).toNat<_;omega) (by
  rintro s ⟨i,k,D,U,rfl,hi,hk,hL⟩;unfold gI;delta bq;dsimp only;have M3:=kA hL.1;have Lt:=h.1;have Lu:=h.2.1.1;have hU:=hL.2.1;have Lw:=h.2.1.2.1;by_cases hin:(i:Int)<n
  rotate_left
  ·rw[oDF hin]
   obtain rfl:(i:Int)=n:=by omega
   exact⟨_,rfl,D,U,k,rfl,hk,hL⟩
  rw[oDT hin,oCT]
  have RQ:∀k0,0<=k0->Ok (((bn (↑D.length) l k0).bind λ(x10,x11,x12,_)=>
   (eQ x10).bind λTp=>
   (dz D Tp).bind λLP=>
   (dz D Tp).bind λPs=>
   (eQ x10).bind λx16=>
   (dz D x16).bind λx17=>
   (dz D x16).bind λx18=>
   (dz D x16).bind λx19=>
   (bn (↑x19.length) x11 x12).bind λ(x21,x22,x23,_)=>
   (dP x22 x23).bind λ(x24,x25,x26,x27,x28,x29,_)=>
   (eQ x21).bind λx30=>
   (dz D Tp).bind λx31=>
   (dz x31 x30).bind λx32=>
   (dz D Tp).bind λx33=>
   (dz x33 x30).bind λx34=>
   some (n,(i:Int),x28,x29,(),(),(List.modify D Tp λe=>(List.modify e x30 λe=>(x24,(x25,(x26,x27))))),U,())):Option (Int×Int×(List (Int))×Int×Unit×Unit×(List (List DCn))×(List DTs)×Unit))
   λr=>∃(k':Int)(D':CC)(U':TT'),r=(n,(i:Int),l,k',(),(),D',U',())/\0<=k'/\qh C T D' U':=by
   intro k0 MX;dsimp only;obtain⟨y,k1,e,ya,yb,Y9⟩:=dS (n:=(D.length:Int)) (by omega) (by omega) hl MX;rw[e];obtain⟨a,rfl⟩:∃a:Nat,y=a:=⟨y.toNat,by omega⟩
   have ha:a<D.length:=by omega
   simp only[oBS,bS,cI ha];have hok:1<=(D[a].length:Int)/\(D[a].length:Int)<=32:=of_decide_eq_true ((jh hL h.2.1).2.2 _ (List.getElem_mem ha));obtain⟨z,k2,e,za,zb,hk2⟩:=dS (n:=(D[a].length:Int)) (by omega) (by omega) hl Y9;rw[e];obtain⟨b,rfl⟩:∃b:Nat,z=b:=⟨z.toNat,by omega⟩
   have hb:b<D[a].length:=by omega
   simp only[oBS];obtain⟨c,k3,e,hk3⟩:=CA hl hk2;rw[e];simp only[oBS,bS,cI hb];exact⟨_,rfl,k3,_,U,rfl,hk3,(yB λc=>oLM ..).trans hL.1,hL.2.1,hL.2.2⟩
  refine Ok.bind (P:=λr=>∃(k':Int)(D':CC)(U':TT'),r=(n,(i:Int),l,k',(),(),D',U',())/\0<=k'/\qh C T D' U') ?_ ?_
  ·by_cases hp:(U.length:Int)>0
   rotate_left
   ·rw[oDF hp];exact RQ k hk
   rw[oDT hp,oCT];obtain⟨y,k1,e,ya,yb,Y9⟩:=dS (n:=3) (by omega) (by omega) hl hk;rw[e];simp only[oBS];by_cases h2:y=2
   rotate_left
   ·rw[oBF h2];exact RQ k1 Y9
   rw[beq_iff_eq.2 h2,oCT];obtain⟨z,k2,e,za,zb,hk2⟩:=dS (n:=(U.length:Int)) (by omega) (by omega) hl Y9;rw[e];obtain⟨a,rfl⟩:∃a:Nat,z=a:=⟨z.toNat,by omega⟩
   have ha:a<U.length:=by omega
   simp only[oBS];obtain⟨v,k3,e,hv,hk3⟩:=EM hl hk2;rw[e];simp only[oBS,bS,cI ha];exact⟨_,rfl,k3,D,_,rfl,hk3,hL.1,(oLM ..).trans hL.2.1,rj hL.2.2 (show v.2.2.2.2.2.2.2.length<=1099511627776 by omega)⟩
  ·rintro r ⟨k',D',U',rfl,YQ,R1⟩;dsimp only;rw[b7 (by omega) (by omega)]
   exact⟨_,rfl,⟨i+1,k',D',U',rfl,by omega,YQ,R1⟩,by show(n-((i:Int)+1)).toNat<(n-(i:Int)).toNat;omega⟩)
 rw[e,h1];exact⟨D,U,k',rfl,h3,h2⟩
theorem IZ(l:List Int):oz l=some (decide (l.length<=400),()):=by
 unfold oz;delta bq;dsimp only;congr 2;rw[decide_eq_decide];omega
theorem Ew{C:CC}{T:TT'}{D:CC}{U:TT'}{E:CC}{V:TT'}(h:kV C T)(h1:qh C T D U)(h2:qh C T E V):CQ D U E V:=
 ⟨jh h1 h.2.1,jh h2 h.2.1,h1.1.trans h2.1.symm,h1.2.1.trans h2.2.1.symm⟩
theorem BT{C:CC}{T:TT'}(h:kV C T):qh C T C T:=⟨rfl,rfl,h.2.2⟩
theorem iT{C:CC}{T:TT'}{D:CC}{U:TT'}(h:kV C T)(h1:qh C T D U):kV D U:=⟨by rw[kA h1.1];exact h.1,jh h1 h.2.1,h1.2.2⟩
theorem nj{C:CC}{T:TT'}{D:CC}{U:TT'}{E:CC}{V:TT'}(h1:qh C T D U)(h2:qh D U E V):qh C T E V:=⟨h2.1.trans h1.1,h2.2.1.trans h1.2.1,h2.2.2⟩
theorem vO{C:CC}{T:TT'}{D:CC}{U:TT'}{p:PID}:p∈dif C T D U↔p∈pgs (szs C) T.length/\pg C T p≠pg D U p:=by
 unfold dif;simp
theorem xJ{S T:Type}{f:S->Option (S⊕T)}(P:Nat->S->Prop)(R:T->Prop){n:Nat}(step:∀i s,i<n->P i s->∃s',f s=some (.inl s')/\P (i+1) s')(fin:∀s,P n s->∃t,f s=some (.inr t)/\R t){s:S}(h:P 0 s){N:Nat}(hn:n<N):
 ∃t,bE f N s=some t/\R t:=by
 have ZT:∀k i s,i+k=n->P i s->∀M,k<M->∃t,bE f M s=some t/\R t:=by
  intro k
  induction k with
  |zero=>
   intro i s hi hP M hM;obtain⟨M,rfl⟩:∃m,M=m+1:=⟨M-1,by omega⟩
   obtain rfl:i=n:=by omega
   obtain⟨t,e,hR⟩:=fin s hP;exact⟨t,by simp[bE,e],hR⟩
  |succ k ih=>
   intro i s hi hP M hM;obtain⟨M,rfl⟩:∃m,M=m+1:=⟨M-1,by omega⟩;obtain⟨s',e,Mz⟩:=step i s (by omega) hP;obtain⟨t,e2,hR⟩:=ih (i+1) s' (by omega) Mz M (by omega);exact⟨t,by simp only[bE,e,oBS];exact e2,hR⟩
 exact ZT n 0 s (by omega) h N hn
theorem Hs{C:CC}{T:TT'}{D:CC}{U:TT'}(h:shp C T)(hT:SmT T):dq C T D U=some (decide (C=D/\T=U),()):=by
 unfold dq;delta bq;dsimp only;by_cases hl:C.length=D.length
 rotate_left
 ·rw[nc hl,oCT,oDF (p:=C=D/\T=U) λe=>hl (by rw[e.1])]
 rw[rz hl,oCF];by_cases hm:T.length=U.length
 rotate_left
 ·rw[nc hm,oCT,oDF (p:=C=D/\T=U) λe=>hm (by rw[e.2])]
 rw[rz hm,oCF];have c4:=h.1;have t4:=h.2.1
 have q1:=jS (f:=dR) hl (by unfold Sm;omega) (λi=>((i:Int),C,T,D,U,())) (bad:=.inl (false,())) (fin:=.inr ((C.length:Int),false,C,T,D,U,()))
  (λi h1 h2=>by
   have hok:=of_decide_eq_true (h.2.2 _ (List.getElem_mem h1));unfold dR;delta bq;dsimp only;rw[oDT (show(i:Int)<C.length by omega),oCT,bS];simp only[oBS,cI h1,cI h2];rw[ro (by unfold Sm;omega)];simp only[oBS,mB];rw[b7 (by omega) (by omega)]
   rfl)
  (by
   unfold dR;delta bq;dsimp only;rw[oDF (show ¬(C.length:Int)<C.length by omega)]
   rfl)
 have q2:=jS (f:=dQ) hm (by unfold Sm;omega) (λi=>((i:Int),C,T,D,U,())) (bad:=.inl (false,())) (fin:=.inr ((T.length:Int),false,C,T,D,U,()))
  (λi h1 h2=>by
   unfold dQ;delta bq;dsimp only;rw[oDT (show(i:Int)<T.length by omega),oCT,bS];simp only[oBS,cI h1,cI h2];rw[Ba (hT _ (List.getElem_mem h1))];simp only[oBS,mB];rw[b7 (by omega) (by omega)]
   rfl)
  (by
   unfold dQ;delta bq;dsimp only;rw[oDF (show ¬(T.length:Int)<T.length by omega)]
   rfl)
 rw[show bE dR NN (0,C,T,D,U,())=_ from q1];by_cases e1:C=D
 rotate_left
 ·rw[oDF e1,oDF (p:=C=D/\T=U) λe=>e1 e.1];rfl
 rw[oDT e1];dsimp only[oCT];rw[show bE dQ NN (0,C,T,D,U,())=_ from q2];by_cases e2:T=U
 ·rw[oDT e2,oDT (p:=C=D/\T=U) ⟨e1,e2⟩];rfl
 ·rw[oDF e2,oDF (p:=C=D/\T=U) λe=>e2 e.2];rfl
theorem BF{C:CC}{T:TT'}{D:CC}{U:TT'}(hs:szs D=szs C)(hU:U.length=T.length)(h:∀q∈pgs (szs C) T.length,pg C T q=pg D U q):C=D/\T=U:=by
 have hl:=kA hs;constructor
 ·refine List.ext_getElem hl.symm λi h1 h2=>?_;have hlen:=re hs h1 h2;apply List.ext_getElem?;intro k;by_cases hk:k<C[i].length
  rotate_left
  ·rw[oGN (by omega),oGN (by omega)]
  have hq:((i:Int),((k/8:Nat):Int))∈pgs (szs C) T.length:=by
   refine jQ.2 (.inl ⟨i,k/8,by rw[eY];exact h1,?_,rfl⟩);rw[je h1];unfold rL;omega
  have e:=h _ hq;rw[l6 h1,l6 h2]at e;have e1:(C[i].drop (8*(k/8))).take 8=(D[i].drop (8*(k/8))).take 8:=congrArg (λx:PG=>x.2.2.1) e;have e2:=congrArg (λx:List DCn=>x[k%8]?) e1;simp only[List.getElem?_take,List.getElem?_drop]at e2;rw[oIP (Nat.mod_lt _ (by omega)),oIP (Nat.mod_lt _ (by omega)),Nat.div_add_mod]at e2;exact e2
 ·refine List.ext_getElem hU.symm λt h1 h2=>?_;have e:=h (-1,(t:Int)) (jQ.2 (.inr ⟨t,h1,rfl⟩));rw[ff h1,ff h2]at e;exact congrArg (λx:PG=>x.2.2.2) e
theorem ri{c x:List DCn}{a k:Nat}(h:a+x.length<=c.length):(fG c a x.length x)[k]?=if k<a then c[k]? else if k<a+x.length then x[k-a]? else c[k]?:=by
 unfold fG;rw[List.take_length];by_cases h1:k<a
 ·rw[oIP h1,List.append_assoc,List.getElem?_append_left (by rw[oLT];omega),List.getElem?_take,oIP h1]
 ·rw[oIN h1];by_cases h2:k<a+x.length
  ·rw[oIP h2,List.getElem?_append_left (by rw[List.length_append,oLT];omega),List.getElem?_append_right (by rw[oLT];omega),oLT,Nat.min_eq_left (by omega)]
  ·rw[oIN h2,List.getElem?_append_right (by rw[List.length_append,oLT];omega),List.length_append,oLT,Nat.min_eq_left (by omega),List.getElem?_drop];congr 1;omega
theorem yD{c x:List DCn}{a:Nat}(h:a+x.length<=c.length):(fG c a x.length x).length=c.length:=by
 unfold fG;rw[List.take_length,List.length_append,List.length_append,oLT,List.length_drop,Nat.min_eq_left (by omega)];omega
theorem AS{α:Type}{l:List α}{i:Nat}{x:α}:l.set i x=l.modify i λ_=>x:=by
 apply List.ext_getElem?;intro k;rw[List.getElem?_set,List.getElem?_modify];by_cases e:i=k
 ·subst e;by_cases h:i<l.length
  ·simp[h]
  ·simp[h]
 ·simp[e]
theorem Hy{c:List DCn}{j:Nat}(hc:c.length<=32)(h:8*j<c.length):eJ c (j:Int)=some ((c.drop (8*j)).take 8,()):=by
 unfold eJ;delta bq;dsimp only;rw[oDF (show ¬(j:Int)<0 by omega),oCF,oDF (show ¬(j:Int)>32 by omega),oCF];simp only[oBS];rw[b7 (x:=(j:Int)*8) (by omega) (by omega),oDF (show ¬(j:Int)*8>=(c.length:Int) by omega),oCF,b7 (x:=(j:Int)*8+8) (by omega) (by omega)];rw[show(j:Int)*8=((8*j:Nat):Int) by omega,show((8*j:Nat):Int)+8=((8*j+8:Nat):Int) by omega,BN,bS,bS];simp only[oBS]
 have ho:iK (8*j) (Nat.min (8*j+8) c.length) c.length=true:=by
  unfold iK;have h1:Nat.min (8*j+8) c.length=min (8*j+8) c.length:=rfl;rw[h1];simp only[oBA,oDE];omega
 rw[ho,oCT,EJ (by omega)]
theorem E1{C:CC}{T:TT'}(h:shp C T){p:PID}(hp:p∈pgs (szs C) T.length):fY C T p.1 p.2=some (0,()):=by
 have h4:=h.1;unfold fY;rw[lU (show Sm C by unfold Sm;omega),oBS];dsimp only;rw[oDT h,oNT,oCF]
 have ht:gu C T p.1 p.2=some (true,()):=by
  unfold gu
  rcases jQ.1 hp with⟨i,j,hi,hj,rfl⟩|⟨t,ht,rfl⟩
  ·rw[eY]at hi;rw[je hi]at hj;have ZX:=xI hj;have hok:=of_decide_eq_true (h.2.2 _ (List.getElem_mem hi));delta bq;dsimp only;rw[oBF (show((i:Int))≠-1 by omega),oCF,oDT (show(i:Int)>=0 by omega),oCT,oDT (show(i:Int)<(C.length:Int) by omega),oCT,bS];simp only[oBS,cI hi];rw[Hy (by omega) ZX,oBS];dsimp only;rw[oDT];simp only[oLT,List.length_drop];omega
  ·delta bq;dsimp only;rw[show((-1:Int)==-1)=true from rfl,oCT,oDT (show(t:Int)>=0 by omega),oCT,oDT (show(t:Int)<(T.length:Int) by omega)]
 rw[ht];rfl
theorem Ed(C:CC)(T:TT')(a b:Int):cO C T a b=fY C T a b:=by kernel_rfl
theorem E2{C:CC}{T:TT'}(h:shp C T){p:PID}(hp:p∈pgs (szs C) T.length):cO C T p.1 p.2=some (0,()):=(Ed C T p.1 p.2).trans (E1 h hp)
theorem EQ{C:CC}{T:TT'}(h:kV C T){x y:List DCn}(hx:Sm x)(hy:Sm y):A0 C T x y=true:=by
 have h1:=h.2.1.1;have h2:=h.2.1.2.1;simp only[A0,oBA,oDE,List.all_eq_true];refine⟨⟨⟨⟨⟨by omega,λc hc=>?_⟩,by omega⟩,λt ht=>h.2.2 t ht⟩,hx⟩,hy⟩;have:=of_decide_eq_true (h.2.1.2.2 c hc);omega
theorem IK{C:CC}{T:TT'}{D:CC}{U:TT'}(h:kV C T)(hL:qh C T D U){p:PID}(hp:p∈pgs (szs C) T.length):
 ∃(C':CC)(T':TT'),bN C T (pg D U p).1 (pg D U p).2.1 (pg D U p).2.2.1 (pg D U p).2.2.2.1 (pg D U p).2.2.2.2.1 (pg D U p).2.2.2.2.2.1 (pg D U p).2.2.2.2.2.2.1 (pg D U p).2.2.2.2.2.2.2.1 (pg D U p).2.2.2.2.2.2.2.2.1 (pg D U p).2.2.2.2.2.2.2.2.2.1 (pg D U p).2.2.2.2.2.2.2.2.2.2=some (C',T',0,())/\
  qh C T C' T'/\∀q∈pgs (szs C) T.length,pg C' T' q=if q=p then pg D U p else pg C T q:=by
 have Ls:=h.2.1.1;have M3:=kA hL.1
 rcases jQ.1 hp with⟨i,j,hi,hj,rfl⟩|⟨t,ht,rfl⟩
 ·rw[eY]at hi
  have ZN:i<D.length:=by omega
  rw[je hi]at hj;have ZX:=xI hj;have YR:=re hL.1 hi ZN;have hok:=of_decide_eq_true (h.2.1.2.2 _ (List.getElem_mem hi));rw[l6 ZN];dsimp only;obtain⟨x,hx⟩:∃x,x=(D[i].drop (8*j)).take 8:=⟨_,rfl⟩
  have Q4:x.length=min 8 (C[i].length-8*j):=by rw[hx,oLT,List.length_drop,YR]
  rw[<- hx]
  have ZI:ia C[i] j x=fG C[i] (8*j) x.length x:=by
   unfold ia fG;rw[List.take_length]
  have hset:bN C T (i:Int) (j:Int) x 0 0 0 0 0 0 0 []=some (C.modify i λ_=>fG C[i] (8*j) x.length x,T,0,()):=by
   unfold bN;rw[oIP (EQ h (by omega) (by simp)),show cO C T (i:Int) (j:Int)=_ from E2 h.2.1 hp,oBS];dsimp only;rw[oIN (by simp),oIN (by omega),oIP ⟨by omega,by simpa using hi,by omega,by omega,by simp only[oTN];rw[show C.getD i []=C[i] by simp[oGD,hi]];exact ZX⟩];simp only[oTN];rw[show C.getD i []=C[i] by simp[oGD,hi],show ee 0 0 0 0 0 0 0 []=some (true,()) by kernel_rfl,oBS];dsimp only;rw[oIN (by simp;omega),ZI,AS]
  have hfit:8*j+x.length<=C[i].length:=by omega
  have Yz:(C.modify i λ_=>fG C[i] (8*j) x.length x).length=C.length:=oLM ..
  have Z5:∀i' (h1:i'<C.length),(C.modify i λ_=>fG C[i] (8*j) x.length x)[i']'(by rw[Yz];exact h1)=if i=i' then fG C[i] (8*j) x.length x else C[i']:=by
   intro i' h1;rw[List.getElem_modify]
  refine⟨_,T,hset,⟨?_,rfl,h.2.2⟩,?_⟩
  ·unfold szs;apply List.ext_getElem?;intro k;rw[List.getElem?_map,List.getElem?_map];by_cases hk:k<C.length
   ·rw[oGE (by rw[Yz];exact hk),oGE hk,Z5 k hk];simp only[oMS];by_cases e:i=k
    ·subst e;rw[oIP rfl,yD hfit]
    ·rw[oIN e]
   ·rw[oGN (by rw[Yz];omega),oGN (by omega)]
  ·intro q hq
   rcases jQ.1 hq with⟨a,b,ha,Z',rfl⟩|⟨t,ht,rfl⟩
   ·rw[eY]at ha;rw[je ha]at Z';have Z8:=xI Z';rw[l6 (show a<(C.modify i λ_=>fG C[i] (8*j) x.length x).length by rw[Yz];exact ha),Z5 a ha,l6 ha];by_cases e:i=a
    ·subst e;rw[oIP rfl];by_cases e2:b=j
     ·subst e2;rw[oIP rfl];congr 3;apply List.ext_getElem?;intro k;rw[List.getElem?_take,List.getElem?_drop,ri hfit];by_cases hk:k<8
      ·rw[oIP hk,oIN (by omega)];by_cases hk2:k<x.length
       ·rw[oIP (by omega),show 8*b+k-8*b=k by omega]
       ·rw[oIN (by omega),oGN (by omega),oGN (by omega)]
      ·rw[oIN hk,oGN (by omega)]
     ·rw[oIN (by intro g;injection g with g1 g2;omega)];congr 3;apply List.ext_getElem?;intro k;rw[List.getElem?_take,List.getElem?_drop,List.getElem?_take,List.getElem?_drop,ri hfit];by_cases hk:k<8
      ·rw[oIP hk,oIP hk];by_cases hk3:8*b+k<8*j
       ·rw[oIP hk3]
       ·rw[oIN hk3,oIN (by omega)]
      ·rw[oIN hk,oIN hk]
    ·rw[oIN e,oIN (by intro g;injection g with g1 g2;omega)]
   ·rw[ff ht,oIN (by intro g;injection g with g1 g2;omega),ff ht]
 ·have YX:t<U.length:=by rw[hL.2.1];exact ht
  rw[ff YX];dsimp only
  have hset:bN C T (-1) (t:Int) [] U[t].1 U[t].2.1 U[t].2.2.1 U[t].2.2.2.1 U[t].2.2.2.2.1 U[t].2.2.2.2.2.1 U[t].2.2.2.2.2.2.1 U[t].2.2.2.2.2.2.2=some (C,T.modify t λ_=>U[t],0,()):=by
   unfold bN;rw[oIP (EQ h (by simp) (hL.2.2 _ (List.getElem_mem YX))),show cO C T (-1) (t:Int)=_ from E2 h.2.1 hp,oBS];dsimp only;rw[oIN (by simp),oIP rfl,oIN (by simp),oIP ⟨by omega,by simpa using ht⟩];simp only[oTN];rw[AS]
  have Yz:(T.modify t λ_=>U[t]).length=T.length:=oLM ..
  have Z5:∀i' (h1:i'<T.length),(T.modify t λ_=>U[t])[i']'(by rw[Yz];exact h1)=if t=i' then U[t]else T[i']:=by
   intro i' h1;rw[List.getElem_modify]
  refine⟨C,T.modify t λ_=>U[t],hset,⟨rfl,Yz,rj h.2.2 (hL.2.2 _ (List.getElem_mem YX))⟩,?_⟩;intro q hq
  rcases jQ.1 hq with⟨a,b,ha,Z',rfl⟩|⟨s,hs,rfl⟩
  ·rw[eY]at ha;rw[l6 ha,oIN (by intro g;injection g with g1 g2;omega),l6 ha]
  ·rw[ff (show s<(T.modify t λ_=>U[t]).length by rw[Yz];exact hs),Z5 s hs,ff hs];by_cases e:t=s
   ·subst e;rw[oIP rfl,oIP rfl]
   ·rw[oIN e,oIN (by intro g;injection g with g1 g2;omega)]
def G7(C:CC)(T:TT')(D:CC)(U:TT')(W:PID->Prop)(C':CC)(T':TT'):Prop:=
 qh C T C' T'/\∀q∈pgs (szs C) T.length,(W q->pg C' T' q=pg D U q)/\(¬W q->pg C' T' q=pg C T q)
theorem xG{C:CC}{T:TT'}{D:CC}{U:TT'}{W W':PID->Prop}{C':CC}{T':TT'}(hP:G7 C T D U W C' T')(h:∀q,W q↔W' q):G7 C T D U W' C' T':=
 ⟨hP.1,λq hq=>⟨λw=>(hP.2 q hq).1 ((h q).2 w),λn=>(hP.2 q hq).2 λw=>n ((h q).1 w)⟩⟩
theorem IW{C:CC}{T:TT'}(h:shp C T)(hT:SmT T){p:PID}(hp:p∈pgs (szs C) T.length):jd C T p.1 p.2=some ((pg C T p).1,(pg C T p).2.1,(pg C T p).2.2.1,(pg C T p).2.2.2.1,(pg C T p).2.2.2.2.1,(pg C T p).2.2.2.2.2.1,(pg C T p).2.2.2.2.2.2.1,(pg C T p).2.2.2.2.2.2.2.1,(pg C T p).2.2.2.2.2.2.2.2.1,(pg C T p).2.2.2.2.2.2.2.2.2.1,(pg C T p).2.2.2.2.2.2.2.2.2.2,0,()):=by
 unfold jd;rw[E1 h hp,oBS];dsimp only;rw[bne_self_eq_false,oCF,H9 h hT hp];rfl
theorem BB{C:CC}{T:TT'}{D:CC}{U:TT'}(h:kV C T)(hL:qh C T D U){W:PID->Prop}{C':CC}{T':TT'}(hP:G7 C T D U W C' T'){p:PID}(hp:p∈pgs (szs C) T.length):
 ∃(C2:CC)(T2:TT'),bN C' T' (pg D U p).1 (pg D U p).2.1 (pg D U p).2.2.1 (pg D U p).2.2.2.1 (pg D U p).2.2.2.2.1 (pg D U p).2.2.2.2.2.1 (pg D U p).2.2.2.2.2.2.1 (pg D U p).2.2.2.2.2.2.2.1 (pg D U p).2.2.2.2.2.2.2.2.1 (pg D U p).2.2.2.2.2.2.2.2.2.1 (pg D U p).2.2.2.2.2.2.2.2.2.2=some (C2,T2,0,())/\
  G7 C T D U (λq=>W q\/q=p) C2 T2:=by
 have h':=iT h hP.1;have R1:qh C' T' D U:=⟨hL.1.trans hP.1.1.symm,hL.2.1.trans hP.1.2.1.symm,hL.2.2⟩
 have hp':p∈pgs (szs C') T'.length:=by rw[hP.1.1,hP.1.2.1];exact hp
 obtain⟨C2,T2,e,h1,h2⟩:=IK h' R1 hp';refine⟨C2,T2,e,nj hP.1 h1,λq hq=>?_⟩;have h3:=h2 q (by rw[hP.1.1,hP.1.2.1];exact hq);have h4:=hP.2 q hq;by_cases g:q=p
 ·subst g;rw[oIP rfl]at h3;exact⟨λ_=>h3,λn=>absurd (.inr rfl) n⟩
 ·rw[oIN g]at h3;rw[h3];exact⟨λw=>h4.1 (w.resolve_right g),λn=>h4.2 λw=>n (.inl w)⟩
theorem po{α:Type}{l:List α}{i:Nat}(h:i<l.length){f:α->α}(hf:f l[i]=l[i]):l.modify i f=l:=by
 apply List.ext_getElem?;intro k;rw[List.getElem?_modify];by_cases e:i=k
 ·subst e;rw[oGE h];simp[hf]
 ·simp[e]
theorem Cr{C:CC}{T:TT'}(h:shp C T)(hT:SmT T):ej C T=some (C,T,()):=by
 have h1:=h.1;have h2:=h.2.1;unfold ej
 have e1:cM C=some (C,()):=by
  unfold cM;rw[bT (by omega) (by omega) (by omega) (by omega),oCT];rfl
 have e2:dx T=some (T,()):=by
  unfold dx;rw[bT (by omega) (by omega) (by omega) (by omega),oCT];rfl
 rw[e1,oBS];dsimp only;rw[e2,oBS];delta bq;dsimp only
 have l0:=eD (f:=dg) (st:=λi=>((C.length:Int),(i:Int),C,T,(),(),())) (n:=C.length) (N:=NN) (fin:=((C.length:Int),(C.length:Int),false,C,T,(),(),())) (sf (by omega)) (λi hi=>by
  unfold dg;dsimp only;have hok:=of_decide_eq_true (h.2.2 _ (List.getElem_mem hi));rw[oDT (show(i:Int)<(C.length:Int) by omega),oCT,bS];simp only[oBS];rw[cI hi];simp only[oBS];rw[tj (by unfold Sm;omega),oBS];dsimp only;rw[po hi rfl,b7 (by omega) (by omega)]
  rfl) (by
  unfold dg;dsimp only
  rw[oDF (by omega),oCF])
 rw[show bE dg NN ((C.length:Int),0,C,T,(),(),())=_ from l0,oBS];dsimp only
 have l1:=eD (f:=df) (st:=λi=>((T.length:Int),(i:Int),C,T,(),(),())) (n:=T.length) (N:=NN) (fin:=((T.length:Int),(T.length:Int),false,C,T,(),(),())) (sf (by omega)) (λi hi=>by
  unfold df;dsimp only;rw[oDT (show(i:Int)<(T.length:Int) by omega),oCT,bS];simp only[oBS];rw[cI hi];simp only[oBS];unfold eX;rw[tj (hT _ (List.getElem_mem hi))];simp only[oBS];rw[po hi rfl,b7 (by omega) (by omega)]
  rfl) (by
  unfold df;dsimp only
  rw[oDF (by omega),oCF])
 rw[show bE df NN ((T.length:Int),0,C,T,(),(),())=_ from l1];rfl
theorem BJ{C:CC}{T:TT'}{D:CC}{U:TT'}{p:PID}(hp:p∈pgs (szs C) T.length)(h:p ∉ dif C T D U):pg C T p=pg D U p:=Classical.byContradiction λn=>h (vO.2 ⟨hp,n⟩)
def C5(C:CC)(T:TT')(D:CC)(U:TT')(X:CC)(Y:TT')(L:List PID):Prop:=qh C T D U/\qh C T X Y/\(∀p∈L,p∈pgs (szs C) T.length)/\∀q∈pgs (szs C) T.length,q ∉ L->pg X Y q=pg D U q
theorem C5.done{C:CC}{T:TT'}{D:CC}{U:TT'}{X:CC}{Y:TT'}(h:C5 C T D U X Y []):X=D/\Y=U:=by
 refine BF (h.1.1.trans h.2.1.1.symm) (h.1.2.1.trans h.2.1.2.1.symm) λq hq=>?_;rw[h.2.1.1,h.2.1.2.1]at hq;exact h.2.2.2 q hq (by simp)
theorem EO{C:CC}{T:TT'}{D:CC}{U:TT'}{X:CC}{Y:TT'}{L:List PID}(h:kV C T)(hJ:C5 C T D U X Y L)(hl:L.length<=1000)(n:Nat){K:Int}(hK:0<=K)(OH:K<=1099511627776)(R A:Int):
 ∃(X':CC)(Y':TT'),eU R A X Y L K D U (n:Int)=some (R,A,X',Y',L.drop n,K+((L.take n).length:Int),0,())/\C5 C T D U X' Y' (L.drop n):=by
 have hX:=iT h hJ.2.1;have P0:qh X Y D U:=⟨hJ.1.1.trans hJ.2.1.1.symm,hJ.1.2.1.trans hJ.2.1.2.1.symm,hJ.1.2.2⟩;have sD:=jh hJ.1 h.2.1
 have ht:L.take (jK L.length n)=L.take n:=by
  unfold jK;rcases Nat.le_total n L.length with g|g
  ·rw[show(max 0 (min (n:Int) (L.length:Int))).toNat=n by omega]
  ·rw[show(max 0 (min (n:Int) (L.length:Int))).toNat=L.length by omega,List.take_length,List.take_of_length_le g]
 have hd:L.drop (jK L.length n)=L.drop n:=by
  unfold jK;rcases Nat.le_total n L.length with g|g
  ·rw[show(max 0 (min (n:Int) (L.length:Int))).toNat=n by omega]
  ·rw[show(max 0 (min (n:Int) (L.length:Int))).toNat=L.length by omega,List.drop_length,List.drop_eq_nil_of_le g]
 have hlt:(L.take n).length<=1000:=by rw[oLT];omega
 have hin:∀i (hi:i<(L.take n).length),(L.take n)[i]∈pgs (szs X) Y.length:=λi hi=>by
  rw[hJ.2.1.1,hJ.2.1.2.1];exact hJ.2.2.1 _ (List.mem_of_mem_take (List.getElem_mem hi))
 unfold eU f8;rw[Cr hX.2.1 hX.2.2,oBS];dsimp only;rw[tp (by unfold Sm;omega)];simp only[oBS];rw[oDF (show ¬(n:Int)<0 by omega),oCF,Hk (by unfold Sm;omega),ht,hd,oBS];delta bq;dsimp only;have Zr:∀p∈L.take n,p∈L:=λp hp=>List.mem_of_mem_take hp;obtain⟨F,hF⟩:∃F,F=L.take n:=⟨_,rfl⟩;rw[<- hF]at hlt hin Zr⊢
 obtain⟨r,hr,X',Y',e,hP⟩:=xJ (f:=dB) (P:=λi s=>∃(X':CC)(Y':TT'),s=((0:Int),(F.length:Int),(i:Int),D,U,(0:Int),(0:Int),(),(),(),(0:Int),R,A,X,Y,L,K,F,L.drop n,X',Y',())/\G7 X Y D U (·∈F.take i) X' Y')
  (R:=λr=>∃(X':CC)(Y':TT'),r=.inr ((0:Int),(F.length:Int),(F.length:Int),false,D,U,(0:Int),(0:Int),(),(),(),(0:Int),R,A,X,Y,L,K,F,L.drop n,X',Y',())/\G7 X Y D U (·∈F) X' Y') (n:=F.length) (λi s hi hs=>by
   obtain⟨X',Y',rfl,hP⟩:=hs;obtain⟨X2,Y2,e,MA⟩:=BB hX P0 hP (hin i hi);refine⟨_,?_,X2,Y2,rfl,xG MA λq=>?_⟩
   ·unfold dB;dsimp only;rw[oDT (show(i:Int)<(F.length:Int) by omega),oCT,bS];simp only[oBS];rw[cI hi];simp only[oBS];rw[IW sD hJ.1.2.2 (by rw[P0.1,P0.2.1];exact hin i hi),oBS];dsimp only;rw[beq_self_eq_true,oCT,e];simp only[oBS];rw[bne_self_eq_false,oCF,b7 (by omega) (by omega)];rfl
   ·rw[<- lO hi,List.mem_append,List.mem_singleton]) (λs hs=>by
   obtain⟨X',Y',rfl,hP⟩:=hs;refine⟨_,?_,X',Y',rfl,xG hP λq=>by rw[List.take_length]⟩;unfold dB;dsimp only
   rw[oDF (by omega),oCF]) (s:=((0:Int),(F.length:Int),((0:Nat):Int),D,U,(0:Int),(0:Int),(),(),(),(0:Int),R,A,X,Y,L,K,F,L.drop n,X,Y,())) ⟨X,Y,rfl,⟨⟨rfl,rfl,hX.2.2⟩,λq _=>⟨λw=>by simp at w,λ_=>rfl⟩⟩⟩ (N:=NN) (sf (by omega))
 subst e;rw[show bE dB NN ((0:Int),(F.length:Int),0,D,U,0,0,(),(),(),0,R,A,X,Y,L,K,F,L.drop n,X,Y,())=_ from hr];dsimp only;rw[bne_self_eq_false,oCF,b7 (by omega) (by omega)];refine⟨X',Y',rfl,hJ.1,nj hJ.2.1 hP.1,λp hp=>hJ.2.2.1 p (List.mem_of_mem_drop hp),λq hq hn=>?_⟩;have h1:=hP.2 q (by rw[hJ.2.1.1,hJ.2.1.2.1];exact hq);by_cases g:q∈F
 ·exact h1.1 g
 ·rw[h1.2 g];refine hJ.2.2.2 q hq λw=>?_;rw[<- List.take_append_drop n L]at w;rcases List.mem_append.1 w with w|w
  ·exact g (hF▸w)
  ·exact hn w
def BK:List CT->CT
 | []=>.nat
 | [t]=>t
 |t::u::r=>.pair t (BK (u::r))
def kW:(l:List CT)->HL den l->den (BK l)
 | [],_=>(0:Nat)
 | [_],h=>h.1
 |_::u::r,h=>(h.1,kW (u::r) h.2)
def encL:(l:List CT)->HL den l->List TV
 | [],_=>[]
 |t::r,h=>enc t h.1++encL r h.2
theorem yc:∀(l:List CT)(h:HL den l),enc (BK l) (kW l h)=encL l h
 | [],_=>rfl
 | [_],h=>(List.append_nil _).symm
 |_::u::r,h=>by
  show enc _ h.1++enc (BK (u::r)) (kW (u::r) h.2)=_;rw[yc (u::r) h.2];rfl
def CV:(c:CT)->den c->Prop
 |.int k,n=>(Lit.int k n).wf=true
 |.str,s=>ByteArray.size s<=maxLen
 |.row _ t,xs=>List.length xs<=maxLen/\∀x∈xs,CV t x
 |.pair a b,x=>CV a x.1/\CV b x.2
 |_,_=>True
def GoodL:(l:List CT)->HL den l->Prop
 | [],_=>True
 |t::r,h=>CV t h.1/\GoodL r h.2
theorem uA:∀(l:List CT)(h:HL den l),GoodL l h->CV (BK l) (kW l h)
 | [],_,_=>trivial
 | [_],_,g=>g.1
 |_::u::r,h,g=>⟨g.1,uA (u::r) h.2 g.2⟩
def appL:(l m:List CT)->HL den l->HL den m->HL den (l++m)
 | [],_,_,k=>k
 |_::r,m,h,k=>(h.1,appL r m h.2 k)
theorem yd:∀(l m:List CT)(h:HL den l)(k:HL den m),encL (l++m) (appL l m h k)=encL l h++encL m k
 | [],_,_,_=>rfl
 |t::r,m,h,k=>by
  show enc t h.1++encL (r++m) (appL r m h.2 k)=(enc t h.1++encL r h.2)++_;rw[yd r m h.2 k,List.append_assoc]
theorem xS:∀(l m:List CT)(h:HL den l)(k:HL den m),GoodL l h->GoodL m k->GoodL (l++m) (appL l m h k)
 | [],_,_,_,_,g=>g
 |_::r,m,h,k,g,g'=>⟨g.1,xS r m h.2 k g.2 g'⟩
def RelL(w:World):List TV->List Value->Prop
 | [],[]=>True
 |t::ts,v::vs=>eO w (λ_=>True) t v/\RelL w ts vs
 |_,_=>False
theorem RelL.app{w:World}:∀{a:List TV}{x:List Value}{b:List TV}{y:List Value},RelL w a x->RelL w b y->RelL w (a++b) (x++y)
 | [],[],_,_,_,h=>h
 |_::a,_::x,_,_,g,h=>⟨g.1,RelL.app (a:=a) (x:=x) g.2 h⟩
 | [],_::_,_,_,g,_=>g.elim
 |_::_,[],_,_,g,_=>g.elim
theorem RelL.len{w:World}:∀{a:List TV}{x:List Value},RelL w a x->a.length=x.length
 | [],[],_=>rfl
 |_::a,_::x,g=>by rw[oLC,oLC,RelL.len (a:=a) (x:=x) g.2]
 | [],_::_,g=>g.elim
 |_::_,[],g=>g.elim
theorem RelL.get{w:World}:∀{a:List TV}{x:List Value},RelL w a x->∀j (h:j<a.length)(h':j<x.length),eO w (λ_=>True) a[j] x[j]
 |_::_,_::_,g,0,_,_=>g.1
 |_::a,_::x,g,j+1,h,h'=>RelL.get (a:=a) (x:=x) g.2 j (by simpa using h) (by simpa using h')
 | [],_,_,_,h,_=>by simp at h
 |_::_,[],g,_,_,_=>g.elim
def Hq(P:Program)(g:TypeId->Option (List CT)):Nat->List Field->Option (List CT)
 |_,[]=>some []
 |off,f::fs=>match g f.type with
  |some l=>if f.offset=off/\l.length=P.cellsOf f.type then(Hq P g (off+l.length) fs).map (l++·)else none
  |none=>none
def pb(P:Program):Nat->TypeId->Option (List CT)
 |0,_=>none
 |n+1,t=>match P.underlying t with
  |some .bool=>some [.bool]
  |some (.int k)=>some [.int k]
  |some .string=>some [.str]
  |some (.slice e)=>match pb P n e with
   |some l=>if l.length=P.cellsOf e then some [.row false (BK l)]else none
   |none=>none
  |some (.struct fs)=>match Hq P (pb P n) 0 fs.toList with
   |some l=>if l.length=P.cellsOf t then some l else none
   |none=>none
  |_=>none
section
variable {H:Type} {ec:TypeId×Value->H} {P:Program} {w:World} {base:Nat} {spare:Nat->Bool} {held:Bool}
theorem B1{g:TypeId->Option (List CT)}{m:Nat}{cs:List Value}
 (ih:∀t L,g t=some L->∀cs x,DataW.trod ec P w base spare held m t cs=some x->∃h:HL den L,GoodL L h/\RelL w (encL L h) cs):
 ∀(fs:List Field)(off:Nat)(L:List CT),Hq P g off fs=some L->(∀f∈fs,∃x,DataW.trod ec P w base spare held m f.type ((cs.drop f.offset).take (P.cellsOf f.type))=some x)->
  ∃h:HL den L,GoodL L h/\RelL w (encL L h) ((cs.drop off).take L.length):=by
 intro fs
 induction fs with
 |nil=>
  intro off L hL _
  injection hL with hL
  subst hL;exact⟨(),trivial,trivial⟩
 |cons f fs Rc=>
  intro off L hL hx;unfold Hq at hL;split at hL
  ·rename_i l hg;split at hL
   ·rename_i ho;obtain⟨rfl,hlen⟩:=ho
    cases hr:Hq P g (f.offset+l.length) fs with
    |none=>simp_all
    |some L2=>
     rw[hr]at hL
     injection hL with hL
     subst hL;obtain⟨x,h1⟩:=hx f List.mem_cons_self;obtain⟨h,g1,r1⟩:=ih _ _ hg _ _ h1;have ⟨k,g2,r2⟩:=Rc _ _ hr λf' Rv=>hx f' (List.mem_cons_of_mem _ Rv);refine⟨appL l L2 h k,xS _ _ _ _ g1 g2,?_⟩;rw[yd,List.length_append,List.take_add,List.drop_drop];rw[hlen];rw[hlen]at r2;exact r1.app r2
   ·cases hL
  ·cases hL
theorem H5:∀(n:Nat)(t:TypeId)(L:List CT),pb P n t=some L->∀(XK:Nat)(cs:List Value)(x:DataW H×List MemPlace),DataW.trod ec P w base spare held XK t cs=some x ->
 ∃h:HL den L,GoodL L h/\RelL w (encL L h) cs:=by
 intro n
 induction n with
 |zero=>intro t L h;cases h
 |succ n ih=>
  intro t L hL XK cs x hx;unfold pb at hL;split at hL
  ·rename_i ht
   injection hL with hL
   subst hL;obtain⟨b,rfl,_⟩:=DataW.trod_bool ht hx;exact⟨(b,()),⟨trivial,trivial⟩,.v rfl,trivial⟩
  ·rename_i k ht
   injection hL with hL
   subst hL;obtain⟨z,rfl,_,hw⟩:=DataW.trod_int ht hx;exact⟨(z,()),⟨hw,trivial⟩,.v rfl,trivial⟩
  ·rename_i ht
   injection hL with hL
   subst hL;obtain⟨s,rfl,_,hs⟩:=DataW.trod_string ht hx;exact⟨(s,()),⟨hs,trivial⟩,.v rfl,trivial⟩
  ·rename_i e ht;split at hL
   ·rename_i l hl;split at hL
    ·rename_i hsz
     injection hL with hL
     subst hL
     rcases DataW.trod_slice ht hx with⟨rfl,_⟩|⟨a,len,cap,OB,rest,m,_,rfl,_,_,YR,hmax,YP,Z5,_,_⟩
     ·exact⟨([],()),⟨⟨Nat.zero_le _,λx hx=>by cases hx⟩,trivial⟩,.sl (c:=[]) 1 (λ_ _=>undef) (λi h=>by simp at h) (Nat.le_refl _) (Nat.zero_le _) (λ_=>rfl) (λi j h=>by simp at h) (λi j h=>by simp at h),trivial⟩
     ·have PI:∀i:Fin len,∃p:HL den l×List Value,GoodL l p.1/\RelL w (encL l p.1) p.2/\w.cells? base (a.add (i.1*P.cellsOf e)) (P.cellsOf e)=some p.2:=by
       intro i;have h1:=Z5 i.1 i.2;rw[oGE (by omega)]at h1;obtain⟨Ro,h2,h3⟩:=Option.bind_eq_some_iff.1 h1;obtain⟨h,g,r⟩:=ih _ _ hl _ _ _ h3;exact⟨(h,Ro),g,r,h2⟩
      obtain⟨f,hf⟩:=Classical.axiomOfChoice PI
      have PH:∀i,(encL l (f i).1).length=l.length:=λi=>by
       rw[(hf i).2.1.len,(World.cells?_some (hf i).2.2).2.1,hsz]
      have ZT:eO w (λ_=>True) (.sl ((List.ofFn λi:Fin len=>kW l (f i).1).map (enc (BK l)))) (.slice (some a) ((List.ofFn λi:Fin len=>kW l (f i).1).map (enc (BK l))).length cap):=by
       have el:((List.ofFn λi:Fin len=>kW l (f i).1).map (enc (BK l))).length=len:=by simp
       have eg:∀i (hi:i<((List.ofFn λi:Fin len=>kW l (f i).1).map (enc (BK l))).length),((List.ofFn λi:Fin len=>kW l (f i).1).map (enc (BK l)))[i]=encL l (f ⟨i,by omega⟩).1:=by
        intro i hi;simp[yc]
       refine .sl l.length (λi j=>if h:i<len then(f ⟨i,h⟩).2.getD j undef else undef) (λi hi=>by rw[eg i hi,PH]) (by rw[el];exact YR) hmax (λh=>by cases h) (λi j hi hj=>?_) (λi j hi hj=>?_)
       ·rw[el]at hi
        have cell:∀i' (ZN:i'<len) j',j'<l.length->w.cell? ((a.add (i'*l.length)).add j')=some ((f ⟨i',ZN⟩).2.getD j' undef):=by
         intro i' ZN j' ZX;have h1:=World.cells?_some (hf ⟨i',ZN⟩).2.2;have h2:=h1.2.2 j' (by omega);rw[hsz];rw[h2]
         have:j'<(f ⟨i',ZN⟩).2.length:=by rw[h1.2.1];omega
         simp[this]
        have h0:=World.cell?_spot (cell 0 (by omega) 0 (by omega));obtain⟨b,o,spot⟩:=a
        have S8:spot=none:=by simpa[Addr.add]using h0
        subst S8;refine⟨b,o,rfl,trivial,?_⟩;have h2:=cell i hi j hj;rw[Go.WideShapes.add_plain,Go.WideShapes.add_plain]at h2;rw[dif_pos hi,<- h2,Nat.add_assoc]
       ·rw[el]at hi;have hr:=(hf ⟨i,hi⟩).2.1
        have XT:j<(encL l (f ⟨i,hi⟩).1).length:=by rw[eg i (by omega)]at hj;exact hj
        have TG:j<(f ⟨i,hi⟩).2.length:=by rw[<- hr.len];exact XT
        have h3:=hr.get j XT TG
        simp_all
      rw[List.length_map,List.length_ofFn]at ZT;refine⟨(List.ofFn λi:Fin len=>kW l (f i).1,()),⟨⟨by rw[List.length_ofFn];omega,λx hx=>?_⟩,trivial⟩,ZT,trivial⟩;obtain⟨i,rfl⟩:=List.mem_ofFn.1 hx;exact uA _ _ (hf i).1
    ·cases hL
   ·cases hL
  ·rename_i fs ht;split at hL
   ·rename_i l hl;split at hL
    ·rename_i hsz
     injection hL with hL
     subst hL;obtain⟨xs,m,_,_,hlen,Q4,hf⟩:=DataW.trod_struct ht hx
     obtain⟨h,g,r⟩:=B1 (cs:=cs) (m:=m) (λt L hL cs x hx=>ih t L hL m cs x hx) fs.toList 0 l hl (by
      intro f ML;obtain⟨i,hi,rfl⟩:=List.mem_iff_getElem.1 ML
      have hi2:i<fs.size:=by simpa using hi
      have h1:=hf i fs[i] (by simp[hi2]);rw[oGE (by omega)]at h1
      exact⟨_,by simpa using h1⟩)
     refine⟨h,g,?_⟩;rw[List.drop_zero,hsz,<- hlen,List.take_length]at r;exact r
    ·cases hL
   ·cases hL
  ·cases hL
theorem intake_arg(n:Nat){t:TypeId}{L:List CT}{v:Value}{d:DataW H}{p:List MemPlace}(hL:pb P n t=some L)(h:DataW.Trod ec P w base spare held t v d p):
 ∃h:HL den L,GoodL L h/\RelL w (encL L h) v.cells.toList:=by
 have ⟨XK,hf⟩:=h;exact H5 n t L hL XK _ _ hf
end
theorem plain_one{w:World}{t:TV}{v:Value}(r:RelL w [t] [v]):wW w t v:=r.1.plain
def StK(C:CC)(T:TT'):Prop:=Sm C/\(∀c∈C,Sm c)/\Sm T/\SmT T
theorem va{i j i' j':Nat}(h:i<i'\/i=i'/\j<j'):dN ((i:Int),(j:Int)) ((i':Int),(j':Int))=true:=by
 unfold dN;rw[oBF (show(i:Int)≠-1 by omega),oBF (show(i':Int)≠-1 by omega)];rcases h with h|⟨rfl,h⟩
 ·simp[h]
 ·simp[h]
theorem wS(S:List Int)(n:Nat):Asc (pgs S n):=by
 have hr:∀m:Nat,(List.range m).Pairwise (· < ·):=λm=>List.pairwise_lt_range;unfold pgs;refine List.pairwise_append.2 ⟨List.pairwise_flatMap.2 ⟨λi _=>?_,?_⟩,?_,?_⟩
 ·unfold rr;exact List.pairwise_map.2 ((hr _).imp λ{a b} h=>va (.inr ⟨rfl,h⟩))
 ·refine(hr _).imp λ{a b} h x hx y hy=>?_;obtain⟨j,_,rfl⟩:=si.1 hx;obtain⟨j',_,rfl⟩:=si.1 hy;exact va (.inl h)
 ·refine List.pairwise_map.2 ((hr _).imp λ{a b} h=>?_);unfold dN;simp[h]
 ·intro x hx y hy;obtain⟨i,_,hx⟩:=List.mem_flatMap.1 hx;obtain⟨j,_,rfl⟩:=si.1 hx;obtain⟨t,_,rfl⟩:=List.mem_map.1 hy;unfold dN;rw[oBF (show(i:Int)≠-1 by omega)];rfl
theorem Gz(C:CC)(T:TT')(D:CC)(U:TT'):Asc (dif C T D U):=List.Pairwise.filter _ (wS _ _)
theorem IJ{C:CC}{T:TT'}(h:shp C T)(hT:SmT T):StK C T:=by
 have h1:=h.1;have h2:=h.2.1;refine⟨show C.length<=_ by omega,λc hc=>?_,show T.length<=_ by omega,hT⟩;have hok:=of_decide_eq_true (h.2.2 c hc);unfold Sm;omega
theorem IO{C:CC}{T:TT'}(h:kV C T){l:List Int}(hl:l.length<=400){k:Int}(hk:0<=k):
 ∃(D:CC)(U:TT')(k':Int),jc C T l k=some (D,U,l,k',())/\StK D U/\0<=k':=by
 have c1:=h.1;have c4:=h.2.1.1;have t4:=h.2.1.2.1;have hS:=IJ h.2.1 h.2.2;unfold jc;rw[E6 h.2.1 h.2.2,oBS];dsimp only;obtain⟨x,k1,e,xa,xb,h1⟩:=dS (n:=4) (by omega) (by omega) hl hk;rw[e,oBS];dsimp only;by_cases x0:x=0
 ·rw[beq_iff_eq.2 x0,oCT,bT (by omega) (by simp) (by omega) (by rw[List.length_singleton];omega),oCT];refine⟨C++[[]],T,k1,rfl,⟨?_,λc hc=>?_,hS.2.2.1,hS.2.2.2⟩,h1⟩
  ·show(C++[[]]).length<=_;rw[List.length_append,List.length_singleton];omega
  ·rcases List.mem_append.1 hc with hc|hc
   ·exact hS.2.1 c hc
   ·rw[List.mem_singleton.1 hc];simp[Sm]
 rw[oBF x0,oCF];by_cases x1:x=1
 ·have hok:1<=(C[0].length:Int)/\(C[0].length:Int)<=32:=of_decide_eq_true (h.2.1.2.2 _ (List.getElem_mem (by omega)));rw[beq_iff_eq.2 x1,oCT];simp only[cI (show 0<C.length by omega),oBS];obtain⟨y,k2,e,ya,yb,h2⟩:=dS (n:=40) (by omega) (by omega) hl h1;rw[e];obtain⟨n,rfl⟩:∃n:Nat,y=n:=⟨y.toNat,by omega⟩;simp only[oBS,bS];rw[bT (by omega) (by rw[List.length_replicate];omega) (by omega) (by rw[List.length_replicate];omega),oCT];refine⟨_,T,k2,rfl,⟨?_,λc hc=>?_,hS.2.2.1,hS.2.2.2⟩,h2⟩
  ·show(C.modify 0 _).length<=_;rw[oLM];omega
  ·obtain⟨i,hi,rfl⟩:=List.mem_iff_getElem.1 hc;rw[List.getElem_modify];split
   ·show(C[0]++List.replicate n _).length<=_;rw[List.length_append,List.length_replicate];omega
   ·exact hS.2.1 _ (List.getElem_mem _)
 rw[oBF x1,oCF];by_cases x2:x=2
 ·rw[beq_iff_eq.2 x2,oCT,bT (by omega) (by simp) (by omega) (by rw[List.length_singleton];omega),oCT];refine⟨C,T++[(0,(0,(0,(0,(0,(0,(0,[])))))))],k1,rfl,⟨hS.1,hS.2.1,?_,λt ht=>?_⟩,h1⟩
  ·show(T++[_]).length<=_;rw[List.length_append,List.length_singleton];omega
  ·rcases List.mem_append.1 ht with ht|ht
   ·exact h.2.2 t ht
   ·rw[List.mem_singleton.1 ht];simp[Sm]
 rw[oBF x2,oCF,show iK 1 C.length C.length=true by unfold iK;simp;omega,oCT];refine⟨_,T,k1,rfl,⟨?_,λc hc=>?_,hS.2.2.1,hS.2.2.2⟩,h1⟩
 ·show((C.drop 1).take _).length<=_;rw[oLT,List.length_drop];omega
 ·exact hS.2.1 c (List.mem_of_mem_drop (List.mem_of_mem_take (show c∈(C.drop 1).take _ from hc)))
theorem rD{C:CC}{T:TT'}(h:shp C T){M:List PID}(ha:Asc M)(hm:∀p∈M,p∈pgs (szs C) T.length):M.length<=20:=by
 have e:M=(pgs (szs C) T.length).filter λp=>decide (p∈M):=nB ha (List.Pairwise.filter _ (wS _ _)) λx=>by
  rw[List.mem_filter,oDE];exact⟨λg=>⟨hm x g,g⟩,λg=>g.2⟩
 rw[e];exact Nat.le_trans (List.length_filter_le _ _) (sa (o9 h) h.2.1)
theorem Cz{C:CC}{T:TT'}{D:CC}{U:TT'}{E:CC}{V:TT'}{X:CC}{Y:TT'}{M:List PID}(h:kV C T)(hJ:C5 C T D U X Y M)(hE:qh C T E V)(hl:M.length<=1000)(R A K:Int):
 eA R A X Y M K D U E V=some (R,A,X,Y,iJ (M++dif D U E V),K,0,())/\C5 C T E V X Y (iJ (M++dif D U E V)):=by
 have hX:=iT h hJ.2.1;have hd:=Gr (D:=E) (U:=V) (jh hJ.1 h.2.1);refine⟨?_,hE,hJ.2.1,λp hp=>?_,λq hq hn=>?_⟩
 ·unfold eA f8;rw[Cr hX.2.1 hX.2.2,oBS];dsimp only;rw[tp (by unfold Sm;omega)];simp only[oBS];rw[uY (Ew h hJ.1 hE) hJ.1.2.2 hE.2.2,oBS];dsimp only;rw[bne_self_eq_false,oCF,F5 (by omega)];rfl
 ·rcases List.mem_append.1 ((lR _ _).1 hp)with hp|hp
  ·exact hJ.2.2.1 p hp
  ·have:=(vO.1 hp).1;rw[hJ.1.1,hJ.1.2.1]at this;exact this
 ·rw[hJ.2.2.2 q hq λw=>hn ((lR _ _).2 (List.mem_append_left _ w))];exact BJ (by rw[hJ.1.1,hJ.1.2.1];exact hq) λw=>hn ((lR _ _).2 (List.mem_append_right _ w))
theorem oJ{S:Type}{C:CC}{T:TT'}{D:CC}{U:TT'}{X:CC}{Y:TT'}{M:List PID}(h:kV C T)(hJ:C5 C T D U X Y M)(R A K:Int)(Z:S):
 ((bp R A X Y M K).bind λ(x16,_)=>
 bif x16 then((dq X Y D U).bind λ(x17,_)=>
 bif(!x17)then(some (.inl (false,())))else
 some (.inr Z))else
 some (.inr Z):Option ((Bool×Unit)⊕S))=some (.inr Z):=by
 unfold bp;delta bq;dsimp only;rw[oBS];dsimp only;by_cases g:M=[]
 ·subst g;obtain⟨rfl,rfl⟩:=hJ.done;rw[show((([]:List PID).length:Int)==0)=true from rfl,oCT,Hs (jh hJ.2.1 h.2.1) hJ.2.1.2.2,oBS,oDT ⟨rfl,rfl⟩];rfl
 ·have:0<M.length:=List.length_pos_iff.2 g;rw[oBF (show(M.length:Int)≠0 by omega)];rfl
theorem Ab{S:List Int}(h:Szs S)(a b c d e f g:Int){B:TT'}(u v w:Unit):bE cC NN (a,b,(S.length:Int),0,c,d,u,v,w,e,[],B,S,())=some (a,b,(S.length:Int),(S.length:Int),false,c,d,u,v,w,e,S.map λz=>List.replicate z.toNat ((0,(0,(0,0))):DCn),B,S,()):=by
 have h4:=h.1
 have SF:=eD (f:=cC) (st:=λi=>(a,b,(S.length:Int),(i:Int),c,d,u,v,w,e,(S.take i).map λz=>List.replicate z.toNat ((0,(0,(0,0))):DCn),B,S,())) (n:=S.length) (N:=NN) (fin:=(a,b,(S.length:Int),(S.length:Int),false,c,d,u,v,w,e,(S.take S.length).map λz=>List.replicate z.toNat ((0,(0,(0,0))):DCn),B,S,())) (sf (by omega)) (λi hi=>by
  have hz:=Ah h hi;unfold cC;dsimp only;rw[oDT (show(i:Int)<(S.length:Int) by omega),oCT,bS];simp only[oBS];rw[cI hi];simp only[oBS]
  have e1:eQ S[i]=some S[i].toNat:=by
   obtain⟨m,hm⟩:∃m:Nat,S[i]=m:=⟨S[i].toNat,by omega⟩;rw[hm,bS,oTN]
  rw[e1];simp only[oBS];rw[show sg S[i].toNat S[i].toNat 4=true by unfold sg;simp;omega,oCT];rw[bT (by rw[List.length_map,oLT];omega) (by simp) (by omega) (by rw[List.length_map,oLT];simp;omega),oCT,b7 (by omega) (by omega)];rw[<- jI hi]
  rfl) (by
  unfold cC;dsimp only
  rw[oDF (by omega),oCF])
 rw[show bE cC NN (a,b,(S.length:Int),0,c,d,u,v,w,e,[],B,S,())=_ from SF,List.take_length]
theorem Gv{A:CC}{B:TT'}{C:CC}{T:TT'}(h:kV C T)(hA:Sm A)(hB:SmT B):
 ∃(X:CC)(Y:TT')(M:List PID),(cA A B C T 1 0=some (.inl (1,0,X,Y,M,0,0,()))\/cA A B C T 1 0=some (.inr (1,0,X,Y,M,0,0,())))/\C5 C T C T X Y M/\Asc M:=by
 have c4:=h.2.1.1;have t4:=h.2.1.2.1
 have hC:Sm C:=by unfold Sm;omega
 have UX:=BT h;by_cases g:CQ A B C T
 ·refine⟨A,B,dif A B C T,.inl ?_,⟨UX,⟨g.2.2.1,g.2.2.2,hB⟩,λp hp=>?_,λq hq hn=>?_⟩,Gz _ _ _ _⟩
  ·unfold cA fO;rw[lU hC,oDT h.2.1];simp only[oBS,oNT,oCF];rw[uY g hB h.2.2,oBS];dsimp only;rw[beq_self_eq_true,oCT,Cr g.1 hB];rfl
  ·have:=(vO.1 hp).1;rw[g.2.2.1,g.2.2.2]at this;exact this
  ·exact BJ (by rw[g.2.2.1,g.2.2.2];exact hq) hn
 ·refine⟨(szs C).map λz=>List.replicate z.toNat ((0,(0,(0,0))):DCn),List.replicate T.length (0,(0,(0,(0,(0,(0,(0,[]))))))),pgs (szs C) T.length,.inr ?_,⟨UX,⟨?_,List.length_replicate,λt ht=>?_⟩,λp hp=>hp,λq hq hn=>absurd hq hn⟩,wS _ _⟩
  ·unfold cA fO;rw[lU hC,oDT h.2.1];simp only[oBS,oNT,oCF];rw[zT g hA hC hB h.2.2,oBS];delta bq;dsimp only;rw[show((1:Int)==0)=false from rfl,oCF,bS];simp only[oBS];rw[show sg T.length T.length 8=true by unfold sg;simp;omega,oCT,mT hC,oBS];dsimp only;rw[Ab (o9 h.2.1) (f:=0) (g:=0),oBS];dsimp only;rw[List.length_replicate,EW (o9 h.2.1) h.2.1.2.1];rfl
  ·unfold szs;rw[List.map_map,List.map_map];refine List.map_congr_left λc _=>?_;show((List.replicate (c.length:Int).toNat _).length:Int)=_;rw[List.length_replicate,oTN]
  ·rw[(List.mem_replicate.1 ht).2];simp[Sm]
theorem Cn{C:CC}{T:TT'}(h:kV C T){l:List Int}(hl:l.length<=400){r:Int}(hr:0<=r/\r<=255){n:Nat}(hn:1<=n/\n<=5){X:CC}{Y:TT'}{M:List PID}(hJ:C5 C T C T X Y M)(ha:Asc M){k:Int}(hk:0<=k):
 ∃t,bE bu NN (r,(n:Int),0,C,T,1,0,X,Y,M,0,l,k,())=some t/\t.2.2.2.2.2.2.2.2.2.2.1=[]/\0<=t.2.2.2.2.2.2.2.2.2.2.2.1:=by
 obtain⟨t,e,hR⟩:=xJ (f:=bu)
  (P:=λi s=>∃(D:CC)(U:TT')(X:CC)(Y:TT')(M:List PID)(K k:Int),s=(r,(n:Int),(i:Int),D,U,1,0,X,Y,M,K,l,k,())/\C5 C T D U X Y M/\Asc M/\0<=K/\K<=20*i/\0<=k/\(10<=i->M.length+i<=30))
  (R:=λt=>t.2.2.2.2.2.2.2.2.2.2.1=[]/\0<=t.2.2.2.2.2.2.2.2.2.2.2.1) (n:=30)
  (by
   rintro i s hi ⟨D,U,X,Y,M,K,k,rfl,hJ,ha,hK,OH,hk,hm⟩;have hM:=rD h.2.1 ha hJ.2.2.1;unfold bu;dsimp only;rw[oDT (show(i:Int)<30 by omega),oCT,show wk .i64 r=r from wrap_i64 (by omega) (by omega)];have t0:0<=Int.tmod r 10:=Int.tmod_nonneg _ hr.1;have t1:Int.tmod r 10<10:=Int.tmod_lt_of_pos _ (by omega);generalize Int.tmod r 10=q at t0 t1⊢;by_cases g:(i:Int)<q
   ·rw[oDT g,oCT];obtain⟨x,k1,e,xa,xb,h1⟩:=dS (n:=4) (by omega) (by omega) hl hk;rw[e,oBS];dsimp only;obtain⟨E,V,k2,e,Mq,h2⟩:=EU (iT h hJ.1) xa (by omega) hl h1;have hE:=nj hJ.1 Mq;rw[e,oBS];dsimp only;obtain⟨e,Rs⟩:=Cz h hJ hE (by omega) 1 0 K;rw[e,oBS];dsimp only;have Wn:Asc (iJ (M++dif D U E V)):=tM _;have Mw:=rD h.2.1 Wn Rs.2.2.1;generalize iJ (M++dif D U E V)=M2 at Rs Wn Mw⊢;rw[bne_self_eq_false,oCF,oJ h Rs];dsimp only;obtain⟨X3,Y3,e,RW⟩:=EO h Rs (by omega) n (K:=K) hK (by omega) 1 0;rw[e,oBS];dsimp only;rw[bne_self_eq_false,oCF,oJ h RW];dsimp only;rw[b7 (by omega) (by omega)];refine⟨_,rfl,E,V,X3,Y3,M2.drop n,_,k2,rfl,RW,List.Pairwise.sublist (List.drop_sublist _ _) Wn,by omega,?_,h2,λg2=>?_⟩
    ·rw[oLT];omega
    ·rw[List.length_drop];omega
   ·rw[oDF g,oCF,oJ h hJ];dsimp only;obtain⟨X3,Y3,e,RW⟩:=EO h hJ (by omega) n (K:=K) hK (by omega) 1 0;rw[e,oBS];dsimp only;rw[bne_self_eq_false,oCF,oJ h RW];dsimp only;rw[b7 (by omega) (by omega)];refine⟨_,rfl,D,U,X3,Y3,M.drop n,_,k,rfl,RW,List.Pairwise.sublist (List.drop_sublist _ _) ha,by omega,?_,hk,λg2=>?_⟩
    ·rw[oLT];omega
    ·rw[List.length_drop];by_cases g3:10<=i
     ·have:=hm g3;omega
     ·omega)
  (by
   rintro s ⟨D,U,X,Y,M,K,k,rfl,hJ,ha,hK,OH,hk,hm⟩;have hM:=hm (by omega);unfold bu;dsimp only;rw[oDF (by omega),oCF]
   exact⟨_,rfl,(show M=[]from List.length_eq_zero_iff.1 (by omega)),hK⟩)
  (s:=(r,(n:Int),((0:Nat):Int),C,T,1,0,X,Y,M,0,l,k,())) ⟨C,T,X,Y,M,0,k,rfl,hJ,ha,by omega,by omega,hk,λg=>by omega⟩ (N:=NN) (sf (by omega))
 exact⟨t,e,hR⟩
theorem uK{A:CC}{B:TT'}{C:CC}{T:TT'}(h:kV C T)(hA:Sm A)(hB:SmT B){l:List Int}(hl:l.length<=400){r s:Int}(hr:0<=r/\r<=255)(hs:0<=s/\s<=255){k:Int}(hk:0<=k):
 (let Ps:Int:=(wk .i64 s);
 let x16:Int:=(Int.tmod Ps 5);
 let x17:Int:=(w64 (1+x16));
 (match cA A B C T 1 0 with
 |none=>none
 |some (.inl (x18,x19,x20,x21,x22,x23,x24,_))=>
 bif(x24 != 0)then(some (false,()))else
 (bE bu NN (r,x17,0,C,T,x18,x19,x20,x21,x22,x23,l,k,())).bind λ(x25,x26,x27,x28,x29,x30,x31,x32,x33,x34,x35,x36,x37,x38,_)=>
 (bp x31 x32 x33 x34 x35 x36).bind λ(x39,_)=>
 bif x39 then(bif(decide (x36>=0))then((bU).bind λ(x40,_)=>
 some (x40,()))else
 some (false,()))else
 some (false,())
 |some (.inr (x18,x19,x20,x21,x22,x23,x24,_))=>
 bif(x24 != 0)then(some (false,()))else
 (bE bu NN (r,x17,0,C,T,x18,x19,x20,x21,x22,x23,l,k,())).bind λ(x25,x26,x27,x28,x29,x30,x31,x32,x33,x34,x35,x36,x37,x38,_)=>
 (bp x31 x32 x33 x34 x35 x36).bind λ(x39,_)=>
 bif x39 then(bif(decide (x36>=0))then((bU).bind λ(x40,_)=>
 some (x40,()))else
 some (false,()))else
 some (false,())):Option (Bool×Unit))=some (true,()):=by
 dsimp only;rw[show wk .i64 s=s from wrap_i64 (by omega) (by omega)];have t0:0<=Int.tmod s 5:=Int.tmod_nonneg _ hs.1;have t1:Int.tmod s 5<5:=Int.tmod_lt_of_pos _ (by omega);generalize Int.tmod s 5=q at t0 t1⊢;rw[b7 (by omega) (by omega)];obtain⟨n,hn⟩:∃n:Nat,1+q=n:=⟨(1+q).toNat,by omega⟩;rw[hn];obtain⟨X,Y,M,hb,hJ,ha⟩:=Gv h hA hB;obtain⟨⟨y0,y1,y2,y3,y4,y5,y6,y7,y8,y9,LT,Rm,LU,LV,u⟩,e,f1,f2⟩:=Cn h hl hr (n:=n) (by omega) hJ ha hk;dsimp only at f1 f2;subst f1
 have fin:((bp y6 y7 y8 y9 [] Rm).bind λ(x39,_)=>
  bif x39 then(bif(decide (Rm>=0))then((bU).bind λ(x40,_)=>
  some (x40,()))else
  some (false,()))else
  some (false,()):Option (Bool×Unit))=some (true,()):=by
  show(bif(decide (Rm>=0))then((bU).bind λ(x40,_)=>some (x40,()))else some (false,()):Option (Bool×Unit))=_;rw[oDT f2,oCT,CK];rfl
 rcases hb with hb|hb
 ·rw[hb];dsimp only;rw[bne_self_eq_false,oCF,e];exact fin
 ·rw[hb];dsimp only;rw[bne_self_eq_false,oCF,e];exact fin
theorem If(l:List Int){s r:Int}(hs:0<=s/\s<=255)(hr:0<=r/\r<=255):eW l s r=some (true,()):=by
 unfold eW;rw[IZ,oBS];dsimp only;by_cases hl:l.length<=400
 rotate_left
 ·rw[oDF hl];simp only[Bool.not_false,oCT];rw[CK];rfl
 rw[oDT hl];simp only[oNT,oCF];obtain⟨C,T,k1,e,hd,h1⟩:=Fo hl (Int.le_refl 0);rw[e,oBS];dsimp only;obtain⟨x,k2,e,xa,xb,h2⟩:=dS (n:=30) (by omega) (by omega) hl h1;rw[e,oBS];dsimp only;obtain⟨D,U,k3,e,hD,h3⟩:=EU hd xa (by omega) hl h2;rw[e,oBS];dsimp only;obtain⟨y,k4,e,ya,yb,h4⟩:=dS (n:=4) (by omega) (by omega) hl h3;rw[e,oBS];dsimp only;have dD:=iT hd hD;by_cases g:y=3
 ·rw[beq_iff_eq.2 g,oCT];obtain⟨F,W,k5,e,sF,h5⟩:=IO dD hl h4;rw[e,oBS];exact uK hd sF.1 sF.2.2.2 hl hr hs h5
 ·rw[oBF g,oCF];have d4:=dD.2.1.1;exact uK hd (show D.length<=_ by omega) dD.2.2 hl hr hs h4
theorem Hf{h:HL den [(.int .u8)]}(g:GoodL [(.int .u8)] h):0<=h.1/\h.1<=255:=by
 have h1:(Lit.int .u8 h.1).wf=true:=g.1;simp[Lit.wf,IntKind.min,IntKind.max,IntKind.signed,IntKind.bits]at h1;omega
theorem law_RepairEnds{h0:HL den [RI]}{h1 h2:HL den [(.int .u8)]}(g0:GoodL _ h0)(g1:GoodL _ h1)(g2:GoodL _ h2):is.g (appL [RI] _ h0 (appL [(.int .u8)] _ h1 (appL [(.int .u8)] _ h2 ())))=some (true,()):=If h0.1 (Hf g1) (Hf g2)
end Go.Proofs.YtakfoejcjdcgbaaGreat
