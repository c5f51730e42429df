/- Part of the proof; no condition. -/
import Derived.Test.YteonljfnncdijaaEb
import Derived.Test.YteonljfnncdijaaRows
import Derived.WalkKit
import Derived.WalkSpells
import Derived.WalkLawsBesides
import Derived.Deep.QuietTactic
import Derived.BigQuiet
import Derived.Lib.Hide
import Derived.Handy
import Derived.OpenShut
import Derived.Orders
import Derived.Test.YteonljfnncdijaaProg
import Derived.Sort.Grow
import Derived.Shelf.GgSortFunc.RowK
import Derived.Shelf.SlicesQ.Reverse
import Derived.Lib.SlicesCompact
import Derived.Lib.SliceRun
import Derived.Laws.StructEq
import Derived.Deep.LoopGhost
set_option linter.unusedVariables false
set_option linter.unusedSimpArgs false
namespace Go.Proofs.Yteonljfnncdijaa
open Go.RowKit
inductive CT where
 | int (k:IntKind)
 | bool
 | str
 | nat
 | row (own:Bool) (t:CT)
 | nilr (own:Bool)
 | pair (a b:CT)
def iY:CT->CT->Bool
 | .int k,.int k'=>decide (k=k')
 | .bool,.bool=>true
 | .str,.str=>true
 | .nat,.nat=>true
 | .row o t,.row o' t'=>(o==o') && iY t t'
 | .nilr o,.nilr o'=>o==o'
 | .pair a b,.pair a' b'=>iY a a' && iY b b'
 | _,_=>false
theorem jR:∀{a b:CT},iY a b=true->a=b:=by
 intro a
 induction a with
 | int k=>intro b h;cases b<;>simp_all [iY]
 | bool=>intro b h;cases b<;>simp_all [iY]
 | str=>intro b h;cases b<;>simp_all [iY]
 | nat=>intro b h;cases b<;>simp_all [iY]
 | row o t ih=>intro b h;cases b<;>simp[iY] at h;rw[h.1,ih h.2]
 | nilr o=>intro b h;cases b<;>simp_all [iY]
 | pair x y X7 VT=>intro b h;cases b<;>simp[iY] at h;rw[X7 h.1,VT h.2]
def dR:CT->CT->Bool
 | .int k,.int k'=>decide (k=k')
 | .bool,.bool=>true
 | .str,.str=>true
 | .nat,.nat=>true
 | .row _ t,.row _ t'=>dR t t'
 | .nilr _,.nilr _=>true
 | .pair a b,.pair a' b'=>dR a a' && dR b b'
 | _,_=>false
def uA:CT->CT->Bool
 | .int k,.int k'=>decide (k=k')
 | .bool,.bool=>true
 | .str,.str=>true
 | .nat,.nat=>true
 | .row o t,.row o' t'=>(o==o') && uA t t'
 | .nilr o,.nilr o'=>o==o'
 | .nilr o,.row o' _=>o==o'
 | .pair a b,.pair a' b'=>uA a a' && uA b b'
 | _,_=>false
def dT:CT->Nat
 | .pair a b=>dT a+dT b
 | .nat=>0
 | _=>1
def i5:CT->CT
 | .row true t=>.row false (i5 t)
 | .nilr _=>.nilr false
 | .pair a b=>.pair (i5 a) (i5 b)
 | t=>t
def shT:CT->Nat->List Nat->Option CT
 | .pair a b,o,os=>if o < dT a then (shT a o os).map (.pair · b) else (shT b (o - dT a) os).map (.pair a ·)
 | t,0,[]=>some (i5 t)
 | .row true t,0,o :: os=>(shT t o os).map (.row true)
 | t,_,_=>some t
abbrev den:CT->Type
 | .int _=>Int
 | .bool=>Bool
 | .str=>ByteArray
 | .nat=>Nat
 | .row _ t=>List (den t)
 | .nilr _=>Unit
 | .pair a b=>den a×den b
theorem cN:∀{a b:CT},dR a b=true->den a=den b:=by
 intro a
 induction a with
 | int k=>intro b h;cases b<;>simp[dR] at h;rfl
 | bool=>intro b h;cases b<;>simp[dR] at h;rfl
 | str=>intro b h;cases b<;>simp[dR] at h;rfl
 | nat=>intro b h;cases b<;>simp[dR] at h;rfl
 | row o t ih=>intro b h;cases b<;>simp[dR] at h;simp only[den];rw[ih h]
 | nilr o=>intro b h;cases b<;>simp[dR] at h;rfl
 | pair x y X7 VT=>intro b h;cases b<;>simp[dR] at h;simp only[den];rw[X7 h.1,VT h.2]
def Bk:(t:CT)->den t
 | .int _=>(0:Int)
 | .bool=>false
 | .str=>ByteArray.empty
 | .nat=>(0:Nat)
 | .row _ _=>[]
 | .nilr _=>()
 | .pair a b=>(Bk a,Bk b)
def zK:(a b:CT)->den a->den b
 | .row _ t,.row _ t',xs=>List.map (zK t t') xs
 | .pair a b,.pair a' b',x=>(zK a a' x.1,zK b b' x.2)
 | .int _,.int _,x=>x
 | .bool,.bool,x=>x
 | .str,.str,x=>x
 | .nat,.nat,x=>x
 | _,b,_=>Bk b
def enc:(t:CT)->den t->List TV
 | .int k,x=>[.v (.int k x)]
 | .bool,x=>[.v (.bool x)]
 | .str,x=>[.v (.string x)]
 | .nat,_=>[]
 | .row true t,xs=>[.ow (List.map (enc t) xs)]
 | .row false t,xs=>[.sl (List.map (enc t) xs)]
 | .nilr true,_=>[.ow []]
 | .nilr false,_=>[.sl []]
 | .pair a b,x=>enc a x.1++enc b x.2
def HL(D:CT->Type):List CT->Type
 | []=>Unit
 | t :: ts=>D t×HL D ts
def oC:List (List CT)->Nat->List CT
 | [],_=>[]
 | l :: _,0=>l
 | _ :: r,i+1=>oC r i
def og:List (List CT)->Type
 | []=>Empty
 | [l]=>HL den l
 | l :: m :: r=>HL den l⊕og (m :: r)
def kx:(ls:List (List CT))->(i:Nat)->HL den (oC ls i)->Option (og ls)
 | [],_,_=>none
 | [_],0,h=>some h
 | [_],_+1,_=>none
 | _ :: _ :: _,0,h=>some (.inl h)
 | _ :: m :: r,i+1,h=>(kx (m :: r) i h).map .inr
def BU{α:Type}:(ls:List (List CT))->((i:Nat)->HL den (oC ls i)->α)->og ls->α
 | [],_,o=>Empty.elim o
 | [_],f,o=>f 0 o
 | _ :: m :: r,f,o=>match o with
  | .inl h=>f 0 h
  | .inr o'=>BU (m :: r) (λi h=>f (i+1) h) o'
def eM{α:Type}(ls:List (List CT)) (o:og ls) (f:(i:Nat)->HL den (oC ls i)->α):α:=BU ls f o
structure Alg (D:CT->Type) (M:Type->Type) where
 lit:(k:IntKind)->Int->D (.int k)
 litB:Bool->D .bool
 litS:ByteArray->D .str
 litN:Nat->D .nat
 nilv:(o:Bool)->D (.nilr o)
 nil:(o:Bool)->(t:CT)->D (.row o t)
 recast:(t t':CT)->dR t t'=true->D t->D t'
 coe:(t t':CT)->D t->D t'
 mkp:(a b:CT)->D a->D b->D (.pair a b)
 fst:(a b:CT)->D (.pair a b)->D a
 snd:(a b:CT)->D (.pair a b)->D b
 ar:BinOp->(k:IntKind)->D (.int k)->D (.int k)->D (.int k)
 cm:BinOp->(k:IntKind)->D (.int k)->D (.int k)->D .bool
 sh:BinOp->(k:IntKind)->D (.int k)->D .nat->D (.int k)
 neg:(k:IntKind)->D (.int k)->D (.int k)
 not:D .bool->D .bool
 cv:(k k':IntKind)->D (.int k)->D (.int k')
 mm:Bool->(k:IntKind)->D (.int k)->D (.int k)->D (.int k)
 eqB:D .bool->D .bool->D .bool
 eqS:D .str->D .str->D .bool
 eqT:D .str->D .str->D .bool
 andB:D .bool->D .bool->D .bool
 ite:(t:CT)->D .bool->D t->D t->D t
 natI:D .nat->D (.int .i64)
 addN:D .nat->D .nat->D .nat
 subN:D .nat->D .nat->D .nat
 minN:D .nat->D .nat->D .nat
 len:(o:Bool)->(t:CT)->D (.row o t)->D .nat
 slOk:D .nat->D .nat->D .nat->D .bool
 ltN:D .nat->D .nat->D .bool
 eqN:D .nat->D .nat->D .bool
 win:(o:Bool)->(t:CT)->D (.row o t)->D .nat->D .nat->D (.row o t)
 appOk:Nat->D .nat->D .nat->D .bool
 cat:(t:CT)->(o:Bool)->D (.row true t)->D (.row o t)->D (.row true t)
 rowl:(o:Bool)->(t:CT)->List (D t)->D (.row o t)
 mkOk:D .nat->D .nat->Nat->D .bool
 rep:(t:CT)->D .nat->D t->D (.row true t)
 upd:(t:CT)->D (.row true t)->D .nat->(D t->D t)->D (.row true t)
 splice:(t:CT)->(o:Bool)->D (.row true t)->D .nat->D .nat->D (.row o t)->D (.row true t)
 strLen:D .str->D (.int .i64)
 strB:D .str->D (.row false (.int .u8))
 strOk:D .str->D .bool
 fail:{X:Type}->M X
 br:{X:Type}->D .bool->M X->M X->M X
 nat:{X:Type}->(k:IntKind)->D (.int k)->(D .nat->M X)->M X
 get:{X:Type}->(o:Bool)->(t:CT)->D (.row o t)->D .nat->(D t->M X)->M X
 strAt:{X:Type}->D .str->D .nat->(D (.int .u8)->M X)->M X
 bstr:{X:Type}->D (.row false (.int .u8))->(D .str->M X)->M X
 lt:{X:Type}->(t:CT)->D t->(D t->M X)->M X
 call:{X:Type}->Nat->(ins:List CT)->(outs:List (List CT))->(HL den ins->Option (og outs))->HL D ins->((i:Nat)->HL D (oC outs i)->M X)->M X
 loop:{X:Type}->Nat->(s:List CT)->(outs:List (List CT))->HL D s->(HL D s->M (HL den s⊕og outs))->((i:Nat)->HL D (oC outs i)->M X)->M X
 join:{X:Type}->(outs:List (List CT))->M (og outs)->((i:Nat)->HL D (oC outs i)->M X)->M X
 next:(s:List CT)->(outs:List (List CT))->HL D s->M (HL den s⊕og outs)
 exitL:(s:List CT)->(outs:List (List CT))->(i:Nat)->HL D (oC outs i)->M (HL den s⊕og outs)
 out:(outs:List (List CT))->(i:Nat)->HL D (oC outs i)->M (og outs)
def dC:Int->Option Nat
 | .ofNat n=>some n
 | .negSucc _=>none
def dD{α:Type}(xs:List α) (i:Nat):Option α:=xs[i]?
def CN(a b:Bool):Bool:=a==b
def CM(a b:ByteArray):Bool:=a==b
def Cy(a b:ByteArray):Bool:=a.toList==b.toList
def aT(n:Nat):Int:=(n:Int)
def CK(k:IntKind) (a:Int):Int:=k.wrap (0 - a)
def mmR(mx:Bool) (a b:Int):Int:=if mx then (if a < b then b else a) else (if b < a then b else a)
def ld{α:Type}(xs:List α) (l n:Nat):List α:=(xs.drop l).take n
def dy(l h n:Nat):Bool:=l<=h && decide (h<=n)
def bK(bytes n m:Nat):Bool:=decide (n+m<=1099511627776) && decide ((n+m)*bytes<=140737488355328)
def AJ(n m sz:Nat):Bool:=decide (n=m) && decide (n*sz<=16777216)
def vb{α:Type}(xs:List α) (lo m:Nat) (ys:List α):List α:=xs.take lo++ys.take m++xs.drop (lo+m)
def zZ(s:ByteArray):List Int:=s.data.toList.map λb=>(b.toNat:Int)
def va(s:ByteArray) (k:Nat):Option Int:=(s[k]?).map λb=>(b.toNat:Int)
def xq(l:List Int):ByteArray:=l.foldl (λr n=>r.push (UInt8.ofNat n.toNat)) ByteArray.empty
def bn{S T:Type}(f:S->Option (S⊕T)):Nat->S->Option T
 | 0,_=>none
 | n+1,s=>(f s).bind λx=>match x with | .inl s'=>bn f n s' | .inr t=>some t
def NN:Nat:=18446744073709551616
def aO:Alg den Option where
 lit _ n:=n
 litB b:=b
 litS s:=s
 litN n:=n
 nilv _:=()
 nil _ _:=[]
 recast _ _ h x:=cast (cN h) x
 coe t t' x:=zK t t' x
 mkp _ _ x y:=(x,y)
 fst _ _ x:=x.1
 snd _ _ x:=x.2
 ar op k a b:=arR op k a b
 cm op _ a b:=cmR op a b
 sh op k a n:=shR op k a n
 neg k a:=CK k a
 not b:=!b
 cv _ k' n:=k'.wrap n
 mm mx _ a b:=mmR mx a b
 eqB a b:=CN a b
 eqS a b:=CM a b
 eqT a b:=Cy a b
 andB a b:=a && b
 ite _ c a b:=bif c then a else b
 natI n:=aT n
 addN a b:=Nat.add a b
 subN a b:=Nat.sub a b
 minN a b:=Nat.min a b
 len _ _ xs:=List.length xs
 slOk l h n:=dy l h n
 ltN a b:=Nat.blt a b
 eqN a b:=Nat.beq a b
 win _ _ xs l n:=ld xs l n
 appOk b n m:=bK b n m
 cat _ _ xs ys:=List.append xs ys
 rowl _ _ l:=l
 mkOk n m sz:=AJ n m sz
 rep _ n x:=List.replicate n x
 upd _ xs i f:=List.modify xs i f
 splice _ _ xs lo m ys:=vb xs lo m ys
 strLen s:=(ByteArray.size s:Int)
 strB s:=zZ s
 strOk s:=decide (ByteArray.size s < 4294967296)
 fail:=none
 br c a b:=bif c then a else b
 nat _ n k:=(dC n).bind k
 get _ _ xs i k:=(dD xs i).bind k
 strAt s i k:=(va s i).bind k
 bstr l k:=k (xq l)
 lt _ x k:=k x
 call _ _ outs g h k:=(g h).bind λo=>eM outs o k
 loop _ _ outs h body k:=(bn body NN h).bind λo=>eM outs o k
 join outs m k:=m.bind λo=>eM outs o k
 next _ _ h:=some (.inl h)
 exitL _ outs i h:=(kx outs i h).map .inr
 out outs i h:=kx outs i h
structure XP (D:CT->Type) where
 root:Nat
 off:Nat
 hops:List (D .nat×Nat×Nat)
inductive XV (D:CT->Type) where
 | d (t:CT) (x:D t)
 | k (x:Value)
 | dead
 | ptr (p:XP D) (vs:List Nat)
 | ip (cs:List (XV D))
 | pk (p:XP D) (vs:List Nat)
 | pw (p:XP D) (vs:List Nat) (sz:Nat) (lo n:D .nat)
 | agg (l:List (XV D))
 | tup (l:List (XV D))
 | fn (f:FuncId) (cap:List (XV D))
 | gap (t:CT) (x:D (.row true t)) (i:D .nat) (o:Nat)
structure XS (D:CT->Type) where
 tm:List (Nat×XV D)
 ce:List (Nat×List (XV D))
 vr:List (Key×Nat)
 lg:iS
abbrev Sh:=XV λ_=>Unit
abbrev Shs:=XS λ_=>Unit
abbrev shU(t:CT):Sh:=.d t ()
structure XO where
 cells:List Sh
 sh:List RSh
 pts:List (Nat×List Sh)
def rC:List (Unit×Nat×Nat)->List CT->List CT
 | [],r=>r
 | _ :: hs,r=>.nat :: rC hs r
mutual
def lv:Sh->List CT->List CT
 | .d t _,r=>t :: r
 | .ip l,r=>lvL l r
 | .agg l,r=>lvL l r
 | .tup l,r=>lvL l r
 | .fn _ l,r=>lvL l r
 | .k _,r=>r
 | .dead,r=>r
 | .ptr p _,r=>rC p.hops r
 | .pk p _,r=>rC p.hops r
 | .pw _ _ _ _ _,r=>r
 | .gap t _ _ _,r=>.row true t :: .nat :: r
def lvL:List Sh->List CT->List CT
 | [],r=>r
 | x :: xs,r=>lv x (lvL xs r)
end
def lvP:List (Nat×List Sh)->List CT->List CT
 | [],r=>r
 | x :: xs,r=>lvL x.2 (lvP xs r)
def lvT:List (Nat×Sh)->List CT->List CT
 | [],r=>r
 | x :: xs,r=>lv x.2 (lvT xs r)
def lvS(s:Shs):List CT:=lvT s.tm (lvP s.ce [])
def lvO(o:XO):List CT:=lvL o.cells (lvP o.pts [])
structure Ctr where
 f:FuncId
 id:Nat
 ins:List Sh
 pts:List (Nat×List Sh)
 outs:List XO
 g:HL den (lvL ins (lvP pts []))->Option (og (outs.map lvO))
structure qP where
 i:Nat
 nm:Nat
 s:Shs
 outs:List (dU×Shs)
section
variable {D:CT->Type}
def XP.bare(p:XP D):Bool:=match p.hops with | []=>true | _ :: _=>false
def CF(p:XP λ_=>Unit):XP D:=⟨p.root,p.off,[]⟩
def mG:(hs:List (Unit×Nat×Nat))->(r:List CT)->HL D (rC hs r)->List (D .nat×Nat×Nat)×HL D r
 | [],_,h=>([],h)
 | (_,sz,o) :: hs,r,h=>((h.1,sz,o) :: (mG hs r h.2).1,(mG hs r h.2).2)
def rU:(hs:List (Unit×Nat×Nat))->List (D .nat×Nat×Nat)->(r:List CT)->HL D r->Option (HL D (rC hs r))
 | [],[],_,h=>some h
 | (_,sz,o) :: hs,(i,sz',o') :: hs',r,h=>if sz=sz'/\o=o' then (rU hs hs' r h).map λh1=>(i,h1) else none
 | _,_,_,_=>none
mutual
def fill:(s:Sh)->(r:List CT)->HL D (lv s r)->XV D×HL D r
 | .d t _,_,h=>(.d t h.1,h.2)
 | .ip l,r,h=>(.ip (dl l r h).1,(dl l r h).2)
 | .agg l,r,h=>(.agg (dl l r h).1,(dl l r h).2)
 | .tup l,r,h=>(.tup (dl l r h).1,(dl l r h).2)
 | .fn f l,r,h=>(.fn f (dl l r h).1,(dl l r h).2)
 | .k x,_,h=>(.k x,h)
 | .dead,_,h=>(.dead,h)
 | .ptr p vs,r,h=>(.ptr ⟨p.root,p.off,(mG p.hops r h).1⟩ vs,(mG p.hops r h).2)
 | .pk p vs,r,h=>(.pk ⟨p.root,p.off,(mG p.hops r h).1⟩ vs,(mG p.hops r h).2)
 | .pw _ _ _ _ _,_,h=>(.dead,h)
 | .gap t _ _ o,_,h=>(.gap t h.1 h.2.1 o,h.2.2)
def dl:(s:List Sh)->(r:List CT)->HL D (lvL s r)->List (XV D)×HL D r
 | [],_,h=>([],h)
 | x :: xs,r,h=>((fill x (lvL xs r) h).1 :: (dl xs r (fill x (lvL xs r) h).2).1,(dl xs r (fill x (lvL xs r) h).2).2)
end
def jP:(s:List (Nat×List Sh))->(r:List CT)->HL D (lvP s r)->List (Nat×List (XV D))×HL D r
 | [],_,h=>([],h)
 | x :: xs,r,h=>((x.1,(dl x.2 (lvP xs r) h).1) :: (jP xs r (dl x.2 (lvP xs r) h).2).1,(jP xs r (dl x.2 (lvP xs r) h).2).2)
def o8:(s:List (Nat×Sh))->(r:List CT)->HL D (lvT s r)->List (Nat×XV D)×HL D r
 | [],_,h=>([],h)
 | x :: xs,r,h=>((x.1,(fill x.2 (lvT xs r) h).1) :: (o8 xs r (fill x.2 (lvT xs r) h).2).1,(o8 xs r (fill x.2 (lvT xs r) h).2).2)
def rN(s:Shs) (h:HL D (lvS s)):XS D:=⟨(o8 s.tm _ h).1,(jP s.ce [] (o8 s.tm _ h).2).1,s.vr,([],[])⟩
def eV:(outs:List XO)->(i:Nat)->HL D (oC (outs.map lvO) i)->Option (List (XV D)×List RSh×List (Nat×List (XV D)))
 | [],_,_=>none
 | o :: _,0,h=>some ((dl o.cells _ h).1,o.sh,(jP o.pts [] (dl o.cells _ h).2).1)
 | _ :: r,i+1,h=>eV r i h
def kV:(outs:List (dU×Shs))->(i:Nat)->HL D (oC (outs.map λx=>lvS x.2) i)->Option (dU×XS D)
 | [],_,_=>none
 | o :: _,0,h=>some (o.1,rN o.2 h)
 | _ :: r,i+1,h=>kV r i h
end
section
variable {D:CT->Type} {M:Type->Type} (A:Alg D M)
def w6:Value->Value->Bool
 | .pointer none,.pointer none=>true
 | .nilFunc,.nilFunc=>true
 | .nilIface,.nilIface=>true
 | _,_=>false
def asT(t u:CT) (x:D t):Option (D u):=
 if h:iY t u=true then some (jR h ▸ x) else if uA t u then some (A.coe t u x) else none
def zA(p:XP λ_=>Unit) (q:XP D):Bool:=p.root==q.root && p.off==q.off && p.bare && q.bare
mutual
def conv:(s:Sh)->XV D->(r:List CT)->HL D r->Option (HL D (lv s r))
 | .d u _,.d t x,_,h=>(asT A t u x).map λy=>(y,h)
 | .ip l,.ip l',r,h=>lu l l' r h
 | .agg l,.agg l',r,h=>lu l l' r h
 | .tup l,.tup l',r,h=>lu l l' r h
 | .fn f l,.fn f' l',r,h=>if f=f' then lu l l' r h else none
 | .k x,.k y,_,h=>if w6 x y then some h else none
 | .dead,.dead,_,h=>some h
 | .ptr p vs,.ptr q ws,r,h=>if p.root==q.root && p.off==q.off && vs==ws then rU p.hops q.hops r h else none
 | .pk p vs,.pk q ws,r,h=>if p.root==q.root && p.off==q.off && vs==ws then rU p.hops q.hops r h else none
 | .gap t _ _ o,.gap t' x i o',_,h=>if o=o' then (asT A (.row true t') (.row true t) x).map λy=>(y,i,h) else none
 | _,_,_,_=>none
def lu:(s:List Sh)->List (XV D)->(r:List CT)->HL D r->Option (HL D (lvL s r))
 | [],[],_,h=>some h
 | s :: ss,x :: xs,r,h=>(lu ss xs r h).bind λh1=>conv s x (lvL ss r) h1
 | _,_,_,_=>none
end
end
abbrev XM(D:CT->Type) (M:Type->Type) (X α:Type):=XS D->(α->XS D->M X)->M X
def yG{α:Type}:List α->Nat->Option α
 | [],_=>none
 | x :: _,0=>some x
 | _ :: r,i+1=>yG r i
namespace X
section
variable {D:CT->Type} {M:Type->Type} {X:Type} (A:Alg D M) {α β:Type}
def ret(a:α):XM D M X α:=fun σ k=>k a σ
def bind(m:XM D M X α) (f:α->XM D M X β):XM D M X β:=fun σ k=>m σ λa σ'=>f a σ' k
def fail:XM D M X α:=λ_ _=>A.fail
def brM(c:D .bool) (m:XM D M X α):XM D M X α:=fun σ k=>A.br c (m σ k) A.fail
def forkM(c:D .bool) (m m':XM D M X α):XM D M X α:=fun σ k=>A.br c (m σ k) (m' σ k)
def caseM(k:D .nat):Nat->(Nat->XM D M X α)->Nat->XM D M X α
 | 0,_,_=>fail A
 | n+1,f,i=>forkM A (A.eqN k (A.litN i)) (f i) (caseM k n f (i+1))
def optM(o:Option α):XM D M X α:=fun σ k=>match o with | some a=>k a σ | none=>A.fail
def tOf(σ:XS D) (i:Nat):XV D:=(bd σ.tm i).getD .dead
def cOf(σ:XS D) (r o:Nat):XV D:=match bd σ.ce r with | some l=>l.getD o .dead | none=>.dead
def lgR(x:Loc) (σ:XS D):XS D:=⟨σ.tm,σ.ce,σ.vr,(x :: σ.lg.1,σ.lg.2)⟩
def letL:List (XV D)->(List (XV D)->M X)->M X
 | [],k=>k []
 | .d t x :: r,k=>A.lt t x λy=>letL r λr'=>k (.d t y :: r')
 | t :: r,k=>letL r λr'=>k (t :: r')
def letX(t:XV D) (k:XV D->M X):M X:=
 match t with
 | .d t x=>A.lt t x λy=>k (.d t y)
 | .agg l=>letL A l λl'=>k (.agg l')
 | t=>k t
def rdT(i:Nat):XM D M X (XV D):=fun σ k=>k (tOf σ i) (lgR (.t i) σ)
def rdC(r o:Nat):XM D M X (XV D):=fun σ k=>k (cOf σ r o) (lgR (.c r o) σ)
def rdK(r o:Nat):XM D M X (XV D):=fun σ k=>k (cOf σ r o) (lgR (.h r o) σ)
def rdV(q:Key):XM D M X Nat:=fun σ k=>k (jb σ.vr q) (lgR (.v q) σ)
def wrT(i:Nat) (t:XV D):XM D M X Unit:=fun σ k=>letX A t λt'=>k () ⟨cl σ.tm i t',σ.ce,σ.vr,(σ.lg.1,.t i :: σ.lg.2)⟩
def wrC(r o:Nat) (t:XV D):XM D M X Unit:=fun σ k=>match bd σ.ce r with
 | some l=>if o < l.length then letX A t λt'=>k () ⟨σ.tm,cl σ.ce r (l.set o t'),σ.vr,(.n r :: .h r o :: σ.lg.1,.c r o :: .h r o :: σ.lg.2)⟩ else A.fail
 | none=>A.fail
def wrI(r o:Nat) (t:XV D):XM D M X Unit:=fun σ k=>match bd σ.ce r with
 | some l=>if o < l.length then letX A t λt'=>k () ⟨σ.tm,cl σ.ce r (l.set o t'),σ.vr,(.n r :: .h r o :: σ.lg.1,.c r o :: σ.lg.2)⟩ else A.fail
 | none=>A.fail
def new(r:Nat) (l:List (XV D)):XM D M X Unit:=fun σ k=>letL A l λl'=>k () ⟨σ.tm,cl σ.ce r l',hZ σ.vr (r,0,0),(.v (r,0,0) :: σ.lg.1,.n r :: .v (r,0,0) :: σ.lg.2)⟩
def bump(q:Key):XM D M X Unit:=fun σ k=>k () ⟨σ.tm,σ.ce,hZ σ.vr q,(.v q :: σ.lg.1,.v q :: σ.lg.2)⟩
def cellX:Value->XV D
 | .slice none 0 0=>.d (.nilr true) (A.nilv true)
 | .int k n=>.d (.int k) (A.lit k n)
 | .bool b=>.d .bool (A.litB b)
 | .string s=>.d .str (A.litS s)
 | x=>if cS x then .k x else .dead
def constX:Value->XV D
 | .agg cs=>.agg (cs.toList.map (cellX A))
 | x=>cellX A x
def opd:Opd->XM D M X (XV D)
 | .t i=>rdT i
 | .c x=>ret (constX A x)
 | .f f=>ret (.fn f [])
def rdVs:List Key->XM D M X (List Nat)
 | []=>ret []
 | q :: qs=>bind (rdV q) λn=>bind (rdVs qs) λl=>ret (n :: l)
def chk(p:XP D) (n:Nat) (vs:List Nat):XM D M X Unit:=bind (rdVs (is p.root p.off n)) λl=>if l=vs then ret () else fail A
def addP(p:XP D) (n:Nat):XP D:=
 match p.hops.reverse with
 | []=>⟨p.root,p.off+n,[]⟩
 | (i,sz,o) :: r=>⟨p.root,p.off,((i,sz,o+n) :: r).reverse⟩
def atP(p:XP D) (i:D .nat) (sz:Nat):XP D:=⟨p.root,p.off,p.hops++[(i,sz,0)]⟩
def fitsP(p:XP D) (n:Nat):Bool:=
 match p.hops.reverse with
 | []=>true
 | (_,sz,o) :: _=>decide (o+n < sz)
def splitX:(t:CT)->D t->List (XV D)
 | .pair a b,x=>splitX a (A.fst a b x)++splitX b (A.snd a b x)
 | .nat,_=>[]
 | .int k,x=>[.d (.int k) x]
 | .bool,x=>[.d .bool x]
 | .str,x=>[.d .str x]
 | .row o t,x=>[.d (.row o t) x]
 | .nilr o,x=>[.d (.nilr o) x]
def getX:XV D->List (D .nat×Nat×Nat)->(XV D->M X)->M X
 | t,[],k=>k t
 | .d (.row true t) xs,(i,sz,o) :: hs,k=>if dT t=sz then A.get true t xs i λe=>match yG (splitX A t e) o with | some v=>getX v hs k | none=>A.fail else A.fail
 | _,_ :: _,_=>A.fail
def elemX:XV D->List (D .nat×Nat×Nat)->((t:CT)->D t->M X)->M X
 | .d (.row true t) xs,[(i,sz,_)],k=>if dT t=sz then A.get true t xs i (k t) else A.fail
 | .d (.row true t) xs,(i,sz,o) :: h :: hs,k=>if dT t=sz then A.get true t xs i λe=>match yG (splitX A t e) o with | some v=>elemX v (h :: hs) k | none=>A.fail else A.fail
 | _,_,_=>A.fail
def getM(tv:XV D) (hs:List (D .nat×Nat×Nat)) (g:XV D->XM D M X α):XM D M X α:=fun σ k=>getX A tv hs λv=>g v σ k
def elemM(tv:XV D) (hs:List (D .nat×Nat×Nat)) (g:(t:CT)->D t->XM D M X α):XM D M X α:=fun σ k=>elemX A tv hs λt e=>g t e σ k
def atM(o:Bool) (t:CT) (xs:D (.row o t)) (i:D .nat) (g:D t->XM D M X α):XM D M X α:=fun σ k=>A.get o t xs i λe=>g e σ k
def natM(kd:IntKind) (n:D (.int kd)) (g:D .nat->XM D M X α):XM D M X α:=fun σ k=>A.nat kd n λm=>g m σ k
def Bu(s:D .str) (i:D .nat) (g:D (.int .u8)->XM D M X α):XM D M X α:=fun σ k=>A.strAt s i λb=>g b σ k
def CA(c:D (.row false (.int .u8))) (g:D .str->XM D M X α):XM D M X α:=fun σ k=>A.bstr c λs=>g s σ k
def lastO:List (D .nat×Nat×Nat)->Nat
 | []=>0
 | [(_,_,o)]=>o
 | _ :: h :: hs=>lastO (h :: hs)
def setD:(t:CT)->Nat->((u:CT)->Option (D u->D u))->Option (D t->D t)
 | .pair a b,o,g=>if o < dT a then (setD a o g).map λh e=>A.mkp a b (h (A.fst a b e)) (A.snd a b e) else (setD b (o - dT a) g).map λh e=>A.mkp a b (A.fst a b e) (h (A.snd a b e))
 | .nat,_,_=>none
 | .int k,0,g=>g (.int k)
 | .bool,0,g=>g .bool
 | .str,0,g=>g .str
 | .row o t,0,g=>g (.row o t)
 | .nilr o,0,g=>g (.nilr o)
 | _,_+1,_=>none
def asF(v:XV D) (u:CT):Option (D u->D u):=
 match v with
 | .d t x=>(asT A t u x).map λy _=>y
 | _=>none
def setDs(t:CT):Nat->List (XV D)->Option (D t->D t)
 | _,[]=>none
 | o,[v]=>setD A t o (asF A v)
 | o,v :: w :: vs=>match setD A t o (asF A v),setDs t (o+1) (w :: vs) with | some f,some g=>some λe=>g (f e) | _,_=>none
def setH:List (D .nat×Nat×Nat)->XV D->(u:CT)->Option (D u->D u)
 | [],v,u=>asF A v u
 | (i,sz,o) :: hs,v,.row true t=>if dT t=sz then (setD A t o (setH hs v)).map λf xs=>A.upd t xs i f else none
 | _ :: _,_,_=>none
def setX:XV D->List (D .nat×Nat×Nat)->XV D->Option (XV D)
 | _,[],v=>some v
 | .d u x,h :: hs,v=>(setH A (h :: hs) v u).map λf=>.d u (f x)
 | _,_ :: _,_=>none
def setHs:List (D .nat×Nat×Nat)->List (XV D)->(u:CT)->Option (D u->D u)
 | [(i,sz,o)],vs,.row true t=>if dT t=sz then (setDs A t o vs).map λf xs=>A.upd t xs i f else none
 | (i,sz,o) :: h :: hs,vs,.row true t=>if dT t=sz then (setD A t o (setHs (h :: hs) vs)).map λf xs=>A.upd t xs i f else none
 | _,_,_=>none
def setXs:XV D->List (D .nat×Nat×Nat)->List (XV D)->Option (XV D)
 | .d u x,hs,vs=>(setHs A hs vs u).map λf=>.d u (f x)
 | _,_,_=>none
def immX:XV D->Option (XV D)
 | .d (.int k) x=>some (.d (.int k) x)
 | .d .bool x=>some (.d .bool x)
 | .d .str x=>some (.d .str x)
 | .d (.row false t) x=>some (.d (.row false t) x)
 | .d (.nilr _) _=>some (.d (.nilr false) (A.nilv false))
 | .d (.row true t) x=>if h:dR (.row true t) (.row false (i5 t))=true then some (.d (.row false (i5 t)) (A.recast _ _ h x)) else none
 | .k x=>some (.k x)
 | _=>none
def immXL:List (XV D)->Option (List (XV D))
 | []=>some []
 | x :: r=>match immX A x,immXL r with | some y,some l=>some (y :: l) | _,_=>none
def shareX:XV D->List Nat->Option (XV D)
 | .d t x,os=>match shT t 0 os with | some t'=>if h:dR t t'=true then some (.d t' (A.recast t t' h x)) else none | none=>none
 | _,_=>none
def getPl(p:XP D):XM D M X (XV D):=bind (rdC p.root p.off) λtv=>getM A tv p.hops ret
def hdPl(p:XP D):XM D M X (XV D):=match p.hops with
 | []=>rdK p.root p.off
 | _ :: _=>getPl A p
def hopOs(hs:List (D .nat×Nat×Nat)):List Nat:=hs.map λh=>h.2.2
def Cu:CT->Bool
 | .int _=>false
 | .bool=>false
 | .str=>false
 | _=>true
def oneT:CT->Bool
 | .nat=>false
 | .pair _ _=>false
 | _=>true
def isOwT:CT->Bool
 | .row o _=>o
 | .nilr o=>o
 | _=>false
def isOwX:XV D->Bool
 | .d t _=>isOwT t
 | .gap _ _ _ _=>true
 | _=>false
def isHdrX:XV D->Bool
 | .d t _=>Cu t
 | .k _=>false
 | _=>true
def winX(lo n:D .nat):XV D->Option (XV D)
 | .d (.row true t) xs=>match immX A (.d (.row true t) xs) with | some (.d (.row false t') ys)=>some (.d (.row false t') (A.win false t' ys lo n)) | _=>none
 | .d (.nilr true) _=>some (.d (.nilr false) (A.nilv false))
 | _=>none
def gapX:XV D->List (D .nat×Nat×Nat)->Option (XV D)
 | .d (.row true t) xs,[(i,_,o)]=>some (.gap t xs i o)
 | _,_=>none
def take1(mv:Bool):XV D->XM D M X (XV D)
 | .d (.row true _) _=>fail A
 | .d .nat _=>fail A
 | .d (.pair _ _) _=>fail A
 | .d (.nilr o) x=>if mv then ret (.d (.nilr o) x) else ret (.d (.nilr false) (A.nilv false))
 | .d t x=>ret (.d t x)
 | .k x=>ret (.k x)
 | .pk p vs=>bind (chk A p (p.hops.length+1) vs) λ_=>bind (rdC p.root p.off) λtv=>getM A tv p.hops λv=>
  if isOwX v then
   if mv then (if XP.bare p then (bind (wrC A p.root p.off .dead) λ_=>bind (bump (p.root,p.off,p.hops.length+1)) λ_=>ret v) else bind (optM A (gapX tv p.hops)) λYJ=>bind (wrI A p.root p.off YJ) λ_=>bind (bump (p.root,p.off,p.hops.length+1)) λ_=>ret v)
   else bind (optM A (shareX A tv (hopOs p.hops))) λYJ=>bind (optM A (immX A v)) λv'=>bind (if XP.bare p then wrC A p.root p.off YJ else wrI A p.root p.off YJ) λ_=>bind (bump (p.root,p.off,p.hops.length+1)) λ_=>ret v'
  else fail A
 | .pw p vs _ lo n=>bind (chk A p (p.hops.length+1) vs) λ_=>bind (rdC p.root p.off) λtv=>getM A tv p.hops λv=>
  bind (optM A (shareX A tv (hopOs p.hops))) λYJ=>bind (optM A (winX A lo n v)) λv'=>bind (wrC A p.root p.off YJ) λ_=>bind (bump (p.root,p.off,p.hops.length+1)) λ_=>ret v'
 | _=>fail A
def takeL(mv:Bool):List (XV D)->XM D M X (List (XV D))
 | []=>ret []
 | t :: r=>bind (take1 A mv t) λt'=>bind (takeL mv r) λr'=>ret (t' :: r')
def cellsX:XV D->List (XV D)
 | .agg l=>l
 | t=>[t]
def takeV(mv:Bool) (t:XV D):XM D M X (List (XV D)×Bool):=
 match t with
 | .agg l=>bind (takeL A mv l) λl'=>ret (l',true)
 | t=>bind (take1 A mv t) λt'=>ret ([t'],false)
def putB(r:Nat):Nat->List (XV D)->XM D M X Unit
 | _,[]=>ret ()
 | o,t :: l=>bind (rdC r o) λold=>bind (wrC A r o t) λ_=>bind (if isHdrX old || isHdrX t then bump (r,o,1) else ret ()) λ_=>putB r (o+1) l
def bumps(q:Key):Nat->XM D M X Unit
 | 0=>ret ()
 | n+1=>bind (bump q) λ_=>bumps q n
def hdrs:List (XV D)->List (XV D)->Nat
 | a :: r,b :: s=>(if isHdrX a || isHdrX b then 1 else 0)+hdrs r s
 | _,_=>0
def putEl(r off:Nat) (i:D .nat) (sz o:Nat) (l:List (XV D)):XV D->XM D M X Unit
 | .d (.row true t) xs=>if dT t=sz/\o+l.length<=sz/\0 < l.length then atM A true t xs i λe=>bind (optM A (setDs A t o l)) λf=>bind (wrI A r off (.d (.row true t) (A.upd t xs i f))) λ_=>bumps (r,off,2) (hdrs ((splitX A t e).drop o) l) else fail A
 | .gap t xs i' o'=>if dT t=sz/\o=o'/\o < sz/\l.length=1 then atM A true t xs i λ_=>brM A (A.eqN i i') (bind (optM A (setDs A t o l)) λf=>bind (wrI A r off (.d (.row true t) (A.upd t xs i f))) λ_=>bump (r,off,2)) else fail A
 | _=>fail A
def putL(p:XP D) (l:List (XV D)):XM D M X Unit:=
 match p.hops with
 | []=>putB A p.root p.off l
 | [(i,sz,o)]=>bind (rdC p.root p.off) (putEl A p.root p.off i sz o l)
 | hs=>bind (rdC p.root p.off) λtv=>elemM A tv hs λt e=>
  if lastO hs+l.length<=dT t/\0 < l.length/\(((splitX A t e).drop (lastO hs)).take l.length).all (λv=>!isHdrX v)=true/\l.all (λv=>!isHdrX v)=true then bind (optM A (setXs A tv hs l)) λYJ=>wrI A p.root p.off YJ else fail A
def peek1(p:XP D):XV D->XM D M X (XV D)
 | .k x=>ret (.k x)
 | .d t x=>if isOwT t then bind (rdVs (is p.root p.off (p.hops.length+1))) λvs=>ret (.pk p vs) else if oneT t then ret (.d t x) else fail A
 | _=>fail A
def peekP(p:XP D):XM D M X (XV D):=match p.hops with
 | []=>bind (rdK p.root p.off) λt=>if isOwX t then bind (rdVs (is p.root p.off 1)) λvs=>ret (.pk p vs) else bind (getPl A p) (peek1 A p)
 | _ :: _=>bind (getPl A p) (peek1 A p)
def peekB(r:Nat):Nat->Nat->XM D M X (List (XV D))
 | _,0=>ret []
 | o,n+1=>bind (rdC r o) λt=>bind (peek1 A ⟨r,o,[]⟩ t) λt'=>bind (peekB r (o+1) n) λl=>ret (t' :: l)
def peekCs(p:XP D):List (XV D)->XM D M X (List (XV D))
 | []=>ret []
 | t :: r=>bind (peek1 A p t) λt'=>bind (peekCs (addP p 1) r) λl=>ret (t' :: l)
def peekL(p:XP D) (n:Nat):XM D M X (List (XV D)):=
 match p.hops with
 | []=>peekB A p.root p.off n
 | _ :: _=>bind (rdC p.root p.off) λtv=>elemM A tv p.hops λt e=>if lastO p.hops+n<=dT t/\0 < n then peekCs A p (((splitX A t e).drop (lastO p.hops)).take n) else fail A
def nameL(r:Nat):Nat->List (XV D)->XM D M X (List (XV D))
 | _,[]=>ret []
 | i,t :: l=>if isOwX t then bind (rdV (r,0,0)) λg=>bind (rdV (r,i,1)) λh=>bind (nameL r (i+1) l) λl'=>ret (.pk ⟨r,i,[]⟩ [g,h] :: l') else bind (nameL r (i+1) l) λl'=>ret (t :: l')
def names(d:Nat) (l:List (XV D)):XM D M X (List (XV D)):=if l.any isOwX then bind (new A (2*d+3) l) λ_=>nameL (2*d+3) 0 l else ret l
def shapedX(agg:Bool) (l:List (XV D)):XV D:=if agg then .agg l else l.headD .dead
def inst(d:Nat) (agg:Bool) (l:List (XV D)):XM D M X Unit:=bind (names A d l) λl'=>wrT A d (shapedX agg l')
def natOf:XV D->XM D M X (D .nat)
 | .d (.int k) n=>natM A k n ret
 | _=>fail A
def lenOf:XV D->XM D M X (D .nat)
 | .d (.row false t) xs=>ret (A.len false t xs)
 | .d (.nilr _) _=>ret (A.litN 0)
 | .pk p vs=>bind (chk A p (p.hops.length+1) vs) λ_=>bind (hdPl A p) λt=>match t with
  | .d (.row true t) xs=>ret (A.len true t xs)
  | .d (.nilr true) _=>ret (A.litN 0)
  | _=>fail A
 | .pw p vs _ _ n=>bind (chk A p (p.hops.length+1) vs) λ_=>ret n
 | _=>fail A
def optNat:Option Opd->D .nat->XM D M X (D .nat)
 | some o,_=>bind (opd A o) (natOf A)
 | none,d=>ret d
def takeParts(mv:Bool):List (Nat×Nat×Opd)->XM D M X (List (XV D))
 | []=>ret []
 | (_,n,x) :: r=>bind (opd A x) λt=>bind (takeL A mv (cellsX t)) λl=>if l.length=n then bind (takeParts mv r) λl'=>ret (l++l') else fail A
def placeX(cells:List (XV D)) (off:Nat):List (XV D)->List (XV D)
 | []=>cells
 | t :: r=>placeX (cells.set off t) (off+1) r
def assembleX(cells:List (XV D)):List (Nat×Nat×Opd)->List (XV D)->List (XV D)
 | [],_=>cells
 | (off,n,_) :: r,l=>assembleX (placeX cells off (l.take n)) r (l.drop n)
def chunksX(sz:Nat):Nat->List (XV D)->List (List (XV D))
 | 0,_=>[]
 | n+1,l=>l.take sz :: chunksX sz n (l.drop sz)
def okCellX:XV D->Bool
 | .d (.row true _) _=>false
 | .d .nat _=>false
 | .d (.pair _ _) _=>false
 | .d _ _=>true
 | .k _=>true
 | _=>false
def Cb:List (XV D)->Option CT
 | []=>none
 | [.d t _]=>some t
 | .d t _ :: r=>(Cb r).map (.pair t)
 | _ :: _=>none
def sn:CT->CT->CT
 | .nilr _,.row o t=>.row o t
 | .row o t,.row _ t'=>.row o (sn t t')
 | .pair a b,.pair a' b'=>.pair (sn a a') (sn b b')
 | t,_=>t
def joinC(t:CT):List (XV D)->Option (D t×List (XV D))
 | .d u x :: r=>(asT A u t x).map λy=>(y,r)
 | _=>none
def joinX:(t:CT)->List (XV D)->Option (D t×List (XV D))
 | .pair a b,l=>match joinX a l with
  | some (x,r)=>match joinX b r with
   | some (y,r')=>some (A.mkp a b x y,r')
   | none=>none
  | none=>none
 | .nat,_=>none
 | .int k,l=>joinC A (.int k) l
 | .bool,l=>joinC A .bool l
 | .str,l=>joinC A .str l
 | .row o t,l=>joinC A (.row o t) l
 | .nilr o,l=>joinC A (.nilr o) l
def joinOne(t:CT) (l:List (XV D)):Option (D t):=match joinX A t l with | some (x,[])=>some x | _=>none
def joinAll(t:CT):List (List (XV D))->Option (List (D t))
 | []=>some []
 | l :: r=>match joinOne A t l,joinAll t r with | some x,some xs=>some (x :: xs) | _,_=>none
def Bs:List (List (XV D))->Option CT
 | []=>none
 | [l]=>Cb l
 | l :: r=>match Cb l,Bs r with | some t,some t'=>some (sn t t') | _,_=>none
def td:CT->Bool
 | .nilr _=>true
 | .row _ t=>td t
 | .pair a b=>td a || td b
 | _=>false
def so:CT->CT->CT
 | .nilr o,.row _ t=>.row o t
 | .row o t,.row _ t'=>.row o (so t t')
 | .pair a b,.pair a' b'=>.pair (so a a') (so b b')
 | t,_=>t
def resT(ZI:Option CT) (t:CT):CT:=if td t then so t (ZI.getD t) else t
def rowOf(ZI:Option CT) (ls:List (List (XV D))):Option (XV D):=
 match ls with
 | []=>some (.d (.nilr true) (A.nilv true))
 | _=>match Bs ls with
  | some t=>(joinAll A (resT ZI t) ls).map λes=>.d (.row true (resT ZI t)) (A.rowl true (resT ZI t) es)
  | none=>none
def repOf(ZI:Option CT) (n:D .nat) (l:List (XV D)):Option (XV D):=
 match Cb l with
 | some t=>(joinOne A (resT ZI t) l).map λe=>.d (.row true (resT ZI t)) (A.rep (resT ZI t) n e)
 | none=>none
def contentOf:XV D->XM D M X (XV D)
 | .d (.row false t) xs=>ret (.d (.row false t) xs)
 | .d (.nilr _) _=>ret (.d (.nilr false) (A.nilv false))
 | .pk p vs=>bind (chk A p (p.hops.length+1) vs) λ_=>bind (getPl A p) λt=>match t with | .d (.row true t) xs=>ret (.d (.row true t) xs) | .d (.nilr true) _=>ret (.d (.nilr false) (A.nilv false)) | _=>fail A
 | .pw p vs _ lo n=>bind (chk A p (p.hops.length+1) vs) λ_=>bind (getPl A p) λt=>match t with | .d (.row true t) xs=>ret (.d (.row true t) (A.win true t xs lo n)) | _=>fail A
 | _=>fail A
def flat1:CT->Bool
 | .int _=>true
 | .bool=>true
 | .str=>true
 | _=>false
def flatT:CT->Bool
 | .int _=>true
 | .bool=>true
 | .str=>true
 | .pair a b=>flatT a && flatT b
 | _=>false
def isNameX:XV D->Bool
 | .pk _ _=>true
 | .pw _ _ _ _ _=>true
 | _=>false
def flatRow:XV D->Bool
 | .d (.row _ t) _=>flatT t
 | .d (.nilr _) _=>true
 | _=>false
def cpyX(d sz:Nat) (p:XP D) (lo:D .nat) (n:Option (D .nat)) (tv c2:XV D):XM D M X Unit:=getM A tv p.hops λv=>
 match v,c2 with
  | .d (.row true t) xs,.d (.row o t2) ys=>if h:iY t2 t=true/\dT t=sz/\flatT t=true then
   bind (optM A (setX A tv p.hops (.d (.row true t) (A.splice t o xs lo (A.minN (A.len o t2 ys) (n.getD (A.len true t xs))) (jR h.1 ▸ ys))))) λYJ=>
    brM A (A.slOk lo (A.addN lo (A.minN (A.len o t2 ys) (n.getD (A.len true t xs)))) (A.len true t xs)) (forkM A (A.ltN (A.litN 0) (A.minN (A.len o t2 ys) (n.getD (A.len true t xs)))) (bind (wrC A p.root p.off YJ) λ_=>wrT A d (.d (.int .i64) (A.natI (A.minN (A.len o t2 ys) (n.getD (A.len true t xs)))))) (wrT A d (.d (.int .i64) (A.natI (A.minN (A.len o t2 ys) (n.getD (A.len true t xs)))))))
   else fail A
  | .d (.row true _) _,.d (.nilr _) _=>if 0 < sz then wrT A d (.d (.int .i64) (A.lit .i64 0)) else fail A
  | _,_=>fail A
def eqAll:List FK->List (XV D)->List (XV D)->Option (D .bool)
 | [],[],[]=>some (A.litB true)
 | .i :: ks,.d (.int k) a :: xs,.d (.int k') b :: ys=>if h:k'=k then (eqAll ks xs ys).map (A.andB (A.cm .eql k a (h ▸ b))) else none
 | .b :: ks,.d .bool a :: xs,.d .bool b :: ys=>(eqAll ks xs ys).map (A.andB (A.eqB a b))
 | .s :: ks,.d .str a :: xs,.d .str b :: ys=>(eqAll ks xs ys).map (A.andB (A.eqS a b))
 | _,_,_=>none
def mapM'(f:α->XM D M X β):List α->XM D M X (List β)
 | []=>ret []
 | x :: r=>bind (f x) λy=>bind (mapM' f r) λl=>ret (y :: l)
def intOf:XV D->XM D M X (XV D)
 | .d (.int k) n=>ret (.d (.int k) n)
 | _=>fail A
def capOf:XV D->XM D M X (XV D)
 | .ptr p vs=>ret (.ptr p vs)
 | .ip cs=>ret (.ip cs)
 | t=>if okCellX t && !isOwX t then ret t else fail A
def mmAll(mx:Bool) (k:IntKind):D (.int k)->List (XV D)->Option (D (.int k))
 | a,[]=>some a
 | a,.d (.int k') b :: r=>if h:k'=k then mmAll mx k (A.mm mx k a (h ▸ b)) r else none
 | _,_=>none
def wr(d:Nat) (t:XV D):XM D M X Unit:=wrT A d t
def binX(d:Nat) (op:BinOp):XV D->XV D->XM D M X Unit
 | .d (.int k) a,.d (.int k') b=>
  match op with
  | .shl=>natM A k' b λn=>wr A d (.d (.int k) (A.sh .shl k a n))
  | .shr=>natM A k' b λn=>wr A d (.d (.int k) (A.sh .shr k a n))
  | .quo=>if h:k'=k then brM A (A.cm .neq k' b (A.lit k' 0)) (wr A d (.d (.int k) (A.ar .quo k a (h ▸ b)))) else fail A
  | .rem=>if h:k'=k then brM A (A.cm .neq k' b (A.lit k' 0)) (wr A d (.d (.int k) (A.ar .rem k a (h ▸ b)))) else fail A
  | .add=>if h:k'=k then wr A d (.d (.int k) (A.ar .add k a (h ▸ b))) else fail A
  | .sub=>if h:k'=k then wr A d (.d (.int k) (A.ar .sub k a (h ▸ b))) else fail A
  | .mul=>if h:k'=k then wr A d (.d (.int k) (A.ar .mul k a (h ▸ b))) else fail A
  | .and=>if h:k'=k then wr A d (.d (.int k) (A.ar .and k a (h ▸ b))) else fail A
  | .or=>if h:k'=k then wr A d (.d (.int k) (A.ar .or k a (h ▸ b))) else fail A
  | .xor=>if h:k'=k then wr A d (.d (.int k) (A.ar .xor k a (h ▸ b))) else fail A
  | .andNot=>if h:k'=k then wr A d (.d (.int k) (A.ar .andNot k a (h ▸ b))) else fail A
  | op=>if h:k'=k then wr A d (.d .bool (A.cm op k a (h ▸ b))) else fail A
 | .d .str a,.d .str b=>
  match op with
  | .eql=>wr A d (.d .bool (A.eqT a b))
  | .neq=>wr A d (.d .bool (A.not (A.eqT a b)))
  | _=>fail A
 | _,_=>fail A
def pickX(d:Nat) (tc ta tb:XV D):XM D M X Unit:=match tc,ta,tb with
 | .d .bool c,.d (.int k) x,.d (.int k') y=>if h:k'=k then wr A d (.d (.int k) (A.ite (.int k) c x (h ▸ y))) else fail A
 | .d .bool c,.d .bool x,.d .bool y=>wr A d (.d .bool (A.ite .bool c x y))
 | .d .bool c,.d .str x,.d .str y=>wr A d (.d .str (A.ite .str c x y))
 | .d .bool c,.d t x,_=>if flat1 t then brM A c (wr A d (.d t x)) else fail A
 | .d .bool c,_,.d t x=>if flat1 t then brM A (A.not c) (wr A d (.d t x)) else fail A
 | _,_,_=>fail A
def appX(d sz bytes:Nat) (ZI:Option CT) (s x:XV D):XM D M X Unit:=
 match s,x with
 | .d (.row true t) c,.d (.row o t2) c2=>if dT t=sz then bind (optM A (asT A (.row o t2) (.row o t) c2)) λc3=>brM A (A.appOk bytes (A.len true t c) (A.len o t2 c2)) (inst A d false [.d (.row true t) (A.cat t o c c3)]) else fail A
 | .d (.row true t) c,.d (.nilr _) _=>if dT t=sz then brM A (A.appOk bytes (A.len true t c) (A.litN 0)) (inst A d false [.d (.row true t) c]) else fail A
 | .d (.nilr true) _,.d (.row o t2) c2=>if dT t2=sz then bind (optM A (asT A (.row o t2) (.row o (resT ZI t2)) c2)) λc3=>brM A (A.appOk bytes (A.litN 0) (A.len o t2 c2)) (inst A d false [.d (.row true (resT ZI t2)) (A.cat _ o (A.nil true (resT ZI t2)) c3)]) else fail A
 | .d (.nilr true) _,.d (.nilr _) _=>brM A (A.appOk bytes (A.litN 0) (A.litN 0)) (inst A d false [.d (.nilr true) (A.nilv true)])
 | _,_=>fail A
def immCX:XV D->Bool
 | .ip _=>true
 | t=>okCellX t && !isOwX t
def immFX:XV D->Bool
 | .fn _ l=>l.all immCX
 | t=>immCX t
def isNA:XV D->Bool
 | .agg _=>true
 | .pk _ _=>true
 | _=>false
def loadIp(n:Option Nat) (cs:List (XV D)):Option (XV D):=
 match n with
 | none=>match cs with
  | .ip l :: _=>some (.ip l)
  | .fn f l :: _=>some (.fn f l)
  | t :: _=>if okCellX t && !isOwX t then some t else none
  | []=>none
 | some n=>if n<=cs.length && (cs.take n).all (λt=>okCellX t && !isOwX t) then some (.agg (cs.take n)) else none
def ev1(HT:List (Nat×CT)) (d:Nat):TOp->XM D M X Unit
 | .mov x=>bind (opd A x) λt=>match t with
  | .d t y=>if isOwT t then (match x with | .c _=>inst A d false [.d t y] | _=>fail A) else wr A d (.d t y)
  | .agg l=>if l.any isOwX then fail A else wr A d (.agg l)
  | .gap _ _ _ _=>fail A
  | t=>wr A d t
 | .asn mv x=>bind (opd A x) λt=>match t with
  | .ptr p vs=>wr A d (.ptr p vs)
  | .ip cs=>wr A d (.ip cs)
  | .fn f cap=>wr A d (.fn f cap)
  | t=>bind (takeV A mv t) λl=>inst A d l.2 l.1
 | .pick c a b=>bind (opd A c) λtc=>bind (opd A a) λta=>bind (opd A b) λtb=>pickX A d tc ta tb
 | .alloc z=>if (z.map (cellX A)).all okCellX then bind (new A (2*d+2) (z.map (cellX A))) λ_=>bind (rdV (2*d+2,0,0)) λg=>wr A d (.ptr ⟨2*d+2,0,[]⟩ [g]) else fail A
 | .box n mv x=>bind (opd A x) λt=>bind (takeL A mv (cellsX t)) λl=>if l.length=n then bind (new A (2*d+2) l) λ_=>bind (rdV (2*d+2,0,0)) λg=>wr A d (.ptr ⟨2*d+2,0,[]⟩ [g]) else fail A
 | .boxi n x=>bind (opd A x) λt=>if immFX t then (if n=1 then wr A d (.ip [t]) else fail A) else if isNA t then bind (takeL A false (cellsX t)) λl=>bind (optM A (immXL A l)) λl'=>if l.length=n then wr A d (.ip l') else fail A else fail A
 | .load n a=>bind (opd A a) λt=>match t with
  | .ptr p vs=>bind (chk A p p.hops.length vs) λ_=>match n with
   | none=>bind (peekP A p) λt'=>wr A d t'
   | some n=>bind (peekL A p n) λl=>wr A d (.agg l)
  | .ip cs=>match loadIp n cs with | some t=>wr A d t | none=>fail A
  | _=>fail A
 | .store n mv a x=>bind (opd A a) λta=>match ta with
  | .ptr p vs=>bind (opd A x) λtx=>bind (takeL A mv (cellsX tx)) λl=>if l.length=n then bind (chk A p p.hops.length vs) λ_=>putL A p l else fail A
  | _=>fail A
 | .nilc x=>bind (opd A x) λt=>match t with
  | .ptr p vs=>bind (chk A p p.hops.length vs) λ_=>wr A d (.ptr p vs)
  | .ip cs=>wr A d (.ip cs)
  | .fn f cap=>wr A d (.fn f cap)
  | _=>fail A
 | .fld off a=>bind (opd A a) λt=>match t with
  | .ptr p vs=>bind (chk A p p.hops.length vs) λ_=>if fitsP p off then wr A d (.ptr (addP p off) vs) else fail A
  | .ip cs=>if off < cs.length then wr A d (.ip (cs.drop off)) else fail A
  | _=>fail A
 | .fldv off n x=>bind (opd A x) λt=>match t with
  | .agg l=>match n with
   | none=>if off < l.length then wr A d (l.getD off .dead) else fail A
   | some n=>if off+n<=l.length then wr A d (.agg ((l.drop off).take n)) else fail A
  | _=>fail A
 | .idx sz x i=>bind (opd A x) λt=>bind (opd A i) λti=>bind (natOf A ti) λk=>match t with
  | .pk p vs=>bind (chk A p (p.hops.length+1) vs) λ_=>bind (hdPl A p) λt=>match t with
   | .d (.row true t) xs=>if dT t=sz/\0 < sz then atM A true t xs k λ_=>wr A d (.ptr (atP p k sz) vs) else fail A
   | .gap t xs _ _=>if dT t=sz/\0 < sz then atM A true t xs k λ_=>wr A d (.ptr (atP p k sz) vs) else fail A
   | _=>fail A
  | .pw p vs sz' lo n=>bind (chk A p (p.hops.length+1) vs) λ_=>bind (getPl A p) λt=>match t with
   | .d (.row true t) xs=>if dT t=sz/\0 < sz/\sz'=sz then brM A (A.ltN k n) (atM A true t xs (A.addN lo k) λ_=>wr A d (.ptr (atP p (A.addN lo k) sz) vs)) else fail A
   | _=>fail A
  | .d (.row false t) xs=>if dT t=sz/\0 < sz then atM A false t xs k λe=>wr A d (.ip (splitX A t e)) else fail A
  | _=>fail A
 | .ext x i=>bind (opd A x) λt=>match t with
  | .tup l=>if i < l.length then wr A d (l.getD i .dead) else fail A
  | _=>fail A
 | .bin op x y=>bind (opd A x) λa=>bind (opd A y) λb=>binX A d op a b
 | .bnb neg x y=>bind (opd A x) λa=>bind (opd A y) λb=>match a,b with
  | .d .bool a,.d .bool b=>wr A d (.d .bool (if neg then A.not (A.eqB a b) else A.eqB a b))
  | _,_=>fail A
 | .eqa ks neg x y=>bind (opd A x) λa=>bind (opd A y) λb=>match a,b with
  | .agg a,.agg b=>match eqAll A ks a b with | some r=>wr A d (.d .bool (if neg then A.not r else r)) | none=>fail A
  | _,_=>fail A
 | .un op x=>bind (opd A x) λa=>match op,a with
  | .not,.d .bool b=>wr A d (.d .bool (A.not b))
  | .neg,.d (.int k) n=>wr A d (.d (.int k) (A.neg k n))
  | _,_=>fail A
 | .conv k x=>bind (opd A x) λa=>match a with | .d (.int k0) n=>wr A d (.d (.int k) (A.cv k0 k n)) | _=>fail A
 | .bld z mv parts=>if (z.map (cellX A)).all okCellX then bind (takeParts A mv parts) λl=>bind (names A d l) λl'=>wr A d (.agg (assembleX (z.map (cellX A)) parts l')) else fail A
 | .bsl sz mv len parts=>bind (takeParts A mv (parts.map λp=>(0,sz,p))) λl=>if parts.length=len then bind (optM A (rowOf A (bd HT d) (chunksX sz len l))) λv=>inst A d false [v] else fail A
 | .mks sz z l c=>if (z.map (cellX A)).all okCellX && z.length==sz then bind (opd A l) λtl=>bind (opd A c) λtc=>bind (natOf A tl) λn=>bind (natOf A tc) λm=>
  brM A (A.mkOk n m sz) (bind (optM A (repOf A (bd HT d) n (z.map (cellX A)))) λv=>inst A d false [v]) else fail A
 | .slc sz x lo hi=>bind (opd A x) λt=>bind (lenOf A t) λn=>bind (optNat A lo (A.litN 0)) λl=>bind (optNat A hi n) λh=>brM A (A.slOk l h n) (
  match t with
  | .d (.row false t) xs=>if dT t=sz then wr A d (.d (.row false t) (A.win false t xs l (A.subN h l))) else fail A
  | .d (.nilr false) x=>wr A d (.d (.nilr false) x)
  | .pk p vs=>bind (getPl A p) λt=>match t with | .d (.row true t) _=>if dT t=sz then wr A d (.pw p vs sz l (A.subN h l)) else fail A | .d (.nilr true) _=>wr A d (.pw p vs sz l (A.subN h l)) | _=>fail A
  | .pw p vs sz' lo' _=>if sz'=sz then wr A d (.pw p vs sz (A.addN lo' l) (A.subN h l)) else fail A
  | .d (.nilr true) x=>inst A d false [.d (.nilr true) x]
  | _=>fail A)
 | .app sz bytes mv fl s x=>bind (opd A s) λts=>bind (opd A x) λtx=>
  if fl && !mv && isNameX tx then bind (contentOf A tx) λc2=>if flatRow c2 then bind (take1 A true ts) λs=>appX A d sz bytes (bd HT d) s c2 else fail A
  else bind (take1 A true ts) λs=>bind (take1 A mv tx) λx=>appX A d sz bytes (bd HT d) s x
 | .len x=>bind (opd A x) λt=>bind (lenOf A t) λn=>wr A d (.d (.int .i64) (A.natI n))
 | .lens x=>bind (opd A x) λt=>match t with
  | .d .str s=>wr A d (.d (.int .i64) (A.strLen s))
  | _=>fail A
 | .ixs x i=>bind (opd A x) λt=>bind (opd A i) λti=>bind (natOf A ti) λk=>match t with
  | .d .str s=>Bu A s k λb=>wr A d (.d (.int .u8) b)
  | _=>fail A
 | .mm mx xs=>bind (mapM' (λx=>bind (opd A x) (intOf A)) xs) λl=>match l with
  | .d (.int k) a :: r=>match mmAll A mx k a r with | some m=>wr A d (.d (.int k) m) | none=>fail A
  | _=>fail A
 | .mkf f caps=>bind (mapM' (λx=>bind (opd A x) (capOf A)) caps) λl=>wr A d (.fn f l)
 | .idxa n sz x i=>bind (opd A x) λt=>bind (opd A i) λti=>bind (natOf A ti) λk=>match t with
  | .ptr p vs=>bind (chk A p p.hops.length vs) λ_=>caseM A k n (λj=>if fitsP p (j*sz) then wr A d (.ptr (addP p (j*sz)) vs) else fail A) 0
  | _=>fail A
 | .s2b x=>bind (opd A x) λt=>match t with
  | .d .str s=>brM A (A.strOk s) (wr A d (.d (.row false (.int .u8)) (A.strB s)))
  | _=>fail A
 | .b2s x=>bind (opd A x) λt=>bind (take1 A false t) λt'=>match t' with
  | .d (.row false (.int .u8)) c=>CA A c λs=>wr A d (.d .str s)
  | _=>fail A
 | .cpy sz x y=>bind (opd A x) λt=>bind (opd A y) λu=>bind (contentOf A u) λc2=>match t with
  | .pk p vs=>bind (chk A p (p.hops.length+1) vs) λ_=>bind (rdC p.root p.off) λtv=>cpyX A d sz p (A.litN 0) none tv c2
  | .pw p vs sz' lo n=>if sz'=sz then bind (chk A p (p.hops.length+1) vs) λ_=>bind (rdC p.root p.off) λtv=>cpyX A d sz p lo (some n) tv c2 else fail A
  | _=>fail A
 | .emp x=>bind (opd A x) λt=>bind (lenOf A t) λ_=>inst A d false [.d (.nilr true) (A.nilv true)]
 | .call _ _ _=>fail A
end
end X
structure XGP (D:CT->Type) where
 i:Nat
 p:XP D
 vs:List Nat
 cells:List (XV D)
namespace X
section
variable {D:CT->Type} {M:Type->Type} {X:Type} (A:Alg D M) {α β:Type}
def isNmX:XV D->Bool
 | .pk _ _=>true
 | .d (.nilr true) _=>true
 | _=>false
def argV0:XV D->XM D M X (XV D)
 | .ip cs=>ret (.ip cs)
 | .fn f cap=>ret (.fn f cap)
 | .ptr p vs=>ret (.ptr p vs)
 | t=>bind (takeV A false t) λl=>bind (optM A (immXL A l.1)) λl'=>ret (shapedX l.2 l')
def argV(x:Option Nat×Opd):XM D M X (XV D):=bind (opd A x.2) λt=>if (x.1==some 0 && isNmX t)=true then ret t else argV0 A t
def argVs:List (Option Nat×Opd)->XM D M X (List (XV D))
 | []=>ret []
 | x :: r=>bind (argV A x) λt=>bind (argVs r) λl=>ret (t :: l)
def takeOwns:Nat->List (Option Nat×XV D)->XM D M X (List (Nat×XV D))
 | _,[]=>ret []
 | i,(some 0,.pk p vs) :: r=>bind (take1 A true (.pk p vs)) λt=>if isOwX t=true then bind (takeOwns (i+1) r) λq=>ret ((i,t) :: q) else fail A
 | i,_ :: r=>takeOwns (i+1) r
def grabB(r:Nat):Nat->Nat->XM D M X (List (XV D))
 | _,0=>ret []
 | o,n+1=>bind (rdC r o) λt=>bind (peek1 A ⟨r,o,[]⟩ t) λt'=>bind (take1 A true t') λt2=>bind (grabB r (o+1) n) λl=>ret (t2 :: l)
def CD(p:XP D):XP D:=⟨p.root,p.off,[]⟩
def baseXN(p:XP D) (n:Nat):Nat:=match p.hops with
 | []=>n
 | _ :: _=>1
def rooted(p:XP D):XM D M X Unit:=match p.hops with
 | []=>ret ()
 | _ :: _=>bind (rdT ((p.root - 2) / 2)) λt=>match t with
  | .ptr q ws=>if q.root==p.root && q.hops.isEmpty then chk A q 0 ws else fail A
  | _=>fail A
def isArgX:XV D->Bool
 | .ip _=>true
 | .d (.nilr true) _=>true
 | .fn _ l=>l.all immCX
 | .agg l=>l.all λt=>okCellX t && !isOwX t
 | t=>okCellX t && !isOwX t
def grabs:Nat->List (Option Nat×XV D)->XM D M X (List (XGP D))
 | _,[]=>ret []
 | i,(some n,.ptr p vs) :: r=>bind (chk A p p.hops.length vs) λ_=>bind (rooted A p) λ_=>bind (grabB A p.root p.off (baseXN p n)) λl=>bind (grabs (i+1) r) λq=>ret (⟨i,CD p,vs.take 1,l⟩ :: q)
 | i,(some 0,.pk _ _) :: r=>grabs (i+1) r
 | i,(_,t) :: r=>if isArgX t then grabs (i+1) r else fail A
def touch(p:XP D):XM D M X Unit:=bind (rdC p.root p.off) λtv=>wrC A p.root p.off tv
def rechk:List (XGP D)->XM D M X Unit
 | []=>ret ()
 | g :: r=>bind (chk A g.p g.p.hops.length g.vs) λ_=>bind (touch A g.p) λ_=>rechk r
def argT(i:Nat):XV D->XV D
 | .ptr p _=>.ptr ⟨2*i+2,0,p.hops⟩ (List.replicate (p.hops.length+1) 0)
 | .pk _ _=>.pk ⟨2*i+3,0,[]⟩ [0,0]
 | t=>t
def argTs:Nat->List (XV D)->List (XV D)
 | _,[]=>[]
 | i,t :: r=>argT i t :: argTs (i+1) r
def mkSt(vals:List (XV D)) (pts:List (Nat×List (XV D))):XS D:=⟨cE 0 vals,pts,[],([],[])⟩
def isDeadX:XV D->Bool
 | .dead=>true
 | .d t _=>!oneT t
 | _=>false
def putBack:List (XGP D×List (XV D))->XM D M X Unit
 | []=>ret ()
 | (g,l) :: r=>bind (putBack r) λ_=>if l.length=g.cells.length/\0 < l.length/\(l.all λt=>!isDeadX t)=true then putL A g.p l else fail A
def shapeRX:List RSh->List (XV D)->List (XV D)
 | [],_=>[]
 | .one :: r,l=>l.headD .dead :: shapeRX r l.tail
 | .agg n :: r,l=>.agg (l.take n) :: shapeRX r (l.drop n)
 | .ptr :: r,l=>.dead :: shapeRX r l
def shapeTX(sh:List RSh) (l:List (XV D)):XV D:=
 match shapeRX sh l with
 | [x]=>x
 | l=>.tup l
def landR(dst:Option Nat) (cells:List (XV D)) (sh:List RSh):XM D M X Unit:=
 match dst with
 | some d=>bind (names A d cells) λl=>wr A d (shapeTX sh l)
 | none=>ret ()
def convP:(s:List (Nat×List Sh))->List (Nat×List (XV D))->(r:List CT)->HL D r->Option (HL D (lvP s r))
 | [],[],_,h=>some h
 | s :: ss,x :: xs,r,h=>if s.1=x.1 then (convP ss xs r h).bind λh1=>lu A s.2 x.2 (lvP ss r) h1 else none
 | _,_,_,_=>none
def convT:(s:List (Nat×Sh))->List (Nat×XV D)->(r:List CT)->HL D r->Option (HL D (lvT s r))
 | [],[],_,h=>some h
 | s :: ss,x :: xs,r,h=>if s.1=x.1 then (convT ss xs r h).bind λh1=>conv A s.2 x.2 (lvT ss r) h1 else none
 | _,_,_,_=>none
def sameVr:List (Key×Nat)->List (Key×Nat)->Bool
 | [],[]=>true
 | (q,n) :: r,(q',n') :: r'=>q==q' && n==n' && sameVr r r'
 | _,_=>false
def convS(s:Shs) (σ:XS D) (u:HL D []):Option (HL D (lvS s)):=if sameVr s.vr σ.vr then (convP A s.ce σ.ce [] u).bind λh=>convT A s.tm σ.tm _ h else none
def convIn(c:Ctr) (vals:List (XV D)) (pts:List (Nat×List (XV D))) (u:HL D []):Option (HL D (lvL c.ins (lvP c.pts []))):=(convP A c.pts pts [] u).bind λh=>lu A c.ins vals _ h
def sameSh:List RSh->List RSh->Bool
 | [],[]=>true
 | .one :: r,.one :: r'=>sameSh r r'
 | .agg n :: r,.agg n' :: r'=>n==n' && sameSh r r'
 | .ptr :: r,.ptr :: r'=>sameSh r r'
 | _,_=>false
def convO(o:XO) (cells:List (XV D)) (sh:List RSh) (pts:List (Nat×List (XV D))) (u:HL D []):Option (HL D (lvO o)):=if sameSh o.sh sh then (convP A o.pts pts [] u).bind λh=>lu A o.cells cells _ h else none
def injO(cells:List (XV D)) (sh:List RSh) (pts:List (Nat×List (XV D))) (u:HL D []):(outs:List XO)->Option ((i:Nat)×HL D (oC (outs.map lvO) i))
 | []=>none
 | o :: r=>match convO A o cells sh pts u with
  | some h=>some ⟨0,h⟩
  | none=>match injO cells sh pts u r with | some x=>some ⟨x.1+1,x.2⟩ | none=>none
def exEq:dU->dU->Bool
 | .normal,.normal=>true
 | .exit i,.exit j=>i==j
 | .ret,.ret=>true
 | _,_=>false
def injE(e:dU) (σ:XS D) (u:HL D []):(outs:List (dU×Shs))->Option ((i:Nat)×HL D (oC (outs.map λx=>lvS x.2) i))
 | []=>none
 | o :: r=>match (if exEq o.1 e then convS A o.2 σ u else none) with
  | some h=>some ⟨0,h⟩
  | none=>match injE e σ u r with | some x=>some ⟨x.1+1,x.2⟩ | none=>none
def onOut(o:Option α) (K:α->M X):M X:=match o with
 | some x=>K x
 | none=>A.fail
def isPX(sh:List RSh) (cells:List (XV D)):Bool:=match sh,cells with
 | .ptr :: _,.ptr _ _ :: _=>true
 | _,_=>false
def shapePX(t:XV D):List (XV D)->XV D
 | []=>t
 | y :: l=>.tup (t :: y :: l)
def landP(dst:Option Nat) (q:List (XGP D)) (cells:List (XV D)):XM D M X Unit:=
 match dst with
 | none=>ret ()
 | some d=>match cells,q with
  | .ptr pl _ :: l,[g]=>if pl.root==2*g.i+2 && g.p.hops.isEmpty then bind (rdVs (is g.p.root (g.p.off+pl.off) pl.hops.length)) λvs=>wr A d (shapePX (.ptr ⟨g.p.root,g.p.off+pl.off,pl.hops⟩ vs) l) else fail A
  | _,_=>fail A
def afterC(dst:Option Nat) (q:List (XGP D)) (ow:List (Nat×XV D)) (x:List (XV D)×List RSh×List (Nat×List (XV D))):XM D M X Unit:=
 if x.2.2.map (·.1)=q.map (λg=>2*g.i+2)++ow.map (λy=>2*y.1+3)/\(isPX x.2.1 x.1 || io x.2.1 x.1.length)=true then bind (putBack A (q.zip (x.2.2.map (·.2)))) λ_=>if isPX x.2.1 x.1 then landP A dst q x.1 else landR A dst x.1 x.2.1 else fail A
def callTB(dst:Option Nat) (f:FuncId) (vals:List (XV D)) (q:List (XGP D)) (ow:List (Nat×XV D)) (u:HL D []):List Ctr->XM D M X Unit
 | []=>fail A
 | c :: r=>match (if c.f=f then convIn A c vals (q.map (λg=>(2*g.i+2,g.cells))++ow.map λy=>(2*y.1+3,[y.2])) u else none) with
  | some h=>fun σ k=>A.call c.id (lvL c.ins (lvP c.pts [])) (c.outs.map lvO) c.g h λi ho=>onOut A (eV c.outs i ho) λx=>afterC A dst q ow x σ k
  | none=>callTB dst f vals q ow u r
def callV(TB:List Ctr) (u:HL D []) (dst:Option Nat) (f:FuncId) (ns:List (Option Nat)) (vals:List (XV D)):XM D M X Unit:=
 bind (takeOwns A 0 (ns.zip vals)) λow=>bind (grabs A 0 (ns.zip vals)) λq=>bind (rechk A q) λ_=>
  if fS (q.map (·.p.root)) && q.all (λg=>decide (0 < g.cells.length)) then callTB A dst f (argTs 0 vals) q ow u TB else fail A
def see1:XV D->XM D M X (XV D)
 | .d (.row true _) _=>fail A
 | .d .nat _=>fail A
 | .d (.pair _ _) _=>fail A
 | .d (.nilr _) _=>ret (.d (.nilr false) (A.nilv false))
 | .d t x=>ret (.d t x)
 | .k x=>ret (.k x)
 | .pk p vs=>bind (chk A p (p.hops.length+1) vs) λ_=>bind (rdC p.root p.off) λtv=>getM A tv p.hops λv=>if isOwX v then optM A (immX A v) else fail A
 | _=>fail A
def seeL:List (XV D)->XM D M X (List (XV D))
 | []=>ret []
 | t :: r=>bind (see1 A t) λt'=>bind (seeL r) λl=>ret (t' :: l)
def seeA:XV D->XM D M X (XV D)
 | .agg l=>bind (seeL A l) λl'=>ret (.agg l')
 | .ip cs=>ret (.ip cs)
 | .fn f cap=>if cap.all immCX then ret (.fn f cap) else fail A
 | t=>see1 A t
def seeAs:List Opd->XM D M X (List (XV D))
 | []=>ret []
 | x :: r=>bind (opd A x) λt=>bind (seeA A t) λt'=>bind (seeAs r) λl=>ret (t' :: l)
def flatX:XV D->Bool
 | .d (.int _) _=>true
 | .d .bool _=>true
 | .d .str _=>true
 | .k x=>cS x
 | _=>false
def afterB(dst:Option Nat) (x:List (XV D)×List RSh×List (Nat×List (XV D))):XM D M X Unit:=
 if x.2.2.length=0/\x.1.all flatX=true/\io x.2.1 x.1.length=true then (match dst with | some d=>wr A d (shapeTX x.2.1 x.1) | none=>ret ()) else fail A
def callB(dst:Option Nat) (f:FuncId) (vals:List (XV D)) (u:HL D []):List Ctr->XM D M X Unit
 | []=>fail A
 | c :: r=>match (if c.f=f then convIn A c vals [] u else none) with
  | some h=>fun σ k=>A.call c.id (lvL c.ins (lvP c.pts [])) (c.outs.map lvO) c.g h λi ho=>onOut A (eV c.outs i ho) λx=>afterB A dst x σ k
  | none=>callB dst f vals u r
def bxX(vals:List (XV D)):BxC->XV D
 | .arg i=>vals.getD i .dead
 | .val x=>cellX A x
def evBox(dst:Option Nat) (tm:List BxC) (vals:List (XV D)):XM D M X Unit:=
 match dst with
 | some d=>bind (takeL A false (tm.map (bxX A vals))) λl=>bind (new A (2*d+2) l) λ_=>bind (rdV (2*d+2,0,0)) λg=>wr A d (.ptr ⟨2*d+2,0,[]⟩ [g])
 | none=>fail A
def boxOk:BxC->Bool
 | .arg _=>true
 | .val x=>match x with | .slice none 0 0=>false | x=>cS x
def evCall(E:Env) (TB:List Ctr) (u:HL D []) (dst:Option Nat):TOp->XM D M X Unit
 | .call k (.f f) args=>
  if k then bind (argVs A args) λvals=>match E.box f with
   | some x=>if vals.length=x.1/\x.2.all boxOk=true then evBox A dst x.2 vals else fail A
   | none=>callV A TB u dst f (args.map (·.1)) vals
  else bind (seeAs A (args.map (·.2))) λvals=>callB A dst f vals u TB
 | .call _ (.t i) args=>bind (rdT i) λt=>match t with
  | .fn f caps=>bind (argVs A args) λvals=>callV A TB u dst f (args.map (·.1)++zf E f args.length caps.length) (vals++caps)
  | _=>fail A
 | _=>fail A
structure Cfg where
 E:Env
 TB:List Ctr
 HT:List (Nat×CT)
 HL:List qP
def evop(C:Cfg) (u:HL D []) (dst:Option Nat) (op:TOp):XM D M X Unit:=
 match op with
 | .call k f args=>evCall A C.E C.TB u dst (.call k f args)
 | .store n mv a x=>match dst with | none=>ev1 A C.HT 0 (.store n mv a x) | some _=>fail A
 | op=>match dst with | some d=>ev1 A C.HT d op | none=>fail A
def setNo(dst:Option Nat):XM D M X Unit:=match dst with | some d=>wrT A d (.tup []) | none=>ret ()
def known(j:Nat) (b:Bool) (σ:XS D):XS D:=⟨cl σ.tm j (.d .bool (A.litB b)),σ.ce,σ.vr,σ.lg⟩
def knownO(c:Opd) (b:Bool) (σ:XS D):XS D:=match c with | .t j=>known A j b σ | _=>σ
def condX(m m':M X):XV D->M X
 | .d .bool x=>A.br x m m'
 | _=>A.fail
def guardX(j:Nat) (want:Bool) (m m':XM D M X Unit):XV D->XM D M X Unit
 | .d .bool b=>fun σ k=>A.br b ((if want then m else m') (known A j true σ) k) ((if want then m' else m) (known A j false σ) k)
 | .tup []=>m'
 | _=>fail A
def spOp(C:Cfg) (u:HL D []) (o:dg):XM D M X Unit:=
 match o.guard with
 | none=>evop A C u o.dst o.op
 | some (j,want)=>bind (rdT j) (guardX A j want (evop A C u o.dst o.op) (setNo A o.dst))
def spOps(C:Cfg) (u:HL D []):List dg->XM D M X Unit
 | []=>ret ()
 | o :: r=>bind (spOp A C u o) λ_=>spOps C u r
def spFL(C:Cfg) (u:HL D []) (ops:List dg):List Nat->XM D M X (List (Nat×iS))
 | []=>ret []
 | i :: r=>fun σ k=>spOp A C u (ops.getD i qQ) ⟨σ.tm,σ.ce,σ.vr,([],[])⟩ λ_ σ1=>spFL C u ops r σ1 λfs σ2=>k ((i,σ1.lg) :: fs) σ2
def renorm0(L:List Nat) (σ:XS D):XV D->XV D
 | .ptr p vs=>if L.contains p.root && vs==dG (jb σ.vr) p.root p.off p.hops.length then .ptr p (dG (λ_=>0) p.root p.off p.hops.length) else .dead
 | .pk p vs=>if L.contains p.root && vs==dG (jb σ.vr) p.root p.off (p.hops.length+1) then .pk p (dG (λ_=>0) p.root p.off (p.hops.length+1)) else .dead
 | .pw p vs sz lo n=>if L.contains p.root && vs==dG (jb σ.vr) p.root p.off (p.hops.length+1) then .pw p (dG (λ_=>0) p.root p.off (p.hops.length+1)) sz lo n else .dead
 | .k x=>.k x
 | .ip cs=>.ip cs
 | .d (.row true _) _=>.dead
 | .d t x=>.d t x
 | .tup []=>.tup []
 | _=>.dead
def renorm(L:List Nat) (σ:XS D):XV D->XV D
 | .agg l=>.agg (l.map (renorm0 L σ))
 | .fn f l=>.fn f (l.map (renorm0 L σ))
 | t=>renorm0 L σ t
def normT(L:List Nat) (σ:XS D):List Nat->List (Nat×XV D)
 | []=>[]
 | i :: r=>match bd σ.tm i with | some t=>(i,renorm L σ t) :: normT L σ r | none=>normT L σ r
def normC(σ:XS D):List Nat->List (Nat×List (XV D))
 | []=>[]
 | r :: l=>match bd σ.ce r with | some c=>(r,c) :: normC σ l | none=>normC σ l
def norm(σ:XS D) (pers:Prs):XS D:=⟨normT pers.2 σ pers.1,normC σ pers.2,[],([],[])⟩
def anew(σ:XS D):XS D:=norm σ (σ.tm.map (·.1),σ.ce.map (·.1))
def selH(i:Nat) (σ:XS D) (u:HL D []):List qP->Option ((H:qP)×HL D (lvS H.s))
 | []=>none
 | H :: r=>match (if H.i=i then convS A H.s σ u else none) with
  | some h=>some ⟨H,h⟩
  | none=>selH i σ u r
def selJ(i:Nat):List qP->Option qP
 | []=>none
 | H :: r=>if H.i=i then some H else selJ i r
def marks:dV->Nat
 | .seq a b=>marks a+marks b+1
 | .cond _ a b=>marks a+marks b
 | .block _ b=>marks b
 | .loop b=>marks b+1
 | .pre _ b=>marks b
 | .post b _=>marks b
 | _=>0
def okN0:XV D->Bool
 | .d (.row true _) _=>false
 | .d .nat _=>false
 | .d (.pair _ _) _=>false
 | .gap _ _ _ _=>false
 | _=>true
def okN:XV D->Bool
 | .agg l=>l.all okN0
 | .fn _ l=>l.all okN0
 | t=>okN0 t
def okS(σ:XS D):Bool:=σ.tm.all λx=>okN x.2
def shr1(x:Nat×Option Nat):XM D M X Unit:=bind (rdT x.1) λt=>match x.2,t with
 | none,.pk p vs=>bind (take1 A false (.pk p vs)) λt'=>bind (optM A (immX A t')) λt2=>wrT A x.1 t2
 | some off,.ptr p vs=>bind (chk A p p.hops.length vs) λ_=>if fitsP p off then bind (getPl A (addP p off)) λt=>if isOwX t then bind (peek1 A (addP p off) t) λt'=>bind (take1 A false t') λ_=>ret () else (match t with | .d _ _=>ret () | _=>fail A) else fail A
 | none,.d _ _=>ret ()
 | none,.agg l=>if l.any isOwX then fail A else ret ()
 | _,_=>fail A
def shrs:List (Nat×Option Nat)->XM D M X Unit
 | []=>ret ()
 | x :: r=>bind (shr1 A x) λ_=>shrs r
def roundK(H:qP) (u:HL D []) (e:dU) (σ:XS D):M (HL den (lvS H.s)⊕og (H.outs.map λx=>lvS x.2)):=
 match e with
 | .normal=>onOut A (convS A H.s σ u) (A.next (lvS H.s) (H.outs.map λx=>lvS x.2))
 | e=>onOut A (injE A e σ u H.outs) λx=>A.exitL (lvS H.s) (H.outs.map λx=>lvS x.2) x.1 x.2
def runC(C:Cfg) (u:HL D []):dV->Nat->{X:Type}->XS D->(dU->XS D->M X)->M X
 | .skip,_,_,σ,k=>k .normal σ
 | .nrm pers,_,_,σ,k=>if okS σ then k .normal (norm σ pers) else A.fail
 | .reg _ draw ops pers,_,_,σ,k=>
  match draw with
  | none=>spOps A C u ops σ λ_ σ'=>if okS σ' then k .normal (norm σ' pers) else A.fail
  | some deps=>spFL A C u ops (List.range ops.length) σ λfs σ'=>if lC deps fs && okS σ' then k .normal (norm σ' pers) else A.fail
 | .seq a b,i,_,σ,k=>match selJ i C.HL with
  | none=>runC C u a (i+1) σ λe σ'=>match e with | .normal=>runC C u b (i+1+marks a) σ' k | e=>k e σ'
  | some H=>A.join (H.outs.map λx=>lvS x.2) (runC C u a (i+1) σ λe σ'=>match injE A e σ' u H.outs with | some x=>A.out (H.outs.map λx=>lvS x.2) x.1 x.2 | none=>A.fail)
   λj ho=>onOut A (kV H.outs j ho) λx=>match x.1 with | .normal=>runC C u b (i+1+marks a) x.2 k | e=>k e x.2
 | .cond c a b,i,_,σ,k=>opd A c σ λt _=>condX A (runC C u a i (knownO A c true σ) k) (runC C u b (i+marks a) (knownO A c false σ) k) t
 | .block id b,i,_,σ,k=>runC C u b i σ λe σ'=>match e with | .exit j=>if j=id then k .normal σ' else k (.exit j) σ' | e=>k e σ'
 | .loop b,i,_,σ,k=>match selH A i σ u C.HL with
  | some ⟨H,h⟩=>A.loop H.nm (lvS H.s) (H.outs.map λx=>lvS x.2) h
   (λh=>runC C u b (i+1) (rN H.s h) (roundK A H u))
   λj ho=>onOut A (kV H.outs j ho) λx=>k x.1 x.2
  | none=>A.fail
 | .exit id,_,_,σ,k=>k (.exit id) σ
 | .ret,_,_,σ,k=>k .ret σ
 | .pre l a,i,_,σ,k=>shrs A l σ λ_ σ'=>if okS σ' then runC C u a i (anew σ') k else A.fail
 | .post a l,i,_,σ,k=>runC C u a i σ λe σ'=>shrs A l σ' λ_ σ2=>if okS σ2 then k e (anew σ2) else A.fail
def takeR1(np:Nat) (t:XV D):XM D M X (XV D):=
 match t with
 | .pk p vs=>take1 A (!BM np p.root) (.pk p vs)
 | t=>take1 A true t
def takeRL(np:Nat):List (XV D)->XM D M X (List (XV D))
 | []=>ret []
 | t :: r=>bind (takeR1 A np t) λt'=>bind (takeRL np r) λr'=>ret (t' :: r')
def takeRV(np:Nat) (t:XV D):XM D M X (List (XV D)×RSh):=
 match t with
 | .agg l=>bind (takeRL A np l) λl'=>ret (l',.agg l'.length)
 | t=>bind (takeR1 A np t) λt'=>ret ([t'],.one)
def res1(np:Nat):TRs->XM D M X (List (XV D)×RSh)
 | .tmp t=>bind (rdT t) λtv=>takeRV A np tv
 | .cell t n=>bind (rdT t) λtv=>match tv with
  | .ptr p vs=>bind (chk A p p.hops.length vs) λ_=>match n with
   | none=>bind (getPl A p) λt=>bind (peek1 A p t) λt'=>takeRV A np t'
   | some n=>bind (peekL A p n) λl=>takeRV A np (.agg l)
  | _=>fail A
def resL(np:Nat):List TRs->XM D M X (List (XV D)×List RSh)
 | []=>ret ([],[])
 | r :: rs=>bind (res1 A np r) λx=>bind (resL np rs) λy=>ret (x.1++y.1,x.2 :: y.2)
def onesOf:List (XV D)->List RSh
 | []=>[]
 | _ :: r=>.one :: onesOf r
def flatsR:List TRs->XM D M X (List (XV D))
 | []=>ret []
 | .tmp t :: r=>bind (rdT t) λtv=>if flatX tv then bind (flatsR r) λl=>ret (tv :: l) else fail A
 | .cell _ _ :: _=>fail A
def resF(np:Nat) (l:List TRs):XM D M X (List (XV D)×List RSh):=
 match l with
 | .tmp t :: r=>bind (rdT t) λtv=>match tv with
  | .ptr p vs=>bind (chk A p p.hops.length vs) λ_=>bind (flatsR A r) λl=>ret (.ptr p vs :: l,.ptr :: onesOf l)
  | _=>resL A np (.tmp t :: r)
 | qs=>resL A np qs
def isPtrX:XV D->Bool
 | .ptr _ _=>true
 | _=>false
def isShX:XV D->Bool
 | .d (.row false _) _=>true
 | .d (.nilr false) _=>true
 | _=>false
def ptrsInX(pp:List Nat):Nat->List (XV D)->Bool
 | _,[]=>true
 | i,t :: r=>(!isPtrX t || pp.contains i) && (isPtrX t || isShX t || !pp.contains (1000+i)) && ptrsInX pp (i+1) r
def ptsOf(σ:XS D):List (Nat×List (XV D))->List (Nat×List (XV D))
 | []=>[]
 | x :: r=>(x.1,(bd σ.ce x.1).getD []) :: ptsOf σ r
def runT(C:Cfg) (u:HL D []) (tf:TFn) (outs:List XO) (vals:List (XV D)) (pts:List (Nat×List (XV D))):M (og (outs.map lvO)):=
 if vals.length=tf.np/\(ptrsInX tf.pp 0 vals && (!tf.pp.contains 1000 || pts.isEmpty))=true then
  runC A C u tf.body 0 (mkSt vals pts) λe σ=>match e with
   | .exit _=>A.fail
   | _=>resF A tf.np tf.res σ λy σ'=>onOut A (injO A y.1 y.2 (ptsOf σ' pts) u outs) λx=>A.out (outs.map lvO) x.1 x.2
 else A.fail
end
end X
def er1:(t:CT)->den t->TV
 | .int k,x=>.v (.int k x)
 | .bool,x=>.v (.bool x)
 | .str,x=>.v (.string x)
 | .nat,_=>.dead
 | .row true t,xs=>.ow (List.map (enc t) xs)
 | .row false t,xs=>.sl (List.map (enc t) xs)
 | .nilr true,_=>.ow []
 | .nilr false,_=>.sl []
 | .pair _ _,_=>.dead
def erP(p:XP den):aS:=⟨p.root,p.off,p.hops⟩
mutual
def er:XV den->TV
 | .d t x=>er1 t x
 | .k x=>.v x
 | .dead=>.dead
 | .ptr p vs=>.ptr (erP p) vs
 | .ip l=>.ip (erL l)
 | .pk p vs=>.pk (erP p) vs
 | .pw p vs sz lo n=>.pw (erP p) vs sz lo n
 | .agg l=>.agg (erL l)
 | .tup l=>.tup (erL l)
 | .fn f l=>.fn f (erL l)
 | .gap t x i o=>cA (er1 (.row true t) x) [(i,0,o)] .dead
def erL:List (XV den)->List TV
 | []=>[]
 | x :: r=>er x :: erL r
end
def erC(l:List (Nat×List (XV den))):List (Nat×List TV):=l.map λx=>(x.1,erL x.2)
def erS(σ:XS den):St:=⟨σ.tm.map λx=>(x.1,er x.2),erC σ.ce,σ.vr⟩
theorem dQ(l:List (XV den)):erL l=l.map er:=by
 induction l with
 | nil=>rfl
 | cons x r ih=>simp only[erL,List.map_cons,ih]
theorem b9(l:List (XV den)):(erL l).length=l.length:=by rw[dQ];simp
theorem iO(a b:List (XV den)):erL (a++b)=erL a++erL b:=by simp[dQ]
theorem iN(l:List (XV den)) (n:Nat):erL (l.take n)=(erL l).take n:=by simp[dQ,List.map_take]
theorem jQ(l:List (XV den)) (n:Nat):erL (l.drop n)=(erL l).drop n:=by simp[dQ,List.map_drop]
theorem lH(l:List (XV den)) (i:Nat):er (l.getD i .dead)=(erL l).getD i .dead:=by
 rw[dQ];simp only[oGD,List.getElem?_map];cases l[i]?<;>rfl
theorem mI(l:List (XV den)) (i:Nat) (t:XV den):erL (l.set i t)=(erL l).set i (er t):=by simp[dQ,List.map_set]
theorem qw(l:List (XV den)):er (l.headD .dead)=(erL l).headD .dead:=by cases l<;>rfl
theorem AA{o:Bool}{t t':CT}(xs:List (den t)) (f:den t->den t') (h:∀y,enc t' (f y)=enc t y):enc (.row o t') (List.map f xs)=enc (.row o t) xs:=by
 have e:List.map (enc t') (List.map f xs)=List.map (enc t) xs:=by
  rw[List.map_map];exact List.map_congr_left λy _=>h y
 cases o
 ·show [TV.sl (List.map (enc t') (List.map f xs))]=[TV.sl (List.map (enc t) xs)];rw[e]
 ·show [TV.ow (List.map (enc t') (List.map f xs))]=[TV.ow (List.map (enc t) xs)];rw[e]
theorem jg{t:CT}(h:X.oneT t=true) (x:den t):enc t x=[er1 t x]:=by
 cases t with
 | row o t=>cases o<;>rfl
 | nilr o=>cases o<;>rfl
 | nat=>simp[X.oneT] at h
 | pair a b=>simp[X.oneT] at h
 | _=>rfl
theorem bZ:∀(t:CT) (x:den t),(enc t x).length=dT t:=by
 intro t
 induction t with
 | pair a b Zo Zi=>intro x;simp only[enc,List.length_append,Zo,Zi,dT]
 | row o t=>intro x;cases o<;>rfl
 | nilr o=>intro x;cases o<;>rfl
 | _=>intro x;rfl
theorem jn:∀(t:CT) (x:den t),erL (X.splitX aO t x)=enc t x:=by
 intro t
 induction t with
 | pair a b Zo Zi=>
  intro x;simp only[X.splitX,iO,enc];rw[Zo,Zi];rfl
 | row o t=>intro x;cases o<;>rfl
 | nilr o=>intro x;cases o<;>rfl
 | _=>intro x;rfl
theorem mi{α:Type}(l:List α):∀i,yG l i=l[i]?:=by
 induction l with
 | nil=>intro i;rfl
 | cons x r ih=>intro i;cases i with | zero=>rfl | succ i=>simp[yG,ih]
theorem jm{t:CT}{x:den t}{o:Nat}{v:XV den}(h:yG (X.splitX aO t x) o=some v):(enc t x)[o]?=some (er v):=by
 rw[mi] at h;rw[<- jn,dQ,List.getElem?_map,h];rfl
theorem BL:∀{t u:CT}(x:den t),uA t u=true->enc u (zK t u x)=enc t x:=by
 intro t
 induction t with
 | int k=>intro u x h;cases u<;>simp[uA] at h;subst h;rfl
 | bool=>intro u x h;cases u<;>simp[uA] at h;rfl
 | str=>intro u x h;cases u<;>simp[uA] at h;rfl
 | nat=>intro u x h;cases u<;>simp[uA] at h;rfl
 | row o t ih=>
  intro u x h;cases u<;>simp[uA] at h;rename_i o' t';obtain⟨rfl,h⟩:=h;exact AA x (zK t t') λy=>ih y h
 | nilr o=>
  intro u x h;cases u<;>simp[uA] at h
  ·subst h;cases o<;>rfl
  ·subst h;cases o<;>rfl
 | pair a b Zo Zi=>
  intro u x h;cases u<;>simp[uA] at h;rename_i a' b';show enc a' (zK a a' x.1)++enc b' (zK b b' x.2)=enc a x.1++enc b x.2;rw[Zo _ h.1,Zi _ h.2]
theorem sf{t u:CT}{x:den t}{y:den u}(h:asT aO t u x=some y):enc u y=enc t x:=by
 unfold asT at h;split at h
 ·rename_i he;have:=jR he;subst this
  injection h with h
  rw[<- h]
 ·split at h
  ·rename_i hl
   injection h with h
   rw[<- h];exact BL x hl
  ·simp at h
theorem A3{t u:CT}{x:den t}{y:den u}(h:asT aO t u x=some y):X.oneT u=X.oneT t:=by
 unfold asT at h;split at h
 ·rename_i he;rw[jR he]
 ·split at h
  ·rename_i hl;cases t<;>cases u<;>simp[uA] at hl<;>rfl
  ·simp at h
theorem tE{t u:CT}{x:den t}{y:den u}(h:asT aO t u x=some y):er1 u y=er1 t x:=by
 have h1:=sf h;have h2:=A3 h
 cases ht:X.oneT t with
 | true=>
  rw[jg (by rw[h2,ht]),jg ht] at h1;injection h1
 | false=>
  rw[ht] at h2;cases t<;>simp[X.oneT] at ht<;>cases u<;>simp[X.oneT] at h2<;>rfl
theorem tC{α β:Type}(h:α=β) (h2:List α=List β) (xs:List α):cast h2 xs=xs.map (cast h):=by
 subst h;exact (List.map_id xs).symm
theorem mP{α β γ δ:Type}(h1:α=γ) (h2:β=δ) (h:(α×β)=(γ×δ)) (x:α×β):cast h x=(cast h1 x.1,cast h2 x.2):=by
 subst h1;subst h2;rfl
theorem fP:∀t,dR t t=true:=by
 intro t
 induction t with
 | row o t ih=>simpa [dR] using ih
 | pair a b Zo Zi=>simp[dR,Zo,Zi]
 | _=>simp[dR]
theorem ki:∀t,dR t (i5 t)=true:=by
 intro t
 induction t with
 | row o t ih=>cases o with
  | true=>simpa [i5,dR] using ih
  | false=>simpa [i5] using fP (.row false t)
 | pair a b Zo Zi=>simp[i5,dR,Zo,Zi]
 | nilr o=>simp[i5,dR]
 | _=>simp[i5,dR]
theorem pa:∀(t:CT) (h:den t=den (i5 t)) (x:den t),enc (i5 t) (cast h x)=cF (enc t x):=by
 intro t
 induction t with
 | row o t ih=>
  intro h x
  cases o with
  | false=>rfl
  | true=>
   have h':den t=den (i5 t):=cN (ki t);have e:(cast h x:den (.row false (i5 t)))=(List.map (cast h') (x:List (den t)):List (den (i5 t))):=tC h' h x;show enc (.row false (i5 t)) (cast h x)=cF [TV.ow (List.map (enc t) (x:List (den t)))];rw[e];show [TV.sl (List.map (enc (i5 t)) (List.map (cast h') (x:List (den t))))]=[TV.sl (fc (List.map (enc t) (x:List (den t))))];rw[List.map_map,i3,List.map_map];congr 2;refine List.map_congr_left λy _=>?_;simp only[Function.comp_apply];rw[ih h' y,gB]
 | nilr o=>intro h x;cases o<;>rfl
 | pair a b Zo Zi=>
  intro h x;have ha:=cN (ki a);have hb:=cN (ki b);have e:(cast h x:den (.pair (i5 a) (i5 b)))=((cast ha x.1,cast hb x.2):den (i5 a)×den (i5 b)):=mP ha hb h x;show enc (.pair (i5 a) (i5 b)) (cast h x)=cF (enc a x.1++enc b x.2);rw[e];show enc (i5 a) (cast ha x.1)++enc (i5 b) (cast hb x.2)=_;rw[Zo ha,Zi hb];simp[gB]
 | _=>intro h x;rfl
theorem mt{x y:XV den}(h:X.immX aO x=some y):er y=(er x).imm:=by
 unfold X.immX at h;split at h
 ·injection h with h;subst h;rfl
 ·injection h with h;subst h;rfl
 ·injection h with h;subst h;rfl
 ·injection h with h;subst h;rfl
 ·rename_i o _
  injection h with h;subst h
  cases o<;>rfl
 ·rename_i t xs;split at h
  ·rename_i hs
   injection h with h
   subst h;have:=pa (.row true t) (cN hs) xs;simp only[i5] at this;have e1:enc (.row false (i5 t)) (cast (cN hs) xs)=[er1 (.row false (i5 t)) (cast (cN hs) xs)]:=rfl;rw[e1] at this;show er1 (.row false (i5 t)) (cast (cN hs) xs)=(er1 (.row true t) xs).imm;simpa [cF,enc,er1] using this
  ·simp at h
 ·injection h with h;subst h;rfl
 ·simp at h
theorem s7:∀{l l':List (XV den)},X.immXL aO l=some l'->erL l'=(erL l).map TV.imm:=by
 intro l
 induction l with
 | nil=>intro l' h;simp only[X.immXL,oSJ] at h;subst h;rfl
 | cons x l ih=>
  intro l' h;simp only[X.immXL] at h;split at h
  ·rename_i y r h1 h2
   injection h with h
   subst h;simp only[erL,List.map_cons];rw[mt h1,ih h2]
  ·simp at h
theorem ra:∀{t:CT}{o:Nat}{os:List Nat}{t':CT},shT t o os=some t'->dR t t'=true:=by
 intro t
 induction t with
 | pair a b Zo Zi=>
  intro o os t' h;simp only[shT] at h;split at h
  ·obtain⟨u,h1,rfl⟩:=cX h;simp[dR,Zo h1,fP]
  ·obtain⟨u,h1,rfl⟩:=cX h;simp[dR,Zi h1,fP]
 | row ow t ih=>
  intro o os t' h
  cases ow with
  | true=>
   cases o with
   | zero=>
    cases os with
    | nil=>simp only[shT,oSJ] at h;subst h;exact ki _
    | cons o os=>
     simp only[shT] at h;obtain⟨u,h1,rfl⟩:=cX h;simpa [dR] using ih h1
   | succ o=>simp only[shT,oSJ] at h;subst h;exact fP _
  | false=>
   cases o with
   | zero=>
    cases os with
    | nil=>simp only[shT,oSJ] at h;subst h;exact ki _
    | cons o os=>simp only[shT,oSJ] at h;subst h;exact fP _
   | succ o=>simp only[shT,oSJ] at h;subst h;exact fP _
 | _=>
  intro o os t' h
  cases o with
  | zero=>
   cases os with
   | nil=>simp only[shT,oSJ] at h;subst h;exact ki _
   | cons o os=>simp only[shT,oSJ] at h;subst h;exact fP _
  | succ o=>simp only[shT,oSJ] at h;subst h;exact fP _
theorem kv(l:List TV) (h:l.length<=1):cF l=l.modify 0 λy=>bE y []:=by
 match l,h with
 | [],_=>rfl
 | [y],_=>cases y<;>rfl
theorem kw(l:List TV) (h:l.length<=1) (o:Nat) (f:TV->TV):l.modify (o+1) f=l:=List.modify_eq_self (by omega)
theorem sV{α:Type}(l l':List α) (f:α->α) {o:Nat}(h:o < l.length):(l++l').modify o f=l.modify o f++l':=by
 apply List.ext_getElem?;intro i;simp only[List.getElem?_modify,List.getElem?_append,oLM];by_cases hi:i < l.length
 ·simp only[hi,if_true]
 ·have:¬ o=i:=by omega
  simp only[hi,if_false,this];simp
theorem pV{α:Type}(l l':List α) (f:α->α) {o:Nat}(h:l.length<=o):(l++l').modify o f=l++l'.modify (o - l.length) f:=by
 apply List.ext_getElem?;intro i;simp only[List.getElem?_modify,List.getElem?_append];by_cases hi:i < l.length
 ·have:¬ o=i:=by omega
  simp only[hi,if_true,this,if_false];simp
 ·have:(o=i)↔(o - l.length=i - l.length):=by omega
  simp only[hi,if_false,this]
theorem xd:∀(t:CT) (o:Nat) (os:List Nat) (t':CT) (h:den t=den t') (x:den t),shT t o os=some t'->enc t' (cast h x)=(enc t x).modify o λy=>bE y os:=by
 intro t
 induction t with
 | pair a b Zo Zi=>
  intro o os t' h x hs;simp only[shT] at hs;show _=(enc a x.1++enc b x.2).modify o λy=>bE y os;split at hs
  ·rename_i ho;obtain⟨u,h1,rfl⟩:=cX hs;have ha:=cN (ra h1);have e:(cast h x:den (.pair u b))=((cast ha x.1,cast rfl x.2):den u×den b):=mP ha rfl h x;rw[e];show enc u (cast ha x.1)++enc b x.2=_;rw[Zo o os u ha x.1 h1,sV _ _ _ (by rw[bZ];exact ho)]
  ·rename_i ho;obtain⟨u,h1,rfl⟩:=cX hs;have hb:=cN (ra h1);have e:(cast h x:den (.pair a u))=((cast rfl x.1,cast hb x.2):den a×den u):=mP rfl hb h x;rw[e];show enc a x.1++enc u (cast hb x.2)=_;rw[Zi _ os u hb x.2 h1,pV _ _ _ (by rw[bZ];omega),bZ]
 | row ow t ih=>
  intro o os t' h x hs
  have hl:(enc (.row ow t) x).length<=1:=by rw[bZ];exact Nat.le_refl _
  cases o with
  | succ o=>
   rw[kw _ hl];cases ow<;>simp only[shT,oSJ] at hs<;>subst hs<;>rfl
  | zero=>
   cases os with
   | nil=>
    rw[<- kv _ hl]
    have e:t'=i5 (.row ow t):=by cases ow<;>simp only[shT,oSJ] at hs<;>exact hs.symm
    subst e;exact pa _ h x
   | cons o os=>
    cases ow with
    | false=>simp only[shT,oSJ] at hs;subst hs;rfl
    | true=>
     simp only[shT] at hs;obtain⟨u,h1,rfl⟩:=cX hs;have h':den t=den u:=cN (ra h1);have e:(cast h x:den (.row true u))=(List.map (cast h') (x:List (den t)):List (den u)):=tC h' h x;rw[e];show [TV.ow (List.map (enc u) (List.map (cast h') (x:List (den t))))]=[TV.ow ((List.map (enc t) (x:List (den t))).map λel=>el.modify o λt=>bE t os)];rw[List.map_map,List.map_map];congr 2;exact List.map_congr_left λy _=>ih o os u h' y h1
 | nilr ow=>
  intro o os t' h x hs
  have hl:(enc (.nilr ow) x).length<=1:=by rw[bZ];exact Nat.le_refl _
  cases o with
  | succ o=>
   rw[kw _ hl];simp only[shT,oSJ] at hs;subst hs;rfl
  | zero=>
   cases os with
   | nil=>
    rw[<- kv _ hl];simp only[shT,oSJ] at hs;subst hs;exact pa _ h x
   | cons o os=>simp only[shT,oSJ] at hs;subst hs;cases ow<;>rfl
 | _=>
  intro o os t' h x hs
  cases o with
  | succ o=>
   rw[kw _ (by rw[bZ];simp[dT])];simp only[shT,oSJ] at hs;subst hs;rfl
  | zero=>
   cases os with
   | nil=>
    rw[<- kv _ (by rw[bZ];simp[dT])];simp only[shT,oSJ] at hs;subst hs;exact pa _ h x
   | cons o os=>simp only[shT,oSJ] at hs;subst hs;rfl
theorem l8{x y:XV den}{os:List Nat}(h:X.shareX aO x os=some y):er y=bE (er x) os:=by
 unfold X.shareX at h;split at h
 ·rename_i t xs;split at h
  ·rename_i t' hs;split at h
   ·rename_i WH
    injection h with h
    subst h;have:=xd t 0 os t' (cN WH) xs hs;show er1 t' (cast (cN WH) xs)=bE (er1 t xs) os
    cases ht:X.oneT t with
    | true=>
     have Zc:X.oneT t'=true:=by cases t<;>simp[X.oneT] at ht<;>cases t'<;>simp[dR] at WH<;>rfl
     rw[jg ht,jg Zc] at this;simpa using this
    | false=>
     cases t<;>simp[X.oneT] at ht<;>cases t'<;>simp[dR] at WH<;>cases os<;>rfl
   ·simp at h
  ·simp at h
 ·simp at h
theorem w4{Y:Type}:∀{hs:List (den .nat×Nat×Nat)}{tv:XV den}{k:XV den->Option Y}{o:Y},X.getX aO tv hs k=some o->∃v,aY (er tv) hs=some (er v)/\k v=some o:=by
 intro hs
 induction hs with
 | nil=>intro tv k o h;exact⟨tv,rfl,h⟩
 | cons h1 hs ih=>
  intro tv k o h;obtain⟨i,sz,off⟩:=h1;unfold X.getX at h;split at h
  ·rename_i SU;cases SU
  ·rename_i t xs i' sz' o' hs' SU
   injection SU with e1 e2
   injection e1 with e3 e4
   injection e4 with e4 e5
   subst e3;subst e4;subst e5;subst e2;split at h
   ·rename_i hsz;obtain⟨e,he,h2⟩:=aR (show (dD xs i).bind _=some o from h);split at h2
    ·rename_i v hv;obtain⟨w,hw,hk⟩:=ih h2;refine⟨w,?_,hk⟩
     have h3:(List.map (enc t) xs)[i]?=some (enc t e):=by
      have:xs[i]?=some e:=he;rw[List.getElem?_map,this];rfl
     show (match (List.map (enc t) xs)[i]? with | some el=>if el.length=sz then (match el[off]? with | some t=>aY t hs | none=>none) else none | none=>none)=_;rw[h3];simp only[bZ,hsz,if_true,jm hv];exact hw
    ·cases h2
   ·cases h
  ·cases h
theorem ov{G:(u:CT)->Option (den u->den u)}{φ:TV->TV}(hG:∀u h,G u=some h->X.oneT u=true->∀x,er1 u (h x)=φ (er1 u x)):∀{t:CT}{o:Nat}{g:den t->den t},X.setD aO t o G=some g->∀x,enc t (g x)=(enc t x).modify o φ:=by
 intro t
 induction t with
 | pair a b Zo Zi=>
  intro o g h x;simp only[X.setD] at h;show _=(enc a x.1++enc b x.2).modify o φ;split at h
  ·rename_i ho;obtain⟨f,h1,rfl⟩:=cX h;show enc a (f x.1)++enc b x.2=_;rw[Zo h1,sV _ _ _ (by rw[bZ];exact ho)]
  ·rename_i ho;obtain⟨f,h1,rfl⟩:=cX h;show enc a x.1++enc b (f x.2)=_;rw[Zi h1,pV _ _ _ (by rw[bZ];omega),bZ]
 | nat=>intro o g h;simp[X.setD] at h
 | _=>
  intro o g h x
  cases o with
  | succ o=>simp[X.setD] at h
  | zero=>
   simp only[X.setD] at h;have h1:=hG _ g h rfl x;refine (jg rfl (g x)).trans ?_;rw[h1];exact (congrArg (λl=>List.modify l 0 φ) (jg rfl x)).symm
theorem xz{v:XV den}{u:CT}{f:den u->den u}(h:X.asF aO v u=some f) (x:den u):er1 u (f x)=er v:=by
 unfold X.asF at h;split at h
 ·obtain⟨y,h1,rfl⟩:=cX h;exact tE h1
 ·simp at h
theorem re:∀{hs:List (den .nat×Nat×Nat)}{v:XV den}{u:CT}{f:den u->den u},X.setH aO hs v u=some f->∀x,er1 u (f x)=cA (er1 u x) hs (er v):=by
 intro hs
 induction hs with
 | nil=>intro v u f h x;exact xz h x
 | cons h1 hs ih=>
  intro v u f h x;obtain⟨i,sz,o⟩:=h1
  cases u with
  | row ow t=>cases ow with
   | false=>simp[X.setH] at h
   | true=>
    simp only[X.setH] at h;split at h
    ·rename_i hsz;obtain⟨g,hg,rfl⟩:=cX h;have:=ov (φ:=λt1=>cA t1 hs (er v)) (λu h hu _ x=>ih hu x) hg;show TV.ow (List.map (enc t) (List.modify (x:List (den t)) i g))=TV.ow ((List.map (enc t) x).modify i λel=>el.modify o λt1=>cA t1 hs (er v));congr 1;apply List.ext_getElem?;intro j;simp only[List.getElem?_map,List.getElem?_modify];by_cases hij:i=j
     ·simp only[hij,if_true]
      cases (x:List (den t))[j]? with
      | none=>rfl
      | some e=>exact congrArg some (this e)
     ·simp only[hij,if_false];simp
    ·simp at h
  | _=>simp[X.setH] at h
theorem Au{tv v w:XV den}{hs:List (den .nat×Nat×Nat)}(h:X.setX aO tv hs v=some w):er w=cA (er tv) hs (er v):=by
 unfold X.setX at h;split at h
 ·injection h with h;subst h;rfl
 ·obtain⟨f,h1,rfl⟩:=cX h;exact re h1 _
 ·simp at h
theorem lN{α β:Type}(l:List (Nat×α)) (f:α->β) (i:Nat):bd (l.map λx=>(x.1,f x.2)) i=(bd l i).map f:=by
 induction l with
 | nil=>rfl
 | cons x r ih=>simp[bd];split<;>simp_all
theorem iR{α β:Type}(l:List (Nat×α)) (f:α->β) (i:Nat) (v:α):cl (l.map λx=>(x.1,f x.2)) i (f v)=(cl l i v).map λx=>(x.1,f x.2):=by
 induction l with
 | nil=>rfl
 | cons x r ih=>
  simp[cl];split
  ·simp
  ·simp_all
theorem yZ(σ:XS den) (i:Nat):(erS σ).t i=er (X.tOf σ i):=by
 unfold St.t X.tOf erS;simp[lN];cases bd σ.tm i<;>rfl
theorem nv(σ:XS den) (r o:Nat):(erS σ).c r o=er (X.cOf σ r o):=by
 unfold St.c X.cOf erS erC;simp[lN]
 cases bd σ.ce r with
 | none=>rfl
 | some l=>exact (lH l o).symm
theorem nW(σ:XS den) (r:Nat):bd (erS σ).ce r=(bd σ.ce r).map erL:=lN _ _ _
structure ge (σ σ':XS den) (f:iS):Prop where
 r:∀x∈f.1,x∈σ'.lg.1
 w:∀x∈f.2,x∈σ'.lg.2
 r0:∀x∈σ.lg.1,x∈σ'.lg.1
 w0:∀x∈σ.lg.2,x∈σ'.lg.2
theorem ge.refl(σ:XS den):ge σ σ ([],[]):=⟨λx h=>by simp at h,λx h=>by simp at h,λ_ h=>h,λ_ h=>h⟩
theorem ge.by{σ σ':XS den}{f:iS}(R W:List Loc) (e1:σ'.lg.1=R++σ.lg.1) (e2:σ'.lg.2=W++σ.lg.2) (h1:f.1=R) (h2:f.2=W):ge σ σ' f:=
 ⟨λx h=>by simp_all,λx h=>by simp_all,λx h=>by simp_all,λx h=>by simp_all⟩
def Sim{α β Y:Type}(m:XM den Option Y α) (s:SP β) (f:α->β):Prop:=
 ∀(σ:XS den) (k:α->XS den->Option Y) (o:Y),m σ k=some o->∃a σ',s.run (erS σ)=some (f a,erS σ')/\ge σ σ' (s.foot (erS σ))/\k a σ'=some o
theorem be{α β:Type}(s:SP α) (g:α->SP β):∀{σ σ1:St}{a:α},s.run σ=some (a,σ1)->(s.bind g).foot σ=((s.foot σ).1++((g a).foot σ1).1,(s.foot σ).2++((g a).foot σ1).2):=by
 induction s with
 | ret a=>intro σ σ1 b h;obtain⟨rfl,rfl⟩:=h;simp[SP.bind,SP.foot]
 | fail=>intro σ σ1 b h;simp[SP.run] at h
 | rdT i k ih=>intro σ σ1 b h;simp only[SP.bind,SP.foot];rw[ih _ h];simp
 | rdC r o k ih=>intro σ σ1 b h;simp only[SP.bind,SP.foot];rw[ih _ h];simp
 | rdH r o k ih=>intro σ σ1 b h;simp only[SP.bind,SP.foot];rw[ih _ h];simp
 | rdV q k ih=>intro σ σ1 b h;simp only[SP.bind,SP.foot];rw[ih _ h];simp
 | wrT i t k ih=>intro σ σ1 b h;simp only[SP.bind,SP.foot];rw[ih h];simp
 | wrC r o t k ih=>
  intro σ σ1 b h;obtain⟨l,hl,ho,h2⟩:=ba h;simp only[SP.bind,SP.foot,hl,ho,if_true];rw[ih h2];simp
 | new r l k ih=>intro σ σ1 b h;simp only[SP.bind,SP.foot];rw[ih h];simp
 | bump q k ih=>intro σ σ1 b h;simp[SP.bind,SP.foot];rw[ih h];simp
section
variable {α β γ δ Y:Type}
theorem Sim.ret{a:α}{b:β}{f:α->β}(h:f a=b):Sim (Y:=Y) (X.ret a) (.ret b) f:=fun σ k o hk=>⟨a,σ,by rw[h];rfl,ge.refl σ,hk⟩
theorem Sim.fail{s:SP β}{f:α->β}:Sim (Y:=Y) (X.fail aO) s f:=fun σ k o hk=>by cases hk
theorem Sim.bind{m:XM den Option Y α}{s:SP β}{f:α->β}{g:α->XM den Option Y γ}{h:β->SP δ}{f':γ->δ}(h1:Sim m s f) (h2:∀a,Sim (g a) (h (f a)) f'):Sim (X.bind m g) (s.bind h) f':=by
 intro σ k o hk;have ⟨a,σ1,r1,n1,k1⟩:=h1 σ _ o hk;have ⟨c,σ2,r2,n2,k2⟩:=h2 a σ1 k o k1;refine⟨c,σ2,by rw[SP.run_bind,r1];exact r2,?_,k2⟩;rw[be s h r1];refine⟨λx hx=>?_,λx hx=>?_,λx hx=>n2.r0 x (n1.r0 x hx),λx hx=>n2.w0 x (n1.w0 x hx)⟩
 ·rcases List.mem_append.1 hx with hx | hx
  ·exact n2.r0 x (n1.r x hx)
  ·exact n2.r x hx
 ·rcases List.mem_append.1 hx with hx | hx
  ·exact n2.w0 x (n1.w x hx)
  ·exact n2.w x hx
theorem Sim.map{m:XM den Option Y α}{s:SP β}{f f':α->β}(h:Sim m s f) (e:∀a,f a=f' a):Sim m s f':=by
 have:=funext e
 simp_all
theorem Sim.opt{o:Option α}{g:α->XM den Option Y γ}{s:SP δ}{f:γ->δ}(h:∀a,o=some a->Sim (g a) s f):Sim (X.bind (X.optM aO o) g) s f:=by
 intro σ k y hk
 cases o with
 | none=>cases hk
 | some a=>exact h a rfl σ k y hk
theorem Sim.br{c:Bool}{m:XM den Option Y α}{s:SP β}{f:α->β}(h:c=true->Sim m s f):Sim (X.brM aO c m) s f:=by
 intro σ k y hk
 cases c with
 | false=>cases hk
 | true=>exact h rfl σ k y hk
theorem Sim.get{ow:Bool}{t:CT}{xs:List (den t)}{i:Nat}{g:den t->XM den Option Y γ}{s:SP δ}{f:γ->δ}(h:∀e,xs[i]?=some e->Sim (g e) s f):Sim (X.atM aO ow t xs i g) s f:=by
 intro σ k y hk;have ⟨e,h1,h2⟩:=aR (show (dD xs i).bind _=some y from hk);exact h e h1 σ k y h2
theorem Sim.nat{kd:IntKind}{n:Int}{g:Nat->XM den Option Y γ}{s:SP δ}{f:γ->δ}(h:∀m:Nat,n=m->Sim (g m) s f):Sim (X.natM aO kd n g) s f:=by
 intro σ k y hk;have ⟨e,h1,h2⟩:=aR (show (dC n).bind _=some y from hk);refine h e ?_ σ k y h2
 cases n with
 | ofNat m=>simp[dC] at h1;rw[h1];rfl
 | negSucc m=>simp[dC] at h1
theorem Sim.ite{c:Prop} [Decidable c] {m m':XM den Option Y α}{s:SP β}{f:α->β}(h:c->Sim m s f) (h':¬ c->Sim m' s f):Sim (if c then m else m') s f:=by
 grind
theorem pY{Y:Type}:∀(l:List (XV den)) (k:List (XV den)->Option Y),X.letL aO l k=k l:=by
 intro l
 induction l with
 | nil=>intro k;rfl
 | cons x r ih=>
  intro k
  cases x<;>first | exact ih _ | (simp;exact ih _)
theorem ir{Y:Type}(t:XV den) (k:XV den->Option Y):X.letX aO t k=k t:=by
 cases t with
 | agg l=>exact pY l _
 | _=>rfl
theorem vp(i:Nat):Sim (Y:=Y) (X.rdT i) (.rdT i .ret) er:=fun σ k o hk=>⟨X.tOf σ i,X.lgR (.t i) σ,by simp only[SP.run];rw[yZ];rfl,.by [.t i] [] rfl rfl rfl rfl,hk⟩
theorem vt(r o:Nat):Sim (Y:=Y) (X.rdC r o) (.rdC r o .ret) er:=fun σ k y hk=>⟨X.cOf σ r o,X.lgR (.c r o) σ,by simp only[SP.run];rw[nv];rfl,.by [.c r o] [] rfl rfl rfl rfl,hk⟩
theorem vo(q:Key):Sim (Y:=Y) (X.rdV q) (.rdV q .ret) id:=fun σ k o hk=>⟨jb σ.vr q,X.lgR (.v q) σ,rfl,.by [.v q] [] rfl rfl rfl rfl,hk⟩
theorem ot(i:Nat) (t:XV den):Sim (Y:=Y) (X.wrT aO i t) (.wrT i (er t) (.ret ())) id:=fun σ k o hk=>by
 unfold X.wrT at hk;rw[ir] at hk;refine⟨(),⟨cl σ.tm i t,σ.ce,σ.vr,(σ.lg.1,.t i :: σ.lg.2)⟩,?_,.by [] [.t i] rfl rfl rfl rfl,hk⟩;simp[SP.run,erS];rw[iR]
theorem vq(r o:Nat):Sim (Y:=Y) (X.rdK r o) (.rdH r o .ret) λv=>(er v).hd:=fun σ k y hk=>⟨X.cOf σ r o,X.lgR (.h r o) σ,by simp only[SP.run];rw[nv];rfl,.by [.h r o] [] rfl rfl rfl rfl,hk⟩
theorem AS{r o:Nat}{t t':TV}{x:Loc}(h:x∈hdW r o t t'):x=.h r o:=by
 unfold hdW at h
 simp_all
def eO{α β Y:Type}(σ:XS den) (m:XM den Option Y α) (s:SP β) (f:α->β):Prop:=
 ∀(k:α->XS den->Option Y) (o:Y),m σ k=some o->∃a σ',s.run (erS σ)=some (f a,erS σ')/\ge σ σ' (s.foot (erS σ))/\k a σ'=some o
theorem eO.bind{σ:XS den}{m:XM den Option Y α}{s:SP β}{f:α->β}{g:α->XM den Option Y γ}{h:β->SP δ}{f':γ->δ}(h1:eO σ m s f) (h2:∀a,Sim (g a) (h (f a)) f'):eO σ (X.bind m g) (s.bind h) f':=by
 intro k o hk;have ⟨a,σ1,r1,n1,k1⟩:=h1 _ o hk;have ⟨c,σ2,r2,n2,k2⟩:=h2 a σ1 k o k1;refine⟨c,σ2,by rw[SP.run_bind,r1];exact r2,?_,k2⟩;rw[be s h r1];refine⟨λx hx=>?_,λx hx=>?_,λx hx=>n2.r0 x (n1.r0 x hx),λx hx=>n2.w0 x (n1.w0 x hx)⟩
 ·rcases List.mem_append.1 hx with hx | hx
  ·exact n2.r0 x (n1.r x hx)
  ·exact n2.r x hx
 ·rcases List.mem_append.1 hx with hx | hx
  ·exact n2.w0 x (n1.w x hx)
  ·exact n2.w x hx
theorem eO.opt{σ:XS den}{o:Option α}{g:α->XM den Option Y γ}{s:SP δ}{f:γ->δ}(h:∀a,o=some a->eO σ (g a) s f):eO σ (X.bind (X.optM aO o) g) s f:=by
 intro k y hk
 cases o with
 | none=>cases hk
 | some a=>exact h a rfl k y hk
theorem pz{r o:Nat}{g:XV den->XM den Option Y γ}{h:TV->SP δ}{f:γ->δ}(H:∀ σ tv,(erS σ).c r o=er tv->eO σ (g tv) (h (er tv)) f):Sim (X.bind (X.rdC r o) g) (.rdC r o h) f:=by
 intro σ k y hk;have ⟨a,σ',h1,h2,h3⟩:=H (X.lgR (.c r o) σ) (X.cOf σ r o) (nv σ r o) k y hk;refine⟨a,σ',by simp[SP.run];rw[nv];exact h1,⟨λx hx=>?_,λx hx=>?_,λx hx=>h2.r0 x (by simp[X.lgR,hx]),λx hx=>h2.w0 x hx⟩,h3⟩
 ·simp[SP.foot] at hx;rcases hx with rfl | hx
  ·exact h2.r0 _ (by simp[X.lgR])
  ·rw[nv] at hx;exact h2.r x hx
 ·simp[SP.foot] at hx;rw[nv] at hx;exact h2.w x hx
theorem eO.wrI{σ:XS den}{r o:Nat}{t:XV den}(hh:(er t).hd=((erS σ).c r o).hd):eO (Y:=Y) σ (X.wrI aO r o t) (.wrC r o (er t) (.ret ())) id:=λk y hk=>by
 unfold X.wrI at hk;split at hk
 ·rename_i l hl;split at hk
  ·rename_i ho;rw[ir] at hk
   have YH:bd (erS σ).ce r=some (erL l):=by rw[nW,hl];rfl
   have Zq:o < (erL l).length:=by rw[b9];exact ho
   refine⟨(),⟨σ.tm,cl σ.ce r (l.set o t),σ.vr,(.n r :: .h r o :: σ.lg.1,.c r o :: σ.lg.2)⟩,?_,.by [.n r,.h r o] [.c r o] rfl rfl (by simp[SP.foot,YH,Zq]) (by simp[SP.foot,YH,Zq,if_true,hdW,oIP hh]),hk⟩;simp[SP.run,YH,Zq,if_true,id_eq];unfold erS erC;rw[<- mI,iR]
  ·cases hk
 ·cases hk
theorem vj(r o:Nat) (t:XV den):Sim (Y:=Y) (X.wrC aO r o t) (.wrC r o (er t) (.ret ())) id:=fun σ k y hk=>by
 unfold X.wrC at hk;split at hk
 ·rename_i l hl;split at hk
  ·rename_i ho;rw[ir] at hk
   have YH:bd (erS σ).ce r=some (erL l):=by rw[nW,hl];rfl
   have Zq:o < (erL l).length:=by rw[b9];exact ho
   refine⟨(),⟨σ.tm,cl σ.ce r (l.set o t),σ.vr,(.n r :: .h r o :: σ.lg.1,.c r o :: .h r o :: σ.lg.2)⟩,?_,⟨λx hx=>?_,λx hx=>?_,λx hx=>by simp[hx],λx hx=>by simp[hx]⟩,hk⟩
   rotate_left
   ·simp only[SP.foot,YH,Zq,if_true,List.mem_cons,List.not_mem_nil,or_false] at hx
    rcases hx with rfl | rfl<;>simp
   ·simp[SP.foot,YH,Zq,if_true,List.mem_cons,List.mem_append,List.not_mem_nil,or_false] at hx;rcases hx with rfl | hx
    ·simp
    ·simp[AS hx]
   simp[SP.run,YH,Zq,if_true,id_eq];unfold erS erC;rw[<- mI,iR]
  ·cases hk
 ·cases hk
theorem Ac(r:Nat) (l:List (XV den)):Sim (Y:=Y) (X.new aO r l) (.new r (erL l) (.ret ())) id:=fun σ k y hk=>by
 unfold X.new at hk;rw[pY] at hk;refine⟨(),⟨σ.tm,cl σ.ce r l,hZ σ.vr (r,0,0),(.v (r,0,0) :: σ.lg.1,.n r :: .v (r,0,0) :: σ.lg.2)⟩,?_,.by [.v (r,0,0)] [.n r,.v (r,0,0)] rfl rfl rfl rfl,hk⟩;simp[SP.run,erS,erC];rw[iR]
theorem sL(q:Key):Sim (Y:=Y) (X.bump q) (.bump q (.ret ())) id:=fun σ k y hk=>⟨(),⟨σ.tm,σ.ce,hZ σ.vr q,(.v q :: σ.lg.1,.v q :: σ.lg.2)⟩,rfl,.by [.v q] [.v q] rfl rfl rfl rfl,hk⟩
theorem lM(x:Value):er (X.cellX aO x)=b7 x:=by
 unfold X.cellX;split
 ·rfl
 ·rfl
 ·rfl
 ·rfl
 ·rename_i h1 h2 h3 h4
  have:b7 x=if cS x then .v x else .dead:=by
   unfold b7
   simp_all
  rw[this];split<;>rfl
theorem xg(x:Value):er (X.constX aO x)=kr x:=by
 unfold X.constX;split
 ·simp[er,dQ];congr 1;exact List.map_congr_left λy _=>lM y
 ·rename_i h;rw[lM];unfold kr
  simp_all
theorem kg(x:Opd):Sim (Y:=Y) (X.opd aO x) (opd x) er:=by
 cases x with
 | t i=>exact vp i
 | c x=>exact .ret (xg x)
 | f f=>exact .ret rfl
theorem lw:∀qs:List Key,Sim (Y:=Y) (X.rdVs qs) (rdVs qs) id:=by
 intro qs
 induction qs with
 | nil=>exact .ret rfl
 | cons q qs ih=>exact (vo q).bind λn=>ih.bind λl=>.ret rfl
theorem co(p:XP den) (n:Nat) (vs:List Nat):Sim (Y:=Y) (X.chk aO p n vs) (chk (erP p) n vs) id:=by
 refine (lw _).bind λl=>?_;refine Sim.ite (λh=>?_) λh=>.fail;rw[oIP (by exact h)];exact .ret rfl
theorem rP(p:XP den) (n:Nat):erP (X.addP p n)=(erP p).add n:=by
 unfold X.addP aS.add erP
 cases h:List.reverse p.hops with
 | nil=>rfl
 | cons x r=>rfl
theorem o9(p:XP den) (n:Nat):X.fitsP p n=(erP p).fits n:=by
 unfold X.fitsP aS.fits erP
 grind
theorem ly{tv:XV den}{hs:List (den .nat×Nat×Nat)}{g:XV den->XM den Option Y γ}{s:SP δ}{f:γ->δ}(h:∀v,aY (er tv) hs=some (er v)->Sim (g v) s f):Sim (X.getM aO tv hs g) s f:=by
 intro σ k y hk;have ⟨v,h1,h2⟩:=w4 hk;exact h v h1 σ k y h2
theorem eO.getX{σ:XS den}{tv:XV den}{hs:List (den .nat×Nat×Nat)}{g:XV den->XM den Option Y γ}{s:SP δ}{f:γ->δ}(h:∀v,aY (er tv) hs=some (er v)->eO σ (g v) s f):eO σ (X.getM aO tv hs g) s f:=by
 intro k y hk;have ⟨v,h1,h2⟩:=w4 hk;exact h v h1 k y h2
theorem eO.ite{σ:XS den}{c:Prop} [Decidable c] {m m':XM den Option Y α}{s:SP β}{f:α->β}(h:c->eO σ m s f) (h':¬ c->eO σ m' s f):eO σ (if c then m else m') s f:=by
 grind
theorem dM(p:XP den):Sim (Y:=Y) (X.getPl aO p) (getPl (erP p)) er:=by
 refine (vt p.root p.off).bind λtv=>?_;refine ly λv hv=>?_;show Sim _ (match aY (er tv) p.hops with | some t=>.ret t | none=>.fail) er;have:=hv;rw[this];exact .ret rfl
theorem sG(p:XP den):Sim (Y:=Y) (X.hdPl aO p) (AT (erP p)) λv=>(er v).hd:=by
 have ⟨r,o,hs⟩:=p
 cases hs with
 | nil=>exact vq r o
 | cons h hs=>
  intro σ k y hk;have ⟨a,σ',h1,h2,h3⟩:=dM ⟨r,o,h :: hs⟩ σ k y hk;refine⟨a,σ',?_,?_,h3⟩
  ·show ((getPl (erP ⟨r,o,h :: hs⟩)).bind λt=>.ret t.hd).run (erS σ)=_;rw[SP.run_bind,h1];rfl
  ·show ge σ σ' (((getPl (erP ⟨r,o,h :: hs⟩)).bind λt=>.ret t.hd).foot (erS σ));rw[be _ _ h1];simpa [SP.foot] using h2
end
section
variable {α β γ δ Y:Type}
theorem Sim.rdT{i:Nat}{g:XV den->XM den Option Y γ}{h:TV->SP δ}{f:γ->δ}(H:∀t,Sim (g t) (h (er t)) f):Sim (X.bind (X.rdT i) g) (.rdT i h) f:=(vp i).bind H
theorem Sim.rdC{r o:Nat}{g:XV den->XM den Option Y γ}{h:TV->SP δ}{f:γ->δ}(H:∀t,Sim (g t) (h (er t)) f):Sim (X.bind (X.rdC r o) g) (.rdC r o h) f:=(vt r o).bind H
theorem Sim.rdK{r o:Nat}{g:XV den->XM den Option Y γ}{h:Option (List Nat)->SP δ}{f:γ->δ}(H:∀t,Sim (g t) (h (er t).hd) f):Sim (X.bind (X.rdK r o) g) (.rdH r o h) f:=(vq r o).bind H
theorem Sim.rdV{q:Key}{g:Nat->XM den Option Y γ}{h:Nat->SP δ}{f:γ->δ}(H:∀t,Sim (g t) (h t) f):Sim (X.bind (X.rdV q) g) (.rdV q h) f:=(vo q).bind H
theorem Sim.wrT{i:Nat}{t:XV den}{t':TV}{g:Unit->XM den Option Y γ}{h:SP δ}{f:γ->δ}(e:er t=t') (H:Sim (g ()) h f):Sim (X.bind (X.wrT aO i t) g) (.wrT i t' h) f:=by subst e;exact (ot i t).bind (h:=λ_=>h) λ_=>H
theorem Sim.wrC{r o:Nat}{t:XV den}{t':TV}{g:Unit->XM den Option Y γ}{h:SP δ}{f:γ->δ}(e:er t=t') (H:Sim (g ()) h f):Sim (X.bind (X.wrC aO r o t) g) (.wrC r o t' h) f:=by subst e;exact (vj r o t).bind (h:=λ_=>h) λ_=>H
theorem Sim.new{r:Nat}{l:List (XV den)}{l':List TV}{g:Unit->XM den Option Y γ}{h:SP δ}{f:γ->δ}(e:erL l=l') (H:Sim (g ()) h f):Sim (X.bind (X.new aO r l) g) (.new r l' h) f:=by subst e;exact (Ac r l).bind (h:=λ_=>h) λ_=>H
theorem Sim.bump{q:Key}{g:Unit->XM den Option Y γ}{h:SP δ}{f:γ->δ}(H:Sim (g ()) h f):Sim (X.bind (X.bump q) g) (.bump q h) f:=(sL q).bind (h:=λ_=>h) λ_=>H
theorem wX{α:Type}(c:List (List α)) (i o:Nat) (f:α->α):(c.modify i λel=>el.modify o f).map List.length=c.map List.length:=by
 apply List.ext_getElem?;intro j;by_cases h:i=j
 ·simp[h];cases c[j]?<;>simp
 ·simp[h]
theorem mu{tv:TV}{hs:List Hop}{t:TV}(h:hs≠[]):(cA tv hs t).hd=tv.hd:=by
 cases hs with
 | nil=>simp_all
 | cons x hs=>
  cases tv with
  | ow c=>simp[cA,TV.hd,wX]
  | _=>rfl
theorem wW{tv:TV}{os:List Nat}(h:os≠[]):(bE tv os).hd=tv.hd:=by
 cases os with
 | nil=>simp_all
 | cons o os=>
  cases tv with
  | ow c=>
   simp only[bE,TV.hd]
   simp_all
  | _=>rfl
theorem s9{r o:Nat}{tv:TV}{hs:List Hop}{t:TV}(h:hs≠[]):hdW r o tv (cA tv hs t)=[]:=by unfold hdW;rw[oIP (mu h)]
theorem AR{x:XV den}(h:X.isOwX x=false) (h2:fI (er x)=X.isOwX x):(er x).hd=none:=by
 rw[h] at h2
 cases hx:er x<;>first | rfl | (rw[hx] at h2;simp[fI] at h2)
theorem jI(x:XV den):fI (er x)=X.isOwX x:=by
 cases x with
 | d t y=>cases t with
  | row o t=>cases o<;>rfl
  | nilr o=>cases o<;>rfl
  | _=>rfl
 | _=>rfl
theorem jJ(x:XV den):jK (er x)=X.isHdrX x:=by
 cases x with
 | d t y=>cases t with
  | row o t=>cases o<;>rfl
  | nilr o=>cases o<;>rfl
  | _=>rfl
 | _=>rfl
theorem uj{x:XV den}(h:X.okCellX x=true):bG (er x)=true:=by
 cases x with
 | d t y=>cases t with
  | row o t=>cases o<;>first | rfl | simp[X.okCellX] at h
  | nilr o=>cases o<;>rfl
  | nat=>simp[X.okCellX] at h
  | pair a b=>simp[X.okCellX] at h
  | _=>rfl
 | k y=>rfl
 | _=>simp[X.okCellX] at h
theorem gp{x:XV den}(h:X.okCellX x=true) (h2:X.isOwX x=false):(∃y,er x=.v y)\/∃c,er x=.sl c:=by
 cases x with
 | d t y=>cases t with
  | int k=>exact .inl ⟨_,rfl⟩
  | bool=>exact .inl ⟨_,rfl⟩
  | str=>exact .inl ⟨_,rfl⟩
  | row o t=>cases o<;>first | exact .inr ⟨_,rfl⟩ | simp[X.okCellX] at h
  | nilr o=>cases o<;>first | exact .inr ⟨_,rfl⟩ | simp[X.isOwX,X.isOwT] at h2
  | nat=>simp[X.okCellX] at h
  | pair a b=>simp[X.okCellX] at h
 | k y=>exact .inl ⟨_,rfl⟩
 | _=>simp[X.okCellX] at h
theorem s8{x:XV den}(h:X.immCX x=true):rB (er x)=true:=by
 have ZY:(X.okCellX x && !X.isOwX x)=true->rB (er x)=true:=λh=>by
  simp at h;rcases gp h.1 h.2 with ⟨y,hy⟩ | ⟨c,hc⟩
  ·rw[hy];rfl
  ·rw[hc];rfl
 cases x with
 | ip cs=>rfl
 | _=>exact ZY h
theorem oP{l:List (XV den)}(h:l.all X.immCX=true):(erL l).all rB=true:=by
 rw[dQ,List.all_map,List.all_eq_true];rw[List.all_eq_true] at h;exact λx hx=>s8 (h x hx)
theorem yO{x:XV den}(h:X.immFX x=true):yP (er x)=true:=by
 have ZY:∀t:TV,rB t=true->yP t=true:=λt h=>by
  cases t with
  | fn f l=>simp[rB] at h
  | _=>exact h
 cases x with
 | fn f l=>exact oP h
 | _=>exact ZY _ (s8 h)
theorem AO{x:XV den}(h:X.isNA x=true):¬ yP (er x)=true:=by
 cases x with
 | agg l=>simp[er,yP,rB]
 | pk p vs=>simp[er,yP,rB]
 | _=>simp[X.isNA] at h
theorem fT{v:XV den}(h:X.isOwX v=true):∃c,er v=.ow c:=by
 rw[<- jI] at h;cases hv:er v<;>rw[hv] at h<;>simp[fI] at h
 simp_all
theorem A1{p:XP den}(h:XP.bare p=true):(erP p).hops=[]:=by
 have ⟨r,o,hs⟩:=p
 cases hs with
 | nil=>rfl
 | cons=>simp[XP.bare] at h
theorem zT{lo n:Nat}{v w:XV den}(h:X.winX aO lo n v=some w):∃c,er v=.ow c/\er w=.sl (((c.drop lo).take n).map λe=>e.map TV.imm):=by
 unfold X.winX at h;split at h
 ·rename_i t xs;split at h
  ·rename_i t' ys hi
   injection h with h
   subst h;refine⟨_,rfl,?_⟩;have h1:=mt hi;have h2:TV.sl (List.map (enc t') (ys:List (den t')))=(TV.ow (List.map (enc t) (xs:List (den t)))).imm:=h1;rw[fJ] at h2;show TV.sl (List.map (enc t') ((List.drop lo (ys:List (den t'))).take n))=_
   simp_all
  ·simp at h
 ·injection h with h;subst h;exact⟨[],rfl,by simp[er,er1]⟩
 ·simp at h
theorem AU{tv w:XV den}{hs:List (den .nat×Nat×Nat)}(h:X.gapX tv hs=some w):er w=cA (er tv) hs .dead:=by
 unfold X.gapX at h;split at h
 ·injection h with h
  subst h;rfl
 ·simp at h
theorem cK(mv:Bool) (x:XV den):Sim (Y:=Y) (X.take1 aO mv x) (take1 mv (er x)) er:=by
 cases x with
 | d t y=>cases t with
  | int k=>exact .ret rfl
  | bool=>exact .ret rfl
  | str=>exact .ret rfl
  | nat=>exact .fail
  | row o t=>cases o<;>first | exact .fail | exact .ret rfl
  | nilr o=>cases o<;>cases mv<;>exact .ret rfl
  | pair a b=>exact .fail
 | k y=>exact .ret rfl
 | pk p vs=>
  refine (co p _ vs).bind λ_=>pz fun σ tv hσ=>eO.getX λv hv=>?_;refine eO.ite (λho=>?_) λ_=>Sim.fail σ;obtain⟨c,hc⟩:=fT ho
  have Y2:aY (er tv) (erP p).hops=some (.ow c):=by rw[<- hc];exact hv
  simp only[Y2]
  cases mv with
  | true=>
   simp only[if_true];refine eO.ite (λhb=>?_) λhb=>?_
   ·exact (show Sim _ _ _ from Sim.wrC (by rw[A1 hb];rfl) (Sim.bump (g:=λ_=>X.ret v) (.ret hc))) σ
   ·refine eO.opt λYJ h1=>?_;have h3:=AU h1
    have hne:p.hops≠[]:=by
     obtain⟨r,o,hs⟩:=p
     cases hs with
     | nil=>simp[XP.bare] at hb
     | cons=>simp
    have:=(eO.wrI (Y:=Y) (σ:=σ) (r:=p.root) (o:=p.off) (t:=YJ) (by rw[h3,hσ,mu hne])).bind (g:=λ_=>X.bind (X.bump (p.root,p.off,p.hops.length+1)) λ_=>X.ret v) (h:=λ_=>.bump (p.root,p.off,p.hops.length+1) (.ret (TV.ow c))) (f':=er) λ_=>Sim.bump (.ret hc);rw[h3] at this;exact this
  | false=>
   refine eO.opt λYJ h1=>eO.opt λv' h2=>?_
   have hr:er v'=(TV.ow c).imm:=by rw[mt h2,hc]
   by_cases hb:XP.bare p=true
   ·rw[oIP hb];exact (show Sim _ _ _ from Sim.wrC (l8 h1) (Sim.bump (g:=λ_=>X.ret v') (.ret hr))) σ
   ·rw[oIN hb];have h3:=l8 h1
    have hne:X.hopOs p.hops≠[]:=by
     obtain⟨r,o,hs⟩:=p
     cases hs with
     | nil=>simp[XP.bare] at hb
     | cons=>simp[X.hopOs]
    have:=(eO.wrI (Y:=Y) (σ:=σ) (r:=p.root) (o:=p.off) (t:=YJ) (by rw[h3,hσ,wW hne])).bind (g:=λ_=>X.bind (X.bump (p.root,p.off,p.hops.length+1)) λ_=>X.ret v') (h:=λ_=>.bump (p.root,p.off,p.hops.length+1) (.ret (TV.ow c).imm)) (f':=er) λ_=>Sim.bump (.ret hr);rw[h3] at this;exact this
 | pw p vs sz lo n=>
  refine (co p _ vs).bind λ_=>Sim.rdC λtv=>ly λv hv=>?_;refine Sim.opt λYJ h1=>Sim.opt λv' h2=>?_;obtain⟨c,hc,hw⟩:=zT h2
  have Y2:aY (er tv) (erP p).hops=some (.ow c):=by rw[<- hc];exact hv
  simp only[Y2];exact Sim.wrC (l8 h1) (Sim.bump (.ret hw))
 | _=>exact .fail
theorem gh(mv:Bool):∀l:List (XV den),Sim (Y:=Y) (X.takeL aO mv l) (takeL mv (erL l)) erL:=by
 intro l
 induction l with
 | nil=>exact .ret rfl
 | cons t r ih=>exact (cK mv t).bind λt'=>ih.bind λr'=>.ret rfl
theorem jS(t:XV den):fV (er t)=erL (X.cellsX t):=by
 cases t with
 | d t y=>cases t with
  | row o t=>cases o<;>rfl
  | nilr o=>cases o<;>rfl
  | _=>rfl
 | _=>rfl
theorem BT{t:XV den}:(∃l,t=.agg l)\/((∀l,t≠.agg l)/\∀l,er t≠.agg l):=by
 cases t with
 | agg l=>simp_all
 | d t y=>cases t with
  | row o t=>cases o<;>exact .inr ⟨by simp,by simp[er,er1]⟩
  | nilr o=>cases o<;>exact .inr ⟨by simp,by simp[er,er1]⟩
  | _=>exact .inr ⟨by simp,by simp[er,er1]⟩
 | gap t x i o=>exact .inr ⟨by simp,λl h=>by cases h⟩
 | _=>exact .inr ⟨by simp,by simp[er]⟩
theorem ii(mv:Bool) (t:XV den):Sim (Y:=Y) (X.takeV aO mv t) (takeV mv (er t)) λx=>(erL x.1,x.2):=by
 rcases BT (t:=t) with ⟨l,rfl⟩ | ⟨h1,h2⟩
 ·exact (gh mv l).bind λl'=>.ret rfl
 ·have e1:X.takeV (X:=Y) aO mv t=X.bind (X.take1 aO mv t) λt'=>X.ret ([t'],false):=by
   unfold X.takeV
   simp_all
  have e2:takeV mv (er t)=(take1 mv (er t)).bind λt'=>.ret ([t'],false):=by
   unfold takeV
   simp_all
  rw[e1,e2];exact (cK mv t).bind λt'=>.ret rfl
theorem yf(r:Nat):∀(l:List (XV den)) (o:Nat),Sim (Y:=Y) (X.putB aO r o l) (putL ⟨r,o,[]⟩ (erL l)) id:=by
 intro l
 induction l with
 | nil=>intro o;exact .ret rfl
 | cons t l ih=>
  intro o
  have step:∀(g:Unit->XM den Option Y Unit) (s:SP Unit),Sim (g ()) s id->Sim (X.bind (X.rdC r o) λold=>X.bind (X.wrC aO r o t) λ_=>X.bind (if X.isHdrX old || X.isHdrX t then X.bump (r,o,1) else X.ret ()) g) ((m7 ⟨r,o,[]⟩ (er t)).bind λ_=>s) id:=by
   intro g s hg;refine Sim.rdC λold=>?_;simp only[aY,jJ];by_cases hh:(X.isHdrX old || X.isHdrX t)=true
   ·rw[oIP hh,oIP hh];exact Sim.wrC rfl (Sim.bump hg)
   ·rw[oIN hh,oIN hh];exact Sim.wrC rfl ((Sim.ret (a:=()) (b:=()) (f:=id) rfl).bind λ_=>hg)
  cases l with
  | nil=>exact step _ (.ret ()) (.ret rfl)
  | cons u l=>exact step _ _ (ih (o+1))
def zU(q:Key):Nat->List (Key×Nat)->List (Key×Nat)
 | 0,v=>v
 | n+1,v=>zU q n (hZ v q)
theorem j4{α:Type}(l:List (Nat×α)) (i:Nat) (a:α):bd (cl l i a) i=some a:=by rw[bm];simp
theorem nO{t:CT}(xs:List (den t)) (i o:Nat) (f:den t->den t) (φ:TV->TV) (h:∀x,enc t (f x)=(enc t x).modify o φ):er1 (.row true t) (List.modify xs i f)=.ow ((List.map (enc t) xs).modify i λel=>el.modify o φ):=by
 show TV.ow (List.map (enc t) (List.modify xs i f))=_;congr 1;apply List.ext_getElem?;intro j;simp only[List.getElem?_map,List.getElem?_modify];by_cases hij:i=j
 ·simp
  cases xs[j]? with
  | none=>rfl
  | some e=>simp_all
 ·simp_all
theorem wV{t:CT}(e e':den t):(X.splitX aO t e).map X.isHdrX=(X.splitX aO t e').map X.isHdrX:=by
 induction t with
 | pair a b Zo Zi=>
  simp[X.splitX]
  grind
 | _=>rfl
theorem ut:∀(a a' l:List (XV den)),a.map X.isHdrX=a'.map X.isHdrX->X.hdrs a l=X.hdrs a' l:=by
 intro a
 induction a with
 | nil=>simp_all
 | cons x a ih=>
  intro a' l h
  cases a' with
  | nil=>simp at h
  | cons x' a'=>
   simp at h
   cases l with
   | nil=>rfl
   | cons b l=>simp[X.hdrs];rw[h.1,ih a' l h.2]
def wo(r off n:Nat) (f:iS):Prop:=(∀x∈f.1,x=.c r off\/(x=.n r\/x=.h r off)\/(x=.v (r,off,2)/\0 < n))/\∀x∈f.2,x=.c r off\/(x=.v (r,off,2)/\0 < n)
theorem wi{r off i sz o:Nat}{t:CT}(hsz:dT t=sz) {v old:XV den}{f:den t->den t}{xs:List (den t)}{e:den t}{σ:St}{L:List TV}(hf:X.setD aO t o (X.asF aO v)=some f) (he:xs[i]?=some e) (ZJ:yG (X.splitX aO t e) o=some old)
 (hc:σ.c r off=er1 (.row true t) xs) (hL:bd σ.ce r=some L) (ho:off < L.length) :
 (m7 ⟨r,off,[(i,sz,o)]⟩ (er v)).run σ=some ((),⟨σ.tm,cl σ.ce r (L.set off (er1 (.row true t) (List.modify xs i f))),if X.isHdrX old || X.isHdrX v then hZ σ.vr (r,off,2) else σ.vr⟩) /\
 wo r off (if X.isHdrX old || X.isHdrX v then 1 else 0) ((m7 ⟨r,off,[(i,sz,o)]⟩ (er v)).foot σ):=by
 have Z6:aY (er1 (.row true t) xs) [(i,sz,o)]=some (er old):=by
  have h3:(List.map (enc t) xs)[i]?=some (enc t e):=by rw[List.getElem?_map,he];rfl
  show (match (List.map (enc t) xs)[i]? with | some el=>if el.length=sz then (match el[o]? with | some t=>aY t [] | none=>none) else none | none=>none)=_;rw[h3];simp only[bZ,hsz,if_true,jm ZJ];rfl
 have hset:cA (er1 (.row true t) xs) [(i,sz,o)] (er v)=er1 (.row true t) (List.modify xs i f):=by
  rw[nO xs i o f (λ_=>er v) (ov (λu h hu _ x=>xz hu x) hf)];rfl
 have hW:hdW r off (er1 (.row true t) xs) (er1 (.row true t) (List.modify xs i f))=[]:=by rw[<- hset];exact s9 (by simp)
 unfold m7;simp only[SP.run,SP.foot,hc,Z6,jJ,hset];by_cases hh:(X.isHdrX old || X.isHdrX v)=true
 ·rw[oIP hh,oIP hh,oIP hh,oIP (by simp)];simp only[SP.run,SP.foot,hL,ho,if_true,hc,hW];refine⟨rfl,λx hx=>?_,λx hx=>?_⟩
  ·simp at hx;rcases hx with h | h | h | h
   ·exact .inl h
   ·exact .inr (.inl (.inl h))
   ·simp_all
   ·simp_all
  ·simp_all
 ·rw[oIN hh,oIN hh,oIN hh];simp only[SP.run,SP.foot,hL,ho,if_true,hc,hW,List.nil_append];refine⟨by first | rfl | trivial,λx hx=>?_,λx hx=>?_⟩
  ·simp_all
  ·simp_all
theorem AF{r off i sz:Nat}{t:CT}(hsz:dT t=sz):∀(l:List (XV den)) {o:Nat}{f:den t->den t}{xs:List (den t)}{e:den t}{σ:St}{L:List TV},X.setDs aO t o l=some f->xs[i]?=some e->o+l.length<=sz ->
 σ.c r off=er1 (.row true t) xs->bd σ.ce r=some L->off < L.length ->
 (putL ⟨r,off,[(i,sz,o)]⟩ (erL l)).run σ=some ((),⟨σ.tm,cl σ.ce r (L.set off (er1 (.row true t) (List.modify xs i f))),zU (r,off,2) (X.hdrs ((X.splitX aO t e).drop o) l) σ.vr⟩) /\
 wo r off (X.hdrs ((X.splitX aO t e).drop o) l) ((putL ⟨r,off,[(i,sz,o)]⟩ (erL l)).foot σ):=by
 intro l
 induction l with
 | nil=>intro o f xs e σ L h;simp[X.setDs] at h
 | cons v l ih=>
  intro o f xs e σ L hf he ho hc hL Zh
  have hlen:(X.splitX aO t e).length=sz:=by rw[<- b9,jn,bZ,hsz]
  simp only[oLC] at ho
  obtain⟨old,ZJ⟩:∃old,yG (X.splitX aO t e) o=some old:=by
   rw[mi];exact⟨_,oGE (by omega)⟩
  have Wb:(X.splitX aO t e).drop o=old :: (X.splitX aO t e).drop (o+1):=by
   rw[mi] at ZJ
   have RM:o < (X.splitX aO t e).length:=by omega
   rw[List.drop_eq_getElem_cons RM];rw[oGE RM] at ZJ
   injection ZJ with ZJ
   rw[ZJ]
  cases l with
  | nil=>
   simp only[X.setDs] at hf;obtain⟨h1,h2⟩:=wi (r:=r) (off:=off) (i:=i) hsz hf he ZJ hc hL Zh
   have e1:X.hdrs ((X.splitX aO t e).drop o) [v]=if X.isHdrX old || X.isHdrX v then 1 else 0:=by rw[Wb];simp[X.hdrs]
   have e2:putL ⟨r,off,[(i,sz,o)]⟩ (erL [v])=(m7 ⟨r,off,[(i,sz,o)]⟩ (er v)).bind λ_=>.ret ():=rfl;refine⟨?_,?_⟩
   ·rw[e2,SP.run_bind,h1,e1];simp only[oBS,SP.run];by_cases hh:(X.isHdrX old || X.isHdrX v)=true
    ·rw[oIP hh,oIP hh];rfl
    ·rw[oIN hh,oIN hh];rfl
   ·rw[e2,be _ _ h1,e1];simpa [SP.foot] using h2
  | cons w vs=>
   simp only[X.setDs] at hf;split at hf
   case h_2=>simp at hf
   rename_i f1 g h1 h2
   injection hf with hf
   subst hf;obtain⟨p1,p2⟩:=wi (r:=r) (off:=off) (i:=i) hsz h1 he ZJ hc hL Zh
   have Uj:(List.modify xs i f1)[i]?=some (f1 e):=by simp[List.getElem?_modify,he]
   have Ti:∀(vr:List (Key×Nat)),(⟨σ.tm,cl σ.ce r (L.set off (er1 (.row true t) (List.modify xs i f1))),vr⟩:St).c r off=er1 (.row true t) (List.modify xs i f1):=by
    intro vr;unfold St.c;simp only[j4];simp[Zh]
   have P1:=ih (o:=o+1) (σ:=⟨σ.tm,cl σ.ce r (L.set off (er1 (.row true t) (List.modify xs i f1))),if X.isHdrX old || X.isHdrX v then hZ σ.vr (r,off,2) else σ.vr⟩) h2 Uj (by simp only[oLC] at ho ⊢;omega) (Ti _) (j4 _ _ _) (by simpa using Zh);obtain⟨q1,q2⟩:=P1
   have e2:putL ⟨r,off,[(i,sz,o)]⟩ (erL (v :: w :: vs))=(m7 ⟨r,off,[(i,sz,o)]⟩ (er v)).bind λ_=>putL ⟨r,off,[(i,sz,o+1)]⟩ (erL (w :: vs)):=by
    have Y4:aS.fits ⟨r,off,[(i,sz,o)]⟩ 1=true:=by simp only[aS.fits,List.reverse_cons,List.reverse_nil,List.nil_append];simp only[oLC] at ho;simpa using (by omega:o+1 < sz)
    show (m7 ⟨r,off,[(i,sz,o)]⟩ (er v)).bind (λ_=>if aS.fits ⟨r,off,[(i,sz,o)]⟩ 1 then putL ⟨r,off,[(i,sz,o+1)]⟩ (erL (w :: vs)) else .fail)=_;rw[Y4];rfl
   have e3:X.hdrs ((X.splitX aO t e).drop o) (v :: w :: vs)=(if X.isHdrX old || X.isHdrX v then 1 else 0)+X.hdrs ((X.splitX aO t (f1 e)).drop (o+1)) (w :: vs):=by
    rw[Wb];show _+X.hdrs ((X.splitX aO t e).drop (o+1)) (w :: vs)=_;rw[ut _ ((X.splitX aO t (f1 e)).drop (o+1)) _ (by rw[List.map_drop,List.map_drop,wV e (f1 e)])]
   have e4:List.modify (List.modify xs i f1) i g=List.modify xs i λe=>g (f1 e):=by
    apply List.ext_getElem?;intro j;simp only[List.getElem?_modify];by_cases hij:i=j
    ·simp only[hij,if_true];cases xs[j]?<;>rfl
    ·simp[hij]
   refine⟨?_,?_⟩
   ·rw[e2,SP.run_bind,p1];simp only[oBS];rw[q1,e3,mX,List.set_set,e4];congr 2;by_cases hh:(X.isHdrX old || X.isHdrX v)=true
    ·rw[oIP hh,oIP hh,Nat.add_comm 1];rfl
    ·rw[oIN hh,oIN hh,Nat.zero_add]
   ·rw[e2,be _ _ p1,e3];refine⟨λx hx=>?_,λx hx=>?_⟩
    ·rcases List.mem_append.1 hx with hx | hx
     ·rcases p2.1 x hx with h | h | ⟨h,h'⟩
      ·exact .inl h
      ·exact .inr (.inl h)
      ·exact .inr (.inr ⟨h,by omega⟩)
     ·rcases q2.1 x hx with h | h | ⟨h,h'⟩
      ·exact .inl h
      ·exact .inr (.inl h)
      ·exact .inr (.inr ⟨h,by omega⟩)
    ·rcases List.mem_append.1 hx with hx | hx
     ·rcases p2.2 x hx with h | ⟨h,h'⟩
      ·exact .inl h
      ·exact .inr ⟨h,by omega⟩
     ·rcases q2.2 x hx with h | ⟨h,h'⟩
      ·exact .inl h
      ·exact .inr ⟨h,by omega⟩
theorem xp(q:Key):∀(n:Nat) {σ:XS den}{k:Unit->XS den->Option Y}{y:Y},X.bumps q n σ k=some y->∃ σ',erS σ'=⟨(erS σ).tm,(erS σ).ce,zU q n σ.vr⟩/\(∀x∈σ.lg.1,x∈σ'.lg.1)/\(∀x∈σ.lg.2,x∈σ'.lg.2)/\(0 < n->Loc.v q∈σ'.lg.1/\Loc.v q∈σ'.lg.2)/\k () σ'=some y:=by
 intro n
 induction n with
 | zero=>intro σ k y h;exact⟨σ,rfl,λ_ h=>h,λ_ h=>h,λh=>by omega,h⟩
 | succ n ih=>
  intro σ k y h;have ⟨σ',h1,h2,h3,h4,h5⟩:=ih (show X.bumps q n ⟨σ.tm,σ.ce,hZ σ.vr q,(.v q :: σ.lg.1,.v q :: σ.lg.2)⟩ k=some y from h);exact⟨σ',h1,λx hx=>h2 x (by simp[hx]),λx hx=>h3 x (by simp[hx]),λ_=>⟨h2 _ (by simp),h3 _ (by simp)⟩,h5⟩
theorem t6{G G1 G2:(u:CT)->Option (den u->den u)}(hG:∀u f,G u=some f->∃f1 g,G1 u=some f1/\G2 u=some g/\∀x,f x=g (f1 x)):∀{t:CT}{o:Nat}{f:den t->den t},X.setD aO t o G=some f->∃f1 g,X.setD aO t o G1=some f1/\X.setD aO t o G2=some g/\∀x,f x=g (f1 x):=by
 intro t
 induction t with
 | pair a b Zo Zi=>
  intro o f h;simp only[X.setD] at h ⊢;by_cases ho:o < dT a
  ·rw[oIP ho] at h;obtain⟨h1,e1,rfl⟩:=cX h;obtain⟨f1,g,e2,e3,e4⟩:=Zo e1;rw[oIP ho,oIP ho,e2,e3];exact⟨_,_,rfl,rfl,λx=>by show (h1 x.1,x.2)=(g (f1 x.1),x.2);rw[e4]⟩
  ·rw[oIN ho] at h;obtain⟨h1,e1,rfl⟩:=cX h;obtain⟨f1,g,e2,e3,e4⟩:=Zi e1;rw[oIN ho,oIN ho,e2,e3];exact⟨_,_,rfl,rfl,λx=>by show (x.1,h1 x.2)=(x.1,g (f1 x.2));rw[e4]⟩
 | nat=>intro o f h;simp[X.setD] at h
 | _=>
  intro o f h
  cases o with
  | succ o=>simp[X.setD] at h
  | zero=>
   first
    | exact hG _ f h
    | (have ⟨a,b,c,d,_⟩:=hG _ f h;exact⟨a,b,c,d,λ_=>trivial⟩)
theorem u5{t:CT}(xs:List (den t)) (i:Nat) (f1 g f:den t->den t) (h:∀x,f x=g (f1 x)):List.modify xs i f=List.modify (List.modify xs i f1) i g:=by
 apply List.ext_getElem?
 grind
theorem rd{pl:List (den .nat×Nat×Nat)}{i sz o:Nat}{v w:XV den}{vs:List (XV den)}:∀{u:CT}{f:den u->den u},X.setHs aO (pl++[(i,sz,o)]) (v :: w :: vs) u=some f->∃f1 g,X.setH aO (pl++[(i,sz,o)]) v u=some f1/\X.setHs aO (pl++[(i,sz,o+1)]) (w :: vs) u=some g/\∀x,f x=g (f1 x):=by
 induction pl with
 | nil=>
  intro u f h
  cases u with
  | row ow t=>cases ow with
   | false=>simp[X.setHs] at h
   | true=>
    simp only[List.nil_append,X.setHs,X.setH] at h ⊢;split at h
    ·rename_i hsz;obtain⟨F,h1,rfl⟩:=cX h;simp only[X.setDs] at h1;split at h1
     ·rename_i f1 g e1 e2
      injection h1 with h1
      have PN:=e1;rw[oIP hsz,oIP hsz,e2];refine⟨λxs=>List.modify xs i f1,λxs=>List.modify xs i g,?_,rfl,λx=>u5 x i f1 g F λy=>by rw[<- h1]⟩;rw[PN];rfl
     ·simp at h1
    ·simp at h
  | _=>simp[X.setHs] at h
 | cons hp pl ih=>
  intro u f h;obtain⟨i0,Za,o0⟩:=hp
  obtain⟨q,qs,hq⟩:∃q qs,pl++[(i,sz,o)]=q :: qs:=by cases pl with | nil=>exact⟨_,_,rfl⟩ | cons a b=>exact⟨_,_,rfl⟩
  obtain⟨q',qs',RQ⟩:∃q qs,pl++[(i,sz,o+1)]=q :: qs:=by cases pl with | nil=>exact⟨_,_,rfl⟩ | cons a b=>exact⟨_,_,rfl⟩
  cases u with
  | row ow t=>cases ow with
   | false=>simp only[List.cons_append,hq] at h;simp[X.setHs] at h
   | true=>
    simp only[List.cons_append,hq,RQ,X.setHs,X.setH] at h ⊢;split at h
    ·rename_i hsz;obtain⟨F,h1,rfl⟩:=cX h
     obtain⟨f1,g,e1,e2,e3⟩:=t6 (G1:=X.setH aO (q :: qs) v) (G2:=X.setHs aO (q' :: qs') (w :: vs)) (λu f hf=>by
      rw[<- hq] at hf;obtain⟨a,b,c,d,e⟩:=ih hf;rw[hq] at c;rw[RQ] at d
      exact⟨a,b,c,d,e⟩) h1
     rw[oIP hsz,oIP hsz,e1,e2];exact⟨_,_,rfl,rfl,λx=>u5 x i0 f1 g F e3⟩
    ·simp at h
  | _=>simp only[List.cons_append,hq] at h;simp[X.setHs] at h
theorem vU(v:XV den):∀(hs:List (den .nat×Nat×Nat)),hs≠[]->X.setHs aO hs [v]=X.setH aO hs v:=by
 intro hs
 induction hs with
 | nil=>simp_all
 | cons h1 hs ih=>
  intro _;funext u
  cases hs with
  | nil=>cases u with
   | row ow t=>cases ow with
    | true=>rfl
    | false=>rfl
   | _=>rfl
  | cons h2 hs=>cases u with
   | row ow t=>cases ow with
    | true=>
     simp[X.setHs,X.setH]
     simp_all
    | false=>rfl
   | _=>rfl
theorem uv{pl:List Hop}{i sz o j:Nat}(hj:o≠j) (v:TV):∀{t:TV},aY (cA t (pl++[(i,sz,o)]) v) (pl++[(i,sz,j)])=aY t (pl++[(i,sz,j)]):=by
 induction pl with
 | nil=>
  intro t
  cases t with
  | ow c=>
   show aY (.ow (c.modify i λel=>el.modify o λt1=>cA t1 [] v)) [(i,sz,j)]=aY (.ow c) [(i,sz,j)];simp[aY,List.getElem?_modify]
   cases hc:c[i]? with
   | none=>rfl
   | some el=>simp_all
  | _=>rfl
 | cons h pl ih=>
  intro t;obtain⟨i0,Za,o0⟩:=h
  cases t with
  | ow c=>
   show aY (.ow (c.modify i0 λel=>el.modify o0 λt1=>cA t1 (pl++[(i,sz,o)]) v)) ((i0,Za,o0) :: (pl++[(i,sz,j)]))=aY (.ow c) ((i0,Za,o0) :: (pl++[(i,sz,j)]));simp[aY]
   cases hc:c[i0]? with
   | none=>rfl
   | some el=>
    simp;split
    ·cases he:el[o0]? with
     | none=>rfl
     | some t1=>exact ih
    ·rfl
  | _=>rfl
theorem wm{r off:Nat}{pl:List (den .nat×Nat×Nat)}{i sz:Nat}{u:CT}:∀(l:List (XV den)) {o:Nat}{f:den u->den u}{x:den u}{σ:St}{L:List TV},X.setHs aO (pl++[(i,sz,o)]) l u=some f->0 < l.length->o+l.length<=sz ->
 (∀j,j < l.length->∃old,aY (er1 u x) (pl++[(i,sz,o+j)])=some old/\jK old=false)->(∀v∈l,X.isHdrX v=false)->σ.c r off=er1 u x->bd σ.ce r=some L->off < L.length ->
 (putL ⟨r,off,pl++[(i,sz,o)]⟩ (erL l)).run σ=some ((),⟨σ.tm,cl σ.ce r (L.set off (er1 u (f x))),σ.vr⟩) /\
 (∀z∈((putL ⟨r,off,pl++[(i,sz,o)]⟩ (erL l)).foot σ).1,z=.c r off\/z=.n r\/z=.h r off)/\∀z∈((putL ⟨r,off,pl++[(i,sz,o)]⟩ (erL l)).foot σ).2,z=.c r off:=by
 intro l
 induction l with
 | nil=>intro o f x σ L _ h;simp at h
 | cons v l ih=>
  intro o f x σ L hf _ ho ZJ hh hc hL Zh;obtain⟨old,hg,QB⟩:=ZJ 0 (by simp);rw[Nat.add_zero] at hg
  have QR:jK (er v)=false:=by rw[jJ];exact hh v (by simp)
  have UP:∀(f1:den u->den u),X.setH aO (pl++[(i,sz,o)]) v u=some f1->(m7 ⟨r,off,pl++[(i,sz,o)]⟩ (er v)).run σ=some ((),⟨σ.tm,cl σ.ce r (L.set off (er1 u (f1 x))),σ.vr⟩)/\(m7 ⟨r,off,pl++[(i,sz,o)]⟩ (er v)).foot σ=([.c r off,.n r,.h r off],[.c r off]):=by
   intro f1 h1;have hs:=re h1 x;unfold m7;simp only[SP.run,SP.foot,hc];rw[hg];simp only[QB,QR,Bool.or_false,Bool.false_eq_true,if_false,SP.run,SP.foot,hL,Zh,if_true,hc,s9 (show pl++[(i,sz,o)]≠[] by simp),List.nil_append];rw[hs];exact⟨by first | rfl | trivial,by first | rfl | trivial⟩
  cases l with
  | nil=>
   rw[vU v _ (by simp)] at hf;obtain⟨h1,h2⟩:=UP f hf;have e2:putL ⟨r,off,pl++[(i,sz,o)]⟩ (erL [v])=(m7 ⟨r,off,pl++[(i,sz,o)]⟩ (er v)).bind λ_=>.ret ():=rfl;rw[e2,SP.run_bind,h1,be _ _ h1,h2];refine⟨rfl,λz hz=>?_,λz hz=>?_⟩
   all_goals simp only[SP.foot,List.append_nil,List.mem_cons,List.not_mem_nil,or_false] at hz;exact hz
  | cons w vs=>
   obtain⟨f1,g,h1,h2,h3⟩:=rd hf;obtain⟨p1,p2⟩:=UP f1 h1;have hs:=re h1 x;simp only[oLC] at ho
   obtain⟨q1,q2,q3⟩:=ih (o:=o+1) (x:=f1 x) (σ:=⟨σ.tm,cl σ.ce r (L.set off (er1 u (f1 x))),σ.vr⟩) h2 (by simp) (by simp only[oLC];omega) (λj hj=>by
    obtain⟨TK,h4,h5⟩:=ZJ (j+1) (by simp only[oLC] at hj ⊢;omega);refine⟨TK,?_,h5⟩;rw[hs,uv (by omega),show o+1+j=o+(j+1) by omega]
    exact h4) (λv' Y2=>hh v' (by simp[Y2])) (by
    unfold St.c;simp only[j4]
    simp[Zh]) (j4 _ _ _) (by simpa using Zh)
   have e2:putL ⟨r,off,pl++[(i,sz,o)]⟩ (erL (v :: w :: vs))=(m7 ⟨r,off,pl++[(i,sz,o)]⟩ (er v)).bind λ_=>putL ⟨r,off,pl++[(i,sz,o+1)]⟩ (erL (w :: vs)):=by
    have Y4:aS.fits ⟨r,off,pl++[(i,sz,o)]⟩ 1=true:=by
     simp only[aS.fits,List.reverse_append,List.reverse_cons,List.reverse_nil,List.nil_append,List.cons_append];simpa using (by omega:o+1 < sz)
    have Yo:aS.add ⟨r,off,pl++[(i,sz,o)]⟩ 1=⟨r,off,pl++[(i,sz,o+1)]⟩:=by simp[aS.add]
    show (m7 ⟨r,off,pl++[(i,sz,o)]⟩ (er v)).bind (λ_=>if aS.fits ⟨r,off,pl++[(i,sz,o)]⟩ 1 then putL (aS.add ⟨r,off,pl++[(i,sz,o)]⟩ 1) (erL (w :: vs)) else .fail)=_;rw[Y4,Yo];rfl
   rw[e2,SP.run_bind,p1,be _ _ p1,p2];simp only[oBS];rw[q1,mX,List.set_set,h3 x];refine⟨rfl,λz hz=>?_,λz hz=>?_⟩
   ·rcases List.mem_append.1 hz with hz | hz
    ·simpa using hz
    ·exact q2 z hz
   ·rcases List.mem_append.1 hz with hz | hz
    ·simpa using hz
    ·exact q3 z hz
theorem kR(l:List (den .nat×Nat×Nat)) (i:Nat) (sz o:Nat):X.lastO (l++[(i,sz,o)])=o:=by
 induction l with
 | nil=>rfl
 | cons h l ih=>
  cases l with
  | nil=>rfl
  | cons h2 l=>simpa [X.lastO] using ih
theorem tu:∀{hs:List (den .nat×Nat×Nat)}{tv:XV den}{k:(t:CT)->den t->Option Y}{y:Y},X.elemX aO tv hs k=some y->∃l i sz o t e,hs=l++[(i,sz,o)]/\dT t=sz/\(∀j v,yG (X.splitX aO t e) j=some v->aY (er tv) (l++[(i,sz,j)])=some (er v))/\k t e=some y:=by
 intro hs
 induction hs with
 | nil=>
  intro tv k y h
  cases tv with
  | d u x=>cases u with
   | row ow t=>cases ow<;>cases h
   | _=>cases h
  | _=>cases h
 | cons h1 hs ih=>
  intro tv k y h;obtain⟨i,sz,o⟩:=h1
  cases tv with
  | d u x=>cases u with
   | row ow t=>cases ow with
    | true=>
     cases hs with
     | nil=>
      simp only[X.elemX] at h;split at h
      ·rename_i hsz;obtain⟨e,he,h2⟩:=aR (show (dD (x:List (den t)) i).bind _=some y from h);have he:(x:List (den t))[i]?=some e:=he;refine⟨[],i,sz,o,t,e,rfl,hsz,λj v hv=>?_,h2⟩
       have h3:(List.map (enc t) (x:List (den t)))[i]?=some (enc t e):=by rw[List.getElem?_map,he];rfl
       show (match (List.map (enc t) (x:List (den t)))[i]? with | some el=>if el.length=sz then (match el[j]? with | some t=>aY t [] | none=>none) else none | none=>none)=_;rw[h3];simp only[bZ,hsz,if_true,jm hv];rfl
      ·cases h
     | cons h2 hs=>
      simp only[X.elemX] at h;split at h
      ·rename_i hsz;obtain⟨e,he,h3⟩:=aR (show (dD (x:List (den t)) i).bind _=some y from h);have he:(x:List (den t))[i]?=some e:=he;split at h3
       ·rename_i v hv;obtain⟨l,i',sz',o',t',e',e1,e2,e3,e4⟩:=ih h3;refine⟨(i,sz,o) :: l,i',sz',o',t',e',by rw[e1];rfl,e2,λj w hw=>?_,e4⟩
        have h4:(List.map (enc t) (x:List (den t)))[i]?=some (enc t e):=by rw[List.getElem?_map,he];rfl
        have:=e3 j w hw;show (match (List.map (enc t) (x:List (den t)))[i]? with | some el=>if el.length=sz then (match el[o]? with | some t=>aY t (l++[(i',sz',j)]) | none=>none) else none | none=>none)=_;rw[h4];simp only[bZ,hsz,if_true,jm hv];exact this
       ·cases h3
      ·cases h
    | false=>cases hs<;>cases h
   | _=>cases hs<;>cases h
  | _=>cases hs<;>cases h
theorem q8(r off:Nat) (hs:List (den .nat×Nat×Nat)) (l:List (XV den)) (h2:2<=hs.length):Sim (Y:=Y) (X.bind (X.rdC r off) λtv=>X.elemM aO tv hs λt e=>
 if X.lastO hs+l.length<=dT t/\0 < l.length/\(((X.splitX aO t e).drop (X.lastO hs)).take l.length).all (λv=>!X.isHdrX v)=true/\l.all (λv=>!X.isHdrX v)=true then X.bind (X.optM aO (X.setXs aO tv hs l)) λYJ=>X.wrI aO r off YJ else X.fail aO) (putL ⟨r,off,hs⟩ (erL l)) id:=by
 intro σ k y hk;obtain⟨pl,i,sz,o,t,e,e1,e2,e3,e4⟩:=tu hk
 have e5:X.lastO hs=o:=by rw[e1,kR]
 rw[e5] at e4;dsimp only at e4;split at e4
 case isFalse=>cases e4
 rename_i hc;obtain⟨Zr,Zm,Vd,Rs⟩:=hc
 have hlen:(X.splitX aO t e).length=sz:=by rw[<- b9,jn,bZ,e2]
 cases hset:X.setXs aO (X.cOf σ r off) hs l with
 | none=>rw[hset] at e4;cases e4
 | some YJ=>
  rw[hset] at e4;have e4:X.wrI aO r off YJ (X.lgR (.c r off) σ) k=some y:=e4
  cases htv:X.cOf σ r off with
  | d u x=>
   rw[htv] at hset e3;obtain⟨f,hf,Qd⟩:=cX (show (X.setHs aO hs l u).map (λf=>(XV.d u (f x):XV den))=some YJ from hset);subst Qd;unfold X.wrI at e4;split at e4
   case h_2=>cases e4
   rename_i L hL;have hL:bd σ.ce r=some L:=hL;split at e4
   case isFalse=>cases e4
   rename_i Zh;rw[ir] at e4;rw[e1] at hf
   obtain⟨q1,q2,q3⟩:=wm (r:=r) (off:=off) (σ:=erS σ) (L:=erL L) l (x:=x) hf Zm (by rw[<- e2];exact Zr) (λj hj=>by
    have hjs:o+j < (X.splitX aO t e).length:=by omega
    refine⟨er (X.splitX aO t e)[o+j],e3 (o+j) _ (by rw[mi];exact oGE hjs),?_⟩;rw[jJ]
    have:=List.all_eq_true.1 Vd (X.splitX aO t e)[o+j] (List.mem_of_getElem? (i:=j) (by
     rw[List.getElem?_take,oIP hj,List.getElem?_drop]
     exact oGE hjs))
    simpa using this) (λv hv=>by simp_all) (by rw[nv,htv];rfl) (by rw[nW,hL];rfl) (by rw[b9];exact Zh)
   rw[<- e1] at q1 q2 q3;refine⟨(),⟨σ.tm,cl σ.ce r (L.set off (.d u (f x))),σ.vr,(.n r :: .h r off :: .c r off :: σ.lg.1,.c r off :: σ.lg.2)⟩,?_,⟨λz hz=>?_,λz hz=>?_,λz hz=>by simp[hz],λz hz=>by simp[hz]⟩,e4⟩
   ·rw[q1];unfold erS erC;simp only;rw[<- iR,mI];rfl
   ·rcases q2 z hz with h | h | h<;>simp[h]
   ·simp[q3 z hz]
  | _=>rw[htv] at hset;cases hset
theorem wq{r off i sz o:Nat}{l:List (XV den)}{tv:XV den}{σ:XS den}{k:Unit->XS den->Option Y}{y:Y}(h:X.putEl aO r off i sz o l tv σ k=some y) :
 (∃t xs,tv=.d (.row true t) xs/\(dT t=sz/\o+l.length<=sz/\0 < l.length)/\(X.atM aO true t xs i λe=>X.bind (X.optM aO (X.setDs aO t o l)) λf=>X.bind (X.wrI aO r off (.d (.row true t) (aO.upd t xs i f))) λ_=>X.bumps (r,off,2) (X.hdrs ((X.splitX aO t e).drop o) l)) σ k=some y) \/
 ∃t xs i' o',tv=.gap t xs i' o'/\(dT t=sz/\o=o'/\o < sz/\l.length=1)/\(X.atM aO true t xs i λ_=>X.brM aO (aO.eqN i i') (X.bind (X.optM aO (X.setDs aO t o l)) λf=>X.bind (X.wrI aO r off (.d (.row true t) (aO.upd t xs i f))) λ_=>X.bump (r,off,2))) σ k=some y:=by
 cases tv with
 | d u xs=>cases u with
  | row ow t=>cases ow with
   | true=>
    by_cases hc:dT t=sz/\o+l.length<=sz/\0 < l.length
    ·simp only[X.putEl,oIP hc] at h;exact .inl ⟨t,xs,rfl,hc,h⟩
    ·simp[X.putEl,oIN hc] at h;cases h
   | false=>cases h
  | _=>cases h
 | gap t xs i' o'=>
  by_cases hc:dT t=sz/\o=o'/\o < sz/\l.length=1
  ·simp[X.putEl,oIP hc] at h;exact .inr ⟨t,xs,i',o',rfl,hc,h⟩
  ·simp[X.putEl,oIN hc] at h;cases h
 | _=>cases h
theorem AZ{c:Bool}{m:XM den Option Y α}{σ:XS den}{k:α->XS den->Option Y}{y:Y}(h:X.brM aO c m σ k=some y):c=true/\m σ k=some y:=by
 cases c with
 | false=>cases h
 | true=>exact⟨rfl,h⟩
theorem yV{t:CT}{xs:List (den t)}{i sz o:Nat}{e:den t}(hsz:dT t=sz) (he:xs[i]?=some e) (ho:o < sz):aY (cA (er1 (.row true t) xs) [(i,0,o)] .dead) [(i,sz,o)]=some .dead:=by
 have h3:(List.map (enc t) xs)[i]?=some (enc t e):=by simp_all
 show (match ((List.map (enc t) xs).modify i λel=>el.modify o λ_=>TV.dead)[i]? with | some el=>if el.length=sz then (match el[o]? with | some t=>aY t [] | none=>none) else none | none=>none)=_;rw[List.getElem?_modify,h3]
 have h4:o < (enc t e).length:=by rw[bZ,hsz];exact ho
 simp[bZ,hsz,oGE h4,aY]
theorem yq{tv:TV}{i sz sz' o:Nat}{u v:TV}:cA (cA tv [(i,sz',o)] u) [(i,sz,o)] v=cA tv [(i,sz,o)] v:=by
 cases tv with
 | ow c=>
  simp only[cA];congr 1;apply List.ext_getElem?;intro j;simp only[List.getElem?_modify];by_cases h:i=j
  ·simp only[h,if_true]
   cases c[j]? with
   | none=>rfl
   | some el=>
    show some ((el.modify o λ_=>u).modify o λ_=>v)=some (el.modify o λ_=>v);congr 1;apply List.ext_getElem?;intro k;simp only[List.getElem?_modify];by_cases h:o=k
    ·simp only[h,if_true];cases el[k]?<;>rfl
    ·simp[h]
  ·simp[h]
 | _=>rfl
theorem tT{r off i sz o:Nat}{t:CT}{xs:List (den t)}{l:List (XV den)}{σ:XS den}{k:Unit->XS den->Option Y}{y:Y}(hcell:X.cOf σ r off=.gap t xs i o) (hc:dT t=sz/\o < sz/\l.length=1) {e:den t}(he:xs[i]?=some e)
 (hk:(X.bind (X.optM aO (X.setDs aO t o l)) λf=>X.bind (X.wrI aO r off (.d (.row true t) (aO.upd t xs i f))) λ_=>X.bump (r,off,2)) (X.lgR (.c r off) σ) k=some y) :
 ∃a σ',(putL ⟨r,off,[(i,sz,o)]⟩ (erL l)).run (erS σ)=some (id a,erS σ')/\ge σ σ' ((putL ⟨r,off,[(i,sz,o)]⟩ (erL l)).foot (erS σ))/\k a σ'=some y:=by
 obtain⟨hsz,ho,hl⟩:=hc
 obtain⟨v,rfl⟩:∃v,l=[v]:=by
  match l,hl with
  | [v],_=>simp_all
 cases hf:X.setDs aO t o [v] with
 | none=>rw[hf] at hk;cases hk
 | some f=>
  rw[hf] at hk
  have hset:cA (er1 (.row true t) xs) [(i,sz,o)] (er v)=er1 (.row true t) (List.modify xs i f):=by
   rw[nO xs i o f (λ_=>er v) (ov (λu h hu _ x=>xz hu x) hf)];rfl
  have WX:(erS σ).c r off=cA (er1 (.row true t) xs) [(i,0,o)] .dead:=by rw[nv,hcell];rfl
  have Qi:=(eO.wrI (Y:=Y) (σ:=X.lgR (.c r off) σ) (r:=r) (t:=.d (.row true t) (List.modify xs i f)) (by
   show (er1 (.row true t) (List.modify xs i f)).hd=((erS σ).c r off).hd
   rw[WX,mu (by simp),<- hset,mu (by simp)])).bind (g:=λ_=>X.bump (r,off,2)) (h:=λ_=>.bump (r,off,2) (.ret ())) (f':=id) λ_=>sL (r,off,2)
  obtain⟨a,σ',h1,h2,h3⟩:=Qi k y hk
  have e1:putL ⟨r,off,[(i,sz,o)]⟩ (erL [v])=.rdC r off λtv=>(match aY tv [(i,sz,o)] with
   | some old=>if jK old || jK (er v) then (if 1<=1 then SP.wrC r off (cA tv [(i,sz,o)] (er v)) (.bump (r,off,2) (.ret ())) else .fail) else .wrC r off (cA tv [(i,sz,o)] (er v)) (.ret ())
   | none=>.fail).bind λ_=>.ret ():=rfl
  have e2:∀s:TV,s=(erS σ).c r off->((match aY s [(i,sz,o)] with
   | some old=>if jK old || jK (er v) then (if 1<=1 then SP.wrC r off (cA s [(i,sz,o)] (er v)) (.bump (r,off,2) (.ret ())) else .fail) else .wrC r off (cA s [(i,sz,o)] (er v)) (.ret ())
   | none=>.fail:SP Unit).bind λ_=>.ret ())=.wrC r off (er1 (.row true t) (List.modify xs i f)) (.bump (r,off,2) (.ret ())):=by
   intro s hs;rw[hs,WX,yV hsz he ho,yq,hset];rfl
  refine⟨a,σ',?_,⟨λx hx=>?_,λx hx=>?_,λx hx=>h2.r0 x (by simp[X.lgR,hx]),λx hx=>h2.w0 x hx⟩,h3⟩
  ·rw[e1];simp only[SP.run];rw[e2 _ rfl];exact h1
  ·rw[e1] at hx;simp only[SP.foot,List.mem_cons] at hx;rcases hx with rfl | hx
   ·exact h2.r0 _ (by simp[X.lgR])
   ·rw[e2 _ rfl] at hx;exact h2.r x hx
  ·rw[e1] at hx;simp only[SP.foot] at hx;rw[e2 _ rfl] at hx;exact h2.w x hx
theorem sE(p:XP den) (l:List (XV den)):Sim (Y:=Y) (X.putL aO p l) (putL (erP p) (erL l)) id:=by
 obtain⟨r,off,hops⟩:=p
 match hops with
 | []=>exact yf r l off
 | [(i,sz,o)]=>
  intro σ k y hk;show ∃a σ',(putL ⟨r,off,[(i,sz,o)]⟩ (erL l)).run (erS σ)=some (id a,erS σ')/\_;rcases wq hk with ⟨t,xs,hcell,⟨hsz,hol,W5⟩,hk⟩ | ⟨t,xs,i',o',hcell,⟨hsz,hoo,hol,W5⟩,hk⟩
  rotate_left
  ·obtain⟨e,he,hk⟩:=aR (show (dD xs i).bind _=some y from hk);have he:(xs:List (den t))[i]?=some e:=he;dsimp only at hk;obtain⟨hb,Qr⟩:=AZ hk;have hii:i=i':=Nat.eq_of_beq_eq_true hb;subst hii;subst hoo;exact tT hcell ⟨hsz,hol,W5⟩ he Qr
  ··skip
    obtain⟨e,he,hk⟩:=aR (show (dD xs i).bind _=some y from hk)
    cases hf:X.setDs aO t o l with
    | none=>rw[hf] at hk;cases hk
    | some f=>
     rw[hf] at hk;have hk:X.wrI aO r off (.d (.row true t) (aO.upd t xs i f)) (X.lgR (.c r off) σ) (λ_ σ'=>X.bumps (r,off,2) (X.hdrs ((X.splitX aO t e).drop o) l) σ' k)=some y:=hk;unfold X.wrI at hk;split at hk
     case h_2=>cases hk
     rename_i L hL;have hL:bd σ.ce r=some L:=hL;split at hk
     case isFalse=>cases hk
     rename_i Zh;rw[ir] at hk;obtain⟨σ',h1,h2,h3,h4,h5⟩:=xp _ _ hk
     have hc:(erS σ).c r off=er1 (.row true t) xs:=by rw[nv,hcell];rfl
     have P2:bd (erS σ).ce r=some (erL L):=by rw[nW,hL];rfl
     obtain⟨q1,q2⟩:=AF hsz l (σ:=erS σ) hf he hol hc P2 (by rw[b9];exact Zh);refine⟨(),σ',?_,⟨λx hx=>?_,λx hx=>?_,λx hx=>h2 x (by simp[X.lgR,hx]),λx hx=>h3 x (by simp[X.lgR,hx])⟩,h5⟩
     ·rw[q1,h1];simp only[id_eq,oSJ,oPJ,true_and];congr 1;show cl (erC σ.ce) r _=erC (cl σ.ce r _);unfold erC;rw[<- iR,mI];rfl
     ·rcases q2.1 x hx with h | (h | h) | ⟨h,h'⟩
      ·exact h2 x (by simp[X.lgR,h])
      ·exact h2 x (by simp[X.lgR,h])
      ·simp_all
      ·rw[h];exact (h4 h').1
     ·rcases q2.2 x hx with h | ⟨h,h'⟩
      ·simp_all
      ·rw[h];exact (h4 h').2
 | h1 :: h2 :: hs=>exact q8 r off (h1 :: h2 :: hs) l (by simp)
end
section
variable {α β γ δ Y:Type}
theorem dL(p:XP den) (t:XV den):Sim (Y:=Y) (X.peek1 aO p t) (peek1 (erP p) (er t)) er:=by
 cases t with
 | k x=>exact .ret rfl
 | d t x=>
  have own:X.isOwT t=true->Sim (Y:=Y) (X.peek1 aO p (.d t x)) (peek1 (erP p) (er (.d t x))) er:=by
   intro h;have h1:X.isOwX (.d t x:XV den)=true:=h;have ⟨c,hc⟩:=fT h1;rw[hc];show Sim (if X.isOwT t then _ else _) (SP.bind _ _) er;rw[oIP h];exact (lw _).bind λvs=>.ret rfl
  cases t with
  | row o t=>cases o<;>first | exact .ret rfl | exact own rfl
  | nilr o=>cases o<;>first | exact .ret rfl | exact own rfl
  | int k=>exact .ret rfl
  | bool=>exact .ret rfl
  | str=>exact .ret rfl
  | nat=>exact .fail
  | pair a b=>exact .fail
 | _=>exact .fail
theorem vu(p:XP den):Sim (Y:=Y) (X.peekP aO p) (peekP (erP p)) er:=by
 have ⟨r,o,hs⟩:=p
 cases hs with
 | nil=>
  refine Sim.rdK λt=>Sim.ite (λh=>?_) λh=>?_
  ·have ⟨c,hc⟩:=fT h;rw[hc];exact (lw _).bind λvs=>.ret rfl
  ·rw[AR (by simp_all) (jI t)];exact (dM ⟨r,o,[]⟩).bind λt=>dL _ t
 | cons h hs=>exact (dM ⟨r,o,h :: hs⟩).bind λt=>dL _ t
theorem vv(r:Nat):∀(n o:Nat),Sim (Y:=Y) (X.peekB aO r o n) (peekL ⟨r,o,[]⟩ n) erL:=by
 intro n
 induction n with
 | zero=>intro o;exact .ret rfl
 | succ n ih=>
  intro o
  cases n with
  | zero=>
   refine Sim.rdC λt=>(dL ⟨r,o,[]⟩ t).bind λt'=>?_;exact (Sim.ret (f:=erL) rfl).bind (h:=λl=>.ret (er t' :: l)) λl=>.ret rfl
  | succ n=>
   exact Sim.rdC λt=>(dL ⟨r,o,[]⟩ t).bind λt'=>(ih (o+1)).bind λl=>.ret rfl
theorem zl{r o:Nat}{l:List Hop}{i sz f n:Nat}:(⟨r,o,l++[(i,sz,f)]⟩:aS).add n=⟨r,o,l++[(i,sz,f+n)]⟩:=by
 simp[aS.add]
theorem w7{r o:Nat}{l:List Hop}{i sz f n:Nat}:(⟨r,o,l++[(i,sz,f)]⟩:aS).fits n=decide (f+n < sz):=by
 simp[aS.fits]
theorem wg:∀{qs:List Key}{σ:St}{a:List Nat}{τ:St},(rdVs qs).run σ=some (a,τ)->τ=σ:=by
 intro qs
 induction qs with
 | nil=>intro σ a τ h;simp[rdVs,SP.run] at h;exact h.2.symm
 | cons q qs ih=>
  intro σ a τ h;have ⟨l,σ1,h1,h2⟩:=aL h;simp[SP.run] at h2;rw[<- h2.2];exact ih h1
theorem uf{p:aS}{t:TV}{σ:St}{y:TV×St}(h:(peek1 p t).run σ=some y):y.2=σ:=by
 cases t with
 | v x=>simp[peek1,SP.run] at h;rw[<- h]
 | sl c=>simp[peek1,SP.run] at h;rw[<- h]
 | ow c=>
  have ⟨l,σ1,h1,h2⟩:=aL h;simp[SP.run] at h2;rw[<- h2];exact wg h1
 | _=>simp[peek1,SP.run] at h
theorem ue{r off:Nat}{l:List (den .nat×Nat×Nat)}{i:Nat}{sz:Nat}{tv:TV}:∀(cs:List (XV den)) (o:Nat) {σ:XS den}{k:List (XV den)->XS den->Option Y}{y:Y},X.peekCs aO ⟨r,off,l++[(i,sz,o)]⟩ cs σ k=some y ->
 (erS σ).c r off=tv->Loc.c r off∈σ.lg.1->(∀j v,cs[j]?=some v->aY tv (l++[(i,sz,o+j)])=some (er v))->0 < cs.length->o+cs.length<=sz ->
 ∃vs σ',(peekL ⟨r,off,l++[(i,sz,o)]⟩ cs.length).run (erS σ)=some (erL vs,erS σ')/\ge σ σ' ((peekL ⟨r,off,l++[(i,sz,o)]⟩ cs.length).foot (erS σ))/\k vs σ'=some y:=by
 intro cs
 induction cs with
 | nil=>simp_all
 | cons t cs ih=>
  intro o σ k y h hc Tc hg h0 hsz;obtain⟨t',σ1,r1,n1,k1⟩:=dL ⟨r,off,l++[(i,sz,o)]⟩ t σ _ y h;have r1:(peek1 ⟨r,off,l++[(i,sz,o)]⟩ (er t)).run (erS σ)=some (er t',erS σ1):=r1;have hs:erS σ1=erS σ:=uf r1
  have Vj:(getPl ⟨r,off,l++[(i,sz,o)]⟩).run (erS σ)=some (er t,erS σ):=by
   have h3:aY tv (l++[(i,sz,o)])=some (er t):=hg 0 t rfl;simp only[getPl,SP.run,hc];rw[h3];rfl
  have Rj:(getPl ⟨r,off,l++[(i,sz,o)]⟩).foot (erS σ)=([.c r off],[]):=by
   simp only[getPl,SP.foot,hc];have:=hg 0 t rfl;simp only[Nat.add_zero] at this;rw[this];rfl
  cases cs with
  | nil=>
   have k1:k [t'] σ1=some y:=k1;have e:peekL ⟨r,off,l++[(i,sz,o)]⟩ 1=(getPl ⟨r,off,l++[(i,sz,o)]⟩).bind λt=>(peek1 ⟨r,off,l++[(i,sz,o)]⟩ t).bind λt'=>.ret [t']:=rfl;refine⟨[t'],σ1,?_,?_,k1⟩
   ·show (peekL _ 1).run _=_;rw[e,SP.run_bind,Vj];simp only[oBS,SP.run_bind,r1];rfl
   ·show ge σ σ1 ((peekL _ 1).foot _);rw[e,be _ _ Vj,be _ _ r1,Rj];refine⟨λx hx=>?_,λx hx=>?_,n1.r0,n1.w0⟩
    ·simp only[SP.foot,List.cons_append,List.nil_append,List.append_nil,List.mem_cons] at hx;rcases hx with h | h
     ·rw[h];exact n1.r0 _ Tc
     ·exact n1.r x h
    ·simp only[SP.foot,List.nil_append,List.append_nil] at hx;exact n1.w x hx
  | cons u cs=>
   have Sl:X.addP (⟨r,off,l++[(i,sz,o)]⟩:XP den) 1=⟨r,off,l++[(i,sz,o+1)]⟩:=by simp[X.addP]
   rw[Sl] at k1;simp only[oLC] at hsz h0
   obtain⟨vs,σ2,r2,n2,k2⟩:=ih (o+1) k1 (by rw[hs];exact hc) (n1.r0 _ Tc) (λj v hv=>by
    have:=hg (j+1) v (by simpa using hv)
    rw[show o+1+j=o+(j+1) by omega];exact this) (by simp) (by simp only[oLC];omega)
   have e:peekL ⟨r,off,l++[(i,sz,o)]⟩ (u :: cs).length.succ=(getPl ⟨r,off,l++[(i,sz,o)]⟩).bind λt=>(peek1 ⟨r,off,l++[(i,sz,o)]⟩ t).bind λt'=>(peekL ⟨r,off,l++[(i,sz,o+1)]⟩ (u :: cs).length).bind λr=>.ret (t' :: r):=by
    show (getPl _).bind (λt=>(peek1 _ t).bind λt'=>if aS.fits ⟨r,off,l++[(i,sz,o)]⟩ 1 then (peekL (aS.add ⟨r,off,l++[(i,sz,o)]⟩ 1) (cs.length+1)).bind λr=>.ret (t' :: r) else .fail)=_
    have h3:decide (o+1 < sz)=true:=by simpa using (by omega:o+1 < sz)
    rw[w7,zl,h3];rfl
   refine⟨t' :: vs,σ2,?_,?_,k2⟩
   ·show (peekL _ (u :: cs).length.succ).run _=_;rw[e,SP.run_bind,Vj];simp only[oBS,SP.run_bind,r1,r2];rfl
   ·show ge σ σ2 ((peekL _ (u :: cs).length.succ).foot _);rw[e,be _ _ Vj,be _ _ r1,be _ _ r2,Rj];refine⟨λx hx=>?_,λx hx=>?_,λx hx=>n2.r0 x (n1.r0 x hx),λx hx=>n2.w0 x (n1.w0 x hx)⟩
    ·simp only[SP.foot,List.cons_append,List.nil_append,List.append_nil,List.mem_cons,List.mem_append] at hx;rcases hx with h | h | h
     ·rw[h];exact n2.r0 _ (n1.r0 _ Tc)
     ·exact n2.r0 _ (n1.r x h)
     ·exact n2.r x h
    ·simp only[SP.foot,List.nil_append,List.append_nil,List.mem_append] at hx;rcases hx with h | h
     ·exact n2.w0 _ (n1.w x h)
     ·exact n2.w x h
theorem pG(p:XP den) (n:Nat):Sim (Y:=Y) (X.peekL aO p n) (peekL (erP p) n) erL:=by
 obtain⟨r,off,hops⟩:=p
 cases hops with
 | nil=>exact vv r n off
 | cons h1 hs=>
  intro σ k y hk;have hk:X.elemM aO (X.cOf σ r off) (h1 :: hs) (λt e=>if X.lastO (h1 :: hs)+n<=dT t/\0 < n then X.peekCs aO ⟨r,off,h1 :: hs⟩ (((X.splitX aO t e).drop (X.lastO (h1 :: hs))).take n) else X.fail aO) (X.lgR (.c r off) σ) k=some y:=hk;obtain⟨l,i,sz,o,t,e,e1,e2,e3,e4⟩:=tu hk
  have e5:X.lastO (h1 :: hs)=o:=by rw[e1,kR]
  rw[e5] at e4;dsimp only at e4;split at e4
  ·rename_i hc
   have hlen:(X.splitX aO t e).length=sz:=by rw[<- b9,jn,bZ,e2]
   have Zd:(((X.splitX aO t e).drop o).take n).length=n:=by rw[oLT,List.length_drop,hlen];omega
   rw[e1] at e4
   have ⟨vs,σ',r1,n1,k1⟩:=ue (tv:=er (X.cOf σ r off)) _ o e4 (nv σ r off) (by simp[X.lgR]) (λj v hv=>e3 (o+j) v (by
    rw[mi];rw[List.getElem?_take] at hv;split at hv
    ·simp_all
    ·simp at hv)) (by omega) (by omega)
   rw[Zd] at r1 n1
   have ep:erP ⟨r,off,h1 :: hs⟩=⟨r,off,l++[(i,sz,o)]⟩:=by unfold erP;rw[e1]
   rw[ep];exact⟨vs,σ',r1,⟨n1.r,n1.w,λx hx=>n1.r0 x (by simp[X.lgR,hx]),λx hx=>n1.w0 x hx⟩,k1⟩
  ·cases e4
theorem vy(r:Nat):∀(l:List (XV den)) (i:Nat),Sim (Y:=Y) (X.nameL r i l) (nameL r i (erL l)) erL:=by
 intro l
 induction l with
 | nil=>intro i;exact .ret rfl
 | cons t l ih=>
  intro i
  cases ho:X.isOwX t with
  | true=>
   obtain⟨c,hc⟩:=fT ho
   have e:nameL r i (erL (t :: l))=.rdV (r,0,0) λg=>.rdV (r,i,1) λh=>(nameL r (i+1) (erL l)).bind λl'=>.ret (.pk ⟨r,i,[]⟩ [g,h] :: l'):=by
    simp[erL,hc,nameL]
   rw[e];simp[X.nameL,ho];exact Sim.rdV λg=>Sim.rdV λh=>(ih (i+1)).bind λl'=>.ret rfl
  | false=>
   have e:nameL r i (erL (t :: l))=(nameL r (i+1) (erL l)).bind λl'=>.ret (er t :: l'):=by
    have h1:fI (er t)=false:=by rw[jI,ho]
    simp[erL]
    cases he:er t with
    | ow c=>rw[he] at h1;simp[fI] at h1
    | _=>rfl
   rw[e];simp[X.nameL,ho,if_false];exact (ih (i+1)).bind λl'=>.ret rfl
theorem zQ(l:List (XV den)):(erL l).any fI=l.any X.isOwX:=by
 induction l with
 | nil=>rfl
 | cons t l ih=>simp[erL,jI,ih]
theorem lZ(d:Nat) (l:List (XV den)):Sim (Y:=Y) (X.names aO d l) (names d (erL l)) erL:=by
 unfold X.names names;rw[zQ];by_cases h:l.any X.isOwX=true
 ·rw[oIP h,oIP h];exact Sim.new rfl (vy _ l 0)
 ·rw[oIN h,oIN h];exact .ret rfl
theorem nK(agg:Bool) (l:List (XV den)):er (X.shapedX agg l)=gW agg (erL l):=by
 cases agg with
 | true=>rfl
 | false=>exact qw l
theorem bh(d:Nat) {t:XV den}{t':TV}(e:er t=t'):Sim (Y:=Y) (X.wr aO d t) (wr d t') id:=by subst e;exact ot d t
theorem eo(d:Nat) (agg:Bool) {l:List (XV den)}{l':List TV}(e:erL l=l'):Sim (Y:=Y) (X.inst aO d agg l) (inst d agg l') id:=by
 subst e;exact (lZ d l).bind λl'=>bh d (nK agg l')
theorem gi(t:XV den):Sim (Y:=Y) (X.natOf aO t) (natOf (er t)) id:=by
 cases t with
 | d t x=>cases t with
  | int k=>
   refine Sim.nat λm hm=>?_;subst hm;exact .ret rfl
  | _=>exact .fail
 | _=>exact .fail
theorem l6(t:XV den):Sim (Y:=Y) (X.lenOf aO t) (gu (er t)) id:=by
 cases t with
 | d t x=>cases t with
  | row o t=>cases o with
   | false=>exact .ret (List.length_map _).symm
   | true=>exact .fail
  | nilr o=>cases o<;>exact .ret rfl
  | _=>exact .fail
 | pk p vs=>
  refine (co p _ vs).bind λ_=>(sG p).bind λt=>?_
  cases t with
  | d t x=>cases t with
   | row o t=>cases o with
    | true=>exact .ret (show _=(List.map List.length (List.map (enc t) x)).length by simp;rfl)
    | false=>exact .fail
   | nilr o=>cases o with
    | true=>exact .ret rfl
    | false=>exact .fail
   | _=>exact .fail
  | _=>exact .fail
 | pw p vs sz lo n=>exact (co p _ vs).bind λ_=>.ret rfl
 | _=>exact .fail
theorem nJ(o:Option Opd) (d:Nat):Sim (Y:=Y) (X.optNat aO o d) (optNat o d) id:=by
 cases o with
 | none=>exact .ret rfl
 | some o=>exact (kg o).bind λt=>gi t
theorem jo(mv:Bool):∀l:List (Nat×Nat×Opd),Sim (Y:=Y) (X.takeParts aO mv l) (takeParts mv l) erL:=by
 intro l
 induction l with
 | nil=>exact .ret rfl
 | cons x l ih=>
  have ⟨off,n,x⟩:=x;refine (kg x).bind λt=>?_;rw[jS];refine (gh mv _).bind λl1=>?_;refine Sim.ite (λhn=>?_) λ_=>.fail;rw[oIP (by rw[b9];exact hn)];exact ih.bind λl'=>.ret (iO _ _)
theorem wv:∀(l cells:List (XV den)) (off:Nat),erL (X.placeX cells off l)=ee (erL cells) off (erL l):=by
 intro l
 induction l with
 | nil=>intros;rfl
 | cons t l ih=>intro cells off;simp[X.placeX,erL,ee];rw[ih,mI]
theorem qI:∀(ps:List (Nat×Nat×Opd)) (cells l:List (XV den)),erL (X.assembleX cells ps l)=gP (erL cells) ps (erL l):=by
 intro ps
 induction ps with
 | nil=>intros;rfl
 | cons p ps ih=>
  intro cells l;simp[X.assembleX,gP];rw[ih,wv,iN,jQ]
theorem uN(sz:Nat):∀(n:Nat) (l:List (XV den)),(X.chunksX sz n l).map erL=fE sz n (erL l):=by
 intro n
 induction n with
 | zero=>intros;rfl
 | succ n ih=>intro l;simp only[X.chunksX,List.map_cons,fE];rw[ih,iN,jQ]
theorem lL(z:List Value):erL (z.map (X.cellX aO))=z.map b7:=by
 rw[dQ,List.map_map];exact List.map_congr_left λy _=>lM y
theorem kq{z:List Value}(h:(z.map (X.cellX aO)).all X.okCellX=true):(z.map b7).all bG=true:=by
 rw[<- lL,dQ,List.all_map];rw[List.all_eq_true] at h ⊢;intro x hx;exact uj (h x hx)
end
section
variable {α β γ δ Y:Type}
theorem oz(v:Value):uc (pure v)=some v:=rfl
theorem B1{k:IntKind}{a b:Int}{op:BinOp}(h:op=.add\/op=.sub\/op=.mul\/op=.and\/op=.or\/op=.xor\/op=.andNot):cB op (.int k a) (.int k b)=some (.int k (arR op k a b)):=by
 rcases h with rfl | rfl | rfl | rfl | rfl | rfl | rfl<;>simp[cB,Go.binOp,Op.intArith,Op.intBits,arR,oz]
theorem B0{k:IntKind}{a b:Int}{op:BinOp}(h:op=.eql\/op=.neq\/op=.lss\/op=.leq\/op=.gtr\/op=.geq):cB op (.int k a) (.int k b)=some (.bool (cmR op a b)):=by
 rcases h with rfl | rfl | rfl | rfl | rfl | rfl<;>simp[cB,Go.binOp,Op.intCmp,cmR,oz]
theorem BZ{k:IntKind}{a b:Int}{op:BinOp}(h:op=.quo\/op=.rem) (hb:b≠0):cB op (.int k a) (.int k b)=some (.int k (arR op k a b)):=by
 rcases h with rfl | rfl<;>simp[cB,Go.binOp,Op.intDiv,arR,oz,hb]
theorem zO{k k':IntKind}{a:Int}{n:Nat}{op:BinOp}(h:op=.shl\/op=.shr):cB op (.int k a) (.int k' n)=some (.int k (shR op k a n)):=by
 rcases h with rfl | rfl<;>simp[cB,Go.binOp,Op.shift,shR,oz,show ¬ ((n:Int) < 0) by omega]
theorem zN{a b:ByteArray}:cB .eql (.string a) (.string b)=some (.bool (Cy a b))/\cB .neq (.string a) (.string b)=some (.bool (!(Cy a b))):=⟨rfl,rfl⟩
theorem lS(d:Nat) {op:BinOp}{x y r:Value}{t:XV den}(h:cB op x y=some r) (hf:cS r=true) (e:er t=.v r):Sim (Y:=Y) (X.wr aO d t) ((eK (cB op x y)).bind λr=>if cS r then wr d (.v r) else .fail) id:=by
 rw[h];show Sim _ (if cS r then wr d (.v r) else .fail) id;rw[oIP hf];exact bh d e
theorem Br(d:Nat) (op:BinOp) (a b:XV den):Sim (Y:=Y) (X.binX aO d op a b) ((j8 (er a)).bind λa=>(j8 (er b)).bind λb=>(eK (cB op a b)).bind λr=>if cS r then wr d (.v r) else .fail) id:=by
 cases a with
 | d t x=>cases t with
  | int k=>cases b with
   | d u y=>cases u with
    | int k'=>
     have ar:(op=.add\/op=.sub\/op=.mul\/op=.and\/op=.or\/op=.xor\/op=.andNot)->Sim (Y:=Y) (if h:k'=k then X.wr aO d (.d (.int k) (aO.ar op k x (h ▸ y))) else X.fail aO) ((eK (cB op (.int k x) (.int k' y))).bind λr=>if cS r then wr d (.v r) else .fail) id:=by
      intro hop;by_cases h:k'=k
      ·subst h;rw[dif_pos rfl];exact lS d (B1 hop) rfl rfl
      ·rw[dif_neg h];exact .fail
     have cm:(op=.eql\/op=.neq\/op=.lss\/op=.leq\/op=.gtr\/op=.geq)->Sim (Y:=Y) (if h:k'=k then X.wr aO d (.d .bool (aO.cm op k x (h ▸ y))) else X.fail aO) ((eK (cB op (.int k x) (.int k' y))).bind λr=>if cS r then wr d (.v r) else .fail) id:=by
      intro hop;by_cases h:k'=k
      ·subst h;rw[dif_pos rfl];exact lS d (B0 hop) rfl rfl
      ·rw[dif_neg h];exact .fail
     have dv:(op=.quo\/op=.rem)->Sim (Y:=Y) (if h:k'=k then X.brM aO (aO.cm .neq k' y (aO.lit k' 0)) (X.wr aO d (.d (.int k) (aO.ar op k x (h ▸ y)))) else X.fail aO) ((eK (cB op (.int k x) (.int k' y))).bind λr=>if cS r then wr d (.v r) else .fail) id:=by
      intro hop;by_cases h:k'=k
      ·subst h;rw[dif_pos rfl];refine Sim.br λhb=>lS d (BZ hop ?_) rfl rfl;have hb:((y:Int) != 0)=true:=hb
       simp_all
      ·rw[dif_neg h];exact .fail
     cases op with
     | add=>exact ar (by simp)
     | sub=>exact ar (by simp)
     | mul=>exact ar (by simp)
     | and=>exact ar (by simp)
     | or=>exact ar (by simp)
     | xor=>exact ar (by simp)
     | andNot=>exact ar (by simp)
     | eql=>exact cm (by simp)
     | neq=>exact cm (by simp)
     | lss=>exact cm (by simp)
     | leq=>exact cm (by simp)
     | gtr=>exact cm (by simp)
     | geq=>exact cm (by simp)
     | quo=>exact dv (by simp)
     | rem=>exact dv (by simp)
     | shl=>
      refine Sim.nat λn hn=>?_;have hn:y=(n:Int):=hn;subst hn;exact lS d (zO (.inl rfl)) rfl rfl
     | shr=>
      refine Sim.nat λn hn=>?_;have hn:y=(n:Int):=hn;subst hn;exact lS d (zO (.inr rfl)) rfl rfl
    | _=>exact .fail
   | _=>exact .fail
  | str=>cases b with
   | d u y=>cases u with
    | str=>
     cases op with
     | eql=>exact lS d zN.1 rfl rfl
     | neq=>exact lS d zN.2 rfl rfl
     | _=>exact .fail
    | _=>exact .fail
   | _=>exact .fail
  | _=>exact .fail
 | _=>exact .fail
theorem y8:∀{ks:List FK}{xs ys:List (XV den)}{c:Bool},X.eqAll aO ks xs ys=some c->∃vs ws,bg (erL xs)=some vs/\bg (erL ys)=some ws/\bo ks vs ws=some c:=by
 intro ks
 induction ks with
 | nil=>
  intro xs ys c h
  cases xs with
  | nil=>cases ys with
   | nil=>simp only[X.eqAll,oSJ] at h;subst h;exact⟨[],[],rfl,rfl,rfl⟩
   | cons=>simp[X.eqAll] at h
  | cons=>simp[X.eqAll] at h
 | cons f ks ih=>
  intro xs ys c h
  cases xs with
  | nil=>cases f<;>simp[X.eqAll] at h
  | cons x xs=>cases ys with
   | nil=>cases f<;>simp[X.eqAll] at h
   | cons y ys=>
    cases x with
    | d t a=>cases y with
     | d u b=>
      cases f with
      | i=>cases t with
       | int k=>cases u with
        | int k'=>
         simp only[X.eqAll] at h;split at h
         ·rename_i hk;subst hk;obtain⟨c',h1,rfl⟩:=cX h;obtain⟨vs,ws,e1,e2,e3⟩:=ih h1;refine⟨.int k' a :: vs,.int k' b :: ws,by simp only[erL,er,er1,bg,e1,oMS],by simp only[erL,er,er1,bg,e2,oMS],?_⟩;simp only[bo,if_true,e3,oMS];rfl
         ·simp at h
        | _=>simp[X.eqAll] at h
       | _=>simp[X.eqAll] at h
      | b=>cases t with
       | bool=>cases u with
        | bool=>
         simp only[X.eqAll] at h;obtain⟨c',h1,rfl⟩:=cX h;obtain⟨vs,ws,e1,e2,e3⟩:=ih h1;refine⟨.bool a :: vs,.bool b :: ws,by simp only[erL,er,er1,bg,e1,oMS],by simp only[erL,er,er1,bg,e2,oMS],?_⟩;simp only[bo,e3,oMS];rfl
        | _=>simp[X.eqAll] at h
       | _=>simp[X.eqAll] at h
      | s=>cases t with
       | str=>cases u with
        | str=>
         simp only[X.eqAll] at h;obtain⟨c',h1,rfl⟩:=cX h;obtain⟨vs,ws,e1,e2,e3⟩:=ih h1;refine⟨.string a :: vs,.string b :: ws,by simp only[erL,er,er1,bg,e1,oMS],by simp only[erL,er,er1,bg,e2,oMS],?_⟩;simp only[bo,e3,oMS];rfl
        | _=>simp[X.eqAll] at h
       | _=>simp[X.eqAll] at h
     | _=>cases f<;>simp[X.eqAll] at h
    | _=>cases f<;>simp[X.eqAll] at h
theorem sF{f:Opd->XM den Option Y (XV den)}{g:Opd->SP β}{e:XV den->β}(h:∀x,Sim (f x) (g x) e):∀l:List Opd,Sim (X.mapM' f l) (Bi g l) (List.map e):=by
 intro l
 induction l with
 | nil=>exact .ret rfl
 | cons x l ih=>exact (h x).bind λy=>ih.bind λl'=>.ret rfl
def Ca(x:XV den):Value:=match x with | .d (.int k) n=>.int k n | _=>undef
theorem vC(t:XV den):Sim (Y:=Y) (X.intOf aO t) (j8 (er t)) Ca:=by
 cases t with
 | d t x=>cases t with
  | int k=>exact .ret rfl
  | _=>exact .fail
 | _=>exact .fail
theorem yK{mx:Bool}{k:IntKind}:∀{r:List (XV den)}{a m:Int},X.mmAll aO mx k a r=some m->kU mx k a (r.map Ca)=some m:=by
 intro r
 induction r with
 | nil=>intro a m h;exact h
 | cons x r ih=>
  intro a m h
  cases x with
  | d t b=>cases t with
   | int k'=>
    simp only[X.mmAll] at h;split at h
    ·rename_i hk;subst hk;have:=ih h;simp[Ca,kU];exact this
    ·simp at h
   | _=>simp[X.mmAll] at h
  | _=>simp[X.mmAll] at h
theorem vI(t:XV den):Sim (Y:=Y) (X.capOf aO t) (match er t with | .ptr p vs=>.ret (.ptr p vs) | .ip cs=>.ret (.ip cs) | .v x=>.ret (.v x) | .sl c=>.ret (.sl c) | _=>.fail) er:=by
 have Wk:Sim (Y:=Y) (if X.okCellX t && !X.isOwX t then X.ret t else X.fail aO) (match er t with | .ptr p vs=>.ret (.ptr p vs) | .ip cs=>.ret (.ip cs) | .v x=>.ret (.v x) | .sl c=>.ret (.sl c) | _=>.fail) er:=by
  refine Sim.ite (λh=>?_) λ_=>.fail;simp at h;rcases gp h.1 h.2 with ⟨y,hy⟩ | ⟨c,hc⟩
  ·rw[hy];exact .ret hy
  ·rw[hc];exact .ret hc
 cases t with
 | ptr p vs=>exact .ret rfl
 | ip cs=>exact .ret rfl
 | _=>exact Wk
theorem yM:∀{t:CT}{l r:List (XV den)}{x:den t},X.joinX aO t l=some (x,r)->erL l=enc t x++erL r:=by
 have one:∀{u:CT} (hu:X.oneT u=true) {l r:List (XV den)} {x:den u},X.joinC aO u l=some (x,r)->erL l=enc u x++erL r:=by
  intro u hu l r x h;unfold X.joinC at h;split at h
  ·rename_i t y r';have ⟨z,h1,h2⟩:=cX h
   injection h2 with h2 h3
   subst h2;subst h3;rw[jg hu,tE h1];rfl
  ·simp at h
 intro t
 induction t with
 | pair a b Zo Zi=>
  intro l r x h;simp[X.joinX] at h;split at h
  ·rename_i x1 r1 h1;split at h
   ·rename_i y1 r2 h2
    injection h with h
    injection h with h h3
    subst h;subst h3;rw[Zo h1,Zi h2,<- List.append_assoc];rfl
   ·simp at h
  ·simp at h
 | nat=>intro l r x h;simp[X.joinX] at h
 | int k=>intro l r x h;exact one rfl h
 | bool=>intro l r x h;exact one rfl h
 | str=>intro l r x h;exact one rfl h
 | row o t=>intro l r x h;exact one rfl h
 | nilr o=>intro l r x h;exact one rfl h
theorem nT{t:CT}{l:List (XV den)}{x:den t}(h:X.joinOne aO t l=some x):erL l=enc t x:=by
 unfold X.joinOne at h;split at h
 ·rename_i y h1
  injection h with h
  subst h;rw[yM h1];simp[erL]
 ·simp at h
theorem up{t:CT}:∀{ls:List (List (XV den))}{xs:List (den t)},X.joinAll aO t ls=some xs->ls.map erL=xs.map (enc t):=by
 intro ls
 induction ls with
 | nil=>intro xs h;simp[X.joinAll] at h;subst h;rfl
 | cons l ls ih=>
  intro xs h;simp[X.joinAll] at h;split at h
  ·rename_i x xs' h1 h2
   injection h with h
   subst h;simp only[List.map_cons];rw[nT h1,ih h2]
  ·simp at h
theorem yv{ZI:Option CT}{ls:List (List (XV den))}{v:XV den}(h:X.rowOf aO ZI ls=some v):er v=.ow (ls.map erL):=by
 unfold X.rowOf at h;split at h
 ·injection h with h;subst h;rfl
 ·split at h
  ·obtain⟨es,h1,rfl⟩:=cX h;rw[up h1];rfl
  ·simp at h
theorem yx{ZI:Option CT}{n:Nat}{l:List (XV den)}{v:XV den}(h:X.repOf aO ZI n l=some v):er v=.ow (List.replicate n (erL l)):=by
 unfold X.repOf at h;split at h
 ·obtain⟨e,h1,rfl⟩:=cX h;rw[nT h1];show TV.ow (List.map _ (List.replicate n e))=_
  simp_all
 ·simp at h
theorem jj(t:CT) (xs:List (den t)):(List.map (enc t) xs).all (λe=>e.length==dT t)=true:=by
 simp[bZ]
theorem zi{sz bytes:Nat}{c c2:List (List TV)}(h1:c.all (λe=>e.length==sz)=true) (h2:c2.all (λe=>e.length==sz)=true) (h:bK bytes c.length c2.length=true) :
 ((c++c2).all (λe=>e.length==sz) && decide (c.length+c2.length<=1099511627776) && decide ((c.length+c2.length)*bytes<=140737488355328))=true:=by
 rw[List.all_append,h1,h2];simpa [bK] using h
theorem zt(d sz bytes:Nat) (ZI:Option CT) (s x:XV den):Sim (Y:=Y) (X.appX aO d sz bytes ZI s x) (match er s,er x with
 | .ow c,.ow c2=>if (c++c2).all (λe=>e.length==sz) && decide (c.length+c2.length<=1099511627776) && decide ((c.length+c2.length)*bytes<=140737488355328) then inst d false [.ow (c++c2)] else .fail
 | .ow c,.sl c2=>if (c++c2).all (λe=>e.length==sz) && decide (c.length+c2.length<=1099511627776) && decide ((c.length+c2.length)*bytes<=140737488355328) then inst d false [.ow (c++c2)] else .fail
 | _,_=>.fail) id:=by
 have ZY:∀{t:CT} {c c3:List (den t)} {c' Wj:List (List TV)} {a:XV den},dT t=sz\/(c'=[]/\Wj=[])->c'=c.map (enc t)->Wj=c3.map (enc t)->er a=.ow (c'++Wj)->bK bytes c'.length Wj.length=true ->
  Sim (Y:=Y) (X.inst aO d false [a]) (if (c'++Wj).all (λe=>e.length==sz) && decide (c'.length+Wj.length<=1099511627776) && decide ((c'.length+Wj.length)*bytes<=140737488355328) then inst d false [.ow (c'++Wj)] else .fail) id:=by
  intro t c c3 c' Wj a hsz e1 e2 ea hok;rw[oIP]
  ·exact eo d false (by simp only[erL,ea])
  ·refine zi ?_ ?_ hok
   ·rcases hsz with hsz | ⟨h1,h2⟩
    ·rw[e1,<- hsz];exact jj t c
    ·rw[h1];rfl
   ·rcases hsz with hsz | ⟨h1,h2⟩
    ·rw[e2,<- hsz];exact jj t c3
    ·rw[h2];rfl
 cases s with
 | d ts c=>cases ts with
  | row ow t=>cases ow with
   | false=>exact .fail
   | true=>cases x with
    | d tx c2=>cases tx with
     | row o t2=>
      refine Sim.ite (λhsz=>Sim.opt λc3 h3=>Sim.br λhok=>?_) λ_=>.fail;have h4:=sf h3;have hok:bK bytes (List.length c) (List.length c2)=true:=hok
      have h5:List.map (enc t2) (c2:List (den t2))=List.map (enc t) (c3:List (den t)):=by
       cases o with
       | true=>
        have h6:=h4
        injection h6 with h6
        injection h6 with h6
        exact h6.symm
       | false=>
        have h6:=h4
        injection h6 with h6
        injection h6 with h6
        exact h6.symm
      cases o<;>exact ZY (t:=t) (c:=c) (c3:=c3) (.inl hsz) rfl h5 (by show TV.ow (List.map (enc t) (List.append c c3))=_;rw[h5,<- List.map_append];rfl) (by simpa using hok)
     | nilr o=>
      refine Sim.ite (λhsz=>Sim.br λhok=>?_) λ_=>.fail;have hok:bK bytes (List.length c) 0=true:=hok;cases o<;>exact ZY (t:=t) (c:=c) (c3:=[]) (.inl hsz) rfl rfl (by simp[er,er1]) (by simpa using hok)
     | _=>exact .fail
    | _=>exact .fail
  | nilr ow=>cases ow with
   | false=>exact .fail
   | true=>cases x with
    | d tx c2=>cases tx with
     | row o t2=>
      refine Sim.ite (λhsz=>Sim.opt λc3 h3=>Sim.br λhok=>?_) λ_=>.fail;have h4:=sf h3;have hok:bK bytes 0 (List.length c2)=true:=hok
      have h5:List.map (enc t2) (c2:List (den t2))=List.map (enc (X.resT ZI t2)) (c3:List (den (X.resT ZI t2))):=by
       cases o with
       | true=>
        have h6:=h4
        injection h6 with h6
        injection h6 with h6
        exact h6.symm
       | false=>
        have h6:=h4
        injection h6 with h6
        injection h6 with h6
        exact h6.symm
      cases o<;>exact ZY (t:=t2) (c:=[]) (c3:=c2) (.inl hsz) rfl rfl (by show TV.ow (List.map (enc (X.resT ZI t2)) (List.append [] c3))=_;rw[h5];rfl) (by simpa using hok)
     | nilr o=>
      refine Sim.br λhok=>?_;have hok:bK bytes 0 0=true:=hok;cases o<;>exact ZY (t:=.bool) (c:=[]) (c3:=[]) (.inr ⟨rfl,rfl⟩) rfl rfl rfl hok
     | _=>exact .fail
    | _=>exact .fail
  | _=>exact .fail
 | _=>exact .fail
end
section
variable {α β γ δ Y:Type}
theorem lB{x:Opd}{σ:XS den}{k:XV den->XS den->Option Y}{y:Y}(h:X.opd aO x σ k=some y):∃t σ',(opd x).run (erS σ)=some (er t,erS σ)/\erS σ'=erS σ/\ge σ σ' ((opd x).foot (erS σ))/\k t σ'=some y:=by
 have ⟨t,σ',h1,h2,h3⟩:=kg x σ k y h
 have e:erS σ'=erS σ:=by
  cases x with
  | t i=>simp[opd,SP.run] at h1;exact h1.2.symm
  | c v=>simp[opd,SP.run] at h1;exact h1.2.symm
  | f f=>simp[opd,SP.run] at h1;exact h1.2.symm
 rw[e] at h1;exact⟨t,σ',h1,e,h2,h3⟩
theorem lG{t:CT}(h:X.flat1 t=true):∀x:den t,∃v,er (.d t x)=.v v:=by
 cases t<;>simp[X.flat1] at h
 all_goals exact λx=>⟨_,rfl⟩
theorem yE{d:Nat}{tc ta tb:XV den}{σ:XS den}{k:Unit->XS den->Option Y}{y:Y}(h:X.pickX aO d tc ta tb σ k=some y):∃c v t,er tc=.v (.bool c)/\er (if c then ta else tb)=.v v/\er t=.v v/\X.wr aO d t σ k=some y:=by
 unfold X.pickX at h;split at h
 ·rename_i c k1 x k2 z;split at h
  ·rename_i hk;subst hk;refine⟨c,.int k2 (bif c then x else z),_,rfl,?_,rfl,h⟩;cases c<;>rfl
  ·cases h
 ·rename_i c x z;refine⟨c,.bool (bif c then x else z),_,rfl,?_,rfl,h⟩;cases c<;>rfl
 ·rename_i c x z;refine⟨c,.string (bif c then x else z),_,rfl,?_,rfl,h⟩;cases c<;>rfl
 ·split at h
  ·rename_i hf
   rename den .bool=>c
   cases c with
   | true=>exact⟨true,_,_,rfl,(lG hf _).choose_spec,(lG hf _).choose_spec,h⟩
   | false=>cases h
  ·cases h
 ·split at h
  ·rename_i hf
   rename den .bool=>c
   cases c with
   | false=>exact⟨false,_,_,rfl,(lG hf _).choose_spec,(lG hf _).choose_spec,h⟩
   | true=>cases h
  ·cases h
 ·cases h
theorem zS(HT:List (Nat×CT)) (d:Nat) (c a b:Opd):Sim (Y:=Y) (X.ev1 aO HT d (.pick c a b)) (ev1 d (.pick c a b)) id:=by
 intro σ k y hk;obtain⟨tc,σ1,r1,e1,n1,hk⟩:=lB (show X.opd aO c σ (λtc σ1=>X.opd aO a σ1 λta σ2=>X.opd aO b σ2 λtb σ3=>X.pickX aO d tc ta tb σ3 k)=some y from hk);obtain⟨ta,σ2,r2,e2,n2,hk⟩:=lB hk;obtain⟨tb,σ3,r3,e3,n3,hk⟩:=lB hk;obtain⟨cv,v,t,h1,h2,h3,hk⟩:=yE hk;obtain⟨u,σ',r4,n4,hk⟩:=bh d h3 σ3 k y hk
 have Ri:erS σ3=erS σ:=by rw[e3,e2,e1]
 have hx:(opd (if cv then a else b)).run (erS σ)=some (.v v,erS σ)/\ge σ1 σ3 ((opd (if cv then a else b)).foot (erS σ)):=by
  rw[e1] at r2 n2;rw[e2,e1] at r3 n3
  cases cv with
  | true=>exact⟨by simp_all,⟨λx hx=>n3.r0 x (n2.r x hx),λx hx=>n3.w0 x (n2.w x hx),λx hx=>n3.r0 x (n2.r0 x hx),λx hx=>n3.w0 x (n2.w0 x hx)⟩⟩
  | false=>exact⟨by simp_all,⟨λx hx=>n3.r x hx,λx hx=>n3.w x hx,λx hx=>n3.r0 x (n2.r0 x hx),λx hx=>n3.w0 x (n2.w0 x hx)⟩⟩
 obtain⟨Z4,Xq⟩:=hx
 have rc:(opd c).run (erS σ)=some (.v (.bool cv),erS σ):=by rw[r1,h1]
 refine⟨(),σ',?_,?_,hk⟩
 ·simp only[ev1];rw[SP.run_bind,rc];simp;rw[SP.run_bind,Z4]
  simp_all
 ·simp only[ev1];rw[be _ _ rc];simp only;rw[be _ _ Z4];rw[Ri] at n4;refine⟨λx hx=>?_,λx hx=>?_,λx hx=>n4.r0 x (Xq.r0 x (n1.r0 x hx)),λx hx=>n4.w0 x (Xq.w0 x (n1.w0 x hx))⟩
  ·rcases List.mem_append.1 hx with hx | hx
   ·exact n4.r0 x (Xq.r0 x (n1.r x hx))
   ·rcases List.mem_append.1 hx with hx | hx
    ·exact n4.r0 x (Xq.r x hx)
    ·exact n4.r x hx
  ·rcases List.mem_append.1 hx with hx | hx
   ·exact n4.w0 x (Xq.w0 x (n1.w x hx))
   ·rcases List.mem_append.1 hx with hx | hx
    ·exact n4.w0 x (Xq.w x hx)
    ·exact n4.w x hx
theorem wJ{n:Option Nat}{cs:List (XV den)}{t:XV den}(h:X.loadIp n cs=some t):loadIp n (erL cs)=some (er t):=by
 cases n with
 | none=>
  cases cs with
  | nil=>simp[X.loadIp] at h
  | cons x cs=>
   have ZY:(if X.okCellX x && !X.isOwX x then some x else none)=some t->loadIp none (erL (x :: cs))=some (er t):=λh=>by
    split at h
    ·rename_i hc
     injection h with h
     subst h;simp at hc;rcases gp hc.1 hc.2 with ⟨y,hy⟩ | ⟨c,hc⟩
     ·simp only[loadIp,erL,hy]
     ·simp only[loadIp,erL,hc]
    ·simp at h
   cases x with
   | ip l=>simp only[X.loadIp,oSJ] at h;subst h;rfl
   | fn f l=>simp only[X.loadIp,oSJ] at h;subst h;rfl
   | _=>exact ZY h
 | some n=>
  simp only[X.loadIp] at h;split at h
  ·rename_i hc
   injection h with h
   subst h;simp only[oBA,oDE] at hc;simp only[loadIp];rw[oIP]
   ·simp only[er,iN]
   ·simp only[oBA,oDE];refine⟨by rw[b9];exact hc.1,?_⟩;rw[<- iN,dQ,List.all_map,List.all_eq_true];intro x hx;have:=List.all_eq_true.1 hc.2 x hx;simp at this;simp;rcases gp this.1 this.2 with ⟨y,hy⟩ | ⟨c,hc⟩
    ·rw[hy]
    ·rw[hc]
  ·simp at h
theorem mB:∀{t:CT}(x:den t),X.flatT t=true->∃vs,bg (enc t x)=some vs/\vs.length=dT t/\(vs.all cS=true)/\enc t x=vs.map TV.v/\0 < dT t:=by
 intro t
 induction t with
 | int k=>intro x _;exact⟨[.int k x],rfl,rfl,rfl,rfl,Nat.one_pos⟩
 | bool=>intro x _;exact⟨[.bool x],rfl,rfl,rfl,rfl,by decide⟩
 | str=>intro x _;exact⟨[.string x],rfl,rfl,rfl,rfl,by decide⟩
 | pair a b Zo Zi=>
  intro x h;simp only[X.flatT,oBA] at h;obtain⟨vs,e1,e2,e3,e4,e5⟩:=Zo x.1 h.1;obtain⟨ws,f1,f2,f3,f4,f5⟩:=Zi x.2 h.2;refine⟨vs++ws,?_,by simp[e2,f2,dT],by simp_all,by show enc a x.1++enc b x.2=_;rw[e4,f4];simp,by simp[dT];omega⟩;show bg (enc a x.1++enc b x.2)=_;rw[e4,f4]
  have:∀l:List Value,bg (l.map TV.v)=some l:=by
   intro l
   induction l with
   | nil=>rfl
   | cons y l ih=>simp[bg,ih]
  rw[<- List.map_append,this]
 | _=>intro x h;simp[X.flatT] at h
theorem wy(sz:Nat) (h0:0 < sz):∀(vs:List Value) (c:List (List TV)) (lo j:Nat) (rest:List Value),j+vs.length=sz->(∀el,c[lo]?=some el->el.length=sz)->gq sz c (lo*sz+j) (vs++rest)=gq sz (c.modify lo λel=>el.take j++vs.map TV.v) ((lo+1)*sz) rest:=by
 intro vs
 induction vs with
 | nil=>
  intro c lo j rest hj Zj
  have hj:j=sz:=by simpa using hj
  subst hj;simp
  have e:(c.modify lo λel=>el.take j)=c:=by
   apply List.ext_getElem?;intro i;rw[List.getElem?_modify];by_cases h:lo=i
   ·subst h
    cases hc:c[lo]? with
    | none=>rfl
    | some el=>simp only[if_true];show some (el.take j)=some el;rw[List.take_of_length_le (by rw[Zj el hc];exact Nat.le_refl _)]
   ·simp only[oIN h];cases c[i]?<;>rfl
  rw[e,Nat.succ_mul]
 | cons v vs ih=>
  intro c lo j rest hj Zj;simp only[oLC] at hj
  have hjs:j < sz:=by omega
  show gq sz (c.modify ((lo*sz+j) / sz) λel=>el.modify ((lo*sz+j) % sz) λ_=>.v v) (lo*sz+j+1) (vs++rest)=_
  have e1:(lo*sz+j) / sz=lo:=by rw[Nat.mul_comm,Nat.mul_add_div h0,Nat.div_eq_of_lt hjs];rfl
  have e2:(lo*sz+j) % sz=j:=by rw[Nat.mul_comm,Nat.mul_add_mod,Nat.mod_eq_of_lt hjs]
  rw[e1,e2,show lo*sz+j+1=lo*sz+(j+1) by omega]
  have VF:∀el,(c.modify lo λel=>el.modify j λ_=>.v v)[lo]?=some el->el.length=sz:=by simp_all
  rw[ih _ lo (j+1) rest (by omega) VF];congr 1;apply List.ext_getElem?;intro i;simp only[List.getElem?_modify];by_cases h:lo=i
  ·subst h;simp only[if_true]
   cases hc:c[lo]? with
   | none=>rfl
   | some el=>
    simp only[Option.map_eq_map,oMS,oSJ];have hl:=Zj el hc;apply List.ext_getElem?;intro m;simp only[List.map_cons];by_cases hm:m < j
    ·rw[List.getElem?_append_left (by rw[oLT,oLM];omega),List.getElem?_append_left (by rw[oLT];omega),List.getElem?_take,List.getElem?_take,oIP (by omega),oIP (by omega),List.getElem?_modify]
     have:¬ j=m:=by omega
     simp only[this,if_false];simp
    ·by_cases hm2:m=j
     ·subst hm2;rw[List.getElem?_append_left (by rw[oLT,oLM];omega),List.getElem?_append_right (by rw[oLT];omega),List.getElem?_take,oIP (by omega),List.getElem?_modify,oLT]
      have:m - min m el.length=0:=by omega
      rw[this]
      have h3:m < el.length:=by omega
      rw[oGE h3];simp
     ·rw[List.getElem?_append_right (by rw[oLT,oLM];omega),List.getElem?_append_right (by rw[oLT];omega),oLT,oLT,oLM]
      have:m - min j el.length=(m - min (j+1) el.length)+1:=by omega
      rw[this,List.getElem?_cons_succ]
  ·simp only[oIN h];cases c[i]?<;>rfl
theorem ug{t:CT}(hf:X.flatT t=true):∀(ys xs:List (den t)) (lo:Nat) (vals:List Value),bg ((ys.map (enc t)).flatten)=some vals->lo+ys.length<=xs.length->gq (dT t) (xs.map (enc t)) (lo*dT t) vals=(xs.take lo++ys++xs.drop (lo+ys.length)).map (enc t):=by
 intro ys
 induction ys with
 | nil=>
  intro xs lo vals h hl;simp only[List.map_nil,List.flatten_nil,bg,oSJ] at h;subst h;simp[gq]
 | cons y ys ih=>
  intro xs lo vals h hl;simp only[oLC] at hl;obtain⟨vs,e1,e2,e3,e4,e5⟩:=mB y hf
  obtain⟨ws,h2,rfl⟩:∃ws,bg ((ys.map (enc t)).flatten)=some ws/\vals=vs++ws:=by
   simp only[List.map_cons,List.flatten_cons,e4] at h
   have:∀(l:List Value) (r:List TV),bg (l.map TV.v++r)=(bg r).map (l++·):=by
    intro l r
    induction l with
    | nil=>simp
    | cons z l ih=>simp only[List.map_cons,List.cons_append,bg,ih];cases bg r<;>rfl
   rw[this] at h;obtain⟨ws,h3,h4⟩:=cX h
   simp_all
  have:=wy (dT t) e5 vs (xs.map (enc t)) lo 0 ws (by omega) (λel Zj=>by
   rw[List.getElem?_map] at Zj
   cases hx:xs[lo]? with
   | none=>rw[hx] at Zj;simp at Zj
   | some z=>rw[hx] at Zj;simp only[oMS,oSJ] at Zj;rw[<- Zj,bZ])
  rw[Nat.add_zero] at this;rw[this]
  have e6:((xs.map (enc t)).modify lo λel=>el.take 0++vs.map TV.v)=(xs.set lo y).map (enc t):=by
   apply List.ext_getElem?;intro i;by_cases hi:lo=i
   ·subst hi
    have hlt:lo < xs.length:=by omega
    simp[hlt,e4]
   ·simp[hi]
  rw[e6,ih (xs.set lo y) (lo+1) ws h2 (by rw[List.length_set];omega)];congr 1;rw[List.take_set,List.drop_set,oIP (by omega)]
  have:(xs.take (lo+1)).set lo y=xs.take lo++[y]:=by
   rw[List.take_succ_eq_append_getElem (by omega:lo < xs.length),List.set_append_right _ _ (by rw[oLT];omega)];congr 1
   have:lo - (xs.take lo).length=0:=by rw[oLT];omega
   rw[this];rfl
  rw[this];simp;rw[show lo+1+ys.length=lo+(ys.length+1) by omega]
end
section
variable {α β γ δ Y:Type}
theorem lP{c:Bool}{m m':XM den Option Y α}{s:SP β}{f:α->β}(h:c=true->Sim m s f) (h':c=false->Sim m' s f):Sim (X.forkM aO c m m') s f:=by
 intro σ k y hk
 cases c with
 | true=>exact h rfl σ k y hk
 | false=>exact h' rfl σ k y hk
def uE(v:XV den):List (List TV):=match er v with | .sl c=>c | .ow c=>c | _=>[]
theorem nD(t:XV den):Sim (Y:=Y) (X.contentOf aO t) (contentOf (er t)) uE:=by
 cases t with
 | d t x=>cases t with
  | row o t=>cases o with
   | false=>exact .ret rfl
   | true=>exact .fail
  | nilr o=>cases o<;>exact .ret rfl
  | _=>exact .fail
 | pk p vs=>
  refine (co p _ vs).bind λ_=>(dM p).bind λt=>?_
  cases t with
  | d t x=>cases t with
   | row o t=>cases o with
    | true=>exact .ret rfl
    | false=>exact .fail
   | nilr o=>cases o with
    | true=>exact .ret rfl
    | false=>exact .fail
   | _=>exact .fail
  | _=>exact .fail
 | pw p vs sz lo n=>
  refine (co p _ vs).bind λ_=>(dM p).bind λt=>?_
  cases t with
  | d t x=>cases t with
   | row o t=>cases o with
    | true=>
     refine .ret ?_;show List.map (enc t) ((List.drop lo x).take n)=((List.map (enc t) x).drop lo).take n
     simp_all
    | false=>exact .fail
   | _=>exact .fail
  | _=>exact .fail
 | _=>exact .fail
theorem wa{t:CT}(hf:X.flatT t=true):∀zs:List (den t),∃vals,bg ((zs.map (enc t)).flatten)=some vals/\vals.all cS=true/\(zs≠[]->∃v vs,vals=v :: vs)/\(zs=[]->vals=[]):=by
 intro zs
 induction zs with
 | nil=>exact⟨[],rfl,rfl,λh=>absurd rfl h,λ_=>rfl⟩
 | cons z zs ih=>
  obtain⟨ws,h1,h2,_⟩:=ih;obtain⟨vs,e1,e2,e3,e4,e5⟩:=mB z hf
  have:∀(l:List Value) (r:List TV),bg (l.map TV.v++r)=(bg r).map (l++·):=by
   intro l r
   induction l with
   | nil=>simp
   | cons z l ih=>simp[List.map_cons,bg,ih];cases bg r<;>rfl
  refine⟨vs++ws,?_,by simp_all,λ_=>?_,λh=>by simp at h⟩
  ·simp_all
  ·cases vs with
   | nil=>simp_all
   | cons v vs=>simp_all
theorem wM{t:CT}(hf:X.flatT t=true) (x:den t):(enc t x).all isV=true:=by
 have ⟨vs,_,_,_,e4,_⟩:=mB x hf;rw[e4,List.all_map,List.all_eq_true];intro y _;rfl
theorem xe{t:CT}(hf:X.flatT t=true) (xs ys:List (den t)) (lo n:Nat) (YV:lo+min ys.length n<=xs.length) :
 za (dT t) (xs.map (enc t)) (ys.map (enc t)) lo n=if 0 < min ys.length n then some (min ys.length n,some ((vb xs lo (min ys.length n) ys).map (enc t))) else some (min ys.length n,none):=by
 obtain⟨vals,h1,h2,h3,h4⟩:=wa hf (ys.take (min ys.length n))
 have e5:0 < dT t:=by
  clear h1 h2 h3 h4 YV
  induction t with
  | pair a b Zo Zi=>
   simp only[X.flatT,oBA] at hf;simp only[dT];have:=Zo hf.1 [] [];omega
  | int k=>exact Nat.one_pos
  | bool=>exact Nat.one_pos
  | str=>exact Nat.one_pos
  | _=>simp[X.flatT] at hf
 unfold za;rw[List.length_map,<- List.map_take,h1];by_cases hm:0 < min ys.length n
 ·rw[oIP hm];obtain⟨v,vs,hv⟩:=h3 (by intro h;have:=congrArg List.length h;rw[oLT,List.length_nil] at this;omega);rw[hv];simp only;rw[oIP,<- hv]
  ·have hp:=ug hf (ys.take (min ys.length n)) xs lo vals h1 (by rw[oLT];omega);rw[hp]
   have e:(List.take (min ys.length n) ys).length=min ys.length n:=by rw[oLT];omega
   rw[e];rfl
  ·simp only[oBA,oDE];refine⟨⟨⟨⟨⟨e5,jj t xs⟩,jj t ys⟩,by rw[List.length_map];exact YV⟩,?_⟩,by rw[<- hv];exact h2⟩;rw[<- List.map_drop,<- List.map_take,List.all_map,List.all_eq_true];intro x _;exact wM hf x
 ·rw[oIN hm]
  have:ys.take (min ys.length n)=[]:=by simp_all
  rw[h4 this];rw[oIP];simp only[oBA,oDE];exact⟨e5,jj t ys⟩
theorem zr(d sz:Nat) (p:XP den) (lo:Nat) (n:Option Nat) (tv c2:XV den):Sim (Y:=Y) (X.cpyX aO d sz p lo n tv c2) (match aY (er tv) p.hops with | some (.ow c)=>pd d (erP p) (er tv) (za sz c (uE c2) lo (n.getD c.length)) | _=>.fail) id:=by
 refine ly λv hv=>?_;rw[hv]
 cases v with
 | d tt x=>cases tt with
  | row o t=>cases o with
   | false=>exact .fail
   | true=>cases c2 with
    | d t2 y=>cases t2 with
     | row o2 t2=>
      by_cases hc:iY t2 t=true/\dT t=sz/\X.flatT t=true
      ·have he:=jR hc.1;subst he;show Sim (if h:iY t2 t2=true/\dT t2=sz/\X.flatT t2=true then _ else _) _ id;rw[dif_pos hc];refine Sim.opt λYJ htv=>Sim.br λhok=>?_
       have hok:dy lo (lo+min (List.length (y:List (den t2))) (n.getD (List.length (x:List (den t2))))) (List.length (x:List (den t2)))=true:=by
        have h9:=hok;cases n<;>exact h9
       have YV:lo+min (List.length (y:List (den t2))) (n.getD (List.length (x:List (den t2))))<=List.length (x:List (den t2)):=by
        simp only[dy,oBA,oDE] at hok;exact hok.2
       have Ug:uE (.d (.row o2 t2) y:XV den)=List.map (enc t2) (y:List (den t2)):=by cases o2<;>rfl
       have Yq:er (.d (.row true t2) x:XV den)=.ow (List.map (enc t2) (x:List (den t2))):=rfl;rw[Yq,Ug];simp only[List.length_map];rw[<- hc.2.1,xe hc.2.2 x y lo _ YV];have hset:=Au htv;refine lP (λhb=>?_) λhb=>?_
       ·have hb:Nat.blt 0 (min (List.length (y:List (den t2))) (n.getD (List.length (x:List (den t2)))))=true:=by cases n<;>exact hb
        rw[oIP (by simp_all)];refine Sim.wrC ?_ (bh d ?_)
        ·rw[hset];cases n<;>rfl
        ·cases n<;>rfl
       ·have hb:Nat.blt 0 (min (List.length (y:List (den t2))) (n.getD (List.length (x:List (den t2)))))=false:=by cases n<;>exact hb
        rw[oIN (by intro h;rw[Bool.eq_false_iff] at hb;exact hb (by simpa using h))];refine bh d ?_;cases n<;>rfl
      ·show Sim (if h:iY t2 t=true/\dT t=sz/\X.flatT t=true then _ else _) _ id;rw[dif_neg hc];exact .fail
     | nilr o2=>
      refine Sim.ite (λh0=>?_) λ_=>.fail
      have Ug:uE (.d (.nilr o2) y:XV den)=[]:=by cases o2<;>rfl
      have Yq:er (.d (.row true t) x:XV den)=.ow (List.map (enc t) (x:List (den t))):=rfl;rw[Yq,Ug]
      have:za sz (List.map (enc t) (x:List (den t))) [] lo (n.getD (List.map (enc t) (x:List (den t))).length)=some (0,none):=by
       simp[za,bg,h0]
      simp only[this];exact bh d rfl
     | _=>exact .fail
    | _=>exact .fail
  | _=>exact .fail
 | _=>exact .fail
end
section
variable {α β γ δ Y:Type}
theorem aQ{x:Opd}{g:XV den->XM den Option Y γ}{h:TV->SP δ}{f:γ->δ}(H:∀t,Sim (g t) (h (er t)) f):Sim (X.bind (X.opd aO x) g) ((opd x).bind h) f:=(kg x).bind H
theorem vH(k:Nat) {s:SP β}{f:α->β}:∀(n:Nat) (g:Nat->XM den Option Y α) (i:Nat),(∀j,i<=j->j < i+n->k=j->Sim (g j) s f)->Sim (X.caseM aO k n g i) s f:=by
 intro n
 induction n with
 | zero=>intro g i _;exact .fail
 | succ n ih=>
  intro g i h;refine lP (λhb=>h i (Nat.le_refl _) (by omega) ?_) λhb=>ih g (i+1) λj h1 h2 h3=>h j (by omega) (by omega) h3;have hb:Nat.beq k i=true:=hb
  simp_all
theorem Bq(HT:List (Nat×CT)) (d:Nat) (op:TOp):Sim (Y:=Y) (X.ev1 aO HT d op) (ev1 d op) id:=by
 cases op with
 | mov x=>
  refine aQ λt=>?_
  cases t with
  | d t y=>
   cases ho:X.isOwT t with
   | true=>
    obtain⟨c,hc⟩:=fT (v:=.d t y) ho;rw[hc];show Sim (if X.isOwT t then _ else _) _ id;rw[oIP ho]
    cases x with
    | c v=>exact eo d false (by simp only[erL,hc])
    | _=>exact .fail
   | false=>
    show Sim (if X.isOwT t then _ else _) _ id;rw[oIN (by rw[ho];simp)]
    have h1:fI (er (.d t y))=false:=by rw[jI];exact ho
    cases t with
    | row o t=>cases o<;>first | exact bh d rfl | simp[X.isOwT] at ho
    | nilr o=>cases o<;>first | exact bh d rfl | simp[X.isOwT] at ho
    | _=>exact bh d rfl
  | agg l=>
   show Sim (if l.any X.isOwX then _ else _) (if (erL l).any fI then .fail else wr d (.agg (erL l))) id;rw[zQ];refine Sim.ite (λ_=>.fail) λh=>?_;rw[oIN h];exact bh d rfl
  | gap=>exact .fail
  | _=>exact bh d rfl
 | asn mv x=>
  refine aQ λt=>?_
  cases t with
  | ptr p vs=>exact bh d rfl
  | ip cs=>exact bh d rfl
  | fn f cap=>exact bh d rfl
  | d t y=>
   cases t with
   | row o t=>cases o<;>exact (ii mv (.d _ y)).bind λl=>eo d l.2 rfl
   | nilr o=>cases o<;>exact (ii mv (.d _ y)).bind λl=>eo d l.2 rfl
   | _=>exact (ii mv (.d _ y)).bind λl=>eo d l.2 rfl
  | _=>exact (ii mv _).bind λl=>eo d l.2 rfl
 | pick c a b=>exact zS HT d c a b
 | alloc z=>
  refine Sim.ite (λh=>?_) λ_=>.fail;show Sim _ (if (z.map b7).all bG then _ else _) id;rw[oIP (kq h)];exact Sim.new (lL z) (Sim.rdV λg=>bh d rfl)
 | box n mv x=>
  refine aQ λt=>?_;rw[jS];refine (gh mv _).bind λl=>Sim.ite (λh=>?_) λ_=>.fail;rw[oIP (by rw[b9];exact h)];exact Sim.new rfl (Sim.rdV λg=>bh d rfl)
 | boxi n x=>
  refine aQ λt=>?_;refine Sim.ite (λh=>?_) λ_=>Sim.ite (λh=>?_) λ_=>.fail
  ·rw[oIP (yO h)];refine Sim.ite (λhn=>?_) λ_=>.fail;rw[oIP hn];exact bh d rfl
  ·rw[oIN (AO h)];rw[jS];refine (gh false _).bind λl=>Sim.opt λl' hl=>Sim.ite (λhn=>?_) λ_=>.fail;rw[oIP (by rw[b9];exact hn)];exact bh d (by simp only[er,s7 hl])
 | load n a=>
  refine aQ λt=>?_
  cases t with
  | ptr p vs=>
   refine (co p _ vs).bind λ_=>?_
   cases n with
   | none=>exact (vu p).bind λt'=>bh d rfl
   | some n=>exact (pG p n).bind λl=>bh d rfl
  | ip cs=>
   simp only[er]
   cases h:X.loadIp n cs with
   | none=>exact .fail
   | some t=>simp only[wJ h];exact bh d rfl
  | _=>exact .fail
 | store n mv a x=>
  refine aQ λta=>?_
  cases ta with
  | ptr p vs=>
   refine aQ λtx=>?_;rw[jS];refine (gh mv _).bind λl=>Sim.ite (λh=>?_) λ_=>.fail;rw[oIP (by rw[b9];exact h)];exact (co p _ vs).bind λ_=>sE p l
  | _=>exact .fail
 | nilc x=>
  refine aQ λt=>?_
  cases t with
  | ptr p vs=>exact (co p _ vs).bind λ_=>bh d rfl
  | ip cs=>exact bh d rfl
  | fn f cap=>exact bh d rfl
  | _=>exact .fail
 | fld off a=>
  refine aQ λt=>?_
  cases t with
  | ptr p vs=>
   refine (co p _ vs).bind λ_=>Sim.ite (λh=>?_) λ_=>.fail;rw[oIP (by rw[<- o9];exact h)];exact bh d (by simp only[er,rP])
  | ip cs=>
   refine Sim.ite (λh=>?_) λ_=>.fail;show Sim _ (if off < (erL cs).length then _ else _) id;rw[oIP (by rw[b9];exact h)];exact bh d (by simp only[er,jQ])
  | _=>exact .fail
 | fldv off n x=>
  refine aQ λt=>?_
  cases t with
  | agg l=>
   cases n with
   | none=>
    refine Sim.ite (λh=>?_) λ_=>.fail;show Sim _ (if off < (erL l).length then _ else _) id;rw[oIP (by rw[b9];exact h)];exact bh d (lH l off)
   | some n=>
    refine Sim.ite (λh=>?_) λ_=>.fail;show Sim _ (if off+n<=(erL l).length then _ else _) id;rw[oIP (by rw[b9];exact h)];exact bh d (by simp only[er,iN,jQ])
  | _=>exact .fail
 | idx sz x i=>
  refine aQ λt=>aQ λti=>(gi ti).bind λk=>?_
  cases t with
  | pk p vs=>
   refine (co p _ vs).bind λ_=>(sG p).bind λt=>?_
   cases t with
   | d tt x=>cases tt with
    | row o t=>cases o with
     | false=>exact .fail
     | true=>
      refine Sim.ite (λh=>?_) λ_=>.fail;refine Sim.get λe he=>?_
      have hk:k < (x:List (den t)).length:=by
       rcases Nat.lt_or_ge k (x:List (den t)).length with h | h
       ·exact h
       ·rw[oGN h] at he;cases he
      show Sim _ (if k < (List.map List.length (List.map (enc t) (x:List (den t)))).length && (List.map List.length (List.map (enc t) (x:List (den t)))).getD k 0==sz && decide (0 < sz) then _ else _) id;rw[mz,oIP]
      ·exact bh d rfl
      ·simp only[oBA,oDE,beq_iff_eq,List.length_map];refine⟨⟨hk,?_⟩,h.2⟩;rw[oGD,List.getElem?_map,he];simp[bZ,h.1]
    | _=>exact .fail
   | gap t x i' o'=>
    refine Sim.ite (λh=>?_) λ_=>.fail;refine Sim.get λe he=>?_
    have hk:k < (x:List (den t)).length:=by
     rcases Nat.lt_or_ge k (x:List (den t)).length with h | h
     ·exact h
     ·rw[oGN h] at he;cases he
    have S3:(er (.gap t x i' o':XV den)).hd=some (List.map List.length (List.map (enc t) (x:List (den t)))):=mu (hs:=[(i',0,o')]) (by simp);rw[S3];show Sim _ (if k < (List.map List.length (List.map (enc t) (x:List (den t)))).length && (List.map List.length (List.map (enc t) (x:List (den t)))).getD k 0==sz && decide (0 < sz) then _ else _) id;rw[mz,oIP]
    ·exact bh d rfl
    ·simp only[oBA,oDE,beq_iff_eq,List.length_map];refine⟨⟨hk,?_⟩,h.2⟩;rw[oGD,List.getElem?_map,he];simp[bZ,h.1]
   | _=>exact .fail
  | pw p vs sz' lo n=>
   refine (co p _ vs).bind λ_=>(dM p).bind λt=>?_
   cases t with
   | d tt x=>cases tt with
    | row o t=>cases o with
     | false=>exact .fail
     | true=>
      refine Sim.ite (λh=>?_) λ_=>.fail;refine Sim.br λhb=>Sim.get λe he=>?_;have hb:Nat.blt k n=true:=hb
      have hb:k < n:=by simpa using hb
      have he:(x:List (den t))[lo+k]?=some e:=he;show Sim _ (if k < n && ((List.map (enc t) (x:List (den t))).getD (lo+k) []).length==sz && sz'==sz && decide (0 < sz) then _ else _) id;rw[oIP]
      ·exact bh d rfl
      ·simp only[oBA,oDE,beq_iff_eq];refine⟨⟨⟨hb,?_⟩,h.2.2⟩,h.2.1⟩;rw[oGD,List.getElem?_map,he];simp[bZ,h.1]
    | _=>exact .fail
   | _=>exact .fail
  | d tt x=>cases tt with
   | row o t=>cases o with
    | true=>exact .fail
    | false=>
     refine Sim.ite (λh=>?_) λ_=>.fail;refine Sim.get λe he=>?_;have he:(x:List (den t))[k]?=some e:=he
     have hk:k < (x:List (den t)).length:=by
      rcases Nat.lt_or_ge k (x:List (den t)).length with h | h
      ·exact h
      ·rw[oGN h] at he;cases he
     have hg:(List.map (enc t) (x:List (den t))).getD k []=enc t e:=by
      rw[oGD,List.getElem?_map,he];rfl
     show Sim _ (if k < (List.map (enc t) (x:List (den t))).length && ((List.map (enc t) (x:List (den t))).getD k []).length==sz && decide (0 < sz) then wr d (.ip ((List.map (enc t) (x:List (den t))).getD k [])) else _) id;rw[hg,oIP]
     ·exact bh d (by simp only[er,jn])
     ·simp only[oBA,oDE,beq_iff_eq,List.length_map];exact⟨⟨hk,by rw[bZ];exact h.1⟩,h.2⟩
   | nilr o=>cases o<;>exact .fail
   | _=>exact .fail
  | _=>exact .fail
 | ext x i=>
  refine aQ λt=>?_
  cases t with
  | tup l=>
   refine Sim.ite (λh=>?_) λ_=>.fail;show Sim _ (if i < (erL l).length then _ else _) id;rw[oIP (by rw[b9];exact h)];exact bh d (lH l i)
  | _=>exact .fail
 | bin op x y=>exact aQ λa=>aQ λb=>Br d op a b
 | bnb neg x y=>
  refine aQ λa=>aQ λb=>?_
  cases a with
  | d t a=>cases t with
   | bool=>cases b with
    | d u b=>cases u with
     | bool=>
      show Sim _ (wr d (.v (.bool (if neg then !((a:Bool)==b) else (a:Bool)==b)))) id;refine bh d ?_;cases neg<;>rfl
     | _=>exact .fail
    | _=>exact .fail
   | _=>exact .fail
  | _=>exact .fail
 | eqa ks neg x y=>
  refine aQ λa=>aQ λb=>?_
  cases a with
  | agg a=>cases b with
   | agg b=>
    simp only[er]
    cases h:X.eqAll aO ks a b with
    | none=>exact .fail
    | some r=>
     obtain⟨vs,ws,h1,h2,h3⟩:=y8 h;rw[h1,h2];show Sim _ ((eK (bo ks vs ws)).bind λr=>wr d (.v (.bool (if neg then !r else r)))) id;rw[h3];refine bh d ?_;cases neg<;>rfl
   | _=>exact .fail
  | _=>exact .fail
 | un op x=>
  refine aQ λa=>?_
  cases a with
  | d t a=>cases t with
   | bool=>cases op<;>first | exact .fail | exact bh d rfl
   | int k=>cases op<;>first | exact .fail | exact bh d rfl
   | _=>cases op<;>exact .fail
  | _=>cases op<;>exact .fail
 | conv k x=>
  refine aQ λa=>?_
  cases a with
  | d t a=>cases t with
   | int k0=>exact bh d rfl
   | _=>exact .fail
  | _=>exact .fail
 | bld z mv parts=>
  refine Sim.ite (λh=>?_) λ_=>.fail;show Sim _ (if (z.map b7).all bG then _ else _) id;rw[oIP (kq h)];refine (jo mv parts).bind λl=>(lZ d l).bind λl'=>bh d ?_;simp only[er];rw[qI,lL]
 | bsl sz mv len parts=>
  refine (jo mv _).bind λl=>Sim.ite (λh=>?_) λ_=>.fail;rw[oIP h];refine Sim.opt λv hv=>eo d false ?_;simp only[erL,yv hv,uN]
 | mks sz z l c=>
  refine Sim.ite (λh=>?_) λ_=>.fail;simp only[oBA] at h;show Sim _ (if (z.map b7).all bG && z.length==sz then _ else _) id;rw[oIP (by simp only[oBA];exact⟨kq h.1,h.2⟩)];refine aQ λtl=>aQ λtc=>(gi tl).bind λn=>(gi tc).bind λm=>Sim.br λhok=>?_;have hok:AJ n m sz=true:=hok;rw[oIP (by simpa [AJ] using hok)];refine Sim.opt λv hv=>eo d false ?_;simp only[erL,yx hv,lL,id_eq]
 | slc sz x lo hi=>
  refine aQ λt=>(l6 t).bind λn=>(nJ lo 0).bind λl=>(nJ hi n).bind λh=>Sim.br λhok=>?_;have hok:dy l h n=true:=hok;rw[oIP (by simpa [dy] using hok)]
  cases t with
  | d tt x=>cases tt with
   | row o t=>cases o with
    | true=>exact .fail
    | false=>
     refine Sim.ite (λhs=>?_) λ_=>.fail;show Sim _ (if (List.map (enc t) (x:List (den t))).all (λe=>e.length==sz) then _ else _) id;rw[oIP (by rw[<- hs];exact jj t x)];refine bh d ?_;show TV.sl (List.map (enc t) ((List.drop l (x:List (den t))).take (h - l)))=_;rw[List.map_take,List.map_drop];rfl
   | nilr o=>cases o with
    | false=>
     show Sim _ (if ([]:List (List TV)).all (λe=>e.length==sz) then wr d (.sl ((([]:List (List TV)).drop l).take (h - l))) else _) id;rw[oIP (by rfl)];exact bh d (by simp[er,er1])
    | true=>exact eo d false rfl
   | _=>exact .fail
  | pk p vs=>
   refine (dM p).bind λt=>?_
   cases t with
   | d tt x=>cases tt with
    | row o t=>cases o with
     | false=>exact .fail
     | true=>
      refine Sim.ite (λhs=>?_) λ_=>.fail;show Sim _ (if (List.map (enc t) (x:List (den t))).all (λe=>e.length==sz) then _ else _) id;rw[oIP (by rw[<- hs];exact jj t x)];exact bh d rfl
    | nilr o=>cases o with
     | false=>exact .fail
     | true=>
      show Sim _ (if ([]:List (List TV)).all (λe=>e.length==sz) then _ else _) id;rw[oIP (by rfl)];exact bh d rfl
    | _=>exact .fail
   | _=>exact .fail
  | pw p vs sz' lo' n'=>
   refine Sim.ite (λhs=>?_) λ_=>.fail;show Sim _ (if sz'=sz then _ else _) id;rw[oIP hs];exact bh d rfl
  | _=>exact .fail
 | app sz bytes mv fl s x=>
  refine aQ λts=>aQ λtx=>?_
  have hn:nU (er tx)=X.isNameX tx:=by
   cases tx with
   | d t y=>cases t with
    | row o t=>cases o<;>rfl
    | nilr o=>cases o<;>rfl
    | _=>rfl
   | _=>rfl
  rw[hn]
  cases hc:(fl && !mv && X.isNameX tx) with
  | true=>
   simp only[if_true];refine (nD tx).bind λc2=>?_;refine Sim.ite (λhf=>?_) λ_=>.fail
   have hV:(uE c2).all (λe=>e.all isV)=true:=by
    cases c2 with
    | d t y=>cases t with
     | row o t=>
      have hf:X.flatT t=true:=hf;cases o<;>show (List.map (enc t) (y:List (den t))).all (λe=>e.all isV)=true
      all_goals
       rw[List.all_map,List.all_eq_true];intro z _;exact wM hf z
     | nilr o=>cases o<;>rfl
     | _=>rfl
    | gap=>cases hf
    | _=>rfl
   rw[oIP hV];refine (cK true ts).bind λs=>?_;have h:=zt (Y:=Y) d sz bytes (bd HT d) s c2
   have e:A6 d sz bytes (er s) (.sl (uE c2))=(match er s,er c2 with
    | .ow c,.ow c2=>if (c++c2).all (λe=>e.length==sz) && decide (c.length+c2.length<=1099511627776) && decide ((c.length+c2.length)*bytes<=140737488355328) then inst d false [.ow (c++c2)] else .fail
    | .ow c,.sl c2=>if (c++c2).all (λe=>e.length==sz) && decide (c.length+c2.length<=1099511627776) && decide ((c.length+c2.length)*bytes<=140737488355328) then inst d false [.ow (c++c2)] else .fail
    | _,_=>.fail):=by
    unfold A6
    cases c2 with
    | d t y=>cases t with
     | row o t=>cases o<;>cases er s<;>rfl
     | nilr o=>cases o<;>cases er s<;>rfl
     | _=>simp[X.flatRow] at hf
    | _=>simp[X.flatRow] at hf
   rw[e];exact h
  | false=>
   simp only[Bool.false_eq_true,if_false];exact (cK true ts).bind λs=>(cK mv tx).bind λx=>zt d sz bytes _ s x
 | len x=>exact aQ λt=>(l6 t).bind λn=>bh d rfl
 | lens x=>
  refine aQ λt=>?_
  cases t with
  | d t s=>cases t with
   | str=>exact bh d rfl
   | _=>exact .fail
  | _=>exact .fail
 | ixs x i=>
  refine aQ λt=>aQ λti=>(gi ti).bind λk=>?_
  cases t with
  | d t s=>cases t with
   | str=>
    intro σ kk y hk;obtain⟨b,h1,h2⟩:=aR (show (va s k).bind _=some y from hk);unfold va at h1;obtain⟨c,h3,h4⟩:=cX h1;have h3:(s:ByteArray)[k]?=some c:=h3;have:=bh (Y:=Y) d (t:=.d (.int .u8) b) (t':=.v (.int .u8 c.toNat)) (by rw[<- h4];rfl) σ kk y h2;show ∃a σ',(match (s:ByteArray)[k]? with | some b=>wr d (.v (.int .u8 b.toNat)) | none=>.fail).run (erS σ)=_/\ge σ σ' ((match (s:ByteArray)[k]? with | some b=>wr d (.v (.int .u8 b.toNat)) | none=>.fail).foot (erS σ))/\_;rw[h3];exact this
   | _=>exact .fail
  | _=>exact .fail
 | mm mx xs=>
  refine (sF (λx=>(kg x).bind λt=>vC t) xs).bind λl=>?_
  cases l with
  | nil=>exact .fail
  | cons t r=>cases t with
   | d t a=>cases t with
    | int k=>
     simp only[List.map_cons,Ca]
     cases h:X.mmAll aO mx k a r with
     | none=>exact .fail
     | some m=>simp only[yK h];exact bh d rfl
    | _=>exact .fail
   | _=>exact .fail
 | mkf f caps=>
  refine (sF (λx=>(kg x).bind λt=>vI t) caps).bind λl=>bh d ?_;simp only[er,dQ]
 | idxa n sz x i=>
  refine aQ λt=>aQ λti=>(gi ti).bind λk=>?_
  cases t with
  | ptr p vs=>
   refine (co p _ vs).bind λ_=>vH _ n _ 0 λj Uu hj hk=>Sim.ite (λh=>?_) λ_=>.fail;subst hk;simp only[id_eq];rw[oIP (by rw[<- o9];simp only[oBA,oDE];exact⟨by omega,h⟩)];exact bh d (by simp only[er,rP])
  | _=>exact .fail
 | s2b x=>
  refine aQ λt=>?_
  cases t with
  | d t s=>cases t with
   | str=>
    refine Sim.br λh=>?_;have h:decide ((s:ByteArray).size < 4294967296)=true:=h;show Sim _ (if (s:ByteArray).size < 4294967296 then wr d (.sl (iC s)) else .fail) id;rw[oIP (by simpa using h)];refine bh d ?_;show TV.sl (List.map (enc (.int .u8)) (zZ s))=_;simp[zZ,iC,enc]
   | _=>exact .fail
  | _=>exact .fail
 | emp x=>exact aQ λt=>(l6 t).bind λn=>eo d false rfl
 | b2s x=>
  refine aQ λt=>(cK false t).bind λt'=>?_
  cases t' with
  | d t c=>cases t with
   | row o t=>cases o with
    | false=>cases t with
     | int k=>cases k with
      | u8=>
       intro σ kk y hk;have hk:X.wr aO d (.d .str (xq c)) σ kk=some y:=hk
       have hb:bstr (List.map (enc (.int .u8)) (c:List Int))=some (xq c):=by
        have:nA (List.map (enc (.int .u8)) (c:List Int))=some c:=by
         have h9:∀l:List Int,nA (List.map (enc (.int .u8)) l)=some l:=by
          intro l
          induction l with
          | nil=>rfl
          | cons x l ih=>
           show Option.map (x :: ·) (nA (List.map (enc (.int .u8)) l))=_;rw[ih];rfl
         exact h9 c
        simp only[bstr,this];rfl
       have:=bh (Y:=Y) d (t:=.d .str (xq c)) (t':=.v (.string (xq c))) rfl σ kk y hk;show ∃a σ',((eK (bstr (List.map (enc (.int .u8)) (c:List Int)))).bind λs=>wr d (.v (.string s))).run (erS σ)=_/\ge σ σ' (((eK (bstr (List.map (enc (.int .u8)) (c:List Int)))).bind λs=>wr d (.v (.string s))).foot (erS σ))/\_;rw[hb];exact this
      | _=>exact .fail
     | _=>exact .fail
    | true=>exact .fail
   | _=>exact .fail
  | _=>exact .fail
 | cpy sz x y=>
  refine aQ λt=>aQ λu=>(nD u).bind λc2=>?_
  cases t with
  | pk p vs=>
   refine (co p _ vs).bind λ_=>Sim.rdC λtv=>?_;exact zr d sz p 0 none tv c2
  | pw p vs sz' lo n=>
   refine Sim.ite (λhs=>?_) λ_=>.fail;refine (co p _ vs).bind λ_=>Sim.rdC λtv=>?_;have:=zr (Y:=Y) d sz p lo (some n) tv c2;simp only[oIP hs];exact this
  | _=>exact .fail
 | call k f args=>exact .fail
end
theorem ph:∀(hs:List (Unit×Nat×Nat)) (hs':List (den .nat×Nat×Nat)) (r:List CT) (h:HL den r) (h':HL den (rC hs r)),rU hs hs' r h=some h'->(mG hs r h').1=hs'/\(mG hs r h').2=h
 | [],[],_,_,_,hc=>by
  injection hc with hc
  exact⟨rfl,hc.symm⟩
 | [],_ :: _,_,_,_,hc=>by cases hc
 | _ :: _,[],_,_,_,hc=>by cases hc
 | (_,sz,o) :: hs,(i,sz',o') :: hs',r,h,h',hc=>by
  have hc:(if sz=sz'/\o=o' then (rU hs hs' r h).map λh1=>((i,h1):den .nat×HL den (rC hs r)) else none)=some h':=hc;by_cases hb:sz=sz'/\o=o'
  ·rw[oIP hb] at hc;obtain⟨h1,h2,h3⟩:=Option.map_eq_some_iff.1 hc;obtain⟨e1,e2⟩:=ph hs hs' r h h1 h2;subst h3;refine⟨?_,e2⟩;show (i,sz,o) :: (mG hs r h1).1=(i,sz',o') :: hs';rw[e1,hb.1,hb.2]
  ·rw[oIN hb] at hc;cases hc
theorem BA{p:XP λ_=>Unit}{q:XP den}(h:zA p q=true):erP (CF p)=erP q:=by
 simp[zA] at h;have ⟨⟨⟨h1,h2⟩,h3⟩,h4⟩:=h;have ⟨r,o,hs⟩:=q
 cases hs with
 | nil=>simp[CF,h1,h2]
 | cons=>simp[XP.bare] at h4
theorem yX{x y:Value}(h:w6 x y=true):x=y:=by
 unfold w6 at h
 grind
mutual
theorem xf:(s:Sh)->(x:XV den)->(r:List CT)->(h:HL den r)->(h':HL den (lv s r))->conv aO s x r h=some h'->er (fill s r h').1=er x/\(fill s r h').2=h
 | .d u z,x,r,h,h',hc=>by
  cases x with
  | d t y=>
   have hc:(asT aO t u y).map (λw=>(w,h))=some h':=hc;obtain⟨w,h1,h2⟩:=cX hc
   have e1:h'.1=w:=by rw[<- h2]
   have e2:h'.2=h:=by rw[<- h2]
   refine⟨?_,e2⟩;show er1 u h'.1=er1 t y;rw[e1];exact tE h1
  | _=>exact absurd (show (none:Option (HL den _))=some h' from hc) (by simp)
 | .k z,x,r,h,h',hc=>by
  cases x with
  | k y=>
   have hc:(if w6 z y then some h else none)=some h':=hc;by_cases hb:w6 z y=true
   ·rw[oIP hb] at hc
    injection hc with hc
    rw[yX hb];exact⟨rfl,hc.symm⟩
   ·rw[oIN hb] at hc;cases hc
  | _=>exact absurd (show (none:Option (HL den _))=some h' from hc) (by simp)
 | .dead,x,r,h,h',hc=>by
  cases x with
  | dead=>
   have hc:some h=some h':=hc
   injection hc with hc
   exact⟨rfl,hc.symm⟩
  | _=>exact absurd (show (none:Option (HL den _))=some h' from hc) (by simp)
 | .ptr p vs,x,r,h,h',hc=>by
  cases x with
  | ptr q ws=>
   have hc:(if p.root==q.root && p.off==q.off && vs==ws then rU p.hops q.hops r h else none)=some h':=hc;by_cases hb:(p.root==q.root && p.off==q.off && vs==ws)=true
   ·rw[oIP hb] at hc;simp only[oBA,beq_iff_eq] at hb;obtain⟨h1,h2⟩:=ph _ _ _ _ _ hc;refine⟨?_,h2⟩;show TV.ptr ⟨p.root,p.off,(mG p.hops r h').1⟩ vs=TV.ptr ⟨q.root,q.off,q.hops⟩ ws;rw[h1,hb.1.1,hb.1.2,hb.2]
   ·rw[oIN hb] at hc;cases hc
  | _=>exact absurd (show (none:Option (HL den _))=some h' from hc) (by simp)
 | .pk p vs,x,r,h,h',hc=>by
  cases x with
  | pk q ws=>
   have hc:(if p.root==q.root && p.off==q.off && vs==ws then rU p.hops q.hops r h else none)=some h':=hc;by_cases hb:(p.root==q.root && p.off==q.off && vs==ws)=true
   ·rw[oIP hb] at hc;simp only[oBA,beq_iff_eq] at hb;obtain⟨h1,h2⟩:=ph _ _ _ _ _ hc;refine⟨?_,h2⟩;show TV.pk ⟨p.root,p.off,(mG p.hops r h').1⟩ vs=TV.pk ⟨q.root,q.off,q.hops⟩ ws;rw[h1,hb.1.1,hb.1.2,hb.2]
   ·rw[oIN hb] at hc;cases hc
  | _=>exact absurd (show (none:Option (HL den _))=some h' from hc) (by simp)
 | .pw p vs sz lo n,x,r,h,h',hc=>by cases x<;>exact absurd (show (none:Option (HL den _))=some h' from hc) (by simp)
 | .gap t _ _ o,x,r,h,h',hc=>by
  cases x with
  | gap t' y i o'=>
   have hc:(if o=o' then (asT aO (.row true t') (.row true t) y).map λy=>(y,i,h) else none)=some h':=hc;by_cases hb:o=o'
   ·subst hb;rw[oIP rfl] at hc;obtain⟨z,h1,rfl⟩:=cX hc;refine⟨?_,rfl⟩;show cA (er1 (.row true t) z) [(i,0,o)] .dead=cA (er1 (.row true t') y) [(i,0,o)] .dead;rw[tE h1]
   ·rw[oIN hb] at hc;cases hc
  | _=>exact absurd (show (none:Option (HL den _))=some h' from hc) (by simp)
 | .ip l,x,r,h,h',hc=>by
  cases x with
  | ip l'=>
   have:=fU l l' r h h' hc;exact⟨congrArg TV.ip this.1,this.2⟩
  | _=>exact absurd (show (none:Option (HL den _))=some h' from hc) (by simp)
 | .agg l,x,r,h,h',hc=>by
  cases x with
  | agg l'=>
   have:=fU l l' r h h' hc;exact⟨congrArg TV.agg this.1,this.2⟩
  | _=>exact absurd (show (none:Option (HL den _))=some h' from hc) (by simp)
 | .tup l,x,r,h,h',hc=>by
  cases x with
  | tup l'=>
   have:=fU l l' r h h' hc;exact⟨congrArg TV.tup this.1,this.2⟩
  | _=>exact absurd (show (none:Option (HL den _))=some h' from hc) (by simp)
 | .fn f l,x,r,h,h',hc=>by
  cases x with
  | fn f' l'=>
   have hc:(if f=f' then lu aO l l' r h else none)=some h':=hc;by_cases hb:f=f'
   ·subst hb;rw[oIP rfl] at hc;have:=fU l l' r h h' hc;exact⟨congrArg (TV.fn f) this.1,this.2⟩
   ·rw[oIN hb] at hc;cases hc
  | _=>exact absurd (show (none:Option (HL den _))=some h' from hc) (by simp)
theorem fU:(s:List Sh)->(x:List (XV den))->(r:List CT)->(h:HL den r)->(h':HL den (lvL s r))->lu aO s x r h=some h'->erL (dl s r h').1=erL x/\(dl s r h').2=h
 | [],x,r,h,h',hc=>by
  cases x with
  | nil=>
   have hc:some h=some h':=hc
   injection hc with hc
   exact⟨rfl,hc.symm⟩
  | cons=>exact absurd (show (none:Option (HL den _))=some h' from hc) (by simp)
 | s :: ss,x,r,h,h',hc=>by
  cases x with
  | nil=>exact absurd (show (none:Option (HL den _))=some h' from hc) (by simp)
  | cons x xs=>
   have hc:(lu aO ss xs r h).bind (λh1=>conv aO s x (lvL ss r) h1)=some h':=hc;obtain⟨h1,Zr,Zm⟩:=aR hc;obtain⟨e1,e2⟩:=fU ss xs r h h1 Zr;obtain⟨e3,e4⟩:=xf s x (lvL ss r) h1 h' Zm;have e5:dl (s :: ss) r h'=((fill s (lvL ss r) h').1 :: (dl ss r (fill s (lvL ss r) h').2).1,(dl ss r (fill s (lvL ss r) h').2).2):=rfl;rw[e5,e4];refine⟨?_,e2⟩;show er _ :: erL _=er x :: erL xs;rw[e3,e1]
end
theorem pf:∀{s:List (Nat×List Sh)}{x:List (Nat×List (XV den))}{r:List CT}{h:HL den r}{h':HL den (lvP s r)},X.convP aO s x r h=some h'->erC (jP s r h').1=erC x/\(jP s r h').2=h:=by
 intro s
 induction s with
 | nil=>
  intro x r h h' hc
  cases x with
  | nil=>
   have hc:some h=some h':=hc
   injection hc with hc
   exact⟨rfl,hc.symm⟩
  | cons=>exact absurd (show (none:Option (HL den _))=some h' from hc) (by simp)
 | cons s ss ih=>
  intro x r h h' hc
  cases x with
  | nil=>exact absurd (show (none:Option (HL den _))=some h' from hc) (by simp)
  | cons x xs=>
   have hc:(if s.1=x.1 then (X.convP aO ss xs r h).bind (λh1=>lu aO s.2 x.2 (lvP ss r) h1) else none)=some h':=hc;by_cases hk:s.1=x.1
   ·rw[oIP hk] at hc
    ·obtain⟨h1,Zr,hc⟩:=aR hc;obtain⟨e1,e2⟩:=ih Zr;obtain⟨e3,e4⟩:=fU s.2 x.2 (lvP ss r) h1 h' hc;have e5:jP (s :: ss) r h'=((s.1,(dl s.2 (lvP ss r) h').1) :: (jP ss r (dl s.2 (lvP ss r) h').2).1,(jP ss r (dl s.2 (lvP ss r) h').2).2):=rfl;rw[e5,e4];refine⟨?_,e2⟩;show (s.1,erL _) :: erC _=(x.1,erL x.2) :: erC xs;rw[e3,e1,hk]
   ·rw[oIN hk] at hc;cases hc
theorem zb:∀{s:List (Nat×Sh)}{x:List (Nat×XV den)}{r:List CT}{h:HL den r}{h':HL den (lvT s r)},X.convT aO s x r h=some h'->(o8 s r h').1.map (λx=>(x.1,er x.2))=x.map (λx=>(x.1,er x.2))/\(o8 s r h').2=h:=by
 intro s
 induction s with
 | nil=>
  intro x r h h' hc
  cases x with
  | nil=>
   have hc:some h=some h':=hc
   injection hc with hc
   exact⟨rfl,hc.symm⟩
  | cons=>exact absurd (show (none:Option (HL den _))=some h' from hc) (by simp)
 | cons s ss ih=>
  intro x r h h' hc
  cases x with
  | nil=>exact absurd (show (none:Option (HL den _))=some h' from hc) (by simp)
  | cons x xs=>
   have hc:(if s.1=x.1 then (X.convT aO ss xs r h).bind (λh1=>conv aO s.2 x.2 (lvT ss r) h1) else none)=some h':=hc;by_cases hk:s.1=x.1
   ·rw[oIP hk] at hc
    ·obtain⟨h1,Zr,hc⟩:=aR hc;obtain⟨e1,e2⟩:=ih Zr;obtain⟨e3,e4⟩:=xf s.2 x.2 (lvT ss r) h1 h' hc;have e5:o8 (s :: ss) r h'=((s.1,(fill s.2 (lvT ss r) h').1) :: (o8 ss r (fill s.2 (lvT ss r) h').2).1,(o8 ss r (fill s.2 (lvT ss r) h').2).2):=rfl;rw[e5,e4];refine⟨?_,e2⟩;simp only[List.map_cons];rw[e3,e1,hk]
   ·rw[oIN hk] at hc;cases hc
theorem vY:∀{a b:List (Key×Nat)},X.sameVr a b=true->a=b:=by
 intro a
 induction a with
 | nil=>intro b h;cases b with | nil=>rfl | cons=>simp[X.sameVr] at h
 | cons x a ih=>
  intro b h
  cases b with
  | nil=>simp[X.sameVr] at h
  | cons y b=>
   simp only[X.sameVr,oBA,beq_iff_eq] at h;obtain⟨⟨h1,h2⟩,h3⟩:=h;rw[ih h3];obtain⟨a1,a2⟩:=x;obtain⟨b1,b2⟩:=y;simp only at h1 h2;rw[h1,h2]
theorem pe{s:Shs}{σ:XS den}{u:HL den []}{h:HL den (lvS s)}(hc:X.convS aO s σ u=some h):erS (rN s h)=erS σ:=by
 unfold X.convS at hc;by_cases hv:X.sameVr s.vr σ.vr=true
 ·rw[oIP hv] at hc;obtain⟨h1,Zr,hc⟩:=aR hc;obtain⟨e1,e2⟩:=pf Zr;obtain⟨e3,e4⟩:=zb hc;unfold erS rN;simp only;rw[e3,e4,e1,vY hv]
 ·rw[oIN hv] at hc;cases hc
theorem qz{c:Ctr}{vals:List (XV den)}{pts:List (Nat×List (XV den))}{u:HL den []}{h:HL den (lvL c.ins (lvP c.pts []))}(hc:X.convIn aO c vals pts u=some h) :
 erL (dl c.ins _ h).1=erL vals/\erC (jP c.pts [] (dl c.ins _ h).2).1=erC pts:=by
 unfold X.convIn at hc;obtain⟨h1,Zr,hc⟩:=aR hc;obtain⟨e1,e2⟩:=pf Zr;obtain⟨e3,e4⟩:=fU _ _ _ _ _ hc;rw[e4];exact⟨e3,e1⟩
theorem vZ:∀{a b:List RSh},X.sameSh a b=true->a=b:=by
 intro a
 induction a with
 | nil=>intro b h;cases b with | nil=>rfl | cons=>simp[X.sameSh] at h
 | cons x a ih=>
  intro b h
  cases b with
  | nil=>cases x<;>simp[X.sameSh] at h
  | cons y b=>
   cases x<;>cases y<;>simp[X.sameSh] at h
   ·rw[ih h]
   ·rw[h.1,ih h.2]
   ·rw[ih h]
theorem AQ{cells:List (XV den)}{sh:List RSh}{pts:List (Nat×List (XV den))}{u:HL den []}:∀{outs:List XO}{i:Nat}{h:HL den (oC (outs.map lvO) i)},X.injO aO cells sh pts u outs=some ⟨i,h⟩->∃x,eV outs i h=some x/\erL x.1=erL cells/\x.2.1=sh/\erC x.2.2=erC pts:=by
 intro outs
 induction outs with
 | nil=>intro i h hc;simp[X.injO] at hc
 | cons o outs ih=>
  intro i h hc;simp only[X.injO] at hc;split at hc
  ·rename_i h1 Zr
   injection hc with hc
   injection hc with h2 h3
   subst h2;have h3:=eq_of_heq h3;subst h3;refine⟨_,rfl,?_⟩;unfold X.convO at Zr;by_cases hs:X.sameSh o.sh sh=true
   ·rw[oIP hs] at Zr;obtain⟨h4,Rs,Zr⟩:=aR Zr;obtain⟨e1,e2⟩:=pf Rs;obtain⟨e3,e4⟩:=fU _ _ _ _ _ Zr;refine⟨e3,vZ hs,?_⟩;show erC (jP o.pts [] (dl o.cells _ h1).2).1=_;rw[e4];exact e1
   ·rw[oIN hs] at Zr;cases Zr
  ·split at hc
   ·rename_i x hx
    injection hc with hc
    injection hc with h2 h3
    subst h2;have h3:=eq_of_heq h3;subst h3;exact ih hx
   ·simp at hc
theorem AV{a b:dU}(h:X.exEq a b=true):a=b:=by
 cases a<;>cases b<;>simp[X.exEq] at h
 ·rfl
 ·rw[h]
 ·rfl
theorem wT{e:dU}{σ:XS den}{u:HL den []}:∀{outs:List (dU×Shs)}{i:Nat}{h:HL den (oC (outs.map λx=>lvS x.2) i)},X.injE aO e σ u outs=some ⟨i,h⟩->∃x,kV outs i h=some x/\x.1=e/\erS x.2=erS σ:=by
 intro outs
 induction outs with
 | nil=>intro i h hc;simp[X.injE] at hc
 | cons o outs ih=>
  intro i h hc;simp only[X.injE] at hc;split at hc
  ·rename_i h1 Zr
   injection hc with hc
   injection hc with h2 h3
   subst h2;have h3:=eq_of_heq h3;subst h3;refine⟨_,rfl,?_⟩;split at Zr
   ·rename_i he;exact⟨AV he,pe Zr⟩
   ·simp at Zr
  ·split at hc
   ·rename_i x hx
    injection hc with hc
    injection hc with h2 h3
    subst h2;have h3:=eq_of_heq h3;subst h3;exact ih hx
   ·simp at hc
theorem mK{α β:Type}(G:α->β):∀(ls:List (List CT)) (o:og ls) (f:(i:Nat)->HL den (oC ls i)->α),eM ls o (λi h=>G (f i h))=G (eM ls o f):=by
 intro ls
 induction ls with
 | nil=>intro o;cases o
 | cons l ls ih=>
  intro o f
  cases ls with
  | nil=>rfl
  | cons m r=>
   cases o with
   | inl h=>rfl
   | inr o=>exact ih o λi h=>f (i+1) h
theorem nY{α:Type}:∀{ls:List (List CT)}{i:Nat}{h:HL den (oC ls i)}{o:og ls}(f:(i:Nat)->HL den (oC ls i)->α),kx ls i h=some o->eM ls o f=f i h:=by
 intro ls
 induction ls with
 | nil=>intro i h o f hm;simp[kx] at hm
 | cons l ls ih=>
  intro i h o f hm
  cases ls with
  | nil=>
   cases i with
   | zero=>cases hm;rfl
   | succ i=>simp[kx] at hm
  | cons m r=>
   cases i with
   | zero=>cases hm;rfl
   | succ i=>
    simp only[kx] at hm;obtain⟨o',h1,rfl⟩:=cX hm;exact ih (λi h=>f (i+1) h) h1
def iZ(F:bT) (c:Ctr):Prop:=∀(h:HL den (lvL c.ins (lvP c.pts []))) (o:og (c.outs.map lvO)) (x:List (XV den)×List RSh×List (Nat×List (XV den))),c.g h=some o->eM (c.outs.map lvO) o (λi ho=>eV c.outs i ho)=some x ->
 F c.f (erL (dl c.ins _ h).1) (erC (jP c.pts [] (dl c.ins _ h).2).1)=some (⟨erL x.1,x.2.1⟩,erC x.2.2)
section
variable {α β γ δ Y:Type}
theorem yp(x:Option Nat×Opd):Sim (Y:=Y) (X.argV aO x) (argV x) er:=by
 refine aQ λt=>?_
 have Wk:∀t:XV den,Sim (Y:=Y) (X.bind (X.takeV aO false t) λl=>X.bind (X.optM aO (X.immXL aO l.1)) λl'=>X.ret (X.shapedX l.2 l')) ((takeV false (er t)).bind λl=>.ret (gW l.2 (l.1.map TV.imm))) er:=λt=>
  (ii false t).bind λl=>Sim.opt λl' hl=>.ret (by rw[nK,s7 hl])
 have nil:∀{s:SP TV} (t:CT) (y:den (.row true t)),Sim (Y:=Y) (X.bind (X.takeV aO false (.d (.row true t) y)) λl=>X.bind (X.optM aO (X.immXL aO l.1)) λl'=>X.ret (X.shapedX l.2 l')) s er:=λt y σ k o hk=>by cases hk
 refine Sim.ite (λh=>?_) λh=>?_
 ·have h2:(x.1==some 0 && Ce (er t))=true:=by
   simp at h ⊢;refine⟨h.1,?_⟩;have h3:=h.2
   cases t with
   | pk p vs=>rfl
   | d t y=>cases t with
    | nilr o=>cases o with
     | true=>rfl
     | false=>simp[X.isNmX] at h3
    | _=>simp[X.isNmX] at h3
   | _=>simp[X.isNmX] at h3
  rw[oIP h2];exact .ret rfl
 ·have keep:∀{s:SP TV},Ce (er t)=X.isNmX t->Sim (Y:=Y) (X.argV0 aO t) s er->Sim (X.argV0 aO t) (if (x.1==some 0 && Ce (er t))=true then SP.ret (er t) else s) er:=λhe hs=>by
   rw[he,oIN h];exact hs
  cases t with
  | ip cs=>exact keep rfl (.ret rfl)
  | fn f cap=>exact keep rfl (.ret rfl)
  | ptr p vs=>exact keep rfl (.ret rfl)
  | d t y=>cases t with
   | row o t=>cases o with
    | true=>exact nil t y
    | false=>exact keep rfl (Wk _)
   | nilr o=>cases o<;>exact keep rfl (Wk _)
   | nat=>exact fun σ k o hk=>by cases hk
   | pair a b=>exact fun σ k o hk=>by cases hk
   | _=>exact keep rfl (Wk _)
  | gap t y i o=>exact fun σ k o hk=>by cases hk
  | _=>exact keep rfl (Wk _)
theorem pI:∀l:List (Option Nat×Opd),Sim (Y:=Y) (X.argVs aO l) (argVs l) erL:=by
 intro l
 induction l with
 | nil=>exact .ret rfl
 | cons x r ih=>exact (yp x).bind λt=>ih.bind λl=>.ret rfl
theorem pF:∀(l:List (Option Nat×XV den)) (i:Nat),Sim (Y:=Y) (X.takeOwns aO i l) (takeOwns i (l.map λx=>(x.1,er x.2))) (List.map λx=>(x.1,er x.2)):=by
 intro l
 induction l with
 | nil=>intro i;exact .ret rfl
 | cons x l ih=>
  intro i;have ⟨n,t⟩:=x
  cases n with
  | none=>cases t with
   | d t y=>cases t with
    | row o t=>cases o<;>exact ih (i+1)
    | nilr o=>cases o<;>exact ih (i+1)
    | nat=>exact ih (i+1)
    | pair a b=>exact ih (i+1)
    | _=>exact ih (i+1)
   | _=>exact ih (i+1)
  | some n=>cases n with
   | zero=>cases t with
    | pk p vs=>
     refine (cK true (.pk p vs)).bind λt=>Sim.ite (λh=>?_) λ_=>.fail;have ⟨c,hc⟩:=fT h
     have h2:fI (er t)=true:=by rw[hc];rfl
     rw[oIP h2];exact (ih (i+1)).bind λq=>.ret rfl
    | d t y=>cases t with
     | row o t=>cases o<;>exact ih (i+1)
     | nilr o=>cases o<;>exact ih (i+1)
     | nat=>exact ih (i+1)
     | pair a b=>exact ih (i+1)
     | _=>exact ih (i+1)
    | _=>exact ih (i+1)
   | succ n=>cases t with
    | d t y=>cases t with
     | row o t=>cases o<;>exact ih (i+1)
     | nilr o=>cases o<;>exact ih (i+1)
     | nat=>exact ih (i+1)
     | pair a b=>exact ih (i+1)
     | _=>exact ih (i+1)
    | _=>exact ih (i+1)
theorem vE(r:Nat):∀(n o:Nat),Sim (Y:=Y) (X.grabB aO r o n) (qj ⟨r,o,[]⟩ n) erL:=by
 intro n
 induction n with
 | zero=>intro o;exact .ret rfl
 | succ n ih=>
  intro o
  cases n with
  | zero=>
   refine Sim.rdC λt=>(dL ⟨r,o,[]⟩ t).bind λt'=>(cK true t').bind λt2=>?_;exact (Sim.ret (f:=erL) rfl).bind (h:=λl=>.ret (er t2 :: l)) λl=>.ret rfl
  | succ n=>
   exact Sim.rdC λt=>(dL ⟨r,o,[]⟩ t).bind λt'=>(cK true t').bind λt2=>(ih (o+1)).bind λl=>.ret rfl
theorem tS(p:XP den):Sim (Y:=Y) (X.rooted aO p) (rooted (erP p)) id:=by
 have ⟨r,off,hops⟩:=p
 cases hops with
 | nil=>exact .ret rfl
 | cons h hs=>
  refine Sim.rdT λt=>?_
  cases t with
  | ptr q ws=>
   refine Sim.ite (λhc=>?_) λ_=>.fail;show Sim _ (if (erP q).root==r && (erP q).hops.isEmpty then chk (erP q) 0 ws else .fail) id
   have:((erP q).root==r && (erP q).hops.isEmpty)=true:=by
    simpa [erP] using hc
   rw[oIP this];exact co q 0 ws
  | _=>exact .fail
def erG(g:XGP den):GP:=⟨g.i,erP g.p,g.vs,erL g.cells⟩
theorem wQ{t:XV den}(h:X.isArgX t=true):iV (er t)=true:=by
 cases t with
 | ip cs=>rfl
 | fn f cap=>exact oP h
 | agg l=>
  simp only[X.isArgX] at h;simp only[er,iV,dQ,List.all_map];rw[List.all_eq_true] at h ⊢;intro x hx;have:=h x hx;simp at this;simp;rcases gp this.1 this.2 with ⟨y,hy⟩ | ⟨c,hc⟩
  ·rw[hy]
  ·rw[hc]
 | d t x=>
  by_cases hn:t=.nilr true
  ·subst hn;rfl
  ·have:X.okCellX (.d t x:XV den)=true/\X.isOwX (.d t x:XV den)=false:=by
    cases t with
    | nilr o=>cases o with
     | true=>simp_all
     | false=>simpa [X.isArgX] using h
    | _=>simpa [X.isArgX] using h
   rcases gp this.1 this.2 with ⟨y,hy⟩ | ⟨c,hc⟩
   ·rw[hy];rfl
   ·rw[hc];rfl
 | k x=>rfl
 | _=>simp[X.isArgX,X.okCellX] at h
theorem vD:∀(l:List (Option Nat×XV den)) (i:Nat),Sim (Y:=Y) (X.grabs aO i l) (grabs i (l.map λx=>(x.1,er x.2))) (List.map erG):=by
 intro l
 induction l with
 | nil=>intro i;exact .ret rfl
 | cons x l ih=>
  intro i;obtain⟨n,t⟩:=x
  have Zp:(∀m p vs,(n,er t)≠(some m,TV.ptr p vs))->(∀p vs,(n,er t)≠(some 0,TV.pk p vs))->Sim (Y:=Y) (if X.isArgX t then X.grabs aO (i+1) l else X.fail aO) (grabs i (((n,t) :: l).map λx=>(x.1,er x.2))) (List.map erG):=by
   intro hne VL;refine Sim.ite (λh=>?_) λ_=>.fail
   have e:grabs i (((n,t) :: l).map λx=>(x.1,er x.2))=if iV (er t) then grabs (i+1) (l.map λx=>(x.1,er x.2)) else .fail:=by
    show grabs i ((n,er t) :: _)=_
    cases n with
    | none=>rfl
    | some m=>cases he:er t with
     | ptr p vs=>simp_all
     | pk p vs=>cases m with
      | zero=>exact absurd (by rw[he]) (VL p vs)
      | succ m=>rfl
     | _=>cases m<;>rfl
   rw[e,oIP (wQ h)];exact ih (i+1)
  cases n with
  | none=>exact Zp (by intro m p vs h;cases h) (by intro p vs h;cases h)
  | some m=>cases t with
   | pk p vs=>cases m with
    | zero=>exact ih (i+1)
    | succ m=>exact Zp (by intro m p vs h;cases h) (by intro p vs h;cases h)
   | ptr p vs=>exact (co p _ vs).bind λ_=>(tS p).bind λ_=>Sim.bind (by have:=vE (Y:=Y) p.root (X.baseXN p m) p.off;have e:A0 (erP p) m=X.baseXN p m:=(by have ⟨r,o,hs⟩:=p;cases hs<;>rfl);show Sim _ (qj (erP p).base (A0 (erP p) m)) _;rw[e];exact this) λl1=>(ih (i+1)).bind λq=>.ret rfl
   | d t y=>cases t with
    | row o t=>cases m<;>cases o<;>exact Zp (by intro m p vs h;cases h) (by intro p vs h;cases h)
    | nilr o=>cases m<;>cases o<;>exact Zp (by intro m p vs h;cases h) (by intro p vs h;cases h)
    | _=>cases m<;>exact Zp (by intro m p vs h;cases h) (by intro p vs h;cases h)
   | _=>cases m<;>exact Zp (by intro m p vs h;cases h) (by intro p vs h;cases h)
theorem vk(p:XP den):Sim (Y:=Y) (X.touch aO p) (touch (erP p)) id:=Sim.rdC λtv=>vj p.root p.off tv
theorem vn:∀q:List (XGP den),Sim (Y:=Y) (X.rechk aO q) (rechk (q.map erG)) id:=by
 intro q
 induction q with
 | nil=>exact .ret rfl
 | cons g q ih=>exact (co g.p _ g.vs).bind λ_=>(vk g.p).bind λ_=>ih
theorem A5(i:Nat) (t:XV den):er (X.argT i t)=argT i (er t):=by
 cases t with
 | d t y=>cases t with
  | row o t=>cases o<;>rfl
  | nilr o=>cases o<;>rfl
  | _=>rfl
 | _=>rfl
theorem zh:∀(l:List (XV den)) (i:Nat),erL (X.argTs i l)=argTs i (erL l):=by
 intro l
 induction l with
 | nil=>intro i;rfl
 | cons t l ih=>intro i;simp[X.argTs,erL,argTs,ih,A5]
theorem uq{t:XV den}(h:X.isDeadX t=false):sZ (er t)=false:=by
 cases t with
 | d t y=>cases t with
  | row o t=>cases o<;>rfl
  | nilr o=>cases o<;>rfl
  | nat=>simp[X.isDeadX,X.oneT] at h
  | pair a b=>simp[X.isDeadX,X.oneT] at h
  | _=>rfl
 | dead=>simp[X.isDeadX] at h
 | _=>rfl
theorem q9:∀q:List (XGP den×List (XV den)),Sim (Y:=Y) (X.putBack aO q) (putBack (q.map λx=>(erG x.1,erL x.2))) id:=by
 intro q
 induction q with
 | nil=>exact .ret rfl
 | cons x q ih=>
  have ⟨g,l⟩:=x;refine ih.bind λ_=>Sim.ite (λh=>?_) λ_=>.fail;have ⟨h1,h2,h3⟩:=h;show Sim _ (if (erL l).length=(erL g.cells).length && (erL l).all λt=>!sZ t then putL (erP g.p) (erL l) else .fail) id;rw[oIP]
  ·exact sE g.p l
  ·simp only[oBA,oDE,b9];refine⟨h1,?_⟩;rw[dQ,List.all_map,List.all_eq_true];intro t ht;have:=List.all_eq_true.1 h3 t ht;simp at this;simp[uq this]
theorem vQ:∀(sh:List RSh) (l:List (XV den)),erL (X.shapeRX sh l)=dA sh (erL l):=by
 intro sh
 induction sh with
 | nil=>intro l;rfl
 | cons s sh ih=>
  intro l
  cases s with
  | one=>
   simp only[X.shapeRX,erL];rw[ih,qw];cases l<;>rfl
  | agg n=>
   simp only[X.shapeRX,erL,dA,er];rw[ih,iN,jQ]
  | ptr=>
   simp[X.shapeRX,erL,dA,er];rw[ih]
theorem pK(sh:List RSh) (l:List (XV den)):er (X.shapeTX sh l)=jq sh (erL l):=by
 unfold X.shapeTX jq;rw[<- vQ]
 cases X.shapeRX sh l with
 | nil=>rfl
 | cons x r=>cases r<;>rfl
theorem vA(dst:Option Nat) (cells:List (XV den)) (sh:List RSh):Sim (Y:=Y) (X.landR aO dst cells sh) (landR dst ⟨erL cells,sh⟩) id:=by
 cases dst with
 | none=>exact .ret rfl
 | some d=>exact (lZ d cells).bind λl=>bh d (pK sh l)
theorem wP(sh:List RSh) (cells:List (XV den)):isP ⟨erL cells,sh⟩=X.isPX sh cells:=by
 unfold isP X.isPX
 cases sh with
 | nil=>simp_all
 | cons s sh=>cases s with
  | ptr=>cases cells with
   | nil=>rfl
   | cons t r=>cases t with
    | d t y=>cases t with
     | row o t=>cases o<;>rfl
     | nilr o=>cases o<;>rfl
     | _=>rfl
    | _=>rfl
  | _=>rfl
theorem tX(t:XV den) (l:List (XV den)):er (X.shapePX t l)=sN (er t) (erL l):=by
 cases l<;>rfl
theorem vB(dst:Option Nat) (q:List (XGP den)) (cells:List (XV den)):Sim (Y:=Y) (X.landP aO dst q cells) (landP dst (q.map erG) (erL cells)) id:=by
 cases dst with
 | none=>exact .ret rfl
 | some d=>
  unfold X.landP;simp only;split
  ·rename_i pl vs l g;refine Sim.ite (λhc=>?_) λ_=>.fail;show Sim _ (if pl.root==2*g.i+2 && (erP g.p).hops.isEmpty then (rdVs (is g.p.root (g.p.off+pl.off) (erP pl).hops.length)).bind λvs=>wr d (sN (.ptr ⟨g.p.root,g.p.off+pl.off,(erP pl).hops⟩ vs) (erL l)) else .fail) id;rw[oIP (by simpa [erP] using hc)];exact (lw _).bind λvs=>bh d (tX _ l)
  ·exact .fail
theorem Bp(q:List (XGP den)) (l:List (Nat×List (XV den))):(q.zip (l.map (·.2))).map (λx=>(erG x.1,erL x.2))=(q.map erG).zip ((erC l).map (·.2)):=by
 induction q generalizing l with
 | nil=>rfl
 | cons g q ih=>
  cases l with
  | nil=>rfl
  | cons x l=>simp[erC,ih]
theorem tW{F:bT}(dst:Option Nat) (f:FuncId) (vals:List (XV den)) (q:List (XGP den)) (ow:List (Nat×XV den)) (u:HL den []):∀(TB:List Ctr),(∀c∈TB,iZ F c)->Sim (Y:=Y) (X.callTB aO dst f vals q ow u TB) ((eK (F f (erL vals) ((q.map erG).map (λg=>(2*g.i+2,g.cells))++(ow.map λx=>(x.1,er x.2)).map λx=>(2*x.1+3,[x.2])))).bind λr=>
 if r.2.map (·.1)=(q.map erG).map (λg=>2*g.i+2)++(ow.map λx=>(x.1,er x.2)).map (λx=>2*x.1+3) && (isP r.1 || io r.1.sh r.1.cells.length) then (putBack ((q.map erG).zip (r.2.map (·.2)))).bind λ_=>if isP r.1 then landP dst (q.map erG) r.1.cells else landR dst r.1 else .fail) id:=by
 intro TB
 induction TB with
 | nil=>intro _;exact .fail
 | cons c TB ih=>
  intro Zb;have ZX:=ih λc' Xt=>Zb c' (by simp[Xt]);unfold X.callTB
  cases hsel:(if c.f=f then X.convIn aO c vals (q.map (λg=>(2*g.i+2,g.cells))++ow.map λy=>(2*y.1+3,[y.2])) u else none) with
  | none=>exact ZX
  | some h=>
   by_cases hf:c.f=f
   ·rw[oIP hf] at hsel;obtain⟨e1,e2⟩:=qz hsel;intro σ k y hk;obtain⟨o,ho,hk⟩:=aR (show (c.g h).bind _=some y from hk);rw[mK (λz=>X.onOut aO z λx=>X.afterC aO dst q ow x σ k)] at hk
    cases hx:eM (c.outs.map lvO) o (λi ho=>eV c.outs i ho) with
    | none=>rw[hx] at hk;cases hk
    | some x=>
     rw[hx] at hk;have hk:X.afterC aO dst q ow x σ k=some y:=hk;unfold X.afterC at hk;have hF:=Zb c (by simp) h o x ho hx
     have e3:erC (q.map (λg=>(2*g.i+2,g.cells))++ow.map λy=>(2*y.1+3,[y.2]))=(q.map erG).map (λg=>(2*g.i+2,g.cells))++(ow.map λx=>(x.1,er x.2)).map λx=>(2*x.1+3,[x.2]):=by
      unfold erC;rw[List.map_append,List.map_map,List.map_map,List.map_map,List.map_map];congr 1
     rw[e1,e2,e3,hf] at hF;rw[hF];show ∃a σ',(if (erC x.2.2).map (·.1)=(q.map erG).map (λg=>2*g.i+2)++(ow.map λx=>(x.1,er x.2)).map (λx=>2*x.1+3) && (isP ⟨erL x.1,x.2.1⟩ || io x.2.1 (erL x.1).length) then _ else _:SP Unit).run (erS σ)=_/\ge σ σ' ((if (erC x.2.2).map (·.1)=(q.map erG).map (λg=>2*g.i+2)++(ow.map λx=>(x.1,er x.2)).map (λx=>2*x.1+3) && (isP ⟨erL x.1,x.2.1⟩ || io x.2.1 (erL x.1).length) then _ else _:SP Unit).foot (erS σ))/\_;split at hk
     ·rename_i hc;rw[oIP]
      ·have h4:Sim (Y:=Y) (X.bind (X.putBack aO (q.zip (x.2.2.map (·.2)))) λ_=>if X.isPX x.2.1 x.1 then X.landP aO dst q x.1 else X.landR aO dst x.1 x.2.1) ((putBack ((q.map erG).zip ((erC x.2.2).map (·.2)))).bind λ_=>if isP ⟨erL x.1,x.2.1⟩ then landP dst (q.map erG) (erL x.1) else landR dst ⟨erL x.1,x.2.1⟩) id:=by
        rw[<- Bp,wP];refine (q9 _).bind λ_=>?_
        cases X.isPX x.2.1 x.1 with
        | true=>exact vB dst q x.1
        | false=>exact vA dst x.1 x.2.1
       exact h4 σ k y hk
      ·rw[wP];simp only[oBA,oDE,b9];refine⟨?_,hc.2⟩
       have h5:(erC x.2.2).map (·.1)=x.2.2.map (·.1):=by unfold erC;rw[List.map_map];exact List.map_congr_left λ_ _=>rfl
       have h6:(q.map erG).map (λg=>2*g.i+2)=q.map (λg=>2*g.i+2):=by rw[List.map_map];exact List.map_congr_left λ_ _=>rfl
       have h7:(ow.map λx=>(x.1,er x.2)).map (λx=>2*x.1+3)=ow.map (λy=>2*y.1+3):=by simp_all
       rw[h5,h6,h7];exact hc.1
     ·cases hk
   ·rw[oIN hf] at hsel;cases hsel
end
section
variable {α β γ δ Y:Type}
theorem pH{F:bT}{TB:List Ctr}(Zb:∀c∈TB,iZ F c) (u:HL den []) (dst:Option Nat) (f:FuncId) (ns:List (Option Nat)) (vals:List (XV den)):Sim (Y:=Y) (X.callV aO TB u dst f ns vals) (callV F dst f ns (erL vals)) id:=by
 have ez:∀(ns:List (Option Nat)) (vals:List (XV den)),(ns.zip vals).map (λx=>(x.1,er x.2))=ns.zip (erL vals):=by
  intro ns
  induction ns with
  | nil=>simp_all
  | cons n ns ih=>
   intro vals
   cases vals with
   | nil=>rfl
   | cons v vals=>simp[erL,ih]
 unfold callV;rw[<- ez];refine (pF _ 0).bind λow=>(vD _ 0).bind λq=>(vn q).bind λ_=>Sim.ite (λh=>?_) λ_=>.fail;rw[oIP]
 ·rw[<- zh];exact tW dst f _ q ow u TB Zb
 ·rw[List.map_map,List.all_map];simp only[oBA] at h ⊢;refine⟨h.1,?_⟩;rw[List.all_eq_true] at h ⊢;intro g hg;have:=h.2 g hg;simpa [erG,b9] using this
theorem vF(dst:Option Nat) (tm:List BxC) (vals:List (XV den)) (hok:tm.all X.boxOk=true):Sim (Y:=Y) (X.evBox aO dst tm vals) (evBox dst tm (erL vals)) id:=by
 cases dst with
 | none=>exact .fail
 | some d=>
  have e:erL (tm.map (X.bxX aO vals))=tm.map (bxT (erL vals)):=by
   rw[dQ,List.map_map];refine List.map_congr_left λb hb=>?_;have:=List.all_eq_true.1 hok b hb
   cases b with
   | arg i=>exact lH vals i
   | val x=>
    show er (X.cellX aO x)=.v x;rw[lM];simp[X.boxOk] at this;unfold b7;split
    all_goals simp_all
  show Sim _ ((takeL false (tm.map (bxT (erL vals)))).bind _) id;rw[<- e];exact (gh false _).bind λl=>Sim.new rfl (Sim.rdV λg=>bh d rfl)
theorem sD(x:XV den):Sim (Y:=Y) (X.see1 aO x) (see1 (er x)) er:=by
 cases x with
 | d t y=>cases t with
  | int k=>exact .ret rfl
  | bool=>exact .ret rfl
  | str=>exact .ret rfl
  | nat=>exact .fail
  | row o t=>cases o<;>first | exact .fail | exact .ret rfl
  | nilr o=>cases o<;>exact .ret rfl
  | pair a b=>exact .fail
 | k y=>exact .ret rfl
 | pk p vs=>
  refine (co p _ vs).bind λ_=>Sim.rdC λtv=>ly λv hv=>?_;refine Sim.ite (λho=>?_) λ_=>.fail;have ⟨c,hc⟩:=fT ho
  have Y2:aY (er tv) (erP p).hops=some (.ow c):=by rw[<- hc];exact hv
  simp[Y2];intro σ k y hk
  cases hi:X.immX aO v with
  | none=>rw[hi] at hk;cases hk
  | some v'=>
   rw[hi] at hk;exact Sim.ret (by rw[mt hi,hc]) σ k y hk
 | _=>exact .fail
theorem xZ:∀l:List (XV den),Sim (Y:=Y) (X.seeL aO l) (seeL (erL l)) erL:=by
 intro l
 induction l with
 | nil=>exact .ret rfl
 | cons t r ih=>exact (sD t).bind λt'=>ih.bind λr'=>.ret rfl
theorem ya(t:XV den):Sim (Y:=Y) (X.seeA aO t) (seeA (er t)) er:=by
 have ZY:=sD (Y:=Y) t
 cases t with
 | agg l=>exact (xZ l).bind λl'=>.ret rfl
 | ip cs=>exact .ret rfl
 | fn f cap=>
  refine Sim.ite (λh=>?_) λ_=>.fail;show Sim _ (if (erL cap).all rB then .ret (.fn f (erL cap)) else .fail) er;rw[oIP (oP h)];exact .ret rfl
 | d t y=>cases t with
  | row o t=>cases o<;>exact ZY
  | nilr o=>cases o<;>exact ZY
  | _=>exact ZY
 | _=>exact ZY
theorem vm:∀l:List Opd,Sim (Y:=Y) (X.seeAs aO l) (seeAs l) erL:=by
 intro l
 induction l with
 | nil=>exact .ret rfl
 | cons x r ih=>exact aQ λt=>(ya t).bind λt'=>ih.bind λl=>.ret rfl
theorem tk{l:List (XV den)}(h:l.all X.flatX=true):(erL l).all qT=true:=by
 rw[dQ,List.all_map,List.all_eq_true];intro x hx;have:=List.all_eq_true.1 h x hx
 cases x with
 | d t y=>cases t<;>first | rfl | simp[X.flatX] at this
 | k y=>exact this
 | _=>simp[X.flatX] at this
theorem vJ{F:bT}(dst:Option Nat) (f:FuncId) (vals:List (XV den)) (u:HL den []):∀(TB:List Ctr),(∀c∈TB,iZ F c)->Sim (Y:=Y) (X.callB aO dst f vals u TB) (callB F dst f (erL vals)) id:=by
 intro TB
 induction TB with
 | nil=>intro _;exact .fail
 | cons c TB ih=>
  intro Zb;have ZX:=ih λc' Xt=>Zb c' (by simp[Xt]);unfold X.callB
  cases hsel:(if c.f=f then X.convIn aO c vals [] u else none) with
  | none=>exact ZX
  | some h=>
   by_cases hf:c.f=f
   ·rw[oIP hf] at hsel;obtain⟨e1,e2⟩:=qz hsel;intro σ k y hk;have ⟨o,ho,hk⟩:=aR (show (c.g h).bind _=some y from hk);rw[mK (λz=>X.onOut aO z λx=>X.afterB aO dst x σ k)] at hk
    cases hx:eM (c.outs.map lvO) o (λi ho=>eV c.outs i ho) with
    | none=>rw[hx] at hk;cases hk
    | some x=>
     rw[hx] at hk;have hk:X.afterB aO dst x σ k=some y:=hk;unfold X.afterB at hk;have hF:=Zb c (by simp) h o x ho hx;rw[e1,e2,hf] at hF;have hF:F f (erL vals) []=some (⟨erL x.1,x.2.1⟩,erC x.2.2):=hF;unfold callB;rw[hF];show ∃a σ',(if (erC x.2.2).length=0 && (erL x.1).all qT && io x.2.1 (erL x.1).length then _ else _:SP Unit).run (erS σ)=_/\ge σ σ' ((if (erC x.2.2).length=0 && (erL x.1).all qT && io x.2.1 (erL x.1).length then _ else _:SP Unit).foot (erS σ))/\_;split at hk
     ·rename_i hc;rw[oIP]
      ·cases dst with
       | none=>exact Sim.ret (a:=()) (f:=id) rfl σ k y hk
       | some d=>exact bh d (pK x.2.1 x.1) σ k y hk
      ·simp only[oBA,b9];refine⟨⟨?_,tk hc.2.1⟩,hc.2.2⟩;unfold erC
       simp_all
     ·cases hk
   ·simp_all
theorem tV{F:bT}{TB:List Ctr}(Zb:∀c∈TB,iZ F c) (E:Env) (u:HL den []) (dst:Option Nat) (op:TOp):Sim (Y:=Y) (X.evCall aO E TB u dst op) (evCall E F dst op) id:=by
 cases op with
 | call k f args=>
  cases f with
  | f f=>
   cases k with
   | false=>exact (vm _).bind λvals=>vJ dst f vals u TB Zb
   | true=>
   refine (pI _).bind λvals=>?_
   cases hb:E.box f with
   | none=>exact pH Zb u dst f _ vals
   | some x=>
    refine Sim.ite (λh=>?_) λ_=>.fail;show Sim _ (if (erL vals).length=x.1 then evBox dst x.2 (erL vals) else .fail) id;rw[oIP (by rw[b9];exact h.1)];exact vF dst x.2 vals h.2
  | t i=>
   refine Sim.rdT λt=>?_
   cases t with
   | fn f caps=>
    refine (pI _).bind λvals=>?_;have:=pH (Y:=Y) Zb u dst f (args.map (·.1)++zf E f args.length caps.length) (vals++caps);rw[iO] at this;rw[b9];exact this
   | d t y=>cases t with
    | row o t=>cases o<;>exact .fail
    | nilr o=>cases o<;>exact .fail
    | _=>exact .fail
   | _=>exact .fail
  | c x=>exact .fail
 | _=>exact .fail
theorem vw{F:bT}{C:X.Cfg}(Zb:∀c∈C.TB,iZ F c) (u:HL den []) (dst:Option Nat) (op:TOp):Sim (Y:=Y) (X.evop aO C u dst op) (evop (evCall C.E F) dst op) id:=by
 have ZY:∀d,Sim (Y:=Y) (X.ev1 aO C.HT d op) (ev1 d op) id:=λd=>Bq C.HT d op;have kc:=tV (Y:=Y) Zb C.E u dst op
 cases op with
 | call k f args=>exact kc
 | store n mv a x=>cases dst with
  | none=>exact ZY 0
  | some d=>exact .fail
 | _=>cases dst with
  | none=>exact .fail
  | some d=>exact ZY d
theorem lY(dst:Option Nat):Sim (Y:=Y) (X.setNo aO dst) (setNo dst) id:=by
 cases dst with
 | none=>exact .ret rfl
 | some d=>exact ot d (.tup [])
theorem sX{σ:XS den}{j:Nat}{b:Bool}(h:X.tOf σ j=.d .bool b):erS (X.known aO j b σ)=erS σ:=by
 have h1:bd σ.tm j=some (.d .bool b):=by
  unfold X.tOf at h
  cases hg:bd σ.tm j with
  | none=>simp_all
  | some t=>simp_all
 have:=qJ h1;show (⟨(cl σ.tm j (.d .bool b)).map _,erC σ.ce,σ.vr⟩:St)=_;rw[this];rfl
theorem sB{F:bT}{C:X.Cfg}(Zb:∀c∈C.TB,iZ F c) (u:HL den []) (o:dg):Sim (Y:=Y) (X.spOp aO C u o) (spOp (evCall C.E F) o) id:=by
 unfold X.spOp spOp
 cases hg:o.guard with
 | none=>exact vw Zb u o.dst o.op
 | some g=>
  obtain⟨j,want⟩:=g;intro σ k y hk
  cases ht:X.tOf σ j with
  | d t b=>cases t with
   | bool=>
    have hk:(bif b then ((if want then X.evop aO C u o.dst o.op else X.setNo aO o.dst) (X.known aO j true (X.lgR (.t j) σ)) k) else ((if want then X.setNo aO o.dst else X.evop aO C u o.dst o.op) (X.known aO j false (X.lgR (.t j) σ)) k))=some y:=by
     have hk:X.guardX aO j want (X.evop aO C u o.dst o.op) (X.setNo aO o.dst) (X.tOf σ j) (X.lgR (.t j) σ) k=some y:=hk;rw[ht] at hk;exact hk
    have ZY:∀(m:XM den Option Y Unit) (s:SP Unit),Sim m s id->m (X.known aO j b (X.lgR (.t j) σ)) k=some y->∃a σ',s.run (erS σ)=some (id a,erS σ')/\ge σ σ' (.t j :: (s.foot (erS σ)).1,(s.foot (erS σ)).2)/\k a σ'=some y:=by
     intro m s hm h;have e:erS (X.known aO j b (X.lgR (.t j) σ))=erS σ:=sX (σ:=X.lgR (.t j) σ) ht;obtain⟨a,σ',r1,n1,k1⟩:=hm _ k y h;rw[e] at r1 n1;refine⟨a,σ',r1,⟨λx hx=>?_,λx hx=>n1.w x hx,λx hx=>n1.r0 x (by simp[X.known,X.lgR,hx]),λx hx=>n1.w0 x (by simpa [X.known,X.lgR] using hx)⟩,k1⟩;rcases List.mem_cons.1 hx with h | h
     ·exact n1.r0 x (by simp[X.known,X.lgR,h])
     ·exact n1.r x h
    have hst:(erS σ).t j=.v (.bool b):=by rw[yZ,ht];rfl
    have res:∀(s:SP Unit),(if b=want then evop (evCall C.E F) o.dst o.op else setNo o.dst)=s->(∃a σ',s.run (erS σ)=some (id a,erS σ')/\ge σ σ' (.t j :: (s.foot (erS σ)).1,(s.foot (erS σ)).2)/\k a σ'=some y)->∃a σ',(SP.rdT j λt=>match t with | .v (.bool b)=>if b=want then evop (evCall C.E F) o.dst o.op else setNo o.dst | .tup []=>setNo o.dst | _=>.fail).run (erS σ)=some (id a,erS σ')/\ge σ σ' ((SP.rdT j λt=>match t with | .v (.bool b)=>if b=want then evop (evCall C.E F) o.dst o.op else setNo o.dst | .tup []=>setNo o.dst | _=>.fail).foot (erS σ))/\k a σ'=some y:=by
     rintro s hs ⟨a,σ',r1,n1,k1⟩;refine⟨a,σ',?_,?_,k1⟩
     ·simp only[SP.run,hst,hs];exact r1
     ·simp only[SP.foot,hst,hs];exact n1
    cases b with
    | true=>
     cases want with
     | true=>exact res _ (oIP rfl) (ZY _ _ (vw Zb u o.dst o.op) hk)
     | false=>exact res _ (oIN (by simp)) (ZY _ _ (lY o.dst) hk)
    | false=>
     cases want with
     | true=>exact res _ (oIN (by simp)) (ZY _ _ (lY o.dst) hk)
     | false=>exact res _ (oIP rfl) (ZY _ _ (vw Zb u o.dst o.op) hk)
   | _=>
    have hk:X.guardX aO j want (X.evop aO C u o.dst o.op) (X.setNo aO o.dst) (X.tOf σ j) (X.lgR (.t j) σ) k=some y:=hk;rw[ht] at hk;cases hk
  | tup l=>
   have hk:X.guardX aO j want (X.evop aO C u o.dst o.op) (X.setNo aO o.dst) (X.tOf σ j) (X.lgR (.t j) σ) k=some y:=hk;rw[ht] at hk
   cases l with
   | cons=>cases hk
   | nil=>
    have hst:(erS σ).t j=.tup []:=by rw[yZ,ht];rfl
    obtain⟨a,σ',r1,n1,k1⟩:=lY o.dst (X.lgR (.t j) σ) k y hk;refine⟨a,σ',?_,?_,k1⟩
    ·simp only[SP.run,hst];exact r1
    ·simp only[SP.foot,hst];refine⟨λx hx=>?_,n1.w,λx hx=>n1.r0 x (by simp[X.lgR,hx]),λx hx=>n1.w0 x hx⟩;rcases List.mem_cons.1 hx with h | h
     ·exact n1.r0 x (by simp[X.lgR,h])
     ·exact n1.r x h
  | _=>
   have hk:X.guardX aO j want (X.evop aO C u o.dst o.op) (X.setNo aO o.dst) (X.tOf σ j) (X.lgR (.t j) σ) k=some y:=hk;rw[ht] at hk;cases hk
end
section
variable {α β γ δ Y:Type}
theorem xT{F:bT}{C:X.Cfg}(Zb:∀c∈C.TB,iZ F c) (u:HL den []):∀(ops:List dg) {σ:XS den}{k:Unit->XS den->Option Y}{y:Y},X.spOps aO C u ops σ k=some y->∃ σ',js (evCall C.E F) ops (erS σ)=some (erS σ')/\k () σ'=some y:=by
 intro ops
 induction ops with
 | nil=>intro σ k y h;exact⟨σ,rfl,h⟩
 | cons o ops ih=>
  intro σ k y h;have ⟨a,σ1,r1,_,h1⟩:=sB Zb u o σ _ y h;have ⟨σ',r2,h2⟩:=ih h1;refine⟨σ',?_,h2⟩;simp[js];rw[sw r1];exact r2
def th(f g:iS):Prop:=(∀x∈f.1,x∈g.1)/\∀x∈f.2,x∈g.2
inductive Bn:List (Nat×iS)->List (Nat×iS)->Prop
 | nil:Bn [] []
 | cons {i:Nat} {f g:iS} {l r:List (Nat×iS)} (h:th f g) (t:Bn l r):Bn ((i,f) :: l) ((i,g) :: r)
theorem jA{a a' b b':List Loc}(ha:∀x∈a,x∈a') (hb:∀x∈b,x∈b') (h:um a' b'=false):um a b=false:=by
 unfold um at h ⊢
 simp_all
theorem uM{f f' g g':iS}(h1:th f f') (h2:th g g') (h:gL f' g'=false):gL f g=false:=by
 unfold gL at h ⊢;simp at h ⊢;have ⟨⟨⟨a,b⟩,c⟩,d⟩:=h;exact⟨⟨⟨jA h1.2 h2.1 a,jA h1.2 h2.2 b⟩,jA h2.2 h1.1 c⟩,jA h2.2 h1.2 d⟩
theorem wA{deps:List (List Nat)}{j:Nat}{f f':iS}(hf:th f f') {l r:List (Nat×iS)}(h:Bn l r):(r.all λy=>!gL f' y.2 || (deps.getD y.1 []).contains j)=true->(l.all λy=>!gL f y.2 || (deps.getD y.1 []).contains j)=true:=by
 induction h with
 | nil=>exact id
 | cons h t ih=>
  intro hr;simp only[List.all_cons,oBA] at hr ⊢;refine⟨?_,ih hr.2⟩;simp at hr ⊢;rcases hr.1 with h3 | h3
  ·exact .inl (uM hf h h3)
  ·simp_all
theorem pU{deps:List (List Nat)}{l r:List (Nat×iS)}(h:Bn l r):de deps r=true->de deps l=true:=by
 induction h with
 | nil=>exact id
 | cons h t ih=>
  intro hr;simp only[de,oBA] at hr ⊢;exact⟨wA h t hr.1,ih hr.2⟩
theorem z6{F:bT}{C:X.Cfg}(Zb:∀c∈C.TB,iZ F c) (u:HL den []) (ops:List dg):∀(L:List Nat) {σ:XS den}{k:List (Nat×iS)->XS den->Option Y}{y:Y},X.spFL aO C u ops L σ k=some y ->
 ∃fs gs σ',iT (λi=>spOp (evCall C.E F) (ops.getD i qQ)) L (erS σ)=some (fs,erS σ')/\Bn fs gs/\k gs σ'=some y:=by
 intro L
 induction L with
 | nil=>intro σ k y h;exact⟨[],[],σ,rfl,.nil,h⟩
 | cons i L ih=>
  intro σ k y h;have ⟨a,σ1,r1,n1,h1⟩:=sB Zb u _ _ _ y h;have r1:(spOp (evCall C.E F) (ops.getD i qQ)).run (erS σ)=some (a,erS σ1):=r1;have ⟨fs,gs,σ',r2,le,h2⟩:=ih h1;refine⟨(i,(spOp (evCall C.E F) (ops.getD i qQ)).foot (erS σ)) :: fs,(i,σ1.lg) :: gs,σ',?_,.cons ⟨n1.r,n1.w⟩ le,h2⟩;simp[iT]
  simp_all
theorem ko(L:List Nat) (σ:XS den) {t:XV den}(h:X.okN0 t=true):er (X.renorm0 L σ t)=renorm0 L (erS σ) (er t):=by
 cases t with
 | d t x=>cases t with
  | row o t=>cases o<;>first | rfl | simp[X.okN0] at h
  | nilr o=>cases o<;>rfl
  | nat=>simp[X.okN0] at h
  | pair a b=>simp[X.okN0] at h
  | _=>rfl
 | ptr p vs=>
  show er (if _ then _ else _)=(if _ then _ else _);by_cases hc:(L.contains p.root && vs==dG (jb σ.vr) p.root p.off p.hops.length)=true
  ·rw[oIP hc,oIP (by exact hc)];rfl
  ·rw[oIN hc,oIN (by exact hc)];rfl
 | pk p vs=>
  show er (if _ then _ else _)=(if _ then _ else _);by_cases hc:(L.contains p.root && vs==dG (jb σ.vr) p.root p.off (p.hops.length+1))=true
  ·rw[oIP hc,oIP (by exact hc)];rfl
  ·rw[oIN hc,oIN (by exact hc)];rfl
 | pw p vs sz lo n=>
  show er (if _ then _ else _)=(if _ then _ else _);by_cases hc:(L.contains p.root && vs==dG (jb σ.vr) p.root p.off (p.hops.length+1))=true
  ·rw[oIP hc,oIP (by exact hc)];rfl
  ·rw[oIN hc,oIN (by exact hc)];rfl
 | tup l=>cases l<;>rfl
 | gap=>simp[X.okN0] at h
 | _=>rfl
theorem we(L:List Nat) (σ:XS den) {t:XV den}(h:X.okN t=true):er (X.renorm L σ t)=renorm L (erS σ) (er t):=by
 have ZY:X.okN0 t=true->er (X.renorm0 L σ t)=renorm0 L (erS σ) (er t):=λh=>ko L σ h
 cases t with
 | agg l=>
  simp only[X.renorm,er,renorm,dQ,List.map_map];congr 1;refine List.map_congr_left λx hx=>ko L σ (List.all_eq_true.1 h x hx)
 | fn f l=>
  simp only[X.renorm,er,renorm,dQ,List.map_map];congr 1;refine List.map_congr_left λx hx=>ko L σ (List.all_eq_true.1 h x hx)
 | d t x=>
  have:=ZY h
  cases t with
  | row o t=>cases o<;>exact this
  | nilr o=>cases o<;>exact this
  | _=>exact this
 | _=>exact ZY h
theorem zk{α:Type}{P:α->Bool}:∀{l:List (Nat×α)}{i:Nat}{t:α},(l.all λx=>P x.2)=true->bd l i=some t->P t=true:=by
 intro l
 induction l with
 | nil=>intro i t _ h;simp[bd] at h
 | cons x l ih=>
  intro i t ha h;simp only[List.all_cons,oBA] at ha;simp[bd] at h;split at h
  ·simp_all
  ·exact ih ha.2 h
theorem yH(L:List Nat) (σ:XS den) (hok:X.okS σ=true):∀l:List Nat,(X.normT L σ l).map (λx=>(x.1,er x.2))=normT L (erS σ) l:=by
 intro l
 induction l with
 | nil=>rfl
 | cons i l ih=>
  simp[X.normT,normT];have e:bd (erS σ).tm i=(bd σ.tm i).map er:=lN _ _ _;rw[e]
  cases h:bd σ.tm i with
  | none=>exact ih
  | some t=>
   have ht:=zk hok h;simp only[oMS,List.map_cons];rw[we L σ ht,ih]
theorem yI(σ:XS den):∀l:List Nat,erC (X.normC σ l)=normC (erS σ) l:=by
 intro l
 induction l with
 | nil=>rfl
 | cons r l ih=>
  simp[X.normC,normC];rw[nW]
  cases h:bd σ.ce r with
  | none=>exact ih
  | some c=>
   simp;show (r,erL c) :: erC _=_;rw[ih]
theorem oD{σ:XS den}(hok:X.okS σ=true) (pers:Prs):erS (X.norm σ pers)=(erS σ).norm pers:=by
 unfold X.norm St.norm;show (⟨(X.normT pers.2 σ pers.1).map _,erC (X.normC σ pers.2),[]⟩:St)=_;rw[yH _ σ hok,yI]
theorem xB{σ:XS den}(hok:X.okS σ=true):erS (X.anew σ)=(erS σ).anew:=by
 unfold X.anew St.anew;rw[oD hok];congr 1;congr 1
 ·show _=(σ.tm.map λx=>(x.1,er x.2)).map (·.1)
  simp_all
 ·show _=(erC σ.ce).map (·.1);unfold erC
  simp_all
theorem xY(x:Nat×Option Nat):Sim (Y:=Y) (X.shr1 aO x) (shr1 x) id:=by
 obtain⟨i,off⟩:=x;refine Sim.rdT λt=>?_
 cases off with
 | none=>cases t with
  | pk p vs=>
   refine (cK false (.pk p vs)).bind λt'=>Sim.opt λt2 h2=>?_;rw[<- mt h2];exact ot i t2
  | d t y=>cases t with
   | row o t=>cases o<;>exact .ret rfl
   | nilr o=>cases o<;>exact .ret rfl
   | _=>exact .ret rfl
  | agg l=>exact Sim.ite (λ_=>.fail) λ_=>.ret rfl
  | _=>exact .fail
 | some off=>cases t with
  | ptr p vs=>
   refine (co p _ vs).bind λ_=>Sim.ite (λh=>?_) λ_=>.fail;rw[oIP (by rw[<- o9];exact h),<- rP];refine (dM _).bind λt=>Sim.ite (λho=>?_) λho=>?_
   ·obtain⟨c,hc⟩:=fT ho;have Vi:=dL (Y:=Y) (X.addP p off) t;rw[hc] at Vi;rw[hc];exact Vi.bind λt'=>(cK false t').bind λ_=>.ret rfl
   ·cases t with
    | d t y=>
     cases t with
     | row o t=>cases o<;>first | exact .ret rfl | simp[X.isOwX,X.isOwT] at ho
     | nilr o=>cases o<;>first | exact .ret rfl | simp[X.isOwX,X.isOwT] at ho
     | _=>exact .ret rfl
    | _=>exact .fail
  | d t y=>cases t with
   | row o t=>cases o<;>exact .fail
   | nilr o=>cases o<;>exact .fail
   | _=>exact .fail
  | _=>exact .fail
theorem sC:∀l:List (Nat×Option Nat),Sim (Y:=Y) (X.shrs aO l) (shrs l) id:=by
 intro l
 induction l with
 | nil=>exact .ret rfl
 | cons x l ih=>exact (xY x).bind λ_=>ih
theorem Av{i:Nat}{σ:XS den}{u:HL den []}:∀{L:List qP}{H:qP}{h:HL den (lvS H.s)},X.selH aO i σ u L=some ⟨H,h⟩->X.convS aO H.s σ u=some h:=by
 intro L
 induction L with
 | nil=>intro H h hs;cases hs
 | cons H0 L ih=>
  intro H h hs;unfold X.selH at hs
  grind
theorem nX{Z:Type}{outs:List (dU×Shs)}{i:Nat}{h:HL den (oC (outs.map λx=>lvS x.2) i)}{o:og (outs.map λx=>lvS x.2)}{x:dU×XS den}(K:dU×XS den->Option Z) (hm:kx (outs.map λx=>lvS x.2) i h=some o) (hf:kV outs i h=some x):(eM (outs.map λx=>lvS x.2) o λj ho=>X.onOut aO (kV outs j ho) K)=K x:=by
 rw[nY _ hm,hf];rfl
theorem yb{F:bT}{C:X.Cfg}(Zb:∀c∈C.TB,iZ F c) (u:HL den []) {N:Nat}(hN:NN<=N):∀(tc:dV) (i:Nat) {Y:Type}(σ:XS den) (k:dU->XS den->Option Y) (y:Y),X.runC aO C u tc i σ k=some y->∃e σ',runC (evCall C.E F) N tc (erS σ)=some (e,erS σ')/\k e σ'=some y:=by
 intro tc
 induction tc with
 | skip=>intro i Y σ k y h;exact⟨.normal,σ,rfl,h⟩
 | nrm pers=>
  intro i Y σ k y h;have h:(if X.okS σ then k .normal (X.norm σ pers) else none)=some y:=h;split at h
  ·rename_i hok;exact⟨.normal,X.norm σ pers,by rw[oD hok];rfl,h⟩
  ·cases h
 | reg id draw ops pers=>
  intro i Y σ k y h
  cases draw with
  | none=>
   have h:X.spOps aO C u ops σ (λ_ σ'=>if X.okS σ' then k .normal (X.norm σ' pers) else none)=some y:=h;obtain⟨σ1,r1,h1⟩:=xT Zb u ops h;split at h1
   ·rename_i hok;refine⟨.normal,X.norm σ1 pers,?_,h1⟩;simp only[runC];rw[r1,oD hok];rfl
   ·cases h1
  | some deps=>
   obtain⟨fs,gs,σ1,r1,le,h1⟩:=z6 Zb u ops _ h;split at h1
   ·rename_i hok;simp only[oBA] at hok;rw[rl] at hok;refine⟨.normal,X.norm σ1 pers,?_,h1⟩;simp only[runC];rw[r1,oD hok.2];simp only[oBS];rw[oIP (pU le hok.1)]
   ·cases h1
 | seq a b Zo Zi=>
  intro i Y σ k y h
  have fin:∀(e:dU) (σ1:XS den),runC (evCall C.E F) N a (erS σ)=some (e,erS σ1)->(match e with | .normal=>X.runC aO C u b (i+1+X.marks a) σ1 k | e=>k e σ1)=some y->∃e σ',runC (evCall C.E F) N (.seq a b) (erS σ)=some (e,erS σ')/\k e σ'=some y:=by
   intro e σ1 r1 h1;simp only[runC];rw[r1];simp only[oBS]
   cases e with
   | normal=>exact Zi _ σ1 k y h1
   | exit j=>exact⟨_,σ1,rfl,h1⟩
   | ret=>exact⟨_,σ1,rfl,h1⟩
  unfold X.runC at h
  cases hs:X.selJ i C.HL with
  | none=>
   rw[hs] at h;obtain⟨e,σ1,r1,h1⟩:=Zo _ σ _ y h;exact fin e σ1 r1 h1
  | some H=>
   rw[hs] at h;obtain⟨o,h1,h2⟩:=aR (show (X.runC aO C u a (i+1) σ _:Option _).bind _=some y from h);obtain⟨e,σ1,r1,h3⟩:=Zo _ σ _ o h1
   cases hi:X.injE aO e σ1 u H.outs with
   | none=>rw[hi] at h3;cases h3
   | some x=>
    rw[hi] at h3;obtain⟨j,ho⟩:=x;have h3:kx (H.outs.map λx=>lvS x.2) j ho=some o:=h3;obtain⟨x,hf,he,hσ⟩:=wT hi;rw[nX _ h3 hf] at h2;rw[<- hσ] at r1;rw[<- he] at r1;exact fin x.1 x.2 r1 h2
 | cond c a b Zo Zi=>
  intro i Y σ k y h;obtain⟨t,σ1,r1,e1,_,h1⟩:=lB h
  cases t with
  | d t x=>cases t with
   | bool=>
    have Tb:erS (X.knownO aO c x σ)=erS σ:=by
     cases c with
     | t j=>
      have hj:X.tOf σ j=.d .bool x:=by
       have h9:X.condX aO (X.runC aO C u a i (X.knownO aO (.t j) true σ) k) (X.runC aO C u b (i+X.marks a) (X.knownO aO (.t j) false σ) k) (X.tOf σ j)=some y:=h;have r1:(some ((erS σ).t j,erS σ):Option (TV×St))=some (er (.d .bool x),erS σ):=r1
       injection r1 with r1
       injection r1 with r1 _
       rw[yZ] at r1
       cases ht:X.tOf σ j with
       | d t2 z=>cases t2 with
        | bool=>rw[ht] at r1;injection r1 with r1;injection r1 with r1;rw[show z=x from r1]
        | _=>rw[ht] at h9;cases h9
       | _=>rw[ht] at h9;cases h9
      exact sX hj
     | _=>rfl
    have r1:(opd c).run (erS σ)=some (.v (.bool x),erS σ):=r1;simp only[runC];rw[r1];simp only[oBS]
    cases x with
    | true=>
     rw[<- Tb];exact Zo _ _ k y h1
    | false=>
     rw[<- Tb];exact Zi _ _ k y h1
   | _=>cases h1
  | _=>cases h1
 | block id b ih=>
  intro i Y σ k y h;unfold X.runC at h;obtain⟨e,σ1,r1,h1⟩:=ih _ σ _ y h;simp only[runC];rw[r1];simp only[oBS]
  grind
 | loop b ih=>
  intro i Y σ k y h;unfold X.runC at h
  cases hs:X.selH aO i σ u C.HL with
  | none=>rw[hs] at h;cases h
  | some x=>
   obtain⟨H,h0⟩:=x;rw[hs] at h;have Uf:=pe (Av hs);obtain⟨o,h1,h2⟩:=aR (show (bn _ NN h0).bind _=some y from h)
   have ZY:∀(n:Nat) (hd:HL den (lvS H.s)) (o:og (H.outs.map λx=>lvS x.2)),bn (λh=>X.runC aO C u b (i+1) (rN H.s h) (X.roundK aO H u)) n hd=some o->∀N',n<=N'->∃x j ho,AN (runC (evCall C.E F) N b) N' (erS (rN H.s hd))=some (x.1,erS x.2)/\kx (H.outs.map λx=>lvS x.2) j ho=some o/\kV H.outs j ho=some x:=by
    intro n
    induction n with
    | zero=>intro hd o h;cases h
    | succ n Q0=>
     intro hd o h N' YV;obtain⟨N',rfl⟩:∃PI,N'=PI+1:=⟨N' - 1,by omega⟩;obtain⟨z,hz,Wh⟩:=aR (show (X.runC aO C u b (i+1) (rN H.s hd) _:Option _).bind _=some o from h);obtain⟨e,σ1,r1,h3⟩:=ih _ _ _ z hz;simp only[AN];rw[r1];simp only[oBS]
     have Zp:∀e':dU,(∀s:Option (HL den (lvS H.s)⊕og (H.outs.map λx=>lvS x.2)),s=some z->s=X.onOut aO (X.injE aO e' σ1 u H.outs) (λx=>aO.exitL (lvS H.s) (H.outs.map λx=>lvS x.2) x.1 x.2)->∃x j ho,(some (e',erS σ1):Option (dU×St))=some (x.1,erS x.2)/\kx (H.outs.map λx=>lvS x.2) j ho=some o/\kV H.outs j ho=some x):=by
      intro e' s Yr YL;rw[Yr] at YL
      cases hi:X.injE aO e' σ1 u H.outs with
      | none=>rw[hi] at YL;cases YL
      | some x=>
       rw[hi] at YL;obtain⟨j,ho⟩:=x;obtain⟨t,WK,YD⟩:=cX (show (kx (H.outs.map λx=>lvS x.2) j ho).map Sum.inr=some z from YL.symm);subst YD;obtain⟨x,hf,he,hσ⟩:=wT hi;refine⟨x,j,ho,by rw[he,hσ],?_,hf⟩;have:some t=some o:=Wh;rw[<- this];exact WK
     cases e with
     | normal=>
      have h3:X.onOut aO (X.convS aO H.s σ1 u) (aO.next (lvS H.s) (H.outs.map λx=>lvS x.2))=some z:=h3
      cases hc:X.convS aO H.s σ1 u with
      | none=>rw[hc] at h3;cases h3
      | some h'=>
       rw[hc] at h3;have h3:some (Sum.inl h')=some z:=h3
       injection h3 with h3
       subst h3;rw[<- pe hc];exact Q0 h' o Wh N' (by omega)
     | exit j=>exact Zp (.exit j) _ h3 rfl
     | ret=>exact Zp .ret _ h3 rfl
   obtain⟨x,j,ho,r1,hm,hf⟩:=ZY NN h0 o h1 N hN;rw[nX _ hm hf] at h2;refine⟨x.1,x.2,?_,h2⟩;simp only[runC];rw[<- Uf];exact r1
 | exit id=>intro i Y σ k y h;exact⟨.exit id,σ,rfl,h⟩
 | ret=>intro i Y σ k y h;exact⟨.ret,σ,rfl,h⟩
 | pre l a ih=>
  intro i Y σ k y h;obtain⟨_,σ1,r1,_,h1⟩:=sC l σ _ y h;split at h1
  ·rename_i hok;obtain⟨e,σ2,r2,h2⟩:=ih _ _ k y h1;refine⟨e,σ2,?_,h2⟩;simp only[runC];rw[r1];simp only[oBS];rw[<- xB hok];exact r2
  ·cases h1
 | post a l ih=>
  intro i Y σ k y h;obtain⟨e,σ1,r1,h1⟩:=ih _ _ _ y h;obtain⟨_,σ2,r2,_,h2⟩:=sC l σ1 _ y h1;split at h2
  ·rename_i hok;refine⟨e,X.anew σ2,?_,h2⟩;simp only[runC];rw[r1];simp only[oBS];rw[r2];simp only[oBS];rw[xB hok]
  ·cases h2
end
section
variable {α β γ δ Y:Type}
theorem nI(np:Nat) (t:XV den):Sim (Y:=Y) (X.takeR1 aO np t) (takeR1 np (er t)) er:=by
 have ZY:Sim (Y:=Y) (X.take1 aO true t) (take1 true (er t)) er:=cK true t
 cases t with
 | pk p vs=>exact cK _ (.pk p vs)
 | d t y=>cases t with
  | row o t=>cases o<;>exact ZY
  | nilr o=>cases o<;>exact ZY
  | _=>exact ZY
 | _=>exact ZY
theorem tR(np:Nat):∀l:List (XV den),Sim (Y:=Y) (X.takeRL aO np l) (takeRL np (erL l)) erL:=by
 intro l
 induction l with
 | nil=>exact .ret rfl
 | cons t l ih=>exact (nI np t).bind λt'=>ih.bind λr'=>.ret rfl
theorem kf(np:Nat) (t:XV den):Sim (Y:=Y) (X.takeRV aO np t) (takeRV np (er t)) λx=>(erL x.1,x.2):=by
 have one:∀t:XV den,Sim (Y:=Y) (X.bind (X.takeR1 aO np t) λt'=>X.ret ([t'],RSh.one)) ((takeR1 np (er t)).bind λt'=>.ret ([t'],.one)) λx=>(erL x.1,x.2):=λt=>(nI np t).bind λt'=>.ret rfl;have ZY:=one t
 cases t with
 | agg l=>exact (tR np l).bind λl'=>.ret (by simp[b9])
 | d t y=>cases t with
  | row o t=>cases o<;>exact ZY
  | nilr o=>cases o<;>exact ZY
  | _=>exact ZY
 | _=>exact ZY
theorem ye(np:Nat) (q:TRs):Sim (Y:=Y) (X.res1 aO np q) (res1 np q) λx=>(erL x.1,x.2):=by
 cases q with
 | tmp t=>exact Sim.rdT λtv=>kf np tv
 | cell t n=>
  refine Sim.rdT λtv=>?_
  cases tv with
  | ptr p vs=>
   refine (co p _ vs).bind λ_=>?_
   cases n with
   | none=>exact (dM p).bind λt=>(dL p t).bind λt'=>kf np t'
   | some n=>exact (pG p n).bind λl=>kf np (.agg l)
  | d t y=>cases t with
   | row o t=>cases o<;>exact .fail
   | nilr o=>cases o<;>exact .fail
   | _=>exact .fail
  | _=>exact .fail
theorem yc(np:Nat):∀l:List TRs,Sim (Y:=Y) (X.resL aO np l) (resL np l) λx=>(erL x.1,x.2):=by
 intro l
 induction l with
 | nil=>exact .ret rfl
 | cons q l ih=>exact (ye np q).bind λx=>ih.bind λy=>.ret (by simp[iO])
theorem wC(l:List (XV den)):onesOf (erL l)=X.onesOf l:=by
 induction l with
 | nil=>rfl
 | cons t l ih=>simp[erL,onesOf,X.onesOf,ih]
theorem tU:∀l:List TRs,Sim (Y:=Y) (X.flatsR aO l) (flatsR l) erL:=by
 intro l
 induction l with
 | nil=>exact .ret rfl
 | cons q l ih=>cases q with
  | cell t n=>exact .fail
  | tmp t=>
   refine Sim.rdT λtv=>Sim.ite (λhc=>?_) λ_=>.fail
   have h1:qT (er tv)=true:=by
    have:=tk (l:=[tv]) (by simp_all);simpa [erL] using this
   rw[oIP h1];exact ih.bind λl=>.ret rfl
theorem yd(np:Nat) (l:List TRs):Sim (Y:=Y) (X.resF aO np l) (resF np l) λx=>(erL x.1,x.2):=by
 have base:=yc (Y:=Y) np l
 cases l with
 | nil=>exact base
 | cons q r=>cases q with
  | cell t n=>exact base
  | tmp t=>
   refine Sim.rdT λtv=>?_
   cases tv with
   | ptr p vs=>exact (co p _ vs).bind λ_=>(tU r).bind λl=>.ret (by simp[wC];rfl)
   | d ty y=>cases ty with
    | row o ty=>cases o<;>exact base
    | nilr o=>cases o<;>exact base
    | _=>exact base
   | _=>exact base
theorem wN(t:XV den):(∃p vs,t=.ptr p vs)\/(X.isPtrX t=false/\∀p vs,er t≠.ptr p vs):=by
 cases t with
 | ptr p vs=>simp_all
 | d t y=>cases t with
  | row o t=>cases o<;>exact .inr ⟨rfl,by simp[er,er1]⟩
  | nilr o=>cases o<;>exact .inr ⟨rfl,by simp[er,er1]⟩
  | _=>exact .inr ⟨rfl,by simp[er,er1]⟩
 | gap t x i o=>exact .inr ⟨rfl,λp vs h=>by cases h⟩
 | _=>exact .inr ⟨rfl,by simp[er]⟩
theorem yN{t:XV den}(h:X.isShX t=true):∃c,er t=.sl c:=by
 cases t with
 | d t y=>cases t with
  | row o t=>cases o with
   | false=>exact⟨_,rfl⟩
   | true=>cases h
  | nilr o=>cases o with
   | false=>exact⟨_,rfl⟩
   | true=>cases h
  | _=>cases h
 | _=>cases h
theorem ud{pp:List Nat}:∀{l:List (XV den)}{i:Nat},X.ptrsInX pp i l=true->fR pp i (erL l)=true:=by
 intro l
 induction l with
 | nil=>intro i _;rfl
 | cons t l ih=>
  intro i h;simp only[X.ptrsInX,oBA] at h;have ⟨⟨h0,hs⟩,hr⟩:=h;rcases wN t with ⟨p,vs,rfl⟩ | ⟨h1,h2⟩
  ·show (pp.contains i && fR pp (i+1) (erL l))=true;rw[ih hr,Bool.and_true];simpa [X.isPtrX] using h0
  ·show fR pp i (er t :: erL l)=true;rw[h1,Bool.false_or] at hs
   cases hsh:X.isShX t with
   | true=>
    have ⟨c,hc⟩:=yN hsh;rw[hc];exact ih hr
   | false=>
    rw[hsh,Bool.false_or] at hs
    cases he:er t with
    | ptr p vs=>simp_all
    | sl c=>exact ih hr
    | _=>show (!pp.contains (1000+i) && fR pp (i+1) (erL l))=true;rw[hs,ih hr];rfl
theorem rm(l:List (XV den)):∀i,(cE i l).map (λx=>(x.1,er x.2))=cE i (erL l):=by
 induction l with
 | nil=>intro i;rfl
 | cons t l ih=>intro i;simp[cE,erL,ih]
theorem AI(vals:List (XV den)) (pts:List (Nat×List (XV den))):erS (X.mkSt vals pts)=mkSt (erL vals) (erC pts):=by
 unfold X.mkSt mkSt erS;simp[rm]
theorem yB(σ:XS den) (pts:List (Nat×List (XV den))):erC (X.ptsOf σ pts)=(erC pts).map λx=>(x.1,(bd (erS σ).ce x.1).getD []):=by
 induction pts with
 | nil=>rfl
 | cons x pts ih=>
  show (x.1,erL ((bd σ.ce x.1).getD [])) :: erC (X.ptsOf σ pts)=(x.1,(bd (erS σ).ce x.1).getD []) :: _;rw[ih,nW];cases bd σ.ce x.1<;>rfl
theorem Az{F:bT}{C:X.Cfg}(Zb:∀c∈C.TB,iZ F c) (u:HL den []) {N:Nat}(hN:NN<=N) {tf:TFn}{outs:List XO}{vals:List (XV den)}{pts:List (Nat×List (XV den))}{o:og (outs.map lvO)}(h:X.runT aO C u tf outs vals pts=some o) :
 ∃x,eM (outs.map lvO) o (λi ho=>eV outs i ho)=some x/\runT C.E F N tf (erL vals) (erC pts)=some (⟨erL x.1,x.2.1⟩,erC x.2.2):=by
 unfold X.runT at h;split at h
 case isFalse=>cases h
 rename_i hc;obtain⟨e,σ1,r1,h1⟩:=yb Zb u hN tf.body 0 _ _ o h
 have ZY:X.resF aO tf.np tf.res σ1 (λy σ'=>X.onOut aO (X.injO aO y.1 y.2 (X.ptsOf σ' pts) u outs) λx=>aO.out (outs.map lvO) x.1 x.2)=some o ->
  ∃x,eM (outs.map lvO) o (λi ho=>eV outs i ho)=some x/\(((resF tf.np tf.res).run (erS σ1)).bind λy=>some ((⟨y.1.1,y.1.2⟩:uY),(erC pts).map λx=>(x.1,(bd y.2.ce x.1).getD [])))=some (⟨erL x.1,x.2.1⟩,erC x.2.2):=by
  intro h2;obtain⟨y,σ2,r2,_,h3⟩:=yd tf.np tf.res σ1 _ o h2
  cases hi:X.injO aO y.1 y.2 (X.ptsOf σ2 pts) u outs with
  | none=>rw[hi] at h3;cases h3
  | some z=>
   rw[hi] at h3;obtain⟨i,ho⟩:=z;obtain⟨x,hf,e1,e2,e3⟩:=AQ hi;refine⟨x,?_,?_⟩
   ·rw[nY _ (show kx (outs.map lvO) i ho=some o from h3)];exact hf
   ·rw[r2];simp only[oBS];rw[e1,e2,e3,yB]
 have Z5:(erL vals).length=tf.np/\(fR tf.pp 0 (erL vals) && (!tf.pp.contains 1000 || (erC pts).isEmpty))=true:=by
  have h2:=hc.2;rw[oBA] at h2;refine⟨by rw[b9];exact hc.1,?_⟩;rw[ud h2.1,Bool.true_and];have h3:=h2.2
  cases pts with
  | nil=>simp[erC]
  | cons x pts=>simp_all
 unfold runT;rw[oIP Z5,<- AI,r1]
 cases e with
 | exit j=>cases h1
 | normal=>exact ZY h1
 | ret=>simp_all
end
theorem y9{E:Env}{T:FuncId->Option TFn}{B F:bT}{N:Nat}(hN:NN<=N) {C:X.Cfg}(hE:C.E=E) (Zb:∀c∈C.TB,iZ F c) {c:Ctr}{tf:TFn}(hT:T c.f=some tf)
 (hg:∀h,X.runT aO C () tf c.outs (dl c.ins _ h).1 (jP c.pts [] (dl c.ins _ h).2).1=c.g h):iZ (qZ E T B F N) c:=by
 intro h o x ho hx;rw[tO hT];rw[<- hg h] at ho;have ⟨x',h1,h2⟩:=Az Zb () hN ho
 simp_all
def Lvl(E:Env) (T:FuncId->Option TFn) (B:bT) (n:Nat) (c:Ctr):Prop:=∀k,n<=k->iZ (runF E T B (NN+k)) c
def tJ(E:Env) (T:FuncId->Option TFn) (B:bT) (n:Nat):List Ctr->Prop
 | []=>True
 | c :: r=>Lvl E T B n c/\tJ E T B n r
theorem Lvl.mono{E:Env}{T:FuncId->Option TFn}{B:bT}{n m:Nat}{c:Ctr}(h:Lvl E T B n c) (hm:n<=m):Lvl E T B m c:=λk hk=>h k (Nat.le_trans hm hk)
theorem tJ.get{E:Env}{T:FuncId->Option TFn}{B:bT}{n:Nat}:∀{l:List Ctr},tJ E T B n l->∀c∈l,Lvl E T B n c:=by
 intro l
 induction l with
 | nil=>simp_all
 | cons x l ih=>
  intro h c hc;rcases List.mem_cons.1 hc with rfl | hc
  ·exact h.1
  ·exact ih h.2 c hc
theorem Cd{E:Env}{T:FuncId->Option TFn}{B:bT}{n:Nat}{C:X.Cfg}(hE:C.E=E) (Zb:tJ E T B n C.TB) {c:Ctr}{tf:TFn}(hT:T c.f=some tf)
 (hg:∀h,X.runT aO C () tf c.outs (dl c.ins _ h).1 (jP c.pts [] (dl c.ins _ h).2).1=c.g h):Lvl E T B (n+1) c:=by
 intro k hk;obtain⟨k,rfl⟩:∃k',k=k'+1:=⟨k - 1,by omega⟩;exact y9 (F:=runF E T B (NN+k)) (Nat.le_add_right _ _) hE (λc hc=>Zb.get c hc k (by omega)) hT hg
theorem uH{P:Program}{H:Nat->List (Nat×Option Nat)}{f:FuncId}{tf:TFn}(h:kE P H f=some tf):∃fn,P.funcs[f]?=some fn/\tf.np<=fn.params.size+fn.nfree/\tf.nt=fn.ntmps:=by
 unfold kE at h;split at h
 case h_2=>simp at h
 split at h
 case h_2=>simp at h
 split at h
 ·rename_i Q7 Zd;have ⟨_,g2,g3,_⟩:=kX Zd
  simp_all
 simp only at h;split at h
 ·injection h with h
  subst h
  simp_all
 ·simp at h
theorem zW{P:Program}(H:FuncId->Nat->List (Nat×Option Nat)) (ZS:(P.funcs.all λfn=>decide (fn.params.size+fn.nfree<=fn.ntmps) && !(fn.name=="runtime.NumGoroutine"))=true):xG P λf=>kE P (H f) f:=by
 refine xR λf tf h=>?_;have ⟨fn,hf,e1,e2⟩:=uH h;have ⟨hlt,he⟩:=Array.getElem?_eq_some_iff.1 hf;have:=Array.all_eq_true.1 ZS f hlt;rw[he] at this;simp at this;refine⟨⟨H f,h⟩,by omega,λPq TX=>?_⟩
 simp_all
def CJ:TFn:=⟨0,[],0,.skip,[]⟩
theorem Cn{o:Option TFn}(h:o.isSome=true):o=some (o.getD CJ):=by
 cases o with
 | none=>simp at h
 | some x=>rfl
def CI(P:Program) (f:FuncId):List (Option Nat):=match P.funcs[f]? with
 | some fn=>fn.params.toList.map λt=>match P.underlying t with | some (.pointer e)=>nG P e | _=>none
 | none=>[]
abbrev I64:CT:=.int .i64
def w64(x:Int):Int:=IntKind.wrap .i64 x
def wk(k:IntKind) (x:Int):Int:=IntKind.wrap k x
def bytes(l:List Nat):ByteArray:=⟨(l.map UInt8.ofNat).toArray⟩
inductive Cj (w:World) (F:Nat->Prop):TV->Value->Prop
 | im {c:List (List TV)} {x:Value} (h:eZ w F (.sl c) x):Cj w F (.sl c) x
 | v {x:Value} (h:cS x=true):Cj w F (.v x) x
 | fn {f:FuncId}:Cj w F (.fn f []) (.func (.func f) #[] #[])
def qa:TV->Bool
 | .sl _=>true
 | .v _=>true
 | .fn _ []=>true
 | _=>false
def Bf(P:Program) (f:FuncId) (vals:List TV) (c:List (List TV)):Prop:=
 ∀(asq:List Value) (w:World) (F:Nat->Prop),asq.length=vals.length->(∀j (h:j < vals.length) (h':j < asq.length),Cj w F vals[j] asq[j]) ->
  Calls P f asq.toArray w λe w2=>∃x,e=.returned x/\Below w.heap.size w w2/\eZ w2 (λk=>F k\/w.heap.size<=k) (.sl c) x
def zG(R:FuncId->List TV->Option (List (List TV))):bT:=λf vals pts=>
 match pts with
 | []=>if vals.all qa then (R f vals).map λc=>(⟨[.sl c],[.one]⟩,[]) else none
 | _=>none
theorem BJ{P:Program}{R:FuncId->List TV->Option (List (List TV))}(hR:∀f vals c,R f vals=some c->fZ P f/\Bf P f vals c):dS P (zG R):=by
 intro f vals pts res Zv h
 cases pts with
 | cons _ _=>simp[zG] at h
 | nil=>
  simp only[zG] at h;split at h
  case isFalse=>simp at h
  rename_i ZS;simp only[List.all_eq_true] at ZS
  obtain⟨c,hc,he⟩:∃c,R f vals=some c/\(⟨[.sl c],[.one]⟩,[])=(res,Zv):=by
   cases hr:R f vals with
   | none=>simp[hr] at h
   | some c=>exact⟨c,rfl,by simpa [hr] using h⟩
  injection he with e1 e2
  subst e1 e2;obtain⟨Ze,Td⟩:=hR f vals c hc;refine⟨Ze,vals.length,Nat.le_refl _,λM asq w G hal hN R1 YY hI=>?_⟩;subst R1
  have Tw:asq.toArray++Array.replicate (vals.length - asq.length) undef=asq.toArray:=by rw[hal];simp
  rw[Tw] at hI
  have hst:∀j,(mkSt vals []).t j=vals.getD j .dead:=by
   intro j;simp[St.t,mkSt,kO]
  refine (Td asq M.w0 (G.F M.A) hal λj hj ZZ=>?_).mono λe w2 ⟨x,Wt,hb,Wx⟩=>?_
  ·have ht:=hI.tmr j;rw[hst] at ht
   have e1:vals.getD j .dead=vals[j]:=by simp[hj]
   have e2:asq.toArray.getD j undef=asq[j]:=by simp[Array.getD_eq_getD_getElem?,ZZ]
   rw[e1,e2] at ht;have ha:=ZS _ (List.getElem_mem hj);revert ht ha;generalize vals[j]=t;generalize asq[j]=y;intro ht ha
   cases ht with
   | v h=>exact .v h
   | sl h=>exact .im h
   | @fn f l xs hl h=>
    cases l with
    | nil=>
     have:xs=#[]:=Array.eq_empty_of_size_eq_zero (by simpa using hl);subst this;exact .fn
    | cons _ _=>simp[qa] at ha
   | _=>simp[qa] at ha
  ·obtain⟨ZR,_⟩:=hI.grow (w':=w2) (λk hk=>hb.block k hk) hb.size hb.os hb.tape hb.output
   have hF:∀k,G.F M.A k\/M.w0.heap.size<=k->G.F M.A k:=by
    rintro k (hk | hk)
    ·exact hk
    ·refine⟨M.hA k hk,λr o hφ=>?_,λr b o n hβ e=>?_⟩
     ·have:=hI.core.live hφ;omega
     ·subst e;have:=hI.core.boxlt hβ;omega
   obtain⟨G',hg⟩:=ZR.addHand (Wx.frame (F':=G.F M.A) (λ_ _ _=>rfl) λk hk _=>hF k hk).toOwn;refine⟨x,mkSt vals [],Wt,.inl ⟨[x],asq.toArray,G',rfl,hg.1,λj hj=>?_⟩,rfl⟩
   have:j=0:=by simpa using hj
   subst this;exact .inl rfl
theorem wK{E:Env}{T:FuncId->Option TFn}{B:bT}{c:Ctr}(hT:T c.f=none) (hB:iZ B c):Lvl E T B 1 c:=by
 intro k _ h o x ho hx
 have e:runF E T B (NN+k) c.f=B c.f:=by
  obtain⟨n,hn⟩:∃n,NN+k=n+1:=⟨NN - 1+k,by have:0 < NN:=(by decide);omega⟩;rw[hn];funext vals pts;simp only[runF,qZ,hT]
 rw[e];exact hB h o x ho hx
abbrev PID:=Int×Int
def bx(a b:PID):Bool:=if (a.1==-1) != (b.1==-1) then b.1==-1 else decide (a.1 < b.1) || (a.1==b.1 && decide (a.2 < b.2))
def gA:List PID->PID->List PID
 | [],x=>[x]
 | y :: r,x=>if bx y x then y :: gA r x else if y=x then y :: r else x :: y :: r
def fH(l:List PID):List PID:=l.foldl gA []
def kD(x:PID):List TV:=[.v (.int .i64 x.1),.v (.int .i64 x.2)]
def zJ:List (List TV)->Option (List PID)
 | []=>some []
 | e :: r=>match e with
  | [.v (.int .i64 a),.v (.int .i64 b)]=>(zJ r).map ((a,b) :: ·)
  | _=>none
def rS:List (List TV)->Option (List (List PID))
 | []=>some []
 | e :: r=>match e with
  | [.sl c]=>(zJ c).bind λl=>(rS r).map (l :: ·)
  | _=>none
theorem pc:∀l:List PID,zJ (l.map kD)=some l
 | []=>rfl
 | x :: r=>by simp[zJ,kD,pc r]
theorem rR:∀{c:List (List TV)}{l:List PID},zJ c=some l->c=l.map kD
 | [],l,h=>by simp only[zJ,oSJ] at h;subst h;rfl
 | e :: r,l,h=>by
  simp only[zJ] at h;split at h
  ·obtain⟨l',h1,rfl⟩:=Option.map_eq_some_iff.1 h;rw[rR h1];rfl
  ·simp at h
theorem tz:∀{c:List (List TV)}{l:List (List PID)},rS c=some l->c=l.map λx=>[TV.sl (x.map kD)]
 | [],l,h=>by simp only[rS,oSJ] at h;subst h;rfl
 | e :: r,l,h=>by
  simp only[rS] at h;split at h
  ·rename_i c;obtain⟨x,h1,h2⟩:=Option.bind_eq_some_iff.1 h;obtain⟨l',h3,rfl⟩:=Option.map_eq_some_iff.1 h2;rw[tz h3,rR h1];rfl
  ·simp at h
theorem qy:∀l:List (List PID),rS (l.map λx=>[TV.sl (x.map kD)])=some l
 | []=>rfl
 | x :: r=>by simp[rS,pc,qy r]
def Row(w:World) (F:Nat->Prop) (A:Option Addr) (cs:List Value):Prop:=
 ∀i (_:i < cs.length),∃b off,A=some ⟨b,off,none⟩/\F b/\w.cell? ⟨b,off+i,none⟩=some cs[i]
def xH(k:IntKind) (w:World) (F:Nat->Prop) (A:Option Addr) (xs:List Int):Prop:=Row w F A (xs.map (.int k))
def eP(F:Nat->Prop) (w w':World):Prop:=∀k,F k->w'.heap[k]?=w.heap[k]?
theorem eP.refl(F:Nat->Prop) (w:World):eP F w w:=λ_ _=>rfl
theorem eP.trans{F:Nat->Prop}{a b c:World}(h:eP F a b) (h':eP F b c):eP F a c:=λk hk=>(h' k hk).trans (h k hk)
theorem eP.sub{F G:Nat->Prop}{a b:World}(h:eP F a b) (hs:∀k,G k->F k):eP G a b:=λk hk=>h k (hs k hk)
theorem eP.drewN{F:Nat->Prop}{a b:World}(h:eP F a b) (n:Nat):eP F a (b.drewN n):=h
theorem eP.drew{F:Nat->Prop}{a b:World}(h:eP F a b):eP F a b.drew:=h
theorem eP.alloc{F:Nat->Prop}{a b:World}(h:eP F a b) (hF:∀k,F k->k < b.heap.size) (o:Obj):eP F a (b.alloc o):=
 λk hk=>(heap_alloc_old b o (hF k hk)).trans (h k hk)
theorem eP.setCell{F:Nat->Prop}{a b:World}(h:eP F a b) {p:Addr}(hp:¬ F p.block) (u:Value):eP F a (b.setCell p u):=
 λk hk=>(Below.heap_setCell b p u k (λe=>hp (e ▸ hk))).trans (h k hk)
theorem eP.cell{F:Nat->Prop}{a b:World}(h:eP F a b) {p:Addr}(hp:F p.block):b.cell? p=a.cell? p:=World.cell?_of_block (h p.block hp)
theorem Row.keep{w w':World}{F:Nat->Prop}{A:Option Addr}{cs:List Value}(h:Row w F A cs) (ha:eP F w w'):Row w' F A cs:=by
 intro i hi;obtain⟨b,off,e,hF,hc⟩:=h i hi;exact⟨b,off,e,hF,by rw[ha.cell (p:=⟨b,off+i,none⟩) hF];exact hc⟩
theorem Row.sub{w:World}{F G:Nat->Prop}{A:Option Addr}{cs:List Value}(h:Row w F A cs) (hs:∀k,F k->G k):Row w G A cs:=by
 intro i hi;obtain⟨b,off,e,hF,hc⟩:=h i hi;exact⟨b,off,e,hs _ hF,hc⟩
theorem Row.nil(w:World) (F:Nat->Prop) (A:Option Addr):Row w F A []:=λi hi=>absurd hi (by simp)
theorem xH.keep{k:IntKind}{w w':World}{F:Nat->Prop}{A:Option Addr}{xs:List Int}(h:xH k w F A xs) (ha:eP F w w'):xH k w' F A xs:=Row.keep h ha
theorem xH.at_{k:IntKind}{w:World}{F:Nat->Prop}{A:Option Addr}{xs:List Int}(h:xH k w F A xs) {i:Nat}(hi:i < xs.length) :
 ∃b off,A=some ⟨b,off,none⟩/\F b/\w.cell? ⟨b,off+i,none⟩=some (.int k xs[i]):=by
 obtain⟨b,off,e,hF,hc⟩:=h i (by simpa using hi);exact⟨b,off,e,hF,by simpa using hc⟩
theorem Row.grown{w w':World}{F:Nat->Prop}{A:Option Addr}{cs:List Value}(h:Row w F A cs) (hg:w.grownBy w' none) (hF:∀k,F k->k < w.heap.size):Row w' F A cs:=
 h.keep λk hk=>hg.block k (hF k hk) (by simp)
theorem xH.grown{k:IntKind}{w w':World}{F:Nat->Prop}{A:Option Addr}{xs:List Int}(h:xH k w F A xs) (hg:w.grownBy w' none) (hF:∀k,F k->k < w.heap.size):xH k w' F A xs:=Row.grown h hg hF
theorem xH.low{k:IntKind}{w w':World}{A:Option Addr}{xs:List Int}(h:xH k w (λk=>k < w.heap.size) A xs) (hg:w.grownBy w' none):xH k w' (λk=>k < w'.heap.size) A xs:=
 Row.sub (Row.grown h hg λ_ h=>h) λk hk=>Nat.lt_of_lt_of_le hk hg.size
def New(w w':World) (k:Nat):Prop:=w.heap.size<=k/\k < w'.heap.size
def w8(f:Nat->Value):Operand->Value
 | .tmp t=>f t
 | .const v=>v
 | .global g=>.pointer (some ⟨g,0,none⟩)
 | .func f=>.func (.func f) #[] #[]
def xW(f:Nat->Value):Option Tmp->Value
 | some t=>f t
 | none=>undef
def tN(f:Nat->Value) (o:Oper):Value:=
 match o.dst with
 | some t=>f t
 | none=>match o.op with
  | .store _ (.tmp t) _=>f t
  | _=>undef
def oF(f:Nat->Value) (o:Oper) (v:Value):Value:=
 match o.dst with
 | some _=>v
 | none=>tN f o
def f8(o:Oper) (j:Nat):Bool:=o.after.toList.any λe=>e.on==j && Region.binds .any e
def gV(l:List Oper) (t:Tmp):Option Nat:=l.findIdx? λo=>o.dst==some t
def tH(l:List Oper) (old:Nat->Value) (Ss:List (Value->World->Prop)) (o:Oper) (f:Nat->Value) (w:World) (t:Tmp):Prop:=
 match gV l t with
 | none=>f t=old t
 | some j=>if f8 o j then (Ss.getD j λ_ _=>False) (f t) w else f t=old t
def tL(l:List Oper) (f:Nat->Value) (o:Oper):Bool:=
 match o.guard with
 | none=>true
 | some (j,b)=>match (l[j]?).bind (·.dst) with
  | some d=>(match f d with | .bool c=>c==b | _=>false)
  | none=>false
def ju(P:Program) (Vp:Value->World->Prop):Result Next->Prop
 | .ok (.value v) w'=>Vp v w'
 | .ok .skip w'=>Vp undef w'
 | .ok (.enter f args) w'=>Calls P f args w' λe X9=>∃v,e=.returned v/\Vp v X9
 | _=>False
def Bc(base:World->Prop) (R:World->World->Prop) (s:Value->World->Prop) (w:World) (v:Value) (w':World):Prop:=base w'/\R w w'/\s v w'
def Cl(P:Program) (l:List Oper) (old:Nat->Value) (base:World->Prop) (R:World->World->Prop) (Ss:List (Value->World->Prop)) (o:Oper) (s:Value->World->Prop):Prop:=
 ∀(f:Nat->Value) (w:World),base w->(∀t∈o.looksAt l.toArray,tH l old Ss o f w t) ->
  if tL l f o=true then ju P (λv w'=>Bc base R s w (oF f o v) w') ((execOp (w8 f) o).run P w) else s (oF f o undef) w
def j5(P:Program) (l:List Oper) (old:Nat->Value) (base:World->Prop) (R:World->World->Prop) (Ss:List (Value->World->Prop)):List Oper->List (Value->World->Prop)->Prop
 | [],[]=>True
 | o :: r,s :: rs=>Cl P l old base R Ss o s/\j5 P l old base R Ss r rs
 | _,_=>False
def Bg(R:World->World->Prop):List (Value->World->Prop)->Prop
 | []=>True
 | s :: r=>(∀w w' u,R w w'->s u w->s u w')/\Bg R r
def eC(f:Nat->Value):List Oper->Act->Act
 | [],a=>a
 | o :: r,a=>eC f r (a.put o.dst (xW f o.dst))
def Bo(f:Nat->Value) (w:World):List Oper->List (Value->World->Prop)->Prop
 | o :: r,s :: rs=>s (tN f o) w/\Bo f w r rs
 | _,_=>True
def rg(l:List Oper) (n:Nat):Bool:=
 (l.zipIdx.all λ(o,k)=>
  (match o.dst with | some d=>gV l d==some k && decide (d < n) | none=>true) &&
  (o.after.all λe=>!Region.binds .any e || decide (e.on < k)) &&
  (o.looksAt l.toArray).all λt=>match gV l t with
   | none=>true
   | some j=>f8 o j || f8 (l.getD j default) k) &&
 (l.all λo=>match o.dst,o.op with
  | none,.store _ (.tmp t) _=>(match gV l t with | none=>true | some j=>f8 o j)
  | _,_=>true) &&
 l.all λo=>match o.guard with
  | none=>true
  | some (j,_)=>match (l[j]?).bind (·.dst) with | some d=>(o.looksAt l.toArray).contains d | none=>false
section
variable {P:Program} {l:List Oper} {a0:Act} {base:World->Prop} {R:World->World->Prop} {Ss:List (Value->World->Prop)}
structure JJ (l:List Oper) (a0:Act) (base:World->Prop) (Ss:List (Value->World->Prop)) (listed:Array Bool) (a:Act) (w:World):Prop where
 base_:base w
 defers:a.defers=a0.defers
 lsize:listed.size=l.length
 asize:a.tmps.size=a0.tmps.size
 old:∀t,(∀(j:Nat) o,l[j]?=some o->o.dst=some t->listed.getD j true=false)->a.tmps.getD t undef=a0.tmps.getD t undef
 says:∀(j:Nat) o s,l[j]?=some o->Ss[j]?=some s->listed.getD j false=true->s (tN (λt=>a.tmps.getD t undef) o) w
 down:∀(j:Nat) o,l[j]?=some o->listed.getD j false=true->∀e∈o.after,Region.binds .any e=true->listed.getD e.on false=true
theorem zm(a:Act):a.eval=w8 λt=>a.tmps.getD t undef:=by funext x;cases x<;>rfl
theorem j5.at_{lo:List Oper}{ls:List (Value->World->Prop)}:∀{o:Oper}{k:Nat},j5 P l (λt=>a0.tmps.getD t undef) base R Ss lo ls->lo[k]?=some o->∃s,ls[k]?=some s/\Cl P l (λt=>a0.tmps.getD t undef) base R Ss o s:=by
 induction lo generalizing ls with
 | nil=>intro o k _ h;simp at h
 | cons x r ih=>
  intro o k hd h
  match ls,hd with
  | s :: rs,hd=>
   cases k with
   | zero=>simp at h;subst h;exact⟨s,rfl,hd.1⟩
   | succ k=>simpa using ih hd.2 (by simpa using h)
theorem Bg.at_:∀{ls:List (Value->World->Prop)}{k:Nat}{s:Value->World->Prop},Bg R ls->ls[k]?=some s->∀w w' u,R w w'->s u w->s u w'
 | [],_,_,_,h=>by simp at h
 | x :: r,0,s,hk,h=>by simp at h;subst h;exact hk.1
 | x :: r,k+1,s,hk,h=>Bg.at_ hk.2 (by simpa using h)
theorem qV{t:Tmp}{j:Nat}(h:gV l t=some j):∃o,l[j]?=some o/\o.dst=some t:=by
 unfold gV at h;rw[List.findIdx?_eq_some_iff_getElem] at h;obtain⟨hj,h1,_⟩:=h;exact⟨l[j],oGE hj,by simpa using h1⟩
theorem qW{t:Tmp}(h:gV l t=none):∀(j:Nat) o,l[j]?=some o->o.dst≠some t:=by
 unfold gV at h;rw[List.findIdx?_eq_none_iff] at h;intro j o hj e;have:=h o (List.mem_of_getElem? hj);simp[e] at this
theorem iI{n:Nat}(h:rg l n=true) {k:Nat}{o:Oper}(hk:l[k]?=some o) :
 (∀d,o.dst=some d->gV l d=some k/\d < n)/\(∀e∈o.after,Region.binds .any e=true->e.on < k) /\
 (∀t∈o.looksAt l.toArray,∀j,gV l t=some j->f8 o j=true\/f8 (l.getD j default) k=true) /\
 (∀y t x,o.dst=none->o.op=.store y (.tmp t) x->∀j,gV l t=some j->f8 o j=true) /\
 (∀j b,o.guard=some (j,b)->∃d,(l[j]?).bind (·.dst)=some d/\d∈o.looksAt l.toArray):=by
 simp only[rg,oBA,List.all_eq_true] at h;obtain⟨⟨h1,hst⟩,h2⟩:=h
 have hm:(o,k)∈l.zipIdx:=by rw[List.mem_zipIdx_iff_getElem?];simpa using hk
 have h3:=h1 _ hm;simp only[oBA,List.all_eq_true] at h3;obtain⟨⟨h4,h5⟩,h6⟩:=h3;refine⟨λd hd=>?_,λe he hb=>?_,λt ht j hj=>?_,λy t x hd hop j hw=>?_,λj b hg=>?_⟩
 ·rw[hd] at h4;simpa using h4
 ·have:=(Array.all_eq_true_iff_forall_mem.1 h5) e he;simpa [hb] using this
 ·have:=h6 t ht;rw[hj] at this;simpa using this
 ·have:=hst o (List.mem_of_getElem? hk);rw[hd,hop] at this;simp only[hw] at this;exact this
 ·have:=h2 o (List.mem_of_getElem? hk);rw[hg] at this;simp only at this
  cases hd:(l[j]?).bind (·.dst) with
  | none=>rw[hd] at this;simp at this
  | some d=>rw[hd] at this;exact⟨d,rfl,by simpa using this⟩
theorem mj{o:Oper}{j:Nat}(h:f8 o j=true):∃e∈o.after,e.on=j/\Region.binds .any e=true:=by
 unfold f8 at h;rw[List.any_eq_true] at h;obtain⟨e,he,hx⟩:=h;simp only[oBA,beq_iff_eq] at hx;exact⟨e,by simpa using he,hx.1,hx.2⟩
theorem jN{listed:Array Bool}{i j:Nat}{b:Bool}(hi:i < listed.size):(listed.setIfInBounds i true).getD j b=if i=j then true else listed.getD j b:=by
 by_cases e:i=j
 ·subst e;simp[Array.getD,hi]
 ·simp only[oIN e];simp only[Array.getD,Array.size_setIfInBounds];split
  ·exact Array.getElem_setIfInBounds_ne _ e
  ·rfl
theorem jO{a:Act}{d t:Nat}{v:Value}(hd:d < a.tmps.size):(a.put (some d) v).tmps.getD t undef=if d=t then v else a.tmps.getD t undef:=by
 unfold Act.put;by_cases e:d=t
 ·subst e;simp[Array.getD,hd]
 ·simp only[oIN e];simp only[Array.getD,Array.size_setIfInBounds];split
  ·exact Array.getElem_setIfInBounds_ne _ e
  ·rfl
theorem JJ.step(Va:∀w,R w w) (hB:rg l a0.tmps.size=true) (hD:j5 P l (λt=>a0.tmps.getD t undef) base R Ss l Ss) (hK:Bg R Ss) {listed:Array Bool}{a:Act}{w:World}{Q:Exit->Act->World->Prop}(h:JJ l a0 base Ss listed a w) {i:Nat}(hi:i∈Region.ready .any l.toArray listed) :
 wpOp P l.toArray Q i (λa' w'=>JJ l a0 base Ss (listed.setIfInBounds i true) a' w') a w:=by
 obtain⟨Xo,o,ho,Zn⟩:=mem_ready.1 hi
 have Zq:l[i]?=some o:=by simpa using ho
 have XL:i < listed.size:=by rw[h.lsize];exact (oGS Zq).1
 obtain⟨ZP,Z0,Vc,Pu,P7⟩:=iI hB Zq;obtain⟨s,hs,Ui⟩:=hD.at_ Zq
 have Y':∀t∈o.looksAt l.toArray,tH l (λt=>a0.tmps.getD t undef) Ss o (λt=>a.tmps.getD t undef) w t:=by
  intro t ht;unfold tH
  cases hw:gV l t with
  | none=>exact h.old t λj o' hj hd=>absurd hd (qW hw j o' hj)
  | some j=>
   obtain⟨oj,YM,V4⟩:=qV hw;by_cases hwt:f8 o j=true
   ·simp only[hwt,if_true];obtain⟨e,he,UH,V1⟩:=mj hwt
    have V7:listed.getD j false=true:=by rw[<- UH];exact Zn e he V1
    obtain⟨sj,WI,_⟩:=hD.at_ YM;have:=h.says j oj sj YM WI V7;simpa [List.getD,WI,tN,V4] using this
   ·simp only[hwt];refine h.old t λj' o' ZZ hd'=>?_
    have hjj:j'=j:=by
     have:=((iI hB ZZ).1 t hd').1
     rw[hw] at this;injection this with this;exact this.symm
    subst hjj;rcases Vc t ht j' hw with h' | h'
    ·exact absurd h' hwt
    ·have e:l.getD j' default=oj:=by simp[List.getD,YM]
     rw[e] at h';obtain⟨ed,ST,UH,V1⟩:=mj h'
     cases hl:listed.getD j' true with
     | false=>rfl
     | true=>
      exfalso
      have hjl:j' < listed.size:=by rw[h.lsize];exact (oGS YM).1
      have YH:listed.getD j' false=true:=by simpa [Array.getD,hjl] using hl
      have:=h.down j' oj YM YH ed ST V1;rw[UH] at this;simp[Array.getD,XL] at this Xo;rw[this] at Xo;cases Xo
 have Ws:=Ui (λt=>a.tmps.getD t undef) w h.base_ Y'
 have U2:Region.wanted o (yielded l.toArray a.tmps)=tL l (λt=>a.tmps.getD t undef) o:=by
  unfold Region.wanted tL
  cases hg:o.guard with
  | none=>rfl
  | some p=>
   obtain⟨j,b⟩:=p;obtain⟨d,hd,_⟩:=P7 j b hg
   have Ru:d < a.tmps.size:=by
    rw[h.asize];obtain⟨oj,YM,V4⟩:=Option.bind_eq_some_iff.1 hd;exact ((iI hB YM).1 d V4).2
   have hy:yielded l.toArray a.tmps j=(match a.tmps.getD d undef with | .bool c=>some c | _=>none):=by
    unfold yielded
    have e:(l.toArray[j]?).bind (·.dst)=some d:=by simpa using hd
    rw[e];simp only[oBS];rw[Array.getElem?_eq_getElem Ru];simp only[Array.getD,Ru,dif_pos,Array.getInternal_eq_getElem];cases a.tmps[d]<;>rfl
   simp only[hd];rw[hy];cases a.tmps.getD d undef<;>simp
 have XT:∀v w',Bc base R s w (oF (λt=>a.tmps.getD t undef) o v) w'->JJ l a0 base Ss (listed.setIfInBounds i true) (a.put o.dst v) w':=by
  intro v w' ⟨hb,hR,RV⟩
  have hsz:(a.put o.dst v).tmps.size=a.tmps.size:=by unfold Act.put;split<;>simp
  refine⟨hb,by rw[<- h.defers];unfold Act.put;split<;>rfl,by simpa using h.lsize,hsz.trans h.asize,λt ht=>?_,λj oj sj YM WI V7=>?_,λj oj YM V7 e he V1=>?_⟩
  ·have QM:o.dst≠some t:=λe=>by
    have:=ht i o Zq e;rw[jN XL] at this;simp at this
   have ZJ:=h.old t λj oj YM V4=>by
    have:=ht j oj YM V4;rw[jN XL] at this;split at this
    ·cases this
    ·exact this
   rw[<- ZJ]
   cases hd:o.dst with
   | none=>rfl
   | some d=>rw[jO (by rw[h.asize];exact (ZP d hd).2),oIN (by rintro rfl;exact QM hd)]
  ·by_cases e:i=j
   ·subst e
    rw[Zq] at YM;injection YM with YM;subst YM
    rw[hs] at WI;injection WI with WI;subst WI
    cases hd:o.dst with
    | none=>
     have e1:(a.put none v).tmps=a.tmps:=rfl
     have e2:oF (λt=>a.tmps.getD t undef) o v=tN (λt=>a.tmps.getD t undef) o:=by unfold oF;rw[hd]
     rw[e1,<- e2];exact RV
    | some d=>
     have e2:oF (λt=>a.tmps.getD t undef) o v=v:=by unfold oF;rw[hd]
     have e3:tN (λt=>(a.put (some d) v).tmps.getD t undef) o=v:=by
      unfold tN;rw[hd];simp only;rw[jO (by rw[h.asize];exact (ZP d hd).2),oIP rfl]
     rw[e3,<- e2];exact RV
   ·rw[jN XL,oIN e] at V7;have ZJ:=hK.at_ WI w w' _ hR (h.says j oj sj YM WI V7)
    have Y7:∀t,o.dst≠some t->(a.put o.dst v).tmps.getD t undef=a.tmps.getD t undef:=λt ht=>by
     cases hd:o.dst with
     | none=>rfl
     | some d'=>rw[jO (by rw[h.asize];exact (ZP d' hd).2),oIN (by rintro rfl;exact ht hd)]
    have Tt:tN (λt=>(a.put o.dst v).tmps.getD t undef) oj=tN (λt=>a.tmps.getD t undef) oj:=by
     unfold tN
     cases V4:oj.dst with
     | some d=>
      refine Y7 d λhd=>?_;have h1:=(ZP d hd).1;have h2:=((iI hB YM).1 d V4).1;rw[h1] at h2
      injection h2 with h2
      exact e h2
     | none=>
      cases hop:oj.op with
      | store y t x=>
       cases t with
       | tmp t=>
        refine Y7 t λhd=>?_;have h1:=(ZP t hd).1;have h2:=(iI hB YM).2.2.2.1 y t x V4 hop i h1;obtain⟨ed,ST,UH,V1⟩:=mj h2;have:=h.down j oj YM V7 ed ST V1;rw[UH] at this;simp[Array.getD,XL] at this Xo;rw[this] at Xo;cases Xo
       | const _=>rfl
       | global _=>rfl
       | func _=>rfl
      | _=>rfl
    rw[Tt];exact ZJ
  ·rw[jN XL];split
   ·rfl
   ·by_cases e':i=j
    ·subst e'
     rw[Zq] at YM;injection YM with YM;subst YM
     exact Zn e he V1
    ·rw[jN XL,oIN e'] at V7;exact h.down j oj YM V7 e he V1
 unfold wpOp;simp only[ho];rw[U2];by_cases hw:tL l (λt=>a.tmps.getD t undef) o=true
 ·rw[oIP hw] at Ws ⊢;refine .inl ?_;unfold Oper.wp;rw[zm];generalize (execOp (w8 λt=>a.tmps.getD t undef) o).run P w=r at Ws
  cases r with
  | ok n w'=>
   cases n<;>simp only[ju] at Ws<;>simp only[Oper.upon]
   case value v=>exact XT v w' Ws
   case skip=>exact XT undef w' Ws
   case enter fn args=>exact Ws.mono λe X9 ⟨v,he,hp⟩=>by subst he;exact XT v X9 hp
  | halt x w'=>simp only[ju] at Ws
 ·rw[oIN hw] at Ws ⊢;exact XT undef w ⟨h.base_,Va w,Ws⟩
theorem oe{n:Nat}(hB:rg l n=true) {listed:Array Bool}(hs:listed.size=l.length) (hr:Region.ready .any l.toArray listed=[]):∀(k:Nat),k < l.length->listed.getD k false=true:=by
 intro k
 induction k using Nat.strongRecOn with
 | _ k ih=>
  intro hk
  cases hl:listed.getD k false with
  | true=>rfl
  | false=>
   exfalso;have ho:l[k]?=some l[k]:=oGE hk
   have:k∈Region.ready .any l.toArray listed:=by
    refine mem_ready.2 ⟨?_,l[k],by simp,λe he hb=>?_⟩
    ·have:k < listed.size:=by omega
     simpa [Array.getD,this] using hl
    ·have:=(iI hB ho).2.1 e he hb;exact ih e.on this (by omega)
   rw[hr] at this;cases this
theorem nE(Va:∀w,R w w) (hB:rg l a0.tmps.size=true) (hD:j5 P l (λt=>a0.tmps.getD t undef) base R Ss l Ss) (hK:Bg R Ss) {Q:Exit->Act->World->Prop}
 (XZ:∀listed a w,(∀k,k < l.length->listed.getD k false=true)->JJ l a0 base Ss listed a w->Q .normal a w) :
 ∀(Yn:Nat) (listed:Array Bool) (a:Act) (w:World),JJ l a0 base Ss listed a w->(∃c:List Bool,c.length=l.length/\listed.toList=c/\c.count false=Yn)->wpAny P .any l.toArray Q Yn listed a w
 | 0,listed,a,w,h,⟨c,Zr,Zm,Vd⟩=>by
  have hr:Region.ready .any l.toArray listed=[]:=by
   rw[List.eq_nil_iff_forall_not_mem];intro i hi;have Xo:=(mem_ready.1 hi).1
   have XL:i < listed.size:=by
    rcases Nat.lt_or_ge i listed.size with h' | h'
    ·exact h'
    ·simp[Array.getD,Nat.not_lt.2 h'] at Xo
   have:false∈c:=by
    rw[<- Zm]
    have h1:listed[i]=false:=by simpa [Array.getD,XL] using Xo
    rw[<- h1];simp
   exact absurd (List.count_pos_iff.2 this) (by omega)
  exact⟨hr,XZ _ _ _ (oe hB h.lsize hr) h⟩
 | Yn+1,listed,a,w,h,⟨c,Zr,Zm,Vd⟩=>by
  refine⟨λhr=>XZ _ _ _ (oe hB h.lsize hr) h,λi hi=>?_⟩;refine wpOp_mono (λa' w' h'=>nE Va hB hD hK XZ Yn _ a' w' h' ?_) (h.step Va hB hD hK hi);have Xo:=(mem_ready.1 hi).1
  have XL:i < listed.size:=by
   rcases Nat.lt_or_ge i listed.size with h' | h'
   ·exact h'
   ·simp[Array.getD,Nat.not_lt.2 h'] at Xo
  have h1:listed[i]=false:=by simpa [Array.getD,XL] using Xo
  refine⟨_,?_,rfl,?_⟩
  ·simp;have:=h.lsize;omega
  ·rw[Array.toList_setIfInBounds,List.count_set (by simpa using XL)];subst Zm;rw[Vd];simp[h1]
theorem xb{f:Nat->Value}{w:World}:∀{lo:List Oper}{ls:List (Value->World->Prop)},(∀(k:Nat) o s,lo[k]?=some o->ls[k]?=some s->s (tN f o) w)->Bo f w lo ls
 | [],_,_=>by unfold Bo;trivial
 | _ :: _,[],_=>by unfold Bo;trivial
 | o :: r,s :: rs,h=>⟨h 0 o s rfl rfl,xb λk o' s' h1 h2=>h (k+1) o' s' (by simpa using h1) (by simpa using h2)⟩
theorem mc(f:Nat->Value):∀(lo:List Oper) (a:Act),(eC f lo a).tmps.size=a.tmps.size
 | [],_=>rfl
 | o :: r,a=>by
  rw[eC,mc f r];unfold Act.put;split<;>simp
theorem jv(f:Nat->Value):∀(lo:List Oper) (a:Act),(eC f lo a).defers=a.defers
 | [],_=>rfl
 | o :: r,a=>by
  rw[eC,jv f r];unfold Act.put;split<;>rfl
theorem md(f:Nat->Value):∀(lo:List Oper) (a:Act) (t:Nat),t < a.tmps.size ->
 (eC f lo a).tmps.getD t undef=f t/\(∃o∈lo,o.dst=some t)\/(eC f lo a).tmps.getD t undef=a.tmps.getD t undef/\∀o∈lo,o.dst≠some t
 | [],_,_,_=>.inr ⟨rfl,by simp⟩
 | o :: r,a,t,ht=>by
  have hsz:(a.put o.dst (xW f o.dst)).tmps.size=a.tmps.size:=by unfold Act.put;split<;>simp
  rcases md f r (a.put o.dst (xW f o.dst)) t (by rw[hsz];exact ht) with ⟨h1,o',h2,h3⟩ | ⟨h1,h2⟩
  ·exact .inl ⟨h1,o',List.mem_cons_of_mem _ h2,h3⟩
  ·by_cases hd:o.dst=some t
   ·refine .inl ⟨?_,o,List.mem_cons_self ..,hd⟩;rw[eC,h1,hd,jO ht,oIP rfl];rfl
   ·refine .inr ⟨?_,λo' Zq=>?_⟩
    ·rw[eC,h1]
     cases hd':o.dst with
     | none=>rfl
     | some d=>
      by_cases hds:d < a.tmps.size
      ·rw[jO hds,oIN (by rintro rfl;exact hd hd')]
      ·unfold Act.put;simp[Array.setIfInBounds,hds]
    ·rcases List.mem_cons.1 Zq with rfl | h'
     ·exact hd
     ·exact h2 o' h'
theorem m9{id:Nat}{w0:World}{Q:Exit->Act->World->Prop}(base:World->Prop) (R:World->World->Prop) (Ss:List (Value->World->Prop))
 (n:Nat) (hm:P.follows .mixedOrders=true) (hn:a0.tmps.size=n) (TR:rg l n=true) (h0:base w0.drew) (Va:∀w,R w w) (hK:Bg R Ss)
 (hD:j5 P l (λt=>a0.tmps.getD t undef) base R Ss l Ss)
 (XZ:∀f w,base w->Bo f w l Ss->Q .normal (eC f l a0) w):(Code.region id l.toArray true).wp P Q a0 w0:=by
 have hB:rg l a0.tmps.size=true:=by rw[hn];exact TR
 refine wp_region_any hm ?_;refine nE (a0:=a0) (R:=R) (Ss:=Ss) Va hB hD hK (λlisted a w hl h=>?_) _ _ _ _ (?_:JJ l a0 base Ss _ _ _) ⟨_,?_,rfl,?_⟩
 ·have e:a=eC (λt=>a.tmps.getD t undef) l a0:=by
   have hd:a.defers=(eC (λt=>a.tmps.getD t undef) l a0).defers:=by rw[jv,h.defers]
   have ht:a.tmps=(eC (λt=>a.tmps.getD t undef) l a0).tmps:=by
    refine Array.ext (by rw[mc,h.asize]) λi h1 h2=>?_
    have Qm:i < a0.tmps.size:=by rw[<- h.asize];exact h1
    have e1:a.tmps[i]=a.tmps.getD i undef:=by simp[Array.getD,h1]
    have e2:(eC (λt=>a.tmps.getD t undef) l a0).tmps[i]=(eC (λt=>a.tmps.getD t undef) l a0).tmps.getD i undef:=by rw[Array.getD,dif_pos h2];rfl
    rw[e1,e2];rcases md (λt=>a.tmps.getD t undef) l a0 i Qm with ⟨h3,_⟩ | ⟨h3,h4⟩
    ·exact h3.symm
    ·rw[h3];exact h.old i λj o ho hd=>absurd hd (h4 o (List.mem_of_getElem? ho))
   cases a;cases hp:eC (λt=>Array.getD _ t undef) l a0;simp only[hp] at hd ht;subst hd;subst ht
   simp_all
  rw[e];exact XZ _ w h.base_ (xb λk o s ho hs=>h.says k o s ho hs (hl k (oGS ho).1))
 ·exact⟨h0,rfl,by simp,rfl,λ_ _=>rfl,λj o s ho hs hl=>by simp[Array.getD] at hl,λj o ho hl=>by simp[Array.getD] at hl⟩
 ·simp
 ·simp[List.count_replicate]
end
theorem bl{P:Program}{l:List Oper}{old:Nat->Value}{base:World->Prop}{R:World->World->Prop}{Ss:List (Value->World->Prop)}{o:Oper}{r:List Oper}{s:Value->World->Prop}{rs:List (Value->World->Prop)}
 (h:Cl P l old base R Ss o s) (h':j5 P l old base R Ss r rs):j5 P l old base R Ss (o :: r) (s :: rs):=⟨h,h'⟩
theorem bt{P:Program}{l:List Oper}{old:Nat->Value}{base:World->Prop}{R:World->World->Prop}{Ss:List (Value->World->Prop)}{o:Oper}{s:Value->World->Prop}(hg:o.guard=none)
 (h:∀(f:Nat->Value) (w:World),base w->(∀t∈o.looksAt l.toArray,tH l old Ss o f w t)->ju P (λv w'=>Bc base R s w (oF f o v) w') ((execOp (w8 f) o).run P w)):Cl P l old base R Ss o s:=by
 intro f w hb H
 have:tL l f o=true:=by unfold tL;rw[hg]
 rw[oIP this];exact h f w hb H
theorem uy{P:Program}{l:List Oper}{old:Nat->Value}{base:World->Prop}{R:World->World->Prop}{Ss:List (Value->World->Prop)}:j5 P l old base R Ss [] []:=trivial
def RK(X:Nat->Prop) (w w':World):Prop:=w.heap.size<=w'.heap.size/\∀b,b < w.heap.size->¬ X b->w'.heap[b]?=w.heap[b]?
theorem RK.refl(X:Nat->Prop) (w:World):RK X w w:=⟨Nat.le_refl _,λ_ _ _=>rfl⟩
theorem RK.alloc(X:Nat->Prop) (w:World) (o:Obj):RK X w (w.alloc o):=⟨by simp,λ_ hb _=>heap_alloc_old _ _ hb⟩
theorem RK.grown{X:Nat->Prop}{w w':World}{g:Nat}(h:w.grownBy w' (some g)) (hg:X g):RK X w w':=⟨h.size,λb hb hx=>h.block b hb (by rintro e;injection e with e;subst e;exact hx hg)⟩
theorem RK.set{X:Nat->Prop}{w w1:World}{p:Addr}(h:RK X w w1) (hp:X p.block) (u:Value):RK X w (w1.setCell p u):=
 ⟨by simpa [World.setCell] using h.1,λb hb hx=>(Below.heap_setCell w1 p u b (by rintro rfl;exact hx hp)).trans (h.2 b hb hx)⟩
theorem RK.cell{X:Nat->Prop}{w w':World}(h:RK X w w') {b o:Nat}(hb:b < w.heap.size) (hx:¬ X b):w'.cell? ⟨b,o,none⟩=w.cell? ⟨b,o,none⟩:=World.cell?_of_block (h.2 b hb hx)
def RD(X:Nat->Prop) (D:World->Prop) (w w':World):Prop:=RK X w w'/\(D w->D w')
theorem RD.refl(X:Nat->Prop) (D:World->Prop) (w:World):RD X D w w:=⟨RK.refl X w,id⟩
def g7(u:Value) (v:Value) (_:World):Prop:=v=u
def CE(k:IntKind) (lo hi:Int) (v:Value) (_:World):Prop:=∃n:Int,lo<=n/\n<=hi/\v=.int k n
theorem g7.kept{x:Value}{R:World->World->Prop}(w w':World) (u:Value) (_:R w w') (h:g7 x u w):g7 x u w':=h
theorem CE.kept{k:IntKind}{lo hi:Int}{R:World->World->Prop}(w w':World) (u:Value) (_:R w w') (h:CE k lo hi u w):CE k lo hi u w':=h
attribute [go_sem] w8 ju oF tN
end Go.Proofs.Yteonljfnncdijaa
namespace Go.Proofs.Yteonljfnncdijaa
open Go.RowKit Go.Sort
def GW(W w':World):Prop:=∃q os,w'=grow (W.drewN q) os
theorem GW.refl(W:World):GW W W:=⟨0,#[],by rw[grow_empty];rfl⟩
theorem GW.trans{a b c:World}(h:GW a b) (h':GW b c):GW a c:=by
 obtain⟨q,os,rfl⟩:=h;obtain⟨p,R6,rfl⟩:=h';exact⟨q+p,os++R6,by show grow (grow ((a.drewN q).drewN p) os) R6=_;rw[grow_grow,World.drewN_drewN]⟩
theorem GW.alloc(W:World) (o:Obj):GW W (W.alloc o):=⟨0,#[o],by rw[alloc_eq_grow];rfl⟩
theorem GW.drew(W:World):GW W W.drew:=⟨1,#[],by rw[grow_empty];rfl⟩
def jD(r:Int):Int:=if r=-1 then 1 else 0
def pu(x y:Int):Int:=if x < y then -1 else if y < x then 1 else 0
def orI(a b c:Int):Int:=if a=0 then (if b=0 then c else b) else a
def xM(x y:PID):Int:=orI (pu (jD x.1) (jD y.1)) (pu x.1 y.1) (pu x.2 y.2)
theorem sY(x:PID) (W:World):Calls Try.prog 58 #[.agg #[.int .i64 x.1,.int .i64 x.2]] W λe w'=>e=.returned (.int .i64 (jD x.1))/\GW W w':=by
 by_cases h:x.1=-1
 ·go_enter Try.func58,Try.ntmps58
  go_wp2
  go_ret
  exact⟨by simp[jD,h],GW.alloc _ _⟩
 ·go_enter Try.func58,Try.ntmps58
  go_wp2
  go_ret
  exact⟨by simp[jD,h],GW.alloc _ _⟩
theorem r9(x y:Int) (W:World):Calls Try.prog 57 #[.int .i64 x,.int .i64 y] W λe w'=>e=.returned (.int .i64 (pu x y))/\GW W w':=by
 by_cases h:x < y
 ·go_enter Try.func57,Try.ntmps57
  go_wp2
  go_ret
  exact⟨by simp[pu,h],GW.refl _⟩
 ·by_cases h2:y < x
  ·go_enter Try.func57,Try.ntmps57
   go_wp2
   go_ret
   exact⟨by simp[pu,h,h2],GW.refl _⟩
  ·go_enter Try.func57,Try.ntmps57
   go_wp2
   go_ret
   exact⟨by unfold pu;rw[oIN (by omega),oIN (by omega)];rfl,GW.refl _⟩
theorem BE(a b c:Int) (k:Nat) (W:World) (h0:W.cell? ⟨k,0,none⟩=some (.int .i64 a)) (h1:W.cell? ⟨k,1,none⟩=some (.int .i64 b)) (h2:W.cell? ⟨k,2,none⟩=some (.int .i64 c)) :
 Calls Try.prog 56 #[.slice (some ⟨k,0,none⟩) 3 3] W λe w'=>e=.returned (.int .i64 (orI a b c))/\GW W w':=by
 by_cases ha:a=0
 ·by_cases hb:b=0
  ·by_cases hc:c=0
   ·go_enter Try.func56,Try.ntmps56
    go_wp2
    refine wp_loop_rounds 4 ?_;rw[rounds_succ]
    go_wp2
    rw[rounds_succ]
    go_wp2
    rw[rounds_succ]
    go_wp2
    rw[rounds_succ]
    go_wp2
    go_ret
    exact⟨by simp[orI,ha,hb,hc],GW.refl _⟩
   ·go_enter Try.func56,Try.ntmps56
    go_wp2
    refine wp_loop_rounds 4 ?_;rw[rounds_succ]
    go_wp2
    rw[rounds_succ]
    go_wp2
    rw[rounds_succ]
    go_wp2
    go_ret
    exact⟨by simp[orI,ha,hb],GW.refl _⟩
  ·go_enter Try.func56,Try.ntmps56
   go_wp2
   refine wp_loop_rounds 4 ?_;rw[rounds_succ]
   go_wp2
   rw[rounds_succ]
   go_wp2
   go_ret
   exact⟨by simp[orI,ha,hb],GW.refl _⟩
 ·go_enter Try.func56,Try.ntmps56
  go_wp2
  refine wp_loop_rounds 4 ?_;rw[rounds_succ]
  go_wp2
  go_ret
  exact⟨by simp[orI,ha],GW.refl _⟩
def Ci(a b c:Int) (v:Value) (w:World):Prop:=∃k,v=.slice (some ⟨k,0,none⟩) 3 3/\w.cell? ⟨k,0,none⟩=some (.int .i64 a)/\w.cell? ⟨k,1,none⟩=some (.int .i64 b)/\w.cell? ⟨k,2,none⟩=some (.int .i64 c)
theorem rkw{w w':World}(h:GW w w'):RK (λ_=>False) w w':=by
 obtain⟨q,os,rfl⟩:=h;refine⟨by simp[grow],λb hb _=>?_⟩;show (w.heap++os)[b]?=_;rw[Array.getElem?_append_left hb]
theorem sc{w:World}{b o:Nat}{v:Value}(h:w.cell? ⟨b,o,none⟩=some v):b < w.heap.size:=World.block_lt_of_cell? w _ h
theorem wc{a b c:Int}(w w':World) (u:Value) (h:RK (λ_=>False) w w') (hs:Ci a b c u w):Ci a b c u w':=by
 obtain⟨k,h1,h2,h3,h4⟩:=hs;have hk:=sc h2;exact⟨k,h1,by rw[h.cell hk id];exact h2,by rw[h.cell hk id];exact h3,by rw[h.cell hk id];exact h4⟩
theorem yw(a b c:Int) (w:World) (t:TypeId):Ci a b c (.slice (some ⟨w.heap.size,0,none⟩) 3 3) (w.alloc (.cells #[.int .i64 a,.int .i64 b,.int .i64 c] t)):=by
 refine⟨_,rfl,?_,?_,?_⟩<;>rw[World.cell?_alloc_new]<;>rfl
theorem oc{W w':World}{a b c d:Value}{t t':TypeId}(h:GW ((W.alloc (.cells #[a,b] t)).alloc (.cells #[c,d] t')) w') :
 w'.cell? ⟨W.heap.size,0,none⟩=some a/\w'.cell? ⟨W.heap.size,1,none⟩=some b/\w'.cell? ⟨W.heap.size+1,0,none⟩=some c/\w'.cell? ⟨W.heap.size+1,1,none⟩=some d:=by
 have hk:=rkw h
 have e1:∀o v,(W.alloc (.cells #[a,b] t)).cell? ⟨W.heap.size,o,none⟩=some v->w'.cell? ⟨W.heap.size,o,none⟩=some v:=λo v hv=>by
  rw[hk.cell (by simp;omega) id,World.cell?_of_block (heap_alloc_old _ _ (by simp))];exact hv
 have e2:∀o v,((W.alloc (.cells #[a,b] t)).alloc (.cells #[c,d] t')).cell? ⟨W.heap.size+1,o,none⟩=some v->w'.cell? ⟨W.heap.size+1,o,none⟩=some v:=λo v hv=>by
  rw[hk.cell (by simp) id];exact hv
 have hs:W.heap.size+1=(W.alloc (.cells #[a,b] t)).heap.size:=by simp
 refine⟨e1 _ _ ?_,e1 _ _ ?_,e2 _ _ ?_,e2 _ _ ?_⟩
 ·rw[World.cell?_alloc_new];rfl
 ·rw[World.cell?_alloc_new];rfl
 ·rw[hs,World.cell?_alloc_new];rfl
 ·rw[hs,World.cell?_alloc_new];rfl
set_option maxHeartbeats 4000000 in
set_option maxRecDepth 100000 in
theorem wB(x y:PID) (W:World):Calls Try.prog 33 #[.agg #[.int .i64 x.1,.int .i64 x.2],.agg #[.int .i64 y.1,.int .i64 y.2]] W λe w'=>e=.returned (.int .i64 (xM x y))/\GW W w':=by
 go_enter Try.func33,Try.ntmps33
 go_wp2_with fail
 refine m9 (λw'=>GW ((W.alloc (.cells #[.int .i64 x.1,.int .i64 x.2] 30)).alloc (.cells #[.int .i64 y.1,.int .i64 y.2] 30)) w') (RK λ_=>False)
  [g7 (.agg #[.int .i64 x.1,.int .i64 x.2]),g7 (.int .i64 (jD x.1)),g7 (.agg #[.int .i64 y.1,.int .i64 y.2]),g7 (.int .i64 (jD y.1)),g7 (.int .i64 (pu (jD x.1) (jD y.1))),g7 (.pointer (some ⟨W.heap.size,0,none⟩)),g7 (.int .i64 x.1),g7 (.pointer (some ⟨W.heap.size+1,0,none⟩)),g7 (.int .i64 y.1),g7 (.int .i64 (pu x.1 y.1)),g7 (.pointer (some ⟨W.heap.size,1,none⟩)),g7 (.int .i64 x.2),g7 (.pointer (some ⟨W.heap.size+1,1,none⟩)),g7 (.int .i64 y.2),g7 (.int .i64 (pu x.2 y.2)),Ci (pu (jD x.1) (jD y.1)) (pu x.1 y.1) (pu x.2 y.2),g7 (.int .i64 (xM x y)),g7 (.int .i64 (xM x y))]
  22 (by kernel_rfl) rfl (by kernel_rfl) (GW.drew _) (λ_=>RK.refl _ _) ?_ ?_ ?_
 ·exact⟨g7.kept,g7.kept,g7.kept,g7.kept,g7.kept,g7.kept,g7.kept,g7.kept,g7.kept,g7.kept,g7.kept,g7.kept,g7.kept,g7.kept,g7.kept,wc,g7.kept,g7.kept,trivial⟩
 ·refine bl ?_ (bl ?_ (bl ?_ (bl ?_ (bl ?_ (bl ?_ (bl ?_ (bl ?_ (bl ?_ (bl ?_ (bl ?_ (bl ?_ (bl ?_ (bl ?_ (bl ?_ (bl ?_ (bl ?_ (bl ?_ uy)))))))))))))))))
  ·refine bt rfl λf w1 hb H=>?_;have e2:f 2=_:=H 2 (by decide);clear H;have hc:=oc hb;obtain⟨c0,c1,c2,c3⟩:=hc;have HB:=Lib.hid hb;clear hb
   go_simp
   exact⟨HB.out,RK.refl _ _,rfl⟩
  ·refine bt rfl λf w1 hb H=>?_;have e5:f 5=_:=H 5 (by decide);clear H;have HB:=Lib.hid hb;clear hb
   go_simp
   refine (sY x w1).mono ?_;rintro e w2 ⟨rfl,hg⟩;exact⟨_,rfl,HB.out.trans hg,rkw hg,rfl⟩
  ·refine bt rfl λf w1 hb H=>?_;have e3:f 3=_:=H 3 (by decide);clear H;have hc:=oc hb;obtain⟨c0,c1,c2,c3⟩:=hc;have HB:=Lib.hid hb;clear hb
   go_simp
   exact⟨HB.out,RK.refl _ _,rfl⟩
  ·refine bt rfl λf w1 hb H=>?_;have e7:f 7=_:=H 7 (by decide);clear H;have HB:=Lib.hid hb;clear hb
   go_simp
   refine (sY y w1).mono ?_;rintro e w2 ⟨rfl,hg⟩;exact⟨_,rfl,HB.out.trans hg,rkw hg,rfl⟩
  ·refine bt rfl λf w1 hb H=>?_;have e6:f 6=_:=H 6 (by decide);have e8:f 8=_:=H 8 (by decide);clear H;have HB:=Lib.hid hb;clear hb
   go_simp
   refine (r9 _ _ w1).mono ?_;rintro e w2 ⟨rfl,hg⟩;exact⟨_,rfl,HB.out.trans hg,rkw hg,rfl⟩
  ·refine bt rfl λf w1 hb H=>?_;have e2:f 2=_:=H 2 (by decide);clear H;have HB:=Lib.hid hb;clear hb
   go_simp
   exact⟨HB.out,RK.refl _ _,rfl⟩
  ·refine bt rfl λf w1 hb H=>?_;have Pf:f 10=_:=H 10 (by decide);clear H;have hc:=oc hb;obtain⟨c0,c1,c2,c3⟩:=hc;have HB:=Lib.hid hb;clear hb
   go_simp
   exact⟨HB.out,RK.refl _ _,rfl⟩
  ·refine bt rfl λf w1 hb H=>?_;have e3:f 3=_:=H 3 (by decide);clear H;have HB:=Lib.hid hb;clear hb
   go_simp
   exact⟨HB.out,RK.refl _ _,rfl⟩
  ·refine bt rfl λf w1 hb H=>?_;have Ph:f 12=_:=H 12 (by decide);clear H;have hc:=oc hb;obtain⟨c0,c1,c2,c3⟩:=hc;have HB:=Lib.hid hb;clear hb
   go_simp
   exact⟨HB.out,RK.refl _ _,rfl⟩
  ·refine bt rfl λf w1 hb H=>?_;have Pg:f 11=_:=H 11 (by decide);have Ri:f 13=_:=H 13 (by decide);clear H;have HB:=Lib.hid hb;clear hb
   go_simp
   refine (r9 _ _ w1).mono ?_;rintro e w2 ⟨rfl,hg⟩;exact⟨_,rfl,HB.out.trans hg,rkw hg,rfl⟩
  ·refine bt rfl λf w1 hb H=>?_;have e2:f 2=_:=H 2 (by decide);clear H;have HB:=Lib.hid hb;clear hb
   go_simp
   exact⟨HB.out,RK.refl _ _,rfl⟩
  ·refine bt rfl λf w1 hb H=>?_;have Pj:f 15=_:=H 15 (by decide);clear H;have hc:=oc hb;obtain⟨c0,c1,c2,c3⟩:=hc;have HB:=Lib.hid hb;clear hb
   go_simp
   exact⟨HB.out,RK.refl _ _,rfl⟩
  ·refine bt rfl λf w1 hb H=>?_;have e3:f 3=_:=H 3 (by decide);clear H;have HB:=Lib.hid hb;clear hb
   go_simp
   exact⟨HB.out,RK.refl _ _,rfl⟩
  ·refine bt rfl λf w1 hb H=>?_;have Pl:f 17=_:=H 17 (by decide);clear H;have hc:=oc hb;obtain⟨c0,c1,c2,c3⟩:=hc;have HB:=Lib.hid hb;clear hb
   go_simp
   exact⟨HB.out,RK.refl _ _,rfl⟩
  ·refine bt rfl λf w1 hb H=>?_;have Pk:f 16=_:=H 16 (by decide);have Pm:f 18=_:=H 18 (by decide);clear H;have HB:=Lib.hid hb;clear hb
   go_simp
   refine (r9 _ _ w1).mono ?_;rintro e w2 ⟨rfl,hg⟩;exact⟨_,rfl,HB.out.trans hg,rkw hg,rfl⟩
  ·refine bt rfl λf w1 hb H=>?_;have e9:f 9=_:=H 9 (by decide);have Pi:f 14=_:=H 14 (by decide);have Pn:f 19=_:=H 19 (by decide);clear H;have HB:=Lib.hid hb;clear hb
   go_simp
   exact⟨HB.out.trans (GW.alloc _ _),rkw (GW.alloc _ _),yw _ _ _ _ _⟩
  ·refine bt rfl λf w1 hb H=>?_;have Q4:=H 20 (by decide);clear H;obtain⟨k,Q5,TM,TN,TO⟩:=Q4;have HB:=Lib.hid hb;clear hb
   go_simp
   refine (BE _ _ _ k w1 TM TN TO).mono ?_;rintro e w2 ⟨rfl,hg⟩;exact⟨_,rfl,HB.out.trans hg,rkw hg,rfl⟩
  ·refine bt rfl λf w1 hb H=>?_;have Po:f 21=_:=H 21 (by decide);clear H;have HB:=Lib.hid hb;clear hb
   go_simp
   exact⟨HB.out,RK.refl _ _,rfl⟩
 ·intro f w9 hb hE;simp only[eC,Act.put,xW,List.setIfInBounds_toArray,List.set_cons_succ,List.set_cons_zero]
  have e4:f 4=.int .i64 (xM x y):=by
   simp only[Bo,tN,g7] at hE;simp[hE]
  rw[e4];clear hE e4
  go_wp2
  go_ret
  exact⟨rfl,((GW.alloc _ _).trans (GW.alloc _ _)).trans hb⟩
end Go.Proofs.Yteonljfnncdijaa
namespace Go.Proofs.Yteonljfnncdijaa
open Go.RowKit Go.Sort Go.Lib
def eF(x:PID):List Value:=[.int .i64 x.1,.int .i64 x.2]
theorem BB(x y:PID) (w:World):Sem.run Try.prog (binOp .eql 30 (.agg #[.int .i64 x.1,.int .i64 x.2]) (.agg #[.int .i64 y.1,.int .i64 y.2])) w=.ok (.bool (decide (x=y))) w:=by
 have u3:=Try.underlying3;have a3:=Try.isAgg3;have z3:=Try.sizeOf3
 have hS:Try.prog.underlying 30=some (.struct (Try.prog.fieldsOf 30)):=by kernel_rfl
 have hp:Try.prog.stoodInHeld 30=false:=by kernel_rfl
 rw[run_eql_struct,show (10000:Nat)=9999+1 from rfl,run_equalIn_agg w 9999 30 _ _ hS hp];simp only[Program.fieldsOf,Try.underlying30]
 go_simp
 by_cases h1:x.fst=y.fst<;>by_cases h2:x.snd=y.snd<;>simp[h1,h2,Prod.ext_iff]
theorem cu{W:World}{ZG off:Nat}{d:Array PID}(h:HoldsK eF 2 W ZG off d) {i:Nat}(hi:i < d.size) :
 W.cell? ⟨ZG,off+i*2,none⟩=some (.int .i64 d[i]!.1)/\W.cell? ⟨ZG,off+i*2+1,none⟩=some (.int .i64 d[i]!.2)/\W.frozen? ⟨ZG,off+i*2,none⟩=false/\W.frozen? ⟨ZG,off+i*2+1,none⟩=false:=by
 have h0:=h.cell hi (c:=0) (by omega);have h1:=h.cell hi (c:=1) (by omega);exact⟨by simpa [eF] using h0.1,by simpa [eF] using h1.1,by simpa using h0.2,by simpa using h1.2⟩
theorem Bv{w wr:World}{n ZG off:Nat}{dk:Array PID}{i:Nat}(hi:i < dk.size) (U3:wr=putRowK eF 2 (Sort.ahead w n) ZG off dk) (x:PID) :
 ((wr.drew.setCell ⟨ZG,off+i*2,none⟩ (.int .i64 x.1)).setCell ⟨ZG,off+i*2+1,none⟩ (.int .i64 x.2))=putRowK eF 2 (Sort.ahead w (n+1)) ZG off (dk.setIfInBounds i x):=by
 subst U3
 have hb:i*2+(eF x).length<=(flatK eF 2 dk).size:=by simp[eF];omega
 have e:=setCells_putRow (Sort.ahead w (n+1)) ZG off (eF x) (i*2) (flatK eF 2 dk) hb
 have e2:setMany (flatK eF 2 dk) (i*2) (eF x)=flatK eF 2 (dk.setIfInBounds i x):=by
  refine ext_get! (by simp) λt ht=>?_
  have Zc:t < dk.size*2:=by simpa using ht
  rw[get_setMany _ _ _ t (by simpa using Zc),get_flatK _ _ _ t Zc,get_flatK _ _ _ t (by simpa using Zc)]
  have hq:t / 2 < dk.size:=by omega
  by_cases a:t / 2=i
  ·rw[oIP (by simp[eF];omega)]
   have:t - i*2=t % 2:=by omega
   rw[this,a];simp[show i < dk.size from hi]
  ·rw[oIN (by simp[eF];omega)];simp[Array.getElem!_eq_getD,Array.getD,hq,Array.getElem_setIfInBounds,Ne.symm a]
 rw[e2] at e;exact e
end Go.Proofs.Yteonljfnncdijaa
