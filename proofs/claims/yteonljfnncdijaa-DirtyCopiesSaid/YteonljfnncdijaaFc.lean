/- Part of the proof; no condition. -/
import Derived.Test.YteonljfnncdijaaFb
import Derived.Test.YteonljfnncdijaaRows
import Derived.WalkKit
import Derived.WalkSpells
import Derived.WalkLawsBesides
import Derived.Deep.QuietTactic
import Derived.BigQuiet
import Derived.Lib.Hide
import Derived.Handy
import Derived.OpenShut
import Derived.Orders
import Derived.Test.YteonljfnncdijaaProg
import Derived.Sort.Grow
import Derived.Shelf.GgSortFunc.RowK
import Derived.Shelf.SlicesQ.Reverse
import Derived.Lib.SlicesCompact
import Derived.Lib.SliceRun
import Derived.Laws.StructEq
import Derived.Deep.LoopGhost
set_option linter.unusedVariables false
set_option linter.unusedSimpArgs false
namespace Go.Proofs.Yteonljfnncdijaa
open Go.RowKit
inductive CT where
 | int (k:IntKind)
 | bool
 | str
 | nat
 | row (own:Bool) (t:CT)
 | nilr (own:Bool)
 | pair (a b:CT)
def jb:CT->CT->Bool
 | .int k,.int k'=>decide (k=k')
 | .bool,.bool=>true
 | .str,.str=>true
 | .nat,.nat=>true
 | .row o t,.row o' t'=>(o==o') && jb t t'
 | .nilr o,.nilr o'=>o==o'
 | .pair a b,.pair a' b'=>jb a a' && jb b b'
 | _,_=>false
theorem j3:∀{a b:CT},jb a b=true->a=b:=by
 intro a
 induction a with
 | int k=>intro b h;cases b<;>simp_all [jb]
 | bool=>intro b h;cases b<;>simp_all [jb]
 | str=>intro b h;cases b<;>simp_all [jb]
 | nat=>intro b h;cases b<;>simp_all [jb]
 | row o t ih=>intro b h;cases b<;>simp[jb] at h;rw[h.1,ih h.2]
 | nilr o=>intro b h;cases b<;>simp_all [jb]
 | pair x y X7 VX=>intro b h;cases b<;>simp[jb] at h;rw[X7 h.1,VX h.2]
def dX:CT->CT->Bool
 | .int k,.int k'=>decide (k=k')
 | .bool,.bool=>true
 | .str,.str=>true
 | .nat,.nat=>true
 | .row _ t,.row _ t'=>dX t t'
 | .nilr _,.nilr _=>true
 | .pair a b,.pair a' b'=>dX a a' && dX b b'
 | _,_=>false
def uB:CT->CT->Bool
 | .int k,.int k'=>decide (k=k')
 | .bool,.bool=>true
 | .str,.str=>true
 | .nat,.nat=>true
 | .row o t,.row o' t'=>(o==o') && uB t t'
 | .nilr o,.nilr o'=>o==o'
 | .nilr o,.row o' _=>o==o'
 | .pair a b,.pair a' b'=>uB a a' && uB b b'
 | _,_=>false
def dZ:CT->Nat
 | .pair a b=>dZ a+dZ b
 | .nat=>0
 | _=>1
def jf:CT->CT
 | .row true t=>.row false (jf t)
 | .nilr _=>.nilr false
 | .pair a b=>.pair (jf a) (jf b)
 | t=>t
def shT:CT->Nat->List Nat->Option CT
 | .pair a b,o,os=>if o < dZ a then (shT a o os).map (.pair · b) else (shT b (o - dZ a) os).map (.pair a ·)
 | t,0,[]=>some (jf t)
 | .row true t,0,o :: os=>(shT t o os).map (.row true)
 | t,_,_=>some t
abbrev den:CT->Type
 | .int _=>Int
 | .bool=>Bool
 | .str=>ByteArray
 | .nat=>Nat
 | .row _ t=>List (den t)
 | .nilr _=>Unit
 | .pair a b=>den a×den b
theorem cL:∀{a b:CT},dX a b=true->den a=den b:=by
 intro a
 induction a with
 | int k=>intro b h;cases b<;>simp[dX] at h;rfl
 | bool=>intro b h;cases b<;>simp[dX] at h;rfl
 | str=>intro b h;cases b<;>simp[dX] at h;rfl
 | nat=>intro b h;cases b<;>simp[dX] at h;rfl
 | row o t ih=>intro b h;cases b<;>simp[dX] at h;simp only[den];rw[ih h]
 | nilr o=>intro b h;cases b<;>simp[dX] at h;rfl
 | pair x y X7 VX=>intro b h;cases b<;>simp[dX] at h;simp only[den];rw[X7 h.1,VX h.2]
def Bq:(t:CT)->den t
 | .int _=>(0:Int)
 | .bool=>false
 | .str=>ByteArray.empty
 | .nat=>(0:Nat)
 | .row _ _=>[]
 | .nilr _=>()
 | .pair a b=>(Bq a,Bq b)
def zS:(a b:CT)->den a->den b
 | .row _ t,.row _ t',xs=>List.map (zS t t') xs
 | .pair a b,.pair a' b',x=>(zS a a' x.1,zS b b' x.2)
 | .int _,.int _,x=>x
 | .bool,.bool,x=>x
 | .str,.str,x=>x
 | .nat,.nat,x=>x
 | _,b,_=>Bq b
def enc:(t:CT)->den t->List TV
 | .int k,x=>[.v (.int k x)]
 | .bool,x=>[.v (.bool x)]
 | .str,x=>[.v (.string x)]
 | .nat,_=>[]
 | .row true t,xs=>[.ow (List.map (enc t) xs)]
 | .row false t,xs=>[.sl (List.map (enc t) xs)]
 | .nilr true,_=>[.ow []]
 | .nilr false,_=>[.sl []]
 | .pair a b,x=>enc a x.1++enc b x.2
def HL(D:CT->Type):List CT->Type
 | []=>Unit
 | t :: ts=>D t×HL D ts
def ov:List (List CT)->Nat->List CT
 | [],_=>[]
 | l :: _,0=>l
 | _ :: r,i+1=>ov r i
def n8:List (List CT)->Type
 | []=>Empty
 | [l]=>HL den l
 | l :: m :: r=>HL den l⊕n8 (m :: r)
def kB:(ls:List (List CT))->(i:Nat)->HL den (ov ls i)->Option (n8 ls)
 | [],_,_=>none
 | [_],0,h=>some h
 | [_],_+1,_=>none
 | _ :: _ :: _,0,h=>some (.inl h)
 | _ :: m :: r,i+1,h=>(kB (m :: r) i h).map .inr
def B1{α:Type}:(ls:List (List CT))->((i:Nat)->HL den (ov ls i)->α)->n8 ls->α
 | [],_,o=>Empty.elim o
 | [_],f,o=>f 0 o
 | _ :: m :: r,f,o=>match o with
  | .inl h=>f 0 h
  | .inr o'=>B1 (m :: r) (λi h=>f (i+1) h) o'
def eR{α:Type}(ls:List (List CT)) (o:n8 ls) (f:(i:Nat)->HL den (ov ls i)->α):α:=B1 ls f o
structure Alg (D:CT->Type) (M:Type->Type) where
 lit:(k:IntKind)->Int->D (.int k)
 litB:Bool->D .bool
 litS:ByteArray->D .str
 litN:Nat->D .nat
 nilv:(o:Bool)->D (.nilr o)
 nil:(o:Bool)->(t:CT)->D (.row o t)
 recast:(t t':CT)->dX t t'=true->D t->D t'
 coe:(t t':CT)->D t->D t'
 mkp:(a b:CT)->D a->D b->D (.pair a b)
 fst:(a b:CT)->D (.pair a b)->D a
 snd:(a b:CT)->D (.pair a b)->D b
 ar:BinOp->(k:IntKind)->D (.int k)->D (.int k)->D (.int k)
 cm:BinOp->(k:IntKind)->D (.int k)->D (.int k)->D .bool
 sh:BinOp->(k:IntKind)->D (.int k)->D .nat->D (.int k)
 neg:(k:IntKind)->D (.int k)->D (.int k)
 not:D .bool->D .bool
 cv:(k k':IntKind)->D (.int k)->D (.int k')
 mm:Bool->(k:IntKind)->D (.int k)->D (.int k)->D (.int k)
 eqB:D .bool->D .bool->D .bool
 eqS:D .str->D .str->D .bool
 eqT:D .str->D .str->D .bool
 andB:D .bool->D .bool->D .bool
 ite:(t:CT)->D .bool->D t->D t->D t
 natI:D .nat->D (.int .i64)
 addN:D .nat->D .nat->D .nat
 subN:D .nat->D .nat->D .nat
 minN:D .nat->D .nat->D .nat
 len:(o:Bool)->(t:CT)->D (.row o t)->D .nat
 slOk:D .nat->D .nat->D .nat->D .bool
 ltN:D .nat->D .nat->D .bool
 eqN:D .nat->D .nat->D .bool
 win:(o:Bool)->(t:CT)->D (.row o t)->D .nat->D .nat->D (.row o t)
 appOk:Nat->D .nat->D .nat->D .bool
 cat:(t:CT)->(o:Bool)->D (.row true t)->D (.row o t)->D (.row true t)
 rowl:(o:Bool)->(t:CT)->List (D t)->D (.row o t)
 mkOk:D .nat->D .nat->Nat->D .bool
 rep:(t:CT)->D .nat->D t->D (.row true t)
 upd:(t:CT)->D (.row true t)->D .nat->(D t->D t)->D (.row true t)
 splice:(t:CT)->(o:Bool)->D (.row true t)->D .nat->D .nat->D (.row o t)->D (.row true t)
 strLen:D .str->D (.int .i64)
 strB:D .str->D (.row false (.int .u8))
 strOk:D .str->D .bool
 fail:{X:Type}->M X
 br:{X:Type}->D .bool->M X->M X->M X
 nat:{X:Type}->(k:IntKind)->D (.int k)->(D .nat->M X)->M X
 get:{X:Type}->(o:Bool)->(t:CT)->D (.row o t)->D .nat->(D t->M X)->M X
 strAt:{X:Type}->D .str->D .nat->(D (.int .u8)->M X)->M X
 bstr:{X:Type}->D (.row false (.int .u8))->(D .str->M X)->M X
 lt:{X:Type}->(t:CT)->D t->(D t->M X)->M X
 call:{X:Type}->Nat->(ins:List CT)->(outs:List (List CT))->(HL den ins->Option (n8 outs))->HL D ins->((i:Nat)->HL D (ov outs i)->M X)->M X
 loop:{X:Type}->Nat->(s:List CT)->(outs:List (List CT))->HL D s->(HL D s->M (HL den s⊕n8 outs))->((i:Nat)->HL D (ov outs i)->M X)->M X
 join:{X:Type}->(outs:List (List CT))->M (n8 outs)->((i:Nat)->HL D (ov outs i)->M X)->M X
 next:(s:List CT)->(outs:List (List CT))->HL D s->M (HL den s⊕n8 outs)
 exitL:(s:List CT)->(outs:List (List CT))->(i:Nat)->HL D (ov outs i)->M (HL den s⊕n8 outs)
 out:(outs:List (List CT))->(i:Nat)->HL D (ov outs i)->M (n8 outs)
def eO:Int->Option Nat
 | .ofNat n=>some n
 | .negSucc _=>none
def cT{α:Type}(xs:List α) (i:Nat):Option α:=xs[i]?
def CS(a b:Bool):Bool:=a==b
def CR(a b:ByteArray):Bool:=a==b
def CF(a b:ByteArray):Bool:=a.toList==b.toList
def bf(n:Nat):Int:=(n:Int)
def CP(k:IntKind) (a:Int):Int:=k.wrap (0 - a)
def mmR(mx:Bool) (a b:Int):Int:=if mx then (if a < b then b else a) else (if b < a then b else a)
def By{α:Type}(xs:List α) (l n:Nat):List α:=(xs.drop l).take n
def g8(l h n:Nat):Bool:=l<=h && decide (h<=n)
def cz(bytes n m:Nat):Bool:=decide (n+m<=1099511627776) && decide ((n+m)*bytes<=140737488355328)
def AR(n m sz:Nat):Bool:=decide (n=m) && decide (n*sz<=16777216)
def fu{α:Type}(xs:List α) (lo m:Nat) (ys:List α):List α:=xs.take lo++ys.take m++xs.drop (lo+m)
def Ac(s:ByteArray):List Int:=s.data.toList.map λb=>(b.toNat:Int)
def u9(s:ByteArray) (k:Nat):Option Int:=(s[k]?).map λb=>(b.toNat:Int)
def xw(l:List Int):ByteArray:=l.foldl (λr n=>r.push (UInt8.ofNat n.toNat)) ByteArray.empty
def bu{S T:Type}(f:S->Option (S⊕T)):Nat->S->Option T
 | 0,_=>none
 | n+1,s=>(f s).bind λx=>match x with | .inl s'=>bu f n s' | .inr t=>some t
def NN:Nat:=18446744073709551616
def aV:Alg den Option where
 lit _ n:=n
 litB b:=b
 litS s:=s
 litN n:=n
 nilv _:=()
 nil _ _:=[]
 recast _ _ h x:=cast (cL h) x
 coe t t' x:=zS t t' x
 mkp _ _ x y:=(x,y)
 fst _ _ x:=x.1
 snd _ _ x:=x.2
 ar op k a b:=arR op k a b
 cm op _ a b:=cmR op a b
 sh op k a n:=shR op k a n
 neg k a:=CP k a
 not b:=!b
 cv _ k' n:=k'.wrap n
 mm mx _ a b:=mmR mx a b
 eqB a b:=CS a b
 eqS a b:=CR a b
 eqT a b:=CF a b
 andB a b:=a && b
 ite _ c a b:=bif c then a else b
 natI n:=bf n
 addN a b:=Nat.add a b
 subN a b:=Nat.sub a b
 minN a b:=Nat.min a b
 len _ _ xs:=List.length xs
 slOk l h n:=g8 l h n
 ltN a b:=Nat.blt a b
 eqN a b:=Nat.beq a b
 win _ _ xs l n:=By xs l n
 appOk b n m:=cz b n m
 cat _ _ xs ys:=List.append xs ys
 rowl _ _ l:=l
 mkOk n m sz:=AR n m sz
 rep _ n x:=List.replicate n x
 upd _ xs i f:=List.modify xs i f
 splice _ _ xs lo m ys:=fu xs lo m ys
 strLen s:=(ByteArray.size s:Int)
 strB s:=Ac s
 strOk s:=decide (ByteArray.size s < 4294967296)
 fail:=none
 br c a b:=bif c then a else b
 nat _ n k:=(eO n).bind k
 get _ _ xs i k:=(cT xs i).bind k
 strAt s i k:=(u9 s i).bind k
 bstr l k:=k (xw l)
 lt _ x k:=k x
 call _ _ outs g h k:=(g h).bind λo=>eR outs o k
 loop _ _ outs h body k:=(bu body NN h).bind λo=>eR outs o k
 join outs m k:=m.bind λo=>eR outs o k
 next _ _ h:=some (.inl h)
 exitL _ outs i h:=(kB outs i h).map .inr
 out outs i h:=kB outs i h
structure XP (D:CT->Type) where
 root:Nat
 off:Nat
 hops:List (D .nat×Nat×Nat)
inductive XV (D:CT->Type) where
 | d (t:CT) (x:D t)
 | k (x:Value)
 | dead
 | ptr (p:XP D) (vs:List Nat)
 | ip (cs:List (XV D))
 | pk (p:XP D) (vs:List Nat)
 | pw (p:XP D) (vs:List Nat) (sz:Nat) (lo n:D .nat)
 | agg (l:List (XV D))
 | tup (l:List (XV D))
 | fn (f:FuncId) (cap:List (XV D))
 | gap (t:CT) (x:D (.row true t)) (i:D .nat) (o:Nat)
structure XS (D:CT->Type) where
 tm:List (Nat×XV D)
 ce:List (Nat×List (XV D))
 vr:List (Key×Nat)
 lg:i5
abbrev Sh:=XV λ_=>Unit
abbrev Shs:=XS λ_=>Unit
abbrev shU(t:CT):Sh:=.d t ()
structure XO where
 cells:List Sh
 sh:List RSh
 pts:List (Nat×List Sh)
def rz:List (Unit×Nat×Nat)->List CT->List CT
 | [],r=>r
 | _ :: hs,r=>.nat :: rz hs r
mutual
def lv:Sh->List CT->List CT
 | .d t _,r=>t :: r
 | .ip l,r=>lvL l r
 | .agg l,r=>lvL l r
 | .tup l,r=>lvL l r
 | .fn _ l,r=>lvL l r
 | .k _,r=>r
 | .dead,r=>r
 | .ptr p _,r=>rz p.hops r
 | .pk p _,r=>rz p.hops r
 | .pw _ _ _ _ _,r=>r
 | .gap t _ _ _,r=>.row true t :: .nat :: r
def lvL:List Sh->List CT->List CT
 | [],r=>r
 | x :: xs,r=>lv x (lvL xs r)
end
def lvP:List (Nat×List Sh)->List CT->List CT
 | [],r=>r
 | x :: xs,r=>lvL x.2 (lvP xs r)
def lvT:List (Nat×Sh)->List CT->List CT
 | [],r=>r
 | x :: xs,r=>lv x.2 (lvT xs r)
def lvS(s:Shs):List CT:=lvT s.tm (lvP s.ce [])
def lvO(o:XO):List CT:=lvL o.cells (lvP o.pts [])
structure Ctr where
 f:FuncId
 id:Nat
 ins:List Sh
 pts:List (Nat×List Sh)
 outs:List XO
 g:HL den (lvL ins (lvP pts []))->Option (n8 (outs.map lvO))
structure qK where
 i:Nat
 nm:Nat
 s:Shs
 outs:List (d4×Shs)
section
variable {D:CT->Type}
def XP.bare(p:XP D):Bool:=match p.hops with | []=>true | _ :: _=>false
def CL(p:XP λ_=>Unit):XP D:=⟨p.root,p.off,[]⟩
def my:(hs:List (Unit×Nat×Nat))->(r:List CT)->HL D (rz hs r)->List (D .nat×Nat×Nat)×HL D r
 | [],_,h=>([],h)
 | (_,sz,o) :: hs,r,h=>((h.1,sz,o) :: (my hs r h.2).1,(my hs r h.2).2)
def rR:(hs:List (Unit×Nat×Nat))->List (D .nat×Nat×Nat)->(r:List CT)->HL D r->Option (HL D (rz hs r))
 | [],[],_,h=>some h
 | (_,sz,o) :: hs,(i,sz',o') :: hs',r,h=>if sz=sz'/\o=o' then (rR hs hs' r h).map λh1=>(i,h1) else none
 | _,_,_,_=>none
mutual
def fill:(s:Sh)->(r:List CT)->HL D (lv s r)->XV D×HL D r
 | .d t _,_,h=>(.d t h.1,h.2)
 | .ip l,r,h=>(.ip (dn l r h).1,(dn l r h).2)
 | .agg l,r,h=>(.agg (dn l r h).1,(dn l r h).2)
 | .tup l,r,h=>(.tup (dn l r h).1,(dn l r h).2)
 | .fn f l,r,h=>(.fn f (dn l r h).1,(dn l r h).2)
 | .k x,_,h=>(.k x,h)
 | .dead,_,h=>(.dead,h)
 | .ptr p vs,r,h=>(.ptr ⟨p.root,p.off,(my p.hops r h).1⟩ vs,(my p.hops r h).2)
 | .pk p vs,r,h=>(.pk ⟨p.root,p.off,(my p.hops r h).1⟩ vs,(my p.hops r h).2)
 | .pw _ _ _ _ _,_,h=>(.dead,h)
 | .gap t _ _ o,_,h=>(.gap t h.1 h.2.1 o,h.2.2)
def dn:(s:List Sh)->(r:List CT)->HL D (lvL s r)->List (XV D)×HL D r
 | [],_,h=>([],h)
 | x :: xs,r,h=>((fill x (lvL xs r) h).1 :: (dn xs r (fill x (lvL xs r) h).2).1,(dn xs r (fill x (lvL xs r) h).2).2)
end
def jZ:(s:List (Nat×List Sh))->(r:List CT)->HL D (lvP s r)->List (Nat×List (XV D))×HL D r
 | [],_,h=>([],h)
 | x :: xs,r,h=>((x.1,(dn x.2 (lvP xs r) h).1) :: (jZ xs r (dn x.2 (lvP xs r) h).2).1,(jZ xs r (dn x.2 (lvP xs r) h).2).2)
def oS:(s:List (Nat×Sh))->(r:List CT)->HL D (lvT s r)->List (Nat×XV D)×HL D r
 | [],_,h=>([],h)
 | x :: xs,r,h=>((x.1,(fill x.2 (lvT xs r) h).1) :: (oS xs r (fill x.2 (lvT xs r) h).2).1,(oS xs r (fill x.2 (lvT xs r) h).2).2)
def rK(s:Shs) (h:HL D (lvS s)):XS D:=⟨(oS s.tm _ h).1,(jZ s.ce [] (oS s.tm _ h).2).1,s.vr,([],[])⟩
def fa:(outs:List XO)->(i:Nat)->HL D (ov (outs.map lvO) i)->Option (List (XV D)×List RSh×List (Nat×List (XV D)))
 | [],_,_=>none
 | o :: _,0,h=>some ((dn o.cells _ h).1,o.sh,(jZ o.pts [] (dn o.cells _ h).2).1)
 | _ :: r,i+1,h=>fa r i h
def la:(outs:List (d4×Shs))->(i:Nat)->HL D (ov (outs.map λx=>lvS x.2) i)->Option (d4×XS D)
 | [],_,_=>none
 | o :: _,0,h=>some (o.1,rK o.2 h)
 | _ :: r,i+1,h=>la r i h
end
section
variable {D:CT->Type} {M:Type->Type} (A:Alg D M)
def w8:Value->Value->Bool
 | .pointer none,.pointer none=>true
 | .nilFunc,.nilFunc=>true
 | .nilIface,.nilIface=>true
 | _,_=>false
def asT(t u:CT) (x:D t):Option (D u):=
 if h:jb t u=true then some (j3 h ▸ x) else if uB t u then some (A.coe t u x) else none
def zL(p:XP λ_=>Unit) (q:XP D):Bool:=p.root==q.root && p.off==q.off && p.bare && q.bare
mutual
def conv:(s:Sh)->XV D->(r:List CT)->HL D r->Option (HL D (lv s r))
 | .d u _,.d t x,_,h=>(asT A t u x).map λy=>(y,h)
 | .ip l,.ip l',r,h=>lw l l' r h
 | .agg l,.agg l',r,h=>lw l l' r h
 | .tup l,.tup l',r,h=>lw l l' r h
 | .fn f l,.fn f' l',r,h=>if f=f' then lw l l' r h else none
 | .k x,.k y,_,h=>if w8 x y then some h else none
 | .dead,.dead,_,h=>some h
 | .ptr p vs,.ptr q ws,r,h=>if p.root==q.root && p.off==q.off && vs==ws then rR p.hops q.hops r h else none
 | .pk p vs,.pk q ws,r,h=>if p.root==q.root && p.off==q.off && vs==ws then rR p.hops q.hops r h else none
 | .gap t _ _ o,.gap t' x i o',_,h=>if o=o' then (asT A (.row true t') (.row true t) x).map λy=>(y,i,h) else none
 | _,_,_,_=>none
def lw:(s:List Sh)->List (XV D)->(r:List CT)->HL D r->Option (HL D (lvL s r))
 | [],[],_,h=>some h
 | s :: ss,x :: xs,r,h=>(lw ss xs r h).bind λh1=>conv s x (lvL ss r) h1
 | _,_,_,_=>none
end
end
abbrev XM(D:CT->Type) (M:Type->Type) (X α:Type):=XS D->(α->XS D->M X)->M X
def yG{α:Type}:List α->Nat->Option α
 | [],_=>none
 | x :: _,0=>some x
 | _ :: r,i+1=>yG r i
namespace X
section
variable {D:CT->Type} {M:Type->Type} {X:Type} (A:Alg D M) {α β:Type}
def ret(a:α):XM D M X α:=fun σ k=>k a σ
def bind(m:XM D M X α) (f:α->XM D M X β):XM D M X β:=fun σ k=>m σ λa σ'=>f a σ' k
def fail:XM D M X α:=λ_ _=>A.fail
def brM(c:D .bool) (m:XM D M X α):XM D M X α:=fun σ k=>A.br c (m σ k) A.fail
def forkM(c:D .bool) (m m':XM D M X α):XM D M X α:=fun σ k=>A.br c (m σ k) (m' σ k)
def caseM(k:D .nat):Nat->(Nat->XM D M X α)->Nat->XM D M X α
 | 0,_,_=>fail A
 | n+1,f,i=>forkM A (A.eqN k (A.litN i)) (f i) (caseM k n f (i+1))
def optM(o:Option α):XM D M X α:=fun σ k=>match o with | some a=>k a σ | none=>A.fail
def tOf(σ:XS D) (i:Nat):XV D:=(bl σ.tm i).getD .dead
def cOf(σ:XS D) (r o:Nat):XV D:=match bl σ.ce r with | some l=>l.getD o .dead | none=>.dead
def lgR(x:Loc) (σ:XS D):XS D:=⟨σ.tm,σ.ce,σ.vr,(x :: σ.lg.1,σ.lg.2)⟩
def letL:List (XV D)->(List (XV D)->M X)->M X
 | [],k=>k []
 | .d t x :: r,k=>A.lt t x λy=>letL r λr'=>k (.d t y :: r')
 | t :: r,k=>letL r λr'=>k (t :: r')
def letX(t:XV D) (k:XV D->M X):M X:=
 match t with
 | .d t x=>A.lt t x λy=>k (.d t y)
 | .agg l=>letL A l λl'=>k (.agg l')
 | t=>k t
def rdT(i:Nat):XM D M X (XV D):=fun σ k=>k (tOf σ i) (lgR (.t i) σ)
def rdC(r o:Nat):XM D M X (XV D):=fun σ k=>k (cOf σ r o) (lgR (.c r o) σ)
def rdK(r o:Nat):XM D M X (XV D):=fun σ k=>k (cOf σ r o) (lgR (.h r o) σ)
def rdV(q:Key):XM D M X Nat:=fun σ k=>k (jl σ.vr q) (lgR (.v q) σ)
def wrT(i:Nat) (t:XV D):XM D M X Unit:=fun σ k=>letX A t λt'=>k () ⟨cj σ.tm i t',σ.ce,σ.vr,(σ.lg.1,.t i :: σ.lg.2)⟩
def wrC(r o:Nat) (t:XV D):XM D M X Unit:=fun σ k=>match bl σ.ce r with
 | some l=>if o < l.length then letX A t λt'=>k () ⟨σ.tm,cj σ.ce r (l.set o t'),σ.vr,(.n r :: .h r o :: σ.lg.1,.c r o :: .h r o :: σ.lg.2)⟩ else A.fail
 | none=>A.fail
def wrI(r o:Nat) (t:XV D):XM D M X Unit:=fun σ k=>match bl σ.ce r with
 | some l=>if o < l.length then letX A t λt'=>k () ⟨σ.tm,cj σ.ce r (l.set o t'),σ.vr,(.n r :: .h r o :: σ.lg.1,.c r o :: σ.lg.2)⟩ else A.fail
 | none=>A.fail
def new(r:Nat) (l:List (XV D)):XM D M X Unit:=fun σ k=>letL A l λl'=>k () ⟨σ.tm,cj σ.ce r l',hZ σ.vr (r,0,0),(.v (r,0,0) :: σ.lg.1,.n r :: .v (r,0,0) :: σ.lg.2)⟩
def bump(q:Key):XM D M X Unit:=fun σ k=>k () ⟨σ.tm,σ.ce,hZ σ.vr q,(.v q :: σ.lg.1,.v q :: σ.lg.2)⟩
def cellX:Value->XV D
 | .slice none 0 0=>.d (.nilr true) (A.nilv true)
 | .int k n=>.d (.int k) (A.lit k n)
 | .bool b=>.d .bool (A.litB b)
 | .string s=>.d .str (A.litS s)
 | x=>if cO x then .k x else .dead
def constX:Value->XV D
 | .agg cs=>.agg (cs.toList.map (cellX A))
 | x=>cellX A x
def opd:Opd->XM D M X (XV D)
 | .t i=>rdT i
 | .c x=>ret (constX A x)
 | .f f=>ret (.fn f [])
def rdVs:List Key->XM D M X (List Nat)
 | []=>ret []
 | q :: qs=>bind (rdV q) λn=>bind (rdVs qs) λl=>ret (n :: l)
def chk(p:XP D) (n:Nat) (vs:List Nat):XM D M X Unit:=bind (rdVs (iw p.root p.off n)) λl=>if l=vs then ret () else fail A
def addP(p:XP D) (n:Nat):XP D:=
 match p.hops.reverse with
 | []=>⟨p.root,p.off+n,[]⟩
 | (i,sz,o) :: r=>⟨p.root,p.off,((i,sz,o+n) :: r).reverse⟩
def atP(p:XP D) (i:D .nat) (sz:Nat):XP D:=⟨p.root,p.off,p.hops++[(i,sz,0)]⟩
def fitsP(p:XP D) (n:Nat):Bool:=
 match p.hops.reverse with
 | []=>true
 | (_,sz,o) :: _=>decide (o+n < sz)
def splitX:(t:CT)->D t->List (XV D)
 | .pair a b,x=>splitX a (A.fst a b x)++splitX b (A.snd a b x)
 | .nat,_=>[]
 | .int k,x=>[.d (.int k) x]
 | .bool,x=>[.d .bool x]
 | .str,x=>[.d .str x]
 | .row o t,x=>[.d (.row o t) x]
 | .nilr o,x=>[.d (.nilr o) x]
def getX:XV D->List (D .nat×Nat×Nat)->(XV D->M X)->M X
 | t,[],k=>k t
 | .d (.row true t) xs,(i,sz,o) :: hs,k=>if dZ t=sz then A.get true t xs i λe=>match yG (splitX A t e) o with | some v=>getX v hs k | none=>A.fail else A.fail
 | _,_ :: _,_=>A.fail
def elemX:XV D->List (D .nat×Nat×Nat)->((t:CT)->D t->M X)->M X
 | .d (.row true t) xs,[(i,sz,_)],k=>if dZ t=sz then A.get true t xs i (k t) else A.fail
 | .d (.row true t) xs,(i,sz,o) :: h :: hs,k=>if dZ t=sz then A.get true t xs i λe=>match yG (splitX A t e) o with | some v=>elemX v (h :: hs) k | none=>A.fail else A.fail
 | _,_,_=>A.fail
def getM(tv:XV D) (hs:List (D .nat×Nat×Nat)) (g:XV D->XM D M X α):XM D M X α:=fun σ k=>getX A tv hs λv=>g v σ k
def elemM(tv:XV D) (hs:List (D .nat×Nat×Nat)) (g:(t:CT)->D t->XM D M X α):XM D M X α:=fun σ k=>elemX A tv hs λt e=>g t e σ k
def atM(o:Bool) (t:CT) (xs:D (.row o t)) (i:D .nat) (g:D t->XM D M X α):XM D M X α:=fun σ k=>A.get o t xs i λe=>g e σ k
def natM(kd:IntKind) (n:D (.int kd)) (g:D .nat->XM D M X α):XM D M X α:=fun σ k=>A.nat kd n λm=>g m σ k
def BA(s:D .str) (i:D .nat) (g:D (.int .u8)->XM D M X α):XM D M X α:=fun σ k=>A.strAt s i λb=>g b σ k
def CH(c:D (.row false (.int .u8))) (g:D .str->XM D M X α):XM D M X α:=fun σ k=>A.bstr c λs=>g s σ k
def lastO:List (D .nat×Nat×Nat)->Nat
 | []=>0
 | [(_,_,o)]=>o
 | _ :: h :: hs=>lastO (h :: hs)
def setD:(t:CT)->Nat->((u:CT)->Option (D u->D u))->Option (D t->D t)
 | .pair a b,o,g=>if o < dZ a then (setD a o g).map λh e=>A.mkp a b (h (A.fst a b e)) (A.snd a b e) else (setD b (o - dZ a) g).map λh e=>A.mkp a b (A.fst a b e) (h (A.snd a b e))
 | .nat,_,_=>none
 | .int k,0,g=>g (.int k)
 | .bool,0,g=>g .bool
 | .str,0,g=>g .str
 | .row o t,0,g=>g (.row o t)
 | .nilr o,0,g=>g (.nilr o)
 | _,_+1,_=>none
def asF(v:XV D) (u:CT):Option (D u->D u):=
 match v with
 | .d t x=>(asT A t u x).map λy _=>y
 | _=>none
def setDs(t:CT):Nat->List (XV D)->Option (D t->D t)
 | _,[]=>none
 | o,[v]=>setD A t o (asF A v)
 | o,v :: w :: vs=>match setD A t o (asF A v),setDs t (o+1) (w :: vs) with | some f,some g=>some λe=>g (f e) | _,_=>none
def setH:List (D .nat×Nat×Nat)->XV D->(u:CT)->Option (D u->D u)
 | [],v,u=>asF A v u
 | (i,sz,o) :: hs,v,.row true t=>if dZ t=sz then (setD A t o (setH hs v)).map λf xs=>A.upd t xs i f else none
 | _ :: _,_,_=>none
def setX:XV D->List (D .nat×Nat×Nat)->XV D->Option (XV D)
 | _,[],v=>some v
 | .d u x,h :: hs,v=>(setH A (h :: hs) v u).map λf=>.d u (f x)
 | _,_ :: _,_=>none
def setHs:List (D .nat×Nat×Nat)->List (XV D)->(u:CT)->Option (D u->D u)
 | [(i,sz,o)],vs,.row true t=>if dZ t=sz then (setDs A t o vs).map λf xs=>A.upd t xs i f else none
 | (i,sz,o) :: h :: hs,vs,.row true t=>if dZ t=sz then (setD A t o (setHs (h :: hs) vs)).map λf xs=>A.upd t xs i f else none
 | _,_,_=>none
def setXs:XV D->List (D .nat×Nat×Nat)->List (XV D)->Option (XV D)
 | .d u x,hs,vs=>(setHs A hs vs u).map λf=>.d u (f x)
 | _,_,_=>none
def immX:XV D->Option (XV D)
 | .d (.int k) x=>some (.d (.int k) x)
 | .d .bool x=>some (.d .bool x)
 | .d .str x=>some (.d .str x)
 | .d (.row false t) x=>some (.d (.row false t) x)
 | .d (.nilr _) _=>some (.d (.nilr false) (A.nilv false))
 | .d (.row true t) x=>if h:dX (.row true t) (.row false (jf t))=true then some (.d (.row false (jf t)) (A.recast _ _ h x)) else none
 | .k x=>some (.k x)
 | _=>none
def immXL:List (XV D)->Option (List (XV D))
 | []=>some []
 | x :: r=>match immX A x,immXL r with | some y,some l=>some (y :: l) | _,_=>none
def shareX:XV D->List Nat->Option (XV D)
 | .d t x,os=>match shT t 0 os with | some t'=>if h:dX t t'=true then some (.d t' (A.recast t t' h x)) else none | none=>none
 | _,_=>none
def getPl(p:XP D):XM D M X (XV D):=bind (rdC p.root p.off) λtv=>getM A tv p.hops ret
def hdPl(p:XP D):XM D M X (XV D):=match p.hops with
 | []=>rdK p.root p.off
 | _ :: _=>getPl A p
def hopOs(hs:List (D .nat×Nat×Nat)):List Nat:=hs.map λh=>h.2.2
def CA:CT->Bool
 | .int _=>false
 | .bool=>false
 | .str=>false
 | _=>true
def oneT:CT->Bool
 | .nat=>false
 | .pair _ _=>false
 | _=>true
def isOwT:CT->Bool
 | .row o _=>o
 | .nilr o=>o
 | _=>false
def isOwX:XV D->Bool
 | .d t _=>isOwT t
 | .gap _ _ _ _=>true
 | _=>false
def isHdrX:XV D->Bool
 | .d t _=>CA t
 | .k _=>false
 | _=>true
def winX(lo n:D .nat):XV D->Option (XV D)
 | .d (.row true t) xs=>match immX A (.d (.row true t) xs) with | some (.d (.row false t') ys)=>some (.d (.row false t') (A.win false t' ys lo n)) | _=>none
 | .d (.nilr true) _=>some (.d (.nilr false) (A.nilv false))
 | _=>none
def gapX:XV D->List (D .nat×Nat×Nat)->Option (XV D)
 | .d (.row true t) xs,[(i,_,o)]=>some (.gap t xs i o)
 | _,_=>none
def take1(mv:Bool):XV D->XM D M X (XV D)
 | .d (.row true _) _=>fail A
 | .d .nat _=>fail A
 | .d (.pair _ _) _=>fail A
 | .d (.nilr o) x=>if mv then ret (.d (.nilr o) x) else ret (.d (.nilr false) (A.nilv false))
 | .d t x=>ret (.d t x)
 | .k x=>ret (.k x)
 | .pk p vs=>bind (chk A p (p.hops.length+1) vs) λ_=>bind (rdC p.root p.off) λtv=>getM A tv p.hops λv=>
  if isOwX v then
   if mv then (if XP.bare p then (bind (wrC A p.root p.off .dead) λ_=>bind (bump (p.root,p.off,p.hops.length+1)) λ_=>ret v) else bind (optM A (gapX tv p.hops)) λYH=>bind (wrI A p.root p.off YH) λ_=>bind (bump (p.root,p.off,p.hops.length+1)) λ_=>ret v)
   else bind (optM A (shareX A tv (hopOs p.hops))) λYH=>bind (optM A (immX A v)) λv'=>bind (if XP.bare p then wrC A p.root p.off YH else wrI A p.root p.off YH) λ_=>bind (bump (p.root,p.off,p.hops.length+1)) λ_=>ret v'
  else fail A
 | .pw p vs _ lo n=>bind (chk A p (p.hops.length+1) vs) λ_=>bind (rdC p.root p.off) λtv=>getM A tv p.hops λv=>
  bind (optM A (shareX A tv (hopOs p.hops))) λYH=>bind (optM A (winX A lo n v)) λv'=>bind (wrC A p.root p.off YH) λ_=>bind (bump (p.root,p.off,p.hops.length+1)) λ_=>ret v'
 | _=>fail A
def takeL(mv:Bool):List (XV D)->XM D M X (List (XV D))
 | []=>ret []
 | t :: r=>bind (take1 A mv t) λt'=>bind (takeL mv r) λr'=>ret (t' :: r')
def cellsX:XV D->List (XV D)
 | .agg l=>l
 | t=>[t]
def takeV(mv:Bool) (t:XV D):XM D M X (List (XV D)×Bool):=
 match t with
 | .agg l=>bind (takeL A mv l) λl'=>ret (l',true)
 | t=>bind (take1 A mv t) λt'=>ret ([t'],false)
def putB(r:Nat):Nat->List (XV D)->XM D M X Unit
 | _,[]=>ret ()
 | o,t :: l=>bind (rdC r o) λold=>bind (wrC A r o t) λ_=>bind (if isHdrX old || isHdrX t then bump (r,o,1) else ret ()) λ_=>putB r (o+1) l
def bumps(q:Key):Nat->XM D M X Unit
 | 0=>ret ()
 | n+1=>bind (bump q) λ_=>bumps q n
def hdrs:List (XV D)->List (XV D)->Nat
 | a :: r,b :: s=>(if isHdrX a || isHdrX b then 1 else 0)+hdrs r s
 | _,_=>0
def putEl(r off:Nat) (i:D .nat) (sz o:Nat) (l:List (XV D)):XV D->XM D M X Unit
 | .d (.row true t) xs=>if dZ t=sz/\o+l.length<=sz/\0 < l.length then atM A true t xs i λe=>bind (optM A (setDs A t o l)) λf=>bind (wrI A r off (.d (.row true t) (A.upd t xs i f))) λ_=>bumps (r,off,2) (hdrs ((splitX A t e).drop o) l) else fail A
 | .gap t xs i' o'=>if dZ t=sz/\o=o'/\o < sz/\l.length=1 then atM A true t xs i λ_=>brM A (A.eqN i i') (bind (optM A (setDs A t o l)) λf=>bind (wrI A r off (.d (.row true t) (A.upd t xs i f))) λ_=>bump (r,off,2)) else fail A
 | _=>fail A
def putL(p:XP D) (l:List (XV D)):XM D M X Unit:=
 match p.hops with
 | []=>putB A p.root p.off l
 | [(i,sz,o)]=>bind (rdC p.root p.off) (putEl A p.root p.off i sz o l)
 | hs=>bind (rdC p.root p.off) λtv=>elemM A tv hs λt e=>
  if lastO hs+l.length<=dZ t/\0 < l.length/\(((splitX A t e).drop (lastO hs)).take l.length).all (λv=>!isHdrX v)=true/\l.all (λv=>!isHdrX v)=true then bind (optM A (setXs A tv hs l)) λYH=>wrI A p.root p.off YH else fail A
def peek1(p:XP D):XV D->XM D M X (XV D)
 | .k x=>ret (.k x)
 | .d t x=>if isOwT t then bind (rdVs (iw p.root p.off (p.hops.length+1))) λvs=>ret (.pk p vs) else if oneT t then ret (.d t x) else fail A
 | _=>fail A
def peekP(p:XP D):XM D M X (XV D):=match p.hops with
 | []=>bind (rdK p.root p.off) λt=>if isOwX t then bind (rdVs (iw p.root p.off 1)) λvs=>ret (.pk p vs) else bind (getPl A p) (peek1 A p)
 | _ :: _=>bind (getPl A p) (peek1 A p)
def peekB(r:Nat):Nat->Nat->XM D M X (List (XV D))
 | _,0=>ret []
 | o,n+1=>bind (rdC r o) λt=>bind (peek1 A ⟨r,o,[]⟩ t) λt'=>bind (peekB r (o+1) n) λl=>ret (t' :: l)
def peekCs(p:XP D):List (XV D)->XM D M X (List (XV D))
 | []=>ret []
 | t :: r=>bind (peek1 A p t) λt'=>bind (peekCs (addP p 1) r) λl=>ret (t' :: l)
def peekL(p:XP D) (n:Nat):XM D M X (List (XV D)):=
 match p.hops with
 | []=>peekB A p.root p.off n
 | _ :: _=>bind (rdC p.root p.off) λtv=>elemM A tv p.hops λt e=>if lastO p.hops+n<=dZ t/\0 < n then peekCs A p (((splitX A t e).drop (lastO p.hops)).take n) else fail A
def nameL(r:Nat):Nat->List (XV D)->XM D M X (List (XV D))
 | _,[]=>ret []
 | i,t :: l=>if isOwX t then bind (rdV (r,0,0)) λg=>bind (rdV (r,i,1)) λh=>bind (nameL r (i+1) l) λl'=>ret (.pk ⟨r,i,[]⟩ [g,h] :: l') else bind (nameL r (i+1) l) λl'=>ret (t :: l')
def names(d:Nat) (l:List (XV D)):XM D M X (List (XV D)):=if l.any isOwX then bind (new A (2*d+3) l) λ_=>nameL (2*d+3) 0 l else ret l
def shapedX(agg:Bool) (l:List (XV D)):XV D:=if agg then .agg l else l.headD .dead
def inst(d:Nat) (agg:Bool) (l:List (XV D)):XM D M X Unit:=bind (names A d l) λl'=>wrT A d (shapedX agg l')
def natOf:XV D->XM D M X (D .nat)
 | .d (.int k) n=>natM A k n ret
 | _=>fail A
def lenOf:XV D->XM D M X (D .nat)
 | .d (.row false t) xs=>ret (A.len false t xs)
 | .d (.nilr _) _=>ret (A.litN 0)
 | .pk p vs=>bind (chk A p (p.hops.length+1) vs) λ_=>bind (hdPl A p) λt=>match t with
  | .d (.row true t) xs=>ret (A.len true t xs)
  | .d (.nilr true) _=>ret (A.litN 0)
  | _=>fail A
 | .pw p vs _ _ n=>bind (chk A p (p.hops.length+1) vs) λ_=>ret n
 | _=>fail A
def optNat:Option Opd->D .nat->XM D M X (D .nat)
 | some o,_=>bind (opd A o) (natOf A)
 | none,d=>ret d
def takeParts(mv:Bool):List (Nat×Nat×Opd)->XM D M X (List (XV D))
 | []=>ret []
 | (_,n,x) :: r=>bind (opd A x) λt=>bind (takeL A mv (cellsX t)) λl=>if l.length=n then bind (takeParts mv r) λl'=>ret (l++l') else fail A
def placeX(cells:List (XV D)) (off:Nat):List (XV D)->List (XV D)
 | []=>cells
 | t :: r=>placeX (cells.set off t) (off+1) r
def assembleX(cells:List (XV D)):List (Nat×Nat×Opd)->List (XV D)->List (XV D)
 | [],_=>cells
 | (off,n,_) :: r,l=>assembleX (placeX cells off (l.take n)) r (l.drop n)
def chunksX(sz:Nat):Nat->List (XV D)->List (List (XV D))
 | 0,_=>[]
 | n+1,l=>l.take sz :: chunksX sz n (l.drop sz)
def okCellX:XV D->Bool
 | .d (.row true _) _=>false
 | .d .nat _=>false
 | .d (.pair _ _) _=>false
 | .d _ _=>true
 | .k _=>true
 | _=>false
def Ch:List (XV D)->Option CT
 | []=>none
 | [.d t _]=>some t
 | .d t _ :: r=>(Ch r).map (.pair t)
 | _ :: _=>none
def si:CT->CT->CT
 | .nilr _,.row o t=>.row o t
 | .row o t,.row _ t'=>.row o (si t t')
 | .pair a b,.pair a' b'=>.pair (si a a') (si b b')
 | t,_=>t
def joinC(t:CT):List (XV D)->Option (D t×List (XV D))
 | .d u x :: r=>(asT A u t x).map λy=>(y,r)
 | _=>none
def joinX:(t:CT)->List (XV D)->Option (D t×List (XV D))
 | .pair a b,l=>match joinX a l with
  | some (x,r)=>match joinX b r with
   | some (y,r')=>some (A.mkp a b x y,r')
   | none=>none
  | none=>none
 | .nat,_=>none
 | .int k,l=>joinC A (.int k) l
 | .bool,l=>joinC A .bool l
 | .str,l=>joinC A .str l
 | .row o t,l=>joinC A (.row o t) l
 | .nilr o,l=>joinC A (.nilr o) l
def joinOne(t:CT) (l:List (XV D)):Option (D t):=match joinX A t l with | some (x,[])=>some x | _=>none
def joinAll(t:CT):List (List (XV D))->Option (List (D t))
 | []=>some []
 | l :: r=>match joinOne A t l,joinAll t r with | some x,some xs=>some (x :: xs) | _,_=>none
def Bz:List (List (XV D))->Option CT
 | []=>none
 | [l]=>Ch l
 | l :: r=>match Ch l,Bz r with | some t,some t'=>some (si t t') | _,_=>none
def s8:CT->Bool
 | .nilr _=>true
 | .row _ t=>s8 t
 | .pair a b=>s8 a || s8 b
 | _=>false
def sk:CT->CT->CT
 | .nilr o,.row _ t=>.row o t
 | .row o t,.row _ t'=>.row o (sk t t')
 | .pair a b,.pair a' b'=>.pair (sk a a') (sk b b')
 | t,_=>t
def resT(ZI:Option CT) (t:CT):CT:=if s8 t then sk t (ZI.getD t) else t
def rowOf(ZI:Option CT) (ls:List (List (XV D))):Option (XV D):=
 match ls with
 | []=>some (.d (.nilr true) (A.nilv true))
 | _=>match Bz ls with
  | some t=>(joinAll A (resT ZI t) ls).map λes=>.d (.row true (resT ZI t)) (A.rowl true (resT ZI t) es)
  | none=>none
def repOf(ZI:Option CT) (n:D .nat) (l:List (XV D)):Option (XV D):=
 match Ch l with
 | some t=>(joinOne A (resT ZI t) l).map λe=>.d (.row true (resT ZI t)) (A.rep (resT ZI t) n e)
 | none=>none
def contentOf:XV D->XM D M X (XV D)
 | .d (.row false t) xs=>ret (.d (.row false t) xs)
 | .d (.nilr _) _=>ret (.d (.nilr false) (A.nilv false))
 | .pk p vs=>bind (chk A p (p.hops.length+1) vs) λ_=>bind (getPl A p) λt=>match t with | .d (.row true t) xs=>ret (.d (.row true t) xs) | .d (.nilr true) _=>ret (.d (.nilr false) (A.nilv false)) | _=>fail A
 | .pw p vs _ lo n=>bind (chk A p (p.hops.length+1) vs) λ_=>bind (getPl A p) λt=>match t with | .d (.row true t) xs=>ret (.d (.row true t) (A.win true t xs lo n)) | _=>fail A
 | _=>fail A
def flat1:CT->Bool
 | .int _=>true
 | .bool=>true
 | .str=>true
 | _=>false
def flatT:CT->Bool
 | .int _=>true
 | .bool=>true
 | .str=>true
 | .pair a b=>flatT a && flatT b
 | _=>false
def isNameX:XV D->Bool
 | .pk _ _=>true
 | .pw _ _ _ _ _=>true
 | _=>false
def flatRow:XV D->Bool
 | .d (.row _ t) _=>flatT t
 | .d (.nilr _) _=>true
 | _=>false
def cpyX(d sz:Nat) (p:XP D) (lo:D .nat) (n:Option (D .nat)) (tv c2:XV D):XM D M X Unit:=getM A tv p.hops λv=>
 match v,c2 with
  | .d (.row true t) xs,.d (.row o t2) ys=>if h:jb t2 t=true/\dZ t=sz/\flatT t=true then
   bind (optM A (setX A tv p.hops (.d (.row true t) (A.splice t o xs lo (A.minN (A.len o t2 ys) (n.getD (A.len true t xs))) (j3 h.1 ▸ ys))))) λYH=>
    brM A (A.slOk lo (A.addN lo (A.minN (A.len o t2 ys) (n.getD (A.len true t xs)))) (A.len true t xs)) (forkM A (A.ltN (A.litN 0) (A.minN (A.len o t2 ys) (n.getD (A.len true t xs)))) (bind (wrC A p.root p.off YH) λ_=>wrT A d (.d (.int .i64) (A.natI (A.minN (A.len o t2 ys) (n.getD (A.len true t xs)))))) (wrT A d (.d (.int .i64) (A.natI (A.minN (A.len o t2 ys) (n.getD (A.len true t xs)))))))
   else fail A
  | .d (.row true _) _,.d (.nilr _) _=>if 0 < sz then wrT A d (.d (.int .i64) (A.lit .i64 0)) else fail A
  | _,_=>fail A
def eqAll:List FK->List (XV D)->List (XV D)->Option (D .bool)
 | [],[],[]=>some (A.litB true)
 | .i :: ks,.d (.int k) a :: xs,.d (.int k') b :: ys=>if h:k'=k then (eqAll ks xs ys).map (A.andB (A.cm .eql k a (h ▸ b))) else none
 | .b :: ks,.d .bool a :: xs,.d .bool b :: ys=>(eqAll ks xs ys).map (A.andB (A.eqB a b))
 | .s :: ks,.d .str a :: xs,.d .str b :: ys=>(eqAll ks xs ys).map (A.andB (A.eqS a b))
 | _,_,_=>none
def mapM'(f:α->XM D M X β):List α->XM D M X (List β)
 | []=>ret []
 | x :: r=>bind (f x) λy=>bind (mapM' f r) λl=>ret (y :: l)
def intOf:XV D->XM D M X (XV D)
 | .d (.int k) n=>ret (.d (.int k) n)
 | _=>fail A
def capOf:XV D->XM D M X (XV D)
 | .ptr p vs=>ret (.ptr p vs)
 | .ip cs=>ret (.ip cs)
 | t=>if okCellX t && !isOwX t then ret t else fail A
def mmAll(mx:Bool) (k:IntKind):D (.int k)->List (XV D)->Option (D (.int k))
 | a,[]=>some a
 | a,.d (.int k') b :: r=>if h:k'=k then mmAll mx k (A.mm mx k a (h ▸ b)) r else none
 | _,_=>none
def wr(d:Nat) (t:XV D):XM D M X Unit:=wrT A d t
def binX(d:Nat) (op:BinOp):XV D->XV D->XM D M X Unit
 | .d (.int k) a,.d (.int k') b=>
  match op with
  | .shl=>natM A k' b λn=>wr A d (.d (.int k) (A.sh .shl k a n))
  | .shr=>natM A k' b λn=>wr A d (.d (.int k) (A.sh .shr k a n))
  | .quo=>if h:k'=k then brM A (A.cm .neq k' b (A.lit k' 0)) (wr A d (.d (.int k) (A.ar .quo k a (h ▸ b)))) else fail A
  | .rem=>if h:k'=k then brM A (A.cm .neq k' b (A.lit k' 0)) (wr A d (.d (.int k) (A.ar .rem k a (h ▸ b)))) else fail A
  | .add=>if h:k'=k then wr A d (.d (.int k) (A.ar .add k a (h ▸ b))) else fail A
  | .sub=>if h:k'=k then wr A d (.d (.int k) (A.ar .sub k a (h ▸ b))) else fail A
  | .mul=>if h:k'=k then wr A d (.d (.int k) (A.ar .mul k a (h ▸ b))) else fail A
  | .and=>if h:k'=k then wr A d (.d (.int k) (A.ar .and k a (h ▸ b))) else fail A
  | .or=>if h:k'=k then wr A d (.d (.int k) (A.ar .or k a (h ▸ b))) else fail A
  | .xor=>if h:k'=k then wr A d (.d (.int k) (A.ar .xor k a (h ▸ b))) else fail A
  | .andNot=>if h:k'=k then wr A d (.d (.int k) (A.ar .andNot k a (h ▸ b))) else fail A
  | op=>if h:k'=k then wr A d (.d .bool (A.cm op k a (h ▸ b))) else fail A
 | .d .str a,.d .str b=>
  match op with
  | .eql=>wr A d (.d .bool (A.eqT a b))
  | .neq=>wr A d (.d .bool (A.not (A.eqT a b)))
  | _=>fail A
 | _,_=>fail A
def pickX(d:Nat) (tc ta tb:XV D):XM D M X Unit:=match tc,ta,tb with
 | .d .bool c,.d (.int k) x,.d (.int k') y=>if h:k'=k then wr A d (.d (.int k) (A.ite (.int k) c x (h ▸ y))) else fail A
 | .d .bool c,.d .bool x,.d .bool y=>wr A d (.d .bool (A.ite .bool c x y))
 | .d .bool c,.d .str x,.d .str y=>wr A d (.d .str (A.ite .str c x y))
 | .d .bool c,.d t x,_=>if flat1 t then brM A c (wr A d (.d t x)) else fail A
 | .d .bool c,_,.d t x=>if flat1 t then brM A (A.not c) (wr A d (.d t x)) else fail A
 | _,_,_=>fail A
def appX(d sz bytes:Nat) (ZI:Option CT) (s x:XV D):XM D M X Unit:=
 match s,x with
 | .d (.row true t) c,.d (.row o t2) c2=>if dZ t=sz then bind (optM A (asT A (.row o t2) (.row o t) c2)) λc3=>brM A (A.appOk bytes (A.len true t c) (A.len o t2 c2)) (inst A d false [.d (.row true t) (A.cat t o c c3)]) else fail A
 | .d (.row true t) c,.d (.nilr _) _=>if dZ t=sz then brM A (A.appOk bytes (A.len true t c) (A.litN 0)) (inst A d false [.d (.row true t) c]) else fail A
 | .d (.nilr true) _,.d (.row o t2) c2=>if dZ t2=sz then bind (optM A (asT A (.row o t2) (.row o (resT ZI t2)) c2)) λc3=>brM A (A.appOk bytes (A.litN 0) (A.len o t2 c2)) (inst A d false [.d (.row true (resT ZI t2)) (A.cat _ o (A.nil true (resT ZI t2)) c3)]) else fail A
 | .d (.nilr true) _,.d (.nilr _) _=>brM A (A.appOk bytes (A.litN 0) (A.litN 0)) (inst A d false [.d (.nilr true) (A.nilv true)])
 | _,_=>fail A
def immCX:XV D->Bool
 | .ip _=>true
 | t=>okCellX t && !isOwX t
def immFX:XV D->Bool
 | .fn _ l=>l.all immCX
 | t=>immCX t
def isNA:XV D->Bool
 | .agg _=>true
 | .pk _ _=>true
 | _=>false
def loadIp(n:Option Nat) (cs:List (XV D)):Option (XV D):=
 match n with
 | none=>match cs with
  | .ip l :: _=>some (.ip l)
  | .fn f l :: _=>some (.fn f l)
  | t :: _=>if okCellX t && !isOwX t then some t else none
  | []=>none
 | some n=>if n<=cs.length && (cs.take n).all (λt=>okCellX t && !isOwX t) then some (.agg (cs.take n)) else none
def ev1(HT:List (Nat×CT)) (d:Nat):TOp->XM D M X Unit
 | .mov x=>bind (opd A x) λt=>match t with
  | .d t y=>if isOwT t then (match x with | .c _=>inst A d false [.d t y] | _=>fail A) else wr A d (.d t y)
  | .agg l=>if l.any isOwX then fail A else wr A d (.agg l)
  | .gap _ _ _ _=>fail A
  | t=>wr A d t
 | .asn mv x=>bind (opd A x) λt=>match t with
  | .ptr p vs=>wr A d (.ptr p vs)
  | .ip cs=>wr A d (.ip cs)
  | .fn f cap=>wr A d (.fn f cap)
  | t=>bind (takeV A mv t) λl=>inst A d l.2 l.1
 | .pick c a b=>bind (opd A c) λtc=>bind (opd A a) λta=>bind (opd A b) λtb=>pickX A d tc ta tb
 | .alloc z=>if (z.map (cellX A)).all okCellX then bind (new A (2*d+2) (z.map (cellX A))) λ_=>bind (rdV (2*d+2,0,0)) λg=>wr A d (.ptr ⟨2*d+2,0,[]⟩ [g]) else fail A
 | .box n mv x=>bind (opd A x) λt=>bind (takeL A mv (cellsX t)) λl=>if l.length=n then bind (new A (2*d+2) l) λ_=>bind (rdV (2*d+2,0,0)) λg=>wr A d (.ptr ⟨2*d+2,0,[]⟩ [g]) else fail A
 | .boxi n x=>bind (opd A x) λt=>if immFX t then (if n=1 then wr A d (.ip [t]) else fail A) else if isNA t then bind (takeL A false (cellsX t)) λl=>bind (optM A (immXL A l)) λl'=>if l.length=n then wr A d (.ip l') else fail A else fail A
 | .load n a=>bind (opd A a) λt=>match t with
  | .ptr p vs=>bind (chk A p p.hops.length vs) λ_=>match n with
   | none=>bind (peekP A p) λt'=>wr A d t'
   | some n=>bind (peekL A p n) λl=>wr A d (.agg l)
  | .ip cs=>match loadIp n cs with | some t=>wr A d t | none=>fail A
  | _=>fail A
 | .store n mv a x=>bind (opd A a) λta=>match ta with
  | .ptr p vs=>bind (opd A x) λtx=>bind (takeL A mv (cellsX tx)) λl=>if l.length=n then bind (chk A p p.hops.length vs) λ_=>putL A p l else fail A
  | _=>fail A
 | .nilc x=>bind (opd A x) λt=>match t with
  | .ptr p vs=>bind (chk A p p.hops.length vs) λ_=>wr A d (.ptr p vs)
  | .ip cs=>wr A d (.ip cs)
  | .fn f cap=>wr A d (.fn f cap)
  | _=>fail A
 | .fld off a=>bind (opd A a) λt=>match t with
  | .ptr p vs=>bind (chk A p p.hops.length vs) λ_=>if fitsP p off then wr A d (.ptr (addP p off) vs) else fail A
  | .ip cs=>if off < cs.length then wr A d (.ip (cs.drop off)) else fail A
  | _=>fail A
 | .fldv off n x=>bind (opd A x) λt=>match t with
  | .agg l=>match n with
   | none=>if off < l.length then wr A d (l.getD off .dead) else fail A
   | some n=>if off+n<=l.length then wr A d (.agg ((l.drop off).take n)) else fail A
  | _=>fail A
 | .idx sz x i=>bind (opd A x) λt=>bind (opd A i) λti=>bind (natOf A ti) λk=>match t with
  | .pk p vs=>bind (chk A p (p.hops.length+1) vs) λ_=>bind (hdPl A p) λt=>match t with
   | .d (.row true t) xs=>if dZ t=sz/\0 < sz then atM A true t xs k λ_=>wr A d (.ptr (atP p k sz) vs) else fail A
   | .gap t xs _ _=>if dZ t=sz/\0 < sz then atM A true t xs k λ_=>wr A d (.ptr (atP p k sz) vs) else fail A
   | _=>fail A
  | .pw p vs sz' lo n=>bind (chk A p (p.hops.length+1) vs) λ_=>bind (getPl A p) λt=>match t with
   | .d (.row true t) xs=>if dZ t=sz/\0 < sz/\sz'=sz then brM A (A.ltN k n) (atM A true t xs (A.addN lo k) λ_=>wr A d (.ptr (atP p (A.addN lo k) sz) vs)) else fail A
   | _=>fail A
  | .d (.row false t) xs=>if dZ t=sz/\0 < sz then atM A false t xs k λe=>wr A d (.ip (splitX A t e)) else fail A
  | _=>fail A
 | .ext x i=>bind (opd A x) λt=>match t with
  | .tup l=>if i < l.length then wr A d (l.getD i .dead) else fail A
  | _=>fail A
 | .bin op x y=>bind (opd A x) λa=>bind (opd A y) λb=>binX A d op a b
 | .bnb neg x y=>bind (opd A x) λa=>bind (opd A y) λb=>match a,b with
  | .d .bool a,.d .bool b=>wr A d (.d .bool (if neg then A.not (A.eqB a b) else A.eqB a b))
  | _,_=>fail A
 | .eqa ks neg x y=>bind (opd A x) λa=>bind (opd A y) λb=>match a,b with
  | .agg a,.agg b=>match eqAll A ks a b with | some r=>wr A d (.d .bool (if neg then A.not r else r)) | none=>fail A
  | _,_=>fail A
 | .un op x=>bind (opd A x) λa=>match op,a with
  | .not,.d .bool b=>wr A d (.d .bool (A.not b))
  | .neg,.d (.int k) n=>wr A d (.d (.int k) (A.neg k n))
  | _,_=>fail A
 | .conv k x=>bind (opd A x) λa=>match a with | .d (.int k0) n=>wr A d (.d (.int k) (A.cv k0 k n)) | _=>fail A
 | .bld z mv parts=>if (z.map (cellX A)).all okCellX then bind (takeParts A mv parts) λl=>bind (names A d l) λl'=>wr A d (.agg (assembleX (z.map (cellX A)) parts l')) else fail A
 | .bsl sz mv len parts=>bind (takeParts A mv (parts.map λp=>(0,sz,p))) λl=>if parts.length=len then bind (optM A (rowOf A (bl HT d) (chunksX sz len l))) λv=>inst A d false [v] else fail A
 | .mks sz z l c=>if (z.map (cellX A)).all okCellX && z.length==sz then bind (opd A l) λtl=>bind (opd A c) λtc=>bind (natOf A tl) λn=>bind (natOf A tc) λm=>
  brM A (A.mkOk n m sz) (bind (optM A (repOf A (bl HT d) n (z.map (cellX A)))) λv=>inst A d false [v]) else fail A
 | .slc sz x lo hi=>bind (opd A x) λt=>bind (lenOf A t) λn=>bind (optNat A lo (A.litN 0)) λl=>bind (optNat A hi n) λh=>brM A (A.slOk l h n) (
  match t with
  | .d (.row false t) xs=>if dZ t=sz then wr A d (.d (.row false t) (A.win false t xs l (A.subN h l))) else fail A
  | .d (.nilr false) x=>wr A d (.d (.nilr false) x)
  | .pk p vs=>bind (getPl A p) λt=>match t with | .d (.row true t) _=>if dZ t=sz then wr A d (.pw p vs sz l (A.subN h l)) else fail A | .d (.nilr true) _=>wr A d (.pw p vs sz l (A.subN h l)) | _=>fail A
  | .pw p vs sz' lo' _=>if sz'=sz then wr A d (.pw p vs sz (A.addN lo' l) (A.subN h l)) else fail A
  | .d (.nilr true) x=>inst A d false [.d (.nilr true) x]
  | _=>fail A)
 | .app sz bytes mv fl s x=>bind (opd A s) λts=>bind (opd A x) λtx=>
  if fl && !mv && isNameX tx then bind (contentOf A tx) λc2=>if flatRow c2 then bind (take1 A true ts) λs=>appX A d sz bytes (bl HT d) s c2 else fail A
  else bind (take1 A true ts) λs=>bind (take1 A mv tx) λx=>appX A d sz bytes (bl HT d) s x
 | .len x=>bind (opd A x) λt=>bind (lenOf A t) λn=>wr A d (.d (.int .i64) (A.natI n))
 | .lens x=>bind (opd A x) λt=>match t with
  | .d .str s=>wr A d (.d (.int .i64) (A.strLen s))
  | _=>fail A
 | .ixs x i=>bind (opd A x) λt=>bind (opd A i) λti=>bind (natOf A ti) λk=>match t with
  | .d .str s=>BA A s k λb=>wr A d (.d (.int .u8) b)
  | _=>fail A
 | .mm mx xs=>bind (mapM' (λx=>bind (opd A x) (intOf A)) xs) λl=>match l with
  | .d (.int k) a :: r=>match mmAll A mx k a r with | some m=>wr A d (.d (.int k) m) | none=>fail A
  | _=>fail A
 | .mkf f caps=>bind (mapM' (λx=>bind (opd A x) (capOf A)) caps) λl=>wr A d (.fn f l)
 | .idxa n sz x i=>bind (opd A x) λt=>bind (opd A i) λti=>bind (natOf A ti) λk=>match t with
  | .ptr p vs=>bind (chk A p p.hops.length vs) λ_=>caseM A k n (λj=>if fitsP p (j*sz) then wr A d (.ptr (addP p (j*sz)) vs) else fail A) 0
  | _=>fail A
 | .s2b x=>bind (opd A x) λt=>match t with
  | .d .str s=>brM A (A.strOk s) (wr A d (.d (.row false (.int .u8)) (A.strB s)))
  | _=>fail A
 | .b2s x=>bind (opd A x) λt=>bind (take1 A false t) λt'=>match t' with
  | .d (.row false (.int .u8)) c=>CH A c λs=>wr A d (.d .str s)
  | _=>fail A
 | .cpy sz x y=>bind (opd A x) λt=>bind (opd A y) λu=>bind (contentOf A u) λc2=>match t with
  | .pk p vs=>bind (chk A p (p.hops.length+1) vs) λ_=>bind (rdC p.root p.off) λtv=>cpyX A d sz p (A.litN 0) none tv c2
  | .pw p vs sz' lo n=>if sz'=sz then bind (chk A p (p.hops.length+1) vs) λ_=>bind (rdC p.root p.off) λtv=>cpyX A d sz p lo (some n) tv c2 else fail A
  | _=>fail A
 | .emp x=>bind (opd A x) λt=>bind (lenOf A t) λ_=>inst A d false [.d (.nilr true) (A.nilv true)]
 | .call _ _ _=>fail A
end
end X
structure XGP (D:CT->Type) where
 i:Nat
 p:XP D
 vs:List Nat
 cells:List (XV D)
namespace X
section
variable {D:CT->Type} {M:Type->Type} {X:Type} (A:Alg D M) {α β:Type}
def isNmX:XV D->Bool
 | .pk _ _=>true
 | .d (.nilr true) _=>true
 | _=>false
def argV0:XV D->XM D M X (XV D)
 | .ip cs=>ret (.ip cs)
 | .fn f cap=>ret (.fn f cap)
 | .ptr p vs=>ret (.ptr p vs)
 | t=>bind (takeV A false t) λl=>bind (optM A (immXL A l.1)) λl'=>ret (shapedX l.2 l')
def argV(x:Option Nat×Opd):XM D M X (XV D):=bind (opd A x.2) λt=>if (x.1==some 0 && isNmX t)=true then ret t else argV0 A t
def argVs:List (Option Nat×Opd)->XM D M X (List (XV D))
 | []=>ret []
 | x :: r=>bind (argV A x) λt=>bind (argVs r) λl=>ret (t :: l)
def takeOwns:Nat->List (Option Nat×XV D)->XM D M X (List (Nat×XV D))
 | _,[]=>ret []
 | i,(some 0,.pk p vs) :: r=>bind (take1 A true (.pk p vs)) λt=>if isOwX t=true then bind (takeOwns (i+1) r) λq=>ret ((i,t) :: q) else fail A
 | i,_ :: r=>takeOwns (i+1) r
def grabB(r:Nat):Nat->Nat->XM D M X (List (XV D))
 | _,0=>ret []
 | o,n+1=>bind (rdC r o) λt=>bind (peek1 A ⟨r,o,[]⟩ t) λt'=>bind (take1 A true t') λt2=>bind (grabB r (o+1) n) λl=>ret (t2 :: l)
def CI(p:XP D):XP D:=⟨p.root,p.off,[]⟩
def baseXN(p:XP D) (n:Nat):Nat:=match p.hops with
 | []=>n
 | _ :: _=>1
def rooted(p:XP D):XM D M X Unit:=match p.hops with
 | []=>ret ()
 | _ :: _=>bind (rdT ((p.root - 2) / 2)) λt=>match t with
  | .ptr q ws=>if q.root==p.root && q.hops.isEmpty then chk A q 0 ws else fail A
  | _=>fail A
def isArgX:XV D->Bool
 | .ip _=>true
 | .d (.nilr true) _=>true
 | .fn _ l=>l.all immCX
 | .agg l=>l.all λt=>okCellX t && !isOwX t
 | t=>okCellX t && !isOwX t
def grabs:Nat->List (Option Nat×XV D)->XM D M X (List (XGP D))
 | _,[]=>ret []
 | i,(some n,.ptr p vs) :: r=>bind (chk A p p.hops.length vs) λ_=>bind (rooted A p) λ_=>bind (grabB A p.root p.off (baseXN p n)) λl=>bind (grabs (i+1) r) λq=>ret (⟨i,CI p,vs.take 1,l⟩ :: q)
 | i,(some 0,.pk _ _) :: r=>grabs (i+1) r
 | i,(_,t) :: r=>if isArgX t then grabs (i+1) r else fail A
def touch(p:XP D):XM D M X Unit:=bind (rdC p.root p.off) λtv=>wrC A p.root p.off tv
def rechk:List (XGP D)->XM D M X Unit
 | []=>ret ()
 | g :: r=>bind (chk A g.p g.p.hops.length g.vs) λ_=>bind (touch A g.p) λ_=>rechk r
def argT(i:Nat):XV D->XV D
 | .ptr p _=>.ptr ⟨2*i+2,0,p.hops⟩ (List.replicate (p.hops.length+1) 0)
 | .pk _ _=>.pk ⟨2*i+3,0,[]⟩ [0,0]
 | t=>t
def argTs:Nat->List (XV D)->List (XV D)
 | _,[]=>[]
 | i,t :: r=>argT i t :: argTs (i+1) r
def mkSt(vals:List (XV D)) (pts:List (Nat×List (XV D))):XS D:=⟨cB 0 vals,pts,[],([],[])⟩
def isDeadX:XV D->Bool
 | .dead=>true
 | .d t _=>!oneT t
 | _=>false
def putBack:List (XGP D×List (XV D))->XM D M X Unit
 | []=>ret ()
 | (g,l) :: r=>bind (putBack r) λ_=>if l.length=g.cells.length/\0 < l.length/\(l.all λt=>!isDeadX t)=true then putL A g.p l else fail A
def shapeRX:List RSh->List (XV D)->List (XV D)
 | [],_=>[]
 | .one :: r,l=>l.headD .dead :: shapeRX r l.tail
 | .agg n :: r,l=>.agg (l.take n) :: shapeRX r (l.drop n)
 | .ptr :: r,l=>.dead :: shapeRX r l
def shapeTX(sh:List RSh) (l:List (XV D)):XV D:=
 match shapeRX sh l with
 | [x]=>x
 | l=>.tup l
def landR(dst:Option Nat) (cells:List (XV D)) (sh:List RSh):XM D M X Unit:=
 match dst with
 | some d=>bind (names A d cells) λl=>wr A d (shapeTX sh l)
 | none=>ret ()
def convP:(s:List (Nat×List Sh))->List (Nat×List (XV D))->(r:List CT)->HL D r->Option (HL D (lvP s r))
 | [],[],_,h=>some h
 | s :: ss,x :: xs,r,h=>if s.1=x.1 then (convP ss xs r h).bind λh1=>lw A s.2 x.2 (lvP ss r) h1 else none
 | _,_,_,_=>none
def convT:(s:List (Nat×Sh))->List (Nat×XV D)->(r:List CT)->HL D r->Option (HL D (lvT s r))
 | [],[],_,h=>some h
 | s :: ss,x :: xs,r,h=>if s.1=x.1 then (convT ss xs r h).bind λh1=>conv A s.2 x.2 (lvT ss r) h1 else none
 | _,_,_,_=>none
def sameVr:List (Key×Nat)->List (Key×Nat)->Bool
 | [],[]=>true
 | (q,n) :: r,(q',n') :: r'=>q==q' && n==n' && sameVr r r'
 | _,_=>false
def convS(s:Shs) (σ:XS D) (u:HL D []):Option (HL D (lvS s)):=if sameVr s.vr σ.vr then (convP A s.ce σ.ce [] u).bind λh=>convT A s.tm σ.tm _ h else none
def convIn(c:Ctr) (vals:List (XV D)) (pts:List (Nat×List (XV D))) (u:HL D []):Option (HL D (lvL c.ins (lvP c.pts []))):=(convP A c.pts pts [] u).bind λh=>lw A c.ins vals _ h
def sameSh:List RSh->List RSh->Bool
 | [],[]=>true
 | .one :: r,.one :: r'=>sameSh r r'
 | .agg n :: r,.agg n' :: r'=>n==n' && sameSh r r'
 | .ptr :: r,.ptr :: r'=>sameSh r r'
 | _,_=>false
def convO(o:XO) (cells:List (XV D)) (sh:List RSh) (pts:List (Nat×List (XV D))) (u:HL D []):Option (HL D (lvO o)):=if sameSh o.sh sh then (convP A o.pts pts [] u).bind λh=>lw A o.cells cells _ h else none
def injO(cells:List (XV D)) (sh:List RSh) (pts:List (Nat×List (XV D))) (u:HL D []):(outs:List XO)->Option ((i:Nat)×HL D (ov (outs.map lvO) i))
 | []=>none
 | o :: r=>match convO A o cells sh pts u with
  | some h=>some ⟨0,h⟩
  | none=>match injO cells sh pts u r with | some x=>some ⟨x.1+1,x.2⟩ | none=>none
def exEq:d4->d4->Bool
 | .normal,.normal=>true
 | .exit i,.exit j=>i==j
 | .ret,.ret=>true
 | _,_=>false
def injE(e:d4) (σ:XS D) (u:HL D []):(outs:List (d4×Shs))->Option ((i:Nat)×HL D (ov (outs.map λx=>lvS x.2) i))
 | []=>none
 | o :: r=>match (if exEq o.1 e then convS A o.2 σ u else none) with
  | some h=>some ⟨0,h⟩
  | none=>match injE e σ u r with | some x=>some ⟨x.1+1,x.2⟩ | none=>none
def onOut(o:Option α) (K:α->M X):M X:=match o with
 | some x=>K x
 | none=>A.fail
def isPX(sh:List RSh) (cells:List (XV D)):Bool:=match sh,cells with
 | .ptr :: _,.ptr _ _ :: _=>true
 | _,_=>false
def shapePX(t:XV D):List (XV D)->XV D
 | []=>t
 | y :: l=>.tup (t :: y :: l)
def landP(dst:Option Nat) (q:List (XGP D)) (cells:List (XV D)):XM D M X Unit:=
 match dst with
 | none=>ret ()
 | some d=>match cells,q with
  | .ptr pl _ :: l,[g]=>if pl.root==2*g.i+2 && g.p.hops.isEmpty then bind (rdVs (iw g.p.root (g.p.off+pl.off) pl.hops.length)) λvs=>wr A d (shapePX (.ptr ⟨g.p.root,g.p.off+pl.off,pl.hops⟩ vs) l) else fail A
  | _,_=>fail A
def afterC(dst:Option Nat) (q:List (XGP D)) (ow:List (Nat×XV D)) (x:List (XV D)×List RSh×List (Nat×List (XV D))):XM D M X Unit:=
 if x.2.2.map (·.1)=q.map (λg=>2*g.i+2)++ow.map (λy=>2*y.1+3)/\(isPX x.2.1 x.1 || io x.2.1 x.1.length)=true then bind (putBack A (q.zip (x.2.2.map (·.2)))) λ_=>if isPX x.2.1 x.1 then landP A dst q x.1 else landR A dst x.1 x.2.1 else fail A
def callTB(dst:Option Nat) (f:FuncId) (vals:List (XV D)) (q:List (XGP D)) (ow:List (Nat×XV D)) (u:HL D []):List Ctr->XM D M X Unit
 | []=>fail A
 | c :: r=>match (if c.f=f then convIn A c vals (q.map (λg=>(2*g.i+2,g.cells))++ow.map λy=>(2*y.1+3,[y.2])) u else none) with
  | some h=>fun σ k=>A.call c.id (lvL c.ins (lvP c.pts [])) (c.outs.map lvO) c.g h λi ho=>onOut A (fa c.outs i ho) λx=>afterC A dst q ow x σ k
  | none=>callTB dst f vals q ow u r
def callV(TB:List Ctr) (u:HL D []) (dst:Option Nat) (f:FuncId) (ns:List (Option Nat)) (vals:List (XV D)):XM D M X Unit:=
 bind (takeOwns A 0 (ns.zip vals)) λow=>bind (grabs A 0 (ns.zip vals)) λq=>bind (rechk A q) λ_=>
  if fS (q.map (·.p.root)) && q.all (λg=>decide (0 < g.cells.length)) then callTB A dst f (argTs 0 vals) q ow u TB else fail A
def see1:XV D->XM D M X (XV D)
 | .d (.row true _) _=>fail A
 | .d .nat _=>fail A
 | .d (.pair _ _) _=>fail A
 | .d (.nilr _) _=>ret (.d (.nilr false) (A.nilv false))
 | .d t x=>ret (.d t x)
 | .k x=>ret (.k x)
 | .pk p vs=>bind (chk A p (p.hops.length+1) vs) λ_=>bind (rdC p.root p.off) λtv=>getM A tv p.hops λv=>if isOwX v then optM A (immX A v) else fail A
 | _=>fail A
def seeL:List (XV D)->XM D M X (List (XV D))
 | []=>ret []
 | t :: r=>bind (see1 A t) λt'=>bind (seeL r) λl=>ret (t' :: l)
def seeA:XV D->XM D M X (XV D)
 | .agg l=>bind (seeL A l) λl'=>ret (.agg l')
 | .ip cs=>ret (.ip cs)
 | .fn f cap=>if cap.all immCX then ret (.fn f cap) else fail A
 | t=>see1 A t
def seeAs:List Opd->XM D M X (List (XV D))
 | []=>ret []
 | x :: r=>bind (opd A x) λt=>bind (seeA A t) λt'=>bind (seeAs r) λl=>ret (t' :: l)
def flatX:XV D->Bool
 | .d (.int _) _=>true
 | .d .bool _=>true
 | .d .str _=>true
 | .k x=>cO x
 | _=>false
def afterB(dst:Option Nat) (x:List (XV D)×List RSh×List (Nat×List (XV D))):XM D M X Unit:=
 if x.2.2.length=0/\x.1.all flatX=true/\io x.2.1 x.1.length=true then (match dst with | some d=>wr A d (shapeTX x.2.1 x.1) | none=>ret ()) else fail A
def callB(dst:Option Nat) (f:FuncId) (vals:List (XV D)) (u:HL D []):List Ctr->XM D M X Unit
 | []=>fail A
 | c :: r=>match (if c.f=f then convIn A c vals [] u else none) with
  | some h=>fun σ k=>A.call c.id (lvL c.ins (lvP c.pts [])) (c.outs.map lvO) c.g h λi ho=>onOut A (fa c.outs i ho) λx=>afterB A dst x σ k
  | none=>callB dst f vals u r
def bxX(vals:List (XV D)):BxC->XV D
 | .arg i=>vals.getD i .dead
 | .val x=>cellX A x
def evBox(dst:Option Nat) (tm:List BxC) (vals:List (XV D)):XM D M X Unit:=
 match dst with
 | some d=>bind (takeL A false (tm.map (bxX A vals))) λl=>bind (new A (2*d+2) l) λ_=>bind (rdV (2*d+2,0,0)) λg=>wr A d (.ptr ⟨2*d+2,0,[]⟩ [g])
 | none=>fail A
def boxOk:BxC->Bool
 | .arg _=>true
 | .val x=>match x with | .slice none 0 0=>false | x=>cO x
def evCall(E:Env) (TB:List Ctr) (u:HL D []) (dst:Option Nat):TOp->XM D M X Unit
 | .call k (.f f) args=>
  if k then bind (argVs A args) λvals=>match E.box f with
   | some x=>if vals.length=x.1/\x.2.all boxOk=true then evBox A dst x.2 vals else fail A
   | none=>callV A TB u dst f (args.map (·.1)) vals
  else bind (seeAs A (args.map (·.2))) λvals=>callB A dst f vals u TB
 | .call _ (.t i) args=>bind (rdT i) λt=>match t with
  | .fn f caps=>bind (argVs A args) λvals=>callV A TB u dst f (args.map (·.1)++zn E f args.length caps.length) (vals++caps)
  | _=>fail A
 | _=>fail A
structure Cfg where
 E:Env
 TB:List Ctr
 HT:List (Nat×CT)
 HL:List qK
def evop(C:Cfg) (u:HL D []) (dst:Option Nat) (op:TOp):XM D M X Unit:=
 match op with
 | .call k f args=>evCall A C.E C.TB u dst (.call k f args)
 | .store n mv a x=>match dst with | none=>ev1 A C.HT 0 (.store n mv a x) | some _=>fail A
 | op=>match dst with | some d=>ev1 A C.HT d op | none=>fail A
def setNo(dst:Option Nat):XM D M X Unit:=match dst with | some d=>wrT A d (.tup []) | none=>ret ()
def known(j:Nat) (b:Bool) (σ:XS D):XS D:=⟨cj σ.tm j (.d .bool (A.litB b)),σ.ce,σ.vr,σ.lg⟩
def knownO(c:Opd) (b:Bool) (σ:XS D):XS D:=match c with | .t j=>known A j b σ | _=>σ
def condX(m m':M X):XV D->M X
 | .d .bool x=>A.br x m m'
 | _=>A.fail
def guardX(j:Nat) (want:Bool) (m m':XM D M X Unit):XV D->XM D M X Unit
 | .d .bool b=>fun σ k=>A.br b ((if want then m else m') (known A j true σ) k) ((if want then m' else m) (known A j false σ) k)
 | .tup []=>m'
 | _=>fail A
def spOp(C:Cfg) (u:HL D []) (o:dh):XM D M X Unit:=
 match o.guard with
 | none=>evop A C u o.dst o.op
 | some (j,want)=>bind (rdT j) (guardX A j want (evop A C u o.dst o.op) (setNo A o.dst))
def spOps(C:Cfg) (u:HL D []):List dh->XM D M X Unit
 | []=>ret ()
 | o :: r=>bind (spOp A C u o) λ_=>spOps C u r
def spFL(C:Cfg) (u:HL D []) (ops:List dh):List Nat->XM D M X (List (Nat×i5))
 | []=>ret []
 | i :: r=>fun σ k=>spOp A C u (ops.getD i qM) ⟨σ.tm,σ.ce,σ.vr,([],[])⟩ λ_ σ1=>spFL C u ops r σ1 λfs σ2=>k ((i,σ1.lg) :: fs) σ2
def renorm0(L:List Nat) (σ:XS D):XV D->XV D
 | .ptr p vs=>if L.contains p.root && vs==dM (jl σ.vr) p.root p.off p.hops.length then .ptr p (dM (λ_=>0) p.root p.off p.hops.length) else .dead
 | .pk p vs=>if L.contains p.root && vs==dM (jl σ.vr) p.root p.off (p.hops.length+1) then .pk p (dM (λ_=>0) p.root p.off (p.hops.length+1)) else .dead
 | .pw p vs sz lo n=>if L.contains p.root && vs==dM (jl σ.vr) p.root p.off (p.hops.length+1) then .pw p (dM (λ_=>0) p.root p.off (p.hops.length+1)) sz lo n else .dead
 | .k x=>.k x
 | .ip cs=>.ip cs
 | .d (.row true _) _=>.dead
 | .d t x=>.d t x
 | .tup []=>.tup []
 | _=>.dead
def renorm(L:List Nat) (σ:XS D):XV D->XV D
 | .agg l=>.agg (l.map (renorm0 L σ))
 | .fn f l=>.fn f (l.map (renorm0 L σ))
 | t=>renorm0 L σ t
def normT(L:List Nat) (σ:XS D):List Nat->List (Nat×XV D)
 | []=>[]
 | i :: r=>match bl σ.tm i with | some t=>(i,renorm L σ t) :: normT L σ r | none=>normT L σ r
def normC(σ:XS D):List Nat->List (Nat×List (XV D))
 | []=>[]
 | r :: l=>match bl σ.ce r with | some c=>(r,c) :: normC σ l | none=>normC σ l
def norm(σ:XS D) (pers:Prs):XS D:=⟨normT pers.2 σ pers.1,normC σ pers.2,[],([],[])⟩
def anew(σ:XS D):XS D:=norm σ (σ.tm.map (·.1),σ.ce.map (·.1))
def selH(i:Nat) (σ:XS D) (u:HL D []):List qK->Option ((H:qK)×HL D (lvS H.s))
 | []=>none
 | H :: r=>match (if H.i=i then convS A H.s σ u else none) with
  | some h=>some ⟨H,h⟩
  | none=>selH i σ u r
def selJ(i:Nat):List qK->Option qK
 | []=>none
 | H :: r=>if H.i=i then some H else selJ i r
def marks:d5->Nat
 | .seq a b=>marks a+marks b+1
 | .cond _ a b=>marks a+marks b
 | .block _ b=>marks b
 | .loop b=>marks b+1
 | .pre _ b=>marks b
 | .post b _=>marks b
 | _=>0
def okN0:XV D->Bool
 | .d (.row true _) _=>false
 | .d .nat _=>false
 | .d (.pair _ _) _=>false
 | .gap _ _ _ _=>false
 | _=>true
def okN:XV D->Bool
 | .agg l=>l.all okN0
 | .fn _ l=>l.all okN0
 | t=>okN0 t
def okS(σ:XS D):Bool:=σ.tm.all λx=>okN x.2
def shr1(x:Nat×Option Nat):XM D M X Unit:=bind (rdT x.1) λt=>match x.2,t with
 | none,.pk p vs=>bind (take1 A false (.pk p vs)) λt'=>bind (optM A (immX A t')) λt2=>wrT A x.1 t2
 | some off,.ptr p vs=>bind (chk A p p.hops.length vs) λ_=>if fitsP p off then bind (getPl A (addP p off)) λt=>if isOwX t then bind (peek1 A (addP p off) t) λt'=>bind (take1 A false t') λ_=>ret () else (match t with | .d _ _=>ret () | _=>fail A) else fail A
 | none,.d _ _=>ret ()
 | none,.agg l=>if l.any isOwX then fail A else ret ()
 | _,_=>fail A
def shrs:List (Nat×Option Nat)->XM D M X Unit
 | []=>ret ()
 | x :: r=>bind (shr1 A x) λ_=>shrs r
def roundK(H:qK) (u:HL D []) (e:d4) (σ:XS D):M (HL den (lvS H.s)⊕n8 (H.outs.map λx=>lvS x.2)):=
 match e with
 | .normal=>onOut A (convS A H.s σ u) (A.next (lvS H.s) (H.outs.map λx=>lvS x.2))
 | e=>onOut A (injE A e σ u H.outs) λx=>A.exitL (lvS H.s) (H.outs.map λx=>lvS x.2) x.1 x.2
def runC(C:Cfg) (u:HL D []):d5->Nat->{X:Type}->XS D->(d4->XS D->M X)->M X
 | .skip,_,_,σ,k=>k .normal σ
 | .nrm pers,_,_,σ,k=>if okS σ then k .normal (norm σ pers) else A.fail
 | .reg _ draw ops pers,_,_,σ,k=>
  match draw with
  | none=>spOps A C u ops σ λ_ σ'=>if okS σ' then k .normal (norm σ' pers) else A.fail
  | some deps=>spFL A C u ops (List.range ops.length) σ λfs σ'=>if lE deps fs && okS σ' then k .normal (norm σ' pers) else A.fail
 | .seq a b,i,_,σ,k=>match selJ i C.HL with
  | none=>runC C u a (i+1) σ λe σ'=>match e with | .normal=>runC C u b (i+1+marks a) σ' k | e=>k e σ'
  | some H=>A.join (H.outs.map λx=>lvS x.2) (runC C u a (i+1) σ λe σ'=>match injE A e σ' u H.outs with | some x=>A.out (H.outs.map λx=>lvS x.2) x.1 x.2 | none=>A.fail)
   λj ho=>onOut A (la H.outs j ho) λx=>match x.1 with | .normal=>runC C u b (i+1+marks a) x.2 k | e=>k e x.2
 | .cond c a b,i,_,σ,k=>opd A c σ λt _=>condX A (runC C u a i (knownO A c true σ) k) (runC C u b (i+marks a) (knownO A c false σ) k) t
 | .block id b,i,_,σ,k=>runC C u b i σ λe σ'=>match e with | .exit j=>if j=id then k .normal σ' else k (.exit j) σ' | e=>k e σ'
 | .loop b,i,_,σ,k=>match selH A i σ u C.HL with
  | some ⟨H,h⟩=>A.loop H.nm (lvS H.s) (H.outs.map λx=>lvS x.2) h
   (λh=>runC C u b (i+1) (rK H.s h) (roundK A H u))
   λj ho=>onOut A (la H.outs j ho) λx=>k x.1 x.2
  | none=>A.fail
 | .exit id,_,_,σ,k=>k (.exit id) σ
 | .ret,_,_,σ,k=>k .ret σ
 | .pre l a,i,_,σ,k=>shrs A l σ λ_ σ'=>if okS σ' then runC C u a i (anew σ') k else A.fail
 | .post a l,i,_,σ,k=>runC C u a i σ λe σ'=>shrs A l σ' λ_ σ2=>if okS σ2 then k e (anew σ2) else A.fail
def takeR1(np:Nat) (t:XV D):XM D M X (XV D):=
 match t with
 | .pk p vs=>take1 A (!BS np p.root) (.pk p vs)
 | t=>take1 A true t
def takeRL(np:Nat):List (XV D)->XM D M X (List (XV D))
 | []=>ret []
 | t :: r=>bind (takeR1 A np t) λt'=>bind (takeRL np r) λr'=>ret (t' :: r')
def takeRV(np:Nat) (t:XV D):XM D M X (List (XV D)×RSh):=
 match t with
 | .agg l=>bind (takeRL A np l) λl'=>ret (l',.agg l'.length)
 | t=>bind (takeR1 A np t) λt'=>ret ([t'],.one)
def res1(np:Nat):TRs->XM D M X (List (XV D)×RSh)
 | .tmp t=>bind (rdT t) λtv=>takeRV A np tv
 | .cell t n=>bind (rdT t) λtv=>match tv with
  | .ptr p vs=>bind (chk A p p.hops.length vs) λ_=>match n with
   | none=>bind (getPl A p) λt=>bind (peek1 A p t) λt'=>takeRV A np t'
   | some n=>bind (peekL A p n) λl=>takeRV A np (.agg l)
  | _=>fail A
def resL(np:Nat):List TRs->XM D M X (List (XV D)×List RSh)
 | []=>ret ([],[])
 | r :: rs=>bind (res1 A np r) λx=>bind (resL np rs) λy=>ret (x.1++y.1,x.2 :: y.2)
def onesOf:List (XV D)->List RSh
 | []=>[]
 | _ :: r=>.one :: onesOf r
def flatsR:List TRs->XM D M X (List (XV D))
 | []=>ret []
 | .tmp t :: r=>bind (rdT t) λtv=>if flatX tv then bind (flatsR r) λl=>ret (tv :: l) else fail A
 | .cell _ _ :: _=>fail A
def resF(np:Nat) (l:List TRs):XM D M X (List (XV D)×List RSh):=
 match l with
 | .tmp t :: r=>bind (rdT t) λtv=>match tv with
  | .ptr p vs=>bind (chk A p p.hops.length vs) λ_=>bind (flatsR A r) λl=>ret (.ptr p vs :: l,.ptr :: onesOf l)
  | _=>resL A np (.tmp t :: r)
 | qs=>resL A np qs
def isPtrX:XV D->Bool
 | .ptr _ _=>true
 | _=>false
def isShX:XV D->Bool
 | .d (.row false _) _=>true
 | .d (.nilr false) _=>true
 | _=>false
def ptrsInX(pp:List Nat):Nat->List (XV D)->Bool
 | _,[]=>true
 | i,t :: r=>(!isPtrX t || pp.contains i) && (isPtrX t || isShX t || !pp.contains (1000+i)) && ptrsInX pp (i+1) r
def ptsOf(σ:XS D):List (Nat×List (XV D))->List (Nat×List (XV D))
 | []=>[]
 | x :: r=>(x.1,(bl σ.ce x.1).getD []) :: ptsOf σ r
def runT(C:Cfg) (u:HL D []) (tf:TFn) (outs:List XO) (vals:List (XV D)) (pts:List (Nat×List (XV D))):M (n8 (outs.map lvO)):=
 if vals.length=tf.np/\(ptrsInX tf.pp 0 vals && (!tf.pp.contains 1000 || pts.isEmpty))=true then
  runC A C u tf.body 0 (mkSt vals pts) λe σ=>match e with
   | .exit _=>A.fail
   | _=>resF A tf.np tf.res σ λy σ'=>onOut A (injO A y.1 y.2 (ptsOf σ' pts) u outs) λx=>A.out (outs.map lvO) x.1 x.2
 else A.fail
end
end X
def er1:(t:CT)->den t->TV
 | .int k,x=>.v (.int k x)
 | .bool,x=>.v (.bool x)
 | .str,x=>.v (.string x)
 | .nat,_=>.dead
 | .row true t,xs=>.ow (List.map (enc t) xs)
 | .row false t,xs=>.sl (List.map (enc t) xs)
 | .nilr true,_=>.ow []
 | .nilr false,_=>.sl []
 | .pair _ _,_=>.dead
def erP(p:XP den):ba:=⟨p.root,p.off,p.hops⟩
mutual
def er:XV den->TV
 | .d t x=>er1 t x
 | .k x=>.v x
 | .dead=>.dead
 | .ptr p vs=>.ptr (erP p) vs
 | .ip l=>.ip (erL l)
 | .pk p vs=>.pk (erP p) vs
 | .pw p vs sz lo n=>.pw (erP p) vs sz lo n
 | .agg l=>.agg (erL l)
 | .tup l=>.tup (erL l)
 | .fn f l=>.fn f (erL l)
 | .gap t x i o=>cw (er1 (.row true t) x) [(i,0,o)] .dead
def erL:List (XV den)->List TV
 | []=>[]
 | x :: r=>er x :: erL r
end
def erC(l:List (Nat×List (XV den))):List (Nat×List TV):=l.map λx=>(x.1,erL x.2)
def erS(σ:XS den):St:=⟨σ.tm.map λx=>(x.1,er x.2),erC σ.ce,σ.vr⟩
theorem dW(l:List (XV den)):erL l=l.map er:=by
 induction l with
 | nil=>rfl
 | cons x r ih=>simp only[erL,List.map_cons,ih]
theorem b9(l:List (XV den)):(erL l).length=l.length:=by rw[dW];simp
theorem iX(a b:List (XV den)):erL (a++b)=erL a++erL b:=by simp[dW]
theorem iW(l:List (XV den)) (n:Nat):erL (l.take n)=(erL l).take n:=by simp[dW,List.map_take]
theorem j0(l:List (XV den)) (n:Nat):erL (l.drop n)=(erL l).drop n:=by simp[dW,List.map_drop]
theorem lJ(l:List (XV den)) (i:Nat):er (l.getD i .dead)=(erL l).getD i .dead:=by
 rw[dW];simp only[oGD,List.getElem?_map];cases l[i]?<;>rfl
theorem mA(l:List (XV den)) (i:Nat) (t:XV den):erL (l.set i t)=(erL l).set i (er t):=by simp[dW,List.map_set]
theorem qr(l:List (XV den)):er (l.headD .dead)=(erL l).headD .dead:=by cases l<;>rfl
theorem AI{o:Bool}{t t':CT}(xs:List (den t)) (f:den t->den t') (h:∀y,enc t' (f y)=enc t y):enc (.row o t') (List.map f xs)=enc (.row o t) xs:=by
 have e:List.map (enc t') (List.map f xs)=List.map (enc t) xs:=by
  rw[List.map_map];exact List.map_congr_left λy _=>h y
 cases o
 ·show [TV.sl (List.map (enc t') (List.map f xs))]=[TV.sl (List.map (enc t) xs)];rw[e]
 ·show [TV.ow (List.map (enc t') (List.map f xs))]=[TV.ow (List.map (enc t) xs)];rw[e]
theorem js{t:CT}(h:X.oneT t=true) (x:den t):enc t x=[er1 t x]:=by
 cases t with
 | row o t=>cases o<;>rfl
 | nilr o=>cases o<;>rfl
 | nat=>simp[X.oneT] at h
 | pair a b=>simp[X.oneT] at h
 | _=>rfl
theorem bZ:∀(t:CT) (x:den t),(enc t x).length=dZ t:=by
 intro t
 induction t with
 | pair a b Zn Zh=>intro x;simp only[enc,List.length_append,Zn,Zh,dZ]
 | row o t=>intro x;cases o<;>rfl
 | nilr o=>intro x;cases o<;>rfl
 | _=>intro x;rfl
theorem jz:∀(t:CT) (x:den t),erL (X.splitX aV t x)=enc t x:=by
 intro t
 induction t with
 | pair a b Zn Zh=>
  intro x;simp only[X.splitX,iX,enc];rw[Zn,Zh];rfl
 | row o t=>intro x;cases o<;>rfl
 | nilr o=>intro x;cases o<;>rfl
 | _=>intro x;rfl
theorem mc{α:Type}(l:List α):∀i,yG l i=l[i]?:=by
 induction l with
 | nil=>intro i;rfl
 | cons x r ih=>intro i;cases i with | zero=>rfl | succ i=>simp[yG,ih]
theorem jy{t:CT}{x:den t}{o:Nat}{v:XV den}(h:yG (X.splitX aV t x) o=some v):(enc t x)[o]?=some (er v):=by
 rw[mc] at h;rw[<- jz,dW,List.getElem?_map,h];rfl
theorem BR:∀{t u:CT}(x:den t),uB t u=true->enc u (zS t u x)=enc t x:=by
 intro t
 induction t with
 | int k=>intro u x h;cases u<;>simp[uB] at h;subst h;rfl
 | bool=>intro u x h;cases u<;>simp[uB] at h;rfl
 | str=>intro u x h;cases u<;>simp[uB] at h;rfl
 | nat=>intro u x h;cases u<;>simp[uB] at h;rfl
 | row o t ih=>
  intro u x h;cases u<;>simp[uB] at h;rename_i o' t';obtain⟨rfl,h⟩:=h;exact AI x (zS t t') λy=>ih y h
 | nilr o=>
  intro u x h;cases u<;>simp[uB] at h
  ·subst h;cases o<;>rfl
  ·subst h;cases o<;>rfl
 | pair a b Zn Zh=>
  intro u x h;cases u<;>simp[uB] at h;rename_i a' b';show enc a' (zS a a' x.1)++enc b' (zS b b' x.2)=enc a x.1++enc b x.2;rw[Zn _ h.1,Zh _ h.2]
theorem sb{t u:CT}{x:den t}{y:den u}(h:asT aV t u x=some y):enc u y=enc t x:=by
 unfold asT at h;split at h
 ·rename_i he;have:=j3 he;subst this
  injection h with h
  rw[<- h]
 ·split at h
  ·rename_i hl
   injection h with h
   rw[<- h];exact BR x hl
  ·simp at h
theorem A9{t u:CT}{x:den t}{y:den u}(h:asT aV t u x=some y):X.oneT u=X.oneT t:=by
 unfold asT at h;split at h
 ·rename_i he;rw[j3 he]
 ·split at h
  ·rename_i hl;cases t<;>cases u<;>simp[uB] at hl<;>rfl
  ·simp at h
theorem tD{t u:CT}{x:den t}{y:den u}(h:asT aV t u x=some y):er1 u y=er1 t x:=by
 have h1:=sb h;have h2:=A9 h
 cases ht:X.oneT t with
 | true=>
  rw[js (by rw[h2,ht]),js ht] at h1;injection h1
 | false=>
  rw[ht] at h2;cases t<;>simp[X.oneT] at ht<;>cases u<;>simp[X.oneT] at h2<;>rfl
theorem tB{α β:Type}(h:α=β) (h2:List α=List β) (xs:List α):cast h2 xs=xs.map (cast h):=by
 subst h;exact (List.map_id xs).symm
theorem mH{α β γ δ:Type}(h1:α=γ) (h2:β=δ) (h:(α×β)=(γ×δ)) (x:α×β):cast h x=(cast h1 x.1,cast h2 x.2):=by
 subst h1;subst h2;rfl
theorem fP:∀t,dX t t=true:=by
 intro t
 induction t with
 | row o t ih=>simpa [dX] using ih
 | pair a b Zn Zh=>simp[dX,Zn,Zh]
 | _=>simp[dX]
theorem kp:∀t,dX t (jf t)=true:=by
 intro t
 induction t with
 | row o t ih=>cases o with
  | true=>simpa [jf,dX] using ih
  | false=>simpa [jf] using fP (.row false t)
 | pair a b Zn Zh=>simp[jf,dX,Zn,Zh]
 | nilr o=>simp[jf,dX]
 | _=>simp[jf,dX]
theorem oU:∀(t:CT) (h:den t=den (jf t)) (x:den t),enc (jf t) (cast h x)=cC (enc t x):=by
 intro t
 induction t with
 | row o t ih=>
  intro h x
  cases o with
  | false=>rfl
  | true=>
   have h':den t=den (jf t):=cL (kp t);have e:(cast h x:den (.row false (jf t)))=(List.map (cast h') (x:List (den t)):List (den (jf t))):=tB h' h x;show enc (.row false (jf t)) (cast h x)=cC [TV.ow (List.map (enc t) (x:List (den t)))];rw[e];show [TV.sl (List.map (enc (jf t)) (List.map (cast h') (x:List (den t))))]=[TV.sl (fi (List.map (enc t) (x:List (den t))))];rw[List.map_map,jd,List.map_map];congr 2;refine List.map_congr_left λy _=>?_;simp only[Function.comp_apply];rw[ih h' y,gD]
 | nilr o=>intro h x;cases o<;>rfl
 | pair a b Zn Zh=>
  intro h x;have ha:=cL (kp a);have hb:=cL (kp b);have e:(cast h x:den (.pair (jf a) (jf b)))=((cast ha x.1,cast hb x.2):den (jf a)×den (jf b)):=mH ha hb h x;show enc (.pair (jf a) (jf b)) (cast h x)=cC (enc a x.1++enc b x.2);rw[e];show enc (jf a) (cast ha x.1)++enc (jf b) (cast hb x.2)=_;rw[Zn ha,Zh hb];simp[gD]
 | _=>intro h x;rfl
theorem ml{x y:XV den}(h:X.immX aV x=some y):er y=(er x).imm:=by
 unfold X.immX at h;split at h
 ·injection h with h;subst h;rfl
 ·injection h with h;subst h;rfl
 ·injection h with h;subst h;rfl
 ·injection h with h;subst h;rfl
 ·rename_i o _
  injection h with h;subst h
  cases o<;>rfl
 ·rename_i t xs;split at h
  ·rename_i hs
   injection h with h
   subst h;have:=oU (.row true t) (cL hs) xs;simp only[jf] at this;have e1:enc (.row false (jf t)) (cast (cL hs) xs)=[er1 (.row false (jf t)) (cast (cL hs) xs)]:=rfl;rw[e1] at this;show er1 (.row false (jf t)) (cast (cL hs) xs)=(er1 (.row true t) xs).imm;simpa [cC,enc,er1] using this
  ·simp at h
 ·injection h with h;subst h;rfl
 ·simp at h
theorem sY:∀{l l':List (XV den)},X.immXL aV l=some l'->erL l'=(erL l).map TV.imm:=by
 intro l
 induction l with
 | nil=>intro l' h;simp only[X.immXL,oSJ] at h;subst h;rfl
 | cons x l ih=>
  intro l' h;simp only[X.immXL] at h;split at h
  ·rename_i y r h1 h2
   injection h with h
   subst h;simp only[erL,List.map_cons];rw[ml h1,ih h2]
  ·simp at h
theorem q7:∀{t:CT}{o:Nat}{os:List Nat}{t':CT},shT t o os=some t'->dX t t'=true:=by
 intro t
 induction t with
 | pair a b Zn Zh=>
  intro o os t' h;simp only[shT] at h;split at h
  ·obtain⟨u,h1,rfl⟩:=cU h;simp[dX,Zn h1,fP]
  ·obtain⟨u,h1,rfl⟩:=cU h;simp[dX,Zh h1,fP]
 | row ow t ih=>
  intro o os t' h
  cases ow with
  | true=>
   cases o with
   | zero=>
    cases os with
    | nil=>simp only[shT,oSJ] at h;subst h;exact kp _
    | cons o os=>
     simp only[shT] at h;obtain⟨u,h1,rfl⟩:=cU h;simpa [dX] using ih h1
   | succ o=>simp only[shT,oSJ] at h;subst h;exact fP _
  | false=>
   cases o with
   | zero=>
    cases os with
    | nil=>simp only[shT,oSJ] at h;subst h;exact kp _
    | cons o os=>simp only[shT,oSJ] at h;subst h;exact fP _
   | succ o=>simp only[shT,oSJ] at h;subst h;exact fP _
 | _=>
  intro o os t' h
  cases o with
  | zero=>
   cases os with
   | nil=>simp only[shT,oSJ] at h;subst h;exact kp _
   | cons o os=>simp only[shT,oSJ] at h;subst h;exact fP _
  | succ o=>simp only[shT,oSJ] at h;subst h;exact fP _
theorem kz(l:List TV) (h:l.length<=1):cC l=l.modify 0 λy=>bJ y []:=by
 match l,h with
 | [],_=>rfl
 | [y],_=>cases y<;>rfl
theorem kA(l:List TV) (h:l.length<=1) (o:Nat) (f:TV->TV):l.modify (o+1) f=l:=List.modify_eq_self (by omega)
theorem sR{α:Type}(l l':List α) (f:α->α) {o:Nat}(h:o < l.length):(l++l').modify o f=l.modify o f++l':=by
 apply List.ext_getElem?;intro i;simp only[List.getElem?_modify,List.getElem?_append,oLM];by_cases hi:i < l.length
 ·simp only[hi,if_true]
 ·have:¬ o=i:=by omega
  simp only[hi,if_false,this];simp
theorem pQ{α:Type}(l l':List α) (f:α->α) {o:Nat}(h:l.length<=o):(l++l').modify o f=l++l'.modify (o - l.length) f:=by
 apply List.ext_getElem?;intro i;simp only[List.getElem?_modify,List.getElem?_append];by_cases hi:i < l.length
 ·have:¬ o=i:=by omega
  simp only[hi,if_true,this,if_false];simp
 ·have:(o=i)↔(o - l.length=i - l.length):=by omega
  simp only[hi,if_false,this]
theorem xi:∀(t:CT) (o:Nat) (os:List Nat) (t':CT) (h:den t=den t') (x:den t),shT t o os=some t'->enc t' (cast h x)=(enc t x).modify o λy=>bJ y os:=by
 intro t
 induction t with
 | pair a b Zn Zh=>
  intro o os t' h x hs;simp only[shT] at hs;show _=(enc a x.1++enc b x.2).modify o λy=>bJ y os;split at hs
  ·rename_i ho;obtain⟨u,h1,rfl⟩:=cU hs;have ha:=cL (q7 h1);have e:(cast h x:den (.pair u b))=((cast ha x.1,cast rfl x.2):den u×den b):=mH ha rfl h x;rw[e];show enc u (cast ha x.1)++enc b x.2=_;rw[Zn o os u ha x.1 h1,sR _ _ _ (by rw[bZ];exact ho)]
  ·rename_i ho;obtain⟨u,h1,rfl⟩:=cU hs;have hb:=cL (q7 h1);have e:(cast h x:den (.pair a u))=((cast rfl x.1,cast hb x.2):den a×den u):=mH rfl hb h x;rw[e];show enc a x.1++enc u (cast hb x.2)=_;rw[Zh _ os u hb x.2 h1,pQ _ _ _ (by rw[bZ];omega),bZ]
 | row ow t ih=>
  intro o os t' h x hs
  have hl:(enc (.row ow t) x).length<=1:=by rw[bZ];exact Nat.le_refl _
  cases o with
  | succ o=>
   rw[kA _ hl];cases ow<;>simp only[shT,oSJ] at hs<;>subst hs<;>rfl
  | zero=>
   cases os with
   | nil=>
    rw[<- kz _ hl]
    have e:t'=jf (.row ow t):=by cases ow<;>simp only[shT,oSJ] at hs<;>exact hs.symm
    subst e;exact oU _ h x
   | cons o os=>
    cases ow with
    | false=>simp only[shT,oSJ] at hs;subst hs;rfl
    | true=>
     simp only[shT] at hs;obtain⟨u,h1,rfl⟩:=cU hs;have h':den t=den u:=cL (q7 h1);have e:(cast h x:den (.row true u))=(List.map (cast h') (x:List (den t)):List (den u)):=tB h' h x;rw[e];show [TV.ow (List.map (enc u) (List.map (cast h') (x:List (den t))))]=[TV.ow ((List.map (enc t) (x:List (den t))).map λel=>el.modify o λt=>bJ t os)];rw[List.map_map,List.map_map];congr 2;exact List.map_congr_left λy _=>ih o os u h' y h1
 | nilr ow=>
  intro o os t' h x hs
  have hl:(enc (.nilr ow) x).length<=1:=by rw[bZ];exact Nat.le_refl _
  cases o with
  | succ o=>
   rw[kA _ hl];simp only[shT,oSJ] at hs;subst hs;rfl
  | zero=>
   cases os with
   | nil=>
    rw[<- kz _ hl];simp only[shT,oSJ] at hs;subst hs;exact oU _ h x
   | cons o os=>simp only[shT,oSJ] at hs;subst hs;cases ow<;>rfl
 | _=>
  intro o os t' h x hs
  cases o with
  | succ o=>
   rw[kA _ (by rw[bZ];simp[dZ])];simp only[shT,oSJ] at hs;subst hs;rfl
  | zero=>
   cases os with
   | nil=>
    rw[<- kz _ (by rw[bZ];simp[dZ])];simp only[shT,oSJ] at hs;subst hs;exact oU _ h x
   | cons o os=>simp only[shT,oSJ] at hs;subst hs;rfl
theorem lY{x y:XV den}{os:List Nat}(h:X.shareX aV x os=some y):er y=bJ (er x) os:=by
 unfold X.shareX at h;split at h
 ·rename_i t xs;split at h
  ·rename_i t' hs;split at h
   ·rename_i WI
    injection h with h
    subst h;have:=xi t 0 os t' (cL WI) xs hs;show er1 t' (cast (cL WI) xs)=bJ (er1 t xs) os
    cases ht:X.oneT t with
    | true=>
     have Zi:X.oneT t'=true:=by cases t<;>simp[X.oneT] at ht<;>cases t'<;>simp[dX] at WI<;>rfl
     rw[js ht,js Zi] at this;simpa using this
    | false=>
     cases t<;>simp[X.oneT] at ht<;>cases t'<;>simp[dX] at WI<;>cases os<;>rfl
   ·simp at h
  ·simp at h
 ·simp at h
theorem w5{Y:Type}:∀{hs:List (den .nat×Nat×Nat)}{tv:XV den}{k:XV den->Option Y}{o:Y},X.getX aV tv hs k=some o->∃v,bh (er tv) hs=some (er v)/\k v=some o:=by
 intro hs
 induction hs with
 | nil=>intro tv k o h;exact⟨tv,rfl,h⟩
 | cons h1 hs ih=>
  intro tv k o h;obtain⟨i,sz,off⟩:=h1;unfold X.getX at h;split at h
  ·rename_i SH;cases SH
  ·rename_i t xs i' sz' o' hs' SH
   injection SH with e1 e2
   injection e1 with e3 e4
   injection e4 with e4 e5
   subst e3;subst e4;subst e5;subst e2;split at h
   ·rename_i hsz;obtain⟨e,he,h2⟩:=aZ (show (cT xs i).bind _=some o from h);split at h2
    ·rename_i v hv;obtain⟨w,hw,hk⟩:=ih h2;refine⟨w,?_,hk⟩
     have h3:(List.map (enc t) xs)[i]?=some (enc t e):=by
      have:xs[i]?=some e:=he;rw[List.getElem?_map,this];rfl
     show (match (List.map (enc t) xs)[i]? with | some el=>if el.length=sz then (match el[off]? with | some t=>bh t hs | none=>none) else none | none=>none)=_;rw[h3];simp only[bZ,hsz,if_true,jy hv];exact hw
    ·cases h2
   ·cases h
  ·cases h
theorem oh{G:(u:CT)->Option (den u->den u)}{φ:TV->TV}(hG:∀u h,G u=some h->X.oneT u=true->∀x,er1 u (h x)=φ (er1 u x)):∀{t:CT}{o:Nat}{g:den t->den t},X.setD aV t o G=some g->∀x,enc t (g x)=(enc t x).modify o φ:=by
 intro t
 induction t with
 | pair a b Zn Zh=>
  intro o g h x;simp only[X.setD] at h;show _=(enc a x.1++enc b x.2).modify o φ;split at h
  ·rename_i ho;obtain⟨f,h1,rfl⟩:=cU h;show enc a (f x.1)++enc b x.2=_;rw[Zn h1,sR _ _ _ (by rw[bZ];exact ho)]
  ·rename_i ho;obtain⟨f,h1,rfl⟩:=cU h;show enc a x.1++enc b (f x.2)=_;rw[Zh h1,pQ _ _ _ (by rw[bZ];omega),bZ]
 | nat=>intro o g h;simp[X.setD] at h
 | _=>
  intro o g h x
  cases o with
  | succ o=>simp[X.setD] at h
  | zero=>
   simp only[X.setD] at h;have h1:=hG _ g h rfl x;refine (js rfl (g x)).trans ?_;rw[h1];exact (congrArg (λl=>List.modify l 0 φ) (js rfl x)).symm
theorem xB{v:XV den}{u:CT}{f:den u->den u}(h:X.asF aV v u=some f) (x:den u):er1 u (f x)=er v:=by
 unfold X.asF at h;split at h
 ·obtain⟨y,h1,rfl⟩:=cU h;exact tD h1
 ·simp at h
theorem ra:∀{hs:List (den .nat×Nat×Nat)}{v:XV den}{u:CT}{f:den u->den u},X.setH aV hs v u=some f->∀x,er1 u (f x)=cw (er1 u x) hs (er v):=by
 intro hs
 induction hs with
 | nil=>intro v u f h x;exact xB h x
 | cons h1 hs ih=>
  intro v u f h x;obtain⟨i,sz,o⟩:=h1
  cases u with
  | row ow t=>cases ow with
   | false=>simp[X.setH] at h
   | true=>
    simp only[X.setH] at h;split at h
    ·rename_i hsz;obtain⟨g,hg,rfl⟩:=cU h;have:=oh (φ:=λt1=>cw t1 hs (er v)) (λu h hu _ x=>ih hu x) hg;show TV.ow (List.map (enc t) (List.modify (x:List (den t)) i g))=TV.ow ((List.map (enc t) x).modify i λel=>el.modify o λt1=>cw t1 hs (er v));congr 1;apply List.ext_getElem?;intro j;simp only[List.getElem?_map,List.getElem?_modify];by_cases hij:i=j
     ·simp only[hij,if_true]
      cases (x:List (den t))[j]? with
      | none=>rfl
      | some e=>exact congrArg some (this e)
     ·simp only[hij,if_false];simp
    ·simp at h
  | _=>simp[X.setH] at h
theorem AC{tv v w:XV den}{hs:List (den .nat×Nat×Nat)}(h:X.setX aV tv hs v=some w):er w=cw (er tv) hs (er v):=by
 unfold X.setX at h;split at h
 ·injection h with h;subst h;rfl
 ·obtain⟨f,h1,rfl⟩:=cU h;exact ra h1 _
 ·simp at h
theorem lO{α β:Type}(l:List (Nat×α)) (f:α->β) (i:Nat):bl (l.map λx=>(x.1,f x.2)) i=(bl l i).map f:=by
 induction l with
 | nil=>rfl
 | cons x r ih=>simp[bl];split<;>simp_all
theorem i3{α β:Type}(l:List (Nat×α)) (f:α->β) (i:Nat) (v:α):cj (l.map λx=>(x.1,f x.2)) i (f v)=(cj l i v).map λx=>(x.1,f x.2):=by
 induction l with
 | nil=>rfl
 | cons x r ih=>
  simp[cj];split
  ·simp
  ·simp_all
theorem ze(σ:XS den) (i:Nat):(erS σ).t i=er (X.tOf σ i):=by
 unfold St.t X.tOf erS;simp[lO];cases bl σ.tm i<;>rfl
theorem nd(σ:XS den) (r o:Nat):(erS σ).c r o=er (X.cOf σ r o):=by
 unfold St.c X.cOf erS erC;simp[lO]
 cases bl σ.ce r with
 | none=>rfl
 | some l=>exact (lJ l o).symm
theorem nQ(σ:XS den) (r:Nat):bl (erS σ).ce r=(bl σ.ce r).map erL:=lO _ _ _
structure gf (σ σ':XS den) (f:i5):Prop where
 r:∀x∈f.1,x∈σ'.lg.1
 w:∀x∈f.2,x∈σ'.lg.2
 r0:∀x∈σ.lg.1,x∈σ'.lg.1
 w0:∀x∈σ.lg.2,x∈σ'.lg.2
theorem gf.refl(σ:XS den):gf σ σ ([],[]):=⟨λx h=>by simp at h,λx h=>by simp at h,λ_ h=>h,λ_ h=>h⟩
theorem gf.by{σ σ':XS den}{f:i5}(R W:List Loc) (e1:σ'.lg.1=R++σ.lg.1) (e2:σ'.lg.2=W++σ.lg.2) (h1:f.1=R) (h2:f.2=W):gf σ σ' f:=
 ⟨λx h=>by simp_all,λx h=>by simp_all,λx h=>by simp_all,λx h=>by simp_all⟩
def Sim{α β Y:Type}(m:XM den Option Y α) (s:SP β) (f:α->β):Prop:=
 ∀(σ:XS den) (k:α->XS den->Option Y) (o:Y),m σ k=some o->∃a σ',s.run (erS σ)=some (f a,erS σ')/\gf σ σ' (s.foot (erS σ))/\k a σ'=some o
theorem bm{α β:Type}(s:SP α) (g:α->SP β):∀{σ σ1:St}{a:α},s.run σ=some (a,σ1)->(s.bind g).foot σ=((s.foot σ).1++((g a).foot σ1).1,(s.foot σ).2++((g a).foot σ1).2):=by
 induction s with
 | ret a=>intro σ σ1 b h;obtain⟨rfl,rfl⟩:=h;simp[SP.bind,SP.foot]
 | fail=>intro σ σ1 b h;simp[SP.run] at h
 | rdT i k ih=>intro σ σ1 b h;simp only[SP.bind,SP.foot];rw[ih _ h];simp
 | rdC r o k ih=>intro σ σ1 b h;simp only[SP.bind,SP.foot];rw[ih _ h];simp
 | rdH r o k ih=>intro σ σ1 b h;simp only[SP.bind,SP.foot];rw[ih _ h];simp
 | rdV q k ih=>intro σ σ1 b h;simp only[SP.bind,SP.foot];rw[ih _ h];simp
 | wrT i t k ih=>intro σ σ1 b h;simp only[SP.bind,SP.foot];rw[ih h];simp
 | wrC r o t k ih=>
  intro σ σ1 b h;obtain⟨l,hl,ho,h2⟩:=bj h;simp only[SP.bind,SP.foot,hl,ho,if_true];rw[ih h2];simp
 | new r l k ih=>intro σ σ1 b h;simp only[SP.bind,SP.foot];rw[ih h];simp
 | bump q k ih=>intro σ σ1 b h;simp[SP.bind,SP.foot];rw[ih h];simp
section
variable {α β γ δ Y:Type}
theorem Sim.ret{a:α}{b:β}{f:α->β}(h:f a=b):Sim (Y:=Y) (X.ret a) (.ret b) f:=fun σ k o hk=>⟨a,σ,by rw[h];rfl,gf.refl σ,hk⟩
theorem Sim.fail{s:SP β}{f:α->β}:Sim (Y:=Y) (X.fail aV) s f:=fun σ k o hk=>by cases hk
theorem Sim.bind{m:XM den Option Y α}{s:SP β}{f:α->β}{g:α->XM den Option Y γ}{h:β->SP δ}{f':γ->δ}(h1:Sim m s f) (h2:∀a,Sim (g a) (h (f a)) f'):Sim (X.bind m g) (s.bind h) f':=by
 intro σ k o hk;have ⟨a,σ1,r1,n1,k1⟩:=h1 σ _ o hk;have ⟨c,σ2,r2,n2,k2⟩:=h2 a σ1 k o k1;refine⟨c,σ2,by rw[SP.run_bind,r1];exact r2,?_,k2⟩;rw[bm s h r1];refine⟨λx hx=>?_,λx hx=>?_,λx hx=>n2.r0 x (n1.r0 x hx),λx hx=>n2.w0 x (n1.w0 x hx)⟩
 ·rcases List.mem_append.1 hx with hx | hx
  ·exact n2.r0 x (n1.r x hx)
  ·exact n2.r x hx
 ·rcases List.mem_append.1 hx with hx | hx
  ·exact n2.w0 x (n1.w x hx)
  ·exact n2.w x hx
theorem Sim.map{m:XM den Option Y α}{s:SP β}{f f':α->β}(h:Sim m s f) (e:∀a,f a=f' a):Sim m s f':=by
 have:=funext e
 simp_all
theorem Sim.opt{o:Option α}{g:α->XM den Option Y γ}{s:SP δ}{f:γ->δ}(h:∀a,o=some a->Sim (g a) s f):Sim (X.bind (X.optM aV o) g) s f:=by
 intro σ k y hk
 cases o with
 | none=>cases hk
 | some a=>exact h a rfl σ k y hk
theorem Sim.br{c:Bool}{m:XM den Option Y α}{s:SP β}{f:α->β}(h:c=true->Sim m s f):Sim (X.brM aV c m) s f:=by
 intro σ k y hk
 cases c with
 | false=>cases hk
 | true=>exact h rfl σ k y hk
theorem Sim.get{ow:Bool}{t:CT}{xs:List (den t)}{i:Nat}{g:den t->XM den Option Y γ}{s:SP δ}{f:γ->δ}(h:∀e,xs[i]?=some e->Sim (g e) s f):Sim (X.atM aV ow t xs i g) s f:=by
 intro σ k y hk;have ⟨e,h1,h2⟩:=aZ (show (cT xs i).bind _=some y from hk);exact h e h1 σ k y h2
theorem Sim.nat{kd:IntKind}{n:Int}{g:Nat->XM den Option Y γ}{s:SP δ}{f:γ->δ}(h:∀m:Nat,n=m->Sim (g m) s f):Sim (X.natM aV kd n g) s f:=by
 intro σ k y hk;have ⟨e,h1,h2⟩:=aZ (show (eO n).bind _=some y from hk);refine h e ?_ σ k y h2
 cases n with
 | ofNat m=>simp[eO] at h1;rw[h1];rfl
 | negSucc m=>simp[eO] at h1
theorem Sim.ite{c:Prop} [Decidable c] {m m':XM den Option Y α}{s:SP β}{f:α->β}(h:c->Sim m s f) (h':¬ c->Sim m' s f):Sim (if c then m else m') s f:=by
 grind
theorem pU{Y:Type}:∀(l:List (XV den)) (k:List (XV den)->Option Y),X.letL aV l k=k l:=by
 intro l
 induction l with
 | nil=>intro k;rfl
 | cons x r ih=>
  intro k
  cases x<;>first | exact ih _ | (simp;exact ih _)
theorem iv{Y:Type}(t:XV den) (k:XV den->Option Y):X.letX aV t k=k t:=by
 cases t with
 | agg l=>exact pU l _
 | _=>rfl
theorem vl(i:Nat):Sim (Y:=Y) (X.rdT i) (.rdT i .ret) er:=fun σ k o hk=>⟨X.tOf σ i,X.lgR (.t i) σ,by simp only[SP.run];rw[ze];rfl,.by [.t i] [] rfl rfl rfl rfl,hk⟩
theorem vn(r o:Nat):Sim (Y:=Y) (X.rdC r o) (.rdC r o .ret) er:=fun σ k y hk=>⟨X.cOf σ r o,X.lgR (.c r o) σ,by simp only[SP.run];rw[nd];rfl,.by [.c r o] [] rfl rfl rfl rfl,hk⟩
theorem vk(q:Key):Sim (Y:=Y) (X.rdV q) (.rdV q .ret) id:=fun σ k o hk=>⟨jl σ.vr q,X.lgR (.v q) σ,rfl,.by [.v q] [] rfl rfl rfl rfl,hk⟩
theorem oe(i:Nat) (t:XV den):Sim (Y:=Y) (X.wrT aV i t) (.wrT i (er t) (.ret ())) id:=fun σ k o hk=>by
 unfold X.wrT at hk;rw[iv] at hk;refine⟨(),⟨cj σ.tm i t,σ.ce,σ.vr,(σ.lg.1,.t i :: σ.lg.2)⟩,?_,.by [] [.t i] rfl rfl rfl rfl,hk⟩;simp[SP.run,erS];rw[i3]
theorem vm(r o:Nat):Sim (Y:=Y) (X.rdK r o) (.rdH r o .ret) λv=>(er v).hd:=fun σ k y hk=>⟨X.cOf σ r o,X.lgR (.h r o) σ,by simp only[SP.run];rw[nd];rfl,.by [.h r o] [] rfl rfl rfl rfl,hk⟩
theorem AX{r o:Nat}{t t':TV}{x:Loc}(h:x∈hdW r o t t'):x=.h r o:=by
 unfold hdW at h
 simp_all
def eT{α β Y:Type}(σ:XS den) (m:XM den Option Y α) (s:SP β) (f:α->β):Prop:=
 ∀(k:α->XS den->Option Y) (o:Y),m σ k=some o->∃a σ',s.run (erS σ)=some (f a,erS σ')/\gf σ σ' (s.foot (erS σ))/\k a σ'=some o
theorem eT.bind{σ:XS den}{m:XM den Option Y α}{s:SP β}{f:α->β}{g:α->XM den Option Y γ}{h:β->SP δ}{f':γ->δ}(h1:eT σ m s f) (h2:∀a,Sim (g a) (h (f a)) f'):eT σ (X.bind m g) (s.bind h) f':=by
 intro k o hk;have ⟨a,σ1,r1,n1,k1⟩:=h1 _ o hk;have ⟨c,σ2,r2,n2,k2⟩:=h2 a σ1 k o k1;refine⟨c,σ2,by rw[SP.run_bind,r1];exact r2,?_,k2⟩;rw[bm s h r1];refine⟨λx hx=>?_,λx hx=>?_,λx hx=>n2.r0 x (n1.r0 x hx),λx hx=>n2.w0 x (n1.w0 x hx)⟩
 ·rcases List.mem_append.1 hx with hx | hx
  ·exact n2.r0 x (n1.r x hx)
  ·exact n2.r x hx
 ·rcases List.mem_append.1 hx with hx | hx
  ·exact n2.w0 x (n1.w x hx)
  ·exact n2.w x hx
theorem eT.opt{σ:XS den}{o:Option α}{g:α->XM den Option Y γ}{s:SP δ}{f:γ->δ}(h:∀a,o=some a->eT σ (g a) s f):eT σ (X.bind (X.optM aV o) g) s f:=by
 intro k y hk
 cases o with
 | none=>cases hk
 | some a=>exact h a rfl k y hk
theorem pn{r o:Nat}{g:XV den->XM den Option Y γ}{h:TV->SP δ}{f:γ->δ}(H:∀ σ tv,(erS σ).c r o=er tv->eT σ (g tv) (h (er tv)) f):Sim (X.bind (X.rdC r o) g) (.rdC r o h) f:=by
 intro σ k y hk;have ⟨a,σ',h1,h2,h3⟩:=H (X.lgR (.c r o) σ) (X.cOf σ r o) (nd σ r o) k y hk;refine⟨a,σ',by simp[SP.run];rw[nd];exact h1,⟨λx hx=>?_,λx hx=>?_,λx hx=>h2.r0 x (by simp[X.lgR,hx]),λx hx=>h2.w0 x hx⟩,h3⟩
 ·simp[SP.foot] at hx;rcases hx with rfl | hx
  ·exact h2.r0 _ (by simp[X.lgR])
  ·rw[nd] at hx;exact h2.r x hx
 ·simp[SP.foot] at hx;rw[nd] at hx;exact h2.w x hx
theorem eT.wrI{σ:XS den}{r o:Nat}{t:XV den}(hh:(er t).hd=((erS σ).c r o).hd):eT (Y:=Y) σ (X.wrI aV r o t) (.wrC r o (er t) (.ret ())) id:=λk y hk=>by
 unfold X.wrI at hk;split at hk
 ·rename_i l hl;split at hk
  ·rename_i ho;rw[iv] at hk
   have YE:bl (erS σ).ce r=some (erL l):=by rw[nQ,hl];rfl
   have Zp:o < (erL l).length:=by rw[b9];exact ho
   refine⟨(),⟨σ.tm,cj σ.ce r (l.set o t),σ.vr,(.n r :: .h r o :: σ.lg.1,.c r o :: σ.lg.2)⟩,?_,.by [.n r,.h r o] [.c r o] rfl rfl (by simp[SP.foot,YE,Zp]) (by simp[SP.foot,YE,Zp,if_true,hdW,oIP hh]),hk⟩;simp[SP.run,YE,Zp,if_true,id_eq];unfold erS erC;rw[<- mA,i3]
  ·cases hk
 ·cases hk
theorem vf(r o:Nat) (t:XV den):Sim (Y:=Y) (X.wrC aV r o t) (.wrC r o (er t) (.ret ())) id:=fun σ k y hk=>by
 unfold X.wrC at hk;split at hk
 ·rename_i l hl;split at hk
  ·rename_i ho;rw[iv] at hk
   have YE:bl (erS σ).ce r=some (erL l):=by rw[nQ,hl];rfl
   have Zp:o < (erL l).length:=by rw[b9];exact ho
   refine⟨(),⟨σ.tm,cj σ.ce r (l.set o t),σ.vr,(.n r :: .h r o :: σ.lg.1,.c r o :: .h r o :: σ.lg.2)⟩,?_,⟨λx hx=>?_,λx hx=>?_,λx hx=>by simp[hx],λx hx=>by simp[hx]⟩,hk⟩
   rotate_left
   ·simp only[SP.foot,YE,Zp,if_true,List.mem_cons,List.not_mem_nil,or_false] at hx
    rcases hx with rfl | rfl<;>simp
   ·simp[SP.foot,YE,Zp,if_true,List.mem_cons,List.mem_append,List.not_mem_nil,or_false] at hx;rcases hx with rfl | hx
    ·simp
    ·simp[AX hx]
   simp[SP.run,YE,Zp,if_true,id_eq];unfold erS erC;rw[<- mA,i3]
  ·cases hk
 ·cases hk
theorem Aj(r:Nat) (l:List (XV den)):Sim (Y:=Y) (X.new aV r l) (.new r (erL l) (.ret ())) id:=fun σ k y hk=>by
 unfold X.new at hk;rw[pU] at hk;refine⟨(),⟨σ.tm,cj σ.ce r l,hZ σ.vr (r,0,0),(.v (r,0,0) :: σ.lg.1,.n r :: .v (r,0,0) :: σ.lg.2)⟩,?_,.by [.v (r,0,0)] [.n r,.v (r,0,0)] rfl rfl rfl rfl,hk⟩;simp[SP.run,erS,erC];rw[i3]
theorem sH(q:Key):Sim (Y:=Y) (X.bump q) (.bump q (.ret ())) id:=fun σ k y hk=>⟨(),⟨σ.tm,σ.ce,hZ σ.vr q,(.v q :: σ.lg.1,.v q :: σ.lg.2)⟩,rfl,.by [.v q] [.v q] rfl rfl rfl rfl,hk⟩
theorem lN(x:Value):er (X.cellX aV x)=b7 x:=by
 unfold X.cellX;split
 ·rfl
 ·rfl
 ·rfl
 ·rfl
 ·rename_i h1 h2 h3 h4
  have:b7 x=if cO x then .v x else .dead:=by
   unfold b7
   simp_all
  rw[this];split<;>rfl
theorem xn(x:Value):er (X.constX aV x)=kx x:=by
 unfold X.constX;split
 ·simp[er,dW];congr 1;exact List.map_congr_left λy _=>lN y
 ·rename_i h;rw[lN];unfold kx
  simp_all
theorem ko(x:Opd):Sim (Y:=Y) (X.opd aV x) (opd x) er:=by
 cases x with
 | t i=>exact vl i
 | c x=>exact .ret (xn x)
 | f f=>exact .ret rfl
theorem lz:∀qs:List Key,Sim (Y:=Y) (X.rdVs qs) (rdVs qs) id:=by
 intro qs
 induction qs with
 | nil=>exact .ret rfl
 | cons q qs ih=>exact (vk q).bind λn=>ih.bind λl=>.ret rfl
theorem cl(p:XP den) (n:Nat) (vs:List Nat):Sim (Y:=Y) (X.chk aV p n vs) (chk (erP p) n vs) id:=by
 refine (lz _).bind λl=>?_;refine Sim.ite (λh=>?_) λh=>.fail;rw[oIP (by exact h)];exact .ret rfl
theorem rM(p:XP den) (n:Nat):erP (X.addP p n)=(erP p).add n:=by
 unfold X.addP ba.add erP
 cases h:List.reverse p.hops with
 | nil=>rfl
 | cons x r=>rfl
theorem oT(p:XP den) (n:Nat):X.fitsP p n=(erP p).fits n:=by
 unfold X.fitsP ba.fits erP
 grind
theorem lA{tv:XV den}{hs:List (den .nat×Nat×Nat)}{g:XV den->XM den Option Y γ}{s:SP δ}{f:γ->δ}(h:∀v,bh (er tv) hs=some (er v)->Sim (g v) s f):Sim (X.getM aV tv hs g) s f:=by
 intro σ k y hk;have ⟨v,h1,h2⟩:=w5 hk;exact h v h1 σ k y h2
theorem eT.getX{σ:XS den}{tv:XV den}{hs:List (den .nat×Nat×Nat)}{g:XV den->XM den Option Y γ}{s:SP δ}{f:γ->δ}(h:∀v,bh (er tv) hs=some (er v)->eT σ (g v) s f):eT σ (X.getM aV tv hs g) s f:=by
 intro k y hk;have ⟨v,h1,h2⟩:=w5 hk;exact h v h1 k y h2
theorem eT.ite{σ:XS den}{c:Prop} [Decidable c] {m m':XM den Option Y α}{s:SP β}{f:α->β}(h:c->eT σ m s f) (h':¬ c->eT σ m' s f):eT σ (if c then m else m') s f:=by
 grind
theorem dS(p:XP den):Sim (Y:=Y) (X.getPl aV p) (getPl (erP p)) er:=by
 refine (vn p.root p.off).bind λtv=>?_;refine lA λv hv=>?_;show Sim _ (match bh (er tv) p.hops with | some t=>.ret t | none=>.fail) er;have:=hv;rw[this];exact .ret rfl
theorem sB(p:XP den):Sim (Y:=Y) (X.hdPl aV p) (AY (erP p)) λv=>(er v).hd:=by
 have ⟨r,o,hs⟩:=p
 cases hs with
 | nil=>exact vm r o
 | cons h hs=>
  intro σ k y hk;have ⟨a,σ',h1,h2,h3⟩:=dS ⟨r,o,h :: hs⟩ σ k y hk;refine⟨a,σ',?_,?_,h3⟩
  ·show ((getPl (erP ⟨r,o,h :: hs⟩)).bind λt=>.ret t.hd).run (erS σ)=_;rw[SP.run_bind,h1];rfl
  ·show gf σ σ' (((getPl (erP ⟨r,o,h :: hs⟩)).bind λt=>.ret t.hd).foot (erS σ));rw[bm _ _ h1];simpa [SP.foot] using h2
end
section
variable {α β γ δ Y:Type}
theorem Sim.rdT{i:Nat}{g:XV den->XM den Option Y γ}{h:TV->SP δ}{f:γ->δ}(H:∀t,Sim (g t) (h (er t)) f):Sim (X.bind (X.rdT i) g) (.rdT i h) f:=(vl i).bind H
theorem Sim.rdC{r o:Nat}{g:XV den->XM den Option Y γ}{h:TV->SP δ}{f:γ->δ}(H:∀t,Sim (g t) (h (er t)) f):Sim (X.bind (X.rdC r o) g) (.rdC r o h) f:=(vn r o).bind H
theorem Sim.rdK{r o:Nat}{g:XV den->XM den Option Y γ}{h:Option (List Nat)->SP δ}{f:γ->δ}(H:∀t,Sim (g t) (h (er t).hd) f):Sim (X.bind (X.rdK r o) g) (.rdH r o h) f:=(vm r o).bind H
theorem Sim.rdV{q:Key}{g:Nat->XM den Option Y γ}{h:Nat->SP δ}{f:γ->δ}(H:∀t,Sim (g t) (h t) f):Sim (X.bind (X.rdV q) g) (.rdV q h) f:=(vk q).bind H
theorem Sim.wrT{i:Nat}{t:XV den}{t':TV}{g:Unit->XM den Option Y γ}{h:SP δ}{f:γ->δ}(e:er t=t') (H:Sim (g ()) h f):Sim (X.bind (X.wrT aV i t) g) (.wrT i t' h) f:=by subst e;exact (oe i t).bind (h:=λ_=>h) λ_=>H
theorem Sim.wrC{r o:Nat}{t:XV den}{t':TV}{g:Unit->XM den Option Y γ}{h:SP δ}{f:γ->δ}(e:er t=t') (H:Sim (g ()) h f):Sim (X.bind (X.wrC aV r o t) g) (.wrC r o t' h) f:=by subst e;exact (vf r o t).bind (h:=λ_=>h) λ_=>H
theorem Sim.new{r:Nat}{l:List (XV den)}{l':List TV}{g:Unit->XM den Option Y γ}{h:SP δ}{f:γ->δ}(e:erL l=l') (H:Sim (g ()) h f):Sim (X.bind (X.new aV r l) g) (.new r l' h) f:=by subst e;exact (Aj r l).bind (h:=λ_=>h) λ_=>H
theorem Sim.bump{q:Key}{g:Unit->XM den Option Y γ}{h:SP δ}{f:γ->δ}(H:Sim (g ()) h f):Sim (X.bind (X.bump q) g) (.bump q h) f:=(sH q).bind (h:=λ_=>h) λ_=>H
theorem wY{α:Type}(c:List (List α)) (i o:Nat) (f:α->α):(c.modify i λel=>el.modify o f).map List.length=c.map List.length:=by
 apply List.ext_getElem?;intro j;by_cases h:i=j
 ·simp[h];cases c[j]?<;>simp
 ·simp[h]
theorem mn{tv:TV}{hs:List Hop}{t:TV}(h:hs≠[]):(cw tv hs t).hd=tv.hd:=by
 cases hs with
 | nil=>simp_all
 | cons x hs=>
  cases tv with
  | ow c=>simp[cw,TV.hd,wY]
  | _=>rfl
theorem wX{tv:TV}{os:List Nat}(h:os≠[]):(bJ tv os).hd=tv.hd:=by
 cases os with
 | nil=>simp_all
 | cons o os=>
  cases tv with
  | ow c=>
   simp only[bJ,TV.hd]
   simp_all
  | _=>rfl
theorem s7{r o:Nat}{tv:TV}{hs:List Hop}{t:TV}(h:hs≠[]):hdW r o tv (cw tv hs t)=[]:=by unfold hdW;rw[oIP (mn h)]
theorem AW{x:XV den}(h:X.isOwX x=false) (h2:fL (er x)=X.isOwX x):(er x).hd=none:=by
 rw[h] at h2
 cases hx:er x<;>first | rfl | (rw[hx] at h2;simp[fL] at h2)
theorem jR(x:XV den):fL (er x)=X.isOwX x:=by
 cases x with
 | d t y=>cases t with
  | row o t=>cases o<;>rfl
  | nilr o=>cases o<;>rfl
  | _=>rfl
 | _=>rfl
theorem jS(x:XV den):jT (er x)=X.isHdrX x:=by
 cases x with
 | d t y=>cases t with
  | row o t=>cases o<;>rfl
  | nilr o=>cases o<;>rfl
  | _=>rfl
 | _=>rfl
theorem uk{x:XV den}(h:X.okCellX x=true):bL (er x)=true:=by
 cases x with
 | d t y=>cases t with
  | row o t=>cases o<;>first | rfl | simp[X.okCellX] at h
  | nilr o=>cases o<;>rfl
  | nat=>simp[X.okCellX] at h
  | pair a b=>simp[X.okCellX] at h
  | _=>rfl
 | k y=>rfl
 | _=>simp[X.okCellX] at h
theorem gr{x:XV den}(h:X.okCellX x=true) (h2:X.isOwX x=false):(∃y,er x=.v y)\/∃c,er x=.sl c:=by
 cases x with
 | d t y=>cases t with
  | int k=>exact .inl ⟨_,rfl⟩
  | bool=>exact .inl ⟨_,rfl⟩
  | str=>exact .inl ⟨_,rfl⟩
  | row o t=>cases o<;>first | exact .inr ⟨_,rfl⟩ | simp[X.okCellX] at h
  | nilr o=>cases o<;>first | exact .inr ⟨_,rfl⟩ | simp[X.isOwX,X.isOwT] at h2
  | nat=>simp[X.okCellX] at h
  | pair a b=>simp[X.okCellX] at h
 | k y=>exact .inl ⟨_,rfl⟩
 | _=>simp[X.okCellX] at h
theorem sZ{x:XV den}(h:X.immCX x=true):ry (er x)=true:=by
 have ZZ:(X.okCellX x && !X.isOwX x)=true->ry (er x)=true:=λh=>by
  simp at h;rcases gr h.1 h.2 with ⟨y,hy⟩ | ⟨c,hc⟩
  ·rw[hy];rfl
  ·rw[hc];rfl
 cases x with
 | ip cs=>rfl
 | _=>exact ZZ h
theorem oH{l:List (XV den)}(h:l.all X.immCX=true):(erL l).all ry=true:=by
 rw[dW,List.all_map,List.all_eq_true];rw[List.all_eq_true] at h;exact λx hx=>sZ (h x hx)
theorem yQ{x:XV den}(h:X.immFX x=true):yR (er x)=true:=by
 have ZZ:∀t:TV,ry t=true->yR t=true:=λt h=>by
  cases t with
  | fn f l=>simp[ry] at h
  | _=>exact h
 cases x with
 | fn f l=>exact oH h
 | _=>exact ZZ _ (sZ h)
theorem AU{x:XV den}(h:X.isNA x=true):¬ yR (er x)=true:=by
 cases x with
 | agg l=>simp[er,yR,ry]
 | pk p vs=>simp[er,yR,ry]
 | _=>simp[X.isNA] at h
theorem fT{v:XV den}(h:X.isOwX v=true):∃c,er v=.ow c:=by
 rw[<- jR] at h;cases hv:er v<;>rw[hv] at h<;>simp[fL] at h
 simp_all
theorem A7{p:XP den}(h:XP.bare p=true):(erP p).hops=[]:=by
 have ⟨r,o,hs⟩:=p
 cases hs with
 | nil=>rfl
 | cons=>simp[XP.bare] at h
theorem z6{lo n:Nat}{v w:XV den}(h:X.winX aV lo n v=some w):∃c,er v=.ow c/\er w=.sl (((c.drop lo).take n).map λe=>e.map TV.imm):=by
 unfold X.winX at h;split at h
 ·rename_i t xs;split at h
  ·rename_i t' ys hi
   injection h with h
   subst h;refine⟨_,rfl,?_⟩;have h1:=ml hi;have h2:TV.sl (List.map (enc t') (ys:List (den t')))=(TV.ow (List.map (enc t) (xs:List (den t)))).imm:=h1;rw[fM] at h2;show TV.sl (List.map (enc t') ((List.drop lo (ys:List (den t'))).take n))=_
   simp_all
  ·simp at h
 ·injection h with h;subst h;exact⟨[],rfl,by simp[er,er1]⟩
 ·simp at h
theorem A0{tv w:XV den}{hs:List (den .nat×Nat×Nat)}(h:X.gapX tv hs=some w):er w=cw (er tv) hs .dead:=by
 unfold X.gapX at h;split at h
 ·injection h with h
  subst h;rfl
 ·simp at h
theorem cI(mv:Bool) (x:XV den):Sim (Y:=Y) (X.take1 aV mv x) (take1 mv (er x)) er:=by
 cases x with
 | d t y=>cases t with
  | int k=>exact .ret rfl
  | bool=>exact .ret rfl
  | str=>exact .ret rfl
  | nat=>exact .fail
  | row o t=>cases o<;>first | exact .fail | exact .ret rfl
  | nilr o=>cases o<;>cases mv<;>exact .ret rfl
  | pair a b=>exact .fail
 | k y=>exact .ret rfl
 | pk p vs=>
  refine (cl p _ vs).bind λ_=>pn fun σ tv hσ=>eT.getX λv hv=>?_;refine eT.ite (λho=>?_) λ_=>Sim.fail σ;obtain⟨c,hc⟩:=fT ho
  have YZ:bh (er tv) (erP p).hops=some (.ow c):=by rw[<- hc];exact hv
  simp only[YZ]
  cases mv with
  | true=>
   simp only[if_true];refine eT.ite (λhb=>?_) λhb=>?_
   ·exact (show Sim _ _ _ from Sim.wrC (by rw[A7 hb];rfl) (Sim.bump (g:=λ_=>X.ret v) (.ret hc))) σ
   ·refine eT.opt λYH h1=>?_;have h3:=A0 h1
    have hne:p.hops≠[]:=by
     obtain⟨r,o,hs⟩:=p
     cases hs with
     | nil=>simp[XP.bare] at hb
     | cons=>simp
    have:=(eT.wrI (Y:=Y) (σ:=σ) (r:=p.root) (o:=p.off) (t:=YH) (by rw[h3,hσ,mn hne])).bind (g:=λ_=>X.bind (X.bump (p.root,p.off,p.hops.length+1)) λ_=>X.ret v) (h:=λ_=>.bump (p.root,p.off,p.hops.length+1) (.ret (TV.ow c))) (f':=er) λ_=>Sim.bump (.ret hc);rw[h3] at this;exact this
  | false=>
   refine eT.opt λYH h1=>eT.opt λv' h2=>?_
   have hr:er v'=(TV.ow c).imm:=by rw[ml h2,hc]
   by_cases hb:XP.bare p=true
   ·rw[oIP hb];exact (show Sim _ _ _ from Sim.wrC (lY h1) (Sim.bump (g:=λ_=>X.ret v') (.ret hr))) σ
   ·rw[oIN hb];have h3:=lY h1
    have hne:X.hopOs p.hops≠[]:=by
     obtain⟨r,o,hs⟩:=p
     cases hs with
     | nil=>simp[XP.bare] at hb
     | cons=>simp[X.hopOs]
    have:=(eT.wrI (Y:=Y) (σ:=σ) (r:=p.root) (o:=p.off) (t:=YH) (by rw[h3,hσ,wX hne])).bind (g:=λ_=>X.bind (X.bump (p.root,p.off,p.hops.length+1)) λ_=>X.ret v') (h:=λ_=>.bump (p.root,p.off,p.hops.length+1) (.ret (TV.ow c).imm)) (f':=er) λ_=>Sim.bump (.ret hr);rw[h3] at this;exact this
 | pw p vs sz lo n=>
  refine (cl p _ vs).bind λ_=>Sim.rdC λtv=>lA λv hv=>?_;refine Sim.opt λYH h1=>Sim.opt λv' h2=>?_;obtain⟨c,hc,hw⟩:=z6 h2
  have YZ:bh (er tv) (erP p).hops=some (.ow c):=by rw[<- hc];exact hv
  simp only[YZ];exact Sim.wrC (lY h1) (Sim.bump (.ret hw))
 | _=>exact .fail
theorem gj(mv:Bool):∀l:List (XV den),Sim (Y:=Y) (X.takeL aV mv l) (takeL mv (erL l)) erL:=by
 intro l
 induction l with
 | nil=>exact .ret rfl
 | cons t r ih=>exact (cI mv t).bind λt'=>ih.bind λr'=>.ret rfl
theorem j5(t:XV den):fV (er t)=erL (X.cellsX t):=by
 cases t with
 | d t y=>cases t with
  | row o t=>cases o<;>rfl
  | nilr o=>cases o<;>rfl
  | _=>rfl
 | _=>rfl
theorem BZ{t:XV den}:(∃l,t=.agg l)\/((∀l,t≠.agg l)/\∀l,er t≠.agg l):=by
 cases t with
 | agg l=>simp_all
 | d t y=>cases t with
  | row o t=>cases o<;>exact .inr ⟨by simp,by simp[er,er1]⟩
  | nilr o=>cases o<;>exact .inr ⟨by simp,by simp[er,er1]⟩
  | _=>exact .inr ⟨by simp,by simp[er,er1]⟩
 | gap t x i o=>exact .inr ⟨by simp,λl h=>by cases h⟩
 | _=>exact .inr ⟨by simp,by simp[er]⟩
theorem ii(mv:Bool) (t:XV den):Sim (Y:=Y) (X.takeV aV mv t) (takeV mv (er t)) λx=>(erL x.1,x.2):=by
 rcases BZ (t:=t) with ⟨l,rfl⟩ | ⟨h1,h2⟩
 ·exact (gj mv l).bind λl'=>.ret rfl
 ·have e1:X.takeV (X:=Y) aV mv t=X.bind (X.take1 aV mv t) λt'=>X.ret ([t'],false):=by
   unfold X.takeV
   simp_all
  have e2:takeV mv (er t)=(take1 mv (er t)).bind λt'=>.ret ([t'],false):=by
   unfold takeV
   simp_all
  rw[e1,e2];exact (cI mv t).bind λt'=>.ret rfl
theorem ye(r:Nat):∀(l:List (XV den)) (o:Nat),Sim (Y:=Y) (X.putB aV r o l) (putL ⟨r,o,[]⟩ (erL l)) id:=by
 intro l
 induction l with
 | nil=>intro o;exact .ret rfl
 | cons t l ih=>
  intro o
  have step:∀(g:Unit->XM den Option Y Unit) (s:SP Unit),Sim (g ()) s id->Sim (X.bind (X.rdC r o) λold=>X.bind (X.wrC aV r o t) λ_=>X.bind (if X.isHdrX old || X.isHdrX t then X.bump (r,o,1) else X.ret ()) g) ((mU ⟨r,o,[]⟩ (er t)).bind λ_=>s) id:=by
   intro g s hg;refine Sim.rdC λold=>?_;simp only[bh,jS];by_cases hh:(X.isHdrX old || X.isHdrX t)=true
   ·rw[oIP hh,oIP hh];exact Sim.wrC rfl (Sim.bump hg)
   ·rw[oIN hh,oIN hh];exact Sim.wrC rfl ((Sim.ret (a:=()) (b:=()) (f:=id) rfl).bind λ_=>hg)
  cases l with
  | nil=>exact step _ (.ret ()) (.ret rfl)
  | cons u l=>exact step _ _ (ih (o+1))
def z7(q:Key):Nat->List (Key×Nat)->List (Key×Nat)
 | 0,v=>v
 | n+1,v=>z7 q n (hZ v q)
theorem kg{α:Type}(l:List (Nat×α)) (i:Nat) (a:α):bl (cj l i a) i=some a:=by rw[bw];simp
theorem nG{t:CT}(xs:List (den t)) (i o:Nat) (f:den t->den t) (φ:TV->TV) (h:∀x,enc t (f x)=(enc t x).modify o φ):er1 (.row true t) (List.modify xs i f)=.ow ((List.map (enc t) xs).modify i λel=>el.modify o φ):=by
 show TV.ow (List.map (enc t) (List.modify xs i f))=_;congr 1;apply List.ext_getElem?;intro j;simp only[List.getElem?_map,List.getElem?_modify];by_cases hij:i=j
 ·simp
  cases xs[j]? with
  | none=>rfl
  | some e=>simp_all
 ·simp_all
theorem wW{t:CT}(e e':den t):(X.splitX aV t e).map X.isHdrX=(X.splitX aV t e').map X.isHdrX:=by
 induction t with
 | pair a b Zn Zh=>
  simp[X.splitX]
  grind
 | _=>rfl
theorem uu:∀(a a' l:List (XV den)),a.map X.isHdrX=a'.map X.isHdrX->X.hdrs a l=X.hdrs a' l:=by
 intro a
 induction a with
 | nil=>simp_all
 | cons x a ih=>
  intro a' l h
  cases a' with
  | nil=>simp at h
  | cons x' a'=>
   simp at h
   cases l with
   | nil=>rfl
   | cons b l=>simp[X.hdrs];rw[h.1,ih a' l h.2]
def wl(r off n:Nat) (f:i5):Prop:=(∀x∈f.1,x=.c r off\/(x=.n r\/x=.h r off)\/(x=.v (r,off,2)/\0 < n))/\∀x∈f.2,x=.c r off\/(x=.v (r,off,2)/\0 < n)
theorem we{r off i sz o:Nat}{t:CT}(hsz:dZ t=sz) {v old:XV den}{f:den t->den t}{xs:List (den t)}{e:den t}{σ:St}{L:List TV}(hf:X.setD aV t o (X.asF aV v)=some f) (he:xs[i]?=some e) (ZJ:yG (X.splitX aV t e) o=some old)
 (hc:σ.c r off=er1 (.row true t) xs) (hL:bl σ.ce r=some L) (ho:off < L.length) :
 (mU ⟨r,off,[(i,sz,o)]⟩ (er v)).run σ=some ((),⟨σ.tm,cj σ.ce r (L.set off (er1 (.row true t) (List.modify xs i f))),if X.isHdrX old || X.isHdrX v then hZ σ.vr (r,off,2) else σ.vr⟩) /\
 wl r off (if X.isHdrX old || X.isHdrX v then 1 else 0) ((mU ⟨r,off,[(i,sz,o)]⟩ (er v)).foot σ):=by
 have Z9:bh (er1 (.row true t) xs) [(i,sz,o)]=some (er old):=by
  have h3:(List.map (enc t) xs)[i]?=some (enc t e):=by rw[List.getElem?_map,he];rfl
  show (match (List.map (enc t) xs)[i]? with | some el=>if el.length=sz then (match el[o]? with | some t=>bh t [] | none=>none) else none | none=>none)=_;rw[h3];simp only[bZ,hsz,if_true,jy ZJ];rfl
 have hset:cw (er1 (.row true t) xs) [(i,sz,o)] (er v)=er1 (.row true t) (List.modify xs i f):=by
  rw[nG xs i o f (λ_=>er v) (oh (λu h hu _ x=>xB hu x) hf)];rfl
 have hW:hdW r off (er1 (.row true t) xs) (er1 (.row true t) (List.modify xs i f))=[]:=by rw[<- hset];exact s7 (by simp)
 unfold mU;simp only[SP.run,SP.foot,hc,Z9,jS,hset];by_cases hh:(X.isHdrX old || X.isHdrX v)=true
 ·rw[oIP hh,oIP hh,oIP hh,oIP (by simp)];simp only[SP.run,SP.foot,hL,ho,if_true,hc,hW];refine⟨rfl,λx hx=>?_,λx hx=>?_⟩
  ·simp at hx;rcases hx with h | h | h | h
   ·exact .inl h
   ·exact .inr (.inl (.inl h))
   ·simp_all
   ·simp_all
  ·simp_all
 ·rw[oIN hh,oIN hh,oIN hh];simp only[SP.run,SP.foot,hL,ho,if_true,hc,hW,List.nil_append];refine⟨by first | rfl | trivial,λx hx=>?_,λx hx=>?_⟩
  ·simp_all
  ·simp_all
theorem AN{r off i sz:Nat}{t:CT}(hsz:dZ t=sz):∀(l:List (XV den)) {o:Nat}{f:den t->den t}{xs:List (den t)}{e:den t}{σ:St}{L:List TV},X.setDs aV t o l=some f->xs[i]?=some e->o+l.length<=sz ->
 σ.c r off=er1 (.row true t) xs->bl σ.ce r=some L->off < L.length ->
 (putL ⟨r,off,[(i,sz,o)]⟩ (erL l)).run σ=some ((),⟨σ.tm,cj σ.ce r (L.set off (er1 (.row true t) (List.modify xs i f))),z7 (r,off,2) (X.hdrs ((X.splitX aV t e).drop o) l) σ.vr⟩) /\
 wl r off (X.hdrs ((X.splitX aV t e).drop o) l) ((putL ⟨r,off,[(i,sz,o)]⟩ (erL l)).foot σ):=by
 intro l
 induction l with
 | nil=>intro o f xs e σ L h;simp[X.setDs] at h
 | cons v l ih=>
  intro o f xs e σ L hf he ho hc hL Zg
  have hlen:(X.splitX aV t e).length=sz:=by rw[<- b9,jz,bZ,hsz]
  simp only[oLC] at ho
  obtain⟨old,ZJ⟩:∃old,yG (X.splitX aV t e) o=some old:=by
   rw[mc];exact⟨_,oGE (by omega)⟩
  have We:(X.splitX aV t e).drop o=old :: (X.splitX aV t e).drop (o+1):=by
   rw[mc] at ZJ
   have TS:o < (X.splitX aV t e).length:=by omega
   rw[List.drop_eq_getElem_cons TS];rw[oGE TS] at ZJ
   injection ZJ with ZJ
   rw[ZJ]
  cases l with
  | nil=>
   simp only[X.setDs] at hf;obtain⟨h1,h2⟩:=we (r:=r) (off:=off) (i:=i) hsz hf he ZJ hc hL Zg
   have e1:X.hdrs ((X.splitX aV t e).drop o) [v]=if X.isHdrX old || X.isHdrX v then 1 else 0:=by rw[We];simp[X.hdrs]
   have e2:putL ⟨r,off,[(i,sz,o)]⟩ (erL [v])=(mU ⟨r,off,[(i,sz,o)]⟩ (er v)).bind λ_=>.ret ():=rfl;refine⟨?_,?_⟩
   ·rw[e2,SP.run_bind,h1,e1];simp only[oBS,SP.run];by_cases hh:(X.isHdrX old || X.isHdrX v)=true
    ·rw[oIP hh,oIP hh];rfl
    ·rw[oIN hh,oIN hh];rfl
   ·rw[e2,bm _ _ h1,e1];simpa [SP.foot] using h2
  | cons w vs=>
   simp only[X.setDs] at hf;split at hf
   case h_2=>simp at hf
   rename_i f1 g h1 h2
   injection hf with hf
   subst hf;obtain⟨p1,p2⟩:=we (r:=r) (off:=off) (i:=i) hsz h1 he ZJ hc hL Zg
   have Uj:(List.modify xs i f1)[i]?=some (f1 e):=by simp[List.getElem?_modify,he]
   have S6:∀(vr:List (Key×Nat)),(⟨σ.tm,cj σ.ce r (L.set off (er1 (.row true t) (List.modify xs i f1))),vr⟩:St).c r off=er1 (.row true t) (List.modify xs i f1):=by
    intro vr;unfold St.c;simp only[kg];simp[Zg]
   have PF:=ih (o:=o+1) (σ:=⟨σ.tm,cj σ.ce r (L.set off (er1 (.row true t) (List.modify xs i f1))),if X.isHdrX old || X.isHdrX v then hZ σ.vr (r,off,2) else σ.vr⟩) h2 Uj (by simp only[oLC] at ho ⊢;omega) (S6 _) (kg _ _ _) (by simpa using Zg);obtain⟨q1,q2⟩:=PF
   have e2:putL ⟨r,off,[(i,sz,o)]⟩ (erL (v :: w :: vs))=(mU ⟨r,off,[(i,sz,o)]⟩ (er v)).bind λ_=>putL ⟨r,off,[(i,sz,o+1)]⟩ (erL (w :: vs)):=by
    have Zr:ba.fits ⟨r,off,[(i,sz,o)]⟩ 1=true:=by simp only[ba.fits,List.reverse_cons,List.reverse_nil,List.nil_append];simp only[oLC] at ho;simpa using (by omega:o+1 < sz)
    show (mU ⟨r,off,[(i,sz,o)]⟩ (er v)).bind (λ_=>if ba.fits ⟨r,off,[(i,sz,o)]⟩ 1 then putL ⟨r,off,[(i,sz,o+1)]⟩ (erL (w :: vs)) else .fail)=_;rw[Zr];rfl
   have e3:X.hdrs ((X.splitX aV t e).drop o) (v :: w :: vs)=(if X.isHdrX old || X.isHdrX v then 1 else 0)+X.hdrs ((X.splitX aV t (f1 e)).drop (o+1)) (w :: vs):=by
    rw[We];show _+X.hdrs ((X.splitX aV t e).drop (o+1)) (w :: vs)=_;rw[uu _ ((X.splitX aV t (f1 e)).drop (o+1)) _ (by rw[List.map_drop,List.map_drop,wW e (f1 e)])]
   have e4:List.modify (List.modify xs i f1) i g=List.modify xs i λe=>g (f1 e):=by
    apply List.ext_getElem?;intro j;simp only[List.getElem?_modify];by_cases hij:i=j
    ·simp only[hij,if_true];cases xs[j]?<;>rfl
    ·simp[hij]
   refine⟨?_,?_⟩
   ·rw[e2,SP.run_bind,p1];simp only[oBS];rw[q1,e3,mP,List.set_set,e4];congr 2;by_cases hh:(X.isHdrX old || X.isHdrX v)=true
    ·rw[oIP hh,oIP hh,Nat.add_comm 1];rfl
    ·rw[oIN hh,oIN hh,Nat.zero_add]
   ·rw[e2,bm _ _ p1,e3];refine⟨λx hx=>?_,λx hx=>?_⟩
    ·rcases List.mem_append.1 hx with hx | hx
     ·rcases p2.1 x hx with h | h | ⟨h,h'⟩
      ·exact .inl h
      ·exact .inr (.inl h)
      ·exact .inr (.inr ⟨h,by omega⟩)
     ·rcases q2.1 x hx with h | h | ⟨h,h'⟩
      ·exact .inl h
      ·exact .inr (.inl h)
      ·exact .inr (.inr ⟨h,by omega⟩)
    ·rcases List.mem_append.1 hx with hx | hx
     ·rcases p2.2 x hx with h | ⟨h,h'⟩
      ·exact .inl h
      ·exact .inr ⟨h,by omega⟩
     ·rcases q2.2 x hx with h | ⟨h,h'⟩
      ·exact .inl h
      ·exact .inr ⟨h,by omega⟩
theorem xu(q:Key):∀(n:Nat) {σ:XS den}{k:Unit->XS den->Option Y}{y:Y},X.bumps q n σ k=some y->∃ σ',erS σ'=⟨(erS σ).tm,(erS σ).ce,z7 q n σ.vr⟩/\(∀x∈σ.lg.1,x∈σ'.lg.1)/\(∀x∈σ.lg.2,x∈σ'.lg.2)/\(0 < n->Loc.v q∈σ'.lg.1/\Loc.v q∈σ'.lg.2)/\k () σ'=some y:=by
 intro n
 induction n with
 | zero=>intro σ k y h;exact⟨σ,rfl,λ_ h=>h,λ_ h=>h,λh=>by omega,h⟩
 | succ n ih=>
  intro σ k y h;have ⟨σ',h1,h2,h3,h4,h5⟩:=ih (show X.bumps q n ⟨σ.tm,σ.ce,hZ σ.vr q,(.v q :: σ.lg.1,.v q :: σ.lg.2)⟩ k=some y from h);exact⟨σ',h1,λx hx=>h2 x (by simp[hx]),λx hx=>h3 x (by simp[hx]),λ_=>⟨h2 _ (by simp),h3 _ (by simp)⟩,h5⟩
theorem t7{G G1 G2:(u:CT)->Option (den u->den u)}(hG:∀u f,G u=some f->∃f1 g,G1 u=some f1/\G2 u=some g/\∀x,f x=g (f1 x)):∀{t:CT}{o:Nat}{f:den t->den t},X.setD aV t o G=some f->∃f1 g,X.setD aV t o G1=some f1/\X.setD aV t o G2=some g/\∀x,f x=g (f1 x):=by
 intro t
 induction t with
 | pair a b Zn Zh=>
  intro o f h;simp only[X.setD] at h ⊢;by_cases ho:o < dZ a
  ·rw[oIP ho] at h;obtain⟨h1,e1,rfl⟩:=cU h;obtain⟨f1,g,e2,e3,e4⟩:=Zn e1;rw[oIP ho,oIP ho,e2,e3];exact⟨_,_,rfl,rfl,λx=>by show (h1 x.1,x.2)=(g (f1 x.1),x.2);rw[e4]⟩
  ·rw[oIN ho] at h;obtain⟨h1,e1,rfl⟩:=cU h;obtain⟨f1,g,e2,e3,e4⟩:=Zh e1;rw[oIN ho,oIN ho,e2,e3];exact⟨_,_,rfl,rfl,λx=>by show (x.1,h1 x.2)=(x.1,g (f1 x.2));rw[e4]⟩
 | nat=>intro o f h;simp[X.setD] at h
 | _=>
  intro o f h
  cases o with
  | succ o=>simp[X.setD] at h
  | zero=>
   first
    | exact hG _ f h
    | (have ⟨a,b,c,d,_⟩:=hG _ f h;exact⟨a,b,c,d,λ_=>trivial⟩)
theorem u5{t:CT}(xs:List (den t)) (i:Nat) (f1 g f:den t->den t) (h:∀x,f x=g (f1 x)):List.modify xs i f=List.modify (List.modify xs i f1) i g:=by
 apply List.ext_getElem?
 grind
theorem q9{pl:List (den .nat×Nat×Nat)}{i sz o:Nat}{v w:XV den}{vs:List (XV den)}:∀{u:CT}{f:den u->den u},X.setHs aV (pl++[(i,sz,o)]) (v :: w :: vs) u=some f->∃f1 g,X.setH aV (pl++[(i,sz,o)]) v u=some f1/\X.setHs aV (pl++[(i,sz,o+1)]) (w :: vs) u=some g/\∀x,f x=g (f1 x):=by
 induction pl with
 | nil=>
  intro u f h
  cases u with
  | row ow t=>cases ow with
   | false=>simp[X.setHs] at h
   | true=>
    simp only[List.nil_append,X.setHs,X.setH] at h ⊢;split at h
    ·rename_i hsz;obtain⟨F,h1,rfl⟩:=cU h;simp only[X.setDs] at h1;split at h1
     ·rename_i f1 g e1 e2
      injection h1 with h1
      have Po:=e1;rw[oIP hsz,oIP hsz,e2];refine⟨λxs=>List.modify xs i f1,λxs=>List.modify xs i g,?_,rfl,λx=>u5 x i f1 g F λy=>by rw[<- h1]⟩;rw[Po];rfl
     ·simp at h1
    ·simp at h
  | _=>simp[X.setHs] at h
 | cons hp pl ih=>
  intro u f h;obtain⟨i0,Y8,o0⟩:=hp
  obtain⟨q,qs,hq⟩:∃q qs,pl++[(i,sz,o)]=q :: qs:=by cases pl with | nil=>exact⟨_,_,rfl⟩ | cons a b=>exact⟨_,_,rfl⟩
  obtain⟨q',qs',RF⟩:∃q qs,pl++[(i,sz,o+1)]=q :: qs:=by cases pl with | nil=>exact⟨_,_,rfl⟩ | cons a b=>exact⟨_,_,rfl⟩
  cases u with
  | row ow t=>cases ow with
   | false=>simp only[List.cons_append,hq] at h;simp[X.setHs] at h
   | true=>
    simp only[List.cons_append,hq,RF,X.setHs,X.setH] at h ⊢;split at h
    ·rename_i hsz;obtain⟨F,h1,rfl⟩:=cU h
     obtain⟨f1,g,e1,e2,e3⟩:=t7 (G1:=X.setH aV (q :: qs) v) (G2:=X.setHs aV (q' :: qs') (w :: vs)) (λu f hf=>by
      rw[<- hq] at hf;obtain⟨a,b,c,d,e⟩:=ih hf;rw[hq] at c;rw[RF] at d
      exact⟨a,b,c,d,e⟩) h1
     rw[oIP hsz,oIP hsz,e1,e2];exact⟨_,_,rfl,rfl,λx=>u5 x i0 f1 g F e3⟩
    ·simp at h
  | _=>simp only[List.cons_append,hq] at h;simp[X.setHs] at h
theorem vO(v:XV den):∀(hs:List (den .nat×Nat×Nat)),hs≠[]->X.setHs aV hs [v]=X.setH aV hs v:=by
 intro hs
 induction hs with
 | nil=>simp_all
 | cons h1 hs ih=>
  intro _;funext u
  cases hs with
  | nil=>cases u with
   | row ow t=>cases ow with
    | true=>rfl
    | false=>rfl
   | _=>rfl
  | cons h2 hs=>cases u with
   | row ow t=>cases ow with
    | true=>
     simp[X.setHs,X.setH]
     simp_all
    | false=>rfl
   | _=>rfl
theorem uw{pl:List Hop}{i sz o j:Nat}(hj:o≠j) (v:TV):∀{t:TV},bh (cw t (pl++[(i,sz,o)]) v) (pl++[(i,sz,j)])=bh t (pl++[(i,sz,j)]):=by
 induction pl with
 | nil=>
  intro t
  cases t with
  | ow c=>
   show bh (.ow (c.modify i λel=>el.modify o λt1=>cw t1 [] v)) [(i,sz,j)]=bh (.ow c) [(i,sz,j)];simp[bh,List.getElem?_modify]
   cases hc:c[i]? with
   | none=>rfl
   | some el=>simp_all
  | _=>rfl
 | cons h pl ih=>
  intro t;obtain⟨i0,Y8,o0⟩:=h
  cases t with
  | ow c=>
   show bh (.ow (c.modify i0 λel=>el.modify o0 λt1=>cw t1 (pl++[(i,sz,o)]) v)) ((i0,Y8,o0) :: (pl++[(i,sz,j)]))=bh (.ow c) ((i0,Y8,o0) :: (pl++[(i,sz,j)]));simp[bh]
   cases hc:c[i0]? with
   | none=>rfl
   | some el=>
    simp;split
    ·cases he:el[o0]? with
     | none=>rfl
     | some t1=>exact ih
    ·rfl
  | _=>rfl
theorem wi{r off:Nat}{pl:List (den .nat×Nat×Nat)}{i sz:Nat}{u:CT}:∀(l:List (XV den)) {o:Nat}{f:den u->den u}{x:den u}{σ:St}{L:List TV},X.setHs aV (pl++[(i,sz,o)]) l u=some f->0 < l.length->o+l.length<=sz ->
 (∀j,j < l.length->∃old,bh (er1 u x) (pl++[(i,sz,o+j)])=some old/\jT old=false)->(∀v∈l,X.isHdrX v=false)->σ.c r off=er1 u x->bl σ.ce r=some L->off < L.length ->
 (putL ⟨r,off,pl++[(i,sz,o)]⟩ (erL l)).run σ=some ((),⟨σ.tm,cj σ.ce r (L.set off (er1 u (f x))),σ.vr⟩) /\
 (∀z∈((putL ⟨r,off,pl++[(i,sz,o)]⟩ (erL l)).foot σ).1,z=.c r off\/z=.n r\/z=.h r off)/\∀z∈((putL ⟨r,off,pl++[(i,sz,o)]⟩ (erL l)).foot σ).2,z=.c r off:=by
 intro l
 induction l with
 | nil=>intro o f x σ L _ h;simp at h
 | cons v l ih=>
  intro o f x σ L hf _ ho ZJ hh hc hL Zg;obtain⟨old,hg,Qo⟩:=ZJ 0 (by simp);rw[Nat.add_zero] at hg
  have QG:jT (er v)=false:=by rw[jS];exact hh v (by simp)
  have UP:∀(f1:den u->den u),X.setH aV (pl++[(i,sz,o)]) v u=some f1->(mU ⟨r,off,pl++[(i,sz,o)]⟩ (er v)).run σ=some ((),⟨σ.tm,cj σ.ce r (L.set off (er1 u (f1 x))),σ.vr⟩)/\(mU ⟨r,off,pl++[(i,sz,o)]⟩ (er v)).foot σ=([.c r off,.n r,.h r off],[.c r off]):=by
   intro f1 h1;have hs:=ra h1 x;unfold mU;simp only[SP.run,SP.foot,hc];rw[hg];simp only[Qo,QG,Bool.or_false,Bool.false_eq_true,if_false,SP.run,SP.foot,hL,Zg,if_true,hc,s7 (show pl++[(i,sz,o)]≠[] by simp),List.nil_append];rw[hs];exact⟨by first | rfl | trivial,by first | rfl | trivial⟩
  cases l with
  | nil=>
   rw[vO v _ (by simp)] at hf;obtain⟨h1,h2⟩:=UP f hf;have e2:putL ⟨r,off,pl++[(i,sz,o)]⟩ (erL [v])=(mU ⟨r,off,pl++[(i,sz,o)]⟩ (er v)).bind λ_=>.ret ():=rfl;rw[e2,SP.run_bind,h1,bm _ _ h1,h2];refine⟨rfl,λz hz=>?_,λz hz=>?_⟩
   all_goals simp only[SP.foot,List.append_nil,List.mem_cons,List.not_mem_nil,or_false] at hz;exact hz
  | cons w vs=>
   obtain⟨f1,g,h1,h2,h3⟩:=q9 hf;obtain⟨p1,p2⟩:=UP f1 h1;have hs:=ra h1 x;simp only[oLC] at ho
   obtain⟨q1,q2,q3⟩:=ih (o:=o+1) (x:=f1 x) (σ:=⟨σ.tm,cj σ.ce r (L.set off (er1 u (f1 x))),σ.vr⟩) h2 (by simp) (by simp only[oLC];omega) (λj hj=>by
    obtain⟨Tx,h4,h5⟩:=ZJ (j+1) (by simp only[oLC] at hj ⊢;omega);refine⟨Tx,?_,h5⟩;rw[hs,uw (by omega),show o+1+j=o+(j+1) by omega]
    exact h4) (λv' YZ=>hh v' (by simp[YZ])) (by
    unfold St.c;simp only[kg]
    simp[Zg]) (kg _ _ _) (by simpa using Zg)
   have e2:putL ⟨r,off,pl++[(i,sz,o)]⟩ (erL (v :: w :: vs))=(mU ⟨r,off,pl++[(i,sz,o)]⟩ (er v)).bind λ_=>putL ⟨r,off,pl++[(i,sz,o+1)]⟩ (erL (w :: vs)):=by
    have Zr:ba.fits ⟨r,off,pl++[(i,sz,o)]⟩ 1=true:=by
     simp only[ba.fits,List.reverse_append,List.reverse_cons,List.reverse_nil,List.nil_append,List.cons_append];simpa using (by omega:o+1 < sz)
    have Yn:ba.add ⟨r,off,pl++[(i,sz,o)]⟩ 1=⟨r,off,pl++[(i,sz,o+1)]⟩:=by simp[ba.add]
    show (mU ⟨r,off,pl++[(i,sz,o)]⟩ (er v)).bind (λ_=>if ba.fits ⟨r,off,pl++[(i,sz,o)]⟩ 1 then putL (ba.add ⟨r,off,pl++[(i,sz,o)]⟩ 1) (erL (w :: vs)) else .fail)=_;rw[Zr,Yn];rfl
   rw[e2,SP.run_bind,p1,bm _ _ p1,p2];simp only[oBS];rw[q1,mP,List.set_set,h3 x];refine⟨rfl,λz hz=>?_,λz hz=>?_⟩
   ·rcases List.mem_append.1 hz with hz | hz
    ·simpa using hz
    ·exact q2 z hz
   ·rcases List.mem_append.1 hz with hz | hz
    ·simpa using hz
    ·exact q3 z hz
theorem kU(l:List (den .nat×Nat×Nat)) (i:Nat) (sz o:Nat):X.lastO (l++[(i,sz,o)])=o:=by
 induction l with
 | nil=>rfl
 | cons h l ih=>
  cases l with
  | nil=>rfl
  | cons h2 l=>simpa [X.lastO] using ih
theorem tp:∀{hs:List (den .nat×Nat×Nat)}{tv:XV den}{k:(t:CT)->den t->Option Y}{y:Y},X.elemX aV tv hs k=some y->∃l i sz o t e,hs=l++[(i,sz,o)]/\dZ t=sz/\(∀j v,yG (X.splitX aV t e) j=some v->bh (er tv) (l++[(i,sz,j)])=some (er v))/\k t e=some y:=by
 intro hs
 induction hs with
 | nil=>
  intro tv k y h
  cases tv with
  | d u x=>cases u with
   | row ow t=>cases ow<;>cases h
   | _=>cases h
  | _=>cases h
 | cons h1 hs ih=>
  intro tv k y h;obtain⟨i,sz,o⟩:=h1
  cases tv with
  | d u x=>cases u with
   | row ow t=>cases ow with
    | true=>
     cases hs with
     | nil=>
      simp only[X.elemX] at h;split at h
      ·rename_i hsz;obtain⟨e,he,h2⟩:=aZ (show (cT (x:List (den t)) i).bind _=some y from h);have he:(x:List (den t))[i]?=some e:=he;refine⟨[],i,sz,o,t,e,rfl,hsz,λj v hv=>?_,h2⟩
       have h3:(List.map (enc t) (x:List (den t)))[i]?=some (enc t e):=by rw[List.getElem?_map,he];rfl
       show (match (List.map (enc t) (x:List (den t)))[i]? with | some el=>if el.length=sz then (match el[j]? with | some t=>bh t [] | none=>none) else none | none=>none)=_;rw[h3];simp only[bZ,hsz,if_true,jy hv];rfl
      ·cases h
     | cons h2 hs=>
      simp only[X.elemX] at h;split at h
      ·rename_i hsz;obtain⟨e,he,h3⟩:=aZ (show (cT (x:List (den t)) i).bind _=some y from h);have he:(x:List (den t))[i]?=some e:=he;split at h3
       ·rename_i v hv;obtain⟨l,i',sz',o',t',e',e1,e2,e3,e4⟩:=ih h3;refine⟨(i,sz,o) :: l,i',sz',o',t',e',by rw[e1];rfl,e2,λj w hw=>?_,e4⟩
        have h4:(List.map (enc t) (x:List (den t)))[i]?=some (enc t e):=by rw[List.getElem?_map,he];rfl
        have:=e3 j w hw;show (match (List.map (enc t) (x:List (den t)))[i]? with | some el=>if el.length=sz then (match el[o]? with | some t=>bh t (l++[(i',sz',j)]) | none=>none) else none | none=>none)=_;rw[h4];simp only[bZ,hsz,if_true,jy hv];exact this
       ·cases h3
      ·cases h
    | false=>cases hs<;>cases h
   | _=>cases hs<;>cases h
  | _=>cases hs<;>cases h
theorem qY(r off:Nat) (hs:List (den .nat×Nat×Nat)) (l:List (XV den)) (h2:2<=hs.length):Sim (Y:=Y) (X.bind (X.rdC r off) λtv=>X.elemM aV tv hs λt e=>
 if X.lastO hs+l.length<=dZ t/\0 < l.length/\(((X.splitX aV t e).drop (X.lastO hs)).take l.length).all (λv=>!X.isHdrX v)=true/\l.all (λv=>!X.isHdrX v)=true then X.bind (X.optM aV (X.setXs aV tv hs l)) λYH=>X.wrI aV r off YH else X.fail aV) (putL ⟨r,off,hs⟩ (erL l)) id:=by
 intro σ k y hk;obtain⟨pl,i,sz,o,t,e,e1,e2,e3,e4⟩:=tp hk
 have e5:X.lastO hs=o:=by rw[e1,kU]
 rw[e5] at e4;dsimp only at e4;split at e4
 case isFalse=>cases e4
 rename_i hc;obtain⟨Zq,Zl,Vh,Rl⟩:=hc
 have hlen:(X.splitX aV t e).length=sz:=by rw[<- b9,jz,bZ,e2]
 cases hset:X.setXs aV (X.cOf σ r off) hs l with
 | none=>rw[hset] at e4;cases e4
 | some YH=>
  rw[hset] at e4;have e4:X.wrI aV r off YH (X.lgR (.c r off) σ) k=some y:=e4
  cases htv:X.cOf σ r off with
  | d u x=>
   rw[htv] at hset e3;obtain⟨f,hf,PW⟩:=cU (show (X.setHs aV hs l u).map (λf=>(XV.d u (f x):XV den))=some YH from hset);subst PW;unfold X.wrI at e4;split at e4
   case h_2=>cases e4
   rename_i L hL;have hL:bl σ.ce r=some L:=hL;split at e4
   case isFalse=>cases e4
   rename_i Zg;rw[iv] at e4;rw[e1] at hf
   obtain⟨q1,q2,q3⟩:=wi (r:=r) (off:=off) (σ:=erS σ) (L:=erL L) l (x:=x) hf Zl (by rw[<- e2];exact Zq) (λj hj=>by
    have hjs:o+j < (X.splitX aV t e).length:=by omega
    refine⟨er (X.splitX aV t e)[o+j],e3 (o+j) _ (by rw[mc];exact oGE hjs),?_⟩;rw[jS]
    have:=List.all_eq_true.1 Vh (X.splitX aV t e)[o+j] (List.mem_of_getElem? (i:=j) (by
     rw[List.getElem?_take,oIP hj,List.getElem?_drop]
     exact oGE hjs))
    simpa using this) (λv hv=>by simp_all) (by rw[nd,htv];rfl) (by rw[nQ,hL];rfl) (by rw[b9];exact Zg)
   rw[<- e1] at q1 q2 q3;refine⟨(),⟨σ.tm,cj σ.ce r (L.set off (.d u (f x))),σ.vr,(.n r :: .h r off :: .c r off :: σ.lg.1,.c r off :: σ.lg.2)⟩,?_,⟨λz hz=>?_,λz hz=>?_,λz hz=>by simp[hz],λz hz=>by simp[hz]⟩,e4⟩
   ·rw[q1];unfold erS erC;simp only;rw[<- i3,mA];rfl
   ·rcases q2 z hz with h | h | h<;>simp[h]
   ·simp[q3 z hz]
  | _=>rw[htv] at hset;cases hset
theorem wm{r off i sz o:Nat}{l:List (XV den)}{tv:XV den}{σ:XS den}{k:Unit->XS den->Option Y}{y:Y}(h:X.putEl aV r off i sz o l tv σ k=some y) :
 (∃t xs,tv=.d (.row true t) xs/\(dZ t=sz/\o+l.length<=sz/\0 < l.length)/\(X.atM aV true t xs i λe=>X.bind (X.optM aV (X.setDs aV t o l)) λf=>X.bind (X.wrI aV r off (.d (.row true t) (aV.upd t xs i f))) λ_=>X.bumps (r,off,2) (X.hdrs ((X.splitX aV t e).drop o) l)) σ k=some y) \/
 ∃t xs i' o',tv=.gap t xs i' o'/\(dZ t=sz/\o=o'/\o < sz/\l.length=1)/\(X.atM aV true t xs i λ_=>X.brM aV (aV.eqN i i') (X.bind (X.optM aV (X.setDs aV t o l)) λf=>X.bind (X.wrI aV r off (.d (.row true t) (aV.upd t xs i f))) λ_=>X.bump (r,off,2))) σ k=some y:=by
 cases tv with
 | d u xs=>cases u with
  | row ow t=>cases ow with
   | true=>
    by_cases hc:dZ t=sz/\o+l.length<=sz/\0 < l.length
    ·simp only[X.putEl,oIP hc] at h;exact .inl ⟨t,xs,rfl,hc,h⟩
    ·simp[X.putEl,oIN hc] at h;cases h
   | false=>cases h
  | _=>cases h
 | gap t xs i' o'=>
  by_cases hc:dZ t=sz/\o=o'/\o < sz/\l.length=1
  ·simp[X.putEl,oIP hc] at h;exact .inr ⟨t,xs,i',o',rfl,hc,h⟩
  ·simp[X.putEl,oIN hc] at h;cases h
 | _=>cases h
theorem A5{c:Bool}{m:XM den Option Y α}{σ:XS den}{k:α->XS den->Option Y}{y:Y}(h:X.brM aV c m σ k=some y):c=true/\m σ k=some y:=by
 cases c with
 | false=>cases h
 | true=>exact⟨rfl,h⟩
theorem yZ{t:CT}{xs:List (den t)}{i sz o:Nat}{e:den t}(hsz:dZ t=sz) (he:xs[i]?=some e) (ho:o < sz):bh (cw (er1 (.row true t) xs) [(i,0,o)] .dead) [(i,sz,o)]=some .dead:=by
 have h3:(List.map (enc t) xs)[i]?=some (enc t e):=by simp_all
 show (match ((List.map (enc t) xs).modify i λel=>el.modify o λ_=>TV.dead)[i]? with | some el=>if el.length=sz then (match el[o]? with | some t=>bh t [] | none=>none) else none | none=>none)=_;rw[List.getElem?_modify,h3]
 have h4:o < (enc t e).length:=by rw[bZ,hsz];exact ho
 simp[bZ,hsz,oGE h4,bh]
theorem yr{tv:TV}{i sz sz' o:Nat}{u v:TV}:cw (cw tv [(i,sz',o)] u) [(i,sz,o)] v=cw tv [(i,sz,o)] v:=by
 cases tv with
 | ow c=>
  simp only[cw];congr 1;apply List.ext_getElem?;intro j;simp only[List.getElem?_modify];by_cases h:i=j
  ·simp only[h,if_true]
   cases c[j]? with
   | none=>rfl
   | some el=>
    show some ((el.modify o λ_=>u).modify o λ_=>v)=some (el.modify o λ_=>v);congr 1;apply List.ext_getElem?;intro k;simp only[List.getElem?_modify];by_cases h:o=k
    ·simp only[h,if_true];cases el[k]?<;>rfl
    ·simp[h]
  ·simp[h]
 | _=>rfl
theorem tU{r off i sz o:Nat}{t:CT}{xs:List (den t)}{l:List (XV den)}{σ:XS den}{k:Unit->XS den->Option Y}{y:Y}(hcell:X.cOf σ r off=.gap t xs i o) (hc:dZ t=sz/\o < sz/\l.length=1) {e:den t}(he:xs[i]?=some e)
 (hk:(X.bind (X.optM aV (X.setDs aV t o l)) λf=>X.bind (X.wrI aV r off (.d (.row true t) (aV.upd t xs i f))) λ_=>X.bump (r,off,2)) (X.lgR (.c r off) σ) k=some y) :
 ∃a σ',(putL ⟨r,off,[(i,sz,o)]⟩ (erL l)).run (erS σ)=some (id a,erS σ')/\gf σ σ' ((putL ⟨r,off,[(i,sz,o)]⟩ (erL l)).foot (erS σ))/\k a σ'=some y:=by
 obtain⟨hsz,ho,hl⟩:=hc
 obtain⟨v,rfl⟩:∃v,l=[v]:=by
  match l,hl with
  | [v],_=>simp_all
 cases hf:X.setDs aV t o [v] with
 | none=>rw[hf] at hk;cases hk
 | some f=>
  rw[hf] at hk
  have hset:cw (er1 (.row true t) xs) [(i,sz,o)] (er v)=er1 (.row true t) (List.modify xs i f):=by
   rw[nG xs i o f (λ_=>er v) (oh (λu h hu _ x=>xB hu x) hf)];rfl
  have W1:(erS σ).c r off=cw (er1 (.row true t) xs) [(i,0,o)] .dead:=by rw[nd,hcell];rfl
  have P2:=(eT.wrI (Y:=Y) (σ:=X.lgR (.c r off) σ) (r:=r) (t:=.d (.row true t) (List.modify xs i f)) (by
   show (er1 (.row true t) (List.modify xs i f)).hd=((erS σ).c r off).hd
   rw[W1,mn (by simp),<- hset,mn (by simp)])).bind (g:=λ_=>X.bump (r,off,2)) (h:=λ_=>.bump (r,off,2) (.ret ())) (f':=id) λ_=>sH (r,off,2)
  obtain⟨a,σ',h1,h2,h3⟩:=P2 k y hk
  have e1:putL ⟨r,off,[(i,sz,o)]⟩ (erL [v])=.rdC r off λtv=>(match bh tv [(i,sz,o)] with
   | some old=>if jT old || jT (er v) then (if 1<=1 then SP.wrC r off (cw tv [(i,sz,o)] (er v)) (.bump (r,off,2) (.ret ())) else .fail) else .wrC r off (cw tv [(i,sz,o)] (er v)) (.ret ())
   | none=>.fail).bind λ_=>.ret ():=rfl
  have e2:∀s:TV,s=(erS σ).c r off->((match bh s [(i,sz,o)] with
   | some old=>if jT old || jT (er v) then (if 1<=1 then SP.wrC r off (cw s [(i,sz,o)] (er v)) (.bump (r,off,2) (.ret ())) else .fail) else .wrC r off (cw s [(i,sz,o)] (er v)) (.ret ())
   | none=>.fail:SP Unit).bind λ_=>.ret ())=.wrC r off (er1 (.row true t) (List.modify xs i f)) (.bump (r,off,2) (.ret ())):=by
   intro s hs;rw[hs,W1,yZ hsz he ho,yr,hset];rfl
  refine⟨a,σ',?_,⟨λx hx=>?_,λx hx=>?_,λx hx=>h2.r0 x (by simp[X.lgR,hx]),λx hx=>h2.w0 x hx⟩,h3⟩
  ·rw[e1];simp only[SP.run];rw[e2 _ rfl];exact h1
  ·rw[e1] at hx;simp only[SP.foot,List.mem_cons] at hx;rcases hx with rfl | hx
   ·exact h2.r0 _ (by simp[X.lgR])
   ·rw[e2 _ rfl] at hx;exact h2.r x hx
  ·rw[e1] at hx;simp only[SP.foot] at hx;rw[e2 _ rfl] at hx;exact h2.w x hx
theorem sy(p:XP den) (l:List (XV den)):Sim (Y:=Y) (X.putL aV p l) (putL (erP p) (erL l)) id:=by
 obtain⟨r,off,hops⟩:=p
 match hops with
 | []=>exact ye r l off
 | [(i,sz,o)]=>
  intro σ k y hk;show ∃a σ',(putL ⟨r,off,[(i,sz,o)]⟩ (erL l)).run (erS σ)=some (id a,erS σ')/\_;rcases wm hk with ⟨t,xs,hcell,⟨hsz,hol,W8⟩,hk⟩ | ⟨t,xs,i',o',hcell,⟨hsz,hoo,hol,W8⟩,hk⟩
  rotate_left
  ·obtain⟨e,he,hk⟩:=aZ (show (cT xs i).bind _=some y from hk);have he:(xs:List (den t))[i]?=some e:=he;dsimp only at hk;obtain⟨hb,Qd⟩:=A5 hk;have hii:i=i':=Nat.eq_of_beq_eq_true hb;subst hii;subst hoo;exact tU hcell ⟨hsz,hol,W8⟩ he Qd
  ··skip
    obtain⟨e,he,hk⟩:=aZ (show (cT xs i).bind _=some y from hk)
    cases hf:X.setDs aV t o l with
    | none=>rw[hf] at hk;cases hk
    | some f=>
     rw[hf] at hk;have hk:X.wrI aV r off (.d (.row true t) (aV.upd t xs i f)) (X.lgR (.c r off) σ) (λ_ σ'=>X.bumps (r,off,2) (X.hdrs ((X.splitX aV t e).drop o) l) σ' k)=some y:=hk;unfold X.wrI at hk;split at hk
     case h_2=>cases hk
     rename_i L hL;have hL:bl σ.ce r=some L:=hL;split at hk
     case isFalse=>cases hk
     rename_i Zg;rw[iv] at hk;obtain⟨σ',h1,h2,h3,h4,h5⟩:=xu _ _ hk
     have hc:(erS σ).c r off=er1 (.row true t) xs:=by rw[nd,hcell];rfl
     have T7:bl (erS σ).ce r=some (erL L):=by rw[nQ,hL];rfl
     obtain⟨q1,q2⟩:=AN hsz l (σ:=erS σ) hf he hol hc T7 (by rw[b9];exact Zg);refine⟨(),σ',?_,⟨λx hx=>?_,λx hx=>?_,λx hx=>h2 x (by simp[X.lgR,hx]),λx hx=>h3 x (by simp[X.lgR,hx])⟩,h5⟩
     ·rw[q1,h1];simp only[id_eq,oSJ,oPJ,true_and];congr 1;show cj (erC σ.ce) r _=erC (cj σ.ce r _);unfold erC;rw[<- i3,mA];rfl
     ·rcases q2.1 x hx with h | (h | h) | ⟨h,h'⟩
      ·exact h2 x (by simp[X.lgR,h])
      ·exact h2 x (by simp[X.lgR,h])
      ·simp_all
      ·rw[h];exact (h4 h').1
     ·rcases q2.2 x hx with h | ⟨h,h'⟩
      ·simp_all
      ·rw[h];exact (h4 h').2
 | h1 :: h2 :: hs=>exact qY r off (h1 :: h2 :: hs) l (by simp)
end
section
variable {α β γ δ Y:Type}
theorem dR(p:XP den) (t:XV den):Sim (Y:=Y) (X.peek1 aV p t) (peek1 (erP p) (er t)) er:=by
 cases t with
 | k x=>exact .ret rfl
 | d t x=>
  have own:X.isOwT t=true->Sim (Y:=Y) (X.peek1 aV p (.d t x)) (peek1 (erP p) (er (.d t x))) er:=by
   intro h;have h1:X.isOwX (.d t x:XV den)=true:=h;have ⟨c,hc⟩:=fT h1;rw[hc];show Sim (if X.isOwT t then _ else _) (SP.bind _ _) er;rw[oIP h];exact (lz _).bind λvs=>.ret rfl
  cases t with
  | row o t=>cases o<;>first | exact .ret rfl | exact own rfl
  | nilr o=>cases o<;>first | exact .ret rfl | exact own rfl
  | int k=>exact .ret rfl
  | bool=>exact .ret rfl
  | str=>exact .ret rfl
  | nat=>exact .fail
  | pair a b=>exact .fail
 | _=>exact .fail
theorem vo(p:XP den):Sim (Y:=Y) (X.peekP aV p) (peekP (erP p)) er:=by
 have ⟨r,o,hs⟩:=p
 cases hs with
 | nil=>
  refine Sim.rdK λt=>Sim.ite (λh=>?_) λh=>?_
  ·have ⟨c,hc⟩:=fT h;rw[hc];exact (lz _).bind λvs=>.ret rfl
  ·rw[AW (by simp_all) (jR t)];exact (dS ⟨r,o,[]⟩).bind λt=>dR _ t
 | cons h hs=>exact (dS ⟨r,o,h :: hs⟩).bind λt=>dR _ t
theorem vp(r:Nat):∀(n o:Nat),Sim (Y:=Y) (X.peekB aV r o n) (peekL ⟨r,o,[]⟩ n) erL:=by
 intro n
 induction n with
 | zero=>intro o;exact .ret rfl
 | succ n ih=>
  intro o
  cases n with
  | zero=>
   refine Sim.rdC λt=>(dR ⟨r,o,[]⟩ t).bind λt'=>?_;exact (Sim.ret (f:=erL) rfl).bind (h:=λl=>.ret (er t' :: l)) λl=>.ret rfl
  | succ n=>
   exact Sim.rdC λt=>(dR ⟨r,o,[]⟩ t).bind λt'=>(ih (o+1)).bind λl=>.ret rfl
theorem zu{r o:Nat}{l:List Hop}{i sz f n:Nat}:(⟨r,o,l++[(i,sz,f)]⟩:ba).add n=⟨r,o,l++[(i,sz,f+n)]⟩:=by
 simp[ba.add]
theorem xd{r o:Nat}{l:List Hop}{i sz f n:Nat}:(⟨r,o,l++[(i,sz,f)]⟩:ba).fits n=decide (f+n < sz):=by
 simp[ba.fits]
theorem wc:∀{qs:List Key}{σ:St}{a:List Nat}{τ:St},(rdVs qs).run σ=some (a,τ)->τ=σ:=by
 intro qs
 induction qs with
 | nil=>intro σ a τ h;simp[rdVs,SP.run] at h;exact h.2.symm
 | cons q qs ih=>
  intro σ a τ h;have ⟨l,σ1,h1,h2⟩:=aT h;simp[SP.run] at h2;rw[<- h2.2];exact ih h1
theorem ug{p:ba}{t:TV}{σ:St}{y:TV×St}(h:(peek1 p t).run σ=some y):y.2=σ:=by
 cases t with
 | v x=>simp[peek1,SP.run] at h;rw[<- h]
 | sl c=>simp[peek1,SP.run] at h;rw[<- h]
 | ow c=>
  have ⟨l,σ1,h1,h2⟩:=aT h;simp[SP.run] at h2;rw[<- h2];exact wc h1
 | _=>simp[peek1,SP.run] at h
theorem uf{r off:Nat}{l:List (den .nat×Nat×Nat)}{i:Nat}{sz:Nat}{tv:TV}:∀(cs:List (XV den)) (o:Nat) {σ:XS den}{k:List (XV den)->XS den->Option Y}{y:Y},X.peekCs aV ⟨r,off,l++[(i,sz,o)]⟩ cs σ k=some y ->
 (erS σ).c r off=tv->Loc.c r off∈σ.lg.1->(∀j v,cs[j]?=some v->bh tv (l++[(i,sz,o+j)])=some (er v))->0 < cs.length->o+cs.length<=sz ->
 ∃vs σ',(peekL ⟨r,off,l++[(i,sz,o)]⟩ cs.length).run (erS σ)=some (erL vs,erS σ')/\gf σ σ' ((peekL ⟨r,off,l++[(i,sz,o)]⟩ cs.length).foot (erS σ))/\k vs σ'=some y:=by
 intro cs
 induction cs with
 | nil=>simp_all
 | cons t cs ih=>
  intro o σ k y h hc S0 hg h0 hsz;obtain⟨t',σ1,r1,n1,k1⟩:=dR ⟨r,off,l++[(i,sz,o)]⟩ t σ _ y h;have r1:(peek1 ⟨r,off,l++[(i,sz,o)]⟩ (er t)).run (erS σ)=some (er t',erS σ1):=r1;have hs:erS σ1=erS σ:=ug r1
  have Vo:(getPl ⟨r,off,l++[(i,sz,o)]⟩).run (erS σ)=some (er t,erS σ):=by
   have h3:bh tv (l++[(i,sz,o)])=some (er t):=hg 0 t rfl;simp only[getPl,SP.run,hc];rw[h3];rfl
  have Rd:(getPl ⟨r,off,l++[(i,sz,o)]⟩).foot (erS σ)=([.c r off],[]):=by
   simp only[getPl,SP.foot,hc];have:=hg 0 t rfl;simp only[Nat.add_zero] at this;rw[this];rfl
  cases cs with
  | nil=>
   have k1:k [t'] σ1=some y:=k1;have e:peekL ⟨r,off,l++[(i,sz,o)]⟩ 1=(getPl ⟨r,off,l++[(i,sz,o)]⟩).bind λt=>(peek1 ⟨r,off,l++[(i,sz,o)]⟩ t).bind λt'=>.ret [t']:=rfl;refine⟨[t'],σ1,?_,?_,k1⟩
   ·show (peekL _ 1).run _=_;rw[e,SP.run_bind,Vo];simp only[oBS,SP.run_bind,r1];rfl
   ·show gf σ σ1 ((peekL _ 1).foot _);rw[e,bm _ _ Vo,bm _ _ r1,Rd];refine⟨λx hx=>?_,λx hx=>?_,n1.r0,n1.w0⟩
    ·simp only[SP.foot,List.cons_append,List.nil_append,List.append_nil,List.mem_cons] at hx;rcases hx with h | h
     ·rw[h];exact n1.r0 _ S0
     ·exact n1.r x h
    ·simp only[SP.foot,List.nil_append,List.append_nil] at hx;exact n1.w x hx
  | cons u cs=>
   have R4:X.addP (⟨r,off,l++[(i,sz,o)]⟩:XP den) 1=⟨r,off,l++[(i,sz,o+1)]⟩:=by simp[X.addP]
   rw[R4] at k1;simp only[oLC] at hsz h0
   obtain⟨vs,σ2,r2,n2,k2⟩:=ih (o+1) k1 (by rw[hs];exact hc) (n1.r0 _ S0) (λj v hv=>by
    have:=hg (j+1) v (by simpa using hv)
    rw[show o+1+j=o+(j+1) by omega];exact this) (by simp) (by simp only[oLC];omega)
   have e:peekL ⟨r,off,l++[(i,sz,o)]⟩ (u :: cs).length.succ=(getPl ⟨r,off,l++[(i,sz,o)]⟩).bind λt=>(peek1 ⟨r,off,l++[(i,sz,o)]⟩ t).bind λt'=>(peekL ⟨r,off,l++[(i,sz,o+1)]⟩ (u :: cs).length).bind λr=>.ret (t' :: r):=by
    show (getPl _).bind (λt=>(peek1 _ t).bind λt'=>if ba.fits ⟨r,off,l++[(i,sz,o)]⟩ 1 then (peekL (ba.add ⟨r,off,l++[(i,sz,o)]⟩ 1) (cs.length+1)).bind λr=>.ret (t' :: r) else .fail)=_
    have h3:decide (o+1 < sz)=true:=by simpa using (by omega:o+1 < sz)
    rw[xd,zu,h3];rfl
   refine⟨t' :: vs,σ2,?_,?_,k2⟩
   ·show (peekL _ (u :: cs).length.succ).run _=_;rw[e,SP.run_bind,Vo];simp only[oBS,SP.run_bind,r1,r2];rfl
   ·show gf σ σ2 ((peekL _ (u :: cs).length.succ).foot _);rw[e,bm _ _ Vo,bm _ _ r1,bm _ _ r2,Rd];refine⟨λx hx=>?_,λx hx=>?_,λx hx=>n2.r0 x (n1.r0 x hx),λx hx=>n2.w0 x (n1.w0 x hx)⟩
    ·simp only[SP.foot,List.cons_append,List.nil_append,List.append_nil,List.mem_cons,List.mem_append] at hx;rcases hx with h | h | h
     ·rw[h];exact n2.r0 _ (n1.r0 _ S0)
     ·exact n2.r0 _ (n1.r x h)
     ·exact n2.r x h
    ·simp only[SP.foot,List.nil_append,List.append_nil,List.mem_append] at hx;rcases hx with h | h
     ·exact n2.w0 _ (n1.w x h)
     ·exact n2.w x h
theorem pC(p:XP den) (n:Nat):Sim (Y:=Y) (X.peekL aV p n) (peekL (erP p) n) erL:=by
 obtain⟨r,off,hops⟩:=p
 cases hops with
 | nil=>exact vp r n off
 | cons h1 hs=>
  intro σ k y hk;have hk:X.elemM aV (X.cOf σ r off) (h1 :: hs) (λt e=>if X.lastO (h1 :: hs)+n<=dZ t/\0 < n then X.peekCs aV ⟨r,off,h1 :: hs⟩ (((X.splitX aV t e).drop (X.lastO (h1 :: hs))).take n) else X.fail aV) (X.lgR (.c r off) σ) k=some y:=hk;obtain⟨l,i,sz,o,t,e,e1,e2,e3,e4⟩:=tp hk
  have e5:X.lastO (h1 :: hs)=o:=by rw[e1,kU]
  rw[e5] at e4;dsimp only at e4;split at e4
  ·rename_i hc
   have hlen:(X.splitX aV t e).length=sz:=by rw[<- b9,jz,bZ,e2]
   have Y':(((X.splitX aV t e).drop o).take n).length=n:=by rw[oLT,List.length_drop,hlen];omega
   rw[e1] at e4
   have ⟨vs,σ',r1,n1,k1⟩:=uf (tv:=er (X.cOf σ r off)) _ o e4 (nd σ r off) (by simp[X.lgR]) (λj v hv=>e3 (o+j) v (by
    rw[mc];rw[List.getElem?_take] at hv;split at hv
    ·simp_all
    ·simp at hv)) (by omega) (by omega)
   rw[Y'] at r1 n1
   have ep:erP ⟨r,off,h1 :: hs⟩=⟨r,off,l++[(i,sz,o)]⟩:=by unfold erP;rw[e1]
   rw[ep];exact⟨vs,σ',r1,⟨n1.r,n1.w,λx hx=>n1.r0 x (by simp[X.lgR,hx]),λx hx=>n1.w0 x hx⟩,k1⟩
  ·cases e4
theorem vt(r:Nat):∀(l:List (XV den)) (i:Nat),Sim (Y:=Y) (X.nameL r i l) (nameL r i (erL l)) erL:=by
 intro l
 induction l with
 | nil=>intro i;exact .ret rfl
 | cons t l ih=>
  intro i
  cases ho:X.isOwX t with
  | true=>
   obtain⟨c,hc⟩:=fT ho
   have e:nameL r i (erL (t :: l))=.rdV (r,0,0) λg=>.rdV (r,i,1) λh=>(nameL r (i+1) (erL l)).bind λl'=>.ret (.pk ⟨r,i,[]⟩ [g,h] :: l'):=by
    simp[erL,hc,nameL]
   rw[e];simp[X.nameL,ho];exact Sim.rdV λg=>Sim.rdV λh=>(ih (i+1)).bind λl'=>.ret rfl
  | false=>
   have e:nameL r i (erL (t :: l))=(nameL r (i+1) (erL l)).bind λl'=>.ret (er t :: l'):=by
    have h1:fL (er t)=false:=by rw[jR,ho]
    simp[erL]
    cases he:er t with
    | ow c=>rw[he] at h1;simp[fL] at h1
    | _=>rfl
   rw[e];simp[X.nameL,ho,if_false];exact (ih (i+1)).bind λl'=>.ret rfl
theorem zZ(l:List (XV den)):(erL l).any fL=l.any X.isOwX:=by
 induction l with
 | nil=>rfl
 | cons t l ih=>simp[erL,jR,ih]
theorem lW(d:Nat) (l:List (XV den)):Sim (Y:=Y) (X.names aV d l) (names d (erL l)) erL:=by
 unfold X.names names;rw[zZ];by_cases h:l.any X.isOwX=true
 ·rw[oIP h,oIP h];exact Sim.new rfl (vt _ l 0)
 ·rw[oIN h,oIN h];exact .ret rfl
theorem nD(agg:Bool) (l:List (XV den)):er (X.shapedX agg l)=gY agg (erL l):=by
 cases agg with
 | true=>rfl
 | false=>exact qr l
theorem bp(d:Nat) {t:XV den}{t':TV}(e:er t=t'):Sim (Y:=Y) (X.wr aV d t) (wr d t') id:=by subst e;exact oe d t
theorem ev(d:Nat) (agg:Bool) {l:List (XV den)}{l':List TV}(e:erL l=l'):Sim (Y:=Y) (X.inst aV d agg l) (inst d agg l') id:=by
 subst e;exact (lW d l).bind λl'=>bp d (nD agg l')
theorem gk(t:XV den):Sim (Y:=Y) (X.natOf aV t) (natOf (er t)) id:=by
 cases t with
 | d t x=>cases t with
  | int k=>
   refine Sim.nat λm hm=>?_;subst hm;exact .ret rfl
  | _=>exact .fail
 | _=>exact .fail
theorem lX(t:XV den):Sim (Y:=Y) (X.lenOf aV t) (gw (er t)) id:=by
 cases t with
 | d t x=>cases t with
  | row o t=>cases o with
   | false=>exact .ret (List.length_map _).symm
   | true=>exact .fail
  | nilr o=>cases o<;>exact .ret rfl
  | _=>exact .fail
 | pk p vs=>
  refine (cl p _ vs).bind λ_=>(sB p).bind λt=>?_
  cases t with
  | d t x=>cases t with
   | row o t=>cases o with
    | true=>exact .ret (show _=(List.map List.length (List.map (enc t) x)).length by simp;rfl)
    | false=>exact .fail
   | nilr o=>cases o with
    | true=>exact .ret rfl
    | false=>exact .fail
   | _=>exact .fail
  | _=>exact .fail
 | pw p vs sz lo n=>exact (cl p _ vs).bind λ_=>.ret rfl
 | _=>exact .fail
theorem nC(o:Option Opd) (d:Nat):Sim (Y:=Y) (X.optNat aV o d) (optNat o d) id:=by
 cases o with
 | none=>exact .ret rfl
 | some o=>exact (ko o).bind λt=>gk t
theorem jA(mv:Bool):∀l:List (Nat×Nat×Opd),Sim (Y:=Y) (X.takeParts aV mv l) (takeParts mv l) erL:=by
 intro l
 induction l with
 | nil=>exact .ret rfl
 | cons x l ih=>
  have ⟨off,n,x⟩:=x;refine (ko x).bind λt=>?_;rw[j5];refine (gj mv _).bind λl1=>?_;refine Sim.ite (λhn=>?_) λ_=>.fail;rw[oIP (by rw[b9];exact hn)];exact ih.bind λl'=>.ret (iX _ _)
theorem wq:∀(l cells:List (XV den)) (off:Nat),erL (X.placeX cells off l)=ef (erL cells) off (erL l):=by
 intro l
 induction l with
 | nil=>intros;rfl
 | cons t l ih=>intro cells off;simp[X.placeX,erL,ef];rw[ih,mA]
theorem qF:∀(ps:List (Nat×Nat×Opd)) (cells l:List (XV den)),erL (X.assembleX cells ps l)=gR (erL cells) ps (erL l):=by
 intro ps
 induction ps with
 | nil=>intros;rfl
 | cons p ps ih=>
  intro cells l;simp[X.assembleX,gR];rw[ih,wq,iW,j0]
theorem uO(sz:Nat):∀(n:Nat) (l:List (XV den)),(X.chunksX sz n l).map erL=fI sz n (erL l):=by
 intro n
 induction n with
 | zero=>intros;rfl
 | succ n ih=>intro l;simp only[X.chunksX,List.map_cons,fI];rw[ih,iW,j0]
theorem lM(z:List Value):erL (z.map (X.cellX aV))=z.map b7:=by
 rw[dW,List.map_map];exact List.map_congr_left λy _=>lN y
theorem kw{z:List Value}(h:(z.map (X.cellX aV)).all X.okCellX=true):(z.map b7).all bL=true:=by
 rw[<- lM,dW,List.all_map];rw[List.all_eq_true] at h ⊢;intro x hx;exact uk (h x hx)
end
section
variable {α β γ δ Y:Type}
theorem om(v:Value):ud (pure v)=some v:=rfl
theorem B8{k:IntKind}{a b:Int}{op:BinOp}(h:op=.add\/op=.sub\/op=.mul\/op=.and\/op=.or\/op=.xor\/op=.andNot):cx op (.int k a) (.int k b)=some (.int k (arR op k a b)):=by
 rcases h with rfl | rfl | rfl | rfl | rfl | rfl | rfl<;>simp[cx,Go.binOp,Op.intArith,Op.intBits,arR,om]
theorem B7{k:IntKind}{a b:Int}{op:BinOp}(h:op=.eql\/op=.neq\/op=.lss\/op=.leq\/op=.gtr\/op=.geq):cx op (.int k a) (.int k b)=some (.bool (cmR op a b)):=by
 rcases h with rfl | rfl | rfl | rfl | rfl | rfl<;>simp[cx,Go.binOp,Op.intCmp,cmR,om]
theorem B6{k:IntKind}{a b:Int}{op:BinOp}(h:op=.quo\/op=.rem) (hb:b≠0):cx op (.int k a) (.int k b)=some (.int k (arR op k a b)):=by
 rcases h with rfl | rfl<;>simp[cx,Go.binOp,Op.intDiv,arR,om,hb]
theorem zX{k k':IntKind}{a:Int}{n:Nat}{op:BinOp}(h:op=.shl\/op=.shr):cx op (.int k a) (.int k' n)=some (.int k (shR op k a n)):=by
 rcases h with rfl | rfl<;>simp[cx,Go.binOp,Op.shift,shR,om,show ¬ ((n:Int) < 0) by omega]
theorem zW{a b:ByteArray}:cx .eql (.string a) (.string b)=some (.bool (CF a b))/\cx .neq (.string a) (.string b)=some (.bool (!(CF a b))):=⟨rfl,rfl⟩
theorem lT(d:Nat) {op:BinOp}{x y r:Value}{t:XV den}(h:cx op x y=some r) (hf:cO r=true) (e:er t=.v r):Sim (Y:=Y) (X.wr aV d t) ((eP (cx op x y)).bind λr=>if cO r then wr d (.v r) else .fail) id:=by
 rw[h];show Sim _ (if cO r then wr d (.v r) else .fail) id;rw[oIP hf];exact bp d e
theorem Bx(d:Nat) (op:BinOp) (a b:XV den):Sim (Y:=Y) (X.binX aV d op a b) ((kj (er a)).bind λa=>(kj (er b)).bind λb=>(eP (cx op a b)).bind λr=>if cO r then wr d (.v r) else .fail) id:=by
 cases a with
 | d t x=>cases t with
  | int k=>cases b with
   | d u y=>cases u with
    | int k'=>
     have ar:(op=.add\/op=.sub\/op=.mul\/op=.and\/op=.or\/op=.xor\/op=.andNot)->Sim (Y:=Y) (if h:k'=k then X.wr aV d (.d (.int k) (aV.ar op k x (h ▸ y))) else X.fail aV) ((eP (cx op (.int k x) (.int k' y))).bind λr=>if cO r then wr d (.v r) else .fail) id:=by
      intro hop;by_cases h:k'=k
      ·subst h;rw[dif_pos rfl];exact lT d (B8 hop) rfl rfl
      ·rw[dif_neg h];exact .fail
     have cm:(op=.eql\/op=.neq\/op=.lss\/op=.leq\/op=.gtr\/op=.geq)->Sim (Y:=Y) (if h:k'=k then X.wr aV d (.d .bool (aV.cm op k x (h ▸ y))) else X.fail aV) ((eP (cx op (.int k x) (.int k' y))).bind λr=>if cO r then wr d (.v r) else .fail) id:=by
      intro hop;by_cases h:k'=k
      ·subst h;rw[dif_pos rfl];exact lT d (B7 hop) rfl rfl
      ·rw[dif_neg h];exact .fail
     have dv:(op=.quo\/op=.rem)->Sim (Y:=Y) (if h:k'=k then X.brM aV (aV.cm .neq k' y (aV.lit k' 0)) (X.wr aV d (.d (.int k) (aV.ar op k x (h ▸ y)))) else X.fail aV) ((eP (cx op (.int k x) (.int k' y))).bind λr=>if cO r then wr d (.v r) else .fail) id:=by
      intro hop;by_cases h:k'=k
      ·subst h;rw[dif_pos rfl];refine Sim.br λhb=>lT d (B6 hop ?_) rfl rfl;have hb:((y:Int) != 0)=true:=hb
       simp_all
      ·rw[dif_neg h];exact .fail
     cases op with
     | add=>exact ar (by simp)
     | sub=>exact ar (by simp)
     | mul=>exact ar (by simp)
     | and=>exact ar (by simp)
     | or=>exact ar (by simp)
     | xor=>exact ar (by simp)
     | andNot=>exact ar (by simp)
     | eql=>exact cm (by simp)
     | neq=>exact cm (by simp)
     | lss=>exact cm (by simp)
     | leq=>exact cm (by simp)
     | gtr=>exact cm (by simp)
     | geq=>exact cm (by simp)
     | quo=>exact dv (by simp)
     | rem=>exact dv (by simp)
     | shl=>
      refine Sim.nat λn hn=>?_;have hn:y=(n:Int):=hn;subst hn;exact lT d (zX (.inl rfl)) rfl rfl
     | shr=>
      refine Sim.nat λn hn=>?_;have hn:y=(n:Int):=hn;subst hn;exact lT d (zX (.inr rfl)) rfl rfl
    | _=>exact .fail
   | _=>exact .fail
  | str=>cases b with
   | d u y=>cases u with
    | str=>
     cases op with
     | eql=>exact lT d zW.1 rfl rfl
     | neq=>exact lT d zW.2 rfl rfl
     | _=>exact .fail
    | _=>exact .fail
   | _=>exact .fail
  | _=>exact .fail
 | _=>exact .fail
theorem zf:∀{ks:List FK}{xs ys:List (XV den)}{c:Bool},X.eqAll aV ks xs ys=some c->∃vs ws,bo (erL xs)=some vs/\bo (erL ys)=some ws/\bx ks vs ws=some c:=by
 intro ks
 induction ks with
 | nil=>
  intro xs ys c h
  cases xs with
  | nil=>cases ys with
   | nil=>simp only[X.eqAll,oSJ] at h;subst h;exact⟨[],[],rfl,rfl,rfl⟩
   | cons=>simp[X.eqAll] at h
  | cons=>simp[X.eqAll] at h
 | cons f ks ih=>
  intro xs ys c h
  cases xs with
  | nil=>cases f<;>simp[X.eqAll] at h
  | cons x xs=>cases ys with
   | nil=>cases f<;>simp[X.eqAll] at h
   | cons y ys=>
    cases x with
    | d t a=>cases y with
     | d u b=>
      cases f with
      | i=>cases t with
       | int k=>cases u with
        | int k'=>
         simp only[X.eqAll] at h;split at h
         ·rename_i hk;subst hk;obtain⟨c',h1,rfl⟩:=cU h;obtain⟨vs,ws,e1,e2,e3⟩:=ih h1;refine⟨.int k' a :: vs,.int k' b :: ws,by simp only[erL,er,er1,bo,e1,oMS],by simp only[erL,er,er1,bo,e2,oMS],?_⟩;simp only[bx,if_true,e3,oMS];rfl
         ·simp at h
        | _=>simp[X.eqAll] at h
       | _=>simp[X.eqAll] at h
      | b=>cases t with
       | bool=>cases u with
        | bool=>
         simp only[X.eqAll] at h;obtain⟨c',h1,rfl⟩:=cU h;obtain⟨vs,ws,e1,e2,e3⟩:=ih h1;refine⟨.bool a :: vs,.bool b :: ws,by simp only[erL,er,er1,bo,e1,oMS],by simp only[erL,er,er1,bo,e2,oMS],?_⟩;simp only[bx,e3,oMS];rfl
        | _=>simp[X.eqAll] at h
       | _=>simp[X.eqAll] at h
      | s=>cases t with
       | str=>cases u with
        | str=>
         simp only[X.eqAll] at h;obtain⟨c',h1,rfl⟩:=cU h;obtain⟨vs,ws,e1,e2,e3⟩:=ih h1;refine⟨.string a :: vs,.string b :: ws,by simp only[erL,er,er1,bo,e1,oMS],by simp only[erL,er,er1,bo,e2,oMS],?_⟩;simp only[bx,e3,oMS];rfl
        | _=>simp[X.eqAll] at h
       | _=>simp[X.eqAll] at h
     | _=>cases f<;>simp[X.eqAll] at h
    | _=>cases f<;>simp[X.eqAll] at h
theorem sA{f:Opd->XM den Option Y (XV den)}{g:Opd->SP β}{e:XV den->β}(h:∀x,Sim (f x) (g x) e):∀l:List Opd,Sim (X.mapM' f l) (Bo g l) (List.map e):=by
 intro l
 induction l with
 | nil=>exact .ret rfl
 | cons x l ih=>exact (h x).bind λy=>ih.bind λl'=>.ret rfl
def Cg(x:XV den):Value:=match x with | .d (.int k) n=>.int k n | _=>undef
theorem vy(t:XV den):Sim (Y:=Y) (X.intOf aV t) (kj (er t)) Cg:=by
 cases t with
 | d t x=>cases t with
  | int k=>exact .ret rfl
  | _=>exact .fail
 | _=>exact .fail
theorem yL{mx:Bool}{k:IntKind}:∀{r:List (XV den)}{a m:Int},X.mmAll aV mx k a r=some m->k9 mx k a (r.map Cg)=some m:=by
 intro r
 induction r with
 | nil=>intro a m h;exact h
 | cons x r ih=>
  intro a m h
  cases x with
  | d t b=>cases t with
   | int k'=>
    simp only[X.mmAll] at h;split at h
    ·rename_i hk;subst hk;have:=ih h;simp[Cg,k9];exact this
    ·simp at h
   | _=>simp[X.mmAll] at h
  | _=>simp[X.mmAll] at h
theorem vE(t:XV den):Sim (Y:=Y) (X.capOf aV t) (match er t with | .ptr p vs=>.ret (.ptr p vs) | .ip cs=>.ret (.ip cs) | .v x=>.ret (.v x) | .sl c=>.ret (.sl c) | _=>.fail) er:=by
 have Wn:Sim (Y:=Y) (if X.okCellX t && !X.isOwX t then X.ret t else X.fail aV) (match er t with | .ptr p vs=>.ret (.ptr p vs) | .ip cs=>.ret (.ip cs) | .v x=>.ret (.v x) | .sl c=>.ret (.sl c) | _=>.fail) er:=by
  refine Sim.ite (λh=>?_) λ_=>.fail;simp at h;rcases gr h.1 h.2 with ⟨y,hy⟩ | ⟨c,hc⟩
  ·rw[hy];exact .ret hy
  ·rw[hc];exact .ret hc
 cases t with
 | ptr p vs=>exact .ret rfl
 | ip cs=>exact .ret rfl
 | _=>exact Wn
theorem yO:∀{t:CT}{l r:List (XV den)}{x:den t},X.joinX aV t l=some (x,r)->erL l=enc t x++erL r:=by
 have one:∀{u:CT} (hu:X.oneT u=true) {l r:List (XV den)} {x:den u},X.joinC aV u l=some (x,r)->erL l=enc u x++erL r:=by
  intro u hu l r x h;unfold X.joinC at h;split at h
  ·rename_i t y r';have ⟨z,h1,h2⟩:=cU h
   injection h2 with h2 h3
   subst h2;subst h3;rw[js hu,tD h1];rfl
  ·simp at h
 intro t
 induction t with
 | pair a b Zn Zh=>
  intro l r x h;simp[X.joinX] at h;split at h
  ·rename_i x1 r1 h1;split at h
   ·rename_i y1 r2 h2
    injection h with h
    injection h with h h3
    subst h;subst h3;rw[Zn h1,Zh h2,<- List.append_assoc];rfl
   ·simp at h
  ·simp at h
 | nat=>intro l r x h;simp[X.joinX] at h
 | int k=>intro l r x h;exact one rfl h
 | bool=>intro l r x h;exact one rfl h
 | str=>intro l r x h;exact one rfl h
 | row o t=>intro l r x h;exact one rfl h
 | nilr o=>intro l r x h;exact one rfl h
theorem nN{t:CT}{l:List (XV den)}{x:den t}(h:X.joinOne aV t l=some x):erL l=enc t x:=by
 unfold X.joinOne at h;split at h
 ·rename_i y h1
  injection h with h
  subst h;rw[yO h1];simp[erL]
 ·simp at h
theorem uq{t:CT}:∀{ls:List (List (XV den))}{xs:List (den t)},X.joinAll aV t ls=some xs->ls.map erL=xs.map (enc t):=by
 intro ls
 induction ls with
 | nil=>intro xs h;simp[X.joinAll] at h;subst h;rfl
 | cons l ls ih=>
  intro xs h;simp[X.joinAll] at h;split at h
  ·rename_i x xs' h1 h2
   injection h with h
   subst h;simp only[List.map_cons];rw[nN h1,ih h2]
  ·simp at h
theorem yw{ZI:Option CT}{ls:List (List (XV den))}{v:XV den}(h:X.rowOf aV ZI ls=some v):er v=.ow (ls.map erL):=by
 unfold X.rowOf at h;split at h
 ·injection h with h;subst h;rfl
 ·split at h
  ·obtain⟨es,h1,rfl⟩:=cU h;rw[uq h1];rfl
  ·simp at h
theorem yy{ZI:Option CT}{n:Nat}{l:List (XV den)}{v:XV den}(h:X.repOf aV ZI n l=some v):er v=.ow (List.replicate n (erL l)):=by
 unfold X.repOf at h;split at h
 ·obtain⟨e,h1,rfl⟩:=cU h;rw[nN h1];show TV.ow (List.map _ (List.replicate n e))=_
  simp_all
 ·simp at h
theorem ju(t:CT) (xs:List (den t)):(List.map (enc t) xs).all (λe=>e.length==dZ t)=true:=by
 simp[bZ]
theorem zq{sz bytes:Nat}{c c2:List (List TV)}(h1:c.all (λe=>e.length==sz)=true) (h2:c2.all (λe=>e.length==sz)=true) (h:cz bytes c.length c2.length=true) :
 ((c++c2).all (λe=>e.length==sz) && decide (c.length+c2.length<=1099511627776) && decide ((c.length+c2.length)*bytes<=140737488355328))=true:=by
 rw[List.all_append,h1,h2];simpa [cz] using h
theorem zE(d sz bytes:Nat) (ZI:Option CT) (s x:XV den):Sim (Y:=Y) (X.appX aV d sz bytes ZI s x) (match er s,er x with
 | .ow c,.ow c2=>if (c++c2).all (λe=>e.length==sz) && decide (c.length+c2.length<=1099511627776) && decide ((c.length+c2.length)*bytes<=140737488355328) then inst d false [.ow (c++c2)] else .fail
 | .ow c,.sl c2=>if (c++c2).all (λe=>e.length==sz) && decide (c.length+c2.length<=1099511627776) && decide ((c.length+c2.length)*bytes<=140737488355328) then inst d false [.ow (c++c2)] else .fail
 | _,_=>.fail) id:=by
 have ZZ:∀{t:CT} {c c3:List (den t)} {c' Wm:List (List TV)} {a:XV den},dZ t=sz\/(c'=[]/\Wm=[])->c'=c.map (enc t)->Wm=c3.map (enc t)->er a=.ow (c'++Wm)->cz bytes c'.length Wm.length=true ->
  Sim (Y:=Y) (X.inst aV d false [a]) (if (c'++Wm).all (λe=>e.length==sz) && decide (c'.length+Wm.length<=1099511627776) && decide ((c'.length+Wm.length)*bytes<=140737488355328) then inst d false [.ow (c'++Wm)] else .fail) id:=by
  intro t c c3 c' Wm a hsz e1 e2 ea hok;rw[oIP]
  ·exact ev d false (by simp only[erL,ea])
  ·refine zq ?_ ?_ hok
   ·rcases hsz with hsz | ⟨h1,h2⟩
    ·rw[e1,<- hsz];exact ju t c
    ·rw[h1];rfl
   ·rcases hsz with hsz | ⟨h1,h2⟩
    ·rw[e2,<- hsz];exact ju t c3
    ·rw[h2];rfl
 cases s with
 | d ts c=>cases ts with
  | row ow t=>cases ow with
   | false=>exact .fail
   | true=>cases x with
    | d tx c2=>cases tx with
     | row o t2=>
      refine Sim.ite (λhsz=>Sim.opt λc3 h3=>Sim.br λhok=>?_) λ_=>.fail;have h4:=sb h3;have hok:cz bytes (List.length c) (List.length c2)=true:=hok
      have h5:List.map (enc t2) (c2:List (den t2))=List.map (enc t) (c3:List (den t)):=by
       cases o with
       | true=>
        have h6:=h4
        injection h6 with h6
        injection h6 with h6
        exact h6.symm
       | false=>
        have h6:=h4
        injection h6 with h6
        injection h6 with h6
        exact h6.symm
      cases o<;>exact ZZ (t:=t) (c:=c) (c3:=c3) (.inl hsz) rfl h5 (by show TV.ow (List.map (enc t) (List.append c c3))=_;rw[h5,<- List.map_append];rfl) (by simpa using hok)
     | nilr o=>
      refine Sim.ite (λhsz=>Sim.br λhok=>?_) λ_=>.fail;have hok:cz bytes (List.length c) 0=true:=hok;cases o<;>exact ZZ (t:=t) (c:=c) (c3:=[]) (.inl hsz) rfl rfl (by simp[er,er1]) (by simpa using hok)
     | _=>exact .fail
    | _=>exact .fail
  | nilr ow=>cases ow with
   | false=>exact .fail
   | true=>cases x with
    | d tx c2=>cases tx with
     | row o t2=>
      refine Sim.ite (λhsz=>Sim.opt λc3 h3=>Sim.br λhok=>?_) λ_=>.fail;have h4:=sb h3;have hok:cz bytes 0 (List.length c2)=true:=hok
      have h5:List.map (enc t2) (c2:List (den t2))=List.map (enc (X.resT ZI t2)) (c3:List (den (X.resT ZI t2))):=by
       cases o with
       | true=>
        have h6:=h4
        injection h6 with h6
        injection h6 with h6
        exact h6.symm
       | false=>
        have h6:=h4
        injection h6 with h6
        injection h6 with h6
        exact h6.symm
      cases o<;>exact ZZ (t:=t2) (c:=[]) (c3:=c2) (.inl hsz) rfl rfl (by show TV.ow (List.map (enc (X.resT ZI t2)) (List.append [] c3))=_;rw[h5];rfl) (by simpa using hok)
     | nilr o=>
      refine Sim.br λhok=>?_;have hok:cz bytes 0 0=true:=hok;cases o<;>exact ZZ (t:=.bool) (c:=[]) (c3:=[]) (.inr ⟨rfl,rfl⟩) rfl rfl rfl hok
     | _=>exact .fail
    | _=>exact .fail
  | _=>exact .fail
 | _=>exact .fail
end
section
variable {α β γ δ Y:Type}
theorem lD{x:Opd}{σ:XS den}{k:XV den->XS den->Option Y}{y:Y}(h:X.opd aV x σ k=some y):∃t σ',(opd x).run (erS σ)=some (er t,erS σ)/\erS σ'=erS σ/\gf σ σ' ((opd x).foot (erS σ))/\k t σ'=some y:=by
 have ⟨t,σ',h1,h2,h3⟩:=ko x σ k y h
 have e:erS σ'=erS σ:=by
  cases x with
  | t i=>simp[opd,SP.run] at h1;exact h1.2.symm
  | c v=>simp[opd,SP.run] at h1;exact h1.2.symm
  | f f=>simp[opd,SP.run] at h1;exact h1.2.symm
 rw[e] at h1;exact⟨t,σ',h1,e,h2,h3⟩
theorem lI{t:CT}(h:X.flat1 t=true):∀x:den t,∃v,er (.d t x)=.v v:=by
 cases t<;>simp[X.flat1] at h
 all_goals exact λx=>⟨_,rfl⟩
theorem yE{d:Nat}{tc ta tb:XV den}{σ:XS den}{k:Unit->XS den->Option Y}{y:Y}(h:X.pickX aV d tc ta tb σ k=some y):∃c v t,er tc=.v (.bool c)/\er (if c then ta else tb)=.v v/\er t=.v v/\X.wr aV d t σ k=some y:=by
 unfold X.pickX at h;split at h
 ·rename_i c k1 x k2 z;split at h
  ·rename_i hk;subst hk;refine⟨c,.int k2 (bif c then x else z),_,rfl,?_,rfl,h⟩;cases c<;>rfl
  ·cases h
 ·rename_i c x z;refine⟨c,.bool (bif c then x else z),_,rfl,?_,rfl,h⟩;cases c<;>rfl
 ·rename_i c x z;refine⟨c,.string (bif c then x else z),_,rfl,?_,rfl,h⟩;cases c<;>rfl
 ·split at h
  ·rename_i hf
   rename den .bool=>c
   cases c with
   | true=>exact⟨true,_,_,rfl,(lI hf _).choose_spec,(lI hf _).choose_spec,h⟩
   | false=>cases h
  ·cases h
 ·split at h
  ·rename_i hf
   rename den .bool=>c
   cases c with
   | false=>exact⟨false,_,_,rfl,(lI hf _).choose_spec,(lI hf _).choose_spec,h⟩
   | true=>cases h
  ·cases h
 ·cases h
theorem z2(HT:List (Nat×CT)) (d:Nat) (c a b:Opd):Sim (Y:=Y) (X.ev1 aV HT d (.pick c a b)) (ev1 d (.pick c a b)) id:=by
 intro σ k y hk;obtain⟨tc,σ1,r1,e1,n1,hk⟩:=lD (show X.opd aV c σ (λtc σ1=>X.opd aV a σ1 λta σ2=>X.opd aV b σ2 λtb σ3=>X.pickX aV d tc ta tb σ3 k)=some y from hk);obtain⟨ta,σ2,r2,e2,n2,hk⟩:=lD hk;obtain⟨tb,σ3,r3,e3,n3,hk⟩:=lD hk;obtain⟨cv,v,t,h1,h2,h3,hk⟩:=yE hk;obtain⟨u,σ',r4,n4,hk⟩:=bp d h3 σ3 k y hk
 have Rb:erS σ3=erS σ:=by rw[e3,e2,e1]
 have hx:(opd (if cv then a else b)).run (erS σ)=some (.v v,erS σ)/\gf σ1 σ3 ((opd (if cv then a else b)).foot (erS σ)):=by
  rw[e1] at r2 n2;rw[e2,e1] at r3 n3
  cases cv with
  | true=>exact⟨by simp_all,⟨λx hx=>n3.r0 x (n2.r x hx),λx hx=>n3.w0 x (n2.w x hx),λx hx=>n3.r0 x (n2.r0 x hx),λx hx=>n3.w0 x (n2.w0 x hx)⟩⟩
  | false=>exact⟨by simp_all,⟨λx hx=>n3.r x hx,λx hx=>n3.w x hx,λx hx=>n3.r0 x (n2.r0 x hx),λx hx=>n3.w0 x (n2.w0 x hx)⟩⟩
 obtain⟨Z4,Xq⟩:=hx
 have rc:(opd c).run (erS σ)=some (.v (.bool cv),erS σ):=by rw[r1,h1]
 refine⟨(),σ',?_,?_,hk⟩
 ·simp only[ev1];rw[SP.run_bind,rc];simp;rw[SP.run_bind,Z4]
  simp_all
 ·simp only[ev1];rw[bm _ _ rc];simp only;rw[bm _ _ Z4];rw[Rb] at n4;refine⟨λx hx=>?_,λx hx=>?_,λx hx=>n4.r0 x (Xq.r0 x (n1.r0 x hx)),λx hx=>n4.w0 x (Xq.w0 x (n1.w0 x hx))⟩
  ·rcases List.mem_append.1 hx with hx | hx
   ·exact n4.r0 x (Xq.r0 x (n1.r x hx))
   ·rcases List.mem_append.1 hx with hx | hx
    ·exact n4.r0 x (Xq.r x hx)
    ·exact n4.r x hx
  ·rcases List.mem_append.1 hx with hx | hx
   ·exact n4.w0 x (Xq.w0 x (n1.w x hx))
   ·rcases List.mem_append.1 hx with hx | hx
    ·exact n4.w0 x (Xq.w x hx)
    ·exact n4.w x hx
theorem wJ{n:Option Nat}{cs:List (XV den)}{t:XV den}(h:X.loadIp n cs=some t):loadIp n (erL cs)=some (er t):=by
 cases n with
 | none=>
  cases cs with
  | nil=>simp[X.loadIp] at h
  | cons x cs=>
   have ZZ:(if X.okCellX x && !X.isOwX x then some x else none)=some t->loadIp none (erL (x :: cs))=some (er t):=λh=>by
    split at h
    ·rename_i hc
     injection h with h
     subst h;simp at hc;rcases gr hc.1 hc.2 with ⟨y,hy⟩ | ⟨c,hc⟩
     ·simp only[loadIp,erL,hy]
     ·simp only[loadIp,erL,hc]
    ·simp at h
   cases x with
   | ip l=>simp only[X.loadIp,oSJ] at h;subst h;rfl
   | fn f l=>simp only[X.loadIp,oSJ] at h;subst h;rfl
   | _=>exact ZZ h
 | some n=>
  simp only[X.loadIp] at h;split at h
  ·rename_i hc
   injection h with h
   subst h;simp only[oBA,oDE] at hc;simp only[loadIp];rw[oIP]
   ·simp only[er,iW]
   ·simp only[oBA,oDE];refine⟨by rw[b9];exact hc.1,?_⟩;rw[<- iW,dW,List.all_map,List.all_eq_true];intro x hx;have:=List.all_eq_true.1 hc.2 x hx;simp at this;simp;rcases gr this.1 this.2 with ⟨y,hy⟩ | ⟨c,hc⟩
    ·rw[hy]
    ·rw[hc]
  ·simp at h
theorem mr:∀{t:CT}(x:den t),X.flatT t=true->∃vs,bo (enc t x)=some vs/\vs.length=dZ t/\(vs.all cO=true)/\enc t x=vs.map TV.v/\0 < dZ t:=by
 intro t
 induction t with
 | int k=>intro x _;exact⟨[.int k x],rfl,rfl,rfl,rfl,Nat.one_pos⟩
 | bool=>intro x _;exact⟨[.bool x],rfl,rfl,rfl,rfl,by decide⟩
 | str=>intro x _;exact⟨[.string x],rfl,rfl,rfl,rfl,by decide⟩
 | pair a b Zn Zh=>
  intro x h;simp only[X.flatT,oBA] at h;obtain⟨vs,e1,e2,e3,e4,e5⟩:=Zn x.1 h.1;obtain⟨ws,f1,f2,f3,f4,f5⟩:=Zh x.2 h.2;refine⟨vs++ws,?_,by simp[e2,f2,dZ],by simp_all,by show enc a x.1++enc b x.2=_;rw[e4,f4];simp,by simp[dZ];omega⟩;show bo (enc a x.1++enc b x.2)=_;rw[e4,f4]
  have:∀l:List Value,bo (l.map TV.v)=some l:=by
   intro l
   induction l with
   | nil=>rfl
   | cons y l ih=>simp[bo,ih]
  rw[<- List.map_append,this]
 | _=>intro x h;simp[X.flatT] at h
theorem wu(sz:Nat) (h0:0 < sz):∀(vs:List Value) (c:List (List TV)) (lo j:Nat) (rest:List Value),j+vs.length=sz->(∀el,c[lo]?=some el->el.length=sz)->gt sz c (lo*sz+j) (vs++rest)=gt sz (c.modify lo λel=>el.take j++vs.map TV.v) ((lo+1)*sz) rest:=by
 intro vs
 induction vs with
 | nil=>
  intro c lo j rest hj Zd
  have hj:j=sz:=by simpa using hj
  subst hj;simp
  have e:(c.modify lo λel=>el.take j)=c:=by
   apply List.ext_getElem?;intro i;rw[List.getElem?_modify];by_cases h:lo=i
   ·subst h
    cases hc:c[lo]? with
    | none=>rfl
    | some el=>simp only[if_true];show some (el.take j)=some el;rw[List.take_of_length_le (by rw[Zd el hc];exact Nat.le_refl _)]
   ·simp only[oIN h];cases c[i]?<;>rfl
  rw[e,Nat.succ_mul]
 | cons v vs ih=>
  intro c lo j rest hj Zd;simp only[oLC] at hj
  have hjs:j < sz:=by omega
  show gt sz (c.modify ((lo*sz+j) / sz) λel=>el.modify ((lo*sz+j) % sz) λ_=>.v v) (lo*sz+j+1) (vs++rest)=_
  have e1:(lo*sz+j) / sz=lo:=by rw[Nat.mul_comm,Nat.mul_add_div h0,Nat.div_eq_of_lt hjs];rfl
  have e2:(lo*sz+j) % sz=j:=by rw[Nat.mul_comm,Nat.mul_add_mod,Nat.mod_eq_of_lt hjs]
  rw[e1,e2,show lo*sz+j+1=lo*sz+(j+1) by omega]
  have VJ:∀el,(c.modify lo λel=>el.modify j λ_=>.v v)[lo]?=some el->el.length=sz:=by simp_all
  rw[ih _ lo (j+1) rest (by omega) VJ];congr 1;apply List.ext_getElem?;intro i;simp only[List.getElem?_modify];by_cases h:lo=i
  ·subst h;simp only[if_true]
   cases hc:c[lo]? with
   | none=>rfl
   | some el=>
    simp only[Option.map_eq_map,oMS,oSJ];have hl:=Zd el hc;apply List.ext_getElem?;intro m;simp only[List.map_cons];by_cases hm:m < j
    ·rw[List.getElem?_append_left (by rw[oLT,oLM];omega),List.getElem?_append_left (by rw[oLT];omega),List.getElem?_take,List.getElem?_take,oIP (by omega),oIP (by omega),List.getElem?_modify]
     have:¬ j=m:=by omega
     simp only[this,if_false];simp
    ·by_cases hm2:m=j
     ·subst hm2;rw[List.getElem?_append_left (by rw[oLT,oLM];omega),List.getElem?_append_right (by rw[oLT];omega),List.getElem?_take,oIP (by omega),List.getElem?_modify,oLT]
      have:m - min m el.length=0:=by omega
      rw[this]
      have h3:m < el.length:=by omega
      rw[oGE h3];simp
     ·rw[List.getElem?_append_right (by rw[oLT,oLM];omega),List.getElem?_append_right (by rw[oLT];omega),oLT,oLT,oLM]
      have:m - min j el.length=(m - min (j+1) el.length)+1:=by omega
      rw[this,List.getElem?_cons_succ]
  ·simp only[oIN h];cases c[i]?<;>rfl
theorem uh{t:CT}(hf:X.flatT t=true):∀(ys xs:List (den t)) (lo:Nat) (vals:List Value),bo ((ys.map (enc t)).flatten)=some vals->lo+ys.length<=xs.length->gt (dZ t) (xs.map (enc t)) (lo*dZ t) vals=(xs.take lo++ys++xs.drop (lo+ys.length)).map (enc t):=by
 intro ys
 induction ys with
 | nil=>
  intro xs lo vals h hl;simp only[List.map_nil,List.flatten_nil,bo,oSJ] at h;subst h;simp[gt]
 | cons y ys ih=>
  intro xs lo vals h hl;simp only[oLC] at hl;obtain⟨vs,e1,e2,e3,e4,e5⟩:=mr y hf
  obtain⟨ws,h2,rfl⟩:∃ws,bo ((ys.map (enc t)).flatten)=some ws/\vals=vs++ws:=by
   simp only[List.map_cons,List.flatten_cons,e4] at h
   have:∀(l:List Value) (r:List TV),bo (l.map TV.v++r)=(bo r).map (l++·):=by
    intro l r
    induction l with
    | nil=>simp
    | cons z l ih=>simp only[List.map_cons,List.cons_append,bo,ih];cases bo r<;>rfl
   rw[this] at h;obtain⟨ws,h3,h4⟩:=cU h
   simp_all
  have:=wu (dZ t) e5 vs (xs.map (enc t)) lo 0 ws (by omega) (λel Zd=>by
   rw[List.getElem?_map] at Zd
   cases hx:xs[lo]? with
   | none=>rw[hx] at Zd;simp at Zd
   | some z=>rw[hx] at Zd;simp only[oMS,oSJ] at Zd;rw[<- Zd,bZ])
  rw[Nat.add_zero] at this;rw[this]
  have e6:((xs.map (enc t)).modify lo λel=>el.take 0++vs.map TV.v)=(xs.set lo y).map (enc t):=by
   apply List.ext_getElem?;intro i;by_cases hi:lo=i
   ·subst hi
    have hlt:lo < xs.length:=by omega
    simp[hlt,e4]
   ·simp[hi]
  rw[e6,ih (xs.set lo y) (lo+1) ws h2 (by rw[List.length_set];omega)];congr 1;rw[List.take_set,List.drop_set,oIP (by omega)]
  have:(xs.take (lo+1)).set lo y=xs.take lo++[y]:=by
   rw[List.take_succ_eq_append_getElem (by omega:lo < xs.length),List.set_append_right _ _ (by rw[oLT];omega)];congr 1
   have:lo - (xs.take lo).length=0:=by rw[oLT];omega
   rw[this];rfl
  rw[this];simp;rw[show lo+1+ys.length=lo+(ys.length+1) by omega]
end
section
variable {α β γ δ Y:Type}
theorem lQ{c:Bool}{m m':XM den Option Y α}{s:SP β}{f:α->β}(h:c=true->Sim m s f) (h':c=false->Sim m' s f):Sim (X.forkM aV c m m') s f:=by
 intro σ k y hk
 cases c with
 | true=>exact h rfl σ k y hk
 | false=>exact h' rfl σ k y hk
def uF(v:XV den):List (List TV):=match er v with | .sl c=>c | .ow c=>c | _=>[]
theorem nq(t:XV den):Sim (Y:=Y) (X.contentOf aV t) (contentOf (er t)) uF:=by
 cases t with
 | d t x=>cases t with
  | row o t=>cases o with
   | false=>exact .ret rfl
   | true=>exact .fail
  | nilr o=>cases o<;>exact .ret rfl
  | _=>exact .fail
 | pk p vs=>
  refine (cl p _ vs).bind λ_=>(dS p).bind λt=>?_
  cases t with
  | d t x=>cases t with
   | row o t=>cases o with
    | true=>exact .ret rfl
    | false=>exact .fail
   | nilr o=>cases o with
    | true=>exact .ret rfl
    | false=>exact .fail
   | _=>exact .fail
  | _=>exact .fail
 | pw p vs sz lo n=>
  refine (cl p _ vs).bind λ_=>(dS p).bind λt=>?_
  cases t with
  | d t x=>cases t with
   | row o t=>cases o with
    | true=>
     refine .ret ?_;show List.map (enc t) ((List.drop lo x).take n)=((List.map (enc t) x).drop lo).take n
     simp_all
    | false=>exact .fail
   | _=>exact .fail
  | _=>exact .fail
 | _=>exact .fail
theorem vW{t:CT}(hf:X.flatT t=true):∀zs:List (den t),∃vals,bo ((zs.map (enc t)).flatten)=some vals/\vals.all cO=true/\(zs≠[]->∃v vs,vals=v :: vs)/\(zs=[]->vals=[]):=by
 intro zs
 induction zs with
 | nil=>exact⟨[],rfl,rfl,λh=>absurd rfl h,λ_=>rfl⟩
 | cons z zs ih=>
  obtain⟨ws,h1,h2,_⟩:=ih;obtain⟨vs,e1,e2,e3,e4,e5⟩:=mr z hf
  have:∀(l:List Value) (r:List TV),bo (l.map TV.v++r)=(bo r).map (l++·):=by
   intro l r
   induction l with
   | nil=>simp
   | cons z l ih=>simp[List.map_cons,bo,ih];cases bo r<;>rfl
  refine⟨vs++ws,?_,by simp_all,λ_=>?_,λh=>by simp at h⟩
  ·simp_all
  ·cases vs with
   | nil=>simp_all
   | cons v vs=>simp_all
theorem wM{t:CT}(hf:X.flatT t=true) (x:den t):(enc t x).all isV=true:=by
 have ⟨vs,_,_,_,e4,_⟩:=mr x hf;rw[e4,List.all_map,List.all_eq_true];intro y _;rfl
theorem xj{t:CT}(hf:X.flatT t=true) (xs ys:List (den t)) (lo n:Nat) (Y1:lo+min ys.length n<=xs.length) :
 zi (dZ t) (xs.map (enc t)) (ys.map (enc t)) lo n=if 0 < min ys.length n then some (min ys.length n,some ((fu xs lo (min ys.length n) ys).map (enc t))) else some (min ys.length n,none):=by
 obtain⟨vals,h1,h2,h3,h4⟩:=vW hf (ys.take (min ys.length n))
 have e5:0 < dZ t:=by
  clear h1 h2 h3 h4 Y1
  induction t with
  | pair a b Zn Zh=>
   simp only[X.flatT,oBA] at hf;simp only[dZ];have:=Zn hf.1 [] [];omega
  | int k=>exact Nat.one_pos
  | bool=>exact Nat.one_pos
  | str=>exact Nat.one_pos
  | _=>simp[X.flatT] at hf
 unfold zi;rw[List.length_map,<- List.map_take,h1];by_cases hm:0 < min ys.length n
 ·rw[oIP hm];obtain⟨v,vs,hv⟩:=h3 (by intro h;have:=congrArg List.length h;rw[oLT,List.length_nil] at this;omega);rw[hv];simp only;rw[oIP,<- hv]
  ·have hp:=uh hf (ys.take (min ys.length n)) xs lo vals h1 (by rw[oLT];omega);rw[hp]
   have e:(List.take (min ys.length n) ys).length=min ys.length n:=by rw[oLT];omega
   rw[e];rfl
  ·simp only[oBA,oDE];refine⟨⟨⟨⟨⟨e5,ju t xs⟩,ju t ys⟩,by rw[List.length_map];exact Y1⟩,?_⟩,by rw[<- hv];exact h2⟩;rw[<- List.map_drop,<- List.map_take,List.all_map,List.all_eq_true];intro x _;exact wM hf x
 ·rw[oIN hm]
  have:ys.take (min ys.length n)=[]:=by simp_all
  rw[h4 this];rw[oIP];simp only[oBA,oDE];exact⟨e5,ju t ys⟩
theorem zD(d sz:Nat) (p:XP den) (lo:Nat) (n:Option Nat) (tv c2:XV den):Sim (Y:=Y) (X.cpyX aV d sz p lo n tv c2) (match bh (er tv) p.hops with | some (.ow c)=>oZ d (erP p) (er tv) (zi sz c (uF c2) lo (n.getD c.length)) | _=>.fail) id:=by
 refine lA λv hv=>?_;rw[hv]
 cases v with
 | d tt x=>cases tt with
  | row o t=>cases o with
   | false=>exact .fail
   | true=>cases c2 with
    | d t2 y=>cases t2 with
     | row o2 t2=>
      by_cases hc:jb t2 t=true/\dZ t=sz/\X.flatT t=true
      ·have he:=j3 hc.1;subst he;show Sim (if h:jb t2 t2=true/\dZ t2=sz/\X.flatT t2=true then _ else _) _ id;rw[dif_pos hc];refine Sim.opt λYH htv=>Sim.br λhok=>?_
       have hok:g8 lo (lo+min (List.length (y:List (den t2))) (n.getD (List.length (x:List (den t2))))) (List.length (x:List (den t2)))=true:=by
        have h9:=hok;cases n<;>exact h9
       have Y1:lo+min (List.length (y:List (den t2))) (n.getD (List.length (x:List (den t2))))<=List.length (x:List (den t2)):=by
        simp only[g8,oBA,oDE] at hok;exact hok.2
       have Ug:uF (.d (.row o2 t2) y:XV den)=List.map (enc t2) (y:List (den t2)):=by cases o2<;>rfl
       have Yp:er (.d (.row true t2) x:XV den)=.ow (List.map (enc t2) (x:List (den t2))):=rfl;rw[Yp,Ug];simp only[List.length_map];rw[<- hc.2.1,xj hc.2.2 x y lo _ Y1];have hset:=AC htv;refine lQ (λhb=>?_) λhb=>?_
       ·have hb:Nat.blt 0 (min (List.length (y:List (den t2))) (n.getD (List.length (x:List (den t2)))))=true:=by cases n<;>exact hb
        rw[oIP (by simp_all)];refine Sim.wrC ?_ (bp d ?_)
        ·rw[hset];cases n<;>rfl
        ·cases n<;>rfl
       ·have hb:Nat.blt 0 (min (List.length (y:List (den t2))) (n.getD (List.length (x:List (den t2)))))=false:=by cases n<;>exact hb
        rw[oIN (by intro h;rw[Bool.eq_false_iff] at hb;exact hb (by simpa using h))];refine bp d ?_;cases n<;>rfl
      ·show Sim (if h:jb t2 t=true/\dZ t=sz/\X.flatT t=true then _ else _) _ id;rw[dif_neg hc];exact .fail
     | nilr o2=>
      refine Sim.ite (λh0=>?_) λ_=>.fail
      have Ug:uF (.d (.nilr o2) y:XV den)=[]:=by cases o2<;>rfl
      have Yp:er (.d (.row true t) x:XV den)=.ow (List.map (enc t) (x:List (den t))):=rfl;rw[Yp,Ug]
      have:zi sz (List.map (enc t) (x:List (den t))) [] lo (n.getD (List.map (enc t) (x:List (den t))).length)=some (0,none):=by
       simp[zi,bo,h0]
      simp only[this];exact bp d rfl
     | _=>exact .fail
    | _=>exact .fail
  | _=>exact .fail
 | _=>exact .fail
end
section
variable {α β γ δ Y:Type}
theorem aY{x:Opd}{g:XV den->XM den Option Y γ}{h:TV->SP δ}{f:γ->δ}(H:∀t,Sim (g t) (h (er t)) f):Sim (X.bind (X.opd aV x) g) ((opd x).bind h) f:=(ko x).bind H
theorem vD(k:Nat) {s:SP β}{f:α->β}:∀(n:Nat) (g:Nat->XM den Option Y α) (i:Nat),(∀j,i<=j->j < i+n->k=j->Sim (g j) s f)->Sim (X.caseM aV k n g i) s f:=by
 intro n
 induction n with
 | zero=>intro g i _;exact .fail
 | succ n ih=>
  intro g i h;refine lQ (λhb=>h i (Nat.le_refl _) (by omega) ?_) λhb=>ih g (i+1) λj h1 h2 h3=>h j (by omega) (by omega) h3;have hb:Nat.beq k i=true:=hb
  simp_all
theorem Bw(HT:List (Nat×CT)) (d:Nat) (op:TOp):Sim (Y:=Y) (X.ev1 aV HT d op) (ev1 d op) id:=by
 cases op with
 | mov x=>
  refine aY λt=>?_
  cases t with
  | d t y=>
   cases ho:X.isOwT t with
   | true=>
    obtain⟨c,hc⟩:=fT (v:=.d t y) ho;rw[hc];show Sim (if X.isOwT t then _ else _) _ id;rw[oIP ho]
    cases x with
    | c v=>exact ev d false (by simp only[erL,hc])
    | _=>exact .fail
   | false=>
    show Sim (if X.isOwT t then _ else _) _ id;rw[oIN (by rw[ho];simp)]
    have h1:fL (er (.d t y))=false:=by rw[jR];exact ho
    cases t with
    | row o t=>cases o<;>first | exact bp d rfl | simp[X.isOwT] at ho
    | nilr o=>cases o<;>first | exact bp d rfl | simp[X.isOwT] at ho
    | _=>exact bp d rfl
  | agg l=>
   show Sim (if l.any X.isOwX then _ else _) (if (erL l).any fL then .fail else wr d (.agg (erL l))) id;rw[zZ];refine Sim.ite (λ_=>.fail) λh=>?_;rw[oIN h];exact bp d rfl
  | gap=>exact .fail
  | _=>exact bp d rfl
 | asn mv x=>
  refine aY λt=>?_
  cases t with
  | ptr p vs=>exact bp d rfl
  | ip cs=>exact bp d rfl
  | fn f cap=>exact bp d rfl
  | d t y=>
   cases t with
   | row o t=>cases o<;>exact (ii mv (.d _ y)).bind λl=>ev d l.2 rfl
   | nilr o=>cases o<;>exact (ii mv (.d _ y)).bind λl=>ev d l.2 rfl
   | _=>exact (ii mv (.d _ y)).bind λl=>ev d l.2 rfl
  | _=>exact (ii mv _).bind λl=>ev d l.2 rfl
 | pick c a b=>exact z2 HT d c a b
 | alloc z=>
  refine Sim.ite (λh=>?_) λ_=>.fail;show Sim _ (if (z.map b7).all bL then _ else _) id;rw[oIP (kw h)];exact Sim.new (lM z) (Sim.rdV λg=>bp d rfl)
 | box n mv x=>
  refine aY λt=>?_;rw[j5];refine (gj mv _).bind λl=>Sim.ite (λh=>?_) λ_=>.fail;rw[oIP (by rw[b9];exact h)];exact Sim.new rfl (Sim.rdV λg=>bp d rfl)
 | boxi n x=>
  refine aY λt=>?_;refine Sim.ite (λh=>?_) λ_=>Sim.ite (λh=>?_) λ_=>.fail
  ·rw[oIP (yQ h)];refine Sim.ite (λhn=>?_) λ_=>.fail;rw[oIP hn];exact bp d rfl
  ·rw[oIN (AU h)];rw[j5];refine (gj false _).bind λl=>Sim.opt λl' hl=>Sim.ite (λhn=>?_) λ_=>.fail;rw[oIP (by rw[b9];exact hn)];exact bp d (by simp only[er,sY hl])
 | load n a=>
  refine aY λt=>?_
  cases t with
  | ptr p vs=>
   refine (cl p _ vs).bind λ_=>?_
   cases n with
   | none=>exact (vo p).bind λt'=>bp d rfl
   | some n=>exact (pC p n).bind λl=>bp d rfl
  | ip cs=>
   simp only[er]
   cases h:X.loadIp n cs with
   | none=>exact .fail
   | some t=>simp only[wJ h];exact bp d rfl
  | _=>exact .fail
 | store n mv a x=>
  refine aY λta=>?_
  cases ta with
  | ptr p vs=>
   refine aY λtx=>?_;rw[j5];refine (gj mv _).bind λl=>Sim.ite (λh=>?_) λ_=>.fail;rw[oIP (by rw[b9];exact h)];exact (cl p _ vs).bind λ_=>sy p l
  | _=>exact .fail
 | nilc x=>
  refine aY λt=>?_
  cases t with
  | ptr p vs=>exact (cl p _ vs).bind λ_=>bp d rfl
  | ip cs=>exact bp d rfl
  | fn f cap=>exact bp d rfl
  | _=>exact .fail
 | fld off a=>
  refine aY λt=>?_
  cases t with
  | ptr p vs=>
   refine (cl p _ vs).bind λ_=>Sim.ite (λh=>?_) λ_=>.fail;rw[oIP (by rw[<- oT];exact h)];exact bp d (by simp only[er,rM])
  | ip cs=>
   refine Sim.ite (λh=>?_) λ_=>.fail;show Sim _ (if off < (erL cs).length then _ else _) id;rw[oIP (by rw[b9];exact h)];exact bp d (by simp only[er,j0])
  | _=>exact .fail
 | fldv off n x=>
  refine aY λt=>?_
  cases t with
  | agg l=>
   cases n with
   | none=>
    refine Sim.ite (λh=>?_) λ_=>.fail;show Sim _ (if off < (erL l).length then _ else _) id;rw[oIP (by rw[b9];exact h)];exact bp d (lJ l off)
   | some n=>
    refine Sim.ite (λh=>?_) λ_=>.fail;show Sim _ (if off+n<=(erL l).length then _ else _) id;rw[oIP (by rw[b9];exact h)];exact bp d (by simp only[er,iW,j0])
  | _=>exact .fail
 | idx sz x i=>
  refine aY λt=>aY λti=>(gk ti).bind λk=>?_
  cases t with
  | pk p vs=>
   refine (cl p _ vs).bind λ_=>(sB p).bind λt=>?_
   cases t with
   | d tt x=>cases tt with
    | row o t=>cases o with
     | false=>exact .fail
     | true=>
      refine Sim.ite (λh=>?_) λ_=>.fail;refine Sim.get λe he=>?_
      have hk:k < (x:List (den t)).length:=by
       rcases Nat.lt_or_ge k (x:List (den t)).length with h | h
       ·exact h
       ·rw[oGN h] at he;cases he
      show Sim _ (if k < (List.map List.length (List.map (enc t) (x:List (den t)))).length && (List.map List.length (List.map (enc t) (x:List (den t)))).getD k 0==sz && decide (0 < sz) then _ else _) id;rw[mp,oIP]
      ·exact bp d rfl
      ·simp only[oBA,oDE,beq_iff_eq,List.length_map];refine⟨⟨hk,?_⟩,h.2⟩;rw[oGD,List.getElem?_map,he];simp[bZ,h.1]
    | _=>exact .fail
   | gap t x i' o'=>
    refine Sim.ite (λh=>?_) λ_=>.fail;refine Sim.get λe he=>?_
    have hk:k < (x:List (den t)).length:=by
     rcases Nat.lt_or_ge k (x:List (den t)).length with h | h
     ·exact h
     ·rw[oGN h] at he;cases he
    have SR:(er (.gap t x i' o':XV den)).hd=some (List.map List.length (List.map (enc t) (x:List (den t)))):=mn (hs:=[(i',0,o')]) (by simp);rw[SR];show Sim _ (if k < (List.map List.length (List.map (enc t) (x:List (den t)))).length && (List.map List.length (List.map (enc t) (x:List (den t)))).getD k 0==sz && decide (0 < sz) then _ else _) id;rw[mp,oIP]
    ·exact bp d rfl
    ·simp only[oBA,oDE,beq_iff_eq,List.length_map];refine⟨⟨hk,?_⟩,h.2⟩;rw[oGD,List.getElem?_map,he];simp[bZ,h.1]
   | _=>exact .fail
  | pw p vs sz' lo n=>
   refine (cl p _ vs).bind λ_=>(dS p).bind λt=>?_
   cases t with
   | d tt x=>cases tt with
    | row o t=>cases o with
     | false=>exact .fail
     | true=>
      refine Sim.ite (λh=>?_) λ_=>.fail;refine Sim.br λhb=>Sim.get λe he=>?_;have hb:Nat.blt k n=true:=hb
      have hb:k < n:=by simpa using hb
      have he:(x:List (den t))[lo+k]?=some e:=he;show Sim _ (if k < n && ((List.map (enc t) (x:List (den t))).getD (lo+k) []).length==sz && sz'==sz && decide (0 < sz) then _ else _) id;rw[oIP]
      ·exact bp d rfl
      ·simp only[oBA,oDE,beq_iff_eq];refine⟨⟨⟨hb,?_⟩,h.2.2⟩,h.2.1⟩;rw[oGD,List.getElem?_map,he];simp[bZ,h.1]
    | _=>exact .fail
   | _=>exact .fail
  | d tt x=>cases tt with
   | row o t=>cases o with
    | true=>exact .fail
    | false=>
     refine Sim.ite (λh=>?_) λ_=>.fail;refine Sim.get λe he=>?_;have he:(x:List (den t))[k]?=some e:=he
     have hk:k < (x:List (den t)).length:=by
      rcases Nat.lt_or_ge k (x:List (den t)).length with h | h
      ·exact h
      ·rw[oGN h] at he;cases he
     have hg:(List.map (enc t) (x:List (den t))).getD k []=enc t e:=by
      rw[oGD,List.getElem?_map,he];rfl
     show Sim _ (if k < (List.map (enc t) (x:List (den t))).length && ((List.map (enc t) (x:List (den t))).getD k []).length==sz && decide (0 < sz) then wr d (.ip ((List.map (enc t) (x:List (den t))).getD k [])) else _) id;rw[hg,oIP]
     ·exact bp d (by simp only[er,jz])
     ·simp only[oBA,oDE,beq_iff_eq,List.length_map];exact⟨⟨hk,by rw[bZ];exact h.1⟩,h.2⟩
   | nilr o=>cases o<;>exact .fail
   | _=>exact .fail
  | _=>exact .fail
 | ext x i=>
  refine aY λt=>?_
  cases t with
  | tup l=>
   refine Sim.ite (λh=>?_) λ_=>.fail;show Sim _ (if i < (erL l).length then _ else _) id;rw[oIP (by rw[b9];exact h)];exact bp d (lJ l i)
  | _=>exact .fail
 | bin op x y=>exact aY λa=>aY λb=>Bx d op a b
 | bnb neg x y=>
  refine aY λa=>aY λb=>?_
  cases a with
  | d t a=>cases t with
   | bool=>cases b with
    | d u b=>cases u with
     | bool=>
      show Sim _ (wr d (.v (.bool (if neg then !((a:Bool)==b) else (a:Bool)==b)))) id;refine bp d ?_;cases neg<;>rfl
     | _=>exact .fail
    | _=>exact .fail
   | _=>exact .fail
  | _=>exact .fail
 | eqa ks neg x y=>
  refine aY λa=>aY λb=>?_
  cases a with
  | agg a=>cases b with
   | agg b=>
    simp only[er]
    cases h:X.eqAll aV ks a b with
    | none=>exact .fail
    | some r=>
     obtain⟨vs,ws,h1,h2,h3⟩:=zf h;rw[h1,h2];show Sim _ ((eP (bx ks vs ws)).bind λr=>wr d (.v (.bool (if neg then !r else r)))) id;rw[h3];refine bp d ?_;cases neg<;>rfl
   | _=>exact .fail
  | _=>exact .fail
 | un op x=>
  refine aY λa=>?_
  cases a with
  | d t a=>cases t with
   | bool=>cases op<;>first | exact .fail | exact bp d rfl
   | int k=>cases op<;>first | exact .fail | exact bp d rfl
   | _=>cases op<;>exact .fail
  | _=>cases op<;>exact .fail
 | conv k x=>
  refine aY λa=>?_
  cases a with
  | d t a=>cases t with
   | int k0=>exact bp d rfl
   | _=>exact .fail
  | _=>exact .fail
 | bld z mv parts=>
  refine Sim.ite (λh=>?_) λ_=>.fail;show Sim _ (if (z.map b7).all bL then _ else _) id;rw[oIP (kw h)];refine (jA mv parts).bind λl=>(lW d l).bind λl'=>bp d ?_;simp only[er];rw[qF,lM]
 | bsl sz mv len parts=>
  refine (jA mv _).bind λl=>Sim.ite (λh=>?_) λ_=>.fail;rw[oIP h];refine Sim.opt λv hv=>ev d false ?_;simp only[erL,yw hv,uO]
 | mks sz z l c=>
  refine Sim.ite (λh=>?_) λ_=>.fail;simp only[oBA] at h;show Sim _ (if (z.map b7).all bL && z.length==sz then _ else _) id;rw[oIP (by simp only[oBA];exact⟨kw h.1,h.2⟩)];refine aY λtl=>aY λtc=>(gk tl).bind λn=>(gk tc).bind λm=>Sim.br λhok=>?_;have hok:AR n m sz=true:=hok;rw[oIP (by simpa [AR] using hok)];refine Sim.opt λv hv=>ev d false ?_;simp only[erL,yy hv,lM,id_eq]
 | slc sz x lo hi=>
  refine aY λt=>(lX t).bind λn=>(nC lo 0).bind λl=>(nC hi n).bind λh=>Sim.br λhok=>?_;have hok:g8 l h n=true:=hok;rw[oIP (by simpa [g8] using hok)]
  cases t with
  | d tt x=>cases tt with
   | row o t=>cases o with
    | true=>exact .fail
    | false=>
     refine Sim.ite (λhs=>?_) λ_=>.fail;show Sim _ (if (List.map (enc t) (x:List (den t))).all (λe=>e.length==sz) then _ else _) id;rw[oIP (by rw[<- hs];exact ju t x)];refine bp d ?_;show TV.sl (List.map (enc t) ((List.drop l (x:List (den t))).take (h - l)))=_;rw[List.map_take,List.map_drop];rfl
   | nilr o=>cases o with
    | false=>
     show Sim _ (if ([]:List (List TV)).all (λe=>e.length==sz) then wr d (.sl ((([]:List (List TV)).drop l).take (h - l))) else _) id;rw[oIP (by rfl)];exact bp d (by simp[er,er1])
    | true=>exact ev d false rfl
   | _=>exact .fail
  | pk p vs=>
   refine (dS p).bind λt=>?_
   cases t with
   | d tt x=>cases tt with
    | row o t=>cases o with
     | false=>exact .fail
     | true=>
      refine Sim.ite (λhs=>?_) λ_=>.fail;show Sim _ (if (List.map (enc t) (x:List (den t))).all (λe=>e.length==sz) then _ else _) id;rw[oIP (by rw[<- hs];exact ju t x)];exact bp d rfl
    | nilr o=>cases o with
     | false=>exact .fail
     | true=>
      show Sim _ (if ([]:List (List TV)).all (λe=>e.length==sz) then _ else _) id;rw[oIP (by rfl)];exact bp d rfl
    | _=>exact .fail
   | _=>exact .fail
  | pw p vs sz' lo' n'=>
   refine Sim.ite (λhs=>?_) λ_=>.fail;show Sim _ (if sz'=sz then _ else _) id;rw[oIP hs];exact bp d rfl
  | _=>exact .fail
 | app sz bytes mv fl s x=>
  refine aY λts=>aY λtx=>?_
  have hn:nO (er tx)=X.isNameX tx:=by
   cases tx with
   | d t y=>cases t with
    | row o t=>cases o<;>rfl
    | nilr o=>cases o<;>rfl
    | _=>rfl
   | _=>rfl
  rw[hn]
  cases hc:(fl && !mv && X.isNameX tx) with
  | true=>
   simp only[if_true];refine (nq tx).bind λc2=>?_;refine Sim.ite (λhf=>?_) λ_=>.fail
   have hV:(uF c2).all (λe=>e.all isV)=true:=by
    cases c2 with
    | d t y=>cases t with
     | row o t=>
      have hf:X.flatT t=true:=hf;cases o<;>show (List.map (enc t) (y:List (den t))).all (λe=>e.all isV)=true
      all_goals
       rw[List.all_map,List.all_eq_true];intro z _;exact wM hf z
     | nilr o=>cases o<;>rfl
     | _=>rfl
    | gap=>cases hf
    | _=>rfl
   rw[oIP hV];refine (cI true ts).bind λs=>?_;have h:=zE (Y:=Y) d sz bytes (bl HT d) s c2
   have e:Bc d sz bytes (er s) (.sl (uF c2))=(match er s,er c2 with
    | .ow c,.ow c2=>if (c++c2).all (λe=>e.length==sz) && decide (c.length+c2.length<=1099511627776) && decide ((c.length+c2.length)*bytes<=140737488355328) then inst d false [.ow (c++c2)] else .fail
    | .ow c,.sl c2=>if (c++c2).all (λe=>e.length==sz) && decide (c.length+c2.length<=1099511627776) && decide ((c.length+c2.length)*bytes<=140737488355328) then inst d false [.ow (c++c2)] else .fail
    | _,_=>.fail):=by
    unfold Bc
    cases c2 with
    | d t y=>cases t with
     | row o t=>cases o<;>cases er s<;>rfl
     | nilr o=>cases o<;>cases er s<;>rfl
     | _=>simp[X.flatRow] at hf
    | _=>simp[X.flatRow] at hf
   rw[e];exact h
  | false=>
   simp only[Bool.false_eq_true,if_false];exact (cI true ts).bind λs=>(cI mv tx).bind λx=>zE d sz bytes _ s x
 | len x=>exact aY λt=>(lX t).bind λn=>bp d rfl
 | lens x=>
  refine aY λt=>?_
  cases t with
  | d t s=>cases t with
   | str=>exact bp d rfl
   | _=>exact .fail
  | _=>exact .fail
 | ixs x i=>
  refine aY λt=>aY λti=>(gk ti).bind λk=>?_
  cases t with
  | d t s=>cases t with
   | str=>
    intro σ kk y hk;obtain⟨b,h1,h2⟩:=aZ (show (u9 s k).bind _=some y from hk);unfold u9 at h1;obtain⟨c,h3,h4⟩:=cU h1;have h3:(s:ByteArray)[k]?=some c:=h3;have:=bp (Y:=Y) d (t:=.d (.int .u8) b) (t':=.v (.int .u8 c.toNat)) (by rw[<- h4];rfl) σ kk y h2;show ∃a σ',(match (s:ByteArray)[k]? with | some b=>wr d (.v (.int .u8 b.toNat)) | none=>.fail).run (erS σ)=_/\gf σ σ' ((match (s:ByteArray)[k]? with | some b=>wr d (.v (.int .u8 b.toNat)) | none=>.fail).foot (erS σ))/\_;rw[h3];exact this
   | _=>exact .fail
  | _=>exact .fail
 | mm mx xs=>
  refine (sA (λx=>(ko x).bind λt=>vy t) xs).bind λl=>?_
  cases l with
  | nil=>exact .fail
  | cons t r=>cases t with
   | d t a=>cases t with
    | int k=>
     simp only[List.map_cons,Cg]
     cases h:X.mmAll aV mx k a r with
     | none=>exact .fail
     | some m=>simp only[yL h];exact bp d rfl
    | _=>exact .fail
   | _=>exact .fail
 | mkf f caps=>
  refine (sA (λx=>(ko x).bind λt=>vE t) caps).bind λl=>bp d ?_;simp only[er,dW]
 | idxa n sz x i=>
  refine aY λt=>aY λti=>(gk ti).bind λk=>?_
  cases t with
  | ptr p vs=>
   refine (cl p _ vs).bind λ_=>vD _ n _ 0 λj Uu hj hk=>Sim.ite (λh=>?_) λ_=>.fail;subst hk;simp only[id_eq];rw[oIP (by rw[<- oT];simp only[oBA,oDE];exact⟨by omega,h⟩)];exact bp d (by simp only[er,rM])
  | _=>exact .fail
 | s2b x=>
  refine aY λt=>?_
  cases t with
  | d t s=>cases t with
   | str=>
    refine Sim.br λh=>?_;have h:decide ((s:ByteArray).size < 4294967296)=true:=h;show Sim _ (if (s:ByteArray).size < 4294967296 then wr d (.sl (iI s)) else .fail) id;rw[oIP (by simpa using h)];refine bp d ?_;show TV.sl (List.map (enc (.int .u8)) (Ac s))=_;simp[Ac,iI,enc]
   | _=>exact .fail
  | _=>exact .fail
 | emp x=>exact aY λt=>(lX t).bind λn=>ev d false rfl
 | b2s x=>
  refine aY λt=>(cI false t).bind λt'=>?_
  cases t' with
  | d t c=>cases t with
   | row o t=>cases o with
    | false=>cases t with
     | int k=>cases k with
      | u8=>
       intro σ kk y hk;have hk:X.wr aV d (.d .str (xw c)) σ kk=some y:=hk
       have hb:bstr (List.map (enc (.int .u8)) (c:List Int))=some (xw c):=by
        have:ni (List.map (enc (.int .u8)) (c:List Int))=some c:=by
         have h9:∀l:List Int,ni (List.map (enc (.int .u8)) l)=some l:=by
          intro l
          induction l with
          | nil=>rfl
          | cons x l ih=>
           show Option.map (x :: ·) (ni (List.map (enc (.int .u8)) l))=_;rw[ih];rfl
         exact h9 c
        simp only[bstr,this];rfl
       have:=bp (Y:=Y) d (t:=.d .str (xw c)) (t':=.v (.string (xw c))) rfl σ kk y hk;show ∃a σ',((eP (bstr (List.map (enc (.int .u8)) (c:List Int)))).bind λs=>wr d (.v (.string s))).run (erS σ)=_/\gf σ σ' (((eP (bstr (List.map (enc (.int .u8)) (c:List Int)))).bind λs=>wr d (.v (.string s))).foot (erS σ))/\_;rw[hb];exact this
      | _=>exact .fail
     | _=>exact .fail
    | true=>exact .fail
   | _=>exact .fail
  | _=>exact .fail
 | cpy sz x y=>
  refine aY λt=>aY λu=>(nq u).bind λc2=>?_
  cases t with
  | pk p vs=>
   refine (cl p _ vs).bind λ_=>Sim.rdC λtv=>?_;exact zD d sz p 0 none tv c2
  | pw p vs sz' lo n=>
   refine Sim.ite (λhs=>?_) λ_=>.fail;refine (cl p _ vs).bind λ_=>Sim.rdC λtv=>?_;have:=zD (Y:=Y) d sz p lo (some n) tv c2;simp only[oIP hs];exact this
  | _=>exact .fail
 | call k f args=>exact .fail
end
theorem o6:∀(hs:List (Unit×Nat×Nat)) (hs':List (den .nat×Nat×Nat)) (r:List CT) (h:HL den r) (h':HL den (rz hs r)),rR hs hs' r h=some h'->(my hs r h').1=hs'/\(my hs r h').2=h
 | [],[],_,_,_,hc=>by
  injection hc with hc
  exact⟨rfl,hc.symm⟩
 | [],_ :: _,_,_,_,hc=>by cases hc
 | _ :: _,[],_,_,_,hc=>by cases hc
 | (_,sz,o) :: hs,(i,sz',o') :: hs',r,h,h',hc=>by
  have hc:(if sz=sz'/\o=o' then (rR hs hs' r h).map λh1=>((i,h1):den .nat×HL den (rz hs r)) else none)=some h':=hc;by_cases hb:sz=sz'/\o=o'
  ·rw[oIP hb] at hc;obtain⟨h1,h2,h3⟩:=Option.map_eq_some_iff.1 hc;obtain⟨e1,e2⟩:=o6 hs hs' r h h1 h2;subst h3;refine⟨?_,e2⟩;show (i,sz,o) :: (my hs r h1).1=(i,sz',o') :: hs';rw[e1,hb.1,hb.2]
  ·rw[oIN hb] at hc;cases hc
theorem BF{p:XP λ_=>Unit}{q:XP den}(h:zL p q=true):erP (CL p)=erP q:=by
 simp[zL] at h;have ⟨⟨⟨h1,h2⟩,h3⟩,h4⟩:=h;have ⟨r,o,hs⟩:=q
 cases hs with
 | nil=>simp[CL,h1,h2]
 | cons=>simp[XP.bare] at h4
theorem y9{x y:Value}(h:w8 x y=true):x=y:=by
 unfold w8 at h
 grind
mutual
theorem xm:(s:Sh)->(x:XV den)->(r:List CT)->(h:HL den r)->(h':HL den (lv s r))->conv aV s x r h=some h'->er (fill s r h').1=er x/\(fill s r h').2=h
 | .d u z,x,r,h,h',hc=>by
  cases x with
  | d t y=>
   have hc:(asT aV t u y).map (λw=>(w,h))=some h':=hc;obtain⟨w,h1,h2⟩:=cU hc
   have e1:h'.1=w:=by rw[<- h2]
   have e2:h'.2=h:=by rw[<- h2]
   refine⟨?_,e2⟩;show er1 u h'.1=er1 t y;rw[e1];exact tD h1
  | _=>exact absurd (show (none:Option (HL den _))=some h' from hc) (by simp)
 | .k z,x,r,h,h',hc=>by
  cases x with
  | k y=>
   have hc:(if w8 z y then some h else none)=some h':=hc;by_cases hb:w8 z y=true
   ·rw[oIP hb] at hc
    injection hc with hc
    rw[y9 hb];exact⟨rfl,hc.symm⟩
   ·rw[oIN hb] at hc;cases hc
  | _=>exact absurd (show (none:Option (HL den _))=some h' from hc) (by simp)
 | .dead,x,r,h,h',hc=>by
  cases x with
  | dead=>
   have hc:some h=some h':=hc
   injection hc with hc
   exact⟨rfl,hc.symm⟩
  | _=>exact absurd (show (none:Option (HL den _))=some h' from hc) (by simp)
 | .ptr p vs,x,r,h,h',hc=>by
  cases x with
  | ptr q ws=>
   have hc:(if p.root==q.root && p.off==q.off && vs==ws then rR p.hops q.hops r h else none)=some h':=hc;by_cases hb:(p.root==q.root && p.off==q.off && vs==ws)=true
   ·rw[oIP hb] at hc;simp only[oBA,beq_iff_eq] at hb;obtain⟨h1,h2⟩:=o6 _ _ _ _ _ hc;refine⟨?_,h2⟩;show TV.ptr ⟨p.root,p.off,(my p.hops r h').1⟩ vs=TV.ptr ⟨q.root,q.off,q.hops⟩ ws;rw[h1,hb.1.1,hb.1.2,hb.2]
   ·rw[oIN hb] at hc;cases hc
  | _=>exact absurd (show (none:Option (HL den _))=some h' from hc) (by simp)
 | .pk p vs,x,r,h,h',hc=>by
  cases x with
  | pk q ws=>
   have hc:(if p.root==q.root && p.off==q.off && vs==ws then rR p.hops q.hops r h else none)=some h':=hc;by_cases hb:(p.root==q.root && p.off==q.off && vs==ws)=true
   ·rw[oIP hb] at hc;simp only[oBA,beq_iff_eq] at hb;obtain⟨h1,h2⟩:=o6 _ _ _ _ _ hc;refine⟨?_,h2⟩;show TV.pk ⟨p.root,p.off,(my p.hops r h').1⟩ vs=TV.pk ⟨q.root,q.off,q.hops⟩ ws;rw[h1,hb.1.1,hb.1.2,hb.2]
   ·rw[oIN hb] at hc;cases hc
  | _=>exact absurd (show (none:Option (HL den _))=some h' from hc) (by simp)
 | .pw p vs sz lo n,x,r,h,h',hc=>by cases x<;>exact absurd (show (none:Option (HL den _))=some h' from hc) (by simp)
 | .gap t _ _ o,x,r,h,h',hc=>by
  cases x with
  | gap t' y i o'=>
   have hc:(if o=o' then (asT aV (.row true t') (.row true t) y).map λy=>(y,i,h) else none)=some h':=hc;by_cases hb:o=o'
   ·subst hb;rw[oIP rfl] at hc;obtain⟨z,h1,rfl⟩:=cU hc;refine⟨?_,rfl⟩;show cw (er1 (.row true t) z) [(i,0,o)] .dead=cw (er1 (.row true t') y) [(i,0,o)] .dead;rw[tD h1]
   ·rw[oIN hb] at hc;cases hc
  | _=>exact absurd (show (none:Option (HL den _))=some h' from hc) (by simp)
 | .ip l,x,r,h,h',hc=>by
  cases x with
  | ip l'=>
   have:=fU l l' r h h' hc;exact⟨congrArg TV.ip this.1,this.2⟩
  | _=>exact absurd (show (none:Option (HL den _))=some h' from hc) (by simp)
 | .agg l,x,r,h,h',hc=>by
  cases x with
  | agg l'=>
   have:=fU l l' r h h' hc;exact⟨congrArg TV.agg this.1,this.2⟩
  | _=>exact absurd (show (none:Option (HL den _))=some h' from hc) (by simp)
 | .tup l,x,r,h,h',hc=>by
  cases x with
  | tup l'=>
   have:=fU l l' r h h' hc;exact⟨congrArg TV.tup this.1,this.2⟩
  | _=>exact absurd (show (none:Option (HL den _))=some h' from hc) (by simp)
 | .fn f l,x,r,h,h',hc=>by
  cases x with
  | fn f' l'=>
   have hc:(if f=f' then lw aV l l' r h else none)=some h':=hc;by_cases hb:f=f'
   ·subst hb;rw[oIP rfl] at hc;have:=fU l l' r h h' hc;exact⟨congrArg (TV.fn f) this.1,this.2⟩
   ·rw[oIN hb] at hc;cases hc
  | _=>exact absurd (show (none:Option (HL den _))=some h' from hc) (by simp)
theorem fU:(s:List Sh)->(x:List (XV den))->(r:List CT)->(h:HL den r)->(h':HL den (lvL s r))->lw aV s x r h=some h'->erL (dn s r h').1=erL x/\(dn s r h').2=h
 | [],x,r,h,h',hc=>by
  cases x with
  | nil=>
   have hc:some h=some h':=hc
   injection hc with hc
   exact⟨rfl,hc.symm⟩
  | cons=>exact absurd (show (none:Option (HL den _))=some h' from hc) (by simp)
 | s :: ss,x,r,h,h',hc=>by
  cases x with
  | nil=>exact absurd (show (none:Option (HL den _))=some h' from hc) (by simp)
  | cons x xs=>
   have hc:(lw aV ss xs r h).bind (λh1=>conv aV s x (lvL ss r) h1)=some h':=hc;obtain⟨h1,Zq,Zl⟩:=aZ hc;obtain⟨e1,e2⟩:=fU ss xs r h h1 Zq;obtain⟨e3,e4⟩:=xm s x (lvL ss r) h1 h' Zl;have e5:dn (s :: ss) r h'=((fill s (lvL ss r) h').1 :: (dn ss r (fill s (lvL ss r) h').2).1,(dn ss r (fill s (lvL ss r) h').2).2):=rfl;rw[e5,e4];refine⟨?_,e2⟩;show er _ :: erL _=er x :: erL xs;rw[e3,e1]
end
theorem o5:∀{s:List (Nat×List Sh)}{x:List (Nat×List (XV den))}{r:List CT}{h:HL den r}{h':HL den (lvP s r)},X.convP aV s x r h=some h'->erC (jZ s r h').1=erC x/\(jZ s r h').2=h:=by
 intro s
 induction s with
 | nil=>
  intro x r h h' hc
  cases x with
  | nil=>
   have hc:some h=some h':=hc
   injection hc with hc
   exact⟨rfl,hc.symm⟩
  | cons=>exact absurd (show (none:Option (HL den _))=some h' from hc) (by simp)
 | cons s ss ih=>
  intro x r h h' hc
  cases x with
  | nil=>exact absurd (show (none:Option (HL den _))=some h' from hc) (by simp)
  | cons x xs=>
   have hc:(if s.1=x.1 then (X.convP aV ss xs r h).bind (λh1=>lw aV s.2 x.2 (lvP ss r) h1) else none)=some h':=hc;by_cases hk:s.1=x.1
   ·rw[oIP hk] at hc
    ·obtain⟨h1,Zq,hc⟩:=aZ hc;obtain⟨e1,e2⟩:=ih Zq;obtain⟨e3,e4⟩:=fU s.2 x.2 (lvP ss r) h1 h' hc;have e5:jZ (s :: ss) r h'=((s.1,(dn s.2 (lvP ss r) h').1) :: (jZ ss r (dn s.2 (lvP ss r) h').2).1,(jZ ss r (dn s.2 (lvP ss r) h').2).2):=rfl;rw[e5,e4];refine⟨?_,e2⟩;show (s.1,erL _) :: erC _=(x.1,erL x.2) :: erC xs;rw[e3,e1,hk]
   ·rw[oIN hk] at hc;cases hc
theorem zk:∀{s:List (Nat×Sh)}{x:List (Nat×XV den)}{r:List CT}{h:HL den r}{h':HL den (lvT s r)},X.convT aV s x r h=some h'->(oS s r h').1.map (λx=>(x.1,er x.2))=x.map (λx=>(x.1,er x.2))/\(oS s r h').2=h:=by
 intro s
 induction s with
 | nil=>
  intro x r h h' hc
  cases x with
  | nil=>
   have hc:some h=some h':=hc
   injection hc with hc
   exact⟨rfl,hc.symm⟩
  | cons=>exact absurd (show (none:Option (HL den _))=some h' from hc) (by simp)
 | cons s ss ih=>
  intro x r h h' hc
  cases x with
  | nil=>exact absurd (show (none:Option (HL den _))=some h' from hc) (by simp)
  | cons x xs=>
   have hc:(if s.1=x.1 then (X.convT aV ss xs r h).bind (λh1=>conv aV s.2 x.2 (lvT ss r) h1) else none)=some h':=hc;by_cases hk:s.1=x.1
   ·rw[oIP hk] at hc
    ·obtain⟨h1,Zq,hc⟩:=aZ hc;obtain⟨e1,e2⟩:=ih Zq;obtain⟨e3,e4⟩:=xm s.2 x.2 (lvT ss r) h1 h' hc;have e5:oS (s :: ss) r h'=((s.1,(fill s.2 (lvT ss r) h').1) :: (oS ss r (fill s.2 (lvT ss r) h').2).1,(oS ss r (fill s.2 (lvT ss r) h').2).2):=rfl;rw[e5,e4];refine⟨?_,e2⟩;simp only[List.map_cons];rw[e3,e1,hk]
   ·rw[oIN hk] at hc;cases hc
theorem vR:∀{a b:List (Key×Nat)},X.sameVr a b=true->a=b:=by
 intro a
 induction a with
 | nil=>intro b h;cases b with | nil=>rfl | cons=>simp[X.sameVr] at h
 | cons x a ih=>
  intro b h
  cases b with
  | nil=>simp[X.sameVr] at h
  | cons y b=>
   simp only[X.sameVr,oBA,beq_iff_eq] at h;obtain⟨⟨h1,h2⟩,h3⟩:=h;rw[ih h3];obtain⟨a1,a2⟩:=x;obtain⟨b1,b2⟩:=y;simp only at h1 h2;rw[h1,h2]
theorem o4{s:Shs}{σ:XS den}{u:HL den []}{h:HL den (lvS s)}(hc:X.convS aV s σ u=some h):erS (rK s h)=erS σ:=by
 unfold X.convS at hc;by_cases hv:X.sameVr s.vr σ.vr=true
 ·rw[oIP hv] at hc;obtain⟨h1,Zq,hc⟩:=aZ hc;obtain⟨e1,e2⟩:=o5 Zq;obtain⟨e3,e4⟩:=zk hc;unfold erS rK;simp only;rw[e3,e4,e1,vR hv]
 ·rw[oIN hv] at hc;cases hc
theorem qv{c:Ctr}{vals:List (XV den)}{pts:List (Nat×List (XV den))}{u:HL den []}{h:HL den (lvL c.ins (lvP c.pts []))}(hc:X.convIn aV c vals pts u=some h) :
 erL (dn c.ins _ h).1=erL vals/\erC (jZ c.pts [] (dn c.ins _ h).2).1=erC pts:=by
 unfold X.convIn at hc;obtain⟨h1,Zq,hc⟩:=aZ hc;obtain⟨e1,e2⟩:=o5 Zq;obtain⟨e3,e4⟩:=fU _ _ _ _ _ hc;rw[e4];exact⟨e3,e1⟩
theorem vT:∀{a b:List RSh},X.sameSh a b=true->a=b:=by
 intro a
 induction a with
 | nil=>intro b h;cases b with | nil=>rfl | cons=>simp[X.sameSh] at h
 | cons x a ih=>
  intro b h
  cases b with
  | nil=>cases x<;>simp[X.sameSh] at h
  | cons y b=>
   cases x<;>cases y<;>simp[X.sameSh] at h
   ·rw[ih h]
   ·rw[h.1,ih h.2]
   ·rw[ih h]
theorem AV{cells:List (XV den)}{sh:List RSh}{pts:List (Nat×List (XV den))}{u:HL den []}:∀{outs:List XO}{i:Nat}{h:HL den (ov (outs.map lvO) i)},X.injO aV cells sh pts u outs=some ⟨i,h⟩->∃x,fa outs i h=some x/\erL x.1=erL cells/\x.2.1=sh/\erC x.2.2=erC pts:=by
 intro outs
 induction outs with
 | nil=>intro i h hc;simp[X.injO] at hc
 | cons o outs ih=>
  intro i h hc;simp only[X.injO] at hc;split at hc
  ·rename_i h1 Zq
   injection hc with hc
   injection hc with h2 h3
   subst h2;have h3:=eq_of_heq h3;subst h3;refine⟨_,rfl,?_⟩;unfold X.convO at Zq;by_cases hs:X.sameSh o.sh sh=true
   ·rw[oIP hs] at Zq;obtain⟨h4,Rl,Zq⟩:=aZ Zq;obtain⟨e1,e2⟩:=o5 Rl;obtain⟨e3,e4⟩:=fU _ _ _ _ _ Zq;refine⟨e3,vT hs,?_⟩;show erC (jZ o.pts [] (dn o.cells _ h1).2).1=_;rw[e4];exact e1
   ·rw[oIN hs] at Zq;cases Zq
  ·split at hc
   ·rename_i x hx
    injection hc with hc
    injection hc with h2 h3
    subst h2;have h3:=eq_of_heq h3;subst h3;exact ih hx
   ·simp at hc
theorem A1{a b:d4}(h:X.exEq a b=true):a=b:=by
 cases a<;>cases b<;>simp[X.exEq] at h
 ·rfl
 ·rw[h]
 ·rfl
theorem wU{e:d4}{σ:XS den}{u:HL den []}:∀{outs:List (d4×Shs)}{i:Nat}{h:HL den (ov (outs.map λx=>lvS x.2) i)},X.injE aV e σ u outs=some ⟨i,h⟩->∃x,la outs i h=some x/\x.1=e/\erS x.2=erS σ:=by
 intro outs
 induction outs with
 | nil=>intro i h hc;simp[X.injE] at hc
 | cons o outs ih=>
  intro i h hc;simp only[X.injE] at hc;split at hc
  ·rename_i h1 Zq
   injection hc with hc
   injection hc with h2 h3
   subst h2;have h3:=eq_of_heq h3;subst h3;refine⟨_,rfl,?_⟩;split at Zq
   ·rename_i he;exact⟨A1 he,o4 Zq⟩
   ·simp at Zq
  ·split at hc
   ·rename_i x hx
    injection hc with hc
    injection hc with h2 h3
    subst h2;have h3:=eq_of_heq h3;subst h3;exact ih hx
   ·simp at hc
theorem mC{α β:Type}(G:α->β):∀(ls:List (List CT)) (o:n8 ls) (f:(i:Nat)->HL den (ov ls i)->α),eR ls o (λi h=>G (f i h))=G (eR ls o f):=by
 intro ls
 induction ls with
 | nil=>intro o;cases o
 | cons l ls ih=>
  intro o f
  cases ls with
  | nil=>rfl
  | cons m r=>
   cases o with
   | inl h=>rfl
   | inr o=>exact ih o λi h=>f (i+1) h
theorem nS{α:Type}:∀{ls:List (List CT)}{i:Nat}{h:HL den (ov ls i)}{o:n8 ls}(f:(i:Nat)->HL den (ov ls i)->α),kB ls i h=some o->eR ls o f=f i h:=by
 intro ls
 induction ls with
 | nil=>intro i h o f hm;simp[kB] at hm
 | cons l ls ih=>
  intro i h o f hm
  cases ls with
  | nil=>
   cases i with
   | zero=>cases hm;rfl
   | succ i=>simp[kB] at hm
  | cons m r=>
   cases i with
   | zero=>cases hm;rfl
   | succ i=>
    simp only[kB] at hm;obtain⟨o',h1,rfl⟩:=cU hm;exact ih (λi h=>f (i+1) h) h1
def jc(F:bV) (c:Ctr):Prop:=∀(h:HL den (lvL c.ins (lvP c.pts []))) (o:n8 (c.outs.map lvO)) (x:List (XV den)×List RSh×List (Nat×List (XV den))),c.g h=some o->eR (c.outs.map lvO) o (λi ho=>fa c.outs i ho)=some x ->
 F c.f (erL (dn c.ins _ h).1) (erC (jZ c.pts [] (dn c.ins _ h).2).1)=some (⟨erL x.1,x.2.1⟩,erC x.2.2)
section
variable {α β γ δ Y:Type}
theorem yo(x:Option Nat×Opd):Sim (Y:=Y) (X.argV aV x) (argV x) er:=by
 refine aY λt=>?_
 have Wn:∀t:XV den,Sim (Y:=Y) (X.bind (X.takeV aV false t) λl=>X.bind (X.optM aV (X.immXL aV l.1)) λl'=>X.ret (X.shapedX l.2 l')) ((takeV false (er t)).bind λl=>.ret (gY l.2 (l.1.map TV.imm))) er:=λt=>
  (ii false t).bind λl=>Sim.opt λl' hl=>.ret (by rw[nD,sY hl])
 have nil:∀{s:SP TV} (t:CT) (y:den (.row true t)),Sim (Y:=Y) (X.bind (X.takeV aV false (.d (.row true t) y)) λl=>X.bind (X.optM aV (X.immXL aV l.1)) λl'=>X.ret (X.shapedX l.2 l')) s er:=λt y σ k o hk=>by cases hk
 refine Sim.ite (λh=>?_) λh=>?_
 ·have h2:(x.1==some 0 && Ck (er t))=true:=by
   simp at h ⊢;refine⟨h.1,?_⟩;have h3:=h.2
   cases t with
   | pk p vs=>rfl
   | d t y=>cases t with
    | nilr o=>cases o with
     | true=>rfl
     | false=>simp[X.isNmX] at h3
    | _=>simp[X.isNmX] at h3
   | _=>simp[X.isNmX] at h3
  rw[oIP h2];exact .ret rfl
 ·have keep:∀{s:SP TV},Ck (er t)=X.isNmX t->Sim (Y:=Y) (X.argV0 aV t) s er->Sim (X.argV0 aV t) (if (x.1==some 0 && Ck (er t))=true then SP.ret (er t) else s) er:=λhe hs=>by
   rw[he,oIN h];exact hs
  cases t with
  | ip cs=>exact keep rfl (.ret rfl)
  | fn f cap=>exact keep rfl (.ret rfl)
  | ptr p vs=>exact keep rfl (.ret rfl)
  | d t y=>cases t with
   | row o t=>cases o with
    | true=>exact nil t y
    | false=>exact keep rfl (Wn _)
   | nilr o=>cases o<;>exact keep rfl (Wn _)
   | nat=>exact fun σ k o hk=>by cases hk
   | pair a b=>exact fun σ k o hk=>by cases hk
   | _=>exact keep rfl (Wn _)
  | gap t y i o=>exact fun σ k o hk=>by cases hk
  | _=>exact keep rfl (Wn _)
theorem pE:∀l:List (Option Nat×Opd),Sim (Y:=Y) (X.argVs aV l) (argVs l) erL:=by
 intro l
 induction l with
 | nil=>exact .ret rfl
 | cons x r ih=>exact (yo x).bind λt=>ih.bind λl=>.ret rfl
theorem pB:∀(l:List (Option Nat×XV den)) (i:Nat),Sim (Y:=Y) (X.takeOwns aV i l) (takeOwns i (l.map λx=>(x.1,er x.2))) (List.map λx=>(x.1,er x.2)):=by
 intro l
 induction l with
 | nil=>intro i;exact .ret rfl
 | cons x l ih=>
  intro i;have ⟨n,t⟩:=x
  cases n with
  | none=>cases t with
   | d t y=>cases t with
    | row o t=>cases o<;>exact ih (i+1)
    | nilr o=>cases o<;>exact ih (i+1)
    | nat=>exact ih (i+1)
    | pair a b=>exact ih (i+1)
    | _=>exact ih (i+1)
   | _=>exact ih (i+1)
  | some n=>cases n with
   | zero=>cases t with
    | pk p vs=>
     refine (cI true (.pk p vs)).bind λt=>Sim.ite (λh=>?_) λ_=>.fail;have ⟨c,hc⟩:=fT h
     have h2:fL (er t)=true:=by rw[hc];rfl
     rw[oIP h2];exact (ih (i+1)).bind λq=>.ret rfl
    | d t y=>cases t with
     | row o t=>cases o<;>exact ih (i+1)
     | nilr o=>cases o<;>exact ih (i+1)
     | nat=>exact ih (i+1)
     | pair a b=>exact ih (i+1)
     | _=>exact ih (i+1)
    | _=>exact ih (i+1)
   | succ n=>cases t with
    | d t y=>cases t with
     | row o t=>cases o<;>exact ih (i+1)
     | nilr o=>cases o<;>exact ih (i+1)
     | nat=>exact ih (i+1)
     | pair a b=>exact ih (i+1)
     | _=>exact ih (i+1)
    | _=>exact ih (i+1)
theorem vA(r:Nat):∀(n o:Nat),Sim (Y:=Y) (X.grabB aV r o n) (qg ⟨r,o,[]⟩ n) erL:=by
 intro n
 induction n with
 | zero=>intro o;exact .ret rfl
 | succ n ih=>
  intro o
  cases n with
  | zero=>
   refine Sim.rdC λt=>(dR ⟨r,o,[]⟩ t).bind λt'=>(cI true t').bind λt2=>?_;exact (Sim.ret (f:=erL) rfl).bind (h:=λl=>.ret (er t2 :: l)) λl=>.ret rfl
  | succ n=>
   exact Sim.rdC λt=>(dR ⟨r,o,[]⟩ t).bind λt'=>(cI true t').bind λt2=>(ih (o+1)).bind λl=>.ret rfl
theorem tT(p:XP den):Sim (Y:=Y) (X.rooted aV p) (rooted (erP p)) id:=by
 have ⟨r,off,hops⟩:=p
 cases hops with
 | nil=>exact .ret rfl
 | cons h hs=>
  refine Sim.rdT λt=>?_
  cases t with
  | ptr q ws=>
   refine Sim.ite (λhc=>?_) λ_=>.fail;show Sim _ (if (erP q).root==r && (erP q).hops.isEmpty then chk (erP q) 0 ws else .fail) id
   have:((erP q).root==r && (erP q).hops.isEmpty)=true:=by
    simpa [erP] using hc
   rw[oIP this];exact cl q 0 ws
  | _=>exact .fail
def erG(g:XGP den):GP:=⟨g.i,erP g.p,g.vs,erL g.cells⟩
theorem wQ{t:XV den}(h:X.isArgX t=true):i8 (er t)=true:=by
 cases t with
 | ip cs=>rfl
 | fn f cap=>exact oH h
 | agg l=>
  simp only[X.isArgX] at h;simp only[er,i8,dW,List.all_map];rw[List.all_eq_true] at h ⊢;intro x hx;have:=h x hx;simp at this;simp;rcases gr this.1 this.2 with ⟨y,hy⟩ | ⟨c,hc⟩
  ·rw[hy]
  ·rw[hc]
 | d t x=>
  by_cases hn:t=.nilr true
  ·subst hn;rfl
  ·have:X.okCellX (.d t x:XV den)=true/\X.isOwX (.d t x:XV den)=false:=by
    cases t with
    | nilr o=>cases o with
     | true=>simp_all
     | false=>simpa [X.isArgX] using h
    | _=>simpa [X.isArgX] using h
   rcases gr this.1 this.2 with ⟨y,hy⟩ | ⟨c,hc⟩
   ·rw[hy];rfl
   ·rw[hc];rfl
 | k x=>rfl
 | _=>simp[X.isArgX,X.okCellX] at h
theorem vz:∀(l:List (Option Nat×XV den)) (i:Nat),Sim (Y:=Y) (X.grabs aV i l) (grabs i (l.map λx=>(x.1,er x.2))) (List.map erG):=by
 intro l
 induction l with
 | nil=>intro i;exact .ret rfl
 | cons x l ih=>
  intro i;obtain⟨n,t⟩:=x
  have Zo:(∀m p vs,(n,er t)≠(some m,TV.ptr p vs))->(∀p vs,(n,er t)≠(some 0,TV.pk p vs))->Sim (Y:=Y) (if X.isArgX t then X.grabs aV (i+1) l else X.fail aV) (grabs i (((n,t) :: l).map λx=>(x.1,er x.2))) (List.map erG):=by
   intro hne VQ;refine Sim.ite (λh=>?_) λ_=>.fail
   have e:grabs i (((n,t) :: l).map λx=>(x.1,er x.2))=if i8 (er t) then grabs (i+1) (l.map λx=>(x.1,er x.2)) else .fail:=by
    show grabs i ((n,er t) :: _)=_
    cases n with
    | none=>rfl
    | some m=>cases he:er t with
     | ptr p vs=>simp_all
     | pk p vs=>cases m with
      | zero=>exact absurd (by rw[he]) (VQ p vs)
      | succ m=>rfl
     | _=>cases m<;>rfl
   rw[e,oIP (wQ h)];exact ih (i+1)
  cases n with
  | none=>exact Zo (by intro m p vs h;cases h) (by intro p vs h;cases h)
  | some m=>cases t with
   | pk p vs=>cases m with
    | zero=>exact ih (i+1)
    | succ m=>exact Zo (by intro m p vs h;cases h) (by intro p vs h;cases h)
   | ptr p vs=>exact (cl p _ vs).bind λ_=>(tT p).bind λ_=>Sim.bind (by have:=vA (Y:=Y) p.root (X.baseXN p m) p.off;have e:A6 (erP p) m=X.baseXN p m:=(by have ⟨r,o,hs⟩:=p;cases hs<;>rfl);show Sim _ (qg (erP p).base (A6 (erP p) m)) _;rw[e];exact this) λl1=>(ih (i+1)).bind λq=>.ret rfl
   | d t y=>cases t with
    | row o t=>cases m<;>cases o<;>exact Zo (by intro m p vs h;cases h) (by intro p vs h;cases h)
    | nilr o=>cases m<;>cases o<;>exact Zo (by intro m p vs h;cases h) (by intro p vs h;cases h)
    | _=>cases m<;>exact Zo (by intro m p vs h;cases h) (by intro p vs h;cases h)
   | _=>cases m<;>exact Zo (by intro m p vs h;cases h) (by intro p vs h;cases h)
theorem vg(p:XP den):Sim (Y:=Y) (X.touch aV p) (touch (erP p)) id:=Sim.rdC λtv=>vf p.root p.off tv
theorem vj:∀q:List (XGP den),Sim (Y:=Y) (X.rechk aV q) (rechk (q.map erG)) id:=by
 intro q
 induction q with
 | nil=>exact .ret rfl
 | cons g q ih=>exact (cl g.p _ g.vs).bind λ_=>(vg g.p).bind λ_=>ih
theorem Bb(i:Nat) (t:XV den):er (X.argT i t)=argT i (er t):=by
 cases t with
 | d t y=>cases t with
  | row o t=>cases o<;>rfl
  | nilr o=>cases o<;>rfl
  | _=>rfl
 | _=>rfl
theorem zp:∀(l:List (XV den)) (i:Nat),erL (X.argTs i l)=argTs i (erL l):=by
 intro l
 induction l with
 | nil=>intro i;rfl
 | cons t l ih=>intro i;simp[X.argTs,erL,argTs,ih,Bb]
theorem ur{t:XV den}(h:X.isDeadX t=false):sX (er t)=false:=by
 cases t with
 | d t y=>cases t with
  | row o t=>cases o<;>rfl
  | nilr o=>cases o<;>rfl
  | nat=>simp[X.isDeadX,X.oneT] at h
  | pair a b=>simp[X.isDeadX,X.oneT] at h
  | _=>rfl
 | dead=>simp[X.isDeadX] at h
 | _=>rfl
theorem qZ:∀q:List (XGP den×List (XV den)),Sim (Y:=Y) (X.putBack aV q) (putBack (q.map λx=>(erG x.1,erL x.2))) id:=by
 intro q
 induction q with
 | nil=>exact .ret rfl
 | cons x q ih=>
  have ⟨g,l⟩:=x;refine ih.bind λ_=>Sim.ite (λh=>?_) λ_=>.fail;have ⟨h1,h2,h3⟩:=h;show Sim _ (if (erL l).length=(erL g.cells).length && (erL l).all λt=>!sX t then putL (erP g.p) (erL l) else .fail) id;rw[oIP]
  ·exact sy g.p l
  ·simp only[oBA,oDE,b9];refine⟨h1,?_⟩;rw[dW,List.all_map,List.all_eq_true];intro t ht;have:=List.all_eq_true.1 h3 t ht;simp at this;simp[ur this]
theorem vL:∀(sh:List RSh) (l:List (XV den)),erL (X.shapeRX sh l)=dH sh (erL l):=by
 intro sh
 induction sh with
 | nil=>intro l;rfl
 | cons s sh ih=>
  intro l
  cases s with
  | one=>
   simp only[X.shapeRX,erL];rw[ih,qr];cases l<;>rfl
  | agg n=>
   simp only[X.shapeRX,erL,dH,er];rw[ih,iW,j0]
  | ptr=>
   simp[X.shapeRX,erL,dH,er];rw[ih]
theorem pG(sh:List RSh) (l:List (XV den)):er (X.shapeTX sh l)=jB sh (erL l):=by
 unfold X.shapeTX jB;rw[<- vL]
 cases X.shapeRX sh l with
 | nil=>rfl
 | cons x r=>cases r<;>rfl
theorem vv(dst:Option Nat) (cells:List (XV den)) (sh:List RSh):Sim (Y:=Y) (X.landR aV dst cells sh) (landR dst ⟨erL cells,sh⟩) id:=by
 cases dst with
 | none=>exact .ret rfl
 | some d=>exact (lW d cells).bind λl=>bp d (pG sh l)
theorem wP(sh:List RSh) (cells:List (XV den)):isP ⟨erL cells,sh⟩=X.isPX sh cells:=by
 unfold isP X.isPX
 cases sh with
 | nil=>simp_all
 | cons s sh=>cases s with
  | ptr=>cases cells with
   | nil=>rfl
   | cons t r=>cases t with
    | d t y=>cases t with
     | row o t=>cases o<;>rfl
     | nilr o=>cases o<;>rfl
     | _=>rfl
    | _=>rfl
  | _=>rfl
theorem tY(t:XV den) (l:List (XV den)):er (X.shapePX t l)=sJ (er t) (erL l):=by
 cases l<;>rfl
theorem vw(dst:Option Nat) (q:List (XGP den)) (cells:List (XV den)):Sim (Y:=Y) (X.landP aV dst q cells) (landP dst (q.map erG) (erL cells)) id:=by
 cases dst with
 | none=>exact .ret rfl
 | some d=>
  unfold X.landP;simp only;split
  ·rename_i pl vs l g;refine Sim.ite (λhc=>?_) λ_=>.fail;show Sim _ (if pl.root==2*g.i+2 && (erP g.p).hops.isEmpty then (rdVs (iw g.p.root (g.p.off+pl.off) (erP pl).hops.length)).bind λvs=>wr d (sJ (.ptr ⟨g.p.root,g.p.off+pl.off,(erP pl).hops⟩ vs) (erL l)) else .fail) id;rw[oIP (by simpa [erP] using hc)];exact (lz _).bind λvs=>bp d (tY _ l)
  ·exact .fail
theorem Bv(q:List (XGP den)) (l:List (Nat×List (XV den))):(q.zip (l.map (·.2))).map (λx=>(erG x.1,erL x.2))=(q.map erG).zip ((erC l).map (·.2)):=by
 induction q generalizing l with
 | nil=>rfl
 | cons g q ih=>
  cases l with
  | nil=>rfl
  | cons x l=>simp[erC,ih]
theorem tX{F:bV}(dst:Option Nat) (f:FuncId) (vals:List (XV den)) (q:List (XGP den)) (ow:List (Nat×XV den)) (u:HL den []):∀(TB:List Ctr),(∀c∈TB,jc F c)->Sim (Y:=Y) (X.callTB aV dst f vals q ow u TB) ((eP (F f (erL vals) ((q.map erG).map (λg=>(2*g.i+2,g.cells))++(ow.map λx=>(x.1,er x.2)).map λx=>(2*x.1+3,[x.2])))).bind λr=>
 if r.2.map (·.1)=(q.map erG).map (λg=>2*g.i+2)++(ow.map λx=>(x.1,er x.2)).map (λx=>2*x.1+3) && (isP r.1 || io r.1.sh r.1.cells.length) then (putBack ((q.map erG).zip (r.2.map (·.2)))).bind λ_=>if isP r.1 then landP dst (q.map erG) r.1.cells else landR dst r.1 else .fail) id:=by
 intro TB
 induction TB with
 | nil=>intro _;exact .fail
 | cons c TB ih=>
  intro Y9;have ZX:=ih λc' Xt=>Y9 c' (by simp[Xt]);unfold X.callTB
  cases hsel:(if c.f=f then X.convIn aV c vals (q.map (λg=>(2*g.i+2,g.cells))++ow.map λy=>(2*y.1+3,[y.2])) u else none) with
  | none=>exact ZX
  | some h=>
   by_cases hf:c.f=f
   ·rw[oIP hf] at hsel;obtain⟨e1,e2⟩:=qv hsel;intro σ k y hk;obtain⟨o,ho,hk⟩:=aZ (show (c.g h).bind _=some y from hk);rw[mC (λz=>X.onOut aV z λx=>X.afterC aV dst q ow x σ k)] at hk
    cases hx:eR (c.outs.map lvO) o (λi ho=>fa c.outs i ho) with
    | none=>rw[hx] at hk;cases hk
    | some x=>
     rw[hx] at hk;have hk:X.afterC aV dst q ow x σ k=some y:=hk;unfold X.afterC at hk;have hF:=Y9 c (by simp) h o x ho hx
     have e3:erC (q.map (λg=>(2*g.i+2,g.cells))++ow.map λy=>(2*y.1+3,[y.2]))=(q.map erG).map (λg=>(2*g.i+2,g.cells))++(ow.map λx=>(x.1,er x.2)).map λx=>(2*x.1+3,[x.2]):=by
      unfold erC;rw[List.map_append,List.map_map,List.map_map,List.map_map,List.map_map];congr 1
     rw[e1,e2,e3,hf] at hF;rw[hF];show ∃a σ',(if (erC x.2.2).map (·.1)=(q.map erG).map (λg=>2*g.i+2)++(ow.map λx=>(x.1,er x.2)).map (λx=>2*x.1+3) && (isP ⟨erL x.1,x.2.1⟩ || io x.2.1 (erL x.1).length) then _ else _:SP Unit).run (erS σ)=_/\gf σ σ' ((if (erC x.2.2).map (·.1)=(q.map erG).map (λg=>2*g.i+2)++(ow.map λx=>(x.1,er x.2)).map (λx=>2*x.1+3) && (isP ⟨erL x.1,x.2.1⟩ || io x.2.1 (erL x.1).length) then _ else _:SP Unit).foot (erS σ))/\_;split at hk
     ·rename_i hc;rw[oIP]
      ·have h4:Sim (Y:=Y) (X.bind (X.putBack aV (q.zip (x.2.2.map (·.2)))) λ_=>if X.isPX x.2.1 x.1 then X.landP aV dst q x.1 else X.landR aV dst x.1 x.2.1) ((putBack ((q.map erG).zip ((erC x.2.2).map (·.2)))).bind λ_=>if isP ⟨erL x.1,x.2.1⟩ then landP dst (q.map erG) (erL x.1) else landR dst ⟨erL x.1,x.2.1⟩) id:=by
        rw[<- Bv,wP];refine (qZ _).bind λ_=>?_
        cases X.isPX x.2.1 x.1 with
        | true=>exact vw dst q x.1
        | false=>exact vv dst x.1 x.2.1
       exact h4 σ k y hk
      ·rw[wP];simp only[oBA,oDE,b9];refine⟨?_,hc.2⟩
       have h5:(erC x.2.2).map (·.1)=x.2.2.map (·.1):=by unfold erC;rw[List.map_map];exact List.map_congr_left λ_ _=>rfl
       have h6:(q.map erG).map (λg=>2*g.i+2)=q.map (λg=>2*g.i+2):=by rw[List.map_map];exact List.map_congr_left λ_ _=>rfl
       have h7:(ow.map λx=>(x.1,er x.2)).map (λx=>2*x.1+3)=ow.map (λy=>2*y.1+3):=by simp_all
       rw[h5,h6,h7];exact hc.1
     ·cases hk
   ·rw[oIN hf] at hsel;cases hsel
end
section
variable {α β γ δ Y:Type}
theorem pD{F:bV}{TB:List Ctr}(Y9:∀c∈TB,jc F c) (u:HL den []) (dst:Option Nat) (f:FuncId) (ns:List (Option Nat)) (vals:List (XV den)):Sim (Y:=Y) (X.callV aV TB u dst f ns vals) (callV F dst f ns (erL vals)) id:=by
 have ez:∀(ns:List (Option Nat)) (vals:List (XV den)),(ns.zip vals).map (λx=>(x.1,er x.2))=ns.zip (erL vals):=by
  intro ns
  induction ns with
  | nil=>simp_all
  | cons n ns ih=>
   intro vals
   cases vals with
   | nil=>rfl
   | cons v vals=>simp[erL,ih]
 unfold callV;rw[<- ez];refine (pB _ 0).bind λow=>(vz _ 0).bind λq=>(vj q).bind λ_=>Sim.ite (λh=>?_) λ_=>.fail;rw[oIP]
 ·rw[<- zp];exact tX dst f _ q ow u TB Y9
 ·rw[List.map_map,List.all_map];simp only[oBA] at h ⊢;refine⟨h.1,?_⟩;rw[List.all_eq_true] at h ⊢;intro g hg;have:=h.2 g hg;simpa [erG,b9] using this
theorem vB(dst:Option Nat) (tm:List BxC) (vals:List (XV den)) (hok:tm.all X.boxOk=true):Sim (Y:=Y) (X.evBox aV dst tm vals) (evBox dst tm (erL vals)) id:=by
 cases dst with
 | none=>exact .fail
 | some d=>
  have e:erL (tm.map (X.bxX aV vals))=tm.map (bxT (erL vals)):=by
   rw[dW,List.map_map];refine List.map_congr_left λb hb=>?_;have:=List.all_eq_true.1 hok b hb
   cases b with
   | arg i=>exact lJ vals i
   | val x=>
    show er (X.cellX aV x)=.v x;rw[lN];simp[X.boxOk] at this;unfold b7;split
    all_goals simp_all
  show Sim _ ((takeL false (tm.map (bxT (erL vals)))).bind _) id;rw[<- e];exact (gj false _).bind λl=>Sim.new rfl (Sim.rdV λg=>bp d rfl)
theorem sx(x:XV den):Sim (Y:=Y) (X.see1 aV x) (see1 (er x)) er:=by
 cases x with
 | d t y=>cases t with
  | int k=>exact .ret rfl
  | bool=>exact .ret rfl
  | str=>exact .ret rfl
  | nat=>exact .fail
  | row o t=>cases o<;>first | exact .fail | exact .ret rfl
  | nilr o=>cases o<;>exact .ret rfl
  | pair a b=>exact .fail
 | k y=>exact .ret rfl
 | pk p vs=>
  refine (cl p _ vs).bind λ_=>Sim.rdC λtv=>lA λv hv=>?_;refine Sim.ite (λho=>?_) λ_=>.fail;have ⟨c,hc⟩:=fT ho
  have YZ:bh (er tv) (erP p).hops=some (.ow c):=by rw[<- hc];exact hv
  simp[YZ];intro σ k y hk
  cases hi:X.immX aV v with
  | none=>rw[hi] at hk;cases hk
  | some v'=>
   rw[hi] at hk;exact Sim.ret (by rw[ml hi,hc]) σ k y hk
 | _=>exact .fail
theorem xW:∀l:List (XV den),Sim (Y:=Y) (X.seeL aV l) (seeL (erL l)) erL:=by
 intro l
 induction l with
 | nil=>exact .ret rfl
 | cons t r ih=>exact (sx t).bind λt'=>ih.bind λr'=>.ret rfl
theorem xX(t:XV den):Sim (Y:=Y) (X.seeA aV t) (seeA (er t)) er:=by
 have ZZ:=sx (Y:=Y) t
 cases t with
 | agg l=>exact (xW l).bind λl'=>.ret rfl
 | ip cs=>exact .ret rfl
 | fn f cap=>
  refine Sim.ite (λh=>?_) λ_=>.fail;show Sim _ (if (erL cap).all ry then .ret (.fn f (erL cap)) else .fail) er;rw[oIP (oH h)];exact .ret rfl
 | d t y=>cases t with
  | row o t=>cases o<;>exact ZZ
  | nilr o=>cases o<;>exact ZZ
  | _=>exact ZZ
 | _=>exact ZZ
theorem vi:∀l:List Opd,Sim (Y:=Y) (X.seeAs aV l) (seeAs l) erL:=by
 intro l
 induction l with
 | nil=>exact .ret rfl
 | cons x r ih=>exact aY λt=>(xX t).bind λt'=>ih.bind λl=>.ret rfl
theorem th{l:List (XV den)}(h:l.all X.flatX=true):(erL l).all qO=true:=by
 rw[dW,List.all_map,List.all_eq_true];intro x hx;have:=List.all_eq_true.1 h x hx
 cases x with
 | d t y=>cases t<;>first | rfl | simp[X.flatX] at this
 | k y=>exact this
 | _=>simp[X.flatX] at this
theorem vF{F:bV}(dst:Option Nat) (f:FuncId) (vals:List (XV den)) (u:HL den []):∀(TB:List Ctr),(∀c∈TB,jc F c)->Sim (Y:=Y) (X.callB aV dst f vals u TB) (callB F dst f (erL vals)) id:=by
 intro TB
 induction TB with
 | nil=>intro _;exact .fail
 | cons c TB ih=>
  intro Y9;have ZX:=ih λc' Xt=>Y9 c' (by simp[Xt]);unfold X.callB
  cases hsel:(if c.f=f then X.convIn aV c vals [] u else none) with
  | none=>exact ZX
  | some h=>
   by_cases hf:c.f=f
   ·rw[oIP hf] at hsel;obtain⟨e1,e2⟩:=qv hsel;intro σ k y hk;have ⟨o,ho,hk⟩:=aZ (show (c.g h).bind _=some y from hk);rw[mC (λz=>X.onOut aV z λx=>X.afterB aV dst x σ k)] at hk
    cases hx:eR (c.outs.map lvO) o (λi ho=>fa c.outs i ho) with
    | none=>rw[hx] at hk;cases hk
    | some x=>
     rw[hx] at hk;have hk:X.afterB aV dst x σ k=some y:=hk;unfold X.afterB at hk;have hF:=Y9 c (by simp) h o x ho hx;rw[e1,e2,hf] at hF;have hF:F f (erL vals) []=some (⟨erL x.1,x.2.1⟩,erC x.2.2):=hF;unfold callB;rw[hF];show ∃a σ',(if (erC x.2.2).length=0 && (erL x.1).all qO && io x.2.1 (erL x.1).length then _ else _:SP Unit).run (erS σ)=_/\gf σ σ' ((if (erC x.2.2).length=0 && (erL x.1).all qO && io x.2.1 (erL x.1).length then _ else _:SP Unit).foot (erS σ))/\_;split at hk
     ·rename_i hc;rw[oIP]
      ·cases dst with
       | none=>exact Sim.ret (a:=()) (f:=id) rfl σ k y hk
       | some d=>exact bp d (pG x.2.1 x.1) σ k y hk
      ·simp only[oBA,b9];refine⟨⟨?_,th hc.2.1⟩,hc.2.2⟩;unfold erC
       simp_all
     ·cases hk
   ·simp_all
theorem tW{F:bV}{TB:List Ctr}(Y9:∀c∈TB,jc F c) (E:Env) (u:HL den []) (dst:Option Nat) (op:TOp):Sim (Y:=Y) (X.evCall aV E TB u dst op) (evCall E F dst op) id:=by
 cases op with
 | call k f args=>
  cases f with
  | f f=>
   cases k with
   | false=>exact (vi _).bind λvals=>vF dst f vals u TB Y9
   | true=>
   refine (pE _).bind λvals=>?_
   cases hb:E.box f with
   | none=>exact pD Y9 u dst f _ vals
   | some x=>
    refine Sim.ite (λh=>?_) λ_=>.fail;show Sim _ (if (erL vals).length=x.1 then evBox dst x.2 (erL vals) else .fail) id;rw[oIP (by rw[b9];exact h.1)];exact vB dst x.2 vals h.2
  | t i=>
   refine Sim.rdT λt=>?_
   cases t with
   | fn f caps=>
    refine (pE _).bind λvals=>?_;have:=pD (Y:=Y) Y9 u dst f (args.map (·.1)++zn E f args.length caps.length) (vals++caps);rw[iX] at this;rw[b9];exact this
   | d t y=>cases t with
    | row o t=>cases o<;>exact .fail
    | nilr o=>cases o<;>exact .fail
    | _=>exact .fail
   | _=>exact .fail
  | c x=>exact .fail
 | _=>exact .fail
theorem vq{F:bV}{C:X.Cfg}(Y9:∀c∈C.TB,jc F c) (u:HL den []) (dst:Option Nat) (op:TOp):Sim (Y:=Y) (X.evop aV C u dst op) (evop (evCall C.E F) dst op) id:=by
 have ZZ:∀d,Sim (Y:=Y) (X.ev1 aV C.HT d op) (ev1 d op) id:=λd=>Bw C.HT d op;have kc:=tW (Y:=Y) Y9 C.E u dst op
 cases op with
 | call k f args=>exact kc
 | store n mv a x=>cases dst with
  | none=>exact ZZ 0
  | some d=>exact .fail
 | _=>cases dst with
  | none=>exact .fail
  | some d=>exact ZZ d
theorem lV(dst:Option Nat):Sim (Y:=Y) (X.setNo aV dst) (setNo dst) id:=by
 cases dst with
 | none=>exact .ret rfl
 | some d=>exact oe d (.tup [])
theorem sT{σ:XS den}{j:Nat}{b:Bool}(h:X.tOf σ j=.d .bool b):erS (X.known aV j b σ)=erS σ:=by
 have h1:bl σ.tm j=some (.d .bool b):=by
  unfold X.tOf at h
  cases hg:bl σ.tm j with
  | none=>simp_all
  | some t=>simp_all
 have:=qG h1;show (⟨(cj σ.tm j (.d .bool b)).map _,erC σ.ce,σ.vr⟩:St)=_;rw[this];rfl
theorem su{F:bV}{C:X.Cfg}(Y9:∀c∈C.TB,jc F c) (u:HL den []) (o:dh):Sim (Y:=Y) (X.spOp aV C u o) (spOp (evCall C.E F) o) id:=by
 unfold X.spOp spOp
 cases hg:o.guard with
 | none=>exact vq Y9 u o.dst o.op
 | some g=>
  obtain⟨j,want⟩:=g;intro σ k y hk
  cases ht:X.tOf σ j with
  | d t b=>cases t with
   | bool=>
    have hk:(bif b then ((if want then X.evop aV C u o.dst o.op else X.setNo aV o.dst) (X.known aV j true (X.lgR (.t j) σ)) k) else ((if want then X.setNo aV o.dst else X.evop aV C u o.dst o.op) (X.known aV j false (X.lgR (.t j) σ)) k))=some y:=by
     have hk:X.guardX aV j want (X.evop aV C u o.dst o.op) (X.setNo aV o.dst) (X.tOf σ j) (X.lgR (.t j) σ) k=some y:=hk;rw[ht] at hk;exact hk
    have ZZ:∀(m:XM den Option Y Unit) (s:SP Unit),Sim m s id->m (X.known aV j b (X.lgR (.t j) σ)) k=some y->∃a σ',s.run (erS σ)=some (id a,erS σ')/\gf σ σ' (.t j :: (s.foot (erS σ)).1,(s.foot (erS σ)).2)/\k a σ'=some y:=by
     intro m s hm h;have e:erS (X.known aV j b (X.lgR (.t j) σ))=erS σ:=sT (σ:=X.lgR (.t j) σ) ht;obtain⟨a,σ',r1,n1,k1⟩:=hm _ k y h;rw[e] at r1 n1;refine⟨a,σ',r1,⟨λx hx=>?_,λx hx=>n1.w x hx,λx hx=>n1.r0 x (by simp[X.known,X.lgR,hx]),λx hx=>n1.w0 x (by simpa [X.known,X.lgR] using hx)⟩,k1⟩;rcases List.mem_cons.1 hx with h | h
     ·exact n1.r0 x (by simp[X.known,X.lgR,h])
     ·exact n1.r x h
    have hst:(erS σ).t j=.v (.bool b):=by rw[ze,ht];rfl
    have res:∀(s:SP Unit),(if b=want then evop (evCall C.E F) o.dst o.op else setNo o.dst)=s->(∃a σ',s.run (erS σ)=some (id a,erS σ')/\gf σ σ' (.t j :: (s.foot (erS σ)).1,(s.foot (erS σ)).2)/\k a σ'=some y)->∃a σ',(SP.rdT j λt=>match t with | .v (.bool b)=>if b=want then evop (evCall C.E F) o.dst o.op else setNo o.dst | .tup []=>setNo o.dst | _=>.fail).run (erS σ)=some (id a,erS σ')/\gf σ σ' ((SP.rdT j λt=>match t with | .v (.bool b)=>if b=want then evop (evCall C.E F) o.dst o.op else setNo o.dst | .tup []=>setNo o.dst | _=>.fail).foot (erS σ))/\k a σ'=some y:=by
     rintro s hs ⟨a,σ',r1,n1,k1⟩;refine⟨a,σ',?_,?_,k1⟩
     ·simp only[SP.run,hst,hs];exact r1
     ·simp only[SP.foot,hst,hs];exact n1
    cases b with
    | true=>
     cases want with
     | true=>exact res _ (oIP rfl) (ZZ _ _ (vq Y9 u o.dst o.op) hk)
     | false=>exact res _ (oIN (by simp)) (ZZ _ _ (lV o.dst) hk)
    | false=>
     cases want with
     | true=>exact res _ (oIN (by simp)) (ZZ _ _ (lV o.dst) hk)
     | false=>exact res _ (oIP rfl) (ZZ _ _ (vq Y9 u o.dst o.op) hk)
   | _=>
    have hk:X.guardX aV j want (X.evop aV C u o.dst o.op) (X.setNo aV o.dst) (X.tOf σ j) (X.lgR (.t j) σ) k=some y:=hk;rw[ht] at hk;cases hk
  | tup l=>
   have hk:X.guardX aV j want (X.evop aV C u o.dst o.op) (X.setNo aV o.dst) (X.tOf σ j) (X.lgR (.t j) σ) k=some y:=hk;rw[ht] at hk
   cases l with
   | cons=>cases hk
   | nil=>
    have hst:(erS σ).t j=.tup []:=by rw[ze,ht];rfl
    obtain⟨a,σ',r1,n1,k1⟩:=lV o.dst (X.lgR (.t j) σ) k y hk;refine⟨a,σ',?_,?_,k1⟩
    ·simp only[SP.run,hst];exact r1
    ·simp only[SP.foot,hst];refine⟨λx hx=>?_,n1.w,λx hx=>n1.r0 x (by simp[X.lgR,hx]),λx hx=>n1.w0 x hx⟩;rcases List.mem_cons.1 hx with h | h
     ·exact n1.r0 x (by simp[X.lgR,h])
     ·exact n1.r x h
  | _=>
   have hk:X.guardX aV j want (X.evop aV C u o.dst o.op) (X.setNo aV o.dst) (X.tOf σ j) (X.lgR (.t j) σ) k=some y:=hk;rw[ht] at hk;cases hk
end
section
variable {α β γ δ Y:Type}
theorem xR{F:bV}{C:X.Cfg}(Y9:∀c∈C.TB,jc F c) (u:HL den []):∀(ops:List dh) {σ:XS den}{k:Unit->XS den->Option Y}{y:Y},X.spOps aV C u ops σ k=some y->∃ σ',jD (evCall C.E F) ops (erS σ)=some (erS σ')/\k () σ'=some y:=by
 intro ops
 induction ops with
 | nil=>intro σ k y h;exact⟨σ,rfl,h⟩
 | cons o ops ih=>
  intro σ k y h;have ⟨a,σ1,r1,_,h1⟩:=su Y9 u o σ _ y h;have ⟨σ',r2,h2⟩:=ih h1;refine⟨σ',?_,h2⟩;simp[jD];rw[sn r1];exact r2
def te(f g:i5):Prop:=(∀x∈f.1,x∈g.1)/\∀x∈f.2,x∈g.2
inductive Bt:List (Nat×i5)->List (Nat×i5)->Prop
 | nil:Bt [] []
 | cons {i:Nat} {f g:i5} {l r:List (Nat×i5)} (h:te f g) (t:Bt l r):Bt ((i,f) :: l) ((i,g) :: r)
theorem jJ{a a' b b':List Loc}(ha:∀x∈a,x∈a') (hb:∀x∈b,x∈b') (h:uo a' b'=false):uo a b=false:=by
 unfold uo at h ⊢
 simp_all
theorem uN{f f' g g':i5}(h1:te f f') (h2:te g g') (h:gM f' g'=false):gM f g=false:=by
 unfold gM at h ⊢;simp at h ⊢;have ⟨⟨⟨a,b⟩,c⟩,d⟩:=h;exact⟨⟨⟨jJ h1.2 h2.1 a,jJ h1.2 h2.2 b⟩,jJ h2.2 h1.1 c⟩,jJ h2.2 h1.2 d⟩
theorem ww{deps:List (List Nat)}{j:Nat}{f f':i5}(hf:te f f') {l r:List (Nat×i5)}(h:Bt l r):(r.all λy=>!gM f' y.2 || (deps.getD y.1 []).contains j)=true->(l.all λy=>!gM f y.2 || (deps.getD y.1 []).contains j)=true:=by
 induction h with
 | nil=>exact id
 | cons h t ih=>
  intro hr;simp only[List.all_cons,oBA] at hr ⊢;refine⟨?_,ih hr.2⟩;simp at hr ⊢;rcases hr.1 with h3 | h3
  ·exact .inl (uN hf h h3)
  ·simp_all
theorem pO{deps:List (List Nat)}{l r:List (Nat×i5)}(h:Bt l r):df deps r=true->df deps l=true:=by
 induction h with
 | nil=>exact id
 | cons h t ih=>
  intro hr;simp only[df,oBA] at hr ⊢;exact⟨ww h t hr.1,ih hr.2⟩
theorem Ad{F:bV}{C:X.Cfg}(Y9:∀c∈C.TB,jc F c) (u:HL den []) (ops:List dh):∀(L:List Nat) {σ:XS den}{k:List (Nat×i5)->XS den->Option Y}{y:Y},X.spFL aV C u ops L σ k=some y ->
 ∃fs gs σ',i6 (λi=>spOp (evCall C.E F) (ops.getD i qM)) L (erS σ)=some (fs,erS σ')/\Bt fs gs/\k gs σ'=some y:=by
 intro L
 induction L with
 | nil=>intro σ k y h;exact⟨[],[],σ,rfl,.nil,h⟩
 | cons i L ih=>
  intro σ k y h;have ⟨a,σ1,r1,n1,h1⟩:=su Y9 u _ _ _ y h;have r1:(spOp (evCall C.E F) (ops.getD i qM)).run (erS σ)=some (a,erS σ1):=r1;have ⟨fs,gs,σ',r2,le,h2⟩:=ih h1;refine⟨(i,(spOp (evCall C.E F) (ops.getD i qM)).foot (erS σ)) :: fs,(i,σ1.lg) :: gs,σ',?_,.cons ⟨n1.r,n1.w⟩ le,h2⟩;simp[i6]
  simp_all
theorem ku(L:List Nat) (σ:XS den) {t:XV den}(h:X.okN0 t=true):er (X.renorm0 L σ t)=renorm0 L (erS σ) (er t):=by
 cases t with
 | d t x=>cases t with
  | row o t=>cases o<;>first | rfl | simp[X.okN0] at h
  | nilr o=>cases o<;>rfl
  | nat=>simp[X.okN0] at h
  | pair a b=>simp[X.okN0] at h
  | _=>rfl
 | ptr p vs=>
  show er (if _ then _ else _)=(if _ then _ else _);by_cases hc:(L.contains p.root && vs==dM (jl σ.vr) p.root p.off p.hops.length)=true
  ·rw[oIP hc,oIP (by exact hc)];rfl
  ·rw[oIN hc,oIN (by exact hc)];rfl
 | pk p vs=>
  show er (if _ then _ else _)=(if _ then _ else _);by_cases hc:(L.contains p.root && vs==dM (jl σ.vr) p.root p.off (p.hops.length+1))=true
  ·rw[oIP hc,oIP (by exact hc)];rfl
  ·rw[oIN hc,oIN (by exact hc)];rfl
 | pw p vs sz lo n=>
  show er (if _ then _ else _)=(if _ then _ else _);by_cases hc:(L.contains p.root && vs==dM (jl σ.vr) p.root p.off (p.hops.length+1))=true
  ·rw[oIP hc,oIP (by exact hc)];rfl
  ·rw[oIN hc,oIN (by exact hc)];rfl
 | tup l=>cases l<;>rfl
 | gap=>simp[X.okN0] at h
 | _=>rfl
theorem wb(L:List Nat) (σ:XS den) {t:XV den}(h:X.okN t=true):er (X.renorm L σ t)=renorm L (erS σ) (er t):=by
 have ZZ:X.okN0 t=true->er (X.renorm0 L σ t)=renorm0 L (erS σ) (er t):=λh=>ku L σ h
 cases t with
 | agg l=>
  simp only[X.renorm,er,renorm,dW,List.map_map];congr 1;refine List.map_congr_left λx hx=>ku L σ (List.all_eq_true.1 h x hx)
 | fn f l=>
  simp only[X.renorm,er,renorm,dW,List.map_map];congr 1;refine List.map_congr_left λx hx=>ku L σ (List.all_eq_true.1 h x hx)
 | d t x=>
  have:=ZZ h
  cases t with
  | row o t=>cases o<;>exact this
  | nilr o=>cases o<;>exact this
  | _=>exact this
 | _=>exact ZZ h
theorem zt{α:Type}{P:α->Bool}:∀{l:List (Nat×α)}{i:Nat}{t:α},(l.all λx=>P x.2)=true->bl l i=some t->P t=true:=by
 intro l
 induction l with
 | nil=>intro i t _ h;simp[bl] at h
 | cons x l ih=>
  intro i t ha h;simp only[List.all_cons,oBA] at ha;simp[bl] at h;split at h
  ·simp_all
  ·exact ih ha.2 h
theorem yH(L:List Nat) (σ:XS den) (hok:X.okS σ=true):∀l:List Nat,(X.normT L σ l).map (λx=>(x.1,er x.2))=normT L (erS σ) l:=by
 intro l
 induction l with
 | nil=>rfl
 | cons i l ih=>
  simp[X.normT,normT];have e:bl (erS σ).tm i=(bl σ.tm i).map er:=lO _ _ _;rw[e]
  cases h:bl σ.tm i with
  | none=>exact ih
  | some t=>
   have ht:=zt hok h;simp only[oMS,List.map_cons];rw[wb L σ ht,ih]
theorem yI(σ:XS den):∀l:List Nat,erC (X.normC σ l)=normC (erS σ) l:=by
 intro l
 induction l with
 | nil=>rfl
 | cons r l ih=>
  simp[X.normC,normC];rw[nQ]
  cases h:bl σ.ce r with
  | none=>exact ih
  | some c=>
   simp;show (r,erL c) :: erC _=_;rw[ih]
theorem ox{σ:XS den}(hok:X.okS σ=true) (pers:Prs):erS (X.norm σ pers)=(erS σ).norm pers:=by
 unfold X.norm St.norm;show (⟨(X.normT pers.2 σ pers.1).map _,erC (X.normC σ pers.2),[]⟩:St)=_;rw[yH _ σ hok,yI]
theorem xD{σ:XS den}(hok:X.okS σ=true):erS (X.anew σ)=(erS σ).anew:=by
 unfold X.anew St.anew;rw[ox hok];congr 1;congr 1
 ·show _=(σ.tm.map λx=>(x.1,er x.2)).map (·.1)
  simp_all
 ·show _=(erC σ.ce).map (·.1);unfold erC
  simp_all
theorem xV(x:Nat×Option Nat):Sim (Y:=Y) (X.shr1 aV x) (shr1 x) id:=by
 obtain⟨i,off⟩:=x;refine Sim.rdT λt=>?_
 cases off with
 | none=>cases t with
  | pk p vs=>
   refine (cI false (.pk p vs)).bind λt'=>Sim.opt λt2 h2=>?_;rw[<- ml h2];exact oe i t2
  | d t y=>cases t with
   | row o t=>cases o<;>exact .ret rfl
   | nilr o=>cases o<;>exact .ret rfl
   | _=>exact .ret rfl
  | agg l=>exact Sim.ite (λ_=>.fail) λ_=>.ret rfl
  | _=>exact .fail
 | some off=>cases t with
  | ptr p vs=>
   refine (cl p _ vs).bind λ_=>Sim.ite (λh=>?_) λ_=>.fail;rw[oIP (by rw[<- oT];exact h),<- rM];refine (dS _).bind λt=>Sim.ite (λho=>?_) λho=>?_
   ·obtain⟨c,hc⟩:=fT ho;have Vn:=dR (Y:=Y) (X.addP p off) t;rw[hc] at Vn;rw[hc];exact Vn.bind λt'=>(cI false t').bind λ_=>.ret rfl
   ·cases t with
    | d t y=>
     cases t with
     | row o t=>cases o<;>first | exact .ret rfl | simp[X.isOwX,X.isOwT] at ho
     | nilr o=>cases o<;>first | exact .ret rfl | simp[X.isOwX,X.isOwT] at ho
     | _=>exact .ret rfl
    | _=>exact .fail
  | d t y=>cases t with
   | row o t=>cases o<;>exact .fail
   | nilr o=>cases o<;>exact .fail
   | _=>exact .fail
  | _=>exact .fail
theorem sw:∀l:List (Nat×Option Nat),Sim (Y:=Y) (X.shrs aV l) (shrs l) id:=by
 intro l
 induction l with
 | nil=>exact .ret rfl
 | cons x l ih=>exact (xV x).bind λ_=>ih
theorem AD{i:Nat}{σ:XS den}{u:HL den []}:∀{L:List qK}{H:qK}{h:HL den (lvS H.s)},X.selH aV i σ u L=some ⟨H,h⟩->X.convS aV H.s σ u=some h:=by
 intro L
 induction L with
 | nil=>intro H h hs;cases hs
 | cons H0 L ih=>
  intro H h hs;unfold X.selH at hs
  grind
theorem nR{Z:Type}{outs:List (d4×Shs)}{i:Nat}{h:HL den (ov (outs.map λx=>lvS x.2) i)}{o:n8 (outs.map λx=>lvS x.2)}{x:d4×XS den}(K:d4×XS den->Option Z) (hm:kB (outs.map λx=>lvS x.2) i h=some o) (hf:la outs i h=some x):(eR (outs.map λx=>lvS x.2) o λj ho=>X.onOut aV (la outs j ho) K)=K x:=by
 rw[nS _ hm,hf];rfl
theorem xY{F:bV}{C:X.Cfg}(Y9:∀c∈C.TB,jc F c) (u:HL den []) {N:Nat}(hN:NN<=N):∀(tc:d5) (i:Nat) {Y:Type}(σ:XS den) (k:d4->XS den->Option Y) (y:Y),X.runC aV C u tc i σ k=some y->∃e σ',runC (evCall C.E F) N tc (erS σ)=some (e,erS σ')/\k e σ'=some y:=by
 intro tc
 induction tc with
 | skip=>intro i Y σ k y h;exact⟨.normal,σ,rfl,h⟩
 | nrm pers=>
  intro i Y σ k y h;have h:(if X.okS σ then k .normal (X.norm σ pers) else none)=some y:=h;split at h
  ·rename_i hok;exact⟨.normal,X.norm σ pers,by rw[ox hok];rfl,h⟩
  ·cases h
 | reg id draw ops pers=>
  intro i Y σ k y h
  cases draw with
  | none=>
   have h:X.spOps aV C u ops σ (λ_ σ'=>if X.okS σ' then k .normal (X.norm σ' pers) else none)=some y:=h;obtain⟨σ1,r1,h1⟩:=xR Y9 u ops h;split at h1
   ·rename_i hok;refine⟨.normal,X.norm σ1 pers,?_,h1⟩;simp only[runC];rw[r1,ox hok];rfl
   ·cases h1
  | some deps=>
   obtain⟨fs,gs,σ1,r1,le,h1⟩:=Ad Y9 u ops _ h;split at h1
   ·rename_i hok;simp only[oBA] at hok;rw[rj] at hok;refine⟨.normal,X.norm σ1 pers,?_,h1⟩;simp only[runC];rw[r1,ox hok.2];simp only[oBS];rw[oIP (pO le hok.1)]
   ·cases h1
 | seq a b Zn Zh=>
  intro i Y σ k y h
  have fin:∀(e:d4) (σ1:XS den),runC (evCall C.E F) N a (erS σ)=some (e,erS σ1)->(match e with | .normal=>X.runC aV C u b (i+1+X.marks a) σ1 k | e=>k e σ1)=some y->∃e σ',runC (evCall C.E F) N (.seq a b) (erS σ)=some (e,erS σ')/\k e σ'=some y:=by
   intro e σ1 r1 h1;simp only[runC];rw[r1];simp only[oBS]
   cases e with
   | normal=>exact Zh _ σ1 k y h1
   | exit j=>exact⟨_,σ1,rfl,h1⟩
   | ret=>exact⟨_,σ1,rfl,h1⟩
  unfold X.runC at h
  cases hs:X.selJ i C.HL with
  | none=>
   rw[hs] at h;obtain⟨e,σ1,r1,h1⟩:=Zn _ σ _ y h;exact fin e σ1 r1 h1
  | some H=>
   rw[hs] at h;obtain⟨o,h1,h2⟩:=aZ (show (X.runC aV C u a (i+1) σ _:Option _).bind _=some y from h);obtain⟨e,σ1,r1,h3⟩:=Zn _ σ _ o h1
   cases hi:X.injE aV e σ1 u H.outs with
   | none=>rw[hi] at h3;cases h3
   | some x=>
    rw[hi] at h3;obtain⟨j,ho⟩:=x;have h3:kB (H.outs.map λx=>lvS x.2) j ho=some o:=h3;obtain⟨x,hf,he,hσ⟩:=wU hi;rw[nR _ h3 hf] at h2;rw[<- hσ] at r1;rw[<- he] at r1;exact fin x.1 x.2 r1 h2
 | cond c a b Zn Zh=>
  intro i Y σ k y h;obtain⟨t,σ1,r1,e1,_,h1⟩:=lD h
  cases t with
  | d t x=>cases t with
   | bool=>
    have SZ:erS (X.knownO aV c x σ)=erS σ:=by
     cases c with
     | t j=>
      have hj:X.tOf σ j=.d .bool x:=by
       have h9:X.condX aV (X.runC aV C u a i (X.knownO aV (.t j) true σ) k) (X.runC aV C u b (i+X.marks a) (X.knownO aV (.t j) false σ) k) (X.tOf σ j)=some y:=h;have r1:(some ((erS σ).t j,erS σ):Option (TV×St))=some (er (.d .bool x),erS σ):=r1
       injection r1 with r1
       injection r1 with r1 _
       rw[ze] at r1
       cases ht:X.tOf σ j with
       | d t2 z=>cases t2 with
        | bool=>rw[ht] at r1;injection r1 with r1;injection r1 with r1;rw[show z=x from r1]
        | _=>rw[ht] at h9;cases h9
       | _=>rw[ht] at h9;cases h9
      exact sT hj
     | _=>rfl
    have r1:(opd c).run (erS σ)=some (.v (.bool x),erS σ):=r1;simp only[runC];rw[r1];simp only[oBS]
    cases x with
    | true=>
     rw[<- SZ];exact Zn _ _ k y h1
    | false=>
     rw[<- SZ];exact Zh _ _ k y h1
   | _=>cases h1
  | _=>cases h1
 | block id b ih=>
  intro i Y σ k y h;unfold X.runC at h;obtain⟨e,σ1,r1,h1⟩:=ih _ σ _ y h;simp only[runC];rw[r1];simp only[oBS]
  grind
 | loop b ih=>
  intro i Y σ k y h;unfold X.runC at h
  cases hs:X.selH aV i σ u C.HL with
  | none=>rw[hs] at h;cases h
  | some x=>
   obtain⟨H,h0⟩:=x;rw[hs] at h;have Uf:=o4 (AD hs);obtain⟨o,h1,h2⟩:=aZ (show (bu _ NN h0).bind _=some y from h)
   have ZZ:∀(n:Nat) (hd:HL den (lvS H.s)) (o:n8 (H.outs.map λx=>lvS x.2)),bu (λh=>X.runC aV C u b (i+1) (rK H.s h) (X.roundK aV H u)) n hd=some o->∀N',n<=N'->∃x j ho,AT (runC (evCall C.E F) N b) N' (erS (rK H.s hd))=some (x.1,erS x.2)/\kB (H.outs.map λx=>lvS x.2) j ho=some o/\la H.outs j ho=some x:=by
    intro n
    induction n with
    | zero=>intro hd o h;cases h
    | succ n QP=>
     intro hd o h N' Y1;obtain⟨N',rfl⟩:∃Pf,N'=Pf+1:=⟨N' - 1,by omega⟩;obtain⟨z,hz,Wk⟩:=aZ (show (X.runC aV C u b (i+1) (rK H.s hd) _:Option _).bind _=some o from h);obtain⟨e,σ1,r1,h3⟩:=ih _ _ _ z hz;simp only[AT];rw[r1];simp only[oBS]
     have Zo:∀e':d4,(∀s:Option (HL den (lvS H.s)⊕n8 (H.outs.map λx=>lvS x.2)),s=some z->s=X.onOut aV (X.injE aV e' σ1 u H.outs) (λx=>aV.exitL (lvS H.s) (H.outs.map λx=>lvS x.2) x.1 x.2)->∃x j ho,(some (e',erS σ1):Option (d4×St))=some (x.1,erS x.2)/\kB (H.outs.map λx=>lvS x.2) j ho=some o/\la H.outs j ho=some x):=by
      intro e' s YF YQ;rw[YF] at YQ
      cases hi:X.injE aV e' σ1 u H.outs with
      | none=>rw[hi] at YQ;cases YQ
      | some x=>
       rw[hi] at YQ;obtain⟨j,ho⟩:=x;obtain⟨t,WL,YA⟩:=cU (show (kB (H.outs.map λx=>lvS x.2) j ho).map Sum.inr=some z from YQ.symm);subst YA;obtain⟨x,hf,he,hσ⟩:=wU hi;refine⟨x,j,ho,by rw[he,hσ],?_,hf⟩;have:some t=some o:=Wk;rw[<- this];exact WL
     cases e with
     | normal=>
      have h3:X.onOut aV (X.convS aV H.s σ1 u) (aV.next (lvS H.s) (H.outs.map λx=>lvS x.2))=some z:=h3
      cases hc:X.convS aV H.s σ1 u with
      | none=>rw[hc] at h3;cases h3
      | some h'=>
       rw[hc] at h3;have h3:some (Sum.inl h')=some z:=h3
       injection h3 with h3
       subst h3;rw[<- o4 hc];exact QP h' o Wk N' (by omega)
     | exit j=>exact Zo (.exit j) _ h3 rfl
     | ret=>exact Zo .ret _ h3 rfl
   obtain⟨x,j,ho,r1,hm,hf⟩:=ZZ NN h0 o h1 N hN;rw[nR _ hm hf] at h2;refine⟨x.1,x.2,?_,h2⟩;simp only[runC];rw[<- Uf];exact r1
 | exit id=>intro i Y σ k y h;exact⟨.exit id,σ,rfl,h⟩
 | ret=>intro i Y σ k y h;exact⟨.ret,σ,rfl,h⟩
 | pre l a ih=>
  intro i Y σ k y h;obtain⟨_,σ1,r1,_,h1⟩:=sw l σ _ y h;split at h1
  ·rename_i hok;obtain⟨e,σ2,r2,h2⟩:=ih _ _ k y h1;refine⟨e,σ2,?_,h2⟩;simp only[runC];rw[r1];simp only[oBS];rw[<- xD hok];exact r2
  ·cases h1
 | post a l ih=>
  intro i Y σ k y h;obtain⟨e,σ1,r1,h1⟩:=ih _ _ _ y h;obtain⟨_,σ2,r2,_,h2⟩:=sw l σ1 _ y h1;split at h2
  ·rename_i hok;refine⟨e,X.anew σ2,?_,h2⟩;simp only[runC];rw[r1];simp only[oBS];rw[r2];simp only[oBS];rw[xD hok]
  ·cases h2
end
section
variable {α β γ δ Y:Type}
theorem nB(np:Nat) (t:XV den):Sim (Y:=Y) (X.takeR1 aV np t) (takeR1 np (er t)) er:=by
 have ZZ:Sim (Y:=Y) (X.take1 aV true t) (take1 true (er t)) er:=cI true t
 cases t with
 | pk p vs=>exact cI _ (.pk p vs)
 | d t y=>cases t with
  | row o t=>cases o<;>exact ZZ
  | nilr o=>cases o<;>exact ZZ
  | _=>exact ZZ
 | _=>exact ZZ
theorem tS(np:Nat):∀l:List (XV den),Sim (Y:=Y) (X.takeRL aV np l) (takeRL np (erL l)) erL:=by
 intro l
 induction l with
 | nil=>exact .ret rfl
 | cons t l ih=>exact (nB np t).bind λt'=>ih.bind λr'=>.ret rfl
theorem kn(np:Nat) (t:XV den):Sim (Y:=Y) (X.takeRV aV np t) (takeRV np (er t)) λx=>(erL x.1,x.2):=by
 have one:∀t:XV den,Sim (Y:=Y) (X.bind (X.takeR1 aV np t) λt'=>X.ret ([t'],RSh.one)) ((takeR1 np (er t)).bind λt'=>.ret ([t'],.one)) λx=>(erL x.1,x.2):=λt=>(nB np t).bind λt'=>.ret rfl;have ZZ:=one t
 cases t with
 | agg l=>exact (tS np l).bind λl'=>.ret (by simp[b9])
 | d t y=>cases t with
  | row o t=>cases o<;>exact ZZ
  | nilr o=>cases o<;>exact ZZ
  | _=>exact ZZ
 | _=>exact ZZ
theorem yd(np:Nat) (q:TRs):Sim (Y:=Y) (X.res1 aV np q) (res1 np q) λx=>(erL x.1,x.2):=by
 cases q with
 | tmp t=>exact Sim.rdT λtv=>kn np tv
 | cell t n=>
  refine Sim.rdT λtv=>?_
  cases tv with
  | ptr p vs=>
   refine (cl p _ vs).bind λ_=>?_
   cases n with
   | none=>exact (dS p).bind λt=>(dR p t).bind λt'=>kn np t'
   | some n=>exact (pC p n).bind λl=>kn np (.agg l)
  | d t y=>cases t with
   | row o t=>cases o<;>exact .fail
   | nilr o=>cases o<;>exact .fail
   | _=>exact .fail
  | _=>exact .fail
theorem xZ(np:Nat):∀l:List TRs,Sim (Y:=Y) (X.resL aV np l) (resL np l) λx=>(erL x.1,x.2):=by
 intro l
 induction l with
 | nil=>exact .ret rfl
 | cons q l ih=>exact (yd np q).bind λx=>ih.bind λy=>.ret (by simp[iX])
theorem wz(l:List (XV den)):onesOf (erL l)=X.onesOf l:=by
 induction l with
 | nil=>rfl
 | cons t l ih=>simp[erL,onesOf,X.onesOf,ih]
theorem tV:∀l:List TRs,Sim (Y:=Y) (X.flatsR aV l) (flatsR l) erL:=by
 intro l
 induction l with
 | nil=>exact .ret rfl
 | cons q l ih=>cases q with
  | cell t n=>exact .fail
  | tmp t=>
   refine Sim.rdT λtv=>Sim.ite (λhc=>?_) λ_=>.fail
   have h1:qO (er tv)=true:=by
    have:=th (l:=[tv]) (by simp_all);simpa [erL] using this
   rw[oIP h1];exact ih.bind λl=>.ret rfl
theorem yc(np:Nat) (l:List TRs):Sim (Y:=Y) (X.resF aV np l) (resF np l) λx=>(erL x.1,x.2):=by
 have base:=xZ (Y:=Y) np l
 cases l with
 | nil=>exact base
 | cons q r=>cases q with
  | cell t n=>exact base
  | tmp t=>
   refine Sim.rdT λtv=>?_
   cases tv with
   | ptr p vs=>exact (cl p _ vs).bind λ_=>(tV r).bind λl=>.ret (by simp[wz];rfl)
   | d ty y=>cases ty with
    | row o ty=>cases o<;>exact base
    | nilr o=>cases o<;>exact base
    | _=>exact base
   | _=>exact base
theorem wN(t:XV den):(∃p vs,t=.ptr p vs)\/(X.isPtrX t=false/\∀p vs,er t≠.ptr p vs):=by
 cases t with
 | ptr p vs=>simp_all
 | d t y=>cases t with
  | row o t=>cases o<;>exact .inr ⟨rfl,by simp[er,er1]⟩
  | nilr o=>cases o<;>exact .inr ⟨rfl,by simp[er,er1]⟩
  | _=>exact .inr ⟨rfl,by simp[er,er1]⟩
 | gap t x i o=>exact .inr ⟨rfl,λp vs h=>by cases h⟩
 | _=>exact .inr ⟨rfl,by simp[er]⟩
theorem yP{t:XV den}(h:X.isShX t=true):∃c,er t=.sl c:=by
 cases t with
 | d t y=>cases t with
  | row o t=>cases o with
   | false=>exact⟨_,rfl⟩
   | true=>cases h
  | nilr o=>cases o with
   | false=>exact⟨_,rfl⟩
   | true=>cases h
  | _=>cases h
 | _=>cases h
theorem ue{pp:List Nat}:∀{l:List (XV den)}{i:Nat},X.ptrsInX pp i l=true->fR pp i (erL l)=true:=by
 intro l
 induction l with
 | nil=>intro i _;rfl
 | cons t l ih=>
  intro i h;simp only[X.ptrsInX,oBA] at h;have ⟨⟨h0,hs⟩,hr⟩:=h;rcases wN t with ⟨p,vs,rfl⟩ | ⟨h1,h2⟩
  ·show (pp.contains i && fR pp (i+1) (erL l))=true;rw[ih hr,Bool.and_true];simpa [X.isPtrX] using h0
  ·show fR pp i (er t :: erL l)=true;rw[h1,Bool.false_or] at hs
   cases hsh:X.isShX t with
   | true=>
    have ⟨c,hc⟩:=yP hsh;rw[hc];exact ih hr
   | false=>
    rw[hsh,Bool.false_or] at hs
    cases he:er t with
    | ptr p vs=>simp_all
    | sl c=>exact ih hr
    | _=>show (!pp.contains (1000+i) && fR pp (i+1) (erL l))=true;rw[hs,ih hr];rfl
theorem rk(l:List (XV den)):∀i,(cB i l).map (λx=>(x.1,er x.2))=cB i (erL l):=by
 induction l with
 | nil=>intro i;rfl
 | cons t l ih=>intro i;simp[cB,erL,ih]
theorem AQ(vals:List (XV den)) (pts:List (Nat×List (XV den))):erS (X.mkSt vals pts)=mkSt (erL vals) (erC pts):=by
 unfold X.mkSt mkSt erS;simp[rk]
theorem yB(σ:XS den) (pts:List (Nat×List (XV den))):erC (X.ptsOf σ pts)=(erC pts).map λx=>(x.1,(bl (erS σ).ce x.1).getD []):=by
 induction pts with
 | nil=>rfl
 | cons x pts ih=>
  show (x.1,erL ((bl σ.ce x.1).getD [])) :: erC (X.ptsOf σ pts)=(x.1,(bl (erS σ).ce x.1).getD []) :: _;rw[ih,nQ];cases bl σ.ce x.1<;>rfl
theorem AH{F:bV}{C:X.Cfg}(Y9:∀c∈C.TB,jc F c) (u:HL den []) {N:Nat}(hN:NN<=N) {tf:TFn}{outs:List XO}{vals:List (XV den)}{pts:List (Nat×List (XV den))}{o:n8 (outs.map lvO)}(h:X.runT aV C u tf outs vals pts=some o) :
 ∃x,eR (outs.map lvO) o (λi ho=>fa outs i ho)=some x/\runT C.E F N tf (erL vals) (erC pts)=some (⟨erL x.1,x.2.1⟩,erC x.2.2):=by
 unfold X.runT at h;split at h
 case isFalse=>cases h
 rename_i hc;obtain⟨e,σ1,r1,h1⟩:=xY Y9 u hN tf.body 0 _ _ o h
 have ZZ:X.resF aV tf.np tf.res σ1 (λy σ'=>X.onOut aV (X.injO aV y.1 y.2 (X.ptsOf σ' pts) u outs) λx=>aV.out (outs.map lvO) x.1 x.2)=some o ->
  ∃x,eR (outs.map lvO) o (λi ho=>fa outs i ho)=some x/\(((resF tf.np tf.res).run (erS σ1)).bind λy=>some ((⟨y.1.1,y.1.2⟩:uY),(erC pts).map λx=>(x.1,(bl y.2.ce x.1).getD [])))=some (⟨erL x.1,x.2.1⟩,erC x.2.2):=by
  intro h2;obtain⟨y,σ2,r2,_,h3⟩:=yc tf.np tf.res σ1 _ o h2
  cases hi:X.injO aV y.1 y.2 (X.ptsOf σ2 pts) u outs with
  | none=>rw[hi] at h3;cases h3
  | some z=>
   rw[hi] at h3;obtain⟨i,ho⟩:=z;obtain⟨x,hf,e1,e2,e3⟩:=AV hi;refine⟨x,?_,?_⟩
   ·rw[nS _ (show kB (outs.map lvO) i ho=some o from h3)];exact hf
   ·rw[r2];simp only[oBS];rw[e1,e2,e3,yB]
 have Z5:(erL vals).length=tf.np/\(fR tf.pp 0 (erL vals) && (!tf.pp.contains 1000 || (erC pts).isEmpty))=true:=by
  have h2:=hc.2;rw[oBA] at h2;refine⟨by rw[b9];exact hc.1,?_⟩;rw[ue h2.1,Bool.true_and];have h3:=h2.2
  cases pts with
  | nil=>simp[erC]
  | cons x pts=>simp_all
 unfold runT;rw[oIP Z5,<- AQ,r1]
 cases e with
 | exit j=>cases h1
 | normal=>exact ZZ h1
 | ret=>simp_all
end
theorem zh{E:Env}{T:FuncId->Option TFn}{B F:bV}{N:Nat}(hN:NN<=N) {C:X.Cfg}(hE:C.E=E) (Y9:∀c∈C.TB,jc F c) {c:Ctr}{tf:TFn}(hT:T c.f=some tf)
 (hg:∀h,X.runT aV C () tf c.outs (dn c.ins _ h).1 (jZ c.pts [] (dn c.ins _ h).2).1=c.g h):jc (qV E T B F N) c:=by
 intro h o x ho hx;rw[tO hT];rw[<- hg h] at ho;have ⟨x',h1,h2⟩:=AH Y9 () hN ho
 simp_all
def Lvl(E:Env) (T:FuncId->Option TFn) (B:bV) (n:Nat) (c:Ctr):Prop:=∀k,n<=k->jc (runF E T B (NN+k)) c
def tI(E:Env) (T:FuncId->Option TFn) (B:bV) (n:Nat):List Ctr->Prop
 | []=>True
 | c :: r=>Lvl E T B n c/\tI E T B n r
theorem Lvl.mono{E:Env}{T:FuncId->Option TFn}{B:bV}{n m:Nat}{c:Ctr}(h:Lvl E T B n c) (hm:n<=m):Lvl E T B m c:=λk hk=>h k (Nat.le_trans hm hk)
theorem tI.get{E:Env}{T:FuncId->Option TFn}{B:bV}{n:Nat}:∀{l:List Ctr},tI E T B n l->∀c∈l,Lvl E T B n c:=by
 intro l
 induction l with
 | nil=>simp_all
 | cons x l ih=>
  intro h c hc;rcases List.mem_cons.1 hc with rfl | hc
  ·exact h.1
  ·exact ih h.2 c hc
theorem Cj{E:Env}{T:FuncId->Option TFn}{B:bV}{n:Nat}{C:X.Cfg}(hE:C.E=E) (Y9:tI E T B n C.TB) {c:Ctr}{tf:TFn}(hT:T c.f=some tf)
 (hg:∀h,X.runT aV C () tf c.outs (dn c.ins _ h).1 (jZ c.pts [] (dn c.ins _ h).2).1=c.g h):Lvl E T B (n+1) c:=by
 intro k hk;obtain⟨k,rfl⟩:∃k',k=k'+1:=⟨k - 1,by omega⟩;exact zh (F:=runF E T B (NN+k)) (Nat.le_add_right _ _) hE (λc hc=>Y9.get c hc k (by omega)) hT hg
theorem uI{P:Program}{H:Nat->List (Nat×Option Nat)}{f:FuncId}{tf:TFn}(h:kH P H f=some tf):∃fn,P.funcs[f]?=some fn/\tf.np<=fn.params.size+fn.nfree/\tf.nt=fn.ntmps:=by
 unfold kH at h;split at h
 case h_2=>simp at h
 split at h
 case h_2=>simp at h
 split at h
 ·rename_i QX Y';have ⟨_,g2,g3,_⟩:=lc Y'
  simp_all
 simp only at h;split at h
 ·injection h with h
  subst h
  simp_all
 ·simp at h
theorem Aa{P:Program}(H:FuncId->Nat->List (Nat×Option Nat)) (ZS:(P.funcs.all λfn=>decide (fn.params.size+fn.nfree<=fn.ntmps) && !(fn.name=="runtime.NumGoroutine"))=true):xF P λf=>kH P (H f) f:=by
 refine xP λf tf h=>?_;have ⟨fn,hf,e1,e2⟩:=uI h;have ⟨hlt,he⟩:=Array.getElem?_eq_some_iff.1 hf;have:=Array.all_eq_true.1 ZS f hlt;rw[he] at this;simp at this;refine⟨⟨H f,h⟩,by omega,λOP TM=>?_⟩
 simp_all
def CO:TFn:=⟨0,[],0,.skip,[]⟩
theorem Ct{o:Option TFn}(h:o.isSome=true):o=some (o.getD CO):=by
 cases o with
 | none=>simp at h
 | some x=>rfl
def CN(P:Program) (f:FuncId):List (Option Nat):=match P.funcs[f]? with
 | some fn=>fn.params.toList.map λt=>match P.underlying t with | some (.pointer e)=>nw P e | _=>none
 | none=>[]
abbrev I64:CT:=.int .i64
def w64(x:Int):Int:=IntKind.wrap .i64 x
def wk(k:IntKind) (x:Int):Int:=IntKind.wrap k x
def bytes(l:List Nat):ByteArray:=⟨(l.map UInt8.ofNat).toArray⟩
inductive Cp (w:World) (F:Nat->Prop):TV->Value->Prop
 | im {c:List (List TV)} {x:Value} (h:fe w F (.sl c) x):Cp w F (.sl c) x
 | v {x:Value} (h:cO x=true):Cp w F (.v x) x
 | fn {f:FuncId}:Cp w F (.fn f []) (.func (.func f) #[] #[])
def pZ:TV->Bool
 | .sl _=>true
 | .v _=>true
 | .fn _ []=>true
 | _=>false
def Bl(P:Program) (f:FuncId) (vals:List TV) (c:List (List TV)):Prop:=
 ∀(asq:List Value) (w:World) (F:Nat->Prop),asq.length=vals.length->(∀j (h:j < vals.length) (h':j < asq.length),Cp w F vals[j] asq[j]) ->
  Calls P f asq.toArray w λe w2=>∃x,e=.returned x/\Below w.heap.size w w2/\fe w2 (λk=>F k\/w.heap.size<=k) (.sl c) x
def zP(R:FuncId->List TV->Option (List (List TV))):bV:=λf vals pts=>
 match pts with
 | []=>if vals.all pZ then (R f vals).map λc=>(⟨[.sl c],[.one]⟩,[]) else none
 | _=>none
theorem BO{P:Program}{R:FuncId->List TV->Option (List (List TV))}(hR:∀f vals c,R f vals=some c->f8 P f/\Bl P f vals c):dY P (zP R):=by
 intro f vals pts res Zv h
 cases pts with
 | cons _ _=>simp[zP] at h
 | nil=>
  simp only[zP] at h;split at h
  case isFalse=>simp at h
  rename_i ZS;simp only[List.all_eq_true] at ZS
  obtain⟨c,hc,he⟩:∃c,R f vals=some c/\(⟨[.sl c],[.one]⟩,[])=(res,Zv):=by
   cases hr:R f vals with
   | none=>simp[hr] at h
   | some c=>exact⟨c,rfl,by simpa [hr] using h⟩
  injection he with e1 e2
  subst e1 e2;obtain⟨Za,S1⟩:=hR f vals c hc;refine⟨Za,vals.length,Nat.le_refl _,λM asq w G hal hN RS YV hI=>?_⟩;subst RS
  have Tk:asq.toArray++Array.replicate (vals.length - asq.length) undef=asq.toArray:=by rw[hal];simp
  rw[Tk] at hI
  have hst:∀j,(mkSt vals []).t j=vals.getD j .dead:=by
   intro j;simp[St.t,mkSt,kQ]
  refine (S1 asq M.w0 (G.F M.A) hal λj hj ZY=>?_).mono λe w2 ⟨x,Ww,hb,Wz⟩=>?_
  ·have ht:=hI.tmr j;rw[hst] at ht
   have e1:vals.getD j .dead=vals[j]:=by simp[hj]
   have e2:asq.toArray.getD j undef=asq[j]:=by simp[Array.getD_eq_getD_getElem?,ZY]
   rw[e1,e2] at ht;have ha:=ZS _ (List.getElem_mem hj);revert ht ha;generalize vals[j]=t;generalize asq[j]=y;intro ht ha
   cases ht with
   | v h=>exact .v h
   | sl h=>exact .im h
   | @fn f l xs hl h=>
    cases l with
    | nil=>
     have:xs=#[]:=Array.eq_empty_of_size_eq_zero (by simpa using hl);subst this;exact .fn
    | cons _ _=>simp[pZ] at ha
   | _=>simp[pZ] at ha
  ·obtain⟨ZR,_⟩:=hI.grow (w':=w2) (λk hk=>hb.block k hk) hb.size hb.os hb.tape hb.output
   have hF:∀k,G.F M.A k\/M.w0.heap.size<=k->G.F M.A k:=by
    rintro k (hk | hk)
    ·exact hk
    ·refine⟨M.hA k hk,λr o hφ=>?_,λr b o n hβ e=>?_⟩
     ·have:=hI.core.live hφ;omega
     ·subst e;have:=hI.core.boxlt hβ;omega
   obtain⟨G',hg⟩:=ZR.addHand (Wz.frame (F':=G.F M.A) (λ_ _ _=>rfl) λk hk _=>hF k hk).toOwn;refine⟨x,mkSt vals [],Ww,.inl ⟨[x],asq.toArray,G',rfl,hg.1,λj hj=>?_⟩,rfl⟩
   have:j=0:=by simpa using hj
   subst this;exact .inl rfl
theorem wK{E:Env}{T:FuncId->Option TFn}{B:bV}{c:Ctr}(hT:T c.f=none) (hB:jc B c):Lvl E T B 1 c:=by
 intro k _ h o x ho hx
 have e:runF E T B (NN+k) c.f=B c.f:=by
  obtain⟨n,hn⟩:∃n,NN+k=n+1:=⟨NN - 1+k,by have:0 < NN:=(by decide);omega⟩;rw[hn];funext vals pts;simp only[runF,qV,hT]
 rw[e];exact hB h o x ho hx
abbrev PID:=Int×Int
def dJ(a b:PID):Bool:=if (a.1==-1) != (b.1==-1) then b.1==-1 else decide (a.1 < b.1) || (a.1==b.1 && decide (a.2 < b.2))
def rx:List PID->PID->List PID
 | [],x=>[x]
 | y :: r,x=>if dJ y x then y :: rx r x else if y=x then y :: r else x :: y :: r
def ga(l:List PID):List PID:=l.foldl rx []
def kG(x:PID):List TV:=[.v (.int .i64 x.1),.v (.int .i64 x.2)]
def zR:List (List TV)->Option (List PID)
 | []=>some []
 | e :: r=>match e with
  | [.v (.int .i64 a),.v (.int .i64 b)]=>(zR r).map ((a,b) :: ·)
  | _=>none
def rP:List (List TV)->Option (List (List PID))
 | []=>some []
 | e :: r=>match e with
  | [.sl c]=>(zR c).bind λl=>(rP r).map (l :: ·)
  | _=>none
theorem oY:∀l:List PID,zR (l.map kG)=some l
 | []=>rfl
 | x :: r=>by simp[zR,kG,oY r]
theorem rO:∀{c:List (List TV)}{l:List PID},zR c=some l->c=l.map kG
 | [],l,h=>by simp only[zR,oSJ] at h;subst h;rfl
 | e :: r,l,h=>by
  simp only[zR] at h;split at h
  ·obtain⟨l',h1,rfl⟩:=Option.map_eq_some_iff.1 h;rw[rO h1];rfl
  ·simp at h
theorem tu:∀{c:List (List TV)}{l:List (List PID)},rP c=some l->c=l.map λx=>[TV.sl (x.map kG)]
 | [],l,h=>by simp only[rP,oSJ] at h;subst h;rfl
 | e :: r,l,h=>by
  simp only[rP] at h;split at h
  ·rename_i c;obtain⟨x,h1,h2⟩:=Option.bind_eq_some_iff.1 h;obtain⟨l',h3,rfl⟩:=Option.map_eq_some_iff.1 h2;rw[tu h3,rO h1];rfl
  ·simp at h
theorem qu:∀l:List (List PID),rP (l.map λx=>[TV.sl (x.map kG)])=some l
 | []=>rfl
 | x :: r=>by simp[rP,oY,qu r]
def Row(w:World) (F:Nat->Prop) (A:Option Addr) (cs:List Value):Prop:=
 ∀i (_:i < cs.length),∃b off,A=some ⟨b,off,none⟩/\F b/\w.cell? ⟨b,off+i,none⟩=some cs[i]
def xG(k:IntKind) (w:World) (F:Nat->Prop) (A:Option Addr) (xs:List Int):Prop:=Row w F A (xs.map (.int k))
def eU(F:Nat->Prop) (w w':World):Prop:=∀k,F k->w'.heap[k]?=w.heap[k]?
theorem eU.refl(F:Nat->Prop) (w:World):eU F w w:=λ_ _=>rfl
theorem eU.trans{F:Nat->Prop}{a b c:World}(h:eU F a b) (h':eU F b c):eU F a c:=λk hk=>(h' k hk).trans (h k hk)
theorem eU.sub{F G:Nat->Prop}{a b:World}(h:eU F a b) (hs:∀k,G k->F k):eU G a b:=λk hk=>h k (hs k hk)
theorem eU.drewN{F:Nat->Prop}{a b:World}(h:eU F a b) (n:Nat):eU F a (b.drewN n):=h
theorem eU.drew{F:Nat->Prop}{a b:World}(h:eU F a b):eU F a b.drew:=h
theorem eU.alloc{F:Nat->Prop}{a b:World}(h:eU F a b) (hF:∀k,F k->k < b.heap.size) (o:Obj):eU F a (b.alloc o):=
 λk hk=>(heap_alloc_old b o (hF k hk)).trans (h k hk)
theorem eU.setCell{F:Nat->Prop}{a b:World}(h:eU F a b) {p:Addr}(hp:¬ F p.block) (u:Value):eU F a (b.setCell p u):=
 λk hk=>(Below.heap_setCell b p u k (λe=>hp (e ▸ hk))).trans (h k hk)
theorem eU.cell{F:Nat->Prop}{a b:World}(h:eU F a b) {p:Addr}(hp:F p.block):b.cell? p=a.cell? p:=World.cell?_of_block (h p.block hp)
theorem Row.keep{w w':World}{F:Nat->Prop}{A:Option Addr}{cs:List Value}(h:Row w F A cs) (ha:eU F w w'):Row w' F A cs:=by
 intro i hi;obtain⟨b,off,e,hF,hc⟩:=h i hi;exact⟨b,off,e,hF,by rw[ha.cell (p:=⟨b,off+i,none⟩) hF];exact hc⟩
theorem Row.sub{w:World}{F G:Nat->Prop}{A:Option Addr}{cs:List Value}(h:Row w F A cs) (hs:∀k,F k->G k):Row w G A cs:=by
 intro i hi;obtain⟨b,off,e,hF,hc⟩:=h i hi;exact⟨b,off,e,hs _ hF,hc⟩
theorem Row.nil(w:World) (F:Nat->Prop) (A:Option Addr):Row w F A []:=λi hi=>absurd hi (by simp)
theorem xG.keep{k:IntKind}{w w':World}{F:Nat->Prop}{A:Option Addr}{xs:List Int}(h:xG k w F A xs) (ha:eU F w w'):xG k w' F A xs:=Row.keep h ha
theorem xG.at_{k:IntKind}{w:World}{F:Nat->Prop}{A:Option Addr}{xs:List Int}(h:xG k w F A xs) {i:Nat}(hi:i < xs.length) :
 ∃b off,A=some ⟨b,off,none⟩/\F b/\w.cell? ⟨b,off+i,none⟩=some (.int k xs[i]):=by
 obtain⟨b,off,e,hF,hc⟩:=h i (by simpa using hi);exact⟨b,off,e,hF,by simpa using hc⟩
theorem Row.grown{w w':World}{F:Nat->Prop}{A:Option Addr}{cs:List Value}(h:Row w F A cs) (hg:w.grownBy w' none) (hF:∀k,F k->k < w.heap.size):Row w' F A cs:=
 h.keep λk hk=>hg.block k (hF k hk) (by simp)
theorem xG.grown{k:IntKind}{w w':World}{F:Nat->Prop}{A:Option Addr}{xs:List Int}(h:xG k w F A xs) (hg:w.grownBy w' none) (hF:∀k,F k->k < w.heap.size):xG k w' F A xs:=Row.grown h hg hF
theorem xG.low{k:IntKind}{w w':World}{A:Option Addr}{xs:List Int}(h:xG k w (λk=>k < w.heap.size) A xs) (hg:w.grownBy w' none):xG k w' (λk=>k < w'.heap.size) A xs:=
 Row.sub (Row.grown h hg λ_ h=>h) λk hk=>Nat.lt_of_lt_of_le hk hg.size
def New(w w':World) (k:Nat):Prop:=w.heap.size<=k/\k < w'.heap.size
def xe(f:Nat->Value):Operand->Value
 | .tmp t=>f t
 | .const v=>v
 | .global g=>.pointer (some ⟨g,0,none⟩)
 | .func f=>.func (.func f) #[] #[]
def xT(f:Nat->Value):Option Tmp->Value
 | some t=>f t
 | none=>undef
def tM(f:Nat->Value) (o:Oper):Value:=
 match o.dst with
 | some t=>f t
 | none=>match o.op with
  | .store _ (.tmp t) _=>f t
  | _=>undef
def oA(f:Nat->Value) (o:Oper) (v:Value):Value:=
 match o.dst with
 | some _=>v
 | none=>tM f o
def f9(o:Oper) (j:Nat):Bool:=o.after.toList.any λe=>e.on==j && Region.binds .any e
def gX(l:List Oper) (t:Tmp):Option Nat:=l.findIdx? λo=>o.dst==some t
def tG(l:List Oper) (old:Nat->Value) (Ss:List (Value->World->Prop)) (o:Oper) (f:Nat->Value) (w:World) (t:Tmp):Prop:=
 match gX l t with
 | none=>f t=old t
 | some j=>if f9 o j then (Ss.getD j λ_ _=>False) (f t) w else f t=old t
def tK(l:List Oper) (f:Nat->Value) (o:Oper):Bool:=
 match o.guard with
 | none=>true
 | some (j,b)=>match (l[j]?).bind (·.dst) with
  | some d=>(match f d with | .bool c=>c==b | _=>false)
  | none=>false
def jE(P:Program) (Vv:Value->World->Prop):Result Next->Prop
 | .ok (.value v) w'=>Vv v w'
 | .ok .skip w'=>Vv undef w'
 | .ok (.enter f args) w'=>Calls P f args w' λe X9=>∃v,e=.returned v/\Vv v X9
 | _=>False
def Bi(base:World->Prop) (R:World->World->Prop) (s:Value->World->Prop) (w:World) (v:Value) (w':World):Prop:=base w'/\R w w'/\s v w'
def Cq(P:Program) (l:List Oper) (old:Nat->Value) (base:World->Prop) (R:World->World->Prop) (Ss:List (Value->World->Prop)) (o:Oper) (s:Value->World->Prop):Prop:=
 ∀(f:Nat->Value) (w:World),base w->(∀t∈o.looksAt l.toArray,tG l old Ss o f w t) ->
  if tK l f o=true then jE P (λv w'=>Bi base R s w (oA f o v) w') ((execOp (xe f) o).run P w) else s (oA f o undef) w
def ki(P:Program) (l:List Oper) (old:Nat->Value) (base:World->Prop) (R:World->World->Prop) (Ss:List (Value->World->Prop)):List Oper->List (Value->World->Prop)->Prop
 | [],[]=>True
 | o :: r,s :: rs=>Cq P l old base R Ss o s/\ki P l old base R Ss r rs
 | _,_=>False
def Bm(R:World->World->Prop):List (Value->World->Prop)->Prop
 | []=>True
 | s :: r=>(∀w w' u,R w w'->s u w->s u w')/\Bm R r
def eJ(f:Nat->Value):List Oper->Act->Act
 | [],a=>a
 | o :: r,a=>eJ f r (a.put o.dst (xT f o.dst))
def Bu(f:Nat->Value) (w:World):List Oper->List (Value->World->Prop)->Prop
 | o :: r,s :: rs=>s (tM f o) w/\Bu f w r rs
 | _,_=>True
def rd(l:List Oper) (n:Nat):Bool:=
 (l.zipIdx.all λ(o,k)=>
  (match o.dst with | some d=>gX l d==some k && decide (d < n) | none=>true) &&
  (o.after.all λe=>!Region.binds .any e || decide (e.on < k)) &&
  (o.looksAt l.toArray).all λt=>match gX l t with
   | none=>true
   | some j=>f9 o j || f9 (l.getD j default) k) &&
 (l.all λo=>match o.dst,o.op with
  | none,.store _ (.tmp t) _=>(match gX l t with | none=>true | some j=>f9 o j)
  | _,_=>true) &&
 l.all λo=>match o.guard with
  | none=>true
  | some (j,_)=>match (l[j]?).bind (·.dst) with | some d=>(o.looksAt l.toArray).contains d | none=>false
section
variable {P:Program} {l:List Oper} {a0:Act} {base:World->Prop} {R:World->World->Prop} {Ss:List (Value->World->Prop)}
structure JJ (l:List Oper) (a0:Act) (base:World->Prop) (Ss:List (Value->World->Prop)) (listed:Array Bool) (a:Act) (w:World):Prop where
 base_:base w
 defers:a.defers=a0.defers
 lsize:listed.size=l.length
 asize:a.tmps.size=a0.tmps.size
 old:∀t,(∀(j:Nat) o,l[j]?=some o->o.dst=some t->listed.getD j true=false)->a.tmps.getD t undef=a0.tmps.getD t undef
 says:∀(j:Nat) o s,l[j]?=some o->Ss[j]?=some s->listed.getD j false=true->s (tM (λt=>a.tmps.getD t undef) o) w
 down:∀(j:Nat) o,l[j]?=some o->listed.getD j false=true->∀e∈o.after,Region.binds .any e=true->listed.getD e.on false=true
theorem zw(a:Act):a.eval=xe λt=>a.tmps.getD t undef:=by funext x;cases x<;>rfl
theorem ki.at_{lo:List Oper}{ls:List (Value->World->Prop)}:∀{o:Oper}{k:Nat},ki P l (λt=>a0.tmps.getD t undef) base R Ss lo ls->lo[k]?=some o->∃s,ls[k]?=some s/\Cq P l (λt=>a0.tmps.getD t undef) base R Ss o s:=by
 induction lo generalizing ls with
 | nil=>intro o k _ h;simp at h
 | cons x r ih=>
  intro o k hd h
  match ls,hd with
  | s :: rs,hd=>
   cases k with
   | zero=>simp at h;subst h;exact⟨s,rfl,hd.1⟩
   | succ k=>simpa using ih hd.2 (by simpa using h)
theorem Bm.at_:∀{ls:List (Value->World->Prop)}{k:Nat}{s:Value->World->Prop},Bm R ls->ls[k]?=some s->∀w w' u,R w w'->s u w->s u w'
 | [],_,_,_,h=>by simp at h
 | x :: r,0,s,hk,h=>by simp at h;subst h;exact hk.1
 | x :: r,k+1,s,hk,h=>Bm.at_ hk.2 (by simpa using h)
theorem qQ{t:Tmp}{j:Nat}(h:gX l t=some j):∃o,l[j]?=some o/\o.dst=some t:=by
 unfold gX at h;rw[List.findIdx?_eq_some_iff_getElem] at h;obtain⟨hj,h1,_⟩:=h;exact⟨l[j],oGE hj,by simpa using h1⟩
theorem qR{t:Tmp}(h:gX l t=none):∀(j:Nat) o,l[j]?=some o->o.dst≠some t:=by
 unfold gX at h;rw[List.findIdx?_eq_none_iff] at h;intro j o hj e;have:=h o (List.mem_of_getElem? hj);simp[e] at this
theorem iQ{n:Nat}(h:rd l n=true) {k:Nat}{o:Oper}(hk:l[k]?=some o) :
 (∀d,o.dst=some d->gX l d=some k/\d < n)/\(∀e∈o.after,Region.binds .any e=true->e.on < k) /\
 (∀t∈o.looksAt l.toArray,∀j,gX l t=some j->f9 o j=true\/f9 (l.getD j default) k=true) /\
 (∀y t x,o.dst=none->o.op=.store y (.tmp t) x->∀j,gX l t=some j->f9 o j=true) /\
 (∀j b,o.guard=some (j,b)->∃d,(l[j]?).bind (·.dst)=some d/\d∈o.looksAt l.toArray):=by
 simp only[rd,oBA,List.all_eq_true] at h;obtain⟨⟨h1,hst⟩,h2⟩:=h
 have hm:(o,k)∈l.zipIdx:=by rw[List.mem_zipIdx_iff_getElem?];simpa using hk
 have h3:=h1 _ hm;simp only[oBA,List.all_eq_true] at h3;obtain⟨⟨h4,h5⟩,h6⟩:=h3;refine⟨λd hd=>?_,λe he hb=>?_,λt ht j hj=>?_,λy t x hd hop j hw=>?_,λj b hg=>?_⟩
 ·rw[hd] at h4;simpa using h4
 ·have:=(Array.all_eq_true_iff_forall_mem.1 h5) e he;simpa [hb] using this
 ·have:=h6 t ht;rw[hj] at this;simpa using this
 ·have:=hst o (List.mem_of_getElem? hk);rw[hd,hop] at this;simp only[hw] at this;exact this
 ·have:=h2 o (List.mem_of_getElem? hk);rw[hg] at this;simp only at this
  cases hd:(l[j]?).bind (·.dst) with
  | none=>rw[hd] at this;simp at this
  | some d=>rw[hd] at this;exact⟨d,rfl,by simpa using this⟩
theorem me{o:Oper}{j:Nat}(h:f9 o j=true):∃e∈o.after,e.on=j/\Region.binds .any e=true:=by
 unfold f9 at h;rw[List.any_eq_true] at h;obtain⟨e,he,hx⟩:=h;simp only[oBA,beq_iff_eq] at hx;exact⟨e,by simpa using he,hx.1,hx.2⟩
theorem jX{listed:Array Bool}{i j:Nat}{b:Bool}(hi:i < listed.size):(listed.setIfInBounds i true).getD j b=if i=j then true else listed.getD j b:=by
 by_cases e:i=j
 ·subst e;simp[Array.getD,hi]
 ·simp only[oIN e];simp only[Array.getD,Array.size_setIfInBounds];split
  ·exact Array.getElem_setIfInBounds_ne _ e
  ·rfl
theorem jY{a:Act}{d t:Nat}{v:Value}(hd:d < a.tmps.size):(a.put (some d) v).tmps.getD t undef=if d=t then v else a.tmps.getD t undef:=by
 unfold Act.put;by_cases e:d=t
 ·subst e;simp[Array.getD,hd]
 ·simp only[oIN e];simp only[Array.getD,Array.size_setIfInBounds];split
  ·exact Array.getElem_setIfInBounds_ne _ e
  ·rfl
theorem JJ.step(Vf:∀w,R w w) (hB:rd l a0.tmps.size=true) (hD:ki P l (λt=>a0.tmps.getD t undef) base R Ss l Ss) (hK:Bm R Ss) {listed:Array Bool}{a:Act}{w:World}{Q:Exit->Act->World->Prop}(h:JJ l a0 base Ss listed a w) {i:Nat}(hi:i∈Region.ready .any l.toArray listed) :
 wpOp P l.toArray Q i (λa' w'=>JJ l a0 base Ss (listed.setIfInBounds i true) a' w') a w:=by
 obtain⟨Xo,o,ho,Zm⟩:=mem_ready.1 hi
 have Zp:l[i]?=some o:=by simpa using ho
 have XK:i < listed.size:=by rw[h.lsize];exact (oGS Zp).1
 obtain⟨ZP,Z2,VD,OX,PP⟩:=iQ hB Zp;obtain⟨s,hs,Ui⟩:=hD.at_ Zp
 have Y7:∀t∈o.looksAt l.toArray,tG l (λt=>a0.tmps.getD t undef) Ss o (λt=>a.tmps.getD t undef) w t:=by
  intro t ht;unfold tG
  cases hw:gX l t with
  | none=>exact h.old t λj o' hj hd=>absurd hd (qR hw j o' hj)
  | some j=>
   obtain⟨oj,YJ,V8⟩:=qQ hw;by_cases hwt:f9 o j=true
   ·simp only[hwt,if_true];obtain⟨e,he,UH,V5⟩:=me hwt
    have Wa:listed.getD j false=true:=by rw[<- UH];exact Zm e he V5
    obtain⟨sj,WJ,_⟩:=hD.at_ YJ;have:=h.says j oj sj YJ WJ Wa;simpa [List.getD,WJ,tM,V8] using this
   ·simp only[hwt];refine h.old t λj' o' ZY hd'=>?_
    have hjj:j'=j:=by
     have:=((iQ hB ZY).1 t hd').1
     rw[hw] at this;injection this with this;exact this.symm
    subst hjj;rcases VD t ht j' hw with h' | h'
    ·exact absurd h' hwt
    ·have e:l.getD j' default=oj:=by simp[List.getD,YJ]
     rw[e] at h';obtain⟨ed,SG,UH,V5⟩:=me h'
     cases hl:listed.getD j' true with
     | false=>rfl
     | true=>
      exfalso
      have hjl:j' < listed.size:=by rw[h.lsize];exact (oGS YJ).1
      have YE:listed.getD j' false=true:=by simpa [Array.getD,hjl] using hl
      have:=h.down j' oj YJ YE ed SG V5;rw[UH] at this;simp[Array.getD,XK] at this Xo;rw[this] at Xo;cases Xo
 have Wv:=Ui (λt=>a.tmps.getD t undef) w h.base_ Y7
 have U2:Region.wanted o (yielded l.toArray a.tmps)=tK l (λt=>a.tmps.getD t undef) o:=by
  unfold Region.wanted tK
  cases hg:o.guard with
  | none=>rfl
  | some p=>
   obtain⟨j,b⟩:=p;obtain⟨d,hd,_⟩:=PP j b hg
   have Rn:d < a.tmps.size:=by
    rw[h.asize];obtain⟨oj,YJ,V8⟩:=Option.bind_eq_some_iff.1 hd;exact ((iQ hB YJ).1 d V8).2
   have hy:yielded l.toArray a.tmps j=(match a.tmps.getD d undef with | .bool c=>some c | _=>none):=by
    unfold yielded
    have e:(l.toArray[j]?).bind (·.dst)=some d:=by simpa using hd
    rw[e];simp only[oBS];rw[Array.getElem?_eq_getElem Rn];simp only[Array.getD,Rn,dif_pos,Array.getInternal_eq_getElem];cases a.tmps[d]<;>rfl
   simp only[hd];rw[hy];cases a.tmps.getD d undef<;>simp
 have XR:∀v w',Bi base R s w (oA (λt=>a.tmps.getD t undef) o v) w'->JJ l a0 base Ss (listed.setIfInBounds i true) (a.put o.dst v) w':=by
  intro v w' ⟨hb,hR,RM⟩
  have hsz:(a.put o.dst v).tmps.size=a.tmps.size:=by unfold Act.put;split<;>simp
  refine⟨hb,by rw[<- h.defers];unfold Act.put;split<;>rfl,by simpa using h.lsize,hsz.trans h.asize,λt ht=>?_,λj oj sj YJ WJ Wa=>?_,λj oj YJ Wa e he V5=>?_⟩
  ·have QB:o.dst≠some t:=λe=>by
    have:=ht i o Zp e;rw[jX XK] at this;simp at this
   have ZJ:=h.old t λj oj YJ V8=>by
    have:=ht j oj YJ V8;rw[jX XK] at this;split at this
    ·cases this
    ·exact this
   rw[<- ZJ]
   cases hd:o.dst with
   | none=>rfl
   | some d=>rw[jY (by rw[h.asize];exact (ZP d hd).2),oIN (by rintro rfl;exact QB hd)]
  ·by_cases e:i=j
   ·subst e
    rw[Zp] at YJ;injection YJ with YJ;subst YJ
    rw[hs] at WJ;injection WJ with WJ;subst WJ
    cases hd:o.dst with
    | none=>
     have e1:(a.put none v).tmps=a.tmps:=rfl
     have e2:oA (λt=>a.tmps.getD t undef) o v=tM (λt=>a.tmps.getD t undef) o:=by unfold oA;rw[hd]
     rw[e1,<- e2];exact RM
    | some d=>
     have e2:oA (λt=>a.tmps.getD t undef) o v=v:=by unfold oA;rw[hd]
     have e3:tM (λt=>(a.put (some d) v).tmps.getD t undef) o=v:=by
      unfold tM;rw[hd];simp only;rw[jY (by rw[h.asize];exact (ZP d hd).2),oIP rfl]
     rw[e3,<- e2];exact RM
   ·rw[jX XK,oIN e] at Wa;have ZJ:=hK.at_ WJ w w' _ hR (h.says j oj sj YJ WJ Wa)
    have Y4:∀t,o.dst≠some t->(a.put o.dst v).tmps.getD t undef=a.tmps.getD t undef:=λt ht=>by
     cases hd:o.dst with
     | none=>rfl
     | some d'=>rw[jY (by rw[h.asize];exact (ZP d' hd).2),oIN (by rintro rfl;exact ht hd)]
    have Th:tM (λt=>(a.put o.dst v).tmps.getD t undef) oj=tM (λt=>a.tmps.getD t undef) oj:=by
     unfold tM
     cases V8:oj.dst with
     | some d=>
      refine Y4 d λhd=>?_;have h1:=(ZP d hd).1;have h2:=((iQ hB YJ).1 d V8).1;rw[h1] at h2
      injection h2 with h2
      exact e h2
     | none=>
      cases hop:oj.op with
      | store y t x=>
       cases t with
       | tmp t=>
        refine Y4 t λhd=>?_;have h1:=(ZP t hd).1;have h2:=(iQ hB YJ).2.2.2.1 y t x V8 hop i h1;obtain⟨ed,SG,UH,V5⟩:=me h2;have:=h.down j oj YJ Wa ed SG V5;rw[UH] at this;simp[Array.getD,XK] at this Xo;rw[this] at Xo;cases Xo
       | const _=>rfl
       | global _=>rfl
       | func _=>rfl
      | _=>rfl
    rw[Th];exact ZJ
  ·rw[jX XK];split
   ·rfl
   ·by_cases e':i=j
    ·subst e'
     rw[Zp] at YJ;injection YJ with YJ;subst YJ
     exact Zm e he V5
    ·rw[jX XK,oIN e'] at Wa;exact h.down j oj YJ Wa e he V5
 unfold wpOp;simp only[ho];rw[U2];by_cases hw:tK l (λt=>a.tmps.getD t undef) o=true
 ·rw[oIP hw] at Wv ⊢;refine .inl ?_;unfold Oper.wp;rw[zw];generalize (execOp (xe λt=>a.tmps.getD t undef) o).run P w=r at Wv
  cases r with
  | ok n w'=>
   cases n<;>simp only[jE] at Wv<;>simp only[Oper.upon]
   case value v=>exact XR v w' Wv
   case skip=>exact XR undef w' Wv
   case enter fn args=>exact Wv.mono λe X9 ⟨v,he,hp⟩=>by subst he;exact XR v X9 hp
  | halt x w'=>simp only[jE] at Wv
 ·rw[oIN hw] at Wv ⊢;exact XR undef w ⟨h.base_,Vf w,Wv⟩
theorem n5{n:Nat}(hB:rd l n=true) {listed:Array Bool}(hs:listed.size=l.length) (hr:Region.ready .any l.toArray listed=[]):∀(k:Nat),k < l.length->listed.getD k false=true:=by
 intro k
 induction k using Nat.strongRecOn with
 | _ k ih=>
  intro hk
  cases hl:listed.getD k false with
  | true=>rfl
  | false=>
   exfalso;have ho:l[k]?=some l[k]:=oGE hk
   have:k∈Region.ready .any l.toArray listed:=by
    refine mem_ready.2 ⟨?_,l[k],by simp,λe he hb=>?_⟩
    ·have:k < listed.size:=by omega
     simpa [Array.getD,this] using hl
    ·have:=(iQ hB ho).2.1 e he hb;exact ih e.on this (by omega)
   rw[hr] at this;cases this
theorem nu(Vf:∀w,R w w) (hB:rd l a0.tmps.size=true) (hD:ki P l (λt=>a0.tmps.getD t undef) base R Ss l Ss) (hK:Bm R Ss) {Q:Exit->Act->World->Prop}
 (XY:∀listed a w,(∀k,k < l.length->listed.getD k false=true)->JJ l a0 base Ss listed a w->Q .normal a w) :
 ∀(Ym:Nat) (listed:Array Bool) (a:Act) (w:World),JJ l a0 base Ss listed a w->(∃c:List Bool,c.length=l.length/\listed.toList=c/\c.count false=Ym)->wpAny P .any l.toArray Q Ym listed a w
 | 0,listed,a,w,h,⟨c,Zq,Zl,Vh⟩=>by
  have hr:Region.ready .any l.toArray listed=[]:=by
   rw[List.eq_nil_iff_forall_not_mem];intro i hi;have Xo:=(mem_ready.1 hi).1
   have XK:i < listed.size:=by
    rcases Nat.lt_or_ge i listed.size with h' | h'
    ·exact h'
    ·simp[Array.getD,Nat.not_lt.2 h'] at Xo
   have:false∈c:=by
    rw[<- Zl]
    have h1:listed[i]=false:=by simpa [Array.getD,XK] using Xo
    rw[<- h1];simp
   exact absurd (List.count_pos_iff.2 this) (by omega)
  exact⟨hr,XY _ _ _ (n5 hB h.lsize hr) h⟩
 | Ym+1,listed,a,w,h,⟨c,Zq,Zl,Vh⟩=>by
  refine⟨λhr=>XY _ _ _ (n5 hB h.lsize hr) h,λi hi=>?_⟩;refine wpOp_mono (λa' w' h'=>nu Vf hB hD hK XY Ym _ a' w' h' ?_) (h.step Vf hB hD hK hi);have Xo:=(mem_ready.1 hi).1
  have XK:i < listed.size:=by
   rcases Nat.lt_or_ge i listed.size with h' | h'
   ·exact h'
   ·simp[Array.getD,Nat.not_lt.2 h'] at Xo
  have h1:listed[i]=false:=by simpa [Array.getD,XK] using Xo
  refine⟨_,?_,rfl,?_⟩
  ·simp;have:=h.lsize;omega
  ·rw[Array.toList_setIfInBounds,List.count_set (by simpa using XK)];subst Zl;rw[Vh];simp[h1]
theorem xg{f:Nat->Value}{w:World}:∀{lo:List Oper}{ls:List (Value->World->Prop)},(∀(k:Nat) o s,lo[k]?=some o->ls[k]?=some s->s (tM f o) w)->Bu f w lo ls
 | [],_,_=>by unfold Bu;trivial
 | _ :: _,[],_=>by unfold Bu;trivial
 | o :: r,s :: rs,h=>⟨h 0 o s rfl rfl,xg λk o' s' h1 h2=>h (k+1) o' s' (by simpa using h1) (by simpa using h2)⟩
theorem l8(f:Nat->Value):∀(lo:List Oper) (a:Act),(eJ f lo a).tmps.size=a.tmps.size
 | [],_=>rfl
 | o :: r,a=>by
  rw[eJ,l8 f r];unfold Act.put;split<;>simp
theorem jF(f:Nat->Value):∀(lo:List Oper) (a:Act),(eJ f lo a).defers=a.defers
 | [],_=>rfl
 | o :: r,a=>by
  rw[eJ,jF f r];unfold Act.put;split<;>rfl
theorem l9(f:Nat->Value):∀(lo:List Oper) (a:Act) (t:Nat),t < a.tmps.size ->
 (eJ f lo a).tmps.getD t undef=f t/\(∃o∈lo,o.dst=some t)\/(eJ f lo a).tmps.getD t undef=a.tmps.getD t undef/\∀o∈lo,o.dst≠some t
 | [],_,_,_=>.inr ⟨rfl,by simp⟩
 | o :: r,a,t,ht=>by
  have hsz:(a.put o.dst (xT f o.dst)).tmps.size=a.tmps.size:=by unfold Act.put;split<;>simp
  rcases l9 f r (a.put o.dst (xT f o.dst)) t (by rw[hsz];exact ht) with ⟨h1,o',h2,h3⟩ | ⟨h1,h2⟩
  ·exact .inl ⟨h1,o',List.mem_cons_of_mem _ h2,h3⟩
  ·by_cases hd:o.dst=some t
   ·refine .inl ⟨?_,o,List.mem_cons_self ..,hd⟩;rw[eJ,h1,hd,jY ht,oIP rfl];rfl
   ·refine .inr ⟨?_,λo' Zp=>?_⟩
    ·rw[eJ,h1]
     cases hd':o.dst with
     | none=>rfl
     | some d=>
      by_cases hds:d < a.tmps.size
      ·rw[jY hds,oIN (by rintro rfl;exact hd hd')]
      ·unfold Act.put;simp[Array.setIfInBounds,hds]
    ·rcases List.mem_cons.1 Zp with rfl | h'
     ·exact hd
     ·exact h2 o' h'
theorem mW{id:Nat}{w0:World}{Q:Exit->Act->World->Prop}(base:World->Prop) (R:World->World->Prop) (Ss:List (Value->World->Prop))
 (n:Nat) (hm:P.follows .mixedOrders=true) (hn:a0.tmps.size=n) (TI:rd l n=true) (h0:base w0.drew) (Vf:∀w,R w w) (hK:Bm R Ss)
 (hD:ki P l (λt=>a0.tmps.getD t undef) base R Ss l Ss)
 (XY:∀f w,base w->Bu f w l Ss->Q .normal (eJ f l a0) w):(Code.region id l.toArray true).wp P Q a0 w0:=by
 have hB:rd l a0.tmps.size=true:=by rw[hn];exact TI
 refine wp_region_any hm ?_;refine nu (a0:=a0) (R:=R) (Ss:=Ss) Vf hB hD hK (λlisted a w hl h=>?_) _ _ _ _ (?_:JJ l a0 base Ss _ _ _) ⟨_,?_,rfl,?_⟩
 ·have e:a=eJ (λt=>a.tmps.getD t undef) l a0:=by
   have hd:a.defers=(eJ (λt=>a.tmps.getD t undef) l a0).defers:=by rw[jF,h.defers]
   have ht:a.tmps=(eJ (λt=>a.tmps.getD t undef) l a0).tmps:=by
    refine Array.ext (by rw[l8,h.asize]) λi h1 h2=>?_
    have P6:i < a0.tmps.size:=by rw[<- h.asize];exact h1
    have e1:a.tmps[i]=a.tmps.getD i undef:=by simp[Array.getD,h1]
    have e2:(eJ (λt=>a.tmps.getD t undef) l a0).tmps[i]=(eJ (λt=>a.tmps.getD t undef) l a0).tmps.getD i undef:=by rw[Array.getD,dif_pos h2];rfl
    rw[e1,e2];rcases l9 (λt=>a.tmps.getD t undef) l a0 i P6 with ⟨h3,_⟩ | ⟨h3,h4⟩
    ·exact h3.symm
    ·rw[h3];exact h.old i λj o ho hd=>absurd hd (h4 o (List.mem_of_getElem? ho))
   cases a;cases hp:eJ (λt=>Array.getD _ t undef) l a0;simp only[hp] at hd ht;subst hd;subst ht
   simp_all
  rw[e];exact XY _ w h.base_ (xg λk o s ho hs=>h.says k o s ho hs (hl k (oGS ho).1))
 ·exact⟨h0,rfl,by simp,rfl,λ_ _=>rfl,λj o s ho hs hl=>by simp[Array.getD] at hl,λj o ho hl=>by simp[Array.getD] at hl⟩
 ·simp
 ·simp[List.count_replicate]
end
theorem bv{P:Program}{l:List Oper}{old:Nat->Value}{base:World->Prop}{R:World->World->Prop}{Ss:List (Value->World->Prop)}{o:Oper}{r:List Oper}{s:Value->World->Prop}{rs:List (Value->World->Prop)}
 (h:Cq P l old base R Ss o s) (h':ki P l old base R Ss r rs):ki P l old base R Ss (o :: r) (s :: rs):=⟨h,h'⟩
theorem bC{P:Program}{l:List Oper}{old:Nat->Value}{base:World->Prop}{R:World->World->Prop}{Ss:List (Value->World->Prop)}{o:Oper}{s:Value->World->Prop}(hg:o.guard=none)
 (h:∀(f:Nat->Value) (w:World),base w->(∀t∈o.looksAt l.toArray,tG l old Ss o f w t)->jE P (λv w'=>Bi base R s w (oA f o v) w') ((execOp (xe f) o).run P w)):Cq P l old base R Ss o s:=by
 intro f w hb H
 have:tK l f o=true:=by unfold tK;rw[hg]
 rw[oIP this];exact h f w hb H
theorem uz{P:Program}{l:List Oper}{old:Nat->Value}{base:World->Prop}{R:World->World->Prop}{Ss:List (Value->World->Prop)}:ki P l old base R Ss [] []:=trivial
def RK(X:Nat->Prop) (w w':World):Prop:=w.heap.size<=w'.heap.size/\∀b,b < w.heap.size->¬ X b->w'.heap[b]?=w.heap[b]?
theorem RK.refl(X:Nat->Prop) (w:World):RK X w w:=⟨Nat.le_refl _,λ_ _ _=>rfl⟩
theorem RK.alloc(X:Nat->Prop) (w:World) (o:Obj):RK X w (w.alloc o):=⟨by simp,λ_ hb _=>heap_alloc_old _ _ hb⟩
theorem RK.grown{X:Nat->Prop}{w w':World}{g:Nat}(h:w.grownBy w' (some g)) (hg:X g):RK X w w':=⟨h.size,λb hb hx=>h.block b hb (by rintro e;injection e with e;subst e;exact hx hg)⟩
theorem RK.set{X:Nat->Prop}{w w1:World}{p:Addr}(h:RK X w w1) (hp:X p.block) (u:Value):RK X w (w1.setCell p u):=
 ⟨by simpa [World.setCell] using h.1,λb hb hx=>(Below.heap_setCell w1 p u b (by rintro rfl;exact hx hp)).trans (h.2 b hb hx)⟩
theorem RK.cell{X:Nat->Prop}{w w':World}(h:RK X w w') {b o:Nat}(hb:b < w.heap.size) (hx:¬ X b):w'.cell? ⟨b,o,none⟩=w.cell? ⟨b,o,none⟩:=World.cell?_of_block (h.2 b hb hx)
def RD(X:Nat->Prop) (D:World->Prop) (w w':World):Prop:=RK X w w'/\(D w->D w')
theorem RD.refl(X:Nat->Prop) (D:World->Prop) (w:World):RD X D w w:=⟨RK.refl X w,id⟩
def g6(u:Value) (v:Value) (_:World):Prop:=v=u
def CK(k:IntKind) (lo hi:Int) (v:Value) (_:World):Prop:=∃n:Int,lo<=n/\n<=hi/\v=.int k n
theorem g6.kept{x:Value}{R:World->World->Prop}(w w':World) (u:Value) (_:R w w') (h:g6 x u w):g6 x u w':=h
theorem CK.kept{k:IntKind}{lo hi:Int}{R:World->World->Prop}(w w':World) (u:Value) (_:R w w') (h:CK k lo hi u w):CK k lo hi u w':=h
attribute [go_sem] xe jE oA tM
end Go.Proofs.Yteonljfnncdijaa
namespace Go.Proofs.Yteonljfnncdijaa
open Go.RowKit Go.Sort
def GW(W w':World):Prop:=∃q os,w'=grow (W.drewN q) os
theorem GW.refl(W:World):GW W W:=⟨0,#[],by rw[grow_empty];rfl⟩
theorem GW.trans{a b c:World}(h:GW a b) (h':GW b c):GW a c:=by
 obtain⟨q,os,rfl⟩:=h;obtain⟨p,RY,rfl⟩:=h';exact⟨q+p,os++RY,by show grow (grow ((a.drewN q).drewN p) os) RY=_;rw[grow_grow,World.drewN_drewN]⟩
theorem GW.alloc(W:World) (o:Obj):GW W (W.alloc o):=⟨0,#[o],by rw[alloc_eq_grow];rfl⟩
theorem GW.drew(W:World):GW W W.drew:=⟨1,#[],by rw[grow_empty];rfl⟩
def jL(r:Int):Int:=if r=-1 then 1 else 0
def ph(x y:Int):Int:=if x < y then -1 else if y < x then 1 else 0
def orI(a b c:Int):Int:=if a=0 then (if b=0 then c else b) else a
def xL(x y:PID):Int:=orI (ph (jL x.1) (jL y.1)) (ph x.1 y.1) (ph x.2 y.2)
theorem sU(x:PID) (W:World):Calls Try.prog 58 #[.agg #[.int .i64 x.1,.int .i64 x.2]] W λe w'=>e=.returned (.int .i64 (jL x.1))/\GW W w':=by
 by_cases h:x.1=-1
 ·go_enter Try.func58,Try.ntmps58
  go_wp2
  go_ret
  exact⟨by simp[jL,h],GW.alloc _ _⟩
 ·go_enter Try.func58,Try.ntmps58
  go_wp2
  go_ret
  exact⟨by simp[jL,h],GW.alloc _ _⟩
theorem r6(x y:Int) (W:World):Calls Try.prog 57 #[.int .i64 x,.int .i64 y] W λe w'=>e=.returned (.int .i64 (ph x y))/\GW W w':=by
 by_cases h:x < y
 ·go_enter Try.func57,Try.ntmps57
  go_wp2
  go_ret
  exact⟨by simp[ph,h],GW.refl _⟩
 ·by_cases h2:y < x
  ·go_enter Try.func57,Try.ntmps57
   go_wp2
   go_ret
   exact⟨by simp[ph,h,h2],GW.refl _⟩
  ·go_enter Try.func57,Try.ntmps57
   go_wp2
   go_ret
   exact⟨by unfold ph;rw[oIN (by omega),oIN (by omega)];rfl,GW.refl _⟩
theorem BJ(a b c:Int) (k:Nat) (W:World) (h0:W.cell? ⟨k,0,none⟩=some (.int .i64 a)) (h1:W.cell? ⟨k,1,none⟩=some (.int .i64 b)) (h2:W.cell? ⟨k,2,none⟩=some (.int .i64 c)) :
 Calls Try.prog 56 #[.slice (some ⟨k,0,none⟩) 3 3] W λe w'=>e=.returned (.int .i64 (orI a b c))/\GW W w':=by
 by_cases ha:a=0
 ·by_cases hb:b=0
  ·by_cases hc:c=0
   ·go_enter Try.func56,Try.ntmps56
    go_wp2
    refine wp_loop_rounds 4 ?_;rw[rounds_succ]
    go_wp2
    rw[rounds_succ]
    go_wp2
    rw[rounds_succ]
    go_wp2
    rw[rounds_succ]
    go_wp2
    go_ret
    exact⟨by simp[orI,ha,hb,hc],GW.refl _⟩
   ·go_enter Try.func56,Try.ntmps56
    go_wp2
    refine wp_loop_rounds 4 ?_;rw[rounds_succ]
    go_wp2
    rw[rounds_succ]
    go_wp2
    rw[rounds_succ]
    go_wp2
    go_ret
    exact⟨by simp[orI,ha,hb],GW.refl _⟩
  ·go_enter Try.func56,Try.ntmps56
   go_wp2
   refine wp_loop_rounds 4 ?_;rw[rounds_succ]
   go_wp2
   rw[rounds_succ]
   go_wp2
   go_ret
   exact⟨by simp[orI,ha,hb],GW.refl _⟩
 ·go_enter Try.func56,Try.ntmps56
  go_wp2
  refine wp_loop_rounds 4 ?_;rw[rounds_succ]
  go_wp2
  go_ret
  exact⟨by simp[orI,ha],GW.refl _⟩
def Co(a b c:Int) (v:Value) (w:World):Prop:=∃k,v=.slice (some ⟨k,0,none⟩) 3 3/\w.cell? ⟨k,0,none⟩=some (.int .i64 a)/\w.cell? ⟨k,1,none⟩=some (.int .i64 b)/\w.cell? ⟨k,2,none⟩=some (.int .i64 c)
theorem rkw{w w':World}(h:GW w w'):RK (λ_=>False) w w':=by
 obtain⟨q,os,rfl⟩:=h;refine⟨by simp[grow],λb hb _=>?_⟩;show (w.heap++os)[b]?=_;rw[Array.getElem?_append_left hb]
theorem r8{w:World}{b o:Nat}{v:Value}(h:w.cell? ⟨b,o,none⟩=some v):b < w.heap.size:=World.block_lt_of_cell? w _ h
theorem vZ{a b c:Int}(w w':World) (u:Value) (h:RK (λ_=>False) w w') (hs:Co a b c u w):Co a b c u w':=by
 obtain⟨k,h1,h2,h3,h4⟩:=hs;have hk:=r8 h2;exact⟨k,h1,by rw[h.cell hk id];exact h2,by rw[h.cell hk id];exact h3,by rw[h.cell hk id];exact h4⟩
theorem yx(a b c:Int) (w:World) (t:TypeId):Co a b c (.slice (some ⟨w.heap.size,0,none⟩) 3 3) (w.alloc (.cells #[.int .i64 a,.int .i64 b,.int .i64 c] t)):=by
 refine⟨_,rfl,?_,?_,?_⟩<;>rw[World.cell?_alloc_new]<;>rfl
theorem nY{W w':World}{a b c d:Value}{t t':TypeId}(h:GW ((W.alloc (.cells #[a,b] t)).alloc (.cells #[c,d] t')) w') :
 w'.cell? ⟨W.heap.size,0,none⟩=some a/\w'.cell? ⟨W.heap.size,1,none⟩=some b/\w'.cell? ⟨W.heap.size+1,0,none⟩=some c/\w'.cell? ⟨W.heap.size+1,1,none⟩=some d:=by
 have hk:=rkw h
 have e1:∀o v,(W.alloc (.cells #[a,b] t)).cell? ⟨W.heap.size,o,none⟩=some v->w'.cell? ⟨W.heap.size,o,none⟩=some v:=λo v hv=>by
  rw[hk.cell (by simp;omega) id,World.cell?_of_block (heap_alloc_old _ _ (by simp))];exact hv
 have e2:∀o v,((W.alloc (.cells #[a,b] t)).alloc (.cells #[c,d] t')).cell? ⟨W.heap.size+1,o,none⟩=some v->w'.cell? ⟨W.heap.size+1,o,none⟩=some v:=λo v hv=>by
  rw[hk.cell (by simp) id];exact hv
 have hs:W.heap.size+1=(W.alloc (.cells #[a,b] t)).heap.size:=by simp
 refine⟨e1 _ _ ?_,e1 _ _ ?_,e2 _ _ ?_,e2 _ _ ?_⟩
 ·rw[World.cell?_alloc_new];rfl
 ·rw[World.cell?_alloc_new];rfl
 ·rw[hs,World.cell?_alloc_new];rfl
 ·rw[hs,World.cell?_alloc_new];rfl
set_option maxHeartbeats 4000000 in
set_option maxRecDepth 100000 in
theorem wy(x y:PID) (W:World):Calls Try.prog 33 #[.agg #[.int .i64 x.1,.int .i64 x.2],.agg #[.int .i64 y.1,.int .i64 y.2]] W λe w'=>e=.returned (.int .i64 (xL x y))/\GW W w':=by
 go_enter Try.func33,Try.ntmps33
 go_wp2_with fail
 refine mW (λw'=>GW ((W.alloc (.cells #[.int .i64 x.1,.int .i64 x.2] 30)).alloc (.cells #[.int .i64 y.1,.int .i64 y.2] 30)) w') (RK λ_=>False)
  [g6 (.agg #[.int .i64 x.1,.int .i64 x.2]),g6 (.int .i64 (jL x.1)),g6 (.agg #[.int .i64 y.1,.int .i64 y.2]),g6 (.int .i64 (jL y.1)),g6 (.int .i64 (ph (jL x.1) (jL y.1))),g6 (.pointer (some ⟨W.heap.size,0,none⟩)),g6 (.int .i64 x.1),g6 (.pointer (some ⟨W.heap.size+1,0,none⟩)),g6 (.int .i64 y.1),g6 (.int .i64 (ph x.1 y.1)),g6 (.pointer (some ⟨W.heap.size,1,none⟩)),g6 (.int .i64 x.2),g6 (.pointer (some ⟨W.heap.size+1,1,none⟩)),g6 (.int .i64 y.2),g6 (.int .i64 (ph x.2 y.2)),Co (ph (jL x.1) (jL y.1)) (ph x.1 y.1) (ph x.2 y.2),g6 (.int .i64 (xL x y)),g6 (.int .i64 (xL x y))]
  22 (by kernel_rfl) rfl (by kernel_rfl) (GW.drew _) (λ_=>RK.refl _ _) ?_ ?_ ?_
 ·exact⟨g6.kept,g6.kept,g6.kept,g6.kept,g6.kept,g6.kept,g6.kept,g6.kept,g6.kept,g6.kept,g6.kept,g6.kept,g6.kept,g6.kept,g6.kept,vZ,g6.kept,g6.kept,trivial⟩
 ·refine bv ?_ (bv ?_ (bv ?_ (bv ?_ (bv ?_ (bv ?_ (bv ?_ (bv ?_ (bv ?_ (bv ?_ (bv ?_ (bv ?_ (bv ?_ (bv ?_ (bv ?_ (bv ?_ (bv ?_ (bv ?_ uz)))))))))))))))))
  ·refine bC rfl λf w1 hb H=>?_;have e2:f 2=_:=H 2 (by decide);clear H;have hc:=nY hb;obtain⟨c0,c1,c2,c3⟩:=hc;have HB:=Lib.hid hb;clear hb
   go_simp
   exact⟨HB.out,RK.refl _ _,rfl⟩
  ·refine bC rfl λf w1 hb H=>?_;have e5:f 5=_:=H 5 (by decide);clear H;have HB:=Lib.hid hb;clear hb
   go_simp
   refine (sU x w1).mono ?_;rintro e w2 ⟨rfl,hg⟩;exact⟨_,rfl,HB.out.trans hg,rkw hg,rfl⟩
  ·refine bC rfl λf w1 hb H=>?_;have e3:f 3=_:=H 3 (by decide);clear H;have hc:=nY hb;obtain⟨c0,c1,c2,c3⟩:=hc;have HB:=Lib.hid hb;clear hb
   go_simp
   exact⟨HB.out,RK.refl _ _,rfl⟩
  ·refine bC rfl λf w1 hb H=>?_;have e7:f 7=_:=H 7 (by decide);clear H;have HB:=Lib.hid hb;clear hb
   go_simp
   refine (sU y w1).mono ?_;rintro e w2 ⟨rfl,hg⟩;exact⟨_,rfl,HB.out.trans hg,rkw hg,rfl⟩
  ·refine bC rfl λf w1 hb H=>?_;have e6:f 6=_:=H 6 (by decide);have e8:f 8=_:=H 8 (by decide);clear H;have HB:=Lib.hid hb;clear hb
   go_simp
   refine (r6 _ _ w1).mono ?_;rintro e w2 ⟨rfl,hg⟩;exact⟨_,rfl,HB.out.trans hg,rkw hg,rfl⟩
  ·refine bC rfl λf w1 hb H=>?_;have e2:f 2=_:=H 2 (by decide);clear H;have HB:=Lib.hid hb;clear hb
   go_simp
   exact⟨HB.out,RK.refl _ _,rfl⟩
  ·refine bC rfl λf w1 hb H=>?_;have OE:f 10=_:=H 10 (by decide);clear H;have hc:=nY hb;obtain⟨c0,c1,c2,c3⟩:=hc;have HB:=Lib.hid hb;clear hb
   go_simp
   exact⟨HB.out,RK.refl _ _,rfl⟩
  ·refine bC rfl λf w1 hb H=>?_;have e3:f 3=_:=H 3 (by decide);clear H;have HB:=Lib.hid hb;clear hb
   go_simp
   exact⟨HB.out,RK.refl _ _,rfl⟩
  ·refine bC rfl λf w1 hb H=>?_;have OG:f 12=_:=H 12 (by decide);clear H;have hc:=nY hb;obtain⟨c0,c1,c2,c3⟩:=hc;have HB:=Lib.hid hb;clear hb
   go_simp
   exact⟨HB.out,RK.refl _ _,rfl⟩
  ·refine bC rfl λf w1 hb H=>?_;have OF:f 11=_:=H 11 (by decide);have Rb:f 13=_:=H 13 (by decide);clear H;have HB:=Lib.hid hb;clear hb
   go_simp
   refine (r6 _ _ w1).mono ?_;rintro e w2 ⟨rfl,hg⟩;exact⟨_,rfl,HB.out.trans hg,rkw hg,rfl⟩
  ·refine bC rfl λf w1 hb H=>?_;have e2:f 2=_:=H 2 (by decide);clear H;have HB:=Lib.hid hb;clear hb
   go_simp
   exact⟨HB.out,RK.refl _ _,rfl⟩
  ·refine bC rfl λf w1 hb H=>?_;have OI:f 15=_:=H 15 (by decide);clear H;have hc:=nY hb;obtain⟨c0,c1,c2,c3⟩:=hc;have HB:=Lib.hid hb;clear hb
   go_simp
   exact⟨HB.out,RK.refl _ _,rfl⟩
  ·refine bC rfl λf w1 hb H=>?_;have e3:f 3=_:=H 3 (by decide);clear H;have HB:=Lib.hid hb;clear hb
   go_simp
   exact⟨HB.out,RK.refl _ _,rfl⟩
  ·refine bC rfl λf w1 hb H=>?_;have OK:f 17=_:=H 17 (by decide);clear H;have hc:=nY hb;obtain⟨c0,c1,c2,c3⟩:=hc;have HB:=Lib.hid hb;clear hb
   go_simp
   exact⟨HB.out,RK.refl _ _,rfl⟩
  ·refine bC rfl λf w1 hb H=>?_;have OJ:f 16=_:=H 16 (by decide);have OL:f 18=_:=H 18 (by decide);clear H;have HB:=Lib.hid hb;clear hb
   go_simp
   refine (r6 _ _ w1).mono ?_;rintro e w2 ⟨rfl,hg⟩;exact⟨_,rfl,HB.out.trans hg,rkw hg,rfl⟩
  ·refine bC rfl λf w1 hb H=>?_;have e9:f 9=_:=H 9 (by decide);have OH:f 14=_:=H 14 (by decide);have OM:f 19=_:=H 19 (by decide);clear H;have HB:=Lib.hid hb;clear hb
   go_simp
   exact⟨HB.out.trans (GW.alloc _ _),rkw (GW.alloc _ _),yx _ _ _ _ _⟩
  ·refine bC rfl λf w1 hb H=>?_;have QU:=H 20 (by decide);clear H;obtain⟨k,QV,Tz,TA,TC⟩:=QU;have HB:=Lib.hid hb;clear hb
   go_simp
   refine (BJ _ _ _ k w1 Tz TA TC).mono ?_;rintro e w2 ⟨rfl,hg⟩;exact⟨_,rfl,HB.out.trans hg,rkw hg,rfl⟩
  ·refine bC rfl λf w1 hb H=>?_;have ON:f 21=_:=H 21 (by decide);clear H;have HB:=Lib.hid hb;clear hb
   go_simp
   exact⟨HB.out,RK.refl _ _,rfl⟩
 ·intro f w9 hb hE;simp only[eJ,Act.put,xT,List.setIfInBounds_toArray,List.set_cons_succ,List.set_cons_zero]
  have e4:f 4=.int .i64 (xL x y):=by
   simp only[Bu,tM,g6] at hE;simp[hE]
  rw[e4];clear hE e4
  go_wp2
  go_ret
  exact⟨rfl,((GW.alloc _ _).trans (GW.alloc _ _)).trans hb⟩
end Go.Proofs.Yteonljfnncdijaa
namespace Go.Proofs.Yteonljfnncdijaa
open Go.RowKit Go.Sort Go.Lib
def eL(x:PID):List Value:=[.int .i64 x.1,.int .i64 x.2]
theorem BH(x y:PID) (w:World):Sem.run Try.prog (binOp .eql 30 (.agg #[.int .i64 x.1,.int .i64 x.2]) (.agg #[.int .i64 y.1,.int .i64 y.2])) w=.ok (.bool (decide (x=y))) w:=by
 have u3:=Try.underlying3;have a3:=Try.isAgg3;have z3:=Try.sizeOf3
 have hS:Try.prog.underlying 30=some (.struct (Try.prog.fieldsOf 30)):=by kernel_rfl
 have hp:Try.prog.stoodInHeld 30=false:=by kernel_rfl
 rw[run_eql_struct,show (10000:Nat)=9999+1 from rfl,run_equalIn_agg w 9999 30 _ _ hS hp];simp only[Program.fieldsOf,Try.underlying30]
 go_simp
 by_cases h1:x.fst=y.fst<;>by_cases h2:x.snd=y.snd<;>simp[h1,h2,Prod.ext_iff]
theorem cr{W:World}{ZG off:Nat}{d:Array PID}(h:HoldsK eL 2 W ZG off d) {i:Nat}(hi:i < d.size) :
 W.cell? ⟨ZG,off+i*2,none⟩=some (.int .i64 d[i]!.1)/\W.cell? ⟨ZG,off+i*2+1,none⟩=some (.int .i64 d[i]!.2)/\W.frozen? ⟨ZG,off+i*2,none⟩=false/\W.frozen? ⟨ZG,off+i*2+1,none⟩=false:=by
 have h0:=h.cell hi (c:=0) (by omega);have h1:=h.cell hi (c:=1) (by omega);exact⟨by simpa [eL] using h0.1,by simpa [eL] using h1.1,by simpa using h0.2,by simpa using h1.2⟩
theorem BB{w wr:World}{n ZG off:Nat}{dk:Array PID}{i:Nat}(hi:i < dk.size) (U3:wr=putRowK eL 2 (Sort.ahead w n) ZG off dk) (x:PID) :
 ((wr.drew.setCell ⟨ZG,off+i*2,none⟩ (.int .i64 x.1)).setCell ⟨ZG,off+i*2+1,none⟩ (.int .i64 x.2))=putRowK eL 2 (Sort.ahead w (n+1)) ZG off (dk.setIfInBounds i x):=by
 subst U3
 have hb:i*2+(eL x).length<=(flatK eL 2 dk).size:=by simp[eL];omega
 have e:=setCells_putRow (Sort.ahead w (n+1)) ZG off (eL x) (i*2) (flatK eL 2 dk) hb
 have e2:setMany (flatK eL 2 dk) (i*2) (eL x)=flatK eL 2 (dk.setIfInBounds i x):=by
  refine ext_get! (by simp) λt ht=>?_
  have Zi:t < dk.size*2:=by simpa using ht
  rw[get_setMany _ _ _ t (by simpa using Zi),get_flatK _ _ _ t Zi,get_flatK _ _ _ t (by simpa using Zi)]
  have hq:t / 2 < dk.size:=by omega
  by_cases a:t / 2=i
  ·rw[oIP (by simp[eL];omega)]
   have:t - i*2=t % 2:=by omega
   rw[this,a];simp[show i < dk.size from hi]
  ·rw[oIN (by simp[eL];omega)];simp[Array.getElem!_eq_getD,Array.getD,hq,Array.getElem_setIfInBounds,Ne.symm a]
 rw[e2] at e;exact e
end Go.Proofs.Yteonljfnncdijaa
