/- Part of the proof; no condition. -/
import Derived.Test.YtakfoejcjdcgbaaSb
import Derived.Test.YtakfoejcjdcgbaaRows
import Derived.WalkKit
import Derived.WalkSpells
import Derived.WalkLawsBesides
import Derived.Deep.QuietTactic
import Derived.BigQuiet
import Derived.Lib.Hide
import Derived.Handy
import Derived.OpenShut
import Derived.Laws.CopyRow
set_option linter.unusedVariables false
set_option linter.unusedSimpArgs false
namespace Go.Proofs.Ytakfoejcjdcgbaa
open Go.RowKit
def jV(P:Program)(own:Nat->Bool):Nat->List TypeId->List Operand->Option (List (Option Nat×Opd))
 |_,_,[]=>some []
 |i,ts,x::xs=>
  match bg x,jV P own (i+1) ts.tail xs with
  |some y,some l=>
   match ts with
   |t::_=>match P.underlying t with
    |some (.pointer e)=>match qd P e with
     |some n=>some ((some n,y)::l)
     |none=>none
    |some (.slice _)=>some ((if own i then some 0 else none,y)::l)
    |_=>some ((none,y)::l)
   | []=>some ((none,y)::l)
  |_,_=>none
def Fh(P:Program)(t:TypeId):Bool:=match P.underlying t with
 |some (.int _)=>true
 |some .bool=>true
 |some .string=>true
 |some (.struct _)=>(kw P 50 t).isSome
 |_=>false
def zK(P:Program)(fn:Func):Bool:=fn.resultTypes.toList.all (Fh P)&&fn.params.toList.all λt=>match P.underlying t with|some (.pointer _)=>false|_=>true
def eQ:Code->List Oper
 |.region _ ops _=>ops.toList
 |.seq a b=>eQ a++eQ b
 |.cond _ a b=>eQ a++eQ b
 |.block _ b=>eQ b
 |.scope b=>eQ b
 |.loop b=>eQ b
 |_=>[]
def CN(ops:List Oper)(j:Nat):Option Operand->Bool
 |some (.tmp t)=>t==j||ops.any λo=>o.dst==some t&&match o.op with|.move (.tmp u)=>u==j|_=>false
 |_=>false
def Fe(P:Program):Nat->Func->Nat->Bool
 |0,_,_=>false
 |n+1,fn,j=>match fn.body with
  |some c=>(eQ c).any λo=>match o.op with
   |.call ⟨.builtin .append,args,_⟩=>CN (eQ c) j args[0]?
   |.call ⟨.value (.func g),args,_⟩=>match P.funcs[g]? with
    |some fg=>args.toList.zipIdx.any λx=>CN (eQ c) j (some x.1)&&Fe P n fg x.2
    |none=>false
   |_=>false
  |none=>false
def nR(P:Program):Op->Option TOp
 |.call ⟨.value (.func f),args,_⟩=>
  match P.funcs[f]? with
  |some fn=>(jV P (Fe P 3 fn) 0 fn.params.toList args.toList).map λl=>.call (!zK P fn) (.f f) l
  |none=>none
 |.call ⟨.value (.tmp i),args,tys⟩=>(jV P (λ_=>false) 0 tys.toList args.toList).map λl=>.call true (.t i) l
 |_=>none
def uM(mv:Nat):TOp->TOp
 |.call k f args=>.call k f (if 10<=mv then args.map λx=>(x.1.map λn=>min n (mv-10),x.2)else args)
 |t=>t
def jx(P:Program)(mv:Nat)(op:Op):TOp:=
 match cQ P mv op with
 |some t=>t
 |none=>match nR P op with
  |some t=>uM mv t
  |none=>Eg
def Fp(pp:List Nat)(nt:Nat):Option Nat->Bool
 |some d=>decide (d<nt) && !pp.contains d
 |none=>true
def rO(P:Program)(pp:List Nat)(nt:Nat)(ops:Array Oper)(mv:Nat)(o:Oper):Option dS:=
 if Fp pp nt o.dst then
  match o.guard with
  |none=>some ⟨o.dst,none,jx P mv o.op⟩
  |some (j,want)=>match(ops[j]?).bind (·.dst)with
   |some d=>some ⟨o.dst,some (d,want),jx P mv o.op⟩
   |none=>none
 else none
def iC(P:Program)(pp:List Nat)(nt:Nat)(ops:Array Oper):List Nat->List Oper->Option (List dS)
 |_,[]=>some []
 |m,o::r=>match rO P pp nt ops (m.headD 0) o,iC P pp nt ops m.tail r with
  |some t,some l=>some (t::l)
  |_,_=>none
def tu:List Oper->List (List Nat)->List (List Nat)
 | [],acc=>acc
 |o::r,acc=>tu r (acc++[((o.after.toList.filter (Region.binds .any)).flatMap λe=>e.on::acc.getD e.on []).eraseDups])
def rH(ops:List Oper)(deps:List (List Nat)):Nat->Bool
 |0=>true
 |i+1=>rH ops deps i&&match ops[i]? with
  |some o=>(o.after.toList.all λe=>!Region.binds .any e||decide (e.on<i))&&((deps.getD i []).all λj=>o.after.toList.any λe=>Region.binds .any e&&(e.on==j||(deps.getD e.on []).contains j))
  |none=>true
def rP(P:Program)(ops:Array Oper)(tops:List dS)(draw:Bool):Option (Option (List (List Nat))):=
 if draw then
  if P.follows .mixedOrders&&rH ops.toList (tu ops.toList []) ops.size then
   if qe (tu ops.toList []) tops (List.range tops.length)then some none else some (some (tu ops.toList []))
  else none
 else some none
def kO:Code->Option Nat
 |.region id _ _=>some id
 |.seq _ b=>kO b
 |.cond _ a b=>match kO b with|some i=>some i|none=>kO a
 |.block _ b=>kO b
 |.scope b=>kO b
 |_=>none
def vi(pers:Nat->Prs)(a:Code)(l:List (Nat×Option Nat)):dU->dU
 |.skip=>match kO a with
  |some i=>.nrm (pers i)
  |none=>match l with
   | []=>.skip
   |_::_=>.nrm (l.filterMap λx=>match x.2 with|none=>some x.1|some _=>none,l.filterMap (·.2))
 |t=>t
def Fr:Operand->Nat
 |.tmp t=>2000000+t
 |_=>2000000
def lA:Code->Nat
 |.seq a b=>lA a+lA b
 |.cond _ a b=>lA a+lA b
 |.block _ b=>lA b
 |.scope b=>lA b
 |.loop b=>lA b+1
 |_=>0
def ER(nt:Nat)(l:List (Nat×Option Nat)):Bool:=l.all λy=>decide (y.1<nt)
def FJ(nt:Nat)(l:List (Nat×Option Nat))(a:dU):dU:=match l with | []=>a|_::_=>if ER nt l then .pre l a else a
def Bx(nt:Nat)(l:List (Nat×Option Nat))(a:dU):dU:=match l with | []=>a|_::_=>if ER nt l then .post a l else a
def F5(pp:List Nat)(nt:Nat)(l:List (Nat×Option Nat))(a:dU):dU:=match l with
 | [(i,some n)]=>if decide (i<nt) && !pp.contains i then .frz i n a else a
 |_=>a
def co(P:Program)(pp:List Nat)(nt:Nat)(mv:Nat->List Oper->Bool->List Nat)(pers:Nat->Prs)(H:Nat->List (Nat×Option Nat)):Code->Nat->Option dU
 |.skip,_=>some .skip
 |.region id ops draw,_=>match iC P pp nt ops (mv id ops.toList draw) ops.toList with
  |some l=>match rP P ops l draw with
   |some d=>some (F5 pp nt (H (4000000+id)) (FJ nt (H (3000000+id)) (.reg id d l (pers id))))
   |none=>none
  |none=>none
 |.seq a b,i=>match co P pp nt mv pers H a i,co P pp nt mv pers H b (i+lA a)with
  |some x,some y=>some (.seq x y)
  |_,_=>none
 |.cond c a b,i=>match bg c,co P pp nt mv pers H a i,co P pp nt mv pers H b (i+lA a)with
  |some k,some x,some y=>some (.cond k (vi pers b (H (Fr c)) x) (vi pers a (H (Fr c)) y))
  |_,_,_=>none
 |.block id b,i=>(co P pp nt mv pers H b i).map (.block id)
 |.scope b,i=>(co P pp nt mv pers H b i).map .sc
 |.label _,_=>some (.sc .skip)
 |.loop b,i=>(co P pp nt mv pers H b (i+1)).map λx=>FJ nt (H (i+1)) (.loop (Bx nt (H (i+1)) x))
 |.exit id,_=>some (.exit id)
 |.ret,_=>some .ret
 |_,_=>none
def jw(P:Program):List ResultVar->Option (List TRs)
 | []=>some []
 |.tmp t::r=>(jw P r).map (.tmp t :: ·)
 |.cell t ty::r=>match sF P ty,jw P r with
  |some n,some l=>some (.cell t n::l)
  |_,_=>none
def r9(l:List Operand):List Nat:=l.filterMap λx=>match x with|.tmp t=>some t|_=>none
def DK(l:List ResultVar):List Nat:=l.map λr=>match r with|.tmp t=>t|.cell t _=>t
def zD:Op->Bool
 |.load _ _=>true
 |.move (.tmp _)=>true
 |.field _ _ _=>true
 |.fieldAddr _ _ _=>true
 |.indexAddr _ _ _=>true
 |.slice _ _ _ _ _=>true
 |.nilCheck _=>true
 |.extract _ _=>true
 |.pick _ _ _=>true
 |_=>false
def jG(l:List Nat):Nat:=l.foldl (λb i=>b ||| (1 <<< i)) 0
def CD(nt b:Nat):List Nat:=(List.range nt).filter λi=>b.testBit i
def Fq(b i:Nat):Nat:=if b.testBit i then b-(1 <<< i)else b
def Ad(ops:List Oper)(o:Oper):List Nat:=match o.guard with|some (j,_)=>((ops[j]?).bind (·.dst)).toList|none=>[]
def up(ops:List Oper):List Oper->Nat->Nat
 | [],out=>out
 |o::r,out=>
  let b:=up ops r out
  (match o.dst with|some d=>Fq b d|none=>b) ||| jG (r9 o.op.operands.toList++Ad ops o)
def px(rt:Nat):Code->Nat->List (Nat×Nat)->Nat×List (Nat×Nat)
 |.region id ops _,out,_=>(up ops.toList ops.toList out,[(id,out)])
 |.seq a b,out,ex=>let y:=px rt b out ex;let x:=px rt a y.1 ex;(x.1,x.2++y.2)
 |.cond c a b,out,ex=>let x:=px rt a out ex;let y:=px rt b out ex;(x.1 ||| y.1 ||| jG (r9 [c]),x.2++y.2)
 |.block id b,out,ex=>px rt b out ((id,out)::ex)
 |.scope b,out,ex=>px rt b out ex
 |.loop b,_,ex=>let l:=(px rt b 0 ex).1;px rt b l ex
 |.exit id,_,ex=>((bB ex id).getD 0,[])
 |.ret,_,_=>(rt,[])
 |_,out,_=>(out,[])
def zS(P:Program)(t:TypeId):Bool:=match P.underlying t with|some (.pointer _)=>true|_=>false
def qY(P:Program)(b:Nat)(o:Oper):Nat:=
 match o.dst with
 |some d=>
  if(match o.op with
   |.box _ _=>true
   |.alloc _=>true
   |.fieldAddr _ _ _=>true
   |.indexAddr _ _ _=>true
   |.nilCheck _=>true
   |.load t _=>zS P t
   |.move (.tmp s)=>b.testBit s
   |.assign (.tmp s)=>b.testBit s
   |.call ⟨.value (.func f),_,_⟩=>match P.funcs[f]? with|some fn=>fn.resultTypes.toList.map (zS P)==[true]|none=>false
   |_=>false)then b ||| (1 <<< d)else b
 |none=>b
def AG(b:Nat)(o:Oper):List (Nat×Nat):=
 match o.dst with
 |some d=>if zD o.op then(r9 o.op.operands.toList).map λs=>(d,s)else match o.op with
  |.assign (.tmp s)=>if b.testBit s then[(d,s)]else[]
  |_=>[]
 |none=>[]
def El(P:Program)(pp:List Nat)(c:Code):List (Nat×Nat):=
 let ops:=eQ c
 let b:=ops.foldl (qY P) (ops.foldl (qY P) (jG pp))
 ops.flatMap (AG b)
def F2(o:Oper):Bool:=match o.op with
 |.extract _ _=>true
 |_=>false
def Cl(P:Program)(pp:List Nat)(c:Code):List (Nat×Nat):=
 let ops:=eQ c
 let b:=ops.foldl (qY P) (ops.foldl (qY P) (jG pp))
 (ops.filter λo=>!F2 o).flatMap (AG b)
def qH(al:List (Nat×Nat))(b:Nat):Nat:=al.foldr (λx b=>if b.testBit x.1 then b ||| (1 <<< x.2)else b) b
def DJ(l:List Nat):List Nat:=l.flatMap λi=>[2*i+2,2*i+3]
def Da:Op->List Operand
 |.store _ _ x=>[x]
 |.call ⟨.builtin .append,args,_⟩=>args.toList.tail
 |op=>op.operands.toList
def Gg(el:Nat)(al:List (Nat×Nat))(after:Nat)(o:Oper):Bool:=
 let live:=qH al (qH al after)
 (r9 (Da o.op)).all λt=>!el.testBit t&&(qH al (qH al (1 <<< t))) &&& live==0
def E6(el:Nat)(al:List (Nat×Nat))(ops:List Oper)(out:Nat):List Oper->List Bool
 | []=>[]
 |o::r=>Gg el al (up ops r out) o::E6 el al ops out r
def wc(b:Nat)(o:Oper):Nat:=
 match o.dst with
 |some d=>
  if(match o.op with
   |.indexAddr _ _ _=>true
   |.fieldAddr _ (.tmp s) _=>b.testBit s
   |.load _ (.tmp s)=>b.testBit s
   |.nilCheck (.tmp s)=>b.testBit s
   |.move (.tmp s)=>b.testBit s
   |.field _ (.tmp s) _=>b.testBit s
   |_=>false)then b ||| (1 <<< d)else b
 |none=>b
def zE(el:Nat)(al:List (Nat×Nat))(ops:List Oper)(out:Nat):List (Nat×Oper)->List Bool
 | []=>[]
 |(i,o)::r=>Gg el al (out ||| jG ((ops.zipIdx.filter λx=>x.2 != i).flatMap λx=>r9 x.1.op.operands.toList)) o::zE el al ops out r
def Gp(P:Program)(pp:List Nat)(c:Code)(res:List Nat):Nat->List Oper->Bool->List Bool:=
 let tb:=(px (jG res) c (jG res) []).2
 let al:=Cl P pp c
 let RF:=jG pp
 let el:=(eQ c).foldl wc ((eQ c).foldl wc 0)
 λid ops draw=>
  let out:=((bB tb id).getD 0) ||| RF
  if draw then zE el al ops out (ops.zipIdx.map λx=>(x.2,x.1))else E6 el al ops out ops
def E1(P:Program)(pp:List Nat)(nt:Nat)(c:Code)(res:List Nat):Nat->Prs:=
 let tb:=(px (jG res) c (jG res) []).2
 let al:=El P pp c
 let RF:=jG pp
 λid=>
  let b:=((bB tb id).getD 0) ||| RF
  (CD nt b,DJ (CD nt (qH al (qH al b))))
def om(P:Program):Nat->List TypeId->List Nat
 |_,[]=>[]
 |i,t::r=>match P.underlying t with
  |some (.pointer _)=>i::om P (i+1) r
  |_=>om P (i+1) r
def mvH(H:Nat->List (Nat×Option Nat))(mv:Nat->List Oper->Bool->List Bool):Nat->List Oper->Bool->List Nat:=
 λid ops draw=>match H (1000000+id)with
  | []=>(mv id ops draw).map λb=>if b then 1 else 0
  |l=>(mv id ops draw).zipIdx.map λx=>match l.find? λy=>y.1==x.2 with
   |some y=>y.2.getD 0
   |none=>if x.1 then 1 else 0
def oY(P:Program):Code->Option Code
 |.seq (.region _ a0 false) (.seq (.seq (.region _ a1 false) (.cond (.tmp 4) (.seq (.region _ a2 false) .ret) .skip)) rest)=>
  match a0.toList,a1.toList,a2.toList with
  | [⟨some 2,.assign (.const (.slice none 0 0)),_,_,_,none⟩],[⟨some 3,.move (.tmp 0),_,_,_,none⟩,⟨some 4,.binOp .eql ty (.tmp 3) (.const (.slice none 0 0)) _,_,_,_,none⟩],[⟨some 2,.assign (.const (.slice none 0 0)),_,_,_,none⟩]=>
   match P.underlying ty with
   |some (.slice _)=>some rest
   |_=>none
  |_,_,_=>none
 |_=>none
def oU(P:Program)(fn:Func)(c:Code):Option TFn:=
 match oY P c with
 |some (.seq (.region id ops false) .ret)=>
  match iC P [1000] 8 ops [0,0,0,1] ops.toList with
  |some [⟨some 5,none,.bsl sz b 0 []⟩,⟨some 6,none,.mov (.t 0)⟩,⟨some 7,none,.app sz2 bytes mv fl (.t 5) (.t 6)⟩,⟨some 2,none,.asn true (.t 7)⟩]=>
   if sz2=sz/\nS (tB sz b bytes mv fl id)=true/\fn.params.size=1/\fn.ntmps=8 then
    match jw P fn.results.toList with
    |some [.tmp 2]=>some ⟨1,[1000],8,tB sz b bytes mv fl id,[.tmp 2]⟩
    |_=>none
   else none
  |_=>none
 |_=>none
def jy(P:Program)(H:Nat->List (Nat×Option Nat))(f:FuncId):Option TFn:=
 match P.funcs[f]? with
 |some fn=>
  match fn.body with
  |some c=>
   match oU P fn c with
   |some tf=>some tf
   |none=>
   let np:=fn.params.size+fn.nfree
   let pp:=om P 0 fn.params.toList++(List.range fn.nfree).map (fn.params.size + ·)
   let rt:=DK fn.results.toList
   let pers:=E1 P pp fn.ntmps c rt
   match co P pp fn.ntmps (mvH H (Gp P pp c rt)) pers H c 0,jw P fn.results.toList with
   |some tc,some rs=>some ⟨np,pp,fn.ntmps,Bx fn.ntmps (H 0) tc,rs⟩
   |_,_=>none
  |none=>none
 |none=>none
section
variable {P:Program} {M:Fm} {pp:List Nat} {nt:Nat}
theorem qF:∀{qs:List ResultVar}{l:List TRs},jw P qs=some l->l.length=qs.length/\∀k (h:k<l.length)(h':k<qs.length),u6 P l[k] qs[k]:=by
 intro qs
 induction qs with
 |nil=>
  intro l h;simp only[jw]at h
  simp_all
 |cons q qs ih=>
  intro l h
  cases q with
  |tmp t=>
   obtain⟨l',h1,rfl⟩:=dA h;obtain⟨e,h2⟩:=ih h1;refine⟨by simp[e],λk hk YX=>?_⟩
   cases k with
   |zero=>exact rfl
   |succ k=>exact h2 k (by simpa using hk) (by simp_all)
  |cell t ty=>
   simp only[jw]at h;split at h
   ·rename_i n l' h1 h2
    injection h with h
    subst h;obtain⟨e,h3⟩:=ih h2;refine⟨by simp[e],λk hk YX=>?_⟩
    cases k with
    |zero=>exact⟨ty,rfl,ox h1⟩
    |succ k=>exact h3 k (by simp_all) (by simp_all)
   ·simp at h
theorem oV{own:Nat->Bool}:∀{xs:List Operand}{i:Nat}{ts:List TypeId}{l:List (Option Nat×Opd)},jV P own i ts xs=some l->l.length=xs.length/\∀j (h:j<l.length)(h':j<xs.length),bg xs[j]=some l[j].2:=by
 intro xs
 induction xs with
 |nil=>
  intro i ts l h;simp only[jV]at h
  simp_all
 |cons x xs ih=>
  intro i ts l h;simp only[jV]at h;split at h
  ·rename_i y l' h1 h2;obtain⟨e,h3⟩:=ih h2
   obtain⟨n,rfl⟩:∃n,l=(n,y)::l':=by
    (repeat' split at h)<;>first|(injection h with h;exact⟨_,h.symm⟩)|simp at h
   refine⟨by simp[e],λj hj ZW=>?_⟩
   cases j with
   |zero=>exact h1
   |succ j=>exact h3 j (by simp_all) (by simp_all)
  ·simp at h
theorem uT{op:Op}{t:TOp}(h:nR P op=some t):js op t:=by
 unfold nR at h;split at h
 ·rename_i f args tys;split at h
  ·obtain⟨l,h1,rfl⟩:=dA h;have ⟨e,h2⟩:=oV h1;exact⟨rfl,by omega,λj hj ZW=>by simp_all⟩
  ·simp at h
 ·rename_i i args tys;obtain⟨l,h1,rfl⟩:=dA h;have ⟨e,h2⟩:=oV h1;exact⟨rfl,by omega,λj hj ZW=>by simp_all⟩
 ·simp at h
theorem xy{mv:Nat}{op:Op}{t:TOp}(h:js op t):js op (uM mv t):=by
 unfold uM;split
 ·rename_i k f args;split
  ·cases op with
   |call c=>
    have ⟨callee,asq,tys⟩:=c
    cases callee with
    |value fo=>
     have ⟨h1,h2,h3⟩:=h;exact⟨h1,by simp_all,λj hj ZW=>by simp_all⟩
    |_=>exact h
   |_=>exact h
  ·exact h
 ·exact h
theorem uP{ops:Array Oper}{mv:Nat}{o:Oper}{t:dS}(hN:M.N=nt)(Y7:∀r,M.pr r≠none->∃i∈pp,r=2*i+2)(h:rO P pp nt ops mv o=some t):nj P M dO ops o t:=by
 unfold rO at h;split at h
 case isFalse=>simp at h
 rename_i hd
 have hd':∀d,o.dst=some d->d<M.N/\M.pr (2*d+2)=none:=λd e=>by
  simp only[Fp,oDE,Bool.not_eq_true',List.contains_eq_mem,decide_eq_false_iff_not]at hd;refine⟨by simp_all,?_⟩
  cases hp:M.pr (2*d+2)with
  |none=>rfl
  |some x=>
   obtain⟨i,hi,e2⟩:=Y7 (2*d+2) (by rw[hp];simp);have e3:d=i:=Nat.eq_of_mul_eq_mul_left (by decide:0<2) (Nat.add_right_cancel e2)
   simp_all
 have Te:(∃PF,cQ P PF o.op=some (jx P mv o.op))\/dO o.op (jx P mv o.op):=by
  unfold jx
  cases h1:cQ P mv o.op with
  |some t1=>exact .inl ⟨mv,h1⟩
  |none=>
   cases h2:nR P o.op with
   |some t1=>exact .inr (.inr (xy (uT h2)))
   |none=>exact .inr (.inl rfl)
 split at h
 ·rename_i hg
  injection h with h
  subst h;exact⟨rfl,hd',.inl ⟨hg,rfl⟩,Te⟩
 ·rename_i j want hg;split at h
  ·rename_i d hj
   injection h with h
   subst h;exact⟨rfl,hd',.inr ⟨j,want,d,hg,rfl,hj⟩,Te⟩
  ·simp at h
theorem m7{ops:Array Oper}(hN:M.N=nt)(Y7:∀r,M.pr r≠none->∃i∈pp,r=2*i+2):∀{l:List Oper}{mv:List Nat}{ts:List dS},iC P pp nt ops mv l=some ts->ts.length=l.length/\∀i (h:i<l.length)(h':i<ts.length),nj P M dO ops l[i] ts[i]:=by
 intro l
 induction l with
 |nil=>
  intro mv ts h;simp[iC]at h
  simp_all
 |cons o l ih=>
  intro mv ts h;simp[iC]at h;split at h
  ·rename_i t l' h1 h2
   injection h with h
   subst h;have ⟨e,h3⟩:=ih h2;refine⟨by simp[e],λj hj ZW=>?_⟩
   cases j with
   |zero=>exact uP hN Y7 h1
   |succ j=>simp_all
  ·simp at h
theorem qD{ops:List Oper}{deps:List (List Nat)}:∀{n:Nat},rH ops deps n=true->∀i,i<n->∀(h:i<ops.length),(∀e∈ops[i].after.toList,Region.binds .any e=true->e.on<i)/\∀j∈deps.getD i [],∃e∈ops[i].after.toList,Region.binds .any e=true/\(e.on=j\/j∈deps.getD e.on []):=by
 intro n
 induction n with
 |zero=>intro _ i hi;omega
 |succ n ih=>
  intro h i hi hl;simp only[rH,oBA]at h;by_cases e:i<n
  ·exact ih h.1 i e hl
  ·obtain rfl:i=n:=by omega
   have h2:=h.2;rw[oGE hl]at h2;simp only[oBA,List.all_eq_true,List.any_eq_true,Bool.or_eq_true,Bool.not_eq_true',oDE,beq_iff_eq,List.contains_eq_mem]at h2;refine⟨λe he hb=>?_,λj hj=>?_⟩
   ·rcases h2.1 e he with h3|h3
    ·simp_all
    ·exact h3
   ·simp_all
def FG(P:Program)(ops:Array Oper)(tops:List dS)(draw:Bool)(d:Option (List (List Nat))):Prop:=match d with
 |some deps=>draw=true/\ph ops deps/\P.follows .mixedOrders=true
 |none=>draw=true->∃deps,ph ops deps/\P.follows .mixedOrders=true/\qe deps tops (List.range tops.length)=true
theorem uR{ops:Array Oper}{tops:List dS}{draw:Bool}{d:Option (List (List Nat))}(h:rP P ops tops draw=some d):FG P ops tops draw d:=by
 unfold rP at h;split at h
 ·rename_i hd;split at h
  case isFalse=>simp at h
  rename_i hc;simp at hc
  have hD:ph ops (tu ops.toList []):=by
   refine⟨λi hi e he hb=>?_,λi hi j hj=>?_⟩
   ·exact(qD hc.2 i hi (by simpa using hi)).1 e (by simp_all) hb
   ·have ⟨e,he,h3⟩:=(qD hc.2 i hi (by omega)).2 j hj;exact⟨e,by simp_all,h3⟩
  split at h
  ·rename_i hs
   injection h with h
   subst h;exact λ_=>⟨_,hD,hc.1,hs⟩
  ·injection h with h
   subst h;exact⟨hd,hD,hc.1⟩
 ·rename_i hd
  injection h with h
  subst h;exact λh'=>absurd h' (by omega)
theorem sd{isCall:Op->TOp->Prop}{pers:Nat->Prs}{a c:Code}{l:List (Nat×Option Nat)}{t:dU}(h:dk P M isCall t c):dk P M isCall (vi pers a l t) c:=by
 cases t with
 |skip=>
  unfold vi
  cases kO a with
  |some i=>exact h
  |none=>cases l<;>exact h
 |_=>exact h
theorem zn(hN:M.N=nt){l:List (Nat×Option Nat)}{x:dU}{c:Code}(h:dk P M dO x c):dk P M dO (FJ nt l x) c:=by
 unfold FJ;split
 ·exact h
 ·split
  ·rename_i hl;refine⟨λy hy=>?_,h⟩;have:=List.all_eq_true.1 hl y hy
   simp_all
  ·exact h
theorem vD(hN:M.N=nt){l:List (Nat×Option Nat)}{x:dU}{c:Code}(h:dk P M dO x c):dk P M dO (Bx nt l x) c:=by
 unfold Bx;split
 ·exact h
 ·split
  ·rename_i hl;refine⟨λy hy=>?_,h⟩;have:=List.all_eq_true.1 hl y hy
   simp_all
  ·exact h
theorem D6(hN:M.N=nt)(Y7:∀r,M.pr r≠none->∃i∈pp,r=2*i+2){l:List (Nat×Option Nat)}{x:dU}{c:Code}(h:dk P M dO x c):dk P M dO (F5 pp nt l x) c:=by
 unfold F5;split
 ·rename_i i n;split
  ·rename_i hc;simp only[oBA,oDE,Bool.not_eq_true']at hc;refine⟨⟨by rw[hN];exact hc.1,?_⟩,h⟩
   cases hp:M.pr (2*i+2)with
   |none=>rfl
   |some y=>
    obtain⟨j,hj,e⟩:=Y7 (2*i+2) (by rw[hp];simp)
    have e2:i=j:=by omega
    subst e2;have:=hc.2;simp[List.contains_iff_mem,hj]at this
  ·exact h
 ·exact h
theorem uS{mv:Nat->List Oper->Bool->List Nat}{pers:Nat->Prs}{H:Nat->List (Nat×Option Nat)}(hN:M.N=nt)(Y7:∀r,M.pr r≠none->∃i∈pp,r=2*i+2):∀{c:Code}{i:Nat}{tc:dU},co P pp nt mv pers H c i=some tc->dk P M dO tc c:=by
 intro c
 induction c with
 |skip=>intro i tc h;simp only[co,oSJ]at h;subst h;exact rfl
 |exit id=>intro i tc h;simp only[co,oSJ]at h;subst h;exact rfl
 |ret=>intro i tc h;simp only[co,oSJ]at h;subst h;exact rfl
 |region id ops draw=>
  intro i tc h;simp only[co]at h;split at h
  case h_2=>simp at h
  rename_i l h1;split at h
  case h_2=>simp at h
  rename_i d hd
  injection h with h
  subst h;obtain⟨e,h2⟩:=m7 hN Y7 h1;exact D6 hN Y7 (zn hN ⟨id,ops,draw,rfl,by simpa using e,λi hi ZL=>by have:=h2 i (by simpa using hi) ZL;simpa using this,uR hd⟩)
 |seq a b Zk Zg=>
  intro i tc h;simp only[co]at h;split at h
  ·rename_i x y h1 h2
   injection h with h
   subst h;exact⟨a,b,rfl,Zk h1,Zg h2⟩
  ·simp at h
 |cond k a b Zk Zg=>
  intro i tc h;simp only[co]at h;split at h
  ·rename_i k' x y h1 h2 h3
   injection h with h
   subst h;exact⟨k,a,b,rfl,h1,sd (Zk h2),sd (Zg h3)⟩
  ·simp at h
 |block id b ih=>
  intro i tc h;simp only[co]at h;obtain⟨x,h1,rfl⟩:=dA h;exact⟨b,rfl,ih h1⟩
 |loop b ih=>
  intro i tc h;simp only[co]at h;obtain⟨x,h1,rfl⟩:=dA h;exact zn hN ⟨b,rfl,vD hN (ih h1)⟩
 |scope b ih=>
  intro i tc h;simp only[co]at h;obtain⟨x,h1,rfl⟩:=dA h;exact .inr ⟨b,rfl,ih h1⟩
 |label l=>intro i tc h;simp only[co,oSJ]at h;subst h;exact .inl ⟨l,rfl,rfl⟩
 |_=>intro i tc h;simp[co]at h
theorem mg{α:Type}{a:Array α}{l:List α}(h:a.toList=l):a=l.toArray:=by rw[<- h]
theorem tz{c rest:Code}(h:oY P c=some rest):AM P c rest:=by
 unfold oY at h;split at h
 case h_2=>cases h
 rename_i i0 a0 i1 a1 i2 a2 PJ;split at h
 case h_2=>cases h
 rename_i t0 s0 f0 t1 s1 f1 ty ty2 t2 s2 f2 t3 s3 f3 e0 e1 e2;split at h
 case h_2=>cases h
 rename_i e hu
 injection h with h
 subst h;exact⟨i0,i1,i2,_,_,_,_,ty,_,e,by rw[mg e0,mg e1,mg e2],⟨rfl,rfl,rfl⟩,⟨rfl,rfl,rfl⟩,⟨rfl,rfl,rfl⟩,⟨rfl,rfl,rfl⟩,hu⟩
theorem m8{fn:Func}{c:Code}{tf:TFn}(h:oU P fn c=some tf):AL P tf c/\tf.nt=fn.ntmps/\tf.np=fn.params.size/\jw P fn.results.toList=some tf.res:=by
 unfold oU at h;split at h
 case h_2=>cases h
 rename_i id ops hr;split at h
 case h_2=>cases h
 rename_i sz b sz2 bytes mv fl hops;split at h
 case isFalse=>cases h
 rename_i hc;obtain⟨rfl,Qr,hp,hn⟩:=hc;split at h
 case h_2=>cases h
 rename_i YB
 injection h with h
 subst h;refine⟨⟨rfl,rfl,rfl,rfl,Qr,⟨_,_,_,_,_,_,rfl⟩,_,tz hr,λM hN Y7=>?_⟩,hn.symm,hp.symm,YB⟩;obtain⟨e,h2⟩:=m7 (nt:=8) hN Y7 hops;exact⟨_,_,rfl,⟨id,ops,false,rfl,by omega,λi hi ZL=>by simp_all,λh=>by cases h⟩,rfl⟩
theorem AS{T:FuncId->Option TFn}(h:∀f tf,T f=some tf->(∃H,jy P H f=some tf)/\tf.np<=tf.nt/\∀fn,P.funcs[f]?=some fn->(fn.name=="runtime.NumGoroutine")=false):rV P T:=by
 intro f tf hT;obtain⟨⟨H,h1⟩,h2,h3⟩:=h f tf hT;unfold jy at h1;split at h1
 case h_2=>simp at h1
 rename_i fn hf;split at h1
 case h_2=>simp at h1
 rename_i c hb;split at h1
 ·rename_i Oa hcl
  injection h1 with h1
  subst h1;obtain⟨g1,g2,g3,g4⟩:=m8 hcl;have ⟨e,YB⟩:=qF g4;exact⟨fn,c,hf,h3 fn hf,hb,g2.symm,h2,.inr g1,by simpa using e,λk hk YX=>by have:=YB k hk (by simpa using YX);simpa using this⟩
 simp only at h1;split at h1
 ·rename_i tc rs hc hr
  injection h1 with h1
  subst h1;have ⟨e,YB⟩:=qF hr;exact⟨fn,c,hf,h3 fn hf,hb,rfl,h2,.inl λM hN Y7=>vD hN (uS hN Y7 hc),by simpa using e,λk hk YX=>by have:=YB k hk (by simpa using YX);simpa using this⟩
 ·simp at h1
end
theorem wA{E:Env}{T:FuncId->Option TFn}{B F:bW}{n:Nat}{f:FuncId}{tf:TFn}(h:T f=some tf)(vals:List TV)(pts:Pts):tW E T B F n f vals pts=runT E F n tf vals pts:=by
 unfold tW;rw[h]
def arR(op:BinOp)(k:IntKind)(a b:Int):Int:=
 match op with
 |.add=>k.wrap (a+b)
 |.sub=>k.wrap (a-b)
 |.mul=>k.wrap (a*b)
 |.quo=>k.wrap (a.tdiv b)
 |.rem=>a.tmod b
 |.and=>k.wrap (BitVec.ofInt k.bits a &&& BitVec.ofInt k.bits b).toNat
 |.or=>k.wrap (BitVec.ofInt k.bits a ||| BitVec.ofInt k.bits b).toNat
 |.xor=>k.wrap (BitVec.ofInt k.bits a ^^^ BitVec.ofInt k.bits b).toNat
 |.andNot=>k.wrap (BitVec.ofInt k.bits a &&& ~~~BitVec.ofInt k.bits b).toNat
 |_=>0
def shR(op:BinOp)(k:IntKind)(a:Int)(n:Nat):Int:=
 match op with
 |.shl=>k.wrap (a*2 ^ (min n k.bits))
 |.shr=>a.fdiv (2 ^ (min n k.bits))
 |_=>0
def cmR(op:BinOp)(a b:Int):Bool:=
 match op with
 |.eql=>a==b
 |.neq=>a != b
 |.lss=>decide (a<b)
 |.leq=>decide (a<=b)
 |.gtr=>decide (a>b)
 |.geq=>decide (a>=b)
 |_=>false
def FQ{α:Type}(f:α->Bool):List α->Bool
 | []=>true
 |x::r=>match f x with|true=>FQ f r|false=>false
def EA{α:Type}(f:α->Bool):List α->Bool
 | []=>false
 |x::r=>match f x with|true=>true|false=>EA f r
def xg(a b:List Loc):Bool:=EA (λw=>EA (λx=>w.hit x) b) a
def Au(a b:jY):Bool:=match xg a.2 b.1 with
 |true=>true
 |false=>match xg a.2 b.2 with
  |true=>true
  |false=>match xg b.2 a.1 with
   |true=>true
   |false=>xg b.2 a.2
def q8(d:List Nat)(j:Nat)(F F':jY):Bool:=match d.contains j with
 |true=>true
 |false=>!Au F F'
def lu(deps:List (List Nat)):List (Nat×jY)->Bool
 | []=>true
 |(j,F)::r=>match FQ (λy=>q8 (deps.getD y.1 []) j F y.2) r with|true=>lu deps r|false=>false
theorem Ek{α:Type}(f:α->Bool)(l:List α):FQ f l=l.all f:=by
 induction l with
 |nil=>rfl
 |cons x l ih=>simp[FQ];cases f x<;>simp[ih]
theorem AF{α:Type}(f:α->Bool)(l:List α):EA f l=l.any f:=by
 induction l with
 |nil=>rfl
 |cons x l ih=>simp[EA];cases f x<;>simp[ih]
theorem BH(a b:List Loc):xg a b=xi a b:=by
 have e:(λw:Loc=>EA (λx=>w.hit x) b)=λw:Loc=>b.any λx=>w.hit x:=funext λw=>AF _ _;unfold xg xi;rw[AF,e]
theorem At(a b:jY):Au a b=iP a b:=by
 unfold Au iP;simp[BH]
 grind
theorem xd(d:List Nat)(j:Nat)(a b:jY):q8 d j a b=(!iP a b||d.contains j):=by
 unfold q8;rw[At];cases d.contains j<;>simp
theorem um(deps:List (List Nat))(fs:List (Nat×jY)):lu deps fs=dQ deps fs:=by
 induction fs with
 |nil=>rfl
 |cons x r ih=>
  have ⟨j,F⟩:=x;have e:(λy:Nat×jY=>q8 (deps.getD y.1 []) j F y.2)=λy=>!iP F y.2||(deps.getD y.1 []).contains j:=funext λy=>xd _ _ _ _;simp only[lu,dQ,Ek,ih,e];cases r.all λy=>!iP F y.2||(deps.getD y.1 []).contains j<;>simp
theorem wrap_i64{x:Int}(h1:-9223372036854775808<=x)(h2:x<=9223372036854775807):IntKind.wrap .i64 x=x:=by
 have e1:(2:Int) ^ IntKind.bits .i64=18446744073709551616:=by rfl
 have e2:(2:Int) ^ (IntKind.bits .i64-1)=9223372036854775808:=by rfl
 have e3:IntKind.signed .i64=true:=rfl;unfold IntKind.wrap;simp[e1,e3];omega
inductive CT where
 |int (k:IntKind)
 |bool
 |str
 |nat
 |row (own:Bool) (t:CT)
 |nilr (own:Bool)
 |pair (a b:CT)
def ki:CT->CT->Bool
 |.int k,.int k'=>decide (k=k')
 |.bool,.bool=>true
 |.str,.str=>true
 |.nat,.nat=>true
 |.row o t,.row o' t'=>(o==o')&&ki t t'
 |.nilr o,.nilr o'=>o==o'
 |.pair a b,.pair a' b'=>ki a a'&&ki b b'
 |_,_=>false
theorem lP:∀{a b:CT},ki a b=true->a=b:=by
 intro a
 induction a with
 |int k=>intro b h;cases b<;>simp_all [ki]
 |bool=>intro b h;cases b<;>simp_all [ki]
 |str=>intro b h;cases b<;>simp_all [ki]
 |nat=>intro b h;cases b<;>simp_all [ki]
 |row o t ih=>intro b h;cases b<;>simp[ki]at h;rw[h.1,ih h.2]
 |nilr o=>intro b h;cases b<;>simp_all [ki]
 |pair x y X5 UH=>intro b h;cases b<;>simp[ki]at h;rw[X5 h.1,UH h.2]
def eU:CT->CT->Bool
 |.int k,.int k'=>decide (k=k')
 |.bool,.bool=>true
 |.str,.str=>true
 |.nat,.nat=>true
 |.row _ t,.row _ t'=>eU t t'
 |.nilr _,.nilr _=>true
 |.pair a b,.pair a' b'=>eU a a'&&eU b b'
 |_,_=>false
def xz:CT->CT->Bool
 |.int k,.int k'=>decide (k=k')
 |.bool,.bool=>true
 |.str,.str=>true
 |.nat,.nat=>true
 |.row o t,.row o' t'=>(o==o')&&xz t t'
 |.nilr o,.nilr o'=>o==o'
 |.nilr o,.row o' _=>o==o'
 |.pair a b,.pair a' b'=>xz a a'&&xz b b'
 |_,_=>false
def eE:CT->Nat
 |.pair a b=>eE a+eE b
 |.nat=>0
 |_=>1
def ku:CT->CT
 |.row true t=>.row false (ku t)
 |.nilr _=>.nilr false
 |.pair a b=>.pair (ku a) (ku b)
 |t=>t
def shT:CT->Nat->List Nat->Option CT
 |.pair a b,o,os=>if o<eE a then(shT a o os).map (.pair · b)else(shT b (o-eE a) os).map (.pair a ·)
 |t,0,[]=>some (ku t)
 |.row true t,0,o::os=>(shT t o os).map (.row true)
 |t,_,_=>some t
abbrev den:CT->Type
 |.int _=>Int
 |.bool=>Bool
 |.str=>ByteArray
 |.nat=>Nat
 |.row _ t=>List (den t)
 |.nilr _=>Unit
 |.pair a b=>den a×den b
theorem dg:∀{a b:CT},eU a b=true->den a=den b:=by
 intro a
 induction a with
 |int k=>intro b h;cases b<;>simp[eU]at h;rfl
 |bool=>intro b h;cases b<;>simp[eU]at h;rfl
 |str=>intro b h;cases b<;>simp[eU]at h;rfl
 |nat=>intro b h;cases b<;>simp[eU]at h;rfl
 |row o t ih=>intro b h;cases b<;>simp[eU]at h;simp only[den];rw[ih h]
 |nilr o=>intro b h;cases b<;>simp[eU]at h;rfl
 |pair x y X5 UH=>intro b h;cases b<;>simp[eU]at h;simp only[den];rw[X5 h.1,UH h.2]
def Ez:(t:CT)->den t
 |.int _=>(0:Int)
 |.bool=>false
 |.str=>ByteArray.empty
 |.nat=>(0:Nat)
 |.row _ _=>[]
 |.nilr _=>()
 |.pair a b=>(Ez a,Ez b)
def CU:(a b:CT)->den a->den b
 |.row _ t,.row _ t',xs=>List.map (CU t t') xs
 |.pair a b,.pair a' b',x=>(CU a a' x.1,CU b b' x.2)
 |.int _,.int _,x=>x
 |.bool,.bool,x=>x
 |.str,.str,x=>x
 |.nat,.nat,x=>x
 |_,b,_=>Ez b
def enc:(t:CT)->den t->List TV
 |.int k,x=>[.v (.int k x)]
 |.bool,x=>[.v (.bool x)]
 |.str,x=>[.v (.string x)]
 |.nat,_=>[]
 |.row true t,xs=>[.ow (List.map (enc t) xs)]
 |.row false t,xs=>[.sl (List.map (enc t) xs)]
 |.nilr true,_=>[.ow []]
 |.nilr false,_=>[.sl []]
 |.pair a b,x=>enc a x.1++enc b x.2
def HL(D:CT->Type):List CT->Type
 | []=>Unit
 |t::ts=>D t×HL D ts
def q9:List (List CT)->Nat->List CT
 | [],_=>[]
 |l::_,0=>l
 |_::r,i+1=>q9 r i
def qM:List (List CT)->Type
 | []=>Empty
 | [l]=>HL den l
 |l::m::r=>HL den l⊕qM (m::r)
def mA:(ls:List (List CT))->(i:Nat)->HL den (q9 ls i)->Option (qM ls)
 | [],_,_=>none
 | [_],0,h=>some h
 | [_],_+1,_=>none
 |_::_::_,0,h=>some (.inl h)
 |_::m::r,i+1,h=>(mA (m::r) i h).map .inr
def Fn{α:Type}:(ls:List (List CT))->((i:Nat)->HL den (q9 ls i)->α)->qM ls->α
 | [],_,o=>Empty.elim o
 | [_],f,o=>f 0 o
 |_::m::r,f,o=>match o with
  |.inl h=>f 0 h
  |.inr o'=>Fn (m::r) (λi h=>f (i+1) h) o'
def fQ{α:Type}(ls:List (List CT))(o:qM ls)(f:(i:Nat)->HL den (q9 ls i)->α):α:=Fn ls f o
structure Alg (D:CT->Type)(M:Type->Type) where
 lit:(k:IntKind)->Int->D (.int k)
 litB:Bool->D .bool
 litS:ByteArray->D .str
 litN:Nat->D .nat
 nilv:(o:Bool)->D (.nilr o)
 nil:(o:Bool)->(t:CT)->D (.row o t)
 recast:(t t':CT)->eU t t'=true->D t->D t'
 coe:(t t':CT)->D t->D t'
 mkp:(a b:CT)->D a->D b->D (.pair a b)
 fst:(a b:CT)->D (.pair a b)->D a
 snd:(a b:CT)->D (.pair a b)->D b
 ar:BinOp->(k:IntKind)->D (.int k)->D (.int k)->D (.int k)
 cm:BinOp->(k:IntKind)->D (.int k)->D (.int k)->D .bool
 sh:BinOp->(k:IntKind)->D (.int k)->D .nat->D (.int k)
 neg:(k:IntKind)->D (.int k)->D (.int k)
 not:D .bool->D .bool
 cv:(k k':IntKind)->D (.int k)->D (.int k')
 mm:Bool->(k:IntKind)->D (.int k)->D (.int k)->D (.int k)
 eqB:D .bool->D .bool->D .bool
 eqS:D .str->D .str->D .bool
 eqT:D .str->D .str->D .bool
 andB:D .bool->D .bool->D .bool
 ite:(t:CT)->D .bool->D t->D t->D t
 natI:D .nat->D (.int .i64)
 addN:D .nat->D .nat->D .nat
 subN:D .nat->D .nat->D .nat
 minN:D .nat->D .nat->D .nat
 len:(o:Bool)->(t:CT)->D (.row o t)->D .nat
 slOk:D .nat->D .nat->D .nat->D .bool
 ltN:D .nat->D .nat->D .bool
 eqN:D .nat->D .nat->D .bool
 win:(o:Bool)->(t:CT)->D (.row o t)->D .nat->D .nat->D (.row o t)
 appOk:Nat->D .nat->D .nat->D .bool
 cat:(t:CT)->(o:Bool)->D (.row true t)->D (.row o t)->D (.row true t)
 rowl:(o:Bool)->(t:CT)->List (D t)->D (.row o t)
 mkOk:D .nat->D .nat->Nat->D .bool
 rep:(t:CT)->D .nat->D t->D (.row true t)
 upd:(t:CT)->D (.row true t)->D .nat->(D t->D t)->D (.row true t)
 splice:(t:CT)->(o:Bool)->D (.row true t)->D .nat->D .nat->D (.row o t)->D (.row true t)
 strLen:D .str->D (.int .i64)
 strB:D .str->D (.row false (.int .u8))
 strOk:D .str->D .bool
 fail:{X:Type}->M X
 br:{X:Type}->D .bool->M X->M X->M X
 nat:{X:Type}->(k:IntKind)->D (.int k)->(D .nat->M X)->M X
 get:{X:Type}->(o:Bool)->(t:CT)->D (.row o t)->D .nat->(D t->M X)->M X
 strAt:{X:Type}->D .str->D .nat->(D (.int .u8)->M X)->M X
 bstr:{X:Type}->D (.row false (.int .u8))->(D .str->M X)->M X
 lt:{X:Type}->(t:CT)->D t->(D t->M X)->M X
 call:{X:Type}->Nat->(ins:List CT)->(outs:List (List CT))->(HL den ins->Option (qM outs))->HL D ins->((i:Nat)->HL D (q9 outs i)->M X)->M X
 loop:{X:Type}->Nat->(s:List CT)->(outs:List (List CT))->HL D s->(HL D s->M (HL den s⊕qM outs))->((i:Nat)->HL D (q9 outs i)->M X)->M X
 join:{X:Type}->(outs:List (List CT))->M (qM outs)->((i:Nat)->HL D (q9 outs i)->M X)->M X
 next:(s:List CT)->(outs:List (List CT))->HL D s->M (HL den s⊕qM outs)
 exitL:(s:List CT)->(outs:List (List CT))->(i:Nat)->HL D (q9 outs i)->M (HL den s⊕qM outs)
 out:(outs:List (List CT))->(i:Nat)->HL D (q9 outs i)->M (qM outs)
def eD:Int->Option Nat
 |.ofNat n=>some n
 |.negSucc _=>none
def dw{α:Type}(xs:List α)(i:Nat):Option α:=xs[i]?
def Gs(a b:Bool):Bool:=a==b
def Gr(a b:ByteArray):Bool:=a==b
def F7(a b:ByteArray):Bool:=a.toList==b.toList
def bu(n:Nat):Int:=(n:Int)
def Gn(k:IntKind)(a:Int):Int:=k.wrap (0-a)
def mmR(mx:Bool)(a b:Int):Int:=if mx then(if a<b then b else a)else(if b<a then b else a)
def xV{α:Type}(xs:List α)(l n:Nat):List α:=(xs.drop l).take n
def jg(l h n:Nat):Bool:=l<=h&&decide (h<=n)
def cM(bytes n m:Nat):Bool:=decide (n+m<=1099511627776)&&decide ((n+m)*bytes<=140737488355328)
def zG(n m sz:Nat):Bool:=decide (n=m)&&decide (n*sz<=16777216)
def fk{α:Type}(xs:List α)(lo m:Nat)(ys:List α):List α:=xs.take lo++ys.take m++xs.drop (lo+m)
def Db(s:ByteArray):List Int:=s.data.toList.map λb=>(b.toNat:Int)
def xY(s:ByteArray)(k:Nat):Option Int:=(s[k]?).map λb=>(b.toNat:Int)
def Ay(l:List Int):ByteArray:=l.foldl (λr n=>r.push (UInt8.ofNat n.toNat)) ByteArray.empty
def bH{S T:Type}(f:S->Option (S⊕T)):Nat->S->Option T
 |0,_=>none
 |n+1,s=>(f s).bind λx=>match x with|.inl s'=>bH f n s'|.inr t=>some t
def NN:Nat:=18446744073709551616
def bf:Alg den Option where
 lit _ n:=n
 litB b:=b
 litS s:=s
 litN n:=n
 nilv _:=()
 nil _ _:=[]
 recast _ _ h x:=cast (dg h) x
 coe t t' x:=CU t t' x
 mkp _ _ x y:=(x,y)
 fst _ _ x:=x.1
 snd _ _ x:=x.2
 ar op k a b:=arR op k a b
 cm op _ a b:=cmR op a b
 sh op k a n:=shR op k a n
 neg k a:=Gn k a
 not b:=!b
 cv _ k' n:=k'.wrap n
 mm mx _ a b:=mmR mx a b
 eqB a b:=Gs a b
 eqS a b:=Gr a b
 eqT a b:=F7 a b
 andB a b:=a&&b
 ite _ c a b:=bif c then a else b
 natI n:=bu n
 addN a b:=Nat.add a b
 subN a b:=Nat.sub a b
 minN a b:=Nat.min a b
 len _ _ xs:=List.length xs
 slOk l h n:=jg l h n
 ltN a b:=Nat.blt a b
 eqN a b:=Nat.beq a b
 win _ _ xs l n:=xV xs l n
 appOk b n m:=cM b n m
 cat _ _ xs ys:=List.append xs ys
 rowl _ _ l:=l
 mkOk n m sz:=zG n m sz
 rep _ n x:=List.replicate n x
 upd _ xs i f:=List.modify xs i f
 splice _ _ xs lo m ys:=fk xs lo m ys
 strLen s:=(ByteArray.size s:Int)
 strB s:=Db s
 strOk s:=decide (ByteArray.size s<4294967296)
 fail:=none
 br c a b:=bif c then a else b
 nat _ n k:=(eD n).bind k
 get _ _ xs i k:=(dw xs i).bind k
 strAt s i k:=(xY s i).bind k
 bstr l k:=k (Ay l)
 lt _ x k:=k x
 call _ _ outs g h k:=(g h).bind λo=>fQ outs o k
 loop _ _ outs h body k:=(bH body NN h).bind λo=>fQ outs o k
 join outs m k:=m.bind λo=>fQ outs o k
 next _ _ h:=some (.inl h)
 exitL _ outs i h:=(mA outs i h).map .inr
 out outs i h:=mA outs i h
structure XP (D:CT->Type) where
 root:Nat
 off:Nat
 hops:List (D .nat×Nat×Nat)
inductive XV (D:CT->Type) where
 |d (t:CT) (x:D t)
 |k (x:Value)
 |dead
 |ptr (p:XP D) (vs:List Nat)
 |ip (cs:List (XV D))
 |pk (p:XP D) (vs:List Nat)
 |pw (p:XP D) (vs:List Nat) (sz:Nat) (lo n:D .nat)
 |agg (l:List (XV D))
 |tup (l:List (XV D))
 |fn (f:FuncId) (cap:List (XV D))
 |gap (t:CT) (x:D (.row true t)) (i:D .nat) (o:Nat)
structure XS (D:CT->Type) where
 tm:List (Nat×XV D)
 ce:List (Nat×List (XV D))
 vr:List (Key×Nat)
 lg:jY
abbrev Sh:=XV λ_=>Unit
abbrev Shs:=XS λ_=>Unit
abbrev shU(t:CT):Sh:=.d t ()
structure XO where
 cells:List Sh
 sh:List RSh
 pts:List (Nat×List Sh)
def ux:List (Unit×Nat×Nat)->List CT->List CT
 | [],r=>r
 |_::hs,r=>.nat::ux hs r
mutual
def lv:Sh->List CT->List CT
 |.d t _,r=>t::r
 |.ip l,r=>lvL l r
 |.agg l,r=>lvL l r
 |.tup l,r=>lvL l r
 |.fn _ l,r=>lvL l r
 |.k _,r=>r
 |.dead,r=>r
 |.ptr p _,r=>ux p.hops r
 |.pk p _,r=>ux p.hops r
 |.pw _ _ _ _ _,r=>r
 |.gap t _ _ _,r=>.row true t :: .nat::r
def lvL:List Sh->List CT->List CT
 | [],r=>r
 |x::xs,r=>lv x (lvL xs r)
end
def lvP:List (Nat×List Sh)->List CT->List CT
 | [],r=>r
 |x::xs,r=>lvL x.2 (lvP xs r)
def lvT:List (Nat×Sh)->List CT->List CT
 | [],r=>r
 |x::xs,r=>lv x.2 (lvT xs r)
def lvS(s:Shs):List CT:=lvT s.tm (lvP s.ce [])
def lvO(o:XO):List CT:=lvL o.cells (lvP o.pts [])
structure Ctr where
 f:FuncId
 id:Nat
 ins:List Sh
 pts:List (Nat×List Sh)
 outs:List XO
 g:HL den (lvL ins (lvP pts []))->Option (qM (outs.map lvO))
structure tM where
 i:Nat
 nm:Nat
 s:Shs
 outs:List (eX×Shs)
section
variable {D:CT->Type}
def XP.bare(p:XP D):Bool:=match p.hops with | []=>true|_::_=>false
def Gf(p:XP λ_=>Unit):XP D:=⟨p.root,p.off,[]⟩
def oN:(hs:List (Unit×Nat×Nat))->(r:List CT)->HL D (ux hs r)->List (D .nat×Nat×Nat)×HL D r
 | [],_,h=>([],h)
 |(_,sz,o)::hs,r,h=>((h.1,sz,o)::(oN hs r h.2).1,(oN hs r h.2).2)
def uN:(hs:List (Unit×Nat×Nat))->List (D .nat×Nat×Nat)->(r:List CT)->HL D r->Option (HL D (ux hs r))
 | [],[],_,h=>some h
 |(_,sz,o)::hs,(i,sz',o')::hs',r,h=>if sz=sz'/\o=o' then(uN hs hs' r h).map λh1=>(i,h1)else none
 |_,_,_,_=>none
mutual
def fill:(s:Sh)->(r:List CT)->HL D (lv s r)->XV D×HL D r
 |.d t _,_,h=>(.d t h.1,h.2)
 |.ip l,r,h=>(.ip (d4 l r h).1,(d4 l r h).2)
 |.agg l,r,h=>(.agg (d4 l r h).1,(d4 l r h).2)
 |.tup l,r,h=>(.tup (d4 l r h).1,(d4 l r h).2)
 |.fn f l,r,h=>(.fn f (d4 l r h).1,(d4 l r h).2)
 |.k x,_,h=>(.k x,h)
 |.dead,_,h=>(.dead,h)
 |.ptr p vs,r,h=>(.ptr ⟨p.root,p.off,(oN p.hops r h).1⟩ vs,(oN p.hops r h).2)
 |.pk p vs,r,h=>(.pk ⟨p.root,p.off,(oN p.hops r h).1⟩ vs,(oN p.hops r h).2)
 |.pw _ _ _ _ _,_,h=>(.dead,h)
 |.gap t _ _ o,_,h=>(.gap t h.1 h.2.1 o,h.2.2)
def d4:(s:List Sh)->(r:List CT)->HL D (lvL s r)->List (XV D)×HL D r
 | [],_,h=>([],h)
 |x::xs,r,h=>((fill x (lvL xs r) h).1::(d4 xs r (fill x (lvL xs r) h).2).1,(d4 xs r (fill x (lvL xs r) h).2).2)
end
def lL:(s:List (Nat×List Sh))->(r:List CT)->HL D (lvP s r)->List (Nat×List (XV D))×HL D r
 | [],_,h=>([],h)
 |x::xs,r,h=>((x.1,(d4 x.2 (lvP xs r) h).1)::(lL xs r (d4 x.2 (lvP xs r) h).2).1,(lL xs r (d4 x.2 (lvP xs r) h).2).2)
def rE:(s:List (Nat×Sh))->(r:List CT)->HL D (lvT s r)->List (Nat×XV D)×HL D r
 | [],_,h=>([],h)
 |x::xs,r,h=>((x.1,(fill x.2 (lvT xs r) h).1)::(rE xs r (fill x.2 (lvT xs r) h).2).1,(rE xs r (fill x.2 (lvT xs r) h).2).2)
def uG(s:Shs)(h:HL D (lvS s)):XS D:=⟨(rE s.tm _ h).1,(lL s.ce [] (rE s.tm _ h).2).1,s.vr,([],[])⟩
def ga:(outs:List XO)->(i:Nat)->HL D (q9 (outs.map lvO) i)->Option (List (XV D)×List RSh×List (Nat×List (XV D)))
 | [],_,_=>none
 |o::_,0,h=>some ((d4 o.cells _ h).1,o.sh,(lL o.pts [] (d4 o.cells _ h).2).1)
 |_::r,i+1,h=>ga r i h
def m6:(outs:List (eX×Shs))->(i:Nat)->HL D (q9 (outs.map λx=>lvS x.2) i)->Option (eX×XS D)
 | [],_,_=>none
 |o::_,0,h=>some (o.1,uG o.2 h)
 |_::r,i+1,h=>m6 r i h
end
section
variable {D:CT->Type} {M:Type->Type} (A:Alg D M)
def Ai:Value->Value->Bool
 |.pointer none,.pointer none=>true
 |.nilFunc,.nilFunc=>true
 |.nilIface,.nilIface=>true
 |_,_=>false
def asT(t u:CT)(x:D t):Option (D u):=
 if h:ki t u=true then some (lP h▸x)else if xz t u then some (A.coe t u x)else none
def CJ(p:XP λ_=>Unit)(q:XP D):Bool:=p.root==q.root&&p.off==q.off&&p.bare&&q.bare
mutual
def conv:(s:Sh)->XV D->(r:List CT)->HL D r->Option (HL D (lv s r))
 |.d u _,.d t x,_,h=>(asT A t u x).map λy=>(y,h)
 |.ip l,.ip l',r,h=>nF l l' r h
 |.agg l,.agg l',r,h=>nF l l' r h
 |.tup l,.tup l',r,h=>nF l l' r h
 |.fn f l,.fn f' l',r,h=>if f=f' then nF l l' r h else none
 |.k x,.k y,_,h=>if Ai x y then some h else none
 |.dead,.dead,_,h=>some h
 |.ptr p vs,.ptr q ws,r,h=>if p.root==q.root&&p.off==q.off&&vs==ws then uN p.hops q.hops r h else none
 |.pk p vs,.pk q ws,r,h=>if p.root==q.root&&p.off==q.off&&vs==ws then uN p.hops q.hops r h else none
 |.gap t _ _ o,.gap t' x i o',_,h=>if o=o' then(asT A (.row true t') (.row true t) x).map λy=>(y,i,h)else none
 |_,_,_,_=>none
def nF:(s:List Sh)->List (XV D)->(r:List CT)->HL D r->Option (HL D (lvL s r))
 | [],[],_,h=>some h
 |s::ss,x::xs,r,h=>(nF ss xs r h).bind λh1=>conv s x (lvL ss r) h1
 |_,_,_,_=>none
end
end
abbrev XM(D:CT->Type)(M:Type->Type)(X α:Type):=XS D->(α->XS D->M X)->M X
def BA{α:Type}:List α->Nat->Option α
 | [],_=>none
 |x::_,0=>some x
 |_::r,i+1=>BA r i
namespace X
section
variable {D:CT->Type} {M:Type->Type} {X:Type} (A:Alg D M) {α β:Type}
def ret(a:α):XM D M X α:=fun σ k=>k a σ
def bind(m:XM D M X α)(f:α->XM D M X β):XM D M X β:=fun σ k=>m σ λa σ'=>f a σ' k
def fail:XM D M X α:=λ_ _=>A.fail
def brM(c:D .bool)(m:XM D M X α):XM D M X α:=fun σ k=>A.br c (m σ k) A.fail
def forkM(c:D .bool)(m m':XM D M X α):XM D M X α:=fun σ k=>A.br c (m σ k) (m' σ k)
def caseM(k:D .nat):Nat->(Nat->XM D M X α)->Nat->XM D M X α
 |0,_,_=>fail A
 |n+1,f,i=>forkM A (A.eqN k (A.litN i)) (f i) (caseM k n f (i+1))
def optM(o:Option α):XM D M X α:=fun σ k=>match o with|some a=>k a σ |none=>A.fail
def tOf(σ:XS D)(i:Nat):XV D:=(bB σ.tm i).getD .dead
def cOf(σ:XS D)(r o:Nat):XV D:=match bB σ.ce r with|some l=>l.getD o .dead|none=>.dead
def lgR(x:Loc)(σ:XS D):XS D:=⟨σ.tm,σ.ce,σ.vr,(x :: σ.lg.1,σ.lg.2)⟩
def letL:List (XV D)->(List (XV D)->M X)->M X
 | [],k=>k []
 |.d t x::r,k=>A.lt t x λy=>letL r λr'=>k (.d t y::r')
 |t::r,k=>letL r λr'=>k (t::r')
def letX(t:XV D)(k:XV D->M X):M X:=
 match t with
 |.d t x=>A.lt t x λy=>k (.d t y)
 |.agg l=>letL A l λl'=>k (.agg l')
 |t=>k t
def rdT(i:Nat):XM D M X (XV D):=fun σ k=>k (tOf σ i) (lgR (.t i) σ)
def rdC(r o:Nat):XM D M X (XV D):=fun σ k=>k (cOf σ r o) (lgR (.c r o) σ)
def rdK(r o:Nat):XM D M X (XV D):=fun σ k=>k (cOf σ r o) (lgR (.h r o) σ)
def rdV(q:Key):XM D M X Nat:=fun σ k=>k (kH σ.vr q) (lgR (.v q) σ)
def wrT(i:Nat)(t:XV D):XM D M X Unit:=fun σ k=>letX A t λt'=>k () ⟨cF σ.tm i t',σ.ce,σ.vr,(σ.lg.1,.t i :: σ.lg.2)⟩
def wrC(r o:Nat)(t:XV D):XM D M X Unit:=fun σ k=>match bB σ.ce r with
 |some l=>if o<l.length then letX A t λt'=>k () ⟨σ.tm,cF σ.ce r (l.set o t'),σ.vr,(.n r :: .h r o :: σ.lg.1,.c r o :: .h r o :: σ.lg.2)⟩else A.fail
 |none=>A.fail
def wrI(r o:Nat)(t:XV D):XM D M X Unit:=fun σ k=>match bB σ.ce r with
 |some l=>if o<l.length then letX A t λt'=>k () ⟨σ.tm,cF σ.ce r (l.set o t'),σ.vr,(.n r :: .h r o :: σ.lg.1,.c r o :: σ.lg.2)⟩else A.fail
 |none=>A.fail
def new(r:Nat)(l:List (XV D)):XM D M X Unit:=fun σ k=>letL A l λl'=>k () ⟨σ.tm,cF σ.ce r l',ja σ.vr (r,0,0),(.v (r,0,0) :: σ.lg.1,.n r :: .v (r,0,0) :: σ.lg.2)⟩
def bump(q:Key):XM D M X Unit:=fun σ k=>k () ⟨σ.tm,σ.ce,ja σ.vr q,(.v q :: σ.lg.1,.v q :: σ.lg.2)⟩
def cellX:Value->XV D
 |.slice none 0 0=>.d (.nilr true) (A.nilv true)
 |.int k n=>.d (.int k) (A.lit k n)
 |.bool b=>.d .bool (A.litB b)
 |.string s=>.d .str (A.litS s)
 |x=>if dF x then .k x else .dead
def constX:Value->XV D
 |.agg cs=>.agg (cs.toList.map (cellX A))
 |x=>cellX A x
def opd:Opd->XM D M X (XV D)
 |.t i=>rdT i
 |.c x=>ret (constX A x)
 |.f f=>ret (.fn f [])
def rdVs:List Key->XM D M X (List Nat)
 | []=>ret []
 |q::qs=>bind (rdV q) λn=>bind (rdVs qs) λl=>ret (n::l)
def chk(p:XP D)(n:Nat)(vs:List Nat):XM D M X Unit:=bind (rdVs (jq p.root p.off n)) λl=>if l=vs then ret ()else fail A
def addP(p:XP D)(n:Nat):XP D:=
 match p.hops.reverse with
 | []=>⟨p.root,p.off+n,[]⟩
 |(i,sz,o)::r=>⟨p.root,p.off,((i,sz,o+n)::r).reverse⟩
def atP(p:XP D)(i:D .nat)(sz:Nat):XP D:=⟨p.root,p.off,p.hops++[(i,sz,0)]⟩
def fitsP(p:XP D)(n:Nat):Bool:=
 match p.hops.reverse with
 | []=>true
 |(_,sz,o)::_=>decide (o+n<sz)
def splitX:(t:CT)->D t->List (XV D)
 |.pair a b,x=>splitX a (A.fst a b x)++splitX b (A.snd a b x)
 |.nat,_=>[]
 |.int k,x=>[.d (.int k) x]
 |.bool,x=>[.d .bool x]
 |.str,x=>[.d .str x]
 |.row o t,x=>[.d (.row o t) x]
 |.nilr o,x=>[.d (.nilr o) x]
def getX:XV D->List (D .nat×Nat×Nat)->(XV D->M X)->M X
 |t,[],k=>k t
 |.d (.row true t) xs,(i,sz,o)::hs,k=>if eE t=sz then A.get true t xs i λe=>match BA (splitX A t e) o with|some v=>getX v hs k|none=>A.fail else A.fail
 |_,_::_,_=>A.fail
def elemX:XV D->List (D .nat×Nat×Nat)->((t:CT)->D t->M X)->M X
 |.d (.row true t) xs,[(i,sz,_)],k=>if eE t=sz then A.get true t xs i (k t)else A.fail
 |.d (.row true t) xs,(i,sz,o)::h::hs,k=>if eE t=sz then A.get true t xs i λe=>match BA (splitX A t e) o with|some v=>elemX v (h::hs) k|none=>A.fail else A.fail
 |_,_,_=>A.fail
def getM(tv:XV D)(hs:List (D .nat×Nat×Nat))(g:XV D->XM D M X α):XM D M X α:=fun σ k=>getX A tv hs λv=>g v σ k
def elemM(tv:XV D)(hs:List (D .nat×Nat×Nat))(g:(t:CT)->D t->XM D M X α):XM D M X α:=fun σ k=>elemX A tv hs λt e=>g t e σ k
def atM(o:Bool)(t:CT)(xs:D (.row o t))(i:D .nat)(g:D t->XM D M X α):XM D M X α:=fun σ k=>A.get o t xs i λe=>g e σ k
def natM(kd:IntKind)(n:D (.int kd))(g:D .nat->XM D M X α):XM D M X α:=fun σ k=>A.nat kd n λm=>g m σ k
def EP(s:D .str)(i:D .nat)(g:D (.int .u8)->XM D M X α):XM D M X α:=fun σ k=>A.strAt s i λb=>g b σ k
def Ga(c:D (.row false (.int .u8)))(g:D .str->XM D M X α):XM D M X α:=fun σ k=>A.bstr c λs=>g s σ k
def lastO:List (D .nat×Nat×Nat)->Nat
 | []=>0
 | [(_,_,o)]=>o
 |_::h::hs=>lastO (h::hs)
def setD:(t:CT)->Nat->((u:CT)->Option (D u->D u))->Option (D t->D t)
 |.pair a b,o,g=>if o<eE a then(setD a o g).map λh e=>A.mkp a b (h (A.fst a b e)) (A.snd a b e)else(setD b (o-eE a) g).map λh e=>A.mkp a b (A.fst a b e) (h (A.snd a b e))
 |.nat,_,_=>none
 |.int k,0,g=>g (.int k)
 |.bool,0,g=>g .bool
 |.str,0,g=>g .str
 |.row o t,0,g=>g (.row o t)
 |.nilr o,0,g=>g (.nilr o)
 |_,_+1,_=>none
def asF(v:XV D)(u:CT):Option (D u->D u):=
 match v with
 |.d t x=>(asT A t u x).map λy _=>y
 |_=>none
def setDs(t:CT):Nat->List (XV D)->Option (D t->D t)
 |_,[]=>none
 |o,[v]=>setD A t o (asF A v)
 |o,v::w::vs=>match setD A t o (asF A v),setDs t (o+1) (w::vs)with|some f,some g=>some λe=>g (f e)|_,_=>none
def setH:List (D .nat×Nat×Nat)->XV D->(u:CT)->Option (D u->D u)
 | [],v,u=>asF A v u
 |(i,sz,o)::hs,v,.row true t=>if eE t=sz then(setD A t o (setH hs v)).map λf xs=>A.upd t xs i f else none
 |_::_,_,_=>none
def setX:XV D->List (D .nat×Nat×Nat)->XV D->Option (XV D)
 |_,[],v=>some v
 |.d u x,h::hs,v=>(setH A (h::hs) v u).map λf=>.d u (f x)
 |_,_::_,_=>none
def setHs:List (D .nat×Nat×Nat)->List (XV D)->(u:CT)->Option (D u->D u)
 | [(i,sz,o)],vs,.row true t=>if eE t=sz then(setDs A t o vs).map λf xs=>A.upd t xs i f else none
 |(i,sz,o)::h::hs,vs,.row true t=>if eE t=sz then(setD A t o (setHs (h::hs) vs)).map λf xs=>A.upd t xs i f else none
 |_,_,_=>none
def setXs:XV D->List (D .nat×Nat×Nat)->List (XV D)->Option (XV D)
 |.d u x,hs,vs=>(setHs A hs vs u).map λf=>.d u (f x)
 |_,_,_=>none
def immX:XV D->Option (XV D)
 |.d (.int k) x=>some (.d (.int k) x)
 |.d .bool x=>some (.d .bool x)
 |.d .str x=>some (.d .str x)
 |.d (.row false t) x=>some (.d (.row false t) x)
 |.d (.nilr _) _=>some (.d (.nilr false) (A.nilv false))
 |.d (.row true t) x=>if h:eU (.row true t) (.row false (ku t))=true then some (.d (.row false (ku t)) (A.recast _ _ h x))else none
 |.k x=>some (.k x)
 |_=>none
def immXL:List (XV D)->Option (List (XV D))
 | []=>some []
 |x::r=>match immX A x,immXL r with|some y,some l=>some (y::l)|_,_=>none
def shareX:XV D->List Nat->Option (XV D)
 |.d t x,os=>match shT t 0 os with|some t'=>if h:eU t t'=true then some (.d t' (A.recast t t' h x))else none|none=>none
 |_,_=>none
def getPl(p:XP D):XM D M X (XV D):=bind (rdC p.root p.off) λtv=>getM A tv p.hops ret
def hdPl(p:XP D):XM D M X (XV D):=match p.hops with
 | []=>rdK p.root p.off
 |_::_=>getPl A p
def hopOs(hs:List (D .nat×Nat×Nat)):List Nat:=hs.map λh=>h.2.2
def F1:CT->Bool
 |.int _=>false
 |.bool=>false
 |.str=>false
 |_=>true
def oneT:CT->Bool
 |.nat=>false
 |.pair _ _=>false
 |_=>true
def isOwT:CT->Bool
 |.row o _=>o
 |.nilr o=>o
 |_=>false
def isOwX:XV D->Bool
 |.d t _=>isOwT t
 |.gap _ _ _ _=>true
 |_=>false
def isHdrX:XV D->Bool
 |.d t _=>F1 t
 |.k _=>false
 |_=>true
def winX(lo n:D .nat):XV D->Option (XV D)
 |.d (.row true t) xs=>match immX A (.d (.row true t) xs)with|some (.d (.row false t') ys)=>some (.d (.row false t') (A.win false t' ys lo n))|_=>none
 |.d (.nilr true) _=>some (.d (.nilr false) (A.nilv false))
 |_=>none
def gapX:XV D->List (D .nat×Nat×Nat)->Option (XV D)
 |.d (.row true t) xs,[(i,_,o)]=>some (.gap t xs i o)
 |_,_=>none
def take1(mv:Bool):XV D->XM D M X (XV D)
 |.d (.row true _) _=>fail A
 |.d .nat _=>fail A
 |.d (.pair _ _) _=>fail A
 |.d (.nilr o) x=>if mv then ret (.d (.nilr o) x)else ret (.d (.nilr false) (A.nilv false))
 |.d t x=>ret (.d t x)
 |.k x=>ret (.k x)
 |.pk p vs=>bind (chk A p (p.hops.length+1) vs) λ_=>bind (rdC p.root p.off) λtv=>getM A tv p.hops λv=>
  if isOwX v then
   if mv then(if XP.bare p then(bind (wrC A p.root p.off .dead) λ_=>bind (bump (p.root,p.off,p.hops.length+1)) λ_=>ret v)else bind (optM A (gapX tv p.hops)) λYl=>bind (wrI A p.root p.off Yl) λ_=>bind (bump (p.root,p.off,p.hops.length+1)) λ_=>ret v)
   else bind (optM A (shareX A tv (hopOs p.hops))) λYl=>bind (optM A (immX A v)) λv'=>bind (if XP.bare p then wrC A p.root p.off Yl else wrI A p.root p.off Yl) λ_=>bind (bump (p.root,p.off,p.hops.length+1)) λ_=>ret v'
  else fail A
 |.pw p vs _ lo n=>bind (chk A p (p.hops.length+1) vs) λ_=>bind (rdC p.root p.off) λtv=>getM A tv p.hops λv=>
  bind (optM A (shareX A tv (hopOs p.hops))) λYl=>bind (optM A (winX A lo n v)) λv'=>bind (wrC A p.root p.off Yl) λ_=>bind (bump (p.root,p.off,p.hops.length+1)) λ_=>ret v'
 |_=>fail A
def takeL(mv:Bool):List (XV D)->XM D M X (List (XV D))
 | []=>ret []
 |t::r=>bind (take1 A mv t) λt'=>bind (takeL mv r) λr'=>ret (t'::r')
def cellsX:XV D->List (XV D)
 |.agg l=>l
 |t=>[t]
def takeV(mv:Bool)(t:XV D):XM D M X (List (XV D)×Bool):=
 match t with
 |.agg l=>bind (takeL A mv l) λl'=>ret (l',true)
 |t=>bind (take1 A mv t) λt'=>ret ([t'],false)
def putB(r:Nat):Nat->List (XV D)->XM D M X Unit
 |_,[]=>ret ()
 |o,t::l=>bind (rdC r o) λold=>bind (wrC A r o t) λ_=>bind (if isHdrX old||isHdrX t then bump (r,o,1)else ret ()) λ_=>putB r (o+1) l
def bumps(q:Key):Nat->XM D M X Unit
 |0=>ret ()
 |n+1=>bind (bump q) λ_=>bumps q n
def hdrs:List (XV D)->List (XV D)->Nat
 |a::r,b::s=>(if isHdrX a||isHdrX b then 1 else 0)+hdrs r s
 |_,_=>0
def putEl(r off:Nat)(i:D .nat)(sz o:Nat)(l:List (XV D)):XV D->XM D M X Unit
 |.d (.row true t) xs=>if eE t=sz/\o+l.length<=sz/\0<l.length then atM A true t xs i λe=>bind (optM A (setDs A t o l)) λf=>bind (wrI A r off (.d (.row true t) (A.upd t xs i f))) λ_=>bumps (r,off,2) (hdrs ((splitX A t e).drop o) l)else fail A
 |.gap t xs i' o'=>if eE t=sz/\o=o'/\o<sz/\l.length=1 then atM A true t xs i λ_=>brM A (A.eqN i i') (bind (optM A (setDs A t o l)) λf=>bind (wrI A r off (.d (.row true t) (A.upd t xs i f))) λ_=>bump (r,off,2))else fail A
 |_=>fail A
def putL(p:XP D)(l:List (XV D)):XM D M X Unit:=
 match p.hops with
 | []=>putB A p.root p.off l
 | [(i,sz,o)]=>bind (rdC p.root p.off) (putEl A p.root p.off i sz o l)
 |hs=>bind (rdC p.root p.off) λtv=>elemM A tv hs λt e=>
  if lastO hs+l.length<=eE t/\0<l.length/\(((splitX A t e).drop (lastO hs)).take l.length).all (λv=>!isHdrX v)=true/\l.all (λv=>!isHdrX v)=true then bind (optM A (setXs A tv hs l)) λYl=>wrI A p.root p.off Yl else fail A
def peek1(p:XP D):XV D->XM D M X (XV D)
 |.k x=>ret (.k x)
 |.d t x=>if isOwT t then bind (rdVs (jq p.root p.off (p.hops.length+1))) λvs=>ret (.pk p vs)else if oneT t then ret (.d t x)else fail A
 |_=>fail A
def peekP(p:XP D):XM D M X (XV D):=match p.hops with
 | []=>bind (rdK p.root p.off) λt=>if isOwX t then bind (rdVs (jq p.root p.off 1)) λvs=>ret (.pk p vs)else bind (getPl A p) (peek1 A p)
 |_::_=>bind (getPl A p) (peek1 A p)
def peekB(r:Nat):Nat->Nat->XM D M X (List (XV D))
 |_,0=>ret []
 |o,n+1=>bind (rdC r o) λt=>bind (peek1 A ⟨r,o,[]⟩ t) λt'=>bind (peekB r (o+1) n) λl=>ret (t'::l)
def peekCs(p:XP D):List (XV D)->XM D M X (List (XV D))
 | []=>ret []
 |t::r=>bind (peek1 A p t) λt'=>bind (peekCs (addP p 1) r) λl=>ret (t'::l)
def peekL(p:XP D)(n:Nat):XM D M X (List (XV D)):=
 match p.hops with
 | []=>peekB A p.root p.off n
 |_::_=>bind (rdC p.root p.off) λtv=>elemM A tv p.hops λt e=>if lastO p.hops+n<=eE t/\0<n then peekCs A p (((splitX A t e).drop (lastO p.hops)).take n)else fail A
def nameL(r:Nat):Nat->List (XV D)->XM D M X (List (XV D))
 |_,[]=>ret []
 |i,t::l=>if isOwX t then bind (rdV (r,0,0)) λg=>bind (rdV (r,i,1)) λh=>bind (nameL r (i+1) l) λl'=>ret (.pk ⟨r,i,[]⟩ [g,h]::l')else bind (nameL r (i+1) l) λl'=>ret (t::l')
def names(d:Nat)(l:List (XV D)):XM D M X (List (XV D)):=if l.any isOwX then bind (new A (2*d+3) l) λ_=>nameL (2*d+3) 0 l else ret l
def shapedX(agg:Bool)(l:List (XV D)):XV D:=if agg then .agg l else l.headD .dead
def inst(d:Nat)(agg:Bool)(l:List (XV D)):XM D M X Unit:=bind (names A d l) λl'=>wrT A d (shapedX agg l')
def natOf:XV D->XM D M X (D .nat)
 |.d (.int k) n=>natM A k n ret
 |_=>fail A
def lenOf:XV D->XM D M X (D .nat)
 |.d (.row false t) xs=>ret (A.len false t xs)
 |.d (.nilr _) _=>ret (A.litN 0)
 |.pk p vs=>bind (chk A p (p.hops.length+1) vs) λ_=>bind (hdPl A p) λt=>match t with
  |.d (.row true t) xs=>ret (A.len true t xs)
  |.d (.nilr true) _=>ret (A.litN 0)
  |_=>fail A
 |.pw p vs _ _ n=>bind (chk A p (p.hops.length+1) vs) λ_=>ret n
 |_=>fail A
def optNat:Option Opd->D .nat->XM D M X (D .nat)
 |some o,_=>bind (opd A o) (natOf A)
 |none,d=>ret d
def takeParts(mv:Bool):List (Nat×Nat×Opd)->XM D M X (List (XV D))
 | []=>ret []
 |(_,n,x)::r=>bind (opd A x) λt=>bind (takeL A mv (cellsX t)) λl=>if l.length=n then bind (takeParts mv r) λl'=>ret (l++l')else fail A
def placeX(cells:List (XV D))(off:Nat):List (XV D)->List (XV D)
 | []=>cells
 |t::r=>placeX (cells.set off t) (off+1) r
def assembleX(cells:List (XV D)):List (Nat×Nat×Opd)->List (XV D)->List (XV D)
 | [],_=>cells
 |(off,n,_)::r,l=>assembleX (placeX cells off (l.take n)) r (l.drop n)
def chunksX(sz:Nat):Nat->List (XV D)->List (List (XV D))
 |0,_=>[]
 |n+1,l=>l.take sz::chunksX sz n (l.drop sz)
def okCellX:XV D->Bool
 |.d (.row true _) _=>false
 |.d .nat _=>false
 |.d (.pair _ _) _=>false
 |.d _ _=>true
 |.k _=>true
 |_=>false
def FI:List (XV D)->Option CT
 | []=>none
 | [.d t _]=>some t
 |.d t _::r=>(FI r).map (.pair t)
 |_::_=>none
def ve:CT->CT->CT
 |.nilr _,.row o t=>.row o t
 |.row o t,.row _ t'=>.row o (ve t t')
 |.pair a b,.pair a' b'=>.pair (ve a a') (ve b b')
 |t,_=>t
def joinC(t:CT):List (XV D)->Option (D t×List (XV D))
 |.d u x::r=>(asT A u t x).map λy=>(y,r)
 |_=>none
def joinX:(t:CT)->List (XV D)->Option (D t×List (XV D))
 |.pair a b,l=>match joinX a l with
  |some (x,r)=>match joinX b r with
   |some (y,r')=>some (A.mkp a b x y,r')
   |none=>none
  |none=>none
 |.nat,_=>none
 |.int k,l=>joinC A (.int k) l
 |.bool,l=>joinC A .bool l
 |.str,l=>joinC A .str l
 |.row o t,l=>joinC A (.row o t) l
 |.nilr o,l=>joinC A (.nilr o) l
def joinOne(t:CT)(l:List (XV D)):Option (D t):=match joinX A t l with|some (x,[])=>some x|_=>none
def joinAll(t:CT):List (List (XV D))->Option (List (D t))
 | []=>some []
 |l::r=>match joinOne A t l,joinAll t r with|some x,some xs=>some (x::xs)|_,_=>none
def EK:List (List (XV D))->Option CT
 | []=>none
 | [l]=>FI l
 |l::r=>match FI l,EK r with|some t,some t'=>some (ve t t')|_,_=>none
def vO:CT->Bool
 |.nilr _=>true
 |.row _ t=>vO t
 |.pair a b=>vO a||vO b
 |_=>false
def vf:CT->CT->CT
 |.nilr o,.row _ t=>.row o t
 |.row o t,.row _ t'=>.row o (vf t t')
 |.pair a b,.pair a' b'=>.pair (vf a a') (vf b b')
 |t,_=>t
def resT(Zt:Option CT)(t:CT):CT:=if vO t then vf t (Zt.getD t)else t
def rowOf(Zt:Option CT)(ls:List (List (XV D))):Option (XV D):=
 match ls with
 | []=>some (.d (.nilr true) (A.nilv true))
 |_=>match EK ls with
  |some t=>(joinAll A (resT Zt t) ls).map λes=>.d (.row true (resT Zt t)) (A.rowl true (resT Zt t) es)
  |none=>none
def repOf(Zt:Option CT)(n:D .nat)(l:List (XV D)):Option (XV D):=
 match FI l with
 |some t=>(joinOne A (resT Zt t) l).map λe=>.d (.row true (resT Zt t)) (A.rep (resT Zt t) n e)
 |none=>none
def contentOf:XV D->XM D M X (XV D)
 |.d (.row false t) xs=>ret (.d (.row false t) xs)
 |.d (.nilr _) _=>ret (.d (.nilr false) (A.nilv false))
 |.pk p vs=>bind (chk A p (p.hops.length+1) vs) λ_=>bind (getPl A p) λt=>match t with|.d (.row true t) xs=>ret (.d (.row true t) xs)|.d (.nilr true) _=>ret (.d (.nilr false) (A.nilv false))|_=>fail A
 |.pw p vs _ lo n=>bind (chk A p (p.hops.length+1) vs) λ_=>bind (getPl A p) λt=>match t with|.d (.row true t) xs=>ret (.d (.row true t) (A.win true t xs lo n))|_=>fail A
 |_=>fail A
def flat1:CT->Bool
 |.int _=>true
 |.bool=>true
 |.str=>true
 |_=>false
def flatT:CT->Bool
 |.int _=>true
 |.bool=>true
 |.str=>true
 |.pair a b=>flatT a&&flatT b
 |_=>false
def isNameX:XV D->Bool
 |.pk _ _=>true
 |.pw _ _ _ _ _=>true
 |_=>false
def flatRow:XV D->Bool
 |.d (.row _ t) _=>flatT t
 |.d (.nilr _) _=>true
 |_=>false
def cpyX(d sz:Nat)(p:XP D)(lo:D .nat)(n:Option (D .nat))(tv c2:XV D):XM D M X Unit:=getM A tv p.hops λv=>
 match v,c2 with
  |.d (.row true t) xs,.d (.row o t2) ys=>if h:ki t2 t=true/\eE t=sz/\flatT t=true then
   bind (optM A (setX A tv p.hops (.d (.row true t) (A.splice t o xs lo (A.minN (A.len o t2 ys) (n.getD (A.len true t xs))) (lP h.1▸ys))))) λYl=>
    brM A (A.slOk lo (A.addN lo (A.minN (A.len o t2 ys) (n.getD (A.len true t xs)))) (A.len true t xs)) (forkM A (A.ltN (A.litN 0) (A.minN (A.len o t2 ys) (n.getD (A.len true t xs)))) (bind (wrC A p.root p.off Yl) λ_=>wrT A d (.d (.int .i64) (A.natI (A.minN (A.len o t2 ys) (n.getD (A.len true t xs)))))) (wrT A d (.d (.int .i64) (A.natI (A.minN (A.len o t2 ys) (n.getD (A.len true t xs)))))))
   else fail A
  |.d (.row true _) _,.d (.nilr _) _=>if 0<sz then wrT A d (.d (.int .i64) (A.lit .i64 0))else fail A
  |_,_=>fail A
def eqAll:List FK->List (XV D)->List (XV D)->Option (D .bool)
 | [],[],[]=>some (A.litB true)
 |.i::ks,.d (.int k) a::xs,.d (.int k') b::ys=>if h:k'=k then(eqAll ks xs ys).map (A.andB (A.cm .eql k a (h▸b)))else none
 |.b::ks,.d .bool a::xs,.d .bool b::ys=>(eqAll ks xs ys).map (A.andB (A.eqB a b))
 |.s::ks,.d .str a::xs,.d .str b::ys=>(eqAll ks xs ys).map (A.andB (A.eqS a b))
 |_,_,_=>none
def mapM'(f:α->XM D M X β):List α->XM D M X (List β)
 | []=>ret []
 |x::r=>bind (f x) λy=>bind (mapM' f r) λl=>ret (y::l)
def intOf:XV D->XM D M X (XV D)
 |.d (.int k) n=>ret (.d (.int k) n)
 |_=>fail A
def capOf:XV D->XM D M X (XV D)
 |.ptr p vs=>ret (.ptr p vs)
 |.ip cs=>ret (.ip cs)
 |t=>if okCellX t && !isOwX t then ret t else fail A
def mmAll(mx:Bool)(k:IntKind):D (.int k)->List (XV D)->Option (D (.int k))
 |a,[]=>some a
 |a,.d (.int k') b::r=>if h:k'=k then mmAll mx k (A.mm mx k a (h▸b)) r else none
 |_,_=>none
def wr(d:Nat)(t:XV D):XM D M X Unit:=wrT A d t
def binX(d:Nat)(op:BinOp):XV D->XV D->XM D M X Unit
 |.d (.int k) a,.d (.int k') b=>
  match op with
  |.shl=>natM A k' b λn=>wr A d (.d (.int k) (A.sh .shl k a n))
  |.shr=>natM A k' b λn=>wr A d (.d (.int k) (A.sh .shr k a n))
  |.quo=>if h:k'=k then brM A (A.cm .neq k' b (A.lit k' 0)) (wr A d (.d (.int k) (A.ar .quo k a (h▸b))))else fail A
  |.rem=>if h:k'=k then brM A (A.cm .neq k' b (A.lit k' 0)) (wr A d (.d (.int k) (A.ar .rem k a (h▸b))))else fail A
  |.add=>if h:k'=k then wr A d (.d (.int k) (A.ar .add k a (h▸b)))else fail A
  |.sub=>if h:k'=k then wr A d (.d (.int k) (A.ar .sub k a (h▸b)))else fail A
  |.mul=>if h:k'=k then wr A d (.d (.int k) (A.ar .mul k a (h▸b)))else fail A
  |.and=>if h:k'=k then wr A d (.d (.int k) (A.ar .and k a (h▸b)))else fail A
  |.or=>if h:k'=k then wr A d (.d (.int k) (A.ar .or k a (h▸b)))else fail A
  |.xor=>if h:k'=k then wr A d (.d (.int k) (A.ar .xor k a (h▸b)))else fail A
  |.andNot=>if h:k'=k then wr A d (.d (.int k) (A.ar .andNot k a (h▸b)))else fail A
  |op=>if h:k'=k then wr A d (.d .bool (A.cm op k a (h▸b)))else fail A
 |.d .str a,.d .str b=>
  match op with
  |.eql=>wr A d (.d .bool (A.eqT a b))
  |.neq=>wr A d (.d .bool (A.not (A.eqT a b)))
  |_=>fail A
 |_,_=>fail A
def pickX(d:Nat)(tc ta tb:XV D):XM D M X Unit:=match tc,ta,tb with
 |.d .bool c,.d (.int k) x,.d (.int k') y=>if h:k'=k then wr A d (.d (.int k) (A.ite (.int k) c x (h▸y)))else fail A
 |.d .bool c,.d .bool x,.d .bool y=>wr A d (.d .bool (A.ite .bool c x y))
 |.d .bool c,.d .str x,.d .str y=>wr A d (.d .str (A.ite .str c x y))
 |.d .bool c,.d t x,_=>if flat1 t then brM A c (wr A d (.d t x))else fail A
 |.d .bool c,_,.d t x=>if flat1 t then brM A (A.not c) (wr A d (.d t x))else fail A
 |_,_,_=>fail A
def appX(d sz bytes:Nat)(Zt:Option CT)(s x:XV D):XM D M X Unit:=
 match s,x with
 |.d (.row true t) c,.d (.row o t2) c2=>if eE t=sz then bind (optM A (asT A (.row o t2) (.row o t) c2)) λc3=>brM A (A.appOk bytes (A.len true t c) (A.len o t2 c2)) (inst A d false [.d (.row true t) (A.cat t o c c3)])else fail A
 |.d (.row true t) c,.d (.nilr _) _=>if eE t=sz then brM A (A.appOk bytes (A.len true t c) (A.litN 0)) (inst A d false [.d (.row true t) c])else fail A
 |.d (.nilr true) _,.d (.row o t2) c2=>if eE t2=sz then bind (optM A (asT A (.row o t2) (.row o (resT Zt t2)) c2)) λc3=>brM A (A.appOk bytes (A.litN 0) (A.len o t2 c2)) (inst A d false [.d (.row true (resT Zt t2)) (A.cat _ o (A.nil true (resT Zt t2)) c3)])else fail A
 |.d (.nilr true) _,.d (.nilr _) _=>brM A (A.appOk bytes (A.litN 0) (A.litN 0)) (inst A d false [.d (.nilr true) (A.nilv true)])
 |_,_=>fail A
def immCX:XV D->Bool
 |.ip _=>true
 |t=>okCellX t && !isOwX t
def immFX:XV D->Bool
 |.fn _ l=>l.all immCX
 |t=>immCX t
def isNA:XV D->Bool
 |.agg _=>true
 |.pk _ _=>true
 |_=>false
def loadIp(n:Option Nat)(cs:List (XV D)):Option (XV D):=
 match n with
 |none=>match cs with
  |.ip l::_=>some (.ip l)
  |.fn f l::_=>some (.fn f l)
  |t::_=>if okCellX t && !isOwX t then some t else none
  | []=>none
 |some n=>if n<=cs.length&&(cs.take n).all (λt=>okCellX t && !isOwX t)then some (.agg (cs.take n))else none
def ev1(HT:List (Nat×CT))(d:Nat):TOp->XM D M X Unit
 |.mov x=>bind (opd A x) λt=>match t with
  |.d t y=>if isOwT t then(match x with|.c _=>inst A d false [.d t y]|_=>fail A)else wr A d (.d t y)
  |.agg l=>if l.any isOwX then fail A else wr A d (.agg l)
  |.gap _ _ _ _=>fail A
  |t=>wr A d t
 |.asn mv x=>bind (opd A x) λt=>match t with
  |.ptr p vs=>wr A d (.ptr p vs)
  |.ip cs=>wr A d (.ip cs)
  |.fn f cap=>wr A d (.fn f cap)
  |t=>bind (takeV A mv t) λl=>inst A d l.2 l.1
 |.pick c a b=>bind (opd A c) λtc=>bind (opd A a) λta=>bind (opd A b) λtb=>pickX A d tc ta tb
 |.alloc z=>if(z.map (cellX A)).all okCellX then bind (new A (2*d+2) (z.map (cellX A))) λ_=>bind (rdV (2*d+2,0,0)) λg=>wr A d (.ptr ⟨2*d+2,0,[]⟩ [g])else fail A
 |.box n mv x=>bind (opd A x) λt=>bind (takeL A mv (cellsX t)) λl=>if l.length=n then bind (new A (2*d+2) l) λ_=>bind (rdV (2*d+2,0,0)) λg=>wr A d (.ptr ⟨2*d+2,0,[]⟩ [g])else fail A
 |.boxi n x=>bind (opd A x) λt=>if immFX t then(if n=1 then wr A d (.ip [t])else fail A)else if isNA t then bind (takeL A false (cellsX t)) λl=>bind (optM A (immXL A l)) λl'=>if l.length=n then wr A d (.ip l')else fail A else fail A
 |.load n a=>bind (opd A a) λt=>match t with
  |.ptr p vs=>bind (chk A p p.hops.length vs) λ_=>match n with
   |none=>bind (peekP A p) λt'=>wr A d t'
   |some n=>bind (peekL A p n) λl=>wr A d (.agg l)
  |.ip cs=>match loadIp n cs with|some t=>wr A d t|none=>fail A
  |_=>fail A
 |.store n mv a x=>bind (opd A a) λta=>match ta with
  |.ptr p vs=>bind (opd A x) λtx=>bind (takeL A mv (cellsX tx)) λl=>if l.length=n then bind (chk A p p.hops.length vs) λ_=>putL A p l else fail A
  |_=>fail A
 |.nilc x=>bind (opd A x) λt=>match t with
  |.ptr p vs=>bind (chk A p p.hops.length vs) λ_=>wr A d (.ptr p vs)
  |.ip cs=>wr A d (.ip cs)
  |.fn f cap=>wr A d (.fn f cap)
  |_=>fail A
 |.fld off a=>bind (opd A a) λt=>match t with
  |.ptr p vs=>bind (chk A p p.hops.length vs) λ_=>if fitsP p off then wr A d (.ptr (addP p off) vs)else fail A
  |.ip cs=>if off<cs.length then wr A d (.ip (cs.drop off))else fail A
  |_=>fail A
 |.fldv off n x=>bind (opd A x) λt=>match t with
  |.agg l=>match n with
   |none=>if off<l.length then wr A d (l.getD off .dead)else fail A
   |some n=>if off+n<=l.length then wr A d (.agg ((l.drop off).take n))else fail A
  |_=>fail A
 |.idx sz x i=>bind (opd A x) λt=>bind (opd A i) λti=>bind (natOf A ti) λk=>match t with
  |.pk p vs=>bind (chk A p (p.hops.length+1) vs) λ_=>bind (hdPl A p) λt=>match t with
   |.d (.row true t) xs=>if eE t=sz/\0<sz then atM A true t xs k λ_=>wr A d (.ptr (atP p k sz) vs)else fail A
   |.gap t xs _ _=>if eE t=sz/\0<sz then atM A true t xs k λ_=>wr A d (.ptr (atP p k sz) vs)else fail A
   |_=>fail A
  |.pw p vs sz' lo n=>bind (chk A p (p.hops.length+1) vs) λ_=>bind (getPl A p) λt=>match t with
   |.d (.row true t) xs=>if eE t=sz/\0<sz/\sz'=sz then brM A (A.ltN k n) (atM A true t xs (A.addN lo k) λ_=>wr A d (.ptr (atP p (A.addN lo k) sz) vs))else fail A
   |_=>fail A
  |.d (.row false t) xs=>if eE t=sz/\0<sz then atM A false t xs k λe=>wr A d (.ip (splitX A t e))else fail A
  |_=>fail A
 |.ext x i=>bind (opd A x) λt=>match t with
  |.tup l=>if i<l.length then wr A d (l.getD i .dead)else fail A
  |_=>fail A
 |.bin op x y=>bind (opd A x) λa=>bind (opd A y) λb=>binX A d op a b
 |.bnb neg x y=>bind (opd A x) λa=>bind (opd A y) λb=>match a,b with
  |.d .bool a,.d .bool b=>wr A d (.d .bool (if neg then A.not (A.eqB a b)else A.eqB a b))
  |_,_=>fail A
 |.eqa ks neg x y=>bind (opd A x) λa=>bind (opd A y) λb=>match a,b with
  |.agg a,.agg b=>match eqAll A ks a b with|some r=>wr A d (.d .bool (if neg then A.not r else r))|none=>fail A
  |_,_=>fail A
 |.un op x=>bind (opd A x) λa=>match op,a with
  |.not,.d .bool b=>wr A d (.d .bool (A.not b))
  |.neg,.d (.int k) n=>wr A d (.d (.int k) (A.neg k n))
  |_,_=>fail A
 |.conv k x=>bind (opd A x) λa=>match a with|.d (.int k0) n=>wr A d (.d (.int k) (A.cv k0 k n))|_=>fail A
 |.bld z mv parts=>if(z.map (cellX A)).all okCellX then bind (takeParts A mv parts) λl=>bind (names A d l) λl'=>wr A d (.agg (assembleX (z.map (cellX A)) parts l'))else fail A
 |.bsl sz mv len parts=>bind (takeParts A mv (parts.map λp=>(0,sz,p))) λl=>if parts.length=len then bind (optM A (rowOf A (bB HT d) (chunksX sz len l))) λv=>inst A d false [v]else fail A
 |.mks sz z l c=>if(z.map (cellX A)).all okCellX&&z.length==sz then bind (opd A l) λtl=>bind (opd A c) λtc=>bind (natOf A tl) λn=>bind (natOf A tc) λm=>
  brM A (A.mkOk n m sz) (bind (optM A (repOf A (bB HT d) n (z.map (cellX A)))) λv=>inst A d false [v])else fail A
 |.slc sz x lo hi=>bind (opd A x) λt=>bind (lenOf A t) λn=>bind (optNat A lo (A.litN 0)) λl=>bind (optNat A hi n) λh=>brM A (A.slOk l h n) (
  match t with
  |.d (.row false t) xs=>if eE t=sz then wr A d (.d (.row false t) (A.win false t xs l (A.subN h l)))else fail A
  |.d (.nilr false) x=>wr A d (.d (.nilr false) x)
  |.pk p vs=>bind (getPl A p) λt=>match t with|.d (.row true t) _=>if eE t=sz then wr A d (.pw p vs sz l (A.subN h l))else fail A|.d (.nilr true) _=>wr A d (.pw p vs sz l (A.subN h l))|_=>fail A
  |.pw p vs sz' lo' _=>if sz'=sz then wr A d (.pw p vs sz (A.addN lo' l) (A.subN h l))else fail A
  |.d (.nilr true) x=>inst A d false [.d (.nilr true) x]
  |_=>fail A)
 |.app sz bytes mv fl s x=>bind (opd A s) λts=>bind (opd A x) λtx=>
  if fl && !mv&&isNameX tx then bind (contentOf A tx) λc2=>if flatRow c2 then bind (take1 A true ts) λs=>appX A d sz bytes (bB HT d) s c2 else fail A
  else bind (take1 A true ts) λs=>bind (take1 A mv tx) λx=>appX A d sz bytes (bB HT d) s x
 |.apz sz bytes z s x=>if(z.map (cellX A)).all okCellX&&z.length==sz then bind (opd A s) λts=>bind (opd A x) λtx=>bind (natOf A tx) λn=>bind (take1 A true ts) λs=>bind (optM A (repOf A (bB HT d) n (z.map (cellX A)))) λv=>appX A d sz bytes (bB HT d) s v else fail A
 |.len x=>bind (opd A x) λt=>bind (lenOf A t) λn=>wr A d (.d (.int .i64) (A.natI n))
 |.lens x=>bind (opd A x) λt=>match t with
  |.d .str s=>wr A d (.d (.int .i64) (A.strLen s))
  |_=>fail A
 |.ixs x i=>bind (opd A x) λt=>bind (opd A i) λti=>bind (natOf A ti) λk=>match t with
  |.d .str s=>EP A s k λb=>wr A d (.d (.int .u8) b)
  |_=>fail A
 |.mm mx xs=>bind (mapM' (λx=>bind (opd A x) (intOf A)) xs) λl=>match l with
  |.d (.int k) a::r=>match mmAll A mx k a r with|some m=>wr A d (.d (.int k) m)|none=>fail A
  |_=>fail A
 |.mkf f caps=>bind (mapM' (λx=>bind (opd A x) (capOf A)) caps) λl=>wr A d (.fn f l)
 |.idxa n sz x i=>bind (opd A x) λt=>bind (opd A i) λti=>bind (natOf A ti) λk=>match t with
  |.ptr p vs=>bind (chk A p p.hops.length vs) λ_=>caseM A k n (λj=>if fitsP p (j*sz)then wr A d (.ptr (addP p (j*sz)) vs)else fail A) 0
  |_=>fail A
 |.s2b x=>bind (opd A x) λt=>match t with
  |.d .str s=>brM A (A.strOk s) (wr A d (.d (.row false (.int .u8)) (A.strB s)))
  |_=>fail A
 |.b2s x=>bind (opd A x) λt=>bind (take1 A false t) λt'=>match t' with
  |.d (.row false (.int .u8)) c=>Ga A c λs=>wr A d (.d .str s)
  |_=>fail A
 |.cpy sz x y=>bind (opd A x) λt=>bind (opd A y) λu=>bind (contentOf A u) λc2=>match t with
  |.pk p vs=>bind (chk A p (p.hops.length+1) vs) λ_=>bind (rdC p.root p.off) λtv=>cpyX A d sz p (A.litN 0) none tv c2
  |.pw p vs sz' lo n=>if sz'=sz then bind (chk A p (p.hops.length+1) vs) λ_=>bind (rdC p.root p.off) λtv=>cpyX A d sz p lo (some n) tv c2 else fail A
  |_=>fail A
 |.emp x=>bind (opd A x) λt=>bind (lenOf A t) λ_=>inst A d false [.d (.nilr true) (A.nilv true)]
 |.call _ _ _=>fail A
end
end X
structure XGP (D:CT->Type) where
 i:Nat
 p:XP D
 vs:List Nat
 cells:List (XV D)
namespace X
section
variable {D:CT->Type} {M:Type->Type} {X:Type} (A:Alg D M) {α β:Type}
def isNmX:XV D->Bool
 |.pk _ _=>true
 |.d (.nilr true) _=>true
 |_=>false
def argV0:XV D->XM D M X (XV D)
 |.ip cs=>ret (.ip cs)
 |.fn f cap=>ret (.fn f cap)
 |.ptr p vs=>ret (.ptr p vs)
 |t=>bind (takeV A false t) λl=>bind (optM A (immXL A l.1)) λl'=>ret (shapedX l.2 l')
def qv:XV D->XM D M X (XV D)
 |.d (.nilr true) y=>bind (names A 1000000 [.d (.nilr true) y]) λl=>ret (l.headD .dead)
 |t=>ret t
def argV(x:Option Nat×Opd):XM D M X (XV D):=bind (opd A x.2) λt=>if(x.1==some 0&&isNmX t)=true then qv A t else argV0 A t
def argVs:List (Option Nat×Opd)->XM D M X (List (XV D))
 | []=>ret []
 |x::r=>bind (argV A x) λt=>bind (argVs r) λl=>ret (t::l)
def takeOwns:Nat->List (Option Nat×XV D)->XM D M X (List (Nat×XV D))
 |_,[]=>ret []
 |i,(some 0,.pk p vs)::r=>bind (take1 A true (.pk p vs)) λt=>if isOwX t=true then bind (takeOwns (i+1) r) λq=>ret ((i,t)::q)else fail A
 |i,_::r=>takeOwns (i+1) r
def grabB(r:Nat):Nat->Nat->XM D M X (List (XV D))
 |_,0=>ret []
 |o,n+1=>bind (rdC r o) λt=>bind (peek1 A ⟨r,o,[]⟩ t) λt'=>bind (take1 A true t') λt2=>bind (grabB r (o+1) n) λl=>ret (t2::l)
def Gb(p:XP D):XP D:=⟨p.root,p.off,[]⟩
def baseXN(p:XP D)(n:Nat):Nat:=match p.hops with
 | []=>n
 |_::_=>1
def rooted(p:XP D):XM D M X Unit:=match p.hops with
 | []=>ret ()
 |_::_=>bind (rdT ((p.root-2)/2)) λt=>match t with
  |.ptr q ws=>if q.root==p.root&&q.hops.isEmpty then chk A q 0 ws else fail A
  |_=>fail A
def isArgX:XV D->Bool
 |.ip _=>true
 |.d (.nilr true) _=>true
 |.fn _ l=>l.all immCX
 |.agg l=>l.all λt=>okCellX t && !isOwX t
 |t=>okCellX t && !isOwX t
def grabs:Nat->List (Option Nat×XV D)->XM D M X (List (XGP D))
 |_,[]=>ret []
 |i,(some n,.ptr p vs)::r=>bind (chk A p p.hops.length vs) λ_=>bind (rooted A p) λ_=>bind (grabB A p.root p.off (baseXN p n)) λl=>bind (grabs (i+1) r) λq=>ret (⟨i,Gb p,vs.take 1,l⟩::q)
 |i,(some 0,.pk _ _)::r=>grabs (i+1) r
 |i,(_,t)::r=>if isArgX t then grabs (i+1) r else fail A
def touch(p:XP D):XM D M X Unit:=bind (rdC p.root p.off) λtv=>wrC A p.root p.off tv
def rechk:List (XGP D)->XM D M X Unit
 | []=>ret ()
 |g::r=>bind (chk A g.p g.p.hops.length g.vs) λ_=>bind (touch A g.p) λ_=>rechk r
def argT(i:Nat):XV D->XV D
 |.ptr p _=>.ptr ⟨2*i+2,0,p.hops⟩ (List.replicate (p.hops.length+1) 0)
 |.pk _ _=>.pk ⟨2*i+3,0,[]⟩ [0,0]
 |t=>t
def argTs:Nat->List (XV D)->List (XV D)
 |_,[]=>[]
 |i,t::r=>argT i t::argTs (i+1) r
def mkSt(vals:List (XV D))(pts:List (Nat×List (XV D))):XS D:=⟨cS 0 vals,pts,[],([],[])⟩
def isDeadX:XV D->Bool
 |.dead=>true
 |.d t _=>!oneT t
 |_=>false
def putBack:List (XGP D×List (XV D))->XM D M X Unit
 | []=>ret ()
 |(g,l)::r=>bind (putBack r) λ_=>if l.length=g.cells.length/\0<l.length/\(l.all λt=>!isDeadX t)=true then putL A g.p l else fail A
def shapeRX:List RSh->List (XV D)->List (XV D)
 | [],_=>[]
 |.one::r,l=>l.headD .dead::shapeRX r l.tail
 |.agg n::r,l=>.agg (l.take n)::shapeRX r (l.drop n)
 |.ptr::r,l=>.dead::shapeRX r l
def shapeTX(sh:List RSh)(l:List (XV D)):XV D:=
 match shapeRX sh l with
 | [x]=>x
 |l=>.tup l
def landR(dst:Option Nat)(cells:List (XV D))(sh:List RSh):XM D M X Unit:=
 match dst with
 |some d=>bind (names A d cells) λl=>wr A d (shapeTX sh l)
 |none=>ret ()
def convP:(s:List (Nat×List Sh))->List (Nat×List (XV D))->(r:List CT)->HL D r->Option (HL D (lvP s r))
 | [],[],_,h=>some h
 |s::ss,x::xs,r,h=>if s.1=x.1 then(convP ss xs r h).bind λh1=>nF A s.2 x.2 (lvP ss r) h1 else none
 |_,_,_,_=>none
def convT:(s:List (Nat×Sh))->List (Nat×XV D)->(r:List CT)->HL D r->Option (HL D (lvT s r))
 | [],[],_,h=>some h
 |s::ss,x::xs,r,h=>if s.1=x.1 then(convT ss xs r h).bind λh1=>conv A s.2 x.2 (lvT ss r) h1 else none
 |_,_,_,_=>none
def sameVr:List (Key×Nat)->List (Key×Nat)->Bool
 | [],[]=>true
 |(q,n)::r,(q',n')::r'=>q==q'&&n==n'&&sameVr r r'
 |_,_=>false
def convS(s:Shs)(σ:XS D)(u:HL D []):Option (HL D (lvS s)):=if sameVr s.vr σ.vr then(convP A s.ce σ.ce [] u).bind λh=>convT A s.tm σ.tm _ h else none
def convIn(c:Ctr)(vals:List (XV D))(pts:List (Nat×List (XV D)))(u:HL D []):Option (HL D (lvL c.ins (lvP c.pts []))):=(convP A c.pts pts [] u).bind λh=>nF A c.ins vals _ h
def sameSh:List RSh->List RSh->Bool
 | [],[]=>true
 |.one::r,.one::r'=>sameSh r r'
 |.agg n::r,.agg n'::r'=>n==n'&&sameSh r r'
 |.ptr::r,.ptr::r'=>sameSh r r'
 |_,_=>false
def convO(o:XO)(cells:List (XV D))(sh:List RSh)(pts:List (Nat×List (XV D)))(u:HL D []):Option (HL D (lvO o)):=if sameSh o.sh sh then(convP A o.pts pts [] u).bind λh=>nF A o.cells cells _ h else none
def injO(cells:List (XV D))(sh:List RSh)(pts:List (Nat×List (XV D)))(u:HL D []):(outs:List XO)->Option ((i:Nat)×HL D (q9 (outs.map lvO) i))
 | []=>none
 |o::r=>match convO A o cells sh pts u with
  |some h=>some ⟨0,h⟩
  |none=>match injO cells sh pts u r with|some x=>some ⟨x.1+1,x.2⟩|none=>none
def exEq:eX->eX->Bool
 |.normal,.normal=>true
 |.exit i,.exit j=>i==j
 |.ret,.ret=>true
 |_,_=>false
def injE(e:eX)(σ:XS D)(u:HL D []):(outs:List (eX×Shs))->Option ((i:Nat)×HL D (q9 (outs.map λx=>lvS x.2) i))
 | []=>none
 |o::r=>match(if exEq o.1 e then convS A o.2 σ u else none)with
  |some h=>some ⟨0,h⟩
  |none=>match injE e σ u r with|some x=>some ⟨x.1+1,x.2⟩|none=>none
def onOut(o:Option α)(K:α->M X):M X:=match o with
 |some x=>K x
 |none=>A.fail
def isPX(sh:List RSh)(cells:List (XV D)):Bool:=match sh,cells with
 |.ptr::_,.ptr _ _::_=>true
 |_,_=>false
def shapePX(t:XV D):List (XV D)->XV D
 | []=>t
 |y::l=>.tup (t::y::l)
def landP(dst:Option Nat)(q:List (XGP D))(cells:List (XV D)):XM D M X Unit:=
 match dst with
 |none=>ret ()
 |some d=>match cells,q with
  |.ptr pl _::l,[g]=>if pl.root==2*g.i+2&&g.p.hops.isEmpty then bind (rdVs (jq g.p.root (g.p.off+pl.off) pl.hops.length)) λvs=>wr A d (shapePX (.ptr ⟨g.p.root,g.p.off+pl.off,pl.hops⟩ vs) l)else fail A
  |_,_=>fail A
def afterC(dst:Option Nat)(q:List (XGP D))(ow:List (Nat×XV D))(x:List (XV D)×List RSh×List (Nat×List (XV D))):XM D M X Unit:=
 if x.2.2.map (·.1)=q.map (λg=>2*g.i+2)++ow.map (λy=>2*y.1+3)/\(isPX x.2.1 x.1||jk x.2.1 x.1.length)=true then bind (putBack A (q.zip (x.2.2.map (·.2)))) λ_=>if isPX x.2.1 x.1 then landP A dst q x.1 else landR A dst x.1 x.2.1 else fail A
def callTB(dst:Option Nat)(f:FuncId)(vals:List (XV D))(q:List (XGP D))(ow:List (Nat×XV D))(u:HL D []):List Ctr->XM D M X Unit
 | []=>fail A
 |c::r=>match(if c.f=f then convIn A c vals (q.map (λg=>(2*g.i+2,g.cells))++ow.map λy=>(2*y.1+3,[y.2])) u else none)with
  |some h=>fun σ k=>A.call c.id (lvL c.ins (lvP c.pts [])) (c.outs.map lvO) c.g h λi ho=>onOut A (ga c.outs i ho) λx=>afterC A dst q ow x σ k
  |none=>callTB dst f vals q ow u r
def callV(TB:List Ctr)(u:HL D [])(dst:Option Nat)(f:FuncId)(ns:List (Option Nat))(vals:List (XV D)):XM D M X Unit:=
 bind (takeOwns A 0 (ns.zip vals)) λow=>bind (grabs A 0 (ns.zip vals)) λq=>bind (rechk A q) λ_=>
  if gQ (q.map (·.p.root))&&q.all (λg=>decide (0<g.cells.length))then callTB A dst f (argTs 0 vals) q ow u TB else fail A
def see1:XV D->XM D M X (XV D)
 |.d (.row true _) _=>fail A
 |.d .nat _=>fail A
 |.d (.pair _ _) _=>fail A
 |.d (.nilr _) _=>ret (.d (.nilr false) (A.nilv false))
 |.d t x=>ret (.d t x)
 |.k x=>ret (.k x)
 |.pk p vs=>bind (chk A p (p.hops.length+1) vs) λ_=>bind (rdC p.root p.off) λtv=>getM A tv p.hops λv=>if isOwX v then optM A (immX A v)else fail A
 |_=>fail A
def seeL:List (XV D)->XM D M X (List (XV D))
 | []=>ret []
 |t::r=>bind (see1 A t) λt'=>bind (seeL r) λl=>ret (t'::l)
def seeA:XV D->XM D M X (XV D)
 |.agg l=>bind (seeL A l) λl'=>ret (.agg l')
 |.ip cs=>ret (.ip cs)
 |.fn f cap=>if cap.all immCX then ret (.fn f cap)else fail A
 |t=>see1 A t
def seeAs:List Opd->XM D M X (List (XV D))
 | []=>ret []
 |x::r=>bind (opd A x) λt=>bind (seeA A t) λt'=>bind (seeAs r) λl=>ret (t'::l)
def flatX:XV D->Bool
 |.d (.int _) _=>true
 |.d .bool _=>true
 |.d .str _=>true
 |.k x=>dF x
 |_=>false
def afterB(dst:Option Nat)(x:List (XV D)×List RSh×List (Nat×List (XV D))):XM D M X Unit:=
 if x.2.2.length=0/\x.1.all flatX=true/\jk x.2.1 x.1.length=true then(match dst with|some d=>wr A d (shapeTX x.2.1 x.1)|none=>ret ())else fail A
def callB(dst:Option Nat)(f:FuncId)(vals:List (XV D))(u:HL D []):List Ctr->XM D M X Unit
 | []=>fail A
 |c::r=>match(if c.f=f then convIn A c vals [] u else none)with
  |some h=>fun σ k=>A.call c.id (lvL c.ins (lvP c.pts [])) (c.outs.map lvO) c.g h λi ho=>onOut A (ga c.outs i ho) λx=>afterB A dst x σ k
  |none=>callB dst f vals u r
def bxX(vals:List (XV D)):BxC->XV D
 |.arg i=>vals.getD i .dead
 |.val x=>cellX A x
def evBox(dst:Option Nat)(tm:List BxC)(vals:List (XV D)):XM D M X Unit:=
 match dst with
 |some d=>bind (takeL A false (tm.map (bxX A vals))) λl=>bind (new A (2*d+2) l) λ_=>bind (rdV (2*d+2,0,0)) λg=>wr A d (.ptr ⟨2*d+2,0,[]⟩ [g])
 |none=>fail A
def boxOk:BxC->Bool
 |.arg _=>true
 |.val x=>match x with|.slice none 0 0=>false|x=>dF x
def evCall(E:Env)(TB:List Ctr)(u:HL D [])(dst:Option Nat):TOp->XM D M X Unit
 |.call k (.f f) args=>
  if k then bind (argVs A args) λvals=>match E.box f with
   |some x=>if vals.length=x.1/\x.2.all boxOk=true then evBox A dst x.2 vals else fail A
   |none=>callV A TB u dst f (args.map (·.1)) vals
  else bind (seeAs A (args.map (·.2))) λvals=>callB A dst f vals u TB
 |.call _ (.t i) args=>bind (rdT i) λt=>match t with
  |.fn f caps=>bind (argVs A args) λvals=>callV A TB u dst f (args.map (·.1)++Ce E f args.length caps.length) (vals++caps)
  |_=>fail A
 |_=>fail A
structure Cfg where
 E:Env
 TB:List Ctr
 HT:List (Nat×CT)
 HL:List tM
def evop(C:Cfg)(u:HL D [])(dst:Option Nat)(op:TOp):XM D M X Unit:=
 match op with
 |.call k f args=>evCall A C.E C.TB u dst (.call k f args)
 |.store n mv a x=>match dst with|none=>ev1 A C.HT 0 (.store n mv a x)|some _=>fail A
 |op=>match dst with|some d=>ev1 A C.HT d op|none=>fail A
def setNo(dst:Option Nat):XM D M X Unit:=match dst with|some d=>wrT A d (.tup [])|none=>ret ()
def known(j:Nat)(b:Bool)(σ:XS D):XS D:=⟨cF σ.tm j (.d .bool (A.litB b)),σ.ce,σ.vr,σ.lg⟩
def knownO(c:Opd)(b:Bool)(σ:XS D):XS D:=match c with|.t j=>known A j b σ |_=>σ
def condX(m m':M X):XV D->M X
 |.d .bool x=>A.br x m m'
 |_=>A.fail
def guardX(j:Nat)(want:Bool)(m m':XM D M X Unit):XV D->XM D M X Unit
 |.d .bool b=>fun σ k=>A.br b ((if want then m else m') (known A j true σ) k) ((if want then m' else m) (known A j false σ) k)
 |.tup []=>m'
 |_=>fail A
def spOp(C:Cfg)(u:HL D [])(o:dS):XM D M X Unit:=
 match o.guard with
 |none=>evop A C u o.dst o.op
 |some (j,want)=>bind (rdT j) (guardX A j want (evop A C u o.dst o.op) (setNo A o.dst))
def spOps(C:Cfg)(u:HL D []):List dS->XM D M X Unit
 | []=>ret ()
 |o::r=>bind (spOp A C u o) λ_=>spOps C u r
def spFL(C:Cfg)(u:HL D [])(ops:List dS):List Nat->XM D M X (List (Nat×jY))
 | []=>ret []
 |i::r=>fun σ k=>spOp A C u (ops.getD i tN) ⟨σ.tm,σ.ce,σ.vr,([],[])⟩ λ_ σ1=>spFL C u ops r σ1 λfs σ2=>k ((i,σ1.lg)::fs) σ2
def renorm0(L:List Nat)(σ:XS D):XV D->XV D
 |.ptr p vs=>if L.contains p.root&&vs==eH (kH σ.vr) p.root p.off p.hops.length then .ptr p (eH (λ_=>0) p.root p.off p.hops.length)else .dead
 |.pk p vs=>if L.contains p.root&&vs==eH (kH σ.vr) p.root p.off (p.hops.length+1)then .pk p (eH (λ_=>0) p.root p.off (p.hops.length+1))else .dead
 |.pw p vs sz lo n=>if L.contains p.root&&vs==eH (kH σ.vr) p.root p.off (p.hops.length+1)then .pw p (eH (λ_=>0) p.root p.off (p.hops.length+1)) sz lo n else .dead
 |.k x=>.k x
 |.ip cs=>.ip cs
 |.d (.row true _) _=>.dead
 |.d t x=>.d t x
 |.tup []=>.tup []
 |_=>.dead
def renorm(L:List Nat)(σ:XS D):XV D->XV D
 |.agg l=>.agg (l.map (renorm0 L σ))
 |.fn f l=>.fn f (l.map (renorm0 L σ))
 |t=>renorm0 L σ t
def normT(L:List Nat)(σ:XS D):List Nat->List (Nat×XV D)
 | []=>[]
 |i::r=>match bB σ.tm i with|some t=>(i,renorm L σ t)::normT L σ r|none=>normT L σ r
def normC(σ:XS D):List Nat->List (Nat×List (XV D))
 | []=>[]
 |r::l=>match bB σ.ce r with|some c=>(r,c)::normC σ l|none=>normC σ l
def norm(σ:XS D)(pers:Prs):XS D:=⟨normT pers.2 σ pers.1,normC σ pers.2,[],([],[])⟩
def anew(σ:XS D):XS D:=norm σ (σ.tm.map (·.1),σ.ce.map (·.1))
def selH(i:Nat)(σ:XS D)(u:HL D []):List tM->Option ((H:tM)×HL D (lvS H.s))
 | []=>none
 |H::r=>match(if H.i=i then convS A H.s σ u else none)with
  |some h=>some ⟨H,h⟩
  |none=>selH i σ u r
def selJ(i:Nat):List tM->Option tM
 | []=>none
 |H::r=>if H.i=i then some H else selJ i r
def marks:dU->Nat
 |.seq a b=>marks a+marks b+1
 |.cond _ a b=>marks a+marks b
 |.block _ b=>marks b
 |.sc b=>marks b
 |.loop b=>marks b+1
 |.pre _ b=>marks b
 |.frz _ _ b=>marks b
 |.post b _=>marks b
 |_=>0
def okN0:XV D->Bool
 |.d (.row true _) _=>false
 |.d .nat _=>false
 |.d (.pair _ _) _=>false
 |.gap _ _ _ _=>false
 |_=>true
def okN:XV D->Bool
 |.agg l=>l.all okN0
 |.fn _ l=>l.all okN0
 |t=>okN0 t
def okS(σ:XS D):Bool:=σ.tm.all λx=>okN x.2
def shr1(x:Nat×Option Nat):XM D M X Unit:=bind (rdT x.1) λt=>match x.2,t with
 |none,.pk p vs=>bind (take1 A false (.pk p vs)) λt'=>bind (optM A (immX A t')) λt2=>wrT A x.1 t2
 |some off,.ptr p vs=>bind (chk A p p.hops.length vs) λ_=>if fitsP p off then bind (getPl A (addP p off)) λt=>if isOwX t then bind (peek1 A (addP p off) t) λt'=>bind (take1 A false t') λ_=>ret ()else(match t with|.d _ _=>ret ()|_=>fail A)else fail A
 |none,.d _ _=>ret ()
 |none,.agg l=>if l.any isOwX then fail A else ret ()
 |_,_=>fail A
def shrs:List (Nat×Option Nat)->XM D M X Unit
 | []=>ret ()
 |x::r=>bind (shr1 A x) λ_=>shrs r
def rdImmM(r:Nat):Nat->Nat->XM D M X (List (XV D))
 |0,_=>ret []
 |n+1,o=>bind (rdC r o) λt=>if immCX t then bind (rdImmM r n (o+1)) λl=>ret (t::l)else fail A
def frzM(i n:Nat):XM D M X Unit:=bind (rdT i) λt=>match t with
 |.ptr p vs=>if p.root=2*i+2/\p.off=0/\p.hops=[]then bind (chk A p 0 vs) λ_=>bind (rdImmM A p.root n 0) λl=>bind (new A p.root []) λ_=>wrT A i (.ip l)else fail A
 |_=>fail A
def roundK(H:tM)(u:HL D [])(e:eX)(σ:XS D):M (HL den (lvS H.s)⊕qM (H.outs.map λx=>lvS x.2)):=
 match e with
 |.normal=>onOut A (convS A H.s σ u) (A.next (lvS H.s) (H.outs.map λx=>lvS x.2))
 |e=>onOut A (injE A e σ u H.outs) λx=>A.exitL (lvS H.s) (H.outs.map λx=>lvS x.2) x.1 x.2
def runC(C:Cfg)(u:HL D []):dU->Nat->{X:Type}->XS D->(eX->XS D->M X)->M X
 |.skip,_,_,σ,k=>k .normal σ
 |.nrm pers,_,_,σ,k=>if okS σ then k .normal (norm σ pers)else A.fail
 |.reg _ draw ops pers,_,_,σ,k=>
  match draw with
  |none=>spOps A C u ops σ λ_ σ'=>if okS σ' then k .normal (norm σ' pers)else A.fail
  |some deps=>spFL A C u ops (List.range ops.length) σ λfs σ'=>if lu deps fs&&okS σ' then k .normal (norm σ' pers)else A.fail
 |.seq a b,i,_,σ,k=>match selJ i C.HL with
  |none=>runC C u a (i+1) σ λe σ'=>match e with|.normal=>runC C u b (i+1+marks a) σ' k|e=>k e σ'
  |some H=>A.join (H.outs.map λx=>lvS x.2) (runC C u a (i+1) σ λe σ'=>match injE A e σ' u H.outs with|some x=>A.out (H.outs.map λx=>lvS x.2) x.1 x.2|none=>A.fail)
   λj ho=>onOut A (m6 H.outs j ho) λx=>match x.1 with|.normal=>runC C u b (i+1+marks a) x.2 k|e=>k e x.2
 |.cond c a b,i,_,σ,k=>opd A c σ λt _=>condX A (runC C u a i (knownO A c true σ) k) (runC C u b (i+marks a) (knownO A c false σ) k) t
 |.block id b,i,_,σ,k=>runC C u b i σ λe σ'=>match e with|.exit j=>if j=id then k .normal σ' else k (.exit j) σ'|e=>k e σ'
 |.loop b,i,_,σ,k=>match selH A i σ u C.HL with
  |some ⟨H,h⟩=>A.loop H.nm (lvS H.s) (H.outs.map λx=>lvS x.2) h
   (λh=>runC C u b (i+1) (uG H.s h) (roundK A H u))
   λj ho=>onOut A (m6 H.outs j ho) λx=>k x.1 x.2
  |none=>A.fail
 |.exit id,_,_,σ,k=>k (.exit id) σ
 |.sc b,i,_,σ,k=>runC C u b i σ k
 |.ret,_,_,σ,k=>k .ret σ
 |.frz j n a,i,_,σ,k=>frzM A j n σ λ_ σ'=>if okS σ' then runC C u a i (anew σ') k else A.fail
 |.pre l a,i,_,σ,k=>shrs A l σ λ_ σ'=>if okS σ' then runC C u a i (anew σ') k else A.fail
 |.post a l,i,_,σ,k=>runC C u a i σ λe σ'=>shrs A l σ' λ_ σ2=>if okS σ2 then k e (anew σ2)else A.fail
def takeR1(np:Nat)(t:XV D):XM D M X (XV D):=
 match t with
 |.pk p vs=>take1 A (!Fa np p.root) (.pk p vs)
 |t=>take1 A true t
def takeRL(np:Nat):List (XV D)->XM D M X (List (XV D))
 | []=>ret []
 |t::r=>bind (takeR1 A np t) λt'=>bind (takeRL np r) λr'=>ret (t'::r')
def takeRV(np:Nat)(t:XV D):XM D M X (List (XV D)×RSh):=
 match t with
 |.agg l=>bind (takeRL A np l) λl'=>ret (l',.agg l'.length)
 |t=>bind (takeR1 A np t) λt'=>ret ([t'],.one)
def res1(np:Nat):TRs->XM D M X (List (XV D)×RSh)
 |.tmp t=>bind (rdT t) λtv=>takeRV A np tv
 |.cell t n=>bind (rdT t) λtv=>match tv with
  |.ptr p vs=>bind (chk A p p.hops.length vs) λ_=>match n with
   |none=>bind (getPl A p) λt=>bind (peek1 A p t) λt'=>takeRV A np t'
   |some n=>bind (peekL A p n) λl=>takeRV A np (.agg l)
  |_=>fail A
def resL(np:Nat):List TRs->XM D M X (List (XV D)×List RSh)
 | []=>ret ([],[])
 |r::rs=>bind (res1 A np r) λx=>bind (resL np rs) λy=>ret (x.1++y.1,x.2::y.2)
def onesOf:List (XV D)->List RSh
 | []=>[]
 |_::r=>.one::onesOf r
def flatsR:List TRs->XM D M X (List (XV D))
 | []=>ret []
 |.tmp t::r=>bind (rdT t) λtv=>if flatX tv then bind (flatsR r) λl=>ret (tv::l)else fail A
 |.cell _ _::_=>fail A
def resF(np:Nat)(l:List TRs):XM D M X (List (XV D)×List RSh):=
 match l with
 |.tmp t::r=>bind (rdT t) λtv=>match tv with
  |.ptr p vs=>bind (chk A p p.hops.length vs) λ_=>bind (flatsR A r) λl=>ret (.ptr p vs::l,.ptr::onesOf l)
  |_=>resL A np (.tmp t::r)
 |qs=>resL A np qs
def isPtrX:XV D->Bool
 |.ptr _ _=>true
 |_=>false
def isShX:XV D->Bool
 |.d (.row false _) _=>true
 |.d (.nilr false) _=>true
 |_=>false
def ptrsInX(pp:List Nat):Nat->List (XV D)->Bool
 |_,[]=>true
 |i,t::r=>(!isPtrX t||pp.contains i)&&(isPtrX t||isShX t || !pp.contains (1000+i))&&ptrsInX pp (i+1) r
def ptsOf(σ:XS D):List (Nat×List (XV D))->List (Nat×List (XV D))
 | []=>[]
 |x::r=>(x.1,(bB σ.ce x.1).getD [])::ptsOf σ r
def runT(C:Cfg)(u:HL D [])(tf:TFn)(outs:List XO)(vals:List (XV D))(pts:List (Nat×List (XV D))):M (qM (outs.map lvO)):=
 if vals.length=tf.np/\(ptrsInX tf.pp 0 vals&&(!tf.pp.contains 1000||pts.isEmpty))=true then
  runC A C u tf.body 0 (mkSt vals pts) λe σ=>match e with
   |.exit _=>A.fail
   |_=>resF A tf.np tf.res σ λy σ'=>onOut A (injO A y.1 y.2 (ptsOf σ' pts) u outs) λx=>A.out (outs.map lvO) x.1 x.2
 else A.fail
end
end X
def er1:(t:CT)->den t->TV
 |.int k,x=>.v (.int k x)
 |.bool,x=>.v (.bool x)
 |.str,x=>.v (.string x)
 |.nat,_=>.dead
 |.row true t,xs=>.ow (List.map (enc t) xs)
 |.row false t,xs=>.sl (List.map (enc t) xs)
 |.nilr true,_=>.ow []
 |.nilr false,_=>.sl []
 |.pair _ _,_=>.dead
def erP(p:XP den):bn:=⟨p.root,p.off,p.hops⟩
mutual
def er:XV den->TV
 |.d t x=>er1 t x
 |.k x=>.v x
 |.dead=>.dead
 |.ptr p vs=>.ptr (erP p) vs
 |.ip l=>.ip (erL l)
 |.pk p vs=>.pk (erP p) vs
 |.pw p vs sz lo n=>.pw (erP p) vs sz lo n
 |.agg l=>.agg (erL l)
 |.tup l=>.tup (erL l)
 |.fn f l=>.fn f (erL l)
 |.gap t x i o=>cO (er1 (.row true t) x) [(i,0,o)] .dead
def erL:List (XV den)->List TV
 | []=>[]
 |x::r=>er x::erL r
end
def erC(l:List (Nat×List (XV den))):List (Nat×List TV):=l.map λx=>(x.1,erL x.2)
def erS(σ:XS den):St:=⟨σ.tm.map λx=>(x.1,er x.2),erC σ.ce,σ.vr⟩
theorem eT(l:List (XV den)):erL l=l.map er:=by
 induction l with
 |nil=>rfl
 |cons x r ih=>simp only[erL,List.map_cons,ih]
theorem cx(l:List (XV den)):(erL l).length=l.length:=by rw[eT];simp
theorem jU(a b:List (XV den)):erL (a++b)=erL a++erL b:=by simp[eT]
theorem jT(l:List (XV den))(n:Nat):erL (l.take n)=(erL l).take n:=by simp[eT,List.map_take]
theorem lM(l:List (XV den))(n:Nat):erL (l.drop n)=(erL l).drop n:=by simp[eT,List.map_drop]
theorem nQ(l:List (XV den))(i:Nat):er (l.getD i .dead)=(erL l).getD i .dead:=by
 rw[eT];simp only[oGD,List.getElem?_map];cases l[i]?<;>rfl
theorem oQ(l:List (XV den))(i:Nat)(t:XV den):erL (l.set i t)=(erL l).set i (er t):=by simp[eT,List.map_set]
theorem tr(l:List (XV den)):er (l.headD .dead)=(erL l).headD .dead:=by cases l<;>rfl
theorem DI{o:Bool}{t t':CT}(xs:List (den t))(f:den t->den t')(h:∀y,enc t' (f y)=enc t y):enc (.row o t') (List.map f xs)=enc (.row o t) xs:=by
 have e:List.map (enc t') (List.map f xs)=List.map (enc t) xs:=by
  rw[List.map_map];exact List.map_congr_left λy _=>h y
 cases o
 ·show[TV.sl (List.map (enc t') (List.map f xs))]=[TV.sl (List.map (enc t) xs)];rw[e]
 ·show[TV.ow (List.map (enc t') (List.map f xs))]=[TV.ow (List.map (enc t) xs)];rw[e]
theorem kT{t:CT}(h:X.oneT t=true)(x:den t):enc t x=[er1 t x]:=by
 cases t with
 |row o t=>cases o<;>rfl
 |nilr o=>cases o<;>rfl
 |nat=>simp[X.oneT]at h
 |pair a b=>simp[X.oneT]at h
 |_=>rfl
theorem b9:∀(t:CT)(x:den t),(enc t x).length=eE t:=by
 intro t
 induction t with
 |pair a b Zk Zg=>intro x;simp only[enc,List.length_append,Zk,Zg,eE]
 |row o t=>intro x;cases o<;>rfl
 |nilr o=>intro x;cases o<;>rfl
 |_=>intro x;rfl
theorem lf:∀(t:CT)(x:den t),erL (X.splitX bf t x)=enc t x:=by
 intro t
 induction t with
 |pair a b Zk Zg=>
  intro x;simp only[X.splitX,jU,enc];rw[Zk,Zg];rfl
 |row o t=>intro x;cases o<;>rfl
 |nilr o=>intro x;cases o<;>rfl
 |_=>intro x;rfl
theorem oo{α:Type}(l:List α):∀i,BA l i=l[i]?:=by
 induction l with
 |nil=>intro i;rfl
 |cons x r ih=>intro i;cases i with|zero=>rfl|succ i=>simp[BA,ih]
theorem ld{t:CT}{x:den t}{o:Nat}{v:XV den}(h:BA (X.splitX bf t x) o=some v):(enc t x)[o]?=some (er v):=by
 rw[oo]at h;rw[<- lf,eT,List.getElem?_map,h];rfl
theorem E9:∀{t u:CT}(x:den t),xz t u=true->enc u (CU t u x)=enc t x:=by
 intro t
 induction t with
 |int k=>intro u x h;cases u<;>simp[xz]at h;subst h;rfl
 |bool=>intro u x h;cases u<;>simp[xz]at h;rfl
 |str=>intro u x h;cases u<;>simp[xz]at h;rfl
 |nat=>intro u x h;cases u<;>simp[xz]at h;rfl
 |row o t ih=>
  intro u x h;cases u<;>simp[xz]at h;rename_i o' t';obtain⟨rfl,h⟩:=h;exact DI x (CU t t') λy=>ih y h
 |nilr o=>
  intro u x h;cases u<;>simp[xz]at h
  ·subst h;cases o<;>rfl
  ·subst h;cases o<;>rfl
 |pair a b Zk Zg=>
  intro u x h;cases u<;>simp[xz]at h;rename_i a' b';show enc a' (CU a a' x.1)++enc b' (CU b b' x.2)=enc a x.1++enc b x.2;rw[Zk _ h.1,Zg _ h.2]
theorem u4{t u:CT}{x:den t}{y:den u}(h:asT bf t u x=some y):enc u y=enc t x:=by
 unfold asT at h;split at h
 ·rename_i he;have:=lP he;subst this
  injection h with h
  rw[<- h]
 ·split at h
  ·rename_i hl
   injection h with h
   rw[<- h];exact E9 x hl
  ·simp at h
theorem Eh{t u:CT}{x:den t}{y:den u}(h:asT bf t u x=some y):X.oneT u=X.oneT t:=by
 unfold asT at h;split at h
 ·rename_i he;rw[lP he]
 ·split at h
  ·rename_i hl;cases t<;>cases u<;>simp[xz]at hl<;>rfl
  ·simp at h
theorem wm{t u:CT}{x:den t}{y:den u}(h:asT bf t u x=some y):er1 u y=er1 t x:=by
 have h1:=u4 h;have h2:=Eh h
 cases ht:X.oneT t with
 |true=>
  rw[kT (by rw[h2,ht]),kT ht]at h1;injection h1
 |false=>
  rw[ht]at h2;cases t<;>simp[X.oneT]at ht<;>cases u<;>simp[X.oneT]at h2<;>rfl
theorem wh{α β:Type}(h:α=β)(h2:List α=List β)(xs:List α):cast h2 xs=xs.map (cast h):=by
 subst h;exact(List.map_id xs).symm
theorem o8{α β γ δ:Type}(h1:α=γ)(h2:β=δ)(h:(α×β)=(γ×δ))(x:α×β):cast h x=(cast h1 x.1,cast h2 x.2):=by
 subst h1;subst h2;rfl
theorem gM:∀t,eU t t=true:=by
 intro t
 induction t with
 |row o t ih=>simpa[eU]using ih
 |pair a b Zk Zg=>simp[eU,Zk,Zg]
 |_=>simp[eU]
theorem ml:∀t,eU t (ku t)=true:=by
 intro t
 induction t with
 |row o t ih=>cases o with
  |true=>simpa[ku,eU]using ih
  |false=>simpa[ku]using gM (.row false t)
 |pair a b Zk Zg=>simp[ku,eU,Zk,Zg]
 |nilr o=>simp[ku,eU]
 |_=>simp[ku,eU]
theorem rG:∀(t:CT)(h:den t=den (ku t))(x:den t),enc (ku t) (cast h x)=cU (enc t x):=by
 intro t
 induction t with
 |row o t ih=>
  intro h x
  cases o with
  |false=>rfl
  |true=>
   have h':den t=den (ku t):=dg (ml t);have e:(cast h x:den (.row false (ku t)))=(List.map (cast h') (x:List (den t)):List (den (ku t))):=wh h' h x;show enc (.row false (ku t)) (cast h x)=cU [TV.ow (List.map (enc t) (x:List (den t)))];rw[e];show[TV.sl (List.map (enc (ku t)) (List.map (cast h') (x:List (den t))))]=[TV.sl (gh (List.map (enc t) (x:List (den t))))];rw[List.map_map,gX,List.map_map];congr 2;refine List.map_congr_left λy _=>?_;simp only[Function.comp_apply];rw[ih h' y,iF]
 |nilr o=>intro h x;cases o<;>rfl
 |pair a b Zk Zg=>
  intro h x;have ha:=dg (ml a);have hb:=dg (ml b);have e:(cast h x:den (.pair (ku a) (ku b)))=((cast ha x.1,cast hb x.2):den (ku a)×den (ku b)):=o8 ha hb h x;show enc (.pair (ku a) (ku b)) (cast h x)=cU (enc a x.1++enc b x.2);rw[e];show enc (ku a) (cast ha x.1)++enc (ku b) (cast hb x.2)=_;rw[Zk ha,Zg hb];simp[iF]
 |_=>intro h x;rfl
theorem oD{x y:XV den}(h:X.immX bf x=some y):er y=(er x).imm:=by
 unfold X.immX at h;split at h
 ·injection h with h;subst h;rfl
 ·injection h with h;subst h;rfl
 ·injection h with h;subst h;rfl
 ·injection h with h;subst h;rfl
 ·rename_i o _
  injection h with h;subst h
  cases o<;>rfl
 ·rename_i t xs;split at h
  ·rename_i hs
   injection h with h
   subst h;have:=rG (.row true t) (dg hs) xs;simp only[ku]at this;have e1:enc (.row false (ku t)) (cast (dg hs) xs)=[er1 (.row false (ku t)) (cast (dg hs) xs)]:=rfl;rw[e1]at this;show er1 (.row false (ku t)) (cast (dg hs) xs)=(er1 (.row true t) xs).imm;simpa[cU,enc,er1]using this
  ·simp at h
 ·injection h with h;subst h;rfl
 ·simp at h
theorem vM:∀{l l':List (XV den)},X.immXL bf l=some l'->erL l'=(erL l).map TV.imm:=by
 intro l
 induction l with
 |nil=>intro l' h;simp only[X.immXL,oSJ]at h;subst h;rfl
 |cons x l ih=>
  intro l' h;simp only[X.immXL]at h;split at h
  ·rename_i y r h1 h2
   injection h with h
   subst h;simp only[erL,List.map_cons];rw[oD h1,ih h2]
  ·simp at h
theorem t7:∀{t:CT}{o:Nat}{os:List Nat}{t':CT},shT t o os=some t'->eU t t'=true:=by
 intro t
 induction t with
 |pair a b Zk Zg=>
  intro o os t' h;simp only[shT]at h;split at h
  ·obtain⟨u,h1,rfl⟩:=dA h;simp[eU,Zk h1,gM]
  ·obtain⟨u,h1,rfl⟩:=dA h;simp[eU,Zg h1,gM]
 |row ow t ih=>
  intro o os t' h
  cases ow with
  |true=>
   cases o with
   |zero=>
    cases os with
    |nil=>simp only[shT,oSJ]at h;subst h;exact ml _
    |cons o os=>
     simp only[shT]at h;obtain⟨u,h1,rfl⟩:=dA h;simpa[eU]using ih h1
   |succ o=>simp only[shT,oSJ]at h;subst h;exact gM _
  |false=>
   cases o with
   |zero=>
    cases os with
    |nil=>simp only[shT,oSJ]at h;subst h;exact ml _
    |cons o os=>simp only[shT,oSJ]at h;subst h;exact gM _
   |succ o=>simp only[shT,oSJ]at h;subst h;exact gM _
 |_=>
  intro o os t' h
  cases o with
  |zero=>
   cases os with
   |nil=>simp only[shT,oSJ]at h;subst h;exact ml _
   |cons o os=>simp only[shT,oSJ]at h;subst h;exact gM _
  |succ o=>simp only[shT,oSJ]at h;subst h;exact gM _
theorem my(l:List TV)(h:l.length<=1):cU l=l.modify 0 λy=>b7 y []:=by
 match l,h with
 | [],_=>rfl
 | [y],_=>cases y<;>rfl
theorem mz(l:List TV)(h:l.length<=1)(o:Nat)(f:TV->TV):l.modify (o+1) f=l:=List.modify_eq_self (by omega)
theorem vH{α:Type}(l l':List α)(f:α->α){o:Nat}(h:o<l.length):(l++l').modify o f=l.modify o f++l':=by
 apply List.ext_getElem?;intro i;simp only[List.getElem?_modify,List.getElem?_append,oLM];by_cases hi:i<l.length
 ·simp only[hi,if_true]
 ·have:¬o=i:=by omega
  simp only[hi,if_false,this];simp
theorem sE{α:Type}(l l':List α)(f:α->α){o:Nat}(h:l.length<=o):(l++l').modify o f=l++l'.modify (o-l.length) f:=by
 apply List.ext_getElem?;intro i;simp only[List.getElem?_modify,List.getElem?_append];by_cases hi:i<l.length
 ·have:¬o=i:=by omega
  simp only[hi,if_true,this,if_false];simp
 ·have:(o=i)↔(o-l.length=i-l.length):=by omega
  simp only[hi,if_false,this]
theorem An:∀(t:CT)(o:Nat)(os:List Nat)(t':CT)(h:den t=den t')(x:den t),shT t o os=some t'->enc t' (cast h x)=(enc t x).modify o λy=>b7 y os:=by
 intro t
 induction t with
 |pair a b Zk Zg=>
  intro o os t' h x hs;simp only[shT]at hs;show _=(enc a x.1++enc b x.2).modify o λy=>b7 y os;split at hs
  ·rename_i ho;obtain⟨u,h1,rfl⟩:=dA hs;have ha:=dg (t7 h1);have e:(cast h x:den (.pair u b))=((cast ha x.1,cast rfl x.2):den u×den b):=o8 ha rfl h x;rw[e];show enc u (cast ha x.1)++enc b x.2=_;rw[Zk o os u ha x.1 h1,vH _ _ _ (by rw[b9];exact ho)]
  ·rename_i ho;obtain⟨u,h1,rfl⟩:=dA hs;have hb:=dg (t7 h1);have e:(cast h x:den (.pair a u))=((cast rfl x.1,cast hb x.2):den a×den u):=o8 rfl hb h x;rw[e];show enc a x.1++enc u (cast hb x.2)=_;rw[Zg _ os u hb x.2 h1,sE _ _ _ (by rw[b9];omega),b9]
 |row ow t ih=>
  intro o os t' h x hs
  have hl:(enc (.row ow t) x).length<=1:=by rw[b9];exact Nat.le_refl _
  cases o with
  |succ o=>
   rw[mz _ hl];cases ow<;>simp only[shT,oSJ]at hs<;>subst hs<;>rfl
  |zero=>
   cases os with
   |nil=>
    rw[<- my _ hl]
    have e:t'=ku (.row ow t):=by cases ow<;>simp only[shT,oSJ]at hs<;>exact hs.symm
    subst e;exact rG _ h x
   |cons o os=>
    cases ow with
    |false=>simp only[shT,oSJ]at hs;subst hs;rfl
    |true=>
     simp only[shT]at hs;obtain⟨u,h1,rfl⟩:=dA hs;have h':den t=den u:=dg (t7 h1);have e:(cast h x:den (.row true u))=(List.map (cast h') (x:List (den t)):List (den u)):=wh h' h x;rw[e];show[TV.ow (List.map (enc u) (List.map (cast h') (x:List (den t))))]=[TV.ow ((List.map (enc t) (x:List (den t))).map λel=>el.modify o λt=>b7 t os)];rw[List.map_map,List.map_map];congr 2;exact List.map_congr_left λy _=>ih o os u h' y h1
 |nilr ow=>
  intro o os t' h x hs
  have hl:(enc (.nilr ow) x).length<=1:=by rw[b9];exact Nat.le_refl _
  cases o with
  |succ o=>
   rw[mz _ hl];simp only[shT,oSJ]at hs;subst hs;rfl
  |zero=>
   cases os with
   |nil=>
    rw[<- my _ hl];simp only[shT,oSJ]at hs;subst hs;exact rG _ h x
   |cons o os=>simp only[shT,oSJ]at hs;subst hs;cases ow<;>rfl
 |_=>
  intro o os t' h x hs
  cases o with
  |succ o=>
   rw[mz _ (by rw[b9];simp[eE])];simp only[shT,oSJ]at hs;subst hs;rfl
  |zero=>
   cases os with
   |nil=>
    rw[<- my _ (by rw[b9];simp[eE])];simp only[shT,oSJ]at hs;subst hs;exact rG _ h x
   |cons o os=>simp only[shT,oSJ]at hs;subst hs;rfl
theorem oc{x y:XV den}{os:List Nat}(h:X.shareX bf x os=some y):er y=b7 (er x) os:=by
 unfold X.shareX at h;split at h
 ·rename_i t xs;split at h
  ·rename_i t' hs;split at h
   ·rename_i Vw
    injection h with h
    subst h;have:=An t 0 os t' (dg Vw) xs hs;show er1 t' (cast (dg Vw) xs)=b7 (er1 t xs) os
    cases ht:X.oneT t with
    |true=>
     have YU:X.oneT t'=true:=by cases t<;>simp[X.oneT]at ht<;>cases t'<;>simp[eU]at Vw<;>rfl
     rw[kT ht,kT YU]at this;simpa using this
    |false=>
     cases t<;>simp[X.oneT]at ht<;>cases t'<;>simp[eU]at Vw<;>cases os<;>rfl
   ·simp at h
  ·simp at h
 ·simp at h
theorem Af{Y:Type}:∀{hs:List (den .nat×Nat×Nat)}{tv:XV den}{k:XV den->Option Y}{o:Y},X.getX bf tv hs k=some o->∃v,bA (er tv) hs=some (er v)/\k v=some o:=by
 intro hs
 induction hs with
 |nil=>intro tv k o h;exact⟨tv,rfl,h⟩
 |cons h1 hs ih=>
  intro tv k o h;obtain⟨i,sz,off⟩:=h1;unfold X.getX at h;split at h
  ·rename_i Qx;cases Qx
  ·rename_i t xs i' sz' o' hs' Qx
   injection Qx with e1 e2
   injection e1 with e3 e4
   injection e4 with e4 e5
   subst e3;subst e4;subst e5;subst e2;split at h
   ·rename_i hsz;obtain⟨e,he,h2⟩:=bm (show(dw xs i).bind _=some o from h);split at h2
    ·rename_i v hv;obtain⟨w,hw,hk⟩:=ih h2;refine⟨w,?_,hk⟩
     have h3:(List.map (enc t) xs)[i]?=some (enc t e):=by
      have:xs[i]?=some e:=he;rw[List.getElem?_map,this];rfl
     show(match(List.map (enc t) xs)[i]? with|some el=>if el.length=sz then(match el[off]? with|some t=>bA t hs|none=>none)else none|none=>none)=_;rw[h3];simp only[b9,hsz,if_true,ld hv];exact hw
    ·cases h2
   ·cases h
  ·cases h
theorem qT{G:(u:CT)->Option (den u->den u)}{φ:TV->TV}(hG:∀u h,G u=some h->X.oneT u=true->∀x,er1 u (h x)=φ (er1 u x)):∀{t:CT}{o:Nat}{g:den t->den t},X.setD bf t o G=some g->∀x,enc t (g x)=(enc t x).modify o φ:=by
 intro t
 induction t with
 |pair a b Zk Zg=>
  intro o g h x;simp only[X.setD]at h;show _=(enc a x.1++enc b x.2).modify o φ;split at h
  ·rename_i ho;obtain⟨f,h1,rfl⟩:=dA h;show enc a (f x.1)++enc b x.2=_;rw[Zk h1,vH _ _ _ (by rw[b9];exact ho)]
  ·rename_i ho;obtain⟨f,h1,rfl⟩:=dA h;show enc a x.1++enc b (f x.2)=_;rw[Zg h1,sE _ _ _ (by rw[b9];omega),b9]
 |nat=>intro o g h;simp[X.setD]at h
 |_=>
  intro o g h x
  cases o with
  |succ o=>simp[X.setD]at h
  |zero=>
   simp only[X.setD]at h;have h1:=hG _ g h rfl x;refine(kT rfl (g x)).trans ?_;rw[h1];exact(congrArg (λl=>List.modify l 0 φ) (kT rfl x)).symm
theorem AE{v:XV den}{u:CT}{f:den u->den u}(h:X.asF bf v u=some f)(x:den u):er1 u (f x)=er v:=by
 unfold X.asF at h;split at h
 ·obtain⟨y,h1,rfl⟩:=dA h;exact wm h1
 ·simp at h
theorem ub:∀{hs:List (den .nat×Nat×Nat)}{v:XV den}{u:CT}{f:den u->den u},X.setH bf hs v u=some f->∀x,er1 u (f x)=cO (er1 u x) hs (er v):=by
 intro hs
 induction hs with
 |nil=>intro v u f h x;exact AE h x
 |cons h1 hs ih=>
  intro v u f h x;obtain⟨i,sz,o⟩:=h1
  cases u with
  |row ow t=>cases ow with
   |false=>simp[X.setH]at h
   |true=>
    simp only[X.setH]at h;split at h
    ·rename_i hsz;obtain⟨g,hg,rfl⟩:=dA h;have:=qT (φ:=λt1=>cO t1 hs (er v)) (λu h hu _ x=>ih hu x) hg;show TV.ow (List.map (enc t) (List.modify (x:List (den t)) i g))=TV.ow ((List.map (enc t) x).modify i λel=>el.modify o λt1=>cO t1 hs (er v));congr 1;apply List.ext_getElem?;intro j;simp only[List.getElem?_map,List.getElem?_modify];by_cases hij:i=j
     ·simp only[hij,if_true]
      cases(x:List (den t))[j]? with
      |none=>rfl
      |some e=>exact congrArg some (this e)
     ·simp only[hij,if_false];simp
    ·simp at h
  |_=>simp[X.setH]at h
theorem DD{tv v w:XV den}{hs:List (den .nat×Nat×Nat)}(h:X.setX bf tv hs v=some w):er w=cO (er tv) hs (er v):=by
 unfold X.setX at h;split at h
 ·injection h with h;subst h;rfl
 ·obtain⟨f,h1,rfl⟩:=dA h;exact ub h1 _
 ·simp at h
theorem nU{α β:Type}(l:List (Nat×α))(f:α->β)(i:Nat):bB (l.map λx=>(x.1,f x.2)) i=(bB l i).map f:=by
 induction l with
 |nil=>rfl
 |cons x r ih=>simp[bB];split<;>simp_all
theorem jX{α β:Type}(l:List (Nat×α))(f:α->β)(i:Nat)(v:α):cF (l.map λx=>(x.1,f x.2)) i (f v)=(cF l i v).map λx=>(x.1,f x.2):=by
 induction l with
 |nil=>rfl
 |cons x r ih=>
  simp[cF];split
  ·simp
  ·simp_all
theorem B4(σ:XS den)(i:Nat):(erS σ).t i=er (X.tOf σ i):=by
 unfold St.t X.tOf erS;simp[nU];cases bB σ.tm i<;>rfl
theorem pU(σ:XS den)(r o:Nat):(erS σ).c r o=er (X.cOf σ r o):=by
 unfold St.c X.cOf erS erC;simp[nU]
 cases bB σ.ce r with
 |none=>rfl
 |some l=>exact(nQ l o).symm
theorem qA(σ:XS den)(r:Nat):bB (erS σ).ce r=(bB σ.ce r).map erL:=nU _ _ _
structure ij (σ σ':XS den)(f:jY):Prop where
 r:∀x∈f.1,x∈σ'.lg.1
 w:∀x∈f.2,x∈σ'.lg.2
 r0:∀x∈σ.lg.1,x∈σ'.lg.1
 w0:∀x∈σ.lg.2,x∈σ'.lg.2
theorem ij.refl(σ:XS den):ij σ σ ([],[]):=⟨λx h=>by simp at h,λx h=>by simp at h,λ_ h=>h,λ_ h=>h⟩
theorem ij.by{σ σ':XS den}{f:jY}(R W:List Loc)(e1:σ'.lg.1=R++σ.lg.1)(e2:σ'.lg.2=W++σ.lg.2)(h1:f.1=R)(h2:f.2=W):ij σ σ' f:=
 ⟨λx h=>by simp_all,λx h=>by simp_all,λx h=>by simp_all,λx h=>by simp_all⟩
def Sim{α β Y:Type}(m:XM den Option Y α)(s:SP β)(f:α->β):Prop:=
 ∀(σ:XS den)(k:α->XS den->Option Y)(o:Y),m σ k=some o->∃a σ',s.run (erS σ)=some (f a,erS σ')/\ij σ σ' (s.foot (erS σ))/\k a σ'=some o
theorem bD{α β:Type}(s:SP α)(g:α->SP β):∀{σ σ1:St}{a:α},s.run σ=some (a,σ1)->(s.bind g).foot σ=((s.foot σ).1++((g a).foot σ1).1,(s.foot σ).2++((g a).foot σ1).2):=by
 induction s with
 |ret a=>intro σ σ1 b h;obtain⟨rfl,rfl⟩:=h;simp[SP.bind,SP.foot]
 |fail=>intro σ σ1 b h;simp[SP.run]at h
 |rdT i k ih=>intro σ σ1 b h;simp only[SP.bind,SP.foot];rw[ih _ h];simp
 |rdC r o k ih=>intro σ σ1 b h;simp only[SP.bind,SP.foot];rw[ih _ h];simp
 |rdH r o k ih=>intro σ σ1 b h;simp only[SP.bind,SP.foot];rw[ih _ h];simp
 |rdV q k ih=>intro σ σ1 b h;simp only[SP.bind,SP.foot];rw[ih _ h];simp
 |wrT i t k ih=>intro σ σ1 b h;simp only[SP.bind,SP.foot];rw[ih h];simp
 |wrC r o t k ih=>
  intro σ σ1 b h;obtain⟨l,hl,ho,h2⟩:=bC h;simp only[SP.bind,SP.foot,hl,ho,if_true];rw[ih h2];simp
 |new r l k ih=>intro σ σ1 b h;simp only[SP.bind,SP.foot];rw[ih h];simp
 |bump q k ih=>intro σ σ1 b h;simp[SP.bind,SP.foot];rw[ih h];simp
section
variable {α β γ δ Y:Type}
theorem Sim.ret{a:α}{b:β}{f:α->β}(h:f a=b):Sim (Y:=Y) (X.ret a) (.ret b) f:=fun σ k o hk=>⟨a,σ,by rw[h];rfl,ij.refl σ,hk⟩
theorem Sim.fail{s:SP β}{f:α->β}:Sim (Y:=Y) (X.fail bf) s f:=fun σ k o hk=>by cases hk
theorem Sim.bind{m:XM den Option Y α}{s:SP β}{f:α->β}{g:α->XM den Option Y γ}{h:β->SP δ}{f':γ->δ}(h1:Sim m s f)(h2:∀a,Sim (g a) (h (f a)) f'):Sim (X.bind m g) (s.bind h) f':=by
 intro σ k o hk;have ⟨a,σ1,r1,n1,k1⟩:=h1 σ _ o hk;have ⟨c,σ2,r2,n2,k2⟩:=h2 a σ1 k o k1;refine⟨c,σ2,by rw[SP.run_bind,r1];exact r2,?_,k2⟩;rw[bD s h r1];refine⟨λx hx=>?_,λx hx=>?_,λx hx=>n2.r0 x (n1.r0 x hx),λx hx=>n2.w0 x (n1.w0 x hx)⟩
 ·rcases List.mem_append.1 hx with hx|hx
  ·exact n2.r0 x (n1.r x hx)
  ·exact n2.r x hx
 ·rcases List.mem_append.1 hx with hx|hx
  ·exact n2.w0 x (n1.w x hx)
  ·exact n2.w x hx
theorem Sim.map{m:XM den Option Y α}{s:SP β}{f f':α->β}(h:Sim m s f)(e:∀a,f a=f' a):Sim m s f':=by
 have:=funext e
 simp_all
theorem Sim.opt{o:Option α}{g:α->XM den Option Y γ}{s:SP δ}{f:γ->δ}(h:∀a,o=some a->Sim (g a) s f):Sim (X.bind (X.optM bf o) g) s f:=by
 intro σ k y hk
 cases o with
 |none=>cases hk
 |some a=>exact h a rfl σ k y hk
theorem Sim.br{c:Bool}{m:XM den Option Y α}{s:SP β}{f:α->β}(h:c=true->Sim m s f):Sim (X.brM bf c m) s f:=by
 intro σ k y hk
 cases c with
 |false=>cases hk
 |true=>exact h rfl σ k y hk
theorem Sim.get{ow:Bool}{t:CT}{xs:List (den t)}{i:Nat}{g:den t->XM den Option Y γ}{s:SP δ}{f:γ->δ}(h:∀e,xs[i]?=some e->Sim (g e) s f):Sim (X.atM bf ow t xs i g) s f:=by
 intro σ k y hk;have ⟨e,h1,h2⟩:=bm (show(dw xs i).bind _=some y from hk);exact h e h1 σ k y h2
theorem Sim.nat{kd:IntKind}{n:Int}{g:Nat->XM den Option Y γ}{s:SP δ}{f:γ->δ}(h:∀m:Nat,n=m->Sim (g m) s f):Sim (X.natM bf kd n g) s f:=by
 intro σ k y hk;have ⟨e,h1,h2⟩:=bm (show(eD n).bind _=some y from hk);refine h e ?_ σ k y h2
 cases n with
 |ofNat m=>simp[eD]at h1;rw[h1];rfl
 |negSucc m=>simp[eD]at h1
theorem Sim.ite{c:Prop}[Decidable c]{m m':XM den Option Y α}{s:SP β}{f:α->β}(h:c->Sim m s f)(h':¬c->Sim m' s f):Sim (if c then m else m') s f:=by
 grind
theorem sG{Y:Type}:∀(l:List (XV den))(k:List (XV den)->Option Y),X.letL bf l k=k l:=by
 intro l
 induction l with
 |nil=>intro k;rfl
 |cons x r ih=>
  intro k
  cases x<;>first|exact ih _|(simp;exact ih _)
theorem jp{Y:Type}(t:XV den)(k:XV den->Option Y):X.letX bf t k=k t:=by
 cases t with
 |agg l=>exact sG l _
 |_=>rfl
theorem yi(i:Nat):Sim (Y:=Y) (X.rdT i) (.rdT i .ret) er:=fun σ k o hk=>⟨X.tOf σ i,X.lgR (.t i) σ,by simp only[SP.run];rw[B4];rfl,.by [.t i] [] rfl rfl rfl rfl,hk⟩
theorem yl(r o:Nat):Sim (Y:=Y) (X.rdC r o) (.rdC r o .ret) er:=fun σ k y hk=>⟨X.cOf σ r o,X.lgR (.c r o) σ,by simp only[SP.run];rw[pU];rfl,.by [.c r o] [] rfl rfl rfl rfl,hk⟩
theorem yh(q:Key):Sim (Y:=Y) (X.rdV q) (.rdV q .ret) id:=fun σ k o hk=>⟨kH σ.vr q,X.lgR (.v q) σ,rfl,.by [.v q] [] rfl rfl rfl rfl,hk⟩
theorem n7(i:Nat)(t:XV den):Sim (Y:=Y) (X.wrT bf i t) (.wrT i (er t) (.ret ())) id:=fun σ k o hk=>by
 unfold X.wrT at hk;rw[jp]at hk;refine⟨(),⟨cF σ.tm i t,σ.ce,σ.vr,(σ.lg.1,.t i :: σ.lg.2)⟩,?_,.by [] [.t i] rfl rfl rfl rfl,hk⟩;simp[SP.run,erS];rw[jX]
theorem yj(r o:Nat):Sim (Y:=Y) (X.rdK r o) (.rdH r o .ret) λv=>(er v).hd:=fun σ k y hk=>⟨X.cOf σ r o,X.lgR (.h r o) σ,by simp only[SP.run];rw[pU];rfl,.by [.h r o] [] rfl rfl rfl rfl,hk⟩
theorem D2{r o:Nat}{t t':TV}{x:Loc}(h:x∈hdW r o t t'):x=.h r o:=by
 unfold hdW at h
 simp_all
def fS{α β Y:Type}(σ:XS den)(m:XM den Option Y α)(s:SP β)(f:α->β):Prop:=
 ∀(k:α->XS den->Option Y)(o:Y),m σ k=some o->∃a σ',s.run (erS σ)=some (f a,erS σ')/\ij σ σ' (s.foot (erS σ))/\k a σ'=some o
theorem fS.bind{σ:XS den}{m:XM den Option Y α}{s:SP β}{f:α->β}{g:α->XM den Option Y γ}{h:β->SP δ}{f':γ->δ}(h1:fS σ m s f)(h2:∀a,Sim (g a) (h (f a)) f'):fS σ (X.bind m g) (s.bind h) f':=by
 intro k o hk;have ⟨a,σ1,r1,n1,k1⟩:=h1 _ o hk;have ⟨c,σ2,r2,n2,k2⟩:=h2 a σ1 k o k1;refine⟨c,σ2,by rw[SP.run_bind,r1];exact r2,?_,k2⟩;rw[bD s h r1];refine⟨λx hx=>?_,λx hx=>?_,λx hx=>n2.r0 x (n1.r0 x hx),λx hx=>n2.w0 x (n1.w0 x hx)⟩
 ·rcases List.mem_append.1 hx with hx|hx
  ·exact n2.r0 x (n1.r x hx)
  ·exact n2.r x hx
 ·rcases List.mem_append.1 hx with hx|hx
  ·exact n2.w0 x (n1.w x hx)
  ·exact n2.w x hx
theorem fS.opt{σ:XS den}{o:Option α}{g:α->XM den Option Y γ}{s:SP δ}{f:γ->δ}(h:∀a,o=some a->fS σ (g a) s f):fS σ (X.bind (X.optM bf o) g) s f:=by
 intro k y hk
 cases o with
 |none=>cases hk
 |some a=>exact h a rfl k y hk
theorem r7{r o:Nat}{g:XV den->XM den Option Y γ}{h:TV->SP δ}{f:γ->δ}(H:∀ σ tv,(erS σ).c r o=er tv->fS σ (g tv) (h (er tv)) f):Sim (X.bind (X.rdC r o) g) (.rdC r o h) f:=by
 intro σ k y hk;have ⟨a,σ',h1,h2,h3⟩:=H (X.lgR (.c r o) σ) (X.cOf σ r o) (pU σ r o) k y hk;refine⟨a,σ',by simp[SP.run];rw[pU];exact h1,⟨λx hx=>?_,λx hx=>?_,λx hx=>h2.r0 x (by simp[X.lgR,hx]),λx hx=>h2.w0 x hx⟩,h3⟩
 ·simp[SP.foot]at hx;rcases hx with rfl|hx
  ·exact h2.r0 _ (by simp[X.lgR])
  ·rw[pU]at hx;exact h2.r x hx
 ·simp[SP.foot]at hx;rw[pU]at hx;exact h2.w x hx
theorem fS.wrI{σ:XS den}{r o:Nat}{t:XV den}(hh:(er t).hd=((erS σ).c r o).hd):fS (Y:=Y) σ (X.wrI bf r o t) (.wrC r o (er t) (.ret ())) id:=λk y hk=>by
 unfold X.wrI at hk;split at hk
 ·rename_i l hl;split at hk
  ·rename_i ho;rw[jp]at hk
   have Yh:bB (erS σ).ce r=some (erL l):=by rw[qA,hl];rfl
   have Zd:o<(erL l).length:=by rw[cx];exact ho
   refine⟨(),⟨σ.tm,cF σ.ce r (l.set o t),σ.vr,(.n r :: .h r o :: σ.lg.1,.c r o :: σ.lg.2)⟩,?_,.by [.n r,.h r o] [.c r o] rfl rfl (by simp[SP.foot,Yh,Zd]) (by simp[SP.foot,Yh,Zd,if_true,hdW,oIP hh]),hk⟩;simp[SP.run,Yh,Zd,if_true,id_eq];unfold erS erC;rw[<- oQ,jX]
  ·cases hk
 ·cases hk
theorem yc(r o:Nat)(t:XV den):Sim (Y:=Y) (X.wrC bf r o t) (.wrC r o (er t) (.ret ())) id:=fun σ k y hk=>by
 unfold X.wrC at hk;split at hk
 ·rename_i l hl;split at hk
  ·rename_i ho;rw[jp]at hk
   have Yh:bB (erS σ).ce r=some (erL l):=by rw[qA,hl];rfl
   have Zd:o<(erL l).length:=by rw[cx];exact ho
   refine⟨(),⟨σ.tm,cF σ.ce r (l.set o t),σ.vr,(.n r :: .h r o :: σ.lg.1,.c r o :: .h r o :: σ.lg.2)⟩,?_,⟨λx hx=>?_,λx hx=>?_,λx hx=>by simp[hx],λx hx=>by simp[hx]⟩,hk⟩
   rotate_left
   ·simp only[SP.foot,Yh,Zd,if_true,List.mem_cons,List.not_mem_nil,or_false]at hx
    rcases hx with rfl|rfl<;>simp
   ·simp[SP.foot,Yh,Zd,if_true,List.mem_cons,List.mem_append,List.not_mem_nil,or_false]at hx;rcases hx with rfl|hx
    ·simp
    ·simp[D2 hx]
   simp[SP.run,Yh,Zd,if_true,id_eq];unfold erS erC;rw[<- oQ,jX]
  ·cases hk
 ·cases hk
theorem Di(r:Nat)(l:List (XV den)):Sim (Y:=Y) (X.new bf r l) (.new r (erL l) (.ret ())) id:=fun σ k y hk=>by
 unfold X.new at hk;rw[sG]at hk;refine⟨(),⟨σ.tm,cF σ.ce r l,ja σ.vr (r,0,0),(.v (r,0,0) :: σ.lg.1,.n r :: .v (r,0,0) :: σ.lg.2)⟩,?_,.by [.v (r,0,0)] [.n r,.v (r,0,0)] rfl rfl rfl rfl,hk⟩;simp[SP.run,erS,erC];rw[jX]
theorem vv(q:Key):Sim (Y:=Y) (X.bump q) (.bump q (.ret ())) id:=fun σ k y hk=>⟨(),⟨σ.tm,σ.ce,ja σ.vr q,(.v q :: σ.lg.1,.v q :: σ.lg.2)⟩,rfl,.by [.v q] [.v q] rfl rfl rfl rfl,hk⟩
theorem nT(x:Value):er (X.cellX bf x)=bN x:=by
 unfold X.cellX;split
 ·rfl
 ·rfl
 ·rfl
 ·rfl
 ·rename_i h1 h2 h3 h4
  have:bN x=if dF x then .v x else .dead:=by
   unfold bN
   simp_all
  rw[this];split<;>rfl
theorem Ar(x:Value):er (X.constX bf x)=mu x:=by
 unfold X.constX;split
 ·simp[er,eT];congr 1;exact List.map_congr_left λy _=>nT y
 ·rename_i h;rw[nT];unfold mu
  simp_all
theorem mj(x:Opd):Sim (Y:=Y) (X.opd bf x) (opd x) er:=by
 cases x with
 |t i=>exact yi i
 |c x=>exact .ret (Ar x)
 |f f=>exact .ret rfl
theorem nJ:∀qs:List Key,Sim (Y:=Y) (X.rdVs qs) (rdVs qs) id:=by
 intro qs
 induction qs with
 |nil=>exact .ret rfl
 |cons q qs ih=>exact(yh q).bind λn=>ih.bind λl=>.ret rfl
theorem cC(p:XP den)(n:Nat)(vs:List Nat):Sim (Y:=Y) (X.chk bf p n vs) (chk (erP p) n vs) id:=by
 refine(nJ _).bind λl=>?_;refine Sim.ite (λh=>?_) λh=>.fail;rw[oIP (by exact h)];exact .ret rfl
theorem uI(p:XP den)(n:Nat):erP (X.addP p n)=(erP p).add n:=by
 unfold X.addP bn.add erP
 cases h:List.reverse p.hops with
 |nil=>rfl
 |cons x r=>rfl
theorem rF(p:XP den)(n:Nat):X.fitsP p n=(erP p).fits n:=by
 unfold X.fitsP bn.fits erP
 grind
theorem nK{tv:XV den}{hs:List (den .nat×Nat×Nat)}{g:XV den->XM den Option Y γ}{s:SP δ}{f:γ->δ}(h:∀v,bA (er tv) hs=some (er v)->Sim (g v) s f):Sim (X.getM bf tv hs g) s f:=by
 intro σ k y hk;have ⟨v,h1,h2⟩:=Af hk;exact h v h1 σ k y h2
theorem fS.getX{σ:XS den}{tv:XV den}{hs:List (den .nat×Nat×Nat)}{g:XV den->XM den Option Y γ}{s:SP δ}{f:γ->δ}(h:∀v,bA (er tv) hs=some (er v)->fS σ (g v) s f):fS σ (X.getM bf tv hs g) s f:=by
 intro k y hk;have ⟨v,h1,h2⟩:=Af hk;exact h v h1 k y h2
theorem fS.ite{σ:XS den}{c:Prop}[Decidable c]{m m':XM den Option Y α}{s:SP β}{f:α->β}(h:c->fS σ m s f)(h':¬c->fS σ m' s f):fS σ (if c then m else m') s f:=by
 grind
theorem eM(p:XP den):Sim (Y:=Y) (X.getPl bf p) (getPl (erP p)) er:=by
 refine(yl p.root p.off).bind λtv=>?_;refine nK λv hv=>?_;show Sim _ (match bA (er tv) p.hops with|some t=>.ret t|none=>.fail) er;have:=hv;rw[this];exact .ret rfl
theorem vo(p:XP den):Sim (Y:=Y) (X.hdPl bf p) (D3 (erP p)) λv=>(er v).hd:=by
 have ⟨r,o,hs⟩:=p
 cases hs with
 |nil=>exact yj r o
 |cons h hs=>
  intro σ k y hk;have ⟨a,σ',h1,h2,h3⟩:=eM ⟨r,o,h::hs⟩ σ k y hk;refine⟨a,σ',?_,?_,h3⟩
  ·show((getPl (erP ⟨r,o,h::hs⟩)).bind λt=>.ret t.hd).run (erS σ)=_;rw[SP.run_bind,h1];rfl
  ·show ij σ σ' (((getPl (erP ⟨r,o,h::hs⟩)).bind λt=>.ret t.hd).foot (erS σ));rw[bD _ _ h1];simpa[SP.foot]using h2
end
section
variable {α β γ δ Y:Type}
theorem Sim.rdT{i:Nat}{g:XV den->XM den Option Y γ}{h:TV->SP δ}{f:γ->δ}(H:∀t,Sim (g t) (h (er t)) f):Sim (X.bind (X.rdT i) g) (.rdT i h) f:=(yi i).bind H
theorem Sim.rdC{r o:Nat}{g:XV den->XM den Option Y γ}{h:TV->SP δ}{f:γ->δ}(H:∀t,Sim (g t) (h (er t)) f):Sim (X.bind (X.rdC r o) g) (.rdC r o h) f:=(yl r o).bind H
theorem Sim.rdK{r o:Nat}{g:XV den->XM den Option Y γ}{h:Option (List Nat)->SP δ}{f:γ->δ}(H:∀t,Sim (g t) (h (er t).hd) f):Sim (X.bind (X.rdK r o) g) (.rdH r o h) f:=(yj r o).bind H
theorem Sim.rdV{q:Key}{g:Nat->XM den Option Y γ}{h:Nat->SP δ}{f:γ->δ}(H:∀t,Sim (g t) (h t) f):Sim (X.bind (X.rdV q) g) (.rdV q h) f:=(yh q).bind H
theorem Sim.wrT{i:Nat}{t:XV den}{t':TV}{g:Unit->XM den Option Y γ}{h:SP δ}{f:γ->δ}(e:er t=t')(H:Sim (g ()) h f):Sim (X.bind (X.wrT bf i t) g) (.wrT i t' h) f:=by subst e;exact(n7 i t).bind (h:=λ_=>h) λ_=>H
theorem Sim.wrC{r o:Nat}{t:XV den}{t':TV}{g:Unit->XM den Option Y γ}{h:SP δ}{f:γ->δ}(e:er t=t')(H:Sim (g ()) h f):Sim (X.bind (X.wrC bf r o t) g) (.wrC r o t' h) f:=by subst e;exact(yc r o t).bind (h:=λ_=>h) λ_=>H
theorem Sim.new{r:Nat}{l:List (XV den)}{l':List TV}{g:Unit->XM den Option Y γ}{h:SP δ}{f:γ->δ}(e:erL l=l')(H:Sim (g ()) h f):Sim (X.bind (X.new bf r l) g) (.new r l' h) f:=by subst e;exact(Di r l).bind (h:=λ_=>h) λ_=>H
theorem Sim.bump{q:Key}{g:Unit->XM den Option Y γ}{h:SP δ}{f:γ->δ}(H:Sim (g ()) h f):Sim (X.bind (X.bump q) g) (.bump q h) f:=(vv q).bind (h:=λ_=>h) λ_=>H
theorem Aa{α:Type}(c:List (List α))(i o:Nat)(f:α->α):(c.modify i λel=>el.modify o f).map List.length=c.map List.length:=by
 apply List.ext_getElem?;intro j;by_cases h:i=j
 ·simp
  grind
 ·simp[h]
theorem oF{tv:TV}{hs:List Hop}{t:TV}(h:hs≠[]):(cO tv hs t).hd=tv.hd:=by
 cases hs with
 |nil=>simp_all
 |cons x hs=>
  cases tv with
  |ow c=>simp[cO,TV.hd,Aa]
  |_=>rfl
theorem z9{tv:TV}{os:List Nat}(h:os≠[]):(b7 tv os).hd=tv.hd:=by
 cases os with
 |nil=>simp_all
 |cons o os=>
  cases tv with
  |ow c=>
   simp only[b7,TV.hd]
   simp_all
  |_=>rfl
theorem vN{r o:Nat}{tv:TV}{hs:List Hop}{t:TV}(h:hs≠[]):hdW r o tv (cO tv hs t)=[]:=by unfold hdW;rw[oIP (oF h)]
theorem D1{x:XV den}(h:X.isOwX x=false)(h2:gg (er x)=X.isOwX x):(er x).hd=none:=by
 rw[h]at h2
 cases hx:er x<;>first|rfl|(rw[hx]at h2;simp[gg]at h2)
theorem lE(x:XV den):gg (er x)=X.isOwX x:=by
 cases x with
 |d t y=>cases t with
  |row o t=>cases o<;>rfl
  |nilr o=>cases o<;>rfl
  |_=>rfl
 |_=>rfl
theorem lF(x:XV den):lG (er x)=X.isHdrX x:=by
 cases x with
 |d t y=>cases t with
  |row o t=>cases o<;>rfl
  |nilr o=>cases o<;>rfl
  |_=>rfl
 |_=>rfl
theorem xe{x:XV den}(h:X.okCellX x=true):bQ (er x)=true:=by
 cases x with
 |d t y=>cases t with
  |row o t=>cases o<;>first|rfl|simp[X.okCellX]at h
  |nilr o=>cases o<;>rfl
  |nat=>simp[X.okCellX]at h
  |pair a b=>simp[X.okCellX]at h
  |_=>rfl
 |k y=>rfl
 |_=>simp[X.okCellX]at h
theorem iv{x:XV den}(h:X.okCellX x=true)(h2:X.isOwX x=false):(∃y,er x=.v y)\/∃c,er x=.sl c:=by
 cases x with
 |d t y=>cases t with
  |int k=>exact .inl ⟨_,rfl⟩
  |bool=>exact .inl ⟨_,rfl⟩
  |str=>exact .inl ⟨_,rfl⟩
  |row o t=>cases o<;>first|exact .inr ⟨_,rfl⟩|simp[X.okCellX]at h
  |nilr o=>cases o<;>first|exact .inr ⟨_,rfl⟩|simp[X.isOwX,X.isOwT]at h2
  |nat=>simp[X.okCellX]at h
  |pair a b=>simp[X.okCellX]at h
 |k y=>exact .inl ⟨_,rfl⟩
 |_=>simp[X.okCellX]at h
theorem ro{x:XV den}(h:X.immCX x=true):sO (er x)=true:=by
 have ZO:(X.okCellX x && !X.isOwX x)=true->sO (er x)=true:=λh=>by
  simp at h
  rcases iv h.1 h.2 with⟨y,hy⟩|⟨c,hc⟩
  ·rw[hy];rfl
  ·rw[hc];rfl
 cases x with
 |ip cs=>rfl
 |_=>exact ZO h
theorem rp{l:List (XV den)}(h:l.all X.immCX=true):(erL l).all sO=true:=by
 rw[eT,List.all_map,List.all_eq_true];rw[List.all_eq_true]at h;exact λx hx=>ro (h x hx)
theorem BO{x:XV den}(h:X.immFX x=true):BQ (er x)=true:=by
 have ZO:∀t:TV,sO t=true->BQ t=true:=λt h=>by
  cases t with
  |fn f l=>simp[sO]at h
  |_=>exact h
 cases x with
 |fn f l=>exact rp h
 |_=>exact ZO _ (ro h)
theorem DY{x:XV den}(h:X.isNA x=true):¬BQ (er x)=true:=by
 cases x with
 |agg l=>simp[er,BQ,sO]
 |pk p vs=>simp[er,BQ,sO]
 |_=>simp[X.isNA]at h
theorem gR{v:XV den}(h:X.isOwX v=true):∃c,er v=.ow c:=by
 rw[<- lE]at h;cases hv:er v<;>rw[hv]at h<;>simp[gg]at h
 simp_all
theorem Ef{p:XP den}(h:XP.bare p=true):(erP p).hops=[]:=by
 have ⟨r,o,hs⟩:=p
 cases hs with
 |nil=>rfl
 |cons=>simp[XP.bare]at h
theorem C8{lo n:Nat}{v w:XV den}(h:X.winX bf lo n v=some w):∃c,er v=.ow c/\er w=.sl (((c.drop lo).take n).map λe=>e.map TV.imm):=by
 unfold X.winX at h;split at h
 ·rename_i t xs;split at h
  ·rename_i t' ys hi
   injection h with h
   subst h;refine⟨_,rfl,?_⟩;have h1:=oD hi;have h2:TV.sl (List.map (enc t') (ys:List (den t')))=(TV.ow (List.map (enc t) (xs:List (den t)))).imm:=h1;rw[gG]at h2;show TV.sl (List.map (enc t') ((List.drop lo (ys:List (den t'))).take n))=_
   simp_all
  ·simp at h
 ·injection h with h;subst h;exact⟨[],rfl,by simp[er,er1]⟩
 ·simp at h
theorem D5{tv w:XV den}{hs:List (den .nat×Nat×Nat)}(h:X.gapX tv hs=some w):er w=cO (er tv) hs .dead:=by
 unfold X.gapX at h;split at h
 ·injection h with h
  subst h;rfl
 ·simp at h
theorem cL(mv:Bool)(x:XV den):Sim (Y:=Y) (X.take1 bf mv x) (take1 mv (er x)) er:=by
 cases x with
 |d t y=>cases t with
  |int k=>exact .ret rfl
  |bool=>exact .ret rfl
  |str=>exact .ret rfl
  |nat=>exact .fail
  |row o t=>cases o<;>first|exact .fail|exact .ret rfl
  |nilr o=>cases o<;>cases mv<;>exact .ret rfl
  |pair a b=>exact .fail
 |k y=>exact .ret rfl
 |pk p vs=>
  refine(cC p _ vs).bind λ_=>r7 fun σ tv hσ=>fS.getX λv hv=>?_;refine fS.ite (λho=>?_) λ_=>Sim.fail σ;obtain⟨c,hc⟩:=gR ho
  have YC:bA (er tv) (erP p).hops=some (.ow c):=by rw[<- hc];exact hv
  simp only[YC]
  cases mv with
  |true=>
   simp only[if_true];refine fS.ite (λhb=>?_) λhb=>?_
   ·exact(show Sim _ _ _ from Sim.wrC (by rw[Ef hb];rfl) (Sim.bump (g:=λ_=>X.ret v) (.ret hc))) σ
   ·refine fS.opt λYl h1=>?_;have h3:=D5 h1
    have hne:p.hops≠[]:=by
     obtain⟨r,o,hs⟩:=p
     cases hs with
     |nil=>simp[XP.bare]at hb
     |cons=>simp
    have:=(fS.wrI (Y:=Y) (σ:=σ) (r:=p.root) (o:=p.off) (t:=Yl) (by rw[h3,hσ,oF hne])).bind (g:=λ_=>X.bind (X.bump (p.root,p.off,p.hops.length+1)) λ_=>X.ret v) (h:=λ_=>.bump (p.root,p.off,p.hops.length+1) (.ret (TV.ow c))) (f':=er) λ_=>Sim.bump (.ret hc);rw[h3]at this;exact this
  |false=>
   refine fS.opt λYl h1=>fS.opt λv' h2=>?_
   have hr:er v'=(TV.ow c).imm:=by rw[oD h2,hc]
   by_cases hb:XP.bare p=true
   ·rw[oIP hb];exact(show Sim _ _ _ from Sim.wrC (oc h1) (Sim.bump (g:=λ_=>X.ret v') (.ret hr))) σ
   ·rw[oIN hb];have h3:=oc h1
    have hne:X.hopOs p.hops≠[]:=by
     obtain⟨r,o,hs⟩:=p
     cases hs with
     |nil=>simp[XP.bare]at hb
     |cons=>simp[X.hopOs]
    have:=(fS.wrI (Y:=Y) (σ:=σ) (o:=p.off) (t:=Yl) (by rw[h3,hσ,z9 hne])).bind (g:=λ_=>X.bind (X.bump (p.root,p.off,p.hops.length+1)) λ_=>X.ret v') (h:=λ_=>.bump (p.root,p.off,p.hops.length+1) (.ret (TV.ow c).imm)) (f':=er) λ_=>Sim.bump (.ret hr);rw[h3]at this;exact this
 |pw p vs sz lo n=>
  refine(cC p _ vs).bind λ_=>Sim.rdC λtv=>nK λv hv=>?_;refine Sim.opt λYl h1=>Sim.opt λv' h2=>?_;obtain⟨c,hc,hw⟩:=C8 h2
  have YC:bA (er tv) (erP p).hops=some (.ow c):=by rw[<- hc];exact hv
  simp only[YC];exact Sim.wrC (oc h1) (Sim.bump (.ret hw))
 |_=>exact .fail
theorem iq(mv:Bool):∀l:List (XV den),Sim (Y:=Y) (X.takeL bf mv l) (takeL mv (erL l)) erL:=by
 intro l
 induction l with
 |nil=>exact .ret rfl
 |cons t r ih=>exact(cL mv t).bind λt'=>ih.bind λr'=>.ret rfl
theorem lV(t:XV den):gT (er t)=erL (X.cellsX t):=by
 cases t with
 |d t y=>cases t with
  |row o t=>cases o<;>rfl
  |nilr o=>cases o<;>rfl
  |_=>rfl
 |_=>rfl
theorem Fk{t:XV den}:(∃l,t=.agg l)\/((∀l,t≠.agg l)/\∀l,er t≠.agg l):=by
 cases t with
 |agg l=>simp_all
 |d t y=>cases t with
  |row o t=>cases o<;>exact .inr ⟨by simp,by simp[er,er1]⟩
  |nilr o=>cases o<;>exact .inr ⟨by simp,by simp[er,er1]⟩
  |_=>exact .inr ⟨by simp,by simp[er,er1]⟩
 |gap t x i o=>exact .inr ⟨by simp,λl h=>by cases h⟩
 |_=>exact .inr ⟨by simp,by simp[er]⟩
theorem jh(mv:Bool)(t:XV den):Sim (Y:=Y) (X.takeV bf mv t) (takeV mv (er t)) λx=>(erL x.1,x.2):=by
 rcases Fk (t:=t)with⟨l,rfl⟩|⟨h1,h2⟩
 ·exact(iq mv l).bind λl'=>.ret rfl
 ·have e1:X.takeV (X:=Y) bf mv t=X.bind (X.take1 bf mv t) λt'=>X.ret ([t'],false):=by
   unfold X.takeV
   simp_all
  have e2:takeV mv (er t)=(take1 mv (er t)).bind λt'=>.ret ([t'],false):=by
   unfold takeV
   simp_all
  rw[e1,e2];exact(cL mv t).bind λt'=>.ret rfl
theorem Bb(r:Nat):∀(l:List (XV den))(o:Nat),Sim (Y:=Y) (X.putB bf r o l) (putL ⟨r,o,[]⟩ (erL l)) id:=by
 intro l
 induction l with
 |nil=>intro o;exact .ret rfl
 |cons t l ih=>
  intro o
  have step:∀(g:Unit->XM den Option Y Unit)(s:SP Unit),Sim (g ()) s id->Sim (X.bind (X.rdC r o) λold=>X.bind (X.wrC bf r o t) λ_=>X.bind (if X.isHdrX old||X.isHdrX t then X.bump (r,o,1)else X.ret ()) g) ((pj ⟨r,o,[]⟩ (er t)).bind λ_=>s) id:=by
   intro g s hg;refine Sim.rdC λold=>?_;simp only[bA,lF];by_cases hh:(X.isHdrX old||X.isHdrX t)=true
   ·rw[oIP hh,oIP hh];exact Sim.wrC rfl (Sim.bump hg)
   ·rw[oIN hh,oIN hh];exact Sim.wrC rfl ((Sim.ret (a:=()) (b:=()) (f:=id) rfl).bind λ_=>hg)
  cases l with
  |nil=>exact step _ (.ret ()) (.ret rfl)
  |cons u l=>exact step _ _ (ih (o+1))
def C9(q:Key):Nat->List (Key×Nat)->List (Key×Nat)
 |0,v=>v
 |n+1,v=>C9 q n (ja v q)
theorem l8{α:Type}(l:List (Nat×α))(i:Nat)(a:α):bB (cF l i a) i=some a:=by rw[bI];simp
theorem qo{t:CT}(xs:List (den t))(i o:Nat)(f:den t->den t)(φ:TV->TV)(h:∀x,enc t (f x)=(enc t x).modify o φ):er1 (.row true t) (List.modify xs i f)=.ow ((List.map (enc t) xs).modify i λel=>el.modify o φ):=by
 show TV.ow (List.map (enc t) (List.modify xs i f))=_;congr 1;apply List.ext_getElem?;intro j;simp only[List.getElem?_map,List.getElem?_modify];by_cases hij:i=j
 ·simp
  cases xs[j]? with
  |none=>rfl
  |some e=>simp_all
 ·simp_all
theorem z8{t:CT}(e e':den t):(X.splitX bf t e).map X.isHdrX=(X.splitX bf t e').map X.isHdrX:=by
 induction t with
 |pair a b Zk Zg=>
  simp[X.splitX]
  grind
 |_=>rfl
theorem xo:∀(a a' l:List (XV den)),a.map X.isHdrX=a'.map X.isHdrX->X.hdrs a l=X.hdrs a' l:=by
 intro a
 induction a with
 |nil=>simp_all
 |cons x a ih=>
  intro a' l h
  cases a' with
  |nil=>simp at h
  |cons x' a'=>
   simp at h
   cases l with
   |nil=>rfl
   |cons b l=>simp[X.hdrs];rw[h.1,ih a' l h.2]
def zk(r off n:Nat)(f:jY):Prop:=(∀x∈f.1,x=.c r off\/(x=.n r\/x=.h r off)\/(x=.v (r,off,2)/\0<n))/\∀x∈f.2,x=.c r off\/(x=.v (r,off,2)/\0<n)
theorem zf{r off i sz o:Nat}{t:CT}(hsz:eE t=sz){v old:XV den}{f:den t->den t}{xs:List (den t)}{e:den t}{σ:St}{L:List TV}(hf:X.setD bf t o (X.asF bf v)=some f)(he:xs[i]?=some e)(ZA:BA (X.splitX bf t e) o=some old)
 (hc:σ.c r off=er1 (.row true t) xs)(hL:bB σ.ce r=some L)(ho:off<L.length):
 (pj ⟨r,off,[(i,sz,o)]⟩ (er v)).run σ=some ((),⟨σ.tm,cF σ.ce r (L.set off (er1 (.row true t) (List.modify xs i f))),if X.isHdrX old||X.isHdrX v then ja σ.vr (r,off,2)else σ.vr⟩)/\
 zk r off (if X.isHdrX old||X.isHdrX v then 1 else 0) ((pj ⟨r,off,[(i,sz,o)]⟩ (er v)).foot σ):=by
 have Z5:bA (er1 (.row true t) xs) [(i,sz,o)]=some (er old):=by
  have h3:(List.map (enc t) xs)[i]?=some (enc t e):=by simp_all
  show(match(List.map (enc t) xs)[i]? with|some el=>if el.length=sz then(match el[o]? with|some t=>bA t []|none=>none)else none|none=>none)=_;rw[h3];simp only[b9,hsz,if_true,ld ZA];rfl
 have hset:cO (er1 (.row true t) xs) [(i,sz,o)] (er v)=er1 (.row true t) (List.modify xs i f):=by
  rw[qo xs i o f (λ_=>er v) (qT (λu h hu _ x=>AE hu x) hf)];rfl
 have hW:hdW r off (er1 (.row true t) xs) (er1 (.row true t) (List.modify xs i f))=[]:=by rw[<- hset];exact vN (by simp)
 unfold pj;simp only[SP.run,SP.foot,hc,Z5,lF,hset];by_cases hh:(X.isHdrX old||X.isHdrX v)=true
 ·rw[oIP hh,oIP hh,oIP hh,oIP (by simp)];simp only[SP.run,SP.foot,hL,ho,if_true,hc,hW];refine⟨rfl,λx hx=>?_,λx hx=>?_⟩
  ·simp at hx;rcases hx with h|h|h|h
   all_goals simp_all
  ·simp_all
 ·rw[oIN hh,oIN hh,oIN hh];simp only[SP.run,SP.foot,hL,ho,if_true,hc,hW,List.nil_append];refine⟨by simp_all,λx hx=>?_,λx hx=>?_⟩
  ·simp_all
  ·simp_all
theorem DN{r off i sz:Nat}{t:CT}(hsz:eE t=sz):∀(l:List (XV den)){o:Nat}{f:den t->den t}{xs:List (den t)}{e:den t}{σ:St}{L:List TV},X.setDs bf t o l=some f->xs[i]?=some e->o+l.length<=sz ->
 σ.c r off=er1 (.row true t) xs->bB σ.ce r=some L->off<L.length ->
 (putL ⟨r,off,[(i,sz,o)]⟩ (erL l)).run σ=some ((),⟨σ.tm,cF σ.ce r (L.set off (er1 (.row true t) (List.modify xs i f))),C9 (r,off,2) (X.hdrs ((X.splitX bf t e).drop o) l) σ.vr⟩)/\
 zk r off (X.hdrs ((X.splitX bf t e).drop o) l) ((putL ⟨r,off,[(i,sz,o)]⟩ (erL l)).foot σ):=by
 intro l
 induction l with
 |nil=>intro o f xs e σ L h;simp[X.setDs]at h
 |cons v l ih=>
  intro o f xs e σ L hf he ho hc hL Y5
  have hlen:(X.splitX bf t e).length=sz:=by rw[<- cx,lf,b9,hsz]
  simp only[oLC]at ho
  obtain⟨old,ZA⟩:∃old,BA (X.splitX bf t e) o=some old:=by
   rw[oo];exact⟨_,oGE (by omega)⟩
  have U3:(X.splitX bf t e).drop o=old::(X.splitX bf t e).drop (o+1):=by
   rw[oo]at ZA
   have Yj:o<(X.splitX bf t e).length:=by omega
   rw[List.drop_eq_getElem_cons Yj];rw[oGE Yj]at ZA
   injection ZA with ZA
   rw[ZA]
  cases l with
  |nil=>
   simp only[X.setDs]at hf;obtain⟨h1,h2⟩:=zf (r:=r) (off:=off) (i:=i) hsz hf he ZA hc hL Y5
   have e1:X.hdrs ((X.splitX bf t e).drop o) [v]=if X.isHdrX old||X.isHdrX v then 1 else 0:=by rw[U3];simp[X.hdrs]
   have e2:putL ⟨r,off,[(i,sz,o)]⟩ (erL [v])=(pj ⟨r,off,[(i,sz,o)]⟩ (er v)).bind λ_=>.ret ():=rfl;refine⟨?_,?_⟩
   ·rw[e2,SP.run_bind,h1,e1];by_cases hh:(X.isHdrX old||X.isHdrX v)=true
    ·rw[oIP hh,oIP hh];rfl
    ·rw[oIN hh,oIN hh];rfl
   ·rw[e2,bD _ _ h1,e1];simpa[SP.foot]using h2
  |cons w vs=>
   simp only[X.setDs]at hf;split at hf
   case h_2=>simp at hf
   rename_i f1 g h1 h2
   injection hf with hf
   subst hf;obtain⟨p1,p2⟩:=zf (r:=r) (off:=off) (i:=i) hsz h1 he ZA hc hL Y5
   have SK:(List.modify xs i f1)[i]?=some (f1 e):=by simp[List.getElem?_modify,he]
   have Q1:∀(vr:List (Key×Nat)),(⟨σ.tm,cF σ.ce r (L.set off (er1 (.row true t) (List.modify xs i f1))),vr⟩:St).c r off=er1 (.row true t) (List.modify xs i f1):=by
    intro vr;unfold St.c;simp only[l8];simp[Y5]
   have MT:=ih (o:=o+1) (σ:=⟨σ.tm,cF σ.ce r (L.set off (er1 (.row true t) (List.modify xs i f1))),if X.isHdrX old||X.isHdrX v then ja σ.vr (r,off,2)else σ.vr⟩) h2 SK (by simp only[oLC]at ho⊢;omega) (Q1 _) (l8 _ _ _) (by simpa using Y5);obtain⟨q1,q2⟩:=MT
   have e2:putL ⟨r,off,[(i,sz,o)]⟩ (erL (v::w::vs))=(pj ⟨r,off,[(i,sz,o)]⟩ (er v)).bind λ_=>putL ⟨r,off,[(i,sz,o+1)]⟩ (erL (w::vs)):=by
    have hfit:bn.fits ⟨r,off,[(i,sz,o)]⟩ 1=true:=by simp only[bn.fits,List.reverse_cons,List.reverse_nil,List.nil_append];simp only[oLC]at ho;simpa using(by omega:o+1<sz)
    show(pj ⟨r,off,[(i,sz,o)]⟩ (er v)).bind (λ_=>if bn.fits ⟨r,off,[(i,sz,o)]⟩ 1 then putL ⟨r,off,[(i,sz,o+1)]⟩ (erL (w::vs))else .fail)=_;rw[hfit];rfl
   have e3:X.hdrs ((X.splitX bf t e).drop o) (v::w::vs)=(if X.isHdrX old||X.isHdrX v then 1 else 0)+X.hdrs ((X.splitX bf t (f1 e)).drop (o+1)) (w::vs):=by
    rw[U3];show _+X.hdrs ((X.splitX bf t e).drop (o+1)) (w::vs)=_;rw[xo _ ((X.splitX bf t (f1 e)).drop (o+1)) _ (by rw[List.map_drop,List.map_drop,z8 e (f1 e)])]
   have e4:List.modify (List.modify xs i f1) i g=List.modify xs i λe=>g (f1 e):=by
    apply List.ext_getElem?;intro j;simp only[List.getElem?_modify];by_cases hij:i=j
    ·simp only[hij,if_true];cases xs[j]?<;>rfl
    ·simp[hij]
   refine⟨?_,?_⟩
   ·rw[e2,SP.run_bind,p1];simp only[oBS];rw[q1,e3,pe,List.set_set,e4];congr 2;by_cases hh:(X.isHdrX old||X.isHdrX v)=true
    ·rw[oIP hh,oIP hh,Nat.add_comm 1];rfl
    ·rw[oIN hh,oIN hh,Nat.zero_add]
   ·rw[e2,bD _ _ p1,e3];refine⟨λx hx=>?_,λx hx=>?_⟩
    ·rcases List.mem_append.1 hx with hx|hx
     ·rcases p2.1 x hx with h|h|⟨h,h'⟩
      ·exact .inl h
      ·exact .inr (.inl h)
      ·exact .inr (.inr ⟨h,by omega⟩)
     ·rcases q2.1 x hx with h|h|⟨h,h'⟩
      ·exact .inl h
      ·exact .inr (.inl h)
      ·exact .inr (.inr ⟨h,by omega⟩)
    ·rcases List.mem_append.1 hx with hx|hx
     ·rcases p2.2 x hx with h|⟨h,h'⟩
      ·exact .inl h
      ·exact .inr ⟨h,by omega⟩
     ·rcases q2.2 x hx with h|⟨h,h'⟩
      ·exact .inl h
      ·exact .inr ⟨h,by omega⟩
theorem Ax(q:Key):∀(n:Nat){σ:XS den}{k:Unit->XS den->Option Y}{y:Y},X.bumps q n σ k=some y->∃ σ',erS σ'=⟨(erS σ).tm,(erS σ).ce,C9 q n σ.vr⟩/\(∀x∈σ.lg.1,x∈σ'.lg.1)/\(∀x∈σ.lg.2,x∈σ'.lg.2)/\(0<n->Loc.v q∈σ'.lg.1/\Loc.v q∈σ'.lg.2)/\k () σ'=some y:=by
 intro n
 induction n with
 |zero=>intro σ k y h;exact⟨σ,rfl,λ_ h=>h,λ_ h=>h,λh=>by omega,h⟩
 |succ n ih=>
  intro σ k y h;have ⟨σ',h1,h2,h3,h4,h5⟩:=ih (show X.bumps q n ⟨σ.tm,σ.ce,ja σ.vr q,(.v q :: σ.lg.1,.v q :: σ.lg.2)⟩ k=some y from h);exact⟨σ',h1,λx hx=>h2 x (by simp[hx]),λx hx=>h3 x (by simp[hx]),λ_=>⟨h2 _ (by simp),h3 _ (by simp)⟩,h5⟩
theorem wO{G G1 G2:(u:CT)->Option (den u->den u)}(hG:∀u f,G u=some f->∃f1 g,G1 u=some f1/\G2 u=some g/\∀x,f x=g (f1 x)):∀{t:CT}{o:Nat}{f:den t->den t},X.setD bf t o G=some f->∃f1 g,X.setD bf t o G1=some f1/\X.setD bf t o G2=some g/\∀x,f x=g (f1 x):=by
 intro t
 induction t with
 |pair a b Zk Zg=>
  intro o f h;simp only[X.setD]at h⊢;by_cases ho:o<eE a
  ·rw[oIP ho]at h;obtain⟨h1,e1,rfl⟩:=dA h;have ⟨f1,g,e2,e3,e4⟩:=Zk e1;rw[oIP ho,oIP ho,e2,e3];exact⟨_,_,rfl,rfl,λx=>by show(h1 x.1,x.2)=(g (f1 x.1),x.2);rw[e4]⟩
  ·rw[oIN ho]at h;obtain⟨h1,e1,rfl⟩:=dA h;have ⟨f1,g,e2,e3,e4⟩:=Zg e1;rw[oIN ho,oIN ho,e2,e3];exact⟨_,_,rfl,rfl,λx=>by show(x.1,h1 x.2)=(x.1,g (f1 x.2));rw[e4]⟩
 |nat=>intro o f h;simp[X.setD]at h
 |_=>
  intro o f h
  cases o with
  |succ o=>simp[X.setD]at h
  |zero=>
   first
    |exact hG _ f h
    |(have ⟨a,b,c,d,_⟩:=hG _ f h;exact⟨a,b,c,d,λ_=>trivial⟩)
theorem xW{t:CT}(xs:List (den t))(i:Nat)(f1 g f:den t->den t)(h:∀x,f x=g (f1 x)):List.modify xs i f=List.modify (List.modify xs i f1) i g:=by
 apply List.ext_getElem?
 grind
theorem ua{pl:List (den .nat×Nat×Nat)}{i sz o:Nat}{v w:XV den}{vs:List (XV den)}:∀{u:CT}{f:den u->den u},X.setHs bf (pl++[(i,sz,o)]) (v::w::vs) u=some f->∃f1 g,X.setH bf (pl++[(i,sz,o)]) v u=some f1/\X.setHs bf (pl++[(i,sz,o+1)]) (w::vs) u=some g/\∀x,f x=g (f1 x):=by
 induction pl with
 |nil=>
  intro u f h
  cases u with
  |row ow t=>cases ow with
   |false=>simp[X.setHs]at h
   |true=>
    simp only[List.nil_append,X.setHs,X.setH]at h⊢;split at h
    ·rename_i hsz;obtain⟨F,h1,rfl⟩:=dA h;simp only[X.setDs]at h1;split at h1
     ·rename_i f1 g e1 e2
      injection h1 with h1
      have MA:=e1;rw[oIP hsz,oIP hsz,e2];refine⟨λxs=>List.modify xs i f1,λxs=>List.modify xs i g,?_,rfl,λx=>xW x i f1 g F λy=>by rw[<- h1]⟩;rw[MA];rfl
     ·simp_all
    ·simp at h
  |_=>simp[X.setHs]at h
 |cons hp pl ih=>
  intro u f h;obtain⟨i0,YS,o0⟩:=hp
  obtain⟨q,qs,hq⟩:∃q qs,pl++[(i,sz,o)]=q::qs:=by cases pl with|nil=>exact⟨_,_,rfl⟩|cons a b=>exact⟨_,_,rfl⟩
  obtain⟨q',qs',Pn⟩:∃q qs,pl++[(i,sz,o+1)]=q::qs:=by cases pl with|nil=>exact⟨_,_,rfl⟩|cons a b=>exact⟨_,_,rfl⟩
  cases u with
  |row ow t=>cases ow with
   |false=>simp only[List.cons_append,hq]at h;simp[X.setHs]at h
   |true=>
    simp only[List.cons_append,hq,Pn,X.setHs,X.setH]at h⊢;split at h
    ·rename_i hsz;obtain⟨F,h1,rfl⟩:=dA h
     obtain⟨f1,g,e1,e2,e3⟩:=wO (G1:=X.setH bf (q::qs) v) (G2:=X.setHs bf (q'::qs') (w::vs)) (λu f hf=>by
      rw[<- hq]at hf;obtain⟨a,b,c,d,e⟩:=ih hf;rw[hq]at c;rw[Pn]at d
      exact⟨a,b,c,d,e⟩) h1
     rw[oIP hsz,oIP hsz,e1,e2];exact⟨_,_,rfl,rfl,λx=>xW x i0 f1 g F e3⟩
    ·simp at h
  |_=>simp only[List.cons_append,hq]at h;simp[X.setHs]at h
theorem yS(v:XV den):∀(hs:List (den .nat×Nat×Nat)),hs≠[]->X.setHs bf hs [v]=X.setH bf hs v:=by
 intro hs
 induction hs with
 |nil=>simp_all
 |cons h1 hs ih=>
  intro _;funext u
  cases hs with
  |nil=>cases u with
   |row ow t=>cases ow with
    |true=>rfl
    |false=>rfl
   |_=>rfl
  |cons h2 hs=>cases u with
   |row ow t=>cases ow with
    |true=>
     simp[X.setHs,X.setH]
     simp_all
    |false=>rfl
   |_=>rfl
theorem xq{pl:List Hop}{i sz o j:Nat}(hj:o≠j)(v:TV):∀{t:TV},bA (cO t (pl++[(i,sz,o)]) v) (pl++[(i,sz,j)])=bA t (pl++[(i,sz,j)]):=by
 induction pl with
 |nil=>
  intro t
  cases t with
  |ow c=>
   show bA (.ow (c.modify i λel=>el.modify o λt1=>cO t1 [] v)) [(i,sz,j)]=bA (.ow c) [(i,sz,j)];simp[bA]
   cases hc:c[i]? with
   |none=>rfl
   |some el=>simp_all
  |_=>rfl
 |cons h pl ih=>
  intro t;have ⟨i0,YS,o0⟩:=h
  cases t with
  |ow c=>
   show bA (.ow (c.modify i0 λel=>el.modify o0 λt1=>cO t1 (pl++[(i,sz,o)]) v)) ((i0,YS,o0)::(pl++[(i,sz,j)]))=bA (.ow c) ((i0,YS,o0)::(pl++[(i,sz,j)]));simp[bA]
   cases hc:c[i0]? with
   |none=>rfl
   |some el=>
    simp;split
    ·cases he:el[o0]? with
     |none=>rfl
     |some t1=>exact ih
    ·rfl
  |_=>rfl
theorem zi{r off:Nat}{pl:List (den .nat×Nat×Nat)}{i sz:Nat}{u:CT}:∀(l:List (XV den)){o:Nat}{f:den u->den u}{x:den u}{σ:St}{L:List TV},X.setHs bf (pl++[(i,sz,o)]) l u=some f->0<l.length->o+l.length<=sz ->
 (∀j,j<l.length->∃old,bA (er1 u x) (pl++[(i,sz,o+j)])=some old/\lG old=false)->(∀v∈l,X.isHdrX v=false)->σ.c r off=er1 u x->bB σ.ce r=some L->off<L.length ->
 (putL ⟨r,off,pl++[(i,sz,o)]⟩ (erL l)).run σ=some ((),⟨σ.tm,cF σ.ce r (L.set off (er1 u (f x))),σ.vr⟩)/\
 (∀z∈((putL ⟨r,off,pl++[(i,sz,o)]⟩ (erL l)).foot σ).1,z=.c r off\/z=.n r\/z=.h r off)/\∀z∈((putL ⟨r,off,pl++[(i,sz,o)]⟩ (erL l)).foot σ).2,z=.c r off:=by
 intro l
 induction l with
 |nil=>intro o f x σ L _ h;simp at h
 |cons v l ih=>
  intro o f x σ L hf _ ho ZA hh hc hL Y5;obtain⟨old,hg,Ny⟩:=ZA 0 (by simp);rw[Nat.add_zero]at hg
  have NV:lG (er v)=false:=by rw[lF];exact hh v (by simp)
  have Tl:∀(f1:den u->den u),X.setH bf (pl++[(i,sz,o)]) v u=some f1->(pj ⟨r,off,pl++[(i,sz,o)]⟩ (er v)).run σ=some ((),⟨σ.tm,cF σ.ce r (L.set off (er1 u (f1 x))),σ.vr⟩)/\(pj ⟨r,off,pl++[(i,sz,o)]⟩ (er v)).foot σ=([.c r off,.n r,.h r off],[.c r off]):=by
   intro f1 h1;have hs:=ub h1 x;unfold pj;simp only[SP.run,SP.foot,hc];rw[hg];simp only[Ny,NV,Bool.or_false,Bool.false_eq_true,if_false,SP.run,SP.foot,hL,Y5,if_true,hc,vN (show pl++[(i,sz,o)]≠[] by simp),List.nil_append];rw[hs];exact⟨by first|rfl|trivial,by first|rfl|trivial⟩
  cases l with
  |nil=>
   rw[yS v _ (by simp)]at hf;obtain⟨h1,h2⟩:=Tl f hf;have e2:putL ⟨r,off,pl++[(i,sz,o)]⟩ (erL [v])=(pj ⟨r,off,pl++[(i,sz,o)]⟩ (er v)).bind λ_=>.ret ():=rfl;rw[e2,SP.run_bind,h1,bD _ _ h1,h2];refine⟨rfl,λz hz=>?_,λz hz=>?_⟩
   all_goals simp only[SP.foot,List.append_nil,List.mem_cons,List.not_mem_nil,or_false]at hz;exact hz
  |cons w vs=>
   obtain⟨f1,g,h1,h2,h3⟩:=ua hf;obtain⟨p1,p2⟩:=Tl f1 h1;have hs:=ub h1 x;simp only[oLC]at ho
   obtain⟨q1,q2,q3⟩:=ih (o:=o+1) (x:=f1 x) (σ:=⟨σ.tm,cF σ.ce r (L.set off (er1 u (f1 x))),σ.vr⟩) h2 (by simp) (by simp only[oLC];omega) (λj hj=>by
    obtain⟨RC,h4,h5⟩:=ZA (j+1) (by simp only[oLC]at hj⊢;omega);refine⟨RC,?_,h5⟩;rw[hs,xq (by omega),show o+1+j=o+(j+1) by omega]
    exact h4) (λv' YC=>hh v' (by simp[YC])) (by
    unfold St.c;simp only[l8]
    simp[Y5]) (l8 _ _ _) (by simpa using Y5)
   have e2:putL ⟨r,off,pl++[(i,sz,o)]⟩ (erL (v::w::vs))=(pj ⟨r,off,pl++[(i,sz,o)]⟩ (er v)).bind λ_=>putL ⟨r,off,pl++[(i,sz,o+1)]⟩ (erL (w::vs)):=by
    have hfit:bn.fits ⟨r,off,pl++[(i,sz,o)]⟩ 1=true:=by
     simp only[bn.fits,List.reverse_append,List.reverse_cons,List.reverse_nil,List.nil_append,List.cons_append];simpa using(by omega:o+1<sz)
    have XU:bn.add ⟨r,off,pl++[(i,sz,o)]⟩ 1=⟨r,off,pl++[(i,sz,o+1)]⟩:=by simp[bn.add]
    show(pj ⟨r,off,pl++[(i,sz,o)]⟩ (er v)).bind (λ_=>if bn.fits ⟨r,off,pl++[(i,sz,o)]⟩ 1 then putL (bn.add ⟨r,off,pl++[(i,sz,o)]⟩ 1) (erL (w::vs))else .fail)=_;rw[hfit,XU];rfl
   rw[e2,SP.run_bind,p1,bD _ _ p1,p2];simp only[oBS];rw[q1,pe,List.set_set,h3 x];refine⟨rfl,λz hz=>?_,λz hz=>?_⟩
   ·rcases List.mem_append.1 hz with hz|hz
    ·simpa using hz
    ·exact q2 z hz
   ·rcases List.mem_append.1 hz with hz|hz
    ·simpa using hz
    ·exact q3 z hz
theorem mT(l:List (den .nat×Nat×Nat))(i:Nat)(sz o:Nat):X.lastO (l++[(i,sz,o)])=o:=by
 induction l with
 |nil=>rfl
 |cons h l ih=>
  cases l with
  |nil=>rfl
  |cons h2 l=>simpa[X.lastO]using ih
theorem wb:∀{hs:List (den .nat×Nat×Nat)}{tv:XV den}{k:(t:CT)->den t->Option Y}{y:Y},X.elemX bf tv hs k=some y->∃l i sz o t e,hs=l++[(i,sz,o)]/\eE t=sz/\(∀j v,BA (X.splitX bf t e) j=some v->bA (er tv) (l++[(i,sz,j)])=some (er v))/\k t e=some y:=by
 intro hs
 induction hs with
 |nil=>
  intro tv k y h
  cases tv with
  |d u x=>cases u with
   |row ow t=>cases ow<;>cases h
   |_=>cases h
  |_=>cases h
 |cons h1 hs ih=>
  intro tv k y h;obtain⟨i,sz,o⟩:=h1
  cases tv with
  |d u x=>cases u with
   |row ow t=>cases ow with
    |true=>
     cases hs with
     |nil=>
      simp only[X.elemX]at h;split at h
      ·rename_i hsz;obtain⟨e,he,h2⟩:=bm (show(dw (x:List (den t)) i).bind _=some y from h);have he:(x:List (den t))[i]?=some e:=he;refine⟨[],i,sz,o,t,e,rfl,hsz,λj v hv=>?_,h2⟩
       have h3:(List.map (enc t) (x:List (den t)))[i]?=some (enc t e):=by rw[List.getElem?_map,he];rfl
       show(match(List.map (enc t) (x:List (den t)))[i]? with|some el=>if el.length=sz then(match el[j]? with|some t=>bA t []|none=>none)else none|none=>none)=_;rw[h3];simp only[b9,hsz,if_true,ld hv];rfl
      ·cases h
     |cons h2 hs=>
      simp only[X.elemX]at h;split at h
      ·rename_i hsz;obtain⟨e,he,h3⟩:=bm (show(dw (x:List (den t)) i).bind _=some y from h);have he:(x:List (den t))[i]?=some e:=he;split at h3
       ·rename_i v hv;obtain⟨l,i',sz',o',t',e',e1,e2,e3,e4⟩:=ih h3;refine⟨(i,sz,o)::l,i',sz',o',t',e',by rw[e1];rfl,e2,λj w hw=>?_,e4⟩
        have h4:(List.map (enc t) (x:List (den t)))[i]?=some (enc t e):=by rw[List.getElem?_map,he];rfl
        have:=e3 j w hw;show(match(List.map (enc t) (x:List (den t)))[i]? with|some el=>if el.length=sz then(match el[o]? with|some t=>bA t (l++[(i',sz',j)])|none=>none)else none|none=>none)=_;rw[h4];simp only[b9,hsz,if_true,ld hv];exact this
       ·cases h3
      ·cases h
    |false=>cases hs<;>cases h
   |_=>cases hs<;>cases h
  |_=>cases hs<;>cases h
theorem tY(r off:Nat)(hs:List (den .nat×Nat×Nat))(l:List (XV den))(h2:2<=hs.length):Sim (Y:=Y) (X.bind (X.rdC r off) λtv=>X.elemM bf tv hs λt e=>
 if X.lastO hs+l.length<=eE t/\0<l.length/\(((X.splitX bf t e).drop (X.lastO hs)).take l.length).all (λv=>!X.isHdrX v)=true/\l.all (λv=>!X.isHdrX v)=true then X.bind (X.optM bf (X.setXs bf tv hs l)) λYl=>X.wrI bf r off Yl else X.fail bf) (putL ⟨r,off,hs⟩ (erL l)) id:=by
 intro σ k y hk;obtain⟨pl,i,sz,o,t,e,e1,e2,e3,e4⟩:=wb hk
 have e5:X.lastO hs=o:=by rw[e1,mT]
 rw[e5]at e4;dsimp only at e4;split at e4
 case isFalse=>cases e4
 rename_i hc;obtain⟨Ze,Y9,TX,TY⟩:=hc
 have hlen:(X.splitX bf t e).length=sz:=by rw[<- cx,lf,b9,e2]
 cases hset:X.setXs bf (X.cOf σ r off) hs l with
 |none=>rw[hset]at e4;cases e4
 |some Yl=>
  rw[hset]at e4;have e4:X.wrI bf r off Yl (X.lgR (.c r off) σ) k=some y:=e4
  cases htv:X.cOf σ r off with
  |d u x=>
   rw[htv]at hset e3;obtain⟨f,hf,M7⟩:=dA (show(X.setHs bf hs l u).map (λf=>(XV.d u (f x):XV den))=some Yl from hset);subst M7;unfold X.wrI at e4;split at e4
   case h_2=>cases e4
   rename_i L hL;have hL:bB σ.ce r=some L:=hL;split at e4
   case isFalse=>cases e4
   rename_i Y5;rw[jp]at e4;rw[e1]at hf
   obtain⟨q1,q2,q3⟩:=zi (r:=r) (off:=off) (σ:=erS σ) (L:=erL L) l (x:=x) hf Y9 (by rw[<- e2];exact Ze) (λj hj=>by
    have hjs:o+j<(X.splitX bf t e).length:=by omega
    refine⟨er (X.splitX bf t e)[o+j],e3 (o+j) _ (by rw[oo];exact oGE hjs),?_⟩;rw[lF]
    have:=List.all_eq_true.1 TX (X.splitX bf t e)[o+j] (List.mem_of_getElem? (i:=j) (by
     rw[List.getElem?_take,oIP hj,List.getElem?_drop]
     exact oGE hjs))
    simpa using this) (λv hv=>by simp_all) (by rw[pU,htv];rfl) (by rw[qA,hL];rfl) (by rw[cx];exact Y5)
   rw[<- e1]at q1 q2 q3;refine⟨(),⟨σ.tm,cF σ.ce r (L.set off (.d u (f x))),σ.vr,(.n r :: .h r off :: .c r off :: σ.lg.1,.c r off :: σ.lg.2)⟩,?_,⟨λz hz=>?_,λz hz=>?_,λz hz=>by simp[hz],λz hz=>by simp[hz]⟩,e4⟩
   ·rw[q1];unfold erS erC;simp only;rw[<- jX,oQ];rfl
   ·rcases q2 z hz with h|h|h<;>simp[h]
   ·simp[q3 z hz]
  |_=>rw[htv]at hset;cases hset
theorem zl{r off i sz o:Nat}{l:List (XV den)}{tv:XV den}{σ:XS den}{k:Unit->XS den->Option Y}{y:Y}(h:X.putEl bf r off i sz o l tv σ k=some y):
 (∃t xs,tv=.d (.row true t) xs/\(eE t=sz/\o+l.length<=sz/\0<l.length)/\(X.atM bf true t xs i λe=>X.bind (X.optM bf (X.setDs bf t o l)) λf=>X.bind (X.wrI bf r off (.d (.row true t) (bf.upd t xs i f))) λ_=>X.bumps (r,off,2) (X.hdrs ((X.splitX bf t e).drop o) l)) σ k=some y)\/
 ∃t xs i' o',tv=.gap t xs i' o'/\(eE t=sz/\o=o'/\o<sz/\l.length=1)/\(X.atM bf true t xs i λ_=>X.brM bf (bf.eqN i i') (X.bind (X.optM bf (X.setDs bf t o l)) λf=>X.bind (X.wrI bf r off (.d (.row true t) (bf.upd t xs i f))) λ_=>X.bump (r,off,2))) σ k=some y:=by
 cases tv with
 |d u xs=>cases u with
  |row ow t=>cases ow with
   |true=>
    by_cases hc:eE t=sz/\o+l.length<=sz/\0<l.length
    ·simp[X.putEl,oIP hc]at h;exact .inl ⟨t,xs,rfl,hc,h⟩
    ·simp[X.putEl,oIN hc]at h;cases h
   |false=>cases h
  |_=>cases h
 |gap t xs i' o'=>
  by_cases hc:eE t=sz/\o=o'/\o<sz/\l.length=1
  ·simp[X.putEl,oIP hc]at h;exact .inr ⟨t,xs,i',o',rfl,hc,h⟩
  ·simp[X.putEl,oIN hc]at h;cases h
 |_=>cases h
theorem Ed{c:Bool}{m:XM den Option Y α}{σ:XS den}{k:α->XS den->Option Y}{y:Y}(h:X.brM bf c m σ k=some y):c=true/\m σ k=some y:=by
 cases c with
 |false=>cases h
 |true=>exact⟨rfl,h⟩
theorem BZ{t:CT}{xs:List (den t)}{i sz o:Nat}{e:den t}(hsz:eE t=sz)(he:xs[i]?=some e)(ho:o<sz):bA (cO (er1 (.row true t) xs) [(i,0,o)] .dead) [(i,sz,o)]=some .dead:=by
 have h3:(List.map (enc t) xs)[i]?=some (enc t e):=by simp_all
 show(match((List.map (enc t) xs).modify i λel=>el.modify o λ_=>TV.dead)[i]? with|some el=>if el.length=sz then(match el[o]? with|some t=>bA t []|none=>none)else none|none=>none)=_;rw[List.getElem?_modify,h3]
 have h4:o<(enc t e).length:=by rw[b9,hsz];exact ho
 simp[b9,hsz,oGE h4,bA]
theorem Bp{tv:TV}{i sz sz' o:Nat}{u v:TV}:cO (cO tv [(i,sz',o)] u) [(i,sz,o)] v=cO tv [(i,sz,o)] v:=by
 cases tv with
 |ow c=>
  simp only[cO];congr 1;apply List.ext_getElem?;intro j;simp only[List.getElem?_modify];by_cases h:i=j
  ·simp only[h,if_true]
   cases c[j]? with
   |none=>rfl
   |some el=>
    show some ((el.modify o λ_=>u).modify o λ_=>v)=some (el.modify o λ_=>v);congr 1;apply List.ext_getElem?;intro k;simp only[List.getElem?_modify];by_cases h:o=k
    ·simp only[h,if_true];cases el[k]?<;>rfl
    ·simp[h]
  ·simp[h]
 |_=>rfl
theorem wF{r off i sz o:Nat}{t:CT}{xs:List (den t)}{l:List (XV den)}{σ:XS den}{k:Unit->XS den->Option Y}{y:Y}(hcell:X.cOf σ r off=.gap t xs i o)(hc:eE t=sz/\o<sz/\l.length=1){e:den t}(he:xs[i]?=some e)
 (hk:(X.bind (X.optM bf (X.setDs bf t o l)) λf=>X.bind (X.wrI bf r off (.d (.row true t) (bf.upd t xs i f))) λ_=>X.bump (r,off,2)) (X.lgR (.c r off) σ) k=some y):
 ∃a σ',(putL ⟨r,off,[(i,sz,o)]⟩ (erL l)).run (erS σ)=some (id a,erS σ')/\ij σ σ' ((putL ⟨r,off,[(i,sz,o)]⟩ (erL l)).foot (erS σ))/\k a σ'=some y:=by
 obtain⟨hsz,ho,hl⟩:=hc
 obtain⟨v,rfl⟩:∃v,l=[v]:=by
  match l,hl with
  | [v],_=>simp_all
 cases hf:X.setDs bf t o [v]with
 |none=>rw[hf]at hk;cases hk
 |some f=>
  rw[hf]at hk
  have hset:cO (er1 (.row true t) xs) [(i,sz,o)] (er v)=er1 (.row true t) (List.modify xs i f):=by
   rw[qo xs i o f (λ_=>er v) (qT (λu h hu _ x=>AE hu x) hf)];rfl
  have V4:(erS σ).c r off=cO (er1 (.row true t) xs) [(i,0,o)] .dead:=by rw[pU,hcell];rfl
  have RV:=(fS.wrI (Y:=Y) (σ:=X.lgR (.c r off) σ) (t:=.d (.row true t) (List.modify xs i f)) (by
   show(er1 (.row true t) (List.modify xs i f)).hd=((erS σ).c r off).hd
   rw[V4,oF (by simp),<- hset,oF (by simp)])).bind (g:=λ_=>X.bump (r,off,2)) (h:=λ_=>.bump (r,off,2) (.ret ())) (f':=id) λ_=>vv (r,off,2)
  have ⟨a,σ',h1,h2,h3⟩:=RV k y hk
  have e1:putL ⟨r,off,[(i,sz,o)]⟩ (erL [v])=.rdC r off λtv=>(match bA tv [(i,sz,o)]with
   |some old=>if lG old||lG (er v)then(if 1<=1 then SP.wrC r off (cO tv [(i,sz,o)] (er v)) (.bump (r,off,2) (.ret ()))else .fail)else .wrC r off (cO tv [(i,sz,o)] (er v)) (.ret ())
   |none=>.fail).bind λ_=>.ret ():=rfl
  have e2:∀s:TV,s=(erS σ).c r off->((match bA s [(i,sz,o)]with
   |some old=>if lG old||lG (er v)then(if 1<=1 then SP.wrC r off (cO s [(i,sz,o)] (er v)) (.bump (r,off,2) (.ret ()))else .fail)else .wrC r off (cO s [(i,sz,o)] (er v)) (.ret ())
   |none=>.fail:SP Unit).bind λ_=>.ret ())=.wrC r off (er1 (.row true t) (List.modify xs i f)) (.bump (r,off,2) (.ret ())):=by
   intro s hs;rw[hs,V4,BZ hsz he ho,Bp,hset];rfl
  refine⟨a,σ',?_,⟨λx hx=>?_,λx hx=>?_,λx hx=>h2.r0 x (by simp[X.lgR,hx]),λx hx=>h2.w0 x hx⟩,h3⟩
  ·rw[e1];simp only[SP.run];rw[e2 _ rfl];exact h1
  ·rw[e1]at hx;simp only[SP.foot,List.mem_cons]at hx;rcases hx with rfl|hx
   ·exact h2.r0 _ (by simp[X.lgR])
   ·rw[e2 _ rfl]at hx;exact h2.r x hx
  ·rw[e1]at hx;simp only[SP.foot]at hx;rw[e2 _ rfl]at hx;exact h2.w x hx
theorem vm(p:XP den)(l:List (XV den)):Sim (Y:=Y) (X.putL bf p l) (putL (erP p) (erL l)) id:=by
 obtain⟨r,off,hops⟩:=p
 match hops with
 | []=>exact Bb r l off
 | [(i,sz,o)]=>
  intro σ k y hk;show ∃a σ',(putL ⟨r,off,[(i,sz,o)]⟩ (erL l)).run (erS σ)=some (id a,erS σ')/\_
  rcases zl hk with⟨t,xs,hcell,⟨hsz,hol,Wd⟩,hk⟩|⟨t,xs,i',o',hcell,⟨hsz,hoo,hol,Wd⟩,hk⟩
  rotate_left
  ·obtain⟨e,he,hk⟩:=bm (show(dw xs i).bind _=some y from hk);dsimp only at hk;obtain⟨hb,Nn⟩:=Ed hk;have hii:i=i':=Nat.eq_of_beq_eq_true hb;subst hii;subst hoo;exact wF hcell ⟨hsz,hol,Wd⟩ he Nn
  ··skip
    obtain⟨e,he,hk⟩:=bm (show(dw xs i).bind _=some y from hk)
    cases hf:X.setDs bf t o l with
    |none=>rw[hf]at hk;cases hk
    |some f=>
     rw[hf]at hk;have hk:X.wrI bf r off (.d (.row true t) (bf.upd t xs i f)) (X.lgR (.c r off) σ) (λ_ σ'=>X.bumps (r,off,2) (X.hdrs ((X.splitX bf t e).drop o) l) σ' k)=some y:=hk;unfold X.wrI at hk;split at hk
     case h_2=>cases hk
     rename_i L hL;have hL:bB σ.ce r=some L:=hL;split at hk
     case isFalse=>cases hk
     rename_i Y5;rw[jp]at hk;obtain⟨σ',h1,h2,h3,h4,h5⟩:=Ax _ _ hk
     have hc:(erS σ).c r off=er1 (.row true t) xs:=by rw[pU,hcell];rfl
     have Sq:bB (erS σ).ce r=some (erL L):=by rw[qA,hL];rfl
     obtain⟨q1,q2⟩:=DN hsz l (σ:=erS σ) hf he hol hc Sq (by rw[cx];exact Y5);refine⟨(),σ',?_,⟨λx hx=>?_,λx hx=>?_,λx hx=>h2 x (by simp[X.lgR,hx]),λx hx=>h3 x (by simp[X.lgR,hx])⟩,h5⟩
     ·rw[q1,h1];simp only[id_eq,oSJ,oPJ,true_and];congr 1;show cF (erC σ.ce) r _=erC (cF σ.ce r _);unfold erC;rw[<- jX,oQ];rfl
     ·rcases q2.1 x hx with h|(h|h)|⟨h,h'⟩
      ·exact h2 x (by simp[X.lgR,h])
      ·simp_all
      ·simp_all
      ·rw[h];exact(h4 h').1
     ·rcases q2.2 x hx with h|⟨h,h'⟩
      ·simp_all
      ·rw[h];exact(h4 h').2
 |h1::h2::hs=>exact tY r off (h1::h2::hs) l (by simp)
end
section
variable {α β γ δ Y:Type}
theorem eL(p:XP den)(t:XV den):Sim (Y:=Y) (X.peek1 bf p t) (peek1 (erP p) (er t)) er:=by
 cases t with
 |k x=>exact .ret rfl
 |d t x=>
  have own:X.isOwT t=true->Sim (Y:=Y) (X.peek1 bf p (.d t x)) (peek1 (erP p) (er (.d t x))) er:=by
   intro h;have h1:X.isOwX (.d t x:XV den)=true:=h;have ⟨c,hc⟩:=gR h1;rw[hc];show Sim (if X.isOwT t then _ else _) (SP.bind _ _) er;rw[oIP h];exact(nJ _).bind λvs=>.ret rfl
  cases t with
  |row o t=>cases o<;>first|exact .ret rfl|exact own rfl
  |nilr o=>cases o<;>first|exact .ret rfl|exact own rfl
  |int k=>exact .ret rfl
  |bool=>exact .ret rfl
  |str=>exact .ret rfl
  |nat=>exact .fail
  |pair a b=>exact .fail
 |_=>exact .fail
theorem ym(p:XP den):Sim (Y:=Y) (X.peekP bf p) (peekP (erP p)) er:=by
 have ⟨r,o,hs⟩:=p
 cases hs with
 |nil=>
  refine Sim.rdK λt=>Sim.ite (λh=>?_) λh=>?_
  ·have ⟨c,hc⟩:=gR h;rw[hc];exact(nJ _).bind λvs=>.ret rfl
  ·rw[D1 (by simp_all) (lE t)];exact(eM ⟨r,o,[]⟩).bind λt=>eL _ t
 |cons h hs=>exact(eM ⟨r,o,h::hs⟩).bind λt=>eL _ t
theorem yn(r:Nat):∀(n o:Nat),Sim (Y:=Y) (X.peekB bf r o n) (peekL ⟨r,o,[]⟩ n) erL:=by
 intro n
 induction n with
 |zero=>intro o;exact .ret rfl
 |succ n ih=>
  intro o
  cases n with
  |zero=>
   refine Sim.rdC λt=>(eL ⟨r,o,[]⟩ t).bind λt'=>?_;exact(Sim.ret (f:=erL) rfl).bind (h:=λl=>.ret (er t'::l)) λl=>.ret rfl
  |succ n=>
   exact Sim.rdC λt=>(eL ⟨r,o,[]⟩ t).bind λt'=>(ih (o+1)).bind λl=>.ret rfl
theorem Cn{r o:Nat}{l:List Hop}{i sz f n:Nat}:(⟨r,o,l++[(i,sz,f)]⟩:bn).add n=⟨r,o,l++[(i,sz,f+n)]⟩:=by
 simp[bn.add]
theorem Aj{r o:Nat}{l:List Hop}{i sz f n:Nat}:(⟨r,o,l++[(i,sz,f)]⟩:bn).fits n=decide (f+n<sz):=by
 simp[bn.fits]
theorem y9:∀{qs:List Key}{σ:St}{a:List Nat}{τ:St},(rdVs qs).run σ=some (a,τ)->τ=σ:=by
 intro qs
 induction qs with
 |nil=>intro σ a τ h;simp[rdVs,SP.run]at h;exact h.2.symm
 |cons q qs ih=>
  intro σ a τ h;have ⟨l,σ1,h1,h2⟩:=bd h;simp[SP.run]at h2;rw[<- h2.2];exact ih h1
theorem wY{p:bn}{t:TV}{σ:St}{y:TV×St}(h:(peek1 p t).run σ=some y):y.2=σ:=by
 cases t with
 |v x=>simp[peek1,SP.run]at h;rw[<- h]
 |sl c=>simp[peek1,SP.run]at h;rw[<- h]
 |ow c=>
  have ⟨l,σ1,h1,h2⟩:=bd h;simp[SP.run]at h2;rw[<- h2];exact y9 h1
 |_=>simp[peek1,SP.run]at h
theorem wX{r off:Nat}{l:List (den .nat×Nat×Nat)}{i:Nat}{sz:Nat}{tv:TV}:∀(cs:List (XV den))(o:Nat){σ:XS den}{k:List (XV den)->XS den->Option Y}{y:Y},X.peekCs bf ⟨r,off,l++[(i,sz,o)]⟩ cs σ k=some y ->
 (erS σ).c r off=tv->Loc.c r off∈σ.lg.1->(∀j v,cs[j]?=some v->bA tv (l++[(i,sz,o+j)])=some (er v))->0<cs.length->o+cs.length<=sz ->
 ∃vs σ',(peekL ⟨r,off,l++[(i,sz,o)]⟩ cs.length).run (erS σ)=some (erL vs,erS σ')/\ij σ σ' ((peekL ⟨r,off,l++[(i,sz,o)]⟩ cs.length).foot (erS σ))/\k vs σ'=some y:=by
 intro cs
 induction cs with
 |nil=>simp_all
 |cons t cs ih=>
  intro o σ k y h hc QV hg h0 hsz;obtain⟨t',σ1,r1,n1,k1⟩:=eL ⟨r,off,l++[(i,sz,o)]⟩ t σ _ y h;have r1:(peek1 ⟨r,off,l++[(i,sz,o)]⟩ (er t)).run (erS σ)=some (er t',erS σ1):=r1;have hs:erS σ1=erS σ:=wY r1
  have T9:(getPl ⟨r,off,l++[(i,sz,o)]⟩).run (erS σ)=some (er t,erS σ):=by
   have h3:bA tv (l++[(i,sz,o)])=some (er t):=hg 0 t rfl;simp only[getPl,SP.run,hc];rw[h3];rfl
  have OV:(getPl ⟨r,off,l++[(i,sz,o)]⟩).foot (erS σ)=([.c r off],[]):=by
   simp only[getPl,SP.foot,hc];have:=hg 0 t rfl;simp only[Nat.add_zero]at this;rw[this];rfl
  cases cs with
  |nil=>
   have k1:k [t'] σ1=some y:=k1;have e:peekL ⟨r,off,l++[(i,sz,o)]⟩ 1=(getPl ⟨r,off,l++[(i,sz,o)]⟩).bind λt=>(peek1 ⟨r,off,l++[(i,sz,o)]⟩ t).bind λt'=>.ret [t']:=rfl;refine⟨[t'],σ1,?_,?_,k1⟩
   ·show(peekL _ 1).run _=_;rw[e,SP.run_bind,T9];simp only[oBS,SP.run_bind,r1];rfl
   ·show ij σ σ1 ((peekL _ 1).foot _);rw[e,bD _ _ T9,bD _ _ r1,OV];refine⟨λx hx=>?_,λx hx=>?_,n1.r0,n1.w0⟩
    ·simp only[SP.foot,List.cons_append,List.nil_append,List.append_nil,List.mem_cons]at hx;rcases hx with h|h
     ·rw[h];exact n1.r0 _ QV
     ·exact n1.r x h
    ·simp only[SP.foot,List.nil_append,List.append_nil]at hx;exact n1.w x hx
  |cons u cs=>
   have P0:X.addP (⟨r,off,l++[(i,sz,o)]⟩:XP den) 1=⟨r,off,l++[(i,sz,o+1)]⟩:=by simp[X.addP]
   rw[P0]at k1;simp only[oLC]at hsz h0
   obtain⟨vs,σ2,r2,n2,k2⟩:=ih (o+1) k1 (by rw[hs];exact hc) (n1.r0 _ QV) (λj v hv=>by
    have:=hg (j+1) v (by simpa using hv)
    rw[show o+1+j=o+(j+1) by omega];exact this) (by simp) (by simp only[oLC];omega)
   have e:peekL ⟨r,off,l++[(i,sz,o)]⟩ (u::cs).length.succ=(getPl ⟨r,off,l++[(i,sz,o)]⟩).bind λt=>(peek1 ⟨r,off,l++[(i,sz,o)]⟩ t).bind λt'=>(peekL ⟨r,off,l++[(i,sz,o+1)]⟩ (u::cs).length).bind λr=>.ret (t'::r):=by
    show(getPl _).bind (λt=>(peek1 _ t).bind λt'=>if bn.fits ⟨r,off,l++[(i,sz,o)]⟩ 1 then(peekL (bn.add ⟨r,off,l++[(i,sz,o)]⟩ 1) (cs.length+1)).bind λr=>.ret (t'::r)else .fail)=_
    have h3:decide (o+1<sz)=true:=by simpa using(by omega:o+1<sz)
    rw[Aj,Cn,h3];rfl
   refine⟨t'::vs,σ2,?_,?_,k2⟩
   ·show(peekL _ (u::cs).length.succ).run _=_;rw[e,SP.run_bind,T9];simp only[oBS,SP.run_bind,r1,r2];rfl
   ·show ij σ σ2 ((peekL _ (u::cs).length.succ).foot _);rw[e,bD _ _ T9,bD _ _ r1,bD _ _ r2,OV];refine⟨λx hx=>?_,λx hx=>?_,λx hx=>n2.r0 x (n1.r0 x hx),λx hx=>n2.w0 x (n1.w0 x hx)⟩
    ·simp only[SP.foot,List.cons_append,List.nil_append,List.append_nil,List.mem_cons,List.mem_append]at hx;rcases hx with h|h|h
     ·rw[h];exact n2.r0 _ (n1.r0 _ QV)
     ·exact n2.r0 _ (n1.r x h)
     ·exact n2.r x h
    ·simp only[SP.foot,List.nil_append,List.append_nil,List.mem_append]at hx;rcases hx with h|h
     ·exact n2.w0 _ (n1.w x h)
     ·exact n2.w x h
theorem sf(p:XP den)(n:Nat):Sim (Y:=Y) (X.peekL bf p n) (peekL (erP p) n) erL:=by
 obtain⟨r,off,hops⟩:=p
 cases hops with
 |nil=>exact yn r n off
 |cons h1 hs=>
  intro σ k y hk;have hk:X.elemM bf (X.cOf σ r off) (h1::hs) (λt e=>if X.lastO (h1::hs)+n<=eE t/\0<n then X.peekCs bf ⟨r,off,h1::hs⟩ (((X.splitX bf t e).drop (X.lastO (h1::hs))).take n)else X.fail bf) (X.lgR (.c r off) σ) k=some y:=hk;obtain⟨l,i,sz,o,t,e,e1,e2,e3,e4⟩:=wb hk
  have e5:X.lastO (h1::hs)=o:=by rw[e1,mT]
  rw[e5]at e4;dsimp only at e4;split at e4
  ·rename_i hc
   have hlen:(X.splitX bf t e).length=sz:=by rw[<- cx,lf,b9,e2]
   have hcl:(((X.splitX bf t e).drop o).take n).length=n:=by rw[oLT,List.length_drop,hlen];omega
   rw[e1]at e4
   have ⟨vs,σ',r1,n1,k1⟩:=wX (tv:=er (X.cOf σ r off)) _ o e4 (pU σ r off) (by simp[X.lgR]) (λj v hv=>e3 (o+j) v (by
    rw[oo];rw[List.getElem?_take]at hv;split at hv
    ·simp_all
    ·simp at hv)) (by omega) (by omega)
   rw[hcl]at r1 n1
   have ep:erP ⟨r,off,h1::hs⟩=⟨r,off,l++[(i,sz,o)]⟩:=by unfold erP;rw[e1]
   rw[ep];exact⟨vs,σ',r1,⟨n1.r,n1.w,λx hx=>n1.r0 x (by simp[X.lgR,hx]),λx hx=>n1.w0 x hx⟩,k1⟩
  ·cases e4
theorem yp(r:Nat):∀(l:List (XV den))(i:Nat),Sim (Y:=Y) (X.nameL r i l) (nameL r i (erL l)) erL:=by
 intro l
 induction l with
 |nil=>intro i;exact .ret rfl
 |cons t l ih=>
  intro i
  cases ho:X.isOwX t with
  |true=>
   obtain⟨c,hc⟩:=gR ho
   have e:nameL r i (erL (t::l))=.rdV (r,0,0) λg=>.rdV (r,i,1) λh=>(nameL r (i+1) (erL l)).bind λl'=>.ret (.pk ⟨r,i,[]⟩ [g,h]::l'):=by
    simp[erL,hc,nameL]
   rw[e];simp[X.nameL,ho];exact Sim.rdV λg=>Sim.rdV λh=>(ih (i+1)).bind λl'=>.ret rfl
  |false=>
   have e:nameL r i (erL (t::l))=(nameL r (i+1) (erL l)).bind λl'=>.ret (er t::l'):=by
    have h1:gg (er t)=false:=by rw[lE,ho]
    simp[erL]
    cases he:er t with
    |ow c=>rw[he]at h1;simp[gg]at h1
    |_=>rfl
   rw[e];simp[X.nameL,ho,if_false];exact(ih (i+1)).bind λl'=>.ret rfl
theorem C4(l:List (XV den)):(erL l).any gg=l.any X.isOwX:=by
 induction l with
 |nil=>rfl
 |cons t l ih=>simp[erL,lE,ih]
theorem li(d:Nat)(l:List (XV den)):Sim (Y:=Y) (X.names bf d l) (names d (erL l)) erL:=by
 unfold X.names names;rw[C4];by_cases h:l.any X.isOwX=true
 ·rw[oIP h,oIP h];exact Sim.new rfl (yp _ l 0)
 ·rw[oIN h,oIN h];exact .ret rfl
theorem qj(agg:Bool)(l:List (XV den)):er (X.shapedX agg l)=iY agg (erL l):=by
 cases agg with
 |true=>rfl
 |false=>exact tr l
theorem bG(d:Nat){t:XV den}{t':TV}(e:er t=t'):Sim (Y:=Y) (X.wr bf d t) (wr d t') id:=by subst e;exact n7 d t
theorem fB(d:Nat)(agg:Bool){l:List (XV den)}{l':List TV}(e:erL l=l'):Sim (Y:=Y) (X.inst bf d agg l) (inst d agg l') id:=by
 subst e;exact(li d l).bind λl'=>bG d (qj agg l')
theorem gn(t:XV den):Sim (Y:=Y) (X.natOf bf t) (natOf (er t)) id:=by
 cases t with
 |d t x=>cases t with
  |int k=>
   refine Sim.nat λm hm=>?_;subst hm;exact .ret rfl
  |_=>exact .fail
 |_=>exact .fail
theorem n9(t:XV den):Sim (Y:=Y) (X.lenOf bf t) (iy (er t)) id:=by
 cases t with
 |d t x=>cases t with
  |row o t=>cases o with
   |false=>exact .ret (List.length_map _).symm
   |true=>exact .fail
  |nilr o=>cases o<;>exact .ret rfl
  |_=>exact .fail
 |pk p vs=>
  refine(cC p _ vs).bind λ_=>(vo p).bind λt=>?_
  cases t with
  |d t x=>cases t with
   |row o t=>cases o with
    |true=>exact .ret (show _=(List.map List.length (List.map (enc t) x)).length by simp;rfl)
    |false=>exact .fail
   |nilr o=>cases o with
    |true=>exact .ret rfl
    |false=>exact .fail
   |_=>exact .fail
  |_=>exact .fail
 |pw p vs sz lo n=>exact(cC p _ vs).bind λ_=>.ret rfl
 |_=>exact .fail
theorem qi(o:Option Opd)(d:Nat):Sim (Y:=Y) (X.optNat bf o d) (optNat o d) id:=by
 cases o with
 |none=>exact .ret rfl
 |some o=>exact(mj o).bind λt=>gn t
theorem lh(mv:Bool):∀l:List (Nat×Nat×Opd),Sim (Y:=Y) (X.takeParts bf mv l) (takeParts mv l) erL:=by
 intro l
 induction l with
 |nil=>exact .ret rfl
 |cons x l ih=>
  have ⟨off,n,x⟩:=x;refine(mj x).bind λt=>?_;rw[lV];refine(iq mv _).bind λl1=>?_;refine Sim.ite (λhn=>?_) λ_=>.fail;rw[oIP (by rw[cx];exact hn)];exact ih.bind λl'=>.ret (jU _ _)
theorem zo:∀(l cells:List (XV den))(off:Nat),erL (X.placeX cells off l)=fq (erL cells) off (erL l):=by
 intro l
 induction l with
 |nil=>intros;rfl
 |cons t l ih=>intro cells off;simp[X.placeX,erL,fq];rw[ih,oQ]
theorem tG:∀(ps:List (Nat×Nat×Opd))(cells l:List (XV den)),erL (X.assembleX cells ps l)=iS (erL cells) ps (erL l):=by
 intro ps
 induction ps with
 |nil=>intros;rfl
 |cons p ps ih=>
  intro cells l;simp[X.assembleX,iS];rw[ih,zo,jT,lM]
theorem xH(sz:Nat):∀(n:Nat)(l:List (XV den)),(X.chunksX sz n l).map erL=gC sz n (erL l):=by
 intro n
 induction n with
 |zero=>intros;rfl
 |succ n ih=>intro l;simp only[X.chunksX,List.map_cons,gC];rw[ih,jT,lM]
theorem lU(z:List Value):erL (z.map (X.cellX bf))=z.map bN:=by
 rw[eT,List.map_map];exact List.map_congr_left λy _=>nT y
theorem jR{z:List Value}(h:(z.map (X.cellX bf)).all X.okCellX=true):(z.map bN).all bQ=true:=by
 rw[<- lU,eT,List.all_map];rw[List.all_eq_true]at h⊢;intro x hx;exact xe (h x hx)
end
section
variable {α β γ δ Y:Type}
theorem qX(v:Value):wV (pure v)=some v:=rfl
theorem Fy{k:IntKind}{a b:Int}{op:BinOp}(h:op=.add\/op=.sub\/op=.mul\/op=.and\/op=.or\/op=.xor\/op=.andNot):cP op (.int k a) (.int k b)=some (.int k (arR op k a b)):=by
 rcases h with rfl|rfl|rfl|rfl|rfl|rfl|rfl<;>simp[cP,Go.binOp,Op.intArith,Op.intBits,arR,qX]
theorem Fw{k:IntKind}{a b:Int}{op:BinOp}(h:op=.eql\/op=.neq\/op=.lss\/op=.leq\/op=.gtr\/op=.geq):cP op (.int k a) (.int k b)=some (.bool (cmR op a b)):=by
 rcases h with rfl|rfl|rfl|rfl|rfl|rfl<;>simp[cP,Go.binOp,Op.intCmp,cmR,qX]
theorem Fv{k:IntKind}{a b:Int}{op:BinOp}(h:op=.quo\/op=.rem)(hb:b≠0):cP op (.int k a) (.int k b)=some (.int k (arR op k a b)):=by
 rcases h with rfl|rfl<;>simp[cP,Go.binOp,Op.intDiv,arR,qX,hb]
theorem C0{k k':IntKind}{a:Int}{n:Nat}{op:BinOp}(h:op=.shl\/op=.shr):cP op (.int k a) (.int k' n)=some (.int k (shR op k a n)):=by
 rcases h with rfl|rfl<;>simp[cP,Go.binOp,Op.shift,shR,qX,show ¬((n:Int)<0) by omega]
theorem CZ{a b:ByteArray}:cP .eql (.string a) (.string b)=some (.bool (F7 a b))/\cP .neq (.string a) (.string b)=some (.bool (!(F7 a b))):=⟨rfl,rfl⟩
theorem n5(d:Nat){op:BinOp}{x y r:Value}{t:XV den}(h:cP op x y=some r)(hf:dF r=true)(e:er t=.v r):Sim (Y:=Y) (X.wr bf d t) ((eW (cP op x y)).bind λr=>if dF r then wr d (.v r)else .fail) id:=by
 rw[h];show Sim _ (if dF r then wr d (.v r)else .fail) id;rw[oIP hf];exact bG d e
theorem EJ(d:Nat)(op:BinOp)(a b:XV den):Sim (Y:=Y) (X.binX bf d op a b) ((me (er a)).bind λa=>(me (er b)).bind λb=>(eW (cP op a b)).bind λr=>if dF r then wr d (.v r)else .fail) id:=by
 cases a with
 |d t x=>cases t with
  |int k=>cases b with
   |d u y=>cases u with
    |int k'=>
     have ar:(op=.add\/op=.sub\/op=.mul\/op=.and\/op=.or\/op=.xor\/op=.andNot)->Sim (Y:=Y) (if h:k'=k then X.wr bf d (.d (.int k) (bf.ar op k x (h▸y)))else X.fail bf) ((eW (cP op (.int k x) (.int k' y))).bind λr=>if dF r then wr d (.v r)else .fail) id:=by
      intro hop;by_cases h:k'=k
      ·subst h;rw[dif_pos rfl];exact n5 d (Fy hop) rfl rfl
      ·rw[dif_neg h];exact .fail
     have cm:(op=.eql\/op=.neq\/op=.lss\/op=.leq\/op=.gtr\/op=.geq)->Sim (Y:=Y) (if h:k'=k then X.wr bf d (.d .bool (bf.cm op k x (h▸y)))else X.fail bf) ((eW (cP op (.int k x) (.int k' y))).bind λr=>if dF r then wr d (.v r)else .fail) id:=by
      intro hop;by_cases h:k'=k
      ·subst h;rw[dif_pos rfl];exact n5 d (Fw hop) rfl rfl
      ·rw[dif_neg h];exact .fail
     have dv:(op=.quo\/op=.rem)->Sim (Y:=Y) (if h:k'=k then X.brM bf (bf.cm .neq k' y (bf.lit k' 0)) (X.wr bf d (.d (.int k) (bf.ar op k x (h▸y))))else X.fail bf) ((eW (cP op (.int k x) (.int k' y))).bind λr=>if dF r then wr d (.v r)else .fail) id:=by
      intro hop;by_cases h:k'=k
      ·subst h;rw[dif_pos rfl];refine Sim.br λhb=>n5 d (Fv hop ?_) rfl rfl;have hb:((y:Int) != 0)=true:=hb
       simp_all
      ·rw[dif_neg h];exact .fail
     cases op with
     |add=>exact ar (by simp)
     |sub=>exact ar (by simp)
     |mul=>exact ar (by simp)
     |and=>exact ar (by simp)
     |or=>exact ar (by simp)
     |xor=>exact ar (by simp)
     |andNot=>exact ar (by simp)
     |eql=>exact cm (by simp)
     |neq=>exact cm (by simp)
     |lss=>exact cm (by simp)
     |leq=>exact cm (by simp)
     |gtr=>exact cm (by simp)
     |geq=>exact cm (by simp)
     |quo=>exact dv (by simp)
     |rem=>exact dv (by simp)
     |shl=>
      refine Sim.nat λn hn=>?_;have hn:y=(n:Int):=hn;subst hn;exact n5 d (C0 (.inl rfl)) rfl rfl
     |shr=>
      refine Sim.nat λn hn=>?_;have hn:y=(n:Int):=hn;subst hn;exact n5 d (C0 (.inr rfl)) rfl rfl
    |_=>exact .fail
   |_=>exact .fail
  |str=>cases b with
   |d u y=>cases u with
    |str=>
     cases op with
     |eql=>exact n5 d CZ.1 rfl rfl
     |neq=>exact n5 d CZ.2 rfl rfl
     |_=>exact .fail
    |_=>exact .fail
   |_=>exact .fail
  |_=>exact .fail
 |_=>exact .fail
theorem B5:∀{ks:List FK}{xs ys:List (XV den)}{c:Bool},X.eqAll bf ks xs ys=some c->∃vs ws,bE (erL xs)=some vs/\bE (erL ys)=some ws/\bM ks vs ws=some c:=by
 intro ks
 induction ks with
 |nil=>
  intro xs ys c h
  cases xs with
  |nil=>cases ys with
   |nil=>simp only[X.eqAll,oSJ]at h;subst h;exact⟨[],[],rfl,rfl,rfl⟩
   |cons=>simp[X.eqAll]at h
  |cons=>simp[X.eqAll]at h
 |cons f ks ih=>
  intro xs ys c h
  cases xs with
  |nil=>cases f<;>simp[X.eqAll]at h
  |cons x xs=>cases ys with
   |nil=>cases f<;>simp[X.eqAll]at h
   |cons y ys=>
    cases x with
    |d t a=>cases y with
     |d u b=>
      cases f with
      |i=>cases t with
       |int k=>cases u with
        |int k'=>
         simp only[X.eqAll]at h;split at h
         ·rename_i hk;subst hk;obtain⟨c',h1,rfl⟩:=dA h;obtain⟨vs,ws,e1,e2,e3⟩:=ih h1;refine⟨.int k' a::vs,.int k' b::ws,by simp only[erL,er,er1,bE,e1,oMS],by simp only[erL,er,er1,bE,e2,oMS],?_⟩;simp only[bM,if_true,e3,oMS];rfl
         ·simp at h
        |_=>simp[X.eqAll]at h
       |_=>simp[X.eqAll]at h
      |b=>cases t with
       |bool=>cases u with
        |bool=>
         simp only[X.eqAll]at h;obtain⟨c',h1,rfl⟩:=dA h;obtain⟨vs,ws,e1,e2,e3⟩:=ih h1;refine⟨.bool a::vs,.bool b::ws,by simp only[erL,er,er1,bE,e1,oMS],by simp only[erL,er,er1,bE,e2,oMS],?_⟩;simp only[bM,e3,oMS];rfl
        |_=>simp[X.eqAll]at h
       |_=>simp[X.eqAll]at h
      |s=>cases t with
       |str=>cases u with
        |str=>
         simp only[X.eqAll]at h;obtain⟨c',h1,rfl⟩:=dA h;obtain⟨vs,ws,e1,e2,e3⟩:=ih h1;refine⟨.string a::vs,.string b::ws,by simp only[erL,er,er1,bE,e1,oMS],by simp only[erL,er,er1,bE,e2,oMS],?_⟩;simp only[bM,e3,oMS];rfl
        |_=>simp[X.eqAll]at h
       |_=>simp[X.eqAll]at h
     |_=>cases f<;>simp[X.eqAll]at h
    |_=>cases f<;>simp[X.eqAll]at h
theorem vn{f:Opd->XM den Option Y (XV den)}{g:Opd->SP β}{e:XV den->β}(h:∀x,Sim (f x) (g x) e):∀l:List Opd,Sim (X.mapM' f l) (Ey g l) (List.map e):=by
 intro l
 induction l with
 |nil=>exact .ret rfl
 |cons x l ih=>exact(h x).bind λy=>ih.bind λl'=>.ret rfl
def FH(x:XV den):Value:=match x with|.d (.int k) n=>.int k n|_=>undef
theorem yv(t:XV den):Sim (Y:=Y) (X.intOf bf t) (me (er t)) FH:=by
 cases t with
 |d t x=>cases t with
  |int k=>exact .ret rfl
  |_=>exact .fail
 |_=>exact .fail
theorem BG{mx:Bool}{k:IntKind}:∀{r:List (XV den)}{a m:Int},X.mmAll bf mx k a r=some m->mZ mx k a (r.map FH)=some m:=by
 intro r
 induction r with
 |nil=>intro a m h;exact h
 |cons x r ih=>
  intro a m h
  cases x with
  |d t b=>cases t with
   |int k'=>
    simp only[X.mmAll]at h;split at h
    ·rename_i hk;subst hk;have:=ih h;simp[FH,mZ];exact this
    ·simp at h
   |_=>simp[X.mmAll]at h
  |_=>simp[X.mmAll]at h
theorem yB(t:XV den):Sim (Y:=Y) (X.capOf bf t) (match er t with|.ptr p vs=>.ret (.ptr p vs)|.ip cs=>.ret (.ip cs)|.v x=>.ret (.v x)|.sl c=>.ret (.sl c)|_=>.fail) er:=by
 have Ve:Sim (Y:=Y) (if X.okCellX t && !X.isOwX t then X.ret t else X.fail bf) (match er t with|.ptr p vs=>.ret (.ptr p vs)|.ip cs=>.ret (.ip cs)|.v x=>.ret (.v x)|.sl c=>.ret (.sl c)|_=>.fail) er:=by
  refine Sim.ite (λh=>?_) λ_=>.fail;simp at h
  rcases iv h.1 h.2 with⟨y,hy⟩|⟨c,hc⟩
  ·rw[hy];exact .ret hy
  ·rw[hc];exact .ret hc
 cases t with
 |ptr p vs=>exact .ret rfl
 |ip cs=>exact .ret rfl
 |_=>exact Ve
theorem BM:∀{t:CT}{l r:List (XV den)}{x:den t},X.joinX bf t l=some (x,r)->erL l=enc t x++erL r:=by
 have one:∀{u:CT}(hu:X.oneT u=true){l r:List (XV den)}{x:den u},X.joinC bf u l=some (x,r)->erL l=enc u x++erL r:=by
  intro u hu l r x h;unfold X.joinC at h;split at h
  ·rename_i t y r';have ⟨z,h1,h2⟩:=dA h
   injection h2 with h2 h3
   subst h2;subst h3;rw[kT hu,wm h1];rfl
  ·simp at h
 intro t
 induction t with
 |pair a b Zk Zg=>
  intro l r x h;simp[X.joinX]at h;split at h
  ·rename_i x1 r1 h1;split at h
   ·rename_i y1 r2 h2
    injection h with h
    injection h with h h3
    subst h;subst h3;rw[Zk h1,Zg h2,<- List.append_assoc];rfl
   ·simp at h
  ·simp at h
 |nat=>intro l r x h;simp[X.joinX]at h
 |int k=>intro l r x h;exact one rfl h
 |bool=>intro l r x h;exact one rfl h
 |str=>intro l r x h;exact one rfl h
 |row o t=>intro l r x h;exact one rfl h
 |nilr o=>intro l r x h;exact one rfl h
theorem qy{t:CT}{l:List (XV den)}{x:den t}(h:X.joinOne bf t l=some x):erL l=enc t x:=by
 unfold X.joinOne at h;split at h
 ·rename_i y h1
  injection h with h
  subst h;rw[BM h1];simp[erL]
 ·simp at h
theorem xm{t:CT}:∀{ls:List (List (XV den))}{xs:List (den t)},X.joinAll bf t ls=some xs->ls.map erL=xs.map (enc t):=by
 intro ls
 induction ls with
 |nil=>intro xs h;simp[X.joinAll]at h;subst h;rfl
 |cons l ls ih=>
  intro xs h;simp[X.joinAll]at h;split at h
  ·rename_i x xs' h1 h2
   injection h with h
   subst h;simp only[List.map_cons];rw[qy h1,ih h2]
  ·simp at h
theorem Bs{Zt:Option CT}{ls:List (List (XV den))}{v:XV den}(h:X.rowOf bf Zt ls=some v):er v=.ow (ls.map erL):=by
 unfold X.rowOf at h;split at h
 ·injection h with h;subst h;rfl
 ·split at h
  ·obtain⟨es,h1,rfl⟩:=dA h;rw[xm h1];rfl
  ·simp at h
theorem vA{Zt:Option CT}{n:Nat}{l:List (XV den)}{v:XV den}(h:X.repOf bf Zt n l=some v):er v=.ow (List.replicate n (erL l)):=by
 unfold X.repOf at h;split at h
 ·obtain⟨e,h1,rfl⟩:=dA h;rw[qy h1];show TV.ow (List.map _ (List.replicate n e))=_
  simp_all
 ·simp at h
theorem kX(t:CT)(xs:List (den t)):(List.map (enc t) xs).all (λe=>e.length==eE t)=true:=by
 simp[b9]
theorem Ci{sz bytes:Nat}{c c2:List (List TV)}(h1:c.all (λe=>e.length==sz)=true)(h2:c2.all (λe=>e.length==sz)=true)(h:cM bytes c.length c2.length=true):
 ((c++c2).all (λe=>e.length==sz)&&decide (c.length+c2.length<=1099511627776)&&decide ((c.length+c2.length)*bytes<=140737488355328))=true:=by
 rw[List.all_append,h1,h2];simpa[cM]using h
theorem xU(d sz bytes:Nat)(Zt:Option CT)(s x:XV den):Sim (Y:=Y) (X.appX bf d sz bytes Zt s x) (match er s,er x with
 |.ow c,.ow c2=>if(c++c2).all (λe=>e.length==sz)&&decide (c.length+c2.length<=1099511627776)&&decide ((c.length+c2.length)*bytes<=140737488355328)then inst d false [.ow (c++c2)]else .fail
 |.ow c,.sl c2=>if(c++c2).all (λe=>e.length==sz)&&decide (c.length+c2.length<=1099511627776)&&decide ((c.length+c2.length)*bytes<=140737488355328)then inst d false [.ow (c++c2)]else .fail
 |_,_=>.fail) id:=by
 have ZO:∀{t:CT}{c c3:List (den t)}{c' Vc:List (List TV)}{a:XV den},eE t=sz\/(c'=[]/\Vc=[])->c'=c.map (enc t)->Vc=c3.map (enc t)->er a=.ow (c'++Vc)->cM bytes c'.length Vc.length=true ->
  Sim (Y:=Y) (X.inst bf d false [a]) (if(c'++Vc).all (λe=>e.length==sz)&&decide (c'.length+Vc.length<=1099511627776)&&decide ((c'.length+Vc.length)*bytes<=140737488355328)then inst d false [.ow (c'++Vc)]else .fail) id:=by
  intro t c c3 c' Vc a hsz e1 e2 ea hok;rw[oIP]
  ·exact fB d false (by simp only[erL,ea])
  ·refine Ci ?_ ?_ hok
   ·rcases hsz with hsz|⟨h1,h2⟩
    ·rw[e1,<- hsz];exact kX t c
    ·rw[h1];rfl
   ·rcases hsz with hsz|⟨h1,h2⟩
    ·rw[e2,<- hsz];exact kX t c3
    ·rw[h2];rfl
 cases s with
 |d ts c=>cases ts with
  |row ow t=>cases ow with
   |false=>exact .fail
   |true=>cases x with
    |d tx c2=>cases tx with
     |row o t2=>
      refine Sim.ite (λhsz=>Sim.opt λc3 h3=>Sim.br λhok=>?_) λ_=>.fail;have h4:=u4 h3;have hok:cM bytes (List.length c) (List.length c2)=true:=hok
      have h5:List.map (enc t2) (c2:List (den t2))=List.map (enc t) (c3:List (den t)):=by
       cases o with
       |true=>
        have h6:=h4
        injection h6 with h6
        injection h6 with h6
        exact h6.symm
       |false=>
        have h6:=h4
        injection h6 with h6
        injection h6 with h6
        exact h6.symm
      cases o<;>exact ZO (t:=t) (c:=c) (c3:=c3) (.inl hsz) rfl h5 (by show TV.ow (List.map (enc t) (List.append c c3))=_;rw[h5,<- List.map_append];rfl) (by simpa using hok)
     |nilr o=>
      refine Sim.ite (λhsz=>Sim.br λhok=>?_) λ_=>.fail;have hok:cM bytes (List.length c) 0=true:=hok;cases o<;>exact ZO (t:=t) (c:=c) (c3:=[]) (.inl hsz) rfl rfl (by simp[er,er1]) (by simpa using hok)
     |_=>exact .fail
    |_=>exact .fail
  |nilr ow=>cases ow with
   |false=>exact .fail
   |true=>cases x with
    |d tx c2=>cases tx with
     |row o t2=>
      refine Sim.ite (λhsz=>Sim.opt λc3 h3=>Sim.br λhok=>?_) λ_=>.fail;have h4:=u4 h3;have hok:cM bytes 0 (List.length c2)=true:=hok
      have h5:List.map (enc t2) (c2:List (den t2))=List.map (enc (X.resT Zt t2)) (c3:List (den (X.resT Zt t2))):=by
       cases o with
       |true=>
        have h6:=h4
        injection h6 with h6
        injection h6 with h6
        exact h6.symm
       |false=>
        have h6:=h4
        injection h6 with h6
        injection h6 with h6
        exact h6.symm
      cases o<;>exact ZO (t:=t2) (c:=[]) (c3:=c2) (.inl hsz) rfl rfl (by show TV.ow (List.map (enc (X.resT Zt t2)) (List.append [] c3))=_;rw[h5];rfl) (by simpa using hok)
     |nilr o=>
      refine Sim.br λhok=>?_;have hok:cM bytes 0 0=true:=hok;cases o<;>exact ZO (t:=.bool) (c:=[]) (c3:=[]) (.inr ⟨rfl,rfl⟩) rfl rfl rfl hok
     |_=>exact .fail
    |_=>exact .fail
  |_=>exact .fail
 |_=>exact .fail
end
section
variable {α β γ δ Y:Type}
theorem nM{x:Opd}{σ:XS den}{k:XV den->XS den->Option Y}{y:Y}(h:X.opd bf x σ k=some y):∃t σ',(opd x).run (erS σ)=some (er t,erS σ)/\erS σ'=erS σ/\ij σ σ' ((opd x).foot (erS σ))/\k t σ'=some y:=by
 have ⟨t,σ',h1,h2,h3⟩:=mj x σ k y h
 have e:erS σ'=erS σ:=by
  cases x with
  |t i=>simp[opd,SP.run]at h1;exact h1.2.symm
  |c v=>simp[opd,SP.run]at h1;exact h1.2.symm
  |f f=>simp[opd,SP.run]at h1;exact h1.2.symm
 rw[e]at h1;exact⟨t,σ',h1,e,h2,h3⟩
theorem nP{t:CT}(h:X.flat1 t=true):∀x:den t,∃v,er (.d t x)=.v v:=by
 cases t<;>simp[X.flat1]at h
 all_goals exact λx=>⟨_,rfl⟩
theorem By{d:Nat}{tc ta tb:XV den}{σ:XS den}{k:Unit->XS den->Option Y}{y:Y}(h:X.pickX bf d tc ta tb σ k=some y):∃c v t,er tc=.v (.bool c)/\er (if c then ta else tb)=.v v/\er t=.v v/\X.wr bf d t σ k=some y:=by
 unfold X.pickX at h;split at h
 ·rename_i c k1 x k2 z;split at h
  ·rename_i hk;subst hk;refine⟨c,.int k2 (bif c then x else z),_,rfl,?_,rfl,h⟩;cases c<;>rfl
  ·cases h
 ·rename_i c x z;refine⟨c,.bool (bif c then x else z),_,rfl,?_,rfl,h⟩;cases c<;>rfl
 ·rename_i c x z;refine⟨c,.string (bif c then x else z),_,rfl,?_,rfl,h⟩;cases c<;>rfl
 ·split at h
  ·rename_i hf
   rename den .bool=>c
   cases c with
   |true=>exact⟨true,_,_,rfl,(nP hf _).choose_spec,(nP hf _).choose_spec,h⟩
   |false=>cases h
  ·cases h
 ·split at h
  ·rename_i hf
   rename den .bool=>c
   cases c with
   |false=>exact⟨false,_,_,rfl,(nP hf _).choose_spec,(nP hf _).choose_spec,h⟩
   |true=>cases h
  ·cases h
 ·cases h
theorem C7(HT:List (Nat×CT))(d:Nat)(c a b:Opd):Sim (Y:=Y) (X.ev1 bf HT d (.pick c a b)) (ev1 d (.pick c a b)) id:=by
 intro σ k y hk;obtain⟨tc,σ1,r1,e1,n1,hk⟩:=nM (show X.opd bf c σ (λtc σ1=>X.opd bf a σ1 λta σ2=>X.opd bf b σ2 λtb σ3=>X.pickX bf d tc ta tb σ3 k)=some y from hk);obtain⟨ta,σ2,r2,e2,n2,hk⟩:=nM hk;obtain⟨tb,σ3,r3,e3,n3,hk⟩:=nM hk;obtain⟨cv,v,t,h1,h2,h3,hk⟩:=By hk;obtain⟨u,σ',r4,n4,hk⟩:=bG d h3 σ3 k y hk
 have MB:erS σ3=erS σ:=by rw[e3,e2,e1]
 have hx:(opd (if cv then a else b)).run (erS σ)=some (.v v,erS σ)/\ij σ1 σ3 ((opd (if cv then a else b)).foot (erS σ)):=by
  rw[e1]at r2 n2;rw[e2,e1]at r3 n3
  cases cv with
  |true=>exact⟨by simp_all,⟨λx hx=>n3.r0 x (n2.r x hx),λx hx=>n3.w0 x (n2.w x hx),λx hx=>n3.r0 x (n2.r0 x hx),λx hx=>n3.w0 x (n2.w0 x hx)⟩⟩
  |false=>exact⟨by simp_all,⟨λx hx=>n3.r x hx,λx hx=>n3.w x hx,λx hx=>n3.r0 x (n2.r0 x hx),λx hx=>n3.w0 x (n2.w0 x hx)⟩⟩
 obtain⟨Z0,Wy⟩:=hx
 have rc:(opd c).run (erS σ)=some (.v (.bool cv),erS σ):=by rw[r1,h1]
 refine⟨(),σ',?_,?_,hk⟩
 ·simp only[ev1];rw[SP.run_bind,rc];simp;rw[SP.run_bind,Z0]
  simp_all
 ·simp only[ev1];rw[bD _ _ rc];simp only;rw[bD _ _ Z0];rw[MB]at n4;refine⟨λx hx=>?_,λx hx=>?_,λx hx=>n4.r0 x (Wy.r0 x (n1.r0 x hx)),λx hx=>n4.w0 x (Wy.w0 x (n1.w0 x hx))⟩
  ·rcases List.mem_append.1 hx with hx|hx
   ·exact n4.r0 x (Wy.r0 x (n1.r x hx))
   ·rcases List.mem_append.1 hx with hx|hx
    ·exact n4.r0 x (Wy.r x hx)
    ·exact n4.r x hx
  ·rcases List.mem_append.1 hx with hx|hx
   ·exact n4.w0 x (Wy.w0 x (n1.w x hx))
   ·rcases List.mem_append.1 hx with hx|hx
    ·exact n4.w0 x (Wy.w x hx)
    ·exact n4.w x hx
theorem zL{n:Option Nat}{cs:List (XV den)}{t:XV den}(h:X.loadIp n cs=some t):loadIp n (erL cs)=some (er t):=by
 cases n with
 |none=>
  cases cs with
  |nil=>simp[X.loadIp]at h
  |cons x cs=>
   have ZO:(if X.okCellX x && !X.isOwX x then some x else none)=some t->loadIp none (erL (x::cs))=some (er t):=λh=>by
    split at h
    ·rename_i hc
     injection h with h
     subst h;simp at hc
     rcases iv hc.1 hc.2 with⟨y,hy⟩|⟨c,hc⟩
     ·simp only[loadIp,erL,hy]
     ·simp only[loadIp,erL,hc]
    ·simp at h
   cases x with
   |ip l=>simp only[X.loadIp,oSJ]at h;subst h;rfl
   |fn f l=>simp only[X.loadIp,oSJ]at h;subst h;rfl
   |_=>exact ZO h
 |some n=>
  simp only[X.loadIp]at h;split at h
  ·rename_i hc
   injection h with h
   subst h;simp only[oBA,oDE]at hc;simp only[loadIp];rw[oIP]
   ·simp only[er,jT]
   ·simp only[oBA,oDE];refine⟨by rw[cx];exact hc.1,?_⟩;rw[<- jT,eT,List.all_map,List.all_eq_true];intro x hx;have:=List.all_eq_true.1 hc.2 x hx;simp at this;simp
    rcases iv this.1 this.2 with⟨y,hy⟩|⟨c,hc⟩
    ·rw[hy]
    ·rw[hc]
  ·simp at h
theorem oJ:∀{t:CT}(x:den t),X.flatT t=true->∃vs,bE (enc t x)=some vs/\vs.length=eE t/\(vs.all dF=true)/\enc t x=vs.map TV.v/\0<eE t:=by
 intro t
 induction t with
 |int k=>intro x _;exact⟨[.int k x],rfl,rfl,rfl,rfl,Nat.one_pos⟩
 |bool=>intro x _;exact⟨[.bool x],rfl,rfl,rfl,rfl,by decide⟩
 |str=>intro x _;exact⟨[.string x],rfl,rfl,rfl,rfl,by decide⟩
 |pair a b Zk Zg=>
  intro x h;simp only[X.flatT,oBA]at h;obtain⟨vs,e1,e2,e3,e4,e5⟩:=Zk x.1 h.1;obtain⟨ws,f1,f2,f3,f4,f5⟩:=Zg x.2 h.2;refine⟨vs++ws,?_,by simp[e2,f2,eE],by simp_all,by show enc a x.1++enc b x.2=_;rw[e4,f4];simp,by simp[eE];omega⟩;show bE (enc a x.1++enc b x.2)=_;rw[e4,f4]
  have:∀l:List Value,bE (l.map TV.v)=some l:=by
   intro l
   induction l with
   |nil=>rfl
   |cons y l ih=>simp[bE,ih]
  rw[<- List.map_append,this]
 |_=>intro x h;simp[X.flatT]at h
theorem zr(sz:Nat)(h0:0<sz):∀(vs:List Value)(c:List (List TV))(lo j:Nat)(rest:List Value),j+vs.length=sz->(∀el,c[lo]?=some el->el.length=sz)->iw sz c (lo*sz+j) (vs++rest)=iw sz (c.modify lo λel=>el.take j++vs.map TV.v) ((lo+1)*sz) rest:=by
 intro vs
 induction vs with
 |nil=>
  intro c lo j rest hj YW
  have hj:j=sz:=by simpa using hj
  subst hj;simp
  have e:(c.modify lo λel=>el.take j)=c:=by
   apply List.ext_getElem?;intro i;rw[List.getElem?_modify];by_cases h:lo=i
   ·subst h
    cases hc:c[lo]? with
    |none=>rfl
    |some el=>simp only[if_true];show some (el.take j)=some el;rw[List.take_of_length_le (by rw[YW el hc];exact Nat.le_refl _)]
   ·simp only[oIN h];cases c[i]?<;>rfl
  rw[e,Nat.succ_mul]
 |cons v vs ih=>
  intro c lo j rest hj YW;simp only[oLC]at hj
  have hjs:j<sz:=by omega
  show iw sz (c.modify ((lo*sz+j)/sz) λel=>el.modify ((lo*sz+j)%sz) λ_=>.v v) (lo*sz+j+1) (vs++rest)=_
  have e1:(lo*sz+j)/sz=lo:=by rw[Nat.mul_comm,Nat.mul_add_div h0,Nat.div_eq_of_lt hjs];rfl
  have e2:(lo*sz+j)%sz=j:=by rw[Nat.mul_comm,Nat.mul_add_mod,Nat.mod_eq_of_lt hjs]
  rw[e1,e2,show lo*sz+j+1=lo*sz+(j+1) by omega]
  have Us:∀el,(c.modify lo λel=>el.modify j λ_=>.v v)[lo]?=some el->el.length=sz:=by simp_all
  rw[ih _ lo (j+1) rest (by omega) Us];congr 1;apply List.ext_getElem?;intro i;simp only[List.getElem?_modify];by_cases h:lo=i
  ·subst h;simp only[if_true]
   cases hc:c[lo]? with
   |none=>rfl
   |some el=>
    simp only[Option.map_eq_map,oMS,oSJ];have hl:=YW el hc;apply List.ext_getElem?;intro m;simp only[List.map_cons];by_cases hm:m<j
    ·rw[List.getElem?_append_left (by rw[oLT,oLM];omega),List.getElem?_append_left (by rw[oLT];omega),List.getElem?_take,List.getElem?_take,oIP (by omega),oIP (by omega),List.getElem?_modify]
     have:¬j=m:=by omega
     simp only[this,if_false];simp
    ·by_cases hm2:m=j
     ·subst hm2;rw[List.getElem?_append_left (by rw[oLT,oLM];omega),List.getElem?_append_right (by rw[oLT];omega),List.getElem?_take,oIP (by omega),List.getElem?_modify,oLT]
      have:m-min m el.length=0:=by omega
      rw[this]
      have h3:m<el.length:=by omega
      rw[oGE h3];simp
     ·rw[List.getElem?_append_right (by rw[oLT,oLM];omega),List.getElem?_append_right (by rw[oLT];omega),oLT,oLT,oLM]
      have:m-min j el.length=(m-min (j+1) el.length)+1:=by omega
      rw[this,List.getElem?_cons_succ]
  ·simp only[oIN h];cases c[i]?<;>rfl
theorem wZ{t:CT}(hf:X.flatT t=true):∀(ys xs:List (den t))(lo:Nat)(vals:List Value),bE ((ys.map (enc t)).flatten)=some vals->lo+ys.length<=xs.length->iw (eE t) (xs.map (enc t)) (lo*eE t) vals=(xs.take lo++ys++xs.drop (lo+ys.length)).map (enc t):=by
 intro ys
 induction ys with
 |nil=>
  intro xs lo vals h hl;simp only[List.map_nil,List.flatten_nil,bE,oSJ]at h;subst h;simp[iw]
 |cons y ys ih=>
  intro xs lo vals h hl;simp only[oLC]at hl;obtain⟨vs,e1,e2,e3,e4,e5⟩:=oJ y hf
  obtain⟨ws,h2,rfl⟩:∃ws,bE ((ys.map (enc t)).flatten)=some ws/\vals=vs++ws:=by
   simp only[List.map_cons,List.flatten_cons,e4]at h
   have:∀(l:List Value)(r:List TV),bE (l.map TV.v++r)=(bE r).map (l++·):=by
    intro l r
    induction l with
    |nil=>simp
    |cons z l ih=>simp only[List.map_cons,List.cons_append,bE,ih];cases bE r<;>rfl
   rw[this]at h;obtain⟨ws,h3,h4⟩:=dA h
   simp_all
  have:=zr (eE t) e5 vs (xs.map (enc t)) lo 0 ws (by omega) (λel YW=>by
   rw[List.getElem?_map]at YW
   cases hx:xs[lo]? with
   |none=>rw[hx]at YW;simp at YW
   |some z=>rw[hx]at YW;simp only[oMS,oSJ]at YW;rw[<- YW,b9])
  rw[Nat.add_zero]at this;rw[this]
  have e6:((xs.map (enc t)).modify lo λel=>el.take 0++vs.map TV.v)=(xs.set lo y).map (enc t):=by
   apply List.ext_getElem?;intro i;by_cases hi:lo=i
   ·subst hi
    have hlt:lo<xs.length:=by omega
    simp[hlt,e4]
   ·simp[hi]
  rw[e6,ih (xs.set lo y) (lo+1) ws h2 (by rw[List.length_set];omega)];congr 1;rw[List.take_set,List.drop_set,oIP (by omega)]
  have:(xs.take (lo+1)).set lo y=xs.take lo++[y]:=by
   rw[List.take_succ_eq_append_getElem (by omega:lo<xs.length),List.set_append_right _ _ (by rw[oLT];omega)];congr 1
   have:lo-(xs.take lo).length=0:=by rw[oLT];omega
   rw[this];rfl
  rw[this];simp;rw[show lo+1+ys.length=lo+(ys.length+1) by omega]
end
section
variable {α β γ δ Y:Type}
theorem nX{c:Bool}{m m':XM den Option Y α}{s:SP β}{f:α->β}(h:c=true->Sim m s f)(h':c=false->Sim m' s f):Sim (X.forkM bf c m m') s f:=by
 intro σ k y hk
 cases c with
 |true=>exact h rfl σ k y hk
 |false=>exact h' rfl σ k y hk
def xD(v:XV den):List (List TV):=match er v with|.sl c=>c|.ow c=>c|_=>[]
theorem qa(t:XV den):Sim (Y:=Y) (X.contentOf bf t) (contentOf (er t)) xD:=by
 cases t with
 |d t x=>cases t with
  |row o t=>cases o with
   |false=>exact .ret rfl
   |true=>exact .fail
  |nilr o=>cases o<;>exact .ret rfl
  |_=>exact .fail
 |pk p vs=>
  refine(cC p _ vs).bind λ_=>(eM p).bind λt=>?_
  cases t with
  |d t x=>cases t with
   |row o t=>cases o with
    |true=>exact .ret rfl
    |false=>exact .fail
   |nilr o=>cases o with
    |true=>exact .ret rfl
    |false=>exact .fail
   |_=>exact .fail
  |_=>exact .fail
 |pw p vs sz lo n=>
  refine(cC p _ vs).bind λ_=>(eM p).bind λt=>?_
  cases t with
  |d t x=>cases t with
   |row o t=>cases o with
    |true=>
     refine .ret ?_;show List.map (enc t) ((List.drop lo x).take n)=((List.map (enc t) x).drop lo).take n
     simp_all
    |false=>exact .fail
   |_=>exact .fail
  |_=>exact .fail
 |_=>exact .fail
theorem yY{t:CT}(hf:X.flatT t=true):∀zs:List (den t),∃vals,bE ((zs.map (enc t)).flatten)=some vals/\vals.all dF=true/\(zs≠[]->∃v vs,vals=v::vs)/\(zs=[]->vals=[]):=by
 intro zs
 induction zs with
 |nil=>exact⟨[],rfl,rfl,λh=>absurd rfl h,λ_=>rfl⟩
 |cons z zs ih=>
  obtain⟨ws,h1,h2,_⟩:=ih;obtain⟨vs,e1,e2,e3,e4,e5⟩:=oJ z hf
  have:∀(l:List Value)(r:List TV),bE (l.map TV.v++r)=(bE r).map (l++·):=by
   intro l r
   induction l with
   |nil=>simp
   |cons z l ih=>simp[List.map_cons,bE,ih];cases bE r<;>rfl
  refine⟨vs++ws,?_,by simp_all,λ_=>?_,λh=>by simp at h⟩
  ·simp_all
  ·cases vs with
   |nil=>simp_all
   |cons v vs=>simp_all
theorem zQ{t:CT}(hf:X.flatT t=true)(x:den t):(enc t x).all isV=true:=by
 have ⟨vs,_,_,_,e4,_⟩:=oJ x hf;rw[e4,List.all_map,List.all_eq_true];intro y _;rfl
theorem Ap{t:CT}(hf:X.flatT t=true)(xs ys:List (den t))(lo n:Nat)(Yr:lo+min ys.length n<=xs.length):
 B7 (eE t) (xs.map (enc t)) (ys.map (enc t)) lo n=if 0<min ys.length n then some (min ys.length n,some ((fk xs lo (min ys.length n) ys).map (enc t)))else some (min ys.length n,none):=by
 obtain⟨vals,h1,h2,h3,h4⟩:=yY hf (ys.take (min ys.length n))
 have e5:0<eE t:=by
  clear h1 h2 h3 h4 Yr
  induction t with
  |pair a b Zk Zg=>
   simp only[X.flatT,oBA]at hf;simp only[eE];have:=Zk hf.1 [] [];omega
  |int k=>exact Nat.one_pos
  |bool=>exact Nat.one_pos
  |str=>exact Nat.one_pos
  |_=>simp[X.flatT]at hf
 unfold B7;rw[List.length_map,<- List.map_take,h1];by_cases hm:0<min ys.length n
 ·rw[oIP hm];obtain⟨v,vs,hv⟩:=h3 (by intro h;have:=congrArg List.length h;rw[oLT,List.length_nil]at this;omega);rw[hv];simp only;rw[oIP,<- hv]
  ·have hp:=wZ hf (ys.take (min ys.length n)) xs lo vals h1 (by rw[oLT];omega);rw[hp]
   have e:(List.take (min ys.length n) ys).length=min ys.length n:=by rw[oLT];omega
   rw[e];rfl
  ·simp only[oBA,oDE];refine⟨⟨⟨⟨⟨e5,kX t xs⟩,kX t ys⟩,by rw[List.length_map];exact Yr⟩,?_⟩,by rw[<- hv];exact h2⟩;rw[<- List.map_drop,<- List.map_take,List.all_map,List.all_eq_true];intro x _;exact zQ hf x
 ·rw[oIN hm]
  have:ys.take (min ys.length n)=[]:=by simp_all
  rw[h4 this];rw[oIP];simp only[oBA,oDE];exact⟨e5,kX t ys⟩
theorem Cw(d sz:Nat)(p:XP den)(lo:Nat)(n:Option Nat)(tv c2:XV den):Sim (Y:=Y) (X.cpyX bf d sz p lo n tv c2) (match bA (er tv) p.hops with|some (.ow c)=>rK d (erP p) (er tv) (B7 sz c (xD c2) lo (n.getD c.length))|_=>.fail) id:=by
 refine nK λv hv=>?_;rw[hv]
 cases v with
 |d tt x=>cases tt with
  |row o t=>cases o with
   |false=>exact .fail
   |true=>cases c2 with
    |d t2 y=>cases t2 with
     |row o2 t2=>
      by_cases hc:ki t2 t=true/\eE t=sz/\X.flatT t=true
      ·have he:=lP hc.1;subst he;show Sim (if h:ki t2 t2=true/\eE t2=sz/\X.flatT t2=true then _ else _) _ id;rw[dif_pos hc];refine Sim.opt λYl htv=>Sim.br λhok=>?_
       have hok:jg lo (lo+min (List.length (y:List (den t2))) (n.getD (List.length (x:List (den t2))))) (List.length (x:List (den t2)))=true:=by
        have h9:=hok;cases n<;>exact h9
       have Yr:lo+min (List.length (y:List (den t2))) (n.getD (List.length (x:List (den t2))))<=List.length (x:List (den t2)):=by
        simp only[jg,oBA,oDE]at hok;exact hok.2
       have SG:xD (.d (.row o2 t2) y:XV den)=List.map (enc t2) (y:List (den t2)):=by cases o2<;>rfl
       have ZH:er (.d (.row true t2) x:XV den)=.ow (List.map (enc t2) (x:List (den t2))):=rfl;rw[ZH,SG];simp only[List.length_map];rw[<- hc.2.1,Ap hc.2.2 x y lo _ Yr];have hset:=DD htv;refine nX (λhb=>?_) λhb=>?_
       ·have hb:Nat.blt 0 (min (List.length (y:List (den t2))) (n.getD (List.length (x:List (den t2)))))=true:=by cases n<;>exact hb
        rw[oIP (by simp_all)];refine Sim.wrC ?_ (bG d ?_)
        ·rw[hset];cases n<;>rfl
        ·cases n<;>rfl
       ·have hb:Nat.blt 0 (min (List.length (y:List (den t2))) (n.getD (List.length (x:List (den t2)))))=false:=by cases n<;>exact hb
        rw[oIN (by intro h;rw[Bool.eq_false_iff]at hb;exact hb (by simpa using h))];refine bG d ?_;cases n<;>rfl
      ·show Sim (if h:ki t2 t=true/\eE t=sz/\X.flatT t=true then _ else _) _ id;rw[dif_neg hc];exact .fail
     |nilr o2=>
      refine Sim.ite (λh0=>?_) λ_=>.fail
      have SG:xD (.d (.nilr o2) y:XV den)=[]:=by cases o2<;>rfl
      have ZH:er (.d (.row true t) x:XV den)=.ow (List.map (enc t) (x:List (den t))):=rfl;rw[ZH,SG]
      have:B7 sz (List.map (enc t) (x:List (den t))) [] lo (n.getD (List.map (enc t) (x:List (den t))).length)=some (0,none):=by
       simp[B7,bE,h0]
      simp only[this];exact bG d rfl
     |_=>exact .fail
    |_=>exact .fail
  |_=>exact .fail
 |_=>exact .fail
end
section
variable {α β γ δ Y:Type}
theorem bi{x:Opd}{g:XV den->XM den Option Y γ}{h:TV->SP δ}{f:γ->δ}(H:∀t,Sim (g t) (h (er t)) f):Sim (X.bind (X.opd bf x) g) ((opd x).bind h) f:=(mj x).bind H
theorem yA(k:Nat){s:SP β}{f:α->β}:∀(n:Nat)(g:Nat->XM den Option Y α)(i:Nat),(∀j,i<=j->j<i+n->k=j->Sim (g j) s f)->Sim (X.caseM bf k n g i) s f:=by
 intro n
 induction n with
 |zero=>intro g i _;exact .fail
 |succ n ih=>
  intro g i h;refine nX (λhb=>h i (Nat.le_refl _) (by omega) ?_) λhb=>ih g (i+1) λj h1 h2 h3=>h j (by omega) (by omega) h3;have hb:Nat.beq k i=true:=hb
  simp_all
theorem EI(HT:List (Nat×CT))(d:Nat)(op:TOp):Sim (Y:=Y) (X.ev1 bf HT d op) (ev1 d op) id:=by
 cases op with
 |mov x=>
  refine bi λt=>?_
  cases t with
  |d t y=>
   cases ho:X.isOwT t with
   |true=>
    obtain⟨c,hc⟩:=gR (v:=.d t y) ho;rw[hc];show Sim (if X.isOwT t then _ else _) _ id;rw[oIP ho]
    cases x with
    |c v=>exact fB d false (by simp only[erL,hc])
    |_=>exact .fail
   |false=>
    show Sim (if X.isOwT t then _ else _) _ id;rw[oIN (by rw[ho];simp)]
    have h1:gg (er (.d t y))=false:=by rw[lE];exact ho
    cases t with
    |row o t=>cases o<;>first|exact bG d rfl|simp[X.isOwT]at ho
    |nilr o=>cases o<;>first|exact bG d rfl|simp[X.isOwT]at ho
    |_=>exact bG d rfl
  |agg l=>
   show Sim (if l.any X.isOwX then _ else _) (if(erL l).any gg then .fail else wr d (.agg (erL l))) id;rw[C4];refine Sim.ite (λ_=>.fail) λh=>?_;rw[oIN h];exact bG d rfl
  |gap=>exact .fail
  |_=>exact bG d rfl
 |asn mv x=>
  refine bi λt=>?_
  cases t with
  |ptr p vs=>exact bG d rfl
  |ip cs=>exact bG d rfl
  |fn f cap=>exact bG d rfl
  |d t y=>
   cases t with
   |row o t=>cases o<;>exact(jh mv (.d _ y)).bind λl=>fB d l.2 rfl
   |nilr o=>cases o<;>exact(jh mv (.d _ y)).bind λl=>fB d l.2 rfl
   |_=>exact(jh mv (.d _ y)).bind λl=>fB d l.2 rfl
  |_=>exact(jh mv _).bind λl=>fB d l.2 rfl
 |pick c a b=>exact C7 HT d c a b
 |alloc z=>
  refine Sim.ite (λh=>?_) λ_=>.fail;show Sim _ (if(z.map bN).all bQ then _ else _) id;rw[oIP (jR h)];exact Sim.new (lU z) (Sim.rdV λg=>bG d rfl)
 |box n mv x=>
  refine bi λt=>?_;rw[lV];refine(iq mv _).bind λl=>Sim.ite (λh=>?_) λ_=>.fail;rw[oIP (by rw[cx];exact h)];exact Sim.new rfl (Sim.rdV λg=>bG d rfl)
 |boxi n x=>
  refine bi λt=>?_;refine Sim.ite (λh=>?_) λ_=>Sim.ite (λh=>?_) λ_=>.fail
  ·rw[oIP (BO h)];refine Sim.ite (λhn=>?_) λ_=>.fail;rw[oIP hn];exact bG d rfl
  ·rw[oIN (DY h)];rw[lV];refine(iq false _).bind λl=>Sim.opt λl' hl=>Sim.ite (λhn=>?_) λ_=>.fail;rw[oIP (by rw[cx];exact hn)];exact bG d (by simp only[er,vM hl])
 |load n a=>
  refine bi λt=>?_
  cases t with
  |ptr p vs=>
   refine(cC p _ vs).bind λ_=>?_
   cases n with
   |none=>exact(ym p).bind λt'=>bG d rfl
   |some n=>exact(sf p n).bind λl=>bG d rfl
  |ip cs=>
   simp only[er]
   cases h:X.loadIp n cs with
   |none=>exact .fail
   |some t=>simp only[zL h];exact bG d rfl
  |_=>exact .fail
 |store n mv a x=>
  refine bi λta=>?_
  cases ta with
  |ptr p vs=>
   refine bi λtx=>?_;rw[lV];refine(iq mv _).bind λl=>Sim.ite (λh=>?_) λ_=>.fail;rw[oIP (by rw[cx];exact h)];exact(cC p _ vs).bind λ_=>vm p l
  |_=>exact .fail
 |nilc x=>
  refine bi λt=>?_
  cases t with
  |ptr p vs=>exact(cC p _ vs).bind λ_=>bG d rfl
  |ip cs=>exact bG d rfl
  |fn f cap=>exact bG d rfl
  |_=>exact .fail
 |fld off a=>
  refine bi λt=>?_
  cases t with
  |ptr p vs=>
   refine(cC p _ vs).bind λ_=>Sim.ite (λh=>?_) λ_=>.fail;rw[oIP (by rw[<- rF];exact h)];exact bG d (by simp only[er,uI])
  |ip cs=>
   refine Sim.ite (λh=>?_) λ_=>.fail;show Sim _ (if off<(erL cs).length then _ else _) id;rw[oIP (by rw[cx];exact h)];exact bG d (by simp only[er,lM])
  |_=>exact .fail
 |fldv off n x=>
  refine bi λt=>?_
  cases t with
  |agg l=>
   cases n with
   |none=>
    refine Sim.ite (λh=>?_) λ_=>.fail;show Sim _ (if off<(erL l).length then _ else _) id;rw[oIP (by rw[cx];exact h)];exact bG d (nQ l off)
   |some n=>
    refine Sim.ite (λh=>?_) λ_=>.fail;show Sim _ (if off+n<=(erL l).length then _ else _) id;rw[oIP (by rw[cx];exact h)];exact bG d (by simp only[er,jT,lM])
  |_=>exact .fail
 |idx sz x i=>
  refine bi λt=>bi λti=>(gn ti).bind λk=>?_
  cases t with
  |pk p vs=>
   refine(cC p _ vs).bind λ_=>(vo p).bind λt=>?_
   cases t with
   |d tt x=>cases tt with
    |row o t=>cases o with
     |false=>exact .fail
     |true=>
      refine Sim.ite (λh=>?_) λ_=>.fail;refine Sim.get λe he=>?_
      have hk:k<(x:List (den t)).length:=by
       rcases Nat.lt_or_ge k (x:List (den t)).length with h|h
       ·exact h
       ·rw[oGN h]at he;cases he
      show Sim _ (if k<(List.map List.length (List.map (enc t) (x:List (den t)))).length&&(List.map List.length (List.map (enc t) (x:List (den t)))).getD k 0==sz&&decide (0<sz)then _ else _) id;rw[oH,oIP]
      ·exact bG d rfl
      ·simp only[oBA,oDE,beq_iff_eq,List.length_map];refine⟨⟨hk,?_⟩,h.2⟩;rw[oGD,List.getElem?_map,he];simp[b9,h.1]
    |_=>exact .fail
   |gap t x i' o'=>
    refine Sim.ite (λh=>?_) λ_=>.fail;refine Sim.get λe he=>?_
    have hk:k<(x:List (den t)).length:=by
     rcases Nat.lt_or_ge k (x:List (den t)).length with h|h
     ·exact h
     ·rw[oGN h]at he;cases he
    have QL:(er (.gap t x i' o':XV den)).hd=some (List.map List.length (List.map (enc t) (x:List (den t)))):=oF (hs:=[(i',0,o')]) (by simp);rw[QL];show Sim _ (if k<(List.map List.length (List.map (enc t) (x:List (den t)))).length&&(List.map List.length (List.map (enc t) (x:List (den t)))).getD k 0==sz&&decide (0<sz)then _ else _) id;rw[oH,oIP]
    ·exact bG d rfl
    ·simp only[oBA,oDE,beq_iff_eq,List.length_map];refine⟨⟨hk,?_⟩,h.2⟩;rw[oGD,List.getElem?_map,he];simp[b9,h.1]
   |_=>exact .fail
  |pw p vs sz' lo n=>
   refine(cC p _ vs).bind λ_=>(eM p).bind λt=>?_
   cases t with
   |d tt x=>cases tt with
    |row o t=>cases o with
     |false=>exact .fail
     |true=>
      refine Sim.ite (λh=>?_) λ_=>.fail;refine Sim.br λhb=>Sim.get λe he=>?_;have hb:Nat.blt k n=true:=hb
      have hb:k<n:=by simpa using hb
      have he:(x:List (den t))[lo+k]?=some e:=he;show Sim _ (if k<n&&((List.map (enc t) (x:List (den t))).getD (lo+k) []).length==sz&&sz'==sz&&decide (0<sz)then _ else _) id;rw[oIP]
      ·exact bG d rfl
      ·simp only[oBA,oDE,beq_iff_eq];refine⟨⟨⟨hb,?_⟩,h.2.2⟩,h.2.1⟩;rw[oGD,List.getElem?_map,he];simp[b9,h.1]
    |_=>exact .fail
   |_=>exact .fail
  |d tt x=>cases tt with
   |row o t=>cases o with
    |true=>exact .fail
    |false=>
     refine Sim.ite (λh=>?_) λ_=>.fail;refine Sim.get λe he=>?_;have he:(x:List (den t))[k]?=some e:=he
     have hk:k<(x:List (den t)).length:=by
      rcases Nat.lt_or_ge k (x:List (den t)).length with h|h
      ·exact h
      ·rw[oGN h]at he;cases he
     have hg:(List.map (enc t) (x:List (den t))).getD k []=enc t e:=by
      rw[oGD,List.getElem?_map,he];rfl
     show Sim _ (if k<(List.map (enc t) (x:List (den t))).length&&((List.map (enc t) (x:List (den t))).getD k []).length==sz&&decide (0<sz)then wr d (.ip ((List.map (enc t) (x:List (den t))).getD k []))else _) id;rw[hg,oIP]
     ·exact bG d (by simp only[er,lf])
     ·simp only[oBA,oDE,beq_iff_eq,List.length_map];exact⟨⟨hk,by rw[b9];exact h.1⟩,h.2⟩
   |nilr o=>cases o<;>exact .fail
   |_=>exact .fail
  |_=>exact .fail
 |ext x i=>
  refine bi λt=>?_
  cases t with
  |tup l=>
   refine Sim.ite (λh=>?_) λ_=>.fail;show Sim _ (if i<(erL l).length then _ else _) id;rw[oIP (by rw[cx];exact h)];exact bG d (nQ l i)
  |_=>exact .fail
 |bin op x y=>exact bi λa=>bi λb=>EJ d op a b
 |bnb neg x y=>
  refine bi λa=>bi λb=>?_
  cases a with
  |d t a=>cases t with
   |bool=>cases b with
    |d u b=>cases u with
     |bool=>
      show Sim _ (wr d (.v (.bool (if neg then !((a:Bool)==b)else(a:Bool)==b)))) id;refine bG d ?_;cases neg<;>rfl
     |_=>exact .fail
    |_=>exact .fail
   |_=>exact .fail
  |_=>exact .fail
 |eqa ks neg x y=>
  refine bi λa=>bi λb=>?_
  cases a with
  |agg a=>cases b with
   |agg b=>
    simp only[er]
    cases h:X.eqAll bf ks a b with
    |none=>exact .fail
    |some r=>
     obtain⟨vs,ws,h1,h2,h3⟩:=B5 h;show Sim _ ((eW (bE (erL a))).bind λxs=>(eW (bE (erL b))).bind λys=>(eW (bM ks xs ys)).bind λr=>wr d (.v (.bool (if neg then !r else r)))) id;rw[h1,h2];show Sim _ ((eW (bM ks vs ws)).bind λr=>wr d (.v (.bool (if neg then !r else r)))) id;rw[h3];refine bG d ?_;cases neg<;>rfl
   |_=>exact .fail
  |_=>exact .fail
 |un op x=>
  refine bi λa=>?_
  cases a with
  |d t a=>cases t with
   |bool=>cases op<;>first|exact .fail|exact bG d rfl
   |int k=>cases op<;>first|exact .fail|exact bG d rfl
   |_=>cases op<;>exact .fail
  |_=>cases op<;>exact .fail
 |conv k x=>
  refine bi λa=>?_
  cases a with
  |d t a=>cases t with
   |int k0=>exact bG d rfl
   |_=>exact .fail
  |_=>exact .fail
 |bld z mv parts=>
  refine Sim.ite (λh=>?_) λ_=>.fail;show Sim _ (if(z.map bN).all bQ then _ else _) id;rw[oIP (jR h)];refine(lh mv parts).bind λl=>(li d l).bind λl'=>bG d ?_;simp only[er];rw[tG,lU]
 |bsl sz mv len parts=>
  refine(lh mv _).bind λl=>Sim.ite (λh=>?_) λ_=>.fail;rw[oIP h];refine Sim.opt λv hv=>fB d false ?_;simp only[erL,Bs hv,xH]
 |mks sz z l c=>
  refine Sim.ite (λh=>?_) λ_=>.fail;simp only[oBA]at h;show Sim _ (if(z.map bN).all bQ&&z.length==sz then _ else _) id;rw[oIP (by simp only[oBA];exact⟨jR h.1,h.2⟩)];refine bi λtl=>bi λtc=>(gn tl).bind λn=>(gn tc).bind λm=>Sim.br λhok=>?_;have hok:zG n m sz=true:=hok;rw[oIP (by simpa[zG]using hok)];refine Sim.opt λv hv=>fB d false ?_;simp only[erL,vA hv,lU,id_eq]
 |slc sz x lo hi=>
  refine bi λt=>(n9 t).bind λn=>(qi lo 0).bind λl=>(qi hi n).bind λh=>Sim.br λhok=>?_;have hok:jg l h n=true:=hok;rw[oIP (by simpa[jg]using hok)]
  cases t with
  |d tt x=>cases tt with
   |row o t=>cases o with
    |true=>exact .fail
    |false=>
     refine Sim.ite (λhs=>?_) λ_=>.fail;show Sim _ (if(List.map (enc t) (x:List (den t))).all (λe=>e.length==sz)then _ else _) id;rw[oIP (by rw[<- hs];exact kX t x)];refine bG d ?_;show TV.sl (List.map (enc t) ((List.drop l (x:List (den t))).take (h-l)))=_;rw[List.map_take,List.map_drop];rfl
   |nilr o=>cases o with
    |false=>
     show Sim _ (if([]:List (List TV)).all (λe=>e.length==sz)then wr d (.sl ((([]:List (List TV)).drop l).take (h-l)))else _) id;rw[oIP (by rfl)];exact bG d (by simp[er,er1])
    |true=>exact fB d false rfl
   |_=>exact .fail
  |pk p vs=>
   refine(eM p).bind λt=>?_
   cases t with
   |d tt x=>cases tt with
    |row o t=>cases o with
     |false=>exact .fail
     |true=>
      refine Sim.ite (λhs=>?_) λ_=>.fail;show Sim _ (if(List.map (enc t) (x:List (den t))).all (λe=>e.length==sz)then _ else _) id;rw[oIP (by rw[<- hs];exact kX t x)];exact bG d rfl
    |nilr o=>cases o with
     |false=>exact .fail
     |true=>
      show Sim _ (if([]:List (List TV)).all (λe=>e.length==sz)then _ else _) id;rw[oIP (by rfl)];exact bG d rfl
    |_=>exact .fail
   |_=>exact .fail
  |pw p vs sz' lo' n'=>
   refine Sim.ite (λhs=>?_) λ_=>.fail;show Sim _ (if sz'=sz then _ else _) id;rw[oIP hs];exact bG d rfl
  |_=>exact .fail
 |apz sz bytes z s x=>
  refine Sim.ite (λh=>?_) λ_=>.fail;simp only[oBA]at h;show Sim _ (if(z.map bN).all bQ&&z.length==sz then _ else _) id;rw[oIP (by simp only[oBA];exact⟨jR h.1,h.2⟩)];refine bi λts=>bi λtx=>(gn tx).bind λn=>(cL true ts).bind λs=>Sim.opt λv hv=>?_;have h:=xU (Y:=Y) d sz bytes (bB HT d) s v
  have e:AO d sz bytes (er s) (.ow (List.replicate n (z.map bN)))=(match er s,er v with
   |.ow c,.ow c2=>if(c++c2).all (λe=>e.length==sz)&&decide (c.length+c2.length<=1099511627776)&&decide ((c.length+c2.length)*bytes<=140737488355328)then inst d false [.ow (c++c2)]else .fail
   |.ow c,.sl c2=>if(c++c2).all (λe=>e.length==sz)&&decide (c.length+c2.length<=1099511627776)&&decide ((c.length+c2.length)*bytes<=140737488355328)then inst d false [.ow (c++c2)]else .fail
   |_,_=>.fail):=by
   rw[vA hv,lU];rfl
  rw[id_eq,e];exact h
 |app sz bytes mv fl s x=>
  refine bi λts=>bi λtx=>?_
  have hn:qz (er tx)=X.isNameX tx:=by
   cases tx with
   |d t y=>cases t with
    |row o t=>cases o<;>rfl
    |nilr o=>cases o<;>rfl
    |_=>rfl
   |_=>rfl
  rw[hn]
  cases hc:(fl && !mv&&X.isNameX tx)with
  |true=>
   simp only[if_true];refine(qa tx).bind λc2=>?_;refine Sim.ite (λhf=>?_) λ_=>.fail
   have hV:(xD c2).all (λe=>e.all isV)=true:=by
    cases c2 with
    |d t y=>cases t with
     |row o t=>
      have hf:X.flatT t=true:=hf;cases o<;>show(List.map (enc t) (y:List (den t))).all (λe=>e.all isV)=true
      all_goals
       rw[List.all_map,List.all_eq_true];intro z _;exact zQ hf z
     |nilr o=>cases o<;>rfl
     |_=>rfl
    |gap=>cases hf
    |_=>rfl
   rw[oIP hV];refine(cL true ts).bind λs=>?_;have h:=xU (Y:=Y) d sz bytes (bB HT d) s c2
   have e:AO d sz bytes (er s) (.sl (xD c2))=(match er s,er c2 with
    |.ow c,.ow c2=>if(c++c2).all (λe=>e.length==sz)&&decide (c.length+c2.length<=1099511627776)&&decide ((c.length+c2.length)*bytes<=140737488355328)then inst d false [.ow (c++c2)]else .fail
    |.ow c,.sl c2=>if(c++c2).all (λe=>e.length==sz)&&decide (c.length+c2.length<=1099511627776)&&decide ((c.length+c2.length)*bytes<=140737488355328)then inst d false [.ow (c++c2)]else .fail
    |_,_=>.fail):=by
    unfold AO
    cases c2 with
    |d t y=>cases t with
     |row o t=>cases o<;>cases er s<;>rfl
     |nilr o=>cases o<;>cases er s<;>rfl
     |_=>simp[X.flatRow]at hf
    |_=>simp[X.flatRow]at hf
   rw[e];exact h
  |false=>
   simp only[Bool.false_eq_true,if_false];exact(cL true ts).bind λs=>(cL mv tx).bind λx=>xU d sz bytes _ s x
 |len x=>exact bi λt=>(n9 t).bind λn=>bG d rfl
 |lens x=>
  refine bi λt=>?_
  cases t with
  |d t s=>cases t with
   |str=>exact bG d rfl
   |_=>exact .fail
  |_=>exact .fail
 |ixs x i=>
  refine bi λt=>bi λti=>(gn ti).bind λk=>?_
  cases t with
  |d t s=>cases t with
   |str=>
    intro σ kk y hk;obtain⟨b,h1,h2⟩:=bm (show(xY s k).bind _=some y from hk);unfold xY at h1;obtain⟨c,h3,h4⟩:=dA h1;have h3:(s:ByteArray)[k]?=some c:=h3;have:=bG (Y:=Y) d (t:=.d (.int .u8) b) (t':=.v (.int .u8 c.toNat)) (by rw[<- h4];rfl) σ kk y h2;show ∃a σ',(match(s:ByteArray)[k]? with|some b=>wr d (.v (.int .u8 b.toNat))|none=>.fail).run (erS σ)=_/\ij σ σ' ((match(s:ByteArray)[k]? with|some b=>wr d (.v (.int .u8 b.toNat))|none=>.fail).foot (erS σ))/\_;rw[h3];exact this
   |_=>exact .fail
  |_=>exact .fail
 |mm mx xs=>
  refine(vn (λx=>(mj x).bind λt=>yv t) xs).bind λl=>?_
  cases l with
  |nil=>exact .fail
  |cons t r=>cases t with
   |d t a=>cases t with
    |int k=>
     simp only[List.map_cons,FH]
     cases h:X.mmAll bf mx k a r with
     |none=>exact .fail
     |some m=>simp only[BG h];exact bG d rfl
    |_=>exact .fail
   |_=>exact .fail
 |mkf f caps=>
  refine(vn (λx=>(mj x).bind λt=>yB t) caps).bind λl=>bG d ?_;simp only[er,eT]
 |idxa n sz x i=>
  refine bi λt=>bi λti=>(gn ti).bind λk=>?_
  cases t with
  |ptr p vs=>
   refine(cC p _ vs).bind λ_=>yA _ n _ 0 λj SY hj hk=>Sim.ite (λh=>?_) λ_=>.fail;subst hk;simp only[id_eq];rw[oIP (by rw[<- rF];simp only[oBA,oDE];exact⟨by omega,h⟩)];exact bG d (by simp only[er,uI])
  |_=>exact .fail
 |s2b x=>
  refine bi λt=>?_
  cases t with
  |d t s=>cases t with
   |str=>
    refine Sim.br λh=>?_;have h:decide ((s:ByteArray).size<4294967296)=true:=h;show Sim _ (if(s:ByteArray).size<4294967296 then wr d (.sl (jF s))else .fail) id;rw[oIP (by simpa using h)];refine bG d ?_;show TV.sl (List.map (enc (.int .u8)) (Db s))=_;simp[Db,jF,enc]
   |_=>exact .fail
  |_=>exact .fail
 |emp x=>exact bi λt=>(n9 t).bind λn=>fB d false rfl
 |b2s x=>
  refine bi λt=>(cL false t).bind λt'=>?_
  cases t' with
  |d t c=>cases t with
   |row o t=>cases o with
    |false=>cases t with
     |int k=>cases k with
      |u8=>
       intro σ kk y hk;have hk:X.wr bf d (.d .str (Ay c)) σ kk=some y:=hk
       have hb:bstr (List.map (enc (.int .u8)) (c:List Int))=some (Ay c):=by
        have:pZ (List.map (enc (.int .u8)) (c:List Int))=some c:=by
         have h9:∀l:List Int,pZ (List.map (enc (.int .u8)) l)=some l:=by
          intro l
          induction l with
          |nil=>rfl
          |cons x l ih=>
           show Option.map (x :: ·) (pZ (List.map (enc (.int .u8)) l))=_;rw[ih];rfl
         exact h9 c
        simp only[bstr,this];rfl
       have:=bG (Y:=Y) d (t:=.d .str (Ay c)) (t':=.v (.string (Ay c))) rfl σ kk y hk;show ∃a σ',((eW (bstr (List.map (enc (.int .u8)) (c:List Int)))).bind λs=>wr d (.v (.string s))).run (erS σ)=_/\ij σ σ' (((eW (bstr (List.map (enc (.int .u8)) (c:List Int)))).bind λs=>wr d (.v (.string s))).foot (erS σ))/\_;rw[hb];exact this
      |_=>exact .fail
     |_=>exact .fail
    |true=>exact .fail
   |_=>exact .fail
  |_=>exact .fail
 |cpy sz x y=>
  refine bi λt=>bi λu=>(qa u).bind λc2=>?_
  cases t with
  |pk p vs=>
   refine(cC p _ vs).bind λ_=>Sim.rdC λtv=>?_;exact Cw d sz p 0 none tv c2
  |pw p vs sz' lo n=>
   refine Sim.ite (λhs=>?_) λ_=>.fail;refine(cC p _ vs).bind λ_=>Sim.rdC λtv=>?_;have:=Cw (Y:=Y) d sz p lo (some n) tv c2;simp only[oIP hs];exact this
  |_=>exact .fail
 |call k f args=>exact .fail
end
theorem rN:∀(hs:List (Unit×Nat×Nat))(hs':List (den .nat×Nat×Nat))(r:List CT)(h:HL den r)(h':HL den (ux hs r)),uN hs hs' r h=some h'->(oN hs r h').1=hs'/\(oN hs r h').2=h
 | [],[],_,_,_,hc=>by
  injection hc with hc
  exact⟨rfl,hc.symm⟩
 | [],_::_,_,_,_,hc=>by cases hc
 |_::_,[],_,_,_,hc=>by cases hc
 |(_,sz,o)::hs,(i,sz',o')::hs',r,h,h',hc=>by
  have hc:(if sz=sz'/\o=o' then(uN hs hs' r h).map λh1=>((i,h1):den .nat×HL den (ux hs r))else none)=some h':=hc;by_cases hb:sz=sz'/\o=o'
  ·rw[oIP hb]at hc;obtain⟨h1,h2,h3⟩:=Option.map_eq_some_iff.1 hc;obtain⟨e1,e2⟩:=rN hs hs' r h h1 h2;subst h3;refine⟨?_,e2⟩;show(i,sz,o)::(oN hs r h1).1=(i,sz',o')::hs';rw[e1,hb.1,hb.2]
  ·rw[oIN hb]at hc;cases hc
theorem ET{p:XP λ_=>Unit}{q:XP den}(h:CJ p q=true):erP (Gf p)=erP q:=by
 simp[CJ]at h;have ⟨⟨⟨h1,h2⟩,h3⟩,h4⟩:=h;have ⟨r,o,hs⟩:=q
 cases hs with
 |nil=>simp[Gf,h1,h2]
 |cons=>simp[XP.bare]at h4
theorem B1{x y:Value}(h:Ai x y=true):x=y:=by
 unfold Ai at h
 grind
mutual
theorem Aq:(s:Sh)->(x:XV den)->(r:List CT)->(h:HL den r)->(h':HL den (lv s r))->conv bf s x r h=some h'->er (fill s r h').1=er x/\(fill s r h').2=h
 |.d u z,x,r,h,h',hc=>by
  cases x with
  |d t y=>
   have hc:(asT bf t u y).map (λw=>(w,h))=some h':=hc;obtain⟨w,h1,h2⟩:=dA hc
   have e1:h'.1=w:=by rw[<- h2]
   have e2:h'.2=h:=by rw[<- h2]
   refine⟨?_,e2⟩;show er1 u h'.1=er1 t y;rw[e1];exact wm h1
  |_=>exact absurd (show(none:Option (HL den _))=some h' from hc) (by simp)
 |.k z,x,r,h,h',hc=>by
  cases x with
  |k y=>
   have hc:(if Ai z y then some h else none)=some h':=hc;by_cases hb:Ai z y=true
   ·rw[oIP hb]at hc
    injection hc with hc
    rw[B1 hb];exact⟨rfl,hc.symm⟩
   ·rw[oIN hb]at hc;cases hc
  |_=>exact absurd (show(none:Option (HL den _))=some h' from hc) (by simp)
 |.dead,x,r,h,h',hc=>by
  cases x with
  |dead=>
   have hc:some h=some h':=hc
   injection hc with hc
   exact⟨rfl,hc.symm⟩
  |_=>exact absurd (show(none:Option (HL den _))=some h' from hc) (by simp)
 |.ptr p vs,x,r,h,h',hc=>by
  cases x with
  |ptr q ws=>
   have hc:(if p.root==q.root&&p.off==q.off&&vs==ws then uN p.hops q.hops r h else none)=some h':=hc;by_cases hb:(p.root==q.root&&p.off==q.off&&vs==ws)=true
   ·rw[oIP hb]at hc;simp only[oBA,beq_iff_eq]at hb;obtain⟨h1,h2⟩:=rN _ _ _ _ _ hc;refine⟨?_,h2⟩;show TV.ptr ⟨p.root,p.off,(oN p.hops r h').1⟩ vs=TV.ptr ⟨q.root,q.off,q.hops⟩ ws;rw[h1,hb.1.1,hb.1.2,hb.2]
   ·rw[oIN hb]at hc;cases hc
  |_=>exact absurd (show(none:Option (HL den _))=some h' from hc) (by simp)
 |.pk p vs,x,r,h,h',hc=>by
  cases x with
  |pk q ws=>
   have hc:(if p.root==q.root&&p.off==q.off&&vs==ws then uN p.hops q.hops r h else none)=some h':=hc;by_cases hb:(p.root==q.root&&p.off==q.off&&vs==ws)=true
   ·rw[oIP hb]at hc;simp only[oBA,beq_iff_eq]at hb;obtain⟨h1,h2⟩:=rN _ _ _ _ _ hc;refine⟨?_,h2⟩;show TV.pk ⟨p.root,p.off,(oN p.hops r h').1⟩ vs=TV.pk ⟨q.root,q.off,q.hops⟩ ws;rw[h1,hb.1.1,hb.1.2,hb.2]
   ·rw[oIN hb]at hc;cases hc
  |_=>exact absurd (show(none:Option (HL den _))=some h' from hc) (by simp)
 |.pw p vs sz lo n,x,r,h,h',hc=>by cases x<;>exact absurd (show(none:Option (HL den _))=some h' from hc) (by simp)
 |.gap t _ _ o,x,r,h,h',hc=>by
  cases x with
  |gap t' y i o'=>
   have hc:(if o=o' then(asT bf (.row true t') (.row true t) y).map λy=>(y,i,h)else none)=some h':=hc;by_cases hb:o=o'
   ·subst hb;rw[oIP rfl]at hc;obtain⟨z,h1,rfl⟩:=dA hc;refine⟨?_,rfl⟩;show cO (er1 (.row true t) z) [(i,0,o)] .dead=cO (er1 (.row true t') y) [(i,0,o)] .dead;rw[wm h1]
   ·rw[oIN hb]at hc;cases hc
  |_=>exact absurd (show(none:Option (HL den _))=some h' from hc) (by simp)
 |.ip l,x,r,h,h',hc=>by
  cases x with
  |ip l'=>
   have:=gS l l' r h h' hc;exact⟨congrArg TV.ip this.1,this.2⟩
  |_=>exact absurd (show(none:Option (HL den _))=some h' from hc) (by simp)
 |.agg l,x,r,h,h',hc=>by
  cases x with
  |agg l'=>
   have:=gS l l' r h h' hc;exact⟨congrArg TV.agg this.1,this.2⟩
  |_=>exact absurd (show(none:Option (HL den _))=some h' from hc) (by simp)
 |.tup l,x,r,h,h',hc=>by
  cases x with
  |tup l'=>
   have:=gS l l' r h h' hc;exact⟨congrArg TV.tup this.1,this.2⟩
  |_=>exact absurd (show(none:Option (HL den _))=some h' from hc) (by simp)
 |.fn f l,x,r,h,h',hc=>by
  cases x with
  |fn f' l'=>
   have hc:(if f=f' then nF bf l l' r h else none)=some h':=hc;by_cases hb:f=f'
   ·subst hb;rw[oIP rfl]at hc;have:=gS l l' r h h' hc;exact⟨congrArg (TV.fn f) this.1,this.2⟩
   ·rw[oIN hb]at hc;cases hc
  |_=>exact absurd (show(none:Option (HL den _))=some h' from hc) (by simp)
theorem gS:(s:List Sh)->(x:List (XV den))->(r:List CT)->(h:HL den r)->(h':HL den (lvL s r))->nF bf s x r h=some h'->erL (d4 s r h').1=erL x/\(d4 s r h').2=h
 | [],x,r,h,h',hc=>by
  cases x with
  |nil=>
   have hc:some h=some h':=hc
   injection hc with hc
   exact⟨rfl,hc.symm⟩
  |cons=>exact absurd (show(none:Option (HL den _))=some h' from hc) (by simp)
 |s::ss,x,r,h,h',hc=>by
  cases x with
  |nil=>exact absurd (show(none:Option (HL den _))=some h' from hc) (by simp)
  |cons x xs=>
   have hc:(nF bf ss xs r h).bind (λh1=>conv bf s x (lvL ss r) h1)=some h':=hc;obtain⟨h1,Ze,Y9⟩:=bm hc;obtain⟨e1,e2⟩:=gS ss xs r h h1 Ze;obtain⟨e3,e4⟩:=Aq s x (lvL ss r) h1 h' Y9;have e5:d4 (s::ss) r h'=((fill s (lvL ss r) h').1::(d4 ss r (fill s (lvL ss r) h').2).1,(d4 ss r (fill s (lvL ss r) h').2).2):=rfl;rw[e5,e4];refine⟨?_,e2⟩;show er _::erL _=er x::erL xs;rw[e3,e1]
end
theorem rM:∀{s:List (Nat×List Sh)}{x:List (Nat×List (XV den))}{r:List CT}{h:HL den r}{h':HL den (lvP s r)},X.convP bf s x r h=some h'->erC (lL s r h').1=erC x/\(lL s r h').2=h:=by
 intro s
 induction s with
 |nil=>
  intro x r h h' hc
  cases x with
  |nil=>
   have hc:some h=some h':=hc
   injection hc with hc
   exact⟨rfl,hc.symm⟩
  |cons=>exact absurd (show(none:Option (HL den _))=some h' from hc) (by simp)
 |cons s ss ih=>
  intro x r h h' hc
  cases x with
  |nil=>exact absurd (show(none:Option (HL den _))=some h' from hc) (by simp)
  |cons x xs=>
   have hc:(if s.1=x.1 then(X.convP bf ss xs r h).bind (λh1=>nF bf s.2 x.2 (lvP ss r) h1)else none)=some h':=hc;by_cases hk:s.1=x.1
   ·rw[oIP hk]at hc
    ·obtain⟨h1,Ze,hc⟩:=bm hc;obtain⟨e1,e2⟩:=ih Ze;obtain⟨e3,e4⟩:=gS s.2 x.2 (lvP ss r) h1 h' hc;have e5:lL (s::ss) r h'=((s.1,(d4 s.2 (lvP ss r) h').1)::(lL ss r (d4 s.2 (lvP ss r) h').2).1,(lL ss r (d4 s.2 (lvP ss r) h').2).2):=rfl;rw[e5,e4];refine⟨?_,e2⟩;show(s.1,erL _)::erC _=(x.1,erL x.2)::erC xs;rw[e3,e1,hk]
   ·rw[oIN hk]at hc;cases hc
theorem B9:∀{s:List (Nat×Sh)}{x:List (Nat×XV den)}{r:List CT}{h:HL den r}{h':HL den (lvT s r)},X.convT bf s x r h=some h'->(rE s r h').1.map (λx=>(x.1,er x.2))=x.map (λx=>(x.1,er x.2))/\(rE s r h').2=h:=by
 intro s
 induction s with
 |nil=>
  intro x r h h' hc
  cases x with
  |nil=>
   have hc:some h=some h':=hc
   injection hc with hc
   exact⟨rfl,hc.symm⟩
  |cons=>exact absurd (show(none:Option (HL den _))=some h' from hc) (by simp)
 |cons s ss ih=>
  intro x r h h' hc
  cases x with
  |nil=>exact absurd (show(none:Option (HL den _))=some h' from hc) (by simp)
  |cons x xs=>
   have hc:(if s.1=x.1 then(X.convT bf ss xs r h).bind (λh1=>conv bf s.2 x.2 (lvT ss r) h1)else none)=some h':=hc;by_cases hk:s.1=x.1
   ·rw[oIP hk]at hc
    ·obtain⟨h1,Ze,hc⟩:=bm hc;obtain⟨e1,e2⟩:=ih Ze;obtain⟨e3,e4⟩:=Aq s.2 x.2 (lvT ss r) h1 h' hc;have e5:rE (s::ss) r h'=((s.1,(fill s.2 (lvT ss r) h').1)::(rE ss r (fill s.2 (lvT ss r) h').2).1,(rE ss r (fill s.2 (lvT ss r) h').2).2):=rfl;rw[e5,e4];refine⟨?_,e2⟩;simp only[List.map_cons];rw[e3,e1,hk]
   ·rw[oIN hk]at hc;cases hc
theorem yV:∀{a b:List (Key×Nat)},X.sameVr a b=true->a=b:=by
 intro a
 induction a with
 |nil=>intro b h;cases b with|nil=>rfl|cons=>simp[X.sameVr]at h
 |cons x a ih=>
  intro b h
  cases b with
  |nil=>simp[X.sameVr]at h
  |cons y b=>
   simp only[X.sameVr,oBA,beq_iff_eq]at h;obtain⟨⟨h1,h2⟩,h3⟩:=h;rw[ih h3];obtain⟨a1,a2⟩:=x;obtain⟨b1,b2⟩:=y;simp only at h1 h2;rw[h1,h2]
theorem rL{s:Shs}{σ:XS den}{u:HL den []}{h:HL den (lvS s)}(hc:X.convS bf s σ u=some h):erS (uG s h)=erS σ:=by
 unfold X.convS at hc;by_cases hv:X.sameVr s.vr σ.vr=true
 ·rw[oIP hv]at hc;obtain⟨h1,Ze,hc⟩:=bm hc;obtain⟨e1,e2⟩:=rM Ze;obtain⟨e3,e4⟩:=B9 hc;unfold erS uG;simp only;rw[e3,e4,e1,yV hv]
 ·rw[oIN hv]at hc;cases hc
theorem tw{c:Ctr}{vals:List (XV den)}{pts:List (Nat×List (XV den))}{u:HL den []}{h:HL den (lvL c.ins (lvP c.pts []))}(hc:X.convIn bf c vals pts u=some h):
 erL (d4 c.ins _ h).1=erL vals/\erC (lL c.pts [] (d4 c.ins _ h).2).1=erC pts:=by
 unfold X.convIn at hc;obtain⟨h1,Ze,hc⟩:=bm hc;obtain⟨e1,e2⟩:=rM Ze;obtain⟨e3,e4⟩:=gS _ _ _ _ _ hc;rw[e4];exact⟨e3,e1⟩
theorem yW:∀{a b:List RSh},X.sameSh a b=true->a=b:=by
 intro a
 induction a with
 |nil=>intro b h;cases b with|nil=>rfl|cons=>simp[X.sameSh]at h
 |cons x a ih=>
  intro b h
  cases b with
  |nil=>cases x<;>simp[X.sameSh]at h
  |cons y b=>
   cases x<;>cases y<;>simp[X.sameSh]at h
   ·rw[ih h]
   ·rw[h.1,ih h.2]
   ·rw[ih h]
theorem D0{cells:List (XV den)}{sh:List RSh}{pts:List (Nat×List (XV den))}{u:HL den []}:∀{outs:List XO}{i:Nat}{h:HL den (q9 (outs.map lvO) i)},X.injO bf cells sh pts u outs=some ⟨i,h⟩->∃x,ga outs i h=some x/\erL x.1=erL cells/\x.2.1=sh/\erC x.2.2=erC pts:=by
 intro outs
 induction outs with
 |nil=>intro i h hc;simp[X.injO]at hc
 |cons o outs ih=>
  intro i h hc;simp only[X.injO]at hc;split at hc
  ·rename_i h1 Ze
   injection hc with hc
   injection hc with h2 h3
   subst h2;have h3:=eq_of_heq h3;subst h3;refine⟨_,rfl,?_⟩;unfold X.convO at Ze;by_cases hs:X.sameSh o.sh sh=true
   ·rw[oIP hs]at Ze;obtain⟨h4,TY,Ze⟩:=bm Ze;obtain⟨e1,e2⟩:=rM TY;obtain⟨e3,e4⟩:=gS _ _ _ _ _ Ze;refine⟨e3,yW hs,?_⟩;show erC (lL o.pts [] (d4 o.cells _ h1).2).1=_;rw[e4];exact e1
   ·rw[oIN hs]at Ze;cases Ze
  ·split at hc
   ·rename_i x hx
    injection hc with hc
    injection hc with h2 h3
    subst h2;have h3:=eq_of_heq h3;subst h3;exact ih hx
   ·simp at hc
theorem D7{a b:eX}(h:X.exEq a b=true):a=b:=by
 cases a<;>cases b<;>simp[X.exEq]at h
 ·rfl
 ·rw[h]
 ·rfl
theorem zW{e:eX}{σ:XS den}{u:HL den []}:∀{outs:List (eX×Shs)}{i:Nat}{h:HL den (q9 (outs.map λx=>lvS x.2) i)},X.injE bf e σ u outs=some ⟨i,h⟩->∃x,m6 outs i h=some x/\x.1=e/\erS x.2=erS σ:=by
 intro outs
 induction outs with
 |nil=>intro i h hc;simp[X.injE]at hc
 |cons o outs ih=>
  intro i h hc;simp only[X.injE]at hc;split at hc
  ·rename_i h1 Ze
   injection hc with hc
   injection hc with h2 h3
   subst h2;have h3:=eq_of_heq h3;subst h3;refine⟨_,rfl,?_⟩;split at Ze
   ·rename_i he;exact⟨D7 he,rL Ze⟩
   ·simp at Ze
  ·split at hc
   ·rename_i x hx
    injection hc with hc
    injection hc with h2 h3
    subst h2;have h3:=eq_of_heq h3;subst h3;exact ih hx
   ·simp at hc
theorem oT{α β:Type}(G:α->β):∀(ls:List (List CT))(o:qM ls)(f:(i:Nat)->HL den (q9 ls i)->α),fQ ls o (λi h=>G (f i h))=G (fQ ls o f):=by
 intro ls
 induction ls with
 |nil=>intro o;cases o
 |cons l ls ih=>
  intro o f
  cases ls with
  |nil=>rfl
  |cons m r=>
   cases o with
   |inl h=>rfl
   |inr o=>exact ih o λi h=>f (i+1) h
theorem qC{α:Type}:∀{ls:List (List CT)}{i:Nat}{h:HL den (q9 ls i)}{o:qM ls}(f:(i:Nat)->HL den (q9 ls i)->α),mA ls i h=some o->fQ ls o f=f i h:=by
 intro ls
 induction ls with
 |nil=>intro i h o f hm;simp[mA]at hm
 |cons l ls ih=>
  intro i h o f hm
  cases ls with
  |nil=>
   cases i with
   |zero=>cases hm;rfl
   |succ i=>simp[mA]at hm
  |cons m r=>
   cases i with
   |zero=>cases hm;rfl
   |succ i=>
    simp only[mA]at hm;obtain⟨o',h1,rfl⟩:=dA hm;exact ih (λi h=>f (i+1) h) h1
def km(F:bW)(c:Ctr):Prop:=∀(h:HL den (lvL c.ins (lvP c.pts [])))(o:qM (c.outs.map lvO))(x:List (XV den)×List RSh×List (Nat×List (XV den))),c.g h=some o->fQ (c.outs.map lvO) o (λi ho=>ga c.outs i ho)=some x ->
 F c.f (erL (d4 c.ins _ h).1) (erC (lL c.pts [] (d4 c.ins _ h).2).1)=some (⟨erL x.1,x.2.1⟩,erC x.2.2)
section
variable {α β γ δ Y:Type}
theorem Bn(x:Option Nat×Opd):Sim (Y:=Y) (X.argV bf x) (argV x) er:=by
 refine bi λt=>?_
 have Ve:∀t:XV den,Sim (Y:=Y) (X.bind (X.takeV bf false t) λl=>X.bind (X.optM bf (X.immXL bf l.1)) λl'=>X.ret (X.shapedX l.2 l')) ((takeV false (er t)).bind λl=>.ret (iY l.2 (l.1.map TV.imm))) er:=λt=>
  (jh false t).bind λl=>Sim.opt λl' hl=>.ret (by rw[qj,vM hl])
 have nil:∀{s:SP TV}(t:CT)(y:den (.row true t)),Sim (Y:=Y) (X.bind (X.takeV bf false (.d (.row true t) y)) λl=>X.bind (X.optM bf (X.immXL bf l.1)) λl'=>X.ret (X.shapedX l.2 l')) s er:=λt y σ k o hk=>by cases hk
 refine Sim.ite (λh=>?_) λh=>?_
 ·have h2:(x.1==some 0&&FM (er t))=true:=by
   simp only[oBA]at h⊢;refine⟨h.1,?_⟩;have h3:=h.2
   cases t with
   |pk p vs=>rfl
   |d t y=>cases t with
    |nilr o=>cases o with
     |true=>rfl
     |false=>simp[X.isNmX]at h3
    |_=>simp[X.isNmX]at h3
   |_=>simp[X.isNmX]at h3
  rw[oIP h2]
  have h3:X.isNmX t=true:=by
   simp only[oBA]at h;exact h.2
  cases t with
  |pk p vs=>exact .ret rfl
  |d t y=>cases t with
   |nilr o=>cases o with
    |true=>exact(li 1000000 [.d (.nilr true) y]).bind λl=>.ret (by cases l<;>rfl)
    |false=>simp[X.isNmX]at h3
   |_=>simp[X.isNmX]at h3
  |_=>simp[X.isNmX]at h3
 ·have keep:∀{s:SP TV},FM (er t)=X.isNmX t->Sim (Y:=Y) (X.argV0 bf t) s er->Sim (Y:=Y) (X.argV0 bf t) (if(x.1==some 0&&FM (er t))=true then qv (er t)else s) er:=λhe hs=>by
   rw[he,oIN h];exact hs
  cases t with
  |ip cs=>exact keep rfl (.ret rfl)
  |fn f cap=>exact keep rfl (.ret rfl)
  |ptr p vs=>exact keep rfl (.ret rfl)
  |d t y=>cases t with
   |row o t=>cases o with
    |true=>exact nil t y
    |false=>exact keep rfl (Ve _)
   |nilr o=>cases o<;>exact keep rfl (Ve _)
   |nat=>exact fun σ k o hk=>by cases hk
   |pair a b=>exact fun σ k o hk=>by cases hk
   |_=>exact keep rfl (Ve _)
  |gap t y i o=>exact fun σ k o hk=>by cases hk
  |_=>exact keep rfl (Ve _)
theorem si:∀l:List (Option Nat×Opd),Sim (Y:=Y) (X.argVs bf l) (argVs l) erL:=by
 intro l
 induction l with
 |nil=>exact .ret rfl
 |cons x r ih=>exact(Bn x).bind λt=>ih.bind λl=>.ret rfl
theorem se:∀(l:List (Option Nat×XV den))(i:Nat),Sim (Y:=Y) (X.takeOwns bf i l) (takeOwns i (l.map λx=>(x.1,er x.2))) (List.map λx=>(x.1,er x.2)):=by
 intro l
 induction l with
 |nil=>intro i;exact .ret rfl
 |cons x l ih=>
  intro i;have ⟨n,t⟩:=x
  cases n with
  |none=>cases t with
   |d t y=>cases t with
    |row o t=>cases o<;>exact ih (i+1)
    |nilr o=>cases o<;>exact ih (i+1)
    |nat=>exact ih (i+1)
    |pair a b=>exact ih (i+1)
    |_=>exact ih (i+1)
   |_=>exact ih (i+1)
  |some n=>cases n with
   |zero=>cases t with
    |pk p vs=>
     refine(cL true (.pk p vs)).bind λt=>Sim.ite (λh=>?_) λ_=>.fail;have ⟨c,hc⟩:=gR h
     have h2:gg (er t)=true:=by rw[hc];rfl
     rw[oIP h2];exact(ih (i+1)).bind λq=>.ret rfl
    |d t y=>cases t with
     |row o t=>cases o<;>exact ih (i+1)
     |nilr o=>cases o<;>exact ih (i+1)
     |nat=>exact ih (i+1)
     |pair a b=>exact ih (i+1)
     |_=>exact ih (i+1)
    |_=>exact ih (i+1)
   |succ n=>cases t with
    |d t y=>cases t with
     |row o t=>cases o<;>exact ih (i+1)
     |nilr o=>cases o<;>exact ih (i+1)
     |nat=>exact ih (i+1)
     |pair a b=>exact ih (i+1)
     |_=>exact ih (i+1)
    |_=>exact ih (i+1)
theorem yx(r:Nat):∀(n o:Nat),Sim (Y:=Y) (X.grabB bf r o n) (s9 ⟨r,o,[]⟩ n) erL:=by
 intro n
 induction n with
 |zero=>intro o;exact .ret rfl
 |succ n ih=>
  intro o
  cases n with
  |zero=>
   refine Sim.rdC λt=>(eL ⟨r,o,[]⟩ t).bind λt'=>(cL true t').bind λt2=>?_;exact(Sim.ret (f:=erL) rfl).bind (h:=λl=>.ret (er t2::l)) λl=>.ret rfl
  |succ n=>
   exact Sim.rdC λt=>(eL ⟨r,o,[]⟩ t).bind λt'=>(cL true t').bind λt2=>(ih (o+1)).bind λl=>.ret rfl
theorem wE(p:XP den):Sim (Y:=Y) (X.rooted bf p) (rooted (erP p)) id:=by
 have ⟨r,off,hops⟩:=p
 cases hops with
 |nil=>exact .ret rfl
 |cons h hs=>
  refine Sim.rdT λt=>?_
  cases t with
  |ptr q ws=>
   refine Sim.ite (λhc=>?_) λ_=>.fail;show Sim _ (if(erP q).root==r&&(erP q).hops.isEmpty then chk (erP q) 0 ws else .fail) id
   have:((erP q).root==r&&(erP q).hops.isEmpty)=true:=by
    simpa[erP]using hc
   rw[oIP this];exact cC q 0 ws
  |_=>exact .fail
def erG(g:XGP den):GP:=⟨g.i,erP g.p,g.vs,erL g.cells⟩
theorem zU{t:XV den}(h:X.isArgX t=true):j9 (er t)=true:=by
 cases t with
 |ip cs=>rfl
 |fn f cap=>exact rp h
 |agg l=>
  simp only[X.isArgX]at h;simp only[er,j9,eT,List.all_map];rw[List.all_eq_true]at h⊢;intro x hx;have:=h x hx;simp at this;simp
  rcases iv this.1 this.2 with⟨y,hy⟩|⟨c,hc⟩
  ·rw[hy]
  ·rw[hc]
 |d t x=>
  by_cases hn:t=.nilr true
  ·subst hn;rfl
  ·have:X.okCellX (.d t x:XV den)=true/\X.isOwX (.d t x:XV den)=false:=by
    cases t with
    |nilr o=>cases o with
     |true=>simp_all
     |false=>simpa[X.isArgX]using h
    |_=>simpa[X.isArgX]using h
   rcases iv this.1 this.2 with⟨y,hy⟩|⟨c,hc⟩
   ·rw[hy];rfl
   ·rw[hc];rfl
 |k x=>rfl
 |_=>simp[X.isArgX,X.okCellX]at h
theorem yw:∀(l:List (Option Nat×XV den))(i:Nat),Sim (Y:=Y) (X.grabs bf i l) (grabs i (l.map λx=>(x.1,er x.2))) (List.map erG):=by
 intro l
 induction l with
 |nil=>intro i;exact .ret rfl
 |cons x l ih=>
  intro i;obtain⟨n,t⟩:=x
  have other:(∀m p vs,(n,er t)≠(some m,TV.ptr p vs))->(∀p vs,(n,er t)≠(some 0,TV.pk p vs))->Sim (Y:=Y) (if X.isArgX t then X.grabs bf (i+1) l else X.fail bf) (grabs i (((n,t)::l).map λx=>(x.1,er x.2))) (List.map erG):=by
   intro hne Uz;refine Sim.ite (λh=>?_) λ_=>.fail
   have e:grabs i (((n,t)::l).map λx=>(x.1,er x.2))=if j9 (er t)then grabs (i+1) (l.map λx=>(x.1,er x.2))else .fail:=by
    show grabs i ((n,er t)::_)=_
    cases n with
    |none=>rfl
    |some m=>cases he:er t with
     |ptr p vs=>simp_all
     |pk p vs=>cases m with
      |zero=>exact absurd (by rw[he]) (Uz p vs)
      |succ m=>rfl
     |_=>cases m<;>rfl
   rw[e,oIP (zU h)];exact ih (i+1)
  cases n with
  |none=>exact other (by intro m p vs h;cases h) (by intro p vs h;cases h)
  |some m=>cases t with
   |pk p vs=>cases m with
    |zero=>exact ih (i+1)
    |succ m=>exact other (by intro m p vs h;cases h) (by intro p vs h;cases h)
   |ptr p vs=>exact(cC p _ vs).bind λ_=>(wE p).bind λ_=>Sim.bind (by have:=yx (Y:=Y) p.root (X.baseXN p m) p.off;have e:Ee (erP p) m=X.baseXN p m:=(by have ⟨r,o,hs⟩:=p;cases hs<;>rfl);show Sim _ (s9 (erP p).base (Ee (erP p) m)) _;rw[e];exact this) λl1=>(ih (i+1)).bind λq=>.ret rfl
   |d t y=>cases t with
    |row o t=>cases m<;>cases o<;>exact other (by intro m p vs h;cases h) (by intro p vs h;cases h)
    |nilr o=>cases m<;>cases o<;>exact other (by intro m p vs h;cases h) (by intro p vs h;cases h)
    |_=>cases m<;>exact other (by intro m p vs h;cases h) (by intro p vs h;cases h)
   |_=>cases m<;>exact other (by intro m p vs h;cases h) (by intro p vs h;cases h)
theorem yd(p:XP den):Sim (Y:=Y) (X.touch bf p) (touch (erP p)) id:=Sim.rdC λtv=>yc p.root p.off tv
theorem yg:∀q:List (XGP den),Sim (Y:=Y) (X.rechk bf q) (rechk (q.map erG)) id:=by
 intro q
 induction q with
 |nil=>exact .ret rfl
 |cons g q ih=>exact(cC g.p _ g.vs).bind λ_=>(yd g.p).bind λ_=>ih
theorem Ej(i:Nat)(t:XV den):er (X.argT i t)=argT i (er t):=by
 cases t with
 |d t y=>cases t with
  |row o t=>cases o<;>rfl
  |nilr o=>cases o<;>rfl
  |_=>rfl
 |_=>rfl
theorem Ch:∀(l:List (XV den))(i:Nat),erL (X.argTs i l)=argTs i (erL l):=by
 intro l
 induction l with
 |nil=>intro i;rfl
 |cons t l ih=>intro i;simp[X.argTs,erL,argTs,ih,Ej]
theorem xn{t:XV den}(h:X.isDeadX t=false):vL (er t)=false:=by
 cases t with
 |d t y=>cases t with
  |row o t=>cases o<;>rfl
  |nilr o=>cases o<;>rfl
  |nat=>simp[X.isDeadX,X.oneT]at h
  |pair a b=>simp[X.isDeadX,X.oneT]at h
  |_=>rfl
 |dead=>simp[X.isDeadX]at h
 |_=>rfl
theorem tZ:∀q:List (XGP den×List (XV den)),Sim (Y:=Y) (X.putBack bf q) (putBack (q.map λx=>(erG x.1,erL x.2))) id:=by
 intro q
 induction q with
 |nil=>exact .ret rfl
 |cons x q ih=>
  have ⟨g,l⟩:=x;refine ih.bind λ_=>Sim.ite (λh=>?_) λ_=>.fail;have ⟨h1,h2,h3⟩:=h;show Sim _ (if(erL l).length=(erL g.cells).length&&(erL l).all λt=>!vL t then putL (erP g.p) (erL l)else .fail) id;rw[oIP]
  ·exact vm g.p l
  ·simp only[oBA,oDE,cx];refine⟨h1,?_⟩;rw[eT,List.all_map,List.all_eq_true];intro t ht;have:=List.all_eq_true.1 h3 t ht;simp at this;simp[xn this]
theorem yH:∀(sh:List RSh)(l:List (XV den)),erL (X.shapeRX sh l)=eA sh (erL l):=by
 intro sh
 induction sh with
 |nil=>intro l;rfl
 |cons s sh ih=>
  intro l
  cases s with
  |one=>
   simp only[X.shapeRX,erL];rw[ih,tr];cases l<;>rfl
  |agg n=>
   simp only[X.shapeRX,erL,eA,er];rw[ih,jT,lM]
  |ptr=>
   simp[X.shapeRX,erL,eA,er];rw[ih]
theorem sm(sh:List RSh)(l:List (XV den)):er (X.shapeTX sh l)=lj sh (erL l):=by
 unfold X.shapeTX lj;rw[<- yH]
 cases X.shapeRX sh l with
 |nil=>rfl
 |cons x r=>cases r<;>rfl
theorem yr(dst:Option Nat)(cells:List (XV den))(sh:List RSh):Sim (Y:=Y) (X.landR bf dst cells sh) (landR dst ⟨erL cells,sh⟩) id:=by
 cases dst with
 |none=>exact .ret rfl
 |some d=>exact(li d cells).bind λl=>bG d (sm sh l)
theorem zT(sh:List RSh)(cells:List (XV den)):isP ⟨erL cells,sh⟩=X.isPX sh cells:=by
 unfold isP X.isPX
 cases sh with
 |nil=>simp_all
 |cons s sh=>cases s with
  |ptr=>cases cells with
   |nil=>rfl
   |cons t r=>cases t with
    |d t y=>cases t with
     |row o t=>cases o<;>rfl
     |nilr o=>cases o<;>rfl
     |_=>rfl
    |_=>rfl
  |_=>rfl
theorem wJ(t:XV den)(l:List (XV den)):er (X.shapePX t l)=vx (er t) (erL l):=by
 cases l<;>rfl
theorem yu(dst:Option Nat)(q:List (XGP den))(cells:List (XV den)):Sim (Y:=Y) (X.landP bf dst q cells) (landP dst (q.map erG) (erL cells)) id:=by
 cases dst with
 |none=>exact .ret rfl
 |some d=>
  unfold X.landP;simp only;split
  ·rename_i pl vs l g;refine Sim.ite (λhc=>?_) λ_=>.fail;show Sim _ (if pl.root==2*g.i+2&&(erP g.p).hops.isEmpty then(rdVs (jq g.p.root (g.p.off+pl.off) (erP pl).hops.length)).bind λvs=>wr d (vx (.ptr ⟨g.p.root,g.p.off+pl.off,(erP pl).hops⟩ vs) (erL l))else .fail) id;rw[oIP (by simpa[erP]using hc)];exact(nJ _).bind λvs=>bG d (wJ _ l)
  ·exact .fail
theorem EH(q:List (XGP den))(l:List (Nat×List (XV den))):(q.zip (l.map (·.2))).map (λx=>(erG x.1,erL x.2))=(q.map erG).zip ((erC l).map (·.2)):=by
 induction q generalizing l with
 |nil=>rfl
 |cons g q ih=>
  cases l with
  |nil=>rfl
  |cons x l=>simp[erC,ih]
theorem wI{F:bW}(dst:Option Nat)(f:FuncId)(vals:List (XV den))(q:List (XGP den))(ow:List (Nat×XV den))(u:HL den []):∀(TB:List Ctr),(∀c∈TB,km F c)->Sim (Y:=Y) (X.callTB bf dst f vals q ow u TB) ((eW (F f (erL vals) ((q.map erG).map (λg=>(2*g.i+2,g.cells))++(ow.map λx=>(x.1,er x.2)).map λx=>(2*x.1+3,[x.2])))).bind λr=>
 if r.2.map (·.1)=(q.map erG).map (λg=>2*g.i+2)++(ow.map λx=>(x.1,er x.2)).map (λx=>2*x.1+3)&&(isP r.1||jk r.1.sh r.1.cells.length)then(putBack ((q.map erG).zip (r.2.map (·.2)))).bind λ_=>if isP r.1 then landP dst (q.map erG) r.1.cells else landR dst r.1 else .fail) id:=by
 intro TB
 induction TB with
 |nil=>intro _;exact .fail
 |cons c TB ih=>
  intro YT;have ZN:=ih λc' Xc=>YT c' (by simp[Xc]);unfold X.callTB
  cases hsel:(if c.f=f then X.convIn bf c vals (q.map (λg=>(2*g.i+2,g.cells))++ow.map λy=>(2*y.1+3,[y.2])) u else none)with
  |none=>exact ZN
  |some h=>
   by_cases hf:c.f=f
   ·rw[oIP hf]at hsel;obtain⟨e1,e2⟩:=tw hsel;intro σ k y hk;obtain⟨o,ho,hk⟩:=bm (show(c.g h).bind _=some y from hk);rw[oT (λz=>X.onOut bf z λx=>X.afterC bf dst q ow x σ k)]at hk
    cases hx:fQ (c.outs.map lvO) o (λi ho=>ga c.outs i ho)with
    |none=>rw[hx]at hk;cases hk
    |some x=>
     rw[hx]at hk;have hk:X.afterC bf dst q ow x σ k=some y:=hk;unfold X.afterC at hk;have hF:=YT c (by simp) h o x ho hx
     have e3:erC (q.map (λg=>(2*g.i+2,g.cells))++ow.map λy=>(2*y.1+3,[y.2]))=(q.map erG).map (λg=>(2*g.i+2,g.cells))++(ow.map λx=>(x.1,er x.2)).map λx=>(2*x.1+3,[x.2]):=by
      unfold erC;rw[List.map_append,List.map_map,List.map_map,List.map_map,List.map_map];congr 1
     rw[e1,e2,e3,hf]at hF;rw[hF];show ∃a σ',(if(erC x.2.2).map (·.1)=(q.map erG).map (λg=>2*g.i+2)++(ow.map λx=>(x.1,er x.2)).map (λx=>2*x.1+3)&&(isP ⟨erL x.1,x.2.1⟩||jk x.2.1 (erL x.1).length)then _ else _:SP Unit).run (erS σ)=_/\ij σ σ' ((if(erC x.2.2).map (·.1)=(q.map erG).map (λg=>2*g.i+2)++(ow.map λx=>(x.1,er x.2)).map (λx=>2*x.1+3)&&(isP ⟨erL x.1,x.2.1⟩||jk x.2.1 (erL x.1).length)then _ else _:SP Unit).foot (erS σ))/\_;split at hk
     ·rename_i hc;rw[oIP]
      ·have h4:Sim (Y:=Y) (X.bind (X.putBack bf (q.zip (x.2.2.map (·.2)))) λ_=>if X.isPX x.2.1 x.1 then X.landP bf dst q x.1 else X.landR bf dst x.1 x.2.1) ((putBack ((q.map erG).zip ((erC x.2.2).map (·.2)))).bind λ_=>if isP ⟨erL x.1,x.2.1⟩then landP dst (q.map erG) (erL x.1)else landR dst ⟨erL x.1,x.2.1⟩) id:=by
        rw[<- EH,zT];refine(tZ _).bind λ_=>?_
        cases X.isPX x.2.1 x.1 with
        |true=>exact yu dst q x.1
        |false=>exact yr dst x.1 x.2.1
       exact h4 σ k y hk
      ·rw[zT];simp only[oBA,oDE,cx];refine⟨?_,hc.2⟩
       have h5:(erC x.2.2).map (·.1)=x.2.2.map (·.1):=by unfold erC;rw[List.map_map];exact List.map_congr_left λ_ _=>rfl
       have h6:(q.map erG).map (λg=>2*g.i+2)=q.map (λg=>2*g.i+2):=by rw[List.map_map];exact List.map_congr_left λ_ _=>rfl
       have h7:(ow.map λx=>(x.1,er x.2)).map (λx=>2*x.1+3)=ow.map (λy=>2*y.1+3):=by simp_all
       rw[h5,h6,h7];exact hc.1
     ·cases hk
   ·rw[oIN hf]at hsel;cases hsel
end
section
variable {α β γ δ Y:Type}
theorem sg{F:bW}{TB:List Ctr}(YT:∀c∈TB,km F c)(u:HL den [])(dst:Option Nat)(f:FuncId)(ns:List (Option Nat))(vals:List (XV den)):Sim (Y:=Y) (X.callV bf TB u dst f ns vals) (callV F dst f ns (erL vals)) id:=by
 have ez:∀(ns:List (Option Nat))(vals:List (XV den)),(ns.zip vals).map (λx=>(x.1,er x.2))=ns.zip (erL vals):=by
  intro ns
  induction ns with
  |nil=>simp_all
  |cons n ns ih=>
   intro vals
   cases vals with
   |nil=>rfl
   |cons v vals=>simp[erL,ih]
 unfold callV;rw[<- ez];refine(se _ 0).bind λow=>(yw _ 0).bind λq=>(yg q).bind λ_=>Sim.ite (λh=>?_) λ_=>.fail;rw[oIP]
 ·rw[<- Ch];exact wI dst f _ q ow u TB YT
 ·rw[List.map_map,List.all_map];simp only[oBA]at h⊢;refine⟨h.1,?_⟩;rw[List.all_eq_true]at h⊢;intro g hg;have:=h.2 g hg;simpa[erG,cx]using this
theorem yy(dst:Option Nat)(tm:List BxC)(vals:List (XV den))(hok:tm.all X.boxOk=true):Sim (Y:=Y) (X.evBox bf dst tm vals) (evBox dst tm (erL vals)) id:=by
 cases dst with
 |none=>exact .fail
 |some d=>
  have e:erL (tm.map (X.bxX bf vals))=tm.map (bxT (erL vals)):=by
   rw[eT,List.map_map];refine List.map_congr_left λb hb=>?_;have:=List.all_eq_true.1 hok b hb
   cases b with
   |arg i=>exact nQ vals i
   |val x=>
    show er (X.cellX bf x)=.v x;rw[nT];simp[X.boxOk]at this;unfold bN;split
    all_goals simp_all
  show Sim _ ((takeL false (tm.map (bxT (erL vals)))).bind _) id;rw[<- e];exact(iq false _).bind λl=>Sim.new rfl (Sim.rdV λg=>bG d rfl)
theorem vl(x:XV den):Sim (Y:=Y) (X.see1 bf x) (see1 (er x)) er:=by
 cases x with
 |d t y=>cases t with
  |int k=>exact .ret rfl
  |bool=>exact .ret rfl
  |str=>exact .ret rfl
  |nat=>exact .fail
  |row o t=>cases o<;>first|exact .fail|exact .ret rfl
  |nilr o=>cases o<;>exact .ret rfl
  |pair a b=>exact .fail
 |k y=>exact .ret rfl
 |pk p vs=>
  refine(cC p _ vs).bind λ_=>Sim.rdC λtv=>nK λv hv=>?_;refine Sim.ite (λho=>?_) λ_=>.fail;have ⟨c,hc⟩:=gR ho
  have YC:bA (er tv) (erP p).hops=some (.ow c):=by rw[<- hc];exact hv
  simp[YC];intro σ k y hk
  cases hi:X.immX bf v with
  |none=>rw[hi]at hk;cases hk
  |some v'=>
   rw[hi]at hk;exact Sim.ret (by rw[oD hi,hc]) σ k y hk
 |_=>exact .fail
theorem AY:∀l:List (XV den),Sim (Y:=Y) (X.seeL bf l) (seeL (erL l)) erL:=by
 intro l
 induction l with
 |nil=>exact .ret rfl
 |cons t r ih=>exact(vl t).bind λt'=>ih.bind λr'=>.ret rfl
theorem AZ(t:XV den):Sim (Y:=Y) (X.seeA bf t) (seeA (er t)) er:=by
 have ZO:=vl (Y:=Y) t
 cases t with
 |agg l=>exact(AY l).bind λl'=>.ret rfl
 |ip cs=>exact .ret rfl
 |fn f cap=>
  refine Sim.ite (λh=>?_) λ_=>.fail;show Sim _ (if(erL cap).all sO then .ret (.fn f (erL cap))else .fail) er;rw[oIP (rp h)];exact .ret rfl
 |d t y=>cases t with
  |row o t=>cases o<;>exact ZO
  |nilr o=>cases o<;>exact ZO
  |_=>exact ZO
 |_=>exact ZO
theorem yf:∀l:List Opd,Sim (Y:=Y) (X.seeAs bf l) (seeAs l) erL:=by
 intro l
 induction l with
 |nil=>exact .ret rfl
 |cons x r ih=>exact bi λt=>(AZ t).bind λt'=>ih.bind λl=>.ret rfl
theorem vV{l:List (XV den)}(h:l.all X.flatX=true):(erL l).all tO=true:=by
 rw[eT,List.all_map,List.all_eq_true];intro x hx;have:=List.all_eq_true.1 h x hx
 cases x with
 |d t y=>cases t<;>first|rfl|simp[X.flatX]at this
 |k y=>exact this
 |_=>simp[X.flatX]at this
theorem yC{F:bW}(dst:Option Nat)(f:FuncId)(vals:List (XV den))(u:HL den []):∀(TB:List Ctr),(∀c∈TB,km F c)->Sim (Y:=Y) (X.callB bf dst f vals u TB) (callB F dst f (erL vals)) id:=by
 intro TB
 induction TB with
 |nil=>intro _;exact .fail
 |cons c TB ih=>
  intro YT;have ZN:=ih λc' Xc=>YT c' (by simp[Xc]);unfold X.callB
  cases hsel:(if c.f=f then X.convIn bf c vals [] u else none)with
  |none=>exact ZN
  |some h=>
   by_cases hf:c.f=f
   ·rw[oIP hf]at hsel;obtain⟨e1,e2⟩:=tw hsel;intro σ k y hk;have ⟨o,ho,hk⟩:=bm (show(c.g h).bind _=some y from hk);rw[oT (λz=>X.onOut bf z λx=>X.afterB bf dst x σ k)]at hk
    cases hx:fQ (c.outs.map lvO) o (λi ho=>ga c.outs i ho)with
    |none=>rw[hx]at hk;cases hk
    |some x=>
     rw[hx]at hk;have hk:X.afterB bf dst x σ k=some y:=hk;unfold X.afterB at hk;have hF:=YT c (by simp) h o x ho hx;rw[e1,e2,hf]at hF;have hF:F f (erL vals) []=some (⟨erL x.1,x.2.1⟩,erC x.2.2):=hF;unfold callB;rw[hF];show ∃a σ',(if(erC x.2.2).length=0&&(erL x.1).all tO&&jk x.2.1 (erL x.1).length then _ else _:SP Unit).run (erS σ)=_/\ij σ σ' ((if(erC x.2.2).length=0&&(erL x.1).all tO&&jk x.2.1 (erL x.1).length then _ else _:SP Unit).foot (erS σ))/\_;split at hk
     ·rename_i hc;rw[oIP]
      ·cases dst with
       |none=>exact Sim.ret (a:=()) (f:=id) rfl σ k y hk
       |some d=>exact bG d (sm x.2.1 x.1) σ k y hk
      ·simp only[oBA,cx];refine⟨⟨?_,vV hc.2.1⟩,hc.2.2⟩;unfold erC
       simp_all
     ·cases hk
   ·simp_all
theorem wH{F:bW}{TB:List Ctr}(YT:∀c∈TB,km F c)(E:Env)(u:HL den [])(dst:Option Nat)(op:TOp):Sim (Y:=Y) (X.evCall bf E TB u dst op) (evCall E F dst op) id:=by
 cases op with
 |call k f args=>
  cases f with
  |f f=>
   cases k with
   |false=>exact(yf _).bind λvals=>yC dst f vals u TB YT
   |true=>
   refine(si _).bind λvals=>?_
   cases hb:E.box f with
   |none=>exact sg YT u dst f _ vals
   |some x=>
    refine Sim.ite (λh=>?_) λ_=>.fail;show Sim _ (if(erL vals).length=x.1 then evBox dst x.2 (erL vals)else .fail) id;rw[oIP (by rw[cx];exact h.1)];exact yy dst x.2 vals h.2
  |t i=>
   refine Sim.rdT λt=>?_
   cases t with
   |fn f caps=>
    refine(si _).bind λvals=>?_;have:=sg (Y:=Y) YT u dst f (args.map (·.1)++Ce E f args.length caps.length) (vals++caps);rw[jU]at this;rw[cx];exact this
   |d t y=>cases t with
    |row o t=>cases o<;>exact .fail
    |nilr o=>cases o<;>exact .fail
    |_=>exact .fail
   |_=>exact .fail
  |c x=>exact .fail
 |_=>exact .fail
theorem yo{F:bW}{C:X.Cfg}(YT:∀c∈C.TB,km F c)(u:HL den [])(dst:Option Nat)(op:TOp):Sim (Y:=Y) (X.evop bf C u dst op) (evop (evCall C.E F) dst op) id:=by
 have ZO:∀d,Sim (Y:=Y) (X.ev1 bf C.HT d op) (ev1 d op) id:=λd=>EI C.HT d op;have kc:=wH (Y:=Y) YT C.E u dst op
 cases op with
 |call k f args=>exact kc
 |store n mv a x=>cases dst with
  |none=>exact ZO 0
  |some d=>exact .fail
 |_=>cases dst with
  |none=>exact .fail
  |some d=>exact ZO d
theorem n8(dst:Option Nat):Sim (Y:=Y) (X.setNo bf dst) (setNo dst) id:=by
 cases dst with
 |none=>exact .ret rfl
 |some d=>exact n7 d (.tup [])
theorem vJ{σ:XS den}{j:Nat}{b:Bool}(h:X.tOf σ j=.d .bool b):erS (X.known bf j b σ)=erS σ:=by
 have h1:bB σ.tm j=some (.d .bool b):=by
  unfold X.tOf at h
  cases hg:bB σ.tm j with
  |none=>simp_all
  |some t=>simp_all
 have:=tH h1;show(⟨(cF σ.tm j (.d .bool b)).map _,erC σ.ce,σ.vr⟩:St)=_;rw[this];rfl
theorem vj{F:bW}{C:X.Cfg}(YT:∀c∈C.TB,km F c)(u:HL den [])(o:dS):Sim (Y:=Y) (X.spOp bf C u o) (spOp (evCall C.E F) o) id:=by
 unfold X.spOp spOp
 cases hg:o.guard with
 |none=>exact yo YT u o.dst o.op
 |some g=>
  obtain⟨j,want⟩:=g;intro σ k y hk
  cases ht:X.tOf σ j with
  |d t b=>cases t with
   |bool=>
    have hk:(bif b then((if want then X.evop bf C u o.dst o.op else X.setNo bf o.dst) (X.known bf j true (X.lgR (.t j) σ)) k)else((if want then X.setNo bf o.dst else X.evop bf C u o.dst o.op) (X.known bf j false (X.lgR (.t j) σ)) k))=some y:=by
     have hk:X.guardX bf j want (X.evop bf C u o.dst o.op) (X.setNo bf o.dst) (X.tOf σ j) (X.lgR (.t j) σ) k=some y:=hk;rw[ht]at hk;exact hk
    have ZO:∀(m:XM den Option Y Unit)(s:SP Unit),Sim m s id->m (X.known bf j b (X.lgR (.t j) σ)) k=some y->∃a σ',s.run (erS σ)=some (id a,erS σ')/\ij σ σ' (.t j::(s.foot (erS σ)).1,(s.foot (erS σ)).2)/\k a σ'=some y:=by
     intro m s hm h;have e:erS (X.known bf j b (X.lgR (.t j) σ))=erS σ:=vJ (σ:=X.lgR (.t j) σ) ht;obtain⟨a,σ',r1,n1,k1⟩:=hm _ k y h;rw[e]at r1 n1;refine⟨a,σ',r1,⟨λx hx=>?_,λx hx=>n1.w x hx,λx hx=>n1.r0 x (by simp[X.known,X.lgR,hx]),λx hx=>n1.w0 x (by simpa[X.known,X.lgR]using hx)⟩,k1⟩;rcases List.mem_cons.1 hx with h|h
     ·exact n1.r0 x (by simp[X.known,X.lgR,h])
     ·exact n1.r x h
    have hst:(erS σ).t j=.v (.bool b):=by rw[B4,ht];rfl
    have res:∀(s:SP Unit),(if b=want then evop (evCall C.E F) o.dst o.op else setNo o.dst)=s->(∃a σ',s.run (erS σ)=some (id a,erS σ')/\ij σ σ' (.t j::(s.foot (erS σ)).1,(s.foot (erS σ)).2)/\k a σ'=some y)->∃a σ',(SP.rdT j λt=>match t with|.v (.bool b)=>if b=want then evop (evCall C.E F) o.dst o.op else setNo o.dst|.tup []=>setNo o.dst|_=>.fail).run (erS σ)=some (id a,erS σ')/\ij σ σ' ((SP.rdT j λt=>match t with|.v (.bool b)=>if b=want then evop (evCall C.E F) o.dst o.op else setNo o.dst|.tup []=>setNo o.dst|_=>.fail).foot (erS σ))/\k a σ'=some y:=by
     rintro s hs ⟨a,σ',r1,n1,k1⟩;refine⟨a,σ',?_,?_,k1⟩
     ·simp only[SP.run,hst,hs];exact r1
     ·simp only[SP.foot,hst,hs];exact n1
    cases b with
    |true=>
     cases want with
     |true=>exact res _ (oIP rfl) (ZO _ _ (yo YT u o.dst o.op) hk)
     |false=>exact res _ (oIN (by simp)) (ZO _ _ (n8 o.dst) hk)
    |false=>
     cases want with
     |true=>exact res _ (oIN (by simp)) (ZO _ _ (n8 o.dst) hk)
     |false=>exact res _ (oIP rfl) (ZO _ _ (yo YT u o.dst o.op) hk)
   |_=>
    have hk:X.guardX bf j want (X.evop bf C u o.dst o.op) (X.setNo bf o.dst) (X.tOf σ j) (X.lgR (.t j) σ) k=some y:=hk;rw[ht]at hk;cases hk
  |tup l=>
   have hk:X.guardX bf j want (X.evop bf C u o.dst o.op) (X.setNo bf o.dst) (X.tOf σ j) (X.lgR (.t j) σ) k=some y:=hk;rw[ht]at hk
   cases l with
   |cons=>cases hk
   |nil=>
    have hst:(erS σ).t j=.tup []:=by rw[B4,ht];rfl
    obtain⟨a,σ',r1,n1,k1⟩:=n8 o.dst (X.lgR (.t j) σ) k y hk;refine⟨a,σ',?_,?_,k1⟩
    ·simp only[SP.run,hst];exact r1
    ·simp only[SP.foot,hst];refine⟨λx hx=>?_,n1.w,λx hx=>n1.r0 x (by simp[X.lgR,hx]),λx hx=>n1.w0 x hx⟩;rcases List.mem_cons.1 hx with h|h
     ·exact n1.r0 x (by simp[X.lgR,h])
     ·exact n1.r x h
  |_=>
   have hk:X.guardX bf j want (X.evop bf C u o.dst o.op) (X.setNo bf o.dst) (X.tOf σ j) (X.lgR (.t j) σ) k=some y:=hk;rw[ht]at hk;cases hk
end
section
variable {α β γ δ Y:Type}
theorem AV{F:bW}{C:X.Cfg}(YT:∀c∈C.TB,km F c)(u:HL den []):∀(ops:List dS){σ:XS den}{k:Unit->XS den->Option Y}{y:Y},X.spOps bf C u ops σ k=some y->∃ σ',ll (evCall C.E F) ops (erS σ)=some (erS σ')/\k () σ'=some y:=by
 intro ops
 induction ops with
 |nil=>intro σ k y h;exact⟨σ,rfl,h⟩
 |cons o ops ih=>
  intro σ k y h;have ⟨a,σ1,r1,_,h1⟩:=vj YT u o σ _ y h;have ⟨σ',r2,h2⟩:=ih h1;refine⟨σ',?_,h2⟩;simp[ll];rw[vh r1];exact r2
def vR(f g:jY):Prop:=(∀x∈f.1,x∈g.1)/\∀x∈f.2,x∈g.2
inductive EF:List (Nat×jY)->List (Nat×jY)->Prop
 |nil:EF [] []
 |cons {i:Nat} {f g:jY} {l r:List (Nat×jY)} (h:vR f g) (t:EF l r):EF ((i,f)::l) ((i,g)::r)
theorem lz{a a' b b':List Loc}(ha:∀x∈a,x∈a')(hb:∀x∈b,x∈b')(h:xi a' b'=false):xi a b=false:=by
 unfold xi at h⊢
 simp_all
theorem xG{f f' g g':jY}(h1:vR f f')(h2:vR g g')(h:iP f' g'=false):iP f g=false:=by
 unfold iP at h⊢;simp at h⊢;have ⟨⟨⟨a,b⟩,c⟩,d⟩:=h;exact⟨⟨⟨lz h1.2 h2.1 a,lz h1.2 h2.2 b⟩,lz h2.2 h1.1 c⟩,lz h2.2 h1.2 d⟩
theorem zx{deps:List (List Nat)}{j:Nat}{f f':jY}(hf:vR f f'){l r:List (Nat×jY)}(h:EF l r):(r.all λy=>!iP f' y.2||(deps.getD y.1 []).contains j)=true->(l.all λy=>!iP f y.2||(deps.getD y.1 []).contains j)=true:=by
 induction h with
 |nil=>exact id
 |cons h t ih=>
  intro hr;simp only[List.all_cons,oBA]at hr⊢;refine⟨?_,ih hr.2⟩;simp at hr⊢;rcases hr.1 with h3|h3
  ·exact .inl (xG hf h h3)
  ·simp_all
theorem sB{deps:List (List Nat)}{l r:List (Nat×jY)}(h:EF l r):dQ deps r=true->dQ deps l=true:=by
 induction h with
 |nil=>exact id
 |cons h t ih=>
  intro hr;simp only[dQ,oBA]at hr⊢;exact⟨zx h t hr.1,ih hr.2⟩
theorem Dd{F:bW}{C:X.Cfg}(YT:∀c∈C.TB,km F c)(u:HL den [])(ops:List dS):∀(L:List Nat){σ:XS den}{k:List (Nat×jY)->XS den->Option Y}{y:Y},X.spFL bf C u ops L σ k=some y ->
 ∃fs gs σ',jZ (λi=>spOp (evCall C.E F) (ops.getD i tN)) L (erS σ)=some (fs,erS σ')/\EF fs gs/\k gs σ'=some y:=by
 intro L
 induction L with
 |nil=>intro σ k y h;exact⟨[],[],σ,rfl,.nil,h⟩
 |cons i L ih=>
  intro σ k y h;have ⟨a,σ1,r1,n1,h1⟩:=vj YT u _ _ _ y h;have r1:(spOp (evCall C.E F) (ops.getD i tN)).run (erS σ)=some (a,erS σ1):=r1;have ⟨fs,gs,σ',r2,le,h2⟩:=ih h1;refine⟨(i,(spOp (evCall C.E F) (ops.getD i tN)).foot (erS σ))::fs,(i,σ1.lg)::gs,σ',?_,.cons ⟨n1.r,n1.w⟩ le,h2⟩;simp[jZ]
  simp_all
theorem ms(L:List Nat)(σ:XS den){t:XV den}(h:X.okN0 t=true):er (X.renorm0 L σ t)=renorm0 L (erS σ) (er t):=by
 cases t with
 |d t x=>cases t with
  |row o t=>cases o<;>first|rfl|simp[X.okN0]at h
  |nilr o=>cases o<;>rfl
  |nat=>simp[X.okN0]at h
  |pair a b=>simp[X.okN0]at h
  |_=>rfl
 |ptr p vs=>
  show er (if _ then _ else _)=(if _ then _ else _);by_cases hc:(L.contains p.root&&vs==eH (kH σ.vr) p.root p.off p.hops.length)=true
  ·rw[oIP hc,oIP (by exact hc)];rfl
  ·rw[oIN hc,oIN (by exact hc)];rfl
 |pk p vs=>
  show er (if _ then _ else _)=(if _ then _ else _);by_cases hc:(L.contains p.root&&vs==eH (kH σ.vr) p.root p.off (p.hops.length+1))=true
  ·rw[oIP hc,oIP (by exact hc)];rfl
  ·rw[oIN hc,oIN (by exact hc)];rfl
 |pw p vs sz lo n=>
  show er (if _ then _ else _)=(if _ then _ else _);by_cases hc:(L.contains p.root&&vs==eH (kH σ.vr) p.root p.off (p.hops.length+1))=true
  ·rw[oIP hc,oIP (by exact hc)];rfl
  ·rw[oIN hc,oIN (by exact hc)];rfl
 |tup l=>cases l<;>rfl
 |gap=>simp[X.okN0]at h
 |_=>rfl
theorem y8(L:List Nat)(σ:XS den){t:XV den}(h:X.okN t=true):er (X.renorm L σ t)=renorm L (erS σ) (er t):=by
 have ZO:X.okN0 t=true->er (X.renorm0 L σ t)=renorm0 L (erS σ) (er t):=λh=>ms L σ h
 cases t with
 |agg l=>
  simp only[X.renorm,er,renorm,eT,List.map_map];congr 1;refine List.map_congr_left λx hx=>ms L σ (List.all_eq_true.1 h x hx)
 |fn f l=>
  simp only[X.renorm,er,renorm,eT,List.map_map];congr 1;refine List.map_congr_left λx hx=>ms L σ (List.all_eq_true.1 h x hx)
 |d t x=>
  have:=ZO h
  cases t with
  |row o t=>cases o<;>exact this
  |nilr o=>cases o<;>exact this
  |_=>exact this
 |_=>exact ZO h
theorem Cm{α:Type}{P:α->Bool}:∀{l:List (Nat×α)}{i:Nat}{t:α},(l.all λx=>P x.2)=true->bB l i=some t->P t=true:=by
 intro l
 induction l with
 |nil=>intro i t _ h;simp[bB]at h
 |cons x l ih=>
  intro i t ha h;simp only[List.all_cons,oBA]at ha;simp[bB]at h;split at h
  ·simp_all
  ·exact ih ha.2 h
theorem BB(L:List Nat)(σ:XS den)(hok:X.okS σ=true):∀l:List Nat,(X.normT L σ l).map (λx=>(x.1,er x.2))=normT L (erS σ) l:=by
 intro l
 induction l with
 |nil=>rfl
 |cons i l ih=>
  simp[X.normT,normT];have e:bB (erS σ).tm i=(bB σ.tm i).map er:=nU _ _ _;rw[e]
  cases h:bB σ.tm i with
  |none=>exact ih
  |some t=>
   have ht:=Cm hok h;simp only[oMS,List.map_cons];rw[y8 L σ ht,ih]
theorem BC(σ:XS den):∀l:List Nat,erC (X.normC σ l)=normC (erS σ) l:=by
 intro l
 induction l with
 |nil=>rfl
 |cons r l ih=>
  simp[X.normC,normC];rw[qA]
  cases h:bB σ.ce r with
  |none=>exact ih
  |some c=>
   simp;show(r,erL c)::erC _=_;rw[ih]
theorem rd{σ:XS den}(hok:X.okS σ=true)(pers:Prs):erS (X.norm σ pers)=(erS σ).norm pers:=by
 unfold X.norm St.norm;show(⟨(X.normT pers.2 σ pers.1).map _,erC (X.normC σ pers.2),[]⟩:St)=_;rw[BB _ σ hok,BC]
theorem u5{σ:XS den}(hok:X.okS σ=true):erS (X.anew σ)=(erS σ).anew:=by
 unfold X.anew St.anew;rw[rd hok];congr 1;congr 1
 ·show _=(σ.tm.map λx=>(x.1,er x.2)).map (·.1)
  simp_all
 ·show _=(erC σ.ce).map (·.1);unfold erC
  simp_all
theorem AX(x:Nat×Option Nat):Sim (Y:=Y) (X.shr1 bf x) (shr1 x) id:=by
 obtain⟨i,off⟩:=x;refine Sim.rdT λt=>?_
 cases off with
 |none=>cases t with
  |pk p vs=>
   refine(cL false (.pk p vs)).bind λt'=>Sim.opt λt2 h2=>?_;rw[<- oD h2];exact n7 i t2
  |d t y=>cases t with
   |row o t=>cases o<;>exact .ret rfl
   |nilr o=>cases o<;>exact .ret rfl
   |_=>exact .ret rfl
  |agg l=>exact Sim.ite (λ_=>.fail) λ_=>.ret rfl
  |_=>exact .fail
 |some off=>cases t with
  |ptr p vs=>
   refine(cC p _ vs).bind λ_=>Sim.ite (λh=>?_) λ_=>.fail;rw[oIP (by rw[<- rF];exact h),<- uI];refine(eM _).bind λt=>Sim.ite (λho=>?_) λho=>?_
   ·obtain⟨c,hc⟩:=gR ho;have T8:=eL (Y:=Y) (X.addP p off) t;rw[hc]at T8;rw[hc];exact T8.bind λt'=>(cL false t').bind λ_=>.ret rfl
   ·cases t with
    |d t y=>
     cases t with
     |row o t=>cases o<;>first|exact .ret rfl|simp[X.isOwX,X.isOwT]at ho
     |nilr o=>cases o<;>first|exact .ret rfl|simp[X.isOwX,X.isOwT]at ho
     |_=>exact .ret rfl
    |_=>exact .fail
  |d t y=>cases t with
   |row o t=>cases o<;>exact .fail
   |nilr o=>cases o<;>exact .fail
   |_=>exact .fail
  |_=>exact .fail
theorem vk:∀l:List (Nat×Option Nat),Sim (Y:=Y) (X.shrs bf l) (shrs l) id:=by
 intro l
 induction l with
 |nil=>exact .ret rfl
 |cons x l ih=>exact(AX x).bind λ_=>ih
theorem yk(r:Nat):∀n o:Nat,Sim (Y:=Y) (X.rdImmM bf r n o) (wS r n o) erL:=by
 intro n
 induction n with
 |zero=>intro o;exact .ret rfl
 |succ n ih=>
  intro o;refine Sim.rdC λt=>Sim.ite (λh=>?_) λh=>.fail;rw[oIP (ro h)];exact(ih (o+1)).bind λl=>.ret rfl
theorem Do(i n:Nat):Sim (Y:=Y) (X.frzM bf i n) (FN i n) id:=by
 refine Sim.rdT λt=>?_
 cases t with
 |ptr p vs=>
  refine Sim.ite (λh=>?_) λh=>.fail;show Sim _ (if(erP p).root=2*i+2/\(erP p).off=0/\(erP p).hops=[]then _ else _) id;rw[oIP (by unfold erP;exact h)];refine(cC p 0 vs).bind λ_=>(yk _ n 0).bind λl=>?_;exact Sim.new rfl (n7 i (.ip l))
 |_=>exact .fail
theorem DE{i:Nat}{σ:XS den}{u:HL den []}:∀{L:List tM}{H:tM}{h:HL den (lvS H.s)},X.selH bf i σ u L=some ⟨H,h⟩->X.convS bf H.s σ u=some h:=by
 intro L
 induction L with
 |nil=>intro H h hs;cases hs
 |cons H0 L ih=>
  intro H h hs;unfold X.selH at hs
  grind
theorem qB{Z:Type}{outs:List (eX×Shs)}{i:Nat}{h:HL den (q9 (outs.map λx=>lvS x.2) i)}{o:qM (outs.map λx=>lvS x.2)}{x:eX×XS den}(K:eX×XS den->Option Z)(hm:mA (outs.map λx=>lvS x.2) i h=some o)(hf:m6 outs i h=some x):(fQ (outs.map λx=>lvS x.2) o λj ho=>X.onOut bf (m6 outs j ho) K)=K x:=by
 rw[qC _ hm,hf];rfl
theorem A0{F:bW}{C:X.Cfg}(YT:∀c∈C.TB,km F c)(u:HL den []){N:Nat}(hN:NN<=N):∀(tc:dU)(i:Nat){Y:Type}(σ:XS den)(k:eX->XS den->Option Y)(y:Y),X.runC bf C u tc i σ k=some y->∃e σ',runC (evCall C.E F) N tc (erS σ)=some (e,erS σ')/\k e σ'=some y:=by
 intro tc
 induction tc with
 |skip=>intro i Y σ k y h;exact⟨.normal,σ,rfl,h⟩
 |frz j n a ih=>
  intro i Y σ k y h
  have h:X.frzM bf j n σ (λ_ σ'=>if X.okS σ' then X.runC bf C u a i (X.anew σ') k else none)=some y:=by
   unfold X.runC at h;exact h
  obtain⟨_,σ1,r1,_,h1⟩:=Do j n σ _ y h;split at h1
  ·rename_i hok;obtain⟨e,σ2,r2,h2⟩:=ih _ _ k y h1;refine⟨e,σ2,?_,h2⟩;simp only[runC];rw[r1];simp only[oBS];rw[<- u5 hok];exact r2
  ·cases h1
 |nrm pers=>
  intro i Y σ k y h;have h:(if X.okS σ then k .normal (X.norm σ pers)else none)=some y:=h;split at h
  ·rename_i hok;exact⟨.normal,X.norm σ pers,by rw[rd hok];rfl,h⟩
  ·cases h
 |reg id draw ops pers=>
  intro i Y σ k y h
  cases draw with
  |none=>
   have h:X.spOps bf C u ops σ (λ_ σ'=>if X.okS σ' then k .normal (X.norm σ' pers)else none)=some y:=h;obtain⟨σ1,r1,h1⟩:=AV YT u ops h;split at h1
   ·rename_i hok;refine⟨.normal,X.norm σ1 pers,?_,h1⟩;simp only[runC];rw[r1,rd hok];rfl
   ·cases h1
  |some deps=>
   have h:X.spFL bf C u ops (List.range ops.length) σ (λfs σ'=>if lu deps fs&&X.okS σ' then k .normal (X.norm σ' pers)else none)=some y:=h;obtain⟨fs,gs,σ1,r1,le,h1⟩:=Dd YT u ops _ h;split at h1
   ·rename_i hok;simp only[oBA]at hok;rw[um]at hok;refine⟨.normal,X.norm σ1 pers,?_,h1⟩;simp only[runC];rw[r1,rd hok.2];simp only[oBS];rw[oIP (sB le hok.1)]
   ·cases h1
 |seq a b Zk Zg=>
  intro i Y σ k y h
  have fin:∀(e:eX)(σ1:XS den),runC (evCall C.E F) N a (erS σ)=some (e,erS σ1)->(match e with|.normal=>X.runC bf C u b (i+1+X.marks a) σ1 k|e=>k e σ1)=some y->∃e σ',runC (evCall C.E F) N (.seq a b) (erS σ)=some (e,erS σ')/\k e σ'=some y:=by
   intro e σ1 r1 h1;simp only[runC];rw[r1];simp only[oBS]
   cases e with
   |normal=>exact Zg _ σ1 k y h1
   |exit j=>exact⟨_,σ1,rfl,h1⟩
   |ret=>exact⟨_,σ1,rfl,h1⟩
  unfold X.runC at h
  cases hs:X.selJ i C.HL with
  |none=>
   rw[hs]at h;obtain⟨e,σ1,r1,h1⟩:=Zk _ σ _ y h;exact fin e σ1 r1 h1
  |some H=>
   rw[hs]at h;obtain⟨o,h1,h2⟩:=bm (show(X.runC bf C u a (i+1) σ _:Option _).bind _=some y from h);obtain⟨e,σ1,r1,h3⟩:=Zk _ σ _ o h1
   cases hi:X.injE bf e σ1 u H.outs with
   |none=>rw[hi]at h3;cases h3
   |some x=>
    rw[hi]at h3;obtain⟨j,ho⟩:=x;have h3:mA (H.outs.map λx=>lvS x.2) j ho=some o:=h3;obtain⟨x,hf,he,hσ⟩:=zW hi;rw[qB _ h3 hf]at h2;rw[<- hσ]at r1;rw[<- he]at r1;exact fin x.1 x.2 r1 h2
 |cond c a b Zk Zg=>
  intro i Y σ k y h
  have h:X.opd bf c σ (λt _=>X.condX bf (X.runC bf C u a i (X.knownO bf c true σ) k) (X.runC bf C u b (i+X.marks a) (X.knownO bf c false σ) k) t)=some y:=by
   unfold X.runC at h;exact h
  obtain⟨t,σ1,r1,e1,_,h1⟩:=nM h
  cases t with
  |d t x=>cases t with
   |bool=>
    have QU:erS (X.knownO bf c x σ)=erS σ:=by
     cases c with
     |t j=>
      have hj:X.tOf σ j=.d .bool x:=by
       have h9:X.condX bf (X.runC bf C u a i (X.knownO bf (.t j) true σ) k) (X.runC bf C u b (i+X.marks a) (X.knownO bf (.t j) false σ) k) (X.tOf σ j)=some y:=h;have r1:(some ((erS σ).t j,erS σ):Option (TV×St))=some (er (.d .bool x),erS σ):=r1
       injection r1 with r1
       injection r1 with r1 _
       rw[B4]at r1
       cases ht:X.tOf σ j with
       |d t2 z=>cases t2 with
        |bool=>rw[ht]at r1;injection r1 with r1;injection r1 with r1;rw[show z=x from r1]
        |_=>rw[ht]at h9;cases h9
       |_=>rw[ht]at h9;cases h9
      exact vJ hj
     |_=>rfl
    have r1:(opd c).run (erS σ)=some (.v (.bool x),erS σ):=r1;simp only[runC];rw[r1];simp only[oBS]
    cases x with
    |true=>
     rw[<- QU];exact Zk _ _ k y h1
    |false=>
     rw[<- QU];exact Zg _ _ k y h1
   |_=>cases h1
  |_=>cases h1
 |sc b ih=>
  intro i Y σ k y h;unfold X.runC at h;exact ih i σ k y h
 |block id b ih=>
  intro i Y σ k y h;unfold X.runC at h;obtain⟨e,σ1,r1,h1⟩:=ih _ σ _ y h;simp only[runC];rw[r1];simp only[oBS]
  cases e with
  |normal=>exact⟨_,σ1,rfl,h1⟩
  |ret=>exact⟨_,σ1,rfl,h1⟩
  |exit j=>
   dsimp only at h1;by_cases hj:j=id
   ·rw[oIP hj]at h1;exact⟨.normal,σ1,by dsimp only;rw[oIP hj],h1⟩
   ·rw[oIN hj]at h1;exact⟨.exit j,σ1,by dsimp only;rw[oIN hj],h1⟩
 |loop b ih=>
  intro i Y σ k y h;unfold X.runC at h
  cases hs:X.selH bf i σ u C.HL with
  |none=>rw[hs]at h;cases h
  |some x=>
   obtain⟨H,h0⟩:=x;rw[hs]at h;have SF:=rL (DE hs);obtain⟨o,h1,h2⟩:=bm (show(bH _ NN h0).bind _=some y from h)
   have ZO:∀(n:Nat)(hd:HL den (lvS H.s))(o:qM (H.outs.map λx=>lvS x.2)),bH (λh=>X.runC bf C u b (i+1) (uG H.s h) (X.roundK bf H u)) n hd=some o->∀N',n<=N'->∃x j ho,DX (runC (evCall C.E F) N b) N' (erS (uG H.s hd))=some (x.1,erS x.2)/\mA (H.outs.map λx=>lvS x.2) j ho=some o/\m6 H.outs j ho=some x:=by
    intro n
    induction n with
    |zero=>intro hd o h;cases h
    |succ n N6=>
     intro hd o h N' Yr;obtain⟨N',rfl⟩:∃Mv,N'=Mv+1:=⟨N'-1,by omega⟩;obtain⟨z,hz,U9⟩:=bm (show(X.runC bf C u b (i+1) (uG H.s hd) _:Option _).bind _=some o from h);obtain⟨e,σ1,r1,h3⟩:=ih _ _ _ z hz;simp only[DX];rw[r1];simp only[oBS]
     have other:∀e':eX,(∀s:Option (HL den (lvS H.s)⊕qM (H.outs.map λx=>lvS x.2)),s=some z->s=X.onOut bf (X.injE bf e' σ1 u H.outs) (λx=>bf.exitL (lvS H.s) (H.outs.map λx=>lvS x.2) x.1 x.2)->∃x j ho,(some (e',erS σ1):Option (eX×St))=some (x.1,erS x.2)/\mA (H.outs.map λx=>lvS x.2) j ho=some o/\m6 H.outs j ho=some x):=by
      intro e' s Zf Y6;rw[Zf]at Y6
      cases hi:X.injE bf e' σ1 u H.outs with
      |none=>rw[hi]at Y6;cases Y6
      |some x=>
       rw[hi]at Y6;obtain⟨j,ho⟩:=x;obtain⟨t,Vz,Yn⟩:=dA (show(mA (H.outs.map λx=>lvS x.2) j ho).map Sum.inr=some z from Y6.symm);subst Yn;obtain⟨x,hf,he,hσ⟩:=zW hi;refine⟨x,j,ho,by rw[he,hσ],?_,hf⟩;have:some t=some o:=U9;rw[<- this];exact Vz
     cases e with
     |normal=>
      have h3:X.onOut bf (X.convS bf H.s σ1 u) (bf.next (lvS H.s) (H.outs.map λx=>lvS x.2))=some z:=h3
      cases hc:X.convS bf H.s σ1 u with
      |none=>rw[hc]at h3;cases h3
      |some h'=>
       rw[hc]at h3;have h3:some (Sum.inl h')=some z:=h3
       injection h3 with h3
       subst h3;rw[<- rL hc];exact N6 h' o U9 N' (by omega)
     |exit j=>exact other (.exit j) _ h3 rfl
     |ret=>exact other .ret _ h3 rfl
   obtain⟨x,j,ho,r1,hm,hf⟩:=ZO NN h0 o h1 N hN;rw[qB _ hm hf]at h2;refine⟨x.1,x.2,?_,h2⟩;simp only[runC];rw[<- SF];exact r1
 |exit id=>intro i Y σ k y h;exact⟨.exit id,σ,rfl,h⟩
 |ret=>intro i Y σ k y h;exact⟨.ret,σ,rfl,h⟩
 |pre l a ih=>
  intro i Y σ k y h
  have h:X.shrs bf l σ (λ_ σ'=>if X.okS σ' then X.runC bf C u a i (X.anew σ') k else none)=some y:=by
   unfold X.runC at h;exact h
  obtain⟨_,σ1,r1,_,h1⟩:=vk l σ _ y h;split at h1
  ·rename_i hok;obtain⟨e,σ2,r2,h2⟩:=ih _ _ k y h1;refine⟨e,σ2,?_,h2⟩;simp only[runC];rw[r1];simp only[oBS];rw[<- u5 hok];exact r2
  ·cases h1
 |post a l ih=>
  intro i Y σ k y h
  have h:X.runC bf C u a i σ (λe σ'=>X.shrs bf l σ' λ_ σ2=>if X.okS σ2 then k e (X.anew σ2)else none)=some y:=by
   unfold X.runC at h;exact h
  obtain⟨e,σ1,r1,h1⟩:=ih _ _ _ y h;obtain⟨_,σ2,r2,_,h2⟩:=vk l σ1 _ y h1;split at h2
  ·rename_i hok;refine⟨e,X.anew σ2,?_,h2⟩;simp only[runC];rw[r1];simp only[oBS];rw[r2];simp only[oBS];rw[u5 hok]
  ·cases h2
end
section
variable {α β γ δ Y:Type}
theorem qh(np:Nat)(t:XV den):Sim (Y:=Y) (X.takeR1 bf np t) (takeR1 np (er t)) er:=by
 have ZO:Sim (Y:=Y) (X.take1 bf true t) (take1 true (er t)) er:=cL true t
 cases t with
 |pk p vs=>exact cL _ (.pk p vs)
 |d t y=>cases t with
  |row o t=>cases o<;>exact ZO
  |nilr o=>cases o<;>exact ZO
  |_=>exact ZO
 |_=>exact ZO
theorem wD(np:Nat):∀l:List (XV den),Sim (Y:=Y) (X.takeRL bf np l) (takeRL np (erL l)) erL:=by
 intro l
 induction l with
 |nil=>exact .ret rfl
 |cons t l ih=>exact(qh np t).bind λt'=>ih.bind λr'=>.ret rfl
theorem mi(np:Nat)(t:XV den):Sim (Y:=Y) (X.takeRV bf np t) (takeRV np (er t)) λx=>(erL x.1,x.2):=by
 have one:∀t:XV den,Sim (Y:=Y) (X.bind (X.takeR1 bf np t) λt'=>X.ret ([t'],RSh.one)) ((takeR1 np (er t)).bind λt'=>.ret ([t'],.one)) λx=>(erL x.1,x.2):=λt=>(qh np t).bind λt'=>.ret rfl;have ZO:=one t
 cases t with
 |agg l=>exact(wD np l).bind λl'=>.ret (by simp[cx])
 |d t y=>cases t with
  |row o t=>cases o<;>exact ZO
  |nilr o=>cases o<;>exact ZO
  |_=>exact ZO
 |_=>exact ZO
theorem Ba(np:Nat)(q:TRs):Sim (Y:=Y) (X.res1 bf np q) (res1 np q) λx=>(erL x.1,x.2):=by
 cases q with
 |tmp t=>exact Sim.rdT λtv=>mi np tv
 |cell t n=>
  refine Sim.rdT λtv=>?_
  cases tv with
  |ptr p vs=>
   refine(cC p _ vs).bind λ_=>?_
   cases n with
   |none=>exact(eM p).bind λt=>(eL p t).bind λt'=>mi np t'
   |some n=>exact(sf p n).bind λl=>mi np (.agg l)
  |d t y=>cases t with
   |row o t=>cases o<;>exact .fail
   |nilr o=>cases o<;>exact .fail
   |_=>exact .fail
  |_=>exact .fail
theorem A8(np:Nat):∀l:List TRs,Sim (Y:=Y) (X.resL bf np l) (resL np l) λx=>(erL x.1,x.2):=by
 intro l
 induction l with
 |nil=>exact .ret rfl
 |cons q l ih=>exact(Ba np q).bind λx=>ih.bind λy=>.ret (by simp[jU])
theorem zB(l:List (XV den)):onesOf (erL l)=X.onesOf l:=by
 induction l with
 |nil=>rfl
 |cons t l ih=>simp[erL,onesOf,X.onesOf,ih]
theorem wG:∀l:List TRs,Sim (Y:=Y) (X.flatsR bf l) (flatsR l) erL:=by
 intro l
 induction l with
 |nil=>exact .ret rfl
 |cons q l ih=>cases q with
  |cell t n=>exact .fail
  |tmp t=>
   refine Sim.rdT λtv=>Sim.ite (λhc=>?_) λ_=>.fail
   have h1:tO (er tv)=true:=by
    have:=vV (l:=[tv]) (by simp_all);simpa[erL]using this
   rw[oIP h1];exact ih.bind λl=>.ret rfl
theorem A9(np:Nat)(l:List TRs):Sim (Y:=Y) (X.resF bf np l) (resF np l) λx=>(erL x.1,x.2):=by
 have base:=A8 (Y:=Y) np l
 cases l with
 |nil=>exact base
 |cons q r=>cases q with
  |cell t n=>exact base
  |tmp t=>
   refine Sim.rdT λtv=>?_
   cases tv with
   |ptr p vs=>exact(cC p _ vs).bind λ_=>(wG r).bind λl=>.ret (by simp[zB];rfl)
   |d ty y=>cases ty with
    |row o ty=>cases o<;>exact base
    |nilr o=>cases o<;>exact base
    |_=>exact base
   |_=>exact base
theorem zR(t:XV den):(∃p vs,t=.ptr p vs)\/(X.isPtrX t=false/\∀p vs,er t≠.ptr p vs):=by
 cases t with
 |ptr p vs=>simp_all
 |d t y=>cases t with
  |row o t=>cases o<;>exact .inr ⟨rfl,by simp[er,er1]⟩
  |nilr o=>cases o<;>exact .inr ⟨rfl,by simp[er,er1]⟩
  |_=>exact .inr ⟨rfl,by simp[er,er1]⟩
 |gap t x i o=>exact .inr ⟨rfl,λp vs h=>by cases h⟩
 |_=>exact .inr ⟨rfl,by simp[er]⟩
theorem BN{t:XV den}(h:X.isShX t=true):∃c,er t=.sl c:=by
 cases t with
 |d t y=>cases t with
  |row o t=>cases o with
   |false=>exact⟨_,rfl⟩
   |true=>cases h
  |nilr o=>cases o with
   |false=>exact⟨_,rfl⟩
   |true=>cases h
  |_=>cases h
 |_=>cases h
theorem wW{pp:List Nat}:∀{l:List (XV den)}{i:Nat},X.ptrsInX pp i l=true->gP pp i (erL l)=true:=by
 intro l
 induction l with
 |nil=>intro i _;rfl
 |cons t l ih=>
  intro i h;simp only[X.ptrsInX,oBA]at h;have ⟨⟨h0,hs⟩,hr⟩:=h
  rcases zR t with⟨p,vs,rfl⟩|⟨h1,h2⟩
  ·show(pp.contains i&&gP pp (i+1) (erL l))=true;rw[ih hr,Bool.and_true];simpa[X.isPtrX]using h0
  ·show gP pp i (er t::erL l)=true;rw[h1,Bool.false_or]at hs
   cases hsh:X.isShX t with
   |true=>
    have ⟨c,hc⟩:=BN hsh;rw[hc];exact ih hr
   |false=>
    rw[hsh,Bool.false_or]at hs
    cases he:er t with
    |ptr p vs=>simp_all
    |sl c=>exact ih hr
    |_=>show(!pp.contains (1000+i)&&gP pp (i+1) (erL l))=true;rw[hs,ih hr];rfl
theorem uo(l:List (XV den)):∀i,(cS i l).map (λx=>(x.1,er x.2))=cS i (erL l):=by
 induction l with
 |nil=>intro i;rfl
 |cons t l ih=>intro i;simp[cS,erL,ih]
theorem DR(vals:List (XV den))(pts:List (Nat×List (XV den))):erS (X.mkSt vals pts)=mkSt (erL vals) (erC pts):=by
 unfold X.mkSt mkSt erS;simp[uo]
theorem Bw(σ:XS den)(pts:List (Nat×List (XV den))):erC (X.ptsOf σ pts)=(erC pts).map λx=>(x.1,(bB (erS σ).ce x.1).getD []):=by
 induction pts with
 |nil=>rfl
 |cons x pts ih=>
  show(x.1,erL ((bB σ.ce x.1).getD []))::erC (X.ptsOf σ pts)=(x.1,(bB (erS σ).ce x.1).getD [])::_;rw[ih,qA];cases bB σ.ce x.1<;>rfl
theorem DH{F:bW}{C:X.Cfg}(YT:∀c∈C.TB,km F c)(u:HL den []){N:Nat}(hN:NN<=N){tf:TFn}{outs:List XO}{vals:List (XV den)}{pts:List (Nat×List (XV den))}{o:qM (outs.map lvO)}(h:X.runT bf C u tf outs vals pts=some o):
 ∃x,fQ (outs.map lvO) o (λi ho=>ga outs i ho)=some x/\runT C.E F N tf (erL vals) (erC pts)=some (⟨erL x.1,x.2.1⟩,erC x.2.2):=by
 unfold X.runT at h;split at h
 case isFalse=>cases h
 rename_i hc;obtain⟨e,σ1,r1,h1⟩:=A0 YT u hN tf.body 0 _ _ o h
 have ZO:X.resF bf tf.np tf.res σ1 (λy σ'=>X.onOut bf (X.injO bf y.1 y.2 (X.ptsOf σ' pts) u outs) λx=>bf.out (outs.map lvO) x.1 x.2)=some o ->
  ∃x,fQ (outs.map lvO) o (λi ho=>ga outs i ho)=some x/\(((resF tf.np tf.res).run (erS σ1)).bind λy=>some ((⟨y.1.1,y.1.2⟩:nV),(erC pts).map λx=>(x.1,(bB y.2.ce x.1).getD [])))=some (⟨erL x.1,x.2.1⟩,erC x.2.2):=by
  intro h2;obtain⟨y,σ2,r2,_,h3⟩:=A9 tf.np tf.res σ1 _ o h2
  cases hi:X.injO bf y.1 y.2 (X.ptsOf σ2 pts) u outs with
  |none=>rw[hi]at h3;cases h3
  |some z=>
   rw[hi]at h3;obtain⟨i,ho⟩:=z;obtain⟨x,hf,e1,e2,e3⟩:=D0 hi;refine⟨x,?_,?_⟩
   ·rw[qC _ (show mA (outs.map lvO) i ho=some o from h3)];exact hf
   ·rw[r2];simp only[oBS];rw[e1,e2,e3,Bw]
 have Z2:(erL vals).length=tf.np/\(gP tf.pp 0 (erL vals)&&(!tf.pp.contains 1000||(erC pts).isEmpty))=true:=by
  have h2:=hc.2;rw[oBA]at h2;refine⟨by rw[cx];exact hc.1,?_⟩;rw[wW h2.1,Bool.true_and];have h3:=h2.2
  cases pts with
  |nil=>simp[erC]
  |cons x pts=>simp_all
 unfold runT;rw[oIP Z2,<- DR,r1]
 cases e with
 |exit j=>cases h1
 |normal=>exact ZO h1
 |ret=>simp_all
end
theorem B6{E:Env}{T:FuncId->Option TFn}{B F:bW}{N:Nat}(hN:NN<=N){C:X.Cfg}(hE:C.E=E)(YT:∀c∈C.TB,km F c){c:Ctr}{tf:TFn}(hT:T c.f=some tf)
 (hg:∀h,X.runT bf C () tf c.outs (d4 c.ins _ h).1 (lL c.pts [] (d4 c.ins _ h).2).1=c.g h):km (tW E T B F N) c:=by
 intro h o x ho hx;rw[wA hT];rw[<- hg h]at ho;have ⟨x',h1,h2⟩:=DH YT () hN ho
 simp_all
def Lvl(E:Env)(T:FuncId->Option TFn)(B:bW)(n:Nat)(c:Ctr):Prop:=∀k,n<=k->km (runF E T B (NN+k)) c
def wu(E:Env)(T:FuncId->Option TFn)(B:bW)(n:Nat):List Ctr->Prop
 | []=>True
 |c::r=>Lvl E T B n c/\wu E T B n r
theorem Lvl.mono{E:Env}{T:FuncId->Option TFn}{B:bW}{n m:Nat}{c:Ctr}(h:Lvl E T B n c)(hm:n<=m):Lvl E T B m c:=λk hk=>h k (Nat.le_trans hm hk)
theorem wu.get{E:Env}{T:FuncId->Option TFn}{B:bW}{n:Nat}:∀{l:List Ctr},wu E T B n l->∀c∈l,Lvl E T B n c:=by
 intro l
 induction l with
 |nil=>simp_all
 |cons x l ih=>
  intro h c hc;rcases List.mem_cons.1 hc with rfl|hc
  ·exact h.1
  ·exact ih h.2 c hc
theorem ej{E:Env}{T:FuncId->Option TFn}{B:bW}{n:Nat}{C:X.Cfg}(hE:C.E=E)(YT:wu E T B n C.TB){c:Ctr}{tf:TFn}(hT:T c.f=some tf)
 (hg:∀h,X.runT bf C () tf c.outs (d4 c.ins _ h).1 (lL c.pts [] (d4 c.ins _ h).2).1=c.g h):Lvl E T B (n+1) c:=by
 intro k hk;obtain⟨k,rfl⟩:∃k',k=k'+1:=⟨k-1,by omega⟩;exact B6 (F:=runF E T B (NN+k)) (Nat.le_add_right _ _) hE (λc hc=>YT.get c hc k (by omega)) hT hg
theorem xE{P:Program}{H:Nat->List (Nat×Option Nat)}{f:FuncId}{tf:TFn}(h:jy P H f=some tf):∃fn,P.funcs[f]?=some fn/\tf.np<=fn.params.size+fn.nfree/\tf.nt=fn.ntmps:=by
 unfold jy at h;split at h
 case h_2=>simp at h
 split at h
 case h_2=>simp at h
 split at h
 ·rename_i Oa hcl;have ⟨_,g2,g3,_⟩:=m8 hcl
  simp_all
 simp only at h;split at h
 ·injection h with h
  subst h
  simp_all
 ·simp at h
theorem tV{P:Program}(H:FuncId->Nat->List (Nat×Option Nat))(Zy:(P.funcs.all λfn=>decide (fn.params.size+fn.nfree<=fn.ntmps) && !(fn.name=="runtime.NumGoroutine"))=true):rV P λf=>jy P (H f) f:=by
 refine AS λf tf h=>?_;have ⟨fn,hf,e1,e2⟩:=xE h;have ⟨hlt,he⟩:=Array.getElem?_eq_some_iff.1 hf;have:=Array.all_eq_true.1 Zy f hlt;rw[he]at this;simp at this;refine⟨⟨H f,h⟩,by omega,λLO RT=>?_⟩
 simp_all
def Gm:TFn:=⟨0,[],0,.skip,[]⟩
theorem fO{o:Option TFn}(h:o.isSome=true):o=some (o.getD Gm):=by
 cases o with
 |none=>simp at h
 |some x=>rfl
def FV(P:Program)(f:FuncId):List (Option Nat):=match P.funcs[f]? with
 |some fn=>fn.params.toList.map λt=>match P.underlying t with|some (.pointer e)=>qd P e|_=>none
 |none=>[]
def noB:bW:=λ_ _ _=>none
theorem E3{P:Program}:cH P noB:=λf vals pts res Zx h=>by simp[noB]at h
abbrev I64:CT:=.int .i64
def w64(x:Int):Int:=IntKind.wrap .i64 x
def wk(k:IntKind)(x:Int):Int:=IntKind.wrap k x
def bytes(l:List Nat):ByteArray:=⟨(l.map UInt8.ofNat).toArray⟩
def Row(w:World)(F:Nat->Prop)(A:Option Addr)(cs:List Value):Prop:=
 ∀i (_:i<cs.length),∃b off,A=some ⟨b,off,none⟩/\F b/\w.cell? ⟨b,off+i,none⟩=some cs[i]
def AI(k:IntKind)(w:World)(F:Nat->Prop)(A:Option Addr)(xs:List Int):Prop:=Row w F A (xs.map (.int k))
def fN(F:Nat->Prop)(w w':World):Prop:=∀k,F k->w'.heap[k]?=w.heap[k]?
theorem fN.refl(F:Nat->Prop)(w:World):fN F w w:=λ_ _=>rfl
theorem fN.trans{F:Nat->Prop}{a b c:World}(h:fN F a b)(h':fN F b c):fN F a c:=λk hk=>(h' k hk).trans (h k hk)
theorem fN.sub{F G:Nat->Prop}{a b:World}(h:fN F a b)(hs:∀k,G k->F k):fN G a b:=λk hk=>h k (hs k hk)
theorem fN.drew{F:Nat->Prop}{a b:World}(h:fN F a b):fN F a b.drew:=h
theorem fN.alloc{F:Nat->Prop}{a b:World}(h:fN F a b)(hF:∀k,F k->k<b.heap.size)(o:Obj):fN F a (b.alloc o):=
 λk hk=>(heap_alloc_old b o (hF k hk)).trans (h k hk)
theorem fN.setCell{F:Nat->Prop}{a b:World}(h:fN F a b){p:Addr}(hp:¬F p.block)(u:Value):fN F a (b.setCell p u):=
 λk hk=>(Below.heap_setCell b p u k (λe=>hp (e▸hk))).trans (h k hk)
theorem fN.cell{F:Nat->Prop}{a b:World}(h:fN F a b){p:Addr}(hp:F p.block):b.cell? p=a.cell? p:=World.cell?_of_block (h p.block hp)
theorem xT{F:Nat->Prop}{a b:World}(h:fN F a b){p:Addr}(hp:F p.block):b.frozen? p=a.frozen? p:=World.frozen?_of_block (h p.block hp)
theorem Row.keep{w w':World}{F:Nat->Prop}{A:Option Addr}{cs:List Value}(h:Row w F A cs)(ha:fN F w w'):Row w' F A cs:=by
 intro i hi;obtain⟨b,off,e,hF,hc⟩:=h i hi;exact⟨b,off,e,hF,by rw[ha.cell (p:=⟨b,off+i,none⟩) hF];exact hc⟩
theorem Row.sub{w:World}{F G:Nat->Prop}{A:Option Addr}{cs:List Value}(h:Row w F A cs)(hs:∀k,F k->G k):Row w G A cs:=by
 intro i hi;obtain⟨b,off,e,hF,hc⟩:=h i hi;exact⟨b,off,e,hs _ hF,hc⟩
theorem Row.nil(w:World)(F:Nat->Prop)(A:Option Addr):Row w F A []:=λi hi=>absurd hi (by simp)
theorem AI.keep{k:IntKind}{w w':World}{F:Nat->Prop}{A:Option Addr}{xs:List Int}(h:AI k w F A xs)(ha:fN F w w'):AI k w' F A xs:=Row.keep h ha
theorem AI.at_{k:IntKind}{w:World}{F:Nat->Prop}{A:Option Addr}{xs:List Int}(h:AI k w F A xs){i:Nat}(hi:i<xs.length):
 ∃b off,A=some ⟨b,off,none⟩/\F b/\w.cell? ⟨b,off+i,none⟩=some (.int k xs[i]):=by
 obtain⟨b,off,e,hF,hc⟩:=h i (by simpa using hi);exact⟨b,off,e,hF,by simpa using hc⟩
theorem bl(w:World)(row:Option Nat):w.grownBy w row:=⟨rfl,rfl,rfl,Nat.le_refl _,λ_ _ _=>rfl⟩
theorem bo{a b c:World}{row:Option Nat}(h:a.grownBy b row)(h':b.grownBy c row):a.grownBy c row:=
 ⟨h'.os.trans h.os,h'.tape.trans h.tape,h'.output.trans h.output,Nat.le_trans h.size h'.size,λk hk hr=>(h'.block k (Nat.lt_of_lt_of_le hk h.size) hr).trans (h.block k hk hr)⟩
theorem lI{a b:World}{row:Option Nat}(h:a.grownBy b none):a.grownBy b row:=⟨h.os,h.tape,h.output,h.size,λk hk _=>h.block k hk (by simp)⟩
theorem df{a b:World}{row:Option Nat}(h:a.grownBy b row):a.grownBy b.drew row:=⟨h.os,h.tape,h.output,h.size,h.block⟩
theorem bj{a b:World}{row:Option Nat}(h:a.grownBy b row)(o:Obj):a.grownBy (b.alloc o) row:=
 bo h (World.grownBy_alloc b o row)
theorem bp{a b:World}{row:Option Nat}(h:a.grownBy b row){p:Addr}(hp:some p.block=row\/a.heap.size<=p.block)(u:Value):a.grownBy (b.setCell p u) row:=
 ⟨h.os,h.tape,h.output,by simpa[World.setCell]using h.size,λk hk hr=>(Below.heap_setCell b p u k (λe=>by
  rcases hp with hp|hp
  ·exact hr (by rw[e,hp])
  ·omega)).trans (h.block k hk hr)⟩
theorem Row.grown{w w':World}{F:Nat->Prop}{A:Option Addr}{cs:List Value}(h:Row w F A cs)(hg:w.grownBy w' none)(hF:∀k,F k->k<w.heap.size):Row w' F A cs:=
 h.keep λk hk=>hg.block k (hF k hk) (by simp)
theorem AI.grown{k:IntKind}{w w':World}{F:Nat->Prop}{A:Option Addr}{xs:List Int}(h:AI k w F A xs)(hg:w.grownBy w' none)(hF:∀k,F k->k<w.heap.size):AI k w' F A xs:=Row.grown h hg hF
theorem AI.low{k:IntKind}{w w':World}{A:Option Addr}{xs:List Int}(h:AI k w (λk=>k<w.heap.size) A xs)(hg:w.grownBy w' none):AI k w' (λk=>k<w'.heap.size) A xs:=
 Row.sub (Row.grown h hg λ_ h=>h) λk hk=>Nat.lt_of_lt_of_le hk hg.size
def New(w w':World)(k:Nat):Prop:=w.heap.size<=k/\k<w'.heap.size
structure i9 (e:TypeId)(w:World)(q n:Nat)(vs:List Value):Prop where
 eq:∃cur:Array Value,w.heap[q]?=some (.cells cur e (0,0))/\cur.size=n/\cur.toList.take vs.length=vs
section
variable {e:TypeId} {w w':World} {q n:Nat} {vs:List Value}
theorem i9.hi(h:i9 e w q n vs):q<w.heap.size:=by
 obtain⟨cur,h1,_⟩:=h.eq;exact(Array.getElem?_eq_some_iff.1 h1).1
theorem i9.le(h:i9 e w q n vs):vs.length<=n:=by
 obtain⟨cur,_,h2,h3⟩:=h.eq;have:=congrArg List.length h3;simp at this;omega
theorem i9.cell(h:i9 e w q n vs){j:Nat}(hj:j<vs.length):w.cell? ⟨q,j,none⟩=some vs[j]:=by
 obtain⟨cur,h1,h2,h3⟩:=h.eq;rw[cell_of_row _ _ _ _ _ _ h1]
 have h4:(cur.toList.take vs.length)[j]?=some vs[j]:=by rw[h3];simp[hj]
 rw[List.getElem?_take,oIP hj]at h4;simpa using h4
theorem i9.mid{c1 d:List Value}(h:i9 e w q n (c1++d)){j:Nat}{u:Value}(hj:d[j]?=some u):w.cell? ⟨q,c1.length+j,none⟩=some u:=by
 obtain⟨hlt,hu⟩:=oGS hj;rw[h.cell (by rw[List.length_append];omega),List.getElem_append_right (by omega)];simp[hu]
theorem i9.free(h:i9 e w q n vs)(j:Nat):w.frozen? ⟨q,j,none⟩=false:=by
 obtain⟨cur,h1,_⟩:=h.eq;exact frozen_of_row _ _ _ _ _ h1
theorem i9.keep(h:i9 e w q n vs)(hh:w'.heap[q]?=w.heap[q]?):i9 e w' q n vs:=by
 obtain⟨cur,h1,h2⟩:=h.eq;exact⟨cur,by rw[hh];exact h1,h2⟩
theorem i9.grow(h:i9 e w q n vs)(hg:w.grownBy w' none):i9 e w' q n vs:=h.keep (hg.block _ h.hi (by simp))
theorem i9.other(h:i9 e w q n vs){p:Nat}(hne:q≠p)(j:Nat)(v:Value):i9 e (w.setCell ⟨p,j,none⟩ v) q n vs:=h.keep (heap_setCell_other _ _ _ _ hne)
theorem i9.set(h:i9 e w q n vs){j:Nat}(v:Value)(hj:j<vs.length):i9 e (w.setCell ⟨q,j,none⟩ v) q n (vs.set j v):=by
 have hl:=h.le;obtain⟨cur,h1,h2,h3⟩:=h.eq;refine⟨cur.setIfInBounds j v,heap_setCell_same _ _ _ _ _ _ h1,by simpa using h2,?_⟩;rw[List.length_set,Array.toList_setIfInBounds]
 conv=>rhs;rw[<- h3]
 apply List.ext_getElem?;intro i;simp only[List.getElem?_take,List.getElem?_set];split<;>(try split)<;>simp_all<;>omega
end
theorem rZ{e:TypeId}{w:World}{q n:Nat}{vs cs:List Value}{cur:Array Value}{o:Nat}(h1:w.heap[q]?=some (.cells cur e (0,0)))(h2:cur.size=n)(h3:cur.toList.take vs.length=vs)(hfit:o+cs.length<=vs.length):
 i9 e (w.setRow q (cur.toList.take o++cs++cur.toList.drop (o+cs.length)).toArray) q n (vs.take o++cs++vs.drop (o+cs.length)):=by
 have X3:cur.toList=vs++cur.toList.drop vs.length:=by
  conv=>lhs;rw[<- List.take_append_drop vs.length cur.toList,h3]
 generalize cur.toList.drop vs.length=r at X3
 have hn:n=vs.length+r.length:=by
  rw[<- h2,<- Array.length_toList,X3];simp
 refine⟨_,setRow_heap w q cur _ e _ h1,?_,?_⟩
 ·rw[X3];simp;omega
 ·have t1:(vs++r).take o=vs.take o:=List.take_append_of_le_length (by omega);have t2:(vs++r).drop (o+cs.length)=vs.drop (o+cs.length)++r:=List.drop_append_of_le_length (by omega);rw[X3,t1,t2,<- List.append_assoc];exact List.take_left' rfl
theorem i9.own{e:TypeId}{w:World}{g c n k base:Nat}{vs:List Value}(h:i9 e w g (c*k) vs)(hv:vs.length=n*k)(hn:n<=c)(hc:c<=maxLen)(hb:base<=g):w.ownsRow base e k (.slice (some ⟨g,0,none⟩) n c) n vs:=by
 obtain⟨cur,h1,h2,h3⟩:=h.eq;exact⟨hv,.inr ⟨g,c,cur,rfl,hb,h1,hn,hc,h2,by rw[<- hv];exact h3⟩⟩
section
variable {P:Program} {ops:Array Oper} {rest:List Oper} {o:Oper} {a:Act} {Q:Exit->Act->World->Prop} {w:World}
end
section
variable {P:Program}
theorem pt(k:Nat)(w:World)(dT sT ty Uj:TypeId)(g o Xw Vd:Nat)(a:Addr)(ZC YD:Nat)(cur:Array Value)(t:TypeId)(cs:List Value)
 (hu:P.underlying dT=some (.slice Uj))(hs:(P.info? Uj).map (·.size)=some k)
 (hg:w.heap[g]?=some (.cells cur t (0,0)))(hn:cs.length=Nat.min ZC Xw*k)
 (Yt:∀j v,cs[j]?=some v->w.cell? (a.add j)=some v)(hfit:o+cs.length<=cur.size)(h1:∀v∈cs,v.oneCell'=true):
 (Builtin.copy_ #[dT,sT] ty #[.slice (some ⟨g,o,none⟩) Xw Vd,.slice (some a) ZC YD]).run P w =
  .ok (goInt (Nat.min ZC Xw)) (w.setRow g (cur.toList.take o++cs++cur.toList.drop (o+cs.length)).toArray):=by
 have hl:=run_loadCells_list (P:=P) w a cs Yt;have hst:=run_storeCells_at P g o t cs 0 cur w hg (by simpa using hfit) h1
 cases hq:P.info? Uj with
 |none=>simp[hq]at hs
 |some i=>
  have hi:i.size=k:=by simpa[hq]using hs
  simp[Builtin.copy_,run_underlying hu,Builtin.lenOf,Builtin.firstCells,sizeOf,typeInfo,hq,hi,<- hn,hl,hst]
end
end Go.Proofs.Ytakfoejcjdcgbaa
