/- Part of the proof; no condition. -/
import Derived.Test.YtabfnmgabblofaaGreatFb
set_option linter.unusedVariables false
set_option linter.unusedSimpArgs false
namespace Go.Proofs.YtabfnmgabblofaaGreat
open Go.RowKit
def vk(P:Program)(own:Nat->Bool):Nat->List TypeId->List Operand->Option b_
 |_,_,[]=>some []|i,ts,x::xs=>
 match fZ x,vk P own (i+1) ts.tail xs with
 |some y,some l=>
 match ts with
  |t::_=>match P.underlying t with
   |some (.pointer e)=>match Em P e with|some n=>some ((some n,y)::l)|none=>none
   |some (.slice _)=>some ((if own i then some 0 else none,y)::l)|_=>some ((none,y)::l)
  | []=>some ((none,y)::l)
 |_,_=>none
def UE(P:Program)(t:TypeId):Bool:=match P.underlying t with
 |some (.int _)=>true
 |some .bool=>true
 |some .string=>true
 |some (.struct _)=>(vJ P 50 t).isSome
 |_=>false
def Ov(P:Program)(fn:Func):Bool:=fn.resultTypes.toList.all (UE P)&&fn.params.toList.all λt=>match P.underlying t with|some (.pointer _)=>false|_=>true
abbrev A_:=List Oper
def nK:Code->A_|.region _ ops _=>ops.toList|.seq a b=>nK a++nK b|.cond _ a b=>nK a++nK b|.block _ b=>nK b|.loop b=>nK b|_=>[]
def RU(ops:A_)(j:Nat):Option Operand->Bool
 |some (.tmp t)=>t==j||ops.any λo=>o.dst==some t&&match o.op with|.move (.tmp u)=>u==j|_=>false
 |_=>false
def Uz(P:Program):Nat->Func->Nat->Bool
 |0,_,_=>false|n+1,fn,j=>match fn.body with
  |some c=>(nK c).any λo=>match o.op with
   |.call ⟨.builtin .append,args,_⟩=>RU (nK c) j args[0]?|.call ⟨.value (.func g),args,_⟩=>match P.funcs[g]? with|some fg=>args.toList.zipIdx.any λx=>RU (nK c) j (some x.1)&&Uz P n fg x.2|none=>false
   |_=>false
  |none=>false
def AS(P:Program):Op->Option TOp
 |.call ⟨.value (.func f),args,_⟩=>match P.funcs[f]? with|some fn=>(vk P (Uz P 3 fn) 0 fn.params.toList args.toList).map λl=>.call (!Ov P fn) (.f f) l|none=>none
 |.call ⟨.value (.tmp i),args,tys⟩=>(vk P (λ_=>false) 0 tys.toList args.toList).map λl=>.call true (.t i) l|_=>none
def sq:Nat->b_->b_|_,[]=>[]|m,x::r=>(if m%1000=0 then x else(some (m%1000),x.2))::sq (m/1000) r
def wq:Nat->Nat->b_->b_|_,_,[]=>[]|a,k,x::r=>(if a=0 then(x.1.map λn=>n+1000*(k+1),x.2)else x)::wq (a-1) k r
def J9(mv:Nat):TOp->TOp|.call k f args=>if mv=7 then .call false f args else if 100000000<=mv then .call true f (sq (mv-100000000) args)else if 1000000<=mv then .call k f (wq ((mv-1000000)/1000) ((mv-1000000)%1000) args)else .call k f (if 10<=mv then args.map λx=>(x.1.map λn=>min n (mv-10),x.2)else args)|t=>t
def up(P:Program)(mv:Nat)(op:Op):TOp:=match jI P mv op with|some t=>t|none=>match AS P op with|some t=>J9 mv t|none=>Tz
def UL(pp:N_)(nt:Nat):x_->Bool|some d=>decide (d<nt) && !pp.contains d|none=>true
def Gl(P:Program)(pp:N_)(nt:Nat)(ops:u_)(mv:Nat)(o:Oper):Option lw:=
 if UL pp nt o.dst then
  match o.guard with
  |none=>some ⟨o.dst,none,up P mv o.op⟩
  |some (j,want)=>match(ops[j]?).bind (·.dst)with
   |some d=>some ⟨o.dst,some (d,want),up P mv o.op⟩
   |none=>none
 else none
def rJ(P:Program)(pp:N_)(nt:Nat)(ops:u_):N_->A_->Option (List lw)|_,[]=>some []|m,o::r=>match Gl P pp nt ops (m.headD 0) o,rJ P pp nt ops m.tail r with|some t,some l=>some (t::l)|_,_=>none
def IK:A_->k_->k_| [],acc=>acc|o::r,acc=>IK r (acc++[((o.after.toList.filter (Region.binds .any)).flatMap λe=>e.on::acc.getD e.on []).eraseDups])
def Gf(ops:A_)(deps:k_):Nat->Bool|0=>true|i+1=>Gf ops deps i&&match ops[i]? with|some o=>(o.after.toList.all λe=>!Region.binds .any e||decide (e.on<i))&&((deps.getD i []).all λj=>o.after.toList.any λe=>Region.binds .any e&&(e.on==j||(deps.getD e.on []).contains j))|none=>true
def Gm(P:Program)(ops:u_)(tops:List lw)(draw:Bool):Option (Option k_):=
 if draw then
  if P.follows .mixedOrders&&Gf ops.toList (IK ops.toList []) ops.size then
   if DL (IK ops.toList []) tops (List.range tops.length)then some none else some (some (IK ops.toList []))
  else none
 else some none
def yS:Code->x_
 |.region id _ _=>some id|.seq _ b=>yS b|.cond _ a b=>match yS b with|some i=>some i|none=>yS a
 |.block _ b=>yS b|_=>none
def Ky(pers:Nat->Prs)(a:Code)(l:a_):lO->lO
 |.skip=>match yS a with|some i=>.nrm (pers i)|none=>match l with| []=>.skip|_::_=>.nrm (l.filterMap λx=>match x.2 with|none=>some x.1|some _=>none,l.filterMap (·.2))
 |t=>t
def UP:Operand->Nat|.tmp t=>2000000+t|_=>2000000
def zn:Code->Nat|.seq a b=>zn a+zn b|.cond _ a b=>zn a+zn b|.block _ b=>zn b|.loop b=>zn b+1|_=>0
def Ub(nt:Nat)(pp:N_)(l:a_):Bool:=l.all λy=>decide (y.1<nt) && !pp.contains (1000000+y.1)
def Vc(nt:Nat)(pp:N_)(l:a_)(a:lO):lO:=match l with | []=>a|_::_=>if Ub nt pp l then .pre l a else a
def Qq(nt:Nat)(pp:N_)(l:a_)(a:lO):lO:=match l with | []=>a|_::_=>if Ub nt pp l then .post a l else a
def Vt(pp:N_)(nt:Nat)(l:a_)(a:lO):lO:=match l with
 | [(i,some n)]=>if decide (1000<=n)||decide (i<nt) && !pp.contains i then .frz i n a else a
 |_=>a
def jT(P:Program)(pp:N_)(nt:Nat)(mv:Nat->A_->Bool->N_)(pers:Nat->Prs)(H:Nat->a_):Code->Nat->Option lO
 |.skip,_=>some .skip|.region id ops draw,_=>match rJ P pp nt ops (mv id ops.toList draw) ops.toList with
  |some l=>match Gm P ops l draw with|some d=>some (Vt pp nt (H (4000000+id)) (Vc nt pp (H (3000000+id)) (.reg id d l (pers id))))|none=>none
  |none=>none
 |.seq a b,i=>match jT P pp nt mv pers H a i,jT P pp nt mv pers H b (i+zn a)with|some x,some y=>some (.seq x y)|_,_=>none
 |.cond c a b,i=>match fZ c,jT P pp nt mv pers H a i,jT P pp nt mv pers H b (i+zn a)with|some k,some x,some y=>some (.cond k (Ky pers b (H (UP c)) x) (Ky pers a (H (UP c)) y))|_,_,_=>none
 |.block id b,i=>(jT P pp nt mv pers H b i).map (.block id)|.loop b,i=>(jT P pp nt mv pers H b (i+1)).map λx=>Vc nt pp (H (i+1)) (.loop (Qq nt pp (H (i+1)) x))|.exit id,_=>some (.exit id)|.ret,_=>some .ret|_,_=>none
def uo(P:Program):List ResultVar->Option Q_| []=>some []|.tmp t::r=>(uo P r).map (.tmp t :: ·)|.cell t ty::r=>match KT P ty,uo P r with|some n,some l=>some (.cell t n::l)|_,_=>none
def GH(l:List Operand):N_:=l.filterMap λx=>match x with|.tmp t=>some t|_=>none
def SW(l:List ResultVar):N_:=l.map λr=>match r with|.tmp t=>t|.cell t _=>t
def Oo:Op->Bool|.load _ _=>true|.move (.tmp _)=>true|.field _ _ _=>true|.fieldAddr _ _ _=>true|.indexAddr _ _ _=>true|.slice _ _ _ _ _=>true|.nilCheck _=>true|.extract _ _=>true|.pick _ _ _=>true|_=>false
def uS(l:N_):Nat:=l.foldl (λb i=>b ||| (1 <<< i)) 0
def RM(nt b:Nat):N_:=(List.range nt).filter λi=>b.testBit i
def UO(b i:Nat):Nat:=if b.testBit i then b-(1 <<< i)else b
def OY(ops:A_)(o:Oper):N_:=match o.guard with|some (j,_)=>((ops[j]?).bind (·.dst)).toList|none=>[]
def Jw(ops:A_):A_->Nat->Nat
 | [],out=>out|o::r,out=>
 let b:=Jw ops r out
 (match o.dst with|some d=>UO b d|none=>b) ||| uS (GH o.op.operands.toList++OY ops o)
def EG(rt:Nat):Code->Nat->p_->Nat×p_|.region id ops _,out,_=>(Jw ops.toList ops.toList out,[(id,out)])|.seq a b,out,ex=>let y:=EG rt b out ex;let x:=EG rt a y.1 ex;(x.1,x.2++y.2)|.cond c a b,out,ex=>let x:=EG rt a out ex;let y:=EG rt b out ex;(x.1 ||| y.1 ||| uS (GH [c]),x.2++y.2)|.block id b,out,ex=>EG rt b out ((id,out)::ex)|.loop b,_,ex=>let l:=(EG rt b 0 ex).1;EG rt b l ex|.exit id,_,ex=>((gD ex id).getD 0,[])|.ret,_,_=>(rt,[])|_,out,_=>(out,[])
def OL(P:Program)(t:TypeId):Bool:=match P.underlying t with|some (.pointer _)=>true|_=>false
def Ez(P:Program)(b:Nat)(o:Oper):Nat:=
 match o.dst with
 |some d=>
  if(match o.op with
   |.box _ _=>true
   |.alloc _=>true
   |.fieldAddr _ _ _=>true
   |.indexAddr _ _ _=>true
   |.nilCheck _=>true
   |.load t _=>OL P t
   |.move (.tmp s)=>b.testBit s
   |.assign (.tmp s)=>b.testBit s
   |.call ⟨.value (.func f),_,_⟩=>match P.funcs[f]? with|some fn=>fn.resultTypes.toList.map (OL P)==[true]|none=>false
   |_=>false)then b ||| (1 <<< d)else b
 |none=>b
def Po(b:Nat)(o:Oper):p_:=
 match o.dst with
 |some d=>if Oo o.op then(GH o.op.operands.toList).map λs=>(d,s)else match o.op with|.assign (.tmp s)=>if b.testBit s then[(d,s)]else[]|_=>[]
 |none=>[]
def TI(P:Program)(pp:N_)(c:Code):p_:=
 let ops:=nK c
 let b:=ops.foldl (Ez P) (ops.foldl (Ez P) (uS pp))
 ops.flatMap (Po b)
def Vr(o:Oper):Bool:=match o.op with
 |.extract _ _=>true
 |_=>false
def Ru(P:Program)(pp:N_)(c:Code):p_:=
 let ops:=nK c
 let b:=ops.foldl (Ez P) (ops.foldl (Ez P) (uS pp))
 (ops.filter λo=>!Vr o).flatMap (Po b)
def D7(al:p_)(b:Nat):Nat:=al.foldr (λx b=>if b.testBit x.1 then b ||| (1 <<< x.2)else b) b
def SV(l:N_):N_:=l.flatMap λi=>[2*i+2,2*i+3]
def Sn:Op->List Operand|.store _ _ x=>[x]|.call ⟨.builtin .append,args,_⟩=>args.toList.tail|op=>op.operands.toList
def VM(el:Nat)(al:p_)(after:Nat)(o:Oper):Bool:=
 let live:=D7 al (D7 al after)
 (GH (Sn o.op)).all λt=>!el.testBit t&&(D7 al (D7 al (1 <<< t))) &&& live==0
def Uo(el:Nat)(al:p_)(ops:A_)(out:Nat):A_->List Bool| []=>[]|o::r=>VM el al (Jw ops r out) o::Uo el al ops out r
def Lg(b:Nat)(o:Oper):Nat:=
 match o.dst with
 |some d=>
  if(match o.op with
   |.indexAddr _ _ _=>true
   |.fieldAddr _ (.tmp s) _=>b.testBit s
   |.load _ (.tmp s)=>b.testBit s
   |.nilCheck (.tmp s)=>b.testBit s
   |.move (.tmp s)=>b.testBit s
   |.field _ (.tmp s) _=>b.testBit s
   |_=>false)then b ||| (1 <<< d)else b
 |none=>b
def Ot(el:Nat)(al:p_)(ops:A_)(out:Nat):List (Nat×Oper)->List Bool| []=>[]|(i,o)::r=>VM el al (out ||| uS ((ops.zipIdx.filter λx=>x.2 != i).flatMap λx=>GH x.1.op.operands.toList)) o::Ot el al ops out r
def VW(P:Program)(pp:N_)(c:Code)(res:N_):Nat->A_->Bool->List Bool:=
 let tb:=(EG (uS res) c (uS res) []).2
 let al:=Ru P pp c
 let ppb:=uS pp
 let el:=(nK c).foldl Lg ((nK c).foldl Lg 0)
 λid ops draw=>
  let out:=((gD tb id).getD 0) ||| ppb
  if draw then Ot el al ops out (ops.zipIdx.map λx=>(x.2,x.1))else Uo el al ops out ops
def Uk(P:Program)(pp:N_)(nt:Nat)(c:Code)(res:N_):Nat->Prs:=
 let tb:=(EG (uS res) c (uS res) []).2
 let al:=TI P pp c
 let ppb:=uS pp
 λid=>
  let b:=((gD tb id).getD 0) ||| ppb
  (RM nt b,SV (RM nt (D7 al (D7 al b))))
def Bm(P:Program):Nat->List TypeId->N_|_,[]=>[]|i,t::r=>match P.underlying t with|some (.pointer _)=>i::Bm P (i+1) r|_=>Bm P (i+1) r
def mvH(H:Nat->a_)(mv:Nat->A_->Bool->List Bool):Nat->A_->Bool->N_:=λid ops draw=>match H (1000000+id)with| []=>(mv id ops draw).map λb=>if b then 1 else 0|l=>(mv id ops draw).zipIdx.map λx=>match l.find? λy=>y.1==x.2 with|some y=>y.2.getD 0|none=>if x.1 then 1 else 0
def Ch(P:Program):Code->Option Code
 |.seq (.region _ a0 false) (.seq (.seq (.region _ a1 false) (.cond (.tmp 4) (.seq (.region _ a2 false) .ret) .skip)) rest)=>
 match a0.toList,a1.toList,a2.toList with
  | [⟨some 2,.assign (.const (.slice none 0 0)),_,_,_,none⟩],[⟨some 3,.move (.tmp 0),_,_,_,none⟩,⟨some 4,.binOp .eql ty (.tmp 3) (.const (.slice none 0 0)) _,_,_,_,none⟩],[⟨some 2,.assign (.const (.slice none 0 0)),_,_,_,none⟩]=>match P.underlying ty with|some (.slice _)=>some rest|_=>none
  |_,_,_=>none
 |_=>none
def Ce(P:Program)(fn:Func)(c:Code):y_:=
 match Ch P c with
 |some (.seq (.region id ops false) .ret)=>
 match rJ P [1000] 8 ops [0,0,0,1] ops.toList with
  |some [⟨some 5,none,.bsl sz b 0 []⟩,⟨some 6,none,.mov (.t 0)⟩,⟨some 7,none,.app sz2 bytes mv fl (.t 5) (.t 6)⟩,⟨some 2,none,.asn true (.t 7)⟩]=>
   if sz2=sz/\AT (IQ sz b bytes mv fl id)=true/\fn.params.size=1/\fn.ntmps=8 then
    match uo P fn.results.toList with
    |some [.tmp 2]=>some ⟨1,[1000],8,IQ sz b bytes mv fl id,[.tmp 2]⟩
    |_=>none
   else none
  |_=>none
 |_=>none
def y9(P:Program)(H:Nat->a_)(f:FuncId):y_:=
 match P.funcs[f]? with
 |some fn=>
 match fn.body with
  |some c=>match Ce P fn c with|some tf=>some tf|none=>let np:=fn.params.size+fn.nfree;let pp:=Bm P 0 fn.params.toList++(List.range fn.nfree).map (fn.params.size + ·);let rt:=SW fn.results.toList;let pq:=pp++(H 5000000).map (·.1);let pers:=Uk P pq fn.ntmps c rt;let pl:=pq++(H 5000000).map (λx=>1000000+x.1)++(H 5000001).map (λx=>1000000000+x.1);match jT P pl fn.ntmps (mvH H (VW P pq c rt)) pers H c 0,uo P fn.results.toList with|some tc,some rs=>some ⟨np,pl,fn.ntmps,Qq fn.ntmps pl (H 0) tc,rs⟩|_,_=>none
  |none=>none
 |none=>none
section
variable {P:Program} {M:Fm} {pp:N_} {nt:Nat}
theorem D6:∀{qs:List ResultVar}{l:Q_},uo P qs=some l->l.length=qs.length/\∀k (h:k<l.length)(h':k<qs.length),Ko P l[k] qs[k]:=by
 intro qs;induction qs with
 |nil=>intro l h;simp[uo]at h;simp_all|cons q qs ih=>
 intro l h;cases q with
 |tmp t=>obtain⟨l',h1,rfl⟩:=kF h;obtain⟨e,h2⟩:=ih h1;refine⟨by simp[e],λk hk YA=>?_⟩;cases k with|zero=>exact rfl|succ k=>exact h2 k (by simp_all) (by simp_all)
 |cell t ty=>
 simp[uo]at h;split at h;rename_i n l' h1 h2;injection h with h
 subst h;have ⟨e,h3⟩:=ih h2;refine⟨by simp[e],λk hk YA=>?_⟩;cases k with|zero=>exact⟨ty,rfl,Hl h1⟩|succ k=>exact h3 k (by simp_all) (by simp_all)
 simp at h
theorem Cf{own:Nat->Bool}:∀{xs:List Operand}{i:Nat}{ts:List TypeId}{l:b_},vk P own i ts xs=some l->l.length=xs.length/\∀j (h:j<l.length)(h':j<xs.length),fZ xs[j]=some l[j].2:=by
 intro xs;induction xs with
 |nil=>intro i ts l h;simp[vk]at h;simp_all|cons x xs ih=>
 intro i ts l h;simp[vk]at h;split at h
 ·rename_i y l' h1 h2;have ⟨e,h3⟩:=ih h2
  obtain⟨n,rfl⟩:∃n,l=(n,y)::l':=by
   (repeat' split at h)<;>first|(injection h with h;exact⟨_,h.symm⟩)|simp at h
  refine⟨by simp[e],λj hj ZO=>?_⟩
  cases j with
  |zero=>exact h1
  |succ j=>exact h3 j (by simp_all) (by simp_all)
 simp at h
theorem Kh{op:Op}{t:TOp}(h:AS P op=some t):ui op t:=by unfold AS at h;split at h;rename_i f args tys;split at h;obtain⟨l,h1,rfl⟩:=kF h;have ⟨e,h2⟩:=Cf h1;exact⟨rfl,by omega,λj hj ZO=>by simp_all⟩;simp at h;rename_i i args tys;obtain⟨l,h1,rfl⟩:=kF h;have ⟨e,h2⟩:=Cf h1;exact⟨rfl,by omega,λj hj ZO=>by simp_all⟩;simp at h
theorem QO{pp:N_}{i:Nat}(h:i∈KV pp):i∈pp/\1000000+i∈pp:=by
 have ⟨k,hk,h2⟩:=List.mem_filterMap.1 h;split at h2;rename_i hc;injection h2 with h2
 refine⟨by simp_all,by rw[<- h2,Nat.add_sub_cancel' hc.1];exact hk⟩;cases h2
theorem EI(hkp:∀i,M.kp i≠none->i∈KV pp){d:Nat}(h:d ∉ pp\/1000000+d ∉ pp):M.kp d=none:=by cases hk:M.kp d with|none=>rfl|some v=>have ⟨h1,h2⟩:=QO (hkp d (by simp_all));simp_all
theorem Jx:∀{l:b_}{m:Nat},(sq m l).length=l.length/\∀j (h:j<(sq m l).length)(h':j<l.length),(sq m l)[j].2=l[j].2:=by intro l;induction l with|nil=>intro m;exact⟨rfl,λj h=>by simp_all⟩|cons x l ih=>intro m;have ⟨e,h2⟩:=ih (m:=m/1000);refine⟨by simp[sq,e],λj h h'=>?_⟩;cases j with|zero=>simp[sq];split<;>rfl|succ j=>simp;exact h2 j (by simp_all) (by simp_all)
theorem LQ:∀{l:b_}{a k:Nat},(wq a k l).length=l.length/\∀j (h:j<(wq a k l).length)(h':j<l.length),(wq a k l)[j].2=l[j].2:=by intro l;induction l with|nil=>intro a k;exact⟨rfl,λj h=>by simp_all⟩|cons x l ih=>intro a k;have ⟨e,h2⟩:=ih (a:=a-1) (k:=k);refine⟨by simp[wq,e],λj h h'=>?_⟩;cases j with|zero=>simp[wq];split<;>rfl|succ j=>simp;exact h2 j (by simp_all) (by simp_all)
theorem MD{mv:Nat}{op:Op}{t:TOp}(h:ui op t):ui op (J9 mv t):=by
 unfold J9;split;rename_i k f args;split;cases op with
 |call c=>obtain⟨callee,asq,tys⟩:=c;cases callee with|value fo=>exact h|_=>exact h
 |_=>exact h
 split;cases op with
 |call c=>obtain⟨callee,asq,tys⟩:=c;cases callee with|value fo=>obtain⟨h1,h2,h3⟩:=h;obtain⟨e,h4⟩:=Jx (l:=args);exact⟨h1,by rw[e];exact h2,λj hj ZO=>by rw[h4 j hj (by omega)];exact h3 j (by omega) ZO⟩|_=>exact h
 |_=>exact h
 split;cases op with
 |call c=>obtain⟨callee,asq,tys⟩:=c;cases callee with|value fo=>obtain⟨h1,h2,h3⟩:=h;obtain⟨e,h4⟩:=LQ (l:=args) (a:=(mv-1000000)/1000) (k:=(mv-1000000)%1000);exact⟨h1,by rw[e];exact h2,λj hj ZO=>by simp_all⟩|_=>exact h
 |_=>exact h
 split;cases op with
 |call c=>obtain⟨callee,asq,tys⟩:=c;cases callee with|value fo=>obtain⟨h1,h2,h3⟩:=h;exact⟨h1,by simpa using h2,λj hj ZO=>by simpa using h3 j (by simpa using hj) ZO⟩|_=>exact h
 |_=>exact h
 exact h;exact h
theorem Kd{ops:u_}{mv:Nat}{o:Oper}{t:lw}(hN:M.N=nt)(YX:∀r,M.pr r≠none->∃i∈pp,r=2*i+2)(hkp:∀i,M.kp i≠none->i∈KV pp)(h:Gl P pp nt ops mv o=some t):Ai P M lp ops o t:=by
 unfold Gl at h;split at h;case isFalse=>simp at h
 rename_i hd;have Yw:∀d,o.dst=some d->M.ok d/\M.pr (2*d+2)=none:=λd e=>by rw[e]at hd;simp[UL,oDE,Bool.not_eq_true',List.contains_eq_mem,decide_eq_false_iff_not]at hd;refine⟨⟨by omega,EI hkp (.inl hd.2)⟩,?_⟩;cases hp:M.pr (2*d+2)with|none=>rfl|some x=>obtain⟨i,hi,e2⟩:=YX (2*d+2) (by rw[hp];simp);have e3:d=i:=Nat.eq_of_mul_eq_mul_left (by omega) (Nat.add_right_cancel e2);simp_all
 have hop':(∃mv',jI P mv' o.op=some (up P mv o.op))\/lp o.op (up P mv o.op):=by unfold up;cases h1:jI P mv o.op with|some t1=>exact .inl ⟨mv,h1⟩|none=>cases h2:AS P o.op with|some t1=>exact .inr (.inr (MD (Kh h2)))|none=>exact .inr (.inl rfl)
 split at h;rename_i hg;injection h with h
 subst h;exact⟨rfl,Yw,.inl ⟨hg,rfl⟩,hop'⟩;rename_i j want hg;split at h;rename_i d hj;injection h with h
 subst h;exact⟨rfl,Yw,.inr ⟨j,want,d,hg,rfl,hj⟩,hop'⟩;simp at h
theorem zJ{ops:u_}(hN:M.N=nt)(YX:∀r,M.pr r≠none->∃i∈pp,r=2*i+2)(hkp:∀i,M.kp i≠none->i∈KV pp):∀{l:A_}{mv:N_}{ts:List lw},rJ P pp nt ops mv l=some ts->ts.length=l.length/\∀i (h:i<l.length)(h':i<ts.length),Ai P M lp ops l[i] ts[i]:=by
 intro l;induction l with
 |nil=>intro mv ts h;simp[rJ]at h;simp_all|cons o l ih=>
 intro mv ts h;simp[rJ]at h;split at h;rename_i t l' h1 h2;injection h with h
 subst h;have ⟨e,h3⟩:=ih h2;refine⟨by simp[e],λj hj ZO=>?_⟩;cases j with|zero=>exact Kd hN YX hkp h1|succ j=>simp_all
 simp at h
theorem D4{ops:A_}{deps:k_}:∀{n:Nat},Gf ops deps n=true->∀i,i<n->∀(h:i<ops.length),(∀e∈ops[i].after.toList,Region.binds .any e=true->e.on<i)/\∀j∈deps.getD i [],∃e∈ops[i].after.toList,Region.binds .any e=true/\(e.on=j\/j∈deps.getD e.on []):=by
 intro n;induction n with
 |zero=>intro _ i hi;omega|succ n ih=>
 intro h i hi hl;simp only[Gf,oBA]at h;by_cases e:i<n;simp_all;obtain rfl:i=n:=by omega
 have h2:=h.2;rw[oGE hl]at h2;simp only[oBA,oAE,List.any_eq_true,Bool.or_eq_true,Bool.not_eq_true',oDE,beq_iff_eq,List.contains_eq_mem]at h2;refine⟨λe he hb=>?_,λj hj=>?_⟩;rcases h2.1 e he with h3|h3;simp_all;exact h3;simp_all
def U6(P:Program)(ops:u_)(tops:List lw)(draw:Bool)(d:Option k_):Prop:=match d with
 |some deps=>draw=true/\Cw ops deps/\P.follows .mixedOrders=true
 |none=>draw=true->∃deps,Cw ops deps/\P.follows .mixedOrders=true/\DL deps tops (List.range tops.length)=true
theorem Kf{ops:u_}{tops:List lw}{draw:Bool}{d:Option k_}(h:Gm P ops tops draw=some d):U6 P ops tops draw d:=by
 unfold Gm at h;split at h
 ·rename_i hd;split at h
  case isFalse=>simp at h
  rename_i hc;simp at hc
  have hD:Cw ops (IK ops.toList []):=by
   refine⟨λi hi e he hb=>?_,λi hi j hj=>?_⟩
   ·exact(D4 hc.2 i hi (by omega)).1 e (by simp_all) hb
   ·have ⟨e,he,h3⟩:=(D4 hc.2 i hi (by omega)).2 j hj;exact⟨e,by simp_all,h3⟩
  split at h
  ·rename_i hs
   injection h with h
   subst h;exact λ_=>⟨_,hD,hc.1,hs⟩
  ·injection h with h
   subst h;exact⟨hd,hD,hc.1⟩
 rename_i hd;injection h with h
 subst h;exact λh'=>absurd h' (by omega)
theorem GN{isCall:Op->TOp->Prop}{pers:Nat->Prs}{a c:Code}{l:a_}{t:lO}(h:kf P M isCall t c):kf P M isCall (Ky pers a l t) c:=by
 cases t with
 |skip=>unfold Ky;cases yS a with|some i=>exact h|none=>cases l<;>exact h
 |_=>exact h
theorem N9(hN:M.N=nt)(hkp:∀i,M.kp i≠none->i∈KV pp){l:a_}{x:lO}{c:Code}(h:kf P M lp x c):kf P M lp (Vc nt pp l x) c:=by unfold Vc;split;exact h;split;rename_i hl;refine⟨λy hy=>?_,h⟩;have:=oAE.1 hl y hy;simp at this;exact⟨by omega,EI hkp (.inr this.2)⟩;exact h
theorem KP(hN:M.N=nt)(hkp:∀i,M.kp i≠none->i∈KV pp){l:a_}{x:lO}{c:Code}(h:kf P M lp x c):kf P M lp (Qq nt pp l x) c:=by unfold Qq;split;exact h;split;rename_i hl;refine⟨λy hy=>?_,h⟩;have:=oAE.1 hl y hy;simp at this;exact⟨by omega,EI hkp (.inr this.2)⟩;exact h
theorem To(hN:M.N=nt)(YX:∀r,M.pr r≠none->∃i∈pp,r=2*i+2)(hkp:∀i,M.kp i≠none->i∈KV pp){l:a_}{x:lO}{c:Code}(h:kf P M lp x c):kf P M lp (Vt pp nt l x) c:=by
 unfold Vt;split;rename_i i n;split;rename_i hc;rw[Bool.or_eq_true,oDE]at hc;rcases hc with hc|hc;exact⟨.inl hc,h⟩;simp at hc;refine⟨.inr ⟨⟨by omega,EI hkp (.inl (by simp_all))⟩,?_⟩,h⟩;cases hp:M.pr (2*i+2)with
 |none=>rfl|some y=>
  have ⟨j,hj,e⟩:=YX (2*i+2) (by simp_all);have e2:i=j:=by omega
  simp_all
 exact h;exact h
theorem Kg{mv:Nat->A_->Bool->N_}{pers:Nat->Prs}{H:Nat->a_}(hN:M.N=nt)(YX:∀r,M.pr r≠none->∃i∈pp,r=2*i+2)(hkp:∀i,M.kp i≠none->i∈KV pp):∀{c:Code}{i:Nat}{tc:lO},jT P pp nt mv pers H c i=some tc->kf P M lp tc c:=by
 intro c;induction c with
 |skip=>intro i tc h;simp only[jT,oSJ]at h;subst h;exact rfl|exit id=>intro i tc h;simp only[jT,oSJ]at h;subst h;exact rfl|ret=>intro i tc h;simp only[jT,oSJ]at h;subst h;exact rfl|region id ops draw=>
 intro i tc h;simp only[jT]at h;split at h;case h_2=>simp at h
 rename_i l h1;split at h;case h_2=>simp at h
 rename_i d hd;injection h with h
 subst h;obtain⟨e,h2⟩:=zJ hN YX hkp h1;exact To hN YX hkp (N9 hN hkp ⟨id,ops,draw,rfl,by omega,λi hi Zk=>by simp_all,Kf hd⟩)
 |seq a b ZF ZC=>
 intro i tc h;simp only[jT]at h;split at h;rename_i x y h1 h2;injection h with h
 subst h;exact⟨a,b,rfl,ZF h1,ZC h2⟩;simp at h
 |cond k a b ZF ZC=>
 intro i tc h;simp only[jT]at h;split at h;rename_i k' x y h1 h2 h3;injection h with h
 subst h;exact⟨k,a,b,rfl,h1,GN (ZF h2),GN (ZC h3)⟩;simp at h
 |block id b ih=>intro i tc h;obtain⟨x,h1,rfl⟩:=kF h;exact⟨b,rfl,ih h1⟩|loop b ih=>intro i tc h;obtain⟨x,h1,rfl⟩:=kF h;exact N9 hN hkp ⟨b,rfl,KP hN hkp (ih h1)⟩|_=>intro i tc h;simp[jT]at h
theorem yy{α:Type}{a:Array α}{l:List α}(h:a.toList=l):a=l.toArray:=by rw[<- h]
theorem IN{c rest:Code}(h:Ch P c=some rest):Pz P c rest:=by
 unfold Ch at h;split at h;case h_2=>cases h
 rename_i i0 a0 i1 a1 i2 a2 rest';split at h;case h_2=>cases h
 rename_i t0 s0 f0 t1 s1 f1 ty ty2 t2 s2 f2 t3 s3 f3 e0 e1 e2;split at h;case h_2=>cases h
 rename_i e hu;injection h with h
 subst h;exact⟨i0,i1,i2,_,_,_,_,ty,_,e,by rw[yy e0,yy e1,yy e2],⟨rfl,rfl,rfl⟩,⟨rfl,rfl,rfl⟩,⟨rfl,rfl,rfl⟩,⟨rfl,rfl,rfl⟩,hu⟩
theorem zK{fn:Func}{c:Code}{tf:TFn}(h:Ce P fn c=some tf):Py P tf c/\tf.nt=fn.ntmps/\tf.np=fn.params.size/\uo P fn.results.toList=some tf.res:=by
 unfold Ce at h;split at h;case h_2=>cases h
 rename_i id ops hr;split at h;case h_2=>cases h
 rename_i sz b sz2 bytes mv fl hops;split at h;case isFalse=>cases h
 rename_i hc;obtain⟨rfl,hchk,hp,hn⟩:=hc;split at h;case h_2=>cases h
 rename_i Zb;injection h with h
 subst h;refine⟨⟨rfl,rfl,rfl,rfl,hchk,⟨_,_,_,_,_,_,rfl⟩,_,IN hr,λM hN YX hkp=>?_⟩,hn.symm,hp.symm,Zb⟩;obtain⟨e,h2⟩:=zJ (nt:=8) hN YX hkp hops;exact⟨_,_,rfl,⟨id,ops,false,rfl,by omega,λi hi Zk=>by simp_all,λh=>by cases h⟩,rfl⟩
theorem PJ{T:FuncId->y_}(h:∀f tf,T f=some tf->(∃H,y9 P H f=some tf)/\tf.np<=tf.nt/\∀fn,P.funcs[f]?=some fn->(fn.name== "runtime.NumGoroutine")=false):Pt P T:=by
 intro f tf hT;obtain⟨⟨H,h1⟩,h2,h3⟩:=h f tf hT;unfold y9 at h1;split at h1;case h_2=>simp at h1
 rename_i fn hf;split at h1;case h_2=>simp at h1
 rename_i c hb;split at h1;rename_i tf' Y6;injection h1 with h1
 subst h1;obtain⟨g1,g2,g3,g4⟩:=zK Y6;have ⟨e,Zb⟩:=D6 g4;exact⟨fn,c,hf,h3 fn hf,hb,g2.symm,h2,.inr g1,by simpa using e,λk hk YA=>by have:=Zb k hk (by simpa using YA);simpa using this⟩;simp only at h1;split at h1;rename_i tc rs hc hr;injection h1 with h1
 subst h1;have ⟨e,Zb⟩:=D6 hr;exact⟨fn,c,hf,h3 fn hf,hb,rfl,h2,.inl λM hN YX hkp=>KP hN hkp (Kg hN YX hkp hc),by simpa using e,λk hk YA=>by have:=Zb k hk (by simpa using YA);simpa using this⟩;simp at h1
end
theorem Ly{E:Env}{T:FuncId->y_}{B F:iz}{n:Nat}{f:FuncId}{tf:TFn}(h:T f=some tf)(vals:U_)(pts:Pts):Lz E T B F n f vals pts=runT E F n tf vals pts:=by unfold Lz;rw[h]
def arR(op:BinOp)(k:IntKind)(a b:Int):Int:=match op with|.add=>k.wrap (a+b)|.sub=>k.wrap (a-b)|.mul=>k.wrap (a*b)|.quo=>k.wrap (a.tdiv b)|.rem=>a.tmod b|.and=>k.wrap (BitVec.ofInt k.bits a &&& BitVec.ofInt k.bits b).toNat|.or=>k.wrap (BitVec.ofInt k.bits a ||| BitVec.ofInt k.bits b).toNat|.xor=>k.wrap (BitVec.ofInt k.bits a ^^^ BitVec.ofInt k.bits b).toNat|.andNot=>k.wrap (BitVec.ofInt k.bits a &&& ~~~BitVec.ofInt k.bits b).toNat|_=>0
def shR(op:BinOp)(k:IntKind)(a:Int)(n:Nat):Int:=match op with|.shl=>k.wrap (a*2 ^ (min n k.bits))|.shr=>a.fdiv (2 ^ (min n k.bits))|_=>0
def cmR(op:BinOp)(a b:Int):Bool:=match op with|.eql=>a==b|.neq=>a != b|.lss=>decide (a<b)|.leq=>decide (a<=b)|.gtr=>decide (a>b)|.geq=>decide (a>=b)|_=>false
def Vh{α:Type}(f:α->Bool):List α->Bool| []=>true|x::r=>match f x with|true=>Vh f r|false=>false
def TQ{α:Type}(f:α->Bool):List α->Bool| []=>false|x::r=>match f x with|true=>true|false=>TQ f r
def Ma(a b:List Loc):Bool:=TQ (λw=>TQ (λx=>w.hit x) b) a
def Pf(a b:vm):Bool:=match Ma a.2 b.1 with
 |true=>true
 |false=>match Ma a.2 b.2 with
  |true=>true
  |false=>match Ma b.2 a.1 with
   |true=>true
   |false=>Ma b.2 a.2
def EC(d:N_)(j:Nat)(F F':vm):Bool:=match d.contains j with
 |true=>true
 |false=>!Pf F F'
def AJ(deps:k_):List (Nat×vm)->Bool| []=>true|(j,F)::r=>match Vh (λy=>EC (deps.getD y.1 []) j F y.2) r with|true=>AJ deps r|false=>false
theorem TH{α:Type}(f:α->Bool)(l:List α):Vh f l=l.all f:=by induction l with|nil=>rfl|cons x l ih=>simp[Vh];cases f x<;>simp[ih]
theorem Pn{α:Type}(f:α->Bool)(l:List α):TQ f l=l.any f:=by induction l with|nil=>rfl|cons x l ih=>simp[TQ];cases f x<;>simp[ih]
theorem QJ(a b:List Loc):Ma a b=Mb a b:=by have e:(λw:Loc=>TQ (λx=>w.hit x) b)=λw:Loc=>b.any λx=>w.hit x:=funext λw=>Pn _ _;unfold Ma Mb;rw[Pn,e]
theorem Pe(a b:vm):Pf a b=sF a b:=by unfold Pf sF;simp[QJ];grind
theorem L7(d:N_)(j:Nat)(a b:vm):EC d j a b=(!sF a b||d.contains j):=by unfold EC;rw[Pe];cases d.contains j<;>simp
theorem Jr(deps:k_)(fs:List (Nat×vm)):AJ deps fs=lr deps fs:=by induction fs with|nil=>rfl|cons x r ih=>have ⟨j,F⟩:=x;have e:(λy:Nat×vm=>EC (deps.getD y.1 []) j F y.2)=λy=>!sF F y.2||(deps.getD y.1 []).contains j:=funext λy=>L7 _ _ _ _;simp only[AJ,lr,TH,ih,e];cases r.all λy=>!sF F y.2||(deps.getD y.1 []).contains j<;>simp
theorem PF{x:Int}(h1:-9223372036854775808<=x)(h2:x<=9223372036854775807):IntKind.wrap .i64 x=x:=by
 have e1:(2:Int) ^ IntKind.bits .i64=18446744073709551616:=by rfl
 have e2:(2:Int) ^ (IntKind.bits .i64-1)=9223372036854775808:=by rfl
 have e3:IntKind.signed .i64=true:=rfl;unfold IntKind.wrap;simp[e1,e3];omega
theorem wP(x:Int):IntKind.wrap .u16 x=x%65536:=by
 have e1:(2:Int) ^ IntKind.bits .u16=65536:=by rfl
 have e3:IntKind.signed .u16=false:=rfl;unfold IntKind.wrap;simp_all
def TN(x:Int):Prop:=-9223372036854775808<=x/\x<=9223372036854775807
inductive CT where
 |int (k:IntKind)
 |bool
 |str
 |nat
 |row (own:Bool) (t:CT)
 |nilr (own:Bool)
 |pair (a b:CT)
def sC:CT->CT->Bool|.int k,.int k'=>decide (k=k')|.bool,.bool=>true|.str,.str=>true|.nat,.nat=>true|.row o t,.row o' t'=>(o==o')&&sC t t'|.nilr o,.nilr o'=>o==o'|.pair a b,.pair a' b'=>sC a a'&&sC b b'|_,_=>false
theorem qW:∀{a b:CT},sC a b=true->a=b:=by intro a;induction a with|int k=>intro b h;cases b<;>simp_all [sC]|bool=>intro b h;cases b<;>simp_all [sC]|str=>intro b h;cases b<;>simp_all [sC]|nat=>intro b h;cases b<;>simp_all [sC]|row o t ih=>intro b h;cases b<;>simp[sC]at h;rw[h.1,ih h.2]|nilr o=>intro b h;cases b<;>simp_all [sC]|pair x y XA ihy=>intro b h;cases b<;>simp[sC]at h;rw[XA h.1,ihy h.2]
def j6:CT->CT->Bool|.int k,.int k'=>decide (k=k')|.bool,.bool=>true|.str,.str=>true|.nat,.nat=>true|.row _ t,.row _ t'=>j6 t t'|.nilr _,.nilr _=>true|.pair a b,.pair a' b'=>j6 a a'&&j6 b b'|_,_=>false
def ME:CT->CT->Bool|.int k,.int k'=>decide (k=k')|.bool,.bool=>true|.str,.str=>true|.nat,.nat=>true|.row o t,.row o' t'=>(o==o')&&ME t t'|.nilr o,.nilr o'=>o==o'|.nilr o,.row o' _=>o==o'|.pair a b,.pair a' b'=>ME a a'&&ME b b'|_,_=>false
def jV:CT->Nat|.pair a b=>jV a+jV b|.nat=>0|_=>1
def vI:CT->CT|.row true t=>.row false (vI t)|.nilr _=>.nilr false|.pair a b=>.pair (vI a) (vI b)|t=>t
def shT:CT->Nat->N_->Option CT|.pair a b,o,os=>if o<jV a then(shT a o os).map (.pair · b)else(shT b (o-jV a) os).map (.pair a ·)|t,0,[]=>some (vI t)|.row true t,0,o::os=>(shT t o os).map (.row true)|t,_,_=>some t
abbrev den:CT->Type|.int _=>Int|.bool=>Bool|.str=>ByteArray|.nat=>Nat|.row _ t=>List (den t)|.nilr _=>Unit|.pair a b=>den a×den b
theorem iw:∀{a b:CT},j6 a b=true->den a=den b:=by intro a;induction a with|int k=>intro b h;cases b<;>simp[j6]at h;rfl|bool=>intro b h;cases b<;>simp[j6]at h;rfl|str=>intro b h;cases b<;>simp[j6]at h;rfl|nat=>intro b h;cases b<;>simp[j6]at h;rfl|row o t ih=>intro b h;cases b<;>simp[j6]at h;simp only[den];rw[ih h]|nilr o=>intro b h;cases b<;>simp[j6]at h;rfl|pair x y XA ihy=>intro b h;cases b<;>simp[j6]at h;simp only[den];rw[XA h.1,ihy h.2]
def TP:(t:CT)->den t|.int _=>(0:Int)|.bool=>false|.str=>ByteArray.empty|.nat=>(0:Nat)|.row _ _=>[]|.nilr _=>()|.pair a b=>(TP a,TP b)
def RZ:(a b:CT)->den a->den b|.row _ t,.row _ t',xs=>List.map (RZ t t') xs|.pair a b,.pair a' b',x=>(RZ a a' x.1,RZ b b' x.2)|.int _,.int _,x=>x|.bool,.bool,x=>x|.str,.str,x=>x|.nat,.nat,x=>x|_,b,_=>TP b
def enc:(t:CT)->den t->U_|.int k,x=>[.v (.int k x)]|.bool,x=>[.v (.bool x)]|.str,x=>[.v (.string x)]|.nat,_=>[]|.row true t,xs=>[.ow (List.map (enc t) xs)]|.row false t,xs=>[.sl (List.map (enc t) xs)]|.nilr true,_=>[.ow []]|.nilr false,_=>[.sl []]|.pair a b,x=>enc a x.1++enc b x.2
abbrev R_:=List CT
def HL(D:CT->Type):R_->Type| []=>Unit|t::ts=>D t×HL D ts
abbrev n_:=List R_
def ED:n_->Nat->R_| [],_=>[]|l::_,0=>l|_::r,i+1=>ED r i
def Eh:n_->Type| []=>Empty| [l]=>HL den l|l::m::r=>HL den l⊕Eh (m::r)
def yR:(ls:n_)->(i:Nat)->HL den (ED ls i)->Option (Eh ls)| [],_,_=>none| [_],0,h=>some h| [_],_+1,_=>none|_::_::_,0,h=>some (.inl h)|_::m::r,i+1,h=>(yR (m::r) i h).map .inr
def UJ{α:Type}:(ls:n_)->((i:Nat)->HL den (ED ls i)->α)->Eh ls->α| [],_,o=>Empty.elim o| [_],f,o=>f 0 o|_::m::r,f,o=>match o with|.inl h=>f 0 h|.inr o'=>UJ (m::r) (λi h=>f (i+1) h) o'
def oP{α:Type}(ls:n_)(o:Eh ls)(f:(i:Nat)->HL den (ED ls i)->α):α:=UJ ls f o
structure Alg (D:CT->Type)(M:Type->Type) where
 lit:(k:IntKind)->Int->D (.int k)
 litB:Bool->D .bool
 litS:ByteArray->D .str
 litN:Nat->D .nat
 nilv:(o:Bool)->D (.nilr o)
 nil:(o:Bool)->(t:CT)->D (.row o t)
 recast:(t t':CT)->j6 t t'=true->D t->D t'
 coe:(t t':CT)->D t->D t'
 mkp:(a b:CT)->D a->D b->D (.pair a b)
 fst:(a b:CT)->D (.pair a b)->D a
 snd:(a b:CT)->D (.pair a b)->D b
 ar:BinOp->(k:IntKind)->D (.int k)->D (.int k)->D (.int k)
 cm:BinOp->(k:IntKind)->D (.int k)->D (.int k)->D .bool
 sh:BinOp->(k:IntKind)->D (.int k)->D .nat->D (.int k)
 neg:(k:IntKind)->D (.int k)->D (.int k)
 not:D .bool->D .bool
 cv:(k k':IntKind)->D (.int k)->D (.int k')
 mm:Bool->(k:IntKind)->D (.int k)->D (.int k)->D (.int k)
 eqB:D .bool->D .bool->D .bool
 eqS:D .str->D .str->D .bool
 eqT:D .str->D .str->D .bool
 catOk:D .str->D .str->D .bool
 catS:D .str->D .str->D .str
 andB:D .bool->D .bool->D .bool
 ite:(t:CT)->D .bool->D t->D t->D t
 natI:D .nat->D (.int .i64)
 addN:D .nat->D .nat->D .nat
 subN:D .nat->D .nat->D .nat
 minN:D .nat->D .nat->D .nat
 len:(o:Bool)->(t:CT)->D (.row o t)->D .nat
 slOk:D .nat->D .nat->D .nat->D .bool
 ltN:D .nat->D .nat->D .bool
 eqN:D .nat->D .nat->D .bool
 win:(o:Bool)->(t:CT)->D (.row o t)->D .nat->D .nat->D (.row o t)
 appOk:Nat->D .nat->D .nat->D .bool
 cat:(t:CT)->(o:Bool)->D (.row true t)->D (.row o t)->D (.row true t)
 rowl:(o:Bool)->(t:CT)->List (D t)->D (.row o t)
 mkOk:D .nat->D .nat->Nat->D .bool
 rep:(t:CT)->D .nat->D t->D (.row true t)
 upd:(t:CT)->D (.row true t)->D .nat->(D t->D t)->D (.row true t)
 splice:(t:CT)->(o:Bool)->D (.row true t)->D .nat->D .nat->D (.row o t)->D (.row true t)
 strLen:D .str->D (.int .i64)
 strB:D .str->D (.row false (.int .u8))
 strOk:D .str->D .bool
 fail:{X:Type}->M X
 br:{X:Type}->D .bool->M X->M X->M X
 nat:{X:Type}->(k:IntKind)->D (.int k)->(D .nat->M X)->M X
 get:{X:Type}->(o:Bool)->(t:CT)->D (.row o t)->D .nat->(D t->M X)->M X
 strAt:{X:Type}->D .str->D .nat->(D (.int .u8)->M X)->M X
 bstr:{X:Type}->D (.row false (.int .u8))->(D .str->M X)->M X
 lt:{X:Type}->(t:CT)->D t->(D t->M X)->M X
 call:{X:Type}->Nat->(ins:R_)->(outs:n_)->(HL den ins->Option (Eh outs))->HL D ins->((i:Nat)->HL D (ED outs i)->M X)->M X
 loop:{X:Type}->Nat->(s:R_)->(outs:n_)->HL D s->(HL D s->M (HL den s⊕Eh outs))->((i:Nat)->HL D (ED outs i)->M X)->M X
 join:{X:Type}->(outs:n_)->M (Eh outs)->((i:Nat)->HL D (ED outs i)->M X)->M X
 next:(s:R_)->(outs:n_)->HL D s->M (HL den s⊕Eh outs)
 exitL:(s:R_)->(outs:n_)->(i:Nat)->HL D (ED outs i)->M (HL den s⊕Eh outs)
 out:(outs:n_)->(i:Nat)->HL D (ED outs i)->M (Eh outs)
def gg:Int->x_|.ofNat n=>some n|.negSucc _=>none
def fR{α:Type}(xs:List α)(i:Nat):Option α:=xs[i]?
def VZ(a b:Bool):Bool:=a==b
def VY(a b:ByteArray):Bool:=a==b
def Vu(a b:ByteArray):Bool:=a.toList==b.toList
def R0(a b:ByteArray):Bool:=decide (a.size+b.size<=9223372036854775807)
def US(a b:ByteArray):ByteArray:=a++b
def fY(n:Nat):Int:=(n:Int)
def VV(k:IntKind)(a:Int):Int:=k.wrap (0-a)
def mmR(mx:Bool)(a b:Int):Int:=if mx then(if a<b then b else a)else(if b<a then b else a)
def nv{α:Type}(xs:List α)(l n:Nat):List α:=(xs.drop l).take n
def iK(l h n:Nat):Bool:=l<=h&&decide (h<=n)
def gh(bytes n m:Nat):Bool:=decide (n+m<=1099511627776)&&decide ((n+m)*bytes<=140737488355328)
def xe(n m sz:Nat):Bool:=decide (n=m)&&decide (n*sz<=16777216)
def p5{α:Type}(xs:List α)(lo m:Nat)(ys:List α):List α:=xs.take lo++ys.take m++xs.drop (lo+m)
def M3(s:ByteArray):M_:=s.data.toList.map λb=>(b.toNat:Int)
def DK(s:ByteArray)(k:Nat):Option Int:=(s[k]?).map λb=>(b.toNat:Int)
def Vy(l:M_):ByteArray:=l.foldl (λr n=>r.push (UInt8.ofNat n.toNat)) ByteArray.empty
def f9{S T:Type}(f:S->Option (S⊕T)):Nat->S->Option T|0,_=>none|n+1,s=>(f s).bind λx=>match x with|.inl s'=>f9 f n s'|.inr t=>some t
def NN:Nat:=18446744073709551616
def fU:Alg den Option where
 lit _ n:=n
 litB b:=b
 litS s:=s
 litN n:=n
 nilv _:=()
 nil _ _:=[]
 recast _ _ h x:=cast (iw h) x
 coe t t' x:=RZ t t' x
 mkp _ _ x y:=(x,y)
 fst _ _ x:=x.1
 snd _ _ x:=x.2
 ar op k a b:=arR op k a b
 cm op _ a b:=cmR op a b
 sh op k a n:=shR op k a n
 neg k a:=VV k a
 not b:=!b
 cv _ k' n:=k'.wrap n
 mm mx _ a b:=mmR mx a b
 eqB a b:=VZ a b
 eqS a b:=VY a b
 eqT a b:=Vu a b
 catOk a b:=R0 a b
 catS a b:=US a b
 andB a b:=a&&b
 ite _ c a b:=bif c then a else b
 natI n:=fY n
 addN a b:=Nat.add a b
 subN a b:=Nat.sub a b
 minN a b:=Nat.min a b
 len _ _ xs:=List.length xs
 slOk l h n:=iK l h n
 ltN a b:=Nat.blt a b
 eqN a b:=Nat.beq a b
 win _ _ xs l n:=nv xs l n
 appOk b n m:=gh b n m
 cat _ _ xs ys:=List.append xs ys
 rowl _ _ l:=l
 mkOk n m sz:=xe n m sz
 rep _ n x:=List.replicate n x
 upd _ xs i f:=List.modify xs i f
 splice _ _ xs lo m ys:=p5 xs lo m ys
 strLen s:=(ByteArray.size s:Int)
 strB s:=M3 s
 strOk s:=decide (ByteArray.size s<4294967296)
 fail:=none
 br c a b:=bif c then a else b
 nat _ n k:=(gg n).bind k
 get _ _ xs i k:=(fR xs i).bind k
 strAt s i k:=(DK s i).bind k
 bstr l k:=k (Vy l)
 lt _ x k:=k x
 call _ _ outs g h k:=(g h).bind λo=>oP outs o k
 loop _ _ outs h body k:=(f9 body NN h).bind λo=>oP outs o k
 join outs m k:=m.bind λo=>oP outs o k
 next _ _ h:=some (.inl h)
 exitL _ outs i h:=(yR outs i h).map .inr
 out outs i h:=yR outs i h
structure XP (D:CT->Type) where
 root:Nat
 off:Nat
 hops:List (D .nat×Nat×Nat)
inductive XV (D:CT->Type) where
 |d (t:CT) (x:D t)
 |k (x:Value)
 |dead
 |ptr (p:XP D) (vs:List Nat)
 |ip (cs:List (XV D))
 |pk (p:XP D) (vs:List Nat)
 |pw (p:XP D) (vs:List Nat) (sz:Nat) (lo n:D .nat)
 |agg (l:List (XV D))
 |tup (l:List (XV D))
 |fn (f:FuncId) (cap:List (XV D))
 |gap (t:CT) (x:D (.row true t)) (i:D .nat) (o:Nat)
 |half (t:CT) (x:D (.row true t)) (m:D .nat)
structure XS (D:CT->Type) where
 tm:List (Nat×XV D)
 ce:List (Nat×List (XV D))
 vr:m_
 lg:vm
abbrev Sh:=XV λ_=>Unit
abbrev Shs:=XS λ_=>Unit
abbrev shU(t:CT):Sh:=.d t ()
abbrev T_:=List Sh
structure XO where
 cells:T_
 sh:P_
 pts:List (Nat×T_)
def JK:List (Unit×Nat×Nat)->R_->R_| [],r=>r|_::hs,r=>.nat::JK hs r
mutual
def lv:Sh->R_->R_|.d t _,r=>t::r|.ip l,r=>lvL l r|.agg l,r=>lvL l r|.tup l,r=>lvL l r|.fn _ l,r=>lvL l r|.k _,r=>r|.dead,r=>r|.ptr p _,r=>JK p.hops r|.pk p _,r=>JK p.hops r|.pw _ _ _ _ _,r=>r|.gap t _ _ _,r=>.row true t :: .nat::r|.half t _ _,r=>.row true t :: .nat::r
def lvL:T_->R_->R_| [],r=>r|x::xs,r=>lv x (lvL xs r)
end
def lvP:List (Nat×T_)->R_->R_| [],r=>r|x::xs,r=>lvL x.2 (lvP xs r)
def lvT:List (Nat×Sh)->R_->R_| [],r=>r|x::xs,r=>lv x.2 (lvT xs r)
def lvS(s:Shs):R_:=lvT s.tm (lvP s.ce [])
def lvO(o:XO):R_:=lvL o.cells (lvP o.pts [])
structure Ctr where
 f:FuncId
 id:Nat
 ins:T_
 pts:List (Nat×T_)
 outs:List XO
 g:HL den (lvL ins (lvP pts []))->Option (Eh (outs.map lvO))
structure IY where
 i:Nat
 nm:Nat
 s:Shs
 outs:List (nz×Shs)
section
variable {D:CT->Type}
def XP.bare(p:XP D):Bool:=match p.hops with | []=>true|_::_=>false
def VL(p:XP λ_=>Unit):XP D:=⟨p.root,p.off,[]⟩
def B5:(hs:List (Unit×Nat×Nat))->(r:R_)->HL D (JK hs r)->List (D .nat×Nat×Nat)×HL D r| [],_,h=>([],h)|(_,sz,o)::hs,r,h=>((h.1,sz,o)::(B5 hs r h.2).1,(B5 hs r h.2).2)
def Kb:(hs:List (Unit×Nat×Nat))->List (D .nat×Nat×Nat)->(r:R_)->HL D r->Option (HL D (JK hs r))| [],[],_,h=>some h|(_,sz,o)::hs,(i,sz',o')::hs',r,h=>if sz=sz'/\o=o' then(Kb hs hs' r h).map λh1=>(i,h1)else none|_,_,_,_=>none
mutual
def fill:(s:Sh)->(r:R_)->HL D (lv s r)->XV D×HL D r|.d t _,_,h=>(.d t h.1,h.2)|.ip l,r,h=>(.ip (lI l r h).1,(lI l r h).2)|.agg l,r,h=>(.agg (lI l r h).1,(lI l r h).2)|.tup l,r,h=>(.tup (lI l r h).1,(lI l r h).2)|.fn f l,r,h=>(.fn f (lI l r h).1,(lI l r h).2)|.k x,_,h=>(.k x,h)|.dead,_,h=>(.dead,h)|.ptr p vs,r,h=>(.ptr ⟨p.root,p.off,(B5 p.hops r h).1⟩ vs,(B5 p.hops r h).2)|.pk p vs,r,h=>(.pk ⟨p.root,p.off,(B5 p.hops r h).1⟩ vs,(B5 p.hops r h).2)|.pw _ _ _ _ _,_,h=>(.dead,h)|.gap t _ _ o,_,h=>(.gap t h.1 h.2.1 o,h.2.2)|.half t _ _,_,h=>(.half t h.1 h.2.1,h.2.2)
def lI:(s:T_)->(r:R_)->HL D (lvL s r)->List (XV D)×HL D r| [],_,h=>([],h)|x::xs,r,h=>((fill x (lvL xs r) h).1::(lI xs r (fill x (lvL xs r) h).2).1,(lI xs r (fill x (lvL xs r) h).2).2)
end
def xD:(s:List (Nat×T_))->(r:R_)->HL D (lvP s r)->List (Nat×List (XV D))×HL D r| [],_,h=>([],h)|x::xs,r,h=>((x.1,(lI x.2 (lvP xs r) h).1)::(xD xs r (lI x.2 (lvP xs r) h).2).1,(xD xs r (lI x.2 (lvP xs r) h).2).2)
def Gb:(s:List (Nat×Sh))->(r:R_)->HL D (lvT s r)->List (Nat×XV D)×HL D r| [],_,h=>([],h)|x::xs,r,h=>((x.1,(fill x.2 (lvT xs r) h).1)::(Gb xs r (fill x.2 (lvT xs r) h).2).1,(Gb xs r (fill x.2 (lvT xs r) h).2).2)
def J4(s:Shs)(h:HL D (lvS s)):XS D:=⟨(Gb s.tm _ h).1,(xD s.ce [] (Gb s.tm _ h).2).1,s.vr,([],[])⟩
def pE:(outs:List XO)->(i:Nat)->HL D (ED (outs.map lvO) i)->Option (List (XV D)×P_×List (Nat×List (XV D)))| [],_,_=>none|o::_,0,h=>some ((lI o.cells _ h).1,o.sh,(xD o.pts [] (lI o.cells _ h).2).1)|_::r,i+1,h=>pE r i h
def zG:(outs:List (nz×Shs))->(i:Nat)->HL D (ED (outs.map λx=>lvS x.2) i)->Option (nz×XS D)| [],_,_=>none|o::_,0,h=>some (o.1,J4 o.2 h)|_::r,i+1,h=>zG r i h
end
section
variable {D:CT->Type} {M:Type->Type} (A:Alg D M)
def O4:Value->Value->Bool|.pointer none,.pointer none=>true|.nilFunc,.nilFunc=>true|.nilIface,.nilIface=>true|_,_=>false
def asT(t u:CT)(x:D t):Option (D u):=if h:sC t u=true then some (qW h▸x)else if ME t u then some (A.coe t u x)else none
def RQ(p:XP λ_=>Unit)(q:XP D):Bool:=p.root==q.root&&p.off==q.off&&p.bare&&q.bare
mutual
def conv:(s:Sh)->XV D->(r:R_)->HL D r->Option (HL D (lv s r))|.d u _,.d t x,_,h=>(asT A t u x).map λy=>(y,h)|.ip l,.ip l',r,h=>AB l l' r h|.agg l,.agg l',r,h=>AB l l' r h|.tup l,.tup l',r,h=>AB l l' r h|.fn f l,.fn f' l',r,h=>if f=f' then AB l l' r h else none|.k x,.k y,_,h=>if O4 x y then some h else none|.dead,.dead,_,h=>some h|.ptr p vs,.ptr q ws,r,h=>if p.root==q.root&&p.off==q.off&&vs==ws then Kb p.hops q.hops r h else none|.pk p vs,.pk q ws,r,h=>if p.root==q.root&&p.off==q.off&&vs==ws then Kb p.hops q.hops r h else none|.gap t _ _ o,.gap t' x i o',_,h=>if o=o' then(asT A (.row true t') (.row true t) x).map λy=>(y,i,h)else none|.half t _ _,.half t' x m,_,h=>if e:sC t' t=true then some (qW e▸x,m,h)else none|_,_,_,_=>none
def AB:(s:T_)->List (XV D)->(r:R_)->HL D r->Option (HL D (lvL s r))| [],[],_,h=>some h|s::ss,x::xs,r,h=>(AB ss xs r h).bind λh1=>conv s x (lvL ss r) h1|_,_,_,_=>none
end
end
abbrev XM(D:CT->Type)(M:Type->Type)(X α:Type):=XS D->(α->XS D->M X)->M X
def Jt{α:Type}:List α->Nat->Option α| [],_=>none|x::_,0=>some x|_::r,i+1=>Jt r i
namespace X
section
variable {D:CT->Type} {M:Type->Type} {X:Type} (A:Alg D M) {α β:Type}
def ret(a:α):XM D M X α:=fun σ k=>k a σ
def bind(m:XM D M X α)(f:α->XM D M X β):XM D M X β:=fun σ k=>m σ λa σ'=>f a σ' k
def fail:XM D M X α:=λ_ _=>A.fail
def brM(c:D .bool)(m:XM D M X α):XM D M X α:=fun σ k=>A.br c (m σ k) A.fail
def forkM(c:D .bool)(m m':XM D M X α):XM D M X α:=fun σ k=>A.br c (m σ k) (m' σ k)
def caseM(k:D .nat):Nat->(Nat->XM D M X α)->Nat->XM D M X α|0,_,_=>fail A|n+1,f,i=>forkM A (A.eqN k (A.litN i)) (f i) (caseM k n f (i+1))
def optM(o:Option α):XM D M X α:=fun σ k=>match o with|some a=>k a σ |none=>A.fail
def tOf(σ:XS D)(i:Nat):XV D:=(gD σ.tm i).getD .dead
def cOf(σ:XS D)(r o:Nat):XV D:=match gD σ.ce r with|some l=>l.getD o .dead|none=>.dead
def lgR(x:Loc)(σ:XS D):XS D:=⟨σ.tm,σ.ce,σ.vr,(x :: σ.lg.1,σ.lg.2)⟩
def letL:List (XV D)->(List (XV D)->M X)->M X| [],k=>k []|.d t x::r,k=>A.lt t x λy=>letL r λr'=>k (.d t y::r')|t::r,k=>letL r λr'=>k (t::r')
def letX(t:XV D)(k:XV D->M X):M X:=match t with|.d t x=>A.lt t x λy=>k (.d t y)|.agg l=>letL A l λl'=>k (.agg l')|t=>k t
def rdT(i:Nat):XM D M X (XV D):=fun σ k=>k (tOf σ i) (lgR (.t i) σ)
def rdC(r o:Nat):XM D M X (XV D):=fun σ k=>k (cOf σ r o) (lgR (.c r o) σ)
def rdK(r o:Nat):XM D M X (XV D):=fun σ k=>k (cOf σ r o) (lgR (.h r o) σ)
def rdV(q:Key):XM D M X Nat:=fun σ k=>k (nw σ.vr q) (lgR (.v q) σ)
def wrT(i:Nat)(t:XV D):XM D M X Unit:=fun σ k=>letX A t λt'=>k () ⟨iJ σ.tm i t',σ.ce,σ.vr,(σ.lg.1,.t i :: σ.lg.2)⟩
def wrC(r o:Nat)(t:XV D):XM D M X Unit:=fun σ k=>match gD σ.ce r with
 |some l=>if o<l.length then letX A t λt'=>k () ⟨σ.tm,iJ σ.ce r (l.set o t'),σ.vr,(.n r :: .h r o :: σ.lg.1,.c r o :: .h r o :: σ.lg.2)⟩else A.fail
 |none=>A.fail
def wrI(r o:Nat)(t:XV D):XM D M X Unit:=fun σ k=>match gD σ.ce r with
 |some l=>if o<l.length then letX A t λt'=>k () ⟨σ.tm,iJ σ.ce r (l.set o t'),σ.vr,(.n r :: .h r o :: σ.lg.1,.c r o :: σ.lg.2)⟩else A.fail
 |none=>A.fail
def new(r:Nat)(l:List (XV D)):XM D M X Unit:=fun σ k=>letL A l λl'=>k () ⟨σ.tm,iJ σ.ce r l',tA σ.vr (r,0,0),(.v (r,0,0) :: σ.lg.1,.n r :: .v (r,0,0) :: σ.lg.2)⟩
def bump(q:Key):XM D M X Unit:=fun σ k=>k () ⟨σ.tm,σ.ce,tA σ.vr q,(.v q :: σ.lg.1,.v q :: σ.lg.2)⟩
def cellX:Value->XV D|.slice none 0 0=>.d (.nilr true) (A.nilv true)|.int k n=>.d (.int k) (A.lit k n)|.bool b=>.d .bool (A.litB b)|.string s=>.d .str (A.litS s)|x=>if kn x then .k x else .dead
def constX:Value->XV D|.agg cs=>.agg (cs.toList.map (cellX A))|x=>cellX A x
def opd:Opd->XM D M X (XV D)|.t i=>rdT i|.c x=>ret (constX A x)|.f f=>ret (.fn f [])
def rdVs:List Key->XM D M X N_| []=>ret []|q::qs=>bind (rdV q) λn=>bind (rdVs qs) λl=>ret (n::l)
def chk(p:XP D)(n:Nat)(vs:N_):XM D M X Unit:=bind (rdVs (rE p.root p.off n)) λl=>if l=vs then ret ()else fail A
def addP(p:XP D)(n:Nat):XP D:=match p.hops.reverse with| []=>⟨p.root,p.off+n,[]⟩|(i,sz,o)::r=>⟨p.root,p.off,((i,sz,o+n)::r).reverse⟩
def atP(p:XP D)(i:D .nat)(sz:Nat):XP D:=⟨p.root,p.off,p.hops++[(i,sz,0)]⟩
def fitsP(p:XP D)(n:Nat):Bool:=match p.hops.reverse with| []=>true|(_,sz,o)::_=>decide (o+n<sz)
def splitX:(t:CT)->D t->List (XV D)|.pair a b,x=>splitX a (A.fst a b x)++splitX b (A.snd a b x)|.nat,_=>[]|.int k,x=>[.d (.int k) x]|.bool,x=>[.d .bool x]|.str,x=>[.d .str x]|.row o t,x=>[.d (.row o t) x]|.nilr o,x=>[.d (.nilr o) x]
def split0:(t:CT)->D t->List (XV D)|.pair a b,x=>split0 a (A.fst a b x)++split0 b (A.snd a b x)|.nat,_=>[]|.int k,x=>[.d (.int k) x]|.bool,x=>[.d .bool x]|.str,x=>[.d .str x]|.row o t,x=>[if h:j6 (.row o t) (.row false t)=true then .d (.row false t) (A.recast (.row o t) (.row false t) h x)else .dead]|.nilr _,_=>[.d (.nilr false) (A.nilv false)]
def flatT:CT->Bool|.int _=>true|.bool=>true|.str=>true|.pair a b=>flatT a&&flatT b|_=>false
def only:CT->Nat->Bool|.pair a b,o=>if o<jV a then only a o&&flatT b else flatT a&&only b (o-jV a)|.row _ _,0=>true|_,_=>false
def upT:CT->CT|.row _ t=>.row true t|.nilr _=>.nilr true|.pair a b=>.pair (upT a) (upT b)|t=>t
def lowT:CT->Bool|.row o _=>!o|.nilr o=>!o|.pair a b=>lowT a&&lowT b|_=>true
def getX:XV D->List (D .nat×Nat×Nat)->(XV D->M X)->M X
 |t,[],k=>k t|.d (.row true t) xs,(i,sz,o)::hs,k=>if jV t=sz then A.get true t xs i λe=>match Jt (splitX A t e) o with|some v=>getX v hs k|none=>A.fail else A.fail
 |.half t xs m,(i,sz,o)::hs,k=>if jV t=sz then A.br (A.slOk m i i) (A.get true t xs i λe=>match Jt (split0 A t e) o with|some v=>getX v hs k|none=>A.fail) A.fail else A.fail
 |_,_::_,_=>A.fail
def elemX:XV D->List (D .nat×Nat×Nat)->(List (XV D)->M X)->M X
 |.d (.row true t) xs,[(i,sz,_)],k=>if jV t=sz then A.get true t xs i λe=>k (splitX A t e)else A.fail|.half t xs m,[(i,sz,_)],k=>if jV t=sz then A.br (A.slOk m i i) (A.get true t xs i λe=>k (split0 A t e)) A.fail else A.fail|.d (.row true t) xs,(i,sz,o)::h::hs,k=>if jV t=sz then A.get true t xs i λe=>match Jt (splitX A t e) o with|some v=>elemX v (h::hs) k|none=>A.fail else A.fail
 |_,_,_=>A.fail
def getM(tv:XV D)(hs:List (D .nat×Nat×Nat))(g:XV D->XM D M X α):XM D M X α:=fun σ k=>getX A tv hs λv=>g v σ k
def elemM(tv:XV D)(hs:List (D .nat×Nat×Nat))(g:List (XV D)->XM D M X α):XM D M X α:=fun σ k=>elemX A tv hs λcs=>g cs σ k
def atM(o:Bool)(t:CT)(xs:D (.row o t))(i:D .nat)(g:D t->XM D M X α):XM D M X α:=fun σ k=>A.get o t xs i λe=>g e σ k
def natM(kd:IntKind)(n:D (.int kd))(g:D .nat->XM D M X α):XM D M X α:=fun σ k=>A.nat kd n λm=>g m σ k
def T8(s:D .str)(i:D .nat)(g:D (.int .u8)->XM D M X α):XM D M X α:=fun σ k=>A.strAt s i λb=>g b σ k
def lastO:List (D .nat×Nat×Nat)->Nat| []=>0| [(_,_,o)]=>o|_::h::hs=>lastO (h::hs)
def setD:(t:CT)->Nat->((u:CT)->Option (D u->D u))->Option (D t->D t)|.pair a b,o,g=>if o<jV a then(setD a o g).map λh e=>A.mkp a b (h (A.fst a b e)) (A.snd a b e)else(setD b (o-jV a) g).map λh e=>A.mkp a b (A.fst a b e) (h (A.snd a b e))|.nat,_,_=>none|.int k,0,g=>g (.int k)|.bool,0,g=>g .bool|.str,0,g=>g .str|.row o t,0,g=>g (.row o t)|.nilr o,0,g=>g (.nilr o)|_,_+1,_=>none
def asF(v:XV D)(u:CT):Option (D u->D u):=match v with|.d t x=>(asT A t u x).map λy _=>y|_=>none
def setDs(t:CT):Nat->List (XV D)->Option (D t->D t)|_,[]=>none|o,[v]=>setD A t o (asF A v)|o,v::w::vs=>match setD A t o (asF A v),setDs t (o+1) (w::vs)with|some f,some g=>some λe=>g (f e)|_,_=>none
def setH:List (D .nat×Nat×Nat)->XV D->(u:CT)->Option (D u->D u)| [],v,u=>asF A v u|(i,sz,o)::hs,v,.row true t=>if jV t=sz then(setD A t o (setH hs v)).map λf xs=>A.upd t xs i f else none|_::_,_,_=>none
def setX:XV D->List (D .nat×Nat×Nat)->XV D->Option (XV D)|_,[],v=>some v|.d u x,h::hs,v=>(setH A (h::hs) v u).map λf=>.d u (f x)|_,_::_,_=>none
def setHs:List (D .nat×Nat×Nat)->List (XV D)->(u:CT)->Option (D u->D u)| [(i,sz,o)],vs,.row true t=>if jV t=sz then(setDs A t o vs).map λf xs=>A.upd t xs i f else none|(i,sz,o)::h::hs,vs,.row true t=>if jV t=sz then(setD A t o (setHs (h::hs) vs)).map λf xs=>A.upd t xs i f else none|_,_,_=>none
def setXs:XV D->List (D .nat×Nat×Nat)->List (XV D)->Option (XV D)|.d u x,hs,vs=>(setHs A hs vs u).map λf=>.d u (f x)|_,_,_=>none
def immX:XV D->Option (XV D)|.d (.int k) x=>some (.d (.int k) x)|.d .bool x=>some (.d .bool x)|.d .str x=>some (.d .str x)|.d (.row false t) x=>some (.d (.row false t) x)|.d (.nilr _) _=>some (.d (.nilr false) (A.nilv false))|.d (.row true t) x=>if h:j6 (.row true t) (.row false (vI t))=true then some (.d (.row false (vI t)) (A.recast _ _ h x))else none|.k x=>some (.k x)|_=>none
def immXL:List (XV D)->Option (List (XV D))| []=>some []|x::r=>match immX A x,immXL r with|some y,some l=>some (y::l)|_,_=>none
def shareX:XV D->N_->Option (XV D)
 |.d t x,os=>match shT t 0 os with|some t'=>if h:j6 t t'=true then some (.d t' (A.recast t t' h x))else none|none=>none
 |_,_=>none
def getPl(p:XP D):XM D M X (XV D):=bind (rdC p.root p.off) λtv=>getM A tv p.hops ret
def hdPl(p:XP D):XM D M X (XV D):=match p.hops with
 | []=>rdK p.root p.off
 |_::_=>getPl A p
def hopOs(hs:List (D .nat×Nat×Nat)):N_:=hs.map λh=>h.2.2
def Vp:CT->Bool|.int _=>false|.bool=>false|.str=>false|_=>true
def oneT:CT->Bool|.nat=>false|.pair _ _=>false|_=>true
def isOwT:CT->Bool|.row o _=>o|.nilr o=>o|_=>false
def isOwX:XV D->Bool|.d t _=>isOwT t|.gap _ _ _ _=>true|.half _ _ _=>true|_=>false
def isHdrX:XV D->Bool|.d t _=>Vp t|.k _=>false|_=>true
def winX(lo n:D .nat):XV D->Option (XV D)
 |.d (.row true t) xs=>match immX A (.d (.row true t) xs)with|some (.d (.row false t') ys)=>some (.d (.row false t') (A.win false t' ys lo n))|_=>none
 |.d (.nilr true) _=>some (.d (.nilr false) (A.nilv false))|_=>none
def gapX:XV D->List (D .nat×Nat×Nat)->Option (XV D)|.d (.row true t) xs,[(i,_,o)]=>some (.gap t xs i o)|_,_=>none
def take1(mv:Bool):XV D->XM D M X (XV D)
 |.d (.row true _) _=>fail A|.d .nat _=>fail A|.d (.pair _ _) _=>fail A|.d (.nilr o) x=>if mv then ret (.d (.nilr o) x)else ret (.d (.nilr false) (A.nilv false))|.d t x=>ret (.d t x)|.k x=>ret (.k x)|.pk p vs=>bind (chk A p (p.hops.length+1) vs) λ_=>bind (rdC p.root p.off) λtv=>getM A tv p.hops λv=>
  if isOwX v then
   if mv then(if XP.bare p then(bind (wrC A p.root p.off .dead) λ_=>bind (bump (p.root,p.off,p.hops.length+1)) λ_=>ret v)else bind (optM A (gapX tv p.hops)) λYf=>bind (wrI A p.root p.off Yf) λ_=>bind (bump (p.root,p.off,p.hops.length+1)) λ_=>ret v)
   else bind (optM A (shareX A tv (hopOs p.hops))) λYf=>bind (optM A (immX A v)) λv'=>bind (if XP.bare p then wrC A p.root p.off Yf else wrI A p.root p.off Yf) λ_=>bind (bump (p.root,p.off,p.hops.length+1)) λ_=>ret v'
  else fail A
 |.pw p vs _ lo n=>bind (chk A p (p.hops.length+1) vs) λ_=>bind (rdC p.root p.off) λtv=>getM A tv p.hops λv=>bind (optM A (shareX A tv (hopOs p.hops))) λYf=>bind (optM A (winX A lo n v)) λv'=>bind (wrC A p.root p.off Yf) λ_=>bind (bump (p.root,p.off,p.hops.length+1)) λ_=>ret v'|_=>fail A
def takeL(mv:Bool):List (XV D)->XM D M X (List (XV D))| []=>ret []|t::r=>bind (take1 A mv t) λt'=>bind (takeL mv r) λr'=>ret (t'::r')
def cellsX:XV D->List (XV D)|.agg l=>l|t=>[t]
def takeV(mv:Bool)(t:XV D):XM D M X (List (XV D)×Bool):=match t with|.agg l=>bind (takeL A mv l) λl'=>ret (l',true)|t=>bind (take1 A mv t) λt'=>ret ([t'],false)
def putB(r:Nat):Nat->List (XV D)->XM D M X Unit|_,[]=>ret ()|o,t::l=>bind (rdC r o) λold=>bind (wrC A r o t) λ_=>bind (if isHdrX old||isHdrX t then bump (r,o,1)else ret ()) λ_=>putB r (o+1) l
def bumps(q:Key):Nat->XM D M X Unit|0=>ret ()|n+1=>bind (bump q) λ_=>bumps q n
def hdrs:List (XV D)->List (XV D)->Nat|a::r,b::s=>(if isHdrX a||isHdrX b then 1 else 0)+hdrs r s|_,_=>0
def putEl(r off:Nat)(i:D .nat)(sz o:Nat)(l:List (XV D)):XV D->XM D M X Unit
 |.d (.row true t) xs=>if jV t=sz/\o+l.length<=sz/\0<l.length then atM A true t xs i λe=>bind (optM A (setDs A t o l)) λf=>bind (wrI A r off (.d (.row true t) (A.upd t xs i f))) λ_=>bumps (r,off,2) (hdrs ((splitX A t e).drop o) l)else fail A|.gap t xs i' o'=>if jV t=sz/\o<=o'/\o'<sz/\o+l.length=o'+1/\l.dropLast.all (λv=>!isHdrX v)=true then atM A true t xs i λe=>if(((splitX A t e).drop o).take (o'-o)).all (λv=>!isHdrX v)=true then brM A (A.eqN i i') (bind (optM A (setDs A t o l)) λf=>bind (wrI A r off (.d (.row true t) (A.upd t xs i f))) λ_=>bump (r,off,2))else fail A else fail A|.half t xs m=>match l with
  | [v]=>match setD A t o (asF A v)with|some f=>if jV t=sz/\only t o=true then atM A true t xs i λ_=>brM A (A.eqN i m) (bind (wrI A r off (.half t (A.upd t xs i f) (A.addN m (A.litN 1)))) λ_=>bump (r,off,2))else fail A|none=>fail A
  |_=>fail A
 |_=>fail A
def putL(p:XP D)(l:List (XV D)):XM D M X Unit:=match p.hops with| []=>putB A p.root p.off l| [(i,sz,o)]=>bind (rdC p.root p.off) (putEl A p.root p.off i sz o l)|hs=>bind (rdC p.root p.off) λtv=>elemM A tv hs λcs=>if lastO hs+l.length<=cs.length/\0<l.length/\((cs.drop (lastO hs)).take l.length).all (λv=>!isHdrX v)=true/\l.all (λv=>!isHdrX v)=true then bind (optM A (setXs A tv hs l)) λYf=>wrI A p.root p.off Yf else fail A
def peek1(p:XP D):XV D->XM D M X (XV D)|.k x=>ret (.k x)|.d t x=>if isOwT t then bind (rdVs (rE p.root p.off (p.hops.length+1))) λvs=>ret (.pk p vs)else if oneT t then ret (.d t x)else fail A|_=>fail A
def peekP(p:XP D):XM D M X (XV D):=match p.hops with
 | []=>bind (rdK p.root p.off) λt=>if isOwX t then bind (rdVs (rE p.root p.off 1)) λvs=>ret (.pk p vs)else bind (getPl A p) (peek1 A p)
 |_::_=>bind (getPl A p) (peek1 A p)
def peekB(r:Nat):Nat->Nat->XM D M X (List (XV D))|_,0=>ret []|o,n+1=>bind (rdC r o) λt=>bind (peek1 A ⟨r,o,[]⟩ t) λt'=>bind (peekB r (o+1) n) λl=>ret (t'::l)
def peekCs(p:XP D):List (XV D)->XM D M X (List (XV D))| []=>ret []|t::r=>bind (peek1 A p t) λt'=>bind (peekCs (addP p 1) r) λl=>ret (t'::l)
def peekL(p:XP D)(n:Nat):XM D M X (List (XV D)):=match p.hops with| []=>peekB A p.root p.off n|_::_=>bind (rdC p.root p.off) λtv=>elemM A tv p.hops λcs=>if lastO p.hops+n<=cs.length/\0<n then peekCs A p ((cs.drop (lastO p.hops)).take n)else fail A
def nameL(r:Nat):Nat->List (XV D)->XM D M X (List (XV D))|_,[]=>ret []|i,t::l=>if isOwX t then bind (rdV (r,0,0)) λg=>bind (rdV (r,i,1)) λh=>bind (nameL r (i+1) l) λl'=>ret (.pk ⟨r,i,[]⟩ [g,h]::l')else bind (nameL r (i+1) l) λl'=>ret (t::l')
def names(d:Nat)(l:List (XV D)):XM D M X (List (XV D)):=if l.any isOwX then bind (new A (2*d+3) l) λ_=>nameL (2*d+3) 0 l else ret l
def shapedX(agg:Bool)(l:List (XV D)):XV D:=if agg then .agg l else l.headD .dead
def inst(d:Nat)(agg:Bool)(l:List (XV D)):XM D M X Unit:=bind (names A d l) λl'=>wrT A d (shapedX agg l')
def natOf:XV D->XM D M X (D .nat)|.d (.int k) n=>natM A k n ret|_=>fail A
def lenOf:XV D->XM D M X (D .nat)
 |.d (.row false t) xs=>ret (A.len false t xs)|.d (.nilr _) _=>ret (A.litN 0)|.pk p vs=>bind (chk A p (p.hops.length+1) vs) λ_=>bind (hdPl A p) λt=>match t with|.d (.row true t) xs=>ret (A.len true t xs)|.d (.nilr true) _=>ret (A.litN 0)|.half t xs _=>ret (A.len true t xs)|_=>fail A
 |.pw p vs _ _ n=>bind (chk A p (p.hops.length+1) vs) λ_=>ret n|_=>fail A
def optNat:Option Opd->D .nat->XM D M X (D .nat)|some o,_=>bind (opd A o) (natOf A)|none,d=>ret d
def takeParts(mv:Bool):e_->XM D M X (List (XV D))| []=>ret []|(_,n,x)::r=>bind (opd A x) λt=>bind (takeL A mv (cellsX t)) λl=>if l.length=n then bind (takeParts mv r) λl'=>ret (l++l')else fail A
def placeX(cells:List (XV D))(off:Nat):List (XV D)->List (XV D)| []=>cells|t::r=>placeX (cells.set off t) (off+1) r
def assembleX(cells:List (XV D)):e_->List (XV D)->List (XV D)| [],_=>cells|(off,n,_)::r,l=>assembleX (placeX cells off (l.take n)) r (l.drop n)
def chunksX(sz:Nat):Nat->List (XV D)->List (List (XV D))|0,_=>[]|n+1,l=>l.take sz::chunksX sz n (l.drop sz)
def okCellX:XV D->Bool|.d (.row true _) _=>false|.d .nat _=>false|.d (.pair _ _) _=>false|.d _ _=>true|.k _=>true|_=>false
def U9:List (XV D)->Option CT| []=>none| [.d t _]=>some t|.d t _::r=>(U9 r).map (.pair t)|_::_=>none
def Kt:CT->CT->CT|.nilr _,.row o t=>.row o t|.row o t,.row _ t'=>.row o (Kt t t')|.pair a b,.pair a' b'=>.pair (Kt a a') (Kt b b')|t,_=>t
def joinC(t:CT):List (XV D)->Option (D t×List (XV D))|.d u x::r=>(asT A u t x).map λy=>(y,r)|_=>none
def joinX:(t:CT)->List (XV D)->Option (D t×List (XV D))
 |.pair a b,l=>match joinX a l with
  |some (x,r)=>match joinX b r with|some (y,r')=>some (A.mkp a b x y,r')|none=>none
  |none=>none
 |.nat,_=>none|.int k,l=>joinC A (.int k) l|.bool,l=>joinC A .bool l|.str,l=>joinC A .str l|.row o t,l=>joinC A (.row o t) l|.nilr o,l=>joinC A (.nilr o) l
def joinOne(t:CT)(l:List (XV D)):Option (D t):=match joinX A t l with|some (x,[])=>some x|_=>none
def joinAll(t:CT):List (List (XV D))->Option (List (D t))| []=>some []|l::r=>match joinOne A t l,joinAll t r with|some x,some xs=>some (x::xs)|_,_=>none
def T6:List (List (XV D))->Option CT| []=>none| [l]=>U9 l|l::r=>match U9 l,T6 r with|some t,some t'=>some (Kt t t')|_,_=>none
def K1:CT->Bool|.nilr _=>true|.row _ t=>K1 t|.pair a b=>K1 a||K1 b|_=>false
def Ku:CT->CT->CT|.nilr o,.row _ t=>.row o t|.row o t,.row _ t'=>.row o (Ku t t')|.pair a b,.pair a' b'=>.pair (Ku a a') (Ku b b')|t,_=>t
def resT(Zr:Option CT)(t:CT):CT:=if K1 t then Ku t (Zr.getD t)else t
def rowOf(Zr:Option CT)(ls:List (List (XV D))):Option (XV D):=match ls with| []=>some (.d (.nilr true) (A.nilv true))|_=>match T6 ls with|some t=>(joinAll A (resT Zr t) ls).map λes=>.d (.row true (resT Zr t)) (A.rowl true (resT Zr t) es)|none=>none
def repOf(Zr:Option CT)(n:D .nat)(l:List (XV D)):Option (XV D):=match U9 l with|some t=>(joinOne A (resT Zr t) l).map λe=>.d (.row true (resT Zr t)) (A.rep (resT Zr t) n e)|none=>none
def contentOf:XV D->XM D M X (XV D)
 |.d (.row false t) xs=>ret (.d (.row false t) xs)|.d (.nilr _) _=>ret (.d (.nilr false) (A.nilv false))|.pk p vs=>bind (chk A p (p.hops.length+1) vs) λ_=>bind (getPl A p) λt=>match t with|.d (.row true t) xs=>ret (.d (.row true t) xs)|.d (.nilr true) _=>ret (.d (.nilr false) (A.nilv false))|_=>fail A
 |.pw p vs _ lo n=>bind (chk A p (p.hops.length+1) vs) λ_=>bind (getPl A p) λt=>match t with|.d (.row true t) xs=>ret (.d (.row true t) (A.win true t xs lo n))|_=>fail A
 |_=>fail A
def flat1:CT->Bool|.int _=>true|.bool=>true|.str=>true|_=>false
def isNameX:XV D->Bool|.pk _ _=>true|.pw _ _ _ _ _=>true|_=>false
def flatRow:XV D->Bool|.d (.row _ t) _=>flatT t|.d (.nilr _) _=>true|_=>false
def cpyX(d sz:Nat)(p:XP D)(lo:D .nat)(n:Option (D .nat))(tv c2:XV D):XM D M X Unit:=getM A tv p.hops λv=>
 match v,c2 with
  |.d (.row true t) xs,.d (.row o t2) ys=>if h:sC t2 t=true/\jV t=sz/\flatT t=true then
   bind (optM A (setX A tv p.hops (.d (.row true t) (A.splice t o xs lo (A.minN (A.len o t2 ys) (n.getD (A.len true t xs))) (qW h.1▸ys))))) λYf=>
    brM A (A.slOk lo (A.addN lo (A.minN (A.len o t2 ys) (n.getD (A.len true t xs)))) (A.len true t xs)) (forkM A (A.ltN (A.litN 0) (A.minN (A.len o t2 ys) (n.getD (A.len true t xs)))) (bind (wrC A p.root p.off Yf) λ_=>wrT A d (.d (.int .i64) (A.natI (A.minN (A.len o t2 ys) (n.getD (A.len true t xs)))))) (wrT A d (.d (.int .i64) (A.natI (A.minN (A.len o t2 ys) (n.getD (A.len true t xs)))))))
   else fail A
  |.d (.row true _) _,.d (.nilr _) _=>if 0<sz then wrT A d (.d (.int .i64) (A.lit .i64 0))else fail A
  |_,_=>fail A
def eqAll:S_->List (XV D)->List (XV D)->Option (D .bool)| [],[],[]=>some (A.litB true)|.i::ks,.d (.int k) a::xs,.d (.int k') b::ys=>if h:k'=k then(eqAll ks xs ys).map (A.andB (A.cm .eql k a (h▸b)))else none|.b::ks,.d .bool a::xs,.d .bool b::ys=>(eqAll ks xs ys).map (A.andB (A.eqB a b))|.s::ks,.d .str a::xs,.d .str b::ys=>(eqAll ks xs ys).map (A.andB (A.eqS a b))|_,_,_=>none
def mapM'(f:α->XM D M X β):List α->XM D M X (List β)| []=>ret []|x::r=>bind (f x) λy=>bind (mapM' f r) λl=>ret (y::l)
def intOf:XV D->XM D M X (XV D)|.d (.int k) n=>ret (.d (.int k) n)|_=>fail A
def V1:XV D->XM D M X (XV D)|.ptr p vs=>ret (.ptr p vs)|.ip cs=>ret (.ip cs)|t=>if okCellX t && !isOwX t then ret t else fail A
def mmAll(mx:Bool)(k:IntKind):D (.int k)->List (XV D)->Option (D (.int k))|a,[]=>some a|a,.d (.int k') b::r=>if h:k'=k then mmAll mx k (A.mm mx k a (h▸b)) r else none|_,_=>none
def wr(d:Nat)(t:XV D):XM D M X Unit:=wrT A d t
def binX(d:Nat)(op:BinOp):XV D->XV D->XM D M X Unit
 |.d (.int k) a,.d (.int k') b=>match op with|.shl=>natM A k' b λn=>wr A d (.d (.int k) (A.sh .shl k a n))|.shr=>natM A k' b λn=>wr A d (.d (.int k) (A.sh .shr k a n))|.quo=>if h:k'=k then brM A (A.cm .neq k' b (A.lit k' 0)) (wr A d (.d (.int k) (A.ar .quo k a (h▸b))))else fail A|.rem=>if h:k'=k then brM A (A.cm .neq k' b (A.lit k' 0)) (wr A d (.d (.int k) (A.ar .rem k a (h▸b))))else fail A|.add=>if h:k'=k then wr A d (.d (.int k) (A.ar .add k a (h▸b)))else fail A|.sub=>if h:k'=k then wr A d (.d (.int k) (A.ar .sub k a (h▸b)))else fail A|.mul=>if h:k'=k then wr A d (.d (.int k) (A.ar .mul k a (h▸b)))else fail A|.and=>if h:k'=k then wr A d (.d (.int k) (A.ar .and k a (h▸b)))else fail A|.or=>if h:k'=k then wr A d (.d (.int k) (A.ar .or k a (h▸b)))else fail A|.xor=>if h:k'=k then wr A d (.d (.int k) (A.ar .xor k a (h▸b)))else fail A|.andNot=>if h:k'=k then wr A d (.d (.int k) (A.ar .andNot k a (h▸b)))else fail A|op=>if h:k'=k then wr A d (.d .bool (A.cm op k a (h▸b)))else fail A
 |.d .str a,.d .str b=>match op with|.eql=>wr A d (.d .bool (A.eqT a b))|.neq=>wr A d (.d .bool (A.not (A.eqT a b)))|.add=>brM A (A.catOk a b) (wr A d (.d .str (A.catS a b)))|_=>fail A
 |_,_=>fail A
def pickX(d:Nat)(tc ta tb:XV D):XM D M X Unit:=match tc,ta,tb with
 |.d .bool c,.d (.int k) x,.d (.int k') y=>if h:k'=k then wr A d (.d (.int k) (A.ite (.int k) c x (h▸y)))else fail A
 |.d .bool c,.d .bool x,.d .bool y=>wr A d (.d .bool (A.ite .bool c x y))
 |.d .bool c,.d .str x,.d .str y=>wr A d (.d .str (A.ite .str c x y))
 |.d .bool c,.d t x,_=>if flat1 t then brM A c (wr A d (.d t x))else fail A
 |.d .bool c,_,.d t x=>if flat1 t then brM A (A.not c) (wr A d (.d t x))else fail A
 |_,_,_=>fail A
def appX(d sz bytes:Nat)(Zr:Option CT)(s x:XV D):XM D M X Unit:=match s,x with|.d (.row true t) c,.d (.row o t2) c2=>if jV t=sz then bind (optM A (asT A (.row o t2) (.row o t) c2)) λc3=>brM A (A.appOk bytes (A.len true t c) (A.len o t2 c2)) (inst A d false [.d (.row true t) (A.cat t o c c3)])else fail A|.d (.row true t) c,.d (.nilr _) _=>if jV t=sz then brM A (A.appOk bytes (A.len true t c) (A.litN 0)) (inst A d false [.d (.row true t) c])else fail A|.d (.nilr true) _,.d (.row o t2) c2=>if jV t2=sz then bind (optM A (asT A (.row o t2) (.row o (resT Zr t2)) c2)) λc3=>brM A (A.appOk bytes (A.litN 0) (A.len o t2 c2)) (inst A d false [.d (.row true (resT Zr t2)) (A.cat _ o (A.nil true (resT Zr t2)) c3)])else fail A|.d (.nilr true) _,.d (.nilr _) _=>brM A (A.appOk bytes (A.litN 0) (A.litN 0)) (inst A d false [.d (.nilr true) (A.nilv true)])|_,_=>fail A
def immCX:XV D->Bool|.ip _=>true|t=>okCellX t && !isOwX t
def loadIp(n:x_)(cs:List (XV D)):Option (XV D):=
 match n with
 |none=>match cs with|.ip l::_=>some (.ip l)|.fn f l::_=>some (.fn f l)|t::_=>if okCellX t && !isOwX t then some t else none| []=>none
 |some n=>if n<=cs.length&&(cs.take n).all (λt=>okCellX t && !isOwX t)then some (.agg (cs.take n))else none
def ev1(HT:List (Nat×CT))(d:Nat):TOp->XM D M X Unit
 |.mov x=>bind (opd A x) λt=>match t with
  |.d t y=>if isOwT t then(match x with|.c _=>inst A d false [.d t y]|_=>fail A)else wr A d (.d t y)
  |.agg l=>if l.any isOwX then fail A else wr A d (.agg l)|.gap _ _ _ _=>fail A|.half _ _ _=>fail A|t=>wr A d t
 |.asn mv x=>bind (opd A x) λt=>match t with|.ptr p vs=>wr A d (.ptr p vs)|.ip cs=>wr A d (.ip cs)|.fn f cap=>wr A d (.fn f cap)|t=>bind (takeV A mv t) λl=>inst A d l.2 l.1
 |.pick c a b=>bind (opd A c) λtc=>bind (opd A a) λta=>bind (opd A b) λtb=>pickX A d tc ta tb|.alloc z=>if(z.map (cellX A)).all okCellX then bind (new A (2*d+2) (z.map (cellX A))) λ_=>bind (rdV (2*d+2,0,0)) λg=>wr A d (.ptr ⟨2*d+2,0,[]⟩ [g])else fail A|.box n mv x=>bind (opd A x) λt=>bind (takeL A mv (cellsX t)) λl=>if l.length=n then bind (new A (2*d+2) l) λ_=>bind (rdV (2*d+2,0,0)) λg=>wr A d (.ptr ⟨2*d+2,0,[]⟩ [g])else fail A|.load n a=>bind (opd A a) λt=>match t with
  |.ptr p vs=>bind (chk A p p.hops.length vs) λ_=>match n with|none=>bind (peekP A p) λt'=>wr A d t'|some n=>bind (peekL A p n) λl=>wr A d (.agg l)
  |.ip cs=>match loadIp n cs with|some t=>wr A d t|none=>fail A
  |_=>fail A
 |.store n mv a x=>bind (opd A a) λta=>match ta with|.ptr p vs=>bind (opd A x) λtx=>bind (takeL A mv (cellsX tx)) λl=>if l.length=n then bind (chk A p p.hops.length vs) λ_=>putL A p l else fail A|_=>fail A
 |.nilc x=>bind (opd A x) λt=>match t with|.ptr p vs=>bind (chk A p p.hops.length vs) λ_=>wr A d (.ptr p vs)|.ip cs=>wr A d (.ip cs)|.fn f cap=>wr A d (.fn f cap)|_=>fail A
 |.fld off a=>bind (opd A a) λt=>match t with|.ptr p vs=>bind (chk A p p.hops.length vs) λ_=>if fitsP p off then wr A d (.ptr (addP p off) vs)else fail A|.ip cs=>if off<cs.length then wr A d (.ip (cs.drop off))else fail A|_=>fail A
 |.idx sz x i=>bind (opd A x) λt=>bind (opd A i) λti=>bind (natOf A ti) λk=>match t with
  |.pk p vs=>bind (chk A p (p.hops.length+1) vs) λ_=>bind (hdPl A p) λt=>match t with|.d (.row true t) xs=>if jV t=sz/\0<sz then atM A true t xs k λ_=>wr A d (.ptr (atP p k sz) vs)else fail A|.gap t xs _ _=>if jV t=sz/\0<sz then atM A true t xs k λ_=>wr A d (.ptr (atP p k sz) vs)else fail A|.half t xs _=>if jV t=sz/\0<sz then atM A true t xs k λ_=>wr A d (.ptr (atP p k sz) vs)else fail A|_=>fail A
  |.pw p vs sz' lo n=>bind (chk A p (p.hops.length+1) vs) λ_=>bind (getPl A p) λt=>match t with|.d (.row true t) xs=>if jV t=sz/\0<sz/\sz'=sz then brM A (A.ltN k n) (atM A true t xs (A.addN lo k) λ_=>wr A d (.ptr (atP p (A.addN lo k) sz) vs))else fail A|_=>fail A
  |.d (.row false t) xs=>if jV t=sz/\0<sz then atM A false t xs k λe=>wr A d (.ip (splitX A t e))else fail A|_=>fail A
 |.ext x i=>bind (opd A x) λt=>match t with|.tup l=>if i<l.length then wr A d (l.getD i .dead)else fail A|_=>fail A
 |.bin op x y=>bind (opd A x) λa=>bind (opd A y) λb=>binX A d op a b|.bnb neg x y=>bind (opd A x) λa=>bind (opd A y) λb=>match a,b with|.d .bool a,.d .bool b=>wr A d (.d .bool (if neg then A.not (A.eqB a b)else A.eqB a b))|_,_=>fail A
 |.eqa ks neg x y=>bind (opd A x) λa=>bind (opd A y) λb=>match a,b with
  |.agg a,.agg b=>match eqAll A ks a b with|some r=>wr A d (.d .bool (if neg then A.not r else r))|none=>fail A
  |_,_=>fail A
 |.un op x=>bind (opd A x) λa=>match op,a with|.not,.d .bool b=>wr A d (.d .bool (A.not b))|.neg,.d (.int k) n=>wr A d (.d (.int k) (A.neg k n))|_,_=>fail A
 |.conv k x=>bind (opd A x) λa=>match a with|.d (.int k0) n=>wr A d (.d (.int k) (A.cv k0 k n))|_=>fail A
 |.bld z mv parts=>if(z.map (cellX A)).all okCellX then bind (takeParts A mv parts) λl=>bind (names A d l) λl'=>wr A d (.agg (assembleX (z.map (cellX A)) parts l'))else fail A|.bsl sz mv len parts=>bind (takeParts A mv (parts.map λp=>(0,sz,p))) λl=>if parts.length=len then bind (optM A (rowOf A (gD HT d) (chunksX sz len l))) λv=>inst A d false [v]else fail A|.mks sz z l c=>if(z.map (cellX A)).all okCellX&&z.length==sz then bind (opd A l) λtl=>bind (opd A c) λtc=>bind (natOf A tl) λn=>bind (natOf A tc) λm=>brM A (A.mkOk n m sz) (bind (optM A (repOf A (gD HT d) n (z.map (cellX A)))) λv=>inst A d false [v])else fail A|.slc sz x lo hi=>bind (opd A x) λt=>bind (lenOf A t) λn=>bind (optNat A lo (A.litN 0)) λl=>bind (optNat A hi n) λh=>brM A (A.slOk l h n) (
  match t with
  |.d (.row false t) xs=>if jV t=sz then wr A d (.d (.row false t) (A.win false t xs l (A.subN h l)))else fail A
  |.d (.nilr false) x=>wr A d (.d (.nilr false) x)
  |.pk p vs=>bind (getPl A p) λt=>match t with|.d (.row true t) _=>if jV t=sz then wr A d (.pw p vs sz l (A.subN h l))else fail A|.d (.nilr true) _=>wr A d (.pw p vs sz l (A.subN h l))|_=>fail A
  |.pw p vs sz' lo' _=>if sz'=sz then wr A d (.pw p vs sz (A.addN lo' l) (A.subN h l))else fail A
  |.d (.nilr true) x=>inst A d false [.d (.nilr true) x]
  |_=>fail A)
 |.app sz bytes mv fl s x=>bind (opd A s) λts=>bind (opd A x) λtx=>
  if fl && !mv&&isNameX tx then bind (contentOf A tx) λc2=>if flatRow c2 then bind (take1 A true ts) λs=>appX A d sz bytes (gD HT d) s c2 else fail A
  else bind (take1 A true ts) λs=>bind (take1 A mv tx) λx=>appX A d sz bytes (gD HT d) s x
 |.len x=>bind (opd A x) λt=>bind (lenOf A t) λn=>wr A d (.d (.int .i64) (A.natI n))|.lens x=>bind (opd A x) λt=>match t with|.d .str s=>wr A d (.d (.int .i64) (A.strLen s))|_=>fail A
 |.ixs x i=>bind (opd A x) λt=>bind (opd A i) λti=>bind (natOf A ti) λk=>match t with|.d .str s=>T8 A s k λb=>wr A d (.d (.int .u8) b)|_=>fail A
 |.mm mx xs=>bind (mapM' (λx=>bind (opd A x) (intOf A)) xs) λl=>match l with
  |.d (.int k) a::r=>match mmAll A mx k a r with|some m=>wr A d (.d (.int k) m)|none=>fail A
  |_=>fail A
 |.idxa n sz x i=>bind (opd A x) λt=>bind (opd A i) λti=>bind (natOf A ti) λk=>match t with|.ptr p vs=>bind (chk A p p.hops.length vs) λ_=>caseM A k n (λj=>if fitsP p (j*sz)then wr A d (.ptr (addP p (j*sz)) vs)else fail A) 0|_=>fail A
 |.s2b x=>bind (opd A x) λt=>match t with|.d .str s=>brM A (A.strOk s) (wr A d (.d (.row false (.int .u8)) (A.strB s)))|_=>fail A
 |.cpy sz x y=>bind (opd A x) λt=>bind (opd A y) λu=>bind (contentOf A u) λc2=>match t with|.pk p vs=>bind (chk A p (p.hops.length+1) vs) λ_=>bind (rdC p.root p.off) λtv=>cpyX A d sz p (A.litN 0) none tv c2|.pw p vs sz' lo n=>if sz'=sz then bind (chk A p (p.hops.length+1) vs) λ_=>bind (rdC p.root p.off) λtv=>cpyX A d sz p lo (some n) tv c2 else fail A|_=>fail A
 |.call _ _ _=>fail A
end
end X
structure XGP (D:CT->Type) where
 i:Nat
 p:XP D
 vs:N_
 cells:List (XV D)
abbrev B_:=List Ctr
namespace X
section
variable {D:CT->Type} {M:Type->Type} {X:Type} (A:Alg D M) {α β:Type}
def isNmX:XV D->Bool|.pk _ _=>true|.d (.nilr true) _=>true|_=>false
def argV0:XV D->XM D M X (XV D)|.ip cs=>ret (.ip cs)|.fn f cap=>ret (.fn f cap)|.ptr p vs=>ret (.ptr p vs)|t=>bind (takeV A false t) λl=>bind (optM A (immXL A l.1)) λl'=>ret (shapedX l.2 l')
def isPkX:XV D->Bool|.pk _ _=>true|_=>false
def argV(x:x_×Opd):XM D M X (XV D):=bind (opd A x.2) λt=>if(x.1==some 0&&isNmX t)=true then ret t else if(x.1.isSome&&isPkX t)=true then ret t else argV0 A t
def argVs:b_->XM D M X (List (XV D))| []=>ret []|x::r=>bind (argV A x) λt=>bind (argVs r) λl=>ret (t::l)
def takeOwns:Nat->List (x_×XV D)->XM D M X (List (Nat×XV D))|_,[]=>ret []|i,(some 0,.pk p vs)::r=>bind (take1 A true (.pk p vs)) λt=>if isOwX t=true then bind (takeOwns (i+1) r) λq=>ret ((i,t)::q)else fail A|i,_::r=>takeOwns (i+1) r
def grabB(r:Nat):Nat->Nat->XM D M X (List (XV D))|_,0=>ret []|o,n+1=>bind (rdC r o) λt=>bind (peek1 A ⟨r,o,[]⟩ t) λt'=>bind (take1 A true t') λt2=>bind (grabB r (o+1) n) λl=>ret (t2::l)
def VA(p:XP D):XP D:=⟨p.root,p.off,[]⟩
def baseXN(p:XP D)(n:Nat):Nat:=match p.hops with
 | []=>n
 |_::_=>1
def rooted(p:XP D):XM D M X Unit:=match p.hops with
 | []=>ret ()
 |_::_=>bind (rdT ((p.root-2)/2)) λt=>match t with
  |.ptr q ws=>if q.root==p.root&&q.hops.isEmpty then chk A q 0 ws else fail A
  |_=>fail A
def isArgX:XV D->Bool|.ip _=>true|.d (.nilr true) _=>true|.fn _ l=>l.all immCX|.agg l=>l.all λt=>okCellX t && !isOwX t|t=>okCellX t && !isOwX t
def grabs:Nat->List (x_×XV D)->XM D M X (List (XGP D))|_,[]=>ret []|i,(some n,.ptr p vs)::r=>bind (chk A p p.hops.length vs) λ_=>bind (rooted A p) λ_=>bind (grabB A p.root p.off (baseXN p n)) λl=>bind (grabs (i+1) r) λq=>ret (⟨i,VA p,vs.take 1,l⟩::q)|i,(some 0,.pk _ _)::r=>grabs (i+1) r|i,(_,t)::r=>if isArgX t then grabs (i+1) r else fail A
def touch(p:XP D):XM D M X Unit:=bind (rdC p.root p.off) λtv=>wrC A p.root p.off tv
def rechk:List (XGP D)->XM D M X Unit| []=>ret ()|g::r=>bind (chk A g.p g.p.hops.length g.vs) λ_=>bind (touch A g.p) λ_=>rechk r
def argT(i:Nat):XV D->XV D|.ptr p _=>.ptr ⟨2*i+2,0,p.hops⟩ (List.replicate (p.hops.length+1) 0)|.pk _ _=>.pk ⟨2*i+3,0,[]⟩ [0,0]|t=>t
def argTs:Nat->List (XV D)->List (XV D)|_,[]=>[]|i,t::r=>argT i t::argTs (i+1) r
def mkSt(kq:p_)(vals:List (XV D))(pts:List (Nat×List (XV D))):XS D:=⟨jf 0 vals,pts,RX kq,([],[])⟩
def isDeadX:XV D->Bool|.dead=>true|.d t _=>!oneT t|_=>false
def putBack:List (XGP D×List (XV D))->XM D M X Unit| []=>ret ()|(g,l)::r=>bind (putBack r) λ_=>if l.length=g.cells.length/\0<l.length/\(l.all λt=>!isDeadX t)=true then putL A g.p l else fail A
def shapeRX:P_->List (XV D)->List (XV D)| [],_=>[]|.one::r,l=>l.headD .dead::shapeRX r l.tail|.agg n::r,l=>.agg (l.take n)::shapeRX r (l.drop n)|.ptr::r,l=>.dead::shapeRX r l
def shapeTX(sh:P_)(l:List (XV D)):XV D:=match shapeRX sh l with| [x]=>x|l=>.tup l
def landR(dst:x_)(cells:List (XV D))(sh:P_):XM D M X Unit:=match dst with|some d=>bind (names A d cells) λl=>wr A d (shapeTX sh l)|none=>ret ()
def convP:(s:List (Nat×T_))->List (Nat×List (XV D))->(r:R_)->HL D r->Option (HL D (lvP s r))| [],[],_,h=>some h|s::ss,x::xs,r,h=>if s.1=x.1 then(convP ss xs r h).bind λh1=>AB A s.2 x.2 (lvP ss r) h1 else none|_,_,_,_=>none
def convT:(s:List (Nat×Sh))->List (Nat×XV D)->(r:R_)->HL D r->Option (HL D (lvT s r))| [],[],_,h=>some h|s::ss,x::xs,r,h=>if s.1=x.1 then(convT ss xs r h).bind λh1=>conv A s.2 x.2 (lvT ss r) h1 else none|_,_,_,_=>none
def sameVr:m_->m_->Bool| [],[]=>true|(q,n)::r,(q',n')::r'=>q==q'&&n==n'&&sameVr r r'|_,_=>false
def convS(s:Shs)(σ:XS D)(u:HL D []):Option (HL D (lvS s)):=if sameVr s.vr σ.vr then(convP A s.ce σ.ce [] u).bind λh=>convT A s.tm σ.tm _ h else none
def convIn(c:Ctr)(vals:List (XV D))(pts:List (Nat×List (XV D)))(u:HL D []):Option (HL D (lvL c.ins (lvP c.pts []))):=(convP A c.pts pts [] u).bind λh=>AB A c.ins vals _ h
def sameSh:P_->P_->Bool| [],[]=>true|.one::r,.one::r'=>sameSh r r'|.agg n::r,.agg n'::r'=>n==n'&&sameSh r r'|.ptr::r,.ptr::r'=>sameSh r r'|_,_=>false
def convO(o:XO)(cells:List (XV D))(sh:P_)(pts:List (Nat×List (XV D)))(u:HL D []):Option (HL D (lvO o)):=if sameSh o.sh sh then(convP A o.pts pts [] u).bind λh=>AB A o.cells cells _ h else none
def injO(cells:List (XV D))(sh:P_)(pts:List (Nat×List (XV D)))(u:HL D []):(outs:List XO)->Option ((i:Nat)×HL D (ED (outs.map lvO) i))| []=>none|o::r=>match convO A o cells sh pts u with|some h=>some ⟨0,h⟩|none=>match injO cells sh pts u r with|some x=>some ⟨x.1+1,x.2⟩|none=>none
def exEq:nz->nz->Bool|.normal,.normal=>true|.exit i,.exit j=>i==j|.ret,.ret=>true|_,_=>false
def injE(e:nz)(σ:XS D)(u:HL D []):(outs:List (nz×Shs))->Option ((i:Nat)×HL D (ED (outs.map λx=>lvS x.2) i))| []=>none|o::r=>match(if exEq o.1 e then convS A o.2 σ u else none)with|some h=>some ⟨0,h⟩|none=>match injE e σ u r with|some x=>some ⟨x.1+1,x.2⟩|none=>none
def onOut(o:Option α)(K:α->M X):M X:=match o with
 |some x=>K x
 |none=>A.fail
def isPX(sh:P_)(cells:List (XV D)):Bool:=match sh,cells with
 |.ptr::_,.ptr _ _::_=>true
 |_,_=>false
def shapePX(t:XV D):List (XV D)->XV D| []=>t|y::l=>.tup (t::y::l)
def landP(dst:x_)(q:List (XGP D))(cells:List (XV D)):XM D M X Unit:=match dst with|none=>ret ()|some d=>match cells,q with|.ptr pl _::l,[g]=>if pl.root==2*g.i+2&&g.p.hops.isEmpty then bind (rdVs (rE g.p.root (g.p.off+pl.off) pl.hops.length)) λvs=>wr A d (shapePX (.ptr ⟨g.p.root,g.p.off+pl.off,pl.hops⟩ vs) l)else fail A|_,_=>fail A
def normA:x_×XV D->x_×XV D|(some _,.pk p vs)=>(some 0,.pk p vs)|(some n,.ptr p vs)=>(some (n%1000),.ptr p vs)|x=>x
def revOf:Nat->List (x_×XV D)->List (Nat×Nat×XP D×N_)|_,[]=>[]|i,(some n,.ptr p vs)::r=>if 1000<=n then(i,n/1000-1,p,vs)::revOf (i+1) r else revOf (i+1) r|i,_::r=>revOf (i+1) r
def revChk:List (Nat×Nat×XP D×N_)->XM D M X (List (Nat×Nat×Nat×XP D))| []=>ret []|(i,k,p,vs)::l=>bind (rdT k) λt=>match t with|.ptr q ws=>if q.root=p.root/\p.hops.isEmpty=true/\q.hops.length=1/\p.off<=q.off then bind (chk A p 0 vs) λ_=>bind (chk A q 1 ws) λ_=>bind (revChk l) λr=>ret ((k,2*i+2,q.off-p.off,q)::r)else fail A|_=>fail A
def revive(kept:p_):List (Nat×Nat×Nat×XP D)->XM D M X Unit| []=>ret ()|(k,r,d,q)::l=>if kept.contains (r,d)=true then bind (getPl A q) λ_=>bind (rdVs (rE q.root q.off 1)) λvs=>bind (wrT A k (.ptr q vs)) λ_=>revive kept l else fail A
def ksOf(l:List (Nat×List (XV D))):N_:=(l.filter λx=>x.2.isEmpty).map (·.1)
def kcIn(l:List (Nat×List (XV D))):p_:=(l.filter λx=>!x.2.isEmpty).map λx=>(x.1,x.2.length-1)
def Oz(_:List (x_×XV D))(_:Nat):x_:=none
def lendChk(_:List (x_×XV D)):XM D M X Unit:=fun σ k=>if 0=0 then k () σ else A.fail
def giveBack(z:List (x_×XV D))(ks:N_):List (Nat×XV D)->List (List (XV D))->XM D M X Unit| [],_=>ret ()|_::ow,_::rs=>giveBack z ks ow rs|_::_,[]=>fail A
def afterC(dst:x_)(q:List (XGP D))(ow:List (Nat×XV D))(z:List (x_×XV D))(rv:List (Nat×Nat×Nat×XP D))(x:List (XV D)×P_×List (Nat×List (XV D))):XM D M X Unit:=if(x.2.2.map (·.1)).take (q.length+ow.length)=q.map (λg=>2*g.i+2)++ow.map (λy=>2*y.1+3)/\(isPX x.2.1 x.1||tF x.2.1 x.1.length)=true then bind (putBack A (q.zip (x.2.2.map (·.2)))) λ_=>bind (giveBack A z (ksOf (x.2.2.drop (q.length+ow.length))) ow ((x.2.2.drop q.length).map (·.2))) λ_=>bind (revive A (kcIn (x.2.2.drop (q.length+ow.length))) rv) λ_=>if isPX x.2.1 x.1 then(if ow.isEmpty&&rv.isEmpty then landP A dst q x.1 else fail A)else landR A dst x.1 x.2.1 else fail A
def callTB(dst:x_)(f:FuncId)(vals:List (XV D))(q:List (XGP D))(ow:List (Nat×XV D))(z:List (x_×XV D))(rv:List (Nat×Nat×Nat×XP D))(u:HL D []):B_->XM D M X Unit| []=>fail A|c::r=>match(if c.f=f then convIn A c vals (q.map (λg=>(2*g.i+2,g.cells))++ow.map λy=>(2*y.1+3,[y.2])) u else none)with|some h=>fun σ k=>A.call c.id (lvL c.ins (lvP c.pts [])) (c.outs.map lvO) c.g h λi ho=>onOut A (pE c.outs i ho) λx=>afterC A dst q ow z rv x σ k|none=>callTB dst f vals q ow z rv u r
def callV(TB:B_)(u:HL D [])(dst:x_)(f:FuncId)(ns:List x_)(vals:List (XV D)):XM D M X Unit:=
 bind (lendChk A (ns.zip vals)) λ_=>bind (revChk A (revOf 0 (ns.zip vals))) λrv=>bind (takeOwns A 0 ((ns.zip vals).map normA)) λow=>bind (grabs A 0 ((ns.zip vals).map normA)) λq=>bind (rechk A q) λ_=>
  if qR (q.map (·.p.root))&&q.all (λg=>decide (0<g.cells.length))&&rv.all (λx=>q.any λg=>2*g.i+2==x.2.1&&isOwX (g.cells.getD x.2.2.1 .dead))then callTB A dst f (argTs 0 vals) q ow (ns.zip vals) rv u TB else fail A
def see1:XV D->XM D M X (XV D)|.d (.row true _) _=>fail A|.d .nat _=>fail A|.d (.pair _ _) _=>fail A|.d (.nilr _) _=>ret (.d (.nilr false) (A.nilv false))|.d t x=>ret (.d t x)|.k x=>ret (.k x)|.pk p vs=>bind (chk A p (p.hops.length+1) vs) λ_=>bind (rdC p.root p.off) λtv=>getM A tv p.hops λv=>if isOwX v then optM A (immX A v)else fail A|_=>fail A
def seeL:List (XV D)->XM D M X (List (XV D))| []=>ret []|t::r=>bind (see1 A t) λt'=>bind (seeL r) λl=>ret (t'::l)
def seeA:XV D->XM D M X (XV D)|.agg l=>bind (seeL A l) λl'=>ret (.agg l')|.ip cs=>ret (.ip cs)|.fn f cap=>if cap.all immCX then ret (.fn f cap)else fail A|t=>see1 A t
def seeAs:O_->XM D M X (List (XV D))| []=>ret []|x::r=>bind (opd A x) λt=>bind (seeA A t) λt'=>bind (seeAs r) λl=>ret (t'::l)
def flatX:XV D->Bool|.d (.int _) _=>true|.d .bool _=>true|.d .str _=>true|.k x=>kn x|_=>false
def ownT:CT->Bool|.row o t=>o&&ownT t|.nilr o=>o|.pair a b=>ownT a&&ownT b|_=>true
def ownX:XV D->Bool|.d t _=>oneT t&&ownT t|.k x=>kn x|_=>false
def slX:XV D->Bool|.d (.row false _) _=>true|.d (.nilr false) _=>true|_=>false
def afterB(dst:x_)(fb:XM D M X Unit)(x:List (XV D)×P_×List (Nat×List (XV D))):XM D M X Unit:=
 if x.2.2.length=0/\x.1.all flatX=true/\tF x.2.1 x.1.length=true then(match dst with|some d=>wr A d (shapeTX x.2.1 x.1)|none=>ret ())
 else if x.2.2.length=0/\x.1.all ownX=true/\x.1.any isOwX=true/\tF x.2.1 x.1.length=true then landR A dst x.1 x.2.1
 else if x.1.any slX=true then fb else fail A
def callB(dst:x_)(f:FuncId)(vals:List (XV D))(u:HL D [])(fb:XM D M X Unit):B_->XM D M X Unit| []=>fail A|c::r=>match(if c.f=f then convIn A c vals [] u else none)with|some h=>fun σ k=>A.call c.id (lvL c.ins (lvP c.pts [])) (c.outs.map lvO) c.g h λi ho=>onOut A (pE c.outs i ho) λx=>afterB A dst fb x σ k|none=>callB dst f vals u fb r
def bxX(vals:List (XV D)):BxC->XV D|.arg i=>vals.getD i .dead|.val x=>cellX A x
def evBox(dst:x_)(tm:List BxC)(vals:List (XV D)):XM D M X Unit:=match dst with|some d=>bind (takeL A false (tm.map (bxX A vals))) λl=>bind (new A (2*d+2) l) λ_=>bind (rdV (2*d+2,0,0)) λg=>wr A d (.ptr ⟨2*d+2,0,[]⟩ [g])|none=>fail A
def boxOk:BxC->Bool|.arg _=>true|.val x=>match x with|.slice none 0 0=>false|x=>kn x
def evNrm(E:Env)(TB:B_)(u:HL D [])(dst:x_)(k:Bool)(f:FuncId)(args:b_):XM D M X Unit:=
 if k then bind (argVs A args) λvals=>match E.box f with
  |some x=>if vals.length=x.1/\x.2.all boxOk=true then evBox A dst x.2 vals else fail A
  |none=>callV A TB u dst f (args.map (·.1)) vals
 else bind (seeAs A (args.map (·.2))) λvals=>callB A dst f vals u (bind (argVs A args) λvals=>callV A TB u dst f (args.map (·.1)) vals) TB
def evCall(E:Env)(TB:B_)(u:HL D [])(dst:x_):TOp->XM D M X Unit
 |.call k (.f f) args=>evNrm A E TB u dst k f args|.call _ (.t i) args=>bind (rdT i) λt=>match t with|.fn f caps=>bind (argVs A args) λvals=>callV A TB u dst f (args.map (·.1)++Rj E f args.length caps.length) (vals++caps)|_=>fail A
 |_=>fail A
structure Cfg where
 E:Env
 TB:B_
 HT:List (Nat×CT)
 HL:List IY
def evop(C:Cfg)(u:HL D [])(dst:x_)(op:TOp):XM D M X Unit:=
 match op with
 |.call k f args=>evCall A C.E C.TB u dst (.call k f args)|.store n mv a x=>match dst with|none=>ev1 A C.HT 0 (.store n mv a x)|some _=>fail A
 |op=>match dst with|some d=>ev1 A C.HT d op|none=>fail A
def setNo(dst:x_):XM D M X Unit:=match dst with|some d=>wrT A d (.tup [])|none=>ret ()
def known(j:Nat)(b:Bool)(σ:XS D):XS D:=⟨iJ σ.tm j (.d .bool (A.litB b)),σ.ce,σ.vr,σ.lg⟩
def knownO(c:Opd)(b:Bool)(σ:XS D):XS D:=match c with|.t j=>known A j b σ |_=>σ
def condX(m m':M X):XV D->M X|.d .bool x=>A.br x m m'|_=>A.fail
def guardX(j:Nat)(want:Bool)(m m':XM D M X Unit):XV D->XM D M X Unit|.d .bool b=>fun σ k=>A.br b ((if want then m else m') (known A j true σ) k) ((if want then m' else m) (known A j false σ) k)|.tup []=>m'|_=>fail A
def spOp(C:Cfg)(u:HL D [])(o:lw):XM D M X Unit:=match o.guard with|none=>evop A C u o.dst o.op|some (j,want)=>bind (rdT j) (guardX A j want (evop A C u o.dst o.op) (setNo A o.dst))
def spOps(C:Cfg)(u:HL D []):List lw->XM D M X Unit| []=>ret ()|o::r=>bind (spOp A C u o) λ_=>spOps C u r
def spFL(C:Cfg)(u:HL D [])(ops:List lw):N_->XM D M X (List (Nat×vm))| []=>ret []|i::r=>fun σ k=>spOp A C u (ops.getD i I5) ⟨σ.tm,σ.ce,σ.vr,([],[])⟩ λ_ σ1=>spFL C u ops r σ1 λfs σ2=>k ((i,σ1.lg)::fs) σ2
def renorm0(L:N_)(σ:XS D):XV D->XV D|.ptr p vs=>if L.contains p.root&&vs==lz (nw σ.vr) p.root p.off p.hops.length then .ptr p (lz (nw (sat L σ.vr σ.vr)) p.root p.off p.hops.length)else .dead|.pk p vs=>if L.contains p.root&&vs==lz (nw σ.vr) p.root p.off (p.hops.length+1)then .pk p (lz (nw (sat L σ.vr σ.vr)) p.root p.off (p.hops.length+1))else .dead|.pw p vs sz lo n=>if L.contains p.root&&vs==lz (nw σ.vr) p.root p.off (p.hops.length+1)then .pw p (lz (nw (sat L σ.vr σ.vr)) p.root p.off (p.hops.length+1)) sz lo n else .dead|.k x=>.k x|.ip cs=>.ip cs|.d (.row true _) _=>.dead|.d t x=>.d t x|.tup []=>.tup []|_=>.dead
def renorm(L:N_)(σ:XS D):XV D->XV D|.agg l=>.agg (l.map (renorm0 L σ))|.fn f l=>.fn f (l.map (renorm0 L σ))|t=>renorm0 L σ t
def normT(L:N_)(σ:XS D):N_->List (Nat×XV D)| []=>[]|i::r=>match gD σ.tm i with|some t=>(i,renorm L σ t)::normT L σ r|none=>normT L σ r
def normC(σ:XS D):N_->List (Nat×List (XV D))| []=>[]|r::l=>match gD σ.ce r with|some c=>(r,c)::normC σ l|none=>normC σ l
def norm(σ:XS D)(pers:Prs):XS D:=⟨normT pers.2 σ pers.1,normC σ pers.2,sat pers.2 σ.vr σ.vr,([],[])⟩
def anew(σ:XS D):XS D:=norm σ (σ.tm.map (·.1),σ.ce.map (·.1))
def selH(i:Nat)(σ:XS D)(u:HL D []):List IY->Option ((H:IY)×HL D (lvS H.s))| []=>none|H::r=>match(if H.i=i then convS A H.s σ u else none)with|some h=>some ⟨H,h⟩|none=>selH i σ u r
def selJ(i:Nat):List IY->Option IY| []=>none|H::r=>if H.i=i then some H else selJ i r
def marks:lO->Nat|.seq a b=>marks a+marks b+1|.cond _ a b=>marks a+marks b|.block _ b=>marks b|.loop b=>marks b+1|.pre _ b=>marks b|.frz _ _ b=>marks b|.post b _=>marks b|_=>0
def okN0:XV D->Bool|.d (.row true _) _=>false|.d .nat _=>false|.d (.pair _ _) _=>false|.gap _ _ _ _=>false|.half _ _ _=>false|_=>true
def okN:XV D->Bool|.agg l=>l.all okN0|.fn _ l=>l.all okN0|t=>okN0 t
def okS(σ:XS D):Bool:=σ.tm.all λx=>okN x.2
def shq(p:XP D)(off:Nat):XP D:=if off<1000 then addP p off else⟨p.root,p.off+off%1000,[(A.litN 0,off/100000,off/1000%100)]⟩
def shr1(x:Nat×x_):XM D M X Unit:=bind (rdT x.1) λt=>match x.2,t with
 |none,.pk p vs=>bind (take1 A false (.pk p vs)) λt'=>bind (optM A (immX A t')) λt2=>wrT A x.1 t2
 |some off,.ptr p vs=>bind (chk A p p.hops.length vs) λ_=>if fitsP p off then bind (getPl A (shq A p off)) λt=>if isOwX t then bind (peek1 A (shq A p off) t) λt'=>bind (take1 A false t') λ_=>ret ()else(match t with|.d _ _=>ret ()|_=>fail A)else fail A
 |none,.d _ _=>ret ()
 |none,.agg l=>if l.any isOwX then fail A else ret ()
 |_,_=>fail A
def shrs:a_->XM D M X Unit| []=>ret ()|x::r=>bind (shr1 A x) λ_=>shrs r
def halfX(n:Nat):XV D->(XV D->M X)->M X|.d (.row true t) xs,k=>if h:j6 (.row true t) (.row true (upT t))=true then(if n%2=0/\lowT t=true then k (.half (upT t) (A.recast _ _ h xs) (A.litN 0))else A.fail)else A.fail|.half t xs m,k=>if n%2=1 then A.br (A.eqN m (A.len true t xs)) (k (.d (.row true t) xs)) A.fail else A.fail|.d (.nilr true) x,k=>if n%2=1 then k (.d (.nilr true) x)else A.fail|_,_=>A.fail
def halfM(r o n:Nat):XM D M X Unit:=fun σ k=>match gD σ.ce r with
 |some l=>if o<l.length then halfX A n (l.getD o .dead) λt=>k () ⟨σ.tm,iJ σ.ce r (l.set o t),σ.vr,σ.lg⟩else A.fail
 |none=>A.fail
def ownM(r o:Nat):XM D M X Unit:=fun σ k=>match gD σ.ce r with
 |some l=>if isOwX (l.getD o .dead)=true then k () σ else A.fail
 |none=>A.fail
def frzM(i n:Nat):XM D M X Unit:=if 1000<=n then if 2000<=n then ownM A (2*i+2) (n-2000)else halfM A (2*i+2) ((n-1000)/2) n else fail A
def roundK(H:IY)(u:HL D [])(e:nz)(σ:XS D):M (HL den (lvS H.s)⊕Eh (H.outs.map λx=>lvS x.2)):=match e with|.normal=>onOut A (convS A H.s σ u) (A.next (lvS H.s) (H.outs.map λx=>lvS x.2))|e=>onOut A (injE A e σ u H.outs) λx=>A.exitL (lvS H.s) (H.outs.map λx=>lvS x.2) x.1 x.2
def runC(C:Cfg)(u:HL D []):lO->Nat->{X:Type}->XS D->(nz->XS D->M X)->M X
 |.skip,_,_,σ,k=>k .normal σ|.nrm pers,_,_,σ,k=>if okS σ then k .normal (norm σ pers)else A.fail|.reg _ draw ops pers,_,_,σ,k=>match draw with|none=>spOps A C u ops σ λ_ σ'=>if okS σ' then k .normal (norm σ' pers)else A.fail|some deps=>spFL A C u ops (List.range ops.length) σ λfs σ'=>if AJ deps fs&&okS σ' then k .normal (norm σ' pers)else A.fail
 |.seq a b,i,_,σ,k=>match selJ i C.HL with
  |none=>runC C u a (i+1) σ λe σ'=>match e with|.normal=>runC C u b (i+1+marks a) σ' k|e=>k e σ'
  |some H=>A.join (H.outs.map λx=>lvS x.2) (runC C u a (i+1) σ λe σ'=>match injE A e σ' u H.outs with|some x=>A.out (H.outs.map λx=>lvS x.2) x.1 x.2|none=>A.fail)
   λj ho=>onOut A (zG H.outs j ho) λx=>match x.1 with|.normal=>runC C u b (i+1+marks a) x.2 k|e=>k e x.2
 |.cond c a b,i,_,σ,k=>opd A c σ λt _=>condX A (runC C u a i (knownO A c true σ) k) (runC C u b (i+marks a) (knownO A c false σ) k) t|.block id b,i,_,σ,k=>runC C u b i σ λe σ'=>match e with|.exit j=>if j=id then k .normal σ' else k (.exit j) σ'|e=>k e σ'
 |.loop b,i,_,σ,k=>match selH A i σ u C.HL with
  |some ⟨H,h⟩=>A.loop H.nm (lvS H.s) (H.outs.map λx=>lvS x.2) h
   (λh=>runC C u b (i+1) (J4 H.s h) (roundK A H u))
   λj ho=>onOut A (zG H.outs j ho) λx=>k x.1 x.2
  |none=>A.fail
 |.exit id,_,_,σ,k=>k (.exit id) σ|.ret,_,_,σ,k=>k .ret σ|.frz j n a,i,_,σ,k=>frzM A j n σ λ_ σ'=>if okS σ' then runC C u a i (anew σ') k else A.fail|.pre l a,i,_,σ,k=>shrs A l σ λ_ σ'=>if okS σ' then runC C u a i (anew σ') k else A.fail|.post a l,i,_,σ,k=>runC C u a i σ λe σ'=>shrs A l σ' λ_ σ2=>if okS σ2 then k e (anew σ2)else A.fail
def takeR1(np:Nat)(t:XV D):XM D M X (XV D):=match t with|.pk p vs=>take1 A (!Ux np p.root) (.pk p vs)|t=>take1 A true t
def takeRL(np:Nat):List (XV D)->XM D M X (List (XV D))| []=>ret []|t::r=>bind (takeR1 A np t) λt'=>bind (takeRL np r) λr'=>ret (t'::r')
def takeRV(np:Nat)(t:XV D):XM D M X (List (XV D)×RSh):=match t with|.agg l=>bind (takeRL A np l) λl'=>ret (l',.agg l'.length)|t=>bind (takeR1 A np t) λt'=>ret ([t'],.one)
def res1(np:Nat):TRs->XM D M X (List (XV D)×RSh)
 |.tmp t=>bind (rdT t) λtv=>takeRV A np tv|.cell t n=>bind (rdT t) λtv=>match tv with
  |.ptr p vs=>bind (chk A p p.hops.length vs) λ_=>match n with|none=>bind (getPl A p) λt=>bind (peek1 A p t) λt'=>takeRV A np t'|some n=>bind (peekL A p n) λl=>takeRV A np (.agg l)
  |_=>fail A
def resL(np:Nat):Q_->XM D M X (List (XV D)×P_)| []=>ret ([],[])|r::rs=>bind (res1 A np r) λx=>bind (resL np rs) λy=>ret (x.1++y.1,x.2::y.2)
def onesOf:List (XV D)->P_| []=>[]|_::r=>.one::onesOf r
def flatsR:Q_->XM D M X (List (XV D))| []=>ret []|.tmp t::r=>bind (rdT t) λtv=>if flatX tv then bind (flatsR r) λl=>ret (tv::l)else fail A|.cell _ _::_=>fail A
def resF(np:Nat)(l:Q_):XM D M X (List (XV D)×P_):=
 match l with
 |.tmp t::r=>bind (rdT t) λtv=>match tv with|.ptr p vs=>bind (chk A p p.hops.length vs) λ_=>bind (flatsR A r) λl=>ret (.ptr p vs::l,.ptr::onesOf l)|_=>resL A np (.tmp t::r)
 |qs=>resL A np qs
def isPtrX:XV D->Bool|.ptr _ _=>true|_=>false
def isShX:XV D->Bool|.d (.row false _) _=>true|.d (.nilr false) _=>true|_=>false
def ptrsInX(pp:N_):Nat->List (XV D)->Bool|_,[]=>true|i,t::r=>(!isPtrX t||pp.contains i)&&(isPtrX t||isShX t || !pp.contains (1000+i))&&ptrsInX pp (i+1) r
def ptsOf(σ:XS D):List (Nat×List (XV D))->List (Nat×List (XV D))| []=>[]|x::r=>(x.1,(gD σ.ce x.1).getD [])::ptsOf σ r
def kpX(pp:N_):List (Nat×List (XV D)):=(KV pp).map λk=>(1000000+k,[])
def kcX(kq:p_)(σ:XS D):List (Nat×List (XV D)):=(kq.filter λq=>nw σ.vr (q.1,0,0)==0&&nw σ.vr (q.1,q.2,1)==0).map λq=>(q.1,List.replicate (q.2+1) .dead)
def runT(C:Cfg)(u:HL D [])(tf:TFn)(outs:List XO)(vals:List (XV D))(pts:List (Nat×List (XV D))):M (Eh (outs.map lvO)):=
 if vals.length=tf.np/\(ptrsInX tf.pp 0 vals&&(!tf.pp.contains 1000||pts.isEmpty))=true then
  runC A C u tf.body 0 (mkSt (JA tf.pp) vals pts) λe σ=>match e with
   |.exit _=>A.fail
   |_=>resF A tf.np tf.res σ λy σ'=>onOut A (injO A y.1 y.2 (ptsOf σ' pts++(kpX tf.pp++kcX (JA tf.pp) σ')) u outs) λx=>A.out (outs.map lvO) x.1 x.2
 else A.fail
end
end X
def er1:(t:CT)->den t->TV|.int k,x=>.v (.int k x)|.bool,x=>.v (.bool x)|.str,x=>.v (.string x)|.nat,_=>.dead|.row true t,xs=>.ow (List.map (enc t) xs)|.row false t,xs=>.sl (List.map (enc t) xs)|.nilr true,_=>.ow []|.nilr false,_=>.sl []|.pair _ _,_=>.dead
def AA:(t:CT)->den t->U_|.pair a b,x=>AA a x.1++AA b x.2|.nat,_=>[]|.int k,x=>[.v (.int k x)]|.bool,x=>[.v (.bool x)]|.str,x=>[.v (.string x)]|.row _ t,xs=>[.sl (List.map (enc t) xs)]|.nilr _,_=>[.sl []]
def lu(t:CT):Nat->List (den t)->o_|_,[]=>[]|0,x::r=>AA t x::lu t 0 r|m+1,x::r=>enc t x::lu t m r
theorem oA{t:CT}:∀(xs:List (den t))(m i:Nat),(lu t m xs)[i]?=xs[i]?.map λx=>if i<m then enc t x else AA t x| [],m,i=>by simp[lu]|x::r,0,0=>by simp[lu]|x::r,0,i+1=>by simpa[lu]using oA r 0 i|x::r,m+1,0=>by simp[lu]|x::r,m+1,i+1=>by simpa[lu]using oA r m i
theorem BF{t:CT}:∀(xs:List (den t))(m:Nat),(lu t m xs).length=xs.length| [],m=>rfl|x::r,0=>by simp[lu,BF r 0]|x::r,m+1=>by simp[lu,BF r m]
theorem Mq{t:CT}(xs:List (den t)):lu t 0 xs=List.map (AA t) xs:=by induction xs with|nil=>rfl|cons x r ih=>simp[lu,ih]
theorem OX{t:CT}(xs:List (den t)):lu t xs.length xs=List.map (enc t) xs:=by induction xs with|nil=>rfl|cons x r ih=>simp[lu,ih]
def erP(p:XP den):gf:=⟨p.root,p.off,p.hops⟩
mutual
def er:XV den->TV|.d t x=>er1 t x|.k x=>.v x|.dead=>.dead|.ptr p vs=>.ptr (erP p) vs|.ip l=>.ip (erL l)|.pk p vs=>.pk (erP p) vs|.pw p vs sz lo n=>.pw (erP p) vs sz lo n|.agg l=>.agg (erL l)|.tup l=>.tup (erL l)|.fn f l=>.fn f (erL l)|.gap t x i o=>iH (er1 (.row true t) x) [(i,0,o)] .dead|.half t x m=>.ow (lu t m x)
def erL:List (XV den)->U_| []=>[]|x::r=>er x::erL r
end
def erC(l:List (Nat×List (XV den))):List (Nat×U_):=l.map λx=>(x.1,erL x.2)
def erS(σ:XS den):St:=⟨σ.tm.map λx=>(x.1,er x.2),erC σ.ce,σ.vr⟩
theorem kV(l:List (XV den)):erL l=l.map er:=by induction l with|nil=>rfl|cons x r ih=>simp only[erL,oPC,ih]
theorem iI(l:List (XV den)):(erL l).length=l.length:=by rw[kV];simp
theorem rI(a b:List (XV den)):erL (a++b)=erL a++erL b:=by simp[kV]
theorem xF(l:List (XV den))(n:Nat):erL (l.take n)=(erL l).take n:=by simp[kV,List.map_take]
theorem AR(l:List (XV den))(n:Nat):erL (l.drop n)=(erL l).drop n:=by simp[kV,List.map_drop]
theorem xG(l:List (XV den))(i:Nat):er (l.getD i .dead)=(erL l).getD i .dead:=by rw[kV];simp only[oGD,oGP];cases l[i]?<;>rfl
theorem wG(l:List (XV den))(i:Nat)(t:XV den):erL (l.set i t)=(erL l).set i (er t):=by simp[kV,List.map_set]
theorem IH(l:List (XV den)):er (l.headD .dead)=(erL l).headD .dead:=by cases l<;>rfl
theorem SU{o:Bool}{t t':CT}(xs:List (den t))(f:den t->den t')(h:∀y,enc t' (f y)=enc t y):enc (.row o t') (List.map f xs)=enc (.row o t) xs:=by
 have e:List.map (enc t') (List.map f xs)=List.map (enc t) xs:=by rw[oPM];exact List.map_congr_left λy _=>h y
 cases o;show[TV.sl (List.map (enc t') (List.map f xs))]=[TV.sl (List.map (enc t) xs)];rw[e];show[TV.ow (List.map (enc t') (List.map f xs))]=[TV.ow (List.map (enc t) xs)];rw[e]
theorem ul{t:CT}(h:X.oneT t=true)(x:den t):enc t x=[er1 t x]:=by cases t with|row o t=>cases o<;>rfl|nilr o=>cases o<;>rfl|nat=>simp[X.oneT]at h|pair a b=>simp[X.oneT]at h|_=>rfl
theorem ii:∀(t:CT)(x:den t),(enc t x).length=jV t:=by intro t;induction t with|pair a b ZF ZC=>intro x;simp only[enc,oLA,ZF,ZC,jV]|row o t=>intro x;cases o<;>rfl|nilr o=>intro x;cases o<;>rfl|_=>intro x;rfl
theorem nb:∀(t:CT)(x:den t),(AA t x).length=jV t:=by intro t;induction t with|pair a b ZF ZC=>intro x;simp[AA,jV,ZF,ZC]|_=>intro x;rfl
theorem D1{t:CT}(xs:List (den t))(m:Nat):(lu t m xs).map List.length=xs.map λ_=>jV t:=by apply oEG;intro i;rw[oGP,oA,oGP];cases xs[i]? with|none=>rfl|some x=>simp only[oMS];split;rw[ii];rw[nb]
theorem IC:∀{t:CT},X.flatT t=true->∀x:den t,AA t x=enc t x:=by intro t;induction t with|pair a b ZF ZC=>intro h x;simp only[X.flatT,oBA]at h;show AA a x.1++AA b x.2=enc a x.1++enc b x.2;rw[ZF h.1,ZC h.2]|int k=>intro _ x;rfl|bool=>intro _ x;rfl|str=>intro _ x;rfl|_=>intro h x;simp[X.flatT]at h
theorem Qy:∀{t:CT}{o:Nat},X.only t o=true->∀(x:den t),∃u,(AA t x)[o]?=some u/\tG u=true:=by
 intro t;induction t with
 |pair a b ZF ZC=>intro o h x;show ∃u,(AA a x.1++AA b x.2)[o]?=some u/\_;simp only[X.only]at h;split at h;rename_i ho;simp only[oBA]at h;rw[oAL (by rw[nb];exact ho)];exact ZF h.1 x.1;rename_i ho;simp only[oBA]at h;rw[oAR (by rw[nb];omega),nb];exact ZC h.2 x.2|row ow t ih=>intro o h x;cases o with|succ o=>simp[X.only]at h|zero=>exact⟨_,rfl,rfl⟩
 |_=>intro o h;simp[X.only]at h
theorem wS:∀(t:CT)(x:den t),erL (X.splitX fU t x)=enc t x:=by intro t;induction t with|pair a b ZF ZC=>intro x;simp only[X.splitX,rI,enc];rw[ZF,ZC];rfl|row o t=>intro x;cases o<;>rfl|nilr o=>intro x;cases o<;>rfl|_=>intro x;rfl
theorem re{α:Type}(l:List α):∀i,Jt l i=l[i]?:=by induction l with|nil=>intro i;rfl|cons x r ih=>intro i;cases i with|zero=>rfl|succ i=>simp[Jt,ih]
theorem tW{t:CT}{x:den t}{o:Nat}{v:XV den}(h:Jt (X.splitX fU t x) o=some v):(enc t x)[o]?=some (er v):=by rw[re]at h;rw[<- wS,kV,oGP,h];rfl
theorem Uu:∀{t u:CT}(x:den t),ME t u=true->enc u (RZ t u x)=enc t x:=by
 intro t;induction t with
 |int k=>intro u x h;cases u<;>simp[ME]at h;subst h;rfl|bool=>intro u x h;cases u<;>simp[ME]at h;rfl|str=>intro u x h;cases u<;>simp[ME]at h;rfl|nat=>intro u x h;cases u<;>simp[ME]at h;rfl|row o t ih=>intro u x h;cases u<;>simp[ME]at h;rename_i o' t';obtain⟨rfl,h⟩:=h;exact SU x (RZ t t') λy=>ih y h|nilr o=>
 intro u x h;cases u<;>simp[ME]at h
 subst h;cases o<;>rfl
 subst h;cases o<;>rfl
 |pair a b ZF ZC=>intro u x h;cases u<;>simp[ME]at h;rename_i a' b';show enc a' (RZ a a' x.1)++enc b' (RZ b b' x.2)=enc a x.1++enc b x.2;rw[ZF _ h.1,ZC _ h.2]
theorem Km{t u:CT}{x:den t}{y:den u}(h:asT fU t u x=some y):enc u y=enc t x:=by
 unfold asT at h;split at h;rename_i he;have:=qW he;subst this;injection h with h
 rw[<- h];split at h;rename_i hl;injection h with h
 rw[<- h];exact Uu x hl;simp at h
theorem TC{t u:CT}{x:den t}{y:den u}(h:asT fU t u x=some y):X.oneT u=X.oneT t:=by
 unfold asT at h;split at h;rename_i he;rw[qW he];split at h;rename_i hl;cases t<;>cases u<;>simp[ME]at hl<;>rfl
 simp at h
theorem Ll{t u:CT}{x:den t}{y:den u}(h:asT fU t u x=some y):er1 u y=er1 t x:=by have h1:=Km h;have h2:=TC h;cases ht:X.oneT t with|true=>rw[ul (by rw[h2,ht]),ul ht]at h1;injection h1|false=>rw[ht]at h2;cases t<;>simp[X.oneT]at ht<;>cases u<;>simp[X.oneT]at h2<;>rfl
theorem Gr{α β:Type}(h:α=β)(h2:List α=List β)(xs:List α):cast h2 xs=xs.map (cast h):=by subst h;exact(List.map_id xs).symm
theorem xJ{α β γ δ:Type}(h1:α=γ)(h2:β=δ)(h:(α×β)=(γ×δ))(x:α×β):cast h x=(cast h1 x.1,cast h2 x.2):=by subst h1;subst h2;rfl
theorem n9:∀t,j6 t t=true:=by intro t;induction t with|row o t ih=>simpa[j6]using ih|pair a b ZF ZC=>simp[j6,ZF,ZC]|_=>simp[j6]
theorem GL:∀(t:CT)(x:den t),erL (X.split0 fU t x)=AA t x:=by intro t;induction t with|pair a b ZF ZC=>intro x;simp only[X.split0,rI,AA];rw[ZF,ZC];rfl|row o t=>intro x;have h:j6 (.row o t) (.row false t)=true:=n9 t;show[er (if h:j6 (.row o t) (.row false t)=true then _ else _)]=_;rw[dif_pos h];rfl|_=>intro x;rfl
theorem DM{t:CT}{x:den t}{o:Nat}{v:XV den}(h:Jt (X.split0 fU t x) o=some v):(AA t x)[o]?=some (er v):=by rw[re]at h;rw[<- GL,kV,oGP,h];rfl
theorem yD:∀t,j6 t (vI t)=true:=by
 intro t;induction t with
 |row o t ih=>cases o with|true=>simpa[vI,j6]using ih|false=>simpa[vI]using n9 (.row false t)
 |pair a b ZF ZC=>simp[vI,j6,ZF,ZC]|nilr o=>simp[vI,j6]|_=>simp[vI,j6]
theorem M7:∀t,j6 t (X.upT t)=true:=by intro t;induction t with|row o t ih=>simpa[X.upT,j6]using n9 t|pair a b ZF ZC=>simp[X.upT,j6,ZF,ZC]|nilr o=>simp[X.upT,j6]|_=>simp[X.upT,j6]
theorem Tq:∀{t:CT},X.lowT t=true->∀(h:den t=den (X.upT t))(x:den t),AA (X.upT t) (cast h x)=enc t x:=by
 intro t;induction t with
 |row o t ih=>intro hl h x;cases o with|true=>simp[X.lowT]at hl|false=>rfl
 |nilr o=>intro hl h x;cases o with|true=>simp[X.lowT]at hl|false=>rfl
 |pair a b ZF ZC=>intro hl h x;simp only[X.lowT,oBA]at hl;have ha:=iw (M7 a);have hb:=iw (M7 b);have e:(cast h x:den (.pair (X.upT a) (X.upT b)))=((cast ha x.1,cast hb x.2):den (X.upT a)×den (X.upT b)):=xJ ha hb h x;show AA (.pair (X.upT a) (X.upT b)) (cast h x)=enc a x.1++enc b x.2;rw[e];show AA (X.upT a) (cast ha x.1)++AA (X.upT b) (cast hb x.2)=_;rw[ZF hl.1 ha,ZC hl.2 hb]|_=>intro _ h x;rfl
theorem Ge:∀(t:CT)(h:den t=den (vI t))(x:den t),enc (vI t) (cast h x)=jl (enc t x):=by
 intro t;induction t with
 |row o t ih=>intro h x;cases o with|false=>rfl|true=>have h':den t=den (vI t):=iw (yD t);have e:(cast h x:den (.row false (vI t)))=(List.map (cast h') (x:List (den t)):List (den (vI t))):=Gr h' h x;show enc (.row false (vI t)) (cast h x)=jl [TV.ow (List.map (enc t) (x:List (den t)))];rw[e];show[TV.sl (List.map (enc (vI t)) (List.map (cast h') (x:List (den t))))]=[TV.sl (pO (List.map (enc t) (x:List (den t))))];rw[oPM,vq,oPM];congr 2;refine List.map_congr_left λy _=>?_;simp only[Function.comp_apply];rw[ih h' y,rT]
 |nilr o=>intro h x;cases o<;>rfl|pair a b ZF ZC=>intro h x;have ha:=iw (yD a);have hb:=iw (yD b);have e:(cast h x:den (.pair (vI a) (vI b)))=((cast ha x.1,cast hb x.2):den (vI a)×den (vI b)):=xJ ha hb h x;show enc (.pair (vI a) (vI b)) (cast h x)=jl (enc a x.1++enc b x.2);rw[e];show enc (vI a) (cast ha x.1)++enc (vI b) (cast hb x.2)=_;rw[ZF ha,ZC hb];simp[rT]|_=>intro h x;rfl
theorem BE{x y:XV den}(h:X.immX fU x=some y):er y=(er x).imm:=by
 unfold X.immX at h;split at h;injection h with h;subst h;rfl
 injection h with h;subst h;rfl
 injection h with h;subst h;rfl
 injection h with h;subst h;rfl
 rename_i o _;injection h with h;subst h
 cases o<;>rfl
 rename_i t xs;split at h;rename_i hs;injection h with h
 subst h;have:=Ge (.row true t) (iw hs) xs;simp only[vI]at this;have e1:enc (.row false (vI t)) (cast (iw hs) xs)=[er1 (.row false (vI t)) (cast (iw hs) xs)]:=rfl;rw[e1]at this;show er1 (.row false (vI t)) (cast (iw hs) xs)=(er1 (.row true t) xs).imm;simpa[jl,enc,er1]using this;simp at h;injection h with h;subst h;rfl
 simp at h
theorem QV:∀{l l':List (XV den)},X.immXL fU l=some l'->erL l'=(erL l).map TV.imm:=by
 intro l;induction l with
 |nil=>intro l' h;simp only[X.immXL,oSJ]at h;subst h;rfl|cons x l ih=>
 intro l' h;simp only[X.immXL]at h;split at h;rename_i y r h1 h2;injection h with h
 subst h;simp only[erL,oPC];rw[BE h1,ih h2];simp at h
theorem Je:∀{t:CT}{o:Nat}{os:N_}{t':CT},shT t o os=some t'->j6 t t'=true:=by
 intro t;induction t with
 |pair a b ZF ZC=>intro o os t' h;simp only[shT]at h;split at h;obtain⟨u,h1,rfl⟩:=kF h;simp[j6,ZF h1,n9];obtain⟨u,h1,rfl⟩:=kF h;simp[j6,ZC h1,n9]|row ow t ih=>
 intro o os t' h;cases ow with
  |true=>
  cases o with
   |zero=>cases os with|nil=>simp only[shT,oSJ]at h;subst h;exact yD _|cons o os=>simp only[shT]at h;obtain⟨u,h1,rfl⟩:=kF h;simpa[j6]using ih h1
   |succ o=>simp only[shT,oSJ]at h;subst h;exact n9 _
  |false=>
  cases o with
  |zero=>cases os with|nil=>simp only[shT,oSJ]at h;subst h;exact yD _|cons o os=>simp only[shT,oSJ]at h;subst h;exact n9 _
  |succ o=>simp only[shT,oSJ]at h;subst h;exact n9 _
 |_=>
 intro o os t' h;cases o with
 |zero=>cases os with|nil=>simp only[shT,oSJ]at h;subst h;exact yD _|cons o os=>simp only[shT,oSJ]at h;subst h;exact n9 _
 |succ o=>simp only[shT,oSJ]at h;subst h;exact n9 _
theorem yP(l:U_)(h:l.length<=1):jl l=l.modify 0 λy=>ir y []:=by match l,h with| [],_=>rfl| [y],_=>cases y<;>rfl
theorem yQ(l:U_)(h:l.length<=1)(o:Nat)(f:TV->TV):l.modify (o+1) f=l:=List.modify_eq_self (by omega)
theorem AM{α:Type}(l l':List α)(f:α->α){o:Nat}(h:o<l.length):(l++l').modify o f=l.modify o f++l':=by
 apply oEG;intro i;simp only[oGM,List.getElem?_append,oLM];by_cases hi:i<l.length;simp only[hi,if_true];have:¬o=i:=by omega
 simp only[hi,if_false,this];simp
theorem w9{α:Type}(l l':List α)(f:α->α){o:Nat}(h:l.length<=o):(l++l').modify o f=l++l'.modify (o-l.length) f:=by
 apply oEG;intro i;simp only[oGM,List.getElem?_append];by_cases hi:i<l.length;have:¬o=i:=by omega
 simp only[hi,if_true,this,if_false];simp;have:(o=i)↔(o-l.length=i-l.length):=by omega
 simp only[hi,if_false,this]
theorem Qx:∀{t:CT}{o:Nat},X.only t o=true->∀(x:den t)(c:TV),(AA t x).modify o (λ_=>c)=(enc t x).modify o λ_=>c:=by
 intro t;induction t with
 |pair a b ZF ZC=>intro o h x c;show(AA a x.1++AA b x.2).modify o _=(enc a x.1++enc b x.2).modify o _;simp only[X.only]at h;split at h;rename_i ho;simp only[oBA]at h;rw[AM _ _ _ (by rw[nb];exact ho),AM _ _ _ (by rw[ii];exact ho),ZF h.1,IC h.2];rename_i ho;simp only[oBA]at h;rw[w9 _ _ _ (by rw[nb];omega),w9 _ _ _ (by rw[ii];omega),nb,ii,ZC h.2,IC h.1]|row ow t ih=>intro o h x c;cases o with|succ o=>simp[X.only]at h|zero=>cases ow<;>rfl
 |_=>intro o h;simp[X.only]at h
theorem OW{t:CT}{xs:List (den t)}{m o:Nat}{f:den t->den t}{c:TV}(ho:X.only t o=true)(hf:∀x,enc t (f x)=(enc t x).modify o λ_=>c):lu t (m+1) (xs.modify m f)=(lu t m xs).modify m λel=>el.modify o λ_=>c:=by apply oEG;intro i;rw[oA,oGM,oGM,oA];cases xs[i]? with|none=>simp|some x=>by_cases h:m=i;subst h;simp only[if_true];show some (if m<m+1 then enc t (f x)else AA t (f x))=some ((if m<m then enc t x else AA t x).modify o λ_=>c);rw[oIP (Nat.lt_succ_self m),oIN (Nat.lt_irrefl m),hf,Qx ho];by_cases h2:i<m;simp[h,h2,show i<m+1 by omega];simp[h,h2,show ¬i<m+1 by omega]
theorem O9:∀(t:CT)(o:Nat)(os:N_)(t':CT)(h:den t=den t')(x:den t),shT t o os=some t'->enc t' (cast h x)=(enc t x).modify o λy=>ir y os:=by
 intro t;induction t with
 |pair a b ZF ZC=>intro o os t' h x hs;simp only[shT]at hs;show _=(enc a x.1++enc b x.2).modify o λy=>ir y os;split at hs;rename_i ho;obtain⟨u,h1,rfl⟩:=kF hs;have ha:=iw (Je h1);have e:(cast h x:den (.pair u b))=((cast ha x.1,cast rfl x.2):den u×den b):=xJ ha rfl h x;rw[e];show enc u (cast ha x.1)++enc b x.2=_;rw[ZF o os u ha x.1 h1,AM _ _ _ (by rw[ii];exact ho)];rename_i ho;obtain⟨u,h1,rfl⟩:=kF hs;have hb:=iw (Je h1);have e:(cast h x:den (.pair a u))=((cast rfl x.1,cast hb x.2):den a×den u):=xJ rfl hb h x;rw[e];show enc a x.1++enc u (cast hb x.2)=_;rw[ZC _ os u hb x.2 h1,w9 _ _ _ (by rw[ii];omega),ii]|row ow t ih=>
 intro o os t' h x hs;have hl:(enc (.row ow t) x).length<=1:=by rw[ii];exact oLE _
 cases o with
  |succ o=>rw[yQ _ hl];cases ow<;>simp only[shT,oSJ]at hs<;>subst hs<;>rfl|zero=>
  cases os with
  |nil=>
  rw[<- yP _ hl];have e:t'=vI (.row ow t):=by cases ow<;>simp only[shT,oSJ]at hs<;>exact hs.symm
  subst e;exact Ge _ h x
  |cons o os=>cases ow with|false=>simp only[shT,oSJ]at hs;subst hs;rfl|true=>simp only[shT]at hs;obtain⟨u,h1,rfl⟩:=kF hs;have h':den t=den u:=iw (Je h1);have e:(cast h x:den (.row true u))=(List.map (cast h') (x:List (den t)):List (den u)):=Gr h' h x;rw[e];show[TV.ow (List.map (enc u) (List.map (cast h') (x:List (den t))))]=[TV.ow ((List.map (enc t) (x:List (den t))).map λel=>el.modify o λt=>ir t os)];rw[oPM,oPM];congr 2;exact List.map_congr_left λy _=>ih o os u h' y h1
 |nilr ow=>
 intro o os t' h x hs;have hl:(enc (.nilr ow) x).length<=1:=by rw[ii];exact oLE _
 cases o with|succ o=>rw[yQ _ hl];simp only[shT,oSJ]at hs;subst hs;rfl|zero=>cases os with|nil=>rw[<- yP _ hl];simp only[shT,oSJ]at hs;subst hs;exact Ge _ h x|cons o os=>simp only[shT,oSJ]at hs;subst hs;cases ow<;>rfl
 |_=>intro o os t' h x hs;cases o with|succ o=>rw[yQ _ (by rw[ii];simp[jV])];simp only[shT,oSJ]at hs;subst hs;rfl|zero=>cases os with|nil=>rw[<- yP _ (by rw[ii];simp[jV])];simp only[shT,oSJ]at hs;subst hs;exact Ge _ h x|cons o os=>simp only[shT,oSJ]at hs;subst hs;rfl
theorem Be{x y:XV den}{os:N_}(h:X.shareX fU x os=some y):er y=ir (er x) os:=by
 unfold X.shareX at h;split at h;rename_i t xs;split at h;rename_i t' hs;split at h;rename_i hsim;injection h with h
 subst h;have:=O9 t 0 os t' (iw hsim) xs hs;show er1 t' (cast (iw hsim) xs)=ir (er1 t xs) os;cases ht:X.oneT t with
 |true=>
  have ZU:X.oneT t'=true:=by cases t<;>simp[X.oneT]at ht<;>cases t'<;>simp[j6]at hsim<;>rfl
  rw[ul ht,ul ZU]at this;simpa using this
 |false=>cases t<;>simp[X.oneT]at ht<;>cases t'<;>simp[j6]at hsim<;>cases os<;>rfl
 simp at h;simp at h;simp at h
theorem O0{Y:Type}:∀{hs:List (den .nat×Nat×Nat)}{tv:XV den}{k:XV den->Option Y}{o:Y},X.getX fU tv hs k=some o->∃v,gE (er tv) hs=some (er v)/\k v=some o:=by
 intro hs;induction hs with
 |nil=>intro tv k o h;exact⟨tv,rfl,h⟩|cons h1 hs ih=>
 intro tv k o h;obtain⟨i,sz,off⟩:=h1;unfold X.getX at h;split at h;rename_i heq;cases heq;rename_i t xs i' sz' o' hs' heq;injection heq with e1 e2
 injection e1 with e3 e4
 injection e4 with e4 e5
 subst e3;subst e4;subst e5;subst e2;split at h;rename_i hsz;obtain⟨e,he,h2⟩:=gd (show(fR xs i).bind _=some o from h);split at h2;rename_i v hv;obtain⟨w,hw,hk⟩:=ih h2;refine⟨w,?_,hk⟩;have h3:(List.map (enc t) xs)[i]?=some (enc t e):=by have:xs[i]?=some e:=he;rw[oGP,this];rfl
 show(match(List.map (enc t) xs)[i]? with|some el=>if el.length=sz then(match el[off]? with|some t=>gE t hs|none=>none)else none|none=>none)=_;rw[h3];simp only[ii,hsz,if_true,tW hv];exact hw;cases h2;cases h;rename_i t xs m i' sz' o' hs' heq;injection heq with e1 e2
 injection e1 with e3 e4
 injection e4 with e4 e5
 subst e3;subst e4;subst e5;subst e2;split at h;rename_i hh;have h:fU.br (iK m i i) _ none=some o:=h;cases hc:iK m i i with
 |false=>rw[hc]at h;cases h|true=>
  rw[hc]at h;obtain⟨e,he,h2⟩:=gd (show(fR xs i).bind _=some o from h);have he:xs[i]?=some e:=he;have hm:Nat.le m i:=by have h:=hc;simp only[iK,oLE,decide_true,Bool.and_true,oDE]at h;exact h
  split at h2;rename_i v hv;obtain⟨w,hw,hk⟩:=ih h2;refine⟨w,?_,hk⟩;show(match(lu t m xs)[i]? with|some el=>if el.length=sz then(match el[off]? with|some t=>gE t hs|none=>none)else none|none=>none)=_;rw[oA,he];simp only[oMS];rw[oIN (Nat.not_lt.2 hm)];simp only[nb,hh,if_true,DM hv];exact hw;cases h2
 cases h;cases h
theorem wV{G:(u:CT)->Option (den u->den u)}{φ:TV->TV}(hG:∀u h,G u=some h->X.oneT u=true->∀x,er1 u (h x)=φ (er1 u x)):∀{t:CT}{o:Nat}{g:den t->den t},X.setD fU t o G=some g->∀x,enc t (g x)=(enc t x).modify o φ:=by intro t;induction t with|pair a b ZF ZC=>intro o g h x;simp only[X.setD]at h;show _=(enc a x.1++enc b x.2).modify o φ;split at h;rename_i ho;obtain⟨f,h1,rfl⟩:=kF h;show enc a (f x.1)++enc b x.2=_;rw[ZF h1,AM _ _ _ (by rw[ii];exact ho)];rename_i ho;obtain⟨f,h1,rfl⟩:=kF h;show enc a x.1++enc b (f x.2)=_;rw[ZC h1,w9 _ _ _ (by rw[ii];omega),ii]|nat=>intro o g h;simp[X.setD]at h|_=>intro o g h x;cases o with|succ o=>simp[X.setD]at h|zero=>simp only[X.setD]at h;have h1:=hG _ g h rfl x;refine(ul rfl (g x)).trans ?_;rw[h1];exact(congrArg (λl=>List.modify l 0 φ) (ul rfl x)).symm
theorem IU{v:XV den}{u:CT}{f:den u->den u}(h:X.asF fU v u=some f)(x:den u):er1 u (f x)=er v:=by unfold X.asF at h;split at h;obtain⟨y,h1,rfl⟩:=kF h;exact Ll h1;simp at h
theorem Jh:∀{hs:List (den .nat×Nat×Nat)}{v:XV den}{u:CT}{f:den u->den u},X.setH fU hs v u=some f->∀x,er1 u (f x)=iH (er1 u x) hs (er v):=by
 intro hs;induction hs with
 |nil=>intro v u f h x;exact IU h x|cons h1 hs ih=>
 intro v u f h x;obtain⟨i,sz,o⟩:=h1;cases u with
 |row ow t=>cases ow with
  |false=>simp[X.setH]at h|true=>
  simp only[X.setH]at h;split at h;rename_i hsz;obtain⟨g,hg,rfl⟩:=kF h;have:=wV (φ:=λt1=>iH t1 hs (er v)) (λu h hu _ x=>ih hu x) hg;show TV.ow (List.map (enc t) (List.modify (x:List (den t)) i g))=TV.ow ((List.map (enc t) x).modify i λel=>el.modify o λt1=>iH t1 hs (er v));congr 1;apply oEG;intro j;simp only[oGP,oGM];by_cases hij:i=j;simp only[hij,if_true];cases(x:List (den t))[j]? with|none=>rfl|some e=>exact congrArg some (this e)
  simp only[hij,if_false];simp;simp at h
 |_=>simp[X.setH]at h
theorem SM{tv v w:XV den}{hs:List (den .nat×Nat×Nat)}(h:X.setX fU tv hs v=some w):er w=iH (er tv) hs (er v):=by
 unfold X.setX at h;split at h;injection h with h;subst h;rfl
 obtain⟨f,h1,rfl⟩:=kF h;exact Jh h1 _;simp at h
theorem AX{α β:Type}(l:List (Nat×α))(f:α->β)(i:Nat):gD (l.map λx=>(x.1,f x.2)) i=(gD l i).map f:=by induction l with|nil=>rfl|cons x r ih=>simp[gD];split<;>simp_all
theorem ra{α β:Type}(l:List (Nat×α))(f:α->β)(i:Nat)(v:α):iJ (l.map λx=>(x.1,f x.2)) i (f v)=(iJ l i v).map λx=>(x.1,f x.2):=by induction l with|nil=>rfl|cons x r ih=>simp[iJ];split;simp;simp_all
theorem Rb(σ:XS den)(i:Nat):(erS σ).t i=er (X.tOf σ i):=by unfold St.t X.tOf erS;simp[AX];cases gD σ.tm i<;>rfl
theorem B7(σ:XS den)(r o:Nat):(erS σ).c r o=er (X.cOf σ r o):=by unfold St.c X.cOf erS erC;simp[AX];cases gD σ.ce r with|none=>rfl|some l=>exact(xG l o).symm
theorem zH(σ:XS den)(r:Nat):gD (erS σ).ce r=(gD σ.ce r).map erL:=AX _ _ _
structure rR (σ σ':XS den)(f:vm):Prop where
 r:∀x∈f.1,x∈σ'.lg.1
 w:∀x∈f.2,x∈σ'.lg.2
 r0:∀x∈σ.lg.1,x∈σ'.lg.1
 w0:∀x∈σ.lg.2,x∈σ'.lg.2
theorem rR.refl(σ:XS den):rR σ σ ([],[]):=⟨λx h=>by simp at h,λx h=>by simp at h,λ_ h=>h,λ_ h=>h⟩
theorem rR.by{σ σ':XS den}{f:vm}(R W:List Loc)(e1:σ'.lg.1=R++σ.lg.1)(e2:σ'.lg.2=W++σ.lg.2)(h1:f.1=R)(h2:f.2=W):rR σ σ' f:=⟨λx h=>by simp_all,λx h=>by simp_all,λx h=>by simp_all,λx h=>by simp_all⟩
def Sim{α β Y:Type}(m:XM den Option Y α)(s:SP β)(f:α->β):Prop:=∀(σ:XS den)(k:α->XS den->Option Y)(o:Y),m σ k=some o->∃a σ',s.run (erS σ)=some (f a,erS σ')/\rR σ σ' (s.foot (erS σ))/\k a σ'=some o
theorem gz{α β:Type}(s:SP α)(g:α->SP β):∀{σ σ1:St}{a:α},s.run σ=some (a,σ1)->(s.bind g).foot σ=((s.foot σ).1++((g a).foot σ1).1,(s.foot σ).2++((g a).foot σ1).2):=by induction s with|ret a=>intro σ σ1 b h;obtain⟨rfl,rfl⟩:=h;simp[SP.bind,SP.foot]|fail=>intro σ σ1 b h;simp[SP.run]at h|rdT i k ih=>intro σ σ1 b h;simp only[SP.bind,SP.foot];rw[ih _ h];simp|rdC r o k ih=>intro σ σ1 b h;simp only[SP.bind,SP.foot];rw[ih _ h];simp|rdH r o k ih=>intro σ σ1 b h;simp only[SP.bind,SP.foot];rw[ih _ h];simp|rdV q k ih=>intro σ σ1 b h;simp only[SP.bind,SP.foot];rw[ih _ h];simp|wrT i t k ih=>intro σ σ1 b h;simp only[SP.bind,SP.foot];rw[ih h];simp|wrC r o t k ih=>intro σ σ1 b h;obtain⟨l,hl,ho,h2⟩:=gG h;simp[SP.bind,SP.foot,hl,ho,if_true];rw[ih h2];simp|new r l k ih=>intro σ σ1 b h;simp[SP.bind,SP.foot];rw[ih h];simp|bump q k ih=>intro σ σ1 b h;simp[SP.bind,SP.foot];rw[ih h];simp
section
variable {α β γ δ Y:Type}
theorem Sim.ret{a:α}{b:β}{f:α->β}(h:f a=b):Sim (Y:=Y) (X.ret a) (.ret b) f:=fun σ k o hk=>⟨a,σ,by rw[h];rfl,rR.refl σ,hk⟩
theorem Sim.fail{s:SP β}{f:α->β}:Sim (Y:=Y) (X.fail fU) s f:=fun σ k o hk=>by cases hk
theorem Sim.bind{m:XM den Option Y α}{s:SP β}{f:α->β}{g:α->XM den Option Y γ}{h:β->SP δ}{f':γ->δ}(h1:Sim m s f)(h2:∀a,Sim (g a) (h (f a)) f'):Sim (X.bind m g) (s.bind h) f':=by intro σ k o hk;have ⟨a,σ1,r1,n1,k1⟩:=h1 σ _ o hk;have ⟨c,σ2,r2,n2,k2⟩:=h2 a σ1 k o k1;refine⟨c,σ2,by rw[SP.run_bind,r1];exact r2,?_,k2⟩;rw[gz s h r1];refine⟨λx hx=>?_,λx hx=>?_,λx hx=>n2.r0 x (n1.r0 x hx),λx hx=>n2.w0 x (n1.w0 x hx)⟩;rcases oMA.1 hx with hx|hx;exact n2.r0 x (n1.r x hx);exact n2.r x hx;rcases oMA.1 hx with hx|hx;exact n2.w0 x (n1.w x hx);exact n2.w x hx
theorem Sim.map{m:XM den Option Y α}{s:SP β}{f f':α->β}(h:Sim m s f)(e:∀a,f a=f' a):Sim m s f':=by have:=funext e;simp_all
theorem Sim.opt{o:Option α}{g:α->XM den Option Y γ}{s:SP δ}{f:γ->δ}(h:∀a,o=some a->Sim (g a) s f):Sim (X.bind (X.optM fU o) g) s f:=by intro σ k y hk;cases o with|none=>cases hk|some a=>exact h a rfl σ k y hk
theorem Sim.br{c:Bool}{m:XM den Option Y α}{s:SP β}{f:α->β}(h:c=true->Sim m s f):Sim (X.brM fU c m) s f:=by intro σ k y hk;cases c with|false=>cases hk|true=>exact h rfl σ k y hk
theorem Sim.get{ow:Bool}{t:CT}{xs:List (den t)}{i:Nat}{g:den t->XM den Option Y γ}{s:SP δ}{f:γ->δ}(h:∀e,xs[i]?=some e->Sim (g e) s f):Sim (X.atM fU ow t xs i g) s f:=by intro σ k y hk;have ⟨e,h1,h2⟩:=gd (show(fR xs i).bind _=some y from hk);exact h e h1 σ k y h2
theorem Sim.nat{kd:IntKind}{n:Int}{g:Nat->XM den Option Y γ}{s:SP δ}{f:γ->δ}(h:∀m:Nat,n=m->Sim (g m) s f):Sim (X.natM fU kd n g) s f:=by intro σ k y hk;have ⟨e,h1,h2⟩:=gd (show(gg n).bind _=some y from hk);refine h e ?_ σ k y h2;cases n with|ofNat m=>simp[gg]at h1;rw[h1];rfl|negSucc m=>simp[gg]at h1
theorem Sim.ite{c:Prop}[Decidable c]{m m':XM den Option Y α}{s:SP β}{f:α->β}(h:c->Sim m s f)(h':¬c->Sim m' s f):Sim (if c then m else m') s f:=by grind
theorem Hn{Y:Type}:∀(l:List (XV den))(k:List (XV den)->Option Y),X.letL fU l k=k l:=by intro l;induction l with|nil=>intro k;rfl|cons x r ih=>intro k;cases x<;>first|exact ih _|(simp;exact ih _)
theorem ua{Y:Type}(t:XV den)(k:XV den->Option Y):X.letX fU t k=k t:=by cases t with|agg l=>exact Hn l _|_=>rfl
theorem Nd(i:Nat):Sim (Y:=Y) (X.rdT i) (.rdT i .ret) er:=fun σ k o hk=>⟨X.tOf σ i,X.lgR (.t i) σ,by simp only[SP.run];rw[Rb];rfl,.by [.t i] [] rfl rfl rfl rfl,hk⟩
theorem Ng(r o:Nat):Sim (Y:=Y) (X.rdC r o) (.rdC r o .ret) er:=fun σ k y hk=>⟨X.cOf σ r o,X.lgR (.c r o) σ,by simp only[SP.run];rw[B7];rfl,.by [.c r o] [] rfl rfl rfl rfl,hk⟩
theorem Nc(q:Key):Sim (Y:=Y) (X.rdV q) (.rdV q .ret) id:=fun σ k o hk=>⟨nw σ.vr q,X.lgR (.v q) σ,rfl,.by [.v q] [] rfl rfl rfl rfl,hk⟩
theorem A8(i:Nat)(t:XV den):Sim (Y:=Y) (X.wrT fU i t) (.wrT i (er t) (.ret ())) id:=fun σ k o hk=>by
 unfold X.wrT at hk;rw[ua]at hk;refine⟨(),⟨iJ σ.tm i t,σ.ce,σ.vr,(σ.lg.1,.t i :: σ.lg.2)⟩,?_,.by [] [.t i] rfl rfl rfl rfl,hk⟩;simp[SP.run,erS];rw[ra]
theorem Nf(r o:Nat):Sim (Y:=Y) (X.rdK r o) (.rdH r o .ret) λv=>(er v).hd:=fun σ k y hk=>⟨X.cOf σ r o,X.lgR (.h r o) σ,by simp only[SP.run];rw[B7];rfl,.by [.h r o] [] rfl rfl rfl rfl,hk⟩
theorem Tk{r o:Nat}{t t':TV}{x:Loc}(h:x∈hdW r o t t'):x=.h r o:=by unfold hdW at h;simp_all
def oQ{α β Y:Type}(σ:XS den)(m:XM den Option Y α)(s:SP β)(f:α->β):Prop:=∀(k:α->XS den->Option Y)(o:Y),m σ k=some o->∃a σ',s.run (erS σ)=some (f a,erS σ')/\rR σ σ' (s.foot (erS σ))/\k a σ'=some o
theorem oQ.bind{σ:XS den}{m:XM den Option Y α}{s:SP β}{f:α->β}{g:α->XM den Option Y γ}{h:β->SP δ}{f':γ->δ}(h1:oQ σ m s f)(h2:∀a,Sim (g a) (h (f a)) f'):oQ σ (X.bind m g) (s.bind h) f':=by intro k o hk;have ⟨a,σ1,r1,n1,k1⟩:=h1 _ o hk;have ⟨c,σ2,r2,n2,k2⟩:=h2 a σ1 k o k1;refine⟨c,σ2,by rw[SP.run_bind,r1];exact r2,?_,k2⟩;rw[gz s h r1];refine⟨λx hx=>?_,λx hx=>?_,λx hx=>n2.r0 x (n1.r0 x hx),λx hx=>n2.w0 x (n1.w0 x hx)⟩;rcases oMA.1 hx with hx|hx;exact n2.r0 x (n1.r x hx);exact n2.r x hx;rcases oMA.1 hx with hx|hx;exact n2.w0 x (n1.w x hx);exact n2.w x hx
theorem oQ.opt{σ:XS den}{o:Option α}{g:α->XM den Option Y γ}{s:SP δ}{f:γ->δ}(h:∀a,o=some a->oQ σ (g a) s f):oQ σ (X.bind (X.optM fU o) g) s f:=by intro k y hk;cases o with|none=>cases hk|some a=>exact h a rfl k y hk
theorem GF{r o:Nat}{g:XV den->XM den Option Y γ}{h:TV->SP δ}{f:γ->δ}(H:∀ σ tv,(erS σ).c r o=er tv->oQ σ (g tv) (h (er tv)) f):Sim (X.bind (X.rdC r o) g) (.rdC r o h) f:=by intro σ k y hk;have ⟨a,σ',h1,h2,h3⟩:=H (X.lgR (.c r o) σ) (X.cOf σ r o) (B7 σ r o) k y hk;refine⟨a,σ',by simp[SP.run];rw[B7];exact h1,⟨λx hx=>?_,λx hx=>?_,λx hx=>h2.r0 x (by simp[X.lgR,hx]),λx hx=>h2.w0 x hx⟩,h3⟩;simp[SP.foot]at hx;rcases hx with rfl|hx;exact h2.r0 _ (by simp[X.lgR]);rw[B7]at hx;exact h2.r x hx;simp[SP.foot]at hx;rw[B7]at hx;exact h2.w x hx
theorem oQ.wrI{σ:XS den}{r o:Nat}{t:XV den}(hh:(er t).hd=((erS σ).c r o).hd):oQ (Y:=Y) σ (X.wrI fU r o t) (.wrC r o (er t) (.ret ())) id:=λk y hk=>by
 unfold X.wrI at hk;split at hk
 ·rename_i l hl;split at hk
  ·rename_i ho;rw[ua]at hk
   have YG:gD (erS σ).ce r=some (erL l):=by rw[zH,hl];rfl
   have Zv:o<(erL l).length:=by rw[iI];exact ho
   refine⟨(),⟨σ.tm,iJ σ.ce r (l.set o t),σ.vr,(.n r :: .h r o :: σ.lg.1,.c r o :: σ.lg.2)⟩,?_,.by [.n r,.h r o] [.c r o] rfl rfl (by simp[SP.foot,YG,Zv]) (by simp[SP.foot,YG,Zv,hdW,oIP hh]),hk⟩;simp[SP.run,YG,Zv];unfold erS erC;rw[<- wG,ra]
  ·cases hk
 ·cases hk
theorem M6(r o:Nat)(t:XV den):Sim (Y:=Y) (X.wrC fU r o t) (.wrC r o (er t) (.ret ())) id:=fun σ k y hk=>by
 unfold X.wrC at hk;split at hk
 ·rename_i l hl;split at hk
  ·rename_i ho;rw[ua]at hk
   have YG:gD (erS σ).ce r=some (erL l):=by rw[zH,hl];rfl
   have Zv:o<(erL l).length:=by rw[iI];exact ho
   refine⟨(),⟨σ.tm,iJ σ.ce r (l.set o t),σ.vr,(.n r :: .h r o :: σ.lg.1,.c r o :: .h r o :: σ.lg.2)⟩,?_,⟨λx hx=>?_,λx hx=>?_,λx hx=>by simp[hx],λx hx=>by simp[hx]⟩,hk⟩
   rotate_left
   ·simp[SP.foot,YG,Zv,or_false]at hx
    rcases hx with rfl|rfl<;>simp
   ·simp[SP.foot,YG,Zv,if_true,or_false]at hx;rcases hx with rfl|hx
    ·simp
    ·simp[Tk hx]
   simp[SP.run,YG,Zv,if_true,id_eq];unfold erS erC;rw[<- wG,ra]
  ·cases hk
 ·cases hk
theorem Sw(r:Nat)(l:List (XV den)):Sim (Y:=Y) (X.new fU r l) (.new r (erL l) (.ret ())) id:=fun σ k y hk=>by
 unfold X.new at hk;rw[Hn]at hk;refine⟨(),⟨σ.tm,iJ σ.ce r l,tA σ.vr (r,0,0),(.v (r,0,0) :: σ.lg.1,.n r :: .v (r,0,0) :: σ.lg.2)⟩,?_,.by [.v (r,0,0)] [.n r,.v (r,0,0)] rfl rfl rfl rfl,hk⟩;simp[SP.run,erS,erC];rw[ra]
theorem KI(q:Key):Sim (Y:=Y) (X.bump q) (.bump q (.ret ())) id:=fun σ k y hk=>⟨(),⟨σ.tm,σ.ce,tA σ.vr q,(.v q :: σ.lg.1,.v q :: σ.lg.2)⟩,rfl,.by [.v q] [.v q] rfl rfl rfl rfl,hk⟩
theorem AV(x:Value):er (X.cellX fU x)=iL x:=by
 unfold X.cellX;split;rfl;rfl;rfl;rfl;rename_i h1 h2 h3 h4;have:iL x=if kn x then .v x else .dead:=by unfold iL;simp_all
 rw[this];split<;>rfl
theorem Pd(x:Value):er (X.constX fU x)=yO x:=by unfold X.constX;split;simp[er,kV];congr 1;exact List.map_congr_left λy _=>AV y;rename_i h;rw[AV];unfold yO;simp_all
theorem Ba(x:Opd):Sim (Y:=Y) (X.opd fU x) (opd x) er:=by cases x with|t i=>exact Nd i|c x=>exact .ret (Pd x)|f f=>exact .ret rfl
theorem wU:∀qs:List Key,Sim (Y:=Y) (X.rdVs qs) (rdVs qs) id:=by intro qs;induction qs with|nil=>exact .ret rfl|cons q qs ih=>exact(Nc q).bind λn=>ih.bind λl=>.ret rfl
theorem iP(p:XP den)(n:Nat)(vs:N_):Sim (Y:=Y) (X.chk fU p n vs) (chk (erP p) n vs) id:=by refine(wU _).bind λl=>?_;refine Sim.ite (λh=>?_) λh=>.fail;rw[oIP (by exact h)];exact .ret rfl
theorem J6(p:XP den)(n:Nat):erP (X.addP p n)=(erP p).add n:=by unfold X.addP gf.add erP;cases h:List.reverse p.hops with|nil=>rfl|cons x r=>rfl
theorem Gd(p:XP den)(n:Nat):X.fitsP p n=(erP p).fits n:=by unfold X.fitsP gf.fits erP;grind
theorem AE{tv:XV den}{hs:List (den .nat×Nat×Nat)}{g:XV den->XM den Option Y γ}{s:SP δ}{f:γ->δ}(h:∀v,gE (er tv) hs=some (er v)->Sim (g v) s f):Sim (X.getM fU tv hs g) s f:=by intro σ k y hk;have ⟨v,h1,h2⟩:=O0 hk;exact h v h1 σ k y h2
theorem oQ.getX{σ:XS den}{tv:XV den}{hs:List (den .nat×Nat×Nat)}{g:XV den->XM den Option Y γ}{s:SP δ}{f:γ->δ}(h:∀v,gE (er tv) hs=some (er v)->oQ σ (g v) s f):oQ σ (X.getM fU tv hs g) s f:=by intro k y hk;have ⟨v,h1,h2⟩:=O0 hk;exact h v h1 k y h2
theorem oQ.ite{σ:XS den}{c:Prop}[Decidable c]{m m':XM den Option Y α}{s:SP β}{f:α->β}(h:c->oQ σ m s f)(h':¬c->oQ σ m' s f):oQ σ (if c then m else m') s f:=by grind
theorem lH(p:XP den):Sim (Y:=Y) (X.getPl fU p) (getPl (erP p)) er:=by refine(Ng p.root p.off).bind λtv=>?_;refine AE λv hv=>?_;show Sim _ (match gE (er tv) p.hops with|some t=>.ret t|none=>.fail) er;have:=hv;rw[this];exact .ret rfl
theorem KD(p:XP den):Sim (Y:=Y) (X.hdPl fU p) (Tl (erP p)) λv=>(er v).hd:=by have ⟨r,o,hs⟩:=p;cases hs with|nil=>exact Nf r o|cons h hs=>intro σ k y hk;have ⟨a,σ',h1,h2,h3⟩:=lH ⟨r,o,h::hs⟩ σ k y hk;refine⟨a,σ',?_,?_,h3⟩;show((getPl (erP ⟨r,o,h::hs⟩)).bind λt=>.ret t.hd).run (erS σ)=_;rw[SP.run_bind,h1];rfl;show rR σ σ' (((getPl (erP ⟨r,o,h::hs⟩)).bind λt=>.ret t.hd).foot (erS σ));rw[gz _ _ h1];simpa[SP.foot]using h2
end
section
variable {α β γ δ Y:Type}
theorem Sim.rdT{i:Nat}{g:XV den->XM den Option Y γ}{h:TV->SP δ}{f:γ->δ}(H:∀t,Sim (g t) (h (er t)) f):Sim (X.bind (X.rdT i) g) (.rdT i h) f:=(Nd i).bind H
theorem Sim.rdC{r o:Nat}{g:XV den->XM den Option Y γ}{h:TV->SP δ}{f:γ->δ}(H:∀t,Sim (g t) (h (er t)) f):Sim (X.bind (X.rdC r o) g) (.rdC r o h) f:=(Ng r o).bind H
theorem Sim.rdK{r o:Nat}{g:XV den->XM den Option Y γ}{h:Option N_->SP δ}{f:γ->δ}(H:∀t,Sim (g t) (h (er t).hd) f):Sim (X.bind (X.rdK r o) g) (.rdH r o h) f:=(Nf r o).bind H
theorem Sim.rdV{q:Key}{g:Nat->XM den Option Y γ}{h:Nat->SP δ}{f:γ->δ}(H:∀t,Sim (g t) (h t) f):Sim (X.bind (X.rdV q) g) (.rdV q h) f:=(Nc q).bind H
theorem Sim.wrT{i:Nat}{t:XV den}{t':TV}{g:Unit->XM den Option Y γ}{h:SP δ}{f:γ->δ}(e:er t=t')(H:Sim (g ()) h f):Sim (X.bind (X.wrT fU i t) g) (.wrT i t' h) f:=by subst e;exact(A8 i t).bind (h:=λ_=>h) λ_=>H
theorem Sim.wrC{r o:Nat}{t:XV den}{t':TV}{g:Unit->XM den Option Y γ}{h:SP δ}{f:γ->δ}(e:er t=t')(H:Sim (g ()) h f):Sim (X.bind (X.wrC fU r o t) g) (.wrC r o t' h) f:=by subst e;exact(M6 r o t).bind (h:=λ_=>h) λ_=>H
theorem Sim.new{r:Nat}{l:List (XV den)}{l':U_}{g:Unit->XM den Option Y γ}{h:SP δ}{f:γ->δ}(e:erL l=l')(H:Sim (g ()) h f):Sim (X.bind (X.new fU r l) g) (.new r l' h) f:=by subst e;exact(Sw r l).bind (h:=λ_=>h) λ_=>H
theorem Sim.bump{q:Key}{g:Unit->XM den Option Y γ}{h:SP δ}{f:γ->δ}(H:Sim (g ()) h f):Sim (X.bind (X.bump q) g) (.bump q h) f:=(KI q).bind (h:=λ_=>h) λ_=>H
theorem OV{α:Type}(c:List (List α))(i o:Nat)(f:α->α):(c.modify i λel=>el.modify o f).map List.length=c.map List.length:=by apply oEG;intro j;by_cases h:i=j;simp;grind;simp[h]
theorem JL{tv:TV}{hs:L_}{t:TV}(h:hs≠[]):(iH tv hs t).hd=tv.hd:=by cases hs with|nil=>simp_all|cons x hs=>cases tv with|ow c=>simp[iH,TV.hd,OV]|_=>rfl
theorem OU{tv:TV}{os:N_}(h:os≠[]):(ir tv os).hd=tv.hd:=by cases os with|nil=>simp_all|cons o os=>cases tv with|ow c=>simp only[ir,TV.hd];simp_all|_=>rfl
theorem AO{r o:Nat}{tv:TV}{hs:L_}{t:TV}(h:hs≠[]):hdW r o tv (iH tv hs t)=[]:=by unfold hdW;rw[oIP (JL h)]
theorem Tj{x:XV den}(h:X.isOwX x=false)(h2:nM (er x)=X.isOwX x):(er x).hd=none:=by rw[h]at h2;cases hx:er x<;>first|rfl|(rw[hx]at h2;simp[nM]at h2)
theorem vi(x:XV den):nM (er x)=X.isOwX x:=by
 cases x with
 |d t y=>cases t with|row o t=>cases o<;>rfl|nilr o=>cases o<;>rfl|_=>rfl
 |_=>rfl
theorem uh(x:XV den):tG (er x)=X.isHdrX x:=by
 cases x with
 |d t y=>cases t with|row o t=>cases o<;>rfl|nilr o=>cases o<;>rfl|_=>rfl
 |_=>rfl
theorem L8{x:XV den}(h:X.okCellX x=true):is (er x)=true:=by
 cases x with
 |d t y=>cases t with
  |row o t=>cases o<;>first|rfl|simp[X.okCellX]at h
  |nilr o=>cases o<;>rfl|nat=>simp[X.okCellX]at h|pair a b=>simp[X.okCellX]at h|_=>rfl
 |k y=>rfl|_=>simp[X.okCellX]at h
theorem t7{x:XV den}(h:X.okCellX x=true)(h2:X.isOwX x=false):(∃y,er x=.v y)\/∃c,er x=.sl c:=by
 cases x with
 |d t y=>cases t with
  |int k=>exact .inl ⟨_,rfl⟩|bool=>exact .inl ⟨_,rfl⟩|str=>exact .inl ⟨_,rfl⟩|row o t=>cases o<;>first|exact .inr ⟨_,rfl⟩|simp[X.okCellX]at h
  |nilr o=>cases o<;>first|exact .inr ⟨_,rfl⟩|simp[X.isOwX,X.isOwT]at h2
  |nat=>simp[X.okCellX]at h|pair a b=>simp[X.okCellX]at h
 |k y=>exact .inl ⟨_,rfl⟩|_=>simp[X.okCellX]at h
theorem QW{x:XV den}(h:X.immCX x=true):RV (er x)=true:=by
 have key:(X.okCellX x && !X.isOwX x)=true->RV (er x)=true:=λh=>by simp at h;rcases t7 h.1 h.2 with⟨y,hy⟩|⟨c,hc⟩;rw[hy];rfl;rw[hc];rfl
 cases x with|ip cs=>rfl|_=>exact key h
theorem K0{l:List (XV den)}(h:l.all X.immCX=true):(erL l).all RV=true:=by rw[kV,List.all_map,oAE];rw[oAE]at h;exact λx hx=>QW (h x hx)
theorem pB{v:XV den}(h:X.isOwX v=true):∃c,er v=.ow c:=by
 rw[<- vi]at h;cases hv:er v<;>rw[hv]at h<;>simp[nM]at h
 simp_all
theorem Ty{p:XP den}(h:XP.bare p=true):(erP p).hops=[]:=by have ⟨r,o,hs⟩:=p;cases hs with|nil=>rfl|cons=>simp[XP.bare]at h
theorem Sf{lo n:Nat}{v w:XV den}(h:X.winX fU lo n v=some w):∃c,er v=.ow c/\er w=.sl (((c.drop lo).take n).map λe=>e.map TV.imm):=by
 unfold X.winX at h;split at h;rename_i t xs;split at h;rename_i t' ys hi;injection h with h
 subst h;refine⟨_,rfl,?_⟩;have h1:=BE hi;have h2:TV.sl (List.map (enc t') (ys:List (den t')))=(TV.ow (List.map (enc t) (xs:List (den t)))).imm:=h1;rw[qu]at h2;show TV.sl (List.map (enc t') ((List.drop lo (ys:List (den t'))).take n))=_;simp_all;simp at h;injection h with h;subst h;exact⟨[],rfl,by simp[er,er1]⟩
 simp at h
theorem Tn{tv w:XV den}{hs:List (den .nat×Nat×Nat)}(h:X.gapX tv hs=some w):er w=iH (er tv) hs .dead:=by
 unfold X.gapX at h;split at h;injection h with h
 subst h;rfl;simp at h
theorem j5(mv:Bool)(x:XV den):Sim (Y:=Y) (X.take1 fU mv x) (take1 mv (er x)) er:=by
 cases x with
 |d t y=>cases t with
  |int k=>exact .ret rfl|bool=>exact .ret rfl|str=>exact .ret rfl|nat=>exact .fail|row o t=>cases o<;>first|exact .fail|exact .ret rfl
  |nilr o=>cases o<;>cases mv<;>exact .ret rfl|pair a b=>exact .fail
 |k y=>exact .ret rfl|pk p vs=>
 refine(iP p _ vs).bind λ_=>GF fun σ tv hσ=>oQ.getX λv hv=>?_;refine oQ.ite (λho=>?_) λ_=>Sim.fail σ;obtain⟨c,hc⟩:=pB ho;have YD:gE (er tv) (erP p).hops=some (.ow c):=by rw[<- hc];exact hv
 simp only[YD];cases mv with
  |true=>
  simp;refine oQ.ite (λhb=>?_) λhb=>?_;exact(show Sim _ _ _ from Sim.wrC (by rw[Ty hb];rfl) (Sim.bump (g:=λ_=>X.ret v) (.ret hc))) σ;refine oQ.opt λYf h1=>?_;have h3:=Tn h1;have hne:p.hops≠[]:=by obtain⟨r,o,hs⟩:=p;cases hs with|nil=>simp[XP.bare]at hb|cons=>simp
  have:=(oQ.wrI (Y:=Y) (σ:=σ) (o:=p.off) (t:=Yf) (by rw[h3,hσ,JL hne])).bind (g:=λ_=>X.bind (X.bump (p.root,p.off,p.hops.length+1)) λ_=>X.ret v) (h:=λ_=>.bump (p.root,p.off,p.hops.length+1) (.ret (TV.ow c))) (f':=er) λ_=>Sim.bump (.ret hc);rw[h3]at this;exact this
  |false=>
  refine oQ.opt λYf h1=>oQ.opt λv' h2=>?_;have hr:er v'=(TV.ow c).imm:=by rw[BE h2,hc]
  by_cases hb:XP.bare p=true;rw[oIP hb];exact(show Sim _ _ _ from Sim.wrC (Be h1) (Sim.bump (g:=λ_=>X.ret v') (.ret hr))) σ;rw[oIN hb];have h3:=Be h1;have hne:X.hopOs p.hops≠[]:=by obtain⟨r,o,hs⟩:=p;cases hs with|nil=>simp[XP.bare]at hb|cons=>simp[X.hopOs]
  have:=(oQ.wrI (Y:=Y) (σ:=σ) (o:=p.off) (t:=Yf) (by rw[h3,hσ,OU hne])).bind (g:=λ_=>X.bind (X.bump (p.root,p.off,p.hops.length+1)) λ_=>X.ret v') (h:=λ_=>.bump (p.root,p.off,p.hops.length+1) (.ret (TV.ow c).imm)) (f':=er) λ_=>Sim.bump (.ret hr);rw[h3]at this;exact this
 |pw p vs sz lo n=>
 refine(iP p _ vs).bind λ_=>Sim.rdC λtv=>AE λv hv=>?_;refine Sim.opt λYf h1=>Sim.opt λv' h2=>?_;obtain⟨c,hc,hw⟩:=Sf h2;have YD:gE (er tv) (erP p).hops=some (.ow c):=by rw[<- hc];exact hv
 simp only[YD];exact Sim.wrC (Be h1) (Sim.bump (.ret hw))
 |_=>exact .fail
theorem tY(mv:Bool):∀l:List (XV den),Sim (Y:=Y) (X.takeL fU mv l) (takeL mv (erL l)) erL:=by intro l;induction l with|nil=>exact .ret rfl|cons t r ih=>exact(j5 mv t).bind λt'=>ih.bind λr'=>.ret rfl
theorem Cj(t:XV den):rK (er t)=erL (X.cellsX t):=by
 cases t with
 |d t y=>cases t with|row o t=>cases o<;>rfl|nilr o=>cases o<;>rfl|_=>rfl
 |_=>rfl
theorem UI{t:XV den}:(∃l,t=.agg l)\/((∀l,t≠.agg l)/\∀l,er t≠.agg l):=by
 cases t with
 |agg l=>simp_all|d t y=>cases t with|row o t=>cases o<;>exact .inr ⟨by simp,by simp[er,er1]⟩|nilr o=>cases o<;>exact .inr ⟨by simp,by simp[er,er1]⟩|_=>exact .inr ⟨by simp,by simp[er,er1]⟩
 |gap t x i o=>exact .inr ⟨by simp,λl h=>by cases h⟩|half t x m=>exact .inr ⟨by simp,λl h=>by cases h⟩|_=>exact .inr ⟨by simp,by simp[er]⟩
theorem tX(mv:Bool)(t:XV den):Sim (Y:=Y) (X.takeV fU mv t) (takeV mv (er t)) λx=>(erL x.1,x.2):=by
 rcases UI (t:=t)with⟨l,rfl⟩|⟨h1,h2⟩;exact(tY mv l).bind λl'=>.ret rfl;have e1:X.takeV (X:=Y) fU mv t=X.bind (X.take1 fU mv t) λt'=>X.ret ([t'],false):=by unfold X.takeV;simp_all
 have e2:takeV mv (er t)=(take1 mv (er t)).bind λt'=>.ret ([t'],false):=by unfold takeV;simp_all
 rw[e1,e2];exact(j5 mv t).bind λt'=>.ret rfl
theorem P0(r:Nat):∀(l:List (XV den))(o:Nat),Sim (Y:=Y) (X.putB fU r o l) (putL ⟨r,o,[]⟩ (erL l)) id:=by
 intro l;induction l with
 |nil=>intro o;exact .ret rfl|cons t l ih=>
 intro o;have Yd:∀(g:Unit->XM den Option Y Unit)(s:SP Unit),Sim (g ()) s id->Sim (X.bind (X.rdC r o) λold=>X.bind (X.wrC fU r o t) λ_=>X.bind (if X.isHdrX old||X.isHdrX t then X.bump (r,o,1)else X.ret ()) g) ((wv ⟨r,o,[]⟩ (er t)).bind λ_=>s) id:=by intro g s hg;refine Sim.rdC λold=>?_;simp only[gE,uh];by_cases hh:(X.isHdrX old||X.isHdrX t)=true;rw[oIP hh,oIP hh];exact Sim.wrC rfl (Sim.bump hg);rw[oIN hh,oIN hh];exact Sim.wrC rfl ((Sim.ret (a:=()) (b:=()) (f:=id) rfl).bind λ_=>hg)
 cases l with|nil=>exact Yd _ (.ret ()) (.ret rfl)|cons u l=>exact Yd _ _ (ih (o+1))
def Sg(q:Key):Nat->m_->m_|0,v=>v|n+1,v=>Sg q n (tA v q)
theorem rQ{α:Type}(l:List (Nat×α))(i:Nat)(a:α):gD (iJ l i a) i=some a:=by rw[gN];simp
theorem yG{t:CT}(xs:List (den t))(i o:Nat)(f:den t->den t)(φ:TV->TV)(h:∀x,enc t (f x)=(enc t x).modify o φ):er1 (.row true t) (List.modify xs i f)=.ow ((List.map (enc t) xs).modify i λel=>el.modify o φ):=by
 show TV.ow (List.map (enc t) (List.modify xs i f))=_;congr 1;apply oEG;intro j;simp only[oGP,oGM];by_cases hij:i=j;simp;cases xs[j]? with|none=>rfl|some e=>simp_all
 simp_all
theorem HN{t:CT}(e e':den t):(X.splitX fU t e).map X.isHdrX=(X.splitX fU t e').map X.isHdrX:=by induction t with|pair a b ZF ZC=>simp[X.splitX];grind|_=>rfl
theorem Mp:∀(a a' l:List (XV den)),a.map X.isHdrX=a'.map X.isHdrX->X.hdrs a l=X.hdrs a' l:=by intro a;induction a with|nil=>simp_all|cons x a ih=>intro a' l h;cases a' with|nil=>simp at h|cons x' a'=>simp at h;cases l with|nil=>rfl|cons b l=>simp[X.hdrs];rw[h.1,ih a' l h.2]
def Bk(r off n:Nat)(f:vm):Prop:=(∀x∈f.1,x=.c r off\/(x=.n r\/x=.h r off)\/(x=.v (r,off,2)/\0<n))/\∀x∈f.2,x=.c r off\/(x=.v (r,off,2)/\0<n)
theorem N2{r off i sz o:Nat}{t:CT}(hsz:jV t=sz){v old:XV den}{f:den t->den t}{xs:List (den t)}{e:den t}{σ:St}{L:U_}(hf:X.setD fU t o (X.asF fU v)=some f)(he:xs[i]?=some e)(ZB:Jt (X.splitX fU t e) o=some old) (hc:σ.c r off=er1 (.row true t) xs)(hL:gD σ.ce r=some L)(ho:off<L.length):(wv ⟨r,off,[(i,sz,o)]⟩ (er v)).run σ=some ((),⟨σ.tm,iJ σ.ce r (L.set off (er1 (.row true t) (List.modify xs i f))),if X.isHdrX old||X.isHdrX v then tA σ.vr (r,off,2)else σ.vr⟩)/\Bk r off (if X.isHdrX old||X.isHdrX v then 1 else 0) ((wv ⟨r,off,[(i,sz,o)]⟩ (er v)).foot σ):=by
 have Z3:gE (er1 (.row true t) xs) [(i,sz,o)]=some (er old):=by
  have h3:(List.map (enc t) xs)[i]?=some (enc t e):=by simp_all
  show(match(List.map (enc t) xs)[i]? with|some el=>if el.length=sz then(match el[o]? with|some t=>gE t []|none=>none)else none|none=>none)=_;rw[h3];simp[ii,hsz,if_true,tW ZB];rfl
 have hset:iH (er1 (.row true t) xs) [(i,sz,o)] (er v)=er1 (.row true t) (List.modify xs i f):=by rw[yG xs i o f (λ_=>er v) (wV (λu h hu _ x=>IU hu x) hf)];rfl
 have hW:hdW r off (er1 (.row true t) xs) (er1 (.row true t) (List.modify xs i f))=[]:=by rw[<- hset];exact AO (by simp)
 unfold wv;simp only[SP.run,SP.foot,hc,Z3,uh,hset];by_cases hh:(X.isHdrX old||X.isHdrX v)=true
 ·rw[oIP hh,oIP hh,oIP hh,oIP (by simp)];simp only[SP.run,SP.foot,hL,ho,if_true,hc,hW];refine⟨rfl,λx hx=>?_,λx hx=>?_⟩
  ·simp at hx;rcases hx with h|h|h|h
   all_goals simp_all
  ·simp_all
 ·rw[oIN hh,oIN hh,oIN hh];simp only[SP.run,SP.foot,hL,ho,if_true,hc,hW];refine⟨by simp_all,λx hx=>?_,λx hx=>?_⟩
  all_goals simp_all
theorem S0{r off i sz:Nat}{t:CT}(hsz:jV t=sz):∀(l:List (XV den)){o:Nat}{f:den t->den t}{xs:List (den t)}{e:den t}{σ:St}{L:U_},X.setDs fU t o l=some f->xs[i]?=some e->o+l.length<=sz ->σ.c r off=er1 (.row true t) xs->gD σ.ce r=some L->off<L.length ->(putL ⟨r,off,[(i,sz,o)]⟩ (erL l)).run σ=some ((),⟨σ.tm,iJ σ.ce r (L.set off (er1 (.row true t) (List.modify xs i f))),Sg (r,off,2) (X.hdrs ((X.splitX fU t e).drop o) l) σ.vr⟩)/\Bk r off (X.hdrs ((X.splitX fU t e).drop o) l) ((putL ⟨r,off,[(i,sz,o)]⟩ (erL l)).foot σ):=by
 intro l;induction l with
 |nil=>intro o f xs e σ L h;simp[X.setDs]at h|cons v l ih=>
 intro o f xs e σ L hf he ho hc hL ZA;have hlen:(X.splitX fU t e).length=sz:=by rw[<- iI,wS,ii,hsz]
 simp only[oLC]at ho;obtain⟨old,ZB⟩:∃old,Jt (X.splitX fU t e) o=some old:=by rw[re];exact⟨_,oGE (by omega)⟩
 have hold2:(X.splitX fU t e).drop o=old::(X.splitX fU t e).drop (o+1):=by
  rw[re]at ZB;have ho3:o<(X.splitX fU t e).length:=by omega
  rw[List.drop_eq_getElem_cons ho3];rw[oGE ho3]at ZB;injection ZB with ZB
  rw[ZB]
 cases l with
 |nil=>
 obtain⟨h1,h2⟩:=N2 (r:=r) (off:=off) (i:=i) hsz hf he ZB hc hL ZA;have e1:X.hdrs ((X.splitX fU t e).drop o) [v]=if X.isHdrX old||X.isHdrX v then 1 else 0:=by rw[hold2];simp[X.hdrs]
 have e2:putL ⟨r,off,[(i,sz,o)]⟩ (erL [v])=(wv ⟨r,off,[(i,sz,o)]⟩ (er v)).bind λ_=>.ret ():=rfl;refine⟨?_,?_⟩;rw[e2,SP.run_bind,h1,e1];by_cases hh:(X.isHdrX old||X.isHdrX v)=true;rw[oIP hh,oIP hh];rfl;rw[oIN hh,oIN hh];rfl;rw[e2,gz _ _ h1,e1];simpa[SP.foot]using h2
 |cons w vs=>
 simp only[X.setDs]at hf;split at hf;case h_2=>simp at hf
 rename_i f1 g h1 h2;injection hf with hf
 subst hf;obtain⟨p1,p2⟩:=N2 (r:=r) (off:=off) (i:=i) hsz h1 he ZB hc hL ZA;have he1:(List.modify xs i f1)[i]?=some (f1 e):=by simp[oGM,he]
 have hofs:∀(vr:m_),(⟨σ.tm,iJ σ.ce r (L.set off (er1 (.row true t) (List.modify xs i f1))),vr⟩:St).c r off=er1 (.row true t) (List.modify xs i f1):=by intro vr;unfold St.c;simp only[rQ];simp[ZA]
 have hIH:=ih (o:=o+1) (σ:=⟨σ.tm,iJ σ.ce r (L.set off (er1 (.row true t) (List.modify xs i f1))),if X.isHdrX old||X.isHdrX v then tA σ.vr (r,off,2)else σ.vr⟩) h2 he1 (by simp only[oLC]at ho⊢;omega) (hofs _) (rQ _ _ _) (by simpa using ZA);obtain⟨q1,q2⟩:=hIH;have e2:putL ⟨r,off,[(i,sz,o)]⟩ (erL (v::w::vs))=(wv ⟨r,off,[(i,sz,o)]⟩ (er v)).bind λ_=>putL ⟨r,off,[(i,sz,o+1)]⟩ (erL (w::vs)):=by
  have Z2:gf.fits ⟨r,off,[(i,sz,o)]⟩ 1=true:=by simp only[gf.fits,List.reverse_cons,List.reverse_nil,oNA];simp only[oLC]at ho;simpa using(by omega:o+1<sz)
  show(wv ⟨r,off,[(i,sz,o)]⟩ (er v)).bind (λ_=>if gf.fits ⟨r,off,[(i,sz,o)]⟩ 1 then putL ⟨r,off,[(i,sz,o+1)]⟩ (erL (w::vs))else .fail)=_;rw[Z2];rfl
 have e3:X.hdrs ((X.splitX fU t e).drop o) (v::w::vs)=(if X.isHdrX old||X.isHdrX v then 1 else 0)+X.hdrs ((X.splitX fU t (f1 e)).drop (o+1)) (w::vs):=by rw[hold2];show _+X.hdrs ((X.splitX fU t e).drop (o+1)) (w::vs)=_;rw[Mp _ ((X.splitX fU t (f1 e)).drop (o+1)) _ (by rw[List.map_drop,List.map_drop,HN e (f1 e)])]
 have e4:List.modify (List.modify xs i f1) i g=List.modify xs i λe=>g (f1 e):=by
  apply oEG;intro j;simp only[oGM];by_cases hij:i=j;simp only[hij,if_true];cases xs[j]?<;>rfl
  simp[hij]
 refine⟨?_,?_⟩;rw[e2,SP.run_bind,p1];simp only[oBS];rw[q1,e3,yr,List.set_set,e4];congr 2;by_cases hh:(X.isHdrX old||X.isHdrX v)=true;rw[oIP hh,oIP hh,Nat.add_comm 1];rfl;rw[oIN hh,oIN hh,Nat.zero_add];rw[e2,gz _ _ p1,e3];refine⟨λx hx=>?_,λx hx=>?_⟩;rcases oMA.1 hx with hx|hx;rcases p2.1 x hx with h|h|⟨h,h'⟩;exact .inl h;exact .inr (.inl h);exact .inr (.inr ⟨h,by omega⟩);rcases q2.1 x hx with h|h|⟨h,h'⟩;exact .inl h;exact .inr (.inl h);exact .inr (.inr ⟨h,by omega⟩);rcases oMA.1 hx with hx|hx;rcases p2.2 x hx with h|⟨h,h'⟩;exact .inl h;exact .inr ⟨h,by omega⟩;rcases q2.2 x hx with h|⟨h,h'⟩;exact .inl h;exact .inr ⟨h,by omega⟩
theorem Pi(q:Key):∀(n:Nat){σ:XS den}{k:Unit->XS den->Option Y}{y:Y},X.bumps q n σ k=some y->∃ σ',erS σ'=⟨(erS σ).tm,(erS σ).ce,Sg q n σ.vr⟩/\(∀x∈σ.lg.1,x∈σ'.lg.1)/\(∀x∈σ.lg.2,x∈σ'.lg.2)/\(0<n->Loc.v q∈σ'.lg.1/\Loc.v q∈σ'.lg.2)/\k () σ'=some y:=by intro n;induction n with|zero=>intro σ k y h;exact⟨σ,rfl,λ_ h=>h,λ_ h=>h,λh=>by omega,h⟩|succ n ih=>intro σ k y h;have ⟨σ',h1,h2,h3,h4,h5⟩:=ih (show X.bumps q n ⟨σ.tm,σ.ce,tA σ.vr q,(.v q :: σ.lg.1,.v q :: σ.lg.2)⟩ k=some y from h);exact⟨σ',h1,λx hx=>h2 x (by simp[hx]),λx hx=>h3 x (by simp[hx]),λ_=>⟨h2 _ (by simp),h3 _ (by simp)⟩,h5⟩
theorem LM{G G1 G2:(u:CT)->Option (den u->den u)}(hG:∀u f,G u=some f->∃f1 g,G1 u=some f1/\G2 u=some g/\∀x,f x=g (f1 x)):∀{t:CT}{o:Nat}{f:den t->den t},X.setD fU t o G=some f->∃f1 g,X.setD fU t o G1=some f1/\X.setD fU t o G2=some g/\∀x,f x=g (f1 x):=by
 intro t;induction t with
 |pair a b ZF ZC=>intro o f h;simp only[X.setD]at h⊢;by_cases ho:o<jV a;rw[oIP ho]at h;obtain⟨h1,e1,rfl⟩:=kF h;have ⟨f1,g,e2,e3,e4⟩:=ZF e1;rw[oIP ho,oIP ho,e2,e3];exact⟨_,_,rfl,rfl,λx=>by show(h1 x.1,x.2)=(g (f1 x.1),x.2);rw[e4]⟩;rw[oIN ho]at h;obtain⟨h1,e1,rfl⟩:=kF h;have ⟨f1,g,e2,e3,e4⟩:=ZC e1;rw[oIN ho,oIN ho,e2,e3];exact⟨_,_,rfl,rfl,λx=>by show(x.1,h1 x.2)=(x.1,g (f1 x.2));rw[e4]⟩|nat=>intro o f h;simp[X.setD]at h|_=>
 intro o f h;cases o with
 |succ o=>simp[X.setD]at h|zero=>
 first
  |exact hG _ f h
  |(have ⟨a,b,c,d,_⟩:=hG _ f h;exact⟨a,b,c,d,λ_=>trivial⟩)
theorem MZ{t:CT}(xs:List (den t))(i:Nat)(f1 g f:den t->den t)(h:∀x,f x=g (f1 x)):List.modify xs i f=List.modify (List.modify xs i f1) i g:=by apply oEG;grind
theorem Jg{pl:List (den .nat×Nat×Nat)}{i sz o:Nat}{v w:XV den}{vs:List (XV den)}:∀{u:CT}{f:den u->den u},X.setHs fU (pl++[(i,sz,o)]) (v::w::vs) u=some f->∃f1 g,X.setH fU (pl++[(i,sz,o)]) v u=some f1/\X.setHs fU (pl++[(i,sz,o+1)]) (w::vs) u=some g/\∀x,f x=g (f1 x):=by
 induction pl with
 |nil=>
 intro u f h;cases u with
  |row ow t=>cases ow with
   |false=>simp[X.setHs]at h|true=>
   simp only[oNA,X.setHs,X.setH]at h⊢;split at h;rename_i hsz;obtain⟨F,h1,rfl⟩:=kF h;simp only[X.setDs]at h1;split at h1;rename_i f1 g e1 e2;injection h1 with h1
   have e1':=e1;rw[oIP hsz,oIP hsz,e2];refine⟨λxs=>List.modify xs i f1,λxs=>List.modify xs i g,?_,rfl,λx=>MZ x i f1 g F λy=>by rw[<- h1]⟩;rw[e1'];rfl;simp_all;simp at h
  |_=>simp[X.setHs]at h
 |cons hp pl ih=>
 intro u f h;obtain⟨i0,Y',o0⟩:=hp;obtain⟨q,qs,hq⟩:∃q qs,pl++[(i,sz,o)]=q::qs:=by cases pl with|nil=>exact⟨_,_,rfl⟩|cons a b=>exact⟨_,_,rfl⟩
 obtain⟨q',qs',hq'⟩:∃q qs,pl++[(i,sz,o+1)]=q::qs:=by cases pl with|nil=>exact⟨_,_,rfl⟩|cons a b=>exact⟨_,_,rfl⟩
 cases u with
 |row ow t=>cases ow with|false=>simp only[List.cons_append,hq]at h;simp[X.setHs]at h|true=>simp only[List.cons_append,hq,hq',X.setHs,X.setH]at h⊢;split at h;rename_i hsz;obtain⟨F,h1,rfl⟩:=kF h;obtain⟨f1,g,e1,e2,e3⟩:=LM (G1:=X.setH fU (q::qs) v) (G2:=X.setHs fU (q'::qs') (w::vs)) (λu f hf=>by rw[<- hq]at hf;obtain⟨a,b,c,d,e⟩:=ih hf;rw[hq]at c;rw[hq']at d;exact⟨a,b,c,d,e⟩) h1;rw[oIP hsz,oIP hsz,e1,e2];exact⟨_,_,rfl,rfl,λx=>MZ x i0 f1 g F e3⟩;simp at h
 |_=>simp at h;simp[X.setHs]at h
theorem ND(v:XV den):∀(hs:List (den .nat×Nat×Nat)),hs≠[]->X.setHs fU hs [v]=X.setH fU hs v:=by
 intro hs;induction hs with
 |nil=>simp_all|cons h1 hs ih=>
 intro _;funext u;cases hs with
 |nil=>cases u with
  |row ow t=>cases ow with|true=>rfl|false=>rfl
  |_=>rfl
 |cons h2 hs=>cases u with
  |row ow t=>cases ow with|true=>simp[X.setHs,X.setH];simp_all|false=>rfl
  |_=>rfl
theorem Mx{pl:L_}{i sz o j:Nat}(hj:o≠j)(v:TV):∀{t:TV},gE (iH t (pl++[(i,sz,o)]) v) (pl++[(i,sz,j)])=gE t (pl++[(i,sz,j)]):=by
 induction pl with
 |nil=>
 intro t;cases t with
  |ow c=>show gE (.ow (c.modify i λel=>el.modify o λt1=>iH t1 [] v)) [(i,sz,j)]=gE (.ow c) [(i,sz,j)];simp[gE];cases hc:c[i]? with|none=>rfl|some el=>simp_all
  |_=>rfl
 |cons h pl ih=>
 intro t;have ⟨i0,Y',o0⟩:=h;cases t with
 |ow c=>
 show gE (.ow (c.modify i0 λel=>el.modify o0 λt1=>iH t1 (pl++[(i,sz,o)]) v)) ((i0,Y',o0)::(pl++[(i,sz,j)]))=gE (.ow c) ((i0,Y',o0)::(pl++[(i,sz,j)]));simp[gE];cases hc:c[i0]? with
  |none=>rfl|some el=>
  simp;split;cases he:el[o0]? with|none=>rfl|some t1=>exact ih
  rfl
 |_=>rfl
theorem N5{r off:Nat}{pl:List (den .nat×Nat×Nat)}{i sz:Nat}{u:CT}:∀(l:List (XV den)){o:Nat}{f:den u->den u}{x:den u}{σ:St}{L:U_},X.setHs fU (pl++[(i,sz,o)]) l u=some f->0<l.length->o+l.length<=sz ->(∀j,j<l.length->∃old,gE (er1 u x) (pl++[(i,sz,o+j)])=some old/\tG old=false)->(∀v∈l,X.isHdrX v=false)->σ.c r off=er1 u x->gD σ.ce r=some L->off<L.length ->(putL ⟨r,off,pl++[(i,sz,o)]⟩ (erL l)).run σ=some ((),⟨σ.tm,iJ σ.ce r (L.set off (er1 u (f x))),σ.vr⟩)/\(∀z∈((putL ⟨r,off,pl++[(i,sz,o)]⟩ (erL l)).foot σ).1,z=.c r off\/z=.n r\/z=.h r off)/\∀z∈((putL ⟨r,off,pl++[(i,sz,o)]⟩ (erL l)).foot σ).2,z=.c r off:=by
 intro l;induction l with
 |nil=>intro o f x σ L _ h;simp at h|cons v l ih=>
 intro o f x σ L hf _ ho ZB hh hc hL ZA;obtain⟨old,hg,hoh⟩:=ZB 0 (by simp);rw[Nat.add_zero]at hg;have hvh:tG (er v)=false:=by rw[uh];exact hh v (by simp)
 have hput:∀(f1:den u->den u),X.setH fU (pl++[(i,sz,o)]) v u=some f1->(wv ⟨r,off,pl++[(i,sz,o)]⟩ (er v)).run σ=some ((),⟨σ.tm,iJ σ.ce r (L.set off (er1 u (f1 x))),σ.vr⟩)/\(wv ⟨r,off,pl++[(i,sz,o)]⟩ (er v)).foot σ=([.c r off,.n r,.h r off],[.c r off]):=by intro f1 h1;have hs:=Jh h1 x;unfold wv;simp only[SP.run,SP.foot,hc];rw[hg];simp only[hoh,hvh,Bool.or_false,Bool.false_eq_true,if_false,SP.run,SP.foot,hL,ZA,if_true,hc,AO (show pl++[(i,sz,o)]≠[] by simp),oNA];rw[hs];exact⟨by first|rfl|trivial,by first|rfl|trivial⟩
 cases l with
 |nil=>rw[ND v _ (by simp)]at hf;obtain⟨h1,h2⟩:=hput f hf;have e2:putL ⟨r,off,pl++[(i,sz,o)]⟩ (erL [v])=(wv ⟨r,off,pl++[(i,sz,o)]⟩ (er v)).bind λ_=>.ret ():=rfl;rw[e2,SP.run_bind,h1,gz _ _ h1,h2];refine⟨rfl,λz hz=>?_,λz hz=>?_⟩;all_goals simp only[SP.foot,List.append_nil,oMC,List.not_mem_nil,or_false]at hz;exact hz|cons w vs=>
 obtain⟨f1,g,h1,h2,h3⟩:=Jg hf;obtain⟨p1,p2⟩:=hput f1 h1;have hs:=Jh h1 x;simp only[oLC]at ho;obtain⟨q1,q2,q3⟩:=ih (o:=o+1) (x:=f1 x) (σ:=⟨σ.tm,iJ σ.ce r (L.set off (er1 u (f1 x))),σ.vr⟩) h2 (by simp) (by simp;omega) (λj hj=>by obtain⟨old',h4,h5⟩:=ZB (j+1) (by simp only[oLC]at hj⊢;omega);refine⟨old',?_,h5⟩;rw[hs,Mx (by omega),show o+1+j=o+(j+1) by omega];exact h4) (λv' YD=>hh v' (by simp[YD])) (by unfold St.c;simp only[rQ];simp[ZA]) (rQ _ _ _) (by simpa using ZA);have e2:putL ⟨r,off,pl++[(i,sz,o)]⟩ (erL (v::w::vs))=(wv ⟨r,off,pl++[(i,sz,o)]⟩ (er v)).bind λ_=>putL ⟨r,off,pl++[(i,sz,o+1)]⟩ (erL (w::vs)):=by
  have Z2:gf.fits ⟨r,off,pl++[(i,sz,o)]⟩ 1=true:=by simp only[gf.fits,List.reverse_append,List.reverse_cons,List.reverse_nil,oNA,List.cons_append];simpa using(by omega:o+1<sz)
  have XL:gf.add ⟨r,off,pl++[(i,sz,o)]⟩ 1=⟨r,off,pl++[(i,sz,o+1)]⟩:=by simp[gf.add]
  show(wv ⟨r,off,pl++[(i,sz,o)]⟩ (er v)).bind (λ_=>if gf.fits ⟨r,off,pl++[(i,sz,o)]⟩ 1 then putL (gf.add ⟨r,off,pl++[(i,sz,o)]⟩ 1) (erL (w::vs))else .fail)=_;rw[Z2,XL];rfl
 rw[e2,SP.run_bind,p1,gz _ _ p1,p2];simp only[oBS];rw[q1,yr,List.set_set,h3 x];refine⟨rfl,λz hz=>?_,λz hz=>?_⟩;rcases oMA.1 hz with hz|hz;simpa using hz;exact q2 z hz;rcases oMA.1 hz with hz|hz;simpa using hz;exact q3 z hz
theorem zo(l:List (den .nat×Nat×Nat))(i:Nat)(sz o:Nat):X.lastO (l++[(i,sz,o)])=o:=by induction l with|nil=>rfl|cons h l ih=>cases l with|nil=>rfl|cons h2 l=>simpa[X.lastO]using ih
theorem Lf:∀{hs:List (den .nat×Nat×Nat)}{tv:XV den}{k:List (XV den)->Option Y}{y:Y},X.elemX fU tv hs k=some y->∃l i sz o cs,hs=l++[(i,sz,o)]/\cs.length=sz/\(∀j v,Jt cs j=some v->gE (er tv) (l++[(i,sz,j)])=some (er v))/\k cs=some y:=by
 intro hs;induction hs with
 |nil=>
 intro tv k y h;cases tv with
  |d u x=>cases u with|row ow t=>cases ow<;>cases h|_=>cases h
  |_=>cases h
 |cons h1 hs ih=>
 intro tv k y h;obtain⟨i,sz,o⟩:=h1;cases tv with
 |half t x m=>
 cases hs with
  |cons h2 hs=>cases h|nil=>
  simp only[X.elemX]at h;split at h;rename_i hsz;have h:fU.br (iK m i i) _ none=some y:=h;cases hc:iK m i i with
  |false=>rw[hc]at h;cases h|true=>
   rw[hc]at h;obtain⟨e,he,h2⟩:=gd (show(fR (x:List (den t)) i).bind _=some y from h);have he:(x:List (den t))[i]?=some e:=he;have hm:Nat.le m i:=by have h:=hc;simp only[iK,oLE,decide_true,Bool.and_true,oDE]at h;exact h
   refine⟨[],i,sz,o,X.split0 fU t e,rfl,by rw[<- iI,GL,nb,hsz],λj v hv=>?_,h2⟩;show(match(lu t m x)[i]? with|some el=>if el.length=sz then(match el[j]? with|some t=>gE t []|none=>none)else none|none=>none)=_;rw[oA,he];simp only[oMS];rw[oIN (Nat.not_lt.2 hm)];simp only[nb,hsz,if_true,DM hv];rfl
  cases h
 |d u x=>cases u with
  |row ow t=>cases ow with
   |true=>
   cases hs with
    |nil=>
    simp only[X.elemX]at h;split at h;rename_i hsz;obtain⟨e,he,h2⟩:=gd (show(fR (x:List (den t)) i).bind _=some y from h);have he:(x:List (den t))[i]?=some e:=he;refine⟨[],i,sz,o,X.splitX fU t e,rfl,by rw[<- iI,wS,ii,hsz],λj v hv=>?_,h2⟩;have h3:(List.map (enc t) (x:List (den t)))[i]?=some (enc t e):=by rw[oGP,he];rfl
    show(match(List.map (enc t) (x:List (den t)))[i]? with|some el=>if el.length=sz then(match el[j]? with|some t=>gE t []|none=>none)else none|none=>none)=_;rw[h3];simp only[ii,hsz,if_true,tW hv];rfl;cases h
    |cons h2 hs=>
    simp only[X.elemX]at h;split at h;rename_i hsz;obtain⟨e,he,h3⟩:=gd (show(fR (x:List (den t)) i).bind _=some y from h);have he:(x:List (den t))[i]?=some e:=he;split at h3;rename_i v hv;obtain⟨l,i',sz',o',cs,e1,e2,e3,e4⟩:=ih h3;refine⟨(i,sz,o)::l,i',sz',o',cs,by rw[e1];rfl,e2,λj w hw=>?_,e4⟩;have h4:(List.map (enc t) (x:List (den t)))[i]?=some (enc t e):=by rw[oGP,he];rfl
    have:=e3 j w hw;show(match(List.map (enc t) (x:List (den t)))[i]? with|some el=>if el.length=sz then(match el[o]? with|some t=>gE t (l++[(i',sz',j)])|none=>none)else none|none=>none)=_;rw[h4];simp only[ii,hsz,if_true,tW hv];exact this;cases h3;cases h
   |false=>cases hs<;>cases h
  |_=>cases hs<;>cases h
 |_=>cases hs<;>cases h
theorem Jb(r off:Nat)(hs:List (den .nat×Nat×Nat))(l:List (XV den))(h2:2<=hs.length):Sim (Y:=Y) (X.bind (X.rdC r off) λtv=>X.elemM fU tv hs λcs=> if X.lastO hs+l.length<=cs.length/\0<l.length/\((cs.drop (X.lastO hs)).take l.length).all (λv=>!X.isHdrX v)=true/\l.all (λv=>!X.isHdrX v)=true then X.bind (X.optM fU (X.setXs fU tv hs l)) λYf=>X.wrI fU r off Yf else X.fail fU) (putL ⟨r,off,hs⟩ (erL l)) id:=by
 intro σ k y hk;obtain⟨pl,i,sz,o,cs,e1,e2,e3,e4⟩:=Lf hk;have e5:X.lastO hs=o:=by rw[e1,zo]
 rw[e5]at e4;dsimp only at e4;split at e4;case isFalse=>cases e4
 rename_i hc;obtain⟨ZM,ZJ,hc3,hc4⟩:=hc;cases hset:X.setXs fU (X.cOf σ r off) hs l with
 |none=>rw[hset]at e4;cases e4|some Yf=>
 rw[hset]at e4;have e4:X.wrI fU r off Yf (X.lgR (.c r off) σ) k=some y:=e4;cases htv:X.cOf σ r off with
 |d u x=>
 rw[htv]at hset e3;obtain⟨f,hf,hf2⟩:=kF (show(X.setHs fU hs l u).map (λf=>(XV.d u (f x):XV den))=some Yf from hset);subst hf2;unfold X.wrI at e4;split at e4;case h_2=>cases e4
 rename_i L hL;have hL:gD σ.ce r=some L:=hL;split at e4;case isFalse=>cases e4
 rename_i ZA;rw[ua]at e4;rw[e1]at hf;obtain⟨q1,q2,q3⟩:=N5 (r:=r) (off:=off) (σ:=erS σ) (L:=erL L) l (x:=x) hf ZJ (by rw[<- e2];exact ZM) (λj hj=>by
  have hjs:o+j<cs.length:=by omega
  refine⟨er cs[o+j],e3 (o+j) _ (by rw[re];exact oGE hjs),?_⟩;rw[uh];have:=oAE.1 hc3 cs[o+j] (List.mem_of_getElem? (i:=j) (by rw[List.getElem?_take,oIP hj,List.getElem?_drop];exact oGE hjs));simpa using this) (λv hv=>by simp_all) (by rw[B7,htv];rfl) (by rw[zH,hL];rfl) (by rw[iI];exact ZA)
 rw[<- e1]at q1 q2 q3;refine⟨(),⟨σ.tm,iJ σ.ce r (L.set off (.d u (f x))),σ.vr,(.n r :: .h r off :: .c r off :: σ.lg.1,.c r off :: σ.lg.2)⟩,?_,⟨λz hz=>?_,λz hz=>?_,λz hz=>by simp[hz],λz hz=>by simp[hz]⟩,e4⟩;rw[q1];unfold erS erC;simp only;rw[<- ra,wG];rfl;rcases q2 z hz with h|h|h<;>simp[h]
 simp[q3 z hz]
 |_=>rw[htv]at hset;cases hset
theorem N7{r off i sz o:Nat}{l:List (XV den)}{tv:XV den}{σ:XS den}{k:Unit->XS den->Option Y}{y:Y}(h:X.putEl fU r off i sz o l tv σ k=some y):(∃t xs,tv=.d (.row true t) xs/\(jV t=sz/\o+l.length<=sz/\0<l.length)/\(X.atM fU true t xs i λe=>X.bind (X.optM fU (X.setDs fU t o l)) λf=>X.bind (X.wrI fU r off (.d (.row true t) (fU.upd t xs i f))) λ_=>X.bumps (r,off,2) (X.hdrs ((X.splitX fU t e).drop o) l)) σ k=some y)\/(∃t xs i' o',tv=.gap t xs i' o'/\(jV t=sz/\o<=o'/\o'<sz/\o+l.length=o'+1/\l.dropLast.all (λv=>!X.isHdrX v)=true)/\(X.atM fU true t xs i λe=>if(((X.splitX fU t e).drop o).take (o'-o)).all (λv=>!X.isHdrX v)=true then X.brM fU (fU.eqN i i') (X.bind (X.optM fU (X.setDs fU t o l)) λf=>X.bind (X.wrI fU r off (.d (.row true t) (fU.upd t xs i f))) λ_=>X.bump (r,off,2))else X.fail fU) σ k=some y)\/∃t xs m v f,tv=.half t xs m/\l=[v]/\X.setD fU t o (X.asF fU v)=some f/\(jV t=sz/\X.only t o=true)/\(X.atM fU true t xs i λ_=>X.brM fU (fU.eqN i m) (X.bind (X.wrI fU r off (.half t (fU.upd t xs i f) (fU.addN m (fU.litN 1)))) λ_=>X.bump (r,off,2))) σ k=some y:=by
 cases tv with
 |d u xs=>cases u with
  |row ow t=>cases ow with|true=>by_cases hc:jV t=sz/\o+l.length<=sz/\0<l.length;simp only[X.putEl,oIP hc]at h;exact .inl ⟨t,xs,rfl,hc,h⟩;simp only[X.putEl,oIN hc]at h;cases h|false=>cases h
  |_=>cases h
 |gap t xs i' o'=>by_cases hc:jV t=sz/\o<=o'/\o'<sz/\o+l.length=o'+1/\l.dropLast.all (λv=>!X.isHdrX v)=true;simp only[X.putEl,oIP hc]at h;exact .inr (.inl ⟨t,xs,i',o',rfl,hc,h⟩);simp only[X.putEl,oIN hc]at h;cases h|half t xs m=>cases l with|nil=>cases h|cons x r=>cases r with|cons y r=>cases h|nil=>cases hz:X.setD fU t o (X.asF fU x)with|none=>simp only[X.putEl,hz]at h;cases h|some f=>by_cases hc:jV t=sz/\X.only t o=true;simp[X.putEl,hz,oIP hc]at h;exact .inr (.inr ⟨t,xs,m,x,f,rfl,rfl,hz,hc,h⟩);simp[X.putEl,hz,oIN hc]at h;cases h
 |_=>cases h
theorem Pj{c:Bool}{m:XM den Option Y α}{σ:XS den}{k:α->XS den->Option Y}{y:Y}(h:X.brM fU c m σ k=some y):c=true/\m σ k=some y:=by cases c with|false=>cases h|true=>exact⟨rfl,h⟩
theorem Q5{t:CT}{xs:List (den t)}{i sz o:Nat}{e:den t}(hsz:jV t=sz)(he:xs[i]?=some e)(ho:o<sz):gE (iH (er1 (.row true t) xs) [(i,0,o)] .dead) [(i,sz,o)]=some .dead:=by
 have h3:(List.map (enc t) xs)[i]?=some (enc t e):=by simp_all
 show(match((List.map (enc t) xs).modify i λel=>el.modify o λ_=>TV.dead)[i]? with|some el=>if el.length=sz then(match el[o]? with|some t=>gE t []|none=>none)else none|none=>none)=_;rw[oGM,h3];have h4:o<(enc t e).length:=by rw[ii,hsz];exact ho
 simp[ii,hsz,oGE h4,gE]
theorem Qb{tv:TV}{i sz sz' o:Nat}{u v:TV}:iH (iH tv [(i,sz',o)] u) [(i,sz,o)] v=iH tv [(i,sz,o)] v:=by
 cases tv with
 |ow c=>
 simp only[iH];congr 1;apply oEG;intro j;simp only[oGM];by_cases h:i=j;simp only[h,if_true];cases c[j]? with
 |none=>rfl|some el=>
  show some ((el.modify o λ_=>u).modify o λ_=>v)=some (el.modify o λ_=>v);congr 1;apply oEG;intro k;simp only[oGM];by_cases h:o=k;simp only[h,if_true];cases el[k]?<;>rfl
  simp[h]
 simp[h]
 |_=>rfl
theorem NZ{r off i sz o o':Nat}{t:CT}(hsz:jV t=sz){v old:XV den}{f:den t->den t}{xs:List (den t)}{e:den t}{σ:St}{L:U_}(hf:X.setD fU t o (X.asF fU v)=some f)(he:xs[i]?=some e)(ZB:Jt (X.splitX fU t e) o=some old) (hne:o≠o')(Ws:X.isHdrX old=false)(Xj:X.isHdrX v=false)(hc:σ.c r off=iH (er1 (.row true t) xs) [(i,0,o')] .dead)(hL:gD σ.ce r=some L)(ho:off<L.length):(wv ⟨r,off,[(i,sz,o)]⟩ (er v)).run σ=some ((),⟨σ.tm,iJ σ.ce r (L.set off (iH (er1 (.row true t) (List.modify xs i f)) [(i,0,o')] .dead)),σ.vr⟩)/\Bk r off 0 ((wv ⟨r,off,[(i,sz,o)]⟩ (er v)).foot σ):=by
 have Z3:gE (iH (er1 (.row true t) xs) [(i,0,o')] .dead) [(i,sz,o)]=some (er old):=by
  have h3:(List.map (enc t) xs)[i]?=some (enc t e):=by simp_all
  show(match((List.map (enc t) xs).modify i λel=>el.modify o' λ_=>TV.dead)[i]? with|some el=>if el.length=sz then(match el[o]? with|some t=>gE t []|none=>none)else none|none=>none)=_;rw[oGM,h3];simp only[if_true,Option.map_eq_map,oMS,oLM,ii,hsz,oGM,oIN (Ne.symm hne),tW ZB];rfl
 have hset:iH (iH (er1 (.row true t) xs) [(i,0,o')] .dead) [(i,sz,o)] (er v)=iH (er1 (.row true t) (List.modify xs i f)) [(i,0,o')] .dead:=by
  rw[yG xs i o f (λ_=>er v) (wV (λu h hu _ x=>IU hu x) hf)];show TV.ow (((List.map (enc t) xs).modify i λel=>el.modify o' λ_=>TV.dead).modify i λel=>el.modify o λ_=>er v)=TV.ow (((List.map (enc t) xs).modify i λel=>el.modify o λ_=>er v).modify i λel=>el.modify o' λ_=>TV.dead);congr 1;apply oEG;intro j;simp only[oGM];by_cases h:i=j;simp only[h,if_true];cases(List.map (enc t) xs)[j]? with|none=>rfl|some el=>show some ((el.modify o' λ_=>TV.dead).modify o λ_=>er v)=some ((el.modify o λ_=>er v).modify o' λ_=>TV.dead);congr 1;apply oEG;intro k;simp only[oGM];by_cases h1:o=k;by_cases h2:o'=k;omega;simp[h1,h2];simp_all
  simp[h]
 have hW:hdW r off (iH (er1 (.row true t) xs) [(i,0,o')] .dead) (iH (er1 (.row true t) (List.modify xs i f)) [(i,0,o')] .dead)=[]:=by rw[<- hset];exact AO (by simp)
 unfold wv;simp only[SP.run,SP.foot,hc,Z3,uh,hset,Ws,Xj,Bool.or_self,Bool.false_eq_true,if_false];simp only[SP.run,SP.foot,hL,ho,if_true,hc,hW];refine⟨by first|rfl|trivial,λx hx=>?_,λx hx=>?_⟩;simp_all;simp_all
theorem NY{r off i sz o:Nat}{t:CT}(hsz:jV t=sz){v:XV den}{f:den t->den t}{xs:List (den t)}{e:den t}{σ:St}{L:U_}(hf:X.setD fU t o (X.asF fU v)=some f)(he:xs[i]?=some e)(Zv:o<sz) (hc:σ.c r off=iH (er1 (.row true t) xs) [(i,0,o)] .dead)(hL:gD σ.ce r=some L)(ho:off<L.length):(wv ⟨r,off,[(i,sz,o)]⟩ (er v)).run σ=some ((),⟨σ.tm,iJ σ.ce r (L.set off (er1 (.row true t) (List.modify xs i f))),tA σ.vr (r,off,2)⟩)/\Bk r off 1 ((wv ⟨r,off,[(i,sz,o)]⟩ (er v)).foot σ):=by
 have Z3:=Q5 hsz he Zv;have hset:iH (iH (er1 (.row true t) xs) [(i,0,o)] .dead) [(i,sz,o)] (er v)=er1 (.row true t) (List.modify xs i f):=by rw[Qb,yG xs i o f (λ_=>er v) (wV (λu h hu _ x=>IU hu x) hf)];rfl
 have hW:hdW r off (iH (er1 (.row true t) xs) [(i,0,o)] .dead) (er1 (.row true t) (List.modify xs i f))=[]:=by rw[<- hset];exact AO (by simp)
 have hd:tG TV.dead=true:=rfl;unfold wv;simp only[SP.run,SP.foot,hc,Z3,hset,hd,Bool.true_or,if_true,oLC,oLN,oLE];simp only[hL,ho,if_true,hc,hW];refine⟨by simp_all,λx hx=>?_,λx hx=>?_⟩
 ·simp at hx;rcases hx with h|h|h|h
  all_goals simp_all
 simp_all
theorem Qn{r off i sz o':Nat}{t:CT}(hsz:jV t=sz)(Zv:o'<sz):∀(l:List (XV den)){o:Nat}{f:den t->den t}{xs:List (den t)}{e:den t}{σ:St}{L:U_},X.setDs fU t o l=some f->xs[i]?=some e->o+l.length=o'+1 ->l.dropLast.all (λv=>!X.isHdrX v)=true->(∀j v,o<=j->j<o'->Jt (X.splitX fU t e) j=some v->X.isHdrX v=false)->σ.c r off=iH (er1 (.row true t) xs) [(i,0,o')] .dead->gD σ.ce r=some L->off<L.length ->(putL ⟨r,off,[(i,sz,o)]⟩ (erL l)).run σ=some ((),⟨σ.tm,iJ σ.ce r (L.set off (er1 (.row true t) (List.modify xs i f))),tA σ.vr (r,off,2)⟩)/\Bk r off 1 ((putL ⟨r,off,[(i,sz,o)]⟩ (erL l)).foot σ):=by
 intro l;induction l with
 |nil=>intro o f xs e σ L h;simp[X.setDs]at h|cons v l ih=>
 intro o f xs e σ L hf he ho ZE ZB hc hL ZA;simp only[oLC]at ho;cases l with
 |nil=>
 simp only[X.setDs]at hf;obtain rfl:o=o':=by simp only[oLN]at ho;omega
 obtain⟨h1,h2⟩:=NY (r:=r) (off:=off) (i:=i) hsz hf he Zv hc hL ZA;have e2:putL ⟨r,off,[(i,sz,o)]⟩ (erL [v])=(wv ⟨r,off,[(i,sz,o)]⟩ (er v)).bind λ_=>.ret ():=rfl;refine⟨?_,?_⟩;rw[e2,SP.run_bind,h1];rfl;rw[e2,gz _ _ h1];simpa[SP.foot]using h2
 |cons w vs=>
 simp only[X.setDs]at hf;split at hf;case h_2=>simp at hf
 rename_i f1 g h1 h2;injection hf with hf
 subst hf;simp only[oLC]at ho;have hlt:o<o':=by omega
 have hlen:(X.splitX fU t e).length=sz:=by rw[<- iI,wS,ii,hsz]
 obtain⟨old,hold1⟩:∃old,Jt (X.splitX fU t e) o=some old:=by rw[re];exact⟨_,oGE (by omega)⟩
 have hfl':X.isHdrX v=false/\(w::vs).dropLast.all (λv=>!X.isHdrX v)=true:=by simp_all
 obtain⟨p1,p2⟩:=NZ (r:=r) (off:=off) (i:=i) hsz h1 he hold1 (Nat.ne_of_lt hlt) (ZB o old (oLE _) hlt hold1) hfl'.1 hc hL ZA;have he1:(List.modify xs i f1)[i]?=some (f1 e):=by simp[oGM,he]
 have hofs:(⟨σ.tm,iJ σ.ce r (L.set off (iH (er1 (.row true t) (List.modify xs i f1)) [(i,0,o')] .dead)),σ.vr⟩:St).c r off=iH (er1 (.row true t) (List.modify xs i f1)) [(i,0,o')] .dead:=by unfold St.c;simp only[rQ];simp[ZA]
 have hold':∀j v,o+1<=j->j<o'->Jt (X.splitX fU t (f1 e)) j=some v->X.isHdrX v=false:=λj u hj1 hj2 hu=>by
  have hty:=HN (f1 e) e;have h3:((X.splitX fU t (f1 e)).map X.isHdrX)[j]?=some (X.isHdrX u):=by rw[oGP,<- re,hu];rfl
  rw[hty,oGP]at h3;cases hq:(X.splitX fU t e)[j]? with|none=>rw[hq]at h3;cases h3|some q=>rw[hq]at h3;simp only[oMS,oSJ]at h3;rw[<- h3];exact ZB j q (by omega) hj2 (by rw[re];exact hq)
 obtain⟨q1,q2⟩:=ih (o:=o+1) (σ:=⟨σ.tm,iJ σ.ce r (L.set off (iH (er1 (.row true t) (List.modify xs i f1)) [(i,0,o')] .dead)),σ.vr⟩) h2 he1 (by simp only[oLC];omega) hfl'.2 hold' hofs (rQ _ _ _) (by simpa using ZA);have e2:putL ⟨r,off,[(i,sz,o)]⟩ (erL (v::w::vs))=(wv ⟨r,off,[(i,sz,o)]⟩ (er v)).bind λ_=>putL ⟨r,off,[(i,sz,o+1)]⟩ (erL (w::vs)):=by
  have Z2:gf.fits ⟨r,off,[(i,sz,o)]⟩ 1=true:=by simp only[gf.fits,List.reverse_cons,List.reverse_nil,oNA];simpa using(by omega:o+1<sz)
  show(wv ⟨r,off,[(i,sz,o)]⟩ (er v)).bind (λ_=>if gf.fits ⟨r,off,[(i,sz,o)]⟩ 1 then putL ⟨r,off,[(i,sz,o+1)]⟩ (erL (w::vs))else .fail)=_;rw[Z2];rfl
 have e4:List.modify (List.modify xs i f1) i g=List.modify xs i λe=>g (f1 e):=by
  apply oEG;intro j;simp only[oGM];by_cases hij:i=j;simp only[hij,if_true];cases xs[j]?<;>rfl
  simp[hij]
 refine⟨?_,?_⟩;rw[e2,SP.run_bind,p1];simp only[oBS];rw[q1,yr,List.set_set,e4];rw[e2,gz _ _ p1];refine⟨λx hx=>?_,λx hx=>?_⟩;rcases oMA.1 hx with hx|hx;rcases p2.1 x hx with h|h|⟨h,h'⟩;exact .inl h;exact .inr (.inl h);omega;exact q2.1 x hx;rcases oMA.1 hx with hx|hx;rcases p2.2 x hx with h|⟨h,h'⟩;exact .inl h;omega;exact q2.2 x hx
theorem LE{r off i sz o o':Nat}{t:CT}{xs:List (den t)}{l:List (XV den)}{σ:XS den}{k:Unit->XS den->Option Y}{y:Y}(hcell:X.cOf σ r off=.gap t xs i o')(hc:jV t=sz/\o<=o'/\o'<sz/\o+l.length=o'+1/\l.dropLast.all (λv=>!X.isHdrX v)=true){e:den t}(he:xs[i]?=some e) (ZB:(((X.splitX fU t e).drop o).take (o'-o)).all (λv=>!X.isHdrX v)=true) (hk:(X.bind (X.optM fU (X.setDs fU t o l)) λf=>X.bind (X.wrI fU r off (.d (.row true t) (fU.upd t xs i f))) λ_=>X.bump (r,off,2)) (X.lgR (.c r off) σ) k=some y):∃a σ',(putL ⟨r,off,[(i,sz,o)]⟩ (erL l)).run (erS σ)=some (id a,erS σ')/\rR σ σ' ((putL ⟨r,off,[(i,sz,o)]⟩ (erL l)).foot (erS σ))/\k a σ'=some y:=by
 obtain⟨hsz,hoo,Zv,hl,ZE⟩:=hc;cases hf:X.setDs fU t o l with
 |none=>rw[hf]at hk;cases hk|some f=>
 rw[hf]at hk;have hk:X.wrI fU r off (.d (.row true t) (fU.upd t xs i f)) (X.lgR (.c r off) σ) (λ_ σ'=>X.bump (r,off,2) σ' k)=some y:=hk;unfold X.wrI at hk;split at hk;case h_2=>cases hk
 rename_i L hL;have hL:gD σ.ce r=some L:=hL;split at hk;case isFalse=>cases hk
 rename_i ZA;have hc:(erS σ).c r off=iH (er1 (.row true t) xs) [(i,0,o')] .dead:=by rw[B7,hcell];rfl
 have hL':gD (erS σ).ce r=some (erL L):=by rw[zH,hL];rfl
 obtain⟨q1,q2⟩:=Qn hsz Zv l (σ:=erS σ) hf he hl ZE (λj v h1 h2 hv=>by rw[re]at hv;have:=oAE.1 ZB v (List.mem_of_getElem? (i:=j-o) (by rw[List.getElem?_take,oIP (by omega),List.getElem?_drop,show o+(j-o)=j by omega];exact hv));simpa using this) hc hL' (by rw[iI];exact ZA);refine⟨(),_,?_,⟨λx hx=>?_,λx hx=>?_,λx hx=>?_,λx hx=>?_⟩,hk⟩;rw[q1];unfold erS erC;rw[<- ra,wG];rfl;rcases q2.1 x hx with h|(h|h)|⟨h,h'⟩<;>simp[X.lgR,h]
 rcases q2.2 x hx with h|⟨h,h'⟩<;>simp[X.lgR,h]
 simp[X.lgR,hx];simp[X.lgR,hx]
theorem O1{t:CT}{xs:List (den t)}{i o:Nat}{e:den t}(ho:X.only t o=true)(he:xs[i]?=some e):∃u,gE (.ow (lu t i xs)) [(i,jV t,o)]=some u/\tG u=true:=by show ∃u,(match(lu t i xs)[i]? with|some el=>if el.length=jV t then(match el[o]? with|some t=>gE t []|none=>none)else none|none=>none)=some u/\tG u=true;rw[oA,he];have ⟨u,h1,h2⟩:=Qy ho e;simp[nb,h1];exact⟨u,rfl,h2⟩
theorem Ja{r off i o:Nat}{t:CT}{xs:List (den t)}{v:XV den}{f:den t->den t}{σ:XS den}{k:Unit->XS den->Option Y}{y:Y}(hcell:X.cOf σ r off=.half t xs i)(ho:X.only t o=true)(hz:X.setD fU t o (X.asF fU v)=some f){e:den t}(he:xs[i]?=some e) (hk:(X.bind (X.wrI fU r off (.half t (List.modify xs i f) (i+1))) λ_=>X.bump (r,off,2)) (X.lgR (.c r off) σ) k=some y):∃a σ',(putL ⟨r,off,[(i,jV t,o)]⟩ (erL [v])).run (erS σ)=some (id a,erS σ')/\rR σ σ' ((putL ⟨r,off,[(i,jV t,o)]⟩ (erL [v])).foot (erS σ))/\k a σ'=some y:=by
 have hf:=wV (φ:=λ_=>er v) (λu h hu _ x=>IU hu x) hz;have hset:iH (.ow (lu t i xs)) [(i,jV t,o)] (er v)=.ow (lu t (i+1) (xs.modify i f)):=by rw[OW ho hf];rfl
 have hcell':(erS σ).c r off=.ow (lu t i xs):=by rw[B7,hcell];rfl
 have hgl:=(oQ.wrI (Y:=Y) (σ:=X.lgR (.c r off) σ) (t:=.half t (List.modify xs i f) (i+1)) (by show(TV.ow (lu t (i+1) (xs.modify i f))).hd=((erS σ).c r off).hd;rw[hcell'];simp only[TV.hd,D1];rw[List.map_const',List.map_const',oLM])).bind (g:=λ_=>X.bump (r,off,2)) (h:=λ_=>.bump (r,off,2) (.ret ())) (f':=id) λ_=>KI (r,off,2);obtain⟨a,σ',h1,h2,h3⟩:=hgl k y hk;obtain⟨old,hg,hh⟩:=O1 ho he;have e1:putL ⟨r,off,[(i,jV t,o)]⟩ (erL [v])=.rdC r off λtv=>(match gE tv [(i,jV t,o)]with
  |some old=>if tG old||tG (er v)then(if 1<=1 then SP.wrC r off (iH tv [(i,jV t,o)] (er v)) (.bump (r,off,2) (.ret ()))else .fail)else .wrC r off (iH tv [(i,jV t,o)] (er v)) (.ret ())
  |none=>.fail).bind λ_=>.ret ():=rfl
 have e2:∀s:TV,s=(erS σ).c r off->((match gE s [(i,jV t,o)]with
  |some old=>if tG old||tG (er v)then(if 1<=1 then SP.wrC r off (iH s [(i,jV t,o)] (er v)) (.bump (r,off,2) (.ret ()))else .fail)else .wrC r off (iH s [(i,jV t,o)] (er v)) (.ret ())
  |none=>.fail:SP Unit).bind λ_=>.ret ())=.wrC r off (.ow (lu t (i+1) (xs.modify i f))) (.bump (r,off,2) (.ret ())):=by
  intro s hs;rw[hs,hcell',hg];simp only[hh,if_true];rw[hset];rfl
 refine⟨a,σ',?_,⟨λx hx=>?_,λx hx=>?_,λx hx=>h2.r0 x (by simp[X.lgR,hx]),λx hx=>h2.w0 x hx⟩,h3⟩;rw[e1];simp only[SP.run];rw[e2 _ rfl];exact h1;rw[e1]at hx;simp only[SP.foot,oMC]at hx;rcases hx with rfl|hx;exact h2.r0 _ (by simp[X.lgR]);rw[e2 _ rfl]at hx;exact h2.r x hx;rw[e1]at hx;simp only[SP.foot]at hx;rw[e2 _ rfl]at hx;exact h2.w x hx
theorem KC(p:XP den)(l:List (XV den)):Sim (Y:=Y) (X.putL fU p l) (putL (erP p) (erL l)) id:=by
 obtain⟨r,off,hops⟩:=p;match hops with
 | []=>exact P0 r l off| [(i,sz,o)]=>
 intro σ k y hk;show ∃a σ',(putL ⟨r,off,[(i,sz,o)]⟩ (erL l)).run (erS σ)=some (id a,erS σ')/\_;rcases N7 hk with⟨t,xs,hcell,⟨hsz,hol,qN⟩,hk⟩|⟨t,xs,i',o',hcell,Zx,hk⟩|⟨t,xs,m,v,f,hcell,rfl,hz,⟨rfl,hon⟩,X1⟩;rotate_left
 ·obtain⟨e,he,hk⟩:=gd (show(fR xs i).bind _=some y from hk);have he:(xs:List (den t))[i]?=some e:=he;dsimp only at hk;split at hk
  case isFalse=>cases hk
  rename_i ZB;obtain⟨hb,hk9⟩:=Pj hk;have hii:i=i':=Nat.eq_of_beq_eq_true hb;subst hii;exact LE hcell Zx he ZB hk9
 obtain⟨e,he,hk4⟩:=gd (show(fR xs i).bind _=some y from X1);have he:(xs:List (den t))[i]?=some e:=he;dsimp only at hk4;obtain⟨hb,hk9⟩:=Pj hk4;have hii:i=m:=Nat.eq_of_beq_eq_true hb;subst hii;exact Ja hcell hon hz he hk9
 ··skip
   obtain⟨e,he,hk⟩:=gd (show(fR xs i).bind _=some y from hk)
   cases hf:X.setDs fU t o l with
   |none=>rw[hf]at hk;cases hk
   |some f=>
    rw[hf]at hk;have hk:X.wrI fU r off (.d (.row true t) (fU.upd t xs i f)) (X.lgR (.c r off) σ) (λ_ σ'=>X.bumps (r,off,2) (X.hdrs ((X.splitX fU t e).drop o) l) σ' k)=some y:=hk;unfold X.wrI at hk;split at hk
    case h_2=>cases hk
    rename_i L hL;have hL:gD σ.ce r=some L:=hL;split at hk
    case isFalse=>cases hk
    rename_i ZA;rw[ua]at hk;obtain⟨σ',h1,h2,h3,h4,h5⟩:=Pi _ _ hk
    have hc:(erS σ).c r off=er1 (.row true t) xs:=by rw[B7,hcell];rfl
    have hL':gD (erS σ).ce r=some (erL L):=by rw[zH,hL];rfl
    obtain⟨q1,q2⟩:=S0 hsz l (σ:=erS σ) hf he hol hc hL' (by rw[iI];exact ZA);refine⟨(),σ',?_,⟨λx hx=>?_,λx hx=>?_,λx hx=>h2 x (by simp[X.lgR,hx]),λx hx=>h3 x (by simp[X.lgR,hx])⟩,h5⟩
    ·rw[q1,h1];simp only[id_eq,oSJ,oPJ,true_and];congr 1;show iJ (erC σ.ce) r _=erC (iJ σ.ce r _);unfold erC;rw[<- ra,wG];rfl
    ·rcases q2.1 x hx with h|(h|h)|⟨h,h'⟩
     ·exact h2 x (by simp[X.lgR,h])
     ·exact h2 x (by simp[X.lgR,h])
     ·exact h2 x (by simp[X.lgR,h])
     ·rw[h];exact(h4 h').1
    ·rcases q2.2 x hx with h|⟨h,h'⟩
     ·simp_all
     ·rw[h];exact(h4 h').2
 |h1::h2::hs=>exact Jb r off (h1::h2::hs) l (by simp)
end
section
variable {α β γ δ Y:Type}
theorem m7(p:XP den)(t:XV den):Sim (Y:=Y) (X.peek1 fU p t) (peek1 (erP p) (er t)) er:=by
 cases t with
 |k x=>exact .ret rfl|d t x=>
 have own:X.isOwT t=true->Sim (Y:=Y) (X.peek1 fU p (.d t x)) (peek1 (erP p) (er (.d t x))) er:=by intro h;have h1:X.isOwX (.d t x:XV den)=true:=h;have ⟨c,hc⟩:=pB h1;rw[hc];show Sim (if X.isOwT t then _ else _) (SP.bind _ _) er;rw[oIP h];exact(wU _).bind λvs=>.ret rfl
 cases t with
  |row o t=>cases o<;>first|exact .ret rfl|exact own rfl
  |nilr o=>cases o<;>first|exact .ret rfl|exact own rfl
  |int k=>exact .ret rfl|bool=>exact .ret rfl|str=>exact .ret rfl|nat=>exact .fail|pair a b=>exact .fail
 |_=>exact .fail
theorem Nh(p:XP den):Sim (Y:=Y) (X.peekP fU p) (peekP (erP p)) er:=by have ⟨r,o,hs⟩:=p;cases hs with|nil=>refine Sim.rdK λt=>Sim.ite (λh=>?_) λh=>?_;have ⟨c,hc⟩:=pB h;rw[hc];exact(wU _).bind λvs=>.ret rfl;rw[Tj (by simp_all) (vi t)];exact(lH ⟨r,o,[]⟩).bind λt=>m7 _ t|cons h hs=>exact(lH ⟨r,o,h::hs⟩).bind λt=>m7 _ t
theorem Ni(r:Nat):∀(n o:Nat),Sim (Y:=Y) (X.peekB fU r o n) (peekL ⟨r,o,[]⟩ n) erL:=by intro n;induction n with|zero=>intro o;exact .ret rfl|succ n ih=>intro o;cases n with|zero=>refine Sim.rdC λt=>(m7 ⟨r,o,[]⟩ t).bind λt'=>?_;exact(Sim.ret (f:=erL) rfl).bind (h:=λl=>.ret (er t'::l)) λl=>.ret rfl|succ n=>exact Sim.rdC λt=>(m7 ⟨r,o,[]⟩ t).bind λt'=>(ih (o+1)).bind λl=>.ret rfl
theorem Rw{r o:Nat}{l:L_}{i sz f n:Nat}:(⟨r,o,l++[(i,sz,f)]⟩:gf).add n=⟨r,o,l++[(i,sz,f+n)]⟩:=by simp[gf.add]
theorem O5{r o:Nat}{l:L_}{i sz f n:Nat}:(⟨r,o,l++[(i,sz,f)]⟩:gf).fits n=decide (f+n<sz):=by simp[gf.fits]
theorem NV:∀{qs:List Key}{σ:St}{a:N_}{τ:St},(rdVs qs).run σ=some (a,τ)->τ=σ:=by intro qs;induction qs with|nil=>intro σ a τ h;simp[rdVs,SP.run]at h;exact h.2.symm|cons q qs ih=>intro σ a τ h;have ⟨l,σ1,h1,h2⟩:=fN h;simp[SP.run]at h2;rw[<- h2.2];exact ih h1
theorem L0{p:gf}{t:TV}{σ:St}{y:TV×St}(h:(peek1 p t).run σ=some y):y.2=σ:=by cases t with|v x=>simp[peek1,SP.run]at h;rw[<- h]|sl c=>simp[peek1,SP.run]at h;rw[<- h]|ow c=>have ⟨l,σ1,h1,h2⟩:=fN h;simp[SP.run]at h2;rw[<- h2];exact NV h1|_=>simp[peek1,SP.run]at h
theorem LZ{r off:Nat}{l:List (den .nat×Nat×Nat)}{i:Nat}{sz:Nat}{tv:TV}:∀(cs:List (XV den))(o:Nat){σ:XS den}{k:List (XV den)->XS den->Option Y}{y:Y},X.peekCs fU ⟨r,off,l++[(i,sz,o)]⟩ cs σ k=some y ->(erS σ).c r off=tv->Loc.c r off∈σ.lg.1->(∀j v,cs[j]?=some v->gE tv (l++[(i,sz,o+j)])=some (er v))->0<cs.length->o+cs.length<=sz ->∃vs σ',(peekL ⟨r,off,l++[(i,sz,o)]⟩ cs.length).run (erS σ)=some (erL vs,erS σ')/\rR σ σ' ((peekL ⟨r,off,l++[(i,sz,o)]⟩ cs.length).foot (erS σ))/\k vs σ'=some y:=by
 intro cs;induction cs with
 |nil=>simp_all|cons t cs ih=>
 intro o σ k y h hc hlg hg h0 hsz;obtain⟨t',σ1,r1,n1,k1⟩:=m7 ⟨r,off,l++[(i,sz,o)]⟩ t σ _ y h;have r1:(peek1 ⟨r,off,l++[(i,sz,o)]⟩ (er t)).run (erS σ)=some (er t',erS σ1):=r1;have hs:erS σ1=erS σ:=L0 r1;have hpl:(getPl ⟨r,off,l++[(i,sz,o)]⟩).run (erS σ)=some (er t,erS σ):=by have h3:gE tv (l++[(i,sz,o)])=some (er t):=hg 0 t rfl;simp only[getPl,SP.run,hc];rw[h3];rfl
 have fpl:(getPl ⟨r,off,l++[(i,sz,o)]⟩).foot (erS σ)=([.c r off],[]):=by simp only[getPl,SP.foot,hc];have:=hg 0 t rfl;simp only[Nat.add_zero]at this;rw[this];rfl
 cases cs with
 |nil=>have k1:k [t'] σ1=some y:=k1;have e:peekL ⟨r,off,l++[(i,sz,o)]⟩ 1=(getPl ⟨r,off,l++[(i,sz,o)]⟩).bind λt=>(peek1 ⟨r,off,l++[(i,sz,o)]⟩ t).bind λt'=>.ret [t']:=rfl;refine⟨[t'],σ1,?_,?_,k1⟩;show(peekL _ 1).run _=_;rw[e,SP.run_bind,hpl];simp only[oBS,SP.run_bind,r1];rfl;show rR σ σ1 ((peekL _ 1).foot _);rw[e,gz _ _ hpl,gz _ _ r1,fpl];refine⟨λx hx=>?_,λx hx=>?_,n1.r0,n1.w0⟩;simp only[SP.foot,List.cons_append,oNA,List.append_nil,oMC]at hx;rcases hx with h|h;rw[h];exact n1.r0 _ hlg;exact n1.r x h;simp only[SP.foot,oNA,List.append_nil]at hx;exact n1.w x hx
 |cons u cs=>
 have eadd:X.addP (⟨r,off,l++[(i,sz,o)]⟩:XP den) 1=⟨r,off,l++[(i,sz,o+1)]⟩:=by simp[X.addP]
 rw[eadd]at k1;simp only[oLC]at hsz h0;obtain⟨vs,σ2,r2,n2,k2⟩:=ih (o+1) k1 (by rw[hs];exact hc) (n1.r0 _ hlg) (λj v hv=>by have:=hg (j+1) v (by simpa using hv);rw[show o+1+j=o+(j+1) by omega];exact this) (by simp) (by simp only[oLC];omega);have e:peekL ⟨r,off,l++[(i,sz,o)]⟩ (u::cs).length.succ=(getPl ⟨r,off,l++[(i,sz,o)]⟩).bind λt=>(peek1 ⟨r,off,l++[(i,sz,o)]⟩ t).bind λt'=>(peekL ⟨r,off,l++[(i,sz,o+1)]⟩ (u::cs).length).bind λr=>.ret (t'::r):=by
  show(getPl _).bind (λt=>(peek1 _ t).bind λt'=>if gf.fits ⟨r,off,l++[(i,sz,o)]⟩ 1 then(peekL (gf.add ⟨r,off,l++[(i,sz,o)]⟩ 1) (cs.length+1)).bind λr=>.ret (t'::r)else .fail)=_;have h3:decide (o+1<sz)=true:=by simpa using(by omega:o+1<sz)
  rw[O5,Rw,h3];rfl
 refine⟨t'::vs,σ2,?_,?_,k2⟩;show(peekL _ (u::cs).length.succ).run _=_;rw[e,SP.run_bind,hpl];simp only[oBS,SP.run_bind,r1,r2];rfl;show rR σ σ2 ((peekL _ (u::cs).length.succ).foot _);rw[e,gz _ _ hpl,gz _ _ r1,gz _ _ r2,fpl];refine⟨λx hx=>?_,λx hx=>?_,λx hx=>n2.r0 x (n1.r0 x hx),λx hx=>n2.w0 x (n1.w0 x hx)⟩;simp only[SP.foot,List.cons_append,oNA,List.append_nil,oMC,oMA]at hx;rcases hx with h|h|h;rw[h];exact n2.r0 _ (n1.r0 _ hlg);exact n2.r0 _ (n1.r x h);exact n2.r x h;simp only[SP.foot,oNA,List.append_nil,oMA]at hx;rcases hx with h|h;exact n2.w0 _ (n1.w x h);exact n2.w x h
theorem GQ(p:XP den)(n:Nat):Sim (Y:=Y) (X.peekL fU p n) (peekL (erP p) n) erL:=by
 obtain⟨r,off,hops⟩:=p;cases hops with
 |nil=>exact Ni r n off|cons h1 hs=>
 intro σ k y hk;have hk:X.elemM fU (X.cOf σ r off) (h1::hs) (λcs=>if X.lastO (h1::hs)+n<=cs.length/\0<n then X.peekCs fU ⟨r,off,h1::hs⟩ ((cs.drop (X.lastO (h1::hs))).take n)else X.fail fU) (X.lgR (.c r off) σ) k=some y:=hk;obtain⟨l,i,sz,o,cs,e1,e2,e3,e4⟩:=Lf hk;have e5:X.lastO (h1::hs)=o:=by rw[e1,zo]
 rw[e5]at e4;dsimp only at e4;split at e4;rename_i hc;have hlen:cs.length=sz:=e2;have Y6:((cs.drop o).take n).length=n:=by rw[oLT,List.length_drop,hlen];omega
 rw[e1]at e4;obtain⟨vs,σ',r1,n1,k1⟩:=LZ (tv:=er (X.cOf σ r off)) _ o e4 (B7 σ r off) (by simp[X.lgR]) (λj v hv=>e3 (o+j) v (by rw[re];rw[List.getElem?_take]at hv;split at hv;rw[List.getElem?_drop]at hv;exact hv;simp at hv)) (by rw[Y6];exact hc.2) (by rw[Y6,<- e2];exact hc.1);rw[Y6]at r1 n1;have ep:erP ⟨r,off,h1::hs⟩=⟨r,off,l++[(i,sz,o)]⟩:=by unfold erP;rw[e1]
 rw[ep];exact⟨vs,σ',r1,⟨n1.r,n1.w,λx hx=>n1.r0 x (by simp[X.lgR,hx]),λx hx=>n1.w0 x hx⟩,k1⟩;cases e4
theorem Nk(r:Nat):∀(l:List (XV den))(i:Nat),Sim (Y:=Y) (X.nameL r i l) (nameL r i (erL l)) erL:=by
 intro l;induction l with
 |nil=>intro i;exact .ret rfl|cons t l ih=>
 intro i;cases ho:X.isOwX t with
 |true=>
 obtain⟨c,hc⟩:=pB ho;have e:nameL r i (erL (t::l))=.rdV (r,0,0) λg=>.rdV (r,i,1) λh=>(nameL r (i+1) (erL l)).bind λl'=>.ret (.pk ⟨r,i,[]⟩ [g,h]::l'):=by simp[erL,hc,nameL]
 rw[e];simp[X.nameL,ho];exact Sim.rdV λg=>Sim.rdV λh=>(ih (i+1)).bind λl'=>.ret rfl
 |false=>
 have e:nameL r i (erL (t::l))=(nameL r (i+1) (erL l)).bind λl'=>.ret (er t::l'):=by
  have h1:nM (er t)=false:=by rw[vi,ho]
  simp[erL];cases he:er t with|ow c=>rw[he]at h1;simp[nM]at h1|_=>rfl
 rw[e];simp[X.nameL,ho,if_false];exact(ih (i+1)).bind λl'=>.ret rfl
theorem R7(l:List (XV den)):(erL l).any nM=l.any X.isOwX:=by induction l with|nil=>rfl|cons t l ih=>simp[erL,vi,ih]
theorem Bb(d:Nat)(l:List (XV den)):Sim (Y:=Y) (X.names fU d l) (names d (erL l)) erL:=by unfold X.names names;rw[R7];by_cases h:l.any X.isOwX=true;rw[oIP h,oIP h];exact Sim.new rfl (Nk _ l 0);rw[oIN h,oIN h];exact .ret rfl
theorem DP(agg:Bool)(l:List (XV den)):er (X.shapedX agg l)=td agg (erL l):=by cases agg with|true=>rfl|false=>exact IH l
theorem gM(d:Nat){t:XV den}{t':TV}(e:er t=t'):Sim (Y:=Y) (X.wr fU d t) (wr d t') id:=by subst e;exact A8 d t
theorem pn(d:Nat)(agg:Bool){l:List (XV den)}{l':U_}(e:erL l=l'):Sim (Y:=Y) (X.inst fU d agg l) (inst d agg l') id:=by subst e;exact(Bb d l).bind λl'=>gM d (DP agg l')
theorem rB(t:XV den):Sim (Y:=Y) (X.natOf fU t) (natOf (er t)) id:=by
 cases t with
 |d t x=>cases t with|int k=>refine Sim.nat λm hm=>?_;subst hm;exact .ret rfl|_=>exact .fail
 |_=>exact .fail
theorem GR(t:XV den):Sim (Y:=Y) (X.lenOf fU t) (vE (er t)) id:=by
 cases t with
 |d t x=>cases t with
  |row o t=>cases o with|false=>exact .ret (oLP _).symm|true=>exact .fail
  |nilr o=>cases o<;>exact .ret rfl|_=>exact .fail
 |pk p vs=>
 refine(iP p _ vs).bind λ_=>(KD p).bind λt=>?_;cases t with
  |d t x=>cases t with
   |row o t=>cases o with|true=>exact .ret (show _=(List.map List.length (List.map (enc t) x)).length by simp;rfl)|false=>exact .fail
   |nilr o=>cases o with|true=>exact .ret rfl|false=>exact .fail
   |_=>exact .fail
  |half t x m=>exact .ret (show _=(List.map List.length (lu t m x)).length by rw[oLP,BF];rfl)|_=>exact .fail
 |pw p vs sz lo n=>exact(iP p _ vs).bind λ_=>.ret rfl|_=>exact .fail
theorem DO(o:Option Opd)(d:Nat):Sim (Y:=Y) (X.optNat fU o d) (optNat o d) id:=by cases o with|none=>exact .ret rfl|some o=>exact(Ba o).bind λt=>rB t
theorem wT(mv:Bool):∀l:e_,Sim (Y:=Y) (X.takeParts fU mv l) (takeParts mv l) erL:=by intro l;induction l with|nil=>exact .ret rfl|cons x l ih=>have ⟨off,n,x⟩:=x;refine(Ba x).bind λt=>?_;rw[Cj];refine(tY mv _).bind λl1=>?_;refine Sim.ite (λhn=>?_) λ_=>.fail;rw[oIP (by rw[iI];exact hn)];exact ih.bind λl'=>.ret (rI _ _)
theorem Ob:∀(l cells:List (XV den))(off:Nat),erL (X.placeX cells off l)=nJ (erL cells) off (erL l):=by intro l;induction l with|nil=>intros;rfl|cons t l ih=>intro cells off;simp[X.placeX,erL,nJ];rw[ih,wG]
theorem IT:∀(ps:e_)(cells l:List (XV den)),erL (X.assembleX cells ps l)=sT (erL cells) ps (erL l):=by intro ps;induction ps with|nil=>intros;rfl|cons p ps ih=>intro cells l;simp[X.assembleX,sT];rw[ih,Ob,xF,AR]
theorem MK(sz:Nat):∀(n:Nat)(l:List (XV den)),(X.chunksX sz n l).map erL=qf sz n (erL l):=by intro n;induction n with|zero=>intros;rfl|succ n ih=>intro l;simp only[X.chunksX,oPC,qf];rw[ih,xF,AR]
theorem AU(z:w_):erL (z.map (X.cellX fU))=z.map iL:=by rw[kV,oPM];exact List.map_congr_left λy _=>AV y
theorem yN{z:w_}(h:(z.map (X.cellX fU)).all X.okCellX=true):(z.map iL).all is=true:=by rw[<- AU,kV,List.all_map];rw[oAE]at h⊢;intro x hx;exact L8 (h x hx)
end
section
variable {α β γ δ Y:Type}
theorem Ey(v:Value):Jo (pure v)=some v:=rfl
theorem UW{k:IntKind}{a b:Int}{op:BinOp}(h:op=.add\/op=.sub\/op=.mul\/op=.and\/op=.or\/op=.xor\/op=.andNot):iY op (.int k a) (.int k b)=some (.int k (arR op k a b)):=by rcases h with rfl|rfl|rfl|rfl|rfl|rfl|rfl<;>simp[iY,Go.binOp,Op.intArith,Op.intBits,arR,Ey]
theorem UV{k:IntKind}{a b:Int}{op:BinOp}(h:op=.eql\/op=.neq\/op=.lss\/op=.leq\/op=.gtr\/op=.geq):iY op (.int k a) (.int k b)=some (.bool (cmR op a b)):=by rcases h with rfl|rfl|rfl|rfl|rfl|rfl<;>simp[iY,Go.binOp,Op.intCmp,cmR,Ey]
theorem UU{k:IntKind}{a b:Int}{op:BinOp}(h:op=.quo\/op=.rem)(hb:b≠0):iY op (.int k a) (.int k b)=some (.int k (arR op k a b)):=by rcases h with rfl|rfl<;>simp[iY,Go.binOp,Op.intDiv,arR,Ey,hb]
theorem R5{k k':IntKind}{a:Int}{n:Nat}{op:BinOp}(h:op=.shl\/op=.shr):iY op (.int k a) (.int k' n)=some (.int k (shR op k a n)):=by rcases h with rfl|rfl<;>simp[iY,Go.binOp,Op.shift,shR,Ey,show ¬((n:Int)<0) by omega]
theorem R4{a b:ByteArray}:iY .eql (.string a) (.string b)=some (.bool (Vu a b))/\iY .neq (.string a) (.string b)=some (.bool (!(Vu a b))):=⟨rfl,rfl⟩
theorem Tu{a b:ByteArray}(h:R0 a b=true):iY .add (.string a) (.string b)=some (.string (US a b)):=by
 have h:=of_decide_eq_true h;have e:¬(((a.size+b.size:Nat):Int)>IntKind.i64.max):=by show ¬(((a.size+b.size:Nat):Int)>9223372036854775807);omega
 show Jo (if((a.size+b.size:Nat):Int)>IntKind.i64.max then _ else _)=_;rw[oIN e];rfl
theorem zf(d:Nat){op:BinOp}{x y r:Value}{t:XV den}(h:iY op x y=some r)(hf:kn r=true)(e:er t=.v r):Sim (Y:=Y) (X.wr fU d t) ((qp (iY op x y)).bind λr=>if kn r then wr d (.v r)else .fail) id:=by rw[h];show Sim _ (if kn r then wr d (.v r)else .fail) id;rw[oIP hf];exact gM d e
theorem T4(d:Nat)(op:BinOp)(a b:XV den):Sim (Y:=Y) (X.binX fU d op a b) ((yx (er a)).bind λa=>(yx (er b)).bind λb=>(qp (iY op a b)).bind λr=>if kn r then wr d (.v r)else .fail) id:=by
 cases a with
 |d t x=>cases t with
  |int k=>cases b with
   |d u y=>cases u with
    |int k'=>
    have ar:(op=.add\/op=.sub\/op=.mul\/op=.and\/op=.or\/op=.xor\/op=.andNot)->Sim (Y:=Y) (if h:k'=k then X.wr fU d (.d (.int k) (fU.ar op k x (h▸y)))else X.fail fU) ((qp (iY op (.int k x) (.int k' y))).bind λr=>if kn r then wr d (.v r)else .fail) id:=by intro hop;by_cases h:k'=k;subst h;rw[dif_pos rfl];exact zf d (UW hop) rfl rfl;rw[dif_neg h];exact .fail
    have cm:(op=.eql\/op=.neq\/op=.lss\/op=.leq\/op=.gtr\/op=.geq)->Sim (Y:=Y) (if h:k'=k then X.wr fU d (.d .bool (fU.cm op k x (h▸y)))else X.fail fU) ((qp (iY op (.int k x) (.int k' y))).bind λr=>if kn r then wr d (.v r)else .fail) id:=by intro hop;by_cases h:k'=k;subst h;rw[dif_pos rfl];exact zf d (UV hop) rfl rfl;rw[dif_neg h];exact .fail
    have dv:(op=.quo\/op=.rem)->Sim (Y:=Y) (if h:k'=k then X.brM fU (fU.cm .neq k' y (fU.lit k' 0)) (X.wr fU d (.d (.int k) (fU.ar op k x (h▸y))))else X.fail fU) ((qp (iY op (.int k x) (.int k' y))).bind λr=>if kn r then wr d (.v r)else .fail) id:=by intro hop;by_cases h:k'=k;subst h;rw[dif_pos rfl];refine Sim.br λhb=>zf d (UU hop ?_) rfl rfl;have hb:((y:Int) != 0)=true:=hb;simp_all;rw[dif_neg h];exact .fail
    cases op with|add=>exact ar (by simp)|sub=>exact ar (by simp)|mul=>exact ar (by simp)|and=>exact ar (by simp)|or=>exact ar (by simp)|xor=>exact ar (by simp)|andNot=>exact ar (by simp)|eql=>exact cm (by simp)|neq=>exact cm (by simp)|lss=>exact cm (by simp)|leq=>exact cm (by simp)|gtr=>exact cm (by simp)|geq=>exact cm (by simp)|quo=>exact dv (by simp)|rem=>exact dv (by simp)|shl=>refine Sim.nat λn hn=>?_;have hn:y=(n:Int):=hn;subst hn;exact zf d (R5 (.inl rfl)) rfl rfl|shr=>refine Sim.nat λn hn=>?_;have hn:y=(n:Int):=hn;subst hn;exact zf d (R5 (.inr rfl)) rfl rfl
    |_=>exact .fail
   |_=>exact .fail
  |str=>cases b with
   |d u y=>cases u with
    |str=>cases op with|eql=>exact zf d R4.1 rfl rfl|neq=>exact zf d R4.2 rfl rfl|add=>exact Sim.br λh=>zf d (Tu h) rfl rfl|_=>exact .fail
    |_=>exact .fail
   |_=>exact .fail
  |_=>exact .fail
 |_=>exact .fail
theorem Rc:∀{ks:S_}{xs ys:List (XV den)}{c:Bool},X.eqAll fU ks xs ys=some c->∃vs ws,gJ (erL xs)=some vs/\gJ (erL ys)=some ws/\gU ks vs ws=some c:=by
 intro ks;induction ks with
 |nil=>
 intro xs ys c h;cases xs with
  |nil=>cases ys with|nil=>simp only[X.eqAll,oSJ]at h;subst h;exact⟨[],[],rfl,rfl,rfl⟩|cons=>simp[X.eqAll]at h
  |cons=>simp[X.eqAll]at h
 |cons f ks ih=>
 intro xs ys c h;cases xs with
 |nil=>cases f<;>simp[X.eqAll]at h|cons x xs=>cases ys with
  |nil=>cases f<;>simp[X.eqAll]at h|cons y ys=>
  cases x with
  |d t a=>cases y with
   |d u b=>
   cases f with
    |i=>cases t with
     |int k=>cases u with|int k'=>simp only[X.eqAll]at h;split at h;rename_i hk;subst hk;obtain⟨c',h1,rfl⟩:=kF h;obtain⟨vs,ws,e1,e2,e3⟩:=ih h1;refine⟨.int k' a::vs,.int k' b::ws,by simp only[erL,er,er1,gJ,e1,oMS],by simp only[erL,er,er1,gJ,e2,oMS],?_⟩;simp only[gU,if_true,e3,oMS];rfl;simp at h|_=>simp[X.eqAll]at h
     |_=>simp[X.eqAll]at h
    |b=>cases t with
     |bool=>cases u with|bool=>simp only[X.eqAll]at h;obtain⟨c',h1,rfl⟩:=kF h;obtain⟨vs,ws,e1,e2,e3⟩:=ih h1;refine⟨.bool a::vs,.bool b::ws,by simp only[erL,er,er1,gJ,e1,oMS],by simp only[erL,er,er1,gJ,e2,oMS],?_⟩;simp only[gU,e3,oMS];rfl|_=>simp[X.eqAll]at h
     |_=>simp[X.eqAll]at h
    |s=>cases t with
     |str=>cases u with|str=>simp only[X.eqAll]at h;obtain⟨c',h1,rfl⟩:=kF h;obtain⟨vs,ws,e1,e2,e3⟩:=ih h1;refine⟨.string a::vs,.string b::ws,by simp only[erL,er,er1,gJ,e1,oMS],by simp only[erL,er,er1,gJ,e2,oMS],?_⟩;simp only[gU,e3,oMS];rfl|_=>simp[X.eqAll]at h
     |_=>simp[X.eqAll]at h
   |_=>cases f<;>simp[X.eqAll]at h
  |_=>cases f<;>simp[X.eqAll]at h
theorem P3{f:Opd->XM den Option Y (XV den)}{g:Opd->SP β}{e:XV den->β}(h:∀x,Sim (f x) (g x) e):∀l:O_,Sim (X.mapM' f l) (Ur g l) (List.map e):=by intro l;induction l with|nil=>exact .ret rfl|cons x l ih=>exact(h x).bind λy=>ih.bind λl'=>.ret rfl
def U8(x:XV den):Value:=match x with|.d (.int k) n=>.int k n|_=>undef
theorem Nn(t:XV den):Sim (Y:=Y) (X.intOf fU t) (yx (er t)) U8:=by
 cases t with
 |d t x=>cases t with|int k=>exact .ret rfl|_=>exact .fail
 |_=>exact .fail
theorem QH{mx:Bool}{k:IntKind}:∀{r:List (XV den)}{a m:Int},X.mmAll fU mx k a r=some m->zF mx k a (r.map U8)=some m:=by
 intro r;induction r with
 |nil=>intro a m h;exact h|cons x r ih=>
 intro a m h;cases x with
 |d t b=>cases t with|int k'=>simp only[X.mmAll]at h;split at h;rename_i hk;subst hk;have:=ih h;simp[U8,zF];exact this;simp at h|_=>simp[X.mmAll]at h
 |_=>simp[X.mmAll]at h
theorem QR:∀{t:CT}{l r:List (XV den)}{x:den t},X.joinX fU t l=some (x,r)->erL l=enc t x++erL r:=by
 have one:∀{u:CT}(hu:X.oneT u=true){l r:List (XV den)}{x:den u},X.joinC fU u l=some (x,r)->erL l=enc u x++erL r:=by
  intro u hu l r x h;unfold X.joinC at h;split at h;rename_i t y r';have ⟨z,h1,h2⟩:=kF h;injection h2 with h2 h3
  subst h2;subst h3;rw[ul hu,Ll h1];rfl;simp at h
 intro t;induction t with
 |pair a b ZF ZC=>
 intro l r x h;simp[X.joinX]at h;split at h;rename_i x1 r1 h1;split at h;rename_i y1 r2 h2;injection h with h
 injection h with h h3
 subst h;subst h3;rw[ZF h1,ZC h2,<- List.append_assoc];rfl;simp at h;simp at h
 |nat=>intro l r x h;simp[X.joinX]at h|int k=>intro l r x h;exact one rfl h|bool=>intro l r x h;exact one rfl h|str=>intro l r x h;exact one rfl h|row o t=>intro l r x h;exact one rfl h|nilr o=>intro l r x h;exact one rfl h
theorem DY{t:CT}{l:List (XV den)}{x:den t}(h:X.joinOne fU t l=some x):erL l=enc t x:=by
 unfold X.joinOne at h;split at h;rename_i y h1;injection h with h
 subst h;rw[QR h1];simp[erL];simp at h
theorem Mn{t:CT}:∀{ls:List (List (XV den))}{xs:List (den t)},X.joinAll fU t ls=some xs->ls.map erL=xs.map (enc t):=by
 intro ls;induction ls with
 |nil=>intro xs h;simp[X.joinAll]at h;subst h;rfl|cons l ls ih=>
 intro xs h;simp[X.joinAll]at h;split at h;rename_i x xs' h1 h2;injection h with h
 subst h;simp only[oPC];rw[DY h1,ih h2];simp at h
theorem Qf{Zr:Option CT}{ls:List (List (XV den))}{v:XV den}(h:X.rowOf fU Zr ls=some v):er v=.ow (ls.map erL):=by
 unfold X.rowOf at h;split at h;injection h with h;subst h;rfl
 split at h;obtain⟨es,h1,rfl⟩:=kF h;rw[Mn h1];rfl;simp at h
theorem Qi{Zr:Option CT}{n:Nat}{l:List (XV den)}{v:XV den}(h:X.repOf fU Zr n l=some v):er v=.ow (List.replicate n (erL l)):=by unfold X.repOf at h;split at h;obtain⟨e,h1,rfl⟩:=kF h;rw[DY h1];show TV.ow (List.map _ (List.replicate n e))=_;simp_all;simp at h
theorem wL(t:CT)(xs:List (den t)):(List.map (enc t) xs).all (λe=>e.length==jV t)=true:=by simp[ii]
theorem Rp{sz bytes:Nat}{c c2:o_}(h1:c.all (λe=>e.length==sz)=true)(h2:c2.all (λe=>e.length==sz)=true)(h:gh bytes c.length c2.length=true):((c++c2).all (λe=>e.length==sz)&&decide (c.length+c2.length<=1099511627776)&&decide ((c.length+c2.length)*bytes<=140737488355328))=true:=by rw[List.all_append,h1,h2];simpa[gh]using h
theorem RL(d sz bytes:Nat)(Zr:Option CT)(s x:XV den):Sim (Y:=Y) (X.appX fU d sz bytes Zr s x) (match er s,er x with
 |.ow c,.ow c2=>if(c++c2).all (λe=>e.length==sz)&&decide (c.length+c2.length<=1099511627776)&&decide ((c.length+c2.length)*bytes<=140737488355328)then inst d false [.ow (c++c2)]else .fail
 |.ow c,.sl c2=>if(c++c2).all (λe=>e.length==sz)&&decide (c.length+c2.length<=1099511627776)&&decide ((c.length+c2.length)*bytes<=140737488355328)then inst d false [.ow (c++c2)]else .fail
 |_,_=>.fail) id:=by
 have key:∀{t:CT}{c c3:List (den t)}{c' c2':o_}{a:XV den},jV t=sz\/(c'=[]/\c2'=[])->c'=c.map (enc t)->c2'=c3.map (enc t)->er a=.ow (c'++c2')->gh bytes c'.length c2'.length=true ->
  Sim (Y:=Y) (X.inst fU d false [a]) (if(c'++c2').all (λe=>e.length==sz)&&decide (c'.length+c2'.length<=1099511627776)&&decide ((c'.length+c2'.length)*bytes<=140737488355328)then inst d false [.ow (c'++c2')]else .fail) id:=by
  intro t c c3 c' c2' a hsz e1 e2 ea hok;rw[oIP]
  ·exact pn d false (by simp only[erL,ea])
  ·refine Rp ?_ ?_ hok
   ·rcases hsz with hsz|⟨h1,h2⟩
    ·rw[e1,<- hsz];exact wL t c
    ·rw[h1];rfl
   ·rcases hsz with hsz|⟨h1,h2⟩
    ·rw[e2,<- hsz];exact wL t c3
    ·rw[h2];rfl
 cases s with
 |d ts c=>cases ts with
  |row ow t=>cases ow with
   |false=>exact .fail
   |true=>cases x with
    |d tx c2=>cases tx with
     |row o t2=>
      refine Sim.ite (λhsz=>Sim.opt λc3 h3=>Sim.br λhok=>?_) λ_=>.fail;have h4:=Km h3;have hok:gh bytes (List.length c) (List.length c2)=true:=hok
      have h5:List.map (enc t2) (c2:List (den t2))=List.map (enc t) (c3:List (den t)):=by
       cases o with
       |true=>
        have h6:=h4
        injection h6 with h6
        injection h6 with h6
        exact h6.symm
       |false=>
        have h6:=h4
        injection h6 with h6
        injection h6 with h6
        exact h6.symm
      cases o<;>exact key (t:=t) (c:=c) (c3:=c3) (.inl hsz) rfl h5 (by show TV.ow (List.map (enc t) (List.append c c3))=_;rw[h5,<- List.map_append];rfl) (by simpa using hok)
     |nilr o=>
      refine Sim.ite (λhsz=>Sim.br λhok=>?_) λ_=>.fail;have hok:gh bytes (List.length c) 0=true:=hok;cases o<;>exact key (t:=t) (c:=c) (c3:=[]) (.inl hsz) rfl rfl (by simp[er,er1]) (by simpa using hok)
     |_=>exact .fail
    |_=>exact .fail
  |nilr ow=>cases ow with
   |false=>exact .fail
   |true=>cases x with
    |d tx c2=>cases tx with
     |row o t2=>
      refine Sim.ite (λhsz=>Sim.opt λc3 h3=>Sim.br λhok=>?_) λ_=>.fail;have h4:=Km h3;have hok:gh bytes 0 (List.length c2)=true:=hok
      have h5:List.map (enc t2) (c2:List (den t2))=List.map (enc (X.resT Zr t2)) (c3:List (den (X.resT Zr t2))):=by
       cases o with
       |true=>
        have h6:=h4
        injection h6 with h6
        injection h6 with h6
        exact h6.symm
       |false=>
        have h6:=h4
        injection h6 with h6
        injection h6 with h6
        exact h6.symm
      cases o<;>exact key (t:=t2) (c:=[]) (c3:=c2) (.inl hsz) rfl rfl (by show TV.ow (List.map (enc (X.resT Zr t2)) (List.append [] c3))=_;rw[h5];rfl) (by simpa using hok)
     |nilr o=>
      refine Sim.br λhok=>?_;cases o<;>exact key (t:=.bool) (c:=[]) (c3:=[]) (.inr ⟨rfl,rfl⟩) rfl rfl rfl hok
     |_=>exact .fail
    |_=>exact .fail
  |_=>exact .fail
 |_=>exact .fail
end
section
variable {α β γ δ Y:Type}
theorem AI{x:Opd}{σ:XS den}{k:XV den->XS den->Option Y}{y:Y}(h:X.opd fU x σ k=some y):∃t σ',(opd x).run (erS σ)=some (er t,erS σ)/\erS σ'=erS σ/\rR σ σ' ((opd x).foot (erS σ))/\k t σ'=some y:=by
 have ⟨t,σ',h1,h2,h3⟩:=Ba x σ k y h;have e:erS σ'=erS σ:=by cases x with|t i=>simp[opd,SP.run]at h1;exact h1.2.symm|c v=>simp[opd,SP.run]at h1;exact h1.2.symm|f f=>simp[opd,SP.run]at h1;exact h1.2.symm
 rw[e]at h1;exact⟨t,σ',h1,e,h2,h3⟩
theorem AQ{t:CT}(h:X.flat1 t=true):∀x:den t,∃v,er (.d t x)=.v v:=by
 cases t<;>simp[X.flat1]at h
 all_goals exact λx=>⟨_,rfl⟩
theorem Qr{d:Nat}{tc ta tb:XV den}{σ:XS den}{k:Unit->XS den->Option Y}{y:Y}(h:X.pickX fU d tc ta tb σ k=some y):∃c v t,er tc=.v (.bool c)/\er (if c then ta else tb)=.v v/\er t=.v v/\X.wr fU d t σ k=some y:=by
 unfold X.pickX at h;split at h;rename_i c k1 x k2 z;split at h;rename_i hk;subst hk;refine⟨c,.int k2 (bif c then x else z),_,rfl,?_,rfl,h⟩;cases c<;>rfl
 cases h;rename_i c x z;refine⟨c,.bool (bif c then x else z),_,rfl,?_,rfl,h⟩;cases c<;>rfl
 rename_i c x z;refine⟨c,.string (bif c then x else z),_,rfl,?_,rfl,h⟩;cases c<;>rfl
 split at h
 ·rename_i hf
  rename den .bool=>c
  cases c with
  |true=>exact⟨true,_,_,rfl,(AQ hf _).choose_spec,(AQ hf _).choose_spec,h⟩
  |false=>cases h
 cases h;split at h
 ·rename_i hf
  rename den .bool=>c
  cases c with
  |false=>exact⟨false,_,_,rfl,(AQ hf _).choose_spec,(AQ hf _).choose_spec,h⟩
  |true=>cases h
 cases h;cases h
theorem Sd(HT:List (Nat×CT))(d:Nat)(c a b:Opd):Sim (Y:=Y) (X.ev1 fU HT d (.pick c a b)) (ev1 d (.pick c a b)) id:=by
 intro σ k y hk;obtain⟨tc,σ1,r1,e1,n1,hk⟩:=AI (show X.opd fU c σ (λtc σ1=>X.opd fU a σ1 λta σ2=>X.opd fU b σ2 λtb σ3=>X.pickX fU d tc ta tb σ3 k)=some y from hk);obtain⟨ta,σ2,r2,e2,n2,hk⟩:=AI hk;obtain⟨tb,σ3,r3,e3,n3,hk⟩:=AI hk;obtain⟨cv,v,t,h1,h2,h3,hk⟩:=Qr hk;obtain⟨u,σ',r4,n4,hk⟩:=gM d h3 σ3 k y hk;have e13:erS σ3=erS σ:=by rw[e3,e2,e1]
 have hx:(opd (if cv then a else b)).run (erS σ)=some (.v v,erS σ)/\rR σ1 σ3 ((opd (if cv then a else b)).foot (erS σ)):=by rw[e1]at r2 n2;rw[e2,e1]at r3 n3;cases cv with|true=>exact⟨by simp_all,⟨λx hx=>n3.r0 x (n2.r x hx),λx hx=>n3.w0 x (n2.w x hx),λx hx=>n3.r0 x (n2.r0 x hx),λx hx=>n3.w0 x (n2.w0 x hx)⟩⟩|false=>exact⟨by simp_all,⟨λx hx=>n3.r x hx,λx hx=>n3.w x hx,λx hx=>n3.r0 x (n2.r0 x hx),λx hx=>n3.w0 x (n2.w0 x hx)⟩⟩
 obtain⟨Z0,Y4⟩:=hx;have rc:(opd c).run (erS σ)=some (.v (.bool cv),erS σ):=by rw[r1,h1]
 refine⟨(),σ',?_,?_,hk⟩;simp only[ev1];rw[SP.run_bind,rc];simp;rw[SP.run_bind,Z0];simp_all;simp only[ev1];rw[gz _ _ rc];simp only;rw[gz _ _ Z0];rw[e13]at n4;refine⟨λx hx=>?_,λx hx=>?_,λx hx=>n4.r0 x (Y4.r0 x (n1.r0 x hx)),λx hx=>n4.w0 x (Y4.w0 x (n1.w0 x hx))⟩;rcases oMA.1 hx with hx|hx;exact n4.r0 x (Y4.r0 x (n1.r x hx));rcases oMA.1 hx with hx|hx;exact n4.r0 x (Y4.r x hx);exact n4.r x hx;rcases oMA.1 hx with hx|hx;exact n4.w0 x (Y4.w0 x (n1.w x hx));rcases oMA.1 hx with hx|hx;exact n4.w0 x (Y4.w x hx);exact n4.w x hx
theorem Ox{n:x_}{cs:List (XV den)}{t:XV den}(h:X.loadIp n cs=some t):loadIp n (erL cs)=some (er t):=by
 cases n with
 |none=>
 cases cs with
  |nil=>simp[X.loadIp]at h|cons x cs=>
  have key:(if X.okCellX x && !X.isOwX x then some x else none)=some t->loadIp none (erL (x::cs))=some (er t):=λh=>by
   split at h;rename_i hc;injection h with h
   subst h;simp at hc;rcases t7 hc.1 hc.2 with⟨y,hy⟩|⟨c,hc⟩;simp only[loadIp,erL,hy];simp only[loadIp,erL,hc];simp at h
  cases x with|ip l=>simp only[X.loadIp,oSJ]at h;subst h;rfl|fn f l=>simp only[X.loadIp,oSJ]at h;subst h;rfl|_=>exact key h
 |some n=>
 simp only[X.loadIp]at h;split at h;rename_i hc;injection h with h
 subst h;simp only[oBA,oDE]at hc;simp only[loadIp];rw[oIP];simp only[er,xF];simp only[oBA,oDE];refine⟨by rw[iI];exact hc.1,?_⟩;rw[<- xF,kV,List.all_map,oAE];intro x hx;have:=oAE.1 hc.2 x hx;simp at this;simp;rcases t7 this.1 this.2 with⟨y,hy⟩|⟨c,hc⟩;rw[hy];rw[hc];simp at h
theorem B3:∀{t:CT}(x:den t),X.flatT t=true->∃vs,gJ (enc t x)=some vs/\vs.length=jV t/\(vs.all kn=true)/\enc t x=vs.map TV.v/\0<jV t:=by
 intro t;induction t with
 |int k=>intro x _;exact⟨[.int k x],rfl,rfl,rfl,rfl,Nat.one_pos⟩|bool=>intro x _;exact⟨[.bool x],rfl,rfl,rfl,rfl,by decide⟩|str=>intro x _;exact⟨[.string x],rfl,rfl,rfl,rfl,by decide⟩|pair a b ZF ZC=>
 intro x h;simp only[X.flatT,oBA]at h;obtain⟨vs,e1,e2,e3,e4,e5⟩:=ZF x.1 h.1;obtain⟨ws,f1,f2,f3,f4,f5⟩:=ZC x.2 h.2;refine⟨vs++ws,?_,by simp[e2,f2,jV],by simp_all,by show enc a x.1++enc b x.2=_;rw[e4,f4];simp,by simp[jV];omega⟩;show gJ (enc a x.1++enc b x.2)=_;rw[e4,f4];have:∀l:w_,gJ (l.map TV.v)=some l:=by intro l;induction l with|nil=>rfl|cons y l ih=>simp[gJ,ih]
 rw[<- List.map_append,this]
 |_=>intro x h;simp[X.flatT]at h
theorem Og(sz:Nat)(h0:0<sz):∀(vs:w_)(c:o_)(lo j:Nat)(rest:w_),j+vs.length=sz->(∀el,c[lo]?=some el->el.length=sz)->rD sz c (lo*sz+j) (vs++rest)=rD sz (c.modify lo λel=>el.take j++vs.map TV.v) ((lo+1)*sz) rest:=by
 intro vs;induction vs with
 |nil=>
 intro c lo j rest hj YT;have hj:j=sz:=by simpa using hj
 subst hj;simp;have e:(c.modify lo λel=>el.take j)=c:=by
  apply oEG;intro i;rw[oGM];by_cases h:lo=i;subst h;cases hc:c[lo]? with|none=>rfl|some el=>simp only[if_true];show some (el.take j)=some el;rw[List.take_of_length_le (by rw[YT el hc];exact oLE _)]
  simp only[oIN h];cases c[i]?<;>rfl
 rw[e,Nat.succ_mul]
 |cons v vs ih=>
 intro c lo j rest hj YT;simp only[oLC]at hj;have hjs:j<sz:=by omega
 show rD sz (c.modify ((lo*sz+j)/sz) λel=>el.modify ((lo*sz+j)%sz) λ_=>.v v) (lo*sz+j+1) (vs++rest)=_;have e1:(lo*sz+j)/sz=lo:=by rw[Nat.mul_comm,Nat.mul_add_div h0,Nat.div_eq_of_lt hjs];rfl
 have e2:(lo*sz+j)%sz=j:=by rw[Nat.mul_comm,Nat.mul_add_mod,Nat.mod_eq_of_lt hjs]
 rw[e1,e2,show lo*sz+j+1=lo*sz+(j+1) by omega];have hel':∀el,(c.modify lo λel=>el.modify j λ_=>.v v)[lo]?=some el->el.length=sz:=by simp_all
 rw[ih _ lo (j+1) rest (by omega) hel'];congr 1;apply oEG;intro i;simp only[oGM];by_cases h:lo=i;subst h;simp only[if_true];cases hc:c[lo]? with
 |none=>rfl|some el=>
  simp only[Option.map_eq_map,oMS,oSJ];have hl:=YT el hc;apply oEG;intro m;simp only[oPC];by_cases hm:m<j;rw[oAL (by rw[oLT,oLM];omega),oAL (by rw[oLT];omega),List.getElem?_take,List.getElem?_take,oIP (by omega),oIP (by omega),oGM];have:¬j=m:=by omega
  simp only[this,if_false];simp;by_cases hm2:m=j;subst hm2;rw[oAL (by rw[oLT,oLM];omega),oAR (by rw[oLT];omega),List.getElem?_take,oIP (by omega),oGM,oLT];have:m-min m el.length=0:=by omega
  rw[this];have h3:m<el.length:=by omega
  rw[oGE h3];simp;rw[oAR (by rw[oLT,oLM];omega),oAR (by rw[oLT];omega),oLT,oLT,oLM];have:m-min j el.length=(m-min (j+1) el.length)+1:=by omega
  rw[this,List.getElem?_cons_succ]
 simp only[oIN h];cases c[i]?<;>rfl
theorem L3{t:CT}(hf:X.flatT t=true):∀(ys xs:List (den t))(lo:Nat)(vals:w_),gJ ((ys.map (enc t)).flatten)=some vals->lo+ys.length<=xs.length->rD (jV t) (xs.map (enc t)) (lo*jV t) vals=(xs.take lo++ys++xs.drop (lo+ys.length)).map (enc t):=by
 intro ys;induction ys with
 |nil=>intro xs lo vals h hl;simp only[List.map_nil,List.flatten_nil,gJ,oSJ]at h;subst h;simp[rD]|cons y ys ih=>
 intro xs lo vals h hl;simp only[oLC]at hl;obtain⟨vs,e1,e2,e3,e4,e5⟩:=B3 y hf;obtain⟨ws,h2,rfl⟩:∃ws,gJ ((ys.map (enc t)).flatten)=some ws/\vals=vs++ws:=by
  simp only[oPC,List.flatten_cons,e4]at h;have:∀(l:w_)(r:U_),gJ (l.map TV.v++r)=(gJ r).map (l++·):=by intro l r;induction l with|nil=>simp|cons z l ih=>simp only[oPC,List.cons_append,gJ,ih];cases gJ r<;>rfl
  rw[this]at h;obtain⟨ws,h3,h4⟩:=kF h;simp_all
 have:=Og (jV t) e5 vs (xs.map (enc t)) lo 0 ws (by omega) (λel YT=>by rw[oGP]at YT;cases hx:xs[lo]? with|none=>rw[hx]at YT;simp at YT|some z=>rw[hx]at YT;simp only[oMS,oSJ]at YT;rw[<- YT,ii]);rw[Nat.add_zero]at this;rw[this];have e6:((xs.map (enc t)).modify lo λel=>el.take 0++vs.map TV.v)=(xs.set lo y).map (enc t):=by
  apply oEG;intro i;by_cases hi:lo=i;subst hi;have hlt:lo<xs.length:=by omega
  simp[hlt,e4];simp[hi]
 rw[e6,ih (xs.set lo y) (lo+1) ws h2 (by rw[oLS];omega)];congr 1;rw[List.take_set,List.drop_set,oIP (by omega)];have:(xs.take (lo+1)).set lo y=xs.take lo++[y]:=by
  rw[List.take_succ_eq_append_getElem (by omega:lo<xs.length),List.set_append_right _ _ (by rw[oLT];omega)];congr 1;have:lo-(xs.take lo).length=0:=by rw[oLT];omega
  rw[this];rfl
 rw[this];simp;rw[show lo+1+ys.length=lo+(ys.length+1) by omega]
end
section
variable {α β γ δ Y:Type}
theorem AY{c:Bool}{m m':XM den Option Y α}{s:SP β}{f:α->β}(h:c=true->Sim m s f)(h':c=false->Sim m' s f):Sim (X.forkM fU c m m') s f:=by intro σ k y hk;cases c with|true=>exact h rfl σ k y hk|false=>exact h' rfl σ k y hk
def MG(v:XV den):o_:=match er v with|.sl c=>c|.ow c=>c|_=>[]
theorem DF(t:XV den):Sim (Y:=Y) (X.contentOf fU t) (contentOf (er t)) MG:=by
 cases t with
 |d t x=>cases t with
  |row o t=>cases o with|false=>exact .ret rfl|true=>exact .fail
  |nilr o=>cases o<;>exact .ret rfl|_=>exact .fail
 |pk p vs=>
 refine(iP p _ vs).bind λ_=>(lH p).bind λt=>?_;cases t with
  |d t x=>cases t with
   |row o t=>cases o with|true=>exact .ret rfl|false=>exact .fail
   |nilr o=>cases o with|true=>exact .ret rfl|false=>exact .fail
   |_=>exact .fail
  |_=>exact .fail
 |pw p vs sz lo n=>
 refine(iP p _ vs).bind λ_=>(lH p).bind λt=>?_;cases t with
  |d t x=>cases t with
   |row o t=>cases o with|true=>refine .ret ?_;show List.map (enc t) ((List.drop lo x).take n)=((List.map (enc t) x).drop lo).take n;simp_all|false=>exact .fail
   |_=>exact .fail
  |_=>exact .fail
 |_=>exact .fail
theorem NJ{t:CT}(hf:X.flatT t=true):∀zs:List (den t),∃vals,gJ ((zs.map (enc t)).flatten)=some vals/\vals.all kn=true/\(zs≠[]->∃v vs,vals=v::vs)/\(zs=[]->vals=[]):=by
 intro zs;induction zs with
 |nil=>exact⟨[],rfl,rfl,λh=>absurd rfl h,λ_=>rfl⟩|cons z zs ih=>
 obtain⟨ws,h1,h2,_⟩:=ih;obtain⟨vs,e1,e2,e3,e4,e5⟩:=B3 z hf;have:∀(l:w_)(r:U_),gJ (l.map TV.v++r)=(gJ r).map (l++·):=by intro l r;induction l with|nil=>simp|cons z l ih=>simp[oPC,gJ,ih];cases gJ r<;>rfl
 refine⟨vs++ws,?_,by simp_all,λ_=>?_,λh=>by simp at h⟩;simp_all;cases vs with|nil=>simp_all|cons v vs=>simp_all
theorem OJ{t:CT}(hf:X.flatT t=true)(x:den t):(enc t x).all isV=true:=by have ⟨vs,_,_,_,e4,_⟩:=B3 x hf;rw[e4,List.all_map,oAE];intro y _;rfl
theorem Pa{t:CT}(hf:X.flatT t=true)(xs ys:List (den t))(lo n:Nat)(Yh:lo+min ys.length n<=xs.length):Rf (jV t) (xs.map (enc t)) (ys.map (enc t)) lo n=if 0<min ys.length n then some (min ys.length n,some ((p5 xs lo (min ys.length n) ys).map (enc t)))else some (min ys.length n,none):=by
 obtain⟨vals,h1,h2,h3,h4⟩:=NJ hf (ys.take (min ys.length n));have e5:0<jV t:=by clear h1 h2 h3 h4 Yh;induction t with|pair a b ZF ZC=>simp only[X.flatT,oBA]at hf;simp only[jV];have:=ZF hf.1 [] [];omega|int k=>exact Nat.one_pos|bool=>exact Nat.one_pos|str=>exact Nat.one_pos|_=>simp[X.flatT]at hf
 unfold Rf;rw[oLP,<- List.map_take,h1];by_cases hm:0<min ys.length n;rw[oIP hm];obtain⟨v,vs,hv⟩:=h3 (by intro h;have:=congrArg List.length h;rw[oLT,oLN]at this;omega);rw[hv];simp only;rw[oIP,<- hv];have hp:=L3 hf (ys.take (min ys.length n)) xs lo vals h1 (by rw[oLT];omega);rw[hp];have e:(List.take (min ys.length n) ys).length=min ys.length n:=by rw[oLT];omega
 rw[e];rfl;simp only[oBA,oDE];refine⟨⟨⟨⟨⟨e5,wL t xs⟩,wL t ys⟩,by rw[oLP];exact Yh⟩,?_⟩,by rw[<- hv];exact h2⟩;rw[<- List.map_drop,<- List.map_take,List.all_map,oAE];intro x _;exact OJ hf x;rw[oIN hm];have:ys.take (min ys.length n)=[]:=by simp_all
 rw[h4 this];rw[oIP];simp only[oBA,oDE];exact⟨e5,wL t ys⟩
theorem RJ(d sz:Nat)(p:XP den)(lo:Nat)(n:x_)(tv c2:XV den):Sim (Y:=Y) (X.cpyX fU d sz p lo n tv c2) (match gE (er tv) p.hops with|some (.ow c)=>Gg d (erP p) (er tv) (Rf sz c (MG c2) lo (n.getD c.length))|_=>.fail) id:=by
 refine AE λv hv=>?_;rw[hv];cases v with
 |d tt x=>cases tt with
  |row o t=>cases o with
   |false=>exact .fail|true=>cases c2 with
    |d t2 y=>cases t2 with
     |row o2 t2=>
     by_cases hc:sC t2 t=true/\jV t=sz/\X.flatT t=true;have he:=qW hc.1;subst he;show Sim (if h:sC t2 t2=true/\jV t2=sz/\X.flatT t2=true then _ else _) _ id;rw[dif_pos hc];refine Sim.opt λYf htv=>Sim.br λhok=>?_;have hok:iK lo (lo+min (List.length (y:List (den t2))) (n.getD (List.length (x:List (den t2))))) (List.length (x:List (den t2)))=true:=by have h9:=hok;cases n<;>exact h9
     have Yh:lo+min (List.length (y:List (den t2))) (n.getD (List.length (x:List (den t2))))<=List.length (x:List (den t2)):=by simp only[iK,oBA,oDE]at hok;exact hok.2
     have hct:MG (.d (.row o2 t2) y:XV den)=List.map (enc t2) (y:List (den t2)):=by cases o2<;>rfl
     have WB:er (.d (.row true t2) x:XV den)=.ow (List.map (enc t2) (x:List (den t2))):=rfl;rw[WB,hct];simp only[oLP];rw[<- hc.2.1,Pa hc.2.2 x y lo _ Yh];have hset:=SM htv;refine AY (λhb=>?_) λhb=>?_;have hb:Nat.blt 0 (min (List.length (y:List (den t2))) (n.getD (List.length (x:List (den t2)))))=true:=by cases n<;>exact hb
     rw[oIP (by simp_all)];refine Sim.wrC ?_ (gM d ?_);rw[hset];cases n<;>rfl
     cases n<;>rfl
     have hb:Nat.blt 0 (min (List.length (y:List (den t2))) (n.getD (List.length (x:List (den t2)))))=false:=by cases n<;>exact hb
     rw[oIN (by intro h;rw[Bool.eq_false_iff]at hb;exact hb (by simpa using h))];refine gM d ?_;cases n<;>rfl
     show Sim (if h:sC t2 t=true/\jV t=sz/\X.flatT t=true then _ else _) _ id;rw[dif_neg hc];exact .fail
     |nilr o2=>
     refine Sim.ite (λh0=>?_) λ_=>.fail;have hct:MG (.d (.nilr o2) y:XV den)=[]:=by cases o2<;>rfl
     have WB:er (.d (.row true t) x:XV den)=.ow (List.map (enc t) (x:List (den t))):=rfl;rw[WB,hct];have:Rf sz (List.map (enc t) (x:List (den t))) [] lo (n.getD (List.map (enc t) (x:List (den t))).length)=some (0,none):=by simp[Rf,gJ,h0]
     simp only[this];exact gM d rfl
     |_=>exact .fail
    |_=>exact .fail
  |_=>exact .fail
 |_=>exact .fail
end
section
variable {α β γ δ Y:Type}
theorem f6{x:Opd}{g:XV den->XM den Option Y γ}{h:TV->SP δ}{f:γ->δ}(H:∀t,Sim (g t) (h (er t)) f):Sim (X.bind (X.opd fU x) g) ((opd x).bind h) f:=(Ba x).bind H
theorem Nt(k:Nat){s:SP β}{f:α->β}:∀(n:Nat)(g:Nat->XM den Option Y α)(i:Nat),(∀j,i<=j->j<i+n->k=j->Sim (g j) s f)->Sim (X.caseM fU k n g i) s f:=by intro n;induction n with|zero=>intro g i _;exact .fail|succ n ih=>intro g i h;refine AY (λhb=>h i (oLE _) (by omega) ?_) λhb=>ih g (i+1) λj h1 h2 h3=>h j (by omega) (by omega) h3;have hb:Nat.beq k i=true:=hb;simp_all
theorem T3(HT:List (Nat×CT))(d:Nat)(op:TOp):Sim (Y:=Y) (X.ev1 fU HT d op) (ev1 d op) id:=by
 cases op with
 |mov x=>
 refine f6 λt=>?_;cases t with
  |d t y=>
  cases ho:X.isOwT t with
   |true=>obtain⟨c,hc⟩:=pB (v:=.d t y) ho;rw[hc];show Sim (if X.isOwT t then _ else _) _ id;rw[oIP ho];cases x with|c v=>exact pn d false (by simp only[erL,hc])|_=>exact .fail
   |false=>
   show Sim (if X.isOwT t then _ else _) _ id;rw[oIN (by rw[ho];simp)];have h1:nM (er (.d t y))=false:=by rw[vi];exact ho
   cases t with
   |row o t=>cases o<;>first|exact gM d rfl|simp[X.isOwT]at ho
   |nilr o=>cases o<;>first|exact gM d rfl|simp[X.isOwT]at ho
   |_=>exact gM d rfl
  |agg l=>show Sim (if l.any X.isOwX then _ else _) (if(erL l).any nM then .fail else wr d (.agg (erL l))) id;rw[R7];refine Sim.ite (λ_=>.fail) λh=>?_;rw[oIN h];exact gM d rfl|gap=>exact .fail|half=>exact .fail|_=>exact gM d rfl
 |asn mv x=>
 refine f6 λt=>?_;cases t with
  |ptr p vs=>exact gM d rfl|ip cs=>exact gM d rfl|fn f cap=>exact gM d rfl|d t y=>cases t with|row o t=>cases o<;>exact(tX mv (.d _ y)).bind λl=>pn d l.2 rfl|nilr o=>cases o<;>exact(tX mv (.d _ y)).bind λl=>pn d l.2 rfl|_=>exact(tX mv (.d _ y)).bind λl=>pn d l.2 rfl
  |_=>exact(tX mv _).bind λl=>pn d l.2 rfl
 |pick c a b=>exact Sd HT d c a b|alloc z=>refine Sim.ite (λh=>?_) λ_=>.fail;show Sim _ (if(z.map iL).all is then _ else _) id;rw[oIP (yN h)];exact Sim.new (AU z) (Sim.rdV λg=>gM d rfl)|box n mv x=>refine f6 λt=>?_;rw[Cj];refine(tY mv _).bind λl=>Sim.ite (λh=>?_) λ_=>.fail;rw[oIP (by rw[iI];exact h)];exact Sim.new rfl (Sim.rdV λg=>gM d rfl)|load n a=>
 refine f6 λt=>?_;cases t with
  |ptr p vs=>refine(iP p _ vs).bind λ_=>?_;cases n with|none=>exact(Nh p).bind λt'=>gM d rfl|some n=>exact(GQ p n).bind λl=>gM d rfl
  |ip cs=>simp only[er];cases h:X.loadIp n cs with|none=>exact .fail|some t=>simp only[Ox h];exact gM d rfl
  |_=>exact .fail
 |store n mv a x=>refine f6 λta=>?_;cases ta with|ptr p vs=>refine f6 λtx=>?_;rw[Cj];refine(tY mv _).bind λl=>Sim.ite (λh=>?_) λ_=>.fail;rw[oIP (by rw[iI];exact h)];exact(iP p _ vs).bind λ_=>KC p l|_=>exact .fail
 |nilc x=>refine f6 λt=>?_;cases t with|ptr p vs=>exact(iP p _ vs).bind λ_=>gM d rfl|ip cs=>exact gM d rfl|fn f cap=>exact gM d rfl|_=>exact .fail
 |fld off a=>refine f6 λt=>?_;cases t with|ptr p vs=>refine(iP p _ vs).bind λ_=>Sim.ite (λh=>?_) λ_=>.fail;rw[oIP (by rw[<- Gd];exact h)];exact gM d (by simp only[er,J6])|ip cs=>refine Sim.ite (λh=>?_) λ_=>.fail;show Sim _ (if off<(erL cs).length then _ else _) id;rw[oIP (by rw[iI];exact h)];exact gM d (by simp only[er,AR])|_=>exact .fail
 |idx sz x i=>
 refine f6 λt=>f6 λti=>(rB ti).bind λk=>?_;cases t with
  |pk p vs=>
  refine(iP p _ vs).bind λ_=>(KD p).bind λt=>?_;cases t with
   |d tt x=>cases tt with
    |row o t=>cases o with
     |false=>exact .fail|true=>
     refine Sim.ite (λh=>?_) λ_=>.fail;refine Sim.get λe he=>?_;have hk:k<(x:List (den t)).length:=by rcases Nat.lt_or_ge k (x:List (den t)).length with h|h;exact h;rw[oGN h]at he;cases he
     show Sim _ (if k<(List.map List.length (List.map (enc t) (x:List (den t)))).length&&(List.map List.length (List.map (enc t) (x:List (den t)))).getD k 0==sz&&decide (0<sz)then _ else _) id;rw[BZ,oIP];exact gM d rfl;simp only[oBA,oDE,beq_iff_eq,oLP];refine⟨⟨hk,?_⟩,h.2⟩;rw[oGD,oGP,he];simp[ii,h.1]
    |_=>exact .fail
   |gap t x i' o'=>
   refine Sim.ite (λh=>?_) λ_=>.fail;refine Sim.get λe he=>?_;have hk:k<(x:List (den t)).length:=by rcases Nat.lt_or_ge k (x:List (den t)).length with h|h;exact h;rw[oGN h]at he;cases he
   have hhd:(er (.gap t x i' o':XV den)).hd=some (List.map List.length (List.map (enc t) (x:List (den t)))):=JL (hs:=[(i',0,o')]) (by simp);rw[hhd];show Sim _ (if k<(List.map List.length (List.map (enc t) (x:List (den t)))).length&&(List.map List.length (List.map (enc t) (x:List (den t)))).getD k 0==sz&&decide (0<sz)then _ else _) id;rw[BZ,oIP];exact gM d rfl;simp only[oBA,oDE,beq_iff_eq,oLP];refine⟨⟨hk,?_⟩,h.2⟩;rw[oGD,oGP,he];simp[ii,h.1]
   |half t x m=>
   refine Sim.ite (λh=>?_) λ_=>.fail;refine Sim.get λe he=>?_;have hk:k<(x:List (den t)).length:=by rcases Nat.lt_or_ge k (x:List (den t)).length with h|h;exact h;rw[oGN h]at he;cases he
   show Sim _ (if k<(List.map List.length (lu t m x)).length&&(List.map List.length (lu t m x)).getD k 0==sz&&decide (0<sz)then _ else _) id;rw[D1,oIP];exact gM d rfl;simp only[oBA,oDE,beq_iff_eq,oLP];refine⟨⟨hk,?_⟩,h.2⟩;rw[oGD,oGP,he];exact h.1
   |_=>exact .fail
  |pw p vs sz' lo n=>
  refine(iP p _ vs).bind λ_=>(lH p).bind λt=>?_;cases t with
   |d tt x=>cases tt with
    |row o t=>cases o with
     |false=>exact .fail|true=>
     refine Sim.ite (λh=>?_) λ_=>.fail;refine Sim.br λhb=>Sim.get λe he=>?_;have hb:Nat.blt k n=true:=hb;have hb:k<n:=by simpa using hb
     have he:(x:List (den t))[lo+k]?=some e:=he;show Sim _ (if k<n&&((List.map (enc t) (x:List (den t))).getD (lo+k) []).length==sz&&sz'==sz&&decide (0<sz)then _ else _) id;rw[oIP];exact gM d rfl;simp only[oBA,oDE,beq_iff_eq];refine⟨⟨⟨hb,?_⟩,h.2.2⟩,h.2.1⟩;rw[oGD,oGP,he];simp[ii,h.1]
    |_=>exact .fail
   |_=>exact .fail
  |d tt x=>cases tt with
   |row o t=>cases o with
    |true=>exact .fail|false=>
    refine Sim.ite (λh=>?_) λ_=>.fail;refine Sim.get λe he=>?_;have he:(x:List (den t))[k]?=some e:=he;have hk:k<(x:List (den t)).length:=by rcases Nat.lt_or_ge k (x:List (den t)).length with h|h;exact h;rw[oGN h]at he;cases he
    have hg:(List.map (enc t) (x:List (den t))).getD k []=enc t e:=by rw[oGD,oGP,he];rfl
    show Sim _ (if k<(List.map (enc t) (x:List (den t))).length&&((List.map (enc t) (x:List (den t))).getD k []).length==sz&&decide (0<sz)then wr d (.ip ((List.map (enc t) (x:List (den t))).getD k []))else _) id;rw[hg,oIP];exact gM d (by simp only[er,wS]);simp only[oBA,oDE,beq_iff_eq,oLP];exact⟨⟨hk,by rw[ii];exact h.1⟩,h.2⟩
   |nilr o=>cases o<;>exact .fail|_=>exact .fail
  |_=>exact .fail
 |ext x i=>refine f6 λt=>?_;cases t with|tup l=>refine Sim.ite (λh=>?_) λ_=>.fail;show Sim _ (if i<(erL l).length then _ else _) id;rw[oIP (by rw[iI];exact h)];exact gM d (xG l i)|_=>exact .fail
 |bin op x y=>exact f6 λa=>f6 λb=>T4 d op a b|bnb neg x y=>
 refine f6 λa=>f6 λb=>?_;cases a with
  |d t a=>cases t with
   |bool=>cases b with
    |d u b=>cases u with|bool=>show Sim _ (wr d (.v (.bool (if neg then !((a:Bool)==b)else(a:Bool)==b)))) id;refine gM d ?_;cases neg<;>rfl|_=>exact .fail
    |_=>exact .fail
   |_=>exact .fail
  |_=>exact .fail
 |eqa ks neg x y=>
 refine f6 λa=>f6 λb=>?_;cases a with
  |agg a=>cases b with
   |agg b=>simp only[er];cases h:X.eqAll fU ks a b with|none=>exact .fail|some r=>obtain⟨vs,ws,h1,h2,h3⟩:=Rc h;rw[h1,h2];show Sim _ ((qp (gU ks vs ws)).bind λr=>wr d (.v (.bool (if neg then !r else r)))) id;rw[h3];refine gM d ?_;cases neg<;>rfl
   |_=>exact .fail
  |_=>exact .fail
 |un op x=>
 refine f6 λa=>?_;cases a with
  |d t a=>cases t with
   |bool=>cases op<;>first|exact .fail|exact gM d rfl
   |int k=>cases op<;>first|exact .fail|exact gM d rfl
   |_=>cases op<;>exact .fail
  |_=>cases op<;>exact .fail
 |conv k x=>
 refine f6 λa=>?_;cases a with
  |d t a=>cases t with|int k0=>exact gM d rfl|_=>exact .fail
  |_=>exact .fail
 |bld z mv parts=>refine Sim.ite (λh=>?_) λ_=>.fail;show Sim _ (if(z.map iL).all is then _ else _) id;rw[oIP (yN h)];refine(wT mv parts).bind λl=>(Bb d l).bind λl'=>gM d ?_;simp only[er];rw[IT,AU]|bsl sz mv len parts=>refine(wT mv _).bind λl=>Sim.ite (λh=>?_) λ_=>.fail;rw[oIP h];refine Sim.opt λv hv=>pn d false ?_;simp only[erL,Qf hv,MK]|mks sz z l c=>refine Sim.ite (λh=>?_) λ_=>.fail;simp only[oBA]at h;show Sim _ (if(z.map iL).all is&&z.length==sz then _ else _) id;rw[oIP (by simp only[oBA];exact⟨yN h.1,h.2⟩)];refine f6 λtl=>f6 λtc=>(rB tl).bind λn=>(rB tc).bind λm=>Sim.br λhok=>?_;have hok:xe n m sz=true:=hok;rw[oIP (by simpa[xe]using hok)];refine Sim.opt λv hv=>pn d false ?_;simp only[erL,Qi hv,AU,id_eq]|slc sz x lo hi=>
 refine f6 λt=>(GR t).bind λn=>(DO lo 0).bind λl=>(DO hi n).bind λh=>Sim.br λhok=>?_;have hok:iK l h n=true:=hok;rw[oIP (by simpa[iK]using hok)];cases t with
  |d tt x=>cases tt with
   |row o t=>cases o with|true=>exact .fail|false=>refine Sim.ite (λhs=>?_) λ_=>.fail;show Sim _ (if(List.map (enc t) (x:List (den t))).all (λe=>e.length==sz)then _ else _) id;rw[oIP (by rw[<- hs];exact wL t x)];refine gM d ?_;show TV.sl (List.map (enc t) ((List.drop l (x:List (den t))).take (h-l)))=_;rw[List.map_take,List.map_drop];rfl
   |nilr o=>cases o with|false=>show Sim _ (if([]:o_).all (λe=>e.length==sz)then wr d (.sl ((([]:o_).drop l).take (h-l)))else _) id;rw[oIP (by rfl)];exact gM d (by simp[er,er1])|true=>exact pn d false rfl
   |_=>exact .fail
  |pk p vs=>
  refine(lH p).bind λt=>?_;cases t with
   |d tt x=>cases tt with
    |row o t=>cases o with|false=>exact .fail|true=>refine Sim.ite (λhs=>?_) λ_=>.fail;show Sim _ (if(List.map (enc t) (x:List (den t))).all (λe=>e.length==sz)then _ else _) id;rw[oIP (by rw[<- hs];exact wL t x)];exact gM d rfl
    |nilr o=>cases o with|false=>exact .fail|true=>show Sim _ (if([]:o_).all (λe=>e.length==sz)then _ else _) id;rw[oIP (by rfl)];exact gM d rfl
    |_=>exact .fail
   |_=>exact .fail
  |pw p vs sz' lo' n'=>refine Sim.ite (λhs=>?_) λ_=>.fail;show Sim _ (if sz'=sz then _ else _) id;rw[oIP hs];exact gM d rfl|_=>exact .fail
 |app sz bytes mv fl s x=>
 refine f6 λts=>f6 λtx=>?_;have hn:DZ (er tx)=X.isNameX tx:=by
  cases tx with
  |d t y=>cases t with|row o t=>cases o<;>rfl|nilr o=>cases o<;>rfl|_=>rfl
  |_=>rfl
 rw[hn];cases hc:(fl && !mv&&X.isNameX tx)with
  |true=>
  simp only[if_true];refine(DF tx).bind λc2=>?_;refine Sim.ite (λhf=>?_) λ_=>.fail;have hV:(MG c2).all (λe=>e.all isV)=true:=by
   cases c2 with
   |d t y=>cases t with
    |row o t=>
    have hf:X.flatT t=true:=hf;cases o<;>show(List.map (enc t) (y:List (den t))).all (λe=>e.all isV)=true
    all_goals rw[List.all_map,oAE];intro z _;exact OJ hf z
    |nilr o=>cases o<;>rfl|_=>rfl
   |gap=>cases hf|half=>cases hf|_=>rfl
  rw[oIP hV];refine(j5 true ts).bind λs=>?_;have h:=RL (Y:=Y) d sz bytes (gD HT d) s c2;have e:TF d sz bytes (er s) (.sl (MG c2))=(match er s,er c2 with
   |.ow c,.ow c2=>if(c++c2).all (λe=>e.length==sz)&&decide (c.length+c2.length<=1099511627776)&&decide ((c.length+c2.length)*bytes<=140737488355328)then inst d false [.ow (c++c2)]else .fail
   |.ow c,.sl c2=>if(c++c2).all (λe=>e.length==sz)&&decide (c.length+c2.length<=1099511627776)&&decide ((c.length+c2.length)*bytes<=140737488355328)then inst d false [.ow (c++c2)]else .fail
   |_,_=>.fail):=by
   unfold TF
   cases c2 with
   |d t y=>cases t with
    |row o t=>cases o<;>cases er s<;>rfl
    |nilr o=>cases o<;>cases er s<;>rfl
    |_=>simp[X.flatRow]at hf
   |_=>simp[X.flatRow]at hf
  rw[e];exact h
  |false=>simp only[Bool.false_eq_true,if_false];exact(j5 true ts).bind λs=>(j5 mv tx).bind λx=>RL d sz bytes _ s x
 |len x=>exact f6 λt=>(GR t).bind λn=>gM d rfl|lens x=>
 refine f6 λt=>?_;cases t with
  |d t s=>cases t with|str=>exact gM d rfl|_=>exact .fail
  |_=>exact .fail
 |ixs x i=>
 refine f6 λt=>f6 λti=>(rB ti).bind λk=>?_;cases t with
  |d t s=>cases t with
   |str=>intro σ kk y hk;obtain⟨b,h1,h2⟩:=gd (show(DK s k).bind _=some y from hk);unfold DK at h1;obtain⟨c,h3,h4⟩:=kF h1;have h3:(s:ByteArray)[k]?=some c:=h3;have:=gM (Y:=Y) d (t:=.d (.int .u8) b) (t':=.v (.int .u8 c.toNat)) (by rw[<- h4];rfl) σ kk y h2;show ∃a σ',(match(s:ByteArray)[k]? with|some b=>wr d (.v (.int .u8 b.toNat))|none=>.fail).run (erS σ)=_/\rR σ σ' ((match(s:ByteArray)[k]? with|some b=>wr d (.v (.int .u8 b.toNat))|none=>.fail).foot (erS σ))/\_;rw[h3];exact this
   |_=>exact .fail
  |_=>exact .fail
 |mm mx xs=>
 refine(P3 (λx=>(Ba x).bind λt=>Nn t) xs).bind λl=>?_;cases l with
  |nil=>exact .fail|cons t r=>cases t with
   |d t a=>cases t with
    |int k=>simp only[oPC,U8];cases h:X.mmAll fU mx k a r with|none=>exact .fail|some m=>simp only[QH h];exact gM d rfl
    |_=>exact .fail
   |_=>exact .fail
 |idxa n sz x i=>refine f6 λt=>f6 λti=>(rB ti).bind λk=>?_;cases t with|ptr p vs=>refine(iP p _ vs).bind λ_=>Nt _ n _ 0 λj hj0 hj hk=>Sim.ite (λh=>?_) λ_=>.fail;subst hk;simp only[id_eq];rw[oIP (by rw[<- Gd];simp only[oBA,oDE];exact⟨by omega,h⟩)];exact gM d (by simp only[er,J6])|_=>exact .fail
 |s2b x=>
 refine f6 λt=>?_;cases t with
  |d t s=>cases t with|str=>refine Sim.br λh=>?_;have h:decide ((s:ByteArray).size<4294967296)=true:=h;show Sim _ (if(s:ByteArray).size<4294967296 then wr d (.sl (uR s))else .fail) id;rw[oIP (by simpa using h)];refine gM d ?_;show TV.sl (List.map (enc (.int .u8)) (M3 s))=_;simp[M3,uR,enc]|_=>exact .fail
  |_=>exact .fail
 |cpy sz x y=>refine f6 λt=>f6 λu=>(DF u).bind λc2=>?_;cases t with|pk p vs=>refine(iP p _ vs).bind λ_=>Sim.rdC λtv=>?_;exact RJ d sz p 0 none tv c2|pw p vs sz' lo n=>refine Sim.ite (λhs=>?_) λ_=>.fail;refine(iP p _ vs).bind λ_=>Sim.rdC λtv=>?_;have:=RJ (Y:=Y) d sz p lo (some n) tv c2;simp only[oIP hs];exact this|_=>exact .fail
 |call k f args=>exact .fail
end
theorem Gk:∀(hs:List (Unit×Nat×Nat))(hs':List (den .nat×Nat×Nat))(r:R_)(h:HL den r)(h':HL den (JK hs r)),Kb hs hs' r h=some h'->(B5 hs r h').1=hs'/\(B5 hs r h').2=h
 | [],[],_,_,_,hc=>by
  injection hc with hc
  exact⟨rfl,hc.symm⟩
 | [],_::_,_,_,_,hc=>by cases hc|_::_,[],_,_,_,hc=>by cases hc|(_,sz,o)::hs,(i,sz',o')::hs',r,h,h',hc=>by
  have hc:(if sz=sz'/\o=o' then(Kb hs hs' r h).map λh1=>((i,h1):den .nat×HL den (JK hs r))else none)=some h':=hc;by_cases hb:sz=sz'/\o=o'
  ·rw[oIP hb]at hc;obtain⟨h1,h2,h3⟩:=Option.map_eq_some_iff.1 hc;obtain⟨e1,e2⟩:=Gk hs hs' r h h1 h2;subst h3;refine⟨?_,e2⟩;show(i,sz,o)::(B5 hs r h1).1=(i,sz',o')::hs';rw[e1,hb.1,hb.2]
  ·rw[oIN hb]at hc;cases hc
theorem Ue{p:XP λ_=>Unit}{q:XP den}(h:RQ p q=true):erP (VL p)=erP q:=by simp[RQ]at h;have ⟨⟨⟨h1,h2⟩,h3⟩,h4⟩:=h;have ⟨r,o,hs⟩:=q;cases hs with|nil=>simp[VL,h1,h2]|cons=>simp[XP.bare]at h4
theorem Q8{x y:Value}(h:O4 x y=true):x=y:=by unfold O4 at h;grind
mutual
theorem Pc:(s:Sh)->(x:XV den)->(r:R_)->(h:HL den r)->(h':HL den (lv s r))->conv fU s x r h=some h'->er (fill s r h').1=er x/\(fill s r h').2=h
 |.d u z,x,r,h,h',hc=>by
  cases x with
  |d t y=>
   have hc:(asT fU t u y).map (λw=>(w,h))=some h':=hc;obtain⟨w,h1,h2⟩:=kF hc
   have e1:h'.1=w:=by rw[<- h2]
   have e2:h'.2=h:=by rw[<- h2]
   refine⟨?_,e2⟩;show er1 u h'.1=er1 t y;rw[e1];exact Ll h1
  |_=>exact absurd (show(none:Option (HL den _))=some h' from hc) (by simp)
 |.k z,x,r,h,h',hc=>by
  cases x with
  |k y=>
   have hc:(if O4 z y then some h else none)=some h':=hc;by_cases hb:O4 z y=true
   ·rw[oIP hb]at hc
    injection hc with hc
    rw[Q8 hb];exact⟨rfl,hc.symm⟩
   ·rw[oIN hb]at hc;cases hc
  |_=>exact absurd (show(none:Option (HL den _))=some h' from hc) (by simp)
 |.dead,x,r,h,h',hc=>by
  cases x with
  |dead=>
   have hc:some h=some h':=hc
   injection hc with hc
   exact⟨rfl,hc.symm⟩
  |_=>exact absurd (show(none:Option (HL den _))=some h' from hc) (by simp)
 |.ptr p vs,x,r,h,h',hc=>by
  cases x with
  |ptr q ws=>
   have hc:(if p.root==q.root&&p.off==q.off&&vs==ws then Kb p.hops q.hops r h else none)=some h':=hc;by_cases hb:(p.root==q.root&&p.off==q.off&&vs==ws)=true
   ·rw[oIP hb]at hc;simp only[oBA,beq_iff_eq]at hb;obtain⟨h1,h2⟩:=Gk _ _ _ _ _ hc;refine⟨?_,h2⟩;show TV.ptr ⟨p.root,p.off,(B5 p.hops r h').1⟩ vs=TV.ptr ⟨q.root,q.off,q.hops⟩ ws;rw[h1,hb.1.1,hb.1.2,hb.2]
   ·rw[oIN hb]at hc;cases hc
  |_=>exact absurd (show(none:Option (HL den _))=some h' from hc) (by simp)
 |.pk p vs,x,r,h,h',hc=>by
  cases x with
  |pk q ws=>
   have hc:(if p.root==q.root&&p.off==q.off&&vs==ws then Kb p.hops q.hops r h else none)=some h':=hc;by_cases hb:(p.root==q.root&&p.off==q.off&&vs==ws)=true
   ·rw[oIP hb]at hc;simp only[oBA,beq_iff_eq]at hb;obtain⟨h1,h2⟩:=Gk _ _ _ _ _ hc;refine⟨?_,h2⟩;show TV.pk ⟨p.root,p.off,(B5 p.hops r h').1⟩ vs=TV.pk ⟨q.root,q.off,q.hops⟩ ws;rw[h1,hb.1.1,hb.1.2,hb.2]
   ·rw[oIN hb]at hc;cases hc
  |_=>exact absurd (show(none:Option (HL den _))=some h' from hc) (by simp)
 |.pw p vs sz lo n,x,r,h,h',hc=>by cases x<;>exact absurd (show(none:Option (HL den _))=some h' from hc) (by simp)|.gap t _ _ o,x,r,h,h',hc=>by
  cases x with
  |gap t' y i o'=>
   have hc:(if o=o' then(asT fU (.row true t') (.row true t) y).map λy=>(y,i,h)else none)=some h':=hc;by_cases hb:o=o'
   ·subst hb;rw[oIP rfl]at hc;obtain⟨z,h1,rfl⟩:=kF hc;refine⟨?_,rfl⟩;show iH (er1 (.row true t) z) [(i,0,o)] .dead=iH (er1 (.row true t') y) [(i,0,o)] .dead;rw[Ll h1]
   ·rw[oIN hb]at hc;cases hc
  |_=>exact absurd (show(none:Option (HL den _))=some h' from hc) (by simp)
 |.half t _ _,x,r,h,h',hc=>by
  cases x with
  |half t' y m=>
   have hc:(if e:sC t' t=true then some (qW e▸y,m,h)else none:Option (HL den (.row true t :: .nat::r)))=some h':=hc;by_cases hb:sC t' t=true
   ·have e:=qW hb;subst e;rw[dif_pos hb]at hc
    injection hc with hc
    subst hc;exact⟨rfl,rfl⟩
   ·rw[dif_neg hb]at hc;cases hc
  |_=>exact absurd (show(none:Option (HL den _))=some h' from hc) (by simp)
 |.ip l,x,r,h,h',hc=>by
  cases x with
  |ip l'=>
   have:=qX l l' r h h' hc;exact⟨congrArg TV.ip this.1,this.2⟩
  |_=>exact absurd (show(none:Option (HL den _))=some h' from hc) (by simp)
 |.agg l,x,r,h,h',hc=>by
  cases x with
  |agg l'=>
   have:=qX l l' r h h' hc;exact⟨congrArg TV.agg this.1,this.2⟩
  |_=>exact absurd (show(none:Option (HL den _))=some h' from hc) (by simp)
 |.tup l,x,r,h,h',hc=>by
  cases x with
  |tup l'=>
   have:=qX l l' r h h' hc;exact⟨congrArg TV.tup this.1,this.2⟩
  |_=>exact absurd (show(none:Option (HL den _))=some h' from hc) (by simp)
 |.fn f l,x,r,h,h',hc=>by
  cases x with
  |fn f' l'=>
   have hc:(if f=f' then AB fU l l' r h else none)=some h':=hc;by_cases hb:f=f'
   ·subst hb;rw[oIP rfl]at hc;have:=qX l l' r h h' hc;exact⟨congrArg (TV.fn f) this.1,this.2⟩
   ·rw[oIN hb]at hc;cases hc
  |_=>exact absurd (show(none:Option (HL den _))=some h' from hc) (by simp)
theorem qX:(s:T_)->(x:List (XV den))->(r:R_)->(h:HL den r)->(h':HL den (lvL s r))->AB fU s x r h=some h'->erL (lI s r h').1=erL x/\(lI s r h').2=h
 | [],x,r,h,h',hc=>by
  cases x with
  |nil=>
   have hc:some h=some h':=hc
   injection hc with hc
   exact⟨rfl,hc.symm⟩
  |cons=>exact absurd (show(none:Option (HL den _))=some h' from hc) (by simp)
 |s::ss,x,r,h,h',hc=>by
  cases x with
  |nil=>exact absurd (show(none:Option (HL den _))=some h' from hc) (by simp)
  |cons x xs=>
   have hc:(AB fU ss xs r h).bind (λh1=>conv fU s x (lvL ss r) h1)=some h':=hc;obtain⟨h1,ZM,ZJ⟩:=gd hc;obtain⟨e1,e2⟩:=qX ss xs r h h1 ZM;obtain⟨e3,e4⟩:=Pc s x (lvL ss r) h1 h' ZJ;have e5:lI (s::ss) r h'=((fill s (lvL ss r) h').1::(lI ss r (fill s (lvL ss r) h').2).1,(lI ss r (fill s (lvL ss r) h').2).2):=rfl;rw[e5,e4];refine⟨?_,e2⟩;show er _::erL _=er x::erL xs;rw[e3,e1]
end
theorem Gj:∀{s:List (Nat×T_)}{x:List (Nat×List (XV den))}{r:R_}{h:HL den r}{h':HL den (lvP s r)},X.convP fU s x r h=some h'->erC (xD s r h').1=erC x/\(xD s r h').2=h:=by
 intro s;induction s with
 |nil=>
 intro x r h h' hc;cases x with
  |nil=>
  have hc:some h=some h':=hc;injection hc with hc
  exact⟨rfl,hc.symm⟩
  |cons=>exact absurd (show(none:Option (HL den _))=some h' from hc) (by simp)
 |cons s ss ih=>intro x r h h' hc;cases x with|nil=>exact absurd (show(none:Option (HL den _))=some h' from hc) (by simp)|cons x xs=>have hc:(if s.1=x.1 then(X.convP fU ss xs r h).bind (λh1=>AB fU s.2 x.2 (lvP ss r) h1)else none)=some h':=hc;by_cases hk:s.1=x.1;rw[oIP hk]at hc;obtain⟨h1,ZM,hc⟩:=gd hc;obtain⟨e1,e2⟩:=ih ZM;obtain⟨e3,e4⟩:=qX s.2 x.2 (lvP ss r) h1 h' hc;have e5:xD (s::ss) r h'=((s.1,(lI s.2 (lvP ss r) h').1)::(xD ss r (lI s.2 (lvP ss r) h').2).1,(xD ss r (lI s.2 (lvP ss r) h').2).2):=rfl;rw[e5,e4];refine⟨?_,e2⟩;show(s.1,erL _)::erC _=(x.1,erL x.2)::erC xs;rw[e3,e1,hk];rw[oIN hk]at hc;cases hc
theorem Rg:∀{s:List (Nat×Sh)}{x:List (Nat×XV den)}{r:R_}{h:HL den r}{h':HL den (lvT s r)},X.convT fU s x r h=some h'->(Gb s r h').1.map (λx=>(x.1,er x.2))=x.map (λx=>(x.1,er x.2))/\(Gb s r h').2=h:=by
 intro s;induction s with
 |nil=>
 intro x r h h' hc;cases x with
  |nil=>
  have hc:some h=some h':=hc;injection hc with hc
  exact⟨rfl,hc.symm⟩
  |cons=>exact absurd (show(none:Option (HL den _))=some h' from hc) (by simp)
 |cons s ss ih=>intro x r h h' hc;cases x with|nil=>exact absurd (show(none:Option (HL den _))=some h' from hc) (by simp)|cons x xs=>have hc:(if s.1=x.1 then(X.convT fU ss xs r h).bind (λh1=>conv fU s.2 x.2 (lvT ss r) h1)else none)=some h':=hc;by_cases hk:s.1=x.1;rw[oIP hk]at hc;obtain⟨h1,ZM,hc⟩:=gd hc;obtain⟨e1,e2⟩:=ih ZM;obtain⟨e3,e4⟩:=Pc s.2 x.2 (lvT ss r) h1 h' hc;have e5:Gb (s::ss) r h'=((s.1,(fill s.2 (lvT ss r) h').1)::(Gb ss r (fill s.2 (lvT ss r) h').2).1,(Gb ss r (fill s.2 (lvT ss r) h').2).2):=rfl;rw[e5,e4];refine⟨?_,e2⟩;simp only[oPC];rw[e3,e1,hk];rw[oIN hk]at hc;cases hc
theorem NG:∀{a b:m_},X.sameVr a b=true->a=b:=by
 intro a;induction a with
 |nil=>intro b h;cases b with|nil=>rfl|cons=>simp[X.sameVr]at h
 |cons x a ih=>intro b h;cases b with|nil=>simp[X.sameVr]at h|cons y b=>simp only[X.sameVr,oBA,beq_iff_eq]at h;obtain⟨⟨h1,h2⟩,h3⟩:=h;rw[ih h3];obtain⟨a1,a2⟩:=x;obtain⟨b1,b2⟩:=y;simp only at h1 h2;rw[h1,h2]
theorem Gi{s:Shs}{σ:XS den}{u:HL den []}{h:HL den (lvS s)}(hc:X.convS fU s σ u=some h):erS (J4 s h)=erS σ:=by unfold X.convS at hc;by_cases hv:X.sameVr s.vr σ.vr=true;rw[oIP hv]at hc;obtain⟨h1,ZM,hc⟩:=gd hc;obtain⟨e1,e2⟩:=Gj ZM;obtain⟨e3,e4⟩:=Rg hc;unfold erS J4;simp only;rw[e3,e4,e1,NG hv];rw[oIN hv]at hc;cases hc
theorem IM{c:Ctr}{vals:List (XV den)}{pts:List (Nat×List (XV den))}{u:HL den []}{h:HL den (lvL c.ins (lvP c.pts []))}(hc:X.convIn fU c vals pts u=some h):erL (lI c.ins _ h).1=erL vals/\erC (xD c.pts [] (lI c.ins _ h).2).1=erC pts:=by unfold X.convIn at hc;obtain⟨h1,ZM,hc⟩:=gd hc;obtain⟨e1,e2⟩:=Gj ZM;obtain⟨e3,e4⟩:=qX _ _ _ _ _ hc;rw[e4];exact⟨e3,e1⟩
theorem NH:∀{a b:P_},X.sameSh a b=true->a=b:=by
 intro a;induction a with
 |nil=>intro b h;cases b with|nil=>rfl|cons=>simp[X.sameSh]at h
 |cons x a ih=>
 intro b h;cases b with
 |nil=>cases x<;>simp[X.sameSh]at h|cons y b=>
 cases x<;>cases y<;>simp[X.sameSh]at h
 rw[ih h];rw[h.1,ih h.2];rw[ih h]
theorem Ti{cells:List (XV den)}{sh:P_}{pts:List (Nat×List (XV den))}{u:HL den []}:∀{outs:List XO}{i:Nat}{h:HL den (ED (outs.map lvO) i)},X.injO fU cells sh pts u outs=some ⟨i,h⟩->∃x,pE outs i h=some x/\erL x.1=erL cells/\x.2.1=sh/\erC x.2.2=erC pts:=by
 intro outs;induction outs with
 |nil=>intro i h hc;simp[X.injO]at hc|cons o outs ih=>
 intro i h hc;simp only[X.injO]at hc;split at hc;rename_i h1 ZM;injection hc with hc
 injection hc with h2 h3
 subst h2;have h3:=eq_of_heq h3;subst h3;refine⟨_,rfl,?_⟩;unfold X.convO at ZM;by_cases hs:X.sameSh o.sh sh=true;rw[oIP hs]at ZM;obtain⟨h4,hc4,ZM⟩:=gd ZM;obtain⟨e1,e2⟩:=Gj hc4;obtain⟨e3,e4⟩:=qX _ _ _ _ _ ZM;refine⟨e3,NH hs,?_⟩;show erC (xD o.pts [] (lI o.cells _ h1).2).1=_;rw[e4];exact e1;rw[oIN hs]at ZM;cases ZM;split at hc;rename_i x hx;injection hc with hc
 injection hc with h2 h3
 subst h2;have h3:=eq_of_heq h3;subst h3;exact ih hx;simp at hc
theorem Tp{a b:nz}(h:X.exEq a b=true):a=b:=by
 cases a<;>cases b<;>simp[X.exEq]at h
 rfl;rw[h];rfl
theorem OR{e:nz}{σ:XS den}{u:HL den []}:∀{outs:List (nz×Shs)}{i:Nat}{h:HL den (ED (outs.map λx=>lvS x.2) i)},X.injE fU e σ u outs=some ⟨i,h⟩->∃x,zG outs i h=some x/\x.1=e/\erS x.2=erS σ:=by
 intro outs;induction outs with
 |nil=>intro i h hc;simp[X.injE]at hc|cons o outs ih=>
 intro i h hc;simp only[X.injE]at hc;split at hc;rename_i h1 ZM;injection hc with hc
 injection hc with h2 h3
 subst h2;have h3:=eq_of_heq h3;subst h3;refine⟨_,rfl,?_⟩;split at ZM;rename_i he;exact⟨Tp he,Gi ZM⟩;simp at ZM;split at hc;rename_i x hx;injection hc with hc
 injection hc with h2 h3
 subst h2;have h3:=eq_of_heq h3;subst h3;exact ih hx;simp at hc
theorem B9{α β:Type}(G:α->β):∀(ls:n_)(o:Eh ls)(f:(i:Nat)->HL den (ED ls i)->α),oP ls o (λi h=>G (f i h))=G (oP ls o f):=by intro ls;induction ls with|nil=>intro o;cases o|cons l ls ih=>intro o f;cases ls with|nil=>rfl|cons m r=>cases o with|inl h=>rfl|inr o=>exact ih o λi h=>f (i+1) h
theorem D3{α:Type}:∀{ls:n_}{i:Nat}{h:HL den (ED ls i)}{o:Eh ls}(f:(i:Nat)->HL den (ED ls i)->α),yR ls i h=some o->oP ls o f=f i h:=by
 intro ls;induction ls with
 |nil=>intro i h o f hm;simp[yR]at hm|cons l ls ih=>
 intro i h o f hm;cases ls with
 |nil=>cases i with|zero=>cases hm;rfl|succ i=>simp[yR]at hm
 |cons m r=>cases i with|zero=>cases hm;rfl|succ i=>simp only[yR]at hm;obtain⟨o',h1,rfl⟩:=kF hm;exact ih (λi h=>f (i+1) h) h1
def yv(F:iz)(c:Ctr):Prop:=∀(h:HL den (lvL c.ins (lvP c.pts [])))(o:Eh (c.outs.map lvO))(x:List (XV den)×P_×List (Nat×List (XV den))),c.g h=some o->oP (c.outs.map lvO) o (λi ho=>pE c.outs i ho)=some x ->
 F c.f (erL (lI c.ins _ h).1) (erC (xD c.pts [] (lI c.ins _ h).2).1)=some (⟨erL x.1,x.2.1⟩,erC x.2.2)
section
variable {α β γ δ Y:Type}
theorem Qa(x:x_×Opd):Sim (Y:=Y) (X.argV fU x) (argV x) er:=by
 refine f6 λt=>?_;have gen:∀t:XV den,Sim (Y:=Y) (X.bind (X.takeV fU false t) λl=>X.bind (X.optM fU (X.immXL fU l.1)) λl'=>X.ret (X.shapedX l.2 l')) ((takeV false (er t)).bind λl=>.ret (td l.2 (l.1.map TV.imm))) er:=λt=>(tX false t).bind λl=>Sim.opt λl' hl=>.ret (by rw[DP,QV hl]);refine Sim.ite (λh=>?_) λh=>?_;have h2:(x.1==some 0&&Vf (er t))=true:=by
  simp at h⊢;refine⟨h.1,?_⟩;have h3:=h.2;cases t with
  |pk p vs=>rfl|d t y=>cases t with
   |nilr o=>cases o with|true=>rfl|false=>simp[X.isNmX]at h3
   |_=>simp[X.isNmX]at h3
  |_=>simp[X.isNmX]at h3
 rw[oIP h2];exact .ret rfl;have keep:∀{s:SP TV},Vf (er t)=X.isNmX t->Vq (er t)=X.isPkX t->Sim (Y:=Y) (X.argV0 fU t) s er->Sim (if(x.1.isSome&&X.isPkX t)=true then X.ret t else X.argV0 fU t) (if(x.1==some 0&&Vf (er t))=true then SP.ret (er t)else if(x.1.isSome&&Vq (er t))=true then .ret (er t)else s) er:=λhe hp hs=>by rw[he,oIN h,hp];split;exact .ret rfl;exact hs
 have nk:∀{t:XV den}{s:SP TV},X.isPkX t=false->(∀ σ k (o:Y),X.argV0 fU t σ k≠some o)->Sim (if(x.1.isSome&&X.isPkX t)=true then X.ret t else X.argV0 fU t) s er:=λhp hn=>by rw[hp,Bool.and_false,oIN (by simp)];exact fun σ k o hk=>absurd hk (hn σ k o)
 cases t with
 |ip cs=>exact keep rfl rfl (.ret rfl)|fn f cap=>exact keep rfl rfl (.ret rfl)|ptr p vs=>exact keep rfl rfl (.ret rfl)|d t y=>cases t with
  |row o t=>cases o with|true=>exact nk rfl fun σ k o hk=>by cases hk|false=>exact keep rfl rfl (gen _)
  |nilr o=>cases o<;>exact keep rfl rfl (gen _)|nat=>exact nk rfl fun σ k o hk=>by cases hk|pair a b=>exact nk rfl fun σ k o hk=>by cases hk|_=>exact keep rfl rfl (gen _)
 |gap t y i o=>exact nk rfl fun σ k o hk=>by cases hk|half t y m=>exact nk rfl fun σ k o hk=>by cases hk|_=>exact keep rfl rfl (gen _)
theorem Bd:∀l:b_,Sim (Y:=Y) (X.argVs fU l) (argVs l) erL:=by intro l;induction l with|nil=>exact .ret rfl|cons x r ih=>exact(Qa x).bind λt=>ih.bind λl=>.ret rfl
theorem GO:∀(l:List (x_×XV den))(i:Nat),Sim (Y:=Y) (X.takeOwns fU i l) (takeOwns i (l.map λx=>(x.1,er x.2))) (List.map λx=>(x.1,er x.2)):=by
 intro l;induction l with
 |nil=>intro i;exact .ret rfl|cons x l ih=>
 intro i;have ⟨n,t⟩:=x;cases n with
 |none=>cases t with
  |d t y=>cases t with|row o t=>cases o<;>exact ih (i+1)|nilr o=>cases o<;>exact ih (i+1)|nat=>exact ih (i+1)|pair a b=>exact ih (i+1)|_=>exact ih (i+1)
  |_=>exact ih (i+1)
 |some n=>cases n with
  |zero=>cases t with
   |pk p vs=>
   refine(j5 true (.pk p vs)).bind λt=>Sim.ite (λh=>?_) λ_=>.fail;have ⟨c,hc⟩:=pB h;have h2:nM (er t)=true:=by rw[hc];rfl
   rw[oIP h2];exact(ih (i+1)).bind λq=>.ret rfl
   |d t y=>cases t with|row o t=>cases o<;>exact ih (i+1)|nilr o=>cases o<;>exact ih (i+1)|nat=>exact ih (i+1)|pair a b=>exact ih (i+1)|_=>exact ih (i+1)
   |_=>exact ih (i+1)
  |succ n=>cases t with
   |d t y=>cases t with|row o t=>cases o<;>exact ih (i+1)|nilr o=>cases o<;>exact ih (i+1)|nat=>exact ih (i+1)|pair a b=>exact ih (i+1)|_=>exact ih (i+1)
   |_=>exact ih (i+1)
theorem Np(r:Nat):∀(n o:Nat),Sim (Y:=Y) (X.grabB fU r o n) (Mw ⟨r,o,[]⟩ n) erL:=by intro n;induction n with|zero=>intro o;exact .ret rfl|succ n ih=>intro o;cases n with|zero=>refine Sim.rdC λt=>(m7 ⟨r,o,[]⟩ t).bind λt'=>(j5 true t').bind λt2=>?_;exact(Sim.ret (f:=erL) rfl).bind (h:=λl=>.ret (er t2::l)) λl=>.ret rfl|succ n=>exact Sim.rdC λt=>(m7 ⟨r,o,[]⟩ t).bind λt'=>(j5 true t').bind λt2=>(ih (o+1)).bind λl=>.ret rfl
theorem LB(p:XP den):Sim (Y:=Y) (X.rooted fU p) (rooted (erP p)) id:=by
 have ⟨r,off,hops⟩:=p;cases hops with
 |nil=>exact .ret rfl|cons h hs=>
 refine Sim.rdT λt=>?_;cases t with
 |ptr q ws=>
 refine Sim.ite (λhc=>?_) λ_=>.fail;show Sim _ (if(erP q).root==r&&(erP q).hops.isEmpty then chk (erP q) 0 ws else .fail) id;have:((erP q).root==r&&(erP q).hops.isEmpty)=true:=by simpa[erP]using hc
 rw[oIP this];exact iP q 0 ws
 |_=>exact .fail
def erG(g:XGP den):GP:=⟨g.i,erP g.p,g.vs,erL g.cells⟩
theorem ON{t:XV den}(h:X.isArgX t=true):uj (er t)=true:=by
 cases t with
 |ip cs=>rfl|fn f cap=>exact K0 h|agg l=>simp only[X.isArgX]at h;simp only[er,uj,kV,List.all_map];rw[oAE]at h⊢;intro x hx;have:=h x hx;simp at this;simp;rcases t7 this.1 this.2 with⟨y,hy⟩|⟨c,hc⟩;rw[hy];rw[hc]
 |d t x=>
 by_cases hn:t=.nilr true;subst hn;rfl;have:X.okCellX (.d t x:XV den)=true/\X.isOwX (.d t x:XV den)=false:=by
  cases t with
  |nilr o=>cases o with|true=>simp_all|false=>simpa[X.isArgX]using h
  |_=>simpa[X.isArgX]using h
 rcases t7 this.1 this.2 with⟨y,hy⟩|⟨c,hc⟩;rw[hy];rfl;rw[hc];rfl
 |k x=>rfl|_=>simp[X.isArgX,X.okCellX]at h
theorem No:∀(l:List (x_×XV den))(i:Nat),Sim (Y:=Y) (X.grabs fU i l) (grabs i (l.map λx=>(x.1,er x.2))) (List.map erG):=by
 intro l;induction l with
 |nil=>intro i;exact .ret rfl|cons x l ih=>
 intro i;have ⟨n,t⟩:=x;have Y5:(∀m p vs,(n,er t)≠(some m,TV.ptr p vs))->(∀p vs,(n,er t)≠(some 0,TV.pk p vs))->Sim (Y:=Y) (if X.isArgX t then X.grabs fU (i+1) l else X.fail fU) (grabs i (((n,t)::l).map λx=>(x.1,er x.2))) (List.map erG):=by
  intro hne hne2;refine Sim.ite (λh=>?_) λ_=>.fail;have e:grabs i (((n,t)::l).map λx=>(x.1,er x.2))=if uj (er t)then grabs (i+1) (l.map λx=>(x.1,er x.2))else .fail:=by
   show grabs i ((n,er t)::_)=_;cases n with
   |none=>rfl|some m=>cases he:er t with
    |ptr p vs=>simp_all|pk p vs=>cases m with|zero=>simp_all|succ m=>rfl
    |_=>cases m<;>rfl
  rw[e,oIP (ON h)];exact ih (i+1)
 cases n with
 |none=>exact Y5 (by intro m p vs h;cases h) (by intro p vs h;cases h)|some m=>cases t with
  |pk p vs=>cases m with|zero=>exact ih (i+1)|succ m=>exact Y5 (by intro m p vs h;cases h) (by intro p vs h;cases h)
  |ptr p vs=>exact(iP p _ vs).bind λ_=>(LB p).bind λ_=>Sim.bind (by have:=Np (Y:=Y) p.root (X.baseXN p m) p.off;have e:Tx (erP p) m=X.baseXN p m:=(by have ⟨r,o,hs⟩:=p;cases hs<;>rfl);show Sim _ (Mw (erP p).base (Tx (erP p) m)) _;rw[e];exact this) λl1=>(ih (i+1)).bind λq=>.ret rfl|d t y=>cases t with|row o t=>cases m<;>cases o<;>exact Y5 (by intro m p vs h;cases h) (by intro p vs h;cases h)|nilr o=>cases m<;>cases o<;>exact Y5 (by intro m p vs h;cases h) (by intro p vs h;cases h)|_=>cases m<;>exact Y5 (by intro m p vs h;cases h) (by intro p vs h;cases h)
  |_=>cases m<;>exact Y5 (by intro m p vs h;cases h) (by intro p vs h;cases h)
theorem M8(p:XP den):Sim (Y:=Y) (X.touch fU p) (touch (erP p)) id:=Sim.rdC λtv=>M6 p.root p.off tv
theorem Nb:∀q:List (XGP den),Sim (Y:=Y) (X.rechk fU q) (rechk (q.map erG)) id:=by intro q;induction q with|nil=>exact .ret rfl|cons g q ih=>exact(iP g.p _ g.vs).bind λ_=>(M8 g.p).bind λ_=>ih
theorem TE(i:Nat)(t:XV den):er (X.argT i t)=argT i (er t):=by
 cases t with
 |d t y=>cases t with|row o t=>cases o<;>rfl|nilr o=>cases o<;>rfl|_=>rfl
 |_=>rfl
theorem Ro:∀(l:List (XV den))(i:Nat),erL (X.argTs i l)=argTs i (erL l):=by intro l;induction l with|nil=>intro i;rfl|cons t l ih=>intro i;simp[X.argTs,erL,argTs,ih,TE]
theorem Mo{t:XV den}(h:X.isDeadX t=false):KY (er t)=false:=by
 cases t with
 |d t y=>cases t with|row o t=>cases o<;>rfl|nilr o=>cases o<;>rfl|nat=>simp[X.isDeadX,X.oneT]at h|pair a b=>simp[X.isDeadX,X.oneT]at h|_=>rfl
 |dead=>simp[X.isDeadX]at h|_=>rfl
theorem Jc:∀q:List (XGP den×List (XV den)),Sim (Y:=Y) (X.putBack fU q) (putBack (q.map λx=>(erG x.1,erL x.2))) id:=by intro q;induction q with|nil=>exact .ret rfl|cons x q ih=>have ⟨g,l⟩:=x;refine ih.bind λ_=>Sim.ite (λh=>?_) λ_=>.fail;have ⟨h1,h2,h3⟩:=h;show Sim _ (if(erL l).length=(erL g.cells).length&&(erL l).all λt=>!KY t then putL (erP g.p) (erL l)else .fail) id;rw[oIP];exact KC g.p l;simp only[oBA,oDE,iI];refine⟨h1,?_⟩;rw[kV,List.all_map,oAE];intro t ht;have:=oAE.1 h3 t ht;simp at this;simp[Mo this]
theorem NA:∀(sh:P_)(l:List (XV den)),erL (X.shapeRX sh l)=mp sh (erL l):=by intro sh;induction sh with|nil=>intro l;rfl|cons s sh ih=>intro l;cases s with|one=>simp only[X.shapeRX,erL];rw[ih,IH];cases l<;>rfl|agg n=>simp only[X.shapeRX,erL,mp,er];rw[ih,xF,AR]|ptr=>simp[X.shapeRX,erL,mp,er];rw[ih]
theorem GV(sh:P_)(l:List (XV den)):er (X.shapeTX sh l)=vB sh (erL l):=by unfold X.shapeTX vB;rw[<- NA];cases X.shapeRX sh l with|nil=>rfl|cons x r=>cases r<;>rfl
theorem GS(dst:x_)(cells:List (XV den))(sh:P_):Sim (Y:=Y) (X.landR fU dst cells sh) (landR dst ⟨erL cells,sh⟩) id:=by cases dst with|none=>exact .ret rfl|some d=>exact(Bb d cells).bind λl=>gM d (GV sh l)
theorem OM(sh:P_)(cells:List (XV den)):isP ⟨erL cells,sh⟩=X.isPX sh cells:=by
 unfold isP X.isPX;cases sh with
 |nil=>simp_all|cons s sh=>cases s with
  |ptr=>cases cells with
   |nil=>rfl|cons t r=>cases t with
    |d t y=>cases t with|row o t=>cases o<;>rfl|nilr o=>cases o<;>rfl|_=>rfl
    |_=>rfl
  |_=>rfl
theorem LJ(t:XV den)(l:List (XV den)):er (X.shapePX t l)=KJ (er t) (erL l):=by cases l<;>rfl
theorem Nm(dst:x_)(q:List (XGP den))(cells:List (XV den)):Sim (Y:=Y) (X.landP fU dst q cells) (landP dst (q.map erG) (erL cells)) id:=by cases dst with|none=>exact .ret rfl|some d=>unfold X.landP;simp only;split;rename_i pl vs l g;refine Sim.ite (λhc=>?_) λ_=>.fail;show Sim _ (if pl.root==2*g.i+2&&(erP g.p).hops.isEmpty then(rdVs (rE g.p.root (g.p.off+pl.off) (erP pl).hops.length)).bind λvs=>wr d (KJ (.ptr ⟨g.p.root,g.p.off+pl.off,(erP pl).hops⟩ vs) (erL l))else .fail) id;rw[oIP (by simpa[erP]using hc)];exact(wU _).bind λvs=>gM d (LJ _ l);exact .fail
theorem T1(q:List (XGP den))(l:List (Nat×List (XV den))):(q.zip (l.map (·.2))).map (λx=>(erG x.1,erL x.2))=(q.map erG).zip ((erC l).map (·.2)):=by induction q generalizing l with|nil=>rfl|cons g q ih=>cases l with|nil=>rfl|cons x l=>simp[erC,ih]
theorem QE(x:x_×XV den):normA (x.1,er x.2)=((X.normA x).1,er (X.normA x).2):=by
 have ⟨n,t⟩:=x;cases n with
 |none=>rfl|some n=>cases t with
  |d t y=>cases t with|row o t=>cases o<;>rfl|nilr o=>cases o<;>rfl|_=>rfl
  |_=>rfl
theorem Qg:∀(z:List (x_×XV den))(i:Nat),revOf i (z.map λx=>(x.1,er x.2))=(X.revOf i z).map λx=>(x.1,x.2.1,erP x.2.2.1,x.2.2.2):=by
 intro z;induction z with
 |nil=>intro i;rfl|cons x z ih=>
 intro i;have ⟨n,t⟩:=x;cases n with
 |none=>exact ih (i+1)|some n=>cases t with
  |ptr p vs=>simp[er,revOf,X.revOf];split;all_goals simp_all|d t y=>cases t with|row o t=>cases o<;>exact ih (i+1)|nilr o=>cases o<;>exact ih (i+1)|_=>exact ih (i+1)
  |_=>exact ih (i+1)
def erV(x:Nat×Nat×Nat×XP den):Nat×Nat×Nat×gf:=(x.1,x.2.1,x.2.2.1,erP x.2.2.2)
theorem LD:∀l:List (Nat×Nat×XP den×N_),Sim (Y:=Y) (X.revChk fU l) (revChk (l.map λx=>(x.1,x.2.1,erP x.2.2.1,x.2.2.2))) λr=>r.map erV:=by
 intro l;induction l with
 |nil=>exact .ret rfl|cons x l ih=>
 have ⟨i,k,p,vs⟩:=x;refine Sim.rdT λt=>?_;cases t with
 |ptr q ws=>refine Sim.ite (λhc=>?_) λ_=>.fail;show Sim _ (if q.root=p.root/\(erP p).hops.isEmpty=true/\(erP q).hops.length=1/\p.off<=q.off then _ else _) _;rw[oIP (by simpa[erP]using hc)];exact(iP p 0 vs).bind λ_=>(iP q 1 ws).bind λ_=>ih.bind λr=>.ret rfl|d t y=>cases t with|row o t=>cases o<;>exact .fail|nilr o=>cases o<;>exact .fail|_=>exact .fail
 |_=>exact .fail
theorem LC(kept:p_):∀l:List (Nat×Nat×Nat×XP den),Sim (Y:=Y) (X.revive fU kept l) (revive kept (l.map erV)) id:=by intro l;induction l with|nil=>exact .ret rfl|cons x l ih=>have ⟨k,r,d,q⟩:=x;refine Sim.ite (λhc=>?_) λ_=>.fail;show Sim _ (if kept.contains (r,d)=true then _ else _) id;rw[oIP hc];exact(lH q).bind λ_=>(wU _).bind λvs=>by show Sim _ ((SP.wrT k (er (.ptr q vs)) (.ret ())).bind λ_=>revive kept (l.map erV)) id;exact(A8 k _).bind λ_=>ih
theorem RY(l:List (XV den)):(erL l).isEmpty=l.isEmpty:=by cases l<;>rfl
theorem Td(l:List (Nat×List (XV den))):ksOf (erC l)=X.ksOf l:=by unfold ksOf X.ksOf erC;rw[List.filter_map,oPM];have e:((λx:Nat×U_=>x.2.isEmpty) ∘ λx:Nat×List (XV den)=>(x.1,erL x.2))=λx=>x.2.isEmpty:=funext λx=>RY x.2;simp_all
theorem Te(l:List (Nat×List (XV den))):kcIn (erC l)=X.kcIn l:=by
 unfold kcIn X.kcIn erC;rw[List.filter_map,oPM];have e:((λx:Nat×U_=>!x.2.isEmpty) ∘ λx:Nat×List (XV den)=>(x.1,erL x.2))=λx=>!x.2.isEmpty:=funext λx=>by simp[RY]
 rw[e];exact List.map_congr_left λx _=>by simp[iI]
theorem Jd:∀z:List (x_×XV den),Sim (Y:=Y) (X.lendChk fU z) (lendChk (z.map λx=>(x.1,er x.2))) id:=λ_=>.ret rfl
theorem GT(z:List (x_×XV den))(ks:N_):∀(ow:List (Nat×XV den))(rs:List (List (XV den))),Sim (Y:=Y) (X.giveBack fU z ks ow rs) (giveBack (z.map λx=>(x.1,er x.2)) ks (ow.map λx=>(x.1,er x.2)) (rs.map erL)) id:=by intro ow;induction ow with|nil=>intro rs;exact .ret rfl|cons x ow ih=>intro rs;cases rs with|nil=>exact .fail|cons y rs=>exact ih rs
theorem LH{F:iz}(dst:x_)(f:FuncId)(vals:List (XV den))(q:List (XGP den))(ow:List (Nat×XV den))(z:List (x_×XV den))(rv:List (Nat×Nat×Nat×XP den))(u:HL den []):∀(TB:B_),(∀c∈TB,yv F c)->Sim (Y:=Y) (X.callTB fU dst f vals q ow z rv u TB) ((qp (F f (erL vals) ((q.map erG).map (λg=>(2*g.i+2,g.cells))++(ow.map λx=>(x.1,er x.2)).map λx=>(2*x.1+3,[x.2])))).bind λr=> if(r.2.map (·.1)).take ((q.map erG).length+(ow.map λx=>(x.1,er x.2)).length)=(q.map erG).map (λg=>2*g.i+2)++(ow.map λx=>(x.1,er x.2)).map (λx=>2*x.1+3)&&(isP r.1||tF r.1.sh r.1.cells.length)then(putBack ((q.map erG).zip (r.2.map (·.2)))).bind λ_=>(giveBack (z.map λx=>(x.1,er x.2)) (ksOf (r.2.drop ((q.map erG).length+(ow.map λx=>(x.1,er x.2)).length))) (ow.map λx=>(x.1,er x.2)) ((r.2.drop (q.map erG).length).map (·.2))).bind λ_=>(revive (kcIn (r.2.drop ((q.map erG).length+(ow.map λx=>(x.1,er x.2)).length))) (rv.map erV)).bind λ_=>if isP r.1 then(if(ow.map λx=>(x.1,er x.2)).isEmpty&&(rv.map erV).isEmpty then landP dst (q.map erG) r.1.cells else .fail)else landR dst r.1 else .fail) id:=by
 intro TB;induction TB with
 |nil=>intro _;exact .fail|cons c TB ih=>
 intro YW;have ZR:=ih λc' YY=>YW c' (by simp[YY]);unfold X.callTB;cases hsel:(if c.f=f then X.convIn fU c vals (q.map (λg=>(2*g.i+2,g.cells))++ow.map λy=>(2*y.1+3,[y.2])) u else none)with
 |none=>exact ZR|some h=>
 by_cases hf:c.f=f;rw[oIP hf]at hsel;obtain⟨e1,e2⟩:=IM hsel;intro σ k y hk;obtain⟨o,ho,hk⟩:=gd (show(c.g h).bind _=some y from hk);rw[B9 (λr=>X.onOut fU r λx=>X.afterC fU dst q ow z rv x σ k)]at hk;cases hx:oP (c.outs.map lvO) o (λi ho=>pE c.outs i ho)with
 |none=>rw[hx]at hk;cases hk|some x=>
  rw[hx]at hk;have hF:=YW c (by simp) h o x ho hx;have e3:erC (q.map (λg=>(2*g.i+2,g.cells))++ow.map λy=>(2*y.1+3,[y.2]))=(q.map erG).map (λg=>(2*g.i+2,g.cells))++(ow.map λx=>(x.1,er x.2)).map λx=>(2*x.1+3,[x.2]):=by unfold erC;rw[List.map_append,oPM,oPM,oPM,oPM];congr 1
  rw[e1,e2,e3,hf]at hF;rw[hF];have hE:∀m,(erC x.2.2).drop m=erC (x.2.2.drop m):=λm=>by unfold erC;rw[List.map_drop]
  have hK:∀l:List (Nat×List (XV den)),(erC l).map (·.1)=l.map (·.1):=λl=>by unfold erC;rw[oPM];exact List.map_congr_left λ_ _=>rfl
  have hV:∀l:List (Nat×List (XV den)),(erC l).map (·.2)=(l.map (·.2)).map erL:=λl=>by unfold erC;rw[oPM,oPM];exact List.map_congr_left λ_ _=>rfl
  have key:Sim (Y:=Y) (X.afterC fU dst q ow z rv x) (if((erC x.2.2).map (·.1)).take ((q.map erG).length+(ow.map λx=>(x.1,er x.2)).length)=(q.map erG).map (λg=>2*g.i+2)++(ow.map λx=>(x.1,er x.2)).map (λx=>2*x.1+3)&&(isP ⟨erL x.1,x.2.1⟩||tF x.2.1 (erL x.1).length)then(putBack ((q.map erG).zip ((erC x.2.2).map (·.2)))).bind λ_=>(giveBack (z.map λx=>(x.1,er x.2)) (ksOf ((erC x.2.2).drop ((q.map erG).length+(ow.map λx=>(x.1,er x.2)).length))) (ow.map λx=>(x.1,er x.2)) (((erC x.2.2).drop (q.map erG).length).map (·.2))).bind λ_=>(revive (kcIn ((erC x.2.2).drop ((q.map erG).length+(ow.map λx=>(x.1,er x.2)).length))) (rv.map erV)).bind λ_=>if isP ⟨erL x.1,x.2.1⟩then(if(ow.map λx=>(x.1,er x.2)).isEmpty&&(rv.map erV).isEmpty then landP dst (q.map erG) (erL x.1)else .fail)else landR dst ⟨erL x.1,x.2.1⟩else .fail) id:=by
   unfold X.afterC;refine Sim.ite (λhc=>?_) λ_=>.fail;have h6:(q.map erG).map (λg=>2*g.i+2)=q.map (λg=>2*g.i+2):=by rw[oPM];exact List.map_congr_left λ_ _=>rfl
   have h7:(ow.map λx=>(x.1,er x.2)).map (λx=>2*x.1+3)=ow.map (λy=>2*y.1+3):=by simp_all
   have hC:(decide (((erC x.2.2).map (·.1)).take ((q.map erG).length+(ow.map λx=>(x.1,er x.2)).length)=(q.map erG).map (λg=>2*g.i+2)++(ow.map λx=>(x.1,er x.2)).map (λx=>2*x.1+3))&&(isP ⟨erL x.1,x.2.1⟩||tF x.2.1 (erL x.1).length))=true:=by rw[OM,hK,h6,h7,oLP,oLP,iI,oDT hc.1,Bool.true_and];exact hc.2
   rw[oIP hC,<- T1,OM,hE,hE,Td,Te,hV,oLP,oLP];refine(Jc _).bind λ_=>(GT z _ ow _).bind λ_=>(LC _ rv).bind λ_=>?_;cases X.isPX x.2.1 x.1 with|true=>show Sim (if(ow.isEmpty&&rv.isEmpty)=true then _ else _) (if((ow.map λx=>(x.1,er x.2)).isEmpty&&(rv.map erV).isEmpty)=true then _ else _) id;rw[List.isEmpty_map,List.isEmpty_map];refine Sim.ite (λh=>?_) λh=>?_;rw[oIP h];exact Nm dst q x.1;rw[oIN h];exact .fail|false=>exact GS dst x.1 x.2.1
  exact key σ k y hk
 rw[oIN hf]at hsel;cases hsel
end
section
variable {α β γ δ Y:Type}
theorem Bc{F:iz}{TB:B_}(YW:∀c∈TB,yv F c)(u:HL den [])(dst:x_)(f:FuncId)(ns:List x_)(vals:List (XV den)):Sim (Y:=Y) (X.callV fU TB u dst f ns vals) (callV F dst f ns (erL vals)) id:=by
 have ez:∀(ns:List x_)(vals:List (XV den)),(ns.zip vals).map (λx=>(x.1,er x.2))=ns.zip (erL vals):=by intro ns;induction ns with|nil=>intro vals;rfl|cons n ns ih=>intro vals;cases vals with|nil=>rfl|cons v vals=>simp[List.zip_cons_cons,erL,ih]
 unfold callV;have en:(ns.zip (erL vals)).map normA=((ns.zip vals).map X.normA).map λx=>(x.1,er x.2):=by rw[<- ez,oPM,oPM];exact List.map_congr_left λx _=>QE x
 rw[en,<- ez,Qg];refine(Jd _).bind λ_=>(LD _).bind λrv=>(GO _ 0).bind λow=>(No _ 0).bind λq=>(Nb q).bind λ_=>Sim.ite (λh=>?_) λ_=>.fail;rw[oIP];rw[<- Ro];exact LH dst f _ q ow (ns.zip vals) rv u TB YW;rw[oPM,List.all_map];simp only[oBA]at h⊢;refine⟨⟨h.1.1,?_⟩,?_⟩;have h2:=h.1.2;rw[oAE]at h2⊢;intro g hg;have:=h2 g hg;simpa[erG,iI]using this;have h2:=h.2;rw[oAE]at h2⊢;intro x hx;obtain⟨y,hy,rfl⟩:=List.mem_map.1 hx;have h3:=h2 y hy;rw[List.any_eq_true]at h3⊢;obtain⟨g,hg,h4⟩:=h3;refine⟨erG g,List.mem_map_of_mem hg,?_⟩;rw[oBA]at h4⊢;refine⟨h4.1,?_⟩;show nM ((erL g.cells).getD y.2.2.1 .dead)=true;rw[<- xG];obtain⟨c,hc⟩:=pB h4.2;rw[hc];rfl
theorem Nr(dst:x_)(tm:List BxC)(vals:List (XV den))(hok:tm.all X.boxOk=true):Sim (Y:=Y) (X.evBox fU dst tm vals) (evBox dst tm (erL vals)) id:=by
 cases dst with
 |none=>exact .fail|some d=>
 have e:erL (tm.map (X.bxX fU vals))=tm.map (bxT (erL vals)):=by rw[kV,oPM];refine List.map_congr_left λb hb=>?_;have:=oAE.1 hok b hb;cases b with|arg i=>exact xG vals i|val x=>show er (X.cellX fU x)=.v x;rw[AV];simp[X.boxOk]at this;unfold iL;split;all_goals simp_all
 show Sim _ ((takeL false (tm.map (bxT (erL vals)))).bind _) id;rw[<- e];exact(tY false _).bind λl=>Sim.new rfl (Sim.rdV λg=>gM d rfl)
theorem KB(x:XV den):Sim (Y:=Y) (X.see1 fU x) (see1 (er x)) er:=by
 cases x with
 |d t y=>cases t with
  |int k=>exact .ret rfl|bool=>exact .ret rfl|str=>exact .ret rfl|nat=>exact .fail|row o t=>cases o<;>first|exact .fail|exact .ret rfl
  |nilr o=>cases o<;>exact .ret rfl|pair a b=>exact .fail
 |k y=>exact .ret rfl|pk p vs=>
 refine(iP p _ vs).bind λ_=>Sim.rdC λtv=>AE λv hv=>?_;refine Sim.ite (λho=>?_) λ_=>.fail;have ⟨c,hc⟩:=pB ho;have YD:gE (er tv) (erP p).hops=some (.ow c):=by rw[<- hc];exact hv
 simp[YD];intro σ k y hk;cases hi:X.immX fU v with|none=>rw[hi]at hk;cases hk|some v'=>rw[hi]at hk;exact Sim.ret (by rw[BE hi,hc]) σ k y hk
 |_=>exact .fail
theorem PU:∀l:List (XV den),Sim (Y:=Y) (X.seeL fU l) (seeL (erL l)) erL:=by intro l;induction l with|nil=>exact .ret rfl|cons t r ih=>exact(KB t).bind λt'=>ih.bind λr'=>.ret rfl
theorem PV(t:XV den):Sim (Y:=Y) (X.seeA fU t) (seeA (er t)) er:=by
 have key:=KB (Y:=Y) t;cases t with
 |agg l=>exact(PU l).bind λl'=>.ret rfl|ip cs=>exact .ret rfl|fn f cap=>refine Sim.ite (λh=>?_) λ_=>.fail;show Sim _ (if(erL cap).all RV then .ret (.fn f (erL cap))else .fail) er;rw[oIP (K0 h)];exact .ret rfl|d t y=>cases t with|row o t=>cases o<;>exact key|nilr o=>cases o<;>exact key|_=>exact key
 |_=>exact key
theorem Na:∀l:O_,Sim (Y:=Y) (X.seeAs fU l) (seeAs l) erL:=by intro l;induction l with|nil=>exact .ret rfl|cons x r ih=>exact f6 λt=>(PV t).bind λt'=>ih.bind λl=>.ret rfl
theorem K8{l:List (XV den)}(h:l.all X.flatX=true):(erL l).all Fg=true:=by
 rw[kV,List.all_map,oAE];intro x hx;have:=oAE.1 h x hx;cases x with
 |d t y=>cases t<;>first|rfl|simp[X.flatX]at this
 |k y=>exact this|_=>simp[X.flatX]at this
theorem Qv:∀{t:CT}(x:den t),X.ownT t=true->y8 (enc t x)=true:=by
 intro t;induction t with
 |int k=>intro x _;rfl|bool=>intro x _;rfl|str=>intro x _;rfl|nat=>intro x _;rfl|row o t ih=>
 intro x h;simp only[X.ownT,oBA]at h;obtain⟨rfl,h⟩:=h;have key:∀l:List (den t),zI (List.map (enc t) l)=true:=by intro l;induction l with|nil=>rfl|cons y r ihr=>simp only[oPC,zI,oBA];exact⟨ih y h,ihr⟩
 show(zI (List.map (enc t) x)&&true)=true;simp_all
 |nilr o=>intro x h;cases o with|true=>rfl|false=>cases h
 |pair a b ZF ZC=>
 intro x h;simp[X.ownT,oBA]at h;have key:∀l m:U_,y8 l=true->y8 m=true->y8 (l++m)=true:=by intro l m h1 h2;induction l with|nil=>exact h2|cons t r ih=>simp[y8]at h1;simp[y8];simp_all
 exact key _ _ (ZF _ h.1) (ZC _ h.2)
theorem S5{x:XV den}(h:X.ownX x=true):MC (er x)=true:=by cases x with|d t y=>simp[X.ownX]at h;have h2:=Qv y h.2;rw[ul h.1]at h2;show MC (er1 t y)=true;simpa[y8]using h2|k y=>rfl|_=>simp[X.ownX]at h
theorem T9{l:List (XV den)}(h:l.any X.slX=true):(erL l).all Fg=false/\(erL l).all MC=false:=by
 have ⟨x,hx,hs⟩:=List.any_eq_true.1 h;have e:∃c,er x=.sl c:=by
  cases x with
  |d t y=>cases t with
   |row o t=>cases o with|false=>exact⟨_,rfl⟩|true=>cases hs
   |nilr o=>cases o with|false=>exact⟨_,rfl⟩|true=>cases hs
   |_=>cases hs
  |_=>cases hs
 have ⟨c,e⟩:=e;have hm:er x∈erL l:=by rw[kV];exact List.mem_map_of_mem hx
 constructor;rw[List.all_eq_false];exact⟨_,hm,by rw[e];simp[Fg]⟩;rw[List.all_eq_false];exact⟨_,hm,by rw[e];simp[MC]⟩
theorem Ul{l:List (XV den)}(h:l.any X.isOwX=true):(erL l).all Fg=false:=by
 have ⟨x,hx,hs⟩:=List.any_eq_true.1 h;have h1:nM (er x)=true:=by rw[vi];exact hs
 have hm:er x∈erL l:=by rw[kV];exact List.mem_map_of_mem hx
 rw[List.all_eq_false];refine⟨_,hm,?_⟩;cases he:er x<;>rw[he]at h1<;>simp[nM,Fg]at h1⊢
theorem Nu{F:iz}(dst:x_)(f:FuncId)(vals:List (XV den))(u:HL den []){fx:XM den Option Y Unit}{ft:SP Unit}(hfb:Sim (Y:=Y) fx ft id):∀(TB:B_),(∀c∈TB,yv F c)->Sim (Y:=Y) (X.callB fU dst f vals u fx TB) (callB F dst f (erL vals) ft) id:=by
 intro TB;induction TB with
 |nil=>intro _;exact .fail|cons c TB ih=>
 intro YW;have ZR:=ih λc' YY=>YW c' (by simp[YY]);unfold X.callB;cases hsel:(if c.f=f then X.convIn fU c vals [] u else none)with
 |none=>exact ZR|some h=>
 by_cases hf:c.f=f;rw[oIP hf]at hsel;obtain⟨e1,e2⟩:=IM hsel;intro σ k y hk;have ⟨o,ho,hk⟩:=gd (show(c.g h).bind _=some y from hk);rw[B9 (λz=>X.onOut fU z λx=>X.afterB fU dst fx x σ k)]at hk;cases hx:oP (c.outs.map lvO) o (λi ho=>pE c.outs i ho)with
 |none=>rw[hx]at hk;cases hk|some x=>
  rw[hx]at hk;have hk:X.afterB fU dst fx x σ k=some y:=hk;unfold X.afterB at hk;have hF:=YW c (by simp) h o x ho hx;rw[e1,e2,hf]at hF;have hF:F f (erL vals) []=some (⟨erL x.1,x.2.1⟩,erC x.2.2):=hF;have hlen:(erC x.2.2).length=x.2.2.length:=by unfold erC;rw[oLP]
  split at hk;rename_i hc;have YY:((erC x.2.2).length=0&&(erL x.1).all Fg&&tF x.2.1 (erL x.1).length)=true:=by simp only[oBA,oDE,iI];exact⟨⟨by rw[hlen];exact hc.1,K8 hc.2.1⟩,hc.2.2⟩
  cases dst with
  |none=>
   have e:callB F none f (erL vals) ft=.ret ():=by unfold callB;rw[hF];exact oIP YY
   rw[e];exact Sim.ret (a:=()) (f:=id) rfl σ k y hk
  |some d=>
   have e:callB F (some d) f (erL vals) ft=wr d (vB x.2.1 (erL x.1)):=by unfold callB;rw[hF];exact oIP YY
   rw[e];exact gM d (GV x.2.1 x.1) σ k y hk
  split at hk;rename_i hc;have e:callB F dst f (erL vals) ft=landR dst ⟨erL x.1,x.2.1⟩:=by unfold callB;rw[hF];refine(oIN (by dsimp only;rw[Ul hc.2.2.1];simp)).trans (oIP ?_);simp only[oBA,oDE,iI];refine⟨⟨by rw[hlen];exact hc.1,?_⟩,hc.2.2.2⟩;rw[kV,List.all_map,oAE];exact λz hz=>S5 (oAE.1 hc.2.1 z hz)
  rw[e];exact GS dst x.1 x.2.1 σ k y hk;split at hk;rename_i hc;have hn:=T9 hc;have e:callB F dst f (erL vals) ft=ft:=by unfold callB;rw[hF];exact(oIN (by dsimp only;rw[hn.1];simp)).trans (oIN (by dsimp only;rw[hn.2];simp))
  rw[e];exact hfb σ k y hk;cases hk
 simp_all
theorem Nq{F:iz}{TB:B_}(YW:∀c∈TB,yv F c)(E:Env)(u:HL den [])(dst:x_)(k:Bool)(f:FuncId)(args:b_):Sim (Y:=Y) (X.evNrm fU E TB u dst k f args) (evNrm E F dst k f args) id:=by cases k with|false=>exact(Na _).bind λvals=>Nu dst f vals u ((Bd _).bind λvals=>Bc YW u dst f _ vals) TB YW|true=>refine(Bd _).bind λvals=>?_;cases hb:E.box f with|none=>exact Bc YW u dst f _ vals|some x=>refine Sim.ite (λh=>?_) λ_=>.fail;show Sim _ (if(erL vals).length=x.1 then evBox dst x.2 (erL vals)else .fail) id;rw[oIP (by rw[iI];exact h.1)];exact Nr dst x.2 vals h.2
theorem LG{F:iz}{TB:B_}(YW:∀c∈TB,yv F c)(E:Env)(u:HL den [])(dst:x_)(op:TOp):Sim (Y:=Y) (X.evCall fU E TB u dst op) (evCall E F dst op) id:=by
 cases op with
 |call k f args=>
 cases f with
  |f f=>exact Nq YW E u dst k f args|t i=>
  refine Sim.rdT λt=>?_;cases t with
   |fn f caps=>refine(Bd _).bind λvals=>?_;have:=Bc (Y:=Y) YW u dst f (args.map (·.1)++Rj E f args.length caps.length) (vals++caps);rw[rI]at this;rw[iI];exact this|d t y=>cases t with|row o t=>cases o<;>exact .fail|nilr o=>cases o<;>exact .fail|_=>exact .fail
   |_=>exact .fail
  |c x=>exact .fail
 |_=>exact .fail
theorem Nj{F:iz}{C:X.Cfg}(YW:∀c∈C.TB,yv F c)(u:HL den [])(dst:x_)(op:TOp):Sim (Y:=Y) (X.evop fU C u dst op) (evop (evCall C.E F) dst op) id:=by
 have key:∀d,Sim (Y:=Y) (X.ev1 fU C.HT d op) (ev1 d op) id:=λd=>T3 C.HT d op;have kc:=LG (Y:=Y) YW C.E u dst op;cases op with
 |call k f args=>exact kc|store n mv a x=>cases dst with|none=>exact key 0|some d=>exact .fail
 |_=>cases dst with|none=>exact .fail|some d=>exact key d
theorem A9(dst:x_):Sim (Y:=Y) (X.setNo fU dst) (setNo dst) id:=by cases dst with|none=>exact .ret rfl|some d=>exact A8 d (.tup [])
theorem KW{σ:XS den}{j:Nat}{b:Bool}(h:X.tOf σ j=.d .bool b):erS (X.known fU j b σ)=erS σ:=by
 have h1:gD σ.tm j=some (.d .bool b):=by unfold X.tOf at h;cases hg:gD σ.tm j with|none=>simp_all|some t=>simp_all
 have:=Cu h1;show(⟨(iJ σ.tm j (.d .bool b)).map _,erC σ.ce,σ.vr⟩:St)=_;rw[this];rfl
theorem Kz{F:iz}{C:X.Cfg}(YW:∀c∈C.TB,yv F c)(u:HL den [])(o:lw):Sim (Y:=Y) (X.spOp fU C u o) (spOp (evCall C.E F) o) id:=by
 unfold X.spOp spOp;cases hg:o.guard with
 |none=>exact Nj YW u o.dst o.op|some g=>
 obtain⟨j,want⟩:=g;intro σ k y hk;cases ht:X.tOf σ j with
 |d t b=>cases t with
  |bool=>
  have hk:(bif b then((if want then X.evop fU C u o.dst o.op else X.setNo fU o.dst) (X.known fU j true (X.lgR (.t j) σ)) k)else((if want then X.setNo fU o.dst else X.evop fU C u o.dst o.op) (X.known fU j false (X.lgR (.t j) σ)) k))=some y:=by have hk:X.guardX fU j want (X.evop fU C u o.dst o.op) (X.setNo fU o.dst) (X.tOf σ j) (X.lgR (.t j) σ) k=some y:=hk;rw[ht]at hk;exact hk
  have key:∀(m:XM den Option Y Unit)(s:SP Unit),Sim m s id->m (X.known fU j b (X.lgR (.t j) σ)) k=some y->∃a σ',s.run (erS σ)=some (id a,erS σ')/\rR σ σ' (.t j::(s.foot (erS σ)).1,(s.foot (erS σ)).2)/\k a σ'=some y:=by intro m s hm h;have e:=KW (σ:=X.lgR (.t j) σ) ht;obtain⟨a,σ',r1,n1,k1⟩:=hm _ k y h;rw[e]at r1 n1;refine⟨a,σ',r1,⟨λx hx=>?_,λx hx=>n1.w x hx,λx hx=>n1.r0 x (by simp[X.known,X.lgR,hx]),λx hx=>n1.w0 x (by simpa[X.known,X.lgR]using hx)⟩,k1⟩;rcases oMC.1 hx with h|h;exact n1.r0 x (by simp[X.known,X.lgR,h]);exact n1.r x h
  have hst:(erS σ).t j=.v (.bool b):=by rw[Rb,ht];rfl
  have res:∀(s:SP Unit),(if b=want then evop (evCall C.E F) o.dst o.op else setNo o.dst)=s->(∃a σ',s.run (erS σ)=some (id a,erS σ')/\rR σ σ' (.t j::(s.foot (erS σ)).1,(s.foot (erS σ)).2)/\k a σ'=some y)->∃a σ',(SP.rdT j λt=>match t with|.v (.bool b)=>if b=want then evop (evCall C.E F) o.dst o.op else setNo o.dst|.tup []=>setNo o.dst|_=>.fail).run (erS σ)=some (id a,erS σ')/\rR σ σ' ((SP.rdT j λt=>match t with|.v (.bool b)=>if b=want then evop (evCall C.E F) o.dst o.op else setNo o.dst|.tup []=>setNo o.dst|_=>.fail).foot (erS σ))/\k a σ'=some y:=by rintro s hs ⟨a,σ',r1,n1,k1⟩;refine⟨a,σ',?_,?_,k1⟩;simp only[SP.run,hst,hs];exact r1;simp only[SP.foot,hst,hs];exact n1
  cases b with
   |true=>cases want with|true=>exact res _ (oIP rfl) (key _ _ (Nj YW u o.dst o.op) hk)|false=>exact res _ (oIN (by simp)) (key _ _ (A9 o.dst) hk)
   |false=>cases want with|true=>exact res _ (oIN (by simp)) (key _ _ (A9 o.dst) hk)|false=>exact res _ (oIP rfl) (key _ _ (Nj YW u o.dst o.op) hk)
  |_=>have hk:X.guardX fU j want (X.evop fU C u o.dst o.op) (X.setNo fU o.dst) (X.tOf σ j) (X.lgR (.t j) σ) k=some y:=hk;rw[ht]at hk;cases hk
 |tup l=>
 have hk:X.guardX fU j want (X.evop fU C u o.dst o.op) (X.setNo fU o.dst) (X.tOf σ j) (X.lgR (.t j) σ) k=some y:=hk;rw[ht]at hk;cases l with
  |cons=>cases hk|nil=>
  have hst:(erS σ).t j=.tup []:=by rw[Rb,ht];rfl
  obtain⟨a,σ',r1,n1,k1⟩:=A9 o.dst (X.lgR (.t j) σ) k y hk;refine⟨a,σ',?_,?_,k1⟩;simp only[SP.run,hst];exact r1;simp only[SP.foot,hst];refine⟨λx hx=>?_,n1.w,λx hx=>n1.r0 x (by simp[X.lgR,hx]),λx hx=>n1.w0 x hx⟩;rcases oMC.1 hx with h|h;exact n1.r0 x (by simp[X.lgR,h]);exact n1.r x h
 |_=>have hk:X.guardX fU j want (X.evop fU C u o.dst o.op) (X.setNo fU o.dst) (X.tOf σ j) (X.lgR (.t j) σ) k=some y:=hk;rw[ht]at hk;cases hk
end
end Go.Proofs.YtabfnmgabblofaaGreat
