/- Part of the proof; no condition. -/
import Derived.Test.YtabfnmgabblofaaGreatHb
set_option linter.unusedVariables false
set_option linter.unusedSimpArgs false
namespace Go.Proofs.YtabfnmgabblofaaGreat
open Go.RowKit
def vZ(P:Program)(own:Nat->Bool):Nat->List TypeId->List Operand->Option b_
 |_,_,[]=>some []|i,ts,x::xs=>
 match gc x,vZ P own (i+1) ts.tail xs with
 |some y,some l=>
 match ts with
  |t::_=>match P.underlying t with
   |some (.pointer e)=>match E5 P e with|some n=>some ((some n,y)::l)|none=>none
   |some (.slice _)=>some ((if own i then some 0 else none,y)::l)|_=>some ((none,y)::l)
  | []=>some ((none,y)::l)
 |_,_=>none
def VN(P:Program)(t:TypeId):Bool:=match P.underlying t with
 |some (.int _)=>true
 |some .bool=>true
 |some .string=>true
 |some (.struct _)=>(wE P 50 t).isSome
 |_=>false
def Pz(P:Program)(fn:Func):Bool:=fn.resultTypes.toList.all (VN P)&&fn.params.toList.all λt=>match P.underlying t with|some (.pointer _)=>false|_=>true
abbrev A_:=List Oper
def of:Code->A_|.region _ ops _=>ops.toList|.seq a b=>of a++of b|.cond _ a b=>of a++of b|.block _ b=>of b|.loop b=>of b|_=>[]
def S4(ops:A_)(j:Nat):Option Operand->Bool
 |some (.tmp t)=>t==j||ops.any λo=>o.dst==some t&&match o.op with|.move (.tmp u)=>u==j|_=>false
 |_=>false
def VI(P:Program):Nat->Func->Nat->Bool
 |0,_,_=>false|n+1,fn,j=>match fn.body with
  |some c=>(of c).any λo=>match o.op with
   |.call ⟨.builtin .append,args,_⟩=>S4 (of c) j args[0]?|.call ⟨.value (.func g),args,_⟩=>match P.funcs[g]? with|some fg=>args.toList.zipIdx.any λx=>S4 (of c) j (some x.1)&&VI P n fg x.2|none=>false
   |_=>false
  |none=>false
def BA(P:Program):Op->Option TOp
 |.call ⟨.value (.func f),args,_⟩=>match P.funcs[f]? with|some fn=>(vZ P (VI P 3 fn) 0 fn.params.toList args.toList).map λl=>.call (!Pz P fn) (.f f) l|none=>none
 |.call ⟨.value (.tmp i),args,tys⟩=>(vZ P (λ_=>false) 0 tys.toList args.toList).map λl=>.call true (.t i) l|_=>none
def s6:Nat->b_->b_|_,[]=>[]|m,x::r=>(if m%1000=0 then x else(some (m%1000),x.2))::s6 (m/1000) r
def xe:Nat->Nat->b_->b_|_,_,[]=>[]|a,k,x::r=>(if a=0 then(x.1.map λn=>n+1000*(k+1),x.2)else x)::xe (a-1) k r
def K5(mv:Nat):TOp->TOp|.call k f args=>if mv=7 then .call false f args else if 100000000<=mv then .call true f (s6 (mv-100000000) args)else if 1000000<=mv then .call k f (xe ((mv-1000000)/1000) ((mv-1000000)%1000) args)else .call k f (if 10<=mv then args.map λx=>(x.1.map λn=>min n (mv-10),x.2)else args)|t=>t
def uY(P:Program)(mv:Nat)(op:Op):TOp:=match jY P mv op with|some t=>t|none=>match BA P op with|some t=>K5 mv t|none=>UJ
def VV(pp:N_)(nt:Nat):x_->Bool|some d=>decide (d<nt) && !pp.contains d|none=>true
def He(P:Program)(pp:N_)(nt:Nat)(ops:u_)(mv:Nat)(o:Oper):Option lN:=
 if VV pp nt o.dst then
  match o.guard with
  |none=>some ⟨o.dst,none,uY P mv o.op⟩
  |some (j,want)=>match(ops[j]?).bind (·.dst)with
   |some d=>some ⟨o.dst,some (d,want),uY P mv o.op⟩
   |none=>none
 else none
def sr(P:Program)(pp:N_)(nt:Nat)(ops:u_):N_->A_->Option (List lN)|_,[]=>some []|m,o::r=>match He P pp nt ops (m.headD 0) o,sr P pp nt ops m.tail r with|some t,some l=>some (t::l)|_,_=>none
def JI:A_->k_->k_| [],acc=>acc|o::r,acc=>JI r (acc++[((o.after.toList.filter (Region.binds .any)).flatMap λe=>e.on::acc.getD e.on []).eraseDups])
def G8(ops:A_)(deps:k_):Nat->Bool|0=>true|i+1=>G8 ops deps i&&match ops[i]? with|some o=>(o.after.toList.all λe=>!Region.binds .any e||decide (e.on<i))&&((deps.getD i []).all λj=>o.after.toList.any λe=>Region.binds .any e&&(e.on==j||(deps.getD e.on []).contains j))|none=>true
def Hf(P:Program)(ops:u_)(tops:List lN)(draw:Bool):Option (Option k_):=
 if draw then
  if P.follows .mixedOrders&&G8 ops.toList (JI ops.toList []) ops.size then
   if Ev (JI ops.toList []) tops (List.range tops.length)then some none else some (some (JI ops.toList []))
  else none
 else some none
def zC:Code->x_
 |.region id _ _=>some id|.seq _ b=>zC b|.cond _ a b=>match zC b with|some i=>some i|none=>zC a
 |.block _ b=>zC b|_=>none
def Lx(pers:Nat->Prs)(a:Code)(l:a_):mb->mb
 |.skip=>match zC a with|some i=>.nrm (pers i)|none=>match l with| []=>.skip|_::_=>.nrm (l.filterMap λx=>match x.2 with|none=>some x.1|some _=>none,l.filterMap (·.2))
 |t=>t
def VZ:Operand->Nat|.tmp t=>2000000+t|_=>2000000
def Aa:Code->Nat|.seq a b=>Aa a+Aa b|.cond _ a b=>Aa a+Aa b|.block _ b=>Aa b|.loop b=>Aa b+1|_=>0
def Vi(nt:Nat)(pp:N_)(l:a_):Bool:=l.all λy=>decide (y.1<nt) && !pp.contains (1000000+y.1)
def Wq(nt:Nat)(pp:N_)(l:a_)(a:mb):mb:=match l with | []=>a|_::_=>if Vi nt pp l then .pre l a else a
def Rv(nt:Nat)(pp:N_)(l:a_)(a:mb):mb:=match l with | []=>a|_::_=>if Vi nt pp l then .post a l else a
def WH(pp:N_)(nt:Nat)(l:a_)(a:mb):mb:=match l with
 | [(i,some n)]=>if decide (1000<=n)||decide (i<nt) && !pp.contains i then .frz i n a else a
 |_=>a
def ke(P:Program)(pp:N_)(nt:Nat)(mv:Nat->A_->Bool->N_)(pers:Nat->Prs)(H:Nat->a_):Code->Nat->Option mb
 |.skip,_=>some .skip|.region id ops draw,_=>match sr P pp nt ops (mv id ops.toList draw) ops.toList with
  |some l=>match Hf P ops l draw with|some d=>some (WH pp nt (H (4000000+id)) (Wq nt pp (H (3000000+id)) (.reg id d l (pers id))))|none=>none
  |none=>none
 |.seq a b,i=>match ke P pp nt mv pers H a i,ke P pp nt mv pers H b (i+Aa a)with|some x,some y=>some (.seq x y)|_,_=>none
 |.cond c a b,i=>match gc c,ke P pp nt mv pers H a i,ke P pp nt mv pers H b (i+Aa a)with|some k,some x,some y=>some (.cond k (Lx pers b (H (VZ c)) x) (Lx pers a (H (VZ c)) y))|_,_,_=>none
 |.block id b,i=>(ke P pp nt mv pers H b i).map (.block id)|.loop b,i=>(ke P pp nt mv pers H b (i+1)).map λx=>Wq nt pp (H (i+1)) (.loop (Rv nt pp (H (i+1)) x))|.exit id,_=>some (.exit id)|.ret,_=>some .ret|_,_=>none
def uX(P:Program):List ResultVar->Option Q_| []=>some []|.tmp t::r=>(uX P r).map (.tmp t :: ·)|.cell t ty::r=>match LT P ty,uX P r with|some n,some l=>some (.cell t n::l)|_,_=>none
def Hy(l:List Operand):N_:=l.filterMap λx=>match x with|.tmp t=>some t|_=>none
def T2(l:List ResultVar):N_:=l.map λr=>match r with|.tmp t=>t|.cell t _=>t
def Pv:Op->Bool|.load _ _=>true|.move (.tmp _)=>true|.field _ _ _=>true|.fieldAddr _ _ _=>true|.indexAddr _ _ _=>true|.slice _ _ _ _ _=>true|.nilCheck _=>true|.extract _ _=>true|.pick _ _ _=>true|_=>false
def vC(l:N_):Nat:=l.foldl (λb i=>b ||| (1 <<< i)) 0
def SW(nt b:Nat):N_:=(List.range nt).filter λi=>b.testBit i
def VY(b i:Nat):Nat:=if b.testBit i then b-(1 <<< i)else b
def P2(ops:A_)(o:Oper):N_:=match o.guard with|some (j,_)=>((ops[j]?).bind (·.dst)).toList|none=>[]
def Ks(ops:A_):A_->Nat->Nat
 | [],out=>out|o::r,out=>
 let b:=Ks ops r out
 (match o.dst with|some d=>VY b d|none=>b) ||| vC (Hy o.op.operands.toList++P2 ops o)
def Fr(rt:Nat):Code->Nat->p_->Nat×p_|.region id ops _,out,_=>(Ks ops.toList ops.toList out,[(id,out)])|.seq a b,out,ex=>let y:=Fr rt b out ex;let x:=Fr rt a y.1 ex;(x.1,x.2++y.2)|.cond c a b,out,ex=>let x:=Fr rt a out ex;let y:=Fr rt b out ex;(x.1 ||| y.1 ||| vC (Hy [c]),x.2++y.2)|.block id b,out,ex=>Fr rt b out ((id,out)::ex)|.loop b,_,ex=>let l:=(Fr rt b 0 ex).1;Fr rt b l ex|.exit id,_,ex=>((gI ex id).getD 0,[])|.ret,_,_=>(rt,[])|_,out,_=>(out,[])
def PP(P:Program)(t:TypeId):Bool:=match P.underlying t with|some (.pointer _)=>true|_=>false
def Fj(P:Program)(b:Nat)(o:Oper):Nat:=
 match o.dst with
 |some d=>
  if(match o.op with
   |.box _ _=>true
   |.alloc _=>true
   |.fieldAddr _ _ _=>true
   |.indexAddr _ _ _=>true
   |.nilCheck _=>true
   |.load t _=>PP P t
   |.move (.tmp s)=>b.testBit s
   |.assign (.tmp s)=>b.testBit s
   |.call ⟨.value (.func f),_,_⟩=>match P.funcs[f]? with|some fn=>fn.resultTypes.toList.map (PP P)==[true]|none=>false
   |_=>false)then b ||| (1 <<< d)else b
 |none=>b
def Qs(b:Nat)(o:Oper):p_:=
 match o.dst with
 |some d=>if Pv o.op then(Hy o.op.operands.toList).map λs=>(d,s)else match o.op with|.assign (.tmp s)=>if b.testBit s then[(d,s)]else[]|_=>[]
 |none=>[]
def UR(P:Program)(pp:N_)(c:Code):p_:=
 let ops:=of c
 let b:=ops.foldl (Fj P) (ops.foldl (Fj P) (vC pp))
 ops.flatMap (Qs b)
def WG(o:Oper):Bool:=match o.op with
 |.extract _ _=>true
 |_=>false
def SF(P:Program)(pp:N_)(c:Code):p_:=
 let ops:=of c
 let b:=ops.foldl (Fj P) (ops.foldl (Fj P) (vC pp))
 (ops.filter λo=>!WG o).flatMap (Qs b)
def EQ(al:p_)(b:Nat):Nat:=al.foldr (λx b=>if b.testBit x.1 then b ||| (1 <<< x.2)else b) b
def T1(l:N_):N_:=l.flatMap λi=>[2*i+2,2*i+3]
def Tr:Op->List Operand|.store _ _ x=>[x]|.call ⟨.builtin .append,args,_⟩=>args.toList.tail|op=>op.operands.toList
def WZ(el:Nat)(al:p_)(after:Nat)(o:Oper):Bool:=
 let live:=EQ al (EQ al after)
 (Hy (Tr o.op)).all λt=>!el.testBit t&&(EQ al (EQ al (1 <<< t))) &&& live==0
def Vx(el:Nat)(al:p_)(ops:A_)(out:Nat):A_->List Bool| []=>[]|o::r=>WZ el al (Ks ops r out) o::Vx el al ops out r
def Mi(b:Nat)(o:Oper):Nat:=
 match o.dst with
 |some d=>
  if(match o.op with
   |.indexAddr _ _ _=>true
   |.fieldAddr _ (.tmp s) _=>b.testBit s
   |.load _ (.tmp s)=>b.testBit s
   |.nilCheck (.tmp s)=>b.testBit s
   |.move (.tmp s)=>b.testBit s
   |.field _ (.tmp s) _=>b.testBit s
   |_=>false)then b ||| (1 <<< d)else b
 |none=>b
def Px(el:Nat)(al:p_)(ops:A_)(out:Nat):List (Nat×Oper)->List Bool| []=>[]|(i,o)::r=>WZ el al (out ||| vC ((ops.zipIdx.filter λx=>x.2 != i).flatMap λx=>Hy x.1.op.operands.toList)) o::Px el al ops out r
def W9(P:Program)(pp:N_)(c:Code)(res:N_):Nat->A_->Bool->List Bool:=
 let tb:=(Fr (vC res) c (vC res) []).2
 let al:=SF P pp c
 let ppb:=vC pp
 let el:=(of c).foldl Mi ((of c).foldl Mi 0)
 λid ops draw=>
  let out:=((gI tb id).getD 0) ||| ppb
  if draw then Px el al ops out (ops.zipIdx.map λx=>(x.2,x.1))else Vx el al ops out ops
def Vr(P:Program)(pp:N_)(nt:Nat)(c:Code)(res:N_):Nat->Prs:=
 let tb:=(Fr (vC res) c (vC res) []).2
 let al:=UR P pp c
 let ppb:=vC pp
 λid=>
  let b:=((gI tb id).getD 0) ||| ppb
  (SW nt b,T1 (SW nt (EQ al (EQ al b))))
def B7(P:Program):Nat->List TypeId->N_|_,[]=>[]|i,t::r=>match P.underlying t with|some (.pointer _)=>i::B7 P (i+1) r|_=>B7 P (i+1) r
def mvH(H:Nat->a_)(mv:Nat->A_->Bool->List Bool):Nat->A_->Bool->N_:=λid ops draw=>match H (1000000+id)with| []=>(mv id ops draw).map λb=>if b then 1 else 0|l=>(mv id ops draw).zipIdx.map λx=>match l.find? λy=>y.1==x.2 with|some y=>y.2.getD 0|none=>if x.1 then 1 else 0
def C6(P:Program):Code->Option Code
 |.seq (.region _ a0 false) (.seq (.seq (.region _ a1 false) (.cond (.tmp 4) (.seq (.region _ a2 false) .ret) .skip)) rest)=>
 match a0.toList,a1.toList,a2.toList with
  | [⟨some 2,.assign (.const (.slice none 0 0)),_,_,_,none⟩],[⟨some 3,.move (.tmp 0),_,_,_,none⟩,⟨some 4,.binOp .eql ty (.tmp 3) (.const (.slice none 0 0)) _,_,_,_,none⟩],[⟨some 2,.assign (.const (.slice none 0 0)),_,_,_,none⟩]=>match P.underlying ty with|some (.slice _)=>some rest|_=>none
  |_,_,_=>none
 |_=>none
def C3(P:Program)(fn:Func)(c:Code):y_:=
 match C6 P c with
 |some (.seq (.region id ops false) .ret)=>
 match sr P [1000] 8 ops [0,0,0,1] ops.toList with
  |some [⟨some 5,none,.bsl sz b 0 []⟩,⟨some 6,none,.mov (.t 0)⟩,⟨some 7,none,.app sz2 bytes mv fl (.t 5) (.t 6)⟩,⟨some 2,none,.asn true (.t 7)⟩]=>
   if sz2=sz/\BB (JN sz b bytes mv fl id)=true/\fn.params.size=1/\fn.ntmps=8 then
    match uX P fn.results.toList with
    |some [.tmp 2]=>some ⟨1,[1000],8,JN sz b bytes mv fl id,[.tmp 2]⟩
    |_=>none
   else none
  |_=>none
 |_=>none
def zN(P:Program)(H:Nat->a_)(f:FuncId):y_:=
 match P.funcs[f]? with
 |some fn=>
 match fn.body with
  |some c=>match C3 P fn c with|some tf=>some tf|none=>let np:=fn.params.size+fn.nfree;let pp:=B7 P 0 fn.params.toList++(List.range fn.nfree).map (fn.params.size + ·);let rt:=T2 fn.results.toList;let pq:=pp++(H 5000000).map (·.1);let pers:=Vr P pq fn.ntmps c rt;let pl:=pq++(H 5000000).map (λx=>1000000+x.1)++(H 5000001).map (λx=>1000000000+x.1);match ke P pl fn.ntmps (mvH H (W9 P pq c rt)) pers H c 0,uX P fn.results.toList with|some tc,some rs=>some ⟨np,pl,fn.ntmps,Rv fn.ntmps pl (H 0) tc,rs⟩|_,_=>none
  |none=>none
 |none=>none
section
variable {P:Program} {M:Fm} {pp:N_} {nt:Nat}
theorem EP:∀{qs:List ResultVar}{l:Q_},uX P qs=some l->l.length=qs.length/\∀k (h:k<l.length)(h':k<qs.length),Lm P l[k] qs[k]:=by
 intro qs;induction qs with
 |nil=>intro l h;simp[uX]at h;simp_all|cons q qs ih=>
 intro l h;cases q with
 |tmp t=>obtain⟨l',h1,rfl⟩:=kU h;obtain⟨e,h2⟩:=ih h1;refine⟨by simp[e],λk hk YD=>?_⟩;cases k with|zero=>exact rfl|succ k=>exact h2 k (by simp_all) (by simp_all)
 |cell t ty=>
 simp[uX]at h;split at h;rename_i n l' h1 h2;injection h with h
 subst h;have ⟨e,h3⟩:=ih h2;refine⟨by simp[e],λk hk YD=>?_⟩;cases k with|zero=>exact⟨ty,rfl,Ib h1⟩|succ k=>exact h3 k (by simp_all) (by simp_all)
 simp at h
theorem C4{own:Nat->Bool}:∀{xs:List Operand}{i:Nat}{ts:List TypeId}{l:b_},vZ P own i ts xs=some l->l.length=xs.length/\∀j (h:j<l.length)(h':j<xs.length),gc xs[j]=some l[j].2:=by
 intro xs;induction xs with
 |nil=>intro i ts l h;simp[vZ]at h;simp_all|cons x xs ih=>
 intro i ts l h;simp[vZ]at h;split at h
 ·rename_i y l' h1 h2;have ⟨e,h3⟩:=ih h2
  obtain⟨n,rfl⟩:∃n,l=(n,y)::l':=by
   (repeat' split at h)<;>first|(injection h with h;exact⟨_,h.symm⟩)|simp at h
  refine⟨by simp[e],λj hj ZR=>?_⟩
  cases j with
  |zero=>exact h1
  |succ j=>exact h3 j (by simp_all) (by simp_all)
 simp at h
theorem Ld{op:Op}{t:TOp}(h:BA P op=some t):uS op t:=by unfold BA at h;split at h;rename_i f args tys;split at h;obtain⟨l,h1,rfl⟩:=kU h;have ⟨e,h2⟩:=C4 h1;exact⟨rfl,by omega,λj hj ZR=>by simp_all⟩;simp at h;rename_i i args tys;obtain⟨l,h1,rfl⟩:=kU h;have ⟨e,h2⟩:=C4 h1;exact⟨rfl,by omega,λj hj ZR=>by simp_all⟩;simp at h
theorem RT{pp:N_}{i:Nat}(h:i∈LW pp):i∈pp/\1000000+i∈pp:=by
 have ⟨k,hk,h2⟩:=List.mem_filterMap.1 h;split at h2;rename_i hc;injection h2 with h2
 refine⟨by simp_all,by rw[<- h2,Nat.add_sub_cancel' hc.1];exact hk⟩;cases h2
theorem Ft(hkp:∀i,M.kp i≠none->i∈LW pp){d:Nat}(h:d ∉ pp\/1000000+d ∉ pp):M.kp d=none:=by cases hk:M.kp d with|none=>rfl|some v=>have ⟨h1,h2⟩:=RT (hkp d (by simp_all));simp_all
theorem Kt:∀{l:b_}{m:Nat},(s6 m l).length=l.length/\∀j (h:j<(s6 m l).length)(h':j<l.length),(s6 m l)[j].2=l[j].2:=by intro l;induction l with|nil=>intro m;exact⟨rfl,λj h=>by simp_all⟩|cons x l ih=>intro m;have ⟨e,h2⟩:=ih (m:=m/1000);refine⟨by simp[s6,e],λj h h'=>?_⟩;cases j with|zero=>simp[s6];split<;>rfl|succ j=>simp;exact h2 j (by simp_all) (by simp_all)
theorem MP:∀{l:b_}{a k:Nat},(xe a k l).length=l.length/\∀j (h:j<(xe a k l).length)(h':j<l.length),(xe a k l)[j].2=l[j].2:=by intro l;induction l with|nil=>intro a k;exact⟨rfl,λj h=>by simp_all⟩|cons x l ih=>intro a k;have ⟨e,h2⟩:=ih (a:=a-1) (k:=k);refine⟨by simp[xe,e],λj h h'=>?_⟩;cases j with|zero=>simp[xe];split<;>rfl|succ j=>simp;exact h2 j (by simp_all) (by simp_all)
theorem ND{mv:Nat}{op:Op}{t:TOp}(h:uS op t):uS op (K5 mv t):=by
 unfold K5;split;rename_i k f args;split;cases op with
 |call c=>obtain⟨callee,asq,tys⟩:=c;cases callee with|value fo=>exact h|_=>exact h
 |_=>exact h
 split;cases op with
 |call c=>obtain⟨callee,asq,tys⟩:=c;cases callee with|value fo=>obtain⟨h1,h2,h3⟩:=h;obtain⟨e,h4⟩:=Kt (l:=args);exact⟨h1,by rw[e];exact h2,λj hj ZR=>by rw[h4 j hj (by omega)];exact h3 j (by omega) ZR⟩|_=>exact h
 |_=>exact h
 split;cases op with
 |call c=>obtain⟨callee,asq,tys⟩:=c;cases callee with|value fo=>obtain⟨h1,h2,h3⟩:=h;obtain⟨e,h4⟩:=MP (l:=args) (a:=(mv-1000000)/1000) (k:=(mv-1000000)%1000);exact⟨h1,by rw[e];exact h2,λj hj ZR=>by simp_all⟩|_=>exact h
 |_=>exact h
 split;cases op with
 |call c=>obtain⟨callee,asq,tys⟩:=c;cases callee with|value fo=>obtain⟨h1,h2,h3⟩:=h;exact⟨h1,by simpa using h2,λj hj ZR=>by simpa using h3 j (by simpa using hj) ZR⟩|_=>exact h
 |_=>exact h
 exact h;exact h
theorem K9{ops:u_}{mv:Nat}{o:Oper}{t:lN}(hN:M.N=nt)(Y1:∀r,M.pr r≠none->∃i∈pp,r=2*i+2)(hkp:∀i,M.kp i≠none->i∈LW pp)(h:He P pp nt ops mv o=some t):AZ P M lJ ops o t:=by
 unfold He at h;split at h;case isFalse=>simp at h
 rename_i hd;have Yy:∀d,o.dst=some d->M.ok d/\M.pr (2*d+2)=none:=λd e=>by rw[e]at hd;simp[VV,oDE,Bool.not_eq_true',List.contains_eq_mem,decide_eq_false_iff_not]at hd;refine⟨⟨by omega,Ft hkp (.inl hd.2)⟩,?_⟩;cases hp:M.pr (2*d+2)with|none=>rfl|some x=>obtain⟨i,hi,e2⟩:=Y1 (2*d+2) (by rw[hp];simp);have e3:d=i:=Nat.eq_of_mul_eq_mul_left (by omega) (Nat.add_right_cancel e2);simp_all
 have hop':(∃mv',jY P mv' o.op=some (uY P mv o.op))\/lJ o.op (uY P mv o.op):=by unfold uY;cases h1:jY P mv o.op with|some t1=>exact .inl ⟨mv,h1⟩|none=>cases h2:BA P o.op with|some t1=>exact .inr (.inr (ND (Ld h2)))|none=>exact .inr (.inl rfl)
 split at h;rename_i hg;injection h with h
 subst h;exact⟨rfl,Yy,.inl ⟨hg,rfl⟩,hop'⟩;rename_i j want hg;split at h;rename_i d hj;injection h with h
 subst h;exact⟨rfl,Yy,.inr ⟨j,want,d,hg,rfl,hj⟩,hop'⟩;simp at h
theorem Au{ops:u_}(hN:M.N=nt)(Y1:∀r,M.pr r≠none->∃i∈pp,r=2*i+2)(hkp:∀i,M.kp i≠none->i∈LW pp):∀{l:A_}{mv:N_}{ts:List lN},sr P pp nt ops mv l=some ts->ts.length=l.length/\∀i (h:i<l.length)(h':i<ts.length),AZ P M lJ ops l[i] ts[i]:=by
 intro l;induction l with
 |nil=>intro mv ts h;simp[sr]at h;simp_all|cons o l ih=>
 intro mv ts h;simp[sr]at h;split at h;rename_i t l' h1 h2;injection h with h
 subst h;have ⟨e,h3⟩:=ih h2;refine⟨by simp[e],λj hj ZR=>?_⟩;cases j with|zero=>exact K9 hN Y1 hkp h1|succ j=>simp_all
 simp at h
theorem EN{ops:A_}{deps:k_}:∀{n:Nat},G8 ops deps n=true->∀i,i<n->∀(h:i<ops.length),(∀e∈ops[i].after.toList,Region.binds .any e=true->e.on<i)/\∀j∈deps.getD i [],∃e∈ops[i].after.toList,Region.binds .any e=true/\(e.on=j\/j∈deps.getD e.on []):=by
 intro n;induction n with
 |zero=>intro _ i hi;omega|succ n ih=>
 intro h i hi hl;simp only[G8,oBA]at h;by_cases e:i<n;simp_all;obtain rfl:i=n:=by omega
 have h2:=h.2;rw[oGE hl]at h2;simp only[oBA,oAE,List.any_eq_true,Bool.or_eq_true,Bool.not_eq_true',oDE,beq_iff_eq,List.contains_eq_mem]at h2;refine⟨λe he hb=>?_,λj hj=>?_⟩;rcases h2.1 e he with h3|h3;simp_all;exact h3;simp_all
def Wk(P:Program)(ops:u_)(tops:List lN)(draw:Bool)(d:Option k_):Prop:=match d with
 |some deps=>draw=true/\Dl ops deps/\P.follows .mixedOrders=true
 |none=>draw=true->∃deps,Dl ops deps/\P.follows .mixedOrders=true/\Ev deps tops (List.range tops.length)=true
theorem Lb{ops:u_}{tops:List lN}{draw:Bool}{d:Option k_}(h:Hf P ops tops draw=some d):Wk P ops tops draw d:=by
 unfold Hf at h;split at h
 ·rename_i hd;split at h
  case isFalse=>simp at h
  rename_i hc;simp at hc
  have hD:Dl ops (JI ops.toList []):=by
   refine⟨λi hi e he hb=>?_,λi hi j hj=>?_⟩
   ·exact(EN hc.2 i hi (by omega)).1 e (by simp_all) hb
   ·have ⟨e,he,h3⟩:=(EN hc.2 i hi (by omega)).2 j hj;exact⟨e,by simp_all,h3⟩
  split at h
  ·rename_i hs
   injection h with h
   subst h;exact λ_=>⟨_,hD,hc.1,hs⟩
  ·injection h with h
   subst h;exact⟨hd,hD,hc.1⟩
 rename_i hd;injection h with h
 subst h;exact λh'=>absurd h' (by omega)
theorem HF{isCall:Op->TOp->Prop}{pers:Nat->Prs}{a c:Code}{l:a_}{t:mb}(h:kE P M isCall t c):kE P M isCall (Lx pers a l t) c:=by
 cases t with
 |skip=>unfold Lx;cases zC a with|some i=>exact h|none=>cases l<;>exact h
 |_=>exact h
theorem Pg(hN:M.N=nt)(hkp:∀i,M.kp i≠none->i∈LW pp){l:a_}{x:mb}{c:Code}(h:kE P M lJ x c):kE P M lJ (Wq nt pp l x) c:=by unfold Wq;split;exact h;split;rename_i hl;refine⟨λy hy=>?_,h⟩;have:=oAE.1 hl y hy;simp at this;exact⟨by omega,Ft hkp (.inr this.2)⟩;exact h
theorem LP(hN:M.N=nt)(hkp:∀i,M.kp i≠none->i∈LW pp){l:a_}{x:mb}{c:Code}(h:kE P M lJ x c):kE P M lJ (Rv nt pp l x) c:=by unfold Rv;split;exact h;split;rename_i hl;refine⟨λy hy=>?_,h⟩;have:=oAE.1 hl y hy;simp at this;exact⟨by omega,Ft hkp (.inr this.2)⟩;exact h
theorem Uy(hN:M.N=nt)(Y1:∀r,M.pr r≠none->∃i∈pp,r=2*i+2)(hkp:∀i,M.kp i≠none->i∈LW pp){l:a_}{x:mb}{c:Code}(h:kE P M lJ x c):kE P M lJ (WH pp nt l x) c:=by
 unfold WH;split;rename_i i n;split;rename_i hc;rw[Bool.or_eq_true,oDE]at hc;rcases hc with hc|hc;exact⟨.inl hc,h⟩;simp at hc;refine⟨.inr ⟨⟨by omega,Ft hkp (.inl (by simp_all))⟩,?_⟩,h⟩;cases hp:M.pr (2*i+2)with
 |none=>rfl|some y=>
  have ⟨j,hj,e⟩:=Y1 (2*i+2) (by simp_all);have e2:i=j:=by omega
  simp_all
 exact h;exact h
theorem Lc{mv:Nat->A_->Bool->N_}{pers:Nat->Prs}{H:Nat->a_}(hN:M.N=nt)(Y1:∀r,M.pr r≠none->∃i∈pp,r=2*i+2)(hkp:∀i,M.kp i≠none->i∈LW pp):∀{c:Code}{i:Nat}{tc:mb},ke P pp nt mv pers H c i=some tc->kE P M lJ tc c:=by
 intro c;induction c with
 |skip=>intro i tc h;simp only[ke,oSJ]at h;subst h;exact rfl|exit id=>intro i tc h;simp only[ke,oSJ]at h;subst h;exact rfl|ret=>intro i tc h;simp only[ke,oSJ]at h;subst h;exact rfl|region id ops draw=>
 intro i tc h;simp only[ke]at h;split at h;case h_2=>simp at h
 rename_i l h1;split at h;case h_2=>simp at h
 rename_i d hd;injection h with h
 subst h;obtain⟨e,h2⟩:=Au hN Y1 hkp h1;exact Uy hN Y1 hkp (Pg hN hkp ⟨id,ops,draw,rfl,by omega,λi hi Zn=>by simp_all,Lb hd⟩)
 |seq a b ZI ZF=>
 intro i tc h;simp only[ke]at h;split at h;rename_i x y h1 h2;injection h with h
 subst h;exact⟨a,b,rfl,ZI h1,ZF h2⟩;simp at h
 |cond k a b ZI ZF=>
 intro i tc h;simp only[ke]at h;split at h;rename_i k' x y h1 h2 h3;injection h with h
 subst h;exact⟨k,a,b,rfl,h1,HF (ZI h2),HF (ZF h3)⟩;simp at h
 |block id b ih=>intro i tc h;obtain⟨x,h1,rfl⟩:=kU h;exact⟨b,rfl,ih h1⟩|loop b ih=>intro i tc h;obtain⟨x,h1,rfl⟩:=kU h;exact Pg hN hkp ⟨b,rfl,LP hN hkp (ih h1)⟩|_=>intro i tc h;simp[ke]at h
theorem ze{α:Type}{a:Array α}{l:List α}(h:a.toList=l):a=l.toArray:=by rw[<- h]
theorem JL{c rest:Code}(h:C6 P c=some rest):QF P c rest:=by
 unfold C6 at h;split at h;case h_2=>cases h
 rename_i i0 a0 i1 a1 i2 a2 rest';split at h;case h_2=>cases h
 rename_i t0 s0 f0 t1 s1 f1 ty ty2 t2 s2 f2 t3 s3 f3 e0 e1 e2;split at h;case h_2=>cases h
 rename_i e hu;injection h with h
 subst h;exact⟨i0,i1,i2,_,_,_,_,ty,_,e,by rw[ze e0,ze e1,ze e2],⟨rfl,rfl,rfl⟩,⟨rfl,rfl,rfl⟩,⟨rfl,rfl,rfl⟩,⟨rfl,rfl,rfl⟩,hu⟩
theorem Av{fn:Func}{c:Code}{tf:TFn}(h:C3 P fn c=some tf):QE P tf c/\tf.nt=fn.ntmps/\tf.np=fn.params.size/\uX P fn.results.toList=some tf.res:=by
 unfold C3 at h;split at h;case h_2=>cases h
 rename_i id ops hr;split at h;case h_2=>cases h
 rename_i sz b sz2 bytes mv fl hops;split at h;case isFalse=>cases h
 rename_i hc;obtain⟨rfl,hchk,hp,hn⟩:=hc;split at h;case h_2=>cases h
 rename_i Zc;injection h with h
 subst h;refine⟨⟨rfl,rfl,rfl,rfl,hchk,⟨_,_,_,_,_,_,rfl⟩,_,JL hr,λM hN Y1 hkp=>?_⟩,hn.symm,hp.symm,Zc⟩;obtain⟨e,h2⟩:=Au (nt:=8) hN Y1 hkp hops;exact⟨_,_,rfl,⟨id,ops,false,rfl,by omega,λi hi Zn=>by simp_all,λh=>by cases h⟩,rfl⟩
theorem QQ{T:FuncId->y_}(h:∀f tf,T f=some tf->(∃H,zN P H f=some tf)/\tf.np<=tf.nt/\∀fn,P.funcs[f]?=some fn->(fn.name== "runtime.NumGoroutine")=false):Qw P T:=by
 intro f tf hT;obtain⟨⟨H,h1⟩,h2,h3⟩:=h f tf hT;unfold zN at h1;split at h1;case h_2=>simp at h1
 rename_i fn hf;split at h1;case h_2=>simp at h1
 rename_i c hb;split at h1;rename_i tf' Y9;injection h1 with h1
 subst h1;obtain⟨g1,g2,g3,g4⟩:=Av Y9;have ⟨e,Zc⟩:=EP g4;exact⟨fn,c,hf,h3 fn hf,hb,g2.symm,h2,.inr g1,by simpa using e,λk hk YD=>by have:=Zc k hk (by simpa using YD);simpa using this⟩;simp only at h1;split at h1;rename_i tc rs hc hr;injection h1 with h1
 subst h1;have ⟨e,Zc⟩:=EP hr;exact⟨fn,c,hf,h3 fn hf,hb,rfl,h2,.inl λM hN Y1 hkp=>LP hN hkp (Lc hN Y1 hkp hc),by simpa using e,λk hk YD=>by have:=Zc k hk (by simpa using YD);simpa using this⟩;simp at h1
end
theorem My{E:Env}{T:FuncId->y_}{B F:iJ}{n:Nat}{f:FuncId}{tf:TFn}(h:T f=some tf)(vals:U_)(pts:Pts):Mz E T B F n f vals pts=runT E F n tf vals pts:=by unfold Mz;rw[h]
def arR(op:BinOp)(k:IntKind)(a b:Int):Int:=match op with|.add=>k.wrap (a+b)|.sub=>k.wrap (a-b)|.mul=>k.wrap (a*b)|.quo=>k.wrap (a.tdiv b)|.rem=>a.tmod b|.and=>k.wrap (BitVec.ofInt k.bits a &&& BitVec.ofInt k.bits b).toNat|.or=>k.wrap (BitVec.ofInt k.bits a ||| BitVec.ofInt k.bits b).toNat|.xor=>k.wrap (BitVec.ofInt k.bits a ^^^ BitVec.ofInt k.bits b).toNat|.andNot=>k.wrap (BitVec.ofInt k.bits a &&& ~~~BitVec.ofInt k.bits b).toNat|_=>0
def shR(op:BinOp)(k:IntKind)(a:Int)(n:Nat):Int:=match op with|.shl=>k.wrap (a*2 ^ (min n k.bits))|.shr=>a.fdiv (2 ^ (min n k.bits))|_=>0
def cmR(op:BinOp)(a b:Int):Bool:=match op with|.eql=>a==b|.neq=>a != b|.lss=>decide (a<b)|.leq=>decide (a<=b)|.gtr=>decide (a>b)|.geq=>decide (a>=b)|_=>false
def Wv{α:Type}(f:α->Bool):List α->Bool| []=>true|x::r=>match f x with|true=>Wv f r|false=>false
def UY{α:Type}(f:α->Bool):List α->Bool| []=>false|x::r=>match f x with|true=>true|false=>UY f r
def M9(a b:List Loc):Bool:=UY (λw=>UY (λx=>w.hit x) b) a
def Qj(a b:wg):Bool:=match M9 a.2 b.1 with
 |true=>true
 |false=>match M9 a.2 b.2 with
  |true=>true
  |false=>match M9 b.2 a.1 with
   |true=>true
   |false=>M9 b.2 a.2
def Fn(d:N_)(j:Nat)(F F':wg):Bool:=match d.contains j with
 |true=>true
 |false=>!Qj F F'
def Br(deps:k_):List (Nat×wg)->Bool| []=>true|(j,F)::r=>match Wv (λy=>Fn (deps.getD y.1 []) j F y.2) r with|true=>Br deps r|false=>false
theorem UQ{α:Type}(f:α->Bool)(l:List α):Wv f l=l.all f:=by induction l with|nil=>rfl|cons x l ih=>simp[Wv];cases f x<;>simp[ih]
theorem Qr{α:Type}(f:α->Bool)(l:List α):UY f l=l.any f:=by induction l with|nil=>rfl|cons x l ih=>simp[UY];cases f x<;>simp[ih]
theorem RN(a b:List Loc):M9 a b=Na a b:=by have e:(λw:Loc=>UY (λx=>w.hit x) b)=λw:Loc=>b.any λx=>w.hit x:=funext λw=>Qr _ _;unfold M9 Na;rw[Qr,e]
theorem Qi(a b:wg):Qj a b=tC a b:=by unfold Qj tC;simp[RN];grind
theorem M5(d:N_)(j:Nat)(a b:wg):Fn d j a b=(!tC a b||d.contains j):=by unfold Fn;rw[Qi];cases d.contains j<;>simp
theorem Kn(deps:k_)(fs:List (Nat×wg)):Br deps fs=lL deps fs:=by induction fs with|nil=>rfl|cons x r ih=>have ⟨j,F⟩:=x;have e:(λy:Nat×wg=>Fn (deps.getD y.1 []) j F y.2)=λy=>!tC F y.2||(deps.getD y.1 []).contains j:=funext λy=>M5 _ _ _ _;simp only[Br,lL,UQ,ih,e];cases r.all λy=>!tC F y.2||(deps.getD y.1 []).contains j<;>simp
theorem QL{x:Int}(h1:-9223372036854775808<=x)(h2:x<=9223372036854775807):IntKind.wrap .i64 x=x:=by
 have e1:(2:Int) ^ IntKind.bits .i64=18446744073709551616:=by rfl
 have e2:(2:Int) ^ (IntKind.bits .i64-1)=9223372036854775808:=by rfl
 have e3:IntKind.signed .i64=true:=rfl;unfold IntKind.wrap;simp[e1,e3];omega
theorem xG(x:Int):IntKind.wrap .u16 x=x%65536:=by
 have e1:(2:Int) ^ IntKind.bits .u16=65536:=by rfl
 have e3:IntKind.signed .u16=false:=rfl;unfold IntKind.wrap;simp_all
def UW(x:Int):Prop:=-9223372036854775808<=x/\x<=9223372036854775807
inductive CT where
 |int (k:IntKind)
 |bool
 |str
 |nat
 |row (own:Bool) (t:CT)
 |nilr (own:Bool)
 |pair (a b:CT)
def tz:CT->CT->Bool|.int k,.int k'=>decide (k=k')|.bool,.bool=>true|.str,.str=>true|.nat,.nat=>true|.row o t,.row o' t'=>(o==o')&&tz t t'|.nilr o,.nilr o'=>o==o'|.pair a b,.pair a' b'=>tz a a'&&tz b b'|_,_=>false
theorem rH:∀{a b:CT},tz a b=true->a=b:=by intro a;induction a with|int k=>intro b h;cases b<;>simp_all [tz]|bool=>intro b h;cases b<;>simp_all [tz]|str=>intro b h;cases b<;>simp_all [tz]|nat=>intro b h;cases b<;>simp_all [tz]|row o t ih=>intro b h;cases b<;>simp[tz]at h;rw[h.1,ih h.2]|nilr o=>intro b h;cases b<;>simp_all [tz]|pair x y XF ihy=>intro b h;cases b<;>simp[tz]at h;rw[XF h.1,ihy h.2]
def ky:CT->CT->Bool|.int k,.int k'=>decide (k=k')|.bool,.bool=>true|.str,.str=>true|.nat,.nat=>true|.row _ t,.row _ t'=>ky t t'|.nilr _,.nilr _=>true|.pair a b,.pair a' b'=>ky a a'&&ky b b'|_,_=>false
def NE:CT->CT->Bool|.int k,.int k'=>decide (k=k')|.bool,.bool=>true|.str,.str=>true|.nat,.nat=>true|.row o t,.row o' t'=>(o==o')&&NE t t'|.nilr o,.nilr o'=>o==o'|.nilr o,.row o' _=>o==o'|.pair a b,.pair a' b'=>NE a a'&&NE b b'|_,_=>false
def kg:CT->Nat|.pair a b=>kg a+kg b|.nat=>0|_=>1
def wD:CT->CT|.row true t=>.row false (wD t)|.nilr _=>.nilr false|.pair a b=>.pair (wD a) (wD b)|t=>t
def shT:CT->Nat->N_->Option CT|.pair a b,o,os=>if o<kg a then(shT a o os).map (.pair · b)else(shT b (o-kg a) os).map (.pair a ·)|t,0,[]=>some (wD t)|.row true t,0,o::os=>(shT t o os).map (.row true)|t,_,_=>some t
abbrev den:CT->Type|.int _=>Int|.bool=>Bool|.str=>ByteArray|.nat=>Nat|.row _ t=>List (den t)|.nilr _=>Unit|.pair a b=>den a×den b
theorem iF:∀{a b:CT},ky a b=true->den a=den b:=by intro a;induction a with|int k=>intro b h;cases b<;>simp[ky]at h;rfl|bool=>intro b h;cases b<;>simp[ky]at h;rfl|str=>intro b h;cases b<;>simp[ky]at h;rfl|nat=>intro b h;cases b<;>simp[ky]at h;rfl|row o t ih=>intro b h;cases b<;>simp[ky]at h;simp only[den];rw[ih h]|nilr o=>intro b h;cases b<;>simp[ky]at h;rfl|pair x y XF ihy=>intro b h;cases b<;>simp[ky]at h;simp only[den];rw[XF h.1,ihy h.2]
def UX:(t:CT)->den t|.int _=>(0:Int)|.bool=>false|.str=>ByteArray.empty|.nat=>(0:Nat)|.row _ _=>[]|.nilr _=>()|.pair a b=>(UX a,UX b)
def S8:(a b:CT)->den a->den b|.row _ t,.row _ t',xs=>List.map (S8 t t') xs|.pair a b,.pair a' b',x=>(S8 a a' x.1,S8 b b' x.2)|.int _,.int _,x=>x|.bool,.bool,x=>x|.str,.str,x=>x|.nat,.nat,x=>x|_,b,_=>UX b
def enc:(t:CT)->den t->U_|.int k,x=>[.v (.int k x)]|.bool,x=>[.v (.bool x)]|.str,x=>[.v (.string x)]|.nat,_=>[]|.row true t,xs=>[.ow (List.map (enc t) xs)]|.row false t,xs=>[.sl (List.map (enc t) xs)]|.nilr true,_=>[.ow []]|.nilr false,_=>[.sl []]|.pair a b,x=>enc a x.1++enc b x.2
abbrev R_:=List CT
def HL(D:CT->Type):R_->Type| []=>Unit|t::ts=>D t×HL D ts
abbrev n_:=List R_
def Fo:n_->Nat->R_| [],_=>[]|l::_,0=>l|_::r,i+1=>Fo r i
def E1:n_->Type| []=>Empty| [l]=>HL den l|l::m::r=>HL den l⊕E1 (m::r)
def zB:(ls:n_)->(i:Nat)->HL den (Fo ls i)->Option (E1 ls)| [],_,_=>none| [_],0,h=>some h| [_],_+1,_=>none|_::_::_,0,h=>some (.inl h)|_::m::r,i+1,h=>(zB (m::r) i h).map .inr
def VT{α:Type}:(ls:n_)->((i:Nat)->HL den (Fo ls i)->α)->E1 ls->α| [],_,o=>Empty.elim o| [_],f,o=>f 0 o|_::m::r,f,o=>match o with|.inl h=>f 0 h|.inr o'=>VT (m::r) (λi h=>f (i+1) h) o'
def pj{α:Type}(ls:n_)(o:E1 ls)(f:(i:Nat)->HL den (Fo ls i)->α):α:=VT ls f o
structure Alg (D:CT->Type)(M:Type->Type) where
 lit:(k:IntKind)->Int->D (.int k)
 litB:Bool->D .bool
 litS:ByteArray->D .str
 litN:Nat->D .nat
 nilv:(o:Bool)->D (.nilr o)
 nil:(o:Bool)->(t:CT)->D (.row o t)
 recast:(t t':CT)->ky t t'=true->D t->D t'
 coe:(t t':CT)->D t->D t'
 mkp:(a b:CT)->D a->D b->D (.pair a b)
 fst:(a b:CT)->D (.pair a b)->D a
 snd:(a b:CT)->D (.pair a b)->D b
 ar:BinOp->(k:IntKind)->D (.int k)->D (.int k)->D (.int k)
 cm:BinOp->(k:IntKind)->D (.int k)->D (.int k)->D .bool
 sh:BinOp->(k:IntKind)->D (.int k)->D .nat->D (.int k)
 neg:(k:IntKind)->D (.int k)->D (.int k)
 not:D .bool->D .bool
 cv:(k k':IntKind)->D (.int k)->D (.int k')
 mm:Bool->(k:IntKind)->D (.int k)->D (.int k)->D (.int k)
 eqB:D .bool->D .bool->D .bool
 eqS:D .str->D .str->D .bool
 eqT:D .str->D .str->D .bool
 catOk:D .str->D .str->D .bool
 catS:D .str->D .str->D .str
 andB:D .bool->D .bool->D .bool
 ite:(t:CT)->D .bool->D t->D t->D t
 natI:D .nat->D (.int .i64)
 addN:D .nat->D .nat->D .nat
 subN:D .nat->D .nat->D .nat
 minN:D .nat->D .nat->D .nat
 len:(o:Bool)->(t:CT)->D (.row o t)->D .nat
 slOk:D .nat->D .nat->D .nat->D .bool
 ltN:D .nat->D .nat->D .bool
 eqN:D .nat->D .nat->D .bool
 win:(o:Bool)->(t:CT)->D (.row o t)->D .nat->D .nat->D (.row o t)
 appOk:Nat->D .nat->D .nat->D .bool
 cat:(t:CT)->(o:Bool)->D (.row true t)->D (.row o t)->D (.row true t)
 rowl:(o:Bool)->(t:CT)->List (D t)->D (.row o t)
 mkOk:D .nat->D .nat->Nat->D .bool
 rep:(t:CT)->D .nat->D t->D (.row true t)
 upd:(t:CT)->D (.row true t)->D .nat->(D t->D t)->D (.row true t)
 splice:(t:CT)->(o:Bool)->D (.row true t)->D .nat->D .nat->D (.row o t)->D (.row true t)
 strLen:D .str->D (.int .i64)
 strB:D .str->D (.row false (.int .u8))
 strOk:D .str->D .bool
 fail:{X:Type}->M X
 br:{X:Type}->D .bool->M X->M X->M X
 nat:{X:Type}->(k:IntKind)->D (.int k)->(D .nat->M X)->M X
 get:{X:Type}->(o:Bool)->(t:CT)->D (.row o t)->D .nat->(D t->M X)->M X
 strAt:{X:Type}->D .str->D .nat->(D (.int .u8)->M X)->M X
 bstr:{X:Type}->D (.row false (.int .u8))->(D .str->M X)->M X
 lt:{X:Type}->(t:CT)->D t->(D t->M X)->M X
 call:{X:Type}->Nat->(ins:R_)->(outs:n_)->(HL den ins->Option (E1 outs))->HL D ins->((i:Nat)->HL D (Fo outs i)->M X)->M X
 loop:{X:Type}->Nat->(s:R_)->(outs:n_)->HL D s->(HL D s->M (HL den s⊕E1 outs))->((i:Nat)->HL D (Fo outs i)->M X)->M X
 join:{X:Type}->(outs:n_)->M (E1 outs)->((i:Nat)->HL D (Fo outs i)->M X)->M X
 next:(s:R_)->(outs:n_)->HL D s->M (HL den s⊕E1 outs)
 exitL:(s:R_)->(outs:n_)->(i:Nat)->HL D (Fo outs i)->M (HL den s⊕E1 outs)
 out:(outs:n_)->(i:Nat)->HL D (Fo outs i)->M (E1 outs)
def gk:Int->x_|.ofNat n=>some n|.negSucc _=>none
def fW{α:Type}(xs:List α)(i:Nat):Option α:=xs[i]?
def Xc(a b:Bool):Bool:=a==b
def Xb(a b:ByteArray):Bool:=a==b
def WI(a b:ByteArray):Bool:=a.toList==b.toList
def S9(a b:ByteArray):Bool:=decide (a.size+b.size<=9223372036854775807)
def V3(a b:ByteArray):ByteArray:=a++b
def f7(n:Nat):Int:=(n:Int)
def W8(k:IntKind)(a:Int):Int:=k.wrap (0-a)
def mmR(mx:Bool)(a b:Int):Int:=if mx then(if a<b then b else a)else(if b<a then b else a)
def nV{α:Type}(xs:List α)(l n:Nat):List α:=(xs.drop l).take n
def iX(l h n:Nat):Bool:=l<=h&&decide (h<=n)
def gr(bytes n m:Nat):Bool:=decide (n+m<=1099511627776)&&decide ((n+m)*bytes<=140737488355328)
def xT(n m sz:Nat):Bool:=decide (n=m)&&decide (n*sz<=16777216)
def qv{α:Type}(xs:List α)(lo m:Nat)(ys:List α):List α:=xs.take lo++ys.take m++xs.drop (lo+m)
def N6(s:ByteArray):M_:=s.data.toList.map λb=>(b.toNat:Int)
def Eu(s:ByteArray)(k:Nat):Option Int:=(s[k]?).map λb=>(b.toNat:Int)
def WM(l:M_):ByteArray:=l.foldl (λr n=>r.push (UInt8.ofNat n.toNat)) ByteArray.empty
def gd{S T:Type}(f:S->Option (S⊕T)):Nat->S->Option T|0,_=>none|n+1,s=>(f s).bind λx=>match x with|.inl s'=>gd f n s'|.inr t=>some t
def NN:Nat:=18446744073709551616
def f6:Alg den Option where
 lit _ n:=n
 litB b:=b
 litS s:=s
 litN n:=n
 nilv _:=()
 nil _ _:=[]
 recast _ _ h x:=cast (iF h) x
 coe t t' x:=S8 t t' x
 mkp _ _ x y:=(x,y)
 fst _ _ x:=x.1
 snd _ _ x:=x.2
 ar op k a b:=arR op k a b
 cm op _ a b:=cmR op a b
 sh op k a n:=shR op k a n
 neg k a:=W8 k a
 not b:=!b
 cv _ k' n:=k'.wrap n
 mm mx _ a b:=mmR mx a b
 eqB a b:=Xc a b
 eqS a b:=Xb a b
 eqT a b:=WI a b
 catOk a b:=S9 a b
 catS a b:=V3 a b
 andB a b:=a&&b
 ite _ c a b:=bif c then a else b
 natI n:=f7 n
 addN a b:=Nat.add a b
 subN a b:=Nat.sub a b
 minN a b:=Nat.min a b
 len _ _ xs:=List.length xs
 slOk l h n:=iX l h n
 ltN a b:=Nat.blt a b
 eqN a b:=Nat.beq a b
 win _ _ xs l n:=nV xs l n
 appOk b n m:=gr b n m
 cat _ _ xs ys:=List.append xs ys
 rowl _ _ l:=l
 mkOk n m sz:=xT n m sz
 rep _ n x:=List.replicate n x
 upd _ xs i f:=List.modify xs i f
 splice _ _ xs lo m ys:=qv xs lo m ys
 strLen s:=(ByteArray.size s:Int)
 strB s:=N6 s
 strOk s:=decide (ByteArray.size s<4294967296)
 fail:=none
 br c a b:=bif c then a else b
 nat _ n k:=(gk n).bind k
 get _ _ xs i k:=(fW xs i).bind k
 strAt s i k:=(Eu s i).bind k
 bstr l k:=k (WM l)
 lt _ x k:=k x
 call _ _ outs g h k:=(g h).bind λo=>pj outs o k
 loop _ _ outs h body k:=(gd body NN h).bind λo=>pj outs o k
 join outs m k:=m.bind λo=>pj outs o k
 next _ _ h:=some (.inl h)
 exitL _ outs i h:=(zB outs i h).map .inr
 out outs i h:=zB outs i h
structure XP (D:CT->Type) where
 root:Nat
 off:Nat
 hops:List (D .nat×Nat×Nat)
inductive XV (D:CT->Type) where
 |d (t:CT) (x:D t)
 |k (x:Value)
 |dead
 |ptr (p:XP D) (vs:List Nat)
 |ip (cs:List (XV D))
 |pk (p:XP D) (vs:List Nat)
 |pw (p:XP D) (vs:List Nat) (sz:Nat) (lo n:D .nat)
 |agg (l:List (XV D))
 |tup (l:List (XV D))
 |fn (f:FuncId) (cap:List (XV D))
 |gap (t:CT) (x:D (.row true t)) (i:D .nat) (o:Nat)
 |half (t:CT) (x:D (.row true t)) (m:D .nat)
structure XS (D:CT->Type) where
 tm:List (Nat×XV D)
 ce:List (Nat×List (XV D))
 vr:m_
 lg:wg
abbrev Sh:=XV λ_=>Unit
abbrev Shs:=XS λ_=>Unit
abbrev shU(t:CT):Sh:=.d t ()
abbrev T_:=List Sh
structure XO where
 cells:T_
 sh:P_
 pts:List (Nat×T_)
def KG:List (Unit×Nat×Nat)->R_->R_| [],r=>r|_::hs,r=>.nat::KG hs r
mutual
def lv:Sh->R_->R_|.d t _,r=>t::r|.ip l,r=>lvL l r|.agg l,r=>lvL l r|.tup l,r=>lvL l r|.fn _ l,r=>lvL l r|.k _,r=>r|.dead,r=>r|.ptr p _,r=>KG p.hops r|.pk p _,r=>KG p.hops r|.pw _ _ _ _ _,r=>r|.gap t _ _ _,r=>.row true t :: .nat::r|.half t _ _,r=>.row true t :: .nat::r
def lvL:T_->R_->R_| [],r=>r|x::xs,r=>lv x (lvL xs r)
end
def lvP:List (Nat×T_)->R_->R_| [],r=>r|x::xs,r=>lvL x.2 (lvP xs r)
def lvT:List (Nat×Sh)->R_->R_| [],r=>r|x::xs,r=>lv x.2 (lvT xs r)
def lvS(s:Shs):R_:=lvT s.tm (lvP s.ce [])
def lvO(o:XO):R_:=lvL o.cells (lvP o.pts [])
structure Ctr where
 f:FuncId
 id:Nat
 ins:T_
 pts:List (Nat×T_)
 outs:List XO
 g:HL den (lvL ins (lvP pts []))->Option (E1 (outs.map lvO))
structure JW where
 i:Nat
 nm:Nat
 s:Shs
 outs:List (nY×Shs)
section
variable {D:CT->Type}
def XP.bare(p:XP D):Bool:=match p.hops with | []=>true|_::_=>false
def WY(p:XP λ_=>Unit):XP D:=⟨p.root,p.off,[]⟩
def CP:(hs:List (Unit×Nat×Nat))->(r:R_)->HL D (KG hs r)->List (D .nat×Nat×Nat)×HL D r| [],_,h=>([],h)|(_,sz,o)::hs,r,h=>((h.1,sz,o)::(CP hs r h.2).1,(CP hs r h.2).2)
def K7:(hs:List (Unit×Nat×Nat))->List (D .nat×Nat×Nat)->(r:R_)->HL D r->Option (HL D (KG hs r))| [],[],_,h=>some h|(_,sz,o)::hs,(i,sz',o')::hs',r,h=>if sz=sz'/\o=o' then(K7 hs hs' r h).map λh1=>(i,h1)else none|_,_,_,_=>none
mutual
def fill:(s:Sh)->(r:R_)->HL D (lv s r)->XV D×HL D r|.d t _,_,h=>(.d t h.1,h.2)|.ip l,r,h=>(.ip (lY l r h).1,(lY l r h).2)|.agg l,r,h=>(.agg (lY l r h).1,(lY l r h).2)|.tup l,r,h=>(.tup (lY l r h).1,(lY l r h).2)|.fn f l,r,h=>(.fn f (lY l r h).1,(lY l r h).2)|.k x,_,h=>(.k x,h)|.dead,_,h=>(.dead,h)|.ptr p vs,r,h=>(.ptr ⟨p.root,p.off,(CP p.hops r h).1⟩ vs,(CP p.hops r h).2)|.pk p vs,r,h=>(.pk ⟨p.root,p.off,(CP p.hops r h).1⟩ vs,(CP p.hops r h).2)|.pw _ _ _ _ _,_,h=>(.dead,h)|.gap t _ _ o,_,h=>(.gap t h.1 h.2.1 o,h.2.2)|.half t _ _,_,h=>(.half t h.1 h.2.1,h.2.2)
def lY:(s:T_)->(r:R_)->HL D (lvL s r)->List (XV D)×HL D r| [],_,h=>([],h)|x::xs,r,h=>((fill x (lvL xs r) h).1::(lY xs r (fill x (lvL xs r) h).2).1,(lY xs r (fill x (lvL xs r) h).2).2)
end
def yk:(s:List (Nat×T_))->(r:R_)->HL D (lvP s r)->List (Nat×List (XV D))×HL D r| [],_,h=>([],h)|x::xs,r,h=>((x.1,(lY x.2 (lvP xs r) h).1)::(yk xs r (lY x.2 (lvP xs r) h).2).1,(yk xs r (lY x.2 (lvP xs r) h).2).2)
def GZ:(s:List (Nat×Sh))->(r:R_)->HL D (lvT s r)->List (Nat×XV D)×HL D r| [],_,h=>([],h)|x::xs,r,h=>((x.1,(fill x.2 (lvT xs r) h).1)::(GZ xs r (fill x.2 (lvT xs r) h).2).1,(GZ xs r (fill x.2 (lvT xs r) h).2).2)
def K0(s:Shs)(h:HL D (lvS s)):XS D:=⟨(GZ s.tm _ h).1,(yk s.ce [] (GZ s.tm _ h).2).1,s.vr,([],[])⟩
def p6:(outs:List XO)->(i:Nat)->HL D (Fo (outs.map lvO) i)->Option (List (XV D)×P_×List (Nat×List (XV D)))| [],_,_=>none|o::_,0,h=>some ((lY o.cells _ h).1,o.sh,(yk o.pts [] (lY o.cells _ h).2).1)|_::r,i+1,h=>p6 r i h
def Ar:(outs:List (nY×Shs))->(i:Nat)->HL D (Fo (outs.map λx=>lvS x.2) i)->Option (nY×XS D)| [],_,_=>none|o::_,0,h=>some (o.1,K0 o.2 h)|_::r,i+1,h=>Ar r i h
end
section
variable {D:CT->Type} {M:Type->Type} (A:Alg D M)
def P8:Value->Value->Bool|.pointer none,.pointer none=>true|.nilFunc,.nilFunc=>true|.nilIface,.nilIface=>true|_,_=>false
def asT(t u:CT)(x:D t):Option (D u):=if h:tz t u=true then some (rH h▸x)else if NE t u then some (A.coe t u x)else none
def S0(p:XP λ_=>Unit)(q:XP D):Bool:=p.root==q.root&&p.off==q.off&&p.bare&&q.bare
mutual
def conv:(s:Sh)->XV D->(r:R_)->HL D r->Option (HL D (lv s r))|.d u _,.d t x,_,h=>(asT A t u x).map λy=>(y,h)|.ip l,.ip l',r,h=>Bj l l' r h|.agg l,.agg l',r,h=>Bj l l' r h|.tup l,.tup l',r,h=>Bj l l' r h|.fn f l,.fn f' l',r,h=>if f=f' then Bj l l' r h else none|.k x,.k y,_,h=>if P8 x y then some h else none|.dead,.dead,_,h=>some h|.ptr p vs,.ptr q ws,r,h=>if p.root==q.root&&p.off==q.off&&vs==ws then K7 p.hops q.hops r h else none|.pk p vs,.pk q ws,r,h=>if p.root==q.root&&p.off==q.off&&vs==ws then K7 p.hops q.hops r h else none|.gap t _ _ o,.gap t' x i o',_,h=>if o=o' then(asT A (.row true t') (.row true t) x).map λy=>(y,i,h)else none|.half t _ _,.half t' x m,_,h=>if e:tz t' t=true then some (rH e▸x,m,h)else none|_,_,_,_=>none
def Bj:(s:T_)->List (XV D)->(r:R_)->HL D r->Option (HL D (lvL s r))| [],[],_,h=>some h|s::ss,x::xs,r,h=>(Bj ss xs r h).bind λh1=>conv s x (lvL ss r) h1|_,_,_,_=>none
end
end
abbrev XM(D:CT->Type)(M:Type->Type)(X α:Type):=XS D->(α->XS D->M X)->M X
def Kp{α:Type}:List α->Nat->Option α| [],_=>none|x::_,0=>some x|_::r,i+1=>Kp r i
namespace X
section
variable {D:CT->Type} {M:Type->Type} {X:Type} (A:Alg D M) {α β:Type}
def ret(a:α):XM D M X α:=fun σ k=>k a σ
def bind(m:XM D M X α)(f:α->XM D M X β):XM D M X β:=fun σ k=>m σ λa σ'=>f a σ' k
def fail:XM D M X α:=λ_ _=>A.fail
def brM(c:D .bool)(m:XM D M X α):XM D M X α:=fun σ k=>A.br c (m σ k) A.fail
def forkM(c:D .bool)(m m':XM D M X α):XM D M X α:=fun σ k=>A.br c (m σ k) (m' σ k)
def caseM(k:D .nat):Nat->(Nat->XM D M X α)->Nat->XM D M X α|0,_,_=>fail A|n+1,f,i=>forkM A (A.eqN k (A.litN i)) (f i) (caseM k n f (i+1))
def optM(o:Option α):XM D M X α:=fun σ k=>match o with|some a=>k a σ |none=>A.fail
def tOf(σ:XS D)(i:Nat):XV D:=(gI σ.tm i).getD .dead
def cOf(σ:XS D)(r o:Nat):XV D:=match gI σ.ce r with|some l=>l.getD o .dead|none=>.dead
def lgR(x:Loc)(σ:XS D):XS D:=⟨σ.tm,σ.ce,σ.vr,(x :: σ.lg.1,σ.lg.2)⟩
def letL:List (XV D)->(List (XV D)->M X)->M X| [],k=>k []|.d t x::r,k=>A.lt t x λy=>letL r λr'=>k (.d t y::r')|t::r,k=>letL r λr'=>k (t::r')
def letX(t:XV D)(k:XV D->M X):M X:=match t with|.d t x=>A.lt t x λy=>k (.d t y)|.agg l=>letL A l λl'=>k (.agg l')|t=>k t
def rdT(i:Nat):XM D M X (XV D):=fun σ k=>k (tOf σ i) (lgR (.t i) σ)
def rdC(r o:Nat):XM D M X (XV D):=fun σ k=>k (cOf σ r o) (lgR (.c r o) σ)
def rdK(r o:Nat):XM D M X (XV D):=fun σ k=>k (cOf σ r o) (lgR (.h r o) σ)
def rdV(q:Key):XM D M X Nat:=fun σ k=>k (nW σ.vr q) (lgR (.v q) σ)
def wrT(i:Nat)(t:XV D):XM D M X Unit:=fun σ k=>letX A t λt'=>k () ⟨iW σ.tm i t',σ.ce,σ.vr,(σ.lg.1,.t i :: σ.lg.2)⟩
def wrC(r o:Nat)(t:XV D):XM D M X Unit:=fun σ k=>match gI σ.ce r with
 |some l=>if o<l.length then letX A t λt'=>k () ⟨σ.tm,iW σ.ce r (l.set o t'),σ.vr,(.n r :: .h r o :: σ.lg.1,.c r o :: .h r o :: σ.lg.2)⟩else A.fail
 |none=>A.fail
def wrI(r o:Nat)(t:XV D):XM D M X Unit:=fun σ k=>match gI σ.ce r with
 |some l=>if o<l.length then letX A t λt'=>k () ⟨σ.tm,iW σ.ce r (l.set o t'),σ.vr,(.n r :: .h r o :: σ.lg.1,.c r o :: σ.lg.2)⟩else A.fail
 |none=>A.fail
def new(r:Nat)(l:List (XV D)):XM D M X Unit:=fun σ k=>letL A l λl'=>k () ⟨σ.tm,iW σ.ce r l',uc σ.vr (r,0,0),(.v (r,0,0) :: σ.lg.1,.n r :: .v (r,0,0) :: σ.lg.2)⟩
def bump(q:Key):XM D M X Unit:=fun σ k=>k () ⟨σ.tm,σ.ce,uc σ.vr q,(.v q :: σ.lg.1,.v q :: σ.lg.2)⟩
def cellX:Value->XV D|.slice none 0 0=>.d (.nilr true) (A.nilv true)|.int k n=>.d (.int k) (A.lit k n)|.bool b=>.d .bool (A.litB b)|.string s=>.d .str (A.litS s)|x=>if kJ x then .k x else .dead
def constX:Value->XV D|.agg cs=>.agg (cs.toList.map (cellX A))|x=>cellX A x
def opd:Opd->XM D M X (XV D)|.t i=>rdT i|.c x=>ret (constX A x)|.f f=>ret (.fn f [])
def rdVs:List Key->XM D M X N_| []=>ret []|q::qs=>bind (rdV q) λn=>bind (rdVs qs) λl=>ret (n::l)
def chk(p:XP D)(n:Nat)(vs:N_):XM D M X Unit:=bind (rdVs (sj p.root p.off n)) λl=>if l=vs then ret ()else fail A
def addP(p:XP D)(n:Nat):XP D:=match p.hops.reverse with| []=>⟨p.root,p.off+n,[]⟩|(i,sz,o)::r=>⟨p.root,p.off,((i,sz,o+n)::r).reverse⟩
def atP(p:XP D)(i:D .nat)(sz:Nat):XP D:=⟨p.root,p.off,p.hops++[(i,sz,0)]⟩
def fitsP(p:XP D)(n:Nat):Bool:=match p.hops.reverse with| []=>true|(_,sz,o)::_=>decide (o+n<sz)
def splitX:(t:CT)->D t->List (XV D)|.pair a b,x=>splitX a (A.fst a b x)++splitX b (A.snd a b x)|.nat,_=>[]|.int k,x=>[.d (.int k) x]|.bool,x=>[.d .bool x]|.str,x=>[.d .str x]|.row o t,x=>[.d (.row o t) x]|.nilr o,x=>[.d (.nilr o) x]
def split0:(t:CT)->D t->List (XV D)|.pair a b,x=>split0 a (A.fst a b x)++split0 b (A.snd a b x)|.nat,_=>[]|.int k,x=>[.d (.int k) x]|.bool,x=>[.d .bool x]|.str,x=>[.d .str x]|.row o t,x=>[if h:ky (.row o t) (.row false t)=true then .d (.row false t) (A.recast (.row o t) (.row false t) h x)else .dead]|.nilr _,_=>[.d (.nilr false) (A.nilv false)]
def flatT:CT->Bool|.int _=>true|.bool=>true|.str=>true|.pair a b=>flatT a&&flatT b|_=>false
def only:CT->Nat->Bool|.pair a b,o=>if o<kg a then only a o&&flatT b else flatT a&&only b (o-kg a)|.row _ _,0=>true|_,_=>false
def upT:CT->CT|.row _ t=>.row true t|.nilr _=>.nilr true|.pair a b=>.pair (upT a) (upT b)|t=>t
def lowT:CT->Bool|.row o _=>!o|.nilr o=>!o|.pair a b=>lowT a&&lowT b|_=>true
def getX:XV D->List (D .nat×Nat×Nat)->(XV D->M X)->M X
 |t,[],k=>k t|.d (.row true t) xs,(i,sz,o)::hs,k=>if kg t=sz then A.get true t xs i λe=>match Kp (splitX A t e) o with|some v=>getX v hs k|none=>A.fail else A.fail
 |.half t xs m,(i,sz,o)::hs,k=>if kg t=sz then A.br (A.slOk m i i) (A.get true t xs i λe=>match Kp (split0 A t e) o with|some v=>getX v hs k|none=>A.fail) A.fail else A.fail
 |_,_::_,_=>A.fail
def elemX:XV D->List (D .nat×Nat×Nat)->(List (XV D)->M X)->M X
 |.d (.row true t) xs,[(i,sz,_)],k=>if kg t=sz then A.get true t xs i λe=>k (splitX A t e)else A.fail|.half t xs m,[(i,sz,_)],k=>if kg t=sz then A.br (A.slOk m i i) (A.get true t xs i λe=>k (split0 A t e)) A.fail else A.fail|.d (.row true t) xs,(i,sz,o)::h::hs,k=>if kg t=sz then A.get true t xs i λe=>match Kp (splitX A t e) o with|some v=>elemX v (h::hs) k|none=>A.fail else A.fail
 |_,_,_=>A.fail
def getM(tv:XV D)(hs:List (D .nat×Nat×Nat))(g:XV D->XM D M X α):XM D M X α:=fun σ k=>getX A tv hs λv=>g v σ k
def elemM(tv:XV D)(hs:List (D .nat×Nat×Nat))(g:List (XV D)->XM D M X α):XM D M X α:=fun σ k=>elemX A tv hs λcs=>g cs σ k
def atM(o:Bool)(t:CT)(xs:D (.row o t))(i:D .nat)(g:D t->XM D M X α):XM D M X α:=fun σ k=>A.get o t xs i λe=>g e σ k
def natM(kd:IntKind)(n:D (.int kd))(g:D .nat->XM D M X α):XM D M X α:=fun σ k=>A.nat kd n λm=>g m σ k
def Vf(s:D .str)(i:D .nat)(g:D (.int .u8)->XM D M X α):XM D M X α:=fun σ k=>A.strAt s i λb=>g b σ k
def lastO:List (D .nat×Nat×Nat)->Nat| []=>0| [(_,_,o)]=>o|_::h::hs=>lastO (h::hs)
def setD:(t:CT)->Nat->((u:CT)->Option (D u->D u))->Option (D t->D t)|.pair a b,o,g=>if o<kg a then(setD a o g).map λh e=>A.mkp a b (h (A.fst a b e)) (A.snd a b e)else(setD b (o-kg a) g).map λh e=>A.mkp a b (A.fst a b e) (h (A.snd a b e))|.nat,_,_=>none|.int k,0,g=>g (.int k)|.bool,0,g=>g .bool|.str,0,g=>g .str|.row o t,0,g=>g (.row o t)|.nilr o,0,g=>g (.nilr o)|_,_+1,_=>none
def asF(v:XV D)(u:CT):Option (D u->D u):=match v with|.d t x=>(asT A t u x).map λy _=>y|_=>none
def setDs(t:CT):Nat->List (XV D)->Option (D t->D t)|_,[]=>none|o,[v]=>setD A t o (asF A v)|o,v::w::vs=>match setD A t o (asF A v),setDs t (o+1) (w::vs)with|some f,some g=>some λe=>g (f e)|_,_=>none
def setH:List (D .nat×Nat×Nat)->XV D->(u:CT)->Option (D u->D u)| [],v,u=>asF A v u|(i,sz,o)::hs,v,.row true t=>if kg t=sz then(setD A t o (setH hs v)).map λf xs=>A.upd t xs i f else none|_::_,_,_=>none
def setX:XV D->List (D .nat×Nat×Nat)->XV D->Option (XV D)|_,[],v=>some v|.d u x,h::hs,v=>(setH A (h::hs) v u).map λf=>.d u (f x)|_,_::_,_=>none
def setHs:List (D .nat×Nat×Nat)->List (XV D)->(u:CT)->Option (D u->D u)| [(i,sz,o)],vs,.row true t=>if kg t=sz then(setDs A t o vs).map λf xs=>A.upd t xs i f else none|(i,sz,o)::h::hs,vs,.row true t=>if kg t=sz then(setD A t o (setHs (h::hs) vs)).map λf xs=>A.upd t xs i f else none|_,_,_=>none
def setXs:XV D->List (D .nat×Nat×Nat)->List (XV D)->Option (XV D)|.d u x,hs,vs=>(setHs A hs vs u).map λf=>.d u (f x)|_,_,_=>none
def immX:XV D->Option (XV D)|.d (.int k) x=>some (.d (.int k) x)|.d .bool x=>some (.d .bool x)|.d .str x=>some (.d .str x)|.d (.row false t) x=>some (.d (.row false t) x)|.d (.nilr _) _=>some (.d (.nilr false) (A.nilv false))|.d (.row true t) x=>if h:ky (.row true t) (.row false (wD t))=true then some (.d (.row false (wD t)) (A.recast _ _ h x))else none|.k x=>some (.k x)|_=>none
def immXL:List (XV D)->Option (List (XV D))| []=>some []|x::r=>match immX A x,immXL r with|some y,some l=>some (y::l)|_,_=>none
def shareX:XV D->N_->Option (XV D)
 |.d t x,os=>match shT t 0 os with|some t'=>if h:ky t t'=true then some (.d t' (A.recast t t' h x))else none|none=>none
 |_,_=>none
def getPl(p:XP D):XM D M X (XV D):=bind (rdC p.root p.off) λtv=>getM A tv p.hops ret
def hdPl(p:XP D):XM D M X (XV D):=match p.hops with
 | []=>rdK p.root p.off
 |_::_=>getPl A p
def hopOs(hs:List (D .nat×Nat×Nat)):N_:=hs.map λh=>h.2.2
def WE:CT->Bool|.int _=>false|.bool=>false|.str=>false|_=>true
def oneT:CT->Bool|.nat=>false|.pair _ _=>false|_=>true
def isOwT:CT->Bool|.row o _=>o|.nilr o=>o|_=>false
def isOwX:XV D->Bool|.d t _=>isOwT t|.gap _ _ _ _=>true|.half _ _ _=>true|_=>false
def isHdrX:XV D->Bool|.d t _=>WE t|.k _=>false|_=>true
def winX(lo n:D .nat):XV D->Option (XV D)
 |.d (.row true t) xs=>match immX A (.d (.row true t) xs)with|some (.d (.row false t') ys)=>some (.d (.row false t') (A.win false t' ys lo n))|_=>none
 |.d (.nilr true) _=>some (.d (.nilr false) (A.nilv false))|_=>none
def gapX:XV D->List (D .nat×Nat×Nat)->Option (XV D)|.d (.row true t) xs,[(i,_,o)]=>some (.gap t xs i o)|_,_=>none
def take1(mv:Bool):XV D->XM D M X (XV D)
 |.d (.row true _) _=>fail A|.d .nat _=>fail A|.d (.pair _ _) _=>fail A|.d (.nilr o) x=>if mv then ret (.d (.nilr o) x)else ret (.d (.nilr false) (A.nilv false))|.d t x=>ret (.d t x)|.k x=>ret (.k x)|.pk p vs=>bind (chk A p (p.hops.length+1) vs) λ_=>bind (rdC p.root p.off) λtv=>getM A tv p.hops λv=>
  if isOwX v then
   if mv then(if XP.bare p then(bind (wrC A p.root p.off .dead) λ_=>bind (bump (p.root,p.off,p.hops.length+1)) λ_=>ret v)else bind (optM A (gapX tv p.hops)) λYi=>bind (wrI A p.root p.off Yi) λ_=>bind (bump (p.root,p.off,p.hops.length+1)) λ_=>ret v)
   else bind (optM A (shareX A tv (hopOs p.hops))) λYi=>bind (optM A (immX A v)) λv'=>bind (if XP.bare p then wrC A p.root p.off Yi else wrI A p.root p.off Yi) λ_=>bind (bump (p.root,p.off,p.hops.length+1)) λ_=>ret v'
  else fail A
 |.pw p vs _ lo n=>bind (chk A p (p.hops.length+1) vs) λ_=>bind (rdC p.root p.off) λtv=>getM A tv p.hops λv=>bind (optM A (shareX A tv (hopOs p.hops))) λYi=>bind (optM A (winX A lo n v)) λv'=>bind (wrC A p.root p.off Yi) λ_=>bind (bump (p.root,p.off,p.hops.length+1)) λ_=>ret v'|_=>fail A
def takeL(mv:Bool):List (XV D)->XM D M X (List (XV D))| []=>ret []|t::r=>bind (take1 A mv t) λt'=>bind (takeL mv r) λr'=>ret (t'::r')
def cellsX:XV D->List (XV D)|.agg l=>l|t=>[t]
def takeV(mv:Bool)(t:XV D):XM D M X (List (XV D)×Bool):=match t with|.agg l=>bind (takeL A mv l) λl'=>ret (l',true)|t=>bind (take1 A mv t) λt'=>ret ([t'],false)
def putB(r:Nat):Nat->List (XV D)->XM D M X Unit|_,[]=>ret ()|o,t::l=>bind (rdC r o) λold=>bind (wrC A r o t) λ_=>bind (if isHdrX old||isHdrX t then bump (r,o,1)else ret ()) λ_=>putB r (o+1) l
def bumps(q:Key):Nat->XM D M X Unit|0=>ret ()|n+1=>bind (bump q) λ_=>bumps q n
def hdrs:List (XV D)->List (XV D)->Nat|a::r,b::s=>(if isHdrX a||isHdrX b then 1 else 0)+hdrs r s|_,_=>0
def putEl(r off:Nat)(i:D .nat)(sz o:Nat)(l:List (XV D)):XV D->XM D M X Unit
 |.d (.row true t) xs=>if kg t=sz/\o+l.length<=sz/\0<l.length then atM A true t xs i λe=>bind (optM A (setDs A t o l)) λf=>bind (wrI A r off (.d (.row true t) (A.upd t xs i f))) λ_=>bumps (r,off,2) (hdrs ((splitX A t e).drop o) l)else fail A|.gap t xs i' o'=>if kg t=sz/\o<=o'/\o'<sz/\o+l.length=o'+1/\l.dropLast.all (λv=>!isHdrX v)=true then atM A true t xs i λe=>if(((splitX A t e).drop o).take (o'-o)).all (λv=>!isHdrX v)=true then brM A (A.eqN i i') (bind (optM A (setDs A t o l)) λf=>bind (wrI A r off (.d (.row true t) (A.upd t xs i f))) λ_=>bump (r,off,2))else fail A else fail A|.half t xs m=>match l with
  | [v]=>match setD A t o (asF A v)with|some f=>if kg t=sz/\only t o=true then atM A true t xs i λ_=>brM A (A.eqN i m) (bind (wrI A r off (.half t (A.upd t xs i f) (A.addN m (A.litN 1)))) λ_=>bump (r,off,2))else fail A|none=>fail A
  |_=>fail A
 |_=>fail A
def putL(p:XP D)(l:List (XV D)):XM D M X Unit:=match p.hops with| []=>putB A p.root p.off l| [(i,sz,o)]=>bind (rdC p.root p.off) (putEl A p.root p.off i sz o l)|hs=>bind (rdC p.root p.off) λtv=>elemM A tv hs λcs=>if lastO hs+l.length<=cs.length/\0<l.length/\((cs.drop (lastO hs)).take l.length).all (λv=>!isHdrX v)=true/\l.all (λv=>!isHdrX v)=true then bind (optM A (setXs A tv hs l)) λYi=>wrI A p.root p.off Yi else fail A
def peek1(p:XP D):XV D->XM D M X (XV D)|.k x=>ret (.k x)|.d t x=>if isOwT t then bind (rdVs (sj p.root p.off (p.hops.length+1))) λvs=>ret (.pk p vs)else if oneT t then ret (.d t x)else fail A|_=>fail A
def peekP(p:XP D):XM D M X (XV D):=match p.hops with
 | []=>bind (rdK p.root p.off) λt=>if isOwX t then bind (rdVs (sj p.root p.off 1)) λvs=>ret (.pk p vs)else bind (getPl A p) (peek1 A p)
 |_::_=>bind (getPl A p) (peek1 A p)
def peekB(r:Nat):Nat->Nat->XM D M X (List (XV D))|_,0=>ret []|o,n+1=>bind (rdC r o) λt=>bind (peek1 A ⟨r,o,[]⟩ t) λt'=>bind (peekB r (o+1) n) λl=>ret (t'::l)
def peekCs(p:XP D):List (XV D)->XM D M X (List (XV D))| []=>ret []|t::r=>bind (peek1 A p t) λt'=>bind (peekCs (addP p 1) r) λl=>ret (t'::l)
def peekL(p:XP D)(n:Nat):XM D M X (List (XV D)):=match p.hops with| []=>peekB A p.root p.off n|_::_=>bind (rdC p.root p.off) λtv=>elemM A tv p.hops λcs=>if lastO p.hops+n<=cs.length/\0<n then peekCs A p ((cs.drop (lastO p.hops)).take n)else fail A
def nameL(r:Nat):Nat->List (XV D)->XM D M X (List (XV D))|_,[]=>ret []|i,t::l=>if isOwX t then bind (rdV (r,0,0)) λg=>bind (rdV (r,i,1)) λh=>bind (nameL r (i+1) l) λl'=>ret (.pk ⟨r,i,[]⟩ [g,h]::l')else bind (nameL r (i+1) l) λl'=>ret (t::l')
def names(d:Nat)(l:List (XV D)):XM D M X (List (XV D)):=if l.any isOwX then bind (new A (2*d+3) l) λ_=>nameL (2*d+3) 0 l else ret l
def shapedX(agg:Bool)(l:List (XV D)):XV D:=if agg then .agg l else l.headD .dead
def inst(d:Nat)(agg:Bool)(l:List (XV D)):XM D M X Unit:=bind (names A d l) λl'=>wrT A d (shapedX agg l')
def natOf:XV D->XM D M X (D .nat)|.d (.int k) n=>natM A k n ret|_=>fail A
def lenOf:XV D->XM D M X (D .nat)
 |.d (.row false t) xs=>ret (A.len false t xs)|.d (.nilr _) _=>ret (A.litN 0)|.pk p vs=>bind (chk A p (p.hops.length+1) vs) λ_=>bind (hdPl A p) λt=>match t with|.d (.row true t) xs=>ret (A.len true t xs)|.d (.nilr true) _=>ret (A.litN 0)|.half t xs _=>ret (A.len true t xs)|_=>fail A
 |.pw p vs _ _ n=>bind (chk A p (p.hops.length+1) vs) λ_=>ret n|_=>fail A
def optNat:Option Opd->D .nat->XM D M X (D .nat)|some o,_=>bind (opd A o) (natOf A)|none,d=>ret d
def takeParts(mv:Bool):e_->XM D M X (List (XV D))| []=>ret []|(_,n,x)::r=>bind (opd A x) λt=>bind (takeL A mv (cellsX t)) λl=>if l.length=n then bind (takeParts mv r) λl'=>ret (l++l')else fail A
def placeX(cells:List (XV D))(off:Nat):List (XV D)->List (XV D)| []=>cells|t::r=>placeX (cells.set off t) (off+1) r
def assembleX(cells:List (XV D)):e_->List (XV D)->List (XV D)| [],_=>cells|(off,n,_)::r,l=>assembleX (placeX cells off (l.take n)) r (l.drop n)
def chunksX(sz:Nat):Nat->List (XV D)->List (List (XV D))|0,_=>[]|n+1,l=>l.take sz::chunksX sz n (l.drop sz)
def okCellX:XV D->Bool|.d (.row true _) _=>false|.d .nat _=>false|.d (.pair _ _) _=>false|.d _ _=>true|.k _=>true|_=>false
def Wn:List (XV D)->Option CT| []=>none| [.d t _]=>some t|.d t _::r=>(Wn r).map (.pair t)|_::_=>none
def Lr:CT->CT->CT|.nilr _,.row o t=>.row o t|.row o t,.row _ t'=>.row o (Lr t t')|.pair a b,.pair a' b'=>.pair (Lr a a') (Lr b b')|t,_=>t
def joinC(t:CT):List (XV D)->Option (D t×List (XV D))|.d u x::r=>(asT A u t x).map λy=>(y,r)|_=>none
def joinX:(t:CT)->List (XV D)->Option (D t×List (XV D))
 |.pair a b,l=>match joinX a l with
  |some (x,r)=>match joinX b r with|some (y,r')=>some (A.mkp a b x y,r')|none=>none
  |none=>none
 |.nat,_=>none|.int k,l=>joinC A (.int k) l|.bool,l=>joinC A .bool l|.str,l=>joinC A .str l|.row o t,l=>joinC A (.row o t) l|.nilr o,l=>joinC A (.nilr o) l
def joinOne(t:CT)(l:List (XV D)):Option (D t):=match joinX A t l with|some (x,[])=>some x|_=>none
def joinAll(t:CT):List (List (XV D))->Option (List (D t))| []=>some []|l::r=>match joinOne A t l,joinAll t r with|some x,some xs=>some (x::xs)|_,_=>none
def Vc:List (List (XV D))->Option CT| []=>none| [l]=>Wn l|l::r=>match Wn l,Vc r with|some t,some t'=>some (Lr t t')|_,_=>none
def L3:CT->Bool|.nilr _=>true|.row _ t=>L3 t|.pair a b=>L3 a||L3 b|_=>false
def Ls:CT->CT->CT|.nilr o,.row _ t=>.row o t|.row o t,.row _ t'=>.row o (Ls t t')|.pair a b,.pair a' b'=>.pair (Ls a a') (Ls b b')|t,_=>t
def resT(Zu:Option CT)(t:CT):CT:=if L3 t then Ls t (Zu.getD t)else t
def rowOf(Zu:Option CT)(ls:List (List (XV D))):Option (XV D):=match ls with| []=>some (.d (.nilr true) (A.nilv true))|_=>match Vc ls with|some t=>(joinAll A (resT Zu t) ls).map λes=>.d (.row true (resT Zu t)) (A.rowl true (resT Zu t) es)|none=>none
def repOf(Zu:Option CT)(n:D .nat)(l:List (XV D)):Option (XV D):=match Wn l with|some t=>(joinOne A (resT Zu t) l).map λe=>.d (.row true (resT Zu t)) (A.rep (resT Zu t) n e)|none=>none
def contentOf:XV D->XM D M X (XV D)
 |.d (.row false t) xs=>ret (.d (.row false t) xs)|.d (.nilr _) _=>ret (.d (.nilr false) (A.nilv false))|.pk p vs=>bind (chk A p (p.hops.length+1) vs) λ_=>bind (getPl A p) λt=>match t with|.d (.row true t) xs=>ret (.d (.row true t) xs)|.d (.nilr true) _=>ret (.d (.nilr false) (A.nilv false))|_=>fail A
 |.pw p vs _ lo n=>bind (chk A p (p.hops.length+1) vs) λ_=>bind (getPl A p) λt=>match t with|.d (.row true t) xs=>ret (.d (.row true t) (A.win true t xs lo n))|_=>fail A
 |_=>fail A
def flat1:CT->Bool|.int _=>true|.bool=>true|.str=>true|_=>false
def isNameX:XV D->Bool|.pk _ _=>true|.pw _ _ _ _ _=>true|_=>false
def flatRow:XV D->Bool|.d (.row _ t) _=>flatT t|.d (.nilr _) _=>true|_=>false
def cpyX(d sz:Nat)(p:XP D)(lo:D .nat)(n:Option (D .nat))(tv c2:XV D):XM D M X Unit:=getM A tv p.hops λv=>
 match v,c2 with
  |.d (.row true t) xs,.d (.row o t2) ys=>if h:tz t2 t=true/\kg t=sz/\flatT t=true then
   bind (optM A (setX A tv p.hops (.d (.row true t) (A.splice t o xs lo (A.minN (A.len o t2 ys) (n.getD (A.len true t xs))) (rH h.1▸ys))))) λYi=>
    brM A (A.slOk lo (A.addN lo (A.minN (A.len o t2 ys) (n.getD (A.len true t xs)))) (A.len true t xs)) (forkM A (A.ltN (A.litN 0) (A.minN (A.len o t2 ys) (n.getD (A.len true t xs)))) (bind (wrC A p.root p.off Yi) λ_=>wrT A d (.d (.int .i64) (A.natI (A.minN (A.len o t2 ys) (n.getD (A.len true t xs)))))) (wrT A d (.d (.int .i64) (A.natI (A.minN (A.len o t2 ys) (n.getD (A.len true t xs)))))))
   else fail A
  |.d (.row true _) _,.d (.nilr _) _=>if 0<sz then wrT A d (.d (.int .i64) (A.lit .i64 0))else fail A
  |_,_=>fail A
def eqAll:S_->List (XV D)->List (XV D)->Option (D .bool)| [],[],[]=>some (A.litB true)|.i::ks,.d (.int k) a::xs,.d (.int k') b::ys=>if h:k'=k then(eqAll ks xs ys).map (A.andB (A.cm .eql k a (h▸b)))else none|.b::ks,.d .bool a::xs,.d .bool b::ys=>(eqAll ks xs ys).map (A.andB (A.eqB a b))|.s::ks,.d .str a::xs,.d .str b::ys=>(eqAll ks xs ys).map (A.andB (A.eqS a b))|_,_,_=>none
def mapM'(f:α->XM D M X β):List α->XM D M X (List β)| []=>ret []|x::r=>bind (f x) λy=>bind (mapM' f r) λl=>ret (y::l)
def intOf:XV D->XM D M X (XV D)|.d (.int k) n=>ret (.d (.int k) n)|_=>fail A
def Xd:XV D->XM D M X (XV D)|.ptr p vs=>ret (.ptr p vs)|.ip cs=>ret (.ip cs)|t=>if okCellX t && !isOwX t then ret t else fail A
def mmAll(mx:Bool)(k:IntKind):D (.int k)->List (XV D)->Option (D (.int k))|a,[]=>some a|a,.d (.int k') b::r=>if h:k'=k then mmAll mx k (A.mm mx k a (h▸b)) r else none|_,_=>none
def wr(d:Nat)(t:XV D):XM D M X Unit:=wrT A d t
def binX(d:Nat)(op:BinOp):XV D->XV D->XM D M X Unit
 |.d (.int k) a,.d (.int k') b=>match op with|.shl=>natM A k' b λn=>wr A d (.d (.int k) (A.sh .shl k a n))|.shr=>natM A k' b λn=>wr A d (.d (.int k) (A.sh .shr k a n))|.quo=>if h:k'=k then brM A (A.cm .neq k' b (A.lit k' 0)) (wr A d (.d (.int k) (A.ar .quo k a (h▸b))))else fail A|.rem=>if h:k'=k then brM A (A.cm .neq k' b (A.lit k' 0)) (wr A d (.d (.int k) (A.ar .rem k a (h▸b))))else fail A|.add=>if h:k'=k then wr A d (.d (.int k) (A.ar .add k a (h▸b)))else fail A|.sub=>if h:k'=k then wr A d (.d (.int k) (A.ar .sub k a (h▸b)))else fail A|.mul=>if h:k'=k then wr A d (.d (.int k) (A.ar .mul k a (h▸b)))else fail A|.and=>if h:k'=k then wr A d (.d (.int k) (A.ar .and k a (h▸b)))else fail A|.or=>if h:k'=k then wr A d (.d (.int k) (A.ar .or k a (h▸b)))else fail A|.xor=>if h:k'=k then wr A d (.d (.int k) (A.ar .xor k a (h▸b)))else fail A|.andNot=>if h:k'=k then wr A d (.d (.int k) (A.ar .andNot k a (h▸b)))else fail A|op=>if h:k'=k then wr A d (.d .bool (A.cm op k a (h▸b)))else fail A
 |.d .str a,.d .str b=>match op with|.eql=>wr A d (.d .bool (A.eqT a b))|.neq=>wr A d (.d .bool (A.not (A.eqT a b)))|.add=>brM A (A.catOk a b) (wr A d (.d .str (A.catS a b)))|_=>fail A
 |_,_=>fail A
def pickX(d:Nat)(tc ta tb:XV D):XM D M X Unit:=match tc,ta,tb with
 |.d .bool c,.d (.int k) x,.d (.int k') y=>if h:k'=k then wr A d (.d (.int k) (A.ite (.int k) c x (h▸y)))else fail A
 |.d .bool c,.d .bool x,.d .bool y=>wr A d (.d .bool (A.ite .bool c x y))
 |.d .bool c,.d .str x,.d .str y=>wr A d (.d .str (A.ite .str c x y))
 |.d .bool c,.d t x,_=>if flat1 t then brM A c (wr A d (.d t x))else fail A
 |.d .bool c,_,.d t x=>if flat1 t then brM A (A.not c) (wr A d (.d t x))else fail A
 |_,_,_=>fail A
def appX(d sz bytes:Nat)(Zu:Option CT)(s x:XV D):XM D M X Unit:=match s,x with|.d (.row true t) c,.d (.row o t2) c2=>if kg t=sz then bind (optM A (asT A (.row o t2) (.row o t) c2)) λc3=>brM A (A.appOk bytes (A.len true t c) (A.len o t2 c2)) (inst A d false [.d (.row true t) (A.cat t o c c3)])else fail A|.d (.row true t) c,.d (.nilr _) _=>if kg t=sz then brM A (A.appOk bytes (A.len true t c) (A.litN 0)) (inst A d false [.d (.row true t) c])else fail A|.d (.nilr true) _,.d (.row o t2) c2=>if kg t2=sz then bind (optM A (asT A (.row o t2) (.row o (resT Zu t2)) c2)) λc3=>brM A (A.appOk bytes (A.litN 0) (A.len o t2 c2)) (inst A d false [.d (.row true (resT Zu t2)) (A.cat _ o (A.nil true (resT Zu t2)) c3)])else fail A|.d (.nilr true) _,.d (.nilr _) _=>brM A (A.appOk bytes (A.litN 0) (A.litN 0)) (inst A d false [.d (.nilr true) (A.nilv true)])|_,_=>fail A
def immCX:XV D->Bool|.ip _=>true|t=>okCellX t && !isOwX t
def loadIp(n:x_)(cs:List (XV D)):Option (XV D):=
 match n with
 |none=>match cs with|.ip l::_=>some (.ip l)|.fn f l::_=>some (.fn f l)|t::_=>if okCellX t && !isOwX t then some t else none| []=>none
 |some n=>if n<=cs.length&&(cs.take n).all (λt=>okCellX t && !isOwX t)then some (.agg (cs.take n))else none
def ev1(HT:List (Nat×CT))(d:Nat):TOp->XM D M X Unit
 |.mov x=>bind (opd A x) λt=>match t with
  |.d t y=>if isOwT t then(match x with|.c _=>inst A d false [.d t y]|_=>fail A)else wr A d (.d t y)
  |.agg l=>if l.any isOwX then fail A else wr A d (.agg l)|.gap _ _ _ _=>fail A|.half _ _ _=>fail A|t=>wr A d t
 |.asn mv x=>bind (opd A x) λt=>match t with|.ptr p vs=>wr A d (.ptr p vs)|.ip cs=>wr A d (.ip cs)|.fn f cap=>wr A d (.fn f cap)|t=>bind (takeV A mv t) λl=>inst A d l.2 l.1
 |.pick c a b=>bind (opd A c) λtc=>bind (opd A a) λta=>bind (opd A b) λtb=>pickX A d tc ta tb|.alloc z=>if(z.map (cellX A)).all okCellX then bind (new A (2*d+2) (z.map (cellX A))) λ_=>bind (rdV (2*d+2,0,0)) λg=>wr A d (.ptr ⟨2*d+2,0,[]⟩ [g])else fail A|.box n mv x=>bind (opd A x) λt=>bind (takeL A mv (cellsX t)) λl=>if l.length=n then bind (new A (2*d+2) l) λ_=>bind (rdV (2*d+2,0,0)) λg=>wr A d (.ptr ⟨2*d+2,0,[]⟩ [g])else fail A|.load n a=>bind (opd A a) λt=>match t with
  |.ptr p vs=>bind (chk A p p.hops.length vs) λ_=>match n with|none=>bind (peekP A p) λt'=>wr A d t'|some n=>bind (peekL A p n) λl=>wr A d (.agg l)
  |.ip cs=>match loadIp n cs with|some t=>wr A d t|none=>fail A
  |_=>fail A
 |.store n mv a x=>bind (opd A a) λta=>match ta with|.ptr p vs=>bind (opd A x) λtx=>bind (takeL A mv (cellsX tx)) λl=>if l.length=n then bind (chk A p p.hops.length vs) λ_=>putL A p l else fail A|_=>fail A
 |.nilc x=>bind (opd A x) λt=>match t with|.ptr p vs=>bind (chk A p p.hops.length vs) λ_=>wr A d (.ptr p vs)|.ip cs=>wr A d (.ip cs)|.fn f cap=>wr A d (.fn f cap)|_=>fail A
 |.fld off a=>bind (opd A a) λt=>match t with|.ptr p vs=>bind (chk A p p.hops.length vs) λ_=>if fitsP p off then wr A d (.ptr (addP p off) vs)else fail A|.ip cs=>if off<cs.length then wr A d (.ip (cs.drop off))else fail A|_=>fail A
 |.idx sz x i=>bind (opd A x) λt=>bind (opd A i) λti=>bind (natOf A ti) λk=>match t with
  |.pk p vs=>bind (chk A p (p.hops.length+1) vs) λ_=>bind (hdPl A p) λt=>match t with|.d (.row true t) xs=>if kg t=sz/\0<sz then atM A true t xs k λ_=>wr A d (.ptr (atP p k sz) vs)else fail A|.gap t xs _ _=>if kg t=sz/\0<sz then atM A true t xs k λ_=>wr A d (.ptr (atP p k sz) vs)else fail A|.half t xs _=>if kg t=sz/\0<sz then atM A true t xs k λ_=>wr A d (.ptr (atP p k sz) vs)else fail A|_=>fail A
  |.pw p vs sz' lo n=>bind (chk A p (p.hops.length+1) vs) λ_=>bind (getPl A p) λt=>match t with|.d (.row true t) xs=>if kg t=sz/\0<sz/\sz'=sz then brM A (A.ltN k n) (atM A true t xs (A.addN lo k) λ_=>wr A d (.ptr (atP p (A.addN lo k) sz) vs))else fail A|_=>fail A
  |.d (.row false t) xs=>if kg t=sz/\0<sz then atM A false t xs k λe=>wr A d (.ip (splitX A t e))else fail A|_=>fail A
 |.ext x i=>bind (opd A x) λt=>match t with|.tup l=>if i<l.length then wr A d (l.getD i .dead)else fail A|_=>fail A
 |.bin op x y=>bind (opd A x) λa=>bind (opd A y) λb=>binX A d op a b|.bnb neg x y=>bind (opd A x) λa=>bind (opd A y) λb=>match a,b with|.d .bool a,.d .bool b=>wr A d (.d .bool (if neg then A.not (A.eqB a b)else A.eqB a b))|_,_=>fail A
 |.eqa ks neg x y=>bind (opd A x) λa=>bind (opd A y) λb=>match a,b with
  |.agg a,.agg b=>match eqAll A ks a b with|some r=>wr A d (.d .bool (if neg then A.not r else r))|none=>fail A
  |_,_=>fail A
 |.un op x=>bind (opd A x) λa=>match op,a with|.not,.d .bool b=>wr A d (.d .bool (A.not b))|.neg,.d (.int k) n=>wr A d (.d (.int k) (A.neg k n))|_,_=>fail A
 |.conv k x=>bind (opd A x) λa=>match a with|.d (.int k0) n=>wr A d (.d (.int k) (A.cv k0 k n))|_=>fail A
 |.bld z mv parts=>if(z.map (cellX A)).all okCellX then bind (takeParts A mv parts) λl=>bind (names A d l) λl'=>wr A d (.agg (assembleX (z.map (cellX A)) parts l'))else fail A|.bsl sz mv len parts=>bind (takeParts A mv (parts.map λp=>(0,sz,p))) λl=>if parts.length=len then bind (optM A (rowOf A (gI HT d) (chunksX sz len l))) λv=>inst A d false [v]else fail A|.mks sz z l c=>if(z.map (cellX A)).all okCellX&&z.length==sz then bind (opd A l) λtl=>bind (opd A c) λtc=>bind (natOf A tl) λn=>bind (natOf A tc) λm=>brM A (A.mkOk n m sz) (bind (optM A (repOf A (gI HT d) n (z.map (cellX A)))) λv=>inst A d false [v])else fail A|.slc sz x lo hi=>bind (opd A x) λt=>bind (lenOf A t) λn=>bind (optNat A lo (A.litN 0)) λl=>bind (optNat A hi n) λh=>brM A (A.slOk l h n) (
  match t with
  |.d (.row false t) xs=>if kg t=sz then wr A d (.d (.row false t) (A.win false t xs l (A.subN h l)))else fail A
  |.d (.nilr false) x=>wr A d (.d (.nilr false) x)
  |.pk p vs=>bind (getPl A p) λt=>match t with|.d (.row true t) _=>if kg t=sz then wr A d (.pw p vs sz l (A.subN h l))else fail A|.d (.nilr true) _=>wr A d (.pw p vs sz l (A.subN h l))|_=>fail A
  |.pw p vs sz' lo' _=>if sz'=sz then wr A d (.pw p vs sz (A.addN lo' l) (A.subN h l))else fail A
  |.d (.nilr true) x=>inst A d false [.d (.nilr true) x]
  |_=>fail A)
 |.app sz bytes mv fl s x=>bind (opd A s) λts=>bind (opd A x) λtx=>
  if fl && !mv&&isNameX tx then bind (contentOf A tx) λc2=>if flatRow c2 then bind (take1 A true ts) λs=>appX A d sz bytes (gI HT d) s c2 else fail A
  else bind (take1 A true ts) λs=>bind (take1 A mv tx) λx=>appX A d sz bytes (gI HT d) s x
 |.len x=>bind (opd A x) λt=>bind (lenOf A t) λn=>wr A d (.d (.int .i64) (A.natI n))|.lens x=>bind (opd A x) λt=>match t with|.d .str s=>wr A d (.d (.int .i64) (A.strLen s))|_=>fail A
 |.ixs x i=>bind (opd A x) λt=>bind (opd A i) λti=>bind (natOf A ti) λk=>match t with|.d .str s=>Vf A s k λb=>wr A d (.d (.int .u8) b)|_=>fail A
 |.mm mx xs=>bind (mapM' (λx=>bind (opd A x) (intOf A)) xs) λl=>match l with
  |.d (.int k) a::r=>match mmAll A mx k a r with|some m=>wr A d (.d (.int k) m)|none=>fail A
  |_=>fail A
 |.idxa n sz x i=>bind (opd A x) λt=>bind (opd A i) λti=>bind (natOf A ti) λk=>match t with|.ptr p vs=>bind (chk A p p.hops.length vs) λ_=>caseM A k n (λj=>if fitsP p (j*sz)then wr A d (.ptr (addP p (j*sz)) vs)else fail A) 0|_=>fail A
 |.s2b x=>bind (opd A x) λt=>match t with|.d .str s=>brM A (A.strOk s) (wr A d (.d (.row false (.int .u8)) (A.strB s)))|_=>fail A
 |.cpy sz x y=>bind (opd A x) λt=>bind (opd A y) λu=>bind (contentOf A u) λc2=>match t with|.pk p vs=>bind (chk A p (p.hops.length+1) vs) λ_=>bind (rdC p.root p.off) λtv=>cpyX A d sz p (A.litN 0) none tv c2|.pw p vs sz' lo n=>if sz'=sz then bind (chk A p (p.hops.length+1) vs) λ_=>bind (rdC p.root p.off) λtv=>cpyX A d sz p lo (some n) tv c2 else fail A|_=>fail A
 |.call _ _ _=>fail A
end
end X
structure XGP (D:CT->Type) where
 i:Nat
 p:XP D
 vs:N_
 cells:List (XV D)
abbrev B_:=List Ctr
namespace X
section
variable {D:CT->Type} {M:Type->Type} {X:Type} (A:Alg D M) {α β:Type}
def isNmX:XV D->Bool|.pk _ _=>true|.d (.nilr true) _=>true|_=>false
def argV0:XV D->XM D M X (XV D)|.ip cs=>ret (.ip cs)|.fn f cap=>ret (.fn f cap)|.ptr p vs=>ret (.ptr p vs)|t=>bind (takeV A false t) λl=>bind (optM A (immXL A l.1)) λl'=>ret (shapedX l.2 l')
def isPkX:XV D->Bool|.pk _ _=>true|_=>false
def argV(x:x_×Opd):XM D M X (XV D):=bind (opd A x.2) λt=>if(x.1==some 0&&isNmX t)=true then ret t else if(x.1.isSome&&isPkX t)=true then ret t else argV0 A t
def argVs:b_->XM D M X (List (XV D))| []=>ret []|x::r=>bind (argV A x) λt=>bind (argVs r) λl=>ret (t::l)
def takeOwns:Nat->List (x_×XV D)->XM D M X (List (Nat×XV D))|_,[]=>ret []|i,(some 0,.pk p vs)::r=>bind (take1 A true (.pk p vs)) λt=>if isOwX t=true then bind (takeOwns (i+1) r) λq=>ret ((i,t)::q)else fail A|i,_::r=>takeOwns (i+1) r
def grabB(r:Nat):Nat->Nat->XM D M X (List (XV D))|_,0=>ret []|o,n+1=>bind (rdC r o) λt=>bind (peek1 A ⟨r,o,[]⟩ t) λt'=>bind (take1 A true t') λt2=>bind (grabB r (o+1) n) λl=>ret (t2::l)
def WO(p:XP D):XP D:=⟨p.root,p.off,[]⟩
def baseXN(p:XP D)(n:Nat):Nat:=match p.hops with
 | []=>n
 |_::_=>1
def rooted(p:XP D):XM D M X Unit:=match p.hops with
 | []=>ret ()
 |_::_=>bind (rdT ((p.root-2)/2)) λt=>match t with
  |.ptr q ws=>if q.root==p.root&&q.hops.isEmpty then chk A q 0 ws else fail A
  |_=>fail A
def isArgX:XV D->Bool|.ip _=>true|.d (.nilr true) _=>true|.fn _ l=>l.all immCX|.agg l=>l.all λt=>okCellX t && !isOwX t|t=>okCellX t && !isOwX t
def grabs:Nat->List (x_×XV D)->XM D M X (List (XGP D))|_,[]=>ret []|i,(some n,.ptr p vs)::r=>bind (chk A p p.hops.length vs) λ_=>bind (rooted A p) λ_=>bind (grabB A p.root p.off (baseXN p n)) λl=>bind (grabs (i+1) r) λq=>ret (⟨i,WO p,vs.take 1,l⟩::q)|i,(some 0,.pk _ _)::r=>grabs (i+1) r|i,(_,t)::r=>if isArgX t then grabs (i+1) r else fail A
def touch(p:XP D):XM D M X Unit:=bind (rdC p.root p.off) λtv=>wrC A p.root p.off tv
def rechk:List (XGP D)->XM D M X Unit| []=>ret ()|g::r=>bind (chk A g.p g.p.hops.length g.vs) λ_=>bind (touch A g.p) λ_=>rechk r
def argT(i:Nat):XV D->XV D|.ptr p _=>.ptr ⟨2*i+2,0,p.hops⟩ (List.replicate (p.hops.length+1) 0)|.pk _ _=>.pk ⟨2*i+3,0,[]⟩ [0,0]|t=>t
def argTs:Nat->List (XV D)->List (XV D)|_,[]=>[]|i,t::r=>argT i t::argTs (i+1) r
def mkSt(kq:p_)(vals:List (XV D))(pts:List (Nat×List (XV D))):XS D:=⟨jp 0 vals,pts,S6 kq,([],[])⟩
def isDeadX:XV D->Bool|.dead=>true|.d t _=>!oneT t|_=>false
def putBack:List (XGP D×List (XV D))->XM D M X Unit| []=>ret ()|(g,l)::r=>bind (putBack r) λ_=>if l.length=g.cells.length/\0<l.length/\(l.all λt=>!isDeadX t)=true then putL A g.p l else fail A
def shapeRX:P_->List (XV D)->List (XV D)| [],_=>[]|.one::r,l=>l.headD .dead::shapeRX r l.tail|.agg n::r,l=>.agg (l.take n)::shapeRX r (l.drop n)|.ptr::r,l=>.dead::shapeRX r l
def shapeTX(sh:P_)(l:List (XV D)):XV D:=match shapeRX sh l with| [x]=>x|l=>.tup l
def landR(dst:x_)(cells:List (XV D))(sh:P_):XM D M X Unit:=match dst with|some d=>bind (names A d cells) λl=>wr A d (shapeTX sh l)|none=>ret ()
def convP:(s:List (Nat×T_))->List (Nat×List (XV D))->(r:R_)->HL D r->Option (HL D (lvP s r))| [],[],_,h=>some h|s::ss,x::xs,r,h=>if s.1=x.1 then(convP ss xs r h).bind λh1=>Bj A s.2 x.2 (lvP ss r) h1 else none|_,_,_,_=>none
def convT:(s:List (Nat×Sh))->List (Nat×XV D)->(r:R_)->HL D r->Option (HL D (lvT s r))| [],[],_,h=>some h|s::ss,x::xs,r,h=>if s.1=x.1 then(convT ss xs r h).bind λh1=>conv A s.2 x.2 (lvT ss r) h1 else none|_,_,_,_=>none
def sameVr:m_->m_->Bool| [],[]=>true|(q,n)::r,(q',n')::r'=>q==q'&&n==n'&&sameVr r r'|_,_=>false
def convS(s:Shs)(σ:XS D)(u:HL D []):Option (HL D (lvS s)):=if sameVr s.vr σ.vr then(convP A s.ce σ.ce [] u).bind λh=>convT A s.tm σ.tm _ h else none
def convIn(c:Ctr)(vals:List (XV D))(pts:List (Nat×List (XV D)))(u:HL D []):Option (HL D (lvL c.ins (lvP c.pts []))):=(convP A c.pts pts [] u).bind λh=>Bj A c.ins vals _ h
def sameSh:P_->P_->Bool| [],[]=>true|.one::r,.one::r'=>sameSh r r'|.agg n::r,.agg n'::r'=>n==n'&&sameSh r r'|.ptr::r,.ptr::r'=>sameSh r r'|_,_=>false
def convO(o:XO)(cells:List (XV D))(sh:P_)(pts:List (Nat×List (XV D)))(u:HL D []):Option (HL D (lvO o)):=if sameSh o.sh sh then(convP A o.pts pts [] u).bind λh=>Bj A o.cells cells _ h else none
def injO(cells:List (XV D))(sh:P_)(pts:List (Nat×List (XV D)))(u:HL D []):(outs:List XO)->Option ((i:Nat)×HL D (Fo (outs.map lvO) i))| []=>none|o::r=>match convO A o cells sh pts u with|some h=>some ⟨0,h⟩|none=>match injO cells sh pts u r with|some x=>some ⟨x.1+1,x.2⟩|none=>none
def exEq:nY->nY->Bool|.normal,.normal=>true|.exit i,.exit j=>i==j|.ret,.ret=>true|_,_=>false
def injE(e:nY)(σ:XS D)(u:HL D []):(outs:List (nY×Shs))->Option ((i:Nat)×HL D (Fo (outs.map λx=>lvS x.2) i))| []=>none|o::r=>match(if exEq o.1 e then convS A o.2 σ u else none)with|some h=>some ⟨0,h⟩|none=>match injE e σ u r with|some x=>some ⟨x.1+1,x.2⟩|none=>none
def onOut(o:Option α)(K:α->M X):M X:=match o with
 |some x=>K x
 |none=>A.fail
def isPX(sh:P_)(cells:List (XV D)):Bool:=match sh,cells with
 |.ptr::_,.ptr _ _::_=>true
 |_,_=>false
def shapePX(t:XV D):List (XV D)->XV D| []=>t|y::l=>.tup (t::y::l)
def landP(dst:x_)(q:List (XGP D))(cells:List (XV D)):XM D M X Unit:=match dst with|none=>ret ()|some d=>match cells,q with|.ptr pl _::l,[g]=>if pl.root==2*g.i+2&&g.p.hops.isEmpty then bind (rdVs (sj g.p.root (g.p.off+pl.off) pl.hops.length)) λvs=>wr A d (shapePX (.ptr ⟨g.p.root,g.p.off+pl.off,pl.hops⟩ vs) l)else fail A|_,_=>fail A
def normA:x_×XV D->x_×XV D|(some _,.pk p vs)=>(some 0,.pk p vs)|(some n,.ptr p vs)=>(some (n%1000),.ptr p vs)|x=>x
def revOf:Nat->List (x_×XV D)->List (Nat×Nat×XP D×N_)|_,[]=>[]|i,(some n,.ptr p vs)::r=>if 1000<=n then(i,n/1000-1,p,vs)::revOf (i+1) r else revOf (i+1) r|i,_::r=>revOf (i+1) r
def revChk:List (Nat×Nat×XP D×N_)->XM D M X (List (Nat×Nat×Nat×XP D))| []=>ret []|(i,k,p,vs)::l=>bind (rdT k) λt=>match t with|.ptr q ws=>if q.root=p.root/\p.hops.isEmpty=true/\q.hops.length=1/\p.off<=q.off then bind (chk A p 0 vs) λ_=>bind (chk A q 1 ws) λ_=>bind (revChk l) λr=>ret ((k,2*i+2,q.off-p.off,q)::r)else fail A|_=>fail A
def revive(kept:p_):List (Nat×Nat×Nat×XP D)->XM D M X Unit| []=>ret ()|(k,r,d,q)::l=>if kept.contains (r,d)=true then bind (getPl A q) λ_=>bind (rdVs (sj q.root q.off 1)) λvs=>bind (wrT A k (.ptr q vs)) λ_=>revive kept l else fail A
def ksOf(l:List (Nat×List (XV D))):N_:=(l.filter λx=>x.2.isEmpty).map (·.1)
def kcIn(l:List (Nat×List (XV D))):p_:=(l.filter λx=>!x.2.isEmpty).map λx=>(x.1,x.2.length-1)
def PD(_:List (x_×XV D))(_:Nat):x_:=none
def lendChk(_:List (x_×XV D)):XM D M X Unit:=fun σ k=>if 0=0 then k () σ else A.fail
def giveBack(z:List (x_×XV D))(ks:N_):List (Nat×XV D)->List (List (XV D))->XM D M X Unit| [],_=>ret ()|_::ow,_::rs=>giveBack z ks ow rs|_::_,[]=>fail A
def afterC(dst:x_)(q:List (XGP D))(ow:List (Nat×XV D))(z:List (x_×XV D))(rv:List (Nat×Nat×Nat×XP D))(x:List (XV D)×P_×List (Nat×List (XV D))):XM D M X Unit:=if(x.2.2.map (·.1)).take (q.length+ow.length)=q.map (λg=>2*g.i+2)++ow.map (λy=>2*y.1+3)/\(isPX x.2.1 x.1||uh x.2.1 x.1.length)=true then bind (putBack A (q.zip (x.2.2.map (·.2)))) λ_=>bind (giveBack A z (ksOf (x.2.2.drop (q.length+ow.length))) ow ((x.2.2.drop q.length).map (·.2))) λ_=>bind (revive A (kcIn (x.2.2.drop (q.length+ow.length))) rv) λ_=>if isPX x.2.1 x.1 then(if ow.isEmpty&&rv.isEmpty then landP A dst q x.1 else fail A)else landR A dst x.1 x.2.1 else fail A
def callTB(dst:x_)(f:FuncId)(vals:List (XV D))(q:List (XGP D))(ow:List (Nat×XV D))(z:List (x_×XV D))(rv:List (Nat×Nat×Nat×XP D))(u:HL D []):B_->XM D M X Unit| []=>fail A|c::r=>match(if c.f=f then convIn A c vals (q.map (λg=>(2*g.i+2,g.cells))++ow.map λy=>(2*y.1+3,[y.2])) u else none)with|some h=>fun σ k=>A.call c.id (lvL c.ins (lvP c.pts [])) (c.outs.map lvO) c.g h λi ho=>onOut A (p6 c.outs i ho) λx=>afterC A dst q ow z rv x σ k|none=>callTB dst f vals q ow z rv u r
def callV(TB:B_)(u:HL D [])(dst:x_)(f:FuncId)(ns:List x_)(vals:List (XV D)):XM D M X Unit:=
 bind (lendChk A (ns.zip vals)) λ_=>bind (revChk A (revOf 0 (ns.zip vals))) λrv=>bind (takeOwns A 0 ((ns.zip vals).map normA)) λow=>bind (grabs A 0 ((ns.zip vals).map normA)) λq=>bind (rechk A q) λ_=>
  if rD (q.map (·.p.root))&&q.all (λg=>decide (0<g.cells.length))&&rv.all (λx=>q.any λg=>2*g.i+2==x.2.1&&isOwX (g.cells.getD x.2.2.1 .dead))then callTB A dst f (argTs 0 vals) q ow (ns.zip vals) rv u TB else fail A
def see1:XV D->XM D M X (XV D)|.d (.row true _) _=>fail A|.d .nat _=>fail A|.d (.pair _ _) _=>fail A|.d (.nilr _) _=>ret (.d (.nilr false) (A.nilv false))|.d t x=>ret (.d t x)|.k x=>ret (.k x)|.pk p vs=>bind (chk A p (p.hops.length+1) vs) λ_=>bind (rdC p.root p.off) λtv=>getM A tv p.hops λv=>if isOwX v then optM A (immX A v)else fail A|_=>fail A
def seeL:List (XV D)->XM D M X (List (XV D))| []=>ret []|t::r=>bind (see1 A t) λt'=>bind (seeL r) λl=>ret (t'::l)
def seeA:XV D->XM D M X (XV D)|.agg l=>bind (seeL A l) λl'=>ret (.agg l')|.ip cs=>ret (.ip cs)|.fn f cap=>if cap.all immCX then ret (.fn f cap)else fail A|t=>see1 A t
def seeAs:O_->XM D M X (List (XV D))| []=>ret []|x::r=>bind (opd A x) λt=>bind (seeA A t) λt'=>bind (seeAs r) λl=>ret (t'::l)
def flatX:XV D->Bool|.d (.int _) _=>true|.d .bool _=>true|.d .str _=>true|.k x=>kJ x|_=>false
def ownT:CT->Bool|.row o t=>o&&ownT t|.nilr o=>o|.pair a b=>ownT a&&ownT b|_=>true
def ownX:XV D->Bool|.d t _=>oneT t&&ownT t|.k x=>kJ x|_=>false
def slX:XV D->Bool|.d (.row false _) _=>true|.d (.nilr false) _=>true|_=>false
def afterB(dst:x_)(fb:XM D M X Unit)(x:List (XV D)×P_×List (Nat×List (XV D))):XM D M X Unit:=
 if x.2.2.length=0/\x.1.all flatX=true/\uh x.2.1 x.1.length=true then(match dst with|some d=>wr A d (shapeTX x.2.1 x.1)|none=>ret ())
 else if x.2.2.length=0/\x.1.all ownX=true/\x.1.any isOwX=true/\uh x.2.1 x.1.length=true then landR A dst x.1 x.2.1
 else if x.1.any slX=true then fb else fail A
def callB(dst:x_)(f:FuncId)(vals:List (XV D))(u:HL D [])(fb:XM D M X Unit):B_->XM D M X Unit| []=>fail A|c::r=>match(if c.f=f then convIn A c vals [] u else none)with|some h=>fun σ k=>A.call c.id (lvL c.ins (lvP c.pts [])) (c.outs.map lvO) c.g h λi ho=>onOut A (p6 c.outs i ho) λx=>afterB A dst fb x σ k|none=>callB dst f vals u fb r
def bxX(vals:List (XV D)):BxC->XV D|.arg i=>vals.getD i .dead|.val x=>cellX A x
def evBox(dst:x_)(tm:List BxC)(vals:List (XV D)):XM D M X Unit:=match dst with|some d=>bind (takeL A false (tm.map (bxX A vals))) λl=>bind (new A (2*d+2) l) λ_=>bind (rdV (2*d+2,0,0)) λg=>wr A d (.ptr ⟨2*d+2,0,[]⟩ [g])|none=>fail A
def boxOk:BxC->Bool|.arg _=>true|.val x=>match x with|.slice none 0 0=>false|x=>kJ x
def evNrm(E:Env)(TB:B_)(u:HL D [])(dst:x_)(k:Bool)(f:FuncId)(args:b_):XM D M X Unit:=
 if k then bind (argVs A args) λvals=>match E.box f with
  |some x=>if vals.length=x.1/\x.2.all boxOk=true then evBox A dst x.2 vals else fail A
  |none=>callV A TB u dst f (args.map (·.1)) vals
 else bind (seeAs A (args.map (·.2))) λvals=>callB A dst f vals u (bind (argVs A args) λvals=>callV A TB u dst f (args.map (·.1)) vals) TB
def evCall(E:Env)(TB:B_)(u:HL D [])(dst:x_):TOp->XM D M X Unit
 |.call k (.f f) args=>evNrm A E TB u dst k f args|.call _ (.t i) args=>bind (rdT i) λt=>match t with|.fn f caps=>bind (argVs A args) λvals=>callV A TB u dst f (args.map (·.1)++Sv E f args.length caps.length) (vals++caps)|_=>fail A
 |_=>fail A
structure Cfg where
 E:Env
 TB:B_
 HT:List (Nat×CT)
 HL:List JW
def evop(C:Cfg)(u:HL D [])(dst:x_)(op:TOp):XM D M X Unit:=
 match op with
 |.call k f args=>evCall A C.E C.TB u dst (.call k f args)|.store n mv a x=>match dst with|none=>ev1 A C.HT 0 (.store n mv a x)|some _=>fail A
 |op=>match dst with|some d=>ev1 A C.HT d op|none=>fail A
def setNo(dst:x_):XM D M X Unit:=match dst with|some d=>wrT A d (.tup [])|none=>ret ()
def known(j:Nat)(b:Bool)(σ:XS D):XS D:=⟨iW σ.tm j (.d .bool (A.litB b)),σ.ce,σ.vr,σ.lg⟩
def knownO(c:Opd)(b:Bool)(σ:XS D):XS D:=match c with|.t j=>known A j b σ |_=>σ
def condX(m m':M X):XV D->M X|.d .bool x=>A.br x m m'|_=>A.fail
def guardX(j:Nat)(want:Bool)(m m':XM D M X Unit):XV D->XM D M X Unit|.d .bool b=>fun σ k=>A.br b ((if want then m else m') (known A j true σ) k) ((if want then m' else m) (known A j false σ) k)|.tup []=>m'|_=>fail A
def spOp(C:Cfg)(u:HL D [])(o:lN):XM D M X Unit:=match o.guard with|none=>evop A C u o.dst o.op|some (j,want)=>bind (rdT j) (guardX A j want (evop A C u o.dst o.op) (setNo A o.dst))
def spOps(C:Cfg)(u:HL D []):List lN->XM D M X Unit| []=>ret ()|o::r=>bind (spOp A C u o) λ_=>spOps C u r
def spFL(C:Cfg)(u:HL D [])(ops:List lN):N_->XM D M X (List (Nat×wg))| []=>ret []|i::r=>fun σ k=>spOp A C u (ops.getD i J0) ⟨σ.tm,σ.ce,σ.vr,([],[])⟩ λ_ σ1=>spFL C u ops r σ1 λfs σ2=>k ((i,σ1.lg)::fs) σ2
def renorm0(L:N_)(σ:XS D):XV D->XV D|.ptr p vs=>if L.contains p.root&&vs==lP (nW σ.vr) p.root p.off p.hops.length then .ptr p (lP (nW (sat L σ.vr σ.vr)) p.root p.off p.hops.length)else .dead|.pk p vs=>if L.contains p.root&&vs==lP (nW σ.vr) p.root p.off (p.hops.length+1)then .pk p (lP (nW (sat L σ.vr σ.vr)) p.root p.off (p.hops.length+1))else .dead|.pw p vs sz lo n=>if L.contains p.root&&vs==lP (nW σ.vr) p.root p.off (p.hops.length+1)then .pw p (lP (nW (sat L σ.vr σ.vr)) p.root p.off (p.hops.length+1)) sz lo n else .dead|.k x=>.k x|.ip cs=>.ip cs|.d (.row true _) _=>.dead|.d t x=>.d t x|.tup []=>.tup []|_=>.dead
def renorm(L:N_)(σ:XS D):XV D->XV D|.agg l=>.agg (l.map (renorm0 L σ))|.fn f l=>.fn f (l.map (renorm0 L σ))|t=>renorm0 L σ t
def normT(L:N_)(σ:XS D):N_->List (Nat×XV D)| []=>[]|i::r=>match gI σ.tm i with|some t=>(i,renorm L σ t)::normT L σ r|none=>normT L σ r
def normC(σ:XS D):N_->List (Nat×List (XV D))| []=>[]|r::l=>match gI σ.ce r with|some c=>(r,c)::normC σ l|none=>normC σ l
def norm(σ:XS D)(pers:Prs):XS D:=⟨normT pers.2 σ pers.1,normC σ pers.2,sat pers.2 σ.vr σ.vr,([],[])⟩
def anew(σ:XS D):XS D:=norm σ (σ.tm.map (·.1),σ.ce.map (·.1))
def selH(i:Nat)(σ:XS D)(u:HL D []):List JW->Option ((H:JW)×HL D (lvS H.s))| []=>none|H::r=>match(if H.i=i then convS A H.s σ u else none)with|some h=>some ⟨H,h⟩|none=>selH i σ u r
def selJ(i:Nat):List JW->Option JW| []=>none|H::r=>if H.i=i then some H else selJ i r
def marks:mb->Nat|.seq a b=>marks a+marks b+1|.cond _ a b=>marks a+marks b|.block _ b=>marks b|.loop b=>marks b+1|.pre _ b=>marks b|.frz _ _ b=>marks b|.post b _=>marks b|_=>0
def okN0:XV D->Bool|.d (.row true _) _=>false|.d .nat _=>false|.d (.pair _ _) _=>false|.gap _ _ _ _=>false|.half _ _ _=>false|_=>true
def okN:XV D->Bool|.agg l=>l.all okN0|.fn _ l=>l.all okN0|t=>okN0 t
def okS(σ:XS D):Bool:=σ.tm.all λx=>okN x.2
def shq(p:XP D)(off:Nat):XP D:=if off<1000 then addP p off else⟨p.root,p.off+off%1000,[(A.litN 0,off/100000,off/1000%100)]⟩
def shr1(x:Nat×x_):XM D M X Unit:=bind (rdT x.1) λt=>match x.2,t with
 |none,.pk p vs=>bind (take1 A false (.pk p vs)) λt'=>bind (optM A (immX A t')) λt2=>wrT A x.1 t2
 |some off,.ptr p vs=>bind (chk A p p.hops.length vs) λ_=>if fitsP p off then bind (getPl A (shq A p off)) λt=>if isOwX t then bind (peek1 A (shq A p off) t) λt'=>bind (take1 A false t') λ_=>ret ()else(match t with|.d _ _=>ret ()|_=>fail A)else fail A
 |none,.d _ _=>ret ()
 |none,.agg l=>if l.any isOwX then fail A else ret ()
 |_,_=>fail A
def shrs:a_->XM D M X Unit| []=>ret ()|x::r=>bind (shr1 A x) λ_=>shrs r
def halfX(n:Nat):XV D->(XV D->M X)->M X|.d (.row true t) xs,k=>if h:ky (.row true t) (.row true (upT t))=true then(if n%2=0/\lowT t=true then k (.half (upT t) (A.recast _ _ h xs) (A.litN 0))else A.fail)else A.fail|.half t xs m,k=>if n%2=1 then A.br (A.eqN m (A.len true t xs)) (k (.d (.row true t) xs)) A.fail else A.fail|.d (.nilr true) x,k=>if n%2=1 then k (.d (.nilr true) x)else A.fail|_,_=>A.fail
def halfM(r o n:Nat):XM D M X Unit:=fun σ k=>match gI σ.ce r with
 |some l=>if o<l.length then halfX A n (l.getD o .dead) λt=>k () ⟨σ.tm,iW σ.ce r (l.set o t),σ.vr,σ.lg⟩else A.fail
 |none=>A.fail
def ownM(r o:Nat):XM D M X Unit:=fun σ k=>match gI σ.ce r with
 |some l=>if isOwX (l.getD o .dead)=true then k () σ else A.fail
 |none=>A.fail
def frzM(i n:Nat):XM D M X Unit:=if 1000<=n then if 2000<=n then ownM A (2*i+2) (n-2000)else halfM A (2*i+2) ((n-1000)/2) n else fail A
def roundK(H:JW)(u:HL D [])(e:nY)(σ:XS D):M (HL den (lvS H.s)⊕E1 (H.outs.map λx=>lvS x.2)):=match e with|.normal=>onOut A (convS A H.s σ u) (A.next (lvS H.s) (H.outs.map λx=>lvS x.2))|e=>onOut A (injE A e σ u H.outs) λx=>A.exitL (lvS H.s) (H.outs.map λx=>lvS x.2) x.1 x.2
def runC(C:Cfg)(u:HL D []):mb->Nat->{X:Type}->XS D->(nY->XS D->M X)->M X
 |.skip,_,_,σ,k=>k .normal σ|.nrm pers,_,_,σ,k=>if okS σ then k .normal (norm σ pers)else A.fail|.reg _ draw ops pers,_,_,σ,k=>match draw with|none=>spOps A C u ops σ λ_ σ'=>if okS σ' then k .normal (norm σ' pers)else A.fail|some deps=>spFL A C u ops (List.range ops.length) σ λfs σ'=>if Br deps fs&&okS σ' then k .normal (norm σ' pers)else A.fail
 |.seq a b,i,_,σ,k=>match selJ i C.HL with
  |none=>runC C u a (i+1) σ λe σ'=>match e with|.normal=>runC C u b (i+1+marks a) σ' k|e=>k e σ'
  |some H=>A.join (H.outs.map λx=>lvS x.2) (runC C u a (i+1) σ λe σ'=>match injE A e σ' u H.outs with|some x=>A.out (H.outs.map λx=>lvS x.2) x.1 x.2|none=>A.fail)
   λj ho=>onOut A (Ar H.outs j ho) λx=>match x.1 with|.normal=>runC C u b (i+1+marks a) x.2 k|e=>k e x.2
 |.cond c a b,i,_,σ,k=>opd A c σ λt _=>condX A (runC C u a i (knownO A c true σ) k) (runC C u b (i+marks a) (knownO A c false σ) k) t|.block id b,i,_,σ,k=>runC C u b i σ λe σ'=>match e with|.exit j=>if j=id then k .normal σ' else k (.exit j) σ'|e=>k e σ'
 |.loop b,i,_,σ,k=>match selH A i σ u C.HL with
  |some ⟨H,h⟩=>A.loop H.nm (lvS H.s) (H.outs.map λx=>lvS x.2) h
   (λh=>runC C u b (i+1) (K0 H.s h) (roundK A H u))
   λj ho=>onOut A (Ar H.outs j ho) λx=>k x.1 x.2
  |none=>A.fail
 |.exit id,_,_,σ,k=>k (.exit id) σ|.ret,_,_,σ,k=>k .ret σ|.frz j n a,i,_,σ,k=>frzM A j n σ λ_ σ'=>if okS σ' then runC C u a i (anew σ') k else A.fail|.pre l a,i,_,σ,k=>shrs A l σ λ_ σ'=>if okS σ' then runC C u a i (anew σ') k else A.fail|.post a l,i,_,σ,k=>runC C u a i σ λe σ'=>shrs A l σ' λ_ σ2=>if okS σ2 then k e (anew σ2)else A.fail
def takeR1(np:Nat)(t:XV D):XM D M X (XV D):=match t with|.pk p vs=>take1 A (!VG np p.root) (.pk p vs)|t=>take1 A true t
def takeRL(np:Nat):List (XV D)->XM D M X (List (XV D))| []=>ret []|t::r=>bind (takeR1 A np t) λt'=>bind (takeRL np r) λr'=>ret (t'::r')
def takeRV(np:Nat)(t:XV D):XM D M X (List (XV D)×RSh):=match t with|.agg l=>bind (takeRL A np l) λl'=>ret (l',.agg l'.length)|t=>bind (takeR1 A np t) λt'=>ret ([t'],.one)
def res1(np:Nat):TRs->XM D M X (List (XV D)×RSh)
 |.tmp t=>bind (rdT t) λtv=>takeRV A np tv|.cell t n=>bind (rdT t) λtv=>match tv with
  |.ptr p vs=>bind (chk A p p.hops.length vs) λ_=>match n with|none=>bind (getPl A p) λt=>bind (peek1 A p t) λt'=>takeRV A np t'|some n=>bind (peekL A p n) λl=>takeRV A np (.agg l)
  |_=>fail A
def resL(np:Nat):Q_->XM D M X (List (XV D)×P_)| []=>ret ([],[])|r::rs=>bind (res1 A np r) λx=>bind (resL np rs) λy=>ret (x.1++y.1,x.2::y.2)
def onesOf:List (XV D)->P_| []=>[]|_::r=>.one::onesOf r
def flatsR:Q_->XM D M X (List (XV D))| []=>ret []|.tmp t::r=>bind (rdT t) λtv=>if flatX tv then bind (flatsR r) λl=>ret (tv::l)else fail A|.cell _ _::_=>fail A
def resF(np:Nat)(l:Q_):XM D M X (List (XV D)×P_):=
 match l with
 |.tmp t::r=>bind (rdT t) λtv=>match tv with|.ptr p vs=>bind (chk A p p.hops.length vs) λ_=>bind (flatsR A r) λl=>ret (.ptr p vs::l,.ptr::onesOf l)|_=>resL A np (.tmp t::r)
 |qs=>resL A np qs
def isPtrX:XV D->Bool|.ptr _ _=>true|_=>false
def isShX:XV D->Bool|.d (.row false _) _=>true|.d (.nilr false) _=>true|_=>false
def ptrsInX(pp:N_):Nat->List (XV D)->Bool|_,[]=>true|i,t::r=>(!isPtrX t||pp.contains i)&&(isPtrX t||isShX t || !pp.contains (1000+i))&&ptrsInX pp (i+1) r
def ptsOf(σ:XS D):List (Nat×List (XV D))->List (Nat×List (XV D))| []=>[]|x::r=>(x.1,(gI σ.ce x.1).getD [])::ptsOf σ r
def kpX(pp:N_):List (Nat×List (XV D)):=(LW pp).map λk=>(1000000+k,[])
def kcX(kq:p_)(σ:XS D):List (Nat×List (XV D)):=(kq.filter λq=>nW σ.vr (q.1,0,0)==0&&nW σ.vr (q.1,q.2,1)==0).map λq=>(q.1,List.replicate (q.2+1) .dead)
def runT(C:Cfg)(u:HL D [])(tf:TFn)(outs:List XO)(vals:List (XV D))(pts:List (Nat×List (XV D))):M (E1 (outs.map lvO)):=
 if vals.length=tf.np/\(ptrsInX tf.pp 0 vals&&(!tf.pp.contains 1000||pts.isEmpty))=true then
  runC A C u tf.body 0 (mkSt (Kw tf.pp) vals pts) λe σ=>match e with
   |.exit _=>A.fail
   |_=>resF A tf.np tf.res σ λy σ'=>onOut A (injO A y.1 y.2 (ptsOf σ' pts++(kpX tf.pp++kcX (Kw tf.pp) σ')) u outs) λx=>A.out (outs.map lvO) x.1 x.2
 else A.fail
end
end X
def er1:(t:CT)->den t->TV|.int k,x=>.v (.int k x)|.bool,x=>.v (.bool x)|.str,x=>.v (.string x)|.nat,_=>.dead|.row true t,xs=>.ow (List.map (enc t) xs)|.row false t,xs=>.sl (List.map (enc t) xs)|.nilr true,_=>.ow []|.nilr false,_=>.sl []|.pair _ _,_=>.dead
def Bi:(t:CT)->den t->U_|.pair a b,x=>Bi a x.1++Bi b x.2|.nat,_=>[]|.int k,x=>[.v (.int k x)]|.bool,x=>[.v (.bool x)]|.str,x=>[.v (.string x)]|.row _ t,xs=>[.sl (List.map (enc t) xs)]|.nilr _,_=>[.sl []]
def lM(t:CT):Nat->List (den t)->o_|_,[]=>[]|0,x::r=>Bi t x::lM t 0 r|m+1,x::r=>enc t x::lM t m r
theorem oY{t:CT}:∀(xs:List (den t))(m i:Nat),(lM t m xs)[i]?=xs[i]?.map λx=>if i<m then enc t x else Bi t x| [],m,i=>by simp[lM]|x::r,0,0=>by simp[lM]|x::r,0,i+1=>by simpa[lM]using oY r 0 i|x::r,m+1,0=>by simp[lM]|x::r,m+1,i+1=>by simpa[lM]using oY r m i
theorem Cq{t:CT}:∀(xs:List (den t))(m:Nat),(lM t m xs).length=xs.length| [],m=>rfl|x::r,0=>by simp[lM,Cq r 0]|x::r,m+1=>by simp[lM,Cq r m]
theorem Nq{t:CT}(xs:List (den t)):lM t 0 xs=List.map (Bi t) xs:=by induction xs with|nil=>rfl|cons x r ih=>simp[lM,ih]
theorem P1{t:CT}(xs:List (den t)):lM t xs.length xs=List.map (enc t) xs:=by induction xs with|nil=>rfl|cons x r ih=>simp[lM,ih]
def erP(p:XP den):gl:=⟨p.root,p.off,p.hops⟩
mutual
def er:XV den->TV|.d t x=>er1 t x|.k x=>.v x|.dead=>.dead|.ptr p vs=>.ptr (erP p) vs|.ip l=>.ip (erL l)|.pk p vs=>.pk (erP p) vs|.pw p vs sz lo n=>.pw (erP p) vs sz lo n|.agg l=>.agg (erL l)|.tup l=>.tup (erL l)|.fn f l=>.fn f (erL l)|.gap t x i o=>iU (er1 (.row true t) x) [(i,0,o)] .dead|.half t x m=>.ow (lM t m x)
def erL:List (XV den)->U_| []=>[]|x::r=>er x::erL r
end
def erC(l:List (Nat×List (XV den))):List (Nat×U_):=l.map λx=>(x.1,erL x.2)
def erS(σ:XS den):St:=⟨σ.tm.map λx=>(x.1,er x.2),erC σ.ce,σ.vr⟩
theorem lr(l:List (XV den)):erL l=l.map er:=by induction l with|nil=>rfl|cons x r ih=>simp only[erL,oPC,ih]
theorem iV(l:List (XV den)):(erL l).length=l.length:=by rw[lr];simp
theorem sq(a b:List (XV den)):erL (a++b)=erL a++erL b:=by simp[lr]
theorem ym(l:List (XV den))(n:Nat):erL (l.take n)=(erL l).take n:=by simp[lr,List.map_take]
theorem Bz(l:List (XV den))(n:Nat):erL (l.drop n)=(erL l).drop n:=by simp[lr,List.map_drop]
theorem yn(l:List (XV den))(i:Nat):er (l.getD i .dead)=(erL l).getD i .dead:=by rw[lr];simp only[oGD,oGP];cases l[i]?<;>rfl
theorem xy(l:List (XV den))(i:Nat)(t:XV den):erL (l.set i t)=(erL l).set i (er t):=by simp[lr,List.map_set]
theorem JF(l:List (XV den)):er (l.headD .dead)=(erL l).headD .dead:=by cases l<;>rfl
theorem T0{o:Bool}{t t':CT}(xs:List (den t))(f:den t->den t')(h:∀y,enc t' (f y)=enc t y):enc (.row o t') (List.map f xs)=enc (.row o t) xs:=by
 have e:List.map (enc t') (List.map f xs)=List.map (enc t) xs:=by rw[oPM];exact List.map_congr_left λy _=>h y
 cases o;show[TV.sl (List.map (enc t') (List.map f xs))]=[TV.sl (List.map (enc t) xs)];rw[e];show[TV.ow (List.map (enc t') (List.map f xs))]=[TV.ow (List.map (enc t) xs)];rw[e]
theorem uV{t:CT}(h:X.oneT t=true)(x:den t):enc t x=[er1 t x]:=by cases t with|row o t=>cases o<;>rfl|nilr o=>cases o<;>rfl|nat=>simp[X.oneT]at h|pair a b=>simp[X.oneT]at h|_=>rfl
theorem iu:∀(t:CT)(x:den t),(enc t x).length=kg t:=by intro t;induction t with|pair a b ZI ZF=>intro x;simp only[enc,oLA,ZI,ZF,kg]|row o t=>intro x;cases o<;>rfl|nilr o=>intro x;cases o<;>rfl|_=>intro x;rfl
theorem nK:∀(t:CT)(x:den t),(Bi t x).length=kg t:=by intro t;induction t with|pair a b ZI ZF=>intro x;simp[Bi,kg,ZI,ZF]|_=>intro x;rfl
theorem EK{t:CT}(xs:List (den t))(m:Nat):(lM t m xs).map List.length=xs.map λ_=>kg t:=by apply oEG;intro i;rw[oGP,oY,oGP];cases xs[i]? with|none=>rfl|some x=>simp only[oMS];split;rw[iu];rw[nK]
theorem JA:∀{t:CT},X.flatT t=true->∀x:den t,Bi t x=enc t x:=by intro t;induction t with|pair a b ZI ZF=>intro h x;simp only[X.flatT,oBA]at h;show Bi a x.1++Bi b x.2=enc a x.1++enc b x.2;rw[ZI h.1,ZF h.2]|int k=>intro _ x;rfl|bool=>intro _ x;rfl|str=>intro _ x;rfl|_=>intro h x;simp[X.flatT]at h
theorem RD:∀{t:CT}{o:Nat},X.only t o=true->∀(x:den t),∃u,(Bi t x)[o]?=some u/\ui u=true:=by
 intro t;induction t with
 |pair a b ZI ZF=>intro o h x;show ∃u,(Bi a x.1++Bi b x.2)[o]?=some u/\_;simp only[X.only]at h;split at h;rename_i ho;simp only[oBA]at h;rw[oAL (by rw[nK];exact ho)];exact ZI h.1 x.1;rename_i ho;simp only[oBA]at h;rw[oAR (by rw[nK];omega),nK];exact ZF h.2 x.2|row ow t ih=>intro o h x;cases o with|succ o=>simp[X.only]at h|zero=>exact⟨_,rfl,rfl⟩
 |_=>intro o h;simp[X.only]at h
theorem xJ:∀(t:CT)(x:den t),erL (X.splitX f6 t x)=enc t x:=by intro t;induction t with|pair a b ZI ZF=>intro x;simp only[X.splitX,sq,enc];rw[ZI,ZF];rfl|row o t=>intro x;cases o<;>rfl|nilr o=>intro x;cases o<;>rfl|_=>intro x;rfl
theorem rR{α:Type}(l:List α):∀i,Kp l i=l[i]?:=by induction l with|nil=>intro i;rfl|cons x r ih=>intro i;cases i with|zero=>rfl|succ i=>simp[Kp,ih]
theorem uB{t:CT}{x:den t}{o:Nat}{v:XV den}(h:Kp (X.splitX f6 t x) o=some v):(enc t x)[o]?=some (er v):=by rw[rR]at h;rw[<- xJ,lr,oGP,h];rfl
theorem VD:∀{t u:CT}(x:den t),NE t u=true->enc u (S8 t u x)=enc t x:=by
 intro t;induction t with
 |int k=>intro u x h;cases u<;>simp[NE]at h;subst h;rfl|bool=>intro u x h;cases u<;>simp[NE]at h;rfl|str=>intro u x h;cases u<;>simp[NE]at h;rfl|nat=>intro u x h;cases u<;>simp[NE]at h;rfl|row o t ih=>intro u x h;cases u<;>simp[NE]at h;rename_i o' t';obtain⟨rfl,h⟩:=h;exact T0 x (S8 t t') λy=>ih y h|nilr o=>
 intro u x h;cases u<;>simp[NE]at h
 subst h;cases o<;>rfl
 subst h;cases o<;>rfl
 |pair a b ZI ZF=>intro u x h;cases u<;>simp[NE]at h;rename_i a' b';show enc a' (S8 a a' x.1)++enc b' (S8 b b' x.2)=enc a x.1++enc b x.2;rw[ZI _ h.1,ZF _ h.2]
theorem Lj{t u:CT}{x:den t}{y:den u}(h:asT f6 t u x=some y):enc u y=enc t x:=by
 unfold asT at h;split at h;rename_i he;have:=rH he;subst this;injection h with h
 rw[<- h];split at h;rename_i hl;injection h with h
 rw[<- h];exact VD x hl;simp at h
theorem UL{t u:CT}{x:den t}{y:den u}(h:asT f6 t u x=some y):X.oneT u=X.oneT t:=by
 unfold asT at h;split at h;rename_i he;rw[rH he];split at h;rename_i hl;cases t<;>cases u<;>simp[NE]at hl<;>rfl
 simp at h
theorem Mm{t u:CT}{x:den t}{y:den u}(h:asT f6 t u x=some y):er1 u y=er1 t x:=by have h1:=Lj h;have h2:=UL h;cases ht:X.oneT t with|true=>rw[uV (by rw[h2,ht]),uV ht]at h1;injection h1|false=>rw[ht]at h2;cases t<;>simp[X.oneT]at ht<;>cases u<;>simp[X.oneT]at h2<;>rfl
theorem Hh{α β:Type}(h:α=β)(h2:List α=List β)(xs:List α):cast h2 xs=xs.map (cast h):=by subst h;exact(List.map_id xs).symm
theorem yq{α β γ δ:Type}(h1:α=γ)(h2:β=δ)(h:(α×β)=(γ×δ))(x:α×β):cast h x=(cast h1 x.1,cast h2 x.2):=by subst h1;subst h2;rfl
theorem oG:∀t,ky t t=true:=by intro t;induction t with|row o t ih=>simpa[ky]using ih|pair a b ZI ZF=>simp[ky,ZI,ZF]|_=>simp[ky]
theorem HD:∀(t:CT)(x:den t),erL (X.split0 f6 t x)=Bi t x:=by intro t;induction t with|pair a b ZI ZF=>intro x;simp only[X.split0,sq,Bi];rw[ZI,ZF];rfl|row o t=>intro x;have h:ky (.row o t) (.row false t)=true:=oG t;show[er (if h:ky (.row o t) (.row false t)=true then _ else _)]=_;rw[dif_pos h];rfl|_=>intro x;rfl
theorem Ew{t:CT}{x:den t}{o:Nat}{v:XV den}(h:Kp (X.split0 f6 t x) o=some v):(Bi t x)[o]?=some (er v):=by rw[rR]at h;rw[<- HD,lr,oGP,h];rfl
theorem zj:∀t,ky t (wD t)=true:=by
 intro t;induction t with
 |row o t ih=>cases o with|true=>simpa[wD,ky]using ih|false=>simpa[wD]using oG (.row false t)
 |pair a b ZI ZF=>simp[wD,ky,ZI,ZF]|nilr o=>simp[wD,ky]|_=>simp[wD,ky]
theorem Ob:∀t,ky t (X.upT t)=true:=by intro t;induction t with|row o t ih=>simpa[X.upT,ky]using oG t|pair a b ZI ZF=>simp[X.upT,ky,ZI,ZF]|nilr o=>simp[X.upT,ky]|_=>simp[X.upT,ky]
theorem UA:∀{t:CT},X.lowT t=true->∀(h:den t=den (X.upT t))(x:den t),Bi (X.upT t) (cast h x)=enc t x:=by
 intro t;induction t with
 |row o t ih=>intro hl h x;cases o with|true=>simp[X.lowT]at hl|false=>rfl
 |nilr o=>intro hl h x;cases o with|true=>simp[X.lowT]at hl|false=>rfl
 |pair a b ZI ZF=>intro hl h x;simp only[X.lowT,oBA]at hl;have ha:=iF (Ob a);have hb:=iF (Ob b);have e:(cast h x:den (.pair (X.upT a) (X.upT b)))=((cast ha x.1,cast hb x.2):den (X.upT a)×den (X.upT b)):=yq ha hb h x;show Bi (.pair (X.upT a) (X.upT b)) (cast h x)=enc a x.1++enc b x.2;rw[e];show Bi (X.upT a) (cast ha x.1)++Bi (X.upT b) (cast hb x.2)=_;rw[ZI hl.1 ha,ZF hl.2 hb]|_=>intro _ h x;rfl
theorem G7:∀(t:CT)(h:den t=den (wD t))(x:den t),enc (wD t) (cast h x)=jA (enc t x):=by
 intro t;induction t with
 |row o t ih=>intro h x;cases o with|false=>rfl|true=>have h':den t=den (wD t):=iF (zj t);have e:(cast h x:den (.row false (wD t)))=(List.map (cast h') (x:List (den t)):List (den (wD t))):=Hh h' h x;show enc (.row false (wD t)) (cast h x)=jA [TV.ow (List.map (enc t) (x:List (den t)))];rw[e];show[TV.sl (List.map (enc (wD t)) (List.map (cast h') (x:List (den t))))]=[TV.sl (qj (List.map (enc t) (x:List (den t))))];rw[oPM,wl,oPM];congr 2;refine List.map_congr_left λy _=>?_;simp only[Function.comp_apply];rw[ih h' y,sD]
 |nilr o=>intro h x;cases o<;>rfl|pair a b ZI ZF=>intro h x;have ha:=iF (zj a);have hb:=iF (zj b);have e:(cast h x:den (.pair (wD a) (wD b)))=((cast ha x.1,cast hb x.2):den (wD a)×den (wD b)):=yq ha hb h x;show enc (.pair (wD a) (wD b)) (cast h x)=jA (enc a x.1++enc b x.2);rw[e];show enc (wD a) (cast ha x.1)++enc (wD b) (cast hb x.2)=_;rw[ZI ha,ZF hb];simp[sD]|_=>intro h x;rfl
theorem Cp{x y:XV den}(h:X.immX f6 x=some y):er y=(er x).imm:=by
 unfold X.immX at h;split at h;injection h with h;subst h;rfl
 injection h with h;subst h;rfl
 injection h with h;subst h;rfl
 injection h with h;subst h;rfl
 rename_i o _;injection h with h;subst h
 cases o<;>rfl
 rename_i t xs;split at h;rename_i hs;injection h with h
 subst h;have:=G7 (.row true t) (iF hs) xs;simp only[wD]at this;have e1:enc (.row false (wD t)) (cast (iF hs) xs)=[er1 (.row false (wD t)) (cast (iF hs) xs)]:=rfl;rw[e1]at this;show er1 (.row false (wD t)) (cast (iF hs) xs)=(er1 (.row true t) xs).imm;simpa[jA,enc,er1]using this;simp at h;injection h with h;subst h;rfl
 simp at h
theorem R1:∀{l l':List (XV den)},X.immXL f6 l=some l'->erL l'=(erL l).map TV.imm:=by
 intro l;induction l with
 |nil=>intro l' h;simp only[X.immXL,oSJ]at h;subst h;rfl|cons x l ih=>
 intro l' h;simp only[X.immXL]at h;split at h;rename_i y r h1 h2;injection h with h
 subst h;simp only[erL,oPC];rw[Cp h1,ih h2];simp at h
theorem Ka:∀{t:CT}{o:Nat}{os:N_}{t':CT},shT t o os=some t'->ky t t'=true:=by
 intro t;induction t with
 |pair a b ZI ZF=>intro o os t' h;simp only[shT]at h;split at h;obtain⟨u,h1,rfl⟩:=kU h;simp[ky,ZI h1,oG];obtain⟨u,h1,rfl⟩:=kU h;simp[ky,ZF h1,oG]|row ow t ih=>
 intro o os t' h;cases ow with
  |true=>
  cases o with
   |zero=>cases os with|nil=>simp only[shT,oSJ]at h;subst h;exact zj _|cons o os=>simp only[shT]at h;obtain⟨u,h1,rfl⟩:=kU h;simpa[ky]using ih h1
   |succ o=>simp only[shT,oSJ]at h;subst h;exact oG _
  |false=>
  cases o with
  |zero=>cases os with|nil=>simp only[shT,oSJ]at h;subst h;exact zj _|cons o os=>simp only[shT,oSJ]at h;subst h;exact oG _
  |succ o=>simp only[shT,oSJ]at h;subst h;exact oG _
 |_=>
 intro o os t' h;cases o with
 |zero=>cases os with|nil=>simp only[shT,oSJ]at h;subst h;exact zj _|cons o os=>simp only[shT,oSJ]at h;subst h;exact oG _
 |succ o=>simp only[shT,oSJ]at h;subst h;exact oG _
theorem zy(l:U_)(h:l.length<=1):jA l=l.modify 0 λy=>iA y []:=by match l,h with| [],_=>rfl| [y],_=>cases y<;>rfl
theorem zA(l:U_)(h:l.length<=1)(o:Nat)(f:TV->TV):l.modify (o+1) f=l:=List.modify_eq_self (by omega)
theorem Bu{α:Type}(l l':List α)(f:α->α){o:Nat}(h:o<l.length):(l++l').modify o f=l.modify o f++l':=by
 apply oEG;intro i;simp only[oGM,List.getElem?_append,oLM];by_cases hi:i<l.length;simp only[hi,if_true];have:¬o=i:=by omega
 simp only[hi,if_false,this];simp
theorem xS{α:Type}(l l':List α)(f:α->α){o:Nat}(h:l.length<=o):(l++l').modify o f=l++l'.modify (o-l.length) f:=by
 apply oEG;intro i;simp only[oGM,List.getElem?_append];by_cases hi:i<l.length;have:¬o=i:=by omega
 simp only[hi,if_true,this,if_false];simp;have:(o=i)↔(o-l.length=i-l.length):=by omega
 simp only[hi,if_false,this]
theorem RC:∀{t:CT}{o:Nat},X.only t o=true->∀(x:den t)(c:TV),(Bi t x).modify o (λ_=>c)=(enc t x).modify o λ_=>c:=by
 intro t;induction t with
 |pair a b ZI ZF=>intro o h x c;show(Bi a x.1++Bi b x.2).modify o _=(enc a x.1++enc b x.2).modify o _;simp only[X.only]at h;split at h;rename_i ho;simp only[oBA]at h;rw[Bu _ _ _ (by rw[nK];exact ho),Bu _ _ _ (by rw[iu];exact ho),ZI h.1,JA h.2];rename_i ho;simp only[oBA]at h;rw[xS _ _ _ (by rw[nK];omega),xS _ _ _ (by rw[iu];omega),nK,iu,ZF h.2,JA h.1]|row ow t ih=>intro o h x c;cases o with|succ o=>simp[X.only]at h|zero=>cases ow<;>rfl
 |_=>intro o h;simp[X.only]at h
theorem P0{t:CT}{xs:List (den t)}{m o:Nat}{f:den t->den t}{c:TV}(ho:X.only t o=true)(hf:∀x,enc t (f x)=(enc t x).modify o λ_=>c):lM t (m+1) (xs.modify m f)=(lM t m xs).modify m λel=>el.modify o λ_=>c:=by apply oEG;intro i;rw[oY,oGM,oGM,oY];cases xs[i]? with|none=>simp|some x=>by_cases h:m=i;subst h;simp only[if_true];show some (if m<m+1 then enc t (f x)else Bi t (f x))=some ((if m<m then enc t x else Bi t x).modify o λ_=>c);rw[oIP (Nat.lt_succ_self m),oIN (Nat.lt_irrefl m),hf,RC ho];by_cases h2:i<m;simp[h,h2,show i<m+1 by omega];simp[h,h2,show ¬i<m+1 by omega]
theorem Qd:∀(t:CT)(o:Nat)(os:N_)(t':CT)(h:den t=den t')(x:den t),shT t o os=some t'->enc t' (cast h x)=(enc t x).modify o λy=>iA y os:=by
 intro t;induction t with
 |pair a b ZI ZF=>intro o os t' h x hs;simp only[shT]at hs;show _=(enc a x.1++enc b x.2).modify o λy=>iA y os;split at hs;rename_i ho;obtain⟨u,h1,rfl⟩:=kU hs;have ha:=iF (Ka h1);have e:(cast h x:den (.pair u b))=((cast ha x.1,cast rfl x.2):den u×den b):=yq ha rfl h x;rw[e];show enc u (cast ha x.1)++enc b x.2=_;rw[ZI o os u ha x.1 h1,Bu _ _ _ (by rw[iu];exact ho)];rename_i ho;obtain⟨u,h1,rfl⟩:=kU hs;have hb:=iF (Ka h1);have e:(cast h x:den (.pair a u))=((cast rfl x.1,cast hb x.2):den a×den u):=yq rfl hb h x;rw[e];show enc a x.1++enc u (cast hb x.2)=_;rw[ZF _ os u hb x.2 h1,xS _ _ _ (by rw[iu];omega),iu]|row ow t ih=>
 intro o os t' h x hs;have hl:(enc (.row ow t) x).length<=1:=by rw[iu];exact oLE _
 cases o with
  |succ o=>rw[zA _ hl];cases ow<;>simp only[shT,oSJ]at hs<;>subst hs<;>rfl|zero=>
  cases os with
  |nil=>
  rw[<- zy _ hl];have e:t'=wD (.row ow t):=by cases ow<;>simp only[shT,oSJ]at hs<;>exact hs.symm
  subst e;exact G7 _ h x
  |cons o os=>cases ow with|false=>simp only[shT,oSJ]at hs;subst hs;rfl|true=>simp only[shT]at hs;obtain⟨u,h1,rfl⟩:=kU hs;have h':den t=den u:=iF (Ka h1);have e:(cast h x:den (.row true u))=(List.map (cast h') (x:List (den t)):List (den u)):=Hh h' h x;rw[e];show[TV.ow (List.map (enc u) (List.map (cast h') (x:List (den t))))]=[TV.ow ((List.map (enc t) (x:List (den t))).map λel=>el.modify o λt=>iA t os)];rw[oPM,oPM];congr 2;exact List.map_congr_left λy _=>ih o os u h' y h1
 |nilr ow=>
 intro o os t' h x hs;have hl:(enc (.nilr ow) x).length<=1:=by rw[iu];exact oLE _
 cases o with|succ o=>rw[zA _ hl];simp only[shT,oSJ]at hs;subst hs;rfl|zero=>cases os with|nil=>rw[<- zy _ hl];simp only[shT,oSJ]at hs;subst hs;exact G7 _ h x|cons o os=>simp only[shT,oSJ]at hs;subst hs;cases ow<;>rfl
 |_=>intro o os t' h x hs;cases o with|succ o=>rw[zA _ (by rw[iu];simp[kg])];simp only[shT,oSJ]at hs;subst hs;rfl|zero=>cases os with|nil=>rw[<- zy _ (by rw[iu];simp[kg])];simp only[shT,oSJ]at hs;subst hs;exact G7 _ h x|cons o os=>simp only[shT,oSJ]at hs;subst hs;rfl
theorem BX{x y:XV den}{os:N_}(h:X.shareX f6 x os=some y):er y=iA (er x) os:=by
 unfold X.shareX at h;split at h;rename_i t xs;split at h;rename_i t' hs;split at h;rename_i hsim;injection h with h
 subst h;have:=Qd t 0 os t' (iF hsim) xs hs;show er1 t' (cast (iF hsim) xs)=iA (er1 t xs) os;cases ht:X.oneT t with
 |true=>
  have ZW:X.oneT t'=true:=by cases t<;>simp[X.oneT]at ht<;>cases t'<;>simp[ky]at hsim<;>rfl
  rw[uV ht,uV ZW]at this;simpa using this
 |false=>cases t<;>simp[X.oneT]at ht<;>cases t'<;>simp[ky]at hsim<;>cases os<;>rfl
 simp at h;simp at h;simp at h
theorem P4{Y:Type}:∀{hs:List (den .nat×Nat×Nat)}{tv:XV den}{k:XV den->Option Y}{o:Y},X.getX f6 tv hs k=some o->∃v,gJ (er tv) hs=some (er v)/\k v=some o:=by
 intro hs;induction hs with
 |nil=>intro tv k o h;exact⟨tv,rfl,h⟩|cons h1 hs ih=>
 intro tv k o h;obtain⟨i,sz,off⟩:=h1;unfold X.getX at h;split at h;rename_i heq;cases heq;rename_i t xs i' sz' o' hs' heq;injection heq with e1 e2
 injection e1 with e3 e4
 injection e4 with e4 e5
 subst e3;subst e4;subst e5;subst e2;split at h;rename_i hsz;obtain⟨e,he,h2⟩:=gi (show(fW xs i).bind _=some o from h);split at h2;rename_i v hv;obtain⟨w,hw,hk⟩:=ih h2;refine⟨w,?_,hk⟩;have h3:(List.map (enc t) xs)[i]?=some (enc t e):=by have:xs[i]?=some e:=he;rw[oGP,this];rfl
 show(match(List.map (enc t) xs)[i]? with|some el=>if el.length=sz then(match el[off]? with|some t=>gJ t hs|none=>none)else none|none=>none)=_;rw[h3];simp only[iu,hsz,if_true,uB hv];exact hw;cases h2;cases h;rename_i t xs m i' sz' o' hs' heq;injection heq with e1 e2
 injection e1 with e3 e4
 injection e4 with e4 e5
 subst e3;subst e4;subst e5;subst e2;split at h;rename_i hh;have h:f6.br (iX m i i) _ none=some o:=h;cases hc:iX m i i with
 |false=>rw[hc]at h;cases h|true=>
  rw[hc]at h;obtain⟨e,he,h2⟩:=gi (show(fW xs i).bind _=some o from h);have he:xs[i]?=some e:=he;have hm:Nat.le m i:=by have h:=hc;simp only[iX,oLE,decide_true,Bool.and_true,oDE]at h;exact h
  split at h2;rename_i v hv;obtain⟨w,hw,hk⟩:=ih h2;refine⟨w,?_,hk⟩;show(match(lM t m xs)[i]? with|some el=>if el.length=sz then(match el[off]? with|some t=>gJ t hs|none=>none)else none|none=>none)=_;rw[oY,he];simp only[oMS];rw[oIN (Nat.not_lt.2 hm)];simp only[nK,hh,if_true,Ew hv];exact hw;cases h2
 cases h;cases h
theorem xM{G:(u:CT)->Option (den u->den u)}{φ:TV->TV}(hG:∀u h,G u=some h->X.oneT u=true->∀x,er1 u (h x)=φ (er1 u x)):∀{t:CT}{o:Nat}{g:den t->den t},X.setD f6 t o G=some g->∀x,enc t (g x)=(enc t x).modify o φ:=by intro t;induction t with|pair a b ZI ZF=>intro o g h x;simp only[X.setD]at h;show _=(enc a x.1++enc b x.2).modify o φ;split at h;rename_i ho;obtain⟨f,h1,rfl⟩:=kU h;show enc a (f x.1)++enc b x.2=_;rw[ZI h1,Bu _ _ _ (by rw[iu];exact ho)];rename_i ho;obtain⟨f,h1,rfl⟩:=kU h;show enc a x.1++enc b (f x.2)=_;rw[ZF h1,xS _ _ _ (by rw[iu];omega),iu]|nat=>intro o g h;simp[X.setD]at h|_=>intro o g h x;cases o with|succ o=>simp[X.setD]at h|zero=>simp only[X.setD]at h;have h1:=hG _ g h rfl x;refine(uV rfl (g x)).trans ?_;rw[h1];exact(congrArg (λl=>List.modify l 0 φ) (uV rfl x)).symm
theorem JS{v:XV den}{u:CT}{f:den u->den u}(h:X.asF f6 v u=some f)(x:den u):er1 u (f x)=er v:=by unfold X.asF at h;split at h;obtain⟨y,h1,rfl⟩:=kU h;exact Mm h1;simp at h
theorem Kd:∀{hs:List (den .nat×Nat×Nat)}{v:XV den}{u:CT}{f:den u->den u},X.setH f6 hs v u=some f->∀x,er1 u (f x)=iU (er1 u x) hs (er v):=by
 intro hs;induction hs with
 |nil=>intro v u f h x;exact JS h x|cons h1 hs ih=>
 intro v u f h x;obtain⟨i,sz,o⟩:=h1;cases u with
 |row ow t=>cases ow with
  |false=>simp[X.setH]at h|true=>
  simp only[X.setH]at h;split at h;rename_i hsz;obtain⟨g,hg,rfl⟩:=kU h;have:=xM (φ:=λt1=>iU t1 hs (er v)) (λu h hu _ x=>ih hu x) hg;show TV.ow (List.map (enc t) (List.modify (x:List (den t)) i g))=TV.ow ((List.map (enc t) x).modify i λel=>el.modify o λt1=>iU t1 hs (er v));congr 1;apply oEG;intro j;simp only[oGP,oGM];by_cases hij:i=j;simp only[hij,if_true];cases(x:List (den t))[j]? with|none=>rfl|some e=>exact congrArg some (this e)
  simp only[hij,if_false];simp;simp at h
 |_=>simp[X.setH]at h
theorem TR{tv v w:XV den}{hs:List (den .nat×Nat×Nat)}(h:X.setX f6 tv hs v=some w):er w=iU (er tv) hs (er v):=by
 unfold X.setX at h;split at h;injection h with h;subst h;rfl
 obtain⟨f,h1,rfl⟩:=kU h;exact Kd h1 _;simp at h
theorem BF{α β:Type}(l:List (Nat×α))(f:α->β)(i:Nat):gI (l.map λx=>(x.1,f x.2)) i=(gI l i).map f:=by induction l with|nil=>rfl|cons x r ih=>simp[gI];split<;>simp_all
theorem rO{α β:Type}(l:List (Nat×α))(f:α->β)(i:Nat)(v:α):iW (l.map λx=>(x.1,f x.2)) i (f v)=(iW l i v).map λx=>(x.1,f x.2):=by induction l with|nil=>rfl|cons x r ih=>simp[iW];split;simp;simp_all
theorem Sm(σ:XS den)(i:Nat):(erS σ).t i=er (X.tOf σ i):=by unfold St.t X.tOf erS;simp[BF];cases gI σ.tm i<;>rfl
theorem CR(σ:XS den)(r o:Nat):(erS σ).c r o=er (X.cOf σ r o):=by unfold St.c X.cOf erS erC;simp[BF];cases gI σ.ce r with|none=>rfl|some l=>exact(yn l o).symm
theorem As(σ:XS den)(r:Nat):gI (erS σ).ce r=(gI σ.ce r).map erL:=BF _ _ _
structure sC (σ σ':XS den)(f:wg):Prop where
 r:∀x∈f.1,x∈σ'.lg.1
 w:∀x∈f.2,x∈σ'.lg.2
 r0:∀x∈σ.lg.1,x∈σ'.lg.1
 w0:∀x∈σ.lg.2,x∈σ'.lg.2
theorem sC.refl(σ:XS den):sC σ σ ([],[]):=⟨λx h=>by simp at h,λx h=>by simp at h,λ_ h=>h,λ_ h=>h⟩
theorem sC.by{σ σ':XS den}{f:wg}(R W:List Loc)(e1:σ'.lg.1=R++σ.lg.1)(e2:σ'.lg.2=W++σ.lg.2)(h1:f.1=R)(h2:f.2=W):sC σ σ' f:=⟨λx h=>by simp_all,λx h=>by simp_all,λx h=>by simp_all,λx h=>by simp_all⟩
def Sim{α β Y:Type}(m:XM den Option Y α)(s:SP β)(f:α->β):Prop:=∀(σ:XS den)(k:α->XS den->Option Y)(o:Y),m σ k=some o->∃a σ',s.run (erS σ)=some (f a,erS σ')/\sC σ σ' (s.foot (erS σ))/\k a σ'=some o
theorem gH{α β:Type}(s:SP α)(g:α->SP β):∀{σ σ1:St}{a:α},s.run σ=some (a,σ1)->(s.bind g).foot σ=((s.foot σ).1++((g a).foot σ1).1,(s.foot σ).2++((g a).foot σ1).2):=by induction s with|ret a=>intro σ σ1 b h;obtain⟨rfl,rfl⟩:=h;simp[SP.bind,SP.foot]|fail=>intro σ σ1 b h;simp[SP.run]at h|rdT i k ih=>intro σ σ1 b h;simp only[SP.bind,SP.foot];rw[ih _ h];simp|rdC r o k ih=>intro σ σ1 b h;simp only[SP.bind,SP.foot];rw[ih _ h];simp|rdH r o k ih=>intro σ σ1 b h;simp only[SP.bind,SP.foot];rw[ih _ h];simp|rdV q k ih=>intro σ σ1 b h;simp only[SP.bind,SP.foot];rw[ih _ h];simp|wrT i t k ih=>intro σ σ1 b h;simp only[SP.bind,SP.foot];rw[ih h];simp|wrC r o t k ih=>intro σ σ1 b h;obtain⟨l,hl,ho,h2⟩:=gL h;simp[SP.bind,SP.foot,hl,ho,if_true];rw[ih h2];simp|new r l k ih=>intro σ σ1 b h;simp[SP.bind,SP.foot];rw[ih h];simp|bump q k ih=>intro σ σ1 b h;simp[SP.bind,SP.foot];rw[ih h];simp
section
variable {α β γ δ Y:Type}
theorem Sim.ret{a:α}{b:β}{f:α->β}(h:f a=b):Sim (Y:=Y) (X.ret a) (.ret b) f:=fun σ k o hk=>⟨a,σ,by rw[h];rfl,sC.refl σ,hk⟩
theorem Sim.fail{s:SP β}{f:α->β}:Sim (Y:=Y) (X.fail f6) s f:=fun σ k o hk=>by cases hk
theorem Sim.bind{m:XM den Option Y α}{s:SP β}{f:α->β}{g:α->XM den Option Y γ}{h:β->SP δ}{f':γ->δ}(h1:Sim m s f)(h2:∀a,Sim (g a) (h (f a)) f'):Sim (X.bind m g) (s.bind h) f':=by intro σ k o hk;have ⟨a,σ1,r1,n1,k1⟩:=h1 σ _ o hk;have ⟨c,σ2,r2,n2,k2⟩:=h2 a σ1 k o k1;refine⟨c,σ2,by rw[SP.run_bind,r1];exact r2,?_,k2⟩;rw[gH s h r1];refine⟨λx hx=>?_,λx hx=>?_,λx hx=>n2.r0 x (n1.r0 x hx),λx hx=>n2.w0 x (n1.w0 x hx)⟩;rcases oMA.1 hx with hx|hx;exact n2.r0 x (n1.r x hx);exact n2.r x hx;rcases oMA.1 hx with hx|hx;exact n2.w0 x (n1.w x hx);exact n2.w x hx
theorem Sim.map{m:XM den Option Y α}{s:SP β}{f f':α->β}(h:Sim m s f)(e:∀a,f a=f' a):Sim m s f':=by have:=funext e;simp_all
theorem Sim.opt{o:Option α}{g:α->XM den Option Y γ}{s:SP δ}{f:γ->δ}(h:∀a,o=some a->Sim (g a) s f):Sim (X.bind (X.optM f6 o) g) s f:=by intro σ k y hk;cases o with|none=>cases hk|some a=>exact h a rfl σ k y hk
theorem Sim.br{c:Bool}{m:XM den Option Y α}{s:SP β}{f:α->β}(h:c=true->Sim m s f):Sim (X.brM f6 c m) s f:=by intro σ k y hk;cases c with|false=>cases hk|true=>exact h rfl σ k y hk
theorem Sim.get{ow:Bool}{t:CT}{xs:List (den t)}{i:Nat}{g:den t->XM den Option Y γ}{s:SP δ}{f:γ->δ}(h:∀e,xs[i]?=some e->Sim (g e) s f):Sim (X.atM f6 ow t xs i g) s f:=by intro σ k y hk;have ⟨e,h1,h2⟩:=gi (show(fW xs i).bind _=some y from hk);exact h e h1 σ k y h2
theorem Sim.nat{kd:IntKind}{n:Int}{g:Nat->XM den Option Y γ}{s:SP δ}{f:γ->δ}(h:∀m:Nat,n=m->Sim (g m) s f):Sim (X.natM f6 kd n g) s f:=by intro σ k y hk;have ⟨e,h1,h2⟩:=gi (show(gk n).bind _=some y from hk);refine h e ?_ σ k y h2;cases n with|ofNat m=>simp[gk]at h1;rw[h1];rfl|negSucc m=>simp[gk]at h1
theorem Sim.ite{c:Prop}[Decidable c]{m m':XM den Option Y α}{s:SP β}{f:α->β}(h:c->Sim m s f)(h':¬c->Sim m' s f):Sim (if c then m else m') s f:=by grind
theorem Id{Y:Type}:∀(l:List (XV den))(k:List (XV den)->Option Y),X.letL f6 l k=k l:=by intro l;induction l with|nil=>intro k;rfl|cons x r ih=>intro k;cases x<;>first|exact ih _|(simp;exact ih _)
theorem uJ{Y:Type}(t:XV den)(k:XV den->Option Y):X.letX f6 t k=k t:=by cases t with|agg l=>exact Id l _|_=>rfl
theorem Oh(i:Nat):Sim (Y:=Y) (X.rdT i) (.rdT i .ret) er:=fun σ k o hk=>⟨X.tOf σ i,X.lgR (.t i) σ,by simp only[SP.run];rw[Sm];rfl,.by [.t i] [] rfl rfl rfl rfl,hk⟩
theorem Oj(r o:Nat):Sim (Y:=Y) (X.rdC r o) (.rdC r o .ret) er:=fun σ k y hk=>⟨X.cOf σ r o,X.lgR (.c r o) σ,by simp only[SP.run];rw[CR];rfl,.by [.c r o] [] rfl rfl rfl rfl,hk⟩
theorem Og(q:Key):Sim (Y:=Y) (X.rdV q) (.rdV q .ret) id:=fun σ k o hk=>⟨nW σ.vr q,X.lgR (.v q) σ,rfl,.by [.v q] [] rfl rfl rfl rfl,hk⟩
theorem BR(i:Nat)(t:XV den):Sim (Y:=Y) (X.wrT f6 i t) (.wrT i (er t) (.ret ())) id:=fun σ k o hk=>by
 unfold X.wrT at hk;rw[uJ]at hk;refine⟨(),⟨iW σ.tm i t,σ.ce,σ.vr,(σ.lg.1,.t i :: σ.lg.2)⟩,?_,.by [] [.t i] rfl rfl rfl rfl,hk⟩;simp[SP.run,erS];rw[rO]
theorem Oi(r o:Nat):Sim (Y:=Y) (X.rdK r o) (.rdH r o .ret) λv=>(er v).hd:=fun σ k y hk=>⟨X.cOf σ r o,X.lgR (.h r o) σ,by simp only[SP.run];rw[CR];rfl,.by [.h r o] [] rfl rfl rfl rfl,hk⟩
theorem Uu{r o:Nat}{t t':TV}{x:Loc}(h:x∈hdW r o t t'):x=.h r o:=by unfold hdW at h;simp_all
def pm{α β Y:Type}(σ:XS den)(m:XM den Option Y α)(s:SP β)(f:α->β):Prop:=∀(k:α->XS den->Option Y)(o:Y),m σ k=some o->∃a σ',s.run (erS σ)=some (f a,erS σ')/\sC σ σ' (s.foot (erS σ))/\k a σ'=some o
theorem pm.bind{σ:XS den}{m:XM den Option Y α}{s:SP β}{f:α->β}{g:α->XM den Option Y γ}{h:β->SP δ}{f':γ->δ}(h1:pm σ m s f)(h2:∀a,Sim (g a) (h (f a)) f'):pm σ (X.bind m g) (s.bind h) f':=by intro k o hk;have ⟨a,σ1,r1,n1,k1⟩:=h1 _ o hk;have ⟨c,σ2,r2,n2,k2⟩:=h2 a σ1 k o k1;refine⟨c,σ2,by rw[SP.run_bind,r1];exact r2,?_,k2⟩;rw[gH s h r1];refine⟨λx hx=>?_,λx hx=>?_,λx hx=>n2.r0 x (n1.r0 x hx),λx hx=>n2.w0 x (n1.w0 x hx)⟩;rcases oMA.1 hx with hx|hx;exact n2.r0 x (n1.r x hx);exact n2.r x hx;rcases oMA.1 hx with hx|hx;exact n2.w0 x (n1.w x hx);exact n2.w x hx
theorem pm.opt{σ:XS den}{o:Option α}{g:α->XM den Option Y γ}{s:SP δ}{f:γ->δ}(h:∀a,o=some a->pm σ (g a) s f):pm σ (X.bind (X.optM f6 o) g) s f:=by intro k y hk;cases o with|none=>cases hk|some a=>exact h a rfl k y hk
theorem Hw{r o:Nat}{g:XV den->XM den Option Y γ}{h:TV->SP δ}{f:γ->δ}(H:∀ σ tv,(erS σ).c r o=er tv->pm σ (g tv) (h (er tv)) f):Sim (X.bind (X.rdC r o) g) (.rdC r o h) f:=by intro σ k y hk;have ⟨a,σ',h1,h2,h3⟩:=H (X.lgR (.c r o) σ) (X.cOf σ r o) (CR σ r o) k y hk;refine⟨a,σ',by simp[SP.run];rw[CR];exact h1,⟨λx hx=>?_,λx hx=>?_,λx hx=>h2.r0 x (by simp[X.lgR,hx]),λx hx=>h2.w0 x hx⟩,h3⟩;simp[SP.foot]at hx;rcases hx with rfl|hx;exact h2.r0 _ (by simp[X.lgR]);rw[CR]at hx;exact h2.r x hx;simp[SP.foot]at hx;rw[CR]at hx;exact h2.w x hx
theorem pm.wrI{σ:XS den}{r o:Nat}{t:XV den}(hh:(er t).hd=((erS σ).c r o).hd):pm (Y:=Y) σ (X.wrI f6 r o t) (.wrC r o (er t) (.ret ())) id:=λk y hk=>by
 unfold X.wrI at hk;split at hk
 ·rename_i l hl;split at hk
  ·rename_i ho;rw[uJ]at hk
   have YJ:gI (erS σ).ce r=some (erL l):=by rw[As,hl];rfl
   have Zy:o<(erL l).length:=by rw[iV];exact ho
   refine⟨(),⟨σ.tm,iW σ.ce r (l.set o t),σ.vr,(.n r :: .h r o :: σ.lg.1,.c r o :: σ.lg.2)⟩,?_,.by [.n r,.h r o] [.c r o] rfl rfl (by simp[SP.foot,YJ,Zy]) (by simp[SP.foot,YJ,Zy,hdW,oIP hh]),hk⟩;simp[SP.run,YJ,Zy];unfold erS erC;rw[<- xy,rO]
  ·cases hk
 ·cases hk
theorem Oa(r o:Nat)(t:XV den):Sim (Y:=Y) (X.wrC f6 r o t) (.wrC r o (er t) (.ret ())) id:=fun σ k y hk=>by
 unfold X.wrC at hk;split at hk
 ·rename_i l hl;split at hk
  ·rename_i ho;rw[uJ]at hk
   have YJ:gI (erS σ).ce r=some (erL l):=by rw[As,hl];rfl
   have Zy:o<(erL l).length:=by rw[iV];exact ho
   refine⟨(),⟨σ.tm,iW σ.ce r (l.set o t),σ.vr,(.n r :: .h r o :: σ.lg.1,.c r o :: .h r o :: σ.lg.2)⟩,?_,⟨λx hx=>?_,λx hx=>?_,λx hx=>by simp[hx],λx hx=>by simp[hx]⟩,hk⟩
   rotate_left
   ·simp[SP.foot,YJ,Zy,or_false]at hx
    rcases hx with rfl|rfl<;>simp
   ·simp[SP.foot,YJ,Zy,if_true,or_false]at hx;rcases hx with rfl|hx
    ·simp
    ·simp[Uu hx]
   simp[SP.run,YJ,Zy,if_true,id_eq];unfold erS erC;rw[<- xy,rO]
  ·cases hk
 ·cases hk
theorem TA(r:Nat)(l:List (XV den)):Sim (Y:=Y) (X.new f6 r l) (.new r (erL l) (.ret ())) id:=fun σ k y hk=>by
 unfold X.new at hk;rw[Id]at hk;refine⟨(),⟨σ.tm,iW σ.ce r l,uc σ.vr (r,0,0),(.v (r,0,0) :: σ.lg.1,.n r :: .v (r,0,0) :: σ.lg.2)⟩,?_,.by [.v (r,0,0)] [.n r,.v (r,0,0)] rfl rfl rfl rfl,hk⟩;simp[SP.run,erS,erC];rw[rO]
theorem LH(q:Key):Sim (Y:=Y) (X.bump q) (.bump q (.ret ())) id:=fun σ k y hk=>⟨(),⟨σ.tm,σ.ce,uc σ.vr q,(.v q :: σ.lg.1,.v q :: σ.lg.2)⟩,rfl,.by [.v q] [.v q] rfl rfl rfl rfl,hk⟩
theorem BD(x:Value):er (X.cellX f6 x)=iY x:=by
 unfold X.cellX;split;rfl;rfl;rfl;rfl;rename_i h1 h2 h3 h4;have:iY x=if kJ x then .v x else .dead:=by unfold iY;simp_all
 rw[this];split<;>rfl
theorem Qh(x:Value):er (X.constX f6 x)=zx x:=by unfold X.constX;split;simp[er,lr];congr 1;exact List.map_congr_left λy _=>BD y;rename_i h;rw[BD];unfold zx;simp_all
theorem BT(x:Opd):Sim (Y:=Y) (X.opd f6 x) (opd x) er:=by cases x with|t i=>exact Oh i|c x=>exact .ret (Qh x)|f f=>exact .ret rfl
theorem xL:∀qs:List Key,Sim (Y:=Y) (X.rdVs qs) (rdVs qs) id:=by intro qs;induction qs with|nil=>exact .ret rfl|cons q qs ih=>exact(Og q).bind λn=>ih.bind λl=>.ret rfl
theorem i5(p:XP den)(n:Nat)(vs:N_):Sim (Y:=Y) (X.chk f6 p n vs) (chk (erP p) n vs) id:=by refine(xL _).bind λl=>?_;refine Sim.ite (λh=>?_) λh=>.fail;rw[oIP (by exact h)];exact .ret rfl
theorem K2(p:XP den)(n:Nat):erP (X.addP p n)=(erP p).add n:=by unfold X.addP gl.add erP;cases h:List.reverse p.hops with|nil=>rfl|cons x r=>rfl
theorem G6(p:XP den)(n:Nat):X.fitsP p n=(erP p).fits n:=by unfold X.fitsP gl.fits erP;grind
theorem Bm{tv:XV den}{hs:List (den .nat×Nat×Nat)}{g:XV den->XM den Option Y γ}{s:SP δ}{f:γ->δ}(h:∀v,gJ (er tv) hs=some (er v)->Sim (g v) s f):Sim (X.getM f6 tv hs g) s f:=by intro σ k y hk;have ⟨v,h1,h2⟩:=P4 hk;exact h v h1 σ k y h2
theorem pm.getX{σ:XS den}{tv:XV den}{hs:List (den .nat×Nat×Nat)}{g:XV den->XM den Option Y γ}{s:SP δ}{f:γ->δ}(h:∀v,gJ (er tv) hs=some (er v)->pm σ (g v) s f):pm σ (X.getM f6 tv hs g) s f:=by intro k y hk;have ⟨v,h1,h2⟩:=P4 hk;exact h v h1 k y h2
theorem pm.ite{σ:XS den}{c:Prop}[Decidable c]{m m':XM den Option Y α}{s:SP β}{f:α->β}(h:c->pm σ m s f)(h':¬c->pm σ m' s f):pm σ (if c then m else m') s f:=by grind
theorem lW(p:XP den):Sim (Y:=Y) (X.getPl f6 p) (getPl (erP p)) er:=by refine(Oj p.root p.off).bind λtv=>?_;refine Bm λv hv=>?_;show Sim _ (match gJ (er tv) p.hops with|some t=>.ret t|none=>.fail) er;have:=hv;rw[this];exact .ret rfl
theorem LC(p:XP den):Sim (Y:=Y) (X.hdPl f6 p) (Uv (erP p)) λv=>(er v).hd:=by have ⟨r,o,hs⟩:=p;cases hs with|nil=>exact Oi r o|cons h hs=>intro σ k y hk;have ⟨a,σ',h1,h2,h3⟩:=lW ⟨r,o,h::hs⟩ σ k y hk;refine⟨a,σ',?_,?_,h3⟩;show((getPl (erP ⟨r,o,h::hs⟩)).bind λt=>.ret t.hd).run (erS σ)=_;rw[SP.run_bind,h1];rfl;show sC σ σ' (((getPl (erP ⟨r,o,h::hs⟩)).bind λt=>.ret t.hd).foot (erS σ));rw[gH _ _ h1];simpa[SP.foot]using h2
end
section
variable {α β γ δ Y:Type}
theorem Sim.rdT{i:Nat}{g:XV den->XM den Option Y γ}{h:TV->SP δ}{f:γ->δ}(H:∀t,Sim (g t) (h (er t)) f):Sim (X.bind (X.rdT i) g) (.rdT i h) f:=(Oh i).bind H
theorem Sim.rdC{r o:Nat}{g:XV den->XM den Option Y γ}{h:TV->SP δ}{f:γ->δ}(H:∀t,Sim (g t) (h (er t)) f):Sim (X.bind (X.rdC r o) g) (.rdC r o h) f:=(Oj r o).bind H
theorem Sim.rdK{r o:Nat}{g:XV den->XM den Option Y γ}{h:Option N_->SP δ}{f:γ->δ}(H:∀t,Sim (g t) (h (er t).hd) f):Sim (X.bind (X.rdK r o) g) (.rdH r o h) f:=(Oi r o).bind H
theorem Sim.rdV{q:Key}{g:Nat->XM den Option Y γ}{h:Nat->SP δ}{f:γ->δ}(H:∀t,Sim (g t) (h t) f):Sim (X.bind (X.rdV q) g) (.rdV q h) f:=(Og q).bind H
theorem Sim.wrT{i:Nat}{t:XV den}{t':TV}{g:Unit->XM den Option Y γ}{h:SP δ}{f:γ->δ}(e:er t=t')(H:Sim (g ()) h f):Sim (X.bind (X.wrT f6 i t) g) (.wrT i t' h) f:=by subst e;exact(BR i t).bind (h:=λ_=>h) λ_=>H
theorem Sim.wrC{r o:Nat}{t:XV den}{t':TV}{g:Unit->XM den Option Y γ}{h:SP δ}{f:γ->δ}(e:er t=t')(H:Sim (g ()) h f):Sim (X.bind (X.wrC f6 r o t) g) (.wrC r o t' h) f:=by subst e;exact(Oa r o t).bind (h:=λ_=>h) λ_=>H
theorem Sim.new{r:Nat}{l:List (XV den)}{l':U_}{g:Unit->XM den Option Y γ}{h:SP δ}{f:γ->δ}(e:erL l=l')(H:Sim (g ()) h f):Sim (X.bind (X.new f6 r l) g) (.new r l' h) f:=by subst e;exact(TA r l).bind (h:=λ_=>h) λ_=>H
theorem Sim.bump{q:Key}{g:Unit->XM den Option Y γ}{h:SP δ}{f:γ->δ}(H:Sim (g ()) h f):Sim (X.bind (X.bump q) g) (.bump q h) f:=(LH q).bind (h:=λ_=>h) λ_=>H
theorem PZ{α:Type}(c:List (List α))(i o:Nat)(f:α->α):(c.modify i λel=>el.modify o f).map List.length=c.map List.length:=by apply oEG;intro j;by_cases h:i=j;simp;grind;simp[h]
theorem KH{tv:TV}{hs:L_}{t:TV}(h:hs≠[]):(iU tv hs t).hd=tv.hd:=by cases hs with|nil=>simp_all|cons x hs=>cases tv with|ow c=>simp[iU,TV.hd,PZ]|_=>rfl
theorem PY{tv:TV}{os:N_}(h:os≠[]):(iA tv os).hd=tv.hd:=by cases os with|nil=>simp_all|cons o os=>cases tv with|ow c=>simp only[iA,TV.hd];simp_all|_=>rfl
theorem Bw{r o:Nat}{tv:TV}{hs:L_}{t:TV}(h:hs≠[]):hdW r o tv (iU tv hs t)=[]:=by unfold hdW;rw[oIP (KH h)]
theorem Ut{x:XV den}(h:X.isOwX x=false)(h2:oi (er x)=X.isOwX x):(er x).hd=none:=by rw[h]at h2;cases hx:er x<;>first|rfl|(rw[hx]at h2;simp[oi]at h2)
theorem vW(x:XV den):oi (er x)=X.isOwX x:=by
 cases x with
 |d t y=>cases t with|row o t=>cases o<;>rfl|nilr o=>cases o<;>rfl|_=>rfl
 |_=>rfl
theorem uR(x:XV den):ui (er x)=X.isHdrX x:=by
 cases x with
 |d t y=>cases t with|row o t=>cases o<;>rfl|nilr o=>cases o<;>rfl|_=>rfl
 |_=>rfl
theorem M6{x:XV den}(h:X.okCellX x=true):iB (er x)=true:=by
 cases x with
 |d t y=>cases t with
  |row o t=>cases o<;>first|rfl|simp[X.okCellX]at h
  |nilr o=>cases o<;>rfl|nat=>simp[X.okCellX]at h|pair a b=>simp[X.okCellX]at h|_=>rfl
 |k y=>rfl|_=>simp[X.okCellX]at h
theorem uG{x:XV den}(h:X.okCellX x=true)(h2:X.isOwX x=false):(∃y,er x=.v y)\/∃c,er x=.sl c:=by
 cases x with
 |d t y=>cases t with
  |int k=>exact .inl ⟨_,rfl⟩|bool=>exact .inl ⟨_,rfl⟩|str=>exact .inl ⟨_,rfl⟩|row o t=>cases o<;>first|exact .inr ⟨_,rfl⟩|simp[X.okCellX]at h
  |nilr o=>cases o<;>first|exact .inr ⟨_,rfl⟩|simp[X.isOwX,X.isOwT]at h2
  |nat=>simp[X.okCellX]at h|pair a b=>simp[X.okCellX]at h
 |k y=>exact .inl ⟨_,rfl⟩|_=>simp[X.okCellX]at h
theorem R2{x:XV den}(h:X.immCX x=true):S5 (er x)=true:=by
 have key:(X.okCellX x && !X.isOwX x)=true->S5 (er x)=true:=λh=>by simp at h;rcases uG h.1 h.2 with⟨y,hy⟩|⟨c,hc⟩;rw[hy];rfl;rw[hc];rfl
 cases x with|ip cs=>rfl|_=>exact key h
theorem L1{l:List (XV den)}(h:l.all X.immCX=true):(erL l).all S5=true:=by rw[lr,List.all_map,oAE];rw[oAE]at h;exact λx hx=>R2 (h x hx)
theorem pY{v:XV den}(h:X.isOwX v=true):∃c,er v=.ow c:=by
 rw[<- vW]at h;cases hv:er v<;>rw[hv]at h<;>simp[oi]at h
 simp_all
theorem UI{p:XP den}(h:XP.bare p=true):(erP p).hops=[]:=by have ⟨r,o,hs⟩:=p;cases hs with|nil=>rfl|cons=>simp[XP.bare]at h
theorem Tm{lo n:Nat}{v w:XV den}(h:X.winX f6 lo n v=some w):∃c,er v=.ow c/\er w=.sl (((c.drop lo).take n).map λe=>e.map TV.imm):=by
 unfold X.winX at h;split at h;rename_i t xs;split at h;rename_i t' ys hi;injection h with h
 subst h;refine⟨_,rfl,?_⟩;have h1:=Cp hi;have h2:TV.sl (List.map (enc t') (ys:List (den t')))=(TV.ow (List.map (enc t) (xs:List (den t)))).imm:=h1;rw[qY]at h2;show TV.sl (List.map (enc t') ((List.drop lo (ys:List (den t'))).take n))=_;simp_all;simp at h;injection h with h;subst h;exact⟨[],rfl,by simp[er,er1]⟩
 simp at h
theorem Ux{tv w:XV den}{hs:List (den .nat×Nat×Nat)}(h:X.gapX tv hs=some w):er w=iU (er tv) hs .dead:=by
 unfold X.gapX at h;split at h;injection h with h
 subst h;rfl;simp at h
theorem kx(mv:Bool)(x:XV den):Sim (Y:=Y) (X.take1 f6 mv x) (take1 mv (er x)) er:=by
 cases x with
 |d t y=>cases t with
  |int k=>exact .ret rfl|bool=>exact .ret rfl|str=>exact .ret rfl|nat=>exact .fail|row o t=>cases o<;>first|exact .fail|exact .ret rfl
  |nilr o=>cases o<;>cases mv<;>exact .ret rfl|pair a b=>exact .fail
 |k y=>exact .ret rfl|pk p vs=>
 refine(i5 p _ vs).bind λ_=>Hw fun σ tv hσ=>pm.getX λv hv=>?_;refine pm.ite (λho=>?_) λ_=>Sim.fail σ;obtain⟨c,hc⟩:=pY ho;have YF:gJ (er tv) (erP p).hops=some (.ow c):=by rw[<- hc];exact hv
 simp only[YF];cases mv with
  |true=>
  simp;refine pm.ite (λhb=>?_) λhb=>?_;exact(show Sim _ _ _ from Sim.wrC (by rw[UI hb];rfl) (Sim.bump (g:=λ_=>X.ret v) (.ret hc))) σ;refine pm.opt λYi h1=>?_;have h3:=Ux h1;have hne:p.hops≠[]:=by obtain⟨r,o,hs⟩:=p;cases hs with|nil=>simp[XP.bare]at hb|cons=>simp
  have:=(pm.wrI (Y:=Y) (σ:=σ) (o:=p.off) (t:=Yi) (by rw[h3,hσ,KH hne])).bind (g:=λ_=>X.bind (X.bump (p.root,p.off,p.hops.length+1)) λ_=>X.ret v) (h:=λ_=>.bump (p.root,p.off,p.hops.length+1) (.ret (TV.ow c))) (f':=er) λ_=>Sim.bump (.ret hc);rw[h3]at this;exact this
  |false=>
  refine pm.opt λYi h1=>pm.opt λv' h2=>?_;have hr:er v'=(TV.ow c).imm:=by rw[Cp h2,hc]
  by_cases hb:XP.bare p=true;rw[oIP hb];exact(show Sim _ _ _ from Sim.wrC (BX h1) (Sim.bump (g:=λ_=>X.ret v') (.ret hr))) σ;rw[oIN hb];have h3:=BX h1;have hne:X.hopOs p.hops≠[]:=by obtain⟨r,o,hs⟩:=p;cases hs with|nil=>simp[XP.bare]at hb|cons=>simp[X.hopOs]
  have:=(pm.wrI (Y:=Y) (σ:=σ) (o:=p.off) (t:=Yi) (by rw[h3,hσ,PY hne])).bind (g:=λ_=>X.bind (X.bump (p.root,p.off,p.hops.length+1)) λ_=>X.ret v') (h:=λ_=>.bump (p.root,p.off,p.hops.length+1) (.ret (TV.ow c).imm)) (f':=er) λ_=>Sim.bump (.ret hr);rw[h3]at this;exact this
 |pw p vs sz lo n=>
 refine(i5 p _ vs).bind λ_=>Sim.rdC λtv=>Bm λv hv=>?_;refine Sim.opt λYi h1=>Sim.opt λv' h2=>?_;obtain⟨c,hc,hw⟩:=Tm h2;have YF:gJ (er tv) (erP p).hops=some (.ow c):=by rw[<- hc];exact hv
 simp only[YF];exact Sim.wrC (BX h1) (Sim.bump (.ret hw))
 |_=>exact .fail
theorem uD(mv:Bool):∀l:List (XV den),Sim (Y:=Y) (X.takeL f6 mv l) (takeL mv (erL l)) erL:=by intro l;induction l with|nil=>exact .ret rfl|cons t r ih=>exact(kx mv t).bind λt'=>ih.bind λr'=>.ret rfl
theorem C9(t:XV den):su (er t)=erL (X.cellsX t):=by
 cases t with
 |d t y=>cases t with|row o t=>cases o<;>rfl|nilr o=>cases o<;>rfl|_=>rfl
 |_=>rfl
theorem VR{t:XV den}:(∃l,t=.agg l)\/((∀l,t≠.agg l)/\∀l,er t≠.agg l):=by
 cases t with
 |agg l=>simp_all|d t y=>cases t with|row o t=>cases o<;>exact .inr ⟨by simp,by simp[er,er1]⟩|nilr o=>cases o<;>exact .inr ⟨by simp,by simp[er,er1]⟩|_=>exact .inr ⟨by simp,by simp[er,er1]⟩
 |gap t x i o=>exact .inr ⟨by simp,λl h=>by cases h⟩|half t x m=>exact .inr ⟨by simp,λl h=>by cases h⟩|_=>exact .inr ⟨by simp,by simp[er]⟩
theorem uC(mv:Bool)(t:XV den):Sim (Y:=Y) (X.takeV f6 mv t) (takeV mv (er t)) λx=>(erL x.1,x.2):=by
 rcases VR (t:=t)with⟨l,rfl⟩|⟨h1,h2⟩;exact(uD mv l).bind λl'=>.ret rfl;have e1:X.takeV (X:=Y) f6 mv t=X.bind (X.take1 f6 mv t) λt'=>X.ret ([t'],false):=by unfold X.takeV;simp_all
 have e2:takeV mv (er t)=(take1 mv (er t)).bind λt'=>.ret ([t'],false):=by unfold takeV;simp_all
 rw[e1,e2];exact(kx mv t).bind λt'=>.ret rfl
theorem Q5(r:Nat):∀(l:List (XV den))(o:Nat),Sim (Y:=Y) (X.putB f6 r o l) (putL ⟨r,o,[]⟩ (erL l)) id:=by
 intro l;induction l with
 |nil=>intro o;exact .ret rfl|cons t l ih=>
 intro o;have Yg:∀(g:Unit->XM den Option Y Unit)(s:SP Unit),Sim (g ()) s id->Sim (X.bind (X.rdC r o) λold=>X.bind (X.wrC f6 r o t) λ_=>X.bind (if X.isHdrX old||X.isHdrX t then X.bump (r,o,1)else X.ret ()) g) ((xj ⟨r,o,[]⟩ (er t)).bind λ_=>s) id:=by intro g s hg;refine Sim.rdC λold=>?_;simp only[gJ,uR];by_cases hh:(X.isHdrX old||X.isHdrX t)=true;rw[oIP hh,oIP hh];exact Sim.wrC rfl (Sim.bump hg);rw[oIN hh,oIN hh];exact Sim.wrC rfl ((Sim.ret (a:=()) (b:=()) (f:=id) rfl).bind λ_=>hg)
 cases l with|nil=>exact Yg _ (.ret ()) (.ret rfl)|cons u l=>exact Yg _ _ (ih (o+1))
def Tn(q:Key):Nat->m_->m_|0,v=>v|n+1,v=>Tn q n (uc v q)
theorem sB{α:Type}(l:List (Nat×α))(i:Nat)(a:α):gI (iW l i a) i=some a:=by rw[gS];simp
theorem zn{t:CT}(xs:List (den t))(i o:Nat)(f:den t->den t)(φ:TV->TV)(h:∀x,enc t (f x)=(enc t x).modify o φ):er1 (.row true t) (List.modify xs i f)=.ow ((List.map (enc t) xs).modify i λel=>el.modify o φ):=by
 show TV.ow (List.map (enc t) (List.modify xs i f))=_;congr 1;apply oEG;intro j;simp only[oGP,oGM];by_cases hij:i=j;simp;cases xs[j]? with|none=>rfl|some e=>simp_all
 simp_all
theorem IG{t:CT}(e e':den t):(X.splitX f6 t e).map X.isHdrX=(X.splitX f6 t e').map X.isHdrX:=by induction t with|pair a b ZI ZF=>simp[X.splitX];grind|_=>rfl
theorem Np:∀(a a' l:List (XV den)),a.map X.isHdrX=a'.map X.isHdrX->X.hdrs a l=X.hdrs a' l:=by intro a;induction a with|nil=>simp_all|cons x a ih=>intro a' l h;cases a' with|nil=>simp at h|cons x' a'=>simp at h;cases l with|nil=>rfl|cons b l=>simp[X.hdrs];rw[h.1,ih a' l h.2]
def B5(r off n:Nat)(f:wg):Prop:=(∀x∈f.1,x=.c r off\/(x=.n r\/x=.h r off)\/(x=.v (r,off,2)/\0<n))/\∀x∈f.2,x=.c r off\/(x=.v (r,off,2)/\0<n)
theorem O9{r off i sz o:Nat}{t:CT}(hsz:kg t=sz){v old:XV den}{f:den t->den t}{xs:List (den t)}{e:den t}{σ:St}{L:U_}(hf:X.setD f6 t o (X.asF f6 v)=some f)(he:xs[i]?=some e)(ZE:Kp (X.splitX f6 t e) o=some old) (hc:σ.c r off=er1 (.row true t) xs)(hL:gI σ.ce r=some L)(ho:off<L.length):(xj ⟨r,off,[(i,sz,o)]⟩ (er v)).run σ=some ((),⟨σ.tm,iW σ.ce r (L.set off (er1 (.row true t) (List.modify xs i f))),if X.isHdrX old||X.isHdrX v then uc σ.vr (r,off,2)else σ.vr⟩)/\B5 r off (if X.isHdrX old||X.isHdrX v then 1 else 0) ((xj ⟨r,off,[(i,sz,o)]⟩ (er v)).foot σ):=by
 have Z5:gJ (er1 (.row true t) xs) [(i,sz,o)]=some (er old):=by
  have h3:(List.map (enc t) xs)[i]?=some (enc t e):=by simp_all
  show(match(List.map (enc t) xs)[i]? with|some el=>if el.length=sz then(match el[o]? with|some t=>gJ t []|none=>none)else none|none=>none)=_;rw[h3];simp[iu,hsz,if_true,uB ZE];rfl
 have hset:iU (er1 (.row true t) xs) [(i,sz,o)] (er v)=er1 (.row true t) (List.modify xs i f):=by rw[zn xs i o f (λ_=>er v) (xM (λu h hu _ x=>JS hu x) hf)];rfl
 have hW:hdW r off (er1 (.row true t) xs) (er1 (.row true t) (List.modify xs i f))=[]:=by rw[<- hset];exact Bw (by simp)
 unfold xj;simp only[SP.run,SP.foot,hc,Z5,uR,hset];by_cases hh:(X.isHdrX old||X.isHdrX v)=true
 ·rw[oIP hh,oIP hh,oIP hh,oIP (by simp)];simp only[SP.run,SP.foot,hL,ho,if_true,hc,hW];refine⟨rfl,λx hx=>?_,λx hx=>?_⟩
  ·simp at hx;rcases hx with h|h|h|h
   all_goals simp_all
  ·simp_all
 ·rw[oIN hh,oIN hh,oIN hh];simp only[SP.run,SP.foot,hL,ho,if_true,hc,hW];refine⟨by simp_all,λx hx=>?_,λx hx=>?_⟩
  all_goals simp_all
theorem T7{r off i sz:Nat}{t:CT}(hsz:kg t=sz):∀(l:List (XV den)){o:Nat}{f:den t->den t}{xs:List (den t)}{e:den t}{σ:St}{L:U_},X.setDs f6 t o l=some f->xs[i]?=some e->o+l.length<=sz ->σ.c r off=er1 (.row true t) xs->gI σ.ce r=some L->off<L.length ->(putL ⟨r,off,[(i,sz,o)]⟩ (erL l)).run σ=some ((),⟨σ.tm,iW σ.ce r (L.set off (er1 (.row true t) (List.modify xs i f))),Tn (r,off,2) (X.hdrs ((X.splitX f6 t e).drop o) l) σ.vr⟩)/\B5 r off (X.hdrs ((X.splitX f6 t e).drop o) l) ((putL ⟨r,off,[(i,sz,o)]⟩ (erL l)).foot σ):=by
 intro l;induction l with
 |nil=>intro o f xs e σ L h;simp[X.setDs]at h|cons v l ih=>
 intro o f xs e σ L hf he ho hc hL ZD;have hlen:(X.splitX f6 t e).length=sz:=by rw[<- iV,xJ,iu,hsz]
 simp only[oLC]at ho;obtain⟨old,ZE⟩:∃old,Kp (X.splitX f6 t e) o=some old:=by rw[rR];exact⟨_,oGE (by omega)⟩
 have hold2:(X.splitX f6 t e).drop o=old::(X.splitX f6 t e).drop (o+1):=by
  rw[rR]at ZE;have ho3:o<(X.splitX f6 t e).length:=by omega
  rw[List.drop_eq_getElem_cons ho3];rw[oGE ho3]at ZE;injection ZE with ZE
  rw[ZE]
 cases l with
 |nil=>
 obtain⟨h1,h2⟩:=O9 (r:=r) (off:=off) (i:=i) hsz hf he ZE hc hL ZD;have e1:X.hdrs ((X.splitX f6 t e).drop o) [v]=if X.isHdrX old||X.isHdrX v then 1 else 0:=by rw[hold2];simp[X.hdrs]
 have e2:putL ⟨r,off,[(i,sz,o)]⟩ (erL [v])=(xj ⟨r,off,[(i,sz,o)]⟩ (er v)).bind λ_=>.ret ():=rfl;refine⟨?_,?_⟩;rw[e2,SP.run_bind,h1,e1];by_cases hh:(X.isHdrX old||X.isHdrX v)=true;rw[oIP hh,oIP hh];rfl;rw[oIN hh,oIN hh];rfl;rw[e2,gH _ _ h1,e1];simpa[SP.foot]using h2
 |cons w vs=>
 simp only[X.setDs]at hf;split at hf;case h_2=>simp at hf
 rename_i f1 g h1 h2;injection hf with hf
 subst hf;obtain⟨p1,p2⟩:=O9 (r:=r) (off:=off) (i:=i) hsz h1 he ZE hc hL ZD;have he1:(List.modify xs i f1)[i]?=some (f1 e):=by simp[oGM,he]
 have hofs:∀(vr:m_),(⟨σ.tm,iW σ.ce r (L.set off (er1 (.row true t) (List.modify xs i f1))),vr⟩:St).c r off=er1 (.row true t) (List.modify xs i f1):=by intro vr;unfold St.c;simp only[sB];simp[ZD]
 have hIH:=ih (o:=o+1) (σ:=⟨σ.tm,iW σ.ce r (L.set off (er1 (.row true t) (List.modify xs i f1))),if X.isHdrX old||X.isHdrX v then uc σ.vr (r,off,2)else σ.vr⟩) h2 he1 (by simp only[oLC]at ho⊢;omega) (hofs _) (sB _ _ _) (by simpa using ZD);obtain⟨q1,q2⟩:=hIH;have e2:putL ⟨r,off,[(i,sz,o)]⟩ (erL (v::w::vs))=(xj ⟨r,off,[(i,sz,o)]⟩ (er v)).bind λ_=>putL ⟨r,off,[(i,sz,o+1)]⟩ (erL (w::vs)):=by
  have Z4:gl.fits ⟨r,off,[(i,sz,o)]⟩ 1=true:=by simp only[gl.fits,List.reverse_cons,List.reverse_nil,oNA];simp only[oLC]at ho;simpa using(by omega:o+1<sz)
  show(xj ⟨r,off,[(i,sz,o)]⟩ (er v)).bind (λ_=>if gl.fits ⟨r,off,[(i,sz,o)]⟩ 1 then putL ⟨r,off,[(i,sz,o+1)]⟩ (erL (w::vs))else .fail)=_;rw[Z4];rfl
 have e3:X.hdrs ((X.splitX f6 t e).drop o) (v::w::vs)=(if X.isHdrX old||X.isHdrX v then 1 else 0)+X.hdrs ((X.splitX f6 t (f1 e)).drop (o+1)) (w::vs):=by rw[hold2];show _+X.hdrs ((X.splitX f6 t e).drop (o+1)) (w::vs)=_;rw[Np _ ((X.splitX f6 t (f1 e)).drop (o+1)) _ (by rw[List.map_drop,List.map_drop,IG e (f1 e)])]
 have e4:List.modify (List.modify xs i f1) i g=List.modify xs i λe=>g (f1 e):=by
  apply oEG;intro j;simp only[oGM];by_cases hij:i=j;simp only[hij,if_true];cases xs[j]?<;>rfl
  simp[hij]
 refine⟨?_,?_⟩;rw[e2,SP.run_bind,p1];simp only[oBS];rw[q1,e3,y8,List.set_set,e4];congr 2;by_cases hh:(X.isHdrX old||X.isHdrX v)=true;rw[oIP hh,oIP hh,Nat.add_comm 1];rfl;rw[oIN hh,oIN hh,Nat.zero_add];rw[e2,gH _ _ p1,e3];refine⟨λx hx=>?_,λx hx=>?_⟩;rcases oMA.1 hx with hx|hx;rcases p2.1 x hx with h|h|⟨h,h'⟩;exact .inl h;exact .inr (.inl h);exact .inr (.inr ⟨h,by omega⟩);rcases q2.1 x hx with h|h|⟨h,h'⟩;exact .inl h;exact .inr (.inl h);exact .inr (.inr ⟨h,by omega⟩);rcases oMA.1 hx with hx|hx;rcases p2.2 x hx with h|⟨h,h'⟩;exact .inl h;exact .inr ⟨h,by omega⟩;rcases q2.2 x hx with h|⟨h,h'⟩;exact .inl h;exact .inr ⟨h,by omega⟩
theorem Qm(q:Key):∀(n:Nat){σ:XS den}{k:Unit->XS den->Option Y}{y:Y},X.bumps q n σ k=some y->∃ σ',erS σ'=⟨(erS σ).tm,(erS σ).ce,Tn q n σ.vr⟩/\(∀x∈σ.lg.1,x∈σ'.lg.1)/\(∀x∈σ.lg.2,x∈σ'.lg.2)/\(0<n->Loc.v q∈σ'.lg.1/\Loc.v q∈σ'.lg.2)/\k () σ'=some y:=by intro n;induction n with|zero=>intro σ k y h;exact⟨σ,rfl,λ_ h=>h,λ_ h=>h,λh=>by omega,h⟩|succ n ih=>intro σ k y h;have ⟨σ',h1,h2,h3,h4,h5⟩:=ih (show X.bumps q n ⟨σ.tm,σ.ce,uc σ.vr q,(.v q :: σ.lg.1,.v q :: σ.lg.2)⟩ k=some y from h);exact⟨σ',h1,λx hx=>h2 x (by simp[hx]),λx hx=>h3 x (by simp[hx]),λ_=>⟨h2 _ (by simp),h3 _ (by simp)⟩,h5⟩
theorem ML{G G1 G2:(u:CT)->Option (den u->den u)}(hG:∀u f,G u=some f->∃f1 g,G1 u=some f1/\G2 u=some g/\∀x,f x=g (f1 x)):∀{t:CT}{o:Nat}{f:den t->den t},X.setD f6 t o G=some f->∃f1 g,X.setD f6 t o G1=some f1/\X.setD f6 t o G2=some g/\∀x,f x=g (f1 x):=by
 intro t;induction t with
 |pair a b ZI ZF=>intro o f h;simp only[X.setD]at h⊢;by_cases ho:o<kg a;rw[oIP ho]at h;obtain⟨h1,e1,rfl⟩:=kU h;have ⟨f1,g,e2,e3,e4⟩:=ZI e1;rw[oIP ho,oIP ho,e2,e3];exact⟨_,_,rfl,rfl,λx=>by show(h1 x.1,x.2)=(g (f1 x.1),x.2);rw[e4]⟩;rw[oIN ho]at h;obtain⟨h1,e1,rfl⟩:=kU h;have ⟨f1,g,e2,e3,e4⟩:=ZF e1;rw[oIN ho,oIN ho,e2,e3];exact⟨_,_,rfl,rfl,λx=>by show(x.1,h1 x.2)=(x.1,g (f1 x.2));rw[e4]⟩|nat=>intro o f h;simp[X.setD]at h|_=>
 intro o f h;cases o with
 |succ o=>simp[X.setD]at h|zero=>
 first
  |exact hG _ f h
  |(have ⟨a,b,c,d,_⟩:=hG _ f h;exact⟨a,b,c,d,λ_=>trivial⟩)
theorem N2{t:CT}(xs:List (den t))(i:Nat)(f1 g f:den t->den t)(h:∀x,f x=g (f1 x)):List.modify xs i f=List.modify (List.modify xs i f1) i g:=by apply oEG;grind
theorem Kc{pl:List (den .nat×Nat×Nat)}{i sz o:Nat}{v w:XV den}{vs:List (XV den)}:∀{u:CT}{f:den u->den u},X.setHs f6 (pl++[(i,sz,o)]) (v::w::vs) u=some f->∃f1 g,X.setH f6 (pl++[(i,sz,o)]) v u=some f1/\X.setHs f6 (pl++[(i,sz,o+1)]) (w::vs) u=some g/\∀x,f x=g (f1 x):=by
 induction pl with
 |nil=>
 intro u f h;cases u with
  |row ow t=>cases ow with
   |false=>simp[X.setHs]at h|true=>
   simp only[oNA,X.setHs,X.setH]at h⊢;split at h;rename_i hsz;obtain⟨F,h1,rfl⟩:=kU h;simp only[X.setDs]at h1;split at h1;rename_i f1 g e1 e2;injection h1 with h1
   have e1':=e1;rw[oIP hsz,oIP hsz,e2];refine⟨λxs=>List.modify xs i f1,λxs=>List.modify xs i g,?_,rfl,λx=>N2 x i f1 g F λy=>by rw[<- h1]⟩;rw[e1'];rfl;simp_all;simp at h
  |_=>simp[X.setHs]at h
 |cons hp pl ih=>
 intro u f h;obtain⟨i0,Zb,o0⟩:=hp;obtain⟨q,qs,hq⟩:∃q qs,pl++[(i,sz,o)]=q::qs:=by cases pl with|nil=>exact⟨_,_,rfl⟩|cons a b=>exact⟨_,_,rfl⟩
 obtain⟨q',qs',hq'⟩:∃q qs,pl++[(i,sz,o+1)]=q::qs:=by cases pl with|nil=>exact⟨_,_,rfl⟩|cons a b=>exact⟨_,_,rfl⟩
 cases u with
 |row ow t=>cases ow with|false=>simp only[List.cons_append,hq]at h;simp[X.setHs]at h|true=>simp only[List.cons_append,hq,hq',X.setHs,X.setH]at h⊢;split at h;rename_i hsz;obtain⟨F,h1,rfl⟩:=kU h;obtain⟨f1,g,e1,e2,e3⟩:=ML (G1:=X.setH f6 (q::qs) v) (G2:=X.setHs f6 (q'::qs') (w::vs)) (λu f hf=>by rw[<- hq]at hf;obtain⟨a,b,c,d,e⟩:=ih hf;rw[hq]at c;rw[hq']at d;exact⟨a,b,c,d,e⟩) h1;rw[oIP hsz,oIP hsz,e1,e2];exact⟨_,_,rfl,rfl,λx=>N2 x i0 f1 g F e3⟩;simp at h
 |_=>simp at h;simp[X.setHs]at h
theorem OK(v:XV den):∀(hs:List (den .nat×Nat×Nat)),hs≠[]->X.setHs f6 hs [v]=X.setH f6 hs v:=by
 intro hs;induction hs with
 |nil=>simp_all|cons h1 hs ih=>
 intro _;funext u;cases hs with
 |nil=>cases u with
  |row ow t=>cases ow with|true=>rfl|false=>rfl
  |_=>rfl
 |cons h2 hs=>cases u with
  |row ow t=>cases ow with|true=>simp[X.setHs,X.setH];simp_all|false=>rfl
  |_=>rfl
theorem Nx{pl:L_}{i sz o j:Nat}(hj:o≠j)(v:TV):∀{t:TV},gJ (iU t (pl++[(i,sz,o)]) v) (pl++[(i,sz,j)])=gJ t (pl++[(i,sz,j)]):=by
 induction pl with
 |nil=>
 intro t;cases t with
  |ow c=>show gJ (.ow (c.modify i λel=>el.modify o λt1=>iU t1 [] v)) [(i,sz,j)]=gJ (.ow c) [(i,sz,j)];simp[gJ];cases hc:c[i]? with|none=>rfl|some el=>simp_all
  |_=>rfl
 |cons h pl ih=>
 intro t;have ⟨i0,Zb,o0⟩:=h;cases t with
 |ow c=>
 show gJ (.ow (c.modify i0 λel=>el.modify o0 λt1=>iU t1 (pl++[(i,sz,o)]) v)) ((i0,Zb,o0)::(pl++[(i,sz,j)]))=gJ (.ow c) ((i0,Zb,o0)::(pl++[(i,sz,j)]));simp[gJ];cases hc:c[i0]? with
  |none=>rfl|some el=>
  simp;split;cases he:el[o0]? with|none=>rfl|some t1=>exact ih
  rfl
 |_=>rfl
theorem Pc{r off:Nat}{pl:List (den .nat×Nat×Nat)}{i sz:Nat}{u:CT}:∀(l:List (XV den)){o:Nat}{f:den u->den u}{x:den u}{σ:St}{L:U_},X.setHs f6 (pl++[(i,sz,o)]) l u=some f->0<l.length->o+l.length<=sz ->(∀j,j<l.length->∃old,gJ (er1 u x) (pl++[(i,sz,o+j)])=some old/\ui old=false)->(∀v∈l,X.isHdrX v=false)->σ.c r off=er1 u x->gI σ.ce r=some L->off<L.length ->(putL ⟨r,off,pl++[(i,sz,o)]⟩ (erL l)).run σ=some ((),⟨σ.tm,iW σ.ce r (L.set off (er1 u (f x))),σ.vr⟩)/\(∀z∈((putL ⟨r,off,pl++[(i,sz,o)]⟩ (erL l)).foot σ).1,z=.c r off\/z=.n r\/z=.h r off)/\∀z∈((putL ⟨r,off,pl++[(i,sz,o)]⟩ (erL l)).foot σ).2,z=.c r off:=by
 intro l;induction l with
 |nil=>intro o f x σ L _ h;simp at h|cons v l ih=>
 intro o f x σ L hf _ ho ZE hh hc hL ZD;obtain⟨old,hg,hoh⟩:=ZE 0 (by simp);rw[Nat.add_zero]at hg;have hvh:ui (er v)=false:=by rw[uR];exact hh v (by simp)
 have hput:∀(f1:den u->den u),X.setH f6 (pl++[(i,sz,o)]) v u=some f1->(xj ⟨r,off,pl++[(i,sz,o)]⟩ (er v)).run σ=some ((),⟨σ.tm,iW σ.ce r (L.set off (er1 u (f1 x))),σ.vr⟩)/\(xj ⟨r,off,pl++[(i,sz,o)]⟩ (er v)).foot σ=([.c r off,.n r,.h r off],[.c r off]):=by intro f1 h1;have hs:=Kd h1 x;unfold xj;simp only[SP.run,SP.foot,hc];rw[hg];simp only[hoh,hvh,Bool.or_false,Bool.false_eq_true,if_false,SP.run,SP.foot,hL,ZD,if_true,hc,Bw (show pl++[(i,sz,o)]≠[] by simp),oNA];rw[hs];exact⟨by first|rfl|trivial,by first|rfl|trivial⟩
 cases l with
 |nil=>rw[OK v _ (by simp)]at hf;obtain⟨h1,h2⟩:=hput f hf;have e2:putL ⟨r,off,pl++[(i,sz,o)]⟩ (erL [v])=(xj ⟨r,off,pl++[(i,sz,o)]⟩ (er v)).bind λ_=>.ret ():=rfl;rw[e2,SP.run_bind,h1,gH _ _ h1,h2];refine⟨rfl,λz hz=>?_,λz hz=>?_⟩;all_goals simp only[SP.foot,List.append_nil,oMC,List.not_mem_nil,or_false]at hz;exact hz|cons w vs=>
 obtain⟨f1,g,h1,h2,h3⟩:=Kc hf;obtain⟨p1,p2⟩:=hput f1 h1;have hs:=Kd h1 x;simp only[oLC]at ho;obtain⟨q1,q2,q3⟩:=ih (o:=o+1) (x:=f1 x) (σ:=⟨σ.tm,iW σ.ce r (L.set off (er1 u (f1 x))),σ.vr⟩) h2 (by simp) (by simp;omega) (λj hj=>by obtain⟨old',h4,h5⟩:=ZE (j+1) (by simp only[oLC]at hj⊢;omega);refine⟨old',?_,h5⟩;rw[hs,Nx (by omega),show o+1+j=o+(j+1) by omega];exact h4) (λv' YF=>hh v' (by simp[YF])) (by unfold St.c;simp only[sB];simp[ZD]) (sB _ _ _) (by simpa using ZD);have e2:putL ⟨r,off,pl++[(i,sz,o)]⟩ (erL (v::w::vs))=(xj ⟨r,off,pl++[(i,sz,o)]⟩ (er v)).bind λ_=>putL ⟨r,off,pl++[(i,sz,o+1)]⟩ (erL (w::vs)):=by
  have Z4:gl.fits ⟨r,off,pl++[(i,sz,o)]⟩ 1=true:=by simp only[gl.fits,List.reverse_append,List.reverse_cons,List.reverse_nil,oNA,List.cons_append];simpa using(by omega:o+1<sz)
  have XU:gl.add ⟨r,off,pl++[(i,sz,o)]⟩ 1=⟨r,off,pl++[(i,sz,o+1)]⟩:=by simp[gl.add]
  show(xj ⟨r,off,pl++[(i,sz,o)]⟩ (er v)).bind (λ_=>if gl.fits ⟨r,off,pl++[(i,sz,o)]⟩ 1 then putL (gl.add ⟨r,off,pl++[(i,sz,o)]⟩ 1) (erL (w::vs))else .fail)=_;rw[Z4,XU];rfl
 rw[e2,SP.run_bind,p1,gH _ _ p1,p2];simp only[oBS];rw[q1,y8,List.set_set,h3 x];refine⟨rfl,λz hz=>?_,λz hz=>?_⟩;rcases oMA.1 hz with hz|hz;simpa using hz;exact q2 z hz;rcases oMA.1 hz with hz|hz;simpa using hz;exact q3 z hz
theorem Ab(l:List (den .nat×Nat×Nat))(i:Nat)(sz o:Nat):X.lastO (l++[(i,sz,o)])=o:=by induction l with|nil=>rfl|cons h l ih=>cases l with|nil=>rfl|cons h2 l=>simpa[X.lastO]using ih
theorem Mh:∀{hs:List (den .nat×Nat×Nat)}{tv:XV den}{k:List (XV den)->Option Y}{y:Y},X.elemX f6 tv hs k=some y->∃l i sz o cs,hs=l++[(i,sz,o)]/\cs.length=sz/\(∀j v,Kp cs j=some v->gJ (er tv) (l++[(i,sz,j)])=some (er v))/\k cs=some y:=by
 intro hs;induction hs with
 |nil=>
 intro tv k y h;cases tv with
  |d u x=>cases u with|row ow t=>cases ow<;>cases h|_=>cases h
  |_=>cases h
 |cons h1 hs ih=>
 intro tv k y h;obtain⟨i,sz,o⟩:=h1;cases tv with
 |half t x m=>
 cases hs with
  |cons h2 hs=>cases h|nil=>
  simp only[X.elemX]at h;split at h;rename_i hsz;have h:f6.br (iX m i i) _ none=some y:=h;cases hc:iX m i i with
  |false=>rw[hc]at h;cases h|true=>
   rw[hc]at h;obtain⟨e,he,h2⟩:=gi (show(fW (x:List (den t)) i).bind _=some y from h);have he:(x:List (den t))[i]?=some e:=he;have hm:Nat.le m i:=by have h:=hc;simp only[iX,oLE,decide_true,Bool.and_true,oDE]at h;exact h
   refine⟨[],i,sz,o,X.split0 f6 t e,rfl,by rw[<- iV,HD,nK,hsz],λj v hv=>?_,h2⟩;show(match(lM t m x)[i]? with|some el=>if el.length=sz then(match el[j]? with|some t=>gJ t []|none=>none)else none|none=>none)=_;rw[oY,he];simp only[oMS];rw[oIN (Nat.not_lt.2 hm)];simp only[nK,hsz,if_true,Ew hv];rfl
  cases h
 |d u x=>cases u with
  |row ow t=>cases ow with
   |true=>
   cases hs with
    |nil=>
    simp only[X.elemX]at h;split at h;rename_i hsz;obtain⟨e,he,h2⟩:=gi (show(fW (x:List (den t)) i).bind _=some y from h);have he:(x:List (den t))[i]?=some e:=he;refine⟨[],i,sz,o,X.splitX f6 t e,rfl,by rw[<- iV,xJ,iu,hsz],λj v hv=>?_,h2⟩;have h3:(List.map (enc t) (x:List (den t)))[i]?=some (enc t e):=by rw[oGP,he];rfl
    show(match(List.map (enc t) (x:List (den t)))[i]? with|some el=>if el.length=sz then(match el[j]? with|some t=>gJ t []|none=>none)else none|none=>none)=_;rw[h3];simp only[iu,hsz,if_true,uB hv];rfl;cases h
    |cons h2 hs=>
    simp only[X.elemX]at h;split at h;rename_i hsz;obtain⟨e,he,h3⟩:=gi (show(fW (x:List (den t)) i).bind _=some y from h);have he:(x:List (den t))[i]?=some e:=he;split at h3;rename_i v hv;obtain⟨l,i',sz',o',cs,e1,e2,e3,e4⟩:=ih h3;refine⟨(i,sz,o)::l,i',sz',o',cs,by rw[e1];rfl,e2,λj w hw=>?_,e4⟩;have h4:(List.map (enc t) (x:List (den t)))[i]?=some (enc t e):=by rw[oGP,he];rfl
    have:=e3 j w hw;show(match(List.map (enc t) (x:List (den t)))[i]? with|some el=>if el.length=sz then(match el[o]? with|some t=>gJ t (l++[(i',sz',j)])|none=>none)else none|none=>none)=_;rw[h4];simp only[iu,hsz,if_true,uB hv];exact this;cases h3;cases h
   |false=>cases hs<;>cases h
  |_=>cases hs<;>cases h
 |_=>cases hs<;>cases h
theorem J7(r off:Nat)(hs:List (den .nat×Nat×Nat))(l:List (XV den))(h2:2<=hs.length):Sim (Y:=Y) (X.bind (X.rdC r off) λtv=>X.elemM f6 tv hs λcs=> if X.lastO hs+l.length<=cs.length/\0<l.length/\((cs.drop (X.lastO hs)).take l.length).all (λv=>!X.isHdrX v)=true/\l.all (λv=>!X.isHdrX v)=true then X.bind (X.optM f6 (X.setXs f6 tv hs l)) λYi=>X.wrI f6 r off Yi else X.fail f6) (putL ⟨r,off,hs⟩ (erL l)) id:=by
 intro σ k y hk;obtain⟨pl,i,sz,o,cs,e1,e2,e3,e4⟩:=Mh hk;have e5:X.lastO hs=o:=by rw[e1,Ab]
 rw[e5]at e4;dsimp only at e4;split at e4;case isFalse=>cases e4
 rename_i hc;obtain⟨ZP,ZL,hc3,hc4⟩:=hc;cases hset:X.setXs f6 (X.cOf σ r off) hs l with
 |none=>rw[hset]at e4;cases e4|some Yi=>
 rw[hset]at e4;have e4:X.wrI f6 r off Yi (X.lgR (.c r off) σ) k=some y:=e4;cases htv:X.cOf σ r off with
 |d u x=>
 rw[htv]at hset e3;obtain⟨f,hf,hf2⟩:=kU (show(X.setHs f6 hs l u).map (λf=>(XV.d u (f x):XV den))=some Yi from hset);subst hf2;unfold X.wrI at e4;split at e4;case h_2=>cases e4
 rename_i L hL;have hL:gI σ.ce r=some L:=hL;split at e4;case isFalse=>cases e4
 rename_i ZD;rw[uJ]at e4;rw[e1]at hf;obtain⟨q1,q2,q3⟩:=Pc (r:=r) (off:=off) (σ:=erS σ) (L:=erL L) l (x:=x) hf ZL (by rw[<- e2];exact ZP) (λj hj=>by
  have hjs:o+j<cs.length:=by omega
  refine⟨er cs[o+j],e3 (o+j) _ (by rw[rR];exact oGE hjs),?_⟩;rw[uR];have:=oAE.1 hc3 cs[o+j] (List.mem_of_getElem? (i:=j) (by rw[List.getElem?_take,oIP hj,List.getElem?_drop];exact oGE hjs));simpa using this) (λv hv=>by simp_all) (by rw[CR,htv];rfl) (by rw[As,hL];rfl) (by rw[iV];exact ZD)
 rw[<- e1]at q1 q2 q3;refine⟨(),⟨σ.tm,iW σ.ce r (L.set off (.d u (f x))),σ.vr,(.n r :: .h r off :: .c r off :: σ.lg.1,.c r off :: σ.lg.2)⟩,?_,⟨λz hz=>?_,λz hz=>?_,λz hz=>by simp[hz],λz hz=>by simp[hz]⟩,e4⟩;rw[q1];unfold erS erC;simp only;rw[<- rO,xy];rfl;rcases q2 z hz with h|h|h<;>simp[h]
 simp[q3 z hz]
 |_=>rw[htv]at hset;cases hset
theorem Pe{r off i sz o:Nat}{l:List (XV den)}{tv:XV den}{σ:XS den}{k:Unit->XS den->Option Y}{y:Y}(h:X.putEl f6 r off i sz o l tv σ k=some y):(∃t xs,tv=.d (.row true t) xs/\(kg t=sz/\o+l.length<=sz/\0<l.length)/\(X.atM f6 true t xs i λe=>X.bind (X.optM f6 (X.setDs f6 t o l)) λf=>X.bind (X.wrI f6 r off (.d (.row true t) (f6.upd t xs i f))) λ_=>X.bumps (r,off,2) (X.hdrs ((X.splitX f6 t e).drop o) l)) σ k=some y)\/(∃t xs i' o',tv=.gap t xs i' o'/\(kg t=sz/\o<=o'/\o'<sz/\o+l.length=o'+1/\l.dropLast.all (λv=>!X.isHdrX v)=true)/\(X.atM f6 true t xs i λe=>if(((X.splitX f6 t e).drop o).take (o'-o)).all (λv=>!X.isHdrX v)=true then X.brM f6 (f6.eqN i i') (X.bind (X.optM f6 (X.setDs f6 t o l)) λf=>X.bind (X.wrI f6 r off (.d (.row true t) (f6.upd t xs i f))) λ_=>X.bump (r,off,2))else X.fail f6) σ k=some y)\/∃t xs m v f,tv=.half t xs m/\l=[v]/\X.setD f6 t o (X.asF f6 v)=some f/\(kg t=sz/\X.only t o=true)/\(X.atM f6 true t xs i λ_=>X.brM f6 (f6.eqN i m) (X.bind (X.wrI f6 r off (.half t (f6.upd t xs i f) (f6.addN m (f6.litN 1)))) λ_=>X.bump (r,off,2))) σ k=some y:=by
 cases tv with
 |d u xs=>cases u with
  |row ow t=>cases ow with|true=>by_cases hc:kg t=sz/\o+l.length<=sz/\0<l.length;simp only[X.putEl,oIP hc]at h;exact .inl ⟨t,xs,rfl,hc,h⟩;simp only[X.putEl,oIN hc]at h;cases h|false=>cases h
  |_=>cases h
 |gap t xs i' o'=>by_cases hc:kg t=sz/\o<=o'/\o'<sz/\o+l.length=o'+1/\l.dropLast.all (λv=>!X.isHdrX v)=true;simp only[X.putEl,oIP hc]at h;exact .inr (.inl ⟨t,xs,i',o',rfl,hc,h⟩);simp only[X.putEl,oIN hc]at h;cases h|half t xs m=>cases l with|nil=>cases h|cons x r=>cases r with|cons y r=>cases h|nil=>cases hz:X.setD f6 t o (X.asF f6 x)with|none=>simp only[X.putEl,hz]at h;cases h|some f=>by_cases hc:kg t=sz/\X.only t o=true;simp[X.putEl,hz,oIP hc]at h;exact .inr (.inr ⟨t,xs,m,x,f,rfl,rfl,hz,hc,h⟩);simp[X.putEl,hz,oIN hc]at h;cases h
 |_=>cases h
theorem Qn{c:Bool}{m:XM den Option Y α}{σ:XS den}{k:α->XS den->Option Y}{y:Y}(h:X.brM f6 c m σ k=some y):c=true/\m σ k=some y:=by cases c with|false=>cases h|true=>exact⟨rfl,h⟩
theorem Sd{t:CT}{xs:List (den t)}{i sz o:Nat}{e:den t}(hsz:kg t=sz)(he:xs[i]?=some e)(ho:o<sz):gJ (iU (er1 (.row true t) xs) [(i,0,o)] .dead) [(i,sz,o)]=some .dead:=by
 have h3:(List.map (enc t) xs)[i]?=some (enc t e):=by simp_all
 show(match((List.map (enc t) xs).modify i λel=>el.modify o λ_=>TV.dead)[i]? with|some el=>if el.length=sz then(match el[o]? with|some t=>gJ t []|none=>none)else none|none=>none)=_;rw[oGM,h3];have h4:o<(enc t e).length:=by rw[iu,hsz];exact ho
 simp[iu,hsz,oGE h4,gJ]
theorem Rg{tv:TV}{i sz sz' o:Nat}{u v:TV}:iU (iU tv [(i,sz',o)] u) [(i,sz,o)] v=iU tv [(i,sz,o)] v:=by
 cases tv with
 |ow c=>
 simp only[iU];congr 1;apply oEG;intro j;simp only[oGM];by_cases h:i=j;simp only[h,if_true];cases c[j]? with
 |none=>rfl|some el=>
  show some ((el.modify o λ_=>u).modify o λ_=>v)=some (el.modify o λ_=>v);congr 1;apply oEG;intro k;simp only[oGM];by_cases h:o=k;simp only[h,if_true];cases el[k]?<;>rfl
  simp[h]
 simp[h]
 |_=>rfl
theorem O8{r off i sz o o':Nat}{t:CT}(hsz:kg t=sz){v old:XV den}{f:den t->den t}{xs:List (den t)}{e:den t}{σ:St}{L:U_}(hf:X.setD f6 t o (X.asF f6 v)=some f)(he:xs[i]?=some e)(ZE:Kp (X.splitX f6 t e) o=some old) (hne:o≠o')(hv1:X.isHdrX old=false)(R':X.isHdrX v=false)(hc:σ.c r off=iU (er1 (.row true t) xs) [(i,0,o')] .dead)(hL:gI σ.ce r=some L)(ho:off<L.length):(xj ⟨r,off,[(i,sz,o)]⟩ (er v)).run σ=some ((),⟨σ.tm,iW σ.ce r (L.set off (iU (er1 (.row true t) (List.modify xs i f)) [(i,0,o')] .dead)),σ.vr⟩)/\B5 r off 0 ((xj ⟨r,off,[(i,sz,o)]⟩ (er v)).foot σ):=by
 have Z5:gJ (iU (er1 (.row true t) xs) [(i,0,o')] .dead) [(i,sz,o)]=some (er old):=by
  have h3:(List.map (enc t) xs)[i]?=some (enc t e):=by simp_all
  show(match((List.map (enc t) xs).modify i λel=>el.modify o' λ_=>TV.dead)[i]? with|some el=>if el.length=sz then(match el[o]? with|some t=>gJ t []|none=>none)else none|none=>none)=_;rw[oGM,h3];simp only[if_true,Option.map_eq_map,oMS,oLM,iu,hsz,oGM,oIN (Ne.symm hne),uB ZE];rfl
 have hset:iU (iU (er1 (.row true t) xs) [(i,0,o')] .dead) [(i,sz,o)] (er v)=iU (er1 (.row true t) (List.modify xs i f)) [(i,0,o')] .dead:=by
  rw[zn xs i o f (λ_=>er v) (xM (λu h hu _ x=>JS hu x) hf)];show TV.ow (((List.map (enc t) xs).modify i λel=>el.modify o' λ_=>TV.dead).modify i λel=>el.modify o λ_=>er v)=TV.ow (((List.map (enc t) xs).modify i λel=>el.modify o λ_=>er v).modify i λel=>el.modify o' λ_=>TV.dead);congr 1;apply oEG;intro j;simp only[oGM];by_cases h:i=j;simp only[h,if_true];cases(List.map (enc t) xs)[j]? with|none=>rfl|some el=>show some ((el.modify o' λ_=>TV.dead).modify o λ_=>er v)=some ((el.modify o λ_=>er v).modify o' λ_=>TV.dead);congr 1;apply oEG;intro k;simp only[oGM];by_cases h1:o=k;by_cases h2:o'=k;omega;simp[h1,h2];simp_all
  simp[h]
 have hW:hdW r off (iU (er1 (.row true t) xs) [(i,0,o')] .dead) (iU (er1 (.row true t) (List.modify xs i f)) [(i,0,o')] .dead)=[]:=by rw[<- hset];exact Bw (by simp)
 unfold xj;simp only[SP.run,SP.foot,hc,Z5,uR,hset,hv1,R',Bool.or_self,Bool.false_eq_true,if_false];simp only[SP.run,SP.foot,hL,ho,if_true,hc,hW];refine⟨by first|rfl|trivial,λx hx=>?_,λx hx=>?_⟩;simp_all;simp_all
theorem O7{r off i sz o:Nat}{t:CT}(hsz:kg t=sz){v:XV den}{f:den t->den t}{xs:List (den t)}{e:den t}{σ:St}{L:U_}(hf:X.setD f6 t o (X.asF f6 v)=some f)(he:xs[i]?=some e)(Zy:o<sz) (hc:σ.c r off=iU (er1 (.row true t) xs) [(i,0,o)] .dead)(hL:gI σ.ce r=some L)(ho:off<L.length):(xj ⟨r,off,[(i,sz,o)]⟩ (er v)).run σ=some ((),⟨σ.tm,iW σ.ce r (L.set off (er1 (.row true t) (List.modify xs i f))),uc σ.vr (r,off,2)⟩)/\B5 r off 1 ((xj ⟨r,off,[(i,sz,o)]⟩ (er v)).foot σ):=by
 have Z5:=Sd hsz he Zy;have hset:iU (iU (er1 (.row true t) xs) [(i,0,o)] .dead) [(i,sz,o)] (er v)=er1 (.row true t) (List.modify xs i f):=by rw[Rg,zn xs i o f (λ_=>er v) (xM (λu h hu _ x=>JS hu x) hf)];rfl
 have hW:hdW r off (iU (er1 (.row true t) xs) [(i,0,o)] .dead) (er1 (.row true t) (List.modify xs i f))=[]:=by rw[<- hset];exact Bw (by simp)
 have hd:ui TV.dead=true:=rfl;unfold xj;simp only[SP.run,SP.foot,hc,Z5,hset,hd,Bool.true_or,if_true,oLC,oLN,oLE];simp only[hL,ho,if_true,hc,hW];refine⟨by simp_all,λx hx=>?_,λx hx=>?_⟩
 ·simp at hx;rcases hx with h|h|h|h
  all_goals simp_all
 simp_all
theorem Rs{r off i sz o':Nat}{t:CT}(hsz:kg t=sz)(Zy:o'<sz):∀(l:List (XV den)){o:Nat}{f:den t->den t}{xs:List (den t)}{e:den t}{σ:St}{L:U_},X.setDs f6 t o l=some f->xs[i]?=some e->o+l.length=o'+1 ->l.dropLast.all (λv=>!X.isHdrX v)=true->(∀j v,o<=j->j<o'->Kp (X.splitX f6 t e) j=some v->X.isHdrX v=false)->σ.c r off=iU (er1 (.row true t) xs) [(i,0,o')] .dead->gI σ.ce r=some L->off<L.length ->(putL ⟨r,off,[(i,sz,o)]⟩ (erL l)).run σ=some ((),⟨σ.tm,iW σ.ce r (L.set off (er1 (.row true t) (List.modify xs i f))),uc σ.vr (r,off,2)⟩)/\B5 r off 1 ((putL ⟨r,off,[(i,sz,o)]⟩ (erL l)).foot σ):=by
 intro l;induction l with
 |nil=>intro o f xs e σ L h;simp[X.setDs]at h|cons v l ih=>
 intro o f xs e σ L hf he ho ZH ZE hc hL ZD;simp only[oLC]at ho;cases l with
 |nil=>
 simp only[X.setDs]at hf;obtain rfl:o=o':=by simp only[oLN]at ho;omega
 obtain⟨h1,h2⟩:=O7 (r:=r) (off:=off) (i:=i) hsz hf he Zy hc hL ZD;have e2:putL ⟨r,off,[(i,sz,o)]⟩ (erL [v])=(xj ⟨r,off,[(i,sz,o)]⟩ (er v)).bind λ_=>.ret ():=rfl;refine⟨?_,?_⟩;rw[e2,SP.run_bind,h1];rfl;rw[e2,gH _ _ h1];simpa[SP.foot]using h2
 |cons w vs=>
 simp only[X.setDs]at hf;split at hf;case h_2=>simp at hf
 rename_i f1 g h1 h2;injection hf with hf
 subst hf;simp only[oLC]at ho;have hlt:o<o':=by omega
 have hlen:(X.splitX f6 t e).length=sz:=by rw[<- iV,xJ,iu,hsz]
 obtain⟨old,hold1⟩:∃old,Kp (X.splitX f6 t e) o=some old:=by rw[rR];exact⟨_,oGE (by omega)⟩
 have hfl':X.isHdrX v=false/\(w::vs).dropLast.all (λv=>!X.isHdrX v)=true:=by simp_all
 obtain⟨p1,p2⟩:=O8 (r:=r) (off:=off) (i:=i) hsz h1 he hold1 (Nat.ne_of_lt hlt) (ZE o old (oLE _) hlt hold1) hfl'.1 hc hL ZD;have he1:(List.modify xs i f1)[i]?=some (f1 e):=by simp[oGM,he]
 have hofs:(⟨σ.tm,iW σ.ce r (L.set off (iU (er1 (.row true t) (List.modify xs i f1)) [(i,0,o')] .dead)),σ.vr⟩:St).c r off=iU (er1 (.row true t) (List.modify xs i f1)) [(i,0,o')] .dead:=by unfold St.c;simp only[sB];simp[ZD]
 have hold':∀j v,o+1<=j->j<o'->Kp (X.splitX f6 t (f1 e)) j=some v->X.isHdrX v=false:=λj u hj1 hj2 hu=>by
  have hty:=IG (f1 e) e;have h3:((X.splitX f6 t (f1 e)).map X.isHdrX)[j]?=some (X.isHdrX u):=by rw[oGP,<- rR,hu];rfl
  rw[hty,oGP]at h3;cases hq:(X.splitX f6 t e)[j]? with|none=>rw[hq]at h3;cases h3|some q=>rw[hq]at h3;simp only[oMS,oSJ]at h3;rw[<- h3];exact ZE j q (by omega) hj2 (by rw[rR];exact hq)
 obtain⟨q1,q2⟩:=ih (o:=o+1) (σ:=⟨σ.tm,iW σ.ce r (L.set off (iU (er1 (.row true t) (List.modify xs i f1)) [(i,0,o')] .dead)),σ.vr⟩) h2 he1 (by simp only[oLC];omega) hfl'.2 hold' hofs (sB _ _ _) (by simpa using ZD);have e2:putL ⟨r,off,[(i,sz,o)]⟩ (erL (v::w::vs))=(xj ⟨r,off,[(i,sz,o)]⟩ (er v)).bind λ_=>putL ⟨r,off,[(i,sz,o+1)]⟩ (erL (w::vs)):=by
  have Z4:gl.fits ⟨r,off,[(i,sz,o)]⟩ 1=true:=by simp only[gl.fits,List.reverse_cons,List.reverse_nil,oNA];simpa using(by omega:o+1<sz)
  show(xj ⟨r,off,[(i,sz,o)]⟩ (er v)).bind (λ_=>if gl.fits ⟨r,off,[(i,sz,o)]⟩ 1 then putL ⟨r,off,[(i,sz,o+1)]⟩ (erL (w::vs))else .fail)=_;rw[Z4];rfl
 have e4:List.modify (List.modify xs i f1) i g=List.modify xs i λe=>g (f1 e):=by
  apply oEG;intro j;simp only[oGM];by_cases hij:i=j;simp only[hij,if_true];cases xs[j]?<;>rfl
  simp[hij]
 refine⟨?_,?_⟩;rw[e2,SP.run_bind,p1];simp only[oBS];rw[q1,y8,List.set_set,e4];rw[e2,gH _ _ p1];refine⟨λx hx=>?_,λx hx=>?_⟩;rcases oMA.1 hx with hx|hx;rcases p2.1 x hx with h|h|⟨h,h'⟩;exact .inl h;exact .inr (.inl h);omega;exact q2.1 x hx;rcases oMA.1 hx with hx|hx;rcases p2.2 x hx with h|⟨h,h'⟩;exact .inl h;omega;exact q2.2 x hx
theorem ME{r off i sz o o':Nat}{t:CT}{xs:List (den t)}{l:List (XV den)}{σ:XS den}{k:Unit->XS den->Option Y}{y:Y}(hcell:X.cOf σ r off=.gap t xs i o')(hc:kg t=sz/\o<=o'/\o'<sz/\o+l.length=o'+1/\l.dropLast.all (λv=>!X.isHdrX v)=true){e:den t}(he:xs[i]?=some e) (ZE:(((X.splitX f6 t e).drop o).take (o'-o)).all (λv=>!X.isHdrX v)=true) (hk:(X.bind (X.optM f6 (X.setDs f6 t o l)) λf=>X.bind (X.wrI f6 r off (.d (.row true t) (f6.upd t xs i f))) λ_=>X.bump (r,off,2)) (X.lgR (.c r off) σ) k=some y):∃a σ',(putL ⟨r,off,[(i,sz,o)]⟩ (erL l)).run (erS σ)=some (id a,erS σ')/\sC σ σ' ((putL ⟨r,off,[(i,sz,o)]⟩ (erL l)).foot (erS σ))/\k a σ'=some y:=by
 obtain⟨hsz,hoo,Zy,hl,ZH⟩:=hc;cases hf:X.setDs f6 t o l with
 |none=>rw[hf]at hk;cases hk|some f=>
 rw[hf]at hk;have hk:X.wrI f6 r off (.d (.row true t) (f6.upd t xs i f)) (X.lgR (.c r off) σ) (λ_ σ'=>X.bump (r,off,2) σ' k)=some y:=hk;unfold X.wrI at hk;split at hk;case h_2=>cases hk
 rename_i L hL;have hL:gI σ.ce r=some L:=hL;split at hk;case isFalse=>cases hk
 rename_i ZD;have hc:(erS σ).c r off=iU (er1 (.row true t) xs) [(i,0,o')] .dead:=by rw[CR,hcell];rfl
 have hL':gI (erS σ).ce r=some (erL L):=by rw[As,hL];rfl
 obtain⟨q1,q2⟩:=Rs hsz Zy l (σ:=erS σ) hf he hl ZH (λj v h1 h2 hv=>by rw[rR]at hv;have:=oAE.1 ZE v (List.mem_of_getElem? (i:=j-o) (by rw[List.getElem?_take,oIP (by omega),List.getElem?_drop,show o+(j-o)=j by omega];exact hv));simpa using this) hc hL' (by rw[iV];exact ZD);refine⟨(),_,?_,⟨λx hx=>?_,λx hx=>?_,λx hx=>?_,λx hx=>?_⟩,hk⟩;rw[q1];unfold erS erC;rw[<- rO,xy];rfl;rcases q2.1 x hx with h|(h|h)|⟨h,h'⟩<;>simp[X.lgR,h]
 rcases q2.2 x hx with h|⟨h,h'⟩<;>simp[X.lgR,h]
 simp[X.lgR,hx];simp[X.lgR,hx]
theorem P5{t:CT}{xs:List (den t)}{i o:Nat}{e:den t}(ho:X.only t o=true)(he:xs[i]?=some e):∃u,gJ (.ow (lM t i xs)) [(i,kg t,o)]=some u/\ui u=true:=by show ∃u,(match(lM t i xs)[i]? with|some el=>if el.length=kg t then(match el[o]? with|some t=>gJ t []|none=>none)else none|none=>none)=some u/\ui u=true;rw[oY,he];have ⟨u,h1,h2⟩:=RD ho e;simp[nK,h1];exact⟨u,rfl,h2⟩
theorem J6{r off i o:Nat}{t:CT}{xs:List (den t)}{v:XV den}{f:den t->den t}{σ:XS den}{k:Unit->XS den->Option Y}{y:Y}(hcell:X.cOf σ r off=.half t xs i)(ho:X.only t o=true)(hz:X.setD f6 t o (X.asF f6 v)=some f){e:den t}(he:xs[i]?=some e) (hk:(X.bind (X.wrI f6 r off (.half t (List.modify xs i f) (i+1))) λ_=>X.bump (r,off,2)) (X.lgR (.c r off) σ) k=some y):∃a σ',(putL ⟨r,off,[(i,kg t,o)]⟩ (erL [v])).run (erS σ)=some (id a,erS σ')/\sC σ σ' ((putL ⟨r,off,[(i,kg t,o)]⟩ (erL [v])).foot (erS σ))/\k a σ'=some y:=by
 have hf:=xM (φ:=λ_=>er v) (λu h hu _ x=>JS hu x) hz;have hset:iU (.ow (lM t i xs)) [(i,kg t,o)] (er v)=.ow (lM t (i+1) (xs.modify i f)):=by rw[P0 ho hf];rfl
 have hcell':(erS σ).c r off=.ow (lM t i xs):=by rw[CR,hcell];rfl
 have hgl:=(pm.wrI (Y:=Y) (σ:=X.lgR (.c r off) σ) (t:=.half t (List.modify xs i f) (i+1)) (by show(TV.ow (lM t (i+1) (xs.modify i f))).hd=((erS σ).c r off).hd;rw[hcell'];simp only[TV.hd,EK];rw[List.map_const',List.map_const',oLM])).bind (g:=λ_=>X.bump (r,off,2)) (h:=λ_=>.bump (r,off,2) (.ret ())) (f':=id) λ_=>LH (r,off,2);obtain⟨a,σ',h1,h2,h3⟩:=hgl k y hk;obtain⟨old,hg,hh⟩:=P5 ho he;have e1:putL ⟨r,off,[(i,kg t,o)]⟩ (erL [v])=.rdC r off λtv=>(match gJ tv [(i,kg t,o)]with
  |some old=>if ui old||ui (er v)then(if 1<=1 then SP.wrC r off (iU tv [(i,kg t,o)] (er v)) (.bump (r,off,2) (.ret ()))else .fail)else .wrC r off (iU tv [(i,kg t,o)] (er v)) (.ret ())
  |none=>.fail).bind λ_=>.ret ():=rfl
 have e2:∀s:TV,s=(erS σ).c r off->((match gJ s [(i,kg t,o)]with
  |some old=>if ui old||ui (er v)then(if 1<=1 then SP.wrC r off (iU s [(i,kg t,o)] (er v)) (.bump (r,off,2) (.ret ()))else .fail)else .wrC r off (iU s [(i,kg t,o)] (er v)) (.ret ())
  |none=>.fail:SP Unit).bind λ_=>.ret ())=.wrC r off (.ow (lM t (i+1) (xs.modify i f))) (.bump (r,off,2) (.ret ())):=by
  intro s hs;rw[hs,hcell',hg];simp only[hh,if_true];rw[hset];rfl
 refine⟨a,σ',?_,⟨λx hx=>?_,λx hx=>?_,λx hx=>h2.r0 x (by simp[X.lgR,hx]),λx hx=>h2.w0 x hx⟩,h3⟩;rw[e1];simp only[SP.run];rw[e2 _ rfl];exact h1;rw[e1]at hx;simp only[SP.foot,oMC]at hx;rcases hx with rfl|hx;exact h2.r0 _ (by simp[X.lgR]);rw[e2 _ rfl]at hx;exact h2.r x hx;rw[e1]at hx;simp only[SP.foot]at hx;rw[e2 _ rfl]at hx;exact h2.w x hx
theorem LB(p:XP den)(l:List (XV den)):Sim (Y:=Y) (X.putL f6 p l) (putL (erP p) (erL l)) id:=by
 obtain⟨r,off,hops⟩:=p;match hops with
 | []=>exact Q5 r l off| [(i,sz,o)]=>
 intro σ k y hk;show ∃a σ',(putL ⟨r,off,[(i,sz,o)]⟩ (erL l)).run (erS σ)=some (id a,erS σ')/\_;rcases Pe hk with⟨t,xs,hcell,⟨hsz,hol,hl0⟩,hk⟩|⟨t,xs,i',o',hcell,ZA,hk⟩|⟨t,xs,m,v,f,hcell,rfl,hz,⟨rfl,hon⟩,X5⟩;rotate_left
 ·obtain⟨e,he,hk⟩:=gi (show(fW xs i).bind _=some y from hk);have he:(xs:List (den t))[i]?=some e:=he;dsimp only at hk;split at hk
  case isFalse=>cases hk
  rename_i ZE;obtain⟨hb,hk9⟩:=Qn hk;have hii:i=i':=Nat.eq_of_beq_eq_true hb;subst hii;exact ME hcell ZA he ZE hk9
 obtain⟨e,he,hk4⟩:=gi (show(fW xs i).bind _=some y from X5);have he:(xs:List (den t))[i]?=some e:=he;dsimp only at hk4;obtain⟨hb,hk9⟩:=Qn hk4;have hii:i=m:=Nat.eq_of_beq_eq_true hb;subst hii;exact J6 hcell hon hz he hk9
 ··skip
   obtain⟨e,he,hk⟩:=gi (show(fW xs i).bind _=some y from hk)
   cases hf:X.setDs f6 t o l with
   |none=>rw[hf]at hk;cases hk
   |some f=>
    rw[hf]at hk;have hk:X.wrI f6 r off (.d (.row true t) (f6.upd t xs i f)) (X.lgR (.c r off) σ) (λ_ σ'=>X.bumps (r,off,2) (X.hdrs ((X.splitX f6 t e).drop o) l) σ' k)=some y:=hk;unfold X.wrI at hk;split at hk
    case h_2=>cases hk
    rename_i L hL;have hL:gI σ.ce r=some L:=hL;split at hk
    case isFalse=>cases hk
    rename_i ZD;rw[uJ]at hk;obtain⟨σ',h1,h2,h3,h4,h5⟩:=Qm _ _ hk
    have hc:(erS σ).c r off=er1 (.row true t) xs:=by rw[CR,hcell];rfl
    have hL':gI (erS σ).ce r=some (erL L):=by rw[As,hL];rfl
    obtain⟨q1,q2⟩:=T7 hsz l (σ:=erS σ) hf he hol hc hL' (by rw[iV];exact ZD);refine⟨(),σ',?_,⟨λx hx=>?_,λx hx=>?_,λx hx=>h2 x (by simp[X.lgR,hx]),λx hx=>h3 x (by simp[X.lgR,hx])⟩,h5⟩
    ·rw[q1,h1];simp only[id_eq,oSJ,oPJ,true_and];congr 1;show iW (erC σ.ce) r _=erC (iW σ.ce r _);unfold erC;rw[<- rO,xy];rfl
    ·rcases q2.1 x hx with h|(h|h)|⟨h,h'⟩
     ·exact h2 x (by simp[X.lgR,h])
     ·exact h2 x (by simp[X.lgR,h])
     ·exact h2 x (by simp[X.lgR,h])
     ·rw[h];exact(h4 h').1
    ·rcases q2.2 x hx with h|⟨h,h'⟩
     ·simp_all
     ·rw[h];exact(h4 h').2
 |h1::h2::hs=>exact J7 r off (h1::h2::hs) l (by simp)
end
section
variable {α β γ δ Y:Type}
theorem nG(p:XP den)(t:XV den):Sim (Y:=Y) (X.peek1 f6 p t) (peek1 (erP p) (er t)) er:=by
 cases t with
 |k x=>exact .ret rfl|d t x=>
 have own:X.isOwT t=true->Sim (Y:=Y) (X.peek1 f6 p (.d t x)) (peek1 (erP p) (er (.d t x))) er:=by intro h;have h1:X.isOwX (.d t x:XV den)=true:=h;have ⟨c,hc⟩:=pY h1;rw[hc];show Sim (if X.isOwT t then _ else _) (SP.bind _ _) er;rw[oIP h];exact(xL _).bind λvs=>.ret rfl
 cases t with
  |row o t=>cases o<;>first|exact .ret rfl|exact own rfl
  |nilr o=>cases o<;>first|exact .ret rfl|exact own rfl
  |int k=>exact .ret rfl|bool=>exact .ret rfl|str=>exact .ret rfl|nat=>exact .fail|pair a b=>exact .fail
 |_=>exact .fail
theorem Ol(p:XP den):Sim (Y:=Y) (X.peekP f6 p) (peekP (erP p)) er:=by have ⟨r,o,hs⟩:=p;cases hs with|nil=>refine Sim.rdK λt=>Sim.ite (λh=>?_) λh=>?_;have ⟨c,hc⟩:=pY h;rw[hc];exact(xL _).bind λvs=>.ret rfl;rw[Ut (by simp_all) (vW t)];exact(lW ⟨r,o,[]⟩).bind λt=>nG _ t|cons h hs=>exact(lW ⟨r,o,h::hs⟩).bind λt=>nG _ t
theorem Om(r:Nat):∀(n o:Nat),Sim (Y:=Y) (X.peekB f6 r o n) (peekL ⟨r,o,[]⟩ n) erL:=by intro n;induction n with|zero=>intro o;exact .ret rfl|succ n ih=>intro o;cases n with|zero=>refine Sim.rdC λt=>(nG ⟨r,o,[]⟩ t).bind λt'=>?_;exact(Sim.ret (f:=erL) rfl).bind (h:=λl=>.ret (er t'::l)) λl=>.ret rfl|succ n=>exact Sim.rdC λt=>(nG ⟨r,o,[]⟩ t).bind λt'=>(ih (o+1)).bind λl=>.ret rfl
theorem SH{r o:Nat}{l:L_}{i sz f n:Nat}:(⟨r,o,l++[(i,sz,f)]⟩:gl).add n=⟨r,o,l++[(i,sz,f+n)]⟩:=by simp[gl.add]
theorem P9{r o:Nat}{l:L_}{i sz f n:Nat}:(⟨r,o,l++[(i,sz,f)]⟩:gl).fits n=decide (f+n<sz):=by simp[gl.fits]
theorem O4:∀{qs:List Key}{σ:St}{a:N_}{τ:St},(rdVs qs).run σ=some (a,τ)->τ=σ:=by intro qs;induction qs with|nil=>intro σ a τ h;simp[rdVs,SP.run]at h;exact h.2.symm|cons q qs ih=>intro σ a τ h;have ⟨l,σ1,h1,h2⟩:=fS h;simp[SP.run]at h2;rw[<- h2.2];exact ih h1
theorem MZ{p:gl}{t:TV}{σ:St}{y:TV×St}(h:(peek1 p t).run σ=some y):y.2=σ:=by cases t with|v x=>simp[peek1,SP.run]at h;rw[<- h]|sl c=>simp[peek1,SP.run]at h;rw[<- h]|ow c=>have ⟨l,σ1,h1,h2⟩:=fS h;simp[SP.run]at h2;rw[<- h2];exact O4 h1|_=>simp[peek1,SP.run]at h
theorem MY{r off:Nat}{l:List (den .nat×Nat×Nat)}{i:Nat}{sz:Nat}{tv:TV}:∀(cs:List (XV den))(o:Nat){σ:XS den}{k:List (XV den)->XS den->Option Y}{y:Y},X.peekCs f6 ⟨r,off,l++[(i,sz,o)]⟩ cs σ k=some y ->(erS σ).c r off=tv->Loc.c r off∈σ.lg.1->(∀j v,cs[j]?=some v->gJ tv (l++[(i,sz,o+j)])=some (er v))->0<cs.length->o+cs.length<=sz ->∃vs σ',(peekL ⟨r,off,l++[(i,sz,o)]⟩ cs.length).run (erS σ)=some (erL vs,erS σ')/\sC σ σ' ((peekL ⟨r,off,l++[(i,sz,o)]⟩ cs.length).foot (erS σ))/\k vs σ'=some y:=by
 intro cs;induction cs with
 |nil=>simp_all|cons t cs ih=>
 intro o σ k y h hc hlg hg h0 hsz;obtain⟨t',σ1,r1,n1,k1⟩:=nG ⟨r,off,l++[(i,sz,o)]⟩ t σ _ y h;have r1:(peek1 ⟨r,off,l++[(i,sz,o)]⟩ (er t)).run (erS σ)=some (er t',erS σ1):=r1;have hs:erS σ1=erS σ:=MZ r1;have hpl:(getPl ⟨r,off,l++[(i,sz,o)]⟩).run (erS σ)=some (er t,erS σ):=by have h3:gJ tv (l++[(i,sz,o)])=some (er t):=hg 0 t rfl;simp only[getPl,SP.run,hc];rw[h3];rfl
 have fpl:(getPl ⟨r,off,l++[(i,sz,o)]⟩).foot (erS σ)=([.c r off],[]):=by simp only[getPl,SP.foot,hc];have:=hg 0 t rfl;simp only[Nat.add_zero]at this;rw[this];rfl
 cases cs with
 |nil=>have k1:k [t'] σ1=some y:=k1;have e:peekL ⟨r,off,l++[(i,sz,o)]⟩ 1=(getPl ⟨r,off,l++[(i,sz,o)]⟩).bind λt=>(peek1 ⟨r,off,l++[(i,sz,o)]⟩ t).bind λt'=>.ret [t']:=rfl;refine⟨[t'],σ1,?_,?_,k1⟩;show(peekL _ 1).run _=_;rw[e,SP.run_bind,hpl];simp only[oBS,SP.run_bind,r1];rfl;show sC σ σ1 ((peekL _ 1).foot _);rw[e,gH _ _ hpl,gH _ _ r1,fpl];refine⟨λx hx=>?_,λx hx=>?_,n1.r0,n1.w0⟩;simp only[SP.foot,List.cons_append,oNA,List.append_nil,oMC]at hx;rcases hx with h|h;rw[h];exact n1.r0 _ hlg;exact n1.r x h;simp only[SP.foot,oNA,List.append_nil]at hx;exact n1.w x hx
 |cons u cs=>
 have eadd:X.addP (⟨r,off,l++[(i,sz,o)]⟩:XP den) 1=⟨r,off,l++[(i,sz,o+1)]⟩:=by simp[X.addP]
 rw[eadd]at k1;simp only[oLC]at hsz h0;obtain⟨vs,σ2,r2,n2,k2⟩:=ih (o+1) k1 (by rw[hs];exact hc) (n1.r0 _ hlg) (λj v hv=>by have:=hg (j+1) v (by simpa using hv);rw[show o+1+j=o+(j+1) by omega];exact this) (by simp) (by simp only[oLC];omega);have e:peekL ⟨r,off,l++[(i,sz,o)]⟩ (u::cs).length.succ=(getPl ⟨r,off,l++[(i,sz,o)]⟩).bind λt=>(peek1 ⟨r,off,l++[(i,sz,o)]⟩ t).bind λt'=>(peekL ⟨r,off,l++[(i,sz,o+1)]⟩ (u::cs).length).bind λr=>.ret (t'::r):=by
  show(getPl _).bind (λt=>(peek1 _ t).bind λt'=>if gl.fits ⟨r,off,l++[(i,sz,o)]⟩ 1 then(peekL (gl.add ⟨r,off,l++[(i,sz,o)]⟩ 1) (cs.length+1)).bind λr=>.ret (t'::r)else .fail)=_;have h3:decide (o+1<sz)=true:=by simpa using(by omega:o+1<sz)
  rw[P9,SH,h3];rfl
 refine⟨t'::vs,σ2,?_,?_,k2⟩;show(peekL _ (u::cs).length.succ).run _=_;rw[e,SP.run_bind,hpl];simp only[oBS,SP.run_bind,r1,r2];rfl;show sC σ σ2 ((peekL _ (u::cs).length.succ).foot _);rw[e,gH _ _ hpl,gH _ _ r1,gH _ _ r2,fpl];refine⟨λx hx=>?_,λx hx=>?_,λx hx=>n2.r0 x (n1.r0 x hx),λx hx=>n2.w0 x (n1.w0 x hx)⟩;simp only[SP.foot,List.cons_append,oNA,List.append_nil,oMC,oMA]at hx;rcases hx with h|h|h;rw[h];exact n2.r0 _ (n1.r0 _ hlg);exact n2.r0 _ (n1.r x h);exact n2.r x h;simp only[SP.foot,oNA,List.append_nil,oMA]at hx;rcases hx with h|h;exact n2.w0 _ (n1.w x h);exact n2.w x h
theorem HI(p:XP den)(n:Nat):Sim (Y:=Y) (X.peekL f6 p n) (peekL (erP p) n) erL:=by
 obtain⟨r,off,hops⟩:=p;cases hops with
 |nil=>exact Om r n off|cons h1 hs=>
 intro σ k y hk;have hk:X.elemM f6 (X.cOf σ r off) (h1::hs) (λcs=>if X.lastO (h1::hs)+n<=cs.length/\0<n then X.peekCs f6 ⟨r,off,h1::hs⟩ ((cs.drop (X.lastO (h1::hs))).take n)else X.fail f6) (X.lgR (.c r off) σ) k=some y:=hk;obtain⟨l,i,sz,o,cs,e1,e2,e3,e4⟩:=Mh hk;have e5:X.lastO (h1::hs)=o:=by rw[e1,Ab]
 rw[e5]at e4;dsimp only at e4;split at e4;rename_i hc;have hlen:cs.length=sz:=e2;have Y9:((cs.drop o).take n).length=n:=by rw[oLT,List.length_drop,hlen];omega
 rw[e1]at e4;obtain⟨vs,σ',r1,n1,k1⟩:=MY (tv:=er (X.cOf σ r off)) _ o e4 (CR σ r off) (by simp[X.lgR]) (λj v hv=>e3 (o+j) v (by rw[rR];rw[List.getElem?_take]at hv;split at hv;rw[List.getElem?_drop]at hv;exact hv;simp at hv)) (by rw[Y9];exact hc.2) (by rw[Y9,<- e2];exact hc.1);rw[Y9]at r1 n1;have ep:erP ⟨r,off,h1::hs⟩=⟨r,off,l++[(i,sz,o)]⟩:=by unfold erP;rw[e1]
 rw[ep];exact⟨vs,σ',r1,⟨n1.r,n1.w,λx hx=>n1.r0 x (by simp[X.lgR,hx]),λx hx=>n1.w0 x hx⟩,k1⟩;cases e4
theorem Oo(r:Nat):∀(l:List (XV den))(i:Nat),Sim (Y:=Y) (X.nameL r i l) (nameL r i (erL l)) erL:=by
 intro l;induction l with
 |nil=>intro i;exact .ret rfl|cons t l ih=>
 intro i;cases ho:X.isOwX t with
 |true=>
 obtain⟨c,hc⟩:=pY ho;have e:nameL r i (erL (t::l))=.rdV (r,0,0) λg=>.rdV (r,i,1) λh=>(nameL r (i+1) (erL l)).bind λl'=>.ret (.pk ⟨r,i,[]⟩ [g,h]::l'):=by simp[erL,hc,nameL]
 rw[e];simp[X.nameL,ho];exact Sim.rdV λg=>Sim.rdV λh=>(ih (i+1)).bind λl'=>.ret rfl
 |false=>
 have e:nameL r i (erL (t::l))=(nameL r (i+1) (erL l)).bind λl'=>.ret (er t::l'):=by
  have h1:oi (er t)=false:=by rw[vW,ho]
  simp[erL];cases he:er t with|ow c=>rw[he]at h1;simp[oi]at h1|_=>rfl
 rw[e];simp[X.nameL,ho,if_false];exact(ih (i+1)).bind λl'=>.ret rfl
theorem Tg(l:List (XV den)):(erL l).any oi=l.any X.isOwX:=by induction l with|nil=>rfl|cons t l ih=>simp[erL,vW,ih]
theorem BU(d:Nat)(l:List (XV den)):Sim (Y:=Y) (X.names f6 d l) (names d (erL l)) erL:=by unfold X.names names;rw[Tg];by_cases h:l.any X.isOwX=true;rw[oIP h,oIP h];exact Sim.new rfl (Oo _ l 0);rw[oIN h,oIN h];exact .ret rfl
theorem Ez(agg:Bool)(l:List (XV den)):er (X.shapedX agg l)=tZ agg (erL l):=by cases agg with|true=>rfl|false=>exact JF l
theorem gR(d:Nat){t:XV den}{t':TV}(e:er t=t'):Sim (Y:=Y) (X.wr f6 d t) (wr d t') id:=by subst e;exact BR d t
theorem pR(d:Nat)(agg:Bool){l:List (XV den)}{l':U_}(e:erL l=l'):Sim (Y:=Y) (X.inst f6 d agg l) (inst d agg l') id:=by subst e;exact(BU d l).bind λl'=>gR d (Ez agg l')
theorem se(t:XV den):Sim (Y:=Y) (X.natOf f6 t) (natOf (er t)) id:=by
 cases t with
 |d t x=>cases t with|int k=>refine Sim.nat λm hm=>?_;subst hm;exact .ret rfl|_=>exact .fail
 |_=>exact .fail
theorem HJ(t:XV den):Sim (Y:=Y) (X.lenOf f6 t) (wz (er t)) id:=by
 cases t with
 |d t x=>cases t with
  |row o t=>cases o with|false=>exact .ret (oLP _).symm|true=>exact .fail
  |nilr o=>cases o<;>exact .ret rfl|_=>exact .fail
 |pk p vs=>
 refine(i5 p _ vs).bind λ_=>(LC p).bind λt=>?_;cases t with
  |d t x=>cases t with
   |row o t=>cases o with|true=>exact .ret (show _=(List.map List.length (List.map (enc t) x)).length by simp;rfl)|false=>exact .fail
   |nilr o=>cases o with|true=>exact .ret rfl|false=>exact .fail
   |_=>exact .fail
  |half t x m=>exact .ret (show _=(List.map List.length (lM t m x)).length by rw[oLP,Cq];rfl)|_=>exact .fail
 |pw p vs sz lo n=>exact(i5 p _ vs).bind λ_=>.ret rfl|_=>exact .fail
theorem Ey(o:Option Opd)(d:Nat):Sim (Y:=Y) (X.optNat f6 o d) (optNat o d) id:=by cases o with|none=>exact .ret rfl|some o=>exact(BT o).bind λt=>se t
theorem xK(mv:Bool):∀l:e_,Sim (Y:=Y) (X.takeParts f6 mv l) (takeParts mv l) erL:=by intro l;induction l with|nil=>exact .ret rfl|cons x l ih=>have ⟨off,n,x⟩:=x;refine(BT x).bind λt=>?_;rw[C9];refine(uD mv _).bind λl1=>?_;refine Sim.ite (λhn=>?_) λ_=>.fail;rw[oIP (by rw[iV];exact hn)];exact ih.bind λl'=>.ret (sq _ _)
theorem Pi:∀(l cells:List (XV den))(off:Nat),erL (X.placeX cells off l)=oe (erL cells) off (erL l):=by intro l;induction l with|nil=>intros;rfl|cons t l ih=>intro cells off;simp[X.placeX,erL,oe];rw[ih,xy]
theorem JR:∀(ps:e_)(cells l:List (XV den)),erL (X.assembleX cells ps l)=tO (erL cells) ps (erL l):=by intro ps;induction ps with|nil=>intros;rfl|cons p ps ih=>intro cells l;simp[X.assembleX,tO];rw[ih,Pi,ym,Bz]
theorem NK(sz:Nat):∀(n:Nat)(l:List (XV den)),(X.chunksX sz n l).map erL=qG sz n (erL l):=by intro n;induction n with|zero=>intros;rfl|succ n ih=>intro l;simp only[X.chunksX,oPC,qG];rw[ih,ym,Bz]
theorem BC(z:w_):erL (z.map (X.cellX f6))=z.map iY:=by rw[lr,oPM];exact List.map_congr_left λy _=>BD y
theorem zw{z:w_}(h:(z.map (X.cellX f6)).all X.okCellX=true):(z.map iY).all iB=true:=by rw[<- BC,lr,List.all_map];rw[oAE]at h⊢;intro x hx;exact M6 (h x hx)
end
section
variable {α β γ δ Y:Type}
theorem Fi(v:Value):Kk (pure v)=some v:=rfl
theorem V8{k:IntKind}{a b:Int}{op:BinOp}(h:op=.add\/op=.sub\/op=.mul\/op=.and\/op=.or\/op=.xor\/op=.andNot):jd op (.int k a) (.int k b)=some (.int k (arR op k a b)):=by rcases h with rfl|rfl|rfl|rfl|rfl|rfl|rfl<;>simp[jd,Go.binOp,Op.intArith,Op.intBits,arR,Fi]
theorem V7{k:IntKind}{a b:Int}{op:BinOp}(h:op=.eql\/op=.neq\/op=.lss\/op=.leq\/op=.gtr\/op=.geq):jd op (.int k a) (.int k b)=some (.bool (cmR op a b)):=by rcases h with rfl|rfl|rfl|rfl|rfl|rfl<;>simp[jd,Go.binOp,Op.intCmp,cmR,Fi]
theorem V6{k:IntKind}{a b:Int}{op:BinOp}(h:op=.quo\/op=.rem)(hb:b≠0):jd op (.int k a) (.int k b)=some (.int k (arR op k a b)):=by rcases h with rfl|rfl<;>simp[jd,Go.binOp,Op.intDiv,arR,Fi,hb]
theorem Te{k k':IntKind}{a:Int}{n:Nat}{op:BinOp}(h:op=.shl\/op=.shr):jd op (.int k a) (.int k' n)=some (.int k (shR op k a n)):=by rcases h with rfl|rfl<;>simp[jd,Go.binOp,Op.shift,shR,Fi,show ¬((n:Int)<0) by omega]
theorem Td{a b:ByteArray}:jd .eql (.string a) (.string b)=some (.bool (WI a b))/\jd .neq (.string a) (.string b)=some (.bool (!(WI a b))):=⟨rfl,rfl⟩
theorem UD{a b:ByteArray}(h:S9 a b=true):jd .add (.string a) (.string b)=some (.string (V3 a b)):=by
 have h:=of_decide_eq_true h;have e:¬(((a.size+b.size:Nat):Int)>IntKind.i64.max):=by show ¬(((a.size+b.size:Nat):Int)>9223372036854775807);omega
 show Kk (if((a.size+b.size:Nat):Int)>IntKind.i64.max then _ else _)=_;rw[oIN e];rfl
theorem zS(d:Nat){op:BinOp}{x y r:Value}{t:XV den}(h:jd op x y=some r)(hf:kJ r=true)(e:er t=.v r):Sim (Y:=Y) (X.wr f6 d t) ((qU (jd op x y)).bind λr=>if kJ r then wr d (.v r)else .fail) id:=by rw[h];show Sim _ (if kJ r then wr d (.v r)else .fail) id;rw[oIP hf];exact gR d e
theorem Va(d:Nat)(op:BinOp)(a b:XV den):Sim (Y:=Y) (X.binX f6 d op a b) ((zd (er a)).bind λa=>(zd (er b)).bind λb=>(qU (jd op a b)).bind λr=>if kJ r then wr d (.v r)else .fail) id:=by
 cases a with
 |d t x=>cases t with
  |int k=>cases b with
   |d u y=>cases u with
    |int k'=>
    have ar:(op=.add\/op=.sub\/op=.mul\/op=.and\/op=.or\/op=.xor\/op=.andNot)->Sim (Y:=Y) (if h:k'=k then X.wr f6 d (.d (.int k) (f6.ar op k x (h▸y)))else X.fail f6) ((qU (jd op (.int k x) (.int k' y))).bind λr=>if kJ r then wr d (.v r)else .fail) id:=by intro hop;by_cases h:k'=k;subst h;rw[dif_pos rfl];exact zS d (V8 hop) rfl rfl;rw[dif_neg h];exact .fail
    have cm:(op=.eql\/op=.neq\/op=.lss\/op=.leq\/op=.gtr\/op=.geq)->Sim (Y:=Y) (if h:k'=k then X.wr f6 d (.d .bool (f6.cm op k x (h▸y)))else X.fail f6) ((qU (jd op (.int k x) (.int k' y))).bind λr=>if kJ r then wr d (.v r)else .fail) id:=by intro hop;by_cases h:k'=k;subst h;rw[dif_pos rfl];exact zS d (V7 hop) rfl rfl;rw[dif_neg h];exact .fail
    have dv:(op=.quo\/op=.rem)->Sim (Y:=Y) (if h:k'=k then X.brM f6 (f6.cm .neq k' y (f6.lit k' 0)) (X.wr f6 d (.d (.int k) (f6.ar op k x (h▸y))))else X.fail f6) ((qU (jd op (.int k x) (.int k' y))).bind λr=>if kJ r then wr d (.v r)else .fail) id:=by intro hop;by_cases h:k'=k;subst h;rw[dif_pos rfl];refine Sim.br λhb=>zS d (V6 hop ?_) rfl rfl;have hb:((y:Int) != 0)=true:=hb;simp_all;rw[dif_neg h];exact .fail
    cases op with|add=>exact ar (by simp)|sub=>exact ar (by simp)|mul=>exact ar (by simp)|and=>exact ar (by simp)|or=>exact ar (by simp)|xor=>exact ar (by simp)|andNot=>exact ar (by simp)|eql=>exact cm (by simp)|neq=>exact cm (by simp)|lss=>exact cm (by simp)|leq=>exact cm (by simp)|gtr=>exact cm (by simp)|geq=>exact cm (by simp)|quo=>exact dv (by simp)|rem=>exact dv (by simp)|shl=>refine Sim.nat λn hn=>?_;have hn:y=(n:Int):=hn;subst hn;exact zS d (Te (.inl rfl)) rfl rfl|shr=>refine Sim.nat λn hn=>?_;have hn:y=(n:Int):=hn;subst hn;exact zS d (Te (.inr rfl)) rfl rfl
    |_=>exact .fail
   |_=>exact .fail
  |str=>cases b with
   |d u y=>cases u with
    |str=>cases op with|eql=>exact zS d Td.1 rfl rfl|neq=>exact zS d Td.2 rfl rfl|add=>exact Sim.br λh=>zS d (UD h) rfl rfl|_=>exact .fail
    |_=>exact .fail
   |_=>exact .fail
  |_=>exact .fail
 |_=>exact .fail
theorem Sn:∀{ks:S_}{xs ys:List (XV den)}{c:Bool},X.eqAll f6 ks xs ys=some c->∃vs ws,gO (erL xs)=some vs/\gO (erL ys)=some ws/\g8 ks vs ws=some c:=by
 intro ks;induction ks with
 |nil=>
 intro xs ys c h;cases xs with
  |nil=>cases ys with|nil=>simp only[X.eqAll,oSJ]at h;subst h;exact⟨[],[],rfl,rfl,rfl⟩|cons=>simp[X.eqAll]at h
  |cons=>simp[X.eqAll]at h
 |cons f ks ih=>
 intro xs ys c h;cases xs with
 |nil=>cases f<;>simp[X.eqAll]at h|cons x xs=>cases ys with
  |nil=>cases f<;>simp[X.eqAll]at h|cons y ys=>
  cases x with
  |d t a=>cases y with
   |d u b=>
   cases f with
    |i=>cases t with
     |int k=>cases u with|int k'=>simp only[X.eqAll]at h;split at h;rename_i hk;subst hk;obtain⟨c',h1,rfl⟩:=kU h;obtain⟨vs,ws,e1,e2,e3⟩:=ih h1;refine⟨.int k' a::vs,.int k' b::ws,by simp only[erL,er,er1,gO,e1,oMS],by simp only[erL,er,er1,gO,e2,oMS],?_⟩;simp only[g8,if_true,e3,oMS];rfl;simp at h|_=>simp[X.eqAll]at h
     |_=>simp[X.eqAll]at h
    |b=>cases t with
     |bool=>cases u with|bool=>simp only[X.eqAll]at h;obtain⟨c',h1,rfl⟩:=kU h;obtain⟨vs,ws,e1,e2,e3⟩:=ih h1;refine⟨.bool a::vs,.bool b::ws,by simp only[erL,er,er1,gO,e1,oMS],by simp only[erL,er,er1,gO,e2,oMS],?_⟩;simp only[g8,e3,oMS];rfl|_=>simp[X.eqAll]at h
     |_=>simp[X.eqAll]at h
    |s=>cases t with
     |str=>cases u with|str=>simp only[X.eqAll]at h;obtain⟨c',h1,rfl⟩:=kU h;obtain⟨vs,ws,e1,e2,e3⟩:=ih h1;refine⟨.string a::vs,.string b::ws,by simp only[erL,er,er1,gO,e1,oMS],by simp only[erL,er,er1,gO,e2,oMS],?_⟩;simp only[g8,e3,oMS];rfl|_=>simp[X.eqAll]at h
     |_=>simp[X.eqAll]at h
   |_=>cases f<;>simp[X.eqAll]at h
  |_=>cases f<;>simp[X.eqAll]at h
theorem Q8{f:Opd->XM den Option Y (XV den)}{g:Opd->SP β}{e:XV den->β}(h:∀x,Sim (f x) (g x) e):∀l:O_,Sim (X.mapM' f l) (VA g l) (List.map e):=by intro l;induction l with|nil=>exact .ret rfl|cons x l ih=>exact(h x).bind λy=>ih.bind λl'=>.ret rfl
def Wm(x:XV den):Value:=match x with|.d (.int k) n=>.int k n|_=>undef
theorem Ou(t:XV den):Sim (Y:=Y) (X.intOf f6 t) (zd (er t)) Wm:=by
 cases t with
 |d t x=>cases t with|int k=>exact .ret rfl|_=>exact .fail
 |_=>exact .fail
theorem RL{mx:Bool}{k:IntKind}:∀{r:List (XV den)}{a m:Int},X.mmAll f6 mx k a r=some m->Aq mx k a (r.map Wm)=some m:=by
 intro r;induction r with
 |nil=>intro a m h;exact h|cons x r ih=>
 intro a m h;cases x with
 |d t b=>cases t with|int k'=>simp only[X.mmAll]at h;split at h;rename_i hk;subst hk;have:=ih h;simp[Wm,Aq];exact this;simp at h|_=>simp[X.mmAll]at h
 |_=>simp[X.mmAll]at h
theorem RX:∀{t:CT}{l r:List (XV den)}{x:den t},X.joinX f6 t l=some (x,r)->erL l=enc t x++erL r:=by
 have one:∀{u:CT}(hu:X.oneT u=true){l r:List (XV den)}{x:den u},X.joinC f6 u l=some (x,r)->erL l=enc u x++erL r:=by
  intro u hu l r x h;unfold X.joinC at h;split at h;rename_i t y r';have ⟨z,h1,h2⟩:=kU h;injection h2 with h2 h3
  subst h2;subst h3;rw[uV hu,Mm h1];rfl;simp at h
 intro t;induction t with
 |pair a b ZI ZF=>
 intro l r x h;simp[X.joinX]at h;split at h;rename_i x1 r1 h1;split at h;rename_i y1 r2 h2;injection h with h
 injection h with h h3
 subst h;subst h3;rw[ZI h1,ZF h2,<- List.append_assoc];rfl;simp at h;simp at h
 |nat=>intro l r x h;simp[X.joinX]at h|int k=>intro l r x h;exact one rfl h|bool=>intro l r x h;exact one rfl h|str=>intro l r x h;exact one rfl h|row o t=>intro l r x h;exact one rfl h|nilr o=>intro l r x h;exact one rfl h
theorem EH{t:CT}{l:List (XV den)}{x:den t}(h:X.joinOne f6 t l=some x):erL l=enc t x:=by
 unfold X.joinOne at h;split at h;rename_i y h1;injection h with h
 subst h;rw[RX h1];simp[erL];simp at h
theorem Nn{t:CT}:∀{ls:List (List (XV den))}{xs:List (den t)},X.joinAll f6 t ls=some xs->ls.map erL=xs.map (enc t):=by
 intro ls;induction ls with
 |nil=>intro xs h;simp[X.joinAll]at h;subst h;rfl|cons l ls ih=>
 intro xs h;simp[X.joinAll]at h;split at h;rename_i x xs' h1 h2;injection h with h
 subst h;simp only[oPC];rw[EH h1,ih h2];simp at h
theorem Rk{Zu:Option CT}{ls:List (List (XV den))}{v:XV den}(h:X.rowOf f6 Zu ls=some v):er v=.ow (ls.map erL):=by
 unfold X.rowOf at h;split at h;injection h with h;subst h;rfl
 split at h;obtain⟨es,h1,rfl⟩:=kU h;rw[Nn h1];rfl;simp at h
theorem Rn{Zu:Option CT}{n:Nat}{l:List (XV den)}{v:XV den}(h:X.repOf f6 Zu n l=some v):er v=.ow (List.replicate n (erL l)):=by unfold X.repOf at h;split at h;obtain⟨e,h1,rfl⟩:=kU h;rw[EH h1];show TV.ow (List.map _ (List.replicate n e))=_;simp_all;simp at h
theorem xC(t:CT)(xs:List (den t)):(List.map (enc t) xs).all (λe=>e.length==kg t)=true:=by simp[iu]
theorem SA{sz bytes:Nat}{c c2:o_}(h1:c.all (λe=>e.length==sz)=true)(h2:c2.all (λe=>e.length==sz)=true)(h:gr bytes c.length c2.length=true):((c++c2).all (λe=>e.length==sz)&&decide (c.length+c2.length<=1099511627776)&&decide ((c.length+c2.length)*bytes<=140737488355328))=true:=by rw[List.all_append,h1,h2];simpa[gr]using h
theorem SV(d sz bytes:Nat)(Zu:Option CT)(s x:XV den):Sim (Y:=Y) (X.appX f6 d sz bytes Zu s x) (match er s,er x with
 |.ow c,.ow c2=>if(c++c2).all (λe=>e.length==sz)&&decide (c.length+c2.length<=1099511627776)&&decide ((c.length+c2.length)*bytes<=140737488355328)then inst d false [.ow (c++c2)]else .fail
 |.ow c,.sl c2=>if(c++c2).all (λe=>e.length==sz)&&decide (c.length+c2.length<=1099511627776)&&decide ((c.length+c2.length)*bytes<=140737488355328)then inst d false [.ow (c++c2)]else .fail
 |_,_=>.fail) id:=by
 have key:∀{t:CT}{c c3:List (den t)}{c' c2':o_}{a:XV den},kg t=sz\/(c'=[]/\c2'=[])->c'=c.map (enc t)->c2'=c3.map (enc t)->er a=.ow (c'++c2')->gr bytes c'.length c2'.length=true ->
  Sim (Y:=Y) (X.inst f6 d false [a]) (if(c'++c2').all (λe=>e.length==sz)&&decide (c'.length+c2'.length<=1099511627776)&&decide ((c'.length+c2'.length)*bytes<=140737488355328)then inst d false [.ow (c'++c2')]else .fail) id:=by
  intro t c c3 c' c2' a hsz e1 e2 ea hok;rw[oIP]
  ·exact pR d false (by simp only[erL,ea])
  ·refine SA ?_ ?_ hok
   ·rcases hsz with hsz|⟨h1,h2⟩
    ·rw[e1,<- hsz];exact xC t c
    ·rw[h1];rfl
   ·rcases hsz with hsz|⟨h1,h2⟩
    ·rw[e2,<- hsz];exact xC t c3
    ·rw[h2];rfl
 cases s with
 |d ts c=>cases ts with
  |row ow t=>cases ow with
   |false=>exact .fail
   |true=>cases x with
    |d tx c2=>cases tx with
     |row o t2=>
      refine Sim.ite (λhsz=>Sim.opt λc3 h3=>Sim.br λhok=>?_) λ_=>.fail;have h4:=Lj h3;have hok:gr bytes (List.length c) (List.length c2)=true:=hok
      have h5:List.map (enc t2) (c2:List (den t2))=List.map (enc t) (c3:List (den t)):=by
       cases o with
       |true=>
        have h6:=h4
        injection h6 with h6
        injection h6 with h6
        exact h6.symm
       |false=>
        have h6:=h4
        injection h6 with h6
        injection h6 with h6
        exact h6.symm
      cases o<;>exact key (t:=t) (c:=c) (c3:=c3) (.inl hsz) rfl h5 (by show TV.ow (List.map (enc t) (List.append c c3))=_;rw[h5,<- List.map_append];rfl) (by simpa using hok)
     |nilr o=>
      refine Sim.ite (λhsz=>Sim.br λhok=>?_) λ_=>.fail;have hok:gr bytes (List.length c) 0=true:=hok;cases o<;>exact key (t:=t) (c:=c) (c3:=[]) (.inl hsz) rfl rfl (by simp[er,er1]) (by simpa using hok)
     |_=>exact .fail
    |_=>exact .fail
  |nilr ow=>cases ow with
   |false=>exact .fail
   |true=>cases x with
    |d tx c2=>cases tx with
     |row o t2=>
      refine Sim.ite (λhsz=>Sim.opt λc3 h3=>Sim.br λhok=>?_) λ_=>.fail;have h4:=Lj h3;have hok:gr bytes 0 (List.length c2)=true:=hok
      have h5:List.map (enc t2) (c2:List (den t2))=List.map (enc (X.resT Zu t2)) (c3:List (den (X.resT Zu t2))):=by
       cases o with
       |true=>
        have h6:=h4
        injection h6 with h6
        injection h6 with h6
        exact h6.symm
       |false=>
        have h6:=h4
        injection h6 with h6
        injection h6 with h6
        exact h6.symm
      cases o<;>exact key (t:=t2) (c:=[]) (c3:=c2) (.inl hsz) rfl rfl (by show TV.ow (List.map (enc (X.resT Zu t2)) (List.append [] c3))=_;rw[h5];rfl) (by simpa using hok)
     |nilr o=>
      refine Sim.br λhok=>?_;cases o<;>exact key (t:=.bool) (c:=[]) (c3:=[]) (.inr ⟨rfl,rfl⟩) rfl rfl rfl hok
     |_=>exact .fail
    |_=>exact .fail
  |_=>exact .fail
 |_=>exact .fail
end
section
variable {α β γ δ Y:Type}
theorem Bq{x:Opd}{σ:XS den}{k:XV den->XS den->Option Y}{y:Y}(h:X.opd f6 x σ k=some y):∃t σ',(opd x).run (erS σ)=some (er t,erS σ)/\erS σ'=erS σ/\sC σ σ' ((opd x).foot (erS σ))/\k t σ'=some y:=by
 have ⟨t,σ',h1,h2,h3⟩:=BT x σ k y h;have e:erS σ'=erS σ:=by cases x with|t i=>simp[opd,SP.run]at h1;exact h1.2.symm|c v=>simp[opd,SP.run]at h1;exact h1.2.symm|f f=>simp[opd,SP.run]at h1;exact h1.2.symm
 rw[e]at h1;exact⟨t,σ',h1,e,h2,h3⟩
theorem By{t:CT}(h:X.flat1 t=true):∀x:den t,∃v,er (.d t x)=.v v:=by
 cases t<;>simp[X.flat1]at h
 all_goals exact λx=>⟨_,rfl⟩
theorem Rw{d:Nat}{tc ta tb:XV den}{σ:XS den}{k:Unit->XS den->Option Y}{y:Y}(h:X.pickX f6 d tc ta tb σ k=some y):∃c v t,er tc=.v (.bool c)/\er (if c then ta else tb)=.v v/\er t=.v v/\X.wr f6 d t σ k=some y:=by
 unfold X.pickX at h;split at h;rename_i c k1 x k2 z;split at h;rename_i hk;subst hk;refine⟨c,.int k2 (bif c then x else z),_,rfl,?_,rfl,h⟩;cases c<;>rfl
 cases h;rename_i c x z;refine⟨c,.bool (bif c then x else z),_,rfl,?_,rfl,h⟩;cases c<;>rfl
 rename_i c x z;refine⟨c,.string (bif c then x else z),_,rfl,?_,rfl,h⟩;cases c<;>rfl
 split at h
 ·rename_i hf
  rename den .bool=>c
  cases c with
  |true=>exact⟨true,_,_,rfl,(By hf _).choose_spec,(By hf _).choose_spec,h⟩
  |false=>cases h
 cases h;split at h
 ·rename_i hf
  rename den .bool=>c
  cases c with
  |false=>exact⟨false,_,_,rfl,(By hf _).choose_spec,(By hf _).choose_spec,h⟩
  |true=>cases h
 cases h;cases h
theorem Tk(HT:List (Nat×CT))(d:Nat)(c a b:Opd):Sim (Y:=Y) (X.ev1 f6 HT d (.pick c a b)) (ev1 d (.pick c a b)) id:=by
 intro σ k y hk;obtain⟨tc,σ1,r1,e1,n1,hk⟩:=Bq (show X.opd f6 c σ (λtc σ1=>X.opd f6 a σ1 λta σ2=>X.opd f6 b σ2 λtb σ3=>X.pickX f6 d tc ta tb σ3 k)=some y from hk);obtain⟨ta,σ2,r2,e2,n2,hk⟩:=Bq hk;obtain⟨tb,σ3,r3,e3,n3,hk⟩:=Bq hk;obtain⟨cv,v,t,h1,h2,h3,hk⟩:=Rw hk;obtain⟨u,σ',r4,n4,hk⟩:=gR d h3 σ3 k y hk;have e13:erS σ3=erS σ:=by rw[e3,e2,e1]
 have hx:(opd (if cv then a else b)).run (erS σ)=some (.v v,erS σ)/\sC σ1 σ3 ((opd (if cv then a else b)).foot (erS σ)):=by rw[e1]at r2 n2;rw[e2,e1]at r3 n3;cases cv with|true=>exact⟨by simp_all,⟨λx hx=>n3.r0 x (n2.r x hx),λx hx=>n3.w0 x (n2.w x hx),λx hx=>n3.r0 x (n2.r0 x hx),λx hx=>n3.w0 x (n2.w0 x hx)⟩⟩|false=>exact⟨by simp_all,⟨λx hx=>n3.r x hx,λx hx=>n3.w x hx,λx hx=>n3.r0 x (n2.r0 x hx),λx hx=>n3.w0 x (n2.w0 x hx)⟩⟩
 obtain⟨Z2,YB⟩:=hx;have rc:(opd c).run (erS σ)=some (.v (.bool cv),erS σ):=by rw[r1,h1]
 refine⟨(),σ',?_,?_,hk⟩;simp only[ev1];rw[SP.run_bind,rc];simp;rw[SP.run_bind,Z2];simp_all;simp only[ev1];rw[gH _ _ rc];simp only;rw[gH _ _ Z2];rw[e13]at n4;refine⟨λx hx=>?_,λx hx=>?_,λx hx=>n4.r0 x (YB.r0 x (n1.r0 x hx)),λx hx=>n4.w0 x (YB.w0 x (n1.w0 x hx))⟩;rcases oMA.1 hx with hx|hx;exact n4.r0 x (YB.r0 x (n1.r x hx));rcases oMA.1 hx with hx|hx;exact n4.r0 x (YB.r x hx);exact n4.r x hx;rcases oMA.1 hx with hx|hx;exact n4.w0 x (YB.w0 x (n1.w x hx));rcases oMA.1 hx with hx|hx;exact n4.w0 x (YB.w x hx);exact n4.w x hx
theorem PB{n:x_}{cs:List (XV den)}{t:XV den}(h:X.loadIp n cs=some t):loadIp n (erL cs)=some (er t):=by
 cases n with
 |none=>
 cases cs with
  |nil=>simp[X.loadIp]at h|cons x cs=>
  have key:(if X.okCellX x && !X.isOwX x then some x else none)=some t->loadIp none (erL (x::cs))=some (er t):=λh=>by
   split at h;rename_i hc;injection h with h
   subst h;simp at hc;rcases uG hc.1 hc.2 with⟨y,hy⟩|⟨c,hc⟩;simp only[loadIp,erL,hy];simp only[loadIp,erL,hc];simp at h
  cases x with|ip l=>simp only[X.loadIp,oSJ]at h;subst h;rfl|fn f l=>simp only[X.loadIp,oSJ]at h;subst h;rfl|_=>exact key h
 |some n=>
 simp only[X.loadIp]at h;split at h;rename_i hc;injection h with h
 subst h;simp only[oBA,oDE]at hc;simp only[loadIp];rw[oIP];simp only[er,ym];simp only[oBA,oDE];refine⟨by rw[iV];exact hc.1,?_⟩;rw[<- ym,lr,List.all_map,oAE];intro x hx;have:=oAE.1 hc.2 x hx;simp at this;simp;rcases uG this.1 this.2 with⟨y,hy⟩|⟨c,hc⟩;rw[hy];rw[hc];simp at h
theorem CN:∀{t:CT}(x:den t),X.flatT t=true->∃vs,gO (enc t x)=some vs/\vs.length=kg t/\(vs.all kJ=true)/\enc t x=vs.map TV.v/\0<kg t:=by
 intro t;induction t with
 |int k=>intro x _;exact⟨[.int k x],rfl,rfl,rfl,rfl,Nat.one_pos⟩|bool=>intro x _;exact⟨[.bool x],rfl,rfl,rfl,rfl,by decide⟩|str=>intro x _;exact⟨[.string x],rfl,rfl,rfl,rfl,by decide⟩|pair a b ZI ZF=>
 intro x h;simp only[X.flatT,oBA]at h;obtain⟨vs,e1,e2,e3,e4,e5⟩:=ZI x.1 h.1;obtain⟨ws,f1,f2,f3,f4,f5⟩:=ZF x.2 h.2;refine⟨vs++ws,?_,by simp[e2,f2,kg],by simp_all,by show enc a x.1++enc b x.2=_;rw[e4,f4];simp,by simp[kg];omega⟩;show gO (enc a x.1++enc b x.2)=_;rw[e4,f4];have:∀l:w_,gO (l.map TV.v)=some l:=by intro l;induction l with|nil=>rfl|cons y l ih=>simp[gO,ih]
 rw[<- List.map_append,this]
 |_=>intro x h;simp[X.flatT]at h
theorem Pn(sz:Nat)(h0:0<sz):∀(vs:w_)(c:o_)(lo j:Nat)(rest:w_),j+vs.length=sz->(∀el,c[lo]?=some el->el.length=sz)->si sz c (lo*sz+j) (vs++rest)=si sz (c.modify lo λel=>el.take j++vs.map TV.v) ((lo+1)*sz) rest:=by
 intro vs;induction vs with
 |nil=>
 intro c lo j rest hj YW;have hj:j=sz:=by simpa using hj
 subst hj;simp;have e:(c.modify lo λel=>el.take j)=c:=by
  apply oEG;intro i;rw[oGM];by_cases h:lo=i;subst h;cases hc:c[lo]? with|none=>rfl|some el=>simp only[if_true];show some (el.take j)=some el;rw[List.take_of_length_le (by rw[YW el hc];exact oLE _)]
  simp only[oIN h];cases c[i]?<;>rfl
 rw[e,Nat.succ_mul]
 |cons v vs ih=>
 intro c lo j rest hj YW;simp only[oLC]at hj;have hjs:j<sz:=by omega
 show si sz (c.modify ((lo*sz+j)/sz) λel=>el.modify ((lo*sz+j)%sz) λ_=>.v v) (lo*sz+j+1) (vs++rest)=_;have e1:(lo*sz+j)/sz=lo:=by rw[Nat.mul_comm,Nat.mul_add_div h0,Nat.div_eq_of_lt hjs];rfl
 have e2:(lo*sz+j)%sz=j:=by rw[Nat.mul_comm,Nat.mul_add_mod,Nat.mod_eq_of_lt hjs]
 rw[e1,e2,show lo*sz+j+1=lo*sz+(j+1) by omega];have hel':∀el,(c.modify lo λel=>el.modify j λ_=>.v v)[lo]?=some el->el.length=sz:=by simp_all
 rw[ih _ lo (j+1) rest (by omega) hel'];congr 1;apply oEG;intro i;simp only[oGM];by_cases h:lo=i;subst h;simp only[if_true];cases hc:c[lo]? with
 |none=>rfl|some el=>
  simp only[Option.map_eq_map,oMS,oSJ];have hl:=YW el hc;apply oEG;intro m;simp only[oPC];by_cases hm:m<j;rw[oAL (by rw[oLT,oLM];omega),oAL (by rw[oLT];omega),List.getElem?_take,List.getElem?_take,oIP (by omega),oIP (by omega),oGM];have:¬j=m:=by omega
  simp only[this,if_false];simp;by_cases hm2:m=j;subst hm2;rw[oAL (by rw[oLT,oLM];omega),oAR (by rw[oLT];omega),List.getElem?_take,oIP (by omega),oGM,oLT];have:m-min m el.length=0:=by omega
  rw[this];have h3:m<el.length:=by omega
  rw[oGE h3];simp;rw[oAR (by rw[oLT,oLM];omega),oAR (by rw[oLT];omega),oLT,oLT,oLM];have:m-min j el.length=(m-min (j+1) el.length)+1:=by omega
  rw[this,List.getElem?_cons_succ]
 simp only[oIN h];cases c[i]?<;>rfl
theorem M1{t:CT}(hf:X.flatT t=true):∀(ys xs:List (den t))(lo:Nat)(vals:w_),gO ((ys.map (enc t)).flatten)=some vals->lo+ys.length<=xs.length->si (kg t) (xs.map (enc t)) (lo*kg t) vals=(xs.take lo++ys++xs.drop (lo+ys.length)).map (enc t):=by
 intro ys;induction ys with
 |nil=>intro xs lo vals h hl;simp only[List.map_nil,List.flatten_nil,gO,oSJ]at h;subst h;simp[si]|cons y ys ih=>
 intro xs lo vals h hl;simp only[oLC]at hl;obtain⟨vs,e1,e2,e3,e4,e5⟩:=CN y hf;obtain⟨ws,h2,rfl⟩:∃ws,gO ((ys.map (enc t)).flatten)=some ws/\vals=vs++ws:=by
  simp only[oPC,List.flatten_cons,e4]at h;have:∀(l:w_)(r:U_),gO (l.map TV.v++r)=(gO r).map (l++·):=by intro l r;induction l with|nil=>simp|cons z l ih=>simp only[oPC,List.cons_append,gO,ih];cases gO r<;>rfl
  rw[this]at h;obtain⟨ws,h3,h4⟩:=kU h;simp_all
 have:=Pn (kg t) e5 vs (xs.map (enc t)) lo 0 ws (by omega) (λel YW=>by rw[oGP]at YW;cases hx:xs[lo]? with|none=>rw[hx]at YW;simp at YW|some z=>rw[hx]at YW;simp only[oMS,oSJ]at YW;rw[<- YW,iu]);rw[Nat.add_zero]at this;rw[this];have e6:((xs.map (enc t)).modify lo λel=>el.take 0++vs.map TV.v)=(xs.set lo y).map (enc t):=by
  apply oEG;intro i;by_cases hi:lo=i;subst hi;have hlt:lo<xs.length:=by omega
  simp[hlt,e4];simp[hi]
 rw[e6,ih (xs.set lo y) (lo+1) ws h2 (by rw[oLS];omega)];congr 1;rw[List.take_set,List.drop_set,oIP (by omega)];have:(xs.take (lo+1)).set lo y=xs.take lo++[y]:=by
  rw[List.take_succ_eq_append_getElem (by omega:lo<xs.length),List.set_append_right _ _ (by rw[oLT];omega)];congr 1;have:lo-(xs.take lo).length=0:=by rw[oLT];omega
  rw[this];rfl
 rw[this];simp;rw[show lo+1+ys.length=lo+(ys.length+1) by omega]
end
section
variable {α β γ δ Y:Type}
theorem BG{c:Bool}{m m':XM den Option Y α}{s:SP β}{f:α->β}(h:c=true->Sim m s f)(h':c=false->Sim m' s f):Sim (X.forkM f6 c m m') s f:=by intro σ k y hk;cases c with|true=>exact h rfl σ k y hk|false=>exact h' rfl σ k y hk
def NG(v:XV den):o_:=match er v with|.sl c=>c|.ow c=>c|_=>[]
theorem Eo(t:XV den):Sim (Y:=Y) (X.contentOf f6 t) (contentOf (er t)) NG:=by
 cases t with
 |d t x=>cases t with
  |row o t=>cases o with|false=>exact .ret rfl|true=>exact .fail
  |nilr o=>cases o<;>exact .ret rfl|_=>exact .fail
 |pk p vs=>
 refine(i5 p _ vs).bind λ_=>(lW p).bind λt=>?_;cases t with
  |d t x=>cases t with
   |row o t=>cases o with|true=>exact .ret rfl|false=>exact .fail
   |nilr o=>cases o with|true=>exact .ret rfl|false=>exact .fail
   |_=>exact .fail
  |_=>exact .fail
 |pw p vs sz lo n=>
 refine(i5 p _ vs).bind λ_=>(lW p).bind λt=>?_;cases t with
  |d t x=>cases t with
   |row o t=>cases o with|true=>refine .ret ?_;show List.map (enc t) ((List.drop lo x).take n)=((List.map (enc t) x).drop lo).take n;simp_all|false=>exact .fail
   |_=>exact .fail
  |_=>exact .fail
 |_=>exact .fail
theorem OQ{t:CT}(hf:X.flatT t=true):∀zs:List (den t),∃vals,gO ((zs.map (enc t)).flatten)=some vals/\vals.all kJ=true/\(zs≠[]->∃v vs,vals=v::vs)/\(zs=[]->vals=[]):=by
 intro zs;induction zs with
 |nil=>exact⟨[],rfl,rfl,λh=>absurd rfl h,λ_=>rfl⟩|cons z zs ih=>
 obtain⟨ws,h1,h2,_⟩:=ih;obtain⟨vs,e1,e2,e3,e4,e5⟩:=CN z hf;have:∀(l:w_)(r:U_),gO (l.map TV.v++r)=(gO r).map (l++·):=by intro l r;induction l with|nil=>simp|cons z l ih=>simp[oPC,gO,ih];cases gO r<;>rfl
 refine⟨vs++ws,?_,by simp_all,λ_=>?_,λh=>by simp at h⟩;simp_all;cases vs with|nil=>simp_all|cons v vs=>simp_all
theorem PN{t:CT}(hf:X.flatT t=true)(x:den t):(enc t x).all isV=true:=by have ⟨vs,_,_,_,e4,_⟩:=CN x hf;rw[e4,List.all_map,oAE];intro y _;rfl
theorem Qe{t:CT}(hf:X.flatT t=true)(xs ys:List (den t))(lo n:Nat)(hle:lo+min ys.length n<=xs.length):Sq (kg t) (xs.map (enc t)) (ys.map (enc t)) lo n=if 0<min ys.length n then some (min ys.length n,some ((qv xs lo (min ys.length n) ys).map (enc t)))else some (min ys.length n,none):=by
 obtain⟨vals,h1,h2,h3,h4⟩:=OQ hf (ys.take (min ys.length n));have e5:0<kg t:=by clear h1 h2 h3 h4 hle;induction t with|pair a b ZI ZF=>simp only[X.flatT,oBA]at hf;simp only[kg];have:=ZI hf.1 [] [];omega|int k=>exact Nat.one_pos|bool=>exact Nat.one_pos|str=>exact Nat.one_pos|_=>simp[X.flatT]at hf
 unfold Sq;rw[oLP,<- List.map_take,h1];by_cases hm:0<min ys.length n;rw[oIP hm];obtain⟨v,vs,hv⟩:=h3 (by intro h;have:=congrArg List.length h;rw[oLT,oLN]at this;omega);rw[hv];simp only;rw[oIP,<- hv];have hp:=M1 hf (ys.take (min ys.length n)) xs lo vals h1 (by rw[oLT];omega);rw[hp];have e:(List.take (min ys.length n) ys).length=min ys.length n:=by rw[oLT];omega
 rw[e];rfl;simp only[oBA,oDE];refine⟨⟨⟨⟨⟨e5,xC t xs⟩,xC t ys⟩,by rw[oLP];exact hle⟩,?_⟩,by rw[<- hv];exact h2⟩;rw[<- List.map_drop,<- List.map_take,List.all_map,oAE];intro x _;exact PN hf x;rw[oIN hm];have:ys.take (min ys.length n)=[]:=by simp_all
 rw[h4 this];rw[oIP];simp only[oBA,oDE];exact⟨e5,xC t ys⟩
theorem SU(d sz:Nat)(p:XP den)(lo:Nat)(n:x_)(tv c2:XV den):Sim (Y:=Y) (X.cpyX f6 d sz p lo n tv c2) (match gJ (er tv) p.hops with|some (.ow c)=>G9 d (erP p) (er tv) (Sq sz c (NG c2) lo (n.getD c.length))|_=>.fail) id:=by
 refine Bm λv hv=>?_;rw[hv];cases v with
 |d tt x=>cases tt with
  |row o t=>cases o with
   |false=>exact .fail|true=>cases c2 with
    |d t2 y=>cases t2 with
     |row o2 t2=>
     by_cases hc:tz t2 t=true/\kg t=sz/\X.flatT t=true;have he:=rH hc.1;subst he;show Sim (if h:tz t2 t2=true/\kg t2=sz/\X.flatT t2=true then _ else _) _ id;rw[dif_pos hc];refine Sim.opt λYi htv=>Sim.br λhok=>?_;have hok:iX lo (lo+min (List.length (y:List (den t2))) (n.getD (List.length (x:List (den t2))))) (List.length (x:List (den t2)))=true:=by have h9:=hok;cases n<;>exact h9
     have hle:lo+min (List.length (y:List (den t2))) (n.getD (List.length (x:List (den t2))))<=List.length (x:List (den t2)):=by simp only[iX,oBA,oDE]at hok;exact hok.2
     have hct:NG (.d (.row o2 t2) y:XV den)=List.map (enc t2) (y:List (den t2)):=by cases o2<;>rfl
     have hrow:er (.d (.row true t2) x:XV den)=.ow (List.map (enc t2) (x:List (den t2))):=rfl;rw[hrow,hct];simp only[oLP];rw[<- hc.2.1,Qe hc.2.2 x y lo _ hle];have hset:=TR htv;refine BG (λhb=>?_) λhb=>?_;have hb:Nat.blt 0 (min (List.length (y:List (den t2))) (n.getD (List.length (x:List (den t2)))))=true:=by cases n<;>exact hb
     rw[oIP (by simp_all)];refine Sim.wrC ?_ (gR d ?_);rw[hset];cases n<;>rfl
     cases n<;>rfl
     have hb:Nat.blt 0 (min (List.length (y:List (den t2))) (n.getD (List.length (x:List (den t2)))))=false:=by cases n<;>exact hb
     rw[oIN (by intro h;rw[Bool.eq_false_iff]at hb;exact hb (by simpa using h))];refine gR d ?_;cases n<;>rfl
     show Sim (if h:tz t2 t=true/\kg t=sz/\X.flatT t=true then _ else _) _ id;rw[dif_neg hc];exact .fail
     |nilr o2=>
     refine Sim.ite (λh0=>?_) λ_=>.fail;have hct:NG (.d (.nilr o2) y:XV den)=[]:=by cases o2<;>rfl
     have hrow:er (.d (.row true t) x:XV den)=.ow (List.map (enc t) (x:List (den t))):=rfl;rw[hrow,hct];have:Sq sz (List.map (enc t) (x:List (den t))) [] lo (n.getD (List.map (enc t) (x:List (den t))).length)=some (0,none):=by simp[Sq,gO,h0]
     simp only[this];exact gR d rfl
     |_=>exact .fail
    |_=>exact .fail
  |_=>exact .fail
 |_=>exact .fail
end
section
variable {α β γ δ Y:Type}
theorem ge{x:Opd}{g:XV den->XM den Option Y γ}{h:TV->SP δ}{f:γ->δ}(H:∀t,Sim (g t) (h (er t)) f):Sim (X.bind (X.opd f6 x) g) ((opd x).bind h) f:=(BT x).bind H
theorem OA(k:Nat){s:SP β}{f:α->β}:∀(n:Nat)(g:Nat->XM den Option Y α)(i:Nat),(∀j,i<=j->j<i+n->k=j->Sim (g j) s f)->Sim (X.caseM f6 k n g i) s f:=by intro n;induction n with|zero=>intro g i _;exact .fail|succ n ih=>intro g i h;refine BG (λhb=>h i (oLE _) (by omega) ?_) λhb=>ih g (i+1) λj h1 h2 h3=>h j (by omega) (by omega) h3;have hb:Nat.beq k i=true:=hb;simp_all
theorem U9(HT:List (Nat×CT))(d:Nat)(op:TOp):Sim (Y:=Y) (X.ev1 f6 HT d op) (ev1 d op) id:=by
 cases op with
 |mov x=>
 refine ge λt=>?_;cases t with
  |d t y=>
  cases ho:X.isOwT t with
   |true=>obtain⟨c,hc⟩:=pY (v:=.d t y) ho;rw[hc];show Sim (if X.isOwT t then _ else _) _ id;rw[oIP ho];cases x with|c v=>exact pR d false (by simp only[erL,hc])|_=>exact .fail
   |false=>
   show Sim (if X.isOwT t then _ else _) _ id;rw[oIN (by rw[ho];simp)];have h1:oi (er (.d t y))=false:=by rw[vW];exact ho
   cases t with
   |row o t=>cases o<;>first|exact gR d rfl|simp[X.isOwT]at ho
   |nilr o=>cases o<;>first|exact gR d rfl|simp[X.isOwT]at ho
   |_=>exact gR d rfl
  |agg l=>show Sim (if l.any X.isOwX then _ else _) (if(erL l).any oi then .fail else wr d (.agg (erL l))) id;rw[Tg];refine Sim.ite (λ_=>.fail) λh=>?_;rw[oIN h];exact gR d rfl|gap=>exact .fail|half=>exact .fail|_=>exact gR d rfl
 |asn mv x=>
 refine ge λt=>?_;cases t with
  |ptr p vs=>exact gR d rfl|ip cs=>exact gR d rfl|fn f cap=>exact gR d rfl|d t y=>cases t with|row o t=>cases o<;>exact(uC mv (.d _ y)).bind λl=>pR d l.2 rfl|nilr o=>cases o<;>exact(uC mv (.d _ y)).bind λl=>pR d l.2 rfl|_=>exact(uC mv (.d _ y)).bind λl=>pR d l.2 rfl
  |_=>exact(uC mv _).bind λl=>pR d l.2 rfl
 |pick c a b=>exact Tk HT d c a b|alloc z=>refine Sim.ite (λh=>?_) λ_=>.fail;show Sim _ (if(z.map iY).all iB then _ else _) id;rw[oIP (zw h)];exact Sim.new (BC z) (Sim.rdV λg=>gR d rfl)|box n mv x=>refine ge λt=>?_;rw[C9];refine(uD mv _).bind λl=>Sim.ite (λh=>?_) λ_=>.fail;rw[oIP (by rw[iV];exact h)];exact Sim.new rfl (Sim.rdV λg=>gR d rfl)|load n a=>
 refine ge λt=>?_;cases t with
  |ptr p vs=>refine(i5 p _ vs).bind λ_=>?_;cases n with|none=>exact(Ol p).bind λt'=>gR d rfl|some n=>exact(HI p n).bind λl=>gR d rfl
  |ip cs=>simp only[er];cases h:X.loadIp n cs with|none=>exact .fail|some t=>simp only[PB h];exact gR d rfl
  |_=>exact .fail
 |store n mv a x=>refine ge λta=>?_;cases ta with|ptr p vs=>refine ge λtx=>?_;rw[C9];refine(uD mv _).bind λl=>Sim.ite (λh=>?_) λ_=>.fail;rw[oIP (by rw[iV];exact h)];exact(i5 p _ vs).bind λ_=>LB p l|_=>exact .fail
 |nilc x=>refine ge λt=>?_;cases t with|ptr p vs=>exact(i5 p _ vs).bind λ_=>gR d rfl|ip cs=>exact gR d rfl|fn f cap=>exact gR d rfl|_=>exact .fail
 |fld off a=>refine ge λt=>?_;cases t with|ptr p vs=>refine(i5 p _ vs).bind λ_=>Sim.ite (λh=>?_) λ_=>.fail;rw[oIP (by rw[<- G6];exact h)];exact gR d (by simp only[er,K2])|ip cs=>refine Sim.ite (λh=>?_) λ_=>.fail;show Sim _ (if off<(erL cs).length then _ else _) id;rw[oIP (by rw[iV];exact h)];exact gR d (by simp only[er,Bz])|_=>exact .fail
 |idx sz x i=>
 refine ge λt=>ge λti=>(se ti).bind λk=>?_;cases t with
  |pk p vs=>
  refine(i5 p _ vs).bind λ_=>(LC p).bind λt=>?_;cases t with
   |d tt x=>cases tt with
    |row o t=>cases o with
     |false=>exact .fail|true=>
     refine Sim.ite (λh=>?_) λ_=>.fail;refine Sim.get λe he=>?_;have hk:k<(x:List (den t)).length:=by rcases Nat.lt_or_ge k (x:List (den t)).length with h|h;exact h;rw[oGN h]at he;cases he
     show Sim _ (if k<(List.map List.length (List.map (enc t) (x:List (den t)))).length&&(List.map List.length (List.map (enc t) (x:List (den t)))).getD k 0==sz&&decide (0<sz)then _ else _) id;rw[CL,oIP];exact gR d rfl;simp only[oBA,oDE,beq_iff_eq,oLP];refine⟨⟨hk,?_⟩,h.2⟩;rw[oGD,oGP,he];simp[iu,h.1]
    |_=>exact .fail
   |gap t x i' o'=>
   refine Sim.ite (λh=>?_) λ_=>.fail;refine Sim.get λe he=>?_;have hk:k<(x:List (den t)).length:=by rcases Nat.lt_or_ge k (x:List (den t)).length with h|h;exact h;rw[oGN h]at he;cases he
   have hhd:(er (.gap t x i' o':XV den)).hd=some (List.map List.length (List.map (enc t) (x:List (den t)))):=KH (hs:=[(i',0,o')]) (by simp);rw[hhd];show Sim _ (if k<(List.map List.length (List.map (enc t) (x:List (den t)))).length&&(List.map List.length (List.map (enc t) (x:List (den t)))).getD k 0==sz&&decide (0<sz)then _ else _) id;rw[CL,oIP];exact gR d rfl;simp only[oBA,oDE,beq_iff_eq,oLP];refine⟨⟨hk,?_⟩,h.2⟩;rw[oGD,oGP,he];simp[iu,h.1]
   |half t x m=>
   refine Sim.ite (λh=>?_) λ_=>.fail;refine Sim.get λe he=>?_;have hk:k<(x:List (den t)).length:=by rcases Nat.lt_or_ge k (x:List (den t)).length with h|h;exact h;rw[oGN h]at he;cases he
   show Sim _ (if k<(List.map List.length (lM t m x)).length&&(List.map List.length (lM t m x)).getD k 0==sz&&decide (0<sz)then _ else _) id;rw[EK,oIP];exact gR d rfl;simp only[oBA,oDE,beq_iff_eq,oLP];refine⟨⟨hk,?_⟩,h.2⟩;rw[oGD,oGP,he];exact h.1
   |_=>exact .fail
  |pw p vs sz' lo n=>
  refine(i5 p _ vs).bind λ_=>(lW p).bind λt=>?_;cases t with
   |d tt x=>cases tt with
    |row o t=>cases o with
     |false=>exact .fail|true=>
     refine Sim.ite (λh=>?_) λ_=>.fail;refine Sim.br λhb=>Sim.get λe he=>?_;have hb:Nat.blt k n=true:=hb;have hb:k<n:=by simpa using hb
     have he:(x:List (den t))[lo+k]?=some e:=he;show Sim _ (if k<n&&((List.map (enc t) (x:List (den t))).getD (lo+k) []).length==sz&&sz'==sz&&decide (0<sz)then _ else _) id;rw[oIP];exact gR d rfl;simp only[oBA,oDE,beq_iff_eq];refine⟨⟨⟨hb,?_⟩,h.2.2⟩,h.2.1⟩;rw[oGD,oGP,he];simp[iu,h.1]
    |_=>exact .fail
   |_=>exact .fail
  |d tt x=>cases tt with
   |row o t=>cases o with
    |true=>exact .fail|false=>
    refine Sim.ite (λh=>?_) λ_=>.fail;refine Sim.get λe he=>?_;have he:(x:List (den t))[k]?=some e:=he;have hk:k<(x:List (den t)).length:=by rcases Nat.lt_or_ge k (x:List (den t)).length with h|h;exact h;rw[oGN h]at he;cases he
    have hg:(List.map (enc t) (x:List (den t))).getD k []=enc t e:=by rw[oGD,oGP,he];rfl
    show Sim _ (if k<(List.map (enc t) (x:List (den t))).length&&((List.map (enc t) (x:List (den t))).getD k []).length==sz&&decide (0<sz)then wr d (.ip ((List.map (enc t) (x:List (den t))).getD k []))else _) id;rw[hg,oIP];exact gR d (by simp only[er,xJ]);simp only[oBA,oDE,beq_iff_eq,oLP];exact⟨⟨hk,by rw[iu];exact h.1⟩,h.2⟩
   |nilr o=>cases o<;>exact .fail|_=>exact .fail
  |_=>exact .fail
 |ext x i=>refine ge λt=>?_;cases t with|tup l=>refine Sim.ite (λh=>?_) λ_=>.fail;show Sim _ (if i<(erL l).length then _ else _) id;rw[oIP (by rw[iV];exact h)];exact gR d (yn l i)|_=>exact .fail
 |bin op x y=>exact ge λa=>ge λb=>Va d op a b|bnb neg x y=>
 refine ge λa=>ge λb=>?_;cases a with
  |d t a=>cases t with
   |bool=>cases b with
    |d u b=>cases u with|bool=>show Sim _ (wr d (.v (.bool (if neg then !((a:Bool)==b)else(a:Bool)==b)))) id;refine gR d ?_;cases neg<;>rfl|_=>exact .fail
    |_=>exact .fail
   |_=>exact .fail
  |_=>exact .fail
 |eqa ks neg x y=>
 refine ge λa=>ge λb=>?_;cases a with
  |agg a=>cases b with
   |agg b=>simp only[er];cases h:X.eqAll f6 ks a b with|none=>exact .fail|some r=>obtain⟨vs,ws,h1,h2,h3⟩:=Sn h;rw[h1,h2];show Sim _ ((qU (g8 ks vs ws)).bind λr=>wr d (.v (.bool (if neg then !r else r)))) id;rw[h3];refine gR d ?_;cases neg<;>rfl
   |_=>exact .fail
  |_=>exact .fail
 |un op x=>
 refine ge λa=>?_;cases a with
  |d t a=>cases t with
   |bool=>cases op<;>first|exact .fail|exact gR d rfl
   |int k=>cases op<;>first|exact .fail|exact gR d rfl
   |_=>cases op<;>exact .fail
  |_=>cases op<;>exact .fail
 |conv k x=>
 refine ge λa=>?_;cases a with
  |d t a=>cases t with|int k0=>exact gR d rfl|_=>exact .fail
  |_=>exact .fail
 |bld z mv parts=>refine Sim.ite (λh=>?_) λ_=>.fail;show Sim _ (if(z.map iY).all iB then _ else _) id;rw[oIP (zw h)];refine(xK mv parts).bind λl=>(BU d l).bind λl'=>gR d ?_;simp only[er];rw[JR,BC]|bsl sz mv len parts=>refine(xK mv _).bind λl=>Sim.ite (λh=>?_) λ_=>.fail;rw[oIP h];refine Sim.opt λv hv=>pR d false ?_;simp only[erL,Rk hv,NK]|mks sz z l c=>refine Sim.ite (λh=>?_) λ_=>.fail;simp only[oBA]at h;show Sim _ (if(z.map iY).all iB&&z.length==sz then _ else _) id;rw[oIP (by simp only[oBA];exact⟨zw h.1,h.2⟩)];refine ge λtl=>ge λtc=>(se tl).bind λn=>(se tc).bind λm=>Sim.br λhok=>?_;have hok:xT n m sz=true:=hok;rw[oIP (by simpa[xT]using hok)];refine Sim.opt λv hv=>pR d false ?_;simp only[erL,Rn hv,BC,id_eq]|slc sz x lo hi=>
 refine ge λt=>(HJ t).bind λn=>(Ey lo 0).bind λl=>(Ey hi n).bind λh=>Sim.br λhok=>?_;have hok:iX l h n=true:=hok;rw[oIP (by simpa[iX]using hok)];cases t with
  |d tt x=>cases tt with
   |row o t=>cases o with|true=>exact .fail|false=>refine Sim.ite (λhs=>?_) λ_=>.fail;show Sim _ (if(List.map (enc t) (x:List (den t))).all (λe=>e.length==sz)then _ else _) id;rw[oIP (by rw[<- hs];exact xC t x)];refine gR d ?_;show TV.sl (List.map (enc t) ((List.drop l (x:List (den t))).take (h-l)))=_;rw[List.map_take,List.map_drop];rfl
   |nilr o=>cases o with|false=>show Sim _ (if([]:o_).all (λe=>e.length==sz)then wr d (.sl ((([]:o_).drop l).take (h-l)))else _) id;rw[oIP (by rfl)];exact gR d (by simp[er,er1])|true=>exact pR d false rfl
   |_=>exact .fail
  |pk p vs=>
  refine(lW p).bind λt=>?_;cases t with
   |d tt x=>cases tt with
    |row o t=>cases o with|false=>exact .fail|true=>refine Sim.ite (λhs=>?_) λ_=>.fail;show Sim _ (if(List.map (enc t) (x:List (den t))).all (λe=>e.length==sz)then _ else _) id;rw[oIP (by rw[<- hs];exact xC t x)];exact gR d rfl
    |nilr o=>cases o with|false=>exact .fail|true=>show Sim _ (if([]:o_).all (λe=>e.length==sz)then _ else _) id;rw[oIP (by rfl)];exact gR d rfl
    |_=>exact .fail
   |_=>exact .fail
  |pw p vs sz' lo' n'=>refine Sim.ite (λhs=>?_) λ_=>.fail;show Sim _ (if sz'=sz then _ else _) id;rw[oIP hs];exact gR d rfl|_=>exact .fail
 |app sz bytes mv fl s x=>
 refine ge λts=>ge λtx=>?_;have hn:EI (er tx)=X.isNameX tx:=by
  cases tx with
  |d t y=>cases t with|row o t=>cases o<;>rfl|nilr o=>cases o<;>rfl|_=>rfl
  |_=>rfl
 rw[hn];cases hc:(fl && !mv&&X.isNameX tx)with
  |true=>
  simp only[if_true];refine(Eo tx).bind λc2=>?_;refine Sim.ite (λhf=>?_) λ_=>.fail;have hV:(NG c2).all (λe=>e.all isV)=true:=by
   cases c2 with
   |d t y=>cases t with
    |row o t=>
    have hf:X.flatT t=true:=hf;cases o<;>show(List.map (enc t) (y:List (den t))).all (λe=>e.all isV)=true
    all_goals rw[List.all_map,oAE];intro z _;exact PN hf z
    |nilr o=>cases o<;>rfl|_=>rfl
   |gap=>cases hf|half=>cases hf|_=>rfl
  rw[oIP hV];refine(kx true ts).bind λs=>?_;have h:=SV (Y:=Y) d sz bytes (gI HT d) s c2;have e:UO d sz bytes (er s) (.sl (NG c2))=(match er s,er c2 with
   |.ow c,.ow c2=>if(c++c2).all (λe=>e.length==sz)&&decide (c.length+c2.length<=1099511627776)&&decide ((c.length+c2.length)*bytes<=140737488355328)then inst d false [.ow (c++c2)]else .fail
   |.ow c,.sl c2=>if(c++c2).all (λe=>e.length==sz)&&decide (c.length+c2.length<=1099511627776)&&decide ((c.length+c2.length)*bytes<=140737488355328)then inst d false [.ow (c++c2)]else .fail
   |_,_=>.fail):=by
   unfold UO
   cases c2 with
   |d t y=>cases t with
    |row o t=>cases o<;>cases er s<;>rfl
    |nilr o=>cases o<;>cases er s<;>rfl
    |_=>simp[X.flatRow]at hf
   |_=>simp[X.flatRow]at hf
  rw[e];exact h
  |false=>simp only[Bool.false_eq_true,if_false];exact(kx true ts).bind λs=>(kx mv tx).bind λx=>SV d sz bytes _ s x
 |len x=>exact ge λt=>(HJ t).bind λn=>gR d rfl|lens x=>
 refine ge λt=>?_;cases t with
  |d t s=>cases t with|str=>exact gR d rfl|_=>exact .fail
  |_=>exact .fail
 |ixs x i=>
 refine ge λt=>ge λti=>(se ti).bind λk=>?_;cases t with
  |d t s=>cases t with
   |str=>intro σ kk y hk;obtain⟨b,h1,h2⟩:=gi (show(Eu s k).bind _=some y from hk);unfold Eu at h1;obtain⟨c,h3,h4⟩:=kU h1;have h3:(s:ByteArray)[k]?=some c:=h3;have:=gR (Y:=Y) d (t:=.d (.int .u8) b) (t':=.v (.int .u8 c.toNat)) (by rw[<- h4];rfl) σ kk y h2;show ∃a σ',(match(s:ByteArray)[k]? with|some b=>wr d (.v (.int .u8 b.toNat))|none=>.fail).run (erS σ)=_/\sC σ σ' ((match(s:ByteArray)[k]? with|some b=>wr d (.v (.int .u8 b.toNat))|none=>.fail).foot (erS σ))/\_;rw[h3];exact this
   |_=>exact .fail
  |_=>exact .fail
 |mm mx xs=>
 refine(Q8 (λx=>(BT x).bind λt=>Ou t) xs).bind λl=>?_;cases l with
  |nil=>exact .fail|cons t r=>cases t with
   |d t a=>cases t with
    |int k=>simp only[oPC,Wm];cases h:X.mmAll f6 mx k a r with|none=>exact .fail|some m=>simp only[RL h];exact gR d rfl
    |_=>exact .fail
   |_=>exact .fail
 |idxa n sz x i=>refine ge λt=>ge λti=>(se ti).bind λk=>?_;cases t with|ptr p vs=>refine(i5 p _ vs).bind λ_=>OA _ n _ 0 λj hj0 hj hk=>Sim.ite (λh=>?_) λ_=>.fail;subst hk;simp only[id_eq];rw[oIP (by rw[<- G6];simp only[oBA,oDE];exact⟨by omega,h⟩)];exact gR d (by simp only[er,K2])|_=>exact .fail
 |s2b x=>
 refine ge λt=>?_;cases t with
  |d t s=>cases t with|str=>refine Sim.br λh=>?_;have h:decide ((s:ByteArray).size<4294967296)=true:=h;show Sim _ (if(s:ByteArray).size<4294967296 then wr d (.sl (vB s))else .fail) id;rw[oIP (by simpa using h)];refine gR d ?_;show TV.sl (List.map (enc (.int .u8)) (N6 s))=_;simp[N6,vB,enc]|_=>exact .fail
  |_=>exact .fail
 |cpy sz x y=>refine ge λt=>ge λu=>(Eo u).bind λc2=>?_;cases t with|pk p vs=>refine(i5 p _ vs).bind λ_=>Sim.rdC λtv=>?_;exact SU d sz p 0 none tv c2|pw p vs sz' lo n=>refine Sim.ite (λhs=>?_) λ_=>.fail;refine(i5 p _ vs).bind λ_=>Sim.rdC λtv=>?_;have:=SU (Y:=Y) d sz p lo (some n) tv c2;simp only[oIP hs];exact this|_=>exact .fail
 |call k f args=>exact .fail
end
theorem Hd:∀(hs:List (Unit×Nat×Nat))(hs':List (den .nat×Nat×Nat))(r:R_)(h:HL den r)(h':HL den (KG hs r)),K7 hs hs' r h=some h'->(CP hs r h').1=hs'/\(CP hs r h').2=h
 | [],[],_,_,_,hc=>by
  injection hc with hc
  exact⟨rfl,hc.symm⟩
 | [],_::_,_,_,_,hc=>by cases hc|_::_,[],_,_,_,hc=>by cases hc|(_,sz,o)::hs,(i,sz',o')::hs',r,h,h',hc=>by
  have hc:(if sz=sz'/\o=o' then(K7 hs hs' r h).map λh1=>((i,h1):den .nat×HL den (KG hs r))else none)=some h':=hc;by_cases hb:sz=sz'/\o=o'
  ·rw[oIP hb]at hc;obtain⟨h1,h2,h3⟩:=Option.map_eq_some_iff.1 hc;obtain⟨e1,e2⟩:=Hd hs hs' r h h1 h2;subst h3;refine⟨?_,e2⟩;show(i,sz,o)::(CP hs r h1).1=(i,sz',o')::hs';rw[e1,hb.1,hb.2]
  ·rw[oIN hb]at hc;cases hc
theorem Vl{p:XP λ_=>Unit}{q:XP den}(h:S0 p q=true):erP (WY p)=erP q:=by simp[S0]at h;have ⟨⟨⟨h1,h2⟩,h3⟩,h4⟩:=h;have ⟨r,o,hs⟩:=q;cases hs with|nil=>simp[WY,h1,h2]|cons=>simp[XP.bare]at h4
theorem Sg{x y:Value}(h:P8 x y=true):x=y:=by unfold P8 at h;grind
mutual
theorem Qg:(s:Sh)->(x:XV den)->(r:R_)->(h:HL den r)->(h':HL den (lv s r))->conv f6 s x r h=some h'->er (fill s r h').1=er x/\(fill s r h').2=h
 |.d u z,x,r,h,h',hc=>by
  cases x with
  |d t y=>
   have hc:(asT f6 t u y).map (λw=>(w,h))=some h':=hc;obtain⟨w,h1,h2⟩:=kU hc
   have e1:h'.1=w:=by rw[<- h2]
   have e2:h'.2=h:=by rw[<- h2]
   refine⟨?_,e2⟩;show er1 u h'.1=er1 t y;rw[e1];exact Mm h1
  |_=>exact absurd (show(none:Option (HL den _))=some h' from hc) (by simp)
 |.k z,x,r,h,h',hc=>by
  cases x with
  |k y=>
   have hc:(if P8 z y then some h else none)=some h':=hc;by_cases hb:P8 z y=true
   ·rw[oIP hb]at hc
    injection hc with hc
    rw[Sg hb];exact⟨rfl,hc.symm⟩
   ·rw[oIN hb]at hc;cases hc
  |_=>exact absurd (show(none:Option (HL den _))=some h' from hc) (by simp)
 |.dead,x,r,h,h',hc=>by
  cases x with
  |dead=>
   have hc:some h=some h':=hc
   injection hc with hc
   exact⟨rfl,hc.symm⟩
  |_=>exact absurd (show(none:Option (HL den _))=some h' from hc) (by simp)
 |.ptr p vs,x,r,h,h',hc=>by
  cases x with
  |ptr q ws=>
   have hc:(if p.root==q.root&&p.off==q.off&&vs==ws then K7 p.hops q.hops r h else none)=some h':=hc;by_cases hb:(p.root==q.root&&p.off==q.off&&vs==ws)=true
   ·rw[oIP hb]at hc;simp only[oBA,beq_iff_eq]at hb;obtain⟨h1,h2⟩:=Hd _ _ _ _ _ hc;refine⟨?_,h2⟩;show TV.ptr ⟨p.root,p.off,(CP p.hops r h').1⟩ vs=TV.ptr ⟨q.root,q.off,q.hops⟩ ws;rw[h1,hb.1.1,hb.1.2,hb.2]
   ·rw[oIN hb]at hc;cases hc
  |_=>exact absurd (show(none:Option (HL den _))=some h' from hc) (by simp)
 |.pk p vs,x,r,h,h',hc=>by
  cases x with
  |pk q ws=>
   have hc:(if p.root==q.root&&p.off==q.off&&vs==ws then K7 p.hops q.hops r h else none)=some h':=hc;by_cases hb:(p.root==q.root&&p.off==q.off&&vs==ws)=true
   ·rw[oIP hb]at hc;simp only[oBA,beq_iff_eq]at hb;obtain⟨h1,h2⟩:=Hd _ _ _ _ _ hc;refine⟨?_,h2⟩;show TV.pk ⟨p.root,p.off,(CP p.hops r h').1⟩ vs=TV.pk ⟨q.root,q.off,q.hops⟩ ws;rw[h1,hb.1.1,hb.1.2,hb.2]
   ·rw[oIN hb]at hc;cases hc
  |_=>exact absurd (show(none:Option (HL den _))=some h' from hc) (by simp)
 |.pw p vs sz lo n,x,r,h,h',hc=>by cases x<;>exact absurd (show(none:Option (HL den _))=some h' from hc) (by simp)|.gap t _ _ o,x,r,h,h',hc=>by
  cases x with
  |gap t' y i o'=>
   have hc:(if o=o' then(asT f6 (.row true t') (.row true t) y).map λy=>(y,i,h)else none)=some h':=hc;by_cases hb:o=o'
   ·subst hb;rw[oIP rfl]at hc;obtain⟨z,h1,rfl⟩:=kU hc;refine⟨?_,rfl⟩;show iU (er1 (.row true t) z) [(i,0,o)] .dead=iU (er1 (.row true t') y) [(i,0,o)] .dead;rw[Mm h1]
   ·rw[oIN hb]at hc;cases hc
  |_=>exact absurd (show(none:Option (HL den _))=some h' from hc) (by simp)
 |.half t _ _,x,r,h,h',hc=>by
  cases x with
  |half t' y m=>
   have hc:(if e:tz t' t=true then some (rH e▸y,m,h)else none:Option (HL den (.row true t :: .nat::r)))=some h':=hc;by_cases hb:tz t' t=true
   ·have e:=rH hb;subst e;rw[dif_pos hb]at hc
    injection hc with hc
    subst hc;exact⟨rfl,rfl⟩
   ·rw[dif_neg hb]at hc;cases hc
  |_=>exact absurd (show(none:Option (HL den _))=some h' from hc) (by simp)
 |.ip l,x,r,h,h',hc=>by
  cases x with
  |ip l'=>
   have:=rI l l' r h h' hc;exact⟨congrArg TV.ip this.1,this.2⟩
  |_=>exact absurd (show(none:Option (HL den _))=some h' from hc) (by simp)
 |.agg l,x,r,h,h',hc=>by
  cases x with
  |agg l'=>
   have:=rI l l' r h h' hc;exact⟨congrArg TV.agg this.1,this.2⟩
  |_=>exact absurd (show(none:Option (HL den _))=some h' from hc) (by simp)
 |.tup l,x,r,h,h',hc=>by
  cases x with
  |tup l'=>
   have:=rI l l' r h h' hc;exact⟨congrArg TV.tup this.1,this.2⟩
  |_=>exact absurd (show(none:Option (HL den _))=some h' from hc) (by simp)
 |.fn f l,x,r,h,h',hc=>by
  cases x with
  |fn f' l'=>
   have hc:(if f=f' then Bj f6 l l' r h else none)=some h':=hc;by_cases hb:f=f'
   ·subst hb;rw[oIP rfl]at hc;have:=rI l l' r h h' hc;exact⟨congrArg (TV.fn f) this.1,this.2⟩
   ·rw[oIN hb]at hc;cases hc
  |_=>exact absurd (show(none:Option (HL den _))=some h' from hc) (by simp)
theorem rI:(s:T_)->(x:List (XV den))->(r:R_)->(h:HL den r)->(h':HL den (lvL s r))->Bj f6 s x r h=some h'->erL (lY s r h').1=erL x/\(lY s r h').2=h
 | [],x,r,h,h',hc=>by
  cases x with
  |nil=>
   have hc:some h=some h':=hc
   injection hc with hc
   exact⟨rfl,hc.symm⟩
  |cons=>exact absurd (show(none:Option (HL den _))=some h' from hc) (by simp)
 |s::ss,x,r,h,h',hc=>by
  cases x with
  |nil=>exact absurd (show(none:Option (HL den _))=some h' from hc) (by simp)
  |cons x xs=>
   have hc:(Bj f6 ss xs r h).bind (λh1=>conv f6 s x (lvL ss r) h1)=some h':=hc;obtain⟨h1,ZP,ZL⟩:=gi hc;obtain⟨e1,e2⟩:=rI ss xs r h h1 ZP;obtain⟨e3,e4⟩:=Qg s x (lvL ss r) h1 h' ZL;have e5:lY (s::ss) r h'=((fill s (lvL ss r) h').1::(lY ss r (fill s (lvL ss r) h').2).1,(lY ss r (fill s (lvL ss r) h').2).2):=rfl;rw[e5,e4];refine⟨?_,e2⟩;show er _::erL _=er x::erL xs;rw[e3,e1]
end
theorem Hb:∀{s:List (Nat×T_)}{x:List (Nat×List (XV den))}{r:R_}{h:HL den r}{h':HL den (lvP s r)},X.convP f6 s x r h=some h'->erC (yk s r h').1=erC x/\(yk s r h').2=h:=by
 intro s;induction s with
 |nil=>
 intro x r h h' hc;cases x with
  |nil=>
  have hc:some h=some h':=hc;injection hc with hc
  exact⟨rfl,hc.symm⟩
  |cons=>exact absurd (show(none:Option (HL den _))=some h' from hc) (by simp)
 |cons s ss ih=>intro x r h h' hc;cases x with|nil=>exact absurd (show(none:Option (HL den _))=some h' from hc) (by simp)|cons x xs=>have hc:(if s.1=x.1 then(X.convP f6 ss xs r h).bind (λh1=>Bj f6 s.2 x.2 (lvP ss r) h1)else none)=some h':=hc;by_cases hk:s.1=x.1;rw[oIP hk]at hc;obtain⟨h1,ZP,hc⟩:=gi hc;obtain⟨e1,e2⟩:=ih ZP;obtain⟨e3,e4⟩:=rI s.2 x.2 (lvP ss r) h1 h' hc;have e5:yk (s::ss) r h'=((s.1,(lY s.2 (lvP ss r) h').1)::(yk ss r (lY s.2 (lvP ss r) h').2).1,(yk ss r (lY s.2 (lvP ss r) h').2).2):=rfl;rw[e5,e4];refine⟨?_,e2⟩;show(s.1,erL _)::erC _=(x.1,erL x.2)::erC xs;rw[e3,e1,hk];rw[oIN hk]at hc;cases hc
theorem Sr:∀{s:List (Nat×Sh)}{x:List (Nat×XV den)}{r:R_}{h:HL den r}{h':HL den (lvT s r)},X.convT f6 s x r h=some h'->(GZ s r h').1.map (λx=>(x.1,er x.2))=x.map (λx=>(x.1,er x.2))/\(GZ s r h').2=h:=by
 intro s;induction s with
 |nil=>
 intro x r h h' hc;cases x with
  |nil=>
  have hc:some h=some h':=hc;injection hc with hc
  exact⟨rfl,hc.symm⟩
  |cons=>exact absurd (show(none:Option (HL den _))=some h' from hc) (by simp)
 |cons s ss ih=>intro x r h h' hc;cases x with|nil=>exact absurd (show(none:Option (HL den _))=some h' from hc) (by simp)|cons x xs=>have hc:(if s.1=x.1 then(X.convT f6 ss xs r h).bind (λh1=>conv f6 s.2 x.2 (lvT ss r) h1)else none)=some h':=hc;by_cases hk:s.1=x.1;rw[oIP hk]at hc;obtain⟨h1,ZP,hc⟩:=gi hc;obtain⟨e1,e2⟩:=ih ZP;obtain⟨e3,e4⟩:=Qg s.2 x.2 (lvT ss r) h1 h' hc;have e5:GZ (s::ss) r h'=((s.1,(fill s.2 (lvT ss r) h').1)::(GZ ss r (fill s.2 (lvT ss r) h').2).1,(GZ ss r (fill s.2 (lvT ss r) h').2).2):=rfl;rw[e5,e4];refine⟨?_,e2⟩;simp only[oPC];rw[e3,e1,hk];rw[oIN hk]at hc;cases hc
theorem ON:∀{a b:m_},X.sameVr a b=true->a=b:=by
 intro a;induction a with
 |nil=>intro b h;cases b with|nil=>rfl|cons=>simp[X.sameVr]at h
 |cons x a ih=>intro b h;cases b with|nil=>simp[X.sameVr]at h|cons y b=>simp only[X.sameVr,oBA,beq_iff_eq]at h;obtain⟨⟨h1,h2⟩,h3⟩:=h;rw[ih h3];obtain⟨a1,a2⟩:=x;obtain⟨b1,b2⟩:=y;simp only at h1 h2;rw[h1,h2]
theorem Ha{s:Shs}{σ:XS den}{u:HL den []}{h:HL den (lvS s)}(hc:X.convS f6 s σ u=some h):erS (K0 s h)=erS σ:=by unfold X.convS at hc;by_cases hv:X.sameVr s.vr σ.vr=true;rw[oIP hv]at hc;obtain⟨h1,ZP,hc⟩:=gi hc;obtain⟨e1,e2⟩:=Hb ZP;obtain⟨e3,e4⟩:=Sr hc;unfold erS K0;simp only;rw[e3,e4,e1,ON hv];rw[oIN hv]at hc;cases hc
theorem JK{c:Ctr}{vals:List (XV den)}{pts:List (Nat×List (XV den))}{u:HL den []}{h:HL den (lvL c.ins (lvP c.pts []))}(hc:X.convIn f6 c vals pts u=some h):erL (lY c.ins _ h).1=erL vals/\erC (yk c.pts [] (lY c.ins _ h).2).1=erC pts:=by unfold X.convIn at hc;obtain⟨h1,ZP,hc⟩:=gi hc;obtain⟨e1,e2⟩:=Hb ZP;obtain⟨e3,e4⟩:=rI _ _ _ _ _ hc;rw[e4];exact⟨e3,e1⟩
theorem OO:∀{a b:P_},X.sameSh a b=true->a=b:=by
 intro a;induction a with
 |nil=>intro b h;cases b with|nil=>rfl|cons=>simp[X.sameSh]at h
 |cons x a ih=>
 intro b h;cases b with
 |nil=>cases x<;>simp[X.sameSh]at h|cons y b=>
 cases x<;>cases y<;>simp[X.sameSh]at h
 rw[ih h];rw[h.1,ih h.2];rw[ih h]
theorem Us{cells:List (XV den)}{sh:P_}{pts:List (Nat×List (XV den))}{u:HL den []}:∀{outs:List XO}{i:Nat}{h:HL den (Fo (outs.map lvO) i)},X.injO f6 cells sh pts u outs=some ⟨i,h⟩->∃x,p6 outs i h=some x/\erL x.1=erL cells/\x.2.1=sh/\erC x.2.2=erC pts:=by
 intro outs;induction outs with
 |nil=>intro i h hc;simp[X.injO]at hc|cons o outs ih=>
 intro i h hc;simp only[X.injO]at hc;split at hc;rename_i h1 ZP;injection hc with hc
 injection hc with h2 h3
 subst h2;have h3:=eq_of_heq h3;subst h3;refine⟨_,rfl,?_⟩;unfold X.convO at ZP;by_cases hs:X.sameSh o.sh sh=true;rw[oIP hs]at ZP;obtain⟨h4,hc4,ZP⟩:=gi ZP;obtain⟨e1,e2⟩:=Hb hc4;obtain⟨e3,e4⟩:=rI _ _ _ _ _ ZP;refine⟨e3,OO hs,?_⟩;show erC (yk o.pts [] (lY o.cells _ h1).2).1=_;rw[e4];exact e1;rw[oIN hs]at ZP;cases ZP;split at hc;rename_i x hx;injection hc with hc
 injection hc with h2 h3
 subst h2;have h3:=eq_of_heq h3;subst h3;exact ih hx;simp at hc
theorem Uz{a b:nY}(h:X.exEq a b=true):a=b:=by
 cases a<;>cases b<;>simp[X.exEq]at h
 rfl;rw[h];rfl
theorem PV{e:nY}{σ:XS den}{u:HL den []}:∀{outs:List (nY×Shs)}{i:Nat}{h:HL den (Fo (outs.map λx=>lvS x.2) i)},X.injE f6 e σ u outs=some ⟨i,h⟩->∃x,Ar outs i h=some x/\x.1=e/\erS x.2=erS σ:=by
 intro outs;induction outs with
 |nil=>intro i h hc;simp[X.injE]at hc|cons o outs ih=>
 intro i h hc;simp only[X.injE]at hc;split at hc;rename_i h1 ZP;injection hc with hc
 injection hc with h2 h3
 subst h2;have h3:=eq_of_heq h3;subst h3;refine⟨_,rfl,?_⟩;split at ZP;rename_i he;exact⟨Uz he,Ha ZP⟩;simp at ZP;split at hc;rename_i x hx;injection hc with hc
 injection hc with h2 h3
 subst h2;have h3:=eq_of_heq h3;subst h3;exact ih hx;simp at hc
theorem CU{α β:Type}(G:α->β):∀(ls:n_)(o:E1 ls)(f:(i:Nat)->HL den (Fo ls i)->α),pj ls o (λi h=>G (f i h))=G (pj ls o f):=by intro ls;induction ls with|nil=>intro o;cases o|cons l ls ih=>intro o f;cases ls with|nil=>rfl|cons m r=>cases o with|inl h=>rfl|inr o=>exact ih o λi h=>f (i+1) h
theorem EM{α:Type}:∀{ls:n_}{i:Nat}{h:HL den (Fo ls i)}{o:E1 ls}(f:(i:Nat)->HL den (Fo ls i)->α),zB ls i h=some o->pj ls o f=f i h:=by
 intro ls;induction ls with
 |nil=>intro i h o f hm;simp[zB]at hm|cons l ls ih=>
 intro i h o f hm;cases ls with
 |nil=>cases i with|zero=>cases hm;rfl|succ i=>simp[zB]at hm
 |cons m r=>cases i with|zero=>cases hm;rfl|succ i=>simp only[zB]at hm;obtain⟨o',h1,rfl⟩:=kU hm;exact ih (λi h=>f (i+1) h) h1
def za(F:iJ)(c:Ctr):Prop:=∀(h:HL den (lvL c.ins (lvP c.pts [])))(o:E1 (c.outs.map lvO))(x:List (XV den)×P_×List (Nat×List (XV den))),c.g h=some o->pj (c.outs.map lvO) o (λi ho=>p6 c.outs i ho)=some x ->
 F c.f (erL (lY c.ins _ h).1) (erC (yk c.pts [] (lY c.ins _ h).2).1)=some (⟨erL x.1,x.2.1⟩,erC x.2.2)
section
variable {α β γ δ Y:Type}
theorem Rf(x:x_×Opd):Sim (Y:=Y) (X.argV f6 x) (argV x) er:=by
 refine ge λt=>?_;have gen:∀t:XV den,Sim (Y:=Y) (X.bind (X.takeV f6 false t) λl=>X.bind (X.optM f6 (X.immXL f6 l.1)) λl'=>X.ret (X.shapedX l.2 l')) ((takeV false (er t)).bind λl=>.ret (tZ l.2 (l.1.map TV.imm))) er:=λt=>(uC false t).bind λl=>Sim.opt λl' hl=>.ret (by rw[Ez,R1 hl]);refine Sim.ite (λh=>?_) λh=>?_;have h2:(x.1==some 0&&Ws (er t))=true:=by
  simp at h⊢;refine⟨h.1,?_⟩;have h3:=h.2;cases t with
  |pk p vs=>rfl|d t y=>cases t with
   |nilr o=>cases o with|true=>rfl|false=>simp[X.isNmX]at h3
   |_=>simp[X.isNmX]at h3
  |_=>simp[X.isNmX]at h3
 rw[oIP h2];exact .ret rfl;have keep:∀{s:SP TV},Ws (er t)=X.isNmX t->WF (er t)=X.isPkX t->Sim (Y:=Y) (X.argV0 f6 t) s er->Sim (if(x.1.isSome&&X.isPkX t)=true then X.ret t else X.argV0 f6 t) (if(x.1==some 0&&Ws (er t))=true then SP.ret (er t)else if(x.1.isSome&&WF (er t))=true then .ret (er t)else s) er:=λhe hp hs=>by rw[he,oIN h,hp];split;exact .ret rfl;exact hs
 have nk:∀{t:XV den}{s:SP TV},X.isPkX t=false->(∀ σ k (o:Y),X.argV0 f6 t σ k≠some o)->Sim (if(x.1.isSome&&X.isPkX t)=true then X.ret t else X.argV0 f6 t) s er:=λhp hn=>by rw[hp,Bool.and_false,oIN (by simp)];exact fun σ k o hk=>absurd hk (hn σ k o)
 cases t with
 |ip cs=>exact keep rfl rfl (.ret rfl)|fn f cap=>exact keep rfl rfl (.ret rfl)|ptr p vs=>exact keep rfl rfl (.ret rfl)|d t y=>cases t with
  |row o t=>cases o with|true=>exact nk rfl fun σ k o hk=>by cases hk|false=>exact keep rfl rfl (gen _)
  |nilr o=>cases o<;>exact keep rfl rfl (gen _)|nat=>exact nk rfl fun σ k o hk=>by cases hk|pair a b=>exact nk rfl fun σ k o hk=>by cases hk|_=>exact keep rfl rfl (gen _)
 |gap t y i o=>exact nk rfl fun σ k o hk=>by cases hk|half t y m=>exact nk rfl fun σ k o hk=>by cases hk|_=>exact keep rfl rfl (gen _)
theorem BW:∀l:b_,Sim (Y:=Y) (X.argVs f6 l) (argVs l) erL:=by intro l;induction l with|nil=>exact .ret rfl|cons x r ih=>exact(Rf x).bind λt=>ih.bind λl=>.ret rfl
theorem HG:∀(l:List (x_×XV den))(i:Nat),Sim (Y:=Y) (X.takeOwns f6 i l) (takeOwns i (l.map λx=>(x.1,er x.2))) (List.map λx=>(x.1,er x.2)):=by
 intro l;induction l with
 |nil=>intro i;exact .ret rfl|cons x l ih=>
 intro i;have ⟨n,t⟩:=x;cases n with
 |none=>cases t with
  |d t y=>cases t with|row o t=>cases o<;>exact ih (i+1)|nilr o=>cases o<;>exact ih (i+1)|nat=>exact ih (i+1)|pair a b=>exact ih (i+1)|_=>exact ih (i+1)
  |_=>exact ih (i+1)
 |some n=>cases n with
  |zero=>cases t with
   |pk p vs=>
   refine(kx true (.pk p vs)).bind λt=>Sim.ite (λh=>?_) λ_=>.fail;have ⟨c,hc⟩:=pY h;have h2:oi (er t)=true:=by rw[hc];rfl
   rw[oIP h2];exact(ih (i+1)).bind λq=>.ret rfl
   |d t y=>cases t with|row o t=>cases o<;>exact ih (i+1)|nilr o=>cases o<;>exact ih (i+1)|nat=>exact ih (i+1)|pair a b=>exact ih (i+1)|_=>exact ih (i+1)
   |_=>exact ih (i+1)
  |succ n=>cases t with
   |d t y=>cases t with|row o t=>cases o<;>exact ih (i+1)|nilr o=>cases o<;>exact ih (i+1)|nat=>exact ih (i+1)|pair a b=>exact ih (i+1)|_=>exact ih (i+1)
   |_=>exact ih (i+1)
theorem Ow(r:Nat):∀(n o:Nat),Sim (Y:=Y) (X.grabB f6 r o n) (Nw ⟨r,o,[]⟩ n) erL:=by intro n;induction n with|zero=>intro o;exact .ret rfl|succ n ih=>intro o;cases n with|zero=>refine Sim.rdC λt=>(nG ⟨r,o,[]⟩ t).bind λt'=>(kx true t').bind λt2=>?_;exact(Sim.ret (f:=erL) rfl).bind (h:=λl=>.ret (er t2::l)) λl=>.ret rfl|succ n=>exact Sim.rdC λt=>(nG ⟨r,o,[]⟩ t).bind λt'=>(kx true t').bind λt2=>(ih (o+1)).bind λl=>.ret rfl
theorem MB(p:XP den):Sim (Y:=Y) (X.rooted f6 p) (rooted (erP p)) id:=by
 have ⟨r,off,hops⟩:=p;cases hops with
 |nil=>exact .ret rfl|cons h hs=>
 refine Sim.rdT λt=>?_;cases t with
 |ptr q ws=>
 refine Sim.ite (λhc=>?_) λ_=>.fail;show Sim _ (if(erP q).root==r&&(erP q).hops.isEmpty then chk (erP q) 0 ws else .fail) id;have:((erP q).root==r&&(erP q).hops.isEmpty)=true:=by simpa[erP]using hc
 rw[oIP this];exact i5 q 0 ws
 |_=>exact .fail
def erG(g:XGP den):GP:=⟨g.i,erP g.p,g.vs,erL g.cells⟩
theorem PR{t:XV den}(h:X.isArgX t=true):uT (er t)=true:=by
 cases t with
 |ip cs=>rfl|fn f cap=>exact L1 h|agg l=>simp only[X.isArgX]at h;simp only[er,uT,lr,List.all_map];rw[oAE]at h⊢;intro x hx;have:=h x hx;simp at this;simp;rcases uG this.1 this.2 with⟨y,hy⟩|⟨c,hc⟩;rw[hy];rw[hc]
 |d t x=>
 by_cases hn:t=.nilr true;subst hn;rfl;have:X.okCellX (.d t x:XV den)=true/\X.isOwX (.d t x:XV den)=false:=by
  cases t with
  |nilr o=>cases o with|true=>simp_all|false=>simpa[X.isArgX]using h
  |_=>simpa[X.isArgX]using h
 rcases uG this.1 this.2 with⟨y,hy⟩|⟨c,hc⟩;rw[hy];rfl;rw[hc];rfl
 |k x=>rfl|_=>simp[X.isArgX,X.okCellX]at h
theorem Ov:∀(l:List (x_×XV den))(i:Nat),Sim (Y:=Y) (X.grabs f6 i l) (grabs i (l.map λx=>(x.1,er x.2))) (List.map erG):=by
 intro l;induction l with
 |nil=>intro i;exact .ret rfl|cons x l ih=>
 intro i;have ⟨n,t⟩:=x;have Y8:(∀m p vs,(n,er t)≠(some m,TV.ptr p vs))->(∀p vs,(n,er t)≠(some 0,TV.pk p vs))->Sim (Y:=Y) (if X.isArgX t then X.grabs f6 (i+1) l else X.fail f6) (grabs i (((n,t)::l).map λx=>(x.1,er x.2))) (List.map erG):=by
  intro hne hne2;refine Sim.ite (λh=>?_) λ_=>.fail;have e:grabs i (((n,t)::l).map λx=>(x.1,er x.2))=if uT (er t)then grabs (i+1) (l.map λx=>(x.1,er x.2))else .fail:=by
   show grabs i ((n,er t)::_)=_;cases n with
   |none=>rfl|some m=>cases he:er t with
    |ptr p vs=>simp_all|pk p vs=>cases m with|zero=>simp_all|succ m=>rfl
    |_=>cases m<;>rfl
  rw[e,oIP (PR h)];exact ih (i+1)
 cases n with
 |none=>exact Y8 (by intro m p vs h;cases h) (by intro p vs h;cases h)|some m=>cases t with
  |pk p vs=>cases m with|zero=>exact ih (i+1)|succ m=>exact Y8 (by intro m p vs h;cases h) (by intro p vs h;cases h)
  |ptr p vs=>exact(i5 p _ vs).bind λ_=>(MB p).bind λ_=>Sim.bind (by have:=Ow (Y:=Y) p.root (X.baseXN p m) p.off;have e:UH (erP p) m=X.baseXN p m:=(by have ⟨r,o,hs⟩:=p;cases hs<;>rfl);show Sim _ (Nw (erP p).base (UH (erP p) m)) _;rw[e];exact this) λl1=>(ih (i+1)).bind λq=>.ret rfl|d t y=>cases t with|row o t=>cases m<;>cases o<;>exact Y8 (by intro m p vs h;cases h) (by intro p vs h;cases h)|nilr o=>cases m<;>cases o<;>exact Y8 (by intro m p vs h;cases h) (by intro p vs h;cases h)|_=>cases m<;>exact Y8 (by intro m p vs h;cases h) (by intro p vs h;cases h)
  |_=>cases m<;>exact Y8 (by intro m p vs h;cases h) (by intro p vs h;cases h)
theorem Oc(p:XP den):Sim (Y:=Y) (X.touch f6 p) (touch (erP p)) id:=Sim.rdC λtv=>Oa p.root p.off tv
theorem Of:∀q:List (XGP den),Sim (Y:=Y) (X.rechk f6 q) (rechk (q.map erG)) id:=by intro q;induction q with|nil=>exact .ret rfl|cons g q ih=>exact(i5 g.p _ g.vs).bind λ_=>(Oc g.p).bind λ_=>ih
theorem UN(i:Nat)(t:XV den):er (X.argT i t)=argT i (er t):=by
 cases t with
 |d t y=>cases t with|row o t=>cases o<;>rfl|nilr o=>cases o<;>rfl|_=>rfl
 |_=>rfl
theorem Sz:∀(l:List (XV den))(i:Nat),erL (X.argTs i l)=argTs i (erL l):=by intro l;induction l with|nil=>intro i;rfl|cons t l ih=>intro i;simp[X.argTs,erL,argTs,ih,UN]
theorem No{t:XV den}(h:X.isDeadX t=false):LZ (er t)=false:=by
 cases t with
 |d t y=>cases t with|row o t=>cases o<;>rfl|nilr o=>cases o<;>rfl|nat=>simp[X.isDeadX,X.oneT]at h|pair a b=>simp[X.isDeadX,X.oneT]at h|_=>rfl
 |dead=>simp[X.isDeadX]at h|_=>rfl
theorem J8:∀q:List (XGP den×List (XV den)),Sim (Y:=Y) (X.putBack f6 q) (putBack (q.map λx=>(erG x.1,erL x.2))) id:=by intro q;induction q with|nil=>exact .ret rfl|cons x q ih=>have ⟨g,l⟩:=x;refine ih.bind λ_=>Sim.ite (λh=>?_) λ_=>.fail;have ⟨h1,h2,h3⟩:=h;show Sim _ (if(erL l).length=(erL g.cells).length&&(erL l).all λt=>!LZ t then putL (erP g.p) (erL l)else .fail) id;rw[oIP];exact LB g.p l;simp only[oBA,oDE,iV];refine⟨h1,?_⟩;rw[lr,List.all_map,oAE];intro t ht;have:=oAE.1 h3 t ht;simp at this;simp[No this]
theorem OH:∀(sh:P_)(l:List (XV den)),erL (X.shapeRX sh l)=mI sh (erL l):=by intro sh;induction sh with|nil=>intro l;rfl|cons s sh ih=>intro l;cases s with|one=>simp only[X.shapeRX,erL];rw[ih,JF];cases l<;>rfl|agg n=>simp only[X.shapeRX,erL,mI,er];rw[ih,ym,Bz]|ptr=>simp[X.shapeRX,erL,mI,er];rw[ih]
theorem HO(sh:P_)(l:List (XV den)):er (X.shapeTX sh l)=wv sh (erL l):=by unfold X.shapeTX wv;rw[<- OH];cases X.shapeRX sh l with|nil=>rfl|cons x r=>cases r<;>rfl
theorem HK(dst:x_)(cells:List (XV den))(sh:P_):Sim (Y:=Y) (X.landR f6 dst cells sh) (landR dst ⟨erL cells,sh⟩) id:=by cases dst with|none=>exact .ret rfl|some d=>exact(BU d cells).bind λl=>gR d (HO sh l)
theorem PQ(sh:P_)(cells:List (XV den)):isP ⟨erL cells,sh⟩=X.isPX sh cells:=by
 unfold isP X.isPX;cases sh with
 |nil=>simp_all|cons s sh=>cases s with
  |ptr=>cases cells with
   |nil=>rfl|cons t r=>cases t with
    |d t y=>cases t with|row o t=>cases o<;>rfl|nilr o=>cases o<;>rfl|_=>rfl
    |_=>rfl
  |_=>rfl
theorem MI(t:XV den)(l:List (XV den)):er (X.shapePX t l)=LJ (er t) (erL l):=by cases l<;>rfl
theorem Ot(dst:x_)(q:List (XGP den))(cells:List (XV den)):Sim (Y:=Y) (X.landP f6 dst q cells) (landP dst (q.map erG) (erL cells)) id:=by cases dst with|none=>exact .ret rfl|some d=>unfold X.landP;simp only;split;rename_i pl vs l g;refine Sim.ite (λhc=>?_) λ_=>.fail;show Sim _ (if pl.root==2*g.i+2&&(erP g.p).hops.isEmpty then(rdVs (sj g.p.root (g.p.off+pl.off) (erP pl).hops.length)).bind λvs=>wr d (LJ (.ptr ⟨g.p.root,g.p.off+pl.off,(erP pl).hops⟩ vs) (erL l))else .fail) id;rw[oIP (by simpa[erP]using hc)];exact(xL _).bind λvs=>gR d (MI _ l);exact .fail
theorem U7(q:List (XGP den))(l:List (Nat×List (XV den))):(q.zip (l.map (·.2))).map (λx=>(erG x.1,erL x.2))=(q.map erG).zip ((erC l).map (·.2)):=by induction q generalizing l with|nil=>rfl|cons g q ih=>cases l with|nil=>rfl|cons x l=>simp[erC,ih]
theorem RG(x:x_×XV den):normA (x.1,er x.2)=((X.normA x).1,er (X.normA x).2):=by
 have ⟨n,t⟩:=x;cases n with
 |none=>rfl|some n=>cases t with
  |d t y=>cases t with|row o t=>cases o<;>rfl|nilr o=>cases o<;>rfl|_=>rfl
  |_=>rfl
theorem Rl:∀(z:List (x_×XV den))(i:Nat),revOf i (z.map λx=>(x.1,er x.2))=(X.revOf i z).map λx=>(x.1,x.2.1,erP x.2.2.1,x.2.2.2):=by
 intro z;induction z with
 |nil=>intro i;rfl|cons x z ih=>
 intro i;have ⟨n,t⟩:=x;cases n with
 |none=>exact ih (i+1)|some n=>cases t with
  |ptr p vs=>simp[er,revOf,X.revOf];split;all_goals simp_all|d t y=>cases t with|row o t=>cases o<;>exact ih (i+1)|nilr o=>cases o<;>exact ih (i+1)|_=>exact ih (i+1)
  |_=>exact ih (i+1)
def erV(x:Nat×Nat×Nat×XP den):Nat×Nat×Nat×gl:=(x.1,x.2.1,x.2.2.1,erP x.2.2.2)
theorem MD:∀l:List (Nat×Nat×XP den×N_),Sim (Y:=Y) (X.revChk f6 l) (revChk (l.map λx=>(x.1,x.2.1,erP x.2.2.1,x.2.2.2))) λr=>r.map erV:=by
 intro l;induction l with
 |nil=>exact .ret rfl|cons x l ih=>
 have ⟨i,k,p,vs⟩:=x;refine Sim.rdT λt=>?_;cases t with
 |ptr q ws=>refine Sim.ite (λhc=>?_) λ_=>.fail;show Sim _ (if q.root=p.root/\(erP p).hops.isEmpty=true/\(erP q).hops.length=1/\p.off<=q.off then _ else _) _;rw[oIP (by simpa[erP]using hc)];exact(i5 p 0 vs).bind λ_=>(i5 q 1 ws).bind λ_=>ih.bind λr=>.ret rfl|d t y=>cases t with|row o t=>cases o<;>exact .fail|nilr o=>cases o<;>exact .fail|_=>exact .fail
 |_=>exact .fail
theorem MC(kept:p_):∀l:List (Nat×Nat×Nat×XP den),Sim (Y:=Y) (X.revive f6 kept l) (revive kept (l.map erV)) id:=by intro l;induction l with|nil=>exact .ret rfl|cons x l ih=>have ⟨k,r,d,q⟩:=x;refine Sim.ite (λhc=>?_) λ_=>.fail;show Sim _ (if kept.contains (r,d)=true then _ else _) id;rw[oIP hc];exact(lW q).bind λ_=>(xL _).bind λvs=>by show Sim _ ((SP.wrT k (er (.ptr q vs)) (.ret ())).bind λ_=>revive kept (l.map erV)) id;exact(BR k _).bind λ_=>ih
theorem S7(l:List (XV den)):(erL l).isEmpty=l.isEmpty:=by cases l<;>rfl
theorem Un(l:List (Nat×List (XV den))):ksOf (erC l)=X.ksOf l:=by unfold ksOf X.ksOf erC;rw[List.filter_map,oPM];have e:((λx:Nat×U_=>x.2.isEmpty) ∘ λx:Nat×List (XV den)=>(x.1,erL x.2))=λx=>x.2.isEmpty:=funext λx=>S7 x.2;simp_all
theorem Uo(l:List (Nat×List (XV den))):kcIn (erC l)=X.kcIn l:=by
 unfold kcIn X.kcIn erC;rw[List.filter_map,oPM];have e:((λx:Nat×U_=>!x.2.isEmpty) ∘ λx:Nat×List (XV den)=>(x.1,erL x.2))=λx=>!x.2.isEmpty:=funext λx=>by simp[S7]
 rw[e];exact List.map_congr_left λx _=>by simp[iV]
theorem J9:∀z:List (x_×XV den),Sim (Y:=Y) (X.lendChk f6 z) (lendChk (z.map λx=>(x.1,er x.2))) id:=λ_=>.ret rfl
theorem HM(z:List (x_×XV den))(ks:N_):∀(ow:List (Nat×XV den))(rs:List (List (XV den))),Sim (Y:=Y) (X.giveBack f6 z ks ow rs) (giveBack (z.map λx=>(x.1,er x.2)) ks (ow.map λx=>(x.1,er x.2)) (rs.map erL)) id:=by intro ow;induction ow with|nil=>intro rs;exact .ret rfl|cons x ow ih=>intro rs;cases rs with|nil=>exact .fail|cons y rs=>exact ih rs
theorem MH{F:iJ}(dst:x_)(f:FuncId)(vals:List (XV den))(q:List (XGP den))(ow:List (Nat×XV den))(z:List (x_×XV den))(rv:List (Nat×Nat×Nat×XP den))(u:HL den []):∀(TB:B_),(∀c∈TB,za F c)->Sim (Y:=Y) (X.callTB f6 dst f vals q ow z rv u TB) ((qU (F f (erL vals) ((q.map erG).map (λg=>(2*g.i+2,g.cells))++(ow.map λx=>(x.1,er x.2)).map λx=>(2*x.1+3,[x.2])))).bind λr=> if(r.2.map (·.1)).take ((q.map erG).length+(ow.map λx=>(x.1,er x.2)).length)=(q.map erG).map (λg=>2*g.i+2)++(ow.map λx=>(x.1,er x.2)).map (λx=>2*x.1+3)&&(isP r.1||uh r.1.sh r.1.cells.length)then(putBack ((q.map erG).zip (r.2.map (·.2)))).bind λ_=>(giveBack (z.map λx=>(x.1,er x.2)) (ksOf (r.2.drop ((q.map erG).length+(ow.map λx=>(x.1,er x.2)).length))) (ow.map λx=>(x.1,er x.2)) ((r.2.drop (q.map erG).length).map (·.2))).bind λ_=>(revive (kcIn (r.2.drop ((q.map erG).length+(ow.map λx=>(x.1,er x.2)).length))) (rv.map erV)).bind λ_=>if isP r.1 then(if(ow.map λx=>(x.1,er x.2)).isEmpty&&(rv.map erV).isEmpty then landP dst (q.map erG) r.1.cells else .fail)else landR dst r.1 else .fail) id:=by
 intro TB;induction TB with
 |nil=>intro _;exact .fail|cons c TB ih=>
 intro Y0;have ZU:=ih λc' Y2=>Y0 c' (by simp[Y2]);unfold X.callTB;cases hsel:(if c.f=f then X.convIn f6 c vals (q.map (λg=>(2*g.i+2,g.cells))++ow.map λy=>(2*y.1+3,[y.2])) u else none)with
 |none=>exact ZU|some h=>
 by_cases hf:c.f=f;rw[oIP hf]at hsel;obtain⟨e1,e2⟩:=JK hsel;intro σ k y hk;obtain⟨o,ho,hk⟩:=gi (show(c.g h).bind _=some y from hk);rw[CU (λr=>X.onOut f6 r λx=>X.afterC f6 dst q ow z rv x σ k)]at hk;cases hx:pj (c.outs.map lvO) o (λi ho=>p6 c.outs i ho)with
 |none=>rw[hx]at hk;cases hk|some x=>
  rw[hx]at hk;have hF:=Y0 c (by simp) h o x ho hx;have e3:erC (q.map (λg=>(2*g.i+2,g.cells))++ow.map λy=>(2*y.1+3,[y.2]))=(q.map erG).map (λg=>(2*g.i+2,g.cells))++(ow.map λx=>(x.1,er x.2)).map λx=>(2*x.1+3,[x.2]):=by unfold erC;rw[List.map_append,oPM,oPM,oPM,oPM];congr 1
  rw[e1,e2,e3,hf]at hF;rw[hF];have hE:∀m,(erC x.2.2).drop m=erC (x.2.2.drop m):=λm=>by unfold erC;rw[List.map_drop]
  have hK:∀l:List (Nat×List (XV den)),(erC l).map (·.1)=l.map (·.1):=λl=>by unfold erC;rw[oPM];exact List.map_congr_left λ_ _=>rfl
  have hV:∀l:List (Nat×List (XV den)),(erC l).map (·.2)=(l.map (·.2)).map erL:=λl=>by unfold erC;rw[oPM,oPM];exact List.map_congr_left λ_ _=>rfl
  have key:Sim (Y:=Y) (X.afterC f6 dst q ow z rv x) (if((erC x.2.2).map (·.1)).take ((q.map erG).length+(ow.map λx=>(x.1,er x.2)).length)=(q.map erG).map (λg=>2*g.i+2)++(ow.map λx=>(x.1,er x.2)).map (λx=>2*x.1+3)&&(isP ⟨erL x.1,x.2.1⟩||uh x.2.1 (erL x.1).length)then(putBack ((q.map erG).zip ((erC x.2.2).map (·.2)))).bind λ_=>(giveBack (z.map λx=>(x.1,er x.2)) (ksOf ((erC x.2.2).drop ((q.map erG).length+(ow.map λx=>(x.1,er x.2)).length))) (ow.map λx=>(x.1,er x.2)) (((erC x.2.2).drop (q.map erG).length).map (·.2))).bind λ_=>(revive (kcIn ((erC x.2.2).drop ((q.map erG).length+(ow.map λx=>(x.1,er x.2)).length))) (rv.map erV)).bind λ_=>if isP ⟨erL x.1,x.2.1⟩then(if(ow.map λx=>(x.1,er x.2)).isEmpty&&(rv.map erV).isEmpty then landP dst (q.map erG) (erL x.1)else .fail)else landR dst ⟨erL x.1,x.2.1⟩else .fail) id:=by
   unfold X.afterC;refine Sim.ite (λhc=>?_) λ_=>.fail;have h6:(q.map erG).map (λg=>2*g.i+2)=q.map (λg=>2*g.i+2):=by rw[oPM];exact List.map_congr_left λ_ _=>rfl
   have h7:(ow.map λx=>(x.1,er x.2)).map (λx=>2*x.1+3)=ow.map (λy=>2*y.1+3):=by simp_all
   have hC:(decide (((erC x.2.2).map (·.1)).take ((q.map erG).length+(ow.map λx=>(x.1,er x.2)).length)=(q.map erG).map (λg=>2*g.i+2)++(ow.map λx=>(x.1,er x.2)).map (λx=>2*x.1+3))&&(isP ⟨erL x.1,x.2.1⟩||uh x.2.1 (erL x.1).length))=true:=by rw[PQ,hK,h6,h7,oLP,oLP,iV,oDT hc.1,Bool.true_and];exact hc.2
   rw[oIP hC,<- U7,PQ,hE,hE,Un,Uo,hV,oLP,oLP];refine(J8 _).bind λ_=>(HM z _ ow _).bind λ_=>(MC _ rv).bind λ_=>?_;cases X.isPX x.2.1 x.1 with|true=>show Sim (if(ow.isEmpty&&rv.isEmpty)=true then _ else _) (if((ow.map λx=>(x.1,er x.2)).isEmpty&&(rv.map erV).isEmpty)=true then _ else _) id;rw[List.isEmpty_map,List.isEmpty_map];refine Sim.ite (λh=>?_) λh=>?_;rw[oIP h];exact Ot dst q x.1;rw[oIN h];exact .fail|false=>exact HK dst x.1 x.2.1
  exact key σ k y hk
 rw[oIN hf]at hsel;cases hsel
end
section
variable {α β γ δ Y:Type}
theorem BV{F:iJ}{TB:B_}(Y0:∀c∈TB,za F c)(u:HL den [])(dst:x_)(f:FuncId)(ns:List x_)(vals:List (XV den)):Sim (Y:=Y) (X.callV f6 TB u dst f ns vals) (callV F dst f ns (erL vals)) id:=by
 have ez:∀(ns:List x_)(vals:List (XV den)),(ns.zip vals).map (λx=>(x.1,er x.2))=ns.zip (erL vals):=by intro ns;induction ns with|nil=>intro vals;rfl|cons n ns ih=>intro vals;cases vals with|nil=>rfl|cons v vals=>simp[List.zip_cons_cons,erL,ih]
 unfold callV;have en:(ns.zip (erL vals)).map normA=((ns.zip vals).map X.normA).map λx=>(x.1,er x.2):=by rw[<- ez,oPM,oPM];exact List.map_congr_left λx _=>RG x
 rw[en,<- ez,Rl];refine(J9 _).bind λ_=>(MD _).bind λrv=>(HG _ 0).bind λow=>(Ov _ 0).bind λq=>(Of q).bind λ_=>Sim.ite (λh=>?_) λ_=>.fail;rw[oIP];rw[<- Sz];exact MH dst f _ q ow (ns.zip vals) rv u TB Y0;rw[oPM,List.all_map];simp only[oBA]at h⊢;refine⟨⟨h.1.1,?_⟩,?_⟩;have h2:=h.1.2;rw[oAE]at h2⊢;intro g hg;have:=h2 g hg;simpa[erG,iV]using this;have h2:=h.2;rw[oAE]at h2⊢;intro x hx;obtain⟨y,hy,rfl⟩:=List.mem_map.1 hx;have h3:=h2 y hy;rw[List.any_eq_true]at h3⊢;obtain⟨g,hg,h4⟩:=h3;refine⟨erG g,List.mem_map_of_mem hg,?_⟩;rw[oBA]at h4⊢;refine⟨h4.1,?_⟩;show oi ((erL g.cells).getD y.2.2.1 .dead)=true;rw[<- yn];obtain⟨c,hc⟩:=pY h4.2;rw[hc];rfl
theorem Oy(dst:x_)(tm:List BxC)(vals:List (XV den))(hok:tm.all X.boxOk=true):Sim (Y:=Y) (X.evBox f6 dst tm vals) (evBox dst tm (erL vals)) id:=by
 cases dst with
 |none=>exact .fail|some d=>
 have e:erL (tm.map (X.bxX f6 vals))=tm.map (bxT (erL vals)):=by rw[lr,oPM];refine List.map_congr_left λb hb=>?_;have:=oAE.1 hok b hb;cases b with|arg i=>exact yn vals i|val x=>show er (X.cellX f6 x)=.v x;rw[BD];simp[X.boxOk]at this;unfold iY;split;all_goals simp_all
 show Sim _ ((takeL false (tm.map (bxT (erL vals)))).bind _) id;rw[<- e];exact(uD false _).bind λl=>Sim.new rfl (Sim.rdV λg=>gR d rfl)
theorem LA(x:XV den):Sim (Y:=Y) (X.see1 f6 x) (see1 (er x)) er:=by
 cases x with
 |d t y=>cases t with
  |int k=>exact .ret rfl|bool=>exact .ret rfl|str=>exact .ret rfl|nat=>exact .fail|row o t=>cases o<;>first|exact .fail|exact .ret rfl
  |nilr o=>cases o<;>exact .ret rfl|pair a b=>exact .fail
 |k y=>exact .ret rfl|pk p vs=>
 refine(i5 p _ vs).bind λ_=>Sim.rdC λtv=>Bm λv hv=>?_;refine Sim.ite (λho=>?_) λ_=>.fail;have ⟨c,hc⟩:=pY ho;have YF:gJ (er tv) (erP p).hops=some (.ow c):=by rw[<- hc];exact hv
 simp[YF];intro σ k y hk;cases hi:X.immX f6 v with|none=>rw[hi]at hk;cases hk|some v'=>rw[hi]at hk;exact Sim.ret (by rw[Cp hi,hc]) σ k y hk
 |_=>exact .fail
theorem QZ:∀l:List (XV den),Sim (Y:=Y) (X.seeL f6 l) (seeL (erL l)) erL:=by intro l;induction l with|nil=>exact .ret rfl|cons t r ih=>exact(LA t).bind λt'=>ih.bind λr'=>.ret rfl
theorem Q0(t:XV den):Sim (Y:=Y) (X.seeA f6 t) (seeA (er t)) er:=by
 have key:=LA (Y:=Y) t;cases t with
 |agg l=>exact(QZ l).bind λl'=>.ret rfl|ip cs=>exact .ret rfl|fn f cap=>refine Sim.ite (λh=>?_) λ_=>.fail;show Sim _ (if(erL cap).all S5 then .ret (.fn f (erL cap))else .fail) er;rw[oIP (L1 h)];exact .ret rfl|d t y=>cases t with|row o t=>cases o<;>exact key|nilr o=>cases o<;>exact key|_=>exact key
 |_=>exact key
theorem Oe:∀l:O_,Sim (Y:=Y) (X.seeAs f6 l) (seeAs l) erL:=by intro l;induction l with|nil=>exact .ret rfl|cons x r ih=>exact ge λt=>(Q0 t).bind λt'=>ih.bind λl=>.ret rfl
theorem Ma{l:List (XV den)}(h:l.all X.flatX=true):(erL l).all F3=true:=by
 rw[lr,List.all_map,oAE];intro x hx;have:=oAE.1 h x hx;cases x with
 |d t y=>cases t<;>first|rfl|simp[X.flatX]at this
 |k y=>exact this|_=>simp[X.flatX]at this
theorem RA:∀{t:CT}(x:den t),X.ownT t=true->zM (enc t x)=true:=by
 intro t;induction t with
 |int k=>intro x _;rfl|bool=>intro x _;rfl|str=>intro x _;rfl|nat=>intro x _;rfl|row o t ih=>
 intro x h;simp only[X.ownT,oBA]at h;obtain⟨rfl,h⟩:=h;have key:∀l:List (den t),At (List.map (enc t) l)=true:=by intro l;induction l with|nil=>rfl|cons y r ihr=>simp only[oPC,At,oBA];exact⟨ih y h,ihr⟩
 show(At (List.map (enc t) x)&&true)=true;simp_all
 |nilr o=>intro x h;cases o with|true=>rfl|false=>cases h
 |pair a b ZI ZF=>
 intro x h;simp[X.ownT,oBA]at h;have key:∀l m:U_,zM l=true->zM m=true->zM (l++m)=true:=by intro l m h1 h2;induction l with|nil=>exact h2|cons t r ih=>simp[zM]at h1;simp[zM];simp_all
 exact key _ _ (ZI _ h.1) (ZF _ h.2)
theorem Uc{x:XV den}(h:X.ownX x=true):NC (er x)=true:=by cases x with|d t y=>simp[X.ownX]at h;have h2:=RA y h.2;rw[uV h.1]at h2;show NC (er1 t y)=true;simpa[zM]using h2|k y=>rfl|_=>simp[X.ownX]at h
theorem Vg{l:List (XV den)}(h:l.any X.slX=true):(erL l).all F3=false/\(erL l).all NC=false:=by
 have ⟨x,hx,hs⟩:=List.any_eq_true.1 h;have e:∃c,er x=.sl c:=by
  cases x with
  |d t y=>cases t with
   |row o t=>cases o with|false=>exact⟨_,rfl⟩|true=>cases hs
   |nilr o=>cases o with|false=>exact⟨_,rfl⟩|true=>cases hs
   |_=>cases hs
  |_=>cases hs
 have ⟨c,e⟩:=e;have hm:er x∈erL l:=by rw[lr];exact List.mem_map_of_mem hx
 constructor;rw[List.all_eq_false];exact⟨_,hm,by rw[e];simp[F3]⟩;rw[List.all_eq_false];exact⟨_,hm,by rw[e];simp[NC]⟩
theorem Vt{l:List (XV den)}(h:l.any X.isOwX=true):(erL l).all F3=false:=by
 have ⟨x,hx,hs⟩:=List.any_eq_true.1 h;have h1:oi (er x)=true:=by rw[vW];exact hs
 have hm:er x∈erL l:=by rw[lr];exact List.mem_map_of_mem hx
 rw[List.all_eq_false];refine⟨_,hm,?_⟩;cases he:er x<;>rw[he]at h1<;>simp[oi,F3]at h1⊢
theorem OB{F:iJ}(dst:x_)(f:FuncId)(vals:List (XV den))(u:HL den []){fx:XM den Option Y Unit}{ft:SP Unit}(hfb:Sim (Y:=Y) fx ft id):∀(TB:B_),(∀c∈TB,za F c)->Sim (Y:=Y) (X.callB f6 dst f vals u fx TB) (callB F dst f (erL vals) ft) id:=by
 intro TB;induction TB with
 |nil=>intro _;exact .fail|cons c TB ih=>
 intro Y0;have ZU:=ih λc' Y2=>Y0 c' (by simp[Y2]);unfold X.callB;cases hsel:(if c.f=f then X.convIn f6 c vals [] u else none)with
 |none=>exact ZU|some h=>
 by_cases hf:c.f=f;rw[oIP hf]at hsel;obtain⟨e1,e2⟩:=JK hsel;intro σ k y hk;have ⟨o,ho,hk⟩:=gi (show(c.g h).bind _=some y from hk);rw[CU (λz=>X.onOut f6 z λx=>X.afterB f6 dst fx x σ k)]at hk;cases hx:pj (c.outs.map lvO) o (λi ho=>p6 c.outs i ho)with
 |none=>rw[hx]at hk;cases hk|some x=>
  rw[hx]at hk;have hk:X.afterB f6 dst fx x σ k=some y:=hk;unfold X.afterB at hk;have hF:=Y0 c (by simp) h o x ho hx;rw[e1,e2,hf]at hF;have hF:F f (erL vals) []=some (⟨erL x.1,x.2.1⟩,erC x.2.2):=hF;have hlen:(erC x.2.2).length=x.2.2.length:=by unfold erC;rw[oLP]
  split at hk;rename_i hc;have Y2:((erC x.2.2).length=0&&(erL x.1).all F3&&uh x.2.1 (erL x.1).length)=true:=by simp only[oBA,oDE,iV];exact⟨⟨by rw[hlen];exact hc.1,Ma hc.2.1⟩,hc.2.2⟩
  cases dst with
  |none=>
   have e:callB F none f (erL vals) ft=.ret ():=by unfold callB;rw[hF];exact oIP Y2
   rw[e];exact Sim.ret (a:=()) (f:=id) rfl σ k y hk
  |some d=>
   have e:callB F (some d) f (erL vals) ft=wr d (wv x.2.1 (erL x.1)):=by unfold callB;rw[hF];exact oIP Y2
   rw[e];exact gR d (HO x.2.1 x.1) σ k y hk
  split at hk;rename_i hc;have e:callB F dst f (erL vals) ft=landR dst ⟨erL x.1,x.2.1⟩:=by unfold callB;rw[hF];refine(oIN (by dsimp only;rw[Vt hc.2.2.1];simp)).trans (oIP ?_);simp only[oBA,oDE,iV];refine⟨⟨by rw[hlen];exact hc.1,?_⟩,hc.2.2.2⟩;rw[lr,List.all_map,oAE];exact λz hz=>Uc (oAE.1 hc.2.1 z hz)
  rw[e];exact HK dst x.1 x.2.1 σ k y hk;split at hk;rename_i hc;have hn:=Vg hc;have e:callB F dst f (erL vals) ft=ft:=by unfold callB;rw[hF];exact(oIN (by dsimp only;rw[hn.1];simp)).trans (oIN (by dsimp only;rw[hn.2];simp))
  rw[e];exact hfb σ k y hk;cases hk
 simp_all
theorem Ox{F:iJ}{TB:B_}(Y0:∀c∈TB,za F c)(E:Env)(u:HL den [])(dst:x_)(k:Bool)(f:FuncId)(args:b_):Sim (Y:=Y) (X.evNrm f6 E TB u dst k f args) (evNrm E F dst k f args) id:=by cases k with|false=>exact(Oe _).bind λvals=>OB dst f vals u ((BW _).bind λvals=>BV Y0 u dst f _ vals) TB Y0|true=>refine(BW _).bind λvals=>?_;cases hb:E.box f with|none=>exact BV Y0 u dst f _ vals|some x=>refine Sim.ite (λh=>?_) λ_=>.fail;show Sim _ (if(erL vals).length=x.1 then evBox dst x.2 (erL vals)else .fail) id;rw[oIP (by rw[iV];exact h.1)];exact Oy dst x.2 vals h.2
theorem MG{F:iJ}{TB:B_}(Y0:∀c∈TB,za F c)(E:Env)(u:HL den [])(dst:x_)(op:TOp):Sim (Y:=Y) (X.evCall f6 E TB u dst op) (evCall E F dst op) id:=by
 cases op with
 |call k f args=>
 cases f with
  |f f=>exact Ox Y0 E u dst k f args|t i=>
  refine Sim.rdT λt=>?_;cases t with
   |fn f caps=>refine(BW _).bind λvals=>?_;have:=BV (Y:=Y) Y0 u dst f (args.map (·.1)++Sv E f args.length caps.length) (vals++caps);rw[sq]at this;rw[iV];exact this|d t y=>cases t with|row o t=>cases o<;>exact .fail|nilr o=>cases o<;>exact .fail|_=>exact .fail
   |_=>exact .fail
  |c x=>exact .fail
 |_=>exact .fail
theorem On{F:iJ}{C:X.Cfg}(Y0:∀c∈C.TB,za F c)(u:HL den [])(dst:x_)(op:TOp):Sim (Y:=Y) (X.evop f6 C u dst op) (evop (evCall C.E F) dst op) id:=by
 have key:∀d,Sim (Y:=Y) (X.ev1 f6 C.HT d op) (ev1 d op) id:=λd=>U9 C.HT d op;have kc:=MG (Y:=Y) Y0 C.E u dst op;cases op with
 |call k f args=>exact kc|store n mv a x=>cases dst with|none=>exact key 0|some d=>exact .fail
 |_=>cases dst with|none=>exact .fail|some d=>exact key d
theorem BS(dst:x_):Sim (Y:=Y) (X.setNo f6 dst) (setNo dst) id:=by cases dst with|none=>exact .ret rfl|some d=>exact BR d (.tup [])
theorem LX{σ:XS den}{j:Nat}{b:Bool}(h:X.tOf σ j=.d .bool b):erS (X.known f6 j b σ)=erS σ:=by
 have h1:gI σ.tm j=some (.d .bool b):=by unfold X.tOf at h;cases hg:gI σ.tm j with|none=>simp_all|some t=>simp_all
 have:=Dj h1;show(⟨(iW σ.tm j (.d .bool b)).map _,erC σ.ce,σ.vr⟩:St)=_;rw[this];rfl
theorem Ly{F:iJ}{C:X.Cfg}(Y0:∀c∈C.TB,za F c)(u:HL den [])(o:lN):Sim (Y:=Y) (X.spOp f6 C u o) (spOp (evCall C.E F) o) id:=by
 unfold X.spOp spOp;cases hg:o.guard with
 |none=>exact On Y0 u o.dst o.op|some g=>
 obtain⟨j,want⟩:=g;intro σ k y hk;cases ht:X.tOf σ j with
 |d t b=>cases t with
  |bool=>
  have hk:(bif b then((if want then X.evop f6 C u o.dst o.op else X.setNo f6 o.dst) (X.known f6 j true (X.lgR (.t j) σ)) k)else((if want then X.setNo f6 o.dst else X.evop f6 C u o.dst o.op) (X.known f6 j false (X.lgR (.t j) σ)) k))=some y:=by have hk:X.guardX f6 j want (X.evop f6 C u o.dst o.op) (X.setNo f6 o.dst) (X.tOf σ j) (X.lgR (.t j) σ) k=some y:=hk;rw[ht]at hk;exact hk
  have key:∀(m:XM den Option Y Unit)(s:SP Unit),Sim m s id->m (X.known f6 j b (X.lgR (.t j) σ)) k=some y->∃a σ',s.run (erS σ)=some (id a,erS σ')/\sC σ σ' (.t j::(s.foot (erS σ)).1,(s.foot (erS σ)).2)/\k a σ'=some y:=by intro m s hm h;have e:=LX (σ:=X.lgR (.t j) σ) ht;obtain⟨a,σ',r1,n1,k1⟩:=hm _ k y h;rw[e]at r1 n1;refine⟨a,σ',r1,⟨λx hx=>?_,λx hx=>n1.w x hx,λx hx=>n1.r0 x (by simp[X.known,X.lgR,hx]),λx hx=>n1.w0 x (by simpa[X.known,X.lgR]using hx)⟩,k1⟩;rcases oMC.1 hx with h|h;exact n1.r0 x (by simp[X.known,X.lgR,h]);exact n1.r x h
  have hst:(erS σ).t j=.v (.bool b):=by rw[Sm,ht];rfl
  have res:∀(s:SP Unit),(if b=want then evop (evCall C.E F) o.dst o.op else setNo o.dst)=s->(∃a σ',s.run (erS σ)=some (id a,erS σ')/\sC σ σ' (.t j::(s.foot (erS σ)).1,(s.foot (erS σ)).2)/\k a σ'=some y)->∃a σ',(SP.rdT j λt=>match t with|.v (.bool b)=>if b=want then evop (evCall C.E F) o.dst o.op else setNo o.dst|.tup []=>setNo o.dst|_=>.fail).run (erS σ)=some (id a,erS σ')/\sC σ σ' ((SP.rdT j λt=>match t with|.v (.bool b)=>if b=want then evop (evCall C.E F) o.dst o.op else setNo o.dst|.tup []=>setNo o.dst|_=>.fail).foot (erS σ))/\k a σ'=some y:=by rintro s hs ⟨a,σ',r1,n1,k1⟩;refine⟨a,σ',?_,?_,k1⟩;simp only[SP.run,hst,hs];exact r1;simp only[SP.foot,hst,hs];exact n1
  cases b with
   |true=>cases want with|true=>exact res _ (oIP rfl) (key _ _ (On Y0 u o.dst o.op) hk)|false=>exact res _ (oIN (by simp)) (key _ _ (BS o.dst) hk)
   |false=>cases want with|true=>exact res _ (oIN (by simp)) (key _ _ (BS o.dst) hk)|false=>exact res _ (oIP rfl) (key _ _ (On Y0 u o.dst o.op) hk)
  |_=>have hk:X.guardX f6 j want (X.evop f6 C u o.dst o.op) (X.setNo f6 o.dst) (X.tOf σ j) (X.lgR (.t j) σ) k=some y:=hk;rw[ht]at hk;cases hk
 |tup l=>
 have hk:X.guardX f6 j want (X.evop f6 C u o.dst o.op) (X.setNo f6 o.dst) (X.tOf σ j) (X.lgR (.t j) σ) k=some y:=hk;rw[ht]at hk;cases l with
  |cons=>cases hk|nil=>
  have hst:(erS σ).t j=.tup []:=by rw[Sm,ht];rfl
  obtain⟨a,σ',r1,n1,k1⟩:=BS o.dst (X.lgR (.t j) σ) k y hk;refine⟨a,σ',?_,?_,k1⟩;simp only[SP.run,hst];exact r1;simp only[SP.foot,hst];refine⟨λx hx=>?_,n1.w,λx hx=>n1.r0 x (by simp[X.lgR,hx]),λx hx=>n1.w0 x hx⟩;rcases oMC.1 hx with h|h;exact n1.r0 x (by simp[X.lgR,h]);exact n1.r x h
 |_=>have hk:X.guardX f6 j want (X.evop f6 C u o.dst o.op) (X.setNo f6 o.dst) (X.tOf σ j) (X.lgR (.t j) σ) k=some y:=hk;rw[ht]at hk;cases hk
end
end Go.Proofs.YtabfnmgabblofaaGreat
