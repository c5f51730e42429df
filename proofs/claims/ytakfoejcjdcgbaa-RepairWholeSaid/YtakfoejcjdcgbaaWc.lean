/- Part of the proof; no condition. -/
import Derived.Test.YtakfoejcjdcgbaaWb
set_option linter.unusedVariables false
set_option linter.unusedSimpArgs false
namespace Go.Proofs.Ytakfoejcjdcgbaa
open Go.RowKit
def iB(pp:List Nat):Nat->List TV->Bool
 |_,[]=>true
 |i,.ptr _ _::r=>pp.contains i&&iB pp (i+1) r
 |i,.sl _::r=>iB pp (i+1) r
 |i,_::r=>!pp.contains (1000+i)&&iB pp (i+1) r
theorem BH{pp:List Nat}:∀{l:List TV}{i:Nat},iB pp i l=true->∀j p vs,l[j]?=some (.ptr p vs)->i+j∈pp:=by
 intro l
 induction l with
 |nil=>simp_all
 |cons t l ih=>
  intro i h j p vs hj
  have hr:iB pp (i+1) l=true:=by
   cases t<;>simp only[iB,oBA]at h<;>first|exact h.2|exact h
  cases j with
  |zero=>
   have:t=.ptr p vs:=by simp_all
   subst this;simp[iB,List.contains_eq_mem,oDE]at h;exact h.1
  |succ j=>
   have:=ih hr j p vs (by simp_all);rw[show i+(j+1)=i+1+j by omega];exact this
def runT(E:Env)(F:cu)(n:Nat)(tf:TFn)(vals:List TV)(pts:Pts):Option (pt×Pts):=
 if vals.length=tf.np/\(iB tf.pp 0 vals&&(!tf.pp.contains 1000||pts.isEmpty))=true then
  (runC (evCall E F) n tf.body (mkSt vals pts)).bind λx=>match x.1 with
   |.exit _=>none
   |_=>((resF tf.np tf.res).run x.2).bind λy=>some (⟨y.1.1,y.1.2⟩,pts.map λx=>(x.1,(bO y.2.ce x.1).getD []))
 else none
def vJ(E:Env)(T:FuncId->Option TFn)(B F:cu)(n:Nat):cu:=λf vals pts=>
 match T f with
 |none=>B f vals pts
 |some tf=>runT E F n tf vals pts
def runF(E:Env)(T:FuncId->Option TFn)(B:cu):Nat->cu
 |0=>λ_ _ _=>none
 |n+1=>vJ E T B (runF E T B n) n
def De(P:Program)(tf:TFn)(c:Code):Prop:=
 tf.np=1/\tf.pp=[1000]/\tf.nt=8/\tf.res=[.tmp 2]/\pn tf.body=true/\(∃sz b bytes mv fl id,tf.body=vo sz b bytes mv fl id)/\
  ∃rest,Df P c rest/\∀M:Fm,M.N=tf.nt->(∀r,M.pr r≠none->∃i∈tf.pp,r=2*i+2)->dJ P M eu tf.body rest
def t6(P:Program)(T:FuncId->Option TFn):Prop:=
 ∀f tf,T f=some tf->∃fn c,P.funcs[f]?=some fn/\(fn.name=="runtime.NumGoroutine")=false/\fn.body=some c/\fn.ntmps=tf.nt/\tf.np<=tf.nt /\
  ((∀M:Fm,M.N=tf.nt->(∀r,M.pr r≠none->∃i∈tf.pp,r=2*i+2)->dJ P M eu tf.body c)\/De P tf c)/\tf.res.length=fn.results.size/\∀k (h:k<tf.res.length)(h':k<fn.results.size),xq P tf.res[k] fn.results[k]
section
variable {P:Program} {E:Env} {T:FuncId->Option TFn} {B F:cu}
def I1(tf:TFn)(pts:Pts)(x:fL×St):Option (pt×Pts):=match x.1 with
 |.exit _=>none
 |_=>((resF tf.np tf.res).run x.2).bind λy=>some ((⟨y.1.1,y.1.2⟩:pt),pts.map λ(x:Nat×List TV)=>(x.1,(bO y.2.ce x.1).getD []))
theorem xn{tf:TFn}{fn:Func}{M:Fm}{σ1:St}{a':Act}{w':World}{G':Gh}{pts Zw:Pts}{res:pt}{e:fL}(Vm:tf.res.length=fn.results.size)(YC:∀k (h:k<tf.res.length)(h':k<fn.results.size),xq P tf.res[k] fn.results[k])
 (ZE:Inv M σ1 [] [] a'.tmps w' G')(hd:a'.defers=[])(h2:I1 tf pts (e,σ1)=some (res,Zw)):
 bodyPost P fn (λe w2=>∃v σ2,e=.returned v/\I5 M res v σ2 w2/\Zw=pts.map λ(x:Nat×List TV)=>(x.1,(bO σ2.ce x.1).getD [])) e.toExit a' w':=by
 unfold I1 at h2
 have Tu:∀y,(resL tf.np tf.res).run σ1=some y->some ((⟨y.1.1,y.1.2⟩:pt),pts.map λx=>(x.1,(bO y.2.ce x.1).getD []))=some (res,Zw)->a'.defers=[]/\∃v,(results fn a'.tmps).run P w'=.ok v w' /\
  ∃v' σ2,Ending.returned v=.returned v'/\I5 M res v' σ2 w'/\Zw=pts.map λx=>(x.1,(bO σ2.ce x.1).getD []):=by
  rintro⟨r,σ2⟩ hr he;obtain⟨vs,ys,G2,hrun,hg,hl,hok,Ny⟩:=Gk (qs':=fn.results.toList) ZE (by simpa using Vm) (λk h h'=>by have:=YC k h (by simpa using h');simpa using this) hr
  injection he with he
  injection he with SC Qc
  subst SC;subst Qc;refine⟨hd,g8 r.2 ys,?_,g8 r.2 ys,σ2,rfl,.inl ⟨ys,a'.tmps,G2,rfl,by simpa using hg.1,hok⟩,rfl⟩;unfold results;rw[Array.mapM_eq_mapM_toList];simp only[Sem.run_bind,Sem.run_map]
  erw[hrun]
  unfold g8;rw[Ny]
  cases vs with
  |nil=>rfl
  |cons v vs=>
   cases vs with
   |nil=>rfl
   |cons v2 vs=>rfl
 have ZP:∀y,(resF tf.np tf.res).run σ1=some y->some ((⟨y.1.1,y.1.2⟩:pt),pts.map λx=>(x.1,(bO y.2.ce x.1).getD []))=some (res,Zw)->a'.defers=[]/\∃v,(results fn a'.tmps).run P w'=.ok v w' /\
  ∃v' σ2,Ending.returned v=.returned v'/\I5 M res v' σ2 w'/\Zw=pts.map λx=>(x.1,(bO σ2.ce x.1).getD []):=by
  intro y hr he;unfold resF at hr;split at hr
  ·rename_i t rs Tl;simp only[SP.run]at hr;split at hr
   ·rename_i p vs htv;obtain⟨_,σ2,h3,h4⟩:=bn hr;have e1:σ2=σ1:=(bE h3).1;have e2:=(bE h3).2;subst e1;obtain⟨fl,σ3,h5,h6⟩:=bn h4;simp only[SP.run,oSJ]at h6;subst h6
    injection he with he
    injection he with SC Qc
    subst SC;subst Qc;have Zt:=ZE.tmr t;rw[htv]at Zt
    obtain⟨q0,qs',RQ⟩:∃q0 qs',fn.results.toList=q0::qs':=by
     have hlen:fn.results.toList.length=rs.length+1:=by rw[Array.length_toList,<- Vm,Tl];rfl
     cases hl:fn.results.toList with
     |nil=>rw[hl]at hlen;simp at hlen
     |cons q0 qs'=>exact⟨q0,qs',rfl⟩
    have UV:∀(L:List TRs)(L':List ResultVar),tf.res=L->fn.results.toList=L'->∀k (h:k<L.length)(h':k<L'.length),xq P L[k] L'[k]:=by
     rintro _ _ rfl rfl k h h';have:=YC k h (by simpa using h');simpa using this
    have No:q0=.tmp t:=UV _ _ Tl RQ 0 (by simp) (by simp)
    have V8:rs.length=qs'.length:=by
     have h7:fn.results.toList.length=rs.length+1:=by rw[Array.length_toList,<- Vm,Tl];rfl
     rw[RQ]at h7;simpa using h7.symm
    obtain⟨rfl,ZK,hrun⟩:=Cw (qs':=qs') ZE V8 (λk h h'=>UV _ _ Tl RQ (k+1) (by simpa using h) (by simpa using h')) h5
    have WV:(fn.results.toList.mapM λ(q:ResultVar)=>(match q with|.tmp t=>(pure (a'.tmps.getD t undef):Sem Value)|.cell a t=>do loadVar t (<- asAddr (a'.tmps.getD a undef)))).run P w'=.ok (a'.tmps.getD t undef::fl.map unV) w':=by
     rw[RQ,No,List.mapM_cons,Sem.run_bind];show Result.andThen (.ok (a'.tmps.getD t undef) w') _=_;simp only[Result.andThen_ok,Sem.run_bind];refine(congrArg (λr=>Result.andThen r _) hrun).trans ?_;simp
    generalize a'.tmps.getD t undef=z at Zt WV
    cases Zt with
    |ptr V0 h0 hv hok=>
     have hp:=hok e2;refine⟨hd,rQ z (fl.map unV),?_,rQ z (fl.map unV),σ3,rfl,.inr ⟨p,vs,fl,z,a'.tmps,G',rfl,⟨_,rfl⟩,ZK,rfl,ZE,hp⟩,rfl⟩;unfold results;rw[Array.mapM_eq_mapM_toList];simp only[Sem.run_bind,Sem.run_map]
     erw[WV]
     cases fl with
     |nil=>rfl
     |cons y l=>rfl
   ·exact Tu y (by rw[Tl];exact hr) he
  ·exact Tu y hr he
 cases e with
 |exit i=>simp at h2
 |normal=>
  simp only at h2;obtain⟨y,h3,h4⟩:=bz h2;exact ZP y h3 h4
 |ret=>
  simp only at h2;obtain⟨y,h3,h4⟩:=bz h2;exact ZP y h3 h4
theorem Dm(hT:t6 P T)(hE:rC P E)(hB:dg P B)(hF:dg P F)(n:Nat):dg P (vJ E T B F n):=by
 intro f vals pts res Zw h;unfold vJ at h
 cases ht:T f with
 |none=>rw[ht]at h;exact hB f vals pts res Zw h
 |some tf=>
  rw[ht]at h;simp only[runT]at h;split at h
  case isFalse=>simp at h
  rename_i hnp;obtain⟨hnp,S7⟩:=hnp;simp only[oBA]at S7;obtain⟨QO,O3⟩:=S7;obtain⟨⟨e,σ1⟩,h1,h2⟩:=bz h;obtain⟨fn,c,hf,UP,hb,Nh,Yv,Xy,Vm,YC⟩:=hT f tf ht;refine⟨je hf UP hb,tf.nt,by omega,λM asq w G hal hN Pe Y5 hI=>?_⟩;refine calls_of_wp hf hb ?_
  have MA:fn.ntmps-asq.toArray.size=tf.nt-asq.length:=by rw[Nh];simp
  rw[MA]
  have S8:∀r,M.pr r≠none->∃i∈tf.pp,r=2*i+2:=λr hr=>by obtain⟨i,p,vs,h3,h4⟩:=Y5 r hr;exact⟨i,by simpa using BH QO i p vs h3,h4⟩
  rcases Xy with Xy|⟨c1,c2,c3,c4,c5,⟨sz,b,bytes,mv,fl,id,c6⟩,rest,hcl,Xy⟩
  ·exact xK (xL hE hF) n tf.body c _ e σ1 ⟨asq.toArray++Array.replicate (tf.nt-asq.length) undef,[]⟩ w G _ (Xy M hN S8) h1 hI λa' w' G' ZE hd=>xn Vm YC ZE hd h2
  ·
   obtain⟨v0,rfl⟩:∃v,vals=[v]:=List.length_eq_one_iff.1 (by rw[hnp,c1]);obtain⟨x0,rfl⟩:∃x,asq=[x]:=List.length_eq_one_iff.1 (by rw[hal];rfl)
   have QM:pts=[]:=by rw[c2]at O3;simpa using O3
   subst QM
   obtain⟨l0,rfl⟩:∃l,v0=.sl l:=by
    rw[c2]at QO;cases v0<;>simp[iB]at QO;exact⟨_,rfl⟩
   have hv:=hI.tmr 0;have e0:(mkSt [TV.sl l0] ([]:Pts)).t 0=.sl l0:=rfl
   have e1:(#[x0]++Array.replicate (tf.nt-1) undef).getD 0 undef=x0:=by simp[Array.getD_eq_getD_getElem?,Array.getElem?_append]
   have hv:TmR w (G.F M.A) (mkSt [TV.sl l0] ([]:Pts)).v (bM M (mkSt [TV.sl l0] ([]:Pts)) []) G (.sl l0) x0:=by
    have:=hI.tmr 0;rw[e0]at this;rw[show([x0]:List Value).toArray=#[x0]from rfl,show([x0]:List Value).length=1 from rfl,e1]at this;exact this
   cases hv with
   |sl hs=>
    cases hs with
    | @sl _ ad cap zz u hsz hcap hmax SZ hcell hrec=>
     have hdead:∀(H:List TV)(xs:List Value)(ts:Array Value)(d:Nat)(v:Value),0<d->Inv M (mkSt [TV.sl l0] []) H xs ts w G->Inv M (mkSt [TV.sl l0] []) H xs (ts.setIfInBounds d v) w G:=by
      intro H xs ts d v hd hI;refine⟨hI.core,λi=>?_,hI.fram,hI.keys,by rw[Array.size_setIfInBounds];exact hI.size,hI.hand,hI.hval,hI.shape⟩;by_cases hi:i=d
      ·subst hi
       have:(mkSt [TV.sl l0] ([]:Pts)).t i=.dead:=by
        simp[St.t,mkSt,dt,bO,show ¬ 0=i by omega]
       rw[this];exact .dead
      ·have:(ts.setIfInBounds d v).getD i undef=ts.getD i undef:=by simp[Array.getD_eq_getD_getElem?,Array.getElem?_setIfInBounds,Ne.symm hi]
       rw[this];exact hI.tmr i
     refine EG hcl (ad:=ad) (n:=l0.length) (cap:=cap) (by simp[Array.getD_eq_getD_getElem?,Array.getElem?_append]) (by simp[c3]) (λY6=>?_) (λ_=>?_)
     ·have Ye:=hdead _ _ _ 4 (.bool true) (by decide) (hdead _ _ _ 3 (.slice ad l0.length cap) (by decide) (hdead _ _ _ 2 (.slice none 0 0) (by decide) hI));subst Y6;have UJ:=SZ rfl;have V7:l0=[]:=oEN (by omega);subst V7;have VM:=Ye.wrT (d:=2) (by omega) (t:=.ow []) (x:=.slice none 0 0) .nil;have hrun:=xj c5;rw[c6,<- Ad (evCall E F) n,<- c6]at hrun;unfold vn at hrun;rw[h1]at hrun;simp only[oBS]at hrun h2
      have Td:res=⟨[.ow []],[.one]⟩/\Zw=[]:=by
       cases e with
       |exit i=>simp at hrun
       |normal=>
        simp only[c1,c4]at h2;simp only at hrun;obtain⟨y,hy,TW⟩:=dV hrun;rw[hy]at h2;simp only[oBS,oSJ,oPJ]at h2;rw[TW]at h2;exact⟨h2.1.symm,by simpa using h2.2.symm⟩
       |ret=>
        simp only[c1,c4]at h2;simp only at hrun;obtain⟨y,hy,TW⟩:=dV hrun;rw[hy]at h2;simp only[oBS,oSJ,oPJ]at h2;rw[TW]at h2;exact⟨h2.1.symm,by simpa using h2.2.symm⟩
      obtain⟨rfl,rfl⟩:=Td
      have h5:I1 tf [] (.ret,{ mkSt [TV.sl []] ([]:Pts)with tm:=cM (mkSt [TV.sl []] ([]:Pts)).tm 2 (.ow []) })=some (⟨[.ow []],[.one]⟩,[]):=by
       unfold I1;simp only[c1,c4];rfl
      obtain⟨T,hT⟩:∃T:Array Value,T=(qt ([Value.slice none ([]:List (List TV)).length cap].toArray++Array.replicate (tf.nt - [Value.slice none ([]:List (List TV)).length cap].length) undef) (.slice none ([]:List (List TV)).length cap) true).setIfInBounds 2 (.slice none 0 0):=⟨_,rfl⟩;have Wl:=VM;unfold qt at hT;rw[<- hT]at Wl;have h7:=xn (tf:=tf) (fn:=fn) (P:=P) (pts:=[]) (e:=.ret) (a':=⟨T,[]⟩) (w':=w) (G':=G) Vm YC Wl rfl h5;rw[hT]at h7;exact h7
     ·have ZY:=hdead _ _ _ 4 (.bool false) (by decide) (hdead _ _ _ 3 (.slice ad l0.length cap) (by decide) (hdead _ _ _ 2 (.slice none 0 0) (by decide) hI));exact xK (xL hE hF) n tf.body rest _ e σ1 ⟨qt _ (.slice ad l0.length cap) false,[]⟩ w G _ (Xy M hN S8) h1 ZY λa' w' G' ZE hd=>xn Vm YC ZE hd h2
theorem runF_ok(hT:t6 P T)(hE:rC P E)(hB:dg P B):∀n,dg P (runF E T B n):=by
 intro n
 induction n with
 |zero=>intro f vals pts res Zw h;simp[runF]at h
 |succ n ih=>exact Dm hT hE hB ih n
end
def kW(P:Program)(own:Nat->Bool):Nat->List TypeId->List Operand->Option (List (Option Nat×Opd))
 |_,_,[]=>some []
 |i,ts,x::xs=>
  match bq x,kW P own (i+1) ts.tail xs with
  |some y,some l=>
   match ts with
   |t::_=>match P.underlying t with
    |some (.pointer e)=>match rJ P e with
     |some n=>some ((some n,y)::l)
     |none=>none
    |some (.slice _)=>some ((if own i then some 0 else none,y)::l)
    |_=>some ((none,y)::l)
   | []=>some ((none,y)::l)
  |_,_=>none
def Iu(P:Program)(t:TypeId):Bool:=match P.underlying t with
 |some (.int _)=>true
 |some .bool=>true
 |some .string=>true
 |some (.struct _)=>(lp P 50 t).isSome
 |_=>false
def B3(P:Program)(fn:Func):Bool:=fn.resultTypes.toList.all (Iu P)&&fn.params.toList.all λt=>match P.underlying t with|some (.pointer _)=>false|_=>true
def fF:Code->List Oper
 |.region _ ops _=>ops.toList
 |.seq a b=>fF a++fF b
 |.cond _ a b=>fF a++fF b
 |.block _ b=>fF b
 |.scope b=>fF b
 |.loop b=>fF b
 |_=>[]
def Ff(ops:List Oper)(j:Nat):Option Operand->Bool
 |some (.tmp t)=>t==j||ops.any λo=>o.dst==some t&&match o.op with|.move (.tmp u)=>u==j|_=>false
 |_=>false
def Is(P:Program):Nat->Func->Nat->Bool
 |0,_,_=>false
 |n+1,fn,j=>match fn.body with
  |some c=>(fF c).any λo=>match o.op with
   |.call ⟨.builtin .append,args,_⟩=>Ff (fF c) j args[0]?
   |.call ⟨.value (.func g),args,_⟩=>match P.funcs[g]? with
    |some fg=>args.toList.zipIdx.any λx=>Ff (fF c) j (some x.1)&&Is P n fg x.2
    |none=>false
   |_=>false
  |none=>false
def pm(P:Program):Op->Option TOp
 |.call ⟨.value (.func f),args,_⟩=>
  match P.funcs[f]? with
  |some fn=>(kW P (Is P 3 fn) 0 fn.params.toList args.toList).map λl=>.call (!B3 P fn) (.f f) l
  |none=>none
 |.call ⟨.value (.tmp i),args,tys⟩=>(kW P (λ_=>false) 0 tys.toList args.toList).map λl=>.call true (.t i) l
 |_=>none
def wU(mv:Nat):TOp->TOp
 |.call k f args=>.call k f (if 10<=mv then args.map λx=>(x.1.map λn=>min n (mv-10),x.2)else args)
 |t=>t
def kz(P:Program)(mv:Nat)(op:Op):TOp:=
 match dq P mv op with
 |some t=>t
 |none=>match pm P op with
  |some t=>wU mv t
  |none=>G6
def IA(pp:List Nat)(nt:Nat):Option Nat->Bool
 |some d=>decide (d<nt) && !pp.contains d
 |none=>true
def tS(P:Program)(pp:List Nat)(nt:Nat)(ops:Array Oper)(mv:Nat)(o:Oper):Option eB:=
 if IA pp nt o.dst then
  match o.guard with
  |none=>some ⟨o.dst,none,kz P mv o.op⟩
  |some (j,want)=>match(ops[j]?).bind (·.dst)with
   |some d=>some ⟨o.dst,some (d,want),kz P mv o.op⟩
   |none=>none
 else none
def jf(P:Program)(pp:List Nat)(nt:Nat)(ops:Array Oper):List Nat->List Oper->Option (List eB)
 |_,[]=>some []
 |m,o::r=>match tS P pp nt ops (m.headD 0) o,jf P pp nt ops m.tail r with
  |some t,some l=>some (t::l)
  |_,_=>none
def vj:List Oper->List (List Nat)->List (List Nat)
 | [],acc=>acc
 |o::r,acc=>vj r (acc++[((o.after.toList.filter (Region.binds .any)).flatMap λe=>e.on::acc.getD e.on []).eraseDups])
def tL(ops:List Oper)(deps:List (List Nat)):Nat->Bool
 |0=>true
 |i+1=>tL ops deps i&&match ops[i]? with
  |some o=>(o.after.toList.all λe=>!Region.binds .any e||decide (e.on<i))&&((deps.getD i []).all λj=>o.after.toList.any λe=>Region.binds .any e&&(e.on==j||(deps.getD e.on []).contains j))
  |none=>true
def tT(P:Program)(ops:Array Oper)(tops:List eB)(draw:Bool):Option (Option (List (List Nat))):=
 if draw then
  if P.follows .mixedOrders&&tL ops.toList (vj ops.toList []) ops.size then
   if rK (vj ops.toList []) tops (List.range tops.length)then some none else some (some (vj ops.toList []))
  else none
 else some none
def lQ:Code->Option Nat
 |.region id _ _=>some id
 |.seq _ b=>lQ b
 |.cond _ a b=>match lQ b with|some i=>some i|none=>lQ a
 |.block _ b=>lQ b
 |.scope b=>lQ b
 |_=>none
def xB(pers:Nat->Prs)(a:Code)(l:List (Nat×Option Nat)):eC->eC
 |.skip=>match lQ a with
  |some i=>.nrm (pers i)
  |none=>match l with
   | []=>.skip
   |_::_=>.nrm (l.filterMap λx=>match x.2 with|none=>some x.1|some _=>none,l.filterMap (·.2))
 |t=>t
def ID:Operand->Nat
 |.tmp t=>2000000+t
 |_=>2000000
def mH:Code->Nat
 |.seq a b=>mH a+mH b
 |.cond _ a b=>mH a+mH b
 |.block _ b=>mH b
 |.scope b=>mH b
 |.loop b=>mH b+1
 |_=>0
def H7(nt:Nat)(l:List (Nat×Option Nat)):Bool:=l.all λy=>decide (y.1<nt)
def IW(nt:Nat)(l:List (Nat×Option Nat))(a:eC):eC:=match l with | []=>a|_::_=>if H7 nt l then .pre l a else a
def DW(nt:Nat)(l:List (Nat×Option Nat))(a:eC):eC:=match l with | []=>a|_::_=>if H7 nt l then .post a l else a
def Jk(pp:List Nat)(nt:Nat)(l:List (Nat×Option Nat))(a:eC):eC:=match l with
 | [(i,some n)]=>if decide (i<nt) && !pp.contains i then .frz i n a else a
 |_=>a
def cJ(P:Program)(pp:List Nat)(nt:Nat)(mv:Nat->List Oper->Bool->List Nat)(pers:Nat->Prs)(H:Nat->List (Nat×Option Nat)):Code->Nat->Option eC
 |.skip,_=>some .skip
 |.region id ops draw,_=>match jf P pp nt ops (mv id ops.toList draw) ops.toList with
  |some l=>match tT P ops l draw with
   |some d=>some (Jk pp nt (H (4000000+id)) (IW nt (H (3000000+id)) (.reg id d l (pers id))))
   |none=>none
  |none=>none
 |.seq a b,i=>match cJ P pp nt mv pers H a i,cJ P pp nt mv pers H b (i+mH a)with
  |some x,some y=>some (.seq x y)
  |_,_=>none
 |.cond c a b,i=>match bq c,cJ P pp nt mv pers H a i,cJ P pp nt mv pers H b (i+mH a)with
  |some k,some x,some y=>some (.cond k (xB pers b (H (ID c)) x) (xB pers a (H (ID c)) y))
  |_,_,_=>none
 |.block id b,i=>(cJ P pp nt mv pers H b i).map (.block id)
 |.scope b,i=>(cJ P pp nt mv pers H b i).map .sc
 |.label _,_=>some (.sc .skip)
 |.loop b,i=>(cJ P pp nt mv pers H b (i+1)).map λx=>IW nt (H (i+1)) (.loop (DW nt (H (i+1)) x))
 |.exit id,_=>some (.exit id)
 |.ret,_=>some .ret
 |_,_=>none
def ky(P:Program):List ResultVar->Option (List TRs)
 | []=>some []
 |.tmp t::r=>(ky P r).map (.tmp t :: ·)
 |.cell t ty::r=>match uM P ty,ky P r with
  |some n,some l=>some (.cell t n::l)
  |_,_=>none
def uh(l:List Operand):List Nat:=l.filterMap λx=>match x with|.tmp t=>some t|_=>none
def Gj(l:List ResultVar):List Nat:=l.map λr=>match r with|.tmp t=>t|.cell t _=>t
def BX:Op->Bool
 |.load _ _=>true
 |.move (.tmp _)=>true
 |.field _ _ _=>true
 |.fieldAddr _ _ _=>true
 |.indexAddr _ _ _=>true
 |.slice _ _ _ _ _=>true
 |.nilCheck _=>true
 |.extract _ _=>true
 |.pick _ _ _=>true
 |_=>false
def kI(l:List Nat):Nat:=l.foldl (λb i=>b ||| (1 <<< i)) 0
def E5(nt b:Nat):List Nat:=(List.range nt).filter λi=>b.testBit i
def IC(b i:Nat):Nat:=if b.testBit i then b-(1 <<< i)else b
def Ct(ops:List Oper)(o:Oper):List Nat:=match o.guard with|some (j,_)=>((ops[j]?).bind (·.dst)).toList|none=>[]
def wq(ops:List Oper):List Oper->Nat->Nat
 | [],out=>out
 |o::r,out=>
  let b:=wq ops r out
  (match o.dst with|some d=>IC b d|none=>b) ||| kI (uh o.op.operands.toList++Ct ops o)
def qP(rt:Nat):Code->Nat->List (Nat×Nat)->Nat×List (Nat×Nat)
 |.region id ops _,out,_=>(wq ops.toList ops.toList out,[(id,out)])
 |.seq a b,out,ex=>let y:=qP rt b out ex;let x:=qP rt a y.1 ex;(x.1,x.2++y.2)
 |.cond c a b,out,ex=>let x:=qP rt a out ex;let y:=qP rt b out ex;(x.1 ||| y.1 ||| kI (uh [c]),x.2++y.2)
 |.block id b,out,ex=>qP rt b out ((id,out)::ex)
 |.scope b,out,ex=>qP rt b out ex
 |.loop b,_,ex=>let l:=(qP rt b 0 ex).1;qP rt b l ex
 |.exit id,_,ex=>((bO ex id).getD 0,[])
 |.ret,_,_=>(rt,[])
 |_,out,_=>(out,[])
def Cf(P:Program)(t:TypeId):Bool:=match P.underlying t with|some (.pointer _)=>true|_=>false
def sF(P:Program)(b:Nat)(o:Oper):Nat:=
 match o.dst with
 |some d=>
  if(match o.op with
   |.box _ _=>true
   |.alloc _=>true
   |.fieldAddr _ _ _=>true
   |.indexAddr _ _ _=>true
   |.nilCheck _=>true
   |.load t _=>Cf P t
   |.move (.tmp s)=>b.testBit s
   |.assign (.tmp s)=>b.testBit s
   |.call ⟨.value (.func f),_,_⟩=>match P.funcs[f]? with|some fn=>fn.resultTypes.toList.map (Cf P)==[true]|none=>false
   |_=>false)then b ||| (1 <<< d)else b
 |none=>b
def Da(b:Nat)(o:Oper):List (Nat×Nat):=
 match o.dst with
 |some d=>if BX o.op then(uh o.op.operands.toList).map λs=>(d,s)else match o.op with
  |.assign (.tmp s)=>if b.testBit s then[(d,s)]else[]
  |_=>[]
 |none=>[]
def Hb(P:Program)(pp:List Nat)(c:Code):List (Nat×Nat):=
 let ops:=fF c
 let b:=ops.foldl (sF P) (ops.foldl (sF P) (kI pp))
 ops.flatMap (Da b)
def Jg(o:Oper):Bool:=match o.op with
 |.extract _ _=>true
 |_=>false
def EP(P:Program)(pp:List Nat)(c:Code):List (Nat×Nat):=
 let ops:=fF c
 let b:=ops.foldl (sF P) (ops.foldl (sF P) (kI pp))
 (ops.filter λo=>!Jg o).flatMap (Da b)
def sg(al:List (Nat×Nat))(b:Nat):Nat:=al.foldr (λx b=>if b.testBit x.1 then b ||| (1 <<< x.2)else b) b
def Gf(l:List Nat):List Nat:=l.flatMap λi=>[2*i+2,2*i+3]
def FC:Op->List Operand
 |.store _ _ x=>[x]
 |.call ⟨.builtin .append,args,_⟩=>args.toList.tail
 |op=>op.operands.toList
def Ju(el:Nat)(al:List (Nat×Nat))(after:Nat)(o:Oper):Bool:=
 let live:=sg al (sg al after)
 (uh (FC o.op)).all λt=>!el.testBit t&&(sg al (sg al (1 <<< t))) &&& live==0
def Ij(el:Nat)(al:List (Nat×Nat))(ops:List Oper)(out:Nat):List Oper->List Bool
 | []=>[]
 |o::r=>Ju el al (wq ops r out) o::Ij el al ops out r
def yy(b:Nat)(o:Oper):Nat:=
 match o.dst with
 |some d=>
  if(match o.op with
   |.indexAddr _ _ _=>true
   |.fieldAddr _ (.tmp s) _=>b.testBit s
   |.load _ (.tmp s)=>b.testBit s
   |.nilCheck (.tmp s)=>b.testBit s
   |.move (.tmp s)=>b.testBit s
   |.field _ (.tmp s) _=>b.testBit s
   |_=>false)then b ||| (1 <<< d)else b
 |none=>b
def BY(el:Nat)(al:List (Nat×Nat))(ops:List Oper)(out:Nat):List (Nat×Oper)->List Bool
 | []=>[]
 |(i,o)::r=>Ju el al (out ||| kI ((ops.zipIdx.filter λx=>x.2 != i).flatMap λx=>uh x.1.op.operands.toList)) o::BY el al ops out r
def JC(P:Program)(pp:List Nat)(c:Code)(res:List Nat):Nat->List Oper->Bool->List Bool:=
 let tb:=(qP (kI res) c (kI res) []).2
 let al:=EP P pp c
 let Ro:=kI pp
 let el:=(fF c).foldl yy ((fF c).foldl yy 0)
 λid ops draw=>
  let out:=((bO tb id).getD 0) ||| Ro
  if draw then BY el al ops out (ops.zipIdx.map λx=>(x.2,x.1))else Ij el al ops out ops
def Ig(P:Program)(pp:List Nat)(nt:Nat)(c:Code)(res:List Nat):Nat->Prs:=
 let tb:=(qP (kI res) c (kI res) []).2
 let al:=Hb P pp c
 let Ro:=kI pp
 λid=>
  let b:=((bO tb id).getD 0) ||| Ro
  (E5 nt b,Gf (E5 nt (sg al (sg al b))))
def pO(P:Program):Nat->List TypeId->List Nat
 |_,[]=>[]
 |i,t::r=>match P.underlying t with
  |some (.pointer _)=>i::pO P (i+1) r
  |_=>pO P (i+1) r
def mvH(H:Nat->List (Nat×Option Nat))(mv:Nat->List Oper->Bool->List Bool):Nat->List Oper->Bool->List Nat:=
 λid ops draw=>match H (1000000+id)with
  | []=>(mv id ops draw).map λb=>if b then 1 else 0
  |l=>(mv id ops draw).zipIdx.map λx=>match l.find? λy=>y.1==x.2 with
   |some y=>y.2.getD 0
   |none=>if x.1 then 1 else 0
def qu(P:Program):Code->Option Code
 |.seq (.region _ a0 false) (.seq (.seq (.region _ a1 false) (.cond (.tmp 4) (.seq (.region _ a2 false) .ret) .skip)) rest)=>
  match a0.toList,a1.toList,a2.toList with
  | [⟨some 2,.assign (.const (.slice none 0 0)),_,_,_,none⟩],[⟨some 3,.move (.tmp 0),_,_,_,none⟩,⟨some 4,.binOp .eql ty (.tmp 3) (.const (.slice none 0 0)) _,_,_,_,none⟩],[⟨some 2,.assign (.const (.slice none 0 0)),_,_,_,none⟩]=>
   match P.underlying ty with
   |some (.slice _)=>some rest
   |_=>none
  |_,_,_=>none
 |_=>none
def qq(P:Program)(fn:Func)(c:Code):Option TFn:=
 match qu P c with
 |some (.seq (.region id ops false) .ret)=>
  match jf P [1000] 8 ops [0,0,0,1] ops.toList with
  |some [⟨some 5,none,.bsl sz b 0 []⟩,⟨some 6,none,.mov (.t 0)⟩,⟨some 7,none,.app sz2 bytes mv fl (.t 5) (.t 6)⟩,⟨some 2,none,.asn true (.t 7)⟩]=>
   if sz2=sz/\pn (vo sz b bytes mv fl id)=true/\fn.params.size=1/\fn.ntmps=8 then
    match ky P fn.results.toList with
    |some [.tmp 2]=>some ⟨1,[1000],8,vo sz b bytes mv fl id,[.tmp 2]⟩
    |_=>none
   else none
  |_=>none
 |_=>none
def kA(P:Program)(H:Nat->List (Nat×Option Nat))(f:FuncId):Option TFn:=
 match P.funcs[f]? with
 |some fn=>
  match fn.body with
  |some c=>
   match qq P fn c with
   |some tf=>some tf
   |none=>
   let np:=fn.params.size+fn.nfree
   let pp:=pO P 0 fn.params.toList++(List.range fn.nfree).map (fn.params.size + ·)
   let rt:=Gj fn.results.toList
   let pers:=Ig P pp fn.ntmps c rt
   match cJ P pp fn.ntmps (mvH H (JC P pp c rt)) pers H c 0,ky P fn.results.toList with
   |some tc,some rs=>some ⟨np,pp,fn.ntmps,DW fn.ntmps (H 0) tc,rs⟩
   |_,_=>none
  |none=>none
 |none=>none
section
variable {P:Program} {M:Fm} {pp:List Nat} {nt:Nat}
theorem se:∀{qs:List ResultVar}{l:List TRs},ky P qs=some l->l.length=qs.length/\∀k (h:k<l.length)(h':k<qs.length),xq P l[k] qs[k]:=by
 intro qs
 induction qs with
 |nil=>
  intro l h;simp only[ky]at h
  simp_all
 |cons q qs ih=>
  intro l h
  cases q with
  |tmp t=>
   obtain⟨l',h1,rfl⟩:=dV h;obtain⟨e,h2⟩:=ih h1;refine⟨by simp[e],λk hk YW=>?_⟩
   cases k with
   |zero=>exact rfl
   |succ k=>exact h2 k (by simpa using hk) (by simp_all)
  |cell t ty=>
   simp only[ky]at h;split at h
   ·rename_i n l' h1 h2
    injection h with h
    subst h;obtain⟨e,h3⟩:=ih h2;refine⟨by simp[e],λk hk YW=>?_⟩
    cases k with
    |zero=>exact⟨ty,rfl,pT h1⟩
    |succ k=>exact h3 k (by simp_all) (by simp_all)
   ·simp at h
theorem qr{own:Nat->Bool}:∀{xs:List Operand}{i:Nat}{ts:List TypeId}{l:List (Option Nat×Opd)},kW P own i ts xs=some l->l.length=xs.length/\∀j (h:j<l.length)(h':j<xs.length),bq xs[j]=some l[j].2:=by
 intro xs
 induction xs with
 |nil=>
  intro i ts l h;simp only[kW]at h
  simp_all
 |cons x xs ih=>
  intro i ts l h;simp only[kW]at h;split at h
  ·rename_i y l' h1 h2;obtain⟨e,h3⟩:=ih h2
   obtain⟨n,rfl⟩:∃n,l=(n,y)::l':=by
    (repeat' split at h)<;>first|(injection h with h;exact⟨_,h.symm⟩)|simp at h
   refine⟨by simp[e],λj hj ZT=>?_⟩
   cases j with
   |zero=>exact h1
   |succ j=>exact h3 j (by simp_all) (by simp_all)
  ·simp at h
theorem xf{op:Op}{t:TOp}(h:pm P op=some t):kp op t:=by
 unfold pm at h;split at h
 ·rename_i f args tys;split at h
  ·obtain⟨l,h1,rfl⟩:=dV h;have ⟨e,h2⟩:=qr h1;exact⟨rfl,by omega,λj hj ZT=>by simp_all⟩
  ·simp at h
 ·rename_i i args tys;obtain⟨l,h1,rfl⟩:=dV h;have ⟨e,h2⟩:=qr h1;exact⟨rfl,by omega,λj hj ZT=>by simp_all⟩
 ·simp at h
theorem zX{mv:Nat}{op:Op}{t:TOp}(h:kp op t):kp op (wU mv t):=by
 unfold wU;split
 ·rename_i k f args;split
  ·cases op with
   |call c=>
    have ⟨callee,asq,tys⟩:=c
    cases callee with
    |value fo=>
     have ⟨h1,h2,h3⟩:=h;exact⟨h1,by simp_all,λj hj ZT=>by simp_all⟩
    |_=>exact h
   |_=>exact h
  ·exact h
 ·exact h
theorem wZ{ops:Array Oper}{mv:Nat}{o:Oper}{t:eB}(hN:M.N=nt)(Y5:∀r,M.pr r≠none->∃i∈pp,r=2*i+2)(h:tS P pp nt ops mv o=some t):oD P M eu ops o t:=by
 unfold tS at h;split at h
 case isFalse=>simp at h
 rename_i hd
 have hd':∀d,o.dst=some d->d<M.N/\M.pr (2*d+2)=none:=λd e=>by
  simp only[IA,oDE,Bool.not_eq_true',List.contains_eq_mem,decide_eq_false_iff_not]at hd;refine⟨by simp_all,?_⟩
  cases hp:M.pr (2*d+2)with
  |none=>rfl
  |some x=>
   obtain⟨i,hi,e2⟩:=Y5 (2*d+2) (by rw[hp];simp);have e3:d=i:=Nat.eq_of_mul_eq_mul_left (by decide:0<2) (Nat.add_right_cancel e2)
   simp_all
 have S5:(∃Pl,dq P Pl o.op=some (kz P mv o.op))\/eu o.op (kz P mv o.op):=by
  unfold kz
  cases h1:dq P mv o.op with
  |some t1=>exact .inl ⟨mv,h1⟩
  |none=>
   cases h2:pm P o.op with
   |some t1=>exact .inr (.inr (zX (xf h2)))
   |none=>exact .inr (.inl rfl)
 split at h
 ·rename_i hg
  injection h with h
  subst h;exact⟨rfl,hd',.inl ⟨hg,rfl⟩,S5⟩
 ·rename_i j want hg;split at h
  ·rename_i d hj
   injection h with h
   subst h;exact⟨rfl,hd',.inr ⟨j,want,d,hg,rfl,hj⟩,S5⟩
  ·simp at h
theorem ov{ops:Array Oper}(hN:M.N=nt)(Y5:∀r,M.pr r≠none->∃i∈pp,r=2*i+2):∀{l:List Oper}{mv:List Nat}{ts:List eB},jf P pp nt ops mv l=some ts->ts.length=l.length/\∀i (h:i<l.length)(h':i<ts.length),oD P M eu ops l[i] ts[i]:=by
 intro l
 induction l with
 |nil=>
  intro mv ts h;simp[jf]at h
  simp_all
 |cons o l ih=>
  intro mv ts h;simp[jf]at h;split at h
  ·rename_i t l' h1 h2
   injection h with h
   subst h;have ⟨e,h3⟩:=ih h2;refine⟨by simp[e],λj hj ZT=>?_⟩
   cases j with
   |zero=>exact wZ hN Y5 h1
   |succ j=>simp_all
  ·simp at h
theorem sd{ops:List Oper}{deps:List (List Nat)}:∀{n:Nat},tL ops deps n=true->∀i,i<n->∀(h:i<ops.length),(∀e∈ops[i].after.toList,Region.binds .any e=true->e.on<i)/\∀j∈deps.getD i [],∃e∈ops[i].after.toList,Region.binds .any e=true/\(e.on=j\/j∈deps.getD e.on []):=by
 intro n
 induction n with
 |zero=>intro _ i hi;omega
 |succ n ih=>
  intro h i hi hl;simp only[tL,oBA]at h;by_cases e:i<n
  ·exact ih h.1 i e hl
  ·obtain rfl:i=n:=by omega
   have h2:=h.2;rw[oGE hl]at h2;simp only[oBA,List.all_eq_true,List.any_eq_true,Bool.or_eq_true,Bool.not_eq_true',oDE,beq_iff_eq,List.contains_eq_mem]at h2;refine⟨λe he hb=>?_,λj hj=>?_⟩
   ·rcases h2.1 e he with h3|h3
    ·simp_all
    ·exact h3
   ·simp_all
def IT(P:Program)(ops:Array Oper)(tops:List eB)(draw:Bool)(d:Option (List (List Nat))):Prop:=match d with
 |some deps=>draw=true/\qG ops deps/\P.follows .mixedOrders=true
 |none=>draw=true->∃deps,qG ops deps/\P.follows .mixedOrders=true/\rK deps tops (List.range tops.length)=true
theorem xd{ops:Array Oper}{tops:List eB}{draw:Bool}{d:Option (List (List Nat))}(h:tT P ops tops draw=some d):IT P ops tops draw d:=by
 unfold tT at h;split at h
 ·rename_i hd;split at h
  case isFalse=>simp at h
  rename_i hc;simp at hc
  have hD:qG ops (vj ops.toList []):=by
   refine⟨λi hi e he hb=>?_,λi hi j hj=>?_⟩
   ·exact(sd hc.2 i hi (by simpa using hi)).1 e (by simp_all) hb
   ·have ⟨e,he,h3⟩:=(sd hc.2 i hi (by omega)).2 j hj;exact⟨e,by simp_all,h3⟩
  split at h
  ·rename_i hs
   injection h with h
   subst h;exact λ_=>⟨_,hD,hc.1,hs⟩
  ·injection h with h
   subst h;exact⟨hd,hD,hc.1⟩
 ·rename_i hd
  injection h with h
  subst h;exact λh'=>absurd h' (by omega)
theorem ul{isCall:Op->TOp->Prop}{pers:Nat->Prs}{a c:Code}{l:List (Nat×Option Nat)}{t:eC}(h:dJ P M isCall t c):dJ P M isCall (xB pers a l t) c:=by
 cases t with
 |skip=>
  unfold xB
  cases lQ a with
  |some i=>exact h
  |none=>cases l<;>exact h
 |_=>exact h
theorem BI(hN:M.N=nt){l:List (Nat×Option Nat)}{x:eC}{c:Code}(h:dJ P M eu x c):dJ P M eu (IW nt l x) c:=by
 unfold IW;split
 ·exact h
 ·split
  ·rename_i hl;refine⟨λy hy=>?_,h⟩;have:=List.all_eq_true.1 hl y hy
   simp_all
  ·exact h
theorem xT(hN:M.N=nt){l:List (Nat×Option Nat)}{x:eC}{c:Code}(h:dJ P M eu x c):dJ P M eu (DW nt l x) c:=by
 unfold DW;split
 ·exact h
 ·split
  ·rename_i hl;refine⟨λy hy=>?_,h⟩;have:=List.all_eq_true.1 hl y hy
   simp_all
  ·exact h
theorem GM(hN:M.N=nt)(Y5:∀r,M.pr r≠none->∃i∈pp,r=2*i+2){l:List (Nat×Option Nat)}{x:eC}{c:Code}(h:dJ P M eu x c):dJ P M eu (Jk pp nt l x) c:=by
 unfold Jk;split
 ·rename_i i n;split
  ·rename_i hc;simp only[oBA,oDE,Bool.not_eq_true']at hc;refine⟨⟨by rw[hN];exact hc.1,?_⟩,h⟩
   cases hp:M.pr (2*i+2)with
   |none=>rfl
   |some y=>
    obtain⟨j,hj,e⟩:=Y5 (2*i+2) (by rw[hp];simp)
    have e2:i=j:=by omega
    subst e2;have:=hc.2;simp[List.contains_iff_mem,hj]at this
  ·exact h
 ·exact h
theorem xe{mv:Nat->List Oper->Bool->List Nat}{pers:Nat->Prs}{H:Nat->List (Nat×Option Nat)}(hN:M.N=nt)(Y5:∀r,M.pr r≠none->∃i∈pp,r=2*i+2):∀{c:Code}{i:Nat}{tc:eC},cJ P pp nt mv pers H c i=some tc->dJ P M eu tc c:=by
 intro c
 induction c with
 |skip=>intro i tc h;simp only[cJ,oSJ]at h;subst h;exact rfl
 |exit id=>intro i tc h;simp only[cJ,oSJ]at h;subst h;exact rfl
 |ret=>intro i tc h;simp only[cJ,oSJ]at h;subst h;exact rfl
 |region id ops draw=>
  intro i tc h;simp only[cJ]at h;split at h
  case h_2=>simp at h
  rename_i l h1;split at h
  case h_2=>simp at h
  rename_i d hd
  injection h with h
  subst h;obtain⟨e,h2⟩:=ov hN Y5 h1;exact GM hN Y5 (BI hN ⟨id,ops,draw,rfl,by simpa using e,λi hi ZH=>by have:=h2 i (by simpa using hi) ZH;simpa using this,xd hd⟩)
 |seq a b Zg Zb=>
  intro i tc h;simp only[cJ]at h;split at h
  ·rename_i x y h1 h2
   injection h with h
   subst h;exact⟨a,b,rfl,Zg h1,Zb h2⟩
  ·simp at h
 |cond k a b Zg Zb=>
  intro i tc h;simp only[cJ]at h;split at h
  ·rename_i k' x y h1 h2 h3
   injection h with h
   subst h;exact⟨k,a,b,rfl,h1,ul (Zg h2),ul (Zb h3)⟩
  ·simp at h
 |block id b ih=>
  intro i tc h;simp only[cJ]at h;obtain⟨x,h1,rfl⟩:=dV h;exact⟨b,rfl,ih h1⟩
 |loop b ih=>
  intro i tc h;simp only[cJ]at h;obtain⟨x,h1,rfl⟩:=dV h;exact BI hN ⟨b,rfl,xT hN (ih h1)⟩
 |scope b ih=>
  intro i tc h;simp only[cJ]at h;obtain⟨x,h1,rfl⟩:=dV h;exact .inr ⟨b,rfl,ih h1⟩
 |label l=>intro i tc h;simp only[cJ,oSJ]at h;subst h;exact .inl ⟨l,rfl,rfl⟩
 |_=>intro i tc h;simp[cJ]at h
theorem nD{α:Type}{a:Array α}{l:List α}(h:a.toList=l):a=l.toArray:=by rw[<- h]
theorem vm{c rest:Code}(h:qu P c=some rest):Df P c rest:=by
 unfold qu at h;split at h
 case h_2=>cases h
 rename_i i0 a0 i1 a1 i2 a2 Po;split at h
 case h_2=>cases h
 rename_i t0 s0 f0 t1 s1 f1 ty ty2 t2 s2 f2 t3 s3 f3 e0 e1 e2;split at h
 case h_2=>cases h
 rename_i e hu
 injection h with h
 subst h;exact⟨i0,i1,i2,_,_,_,_,ty,_,e,by rw[nD e0,nD e1,nD e2],⟨rfl,rfl,rfl⟩,⟨rfl,rfl,rfl⟩,⟨rfl,rfl,rfl⟩,⟨rfl,rfl,rfl⟩,hu⟩
theorem ox{fn:Func}{c:Code}{tf:TFn}(h:qq P fn c=some tf):De P tf c/\tf.nt=fn.ntmps/\tf.np=fn.params.size/\ky P fn.results.toList=some tf.res:=by
 unfold qq at h;split at h
 case h_2=>cases h
 rename_i id ops hr;split at h
 case h_2=>cases h
 rename_i sz b sz2 bytes mv fl hops;split at h
 case isFalse=>cases h
 rename_i hc;obtain⟨rfl,P9,hp,hn⟩:=hc;split at h
 case h_2=>cases h
 rename_i YC
 injection h with h
 subst h;refine⟨⟨rfl,rfl,rfl,rfl,P9,⟨_,_,_,_,_,_,rfl⟩,_,vm hr,λM hN Y5=>?_⟩,hn.symm,hp.symm,YC⟩;obtain⟨e,h2⟩:=ov (nt:=8) hN Y5 hops;exact⟨_,_,rfl,⟨id,ops,false,rfl,by omega,λi hi ZH=>by simp_all,λh=>by cases h⟩,rfl⟩
theorem Dl{T:FuncId->Option TFn}(h:∀f tf,T f=some tf->(∃H,kA P H f=some tf)/\tf.np<=tf.nt/\∀fn,P.funcs[f]?=some fn->(fn.name=="runtime.NumGoroutine")=false):t6 P T:=by
 intro f tf hT;obtain⟨⟨H,h1⟩,h2,h3⟩:=h f tf hT;unfold kA at h1;split at h1
 case h_2=>simp at h1
 rename_i fn hf;split at h1
 case h_2=>simp at h1
 rename_i c hb;split at h1
 ·rename_i NV hcl
  injection h1 with h1
  subst h1;obtain⟨g1,g2,g3,g4⟩:=ox hcl;have ⟨e,YC⟩:=se g4;exact⟨fn,c,hf,h3 fn hf,hb,g2.symm,h2,.inr g1,by simpa using e,λk hk YW=>by have:=YC k hk (by simpa using YW);simpa using this⟩
 simp only at h1;split at h1
 ·rename_i tc rs hc hr
  injection h1 with h1
  subst h1;have ⟨e,YC⟩:=se hr;exact⟨fn,c,hf,h3 fn hf,hb,rfl,h2,.inl λM hN Y5=>xT hN (xe hN Y5 hc),by simpa using e,λk hk YW=>by have:=YC k hk (by simpa using YW);simpa using this⟩
 ·simp at h1
end
theorem yS{E:Env}{T:FuncId->Option TFn}{B F:cu}{n:Nat}{f:FuncId}{tf:TFn}(h:T f=some tf)(vals:List TV)(pts:Pts):vJ E T B F n f vals pts=runT E F n tf vals pts:=by
 unfold vJ;rw[h]
def arR(op:BinOp)(k:IntKind)(a b:Int):Int:=
 match op with
 |.add=>k.wrap (a+b)
 |.sub=>k.wrap (a-b)
 |.mul=>k.wrap (a*b)
 |.quo=>k.wrap (a.tdiv b)
 |.rem=>a.tmod b
 |.and=>k.wrap (BitVec.ofInt k.bits a &&& BitVec.ofInt k.bits b).toNat
 |.or=>k.wrap (BitVec.ofInt k.bits a ||| BitVec.ofInt k.bits b).toNat
 |.xor=>k.wrap (BitVec.ofInt k.bits a ^^^ BitVec.ofInt k.bits b).toNat
 |.andNot=>k.wrap (BitVec.ofInt k.bits a &&& ~~~BitVec.ofInt k.bits b).toNat
 |_=>0
def shR(op:BinOp)(k:IntKind)(a:Int)(n:Nat):Int:=
 match op with
 |.shl=>k.wrap (a*2 ^ (min n k.bits))
 |.shr=>a.fdiv (2 ^ (min n k.bits))
 |_=>0
def cmR(op:BinOp)(a b:Int):Bool:=
 match op with
 |.eql=>a==b
 |.neq=>a != b
 |.lss=>decide (a<b)
 |.leq=>decide (a<=b)
 |.gtr=>decide (a>b)
 |.geq=>decide (a>=b)
 |_=>false
def I3{α:Type}(f:α->Bool):List α->Bool
 | []=>true
 |x::r=>match f x with|true=>I3 f r|false=>false
def Hw{α:Type}(f:α->Bool):List α->Bool
 | []=>false
 |x::r=>match f x with|true=>true|false=>Hw f r
def zG(a b:List Loc):Bool:=Hw (λw=>Hw (λx=>w.hit x) b) a
def CQ(a b:k9):Bool:=match zG a.2 b.1 with
 |true=>true
 |false=>match zG a.2 b.2 with
  |true=>true
  |false=>match zG b.2 a.1 with
   |true=>true
   |false=>zG b.2 a.2
def sH(d:List Nat)(j:Nat)(F F':k9):Bool:=match d.contains j with
 |true=>true
 |false=>!CQ F F'
def mC(deps:List (List Nat)):List (Nat×k9)->Bool
 | []=>true
 |(j,F)::r=>match I3 (λy=>sH (deps.getD y.1 []) j F y.2) r with|true=>mC deps r|false=>false
theorem Ha{α:Type}(f:α->Bool)(l:List α):I3 f l=l.all f:=by
 induction l with
 |nil=>rfl
 |cons x l ih=>simp[I3];cases f x<;>simp[ih]
theorem C9{α:Type}(f:α->Bool)(l:List α):Hw f l=l.any f:=by
 induction l with
 |nil=>rfl
 |cons x l ih=>simp[Hw];cases f x<;>simp[ih]
theorem D7(a b:List Loc):zG a b=zH a b:=by
 have e:(λw:Loc=>Hw (λx=>w.hit x) b)=λw:Loc=>b.any λx=>w.hit x:=funext λw=>C9 _ _;unfold zG zH;rw[C9,e]
theorem CP(a b:k9):CQ a b=jz a b:=by
 unfold CQ jz;simp[D7]
 grind
theorem zA(d:List Nat)(j:Nat)(a b:k9):sH d j a b=(!jz a b||d.contains j):=by
 unfold sH;rw[CP];cases d.contains j<;>simp
theorem wj(deps:List (List Nat))(fs:List (Nat×k9)):mC deps fs=ew deps fs:=by
 induction fs with
 |nil=>rfl
 |cons x r ih=>
  have ⟨j,F⟩:=x;have e:(λy:Nat×k9=>sH (deps.getD y.1 []) j F y.2)=λy=>!jz F y.2||(deps.getD y.1 []).contains j:=funext λy=>zA _ _ _ _;simp only[mC,ew,Ha,ih,e];cases r.all λy=>!jz F y.2||(deps.getD y.1 []).contains j<;>simp
theorem wrap_i64{x:Int}(h1:-9223372036854775808<=x)(h2:x<=9223372036854775807):IntKind.wrap .i64 x=x:=by
 have e1:(2:Int) ^ IntKind.bits .i64=18446744073709551616:=by rfl
 have e2:(2:Int) ^ (IntKind.bits .i64-1)=9223372036854775808:=by rfl
 have e3:IntKind.signed .i64=true:=rfl;unfold IntKind.wrap;simp[e1,e3];omega
theorem xu(x:Int):IntKind.wrap .u16 x=x%65536:=by
 have e1:(2:Int) ^ IntKind.bits .u16=65536:=by rfl
 have e3:IntKind.signed .u16=false:=rfl;unfold IntKind.wrap
 simp_all
inductive CT where
 |int (k:IntKind)
 |bool
 |str
 |nat
 |row (own:Bool) (t:CT)
 |nilr (own:Bool)
 |pair (a b:CT)
def lf:CT->CT->Bool
 |.int k,.int k'=>decide (k=k')
 |.bool,.bool=>true
 |.str,.str=>true
 |.nat,.nat=>true
 |.row o t,.row o' t'=>(o==o')&&lf t t'
 |.nilr o,.nilr o'=>o==o'
 |.pair a b,.pair a' b'=>lf a a'&&lf b b'
 |_,_=>false
theorem mV:∀{a b:CT},lf a b=true->a=b:=by
 intro a
 induction a with
 |int k=>intro b h;cases b<;>simp_all [lf]
 |bool=>intro b h;cases b<;>simp_all [lf]
 |str=>intro b h;cases b<;>simp_all [lf]
 |nat=>intro b h;cases b<;>simp_all [lf]
 |row o t ih=>intro b h;cases b<;>simp[lf]at h;rw[h.1,ih h.2]
 |nilr o=>intro b h;cases b<;>simp_all [lf]
 |pair x y X1 Uv=>intro b h;cases b<;>simp[lf]at h;rw[X1 h.1,Uv h.2]
def fI:CT->CT->Bool
 |.int k,.int k'=>decide (k=k')
 |.bool,.bool=>true
 |.str,.str=>true
 |.nat,.nat=>true
 |.row _ t,.row _ t'=>fI t t'
 |.nilr _,.nilr _=>true
 |.pair a b,.pair a' b'=>fI a a'&&fI b b'
 |_,_=>false
def zY:CT->CT->Bool
 |.int k,.int k'=>decide (k=k')
 |.bool,.bool=>true
 |.str,.str=>true
 |.nat,.nat=>true
 |.row o t,.row o' t'=>(o==o')&&zY t t'
 |.nilr o,.nilr o'=>o==o'
 |.nilr o,.row o' _=>o==o'
 |.pair a b,.pair a' b'=>zY a a'&&zY b b'
 |_,_=>false
def fm:CT->Nat
 |.pair a b=>fm a+fm b
 |.nat=>0
 |_=>1
def lm:CT->CT
 |.row true t=>.row false (lm t)
 |.nilr _=>.nilr false
 |.pair a b=>.pair (lm a) (lm b)
 |t=>t
def shT:CT->Nat->List Nat->Option CT
 |.pair a b,o,os=>if o<fm a then(shT a o os).map (.pair · b)else(shT b (o-fm a) os).map (.pair a ·)
 |t,0,[]=>some (lm t)
 |.row true t,0,o::os=>(shT t o os).map (.row true)
 |t,_,_=>some t
abbrev den:CT->Type
 |.int _=>Int
 |.bool=>Bool
 |.str=>ByteArray
 |.nat=>Nat
 |.row _ t=>List (den t)
 |.nilr _=>Unit
 |.pair a b=>den a×den b
theorem dH:∀{a b:CT},fI a b=true->den a=den b:=by
 intro a
 induction a with
 |int k=>intro b h;cases b<;>simp[fI]at h;rfl
 |bool=>intro b h;cases b<;>simp[fI]at h;rfl
 |str=>intro b h;cases b<;>simp[fI]at h;rfl
 |nat=>intro b h;cases b<;>simp[fI]at h;rfl
 |row o t ih=>intro b h;cases b<;>simp[fI]at h;simp only[den];rw[ih h]
 |nilr o=>intro b h;cases b<;>simp[fI]at h;rfl
 |pair x y X1 Uv=>intro b h;cases b<;>simp[fI]at h;simp only[den];rw[X1 h.1,Uv h.2]
def Hu:(t:CT)->den t
 |.int _=>(0:Int)
 |.bool=>false
 |.str=>ByteArray.empty
 |.nat=>(0:Nat)
 |.row _ _=>[]
 |.nilr _=>()
 |.pair a b=>(Hu a,Hu b)
def Fk:(a b:CT)->den a->den b
 |.row _ t,.row _ t',xs=>List.map (Fk t t') xs
 |.pair a b,.pair a' b',x=>(Fk a a' x.1,Fk b b' x.2)
 |.int _,.int _,x=>x
 |.bool,.bool,x=>x
 |.str,.str,x=>x
 |.nat,.nat,x=>x
 |_,b,_=>Hu b
def enc:(t:CT)->den t->List TV
 |.int k,x=>[.v (.int k x)]
 |.bool,x=>[.v (.bool x)]
 |.str,x=>[.v (.string x)]
 |.nat,_=>[]
 |.row true t,xs=>[.ow (List.map (enc t) xs)]
 |.row false t,xs=>[.sl (List.map (enc t) xs)]
 |.nilr true,_=>[.ow []]
 |.nilr false,_=>[.sl []]
 |.pair a b,x=>enc a x.1++enc b x.2
def HL(D:CT->Type):List CT->Type
 | []=>Unit
 |t::ts=>D t×HL D ts
def sI:List (List CT)->Nat->List CT
 | [],_=>[]
 |l::_,0=>l
 |_::r,i+1=>sI r i
def so:List (List CT)->Type
 | []=>Empty
 | [l]=>HL den l
 |l::m::r=>HL den l⊕so (m::r)
def nR:(ls:List (List CT))->(i:Nat)->HL den (sI ls i)->Option (so ls)
 | [],_,_=>none
 | [_],0,h=>some h
 | [_],_+1,_=>none
 |_::_::_,0,h=>some (.inl h)
 |_::m::r,i+1,h=>(nR (m::r) i h).map .inr
def Ix{α:Type}:(ls:List (List CT))->((i:Nat)->HL den (sI ls i)->α)->so ls->α
 | [],_,o=>Empty.elim o
 | [_],f,o=>f 0 o
 |_::m::r,f,o=>match o with
  |.inl h=>f 0 h
  |.inr o'=>Ix (m::r) (λi h=>f (i+1) h) o'
def gy{α:Type}(ls:List (List CT))(o:so ls)(f:(i:Nat)->HL den (sI ls i)->α):α:=Ix ls f o
structure Alg (D:CT->Type)(M:Type->Type) where
 lit:(k:IntKind)->Int->D (.int k)
 litB:Bool->D .bool
 litS:ByteArray->D .str
 litN:Nat->D .nat
 nilv:(o:Bool)->D (.nilr o)
 nil:(o:Bool)->(t:CT)->D (.row o t)
 recast:(t t':CT)->fI t t'=true->D t->D t'
 coe:(t t':CT)->D t->D t'
 mkp:(a b:CT)->D a->D b->D (.pair a b)
 fst:(a b:CT)->D (.pair a b)->D a
 snd:(a b:CT)->D (.pair a b)->D b
 ar:BinOp->(k:IntKind)->D (.int k)->D (.int k)->D (.int k)
 cm:BinOp->(k:IntKind)->D (.int k)->D (.int k)->D .bool
 sh:BinOp->(k:IntKind)->D (.int k)->D .nat->D (.int k)
 neg:(k:IntKind)->D (.int k)->D (.int k)
 not:D .bool->D .bool
 cv:(k k':IntKind)->D (.int k)->D (.int k')
 mm:Bool->(k:IntKind)->D (.int k)->D (.int k)->D (.int k)
 eqB:D .bool->D .bool->D .bool
 eqS:D .str->D .str->D .bool
 eqT:D .str->D .str->D .bool
 andB:D .bool->D .bool->D .bool
 ite:(t:CT)->D .bool->D t->D t->D t
 natI:D .nat->D (.int .i64)
 addN:D .nat->D .nat->D .nat
 subN:D .nat->D .nat->D .nat
 minN:D .nat->D .nat->D .nat
 len:(o:Bool)->(t:CT)->D (.row o t)->D .nat
 slOk:D .nat->D .nat->D .nat->D .bool
 ltN:D .nat->D .nat->D .bool
 eqN:D .nat->D .nat->D .bool
 win:(o:Bool)->(t:CT)->D (.row o t)->D .nat->D .nat->D (.row o t)
 appOk:Nat->D .nat->D .nat->D .bool
 cat:(t:CT)->(o:Bool)->D (.row true t)->D (.row o t)->D (.row true t)
 rowl:(o:Bool)->(t:CT)->List (D t)->D (.row o t)
 mkOk:D .nat->D .nat->Nat->D .bool
 rep:(t:CT)->D .nat->D t->D (.row true t)
 upd:(t:CT)->D (.row true t)->D .nat->(D t->D t)->D (.row true t)
 rowF:Nat->D (.row true (.int .i64))->D (.row true (.int .i64))
 rowN:D (.row true (.int .i64))->D .nat
 splice:(t:CT)->(o:Bool)->D (.row true t)->D .nat->D .nat->D (.row o t)->D (.row true t)
 strLen:D .str->D (.int .i64)
 strB:D .str->D (.row false (.int .u8))
 strOk:D .str->D .bool
 fail:{X:Type}->M X
 br:{X:Type}->D .bool->M X->M X->M X
 nat:{X:Type}->(k:IntKind)->D (.int k)->(D .nat->M X)->M X
 get:{X:Type}->(o:Bool)->(t:CT)->D (.row o t)->D .nat->(D t->M X)->M X
 strAt:{X:Type}->D .str->D .nat->(D (.int .u8)->M X)->M X
 bstr:{X:Type}->D (.row false (.int .u8))->(D .str->M X)->M X
 lt:{X:Type}->(t:CT)->D t->(D t->M X)->M X
 call:{X:Type}->Nat->(ins:List CT)->(outs:List (List CT))->(HL den ins->Option (so outs))->HL D ins->((i:Nat)->HL D (sI outs i)->M X)->M X
 loop:{X:Type}->Nat->(s:List CT)->(outs:List (List CT))->HL D s->(HL D s->M (HL den s⊕so outs))->((i:Nat)->HL D (sI outs i)->M X)->M X
 join:{X:Type}->(outs:List (List CT))->M (so outs)->((i:Nat)->HL D (sI outs i)->M X)->M X
 next:(s:List CT)->(outs:List (List CT))->HL D s->M (HL den s⊕so outs)
 exitL:(s:List CT)->(outs:List (List CT))->(i:Nat)->HL D (sI outs i)->M (HL den s⊕so outs)
 out:(outs:List (List CT))->(i:Nat)->HL D (sI outs i)->M (so outs)
def dM:Int->Option Nat
 |.ofNat n=>some n
 |.negSucc _=>none
def dh{α:Type}(xs:List α)(i:Nat):Option α:=xs[i]?
def JE(a b:Bool):Bool:=a==b
def JD(a b:ByteArray):Bool:=a==b
def GQ(a b:ByteArray):Bool:=a.toList==b.toList
def bB(n:Nat):Int:=(n:Int)
def JB(k:IntKind)(a:Int):Int:=k.wrap (0-a)
def mmR(mx:Bool)(a b:Int):Int:=if mx then(if a<b then b else a)else(if b<a then b else a)
def Fy{α:Type}(xs:List α)(l n:Nat):List α:=(xs.drop l).take n
def pC(l h n:Nat):Bool:=l<=h&&decide (h<=n)
def cn(bytes n m:Nat):Bool:=decide (n+m<=1099511627776)&&decide ((n+m)*bytes<=140737488355328)
def jZ(n m sz:Nat):Bool:=decide (n=m)&&decide (n*sz<=16777216)
def fS{α:Type}(xs:List α)(lo m:Nat)(ys:List α):List α:=xs.take lo++ys.take m++xs.drop (lo+m)
def FD(s:ByteArray):List Int:=s.data.toList.map λb=>(b.toNat:Int)
def Ay(s:ByteArray)(k:Nat):Option Int:=(s[k]?).map λb=>(b.toNat:Int)
def n5(l:List Int):ByteArray:=l.foldl (λr n=>r.push (UInt8.ofNat n.toNat)) ByteArray.empty
def bH{S T:Type}(f:S->Option (S⊕T)):Nat->S->Option T
 |0,_=>none
 |n+1,s=>(f s).bind λx=>match x with|.inl s'=>bH f n s'|.inr t=>some t
def NN:Nat:=18446744073709551616
def bp:Alg den Option where
 lit _ n:=n
 litB b:=b
 litS s:=s
 litN n:=n
 nilv _:=()
 nil _ _:=[]
 recast _ _ h x:=cast (dH h) x
 coe t t' x:=Fk t t' x
 mkp _ _ x y:=(x,y)
 fst _ _ x:=x.1
 snd _ _ x:=x.2
 ar op k a b:=arR op k a b
 cm op _ a b:=cmR op a b
 sh op k a n:=shR op k a n
 neg k a:=JB k a
 not b:=!b
 cv _ k' n:=k'.wrap n
 mm mx _ a b:=mmR mx a b
 eqB a b:=JE a b
 eqS a b:=JD a b
 eqT a b:=GQ a b
 andB a b:=a&&b
 ite _ c a b:=bif c then a else b
 natI n:=bB n
 addN a b:=Nat.add a b
 subN a b:=Nat.sub a b
 minN a b:=Nat.min a b
 len _ _ xs:=List.length xs
 slOk l h n:=pC l h n
 ltN a b:=Nat.blt a b
 eqN a b:=Nat.beq a b
 win _ _ xs l n:=Fy xs l n
 appOk b n m:=cn b n m
 cat _ _ xs ys:=List.append xs ys
 rowl _ _ l:=l
 mkOk n m sz:=jZ n m sz
 rep _ n x:=List.replicate n x
 upd _ xs i f:=List.modify xs i f
 rowF k xs:=pK k xs
 rowN xs:=rowN xs
 splice _ _ xs lo m ys:=fS xs lo m ys
 strLen s:=(ByteArray.size s:Int)
 strB s:=FD s
 strOk s:=decide (ByteArray.size s<4294967296)
 fail:=none
 br c a b:=bif c then a else b
 nat _ n k:=(dM n).bind k
 get _ _ xs i k:=(dh xs i).bind k
 strAt s i k:=(Ay s i).bind k
 bstr l k:=k (n5 l)
 lt _ x k:=k x
 call _ _ outs g h k:=(g h).bind λo=>gy outs o k
 loop _ _ outs h body k:=(bH body NN h).bind λo=>gy outs o k
 join outs m k:=m.bind λo=>gy outs o k
 next _ _ h:=some (.inl h)
 exitL _ outs i h:=(nR outs i h).map .inr
 out outs i h:=nR outs i h
structure XP (D:CT->Type) where
 root:Nat
 off:Nat
 hops:List (D .nat×Nat×Nat)
inductive XV (D:CT->Type) where
 |d (t:CT) (x:D t)
 |k (x:Value)
 |dead
 |ptr (p:XP D) (vs:List Nat)
 |ip (cs:List (XV D))
 |pk (p:XP D) (vs:List Nat)
 |pw (p:XP D) (vs:List Nat) (sz:Nat) (lo n:D .nat)
 |agg (l:List (XV D))
 |tup (l:List (XV D))
 |fn (f:FuncId) (cap:List (XV D))
 |gap (t:CT) (x:D (.row true t)) (i:D .nat) (o:Nat)
structure XS (D:CT->Type) where
 tm:List (Nat×XV D)
 ce:List (Nat×List (XV D))
 vr:List (Key×Nat)
 lg:k9
abbrev Sh:=XV λ_=>Unit
abbrev Shs:=XS λ_=>Unit
abbrev shU(t:CT):Sh:=.d t ()
structure XO where
 cells:List Sh
 sh:List RSh
 pts:List (Nat×List Sh)
def wD:List (Unit×Nat×Nat)->List CT->List CT
 | [],r=>r
 |_::hs,r=>.nat::wD hs r
mutual
def lv:Sh->List CT->List CT
 |.d t _,r=>t::r
 |.ip l,r=>lvL l r
 |.agg l,r=>lvL l r
 |.tup l,r=>lvL l r
 |.fn _ l,r=>lvL l r
 |.k _,r=>r
 |.dead,r=>r
 |.ptr p _,r=>wD p.hops r
 |.pk p _,r=>wD p.hops r
 |.pw _ _ _ _ _,r=>r
 |.gap t _ _ _,r=>.row true t :: .nat::r
def lvL:List Sh->List CT->List CT
 | [],r=>r
 |x::xs,r=>lv x (lvL xs r)
end
def lvP:List (Nat×List Sh)->List CT->List CT
 | [],r=>r
 |x::xs,r=>lvL x.2 (lvP xs r)
def lvT:List (Nat×Sh)->List CT->List CT
 | [],r=>r
 |x::xs,r=>lv x.2 (lvT xs r)
def lvS(s:Shs):List CT:=lvT s.tm (lvP s.ce [])
def lvO(o:XO):List CT:=lvL o.cells (lvP o.pts [])
structure Ctr where
 f:FuncId
 id:Nat
 ins:List Sh
 pts:List (Nat×List Sh)
 outs:List XO
 g:HL den (lvL ins (lvP pts []))->Option (so (outs.map lvO))
structure vz where
 i:Nat
 nm:Nat
 s:Shs
 outs:List (fL×Shs)
section
variable {D:CT->Type}
def XP.bare(p:XP D):Bool:=match p.hops with | []=>true|_::_=>false
def Jt(p:XP λ_=>Unit):XP D:=⟨p.root,p.off,[]⟩
def qi:(hs:List (Unit×Nat×Nat))->(r:List CT)->HL D (wD hs r)->List (D .nat×Nat×Nat)×HL D r
 | [],_,h=>([],h)
 |(_,sz,o)::hs,r,h=>((h.1,sz,o)::(qi hs r h.2).1,(qi hs r h.2).2)
def wV:(hs:List (Unit×Nat×Nat))->List (D .nat×Nat×Nat)->(r:List CT)->HL D r->Option (HL D (wD hs r))
 | [],[],_,h=>some h
 |(_,sz,o)::hs,(i,sz',o')::hs',r,h=>if sz=sz'/\o=o' then(wV hs hs' r h).map λh1=>(i,h1)else none
 |_,_,_,_=>none
mutual
def fill:(s:Sh)->(r:List CT)->HL D (lv s r)->XV D×HL D r
 |.d t _,_,h=>(.d t h.1,h.2)
 |.ip l,r,h=>(.ip (eJ l r h).1,(eJ l r h).2)
 |.agg l,r,h=>(.agg (eJ l r h).1,(eJ l r h).2)
 |.tup l,r,h=>(.tup (eJ l r h).1,(eJ l r h).2)
 |.fn f l,r,h=>(.fn f (eJ l r h).1,(eJ l r h).2)
 |.k x,_,h=>(.k x,h)
 |.dead,_,h=>(.dead,h)
 |.ptr p vs,r,h=>(.ptr ⟨p.root,p.off,(qi p.hops r h).1⟩ vs,(qi p.hops r h).2)
 |.pk p vs,r,h=>(.pk ⟨p.root,p.off,(qi p.hops r h).1⟩ vs,(qi p.hops r h).2)
 |.pw _ _ _ _ _,_,h=>(.dead,h)
 |.gap t _ _ o,_,h=>(.gap t h.1 h.2.1 o,h.2.2)
def eJ:(s:List Sh)->(r:List CT)->HL D (lvL s r)->List (XV D)×HL D r
 | [],_,h=>([],h)
 |x::xs,r,h=>((fill x (lvL xs r) h).1::(eJ xs r (fill x (lvL xs r) h).2).1,(eJ xs r (fill x (lvL xs r) h).2).2)
end
def mS:(s:List (Nat×List Sh))->(r:List CT)->HL D (lvP s r)->List (Nat×List (XV D))×HL D r
 | [],_,h=>([],h)
 |x::xs,r,h=>((x.1,(eJ x.2 (lvP xs r) h).1)::(mS xs r (eJ x.2 (lvP xs r) h).2).1,(mS xs r (eJ x.2 (lvP xs r) h).2).2)
def tI:(s:List (Nat×Sh))->(r:List CT)->HL D (lvT s r)->List (Nat×XV D)×HL D r
 | [],_,h=>([],h)
 |x::xs,r,h=>((x.1,(fill x.2 (lvT xs r) h).1)::(tI xs r (fill x.2 (lvT xs r) h).2).1,(tI xs r (fill x.2 (lvT xs r) h).2).2)
def wP(s:Shs)(h:HL D (lvS s)):XS D:=⟨(tI s.tm _ h).1,(mS s.ce [] (tI s.tm _ h).2).1,s.vr,([],[])⟩
def gP:(outs:List XO)->(i:Nat)->HL D (sI (outs.map lvO) i)->Option (List (XV D)×List RSh×List (Nat×List (XV D)))
 | [],_,_=>none
 |o::_,0,h=>some ((eJ o.cells _ h).1,o.sh,(mS o.pts [] (eJ o.cells _ h).2).1)
 |_::r,i+1,h=>gP r i h
def ou:(outs:List (fL×Shs))->(i:Nat)->HL D (sI (outs.map λx=>lvS x.2) i)->Option (fL×XS D)
 | [],_,_=>none
 |o::_,0,h=>some (o.1,wP o.2 h)
 |_::r,i+1,h=>ou r i h
end
section
variable {D:CT->Type} {M:Type->Type} (A:Alg D M)
def Cz:Value->Value->Bool
 |.pointer none,.pointer none=>true
 |.nilFunc,.nilFunc=>true
 |.nilIface,.nilIface=>true
 |_,_=>false
def asT(t u:CT)(x:D t):Option (D u):=
 if h:lf t u=true then some (mV h▸x)else if zY t u then some (A.coe t u x)else none
def E9(p:XP λ_=>Unit)(q:XP D):Bool:=p.root==q.root&&p.off==q.off&&p.bare&&q.bare
mutual
def conv:(s:Sh)->XV D->(r:List CT)->HL D r->Option (HL D (lv s r))
 |.d u _,.d t x,_,h=>(asT A t u x).map λy=>(y,h)
 |.ip l,.ip l',r,h=>oV l l' r h
 |.agg l,.agg l',r,h=>oV l l' r h
 |.tup l,.tup l',r,h=>oV l l' r h
 |.fn f l,.fn f' l',r,h=>if f=f' then oV l l' r h else none
 |.k x,.k y,_,h=>if Cz x y then some h else none
 |.dead,.dead,_,h=>some h
 |.ptr p vs,.ptr q ws,r,h=>if p.root==q.root&&p.off==q.off&&vs==ws then wV p.hops q.hops r h else none
 |.pk p vs,.pk q ws,r,h=>if p.root==q.root&&p.off==q.off&&vs==ws then wV p.hops q.hops r h else none
 |.gap t _ _ o,.gap t' x i o',_,h=>if o=o' then(asT A (.row true t') (.row true t) x).map λy=>(y,i,h)else none
 |_,_,_,_=>none
def oV:(s:List Sh)->List (XV D)->(r:List CT)->HL D r->Option (HL D (lvL s r))
 | [],[],_,h=>some h
 |s::ss,x::xs,r,h=>(oV ss xs r h).bind λh1=>conv s x (lvL ss r) h1
 |_,_,_,_=>none
end
end
abbrev XM(D:CT->Type)(M:Type->Type)(X α:Type):=XS D->(α->XS D->M X)->M X
def D0{α:Type}:List α->Nat->Option α
 | [],_=>none
 |x::_,0=>some x
 |_::r,i+1=>D0 r i
namespace X
section
variable {D:CT->Type} {M:Type->Type} {X:Type} (A:Alg D M) {α β:Type}
def ret(a:α):XM D M X α:=fun σ k=>k a σ
def bind(m:XM D M X α)(f:α->XM D M X β):XM D M X β:=fun σ k=>m σ λa σ'=>f a σ' k
def fail:XM D M X α:=λ_ _=>A.fail
def brM(c:D .bool)(m:XM D M X α):XM D M X α:=fun σ k=>A.br c (m σ k) A.fail
def forkM(c:D .bool)(m m':XM D M X α):XM D M X α:=fun σ k=>A.br c (m σ k) (m' σ k)
def caseM(k:D .nat):Nat->(Nat->XM D M X α)->Nat->XM D M X α
 |0,_,_=>fail A
 |n+1,f,i=>forkM A (A.eqN k (A.litN i)) (f i) (caseM k n f (i+1))
def optM(o:Option α):XM D M X α:=fun σ k=>match o with|some a=>k a σ |none=>A.fail
def tOf(σ:XS D)(i:Nat):XV D:=(bO σ.tm i).getD .dead
def cOf(σ:XS D)(r o:Nat):XV D:=match bO σ.ce r with|some l=>l.getD o .dead|none=>.dead
def lgR(x:Loc)(σ:XS D):XS D:=⟨σ.tm,σ.ce,σ.vr,(x :: σ.lg.1,σ.lg.2)⟩
def letL:List (XV D)->(List (XV D)->M X)->M X
 | [],k=>k []
 |.d t x::r,k=>A.lt t x λy=>letL r λr'=>k (.d t y::r')
 |t::r,k=>letL r λr'=>k (t::r')
def letX(t:XV D)(k:XV D->M X):M X:=
 match t with
 |.d t x=>A.lt t x λy=>k (.d t y)
 |.agg l=>letL A l λl'=>k (.agg l')
 |t=>k t
def rdT(i:Nat):XM D M X (XV D):=fun σ k=>k (tOf σ i) (lgR (.t i) σ)
def rdC(r o:Nat):XM D M X (XV D):=fun σ k=>k (cOf σ r o) (lgR (.c r o) σ)
def rdK(r o:Nat):XM D M X (XV D):=fun σ k=>k (cOf σ r o) (lgR (.h r o) σ)
def rdV(q:Key):XM D M X Nat:=fun σ k=>k (lH σ.vr q) (lgR (.v q) σ)
def wrT(i:Nat)(t:XV D):XM D M X Unit:=fun σ k=>letX A t λt'=>k () ⟨cM σ.tm i t',σ.ce,σ.vr,(σ.lg.1,.t i :: σ.lg.2)⟩
def wrC(r o:Nat)(t:XV D):XM D M X Unit:=fun σ k=>match bO σ.ce r with
 |some l=>if o<l.length then letX A t λt'=>k () ⟨σ.tm,cM σ.ce r (l.set o t'),σ.vr,(.n r :: .h r o :: σ.lg.1,.c r o :: .h r o :: σ.lg.2)⟩else A.fail
 |none=>A.fail
def wrI(r o:Nat)(t:XV D):XM D M X Unit:=fun σ k=>match bO σ.ce r with
 |some l=>if o<l.length then letX A t λt'=>k () ⟨σ.tm,cM σ.ce r (l.set o t'),σ.vr,(.n r :: .h r o :: σ.lg.1,.c r o :: σ.lg.2)⟩else A.fail
 |none=>A.fail
def new(r:Nat)(l:List (XV D)):XM D M X Unit:=fun σ k=>letL A l λl'=>k () ⟨σ.tm,cM σ.ce r l',jP σ.vr (r,0,0),(.v (r,0,0) :: σ.lg.1,.n r :: .v (r,0,0) :: σ.lg.2)⟩
def bump(q:Key):XM D M X Unit:=fun σ k=>k () ⟨σ.tm,σ.ce,jP σ.vr q,(.v q :: σ.lg.1,.v q :: σ.lg.2)⟩
def cellX:Value->XV D
 |.slice none 0 0=>.d (.nilr true) (A.nilv true)
 |.int k n=>.d (.int k) (A.lit k n)
 |.bool b=>.d .bool (A.litB b)
 |.string s=>.d .str (A.litS s)
 |x=>if dZ x then .k x else .dead
def constX:Value->XV D
 |.agg cs=>.agg (cs.toList.map (cellX A))
 |x=>cellX A x
def opd:Opd->XM D M X (XV D)
 |.t i=>rdT i
 |.c x=>ret (constX A x)
 |.f f=>ret (.fn f [])
def rdVs:List Key->XM D M X (List Nat)
 | []=>ret []
 |q::qs=>bind (rdV q) λn=>bind (rdVs qs) λl=>ret (n::l)
def chk(p:XP D)(n:Nat)(vs:List Nat):XM D M X Unit:=bind (rdVs (ki p.root p.off n)) λl=>if l=vs then ret ()else fail A
def addP(p:XP D)(n:Nat):XP D:=
 match p.hops.reverse with
 | []=>⟨p.root,p.off+n,[]⟩
 |(i,sz,o)::r=>⟨p.root,p.off,((i,sz,o+n)::r).reverse⟩
def atP(p:XP D)(i:D .nat)(sz:Nat):XP D:=⟨p.root,p.off,p.hops++[(i,sz,0)]⟩
def fitsP(p:XP D)(n:Nat):Bool:=
 match p.hops.reverse with
 | []=>true
 |(_,sz,o)::_=>decide (o+n<sz)
def splitX:(t:CT)->D t->List (XV D)
 |.pair a b,x=>splitX a (A.fst a b x)++splitX b (A.snd a b x)
 |.nat,_=>[]
 |.int k,x=>[.d (.int k) x]
 |.bool,x=>[.d .bool x]
 |.str,x=>[.d .str x]
 |.row o t,x=>[.d (.row o t) x]
 |.nilr o,x=>[.d (.nilr o) x]
def getX:XV D->List (D .nat×Nat×Nat)->(XV D->M X)->M X
 |t,[],k=>k t
 |.d (.row true t) xs,(i,sz,o)::hs,k=>if fm t=sz then A.get true t xs i λe=>match D0 (splitX A t e) o with|some v=>getX v hs k|none=>A.fail else A.fail
 |_,_::_,_=>A.fail
def elemX:XV D->List (D .nat×Nat×Nat)->((t:CT)->D t->M X)->M X
 |.d (.row true t) xs,[(i,sz,_)],k=>if fm t=sz then A.get true t xs i (k t)else A.fail
 |.d (.row true t) xs,(i,sz,o)::h::hs,k=>if fm t=sz then A.get true t xs i λe=>match D0 (splitX A t e) o with|some v=>elemX v (h::hs) k|none=>A.fail else A.fail
 |_,_,_=>A.fail
def getM(tv:XV D)(hs:List (D .nat×Nat×Nat))(g:XV D->XM D M X α):XM D M X α:=fun σ k=>getX A tv hs λv=>g v σ k
def elemM(tv:XV D)(hs:List (D .nat×Nat×Nat))(g:(t:CT)->D t->XM D M X α):XM D M X α:=fun σ k=>elemX A tv hs λt e=>g t e σ k
def atM(o:Bool)(t:CT)(xs:D (.row o t))(i:D .nat)(g:D t->XM D M X α):XM D M X α:=fun σ k=>A.get o t xs i λe=>g e σ k
def natM(kd:IntKind)(n:D (.int kd))(g:D .nat->XM D M X α):XM D M X α:=fun σ k=>A.nat kd n λm=>g m σ k
def H4(s:D .str)(i:D .nat)(g:D (.int .u8)->XM D M X α):XM D M X α:=fun σ k=>A.strAt s i λb=>g b σ k
def Jp(c:D (.row false (.int .u8)))(g:D .str->XM D M X α):XM D M X α:=fun σ k=>A.bstr c λs=>g s σ k
def lastO:List (D .nat×Nat×Nat)->Nat
 | []=>0
 | [(_,_,o)]=>o
 |_::h::hs=>lastO (h::hs)
def setD:(t:CT)->Nat->((u:CT)->Option (D u->D u))->Option (D t->D t)
 |.pair a b,o,g=>if o<fm a then(setD a o g).map λh e=>A.mkp a b (h (A.fst a b e)) (A.snd a b e)else(setD b (o-fm a) g).map λh e=>A.mkp a b (A.fst a b e) (h (A.snd a b e))
 |.nat,_,_=>none
 |.int k,0,g=>g (.int k)
 |.bool,0,g=>g .bool
 |.str,0,g=>g .str
 |.row o t,0,g=>g (.row o t)
 |.nilr o,0,g=>g (.nilr o)
 |_,_+1,_=>none
def asF(v:XV D)(u:CT):Option (D u->D u):=
 match v with
 |.d t x=>(asT A t u x).map λy _=>y
 |_=>none
def setDs(t:CT):Nat->List (XV D)->Option (D t->D t)
 |_,[]=>none
 |o,[v]=>setD A t o (asF A v)
 |o,v::w::vs=>match setD A t o (asF A v),setDs t (o+1) (w::vs)with|some f,some g=>some λe=>g (f e)|_,_=>none
def setH:List (D .nat×Nat×Nat)->XV D->(u:CT)->Option (D u->D u)
 | [],v,u=>asF A v u
 |(i,sz,o)::hs,v,.row true t=>if fm t=sz then(setD A t o (setH hs v)).map λf xs=>A.upd t xs i f else none
 |_::_,_,_=>none
def setX:XV D->List (D .nat×Nat×Nat)->XV D->Option (XV D)
 |_,[],v=>some v
 |.d u x,h::hs,v=>(setH A (h::hs) v u).map λf=>.d u (f x)
 |_,_::_,_=>none
def setHs:List (D .nat×Nat×Nat)->List (XV D)->(u:CT)->Option (D u->D u)
 | [(i,sz,o)],vs,.row true t=>if fm t=sz then(setDs A t o vs).map λf xs=>A.upd t xs i f else none
 |(i,sz,o)::h::hs,vs,.row true t=>if fm t=sz then(setD A t o (setHs (h::hs) vs)).map λf xs=>A.upd t xs i f else none
 |_,_,_=>none
def setXs:XV D->List (D .nat×Nat×Nat)->List (XV D)->Option (XV D)
 |.d u x,hs,vs=>(setHs A hs vs u).map λf=>.d u (f x)
 |_,_,_=>none
def immX:XV D->Option (XV D)
 |.d (.int k) x=>some (.d (.int k) x)
 |.d .bool x=>some (.d .bool x)
 |.d .str x=>some (.d .str x)
 |.d (.row false t) x=>some (.d (.row false t) x)
 |.d (.nilr _) _=>some (.d (.nilr false) (A.nilv false))
 |.d (.row true t) x=>if h:fI (.row true t) (.row false (lm t))=true then some (.d (.row false (lm t)) (A.recast _ _ h x))else none
 |.k x=>some (.k x)
 |_=>none
def immXL:List (XV D)->Option (List (XV D))
 | []=>some []
 |x::r=>match immX A x,immXL r with|some y,some l=>some (y::l)|_,_=>none
def shareX:XV D->List Nat->Option (XV D)
 |.d t x,os=>match shT t 0 os with|some t'=>if h:fI t t'=true then some (.d t' (A.recast t t' h x))else none|none=>none
 |_,_=>none
def getPl(p:XP D):XM D M X (XV D):=bind (rdC p.root p.off) λtv=>getM A tv p.hops ret
def hdPl(p:XP D):XM D M X (XV D):=match p.hops with
 | []=>rdK p.root p.off
 |_::_=>getPl A p
def hopOs(hs:List (D .nat×Nat×Nat)):List Nat:=hs.map λh=>h.2.2
def Jf:CT->Bool
 |.int _=>false
 |.bool=>false
 |.str=>false
 |_=>true
def oneT:CT->Bool
 |.nat=>false
 |.pair _ _=>false
 |_=>true
def isOwT:CT->Bool
 |.row o _=>o
 |.nilr o=>o
 |_=>false
def isOwX:XV D->Bool
 |.d t _=>isOwT t
 |.gap _ _ _ _=>true
 |_=>false
def isHdrX:XV D->Bool
 |.d t _=>Jf t
 |.k _=>false
 |_=>true
def winX(lo n:D .nat):XV D->Option (XV D)
 |.d (.row true t) xs=>match immX A (.d (.row true t) xs)with|some (.d (.row false t') ys)=>some (.d (.row false t') (A.win false t' ys lo n))|_=>none
 |.d (.nilr true) _=>some (.d (.nilr false) (A.nilv false))
 |_=>none
def gapX:XV D->List (D .nat×Nat×Nat)->Option (XV D)
 |.d (.row true t) xs,[(i,_,o)]=>some (.gap t xs i o)
 |_,_=>none
def take1(mv:Bool):XV D->XM D M X (XV D)
 |.d (.row true _) _=>fail A
 |.d .nat _=>fail A
 |.d (.pair _ _) _=>fail A
 |.d (.nilr o) x=>if mv then ret (.d (.nilr o) x)else ret (.d (.nilr false) (A.nilv false))
 |.d t x=>ret (.d t x)
 |.k x=>ret (.k x)
 |.pk p vs=>bind (chk A p (p.hops.length+1) vs) λ_=>bind (rdC p.root p.off) λtv=>getM A tv p.hops λv=>
  if isOwX v then
   if mv then(if XP.bare p then(bind (wrC A p.root p.off .dead) λ_=>bind (bump (p.root,p.off,p.hops.length+1)) λ_=>ret v)else bind (optM A (gapX tv p.hops)) λYk=>bind (wrI A p.root p.off Yk) λ_=>bind (bump (p.root,p.off,p.hops.length+1)) λ_=>ret v)
   else bind (optM A (shareX A tv (hopOs p.hops))) λYk=>bind (optM A (immX A v)) λv'=>bind (if XP.bare p then wrC A p.root p.off Yk else wrI A p.root p.off Yk) λ_=>bind (bump (p.root,p.off,p.hops.length+1)) λ_=>ret v'
  else fail A
 |.pw p vs _ lo n=>bind (chk A p (p.hops.length+1) vs) λ_=>bind (rdC p.root p.off) λtv=>getM A tv p.hops λv=>
  bind (optM A (shareX A tv (hopOs p.hops))) λYk=>bind (optM A (winX A lo n v)) λv'=>bind (wrC A p.root p.off Yk) λ_=>bind (bump (p.root,p.off,p.hops.length+1)) λ_=>ret v'
 |_=>fail A
def takeL(mv:Bool):List (XV D)->XM D M X (List (XV D))
 | []=>ret []
 |t::r=>bind (take1 A mv t) λt'=>bind (takeL mv r) λr'=>ret (t'::r')
def cellsX:XV D->List (XV D)
 |.agg l=>l
 |t=>[t]
def takeV(mv:Bool)(t:XV D):XM D M X (List (XV D)×Bool):=
 match t with
 |.agg l=>bind (takeL A mv l) λl'=>ret (l',true)
 |t=>bind (take1 A mv t) λt'=>ret ([t'],false)
def putB(r:Nat):Nat->List (XV D)->XM D M X Unit
 |_,[]=>ret ()
 |o,t::l=>bind (rdC r o) λold=>bind (wrC A r o t) λ_=>bind (if isHdrX old||isHdrX t then bump (r,o,1)else ret ()) λ_=>putB r (o+1) l
def bumps(q:Key):Nat->XM D M X Unit
 |0=>ret ()
 |n+1=>bind (bump q) λ_=>bumps q n
def hdrs:List (XV D)->List (XV D)->Nat
 |a::r,b::s=>(if isHdrX a||isHdrX b then 1 else 0)+hdrs r s
 |_,_=>0
def putEl(r off:Nat)(i:D .nat)(sz o:Nat)(l:List (XV D)):XV D->XM D M X Unit
 |.d (.row true t) xs=>if fm t=sz/\o+l.length<=sz/\0<l.length then atM A true t xs i λe=>bind (optM A (setDs A t o l)) λf=>bind (wrI A r off (.d (.row true t) (A.upd t xs i f))) λ_=>bumps (r,off,2) (hdrs ((splitX A t e).drop o) l)else fail A
 |.gap t xs i' o'=>if fm t=sz/\o=o'/\o<sz/\l.length=1 then atM A true t xs i λ_=>brM A (A.eqN i i') (bind (optM A (setDs A t o l)) λf=>bind (wrI A r off (.d (.row true t) (A.upd t xs i f))) λ_=>bump (r,off,2))else fail A
 |_=>fail A
def putL(p:XP D)(l:List (XV D)):XM D M X Unit:=
 match p.hops with
 | []=>putB A p.root p.off l
 | [(i,sz,o)]=>bind (rdC p.root p.off) (putEl A p.root p.off i sz o l)
 |hs=>bind (rdC p.root p.off) λtv=>elemM A tv hs λt e=>
  if lastO hs+l.length<=fm t/\0<l.length/\(((splitX A t e).drop (lastO hs)).take l.length).all (λv=>!isHdrX v)=true/\l.all (λv=>!isHdrX v)=true then bind (optM A (setXs A tv hs l)) λYk=>wrI A p.root p.off Yk else fail A
def peek1(p:XP D):XV D->XM D M X (XV D)
 |.k x=>ret (.k x)
 |.d t x=>if isOwT t then bind (rdVs (ki p.root p.off (p.hops.length+1))) λvs=>ret (.pk p vs)else if oneT t then ret (.d t x)else fail A
 |_=>fail A
def peekP(p:XP D):XM D M X (XV D):=match p.hops with
 | []=>bind (rdK p.root p.off) λt=>if isOwX t then bind (rdVs (ki p.root p.off 1)) λvs=>ret (.pk p vs)else bind (getPl A p) (peek1 A p)
 |_::_=>bind (getPl A p) (peek1 A p)
def peekB(r:Nat):Nat->Nat->XM D M X (List (XV D))
 |_,0=>ret []
 |o,n+1=>bind (rdC r o) λt=>bind (peek1 A ⟨r,o,[]⟩ t) λt'=>bind (peekB r (o+1) n) λl=>ret (t'::l)
def peekCs(p:XP D):List (XV D)->XM D M X (List (XV D))
 | []=>ret []
 |t::r=>bind (peek1 A p t) λt'=>bind (peekCs (addP p 1) r) λl=>ret (t'::l)
def peekL(p:XP D)(n:Nat):XM D M X (List (XV D)):=
 match p.hops with
 | []=>peekB A p.root p.off n
 |_::_=>bind (rdC p.root p.off) λtv=>elemM A tv p.hops λt e=>if lastO p.hops+n<=fm t/\0<n then peekCs A p (((splitX A t e).drop (lastO p.hops)).take n)else fail A
def nameL(r:Nat):Nat->List (XV D)->XM D M X (List (XV D))
 |_,[]=>ret []
 |i,t::l=>if isOwX t then bind (rdV (r,0,0)) λg=>bind (rdV (r,i,1)) λh=>bind (nameL r (i+1) l) λl'=>ret (.pk ⟨r,i,[]⟩ [g,h]::l')else bind (nameL r (i+1) l) λl'=>ret (t::l')
def names(d:Nat)(l:List (XV D)):XM D M X (List (XV D)):=if l.any isOwX then bind (new A (2*d+3) l) λ_=>nameL (2*d+3) 0 l else ret l
def shapedX(agg:Bool)(l:List (XV D)):XV D:=if agg then .agg l else l.headD .dead
def inst(d:Nat)(agg:Bool)(l:List (XV D)):XM D M X Unit:=bind (names A d l) λl'=>wrT A d (shapedX agg l')
def natOf:XV D->XM D M X (D .nat)
 |.d (.int k) n=>natM A k n ret
 |_=>fail A
def lenOf:XV D->XM D M X (D .nat)
 |.d (.row false t) xs=>ret (A.len false t xs)
 |.d (.nilr _) _=>ret (A.litN 0)
 |.pk p vs=>bind (chk A p (p.hops.length+1) vs) λ_=>bind (hdPl A p) λt=>match t with
  |.d (.row true t) xs=>ret (A.len true t xs)
  |.d (.nilr true) _=>ret (A.litN 0)
  |_=>fail A
 |.pw p vs _ _ n=>bind (chk A p (p.hops.length+1) vs) λ_=>ret n
 |_=>fail A
def optNat:Option Opd->D .nat->XM D M X (D .nat)
 |some o,_=>bind (opd A o) (natOf A)
 |none,d=>ret d
def takeParts(mv:Bool):List (Nat×Nat×Opd)->XM D M X (List (XV D))
 | []=>ret []
 |(_,n,x)::r=>bind (opd A x) λt=>bind (takeL A mv (cellsX t)) λl=>if l.length=n then bind (takeParts mv r) λl'=>ret (l++l')else fail A
def placeX(cells:List (XV D))(off:Nat):List (XV D)->List (XV D)
 | []=>cells
 |t::r=>placeX (cells.set off t) (off+1) r
def assembleX(cells:List (XV D)):List (Nat×Nat×Opd)->List (XV D)->List (XV D)
 | [],_=>cells
 |(off,n,_)::r,l=>assembleX (placeX cells off (l.take n)) r (l.drop n)
def chunksX(sz:Nat):Nat->List (XV D)->List (List (XV D))
 |0,_=>[]
 |n+1,l=>l.take sz::chunksX sz n (l.drop sz)
def okCellX:XV D->Bool
 |.d (.row true _) _=>false
 |.d .nat _=>false
 |.d (.pair _ _) _=>false
 |.d _ _=>true
 |.k _=>true
 |_=>false
def IV:List (XV D)->Option CT
 | []=>none
 | [.d t _]=>some t
 |.d t _::r=>(IV r).map (.pair t)
 |_::_=>none
def xx:CT->CT->CT
 |.nilr _,.row o t=>.row o t
 |.row o t,.row _ t'=>.row o (xx t t')
 |.pair a b,.pair a' b'=>.pair (xx a a') (xx b b')
 |t,_=>t
def joinC(t:CT):List (XV D)->Option (D t×List (XV D))
 |.d u x::r=>(asT A u t x).map λy=>(y,r)
 |_=>none
def joinX:(t:CT)->List (XV D)->Option (D t×List (XV D))
 |.pair a b,l=>match joinX a l with
  |some (x,r)=>match joinX b r with
   |some (y,r')=>some (A.mkp a b x y,r')
   |none=>none
  |none=>none
 |.nat,_=>none
 |.int k,l=>joinC A (.int k) l
 |.bool,l=>joinC A .bool l
 |.str,l=>joinC A .str l
 |.row o t,l=>joinC A (.row o t) l
 |.nilr o,l=>joinC A (.nilr o) l
def joinOne(t:CT)(l:List (XV D)):Option (D t):=match joinX A t l with|some (x,[])=>some x|_=>none
def joinAll(t:CT):List (List (XV D))->Option (List (D t))
 | []=>some []
 |l::r=>match joinOne A t l,joinAll t r with|some x,some xs=>some (x::xs)|_,_=>none
def HR:List (List (XV D))->Option CT
 | []=>none
 | [l]=>IV l
 |l::r=>match IV l,HR r with|some t,some t'=>some (xx t t')|_,_=>none
def yk:CT->Bool
 |.nilr _=>true
 |.row _ t=>yk t
 |.pair a b=>yk a||yk b
 |_=>false
def xy:CT->CT->CT
 |.nilr o,.row _ t=>.row o t
 |.row o t,.row _ t'=>.row o (xy t t')
 |.pair a b,.pair a' b'=>.pair (xy a a') (xy b b')
 |t,_=>t
def resT(Zr:Option CT)(t:CT):CT:=if yk t then xy t (Zr.getD t)else t
def rowOf(Zr:Option CT)(ls:List (List (XV D))):Option (XV D):=
 match ls with
 | []=>some (.d (.nilr true) (A.nilv true))
 |_=>match HR ls with
  |some t=>(joinAll A (resT Zr t) ls).map λes=>.d (.row true (resT Zr t)) (A.rowl true (resT Zr t) es)
  |none=>none
def repOf(Zr:Option CT)(n:D .nat)(l:List (XV D)):Option (XV D):=
 match IV l with
 |some t=>(joinOne A (resT Zr t) l).map λe=>.d (.row true (resT Zr t)) (A.rep (resT Zr t) n e)
 |none=>none
def contentOf:XV D->XM D M X (XV D)
 |.d (.row false t) xs=>ret (.d (.row false t) xs)
 |.d (.nilr _) _=>ret (.d (.nilr false) (A.nilv false))
 |.pk p vs=>bind (chk A p (p.hops.length+1) vs) λ_=>bind (getPl A p) λt=>match t with|.d (.row true t) xs=>ret (.d (.row true t) xs)|.d (.nilr true) _=>ret (.d (.nilr false) (A.nilv false))|_=>fail A
 |.pw p vs _ lo n=>bind (chk A p (p.hops.length+1) vs) λ_=>bind (getPl A p) λt=>match t with|.d (.row true t) xs=>ret (.d (.row true t) (A.win true t xs lo n))|_=>fail A
 |_=>fail A
def flat1:CT->Bool
 |.int _=>true
 |.bool=>true
 |.str=>true
 |_=>false
def flatT:CT->Bool
 |.int _=>true
 |.bool=>true
 |.str=>true
 |.pair a b=>flatT a&&flatT b
 |_=>false
def isNameX:XV D->Bool
 |.pk _ _=>true
 |.pw _ _ _ _ _=>true
 |_=>false
def flatRow:XV D->Bool
 |.d (.row _ t) _=>flatT t
 |.d (.nilr _) _=>true
 |_=>false
def cpyX(d sz:Nat)(p:XP D)(lo:D .nat)(n:Option (D .nat))(tv c2:XV D):XM D M X Unit:=getM A tv p.hops λv=>
 match v,c2 with
  |.d (.row true t) xs,.d (.row o t2) ys=>if h:lf t2 t=true/\fm t=sz/\flatT t=true then
   bind (optM A (setX A tv p.hops (.d (.row true t) (A.splice t o xs lo (A.minN (A.len o t2 ys) (n.getD (A.len true t xs))) (mV h.1▸ys))))) λYk=>
    brM A (A.slOk lo (A.addN lo (A.minN (A.len o t2 ys) (n.getD (A.len true t xs)))) (A.len true t xs)) (forkM A (A.ltN (A.litN 0) (A.minN (A.len o t2 ys) (n.getD (A.len true t xs)))) (bind (wrC A p.root p.off Yk) λ_=>wrT A d (.d (.int .i64) (A.natI (A.minN (A.len o t2 ys) (n.getD (A.len true t xs)))))) (wrT A d (.d (.int .i64) (A.natI (A.minN (A.len o t2 ys) (n.getD (A.len true t xs)))))))
   else fail A
  |.d (.row true _) _,.d (.nilr _) _=>if 0<sz then wrT A d (.d (.int .i64) (A.lit .i64 0))else fail A
  |_,_=>fail A
def eqAll:List FK->List (XV D)->List (XV D)->Option (D .bool)
 | [],[],[]=>some (A.litB true)
 |.i::ks,.d (.int k) a::xs,.d (.int k') b::ys=>if h:k'=k then(eqAll ks xs ys).map (A.andB (A.cm .eql k a (h▸b)))else none
 |.b::ks,.d .bool a::xs,.d .bool b::ys=>(eqAll ks xs ys).map (A.andB (A.eqB a b))
 |.s::ks,.d .str a::xs,.d .str b::ys=>(eqAll ks xs ys).map (A.andB (A.eqS a b))
 |_,_,_=>none
def mapM'(f:α->XM D M X β):List α->XM D M X (List β)
 | []=>ret []
 |x::r=>bind (f x) λy=>bind (mapM' f r) λl=>ret (y::l)
def intOf:XV D->XM D M X (XV D)
 |.d (.int k) n=>ret (.d (.int k) n)
 |_=>fail A
def capOf:XV D->XM D M X (XV D)
 |.ptr p vs=>ret (.ptr p vs)
 |.ip cs=>ret (.ip cs)
 |t=>if okCellX t && !isOwX t then ret t else fail A
def mmAll(mx:Bool)(k:IntKind):D (.int k)->List (XV D)->Option (D (.int k))
 |a,[]=>some a
 |a,.d (.int k') b::r=>if h:k'=k then mmAll mx k (A.mm mx k a (h▸b)) r else none
 |_,_=>none
def wr(d:Nat)(t:XV D):XM D M X Unit:=wrT A d t
def binX(d:Nat)(op:BinOp):XV D->XV D->XM D M X Unit
 |.d (.int k) a,.d (.int k') b=>
  match op with
  |.shl=>natM A k' b λn=>wr A d (.d (.int k) (A.sh .shl k a n))
  |.shr=>natM A k' b λn=>wr A d (.d (.int k) (A.sh .shr k a n))
  |.quo=>if h:k'=k then brM A (A.cm .neq k' b (A.lit k' 0)) (wr A d (.d (.int k) (A.ar .quo k a (h▸b))))else fail A
  |.rem=>if h:k'=k then brM A (A.cm .neq k' b (A.lit k' 0)) (wr A d (.d (.int k) (A.ar .rem k a (h▸b))))else fail A
  |.add=>if h:k'=k then wr A d (.d (.int k) (A.ar .add k a (h▸b)))else fail A
  |.sub=>if h:k'=k then wr A d (.d (.int k) (A.ar .sub k a (h▸b)))else fail A
  |.mul=>if h:k'=k then wr A d (.d (.int k) (A.ar .mul k a (h▸b)))else fail A
  |.and=>if h:k'=k then wr A d (.d (.int k) (A.ar .and k a (h▸b)))else fail A
  |.or=>if h:k'=k then wr A d (.d (.int k) (A.ar .or k a (h▸b)))else fail A
  |.xor=>if h:k'=k then wr A d (.d (.int k) (A.ar .xor k a (h▸b)))else fail A
  |.andNot=>if h:k'=k then wr A d (.d (.int k) (A.ar .andNot k a (h▸b)))else fail A
  |op=>if h:k'=k then wr A d (.d .bool (A.cm op k a (h▸b)))else fail A
 |.d .str a,.d .str b=>
  match op with
  |.eql=>wr A d (.d .bool (A.eqT a b))
  |.neq=>wr A d (.d .bool (A.not (A.eqT a b)))
  |_=>fail A
 |_,_=>fail A
def pickX(d:Nat)(tc ta tb:XV D):XM D M X Unit:=match tc,ta,tb with
 |.d .bool c,.d (.int k) x,.d (.int k') y=>if h:k'=k then wr A d (.d (.int k) (A.ite (.int k) c x (h▸y)))else fail A
 |.d .bool c,.d .bool x,.d .bool y=>wr A d (.d .bool (A.ite .bool c x y))
 |.d .bool c,.d .str x,.d .str y=>wr A d (.d .str (A.ite .str c x y))
 |.d .bool c,.d t x,_=>if flat1 t then brM A c (wr A d (.d t x))else fail A
 |.d .bool c,_,.d t x=>if flat1 t then brM A (A.not c) (wr A d (.d t x))else fail A
 |_,_,_=>fail A
def appX(d sz bytes:Nat)(Zr:Option CT)(s x:XV D):XM D M X Unit:=
 match s,x with
 |.d (.row true t) c,.d (.row o t2) c2=>if fm t=sz then bind (optM A (asT A (.row o t2) (.row o t) c2)) λc3=>brM A (A.appOk bytes (A.len true t c) (A.len o t2 c2)) (inst A d false [.d (.row true t) (A.cat t o c c3)])else fail A
 |.d (.row true t) c,.d (.nilr _) _=>if fm t=sz then brM A (A.appOk bytes (A.len true t c) (A.litN 0)) (inst A d false [.d (.row true t) c])else fail A
 |.d (.nilr true) _,.d (.row o t2) c2=>if fm t2=sz then bind (optM A (asT A (.row o t2) (.row o (resT Zr t2)) c2)) λc3=>brM A (A.appOk bytes (A.litN 0) (A.len o t2 c2)) (inst A d false [.d (.row true (resT Zr t2)) (A.cat _ o (A.nil true (resT Zr t2)) c3)])else fail A
 |.d (.nilr true) _,.d (.nilr _) _=>brM A (A.appOk bytes (A.litN 0) (A.litN 0)) (inst A d false [.d (.nilr true) (A.nilv true)])
 |_,_=>fail A
def immCX:XV D->Bool
 |.ip _=>true
 |t=>okCellX t && !isOwX t
def immFX:XV D->Bool
 |.fn _ l=>l.all immCX
 |t=>immCX t
def isNA:XV D->Bool
 |.agg _=>true
 |.pk _ _=>true
 |_=>false
def loadIp(n:Option Nat)(cs:List (XV D)):Option (XV D):=
 match n with
 |none=>match cs with
  |.ip l::_=>some (.ip l)
  |.fn f l::_=>some (.fn f l)
  |t::_=>if okCellX t && !isOwX t then some t else none
  | []=>none
 |some n=>if n<=cs.length&&(cs.take n).all (λt=>okCellX t && !isOwX t)then some (.agg (cs.take n))else none
def ev1(HT:List (Nat×CT))(d:Nat):TOp->XM D M X Unit
 |.mov x=>bind (opd A x) λt=>match t with
  |.d t y=>if isOwT t then(match x with|.c _=>inst A d false [.d t y]|_=>fail A)else wr A d (.d t y)
  |.agg l=>if l.any isOwX then fail A else wr A d (.agg l)
  |.gap _ _ _ _=>fail A
  |t=>wr A d t
 |.asn mv x=>bind (opd A x) λt=>match t with
  |.ptr p vs=>wr A d (.ptr p vs)
  |.ip cs=>wr A d (.ip cs)
  |.fn f cap=>wr A d (.fn f cap)
  |t=>bind (takeV A mv t) λl=>inst A d l.2 l.1
 |.pick c a b=>bind (opd A c) λtc=>bind (opd A a) λta=>bind (opd A b) λtb=>pickX A d tc ta tb
 |.alloc z=>if(z.map (cellX A)).all okCellX then bind (new A (2*d+2) (z.map (cellX A))) λ_=>bind (rdV (2*d+2,0,0)) λg=>wr A d (.ptr ⟨2*d+2,0,[]⟩ [g])else fail A
 |.box n mv x=>bind (opd A x) λt=>bind (takeL A mv (cellsX t)) λl=>if l.length=n then bind (new A (2*d+2) l) λ_=>bind (rdV (2*d+2,0,0)) λg=>wr A d (.ptr ⟨2*d+2,0,[]⟩ [g])else fail A
 |.boxi n x=>bind (opd A x) λt=>if immFX t then(if n=1 then wr A d (.ip [t])else fail A)else if isNA t then bind (takeL A false (cellsX t)) λl=>bind (optM A (immXL A l)) λl'=>if l.length=n then wr A d (.ip l')else fail A else fail A
 |.load n a=>bind (opd A a) λt=>match t with
  |.ptr p vs=>bind (chk A p p.hops.length vs) λ_=>match n with
   |none=>bind (peekP A p) λt'=>wr A d t'
   |some n=>bind (peekL A p n) λl=>wr A d (.agg l)
  |.ip cs=>match loadIp n cs with|some t=>wr A d t|none=>fail A
  |_=>fail A
 |.store n mv a x=>bind (opd A a) λta=>match ta with
  |.ptr p vs=>bind (opd A x) λtx=>bind (takeL A mv (cellsX tx)) λl=>if l.length=n then bind (chk A p p.hops.length vs) λ_=>putL A p l else fail A
  |_=>fail A
 |.nilc x=>bind (opd A x) λt=>match t with
  |.ptr p vs=>bind (chk A p p.hops.length vs) λ_=>wr A d (.ptr p vs)
  |.ip cs=>wr A d (.ip cs)
  |.fn f cap=>wr A d (.fn f cap)
  |_=>fail A
 |.fld off a=>bind (opd A a) λt=>match t with
  |.ptr p vs=>bind (chk A p p.hops.length vs) λ_=>if fitsP p off then wr A d (.ptr (addP p off) vs)else fail A
  |.ip cs=>if off<cs.length then wr A d (.ip (cs.drop off))else fail A
  |_=>fail A
 |.fldv off n x=>bind (opd A x) λt=>match t with
  |.agg l=>match n with
   |none=>if off<l.length then wr A d (l.getD off .dead)else fail A
   |some n=>if off+n<=l.length then wr A d (.agg ((l.drop off).take n))else fail A
  |_=>fail A
 |.idx sz x i=>bind (opd A x) λt=>bind (opd A i) λti=>bind (natOf A ti) λk=>match t with
  |.pk p vs=>bind (chk A p (p.hops.length+1) vs) λ_=>bind (hdPl A p) λt=>match t with
   |.d (.row true t) xs=>if fm t=sz/\0<sz then atM A true t xs k λ_=>wr A d (.ptr (atP p k sz) vs)else fail A
   |.gap t xs _ _=>if fm t=sz/\0<sz then atM A true t xs k λ_=>wr A d (.ptr (atP p k sz) vs)else fail A
   |_=>fail A
  |.pw p vs sz' lo n=>bind (chk A p (p.hops.length+1) vs) λ_=>bind (getPl A p) λt=>match t with
   |.d (.row true t) xs=>if fm t=sz/\0<sz/\sz'=sz then brM A (A.ltN k n) (atM A true t xs (A.addN lo k) λ_=>wr A d (.ptr (atP p (A.addN lo k) sz) vs))else fail A
   |_=>fail A
  |.d (.row false t) xs=>if fm t=sz/\0<sz then atM A false t xs k λe=>wr A d (.ip (splitX A t e))else fail A
  |_=>fail A
 |.ext x i=>bind (opd A x) λt=>match t with
  |.tup l=>if i<l.length then wr A d (l.getD i .dead)else fail A
  |_=>fail A
 |.bin op x y=>bind (opd A x) λa=>bind (opd A y) λb=>binX A d op a b
 |.bnb neg x y=>bind (opd A x) λa=>bind (opd A y) λb=>match a,b with
  |.d .bool a,.d .bool b=>wr A d (.d .bool (if neg then A.not (A.eqB a b)else A.eqB a b))
  |_,_=>fail A
 |.eqa ks neg x y=>bind (opd A x) λa=>bind (opd A y) λb=>match a,b with
  |.agg a,.agg b=>match eqAll A ks a b with|some r=>wr A d (.d .bool (if neg then A.not r else r))|none=>fail A
  |_,_=>fail A
 |.un op x=>bind (opd A x) λa=>match op,a with
  |.not,.d .bool b=>wr A d (.d .bool (A.not b))
  |.neg,.d (.int k) n=>wr A d (.d (.int k) (A.neg k n))
  |_,_=>fail A
 |.conv k x=>bind (opd A x) λa=>match a with|.d (.int k0) n=>wr A d (.d (.int k) (A.cv k0 k n))|_=>fail A
 |.bld z mv parts=>if(z.map (cellX A)).all okCellX then bind (takeParts A mv parts) λl=>bind (names A d l) λl'=>wr A d (.agg (assembleX (z.map (cellX A)) parts l'))else fail A
 |.bsl sz mv len parts=>bind (takeParts A mv (parts.map λp=>(0,sz,p))) λl=>if parts.length=len then bind (optM A (rowOf A (bO HT d) (chunksX sz len l))) λv=>inst A d false [v]else fail A
 |.mks sz z l c=>if(z.map (cellX A)).all okCellX&&z.length==sz then bind (opd A l) λtl=>bind (opd A c) λtc=>bind (natOf A tl) λn=>bind (natOf A tc) λm=>
  brM A (A.mkOk n m sz) (bind (optM A (repOf A (bO HT d) n (z.map (cellX A)))) λv=>inst A d false [v])else fail A
 |.mki sz z l c=>if(z.map (cellX A)).all okCellX&&z.length==sz then bind (opd A l) λtl=>bind (opd A c) λtc=>bind (natOf A tl) λn=>bind (natOf A tc) λm=>
  brM A (A.mkOk n m sz) (bind (optM A (immXL A (z.map (cellX A)))) λz'=>bind (optM A (repOf A (bO HT d) n z')) λv=>inst A d false [v])else fail A
 |.slc sz x lo hi=>bind (opd A x) λt=>bind (lenOf A t) λn=>bind (optNat A lo (A.litN 0)) λl=>bind (optNat A hi n) λh=>brM A (A.slOk l h n) (
  match t with
  |.d (.row false t) xs=>if fm t=sz then wr A d (.d (.row false t) (A.win false t xs l (A.subN h l)))else fail A
  |.d (.nilr false) x=>wr A d (.d (.nilr false) x)
  |.pk p vs=>bind (getPl A p) λt=>match t with|.d (.row true t) _=>if fm t=sz then wr A d (.pw p vs sz l (A.subN h l))else fail A|.d (.nilr true) _=>wr A d (.pw p vs sz l (A.subN h l))|_=>fail A
  |.pw p vs sz' lo' _=>if sz'=sz then wr A d (.pw p vs sz (A.addN lo' l) (A.subN h l))else fail A
  |.d (.nilr true) x=>inst A d false [.d (.nilr true) x]
  |_=>fail A)
 |.app sz bytes mv fl s x=>bind (opd A s) λts=>bind (opd A x) λtx=>
  if fl && !mv&&isNameX tx then bind (contentOf A tx) λc2=>if flatRow c2 then bind (take1 A true ts) λs=>appX A d sz bytes (bO HT d) s c2 else fail A
  else bind (take1 A true ts) λs=>bind (take1 A mv tx) λx=>appX A d sz bytes (bO HT d) s x
 |.apz sz bytes z s x=>if(z.map (cellX A)).all okCellX&&z.length==sz then bind (opd A s) λts=>bind (opd A x) λtx=>bind (natOf A tx) λn=>bind (take1 A true ts) λs=>bind (optM A (repOf A (bO HT d) n (z.map (cellX A)))) λv=>appX A d sz bytes (bO HT d) s v else fail A
 |.len x=>bind (opd A x) λt=>bind (lenOf A t) λn=>wr A d (.d (.int .i64) (A.natI n))
 |.lens x=>bind (opd A x) λt=>match t with
  |.d .str s=>wr A d (.d (.int .i64) (A.strLen s))
  |_=>fail A
 |.ixs x i=>bind (opd A x) λt=>bind (opd A i) λti=>bind (natOf A ti) λk=>match t with
  |.d .str s=>H4 A s k λb=>wr A d (.d (.int .u8) b)
  |_=>fail A
 |.mm mx xs=>bind (mapM' (λx=>bind (opd A x) (intOf A)) xs) λl=>match l with
  |.d (.int k) a::r=>match mmAll A mx k a r with|some m=>wr A d (.d (.int k) m)|none=>fail A
  |_=>fail A
 |.mkf f caps=>bind (mapM' (λx=>bind (opd A x) (capOf A)) caps) λl=>wr A d (.fn f l)
 |.idxa n sz x i=>bind (opd A x) λt=>bind (opd A i) λti=>bind (natOf A ti) λk=>match t with
  |.ptr p vs=>bind (chk A p p.hops.length vs) λ_=>caseM A k n (λj=>if fitsP p (j*sz)then wr A d (.ptr (addP p (j*sz)) vs)else fail A) 0
  |_=>fail A
 |.s2b x=>bind (opd A x) λt=>match t with
  |.d .str s=>brM A (A.strOk s) (wr A d (.d (.row false (.int .u8)) (A.strB s)))
  |_=>fail A
 |.b2s x=>bind (opd A x) λt=>bind (take1 A false t) λt'=>match t' with
  |.d (.row false (.int .u8)) c=>Jp A c λs=>wr A d (.d .str s)
  |_=>fail A
 |.cpy sz x y=>bind (opd A x) λt=>bind (opd A y) λu=>bind (contentOf A u) λc2=>match t with
  |.pk p vs=>bind (chk A p (p.hops.length+1) vs) λ_=>bind (rdC p.root p.off) λtv=>cpyX A d sz p (A.litN 0) none tv c2
  |.pw p vs sz' lo n=>if sz'=sz then bind (chk A p (p.hops.length+1) vs) λ_=>bind (rdC p.root p.off) λtv=>cpyX A d sz p lo (some n) tv c2 else fail A
  |_=>fail A
 |.emp x=>bind (opd A x) λt=>bind (lenOf A t) λ_=>inst A d false [.d (.nilr true) (A.nilv true)]
 |.call _ _ _=>fail A
end
end X
structure XGP (D:CT->Type) where
 i:Nat
 p:XP D
 vs:List Nat
 cells:List (XV D)
namespace X
section
variable {D:CT->Type} {M:Type->Type} {X:Type} (A:Alg D M) {α β:Type}
def isNmX:XV D->Bool
 |.pk _ _=>true
 |.d (.nilr true) _=>true
 |_=>false
def argV0:XV D->XM D M X (XV D)
 |.ip cs=>ret (.ip cs)
 |.fn f cap=>ret (.fn f cap)
 |.ptr p vs=>ret (.ptr p vs)
 |t=>bind (takeV A false t) λl=>bind (optM A (immXL A l.1)) λl'=>ret (shapedX l.2 l')
def rY:XV D->XM D M X (XV D)
 |.d (.nilr true) y=>bind (names A 1000000 [.d (.nilr true) y]) λl=>ret (l.headD .dead)
 |t=>ret t
def argV(x:Option Nat×Opd):XM D M X (XV D):=bind (opd A x.2) λt=>if(x.1==some 0&&isNmX t)=true then rY A t else argV0 A t
def argVs:List (Option Nat×Opd)->XM D M X (List (XV D))
 | []=>ret []
 |x::r=>bind (argV A x) λt=>bind (argVs r) λl=>ret (t::l)
def takeOwns:Nat->List (Option Nat×XV D)->XM D M X (List (Nat×XV D))
 |_,[]=>ret []
 |i,(some 0,.pk p vs)::r=>bind (take1 A true (.pk p vs)) λt=>if isOwX t=true then bind (takeOwns (i+1) r) λq=>ret ((i,t)::q)else fail A
 |i,_::r=>takeOwns (i+1) r
def grabB(r:Nat):Nat->Nat->XM D M X (List (XV D))
 |_,0=>ret []
 |o,n+1=>bind (rdC r o) λt=>bind (peek1 A ⟨r,o,[]⟩ t) λt'=>bind (take1 A true t') λt2=>bind (grabB r (o+1) n) λl=>ret (t2::l)
def Jq(p:XP D):XP D:=⟨p.root,p.off,[]⟩
def baseXN(p:XP D)(n:Nat):Nat:=match p.hops with
 | []=>n
 |_::_=>1
def rooted(p:XP D):XM D M X Unit:=match p.hops with
 | []=>ret ()
 |_::_=>bind (rdT ((p.root-2)/2)) λt=>match t with
  |.ptr q ws=>if q.root==p.root&&q.hops.isEmpty then chk A q 0 ws else fail A
  |_=>fail A
def isArgX:XV D->Bool
 |.ip _=>true
 |.d (.nilr true) _=>true
 |.fn _ l=>l.all immCX
 |.agg l=>l.all λt=>okCellX t && !isOwX t
 |t=>okCellX t && !isOwX t
def grabs:Nat->List (Option Nat×XV D)->XM D M X (List (XGP D))
 |_,[]=>ret []
 |i,(some n,.ptr p vs)::r=>bind (chk A p p.hops.length vs) λ_=>bind (rooted A p) λ_=>bind (grabB A p.root p.off (baseXN p n)) λl=>bind (grabs (i+1) r) λq=>ret (⟨i,Jq p,vs.take 1,l⟩::q)
 |i,(some 0,.pk _ _)::r=>grabs (i+1) r
 |i,(_,t)::r=>if isArgX t then grabs (i+1) r else fail A
def touch(p:XP D):XM D M X Unit:=bind (rdC p.root p.off) λtv=>wrC A p.root p.off tv
def rechk:List (XGP D)->XM D M X Unit
 | []=>ret ()
 |g::r=>bind (chk A g.p g.p.hops.length g.vs) λ_=>bind (touch A g.p) λ_=>rechk r
def argT(i:Nat):XV D->XV D
 |.ptr p _=>.ptr ⟨2*i+2,0,p.hops⟩ (List.replicate (p.hops.length+1) 0)
 |.pk _ _=>.pk ⟨2*i+3,0,[]⟩ [0,0]
 |t=>t
def argTs:Nat->List (XV D)->List (XV D)
 |_,[]=>[]
 |i,t::r=>argT i t::argTs (i+1) r
def mkSt(vals:List (XV D))(pts:List (Nat×List (XV D))):XS D:=⟨dt 0 vals,pts,[],([],[])⟩
def isDeadX:XV D->Bool
 |.dead=>true
 |.d t _=>!oneT t
 |_=>false
def putBack:List (XGP D×List (XV D))->XM D M X Unit
 | []=>ret ()
 |(g,l)::r=>bind (putBack r) λ_=>if l.length=g.cells.length/\0<l.length/\(l.all λt=>!isDeadX t)=true then putL A g.p l else fail A
def shapeRX:List RSh->List (XV D)->List (XV D)
 | [],_=>[]
 |.one::r,l=>l.headD .dead::shapeRX r l.tail
 |.agg n::r,l=>.agg (l.take n)::shapeRX r (l.drop n)
 |.ptr::r,l=>.dead::shapeRX r l
def shapeTX(sh:List RSh)(l:List (XV D)):XV D:=
 match shapeRX sh l with
 | [x]=>x
 |l=>.tup l
def landR(dst:Option Nat)(cells:List (XV D))(sh:List RSh):XM D M X Unit:=
 match dst with
 |some d=>bind (names A d cells) λl=>wr A d (shapeTX sh l)
 |none=>ret ()
def convP:(s:List (Nat×List Sh))->List (Nat×List (XV D))->(r:List CT)->HL D r->Option (HL D (lvP s r))
 | [],[],_,h=>some h
 |s::ss,x::xs,r,h=>if s.1=x.1 then(convP ss xs r h).bind λh1=>oV A s.2 x.2 (lvP ss r) h1 else none
 |_,_,_,_=>none
def convT:(s:List (Nat×Sh))->List (Nat×XV D)->(r:List CT)->HL D r->Option (HL D (lvT s r))
 | [],[],_,h=>some h
 |s::ss,x::xs,r,h=>if s.1=x.1 then(convT ss xs r h).bind λh1=>conv A s.2 x.2 (lvT ss r) h1 else none
 |_,_,_,_=>none
def sameVr:List (Key×Nat)->List (Key×Nat)->Bool
 | [],[]=>true
 |(q,n)::r,(q',n')::r'=>q==q'&&n==n'&&sameVr r r'
 |_,_=>false
def convS(s:Shs)(σ:XS D)(u:HL D []):Option (HL D (lvS s)):=if sameVr s.vr σ.vr then(convP A s.ce σ.ce [] u).bind λh=>convT A s.tm σ.tm _ h else none
def convIn(c:Ctr)(vals:List (XV D))(pts:List (Nat×List (XV D)))(u:HL D []):Option (HL D (lvL c.ins (lvP c.pts []))):=(convP A c.pts pts [] u).bind λh=>oV A c.ins vals _ h
def sameSh:List RSh->List RSh->Bool
 | [],[]=>true
 |.one::r,.one::r'=>sameSh r r'
 |.agg n::r,.agg n'::r'=>n==n'&&sameSh r r'
 |.ptr::r,.ptr::r'=>sameSh r r'
 |_,_=>false
def convO(o:XO)(cells:List (XV D))(sh:List RSh)(pts:List (Nat×List (XV D)))(u:HL D []):Option (HL D (lvO o)):=if sameSh o.sh sh then(convP A o.pts pts [] u).bind λh=>oV A o.cells cells _ h else none
def injO(cells:List (XV D))(sh:List RSh)(pts:List (Nat×List (XV D)))(u:HL D []):(outs:List XO)->Option ((i:Nat)×HL D (sI (outs.map lvO) i))
 | []=>none
 |o::r=>match convO A o cells sh pts u with
  |some h=>some ⟨0,h⟩
  |none=>match injO cells sh pts u r with|some x=>some ⟨x.1+1,x.2⟩|none=>none
def exEq:fL->fL->Bool
 |.normal,.normal=>true
 |.exit i,.exit j=>i==j
 |.ret,.ret=>true
 |_,_=>false
def injE(e:fL)(σ:XS D)(u:HL D []):(outs:List (fL×Shs))->Option ((i:Nat)×HL D (sI (outs.map λx=>lvS x.2) i))
 | []=>none
 |o::r=>match(if exEq o.1 e then convS A o.2 σ u else none)with
  |some h=>some ⟨0,h⟩
  |none=>match injE e σ u r with|some x=>some ⟨x.1+1,x.2⟩|none=>none
def onOut(o:Option α)(K:α->M X):M X:=match o with
 |some x=>K x
 |none=>A.fail
def isPX(sh:List RSh)(cells:List (XV D)):Bool:=match sh,cells with
 |.ptr::_,.ptr _ _::_=>true
 |_,_=>false
def shapePX(t:XV D):List (XV D)->XV D
 | []=>t
 |y::l=>.tup (t::y::l)
def landP(dst:Option Nat)(q:List (XGP D))(cells:List (XV D)):XM D M X Unit:=
 match dst with
 |none=>ret ()
 |some d=>match cells,q with
  |.ptr pl _::l,[g]=>if pl.root==2*g.i+2&&g.p.hops.isEmpty then bind (rdVs (ki g.p.root (g.p.off+pl.off) pl.hops.length)) λvs=>wr A d (shapePX (.ptr ⟨g.p.root,g.p.off+pl.off,pl.hops⟩ vs) l)else fail A
  |_,_=>fail A
def afterC(dst:Option Nat)(q:List (XGP D))(ow:List (Nat×XV D))(x:List (XV D)×List RSh×List (Nat×List (XV D))):XM D M X Unit:=
 if x.2.2.map (·.1)=q.map (λg=>2*g.i+2)++ow.map (λy=>2*y.1+3)/\(isPX x.2.1 x.1||jX x.2.1 x.1.length)=true then bind (putBack A (q.zip (x.2.2.map (·.2)))) λ_=>if isPX x.2.1 x.1 then landP A dst q x.1 else landR A dst x.1 x.2.1 else fail A
def callTB(dst:Option Nat)(f:FuncId)(vals:List (XV D))(q:List (XGP D))(ow:List (Nat×XV D))(u:HL D []):List Ctr->XM D M X Unit
 | []=>fail A
 |c::r=>match(if c.f=f then convIn A c vals (q.map (λg=>(2*g.i+2,g.cells))++ow.map λy=>(2*y.1+3,[y.2])) u else none)with
  |some h=>fun σ k=>A.call c.id (lvL c.ins (lvP c.pts [])) (c.outs.map lvO) c.g h λi ho=>onOut A (gP c.outs i ho) λx=>afterC A dst q ow x σ k
  |none=>callTB dst f vals q ow u r
def callV(TB:List Ctr)(u:HL D [])(dst:Option Nat)(f:FuncId)(ns:List (Option Nat))(vals:List (XV D)):XM D M X Unit:=
 bind (takeOwns A 0 (ns.zip vals)) λow=>bind (grabs A 0 (ns.zip vals)) λq=>bind (rechk A q) λ_=>
  if iC (q.map (·.p.root))&&q.all (λg=>decide (0<g.cells.length))then callTB A dst f (argTs 0 vals) q ow u TB else fail A
def see1:XV D->XM D M X (XV D)
 |.d (.row true _) _=>fail A
 |.d .nat _=>fail A
 |.d (.pair _ _) _=>fail A
 |.d (.nilr _) _=>ret (.d (.nilr false) (A.nilv false))
 |.d t x=>ret (.d t x)
 |.k x=>ret (.k x)
 |.pk p vs=>bind (chk A p (p.hops.length+1) vs) λ_=>bind (rdC p.root p.off) λtv=>getM A tv p.hops λv=>if isOwX v then optM A (immX A v)else fail A
 |_=>fail A
def seeL:List (XV D)->XM D M X (List (XV D))
 | []=>ret []
 |t::r=>bind (see1 A t) λt'=>bind (seeL r) λl=>ret (t'::l)
def seeA:XV D->XM D M X (XV D)
 |.agg l=>bind (seeL A l) λl'=>ret (.agg l')
 |.ip cs=>ret (.ip cs)
 |.fn f cap=>if cap.all immCX then ret (.fn f cap)else fail A
 |t=>see1 A t
def seeAs:List Opd->XM D M X (List (XV D))
 | []=>ret []
 |x::r=>bind (opd A x) λt=>bind (seeA A t) λt'=>bind (seeAs r) λl=>ret (t'::l)
def flatX:XV D->Bool
 |.d (.int _) _=>true
 |.d .bool _=>true
 |.d .str _=>true
 |.k x=>dZ x
 |_=>false
def afterB(dst:Option Nat)(x:List (XV D)×List RSh×List (Nat×List (XV D))):XM D M X Unit:=
 if x.2.2.length=0/\x.1.all flatX=true/\jX x.2.1 x.1.length=true then(match dst with|some d=>wr A d (shapeTX x.2.1 x.1)|none=>ret ())else fail A
def callB(dst:Option Nat)(f:FuncId)(vals:List (XV D))(u:HL D []):List Ctr->XM D M X Unit
 | []=>fail A
 |c::r=>match(if c.f=f then convIn A c vals [] u else none)with
  |some h=>fun σ k=>A.call c.id (lvL c.ins (lvP c.pts [])) (c.outs.map lvO) c.g h λi ho=>onOut A (gP c.outs i ho) λx=>afterB A dst x σ k
  |none=>callB dst f vals u r
def bxX(vals:List (XV D)):BxC->XV D
 |.arg i=>vals.getD i .dead
 |.val x=>cellX A x
def evBox(dst:Option Nat)(tm:List BxC)(vals:List (XV D)):XM D M X Unit:=
 match dst with
 |some d=>bind (takeL A false (tm.map (bxX A vals))) λl=>bind (new A (2*d+2) l) λ_=>bind (rdV (2*d+2,0,0)) λg=>wr A d (.ptr ⟨2*d+2,0,[]⟩ [g])
 |none=>fail A
def boxOk:BxC->Bool
 |.arg _=>true
 |.val x=>match x with|.slice none 0 0=>false|x=>dZ x
def rowLand(dst:Option Nat)(k:Nat)(p:XP D)(vs:List Nat)(m:D .nat):XM D M X Unit:=match dst with
 |none=>ret ()
 |some d=>if k=1 then wr A d (.tup [])else wr A d (.pw p vs 1 (A.litN 0) m)
def evRow(dst:Option Nat)(k:Nat):XV D->XM D M X Unit
 |.pk p vs=>bind (chk A p 1 vs) λ_=>match p.hops with
  | []=>bind (rdC p.root p.off) λtv=>match tv with
   |.d (.row true (.int .i64)) xs=>brM A (A.ltN (A.len true (.int .i64) xs) (A.litN 4611686018427387904)) (bind (wrC A p.root p.off (.d (.row true (.int .i64)) (A.rowF k xs))) λ_=>rowLand A dst k p vs (A.rowN xs))
   |.d (.nilr true) y=>bind (wrC A p.root p.off (.d (.nilr true) y)) λ_=>rowLand A dst k p vs (A.litN 0)
   |_=>fail A
  |_::_=>fail A
 |_=>fail A
def evRowA(dst:Option Nat)(k:Nat):List (Option Nat×Opd)->XM D M X Unit
 | [x]=>bind (opd A x.2) (evRow A dst k)
 |_=>fail A
def evCall(E:Env)(TB:List Ctr)(u:HL D [])(dst:Option Nat):TOp->XM D M X Unit
 |.call k (.f f) args=>
  if E.row f≠0 then evRowA A dst (E.row f) args else
  if k then bind (argVs A args) λvals=>match E.box f with
   |some x=>if vals.length=x.1/\x.2.all boxOk=true then evBox A dst x.2 vals else fail A
   |none=>callV A TB u dst f (args.map (·.1)) vals
  else bind (seeAs A (args.map (·.2))) λvals=>callB A dst f vals u TB
 |.call _ (.t i) args=>bind (rdT i) λt=>match t with
  |.fn f caps=>bind (argVs A args) λvals=>callV A TB u dst f (args.map (·.1)++CX E f args.length caps.length) (vals++caps)
  |_=>fail A
 |_=>fail A
structure Cfg where
 E:Env
 TB:List Ctr
 HT:List (Nat×CT)
 HL:List vz
def evop(C:Cfg)(u:HL D [])(dst:Option Nat)(op:TOp):XM D M X Unit:=
 match op with
 |.call k f args=>evCall A C.E C.TB u dst (.call k f args)
 |.store n mv a x=>match dst with|none=>ev1 A C.HT 0 (.store n mv a x)|some _=>fail A
 |op=>match dst with|some d=>ev1 A C.HT d op|none=>fail A
def setNo(dst:Option Nat):XM D M X Unit:=match dst with|some d=>wrT A d (.tup [])|none=>ret ()
def known(j:Nat)(b:Bool)(σ:XS D):XS D:=⟨cM σ.tm j (.d .bool (A.litB b)),σ.ce,σ.vr,σ.lg⟩
def knownO(c:Opd)(b:Bool)(σ:XS D):XS D:=match c with|.t j=>known A j b σ |_=>σ
def condX(m m':M X):XV D->M X
 |.d .bool x=>A.br x m m'
 |_=>A.fail
def guardX(j:Nat)(want:Bool)(m m':XM D M X Unit):XV D->XM D M X Unit
 |.d .bool b=>fun σ k=>A.br b ((if want then m else m') (known A j true σ) k) ((if want then m' else m) (known A j false σ) k)
 |.tup []=>m'
 |_=>fail A
def spOp(C:Cfg)(u:HL D [])(o:eB):XM D M X Unit:=
 match o.guard with
 |none=>evop A C u o.dst o.op
 |some (j,want)=>bind (rdT j) (guardX A j want (evop A C u o.dst o.op) (setNo A o.dst))
def spOps(C:Cfg)(u:HL D []):List eB->XM D M X Unit
 | []=>ret ()
 |o::r=>bind (spOp A C u o) λ_=>spOps C u r
def spFL(C:Cfg)(u:HL D [])(ops:List eB):List Nat->XM D M X (List (Nat×k9))
 | []=>ret []
 |i::r=>fun σ k=>spOp A C u (ops.getD i vA) ⟨σ.tm,σ.ce,σ.vr,([],[])⟩ λ_ σ1=>spFL C u ops r σ1 λfs σ2=>k ((i,σ1.lg)::fs) σ2
def renorm0(L:List Nat)(σ:XS D):XV D->XV D
 |.ptr p vs=>if L.contains p.root&&vs==fa (lH σ.vr) p.root p.off p.hops.length then .ptr p (fa (λ_=>0) p.root p.off p.hops.length)else .dead
 |.pk p vs=>if L.contains p.root&&vs==fa (lH σ.vr) p.root p.off (p.hops.length+1)then .pk p (fa (λ_=>0) p.root p.off (p.hops.length+1))else .dead
 |.pw p vs sz lo n=>if L.contains p.root&&vs==fa (lH σ.vr) p.root p.off (p.hops.length+1)then .pw p (fa (λ_=>0) p.root p.off (p.hops.length+1)) sz lo n else .dead
 |.k x=>.k x
 |.ip cs=>.ip cs
 |.d (.row true _) _=>.dead
 |.d t x=>.d t x
 |.tup []=>.tup []
 |_=>.dead
def renorm(L:List Nat)(σ:XS D):XV D->XV D
 |.agg l=>.agg (l.map (renorm0 L σ))
 |.fn f l=>.fn f (l.map (renorm0 L σ))
 |t=>renorm0 L σ t
def normT(L:List Nat)(σ:XS D):List Nat->List (Nat×XV D)
 | []=>[]
 |i::r=>match bO σ.tm i with|some t=>(i,renorm L σ t)::normT L σ r|none=>normT L σ r
def normC(σ:XS D):List Nat->List (Nat×List (XV D))
 | []=>[]
 |r::l=>match bO σ.ce r with|some c=>(r,c)::normC σ l|none=>normC σ l
def norm(σ:XS D)(pers:Prs):XS D:=⟨normT pers.2 σ pers.1,normC σ pers.2,[],([],[])⟩
def anew(σ:XS D):XS D:=norm σ (σ.tm.map (·.1),σ.ce.map (·.1))
def selH(i:Nat)(σ:XS D)(u:HL D []):List vz->Option ((H:vz)×HL D (lvS H.s))
 | []=>none
 |H::r=>match(if H.i=i then convS A H.s σ u else none)with
  |some h=>some ⟨H,h⟩
  |none=>selH i σ u r
def selJ(i:Nat):List vz->Option vz
 | []=>none
 |H::r=>if H.i=i then some H else selJ i r
def marks:eC->Nat
 |.seq a b=>marks a+marks b+1
 |.cond _ a b=>marks a+marks b
 |.block _ b=>marks b
 |.sc b=>marks b
 |.loop b=>marks b+1
 |.pre _ b=>marks b
 |.frz _ _ b=>marks b
 |.post b _=>marks b
 |_=>0
def okN0:XV D->Bool
 |.d (.row true _) _=>false
 |.d .nat _=>false
 |.d (.pair _ _) _=>false
 |.gap _ _ _ _=>false
 |_=>true
def okN:XV D->Bool
 |.agg l=>l.all okN0
 |.fn _ l=>l.all okN0
 |t=>okN0 t
def okS(σ:XS D):Bool:=σ.tm.all λx=>okN x.2
def shr1(x:Nat×Option Nat):XM D M X Unit:=bind (rdT x.1) λt=>match x.2,t with
 |none,.pk p vs=>bind (take1 A false (.pk p vs)) λt'=>bind (optM A (immX A t')) λt2=>wrT A x.1 t2
 |some off,.ptr p vs=>bind (chk A p p.hops.length vs) λ_=>if fitsP p off then bind (getPl A (addP p off)) λt=>if isOwX t then bind (peek1 A (addP p off) t) λt'=>bind (take1 A false t') λ_=>ret ()else(match t with|.d _ _=>ret ()|_=>fail A)else fail A
 |none,.d _ _=>ret ()
 |none,.agg l=>if l.any isOwX then fail A else ret ()
 |_,_=>fail A
def shrs:List (Nat×Option Nat)->XM D M X Unit
 | []=>ret ()
 |x::r=>bind (shr1 A x) λ_=>shrs r
def rdImmM(r:Nat):Nat->Nat->XM D M X (List (XV D))
 |0,_=>ret []
 |n+1,o=>bind (rdC r o) λt=>if immCX t then bind (rdImmM r n (o+1)) λl=>ret (t::l)else fail A
def frzM(i n:Nat):XM D M X Unit:=bind (rdT i) λt=>match t with
 |.ptr p vs=>if p.root=2*i+2/\p.off=0/\p.hops=[]then bind (chk A p 0 vs) λ_=>bind (rdImmM A p.root n 0) λl=>bind (new A p.root []) λ_=>wrT A i (.ip l)else fail A
 |_=>fail A
def roundK(H:vz)(u:HL D [])(e:fL)(σ:XS D):M (HL den (lvS H.s)⊕so (H.outs.map λx=>lvS x.2)):=
 match e with
 |.normal=>onOut A (convS A H.s σ u) (A.next (lvS H.s) (H.outs.map λx=>lvS x.2))
 |e=>onOut A (injE A e σ u H.outs) λx=>A.exitL (lvS H.s) (H.outs.map λx=>lvS x.2) x.1 x.2
def runC(C:Cfg)(u:HL D []):eC->Nat->{X:Type}->XS D->(fL->XS D->M X)->M X
 |.skip,_,_,σ,k=>k .normal σ
 |.nrm pers,_,_,σ,k=>if okS σ then k .normal (norm σ pers)else A.fail
 |.reg _ draw ops pers,_,_,σ,k=>
  match draw with
  |none=>spOps A C u ops σ λ_ σ'=>if okS σ' then k .normal (norm σ' pers)else A.fail
  |some deps=>spFL A C u ops (List.range ops.length) σ λfs σ'=>if mC deps fs&&okS σ' then k .normal (norm σ' pers)else A.fail
 |.seq a b,i,_,σ,k=>match selJ i C.HL with
  |none=>runC C u a (i+1) σ λe σ'=>match e with|.normal=>runC C u b (i+1+marks a) σ' k|e=>k e σ'
  |some H=>A.join (H.outs.map λx=>lvS x.2) (runC C u a (i+1) σ λe σ'=>match injE A e σ' u H.outs with|some x=>A.out (H.outs.map λx=>lvS x.2) x.1 x.2|none=>A.fail)
   λj ho=>onOut A (ou H.outs j ho) λx=>match x.1 with|.normal=>runC C u b (i+1+marks a) x.2 k|e=>k e x.2
 |.cond c a b,i,_,σ,k=>opd A c σ λt _=>condX A (runC C u a i (knownO A c true σ) k) (runC C u b (i+marks a) (knownO A c false σ) k) t
 |.block id b,i,_,σ,k=>runC C u b i σ λe σ'=>match e with|.exit j=>if j=id then k .normal σ' else k (.exit j) σ'|e=>k e σ'
 |.loop b,i,_,σ,k=>match selH A i σ u C.HL with
  |some ⟨H,h⟩=>A.loop H.nm (lvS H.s) (H.outs.map λx=>lvS x.2) h
   (λh=>runC C u b (i+1) (wP H.s h) (roundK A H u))
   λj ho=>onOut A (ou H.outs j ho) λx=>k x.1 x.2
  |none=>A.fail
 |.exit id,_,_,σ,k=>k (.exit id) σ
 |.sc b,i,_,σ,k=>runC C u b i σ k
 |.ret,_,_,σ,k=>k .ret σ
 |.frz j n a,i,_,σ,k=>frzM A j n σ λ_ σ'=>if okS σ' then runC C u a i (anew σ') k else A.fail
 |.pre l a,i,_,σ,k=>shrs A l σ λ_ σ'=>if okS σ' then runC C u a i (anew σ') k else A.fail
 |.post a l,i,_,σ,k=>runC C u a i σ λe σ'=>shrs A l σ' λ_ σ2=>if okS σ2 then k e (anew σ2)else A.fail
def takeR1(np:Nat)(t:XV D):XM D M X (XV D):=
 match t with
 |.pk p vs=>take1 A (!Io np p.root) (.pk p vs)
 |t=>take1 A true t
def takeRL(np:Nat):List (XV D)->XM D M X (List (XV D))
 | []=>ret []
 |t::r=>bind (takeR1 A np t) λt'=>bind (takeRL np r) λr'=>ret (t'::r')
def takeRV(np:Nat)(t:XV D):XM D M X (List (XV D)×RSh):=
 match t with
 |.agg l=>bind (takeRL A np l) λl'=>ret (l',.agg l'.length)
 |t=>bind (takeR1 A np t) λt'=>ret ([t'],.one)
def res1(np:Nat):TRs->XM D M X (List (XV D)×RSh)
 |.tmp t=>bind (rdT t) λtv=>takeRV A np tv
 |.cell t n=>bind (rdT t) λtv=>match tv with
  |.ptr p vs=>bind (chk A p p.hops.length vs) λ_=>match n with
   |none=>bind (getPl A p) λt=>bind (peek1 A p t) λt'=>takeRV A np t'
   |some n=>bind (peekL A p n) λl=>takeRV A np (.agg l)
  |_=>fail A
def resL(np:Nat):List TRs->XM D M X (List (XV D)×List RSh)
 | []=>ret ([],[])
 |r::rs=>bind (res1 A np r) λx=>bind (resL np rs) λy=>ret (x.1++y.1,x.2::y.2)
def onesOf:List (XV D)->List RSh
 | []=>[]
 |_::r=>.one::onesOf r
def flatsR:List TRs->XM D M X (List (XV D))
 | []=>ret []
 |.tmp t::r=>bind (rdT t) λtv=>if flatX tv then bind (flatsR r) λl=>ret (tv::l)else fail A
 |.cell _ _::_=>fail A
def resF(np:Nat)(l:List TRs):XM D M X (List (XV D)×List RSh):=
 match l with
 |.tmp t::r=>bind (rdT t) λtv=>match tv with
  |.ptr p vs=>bind (chk A p p.hops.length vs) λ_=>bind (flatsR A r) λl=>ret (.ptr p vs::l,.ptr::onesOf l)
  |_=>resL A np (.tmp t::r)
 |qs=>resL A np qs
def isPtrX:XV D->Bool
 |.ptr _ _=>true
 |_=>false
def isShX:XV D->Bool
 |.d (.row false _) _=>true
 |.d (.nilr false) _=>true
 |_=>false
def ptrsInX(pp:List Nat):Nat->List (XV D)->Bool
 |_,[]=>true
 |i,t::r=>(!isPtrX t||pp.contains i)&&(isPtrX t||isShX t || !pp.contains (1000+i))&&ptrsInX pp (i+1) r
def ptsOf(σ:XS D):List (Nat×List (XV D))->List (Nat×List (XV D))
 | []=>[]
 |x::r=>(x.1,(bO σ.ce x.1).getD [])::ptsOf σ r
def runT(C:Cfg)(u:HL D [])(tf:TFn)(outs:List XO)(vals:List (XV D))(pts:List (Nat×List (XV D))):M (so (outs.map lvO)):=
 if vals.length=tf.np/\(ptrsInX tf.pp 0 vals&&(!tf.pp.contains 1000||pts.isEmpty))=true then
  runC A C u tf.body 0 (mkSt vals pts) λe σ=>match e with
   |.exit _=>A.fail
   |_=>resF A tf.np tf.res σ λy σ'=>onOut A (injO A y.1 y.2 (ptsOf σ' pts) u outs) λx=>A.out (outs.map lvO) x.1 x.2
 else A.fail
end
end X
def er1:(t:CT)->den t->TV
 |.int k,x=>.v (.int k x)
 |.bool,x=>.v (.bool x)
 |.str,x=>.v (.string x)
 |.nat,_=>.dead
 |.row true t,xs=>.ow (List.map (enc t) xs)
 |.row false t,xs=>.sl (List.map (enc t) xs)
 |.nilr true,_=>.ow []
 |.nilr false,_=>.sl []
 |.pair _ _,_=>.dead
def erP(p:XP den):bA:=⟨p.root,p.off,p.hops⟩
mutual
def er:XV den->TV
 |.d t x=>er1 t x
 |.k x=>.v x
 |.dead=>.dead
 |.ptr p vs=>.ptr (erP p) vs
 |.ip l=>.ip (erL l)
 |.pk p vs=>.pk (erP p) vs
 |.pw p vs sz lo n=>.pw (erP p) vs sz lo n
 |.agg l=>.agg (erL l)
 |.tup l=>.tup (erL l)
 |.fn f l=>.fn f (erL l)
 |.gap t x i o=>dn (er1 (.row true t) x) [(i,0,o)] .dead
def erL:List (XV den)->List TV
 | []=>[]
 |x::r=>er x::erL r
end
def erC(l:List (Nat×List (XV den))):List (Nat×List TV):=l.map λx=>(x.1,erL x.2)
def erS(σ:XS den):St:=⟨σ.tm.map λx=>(x.1,er x.2),erC σ.ce,σ.vr⟩
theorem fH(l:List (XV den)):erL l=l.map er:=by
 induction l with
 |nil=>rfl
 |cons x r ih=>simp only[erL,List.map_cons,ih]
theorem cT(l:List (XV den)):(erL l).length=l.length:=by rw[fH];simp
theorem kV(a b:List (XV den)):erL (a++b)=erL a++erL b:=by simp[fH]
theorem kU(l:List (XV den))(n:Nat):erL (l.take n)=(erL l).take n:=by simp[fH,List.map_take]
theorem mT(l:List (XV den))(n:Nat):erL (l.drop n)=(erL l).drop n:=by simp[fH,List.map_drop]
theorem pj(l:List (XV den))(i:Nat):er (l.getD i .dead)=(erL l).getD i .dead:=by
 rw[fH];simp only[oGD,List.getElem?_map];cases l[i]?<;>rfl
theorem qm(l:List (XV den))(i:Nat)(t:XV den):erL (l.set i t)=(erL l).set i (er t):=by simp[fH,List.map_set]
theorem vi(l:List (XV den)):er (l.headD .dead)=(erL l).headD .dead:=by cases l<;>rfl
theorem Ge{o:Bool}{t t':CT}(xs:List (den t))(f:den t->den t')(h:∀y,enc t' (f y)=enc t y):enc (.row o t') (List.map f xs)=enc (.row o t) xs:=by
 have e:List.map (enc t') (List.map f xs)=List.map (enc t) xs:=by
  rw[List.map_map];exact List.map_congr_left λy _=>h y
 cases o
 ·show[TV.sl (List.map (enc t') (List.map f xs))]=[TV.sl (List.map (enc t) xs)];rw[e]
 ·show[TV.ow (List.map (enc t') (List.map f xs))]=[TV.ow (List.map (enc t) xs)];rw[e]
theorem l6{t:CT}(h:X.oneT t=true)(x:den t):enc t x=[er1 t x]:=by
 cases t with
 |row o t=>cases o<;>rfl
 |nilr o=>cases o<;>rfl
 |nat=>simp[X.oneT]at h
 |pair a b=>simp[X.oneT]at h
 |_=>rfl
theorem cz:∀(t:CT)(x:den t),(enc t x).length=fm t:=by
 intro t
 induction t with
 |pair a b Zg Zb=>intro x;simp only[enc,List.length_append,Zg,Zb,fm]
 |row o t=>intro x;cases o<;>rfl
 |nilr o=>intro x;cases o<;>rfl
 |_=>intro x;rfl
theorem ml:∀(t:CT)(x:den t),erL (X.splitX bp t x)=enc t x:=by
 intro t
 induction t with
 |pair a b Zg Zb=>
  intro x;simp only[X.splitX,kV,enc];rw[Zg,Zb];rfl
 |row o t=>intro x;cases o<;>rfl
 |nilr o=>intro x;cases o<;>rfl
 |_=>intro x;rfl
theorem pQ{α:Type}(l:List α):∀i,D0 l i=l[i]?:=by
 induction l with
 |nil=>intro i;rfl
 |cons x r ih=>intro i;cases i with|zero=>rfl|succ i=>simp[D0,ih]
theorem mj{t:CT}{x:den t}{o:Nat}{v:XV den}(h:D0 (X.splitX bp t x) o=some v):(enc t x)[o]?=some (er v):=by
 rw[pQ]at h;rw[<- ml,fH,List.getElem?_map,h];rfl
theorem Im:∀{t u:CT}(x:den t),zY t u=true->enc u (Fk t u x)=enc t x:=by
 intro t
 induction t with
 |int k=>intro u x h;cases u<;>simp[zY]at h;subst h;rfl
 |bool=>intro u x h;cases u<;>simp[zY]at h;rfl
 |str=>intro u x h;cases u<;>simp[zY]at h;rfl
 |nat=>intro u x h;cases u<;>simp[zY]at h;rfl
 |row o t ih=>
  intro u x h;cases u<;>simp[zY]at h;rename_i o' t';obtain⟨rfl,h⟩:=h;exact Ge x (Fk t t') λy=>ih y h
 |nilr o=>
  intro u x h;cases u<;>simp[zY]at h
  ·subst h;cases o<;>rfl
  ·subst h;cases o<;>rfl
 |pair a b Zg Zb=>
  intro u x h;cases u<;>simp[zY]at h;rename_i a' b';show enc a' (Fk a a' x.1)++enc b' (Fk b b' x.2)=enc a x.1++enc b x.2;rw[Zg _ h.1,Zb _ h.2]
theorem xo{t u:CT}{x:den t}{y:den u}(h:asT bp t u x=some y):enc u y=enc t x:=by
 unfold asT at h;split at h
 ·rename_i he;have:=mV he;subst this
  injection h with h
  rw[<- h]
 ·split at h
  ·rename_i hl
   injection h with h
   rw[<- h];exact Im x hl
  ·simp at h
theorem G7{t u:CT}{x:den t}{y:den u}(h:asT bp t u x=some y):X.oneT u=X.oneT t:=by
 unfold asT at h;split at h
 ·rename_i he;rw[mV he]
 ·split at h
  ·rename_i hl;cases t<;>cases u<;>simp[zY]at hl<;>rfl
  ·simp at h
theorem yG{t u:CT}{x:den t}{y:den u}(h:asT bp t u x=some y):er1 u y=er1 t x:=by
 have h1:=xo h;have h2:=G7 h
 cases ht:X.oneT t with
 |true=>
  rw[l6 (by rw[h2,ht]),l6 ht]at h1;injection h1
 |false=>
  rw[ht]at h2;cases t<;>simp[X.oneT]at ht<;>cases u<;>simp[X.oneT]at h2<;>rfl
theorem yB{α β:Type}(h:α=β)(h2:List α=List β)(xs:List α):cast h2 xs=xs.map (cast h):=by
 subst h;exact(List.map_id xs).symm
theorem qw{α β γ δ:Type}(h1:α=γ)(h2:β=δ)(h:(α×β)=(γ×δ))(x:α×β):cast h x=(cast h1 x.1,cast h2 x.2):=by
 subst h1;subst h2;rfl
theorem iy:∀t,fI t t=true:=by
 intro t
 induction t with
 |row o t ih=>simpa[fI]using ih
 |pair a b Zg Zb=>simp[fI,Zg,Zb]
 |_=>simp[fI]
theorem nF:∀t,fI t (lm t)=true:=by
 intro t
 induction t with
 |row o t ih=>cases o with
  |true=>simpa[lm,fI]using ih
  |false=>simpa[lm]using iy (.row false t)
 |pair a b Zg Zb=>simp[lm,fI,Zg,Zb]
 |nilr o=>simp[lm,fI]
 |_=>simp[lm,fI]
theorem tK:∀(t:CT)(h:den t=den (lm t))(x:den t),enc (lm t) (cast h x)=du (enc t x):=by
 intro t
 induction t with
 |row o t ih=>
  intro h x
  cases o with
  |false=>rfl
  |true=>
   have h':den t=den (lm t):=dH (nF t);have e:(cast h x:den (.row false (lm t)))=(List.map (cast h') (x:List (den t)):List (den (lm t))):=yB h' h x;show enc (.row false (lm t)) (cast h x)=du [TV.ow (List.map (enc t) (x:List (den t)))];rw[e];show[TV.sl (List.map (enc (lm t)) (List.map (cast h') (x:List (den t))))]=[TV.sl (gT (List.map (enc t) (x:List (den t))))];rw[List.map_map,iJ,List.map_map];congr 2;refine List.map_congr_left λy _=>?_;simp only[Function.comp_apply];rw[ih h' y,jj]
 |nilr o=>intro h x;cases o<;>rfl
 |pair a b Zg Zb=>
  intro h x;have ha:=dH (nF a);have hb:=dH (nF b);have e:(cast h x:den (.pair (lm a) (lm b)))=((cast ha x.1,cast hb x.2):den (lm a)×den (lm b)):=qw ha hb h x;show enc (.pair (lm a) (lm b)) (cast h x)=du (enc a x.1++enc b x.2);rw[e];show enc (lm a) (cast ha x.1)++enc (lm b) (cast hb x.2)=_;rw[Zg ha,Zb hb];simp[jj]
 |_=>intro h x;rfl
theorem p8{x y:XV den}(h:X.immX bp x=some y):er y=(er x).imm:=by
 unfold X.immX at h;split at h
 ·injection h with h;subst h;rfl
 ·injection h with h;subst h;rfl
 ·injection h with h;subst h;rfl
 ·injection h with h;subst h;rfl
 ·rename_i o _
  injection h with h;subst h
  cases o<;>rfl
 ·rename_i t xs;split at h
  ·rename_i hs
   injection h with h
   subst h;have:=tK (.row true t) (dH hs) xs;simp only[lm]at this;have e1:enc (.row false (lm t)) (cast (dH hs) xs)=[er1 (.row false (lm t)) (cast (dH hs) xs)]:=rfl;rw[e1]at this;show er1 (.row false (lm t)) (cast (dH hs) xs)=(er1 (.row true t) xs).imm;simpa[du,enc,er1]using this
  ·simp at h
 ·injection h with h;subst h;rfl
 ·simp at h
theorem td:∀{l l':List (XV den)},X.immXL bp l=some l'->erL l'=(erL l).map TV.imm:=by
 intro l
 induction l with
 |nil=>intro l' h;simp only[X.immXL,oSJ]at h;subst h;rfl
 |cons x l ih=>
  intro l' h;simp only[X.immXL]at h;split at h
  ·rename_i y r h1 h2
   injection h with h
   subst h;simp only[erL,List.map_cons];rw[p8 h1,ih h2]
  ·simp at h
theorem vP:∀{t:CT}{o:Nat}{os:List Nat}{t':CT},shT t o os=some t'->fI t t'=true:=by
 intro t
 induction t with
 |pair a b Zg Zb=>
  intro o os t' h;simp only[shT]at h;split at h
  ·obtain⟨u,h1,rfl⟩:=dV h;simp[fI,Zg h1,iy]
  ·obtain⟨u,h1,rfl⟩:=dV h;simp[fI,Zb h1,iy]
 |row ow t ih=>
  intro o os t' h
  cases ow with
  |true=>
   cases o with
   |zero=>
    cases os with
    |nil=>simp only[shT,oSJ]at h;subst h;exact nF _
    |cons o os=>
     simp only[shT]at h;obtain⟨u,h1,rfl⟩:=dV h;simpa[fI]using ih h1
   |succ o=>simp only[shT,oSJ]at h;subst h;exact iy _
  |false=>
   cases o with
   |zero=>
    cases os with
    |nil=>simp only[shT,oSJ]at h;subst h;exact nF _
    |cons o os=>simp only[shT,oSJ]at h;subst h;exact iy _
   |succ o=>simp only[shT,oSJ]at h;subst h;exact iy _
 |_=>
  intro o os t' h
  cases o with
  |zero=>
   cases os with
   |nil=>simp only[shT,oSJ]at h;subst h;exact nF _
   |cons o os=>simp only[shT,oSJ]at h;subst h;exact iy _
  |succ o=>simp only[shT,oSJ]at h;subst h;exact iy _
theorem nP(l:List TV)(h:l.length<=1):du l=l.modify 0 λy=>cy y []:=by
 match l,h with
 | [],_=>rfl
 | [y],_=>cases y<;>rfl
theorem nQ(l:List TV)(h:l.length<=1)(o:Nat)(f:TV->TV):l.modify (o+1) f=l:=List.modify_eq_self (by omega)
theorem xW{α:Type}(l l':List α)(f:α->α){o:Nat}(h:o<l.length):(l++l').modify o f=l.modify o f++l':=by
 apply List.ext_getElem?;intro i;simp only[List.getElem?_modify,List.getElem?_append,oLM];by_cases hi:i<l.length
 ·simp only[hi,if_true]
 ·have:¬o=i:=by omega
  simp only[hi,if_false,this];simp
theorem uJ{α:Type}(l l':List α)(f:α->α){o:Nat}(h:l.length<=o):(l++l').modify o f=l++l'.modify (o-l.length) f:=by
 apply List.ext_getElem?;intro i;simp only[List.getElem?_modify,List.getElem?_append];by_cases hi:i<l.length
 ·have:¬o=i:=by omega
  simp only[hi,if_true,this,if_false];simp
 ·have:(o=i)↔(o-l.length=i-l.length):=by omega
  simp only[hi,if_false,this]
theorem CG:∀(t:CT)(o:Nat)(os:List Nat)(t':CT)(h:den t=den t')(x:den t),shT t o os=some t'->enc t' (cast h x)=(enc t x).modify o λy=>cy y os:=by
 intro t
 induction t with
 |pair a b Zg Zb=>
  intro o os t' h x hs;simp only[shT]at hs;show _=(enc a x.1++enc b x.2).modify o λy=>cy y os;split at hs
  ·rename_i ho;obtain⟨u,h1,rfl⟩:=dV hs;have ha:=dH (vP h1);have e:(cast h x:den (.pair u b))=((cast ha x.1,cast rfl x.2):den u×den b):=qw ha rfl h x;rw[e];show enc u (cast ha x.1)++enc b x.2=_;rw[Zg o os u ha x.1 h1,xW _ _ _ (by rw[cz];exact ho)]
  ·rename_i ho;obtain⟨u,h1,rfl⟩:=dV hs;have hb:=dH (vP h1);have e:(cast h x:den (.pair a u))=((cast rfl x.1,cast hb x.2):den a×den u):=qw rfl hb h x;rw[e];show enc a x.1++enc u (cast hb x.2)=_;rw[Zb _ os u hb x.2 h1,uJ _ _ _ (by rw[cz];omega),cz]
 |row ow t ih=>
  intro o os t' h x hs
  have hl:(enc (.row ow t) x).length<=1:=by rw[cz];exact Nat.le_refl _
  cases o with
  |succ o=>
   rw[nQ _ hl];cases ow<;>simp only[shT,oSJ]at hs<;>subst hs<;>rfl
  |zero=>
   cases os with
   |nil=>
    rw[<- nP _ hl]
    have e:t'=lm (.row ow t):=by cases ow<;>simp only[shT,oSJ]at hs<;>exact hs.symm
    subst e;exact tK _ h x
   |cons o os=>
    cases ow with
    |false=>simp only[shT,oSJ]at hs;subst hs;rfl
    |true=>
     simp only[shT]at hs;obtain⟨u,h1,rfl⟩:=dV hs;have h':den t=den u:=dH (vP h1);have e:(cast h x:den (.row true u))=(List.map (cast h') (x:List (den t)):List (den u)):=yB h' h x;rw[e];show[TV.ow (List.map (enc u) (List.map (cast h') (x:List (den t))))]=[TV.ow ((List.map (enc t) (x:List (den t))).map λel=>el.modify o λt=>cy t os)];rw[List.map_map,List.map_map];congr 2;exact List.map_congr_left λy _=>ih o os u h' y h1
 |nilr ow=>
  intro o os t' h x hs
  have hl:(enc (.nilr ow) x).length<=1:=by rw[cz];exact Nat.le_refl _
  cases o with
  |succ o=>
   rw[nQ _ hl];simp only[shT,oSJ]at hs;subst hs;rfl
  |zero=>
   cases os with
   |nil=>
    rw[<- nP _ hl];simp only[shT,oSJ]at hs;subst hs;exact tK _ h x
   |cons o os=>simp only[shT,oSJ]at hs;subst hs;cases ow<;>rfl
 |_=>
  intro o os t' h x hs
  cases o with
  |succ o=>
   rw[nQ _ (by rw[cz];simp[fm])];simp only[shT,oSJ]at hs;subst hs;rfl
  |zero=>
   cases os with
   |nil=>
    rw[<- nP _ (by rw[cz];simp[fm])];simp only[shT,oSJ]at hs;subst hs;exact tK _ h x
   |cons o os=>simp only[shT,oSJ]at hs;subst hs;rfl
theorem pH{x y:XV den}{os:List Nat}(h:X.shareX bp x os=some y):er y=cy (er x) os:=by
 unfold X.shareX at h;split at h
 ·rename_i t xs;split at h
  ·rename_i t' hs;split at h
   ·rename_i Vn
    injection h with h
    subst h;have:=CG t 0 os t' (dH Vn) xs hs;show er1 t' (cast (dH Vn) xs)=cy (er1 t xs) os
    cases ht:X.oneT t with
    |true=>
     have YT:X.oneT t'=true:=by cases t<;>simp[X.oneT]at ht<;>cases t'<;>simp[fI]at Vn<;>rfl
     rw[l6 ht,l6 YT]at this;simpa using this
    |false=>
     cases t<;>simp[X.oneT]at ht<;>cases t'<;>simp[fI]at Vn<;>cases os<;>rfl
   ·simp at h
  ·simp at h
 ·simp at h
theorem Cv{Y:Type}:∀{hs:List (den .nat×Nat×Nat)}{tv:XV den}{k:XV den->Option Y}{o:Y},X.getX bp tv hs k=some o->∃v,bJ (er tv) hs=some (er v)/\k v=some o:=by
 intro hs
 induction hs with
 |nil=>intro tv k o h;exact⟨tv,rfl,h⟩
 |cons h1 hs ih=>
  intro tv k o h;obtain⟨i,sz,off⟩:=h1;unfold X.getX at h;split at h
  ·rename_i Qe;cases Qe
  ·rename_i t xs i' sz' o' hs' Qe
   injection Qe with e1 e2
   injection e1 with e3 e4
   injection e4 with e4 e5
   subst e3;subst e4;subst e5;subst e2;split at h
   ·rename_i hsz;obtain⟨e,he,h2⟩:=bz (show(dh xs i).bind _=some o from h);split at h2
    ·rename_i v hv;obtain⟨w,hw,hk⟩:=ih h2;refine⟨w,?_,hk⟩
     have h3:(List.map (enc t) xs)[i]?=some (enc t e):=by
      have:xs[i]?=some e:=he;rw[List.getElem?_map,this];rfl
     show(match(List.map (enc t) xs)[i]? with|some el=>if el.length=sz then(match el[off]? with|some t=>bJ t hs|none=>none)else none|none=>none)=_;rw[h3];simp only[cz,hsz,if_true,mj hv];exact hw
    ·cases h2
   ·cases h
  ·cases h
theorem sx{G:(u:CT)->Option (den u->den u)}{φ:TV->TV}(hG:∀u h,G u=some h->X.oneT u=true->∀x,er1 u (h x)=φ (er1 u x)):∀{t:CT}{o:Nat}{g:den t->den t},X.setD bp t o G=some g->∀x,enc t (g x)=(enc t x).modify o φ:=by
 intro t
 induction t with
 |pair a b Zg Zb=>
  intro o g h x;simp only[X.setD]at h;show _=(enc a x.1++enc b x.2).modify o φ;split at h
  ·rename_i ho;obtain⟨f,h1,rfl⟩:=dV h;show enc a (f x.1)++enc b x.2=_;rw[Zg h1,xW _ _ _ (by rw[cz];exact ho)]
  ·rename_i ho;obtain⟨f,h1,rfl⟩:=dV h;show enc a x.1++enc b (f x.2)=_;rw[Zb h1,uJ _ _ _ (by rw[cz];omega),cz]
 |nat=>intro o g h;simp[X.setD]at h
 |_=>
  intro o g h x
  cases o with
  |succ o=>simp[X.setD]at h
  |zero=>
   simp only[X.setD]at h;have h1:=hG _ g h rfl x;refine(l6 rfl (g x)).trans ?_;rw[h1];exact(congrArg (λl=>List.modify l 0 φ) (l6 rfl x)).symm
theorem C8{v:XV den}{u:CT}{f:den u->den u}(h:X.asF bp v u=some f)(x:den u):er1 u (f x)=er v:=by
 unfold X.asF at h;split at h
 ·obtain⟨y,h1,rfl⟩:=dV h;exact yG h1
 ·simp at h
theorem vU:∀{hs:List (den .nat×Nat×Nat)}{v:XV den}{u:CT}{f:den u->den u},X.setH bp hs v u=some f->∀x,er1 u (f x)=dn (er1 u x) hs (er v):=by
 intro hs
 induction hs with
 |nil=>intro v u f h x;exact C8 h x
 |cons h1 hs ih=>
  intro v u f h x;obtain⟨i,sz,o⟩:=h1
  cases u with
  |row ow t=>cases ow with
   |false=>simp[X.setH]at h
   |true=>
    simp only[X.setH]at h;split at h
    ·rename_i hsz;obtain⟨g,hg,rfl⟩:=dV h;have:=sx (φ:=λt1=>dn t1 hs (er v)) (λu h hu _ x=>ih hu x) hg;show TV.ow (List.map (enc t) (List.modify (x:List (den t)) i g))=TV.ow ((List.map (enc t) x).modify i λel=>el.modify o λt1=>dn t1 hs (er v));congr 1;apply List.ext_getElem?;intro j;simp only[List.getElem?_map,List.getElem?_modify];by_cases hij:i=j
     ·simp only[hij,if_true]
      cases(x:List (den t))[j]? with
      |none=>rfl
      |some e=>exact congrArg some (this e)
     ·simp only[hij,if_false];simp
    ·simp at h
  |_=>simp[X.setH]at h
theorem F8{tv v w:XV den}{hs:List (den .nat×Nat×Nat)}(h:X.setX bp tv hs v=some w):er w=dn (er tv) hs (er v):=by
 unfold X.setX at h;split at h
 ·injection h with h;subst h;rfl
 ·obtain⟨f,h1,rfl⟩:=dV h;exact vU h1 _
 ·simp at h
theorem pq{α β:Type}(l:List (Nat×α))(f:α->β)(i:Nat):bO (l.map λx=>(x.1,f x.2)) i=(bO l i).map f:=by
 induction l with
 |nil=>rfl
 |cons x r ih=>simp[bO];split<;>simp_all
theorem kZ{α β:Type}(l:List (Nat×α))(f:α->β)(i:Nat)(v:α):cM (l.map λx=>(x.1,f x.2)) i (f v)=(cM l i v).map λx=>(x.1,f x.2):=by
 induction l with
 |nil=>rfl
 |cons x r ih=>
  simp[cM];split
  ·simp
  ·simp_all
theorem Ew(σ:XS den)(i:Nat):(erS σ).t i=er (X.tOf σ i):=by
 unfold St.t X.tOf erS;simp[pq];cases bO σ.tm i<;>rfl
theorem rq(σ:XS den)(r o:Nat):(erS σ).c r o=er (X.cOf σ r o):=by
 unfold St.c X.cOf erS erC;simp[pq]
 cases bO σ.ce r with
 |none=>rfl
 |some l=>exact(pj l o).symm
theorem r9(σ:XS den)(r:Nat):bO (erS σ).ce r=(bO σ.ce r).map erL:=pq _ _ _
structure iR (σ σ':XS den)(f:k9):Prop where
 r:∀x∈f.1,x∈σ'.lg.1
 w:∀x∈f.2,x∈σ'.lg.2
 r0:∀x∈σ.lg.1,x∈σ'.lg.1
 w0:∀x∈σ.lg.2,x∈σ'.lg.2
theorem iR.refl(σ:XS den):iR σ σ ([],[]):=⟨λx h=>by simp at h,λx h=>by simp at h,λ_ h=>h,λ_ h=>h⟩
theorem iR.by{σ σ':XS den}{f:k9}(R W:List Loc)(e1:σ'.lg.1=R++σ.lg.1)(e2:σ'.lg.2=W++σ.lg.2)(h1:f.1=R)(h2:f.2=W):iR σ σ' f:=
 ⟨λx h=>by simp_all,λx h=>by simp_all,λx h=>by simp_all,λx h=>by simp_all⟩
def Sim{α β Y:Type}(m:XM den Option Y α)(s:SP β)(f:α->β):Prop:=
 ∀(σ:XS den)(k:α->XS den->Option Y)(o:Y),m σ k=some o->∃a σ',s.run (erS σ)=some (f a,erS σ')/\iR σ σ' (s.foot (erS σ))/\k a σ'=some o
theorem bS{α β:Type}(s:SP α)(g:α->SP β):∀{σ σ1:St}{a:α},s.run σ=some (a,σ1)->(s.bind g).foot σ=((s.foot σ).1++((g a).foot σ1).1,(s.foot σ).2++((g a).foot σ1).2):=by
 induction s with
 |ret a=>intro σ σ1 b h;obtain⟨rfl,rfl⟩:=h;simp[SP.bind,SP.foot]
 |fail=>intro σ σ1 b h;simp[SP.run]at h
 |rdT i k ih=>intro σ σ1 b h;simp only[SP.bind,SP.foot];rw[ih _ h];simp
 |rdC r o k ih=>intro σ σ1 b h;simp only[SP.bind,SP.foot];rw[ih _ h];simp
 |rdH r o k ih=>intro σ σ1 b h;simp only[SP.bind,SP.foot];rw[ih _ h];simp
 |rdV q k ih=>intro σ σ1 b h;simp only[SP.bind,SP.foot];rw[ih _ h];simp
 |wrT i t k ih=>intro σ σ1 b h;simp only[SP.bind,SP.foot];rw[ih h];simp
 |wrC r o t k ih=>
  intro σ σ1 b h;obtain⟨l,hl,ho,h2⟩:=bL h;simp only[SP.bind,SP.foot,hl,ho,if_true];rw[ih h2];simp
 |new r l k ih=>intro σ σ1 b h;simp only[SP.bind,SP.foot];rw[ih h];simp
 |bump q k ih=>intro σ σ1 b h;simp[SP.bind,SP.foot];rw[ih h];simp
section
variable {α β γ δ Y:Type}
theorem Sim.ret{a:α}{b:β}{f:α->β}(h:f a=b):Sim (Y:=Y) (X.ret a) (.ret b) f:=fun σ k o hk=>⟨a,σ,by rw[h];rfl,iR.refl σ,hk⟩
theorem Sim.fail{s:SP β}{f:α->β}:Sim (Y:=Y) (X.fail bp) s f:=fun σ k o hk=>by cases hk
theorem Sim.bind{m:XM den Option Y α}{s:SP β}{f:α->β}{g:α->XM den Option Y γ}{h:β->SP δ}{f':γ->δ}(h1:Sim m s f)(h2:∀a,Sim (g a) (h (f a)) f'):Sim (X.bind m g) (s.bind h) f':=by
 intro σ k o hk;have ⟨a,σ1,r1,n1,k1⟩:=h1 σ _ o hk;have ⟨c,σ2,r2,n2,k2⟩:=h2 a σ1 k o k1;refine⟨c,σ2,by rw[SP.run_bind,r1];exact r2,?_,k2⟩;rw[bS s h r1];refine⟨λx hx=>?_,λx hx=>?_,λx hx=>n2.r0 x (n1.r0 x hx),λx hx=>n2.w0 x (n1.w0 x hx)⟩
 ·rcases List.mem_append.1 hx with hx|hx
  ·exact n2.r0 x (n1.r x hx)
  ·exact n2.r x hx
 ·rcases List.mem_append.1 hx with hx|hx
  ·exact n2.w0 x (n1.w x hx)
  ·exact n2.w x hx
theorem Sim.map{m:XM den Option Y α}{s:SP β}{f f':α->β}(h:Sim m s f)(e:∀a,f a=f' a):Sim m s f':=by
 have:=funext e
 simp_all
theorem Sim.opt{o:Option α}{g:α->XM den Option Y γ}{s:SP δ}{f:γ->δ}(h:∀a,o=some a->Sim (g a) s f):Sim (X.bind (X.optM bp o) g) s f:=by
 intro σ k y hk
 cases o with
 |none=>cases hk
 |some a=>exact h a rfl σ k y hk
theorem Sim.br{c:Bool}{m:XM den Option Y α}{s:SP β}{f:α->β}(h:c=true->Sim m s f):Sim (X.brM bp c m) s f:=by
 intro σ k y hk
 cases c with
 |false=>cases hk
 |true=>exact h rfl σ k y hk
theorem Sim.get{ow:Bool}{t:CT}{xs:List (den t)}{i:Nat}{g:den t->XM den Option Y γ}{s:SP δ}{f:γ->δ}(h:∀e,xs[i]?=some e->Sim (g e) s f):Sim (X.atM bp ow t xs i g) s f:=by
 intro σ k y hk;have ⟨e,h1,h2⟩:=bz (show(dh xs i).bind _=some y from hk);exact h e h1 σ k y h2
theorem Sim.nat{kd:IntKind}{n:Int}{g:Nat->XM den Option Y γ}{s:SP δ}{f:γ->δ}(h:∀m:Nat,n=m->Sim (g m) s f):Sim (X.natM bp kd n g) s f:=by
 intro σ k y hk;have ⟨e,h1,h2⟩:=bz (show(dM n).bind _=some y from hk);refine h e ?_ σ k y h2
 cases n with
 |ofNat m=>simp[dM]at h1;rw[h1];rfl
 |negSucc m=>simp[dM]at h1
theorem Sim.ite{c:Prop}[Decidable c]{m m':XM den Option Y α}{s:SP β}{f:α->β}(h:c->Sim m s f)(h':¬c->Sim m' s f):Sim (if c then m else m') s f:=by
 grind
theorem uN{Y:Type}:∀(l:List (XV den))(k:List (XV den)->Option Y),X.letL bp l k=k l:=by
 intro l
 induction l with
 |nil=>intro k;rfl
 |cons x r ih=>
  intro k
  cases x<;>first|exact ih _|(simp;exact ih _)
theorem kg{Y:Type}(t:XV den)(k:XV den->Option Y):X.letX bp t k=k t:=by
 cases t with
 |agg l=>exact uN l _
 |_=>rfl
theorem AG(i:Nat):Sim (Y:=Y) (X.rdT i) (.rdT i .ret) er:=fun σ k o hk=>⟨X.tOf σ i,X.lgR (.t i) σ,by simp only[SP.run];rw[Ew];rfl,.by [.t i] [] rfl rfl rfl rfl,hk⟩
theorem AJ(r o:Nat):Sim (Y:=Y) (X.rdC r o) (.rdC r o .ret) er:=fun σ k y hk=>⟨X.cOf σ r o,X.lgR (.c r o) σ,by simp only[SP.run];rw[rq];rfl,.by [.c r o] [] rfl rfl rfl rfl,hk⟩
theorem AF(q:Key):Sim (Y:=Y) (X.rdV q) (.rdV q .ret) id:=fun σ k o hk=>⟨lH σ.vr q,X.lgR (.v q) σ,rfl,.by [.v q] [] rfl rfl rfl rfl,hk⟩
theorem pD(i:Nat)(t:XV den):Sim (Y:=Y) (X.wrT bp i t) (.wrT i (er t) (.ret ())) id:=fun σ k o hk=>by
 unfold X.wrT at hk;rw[kg]at hk;refine⟨(),⟨cM σ.tm i t,σ.ce,σ.vr,(σ.lg.1,.t i :: σ.lg.2)⟩,?_,.by [] [.t i] rfl rfl rfl rfl,hk⟩;simp[SP.run,erS];rw[kZ]
theorem AH(r o:Nat):Sim (Y:=Y) (X.rdK r o) (.rdH r o .ret) λv=>(er v).hd:=fun σ k y hk=>⟨X.cOf σ r o,X.lgR (.h r o) σ,by simp only[SP.run];rw[rq];rfl,.by [.h r o] [] rfl rfl rfl rfl,hk⟩
theorem GI{r o:Nat}{t t':TV}{x:Loc}(h:x∈hdW r o t t'):x=.h r o:=by
 unfold hdW at h
 simp_all
def gA{α β Y:Type}(σ:XS den)(m:XM den Option Y α)(s:SP β)(f:α->β):Prop:=
 ∀(k:α->XS den->Option Y)(o:Y),m σ k=some o->∃a σ',s.run (erS σ)=some (f a,erS σ')/\iR σ σ' (s.foot (erS σ))/\k a σ'=some o
theorem gA.bind{σ:XS den}{m:XM den Option Y α}{s:SP β}{f:α->β}{g:α->XM den Option Y γ}{h:β->SP δ}{f':γ->δ}(h1:gA σ m s f)(h2:∀a,Sim (g a) (h (f a)) f'):gA σ (X.bind m g) (s.bind h) f':=by
 intro k o hk;have ⟨a,σ1,r1,n1,k1⟩:=h1 _ o hk;have ⟨c,σ2,r2,n2,k2⟩:=h2 a σ1 k o k1;refine⟨c,σ2,by rw[SP.run_bind,r1];exact r2,?_,k2⟩;rw[bS s h r1];refine⟨λx hx=>?_,λx hx=>?_,λx hx=>n2.r0 x (n1.r0 x hx),λx hx=>n2.w0 x (n1.w0 x hx)⟩
 ·rcases List.mem_append.1 hx with hx|hx
  ·exact n2.r0 x (n1.r x hx)
  ·exact n2.r x hx
 ·rcases List.mem_append.1 hx with hx|hx
  ·exact n2.w0 x (n1.w x hx)
  ·exact n2.w x hx
theorem gA.opt{σ:XS den}{o:Option α}{g:α->XM den Option Y γ}{s:SP δ}{f:γ->δ}(h:∀a,o=some a->gA σ (g a) s f):gA σ (X.bind (X.optM bp o) g) s f:=by
 intro k y hk
 cases o with
 |none=>cases hk
 |some a=>exact h a rfl k y hk
theorem uf{r o:Nat}{g:XV den->XM den Option Y γ}{h:TV->SP δ}{f:γ->δ}(H:∀ σ tv,(erS σ).c r o=er tv->gA σ (g tv) (h (er tv)) f):Sim (X.bind (X.rdC r o) g) (.rdC r o h) f:=by
 intro σ k y hk;have ⟨a,σ',h1,h2,h3⟩:=H (X.lgR (.c r o) σ) (X.cOf σ r o) (rq σ r o) k y hk;refine⟨a,σ',by simp[SP.run];rw[rq];exact h1,⟨λx hx=>?_,λx hx=>?_,λx hx=>h2.r0 x (by simp[X.lgR,hx]),λx hx=>h2.w0 x hx⟩,h3⟩
 ·simp[SP.foot]at hx;rcases hx with rfl|hx
  ·exact h2.r0 _ (by simp[X.lgR])
  ·rw[rq]at hx;exact h2.r x hx
 ·simp[SP.foot]at hx;rw[rq]at hx;exact h2.w x hx
theorem gA.wrI{σ:XS den}{r o:Nat}{t:XV den}(hh:(er t).hd=((erS σ).c r o).hd):gA (Y:=Y) σ (X.wrI bp r o t) (.wrC r o (er t) (.ret ())) id:=λk y hk=>by
 unfold X.wrI at hk;split at hk
 ·rename_i l hl;split at hk
  ·rename_i ho;rw[kg]at hk
   have Yq:bO (erS σ).ce r=some (erL l):=by rw[r9,hl];rfl
   have Y9:o<(erL l).length:=by rw[cT];exact ho
   refine⟨(),⟨σ.tm,cM σ.ce r (l.set o t),σ.vr,(.n r :: .h r o :: σ.lg.1,.c r o :: σ.lg.2)⟩,?_,.by [.n r,.h r o] [.c r o] rfl rfl (by simp[SP.foot,Yq,Y9]) (by simp[SP.foot,Yq,Y9,if_true,hdW,oIP hh]),hk⟩;simp[SP.run,Yq,Y9,if_true,id_eq];unfold erS erC;rw[<- qm,kZ]
  ·cases hk
 ·cases hk
theorem AA(r o:Nat)(t:XV den):Sim (Y:=Y) (X.wrC bp r o t) (.wrC r o (er t) (.ret ())) id:=fun σ k y hk=>by
 unfold X.wrC at hk;split at hk
 ·rename_i l hl;split at hk
  ·rename_i ho;rw[kg]at hk
   have Yq:bO (erS σ).ce r=some (erL l):=by rw[r9,hl];rfl
   have Y9:o<(erL l).length:=by rw[cT];exact ho
   refine⟨(),⟨σ.tm,cM σ.ce r (l.set o t),σ.vr,(.n r :: .h r o :: σ.lg.1,.c r o :: .h r o :: σ.lg.2)⟩,?_,⟨λx hx=>?_,λx hx=>?_,λx hx=>by simp[hx],λx hx=>by simp[hx]⟩,hk⟩
   rotate_left
   ·simp only[SP.foot,Yq,Y9,if_true,List.mem_cons,List.not_mem_nil,or_false]at hx
    rcases hx with rfl|rfl<;>simp
   ·simp[SP.foot,Yq,Y9,if_true,List.mem_cons,List.mem_append,List.not_mem_nil,or_false]at hx;rcases hx with rfl|hx
    ·simp
    ·simp[GI hx]
   simp[SP.run,Yq,Y9,if_true,id_eq];unfold erS erC;rw[<- qm,kZ]
  ·cases hk
 ·cases hk
theorem FL(r:Nat)(l:List (XV den)):Sim (Y:=Y) (X.new bp r l) (.new r (erL l) (.ret ())) id:=fun σ k y hk=>by
 unfold X.new at hk;rw[uN]at hk;refine⟨(),⟨σ.tm,cM σ.ce r l,jP σ.vr (r,0,0),(.v (r,0,0) :: σ.lg.1,.n r :: .v (r,0,0) :: σ.lg.2)⟩,?_,.by [.v (r,0,0)] [.n r,.v (r,0,0)] rfl rfl rfl rfl,hk⟩;simp[SP.run,erS,erC];rw[kZ]
theorem xM(q:Key):Sim (Y:=Y) (X.bump q) (.bump q (.ret ())) id:=fun σ k y hk=>⟨(),⟨σ.tm,σ.ce,jP σ.vr q,(.v q :: σ.lg.1,.v q :: σ.lg.2)⟩,rfl,.by [.v q] [.v q] rfl rfl rfl rfl,hk⟩
theorem po(x:Value):er (X.cellX bp x)=bQ x:=by
 unfold X.cellX;split
 ·rfl
 ·rfl
 ·rfl
 ·rfl
 ·rename_i h1 h2 h3 h4
  have:bQ x=if dZ x then .v x else .dead:=by
   unfold bQ
   simp_all
  rw[this];split<;>rfl
theorem CK(x:Value):er (X.constX bp x)=lP x:=by
 unfold X.constX;split
 ·simp[er,fH];congr 1;exact List.map_congr_left λy _=>po y
 ·rename_i h;rw[po];unfold lP
  simp_all
theorem lL(x:Opd):Sim (Y:=Y) (X.opd bp x) (opd x) er:=by
 cases x with
 |t i=>exact AG i
 |c x=>exact .ret (CK x)
 |f f=>exact .ret rfl
theorem o8:∀qs:List Key,Sim (Y:=Y) (X.rdVs qs) (rdVs qs) id:=by
 intro qs
 induction qs with
 |nil=>exact .ret rfl
 |cons q qs ih=>exact(AF q).bind λn=>ih.bind λl=>.ret rfl
theorem cS(p:XP den)(n:Nat)(vs:List Nat):Sim (Y:=Y) (X.chk bp p n vs) (chk (erP p) n vs) id:=by
 refine(o8 _).bind λl=>?_;refine Sim.ite (λh=>?_) λh=>.fail;rw[oIP (by exact h)];exact .ret rfl
theorem wR(p:XP den)(n:Nat):erP (X.addP p n)=(erP p).add n:=by
 unfold X.addP bA.add erP
 cases h:List.reverse p.hops with
 |nil=>rfl
 |cons x r=>rfl
theorem tJ(p:XP den)(n:Nat):X.fitsP p n=(erP p).fits n:=by
 unfold X.fitsP bA.fits erP
 grind
theorem o9{tv:XV den}{hs:List (den .nat×Nat×Nat)}{g:XV den->XM den Option Y γ}{s:SP δ}{f:γ->δ}(h:∀v,bJ (er tv) hs=some (er v)->Sim (g v) s f):Sim (X.getM bp tv hs g) s f:=by
 intro σ k y hk;have ⟨v,h1,h2⟩:=Cv hk;exact h v h1 σ k y h2
theorem gA.getX{σ:XS den}{tv:XV den}{hs:List (den .nat×Nat×Nat)}{g:XV den->XM den Option Y γ}{s:SP δ}{f:γ->δ}(h:∀v,bJ (er tv) hs=some (er v)->gA σ (g v) s f):gA σ (X.getM bp tv hs g) s f:=by
 intro k y hk;have ⟨v,h1,h2⟩:=Cv hk;exact h v h1 k y h2
theorem gA.ite{σ:XS den}{c:Prop}[Decidable c]{m m':XM den Option Y α}{s:SP β}{f:α->β}(h:c->gA σ m s f)(h':¬c->gA σ m' s f):gA σ (if c then m else m') s f:=by
 grind
theorem fC(p:XP den):Sim (Y:=Y) (X.getPl bp p) (getPl (erP p)) er:=by
 refine(AJ p.root p.off).bind λtv=>?_;refine o9 λv hv=>?_;show Sim _ (match bJ (er tv) p.hops with|some t=>.ret t|none=>.fail) er;have:=hv;rw[this];exact .ret rfl
theorem xH(p:XP den):Sim (Y:=Y) (X.hdPl bp p) (GJ (erP p)) λv=>(er v).hd:=by
 have ⟨r,o,hs⟩:=p
 cases hs with
 |nil=>exact AH r o
 |cons h hs=>
  intro σ k y hk;have ⟨a,σ',h1,h2,h3⟩:=fC ⟨r,o,h::hs⟩ σ k y hk;refine⟨a,σ',?_,?_,h3⟩
  ·show((getPl (erP ⟨r,o,h::hs⟩)).bind λt=>.ret t.hd).run (erS σ)=_;rw[SP.run_bind,h1];rfl
  ·show iR σ σ' (((getPl (erP ⟨r,o,h::hs⟩)).bind λt=>.ret t.hd).foot (erS σ));rw[bS _ _ h1];simpa[SP.foot]using h2
end
section
variable {α β γ δ Y:Type}
theorem Sim.rdT{i:Nat}{g:XV den->XM den Option Y γ}{h:TV->SP δ}{f:γ->δ}(H:∀t,Sim (g t) (h (er t)) f):Sim (X.bind (X.rdT i) g) (.rdT i h) f:=(AG i).bind H
theorem Sim.rdC{r o:Nat}{g:XV den->XM den Option Y γ}{h:TV->SP δ}{f:γ->δ}(H:∀t,Sim (g t) (h (er t)) f):Sim (X.bind (X.rdC r o) g) (.rdC r o h) f:=(AJ r o).bind H
theorem Sim.rdK{r o:Nat}{g:XV den->XM den Option Y γ}{h:Option (List Nat)->SP δ}{f:γ->δ}(H:∀t,Sim (g t) (h (er t).hd) f):Sim (X.bind (X.rdK r o) g) (.rdH r o h) f:=(AH r o).bind H
theorem Sim.rdV{q:Key}{g:Nat->XM den Option Y γ}{h:Nat->SP δ}{f:γ->δ}(H:∀t,Sim (g t) (h t) f):Sim (X.bind (X.rdV q) g) (.rdV q h) f:=(AF q).bind H
theorem Sim.wrT{i:Nat}{t:XV den}{t':TV}{g:Unit->XM den Option Y γ}{h:SP δ}{f:γ->δ}(e:er t=t')(H:Sim (g ()) h f):Sim (X.bind (X.wrT bp i t) g) (.wrT i t' h) f:=by subst e;exact(pD i t).bind (h:=λ_=>h) λ_=>H
theorem Sim.wrC{r o:Nat}{t:XV den}{t':TV}{g:Unit->XM den Option Y γ}{h:SP δ}{f:γ->δ}(e:er t=t')(H:Sim (g ()) h f):Sim (X.bind (X.wrC bp r o t) g) (.wrC r o t' h) f:=by subst e;exact(AA r o t).bind (h:=λ_=>h) λ_=>H
theorem Sim.new{r:Nat}{l:List (XV den)}{l':List TV}{g:Unit->XM den Option Y γ}{h:SP δ}{f:γ->δ}(e:erL l=l')(H:Sim (g ()) h f):Sim (X.bind (X.new bp r l) g) (.new r l' h) f:=by subst e;exact(FL r l).bind (h:=λ_=>h) λ_=>H
theorem Sim.bump{q:Key}{g:Unit->XM den Option Y γ}{h:SP δ}{f:γ->δ}(H:Sim (g ()) h f):Sim (X.bind (X.bump q) g) (.bump q h) f:=(xM q).bind (h:=λ_=>h) λ_=>H
theorem Cp{α:Type}(c:List (List α))(i o:Nat)(f:α->α):(c.modify i λel=>el.modify o f).map List.length=c.map List.length:=by
 apply List.ext_getElem?;intro j;by_cases h:i=j
 ·simp
  grind
 ·simp[h]
theorem qa{tv:TV}{hs:List Hop}{t:TV}(h:hs≠[]):(dn tv hs t).hd=tv.hd:=by
 cases hs with
 |nil=>simp_all
 |cons x hs=>
  cases tv with
  |ow c=>simp[dn,TV.hd,Cp]
  |_=>rfl
theorem Co{tv:TV}{os:List Nat}(h:os≠[]):(cy tv os).hd=tv.hd:=by
 cases os with
 |nil=>simp_all
 |cons o os=>
  cases tv with
  |ow c=>
   simp only[cy,TV.hd]
   simp_all
  |_=>rfl
theorem yj{r o:Nat}{tv:TV}{hs:List Hop}{t:TV}(h:hs≠[]):hdW r o tv (dn tv hs t)=[]:=by unfold hdW;rw[oIP (qa h)]
theorem GH{x:XV den}(h:X.isOwX x=false)(h2:gS (er x)=X.isOwX x):(er x).hd=none:=by
 rw[h]at h2
 cases hx:er x<;>first|rfl|(rw[hx]at h2;simp[gS]at h2)
theorem mL(x:XV den):gS (er x)=X.isOwX x:=by
 cases x with
 |d t y=>cases t with
  |row o t=>cases o<;>rfl
  |nilr o=>cases o<;>rfl
  |_=>rfl
 |_=>rfl
theorem mM(x:XV den):lT (er x)=X.isHdrX x:=by
 cases x with
 |d t y=>cases t with
  |row o t=>cases o<;>rfl
  |nilr o=>cases o<;>rfl
  |_=>rfl
 |_=>rfl
theorem zD{x:XV den}(h:X.okCellX x=true):bW (er x)=true:=by
 cases x with
 |d t y=>cases t with
  |row o t=>cases o<;>first|rfl|simp[X.okCellX]at h
  |nilr o=>cases o<;>rfl
  |nat=>simp[X.okCellX]at h
  |pair a b=>simp[X.okCellX]at h
  |_=>rfl
 |k y=>rfl
 |_=>simp[X.okCellX]at h
theorem iZ{x:XV den}(h:X.okCellX x=true)(h2:X.isOwX x=false):(∃y,er x=.v y)\/∃c,er x=.sl c:=by
 cases x with
 |d t y=>cases t with
  |int k=>exact .inl ⟨_,rfl⟩
  |bool=>exact .inl ⟨_,rfl⟩
  |str=>exact .inl ⟨_,rfl⟩
  |row o t=>cases o<;>first|exact .inr ⟨_,rfl⟩|simp[X.okCellX]at h
  |nilr o=>cases o<;>first|exact .inr ⟨_,rfl⟩|simp[X.isOwX,X.isOwT]at h2
  |nat=>simp[X.okCellX]at h
  |pair a b=>simp[X.okCellX]at h
 |k y=>exact .inl ⟨_,rfl⟩
 |_=>simp[X.okCellX]at h
theorem te{x:XV den}(h:X.immCX x=true):uU (er x)=true:=by
 have ZP:(X.okCellX x && !X.isOwX x)=true->uU (er x)=true:=λh=>by
  simp at h
  rcases iZ h.1 h.2 with⟨y,hy⟩|⟨c,hc⟩
  ·rw[hy];rfl
  ·rw[hc];rfl
 cases x with
 |ip cs=>rfl
 |_=>exact ZP h
theorem tg{l:List (XV den)}(h:l.all X.immCX=true):(erL l).all uU=true:=by
 rw[fH,List.all_map,List.all_eq_true];rw[List.all_eq_true]at h;exact λx hx=>te (h x hx)
theorem Ee{x:XV den}(h:X.immFX x=true):Ef (er x)=true:=by
 have ZP:∀t:TV,uU t=true->Ef t=true:=λt h=>by
  cases t with
  |fn f l=>simp[uU]at h
  |_=>exact h
 cases x with
 |fn f l=>exact tg h
 |_=>exact ZP _ (te h)
theorem GE{x:XV den}(h:X.isNA x=true):¬Ef (er x)=true:=by
 cases x with
 |agg l=>simp[er,Ef,uU]
 |pk p vs=>simp[er,Ef,uU]
 |_=>simp[X.isNA]at h
theorem iD{v:XV den}(h:X.isOwX v=true):∃c,er v=.ow c:=by
 rw[<- mL]at h;cases hv:er v<;>rw[hv]at h<;>simp[gS]at h
 simp_all
theorem GZ{p:XP den}(h:XP.bare p=true):(erP p).hops=[]:=by
 have ⟨r,o,hs⟩:=p
 cases hs with
 |nil=>rfl
 |cons=>simp[XP.bare]at h
theorem Fw{lo n:Nat}{v w:XV den}(h:X.winX bp lo n v=some w):∃c,er v=.ow c/\er w=.sl (((c.drop lo).take n).map λe=>e.map TV.imm):=by
 unfold X.winX at h;split at h
 ·rename_i t xs;split at h
  ·rename_i t' ys hi
   injection h with h
   subst h;refine⟨_,rfl,?_⟩;have h1:=p8 hi;have h2:TV.sl (List.map (enc t') (ys:List (den t')))=(TV.ow (List.map (enc t) (xs:List (den t)))).imm:=h1;rw[iw]at h2;show TV.sl (List.map (enc t') ((List.drop lo (ys:List (den t'))).take n))=_
   simp_all
  ·simp at h
 ·injection h with h;subst h;exact⟨[],rfl,by simp[er,er1]⟩
 ·simp at h
theorem GL{tv w:XV den}{hs:List (den .nat×Nat×Nat)}(h:X.gapX tv hs=some w):er w=dn (er tv) hs .dead:=by
 unfold X.gapX at h;split at h
 ·injection h with h
  subst h;rfl
 ·simp at h
theorem dm(mv:Bool)(x:XV den):Sim (Y:=Y) (X.take1 bp mv x) (take1 mv (er x)) er:=by
 cases x with
 |d t y=>cases t with
  |int k=>exact .ret rfl
  |bool=>exact .ret rfl
  |str=>exact .ret rfl
  |nat=>exact .fail
  |row o t=>cases o<;>first|exact .fail|exact .ret rfl
  |nilr o=>cases o<;>cases mv<;>exact .ret rfl
  |pair a b=>exact .fail
 |k y=>exact .ret rfl
 |pk p vs=>
  refine(cS p _ vs).bind λ_=>uf fun σ tv hσ=>gA.getX λv hv=>?_;refine gA.ite (λho=>?_) λ_=>Sim.fail σ;obtain⟨c,hc⟩:=iD ho
  have YD:bJ (er tv) (erP p).hops=some (.ow c):=by rw[<- hc];exact hv
  simp only[YD]
  cases mv with
  |true=>
   simp only[if_true];refine gA.ite (λhb=>?_) λhb=>?_
   ·exact(show Sim _ _ _ from Sim.wrC (by rw[GZ hb];rfl) (Sim.bump (g:=λ_=>X.ret v) (.ret hc))) σ
   ·refine gA.opt λYk h1=>?_;have h3:=GL h1
    have hne:p.hops≠[]:=by
     obtain⟨r,o,hs⟩:=p
     cases hs with
     |nil=>simp[XP.bare]at hb
     |cons=>simp
    have:=(gA.wrI (Y:=Y) (σ:=σ) (r:=p.root) (o:=p.off) (t:=Yk) (by rw[h3,hσ,qa hne])).bind (g:=λ_=>X.bind (X.bump (p.root,p.off,p.hops.length+1)) λ_=>X.ret v) (h:=λ_=>.bump (p.root,p.off,p.hops.length+1) (.ret (TV.ow c))) (f':=er) λ_=>Sim.bump (.ret hc);rw[h3]at this;exact this
  |false=>
   refine gA.opt λYk h1=>gA.opt λv' h2=>?_
   have hr:er v'=(TV.ow c).imm:=by rw[p8 h2,hc]
   by_cases hb:XP.bare p=true
   ·rw[oIP hb];exact(show Sim _ _ _ from Sim.wrC (pH h1) (Sim.bump (g:=λ_=>X.ret v') (.ret hr))) σ
   ·rw[oIN hb];have h3:=pH h1
    have hne:X.hopOs p.hops≠[]:=by
     obtain⟨r,o,hs⟩:=p
     cases hs with
     |nil=>simp[XP.bare]at hb
     |cons=>simp[X.hopOs]
    have:=(gA.wrI (Y:=Y) (σ:=σ) (o:=p.off) (t:=Yk) (by rw[h3,hσ,Co hne])).bind (g:=λ_=>X.bind (X.bump (p.root,p.off,p.hops.length+1)) λ_=>X.ret v') (h:=λ_=>.bump (p.root,p.off,p.hops.length+1) (.ret (TV.ow c).imm)) (f':=er) λ_=>Sim.bump (.ret hr);rw[h3]at this;exact this
 |pw p vs sz lo n=>
  refine(cS p _ vs).bind λ_=>Sim.rdC λtv=>o9 λv hv=>?_;refine Sim.opt λYk h1=>Sim.opt λv' h2=>?_;obtain⟨c,hc,hw⟩:=Fw h2
  have YD:bJ (er tv) (erP p).hops=some (.ow c):=by rw[<- hc];exact hv
  simp only[YD];exact Sim.wrC (pH h1) (Sim.bump (.ret hw))
 |_=>exact .fail
theorem iV(mv:Bool):∀l:List (XV den),Sim (Y:=Y) (X.takeL bp mv l) (takeL mv (erL l)) erL:=by
 intro l
 induction l with
 |nil=>exact .ret rfl
 |cons t r ih=>exact(dm mv t).bind λt'=>ih.bind λr'=>.ret rfl
theorem m6(t:XV den):iF (er t)=erL (X.cellsX t):=by
 cases t with
 |d t y=>cases t with
  |row o t=>cases o<;>rfl
  |nilr o=>cases o<;>rfl
  |_=>rfl
 |_=>rfl
theorem Iw{t:XV den}:(∃l,t=.agg l)\/((∀l,t≠.agg l)/\∀l,er t≠.agg l):=by
 cases t with
 |agg l=>simp_all
 |d t y=>cases t with
  |row o t=>cases o<;>exact .inr ⟨by simp,by simp[er,er1]⟩
  |nilr o=>cases o<;>exact .inr ⟨by simp,by simp[er,er1]⟩
  |_=>exact .inr ⟨by simp,by simp[er,er1]⟩
 |gap t x i o=>exact .inr ⟨by simp,λl h=>by cases h⟩
 |_=>exact .inr ⟨by simp,by simp[er]⟩
theorem jU(mv:Bool)(t:XV den):Sim (Y:=Y) (X.takeV bp mv t) (takeV mv (er t)) λx=>(erL x.1,x.2):=by
 rcases Iw (t:=t)with⟨l,rfl⟩|⟨h1,h2⟩
 ·exact(iV mv l).bind λl'=>.ret rfl
 ·have e1:X.takeV (X:=Y) bp mv t=X.bind (X.take1 bp mv t) λt'=>X.ret ([t'],false):=by
   unfold X.takeV
   simp_all
  have e2:takeV mv (er t)=(take1 mv (er t)).bind λt'=>.ret ([t'],false):=by
   unfold takeV
   simp_all
  rw[e1,e2];exact(dm mv t).bind λt'=>.ret rfl
theorem DA(r:Nat):∀(l:List (XV den))(o:Nat),Sim (Y:=Y) (X.putB bp r o l) (putL ⟨r,o,[]⟩ (erL l)) id:=by
 intro l
 induction l with
 |nil=>intro o;exact .ret rfl
 |cons t l ih=>
  intro o
  have step:∀(g:Unit->XM den Option Y Unit)(s:SP Unit),Sim (g ()) s id->Sim (X.bind (X.rdC r o) λold=>X.bind (X.wrC bp r o t) λ_=>X.bind (if X.isHdrX old||X.isHdrX t then X.bump (r,o,1)else X.ret ()) g) ((oI ⟨r,o,[]⟩ (er t)).bind λ_=>s) id:=by
   intro g s hg;refine Sim.rdC λold=>?_;simp only[bJ,mM];by_cases hh:(X.isHdrX old||X.isHdrX t)=true
   ·rw[oIP hh,oIP hh];exact Sim.wrC rfl (Sim.bump hg)
   ·rw[oIN hh,oIN hh];exact Sim.wrC rfl ((Sim.ret (a:=()) (b:=()) (f:=id) rfl).bind λ_=>hg)
  cases l with
  |nil=>exact step _ (.ret ()) (.ret rfl)
  |cons u l=>exact step _ _ (ih (o+1))
def FB(q:Key):Nat->List (Key×Nat)->List (Key×Nat)
 |0,v=>v
 |n+1,v=>FB q n (jP v q)
theorem ny{α:Type}(l:List (Nat×α))(i:Nat)(a:α):bO (cM l i a) i=some a:=by rw[bY];simp
theorem rT{t:CT}(xs:List (den t))(i o:Nat)(f:den t->den t)(φ:TV->TV)(h:∀x,enc t (f x)=(enc t x).modify o φ):er1 (.row true t) (List.modify xs i f)=.ow ((List.map (enc t) xs).modify i λel=>el.modify o φ):=by
 show TV.ow (List.map (enc t) (List.modify xs i f))=_;congr 1;apply List.ext_getElem?;intro j;simp only[List.getElem?_map,List.getElem?_modify];by_cases hij:i=j
 ·simp
  cases xs[j]? with
  |none=>rfl
  |some e=>simp_all
 ·simp_all
theorem Cn{t:CT}(e e':den t):(X.splitX bp t e).map X.isHdrX=(X.splitX bp t e').map X.isHdrX:=by
 induction t with
 |pair a b Zg Zb=>
  simp[X.splitX]
  grind
 |_=>rfl
theorem zO:∀(a a' l:List (XV den)),a.map X.isHdrX=a'.map X.isHdrX->X.hdrs a l=X.hdrs a' l:=by
 intro a
 induction a with
 |nil=>simp_all
 |cons x a ih=>
  intro a' l h
  cases a' with
  |nil=>simp at h
  |cons x' a'=>
   simp at h
   cases l with
   |nil=>rfl
   |cons b l=>simp[X.hdrs];rw[h.1,ih a' l h.2]
def BF(r off n:Nat)(f:k9):Prop:=(∀x∈f.1,x=.c r off\/(x=.n r\/x=.h r off)\/(x=.v (r,off,2)/\0<n))/\∀x∈f.2,x=.c r off\/(x=.v (r,off,2)/\0<n)
theorem BB{r off i sz o:Nat}{t:CT}(hsz:fm t=sz){v old:XV den}{f:den t->den t}{xs:List (den t)}{e:den t}{σ:St}{L:List TV}(hf:X.setD bp t o (X.asF bp v)=some f)(he:xs[i]?=some e)(Zx:D0 (X.splitX bp t e) o=some old)
 (hc:σ.c r off=er1 (.row true t) xs)(hL:bO σ.ce r=some L)(ho:off<L.length):
 (oI ⟨r,off,[(i,sz,o)]⟩ (er v)).run σ=some ((),⟨σ.tm,cM σ.ce r (L.set off (er1 (.row true t) (List.modify xs i f))),if X.isHdrX old||X.isHdrX v then jP σ.vr (r,off,2)else σ.vr⟩)/\
 BF r off (if X.isHdrX old||X.isHdrX v then 1 else 0) ((oI ⟨r,off,[(i,sz,o)]⟩ (er v)).foot σ):=by
 have Z4:bJ (er1 (.row true t) xs) [(i,sz,o)]=some (er old):=by
  have h3:(List.map (enc t) xs)[i]?=some (enc t e):=by simp_all
  show(match(List.map (enc t) xs)[i]? with|some el=>if el.length=sz then(match el[o]? with|some t=>bJ t []|none=>none)else none|none=>none)=_;rw[h3];simp only[cz,hsz,if_true,mj Zx];rfl
 have hset:dn (er1 (.row true t) xs) [(i,sz,o)] (er v)=er1 (.row true t) (List.modify xs i f):=by
  rw[rT xs i o f (λ_=>er v) (sx (λu h hu _ x=>C8 hu x) hf)];rfl
 have hW:hdW r off (er1 (.row true t) xs) (er1 (.row true t) (List.modify xs i f))=[]:=by rw[<- hset];exact yj (by simp)
 unfold oI;simp only[SP.run,SP.foot,hc,Z4,mM,hset];by_cases hh:(X.isHdrX old||X.isHdrX v)=true
 ·rw[oIP hh,oIP hh,oIP hh,oIP (by simp)];simp only[SP.run,SP.foot,hL,ho,if_true,hc,hW];refine⟨rfl,λx hx=>?_,λx hx=>?_⟩
  ·simp at hx;rcases hx with h|h|h|h
   all_goals simp_all
  ·simp_all
 ·rw[oIN hh,oIN hh,oIN hh];simp only[SP.run,SP.foot,hL,ho,if_true,hc,hW,List.nil_append];refine⟨by simp_all,λx hx=>?_,λx hx=>?_⟩
  ·simp_all
  ·simp_all
theorem Gq{r off i sz:Nat}{t:CT}(hsz:fm t=sz):∀(l:List (XV den)){o:Nat}{f:den t->den t}{xs:List (den t)}{e:den t}{σ:St}{L:List TV},X.setDs bp t o l=some f->xs[i]?=some e->o+l.length<=sz ->
 σ.c r off=er1 (.row true t) xs->bO σ.ce r=some L->off<L.length ->
 (putL ⟨r,off,[(i,sz,o)]⟩ (erL l)).run σ=some ((),⟨σ.tm,cM σ.ce r (L.set off (er1 (.row true t) (List.modify xs i f))),FB (r,off,2) (X.hdrs ((X.splitX bp t e).drop o) l) σ.vr⟩)/\
 BF r off (X.hdrs ((X.splitX bp t e).drop o) l) ((putL ⟨r,off,[(i,sz,o)]⟩ (erL l)).foot σ):=by
 intro l
 induction l with
 |nil=>intro o f xs e σ L h;simp[X.setDs]at h
 |cons v l ih=>
  intro o f xs e σ L hf he ho hc hL Y0
  have hlen:(X.splitX bp t e).length=sz:=by rw[<- cT,ml,cz,hsz]
  simp only[oLC]at ho
  obtain⟨old,Zx⟩:∃old,D0 (X.splitX bp t e) o=some old:=by
   rw[pQ];exact⟨_,oGE (by omega)⟩
  have US:(X.splitX bp t e).drop o=old::(X.splitX bp t e).drop (o+1):=by
   rw[pQ]at Zx
   have Yi:o<(X.splitX bp t e).length:=by omega
   rw[List.drop_eq_getElem_cons Yi];rw[oGE Yi]at Zx
   injection Zx with Zx
   rw[Zx]
  cases l with
  |nil=>
   simp only[X.setDs]at hf;obtain⟨h1,h2⟩:=BB (r:=r) (off:=off) (i:=i) hsz hf he Zx hc hL Y0
   have e1:X.hdrs ((X.splitX bp t e).drop o) [v]=if X.isHdrX old||X.isHdrX v then 1 else 0:=by rw[US];simp[X.hdrs]
   have e2:putL ⟨r,off,[(i,sz,o)]⟩ (erL [v])=(oI ⟨r,off,[(i,sz,o)]⟩ (er v)).bind λ_=>.ret ():=rfl;refine⟨?_,?_⟩
   ·rw[e2,SP.run_bind,h1,e1];by_cases hh:(X.isHdrX old||X.isHdrX v)=true
    ·rw[oIP hh,oIP hh];rfl
    ·rw[oIN hh,oIN hh];rfl
   ·rw[e2,bS _ _ h1,e1];simpa[SP.foot]using h2
  |cons w vs=>
   simp only[X.setDs]at hf;split at hf
   case h_2=>simp at hf
   rename_i f1 g h1 h2
   injection hf with hf
   subst hf;obtain⟨p1,p2⟩:=BB (r:=r) (off:=off) (i:=i) hsz h1 he Zx hc hL Y0
   have SC:(List.modify xs i f1)[i]?=some (f1 e):=by simp[List.getElem?_modify,he]
   have QI:∀(vr:List (Key×Nat)),(⟨σ.tm,cM σ.ce r (L.set off (er1 (.row true t) (List.modify xs i f1))),vr⟩:St).c r off=er1 (.row true t) (List.modify xs i f1):=by
    intro vr;unfold St.c;simp only[ny];simp[Y0]
   have My:=ih (o:=o+1) (σ:=⟨σ.tm,cM σ.ce r (L.set off (er1 (.row true t) (List.modify xs i f1))),if X.isHdrX old||X.isHdrX v then jP σ.vr (r,off,2)else σ.vr⟩) h2 SC (by simp only[oLC]at ho⊢;omega) (QI _) (ny _ _ _) (by simpa using Y0);obtain⟨q1,q2⟩:=My
   have e2:putL ⟨r,off,[(i,sz,o)]⟩ (erL (v::w::vs))=(oI ⟨r,off,[(i,sz,o)]⟩ (er v)).bind λ_=>putL ⟨r,off,[(i,sz,o+1)]⟩ (erL (w::vs)):=by
    have hfit:bA.fits ⟨r,off,[(i,sz,o)]⟩ 1=true:=by simp only[bA.fits,List.reverse_cons,List.reverse_nil,List.nil_append];simp only[oLC]at ho;simpa using(by omega:o+1<sz)
    show(oI ⟨r,off,[(i,sz,o)]⟩ (er v)).bind (λ_=>if bA.fits ⟨r,off,[(i,sz,o)]⟩ 1 then putL ⟨r,off,[(i,sz,o+1)]⟩ (erL (w::vs))else .fail)=_;rw[hfit];rfl
   have e3:X.hdrs ((X.splitX bp t e).drop o) (v::w::vs)=(if X.isHdrX old||X.isHdrX v then 1 else 0)+X.hdrs ((X.splitX bp t (f1 e)).drop (o+1)) (w::vs):=by
    rw[US];show _+X.hdrs ((X.splitX bp t e).drop (o+1)) (w::vs)=_;rw[zO _ ((X.splitX bp t (f1 e)).drop (o+1)) _ (by rw[List.map_drop,List.map_drop,Cn e (f1 e)])]
   have e4:List.modify (List.modify xs i f1) i g=List.modify xs i λe=>g (f1 e):=by
    apply List.ext_getElem?;intro j;simp only[List.getElem?_modify];by_cases hij:i=j
    ·simp only[hij,if_true];cases xs[j]?<;>rfl
    ·simp[hij]
   refine⟨?_,?_⟩
   ·rw[e2,SP.run_bind,p1];simp only[oBS];rw[q1,e3,nw,List.set_set,e4];congr 2;by_cases hh:(X.isHdrX old||X.isHdrX v)=true
    ·rw[oIP hh,oIP hh,Nat.add_comm 1];rfl
    ·rw[oIN hh,oIN hh,Nat.zero_add]
   ·rw[e2,bS _ _ p1,e3];refine⟨λx hx=>?_,λx hx=>?_⟩
    ·rcases List.mem_append.1 hx with hx|hx
     ·rcases p2.1 x hx with h|h|⟨h,h'⟩
      ·exact .inl h
      ·exact .inr (.inl h)
      ·exact .inr (.inr ⟨h,by omega⟩)
     ·rcases q2.1 x hx with h|h|⟨h,h'⟩
      ·exact .inl h
      ·exact .inr (.inl h)
      ·exact .inr (.inr ⟨h,by omega⟩)
    ·rcases List.mem_append.1 hx with hx|hx
     ·rcases p2.2 x hx with h|⟨h,h'⟩
      ·exact .inl h
      ·exact .inr ⟨h,by omega⟩
     ·rcases q2.2 x hx with h|⟨h,h'⟩
      ·exact .inl h
      ·exact .inr ⟨h,by omega⟩
theorem CZ(q:Key):∀(n:Nat){σ:XS den}{k:Unit->XS den->Option Y}{y:Y},X.bumps q n σ k=some y->∃ σ',erS σ'=⟨(erS σ).tm,(erS σ).ce,FB q n σ.vr⟩/\(∀x∈σ.lg.1,x∈σ'.lg.1)/\(∀x∈σ.lg.2,x∈σ'.lg.2)/\(0<n->Loc.v q∈σ'.lg.1/\Loc.v q∈σ'.lg.2)/\k () σ'=some y:=by
 intro n
 induction n with
 |zero=>intro σ k y h;exact⟨σ,rfl,λ_ h=>h,λ_ h=>h,λh=>by omega,h⟩
 |succ n ih=>
  intro σ k y h;have ⟨σ',h1,h2,h3,h4,h5⟩:=ih (show X.bumps q n ⟨σ.tm,σ.ce,jP σ.vr q,(.v q :: σ.lg.1,.v q :: σ.lg.2)⟩ k=some y from h);exact⟨σ',h1,λx hx=>h2 x (by simp[hx]),λx hx=>h3 x (by simp[hx]),λ_=>⟨h2 _ (by simp),h3 _ (by simp)⟩,h5⟩
theorem zj{G G1 G2:(u:CT)->Option (den u->den u)}(hG:∀u f,G u=some f->∃f1 g,G1 u=some f1/\G2 u=some g/\∀x,f x=g (f1 x)):∀{t:CT}{o:Nat}{f:den t->den t},X.setD bp t o G=some f->∃f1 g,X.setD bp t o G1=some f1/\X.setD bp t o G2=some g/\∀x,f x=g (f1 x):=by
 intro t
 induction t with
 |pair a b Zg Zb=>
  intro o f h;simp only[X.setD]at h⊢;by_cases ho:o<fm a
  ·rw[oIP ho]at h;obtain⟨h1,e1,rfl⟩:=dV h;have ⟨f1,g,e2,e3,e4⟩:=Zg e1;rw[oIP ho,oIP ho,e2,e3];exact⟨_,_,rfl,rfl,λx=>by show(h1 x.1,x.2)=(g (f1 x.1),x.2);rw[e4]⟩
  ·rw[oIN ho]at h;obtain⟨h1,e1,rfl⟩:=dV h;have ⟨f1,g,e2,e3,e4⟩:=Zb e1;rw[oIN ho,oIN ho,e2,e3];exact⟨_,_,rfl,rfl,λx=>by show(x.1,h1 x.2)=(x.1,g (f1 x.2));rw[e4]⟩
 |nat=>intro o f h;simp[X.setD]at h
 |_=>
  intro o f h
  cases o with
  |succ o=>simp[X.setD]at h
  |zero=>
   first
    |exact hG _ f h
    |(have ⟨a,b,c,d,_⟩:=hG _ f h;exact⟨a,b,c,d,λ_=>trivial⟩)
theorem Av{t:CT}(xs:List (den t))(i:Nat)(f1 g f:den t->den t)(h:∀x,f x=g (f1 x)):List.modify xs i f=List.modify (List.modify xs i f1) i g:=by
 apply List.ext_getElem?
 grind
theorem vT{pl:List (den .nat×Nat×Nat)}{i sz o:Nat}{v w:XV den}{vs:List (XV den)}:∀{u:CT}{f:den u->den u},X.setHs bp (pl++[(i,sz,o)]) (v::w::vs) u=some f->∃f1 g,X.setH bp (pl++[(i,sz,o)]) v u=some f1/\X.setHs bp (pl++[(i,sz,o+1)]) (w::vs) u=some g/\∀x,f x=g (f1 x):=by
 induction pl with
 |nil=>
  intro u f h
  cases u with
  |row ow t=>cases ow with
   |false=>simp[X.setHs]at h
   |true=>
    simp only[List.nil_append,X.setHs,X.setH]at h⊢;split at h
    ·rename_i hsz;obtain⟨F,h1,rfl⟩:=dV h;simp only[X.setDs]at h1;split at h1
     ·rename_i f1 g e1 e2
      injection h1 with h1
      have L9:=e1;rw[oIP hsz,oIP hsz,e2];refine⟨λxs=>List.modify xs i f1,λxs=>List.modify xs i g,?_,rfl,λx=>Av x i f1 g F λy=>by rw[<- h1]⟩;rw[L9];rfl
     ·simp_all
    ·simp at h
  |_=>simp[X.setHs]at h
 |cons hp pl ih=>
  intro u f h;obtain⟨i0,YR,o0⟩:=hp
  obtain⟨q,qs,hq⟩:∃q qs,pl++[(i,sz,o)]=q::qs:=by cases pl with|nil=>exact⟨_,_,rfl⟩|cons a b=>exact⟨_,_,rfl⟩
  obtain⟨q',qs',O4⟩:∃q qs,pl++[(i,sz,o+1)]=q::qs:=by cases pl with|nil=>exact⟨_,_,rfl⟩|cons a b=>exact⟨_,_,rfl⟩
  cases u with
  |row ow t=>cases ow with
   |false=>simp only[List.cons_append,hq]at h;simp[X.setHs]at h
   |true=>
    simp only[List.cons_append,hq,O4,X.setHs,X.setH]at h⊢;split at h
    ·rename_i hsz;obtain⟨F,h1,rfl⟩:=dV h
     obtain⟨f1,g,e1,e2,e3⟩:=zj (G1:=X.setH bp (q::qs) v) (G2:=X.setHs bp (q'::qs') (w::vs)) (λu f hf=>by
      rw[<- hq]at hf;obtain⟨a,b,c,d,e⟩:=ih hf;rw[hq]at c;rw[O4]at d
      exact⟨a,b,c,d,e⟩) h1
     rw[oIP hsz,oIP hsz,e1,e2];exact⟨_,_,rfl,rfl,λx=>Av x i0 f1 g F e3⟩
    ·simp at h
  |_=>simp only[List.cons_append,hq]at h;simp[X.setHs]at h
theorem Bp(v:XV den):∀(hs:List (den .nat×Nat×Nat)),hs≠[]->X.setHs bp hs [v]=X.setH bp hs v:=by
 intro hs
 induction hs with
 |nil=>simp_all
 |cons h1 hs ih=>
  intro _;funext u
  cases hs with
  |nil=>cases u with
   |row ow t=>cases ow with
    |true=>rfl
    |false=>rfl
   |_=>rfl
  |cons h2 hs=>cases u with
   |row ow t=>cases ow with
    |true=>
     simp[X.setHs,X.setH]
     simp_all
    |false=>rfl
   |_=>rfl
theorem zQ{pl:List Hop}{i sz o j:Nat}(hj:o≠j)(v:TV):∀{t:TV},bJ (dn t (pl++[(i,sz,o)]) v) (pl++[(i,sz,j)])=bJ t (pl++[(i,sz,j)]):=by
 induction pl with
 |nil=>
  intro t
  cases t with
  |ow c=>
   show bJ (.ow (c.modify i λel=>el.modify o λt1=>dn t1 [] v)) [(i,sz,j)]=bJ (.ow c) [(i,sz,j)];simp[bJ]
   cases hc:c[i]? with
   |none=>rfl
   |some el=>simp_all
  |_=>rfl
 |cons h pl ih=>
  intro t;have ⟨i0,YR,o0⟩:=h
  cases t with
  |ow c=>
   show bJ (.ow (c.modify i0 λel=>el.modify o0 λt1=>dn t1 (pl++[(i,sz,o)]) v)) ((i0,YR,o0)::(pl++[(i,sz,j)]))=bJ (.ow c) ((i0,YR,o0)::(pl++[(i,sz,j)]));simp[bJ]
   cases hc:c[i0]? with
   |none=>rfl
   |some el=>
    simp;split
    ·cases he:el[o0]? with
     |none=>rfl
     |some t1=>exact ih
    ·rfl
  |_=>rfl
theorem BD{r off:Nat}{pl:List (den .nat×Nat×Nat)}{i sz:Nat}{u:CT}:∀(l:List (XV den)){o:Nat}{f:den u->den u}{x:den u}{σ:St}{L:List TV},X.setHs bp (pl++[(i,sz,o)]) l u=some f->0<l.length->o+l.length<=sz ->
 (∀j,j<l.length->∃old,bJ (er1 u x) (pl++[(i,sz,o+j)])=some old/\lT old=false)->(∀v∈l,X.isHdrX v=false)->σ.c r off=er1 u x->bO σ.ce r=some L->off<L.length ->
 (putL ⟨r,off,pl++[(i,sz,o)]⟩ (erL l)).run σ=some ((),⟨σ.tm,cM σ.ce r (L.set off (er1 u (f x))),σ.vr⟩)/\
 (∀z∈((putL ⟨r,off,pl++[(i,sz,o)]⟩ (erL l)).foot σ).1,z=.c r off\/z=.n r\/z=.h r off)/\∀z∈((putL ⟨r,off,pl++[(i,sz,o)]⟩ (erL l)).foot σ).2,z=.c r off:=by
 intro l
 induction l with
 |nil=>intro o f x σ L _ h;simp at h
 |cons v l ih=>
  intro o f x σ L hf _ ho Zx hh hc hL Y0;obtain⟨old,hg,Nj⟩:=Zx 0 (by simp);rw[Nat.add_zero]at hg
  have NH:lT (er v)=false:=by rw[mM];exact hh v (by simp)
  have WC:∀(f1:den u->den u),X.setH bp (pl++[(i,sz,o)]) v u=some f1->(oI ⟨r,off,pl++[(i,sz,o)]⟩ (er v)).run σ=some ((),⟨σ.tm,cM σ.ce r (L.set off (er1 u (f1 x))),σ.vr⟩)/\(oI ⟨r,off,pl++[(i,sz,o)]⟩ (er v)).foot σ=([.c r off,.n r,.h r off],[.c r off]):=by
   intro f1 h1;have hs:=vU h1 x;unfold oI;simp only[SP.run,SP.foot,hc];rw[hg];simp only[Nj,NH,Bool.or_false,Bool.false_eq_true,if_false,SP.run,SP.foot,hL,Y0,if_true,hc,yj (show pl++[(i,sz,o)]≠[] by simp),List.nil_append];rw[hs];exact⟨by first|rfl|trivial,by first|rfl|trivial⟩
  cases l with
  |nil=>
   rw[Bp v _ (by simp)]at hf;obtain⟨h1,h2⟩:=WC f hf;have e2:putL ⟨r,off,pl++[(i,sz,o)]⟩ (erL [v])=(oI ⟨r,off,pl++[(i,sz,o)]⟩ (er v)).bind λ_=>.ret ():=rfl;rw[e2,SP.run_bind,h1,bS _ _ h1,h2];refine⟨rfl,λz hz=>?_,λz hz=>?_⟩
   all_goals simp only[SP.foot,List.append_nil,List.mem_cons,List.not_mem_nil,or_false]at hz;exact hz
  |cons w vs=>
   obtain⟨f1,g,h1,h2,h3⟩:=vT hf;obtain⟨p1,p2⟩:=WC f1 h1;have hs:=vU h1 x;simp only[oLC]at ho
   obtain⟨q1,q2,q3⟩:=ih (o:=o+1) (x:=f1 x) (σ:=⟨σ.tm,cM σ.ce r (L.set off (er1 u (f1 x))),σ.vr⟩) h2 (by simp) (by simp only[oLC];omega) (λj hj=>by
    obtain⟨Rm,h4,h5⟩:=Zx (j+1) (by simp only[oLC]at hj⊢;omega);refine⟨Rm,?_,h5⟩;rw[hs,zQ (by omega),show o+1+j=o+(j+1) by omega]
    exact h4) (λv' YD=>hh v' (by simp[YD])) (by
    unfold St.c;simp only[ny]
    simp[Y0]) (ny _ _ _) (by simpa using Y0)
   have e2:putL ⟨r,off,pl++[(i,sz,o)]⟩ (erL (v::w::vs))=(oI ⟨r,off,pl++[(i,sz,o)]⟩ (er v)).bind λ_=>putL ⟨r,off,pl++[(i,sz,o+1)]⟩ (erL (w::vs)):=by
    have hfit:bA.fits ⟨r,off,pl++[(i,sz,o)]⟩ 1=true:=by
     simp only[bA.fits,List.reverse_append,List.reverse_cons,List.reverse_nil,List.nil_append,List.cons_append];simpa using(by omega:o+1<sz)
    have XQ:bA.add ⟨r,off,pl++[(i,sz,o)]⟩ 1=⟨r,off,pl++[(i,sz,o+1)]⟩:=by simp[bA.add]
    show(oI ⟨r,off,pl++[(i,sz,o)]⟩ (er v)).bind (λ_=>if bA.fits ⟨r,off,pl++[(i,sz,o)]⟩ 1 then putL (bA.add ⟨r,off,pl++[(i,sz,o)]⟩ 1) (erL (w::vs))else .fail)=_;rw[hfit,XQ];rfl
   rw[e2,SP.run_bind,p1,bS _ _ p1,p2];simp only[oBS];rw[q1,nw,List.set_set,h3 x];refine⟨rfl,λz hz=>?_,λz hz=>?_⟩
   ·rcases List.mem_append.1 hz with hz|hz
    ·simpa using hz
    ·exact q2 z hz
   ·rcases List.mem_append.1 hz with hz|hz
    ·simpa using hz
    ·exact q3 z hz
theorem oi(l:List (den .nat×Nat×Nat))(i:Nat)(sz o:Nat):X.lastO (l++[(i,sz,o)])=o:=by
 induction l with
 |nil=>rfl
 |cons h l ih=>
  cases l with
  |nil=>rfl
  |cons h2 l=>simpa[X.lastO]using ih
theorem yx:∀{hs:List (den .nat×Nat×Nat)}{tv:XV den}{k:(t:CT)->den t->Option Y}{y:Y},X.elemX bp tv hs k=some y->∃l i sz o t e,hs=l++[(i,sz,o)]/\fm t=sz/\(∀j v,D0 (X.splitX bp t e) j=some v->bJ (er tv) (l++[(i,sz,j)])=some (er v))/\k t e=some y:=by
 intro hs
 induction hs with
 |nil=>
  intro tv k y h
  cases tv with
  |d u x=>cases u with
   |row ow t=>cases ow<;>cases h
   |_=>cases h
  |_=>cases h
 |cons h1 hs ih=>
  intro tv k y h;obtain⟨i,sz,o⟩:=h1
  cases tv with
  |d u x=>cases u with
   |row ow t=>cases ow with
    |true=>
     cases hs with
     |nil=>
      simp only[X.elemX]at h;split at h
      ·rename_i hsz;obtain⟨e,he,h2⟩:=bz (show(dh (x:List (den t)) i).bind _=some y from h);have he:(x:List (den t))[i]?=some e:=he;refine⟨[],i,sz,o,t,e,rfl,hsz,λj v hv=>?_,h2⟩
       have h3:(List.map (enc t) (x:List (den t)))[i]?=some (enc t e):=by rw[List.getElem?_map,he];rfl
       show(match(List.map (enc t) (x:List (den t)))[i]? with|some el=>if el.length=sz then(match el[j]? with|some t=>bJ t []|none=>none)else none|none=>none)=_;rw[h3];simp only[cz,hsz,if_true,mj hv];rfl
      ·cases h
     |cons h2 hs=>
      simp only[X.elemX]at h;split at h
      ·rename_i hsz;obtain⟨e,he,h3⟩:=bz (show(dh (x:List (den t)) i).bind _=some y from h);have he:(x:List (den t))[i]?=some e:=he;split at h3
       ·rename_i v hv;obtain⟨l,i',sz',o',t',e',e1,e2,e3,e4⟩:=ih h3;refine⟨(i,sz,o)::l,i',sz',o',t',e',by rw[e1];rfl,e2,λj w hw=>?_,e4⟩
        have h4:(List.map (enc t) (x:List (den t)))[i]?=some (enc t e):=by rw[List.getElem?_map,he];rfl
        have:=e3 j w hw;show(match(List.map (enc t) (x:List (den t)))[i]? with|some el=>if el.length=sz then(match el[o]? with|some t=>bJ t (l++[(i',sz',j)])|none=>none)else none|none=>none)=_;rw[h4];simp only[cz,hsz,if_true,mj hv];exact this
       ·cases h3
      ·cases h
    |false=>cases hs<;>cases h
   |_=>cases hs<;>cases h
  |_=>cases hs<;>cases h
theorem vL(r off:Nat)(hs:List (den .nat×Nat×Nat))(l:List (XV den))(h2:2<=hs.length):Sim (Y:=Y) (X.bind (X.rdC r off) λtv=>X.elemM bp tv hs λt e=>
 if X.lastO hs+l.length<=fm t/\0<l.length/\(((X.splitX bp t e).drop (X.lastO hs)).take l.length).all (λv=>!X.isHdrX v)=true/\l.all (λv=>!X.isHdrX v)=true then X.bind (X.optM bp (X.setXs bp tv hs l)) λYk=>X.wrI bp r off Yk else X.fail bp) (putL ⟨r,off,hs⟩ (erL l)) id:=by
 intro σ k y hk;obtain⟨pl,i,sz,o,t,e,e1,e2,e3,e4⟩:=yx hk
 have e5:X.lastO hs=o:=by rw[e1,oi]
 rw[e5]at e4;dsimp only at e4;split at e4
 case isFalse=>cases e4
 rename_i hc;obtain⟨Ze,Zl,TI,TJ⟩:=hc
 have hlen:(X.splitX bp t e).length=sz:=by rw[<- cT,ml,cz,e2]
 cases hset:X.setXs bp (X.cOf σ r off) hs l with
 |none=>rw[hset]at e4;cases e4
 |some Yk=>
  rw[hset]at e4;have e4:X.wrI bp r off Yk (X.lgR (.c r off) σ) k=some y:=e4
  cases htv:X.cOf σ r off with
  |d u x=>
   rw[htv]at hset e3;obtain⟨f,hf,MQ⟩:=dV (show(X.setHs bp hs l u).map (λf=>(XV.d u (f x):XV den))=some Yk from hset);subst MQ;unfold X.wrI at e4;split at e4
   case h_2=>cases e4
   rename_i L hL;have hL:bO σ.ce r=some L:=hL;split at e4
   case isFalse=>cases e4
   rename_i Y0;rw[kg]at e4;rw[e1]at hf
   obtain⟨q1,q2,q3⟩:=BD (r:=r) (off:=off) (σ:=erS σ) (L:=erL L) l (x:=x) hf Zl (by rw[<- e2];exact Ze) (λj hj=>by
    have hjs:o+j<(X.splitX bp t e).length:=by omega
    refine⟨er (X.splitX bp t e)[o+j],e3 (o+j) _ (by rw[pQ];exact oGE hjs),?_⟩;rw[mM]
    have:=List.all_eq_true.1 TI (X.splitX bp t e)[o+j] (List.mem_of_getElem? (i:=j) (by
     rw[List.getElem?_take,oIP hj,List.getElem?_drop]
     exact oGE hjs))
    simpa using this) (λv hv=>by simp_all) (by rw[rq,htv];rfl) (by rw[r9,hL];rfl) (by rw[cT];exact Y0)
   rw[<- e1]at q1 q2 q3;refine⟨(),⟨σ.tm,cM σ.ce r (L.set off (.d u (f x))),σ.vr,(.n r :: .h r off :: .c r off :: σ.lg.1,.c r off :: σ.lg.2)⟩,?_,⟨λz hz=>?_,λz hz=>?_,λz hz=>by simp[hz],λz hz=>by simp[hz]⟩,e4⟩
   ·rw[q1];unfold erS erC;simp only;rw[<- kZ,qm];rfl
   ·rcases q2 z hz with h|h|h<;>simp[h]
   ·simp[q3 z hz]
  |_=>rw[htv]at hset;cases hset
theorem BG{r off i sz o:Nat}{l:List (XV den)}{tv:XV den}{σ:XS den}{k:Unit->XS den->Option Y}{y:Y}(h:X.putEl bp r off i sz o l tv σ k=some y):
 (∃t xs,tv=.d (.row true t) xs/\(fm t=sz/\o+l.length<=sz/\0<l.length)/\(X.atM bp true t xs i λe=>X.bind (X.optM bp (X.setDs bp t o l)) λf=>X.bind (X.wrI bp r off (.d (.row true t) (bp.upd t xs i f))) λ_=>X.bumps (r,off,2) (X.hdrs ((X.splitX bp t e).drop o) l)) σ k=some y)\/
 ∃t xs i' o',tv=.gap t xs i' o'/\(fm t=sz/\o=o'/\o<sz/\l.length=1)/\(X.atM bp true t xs i λ_=>X.brM bp (bp.eqN i i') (X.bind (X.optM bp (X.setDs bp t o l)) λf=>X.bind (X.wrI bp r off (.d (.row true t) (bp.upd t xs i f))) λ_=>X.bump (r,off,2))) σ k=some y:=by
 cases tv with
 |d u xs=>cases u with
  |row ow t=>cases ow with
   |true=>
    by_cases hc:fm t=sz/\o+l.length<=sz/\0<l.length
    ·simp[X.putEl,oIP hc]at h;exact .inl ⟨t,xs,rfl,hc,h⟩
    ·simp[X.putEl,oIN hc]at h;cases h
   |false=>cases h
  |_=>cases h
 |gap t xs i' o'=>
  by_cases hc:fm t=sz/\o=o'/\o<sz/\l.length=1
  ·simp[X.putEl,oIP hc]at h;exact .inr ⟨t,xs,i',o',rfl,hc,h⟩
  ·simp[X.putEl,oIN hc]at h;cases h
 |_=>cases h
theorem GX{c:Bool}{m:XM den Option Y α}{σ:XS den}{k:α->XS den->Option Y}{y:Y}(h:X.brM bp c m σ k=some y):c=true/\m σ k=some y:=by
 cases c with
 |false=>cases h
 |true=>exact⟨rfl,h⟩
theorem Er{t:CT}{xs:List (den t)}{i sz o:Nat}{e:den t}(hsz:fm t=sz)(he:xs[i]?=some e)(ho:o<sz):bJ (dn (er1 (.row true t) xs) [(i,0,o)] .dead) [(i,sz,o)]=some .dead:=by
 have h3:(List.map (enc t) xs)[i]?=some (enc t e):=by simp_all
 show(match((List.map (enc t) xs).modify i λel=>el.modify o λ_=>TV.dead)[i]? with|some el=>if el.length=sz then(match el[o]? with|some t=>bJ t []|none=>none)else none|none=>none)=_;rw[List.getElem?_modify,h3]
 have h4:o<(enc t e).length:=by rw[cz,hsz];exact ho
 simp[cz,hsz,oGE h4,bJ]
theorem DN{tv:TV}{i sz sz' o:Nat}{u v:TV}:dn (dn tv [(i,sz',o)] u) [(i,sz,o)] v=dn tv [(i,sz,o)] v:=by
 cases tv with
 |ow c=>
  simp only[dn];congr 1;apply List.ext_getElem?;intro j;simp only[List.getElem?_modify];by_cases h:i=j
  ·simp only[h,if_true]
   cases c[j]? with
   |none=>rfl
   |some el=>
    show some ((el.modify o λ_=>u).modify o λ_=>v)=some (el.modify o λ_=>v);congr 1;apply List.ext_getElem?;intro k;simp only[List.getElem?_modify];by_cases h:o=k
    ·simp only[h,if_true];cases el[k]?<;>rfl
    ·simp[h]
  ·simp[h]
 |_=>rfl
theorem yX{r off i sz o:Nat}{t:CT}{xs:List (den t)}{l:List (XV den)}{σ:XS den}{k:Unit->XS den->Option Y}{y:Y}(hcell:X.cOf σ r off=.gap t xs i o)(hc:fm t=sz/\o<sz/\l.length=1){e:den t}(he:xs[i]?=some e)
 (hk:(X.bind (X.optM bp (X.setDs bp t o l)) λf=>X.bind (X.wrI bp r off (.d (.row true t) (bp.upd t xs i f))) λ_=>X.bump (r,off,2)) (X.lgR (.c r off) σ) k=some y):
 ∃a σ',(putL ⟨r,off,[(i,sz,o)]⟩ (erL l)).run (erS σ)=some (id a,erS σ')/\iR σ σ' ((putL ⟨r,off,[(i,sz,o)]⟩ (erL l)).foot (erS σ))/\k a σ'=some y:=by
 obtain⟨hsz,ho,hl⟩:=hc
 obtain⟨v,rfl⟩:∃v,l=[v]:=by
  match l,hl with
  | [v],_=>simp_all
 cases hf:X.setDs bp t o [v]with
 |none=>rw[hf]at hk;cases hk
 |some f=>
  rw[hf]at hk
  have hset:dn (er1 (.row true t) xs) [(i,sz,o)] (er v)=er1 (.row true t) (List.modify xs i f):=by
   rw[rT xs i o f (λ_=>er v) (sx (λu h hu _ x=>C8 hu x) hf)];rfl
  have VV:(erS σ).c r off=dn (er1 (.row true t) xs) [(i,0,o)] .dead:=by rw[rq,hcell];rfl
  have RF:=(gA.wrI (Y:=Y) (σ:=X.lgR (.c r off) σ) (t:=.d (.row true t) (List.modify xs i f)) (by
   show(er1 (.row true t) (List.modify xs i f)).hd=((erS σ).c r off).hd
   rw[VV,qa (by simp),<- hset,qa (by simp)])).bind (g:=λ_=>X.bump (r,off,2)) (h:=λ_=>.bump (r,off,2) (.ret ())) (f':=id) λ_=>xM (r,off,2)
  have ⟨a,σ',h1,h2,h3⟩:=RF k y hk
  have e1:putL ⟨r,off,[(i,sz,o)]⟩ (erL [v])=.rdC r off λtv=>(match bJ tv [(i,sz,o)]with
   |some old=>if lT old||lT (er v)then(if 1<=1 then SP.wrC r off (dn tv [(i,sz,o)] (er v)) (.bump (r,off,2) (.ret ()))else .fail)else .wrC r off (dn tv [(i,sz,o)] (er v)) (.ret ())
   |none=>.fail).bind λ_=>.ret ():=rfl
  have e2:∀s:TV,s=(erS σ).c r off->((match bJ s [(i,sz,o)]with
   |some old=>if lT old||lT (er v)then(if 1<=1 then SP.wrC r off (dn s [(i,sz,o)] (er v)) (.bump (r,off,2) (.ret ()))else .fail)else .wrC r off (dn s [(i,sz,o)] (er v)) (.ret ())
   |none=>.fail:SP Unit).bind λ_=>.ret ())=.wrC r off (er1 (.row true t) (List.modify xs i f)) (.bump (r,off,2) (.ret ())):=by
   intro s hs;rw[hs,VV,Er hsz he ho,DN,hset];rfl
  refine⟨a,σ',?_,⟨λx hx=>?_,λx hx=>?_,λx hx=>h2.r0 x (by simp[X.lgR,hx]),λx hx=>h2.w0 x hx⟩,h3⟩
  ·rw[e1];simp only[SP.run];rw[e2 _ rfl];exact h1
  ·rw[e1]at hx;simp only[SP.foot,List.mem_cons]at hx;rcases hx with rfl|hx
   ·exact h2.r0 _ (by simp[X.lgR])
   ·rw[e2 _ rfl]at hx;exact h2.r x hx
  ·rw[e1]at hx;simp only[SP.foot]at hx;rw[e2 _ rfl]at hx;exact h2.w x hx
theorem xF(p:XP den)(l:List (XV den)):Sim (Y:=Y) (X.putL bp p l) (putL (erP p) (erL l)) id:=by
 obtain⟨r,off,hops⟩:=p
 match hops with
 | []=>exact DA r l off
 | [(i,sz,o)]=>
  intro σ k y hk;show ∃a σ',(putL ⟨r,off,[(i,sz,o)]⟩ (erL l)).run (erS σ)=some (id a,erS σ')/\_
  rcases BG hk with⟨t,xs,hcell,⟨hsz,hol,V7⟩,hk⟩|⟨t,xs,i',o',hcell,⟨hsz,hoo,hol,V7⟩,hk⟩
  rotate_left
  ·obtain⟨e,he,hk⟩:=bz (show(dh xs i).bind _=some y from hk);dsimp only at hk;obtain⟨hb,M5⟩:=GX hk;have hii:i=i':=Nat.eq_of_beq_eq_true hb;subst hii;subst hoo;exact yX hcell ⟨hsz,hol,V7⟩ he M5
  ··skip
    obtain⟨e,he,hk⟩:=bz (show(dh xs i).bind _=some y from hk)
    cases hf:X.setDs bp t o l with
    |none=>rw[hf]at hk;cases hk
    |some f=>
     rw[hf]at hk;have hk:X.wrI bp r off (.d (.row true t) (bp.upd t xs i f)) (X.lgR (.c r off) σ) (λ_ σ'=>X.bumps (r,off,2) (X.hdrs ((X.splitX bp t e).drop o) l) σ' k)=some y:=hk;unfold X.wrI at hk;split at hk
     case h_2=>cases hk
     rename_i L hL;have hL:bO σ.ce r=some L:=hL;split at hk
     case isFalse=>cases hk
     rename_i Y0;rw[kg]at hk;obtain⟨σ',h1,h2,h3,h4,h5⟩:=CZ _ _ hk
     have hc:(erS σ).c r off=er1 (.row true t) xs:=by rw[rq,hcell];rfl
     have Sc:bO (erS σ).ce r=some (erL L):=by rw[r9,hL];rfl
     obtain⟨q1,q2⟩:=Gq hsz l (σ:=erS σ) hf he hol hc Sc (by rw[cT];exact Y0);refine⟨(),σ',?_,⟨λx hx=>?_,λx hx=>?_,λx hx=>h2 x (by simp[X.lgR,hx]),λx hx=>h3 x (by simp[X.lgR,hx])⟩,h5⟩
     ·rw[q1,h1];simp only[id_eq,oSJ,oPJ,true_and];congr 1;show cM (erC σ.ce) r _=erC (cM σ.ce r _);unfold erC;rw[<- kZ,qm];rfl
     ·rcases q2.1 x hx with h|(h|h)|⟨h,h'⟩
      ·exact h2 x (by simp[X.lgR,h])
      ·simp_all
      ·simp_all
      ·rw[h];exact(h4 h').1
     ·rcases q2.2 x hx with h|⟨h,h'⟩
      ·simp_all
      ·rw[h];exact(h4 h').2
 |h1::h2::hs=>exact vL r off (h1::h2::hs) l (by simp)
end
section
variable {α β γ δ Y:Type}
theorem fw(p:XP den)(t:XV den):Sim (Y:=Y) (X.peek1 bp p t) (peek1 (erP p) (er t)) er:=by
 cases t with
 |k x=>exact .ret rfl
 |d t x=>
  have own:X.isOwT t=true->Sim (Y:=Y) (X.peek1 bp p (.d t x)) (peek1 (erP p) (er (.d t x))) er:=by
   intro h;have h1:X.isOwX (.d t x:XV den)=true:=h;have ⟨c,hc⟩:=iD h1;rw[hc];show Sim (if X.isOwT t then _ else _) (SP.bind _ _) er;rw[oIP h];exact(o8 _).bind λvs=>.ret rfl
  cases t with
  |row o t=>cases o<;>first|exact .ret rfl|exact own rfl
  |nilr o=>cases o<;>first|exact .ret rfl|exact own rfl
  |int k=>exact .ret rfl
  |bool=>exact .ret rfl
  |str=>exact .ret rfl
  |nat=>exact .fail
  |pair a b=>exact .fail
 |_=>exact .fail
theorem AL(p:XP den):Sim (Y:=Y) (X.peekP bp p) (peekP (erP p)) er:=by
 have ⟨r,o,hs⟩:=p
 cases hs with
 |nil=>
  refine Sim.rdK λt=>Sim.ite (λh=>?_) λh=>?_
  ·have ⟨c,hc⟩:=iD h;rw[hc];exact(o8 _).bind λvs=>.ret rfl
  ·rw[GH (by simp_all) (mL t)];exact(fC ⟨r,o,[]⟩).bind λt=>fw _ t
 |cons h hs=>exact(fC ⟨r,o,h::hs⟩).bind λt=>fw _ t
theorem AM(r:Nat):∀(n o:Nat),Sim (Y:=Y) (X.peekB bp r o n) (peekL ⟨r,o,[]⟩ n) erL:=by
 intro n
 induction n with
 |zero=>intro o;exact .ret rfl
 |succ n ih=>
  intro o
  cases n with
  |zero=>
   refine Sim.rdC λt=>(fw ⟨r,o,[]⟩ t).bind λt'=>?_;exact(Sim.ret (f:=erL) rfl).bind (h:=λl=>.ret (er t'::l)) λl=>.ret rfl
  |succ n=>
   exact Sim.rdC λt=>(fw ⟨r,o,[]⟩ t).bind λt'=>(ih (o+1)).bind λl=>.ret rfl
theorem ER{r o:Nat}{l:List Hop}{i sz f n:Nat}:(⟨r,o,l++[(i,sz,f)]⟩:bA).add n=⟨r,o,l++[(i,sz,f+n)]⟩:=by
 simp[bA.add]
theorem CA{r o:Nat}{l:List Hop}{i sz f n:Nat}:(⟨r,o,l++[(i,sz,f)]⟩:bA).fits n=decide (f+n<sz):=by
 simp[bA.fits]
theorem By:∀{qs:List Key}{σ:St}{a:List Nat}{τ:St},(rdVs qs).run σ=some (a,τ)->τ=σ:=by
 intro qs
 induction qs with
 |nil=>intro σ a τ h;simp[rdVs,SP.run]at h;exact h.2.symm
 |cons q qs ih=>
  intro σ a τ h;have ⟨l,σ1,h1,h2⟩:=bn h;simp[SP.run]at h2;rw[<- h2.2];exact ih h1
theorem zw{p:bA}{t:TV}{σ:St}{y:TV×St}(h:(peek1 p t).run σ=some y):y.2=σ:=by
 cases t with
 |v x=>simp[peek1,SP.run]at h;rw[<- h]
 |sl c=>simp[peek1,SP.run]at h;rw[<- h]
 |ow c=>
  have ⟨l,σ1,h1,h2⟩:=bn h;simp[SP.run]at h2;rw[<- h2];exact By h1
 |_=>simp[peek1,SP.run]at h
theorem zu{r off:Nat}{l:List (den .nat×Nat×Nat)}{i:Nat}{sz:Nat}{tv:TV}:∀(cs:List (XV den))(o:Nat){σ:XS den}{k:List (XV den)->XS den->Option Y}{y:Y},X.peekCs bp ⟨r,off,l++[(i,sz,o)]⟩ cs σ k=some y ->
 (erS σ).c r off=tv->Loc.c r off∈σ.lg.1->(∀j v,cs[j]?=some v->bJ tv (l++[(i,sz,o+j)])=some (er v))->0<cs.length->o+cs.length<=sz ->
 ∃vs σ',(peekL ⟨r,off,l++[(i,sz,o)]⟩ cs.length).run (erS σ)=some (erL vs,erS σ')/\iR σ σ' ((peekL ⟨r,off,l++[(i,sz,o)]⟩ cs.length).foot (erS σ))/\k vs σ'=some y:=by
 intro cs
 induction cs with
 |nil=>simp_all
 |cons t cs ih=>
  intro o σ k y h hc QC hg h0 hsz;obtain⟨t',σ1,r1,n1,k1⟩:=fw ⟨r,off,l++[(i,sz,o)]⟩ t σ _ y h;have r1:(peek1 ⟨r,off,l++[(i,sz,o)]⟩ (er t)).run (erS σ)=some (er t',erS σ1):=r1;have hs:erS σ1=erS σ:=zw r1
  have TQ:(getPl ⟨r,off,l++[(i,sz,o)]⟩).run (erS σ)=some (er t,erS σ):=by
   have h3:bJ tv (l++[(i,sz,o)])=some (er t):=hg 0 t rfl;simp only[getPl,SP.run,hc];rw[h3];rfl
  have OD:(getPl ⟨r,off,l++[(i,sz,o)]⟩).foot (erS σ)=([.c r off],[]):=by
   simp only[getPl,SP.foot,hc];have:=hg 0 t rfl;simp only[Nat.add_zero]at this;rw[this];rfl
  cases cs with
  |nil=>
   have k1:k [t'] σ1=some y:=k1;have e:peekL ⟨r,off,l++[(i,sz,o)]⟩ 1=(getPl ⟨r,off,l++[(i,sz,o)]⟩).bind λt=>(peek1 ⟨r,off,l++[(i,sz,o)]⟩ t).bind λt'=>.ret [t']:=rfl;refine⟨[t'],σ1,?_,?_,k1⟩
   ·show(peekL _ 1).run _=_;rw[e,SP.run_bind,TQ];simp only[oBS,SP.run_bind,r1];rfl
   ·show iR σ σ1 ((peekL _ 1).foot _);rw[e,bS _ _ TQ,bS _ _ r1,OD];refine⟨λx hx=>?_,λx hx=>?_,n1.r0,n1.w0⟩
    ·simp only[SP.foot,List.cons_append,List.nil_append,List.append_nil,List.mem_cons]at hx;rcases hx with h|h
     ·rw[h];exact n1.r0 _ QC
     ·exact n1.r x h
    ·simp only[SP.foot,List.nil_append,List.append_nil]at hx;exact n1.w x hx
  |cons u cs=>
   have PF:X.addP (⟨r,off,l++[(i,sz,o)]⟩:XP den) 1=⟨r,off,l++[(i,sz,o+1)]⟩:=by simp[X.addP]
   rw[PF]at k1;simp only[oLC]at hsz h0
   obtain⟨vs,σ2,r2,n2,k2⟩:=ih (o+1) k1 (by rw[hs];exact hc) (n1.r0 _ QC) (λj v hv=>by
    have:=hg (j+1) v (by simpa using hv)
    rw[show o+1+j=o+(j+1) by omega];exact this) (by simp) (by simp only[oLC];omega)
   have e:peekL ⟨r,off,l++[(i,sz,o)]⟩ (u::cs).length.succ=(getPl ⟨r,off,l++[(i,sz,o)]⟩).bind λt=>(peek1 ⟨r,off,l++[(i,sz,o)]⟩ t).bind λt'=>(peekL ⟨r,off,l++[(i,sz,o+1)]⟩ (u::cs).length).bind λr=>.ret (t'::r):=by
    show(getPl _).bind (λt=>(peek1 _ t).bind λt'=>if bA.fits ⟨r,off,l++[(i,sz,o)]⟩ 1 then(peekL (bA.add ⟨r,off,l++[(i,sz,o)]⟩ 1) (cs.length+1)).bind λr=>.ret (t'::r)else .fail)=_
    have h3:decide (o+1<sz)=true:=by simpa using(by omega:o+1<sz)
    rw[CA,ER,h3];rfl
   refine⟨t'::vs,σ2,?_,?_,k2⟩
   ·show(peekL _ (u::cs).length.succ).run _=_;rw[e,SP.run_bind,TQ];simp only[oBS,SP.run_bind,r1,r2];rfl
   ·show iR σ σ2 ((peekL _ (u::cs).length.succ).foot _);rw[e,bS _ _ TQ,bS _ _ r1,bS _ _ r2,OD];refine⟨λx hx=>?_,λx hx=>?_,λx hx=>n2.r0 x (n1.r0 x hx),λx hx=>n2.w0 x (n1.w0 x hx)⟩
    ·simp only[SP.foot,List.cons_append,List.nil_append,List.append_nil,List.mem_cons,List.mem_append]at hx;rcases hx with h|h|h
     ·rw[h];exact n2.r0 _ (n1.r0 _ QC)
     ·exact n2.r0 _ (n1.r x h)
     ·exact n2.r x h
    ·simp only[SP.foot,List.nil_append,List.append_nil,List.mem_append]at hx;rcases hx with h|h
     ·exact n2.w0 _ (n1.w x h)
     ·exact n2.w x h
theorem uo(p:XP den)(n:Nat):Sim (Y:=Y) (X.peekL bp p n) (peekL (erP p) n) erL:=by
 obtain⟨r,off,hops⟩:=p
 cases hops with
 |nil=>exact AM r n off
 |cons h1 hs=>
  intro σ k y hk;have hk:X.elemM bp (X.cOf σ r off) (h1::hs) (λt e=>if X.lastO (h1::hs)+n<=fm t/\0<n then X.peekCs bp ⟨r,off,h1::hs⟩ (((X.splitX bp t e).drop (X.lastO (h1::hs))).take n)else X.fail bp) (X.lgR (.c r off) σ) k=some y:=hk;obtain⟨l,i,sz,o,t,e,e1,e2,e3,e4⟩:=yx hk
  have e5:X.lastO (h1::hs)=o:=by rw[e1,oi]
  rw[e5]at e4;dsimp only at e4;split at e4
  ·rename_i hc
   have hlen:(X.splitX bp t e).length=sz:=by rw[<- cT,ml,cz,e2]
   have hcl:(((X.splitX bp t e).drop o).take n).length=n:=by rw[oLT,List.length_drop,hlen];omega
   rw[e1]at e4
   have ⟨vs,σ',r1,n1,k1⟩:=zu (tv:=er (X.cOf σ r off)) _ o e4 (rq σ r off) (by simp[X.lgR]) (λj v hv=>e3 (o+j) v (by
    rw[pQ];rw[List.getElem?_take]at hv;split at hv
    ·simp_all
    ·simp at hv)) (by omega) (by omega)
   rw[hcl]at r1 n1
   have ep:erP ⟨r,off,h1::hs⟩=⟨r,off,l++[(i,sz,o)]⟩:=by unfold erP;rw[e1]
   rw[ep];exact⟨vs,σ',r1,⟨n1.r,n1.w,λx hx=>n1.r0 x (by simp[X.lgR,hx]),λx hx=>n1.w0 x hx⟩,k1⟩
  ·cases e4
theorem AO(r:Nat):∀(l:List (XV den))(i:Nat),Sim (Y:=Y) (X.nameL r i l) (nameL r i (erL l)) erL:=by
 intro l
 induction l with
 |nil=>intro i;exact .ret rfl
 |cons t l ih=>
  intro i
  cases ho:X.isOwX t with
  |true=>
   obtain⟨c,hc⟩:=iD ho
   have e:nameL r i (erL (t::l))=.rdV (r,0,0) λg=>.rdV (r,i,1) λh=>(nameL r (i+1) (erL l)).bind λl'=>.ret (.pk ⟨r,i,[]⟩ [g,h]::l'):=by
    simp[erL,hc,nameL]
   rw[e];simp[X.nameL,ho];exact Sim.rdV λg=>Sim.rdV λh=>(ih (i+1)).bind λl'=>.ret rfl
  |false=>
   have e:nameL r i (erL (t::l))=(nameL r (i+1) (erL l)).bind λl'=>.ret (er t::l'):=by
    have h1:gS (er t)=false:=by rw[mL,ho]
    simp[erL]
    cases he:er t with
    |ow c=>rw[he]at h1;simp[gS]at h1
    |_=>rfl
   rw[e];simp[X.nameL,ho,if_false];exact(ih (i+1)).bind λl'=>.ret rfl
theorem Fr(l:List (XV den)):(erL l).any gS=l.any X.isOwX:=by
 induction l with
 |nil=>rfl
 |cons t l ih=>simp[erL,mL,ih]
theorem mo(d:Nat)(l:List (XV den)):Sim (Y:=Y) (X.names bp d l) (names d (erL l)) erL:=by
 unfold X.names names;rw[Fr];by_cases h:l.any X.isOwX=true
 ·rw[oIP h,oIP h];exact Sim.new rfl (AO _ l 0)
 ·rw[oIN h,oIN h];exact .ret rfl
theorem rP(agg:Bool)(l:List (XV den)):er (X.shapedX agg l)=jH agg (erL l):=by
 cases agg with
 |true=>rfl
 |false=>exact vi l
theorem bU(d:Nat){t:XV den}{t':TV}(e:er t=t'):Sim (Y:=Y) (X.wr bp d t) (wr d t') id:=by subst e;exact pD d t
theorem fB(d:Nat)(agg:Bool){l:List (XV den)}{l':List TV}(e:erL l=l'):Sim (Y:=Y) (X.inst bp d agg l) (inst d agg l') id:=by
 subst e;exact(mo d l).bind λl'=>bU d (rP agg l')
theorem fA(t:XV den):Sim (Y:=Y) (X.natOf bp t) (natOf (er t)) id:=by
 cases t with
 |d t x=>cases t with
  |int k=>
   refine Sim.nat λm hm=>?_;subst hm;exact .ret rfl
  |_=>exact .fail
 |_=>exact .fail
theorem pG(t:XV den):Sim (Y:=Y) (X.lenOf bp t) (i8 (er t)) id:=by
 cases t with
 |d t x=>cases t with
  |row o t=>cases o with
   |false=>exact .ret (List.length_map _).symm
   |true=>exact .fail
  |nilr o=>cases o<;>exact .ret rfl
  |_=>exact .fail
 |pk p vs=>
  refine(cS p _ vs).bind λ_=>(xH p).bind λt=>?_
  cases t with
  |d t x=>cases t with
   |row o t=>cases o with
    |true=>exact .ret (show _=(List.map List.length (List.map (enc t) x)).length by simp;rfl)
    |false=>exact .fail
   |nilr o=>cases o with
    |true=>exact .ret rfl
    |false=>exact .fail
   |_=>exact .fail
  |_=>exact .fail
 |pw p vs sz lo n=>exact(cS p _ vs).bind λ_=>.ret rfl
 |_=>exact .fail
theorem rO(o:Option Opd)(d:Nat):Sim (Y:=Y) (X.optNat bp o d) (optNat o d) id:=by
 cases o with
 |none=>exact .ret rfl
 |some o=>exact(lL o).bind λt=>fA t
theorem mn(mv:Bool):∀l:List (Nat×Nat×Opd),Sim (Y:=Y) (X.takeParts bp mv l) (takeParts mv l) erL:=by
 intro l
 induction l with
 |nil=>exact .ret rfl
 |cons x l ih=>
  have ⟨off,n,x⟩:=x;refine(lL x).bind λt=>?_;rw[m6];refine(iV mv _).bind λl1=>?_;refine Sim.ite (λhn=>?_) λ_=>.fail;rw[oIP (by rw[cT];exact hn)];exact ih.bind λl'=>.ret (kV _ _)
theorem BJ:∀(l cells:List (XV den))(off:Nat),erL (X.placeX cells off l)=fU (erL cells) off (erL l):=by
 intro l
 induction l with
 |nil=>intros;rfl
 |cons t l ih=>intro cells off;simp[X.placeX,erL,fU];rw[ih,qm]
theorem vt:∀(ps:List (Nat×Nat×Opd))(cells l:List (XV den)),erL (X.assembleX cells ps l)=jB (erL cells) ps (erL l):=by
 intro ps
 induction ps with
 |nil=>intros;rfl
 |cons p ps ih=>
  intro cells l;simp[X.assembleX,jB];rw[ih,BJ,kU,mT]
theorem Af(sz:Nat):∀(n:Nat)(l:List (XV den)),(X.chunksX sz n l).map erL=iq sz n (erL l):=by
 intro n
 induction n with
 |zero=>intros;rfl
 |succ n ih=>intro l;simp only[X.chunksX,List.map_cons,iq];rw[ih,kU,mT]
theorem kX(z:List Value):erL (z.map (X.cellX bp))=z.map bQ:=by
 rw[fH,List.map_map];exact List.map_congr_left λy _=>po y
theorem i5{z:List Value}(h:(z.map (X.cellX bp)).all X.okCellX=true):(z.map bQ).all bW=true:=by
 rw[<- kX,fH,List.all_map];rw[List.all_eq_true]at h⊢;intro x hx;exact zD (h x hx)
end
section
variable {α β γ δ Y:Type}
theorem sD(v:Value):zr (pure v)=some v:=rfl
theorem IK{k:IntKind}{a b:Int}{op:BinOp}(h:op=.add\/op=.sub\/op=.mul\/op=.and\/op=.or\/op=.xor\/op=.andNot):dp op (.int k a) (.int k b)=some (.int k (arR op k a b)):=by
 rcases h with rfl|rfl|rfl|rfl|rfl|rfl|rfl<;>simp[dp,Go.binOp,Op.intArith,Op.intBits,arR,sD]
theorem IJ{k:IntKind}{a b:Int}{op:BinOp}(h:op=.eql\/op=.neq\/op=.lss\/op=.leq\/op=.gtr\/op=.geq):dp op (.int k a) (.int k b)=some (.bool (cmR op a b)):=by
 rcases h with rfl|rfl|rfl|rfl|rfl|rfl<;>simp[dp,Go.binOp,Op.intCmp,cmR,sD]
theorem II{k:IntKind}{a b:Int}{op:BinOp}(h:op=.quo\/op=.rem)(hb:b≠0):dp op (.int k a) (.int k b)=some (.int k (arR op k a b)):=by
 rcases h with rfl|rfl<;>simp[dp,Go.binOp,Op.intDiv,arR,sD,hb]
theorem Fp{k k':IntKind}{a:Int}{n:Nat}{op:BinOp}(h:op=.shl\/op=.shr):dp op (.int k a) (.int k' n)=some (.int k (shR op k a n)):=by
 rcases h with rfl|rfl<;>simp[dp,Go.binOp,Op.shift,shR,sD,show ¬((n:Int)<0) by omega]
theorem Fo{a b:ByteArray}:dp .eql (.string a) (.string b)=some (.bool (GQ a b))/\dp .neq (.string a) (.string b)=some (.bool (!(GQ a b))):=⟨rfl,rfl⟩
theorem pA(d:Nat){op:BinOp}{x y r:Value}{t:XV den}(h:dp op x y=some r)(hf:dZ r=true)(e:er t=.v r):Sim (Y:=Y) (X.wr bp d t) ((fK (dp op x y)).bind λr=>if dZ r then wr d (.v r)else .fail) id:=by
 rw[h];show Sim _ (if dZ r then wr d (.v r)else .fail) id;rw[oIP hf];exact bU d e
theorem HP(d:Nat)(op:BinOp)(a b:XV den):Sim (Y:=Y) (X.binX bp d op a b) ((nC (er a)).bind λa=>(nC (er b)).bind λb=>(fK (dp op a b)).bind λr=>if dZ r then wr d (.v r)else .fail) id:=by
 cases a with
 |d t x=>cases t with
  |int k=>cases b with
   |d u y=>cases u with
    |int k'=>
     have ar:(op=.add\/op=.sub\/op=.mul\/op=.and\/op=.or\/op=.xor\/op=.andNot)->Sim (Y:=Y) (if h:k'=k then X.wr bp d (.d (.int k) (bp.ar op k x (h▸y)))else X.fail bp) ((fK (dp op (.int k x) (.int k' y))).bind λr=>if dZ r then wr d (.v r)else .fail) id:=by
      intro hop;by_cases h:k'=k
      ·subst h;rw[dif_pos rfl];exact pA d (IK hop) rfl rfl
      ·rw[dif_neg h];exact .fail
     have cm:(op=.eql\/op=.neq\/op=.lss\/op=.leq\/op=.gtr\/op=.geq)->Sim (Y:=Y) (if h:k'=k then X.wr bp d (.d .bool (bp.cm op k x (h▸y)))else X.fail bp) ((fK (dp op (.int k x) (.int k' y))).bind λr=>if dZ r then wr d (.v r)else .fail) id:=by
      intro hop;by_cases h:k'=k
      ·subst h;rw[dif_pos rfl];exact pA d (IJ hop) rfl rfl
      ·rw[dif_neg h];exact .fail
     have dv:(op=.quo\/op=.rem)->Sim (Y:=Y) (if h:k'=k then X.brM bp (bp.cm .neq k' y (bp.lit k' 0)) (X.wr bp d (.d (.int k) (bp.ar op k x (h▸y))))else X.fail bp) ((fK (dp op (.int k x) (.int k' y))).bind λr=>if dZ r then wr d (.v r)else .fail) id:=by
      intro hop;by_cases h:k'=k
      ·subst h;rw[dif_pos rfl];refine Sim.br λhb=>pA d (II hop ?_) rfl rfl;have hb:((y:Int) != 0)=true:=hb
       simp_all
      ·rw[dif_neg h];exact .fail
     cases op with
     |add=>exact ar (by simp)
     |sub=>exact ar (by simp)
     |mul=>exact ar (by simp)
     |and=>exact ar (by simp)
     |or=>exact ar (by simp)
     |xor=>exact ar (by simp)
     |andNot=>exact ar (by simp)
     |eql=>exact cm (by simp)
     |neq=>exact cm (by simp)
     |lss=>exact cm (by simp)
     |leq=>exact cm (by simp)
     |gtr=>exact cm (by simp)
     |geq=>exact cm (by simp)
     |quo=>exact dv (by simp)
     |rem=>exact dv (by simp)
     |shl=>
      refine Sim.nat λn hn=>?_;have hn:y=(n:Int):=hn;subst hn;exact pA d (Fp (.inl rfl)) rfl rfl
     |shr=>
      refine Sim.nat λn hn=>?_;have hn:y=(n:Int):=hn;subst hn;exact pA d (Fp (.inr rfl)) rfl rfl
    |_=>exact .fail
   |_=>exact .fail
  |str=>cases b with
   |d u y=>cases u with
    |str=>
     cases op with
     |eql=>exact pA d Fo.1 rfl rfl
     |neq=>exact pA d Fo.2 rfl rfl
     |_=>exact .fail
    |_=>exact .fail
   |_=>exact .fail
  |_=>exact .fail
 |_=>exact .fail
theorem Ex:∀{ks:List FK}{xs ys:List (XV den)}{c:Bool},X.eqAll bp ks xs ys=some c->∃vs ws,bT (erL xs)=some vs/\bT (erL ys)=some ws/\cg ks vs ws=some c:=by
 intro ks
 induction ks with
 |nil=>
  intro xs ys c h
  cases xs with
  |nil=>cases ys with
   |nil=>simp only[X.eqAll,oSJ]at h;subst h;exact⟨[],[],rfl,rfl,rfl⟩
   |cons=>simp[X.eqAll]at h
  |cons=>simp[X.eqAll]at h
 |cons f ks ih=>
  intro xs ys c h
  cases xs with
  |nil=>cases f<;>simp[X.eqAll]at h
  |cons x xs=>cases ys with
   |nil=>cases f<;>simp[X.eqAll]at h
   |cons y ys=>
    cases x with
    |d t a=>cases y with
     |d u b=>
      cases f with
      |i=>cases t with
       |int k=>cases u with
        |int k'=>
         simp only[X.eqAll]at h;split at h
         ·rename_i hk;subst hk;obtain⟨c',h1,rfl⟩:=dV h;obtain⟨vs,ws,e1,e2,e3⟩:=ih h1;refine⟨.int k' a::vs,.int k' b::ws,by simp only[erL,er,er1,bT,e1,oMS],by simp only[erL,er,er1,bT,e2,oMS],?_⟩;simp only[cg,if_true,e3,oMS];rfl
         ·simp at h
        |_=>simp[X.eqAll]at h
       |_=>simp[X.eqAll]at h
      |b=>cases t with
       |bool=>cases u with
        |bool=>
         simp only[X.eqAll]at h;obtain⟨c',h1,rfl⟩:=dV h;obtain⟨vs,ws,e1,e2,e3⟩:=ih h1;refine⟨.bool a::vs,.bool b::ws,by simp only[erL,er,er1,bT,e1,oMS],by simp only[erL,er,er1,bT,e2,oMS],?_⟩;simp only[cg,e3,oMS];rfl
        |_=>simp[X.eqAll]at h
       |_=>simp[X.eqAll]at h
      |s=>cases t with
       |str=>cases u with
        |str=>
         simp only[X.eqAll]at h;obtain⟨c',h1,rfl⟩:=dV h;obtain⟨vs,ws,e1,e2,e3⟩:=ih h1;refine⟨.string a::vs,.string b::ws,by simp only[erL,er,er1,bT,e1,oMS],by simp only[erL,er,er1,bT,e2,oMS],?_⟩;simp only[cg,e3,oMS];rfl
        |_=>simp[X.eqAll]at h
       |_=>simp[X.eqAll]at h
     |_=>cases f<;>simp[X.eqAll]at h
    |_=>cases f<;>simp[X.eqAll]at h
theorem xG{f:Opd->XM den Option Y (XV den)}{g:Opd->SP β}{e:XV den->β}(h:∀x,Sim (f x) (g x) e):∀l:List Opd,Sim (X.mapM' f l) (Ht g l) (List.map e):=by
 intro l
 induction l with
 |nil=>exact .ret rfl
 |cons x l ih=>exact(h x).bind λy=>ih.bind λl'=>.ret rfl
def IU(x:XV den):Value:=match x with|.d (.int k) n=>.int k n|_=>undef
theorem AS(t:XV den):Sim (Y:=Y) (X.intOf bp t) (nC (er t)) IU:=by
 cases t with
 |d t x=>cases t with
  |int k=>exact .ret rfl
  |_=>exact .fail
 |_=>exact .fail
theorem D6{mx:Bool}{k:IntKind}:∀{r:List (XV den)}{a m:Int},X.mmAll bp mx k a r=some m->ot mx k a (r.map IU)=some m:=by
 intro r
 induction r with
 |nil=>intro a m h;exact h
 |cons x r ih=>
  intro a m h
  cases x with
  |d t b=>cases t with
   |int k'=>
    simp only[X.mmAll]at h;split at h
    ·rename_i hk;subst hk;have:=ih h;simp[IU,ot];exact this
    ·simp at h
   |_=>simp[X.mmAll]at h
  |_=>simp[X.mmAll]at h
theorem AZ(t:XV den):Sim (Y:=Y) (X.capOf bp t) (match er t with|.ptr p vs=>.ret (.ptr p vs)|.ip cs=>.ret (.ip cs)|.v x=>.ret (.v x)|.sl c=>.ret (.sl c)|_=>.fail) er:=by
 have U3:Sim (Y:=Y) (if X.okCellX t && !X.isOwX t then X.ret t else X.fail bp) (match er t with|.ptr p vs=>.ret (.ptr p vs)|.ip cs=>.ret (.ip cs)|.v x=>.ret (.v x)|.sl c=>.ret (.sl c)|_=>.fail) er:=by
  refine Sim.ite (λh=>?_) λ_=>.fail;simp at h
  rcases iZ h.1 h.2 with⟨y,hy⟩|⟨c,hc⟩
  ·rw[hy];exact .ret hy
  ·rw[hc];exact .ret hc
 cases t with
 |ptr p vs=>exact .ret rfl
 |ip cs=>exact .ret rfl
 |_=>exact U3
theorem Ec:∀{t:CT}{l r:List (XV den)}{x:den t},X.joinX bp t l=some (x,r)->erL l=enc t x++erL r:=by
 have one:∀{u:CT}(hu:X.oneT u=true){l r:List (XV den)}{x:den u},X.joinC bp u l=some (x,r)->erL l=enc u x++erL r:=by
  intro u hu l r x h;unfold X.joinC at h;split at h
  ·rename_i t y r';have ⟨z,h1,h2⟩:=dV h
   injection h2 with h2 h3
   subst h2;subst h3;rw[l6 hu,yG h1];rfl
  ·simp at h
 intro t
 induction t with
 |pair a b Zg Zb=>
  intro l r x h;simp[X.joinX]at h;split at h
  ·rename_i x1 r1 h1;split at h
   ·rename_i y1 r2 h2
    injection h with h
    injection h with h h3
    subst h;subst h3;rw[Zg h1,Zb h2,<- List.append_assoc];rfl
   ·simp at h
  ·simp at h
 |nat=>intro l r x h;simp[X.joinX]at h
 |int k=>intro l r x h;exact one rfl h
 |bool=>intro l r x h;exact one rfl h
 |str=>intro l r x h;exact one rfl h
 |row o t=>intro l r x h;exact one rfl h
 |nilr o=>intro l r x h;exact one rfl h
theorem r7{t:CT}{l:List (XV den)}{x:den t}(h:X.joinOne bp t l=some x):erL l=enc t x:=by
 unfold X.joinOne at h;split at h
 ·rename_i y h1
  injection h with h
  subst h;rw[Ec h1];simp[erL]
 ·simp at h
theorem zK{t:CT}:∀{ls:List (List (XV den))}{xs:List (den t)},X.joinAll bp t ls=some xs->ls.map erL=xs.map (enc t):=by
 intro ls
 induction ls with
 |nil=>intro xs h;simp[X.joinAll]at h;subst h;rfl
 |cons l ls ih=>
  intro xs h;simp[X.joinAll]at h;split at h
  ·rename_i x xs' h1 h2
   injection h with h
   subst h;simp only[List.map_cons];rw[r7 h1,ih h2]
  ·simp at h
theorem DQ{Zr:Option CT}{ls:List (List (XV den))}{v:XV den}(h:X.rowOf bp Zr ls=some v):er v=.ow (ls.map erL):=by
 unfold X.rowOf at h;split at h
 ·injection h with h;subst h;rfl
 ·split at h
  ·obtain⟨es,h1,rfl⟩:=dV h;rw[zK h1];rfl
  ·simp at h
theorem sC{Zr:Option CT}{n:Nat}{l:List (XV den)}{v:XV den}(h:X.repOf bp Zr n l=some v):er v=.ow (List.replicate n (erL l)):=by
 unfold X.repOf at h;split at h
 ·obtain⟨e,h1,rfl⟩:=dV h;rw[r7 h1];show TV.ow (List.map _ (List.replicate n e))=_
  simp_all
 ·simp at h
theorem mb(t:CT)(xs:List (den t)):(List.map (enc t) xs).all (λe=>e.length==fm t)=true:=by
 simp[cz]
theorem EN{sz bytes:Nat}{c c2:List (List TV)}(h1:c.all (λe=>e.length==sz)=true)(h2:c2.all (λe=>e.length==sz)=true)(h:cn bytes c.length c2.length=true):
 ((c++c2).all (λe=>e.length==sz)&&decide (c.length+c2.length<=1099511627776)&&decide ((c.length+c2.length)*bytes<=140737488355328))=true:=by
 rw[List.all_append,h1,h2];simpa[cn]using h
theorem At(d sz bytes:Nat)(Zr:Option CT)(s x:XV den):Sim (Y:=Y) (X.appX bp d sz bytes Zr s x) (match er s,er x with
 |.ow c,.ow c2=>if(c++c2).all (λe=>e.length==sz)&&decide (c.length+c2.length<=1099511627776)&&decide ((c.length+c2.length)*bytes<=140737488355328)then inst d false [.ow (c++c2)]else .fail
 |.ow c,.sl c2=>if(c++c2).all (λe=>e.length==sz)&&decide (c.length+c2.length<=1099511627776)&&decide ((c.length+c2.length)*bytes<=140737488355328)then inst d false [.ow (c++c2)]else .fail
 |_,_=>.fail) id:=by
 have ZP:∀{t:CT}{c c3:List (den t)}{c' U1:List (List TV)}{a:XV den},fm t=sz\/(c'=[]/\U1=[])->c'=c.map (enc t)->U1=c3.map (enc t)->er a=.ow (c'++U1)->cn bytes c'.length U1.length=true ->
  Sim (Y:=Y) (X.inst bp d false [a]) (if(c'++U1).all (λe=>e.length==sz)&&decide (c'.length+U1.length<=1099511627776)&&decide ((c'.length+U1.length)*bytes<=140737488355328)then inst d false [.ow (c'++U1)]else .fail) id:=by
  intro t c c3 c' U1 a hsz e1 e2 ea hok;rw[oIP]
  ·exact fB d false (by simp only[erL,ea])
  ·refine EN ?_ ?_ hok
   ·rcases hsz with hsz|⟨h1,h2⟩
    ·rw[e1,<- hsz];exact mb t c
    ·rw[h1];rfl
   ·rcases hsz with hsz|⟨h1,h2⟩
    ·rw[e2,<- hsz];exact mb t c3
    ·rw[h2];rfl
 cases s with
 |d ts c=>cases ts with
  |row ow t=>cases ow with
   |false=>exact .fail
   |true=>cases x with
    |d tx c2=>cases tx with
     |row o t2=>
      refine Sim.ite (λhsz=>Sim.opt λc3 h3=>Sim.br λhok=>?_) λ_=>.fail;have h4:=xo h3;have hok:cn bytes (List.length c) (List.length c2)=true:=hok
      have h5:List.map (enc t2) (c2:List (den t2))=List.map (enc t) (c3:List (den t)):=by
       cases o with
       |true=>
        have h6:=h4
        injection h6 with h6
        injection h6 with h6
        exact h6.symm
       |false=>
        have h6:=h4
        injection h6 with h6
        injection h6 with h6
        exact h6.symm
      cases o<;>exact ZP (t:=t) (c:=c) (c3:=c3) (.inl hsz) rfl h5 (by show TV.ow (List.map (enc t) (List.append c c3))=_;rw[h5,<- List.map_append];rfl) (by simpa using hok)
     |nilr o=>
      refine Sim.ite (λhsz=>Sim.br λhok=>?_) λ_=>.fail;have hok:cn bytes (List.length c) 0=true:=hok;cases o<;>exact ZP (t:=t) (c:=c) (c3:=[]) (.inl hsz) rfl rfl (by simp[er,er1]) (by simpa using hok)
     |_=>exact .fail
    |_=>exact .fail
  |nilr ow=>cases ow with
   |false=>exact .fail
   |true=>cases x with
    |d tx c2=>cases tx with
     |row o t2=>
      refine Sim.ite (λhsz=>Sim.opt λc3 h3=>Sim.br λhok=>?_) λ_=>.fail;have h4:=xo h3;have hok:cn bytes 0 (List.length c2)=true:=hok
      have h5:List.map (enc t2) (c2:List (den t2))=List.map (enc (X.resT Zr t2)) (c3:List (den (X.resT Zr t2))):=by
       cases o with
       |true=>
        have h6:=h4
        injection h6 with h6
        injection h6 with h6
        exact h6.symm
       |false=>
        have h6:=h4
        injection h6 with h6
        injection h6 with h6
        exact h6.symm
      cases o<;>exact ZP (t:=t2) (c:=[]) (c3:=c2) (.inl hsz) rfl rfl (by show TV.ow (List.map (enc (X.resT Zr t2)) (List.append [] c3))=_;rw[h5];rfl) (by simpa using hok)
     |nilr o=>
      refine Sim.br λhok=>?_;have hok:cn bytes 0 0=true:=hok;cases o<;>exact ZP (t:=.bool) (c:=[]) (c3:=[]) (.inr ⟨rfl,rfl⟩) rfl rfl rfl hok
     |_=>exact .fail
    |_=>exact .fail
  |_=>exact .fail
 |_=>exact .fail
end
section
variable {α β γ δ Y:Type}
theorem pa{x:Opd}{σ:XS den}{k:XV den->XS den->Option Y}{y:Y}(h:X.opd bp x σ k=some y):∃t σ',(opd x).run (erS σ)=some (er t,erS σ)/\erS σ'=erS σ/\iR σ σ' ((opd x).foot (erS σ))/\k t σ'=some y:=by
 have ⟨t,σ',h1,h2,h3⟩:=lL x σ k y h
 have e:erS σ'=erS σ:=by
  cases x with
  |t i=>simp[opd,SP.run]at h1;exact h1.2.symm
  |c v=>simp[opd,SP.run]at h1;exact h1.2.symm
  |f f=>simp[opd,SP.run]at h1;exact h1.2.symm
 rw[e]at h1;exact⟨t,σ',h1,e,h2,h3⟩
theorem pi{t:CT}(h:X.flat1 t=true):∀x:den t,∃v,er (.d t x)=.v v:=by
 cases t<;>simp[X.flat1]at h
 all_goals exact λx=>⟨_,rfl⟩
theorem DX{d:Nat}{tc ta tb:XV den}{σ:XS den}{k:Unit->XS den->Option Y}{y:Y}(h:X.pickX bp d tc ta tb σ k=some y):∃c v t,er tc=.v (.bool c)/\er (if c then ta else tb)=.v v/\er t=.v v/\X.wr bp d t σ k=some y:=by
 unfold X.pickX at h;split at h
 ·rename_i c k1 x k2 z;split at h
  ·rename_i hk;subst hk;refine⟨c,.int k2 (bif c then x else z),_,rfl,?_,rfl,h⟩;cases c<;>rfl
  ·cases h
 ·rename_i c x z;refine⟨c,.bool (bif c then x else z),_,rfl,?_,rfl,h⟩;cases c<;>rfl
 ·rename_i c x z;refine⟨c,.string (bif c then x else z),_,rfl,?_,rfl,h⟩;cases c<;>rfl
 ·split at h
  ·rename_i hf
   rename den .bool=>c
   cases c with
   |true=>exact⟨true,_,_,rfl,(pi hf _).choose_spec,(pi hf _).choose_spec,h⟩
   |false=>cases h
  ·cases h
 ·split at h
  ·rename_i hf
   rename den .bool=>c
   cases c with
   |false=>exact⟨false,_,_,rfl,(pi hf _).choose_spec,(pi hf _).choose_spec,h⟩
   |true=>cases h
  ·cases h
 ·cases h
theorem Fu(HT:List (Nat×CT))(d:Nat)(c a b:Opd):Sim (Y:=Y) (X.ev1 bp HT d (.pick c a b)) (ev1 d (.pick c a b)) id:=by
 intro σ k y hk;obtain⟨tc,σ1,r1,e1,n1,hk⟩:=pa (show X.opd bp c σ (λtc σ1=>X.opd bp a σ1 λta σ2=>X.opd bp b σ2 λtb σ3=>X.pickX bp d tc ta tb σ3 k)=some y from hk);obtain⟨ta,σ2,r2,e2,n2,hk⟩:=pa hk;obtain⟨tb,σ3,r3,e3,n3,hk⟩:=pa hk;obtain⟨cv,v,t,h1,h2,h3,hk⟩:=DX hk;obtain⟨u,σ',r4,n4,hk⟩:=bU d h3 σ3 k y hk
 have Ma:erS σ3=erS σ:=by rw[e3,e2,e1]
 have hx:(opd (if cv then a else b)).run (erS σ)=some (.v v,erS σ)/\iR σ1 σ3 ((opd (if cv then a else b)).foot (erS σ)):=by
  rw[e1]at r2 n2;rw[e2,e1]at r3 n3
  cases cv with
  |true=>exact⟨by simp_all,⟨λx hx=>n3.r0 x (n2.r x hx),λx hx=>n3.w0 x (n2.w x hx),λx hx=>n3.r0 x (n2.r0 x hx),λx hx=>n3.w0 x (n2.w0 x hx)⟩⟩
  |false=>exact⟨by simp_all,⟨λx hx=>n3.r x hx,λx hx=>n3.w x hx,λx hx=>n3.r0 x (n2.r0 x hx),λx hx=>n3.w0 x (n2.w0 x hx)⟩⟩
 obtain⟨ZZ,Wv⟩:=hx
 have rc:(opd c).run (erS σ)=some (.v (.bool cv),erS σ):=by rw[r1,h1]
 refine⟨(),σ',?_,?_,hk⟩
 ·simp only[ev1];rw[SP.run_bind,rc];simp;rw[SP.run_bind,ZZ]
  simp_all
 ·simp only[ev1];rw[bS _ _ rc];simp only;rw[bS _ _ ZZ];rw[Ma]at n4;refine⟨λx hx=>?_,λx hx=>?_,λx hx=>n4.r0 x (Wv.r0 x (n1.r0 x hx)),λx hx=>n4.w0 x (Wv.w0 x (n1.w0 x hx))⟩
  ·rcases List.mem_append.1 hx with hx|hx
   ·exact n4.r0 x (Wv.r0 x (n1.r x hx))
   ·rcases List.mem_append.1 hx with hx|hx
    ·exact n4.r0 x (Wv.r x hx)
    ·exact n4.r x hx
  ·rcases List.mem_append.1 hx with hx|hx
   ·exact n4.w0 x (Wv.w0 x (n1.w x hx))
   ·rcases List.mem_append.1 hx with hx|hx
    ·exact n4.w0 x (Wv.w x hx)
    ·exact n4.w x hx
theorem B4{n:Option Nat}{cs:List (XV den)}{t:XV den}(h:X.loadIp n cs=some t):loadIp n (erL cs)=some (er t):=by
 cases n with
 |none=>
  cases cs with
  |nil=>simp[X.loadIp]at h
  |cons x cs=>
   have ZP:(if X.okCellX x && !X.isOwX x then some x else none)=some t->loadIp none (erL (x::cs))=some (er t):=λh=>by
    split at h
    ·rename_i hc
     injection h with h
     subst h;simp at hc
     rcases iZ hc.1 hc.2 with⟨y,hy⟩|⟨c,hc⟩
     ·simp only[loadIp,erL,hy]
     ·simp only[loadIp,erL,hc]
    ·simp at h
   cases x with
   |ip l=>simp only[X.loadIp,oSJ]at h;subst h;rfl
   |fn f l=>simp only[X.loadIp,oSJ]at h;subst h;rfl
   |_=>exact ZP h
 |some n=>
  simp only[X.loadIp]at h;split at h
  ·rename_i hc
   injection h with h
   subst h;simp only[oBA,oDE]at hc;simp only[loadIp];rw[oIP]
   ·simp only[er,kU]
   ·simp only[oBA,oDE];refine⟨by rw[cT];exact hc.1,?_⟩;rw[<- kU,fH,List.all_map,List.all_eq_true];intro x hx;have:=List.all_eq_true.1 hc.2 x hx;simp at this;simp
    rcases iZ this.1 this.2 with⟨y,hy⟩|⟨c,hc⟩
    ·rw[hy]
    ·rw[hc]
  ·simp at h
theorem qf:∀{t:CT}(x:den t),X.flatT t=true->∃vs,bT (enc t x)=some vs/\vs.length=fm t/\(vs.all dZ=true)/\enc t x=vs.map TV.v/\0<fm t:=by
 intro t
 induction t with
 |int k=>intro x _;exact⟨[.int k x],rfl,rfl,rfl,rfl,Nat.one_pos⟩
 |bool=>intro x _;exact⟨[.bool x],rfl,rfl,rfl,rfl,by decide⟩
 |str=>intro x _;exact⟨[.string x],rfl,rfl,rfl,rfl,by decide⟩
 |pair a b Zg Zb=>
  intro x h;simp only[X.flatT,oBA]at h;obtain⟨vs,e1,e2,e3,e4,e5⟩:=Zg x.1 h.1;obtain⟨ws,f1,f2,f3,f4,f5⟩:=Zb x.2 h.2;refine⟨vs++ws,?_,by simp[e2,f2,fm],by simp_all,by show enc a x.1++enc b x.2=_;rw[e4,f4];simp,by simp[fm];omega⟩;show bT (enc a x.1++enc b x.2)=_;rw[e4,f4]
  have:∀l:List Value,bT (l.map TV.v)=some l:=by
   intro l
   induction l with
   |nil=>rfl
   |cons y l ih=>simp[bT,ih]
  rw[<- List.map_append,this]
 |_=>intro x h;simp[X.flatT]at h
theorem BN(sz:Nat)(h0:0<sz):∀(vs:List Value)(c:List (List TV))(lo j:Nat)(rest:List Value),j+vs.length=sz->(∀el,c[lo]?=some el->el.length=sz)->i4 sz c (lo*sz+j) (vs++rest)=i4 sz (c.modify lo λel=>el.take j++vs.map TV.v) ((lo+1)*sz) rest:=by
 intro vs
 induction vs with
 |nil=>
  intro c lo j rest hj Y4
  have hj:j=sz:=by simpa using hj
  subst hj;simp
  have e:(c.modify lo λel=>el.take j)=c:=by
   apply List.ext_getElem?;intro i;rw[List.getElem?_modify];by_cases h:lo=i
   ·subst h
    cases hc:c[lo]? with
    |none=>rfl
    |some el=>simp only[if_true];show some (el.take j)=some el;rw[List.take_of_length_le (by rw[Y4 el hc];exact Nat.le_refl _)]
   ·simp only[oIN h];cases c[i]?<;>rfl
  rw[e,Nat.succ_mul]
 |cons v vs ih=>
  intro c lo j rest hj Y4;simp only[oLC]at hj
  have hjs:j<sz:=by omega
  show i4 sz (c.modify ((lo*sz+j)/sz) λel=>el.modify ((lo*sz+j)%sz) λ_=>.v v) (lo*sz+j+1) (vs++rest)=_
  have e1:(lo*sz+j)/sz=lo:=by rw[Nat.mul_comm,Nat.mul_add_div h0,Nat.div_eq_of_lt hjs];rfl
  have e2:(lo*sz+j)%sz=j:=by rw[Nat.mul_comm,Nat.mul_add_mod,Nat.mod_eq_of_lt hjs]
  rw[e1,e2,show lo*sz+j+1=lo*sz+(j+1) by omega]
  have Uh:∀el,(c.modify lo λel=>el.modify j λ_=>.v v)[lo]?=some el->el.length=sz:=by simp_all
  rw[ih _ lo (j+1) rest (by omega) Uh];congr 1;apply List.ext_getElem?;intro i;simp only[List.getElem?_modify];by_cases h:lo=i
  ·subst h;simp only[if_true]
   cases hc:c[lo]? with
   |none=>rfl
   |some el=>
    simp only[Option.map_eq_map,oMS,oSJ];have hl:=Y4 el hc;apply List.ext_getElem?;intro m;simp only[List.map_cons];by_cases hm:m<j
    ·rw[List.getElem?_append_left (by rw[oLT,oLM];omega),List.getElem?_append_left (by rw[oLT];omega),List.getElem?_take,List.getElem?_take,oIP (by omega),oIP (by omega),List.getElem?_modify]
     have:¬j=m:=by omega
     simp only[this,if_false];simp
    ·by_cases hm2:m=j
     ·subst hm2;rw[List.getElem?_append_left (by rw[oLT,oLM];omega),List.getElem?_append_right (by rw[oLT];omega),List.getElem?_take,oIP (by omega),List.getElem?_modify,oLT]
      have:m-min m el.length=0:=by omega
      rw[this]
      have h3:m<el.length:=by omega
      rw[oGE h3];simp
     ·rw[List.getElem?_append_right (by rw[oLT,oLM];omega),List.getElem?_append_right (by rw[oLT];omega),oLT,oLT,oLM]
      have:m-min j el.length=(m-min (j+1) el.length)+1:=by omega
      rw[this,List.getElem?_cons_succ]
  ·simp only[oIN h];cases c[i]?<;>rfl
theorem zx{t:CT}(hf:X.flatT t=true):∀(ys xs:List (den t))(lo:Nat)(vals:List Value),bT ((ys.map (enc t)).flatten)=some vals->lo+ys.length<=xs.length->i4 (fm t) (xs.map (enc t)) (lo*fm t) vals=(xs.take lo++ys++xs.drop (lo+ys.length)).map (enc t):=by
 intro ys
 induction ys with
 |nil=>
  intro xs lo vals h hl;simp only[List.map_nil,List.flatten_nil,bT,oSJ]at h;subst h;simp[i4]
 |cons y ys ih=>
  intro xs lo vals h hl;simp only[oLC]at hl;obtain⟨vs,e1,e2,e3,e4,e5⟩:=qf y hf
  obtain⟨ws,h2,rfl⟩:∃ws,bT ((ys.map (enc t)).flatten)=some ws/\vals=vs++ws:=by
   simp only[List.map_cons,List.flatten_cons,e4]at h
   have:∀(l:List Value)(r:List TV),bT (l.map TV.v++r)=(bT r).map (l++·):=by
    intro l r
    induction l with
    |nil=>simp
    |cons z l ih=>simp only[List.map_cons,List.cons_append,bT,ih];cases bT r<;>rfl
   rw[this]at h;obtain⟨ws,h3,h4⟩:=dV h
   simp_all
  have:=BN (fm t) e5 vs (xs.map (enc t)) lo 0 ws (by omega) (λel Y4=>by
   rw[List.getElem?_map]at Y4
   cases hx:xs[lo]? with
   |none=>rw[hx]at Y4;simp at Y4
   |some z=>rw[hx]at Y4;simp only[oMS,oSJ]at Y4;rw[<- Y4,cz])
  rw[Nat.add_zero]at this;rw[this]
  have e6:((xs.map (enc t)).modify lo λel=>el.take 0++vs.map TV.v)=(xs.set lo y).map (enc t):=by
   apply List.ext_getElem?;intro i;by_cases hi:lo=i
   ·subst hi
    have hlt:lo<xs.length:=by omega
    simp[hlt,e4]
   ·simp[hi]
  rw[e6,ih (xs.set lo y) (lo+1) ws h2 (by rw[List.length_set];omega)];congr 1;rw[List.take_set,List.drop_set,oIP (by omega)]
  have:(xs.take (lo+1)).set lo y=xs.take lo++[y]:=by
   rw[List.take_succ_eq_append_getElem (by omega:lo<xs.length),List.set_append_right _ _ (by rw[oLT];omega)];congr 1
   have:lo-(xs.take lo).length=0:=by rw[oLT];omega
   rw[this];rfl
  rw[this];simp;rw[show lo+1+ys.length=lo+(ys.length+1) by omega]
end
section
variable {α β γ δ Y:Type}
theorem px{c:Bool}{m m':XM den Option Y α}{s:SP β}{f:α->β}(h:c=true->Sim m s f)(h':c=false->Sim m' s f):Sim (X.forkM bp c m m') s f:=by
 intro σ k y hk
 cases c with
 |true=>exact h rfl σ k y hk
 |false=>exact h' rfl σ k y hk
def Ab(v:XV den):List (List TV):=match er v with|.sl c=>c|.ow c=>c|_=>[]
theorem rF(t:XV den):Sim (Y:=Y) (X.contentOf bp t) (contentOf (er t)) Ab:=by
 cases t with
 |d t x=>cases t with
  |row o t=>cases o with
   |false=>exact .ret rfl
   |true=>exact .fail
  |nilr o=>cases o<;>exact .ret rfl
  |_=>exact .fail
 |pk p vs=>
  refine(cS p _ vs).bind λ_=>(fC p).bind λt=>?_
  cases t with
  |d t x=>cases t with
   |row o t=>cases o with
    |true=>exact .ret rfl
    |false=>exact .fail
   |nilr o=>cases o with
    |true=>exact .ret rfl
    |false=>exact .fail
   |_=>exact .fail
  |_=>exact .fail
 |pw p vs sz lo n=>
  refine(cS p _ vs).bind λ_=>(fC p).bind λt=>?_
  cases t with
  |d t x=>cases t with
   |row o t=>cases o with
    |true=>
     refine .ret ?_;show List.map (enc t) ((List.drop lo x).take n)=((List.map (enc t) x).drop lo).take n
     simp_all
    |false=>exact .fail
   |_=>exact .fail
  |_=>exact .fail
 |_=>exact .fail
theorem Bv{t:CT}(hf:X.flatT t=true):∀zs:List (den t),∃vals,bT ((zs.map (enc t)).flatten)=some vals/\vals.all dZ=true/\(zs≠[]->∃v vs,vals=v::vs)/\(zs=[]->vals=[]):=by
 intro zs
 induction zs with
 |nil=>exact⟨[],rfl,rfl,λh=>absurd rfl h,λ_=>rfl⟩
 |cons z zs ih=>
  obtain⟨ws,h1,h2,_⟩:=ih;obtain⟨vs,e1,e2,e3,e4,e5⟩:=qf z hf
  have:∀(l:List Value)(r:List TV),bT (l.map TV.v++r)=(bT r).map (l++·):=by
   intro l r
   induction l with
   |nil=>simp
   |cons z l ih=>simp[List.map_cons,bT,ih];cases bT r<;>rfl
  refine⟨vs++ws,?_,by simp_all,λ_=>?_,λh=>by simp at h⟩
  ·simp_all
  ·cases vs with
   |nil=>simp_all
   |cons v vs=>simp_all
theorem Cd{t:CT}(hf:X.flatT t=true)(x:den t):(enc t x).all isV=true:=by
 have ⟨vs,_,_,_,e4,_⟩:=qf x hf;rw[e4,List.all_map,List.all_eq_true];intro y _;rfl
theorem CI{t:CT}(hf:X.flatT t=true)(xs ys:List (den t))(lo n:Nat)(Yv:lo+min ys.length n<=xs.length):
 EA (fm t) (xs.map (enc t)) (ys.map (enc t)) lo n=if 0<min ys.length n then some (min ys.length n,some ((fS xs lo (min ys.length n) ys).map (enc t)))else some (min ys.length n,none):=by
 obtain⟨vals,h1,h2,h3,h4⟩:=Bv hf (ys.take (min ys.length n))
 have e5:0<fm t:=by
  clear h1 h2 h3 h4 Yv
  induction t with
  |pair a b Zg Zb=>
   simp only[X.flatT,oBA]at hf;simp only[fm];have:=Zg hf.1 [] [];omega
  |int k=>exact Nat.one_pos
  |bool=>exact Nat.one_pos
  |str=>exact Nat.one_pos
  |_=>simp[X.flatT]at hf
 unfold EA;rw[List.length_map,<- List.map_take,h1];by_cases hm:0<min ys.length n
 ·rw[oIP hm];obtain⟨v,vs,hv⟩:=h3 (by intro h;have:=congrArg List.length h;rw[oLT,List.length_nil]at this;omega);rw[hv];simp only;rw[oIP,<- hv]
  ·have hp:=zx hf (ys.take (min ys.length n)) xs lo vals h1 (by rw[oLT];omega);rw[hp]
   have e:(List.take (min ys.length n) ys).length=min ys.length n:=by rw[oLT];omega
   rw[e];rfl
  ·simp only[oBA,oDE];refine⟨⟨⟨⟨⟨e5,mb t xs⟩,mb t ys⟩,by rw[List.length_map];exact Yv⟩,?_⟩,by rw[<- hv];exact h2⟩;rw[<- List.map_drop,<- List.map_take,List.all_map,List.all_eq_true];intro x _;exact Cd hf x
 ·rw[oIN hm]
  have:ys.take (min ys.length n)=[]:=by simp_all
  rw[h4 this];rw[oIP];simp only[oBA,oDE];exact⟨e5,mb t ys⟩
theorem E1(d sz:Nat)(p:XP den)(lo:Nat)(n:Option Nat)(tv c2:XV den):Sim (Y:=Y) (X.cpyX bp d sz p lo n tv c2) (match bJ (er tv) p.hops with|some (.ow c)=>tN d (erP p) (er tv) (EA sz c (Ab c2) lo (n.getD c.length))|_=>.fail) id:=by
 refine o9 λv hv=>?_;rw[hv]
 cases v with
 |d tt x=>cases tt with
  |row o t=>cases o with
   |false=>exact .fail
   |true=>cases c2 with
    |d t2 y=>cases t2 with
     |row o2 t2=>
      by_cases hc:lf t2 t=true/\fm t=sz/\X.flatT t=true
      ·have he:=mV hc.1;subst he;show Sim (if h:lf t2 t2=true/\fm t2=sz/\X.flatT t2=true then _ else _) _ id;rw[dif_pos hc];refine Sim.opt λYk htv=>Sim.br λhok=>?_
       have hok:pC lo (lo+min (List.length (y:List (den t2))) (n.getD (List.length (x:List (den t2))))) (List.length (x:List (den t2)))=true:=by
        have h9:=hok;cases n<;>exact h9
       have Yv:lo+min (List.length (y:List (den t2))) (n.getD (List.length (x:List (den t2))))<=List.length (x:List (den t2)):=by
        simp only[pC,oBA,oDE]at hok;exact hok.2
       have Sy:Ab (.d (.row o2 t2) y:XV den)=List.map (enc t2) (y:List (den t2)):=by cases o2<;>rfl
       have hrow:er (.d (.row true t2) x:XV den)=.ow (List.map (enc t2) (x:List (den t2))):=rfl;rw[hrow,Sy];simp only[List.length_map];rw[<- hc.2.1,CI hc.2.2 x y lo _ Yv];have hset:=F8 htv;refine px (λhb=>?_) λhb=>?_
       ·have hb:Nat.blt 0 (min (List.length (y:List (den t2))) (n.getD (List.length (x:List (den t2)))))=true:=by cases n<;>exact hb
        rw[oIP (by simp_all)];refine Sim.wrC ?_ (bU d ?_)
        ·rw[hset];cases n<;>rfl
        ·cases n<;>rfl
       ·have hb:Nat.blt 0 (min (List.length (y:List (den t2))) (n.getD (List.length (x:List (den t2)))))=false:=by cases n<;>exact hb
        rw[oIN (by intro h;rw[Bool.eq_false_iff]at hb;exact hb (by simpa using h))];refine bU d ?_;cases n<;>rfl
      ·show Sim (if h:lf t2 t=true/\fm t=sz/\X.flatT t=true then _ else _) _ id;rw[dif_neg hc];exact .fail
     |nilr o2=>
      refine Sim.ite (λh0=>?_) λ_=>.fail
      have Sy:Ab (.d (.nilr o2) y:XV den)=[]:=by cases o2<;>rfl
      have hrow:er (.d (.row true t) x:XV den)=.ow (List.map (enc t) (x:List (den t))):=rfl;rw[hrow,Sy]
      have:EA sz (List.map (enc t) (x:List (den t))) [] lo (n.getD (List.map (enc t) (x:List (den t))).length)=some (0,none):=by
       simp[EA,bT,h0]
      simp only[this];exact bU d rfl
     |_=>exact .fail
    |_=>exact .fail
  |_=>exact .fail
 |_=>exact .fail
end
section
variable {α β γ δ Y:Type}
theorem bu{x:Opd}{g:XV den->XM den Option Y γ}{h:TV->SP δ}{f:γ->δ}(H:∀t,Sim (g t) (h (er t)) f):Sim (X.bind (X.opd bp x) g) ((opd x).bind h) f:=(lL x).bind H
theorem AY(k:Nat){s:SP β}{f:α->β}:∀(n:Nat)(g:Nat->XM den Option Y α)(i:Nat),(∀j,i<=j->j<i+n->k=j->Sim (g j) s f)->Sim (X.caseM bp k n g i) s f:=by
 intro n
 induction n with
 |zero=>intro g i _;exact .fail
 |succ n ih=>
  intro g i h;refine px (λhb=>h i (Nat.le_refl _) (by omega) ?_) λhb=>ih g (i+1) λj h1 h2 h3=>h j (by omega) (by omega) h3;have hb:Nat.beq k i=true:=hb
  simp_all
theorem HO(HT:List (Nat×CT))(d:Nat)(op:TOp):Sim (Y:=Y) (X.ev1 bp HT d op) (ev1 d op) id:=by
 cases op with
 |mov x=>
  refine bu λt=>?_
  cases t with
  |d t y=>
   cases ho:X.isOwT t with
   |true=>
    obtain⟨c,hc⟩:=iD (v:=.d t y) ho;rw[hc];show Sim (if X.isOwT t then _ else _) _ id;rw[oIP ho]
    cases x with
    |c v=>exact fB d false (by simp only[erL,hc])
    |_=>exact .fail
   |false=>
    show Sim (if X.isOwT t then _ else _) _ id;rw[oIN (by rw[ho];simp)]
    have h1:gS (er (.d t y))=false:=by rw[mL];exact ho
    cases t with
    |row o t=>cases o<;>first|exact bU d rfl|simp[X.isOwT]at ho
    |nilr o=>cases o<;>first|exact bU d rfl|simp[X.isOwT]at ho
    |_=>exact bU d rfl
  |agg l=>
   show Sim (if l.any X.isOwX then _ else _) (if(erL l).any gS then .fail else wr d (.agg (erL l))) id;rw[Fr];refine Sim.ite (λ_=>.fail) λh=>?_;rw[oIN h];exact bU d rfl
  |gap=>exact .fail
  |_=>exact bU d rfl
 |asn mv x=>
  refine bu λt=>?_
  cases t with
  |ptr p vs=>exact bU d rfl
  |ip cs=>exact bU d rfl
  |fn f cap=>exact bU d rfl
  |d t y=>
   cases t with
   |row o t=>cases o<;>exact(jU mv (.d _ y)).bind λl=>fB d l.2 rfl
   |nilr o=>cases o<;>exact(jU mv (.d _ y)).bind λl=>fB d l.2 rfl
   |_=>exact(jU mv (.d _ y)).bind λl=>fB d l.2 rfl
  |_=>exact(jU mv _).bind λl=>fB d l.2 rfl
 |pick c a b=>exact Fu HT d c a b
 |alloc z=>
  refine Sim.ite (λh=>?_) λ_=>.fail;show Sim _ (if(z.map bQ).all bW then _ else _) id;rw[oIP (i5 h)];exact Sim.new (kX z) (Sim.rdV λg=>bU d rfl)
 |box n mv x=>
  refine bu λt=>?_;rw[m6];refine(iV mv _).bind λl=>Sim.ite (λh=>?_) λ_=>.fail;rw[oIP (by rw[cT];exact h)];exact Sim.new rfl (Sim.rdV λg=>bU d rfl)
 |boxi n x=>
  refine bu λt=>?_;refine Sim.ite (λh=>?_) λ_=>Sim.ite (λh=>?_) λ_=>.fail
  ·rw[oIP (Ee h)];refine Sim.ite (λhn=>?_) λ_=>.fail;rw[oIP hn];exact bU d rfl
  ·rw[oIN (GE h)];rw[m6];refine(iV false _).bind λl=>Sim.opt λl' hl=>Sim.ite (λhn=>?_) λ_=>.fail;rw[oIP (by rw[cT];exact hn)];exact bU d (by simp only[er,td hl])
 |load n a=>
  refine bu λt=>?_
  cases t with
  |ptr p vs=>
   refine(cS p _ vs).bind λ_=>?_
   cases n with
   |none=>exact(AL p).bind λt'=>bU d rfl
   |some n=>exact(uo p n).bind λl=>bU d rfl
  |ip cs=>
   simp only[er]
   cases h:X.loadIp n cs with
   |none=>exact .fail
   |some t=>simp only[B4 h];exact bU d rfl
  |_=>exact .fail
 |store n mv a x=>
  refine bu λta=>?_
  cases ta with
  |ptr p vs=>
   refine bu λtx=>?_;rw[m6];refine(iV mv _).bind λl=>Sim.ite (λh=>?_) λ_=>.fail;rw[oIP (by rw[cT];exact h)];exact(cS p _ vs).bind λ_=>xF p l
  |_=>exact .fail
 |nilc x=>
  refine bu λt=>?_
  cases t with
  |ptr p vs=>exact(cS p _ vs).bind λ_=>bU d rfl
  |ip cs=>exact bU d rfl
  |fn f cap=>exact bU d rfl
  |_=>exact .fail
 |fld off a=>
  refine bu λt=>?_
  cases t with
  |ptr p vs=>
   refine(cS p _ vs).bind λ_=>Sim.ite (λh=>?_) λ_=>.fail;rw[oIP (by rw[<- tJ];exact h)];exact bU d (by simp only[er,wR])
  |ip cs=>
   refine Sim.ite (λh=>?_) λ_=>.fail;show Sim _ (if off<(erL cs).length then _ else _) id;rw[oIP (by rw[cT];exact h)];exact bU d (by simp only[er,mT])
  |_=>exact .fail
 |fldv off n x=>
  refine bu λt=>?_
  cases t with
  |agg l=>
   cases n with
   |none=>
    refine Sim.ite (λh=>?_) λ_=>.fail;show Sim _ (if off<(erL l).length then _ else _) id;rw[oIP (by rw[cT];exact h)];exact bU d (pj l off)
   |some n=>
    refine Sim.ite (λh=>?_) λ_=>.fail;show Sim _ (if off+n<=(erL l).length then _ else _) id;rw[oIP (by rw[cT];exact h)];exact bU d (by simp only[er,kU,mT])
  |_=>exact .fail
 |idx sz x i=>
  refine bu λt=>bu λti=>(fA ti).bind λk=>?_
  cases t with
  |pk p vs=>
   refine(cS p _ vs).bind λ_=>(xH p).bind λt=>?_
   cases t with
   |d tt x=>cases tt with
    |row o t=>cases o with
     |false=>exact .fail
     |true=>
      refine Sim.ite (λh=>?_) λ_=>.fail;refine Sim.get λe he=>?_
      have hk:k<(x:List (den t)).length:=by
       rcases Nat.lt_or_ge k (x:List (den t)).length with h|h
       ·exact h
       ·rw[oGN h]at he;cases he
      show Sim _ (if k<(List.map List.length (List.map (enc t) (x:List (den t)))).length&&(List.map List.length (List.map (enc t) (x:List (den t)))).getD k 0==sz&&decide (0<sz)then _ else _) id;rw[qd,oIP]
      ·exact bU d rfl
      ·simp only[oBA,oDE,beq_iff_eq,List.length_map];refine⟨⟨hk,?_⟩,h.2⟩;rw[oGD,List.getElem?_map,he];simp[cz,h.1]
    |_=>exact .fail
   |gap t x i' o'=>
    refine Sim.ite (λh=>?_) λ_=>.fail;refine Sim.get λe he=>?_
    have hk:k<(x:List (den t)).length:=by
     rcases Nat.lt_or_ge k (x:List (den t)).length with h|h
     ·exact h
     ·rw[oGN h]at he;cases he
    have Qt:(er (.gap t x i' o':XV den)).hd=some (List.map List.length (List.map (enc t) (x:List (den t)))):=qa (hs:=[(i',0,o')]) (by simp);rw[Qt];show Sim _ (if k<(List.map List.length (List.map (enc t) (x:List (den t)))).length&&(List.map List.length (List.map (enc t) (x:List (den t)))).getD k 0==sz&&decide (0<sz)then _ else _) id;rw[qd,oIP]
    ·exact bU d rfl
    ·simp only[oBA,oDE,beq_iff_eq,List.length_map];refine⟨⟨hk,?_⟩,h.2⟩;rw[oGD,List.getElem?_map,he];simp[cz,h.1]
   |_=>exact .fail
  |pw p vs sz' lo n=>
   refine(cS p _ vs).bind λ_=>(fC p).bind λt=>?_
   cases t with
   |d tt x=>cases tt with
    |row o t=>cases o with
     |false=>exact .fail
     |true=>
      refine Sim.ite (λh=>?_) λ_=>.fail;refine Sim.br λhb=>Sim.get λe he=>?_;have hb:Nat.blt k n=true:=hb
      have hb:k<n:=by simpa using hb
      have he:(x:List (den t))[lo+k]?=some e:=he;show Sim _ (if k<n&&((List.map (enc t) (x:List (den t))).getD (lo+k) []).length==sz&&sz'==sz&&decide (0<sz)then _ else _) id;rw[oIP]
      ·exact bU d rfl
      ·simp only[oBA,oDE,beq_iff_eq];refine⟨⟨⟨hb,?_⟩,h.2.2⟩,h.2.1⟩;rw[oGD,List.getElem?_map,he];simp[cz,h.1]
    |_=>exact .fail
   |_=>exact .fail
  |d tt x=>cases tt with
   |row o t=>cases o with
    |true=>exact .fail
    |false=>
     refine Sim.ite (λh=>?_) λ_=>.fail;refine Sim.get λe he=>?_;have he:(x:List (den t))[k]?=some e:=he
     have hk:k<(x:List (den t)).length:=by
      rcases Nat.lt_or_ge k (x:List (den t)).length with h|h
      ·exact h
      ·rw[oGN h]at he;cases he
     have hg:(List.map (enc t) (x:List (den t))).getD k []=enc t e:=by
      rw[oGD,List.getElem?_map,he];rfl
     show Sim _ (if k<(List.map (enc t) (x:List (den t))).length&&((List.map (enc t) (x:List (den t))).getD k []).length==sz&&decide (0<sz)then wr d (.ip ((List.map (enc t) (x:List (den t))).getD k []))else _) id;rw[hg,oIP]
     ·exact bU d (by simp only[er,ml])
     ·simp only[oBA,oDE,beq_iff_eq,List.length_map];exact⟨⟨hk,by rw[cz];exact h.1⟩,h.2⟩
   |nilr o=>cases o<;>exact .fail
   |_=>exact .fail
  |_=>exact .fail
 |ext x i=>
  refine bu λt=>?_
  cases t with
  |tup l=>
   refine Sim.ite (λh=>?_) λ_=>.fail;show Sim _ (if i<(erL l).length then _ else _) id;rw[oIP (by rw[cT];exact h)];exact bU d (pj l i)
  |_=>exact .fail
 |bin op x y=>exact bu λa=>bu λb=>HP d op a b
 |bnb neg x y=>
  refine bu λa=>bu λb=>?_
  cases a with
  |d t a=>cases t with
   |bool=>cases b with
    |d u b=>cases u with
     |bool=>
      show Sim _ (wr d (.v (.bool (if neg then !((a:Bool)==b)else(a:Bool)==b)))) id;refine bU d ?_;cases neg<;>rfl
     |_=>exact .fail
    |_=>exact .fail
   |_=>exact .fail
  |_=>exact .fail
 |eqa ks neg x y=>
  refine bu λa=>bu λb=>?_
  cases a with
  |agg a=>cases b with
   |agg b=>
    simp only[er]
    cases h:X.eqAll bp ks a b with
    |none=>exact .fail
    |some r=>
     obtain⟨vs,ws,h1,h2,h3⟩:=Ex h;show Sim _ ((fK (bT (erL a))).bind λxs=>(fK (bT (erL b))).bind λys=>(fK (cg ks xs ys)).bind λr=>wr d (.v (.bool (if neg then !r else r)))) id;rw[h1,h2];show Sim _ ((fK (cg ks vs ws)).bind λr=>wr d (.v (.bool (if neg then !r else r)))) id;rw[h3];refine bU d ?_;cases neg<;>rfl
   |_=>exact .fail
  |_=>exact .fail
 |un op x=>
  refine bu λa=>?_
  cases a with
  |d t a=>cases t with
   |bool=>cases op<;>first|exact .fail|exact bU d rfl
   |int k=>cases op<;>first|exact .fail|exact bU d rfl
   |_=>cases op<;>exact .fail
  |_=>cases op<;>exact .fail
 |conv k x=>
  refine bu λa=>?_
  cases a with
  |d t a=>cases t with
   |int k0=>exact bU d rfl
   |_=>exact .fail
  |_=>exact .fail
 |bld z mv parts=>
  refine Sim.ite (λh=>?_) λ_=>.fail;show Sim _ (if(z.map bQ).all bW then _ else _) id;rw[oIP (i5 h)];refine(mn mv parts).bind λl=>(mo d l).bind λl'=>bU d ?_;simp only[er];rw[vt,kX]
 |bsl sz mv len parts=>
  refine(mn mv _).bind λl=>Sim.ite (λh=>?_) λ_=>.fail;rw[oIP h];refine Sim.opt λv hv=>fB d false ?_;simp only[erL,DQ hv,Af]
 |mks sz z l c=>
  refine Sim.ite (λh=>?_) λ_=>.fail;simp only[oBA]at h;show Sim _ (if(z.map bQ).all bW&&z.length==sz then _ else _) id;rw[oIP (by simp only[oBA];exact⟨i5 h.1,h.2⟩)];refine bu λtl=>bu λtc=>(fA tl).bind λn=>(fA tc).bind λm=>Sim.br λhok=>?_;have hok:jZ n m sz=true:=hok;rw[oIP (by simpa[jZ]using hok)];refine Sim.opt λv hv=>fB d false ?_;simp only[erL,sC hv,kX,id_eq]
 |mki sz z l c=>
  refine Sim.ite (λh=>?_) λ_=>.fail;simp only[oBA]at h;show Sim _ (if(z.map bQ).all bW&&z.length==sz then _ else _) id;rw[oIP (by simp only[oBA];exact⟨i5 h.1,h.2⟩)];refine bu λtl=>bu λtc=>(fA tl).bind λn=>(fA tc).bind λm=>Sim.br λhok=>?_;have hok:jZ n m sz=true:=hok;rw[oIP (by simpa[jZ]using hok)];refine Sim.opt λz' hz=>Sim.opt λv hv=>fB d false ?_;simp only[erL,sC hv,td hz,kX,id_eq,List.map_map];rfl
 |slc sz x lo hi=>
  refine bu λt=>(pG t).bind λn=>(rO lo 0).bind λl=>(rO hi n).bind λh=>Sim.br λhok=>?_;have hok:pC l h n=true:=hok;rw[oIP (by simpa[pC]using hok)]
  cases t with
  |d tt x=>cases tt with
   |row o t=>cases o with
    |true=>exact .fail
    |false=>
     refine Sim.ite (λhs=>?_) λ_=>.fail;show Sim _ (if(List.map (enc t) (x:List (den t))).all (λe=>e.length==sz)then _ else _) id;rw[oIP (by rw[<- hs];exact mb t x)];refine bU d ?_;show TV.sl (List.map (enc t) ((List.drop l (x:List (den t))).take (h-l)))=_;rw[List.map_take,List.map_drop];rfl
   |nilr o=>cases o with
    |false=>
     show Sim _ (if([]:List (List TV)).all (λe=>e.length==sz)then wr d (.sl ((([]:List (List TV)).drop l).take (h-l)))else _) id;rw[oIP (by rfl)];exact bU d (by simp[er,er1])
    |true=>exact fB d false rfl
   |_=>exact .fail
  |pk p vs=>
   refine(fC p).bind λt=>?_
   cases t with
   |d tt x=>cases tt with
    |row o t=>cases o with
     |false=>exact .fail
     |true=>
      refine Sim.ite (λhs=>?_) λ_=>.fail;show Sim _ (if(List.map (enc t) (x:List (den t))).all (λe=>e.length==sz)then _ else _) id;rw[oIP (by rw[<- hs];exact mb t x)];exact bU d rfl
    |nilr o=>cases o with
     |false=>exact .fail
     |true=>
      show Sim _ (if([]:List (List TV)).all (λe=>e.length==sz)then _ else _) id;rw[oIP (by rfl)];exact bU d rfl
    |_=>exact .fail
   |_=>exact .fail
  |pw p vs sz' lo' n'=>
   refine Sim.ite (λhs=>?_) λ_=>.fail;show Sim _ (if sz'=sz then _ else _) id;rw[oIP hs];exact bU d rfl
  |_=>exact .fail
 |apz sz bytes z s x=>
  refine Sim.ite (λh=>?_) λ_=>.fail;simp only[oBA]at h;show Sim _ (if(z.map bQ).all bW&&z.length==sz then _ else _) id;rw[oIP (by simp only[oBA];exact⟨i5 h.1,h.2⟩)];refine bu λts=>bu λtx=>(fA tx).bind λn=>(dm true ts).bind λs=>Sim.opt λv hv=>?_;have h:=At (Y:=Y) d sz bytes (bO HT d) s v
  have e:Di d sz bytes (er s) (.ow (List.replicate n (z.map bQ)))=(match er s,er v with
   |.ow c,.ow c2=>if(c++c2).all (λe=>e.length==sz)&&decide (c.length+c2.length<=1099511627776)&&decide ((c.length+c2.length)*bytes<=140737488355328)then inst d false [.ow (c++c2)]else .fail
   |.ow c,.sl c2=>if(c++c2).all (λe=>e.length==sz)&&decide (c.length+c2.length<=1099511627776)&&decide ((c.length+c2.length)*bytes<=140737488355328)then inst d false [.ow (c++c2)]else .fail
   |_,_=>.fail):=by
   rw[sC hv,kX];rfl
  rw[id_eq,e];exact h
 |app sz bytes mv fl s x=>
  refine bu λts=>bu λtx=>?_
  have hn:r8 (er tx)=X.isNameX tx:=by
   cases tx with
   |d t y=>cases t with
    |row o t=>cases o<;>rfl
    |nilr o=>cases o<;>rfl
    |_=>rfl
   |_=>rfl
  rw[hn]
  cases hc:(fl && !mv&&X.isNameX tx)with
  |true=>
   simp only[if_true];refine(rF tx).bind λc2=>?_;refine Sim.ite (λhf=>?_) λ_=>.fail
   have hV:(Ab c2).all (λe=>e.all isV)=true:=by
    cases c2 with
    |d t y=>cases t with
     |row o t=>
      have hf:X.flatT t=true:=hf;cases o<;>show(List.map (enc t) (y:List (den t))).all (λe=>e.all isV)=true
      all_goals
       rw[List.all_map,List.all_eq_true];intro z _;exact Cd hf z
     |nilr o=>cases o<;>rfl
     |_=>rfl
    |gap=>cases hf
    |_=>rfl
   rw[oIP hV];refine(dm true ts).bind λs=>?_;have h:=At (Y:=Y) d sz bytes (bO HT d) s c2
   have e:Di d sz bytes (er s) (.sl (Ab c2))=(match er s,er c2 with
    |.ow c,.ow c2=>if(c++c2).all (λe=>e.length==sz)&&decide (c.length+c2.length<=1099511627776)&&decide ((c.length+c2.length)*bytes<=140737488355328)then inst d false [.ow (c++c2)]else .fail
    |.ow c,.sl c2=>if(c++c2).all (λe=>e.length==sz)&&decide (c.length+c2.length<=1099511627776)&&decide ((c.length+c2.length)*bytes<=140737488355328)then inst d false [.ow (c++c2)]else .fail
    |_,_=>.fail):=by
    unfold Di
    cases c2 with
    |d t y=>cases t with
     |row o t=>cases o<;>cases er s<;>rfl
     |nilr o=>cases o<;>cases er s<;>rfl
     |_=>simp[X.flatRow]at hf
    |_=>simp[X.flatRow]at hf
   rw[e];exact h
  |false=>
   simp only[Bool.false_eq_true,if_false];exact(dm true ts).bind λs=>(dm mv tx).bind λx=>At d sz bytes _ s x
 |len x=>exact bu λt=>(pG t).bind λn=>bU d rfl
 |lens x=>
  refine bu λt=>?_
  cases t with
  |d t s=>cases t with
   |str=>exact bU d rfl
   |_=>exact .fail
  |_=>exact .fail
 |ixs x i=>
  refine bu λt=>bu λti=>(fA ti).bind λk=>?_
  cases t with
  |d t s=>cases t with
   |str=>
    intro σ kk y hk;obtain⟨b,h1,h2⟩:=bz (show(Ay s k).bind _=some y from hk);unfold Ay at h1;obtain⟨c,h3,h4⟩:=dV h1;have h3:(s:ByteArray)[k]?=some c:=h3;have:=bU (Y:=Y) d (t:=.d (.int .u8) b) (t':=.v (.int .u8 c.toNat)) (by rw[<- h4];rfl) σ kk y h2;show ∃a σ',(match(s:ByteArray)[k]? with|some b=>wr d (.v (.int .u8 b.toNat))|none=>.fail).run (erS σ)=_/\iR σ σ' ((match(s:ByteArray)[k]? with|some b=>wr d (.v (.int .u8 b.toNat))|none=>.fail).foot (erS σ))/\_;rw[h3];exact this
   |_=>exact .fail
  |_=>exact .fail
 |mm mx xs=>
  refine(xG (λx=>(lL x).bind λt=>AS t) xs).bind λl=>?_
  cases l with
  |nil=>exact .fail
  |cons t r=>cases t with
   |d t a=>cases t with
    |int k=>
     simp only[List.map_cons,IU]
     cases h:X.mmAll bp mx k a r with
     |none=>exact .fail
     |some m=>simp only[D6 h];exact bU d rfl
    |_=>exact .fail
   |_=>exact .fail
 |mkf f caps=>
  refine(xG (λx=>(lL x).bind λt=>AZ t) caps).bind λl=>bU d ?_;simp only[er,fH]
 |idxa n sz x i=>
  refine bu λt=>bu λti=>(fA ti).bind λk=>?_
  cases t with
  |ptr p vs=>
   refine(cS p _ vs).bind λ_=>AY _ n _ 0 λj Ve hj hk=>Sim.ite (λh=>?_) λ_=>.fail;subst hk;simp only[id_eq];rw[oIP (by rw[<- tJ];simp only[oBA,oDE];exact⟨by omega,h⟩)];exact bU d (by simp only[er,wR])
  |_=>exact .fail
 |s2b x=>
  refine bu λt=>?_
  cases t with
  |d t s=>cases t with
   |str=>
    refine Sim.br λh=>?_;have h:decide ((s:ByteArray).size<4294967296)=true:=h;show Sim _ (if(s:ByteArray).size<4294967296 then wr d (.sl (kH s))else .fail) id;rw[oIP (by simpa using h)];refine bU d ?_;show TV.sl (List.map (enc (.int .u8)) (FD s))=_;simp[FD,kH,enc]
   |_=>exact .fail
  |_=>exact .fail
 |emp x=>exact bu λt=>(pG t).bind λn=>fB d false rfl
 |b2s x=>
  refine bu λt=>(dm false t).bind λt'=>?_
  cases t' with
  |d t c=>cases t with
   |row o t=>cases o with
    |false=>cases t with
     |int k=>cases k with
      |u8=>
       intro σ kk y hk;have hk:X.wr bp d (.d .str (n5 c)) σ kk=some y:=hk
       have hb:bstr (List.map (enc (.int .u8)) (c:List Int))=some (n5 c):=by
        have:ry (List.map (enc (.int .u8)) (c:List Int))=some c:=by
         have h9:∀l:List Int,ry (List.map (enc (.int .u8)) l)=some l:=by
          intro l
          induction l with
          |nil=>rfl
          |cons x l ih=>
           show Option.map (x :: ·) (ry (List.map (enc (.int .u8)) l))=_;rw[ih];rfl
         exact h9 c
        simp only[bstr,this];rfl
       have:=bU (Y:=Y) d (t:=.d .str (n5 c)) (t':=.v (.string (n5 c))) rfl σ kk y hk;show ∃a σ',((fK (bstr (List.map (enc (.int .u8)) (c:List Int)))).bind λs=>wr d (.v (.string s))).run (erS σ)=_/\iR σ σ' (((fK (bstr (List.map (enc (.int .u8)) (c:List Int)))).bind λs=>wr d (.v (.string s))).foot (erS σ))/\_;rw[hb];exact this
      |_=>exact .fail
     |_=>exact .fail
    |true=>exact .fail
   |_=>exact .fail
  |_=>exact .fail
 |cpy sz x y=>
  refine bu λt=>bu λu=>(rF u).bind λc2=>?_
  cases t with
  |pk p vs=>
   refine(cS p _ vs).bind λ_=>Sim.rdC λtv=>?_;exact E1 d sz p 0 none tv c2
  |pw p vs sz' lo n=>
   refine Sim.ite (λhs=>?_) λ_=>.fail;refine(cS p _ vs).bind λ_=>Sim.rdC λtv=>?_;have:=E1 (Y:=Y) d sz p lo (some n) tv c2;simp only[oIP hs];exact this
  |_=>exact .fail
 |call k f args=>exact .fail
end
theorem tQ:∀(hs:List (Unit×Nat×Nat))(hs':List (den .nat×Nat×Nat))(r:List CT)(h:HL den r)(h':HL den (wD hs r)),wV hs hs' r h=some h'->(qi hs r h').1=hs'/\(qi hs r h').2=h
 | [],[],_,_,_,hc=>by
  injection hc with hc
  exact⟨rfl,hc.symm⟩
 | [],_::_,_,_,_,hc=>by cases hc
 |_::_,[],_,_,_,hc=>by cases hc
 |(_,sz,o)::hs,(i,sz',o')::hs',r,h,h',hc=>by
  have hc:(if sz=sz'/\o=o' then(wV hs hs' r h).map λh1=>((i,h1):den .nat×HL den (wD hs r))else none)=some h':=hc;by_cases hb:sz=sz'/\o=o'
  ·rw[oIP hb]at hc;obtain⟨h1,h2,h3⟩:=Option.map_eq_some_iff.1 hc;obtain⟨e1,e2⟩:=tQ hs hs' r h h1 h2;subst h3;refine⟨?_,e2⟩;show(i,sz,o)::(qi hs r h1).1=(i,sz',o')::hs';rw[e1,hb.1,hb.2]
  ·rw[oIN hb]at hc;cases hc
theorem H9{p:XP λ_=>Unit}{q:XP den}(h:E9 p q=true):erP (Jt p)=erP q:=by
 simp[E9]at h;have ⟨⟨⟨h1,h2⟩,h3⟩,h4⟩:=h;have ⟨r,o,hs⟩:=q
 cases hs with
 |nil=>simp[Jt,h1,h2]
 |cons=>simp[XP.bare]at h4
theorem Et{x y:Value}(h:Cz x y=true):x=y:=by
 unfold Cz at h
 grind
mutual
theorem CJ:(s:Sh)->(x:XV den)->(r:List CT)->(h:HL den r)->(h':HL den (lv s r))->conv bp s x r h=some h'->er (fill s r h').1=er x/\(fill s r h').2=h
 |.d u z,x,r,h,h',hc=>by
  cases x with
  |d t y=>
   have hc:(asT bp t u y).map (λw=>(w,h))=some h':=hc;obtain⟨w,h1,h2⟩:=dV hc
   have e1:h'.1=w:=by rw[<- h2]
   have e2:h'.2=h:=by rw[<- h2]
   refine⟨?_,e2⟩;show er1 u h'.1=er1 t y;rw[e1];exact yG h1
  |_=>exact absurd (show(none:Option (HL den _))=some h' from hc) (by simp)
 |.k z,x,r,h,h',hc=>by
  cases x with
  |k y=>
   have hc:(if Cz z y then some h else none)=some h':=hc;by_cases hb:Cz z y=true
   ·rw[oIP hb]at hc
    injection hc with hc
    rw[Et hb];exact⟨rfl,hc.symm⟩
   ·rw[oIN hb]at hc;cases hc
  |_=>exact absurd (show(none:Option (HL den _))=some h' from hc) (by simp)
 |.dead,x,r,h,h',hc=>by
  cases x with
  |dead=>
   have hc:some h=some h':=hc
   injection hc with hc
   exact⟨rfl,hc.symm⟩
  |_=>exact absurd (show(none:Option (HL den _))=some h' from hc) (by simp)
 |.ptr p vs,x,r,h,h',hc=>by
  cases x with
  |ptr q ws=>
   have hc:(if p.root==q.root&&p.off==q.off&&vs==ws then wV p.hops q.hops r h else none)=some h':=hc;by_cases hb:(p.root==q.root&&p.off==q.off&&vs==ws)=true
   ·rw[oIP hb]at hc;simp only[oBA,beq_iff_eq]at hb;obtain⟨h1,h2⟩:=tQ _ _ _ _ _ hc;refine⟨?_,h2⟩;show TV.ptr ⟨p.root,p.off,(qi p.hops r h').1⟩ vs=TV.ptr ⟨q.root,q.off,q.hops⟩ ws;rw[h1,hb.1.1,hb.1.2,hb.2]
   ·rw[oIN hb]at hc;cases hc
  |_=>exact absurd (show(none:Option (HL den _))=some h' from hc) (by simp)
 |.pk p vs,x,r,h,h',hc=>by
  cases x with
  |pk q ws=>
   have hc:(if p.root==q.root&&p.off==q.off&&vs==ws then wV p.hops q.hops r h else none)=some h':=hc;by_cases hb:(p.root==q.root&&p.off==q.off&&vs==ws)=true
   ·rw[oIP hb]at hc;simp only[oBA,beq_iff_eq]at hb;obtain⟨h1,h2⟩:=tQ _ _ _ _ _ hc;refine⟨?_,h2⟩;show TV.pk ⟨p.root,p.off,(qi p.hops r h').1⟩ vs=TV.pk ⟨q.root,q.off,q.hops⟩ ws;rw[h1,hb.1.1,hb.1.2,hb.2]
   ·rw[oIN hb]at hc;cases hc
  |_=>exact absurd (show(none:Option (HL den _))=some h' from hc) (by simp)
 |.pw p vs sz lo n,x,r,h,h',hc=>by cases x<;>exact absurd (show(none:Option (HL den _))=some h' from hc) (by simp)
 |.gap t _ _ o,x,r,h,h',hc=>by
  cases x with
  |gap t' y i o'=>
   have hc:(if o=o' then(asT bp (.row true t') (.row true t) y).map λy=>(y,i,h)else none)=some h':=hc;by_cases hb:o=o'
   ·subst hb;rw[oIP rfl]at hc;obtain⟨z,h1,rfl⟩:=dV hc;refine⟨?_,rfl⟩;show dn (er1 (.row true t) z) [(i,0,o)] .dead=dn (er1 (.row true t') y) [(i,0,o)] .dead;rw[yG h1]
   ·rw[oIN hb]at hc;cases hc
  |_=>exact absurd (show(none:Option (HL den _))=some h' from hc) (by simp)
 |.ip l,x,r,h,h',hc=>by
  cases x with
  |ip l'=>
   have:=iE l l' r h h' hc;exact⟨congrArg TV.ip this.1,this.2⟩
  |_=>exact absurd (show(none:Option (HL den _))=some h' from hc) (by simp)
 |.agg l,x,r,h,h',hc=>by
  cases x with
  |agg l'=>
   have:=iE l l' r h h' hc;exact⟨congrArg TV.agg this.1,this.2⟩
  |_=>exact absurd (show(none:Option (HL den _))=some h' from hc) (by simp)
 |.tup l,x,r,h,h',hc=>by
  cases x with
  |tup l'=>
   have:=iE l l' r h h' hc;exact⟨congrArg TV.tup this.1,this.2⟩
  |_=>exact absurd (show(none:Option (HL den _))=some h' from hc) (by simp)
 |.fn f l,x,r,h,h',hc=>by
  cases x with
  |fn f' l'=>
   have hc:(if f=f' then oV bp l l' r h else none)=some h':=hc;by_cases hb:f=f'
   ·subst hb;rw[oIP rfl]at hc;have:=iE l l' r h h' hc;exact⟨congrArg (TV.fn f) this.1,this.2⟩
   ·rw[oIN hb]at hc;cases hc
  |_=>exact absurd (show(none:Option (HL den _))=some h' from hc) (by simp)
theorem iE:(s:List Sh)->(x:List (XV den))->(r:List CT)->(h:HL den r)->(h':HL den (lvL s r))->oV bp s x r h=some h'->erL (eJ s r h').1=erL x/\(eJ s r h').2=h
 | [],x,r,h,h',hc=>by
  cases x with
  |nil=>
   have hc:some h=some h':=hc
   injection hc with hc
   exact⟨rfl,hc.symm⟩
  |cons=>exact absurd (show(none:Option (HL den _))=some h' from hc) (by simp)
 |s::ss,x,r,h,h',hc=>by
  cases x with
  |nil=>exact absurd (show(none:Option (HL den _))=some h' from hc) (by simp)
  |cons x xs=>
   have hc:(oV bp ss xs r h).bind (λh1=>conv bp s x (lvL ss r) h1)=some h':=hc;obtain⟨h1,Ze,Zl⟩:=bz hc;obtain⟨e1,e2⟩:=iE ss xs r h h1 Ze;obtain⟨e3,e4⟩:=CJ s x (lvL ss r) h1 h' Zl;have e5:eJ (s::ss) r h'=((fill s (lvL ss r) h').1::(eJ ss r (fill s (lvL ss r) h').2).1,(eJ ss r (fill s (lvL ss r) h').2).2):=rfl;rw[e5,e4];refine⟨?_,e2⟩;show er _::erL _=er x::erL xs;rw[e3,e1]
end
theorem tP:∀{s:List (Nat×List Sh)}{x:List (Nat×List (XV den))}{r:List CT}{h:HL den r}{h':HL den (lvP s r)},X.convP bp s x r h=some h'->erC (mS s r h').1=erC x/\(mS s r h').2=h:=by
 intro s
 induction s with
 |nil=>
  intro x r h h' hc
  cases x with
  |nil=>
   have hc:some h=some h':=hc
   injection hc with hc
   exact⟨rfl,hc.symm⟩
  |cons=>exact absurd (show(none:Option (HL den _))=some h' from hc) (by simp)
 |cons s ss ih=>
  intro x r h h' hc
  cases x with
  |nil=>exact absurd (show(none:Option (HL den _))=some h' from hc) (by simp)
  |cons x xs=>
   have hc:(if s.1=x.1 then(X.convP bp ss xs r h).bind (λh1=>oV bp s.2 x.2 (lvP ss r) h1)else none)=some h':=hc;by_cases hk:s.1=x.1
   ·rw[oIP hk]at hc
    ·obtain⟨h1,Ze,hc⟩:=bz hc;obtain⟨e1,e2⟩:=ih Ze;obtain⟨e3,e4⟩:=iE s.2 x.2 (lvP ss r) h1 h' hc;have e5:mS (s::ss) r h'=((s.1,(eJ s.2 (lvP ss r) h').1)::(mS ss r (eJ s.2 (lvP ss r) h').2).1,(mS ss r (eJ s.2 (lvP ss r) h').2).2):=rfl;rw[e5,e4];refine⟨?_,e2⟩;show(s.1,erL _)::erC _=(x.1,erL x.2)::erC xs;rw[e3,e1,hk]
   ·rw[oIN hk]at hc;cases hc
theorem ED:∀{s:List (Nat×Sh)}{x:List (Nat×XV den)}{r:List CT}{h:HL den r}{h':HL den (lvT s r)},X.convT bp s x r h=some h'->(tI s r h').1.map (λx=>(x.1,er x.2))=x.map (λx=>(x.1,er x.2))/\(tI s r h').2=h:=by
 intro s
 induction s with
 |nil=>
  intro x r h h' hc
  cases x with
  |nil=>
   have hc:some h=some h':=hc
   injection hc with hc
   exact⟨rfl,hc.symm⟩
  |cons=>exact absurd (show(none:Option (HL den _))=some h' from hc) (by simp)
 |cons s ss ih=>
  intro x r h h' hc
  cases x with
  |nil=>exact absurd (show(none:Option (HL den _))=some h' from hc) (by simp)
  |cons x xs=>
   have hc:(if s.1=x.1 then(X.convT bp ss xs r h).bind (λh1=>conv bp s.2 x.2 (lvT ss r) h1)else none)=some h':=hc;by_cases hk:s.1=x.1
   ·rw[oIP hk]at hc
    ·obtain⟨h1,Ze,hc⟩:=bz hc;obtain⟨e1,e2⟩:=ih Ze;obtain⟨e3,e4⟩:=CJ s.2 x.2 (lvT ss r) h1 h' hc;have e5:tI (s::ss) r h'=((s.1,(fill s.2 (lvT ss r) h').1)::(tI ss r (fill s.2 (lvT ss r) h').2).1,(tI ss r (fill s.2 (lvT ss r) h').2).2):=rfl;rw[e5,e4];refine⟨?_,e2⟩;simp only[List.map_cons];rw[e3,e1,hk]
   ·rw[oIN hk]at hc;cases hc
theorem Bs:∀{a b:List (Key×Nat)},X.sameVr a b=true->a=b:=by
 intro a
 induction a with
 |nil=>intro b h;cases b with|nil=>rfl|cons=>simp[X.sameVr]at h
 |cons x a ih=>
  intro b h
  cases b with
  |nil=>simp[X.sameVr]at h
  |cons y b=>
   simp only[X.sameVr,oBA,beq_iff_eq]at h;obtain⟨⟨h1,h2⟩,h3⟩:=h;rw[ih h3];obtain⟨a1,a2⟩:=x;obtain⟨b1,b2⟩:=y;simp only at h1 h2;rw[h1,h2]
theorem tO{s:Shs}{σ:XS den}{u:HL den []}{h:HL den (lvS s)}(hc:X.convS bp s σ u=some h):erS (wP s h)=erS σ:=by
 unfold X.convS at hc;by_cases hv:X.sameVr s.vr σ.vr=true
 ·rw[oIP hv]at hc;obtain⟨h1,Ze,hc⟩:=bz hc;obtain⟨e1,e2⟩:=tP Ze;obtain⟨e3,e4⟩:=ED hc;unfold erS wP;simp only;rw[e3,e4,e1,Bs hv]
 ·rw[oIN hv]at hc;cases hc
theorem vk{c:Ctr}{vals:List (XV den)}{pts:List (Nat×List (XV den))}{u:HL den []}{h:HL den (lvL c.ins (lvP c.pts []))}(hc:X.convIn bp c vals pts u=some h):
 erL (eJ c.ins _ h).1=erL vals/\erC (mS c.pts [] (eJ c.ins _ h).2).1=erC pts:=by
 unfold X.convIn at hc;obtain⟨h1,Ze,hc⟩:=bz hc;obtain⟨e1,e2⟩:=tP Ze;obtain⟨e3,e4⟩:=iE _ _ _ _ _ hc;rw[e4];exact⟨e3,e1⟩
theorem Bt:∀{a b:List RSh},X.sameSh a b=true->a=b:=by
 intro a
 induction a with
 |nil=>intro b h;cases b with|nil=>rfl|cons=>simp[X.sameSh]at h
 |cons x a ih=>
  intro b h
  cases b with
  |nil=>cases x<;>simp[X.sameSh]at h
  |cons y b=>
   cases x<;>cases y<;>simp[X.sameSh]at h
   ·rw[ih h]
   ·rw[h.1,ih h.2]
   ·rw[ih h]
theorem GG{cells:List (XV den)}{sh:List RSh}{pts:List (Nat×List (XV den))}{u:HL den []}:∀{outs:List XO}{i:Nat}{h:HL den (sI (outs.map lvO) i)},X.injO bp cells sh pts u outs=some ⟨i,h⟩->∃x,gP outs i h=some x/\erL x.1=erL cells/\x.2.1=sh/\erC x.2.2=erC pts:=by
 intro outs
 induction outs with
 |nil=>intro i h hc;simp[X.injO]at hc
 |cons o outs ih=>
  intro i h hc;simp only[X.injO]at hc;split at hc
  ·rename_i h1 Ze
   injection hc with hc
   injection hc with h2 h3
   subst h2;have h3:=eq_of_heq h3;subst h3;refine⟨_,rfl,?_⟩;unfold X.convO at Ze;by_cases hs:X.sameSh o.sh sh=true
   ·rw[oIP hs]at Ze;obtain⟨h4,TJ,Ze⟩:=bz Ze;obtain⟨e1,e2⟩:=tP TJ;obtain⟨e3,e4⟩:=iE _ _ _ _ _ Ze;refine⟨e3,Bt hs,?_⟩;show erC (mS o.pts [] (eJ o.cells _ h1).2).1=_;rw[e4];exact e1
   ·rw[oIN hs]at Ze;cases Ze
  ·split at hc
   ·rename_i x hx
    injection hc with hc
    injection hc with h2 h3
    subst h2;have h3:=eq_of_heq h3;subst h3;exact ih hx
   ·simp at hc
theorem GO{a b:fL}(h:X.exEq a b=true):a=b:=by
 cases a<;>cases b<;>simp[X.exEq]at h
 ·rfl
 ·rw[h]
 ·rfl
theorem Cj{e:fL}{σ:XS den}{u:HL den []}:∀{outs:List (fL×Shs)}{i:Nat}{h:HL den (sI (outs.map λx=>lvS x.2) i)},X.injE bp e σ u outs=some ⟨i,h⟩->∃x,ou outs i h=some x/\x.1=e/\erS x.2=erS σ:=by
 intro outs
 induction outs with
 |nil=>intro i h hc;simp[X.injE]at hc
 |cons o outs ih=>
  intro i h hc;simp only[X.injE]at hc;split at hc
  ·rename_i h1 Ze
   injection hc with hc
   injection hc with h2 h3
   subst h2;have h3:=eq_of_heq h3;subst h3;refine⟨_,rfl,?_⟩;split at Ze
   ·rename_i he;exact⟨GO he,tO Ze⟩
   ·simp at Ze
  ·split at hc
   ·rename_i x hx
    injection hc with hc
    injection hc with h2 h3
    subst h2;have h3:=eq_of_heq h3;subst h3;exact ih hx
   ·simp at hc
theorem qo{α β:Type}(G:α->β):∀(ls:List (List CT))(o:so ls)(f:(i:Nat)->HL den (sI ls i)->α),gy ls o (λi h=>G (f i h))=G (gy ls o f):=by
 intro ls
 induction ls with
 |nil=>intro o;cases o
 |cons l ls ih=>
  intro o f
  cases ls with
  |nil=>rfl
  |cons m r=>
   cases o with
   |inl h=>rfl
   |inr o=>exact ih o λi h=>f (i+1) h
theorem sb{α:Type}:∀{ls:List (List CT)}{i:Nat}{h:HL den (sI ls i)}{o:so ls}(f:(i:Nat)->HL den (sI ls i)->α),nR ls i h=some o->gy ls o f=f i h:=by
 intro ls
 induction ls with
 |nil=>intro i h o f hm;simp[nR]at hm
 |cons l ls ih=>
  intro i h o f hm
  cases ls with
  |nil=>
   cases i with
   |zero=>cases hm;rfl
   |succ i=>simp[nR]at hm
  |cons m r=>
   cases i with
   |zero=>cases hm;rfl
   |succ i=>
    simp only[nR]at hm;obtain⟨o',h1,rfl⟩:=dV hm;exact ih (λi h=>f (i+1) h) h1
def li(F:cu)(c:Ctr):Prop:=∀(h:HL den (lvL c.ins (lvP c.pts [])))(o:so (c.outs.map lvO))(x:List (XV den)×List RSh×List (Nat×List (XV den))),c.g h=some o->gy (c.outs.map lvO) o (λi ho=>gP c.outs i ho)=some x ->
 F c.f (erL (eJ c.ins _ h).1) (erC (mS c.pts [] (eJ c.ins _ h).2).1)=some (⟨erL x.1,x.2.1⟩,erC x.2.2)
section
variable {α β γ δ Y:Type}
theorem DK(x:Option Nat×Opd):Sim (Y:=Y) (X.argV bp x) (argV x) er:=by
 refine bu λt=>?_
 have U3:∀t:XV den,Sim (Y:=Y) (X.bind (X.takeV bp false t) λl=>X.bind (X.optM bp (X.immXL bp l.1)) λl'=>X.ret (X.shapedX l.2 l')) ((takeV false (er t)).bind λl=>.ret (jH l.2 (l.1.map TV.imm))) er:=λt=>
  (jU false t).bind λl=>Sim.opt λl' hl=>.ret (by rw[rP,td hl])
 have nil:∀{s:SP TV}(t:CT)(y:den (.row true t)),Sim (Y:=Y) (X.bind (X.takeV bp false (.d (.row true t) y)) λl=>X.bind (X.optM bp (X.immXL bp l.1)) λl'=>X.ret (X.shapedX l.2 l')) s er:=λt y σ k o hk=>by cases hk
 refine Sim.ite (λh=>?_) λh=>?_
 ·have h2:(x.1==some 0&&IZ (er t))=true:=by
   simp only[oBA]at h⊢;refine⟨h.1,?_⟩;have h3:=h.2
   cases t with
   |pk p vs=>rfl
   |d t y=>cases t with
    |nilr o=>cases o with
     |true=>rfl
     |false=>simp[X.isNmX]at h3
    |_=>simp[X.isNmX]at h3
   |_=>simp[X.isNmX]at h3
  rw[oIP h2]
  have h3:X.isNmX t=true:=by
   simp only[oBA]at h;exact h.2
  cases t with
  |pk p vs=>exact .ret rfl
  |d t y=>cases t with
   |nilr o=>cases o with
    |true=>exact(mo 1000000 [.d (.nilr true) y]).bind λl=>.ret (by cases l<;>rfl)
    |false=>simp[X.isNmX]at h3
   |_=>simp[X.isNmX]at h3
  |_=>simp[X.isNmX]at h3
 ·have keep:∀{s:SP TV},IZ (er t)=X.isNmX t->Sim (Y:=Y) (X.argV0 bp t) s er->Sim (Y:=Y) (X.argV0 bp t) (if(x.1==some 0&&IZ (er t))=true then rY (er t)else s) er:=λhe hs=>by
   rw[he,oIN h];exact hs
  cases t with
  |ip cs=>exact keep rfl (.ret rfl)
  |fn f cap=>exact keep rfl (.ret rfl)
  |ptr p vs=>exact keep rfl (.ret rfl)
  |d t y=>cases t with
   |row o t=>cases o with
    |true=>exact nil t y
    |false=>exact keep rfl (U3 _)
   |nilr o=>cases o<;>exact keep rfl (U3 _)
   |nat=>exact fun σ k o hk=>by cases hk
   |pair a b=>exact fun σ k o hk=>by cases hk
   |_=>exact keep rfl (U3 _)
  |gap t y i o=>exact fun σ k o hk=>by cases hk
  |_=>exact keep rfl (U3 _)
theorem uq:∀l:List (Option Nat×Opd),Sim (Y:=Y) (X.argVs bp l) (argVs l) erL:=by
 intro l
 induction l with
 |nil=>exact .ret rfl
 |cons x r ih=>exact(DK x).bind λt=>ih.bind λl=>.ret rfl
theorem um:∀(l:List (Option Nat×XV den))(i:Nat),Sim (Y:=Y) (X.takeOwns bp i l) (takeOwns i (l.map λx=>(x.1,er x.2))) (List.map λx=>(x.1,er x.2)):=by
 intro l
 induction l with
 |nil=>intro i;exact .ret rfl
 |cons x l ih=>
  intro i;have ⟨n,t⟩:=x
  cases n with
  |none=>cases t with
   |d t y=>cases t with
    |row o t=>cases o<;>exact ih (i+1)
    |nilr o=>cases o<;>exact ih (i+1)
    |nat=>exact ih (i+1)
    |pair a b=>exact ih (i+1)
    |_=>exact ih (i+1)
   |_=>exact ih (i+1)
  |some n=>cases n with
   |zero=>cases t with
    |pk p vs=>
     refine(dm true (.pk p vs)).bind λt=>Sim.ite (λh=>?_) λ_=>.fail;have ⟨c,hc⟩:=iD h
     have h2:gS (er t)=true:=by rw[hc];rfl
     rw[oIP h2];exact(ih (i+1)).bind λq=>.ret rfl
    |d t y=>cases t with
     |row o t=>cases o<;>exact ih (i+1)
     |nilr o=>cases o<;>exact ih (i+1)
     |nat=>exact ih (i+1)
     |pair a b=>exact ih (i+1)
     |_=>exact ih (i+1)
    |_=>exact ih (i+1)
   |succ n=>cases t with
    |d t y=>cases t with
     |row o t=>cases o<;>exact ih (i+1)
     |nilr o=>cases o<;>exact ih (i+1)
     |nat=>exact ih (i+1)
     |pair a b=>exact ih (i+1)
     |_=>exact ih (i+1)
    |_=>exact ih (i+1)
theorem AU(r:Nat):∀(n o:Nat),Sim (Y:=Y) (X.grabB bp r o n) (va ⟨r,o,[]⟩ n) erL:=by
 intro n
 induction n with
 |zero=>intro o;exact .ret rfl
 |succ n ih=>
  intro o
  cases n with
  |zero=>
   refine Sim.rdC λt=>(fw ⟨r,o,[]⟩ t).bind λt'=>(dm true t').bind λt2=>?_;exact(Sim.ret (f:=erL) rfl).bind (h:=λl=>.ret (er t2::l)) λl=>.ret rfl
  |succ n=>
   exact Sim.rdC λt=>(fw ⟨r,o,[]⟩ t).bind λt'=>(dm true t').bind λt2=>(ih (o+1)).bind λl=>.ret rfl
theorem yW(p:XP den):Sim (Y:=Y) (X.rooted bp p) (rooted (erP p)) id:=by
 have ⟨r,off,hops⟩:=p
 cases hops with
 |nil=>exact .ret rfl
 |cons h hs=>
  refine Sim.rdT λt=>?_
  cases t with
  |ptr q ws=>
   refine Sim.ite (λhc=>?_) λ_=>.fail;show Sim _ (if(erP q).root==r&&(erP q).hops.isEmpty then chk (erP q) 0 ws else .fail) id
   have:((erP q).root==r&&(erP q).hops.isEmpty)=true:=by
    simpa[erP]using hc
   rw[oIP this];exact cS q 0 ws
  |_=>exact .fail
def erG(g:XGP den):GP:=⟨g.i,erP g.p,g.vs,erL g.cells⟩
theorem Ch{t:XV den}(h:X.isArgX t=true):lb (er t)=true:=by
 cases t with
 |ip cs=>rfl
 |fn f cap=>exact tg h
 |agg l=>
  simp only[X.isArgX]at h;simp only[er,lb,fH,List.all_map];rw[List.all_eq_true]at h⊢;intro x hx;have:=h x hx;simp at this;simp
  rcases iZ this.1 this.2 with⟨y,hy⟩|⟨c,hc⟩
  ·rw[hy]
  ·rw[hc]
 |d t x=>
  by_cases hn:t=.nilr true
  ·subst hn;rfl
  ·have:X.okCellX (.d t x:XV den)=true/\X.isOwX (.d t x:XV den)=false:=by
    cases t with
    |nilr o=>cases o with
     |true=>simp_all
     |false=>simpa[X.isArgX]using h
    |_=>simpa[X.isArgX]using h
   rcases iZ this.1 this.2 with⟨y,hy⟩|⟨c,hc⟩
   ·rw[hy];rfl
   ·rw[hc];rfl
 |k x=>rfl
 |_=>simp[X.isArgX,X.okCellX]at h
theorem AT:∀(l:List (Option Nat×XV den))(i:Nat),Sim (Y:=Y) (X.grabs bp i l) (grabs i (l.map λx=>(x.1,er x.2))) (List.map erG):=by
 intro l
 induction l with
 |nil=>intro i;exact .ret rfl
 |cons x l ih=>
  intro i;obtain⟨n,t⟩:=x
  have other:(∀m p vs,(n,er t)≠(some m,TV.ptr p vs))->(∀p vs,(n,er t)≠(some 0,TV.pk p vs))->Sim (Y:=Y) (if X.isArgX t then X.grabs bp (i+1) l else X.fail bp) (grabs i (((n,t)::l).map λx=>(x.1,er x.2))) (List.map erG):=by
   intro hne Un;refine Sim.ite (λh=>?_) λ_=>.fail
   have e:grabs i (((n,t)::l).map λx=>(x.1,er x.2))=if lb (er t)then grabs (i+1) (l.map λx=>(x.1,er x.2))else .fail:=by
    show grabs i ((n,er t)::_)=_
    cases n with
    |none=>rfl
    |some m=>cases he:er t with
     |ptr p vs=>simp_all
     |pk p vs=>cases m with
      |zero=>exact absurd (by rw[he]) (Un p vs)
      |succ m=>rfl
     |_=>cases m<;>rfl
   rw[e,oIP (Ch h)];exact ih (i+1)
  cases n with
  |none=>exact other (by intro m p vs h;cases h) (by intro p vs h;cases h)
  |some m=>cases t with
   |pk p vs=>cases m with
    |zero=>exact ih (i+1)
    |succ m=>exact other (by intro m p vs h;cases h) (by intro p vs h;cases h)
   |ptr p vs=>exact(cS p _ vs).bind λ_=>(yW p).bind λ_=>Sim.bind (by have:=AU (Y:=Y) p.root (X.baseXN p m) p.off;have e:GY (erP p) m=X.baseXN p m:=(by have ⟨r,o,hs⟩:=p;cases hs<;>rfl);show Sim _ (va (erP p).base (GY (erP p) m)) _;rw[e];exact this) λl1=>(ih (i+1)).bind λq=>.ret rfl
   |d t y=>cases t with
    |row o t=>cases m<;>cases o<;>exact other (by intro m p vs h;cases h) (by intro p vs h;cases h)
    |nilr o=>cases m<;>cases o<;>exact other (by intro m p vs h;cases h) (by intro p vs h;cases h)
    |_=>cases m<;>exact other (by intro m p vs h;cases h) (by intro p vs h;cases h)
   |_=>cases m<;>exact other (by intro m p vs h;cases h) (by intro p vs h;cases h)
theorem AB(p:XP den):Sim (Y:=Y) (X.touch bp p) (touch (erP p)) id:=Sim.rdC λtv=>AA p.root p.off tv
theorem AE:∀q:List (XGP den),Sim (Y:=Y) (X.rechk bp q) (rechk (q.map erG)) id:=by
 intro q
 induction q with
 |nil=>exact .ret rfl
 |cons g q ih=>exact(cS g.p _ g.vs).bind λ_=>(AB g.p).bind λ_=>ih
theorem G9(i:Nat)(t:XV den):er (X.argT i t)=argT i (er t):=by
 cases t with
 |d t y=>cases t with
  |row o t=>cases o<;>rfl
  |nilr o=>cases o<;>rfl
  |_=>rfl
 |_=>rfl
theorem EM:∀(l:List (XV den))(i:Nat),erL (X.argTs i l)=argTs i (erL l):=by
 intro l
 induction l with
 |nil=>intro i;rfl
 |cons t l ih=>intro i;simp[X.argTs,erL,argTs,ih,G9]
theorem zL{t:XV den}(h:X.isDeadX t=false):yh (er t)=false:=by
 cases t with
 |d t y=>cases t with
  |row o t=>cases o<;>rfl
  |nilr o=>cases o<;>rfl
  |nat=>simp[X.isDeadX,X.oneT]at h
  |pair a b=>simp[X.isDeadX,X.oneT]at h
  |_=>rfl
 |dead=>simp[X.isDeadX]at h
 |_=>rfl
theorem vM:∀q:List (XGP den×List (XV den)),Sim (Y:=Y) (X.putBack bp q) (putBack (q.map λx=>(erG x.1,erL x.2))) id:=by
 intro q
 induction q with
 |nil=>exact .ret rfl
 |cons x q ih=>
  have ⟨g,l⟩:=x;refine ih.bind λ_=>Sim.ite (λh=>?_) λ_=>.fail;have ⟨h1,h2,h3⟩:=h;show Sim _ (if(erL l).length=(erL g.cells).length&&(erL l).all λt=>!yh t then putL (erP g.p) (erL l)else .fail) id;rw[oIP]
  ·exact xF g.p l
  ·simp only[oBA,oDE,cT];refine⟨h1,?_⟩;rw[fH,List.all_map,List.all_eq_true];intro t ht;have:=List.all_eq_true.1 h3 t ht;simp at this;simp[zL this]
theorem Bc:∀(sh:List RSh)(l:List (XV den)),erL (X.shapeRX sh l)=ff sh (erL l):=by
 intro sh
 induction sh with
 |nil=>intro l;rfl
 |cons s sh ih=>
  intro l
  cases s with
  |one=>
   simp only[X.shapeRX,erL];rw[ih,vi];cases l<;>rfl
  |agg n=>
   simp only[X.shapeRX,erL,ff,er];rw[ih,kU,mT]
  |ptr=>
   simp[X.shapeRX,erL,ff,er];rw[ih]
theorem uu(sh:List RSh)(l:List (XV den)):er (X.shapeTX sh l)=mp sh (erL l):=by
 unfold X.shapeTX mp;rw[<- Bc]
 cases X.shapeRX sh l with
 |nil=>rfl
 |cons x r=>cases r<;>rfl
theorem AQ(dst:Option Nat)(cells:List (XV den))(sh:List RSh):Sim (Y:=Y) (X.landR bp dst cells sh) (landR dst ⟨erL cells,sh⟩) id:=by
 cases dst with
 |none=>exact .ret rfl
 |some d=>exact(mo d cells).bind λl=>bU d (uu sh l)
theorem Cg(sh:List RSh)(cells:List (XV den)):isP ⟨erL cells,sh⟩=X.isPX sh cells:=by
 unfold isP X.isPX
 cases sh with
 |nil=>simp_all
 |cons s sh=>cases s with
  |ptr=>cases cells with
   |nil=>rfl
   |cons t r=>cases t with
    |d t y=>cases t with
     |row o t=>cases o<;>rfl
     |nilr o=>cases o<;>rfl
     |_=>rfl
    |_=>rfl
  |_=>rfl
theorem zd(t:XV den)(l:List (XV den)):er (X.shapePX t l)=xN (er t) (erL l):=by
 cases l<;>rfl
theorem AR(dst:Option Nat)(q:List (XGP den))(cells:List (XV den)):Sim (Y:=Y) (X.landP bp dst q cells) (landP dst (q.map erG) (erL cells)) id:=by
 cases dst with
 |none=>exact .ret rfl
 |some d=>
  unfold X.landP;simp only;split
  ·rename_i pl vs l g;refine Sim.ite (λhc=>?_) λ_=>.fail;show Sim _ (if pl.root==2*g.i+2&&(erP g.p).hops.isEmpty then(rdVs (ki g.p.root (g.p.off+pl.off) (erP pl).hops.length)).bind λvs=>wr d (xN (.ptr ⟨g.p.root,g.p.off+pl.off,(erP pl).hops⟩ vs) (erL l))else .fail) id;rw[oIP (by simpa[erP]using hc)];exact(o8 _).bind λvs=>bU d (zd _ l)
  ·exact .fail
theorem HI(q:List (XGP den))(l:List (Nat×List (XV den))):(q.zip (l.map (·.2))).map (λx=>(erG x.1,erL x.2))=(q.map erG).zip ((erC l).map (·.2)):=by
 induction q generalizing l with
 |nil=>rfl
 |cons g q ih=>
  cases l with
  |nil=>rfl
  |cons x l=>simp[erC,ih]
theorem y9{F:cu}(dst:Option Nat)(f:FuncId)(vals:List (XV den))(q:List (XGP den))(ow:List (Nat×XV den))(u:HL den []):∀(TB:List Ctr),(∀c∈TB,li F c)->Sim (Y:=Y) (X.callTB bp dst f vals q ow u TB) ((fK (F f (erL vals) ((q.map erG).map (λg=>(2*g.i+2,g.cells))++(ow.map λx=>(x.1,er x.2)).map λx=>(2*x.1+3,[x.2])))).bind λr=>
 if r.2.map (·.1)=(q.map erG).map (λg=>2*g.i+2)++(ow.map λx=>(x.1,er x.2)).map (λx=>2*x.1+3)&&(isP r.1||jX r.1.sh r.1.cells.length)then(putBack ((q.map erG).zip (r.2.map (·.2)))).bind λ_=>if isP r.1 then landP dst (q.map erG) r.1.cells else landR dst r.1 else .fail) id:=by
 intro TB
 induction TB with
 |nil=>intro _;exact .fail
 |cons c TB ih=>
  intro YS;have ZN:=ih λc' Xa=>YS c' (by simp[Xa]);unfold X.callTB
  cases hsel:(if c.f=f then X.convIn bp c vals (q.map (λg=>(2*g.i+2,g.cells))++ow.map λy=>(2*y.1+3,[y.2])) u else none)with
  |none=>exact ZN
  |some h=>
   by_cases hf:c.f=f
   ·rw[oIP hf]at hsel;obtain⟨e1,e2⟩:=vk hsel;intro σ k y hk;obtain⟨o,ho,hk⟩:=bz (show(c.g h).bind _=some y from hk);rw[qo (λz=>X.onOut bp z λx=>X.afterC bp dst q ow x σ k)]at hk
    cases hx:gy (c.outs.map lvO) o (λi ho=>gP c.outs i ho)with
    |none=>rw[hx]at hk;cases hk
    |some x=>
     rw[hx]at hk;have hk:X.afterC bp dst q ow x σ k=some y:=hk;unfold X.afterC at hk;have hF:=YS c (by simp) h o x ho hx
     have e3:erC (q.map (λg=>(2*g.i+2,g.cells))++ow.map λy=>(2*y.1+3,[y.2]))=(q.map erG).map (λg=>(2*g.i+2,g.cells))++(ow.map λx=>(x.1,er x.2)).map λx=>(2*x.1+3,[x.2]):=by
      unfold erC;rw[List.map_append,List.map_map,List.map_map,List.map_map,List.map_map];congr 1
     rw[e1,e2,e3,hf]at hF;rw[hF];show ∃a σ',(if(erC x.2.2).map (·.1)=(q.map erG).map (λg=>2*g.i+2)++(ow.map λx=>(x.1,er x.2)).map (λx=>2*x.1+3)&&(isP ⟨erL x.1,x.2.1⟩||jX x.2.1 (erL x.1).length)then _ else _:SP Unit).run (erS σ)=_/\iR σ σ' ((if(erC x.2.2).map (·.1)=(q.map erG).map (λg=>2*g.i+2)++(ow.map λx=>(x.1,er x.2)).map (λx=>2*x.1+3)&&(isP ⟨erL x.1,x.2.1⟩||jX x.2.1 (erL x.1).length)then _ else _:SP Unit).foot (erS σ))/\_;split at hk
     ·rename_i hc;rw[oIP]
      ·have h4:Sim (Y:=Y) (X.bind (X.putBack bp (q.zip (x.2.2.map (·.2)))) λ_=>if X.isPX x.2.1 x.1 then X.landP bp dst q x.1 else X.landR bp dst x.1 x.2.1) ((putBack ((q.map erG).zip ((erC x.2.2).map (·.2)))).bind λ_=>if isP ⟨erL x.1,x.2.1⟩then landP dst (q.map erG) (erL x.1)else landR dst ⟨erL x.1,x.2.1⟩) id:=by
        rw[<- HI,Cg];refine(vM _).bind λ_=>?_
        cases X.isPX x.2.1 x.1 with
        |true=>exact AR dst q x.1
        |false=>exact AQ dst x.1 x.2.1
       exact h4 σ k y hk
      ·rw[Cg];simp only[oBA,oDE,cT];refine⟨?_,hc.2⟩
       have h5:(erC x.2.2).map (·.1)=x.2.2.map (·.1):=by unfold erC;rw[List.map_map];exact List.map_congr_left λ_ _=>rfl
       have h6:(q.map erG).map (λg=>2*g.i+2)=q.map (λg=>2*g.i+2):=by rw[List.map_map];exact List.map_congr_left λ_ _=>rfl
       have h7:(ow.map λx=>(x.1,er x.2)).map (λx=>2*x.1+3)=ow.map (λy=>2*y.1+3):=by simp_all
       rw[h5,h6,h7];exact hc.1
     ·cases hk
   ·rw[oIN hf]at hsel;cases hsel
end
section
variable {α β γ δ Y:Type}
theorem up{F:cu}{TB:List Ctr}(YS:∀c∈TB,li F c)(u:HL den [])(dst:Option Nat)(f:FuncId)(ns:List (Option Nat))(vals:List (XV den)):Sim (Y:=Y) (X.callV bp TB u dst f ns vals) (callV F dst f ns (erL vals)) id:=by
 have ez:∀(ns:List (Option Nat))(vals:List (XV den)),(ns.zip vals).map (λx=>(x.1,er x.2))=ns.zip (erL vals):=by
  intro ns
  induction ns with
  |nil=>simp_all
  |cons n ns ih=>
   intro vals
   cases vals with
   |nil=>rfl
   |cons v vals=>simp[erL,ih]
 unfold callV;rw[<- ez];refine(um _ 0).bind λow=>(AT _ 0).bind λq=>(AE q).bind λ_=>Sim.ite (λh=>?_) λ_=>.fail;rw[oIP]
 ·rw[<- EM];exact y9 dst f _ q ow u TB YS
 ·rw[List.map_map,List.all_map];simp only[oBA]at h⊢;refine⟨h.1,?_⟩;rw[List.all_eq_true]at h⊢;intro g hg;have:=h.2 g hg;simpa[erG,cT]using this
theorem AW(dst:Option Nat)(tm:List BxC)(vals:List (XV den))(hok:tm.all X.boxOk=true):Sim (Y:=Y) (X.evBox bp dst tm vals) (evBox dst tm (erL vals)) id:=by
 cases dst with
 |none=>exact .fail
 |some d=>
  have e:erL (tm.map (X.bxX bp vals))=tm.map (bxT (erL vals)):=by
   rw[fH,List.map_map];refine List.map_congr_left λb hb=>?_;have:=List.all_eq_true.1 hok b hb
   cases b with
   |arg i=>exact pj vals i
   |val x=>
    show er (X.cellX bp x)=.v x;rw[po];simp[X.boxOk]at this;unfold bQ;split
    all_goals simp_all
  show Sim _ ((takeL false (tm.map (bxT (erL vals)))).bind _) id;rw[<- e];exact(iV false _).bind λl=>Sim.new rfl (Sim.rdV λg=>bU d rfl)
theorem xE(x:XV den):Sim (Y:=Y) (X.see1 bp x) (see1 (er x)) er:=by
 cases x with
 |d t y=>cases t with
  |int k=>exact .ret rfl
  |bool=>exact .ret rfl
  |str=>exact .ret rfl
  |nat=>exact .fail
  |row o t=>cases o<;>first|exact .fail|exact .ret rfl
  |nilr o=>cases o<;>exact .ret rfl
  |pair a b=>exact .fail
 |k y=>exact .ret rfl
 |pk p vs=>
  refine(cS p _ vs).bind λ_=>Sim.rdC λtv=>o9 λv hv=>?_;refine Sim.ite (λho=>?_) λ_=>.fail;have ⟨c,hc⟩:=iD ho
  have YD:bJ (er tv) (erP p).hops=some (.ow c):=by rw[<- hc];exact hv
  simp[YD];intro σ k y hk
  cases hi:X.immX bp v with
  |none=>rw[hi]at hk;cases hk
  |some v'=>
   rw[hi]at hk;exact Sim.ret (by rw[p8 hi,hc]) σ k y hk
 |_=>exact .fail
theorem Du:∀l:List (XV den),Sim (Y:=Y) (X.seeL bp l) (seeL (erL l)) erL:=by
 intro l
 induction l with
 |nil=>exact .ret rfl
 |cons t r ih=>exact(xE t).bind λt'=>ih.bind λr'=>.ret rfl
theorem Dv(t:XV den):Sim (Y:=Y) (X.seeA bp t) (seeA (er t)) er:=by
 have ZP:=xE (Y:=Y) t
 cases t with
 |agg l=>exact(Du l).bind λl'=>.ret rfl
 |ip cs=>exact .ret rfl
 |fn f cap=>
  refine Sim.ite (λh=>?_) λ_=>.fail;show Sim _ (if(erL cap).all uU then .ret (.fn f (erL cap))else .fail) er;rw[oIP (tg h)];exact .ret rfl
 |d t y=>cases t with
  |row o t=>cases o<;>exact ZP
  |nilr o=>cases o<;>exact ZP
  |_=>exact ZP
 |_=>exact ZP
theorem AD:∀l:List Opd,Sim (Y:=Y) (X.seeAs bp l) (seeAs l) erL:=by
 intro l
 induction l with
 |nil=>exact .ret rfl
 |cons x r ih=>exact bu λt=>(Dv t).bind λt'=>ih.bind λl=>.ret rfl
theorem yq{l:List (XV den)}(h:l.all X.flatX=true):(erL l).all vB=true:=by
 rw[fH,List.all_map,List.all_eq_true];intro x hx;have:=List.all_eq_true.1 h x hx
 cases x with
 |d t y=>cases t<;>first|rfl|simp[X.flatX]at this
 |k y=>exact this
 |_=>simp[X.flatX]at this
theorem A0{F:cu}(dst:Option Nat)(f:FuncId)(vals:List (XV den))(u:HL den []):∀(TB:List Ctr),(∀c∈TB,li F c)->Sim (Y:=Y) (X.callB bp dst f vals u TB) (callB F dst f (erL vals)) id:=by
 intro TB
 induction TB with
 |nil=>intro _;exact .fail
 |cons c TB ih=>
  intro YS;have ZN:=ih λc' Xa=>YS c' (by simp[Xa]);unfold X.callB
  cases hsel:(if c.f=f then X.convIn bp c vals [] u else none)with
  |none=>exact ZN
  |some h=>
   by_cases hf:c.f=f
   ·rw[oIP hf]at hsel;obtain⟨e1,e2⟩:=vk hsel;intro σ k y hk;have ⟨o,ho,hk⟩:=bz (show(c.g h).bind _=some y from hk);rw[qo (λz=>X.onOut bp z λx=>X.afterB bp dst x σ k)]at hk
    cases hx:gy (c.outs.map lvO) o (λi ho=>gP c.outs i ho)with
    |none=>rw[hx]at hk;cases hk
    |some x=>
     rw[hx]at hk;have hk:X.afterB bp dst x σ k=some y:=hk;unfold X.afterB at hk;have hF:=YS c (by simp) h o x ho hx;rw[e1,e2,hf]at hF;have hF:F f (erL vals) []=some (⟨erL x.1,x.2.1⟩,erC x.2.2):=hF;unfold callB;rw[hF];show ∃a σ',(if(erC x.2.2).length=0&&(erL x.1).all vB&&jX x.2.1 (erL x.1).length then _ else _:SP Unit).run (erS σ)=_/\iR σ σ' ((if(erC x.2.2).length=0&&(erL x.1).all vB&&jX x.2.1 (erL x.1).length then _ else _:SP Unit).foot (erS σ))/\_;split at hk
     ·rename_i hc;rw[oIP]
      ·cases dst with
       |none=>exact Sim.ret (a:=()) (f:=id) rfl σ k y hk
       |some d=>exact bU d (uu x.2.1 x.1) σ k y hk
      ·simp only[oBA,cT];refine⟨⟨?_,yq hc.2.1⟩,hc.2.2⟩;unfold erC
       simp_all
     ·cases hk
   ·simp_all
theorem zM(zs:List Int):mN (zs.map lU)=some zs:=by
 induction zs with
 |nil=>rfl
 |cons z zs ih=>simp only[List.map_cons,lU,mN]at ih⊢;rw[ih];rfl
theorem pF(dst:Option Nat)(k:Nat)(p:XP den)(vs:List Nat)(m:Nat):Sim (Y:=Y) (X.rowLand bp dst k p vs m) (rowLand dst k (erP p) vs m) id:=by
 cases dst with
 |none=>exact .ret rfl
 |some d=>
  refine Sim.ite (λh=>?_) λh=>?_
  ·show Sim _ (if k=1 then wr d (.tup [])else wr d (.pw (erP p) vs 1 0 m)) id;rw[oIP h];exact bU d rfl
  ·show Sim _ (if k=1 then wr d (.tup [])else wr d (.pw (erP p) vs 1 0 m)) id;rw[oIN h];exact bU d rfl
theorem AV(dst:Option Nat)(k:Nat)(t:XV den):Sim (Y:=Y) (X.evRow bp dst k t) (evRow dst k (er t)) id:=by
 cases t with
 |pk p vs=>
  refine(cS p 1 vs).bind λ_=>?_;obtain⟨r,o,hs⟩:=p
  cases hs with
  |cons h hs=>exact .fail
  |nil=>
   refine Sim.rdC λtv=>?_
   cases tv with
   |d t y=>cases t with
    |row o t=>cases o with
     |false=>exact .fail
     |true=>cases t with
      |int kk=>cases kk with
       |i64=>
        show Sim _ (match mN (List.map lU y)with|some zs=>_|none=>_) id;rw[zM];refine Sim.br λh=>?_;have h:y.length<4611686018427387904:=Nat.le_of_ble_eq_true h;show Sim _ (if y.length<4611686018427387904 then _ else _) id;rw[oIP h];exact Sim.wrC rfl (pF dst k _ vs _)
       |_=>exact .fail
      |_=>exact .fail
    |nilr o=>cases o with
     |false=>exact .fail
     |true=>
      have h:=pF (Y:=Y) dst k ⟨r,o,[]⟩ vs 0;rw[<- mu]at h;exact Sim.wrC (by rw[xP];rfl) h
    |_=>exact .fail
   |_=>exact .fail
 |d t y=>cases t with
  |row o t=>cases o<;>exact .fail
  |nilr o=>cases o<;>exact .fail
  |_=>exact .fail
 |_=>exact .fail
theorem yZ(dst:Option Nat)(k:Nat)(args:List (Option Nat×Opd)):Sim (Y:=Y) (X.evRowA bp dst k args) (evRowA dst k args) id:=by
 cases args with
 |nil=>exact .fail
 |cons x args=>
  cases args with
  |nil=>exact(lL x.2).bind λt=>AV dst k t
  |cons y args=>exact .fail
theorem y8{F:cu}{TB:List Ctr}(YS:∀c∈TB,li F c)(E:Env)(u:HL den [])(dst:Option Nat)(op:TOp):Sim (Y:=Y) (X.evCall bp E TB u dst op) (evCall E F dst op) id:=by
 cases op with
 |call k f args=>
  cases f with
  |f f=>
   by_cases hrow:E.row f≠0
   ·have e1:X.evCall (X:=Y) bp E TB u dst (.call k (.f f) args)=X.evRowA bp dst (E.row f) args:=oIP hrow;have e2:evCall E F dst (.call k (.f f) args)=evRowA dst (E.row f) args:=oIP hrow;rw[e1,e2];exact yZ dst _ args
   have e1:X.evCall (X:=Y) bp E TB u dst (.call k (.f f) args)=if k then X.bind (X.argVs bp args) λvals=>(match E.box f with
    |some x=>if vals.length=x.1/\x.2.all X.boxOk=true then X.evBox bp dst x.2 vals else X.fail bp
    |none=>X.callV bp TB u dst f (args.map (·.1)) vals)else X.bind (X.seeAs bp (args.map (·.2))) λvals=>X.callB bp dst f vals u TB:=oIN hrow
   have e2:evCall E F dst (.call k (.f f) args)=if k then(argVs args).bind λvals=>(match E.box f with
    |some x=>if vals.length=x.1 then evBox dst x.2 vals else .fail
    |none=>callV F dst f (args.map (·.1)) vals)else(seeAs (args.map (·.2))).bind λvals=>callB F dst f vals:=oIN hrow
   rw[e1,e2]
   cases k with
   |false=>exact(AD _).bind λvals=>A0 dst f vals u TB YS
   |true=>
   refine(uq _).bind λvals=>?_
   cases hb:E.box f with
   |none=>exact up YS u dst f _ vals
   |some x=>
    refine Sim.ite (λh=>?_) λ_=>.fail;show Sim _ (if(erL vals).length=x.1 then evBox dst x.2 (erL vals)else .fail) id;rw[oIP (by rw[cT];exact h.1)];exact AW dst x.2 vals h.2
  |t i=>
   refine Sim.rdT λt=>?_
   cases t with
   |fn f caps=>
    refine(uq _).bind λvals=>?_;have:=up (Y:=Y) YS u dst f (args.map (·.1)++CX E f args.length caps.length) (vals++caps);rw[kV]at this;show Sim _ (callV F dst f (args.map (·.1)++CX E f args.length (erL caps).length) (erL vals++erL caps)) id;rw[cT];exact this
   |d t y=>cases t with
    |row o t=>cases o<;>exact .fail
    |nilr o=>cases o<;>exact .fail
    |_=>exact .fail
   |_=>exact .fail
  |c x=>exact .fail
 |_=>exact .fail
theorem AN{F:cu}{C:X.Cfg}(YS:∀c∈C.TB,li F c)(u:HL den [])(dst:Option Nat)(op:TOp):Sim (Y:=Y) (X.evop bp C u dst op) (evop (evCall C.E F) dst op) id:=by
 have ZP:∀d,Sim (Y:=Y) (X.ev1 bp C.HT d op) (ev1 d op) id:=λd=>HO C.HT d op;have kc:=y8 (Y:=Y) YS C.E u dst op
 cases op with
 |call k f args=>exact kc
 |store n mv a x=>cases dst with
  |none=>exact ZP 0
  |some d=>exact .fail
 |_=>cases dst with
  |none=>exact .fail
  |some d=>exact ZP d
theorem pE(dst:Option Nat):Sim (Y:=Y) (X.setNo bp dst) (setNo dst) id:=by
 cases dst with
 |none=>exact .ret rfl
 |some d=>exact pD d (.tup [])
theorem yf{σ:XS den}{j:Nat}{b:Bool}(h:X.tOf σ j=.d .bool b):erS (X.known bp j b σ)=erS σ:=by
 have h1:bO σ.tm j=some (.d .bool b):=by
  unfold X.tOf at h
  cases hg:bO σ.tm j with
  |none=>simp_all
  |some t=>simp_all
 have:=nv h1;show(⟨(cM σ.tm j (.d .bool b)).map _,erC σ.ce,σ.vr⟩:St)=_;rw[this];rfl
theorem xC{F:cu}{C:X.Cfg}(YS:∀c∈C.TB,li F c)(u:HL den [])(o:eB):Sim (Y:=Y) (X.spOp bp C u o) (spOp (evCall C.E F) o) id:=by
 unfold X.spOp spOp
 cases hg:o.guard with
 |none=>exact AN YS u o.dst o.op
 |some g=>
  obtain⟨j,want⟩:=g;intro σ k y hk
  cases ht:X.tOf σ j with
  |d t b=>cases t with
   |bool=>
    have hk:(bif b then((if want then X.evop bp C u o.dst o.op else X.setNo bp o.dst) (X.known bp j true (X.lgR (.t j) σ)) k)else((if want then X.setNo bp o.dst else X.evop bp C u o.dst o.op) (X.known bp j false (X.lgR (.t j) σ)) k))=some y:=by
     have hk:X.guardX bp j want (X.evop bp C u o.dst o.op) (X.setNo bp o.dst) (X.tOf σ j) (X.lgR (.t j) σ) k=some y:=hk;rw[ht]at hk;exact hk
    have ZP:∀(m:XM den Option Y Unit)(s:SP Unit),Sim m s id->m (X.known bp j b (X.lgR (.t j) σ)) k=some y->∃a σ',s.run (erS σ)=some (id a,erS σ')/\iR σ σ' (.t j::(s.foot (erS σ)).1,(s.foot (erS σ)).2)/\k a σ'=some y:=by
     intro m s hm h;have e:erS (X.known bp j b (X.lgR (.t j) σ))=erS σ:=yf (σ:=X.lgR (.t j) σ) ht;obtain⟨a,σ',r1,n1,k1⟩:=hm _ k y h;rw[e]at r1 n1;refine⟨a,σ',r1,⟨λx hx=>?_,λx hx=>n1.w x hx,λx hx=>n1.r0 x (by simp[X.known,X.lgR,hx]),λx hx=>n1.w0 x (by simpa[X.known,X.lgR]using hx)⟩,k1⟩;rcases List.mem_cons.1 hx with h|h
     ·exact n1.r0 x (by simp[X.known,X.lgR,h])
     ·exact n1.r x h
    have hst:(erS σ).t j=.v (.bool b):=by rw[Ew,ht];rfl
    have res:∀(s:SP Unit),(if b=want then evop (evCall C.E F) o.dst o.op else setNo o.dst)=s->(∃a σ',s.run (erS σ)=some (id a,erS σ')/\iR σ σ' (.t j::(s.foot (erS σ)).1,(s.foot (erS σ)).2)/\k a σ'=some y)->∃a σ',(SP.rdT j λt=>match t with|.v (.bool b)=>if b=want then evop (evCall C.E F) o.dst o.op else setNo o.dst|.tup []=>setNo o.dst|_=>.fail).run (erS σ)=some (id a,erS σ')/\iR σ σ' ((SP.rdT j λt=>match t with|.v (.bool b)=>if b=want then evop (evCall C.E F) o.dst o.op else setNo o.dst|.tup []=>setNo o.dst|_=>.fail).foot (erS σ))/\k a σ'=some y:=by
     rintro s hs ⟨a,σ',r1,n1,k1⟩;refine⟨a,σ',?_,?_,k1⟩
     ·simp only[SP.run,hst,hs];exact r1
     ·simp only[SP.foot,hst,hs];exact n1
    cases b with
    |true=>
     cases want with
     |true=>exact res _ (oIP rfl) (ZP _ _ (AN YS u o.dst o.op) hk)
     |false=>exact res _ (oIN (by simp)) (ZP _ _ (pE o.dst) hk)
    |false=>
     cases want with
     |true=>exact res _ (oIN (by simp)) (ZP _ _ (pE o.dst) hk)
     |false=>exact res _ (oIP rfl) (ZP _ _ (AN YS u o.dst o.op) hk)
   |_=>
    have hk:X.guardX bp j want (X.evop bp C u o.dst o.op) (X.setNo bp o.dst) (X.tOf σ j) (X.lgR (.t j) σ) k=some y:=hk;rw[ht]at hk;cases hk
  |tup l=>
   have hk:X.guardX bp j want (X.evop bp C u o.dst o.op) (X.setNo bp o.dst) (X.tOf σ j) (X.lgR (.t j) σ) k=some y:=hk;rw[ht]at hk
   cases l with
   |cons=>cases hk
   |nil=>
    have hst:(erS σ).t j=.tup []:=by rw[Ew,ht];rfl
    obtain⟨a,σ',r1,n1,k1⟩:=pE o.dst (X.lgR (.t j) σ) k y hk;refine⟨a,σ',?_,?_,k1⟩
    ·simp only[SP.run,hst];exact r1
    ·simp only[SP.foot,hst];refine⟨λx hx=>?_,n1.w,λx hx=>n1.r0 x (by simp[X.lgR,hx]),λx hx=>n1.w0 x hx⟩;rcases List.mem_cons.1 hx with h|h
     ·exact n1.r0 x (by simp[X.lgR,h])
     ·exact n1.r x h
  |_=>
   have hk:X.guardX bp j want (X.evop bp C u o.dst o.op) (X.setNo bp o.dst) (X.tOf σ j) (X.lgR (.t j) σ) k=some y:=hk;rw[ht]at hk;cases hk
end
section
variable {α β γ δ Y:Type}
theorem Dq{F:cu}{C:X.Cfg}(YS:∀c∈C.TB,li F c)(u:HL den []):∀(ops:List eB){σ:XS den}{k:Unit->XS den->Option Y}{y:Y},X.spOps bp C u ops σ k=some y->∃ σ',mt (evCall C.E F) ops (erS σ)=some (erS σ')/\k () σ'=some y:=by
 intro ops
 induction ops with
 |nil=>intro σ k y h;exact⟨σ,rfl,h⟩
 |cons o ops ih=>
  intro σ k y h;have ⟨a,σ1,r1,_,h1⟩:=xC YS u o σ _ y h;have ⟨σ',r2,h2⟩:=ih h1;refine⟨σ',?_,h2⟩;simp[mt];rw[xA r1];exact r2
def yn(f g:k9):Prop:=(∀x∈f.1,x∈g.1)/\∀x∈f.2,x∈g.2
inductive Hz:List (Nat×k9)->List (Nat×k9)->Prop
 |nil:Hz [] []
 |cons {i:Nat} {f g:k9} {l r:List (Nat×k9)} (h:yn f g) (t:Hz l r):Hz ((i,f)::l) ((i,g)::r)
theorem mG{a a' b b':List Loc}(ha:∀x∈a,x∈a')(hb:∀x∈b,x∈b')(h:zH a' b'=false):zH a b=false:=by
 unfold zH at h⊢
 simp_all
theorem Ae{f f' g g':k9}(h1:yn f f')(h2:yn g g')(h:jz f' g'=false):jz f g=false:=by
 unfold jz at h⊢;simp at h⊢;have ⟨⟨⟨a,b⟩,c⟩,d⟩:=h;exact⟨⟨⟨mG h1.2 h2.1 a,mG h1.2 h2.2 b⟩,mG h2.2 h1.1 c⟩,mG h2.2 h1.2 d⟩
theorem BS{deps:List (List Nat)}{j:Nat}{f f':k9}(hf:yn f f'){l r:List (Nat×k9)}(h:Hz l r):(r.all λy=>!jz f' y.2||(deps.getD y.1 []).contains j)=true->(l.all λy=>!jz f y.2||(deps.getD y.1 []).contains j)=true:=by
 induction h with
 |nil=>exact id
 |cons h t ih=>
  intro hr;simp only[List.all_cons,oBA]at hr⊢;refine⟨?_,ih hr.2⟩;simp at hr⊢;rcases hr.1 with h3|h3
  ·exact .inl (Ae hf h h3)
  ·simp_all
theorem uI{deps:List (List Nat)}{l r:List (Nat×k9)}(h:Hz l r):ew deps r=true->ew deps l=true:=by
 induction h with
 |nil=>exact id
 |cons h t ih=>
  intro hr;simp only[ew,oBA]at hr⊢;exact⟨BS h t hr.1,ih hr.2⟩
theorem FE{F:cu}{C:X.Cfg}(YS:∀c∈C.TB,li F c)(u:HL den [])(ops:List eB):∀(L:List Nat){σ:XS den}{k:List (Nat×k9)->XS den->Option Y}{y:Y},X.spFL bp C u ops L σ k=some y ->
 ∃fs gs σ',la (λi=>spOp (evCall C.E F) (ops.getD i vA)) L (erS σ)=some (fs,erS σ')/\Hz fs gs/\k gs σ'=some y:=by
 intro L
 induction L with
 |nil=>intro σ k y h;exact⟨[],[],σ,rfl,.nil,h⟩
 |cons i L ih=>
  intro σ k y h;have ⟨a,σ1,r1,n1,h1⟩:=xC YS u _ _ _ y h;have r1:(spOp (evCall C.E F) (ops.getD i vA)).run (erS σ)=some (a,erS σ1):=r1;have ⟨fs,gs,σ',r2,le,h2⟩:=ih h1;refine⟨(i,(spOp (evCall C.E F) (ops.getD i vA)).foot (erS σ))::fs,(i,σ1.lg)::gs,σ',?_,.cons ⟨n1.r,n1.w⟩ le,h2⟩;simp[la]
  simp_all
theorem nM(L:List Nat)(σ:XS den){t:XV den}(h:X.okN0 t=true):er (X.renorm0 L σ t)=renorm0 L (erS σ) (er t):=by
 cases t with
 |d t x=>cases t with
  |row o t=>cases o<;>first|rfl|simp[X.okN0]at h
  |nilr o=>cases o<;>rfl
  |nat=>simp[X.okN0]at h
  |pair a b=>simp[X.okN0]at h
  |_=>rfl
 |ptr p vs=>
  show er (if _ then _ else _)=(if _ then _ else _);by_cases hc:(L.contains p.root&&vs==fa (lH σ.vr) p.root p.off p.hops.length)=true
  ·rw[oIP hc,oIP (by exact hc)];rfl
  ·rw[oIN hc,oIN (by exact hc)];rfl
 |pk p vs=>
  show er (if _ then _ else _)=(if _ then _ else _);by_cases hc:(L.contains p.root&&vs==fa (lH σ.vr) p.root p.off (p.hops.length+1))=true
  ·rw[oIP hc,oIP (by exact hc)];rfl
  ·rw[oIN hc,oIN (by exact hc)];rfl
 |pw p vs sz lo n=>
  show er (if _ then _ else _)=(if _ then _ else _);by_cases hc:(L.contains p.root&&vs==fa (lH σ.vr) p.root p.off (p.hops.length+1))=true
  ·rw[oIP hc,oIP (by exact hc)];rfl
  ·rw[oIN hc,oIN (by exact hc)];rfl
 |tup l=>cases l<;>rfl
 |gap=>simp[X.okN0]at h
 |_=>rfl
theorem Bx(L:List Nat)(σ:XS den){t:XV den}(h:X.okN t=true):er (X.renorm L σ t)=renorm L (erS σ) (er t):=by
 have ZP:X.okN0 t=true->er (X.renorm0 L σ t)=renorm0 L (erS σ) (er t):=λh=>nM L σ h
 cases t with
 |agg l=>
  simp only[X.renorm,er,renorm,fH,List.map_map];congr 1;refine List.map_congr_left λx hx=>nM L σ (List.all_eq_true.1 h x hx)
 |fn f l=>
  simp only[X.renorm,er,renorm,fH,List.map_map];congr 1;refine List.map_congr_left λx hx=>nM L σ (List.all_eq_true.1 h x hx)
 |d t x=>
  have:=ZP h
  cases t with
  |row o t=>cases o<;>exact this
  |nilr o=>cases o<;>exact this
  |_=>exact this
 |_=>exact ZP h
theorem EQ{α:Type}{P:α->Bool}:∀{l:List (Nat×α)}{i:Nat}{t:α},(l.all λx=>P x.2)=true->bO l i=some t->P t=true:=by
 intro l
 induction l with
 |nil=>intro i t _ h;simp[bO]at h
 |cons x l ih=>
  intro i t ha h;simp only[List.all_cons,oBA]at ha;simp[bO]at h;split at h
  ·simp_all
  ·exact ih ha.2 h
theorem D1(L:List Nat)(σ:XS den)(hok:X.okS σ=true):∀l:List Nat,(X.normT L σ l).map (λx=>(x.1,er x.2))=normT L (erS σ) l:=by
 intro l
 induction l with
 |nil=>rfl
 |cons i l ih=>
  simp[X.normT,normT];have e:bO (erS σ).tm i=(bO σ.tm i).map er:=pq _ _ _;rw[e]
  cases h:bO σ.tm i with
  |none=>exact ih
  |some t=>
   have ht:=EQ hok h;simp only[oMS,List.map_cons];rw[Bx L σ ht,ih]
theorem D2(σ:XS den):∀l:List Nat,erC (X.normC σ l)=normC (erS σ) l:=by
 intro l
 induction l with
 |nil=>rfl
 |cons r l ih=>
  simp[X.normC,normC];rw[r9]
  cases h:bO σ.ce r with
  |none=>exact ih
  |some c=>
   simp;show(r,erL c)::erC _=_;rw[ih]
theorem sJ{σ:XS den}(hok:X.okS σ=true)(pers:Prs):erS (X.norm σ pers)=(erS σ).norm pers:=by
 unfold X.norm St.norm;show(⟨(X.normT pers.2 σ pers.1).map _,erC (X.normC σ pers.2),[]⟩:St)=_;rw[D1 _ σ hok,D2]
theorem xp{σ:XS den}(hok:X.okS σ=true):erS (X.anew σ)=(erS σ).anew:=by
 unfold X.anew St.anew;rw[sJ hok];congr 1;congr 1
 ·show _=(σ.tm.map λx=>(x.1,er x.2)).map (·.1)
  simp_all
 ·show _=(erC σ.ce).map (·.1);unfold erC
  simp_all
theorem Dt(x:Nat×Option Nat):Sim (Y:=Y) (X.shr1 bp x) (shr1 x) id:=by
 obtain⟨i,off⟩:=x;refine Sim.rdT λt=>?_
 cases off with
 |none=>cases t with
  |pk p vs=>
   refine(dm false (.pk p vs)).bind λt'=>Sim.opt λt2 h2=>?_;rw[<- p8 h2];exact pD i t2
  |d t y=>cases t with
   |row o t=>cases o<;>exact .ret rfl
   |nilr o=>cases o<;>exact .ret rfl
   |_=>exact .ret rfl
  |agg l=>exact Sim.ite (λ_=>.fail) λ_=>.ret rfl
  |_=>exact .fail
 |some off=>cases t with
  |ptr p vs=>
   refine(cS p _ vs).bind λ_=>Sim.ite (λh=>?_) λ_=>.fail;rw[oIP (by rw[<- tJ];exact h),<- wR];refine(fC _).bind λt=>Sim.ite (λho=>?_) λho=>?_
   ·obtain⟨c,hc⟩:=iD ho;have TP:=fw (Y:=Y) (X.addP p off) t;rw[hc]at TP;rw[hc];exact TP.bind λt'=>(dm false t').bind λ_=>.ret rfl
   ·cases t with
    |d t y=>
     cases t with
     |row o t=>cases o<;>first|exact .ret rfl|simp[X.isOwX,X.isOwT]at ho
     |nilr o=>cases o<;>first|exact .ret rfl|simp[X.isOwX,X.isOwT]at ho
     |_=>exact .ret rfl
    |_=>exact .fail
  |d t y=>cases t with
   |row o t=>cases o<;>exact .fail
   |nilr o=>cases o<;>exact .fail
   |_=>exact .fail
  |_=>exact .fail
theorem xD:∀l:List (Nat×Option Nat),Sim (Y:=Y) (X.shrs bp l) (shrs l) id:=by
 intro l
 induction l with
 |nil=>exact .ret rfl
 |cons x l ih=>exact(Dt x).bind λ_=>ih
theorem AI(r:Nat):∀n o:Nat,Sim (Y:=Y) (X.rdImmM bp r n o) (zn r n o) erL:=by
 intro n
 induction n with
 |zero=>intro o;exact .ret rfl
 |succ n ih=>
  intro o;refine Sim.rdC λt=>Sim.ite (λh=>?_) λh=>.fail;rw[oIP (te h)];exact(ih (o+1)).bind λl=>.ret rfl
theorem FS(i n:Nat):Sim (Y:=Y) (X.frzM bp i n) (I0 i n) id:=by
 refine Sim.rdT λt=>?_
 cases t with
 |ptr p vs=>
  refine Sim.ite (λh=>?_) λh=>.fail;show Sim _ (if(erP p).root=2*i+2/\(erP p).off=0/\(erP p).hops=[]then _ else _) id;rw[oIP (by unfold erP;exact h)];refine(cS p 0 vs).bind λ_=>(AI _ n 0).bind λl=>?_;exact Sim.new rfl (pD i (.ip l))
 |_=>exact .fail
theorem F9{i:Nat}{σ:XS den}{u:HL den []}:∀{L:List vz}{H:vz}{h:HL den (lvS H.s)},X.selH bp i σ u L=some ⟨H,h⟩->X.convS bp H.s σ u=some h:=by
 intro L
 induction L with
 |nil=>intro H h hs;cases hs
 |cons H0 L ih=>
  intro H h hs;unfold X.selH at hs
  grind
theorem sa{Z:Type}{outs:List (fL×Shs)}{i:Nat}{h:HL den (sI (outs.map λx=>lvS x.2) i)}{o:so (outs.map λx=>lvS x.2)}{x:fL×XS den}(K:fL×XS den->Option Z)(hm:nR (outs.map λx=>lvS x.2) i h=some o)(hf:ou outs i h=some x):(gy (outs.map λx=>lvS x.2) o λj ho=>X.onOut bp (ou outs j ho) K)=K x:=by
 rw[sb _ hm,hf];rfl
theorem Dw{F:cu}{C:X.Cfg}(YS:∀c∈C.TB,li F c)(u:HL den []){N:Nat}(hN:NN<=N):∀(tc:eC)(i:Nat){Y:Type}(σ:XS den)(k:fL->XS den->Option Y)(y:Y),X.runC bp C u tc i σ k=some y->∃e σ',runC (evCall C.E F) N tc (erS σ)=some (e,erS σ')/\k e σ'=some y:=by
 intro tc
 induction tc with
 |skip=>intro i Y σ k y h;exact⟨.normal,σ,rfl,h⟩
 |frz j n a ih=>
  intro i Y σ k y h
  have h:X.frzM bp j n σ (λ_ σ'=>if X.okS σ' then X.runC bp C u a i (X.anew σ') k else none)=some y:=by
   unfold X.runC at h;exact h
  obtain⟨_,σ1,r1,_,h1⟩:=FS j n σ _ y h;split at h1
  ·rename_i hok;obtain⟨e,σ2,r2,h2⟩:=ih _ _ k y h1;refine⟨e,σ2,?_,h2⟩;simp only[runC];rw[r1];simp only[oBS];rw[<- xp hok];exact r2
  ·cases h1
 |nrm pers=>
  intro i Y σ k y h;have h:(if X.okS σ then k .normal (X.norm σ pers)else none)=some y:=h;split at h
  ·rename_i hok;exact⟨.normal,X.norm σ pers,by rw[sJ hok];rfl,h⟩
  ·cases h
 |reg id draw ops pers=>
  intro i Y σ k y h
  cases draw with
  |none=>
   have h:X.spOps bp C u ops σ (λ_ σ'=>if X.okS σ' then k .normal (X.norm σ' pers)else none)=some y:=h;obtain⟨σ1,r1,h1⟩:=Dq YS u ops h;split at h1
   ·rename_i hok;refine⟨.normal,X.norm σ1 pers,?_,h1⟩;simp only[runC];rw[r1,sJ hok];rfl
   ·cases h1
  |some deps=>
   have h:X.spFL bp C u ops (List.range ops.length) σ (λfs σ'=>if mC deps fs&&X.okS σ' then k .normal (X.norm σ' pers)else none)=some y:=h;obtain⟨fs,gs,σ1,r1,le,h1⟩:=FE YS u ops _ h;split at h1
   ·rename_i hok;simp only[oBA]at hok;rw[wj]at hok;refine⟨.normal,X.norm σ1 pers,?_,h1⟩;simp only[runC];rw[r1,sJ hok.2];simp only[oBS];rw[oIP (uI le hok.1)]
   ·cases h1
 |seq a b Zg Zb=>
  intro i Y σ k y h
  have fin:∀(e:fL)(σ1:XS den),runC (evCall C.E F) N a (erS σ)=some (e,erS σ1)->(match e with|.normal=>X.runC bp C u b (i+1+X.marks a) σ1 k|e=>k e σ1)=some y->∃e σ',runC (evCall C.E F) N (.seq a b) (erS σ)=some (e,erS σ')/\k e σ'=some y:=by
   intro e σ1 r1 h1;simp only[runC];rw[r1];simp only[oBS]
   cases e with
   |normal=>exact Zb _ σ1 k y h1
   |exit j=>exact⟨_,σ1,rfl,h1⟩
   |ret=>exact⟨_,σ1,rfl,h1⟩
  unfold X.runC at h
  cases hs:X.selJ i C.HL with
  |none=>
   rw[hs]at h;obtain⟨e,σ1,r1,h1⟩:=Zg _ σ _ y h;exact fin e σ1 r1 h1
  |some H=>
   rw[hs]at h;obtain⟨o,h1,h2⟩:=bz (show(X.runC bp C u a (i+1) σ _:Option _).bind _=some y from h);obtain⟨e,σ1,r1,h3⟩:=Zg _ σ _ o h1
   cases hi:X.injE bp e σ1 u H.outs with
   |none=>rw[hi]at h3;cases h3
   |some x=>
    rw[hi]at h3;obtain⟨j,ho⟩:=x;have h3:nR (H.outs.map λx=>lvS x.2) j ho=some o:=h3;obtain⟨x,hf,he,hσ⟩:=Cj hi;rw[sa _ h3 hf]at h2;rw[<- hσ]at r1;rw[<- he]at r1;exact fin x.1 x.2 r1 h2
 |cond c a b Zg Zb=>
  intro i Y σ k y h
  have h:X.opd bp c σ (λt _=>X.condX bp (X.runC bp C u a i (X.knownO bp c true σ) k) (X.runC bp C u b (i+X.marks a) (X.knownO bp c false σ) k) t)=some y:=by
   unfold X.runC at h;exact h
  obtain⟨t,σ1,r1,e1,_,h1⟩:=pa h
  cases t with
  |d t x=>cases t with
   |bool=>
    have QB:erS (X.knownO bp c x σ)=erS σ:=by
     cases c with
     |t j=>
      have hj:X.tOf σ j=.d .bool x:=by
       have h9:X.condX bp (X.runC bp C u a i (X.knownO bp (.t j) true σ) k) (X.runC bp C u b (i+X.marks a) (X.knownO bp (.t j) false σ) k) (X.tOf σ j)=some y:=h;have r1:(some ((erS σ).t j,erS σ):Option (TV×St))=some (er (.d .bool x),erS σ):=r1
       injection r1 with r1
       injection r1 with r1 _
       rw[Ew]at r1
       cases ht:X.tOf σ j with
       |d t2 z=>cases t2 with
        |bool=>rw[ht]at r1;injection r1 with r1;injection r1 with r1;rw[show z=x from r1]
        |_=>rw[ht]at h9;cases h9
       |_=>rw[ht]at h9;cases h9
      exact yf hj
     |_=>rfl
    have r1:(opd c).run (erS σ)=some (.v (.bool x),erS σ):=r1;simp only[runC];rw[r1];simp only[oBS]
    cases x with
    |true=>
     rw[<- QB];exact Zg _ _ k y h1
    |false=>
     rw[<- QB];exact Zb _ _ k y h1
   |_=>cases h1
  |_=>cases h1
 |sc b ih=>
  intro i Y σ k y h;unfold X.runC at h;exact ih i σ k y h
 |block id b ih=>
  intro i Y σ k y h;unfold X.runC at h;obtain⟨e,σ1,r1,h1⟩:=ih _ σ _ y h;simp only[runC];rw[r1];simp only[oBS]
  cases e with
  |normal=>exact⟨_,σ1,rfl,h1⟩
  |ret=>exact⟨_,σ1,rfl,h1⟩
  |exit j=>
   dsimp only at h1;by_cases hj:j=id
   ·rw[oIP hj]at h1;exact⟨.normal,σ1,by dsimp only;rw[oIP hj],h1⟩
   ·rw[oIN hj]at h1;exact⟨.exit j,σ1,by dsimp only;rw[oIN hj],h1⟩
 |loop b ih=>
  intro i Y σ k y h;unfold X.runC at h
  cases hs:X.selH bp i σ u C.HL with
  |none=>rw[hs]at h;cases h
  |some x=>
   obtain⟨H,h0⟩:=x;rw[hs]at h;have Sx:=tO (F9 hs);obtain⟨o,h1,h2⟩:=bz (show(bH _ NN h0).bind _=some y from h)
   have ZP:∀(n:Nat)(hd:HL den (lvS H.s))(o:so (H.outs.map λx=>lvS x.2)),bH (λh=>X.runC bp C u b (i+1) (wP H.s h) (X.roundK bp H u)) n hd=some o->∀N',n<=N'->∃x j ho,GD (runC (evCall C.E F) N b) N' (erS (wP H.s hd))=some (x.1,erS x.2)/\nR (H.outs.map λx=>lvS x.2) j ho=some o/\ou H.outs j ho=some x:=by
    intro n
    induction n with
    |zero=>intro hd o h;cases h
    |succ n NS=>
     intro hd o h N' Yv;obtain⟨N',rfl⟩:∃L6,N'=L6+1:=⟨N'-1,by omega⟩;obtain⟨z,hz,UY⟩:=bz (show(X.runC bp C u b (i+1) (wP H.s hd) _:Option _).bind _=some o from h);obtain⟨e,σ1,r1,h3⟩:=ih _ _ _ z hz;simp only[GD];rw[r1];simp only[oBS]
     have other:∀e':fL,(∀s:Option (HL den (lvS H.s)⊕so (H.outs.map λx=>lvS x.2)),s=some z->s=X.onOut bp (X.injE bp e' σ1 u H.outs) (λx=>bp.exitL (lvS H.s) (H.outs.map λx=>lvS x.2) x.1 x.2)->∃x j ho,(some (e',erS σ1):Option (fL×St))=some (x.1,erS x.2)/\nR (H.outs.map λx=>lvS x.2) j ho=some o/\ou H.outs j ho=some x):=by
      intro e' s Za Y1;rw[Za]at Y1
      cases hi:X.injE bp e' σ1 u H.outs with
      |none=>rw[hi]at Y1;cases Y1
      |some x=>
       rw[hi]at Y1;obtain⟨j,ho⟩:=x;obtain⟨t,Vq,Ym⟩:=dV (show(nR (H.outs.map λx=>lvS x.2) j ho).map Sum.inr=some z from Y1.symm);subst Ym;obtain⟨x,hf,he,hσ⟩:=Cj hi;refine⟨x,j,ho,by rw[he,hσ],?_,hf⟩;have:some t=some o:=UY;rw[<- this];exact Vq
     cases e with
     |normal=>
      have h3:X.onOut bp (X.convS bp H.s σ1 u) (bp.next (lvS H.s) (H.outs.map λx=>lvS x.2))=some z:=h3
      cases hc:X.convS bp H.s σ1 u with
      |none=>rw[hc]at h3;cases h3
      |some h'=>
       rw[hc]at h3;have h3:some (Sum.inl h')=some z:=h3
       injection h3 with h3
       subst h3;rw[<- tO hc];exact NS h' o UY N' (by omega)
     |exit j=>exact other (.exit j) _ h3 rfl
     |ret=>exact other .ret _ h3 rfl
   obtain⟨x,j,ho,r1,hm,hf⟩:=ZP NN h0 o h1 N hN;rw[sa _ hm hf]at h2;refine⟨x.1,x.2,?_,h2⟩;simp only[runC];rw[<- Sx];exact r1
 |exit id=>intro i Y σ k y h;exact⟨.exit id,σ,rfl,h⟩
 |ret=>intro i Y σ k y h;exact⟨.ret,σ,rfl,h⟩
 |pre l a ih=>
  intro i Y σ k y h
  have h:X.shrs bp l σ (λ_ σ'=>if X.okS σ' then X.runC bp C u a i (X.anew σ') k else none)=some y:=by
   unfold X.runC at h;exact h
  obtain⟨_,σ1,r1,_,h1⟩:=xD l σ _ y h;split at h1
  ·rename_i hok;obtain⟨e,σ2,r2,h2⟩:=ih _ _ k y h1;refine⟨e,σ2,?_,h2⟩;simp only[runC];rw[r1];simp only[oBS];rw[<- xp hok];exact r2
  ·cases h1
 |post a l ih=>
  intro i Y σ k y h
  have h:X.runC bp C u a i σ (λe σ'=>X.shrs bp l σ' λ_ σ2=>if X.okS σ2 then k e (X.anew σ2)else none)=some y:=by
   unfold X.runC at h;exact h
  obtain⟨e,σ1,r1,h1⟩:=ih _ _ _ y h;obtain⟨_,σ2,r2,_,h2⟩:=xD l σ1 _ y h1;split at h2
  ·rename_i hok;refine⟨e,X.anew σ2,?_,h2⟩;simp only[runC];rw[r1];simp only[oBS];rw[r2];simp only[oBS];rw[xp hok]
  ·cases h2
end
section
variable {α β γ δ Y:Type}
theorem rN(np:Nat)(t:XV den):Sim (Y:=Y) (X.takeR1 bp np t) (takeR1 np (er t)) er:=by
 have ZP:Sim (Y:=Y) (X.take1 bp true t) (take1 true (er t)) er:=dm true t
 cases t with
 |pk p vs=>exact dm _ (.pk p vs)
 |d t y=>cases t with
  |row o t=>cases o<;>exact ZP
  |nilr o=>cases o<;>exact ZP
  |_=>exact ZP
 |_=>exact ZP
theorem yV(np:Nat):∀l:List (XV den),Sim (Y:=Y) (X.takeRL bp np l) (takeRL np (erL l)) erL:=by
 intro l
 induction l with
 |nil=>exact .ret rfl
 |cons t l ih=>exact(rN np t).bind λt'=>ih.bind λr'=>.ret rfl
theorem nE(np:Nat)(t:XV den):Sim (Y:=Y) (X.takeRV bp np t) (takeRV np (er t)) λx=>(erL x.1,x.2):=by
 have one:∀t:XV den,Sim (Y:=Y) (X.bind (X.takeR1 bp np t) λt'=>X.ret ([t'],RSh.one)) ((takeR1 np (er t)).bind λt'=>.ret ([t'],.one)) λx=>(erL x.1,x.2):=λt=>(rN np t).bind λt'=>.ret rfl;have ZP:=one t
 cases t with
 |agg l=>exact(yV np l).bind λl'=>.ret (by simp[cT])
 |d t y=>cases t with
  |row o t=>cases o<;>exact ZP
  |nilr o=>cases o<;>exact ZP
  |_=>exact ZP
 |_=>exact ZP
theorem Dz(np:Nat)(q:TRs):Sim (Y:=Y) (X.res1 bp np q) (res1 np q) λx=>(erL x.1,x.2):=by
 cases q with
 |tmp t=>exact Sim.rdT λtv=>nE np tv
 |cell t n=>
  refine Sim.rdT λtv=>?_
  cases tv with
  |ptr p vs=>
   refine(cS p _ vs).bind λ_=>?_
   cases n with
   |none=>exact(fC p).bind λt=>(fw p t).bind λt'=>nE np t'
   |some n=>exact(uo p n).bind λl=>nE np (.agg l)
  |d t y=>cases t with
   |row o t=>cases o<;>exact .fail
   |nilr o=>cases o<;>exact .fail
   |_=>exact .fail
  |_=>exact .fail
theorem Dx(np:Nat):∀l:List TRs,Sim (Y:=Y) (X.resL bp np l) (resL np l) λx=>(erL x.1,x.2):=by
 intro l
 induction l with
 |nil=>exact .ret rfl
 |cons q l ih=>exact(Dz np q).bind λx=>ih.bind λy=>.ret (by simp[kV])
theorem BV(l:List (XV den)):onesOf (erL l)=X.onesOf l:=by
 induction l with
 |nil=>rfl
 |cons t l ih=>simp[erL,onesOf,X.onesOf,ih]
theorem yY:∀l:List TRs,Sim (Y:=Y) (X.flatsR bp l) (flatsR l) erL:=by
 intro l
 induction l with
 |nil=>exact .ret rfl
 |cons q l ih=>cases q with
  |cell t n=>exact .fail
  |tmp t=>
   refine Sim.rdT λtv=>Sim.ite (λhc=>?_) λ_=>.fail
   have h1:vB (er tv)=true:=by
    have:=yq (l:=[tv]) (by simp_all);simpa[erL]using this
   rw[oIP h1];exact ih.bind λl=>.ret rfl
theorem Dy(np:Nat)(l:List TRs):Sim (Y:=Y) (X.resF bp np l) (resF np l) λx=>(erL x.1,x.2):=by
 have base:=Dx (Y:=Y) np l
 cases l with
 |nil=>exact base
 |cons q r=>cases q with
  |cell t n=>exact base
  |tmp t=>
   refine Sim.rdT λtv=>?_
   cases tv with
   |ptr p vs=>exact(cS p _ vs).bind λ_=>(yY r).bind λl=>.ret (by simp[BV];rfl)
   |d ty y=>cases ty with
    |row o ty=>cases o<;>exact base
    |nilr o=>cases o<;>exact base
    |_=>exact base
   |_=>exact base
theorem Ce(t:XV den):(∃p vs,t=.ptr p vs)\/(X.isPtrX t=false/\∀p vs,er t≠.ptr p vs):=by
 cases t with
 |ptr p vs=>simp_all
 |d t y=>cases t with
  |row o t=>cases o<;>exact .inr ⟨rfl,by simp[er,er1]⟩
  |nilr o=>cases o<;>exact .inr ⟨rfl,by simp[er,er1]⟩
  |_=>exact .inr ⟨rfl,by simp[er,er1]⟩
 |gap t x i o=>exact .inr ⟨rfl,λp vs h=>by cases h⟩
 |_=>exact .inr ⟨rfl,by simp[er]⟩
theorem Ed{t:XV den}(h:X.isShX t=true):∃c,er t=.sl c:=by
 cases t with
 |d t y=>cases t with
  |row o t=>cases o with
   |false=>exact⟨_,rfl⟩
   |true=>cases h
  |nilr o=>cases o with
   |false=>exact⟨_,rfl⟩
   |true=>cases h
  |_=>cases h
 |_=>cases h
theorem zt{pp:List Nat}:∀{l:List (XV den)}{i:Nat},X.ptrsInX pp i l=true->iB pp i (erL l)=true:=by
 intro l
 induction l with
 |nil=>intro i _;rfl
 |cons t l ih=>
  intro i h;simp only[X.ptrsInX,oBA]at h;have ⟨⟨h0,hs⟩,hr⟩:=h
  rcases Ce t with⟨p,vs,rfl⟩|⟨h1,h2⟩
  ·show(pp.contains i&&iB pp (i+1) (erL l))=true;rw[ih hr,Bool.and_true];simpa[X.isPtrX]using h0
  ·show iB pp i (er t::erL l)=true;rw[h1,Bool.false_or]at hs
   cases hsh:X.isShX t with
   |true=>
    have ⟨c,hc⟩:=Ed hsh;rw[hc];exact ih hr
   |false=>
    rw[hsh,Bool.false_or]at hs
    cases he:er t with
    |ptr p vs=>simp_all
    |sl c=>exact ih hr
    |_=>show(!pp.contains (1000+i)&&iB pp (i+1) (erL l))=true;rw[hs,ih hr];rfl
theorem wl(l:List (XV den)):∀i,(dt i l).map (λx=>(x.1,er x.2))=dt i (erL l):=by
 induction l with
 |nil=>intro i;rfl
 |cons t l ih=>intro i;simp[dt,erL,ih]
theorem Gx(vals:List (XV den))(pts:List (Nat×List (XV den))):erS (X.mkSt vals pts)=mkSt (erL vals) (erC pts):=by
 unfold X.mkSt mkSt erS;simp[wl]
theorem DV(σ:XS den)(pts:List (Nat×List (XV den))):erC (X.ptsOf σ pts)=(erC pts).map λx=>(x.1,(bO (erS σ).ce x.1).getD []):=by
 induction pts with
 |nil=>rfl
 |cons x pts ih=>
  show(x.1,erL ((bO σ.ce x.1).getD []))::erC (X.ptsOf σ pts)=(x.1,(bO (erS σ).ce x.1).getD [])::_;rw[ih,r9];cases bO σ.ce x.1<;>rfl
theorem Gd{F:cu}{C:X.Cfg}(YS:∀c∈C.TB,li F c)(u:HL den []){N:Nat}(hN:NN<=N){tf:TFn}{outs:List XO}{vals:List (XV den)}{pts:List (Nat×List (XV den))}{o:so (outs.map lvO)}(h:X.runT bp C u tf outs vals pts=some o):
 ∃x,gy (outs.map lvO) o (λi ho=>gP outs i ho)=some x/\runT C.E F N tf (erL vals) (erC pts)=some (⟨erL x.1,x.2.1⟩,erC x.2.2):=by
 unfold X.runT at h;split at h
 case isFalse=>cases h
 rename_i hc;obtain⟨e,σ1,r1,h1⟩:=Dw YS u hN tf.body 0 _ _ o h
 have ZP:X.resF bp tf.np tf.res σ1 (λy σ'=>X.onOut bp (X.injO bp y.1 y.2 (X.ptsOf σ' pts) u outs) λx=>bp.out (outs.map lvO) x.1 x.2)=some o ->
  ∃x,gy (outs.map lvO) o (λi ho=>gP outs i ho)=some x/\(((resF tf.np tf.res).run (erS σ1)).bind λy=>some ((⟨y.1.1,y.1.2⟩:pt),(erC pts).map λx=>(x.1,(bO y.2.ce x.1).getD [])))=some (⟨erL x.1,x.2.1⟩,erC x.2.2):=by
  intro h2;obtain⟨y,σ2,r2,_,h3⟩:=Dy tf.np tf.res σ1 _ o h2
  cases hi:X.injO bp y.1 y.2 (X.ptsOf σ2 pts) u outs with
  |none=>rw[hi]at h3;cases h3
  |some z=>
   rw[hi]at h3;obtain⟨i,ho⟩:=z;obtain⟨x,hf,e1,e2,e3⟩:=GG hi;refine⟨x,?_,?_⟩
   ·rw[sb _ (show nR (outs.map lvO) i ho=some o from h3)];exact hf
   ·rw[r2];simp only[oBS];rw[e1,e2,e3,DV]
 have Z6:(erL vals).length=tf.np/\(iB tf.pp 0 (erL vals)&&(!tf.pp.contains 1000||(erC pts).isEmpty))=true:=by
  have h2:=hc.2;rw[oBA]at h2;refine⟨by rw[cT];exact hc.1,?_⟩;rw[zt h2.1,Bool.true_and];have h3:=h2.2
  cases pts with
  |nil=>simp[erC]
  |cons x pts=>simp_all
 unfold runT;rw[oIP Z6,<- Gx,r1]
 cases e with
 |exit j=>cases h1
 |normal=>exact ZP h1
 |ret=>simp_all
end
theorem Ez{E:Env}{T:FuncId->Option TFn}{B F:cu}{N:Nat}(hN:NN<=N){C:X.Cfg}(hE:C.E=E)(YS:∀c∈C.TB,li F c){c:Ctr}{tf:TFn}(hT:T c.f=some tf)
 (hg:∀h,X.runT bp C () tf c.outs (eJ c.ins _ h).1 (mS c.pts [] (eJ c.ins _ h).2).1=c.g h):li (vJ E T B F N) c:=by
 intro h o x ho hx;rw[yS hT];rw[<- hg h]at ho;have ⟨x',h1,h2⟩:=Gd YS () hN ho
 simp_all
def Lvl(E:Env)(T:FuncId->Option TFn)(B:cu)(n:Nat)(c:Ctr):Prop:=∀k,n<=k->li (runF E T B (NN+k)) c
def yL(E:Env)(T:FuncId->Option TFn)(B:cu)(n:Nat):List Ctr->Prop
 | []=>True
 |c::r=>Lvl E T B n c/\yL E T B n r
theorem Lvl.mono{E:Env}{T:FuncId->Option TFn}{B:cu}{n m:Nat}{c:Ctr}(h:Lvl E T B n c)(hm:n<=m):Lvl E T B m c:=λk hk=>h k (Nat.le_trans hm hk)
theorem yL.get{E:Env}{T:FuncId->Option TFn}{B:cu}{n:Nat}:∀{l:List Ctr},yL E T B n l->∀c∈l,Lvl E T B n c:=by
 intro l
 induction l with
 |nil=>simp_all
 |cons x l ih=>
  intro h c hc;rcases List.mem_cons.1 hc with rfl|hc
  ·exact h.1
  ·exact ih h.2 c hc
theorem eT{E:Env}{T:FuncId->Option TFn}{B:cu}{n:Nat}{C:X.Cfg}(hE:C.E=E)(YS:yL E T B n C.TB){c:Ctr}{tf:TFn}(hT:T c.f=some tf)
 (hg:∀h,X.runT bp C () tf c.outs (eJ c.ins _ h).1 (mS c.pts [] (eJ c.ins _ h).2).1=c.g h):Lvl E T B (n+1) c:=by
 intro k hk;obtain⟨k,rfl⟩:∃k',k=k'+1:=⟨k-1,by omega⟩;exact Ez (F:=runF E T B (NN+k)) (Nat.le_add_right _ _) hE (λc hc=>YS.get c hc k (by omega)) hT hg
theorem Ac{P:Program}{H:Nat->List (Nat×Option Nat)}{f:FuncId}{tf:TFn}(h:kA P H f=some tf):∃fn,P.funcs[f]?=some fn/\tf.np<=fn.params.size+fn.nfree/\tf.nt=fn.ntmps:=by
 unfold kA at h;split at h
 case h_2=>simp at h
 split at h
 case h_2=>simp at h
 split at h
 ·rename_i NV hcl;have ⟨_,g2,g3,_⟩:=ox hcl
  simp_all
 simp only at h;split at h
 ·injection h with h
  subst h
  simp_all
 ·simp at h
theorem vI{P:Program}(H:FuncId->Nat->List (Nat×Option Nat))(ZK:(P.funcs.all λfn=>decide (fn.params.size+fn.nfree<=fn.ntmps) && !(fn.name=="runtime.NumGoroutine"))=true):t6 P λf=>kA P (H f) f:=by
 refine Dl λf tf h=>?_;have ⟨fn,hf,e1,e2⟩:=Ac h;have ⟨hlt,he⟩:=Array.getElem?_eq_some_iff.1 hf;have:=Array.all_eq_true.1 ZK f hlt;rw[he]at this;simp at this;refine⟨⟨H f,h⟩,by omega,λLr RC=>?_⟩
 simp_all
def JA:TFn:=⟨0,[],0,.skip,[]⟩
theorem gw{o:Option TFn}(h:o.isSome=true):o=some (o.getD JA):=by
 cases o with
 |none=>simp at h
 |some x=>rfl
def I9(P:Program)(f:FuncId):List (Option Nat):=match P.funcs[f]? with
 |some fn=>fn.params.toList.map λt=>match P.underlying t with|some (.pointer e)=>rJ P e|_=>none
 |none=>[]
def noB:cu:=λ_ _ _=>none
theorem Ii{P:Program}:dg P noB:=λf vals pts res Zw h=>by simp[noB]at h
abbrev I64:CT:=.int .i64
def w64(x:Int):Int:=IntKind.wrap .i64 x
def wk(k:IntKind)(x:Int):Int:=IntKind.wrap k x
def bytes(l:List Nat):ByteArray:=⟨(l.map UInt8.ofNat).toArray⟩
end Go.Proofs.Ytakfoejcjdcgbaa
