/- Part of the proof; no condition. -/
import Derived.Test.YtoldehogdgdhmaaGreatGc
import Derived.Test.YtoldehogdgdhmaaGreatProg
import Derived.KernelRfl
set_option linter.unusedVariables false
set_option linter.unusedSimpArgs false
namespace Go.Proofs.YtoldehogdgdhmaaGreat
open Go.RowKit
theorem BZ:∀(hs:List (Unit×Nat×Nat))(hs':List (den .nat×Nat×Nat))(r:List CT)(h:HL den r)(h':HL den (ES hs r)),Fk hs hs' r h=some h'->(xX hs r h').1=hs'/\(xX hs r h').2=h
 | [],[],_,_,_,hc=>by
  injection hc with hc
  exact⟨rfl,hc.symm⟩
 | [],_::_,_,_,_,hc=>by cases hc
 |_::_,[],_,_,_,hc=>by cases hc
 |(_,sz,o)::hs,(i,sz',o')::hs',r,h,h',hc=>by
  have hc:(if sz=sz'/\o=o' then(Fk hs hs' r h).map λh1=>((i,h1):den .nat×HL den (ES hs r))else none)=some h':=hc;by_cases hb:sz=sz'/\o=o'
  ·rw[oIP hb]at hc;obtain⟨h1,h2,h3⟩:=Option.map_eq_some_iff.1 hc;obtain⟨e1,e2⟩:=BZ hs hs' r h h1 h2;subst h3;refine⟨?_,e2⟩;show(i,sz,o)::(xX hs r h1).1=(i,sz',o')::hs';rw[e1,hb.1,hb.2]
  ·rw[oIN hb]at hc;cases hc
theorem OZ{p:XP λ_=>Unit}{q:XP den}(h:MG p q=true):erP (Qg p)=erP q:=by
 simp[MG]at h;have ⟨⟨⟨h1,h2⟩,h3⟩,h4⟩:=h;have ⟨r,o,hs⟩:=q
 cases hs with
 |nil=>simp[Qg,h1,h2]
 |cons=>simp[XP.bare]at h4
theorem Ma{x y:Value}(h:Kj x y=true):x=y:=by
 unfold Kj at h
 grind
mutual
theorem Ks:(s:Sh)->(x:XV den)->(r:List CT)->(h:HL den r)->(h':HL den (lv s r))->conv dM s x r h=some h'->er (fill s r h').1=er x/\(fill s r h').2=h
 |.d u z,x,r,h,h',hc=>by
  cases x with
  |d t y=>
   have hc:(asT dM t u y).map (λw=>(w,h))=some h':=hc;obtain⟨w,h1,h2⟩:=g9 hc
   have e1:h'.1=w:=by rw[<- h2]
   have e2:h'.2=h:=by rw[<- h2]
   refine⟨?_,e2⟩;show er1 u h'.1=er1 t y;rw[e1];exact GA h1
  |_=>exact absurd (show(none:Option (HL den _))=some h' from hc) (by simp)
 |.k z,x,r,h,h',hc=>by
  cases x with
  |k y=>
   have hc:(if Kj z y then some h else none)=some h':=hc;by_cases hb:Kj z y=true
   ·rw[oIP hb]at hc
    injection hc with hc
    rw[Ma hb];exact⟨rfl,hc.symm⟩
   ·rw[oIN hb]at hc;cases hc
  |_=>exact absurd (show(none:Option (HL den _))=some h' from hc) (by simp)
 |.dead,x,r,h,h',hc=>by
  cases x with
  |dead=>
   have hc:some h=some h':=hc
   injection hc with hc
   exact⟨rfl,hc.symm⟩
  |_=>exact absurd (show(none:Option (HL den _))=some h' from hc) (by simp)
 |.ptr p vs,x,r,h,h',hc=>by
  cases x with
  |ptr q ws=>
   have hc:(if p.root==q.root&&p.off==q.off&&vs==ws then Fk p.hops q.hops r h else none)=some h':=hc;by_cases hb:(p.root==q.root&&p.off==q.off&&vs==ws)=true
   ·rw[oIP hb]at hc;simp only[oBA,beq_iff_eq]at hb;obtain⟨h1,h2⟩:=BZ _ _ _ _ _ hc;refine⟨?_,h2⟩;show TV.ptr ⟨p.root,p.off,(xX p.hops r h').1⟩ vs=TV.ptr ⟨q.root,q.off,q.hops⟩ ws;rw[h1,hb.1.1,hb.1.2,hb.2]
   ·rw[oIN hb]at hc;cases hc
  |_=>exact absurd (show(none:Option (HL den _))=some h' from hc) (by simp)
 |.pk p vs,x,r,h,h',hc=>by
  cases x with
  |pk q ws=>
   have hc:(if p.root==q.root&&p.off==q.off&&vs==ws then Fk p.hops q.hops r h else none)=some h':=hc;by_cases hb:(p.root==q.root&&p.off==q.off&&vs==ws)=true
   ·rw[oIP hb]at hc;simp only[oBA,beq_iff_eq]at hb;obtain⟨h1,h2⟩:=BZ _ _ _ _ _ hc;refine⟨?_,h2⟩;show TV.pk ⟨p.root,p.off,(xX p.hops r h').1⟩ vs=TV.pk ⟨q.root,q.off,q.hops⟩ ws;rw[h1,hb.1.1,hb.1.2,hb.2]
   ·rw[oIN hb]at hc;cases hc
  |_=>exact absurd (show(none:Option (HL den _))=some h' from hc) (by simp)
 |.pw p vs sz lo n,x,r,h,h',hc=>by cases x<;>exact absurd (show(none:Option (HL den _))=some h' from hc) (by simp)
 |.gap t _ _ o,x,r,h,h',hc=>by
  cases x with
  |gap t' y i o'=>
   have hc:(if o=o' then(asT dM (.row true t') (.row true t) y).map λy=>(y,i,h)else none)=some h':=hc;by_cases hb:o=o'
   ·subst hb;rw[oIP rfl]at hc;obtain⟨z,h1,rfl⟩:=g9 hc;refine⟨?_,rfl⟩;show gf (er1 (.row true t) z) [(i,0,o)] .dead=gf (er1 (.row true t') y) [(i,0,o)] .dead;rw[GA h1]
   ·rw[oIN hb]at hc;cases hc
  |_=>exact absurd (show(none:Option (HL den _))=some h' from hc) (by simp)
 |.ip l,x,r,h,h',hc=>by
  cases x with
  |ip l'=>
   have:=nG l l' r h h' hc;exact⟨congrArg TV.ip this.1,this.2⟩
  |_=>exact absurd (show(none:Option (HL den _))=some h' from hc) (by simp)
 |.agg l,x,r,h,h',hc=>by
  cases x with
  |agg l'=>
   have:=nG l l' r h h' hc;exact⟨congrArg TV.agg this.1,this.2⟩
  |_=>exact absurd (show(none:Option (HL den _))=some h' from hc) (by simp)
 |.tup l,x,r,h,h',hc=>by
  cases x with
  |tup l'=>
   have:=nG l l' r h h' hc;exact⟨congrArg TV.tup this.1,this.2⟩
  |_=>exact absurd (show(none:Option (HL den _))=some h' from hc) (by simp)
 |.fn f l,x,r,h,h',hc=>by
  cases x with
  |fn f' l'=>
   have hc:(if f=f' then wv dM l l' r h else none)=some h':=hc;by_cases hb:f=f'
   ·subst hb;rw[oIP rfl]at hc;have:=nG l l' r h h' hc;exact⟨congrArg (TV.fn f) this.1,this.2⟩
   ·rw[oIN hb]at hc;cases hc
  |_=>exact absurd (show(none:Option (HL den _))=some h' from hc) (by simp)
theorem nG:(s:List Sh)->(x:List (XV den))->(r:List CT)->(h:HL den r)->(h':HL den (lvL s r))->wv dM s x r h=some h'->erL (i7 s r h').1=erL x/\(i7 s r h').2=h
 | [],x,r,h,h',hc=>by
  cases x with
  |nil=>
   have hc:some h=some h':=hc
   injection hc with hc
   exact⟨rfl,hc.symm⟩
  |cons=>exact absurd (show(none:Option (HL den _))=some h' from hc) (by simp)
 |s::ss,x,r,h,h',hc=>by
  cases x with
  |nil=>exact absurd (show(none:Option (HL den _))=some h' from hc) (by simp)
  |cons x xs=>
   have hc:(wv dM ss xs r h).bind (λh1=>conv dM s x (lvL ss r) h1)=some h':=hc;obtain⟨h1,ZP,ZH⟩:=dU hc;obtain⟨e1,e2⟩:=nG ss xs r h h1 ZP;obtain⟨e3,e4⟩:=Ks s x (lvL ss r) h1 h' ZH;have e5:i7 (s::ss) r h'=((fill s (lvL ss r) h').1::(i7 ss r (fill s (lvL ss r) h').2).1,(i7 ss r (fill s (lvL ss r) h').2).2):=rfl;rw[e5,e4];refine⟨?_,e2⟩;show er _::erL _=er x::erL xs;rw[e3,e1]
end
theorem BY:∀{s:List (Nat×List Sh)}{x:List (Nat×List (XV den))}{r:List CT}{h:HL den r}{h':HL den (lvP s r)},X.convP dM s x r h=some h'->erC (tB s r h').1=erC x/\(tB s r h').2=h:=by
 intro s
 induction s with
 |nil=>
  intro x r h h' hc
  cases x with
  |nil=>
   have hc:some h=some h':=hc
   injection hc with hc
   exact⟨rfl,hc.symm⟩
  |cons=>exact absurd (show(none:Option (HL den _))=some h' from hc) (by simp)
 |cons s ss ih=>
  intro x r h h' hc
  cases x with
  |nil=>exact absurd (show(none:Option (HL den _))=some h' from hc) (by simp)
  |cons x xs=>
   have hc:(if s.1=x.1 then(X.convP dM ss xs r h).bind (λh1=>wv dM s.2 x.2 (lvP ss r) h1)else none)=some h':=hc;by_cases hk:s.1=x.1
   ·rw[oIP hk]at hc
    ·obtain⟨h1,ZP,hc⟩:=dU hc;obtain⟨e1,e2⟩:=ih ZP;obtain⟨e3,e4⟩:=nG s.2 x.2 (lvP ss r) h1 h' hc;have e5:tB (s::ss) r h'=((s.1,(i7 s.2 (lvP ss r) h').1)::(tB ss r (i7 s.2 (lvP ss r) h').2).1,(tB ss r (i7 s.2 (lvP ss r) h').2).2):=rfl;rw[e5,e4];refine⟨?_,e2⟩;show(s.1,erL _)::erC _=(x.1,erL x.2)::erC xs;rw[e3,e1,hk]
   ·rw[oIN hk]at hc;cases hc
theorem Mi:∀{s:List (Nat×Sh)}{x:List (Nat×XV den)}{r:List CT}{h:HL den r}{h':HL den (lvT s r)},X.convT dM s x r h=some h'->(BO s r h').1.map (λx=>(x.1,er x.2))=x.map (λx=>(x.1,er x.2))/\(BO s r h').2=h:=by
 intro s
 induction s with
 |nil=>
  intro x r h h' hc
  cases x with
  |nil=>
   have hc:some h=some h':=hc
   injection hc with hc
   exact⟨rfl,hc.symm⟩
  |cons=>exact absurd (show(none:Option (HL den _))=some h' from hc) (by simp)
 |cons s ss ih=>
  intro x r h h' hc
  cases x with
  |nil=>exact absurd (show(none:Option (HL den _))=some h' from hc) (by simp)
  |cons x xs=>
   have hc:(if s.1=x.1 then(X.convT dM ss xs r h).bind (λh1=>conv dM s.2 x.2 (lvT ss r) h1)else none)=some h':=hc;by_cases hk:s.1=x.1
   ·rw[oIP hk]at hc
    ·obtain⟨h1,ZP,hc⟩:=dU hc;obtain⟨e1,e2⟩:=ih ZP;obtain⟨e3,e4⟩:=Ks s.2 x.2 (lvT ss r) h1 h' hc;have e5:BO (s::ss) r h'=((s.1,(fill s.2 (lvT ss r) h').1)::(BO ss r (fill s.2 (lvT ss r) h').2).1,(BO ss r (fill s.2 (lvT ss r) h').2).2):=rfl;rw[e5,e4];refine⟨?_,e2⟩;simp only[List.map_cons];rw[e3,e1,hk]
   ·rw[oIN hk]at hc;cases hc
theorem Jd:∀{a b:List (Key×Nat)},X.sameVr a b=true->a=b:=by
 intro a
 induction a with
 |nil=>intro b h;cases b with|nil=>rfl|cons=>simp[X.sameVr]at h
 |cons x a ih=>
  intro b h
  cases b with
  |nil=>simp[X.sameVr]at h
  |cons y b=>
   simp only[X.sameVr,oBA,beq_iff_eq]at h;obtain⟨⟨h1,h2⟩,h3⟩:=h;rw[ih h3];obtain⟨a1,a2⟩:=x;obtain⟨b1,b2⟩:=y;simp only at h1 h2;rw[h1,h2]
theorem BX{s:Shs}{σ:XS den}{u:HL den []}{h:HL den (lvS s)}(hc:X.convS dM s σ u=some h):erS (Fe s h)=erS σ:=by
 unfold X.convS at hc;by_cases hv:X.sameVr s.vr σ.vr=true
 ·rw[oIP hv]at hc;obtain⟨h1,ZP,hc⟩:=dU hc;obtain⟨e1,e2⟩:=BY ZP;obtain⟨e3,e4⟩:=Mi hc;unfold erS Fe;simp only;rw[e3,e4,e1,Jd hv]
 ·rw[oIN hv]at hc;cases hc
theorem DZ{c:Ctr}{vals:List (XV den)}{pts:List (Nat×List (XV den))}{u:HL den []}{h:HL den (lvL c.ins (lvP c.pts []))}(hc:X.convIn dM c vals pts u=some h):
 erL (i7 c.ins _ h).1=erL vals/\erC (tB c.pts [] (i7 c.ins _ h).2).1=erC pts:=by
 unfold X.convIn at hc;obtain⟨h1,ZP,hc⟩:=dU hc;obtain⟨e1,e2⟩:=BY ZP;obtain⟨e3,e4⟩:=nG _ _ _ _ _ hc;rw[e4];exact⟨e3,e1⟩
theorem Je:∀{a b:List RSh},X.sameSh a b=true->a=b:=by
 intro a
 induction a with
 |nil=>intro b h;cases b with|nil=>rfl|cons=>simp[X.sameSh]at h
 |cons x a ih=>
  intro b h
  cases b with
  |nil=>cases x<;>simp[X.sameSh]at h
  |cons y b=>
   cases x<;>cases y<;>simp[X.sameSh]at h
   ·rw[ih h]
   ·rw[h.1,ih h.2]
   ·rw[ih h]
theorem N4{cells:List (XV den)}{sh:List RSh}{pts:List (Nat×List (XV den))}{u:HL den []}:∀{outs:List XO}{i:Nat}{h:HL den (AE (outs.map lvO) i)},X.injO dM cells sh pts u outs=some ⟨i,h⟩->∃x,mf outs i h=some x/\erL x.1=erL cells/\x.2.1=sh/\erC x.2.2=erC pts:=by
 intro outs
 induction outs with
 |nil=>intro i h hc;simp[X.injO]at hc
 |cons o outs ih=>
  intro i h hc;simp only[X.injO]at hc;split at hc
  ·rename_i h1 ZP
   injection hc with hc
   injection hc with h2 h3
   subst h2;have h3:=eq_of_heq h3;subst h3;refine⟨_,rfl,?_⟩;unfold X.convO at ZP;by_cases hs:X.sameSh o.sh sh=true
   ·rw[oIP hs]at ZP;obtain⟨h4,hc4,ZP⟩:=dU ZP;obtain⟨e1,e2⟩:=BY hc4;obtain⟨e3,e4⟩:=nG _ _ _ _ _ ZP;refine⟨e3,Je hs,?_⟩;show erC (tB o.pts [] (i7 o.cells _ h1).2).1=_;rw[e4];exact e1
   ·rw[oIN hs]at ZP;cases ZP
  ·split at hc
   ·rename_i x hx
    injection hc with hc
    injection hc with h2 h3
    subst h2;have h3:=eq_of_heq h3;subst h3;exact ih hx
   ·simp at hc
theorem Ob{a b:kD}(h:X.exEq a b=true):a=b:=by
 cases a<;>cases b<;>simp[X.exEq]at h
 ·rfl
 ·rw[h]
 ·rfl
theorem J8{e:kD}{σ:XS den}{u:HL den []}:∀{outs:List (kD×Shs)}{i:Nat}{h:HL den (AE (outs.map λx=>lvS x.2) i)},X.injE dM e σ u outs=some ⟨i,h⟩->∃x,vy outs i h=some x/\x.1=e/\erS x.2=erS σ:=by
 intro outs
 induction outs with
 |nil=>intro i h hc;simp[X.injE]at hc
 |cons o outs ih=>
  intro i h hc;simp only[X.injE]at hc;split at hc
  ·rename_i h1 ZP
   injection hc with hc
   injection hc with h2 h3
   subst h2;have h3:=eq_of_heq h3;subst h3;refine⟨_,rfl,?_⟩;split at ZP
   ·rename_i he;exact⟨Ob he,BX ZP⟩
   ·simp at ZP
  ·split at hc
   ·rename_i x hx
    injection hc with hc
    injection hc with h2 h3
    subst h2;have h3:=eq_of_heq h3;subst h3;exact ih hx
   ·simp at hc
theorem yc{α β:Type}(G:α->β):∀(ls:List (List CT))(o:Ak ls)(f:(i:Nat)->HL den (AE ls i)->α),lJ ls o (λi h=>G (f i h))=G (lJ ls o f):=by
 intro ls
 induction ls with
 |nil=>intro o;cases o
 |cons l ls ih=>
  intro o f
  cases ls with
  |nil=>rfl
  |cons m r=>
   cases o with
   |inl h=>rfl
   |inr o=>exact ih o λi h=>f (i+1) h
theorem Ab{α:Type}:∀{ls:List (List CT)}{i:Nat}{h:HL den (AE ls i)}{o:Ak ls}(f:(i:Nat)->HL den (AE ls i)->α),uE ls i h=some o->lJ ls o f=f i h:=by
 intro ls
 induction ls with
 |nil=>intro i h o f hm;simp[uE]at hm
 |cons l ls ih=>
  intro i h o f hm
  cases ls with
  |nil=>
   cases i with
   |zero=>cases hm;rfl
   |succ i=>simp[uE]at hm
  |cons m r=>
   cases i with
   |zero=>cases hm;rfl
   |succ i=>
    simp only[uE]at hm;obtain⟨o',h1,rfl⟩:=g9 hm;exact ih (λi h=>f (i+1) h) h1
def u3(F:fP)(c:Ctr):Prop:=∀(h:HL den (lvL c.ins (lvP c.pts [])))(o:Ak (c.outs.map lvO))(x:List (XV den)×List RSh×List (Nat×List (XV den))),c.g h=some o->lJ (c.outs.map lvO) o (λi ho=>mf c.outs i ho)=some x ->
 F c.f (erL (i7 c.ins _ h).1) (erC (tB c.pts [] (i7 c.ins _ h).2).1)=some (⟨erL x.1,x.2.1⟩,erC x.2.2)
section
variable {α β γ δ Y:Type}
theorem Lm(x:Option Nat×Opd):Sim (Y:=Y) (X.argV dM x) (argV x) er:=by
 refine dQ λt=>?_
 have VP:∀t:XV den,Sim (Y:=Y) (X.bind (X.takeV dM false t) λl=>X.bind (X.optM dM (X.immXL dM l.1)) λl'=>X.ret (X.shapedX l.2 l')) ((takeV false (er t)).bind λl=>.ret (pD l.2 (l.1.map TV.imm))) er:=λt=>
  (qb false t).bind λl=>Sim.opt λl' hl=>.ret (by rw[zL,A8 hl])
 have nil:∀{s:SP TV}(t:CT)(y:den (.row true t)),Sim (Y:=Y) (X.bind (X.takeV dM false (.d (.row true t) y)) λl=>X.bind (X.optM dM (X.immXL dM l.1)) λl'=>X.ret (X.shapedX l.2 l')) s er:=λt y σ k o hk=>by cases hk
 refine Sim.ite (λh=>?_) λh=>?_
 ·have h2:(x.1==some 0&&PM (er t))=true:=by
   simp only[oBA]at h⊢;refine⟨h.1,?_⟩;have h3:=h.2
   cases t with
   |pk p vs=>rfl
   |d t y=>cases t with
    |nilr o=>cases o with
     |true=>rfl
     |false=>simp[X.isNmX]at h3
    |_=>simp[X.isNmX]at h3
   |_=>simp[X.isNmX]at h3
  rw[oIP h2]
  have h3:X.isNmX t=true:=by
   simp only[oBA]at h;exact h.2
  cases t with
  |pk p vs=>exact .ret rfl
  |d t y=>cases t with
   |nilr o=>cases o with
    |true=>exact(qc 1000000 [.d (.nilr true) y]).bind λl=>.ret (by cases l<;>rfl)
    |false=>simp[X.isNmX]at h3
   |_=>simp[X.isNmX]at h3
  |_=>simp[X.isNmX]at h3
 ·have keep:∀{s:SP TV},PM (er t)=X.isNmX t->P3 (er t)=X.isPkX t->Sim (Y:=Y) (X.argV0 dM t) s er->Sim (Y:=Y) (if(x.1.isSome&&X.isPkX t)=true then X.ret t else X.argV0 dM t) (if(x.1==some 0&&PM (er t))=true then zV (er t)else if(x.1.isSome&&P3 (er t))=true then .ret (er t)else s) er:=λhe hp hs=>by
   rw[he,oIN h,hp];split
   ·exact .ret rfl
   ·exact hs
  have nk:∀{t:XV den}{s:SP TV},X.isPkX t=false->(∀ σ k (o:Y),X.argV0 dM t σ k≠some o)->Sim (Y:=Y) (if(x.1.isSome&&X.isPkX t)=true then X.ret t else X.argV0 dM t) s er:=λhp hn=>by
   rw[hp,Bool.and_false,oIN (by simp)];exact fun σ k o hk=>absurd hk (hn σ k o)
  cases t with
  |ip cs=>exact keep rfl rfl (.ret rfl)
  |fn f cap=>exact keep rfl rfl (.ret rfl)
  |ptr p vs=>exact keep rfl rfl (.ret rfl)
  |d t y=>cases t with
   |row o t=>cases o with
    |true=>exact nk rfl fun σ k o hk=>by cases hk
    |false=>exact keep rfl rfl (VP _)
   |nilr o=>cases o<;>exact keep rfl rfl (VP _)
   |nat=>exact nk rfl fun σ k o hk=>by cases hk
   |pair a b=>exact nk rfl fun σ k o hk=>by cases hk
   |_=>exact keep rfl rfl (VP _)
  |gap t y i o=>exact nk rfl fun σ k o hk=>by cases hk
  |_=>exact keep rfl rfl (VP _)
theorem Cm:∀l:List (Option Nat×Opd),Sim (Y:=Y) (X.argVs dM l) (argVs l) erL:=by
 intro l
 induction l with
 |nil=>exact .ret rfl
 |cons x r ih=>exact(Lm x).bind λt=>ih.bind λl=>.ret rfl
theorem Ci:∀(l:List (Option Nat×XV den))(i:Nat),Sim (Y:=Y) (X.takeOwns dM i l) (takeOwns i (l.map λx=>(x.1,er x.2))) (List.map λx=>(x.1,er x.2)):=by
 intro l
 induction l with
 |nil=>intro i;exact .ret rfl
 |cons x l ih=>
  intro i;have ⟨n,t⟩:=x
  cases n with
  |none=>cases t with
   |d t y=>cases t with
    |row o t=>cases o<;>exact ih (i+1)
    |nilr o=>cases o<;>exact ih (i+1)
    |nat=>exact ih (i+1)
    |pair a b=>exact ih (i+1)
    |_=>exact ih (i+1)
   |_=>exact ih (i+1)
  |some n=>cases n with
   |zero=>cases t with
    |pk p vs=>
     refine(fX true (.pk p vs)).bind λt=>Sim.ite (λh=>?_) λ_=>.fail;have ⟨c,hc⟩:=me h
     have h2:mq (er t)=true:=by rw[hc];rfl
     rw[oIP h2];exact(ih (i+1)).bind λq=>.ret rfl
    |d t y=>cases t with
     |row o t=>cases o<;>exact ih (i+1)
     |nilr o=>cases o<;>exact ih (i+1)
     |nat=>exact ih (i+1)
     |pair a b=>exact ih (i+1)
     |_=>exact ih (i+1)
    |_=>exact ih (i+1)
   |succ n=>cases t with
    |d t y=>cases t with
     |row o t=>cases o<;>exact ih (i+1)
     |nilr o=>cases o<;>exact ih (i+1)
     |nat=>exact ih (i+1)
     |pair a b=>exact ih (i+1)
     |_=>exact ih (i+1)
    |_=>exact ih (i+1)
theorem IT(r:Nat):∀(n o:Nat),Sim (Y:=Y) (X.grabB dM r o n) (DL ⟨r,o,[]⟩ n) erL:=by
 intro n
 induction n with
 |zero=>intro o;exact .ret rfl
 |succ n ih=>
  intro o
  cases n with
  |zero=>
   refine Sim.rdC λt=>(j6 ⟨r,o,[]⟩ t).bind λt'=>(fX true t').bind λt2=>?_;exact(Sim.ret (f:=erL) rfl).bind (h:=λl=>.ret (er t2::l)) λl=>.ret rfl
  |succ n=>
   exact Sim.rdC λt=>(j6 ⟨r,o,[]⟩ t).bind λt'=>(fX true t').bind λt2=>(ih (o+1)).bind λl=>.ret rfl
theorem GU(p:XP den):Sim (Y:=Y) (X.rooted dM p) (rooted (erP p)) id:=by
 have ⟨r,off,hops⟩:=p
 cases hops with
 |nil=>exact .ret rfl
 |cons h hs=>
  refine Sim.rdT λt=>?_
  cases t with
  |ptr q ws=>
   refine Sim.ite (λhc=>?_) λ_=>.fail;show Sim _ (if(erP q).root==r&&(erP q).hops.isEmpty then chk (erP q) 0 ws else .fail) id
   have:((erP q).root==r&&(erP q).hops.isEmpty)=true:=by
    simpa[erP]using hc
   rw[oIP this];exact fM q 0 ws
  |_=>exact .fail
def erG(g:XGP den):GP:=⟨g.i,erP g.p,g.vs,erL g.cells⟩
theorem J4{t:XV den}(h:X.isArgX t=true):ry (er t)=true:=by
 cases t with
 |ip cs=>rfl
 |fn f cap=>exact Ba h
 |agg l=>
  simp only[X.isArgX]at h;simp only[er,ry,kt,List.all_map];rw[List.all_eq_true]at h⊢;intro x hx;have:=h x hx;simp at this;simp
  rcases n9 this.1 this.2 with⟨y,hy⟩|⟨c,hc⟩
  ·rw[hy]
  ·rw[hc]
 |d t x=>
  by_cases hn:t=.nilr true
  ·subst hn;rfl
  ·have:X.okCellX (.d t x:XV den)=true/\X.isOwX (.d t x:XV den)=false:=by
    cases t with
    |nilr o=>cases o with
     |true=>simp_all
     |false=>simpa[X.isArgX]using h
    |_=>simpa[X.isArgX]using h
   rcases n9 this.1 this.2 with⟨y,hy⟩|⟨c,hc⟩
   ·rw[hy];rfl
   ·rw[hc];rfl
 |k x=>rfl
 |_=>simp[X.isArgX,X.okCellX]at h
theorem IS:∀(l:List (Option Nat×XV den))(i:Nat),Sim (Y:=Y) (X.grabs dM i l) (grabs i (l.map λx=>(x.1,er x.2))) (List.map erG):=by
 intro l
 induction l with
 |nil=>intro i;exact .ret rfl
 |cons x l ih=>
  intro i;obtain⟨n,t⟩:=x
  have Y8:(∀m p vs,(n,er t)≠(some m,TV.ptr p vs))->(∀p vs,(n,er t)≠(some 0,TV.pk p vs))->Sim (Y:=Y) (if X.isArgX t then X.grabs dM (i+1) l else X.fail dM) (grabs i (((n,t)::l).map λx=>(x.1,er x.2))) (List.map erG):=by
   intro hne UF;refine Sim.ite (λh=>?_) λ_=>.fail
   have e:grabs i (((n,t)::l).map λx=>(x.1,er x.2))=if ry (er t)then grabs (i+1) (l.map λx=>(x.1,er x.2))else .fail:=by
    show grabs i ((n,er t)::_)=_
    cases n with
    |none=>rfl
    |some m=>cases he:er t with
     |ptr p vs=>simp_all
     |pk p vs=>cases m with
      |zero=>exact absurd (by rw[he]) (UF p vs)
      |succ m=>rfl
     |_=>cases m<;>rfl
   rw[e,oIP (J4 h)];exact ih (i+1)
  cases n with
  |none=>exact Y8 (by intro m p vs h;cases h) (by intro p vs h;cases h)
  |some m=>cases t with
   |pk p vs=>cases m with
    |zero=>exact ih (i+1)
    |succ m=>exact Y8 (by intro m p vs h;cases h) (by intro p vs h;cases h)
   |ptr p vs=>exact(fM p _ vs).bind λ_=>(GU p).bind λ_=>Sim.bind (by have:=IT (Y:=Y) p.root (X.baseXN p m) p.off;have e:Oj (erP p) m=X.baseXN p m:=(by have ⟨r,o,hs⟩:=p;cases hs<;>rfl);show Sim _ (DL (erP p).base (Oj (erP p) m)) _;rw[e];exact this) λl1=>(ih (i+1)).bind λq=>.ret rfl
   |d t y=>cases t with
    |row o t=>cases m<;>cases o<;>exact Y8 (by intro m p vs h;cases h) (by intro p vs h;cases h)
    |nilr o=>cases m<;>cases o<;>exact Y8 (by intro m p vs h;cases h) (by intro p vs h;cases h)
    |_=>cases m<;>exact Y8 (by intro m p vs h;cases h) (by intro p vs h;cases h)
   |_=>cases m<;>exact Y8 (by intro m p vs h;cases h) (by intro p vs h;cases h)
theorem IB(p:XP den):Sim (Y:=Y) (X.touch dM p) (touch (erP p)) id:=Sim.rdC λtv=>IA p.root p.off tv
theorem IE:∀q:List (XGP den),Sim (Y:=Y) (X.rechk dM q) (rechk (q.map erG)) id:=by
 intro q
 induction q with
 |nil=>exact .ret rfl
 |cons g q ih=>exact(fM g.p _ g.vs).bind λ_=>(IB g.p).bind λ_=>ih
theorem Ot(i:Nat)(t:XV den):er (X.argT i t)=argT i (er t):=by
 cases t with
 |d t y=>cases t with
  |row o t=>cases o<;>rfl
  |nilr o=>cases o<;>rfl
  |_=>rfl
 |_=>rfl
theorem Mp:∀(l:List (XV den))(i:Nat),erL (X.argTs i l)=argTs i (erL l):=by
 intro l
 induction l with
 |nil=>intro i;rfl
 |cons t l ih=>intro i;simp[X.argTs,erL,argTs,ih,Ot]
theorem HJ{t:XV den}(h:X.isDeadX t=false):Gd (er t)=false:=by
 cases t with
 |d t y=>cases t with
  |row o t=>cases o<;>rfl
  |nilr o=>cases o<;>rfl
  |nat=>simp[X.isDeadX,X.oneT]at h
  |pair a b=>simp[X.isDeadX,X.oneT]at h
  |_=>rfl
 |dead=>simp[X.isDeadX]at h
 |_=>rfl
theorem Ei:∀q:List (XGP den×List (XV den)),Sim (Y:=Y) (X.putBack dM q) (putBack (q.map λx=>(erG x.1,erL x.2))) id:=by
 intro q
 induction q with
 |nil=>exact .ret rfl
 |cons x q ih=>
  have ⟨g,l⟩:=x;refine ih.bind λ_=>Sim.ite (λh=>?_) λ_=>.fail;have ⟨h1,h2,h3⟩:=h;show Sim _ (if(erL l).length=(erL g.cells).length&&(erL l).all λt=>!Gd t then putL (erP g.p) (erL l)else .fail) id;rw[oIP]
  ·exact FP g.p l
  ·simp only[oBA,oDE,fR];refine⟨h1,?_⟩;rw[kt,List.all_map,List.all_eq_true];intro t ht;have:=List.all_eq_true.1 h3 t ht;simp at this;simp[HJ this]
theorem I6:∀(sh:List RSh)(l:List (XV den)),erL (X.shapeRX sh l)=jA sh (erL l):=by
 intro sh
 induction sh with
 |nil=>intro l;rfl
 |cons s sh ih=>
  intro l
  cases s with
  |one=>
   simp only[X.shapeRX,erL];rw[ih,DT];cases l<;>rfl
  |agg n=>
   simp only[X.shapeRX,erL,jA,er];rw[ih,rk,tC]
  |ptr=>
   simp[X.shapeRX,erL,jA,er];rw[ih]
theorem Co(sh:List RSh)(l:List (XV den)):er (X.shapeTX sh l)=sL sh (erL l):=by
 unfold X.shapeTX sL;rw[<- I6]
 cases X.shapeRX sh l with
 |nil=>rfl
 |cons x r=>cases r<;>rfl
theorem IP(dst:Option Nat)(cells:List (XV den))(sh:List RSh):Sim (Y:=Y) (X.landR dM dst cells sh) (landR dst ⟨erL cells,sh⟩) id:=by
 cases dst with
 |none=>exact .ret rfl
 |some d=>exact(qc d cells).bind λl=>eW d (Co sh l)
theorem J3(sh:List RSh)(cells:List (XV den)):isP ⟨erL cells,sh⟩=X.isPX sh cells:=by
 unfold isP X.isPX
 cases sh with
 |nil=>simp_all
 |cons s sh=>cases s with
  |ptr=>cases cells with
   |nil=>rfl
   |cons t r=>cases t with
    |d t y=>cases t with
     |row o t=>cases o<;>rfl
     |nilr o=>cases o<;>rfl
     |_=>rfl
    |_=>rfl
  |_=>rfl
theorem G6(t:XV den)(l:List (XV den)):er (X.shapePX t l)=FX (er t) (erL l):=by
 cases l<;>rfl
theorem IQ(dst:Option Nat)(q:List (XGP den))(cells:List (XV den)):Sim (Y:=Y) (X.landP dM dst q cells) (landP dst (q.map erG) (erL cells)) id:=by
 cases dst with
 |none=>exact .ret rfl
 |some d=>
  unfold X.landP;simp only;split
  ·rename_i pl vs l g;refine Sim.ite (λhc=>?_) λ_=>.fail;show Sim _ (if pl.root==2*g.i+2&&(erP g.p).hops.isEmpty then(rdVs (qk g.p.root (g.p.off+pl.off) (erP pl).hops.length)).bind λvs=>wr d (FX (.ptr ⟨g.p.root,g.p.off+pl.off,(erP pl).hops⟩ vs) (erL l))else .fail) id;rw[oIP (by simpa[erP]using hc)];exact(wB _).bind λvs=>eW d (G6 _ l)
  ·exact .fail
theorem ON(q:List (XGP den))(l:List (Nat×List (XV den))):(q.zip (l.map (·.2))).map (λx=>(erG x.1,erL x.2))=(q.map erG).zip ((erC l).map (·.2)):=by
 induction q generalizing l with
 |nil=>rfl
 |cons g q ih=>
  cases l with
  |nil=>rfl
  |cons x l=>simp[erC,ih]
theorem JS(z:List (Option Nat×XV den))(i:Nat):lentTo (z.map λx=>(x.1,er x.2)) i=X.lentTo z i:=by
 unfold lentTo X.lentTo;rw[List.getElem?_map]
 cases z[i]? with
 |none=>rfl
 |some x=>
  obtain⟨n,t⟩:=x
  cases n with
  |none=>rfl
  |some n=>cases n with
   |zero=>rfl
   |succ n=>cases t with
    |d t y=>cases t with
     |row o t=>cases o<;>rfl
     |nilr o=>cases o<;>rfl
     |_=>rfl
    |_=>rfl
theorem LH(x:Option Nat×XV den):normA (x.1,er x.2)=((X.normA x).1,er (X.normA x).2):=by
 obtain⟨n,t⟩:=x
 cases n with
 |none=>rfl
 |some n=>cases t with
  |d t y=>cases t with
   |row o t=>cases o<;>rfl
   |nilr o=>cases o<;>rfl
   |_=>rfl
  |_=>rfl
theorem Ej:∀z:List (Option Nat×XV den),Sim (Y:=Y) (X.lendChk dM z) (lendChk (z.map λx=>(x.1,er x.2))) id:=by
 intro z
 induction z with
 |nil=>exact .ret rfl
 |cons x z ih=>
  obtain⟨n,t⟩:=x
  cases n with
  |none=>exact ih
  |some n=>cases n with
   |zero=>exact ih
   |succ k=>cases t with
    |pk p vs=>
     refine(fM p _ vs).bind λ_=>Sim.rdT λt=>?_
     cases t with
     |pk q ws=>
      refine Sim.ite (λhc=>?_) λ_=>.fail;show Sim _ (if p.root=2*k+3/\p.off=0/\(erP p).hops.isEmpty=true/\q.root=2*k+3/\q.off=0/\(erP q).hops.isEmpty=true/\vs=ws then _ else _) id;rw[oIP (by simpa[erP]using hc)];exact ih
     |d t y=>cases t with
      |row o t=>cases o<;>exact .fail
      |nilr o=>cases o<;>exact .fail
      |_=>exact .fail
     |_=>exact .fail
    |d t y=>cases t with
     |row o t=>cases o<;>exact ih
     |nilr o=>cases o<;>exact ih
     |_=>exact ih
    |_=>exact ih
theorem Ck(z:List (Option Nat×XV den))(ks:List Nat):∀(ow:List (Nat×XV den))(rs:List (List (XV den))),Sim (Y:=Y) (X.giveBack dM z ks ow rs) (giveBack (z.map λx=>(x.1,er x.2)) ks (ow.map λx=>(x.1,er x.2)) (rs.map erL)) id:=by
 intro ow
 induction ow with
 |nil=>intro rs;exact .ret rfl
 |cons x ow ih=>
  intro rs
  cases rs with
  |nil=>exact .fail
  |cons y rs=>
   refine(ih rs).bind λ_=>?_;show Sim _ (match lentTo (z.map λx=>(x.1,er x.2)) x.1 with|none=>_|some k=>_) id;rw[JS]
   cases X.lentTo z x.1 with
   |none=>exact .ret rfl
   |some k=>
    cases y with
    |nil=>exact .fail
    |cons v y=>
     cases y with
     |cons v2 y=>exact .fail
     |nil=>
      refine Sim.ite (λhc=>?_) λ_=>.fail;obtain⟨c,hv⟩:=me hc.1;show Sim _ (match[er v]with | [.ow c]=>if ks.contains (1000000+x.1)=true/\x.1≠1000000 then(names k [.ow c]).bind λl=>.wrT k (l.headD .dead) (.ret ())else .fail|_=>.fail) id;rw[hv];simp only;rw[oIP hc.2];have h:=qc (Y:=Y) k [v];rw[show erL [v]=[.ow c] by simp[erL,hv]]at h;refine h.bind λl=>?_;rw[show(erL l).headD .dead=er (l.headD .dead) by cases l<;>rfl];exact up k _
theorem GZ{F:fP}(dst:Option Nat)(f:FuncId)(vals:List (XV den))(q:List (XGP den))(ow:List (Nat×XV den))(z:List (Option Nat×XV den))(u:HL den []):∀(TB:List Ctr),(∀c∈TB,u3 F c)->Sim (Y:=Y) (X.callTB dM dst f vals q ow z u TB) ((jH (F f (erL vals) ((q.map erG).map (λg=>(2*g.i+2,g.cells))++(ow.map λx=>(x.1,er x.2)).map λx=>(2*x.1+3,[x.2])))).bind λr=>
 if(r.2.map (·.1)).take ((q.map erG).length+(ow.map λx=>(x.1,er x.2)).length)=(q.map erG).map (λg=>2*g.i+2)++(ow.map λx=>(x.1,er x.2)).map (λx=>2*x.1+3)&&(isP r.1||qf r.1.sh r.1.cells.length)then(putBack ((q.map erG).zip (r.2.map (·.2)))).bind λ_=>(giveBack (z.map λx=>(x.1,er x.2)) ((r.2.drop ((q.map erG).length+(ow.map λx=>(x.1,er x.2)).length)).map (·.1)) (ow.map λx=>(x.1,er x.2)) ((r.2.drop (q.map erG).length).map (·.2))).bind λ_=>if isP r.1 then(if(ow.map λx=>(x.1,er x.2)).isEmpty then landP dst (q.map erG) r.1.cells else .fail)else landR dst r.1 else .fail) id:=by
 intro TB
 induction TB with
 |nil=>intro _;exact .fail
 |cons c TB ih=>
  intro YP;have ZO:=ih λc' XY=>YP c' (by simp[XY]);unfold X.callTB
  cases hsel:(if c.f=f then X.convIn dM c vals (q.map (λg=>(2*g.i+2,g.cells))++ow.map λy=>(2*y.1+3,[y.2])) u else none)with
  |none=>exact ZO
  |some h=>
   by_cases hf:c.f=f
   ·rw[oIP hf]at hsel;obtain⟨e1,e2⟩:=DZ hsel;intro σ k y hk;obtain⟨o,ho,hk⟩:=dU (show(c.g h).bind _=some y from hk);rw[yc (λr=>X.onOut dM r λx=>X.afterC dM dst q ow z x σ k)]at hk
    cases hx:lJ (c.outs.map lvO) o (λi ho=>mf c.outs i ho)with
    |none=>rw[hx]at hk;cases hk
    |some x=>
     rw[hx]at hk;have hk:X.afterC dM dst q ow z x σ k=some y:=hk;have hF:=YP c (by simp) h o x ho hx
     have e3:erC (q.map (λg=>(2*g.i+2,g.cells))++ow.map λy=>(2*y.1+3,[y.2]))=(q.map erG).map (λg=>(2*g.i+2,g.cells))++(ow.map λx=>(x.1,er x.2)).map λx=>(2*x.1+3,[x.2]):=by
      unfold erC;rw[List.map_append,List.map_map,List.map_map,List.map_map,List.map_map];congr 1
     rw[e1,e2,e3,hf]at hF;rw[hF]
     have hE:∀m,(erC x.2.2).drop m=erC (x.2.2.drop m):=λm=>by unfold erC;rw[List.map_drop]
     have hK:∀l:List (Nat×List (XV den)),(erC l).map (·.1)=l.map (·.1):=λl=>by unfold erC;rw[List.map_map];exact List.map_congr_left λ_ _=>rfl
     have hV:∀l:List (Nat×List (XV den)),(erC l).map (·.2)=(l.map (·.2)).map erL:=λl=>by unfold erC;rw[List.map_map,List.map_map];exact List.map_congr_left λ_ _=>rfl
     have key:Sim (Y:=Y) (X.afterC dM dst q ow z x) (if((erC x.2.2).map (·.1)).take ((q.map erG).length+(ow.map λx=>(x.1,er x.2)).length)=(q.map erG).map (λg=>2*g.i+2)++(ow.map λx=>(x.1,er x.2)).map (λx=>2*x.1+3)&&(isP ⟨erL x.1,x.2.1⟩||qf x.2.1 (erL x.1).length)then(putBack ((q.map erG).zip ((erC x.2.2).map (·.2)))).bind λ_=>(giveBack (z.map λx=>(x.1,er x.2)) (((erC x.2.2).drop ((q.map erG).length+(ow.map λx=>(x.1,er x.2)).length)).map (·.1)) (ow.map λx=>(x.1,er x.2)) (((erC x.2.2).drop (q.map erG).length).map (·.2))).bind λ_=>if isP ⟨erL x.1,x.2.1⟩then(if(ow.map λx=>(x.1,er x.2)).isEmpty then landP dst (q.map erG) (erL x.1)else .fail)else landR dst ⟨erL x.1,x.2.1⟩else .fail) id:=by
      unfold X.afterC;refine Sim.ite (λhc=>?_) λ_=>.fail
      have h6:(q.map erG).map (λg=>2*g.i+2)=q.map (λg=>2*g.i+2):=by rw[List.map_map];exact List.map_congr_left λ_ _=>rfl
      have h7:(ow.map λx=>(x.1,er x.2)).map (λx=>2*x.1+3)=ow.map (λy=>2*y.1+3):=by rw[List.map_map];exact List.map_congr_left λ_ _=>rfl
      have hC:(decide (((erC x.2.2).map (·.1)).take ((q.map erG).length+(ow.map λx=>(x.1,er x.2)).length)=(q.map erG).map (λg=>2*g.i+2)++(ow.map λx=>(x.1,er x.2)).map (λx=>2*x.1+3))&&(isP ⟨erL x.1,x.2.1⟩||qf x.2.1 (erL x.1).length))=true:=by
       rw[J3,hK,h6,h7,List.length_map,List.length_map,fR,oDT hc.1,Bool.true_and];exact hc.2
      rw[oIP hC,<- ON,J3,hE,hE,hK,hV,List.length_map,List.length_map];refine(Ei _).bind λ_=>(Ck z _ ow _).bind λ_=>?_
      cases X.isPX x.2.1 x.1 with
      |true=>
       show Sim (if ow.isEmpty=true then _ else _) (if(ow.map λx=>(x.1,er x.2)).isEmpty=true then _ else _) id;rw[List.isEmpty_map];refine Sim.ite (λh=>?_) λh=>?_
       ·rw[oIP h];exact IQ dst q x.1
       ·rw[oIN h];exact .fail
      |false=>exact IP dst x.1 x.2.1
     exact key σ k y hk
   ·rw[oIN hf]at hsel;cases hsel
end
section
variable {α β γ δ Y:Type}
theorem Cl{F:fP}{TB:List Ctr}(YP:∀c∈TB,u3 F c)(u:HL den [])(dst:Option Nat)(f:FuncId)(ns:List (Option Nat))(vals:List (XV den)):Sim (Y:=Y) (X.callV dM TB u dst f ns vals) (callV F dst f ns (erL vals)) id:=by
 have ez:∀(ns:List (Option Nat))(vals:List (XV den)),(ns.zip vals).map (λx=>(x.1,er x.2))=ns.zip (erL vals):=by
  intro ns
  induction ns with
  |nil=>intro vals;rfl
  |cons n ns ih=>
   intro vals
   cases vals with
   |nil=>rfl
   |cons v vals=>simp only[List.zip_cons_cons,List.map_cons,erL,ih]
 unfold callV
 have en:(ns.zip (erL vals)).map normA=((ns.zip vals).map X.normA).map λx=>(x.1,er x.2):=by
  rw[<- ez,List.map_map,List.map_map];exact List.map_congr_left λx _=>LH x
 rw[en,<- ez];refine(Ej _).bind λ_=>(Ci _ 0).bind λow=>(IS _ 0).bind λq=>(IE q).bind λ_=>Sim.ite (λh=>?_) λ_=>.fail;rw[oIP]
 ·rw[<- Mp];exact GZ dst f _ q ow (ns.zip vals) u TB YP
 ·rw[List.map_map,List.all_map];simp only[oBA]at h⊢;refine⟨h.1,?_⟩;rw[List.all_eq_true]at h⊢;intro g hg;have:=h.2 g hg;simpa[erG,fR]using this
theorem IV(dst:Option Nat)(tm:List BxC)(vals:List (XV den))(hok:tm.all X.boxOk=true):Sim (Y:=Y) (X.evBox dM dst tm vals) (evBox dst tm (erL vals)) id:=by
 cases dst with
 |none=>exact .fail
 |some d=>
  have e:erL (tm.map (X.bxX dM vals))=tm.map (bxT (erL vals)):=by
   rw[kt,List.map_map];refine List.map_congr_left λb hb=>?_;have:=List.all_eq_true.1 hok b hb
   cases b with
   |arg i=>exact wL vals i
   |val x=>
    show er (X.cellX dM x)=.v x;rw[wO];simp[X.boxOk]at this;unfold eO;split
    all_goals simp_all
  show Sim _ ((takeL false (tm.map (bxT (erL vals)))).bind _) id;rw[<- e];exact(nX false _).bind λl=>Sim.new rfl (Sim.rdV λg=>eW d rfl)
theorem FO(x:XV den):Sim (Y:=Y) (X.see1 dM x) (see1 (er x)) er:=by
 cases x with
 |d t y=>cases t with
  |int k=>exact .ret rfl
  |bool=>exact .ret rfl
  |str=>exact .ret rfl
  |nat=>exact .fail
  |row o t=>cases o<;>first|exact .fail|exact .ret rfl
  |nilr o=>cases o<;>exact .ret rfl
  |pair a b=>exact .fail
 |k y=>exact .ret rfl
 |pk p vs=>
  refine(fM p _ vs).bind λ_=>Sim.rdC λtv=>wC λv hv=>?_;refine Sim.ite (λho=>?_) λ_=>.fail;have ⟨c,hc⟩:=me ho
  have YG:eI (er tv) (erP p).hops=some (.ow c):=by rw[<- hc];exact hv
  simp[YG];intro σ k y hk
  cases hi:X.immX dM v with
  |none=>rw[hi]at hk;cases hk
  |some v'=>
   rw[hi]at hk;exact Sim.ret (by rw[uK hi,hc]) σ k y hk
 |_=>exact .fail
theorem K5:∀l:List (XV den),Sim (Y:=Y) (X.seeL dM l) (seeL (erL l)) erL:=by
 intro l
 induction l with
 |nil=>exact .ret rfl
 |cons t r ih=>exact(FO t).bind λt'=>ih.bind λr'=>.ret rfl
theorem K6(t:XV den):Sim (Y:=Y) (X.seeA dM t) (seeA (er t)) er:=by
 have key:=FO (Y:=Y) t
 cases t with
 |agg l=>exact(K5 l).bind λl'=>.ret rfl
 |ip cs=>exact .ret rfl
 |fn f cap=>
  refine Sim.ite (λh=>?_) λ_=>.fail;show Sim _ (if(erL cap).all C6 then .ret (.fn f (erL cap))else .fail) er;rw[oIP (Ba h)];exact .ret rfl
 |d t y=>cases t with
  |row o t=>cases o<;>exact key
  |nilr o=>cases o<;>exact key
  |_=>exact key
 |_=>exact key
theorem ID:∀l:List Opd,Sim (Y:=Y) (X.seeAs dM l) (seeAs l) erL:=by
 intro l
 induction l with
 |nil=>exact .ret rfl
 |cons x r ih=>exact dQ λt=>(K6 t).bind λt'=>ih.bind λl=>.ret rfl
theorem Gl{l:List (XV den)}(h:l.all X.flatX=true):(erL l).all Ed=true:=by
 rw[kt,List.all_map,List.all_eq_true];intro x hx;have:=List.all_eq_true.1 h x hx
 cases x with
 |d t y=>cases t<;>first|rfl|simp[X.flatX]at this
 |k y=>exact this
 |_=>simp[X.flatX]at this
theorem IZ{F:fP}(dst:Option Nat)(f:FuncId)(vals:List (XV den))(u:HL den []):∀(TB:List Ctr),(∀c∈TB,u3 F c)->Sim (Y:=Y) (X.callB dM dst f vals u TB) (callB F dst f (erL vals)) id:=by
 intro TB
 induction TB with
 |nil=>intro _;exact .fail
 |cons c TB ih=>
  intro YP;have ZO:=ih λc' XY=>YP c' (by simp[XY]);unfold X.callB
  cases hsel:(if c.f=f then X.convIn dM c vals [] u else none)with
  |none=>exact ZO
  |some h=>
   by_cases hf:c.f=f
   ·rw[oIP hf]at hsel;obtain⟨e1,e2⟩:=DZ hsel;intro σ k y hk;have ⟨o,ho,hk⟩:=dU (show(c.g h).bind _=some y from hk);rw[yc (λz=>X.onOut dM z λx=>X.afterB dM dst x σ k)]at hk
    cases hx:lJ (c.outs.map lvO) o (λi ho=>mf c.outs i ho)with
    |none=>rw[hx]at hk;cases hk
    |some x=>
     rw[hx]at hk;have hk:X.afterB dM dst x σ k=some y:=hk;unfold X.afterB at hk;have hF:=YP c (by simp) h o x ho hx;rw[e1,e2,hf]at hF;have hF:F f (erL vals) []=some (⟨erL x.1,x.2.1⟩,erC x.2.2):=hF;unfold callB;rw[hF];show ∃a σ',(if(erC x.2.2).length=0&&(erL x.1).all Ed&&qf x.2.1 (erL x.1).length then _ else _:SP Unit).run (erS σ)=_/\ou σ σ' ((if(erC x.2.2).length=0&&(erL x.1).all Ed&&qf x.2.1 (erL x.1).length then _ else _:SP Unit).foot (erS σ))/\_;split at hk
     ·rename_i hc;rw[oIP]
      ·cases dst with
       |none=>exact Sim.ret (a:=()) (f:=id) rfl σ k y hk
       |some d=>exact eW d (Co x.2.1 x.1) σ k y hk
      ·simp only[oBA,fR];refine⟨⟨?_,Gl hc.2.1⟩,hc.2.2⟩;unfold erC
       simp_all
     ·cases hk
   ·simp_all
theorem HK(zs:List Int):tz (zs.map sn)=some zs:=by
 induction zs with
 |nil=>rfl
 |cons z zs ih=>simp only[List.map_cons,sn,tz]at ih⊢;rw[ih];rfl
theorem w9(dst:Option Nat)(k:Nat)(p:XP den)(vs:List Nat)(m:Nat):Sim (Y:=Y) (X.rowLand dM dst k p vs m) (rowLand dst k (erP p) vs m) id:=by
 cases dst with
 |none=>exact .ret rfl
 |some d=>
  refine Sim.ite (λh=>?_) λh=>?_
  ·show Sim _ (if k=1 then wr d (.tup [])else wr d (.pw (erP p) vs 1 0 m)) id;rw[oIP h];exact eW d rfl
  ·show Sim _ (if k=1 then wr d (.tup [])else wr d (.pw (erP p) vs 1 0 m)) id;rw[oIN h];exact eW d rfl
theorem IU(dst:Option Nat)(k:Nat)(t:XV den):Sim (Y:=Y) (X.evRow dM dst k t) (evRow dst k (er t)) id:=by
 cases t with
 |pk p vs=>
  refine(fM p 1 vs).bind λ_=>?_;obtain⟨r,o,hs⟩:=p
  cases hs with
  |cons h hs=>exact .fail
  |nil=>
   refine Sim.rdC λtv=>?_
   cases tv with
   |d t y=>cases t with
    |row o t=>cases o with
     |false=>exact .fail
     |true=>cases t with
      |int kk=>cases kk with
       |i64=>
        show Sim _ (match tz (List.map sn y)with|some zs=>_|none=>_) id;rw[HK];refine Sim.br λh=>?_;have h:y.length<4611686018427387904:=Nat.le_of_ble_eq_true h;show Sim _ (if y.length<4611686018427387904 then _ else _) id;rw[oIP h];exact Sim.wrC rfl (w9 dst k _ vs _)
       |_=>exact .fail
      |_=>exact .fail
    |nilr o=>cases o with
     |false=>exact .fail
     |true=>
      have h:=w9 (Y:=Y) dst k ⟨r,o,[]⟩ vs 0;rw[<- wD]at h;exact Sim.wrC (by rw[FY];rfl) h
    |_=>exact .fail
   |_=>exact .fail
 |d t y=>cases t with
  |row o t=>cases o<;>exact .fail
  |nilr o=>cases o<;>exact .fail
  |_=>exact .fail
 |_=>exact .fail
theorem GX(dst:Option Nat)(k:Nat)(args:List (Option Nat×Opd)):Sim (Y:=Y) (X.evRowA dM dst k args) (evRowA dst k args) id:=by
 cases args with
 |nil=>exact .fail
 |cons x args=>
  cases args with
  |nil=>exact(sd x.2).bind λt=>IU dst k t
  |cons y args=>exact .fail
theorem GY{F:fP}{TB:List Ctr}(YP:∀c∈TB,u3 F c)(E:Env)(u:HL den [])(dst:Option Nat)(op:TOp):Sim (Y:=Y) (X.evCall dM E TB u dst op) (evCall E F dst op) id:=by
 cases op with
 |call k f args=>
  cases f with
  |f f=>
   by_cases hrow:E.row f≠0
   ·have e1:X.evCall (X:=Y) dM E TB u dst (.call k (.f f) args)=X.evRowA dM dst (E.row f) args:=oIP hrow;have e2:evCall E F dst (.call k (.f f) args)=evRowA dst (E.row f) args:=oIP hrow;rw[e1,e2];exact GX dst _ args
   have e1:X.evCall (X:=Y) dM E TB u dst (.call k (.f f) args)=if k then X.bind (X.argVs dM args) λvals=>(match E.box f with
    |some x=>if vals.length=x.1/\x.2.all X.boxOk=true then X.evBox dM dst x.2 vals else X.fail dM
    |none=>X.callV dM TB u dst f (args.map (·.1)) vals)else X.bind (X.seeAs dM (args.map (·.2))) λvals=>X.callB dM dst f vals u TB:=oIN hrow
   have e2:evCall E F dst (.call k (.f f) args)=if k then(argVs args).bind λvals=>(match E.box f with
    |some x=>if vals.length=x.1 then evBox dst x.2 vals else .fail
    |none=>callV F dst f (args.map (·.1)) vals)else(seeAs (args.map (·.2))).bind λvals=>callB F dst f vals:=oIN hrow
   rw[e1,e2]
   cases k with
   |false=>exact(ID _).bind λvals=>IZ dst f vals u TB YP
   |true=>
   refine(Cm _).bind λvals=>?_
   cases hb:E.box f with
   |none=>exact Cl YP u dst f _ vals
   |some x=>
    refine Sim.ite (λh=>?_) λ_=>.fail;show Sim _ (if(erL vals).length=x.1 then evBox dst x.2 (erL vals)else .fail) id;rw[oIP (by rw[fR];exact h.1)];exact IV dst x.2 vals h.2
  |t i=>
   refine Sim.rdT λt=>?_
   cases t with
   |fn f caps=>
    refine(Cm _).bind λvals=>?_;have:=Cl (Y:=Y) YP u dst f (args.map (·.1)++Ky E f args.length caps.length) (vals++caps);rw[rl]at this;show Sim _ (callV F dst f (args.map (·.1)++Ky E f args.length (erL caps).length) (erL vals++erL caps)) id;rw[fR];exact this
   |d t y=>cases t with
    |row o t=>cases o<;>exact .fail
    |nilr o=>cases o<;>exact .fail
    |_=>exact .fail
   |_=>exact .fail
  |c x=>exact .fail
 |_=>exact .fail
theorem IM{F:fP}{C:X.Cfg}(YP:∀c∈C.TB,u3 F c)(u:HL den [])(dst:Option Nat)(op:TOp):Sim (Y:=Y) (X.evop dM C u dst op) (evop (evCall C.E F) dst op) id:=by
 have key:∀d,Sim (Y:=Y) (X.ev1 dM C.HT d op) (ev1 d op) id:=λd=>OP C.HT d op;have kc:=GY (Y:=Y) YP C.E u dst op
 cases op with
 |call k f args=>exact kc
 |store n mv a x=>cases dst with
  |none=>exact key 0
  |some d=>exact .fail
 |_=>cases dst with
  |none=>exact .fail
  |some d=>exact key d
theorem w8(dst:Option Nat):Sim (Y:=Y) (X.setNo dM dst) (setNo dst) id:=by
 cases dst with
 |none=>exact .ret rfl
 |some d=>exact up d (.tup [])
theorem F9{σ:XS den}{j:Nat}{b:Bool}(h:X.tOf σ j=.d .bool b):erS (X.known dM j b σ)=erS σ:=by
 have h1:eK σ.tm j=some (.d .bool b):=by
  unfold X.tOf at h
  cases hg:eK σ.tm j with
  |none=>simp_all
  |some t=>simp_all
 have:=uf h1;show(⟨(fI σ.tm j (.d .bool b)).map _,erC σ.ce,σ.vr⟩:St)=_;rw[this];rfl
theorem FM{F:fP}{C:X.Cfg}(YP:∀c∈C.TB,u3 F c)(u:HL den [])(o:iX):Sim (Y:=Y) (X.spOp dM C u o) (spOp (evCall C.E F) o) id:=by
 unfold X.spOp spOp
 cases hg:o.guard with
 |none=>exact IM YP u o.dst o.op
 |some g=>
  obtain⟨j,want⟩:=g;intro σ k y hk
  cases ht:X.tOf σ j with
  |d t b=>cases t with
   |bool=>
    have hk:(bif b then((if want then X.evop dM C u o.dst o.op else X.setNo dM o.dst) (X.known dM j true (X.lgR (.t j) σ)) k)else((if want then X.setNo dM o.dst else X.evop dM C u o.dst o.op) (X.known dM j false (X.lgR (.t j) σ)) k))=some y:=by
     have hk:X.guardX dM j want (X.evop dM C u o.dst o.op) (X.setNo dM o.dst) (X.tOf σ j) (X.lgR (.t j) σ) k=some y:=hk;rw[ht]at hk;exact hk
    have key:∀(m:XM den Option Y Unit)(s:SP Unit),Sim m s id->m (X.known dM j b (X.lgR (.t j) σ)) k=some y->∃a σ',s.run (erS σ)=some (id a,erS σ')/\ou σ σ' (.t j::(s.foot (erS σ)).1,(s.foot (erS σ)).2)/\k a σ'=some y:=by
     intro m s hm h;have e:erS (X.known dM j b (X.lgR (.t j) σ))=erS σ:=F9 (σ:=X.lgR (.t j) σ) ht;obtain⟨a,σ',r1,n1,k1⟩:=hm _ k y h;rw[e]at r1 n1;refine⟨a,σ',r1,⟨λx hx=>?_,λx hx=>n1.w x hx,λx hx=>n1.r0 x (by simp[X.known,X.lgR,hx]),λx hx=>n1.w0 x (by simpa[X.known,X.lgR]using hx)⟩,k1⟩;rcases List.mem_cons.1 hx with h|h
     ·exact n1.r0 x (by simp[X.known,X.lgR,h])
     ·exact n1.r x h
    have hst:(erS σ).t j=.v (.bool b):=by rw[Md,ht];rfl
    have res:∀(s:SP Unit),(if b=want then evop (evCall C.E F) o.dst o.op else setNo o.dst)=s->(∃a σ',s.run (erS σ)=some (id a,erS σ')/\ou σ σ' (.t j::(s.foot (erS σ)).1,(s.foot (erS σ)).2)/\k a σ'=some y)->∃a σ',(SP.rdT j λt=>match t with|.v (.bool b)=>if b=want then evop (evCall C.E F) o.dst o.op else setNo o.dst|.tup []=>setNo o.dst|_=>.fail).run (erS σ)=some (id a,erS σ')/\ou σ σ' ((SP.rdT j λt=>match t with|.v (.bool b)=>if b=want then evop (evCall C.E F) o.dst o.op else setNo o.dst|.tup []=>setNo o.dst|_=>.fail).foot (erS σ))/\k a σ'=some y:=by
     rintro s hs ⟨a,σ',r1,n1,k1⟩;refine⟨a,σ',?_,?_,k1⟩
     ·simp only[SP.run,hst,hs];exact r1
     ·simp only[SP.foot,hst,hs];exact n1
    cases b with
    |true=>
     cases want with
     |true=>exact res _ (oIP rfl) (key _ _ (IM YP u o.dst o.op) hk)
     |false=>exact res _ (oIN (by simp)) (key _ _ (w8 o.dst) hk)
    |false=>
     cases want with
     |true=>exact res _ (oIN (by simp)) (key _ _ (w8 o.dst) hk)
     |false=>exact res _ (oIP rfl) (key _ _ (IM YP u o.dst o.op) hk)
   |_=>
    have hk:X.guardX dM j want (X.evop dM C u o.dst o.op) (X.setNo dM o.dst) (X.tOf σ j) (X.lgR (.t j) σ) k=some y:=hk;rw[ht]at hk;cases hk
  |tup l=>
   have hk:X.guardX dM j want (X.evop dM C u o.dst o.op) (X.setNo dM o.dst) (X.tOf σ j) (X.lgR (.t j) σ) k=some y:=hk;rw[ht]at hk
   cases l with
   |cons=>cases hk
   |nil=>
    have hst:(erS σ).t j=.tup []:=by rw[Md,ht];rfl
    obtain⟨a,σ',r1,n1,k1⟩:=w8 o.dst (X.lgR (.t j) σ) k y hk;refine⟨a,σ',?_,?_,k1⟩
    ·simp only[SP.run,hst];exact r1
    ·simp only[SP.foot,hst];refine⟨λx hx=>?_,n1.w,λx hx=>n1.r0 x (by simp[X.lgR,hx]),λx hx=>n1.w0 x hx⟩;rcases List.mem_cons.1 hx with h|h
     ·exact n1.r0 x (by simp[X.lgR,h])
     ·exact n1.r x h
  |_=>
   have hk:X.guardX dM j want (X.evop dM C u o.dst o.op) (X.setNo dM o.dst) (X.tOf σ j) (X.lgR (.t j) σ) k=some y:=hk;rw[ht]at hk;cases hk
end
section
variable {α β γ δ Y:Type}
theorem K0{F:fP}{C:X.Cfg}(YP:∀c∈C.TB,u3 F c)(u:HL den []):∀(ops:List iX){σ:XS den}{k:Unit->XS den->Option Y}{y:Y},X.spOps dM C u ops σ k=some y->∃ σ',sQ (evCall C.E F) ops (erS σ)=some (erS σ')/\k () σ'=some y:=by
 intro ops
 induction ops with
 |nil=>intro σ k y h;exact⟨σ,rfl,h⟩
 |cons o ops ih=>
  intro σ k y h;have ⟨a,σ1,r1,_,h1⟩:=FM YP u o σ _ y h;have ⟨σ',r2,h2⟩:=ih h1;refine⟨σ',?_,h2⟩;simp[sQ];rw[FJ r1];exact r2
def Gj(f g:ru):Prop:=(∀x∈f.1,x∈g.1)/\∀x∈f.2,x∈g.2
inductive OM:List (Nat×ru)->List (Nat×ru)->Prop
 |nil:OM [] []
 |cons {i:Nat} {f g:ru} {l r:List (Nat×ru)} (h:Gj f g) (t:OM l r):OM ((i,f)::l) ((i,g)::r)
theorem sY{a a' b b':List Loc}(ha:∀x∈a,x∈a')(hb:∀x∈b,x∈b')(h:Hy a' b'=false):Hy a b=false:=by
 unfold Hy at h⊢
 simp_all
theorem H8{f f' g g':ru}(h1:Gj f f')(h2:Gj g g')(h:o7 f' g'=false):o7 f g=false:=by
 unfold o7 at h⊢;simp at h⊢;have ⟨⟨⟨a,b⟩,c⟩,d⟩:=h;exact⟨⟨⟨sY h1.2 h2.1 a,sY h1.2 h2.2 b⟩,sY h2.2 h1.1 c⟩,sY h2.2 h1.2 d⟩
theorem JE{deps:List (List Nat)}{j:Nat}{f f':ru}(hf:Gj f f'){l r:List (Nat×ru)}(h:OM l r):(r.all λy=>!o7 f' y.2||(deps.getD y.1 []).contains j)=true->(l.all λy=>!o7 f y.2||(deps.getD y.1 []).contains j)=true:=by
 induction h with
 |nil=>exact id
 |cons h t ih=>
  intro hr;simp only[List.all_cons,oBA]at hr⊢;refine⟨?_,ih hr.2⟩;simp at hr⊢;rcases hr.1 with h3|h3
  ·exact .inl (H8 hf h h3)
  ·simp_all
theorem CA{deps:List (List Nat)}{l r:List (Nat×ru)}(h:OM l r):iW deps r=true->iW deps l=true:=by
 induction h with
 |nil=>exact id
 |cons h t ih=>
  intro hr;simp only[iW,oBA]at hr⊢;exact⟨JE h t hr.1,ih hr.2⟩
theorem M8{F:fP}{C:X.Cfg}(YP:∀c∈C.TB,u3 F c)(u:HL den [])(ops:List iX):∀(L:List Nat){σ:XS den}{k:List (Nat×ru)->XS den->Option Y}{y:Y},X.spFL dM C u ops L σ k=some y ->
 ∃fs gs σ',rv (λi=>spOp (evCall C.E F) (ops.getD i Ec)) L (erS σ)=some (fs,erS σ')/\OM fs gs/\k gs σ'=some y:=by
 intro L
 induction L with
 |nil=>intro σ k y h;exact⟨[],[],σ,rfl,.nil,h⟩
 |cons i L ih=>
  intro σ k y h;have ⟨a,σ1,r1,n1,h1⟩:=FM YP u _ _ _ y h;have r1:(spOp (evCall C.E F) (ops.getD i Ec)).run (erS σ)=some (a,erS σ1):=r1;have ⟨fs,gs,σ',r2,le,h2⟩:=ih h1;refine⟨(i,(spOp (evCall C.E F) (ops.getD i Ec)).foot (erS σ))::fs,(i,σ1.lg)::gs,σ',?_,.cons ⟨n1.r,n1.w⟩ le,h2⟩;simp[rv]
  simp_all
theorem uz(L:List Nat)(σ:XS den){t:XV den}(h:X.okN0 t=true):er (X.renorm0 L σ t)=renorm0 L (erS σ) (er t):=by
 cases t with
 |d t x=>cases t with
  |row o t=>cases o<;>first|rfl|simp[X.okN0]at h
  |nilr o=>cases o<;>rfl
  |nat=>simp[X.okN0]at h
  |pair a b=>simp[X.okN0]at h
  |_=>rfl
 |ptr p vs=>
  show er (if _ then _ else _)=(if _ then _ else _);by_cases hc:(L.contains p.root&&vs==jm (r9 σ.vr) p.root p.off p.hops.length)=true
  ·rw[oIP hc,oIP (by exact hc)];rfl
  ·rw[oIN hc,oIN (by exact hc)];rfl
 |pk p vs=>
  show er (if _ then _ else _)=(if _ then _ else _);by_cases hc:(L.contains p.root&&vs==jm (r9 σ.vr) p.root p.off (p.hops.length+1))=true
  ·rw[oIP hc,oIP (by exact hc)];rfl
  ·rw[oIN hc,oIN (by exact hc)];rfl
 |pw p vs sz lo n=>
  show er (if _ then _ else _)=(if _ then _ else _);by_cases hc:(L.contains p.root&&vs==jm (r9 σ.vr) p.root p.off (p.hops.length+1))=true
  ·rw[oIP hc,oIP (by exact hc)];rfl
  ·rw[oIN hc,oIN (by exact hc)];rfl
 |tup l=>cases l<;>rfl
 |gap=>simp[X.okN0]at h
 |_=>rfl
theorem Jm(L:List Nat)(σ:XS den){t:XV den}(h:X.okN t=true):er (X.renorm L σ t)=renorm L (erS σ) (er t):=by
 have key:X.okN0 t=true->er (X.renorm0 L σ t)=renorm0 L (erS σ) (er t):=λh=>uz L σ h
 cases t with
 |agg l=>
  simp only[X.renorm,er,renorm,kt,List.map_map];congr 1;refine List.map_congr_left λx hx=>uz L σ (List.all_eq_true.1 h x hx)
 |fn f l=>
  simp only[X.renorm,er,renorm,kt,List.map_map];congr 1;refine List.map_congr_left λx hx=>uz L σ (List.all_eq_true.1 h x hx)
 |d t x=>
  have:=key h
  cases t with
  |row o t=>cases o<;>exact this
  |nilr o=>cases o<;>exact this
  |_=>exact this
 |_=>exact key h
theorem Mt{α:Type}{P:α->Bool}:∀{l:List (Nat×α)}{i:Nat}{t:α},(l.all λx=>P x.2)=true->eK l i=some t->P t=true:=by
 intro l
 induction l with
 |nil=>intro i t _ h;simp[eK]at h
 |cons x l ih=>
  intro i t ha h;simp only[List.all_cons,oBA]at ha;simp[eK]at h;split at h
  ·simp_all
  ·exact ih ha.2 h
theorem LF(L:List Nat)(σ:XS den)(hok:X.okS σ=true):∀l:List Nat,(X.normT L σ l).map (λx=>(x.1,er x.2))=normT L (erS σ) l:=by
 intro l
 induction l with
 |nil=>rfl
 |cons i l ih=>
  simp[X.normT,normT];have e:eK (erS σ).tm i=(eK σ.tm i).map er:=wQ _ _ _;rw[e]
  cases h:eK σ.tm i with
  |none=>exact ih
  |some t=>
   have ht:=Mt hok h;simp only[oMS,List.map_cons];rw[Jm L σ ht,ih]
theorem LG(σ:XS den):∀l:List Nat,erC (X.normC σ l)=normC (erS σ) l:=by
 intro l
 induction l with
 |nil=>rfl
 |cons r l ih=>
  simp[X.normC,normC];rw[zZ]
  cases h:eK σ.ce r with
  |none=>exact ih
  |some c=>
   simp;show(r,erL c)::erC _=_;rw[ih]
theorem AF{σ:XS den}(hok:X.okS σ=true)(pers:Prs):erS (X.norm σ pers)=(erS σ).norm pers:=by
 unfold X.norm St.norm;show(⟨(X.normT pers.2 σ pers.1).map _,erC (X.normC σ pers.2),[]⟩:St)=_;rw[LF _ σ hok,LG]
theorem Fy{σ:XS den}(hok:X.okS σ=true):erS (X.anew σ)=(erS σ).anew:=by
 unfold X.anew St.anew;rw[AF hok];congr 1;congr 1
 ·show _=(σ.tm.map λx=>(x.1,er x.2)).map (·.1)
  simp_all
 ·show _=(erC σ.ce).map (·.1);unfold erC
  simp_all
theorem K4(x:Nat×Option Nat):Sim (Y:=Y) (X.shr1 dM x) (shr1 x) id:=by
 obtain⟨i,off⟩:=x;refine Sim.rdT λt=>?_
 cases off with
 |none=>cases t with
  |pk p vs=>
   refine(fX false (.pk p vs)).bind λt'=>Sim.opt λt2 h2=>?_;rw[<- uK h2];exact up i t2
  |d t y=>cases t with
   |row o t=>cases o<;>exact .ret rfl
   |nilr o=>cases o<;>exact .ret rfl
   |_=>exact .ret rfl
  |agg l=>exact Sim.ite (λ_=>.fail) λ_=>.ret rfl
  |_=>exact .fail
 |some off=>cases t with
  |ptr p vs=>
   refine(fM p _ vs).bind λ_=>Sim.ite (λh=>?_) λ_=>.fail;rw[oIP (by rw[<- BQ];exact h),<- Fg];refine(j8 _).bind λt=>Sim.ite (λho=>?_) λho=>?_
   ·obtain⟨c,hc⟩:=me ho;have Ve:=j6 (Y:=Y) (X.addP p off) t;rw[hc]at Ve;rw[hc];exact Ve.bind λt'=>(fX false t').bind λ_=>.ret rfl
   ·cases t with
    |d t y=>
     cases t with
     |row o t=>cases o<;>first|exact .ret rfl|simp[X.isOwX,X.isOwT]at ho
     |nilr o=>cases o<;>first|exact .ret rfl|simp[X.isOwX,X.isOwT]at ho
     |_=>exact .ret rfl
    |_=>exact .fail
  |d t y=>cases t with
   |row o t=>cases o<;>exact .fail
   |nilr o=>cases o<;>exact .fail
   |_=>exact .fail
  |_=>exact .fail
theorem FN:∀l:List (Nat×Option Nat),Sim (Y:=Y) (X.shrs dM l) (shrs l) id:=by
 intro l
 induction l with
 |nil=>exact .ret rfl
 |cons x l ih=>exact(K4 x).bind λ_=>ih
theorem II(r:Nat):∀n o:Nat,Sim (Y:=Y) (X.rdImmM dM r n o) (Hf r n o) erL:=by
 intro n
 induction n with
 |zero=>intro o;exact .ret rfl
 |succ n ih=>
  intro o;refine Sim.rdC λt=>Sim.ite (λh=>?_) λh=>.fail;rw[oIP (A9 h)];exact(ih (o+1)).bind λl=>.ret rfl
theorem Nl(i n:Nat):Sim (Y:=Y) (X.frzM dM i n) (PN i n) id:=by
 refine Sim.rdT λt=>?_
 cases t with
 |ptr p vs=>
  refine Sim.ite (λh=>?_) λh=>.fail;show Sim _ (if(erP p).root=2*i+2/\(erP p).off=0/\(erP p).hops=[]then _ else _) id;rw[oIP (by unfold erP;exact h)];refine(fM p 0 vs).bind λ_=>(II _ n 0).bind λl=>?_;exact Sim.new rfl (up i (.ip l))
 |_=>exact .fail
theorem NB{i:Nat}{σ:XS den}{u:HL den []}:∀{L:List D9}{H:D9}{h:HL den (lvS H.s)},X.selH dM i σ u L=some ⟨H,h⟩->X.convS dM H.s σ u=some h:=by
 intro L
 induction L with
 |nil=>intro H h hs;cases hs
 |cons H0 L ih=>
  intro H h hs;unfold X.selH at hs
  grind
theorem Aa{Z:Type}{outs:List (kD×Shs)}{i:Nat}{h:HL den (AE (outs.map λx=>lvS x.2) i)}{o:Ak (outs.map λx=>lvS x.2)}{x:kD×XS den}(K:kD×XS den->Option Z)(hm:uE (outs.map λx=>lvS x.2) i h=some o)(hf:vy outs i h=some x):(lJ (outs.map λx=>lvS x.2) o λj ho=>X.onOut dM (vy outs j ho) K)=K x:=by
 rw[Ab _ hm,hf];rfl
theorem K7{F:fP}{C:X.Cfg}(YP:∀c∈C.TB,u3 F c)(u:HL den []){N:Nat}(hN:NN<=N):∀(tc:iY)(i:Nat){Y:Type}(σ:XS den)(k:kD->XS den->Option Y)(y:Y),X.runC dM C u tc i σ k=some y->∃e σ',runC (evCall C.E F) N tc (erS σ)=some (e,erS σ')/\k e σ'=some y:=by
 intro tc
 induction tc with
 |skip=>intro i Y σ k y h;exact⟨.normal,σ,rfl,h⟩
 |frz j n a ih=>
  intro i Y σ k y h
  have h:X.frzM dM j n σ (λ_ σ'=>if X.okS σ' then X.runC dM C u a i (X.anew σ') k else none)=some y:=by
   unfold X.runC at h;exact h
  obtain⟨_,σ1,r1,_,h1⟩:=Nl j n σ _ y h;split at h1
  ·rename_i hok;obtain⟨e,σ2,r2,h2⟩:=ih _ _ k y h1;refine⟨e,σ2,?_,h2⟩;simp only[runC];rw[r1];simp only[oBS];rw[<- Fy hok];exact r2
  ·cases h1
 |nrm pers=>
  intro i Y σ k y h;have h:(if X.okS σ then k .normal (X.norm σ pers)else none)=some y:=h;split at h
  ·rename_i hok;exact⟨.normal,X.norm σ pers,by rw[AF hok];rfl,h⟩
  ·cases h
 |reg id draw ops pers=>
  intro i Y σ k y h
  cases draw with
  |none=>
   have h:X.spOps dM C u ops σ (λ_ σ'=>if X.okS σ' then k .normal (X.norm σ' pers)else none)=some y:=h;obtain⟨σ1,r1,h1⟩:=K0 YP u ops h;split at h1
   ·rename_i hok;refine⟨.normal,X.norm σ1 pers,?_,h1⟩;simp only[runC];rw[r1,AF hok];rfl
   ·cases h1
  |some deps=>
   have h:X.spFL dM C u ops (List.range ops.length) σ (λfs σ'=>if sV deps fs&&X.okS σ' then k .normal (X.norm σ' pers)else none)=some y:=h;obtain⟨fs,gs,σ1,r1,le,h1⟩:=M8 YP u ops _ h;split at h1
   ·rename_i hok;simp only[oBA]at hok;rw[EA]at hok;refine⟨.normal,X.norm σ1 pers,?_,h1⟩;simp only[runC];rw[r1,AF hok.2];simp only[oBS];rw[oIP (CA le hok.1)]
   ·cases h1
 |seq a b Y7 Y1=>
  intro i Y σ k y h
  have ZX:∀(e:kD)(σ1:XS den),runC (evCall C.E F) N a (erS σ)=some (e,erS σ1)->(match e with|.normal=>X.runC dM C u b (i+1+X.marks a) σ1 k|e=>k e σ1)=some y->∃e σ',runC (evCall C.E F) N (.seq a b) (erS σ)=some (e,erS σ')/\k e σ'=some y:=by
   intro e σ1 r1 h1;simp only[runC];rw[r1];simp only[oBS]
   cases e with
   |normal=>exact Y1 _ σ1 k y h1
   |exit j=>exact⟨_,σ1,rfl,h1⟩
   |ret=>exact⟨_,σ1,rfl,h1⟩
  unfold X.runC at h
  cases hs:X.selJ i C.HL with
  |none=>
   rw[hs]at h;obtain⟨e,σ1,r1,h1⟩:=Y7 _ σ _ y h;exact ZX e σ1 r1 h1
  |some H=>
   rw[hs]at h;obtain⟨o,h1,h2⟩:=dU (show(X.runC dM C u a (i+1) σ _:Option _).bind _=some y from h);obtain⟨e,σ1,r1,h3⟩:=Y7 _ σ _ o h1
   cases hi:X.injE dM e σ1 u H.outs with
   |none=>rw[hi]at h3;cases h3
   |some x=>
    rw[hi]at h3;obtain⟨j,ho⟩:=x;have h3:uE (H.outs.map λx=>lvS x.2) j ho=some o:=h3;obtain⟨x,hf,he,hσ⟩:=J8 hi;rw[Aa _ h3 hf]at h2;rw[<- hσ]at r1;rw[<- he]at r1;exact ZX x.1 x.2 r1 h2
 |cond c a b Y7 Y1=>
  intro i Y σ k y h
  have h:X.opd dM c σ (λt _=>X.condX dM (X.runC dM C u a i (X.knownO dM c true σ) k) (X.runC dM C u b (i+X.marks a) (X.knownO dM c false σ) k) t)=some y:=by
   unfold X.runC at h;exact h
  obtain⟨t,σ1,r1,e1,_,h1⟩:=wG h
  cases t with
  |d t x=>cases t with
   |bool=>
    have QP:erS (X.knownO dM c x σ)=erS σ:=by
     cases c with
     |t j=>
      have hj:X.tOf σ j=.d .bool x:=by
       have h9:X.condX dM (X.runC dM C u a i (X.knownO dM (.t j) true σ) k) (X.runC dM C u b (i+X.marks a) (X.knownO dM (.t j) false σ) k) (X.tOf σ j)=some y:=h;have r1:(some ((erS σ).t j,erS σ):Option (TV×St))=some (er (.d .bool x),erS σ):=r1
       injection r1 with r1
       injection r1 with r1 _
       rw[Md]at r1
       cases ht:X.tOf σ j with
       |d t2 z=>cases t2 with
        |bool=>rw[ht]at r1;injection r1 with r1;injection r1 with r1;rw[show z=x from r1]
        |_=>rw[ht]at h9;cases h9
       |_=>rw[ht]at h9;cases h9
      exact F9 hj
     |_=>rfl
    have r1:(opd c).run (erS σ)=some (.v (.bool x),erS σ):=r1;simp only[runC];rw[r1];simp only[oBS]
    cases x with
    |true=>
     rw[<- QP];exact Y7 _ _ k y h1
    |false=>
     rw[<- QP];exact Y1 _ _ k y h1
   |_=>cases h1
  |_=>cases h1
 |sc b ih=>
  intro i Y σ k y h;unfold X.runC at h;exact ih i σ k y h
 |block id b ih=>
  intro i Y σ k y h;unfold X.runC at h;obtain⟨e,σ1,r1,h1⟩:=ih _ σ _ y h;simp only[runC];rw[r1];simp only[oBS]
  cases e with
  |normal=>exact⟨_,σ1,rfl,h1⟩
  |ret=>exact⟨_,σ1,rfl,h1⟩
  |exit j=>
   dsimp only at h1;by_cases hj:j=id
   ·rw[oIP hj]at h1;exact⟨.normal,σ1,by dsimp only;rw[oIP hj],h1⟩
   ·rw[oIN hj]at h1;exact⟨.exit j,σ1,by dsimp only;rw[oIN hj],h1⟩
 |loop b ih=>
  intro i Y σ k y h;unfold X.runC at h
  cases hs:X.selH dM i σ u C.HL with
  |none=>rw[hs]at h;cases h
  |some x=>
   obtain⟨H,h0⟩:=x;rw[hs]at h;have SF:=BX (NB hs);obtain⟨o,h1,h2⟩:=dU (show(ej _ NN h0).bind _=some y from h)
   have key:∀(n:Nat)(hd:HL den (lvS H.s))(o:Ak (H.outs.map λx=>lvS x.2)),ej (λh=>X.runC dM C u b (i+1) (Fe H.s h) (X.roundK dM H u)) n hd=some o->∀N',n<=N'->∃x j ho,N2 (runC (evCall C.E F) N b) N' (erS (Fe H.s hd))=some (x.1,erS x.2)/\uE (H.outs.map λx=>lvS x.2) j ho=some o/\vy H.outs j ho=some x:=by
    intro n
    induction n with
    |zero=>intro hd o h;cases h
    |succ n ihn=>
     intro hd o h N' Yh;obtain⟨N',rfl⟩:∃N'',N'=N''+1:=⟨N'-1,by omega⟩;obtain⟨z,hz,hz2⟩:=dU (show(X.runC dM C u b (i+1) (Fe H.s hd) _:Option _).bind _=some o from h);obtain⟨e,σ1,r1,h3⟩:=ih _ _ _ z hz;simp only[N2];rw[r1];simp only[oBS]
     have Y8:∀e':kD,(∀s:Option (HL den (lvS H.s)⊕Ak (H.outs.map λx=>lvS x.2)),s=some z->s=X.onOut dM (X.injE dM e' σ1 u H.outs) (λx=>dM.exitL (lvS H.s) (H.outs.map λx=>lvS x.2) x.1 x.2)->∃x j ho,(some (e',erS σ1):Option (kD×St))=some (x.1,erS x.2)/\uE (H.outs.map λx=>lvS x.2) j ho=some o/\vy H.outs j ho=some x):=by
      intro e' s hs1 Y6;rw[hs1]at Y6
      cases hi:X.injE dM e' σ1 u H.outs with
      |none=>rw[hi]at Y6;cases Y6
      |some x=>
       rw[hi]at Y6;obtain⟨j,ho⟩:=x;obtain⟨t,XR,YV⟩:=g9 (show(uE (H.outs.map λx=>lvS x.2) j ho).map Sum.inr=some z from Y6.symm);subst YV;obtain⟨x,hf,he,hσ⟩:=J8 hi;refine⟨x,j,ho,by rw[he,hσ],?_,hf⟩;have:some t=some o:=hz2;rw[<- this];exact XR
     cases e with
     |normal=>
      have h3:X.onOut dM (X.convS dM H.s σ1 u) (dM.next (lvS H.s) (H.outs.map λx=>lvS x.2))=some z:=h3
      cases hc:X.convS dM H.s σ1 u with
      |none=>rw[hc]at h3;cases h3
      |some h'=>
       rw[hc]at h3;have h3:some (Sum.inl h')=some z:=h3
       injection h3 with h3
       subst h3;rw[<- BX hc];exact ihn h' o hz2 N' (by omega)
     |exit j=>exact Y8 (.exit j) _ h3 rfl
     |ret=>exact Y8 .ret _ h3 rfl
   obtain⟨x,j,ho,r1,hm,hf⟩:=key NN h0 o h1 N hN;rw[Aa _ hm hf]at h2;refine⟨x.1,x.2,?_,h2⟩;simp only[runC];rw[<- SF];exact r1
 |exit id=>intro i Y σ k y h;exact⟨.exit id,σ,rfl,h⟩
 |ret=>intro i Y σ k y h;exact⟨.ret,σ,rfl,h⟩
 |pre l a ih=>
  intro i Y σ k y h
  have h:X.shrs dM l σ (λ_ σ'=>if X.okS σ' then X.runC dM C u a i (X.anew σ') k else none)=some y:=by
   unfold X.runC at h;exact h
  obtain⟨_,σ1,r1,_,h1⟩:=FN l σ _ y h;split at h1
  ·rename_i hok;obtain⟨e,σ2,r2,h2⟩:=ih _ _ k y h1;refine⟨e,σ2,?_,h2⟩;simp only[runC];rw[r1];simp only[oBS];rw[<- Fy hok];exact r2
  ·cases h1
 |post a l ih=>
  intro i Y σ k y h
  have h:X.runC dM C u a i σ (λe σ'=>X.shrs dM l σ' λ_ σ2=>if X.okS σ2 then k e (X.anew σ2)else none)=some y:=by
   unfold X.runC at h;exact h
  obtain⟨e,σ1,r1,h1⟩:=ih _ _ _ y h;obtain⟨_,σ2,r2,_,h2⟩:=FN l σ1 _ y h1;split at h2
  ·rename_i hok;refine⟨e,X.anew σ2,?_,h2⟩;simp only[runC];rw[r1];simp only[oBS];rw[r2];simp only[oBS];rw[Fy hok]
  ·cases h2
end
section
variable {α β γ δ Y:Type}
theorem zJ(np:Nat)(t:XV den):Sim (Y:=Y) (X.takeR1 dM np t) (takeR1 np (er t)) er:=by
 have key:Sim (Y:=Y) (X.take1 dM true t) (take1 true (er t)) er:=fX true t
 cases t with
 |pk p vs=>exact fX _ (.pk p vs)
 |d t y=>cases t with
  |row o t=>cases o<;>exact key
  |nilr o=>cases o<;>exact key
  |_=>exact key
 |_=>exact key
theorem GT(np:Nat):∀l:List (XV den),Sim (Y:=Y) (X.takeRL dM np l) (takeRL np (erL l)) erL:=by
 intro l
 induction l with
 |nil=>exact .ret rfl
 |cons t l ih=>exact(zJ np t).bind λt'=>ih.bind λr'=>.ret rfl
theorem uq(np:Nat)(t:XV den):Sim (Y:=Y) (X.takeRV dM np t) (takeRV np (er t)) λx=>(erL x.1,x.2):=by
 have one:∀t:XV den,Sim (Y:=Y) (X.bind (X.takeR1 dM np t) λt'=>X.ret ([t'],RSh.one)) ((takeR1 np (er t)).bind λt'=>.ret ([t'],.one)) λx=>(erL x.1,x.2):=λt=>(zJ np t).bind λt'=>.ret rfl;have key:=one t
 cases t with
 |agg l=>exact(GT np l).bind λl'=>.ret (by simp[fR])
 |d t y=>cases t with
  |row o t=>cases o<;>exact key
  |nilr o=>cases o<;>exact key
  |_=>exact key
 |_=>exact key
theorem La(np:Nat)(q:TRs):Sim (Y:=Y) (X.res1 dM np q) (res1 np q) λx=>(erL x.1,x.2):=by
 cases q with
 |tmp t=>exact Sim.rdT λtv=>uq np tv
 |cell t n=>
  refine Sim.rdT λtv=>?_
  cases tv with
  |ptr p vs=>
   refine(fM p _ vs).bind λ_=>?_
   cases n with
   |none=>exact(j8 p).bind λt=>(j6 p t).bind λt'=>uq np t'
   |some n=>exact(Cj p n).bind λl=>uq np (.agg l)
  |d t y=>cases t with
   |row o t=>cases o<;>exact .fail
   |nilr o=>cases o<;>exact .fail
   |_=>exact .fail
  |_=>exact .fail
theorem K8(np:Nat):∀l:List TRs,Sim (Y:=Y) (X.resL dM np l) (resL np l) λx=>(erL x.1,x.2):=by
 intro l
 induction l with
 |nil=>exact .ret rfl
 |cons q l ih=>exact(La np q).bind λx=>ih.bind λy=>.ret (by simp[rl])
theorem JF(l:List (XV den)):onesOf (erL l)=X.onesOf l:=by
 induction l with
 |nil=>rfl
 |cons t l ih=>simp[erL,onesOf,X.onesOf,ih]
theorem GW:∀l:List TRs,Sim (Y:=Y) (X.flatsR dM l) (flatsR l) erL:=by
 intro l
 induction l with
 |nil=>exact .ret rfl
 |cons q l ih=>cases q with
  |cell t n=>exact .fail
  |tmp t=>
   refine Sim.rdT λtv=>Sim.ite (λhc=>?_) λ_=>.fail
   have h1:Ed (er tv)=true:=by
    have:=Gl (l:=[tv]) (by simp_all);simpa[erL]using this
   rw[oIP h1];exact ih.bind λl=>.ret rfl
theorem K9(np:Nat)(l:List TRs):Sim (Y:=Y) (X.resF dM np l) (resF np l) λx=>(erL x.1,x.2):=by
 have base:=K8 (Y:=Y) np l
 cases l with
 |nil=>exact base
 |cons q r=>cases q with
  |cell t n=>exact base
  |tmp t=>
   refine Sim.rdT λtv=>?_
   cases tv with
   |ptr p vs=>exact(fM p _ vs).bind λ_=>(GW r).bind λl=>.ret (by simp[JF];rfl)
   |d ty y=>cases ty with
    |row o ty=>cases o<;>exact base
    |nilr o=>cases o<;>exact base
    |_=>exact base
   |_=>exact base
theorem J1(t:XV den):(∃p vs,t=.ptr p vs)\/(X.isPtrX t=false/\∀p vs,er t≠.ptr p vs):=by
 cases t with
 |ptr p vs=>simp_all
 |d t y=>cases t with
  |row o t=>cases o<;>exact .inr ⟨rfl,by simp[er,er1]⟩
  |nilr o=>cases o<;>exact .inr ⟨rfl,by simp[er,er1]⟩
  |_=>exact .inr ⟨rfl,by simp[er,er1]⟩
 |gap t x i o=>exact .inr ⟨rfl,λp vs h=>by cases h⟩
 |_=>exact .inr ⟨rfl,by simp[er]⟩
theorem LU{t:XV den}(h:X.isShX t=true):∃c,er t=.sl c:=by
 cases t with
 |d t y=>cases t with
  |row o t=>cases o with
   |false=>exact⟨_,rfl⟩
   |true=>cases h
  |nilr o=>cases o with
   |false=>exact⟨_,rfl⟩
   |true=>cases h
  |_=>cases h
 |_=>cases h
theorem Hi{pp:List Nat}:∀{l:List (XV den)}{i:Nat},X.ptrsInX pp i l=true->nB pp i (erL l)=true:=by
 intro l
 induction l with
 |nil=>intro i _;rfl
 |cons t l ih=>
  intro i h;simp only[X.ptrsInX,oBA]at h;have ⟨⟨h0,hs⟩,hr⟩:=h
  rcases J1 t with⟨p,vs,rfl⟩|⟨h1,h2⟩
  ·show(pp.contains i&&nB pp (i+1) (erL l))=true;rw[ih hr,Bool.and_true];simpa[X.isPtrX]using h0
  ·show nB pp i (er t::erL l)=true;rw[h1,Bool.false_or]at hs
   cases hsh:X.isShX t with
   |true=>
    have ⟨c,hc⟩:=LU hsh;rw[hc];exact ih hr
   |false=>
    rw[hsh,Bool.false_or]at hs
    cases he:er t with
    |ptr p vs=>simp_all
    |sl c=>exact ih hr
    |_=>show(!pp.contains (1000+i)&&nB pp (i+1) (erL l))=true;rw[hs,ih hr];rfl
theorem EB(l:List (XV den)):∀i,(gg i l).map (λx=>(x.1,er x.2))=gg i (erL l):=by
 induction l with
 |nil=>intro i;rfl
 |cons t l ih=>intro i;simp[gg,erL,ih]
theorem NV(vals:List (XV den))(pts:List (Nat×List (XV den))):erS (X.mkSt vals pts)=mkSt (erL vals) (erC pts):=by
 unfold X.mkSt mkSt erS;simp[EB]
theorem Ly(σ:XS den)(pts:List (Nat×List (XV den))):erC (X.ptsOf σ pts)=(erC pts).map λx=>(x.1,(eK (erS σ).ce x.1).getD []):=by
 induction pts with
 |nil=>rfl
 |cons x pts ih=>
  show(x.1,erL ((eK σ.ce x.1).getD []))::erC (X.ptsOf σ pts)=(x.1,(eK (erS σ).ce x.1).getD [])::_;rw[ih,zZ];cases eK σ.ce x.1<;>rfl
theorem Oc(a b:List (Nat×List (XV den))):erC (a++b)=erC a++erC b:=by unfold erC;rw[List.map_append]
theorem Pb(pp:List Nat):erC (X.kpX (D:=den) pp)=kpE pp:=by
 unfold erC X.kpX kpE;rw[List.map_map];rfl
theorem NF{F:fP}{C:X.Cfg}(YP:∀c∈C.TB,u3 F c)(u:HL den []){N:Nat}(hN:NN<=N){tf:TFn}{outs:List XO}{vals:List (XV den)}{pts:List (Nat×List (XV den))}{o:Ak (outs.map lvO)}(h:X.runT dM C u tf outs vals pts=some o):
 ∃x,lJ (outs.map lvO) o (λi ho=>mf outs i ho)=some x/\runT C.E F N tf (erL vals) (erC pts)=some (⟨erL x.1,x.2.1⟩,erC x.2.2):=by
 unfold X.runT at h;split at h
 case isFalse=>cases h
 rename_i hc;obtain⟨e,σ1,r1,h1⟩:=K7 YP u hN tf.body 0 _ _ o h
 have key:X.resF dM tf.np tf.res σ1 (λy σ'=>X.onOut dM (X.injO dM y.1 y.2 (X.ptsOf σ' pts++X.kpX tf.pp) u outs) λx=>dM.out (outs.map lvO) x.1 x.2)=some o ->
  ∃x,lJ (outs.map lvO) o (λi ho=>mf outs i ho)=some x/\(((resF tf.np tf.res).run (erS σ1)).bind λy=>some ((⟨y.1.1,y.1.2⟩:Ii),((erC pts).map λx=>(x.1,(eK y.2.ce x.1).getD []))++kpE tf.pp))=some (⟨erL x.1,x.2.1⟩,erC x.2.2):=by
  intro h2;obtain⟨y,σ2,r2,_,h3⟩:=K9 tf.np tf.res σ1 _ o h2
  cases hi:X.injO dM y.1 y.2 (X.ptsOf σ2 pts++X.kpX tf.pp) u outs with
  |none=>rw[hi]at h3;cases h3
  |some z=>
   rw[hi]at h3;obtain⟨i,ho⟩:=z;obtain⟨x,hf,e1,e2,e3⟩:=N4 hi;refine⟨x,?_,?_⟩
   ·rw[Ab _ (show uE (outs.map lvO) i ho=some o from h3)];exact hf
   ·rw[r2];simp only[oBS];rw[e1,e2,e3,Oc,Ly,Pb]
 have Z8:(erL vals).length=tf.np/\(nB tf.pp 0 (erL vals)&&(!tf.pp.contains 1000||(erC pts).isEmpty))=true:=by
  have h2:=hc.2;rw[oBA]at h2;refine⟨by rw[fR];exact hc.1,?_⟩;rw[Hi h2.1,Bool.true_and];have h3:=h2.2
  cases pts with
  |nil=>simp[erC]
  |cons x pts=>simpa[erC]using h3
 unfold runT;rw[oIP Z8,<- NV,r1];simp only[oBS]
 cases e with
 |exit j=>cases h1
 |normal=>exact key h1
 |ret=>exact key h1
end
theorem Mg{E:Env}{T:FuncId->Option TFn}{B F:fP}{N:Nat}(hN:NN<=N){C:X.Cfg}(hE:C.E=E)(YP:∀c∈C.TB,u3 F c){c:Ctr}{tf:TFn}(hT:T c.f=some tf)
 (hg:∀h,X.runT dM C () tf c.outs (i7 c.ins _ h).1 (tB c.pts [] (i7 c.ins _ h).2).1=c.g h):u3 (GR E T B F N) c:=by
 intro h o x ho hx;rw[GQ hT];rw[<- hg h]at ho;have ⟨x',h1,h2⟩:=NF YP () hN ho
 simp_all
def Lvl(E:Env)(T:FuncId->Option TFn)(B:fP)(n:Nat)(c:Ctr):Prop:=∀k,n<=k->u3 (runF E T B (NN+k)) c
def GI(E:Env)(T:FuncId->Option TFn)(B:fP)(n:Nat):List Ctr->Prop
 | []=>True
 |c::r=>Lvl E T B n c/\GI E T B n r
theorem Lvl.mono{E:Env}{T:FuncId->Option TFn}{B:fP}{n m:Nat}{c:Ctr}(h:Lvl E T B n c)(hm:n<=m):Lvl E T B m c:=λk hk=>h k (Nat.le_trans hm hk)
theorem GI.get{E:Env}{T:FuncId->Option TFn}{B:fP}{n:Nat}:∀{l:List Ctr},GI E T B n l->∀c∈l,Lvl E T B n c:=by
 intro l
 induction l with
 |nil=>simp_all
 |cons x l ih=>
  intro h c hc;rcases List.mem_cons.1 hc with rfl|hc
  ·exact h.1
  ·exact ih h.2 c hc
theorem PL{E:Env}{T:FuncId->Option TFn}{B:fP}{n:Nat}{C:X.Cfg}(hE:C.E=E)(YP:GI E T B n C.TB){c:Ctr}{tf:TFn}(hT:T c.f=some tf)
 (hg:∀h,X.runT dM C () tf c.outs (i7 c.ins _ h).1 (tB c.pts [] (i7 c.ins _ h).2).1=c.g h):Lvl E T B (n+1) c:=by
 intro k hk;obtain⟨k,rfl⟩:∃k',k=k'+1:=⟨k-1,by omega⟩;exact Mg (F:=runF E T B (NN+k)) (Nat.le_add_right _ _) hE (λc hc=>YP.get c hc k (by omega)) hT hg
theorem H5{P:Program}{H:Nat->List (Nat×Option Nat)}{f:FuncId}{tf:TFn}(h:uU P H f=some tf):∃fn,P.funcs[f]?=some fn/\tf.np<=fn.params.size+fn.nfree/\tf.nt=fn.ntmps:=by
 unfold uU at h;split at h
 case h_2=>simp at h
 split at h
 case h_2=>simp at h
 split at h
 ·rename_i tf' Zm;have ⟨_,g2,g3,_⟩:=vA Zm
  simp_all
 simp only at h;split at h
 ·injection h with h
  subst h
  simp_all
 ·simp at h
theorem M7{P:Program}(H:FuncId->Nat->List (Nat×Option Nat))(ZN:(P.funcs.all λfn=>decide (fn.params.size+fn.nfree<=fn.ntmps) && !(fn.name=="runtime.NumGoroutine"))=true):KL P λf=>uU P (H f) f:=by
 refine KV λf tf h=>?_;have ⟨fn,hf,e1,e2⟩:=H5 h;have ⟨hlt,he⟩:=Array.getElem?_eq_some_iff.1 hf;have:=Array.all_eq_true.1 ZN f hlt;rw[he]at this;simp at this;refine⟨⟨H f,h⟩,by omega,λfn' RQ=>?_⟩
 simp_all
def Qm:TFn:=⟨0,[],0,.skip,[]⟩
theorem PV{o:Option TFn}(h:o.isSome=true):o=some (o.getD Qm):=by
 cases o with
 |none=>simp at h
 |some x=>rfl
def Ql(P:Program)(f:FuncId):List (Option Nat):=match P.funcs[f]? with
 |some fn=>fn.params.toList.map λt=>match P.underlying t with|some (.pointer e)=>zF P e|_=>none
 |none=>[]
def noB:fP:=λ_ _ _=>none
theorem noB_ok{P:Program}:lf P noB:=λf vals pts res Zk h=>by simp[noB]at h
abbrev I64:CT:=.int .i64
def w64(x:Int):Int:=IntKind.wrap .i64 x
def wk(k:IntKind)(x:Int):Int:=IntKind.wrap k x
def Ap(s:ByteArray):Int:=(s.size:Int)
def MD(s:ByteArray):Bool:=decide (s.size<4294967296)
def bytes(l:List Nat):ByteArray:=⟨(l.map UInt8.ofNat).toArray⟩
end Go.Proofs.YtoldehogdgdhmaaGreat
namespace Go.Proofs.YtoldehogdgdhmaaGreat
open Go.RowKit
set_option maxRecDepth 100000
noncomputable section
abbrev KCe:CT:=(.pair (.int .u8) (.int .u16))
abbrev KCn:CT:=(.pair (.int .u8) (.pair (.int .u16) (.pair I64 I64)))
abbrev KIn:CT:=(.pair I64 (.pair I64 (.pair I64 (.pair I64 I64))))
abbrev KOp:CT:=(.pair I64 (.pair I64 .bool))
abbrev QG:CT:=(.pair I64 (.pair .bool (.row false KCe)))
abbrev Mx:CT:=(.pair I64 (.pair (.row false KCe) (.pair I64 (.pair I64 (.pair I64 (.pair I64 (.pair I64 (.int .u16))))))))
abbrev QF:CT:=(.pair I64 (.pair I64 (.row false KCn)))
abbrev sB:CT:=(.pair I64 (.pair I64 (.pair I64 (.pair I64 (.pair I64 (.pair I64 (.pair I64 (.pair I64 (.pair I64 (.pair (.row false KCn) (.pair (.row false KCn) (.pair (.int .u8) (.pair (.int .u16) (.pair I64 (.pair I64 (.pair (.row false KCn) (.pair I64 .bool)))))))))))))))))
abbrev PS:CT:=(.pair I64 (.pair .bool (.row true KCe)))
abbrev PE:CT:=(.pair I64 (.pair (.row true KCe) (.pair I64 (.pair I64 (.pair I64 (.pair I64 (.pair I64 (.int .u16))))))))
abbrev FC:CT:=(.pair I64 (.pair I64 (.row true KCn)))
abbrev wR:CT:=(.pair I64 (.pair I64 (.pair I64 (.pair I64 (.pair I64 (.pair I64 (.pair I64 (.pair I64 (.pair I64 (.pair (.row true KCn) (.pair (.row true KCn) (.pair (.int .u8) (.pair (.int .u16) (.pair I64 (.pair I64 (.pair (.row true KCn) (.pair I64 .bool)))))))))))))))))
abbrev gk:CT:=(.row false KIn)
abbrev eF:CT:=(.row false KCn)
abbrev RW:CT:=(.row false (.int .u16))
abbrev RI:CT:=(.row false I64)
abbrev gn:CT:=(.row false KCe)
abbrev iJ:CT:=(.row false QG)
abbrev lO:CT:=(.row true PS)
abbrev jt:CT:=(.row false Mx)
abbrev sA:CT:=(.row true PE)
abbrev ii:CT:=(.row false KOp)
abbrev kE:CT:=(.row false QF)
abbrev D8:CT:=(.row false sB)
abbrev DCe:Type:=(Int×Int)
abbrev DCn:Type:=(Int×Int×Int×Int)
abbrev DIn:Type:=(Int×Int×Int×Int×Int)
abbrev DOp:Type:=(Int×Int×Bool)
abbrev DLn:Type:=(Int×Bool×List DCe)
abbrev DTh:Type:=(Int×(List DCe)×Int×Int×Int×Int×Int×Int)
abbrev DOu:Type:=(Int×Int×List DCn)
abbrev DEn:Type:=(Int×Int×Int×Int×Int×Int×Int×Int×Int×(List DCn)×(List DCn)×Int×Int×Int×Int×(List DCn)×Int×Bool)
def HH(f i:Nat):List (Nat×Option Nat):=if f=97 then(if i=1000011 then[(11,some 27)]else if i=1000005 then[(2,some 27)]else[])else if f=162 then(if i=1000006 then[(8,some 1)]else if i=1000014 then[(8,some 1)]else[])else if f=65 then(if i=5000000 then[(0,none),(1,none)]else[])else if f=32 then(if i=5000000 then[(0,none),(1,none)]else if i=1000013 then[(3,some 100002001)]else[])else if f=12 then(if i=1000007 then[(7,some 100006005)]else if i=1000003 then[(0,some 5)]else[])else if f=6 then(if i=3000004 then[(7,none)]else[])else if f=4 then(if i=3000024 then[(14,none)]else[])else if f=81 then(if i=0 then[(8,none)]else[])else if f=51 then(if i=2 then[(3,some 1)]else if i=3 then[(3,some 0)]else[])else if f=91 then(if i=0 then[(8,some 0),(8,some 1),(8,some 2),(8,some 3),(8,some 4)]else[])else if f=85 then(if i=0 then[(4,some 0),(4,some 2),(4,some 3)]else[])else if f=52 then(if i=0 then[(6,some 0),(6,some 1),(6,some 2),(6,some 3),(6,some 5),(6,some 6),(6,some 7),(6,some 8),(6,some 9),(6,some 10),(6,some 11),(6,some 12),(6,some 13),(6,some 14),(6,some 15)]else[])else if f=121 then(if i=2000067 then[(2,none),(4,none),(8,none),(11,none),(12,none),(0,some 10),(0,some 18),(0,some 24)]else if i=0 then[(8,some 0)]else[])else if f=95 then(if i=1000012 then[(7,none)]else if i=0 then[(8,some 0),(8,some 2),(8,some 3),(8,some 4),(9,some 6),(9,some 7)]else[])else if f=128 then(if i=3000008 then[(9,some 0),(9,some 1)]else if i=0 then[(6,some 0),(6,some 1)]else[])else if f=149 then(if i=0 then[(4,some 0),(4,some 1),(4,some 2),(4,some 3),(4,some 4),(4,some 5),(5,some 4)]else[])else if f=129 then(if i=0 then[(0,some 14),(0,some 15),(4,some 4)]else[])else if f=130 then(if i=1000007 then[(17,none)]else if i=0 then[(8,some 2),(8,some 3),(8,some 4)]else[])else if f=151 then(if i=0 then[(8,some 2),(8,some 3),(8,some 4)]else[])else if f=131 then(if i=1000002 then[(9,none)]else[])else if f=132 then(if i=1000004 then[(4,some 2)]else if i=3 then[(6,some 0),(6,some 1)]else[])else if f=55 then(if i=1000011 then[(5,none)]else if i=1000014 then[(7,none)]else if i=0 then[(4,some 0),(4,some 1),(4,some 2),(4,some 3),(4,some 5),(4,some 6),(4,some 7),(4,some 8),(4,some 9),(4,some 10),(4,some 11),(4,some 12),(4,some 13),(4,some 14),(4,some 15)]else[])else if f=23 then(if i=0 then[(2,some 16),(2,some 17)]else[])else if f=9 then(if i=1000015 then[(7,some 6)]else if i=0 then[(2,none)]else[])else if f=101 then(if i=0 then[(4,none)]else[])else if f=102 then(if i=0 then[(2,some 6),(2,some 7)]else[])else if f=59 then(if i=0 then[(2,some 9),(2,some 10)]else[])else if f=27 then(if i=3000012 then[(5,none)]else if i=0 then[(2,none)]else[])else[]
noncomputable def TT (f:FuncId):Option TFn:=uU Tryz.prog (HH f) f
noncomputable def E0:Env:={ box:=λf=>if f=8 then some (1,[.arg 0,.val (.int .i64 0)])else none,ps:=λf=>Ql Tryz.prog f }
theorem tt_ok:KL Tryz.prog TT:=M7 HH (by kernel_rfl)
abbrev qE:Shs:=⟨[],[],[],([],[])⟩
abbrev qS(s:List (Nat×Sh))(c:List (Nat×List Sh)):Shs:=⟨s,c,[],([],[])⟩
abbrev N1:CT:=.nilr true
abbrev N0:CT:=.nilr false
abbrev CW:CT:=.int .u16
abbrev CB:CT:=.int .u8
abbrev uL(l:List CT):List Sh:=l.map fun c=>.d c ()
abbrev pP(t r:Nat):Nat×Sh:=(t,.ptr ⟨r,0,[]⟩ [0])
abbrev sP(t:Nat)(c:CT):Nat×Sh:=(t,.d c ())
abbrev Lk(n:Nat)(c:Ctr):Prop:=Lvl E0 TT noB n c
theorem aN{m:Nat}:GI E0 TT noB m []:=trivial
theorem aC{n m:Nat}{c:Ctr}{l:List Ctr}(h:Lk n c)(r:GI E0 TT noB m l)(hm:n≤m:=by decide):GI E0 TT noB m (c::l):=⟨h.mono hm,r⟩
abbrev lx(i n:Nat)(s:List (Nat×Sh))(c:List (Nat×List Sh))(b:Nat):D9:=⟨i,n,⟨s,c,[],([],[])⟩,[(.exit 0,⟨s++[(b,.d .bool ())],c,[],([],[])⟩)]⟩
abbrev LI:Type:=List Int
abbrev LLI:Type:=List (List Int)
abbrev LDCe:Type:=List DCe
abbrev LDCn:Type:=List DCn
abbrev LDIn:Type:=List DIn
abbrev LDOp:Type:=List DOp
abbrev LDLn:Type:=List DLn
abbrev LDTh:Type:=List DTh
abbrev LDOu:Type:=List DOu
abbrev LDEn:Type:=List DEn
abbrev LLCn:Type:=List (List DCn)
abbrev T00:Type:=Bool×LI×Unit
abbrev T01:Type:=Int×Bool×Unit
abbrev T02:Type:=Int×Int×Unit
abbrev T03:Type:=Int×LDEn×Unit
abbrev T04:Type:=Int×LI×Unit
abbrev T05:Type:=LDCe×LDLn×Unit
abbrev T06:Type:=LDOp×LDCn×Unit
abbrev T07:Type:=LI×Int×Unit
abbrev T08:Type:=LI×LLI×Unit
abbrev T09:Type:=LLCn×LDOp×Unit
abbrev T0a:Type:=Unit×Unit×Unit
abbrev T0b:Type:=Bool×T02
abbrev T0c:Type:=Int×T01
abbrev T0d:Type:=Int×T02
abbrev T0e:Type:=Int×T04
abbrev T0f:Type:=Int×T07
abbrev T0g:Type:=Int×T0a
abbrev T0h:Type:=LDCn×T02
abbrev T0i:Type:=LDIn×T08
abbrev T0j:Type:=LI×T02
abbrev T0k:Type:=LI×T03
abbrev T0l:Type:=LI×T04
abbrev T0m:Type:=LI×LLI×LI×Unit
abbrev T0n:Type:=Bool×Bool×Bool×Bool×Unit
abbrev T0o:Type:=Int×T0b
abbrev T0p:Type:=Int×Bool×T07
abbrev T0q:Type:=Int×Int×T00
abbrev T0r:Type:=Int×T0d
abbrev T0s:Type:=Int×Int×T05
abbrev T0t:Type:=Int×T0f
abbrev T0u:Type:=Int×Int×T09
abbrev T0v:Type:=Int×T0l
abbrev T0w:Type:=LDCn×T0c
abbrev T0x:Type:=LDCn×T0h
abbrev T0y:Type:=LDTh×T0e
abbrev T0z:Type:=LI×T0d
abbrev T0A:Type:=Unit×T0f
abbrev T0B:Type:=Unit×Unit×T05
abbrev T0C:Type:=Unit×Unit×T08
abbrev T0D:Type:=Unit×Unit×T09
abbrev T0E:Type:=Unit×Unit×Unit×LDOp×Unit
abbrev T0F:Type:=Bool×T0r
abbrev T0G:Type:=Bool×T0D
abbrev T0H:Type:=Int×T0p
abbrev T0I:Type:=Int×Int×Bool×T09
abbrev T0J:Type:=Int×T0r
abbrev T0K:Type:=Int×Int×T0i
abbrev T0L:Type:=Int×T0D
abbrev T0M:Type:=LI×T0t
abbrev T0N:Type:=LI×Int×LDCe×LDLn×LDTh×Unit
abbrev T0O:Type:=LLCn×T0u
abbrev T0P:Type:=Unit×Int×Unit×T0a
abbrev T0Q:Type:=Unit×Unit×T0m
abbrev T0R:Type:=Unit×Unit×LLCn×T06
abbrev T0S:Type:=Bool×T0N
abbrev T0T:Type:=Int×Bool×T0C
abbrev T0U:Type:=Int×Int×Bool×T0i
abbrev T0V:Type:=Int×T0J
abbrev T0W:Type:=Int×Int×T0C
abbrev T0X:Type:=Int×T0L
abbrev T0Y:Type:=Int×T0N
abbrev T0Z:Type:=LDCe×LDLn×T0B
abbrev T10:Type:=LDIn×T0K
abbrev T11:Type:=LI×T0H
abbrev T12:Type:=LI×Int×LDCe×LDLn×LDTh×Bool×Unit
abbrev T13:Type:=LI×LI×LLI×LLCn×LDOp×LDOu×Unit
abbrev T14:Type:=LI×LLI×T0C
abbrev T15:Type:=LLCn×LDOp×T0D
abbrev T16:Type:=Unit×Unit×LLCn×Nat×T06
abbrev T17:Type:=Int×T0T
abbrev T18:Type:=Int×Int×T0G
abbrev T19:Type:=Int×T0V
abbrev T1a:Type:=Int×Int×Int×Int×LDCn×T01
abbrev T1b:Type:=Int×Int×Int×Int×Unit×T01
abbrev T1c:Type:=Int×T0W
abbrev T1d:Type:=Int×Int×LI×Int×Int×LLI×LDCn×Unit
abbrev T1e:Type:=Int×T0Y
abbrev T1f:Type:=Int×Int×T0Q
abbrev T1g:Type:=Int×LI×Int×T0o
abbrev T1h:Type:=LDIn×T0U
abbrev T1i:Type:=LLI×T0X
abbrev T1j:Type:=LLI×Int×Int×T0E
abbrev T1k:Type:=Int×Int×Bool×T0Q
abbrev T1l:Type:=Int×T18
abbrev T1m:Type:=Int×Int×Int×Int×Int×Int×LDCn×LDCn×Unit
abbrev T1n:Type:=Int×Int×Int×Int×Int×Int×LDCn×Unit×Unit
abbrev T1o:Type:=Int×Int×Int×Int×Int×T0g
abbrev T1p:Type:=Int×T1f
abbrev T1q:Type:=Int×Int×T13
abbrev T1r:Type:=Int×Int×T14
abbrev T1s:Type:=Int×Int×T15
abbrev T1t:Type:=Int×LDCe×T0V
abbrev T1u:Type:=LDTh×T1e
abbrev T1v:Type:=LI×Int×Unit×Unit×Unit×T0i
abbrev T1w:Type:=LI×Int×Unit×Unit×T0C
abbrev T1x:Type:=Int×Int×Bool×T13
abbrev T1y:Type:=Int×Int×Bool×T14
abbrev T1z:Type:=Int×Int×Bool×T15
abbrev T1A:Type:=Int×Int×T19
abbrev T1B:Type:=Int×Int×Int×T0X
abbrev T1C:Type:=Int×Int×Int×Int×LDCn×T0p
abbrev T1D:Type:=Int×T1s
abbrev T1E:Type:=Int×LI×Int×Int×Bool×T0z
abbrev T1F:Type:=Int×T1v
abbrev T1G:Type:=LDIn×LI×LLI×LI×Int×T0B
abbrev T1H:Type:=LDLn×Int×Int×T0Z
abbrev T1I:Type:=LDOu×T1q
abbrev T1J:Type:=LI×(List (Int×Int×Int×Int×Int×Int×LDCn×LDCn))×Unit
abbrev T1K:Type:=LI×Int×LI×Int×Int×T0z
abbrev T1L:Type:=LI×LLCn×Int×Int×LDCn×T0u
abbrev T1M:Type:=LLCn×T1s
abbrev T1N:Type:=LLI×T1q
abbrev T1O:Type:=LLI×T1r
abbrev T1P:Type:=Bool×T1J
abbrev T1Q:Type:=Int×Bool×T1v
abbrev T1R:Type:=Int×Int×Int×Int×Int×Bool×Bool×Bool×T00
abbrev T1S:Type:=Int×Int×T1m
abbrev T1T:Type:=Int×T1F
abbrev T1U:Type:=Int×Int×T1w
abbrev T1V:Type:=Int×T1J
abbrev T1W:Type:=LI×Int×Int×Int×Int×Int×T0A
abbrev T1X:Type:=LLI×T1y
abbrev T1Y:Type:=Unit×Int×Unit×Unit×Unit×T0N
abbrev T1Z:Type:=Int×Int×T1G
abbrev T20:Type:=Int×Int×T1O
abbrev T21:Type:=Int×T1Y
abbrev T22:Type:=LDCe×Int×Int×T1t
abbrev T23:Type:=LDCn×Nat×Int×Int×Int×T16
abbrev T24:Type:=LI×Int×Bool×LI×T19
abbrev T25:Type:=LI×Int×Int×LI×Int×Int×T0M
abbrev T26:Type:=LLI×Int×Int×LI×Int×Int×T0R
abbrev T27:Type:=ByteArray×LDCn×T1S
abbrev T28:Type:=Int×Int×Bool×T1G
abbrev T29:Type:=Int×Int×T1R
abbrev T2a:Type:=Int×Int×Int×Int×LDCn×Int×Bool×T0P
abbrev T2b:Type:=Int×Int×Int×Int×Nat×T1f
abbrev T2c:Type:=LDEn×Int×T1V
abbrev T2d:Type:=LI×Int×Int×LI×Int×Int×T11
abbrev T2e:Type:=LLI×T1Z
abbrev T2f:Type:=Int×Int×Bool×T1R
abbrev T2g:Type:=LI×Int×LDCe×LDLn×LDTh×T1t
abbrev T2h:Type:=Int×Int×LLI×Int×Int×LI×T1r
abbrev T2i:Type:=Int×Int×LDIn×LI×LLI×T1Y
abbrev T2j:Type:=LI×Int×LDCe×LDLn×LDTh×T1Y
abbrev T2k:Type:=Int×LLI×Int×Int×LI×T1Z
abbrev T2l:Type:=LDIn×LI×LLI×T2g
abbrev T2m:Type:=LI×Int×Int×Int×Int×Int×Unit×Int×Bool×T1a
abbrev T2n:Type:=Nat×LI×Int×LDCe×LDLn×LDTh×Int×Int×Int×Int×Int×Int×T0x
abbrev T2o:Type:=Int×Int×Int×Int×Int×Int×Int×Int×Int×LDCn×LDCn×T1a
abbrev T2p:Type:=Int×Int×LI×Int×Int×Int×Int×Int×Int×Int×Int×Int×Int×Int×T0n
abbrev T2q:Type:=LDIn×LI×LLI×LI×Int×LDCe×LDLn×LDTh×LI×LI×LLI×LLCn×LDOp×LDOu×LI×LLI×LDEn×LI×Unit
abbrev T2r:Type:=LDTh×Int×Int×T2j
abbrev T2s:Type:=LI×Int×Int×Int×Int×Int×Int×Int×Unit×Unit×T1m
abbrev T2t:Type:=LI×Int×Int×Int×Int×Int×Int×Int×Unit×Unit×T1n
abbrev T2u:Type:=Int×Int×Int×Int×Int×Int×LDCn×LDCn×Int×Int×Int×Int×LDCn×Int×T0F
abbrev T2v:Type:=LDIn×LI×LLI×LI×Int×LDCe×LDLn×LDTh×LI×LI×LLI×LLCn×LDOp×LDOu×LI×LLI×LDEn×LI×LI×Unit
abbrev T2w:Type:=LI×T2o
abbrev T2x:Type:=Nat×Int×LI×Int×LDCe×LDLn×LDTh×LDIn×LI×LLI×T1A
abbrev T2y:Type:=Int×Bool×T2q
abbrev T2z:Type:=Int×ByteArray×Int×Int×T2l
abbrev T2A:Type:=Int×Int×Int×T2q
abbrev T2B:Type:=LI×Int×Int×T2t
abbrev T2C:Type:=Int×Int×Int×T2v
abbrev T2D:Type:=LDIn×LI×LLI×LI×Int×LDCe×LDLn×LDTh×LI×LI×LLI×LLCn×LDOp×LDOu×LI×LLI×LDEn×LI×T1b
abbrev T2E:Type:=LI×Int×LDCe×LDLn×LDTh×LDIn×LI×LLI×Int×Int×Int×Int×Int×Int×LDCn×LDCn×Int×Int×Int×Int×LDCn×T0o
abbrev T2F:Type:=Nat×Bool×LI×Int×LDCe×LDLn×LDTh×T2u
abbrev T2G:Type:=Nat×T2E
abbrev T2H:Type:=Unit×Unit×Unit×Unit×Unit×Unit×Int×Int×Int×Int×Unit×Int×Bool×LI×LI×LLI×LLCn×LDOp×LDOu×T1a
abbrev T2I:Type:=Unit×Unit×Unit×Unit×Unit×Unit×Int×Int×Int×Int×Unit×Int×Bool×LI×LI×LLI×LLCn×LDOp×LDOu×T1b
abbrev T2J:Type:=LI×Int×LDCe×LDLn×LDTh×LDIn×LI×LLI×T2u
abbrev T2K:Type:=LDTh×Int×Int×T2D
abbrev T2L:Type:=Nat×LDCn×Int×Int×T2J
abbrev T2M:Type:=Nat×LDCn×Int×Int×Bool×T2J
abbrev T2N:Type:=LI×LI×LLI×LLCn×LDOp×LDOu×Int×Int×Int×Int×Int×Int×LDCn×LDCn×Unit×Unit×Unit×Unit×Unit×Unit×Int×Int×Int×Int×Unit×Int×Bool×LI×LI×LLI×LLCn×LDOp×LDOu×LI×Unit
abbrev T2O:Type:=Int×Bool×LDIn×LI×LLI×LI×Int×LDCe×LDLn×LDTh×LI×LI×LLI×LLCn×LDOp×LDOu×LI×LLI×LDEn×LI×Int×Int×Int×Int×Int×Int×LDCn×LDCn×T1b
abbrev T2P:Type:=Unit×Unit×Unit×Unit×Int×Unit×Unit×Unit×Unit×Unit×Unit×Unit×Unit×Unit×Unit×Unit×Unit×Unit×T2q
abbrev T2Q:Type:=Unit×Unit×Unit×Unit×Int×Unit×Unit×Unit×Unit×Unit×Unit×Unit×Unit×Unit×Unit×Unit×Unit×Unit×LDIn×LI×LLI×LI×Int×LDCe×LDLn×LDTh×LI×LI×LLI×LLCn×LDOp×LDOu×LI×LLI×Unit×LI×Unit
abbrev T2R:Type:=Int×T2P
abbrev T2S:Type:=Int×T2Q
abbrev T2T:Type:=LDCn×Int×Int×T2N
abbrev T2U:Type:=LDIn×LI×LLI×Unit×Int×Unit×Unit×Unit×Int×Int×Int×Int×Int×Int×Unit×Unit×LI×Int×LDCe×LDLn×LDTh×Int×LDCe×Int×Int×Int×Int×T1S
abbrev T2V:Type:=LDIn×LI×LLI×Unit×Int×Unit×Unit×Unit×Int×Int×Int×Int×Int×Int×Unit×Unit×LI×Int×LDCe×LDLn×LDTh×Int×LDCe×Int×Int×Int×Int×Int×Int×T1n
abbrev T2W:Type:=Bool×T2V
abbrev T2X:Type:=Int×T2R
abbrev T2Y:Type:=LI×T2R
abbrev T2Z:Type:=Int×Int×T2U
abbrev T30:Type:=Int×Int×T2V
abbrev T31:Type:=Int×T2Y
abbrev T32:Type:=Int×Int×Bool×T2U
noncomputable abbrev ap1{A0 D R:Type}(f:A0→R)(h:A0×D):R:=f h.1
noncomputable abbrev ap2{A0 A1 D R:Type}(f:A0→A1→R)(h:A0×A1×D):R:=f h.1 h.2.1
noncomputable abbrev ap3{A0 A1 A2 D R:Type}(f:A0→A1→A2→R)(h:A0×A1×A2×D):R:=f h.1 h.2.1 h.2.2.1
noncomputable abbrev ap4{A0 A1 A2 A3 D R:Type}(f:A0→A1→A2→A3→R)(h:A0×A1×A2×A3×D):R:=f h.1 h.2.1 h.2.2.1 h.2.2.2.1
noncomputable abbrev ap5{A0 A1 A2 A3 A4 D R:Type}(f:A0→A1→A2→A3→A4→R)(h:A0×A1×A2×A3×A4×D):R:=f h.1 h.2.1 h.2.2.1 h.2.2.2.1 h.2.2.2.2.1
noncomputable abbrev ap6{A0 A1 A2 A3 A4 A5 D R:Type}(f:A0→A1→A2→A3→A4→A5→R)(h:A0×A1×A2×A3×A4×A5×D):R:=f h.1 h.2.1 h.2.2.1 h.2.2.2.1 h.2.2.2.2.1 h.2.2.2.2.2.1
noncomputable abbrev ap7{A0 A1 A2 A3 A4 A5 A6 D R:Type}(f:A0→A1→A2→A3→A4→A5→A6→R)(h:A0×A1×A2×A3×A4×A5×A6×D):R:=f h.1 h.2.1 h.2.2.1 h.2.2.2.1 h.2.2.2.2.1 h.2.2.2.2.2.1 h.2.2.2.2.2.2.1
noncomputable abbrev ap8{A0 A1 A2 A3 A4 A5 A6 A7 D R:Type}(f:A0→A1→A2→A3→A4→A5→A6→A7→R)(h:A0×A1×A2×A3×A4×A5×A6×A7×D):R:=f h.1 h.2.1 h.2.2.1 h.2.2.2.1 h.2.2.2.2.1 h.2.2.2.2.2.1 h.2.2.2.2.2.2.1 h.2.2.2.2.2.2.2.1
noncomputable abbrev ap9{A0 A1 A2 A3 A4 A5 A6 A7 A8 D R:Type}(f:A0→A1→A2→A3→A4→A5→A6→A7→A8→R)(h:A0×A1×A2×A3×A4×A5×A6×A7×A8×D):R:=f h.1 h.2.1 h.2.2.1 h.2.2.2.1 h.2.2.2.2.1 h.2.2.2.2.2.1 h.2.2.2.2.2.2.1 h.2.2.2.2.2.2.2.1 h.2.2.2.2.2.2.2.2.1
noncomputable abbrev ap10{A0 A1 A2 A3 A4 A5 A6 A7 A8 A9 D R:Type}(f:A0→A1→A2→A3→A4→A5→A6→A7→A8→A9→R)(h:A0×A1×A2×A3×A4×A5×A6×A7×A8×A9×D):R:=f h.1 h.2.1 h.2.2.1 h.2.2.2.1 h.2.2.2.2.1 h.2.2.2.2.2.1 h.2.2.2.2.2.2.1 h.2.2.2.2.2.2.2.1 h.2.2.2.2.2.2.2.2.1 h.2.2.2.2.2.2.2.2.2.1
noncomputable abbrev ap11{A0 A1 A2 A3 A4 A5 A6 A7 A8 A9 A10 D R:Type}(f:A0→A1→A2→A3→A4→A5→A6→A7→A8→A9→A10→R)(h:A0×A1×A2×A3×A4×A5×A6×A7×A8×A9×A10×D):R:=f h.1 h.2.1 h.2.2.1 h.2.2.2.1 h.2.2.2.2.1 h.2.2.2.2.2.1 h.2.2.2.2.2.2.1 h.2.2.2.2.2.2.2.1 h.2.2.2.2.2.2.2.2.1 h.2.2.2.2.2.2.2.2.2.1 h.2.2.2.2.2.2.2.2.2.2.1
noncomputable abbrev ap14{A0 A1 A2 A3 A4 A5 A6 A7 A8 A9 A10 A11 A12 A13 D R:Type}(f:A0→A1→A2→A3→A4→A5→A6→A7→A8→A9→A10→A11→A12→A13→R)(h:A0×A1×A2×A3×A4×A5×A6×A7×A8×A9×A10×A11×A12×A13×D):R:=f h.1 h.2.1 h.2.2.1 h.2.2.2.1 h.2.2.2.2.1 h.2.2.2.2.2.1 h.2.2.2.2.2.2.1 h.2.2.2.2.2.2.2.1 h.2.2.2.2.2.2.2.2.1 h.2.2.2.2.2.2.2.2.2.1 h.2.2.2.2.2.2.2.2.2.2.1 h.2.2.2.2.2.2.2.2.2.2.2.1 h.2.2.2.2.2.2.2.2.2.2.2.2.1 h.2.2.2.2.2.2.2.2.2.2.2.2.2.1
noncomputable abbrev ap16{A0 A1 A2 A3 A4 A5 A6 A7 A8 A9 A10 A11 A12 A13 A14 A15 D R:Type}(f:A0→A1→A2→A3→A4→A5→A6→A7→A8→A9→A10→A11→A12→A13→A14→A15→R)(h:A0×A1×A2×A3×A4×A5×A6×A7×A8×A9×A10×A11×A12×A13×A14×A15×D):R:=f h.1 h.2.1 h.2.2.1 h.2.2.2.1 h.2.2.2.2.1 h.2.2.2.2.2.1 h.2.2.2.2.2.2.1 h.2.2.2.2.2.2.2.1 h.2.2.2.2.2.2.2.2.1 h.2.2.2.2.2.2.2.2.2.1 h.2.2.2.2.2.2.2.2.2.2.1 h.2.2.2.2.2.2.2.2.2.2.2.1 h.2.2.2.2.2.2.2.2.2.2.2.2.1 h.2.2.2.2.2.2.2.2.2.2.2.2.2.1 h.2.2.2.2.2.2.2.2.2.2.2.2.2.2.1 h.2.2.2.2.2.2.2.2.2.2.2.2.2.2.2.1
noncomputable abbrev ap18{A0 A1 A2 A3 A4 A5 A6 A7 A8 A9 A10 A11 A12 A13 A14 A15 A16 A17 D R:Type}(f:A0→A1→A2→A3→A4→A5→A6→A7→A8→A9→A10→A11→A12→A13→A14→A15→A16→A17→R)(h:A0×A1×A2×A3×A4×A5×A6×A7×A8×A9×A10×A11×A12×A13×A14×A15×A16×A17×D):R:=f h.1 h.2.1 h.2.2.1 h.2.2.2.1 h.2.2.2.2.1 h.2.2.2.2.2.1 h.2.2.2.2.2.2.1 h.2.2.2.2.2.2.2.1 h.2.2.2.2.2.2.2.2.1 h.2.2.2.2.2.2.2.2.2.1 h.2.2.2.2.2.2.2.2.2.2.1 h.2.2.2.2.2.2.2.2.2.2.2.1 h.2.2.2.2.2.2.2.2.2.2.2.2.1 h.2.2.2.2.2.2.2.2.2.2.2.2.2.1 h.2.2.2.2.2.2.2.2.2.2.2.2.2.2.1 h.2.2.2.2.2.2.2.2.2.2.2.2.2.2.2.1 h.2.2.2.2.2.2.2.2.2.2.2.2.2.2.2.2.1 h.2.2.2.2.2.2.2.2.2.2.2.2.2.2.2.2.2.1
noncomputable abbrev ap19{A0 A1 A2 A3 A4 A5 A6 A7 A8 A9 A10 A11 A12 A13 A14 A15 A16 A17 A18 D R:Type}(f:A0→A1→A2→A3→A4→A5→A6→A7→A8→A9→A10→A11→A12→A13→A14→A15→A16→A17→A18→R)(h:A0×A1×A2×A3×A4×A5×A6×A7×A8×A9×A10×A11×A12×A13×A14×A15×A16×A17×A18×D):R:=f h.1 h.2.1 h.2.2.1 h.2.2.2.1 h.2.2.2.2.1 h.2.2.2.2.2.1 h.2.2.2.2.2.2.1 h.2.2.2.2.2.2.2.1 h.2.2.2.2.2.2.2.2.1 h.2.2.2.2.2.2.2.2.2.1 h.2.2.2.2.2.2.2.2.2.2.1 h.2.2.2.2.2.2.2.2.2.2.2.1 h.2.2.2.2.2.2.2.2.2.2.2.2.1 h.2.2.2.2.2.2.2.2.2.2.2.2.2.1 h.2.2.2.2.2.2.2.2.2.2.2.2.2.2.1 h.2.2.2.2.2.2.2.2.2.2.2.2.2.2.2.1 h.2.2.2.2.2.2.2.2.2.2.2.2.2.2.2.2.1 h.2.2.2.2.2.2.2.2.2.2.2.2.2.2.2.2.2.1 h.2.2.2.2.2.2.2.2.2.2.2.2.2.2.2.2.2.2.1
noncomputable abbrev ap20{A0 A1 A2 A3 A4 A5 A6 A7 A8 A9 A10 A11 A12 A13 A14 A15 A16 A17 A18 A19 D R:Type}(f:A0→A1→A2→A3→A4→A5→A6→A7→A8→A9→A10→A11→A12→A13→A14→A15→A16→A17→A18→A19→R)(h:A0×A1×A2×A3×A4×A5×A6×A7×A8×A9×A10×A11×A12×A13×A14×A15×A16×A17×A18×A19×D):R:=f h.1 h.2.1 h.2.2.1 h.2.2.2.1 h.2.2.2.2.1 h.2.2.2.2.2.1 h.2.2.2.2.2.2.1 h.2.2.2.2.2.2.2.1 h.2.2.2.2.2.2.2.2.1 h.2.2.2.2.2.2.2.2.2.1 h.2.2.2.2.2.2.2.2.2.2.1 h.2.2.2.2.2.2.2.2.2.2.2.1 h.2.2.2.2.2.2.2.2.2.2.2.2.1 h.2.2.2.2.2.2.2.2.2.2.2.2.2.1 h.2.2.2.2.2.2.2.2.2.2.2.2.2.2.1 h.2.2.2.2.2.2.2.2.2.2.2.2.2.2.2.1 h.2.2.2.2.2.2.2.2.2.2.2.2.2.2.2.2.1 h.2.2.2.2.2.2.2.2.2.2.2.2.2.2.2.2.2.1 h.2.2.2.2.2.2.2.2.2.2.2.2.2.2.2.2.2.2.1 h.2.2.2.2.2.2.2.2.2.2.2.2.2.2.2.2.2.2.2.1
noncomputable abbrev ap21{A0 A1 A2 A3 A4 A5 A6 A7 A8 A9 A10 A11 A12 A13 A14 A15 A16 A17 A18 A19 A20 D R:Type}(f:A0→A1→A2→A3→A4→A5→A6→A7→A8→A9→A10→A11→A12→A13→A14→A15→A16→A17→A18→A19→A20→R)(h:A0×A1×A2×A3×A4×A5×A6×A7×A8×A9×A10×A11×A12×A13×A14×A15×A16×A17×A18×A19×A20×D):R:=f h.1 h.2.1 h.2.2.1 h.2.2.2.1 h.2.2.2.2.1 h.2.2.2.2.2.1 h.2.2.2.2.2.2.1 h.2.2.2.2.2.2.2.1 h.2.2.2.2.2.2.2.2.1 h.2.2.2.2.2.2.2.2.2.1 h.2.2.2.2.2.2.2.2.2.2.1 h.2.2.2.2.2.2.2.2.2.2.2.1 h.2.2.2.2.2.2.2.2.2.2.2.2.1 h.2.2.2.2.2.2.2.2.2.2.2.2.2.1 h.2.2.2.2.2.2.2.2.2.2.2.2.2.2.1 h.2.2.2.2.2.2.2.2.2.2.2.2.2.2.2.1 h.2.2.2.2.2.2.2.2.2.2.2.2.2.2.2.2.1 h.2.2.2.2.2.2.2.2.2.2.2.2.2.2.2.2.2.1 h.2.2.2.2.2.2.2.2.2.2.2.2.2.2.2.2.2.2.1 h.2.2.2.2.2.2.2.2.2.2.2.2.2.2.2.2.2.2.2.1 h.2.2.2.2.2.2.2.2.2.2.2.2.2.2.2.2.2.2.2.2.1
noncomputable abbrev ap23{A0 A1 A2 A3 A4 A5 A6 A7 A8 A9 A10 A11 A12 A13 A14 A15 A16 A17 A18 A19 A20 A21 A22 D R:Type}(f:A0→A1→A2→A3→A4→A5→A6→A7→A8→A9→A10→A11→A12→A13→A14→A15→A16→A17→A18→A19→A20→A21→A22→R)(h:A0×A1×A2×A3×A4×A5×A6×A7×A8×A9×A10×A11×A12×A13×A14×A15×A16×A17×A18×A19×A20×A21×A22×D):R:=f h.1 h.2.1 h.2.2.1 h.2.2.2.1 h.2.2.2.2.1 h.2.2.2.2.2.1 h.2.2.2.2.2.2.1 h.2.2.2.2.2.2.2.1 h.2.2.2.2.2.2.2.2.1 h.2.2.2.2.2.2.2.2.2.1 h.2.2.2.2.2.2.2.2.2.2.1 h.2.2.2.2.2.2.2.2.2.2.2.1 h.2.2.2.2.2.2.2.2.2.2.2.2.1 h.2.2.2.2.2.2.2.2.2.2.2.2.2.1 h.2.2.2.2.2.2.2.2.2.2.2.2.2.2.1 h.2.2.2.2.2.2.2.2.2.2.2.2.2.2.2.1 h.2.2.2.2.2.2.2.2.2.2.2.2.2.2.2.2.1 h.2.2.2.2.2.2.2.2.2.2.2.2.2.2.2.2.2.1 h.2.2.2.2.2.2.2.2.2.2.2.2.2.2.2.2.2.2.1 h.2.2.2.2.2.2.2.2.2.2.2.2.2.2.2.2.2.2.2.1 h.2.2.2.2.2.2.2.2.2.2.2.2.2.2.2.2.2.2.2.2.1 h.2.2.2.2.2.2.2.2.2.2.2.2.2.2.2.2.2.2.2.2.2.1 h.2.2.2.2.2.2.2.2.2.2.2.2.2.2.2.2.2.2.2.2.2.2.1
noncomputable abbrev ap26{A0 A1 A2 A3 A4 A5 A6 A7 A8 A9 A10 A11 A12 A13 A14 A15 A16 A17 A18 A19 A20 A21 A22 A23 A24 A25 D R:Type}(f:A0→A1→A2→A3→A4→A5→A6→A7→A8→A9→A10→A11→A12→A13→A14→A15→A16→A17→A18→A19→A20→A21→A22→A23→A24→A25→R)(h:A0×A1×A2×A3×A4×A5×A6×A7×A8×A9×A10×A11×A12×A13×A14×A15×A16×A17×A18×A19×A20×A21×A22×A23×A24×A25×D):R:=f h.1 h.2.1 h.2.2.1 h.2.2.2.1 h.2.2.2.2.1 h.2.2.2.2.2.1 h.2.2.2.2.2.2.1 h.2.2.2.2.2.2.2.1 h.2.2.2.2.2.2.2.2.1 h.2.2.2.2.2.2.2.2.2.1 h.2.2.2.2.2.2.2.2.2.2.1 h.2.2.2.2.2.2.2.2.2.2.2.1 h.2.2.2.2.2.2.2.2.2.2.2.2.1 h.2.2.2.2.2.2.2.2.2.2.2.2.2.1 h.2.2.2.2.2.2.2.2.2.2.2.2.2.2.1 h.2.2.2.2.2.2.2.2.2.2.2.2.2.2.2.1 h.2.2.2.2.2.2.2.2.2.2.2.2.2.2.2.2.1 h.2.2.2.2.2.2.2.2.2.2.2.2.2.2.2.2.2.1 h.2.2.2.2.2.2.2.2.2.2.2.2.2.2.2.2.2.2.1 h.2.2.2.2.2.2.2.2.2.2.2.2.2.2.2.2.2.2.2.1 h.2.2.2.2.2.2.2.2.2.2.2.2.2.2.2.2.2.2.2.2.1 h.2.2.2.2.2.2.2.2.2.2.2.2.2.2.2.2.2.2.2.2.2.1 h.2.2.2.2.2.2.2.2.2.2.2.2.2.2.2.2.2.2.2.2.2.2.1 h.2.2.2.2.2.2.2.2.2.2.2.2.2.2.2.2.2.2.2.2.2.2.2.1 h.2.2.2.2.2.2.2.2.2.2.2.2.2.2.2.2.2.2.2.2.2.2.2.2.1 h.2.2.2.2.2.2.2.2.2.2.2.2.2.2.2.2.2.2.2.2.2.2.2.2.2.1
theorem ls{n:Nat}(C:X.Cfg)(hT:GI E0 TT noB n C.TB){c:Ctr}(hE:C.E=E0:=by rfl)(h1:(TT c.f).isSome=true:=by kernel_rfl)(hg:∀h,X.runT dM C () ((TT c.f).getD Qm) c.outs (i7 c.ins _ h).1 (tB c.pts [] (i7 c.ins _ h).2).1=c.g h:=by intro h;kernel_rfl):Lk (n+1) c:=PL (n:=n) (C:=C) hE hT (PV h1) hg
abbrev Ud(t:Nat):Nat×Sh:=sP t I64
abbrev Ue(t:Nat):Nat×Sh:=sP t .bool
abbrev Uf(t r:Nat):Nat×Sh:=(t,.pk ⟨r,0,[]⟩ [0,0])
abbrev Ua(t:CT):CT:=.row true t
abbrev Ub(t:CT):CT:=.row false t
abbrev Uc(t:Nat):Nat×Sh:=pP t (2*t+2)
abbrev Ug:List Sh:=uL [RI,I64]
abbrev Uh:List Sh:=uL [.bool]
abbrev Ui:List Sh:=uL [gk,RI,(Ub RW)]
abbrev Uj:List Sh:=uL [CB,CW]
abbrev uaa:List Sh:=uL [N1,N1]
abbrev yaa:List Sh:=uL [RI,CW]
abbrev zaa:List Sh:=uL [(Ua I64)]
abbrev Uaa:List Sh:=uL [I64,I64,I64,I64,I64,I64,eF,eF]
abbrev Xaa:List Sh:=uL [gk,RI,(Ub RW),RI,CW,gn,iJ,jt,RW,RW,(Ub RW),(Ub eF),ii,kE,RI,(Ub RI),(Ua sB),(Ua I64)]
abbrev Zaa:List Sh:=uL [RI,CW,(Ua KCe),lO,sA]
abbrev uab:List Sh:=uL [I64,I64]
abbrev yab:List Sh:=uL [I64]
abbrev zab:List Sh:=uL [(Ub eF),ii]
abbrev Uab:List Sh:=uL [I64,I64,I64,I64,I64]
abbrev Xab:List Sh:=uL [CB,CW,I64,I64,N1,I64,.bool]
abbrev Zab:List Sh:=uL [RI,CW,gn,iJ,jt]
abbrev uac:List Sh:=uL [I64,I64,I64,I64,I64,I64,N1,N1]
abbrev yac:List Sh:=uL [(Ua I64),(Ua (Ua I64))]
abbrev zac:List Sh:=uL [(Ua (Ua KCn)),(Ua KOp)]
abbrev Uac:List Sh:=uL [N1,CW,N1,N1,N1]
abbrev Xac:List Sh:=uL [CB,CW,I64,I64,eF,I64,.bool]
abbrev Zac:List Sh:=uL [I64,gn,I64,I64,I64,I64,I64,CW]
abbrev uad:List Sh:=uL [RI,(Ub RI)]
abbrev yad:List Sh:=uL [(Ua KCe),lO]
abbrev zad:List Sh:=uL [(Ua CB)]
abbrev Uad:List Sh:=uL [CB,CW,I64,I64]
abbrev Xad:List Sh:=uL [RW,RW,(Ub RW),(Ub eF),ii,kE]
abbrev Zad:List Sh:=uL [(Ua KCn)]
abbrev uae:List Sh:=uL [.bool,.bool,.bool,.bool]
abbrev yae:List Sh:=uL [N1,N1,N1]
abbrev zae:List Sh:=uL [N1,N1,N1,N1,CW,N1,N1,N1,N1,N1,N1,N1,N1,N1,N1,N1,N1,N1]
abbrev Uae:List Sh:=uL [gn,iJ]
abbrev Xae:List Sh:=uL [RI,CW,(Ua KCe),lO,(Ua Mx)]
abbrev Zae:List Sh:=uL [I64,I64,I64,I64,I64,I64,(Ua KCn),(Ua KCn)]
abbrev uaf:List Sh:=uL [N1,N1,N1,N1,N1,N1]
abbrev yaf:List Sh:=uL [I64,I64,I64,I64,I64,I64,I64,I64,I64,eF,eF,CB,CW,I64,I64,eF,I64,.bool]
abbrev zaf:List Sh:=uL [I64,I64,I64,I64,I64,I64,(Ua KCn),N1]
abbrev Uaf:List Sh:=uL [I64,(Ua KCe),I64,I64,I64,I64,I64,CW]
abbrev Xaf:List Sh:=uL [CB,CW,I64,I64,(Ua KCn),I64,.bool]
abbrev Zaf:List Sh:=uL [(Ua KIn),RI,(Ua (Ua CW))]
abbrev uag:List Sh:=uL [gk,RI,(Ua (Ua CW))]
abbrev yag:List Sh:=uL [I64,I64,.bool]
abbrev zag:List Sh:=uL [(Ua (Ua CW))]
abbrev Uag:List Sh:=uL [gk,RI,(Ub RW),RI,CW,gn,iJ,jt,RW,RW,(Ub RW),(Ub eF),ii,kE,RI,(Ub RI),D8,RI]
abbrev Xag:List Sh:=uL [CB,CW,I64]
abbrev Zag:List Sh:=uL [(Ua wR)]
abbrev uah:List Sh:=uL [(Ua FC)]
abbrev yah:List Sh:=uL [(Ua CW),(Ua CW),(Ua (Ua CW)),(Ua (Ua KCn)),(Ua KOp),(Ua FC)]
abbrev zah:List Sh:=uL [I64,I64,I64,I64,I64,I64,I64,I64,I64,(Ua KCn),(Ua KCn),CB,CW,I64,I64,(Ua KCn),I64,.bool]
abbrev Uah:List Sh:=uL [(Ua (Ua KCn)),(Ua KOp),I64]
abbrev Xah:List Sh:=uL [RI,CW,gn,iJ,sA]
abbrev Zah:List Sh:=uL [(Ua (Ua KCn)),(Ua KOp),.bool]
abbrev uai:List Sh:=uL [RI,CW,gn,iJ,jt,.bool]
abbrev yai:List Sh:=uL [gk,RI,(Ub RW),RI,CW,gn,iJ,jt,RW,RW,(Ub RW),(Ub eF),ii,kE,RI,(Ub RI),(Ua sB)]
def jn(a0:Int)(a1:Int):Option (Int×Unit):=
bif(a1 != 0)then let x0:Int:=(Int.tmod a0 a1);
(bif(decide (x0<0))then(let x1:Int:=(w64 (x0+a1));
some (x1,()))else
some (x0,()):Option (Int×Unit)).bind λ(x1,_)=>
some (x1,())else none
def E4:X.Cfg:=⟨E0,[],[],[⟨2,0,qE,[(.normal,qS [Ud 5] [])]⟩]⟩
def sy:Ctr:=⟨33,0,uab,[],[⟨yab,[.one],[]⟩],ap2 jn⟩
theorem xC:Lk 1 sy:=ls E4 aN
def ra(a0:Int)(a1:Int):Option (Int×Unit):=
(jn a0 a1).bind λ(x0,_)=>
some (x0,())
def L3:X.Cfg:=⟨E0,[sy],[],[]⟩
def B6:Ctr:=⟨13,1,uab,[],[⟨yab,[.one],[]⟩],ap2 ra⟩
theorem Gb:Lk 2 B6:=ls L3 (aC xC aN)
def dK(a0:Int)(a1:List (Int))(a2:Int):Option (T0f):=
let x0:=dR a1.length;
bif(decide (a2>=x0))then(some (0,a1,a2,()))else
let x1:=w64 (a2+1);
let x2:=w64 (x1-1);
(eE x2).bind λx3=>
(dN a1 x3).bind λx4=>
(ra x4 a0).bind λ(x5,_)=>
some (x5,a1,x1,())
def E8:X.Cfg:=⟨E0,[B6],[],[]⟩
def fq:Ctr:=⟨22,2,[.ptr ⟨2,0,[]⟩ [0],shU I64],[(2,Ug)],[⟨yab,[.one],[(2,Ug)]⟩],ap3 dK⟩
theorem fu:Lk 3 fq:=ls E8 (aC Gb aN)
def wg:Int×T0j->Option ((Int×T0j)⊕(Int×LI×T0c)):=λ(v0,v1,v2,v3,_)=>
bif(decide (v3<v2))then((eE v3).bind λx0=>
(dN v1 x0).bind λx1=>
let x2:=w64 (v0+x1);
let x3:=w64 (v3+1);
some (.inl (x2,v1,v2,x3,())))else
some (.inr (v0,v1,v2,v3,false,()))
def oL(a0:List (Int)):Option (Int×Unit):=
let x0:=dR a0.length;
(ej wg NN (0,a0,x0,0,())).bind λ(x1,_)=>
some (x1,())
def BG:X.Cfg:=⟨E0,[],[],[(lx 4 0 [Ud 3,sP 6 RI,Ud 7,Ud 8] [] 9)]⟩
def tY:Ctr:=⟨63,3,uL [RI],[],[⟨yab,[.one],[]⟩],ap1 oL⟩
theorem AZ:Lk 1 tY:=ls BG aN
def Ao:Int×LI×T0r->Option ((Int×LI×T0r)⊕(T0d⊕T1g)):=λ(v0,v1,v2,v3,v4)=>
bif(decide (v3<v2))then((eE v3).bind λx0=>
(dN v1 x0).bind λx1=>
(match(bif(decide (v0>=0))then(bif(decide (v0<x1))then(some (.inl (0,v3,v0,())))else
some (.inr (v0,v3,x1,v1,v2,v3,false,v4)))else
some (.inr (v0,v3,x1,v1,v2,v3,false,v4)):Option (T0d⊕(Int×Int×T1g)))with
|none=>none
|some (.inl (x2,x3,x4,_))=>
some (.inr (.inl (x2,x3,x4,())))
|some (.inr (x2,x3,x4,x5,x6,x7,x8,x9))=>
let ae:=w64 (x2-x4);
let af:=w64 (x7+1);
some (.inl (ae,x5,x6,af,x9))))else
some (.inr (.inr (v0,v1,v2,v3,false,v4)))
def uo(a0:List (Int))(a1:Int):Option (T0d):=
let x0:=dR a0.length;
(match ej Ao NN (a1,a0,x0,0,0,0,())with
|none=>none
|some (.inl (x1,x2,x3,_))=>
some (x2,x3,x1,())
|some (.inr (x1,x2,x3,_))=>
some (0,0,6,()))
def HP:X.Cfg:=⟨E0,[],[],[⟨8,0,qE,[(.ret,qS [Uc 4,Ud 5] [(10,uab)]),(.normal,qS [Ud 1,Uc 4,Ud 6,Ud 7,sP 8 RI,Ud 9,Ud 10,Ue 21] [(10,uab)])]⟩,⟨3,1,qS [Ud 1,Uc 4,sP 8 RI,Ud 9,Ud 10] [(10,uab)],[(.ret,qS [Uc 4,Ud 5] [(10,uab)]),(.exit 0,qS [Ud 1,Uc 4,sP 8 RI,Ud 9,Ud 10,Ue 11] [(10,uab)])]⟩]⟩
def Ai:Ctr:=⟨62,4,Ug,[],[⟨uL [I64,I64,I64],[.agg 2,.one],[]⟩],ap2 uo⟩
theorem HF:Lk 1 Ai:=ls HP aN
def gi(a0:List (Int))(a1:Int):Option (T0f):=
(dK 5 a0 a1).bind λ(x0,x1)=>
(bif(x0==0)then(some (x0,true,x1))else
bif(x0==1)then(some (x0,true,x1))else
some (x0,(x0==2),x1):Option (T0p)).bind λ(x3,x4,x5,x6,_)=>
bif x4 then((dK 8 x5 x6).bind λ(x7,x8,x9,_)=>
let ac:=wk .u16 x7;
some (ac,x8,x9,()))else
bif(x3==3)then((dK 3 x5 x6).bind λ(x7,x8,x9,_)=>
let ac:=w64 (65535-x7);
let ae:=wk .u16 ac;
some (ae,x8,x9,()))else
(dK 65536 x5 x6).bind λ(x7,x8,x9,_)=>
let ac:=wk .u16 x7;
some (ac,x8,x9,())
def E7:X.Cfg:=⟨E0,[fq],[],[⟨3,0,qE,[(.normal,qS [Uc 0,Ud 4,Ue 5] [(2,Ug)])]⟩]⟩
def mX:Ctr:=⟨64,5,[.ptr ⟨2,0,[]⟩ [0]],[(2,Ug)],[⟨uL [CW],[.one],[(2,Ug)]⟩],ap2 gi⟩
theorem oZ:Lk 4 mX:=ls E7 (aC fu aN)
def iC(a0:List (Int))(a1:List (Int))(a2:Int):Option (Int×Int×T0t):=
(dK 6 a1 a2).bind λ(x0,x1,x2,_)=>
bif(x0==4)then((oL a0).bind λ(x3,_)=>
(dK x3 x1 x2).bind λ(x4,x5,x6,_)=>
(uo a0 x4).bind λ(x7,x8,x9,_)=>
some (1,0,x7,x8,x5,x6,()))else
bif(x0==5)then((dK 10 x1 x2).bind λ(x3,x4,x5,_)=>
let x6:=wk .u16 x3;
some (2,x6,0,0,x4,x5,()))else
(gi x1 x2).bind λ(x3,x4,x5,_)=>
some (0,x3,0,0,x4,x5,())
def DK:X.Cfg:=⟨E0,[fq,tY,Ai,mX],[],[]⟩
def lz:Ctr:=⟨31,6,[.ptr ⟨2,0,[]⟩ [0],shU RI],[(2,Ug)],[⟨Uad,[.agg 4],[(2,Ug)]⟩],ap3 iC⟩
theorem nF:Lk 5 lz:=ls DK (aC fu (aC AZ (aC HF (aC oZ aN))))
def lH:Int×LI×Int×LDCn×Unit->Option ((Int×LI×Int×LDCn×Unit)⊕(Int×Bool×LI×Int×LDCn×Unit)):=λ(v0,v1,v2,v3,_)=>
bif(decide (v0>0))then(let x0:List (Int):=[8,4];
(iC x0 v1 v2).bind λ(x1,x2,x3,x4,x5,x6,_)=>
((dK 12 x5 x6).bind λ(x7,x8,x9,_)=>
bif(x7==0)then((dK 65536 x8 x9).bind λ(ac,ae,af,_)=>
some (v0,ae,af,v3,1,0,(-1),ac,()))else
some (v0,x8,x9,v3,x1,x2,x3,x4,()):Option (Int×LI×Int×LDCn×T0r)).bind λ(x7,x8,x9,ac,ae,af,ag,ah,_)=>
let ai:LDCn:=[(ae,(af,(ag,ah)))];
bif(dX 24 ac.length ai.length)then let aj:LDCn:=(List.append ac ai);
let ak:=w64 (x7-1);
some (.inl (ak,x8,x9,aj,()))else none)else
some (.inr (v0,false,v1,v2,v3,()))
def fQ(a0:Int)(a1:List (Int))(a2:Int):Option (LDCn×T07):=
let x0:=w64 (a0+1);
(dK x0 a1 a2).bind λ(x1,x2,x3,_)=>
(ej lH NN (x1,x2,x3,[],())).bind λ(x4,x5,x6,x7,x8,_)=>
some (x8,x6,x7,())
def BN:X.Cfg:=⟨E0,[fq,lz],[],[⟨9,0,qE,[(.normal,qS [Uc 0,Uf 5 13,Ud 6,Uc 7] [(2,Ug),(13,Zad),(16,Uad)])]⟩,(lx 4 1 [Uc 0,Uf 5 13,Ud 6] [(2,Ug),(13,Zad)] 13)]⟩
def pj:Ctr:=⟨61,7,[.ptr ⟨2,0,[]⟩ [0],shU I64],[(2,Ug)],[⟨Zad,[.one],[(2,Ug)]⟩],ap3 fQ⟩
theorem tp:Lk 6 pj:=ls BN (aC fu (aC nF aN))
def iR:T2B->Option (T2B⊕(LI×Int×Int×Bool×T2t)):=λ(v0,v1,v2,v3,v4,v5,v6,v7,v8,v9,v10,v11,v12,v13,v14,v15,v16,v17,v18,v19,v20,_)=>
bif(decide (v2<v1))then(((eE v2).bind λx0=>
(dN v0 x0).bind λx1=>
bif(x1==78)then((dK 5 v3 v4).bind λ(x2,x3,x4,_)=>
let x5:=wk .u16 x2;
let x6:LDCn:=[(0,(x5,(0,0)))];
bif(dX 24 v19.length x6.length)then let x7:LDCn:=(List.append v19 x6);
some (v0,v1,v2,x3,x4,v5,v6,v7,v8,v9,v10,v11,v12,v13,v14,v15,v16,v17,v18,x7,v20,())else none)else
bif(x1==72)then((dK 4 v3 v4).bind λ(x2,x3,x4,_)=>
let x5:=wk .u16 x2;
let x6:LDCn:=[(2,(x5,(0,0)))];
bif(dX 24 v19.length x6.length)then let x7:LDCn:=(List.append v19 x6);
some (v0,v1,v2,x3,x4,v5,v6,v7,v8,v9,v10,v11,v12,v13,v14,v15,v16,v17,v18,x7,v20,())else none)else
bif(x1==80)then((dK 2 v3 v4).bind λ(x2,x3,x4,_)=>
(dK 4 x3 x4).bind λ(x5,x6,x7,_)=>
let x8:LDCn:=[(1,(0,(x2,x5)))];
bif(dX 24 v19.length x8.length)then let x9:LDCn:=(List.append v19 x8);
some (v0,v1,v2,x6,x7,v5,v6,v7,v8,v9,v10,v11,v12,v13,v14,v15,v16,v17,v18,x9,v20,())else none)else
let x2:List (Int):=[8,4];
(iC x2 v3 v4).bind λ(x3,x4,x5,x6,x7,x8,_)=>
let x9:LDCn:=[(x3,(x4,(x5,x6)))];
bif(dX 24 v19.length x9.length)then let ac:LDCn:=(List.append v19 x9);
some (v0,v1,v2,x7,x8,v5,v6,v7,v8,v9,v10,v11,v12,v13,v14,v15,v16,v17,v18,ac,v20,())else none:Option (T2B)).bind λ(x0,x1,x2,x3,x4,x5,x6,x7,x8,x9,ac,ae)=>
let aq:=w64 (x2+1);
some (.inl (x0,x1,aq,x3,x4,x5,x6,x7,x8,x9,ac,ae)))else
some (.inr (v0,v1,v2,false,v3,v4,v5,v6,v7,v8,v9,v10,v11,v12,v13,v14,v15,v16,v17,v18,v19,v20,()))
def i6(a0:List (Int))(a1:Int):Option (Int×Int×Int×Int×Int×Int×LDCn×LDCn×T07):=
(dK 4 a0 a1).bind λ(x0,x1,x2,_)=>
let x3:List (Int):=[1,1,1,0,2,3];
(dK 6 x1 x2).bind λ(x4,x5,x6,_)=>
(eE x4).bind λx7=>
(dN x3 x7).bind λx8=>
(dN x3 x7).bind λx9=>
(dK 50 x5 x6).bind λ(ac,ae,af,_)=>
(dK 64 ae af).bind λ(ag,ah,ai,_)=>
(bif(x9==2)then((dK 6 ah ai).bind λ(aj,ak,am,_)=>
let an:=w64 (1+aj);
some (ak,am,0,0,0,0,0,0,(),(),x0,x9,an,ac,ag,0,(),(),()))else
some (ah,ai,0,0,0,0,0,0,(),(),x0,x9,0,ac,ag,0,(),(),()):Option (LI×Int×Int×Int×Int×Int×Int×Int×Unit×Unit×T1o)).bind λ(aj,ak,am,an,ap,aq,av,ax,ay,az,aA,aB,aD,aE,aF,aG,aH,aI,_)=>
bif(aB != 1)then(some (aA,aB,aD,aE,aF,aG,[],[],aj,ak,()))else
(dK 16 aj ak).bind λ(aJ,aK,aL,_)=>
let aM:List (ByteArray):=[(bytes [78]),(bytes [72,80,78]),(bytes [72,80,78]),(bytes [78,78]),(bytes [72]),(bytes [72,78]),(bytes []),(bytes []),(bytes [78]),(bytes [78]),(bytes [78,88]),(bytes [78]),(bytes [78]),(bytes [78,80,78]),(bytes [78,80,78]),(bytes [])];
(eE aJ).bind λaO=>
(dN aM aO).bind λaP=>
(dN aM aO).bind λaQ=>
bif(MD aQ)then let aR:List (Int):=(Ix aQ);
let aS:=dR aR.length;
(ej iR NN (aR,aS,0,aK,aL,am,an,ap,aq,av,ax,ay,az,aA,aB,aD,aE,aF,aJ,[],aI,())).bind λ(aT,aU,aV,aW,aY,aZ,ba,bc,bd,bf,bg,bh,bi,bj,bk,bl,bm,bn,bo,bp,bq,bv,_)=>
(bif(bp==1)then((fQ 6 aY aZ).bind λ(bz,bA,bB,_)=>
some (bA,bB,ba,bc,bd,bf,bg,bh,bi,bj,bk,bl,bm,bn,bo,bp,bq,bz,()))else
bif(bp==13)then((fQ 6 aY aZ).bind λ(bz,bA,bB,_)=>
some (bA,bB,ba,bc,bd,bf,bg,bh,bi,bj,bk,bl,bm,bn,bo,bp,bq,bz,()))else
some (aY,aZ,ba,bc,bd,bf,bg,bh,bi,bj,bk,bl,bm,bn,bo,bp,bq,[],()):Option (T2s)).bind λ(bz,bA,bB,bC,bD,bE,bF,bG,bH,bI,bJ,bK,bL,bM,bN,bO,bP,bQ,_)=>
((dK 10 bz bA).bind λ(bR,bS,bT,_)=>
bif(bR==0)then((fQ 3 bS bT).bind λ(bU,bV,bW,_)=>
some (bV,bW,bB,bC,bD,bE,bF,bG,bH,bI,bJ,bK,bL,bM,bN,bO,bU,bQ,()))else
some (bS,bT,bB,bC,bD,bE,bF,bG,bH,bI,bJ,bK,bL,bM,bN,bO,bP,bQ,()):Option (T2s)).bind λ(bR,bS,bT,bU,bV,bW,bY,bZ,b8,b9,cc,cd,cf,cg,ch,ci,cj,cl,_)=>
some (cc,cd,cf,cg,ch,ci,cj,cl,bR,bS,())else none
def zi:X.Cfg:=⟨E0,[fq,lz,pj],[],[⟨2,0,qE,[(.normal,qS [Uc 0,Uc 2,Uc 3] [(2,Ug),(6,uac),(8,uac)])]⟩,⟨14,1,qE,[(.normal,qS [Uc 0,Uc 2,Uc 3,sP 39 (Ub CB),Ud 40,Ud 41] [(2,Ug),(6,uac),(8,zaf)])]⟩,(lx 11 2 [Uc 0,Uc 2,Uc 3,sP 39 (Ub CB),Ud 40,Ud 41] [(2,Ug),(6,uac),(8,zaf)] 42),⟨20,3,qE,[(.normal,qS [Uc 0,Uc 2,Uc 3] [(2,Ug),(6,uac),(8,Zae)])]⟩,⟨22,4,qE,[(.normal,qS [Uc 0,Uc 2,Uc 3] [(2,Ug),(6,uac),(8,Zae)])]⟩]⟩
def rZ:Ctr:=⟨29,8,[.ptr ⟨2,0,[]⟩ [0]],[(2,Ug)],[⟨Zae,[.agg 8],[(2,Ug)]⟩],ap2 i6⟩
theorem yR:Lk 7 rZ:=ls zi (aC fu (aC nF (aC tp aN)))
def l8(a0:List (Int))(a1:Int):Option (T1C):=
let x0:List (Int):=[8,4];
(iC x0 a0 a1).bind λ(x1,x2,x3,x4,x5,x6,_)=>
(dK 6 x5 x6).bind λ(x7,x8,x9,_)=>
(dK 3 x8 x9).bind λ(ac,ae,af,_)=>
bif(ac==0)then((fQ 5 ae af).bind λ(ag,ah,ai,_)=>
((dK 5 ah ai).bind λ(aj,ak,am,_)=>
bif(aj==0)then((dK 4 ak am).bind λ(an,ap,aq,_)=>
some (ap,aq,0,0,0,0,(),0,false,x1,x2,x3,x4,ag,an,(x7==0),()))else
some (ak,am,0,0,0,0,(),0,false,x1,x2,x3,x4,ag,(-1),(x7==0),()):Option (T2m)).bind λ(aj,ak,am,an,ap,aq,av,ax,ay,az,aA,aB,aD,aE,aF,aG,_)=>
some (az,aA,aB,aD,aE,aF,aG,aj,ak,()))else
((dK 5 ae af).bind λ(ag,ah,ai,_)=>
bif(ag==0)then((dK 4 ah ai).bind λ(aj,ak,am,_)=>
some (ak,am,0,0,0,0,(),0,false,x1,x2,x3,x4,[],aj,(x7==0),()))else
some (ah,ai,0,0,0,0,(),0,false,x1,x2,x3,x4,[],(-1),(x7==0),()):Option (T2m)).bind λ(ag,ah,ai,aj,ak,am,an,ap,aq,av,ax,ay,az,aA,aB,aD,_)=>
some (av,ax,ay,az,aA,aB,aD,ag,ah,())
def BK:X.Cfg:=⟨E0,[lz,fq,pj],[],[⟨4,0,qE,[(.normal,qS [Uc 0,Uc 2,Uc 3] [(2,Ug),(6,Xab),(8,Xaf)])]⟩]⟩
def ua:Ctr:=⟨30,9,[.ptr ⟨2,0,[]⟩ [0]],[(2,Ug)],[⟨Xaf,[.agg 7],[(2,Ug)]⟩],ap2 l8⟩
theorem A4:Lk 7 ua:=ls BK (aC nF (aC fu (aC tp aN)))
def jz(a0:List (Int))(a1:Int):Option (Int×Int×Int×Int×Int×Int×Int×Int×Int×LDCn×LDCn×T1C):=
let x0:List (Int):=[1,1,2,2,3,4,0];
(dK 7 a0 a1).bind λ(x1,x2,x3,_)=>
(eE x1).bind λx4=>
(dN x0 x4).bind λx5=>
(dN x0 x4).bind λx6=>
(dK 4 x2 x3).bind λ(x7,x8,x9,_)=>
(bif(x6==1)then((dK 64 x8 x9).bind λ(ac,ae,af,_)=>
let ag:=w64 (1+ac);
(i6 ae af).bind λ(ah,ai,aj,ak,am,an,ap,aq,av,ax,_)=>
some (av,ax,0,0,0,0,0,0,0,0,0,(),(),0,0,0,0,(),0,false,x6,ah,ag,ah,ai,aj,ak,am,an,ap,aq,0,0,0,0,[],0,false,()))else
bif(x6==2)then((i6 x8 x9).bind λ(ac,ae,af,ag,ah,ai,aj,ak,am,an,_)=>
(l8 am an).bind λ(ap,aq,av,ax,ay,az,aA,aB,aD,_)=>
some (aB,aD,0,0,0,0,0,0,0,0,0,(),(),0,0,0,0,(),0,false,x6,ac,0,ac,ae,af,ag,ah,ai,aj,ak,ap,aq,av,ax,ay,az,aA,()))else
bif(x6==4)then(let ac:List (Int):=[8,4];
(iC ac x8 x9).bind λ(ae,af,ag,ah,ai,aj,_)=>
some (ai,aj,0,0,0,0,0,0,0,0,0,(),(),0,0,0,0,(),0,false,x6,x7,0,0,0,0,0,0,0,[],[],ae,af,ag,ah,[],(-1),false,()))else
some (x8,x9,0,0,0,0,0,0,0,0,0,(),(),0,0,0,0,(),0,false,x6,x7,0,0,0,0,0,0,0,[],[],0,0,0,0,[],0,false,()):Option (LI×Int×Int×Int×Int×Int×Int×Int×Int×Int×Int×Unit×Unit×Int×Int×Int×Int×Unit×Int×Bool×T2o)).bind λ(ac,ae,af,ag,ah,ai,aj,ak,am,an,ap,aq,av,ax,ay,az,aA,aB,aD,aE,aF,aG,aH,aI,aJ,aK,aL,aM,aO,aP,aQ,aR,aS,aT,aU,aV,aW,aY,_)=>
some (aF,aG,aH,aI,aJ,aK,aL,aM,aO,aP,aQ,aR,aS,aT,aU,aV,aW,aY,ac,ae,())
def DJ:X.Cfg:=⟨E0,[fq,rZ,ua,lz],[],[⟨2,0,qE,[(.normal,(qS [Uc 0,Uc 2,Uc 3] [(2,Ug),(6,uL [I64,I64,I64,I64,I64,I64,I64,I64,I64,N1,N1,CB,CW,I64,I64,N1,I64,.bool]),(8,zah)]))]⟩]⟩
def qV:Ctr:=⟨11,10,[.ptr ⟨2,0,[]⟩ [0]],[(2,Ug)],[⟨zah,[.agg 18],[(2,Ug)]⟩],ap2 jz⟩
theorem vt:Lk 8 qV:=ls DJ (aC fu (aC yR (aC A4 (aC nF aN))))
def p9:T0v->Option (T0v⊕(Int×Bool×T0l)):=λ(v0,v1,v2,v3,_)=>
bif(decide (v0>0))then(let x0:List (Int):=[6,12,32];
(dK 3 v1 v2).bind λ(x1,x2,x3,_)=>
(eE x1).bind λx4=>
(dN x0 x4).bind λx5=>
(dN x0 x4).bind λx6=>
(dK x6 x2 x3).bind λ(x7,x8,x9,_)=>
let ac:=w64 (1+x7);
bif(dX 8 v3.length (List.length [ac]))then let ae:List (Int):=(List.append v3 [ac]);
let af:=w64 (v0-1);
some (.inl (af,x8,x9,ae,()))else none)else
some (.inr (v0,false,v1,v2,v3,()))
def nw(a0:List (Int))(a1:Int):Option (LI×T07):=
(dK 9 a0 a1).bind λ(x0,x1,x2,_)=>
let x3:=w64 (4+x0);
(dK 4 x1 x2).bind λ(x4,x5,x6,_)=>
(ej p9 NN (x4,x5,x6,[x3],())).bind λ(x7,x8,x9,ac,ae,_)=>
some (ae,x9,ac,())
def DH:X.Cfg:=⟨E0,[fq],[],[(lx 4 0 [Uc 0,Uf 3 9,Ud 4] [(2,Ug),(9,zaa)] 12)]⟩
def vU:Ctr:=⟨79,11,[.ptr ⟨2,0,[]⟩ [0]],[(2,Ug)],[⟨zaa,[.one],[(2,Ug)]⟩],ap2 nw⟩
theorem C3:Lk 4 vU:=ls DH (aC fu aN)
def p8:T0v->Option (T0v⊕(Int×Bool×T0l)):=λ(v0,v1,v2,v3,_)=>
bif(decide (v0>0))then((gi v1 v2).bind λ(x0,x1,x2,_)=>
bif(dX 2 v3.length (List.length [x0]))then let x3:List (Int):=(List.append v3 [x0]);
let x4:=w64 (v0-1);
some (.inl (x4,x1,x2,x3,()))else none)else
some (.inr (v0,false,v1,v2,v3,()))
def fU(a0:Int)(a1:List (Int))(a2:Int):Option (LI×T07):=
let x0:=w64 (a0+1);
(dK x0 a1 a2).bind λ(x1,x2,x3,_)=>
(ej p8 NN (x1,x2,x3,[],())).bind λ(x4,x5,x6,x7,x8,_)=>
some (x8,x6,x7,())
def DG:X.Cfg:=⟨E0,[fq,mX],[],[(lx 4 0 [Uc 0,Uf 5 13,Ud 6] [(2,Ug),(13,uL [(Ua CW)])] 12)]⟩
def qU:Ctr:=⟨80,12,[.ptr ⟨2,0,[]⟩ [0],shU I64],[(2,Ug)],[⟨uL [(Ua CW)],[.one],[(2,Ug)]⟩],ap3 fU⟩
theorem vq:Lk 5 qU:=ls DG (aC fu (aC oZ aN))
def iB(a0:Int)(a1:Int):Option (T0J):=
some (1,a0,0,0,a1,())
def N8:X.Cfg:=⟨E0,[],[],[]⟩
def Fu:Ctr:=⟨82,13,uab,[],[⟨Uab,[.agg 5],[]⟩],ap2 iB⟩
theorem JX:Lk 1 Fu:=ls N8 aN
def gR(a0:Int):Option (T0J):=
some (23,0,0,0,a0,())
def L0:X.Cfg:=⟨E0,[],[],[]⟩
def B5:Ctr:=⟨83,14,yab,[],[⟨Uab,[.agg 5],[]⟩],ap1 gR⟩
theorem Ga:Lk 1 B5:=ls L0 aN
def lZ(a0:Int)(a1:Int):Option (T0J):=
some (2,a0,a1,0,0,())
def L1:X.Cfg:=⟨E0,[],[],[]⟩
def Gz:Ctr:=⟨107,15,uab,[],[⟨Uab,[.agg 5],[]⟩],ap2 lZ⟩
theorem LS:Lk 1 Gz:=ls L1 aN
def jy(a0:Int):Option (T0n):=
(bif(a0==1)then(some (a0,true,false,false,false,false,()))else
bif(a0==15)then(some (a0,true,false,false,false,false,()))else
bif(a0==19)then(some (a0,true,false,false,false,false,()))else
bif(a0==20)then(some (a0,true,false,false,false,false,()))else
some (a0,(a0==21),false,false,false,false,()):Option (Int×Bool×T0n)).bind λ(x0,x1,_)=>
bif x1 then(some (true,false,false,true,()))else
bif(x0==2)then(some (true,true,false,false,()))else
bif(x0==16)then(some (true,true,false,true,()))else
bif(x0==17)then(some (true,true,false,true,()))else
bif(x0==18)then(some (false,false,false,true,()))else
bif(x0==23)then(some (false,false,false,true,()))else
bif(x0==22)then(some (true,false,false,false,()))else
bif(x0==0)then(some (false,false,false,false,()))else
bif(x0==24)then(some (false,false,false,false,()))else
some (true,true,true,false,())
def Dx:X.Cfg:=⟨E0,[],[],[⟨3,0,qE,[(.normal,qS [Uc 2,Ud 3,Ue 4] [(6,uae)])]⟩]⟩
def qM:Ctr:=⟨134,16,yab,[],[⟨uae,[.agg 4],[]⟩],ap1 jy⟩
theorem vn:Lk 1 qM:=ls Dx aN
def gK(a0:Int):Option (Bool×Unit):=
bif(a0==18)then(some (true,()))else
bif(a0==19)then(some (true,()))else
bif(a0==20)then(some (true,()))else
some ((a0==21),())
def Dy:X.Cfg:=⟨E0,[],[],[]⟩
def jG:Ctr:=⟨84,17,yab,[],[⟨Uh,[.one],[]⟩],ap1 gK⟩
theorem lr:Lk 1 jG:=ls Dy aN
def ny(a0:Int)(a1:Int)(a2:List (Int))(a3:Int):Option (Int×Int×Int×T0t):=
(dK 25 a2 a3).bind λ(x0,x1,x2,_)=>
(jy x0).bind λ(x3,x4)=>
(bif x3 then((dK 8 x1 x2).bind λ(x7,x8,x9,_)=>
some (a0,a1,x8,x9,0,0,0,0,0,x0,x7,0,0,0,x3,x4))else
some (a0,a1,x1,x2,0,0,0,0,0,x0,0,0,0,0,x3,x4):Option (T2p)).bind λ(x7,x8,x9,ac,ae,af,ag,ah,ai,aj,ak,am,an,ap,aq,av,ax)=>
(bif av then((dK 8 x9 ac).bind λ(az,aA,aB,_)=>
some (x7,x8,aA,aB,ae,af,ag,ah,ai,aj,ak,az,an,ap,aq,av,ax))else
some (x7,x8,x9,ac,ae,af,ag,ah,ai,aj,ak,am,an,ap,aq,av,ax):Option (T2p)).bind λ(az,aA,aB,aD,aE,aF,aG,aH,aI,aJ,aK,aL,aM,aO,aP,aQ,aR,aS,_)=>
(bif aR then((dK 8 aB aD).bind λ(aT,aU,aV,_)=>
some (az,aA,aU,aV,aE,aF,aG,aH,aI,aJ,aK,aL,aT,aO,aP,aQ,aR,aS,()))else
some (az,aA,aB,aD,aE,aF,aG,aH,aI,aJ,aK,aL,aM,aO,aP,aQ,aR,aS,()):Option (T2p)).bind λ(aT,aU,aV,aW,aY,aZ,ba,bc,bd,bf,bg,bh,bi,bj,bk,bl,bm,bn,_)=>
((gK bf).bind λ(bo,_)=>
bif bo then((dK aU aV aW).bind λ(bp,bq,bv,_)=>
some (bq,bv,aY,aZ,ba,bc,bd,bf,bg,bh,bi,bp,()))else
bif(bf==15)then((dK aT aV aW).bind λ(bp,bq,bv,_)=>
some (bq,bv,aY,aZ,ba,bc,bd,bf,bg,bh,bi,bp,()))else
bif(bf==23)then((dK 16 aV aW).bind λ(bp,bq,bv,_)=>
some (bq,bv,aY,aZ,ba,bc,bd,bf,bg,bh,bi,bp,()))else
bif bn then((gi aV aW).bind λ(bp,bq,bv,_)=>
let bz:=wk .i64 bp;
some (bq,bv,aY,aZ,ba,bc,bd,bf,bg,bh,bi,bz,()))else
some (aV,aW,aY,aZ,ba,bc,bd,bf,bg,bh,bi,bj,()):Option (LI×Int×Int×T1A)).bind λ(bo,bp,bq,bv,bz,bA,bB,bC,bD,bE,bF,bG,_)=>
some (bC,bD,bE,bF,bG,bo,bp,())
def DI:X.Cfg:=⟨E0,[fq,qM,jG,mX],[],[⟨3,0,qE,[(.normal,qS [Uc 0,Ud 1,Ud 2,Uc 6,Uc 7,Uc 8] [(2,Ug),(14,Uab),(16,Uab),(18,uae)])]⟩,⟨5,1,qE,[(.normal,qS [Uc 0,Ud 1,Ud 2,Uc 6,Uc 7,Uc 8] [(2,Ug),(14,Uab),(16,Uab),(18,uae)])]⟩,⟨7,2,qE,[(.normal,qS [Uc 0,Ud 1,Ud 2,Uc 6,Uc 7,Uc 8] [(2,Ug),(14,Uab),(16,Uab),(18,uae)])]⟩,⟨9,3,qE,[(.normal,qS [Uc 0,Uc 6,Uc 7] [(2,Ug),(14,Uab),(16,Uab)])]⟩]⟩
def vV:Ctr:=⟨108,18,[.ptr ⟨2,0,[]⟩ [0],shU I64,shU I64],[(2,Ug)],[⟨Uab,[.agg 5],[(2,Ug)]⟩],ap4 ny⟩
theorem C4:Lk 5 vV:=ls DI (aC fu (aC vn (aC lr (aC oZ aN))))
def oM(a0:List (Int))(a1:Int)(a2:Int)(a3:List (Int))(a4:Int):Option (LDIn×T07):=
let x0:=dR a0.length;
(dK x0 a3 a4).bind λ(x1,x2,x3,_)=>
(eE x1).bind λx4=>
(dN a0 x4).bind λx5=>
let x6:=w64 (x5+1);
let x7:=mmR false 5 x6;
(dK x7 x2 x3).bind λ(x8,x9,ac,_)=>
(iB 2 x8).bind λ(ae,af,ag,ah,ai,_)=>
let aj:LDIn:=[(15,(1,(0,(0,x1)))),(ae,(af,(ag,(ah,ai))))];
(dK 20 x9 ac).bind λ(ak,am,an,_)=>
bif(ak==0)then((dK 3 am an).bind λ(ap,aq,av,_)=>
let ax:=w64 (3+ap);
(gi aq av).bind λ(ay,az,aA,_)=>
let aB:=wk .i64 ay;
(iB ax aB).bind λ(aD,aE,aF,aG,aH,_)=>
let aI:LDIn:=[(aD,(aE,(aF,(aG,aH))))];
some (aI,az,aA,()))else
bif(ak==1)then(let ap:List (Int):=[3,4,5,10,13,14,11,9];
(dK 8 am an).bind λ(aq,av,ax,_)=>
(eE aq).bind λay=>
(dN ap ay).bind λaz=>
(dN ap ay).bind λaA=>
(dK 3 av ax).bind λ(aB,aD,aE,_)=>
let aF:=w64 (3+aB);
(dK 3 aD aE).bind λ(aG,aH,aI,_)=>
let aJ:=w64 (3+aG);
(dK 3 aH aI).bind λ(aK,aL,aM,_)=>
let aO:=w64 (3+aK);
let aP:LDIn:=[(aA,(aF,(aJ,(aO,0))))];
some (aP,aL,aM,()))else
bif(ak==2)then(let ap:LDIn:=[(15,(6,(0,(0,x1))))];
some (ap,am,an,()))else
bif(ak==3)then((dK 5 am an).bind λ(ap,aq,av,_)=>
let ax:=w64 (3+ap);
(eE x1).bind λay=>
(dN a0 ay).bind λaz=>
(dK az aq av).bind λ(aA,aB,aD,_)=>
let aE:LDIn:=[(15,(6,(0,(0,x1)))),(17,(6,(ax,(0,aA))))];
some (aE,aB,aD,()))else
bif(ak==4)then((dK 5 am an).bind λ(ap,aq,av,_)=>
let ax:=w64 (3+ap);
(eE x1).bind λay=>
(dN a0 ay).bind λaz=>
(dK az aq av).bind λ(aA,aB,aD,_)=>
let aE:LDIn:=[(15,(6,(0,(0,x1)))),(17,(6,(ax,(0,aA))))];
some (aE,aB,aD,()))else
bif(ak==5)then((dK 4 am an).bind λ(ap,aq,av,_)=>
let ax:=w64 (3+ap);
(eE x1).bind λay=>
(dN a0 ay).bind λaz=>
(dK az aq av).bind λ(aA,aB,aD,_)=>
let aE:LDIn:=[(15,(6,(0,(0,x1)))),(16,(ax,(6,(0,aA))))];
some (aE,aB,aD,()))else
bif(ak==6)then((dK 4 am an).bind λ(ap,aq,av,_)=>
let ax:=w64 (3+ap);
(eE x1).bind λay=>
(dN a0 ay).bind λaz=>
(dK az aq av).bind λ(aA,aB,aD,_)=>
let aE:LDIn:=[(15,(6,(0,(0,x1)))),(16,(ax,(6,(0,aA))))];
some (aE,aB,aD,()))else
bif(ak==7)then((dK 3 am an).bind λ(ap,aq,av,_)=>
(iB 0 ap).bind λ(ax,ay,az,aA,aB,_)=>
let aD:LDIn:=[(ax,(ay,(az,(aA,aB))))];
bif(dX 40 aD.length aj.length)then let aE:LDIn:=(List.append aD aj);
(gR 13).bind λ(aF,aG,aH,aI,aJ,_)=>
let aK:LDIn:=[(aF,(aG,(aH,(aI,aJ))))];
bif(dX 40 aE.length aK.length)then let aL:LDIn:=(List.append aE aK);
some (aL,aq,av,())else none else none)else
bif(ak==8)then((dK 3 am an).bind λ(ap,aq,av,_)=>
(iB 0 ap).bind λ(ax,ay,az,aA,aB,_)=>
let aD:LDIn:=[(ax,(ay,(az,(aA,aB))))];
bif(dX 40 aD.length aj.length)then let aE:LDIn:=(List.append aD aj);
(gR 13).bind λ(aF,aG,aH,aI,aJ,_)=>
let aK:LDIn:=[(aF,(aG,(aH,(aI,aJ))))];
bif(dX 40 aE.length aK.length)then let aL:LDIn:=(List.append aE aK);
some (aL,aq,av,())else none else none)else
bif(ak==9)then((dK 3 am an).bind λ(ap,aq,av,_)=>
(iB 0 ap).bind λ(ax,ay,az,aA,aB,_)=>
let aD:LDIn:=[(ax,(ay,(az,(aA,aB))))];
bif(dX 40 aD.length aj.length)then let aE:LDIn:=(List.append aD aj);
(gR 14).bind λ(aF,aG,aH,aI,aJ,_)=>
(lZ 3 0).bind λ(aK,aL,aM,aO,aP,_)=>
let aQ:LDIn:=[(aF,(aG,(aH,(aI,aJ)))),(aK,(aL,(aM,(aO,aP))))];
bif(dX 40 aE.length aQ.length)then let aR:LDIn:=(List.append aE aQ);
some (aR,aq,av,())else none else none)else
bif(ak==10)then((dK 3 am an).bind λ(ap,aq,av,_)=>
(iB 0 ap).bind λ(ax,ay,az,aA,aB,_)=>
(dK 4 aq av).bind λ(aD,aE,aF,_)=>
(iB 1 aD).bind λ(aG,aH,aI,aJ,aK,_)=>
(gR 3).bind λ(aL,aM,aO,aP,aQ,_)=>
(lZ 7 0).bind λ(aR,aS,aT,aU,aV,_)=>
let aW:LDIn:=[(ax,(ay,(az,(aA,aB)))),(aG,(aH,(aI,(aJ,aK)))),(aL,(aM,(aO,(aP,aQ)))),(aR,(aS,(aT,(aU,aV))))];
some (aW,aE,aF,()))else
bif(ak==11)then((lZ 0 7).bind λ(ap,aq,av,ax,ay,_)=>
let az:LDIn:=[(ap,(aq,(av,(ax,ay))))];
bif(dX 40 az.length aj.length)then let aA:LDIn:=(List.append az aj);
let aB:List (Int):=[1,2];
(dK 2 am an).bind λ(aD,aE,aF,_)=>
(eE aD).bind λaG=>
(dN aB aG).bind λaH=>
(dN aB aG).bind λaI=>
(gR aI).bind λ(aJ,aK,aL,aM,aO,_)=>
let aP:LDIn:=[(aJ,(aK,(aL,(aM,aO))))];
bif(dX 40 aA.length aP.length)then let aQ:LDIn:=(List.append aA aP);
some (aQ,aE,aF,())else none else none)else
bif(ak==12)then((lZ 0 7).bind λ(ap,aq,av,ax,ay,_)=>
(gR 4).bind λ(az,aA,aB,aD,aE,_)=>
let aF:LDIn:=[(ap,(aq,(av,(ax,ay)))),(az,(aA,(aB,(aD,aE))))];
(lZ 0 7).bind λ(aG,aH,aI,aJ,aK,_)=>
(dK 4 am an).bind λ(aL,aM,aO,_)=>
(iB 1 aL).bind λ(aP,aQ,aR,aS,aT,_)=>
(gR 5).bind λ(aU,aV,aW,aY,aZ,_)=>
let ba:LDIn:=[(aG,(aH,(aI,(aJ,aK)))),(aP,(aQ,(aR,(aS,aT)))),(aU,(aV,(aW,(aY,aZ))))];
let bc:List LDIn:=[aF,ba];
(dK 2 aM aO).bind λ(bd,bf)=>
(eE bd).bind λbh=>
(dN bc bh).bind λbi=>
(dN bc bh).bind λbj=>
(dN bc bh).bind λbk=>
some (bk,bf))else
bif(ak==13)then(let ap:List (Int):=[6,7,15];
(dK 3 am an).bind λ(aq,av,ax,_)=>
(eE aq).bind λay=>
(dN ap ay).bind λaz=>
(dN ap ay).bind λaA=>
(gR aA).bind λ(aB,aD,aE,aF,aG,_)=>
(dK 3 av ax).bind λ(aH,aI,aJ,_)=>
let aK:=w64 (3+aH);
(lZ aK 0).bind λ(aL,aM,aO,aP,aQ,_)=>
let aR:LDIn:=[(aB,(aD,(aE,(aF,aG)))),(aL,(aM,(aO,(aP,aQ))))];
some (aR,aI,aJ,()))else
bif(ak==14)then((dK 3 am an).bind λ(ap,aq,av,_)=>
(iB 0 ap).bind λ(ax,ay,az,aA,aB,_)=>
let aD:List (Int):=[8,9];
(dK 2 aq av).bind λ(aE,aF,aG,_)=>
(eE aE).bind λaH=>
(dN aD aH).bind λaI=>
(dN aD aH).bind λaJ=>
(gR aJ).bind λ(aK,aL,aM,aO,aP,_)=>
let aQ:LDIn:=[(ax,(ay,(az,(aA,aB)))),(aK,(aL,(aM,(aO,aP))))];
some (aQ,aF,aG,()))else
bif(ak==15)then((dK 3 am an).bind λ(ap,aq,av,_)=>
(iB 0 ap).bind λ(ax,ay,az,aA,aB,_)=>
let aD:List (Int):=[8,9];
(dK 2 aq av).bind λ(aE,aF,aG,_)=>
(eE aE).bind λaH=>
(dN aD aH).bind λaI=>
(dN aD aH).bind λaJ=>
(gR aJ).bind λ(aK,aL,aM,aO,aP,_)=>
let aQ:LDIn:=[(ax,(ay,(az,(aA,aB)))),(aK,(aL,(aM,(aO,aP))))];
some (aQ,aF,aG,()))else
bif(ak==16)then((dK a1 am an).bind λ(ap,aq,av,_)=>
(iB 0 ap).bind λ(ax,ay,az,aA,aB,_)=>
(lZ 1 3).bind λ(aD,aE,aF,aG,aH,_)=>
(gR 10).bind λ(aI,aJ,aK,aL,aM,_)=>
let aO:LDIn:=[(ax,(ay,(az,(aA,aB)))),(aD,(aE,(aF,(aG,aH)))),(aI,(aJ,(aK,(aL,aM))))];
some (aO,aq,av,()))else
bif(ak==17)then(let ap:List (Int):=[a1,5];
(dK 2 am an).bind λ(aq,av,ax,_)=>
(eE aq).bind λay=>
(dN ap ay).bind λaz=>
(dN ap ay).bind λaA=>
(dK aA av ax).bind λ(aB,aD,aE,_)=>
(iB 0 aB).bind λ(aF,aG,aH,aI,aJ,_)=>
let aK:List (Int):=[12,11];
(dK 2 aD aE).bind λ(aL,aM,aO,_)=>
(eE aL).bind λaP=>
(dN aK aP).bind λaQ=>
(dN aK aP).bind λaR=>
(gR aR).bind λ(aS,aT,aU,aV,aW,_)=>
let aY:LDIn:=[(aF,(aG,(aH,(aI,aJ)))),(aS,(aT,(aU,(aV,aW))))];
some (aY,aM,aO,()))else
bif(ak==18)then((dK 4 am an).bind λ(ap,aq,av,_)=>
let ax:=w64 (1+ap);
(iB 5 ax).bind λ(ay,az,aA,aB,aD,_)=>
(iB 4 1).bind λ(aE,aF,aG,aH,aI,_)=>
let aJ:=w64 (a2+2);
let aK:LDIn:=[(ay,(az,(aA,(aB,aD)))),(aE,(aF,(aG,(aH,aI)))),(4,(5,(5,(4,0)))),(20,(5,(0,(0,aJ))))];
some (aK,aq,av,()))else
let ap:=dR a0.length;
(ny ap a1 am an).bind λ(aq,av,ax,ay,az,aA,aB,_)=>
let aD:LDIn:=[(aq,(av,(ax,(ay,az))))];
some (aD,aA,aB,())
def E6:X.Cfg:=⟨E0,[fq,Fu,mX,B5,Gz,vV],[(156,(Ua KIn))],[]⟩
def yw:Ctr:=⟨81,19,[.ptr ⟨2,0,[]⟩ [0],shU RI,shU I64,shU I64],[(2,Ug)],[⟨uL [gk],[.one],[(2,Ug)]⟩],ap5 oM⟩
theorem EQ:Lk 6 yw:=ls E6 (aC fu (aC JX (aC oZ (aC Ga (aC LS (aC C4 aN))))))
def nW:T1U->Option (T1U⊕(Int×Int×Bool×T1w)):=λ(v0,v1,v2,v3,v4,v5,v6,v7,v8,v9,_)=>
bif(decide (v1<v0))then((eE v1).bind λx0=>
(dN v8 x0).bind λx1=>
(dN v8 x0).bind λx2=>
(fU x2 v2 v3).bind λ(x3,x4,x5,_)=>
bif(dX 24 v9.length (List.length [x3]))then let x6:List LI:=(List.append v9 [x3]);
let x7:=w64 (v1+1);
some (.inl (v0,x7,x4,x5,v4,v5,v6,v7,v8,x6,()))else none)else
some (.inr (v0,v1,false,v2,v3,v4,v5,v6,v7,v8,v9,()))
def nV:T1F->Option (T1F⊕T1Q):=λ(v0,v1,v2,v3,v4,v5,v6,v7,v8,_)=>
bif(decide (v0>0))then((let x0:Int:=(dR v6.length);
let x1:=w64 (x0+1);
let x2:=dR v6.length;
(oM v7 x1 x2 v1 v2).bind λ(x3,x4,x5,_)=>
let x6:=dR v6.length;
let x7:=dR x3.length;
let x8:=w64 (x6+x7);
bif(decide (x8<=62))then(bif(dX 40 v6.length x3.length)then let x9:LDIn:=(List.append v6 x3);
some (v0,x4,x5,v3,v4,v5,x9,v7,v8,())else none)else
some (v0,x4,x5,v3,v4,v5,v6,v7,v8,()):Option (T1F)).bind λ(x0,x1,x2,x3,x4,x5,x6,x7,x8,_)=>
let x9:=w64 (x0-1);
some (.inl (x9,x1,x2,x3,x4,x5,x6,x7,x8,())))else
some (.inr (v0,false,v1,v2,v3,v4,v5,v6,v7,v8,()))
def gy:T1T->Option (T1T⊕(Int×T1Q)):=λ(v0,v1,v2,v3,v4,v5,v6,v7,v8)=>
bif(decide (v1<v0))then(((eE v1).bind λx0=>
(dN v7 x0).bind λx1=>
(gK x1.1).bind λ(x2,_)=>
bif x2 then((eE v1).bind λx3=>
(dN v7 x3).bind λx4=>
let x5:=dR v7.length;
bif(decide (x4.2.2.2.2>=x5))then((eE v1).bind λx6=>
(dN v7 x6).bind λx7=>
none)else
some (v0,v1,v2,v3,v4,v5,v6,v7,v8))else
some (v0,v1,v2,v3,v4,v5,v6,v7,v8):Option (T1T)).bind λ(x0,x1,x2,x3,x4,x5,x6,x7,x8)=>
let ac:=w64 (x1+1);
some (.inl (x0,ac,x2,x3,x4,x5,x6,x7,x8)))else
some (.inr (v0,v1,false,v2,v3,v4,v5,v6,v7,v8))
def kU(a0:List (Int))(a1:Int):Option (LDIn×LI×LLI×T07):=
(nw a0 a1).bind λ(x0,x1,x2,_)=>
let x3:=dR x0.length;
(ej nW NN (x3,0,x1,x2,(),(),(),(),x0,[],())).bind λ(x4,x5,x6,x7,x8,x9,ac,ae,af,ag)=>
(dK 12 x7 x8).bind λ(ai,aj,ak,_)=>
let am:=w64 (1+ai);
(ej nV NN (am,aj,ak,x9,ac,ae,[],ag)).bind λ(an,ap,aq,av,ax,ay,az,aA,aB)=>
((dK 4 aq av).bind λ(aE,aF,aG,_)=>
bif(aE==0)then(let aH:Int:=(dR aA.length);
let aI:=w64 (aH+1);
(dK aI aF aG).bind λ(aJ,aK,aL,_)=>
let aM:LDIn:=[(18,(0,(0,(0,aJ))))];
bif(dX 40 aA.length aM.length)then let aO:LDIn:=(List.append aA aM);
some (aK,aL,ax,ay,az,aO,aB)else none)else
bif(aE==1)then(let aH:LDIn:=[(24,(0,(0,(0,0))))];
bif(dX 40 aA.length aH.length)then let aI:LDIn:=(List.append aA aH);
some (aF,aG,ax,ay,az,aI,aB)else none)else
some (aF,aG,ax,ay,az,aA,aB):Option (T1v)).bind λ(aE,aF,aG,aH,aI,aJ,aK,aL,_)=>
(dK 9 aE aF).bind λ(aM,aO,aP,_)=>
(iB 0 aM).bind λ(aQ,aR,aS,aT,aU,_)=>
(gR 0).bind λ(aV,aW,aY,aZ,ba,_)=>
let bc:LDIn:=[(aQ,(aR,(aS,(aT,aU)))),(aV,(aW,(aY,(aZ,ba))))];
bif(dX 40 aJ.length bc.length)then let bd:LDIn:=(List.append aJ bc);
let bf:=dR bd.length;
bif(decide (bf>64))then(bif(ge 0 64 bd.length)then let bg:LDIn:=(mZ bd 0 (Nat.sub 64 0));
let bh:=dR bg.length;
(ej gy NN (bh,0,aO,aP,aG,aH,aI,bg,aK,aL,())).bind λ(bi,bj,bk,bl,bm,bn,bo,bp,bq,bv,bz,_)=>
some (bq,bv,bz,bl,bm,())else none)else
let bg:=dR bd.length;
(ej gy NN (bg,0,aO,aP,aG,aH,aI,bd,aK,aL,())).bind λ(bh,bi,bj,bk,bl,bm,bn,bo,bp,bq,bv,_)=>
some (bp,bq,bv,bk,bl,())else none
def zj:X.Cfg:=⟨E0,[vU,qU,fq,yw,Fu,B5,jG],[(24,(Ua CW)),(25,(Ua CW))],[(lx 4 0 [Uc 0,Uc 2,Uc 3,(13,.pk ⟨8,1,[]⟩ [0,0]),Ud 14,Ud 15] [(2,Ug),(6,yae),(8,uL [N1,(Ua I64),(Ua (Ua CW))])] 16),⟨14,1,qE,[(.normal,qS [Uc 0,Uc 2,Uc 3,Ud 6] [(2,Ug),(6,yae),(8,Zaf)])]⟩,⟨11,2,qS [Uc 0,Uc 2,Uc 3,Ud 6] [(2,Ug),(6,yae),(8,Zaf)],[(.exit 2,qS [Uc 0,Uc 2,Uc 3,Ud 6,Ue 32] [(2,Ug),(6,yae),(8,Zaf)])]⟩,⟨17,3,qE,[(.normal,qS [Uc 0,Uc 2,Uc 3] [(2,Ug),(6,yae),(8,Zaf)])]⟩,⟨29,4,qE,[(.normal,qS [Uc 0,Uc 2,Uc 3,Ud 101,Ud 102] [(2,Ug),(6,yae),(8,uag)])]⟩,⟨26,5,qS [Uc 0,Uc 2,Uc 3,Ud 101,Ud 102] [(2,Ug),(6,yae),(8,uag)],[(.exit 5,qS [Uc 0,Uc 2,Uc 3,Ud 101,Ud 102,Ue 103] [(2,Ug),(6,yae),(8,uag)])]⟩]⟩
def r6:Ctr:=⟨51,20,[.ptr ⟨2,0,[]⟩ [0]],[(2,Ug)],[⟨uag,[.agg 3],[(2,Ug)]⟩],ap2 kU⟩
theorem yS:Lk 7 r6:=ls zj (aC C3 (aC vq (aC fu (aC EQ (aC JX (aC Ga (aC lr aN)))))))
def lF:LI×T0j->Option ((LI×T0j)⊕((Bool×Unit)⊕(LI×LI×T0c))):=λ(v0,v1,v2,v3,_)=>
bif(decide (v3<v2))then((eE v3).bind λx0=>
(dN v1 x0).bind λx1=>
bif(decide (x1<1))then(some (.inr (.inl (false,()))))else
bif(decide (x1>32))then(some (.inr (.inl (false,()))))else
let x2:=w64 (v3+1);
some (.inl (v0,v1,v2,x2,())))else
some (.inr (.inr (v0,v1,v2,v3,false,())))
def gQ(a0:List (Int)):Option (Bool×Unit):=
let x0:=dR a0.length;
(match ej lF NN (a0,a0,x0,0,())with
|none=>none
|some (.inl (x1,_))=>
some (x1,())
|some (.inr (x1,_))=>
let x6:=dR x1.length;
bif(decide (x6>=1))then(let x7:Int:=(dR x1.length);
some ((decide (x7<=4)),()))else
some (false,()))
def BF:X.Cfg:=⟨E0,[],[],[⟨3,0,qS [sP 0 RI,sP 5 RI,Ud 6,Ud 7] [],[(.ret,qS [Ue 2] []),(.exit 0,qS [sP 0 RI,sP 5 RI,Ud 6,Ud 7,Ue 8] [])]⟩]⟩
def ml:Ctr:=⟨118,21,uL [RI],[],[⟨Uh,[.one],[]⟩],ap1 gQ⟩
theorem oY:Lk 1 ml:=ls BF aN
def p6:T1W->Option (T1W⊕(LI×Int×Int×Int×Int×Int×Bool×T0A)):=λ(v0,v1,v2,v3,v4,v5,v6,v7,v8,v9,_)=>
bif(decide (v5<v4))then(let x0:Int:=(w64 (v5+v1));
bif(v2 != 0)then let x1:Int:=(Int.tmod x0 v2);
(eE x1).bind λx2=>
(dN v8 x2).bind λx3=>
(dN v8 x2).bind λx4=>
let x5:=List.modify v8 x2 λe=>v3;
(eE x1).bind λx6=>
(dN v0 x6).bind λx7=>
let x8:=w64 (x7+1);
let x9:=w64 (50*v2);
bif(x9 != 0)then let ac:Int:=(w64 (Int.tdiv v1 x9));
let ae:=Int.tmod ac 40;
let af:=w64 (x8+ae);
let ag:=w64 (v3+af);
let ah:=w64 (v5+1);
some (.inl (v0,v1,v2,ag,v4,ah,v6,v7,x5,v9,()))else none else none)else
some (.inr (v0,v1,v2,v3,v4,v5,false,v6,v7,v8,v9,()))
def nq(a0:List (Int))(a1:Int):Option (T0j):=
((gQ a0).bind λ(x0,_)=>
bif(!x0)then(some (a0,a1,true,(),0,()))else
bif(decide (a1<0))then(some (a0,a1,true,(),0,()))else
some (a0,a1,(decide (a1>1073741824)),(),0,()):Option (LI×Int×Bool×Unit×Int×Unit)).bind λ(x0,x1,x2,x3,x4,_)=>
bif x2 then(some ([],0,1,()))else
let x5:=dR x0.length;
(eE x5).bind λx6=>
(eE x5).bind λx7=>
bif(pM x6 x7 1)then let x8:List (Int):=(List.replicate x6 0);
let x9:=w64 (40503*x1);
let ac:=wk .u16 x9;
bif(x5 != 0)then let ae:Int:=(w64 (Int.tdiv x1 x5));
let af:=Int.tmod ae 50;
let ag:=w64 (1+af);
(ej p6 NN (x0,x1,x5,ag,x5,0,x3,x4,x8,ac,())).bind λ(ah,ai,aj,ak,am,an,ap,aq,av,ax,ay,_)=>
some (ax,ay,0,())else none else none
def DD:X.Cfg:=⟨E0,[ml],[],[⟨2,0,qE,[(.normal,(qS [sP 0 RI,Ud 1,Uc 4,Ue 21] [(10,uL [N1,CW])]))]⟩,(lx 9 1 [sP 0 RI,Ud 1,Uc 4,Ud 6,Uc 7,Ud 8,Ud 36,Ud 37] [(10,uL [N1,CW]),(16,uL [(Ua I64),CW])] 38)]⟩
def vT:Ctr:=⟨90,22,Ug,[],[⟨uL [(Ua I64),CW,I64],[.agg 2,.one],[]⟩],ap2 nq⟩
theorem CZ:Lk 2 vT:=ls DD (aC oY aN)
def l9(a0:List (Int))(a1:List (Int))(a2:Int):Option (LI×T0f):=
(dK 1048576 a1 a2).bind λ(x0,x1)=>
(nq a0 x0).bind λ(x3,x4,x5,_)=>
some (x3,x4,x1)
def BL:X.Cfg:=⟨E0,[fq,vT],[],[]⟩
def ub:Ctr:=⟨53,23,[.ptr ⟨2,0,[]⟩ [0],shU RI],[(2,Ug)],[⟨uL [(Ua I64),CW],[.agg 2],[(2,Ug)]⟩],ap3 l9⟩
theorem A5:Lk 4 ub:=ls BL (aC fu (aC CZ aN))
def gJ(a0:Int)(a1:Int)(a2:Int)(a3:Int):Option (Bool×Unit):=
bif(a0==0)then(bif(a2==0)then(some ((a3==0),()))else
some (false,()))else
bif(a0==2)then(bif(a2==0)then(some ((a3==0),()))else
some (false,()))else
bif(a0==1)then(bif(a2==(-1))then(bif(a1==0)then(bif(decide (a3>=0))then(some ((decide (a3<=65535)),()))else
some (false,()))else
some (false,()))else
bif(a1==0)then(bif(decide (a2>=0))then(bif(decide (a2<4))then(bif(decide (a3>=0))then(some ((decide (a3<32)),()))else
some (false,()))else
some (false,()))else
some (false,()))else
some (false,()))else
some (false,())
def Ds:X.Cfg:=⟨E0,[],[],[]⟩
def qI:Ctr:=⟨70,24,[.agg Uad],[],[⟨Uh,[.one],[]⟩],ap4 gJ⟩
theorem vk:Lk 1 qI:=ls Ds aN
def f7:LDCn×Int×T0h->Option ((LDCn×Int×T0h)⊕((Bool×Unit)⊕(LDCn×Int×T0w))):=λ(v0,v1,v2,v3,v4,_)=>
bif(decide (v4<v3))then((eE v4).bind λx0=>
(dN v2 x0).bind λx1=>
(gJ x1.1 x1.2.1 x1.2.2.1 x1.2.2.2).bind λ(x2,_)=>
bif(!x2)then(some (.inr (.inl (false,()))))else
let x3:=w64 (v4+1);
some (.inl (v0,v1,v2,v3,x3,())))else
some (.inr (.inr (v0,v1,v2,v3,v4,false,())))
def fv(a0:LDCn)(a1:Int):Option (Bool×Unit):=
let x0:=dR a0.length;
(match ej f7 NN (a0,a1,a0,x0,0,())with
|none=>none
|some (.inl (x1,_))=>
some (x1,())
|some (.inr (x1,x2,_))=>
let x7:=dR x1.length;
some ((decide (x7<=x2)),()))
def Bp:X.Cfg:=⟨E0,[qI],[],[⟨3,0,qS [sP 0 eF,Ud 1,sP 7 eF,Ud 8,Ud 9] [],[(.ret,qS [Ue 4] []),(.exit 0,qS [sP 0 eF,Ud 1,sP 7 eF,Ud 8,Ud 9,Ue 10] [])]⟩]⟩
def iV:Ctr:=⟨69,25,uL [eF,I64],[],[⟨Uh,[.one],[]⟩],ap2 fv⟩
theorem kj:Lk 2 iV:=ls Bp (aC vk aN)
def jc:T0O->Option (T0O⊕((Bool×Unit)⊕(LLCn×T0I))):=λ(v0,v1,v2,v3)=>
bif(decide (v2<v1))then((eE v2).bind λx0=>
(dN v0 x0).bind λx1=>
(fv x1 64).bind λ(x2,_)=>
bif(!x2)then(some (.inr (.inl (false,()))))else
let x3:=w64 (v2+1);
some (.inl (v0,v1,x3,v3)))else
some (.inr (.inr (v0,v1,v2,false,v3)))
def lC:LDOp×T0u->Option ((LDOp×T0u)⊕((Bool×Unit)⊕(LDOp×T0I))):=λ(v0,v1,v2,v3,v4,_)=>
bif(decide (v2<v1))then((eE v2).bind λx0=>
(dN v0 x0).bind λx1=>
(bif(x1.1==(-1))then(bif(x1.2.1 != 0)then(some (v0,v1,v2,true,v3,v4,x1.1,x1.2.1,x1.2.2,()))else
bif x1.2.2 then(some (v0,v1,v2,true,v3,v4,x1.1,x1.2.1,x1.2.2,()))else
bif(decide (x1.1<(-1)))then(some (v0,v1,v2,true,v3,v4,x1.1,x1.2.1,x1.2.2,()))else
let x2:=dR v3.length;
bif(decide (x1.1>=x2))then(some (v0,v1,v2,true,v3,v4,x1.1,x1.2.1,x1.2.2,()))else
bif(decide (x1.1>=0))then(bif(decide (x1.2.1<0))then(some (v0,v1,v2,true,v3,v4,x1.1,x1.2.1,x1.2.2,()))else
(eE x1.1).bind λx3=>
(dN v3 x3).bind λx4=>
let x5:=dR x4.length;
some (v0,v1,v2,(decide (x1.2.1>x5)),v3,v4,x1.1,x1.2.1,x1.2.2,()))else
some (v0,v1,v2,false,v3,v4,x1.1,x1.2.1,x1.2.2,()))else
bif(decide (x1.1<(-1)))then(some (v0,v1,v2,true,v3,v4,x1.1,x1.2.1,x1.2.2,()))else
let x2:=dR v3.length;
bif(decide (x1.1>=x2))then(some (v0,v1,v2,true,v3,v4,x1.1,x1.2.1,x1.2.2,()))else
bif(decide (x1.1>=0))then(bif(decide (x1.2.1<0))then(some (v0,v1,v2,true,v3,v4,x1.1,x1.2.1,x1.2.2,()))else
(eE x1.1).bind λx3=>
(dN v3 x3).bind λx4=>
let x5:=dR x4.length;
some (v0,v1,v2,(decide (x1.2.1>x5)),v3,v4,x1.1,x1.2.1,x1.2.2,()))else
some (v0,v1,v2,false,v3,v4,x1.1,x1.2.1,x1.2.2,()):Option (LDOp×Int×Int×Bool×LLCn×LDOp×T0c)).bind λ(x2,x3,x4,x5,x6,x7,_)=>
bif x5 then(some (.inr (.inl (false,()))))else
let ae:=w64 (x4+1);
some (.inl (x2,x3,ae,x6,x7,())))else
some (.inr (.inr (v0,v1,v2,false,v3,v4,())))
def jQ(a0:List LDCn)(a1:LDOp):Option (Bool×Unit):=
let x0:=dR a0.length;
bif(decide (x0>4))then(some (false,()))else
let x1:=dR a1.length;
bif(x1 != 8)then(some (false,()))else
let x2:=dR a0.length;
(match ej jc NN (a0,x2,0,a0,a1,())with
|none=>none
|some (.inl (x3,_))=>
some (x3,())
|some (.inr (x3,x4,x5,x6,x7,x8,_))=>
let x9:=dR x8.length;
(match ej lC NN (x8,x9,0,x7,x8,())with
|none=>none
|some (.inl (ac,_))=>
some (ac,())
|some (.inr (ac,_))=>
some (true,())))
def Bi:X.Cfg:=⟨E0,[iV],[],[⟨6,0,qS [Uc 1,sP 18 (Ub eF),Ud 19,Ud 20] [(4,zab)],[(.ret,qS [Ue 2] []),(.exit 0,qS [Uc 1,sP 18 (Ub eF),Ud 19,Ud 20,Ue 21] [(4,zab)])]⟩,⟨20,1,qE,[(.normal,qS [Uc 1,sP 29 ii,Ud 30,Ud 31,Ue 81] [(4,zab),(14,yag)])]⟩,⟨15,2,qS [Uc 1,sP 29 ii,Ud 30,Ud 31] [(4,zab)],[(.ret,qS [Ue 2] []),(.exit 2,qS [Uc 1,sP 29 ii,Ud 30,Ud 31,Ue 32] [(4,zab)])]⟩]⟩
def o8:Ctr:=⟨112,26,[.agg zab],[],[⟨Uh,[.one],[]⟩],ap2 jQ⟩
theorem s7:Lk 3 o8:=ls Bi (aC kj aN)
def rG:T1j->Option (T1j⊕(LLI×Int×Int×Bool×T0E)):=λ(v0,v1,v2,v3,v4,v5,v6,_)=>
bif(decide (v2<v1))then((eE v2).bind λx0=>
(dN v6 x0).bind λx1=>
(dN v6 x0).bind λx2=>
let x3:=(List.modify v6 x0 λe=>((-1),e.2));
let x4:=w64 (v2+1);
some (.inl (v0,v1,x4,v3,v4,v5,x3,())))else
some (.inr (v0,v1,v2,false,v3,v4,v5,v6,()))
def rF:T26->Option (T26⊕(LLI×Int×Int×LI×Int×Int×Bool×T0R)):=λ(v0,v1,v2,v3,v4,v5,v6,v7,v8,v9,v10,_)=>
bif(decide (v5<v4))then((eE v5).bind λx0=>
(dN v3 x0).bind λx1=>
let x2:LDCn:=[(0,(x1,(0,0)))];
bif(dX 24 v10.length x2.length)then let x3:LDCn:=(List.append v10 x2);
let x4:=w64 (v5+1);
some (.inl (v0,v1,v2,v3,v4,x4,v6,v7,v8,v9,x3,()))else none)else
some (.inr (v0,v1,v2,v3,v4,v5,false,v6,v7,v8,v9,v10,()))
def rE:T1i->Option (T1i⊕(LLI×T18)):=λ(v0,v1,v2,v3,v4,v5,v6,_)=>
bif(decide (v2<v1))then((eE v2).bind λx0=>
(dN v0 x0).bind λx1=>
let x2:=dR x1.length;
(ej rF NN (v0,v1,v2,x1,x2,0,v3,v4,v5,v6,[],())).bind λ(x3,x4,x5,x6,x7,x8,x9,ac,ae,af,ag,ah,_)=>
bif(dX 24 af.length (List.length [ah]))then let ai:List LDCn:=(List.append af [ah]);
let aj:=w64 (x5+1);
some (.inl (x3,x4,aj,ac,ae,ai,ag,()))else none)else
some (.inr (v0,v1,v2,false,v3,v4,v5,v6,()))
def oF(a0:List LI):Option (LLCn×LDOp×Int×Unit):=
bif(pM 8 8 3)then let x0:LDOp:=(List.replicate 8 (0,(0,false)));
let x1:=dR x0.length;
(ej rG NN (a0,x1,0,(),(),(),x0,())).bind λ(x2,x3,x4,x5,x6,x7,x8,x9,_)=>
let ac:=dR x2.length;
(ej rE NN (x2,ac,0,x6,x7,[],x9,())).bind λ(ae,af,ag,ah,ai,aj,ak,am,_)=>
(jQ ak am).bind λ(an,_)=>
bif(!an)then(some ([],[],3,()))else
some (ak,am,0,())else none
def ET:X.Cfg:=⟨E0,[o8],[(46,(Ua KCn)),(47,(Ua KCn))],[(lx 4 0 [sP 0 (Ub RW),Uc 2,Uc 4,Ud 15,Ud 16] [(6,uaa),(10,uL [N1,(Ua KOp)])] 17),⟨19,1,qS [Uc 2,Uc 4,Uf 8 19,sP 25 (Ub RW),Ud 26,Ud 27,sP 31 RW,Ud 32,Ud 33] [(6,uaa),(10,zac),(19,Zad)],[(.exit 4,qS [Uc 2,Uc 4,Uf 8 19,sP 25 (Ub RW),Ud 26,Ud 27,sP 31 RW,Ud 32,Ud 33,Ue 34] [(6,uaa),(10,zac),(19,Zad)])]⟩,⟨11,2,qS [Uc 2,Uc 4,sP 25 (Ub RW),Ud 26,Ud 27] [(6,uaa),(10,zac)],[(.exit 2,qS [Uc 2,Uc 4,sP 25 (Ub RW),Ud 26,Ud 27,Ue 28] [(6,uaa),(10,zac)])]⟩]⟩
def yn:Ctr:=⟨119,27,uL [(Ub RW)],[],[⟨Uah,[.agg 2,.one],[]⟩],ap1 oF⟩
theorem EJ:Lk 4 yn:=ls ET (aC s7 aN)
def fD:LLI×Int×Int×LLI×Unit->Option ((LLI×Int×Int×LLI×Unit)⊕(LLI×Int×Int×Bool×LLI×Unit)):=λ(v0,v1,v2,v3,_)=>
bif(decide (v2<v1))then((eE v2).bind λx0=>
(dN v0 x0).bind λx1=>
bif(dX 2 0 x1.length)then let x2:List (Int):=(List.append [] x1);
bif(dX 24 v3.length (List.length [x2]))then let x3:List LI:=(List.append v3 [x2]);
let x4:=w64 (v2+1);
some (.inl (v0,v1,x4,x3,()))else none else none)else
some (.inr (v0,v1,v2,false,v3,()))
def fK(a0:List LI):Option (LLI×Unit):=
let x0:=dR a0.length;
(ej fD NN (a0,x0,0,[],())).bind λ(x1,x2,x3,x4,x5,_)=>
some (x5,())
def tA:X.Cfg:=⟨E0,[],[(15,(Ua CW)),(16,(Ua CW))],[(lx 4 0 [Uf 3 9,sP 6 (Ub RW),Ud 7,Ud 8] [(9,zag)] 9)]⟩
def ic:Ctr:=⟨115,28,uL [(Ub RW)],[],[⟨zag,[.one],[]⟩],ap1 fK⟩
theorem ki:Lk 1 ic:=ls tA aN
def hY:LDOu×T02->Option ((LDOu×T02)⊕((Bool×Unit)⊕(LDOu×T0c))):=λ(v0,v1,v2,_)=>
bif(decide (v2<v1))then((eE v2).bind λx0=>
(dN v0 x0).bind λx1=>
(bif(x1.1 != v2)then(some (v0,v1,v2,true,()))else
bif(decide (x1.2.1<0))then(some (v0,v1,v2,true,()))else
bif(decide (x1.2.1>=2))then(some (v0,v1,v2,true,()))else
let x2:=dR x1.2.2.length;
some (v0,v1,v2,(decide (x2>16)),()):Option (LDOu×T0c)).bind λ(x2,x3,x4,x5,_)=>
bif x5 then(some (.inr (.inl (false,()))))else
let x6:=w64 (x4+1);
some (.inl (x2,x3,x6,())))else
some (.inr (.inr (v0,v1,v2,false,())))
def jP(a0:LDOu):Option (Bool×Unit):=
let x0:=dR a0.length;
(match ej hY NN (a0,x0,0,())with
|none=>none
|some (.inl (x1,_))=>
some (x1,())
|some (.inr (x1,_))=>
some (true,()))
def xL:X.Cfg:=⟨E0,[],[],[⟨8,0,qE,[(.normal,qS [sP 5 kE,Ud 6,Ud 7,Ue 31] [])]⟩,⟨3,1,qS [sP 5 kE,Ud 6,Ud 7] [],[(.ret,qS [Ue 2] []),(.exit 0,qS [sP 5 kE,Ud 6,Ud 7,Ue 8] [])]⟩]⟩
def qC:Ctr:=⟨113,29,uL [kE],[],[⟨Uh,[.one],[]⟩],ap1 jP⟩
theorem xu:Lk 1 qC:=ls xL aN
def jb:T1N->Option (T1N⊕((Bool×Unit)⊕(LLI×T1x))):=λ(v0,v1,v2,v3)=>
bif(decide (v2<v1))then((eE v2).bind λx0=>
(dN v0 x0).bind λx1=>
let x2:=dR x1.length;
bif(decide (x2>64))then(some (.inr (.inl (false,()))))else
let x3:=w64 (v2+1);
some (.inl (v0,v1,x3,v3)))else
some (.inr (.inr (v0,v1,v2,false,v3)))
def ja:T1I->Option (T1I⊕((Bool×Unit)⊕(LDOu×T1x))):=λ(v0,v1,v2,v3)=>
bif(decide (v2<v1))then((eE v2).bind λx0=>
(dN v0 x0).bind λx1=>
(fv x1.2.2 16).bind λ(x2,_)=>
bif(!x2)then(some (.inr (.inl (false,()))))else
let x3:=w64 (v2+1);
some (.inl (v0,v1,x3,v3)))else
some (.inr (.inr (v0,v1,v2,false,v3)))
def iM(a0:List (Int))(a1:List (Int))(a2:List LI)(a3:List LDCn)(a4:LDOp)(a5:LDOu):Option (Bool×Unit):=
let x0:=dR a2.length;
(match ej jb NN (a2,x0,0,a0,a1,a2,a3,a4,a5,())with
|none=>none
|some (.inl (x1,_))=>
some (x1,())
|some (.inr (x1,x2,x3,x4,x5,x6,x7,x8,x9,ac,_))=>
let ae:=dR ac.length;
(match ej ja NN (ac,ae,0,x5,x6,x7,x8,x9,ac,())with
|none=>none
|some (.inl (af,_))=>
some (af,())
|some (.inr (af,ag,ah,ai,aj,ak,am,an,ap,aq,_))=>
let av:=dR aj.length;
bif(decide (av<=64))then(let ax:Int:=(dR ak.length);
bif(decide (ax<=64))then(let ay:Int:=(dR am.length);
bif(decide (ay<=2))then((jQ an ap).bind λ(az,_)=>
bif az then(let aA:Int:=(dR aq.length);
bif(decide (aA<=200))then((jP aq).bind λ(aB,_)=>
some (aB,()))else
some (false,()))else
some (false,()))else
some (false,()))else
some (false,()))else
some (false,())))
def Bf:X.Cfg:=⟨E0,[iV,o8,qC],[],[⟨3,0,qS [Uc 1,sP 8 (Ub RW),Ud 9,Ud 10] [(4,Xad)],[(.ret,qS [Ue 2] []),(.exit 0,qS [Uc 1,sP 8 (Ub RW),Ud 9,Ud 10,Ue 11] [(4,Xad)])]⟩,⟨12,1,qS [Uc 1,sP 19 kE,Ud 20,Ud 21] [(4,Xad)],[(.ret,qS [Ue 2] []),(.exit 2,qS [Uc 1,sP 19 kE,Ud 20,Ud 21,Ue 22] [(4,Xad)])]⟩]⟩
def mg:Ctr:=⟨86,30,[.agg Xad],[],[⟨Uh,[.one],[]⟩],ap6 iM⟩
theorem oT:Lk 4 mg:=ls Bf (aC kj (aC s7 (aC xu aN)))
def oE(a0:List LI)(a1:List LI)(a2:List (Int))(a3:List (Int)):Option (LI×LI×LLI×LLCn×LDOp×Unit×Int×Unit):=
(oF a0).bind λ(x0,x1,x2,_)=>
bif(x2 != 0)then(some ([],[],[],[],[],(),x2,()))else
bif(dX 2 0 a2.length)then let x3:List (Int):=(List.append [] a2);
bif(dX 2 0 a3.length)then let x4:List (Int):=(List.append [] a3);
(fK a1).bind λ(x5,_)=>
(iM x3 x4 x5 x0 x1 []).bind λ(x6,_)=>
bif(!x6)then(some ([],[],[],[],[],(),3,()))else
some (x3,x4,x5,x0,x1,(),0,())else none else none
def Bg:X.Cfg:=⟨E0,[yn,ic,mg],[],[]⟩
def tJ:Ctr:=⟨91,31,uL [(Ub RW),(Ub RW),RW,RW],[],[⟨uL [RW,RW,(Ub RW),(Ub eF),ii,N1,I64],[.agg 6,.one],[]⟩],ap4 oE⟩
theorem AK:Lk 5 tJ:=ls Bg (aC EJ (aC ki (aC oT aN)))
def kV(a0:List (Int))(a1:Int):Option (LI×LI×LLI×LLCn×LDOp×Unit×T07):=
(fU 5 a0 a1).bind λ(x0,x1,x2,_)=>
(fU 3 x1 x2).bind λ(x3,x4,x5,_)=>
let x6:List LI:=[x0,x3];
(fU 8 x4 x5).bind λ(x7,x8,x9,_)=>
(fU 4 x8 x9).bind λ(ac,ae,af,_)=>
let ag:List LI:=[x7,ac];
(fU 5 ae af).bind λ(ah,ai,aj,_)=>
(fU 5 ai aj).bind λ(ak,am)=>
(oE x6 ag ah ak).bind λ(ap,aq,av,ax,ay,az,aA,_)=>
some (ap,aq,av,ax,ay,az,am)
def zk:X.Cfg:=⟨E0,[qU,tJ],[(10,(Ua CW)),(15,(Ua CW))],[]⟩
def r7:Ctr:=⟨54,32,[.ptr ⟨2,0,[]⟩ [0]],[(2,Ug)],[⟨uL [RW,RW,(Ub RW),(Ub eF),ii,N1],[.agg 6],[(2,Ug)]⟩],ap2 kV⟩
theorem yT:Lk 6 r7:=ls zk (aC vq (aC AK aN))
def jh:T29->Option (T29⊕((Bool×Unit)⊕T2f)):=λ(v0,v1,v2,v3,v4,v5,v6,v7,v8,v9,v10,v11,_)=>
bif(decide (v1<v0))then((eE v1).bind λx0=>
(dN v11 x0).bind λx1=>
(dN v11 x0).bind λx2=>
(bif(decide (x2<0))then(some (v0,v1,true,v2,v3,v4,v5,v6,v7,v8,v9,v10,v11,()))else
bif(decide (x2>=8))then(some (v0,v1,true,v2,v3,v4,v5,v6,v7,v8,v9,v10,v11,()))else
(eE v1).bind λx3=>
bif(Nat.beq x3 0)then(bif(!v7)then(some (v0,v1,(x2 != 0),v2,v3,v4,v5,v6,v7,v8,v9,v10,v11,()))else
some (v0,v1,false,v2,v3,v4,v5,v6,v7,v8,v9,v10,v11,()))else
bif(Nat.beq x3 1)then(bif(!v8)then(some (v0,v1,(x2 != 0),v2,v3,v4,v5,v6,v7,v8,v9,v10,v11,()))else
some (v0,v1,false,v2,v3,v4,v5,v6,v7,v8,v9,v10,v11,()))else
bif(Nat.beq x3 2)then(bif(!v9)then(some (v0,v1,(x2 != 0),v2,v3,v4,v5,v6,v7,v8,v9,v10,v11,()))else
some (v0,v1,false,v2,v3,v4,v5,v6,v7,v8,v9,v10,v11,()))else
bif(Nat.beq x3 3)then bif(!v10)then(some (v0,v1,(x2 != 0),v2,v3,v4,v5,v6,v7,v8,v9,v10,v11,()))else
some (v0,v1,false,v2,v3,v4,v5,v6,v7,v8,v9,v10,v11,())else none:Option (T2f)).bind λ(x3,x4,x5,x6)=>
bif x5 then(some (.inr (.inl (false,()))))else
let aj:=w64 (x4+1);
some (.inl (x3,aj,x6)))else
some (.inr (.inr (v0,v1,false,v2,v3,v4,v5,v6,v7,v8,v9,v10,v11,())))
def lX(a0:Int)(a1:Int)(a2:Int)(a3:Int)(a4:Int):Option (Bool×Unit):=
bif(decide (a0<0))then(some (false,()))else
bif(decide (a0>24))then(some (false,()))else
(jy a0).bind λ(x0,x1,x2,x3,_)=>
let x4:List (Int):=[a1,a2,a3];
let x5:=dR x4.length;
(match ej jh NN (x5,0,a0,a1,a2,a3,a4,x0,x1,x2,x3,x4,())with
|none=>none
|some (.inl (x6,_))=>
some (x6,())
|some (.inr (x6,x7,x8,x9,ac,ae,af,ag,ah,ai,aj,ak,am,_))=>
(bif(decide (ag<0))then(some (true,x9,ac,ae,af,ag,()))else
bif(decide (ag>65535))then(some (true,x9,ac,ae,af,ag,()))else
bif(!ak)then(some ((ag != 0),x9,ac,ae,af,ag,()))else
some (false,x9,ac,ae,af,ag,()):Option (Bool×T0J)).bind λ(an,ap,aq,av,ax,ay,_)=>
bif an then(some (false,()))else
(gK ap).bind λ(az,_)=>
bif az then(some ((decide (ay<64)),()))else
bif(ap==15)then(some ((decide (ay<4)),()))else
bif(ap==23)then(some ((decide (ay<=15)),()))else
some (true,()))
def By:X.Cfg:=⟨E0,[qM,jG],[],[⟨12,0,qE,[(.normal,qS [Uc 1,Uc 3,Uf 23 49,Ud 24,Ud 25,Ue 45] [(4,Uab),(8,uae),(49,zaa)])]⟩,⟨7,1,qS [Uc 1,Uc 3,Uf 23 49,Ud 24,Ud 25] [(4,Uab),(8,uae),(49,zaa)],[(.ret,qS [Ue 2] []),(.exit 0,qS [Uc 1,Uc 3,Uf 23 49,Ud 24,Ud 25,Ue 26] [(4,Uab),(8,uae),(49,zaa)])]⟩,⟨15,2,qE,[(.normal,qS [Uc 1,Ue 64] [(4,Uab)])]⟩]⟩
def tU:Ctr:=⟨135,33,[.agg Uab],[],[⟨Uh,[.one],[]⟩],ap5 lX⟩
theorem AV:Lk 2 tU:=ls By (aC vn (aC lr aN))
def jg:LLI×T0K->Option ((LLI×T0K)⊕((Int×Unit)⊕(LLI×T0U))):=λ(v0,v1,v2,v3,v4,v5,_)=>
bif(decide (v2<v1))then((eE v2).bind λx0=>
(dN v0 x0).bind λx1=>
let x2:=dR x1.length;
(eE v2).bind λx3=>
(dN v4 x3).bind λx4=>
bif(decide (x2>x4))then(some (.inr (.inl (1,()))))else
let x5:=w64 (v2+1);
some (.inl (v0,v1,x5,v3,v4,v5,())))else
some (.inr (.inr (v0,v1,v2,false,v3,v4,v5,())))
def jf:T10->Option (T10⊕((Int×Unit)⊕T1h)):=λ(v0,v1,v2,v3)=>
bif(decide (v2<v1))then((eE v2).bind λx0=>
(dN v0 x0).bind λx1=>
(lX x1.1 x1.2.1 x1.2.2.1 x1.2.2.2.1 x1.2.2.2.2).bind λ(x2,_)=>
bif(!x2)then(some (.inr (.inl (5,()))))else
let x3:=w64 (v2+1);
some (.inl (v0,v1,x3,v3)))else
some (.inr (.inr (v0,v1,v2,false,v3)))
def je:T10->Option (T10⊕((Int×Unit)⊕T1h)):=λ(v0,v1,v2,v3,v4,v5,_)=>
bif(decide (v2<v1))then((eE v2).bind λx0=>
(dN v0 x0).bind λx1=>
((gK x1.1).bind λ(x2,_)=>
bif x2 then(let x3:Int:=(dR v3.length);
bif(decide (x1.2.2.2.2>=x3))then(some (v0,v1,v2,true,v3,v4,v5,()))else
bif(x1.1==15)then(let x4:Int:=(dR v4.length);
some (v0,v1,v2,(decide (x1.2.2.2.2>=x4)),v3,v4,v5,()))else
some (v0,v1,v2,false,v3,v4,v5,()))else
bif(x1.1==15)then(let x3:Int:=(dR v4.length);
some (v0,v1,v2,(decide (x1.2.2.2.2>=x3)),v3,v4,v5,()))else
some (v0,v1,v2,false,v3,v4,v5,()):Option (T1h)).bind λ(x2,x3,x4,x5,x6)=>
bif x5 then(some (.inr (.inl (6,()))))else
let x9:=w64 (x4+1);
some (.inl (x2,x3,x9,x6)))else
some (.inr (.inr (v0,v1,v2,false,v3,v4,v5,())))
def jX(a0:LDIn)(a1:List (Int))(a2:List LI):Option (Int×Unit):=
(gQ a1).bind λ(x0,_)=>
bif(!x0)then(some (1,()))else
let x1:=dR a2.length;
let x2:=dR a1.length;
bif(x1 != x2)then(some (1,()))else
let x3:=dR a2.length;
(match ej jg NN (a2,x3,0,a0,a1,a2,())with
|none=>none
|some (.inl (x4,_))=>
some (x4,())
|some (.inr (x4,x5,x6,x7,x8,x9))=>
let ae:=dR x8.length;
bif(decide (ae<1))then(some (3,()))else
let af:=dR x8.length;
bif(decide (af>64))then(some (3,()))else
let ag:=dR x8.length;
(match ej jf NN (x8,ag,0,x8,x9)with
|none=>none
|some (.inl (ah,_))=>
some (ah,())
|some (.inr (ah,ai,aj,ak,am,an))=>
let aq:=dR am.length;
(match ej je NN (am,aq,0,am,an)with
|none=>none
|some (.inl (av,_))=>
some (av,())
|some (.inr (av,_))=>
some (0,()))))
def Bx:X.Cfg:=⟨E0,[ml,tU,jG],[],[⟨6,0,qS [Uc 1,sP 23 (Ub RW),Ud 24,Ud 25] [(4,Ui)],[(.ret,qS [Ud 2] []),(.exit 0,qS [Uc 1,sP 23 (Ub RW),Ud 24,Ud 25,Ue 26] [(4,Ui)])]⟩,⟨18,1,qS [Uc 1,sP 50 gk,Ud 51,Ud 52] [(4,Ui)],[(.ret,qS [Ud 2] []),(.exit 2,qS [Uc 1,sP 50 gk,Ud 51,Ud 52,Ue 53] [(4,Ui)])]⟩,⟨32,2,qE,[(.normal,qS [Uc 1,sP 61 gk,Ud 62,Ud 63,Ue 90] [(4,Ui)])]⟩,⟨27,3,qS [Uc 1,sP 61 gk,Ud 62,Ud 63] [(4,Ui)],[(.ret,qS [Ud 2] []),(.exit 4,qS [Uc 1,sP 61 gk,Ud 62,Ud 63,Ue 64] [(4,Ui)])]⟩]⟩
def pb:Ctr:=⟨109,34,[.agg Ui],[],[⟨yab,[.one],[]⟩],ap3 jX⟩
theorem td:Lk 3 pb:=ls Bx (aC oY (aC AV (aC lr aN)))
def jk:T25->Option (T25⊕((Bool×Unit)⊕T2d)):=λ(v0,v1,v2,v3,v4,v5,v6,v7,v8,v9)=>
bif(decide (v8<v7))then((match((eE v8).bind λx0=>
(dN v6 x0).bind λx1=>
(eE v1).bind λx2=>
(dN v0 x2).bind λx3=>
let x4:=w64 (v2+x3);
bif(decide (x4>=x1))then((eE v8).bind λx5=>
(dN v0 x5).bind λx6=>
let x7:=w64 (x1+x6);
bif(decide (x7>=v2))then(some (.inl (false,())))else
some (.inr (v0,v1,v2,v3,v4,v5,v6,v7,v8,false,v9)))else
some (.inr (v0,v1,v2,v3,v4,v5,v6,v7,v8,false,v9)):Option ((Bool×Unit)⊕T2d))with
|none=>none
|some (.inl (x0,_))=>
some (.inr (.inl (x0,())))
|some (.inr (x0,x1,x2,x3,x4,x5,x6,x7,x8,x9,ac))=>
let af:=w64 (x8+1);
some (.inl (x0,x1,x2,x3,x4,x5,x6,x7,af,ac))))else
some (.inr (.inr (v0,v1,v2,v3,v4,v5,v6,v7,v8,false,v9)))
def jj:LI×T0M->Option ((LI×T0M)⊕((Bool×Unit)⊕(LI×T11))):=λ(v0,v1,v2,v3,v4,v5,_)=>
bif(decide (v3<v2))then((eE v3).bind λx0=>
(dN v1 x0).bind λx1=>
bif(decide (x1<0))then(some (.inr (.inl (false,()))))else
(eE v3).bind λx2=>
(dN v0 x2).bind λx3=>
let x4:=w64 (512-x3);
bif(decide (x1>x4))then(some (.inr (.inl (false,()))))else
(eE v3).bind λx5=>
bif(ge 0 x5 v4.length)then let x6:List (Int):=(mZ v4 0 (Nat.sub x5 0));
let x7:=dR x6.length;
(match ej jk NN (v0,v3,x1,v1,v2,v3,x6,x7,0,v4,v5,())with
|none=>none
|some (.inl (x8,_))=>
some (.inr (.inl (x8,())))
|some (.inr (x8,x9,ac,ae,af,ag,ah,ai,aj,ak,am))=>
let ap:=w64 (ag+1);
some (.inl (x8,ae,af,ap,am)))else none)else
some (.inr (.inr (v0,v1,v2,v3,false,v4,v5,())))
def iO(a0:List (Int))(a1:Int)(a2:List (Int)):Option (Bool×Unit):=
(gQ a2).bind λ(x0,_)=>
bif(!x0)then(some (false,()))else
let x1:=dR a0.length;
let x2:=dR a2.length;
bif(x1 != x2)then(some (false,()))else
let x3:=dR a0.length;
(match ej jj NN (a2,a0,x3,0,a0,a1,())with
|none=>none
|some (.inl (x4,_))=>
some (x4,())
|some (.inr (x4,_))=>
some (true,()))
def BD:X.Cfg:=⟨E0,[ml],[],[⟨18,0,qE,[(.ret,qS [Ue 4] []),(.normal,qS [sP 1 RI,Uc 2,Ud 5,Ud 6,sP 21 RI,Ud 22,Ud 23,sP 42 RI,Ud 43,Ud 44,Ue 66] [(6,yaa)])]⟩,⟨15,1,qS [sP 1 RI,Uc 2,Ud 5,Ud 6,sP 21 RI,Ud 22,Ud 23,sP 42 RI,Ud 43,Ud 44] [(6,yaa)],[(.ret,qS [Ue 4] []),(.exit 2,qS [sP 1 RI,Uc 2,Ud 5,Ud 6,sP 21 RI,Ud 22,Ud 23,sP 42 RI,Ud 43,Ud 44,Ue 45] [(6,yaa)])]⟩,⟨6,2,qS [sP 1 RI,Uc 2,sP 21 RI,Ud 22,Ud 23] [(6,yaa)],[(.ret,qS [Ue 4] []),(.exit 0,qS [sP 1 RI,Uc 2,sP 21 RI,Ud 22,Ud 23,Ue 24] [(6,yaa)])]⟩]⟩
def mj:Ctr:=⟨110,35,[.agg yaa,shU RI],[],[⟨Uh,[.one],[]⟩],ap3 iO⟩
theorem oW:Lk 2 mj:=ls BD (aC oY aN)
def we:Int×Int×LDLn×Unit->Option ((Int×Int×LDLn×Unit)⊕(Int×Int×Bool×LDLn×Unit)):=λ(v0,v1,v2,_)=>
bif(decide (v1<v0))then((eE v1).bind λx0=>
(dN v2 x0).bind λx1=>
(dN v2 x0).bind λx2=>
let x3:=(List.modify v2 x0 λe=>((-1),e.2));
let x4:=w64 (v1+1);
some (.inl (v0,x4,x3,())))else
some (.inr (v0,v1,false,v2,()))
def oK:Option (LDLn×Unit):=
bif(pM 4 4 3)then let x0:LDLn:=(List.replicate 4 (0,(false,[])));
let x1:=dR x0.length;
(ej we NN (x1,0,x0,())).bind λ(x2,x3,x4,x5,_)=>
some (x5,())else none
def BC:X.Cfg:=⟨E0,[],[(3,PS)],[(lx 4 0 [Uf 1 5,Ud 5,Ud 6] [(5,uL [lO])] 7)]⟩
def tW:Ctr:=⟨136,36,[],[],[⟨uL [lO],[.one],[]⟩],λh=>oK⟩
theorem AX:Lk 1 tW:=ls BC aN
def p5:T2k->Option (T2k⊕(Int×LLI×Int×Int×LI×T28)):=λ(v0,v1,v2,v3,v4,v5,v6,v7,v8,v9,v10,v11,v12,v13,v14,v15,_)=>
bif(decide (v6<v5))then((eE v6).bind λx0=>
(dN v4 x0).bind λx1=>
(eE v0).bind λx2=>
(dN v10 x2).bind λx3=>
let x4:=w64 (x3+v6);
(eE x4).bind λx5=>
(dN v14 x5).bind λx6=>
(dN v14 x5).bind λx7=>
let x8:=List.modify v14 x5 λe=>(e.1,x1);
let x9:=w64 (v6+1);
some (.inl (v0,v1,v2,v3,v4,v5,x9,v7,v8,v9,v10,v11,v12,v13,x8,v15,())))else
some (.inr (v0,v1,v2,v3,v4,v5,v6,false,v7,v8,v9,v10,v11,v12,v13,v14,v15,()))
def mF:T2e->Option (T2e⊕(T0g⊕(LLI×T28))):=λ(v0,v1,v2,v3,v4,v5)=>
bif(decide (v2<v1))then((eE v2).bind λx0=>
(dN v0 x0).bind λx1=>
let x2:=dR x1.length;
(eE v2).bind λx3=>
(dN v4 x3).bind λx4=>
bif(decide (x2>x4))then(some (.inr (.inl (1,(),(),()))))else
let x5:=dR x1.length;
(ej p5 NN (v2,v0,v1,v2,x1,x5,0,v3,v4,v5)).bind λ(x6,x7,x8,x9,ac,ae,af,ag,ah)=>
let ax:=w64 (x9+1);
some (.inl (x7,x8,ax,ah)))else
some (.inr (.inr (v0,v1,v2,false,v3,v4,v5)))
def nj(a0:LDIn)(a1:List (Int))(a2:List LI)(a3:List (Int))(a4:Int):Option (LDCe×LDLn×Int×Unit):=
(iO a3 a4 a1).bind λ(x0,_)=>
bif(!x0)then(some ([],[],1,()))else
let x1:=dR a2.length;
let x2:=dR a1.length;
bif(x1 != x2)then(some ([],[],1,()))else
bif(pM 512 512 2)then let x3:LDCe:=(List.replicate 512 (0,0));
(oK).bind λ(x4,_)=>
let x5:=dR a2.length;
(match ej mF NN (a2,x5,0,a0,a1,a2,a3,a4,(),(),x3,x4,())with
|none=>none
|some (.inl (x6,x7,x8,_))=>
some ([],[],x6,())
|some (.inr (x6,x7,x8,x9,ac,ae,af,ag,ah,ai,aj,ak,am,_))=>
some (ak,am,0,()))else none
def DB:X.Cfg:=⟨E0,[mj,tW],[],[⟨16,0,qS [Uc 2,Uc 3,Uc 4,Uc 6,Ud 7,sP 30 (Ub RW),Ud 31,Ud 32,sP 46 RW,Ud 47,Ud 48] [(6,Ui),(8,yaa),(10,uaa),(14,yad)],[(.exit 2,qS [Uc 2,Uc 3,Uc 4,Uc 6,Ud 7,sP 30 (Ub RW),Ud 31,Ud 32,sP 46 RW,Ud 47,Ud 48,Ue 49] [(6,Ui),(8,yaa),(10,uaa),(14,yad)])]⟩,⟨7,1,qS [Uc 2,Uc 3,Uc 4,Uc 6,sP 30 (Ub RW),Ud 31,Ud 32] [(6,Ui),(8,yaa),(10,uaa),(14,yad)],[(.ret,qS [Uc 4,Ud 5] [(10,uaa)]),(.exit 0,qS [Uc 2,Uc 3,Uc 4,Uc 6,sP 30 (Ub RW),Ud 31,Ud 32,Ue 33] [(6,Ui),(8,yaa),(10,uaa),(14,yad)])]⟩]⟩
def vQ:Ctr:=⟨111,37,[.agg Ui,.agg yaa],[],[⟨uL [(Ua KCe),lO,I64],[.agg 2,.one],[]⟩],ap5 nj⟩
theorem CX:Lk 3 vQ:=ls DB (aC oW (aC AX aN))
def pC:T21->Option (T21⊕(Int×Bool×T1Y)):=λ(v0,v1,v2,v3,v4,v5,v6,v7,v8,v9,v10,_)=>
bif(decide (v0<4))then(bif(pM 8 8 2)then let x0:LDCe:=(List.replicate 8 (0,0));
(bif(v0==0)then(some (v0,v1,v2,v3,v4,v5,v6,v7,v8,v9,v10,1,x0,0,0,(-1),(-1),0,0,()))else
some (v0,v1,v2,v3,v4,v5,v6,v7,v8,v9,v10,0,x0,0,0,(-1),(-1),0,0,()):Option (Int×Unit×Int×Unit×Unit×Unit×T2g)).bind λ(x1,x2,x3,x4,x5,x6,x7,x8,x9,ac,ae,af,ag,ah,ai,aj,ak,am,an,_)=>
let ap:LDTh:=[(af,(ag,(ah,(ai,(aj,(ak,(am,an)))))))];
bif(dX 80 ae.length ap.length)then let aq:LDTh:=(List.append ae ap);
let av:=w64 (x1+1);
some (.inl (av,x2,x3,x4,x5,x6,x7,x8,x9,ac,aq,()))else none else none)else
some (.inr (v0,false,v1,v2,v3,v4,v5,v6,v7,v8,v9,v10,()))
def lW(a0:LDIn)(a1:List (Int))(a2:List LI)(a3:List (Int))(a4:Int):Option (LI×Int×LDCe×LDLn×LDTh×Int×Unit):=
(jX a0 a1 a2).bind λ(x0,_)=>
bif(x0 != 0)then(some ([],0,[],[],[],x0,()))else
(iO a3 a4 a1).bind λ(x1,_)=>
bif(!x1)then(some ([],0,[],[],[],1,()))else
(nj a0 a1 a2 a3 a4).bind λ(x2,x3,x4,_)=>
bif(dX 8 0 a3.length)then let x5:List (Int):=(List.append [] a3);
(ej pC NN (0,(),0,(),(),(),x5,a4,x2,x3,[],())).bind λ(x6,x7,x8,x9,ac,ae,af,ag,ah,ai,aj,ak,_)=>
some (ag,ah,ai,aj,ak,0,())else none
def Bw:X.Cfg:=⟨E0,[pb,mj,vQ],[(49,PE),(50,PE)],[⟨18,0,qE,[(.normal,qS [Uc 4,Uc 9,Uc 11,Ud 38] [(10,Uac),(20,Xah),(24,Uaf)])]⟩,(lx 12 1 [Uc 4,Uc 9,Ud 38] [(10,Uac),(20,Xah)] 39)]⟩
def tT:Ctr:=⟨85,38,[.agg Ui,.agg yaa],[],[⟨uL [RI,CW,gn,iJ,sA,I64],[.agg 5,.one],[]⟩],ap5 lW⟩
theorem AU:Lk 4 tT:=ls Bw (aC td (aC oW (aC CX aN)))
def fT(a0:List (Int))(a1:Int)(a2:Int):Option (Bool×Unit):=
bif(decide (a1>=0))then(let x0:Int:=(dR a0.length);
bif(decide (a1<x0))then(bif(decide (a2>=0))then((eE a1).bind λx1=>
(dN a0 x1).bind λx2=>
some ((decide (a2<x2)),()))else
some (false,()))else
some (false,()))else
some (false,())
def ze:X.Cfg:=⟨E0,[],[],[]⟩
def i9:Ctr:=⟨137,39,[shU RI,.agg uab],[],[⟨Uh,[.one],[]⟩],ap3 fT⟩
theorem kY:Lk 1 i9:=ls ze aN
def gZ(a0:List (Int))(a1:Int)(a2:Int)(a3:Int)(a4:Int):Option (Bool×Unit):=
bif(a1==0)then(bif(a3==0)then(some ((a4==0),()))else
some (false,()))else
bif(a1==2)then(bif(a3==0)then(some ((a4==0),()))else
some (false,()))else
bif(a1==1)then(bif(a2==0)then((fT a0 a3 a4).bind λ(x0,_)=>
some (x0,()))else
some (false,()))else
some (false,())
def zd:X.Cfg:=⟨E0,[i9],[],[]⟩
def kZ:Ctr:=⟨114,40,[shU RI,.agg Uad],[],[⟨Uh,[.one],[]⟩],ap5 gZ⟩
theorem nM:Lk 2 kZ:=ls zd (aC kY aN)
def iL:T1L->Option (T1L⊕((Bool×Unit)⊕(LI×LLCn×Int×Int×LDCn×T0I))):=λ(v0,v1,v2,v3,v4,v5,v6,v7)=>
bif(decide (v6<v5))then((eE v6).bind λx0=>
(dN v4 x0).bind λx1=>
(gZ v0 x1.1 x1.2.1 x1.2.2.1 x1.2.2.2).bind λ(x2,_)=>
bif(!x2)then(some (.inr (.inl (false,()))))else
let x3:=w64 (v6+1);
some (.inl (v0,v1,v2,v3,v4,v5,x3,v7)))else
some (.inr (.inr (v0,v1,v2,v3,v4,v5,v6,false,v7)))
def iK:LI×T0O->Option ((LI×T0O)⊕((Bool×Unit)⊕(LI×LLCn×T0I))):=λ(v0,v1,v2,v3,v4)=>
bif(decide (v3<v2))then((eE v3).bind λx0=>
(dN v1 x0).bind λx1=>
let x2:=dR x1.length;
(match ej iL NN (v0,v1,v2,v3,x1,x2,0,v4)with
|none=>none
|some (.inl (x3,_))=>
some (.inr (.inl (x3,())))
|some (.inr (x3,x4,x5,x6,x7,x8,x9,ac,ae))=>
let ag:=w64 (x6+1);
some (.inl (x3,x4,x5,ag,ae))))else
some (.inr (.inr (v0,v1,v2,v3,false,v4)))
def kN(a0:List (Int))(a1:List LDCn)(a2:LDOp):Option (Bool×Unit):=
let x0:=dR a1.length;
(match ej iK NN (a0,a1,x0,0,a1,a2,())with
|none=>none
|some (.inl (x1,_))=>
some (x1,())
|some (.inr (x1,_))=>
some (true,()))
def yX:X.Cfg:=⟨E0,[kZ],[],[⟨9,0,qS [sP 0 RI,sP 10 (Ub eF),Ud 11,Ud 12,sP 16 eF,Ud 17,Ud 18] [(8,zab)],[(.ret,qS [Ue 4] []),(.exit 2,qS [sP 0 RI,sP 10 (Ub eF),Ud 11,Ud 12,sP 16 eF,Ud 17,Ud 18,Ue 19] [(8,zab)])]⟩,⟨3,1,qS [sP 0 RI,sP 10 (Ub eF),Ud 11,Ud 12] [(8,zab)],[(.ret,qS [Ue 4] []),(.exit 0,qS [sP 0 RI,sP 10 (Ub eF),Ud 11,Ud 12,Ue 13] [(8,zab)])]⟩]⟩
def rR:Ctr:=⟨87,41,[shU RI,.agg zab],[],[⟨Uh,[.one],[]⟩],ap3 kN⟩
theorem yJ:Lk 3 rR:=ls yX (aC nM aN)
def is:T1M->Option (T1M⊕(LLCn×T1z)):=λ(v0,v1,v2,v3,v4,v5,v6,v7,v8,_)=>
bif(decide (v2<v1))then((eE v2).bind λx0=>
(dN v0 x0).bind λx1=>
bif(dX 24 0 x1.length)then let x2:LDCn:=(List.append [] x1);
bif(dX 24 v7.length (List.length [x2]))then let x3:List LDCn:=(List.append v7 [x2]);
let x4:=w64 (v2+1);
some (.inl (v0,v1,x4,v3,v4,v5,v6,x3,v8,()))else none else none)else
some (.inr (v0,v1,v2,false,v3,v4,v5,v6,v7,v8,()))
def gd(a0:List LDCn)(a1:LDOp):Option (T09):=
bif(dX 24 0 a1.length)then let x0:LDOp:=(List.append [] a1);
let x1:=dR a0.length;
(ej is NN (a0,x1,0,a0,a1,(),(),[],x0,())).bind λ(x2,x3,x4,x5,x6,x7,x8,x9,ac)=>
some (ac)else none
def Dj:X.Cfg:=⟨E0,[],[(21,(Ua KCn)),(22,(Ua KCn))],[(lx 4 0 [Uc 2,Uc 3,sP 11 (Ub eF),Ud 12,Ud 13] [(4,zab),(6,uaa),(8,zac)] 14)]⟩
def iG:Ctr:=⟨116,42,[.agg zab],[],[⟨zac,[.agg 2],[]⟩],ap2 gd⟩
theorem jD:Lk 1 iG:=ls Dj aN
def ir:LDOu×Int×Int×LDOu×Unit->Option ((LDOu×Int×Int×LDOu×Unit)⊕(LDOu×Int×Int×Bool×LDOu×Unit)):=λ(v0,v1,v2,v3,_)=>
bif(decide (v2<v1))then((eE v2).bind λx0=>
(dN v0 x0).bind λx1=>
bif(dX 24 0 x1.2.2.length)then let x2:LDCn:=(List.append [] x1.2.2);
let x3:LDOu:=[(x1.1,(x1.2.1,x2))];
bif(dX 40 v3.length x3.length)then let x4:LDOu:=(List.append v3 x3);
let x5:=w64 (v2+1);
some (.inl (v0,v1,x5,x4,()))else none else none)else
some (.inr (v0,v1,v2,false,v3,()))
def jv(a0:LDOu):Option (LDOu×Unit):=
let x0:=dR a0.length;
(ej ir NN (a0,x0,0,[],())).bind λ(x1,x2,x3,x4,x5,_)=>
some (x5,())
def De:X.Cfg:=⟨E0,[],[(18,FC),(19,FC)],[(lx 4 0 [Uf 3 9,sP 6 kE,Ud 7,Ud 8] [(9,uah)] 9)]⟩
def qD:Ctr:=⟨117,43,uL [kE],[],[⟨uah,[.one],[]⟩],ap1 jv⟩
theorem vh:Lk 1 qD:=ls De aN
def m8(a0:List (Int))(a1:List (Int))(a2:List LI)(a3:List LDCn)(a4:LDOp)(a5:LDOu):Option (T13):=
bif(dX 2 0 a0.length)then let x0:List (Int):=(List.append [] a0);
bif(dX 2 0 a1.length)then let x1:List (Int):=(List.append [] a1);
(fK a2).bind λ(x2,_)=>
(gd a3 a4).bind λ(x3,x4,_)=>
(jv a5).bind λ(x5,_)=>
some (x0,x1,x2,x3,x4,x5,())else none else none
def Db:X.Cfg:=⟨E0,[ic,iG,qD],[],[]⟩
def qA:Ctr:=⟨88,44,[.agg Xad],[],[⟨yah,[.agg 6],[]⟩],ap6 m8⟩
theorem vg:Lk 2 qA:=ls Db (aC ki (aC jD (aC vh aN)))
def yD:T0W->Option (T0W⊕T17):=λ(v0,v1,v2,v3,v4,v5,_)=>
bif(decide (v1<v0))then((eE v1).bind λx0=>
(dN v4 x0).bind λx1=>
(dN v4 x0).bind λx2=>
let x3:=List.modify v4 x0 λe=>(-1);
let x4:=w64 (v1+1);
some (.inl (v0,x4,v2,v3,x3,v5,())))else
some (.inr (v0,v1,false,v2,v3,v4,v5,()))
def sb:Option (T08):=
bif(pM 4 4 1)then let x0:List (Int):=(List.replicate 4 0);
bif(pM 4 4 1)then let x1:List LI:=(List.replicate 4 []);
let x2:=dR x0.length;
(ej yD NN (x2,0,(),(),x0,x1,())).bind λ(x3,x4,x5,x6,x7,x8)=>
some (x8)else none else none
def EV:X.Cfg:=⟨E0,[],[(4,(Ua I64))],[(lx 4 0 [Uc 0,Uc 1,Ud 8,Ud 9] [(2,uaa),(4,yac)] 10)]⟩
def yo:Ctr:=⟨89,45,[],[],[⟨yac,[.agg 2],[]⟩],λh=>sb⟩
theorem EK:Lk 1 yo:=ls EV aN
def wd:T2S->Option (T2S⊕(Int×Bool×T2Q)):=λ(v0,v1,v2,v3,v4,v5,v6,v7,v8,v9,v10,v11,v12,v13,v14,v15,v16,v17,v18,v19,v20,v21,v22,v23,v24,v25,v26,v27,v28,v29,v30,v31,v32,v33,v34,v35,v36,_)=>
bif(decide (v0<4))then(bif(dX 8 v36.length (List.length [(-1)]))then let x0:List (Int):=(List.append v36 [(-1)]);
let x1:=w64 (v0+1);
some (.inl (x1,v1,v2,v3,v4,v5,v6,v7,v8,v9,v10,v11,v12,v13,v14,v15,v16,v17,v18,v19,v20,v21,v22,v23,v24,v25,v26,v27,v28,v29,v30,v31,v32,v33,v34,v35,x0,()))else none)else
some (.inr (v0,false,v1,v2,v3,v4,v5,v6,v7,v8,v9,v10,v11,v12,v13,v14,v15,v16,v17,v18,v19,v20,v21,v22,v23,v24,v25,v26,v27,v28,v29,v30,v31,v32,v33,v34,v35,v36,()))
def oD(a0:LDIn)(a1:List (Int))(a2:List LI)(a3:List (Int))(a4:Int)(a5:List (Int))(a6:List (Int))(a7:List LI)(a8:List LDCn)(a9:LDOp)(a10:LDOu):Option (LDIn×LI×LLI×LI×Int×LDCe×LDLn×LDTh×LI×LI×LLI×LLCn×LDOp×LDOu×LI×LLI×Unit×T07):=
(lW a0 a1 a2 a3 a4).bind λ(x0,x1,x2,x3,x4,x5,_)=>
bif(x5 != 0)then(some ([],[],[],[],0,[],[],[],[],[],[],[],[],[],[],[],(),[],x5,()))else
(iM a5 a6 a7 a8 a9 a10).bind λ(x6,_)=>
bif(!x6)then(some ([],[],[],[],0,[],[],[],[],[],[],[],[],[],[],[],(),[],1,()))else
(kN a1 a8 a9).bind λ(x7,_)=>
bif(!x7)then(some ([],[],[],[],0,[],[],[],[],[],[],[],[],[],[],[],(),[],1,()))else
(m8 a5 a6 a7 a8 a9 a10).bind λ(x8,x9,ac,ae,af,ag,_)=>
(sb).bind λ(ah,ai,_)=>
(ej wd NN (0,(),(),(),(),0,(),(),(),(),(),(),(),(),(),(),(),(),(),a0,a1,a2,x0,x1,x2,x3,x4,x8,x9,ac,ae,af,ag,ah,ai,(),[],())).bind λ(aj,ak,am,an,ap,aq,av,ax,ay,az,aA,aB,aD,aE,aF,aG,aH,aI,aJ,aK,aL,aM,aO,aP,aQ,aR,aS,aT,aU,aV,aW,aY,aZ,ba,bc,bd,bf,bg,_)=>
some (aL,aM,aO,aP,aQ,aR,aS,aT,aU,aV,aW,aY,aZ,ba,bc,bd,bf,bg,0,())
def Bd:X.Cfg:=⟨E0,[tT,mg,rR,qA,yo],[],[(lx 11 0 [Uc 6,Uc 10,Ud 39] [(14,zae),(22,uL [gk,RI,(Ub RW),RI,CW,gn,iJ,jt,RW,RW,(Ub RW),(Ub eF),ii,kE,RI,(Ub RI),N1,(Ua I64)])] 40)]⟩
def tI:Ctr:=⟨52,46,[.agg Ui,.agg yaa,.agg Xad],[],[⟨uL [gk,RI,(Ub RW),RI,CW,gn,iJ,jt,RW,RW,(Ub RW),(Ub eF),ii,kE,RI,(Ub RI),N1,(Ua I64),I64],[.agg 18,.one],[]⟩],ap11 oD⟩
theorem AJ:Lk 5 tI:=ls Bd (aC AU (aC oT (aC yJ (aC vg (aC EK aN)))))
def ma(a0:List (Int))(a1:Int):Option (T0H):=
(dK 4 a0 a1).bind λ(x0,x1,x2,_)=>
let x3:List (Int):=[0,1,2,3,7,63];
(dK 6 x1 x2).bind λ(x4,x5,x6,_)=>
(eE x4).bind λx7=>
(dN x3 x7).bind λx8=>
(dN x3 x7).bind λx9=>
(dK 4 x5 x6).bind λ(ac,ae)=>
some (x0,x9,(ac==0),ae)
def BM:X.Cfg:=⟨E0,[fq],[],[]⟩
def uc:Ctr:=⟨56,47,[.ptr ⟨2,0,[]⟩ [0]],[(2,Ug)],[⟨yag,[.agg 3],[(2,Ug)]⟩],ap2 ma⟩
theorem A6:Lk 4 uc:=ls BM (aC fu aN)
def gU:T0y->Option (T0y⊕(LDTh×T0q)):=λ(v0,v1,v2,v3,_)=>
bif(decide (v2<v1))then(((eE v2).bind λx0=>
(dN v0 x0).bind λx1=>
bif(x1.1==1)then(bif(dX 8 v3.length (List.length [v2]))then let x2:List (Int):=(List.append v3 [v2]);
some (v0,v1,v2,x2,())else none)else
some (v0,v1,v2,v3,()):Option (T0y)).bind λ(x0,x1,x2,x3,_)=>
let x4:=w64 (x2+1);
some (.inl (x0,x1,x4,x3,())))else
some (.inr (v0,v1,v2,false,v3,()))
def lV(a0:LDTh):Option (LI×Unit):=
let x0:=dR a0.length;
(ej gU NN (a0,x0,0,[],())).bind λ(x1,x2,x3,x4,x5,_)=>
some (x5,())
def Bt:X.Cfg:=⟨E0,[],[],[⟨7,0,qE,[(.normal,qS [Uf 3 9,sP 6 jt,Ud 7,Ud 8] [(9,zaa)])]⟩,(lx 4 1 [Uf 3 9,sP 6 jt,Ud 7,Ud 8] [(9,zaa)] 9)]⟩
def tQ:Ctr:=⟨26,48,uL [jt],[],[⟨zaa,[.one],[]⟩],ap1 lV⟩
theorem AR:Lk 1 tQ:=ls Bt aN
def kO(a0:LDIn)(a1:List (Int))(a2:List LI)(a3:List (Int))(a4:Int)(a5:LDCe)(a6:LDLn)(a7:LDTh)(a8:List (Int))(a9:List (Int))(a10:List LI)(a11:List LDCn)(a12:LDOp)(a13:LDOu)(a14:List (Int))(a15:List LI)(a16:LDEn)(a17:List (Int)):Option (T2q):=
bif(dX 8 0 a17.length)then let x0:List (Int):=(List.append [] a17);
bif(dX 184 0 a16.length)then let x1:LDEn:=(List.append [] a16);
some (a0,a1,a2,a3,a4,a5,a6,a7,a8,a9,a10,a11,a12,a13,a14,a15,x1,x0,())else none else none
def yY:X.Cfg:=⟨E0,[],[(9,wR)],[]⟩
def rS:Ctr:=⟨92,49,[.agg Uag],[],[⟨Xaa,[.agg 18],[]⟩],ap18 kO⟩
theorem yK:Lk 1 rS:=ls yY aN
def mA(a0:List (Int))(a1:Int)(a2:LDCe)(a3:LDLn)(a4:LDTh)(a5:Int):Option (Bool×Unit):=
bif(decide (a5<0))then(some (false,()))else
let x0:=dR a4.length;
bif(decide (a5>=x0))then(some (false,()))else
(eE a5).bind λx1=>
(dN a4 x1).bind λx2=>
bif(x2.1==1)then(bif(x2.2.2.2.2.1 != (-1))then(some ((x2.2.2.2.2.2.1==(-1)),()))else
some (false,()))else
some (false,())
def EU:X.Cfg:=⟨E0,[],[],[]⟩
def su:Ctr:=⟨93,50,[.agg Zab,shU I64],[],[⟨Uh,[.one],[]⟩],ap6 mA⟩
theorem xx:Lk 1 su:=ls EU aN
def iz:T1H->Option (T1H⊕(LDLn×Int×Int×Bool×T0Z)):=λ(v0,v1,v2,v3,v4,v5,v6,v7,v8,_)=>
bif(decide (v2<v1))then((eE v2).bind λx0=>
(dN v0 x0).bind λx1=>
bif(dX 4 0 x1.2.2.length)then let x2:LDCe:=(List.append [] x1.2.2);
let x3:LDLn:=[(x1.1,(x1.2.1,x2))];
bif(dX 40 v8.length x3.length)then let x4:LDLn:=(List.append v8 x3);
let x5:=w64 (v2+1);
some (.inl (v0,v1,x5,v3,v4,v5,v6,v7,x4,()))else none else none)else
some (.inr (v0,v1,v2,false,v3,v4,v5,v6,v7,v8,()))
def nn(a0:LDCe)(a1:LDLn):Option (T05):=
bif(dX 4 0 a0.length)then let x0:LDCe:=(List.append [] a0);
let x1:=dR a1.length;
(ej iz NN (a1,x1,0,a0,a1,(),(),x0,[],())).bind λ(x2,x3,x4,x5,x6,x7,x8,x9,ac)=>
some (ac)else none
def DC:X.Cfg:=⟨E0,[],[(24,PS),(25,PS)],[(lx 4 0 [Uc 2,Uc 3,sP 11 iJ,Ud 12,Ud 13] [(4,Uae),(6,uaa),(8,yad)] 14)]⟩
def vR:Ctr:=⟨138,51,[.agg Uae],[],[⟨yad,[.agg 2],[]⟩],ap2 nn⟩
theorem CY:Lk 1 vR:=ls DC aN
def iw:T2r->Option (T2r⊕(LDTh×Int×Int×Bool×T2j)):=λ(v0,v1,v2,v3,v4,v5,v6,v7,v8,v9,v10,v11,v12,v13,v14,v15,v16,v17,_)=>
bif(decide (v2<v1))then((eE v2).bind λx0=>
(dN v0 x0).bind λx1=>
bif(dX 4 0 x1.2.1.length)then let x2:LDCe:=(List.append [] x1.2.1);
let x3:LDTh:=[(x1.1,(x2,(x1.2.2.1,(x1.2.2.2.1,(x1.2.2.2.2.1,(x1.2.2.2.2.2.1,(x1.2.2.2.2.2.2.1,x1.2.2.2.2.2.2.2)))))))];
bif(dX 80 v17.length x3.length)then let x4:LDTh:=(List.append v17 x3);
let x5:=w64 (v2+1);
some (.inl (v0,v1,x5,v3,v4,v5,v6,v7,v8,v9,v10,v11,v12,v13,v14,v15,v16,x4,()))else none else none)else
some (.inr (v0,v1,v2,false,v3,v4,v5,v6,v7,v8,v9,v10,v11,v12,v13,v14,v15,v16,v17,()))
def iy(a0:List (Int))(a1:Int)(a2:LDCe)(a3:LDLn)(a4:LDTh):Option (T0N):=
bif(dX 8 0 a0.length)then let x0:List (Int):=(List.append [] a0);
(nn a2 a3).bind λ(x1,x2,_)=>
let x3:=dR a4.length;
(ej iw NN (a4,x3,0,a0,a1,a2,a3,a4,(),0,(),(),(),x0,a1,x1,x2,[],())).bind λ(x4,x5,x6,x7,x8,x9,ac,ae,af,ag,ah,ai,aj,ak,am)=>
some (am)else none
def Dw:X.Cfg:=⟨E0,[vR],[(32,PE),(33,PE)],[(lx 4 0 [Uc 2,Uc 3,sP 19 jt,Ud 20,Ud 21] [(4,Zab),(6,Uac),(8,Zaa)] 22)]⟩
def ly:Ctr:=⟨120,52,[.agg Zab],[],[⟨Zaa,[.agg 5],[]⟩],ap5 iy⟩
theorem nE:Lk 2 ly:=ls Dw (aC CY aN)
def jR(a0:List (Int))(a1:Int)(a2:LDCe)(a3:LDLn)(a4:LDTh)(a5:Int):Option (T12):=
(iy a0 a1 a2 a3 a4).bind λ(x0,x1,x2,x3,x4,_)=>
(mA a0 a1 a2 a3 a4 a5).bind λ(x5,_)=>
bif(!x5)then(some (x0,x1,x2,x3,x4,false,()))else
(eE a5).bind λx6=>
(dN x4 x6).bind λx7=>
(dN x4 x6).bind λx8=>
(dN x4 x6).bind λx9=>
(dN x4 x6).bind λac=>
let ae:=(List.modify x4 x6 λe=>(e.1,(e.2.1,(e.2.2.1,(e.2.2.2.1,(e.2.2.2.2.1,(x8.2.2.1,e.2.2.2.2.2.2)))))));
(dN ae x6).bind λaf=>
let ag:=(List.modify ae x6 λe=>(e.1,(e.2.1,(x9.2.2.2.2.1,e.2.2.2))));
some (x0,x1,x2,x3,ag,true,())
def xM:X.Cfg:=⟨E0,[ly,su],[],[]⟩
def qF:Ctr:=⟨94,53,[.agg Zab,shU I64],[],[⟨uL [RI,CW,(Ua KCe),lO,sA,.bool],[.agg 5,.one],[]⟩],ap6 jR⟩
theorem xw:Lk 3 qF:=ls xM (aC nE (aC xx aN))
def j4(a0:Int)(a1:Int):Option (Bool×Unit):=
some ((decide (a0<=2)),())
def BH:X.Cfg:=⟨E0,[],[],[]⟩
def pf:Ctr:=⟨173,54,[.agg Uj],[],[⟨Uh,[.one],[]⟩],ap2 j4⟩
theorem tk:Lk 1 pf:=ls BH aN
def kT:LDCe×T02->Option ((LDCe×T02)⊕((Bool×Unit)⊕(LDCe×T0c))):=λ(v0,v1,v2,_)=>
bif(decide (v2<v1))then((eE v2).bind λx0=>
(dN v0 x0).bind λx1=>
(j4 x1.1 x1.2).bind λ(x2,_)=>
bif(!x2)then(some (.inr (.inl (false,()))))else
let x3:=w64 (v2+1);
some (.inl (v0,v1,x3,())))else
some (.inr (.inr (v0,v1,v2,false,())))
def mE(a0:LDCe):Option (Bool×Unit):=
let x0:=dR a0.length;
(match ej kT NN (a0,x0,0,())with
|none=>none
|some (.inl (x1,_))=>
some (x1,())
|some (.inr (x1,_))=>
some (true,()))
def E2:X.Cfg:=⟨E0,[pf],[],[⟨3,0,qS [sP 5 gn,Ud 6,Ud 7] [],[(.ret,qS [Ue 2] []),(.exit 0,qS [sP 5 gn,Ud 6,Ud 7,Ue 8] [])]⟩]⟩
def yv:Ctr:=⟨172,55,uL [gn],[],[⟨Uh,[.one],[]⟩],ap1 mE⟩
theorem EP:Lk 2 yv:=ls E2 (aC tk aN)
def ji:LDLn×T0s->Option ((LDLn×T0s)⊕((Bool×Unit)⊕(LDLn×Int×Int×Bool×T05))):=λ(v0,v1,v2,v3)=>
bif(decide (v2<v1))then((eE v2).bind λx0=>
(dN v0 x0).bind λx1=>
bif(x1.1==(-1))then(bif x1.2.1 then(some (.inr (.inl (false,()))))else
let x2:=dR x1.2.2.length;
bif(decide (x2>0))then(some (.inr (.inl (false,()))))else
let x3:=w64 (v2+1);
some (.inl (v0,v1,x3,v3)))else
(bif(decide (x1.1<0))then(some (v0,v1,v2,true,v3))else
bif(decide (x1.1>=128))then(some (v0,v1,v2,true,v3))else
let x2:=Int.tmod x1.1 4;
bif(x2 != v2)then(some (v0,v1,v2,true,v3))else
let x3:=dR x1.2.2.length;
bif(x3 != 4)then(some (v0,v1,v2,true,v3))else
(mE x1.2.2).bind λ(x4,_)=>
some (v0,v1,v2,(!x4),v3):Option (LDLn×Int×Int×Bool×T05)).bind λ(x2,x3,x4,x5,x6)=>
bif x5 then(some (.inr (.inl (false,()))))else
let x8:=w64 (x4+1);
some (.inl (x2,x3,x8,x6)))else
some (.inr (.inr (v0,v1,v2,false,v3)))
def lY(a0:LDCe)(a1:LDLn):Option (Bool×Unit):=
(let x0:=dR a0.length;
bif(x0 != 512)then(some (true,a0,a1,()))else
let x1:=dR a1.length;
bif(x1 != 4)then(some (true,a0,a1,()))else
(mE a0).bind λ(x2,_)=>
some ((!x2),a0,a1,()):Option (Bool×T05)).bind λ(x0,x1,x2,_)=>
bif x0 then(some (false,()))else
let x3:=dR x2.length;
(match ej ji NN (x2,x3,0,x1,x2,())with
|none=>none
|some (.inl (x4,_))=>
some (x4,())
|some (.inr (x4,_))=>
some (true,()))
def BB:X.Cfg:=⟨E0,[yv],[],[⟨2,0,qE,[(.normal,qS [Uc 1,Ue 20] [(4,Uae)])]⟩,⟨16,1,qE,[(.normal,qS [sP 22 iJ,Ud 23,Ud 24,Ue 66] [(4,Uae)])]⟩,⟨6,2,qS [sP 22 iJ,Ud 23,Ud 24] [(4,Uae)],[(.ret,qS [Ue 2] []),(.exit 0,qS [sP 22 iJ,Ud 23,Ud 24,Ue 25] [(4,Uae)])]⟩]⟩
def tV:Ctr:=⟨152,56,[.agg Uae],[],[⟨Uh,[.one],[]⟩],ap2 lY⟩
theorem AW:Lk 3 tV:=ls BB (aC EP aN)
def jd:T22->Option (T22⊕((Bool×Unit)⊕(LDCe×Int×Int×Bool×T1t))):=λ(v0,v1,v2,v3)=>
bif(decide (v2<v1))then((eE v2).bind λx0=>
(dN v0 x0).bind λx1=>
(j4 x1.1 x1.2).bind λ(x2,_)=>
bif(!x2)then(some (.inr (.inl (false,()))))else
let x3:=w64 (v2+1);
some (.inl (v0,v1,x3,v3)))else
some (.inr (.inr (v0,v1,v2,false,v3)))
def lU(a0:Int)(a1:LDCe)(a2:Int)(a3:Int)(a4:Int)(a5:Int)(a6:Int)(a7:Int):Option (Bool×Unit):=
let x0:=dR a1.length;
(match ej jd NN (a1,x0,0,a0,a1,a2,a3,a4,a5,a6,a7,())with
|none=>none
|some (.inl (x1,_))=>
some (x1,())
|some (.inr (x1,x2,x3,x4,x5,x6,x7,x8,x9,ac,ae,af,_))=>
bif(decide (x5>=0))then(bif(decide (x5<=4))then(let ag:Int:=(dR x6.length);
bif(ag==8)then(bif(decide (x7>=0))then(bif(decide (x7<=255))then(bif(decide (x8>=0))then(bif(decide (x8<=1099511627776))then(bif(decide (x9>=(-1)))then(bif(decide (x9<=255))then(bif(decide (ac>=(-1)))then(bif(decide (ac<=255))then(bif(decide (ae>=0))then(some ((decide (ae<=6)),()))else
some (false,()))else
some (false,()))else
some (false,()))else
some (false,()))else
some (false,()))else
some (false,()))else
some (false,()))else
some (false,()))else
some (false,()))else
some (false,()))else
some (false,()))else
some (false,()))
def Bs:X.Cfg:=⟨E0,[pf],[],[⟨3,0,qS [Uc 1,sP 6 gn,Ud 7,Ud 8] [(4,Zac)],[(.ret,qS [Ue 2] []),(.exit 0,qS [Uc 1,sP 6 gn,Ud 7,Ud 8,Ue 9] [(4,Zac)])]⟩]⟩
def tP:Ctr:=⟨153,57,[.agg Zac],[],[⟨Uh,[.one],[]⟩],ap8 lU⟩
theorem AQ:Lk 2 tP:=ls Bs (aC tk aN)
def lE:T1u->Option (T1u⊕((Bool×Unit)⊕(LDTh×Int×Int×T0S))):=λ(v0,v1,v2,v3)=>
bif(decide (v2<v1))then((eE v2).bind λx0=>
(dN v0 x0).bind λx1=>
(lU x1.1 x1.2.1 x1.2.2.1 x1.2.2.2.1 x1.2.2.2.2.1 x1.2.2.2.2.2.1 x1.2.2.2.2.2.2.1 x1.2.2.2.2.2.2.2).bind λ(x2,_)=>
bif(!x2)then(some (.inr (.inl (false,()))))else
let x3:=w64 (v2+1);
some (.inl (v0,v1,x3,v3)))else
some (.inr (.inr (v0,v1,v2,false,v3)))
def iN(a0:LDIn)(a1:List (Int))(a2:List LI)(a3:List (Int))(a4:Int)(a5:LDCe)(a6:LDLn)(a7:LDTh):Option (Bool×Unit):=
((jX a0 a1 a2).bind λ(x0,_)=>
bif(x0 != 0)then(some (true,a3,a4,a5,a6,a7,()))else
(iO a3 a4 a1).bind λ(x1,_)=>
bif(!x1)then(some (true,a3,a4,a5,a6,a7,()))else
(lY a5 a6).bind λ(x2,_)=>
bif(!x2)then(some (true,a3,a4,a5,a6,a7,()))else
let x3:=dR a7.length;
some ((x3 != 4),a3,a4,a5,a6,a7,()):Option (T0S)).bind λ(x0,x1,x2,x3,x4,x5,_)=>
bif x0 then(some (false,()))else
let x6:=dR x5.length;
(match ej lE NN (x5,x6,0,x1,x2,x3,x4,x5,())with
|none=>none
|some (.inl (x7,_))=>
some (x7,())
|some (.inr (x7,_))=>
some (true,()))
def Bq:X.Cfg:=⟨E0,[pb,mj,tV,tP],[],[⟨2,0,qE,[(.normal,qS [Uc 3,Ue 29] [(8,Zab)])]⟩,⟨6,1,qS [sP 31 jt,Ud 32,Ud 33] [(8,Zab)],[(.ret,qS [Ue 4] []),(.exit 0,qS [sP 31 jt,Ud 32,Ud 33,Ue 34] [(8,Zab)])]⟩]⟩
def mi:Ctr:=⟨139,58,[.agg Ui,.agg Zab],[],[⟨Uh,[.one],[]⟩],ap8 iN⟩
theorem oV:Lk 4 mi:=ls Bq (aC td (aC oW (aC AW (aC AQ aN))))
def fA(a0:Nat)(a1:Int)(a2:LDTh):Option (Int×LDTh×Unit):=
(dN a2 a0).bind λx0=>
let x1:=List.modify a2 a0 λe=>(4,e.2);
(dN x1 a0).bind λx2=>
let x3:=(List.modify x1 a0 λe=>(e.1,(e.2.1,(e.2.2.1,(e.2.2.2.1,(e.2.2.2.2.1,(e.2.2.2.2.2.1,(a1,e.2.2.2.2.2.2.2))))))));
(dN x3 a0).bind λx4=>
let x5:=(List.modify x3 a0 λe=>(e.1,(e.2.1,(e.2.2.1,(e.2.2.2.1,(e.2.2.2.2.1,(e.2.2.2.2.2.1,(e.2.2.2.2.2.2.1,0))))))));
some (2,x5,())
def Dt:X.Cfg:=⟨E0,[],[],[]⟩
def vN:Ctr:=⟨154,59,[.ptr ⟨2,0,[((),(8,0))]⟩ [0,0],shU I64],[(2,uL [sA])],[⟨yab,[.one],[(2,uL [sA])]⟩],ap3 fA⟩
theorem CS:Lk 1 vN:=ls Dt aN
def eU:T1K->Option (T1K⊕(T0b⊕(LI×T1E))):=λ(v0,v1,v2,v3,v4,v5)=>
bif(decide (v4<v3))then((match((eE v4).bind λx0=>
(dN v2 x0).bind λx1=>
bif(decide (v1>=x1))then((eE v4).bind λx2=>
(dN v0 x2).bind λx3=>
let x4:=w64 (x1+x3);
bif(decide (v1<x4))then(let x5:Int:=(w64 (v1-x1));
some (.inl (true,v4,x5,())))else
some (.inr (v0,v1,v4,x1,v2,v3,v4,false,v5)))else
some (.inr (v0,v1,v4,x1,v2,v3,v4,false,v5)):Option (T0b⊕(LI×Int×Int×T1E)))with
|none=>none
|some (.inl (x0,x1,x2,_))=>
some (.inr (.inl (x0,x1,x2,())))
|some (.inr (x0,x1,x2,x3,x4,x5,x6,x7,x8))=>
let af:=w64 (x6+1);
some (.inl (x0,x1,x4,x5,af,x8))))else
some (.inr (.inr (v0,v1,v2,v3,v4,false,v5)))
def ft(a0:List (Int))(a1:Int)(a2:List (Int))(a3:Int):Option (T0c):=
let x0:=dR a0.length;
(match ej eU NN (a2,a3,a0,x0,0,a0,a1,0,0,())with
|none=>none
|some (.inl (x1,x2,x3,_))=>
some (x2,x3,x1,())
|some (.inr (x1,x2,x3,_))=>
some (0,0,false,()))
def xO:X.Cfg:=⟨E0,[],[],[⟨6,0,qE,[(.ret,qS [Uc 6,Ue 7] [(14,uab)]),(.normal,qS [sP 1 RI,Ud 2,Uc 6,Ud 8,Ud 9,sP 11 RI,Ud 12,Ud 13,Ue 30] [(8,yaa),(14,uab)])]⟩,⟨3,1,qS [sP 1 RI,Ud 2,Uc 6,sP 11 RI,Ud 12,Ud 13] [(8,yaa),(14,uab)],[(.ret,qS [Uc 6,Ue 7] [(14,uab)]),(.exit 0,qS [sP 1 RI,Ud 2,Uc 6,sP 11 RI,Ud 12,Ud 13,Ue 14] [(8,yaa),(14,uab)])]⟩]⟩
def iH:Ctr:=⟨145,60,[.agg yaa,shU RI,shU I64],[],[⟨yag,[.agg 2,.one],[]⟩],ap4 ft⟩
theorem km:Lk 1 iH:=ls xO aN
def fE(a0:List (Int))(a1:Int)(a2:List (Int))(a3:Int)(a4:Int)(a5:Int)(a6:Bool):Option (T0d):=
bif(a3 != 1)then(some (0,0,3,()))else
let x0:=wk .i64 a4;
(ft a0 a1 a2 x0).bind λ(x1,x2,x3,_)=>
bif(!x3)then(some (0,0,4,()))else
(bif a6 then(let x4:Int:=(wk .i64 a5);
let x5:=w64 (x2-x4);
some (a2,a0,a1,0,0,x1,x5,()))else
let x4:=wk .i64 a5;
let x5:=w64 (x2+x4);
some (a2,a0,a1,0,0,x1,x5,()):Option (LI×LI×T0J)).bind λ(x4,x5,x6,x7,x8,x9,ac,_)=>
(fT x4 x9 ac).bind λ(ae,_)=>
bif(!ae)then(some (0,0,4,()))else
(eE x9).bind λaf=>
(dN x5 af).bind λag=>
let ah:=w64 (ag+ac);
let ai:=wk .u16 ah;
some (1,ai,0,())
def Dv:X.Cfg:=⟨E0,[iH,i9],[],[⟨8,0,qE,[(.normal,qS [sP 1 RI,Uc 5,Uc 10,Uc 12] [(12,yaa),(22,Uj),(26,uab)])]⟩]⟩
def qL:Ctr:=⟨155,61,[.agg yaa,shU RI,.agg Uj,shU CW,shU .bool],[],[⟨Xag,[.agg 2,.one],[]⟩],ap7 fE⟩
theorem vm:Lk 2 qL:=ls Dv (aC km (aC kY aN))
def jZ(a0:Int)(a1:LDCe)(a2:LDLn):Option (Nat×T05):=
let x0:=w64 (Int.tdiv a0 4);
let x1:=Int.tmod x0 4;
(eE x1).bind λx2=>
(dN a2 x2).bind λx3=>
(dN a2 x2).bind λx4=>
bif(x4.1==x0)then(some (x2,a1,a2,()))else
((dN a2 x2).bind λx5=>
bif x5.2.1 then((dN a2 x2).bind λx6=>
let x7:=w64 (x6.1*4);
(eE x7).bind λx8=>
bif(ge x8 a1.length a1.length)then(dN a2 x2).bind λx9=>
(dN a2 x2).bind λac=>
bif(ge x8 (Nat.add x8 (Nat.min ac.2.2.length (Nat.sub a1.length x8))) a1.length)then bif(Nat.blt 0 (Nat.min ac.2.2.length (Nat.sub a1.length x8)))then(let ae:LDCe:=(qa a1 x8 (Nat.min ac.2.2.length (Nat.sub a1.length x8)) ac.2.2);
let af:=(dR (Nat.min ac.2.2.length (Nat.sub a1.length x8)));
some (x0,x2,ae,a2,()))else
let ae:=(dR (Nat.min ac.2.2.length (Nat.sub a1.length x8)));
some (x0,x2,a1,a2,())else none else none)else
some (x0,x2,a1,a2,()):Option (Int×Nat×T05)).bind λ(x5,x6,x7,x8,_)=>
(dN x8 x6).bind λx9=>
let ac:=List.modify x8 x6 λe=>(x5,e.2);
(dN ac x6).bind λae=>
let af:=(List.modify ac x6 λe=>(e.1,(false,e.2.2)));
let ag:=w64 (x5*4);
let ah:=w64 (x5+1);
let ai:=w64 (ah*4);
(eE ag).bind λaj=>
(eE ai).bind λak=>
bif(ge aj ak x7.length)then bif(dX 4 0 (List.length (mZ x7 aj (Nat.sub ak aj))))then let am:LDCe:=(List.append [] (mZ x7 aj (Nat.sub ak aj)));
(dN af x6).bind λan=>
let ap:=(List.modify af x6 λe=>(e.1,(e.2.1,am)));
some (x6,x7,ap,())else none else none
def BA:X.Cfg:=⟨E0,[],[],[⟨6,0,qE,[(.normal,(qS [Uc 0,Ud 5,(6,.ptr ⟨2,1,[((),(3,0))]⟩ [0,0])] [(2,yad)]))]⟩]⟩
def pe:Ctr:=⟨174,62,[.ptr ⟨2,0,[]⟩ [0],shU I64],[(2,yad)],[⟨[.ptr ⟨2,1,[((),(3,0))]⟩ [0,0]],[.ptr],[(2,yad)]⟩],ap3 jZ⟩
theorem tg:Lk 1 pe:=ls BA aN
def ni(a0:Int)(a1:LDCe)(a2:LDLn):Option (T0s):=
(jZ a0 a1 a2).bind λ(x0,x1,x2,_)=>
(dN x2 x0).bind λx3=>
let x4:=Int.tmod a0 4;
(eE x4).bind λx5=>
(dN x2 x0).bind λx6=>
(dN x6.2.2 x5).bind λx7=>
(dN x2 x0).bind λx8=>
(dN x8.2.2 x5).bind λx9=>
some (x9.1,x9.2,x1,x2,())
def DA:X.Cfg:=⟨E0,[pe],[],[]⟩
def vP:Ctr:=⟨156,63,[.ptr ⟨2,0,[]⟩ [0],shU I64],[(2,yad)],[⟨Uj,[.agg 2],[(2,yad)]⟩],ap3 ni⟩
theorem CV:Lk 2 vP:=ls DA (aC tg aN)
def jY(a0:Int)(a1:Int)(a2:Int)(a3:LDCe)(a4:LDLn):Option (T05):=
(jZ a0 a3 a4).bind λ(x0,x1,x2,_)=>
(dN x2 x0).bind λx3=>
let x4:=Int.tmod a0 4;
(eE x4).bind λx5=>
(dN x2 x0).bind λx6=>
(dN x6.2.2 x5).bind λx7=>
(dN x2 x0).bind λx8=>
(dN x8.2.2 x5).bind λx9=>
let ac:=(List.modify x2 x0 λe=>(e.1,(e.2.1,(List.modify e.2.2 x5 λe=>(a1,a2)))));
(dN ac x0).bind λae=>
let af:=(List.modify ac x0 λe=>(e.1,(true,e.2.2)));
some (x1,af,())
def Bz:X.Cfg:=⟨E0,[pe],[],[]⟩
def pd:Ctr:=⟨157,64,[.ptr ⟨2,0,[]⟩ [0],shU I64,.agg Uj],[(2,yad)],[⟨[],[],[(2,yad)]⟩],ap5 jY⟩
theorem te:Lk 2 pd:=ls Bz (aC tg aN)
def jx(a0:Bool):Option (T02):=
bif a0 then(some (0,1,()))else
some (0,0,())
def Du:X.Cfg:=⟨E0,[],[],[]⟩
def qK:Ctr:=⟨175,65,Uh,[],[⟨Uj,[.agg 2],[]⟩],ap1 jx⟩
theorem vl:Lk 1 qK:=ls Du aN
def jV(a0:Int)(a1:Int)(a2:Int):Option (T0d):=
bif(a0==3)then(let x0:Int:=(wk .u16 (a1+a2));
some (0,x0,0,()))else
bif(a0==4)then(let x0:Int:=(wk .u16 (a1-a2));
some (0,x0,0,()))else
bif(a0==5)then(let x0:Int:=(wk .u16 (a1*a2));
some (0,x0,0,()))else
bif(a0==6)then(bif(a2==0)then(some (0,0,5,()))else
bif(a0==6)then(bif(a2 != 0)then let x0:Int:=(wk .u16 (Int.tdiv a1 a2));
some (0,x0,0,())else none)else
bif(a2 != 0)then let x0:Int:=(Int.tmod a1 a2);
some (0,x0,0,())else none)else
bif(a0==7)then(bif(a2==0)then(some (0,0,5,()))else
bif(a0==6)then(bif(a2 != 0)then let x0:Int:=(wk .u16 (Int.tdiv a1 a2));
some (0,x0,0,())else none)else
bif(a2 != 0)then let x0:Int:=(Int.tmod a1 a2);
some (0,x0,0,())else none)else
bif(a0==8)then(let x0:Int:=(arR .and .u16 a1 a2);
some (0,x0,0,()))else
bif(a0==9)then(let x0:Int:=(arR .or .u16 a1 a2);
some (0,x0,0,()))else
bif(a0==10)then(let x0:Int:=(arR .xor .u16 a1 a2);
some (0,x0,0,()))else
bif(a0==11)then(let x0:Int:=(Int.tmod a2 16);
(eE x0).bind λx1=>
let x2:Int:=(shR .shl .u16 a1 x1);
some (0,x2,0,()))else
bif(a0==12)then(let x0:Int:=(Int.tmod a2 16);
(eE x0).bind λx1=>
let x2:Int:=(shR .shr .u16 a1 x1);
some (0,x2,0,()))else
(jx (decide (a1<a2))).bind λ(x0,x1,_)=>
some (x0,x1,0,())
def xN:X.Cfg:=⟨E0,[qK],[],[]⟩
def qJ:Ctr:=⟨176,66,uL [I64,CW,CW],[],[⟨Xag,[.agg 2,.one],[]⟩],ap3 jV⟩
theorem xz:Lk 2 qJ:=ls xN (aC vl aN)
def jW(a0:List (Int))(a1:Int)(a2:List (Int))(a3:Int)(a4:Int)(a5:Int)(a6:Int):Option (Int×Int×T0c):=
let x0:=wk .i64 a4;
(ft a0 a1 a2 x0).bind λ(x1,x2,x3,_)=>
let x4:=wk .i64 a6;
(ft a0 a1 a2 x4).bind λ(x5,x6,x7,_)=>
bif x3 then(bif x7 then(some (x1,x2,x5,x6,(x1==x5),()))else
some (x1,x2,x5,x6,false,()))else
some (x1,x2,x5,x6,false,())
def Bv:X.Cfg:=⟨E0,[iH],[],[]⟩
def tS:Ctr:=⟨177,67,[.agg yaa,shU RI,.agg Uj,.agg Uj],[],[⟨uL [I64,I64,I64,I64,.bool],[.agg 2,.agg 2,.one],[]⟩],ap7 jW⟩
theorem AT:Lk 2 tS:=ls Bv (aC km aN)
def q9(a0:List (Int))(a1:Int)(a2:List (Int))(a3:Int)(a4:Int)(a5:Int)(a6:Int)(a7:Int):Option (T0d):=
bif(decide (a3<3))then(some (0,0,1,()))else
bif(decide (a3>14))then(some (0,0,1,()))else
(match(bif(a3==14)then((jx ((a4==a6)&&((a5==a7)&&true))).bind λ(x0,x1,_)=>
some (.inl (0,x0,x1,())))else
bif(a4==0)then(bif(a6==0)then((jV a3 a5 a7).bind λ(x0,x1,x2,_)=>
some (.inl (x2,x0,x1,())))else
(bif(a3==3)then(bif(a4==1)then(some (a2,a3,(a6==0),a0,a1,a4,a5,a6,a7,0,0,()))else
some (a2,a3,false,a0,a1,a4,a5,a6,a7,0,0,()))else
some (a2,a3,false,a0,a1,a4,a5,a6,a7,0,0,()):Option (T24)).bind λ(x0,x1,x2,x3,x4,x5,x6,x7,x8,x9,ac,_)=>
bif x2 then((fE x3 x4 x0 x5 x6 x8 false).bind λ(ae,af,ag,_)=>
some (.inl (ag,ae,af,())))else
(bif(x1==3)then(bif(x5==0)then(some (x0,x1,(x7==1),x3,x4,x5,x6,x7,x8,x9,ac,()))else
some (x0,x1,false,x3,x4,x5,x6,x7,x8,x9,ac,()))else
some (x0,x1,false,x3,x4,x5,x6,x7,x8,x9,ac,()):Option (T24)).bind λ(ae,af,ag,ah,ai,aj,ak,am,an,ap,aq,_)=>
bif ag then((fE ah ai ae am an ak false).bind λ(av,ax,ay,_)=>
some (.inl (ay,av,ax,())))else
(bif(af==4)then(bif(aj==1)then(some (ae,af,(am==0),ah,ai,aj,ak,am,an,ap,aq,()))else
some (ae,af,false,ah,ai,aj,ak,am,an,ap,aq,()))else
some (ae,af,false,ah,ai,aj,ak,am,an,ap,aq,()):Option (T24)).bind λ(av,ax,ay,az,aA,aB,aD,aE,aF,aG,aH,_)=>
bif ay then((fE az aA av aB aD aF true).bind λ(aI,aJ,aK,_)=>
some (.inl (aK,aI,aJ,())))else
(bif(ax==4)then(bif(aB==1)then(some (av,ax,(aE==1),az,aA,aB,aD,aE,aF,aG,aH,()))else
some (av,ax,false,az,aA,aB,aD,aE,aF,aG,aH,()))else
bif(ax==13)then(bif(aB==1)then(some (av,ax,(aE==1),az,aA,aB,aD,aE,aF,aG,aH,()))else
some (av,ax,false,az,aA,aB,aD,aE,aF,aG,aH,()))else
some (av,ax,false,az,aA,aB,aD,aE,aF,aG,aH,()):Option (T24)).bind λ(aI,aJ,aK,aL,aM,aO,aP,aQ,aR,aS,aT,_)=>
bif aK then((jW aL aM aI aO aP aQ aR).bind λ(aU,aV,aW,aY,aZ,_)=>
bif(!aZ)then(some (.inl (4,0,0,())))else
bif(aJ==13)then((jx (decide (aV<aY))).bind λ(ba,bc,_)=>
some (.inl (0,ba,bc,())))else
let ba:=w64 (aV-aY);
let bc:=wk .u16 ba;
some (.inl (0,0,bc,())))else
some (.inr (aI,aJ,false,aL,aM,aO,aP,aQ,aR,aS,aT,())))else
(bif(a3==3)then(bif(a4==1)then(some (a2,a3,(a6==0),a0,a1,a4,a5,a6,a7,0,0,()))else
some (a2,a3,false,a0,a1,a4,a5,a6,a7,0,0,()))else
some (a2,a3,false,a0,a1,a4,a5,a6,a7,0,0,()):Option (T24)).bind λ(x0,x1,x2,x3,x4,x5,x6,x7,x8,x9,ac,_)=>
bif x2 then((fE x3 x4 x0 x5 x6 x8 false).bind λ(ae,af,ag,_)=>
some (.inl (ag,ae,af,())))else
(bif(x1==3)then(bif(x5==0)then(some (x0,x1,(x7==1),x3,x4,x5,x6,x7,x8,x9,ac,()))else
some (x0,x1,false,x3,x4,x5,x6,x7,x8,x9,ac,()))else
some (x0,x1,false,x3,x4,x5,x6,x7,x8,x9,ac,()):Option (T24)).bind λ(ae,af,ag,ah,ai,aj,ak,am,an,ap,aq,_)=>
bif ag then((fE ah ai ae am an ak false).bind λ(av,ax,ay,_)=>
some (.inl (ay,av,ax,())))else
(bif(af==4)then(bif(aj==1)then(some (ae,af,(am==0),ah,ai,aj,ak,am,an,ap,aq,()))else
some (ae,af,false,ah,ai,aj,ak,am,an,ap,aq,()))else
some (ae,af,false,ah,ai,aj,ak,am,an,ap,aq,()):Option (T24)).bind λ(av,ax,ay,az,aA,aB,aD,aE,aF,aG,aH,_)=>
bif ay then((fE az aA av aB aD aF true).bind λ(aI,aJ,aK,_)=>
some (.inl (aK,aI,aJ,())))else
(bif(ax==4)then(bif(aB==1)then(some (av,ax,(aE==1),az,aA,aB,aD,aE,aF,aG,aH,()))else
some (av,ax,false,az,aA,aB,aD,aE,aF,aG,aH,()))else
bif(ax==13)then(bif(aB==1)then(some (av,ax,(aE==1),az,aA,aB,aD,aE,aF,aG,aH,()))else
some (av,ax,false,az,aA,aB,aD,aE,aF,aG,aH,()))else
some (av,ax,false,az,aA,aB,aD,aE,aF,aG,aH,()):Option (T24)).bind λ(aI,aJ,aK,aL,aM,aO,aP,aQ,aR,aS,aT,_)=>
bif aK then((jW aL aM aI aO aP aQ aR).bind λ(aU,aV,aW,aY,aZ,_)=>
bif(!aZ)then(some (.inl (4,0,0,())))else
bif(aJ==13)then((jx (decide (aV<aY))).bind λ(ba,bc,_)=>
some (.inl (0,ba,bc,())))else
let ba:=w64 (aV-aY);
let bc:=wk .u16 ba;
some (.inl (0,0,bc,())))else
some (.inr (aI,aJ,false,aL,aM,aO,aP,aQ,aR,aS,aT,())):Option (T0d⊕T24))with
|none=>none
|some (.inl (x0,x1,x2,_))=>
some (x1,x2,x0,())
|some (.inr (x0,x1,x2,x3,x4,x5,x6,x7,x8,x9,ac,_))=>
some (0,0,3,()))
def HO:X.Cfg:=⟨E0,[qK,qJ,qL,tS],[],[⟨9,0,qE,[(.normal,qS [sP 1 RI,Ud 2,Uc 5,Uc 8,Uc 9,Uc 10,Ue 46] [(12,yaa),(18,Uj),(20,Uj),(22,Uj)])]⟩,⟨11,1,qE,[(.normal,qS [sP 1 RI,Ud 2,Uc 5,Uc 8,Uc 9,Uc 10,Ue 67] [(12,yaa),(18,Uj),(20,Uj),(22,Uj)])]⟩,⟨13,2,qE,[(.normal,qS [sP 1 RI,Ud 2,Uc 5,Uc 8,Uc 9,Uc 10,Ue 88] [(12,yaa),(18,Uj),(20,Uj),(22,Uj)])]⟩,⟨15,3,qE,[(.normal,qS [sP 1 RI,Ud 2,Uc 5,Uc 8,Uc 9,Uc 10,Ue 109] [(12,yaa),(18,Uj),(20,Uj),(22,Uj)])]⟩,⟨4,4,qE,[(.ret,qS [Uc 10,Ud 11] [(22,Uj)]),(.normal,qS [sP 1 RI,Ud 2,Uc 5,Uc 8,Uc 9,Uc 10,Ue 109] [(12,yaa),(18,Uj),(20,Uj),(22,Uj)])]⟩]⟩
def Ah:Ctr:=⟨158,68,[.agg yaa,shU RI,shU I64,.agg Uj,.agg Uj],[],[⟨Xag,[.agg 2,.one],[]⟩],ap8 q9⟩
theorem HE:Lk 3 Ah:=ls HO (aC vl (aC xz (aC vm (aC AT aN))))
def kS(a0:Int):Option (Bool×Unit):=
(gK a0).bind λ(x0,_)=>
bif x0 then(some (true,()))else
bif(a0==22)then(some (true,()))else
some ((a0==24),())
def zb:X.Cfg:=⟨E0,[jG],[],[]⟩
def rW:Ctr:=⟨159,69,yab,[],[⟨Uh,[.one],[]⟩],ap1 kS⟩
theorem yO:Lk 2 rW:=ls zb (aC lr aN)
def oI(a0:LDIn)(a1:List (Int))(a2:List LI)(a3:Int)(a4:List (Int))(a5:Int)(a6:LDCe)(a7:LDLn)(a8:LDTh):Option (T0Y):=
(eE a3).bind λx0=>
(dN a8 x0).bind λx1=>
(dN a8 x0).bind λx2=>
let x3:=dR a0.length;
bif(decide (x2.2.2.1>=x3))then((fA x0 2 a8).bind λ(x4,x5,_)=>
some (x4,a4,a5,a6,a7,x5,()))else
(dN a8 x0).bind λx4=>
(eE x4.2.2.1).bind λx5=>
(dN a0 x5).bind λx6=>
(dN a8 x0).bind λx7=>
let x8:=w64 (x7.2.2.1+1);
(dN a8 x0).bind λx9=>
(eE x6.2.1).bind λac=>
(dN a8 x0).bind λae=>
(dN ae.2.1 ac).bind λaf=>
(dN a8 x0).bind λag=>
(dN ag.2.1 ac).bind λah=>
(dN a8 x0).bind λai=>
(eE x6.2.2.1).bind λaj=>
(dN a8 x0).bind λak=>
(dN ak.2.1 aj).bind λam=>
(dN a8 x0).bind λan=>
(dN an.2.1 aj).bind λap=>
(match(bif(x6.1==0)then(some (.inl (x0,x8,a4,a5,a6,a7,a8,x6.1,x6.2.1,x6.2.2.1,x6.2.2.2.1,x6.2.2.2.2,())))else
bif(x6.1==1)then((dN a8 x0).bind λaq=>
let av:=wk .u16 x6.2.2.2.2;
(eE x6.2.1).bind λax=>
(dN a8 x0).bind λay=>
(dN ay.2.1 ax).bind λaz=>
(dN a8 x0).bind λaA=>
(dN aA.2.1 ax).bind λaB=>
let aD:=(List.modify a8 x0 λe=>(e.1,((List.modify e.2.1 ax λe=>(0,av)),e.2.2)));
some (.inl (x0,x8,a4,a5,a6,a7,aD,x6.1,x6.2.1,x6.2.2.1,x6.2.2.2.1,x6.2.2.2.2,())))else
bif(x6.1==2)then((dN a8 x0).bind λaq=>
(eE x6.2.1).bind λav=>
(dN a8 x0).bind λax=>
(dN ax.2.1 av).bind λay=>
(dN a8 x0).bind λaz=>
(dN az.2.1 av).bind λaA=>
let aB:=(List.modify a8 x0 λe=>(e.1,((List.modify e.2.1 av λe=>(ap.1,ap.2)),e.2.2)));
some (.inl (x0,x8,a4,a5,a6,a7,aB,x6.1,x6.2.1,x6.2.2.1,x6.2.2.2.1,x6.2.2.2.2,())))else
bif(x6.1==15)then((dN a8 x0).bind λaq=>
(eE x6.2.2.2.2).bind λav=>
(dN a4 av).bind λax=>
let ay:=wk .u16 ax;
(eE x6.2.1).bind λaz=>
(dN a8 x0).bind λaA=>
(dN aA.2.1 az).bind λaB=>
(dN a8 x0).bind λaD=>
(dN aD.2.1 az).bind λaE=>
let aF:=(List.modify a8 x0 λe=>(e.1,((List.modify e.2.1 az λe=>(1,ay)),e.2.2)));
some (.inl (x0,x8,a4,a5,a6,a7,aF,x6.1,x6.2.1,x6.2.2.1,x6.2.2.2.1,x6.2.2.2.2,())))else
bif(x6.1==16)then((bif(x6.1==17)then(some (x0,x8,a4,a5,a6,a7,a8,a0,a1,a2,x6.1,x6.2.1,x6.2.2.1,x6.2.2.2.1,x6.2.2.2.2,ap.1,ap.2,ah.1,ah.2,()))else
some (x0,x8,a4,a5,a6,a7,a8,a0,a1,a2,x6.1,x6.2.1,x6.2.2.1,x6.2.2.2.1,x6.2.2.2.2,ap.1,ap.2,ap.1,ap.2,()):Option (T2x)).bind λ(aq,av,ax,ay,az,aA,aB,aD,aE,aF,aG,aH,aI,aJ,aK,aL,aM,aO,aP,_)=>
let aQ:=wk .u16 aK;
(fE ax ay aE aO aP aQ false).bind λ(aR,aS,aT,_)=>
bif(aT != 0)then((fA aq aT aB).bind λ(aU,aV,_)=>
some (.inr (aU,ax,ay,az,aA,aV,())))else
bif(aG==16)then((dN aB aq).bind λaU=>
let aV:=wk .i64 aS;
(ni aV az aA).bind λ(aW,aY,aZ,ba,_)=>
(eE aH).bind λbc=>
(dN aB aq).bind λbd=>
(dN bd.2.1 bc).bind λbf=>
(dN aB aq).bind λbg=>
(dN bg.2.1 bc).bind λbh=>
let bi:=(List.modify aB aq λe=>(e.1,((List.modify e.2.1 bc λe=>(aW,aY)),e.2.2)));
some (.inl (aq,av,ax,ay,aZ,ba,bi,aG,aH,aI,aJ,aK,())))else
let aU:=wk .i64 aS;
(jY aU aL aM az aA).bind λ(aV,aW,_)=>
some (.inl (aq,av,ax,ay,aV,aW,aB,aG,aH,aI,aJ,aK,())))else
bif(x6.1==17)then((bif(x6.1==17)then(some (x0,x8,a4,a5,a6,a7,a8,a0,a1,a2,x6.1,x6.2.1,x6.2.2.1,x6.2.2.2.1,x6.2.2.2.2,ap.1,ap.2,ah.1,ah.2,()))else
some (x0,x8,a4,a5,a6,a7,a8,a0,a1,a2,x6.1,x6.2.1,x6.2.2.1,x6.2.2.2.1,x6.2.2.2.2,ap.1,ap.2,ap.1,ap.2,()):Option (T2x)).bind λ(aq,av,ax,ay,az,aA,aB,aD,aE,aF,aG,aH,aI,aJ,aK,aL,aM,aO,aP,_)=>
let aQ:=wk .u16 aK;
(fE ax ay aE aO aP aQ false).bind λ(aR,aS,aT,_)=>
bif(aT != 0)then((fA aq aT aB).bind λ(aU,aV,_)=>
some (.inr (aU,ax,ay,az,aA,aV,())))else
bif(aG==16)then((dN aB aq).bind λaU=>
let aV:=wk .i64 aS;
(ni aV az aA).bind λ(aW,aY,aZ,ba,_)=>
(eE aH).bind λbc=>
(dN aB aq).bind λbd=>
(dN bd.2.1 bc).bind λbf=>
(dN aB aq).bind λbg=>
(dN bg.2.1 bc).bind λbh=>
let bi:=(List.modify aB aq λe=>(e.1,((List.modify e.2.1 bc λe=>(aW,aY)),e.2.2)));
some (.inl (aq,av,ax,ay,aZ,ba,bi,aG,aH,aI,aJ,aK,())))else
let aU:=wk .i64 aS;
(jY aU aL aM az aA).bind λ(aV,aW,_)=>
some (.inl (aq,av,ax,ay,aV,aW,aB,aG,aH,aI,aJ,aK,())))else
bif(x6.1==18)then(some (.inl (x0,x6.2.2.2.2,a4,a5,a6,a7,a8,x6.1,x6.2.1,x6.2.2.1,x6.2.2.2.1,x6.2.2.2.2,())))else
bif(x6.1==19)then(bif(ah.1 != 0)then((fA x0 3 a8).bind λ(aq,av,_)=>
some (.inr (aq,a4,a5,a6,a7,av,())))else
bif((ah.2==0)==(x6.1==19))then(some (.inl (x0,x6.2.2.2.2,a4,a5,a6,a7,a8,x6.1,x6.2.1,x6.2.2.1,x6.2.2.2.1,x6.2.2.2.2,())))else
some (.inl (x0,x8,a4,a5,a6,a7,a8,x6.1,x6.2.1,x6.2.2.1,x6.2.2.2.1,x6.2.2.2.2,())))else
bif(x6.1==20)then(bif(ah.1 != 0)then((fA x0 3 a8).bind λ(aq,av,_)=>
some (.inr (aq,a4,a5,a6,a7,av,())))else
bif((ah.2==0)==(x6.1==19))then(some (.inl (x0,x6.2.2.2.2,a4,a5,a6,a7,a8,x6.1,x6.2.1,x6.2.2.1,x6.2.2.2.1,x6.2.2.2.2,())))else
some (.inl (x0,x8,a4,a5,a6,a7,a8,x6.1,x6.2.1,x6.2.2.1,x6.2.2.2.1,x6.2.2.2.2,())))else
bif(x6.1==21)then((dN a8 x0).bind λaq=>
let av:=wk .u16 x8;
(eE x6.2.1).bind λax=>
(dN a8 x0).bind λay=>
(dN ay.2.1 ax).bind λaz=>
(dN a8 x0).bind λaA=>
(dN aA.2.1 ax).bind λaB=>
let aD:=(List.modify a8 x0 λe=>(e.1,((List.modify e.2.1 ax λe=>(0,av)),e.2.2)));
some (.inl (x0,x6.2.2.2.2,a4,a5,a6,a7,aD,x6.1,x6.2.1,x6.2.2.1,x6.2.2.2.1,x6.2.2.2.2,())))else
bif(x6.1==22)then(bif(ah.1 != 0)then((fA x0 3 a8).bind λ(aq,av,_)=>
some (.inr (aq,a4,a5,a6,a7,av,())))else
bif(decide (ah.2>255))then((fA x0 2 a8).bind λ(aq,av,_)=>
some (.inr (aq,a4,a5,a6,a7,av,())))else
let aq:=wk .i64 ah.2;
some (.inl (x0,aq,a4,a5,a6,a7,a8,x6.1,x6.2.1,x6.2.2.1,x6.2.2.2.1,x6.2.2.2.2,())))else
bif(x6.1==24)then((dN a8 x0).bind λaq=>
bif(aq.2.2.2.2.2.1==(-1))then((fA x0 1 a8).bind λ(av,ax,_)=>
some (.inr (av,a4,a5,a6,a7,ax,())))else
(dN a8 x0).bind λav=>
(dN a8 x0).bind λax=>
let ay:=(List.modify a8 x0 λe=>(e.1,(e.2.1,(e.2.2.1,(e.2.2.2.1,(e.2.2.2.2.1,((-1),e.2.2.2.2.2.2)))))));
some (.inl (x0,av.2.2.2.2.2.1,a4,a5,a6,a7,ay,x6.1,x6.2.1,x6.2.2.1,x6.2.2.2.1,x6.2.2.2.2,())))else
bif(x6.1==23)then((dN a8 x0).bind λaq=>
let av:=List.modify a8 x0 λe=>(2,e.2);
(dN av x0).bind λax=>
let ay:=(List.modify av x0 λe=>(e.1,(e.2.1,(x8,e.2.2.2))));
some (.inr (1,a4,a5,a6,a7,ay,())))else
(dN a8 x0).bind λaq=>
(eE x6.2.2.2.1).bind λav=>
(dN a8 x0).bind λax=>
(dN ax.2.1 av).bind λay=>
(dN a8 x0).bind λaz=>
(dN az.2.1 av).bind λaA=>
(q9 a4 a5 a1 x6.1 ap.1 ap.2 aA.1 aA.2).bind λ(aB,aD,aE,_)=>
bif(aE != 0)then((fA x0 aE a8).bind λ(aF,aG,_)=>
some (.inr (aF,a4,a5,a6,a7,aG,())))else
(dN a8 x0).bind λaF=>
(eE x6.2.1).bind λaG=>
(dN a8 x0).bind λaH=>
(dN aH.2.1 aG).bind λaI=>
(dN a8 x0).bind λaJ=>
(dN aJ.2.1 aG).bind λaK=>
let aL:=(List.modify a8 x0 λe=>(e.1,((List.modify e.2.1 aG λe=>(aB,aD)),e.2.2)));
some (.inl (x0,x8,a4,a5,a6,a7,aL,x6.1,x6.2.1,x6.2.2.1,x6.2.2.2.1,x6.2.2.2.2,())):Option ((Nat×Int×LI×Int×LDCe×LDLn×LDTh×T0J)⊕T0Y))with
|none=>none
|some (.inl (aq,av,ax,ay,az,aA,aB,aD,aE,aF,aG,aH,_))=>
(dN aB aq).bind λaI=>
let aJ:=(List.modify aB aq λe=>(e.1,(e.2.1,(av,e.2.2.2))));
((kS aD).bind λ(aK,_)=>
bif aK then((dN aJ aq).bind λaL=>
let aM:=w64 (aL.2.2.2.1+1);
(dN aJ aq).bind λaO=>
let aP:=(List.modify aJ aq λe=>(e.1,(e.2.1,(e.2.2.1,(aM,e.2.2.2.2)))));
some (ax,ay,az,aA,aP,()))else
some (ax,ay,az,aA,aJ,()):Option (T0N)).bind λ(aK,aL,aM,aO,aP,_)=>
some ((-1),aK,aL,aM,aO,aP,())
|some (.inr (aq,av,ax,ay,az,aA,_))=>
some (aq,av,ax,ay,az,aA,()))
def EY:X.Cfg:=⟨E0,[vN,qL,vP,pd,Ah,rW],[],[⟨17,0,qE,[(.normal,(qS [Uc 1,Uc 3,(7,.ptr ⟨4,4,[((),(8,0))]⟩ [0,0]),Uc 8,Ud 9,Uc 11,Uc 12] [(4,Zaa),(8,Ui),(18,Uab),(24,Uj),(26,Uj)]))]⟩,⟨8,1,qE,[(.normal,(qS [Uc 1,(7,.ptr ⟨4,4,[((),(8,0))]⟩ [0,0]),Uc 8,Ud 9] [(4,Zaa),(18,Uab)])),(.ret,qS [Uc 1,Ud 6] [(4,Zaa)])]⟩,⟨52,2,qE,[(.normal,qS [Uc 1] [(4,Zaa)])]⟩]⟩
def yr:Ctr:=⟨140,70,[.agg Ui,.ptr ⟨4,0,[]⟩ [0],shU I64],[(4,Zaa)],[⟨yab,[.one],[(4,Zaa)]⟩],ap9 oI⟩
theorem EN:Lk 4 yr:=ls EY (aC CS (aC vm (aC CV (aC te (aC HE (aC yO aN))))))
def pB:T2i->Option (T2i⊕T1e):=λ(v0,v1,v2,v3,v4,v5,v6,v7,v8,v9,v10,v11,v12,v13,v14,_)=>
(oI v2 v3 v4 v0 v10 v11 v12 v13 v14).bind λ(x0,x1,x2,x3,x4,x5,_)=>
bif(x0 != (-1))then(some (.inr (x0,0,x1,x2,x3,x4,x5,())))else
(eE v0).bind λx6=>
(dN x5 x6).bind λx7=>
(dN x5 x6).bind λx8=>
bif(x8.2.2.2.1==v1)then(some (.inr (0,0,x1,x2,x3,x4,x5,())))else
some (.inl (v0,v1,v2,v3,v4,v5,v6,v7,v8,v9,x1,x2,x3,x4,x5,()))
def lT(a0:LDIn)(a1:List (Int))(a2:List LI)(a3:List (Int))(a4:Int)(a5:LDCe)(a6:LDLn)(a7:LDTh)(a8:Int)(a9:Int):Option (LI×Int×LDCe×LDLn×LDTh×T02):=
((iN a0 a1 a2 a3 a4 a5 a6 a7).bind λ(x0,_)=>
bif(!x0)then(some (a8,a9,true,a0,a1,a2,a3,a4,a5,a6,a7,(),0,(),(),(),()))else
bif(decide (a8<0))then(some (a8,a9,true,a0,a1,a2,a3,a4,a5,a6,a7,(),0,(),(),(),()))else
bif(decide (a8>=4))then(some (a8,a9,true,a0,a1,a2,a3,a4,a5,a6,a7,(),0,(),(),(),()))else
bif(decide (a9<1))then(some (a8,a9,true,a0,a1,a2,a3,a4,a5,a6,a7,(),0,(),(),(),()))else
some (a8,a9,(decide (a9>64)),a0,a1,a2,a3,a4,a5,a6,a7,(),0,(),(),(),()):Option (Int×Int×Bool×LDIn×LI×LLI×LI×Int×LDCe×LDLn×LDTh×T0P)).bind λ(x0,x1,x2,x3,x4,x5,x6,x7,x8,x9,ac,ae,af,ag,ah,ai,_)=>
bif x2 then(some ([],0,[],[],[],0,1,()))else
(iy x6 x7 x8 x9 ac).bind λ(aj,ak,am,an,ap,_)=>
(eE x0).bind λaq=>
(dN ac aq).bind λav=>
bif(av.1 != 1)then(some (aj,ak,am,an,ap,3,0,()))else
(eE x0).bind λax=>
(dN ap ax).bind λay=>
(dN ap ax).bind λaz=>
let aA:=w64 (az.2.2.2.1+x1);
(ej pB NN (x0,aA,x3,x4,x5,ae,af,ag,ah,ai,aj,ak,am,an,ap,())).bind λ(aB,aD,aE,aF,aG,aH,aI,_)=>
some (aE,aF,aG,aH,aI,aB,aD,())
def Br:X.Cfg:=⟨E0,[mi,ly,yr],[],[⟨2,0,qE,[(.normal,qS [Ud 2,Ud 3,Uc 4,Uc 5,Uc 8,Ue 33] [(10,Ui),(12,Zab),(18,Uac)])]⟩,⟨9,1,qS [Ud 2,Uc 4,Uc 8,Uc 11,Ud 12] [(10,Ui),(18,Uac),(24,Zaa)],[(.ret,qS [Uc 8,Ud 9,Ud 10] [(18,Zaa)])]⟩]⟩
def tO:Ctr:=⟨121,71,[.agg Ui,.agg Zab,shU I64,shU I64],[],[⟨uL [RI,CW,(Ua KCe),lO,sA,I64,I64],[.agg 5,.one,.one],[]⟩],ap10 lT⟩
theorem AP:Lk 5 tO:=ls Br (aC oV (aC nE (aC EN aN)))
def jT(a0:Int):Option (ByteArray×Unit):=
let x0:ByteArray:=(bytes []);
(bif(a0==0)then(some (a0,true,()))else
bif(a0==8)then(some (a0,true,()))else
bif(a0==9)then(some (a0,true,()))else
bif(a0==11)then(some (a0,true,()))else
some (a0,(a0==12),()):Option (T01)).bind λ(x1,x2,_)=>
bif x2 then(let x3:ByteArray:=(bytes [78]);
some (x3,()))else
bif(x1==1)then(let x3:ByteArray:=(bytes [72,80,78]);
some (x3,()))else
bif(x1==2)then(let x3:ByteArray:=(bytes [72,80,78]);
some (x3,()))else
bif(x1==3)then(let x3:ByteArray:=(bytes [78,78]);
some (x3,()))else
bif(x1==4)then(let x3:ByteArray:=(bytes [72]);
some (x3,()))else
bif(x1==5)then(let x3:ByteArray:=(bytes [72,78]);
some (x3,()))else
bif(x1==10)then(let x3:ByteArray:=(bytes [78,88]);
some (x3,()))else
bif(x1==13)then(let x3:ByteArray:=(bytes [78,80,78]);
some (x3,()))else
bif(x1==14)then(let x3:ByteArray:=(bytes [78,80,78]);
some (x3,()))else
let x3:ByteArray:=(bytes []);
some (x3,())
def Bl:X.Cfg:=⟨E0,[],[],[⟨3,0,qE,[(.normal,qS [Ud 3,Ue 4] [])]⟩]⟩
def mh:Ctr:=⟨141,72,yab,[],[⟨uL [.str],[.one],[]⟩],ap1 jT⟩
theorem oU:Lk 1 mh:=ls Bl aN
def lm(a0:Int)(a1:Int):Option (Bool×Unit):=
bif(a0==78)then(some ((a1==0),()))else
bif(a0==72)then(some ((a1==2),()))else
bif(a0==80)then(some ((a1==1),()))else
some (true,())
def Dp:X.Cfg:=⟨E0,[],[],[]⟩
def qH:Ctr:=⟨142,73,uL [CB,CB],[],[⟨Uh,[.one],[]⟩],ap2 lm⟩
theorem vj:Lk 1 qH:=ls Dp aN
def gY(a0:Int):Option (Int×Unit):=
bif(decide (a0<0))then(some ((-1),()))else
bif(decide (a0>15))then(some ((-1),()))else
bif(a0==1)then(some (1,()))else
bif(a0==13)then(some (1,()))else
bif(a0==2)then(some (2,()))else
bif(a0==14)then(some (2,()))else
some (0,())
def y8:X.Cfg:=⟨E0,[],[],[]⟩
def i8:Ctr:=⟨126,74,yab,[],[⟨yab,[.one],[]⟩],ap1 gY⟩
theorem kX:Lk 1 i8:=ls y8 aN
def kR(a0:List (Int))(a1:Int)(a2:List (Int))(a3:Int)(a4:Int)(a5:Int):Option (T02):=
bif(a3 != 1)then(some (0,3,()))else
let x0:=wk .i64 a4;
(ft a0 a1 a2 x0).bind λ(x1,x2,x3,_)=>
(bif(!x3)then(some (true,a3,a4,()))else
bif(decide (a5<0))then(some (true,a3,a4,()))else
(eE x1).bind λx4=>
(dN a2 x4).bind λx5=>
let x6:=w64 (x5-x2);
some ((decide (a5>x6)),a3,a4,()):Option (T0b)).bind λ(x4,x5,x6,_)=>
bif x4 then(some (0,4,()))else
let x7:=wk .i64 x6;
some (x7,0,())
def za:X.Cfg:=⟨E0,[iH],[],[⟨6,0,qE,[(.normal,qS [Uc 6,Ue 41] [(14,Uj)])]⟩]⟩
def rV:Ctr:=⟨143,75,[.agg yaa,shU RI,.agg Uj,shU I64],[],[⟨uab,[.one,.one],[]⟩],ap6 kR⟩
theorem yN:Lk 2 rV:=ls za (aC km aN)
def lD:T2z->Option (T2z⊕((Int×Unit)⊕(Int×ByteArray×Int×Int×Bool×T2l))):=λ(v0,v1,v2,v3,v4,v5,v6,v7,v8,v9,v10,v11,v12,v13,v14)=>
bif(decide (v3<v2))then((eE v3).bind λx0=>
(zG v1 x0).bind λx1=>
(eE v3).bind λx2=>
(dN v13 x2).bind λx3=>
(lm x1 x3.1).bind λ(x4,_)=>
bif(!x4)then(some (.inr (.inl (6,()))))else
let x5:=w64 (v3+1);
some (.inl (v0,v1,v2,x5,v4,v5,v6,v7,v8,v9,v10,v11,v12,v13,v14)))else
some (.inr (.inr (v0,v1,v2,v3,false,v4,v5,v6,v7,v8,v9,v10,v11,v12,v13,v14)))
def lS(a0:LDIn)(a1:List (Int))(a2:List LI)(a3:List (Int))(a4:Int)(a5:LDCe)(a6:LDLn)(a7:LDTh)(a8:Int):Option (Int×Unit):=
(eE a8).bind λx0=>
(dN a7 x0).bind λx1=>
let x2:=w64 (x1.2.2.1-1);
(eE x2).bind λx3=>
(dN a0 x3).bind λx4=>
(jT x4.2.2.2.2).bind λ(x5,_)=>
let x6:=Ap x5;
(match ej lD NN (x4.2.2.2.2,x5,x6,0,a0,a1,a2,a3,a4,a5,a6,a7,x1.1,x1.2.1,x1.2.2.1,x1.2.2.2.1,x1.2.2.2.2.1,x1.2.2.2.2.2.1,x1.2.2.2.2.2.2.1,x1.2.2.2.2.2.2.2,())with
|none=>none
|some (.inl (x7,_))=>
some (x7,())
|some (.inr (x7,x8,x9,ac,ae,af,ag,ah,ai,aj,ak,am,an,ap,aq,_))=>
(gY x7).bind λ(aD,_)=>
bif(decide (aD>0))then((dN aq 1).bind λaE=>
(dN aq 2).bind λaF=>
let aG:=wk .i64 aF.2;
(kR ai aj ag aE.1 aE.2 aG).bind λ(aH,aI,_)=>
bif(aI != 0)then(some (6,()))else
(dN aq 2).bind λaJ=>
bif(decide (aJ.2>16))then(some (6,()))else
(bif(x7==10)then((dN aq 0).bind λaK=>
let aL:=wk .i64 aK.2;
let aM:=dR af.length;
some ((decide (aL>=aM)),()))else
bif(x7==12)then((dN aq 0).bind λaK=>
let aL:=wk .i64 aK.2;
let aM:=dR af.length;
some ((decide (aL>=aM)),()))else
some (false,()):Option (Bool×Unit)).bind λ(aK,_)=>
bif aK then(some (6,()))else
some (0,()))else
(bif(x7==10)then((dN aq 0).bind λaE=>
let aF:=wk .i64 aE.2;
let aG:=dR af.length;
some ((decide (aF>=aG)),()))else
bif(x7==12)then((dN aq 0).bind λaE=>
let aF:=wk .i64 aE.2;
let aG:=dR af.length;
some ((decide (aF>=aG)),()))else
some (false,()):Option (Bool×Unit)).bind λ(aE,_)=>
bif aE then(some (6,()))else
some (0,()))
def Bo:X.Cfg:=⟨E0,[mh,qH,i8,rV],[],[⟨6,0,qS [Uc 3,Uc 4,Uc 7,Ud 8,sP 9 .str,Ud 29,Ud 30] [(8,Ui),(10,Zab),(16,Zac)],[(.ret,qS [Ud 6] []),(.exit 0,qS [Uc 3,Uc 4,Uc 7,Ud 8,sP 9 .str,Ud 29,Ud 30,Ue 31] [(8,Ui),(10,Zab),(16,Zac)])]⟩,⟨19,1,qE,[(.normal,qS [Ue 93] [])]⟩]⟩
def tN:Ctr:=⟨122,76,[.agg Ui,.agg Zab,shU I64],[],[⟨yab,[.one],[]⟩],ap9 lS⟩
theorem AO:Lk 3 tN:=ls Bo (aC oU (aC vj (aC kX (aC yN aN))))
def kQ(a0:Int)(a1:LDCe)(a2:Int)(a3:Int)(a4:Int)(a5:Int)(a6:Int)(a7:Int):Option (T1t):=
bif(dX 4 0 a1.length)then let x0:LDCe:=(List.append [] a1);
some (a0,x0,a2,a3,a4,a5,a6,a7,())else none
def y9:X.Cfg:=⟨E0,[],[],[]⟩
def rU:Ctr:=⟨144,77,[.agg Zac],[],[⟨Uaf,[.agg 8],[]⟩],ap8 kQ⟩
theorem yM:Lk 1 rU:=ls y9 aN
def mD(a0:Int)(a1:LDCe)(a2:Int)(a3:Int)(a4:Int)(a5:Int)(a6:Int)(a7:Int)(a8:Int)(a9:Int):Option (T1t):=
(kQ a0 a1 a2 a3 a4 a5 a6 a7).bind λ(x0,x1,x2,x3,x4,x5,_)=>
some (4,x1,x2,x3,x4,x5,a8,a9,())
def E1:X.Cfg:=⟨E0,[rU],[],[]⟩
def sw:Ctr:=⟨123,78,[.agg Zac,shU I64,shU CW],[],[⟨Uaf,[.agg 8],[]⟩],ap10 mD⟩
theorem xy:Lk 2 sw:=ls E1 (aC yM aN)
def gw(a0:Int):Option (Int×Unit):=
bif(decide (a0<0))then(some ((-1),()))else
bif(decide (a0>15))then(some ((-1),()))else
(jT a0).bind λ(x0,_)=>
let x1:=Ap x0;
some (x1,())
def uO:X.Cfg:=⟨E0,[mh],[],[]⟩
def kL:Ctr:=⟨124,79,yab,[],[⟨yab,[.one],[]⟩],ap1 gw⟩
theorem og:Lk 2 kL:=ls uO (aC oU aN)
def j0(a0:List (Int))(a1:Int)(a2:List (Int))(a3:Int)(a4:Int):Option (T0r):=
bif(a3==0)then(some (0,a4,0,0,()))else
bif(a3==2)then(let x0:Int:=(wk .u16 (a4-a1));
some (2,x0,0,0,()))else
let x0:=wk .i64 a4;
(ft a0 a1 a2 x0).bind λ(x1,x2,x3,_)=>
bif x3 then(some (1,0,x1,x2,()))else
let x4:=wk .i64 a4;
some (1,0,(-1),x4,())
def BE:X.Cfg:=⟨E0,[iH],[],[]⟩
def tX:Ctr:=⟨125,80,[.agg yaa,shU RI,.agg Uj],[],[⟨Uad,[.agg 4],[]⟩],ap5 j0⟩
theorem AY:Lk 2 tX:=ls BE (aC km aN)
def nh(a0:LDCe)(a1:LDLn)(a2:Int):Option (T02):=
let x0:=w64 (Int.tdiv a2 4);
let x1:=Int.tmod x0 4;
(eE x1).bind λx2=>
(dN a1 x2).bind λx3=>
bif(x3.1==x0)then(let x4:Int:=(Int.tmod a2 4);
(eE x4).bind λx5=>
(dN x3.2.2 x5).bind λx6=>
some (x6.1,x6.2,()))else
(eE a2).bind λx4=>
(dN a0 x4).bind λx5=>
some (x5.1,x5.2,())
def Dz:X.Cfg:=⟨E0,[],[],[]⟩
def vO:Ctr:=⟨127,81,[.agg Uae,shU I64],[],[⟨Uj,[.agg 2],[]⟩],ap3 nh⟩
theorem CU:Lk 1 vO:=ls Dz aN
def iv:T30->Option (T30⊕(Int×Int×T2W)):=λ(v0,v1,v2,v3,v4,v5,v6,v7,v8,v9,v10,v11,v12,v13,v14,v15,v16,v17,v18,v19,v20,v21,v22,v23,v24,v25,v26,v27,v28,v29,v30,v31,v32,v33,v34,v35,v36,v37,v38,_)=>
bif(decide (v1<v0))then((eE v1).bind λx0=>
(dN v24 x0).bind λx1=>
(j0 v18 v19 v3 x1.1 x1.2).bind λ(x2,x3,x4,x5,_)=>
let x6:LDCn:=[(x2,(x3,(x4,x5)))];
bif(dX 24 v37.length x6.length)then let x7:LDCn:=(List.append v37 x6);
let x8:=w64 (v1+1);
some (.inl (v0,x8,v2,v3,v4,v5,v6,v7,v8,v9,v10,v11,v12,v13,v14,v15,v16,v17,v18,v19,v20,v21,v22,v23,v24,v25,v26,v27,v28,v29,v30,v31,v32,v33,v34,v35,v36,x7,v38,()))else none)else
some (.inr (v0,v1,false,v2,v3,v4,v5,v6,v7,v8,v9,v10,v11,v12,v13,v14,v15,v16,v17,v18,v19,v20,v21,v22,v23,v24,v25,v26,v27,v28,v29,v30,v31,v32,v33,v34,v35,v36,v37,v38,()))
def iu:T2Z->Option (T2Z⊕T32):=λ(v0,v1,v2,v3,v4,v5,v6,v7,v8,v9,v10,v11,v12,v13,v14,v15,v16,v17,v18,v19,v20,v21,v22,v23,v24,v25,v26,v27,v28,v29,v30,v31,v32,v33,v34,v35,v36,v37,v38,_)=>
bif(decide (v1<v0))then((dN v24 1).bind λx0=>
let x1:=wk .i64 x0.2;
let x2:=w64 (x1+v1);
(nh v20 v21 x2).bind λ(x3,x4,_)=>
(j0 v18 v19 v3 x3 x4).bind λ(x5,x6,x7,x8,_)=>
let x9:LDCn:=[(x5,(x6,(x7,x8)))];
bif(dX 24 v38.length x9.length)then let ac:LDCn:=(List.append v38 x9);
let ae:=w64 (v1+1);
some (.inl (v0,ae,v2,v3,v4,v5,v6,v7,v8,v9,v10,v11,v12,v13,v14,v15,v16,v17,v18,v19,v20,v21,v22,v23,v24,v25,v26,v27,v28,v29,v30,v31,v32,v33,v34,v35,v36,v37,ac,()))else none)else
some (.inr (v0,v1,false,v2,v3,v4,v5,v6,v7,v8,v9,v10,v11,v12,v13,v14,v15,v16,v17,v18,v19,v20,v21,v22,v23,v24,v25,v26,v27,v28,v29,v30,v31,v32,v33,v34,v35,v36,v37,v38,()))
def ln(a0:LDIn)(a1:List (Int))(a2:List LI)(a3:List (Int))(a4:Int)(a5:LDCe)(a6:LDLn)(a7:LDTh)(a8:Int)(a9:Int):Option (LI×Int×LDCe×LDLn×LDTh×Int×Int×Int×Int×Int×Int×LDCn×LDCn×Int×Unit):=
(lT a0 a1 a2 a3 a4 a5 a6 a7 a8 a9).bind λ(x0,x1,x2,x3,x4,x5,x6,_)=>
bif(x6 != 0)then(some ([],0,[],[],[],0,0,0,0,0,0,[],[],x6,()))else
(eE a8).bind λx7=>
(dN x4 x7).bind λx8=>
(dN x4 x7).bind λx9=>
(dN x4 x7).bind λac=>
(match(bif(x5==2)then(some (.inl ((),0,(),(),(),0,0,0,0,0,0,(),(),x0,x1,x2,x3,x4,a8,x5,x9.2.2.2.2.2.2.1,x9.2.2.2.1,x9.2.2.1,0,(),(),())))else
bif(x5==1)then((lS a0 a1 a2 x0 x1 x2 x3 x4 a8).bind λ(ae,_)=>
bif(ae != 0)then((mD x9.1 ac.2.1 x9.2.2.1 x9.2.2.2.1 x9.2.2.2.2.1 x9.2.2.2.2.2.1 x9.2.2.2.2.2.2.1 x9.2.2.2.2.2.2.2 ae 0).bind λ(af,ag,ah,ai,aj,ak,am,an,_)=>
(eE a8).bind λap=>
(dN x4 ap).bind λaq=>
(dN x4 ap).bind λav=>
let ax:=(List.modify x4 ap λe=>(af,(ag,(ah,(ai,(aj,(ak,(am,an))))))));
some (.inl ((),0,(),(),(),0,0,0,0,0,0,(),(),x0,x1,x2,x3,ax,a8,2,ae,x9.2.2.2.1,x9.2.2.1,0,(),(),())))else
let af:=w64 (x9.2.2.1-1);
(eE af).bind λag=>
(dN a0 ag).bind λah=>
(gw ah.2.2.2.2).bind λ(ai,_)=>
(ej iv NN (ai,0,a0,a1,a2,(),0,(),(),(),0,0,0,0,0,0,(),(),x0,x1,x2,x3,x4,x9.1,ac.2.1,x9.2.2.1,x9.2.2.2.1,x9.2.2.2.2.1,x9.2.2.2.2.2.1,x9.2.2.2.2.2.2.1,x9.2.2.2.2.2.2.2,a8,x5,0,x9.2.2.2.1,x9.2.2.1,ah.2.2.2.2,[],(),())).bind λ(aj,ak,am,an,ap,aq,av,ax,ay,az,aA,aB,aD,aE,aF,aG,aH,aI,aJ,aK,aL,aM,aO,aP,aQ,aR,aS,aT,aU,aV,aW,aY,aZ,ba,bc,bd,bf,bg,bh,bi,_)=>
(gY bg).bind λ(bj,_)=>
bif(bj==1)then((dN aR 2).bind λbk=>
let bl:=wk .i64 bk.2;
(ej iu NN (bl,0,an,ap,aq,av,ax,ay,az,aA,aB,aD,aE,aF,aG,aH,aI,aJ,aK,aL,aM,aO,aP,aQ,aR,aS,aT,aU,aV,aW,aY,aZ,ba,bc,bd,bf,bg,bh,[],())).bind λ(bm)=>
some (.inr (.inl (bm))))else
some (.inr (.inr (.inl (false,an,ap,aq,av,ax,ay,az,aA,aB,aD,aE,aF,aG,aH,aI,aJ,aK,aL,aM,aO,aP,aQ,aR,aS,aT,aU,aV,aW,aY,aZ,ba,bc,bd,bf,bg,bh,bi,())))))else
some (.inr (.inr (.inr (a8,false,a0,a1,a2,(),0,(),(),(),0,0,0,0,0,0,(),(),x0,x1,x2,x3,x4,x9.1,ac.2.1,x9.2.2.1,x9.2.2.2.1,x9.2.2.2.2.1,x9.2.2.2.2.2.1,x9.2.2.2.2.2.2.1,x9.2.2.2.2.2.2.2,a8,x5,0,x9.2.2.2.1,x9.2.2.1,0,(),(),())))):Option ((Unit×Int×Unit×Unit×Unit×Int×Int×Int×Int×Int×Int×Unit×Unit×LI×Int×LDCe×LDLn×LDTh×T1o)⊕(T32⊕(T2W⊕(Int×Bool×LDIn×LI×LLI×Unit×Int×Unit×Unit×Unit×Int×Int×Int×Int×Int×Int×Unit×Unit×LI×Int×LDCe×LDLn×LDTh×Int×LDCe×Int×Int×Int×Int×Int×Int×T1o)))))with
|none=>none
|some (.inl (ae,af,ag,ah,ai,aj,ak,am,an,ap,aq,av,ax,ay,az,aA,aB,aD,aE,aF,aG,aH,aI,aJ,aK,aL,_))=>
some (ay,az,aA,aB,aD,aE,aF,aG,aH,aI,aJ,[],[],0,())
|some (.inr (.inl (ae,af,ag,ah,ai,aj,ak,am,an,ap,aq,av,ax,ay,az,aA,aB,aD,aE,aF,aG,aH,aI,aJ,aK,aL,aM,aO,aP,aQ,aR,aS,aT,aU,aV,aW,aY,aZ,ba,bc,_)))=>
some (aF,aG,aH,aI,aJ,aT,aU,aV,aW,aY,aZ,ba,bc,0,())
|some (.inr (.inr (.inl (ae,af,ag,ah,ai,aj,ak,am,an,ap,aq,av,ax,ay,az,aA,aB,aD,aE,aF,aG,aH,aI,aJ,aK,aL,aM,aO,aP,aQ,aR,aS,aT,aU,aV,aW,aY,aZ,_))))=>
some (aD,aE,aF,aG,aH,aR,aS,aT,aU,aV,aW,aY,[],0,())
|some (.inr (.inr (.inr (ae,af,ag,ah,ai,aj,ak,am,an,ap,aq,av,ax,ay,az,aA,aB,aD,aE,aF,aG,aH,aI,aJ,aK,aL,aM,aO,aP,aQ,aR,aS,aT,aU,aV,aW,aY,aZ,ba,_))))=>
some (aE,aF,aG,aH,aI,aS,aT,aU,aV,aW,aY,[],[],0,()))
def Dq:X.Cfg:=⟨E0,[tO,tN,sw,kL,tX,i8,vO],[],[⟨19,0,qS [Uc 4,Uc 8,Uc 9,Uc 11,Uc 14,Uc 15,Ud 80,Ud 81] [(10,Ui),(18,Uac),(20,uac),(24,Xae),(30,Zac),(32,zaf)],[(.exit 1,qS [Uc 4,Uc 8,Uc 9,Uc 11,Uc 14,Uc 15,Ud 80,Ud 81,Ue 82] [(10,Ui),(18,Uac),(20,uac),(24,Xae),(30,Zac),(32,zaf)])]⟩,⟨26,1,qS [Uc 4,Uc 8,Uc 9,Uc 11,Uc 14,Uc 15,Ud 109,Ud 110] [(10,Ui),(18,Uac),(20,uac),(24,Xae),(30,Zac),(32,Zae)],[(.exit 3,qS [Uc 4,Uc 8,Uc 9,Uc 11,Uc 14,Uc 15,Ud 109,Ud 110,Ue 111] [(10,Ui),(18,Uac),(20,uac),(24,Xae),(30,Zac),(32,Zae)])]⟩,⟨7,2,qE,[(.normal,qS [Uc 8,Uc 9,Uc 11,Uc 15] [(18,Uac),(20,uac),(24,Xae),(32,uac)]),(.normal,qS [Uc 4,Uc 8,Uc 9,Uc 11,Uc 14,Uc 15,Ud 109,Ud 110,Ue 111] [(10,Ui),(18,Uac),(20,uac),(24,Xae),(30,Zac),(32,Zae)]),(.normal,qS [Uc 4,Uc 8,Uc 9,Uc 11,Uc 14,Uc 15,Ue 103] [(10,Ui),(18,Uac),(20,uac),(24,Xae),(30,Zac),(32,zaf)]),(.normal,qS [Ud 2,Uc 4,Uc 8,Uc 9,Uc 11,Uc 14,Uc 15,Ue 51] [(10,Ui),(18,Uac),(20,uac),(24,Xae),(30,Zac),(32,uac)])]⟩]⟩
def vL:Ctr:=⟨95,82,[.agg Ui,.agg Zab,shU I64,shU I64],[],[⟨uL [RI,CW,gn,iJ,jt,I64,I64,I64,I64,I64,I64,eF,eF,I64],[.agg 5,.agg 8,.one],[]⟩],ap10 ln⟩
theorem CQ:Lk 6 vL:=ls Dq (aC AP (aC AO (aC xy (aC og (aC AY (aC kX (aC CU aN)))))))
def it:T1O->Option (T1O⊕T1X):=λ(v0,v1,v2,v3,v4,v5,v6,v7,v8,_)=>
bif(decide (v2<v1))then((eE v2).bind λx0=>
(dN v0 x0).bind λx1=>
bif(dX 8 0 x1.length)then let x2:List (Int):=(List.append [] x1);
bif(dX 24 v8.length (List.length [x2]))then let x3:List LI:=(List.append v8 [x2]);
let x4:=w64 (v2+1);
some (.inl (v0,v1,x4,v3,v4,v5,v6,v7,x3,()))else none else none)else
some (.inr (v0,v1,v2,false,v3,v4,v5,v6,v7,v8,()))
def lk(a0:List (Int))(a1:List LI):Option (T08):=
bif(dX 8 0 a0.length)then let x0:List (Int):=(List.append [] a0);
let x1:=dR a1.length;
(ej it NN (a1,x1,0,a0,a1,(),(),x0,[],())).bind λ(x2,x3,x4,x5,x6,x7,x8,x9,ac)=>
some (ac)else none
def Dn:X.Cfg:=⟨E0,[],[(21,(Ua I64)),(22,(Ua I64))],[(lx 4 0 [Uc 2,Uc 3,sP 11 (Ub RI),Ud 12,Ud 13] [(4,uad),(6,uaa),(8,yac)] 14)]⟩
def nJ:Ctr:=⟨146,83,[.agg uad],[],[⟨yac,[.agg 2],[]⟩],ap2 lk⟩
theorem qp:Lk 1 nJ:=ls Dn aN
def jw(a0:List (Int))(a1:List LI)(a2:Int)(a3:Int):Option (LI×LLI×T01):=
(lk a0 a1).bind λ(x0,x1,_)=>
(bif(decide (a2<0))then(some (a2,true,(),(),x0,x1,()))else
bif(decide (a2>=4))then(some (a2,true,(),(),x0,x1,()))else
(eE a2).bind λx2=>
(dN a0 x2).bind λx3=>
some (a2,(x3 != a3),(),(),x0,x1,()):Option (T0T)).bind λ(x2,x3,x4,x5,x6,x7,_)=>
bif x3 then(some (x6,x7,(-1),false,()))else
(eE x2).bind λx8=>
(dN x6 x8).bind λx9=>
(dN x6 x8).bind λac=>
let ae:=List.modify x6 x8 λe=>(-1);
(eE x2).bind λaf=>
(dN x7 af).bind λag=>
(dN x7 af).bind λah=>
(dN x7 af).bind λai=>
let aj:=dR ai.length;
bif(decide (aj>0))then((eE x2).bind λak=>
(dN x7 ak).bind λam=>
(dN x7 ak).bind λan=>
(dN x7 ak).bind λap=>
(dN ap 0).bind λaq=>
(dN x7 ak).bind λav=>
(dN av 0).bind λax=>
(eE x2).bind λay=>
(dN ae ay).bind λaz=>
(dN ae ay).bind λaA=>
let aB:=List.modify ae ay λe=>ax;
(eE x2).bind λaD=>
(dN x7 aD).bind λaE=>
(dN x7 aD).bind λaF=>
(dN x7 aD).bind λaG=>
bif(ge 1 aG.length aG.length)then(dN x7 aD).bind λaH=>
(eE x2).bind λaI=>
(dN x7 aI).bind λaJ=>
(dN x7 aD).bind λaK=>
(dN x7 aI).bind λaL=>
let aM:=(List.modify x7 aI λe=>(mZ aK 1 (Nat.sub aG.length 1)));
(eE x2).bind λaO=>
(dN aB aO).bind λaP=>
some (aB,aM,aP,true,())else none)else
(eE x2).bind λak=>
(dN ae ak).bind λam=>
some (ae,x7,am,true,())
def Dl:X.Cfg:=⟨E0,[nJ],[],[⟨3,0,qE,[(.normal,qS [Ud 1,Uc 6,Uc 9,Ue 26] [(14,uaa),(20,yac)])]⟩]⟩
def nI:Ctr:=⟨128,84,[.agg uad,shU I64,shU I64],[],[⟨uL [RI,(Ub RI),I64,.bool],[.agg 2,.one,.one],[]⟩],ap4 jw⟩
theorem qn:Lk 2 nI:=ls Dl (aC qp aN)
def eu(a0:Int)(a1:Bool):Option (T1b):=
(bif(!a1)then(some (65535,0,0,0,0,(),0,false,()))else
some (a0,0,0,0,0,(),0,false,()):Option (Int×T1b)).bind λ(x0,_)=>
let x8:=wk .u16 x0;
some (0,x8,0,0,(),(-1),false,())
def Be:X.Cfg:=⟨E0,[],[],[⟨1,0,qE,[(.normal,qS [Ud 0,Uc 4] [(10,Xab)])]⟩]⟩
def kz:Ctr:=⟨147,85,uL [I64,.bool],[],[⟨Xab,[.agg 7],[]⟩],ap2 eu⟩
theorem md:Lk 1 kz:=ls Be aN
def mC:T2h->Option (T2h⊕((Int×T08)⊕(Int×Int×LLI×Int×Int×LI×T1y))):=λ(v0,v1,v2,v3,v4,v5,v6,v7,v8,v9,v10,v11,v12)=>
bif(decide (v7<v6))then((eE v7).bind λx0=>
(dN v5 x0).bind λx1=>
bif(x1==v1)then(some (.inr (.inl (2,v12))))else
let x2:=w64 (v7+1);
some (.inl (v0,v1,v2,v3,v4,v5,v6,x2,v8,v9,v10,v11,v12)))else
some (.inr (.inr (v0,v1,v2,v3,v4,v5,v6,v7,false,v8,v9,v10,v11,v12)))
def mB:T20->Option (T20⊕((Int×T08)⊕(Int×Int×T1X))):=λ(v0,v1,v2,v3,v4,v5)=>
bif(decide (v4<v3))then((eE v4).bind λx0=>
(dN v2 x0).bind λx1=>
let x2:=dR x1.length;
(match ej mC NN (v0,v1,v2,v3,v4,x1,x2,0,v5)with
|none=>none
|some (.inl (x3,x4,x5,_))=>
some (.inr (.inl (x3,x4,x5,())))
|some (.inr (x3,x4,x5,x6,x7,x8,x9,ac,ae,af))=>
let am:=w64 (x7+1);
some (.inl (x3,x4,x5,x6,am,af))))else
some (.inr (.inr (v0,v1,v2,v3,v4,false,v5)))
def ne(a0:List (Int))(a1:List LI)(a2:Int)(a3:Int):Option (LI×LLI×Int×Unit):=
(lk a0 a1).bind λ(x0,x1,_)=>
(bif(decide (a2<0))then(some (a2,a3,true,a0,a1,(),(),x0,x1,()))else
bif(decide (a2>=4))then(some (a2,a3,true,a0,a1,(),(),x0,x1,()))else
(eE a2).bind λx2=>
(dN a0 x2).bind λx3=>
some (a2,a3,(x3==a3),a0,a1,(),(),x0,x1,()):Option (T1y)).bind λ(x2,x3,x4,x5,x6,x7,x8,x9,ac,_)=>
bif x4 then(some (x9,ac,2,()))else
let ae:=dR x6.length;
(match ej mB NN (x2,x3,x6,ae,0,x5,x6,x7,x8,x9,ac,())with
|none=>none
|some (.inl (af,ag,ah,_))=>
some (ag,ah,af,())
|some (.inr (af,ag,ah,ai,aj,ak,am,an,ap,aq,av,ax,_))=>
(eE af).bind λay=>
(dN am ay).bind λaz=>
bif(az==(-1))then((eE af).bind λaA=>
(dN av aA).bind λaB=>
(dN av aA).bind λaD=>
let aE:=List.modify av aA λe=>ag;
some (aE,ax,0,()))else
(eE af).bind λaA=>
(dN ax aA).bind λaB=>
(dN ax aA).bind λaD=>
(dN ax aA).bind λaE=>
bif(dX 8 aE.length (List.length [ag]))then let aF:List (Int):=(List.append aE [ag]);
(eE af).bind λaG=>
(dN ax aG).bind λaH=>
(dN ax aG).bind λaI=>
bif(Nat.beq aG aA)then let aJ:List LI:=(List.modify ax aG λe=>aF);
some (av,aJ,1,())else none else none)
def Dk:X.Cfg:=⟨E0,[nJ],[],[⟨3,0,qE,[(.normal,qS [Ud 1,Ud 2,Uc 3,Uc 6,Uc 8,Ue 29] [(8,uad),(14,uaa),(18,yac)])]⟩,⟨13,1,qS [Ud 1,Ud 2,Uc 3,Uc 6,Uc 8,sP 32 (Ub RI),Ud 33,Ud 34,sP 38 RI,Ud 39,Ud 40] [(8,uad),(14,uaa),(18,yac)],[(.ret,qS [Uc 6,Ud 7] [(14,yac)]),(.exit 2,qS [Ud 1,Ud 2,Uc 3,Uc 6,Uc 8,sP 32 (Ub RI),Ud 33,Ud 34,sP 38 RI,Ud 39,Ud 40,Ue 41] [(8,uad),(14,uaa),(18,yac)])]⟩,⟨7,2,qS [Ud 1,Ud 2,Uc 3,Uc 6,Uc 8,sP 32 (Ub RI),Ud 33,Ud 34] [(8,uad),(14,uaa),(18,yac)],[(.ret,qS [Uc 6,Ud 7] [(14,yac)]),(.exit 0,qS [Ud 1,Ud 2,Uc 3,Uc 6,Uc 8,sP 32 (Ub RI),Ud 33,Ud 34,Ue 35] [(8,uad),(14,uaa),(18,yac)])]⟩]⟩
def vJ:Ctr:=⟨148,86,[.agg uad,shU I64,shU I64],[],[⟨uL [(Ua I64),(Ua (Ua I64)),I64],[.agg 2,.one],[]⟩],ap4 ne⟩
theorem CO:Lk 2 vJ:=ls Dk (aC qp aN)
def jU(a0:Int)(a1:Int)(a2:Int)(a3:Int)(a4:Int)(a5:Int)(a6:LDCn)(a7:LDCn):Option (Bool×Unit):=
bif(decide (a0>=0))then(bif(decide (a0<4))then(bif(decide (a1>=0))then(bif(decide (a1<=3))then(bif(decide (a2>=0))then(bif(decide (a2<=6))then(bif(decide (a3>=0))then(bif(decide (a3<=1099511627776))then(bif(decide (a4>=0))then(bif(decide (a4<=255))then(bif(decide (a5>=0))then(bif(decide (a5<=15))then((fv a6 3).bind λ(x0,_)=>
bif x0 then((fv a7 16).bind λ(x1,_)=>
some (x1,()))else
some (false,()))else
some (false,()))else
some (false,()))else
some (false,()))else
some (false,()))else
some (false,()))else
some (false,()))else
some (false,()))else
some (false,()))else
some (false,()))else
some (false,()))else
some (false,()))else
some (false,())
def Bm:X.Cfg:=⟨E0,[iV],[],[]⟩
def pa:Ctr:=⟨38,87,[.agg Uaa],[],[⟨Uh,[.one],[]⟩],ap8 jU⟩
theorem s9:Lk 3 pa:=ls Bm (aC kj aN)
def pT(a0:Int):Option (Bool×Unit):=
bif(decide (a0>=1))then(bif(decide (a0<=7))then(some (true,()))else
bif(a0==13)then(some (true,()))else
some ((a0==14),()))else
bif(a0==13)then(some (true,()))else
some ((a0==14),())
def Dc:X.Cfg:=⟨E0,[],[],[]⟩
def vE:Ctr:=⟨160,88,yab,[],[⟨Uh,[.one],[]⟩],ap1 pT⟩
theorem CJ:Lk 1 vE:=ls Dc aN
def gT:T27->Option (T27⊕((Bool×Unit)⊕(ByteArray×LDCn×Int×Int×Bool×T1m))):=λ(v0,v1,v2,v3,v4)=>
bif(decide (v3<v2))then((eE v3).bind λx0=>
(dN v1 x0).bind λx1=>
(eE v3).bind λx2=>
(zG v0 x2).bind λx3=>
(lm x3 x1.1).bind λ(x4,_)=>
bif(!x4)then(some (.inr (.inl (false,()))))else
let x5:=w64 (v3+1);
some (.inl (v0,v1,v2,x5,v4)))else
some (.inr (.inr (v0,v1,v2,v3,false,v4)))
def lR(a0:Int)(a1:Int)(a2:Int)(a3:Int)(a4:Int)(a5:Int)(a6:LDCn)(a7:LDCn):Option (Bool×Unit):=
(jT a5).bind λ(x0,_)=>
let x1:=Ap x0;
let x2:=dR a6.length;
bif(x1 != x2)then(some (false,()))else
let x3:=dR a6.length;
(match ej gT NN (x0,a6,x3,0,a0,a1,a2,a3,a4,a5,a6,a7,())with
|none=>none
|some (.inl (x4,_))=>
some (x4,())
|some (.inr (x4,_))=>
some (true,()))
def Bn:X.Cfg:=⟨E0,[mh,qH],[],[⟨7,0,qS [sP 3 .str,sP 16 eF,Ud 17,Ud 18] [(4,Uaa)],[(.ret,qS [Ue 2] []),(.exit 0,qS [sP 3 .str,sP 16 eF,Ud 17,Ud 18,Ue 19] [(4,Uaa)])]⟩]⟩
def tM:Ctr:=⟨161,89,[.agg Uaa],[],[⟨Uh,[.one],[]⟩],ap8 lR⟩
theorem AN:Lk 2 tM:=ls Bn (aC oU (aC vj aN))
def gI(a0:List LDCn)(a1:LDOp)(a2:Int):Option (Bool×Unit):=
bif(decide (a2>=0))then(let x0:Int:=(dR a1.length);
bif(decide (a2<x0))then((eE a2).bind λx1=>
(dN a1 x1).bind λx2=>
some ((x2.1 != (-1)),()))else
some (false,()))else
some (false,())
def Df:X.Cfg:=⟨E0,[],[],[]⟩
def lw:Ctr:=⟨178,90,[.agg zab,shU I64],[],[⟨Uh,[.one],[]⟩],ap3 gI⟩
theorem nD:Lk 1 lw:=ls Df aN
def pA:T23->Option (T23⊕(LDCn×Nat×Int×Int×Int×Bool×T16)):=λ(v0,v1,v2,v3,v4,v5,v6,v7,v8,v9,v10,_)=>
bif(decide (v4<v3))then(((dN v9 v1).bind λx0=>
let x1:=w64 (x0.2.1+v4);
let x2:=dR v10.length;
bif(decide (x1<x2))then((dN v9 v1).bind λx3=>
let x4:=w64 (x3.2.1+v4);
(eE v4).bind λx5=>
(dN v0 x5).bind λx6=>
(eE x4).bind λx7=>
(dN v10 x7).bind λx8=>
(dN v10 x7).bind λx9=>
let ac:=(List.modify v10 x7 λe=>(x6.1,(x6.2.1,(x6.2.2.1,x6.2.2.2))));
some (v0,v1,v2,v3,v4,v5,v6,v7,v8,v9,ac,()))else
(eE v4).bind λx3=>
(dN v0 x3).bind λx4=>
let x5:LDCn:=[(x4.1,(x4.2.1,(x4.2.2.1,x4.2.2.2)))];
bif(dX 24 v10.length x5.length)then let x6:LDCn:=(List.append v10 x5);
some (v0,v1,v2,v3,v4,v5,v6,v7,v8,v9,x6,())else none:Option (T23)).bind λ(x0,x1,x2,x3,x4,x5,x6,x7,x8,x9,ac,_)=>
let ae:=w64 (x4+1);
some (.inl (x0,x1,x2,x3,ae,x5,x6,x7,x8,x9,ac,())))else
some (.inr (v0,v1,v2,v3,v4,false,v5,v6,v7,v8,v9,v10,()))
def lP(a0:List LDCn)(a1:LDOp)(a2:Int)(a3:LDCn):Option (LLCn×LDOp×T01):=
(gd a0 a1).bind λ(x0,x1,_)=>
((gI a0 a1 a2).bind λ(x2,_)=>
bif(!x2)then(some (a2,a3,true,(),(),x0,x1,()))else
(eE a2).bind λx3=>
(dN a1 x3).bind λx4=>
bif(!x4.2.2)then(some (a2,a3,true,(),(),x0,x1,()))else
let x5:=dR a3.length;
(fv a3 x5).bind λ(x6,_)=>
some (a2,a3,(!x6),(),(),x0,x1,()):Option (Int×LDCn×T0G)).bind λ(x2,x3,x4,x5,x6,x7,x8,_)=>
bif x4 then(some (x7,x8,0,false,()))else
(eE x2).bind λx9=>
(dN x8 x9).bind λac=>
let ae:=dR x3.length;
(dN x8 x9).bind λaf=>
let ag:=w64 (64-af.2.1);
let ah:=mmR false ae ag;
(dN x8 x9).bind λai=>
(eE ai.1).bind λaj=>
(dN x7 aj).bind λak=>
(dN x7 aj).bind λam=>
(dN x7 aj).bind λan=>
(ej pA NN (x3,x9,ah,ah,0,x5,x6,x7,aj,x8,an,())).bind λ(ap,aq,av,ax,ay,az,aA,aB,aD,aE,aF,aG,_)=>
(dN aF aq).bind λaH=>
(eE aH.1).bind λaI=>
(dN aD aI).bind λaJ=>
(dN aD aI).bind λaK=>
bif(Nat.beq aI aE)then let aL:List LDCn:=(List.modify aD aI λe=>aG);
(dN aF aq).bind λaM=>
let aO:=w64 (aM.2.1+av);
(dN aF aq).bind λaP=>
let aQ:=(List.modify aF aq λe=>(e.1,(aO,e.2.2)));
some (aL,aQ,av,true,())else none
def Bh:X.Cfg:=⟨E0,[iG,lw,iV],[],[⟨3,0,qE,[(.normal,qS [Ud 1,sP 2 eF,Uc 6,Uc 9,Ue 35] [(14,uaa),(20,zac)])]⟩,⟨13,1,qE,[(.normal,(qS [sP 2 eF,Uc 6,Uc 9,(10,.ptr ⟨20,1,[((),(3,0))]⟩ [0,0]),Ud 11,Uf 12 27,Ud 57,Ud 58] [(14,uaa),(20,[.gap (Ua KCn) () () 0,shU (Ua KOp)]),(27,Zad)]))]⟩,(lx 10 2 [sP 2 eF,Uc 6,Uc 9,(10,.ptr ⟨20,1,[((),(3,0))]⟩ [0,0]),Ud 11,Uf 12 27,Ud 57,Ud 58] [(14,uaa),(20,[.gap (Ua KCn) () () 0,shU (Ua KOp)]),(27,Zad)] 59)]⟩
def tK:Ctr:=⟨162,91,[.agg zab,shU I64,shU eF],[],[⟨uL [(Ua (Ua KCn)),(Ua KOp),I64,.bool],[.agg 2,.one,.one],[]⟩],ap4 lP⟩
theorem AL:Lk 3 tK:=ls Bh (aC jD (aC nD (aC kj aN)))
def nc(a0:List LDCn)(a1:LDOp)(a2:Int)(a3:Int):Option ((LLCn×LDOp×Unit×Bool×Unit)⊕(LLCn×LDOp×LDCn×Bool×Unit)):=
(gd a0 a1).bind λ(x0,x1,_)=>
((gI a0 a1 a2).bind λ(x2,_)=>
bif(!x2)then(some (a2,a3,true,a0,a1,(),(),x0,x1,()))else
bif(decide (a3<0))then(some (a2,a3,true,a0,a1,(),(),x0,x1,()))else
(eE a2).bind λx3=>
(dN a1 x3).bind λx4=>
some (a2,a3,x4.2.2,a0,a1,(),(),x0,x1,()):Option (T1z)).bind λ(x2,x3,x4,x5,x6,x7,x8,x9,ac,_)=>
bif x4 then(some (.inl (x9,ac,(),false,())))else
(eE x2).bind λae=>
(dN ac ae).bind λaf=>
(dN ac ae).bind λag=>
(eE ag.1).bind λah=>
(dN x9 ah).bind λai=>
(dN x9 ah).bind λaj=>
(dN x9 ah).bind λak=>
let am:=dR ak.length;
(dN ac ae).bind λan=>
let ap:=w64 (am-an.2.1);
let aq:=mmR false x3 ap;
(dN ac ae).bind λav=>
(dN ac ae).bind λax=>
let ay:=w64 (ax.2.1+aq);
(eE av.2.1).bind λaz=>
(eE ay).bind λaA=>
bif(ge az aA ak.length)then let aB:LDCn:=(mZ ak az (Nat.sub aA az));
bif(dX 24 0 aB.length)then let aD:LDCn:=(List.append [] aB);
(dN ac ae).bind λaE=>
let aF:=w64 (aE.2.1+aq);
(dN ac ae).bind λaG=>
let aH:=(List.modify ac ae λe=>(e.1,(aF,e.2.2)));
some (.inr (x9,aH,aD,true,()))else none else none
def Dh:X.Cfg:=⟨E0,[iG,lw],[],[⟨3,0,qE,[(.normal,qS [Ud 1,Ud 2,Uc 6,Uc 9,Ue 31] [(8,zab),(14,uaa),(20,zac)])]⟩]⟩
def vH:Ctr:=⟨163,92,[.agg zab,shU I64,shU I64],[],[⟨uL [(Ua (Ua KCn)),(Ua KOp),N1,.bool],[.agg 2,.one,.one],[]⟩,⟨uL [(Ua eF),(Ua KOp),(Ua KCn),.bool],[.agg 2,.one,.one],[]⟩],ap4 nc⟩
theorem CM:Lk 2 vH:=ls Dh (aC jD (aC nD aN))
def pV:T1D->Option (T1D⊕(Int×T1z)):=λ(v0,v1,v2,v3,v4,v5)=>
let x0:=dR v4.length;
bif(decide (v2<x0))then((eE v2).bind λx1=>
(dN v4 x1).bind λx2=>
bif(x2.1 != (-1))then(let x3:Int:=(w64 (v2+1));
some (.inl (v0,v1,x3,v3,v4,v5)))else
some (.inr (v0,v1,v2,false,v3,v4,v5)))else
some (.inr (v0,v1,v2,false,v3,v4,v5))
def pU:T1B->Option (T1B⊕(Int×Int×T1l)):=λ(v0,v1,v2,v3,v4,v5,v6,v7,v8,_)=>
bif(decide (v4<v3))then(((eE v4).bind λx0=>
(dN v8 x0).bind λx1=>
(dN v8 x0).bind λx2=>
bif(x2.1==v0)then((eE v4).bind λx3=>
(dN v8 x3).bind λx4=>
(dN v8 x3).bind λx5=>
let x6:=(List.modify v8 x3 λe=>(e.1,(0,e.2.2)));
some (v0,v1,v2,v3,v4,v5,v6,v7,x6,()))else
some (v0,v1,v2,v3,v4,v5,v6,v7,v8,()):Option (T1B)).bind λ(x0,x1,x2,x3,x4,x5,x6,x7)=>
let x9:=w64 (x4+1);
some (.inl (x0,x1,x2,x3,x9,x5,x6,x7)))else
some (.inr (v0,v1,v2,v3,v4,false,v5,v6,v7,v8,()))
def nd(a0:List LDCn)(a1:LDOp)(a2:Int)(a3:Int):Option (LLCn×LDOp×Int×Unit):=
(gd a0 a1).bind λ(x0,x1,_)=>
(ej pV NN (a2,a3,0,a0,a1,(),(),x0,x1,())).bind λ(x2,x3,x4,x5,x6,x7,x8)=>
(bif(decide (x2<0))then(some (x2,x3,x4,true,x8))else
let af:=dR x6.length;
bif(decide (x2>=af))then(some (x2,x3,x4,true,x8))else
bif(decide (x3<0))then(some (x2,x3,x4,true,x8))else
bif(decide (x3>2))then(some (x2,x3,x4,true,x8))else
let ag:=dR x7.length;
some (x2,x3,x4,(x4==ag),x8):Option (T1l)).bind λ(af,ag,ah,ai,aj,ak,am,an,_)=>
bif ai then(some (am,an,(-1),()))else
bif(ag==1)then((eE af).bind λap=>
(dN am ap).bind λaq=>
(dN am ap).bind λav=>
let ax:=List.modify am ap λe=>[];
let ay:=dR an.length;
(ej pU NN (af,ag,ah,ay,0,aj,ak,ax,an,())).bind λ(az,aA,aB,aD,aE,aF,aG,aH,aI,aJ,_)=>
(eE aB).bind λaK=>
(dN aJ aK).bind λaL=>
(dN aJ aK).bind λaM=>
let aO:=(List.modify aJ aK λe=>(az,(0,(decide (aA>0)))));
(bif(aA==2)then((eE az).bind λaP=>
(dN aI aP).bind λaQ=>
(dN aI aP).bind λaR=>
(dN aI aP).bind λaS=>
let aT:=dR aS.length;
(eE aB).bind λaU=>
(dN aO aU).bind λaV=>
(dN aO aU).bind λaW=>
let aY:=(List.modify aO aU λe=>(e.1,(aT,e.2.2)));
some (aB,aG,aH,aI,aY,()))else
some (aB,aG,aH,aI,aO,()):Option (T0L)).bind λ(aP,aQ,aR,aS,aT,_)=>
some (aS,aT,aP,()))else
(eE ah).bind λap=>
(dN an ap).bind λaq=>
(dN an ap).bind λav=>
let ax:=(List.modify an ap λe=>(af,(0,(decide (ag>0)))));
(bif(ag==2)then((eE af).bind λay=>
(dN am ay).bind λaz=>
(dN am ay).bind λaA=>
(dN am ay).bind λaB=>
let aD:=dR aB.length;
(eE ah).bind λaE=>
(dN ax aE).bind λaF=>
(dN ax aE).bind λaG=>
let aH:=(List.modify ax aE λe=>(e.1,(aD,e.2.2)));
some (ah,aj,ak,am,aH,()))else
some (ah,aj,ak,am,ax,()):Option (T0L)).bind λ(ay,az,aA,aB,aD,_)=>
some (aB,aD,ay,())
def Di:X.Cfg:=⟨E0,[iG],[],[(lx 4 0 [Ud 1,Ud 2,Uc 3,Uc 6,Uc 8,Ud 9] [(8,zab),(14,uaa),(18,zac)] 26),⟨8,1,qE,[(.normal,qS [Ud 1,Ud 2,Uc 6,Uc 8,Ud 9,Ue 52] [(14,uaa),(18,zac)])]⟩,⟨17,2,qE,[(.normal,qS [Ud 1,Ud 2,Uc 6,Uc 8,Ud 9,Ud 62,Ud 63] [(14,uaa),(18,zac)])]⟩,⟨14,3,qS [Ud 1,Ud 2,Uc 6,Uc 8,Ud 9,Ud 62,Ud 63] [(14,uaa),(18,zac)],[(.exit 2,qS [Ud 1,Ud 2,Uc 6,Uc 8,Ud 9,Ud 62,Ud 63,Ue 64] [(14,uaa),(18,zac)])]⟩,⟨21,4,qE,[(.normal,qS [Uc 6,Uc 8,Ud 9] [(14,uaa),(18,zac)])]⟩]⟩
def vI:Ctr:=⟨164,93,[.agg zab,shU I64,shU I64],[],[⟨Uah,[.agg 2,.one],[]⟩],ap4 nd⟩
theorem CN:Lk 2 vI:=ls Di (aC jD aN)
def lQ(a0:List LDCn)(a1:LDOp)(a2:Int):Option (LLCn×LDOp×Bool×Unit):=
(gd a0 a1).bind λ(x0,x1,_)=>
(gI a0 a1 a2).bind λ(x2,_)=>
bif(!x2)then(some (x0,x1,false,()))else
(eE a2).bind λx3=>
(dN x1 x3).bind λx4=>
(dN x1 x3).bind λx5=>
let x6:=(List.modify x1 x3 λe=>((-1),(0,false)));
some (x0,x6,true,())
def Bj:X.Cfg:=⟨E0,[iG,lw],[],[]⟩
def tL:Ctr:=⟨165,94,[.agg zab,shU I64],[],[⟨Zah,[.agg 2,.one],[]⟩],ap3 lQ⟩
theorem AM:Lk 2 tL:=ls Bj (aC jD (aC nD aN))
def na(a0:List LDCn)(a1:LDOp)(a2:Int)(a3:Int):Option (LLCn×LDOp×Bool×Unit):=
(gd a0 a1).bind λ(x0,x1,_)=>
((gI a0 a1 a2).bind λ(x2,_)=>
bif(!x2)then(some (a2,a3,true,(),(),x0,x1,()))else
bif(decide (a3<0))then(some (a2,a3,true,(),(),x0,x1,()))else
(eE a2).bind λx3=>
(dN a1 x3).bind λx4=>
(eE x4.1).bind λx5=>
(dN a0 x5).bind λx6=>
let x7:=dR x6.length;
some (a2,a3,(decide (a3>x7)),(),(),x0,x1,()):Option (T18)).bind λ(x2,x3,x4,x5,x6,x7,x8,_)=>
bif x4 then(some (x7,x8,false,()))else
(eE x2).bind λx9=>
(dN x8 x9).bind λac=>
(dN x8 x9).bind λae=>
let af:=(List.modify x8 x9 λe=>(e.1,(x3,e.2.2)));
some (x7,af,true,())
def Dg:X.Cfg:=⟨E0,[iG,lw],[],[⟨3,0,qE,[(.normal,qS [Ud 1,Ud 2,Uc 6,Uc 8,Ue 33] [(14,uaa),(18,zac)])]⟩]⟩
def vG:Ctr:=⟨166,95,[.agg zab,shU I64,shU I64],[],[⟨Zah,[.agg 2,.one],[]⟩],ap4 na⟩
theorem CL:Lk 2 vG:=ls Dg (aC jD (aC nD aN))
def m9(a0:LDOu)(a1:Int)(a2:LDCn):Option (LDOu×T01):=
(jv a0).bind λ(x0,_)=>
(bif(decide (a1<0))then(some (a0,a1,a2,true,x0,()))else
bif(decide (a1>=2))then(some (a0,a1,a2,true,x0,()))else
let x1:=dR a0.length;
bif(decide (x1>=200))then(some (a0,a1,a2,true,x0,()))else
let x2:=dR a2.length;
some (a0,a1,a2,(decide (x2>16)),x0,()):Option (LDOu×Int×LDCn×Bool×LDOu×Unit)).bind λ(x1,x2,x3,x4,x5,_)=>
bif x4 then(some (x5,0,false,()))else
let x6:=dR x1.length;
bif(dX 24 0 x3.length)then let x7:LDCn:=(List.append [] x3);
let x8:LDOu:=[(x6,(x2,x7))];
bif(dX 40 x5.length x8.length)then let x9:LDOu:=(List.append x5 x8);
let ac:=dR x3.length;
some (x9,ac,true,())else none else none
def Dd:X.Cfg:=⟨E0,[qD],[(36,FC),(37,FC)],[⟨3,0,qE,[(.normal,qS [sP 0 kE,Ud 1,sP 2 eF,Uf 9 21,Ue 27] [(21,uah)])]⟩]⟩
def vF:Ctr:=⟨167,96,uL [kE,I64,eF],[],[⟨uL [(Ua FC),I64,.bool],[.one,.one,.one],[]⟩],ap3 m9⟩
theorem CK:Lk 2 vF:=ls Dd (aC vh aN)
def gc:T1d->Option (T1d⊕(Int×Int×LI×Int×Int×Bool×LLI×LDCn×Unit)):=λ(v0,v1,v2,v3,v4,v5,v6,_)=>
bif(decide (v4<v3))then((eE v4).bind λx0=>
(dN v2 x0).bind λx1=>
let x2:LDCn:=[(0,(x1,(0,0)))];
bif(dX 24 v6.length x2.length)then let x3:LDCn:=(List.append v6 x2);
let x4:=w64 (v4+1);
some (.inl (v0,v1,v2,v3,x4,v5,x3,()))else none)else
some (.inr (v0,v1,v2,v3,v4,false,v5,v6,()))
def jO(a0:List LI)(a1:Int)(a2:Int):Option ((LLI×Unit×Bool×Unit)⊕(LLI×LDCn×Bool×Unit)):=
(fK a0).bind λ(x0,_)=>
(bif(decide (a1<0))then(some (a0,a1,a2,true,x0,()))else
let x1:=dR a0.length;
bif(decide (a1>=x1))then(some (a0,a1,a2,true,x0,()))else
some (a0,a1,a2,(decide (a2<0)),x0,()):Option (LLI×Int×Int×Bool×LLI×Unit)).bind λ(x1,x2,x3,x4,x5,_)=>
bif x4 then(some (.inl (x5,(),false,())))else
(eE x2).bind λx6=>
(dN x1 x6).bind λx7=>
let x8:=dR x7.length;
let x9:=mmR false x3 x8;
(eE x2).bind λac=>
(dN x1 ac).bind λae=>
(eE x9).bind λaf=>
bif(ge 0 af ae.length)then let ag:List (Int):=(mZ ae 0 (Nat.sub af 0));
let ah:=dR ag.length;
(ej gc NN (x2,x9,ag,ah,0,x5,[],())).bind λ(ai,aj,ak,am,an,ap,aq,av,_)=>
(eE ai).bind λax=>
(dN aq ax).bind λay=>
(dN aq ax).bind λaz=>
(dN aq ax).bind λaA=>
(eE aj).bind λaB=>
bif(ge aB aA.length aA.length)then(dN aq ax).bind λaD=>
(eE ai).bind λaE=>
(dN aq aE).bind λaF=>
(dN aq ax).bind λaG=>
(dN aq aE).bind λaH=>
let aI:=(List.modify aq aE λe=>(mZ aG aB (Nat.sub aA.length aB)));
some (.inr (aI,av,true,()))else none else none
def xK:X.Cfg:=⟨E0,[ic],[],[⟨3,0,qE,[(.normal,qS [sP 0 (Ub RW),Ud 1,Ud 2,Uf 9 21,Ue 27] [(21,zag)])]⟩,(lx 9 1 [Ud 1,Uf 9 21,Ud 10,Uf 11 25,sP 41 RW,Ud 42,Ud 43] [(21,zag),(25,Zad)] 44)]⟩
def qB:Ctr:=⟨168,97,uL [(Ub RW),I64,I64],[],[⟨uL [(Ua (Ua CW)),N1,.bool],[.one,.one,.one],[]⟩,⟨uL [(Ua RW),(Ua KCn),.bool],[.one,.one,.one],[]⟩],ap3 jO⟩
theorem xt:Lk 2 qB:=ls xK (aC ki aN)
def sE:T2T->Option (T2T⊕(LDCn×Int×Int×Bool×T2N)):=λ(v0,v1,v2,v3,v4,v5,v6,v7,v8,v9,v10,v11,v12,v13,v14,v15,v16,v17,v18,v19,v20,v21,v22,v23,v24,v25,v26,v27,v28,v29,v30,v31,v32,v33,v34,v35,v36,_)=>
bif(decide (v2<v1))then((eE v2).bind λx0=>
(dN v0 x0).bind λx1=>
let x2:=wk .i64 x1.2.1;
(eE v2).bind λx3=>
(dN v36 x3).bind λx4=>
(dN v36 x3).bind λx5=>
let x6:=List.modify v36 x3 λe=>x2;
let x7:=w64 (v2+1);
some (.inl (v0,v1,x7,v3,v4,v5,v6,v7,v8,v9,v10,v11,v12,v13,v14,v15,v16,v17,v18,v19,v20,v21,v22,v23,v24,v25,v26,v27,v28,v29,v30,v31,v32,v33,v34,v35,x6,())))else
some (.inr (v0,v1,v2,false,v3,v4,v5,v6,v7,v8,v9,v10,v11,v12,v13,v14,v15,v16,v17,v18,v19,v20,v21,v22,v23,v24,v25,v26,v27,v28,v29,v30,v31,v32,v33,v34,v35,v36,()))
def nS(a0:List (Int))(a1:List (Int))(a2:List LI)(a3:List LDCn)(a4:LDOp)(a5:LDOu)(a6:Int)(a7:Int)(a8:Int)(a9:Int)(a10:Int)(a11:Int)(a12:LDCn)(a13:LDCn):Option (LI×LI×LLI×LLCn×LDOp×LDOu×Int×Int×Int×Int×LDCn×Int×Bool×Int×Unit):=
((iM a0 a1 a2 a3 a4 a5).bind λ(x0,_)=>
bif(!x0)then(some (true,a0,a1,a2,a3,a4,a5,a6,a7,a8,a9,a10,a11,a12,a13,(),(),(),(),(),(),0,0,0,0,(),0,false,()))else
(jU a6 a7 a8 a9 a10 a11 a12 a13).bind λ(x1,_)=>
bif(!x1)then(some (true,a0,a1,a2,a3,a4,a5,a6,a7,a8,a9,a10,a11,a12,a13,(),(),(),(),(),(),0,0,0,0,(),0,false,()))else
bif(a7 != 1)then(some (true,a0,a1,a2,a3,a4,a5,a6,a7,a8,a9,a10,a11,a12,a13,(),(),(),(),(),(),0,0,0,0,(),0,false,()))else
(pT a11).bind λ(x2,_)=>
bif(!x2)then(some (true,a0,a1,a2,a3,a4,a5,a6,a7,a8,a9,a10,a11,a12,a13,(),(),(),(),(),(),0,0,0,0,(),0,false,()))else
(lR a6 a7 a8 a9 a10 a11 a12 a13).bind λ(x3,_)=>
bif(!x3)then(some (true,a0,a1,a2,a3,a4,a5,a6,a7,a8,a9,a10,a11,a12,a13,(),(),(),(),(),(),0,0,0,0,(),0,false,()))else
(gY a11).bind λ(x4,_)=>
bif(x4==2)then((dN a12 2).bind λx5=>
some ((decide (x5.2.1>16)),a0,a1,a2,a3,a4,a5,a6,a7,a8,a9,a10,a11,a12,a13,(),(),(),(),(),(),0,0,0,0,(),0,false,()))else
some (false,a0,a1,a2,a3,a4,a5,a6,a7,a8,a9,a10,a11,a12,a13,(),(),(),(),(),(),0,0,0,0,(),0,false,()):Option (Bool×LI×LI×LLI×LLCn×LDOp×LDOu×Int×Int×Int×Int×Int×Int×LDCn×LDCn×Unit×Unit×Unit×Unit×Unit×Unit×T1b)).bind λ(x0,x1,x2,x3,x4,x5,x6,x7,x8,x9,ac,ae,af,ag,ah,ai,aj,ak,am,an,ap,aq,av,ax,ay,az,aA,aB,_)=>
bif x0 then(some ([],[],[],[],[],[],0,0,0,0,[],0,false,1,()))else
(m8 x1 x2 x3 x4 x5 x6).bind λ(aD,aE,aF,aG,aH,aI,_)=>
let aJ:List (Int):=[0,0,0];
let aK:=dR ag.length;
(ej sE NN (ag,aK,0,x1,x2,x3,x4,x5,x6,x7,x8,x9,ac,ae,af,ag,ah,ai,aj,ak,am,an,ap,aq,av,ax,ay,az,aA,aB,aD,aE,aF,aG,aH,aI,aJ,())).bind λ(aL,aM,aO,aP,aQ,aR,aS,aT,aU,aV,aW,aY,aZ,ba,bc,bd,bf,bg,bh,bi,bj,bk,bl,bm,bn,bo,bp,bq,bv,bz,bA,bB,bC,bD,bE,bF,bG,bH,_)=>
(eu 0 false).bind λ(bI,bJ,bK,bL,bM)=>
(match(bif(bd==1)then((dN bH 0).bind λbP=>
(dN bH 0).bind λbQ=>
(lP aT aU bQ bg).bind λ(bR,bS,bT,bU,_)=>
(eu bT bU).bind λ(bV,bW,bY,bZ,b8,b9,cc,_)=>
some (.inl (bh,bi,bj,bk,bl,bm,bn,bo,bp,bq,bv,bz,bA,bB,bC,bD,bR,bS,bG,bV,bW,bY,bZ,[],b9,cc,())))else
bif(bd==2)then((dN bH 0).bind λbP=>
(dN bH 0).bind λbQ=>
(dN bH 2).bind λbR=>
(dN bH 2).bind λbS=>
(match nc aT aU bQ bS with
|none=>none
|some (.inl (bT,bU,bV,bW,_))=>
(eu 0 bW).bind λ(bY,bZ,b8,b9,cc,cd,cf,_)=>
some (.inl (bh,bi,bj,bk,bl,bm,bn,bo,bp,bq,bv,bz,bA,bB,bC,bD,bT,bU,bG,bY,bZ,b8,b9,[],cd,cf,()))
|some (.inr (bT,bU,bV,bW,_))=>
let bY:=dR bV.length;
(eu bY bW).bind λ(bZ,b8,b9,cc,cd,cf,cg,_)=>
some (.inl (bh,bi,bj,bk,bl,bm,bn,bo,bp,bq,bv,bz,bA,bB,bC,bD,bT,bU,bG,bZ,b8,b9,cc,bV,cf,cg,()))))else
bif(bd==3)then((dN bH 0).bind λbP=>
(dN bH 0).bind λbQ=>
(dN bH 1).bind λbR=>
(dN bH 1).bind λbS=>
(nd aT aU bQ bS).bind λ(bT,bU,bV,_)=>
bif(decide (bV>=0))then(let bW:Int:=(wk .u16 bV);
some (.inr (.inl (bh,bi,bj,bk,bl,bm,bn,bo,bp,bq,bv,bz,bA,bB,bC,bD,bT,bU,bG,2,bW,0,0,bM))))else
some (.inr (.inl (bh,bi,bj,bk,bl,bm,bn,bo,bp,bq,bv,bz,bA,bB,bC,bD,bT,bU,bG,bI,bJ,bK,bL,bM))))else
bif(bd==4)then((dN bH 0).bind λbP=>
(dN bH 0).bind λbQ=>
(lQ aT aU bQ).bind λ(bR,bS,bT,_)=>
(eu 0 bT).bind λ(bU,bV,bW,bY,bZ,b8,b9,_)=>
some (.inl (bh,bi,bj,bk,bl,bm,bn,bo,bp,bq,bv,bz,bA,bB,bC,bD,bR,bS,bG,bU,bV,bW,bY,[],b8,b9,())))else
bif(bd==5)then((dN bH 0).bind λbP=>
(dN bH 0).bind λbQ=>
(dN bH 1).bind λbR=>
(dN bH 1).bind λbS=>
(na aT aU bQ bS).bind λ(bT,bU,bV,_)=>
(eu 0 bV).bind λ(bW,bY,bZ,b8,b9,cc,cd,_)=>
some (.inl (bh,bi,bj,bk,bl,bm,bn,bo,bp,bq,bv,bz,bA,bB,bC,bD,bT,bU,bG,bW,bY,bZ,b8,[],cc,cd,())))else
bif(bd==6)then(let bP:Int:=(dR aQ.length);
bif(decide (bP>0))then((dN aQ 0).bind λbQ=>
let bR:=wk .i64 bQ;
(eu bR true).bind λ(bS,bT,bU,bV,bW,bY,bZ,_)=>
bif(ge 1 bB.length bB.length)then let b8:List (Int):=(mZ bB 1 (Nat.sub bB.length 1));
some (.inr (.inr (.inl (bh,bi,bj,bk,bl,bm,bn,bo,bp,bq,bv,bz,bA,b8,bC,bD,bE,bF,bG,bS,bT,bU,bV,bW,bY,bZ,()))))else none)else
some (.inr (.inl (bh,bi,bj,bk,bl,bm,bn,bo,bp,bq,bv,bz,bA,bB,bC,bD,bE,bF,bG,bI,bJ,bK,bL,bM))))else
bif(bd==7)then(let bP:Int:=(dR aR.length);
bif(decide (bP>0))then((dN aR 0).bind λbQ=>
let bR:=wk .i64 bQ;
(eu bR true).bind λ(bS,bT,bU,bV,bW,bY,bZ,_)=>
bif(ge 1 bC.length bC.length)then let b8:List (Int):=(mZ bC 1 (Nat.sub bC.length 1));
some (.inr (.inr (.inr (.inl (bh,bi,bj,bk,bl,bm,bn,bo,bp,bq,bv,bz,bA,bB,b8,bD,bE,bF,bG,bS,bT,bU,bV,bW,bY,bZ,())))))else none)else
some (.inr (.inl (bh,bi,bj,bk,bl,bm,bn,bo,bp,bq,bv,bz,bA,bB,bC,bD,bE,bF,bG,bI,bJ,bK,bL,bM))))else
bif(bd==13)then((dN bH 0).bind λbP=>
(dN bH 0).bind λbQ=>
(m9 aV bQ bg).bind λ(bR,bS,bT,_)=>
(eu bS bT).bind λ(bU,bV,bW,bY,bZ,b8,b9,_)=>
some (.inr (.inl (bh,bi,bj,bk,bl,bm,bn,bo,bp,bq,bv,bz,bA,bB,bC,bD,bE,bF,bR,bU,bV,bW,bY,bZ,b8,b9,()))))else
bif(bd==14)then((dN bH 0).bind λbP=>
(dN bH 0).bind λbQ=>
(dN bH 2).bind λbR=>
(dN bH 2).bind λbS=>
(match jO aS bQ bS with
|none=>none
|some (.inl (bT,bU,bV,_))=>
(eu 0 bV).bind λ(bW,bY,bZ,b8,b9,cc,cd,_)=>
some (.inr (.inl (bh,bi,bj,bk,bl,bm,bn,bo,bp,bq,bv,bz,bA,bB,bC,bT,bE,bF,bG,bW,bY,bZ,b8,bU,cc,cd,())))
|some (.inr (bT,bU,bV,_))=>
let bW:=dR bU.length;
(eu bW bV).bind λ(bY,bZ,b8,b9,cc,cd,cf,_)=>
some (.inr (.inr (.inr (.inr (bh,bi,bj,bk,bl,bm,bn,bo,bp,bq,bv,bz,bA,bB,bC,bT,bE,bF,bG,bY,bZ,b8,b9,bU,cd,cf,())))))))else
some (.inr (.inl (bh,bi,bj,bk,bl,bm,bn,bo,bp,bq,bv,bz,bA,bB,bC,bD,bE,bF,bG,bI,bJ,bK,bL,bM))):Option (T2H⊕(T2I⊕(T2I⊕(T2I⊕T2H)))))with
|none=>none
|some (.inl (bP,bQ,bR,bS,bT,bU,bV,bW,bY,bZ,b8,b9,cc,cd,cf,cg,ch,ci,cj,cl,cn,cq,cr,cu,cw,cx,_))=>
some (cd,cf,cg,ch,ci,cj,cl,cn,cq,cr,cu,cw,cx,0,())
|some (.inr (.inl (bP,bQ,bR,bS,bT,bU,bV,bW,bY,bZ,b8,b9,cc,cd,cf,cg,ch,ci,cj,cl,cn,cq,cr,cu,cw,cx,_)))=>
some (cd,cf,cg,ch,ci,cj,cl,cn,cq,cr,[],cw,cx,0,())
|some (.inr (.inr (.inl (bP,bQ,bR,bS,bT,bU,bV,bW,bY,bZ,b8,b9,cc,cd,cf,cg,ch,ci,cj,cl,cn,cq,cr,cu,cw,cx,_))))=>
some (cd,cf,cg,ch,ci,cj,cl,cn,cq,cr,[],cw,cx,0,())
|some (.inr (.inr (.inr (.inl (bP,bQ,bR,bS,bT,bU,bV,bW,bY,bZ,b8,b9,cc,cd,cf,cg,ch,ci,cj,cl,cn,cq,cr,cu,cw,cx,_)))))=>
some (cd,cf,cg,ch,ci,cj,cl,cn,cq,cr,[],cw,cx,0,())
|some (.inr (.inr (.inr (.inr (bP,bQ,bR,bS,bT,bU,bV,bW,bY,bZ,b8,b9,cc,cd,cf,cg,ch,ci,cj,cl,cn,cq,cr,cu,cw,cx,_)))))=>
some (cd,cf,cg,ch,ci,cj,cl,cn,cq,cr,cu,cw,cx,0,()))
def HN:X.Cfg:=⟨E0,[mg,pa,vE,tM,i8,qA,kz,tK,vH,vI,tL,vG,vF,qB],[],[⟨2,0,qE,[(.normal,qS [Uc 2,Uc 3,Uc 4,Uc 5,Ue 67] [(6,Xad),(8,Uaa),(10,uaf),(12,Xab)])]⟩,(lx 8 1 [Uc 2,Uc 3,Uc 4,Uc 5,Uc 7,Uf 8 19,sP 74 eF,Ud 75,Ud 76] [(6,Xad),(8,Uaa),(10,uaf),(12,Xab),(16,yah),(19,zaa)] 77),⟨14,2,qE,[(.normal,(qS [Uc 4,Uc 5,Uc 7,Uc 11] [(10,uaf),(12,Xab),(16,uL [(Ua CW),(Ua CW),(Ua (Ua CW)),(Ub eF),ii,(Ua FC)]),(24,Xaf)])),(.normal,qS [Uc 4,Uc 5,Uc 7,Uc 11] [(10,uaf),(12,Xab),(16,yah),(24,Xab)]),(.normal,(qS [Uc 4,Uc 5,Uc 7,Uc 11] [(10,uaf),(12,Xab),(16,uL [RW,(Ua CW),(Ua (Ua CW)),(Ua (Ua KCn)),(Ua KOp),(Ua FC)]),(24,Xab)])),(.normal,(qS [Uc 4,Uc 5,Uc 7,Uc 11] [(10,uaf),(12,Xab),(16,uL [(Ua CW),RW,(Ua (Ua CW)),(Ua (Ua KCn)),(Ua KOp),(Ua FC)]),(24,Xab)])),(.normal,(qS [Uc 4,Uc 5,Uc 7,Uc 11] [(10,uaf),(12,Xab),(16,uL [(Ua CW),(Ua CW),(Ua RW),(Ua (Ua KCn)),(Ua KOp),(Ua FC)]),(24,Xaf)]))]⟩]⟩
def Ag:Ctr:=⟨149,98,[.agg Xad,.agg Uaa],[],[⟨uL [RW,RW,(Ub RW),(Ub eF),ii,kE,CB,CW,I64,I64,eF,I64,.bool,I64],[.agg 6,.agg 7,.one],[]⟩],ap14 nS⟩
theorem HD:Lk 5 Ag:=ls HN (aC oT (aC s9 (aC CJ (aC AN (aC kX (aC vg (aC md (aC AL (aC CM (aC CN (aC AM (aC CL (aC CK (aC xt aN))))))))))))))
def jL:T2K->Option (T2K⊕(T2D⊕(LDTh×Int×Int×Bool×T2D))):=λ(v0,v1,v2,v3,v4,v5,v6,v7,v8,v9,v10,v11,v12,v13,v14,v15,v16,v17,v18,v19,v20,v21)=>
bif(decide (v2<v1))then((eE v2).bind λx0=>
(dN v0 x0).bind λx1=>
bif(x1.1==0)then((eu v2 true).bind λ(x2,x3,x4,x5,x6,x7,x8,_)=>
some (.inr (.inl (v3,v4,v5,v6,v7,v8,v9,v10,v11,v12,v13,v14,v15,v16,v17,v18,v19,v20,x2,x3,x4,x5,x6,v2,x8,()))))else
let x2:=w64 (v2+1);
some (.inl (v0,v1,x2,v3,v4,v5,v6,v7,v8,v9,v10,v11,v12,v13,v14,v15,v16,v17,v18,v19,v20,v21)))else
some (.inr (.inr (v0,v1,v2,false,v3,v4,v5,v6,v7,v8,v9,v10,v11,v12,v13,v14,v15,v16,v17,v18,v19,v20,v21)))
def jM(a0:Int)(a1:Int)(a2:Int)(a3:Int)(a4:Int)(a5:Int)(a6:LDCn)(a7:LDCn)(a8:LDIn)(a9:List (Int))(a10:List LI)(a11:List (Int))(a12:Int)(a13:LDCe)(a14:LDLn)(a15:LDTh)(a16:List (Int))(a17:List (Int))(a18:List LI)(a19:List LDCn)(a20:LDOp)(a21:LDOu)(a22:List (Int))(a23:List LI)(a24:LDEn)(a25:List (Int)):Option (Int×Int×Int×Int×LDCn×T2y):=
(bif(a5==0)then(some (a5,true,a8,a9,a10,a11,a12,a13,a14,a15,a16,a17,a18,a19,a20,a21,a22,a23,a24,a25,a0,a1,a2,a3,a4,a5,a6,a7,0,0,0,0,(),0,false,()))else
bif(a5==12)then(some (a5,true,a8,a9,a10,a11,a12,a13,a14,a15,a16,a17,a18,a19,a20,a21,a22,a23,a24,a25,a0,a1,a2,a3,a4,a5,a6,a7,0,0,0,0,(),0,false,()))else
some (a5,(a5==15),a8,a9,a10,a11,a12,a13,a14,a15,a16,a17,a18,a19,a20,a21,a22,a23,a24,a25,a0,a1,a2,a3,a4,a5,a6,a7,0,0,0,0,(),0,false,()):Option (T2O)).bind λ(x0,x1,x2,x3,x4,x5,x6,x7,x8,x9,ac,ae,af,ag,ah,ai,aj,ak,am,an,ap,aq,av,ax,ay,az,aA,aB,aD)=>
bif x1 then((eu 0 true).bind λ(aK,aL,aM,aO,aP,aQ,aR,_)=>
some (aK,aL,aM,aO,[],aQ,aR,x2,x3,x4,x5,x6,x7,x8,x9,ac,ae,af,ag,ah,ai,aj,ak,am,an,()))else
bif(x0==8)then((dN aA 0).bind λaK=>
let aL:=wk .i64 aK.2.1;
(ne aj ak aL ap).bind λ(aM,aO,aP,_)=>
(eu 0 (aP != 2)).bind λ(aQ,aR,aS,aT,aU,aV,aW,_)=>
some (aQ,aR,aS,aT,[],aV,(aP==1),x2,x3,x4,x5,x6,x7,x8,x9,ac,ae,af,ag,ah,ai,aM,aO,am,an,()))else
bif(x0==9)then((dN aA 0).bind λaK=>
let aL:=wk .i64 aK.2.1;
(jw aj ak aL ap).bind λ(aM,aO,aP,aQ,_)=>
(eu 0 aQ).bind λ(aR,aS,aT,aU,aV,aW,aY,_)=>
some (aR,aS,aT,aU,[],aW,aY,x2,x3,x4,x5,x6,x7,x8,x9,ac,ae,af,ag,ah,ai,aM,aO,am,an,()))else
bif(x0==10)then(let aK:Int:=(dR x9.length);
(match ej jL NN (x9,aK,0,x2,x3,x4,x5,x6,x7,x8,x9,ac,ae,af,ag,ah,ai,aj,ak,am,an,aD)with
|none=>none
|some (.inl (aL,aM,aO,aP,aQ,aR,aS,aT,aU,aV,aW,aY,aZ,ba,bc,bd,bf,bg,bh,bi,bj,bk,bl,bm,bn,_))=>
some (bh,bi,bj,bk,[],bm,bn,aL,aM,aO,aP,aQ,aR,aS,aT,aU,aV,aW,aY,aZ,ba,bc,bd,bf,bg,())
|some (.inr (aL,aM,aO,aP,aQ,aR,aS,aT,aU,aV,aW,aY,aZ,ba,bc,bd,bf,bg,bh,bi,bj,bk,bl,bm,bn,bo,bp,bq,bv,_))=>
(eu 0 false).bind λ(bz,bA,bB,bC,bD,bE,bF,_)=>
some (bz,bA,bB,bC,[],bE,bF,aQ,aR,aS,aT,aU,aV,aW,aY,aZ,ba,bc,bd,bf,bg,bh,bi,bj,bk,())))else
bif(x0==11)then((dN aA 0).bind λaK=>
let aL:=wk .i64 aK.2.1;
(bif(aL==ap)then(some (aL,true,x2,x3,x4,x5,x6,x7,x8,x9,ac,ae,af,ag,ah,ai,aj,ak,am,an,ap,aq,av,ax,ay,az,aA,aB,aD))else
bif(decide (aL>=4))then(some (aL,true,x2,x3,x4,x5,x6,x7,x8,x9,ac,ae,af,ag,ah,ai,aj,ak,am,an,ap,aq,av,ax,ay,az,aA,aB,aD))else
(eE aL).bind λaM=>
(dN x9 aM).bind λaO=>
some (aL,(aO.1==0),x2,x3,x4,x5,x6,x7,x8,x9,ac,ae,af,ag,ah,ai,aj,ak,am,an,ap,aq,av,ax,ay,az,aA,aB,aD):Option (T2O)).bind λ(aM,aO,aP,aQ,aR,aS,aT,aU,aV,aW,aY,aZ,ba,bc,bd,bf,bg,bh,bi,bj,bk,bl,bm,bn,bo,bp,bq,bv,bz,bA,bB,bC,bD,bE,bF,_)=>
bif aO then((eu 0 false).bind λ(bG,bH,bI,bJ,bK,bL,bM,_)=>
some (bG,bH,bI,bJ,[],bL,bM,aP,aQ,aR,aS,aT,aU,aV,aW,aY,aZ,ba,bc,bd,bf,bg,bh,bi,bj,()))else
(eE aM).bind λbG=>
(dN aW bG).bind λbH=>
bif(bH.1==4)then(let bI:Int:=(wk .i64 bH.2.2.2.2.2.2.2);
(eu bI true).bind λ(bJ,bK,bL,bM,bN,bO,bP,_)=>
some (bJ,bK,bL,bM,[],bO,bP,aP,aQ,aR,aS,aT,aU,aV,aW,aY,aZ,ba,bc,bd,bf,bg,bh,bi,bj,()))else
(eE bk).bind λbI=>
(dN bj bI).bind λbJ=>
(dN bj bI).bind λbK=>
let bL:=List.modify bj bI λe=>aM;
(eu 0 true).bind λ(bM,bN,bO,bP,bQ,bR,bS,_)=>
some (bM,bN,bO,bP,[],bR,true,aP,aQ,aR,aS,aT,aU,aV,aW,aY,aZ,ba,bc,bd,bf,bg,bh,bi,bL,()))else
(nS ac ae af ag ah ai ap aq av ax ay az aA aB).bind λ(aK,aL,aM,aO,aP,aQ,aR,aS,aT,aU,aV,aW,aY,aZ,_)=>
some (aR,aS,aT,aU,aV,aW,aY,x2,x3,x4,x5,x6,x7,x8,x9,aK,aL,aM,aO,aP,aQ,aj,ak,am,an,())
def xJ:X.Cfg:=⟨E0,[kz,vJ,nI,Ag],[],[⟨3,0,qE,[(.normal,qS [Uc 0,Uc 3,Uc 4,Ud 21,Ue 22] [(2,Xaa),(8,Uaa),(10,Xab)])]⟩,⟨20,1,qS [Uc 0,Uc 4,sP 87 jt,Ud 88,Ud 89] [(2,Xaa),(10,Xab)],[(.ret,qS [Uc 0,Uc 4] [(2,Xaa),(10,Xab)]),(.exit 1,qS [Uc 0,Uc 4,sP 87 jt,Ud 88,Ud 89,Ue 90] [(2,Xaa),(10,Xab)])]⟩,⟨33,2,qE,[(.normal,qS [Uc 0,Uc 3,Uc 4,Ud 14,Ue 131] [(2,Xaa),(8,Uaa),(10,Xab)])]⟩]⟩
def qy:Ctr:=⟨129,99,[.ptr ⟨2,0,[]⟩ [0],.agg Uaa],[(2,Xaa)],[⟨Xac,[.agg 7],[(2,Xaa)]⟩],ap26 jM⟩
theorem xr:Lk 6 qy:=ls xJ (aC md (aC CO (aC qn (aC HD aN))))
def jS(a0:Int)(a1:Int)(a2:Int)(a3:Int)(a4:LDCn)(a5:Int)(a6:Bool):Option (Bool×Unit):=
(gJ a0 a1 a2 a3).bind λ(x0,_)=>
bif x0 then((fv a4 16).bind λ(x1,_)=>
bif x1 then(bif(decide (a5>=(-1)))then(some ((decide (a5<4)),()))else
some (false,()))else
some (false,()))else
some (false,())
def Bk:X.Cfg:=⟨E0,[qI,iV],[],[]⟩
def o9:Ctr:=⟨40,100,[.agg Xac],[],[⟨Uh,[.one],[]⟩],ap7 jS⟩
theorem s8:Lk 3 o9:=ls Bk (aC vk (aC kj aN))
def iA(a0:List (Int))(a1:Int)(a2:List (Int))(a3:Int)(a4:Int)(a5:Int)(a6:Int):Option (T0d):=
(gZ a2 a3 a4 a5 a6).bind λ(x0,_)=>
bif(!x0)then(some (0,0,1,()))else
bif(a3==0)then(some (0,a4,0,()))else
bif(a3==2)then(let x1:Int:=(wk .u16 (a4+a1));
some (2,x1,0,()))else
(eE a5).bind λx1=>
(dN a0 x1).bind λx2=>
let x3:=w64 (x2+a6);
let x4:=wk .u16 x3;
some (1,x4,0,())
def E3:X.Cfg:=⟨E0,[kZ],[],[]⟩
def sx:Ctr:=⟨169,101,[.agg yaa,shU RI,.agg Uad],[],[⟨Xag,[.agg 2,.one],[]⟩],ap7 iA⟩
theorem xA:Lk 3 sx:=ls E3 (aC nM aN)
def j3(a0:List (Int))(a1:Int)(a2:List (Int))(a3:Int)(a4:Int):Option (T02):=
(fT a2 a3 a4).bind λ(x0,_)=>
bif(!x0)then(some (0,6,()))else
(eE a3).bind λx1=>
(dN a0 x1).bind λx2=>
let x3:=w64 (x2+a4);
some (x3,0,())
def xP:X.Cfg:=⟨E0,[i9],[],[]⟩
def qO:Ctr:=⟨170,102,[.agg yaa,shU RI,.agg uab],[],[⟨uab,[.one,.one],[]⟩],ap5 j3⟩
theorem xB:Lk 2 qO:=ls xP (aC kY aN)
def sF:Option (T1t):=
bif(pM 8 8 2)then let x0:LDCe:=(List.replicate 8 (0,0));
some (0,x0,0,0,(-1),(-1),0,0,())else none
def Bu:X.Cfg:=⟨E0,[],[],[]⟩
def tR:Ctr:=⟨179,103,[],[],[⟨Uaf,[.agg 8],[]⟩],λh=>sF⟩
theorem AS:Lk 1 tR:=ls Bu aN
def oJ(a0:Int)(a1:Int)(a2:Int):Option (T1t):=
(sF).bind λ(x0,x1,x2,x3)=>
(dN x1 0).bind λx8=>
(dN x1 0).bind λx9=>
let ac:=List.modify x1 0 λe=>(a1,a2);
some (1,ac,a0,x3)
def EZ:X.Cfg:=⟨E0,[tR],[],[]⟩
def yu:Ctr:=⟨171,104,[shU I64,.agg Uj],[],[⟨Uaf,[.agg 8],[]⟩],ap3 oJ⟩
theorem EO:Lk 2 yu:=ls EZ (aC AS aN)
def kP:T2L->Option (T2L⊕(T0S⊕T2M)):=λ(v0,v1,v2,v3,v4,v5,v6,v7,v8,v9,v10,v11,v12,v13,v14,v15,v16,v17,v18,v19,v20,v21,v22,v23,v24,v25,v26,v27,v28,v29,v30,_)=>
bif(decide (v3<v2))then((eE v3).bind λx0=>
(dN v1 x0).bind λx1=>
(iA v4 v5 v10 x1.1 x1.2.1 x1.2.2.1 x1.2.2.2).bind λ(x2,x3,x4,_)=>
bif(x4 != 0)then(some (.inr (.inl (false,v4,v5,v6,v7,v8,()))))else
(fT v10 v29 v30).bind λ(x5,_)=>
bif(!x5)then(some (.inr (.inl (false,v4,v5,v6,v7,v8,()))))else
(j3 v4 v5 v10 v29 v30).bind λ(x6,x7,_)=>
(jY x6 x2 x3 v6 v7).bind λ(x8,x9,_)=>
let ac:=w64 (v30+1);
let ae:=w64 (v3+1);
some (.inl (v0,v1,v2,ae,v4,v5,x8,x9,v8,v9,v10,v11,v12,v13,v14,v15,v16,v17,v18,v19,v20,v21,v22,v23,v24,v25,v26,v27,v28,v29,ac,())))else
some (.inr (.inr (v0,v1,v2,v3,false,v4,v5,v6,v7,v8,v9,v10,v11,v12,v13,v14,v15,v16,v17,v18,v19,v20,v21,v22,v23,v24,v25,v26,v27,v28,v29,v30,())))
def oG(a0:LDIn)(a1:List (Int))(a2:List LI)(a3:Int)(a4:Int)(a5:Int)(a6:Int)(a7:Int)(a8:Int)(a9:LDCn)(a10:LDCn)(a11:Int)(a12:Int)(a13:Int)(a14:Int)(a15:LDCn)(a16:Int)(a17:Bool)(a18:List (Int))(a19:Int)(a20:LDCe)(a21:LDLn)(a22:LDTh):Option (T0S):=
(eE a3).bind λx0=>
(dN a22 x0).bind λx1=>
(iA a18 a19 a1 a11 a12 a13 a14).bind λ(x2,x3,x4,_)=>
bif(x4 != 0)then(some (false,a18,a19,a20,a21,a22,()))else
(match((gY a8).bind λ(x5,_)=>
bif(x5==2)then(let x6:Int:=(dR a15.length);
bif(decide (x6>0))then((dN a9 1).bind λx7=>
(dN a9 1).bind λx8=>
(dN a9 1).bind λx9=>
(gZ a1 x9.1 x9.2.1 x9.2.2.1 x9.2.2.2).bind λ(ac,_)=>
bif(!ac)then(some (.inl (false,a18,a19,a20,a21,a22,())))else
(dN a9 1).bind λae=>
bif(ae.1 != 1)then(some (.inl (false,a18,a19,a20,a21,a22,())))else
let af:=dR a15.length;
(match ej kP NN (x0,a15,af,0,a18,a19,a20,a21,a22,a0,a1,a2,a3,a4,a5,a6,a7,a8,a9,a10,a11,a12,a13,a14,a15,a16,a17,x2,x3,x7.2.2.1,x8.2.2.2,())with
|none=>none
|some (.inl (ag,ah,ai,aj,ak,am,_))=>
some (.inl (ag,ah,ai,aj,ak,am,()))
|some (.inr (ag,ah,ai,aj,ak,am,an,ap,aq,av,ax,ay,az,aA,aB,aD,aE,aF,aG,aH,aI,aJ,aK,aL,aM,aO,aP,aQ,aR,aS,aT,aU,_))=>
some (.inr (.inl (ag,ah,ai,aj,ak,am,an,ap,aq,av,ax,ay,az,aA,aB,aD,aE,aF,aG,aH,aI,aJ,aK,aL,aM,aO,aP,aQ,aR,aS,aT,aU,())))))else
some (.inr (.inr (x0,false,a18,a19,a20,a21,a22,a0,a1,a2,a3,a4,a5,a6,a7,a8,a9,a10,a11,a12,a13,a14,a15,a16,a17,x2,x3,()))))else
some (.inr (.inr (x0,false,a18,a19,a20,a21,a22,a0,a1,a2,a3,a4,a5,a6,a7,a8,a9,a10,a11,a12,a13,a14,a15,a16,a17,x2,x3,()))):Option (T0S⊕(T2M⊕(Nat×Bool×T2E))))with
|none=>none
|some (.inl (x5,x6,x7,x8,x9,ac,_))=>
some (x5,x6,x7,x8,x9,ac,())
|some (.inr (.inl (x5,x6,x7,x8,x9,ac,ae,af,ag,ah,ai,aj,ak,am,an,ap,aq,av,ax,ay,az,aA,aB,aD,aE,aF,aG,aH,aI,aJ,aK,aL,_)))=>
(match(bif(ax==12)then((dN ay 0).bind λaM=>
let aO:=wk .i64 aM.2.1;
bif(decide (aO>255))then(some (.inl (false,ac,ae,af,ag,ah,())))else
(dN ay 0).bind λaP=>
bif(aP.1 != 0)then(some (.inl (false,ac,ae,af,ag,ah,())))else
(dN ay 0).bind λaQ=>
let aR:=wk .i64 aQ.2.1;
(dN ah x5).bind λaS=>
let aT:=(List.modify ah x5 λe=>(e.1,(e.2.1,(e.2.2.1,(e.2.2.2.1,(aR,e.2.2.2.2.2))))));
some (.inr (x5,ac,ae,af,ag,aT,ai,aj,ak,am,an,ap,aq,av,ax,ay,az,aA,aB,aD,aE,aF,aG,aH,aI,aJ,())))else
some (.inr (x5,ac,ae,af,ag,ah,ai,aj,ak,am,an,ap,aq,av,ax,ay,az,aA,aB,aD,aE,aF,aG,aH,aI,aJ,())):Option (T0S⊕T2G))with
|none=>none
|some (.inl (aM,aO,aP,aQ,aR,aS,_))=>
some (aM,aO,aP,aQ,aR,aS,())
|some (.inr (aM,aO,aP,aQ,aR,aS,aT,aU,aV,aW,aY,aZ,ba,bc,bd,bf,bg,bh,bi,bj,bk,bl,bm,bn,bo,bp,_))=>
(match(bif(bd==10)then(bif(decide (bm>=0))then((dN bf 1).bind λbq=>
(iA aO aP aU bq.1 bq.2.1 bq.2.2.1 bq.2.2.2).bind λ(bv,bz,bA,_)=>
(bif(bA != 0)then(some (aM,true,aO,aP,aQ,aR,aS,aW,aY,aZ,ba,bc,bd,bf,bg,bh,bi,bj,bk,bl,bm,bn,bo,bp,bv,bz,()))else
(eE bm).bind λbB=>
(dN aS bB).bind λbC=>
(dN aS bB).bind λbD=>
bif(bD.1 != 0)then(some (aM,true,aO,aP,aQ,aR,aS,aW,aY,aZ,ba,bc,bd,bf,bg,bh,bi,bj,bk,bl,bm,bn,bo,bp,bv,bz,()))else
(dN bf 0).bind λbE=>
let bF:=wk .i64 bE.2.1;
bif(decide (bF>255))then(some (aM,true,aO,aP,aQ,aR,aS,aW,aY,aZ,ba,bc,bd,bf,bg,bh,bi,bj,bk,bl,bm,bn,bo,bp,bv,bz,()))else
(dN bf 0).bind λbG=>
some (aM,(bG.1 != 0),aO,aP,aQ,aR,aS,aW,aY,aZ,ba,bc,bd,bf,bg,bh,bi,bj,bk,bl,bm,bn,bo,bp,bv,bz,()):Option (T2F)).bind λ(bB,bC,bD,bE,bF,bG,bH,bI,bJ,bK,bL,bM,bN,bO,bP,bQ,bR,bS,bT,bU,bV,bW,bY,bZ,b8,b9,_)=>
bif bC then(some (.inl (false,bD,bE,bF,bG,bH,())))else
(dN bO 0).bind λcc=>
let cd:=wk .i64 cc.2.1;
(oJ cd b8 b9).bind λ(cf,cg,ch,ci,cj,cl,cn,cq,_)=>
(eE bV).bind λcr=>
(dN bH cr).bind λcu=>
(dN bH cr).bind λcw=>
let cx:=(List.modify bH cr λe=>(cf,(cg,(ch,(ci,(cj,(cl,(cn,cq))))))));
some (.inr (bB,bD,bE,bF,bG,cx,bI,bJ,bK,bL,bM,bN,bO,bP,bY,bZ,())))else
some (.inr (aM,aO,aP,aQ,aR,aS,aW,aY,aZ,ba,bc,bd,bf,bg,bo,bp,())))else
some (.inr (aM,aO,aP,aQ,aR,aS,aW,aY,aZ,ba,bc,bd,bf,bg,bo,bp,())):Option (T0S⊕T2n))with
|none=>none
|some (.inl (bq,bv,bz,bA,bB,bC,_))=>
some (bq,bv,bz,bA,bB,bC,())
|some (.inr (bq,bv,bz,bA,bB,bC,bD,bE,bF,bG,bH,bI,bJ,bK,bL,bM,_))=>
(dN bC bq).bind λbN=>
(dN bC bq).bind λbO=>
(dN bO.2.1 0).bind λbP=>
(dN bC bq).bind λbQ=>
(dN bQ.2.1 0).bind λbR=>
let bS:=(List.modify bC bq λe=>(e.1,((List.modify e.2.1 0 λe=>(bL,bM)),e.2.2)));
(dN bS bq).bind λbT=>
let bU:=List.modify bS bq λe=>(1,e.2);
some (true,bv,bz,bA,bB,bU,())))
|some (.inr (.inr (x5,x6,x7,x8,x9,ac,ae,af,ag,ah,ai,aj,ak,am,an,ap,aq,av,ax,ay,az,aA,aB,aD,aE,aF,aG,_)))=>
(match(bif(ap==12)then((dN aq 0).bind λaH=>
let aI:=wk .i64 aH.2.1;
bif(decide (aI>255))then(some (.inl (false,x7,x8,x9,ac,ae,())))else
(dN aq 0).bind λaJ=>
bif(aJ.1 != 0)then(some (.inl (false,x7,x8,x9,ac,ae,())))else
(dN aq 0).bind λaK=>
let aL:=wk .i64 aK.2.1;
(dN ae x5).bind λaM=>
let aO:=(List.modify ae x5 λe=>(e.1,(e.2.1,(e.2.2.1,(e.2.2.2.1,(aL,e.2.2.2.2.2))))));
some (.inr (x5,x7,x8,x9,ac,aO,af,ag,ah,ai,aj,ak,am,an,ap,aq,av,ax,ay,az,aA,aB,aD,aE,aF,aG,())))else
some (.inr (x5,x7,x8,x9,ac,ae,af,ag,ah,ai,aj,ak,am,an,ap,aq,av,ax,ay,az,aA,aB,aD,aE,aF,aG,())):Option (T0S⊕T2G))with
|none=>none
|some (.inl (aH,aI,aJ,aK,aL,aM,_))=>
some (aH,aI,aJ,aK,aL,aM,())
|some (.inr (aH,aI,aJ,aK,aL,aM,aO,aP,aQ,aR,aS,aT,aU,aV,aW,aY,aZ,ba,bc,bd,bf,bg,bh,bi,bj,bk,_))=>
(match(bif(aW==10)then(bif(decide (bh>=0))then((dN aY 1).bind λbl=>
(iA aI aJ aP bl.1 bl.2.1 bl.2.2.1 bl.2.2.2).bind λ(bm,bn,bo,_)=>
(bif(bo != 0)then(some (aH,true,aI,aJ,aK,aL,aM,aR,aS,aT,aU,aV,aW,aY,aZ,ba,bc,bd,bf,bg,bh,bi,bj,bk,bm,bn,()))else
(eE bh).bind λbp=>
(dN aM bp).bind λbq=>
(dN aM bp).bind λbv=>
bif(bv.1 != 0)then(some (aH,true,aI,aJ,aK,aL,aM,aR,aS,aT,aU,aV,aW,aY,aZ,ba,bc,bd,bf,bg,bh,bi,bj,bk,bm,bn,()))else
(dN aY 0).bind λbz=>
let bA:=wk .i64 bz.2.1;
bif(decide (bA>255))then(some (aH,true,aI,aJ,aK,aL,aM,aR,aS,aT,aU,aV,aW,aY,aZ,ba,bc,bd,bf,bg,bh,bi,bj,bk,bm,bn,()))else
(dN aY 0).bind λbB=>
some (aH,(bB.1 != 0),aI,aJ,aK,aL,aM,aR,aS,aT,aU,aV,aW,aY,aZ,ba,bc,bd,bf,bg,bh,bi,bj,bk,bm,bn,()):Option (T2F)).bind λ(bp,bq,bv,bz,bA,bB,bC,bD,bE,bF,bG,bH,bI,bJ,bK,bL,bM,bN,bO,bP,bQ,bR,bS,bT,bU,bV,_)=>
bif bq then(some (.inl (false,bv,bz,bA,bB,bC,())))else
(dN bJ 0).bind λbW=>
let bY:=wk .i64 bW.2.1;
(oJ bY bU bV).bind λ(bZ,b8,b9,cc,cd,cf,cg,ch,_)=>
(eE bQ).bind λci=>
(dN bC ci).bind λcj=>
(dN bC ci).bind λcl=>
let cn:=(List.modify bC ci λe=>(bZ,(b8,(b9,(cc,(cd,(cf,(cg,ch))))))));
some (.inr (bp,bv,bz,bA,bB,cn,bD,bE,bF,bG,bH,bI,bJ,bK,bS,bT,())))else
some (.inr (aH,aI,aJ,aK,aL,aM,aR,aS,aT,aU,aV,aW,aY,aZ,bj,bk,())))else
some (.inr (aH,aI,aJ,aK,aL,aM,aR,aS,aT,aU,aV,aW,aY,aZ,bj,bk,())):Option (T0S⊕T2n))with
|none=>none
|some (.inl (bl,bm,bn,bo,bp,bq,_))=>
some (bl,bm,bn,bo,bp,bq,())
|some (.inr (bl,bm,bn,bo,bp,bq,bv,bz,bA,bB,bC,bD,bE,bF,bG,bH,_))=>
(dN bq bl).bind λbI=>
(dN bq bl).bind λbJ=>
(dN bJ.2.1 0).bind λbK=>
(dN bq bl).bind λbL=>
(dN bL.2.1 0).bind λbM=>
let bN:=(List.modify bq bl λe=>(e.1,((List.modify e.2.1 0 λe=>(bG,bH)),e.2.2)));
(dN bN bl).bind λbO=>
let bP:=List.modify bN bl λe=>(1,e.2);
some (true,bm,bn,bo,bp,bP,()))))
def EW:X.Cfg:=⟨E0,[sx,i8,kZ,i9,qO,pd,yu],[],[⟨13,0,(qS [Uc 1,Uc 4,Uc 6,Uc 7,(9,.ptr ⟨4,4,[((),(8,0))]⟩ [0,0]),Uc 10,Uc 12,sP 80 eF,Ud 81,Ud 82] [(4,Zaa),(10,Ui),(14,Uaa),(16,Xac),(22,Uj),(26,uab)]),[(.ret,qS [Uc 1,Ue 8] [(4,Zaa)]),(.exit 0,(qS [Uc 1,Uc 4,Uc 6,Uc 7,(9,.ptr ⟨4,4,[((),(8,0))]⟩ [0,0]),Uc 10,Uc 12,sP 80 eF,Ud 81,Ud 82,Ue 83] [(4,Zaa),(10,Ui),(14,Uaa),(16,Xac),(22,Uj),(26,uab)]))]⟩,⟨6,1,qE,[(.ret,qS [Uc 1,Ue 8] [(4,Zaa)]),(.normal,(qS [Uc 1,Uc 4,Uc 6,Uc 7,(9,.ptr ⟨4,4,[((),(8,0))]⟩ [0,0]),Uc 10,Uc 12,sP 80 eF,Ud 81,Ud 82,Ue 83] [(4,Zaa),(10,Ui),(14,Uaa),(16,Xac),(22,Uj),(26,uab)])),(.normal,(qS [Uc 1,Uc 4,Uc 6,Uc 7,(9,.ptr ⟨4,4,[((),(8,0))]⟩ [0,0]),Uc 10,Ue 51] [(4,Zaa),(10,Ui),(14,Uaa),(16,Xac),(22,Uj)]))]⟩,⟨24,2,qE,[(.ret,qS [Uc 1,Ue 8] [(4,Zaa)]),(.normal,(qS [Uc 1,Uc 4,Uc 6,Uc 7,(9,.ptr ⟨4,4,[((),(8,0))]⟩ [0,0]),Uc 10] [(4,Zaa),(10,Ui),(14,Uaa),(16,Xac),(22,Uj)]))]⟩,⟨33,3,qE,[(.normal,(qS [Uc 1,Uc 6,Uc 7,(9,.ptr ⟨4,4,[((),(8,0))]⟩ [0,0]),Uc 10,Uc 19,Ue 207] [(4,Zaa),(14,Uaa),(16,Xac),(22,Uj),(40,Uj)]))]⟩,⟨29,4,qE,[(.ret,qS [Uc 1,Ue 8] [(4,Zaa)]),(.normal,(qS [Uc 1,(9,.ptr ⟨4,4,[((),(8,0))]⟩ [0,0]),Uc 10] [(4,Zaa),(14,Uaa),(22,Uj)]))]⟩]⟩
def yp:Ctr:=⟨150,105,[.agg Ui,.ptr ⟨4,0,[]⟩ [0],.agg Uaa,.agg Xac],[(4,Zaa)],[⟨Uh,[.one],[(4,Zaa)]⟩],ap23 oG⟩
theorem EL:Lk 4 yp:=ls EW (aC xA (aC kX (aC nM (aC kY (aC xB (aC te (aC EO aN)))))))
def oH(a0:LDIn)(a1:List (Int))(a2:List LI)(a3:List (Int))(a4:Int)(a5:LDCe)(a6:LDLn)(a7:LDTh)(a8:Int)(a9:Int)(a10:Int)(a11:Int)(a12:Int)(a13:Int)(a14:LDCn)(a15:LDCn)(a16:Int)(a17:Int)(a18:Int)(a19:Int)(a20:LDCn)(a21:Int)(a22:Bool):Option (T12):=
((iN a0 a1 a2 a3 a4 a5 a6 a7).bind λ(x0,_)=>
bif(!x0)then(some (true,a0,a1,a2,a3,a4,a5,a6,a7,a8,a9,a10,a11,a12,a13,a14,a15,a16,a17,a18,a19,a20,a21,a22,(),0,(),(),(),()))else
(jU a8 a9 a10 a11 a12 a13 a14 a15).bind λ(x1,_)=>
bif(!x1)then(some (true,a0,a1,a2,a3,a4,a5,a6,a7,a8,a9,a10,a11,a12,a13,a14,a15,a16,a17,a18,a19,a20,a21,a22,(),0,(),(),(),()))else
bif(a9 != 1)then(some (true,a0,a1,a2,a3,a4,a5,a6,a7,a8,a9,a10,a11,a12,a13,a14,a15,a16,a17,a18,a19,a20,a21,a22,(),0,(),(),(),()))else
let x2:=dR a14.length;
(gw a13).bind λ(x3,_)=>
bif(x2 != x3)then(some (true,a0,a1,a2,a3,a4,a5,a6,a7,a8,a9,a10,a11,a12,a13,a14,a15,a16,a17,a18,a19,a20,a21,a22,(),0,(),(),(),()))else
(jS a16 a17 a18 a19 a20 a21 a22).bind λ(x4,_)=>
bif(!x4)then(some (true,a0,a1,a2,a3,a4,a5,a6,a7,a8,a9,a10,a11,a12,a13,a14,a15,a16,a17,a18,a19,a20,a21,a22,(),0,(),(),(),()))else
(eE a8).bind λx5=>
(dN a7 x5).bind λx6=>
some ((x6.1 != 2),a0,a1,a2,a3,a4,a5,a6,a7,a8,a9,a10,a11,a12,a13,a14,a15,a16,a17,a18,a19,a20,a21,a22,(),0,(),(),(),()):Option (Bool×LDIn×LI×LLI×LI×Int×LDCe×LDLn×LDTh×Int×Int×Int×Int×Int×Int×LDCn×LDCn×T2a)).bind λ(x0,x1,x2,x3,x4,x5,x6,x7,x8,x9,ac,ae,af,ag,ah,ai,aj,ak,am,an,ap,aq,av,ax,_)=>
bif x0 then(some (x4,x5,x6,x7,x8,false,()))else
(iy x4 x5 x6 x7 x8).bind λ(aE,aF,aG,aH,aI,_)=>
bif(ah==0)then((eE x9).bind λaJ=>
(dN aI aJ).bind λaK=>
(dN aI aJ).bind λaL=>
(dN ai 0).bind λaM=>
(dN aI aJ).bind λaO=>
(mD aL.1 aO.2.1 aL.2.2.1 aL.2.2.2.1 aL.2.2.2.2.1 aL.2.2.2.2.2.1 aL.2.2.2.2.2.2.1 aL.2.2.2.2.2.2.2 0 aM.2.1).bind λ(aP,aQ,aR,aS,aT,aU,aV,aW,_)=>
(eE x9).bind λaY=>
(dN aI aY).bind λaZ=>
(dN aI aY).bind λba=>
let bc:=(List.modify aI aY λe=>(aP,(aQ,(aR,(aS,(aT,(aU,(aV,aW))))))));
some (aE,aF,aG,aH,bc,true,()))else
bif ax then((eE x9).bind λaJ=>
(dN aI aJ).bind λaK=>
(dN aI aJ).bind λaL=>
let aM:=List.modify aI aJ λe=>(3,e.2);
some (aE,aF,aG,aH,aM,true,()))else
(oG x1 x2 x3 x9 ac ae af ag ah ai aj ak am an ap aq av ax aE aF aG aH aI).bind λ(aJ,aK,aL,aM,aO,aP,_)=>
bif(!aJ)then(some (x4,x5,x6,x7,x8,false,()))else
some (aK,aL,aM,aO,aP,true,())
def EX:X.Cfg:=⟨E0,[mi,pa,kL,o9,ly,sw,yp],[],[⟨2,0,qE,[(.normal,qS [Uc 4,Uc 5,Uc 6,Uc 7,Uc 8,Ue 48] [(10,Ui),(12,Zab),(14,Uaa),(16,Xac),(18,Uac)])]⟩]⟩
def yq:Ctr:=⟨130,106,[.agg Ui,.agg Zab,.agg Uaa,.agg Xac],[],[⟨uai,[.agg 5,.one],[]⟩],ap23 oH⟩
theorem EM:Lk 5 yq:=ls EX (aC oV (aC s9 (aC og (aC s8 (aC nE (aC xy (aC EL aN)))))))
def ll(a0:LDIn)(a1:List (Int))(a2:List LI)(a3:List (Int))(a4:Int)(a5:LDCe)(a6:LDLn)(a7:LDTh)(a8:Int)(a9:Int)(a10:Int)(a11:Int)(a12:Int)(a13:LDCn)(a14:Int)(a15:Bool):Option (T12):=
((iN a0 a1 a2 a3 a4 a5 a6 a7).bind λ(x0,_)=>
bif(!x0)then(some (a8,true,a0,a1,a2,a3,a4,a5,a6,a7,a9,a10,a11,a12,a13,a14,a15,(),0,(),(),(),()))else
(jS a9 a10 a11 a12 a13 a14 a15).bind λ(x1,_)=>
bif(!x1)then(some (a8,true,a0,a1,a2,a3,a4,a5,a6,a7,a9,a10,a11,a12,a13,a14,a15,(),0,(),(),(),()))else
bif(decide (a8<0))then(some (a8,true,a0,a1,a2,a3,a4,a5,a6,a7,a9,a10,a11,a12,a13,a14,a15,(),0,(),(),(),()))else
bif(decide (a8>=4))then(some (a8,true,a0,a1,a2,a3,a4,a5,a6,a7,a9,a10,a11,a12,a13,a14,a15,(),0,(),(),(),()))else
(eE a8).bind λx2=>
(dN a7 x2).bind λx3=>
some (a8,(x3.1 != 3),a0,a1,a2,a3,a4,a5,a6,a7,a9,a10,a11,a12,a13,a14,a15,(),0,(),(),(),()):Option (Int×Bool×LDIn×LI×LLI×LI×Int×LDCe×LDLn×LDTh×T2a)).bind λ(x0,x1,x2,x3,x4,x5,x6,x7,x8,x9,ac,ae,af,ag,_)=>
bif x1 then(some (x5,x6,x7,x8,x9,false,()))else
(iA x5 x6 x3 ac ae af ag).bind λ(av,ax,ay,_)=>
bif(ay != 0)then(some (x5,x6,x7,x8,x9,false,()))else
(iy x5 x6 x7 x8 x9).bind λ(az,aA,aB,aD,aE,_)=>
(eE x0).bind λaF=>
(dN aE aF).bind λaG=>
(dN aE aF).bind λaH=>
(dN aE aF).bind λaI=>
(dN aI.2.1 0).bind λaJ=>
(dN aE aF).bind λaK=>
(dN aK.2.1 0).bind λaL=>
let aM:=(List.modify aE aF λe=>(e.1,((List.modify e.2.1 0 λe=>(av,ax)),e.2.2)));
(eE x0).bind λaO=>
(dN aM aO).bind λaP=>
(dN aM aO).bind λaQ=>
let aR:=List.modify aM aO λe=>(1,e.2);
some (az,aA,aB,aD,aR,true,())
def Do:X.Cfg:=⟨E0,[mi,o9,sx,ly],[],[⟨2,0,qE,[(.normal,qS [Ud 2,Uc 4,Uc 5,Uc 7,Uc 8,Ue 38] [(10,Ui),(12,Zab),(16,Xac),(18,Uac)])]⟩]⟩
def qG:Ctr:=⟨151,107,[.agg Ui,.agg Zab,shU I64,.agg Xac],[],[⟨uai,[.agg 5,.one],[]⟩],ap16 ll⟩
theorem vi:Lk 5 qG:=ls Do (aC oV (aC s8 (aC xA (aC nE aN))))
def m6(a0:Int)(a1:Int)(a2:LDIn)(a3:List (Int))(a4:List LI)(a5:List (Int))(a6:Int)(a7:LDCe)(a8:LDLn)(a9:LDTh)(a10:List (Int))(a11:List (Int))(a12:List LI)(a13:List LDCn)(a14:LDOp)(a15:LDOu)(a16:List (Int))(a17:List LI)(a18:LDEn)(a19:List (Int)):Option (T2q):=
let x0:=wk .i64 a1;
(eu x0 true).bind λ(x1,x2,x3,x4,x5,x6,x7,_)=>
(ll a2 a3 a4 a5 a6 a7 a8 a9 a0 x1 x2 x3 x4 [] x6 x7).bind λ(x8,x9,ac,ae,af,ag,_)=>
let ah:LDEn:=[(4,(a0,(0,(0,(0,(0,(0,(0,(0,([],([],(x1,(x2,(x3,(x4,([],(x6,x7)))))))))))))))))];
bif(dX 184 a18.length ah.length)then let ai:LDEn:=(List.append a18 ah);
some (a2,a3,a4,x8,x9,ac,ae,af,a10,a11,a12,a13,a14,a15,a16,a17,ai,a19,())else none
def C8:X.Cfg:=⟨E0,[kz,qG],[(35,wR),(36,wR)],[]⟩
def vC:Ctr:=⟨131,108,[.ptr ⟨2,0,[]⟩ [0],shU I64,shU CW],[(2,Xaa)],[⟨[],[],[(2,Xaa)]⟩],ap20 m6⟩
theorem CH:Lk 6 vC:=ls C8 (aC md (aC vi aN))
end
end Go.Proofs.YtoldehogdgdhmaaGreat
