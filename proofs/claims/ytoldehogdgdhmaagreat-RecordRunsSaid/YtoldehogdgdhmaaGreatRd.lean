/- Part of the proof; no condition. -/
import Derived.Test.YtoldehogdgdhmaaGreatRc
import Derived.Test.YtoldehogdgdhmaaGreatProg
import Derived.KernelRfl
set_option linter.unusedVariables false
set_option linter.unusedSimpArgs false
namespace Go.Proofs.YtoldehogdgdhmaaGreat
open Go.RowKit
theorem B4:∀(hs:List (Unit×Nat×Nat))(hs':List (den .nat×Nat×Nat))(r:List CT)(h:HL den r)(h':HL den (EY hs r)),Fr hs hs' r h=some h'->(yg hs r h').1=hs'/\(yg hs r h').2=h
 | [],[],_,_,_,hc=>by
  injection hc with hc
  exact⟨rfl,hc.symm⟩
 | [],_::_,_,_,_,hc=>by cases hc
 |_::_,[],_,_,_,hc=>by cases hc
 |(_,sz,o)::hs,(i,sz',o')::hs',r,h,h',hc=>by
  have hc:(if sz=sz'/\o=o' then(Fr hs hs' r h).map λh1=>((i,h1):den .nat×HL den (EY hs r))else none)=some h':=hc;by_cases hb:sz=sz'/\o=o'
  ·rw[oIP hb]at hc;obtain⟨h1,h2,h3⟩:=Option.map_eq_some_iff.1 hc;obtain⟨e1,e2⟩:=B4 hs hs' r h h1 h2;subst h3;refine⟨?_,e2⟩;show(i,sz,o)::(yg hs r h1).1=(i,sz',o')::hs';rw[e1,hb.1,hb.2]
  ·rw[oIN hb]at hc;cases hc
theorem Pf{p:XP λ_=>Unit}{q:XP den}(h:ML p q=true):erP (Qx p)=erP q:=by
 simp[ML]at h;have ⟨⟨⟨h1,h2⟩,h3⟩,h4⟩:=h;have ⟨r,o,hs⟩:=q
 cases hs with
 |nil=>simp[Qx,h1,h2]
 |cons=>simp[XP.bare]at h4
theorem Mc{x y:Value}(h:Ki x y=true):x=y:=by
 unfold Ki at h
 grind
mutual
theorem Kq:(s:Sh)->(x:XV den)->(r:List CT)->(h:HL den r)->(h':HL den (lv s r))->conv dI s x r h=some h'->er (fill s r h').1=er x/\(fill s r h').2=h
 |.d u z,x,r,h,h',hc=>by
  cases x with
  |d t y=>
   have hc:(asT dI t u y).map (λw=>(w,h))=some h':=hc;obtain⟨w,h1,h2⟩:=hY hc
   have e1:h'.1=w:=by rw[<- h2]
   have e2:h'.2=h:=by rw[<- h2]
   refine⟨?_,e2⟩;show er1 u h'.1=er1 t y;rw[e1];exact GH h1
  |_=>exact absurd (show(none:Option (HL den _))=some h' from hc) (by simp)
 |.k z,x,r,h,h',hc=>by
  cases x with
  |k y=>
   have hc:(if Ki z y then some h else none)=some h':=hc;by_cases hb:Ki z y=true
   ·rw[oIP hb]at hc
    injection hc with hc
    rw[Mc hb];exact⟨rfl,hc.symm⟩
   ·rw[oIN hb]at hc;cases hc
  |_=>exact absurd (show(none:Option (HL den _))=some h' from hc) (by simp)
 |.dead,x,r,h,h',hc=>by
  cases x with
  |dead=>
   have hc:some h=some h':=hc
   injection hc with hc
   exact⟨rfl,hc.symm⟩
  |_=>exact absurd (show(none:Option (HL den _))=some h' from hc) (by simp)
 |.ptr p vs,x,r,h,h',hc=>by
  cases x with
  |ptr q ws=>
   have hc:(if p.root==q.root&&p.off==q.off&&vs==ws then Fr p.hops q.hops r h else none)=some h':=hc;by_cases hb:(p.root==q.root&&p.off==q.off&&vs==ws)=true
   ·rw[oIP hb]at hc;simp only[oBA,beq_iff_eq]at hb;obtain⟨h1,h2⟩:=B4 _ _ _ _ _ hc;refine⟨?_,h2⟩;show TV.ptr ⟨p.root,p.off,(yg p.hops r h').1⟩ vs=TV.ptr ⟨q.root,q.off,q.hops⟩ ws;rw[h1,hb.1.1,hb.1.2,hb.2]
   ·rw[oIN hb]at hc;cases hc
  |_=>exact absurd (show(none:Option (HL den _))=some h' from hc) (by simp)
 |.pk p vs,x,r,h,h',hc=>by
  cases x with
  |pk q ws=>
   have hc:(if p.root==q.root&&p.off==q.off&&vs==ws then Fr p.hops q.hops r h else none)=some h':=hc;by_cases hb:(p.root==q.root&&p.off==q.off&&vs==ws)=true
   ·rw[oIP hb]at hc;simp only[oBA,beq_iff_eq]at hb;obtain⟨h1,h2⟩:=B4 _ _ _ _ _ hc;refine⟨?_,h2⟩;show TV.pk ⟨p.root,p.off,(yg p.hops r h').1⟩ vs=TV.pk ⟨q.root,q.off,q.hops⟩ ws;rw[h1,hb.1.1,hb.1.2,hb.2]
   ·rw[oIN hb]at hc;cases hc
  |_=>exact absurd (show(none:Option (HL den _))=some h' from hc) (by simp)
 |.pw p vs sz lo n,x,r,h,h',hc=>by cases x<;>exact absurd (show(none:Option (HL den _))=some h' from hc) (by simp)
 |.gap t _ _ o,x,r,h,h',hc=>by
  cases x with
  |gap t' y i o'=>
   have hc:(if o=o' then(asT dI (.row true t') (.row true t) y).map λy=>(y,i,h)else none)=some h':=hc;by_cases hb:o=o'
   ·subst hb;rw[oIP rfl]at hc;obtain⟨z,h1,rfl⟩:=hY hc;refine⟨?_,rfl⟩;show gh (er1 (.row true t) z) [(i,0,o)] .dead=gh (er1 (.row true t') y) [(i,0,o)] .dead;rw[GH h1]
   ·rw[oIN hb]at hc;cases hc
  |_=>exact absurd (show(none:Option (HL den _))=some h' from hc) (by simp)
 |.ip l,x,r,h,h',hc=>by
  cases x with
  |ip l'=>
   have:=nJ l l' r h h' hc;exact⟨congrArg TV.ip this.1,this.2⟩
  |_=>exact absurd (show(none:Option (HL den _))=some h' from hc) (by simp)
 |.agg l,x,r,h,h',hc=>by
  cases x with
  |agg l'=>
   have:=nJ l l' r h h' hc;exact⟨congrArg TV.agg this.1,this.2⟩
  |_=>exact absurd (show(none:Option (HL den _))=some h' from hc) (by simp)
 |.tup l,x,r,h,h',hc=>by
  cases x with
  |tup l'=>
   have:=nJ l l' r h h' hc;exact⟨congrArg TV.tup this.1,this.2⟩
  |_=>exact absurd (show(none:Option (HL den _))=some h' from hc) (by simp)
 |.fn f l,x,r,h,h',hc=>by
  cases x with
  |fn f' l'=>
   have hc:(if f=f' then wD dI l l' r h else none)=some h':=hc;by_cases hb:f=f'
   ·subst hb;rw[oIP rfl]at hc;have:=nJ l l' r h h' hc;exact⟨congrArg (TV.fn f) this.1,this.2⟩
   ·rw[oIN hb]at hc;cases hc
  |_=>exact absurd (show(none:Option (HL den _))=some h' from hc) (by simp)
theorem nJ:(s:List Sh)->(x:List (XV den))->(r:List CT)->(h:HL den r)->(h':HL den (lvL s r))->wD dI s x r h=some h'->erL (i9 s r h').1=erL x/\(i9 s r h').2=h
 | [],x,r,h,h',hc=>by
  cases x with
  |nil=>
   have hc:some h=some h':=hc
   injection hc with hc
   exact⟨rfl,hc.symm⟩
  |cons=>exact absurd (show(none:Option (HL den _))=some h' from hc) (by simp)
 |s::ss,x,r,h,h',hc=>by
  cases x with
  |nil=>exact absurd (show(none:Option (HL den _))=some h' from hc) (by simp)
  |cons x xs=>
   have hc:(wD dI ss xs r h).bind (λh1=>conv dI s x (lvL ss r) h1)=some h':=hc;obtain⟨h1,ZK,ZB⟩:=dS hc;obtain⟨e1,e2⟩:=nJ ss xs r h h1 ZK;obtain⟨e3,e4⟩:=Kq s x (lvL ss r) h1 h' ZB;have e5:i9 (s::ss) r h'=((fill s (lvL ss r) h').1::(i9 ss r (fill s (lvL ss r) h').2).1,(i9 ss r (fill s (lvL ss r) h').2).2):=rfl;rw[e5,e4];refine⟨?_,e2⟩;show er _::erL _=er x::erL xs;rw[e3,e1]
end
theorem B3:∀{s:List (Nat×List Sh)}{x:List (Nat×List (XV den))}{r:List CT}{h:HL den r}{h':HL den (lvP s r)},X.convP dI s x r h=some h'->erC (tM s r h').1=erC x/\(tM s r h').2=h:=by
 intro s
 induction s with
 |nil=>
  intro x r h h' hc
  cases x with
  |nil=>
   have hc:some h=some h':=hc
   injection hc with hc
   exact⟨rfl,hc.symm⟩
  |cons=>exact absurd (show(none:Option (HL den _))=some h' from hc) (by simp)
 |cons s ss ih=>
  intro x r h h' hc
  cases x with
  |nil=>exact absurd (show(none:Option (HL den _))=some h' from hc) (by simp)
  |cons x xs=>
   have hc:(if s.1=x.1 then(X.convP dI ss xs r h).bind (λh1=>wD dI s.2 x.2 (lvP ss r) h1)else none)=some h':=hc;by_cases hk:s.1=x.1
   ·rw[oIP hk]at hc
    ·obtain⟨h1,ZK,hc⟩:=dS hc;obtain⟨e1,e2⟩:=ih ZK;obtain⟨e3,e4⟩:=nJ s.2 x.2 (lvP ss r) h1 h' hc;have e5:tM (s::ss) r h'=((s.1,(i9 s.2 (lvP ss r) h').1)::(tM ss r (i9 s.2 (lvP ss r) h').2).1,(tM ss r (i9 s.2 (lvP ss r) h').2).2):=rfl;rw[e5,e4];refine⟨?_,e2⟩;show(s.1,erL _)::erC _=(x.1,erL x.2)::erC xs;rw[e3,e1,hk]
   ·rw[oIN hk]at hc;cases hc
theorem Mj:∀{s:List (Nat×Sh)}{x:List (Nat×XV den)}{r:List CT}{h:HL den r}{h':HL den (lvT s r)},X.convT dI s x r h=some h'->(BV s r h').1.map (λx=>(x.1,er x.2))=x.map (λx=>(x.1,er x.2))/\(BV s r h').2=h:=by
 intro s
 induction s with
 |nil=>
  intro x r h h' hc
  cases x with
  |nil=>
   have hc:some h=some h':=hc
   injection hc with hc
   exact⟨rfl,hc.symm⟩
  |cons=>exact absurd (show(none:Option (HL den _))=some h' from hc) (by simp)
 |cons s ss ih=>
  intro x r h h' hc
  cases x with
  |nil=>exact absurd (show(none:Option (HL den _))=some h' from hc) (by simp)
  |cons x xs=>
   have hc:(if s.1=x.1 then(X.convT dI ss xs r h).bind (λh1=>conv dI s.2 x.2 (lvT ss r) h1)else none)=some h':=hc;by_cases hk:s.1=x.1
   ·rw[oIP hk]at hc
    ·obtain⟨h1,ZK,hc⟩:=dS hc;obtain⟨e1,e2⟩:=ih ZK;obtain⟨e3,e4⟩:=Kq s.2 x.2 (lvT ss r) h1 h' hc;have e5:BV (s::ss) r h'=((s.1,(fill s.2 (lvT ss r) h').1)::(BV ss r (fill s.2 (lvT ss r) h').2).1,(BV ss r (fill s.2 (lvT ss r) h').2).2):=rfl;rw[e5,e4];refine⟨?_,e2⟩;simp only[List.map_cons];rw[e3,e1,hk]
   ·rw[oIN hk]at hc;cases hc
theorem Je:∀{a b:List (Key×Nat)},X.sameVr a b=true->a=b:=by
 intro a
 induction a with
 |nil=>intro b h;cases b with|nil=>rfl|cons=>simp[X.sameVr]at h
 |cons x a ih=>
  intro b h
  cases b with
  |nil=>simp[X.sameVr]at h
  |cons y b=>
   simp only[X.sameVr,oBA,beq_iff_eq]at h;obtain⟨⟨h1,h2⟩,h3⟩:=h;rw[ih h3];obtain⟨a1,a2⟩:=x;obtain⟨b1,b2⟩:=y;simp only at h1 h2;rw[h1,h2]
theorem B2{s:Shs}{σ:XS den}{u:HL den []}{h:HL den (lvS s)}(hc:X.convS dI s σ u=some h):erS (Fj s h)=erS σ:=by
 unfold X.convS at hc;by_cases hv:X.sameVr s.vr σ.vr=true
 ·rw[oIP hv]at hc;obtain⟨h1,ZK,hc⟩:=dS hc;obtain⟨e1,e2⟩:=B3 ZK;obtain⟨e3,e4⟩:=Mj hc;unfold erS Fj;simp only;rw[e3,e4,e1,Je hv]
 ·rw[oIN hv]at hc;cases hc
theorem D3{c:Ctr}{vals:List (XV den)}{pts:List (Nat×List (XV den))}{u:HL den []}{h:HL den (lvL c.ins (lvP c.pts []))}(hc:X.convIn dI c vals pts u=some h):
 erL (i9 c.ins _ h).1=erL vals/\erC (tM c.pts [] (i9 c.ins _ h).2).1=erC pts:=by
 unfold X.convIn at hc;obtain⟨h1,ZK,hc⟩:=dS hc;obtain⟨e1,e2⟩:=B3 ZK;obtain⟨e3,e4⟩:=nJ _ _ _ _ _ hc;rw[e4];exact⟨e3,e1⟩
theorem Jf:∀{a b:List RSh},X.sameSh a b=true->a=b:=by
 intro a
 induction a with
 |nil=>intro b h;cases b with|nil=>rfl|cons=>simp[X.sameSh]at h
 |cons x a ih=>
  intro b h
  cases b with
  |nil=>cases x<;>simp[X.sameSh]at h
  |cons y b=>
   cases x<;>cases y<;>simp[X.sameSh]at h
   ·rw[ih h]
   ·rw[h.1,ih h.2]
   ·rw[ih h]
theorem Oe{cells:List (XV den)}{sh:List RSh}{pts:List (Nat×List (XV den))}{u:HL den []}:∀{outs:List XO}{i:Nat}{h:HL den (AM (outs.map lvO) i)},X.injO dI cells sh pts u outs=some ⟨i,h⟩->∃x,mn outs i h=some x/\erL x.1=erL cells/\x.2.1=sh/\erC x.2.2=erC pts:=by
 intro outs
 induction outs with
 |nil=>intro i h hc;simp[X.injO]at hc
 |cons o outs ih=>
  intro i h hc;simp only[X.injO]at hc;split at hc
  ·rename_i h1 ZK
   injection hc with hc
   injection hc with h2 h3
   subst h2;have h3:=eq_of_heq h3;subst h3;refine⟨_,rfl,?_⟩;unfold X.convO at ZK;by_cases hs:X.sameSh o.sh sh=true
   ·rw[oIP hs]at ZK;obtain⟨h4,hc4,ZK⟩:=dS ZK;obtain⟨e1,e2⟩:=B3 hc4;obtain⟨e3,e4⟩:=nJ _ _ _ _ _ ZK;refine⟨e3,Jf hs,?_⟩;show erC (tM o.pts [] (i9 o.cells _ h1).2).1=_;rw[e4];exact e1
   ·rw[oIN hs]at ZK;cases ZK
  ·split at hc
   ·rename_i x hx
    injection hc with hc
    injection hc with h2 h3
    subst h2;have h3:=eq_of_heq h3;subst h3;exact ih hx
   ·simp at hc
theorem Om{a b:kI}(h:X.exEq a b=true):a=b:=by
 cases a<;>cases b<;>simp[X.exEq]at h
 ·rfl
 ·rw[h]
 ·rfl
theorem J8{e:kI}{σ:XS den}{u:HL den []}:∀{outs:List (kI×Shs)}{i:Nat}{h:HL den (AM (outs.map λx=>lvS x.2) i)},X.injE dI e σ u outs=some ⟨i,h⟩->∃x,vG outs i h=some x/\x.1=e/\erS x.2=erS σ:=by
 intro outs
 induction outs with
 |nil=>intro i h hc;simp[X.injE]at hc
 |cons o outs ih=>
  intro i h hc;simp only[X.injE]at hc;split at hc
  ·rename_i h1 ZK
   injection hc with hc
   injection hc with h2 h3
   subst h2;have h3:=eq_of_heq h3;subst h3;refine⟨_,rfl,?_⟩;split at ZK
   ·rename_i he;exact⟨Om he,B2 ZK⟩
   ·simp at ZK
  ·split at hc
   ·rename_i x hx
    injection hc with hc
    injection hc with h2 h3
    subst h2;have h3:=eq_of_heq h3;subst h3;exact ih hx
   ·simp at hc
theorem yl{α β:Type}(G:α->β):∀(ls:List (List CT))(o:Ar ls)(f:(i:Nat)->HL den (AM ls i)->α),lL ls o (λi h=>G (f i h))=G (lL ls o f):=by
 intro ls
 induction ls with
 |nil=>intro o;cases o
 |cons l ls ih=>
  intro o f
  cases ls with
  |nil=>rfl
  |cons m r=>
   cases o with
   |inl h=>rfl
   |inr o=>exact ih o λi h=>f (i+1) h
theorem Ah{α:Type}:∀{ls:List (List CT)}{i:Nat}{h:HL den (AM ls i)}{o:Ar ls}(f:(i:Nat)->HL den (AM ls i)->α),uN ls i h=some o->lL ls o f=f i h:=by
 intro ls
 induction ls with
 |nil=>intro i h o f hm;simp[uN]at hm
 |cons l ls ih=>
  intro i h o f hm
  cases ls with
  |nil=>
   cases i with
   |zero=>cases hm;rfl
   |succ i=>simp[uN]at hm
  |cons m r=>
   cases i with
   |zero=>cases hm;rfl
   |succ i=>
    simp only[uN]at hm;obtain⟨o',h1,rfl⟩:=hY hm;exact ih (λi h=>f (i+1) h) h1
def vi(F:fQ)(c:Ctr):Prop:=∀(h:HL den (lvL c.ins (lvP c.pts [])))(o:Ar (c.outs.map lvO))(x:List (XV den)×List RSh×List (Nat×List (XV den))),c.g h=some o->lL (c.outs.map lvO) o (λi ho=>mn c.outs i ho)=some x ->
 F c.f (erL (i9 c.ins _ h).1) (erC (tM c.pts [] (i9 c.ins _ h).2).1)=some (⟨erL x.1,x.2.1⟩,erC x.2.2)
section
variable {α β γ δ Y:Type}
theorem Lo(x:Option Nat×Opd):Sim (Y:=Y) (X.argV dI x) (argV x) er:=by
 refine dN λt=>?_
 have Vc:∀t:XV den,Sim (Y:=Y) (X.bind (X.takeV dI false t) λl=>X.bind (X.optM dI (X.immXL dI l.1)) λl'=>X.ret (X.shapedX l.2 l')) ((takeV false (er t)).bind λl=>.ret (pG l.2 (l.1.map TV.imm))) er:=λt=>
  (qe false t).bind λl=>Sim.opt λl' hl=>.ret (by rw[zQ,Bf hl])
 have nil:∀{s:SP TV}(t:CT)(y:den (.row true t)),Sim (Y:=Y) (X.bind (X.takeV dI false (.d (.row true t) y)) λl=>X.bind (X.optM dI (X.immXL dI l.1)) λl'=>X.ret (X.shapedX l.2 l')) s er:=λt y σ k o hk=>by cases hk
 refine Sim.ite (λh=>?_) λh=>?_
 ·have h2:(x.1==some 0&&P2 (er t))=true:=by
   simp only[oBA]at h⊢;refine⟨h.1,?_⟩;have h3:=h.2
   cases t with
   |pk p vs=>rfl
   |d t y=>cases t with
    |nilr o=>cases o with
     |true=>rfl
     |false=>simp[X.isNmX]at h3
    |_=>simp[X.isNmX]at h3
   |_=>simp[X.isNmX]at h3
  rw[oIP h2]
  have h3:X.isNmX t=true:=by
   simp only[oBA]at h;exact h.2
  cases t with
  |pk p vs=>exact .ret rfl
  |d t y=>cases t with
   |nilr o=>cases o with
    |true=>exact(qf 1000000 [.d (.nilr true) y]).bind λl=>.ret (by cases l<;>rfl)
    |false=>simp[X.isNmX]at h3
   |_=>simp[X.isNmX]at h3
  |_=>simp[X.isNmX]at h3
 ·have keep:∀{s:SP TV},P2 (er t)=X.isNmX t->Qh (er t)=X.isPkX t->Sim (Y:=Y) (X.argV0 dI t) s er->Sim (Y:=Y) (if(x.1.isSome&&X.isPkX t)=true then X.ret t else X.argV0 dI t) (if(x.1==some 0&&P2 (er t))=true then Aa (er t)else if(x.1.isSome&&Qh (er t))=true then .ret (er t)else s) er:=λhe hp hs=>by
   rw[he,oIN h,hp];split
   ·exact .ret rfl
   ·exact hs
  have nk:∀{t:XV den}{s:SP TV},X.isPkX t=false->(∀ σ k (o:Y),X.argV0 dI t σ k≠some o)->Sim (Y:=Y) (if(x.1.isSome&&X.isPkX t)=true then X.ret t else X.argV0 dI t) s er:=λhp hn=>by
   rw[hp,Bool.and_false,oIN (by simp)];exact fun σ k o hk=>absurd hk (hn σ k o)
  cases t with
  |ip cs=>exact keep rfl rfl (.ret rfl)
  |fn f cap=>exact keep rfl rfl (.ret rfl)
  |ptr p vs=>exact keep rfl rfl (.ret rfl)
  |d t y=>cases t with
   |row o t=>cases o with
    |true=>exact nk rfl fun σ k o hk=>by cases hk
    |false=>exact keep rfl rfl (Vc _)
   |nilr o=>cases o<;>exact keep rfl rfl (Vc _)
   |nat=>exact nk rfl fun σ k o hk=>by cases hk
   |pair a b=>exact nk rfl fun σ k o hk=>by cases hk
   |_=>exact keep rfl rfl (Vc _)
  |gap t y i o=>exact nk rfl fun σ k o hk=>by cases hk
  |_=>exact keep rfl rfl (Vc _)
theorem Cr:∀l:List (Option Nat×Opd),Sim (Y:=Y) (X.argVs dI l) (argVs l) erL:=by
 intro l
 induction l with
 |nil=>exact .ret rfl
 |cons x r ih=>exact(Lo x).bind λt=>ih.bind λl=>.ret rfl
theorem Cn:∀(l:List (Option Nat×XV den))(i:Nat),Sim (Y:=Y) (X.takeOwns dI i l) (takeOwns i (l.map λx=>(x.1,er x.2))) (List.map λx=>(x.1,er x.2)):=by
 intro l
 induction l with
 |nil=>intro i;exact .ret rfl
 |cons x l ih=>
  intro i;have ⟨n,t⟩:=x
  cases n with
  |none=>cases t with
   |d t y=>cases t with
    |row o t=>cases o<;>exact ih (i+1)
    |nilr o=>cases o<;>exact ih (i+1)
    |nat=>exact ih (i+1)
    |pair a b=>exact ih (i+1)
    |_=>exact ih (i+1)
   |_=>exact ih (i+1)
  |some n=>cases n with
   |zero=>cases t with
    |pk p vs=>
     refine(f6 true (.pk p vs)).bind λt=>Sim.ite (λh=>?_) λ_=>.fail;have ⟨c,hc⟩:=ml h
     have h2:mz (er t)=true:=by rw[hc];rfl
     rw[oIP h2];exact(ih (i+1)).bind λq=>.ret rfl
    |d t y=>cases t with
     |row o t=>cases o<;>exact ih (i+1)
     |nilr o=>cases o<;>exact ih (i+1)
     |nat=>exact ih (i+1)
     |pair a b=>exact ih (i+1)
     |_=>exact ih (i+1)
    |_=>exact ih (i+1)
   |succ n=>cases t with
    |d t y=>cases t with
     |row o t=>cases o<;>exact ih (i+1)
     |nilr o=>cases o<;>exact ih (i+1)
     |nat=>exact ih (i+1)
     |pair a b=>exact ih (i+1)
     |_=>exact ih (i+1)
    |_=>exact ih (i+1)
theorem IV(r:Nat):∀(n o:Nat),Sim (Y:=Y) (X.grabB dI r o n) (DP ⟨r,o,[]⟩ n) erL:=by
 intro n
 induction n with
 |zero=>intro o;exact .ret rfl
 |succ n ih=>
  intro o
  cases n with
  |zero=>
   refine Sim.rdC λt=>(j9 ⟨r,o,[]⟩ t).bind λt'=>(f6 true t').bind λt2=>?_;exact(Sim.ret (f:=erL) rfl).bind (h:=λl=>.ret (er t2::l)) λl=>.ret rfl
  |succ n=>
   exact Sim.rdC λt=>(j9 ⟨r,o,[]⟩ t).bind λt'=>(f6 true t').bind λt2=>(ih (o+1)).bind λl=>.ret rfl
theorem G7(p:XP den):Sim (Y:=Y) (X.rooted dI p) (rooted (erP p)) id:=by
 have ⟨r,off,hops⟩:=p
 cases hops with
 |nil=>exact .ret rfl
 |cons h hs=>
  refine Sim.rdT λt=>?_
  cases t with
  |ptr q ws=>
   refine Sim.ite (λhc=>?_) λ_=>.fail;show Sim _ (if(erP q).root==r&&(erP q).hops.isEmpty then chk (erP q) 0 ws else .fail) id
   have:((erP q).root==r&&(erP q).hops.isEmpty)=true:=by
    simpa[erP]using hc
   rw[oIP this];exact fM q 0 ws
  |_=>exact .fail
def erG(g:XGP den):GP:=⟨g.i,erP g.p,g.vs,erL g.cells⟩
theorem J4{t:XV den}(h:X.isArgX t=true):rE (er t)=true:=by
 cases t with
 |ip cs=>rfl
 |fn f cap=>exact Bh h
 |agg l=>
  simp only[X.isArgX]at h;simp only[er,rE,ky,List.all_map];rw[List.all_eq_true]at h⊢;intro x hx;have:=h x hx;simp at this;simp
  rcases oa this.1 this.2 with⟨y,hy⟩|⟨c,hc⟩
  ·rw[hy]
  ·rw[hc]
 |d t x=>
  by_cases hn:t=.nilr true
  ·subst hn;rfl
  ·have:X.okCellX (.d t x:XV den)=true/\X.isOwX (.d t x:XV den)=false:=by
    cases t with
    |nilr o=>cases o with
     |true=>simp_all
     |false=>simpa[X.isArgX]using h
    |_=>simpa[X.isArgX]using h
   rcases oa this.1 this.2 with⟨y,hy⟩|⟨c,hc⟩
   ·rw[hy];rfl
   ·rw[hc];rfl
 |k x=>rfl
 |_=>simp[X.isArgX,X.okCellX]at h
theorem IU:∀(l:List (Option Nat×XV den))(i:Nat),Sim (Y:=Y) (X.grabs dI i l) (grabs i (l.map λx=>(x.1,er x.2))) (List.map erG):=by
 intro l
 induction l with
 |nil=>intro i;exact .ret rfl
 |cons x l ih=>
  intro i;obtain⟨n,t⟩:=x
  have YZ:(∀m p vs,(n,er t)≠(some m,TV.ptr p vs))->(∀p vs,(n,er t)≠(some 0,TV.pk p vs))->Sim (Y:=Y) (if X.isArgX t then X.grabs dI (i+1) l else X.fail dI) (grabs i (((n,t)::l).map λx=>(x.1,er x.2))) (List.map erG):=by
   intro hne T1;refine Sim.ite (λh=>?_) λ_=>.fail
   have e:grabs i (((n,t)::l).map λx=>(x.1,er x.2))=if rE (er t)then grabs (i+1) (l.map λx=>(x.1,er x.2))else .fail:=by
    show grabs i ((n,er t)::_)=_
    cases n with
    |none=>rfl
    |some m=>cases he:er t with
     |ptr p vs=>simp_all
     |pk p vs=>cases m with
      |zero=>exact absurd (by rw[he]) (T1 p vs)
      |succ m=>rfl
     |_=>cases m<;>rfl
   rw[e,oIP (J4 h)];exact ih (i+1)
  cases n with
  |none=>exact YZ (by intro m p vs h;cases h) (by intro p vs h;cases h)
  |some m=>cases t with
   |pk p vs=>cases m with
    |zero=>exact ih (i+1)
    |succ m=>exact YZ (by intro m p vs h;cases h) (by intro p vs h;cases h)
   |ptr p vs=>exact(fM p _ vs).bind λ_=>(G7 p).bind λ_=>Sim.bind (by have:=IV (Y:=Y) p.root (X.baseXN p m) p.off;have e:Ox (erP p) m=X.baseXN p m:=(by have ⟨r,o,hs⟩:=p;cases hs<;>rfl);show Sim _ (DP (erP p).base (Ox (erP p) m)) _;rw[e];exact this) λl1=>(ih (i+1)).bind λq=>.ret rfl
   |d t y=>cases t with
    |row o t=>cases m<;>cases o<;>exact YZ (by intro m p vs h;cases h) (by intro p vs h;cases h)
    |nilr o=>cases m<;>cases o<;>exact YZ (by intro m p vs h;cases h) (by intro p vs h;cases h)
    |_=>cases m<;>exact YZ (by intro m p vs h;cases h) (by intro p vs h;cases h)
   |_=>cases m<;>exact YZ (by intro m p vs h;cases h) (by intro p vs h;cases h)
theorem ID(p:XP den):Sim (Y:=Y) (X.touch dI p) (touch (erP p)) id:=Sim.rdC λtv=>IC p.root p.off tv
theorem IG:∀q:List (XGP den),Sim (Y:=Y) (X.rechk dI q) (rechk (q.map erG)) id:=by
 intro q
 induction q with
 |nil=>exact .ret rfl
 |cons g q ih=>exact(fM g.p _ g.vs).bind λ_=>(ID g.p).bind λ_=>ih
theorem OD(i:Nat)(t:XV den):er (X.argT i t)=argT i (er t):=by
 cases t with
 |d t y=>cases t with
  |row o t=>cases o<;>rfl
  |nilr o=>cases o<;>rfl
  |_=>rfl
 |_=>rfl
theorem Mp:∀(l:List (XV den))(i:Nat),erL (X.argTs i l)=argTs i (erL l):=by
 intro l
 induction l with
 |nil=>intro i;rfl
 |cons t l ih=>intro i;simp[X.argTs,erL,argTs,ih,OD]
theorem HO{t:XV den}(h:X.isDeadX t=false):Gk (er t)=false:=by
 cases t with
 |d t y=>cases t with
  |row o t=>cases o<;>rfl
  |nilr o=>cases o<;>rfl
  |nat=>simp[X.isDeadX,X.oneT]at h
  |pair a b=>simp[X.isDeadX,X.oneT]at h
  |_=>rfl
 |dead=>simp[X.isDeadX]at h
 |_=>rfl
theorem El:∀q:List (XGP den×List (XV den)),Sim (Y:=Y) (X.putBack dI q) (putBack (q.map λx=>(erG x.1,erL x.2))) id:=by
 intro q
 induction q with
 |nil=>exact .ret rfl
 |cons x q ih=>
  have ⟨g,l⟩:=x;refine ih.bind λ_=>Sim.ite (λh=>?_) λ_=>.fail;have ⟨h1,h2,h3⟩:=h;show Sim _ (if(erL l).length=(erL g.cells).length&&(erL l).all λt=>!Gk t then putL (erP g.p) (erL l)else .fail) id;rw[oIP]
  ·exact FV g.p l
  ·simp only[oBA,oDE,fR];refine⟨h1,?_⟩;rw[ky,List.all_map,List.all_eq_true];intro t ht;have:=List.all_eq_true.1 h3 t ht;simp at this;simp[HO this]
theorem I8:∀(sh:List RSh)(l:List (XV den)),erL (X.shapeRX sh l)=jA sh (erL l):=by
 intro sh
 induction sh with
 |nil=>intro l;rfl
 |cons s sh ih=>
  intro l
  cases s with
  |one=>
   simp only[X.shapeRX,erL];rw[ih,DZ];cases l<;>rfl
  |agg n=>
   simp only[X.shapeRX,erL,jA,er];rw[ih,rr,tN]
  |ptr=>
   simp[X.shapeRX,erL,jA,er];rw[ih]
theorem Cv(sh:List RSh)(l:List (XV den)):er (X.shapeTX sh l)=sU sh (erL l):=by
 unfold X.shapeTX sU;rw[<- I8]
 cases X.shapeRX sh l with
 |nil=>rfl
 |cons x r=>cases r<;>rfl
theorem IR(dst:Option Nat)(cells:List (XV den))(sh:List RSh):Sim (Y:=Y) (X.landR dI dst cells sh) (landR dst ⟨erL cells,sh⟩) id:=by
 cases dst with
 |none=>exact .ret rfl
 |some d=>exact(qf d cells).bind λl=>eQ d (Cv sh l)
theorem J3(sh:List RSh)(cells:List (XV den)):isP ⟨erL cells,sh⟩=X.isPX sh cells:=by
 unfold isP X.isPX
 cases sh with
 |nil=>simp_all
 |cons s sh=>cases s with
  |ptr=>cases cells with
   |nil=>rfl
   |cons t r=>cases t with
    |d t y=>cases t with
     |row o t=>cases o<;>rfl
     |nilr o=>cases o<;>rfl
     |_=>rfl
    |_=>rfl
  |_=>rfl
theorem He(t:XV den)(l:List (XV den)):er (X.shapePX t l)=F3 (er t) (erL l):=by
 cases l<;>rfl
theorem IS(dst:Option Nat)(q:List (XGP den))(cells:List (XV den)):Sim (Y:=Y) (X.landP dI dst q cells) (landP dst (q.map erG) (erL cells)) id:=by
 cases dst with
 |none=>exact .ret rfl
 |some d=>
  unfold X.landP;simp only;split
  ·rename_i pl vs l g;refine Sim.ite (λhc=>?_) λ_=>.fail;show Sim _ (if pl.root==2*g.i+2&&(erP g.p).hops.isEmpty then(rdVs (qn g.p.root (g.p.off+pl.off) (erP pl).hops.length)).bind λvs=>wr d (F3 (.ptr ⟨g.p.root,g.p.off+pl.off,(erP pl).hops⟩ vs) (erL l))else .fail) id;rw[oIP (by simpa[erP]using hc)];exact(wG _).bind λvs=>eQ d (He _ l)
  ·exact .fail
theorem O0(q:List (XGP den))(l:List (Nat×List (XV den))):(q.zip (l.map (·.2))).map (λx=>(erG x.1,erL x.2))=(q.map erG).zip ((erC l).map (·.2)):=by
 induction q generalizing l with
 |nil=>rfl
 |cons g q ih=>
  cases l with
  |nil=>rfl
  |cons x l=>simp[erC,ih]
theorem JT(z:List (Option Nat×XV den))(i:Nat):lentTo (z.map λx=>(x.1,er x.2)) i=X.lentTo z i:=by
 unfold lentTo X.lentTo;rw[List.getElem?_map]
 cases z[i]? with
 |none=>rfl
 |some x=>
  obtain⟨n,t⟩:=x
  cases n with
  |none=>rfl
  |some n=>cases n with
   |zero=>rfl
   |succ n=>cases t with
    |d t y=>cases t with
     |row o t=>cases o<;>rfl
     |nilr o=>cases o<;>rfl
     |_=>rfl
    |_=>rfl
theorem LJ(x:Option Nat×XV den):normA (x.1,er x.2)=((X.normA x).1,er (X.normA x).2):=by
 obtain⟨n,t⟩:=x
 cases n with
 |none=>rfl
 |some n=>cases t with
  |d t y=>cases t with
   |row o t=>cases o<;>rfl
   |nilr o=>cases o<;>rfl
   |_=>rfl
  |_=>rfl
theorem Em:∀z:List (Option Nat×XV den),Sim (Y:=Y) (X.lendChk dI z) (lendChk (z.map λx=>(x.1,er x.2))) id:=by
 intro z
 induction z with
 |nil=>exact .ret rfl
 |cons x z ih=>
  obtain⟨n,t⟩:=x
  cases n with
  |none=>exact ih
  |some n=>cases n with
   |zero=>exact ih
   |succ k=>cases t with
    |pk p vs=>
     refine(fM p _ vs).bind λ_=>Sim.rdT λt=>?_
     cases t with
     |pk q ws=>
      refine Sim.ite (λhc=>?_) λ_=>.fail;show Sim _ (if p.root=2*k+3/\p.off=0/\(erP p).hops.isEmpty=true/\q.root=2*k+3/\q.off=0/\(erP q).hops.isEmpty=true/\vs=ws then _ else _) id;rw[oIP (by simpa[erP]using hc)];exact ih
     |d t y=>cases t with
      |row o t=>cases o<;>exact .fail
      |nilr o=>cases o<;>exact .fail
      |_=>exact .fail
     |_=>exact .fail
    |d t y=>cases t with
     |row o t=>cases o<;>exact ih
     |nilr o=>cases o<;>exact ih
     |_=>exact ih
    |_=>exact ih
theorem Cp(z:List (Option Nat×XV den))(ks:List Nat):∀(ow:List (Nat×XV den))(rs:List (List (XV den))),Sim (Y:=Y) (X.giveBack dI z ks ow rs) (giveBack (z.map λx=>(x.1,er x.2)) ks (ow.map λx=>(x.1,er x.2)) (rs.map erL)) id:=by
 intro ow
 induction ow with
 |nil=>intro rs;exact .ret rfl
 |cons x ow ih=>
  intro rs
  cases rs with
  |nil=>exact .fail
  |cons y rs=>
   refine(ih rs).bind λ_=>?_;show Sim _ (match lentTo (z.map λx=>(x.1,er x.2)) x.1 with|none=>_|some k=>_) id;rw[JT]
   cases X.lentTo z x.1 with
   |none=>exact .ret rfl
   |some k=>
    cases y with
    |nil=>exact .fail
    |cons v y=>
     cases y with
     |cons v2 y=>exact .fail
     |nil=>
      refine Sim.ite (λhc=>?_) λ_=>.fail;obtain⟨c,hv⟩:=ml hc.1;show Sim _ (match[er v]with | [.ow c]=>if ks.contains (1000000+x.1)=true/\x.1≠1000000 then(names k [.ow c]).bind λl=>.wrT k (l.headD .dead) (.ret ())else .fail|_=>.fail) id;rw[hv];simp only;rw[oIP hc.2];have h:=qf (Y:=Y) k [v];rw[show erL [v]=[.ow c] by simp[erL,hv]]at h;refine h.bind λl=>?_;rw[show(erL l).headD .dead=er (l.headD .dead) by cases l<;>rfl];exact ux k _
theorem Hd{F:fQ}(dst:Option Nat)(f:FuncId)(vals:List (XV den))(q:List (XGP den))(ow:List (Nat×XV den))(z:List (Option Nat×XV den))(u:HL den []):∀(TB:List Ctr),(∀c∈TB,vi F c)->Sim (Y:=Y) (X.callTB dI dst f vals q ow z u TB) ((jH (F f (erL vals) ((q.map erG).map (λg=>(2*g.i+2,g.cells))++(ow.map λx=>(x.1,er x.2)).map λx=>(2*x.1+3,[x.2])))).bind λr=>
 if(r.2.map (·.1)).take ((q.map erG).length+(ow.map λx=>(x.1,er x.2)).length)=(q.map erG).map (λg=>2*g.i+2)++(ow.map λx=>(x.1,er x.2)).map (λx=>2*x.1+3)&&(isP r.1||qj r.1.sh r.1.cells.length)then(putBack ((q.map erG).zip (r.2.map (·.2)))).bind λ_=>(giveBack (z.map λx=>(x.1,er x.2)) ((r.2.drop ((q.map erG).length+(ow.map λx=>(x.1,er x.2)).length)).map (·.1)) (ow.map λx=>(x.1,er x.2)) ((r.2.drop (q.map erG).length).map (·.2))).bind λ_=>if isP r.1 then(if(ow.map λx=>(x.1,er x.2)).isEmpty then landP dst (q.map erG) r.1.cells else .fail)else landR dst r.1 else .fail) id:=by
 intro TB
 induction TB with
 |nil=>intro _;exact .fail
 |cons c TB ih=>
  intro YF;have ZM:=ih λc' Xd=>YF c' (by simp[Xd]);unfold X.callTB
  cases hsel:(if c.f=f then X.convIn dI c vals (q.map (λg=>(2*g.i+2,g.cells))++ow.map λy=>(2*y.1+3,[y.2])) u else none)with
  |none=>exact ZM
  |some h=>
   by_cases hf:c.f=f
   ·rw[oIP hf]at hsel;obtain⟨e1,e2⟩:=D3 hsel;intro σ k y hk;obtain⟨o,ho,hk⟩:=dS (show(c.g h).bind _=some y from hk);rw[yl (λr=>X.onOut dI r λx=>X.afterC dI dst q ow z x σ k)]at hk
    cases hx:lL (c.outs.map lvO) o (λi ho=>mn c.outs i ho)with
    |none=>rw[hx]at hk;cases hk
    |some x=>
     rw[hx]at hk;have hk:X.afterC dI dst q ow z x σ k=some y:=hk;have hF:=YF c (by simp) h o x ho hx
     have e3:erC (q.map (λg=>(2*g.i+2,g.cells))++ow.map λy=>(2*y.1+3,[y.2]))=(q.map erG).map (λg=>(2*g.i+2,g.cells))++(ow.map λx=>(x.1,er x.2)).map λx=>(2*x.1+3,[x.2]):=by
      unfold erC;rw[List.map_append,List.map_map,List.map_map,List.map_map,List.map_map];congr 1
     rw[e1,e2,e3,hf]at hF;rw[hF]
     have hE:∀m,(erC x.2.2).drop m=erC (x.2.2.drop m):=λm=>by unfold erC;rw[List.map_drop]
     have hK:∀l:List (Nat×List (XV den)),(erC l).map (·.1)=l.map (·.1):=λl=>by unfold erC;rw[List.map_map];exact List.map_congr_left λ_ _=>rfl
     have hV:∀l:List (Nat×List (XV den)),(erC l).map (·.2)=(l.map (·.2)).map erL:=λl=>by unfold erC;rw[List.map_map,List.map_map];exact List.map_congr_left λ_ _=>rfl
     have key:Sim (Y:=Y) (X.afterC dI dst q ow z x) (if((erC x.2.2).map (·.1)).take ((q.map erG).length+(ow.map λx=>(x.1,er x.2)).length)=(q.map erG).map (λg=>2*g.i+2)++(ow.map λx=>(x.1,er x.2)).map (λx=>2*x.1+3)&&(isP ⟨erL x.1,x.2.1⟩||qj x.2.1 (erL x.1).length)then(putBack ((q.map erG).zip ((erC x.2.2).map (·.2)))).bind λ_=>(giveBack (z.map λx=>(x.1,er x.2)) (((erC x.2.2).drop ((q.map erG).length+(ow.map λx=>(x.1,er x.2)).length)).map (·.1)) (ow.map λx=>(x.1,er x.2)) (((erC x.2.2).drop (q.map erG).length).map (·.2))).bind λ_=>if isP ⟨erL x.1,x.2.1⟩then(if(ow.map λx=>(x.1,er x.2)).isEmpty then landP dst (q.map erG) (erL x.1)else .fail)else landR dst ⟨erL x.1,x.2.1⟩else .fail) id:=by
      unfold X.afterC;refine Sim.ite (λhc=>?_) λ_=>.fail
      have h6:(q.map erG).map (λg=>2*g.i+2)=q.map (λg=>2*g.i+2):=by rw[List.map_map];exact List.map_congr_left λ_ _=>rfl
      have h7:(ow.map λx=>(x.1,er x.2)).map (λx=>2*x.1+3)=ow.map (λy=>2*y.1+3):=by rw[List.map_map];exact List.map_congr_left λ_ _=>rfl
      have hC:(decide (((erC x.2.2).map (·.1)).take ((q.map erG).length+(ow.map λx=>(x.1,er x.2)).length)=(q.map erG).map (λg=>2*g.i+2)++(ow.map λx=>(x.1,er x.2)).map (λx=>2*x.1+3))&&(isP ⟨erL x.1,x.2.1⟩||qj x.2.1 (erL x.1).length))=true:=by
       rw[J3,hK,h6,h7,List.length_map,List.length_map,fR,oDT hc.1,Bool.true_and];exact hc.2
      rw[oIP hC,<- O0,J3,hE,hE,hK,hV,List.length_map,List.length_map];refine(El _).bind λ_=>(Cp z _ ow _).bind λ_=>?_
      cases X.isPX x.2.1 x.1 with
      |true=>
       show Sim (if ow.isEmpty=true then _ else _) (if(ow.map λx=>(x.1,er x.2)).isEmpty=true then _ else _) id;rw[List.isEmpty_map];refine Sim.ite (λh=>?_) λh=>?_
       ·rw[oIP h];exact IS dst q x.1
       ·rw[oIN h];exact .fail
      |false=>exact IR dst x.1 x.2.1
     exact key σ k y hk
   ·rw[oIN hf]at hsel;cases hsel
end
section
variable {α β γ δ Y:Type}
theorem Cq{F:fQ}{TB:List Ctr}(YF:∀c∈TB,vi F c)(u:HL den [])(dst:Option Nat)(f:FuncId)(ns:List (Option Nat))(vals:List (XV den)):Sim (Y:=Y) (X.callV dI TB u dst f ns vals) (callV F dst f ns (erL vals)) id:=by
 have ez:∀(ns:List (Option Nat))(vals:List (XV den)),(ns.zip vals).map (λx=>(x.1,er x.2))=ns.zip (erL vals):=by
  intro ns
  induction ns with
  |nil=>intro vals;rfl
  |cons n ns ih=>
   intro vals
   cases vals with
   |nil=>rfl
   |cons v vals=>simp only[List.zip_cons_cons,List.map_cons,erL,ih]
 unfold callV
 have en:(ns.zip (erL vals)).map normA=((ns.zip vals).map X.normA).map λx=>(x.1,er x.2):=by
  rw[<- ez,List.map_map,List.map_map];exact List.map_congr_left λx _=>LJ x
 rw[en,<- ez];refine(Em _).bind λ_=>(Cn _ 0).bind λow=>(IU _ 0).bind λq=>(IG q).bind λ_=>Sim.ite (λh=>?_) λ_=>.fail;rw[oIP]
 ·rw[<- Mp];exact Hd dst f _ q ow (ns.zip vals) u TB YF
 ·rw[List.map_map,List.all_map];simp only[oBA]at h⊢;refine⟨h.1,?_⟩;rw[List.all_eq_true]at h⊢;intro g hg;have:=h.2 g hg;simpa[erG,fR]using this
theorem IX(dst:Option Nat)(tm:List BxC)(vals:List (XV den))(hok:tm.all X.boxOk=true):Sim (Y:=Y) (X.evBox dI dst tm vals) (evBox dst tm (erL vals)) id:=by
 cases dst with
 |none=>exact .fail
 |some d=>
  have e:erL (tm.map (X.bxX dI vals))=tm.map (bxT (erL vals)):=by
   rw[ky,List.map_map];refine List.map_congr_left λb hb=>?_;have:=List.all_eq_true.1 hok b hb
   cases b with
   |arg i=>exact wS vals i
   |val x=>
    show er (X.cellX dI x)=.v x;rw[wV];simp[X.boxOk]at this;unfold eH;split
    all_goals simp_all
  show Sim _ ((takeL false (tm.map (bxT (erL vals)))).bind _) id;rw[<- e];exact(nZ false _).bind λl=>Sim.new rfl (Sim.rdV λg=>eQ d rfl)
theorem FU(x:XV den):Sim (Y:=Y) (X.see1 dI x) (see1 (er x)) er:=by
 cases x with
 |d t y=>cases t with
  |int k=>exact .ret rfl
  |bool=>exact .ret rfl
  |str=>exact .ret rfl
  |nat=>exact .fail
  |row o t=>cases o<;>first|exact .fail|exact .ret rfl
  |nilr o=>cases o<;>exact .ret rfl
  |pair a b=>exact .fail
 |k y=>exact .ret rfl
 |pk p vs=>
  refine(fM p _ vs).bind λ_=>Sim.rdC λtv=>wH λv hv=>?_;refine Sim.ite (λho=>?_) λ_=>.fail;have ⟨c,hc⟩:=ml ho
  have Yy:eE (er tv) (erP p).hops=some (.ow c):=by rw[<- hc];exact hv
  simp[Yy];intro σ k y hk
  cases hi:X.immX dI v with
  |none=>rw[hi]at hk;cases hk
  |some v'=>
   rw[hi]at hk;exact Sim.ret (by rw[uU hi,hc]) σ k y hk
 |_=>exact .fail
theorem K7:∀l:List (XV den),Sim (Y:=Y) (X.seeL dI l) (seeL (erL l)) erL:=by
 intro l
 induction l with
 |nil=>exact .ret rfl
 |cons t r ih=>exact(FU t).bind λt'=>ih.bind λr'=>.ret rfl
theorem K8(t:XV den):Sim (Y:=Y) (X.seeA dI t) (seeA (er t)) er:=by
 have key:=FU (Y:=Y) t
 cases t with
 |agg l=>exact(K7 l).bind λl'=>.ret rfl
 |ip cs=>exact .ret rfl
 |fn f cap=>
  refine Sim.ite (λh=>?_) λ_=>.fail;show Sim _ (if(erL cap).all Dd then .ret (.fn f (erL cap))else .fail) er;rw[oIP (Bh h)];exact .ret rfl
 |d t y=>cases t with
  |row o t=>cases o<;>exact key
  |nilr o=>cases o<;>exact key
  |_=>exact key
 |_=>exact key
theorem IF:∀l:List Opd,Sim (Y:=Y) (X.seeAs dI l) (seeAs l) erL:=by
 intro l
 induction l with
 |nil=>exact .ret rfl
 |cons x r ih=>exact dN λt=>(K8 t).bind λt'=>ih.bind λl=>.ret rfl
theorem Gt{l:List (XV den)}(h:l.all X.flatX=true):(erL l).all Eg=true:=by
 rw[ky,List.all_map,List.all_eq_true];intro x hx;have:=List.all_eq_true.1 h x hx
 cases x with
 |d t y=>cases t<;>first|rfl|simp[X.flatX]at this
 |k y=>exact this
 |_=>simp[X.flatX]at this
theorem I3{F:fQ}(dst:Option Nat)(f:FuncId)(vals:List (XV den))(u:HL den []):∀(TB:List Ctr),(∀c∈TB,vi F c)->Sim (Y:=Y) (X.callB dI dst f vals u TB) (callB F dst f (erL vals)) id:=by
 intro TB
 induction TB with
 |nil=>intro _;exact .fail
 |cons c TB ih=>
  intro YF;have ZM:=ih λc' Xd=>YF c' (by simp[Xd]);unfold X.callB
  cases hsel:(if c.f=f then X.convIn dI c vals [] u else none)with
  |none=>exact ZM
  |some h=>
   by_cases hf:c.f=f
   ·rw[oIP hf]at hsel;obtain⟨e1,e2⟩:=D3 hsel;intro σ k y hk;have ⟨o,ho,hk⟩:=dS (show(c.g h).bind _=some y from hk);rw[yl (λz=>X.onOut dI z λx=>X.afterB dI dst x σ k)]at hk
    cases hx:lL (c.outs.map lvO) o (λi ho=>mn c.outs i ho)with
    |none=>rw[hx]at hk;cases hk
    |some x=>
     rw[hx]at hk;have hk:X.afterB dI dst x σ k=some y:=hk;unfold X.afterB at hk;have hF:=YF c (by simp) h o x ho hx;rw[e1,e2,hf]at hF;have hF:F f (erL vals) []=some (⟨erL x.1,x.2.1⟩,erC x.2.2):=hF;unfold callB;rw[hF];show ∃a σ',(if(erC x.2.2).length=0&&(erL x.1).all Eg&&qj x.2.1 (erL x.1).length then _ else _:SP Unit).run (erS σ)=_/\oy σ σ' ((if(erC x.2.2).length=0&&(erL x.1).all Eg&&qj x.2.1 (erL x.1).length then _ else _:SP Unit).foot (erS σ))/\_;split at hk
     ·rename_i hc;rw[oIP]
      ·cases dst with
       |none=>exact Sim.ret (a:=()) (f:=id) rfl σ k y hk
       |some d=>exact eQ d (Cv x.2.1 x.1) σ k y hk
      ·simp only[oBA,fR];refine⟨⟨?_,Gt hc.2.1⟩,hc.2.2⟩;unfold erC
       simp_all
     ·cases hk
   ·simp_all
theorem HP(zs:List Int):tJ (zs.map sy)=some zs:=by
 induction zs with
 |nil=>rfl
 |cons z zs ih=>simp only[List.map_cons,sy,tJ]at ih⊢;rw[ih];rfl
theorem xk(dst:Option Nat)(k:Nat)(p:XP den)(vs:List Nat)(m:Nat):Sim (Y:=Y) (X.rowLand dI dst k p vs m) (rowLand dst k (erP p) vs m) id:=by
 cases dst with
 |none=>exact .ret rfl
 |some d=>
  refine Sim.ite (λh=>?_) λh=>?_
  ·show Sim _ (if k=1 then wr d (.tup [])else wr d (.pw (erP p) vs 1 0 m)) id;rw[oIP h];exact eQ d rfl
  ·show Sim _ (if k=1 then wr d (.tup [])else wr d (.pw (erP p) vs 1 0 m)) id;rw[oIN h];exact eQ d rfl
theorem IW(dst:Option Nat)(k:Nat)(t:XV den):Sim (Y:=Y) (X.evRow dI dst k t) (evRow dst k (er t)) id:=by
 cases t with
 |pk p vs=>
  refine(fM p 1 vs).bind λ_=>?_;obtain⟨r,o,hs⟩:=p
  cases hs with
  |cons h hs=>exact .fail
  |nil=>
   refine Sim.rdC λtv=>?_
   cases tv with
   |d t y=>cases t with
    |row o t=>cases o with
     |false=>exact .fail
     |true=>cases t with
      |int kk=>cases kk with
       |i64=>
        show Sim _ (match tJ (List.map sy y)with|some zs=>_|none=>_) id;rw[HP];refine Sim.br λh=>?_;have h:y.length<4611686018427387904:=Nat.le_of_ble_eq_true h;show Sim _ (if y.length<4611686018427387904 then _ else _) id;rw[oIP h];exact Sim.wrC rfl (xk dst k _ vs _)
       |_=>exact .fail
      |_=>exact .fail
    |nilr o=>cases o with
     |false=>exact .fail
     |true=>
      have h:=xk (Y:=Y) dst k ⟨r,o,[]⟩ vs 0;rw[<- wK]at h;exact Sim.wrC (by rw[F4];rfl) h
    |_=>exact .fail
   |_=>exact .fail
 |d t y=>cases t with
  |row o t=>cases o<;>exact .fail
  |nilr o=>cases o<;>exact .fail
  |_=>exact .fail
 |_=>exact .fail
theorem Ha(dst:Option Nat)(k:Nat)(args:List (Option Nat×Opd)):Sim (Y:=Y) (X.evRowA dI dst k args) (evRowA dst k args) id:=by
 cases args with
 |nil=>exact .fail
 |cons x args=>
  cases args with
  |nil=>exact(sj x.2).bind λt=>IW dst k t
  |cons y args=>exact .fail
theorem Hb{F:fQ}{TB:List Ctr}(YF:∀c∈TB,vi F c)(E:Env)(u:HL den [])(dst:Option Nat)(op:TOp):Sim (Y:=Y) (X.evCall dI E TB u dst op) (evCall E F dst op) id:=by
 cases op with
 |call k f args=>
  cases f with
  |f f=>
   by_cases hrow:E.row f≠0
   ·have e1:X.evCall (X:=Y) dI E TB u dst (.call k (.f f) args)=X.evRowA dI dst (E.row f) args:=oIP hrow;have e2:evCall E F dst (.call k (.f f) args)=evRowA dst (E.row f) args:=oIP hrow;rw[e1,e2];exact Ha dst _ args
   have e1:X.evCall (X:=Y) dI E TB u dst (.call k (.f f) args)=if k then X.bind (X.argVs dI args) λvals=>(match E.box f with
    |some x=>if vals.length=x.1/\x.2.all X.boxOk=true then X.evBox dI dst x.2 vals else X.fail dI
    |none=>X.callV dI TB u dst f (args.map (·.1)) vals)else X.bind (X.seeAs dI (args.map (·.2))) λvals=>X.callB dI dst f vals u TB:=oIN hrow
   have e2:evCall E F dst (.call k (.f f) args)=if k then(argVs args).bind λvals=>(match E.box f with
    |some x=>if vals.length=x.1 then evBox dst x.2 vals else .fail
    |none=>callV F dst f (args.map (·.1)) vals)else(seeAs (args.map (·.2))).bind λvals=>callB F dst f vals:=oIN hrow
   rw[e1,e2]
   cases k with
   |false=>exact(IF _).bind λvals=>I3 dst f vals u TB YF
   |true=>
   refine(Cr _).bind λvals=>?_
   cases hb:E.box f with
   |none=>exact Cq YF u dst f _ vals
   |some x=>
    refine Sim.ite (λh=>?_) λ_=>.fail;show Sim _ (if(erL vals).length=x.1 then evBox dst x.2 (erL vals)else .fail) id;rw[oIP (by rw[fR];exact h.1)];exact IX dst x.2 vals h.2
  |t i=>
   refine Sim.rdT λt=>?_
   cases t with
   |fn f caps=>
    refine(Cr _).bind λvals=>?_;have:=Cq (Y:=Y) YF u dst f (args.map (·.1)++Kx E f args.length caps.length) (vals++caps);rw[ru]at this;show Sim _ (callV F dst f (args.map (·.1)++Kx E f args.length (erL caps).length) (erL vals++erL caps)) id;rw[fR];exact this
   |d t y=>cases t with
    |row o t=>cases o<;>exact .fail
    |nilr o=>cases o<;>exact .fail
    |_=>exact .fail
   |_=>exact .fail
  |c x=>exact .fail
 |_=>exact .fail
theorem IO{F:fQ}{C:X.Cfg}(YF:∀c∈C.TB,vi F c)(u:HL den [])(dst:Option Nat)(op:TOp):Sim (Y:=Y) (X.evop dI C u dst op) (evop (evCall C.E F) dst op) id:=by
 have key:∀d,Sim (Y:=Y) (X.ev1 dI C.HT d op) (ev1 d op) id:=λd=>O2 C.HT d op;have kc:=Hb (Y:=Y) YF C.E u dst op
 cases op with
 |call k f args=>exact kc
 |store n mv a x=>cases dst with
  |none=>exact key 0
  |some d=>exact .fail
 |_=>cases dst with
  |none=>exact .fail
  |some d=>exact key d
theorem xj(dst:Option Nat):Sim (Y:=Y) (X.setNo dI dst) (setNo dst) id:=by
 cases dst with
 |none=>exact .ret rfl
 |some d=>exact ux d (.tup [])
theorem Gg{σ:XS den}{j:Nat}{b:Bool}(h:X.tOf σ j=.d .bool b):erS (X.known dI j b σ)=erS σ:=by
 have h1:eF σ.tm j=some (.d .bool b):=by
  unfold X.tOf at h
  cases hg:eF σ.tm j with
  |none=>simp_all
  |some t=>simp_all
 have:=um h1;show(⟨(fI σ.tm j (.d .bool b)).map _,erC σ.ce,σ.vr⟩:St)=_;rw[this];rfl
theorem FS{F:fQ}{C:X.Cfg}(YF:∀c∈C.TB,vi F c)(u:HL den [])(o:iZ):Sim (Y:=Y) (X.spOp dI C u o) (spOp (evCall C.E F) o) id:=by
 unfold X.spOp spOp
 cases hg:o.guard with
 |none=>exact IO YF u o.dst o.op
 |some g=>
  obtain⟨j,want⟩:=g;intro σ k y hk
  cases ht:X.tOf σ j with
  |d t b=>cases t with
   |bool=>
    have hk:(bif b then((if want then X.evop dI C u o.dst o.op else X.setNo dI o.dst) (X.known dI j true (X.lgR (.t j) σ)) k)else((if want then X.setNo dI o.dst else X.evop dI C u o.dst o.op) (X.known dI j false (X.lgR (.t j) σ)) k))=some y:=by
     have hk:X.guardX dI j want (X.evop dI C u o.dst o.op) (X.setNo dI o.dst) (X.tOf σ j) (X.lgR (.t j) σ) k=some y:=hk;rw[ht]at hk;exact hk
    have key:∀(m:XM den Option Y Unit)(s:SP Unit),Sim m s id->m (X.known dI j b (X.lgR (.t j) σ)) k=some y->∃a σ',s.run (erS σ)=some (id a,erS σ')/\oy σ σ' (.t j::(s.foot (erS σ)).1,(s.foot (erS σ)).2)/\k a σ'=some y:=by
     intro m s hm h;have e:erS (X.known dI j b (X.lgR (.t j) σ))=erS σ:=Gg (σ:=X.lgR (.t j) σ) ht;obtain⟨a,σ',r1,n1,k1⟩:=hm _ k y h;rw[e]at r1 n1;refine⟨a,σ',r1,⟨λx hx=>?_,λx hx=>n1.w x hx,λx hx=>n1.r0 x (by simp[X.known,X.lgR,hx]),λx hx=>n1.w0 x (by simpa[X.known,X.lgR]using hx)⟩,k1⟩;rcases List.mem_cons.1 hx with h|h
     ·exact n1.r0 x (by simp[X.known,X.lgR,h])
     ·exact n1.r x h
    have hst:(erS σ).t j=.v (.bool b):=by rw[Me,ht];rfl
    have res:∀(s:SP Unit),(if b=want then evop (evCall C.E F) o.dst o.op else setNo o.dst)=s->(∃a σ',s.run (erS σ)=some (id a,erS σ')/\oy σ σ' (.t j::(s.foot (erS σ)).1,(s.foot (erS σ)).2)/\k a σ'=some y)->∃a σ',(SP.rdT j λt=>match t with|.v (.bool b)=>if b=want then evop (evCall C.E F) o.dst o.op else setNo o.dst|.tup []=>setNo o.dst|_=>.fail).run (erS σ)=some (id a,erS σ')/\oy σ σ' ((SP.rdT j λt=>match t with|.v (.bool b)=>if b=want then evop (evCall C.E F) o.dst o.op else setNo o.dst|.tup []=>setNo o.dst|_=>.fail).foot (erS σ))/\k a σ'=some y:=by
     rintro s hs ⟨a,σ',r1,n1,k1⟩;refine⟨a,σ',?_,?_,k1⟩
     ·simp only[SP.run,hst,hs];exact r1
     ·simp only[SP.foot,hst,hs];exact n1
    cases b with
    |true=>
     cases want with
     |true=>exact res _ (oIP rfl) (key _ _ (IO YF u o.dst o.op) hk)
     |false=>exact res _ (oIN (by simp)) (key _ _ (xj o.dst) hk)
    |false=>
     cases want with
     |true=>exact res _ (oIN (by simp)) (key _ _ (xj o.dst) hk)
     |false=>exact res _ (oIP rfl) (key _ _ (IO YF u o.dst o.op) hk)
   |_=>
    have hk:X.guardX dI j want (X.evop dI C u o.dst o.op) (X.setNo dI o.dst) (X.tOf σ j) (X.lgR (.t j) σ) k=some y:=hk;rw[ht]at hk;cases hk
  |tup l=>
   have hk:X.guardX dI j want (X.evop dI C u o.dst o.op) (X.setNo dI o.dst) (X.tOf σ j) (X.lgR (.t j) σ) k=some y:=hk;rw[ht]at hk
   cases l with
   |cons=>cases hk
   |nil=>
    have hst:(erS σ).t j=.tup []:=by rw[Me,ht];rfl
    obtain⟨a,σ',r1,n1,k1⟩:=xj o.dst (X.lgR (.t j) σ) k y hk;refine⟨a,σ',?_,?_,k1⟩
    ·simp only[SP.run,hst];exact r1
    ·simp only[SP.foot,hst];refine⟨λx hx=>?_,n1.w,λx hx=>n1.r0 x (by simp[X.lgR,hx]),λx hx=>n1.w0 x hx⟩;rcases List.mem_cons.1 hx with h|h
     ·exact n1.r0 x (by simp[X.lgR,h])
     ·exact n1.r x h
  |_=>
   have hk:X.guardX dI j want (X.evop dI C u o.dst o.op) (X.setNo dI o.dst) (X.tOf σ j) (X.lgR (.t j) σ) k=some y:=hk;rw[ht]at hk;cases hk
end
section
variable {α β γ δ Y:Type}
theorem K2{F:fQ}{C:X.Cfg}(YF:∀c∈C.TB,vi F c)(u:HL den []):∀(ops:List iZ){σ:XS den}{k:Unit->XS den->Option Y}{y:Y},X.spOps dI C u ops σ k=some y->∃ σ',sY (evCall C.E F) ops (erS σ)=some (erS σ')/\k () σ'=some y:=by
 intro ops
 induction ops with
 |nil=>intro σ k y h;exact⟨σ,rfl,h⟩
 |cons o ops ih=>
  intro σ k y h;have ⟨a,σ1,r1,_,h1⟩:=FS YF u o σ _ y h;have ⟨σ',r2,h2⟩:=ih h1;refine⟨σ',?_,h2⟩;simp[sY];rw[FQ r1];exact r2
def Gr(f g:rB):Prop:=(∀x∈f.1,x∈g.1)/\∀x∈f.2,x∈g.2
inductive OX:List (Nat×rB)->List (Nat×rB)->Prop
 |nil:OX [] []
 |cons {i:Nat} {f g:rB} {l r:List (Nat×rB)} (h:Gr f g) (t:OX l r):OX ((i,f)::l) ((i,g)::r)
theorem tg{a a' b b':List Loc}(ha:∀x∈a,x∈a')(hb:∀x∈b,x∈b')(h:HE a' b'=false):HE a b=false:=by
 unfold HE at h⊢
 simp_all
theorem Ib{f f' g g':rB}(h1:Gr f f')(h2:Gr g g')(h:o8 f' g'=false):o8 f g=false:=by
 unfold o8 at h⊢;simp at h⊢;have ⟨⟨⟨a,b⟩,c⟩,d⟩:=h;exact⟨⟨⟨tg h1.2 h2.1 a,tg h1.2 h2.2 b⟩,tg h2.2 h1.1 c⟩,tg h2.2 h1.2 d⟩
theorem JF{deps:List (List Nat)}{j:Nat}{f f':rB}(hf:Gr f f'){l r:List (Nat×rB)}(h:OX l r):(r.all λy=>!o8 f' y.2||(deps.getD y.1 []).contains j)=true->(l.all λy=>!o8 f y.2||(deps.getD y.1 []).contains j)=true:=by
 induction h with
 |nil=>exact id
 |cons h t ih=>
  intro hr;simp only[List.all_cons,oBA]at hr⊢;refine⟨?_,ih hr.2⟩;simp at hr⊢;rcases hr.1 with h3|h3
  ·exact .inl (Ib hf h h3)
  ·simp_all
theorem CI{deps:List (List Nat)}{l r:List (Nat×rB)}(h:OX l r):iX deps r=true->iX deps l=true:=by
 induction h with
 |nil=>exact id
 |cons h t ih=>
  intro hr;simp only[iX,oBA]at hr⊢;exact⟨JF h t hr.1,ih hr.2⟩
theorem Nj{F:fQ}{C:X.Cfg}(YF:∀c∈C.TB,vi F c)(u:HL den [])(ops:List iZ):∀(L:List Nat){σ:XS den}{k:List (Nat×rB)->XS den->Option Y}{y:Y},X.spFL dI C u ops L σ k=some y ->
 ∃fs gs σ',rC (λi=>spOp (evCall C.E F) (ops.getD i Ef)) L (erS σ)=some (fs,erS σ')/\OX fs gs/\k gs σ'=some y:=by
 intro L
 induction L with
 |nil=>intro σ k y h;exact⟨[],[],σ,rfl,.nil,h⟩
 |cons i L ih=>
  intro σ k y h;have ⟨a,σ1,r1,n1,h1⟩:=FS YF u _ _ _ y h;have r1:(spOp (evCall C.E F) (ops.getD i Ef)).run (erS σ)=some (a,erS σ1):=r1;have ⟨fs,gs,σ',r2,le,h2⟩:=ih h1;refine⟨(i,(spOp (evCall C.E F) (ops.getD i Ef)).foot (erS σ))::fs,(i,σ1.lg)::gs,σ',?_,.cons ⟨n1.r,n1.w⟩ le,h2⟩;simp[rC]
  simp_all
theorem uG(L:List Nat)(σ:XS den){t:XV den}(h:X.okN0 t=true):er (X.renorm0 L σ t)=renorm0 L (erS σ) (er t):=by
 cases t with
 |d t x=>cases t with
  |row o t=>cases o<;>first|rfl|simp[X.okN0]at h
  |nilr o=>cases o<;>rfl
  |nat=>simp[X.okN0]at h
  |pair a b=>simp[X.okN0]at h
  |_=>rfl
 |ptr p vs=>
  show er (if _ then _ else _)=(if _ then _ else _);by_cases hc:(L.contains p.root&&vs==jp (sg σ.vr) p.root p.off p.hops.length)=true
  ·rw[oIP hc,oIP (by exact hc)];rfl
  ·rw[oIN hc,oIN (by exact hc)];rfl
 |pk p vs=>
  show er (if _ then _ else _)=(if _ then _ else _);by_cases hc:(L.contains p.root&&vs==jp (sg σ.vr) p.root p.off (p.hops.length+1))=true
  ·rw[oIP hc,oIP (by exact hc)];rfl
  ·rw[oIN hc,oIN (by exact hc)];rfl
 |pw p vs sz lo n=>
  show er (if _ then _ else _)=(if _ then _ else _);by_cases hc:(L.contains p.root&&vs==jp (sg σ.vr) p.root p.off (p.hops.length+1))=true
  ·rw[oIP hc,oIP (by exact hc)];rfl
  ·rw[oIN hc,oIN (by exact hc)];rfl
 |tup l=>cases l<;>rfl
 |gap=>simp[X.okN0]at h
 |_=>rfl
theorem Jn(L:List Nat)(σ:XS den){t:XV den}(h:X.okN t=true):er (X.renorm L σ t)=renorm L (erS σ) (er t):=by
 have key:X.okN0 t=true->er (X.renorm0 L σ t)=renorm0 L (erS σ) (er t):=λh=>uG L σ h
 cases t with
 |agg l=>
  simp only[X.renorm,er,renorm,ky,List.map_map];congr 1;refine List.map_congr_left λx hx=>uG L σ (List.all_eq_true.1 h x hx)
 |fn f l=>
  simp only[X.renorm,er,renorm,ky,List.map_map];congr 1;refine List.map_congr_left λx hx=>uG L σ (List.all_eq_true.1 h x hx)
 |d t x=>
  have:=key h
  cases t with
  |row o t=>cases o<;>exact this
  |nilr o=>cases o<;>exact this
  |_=>exact this
 |_=>exact key h
theorem Mv{α:Type}{P:α->Bool}:∀{l:List (Nat×α)}{i:Nat}{t:α},(l.all λx=>P x.2)=true->eF l i=some t->P t=true:=by
 intro l
 induction l with
 |nil=>intro i t _ h;simp[eF]at h
 |cons x l ih=>
  intro i t ha h;simp only[List.all_cons,oBA]at ha;simp[eF]at h;split at h
  ·simp_all
  ·exact ih ha.2 h
theorem LG(L:List Nat)(σ:XS den)(hok:X.okS σ=true):∀l:List Nat,(X.normT L σ l).map (λx=>(x.1,er x.2))=normT L (erS σ) l:=by
 intro l
 induction l with
 |nil=>rfl
 |cons i l ih=>
  simp[X.normT,normT];have e:eF (erS σ).tm i=(eF σ.tm i).map er:=wX _ _ _;rw[e]
  cases h:eF σ.tm i with
  |none=>exact ih
  |some t=>
   have ht:=Mv hok h;simp only[oMS,List.map_cons];rw[Jn L σ ht,ih]
theorem LH(σ:XS den):∀l:List Nat,erC (X.normC σ l)=normC (erS σ) l:=by
 intro l
 induction l with
 |nil=>rfl
 |cons r l ih=>
  simp[X.normC,normC];rw[Af]
  cases h:eF σ.ce r with
  |none=>exact ih
  |some c=>
   simp;show(r,erL c)::erC _=_;rw[ih]
theorem AN{σ:XS den}(hok:X.okS σ=true)(pers:Prs):erS (X.norm σ pers)=(erS σ).norm pers:=by
 unfold X.norm St.norm;show(⟨(X.normT pers.2 σ pers.1).map _,erC (X.normC σ pers.2),[]⟩:St)=_;rw[LG _ σ hok,LH]
theorem FE{σ:XS den}(hok:X.okS σ=true):erS (X.anew σ)=(erS σ).anew:=by
 unfold X.anew St.anew;rw[AN hok];congr 1;congr 1
 ·show _=(σ.tm.map λx=>(x.1,er x.2)).map (·.1)
  simp_all
 ·show _=(erC σ.ce).map (·.1);unfold erC
  simp_all
theorem K6(x:Nat×Option Nat):Sim (Y:=Y) (X.shr1 dI x) (shr1 x) id:=by
 obtain⟨i,off⟩:=x;refine Sim.rdT λt=>?_
 cases off with
 |none=>cases t with
  |pk p vs=>
   refine(f6 false (.pk p vs)).bind λt'=>Sim.opt λt2 h2=>?_;rw[<- uU h2];exact ux i t2
  |d t y=>cases t with
   |row o t=>cases o<;>exact .ret rfl
   |nilr o=>cases o<;>exact .ret rfl
   |_=>exact .ret rfl
  |agg l=>exact Sim.ite (λ_=>.fail) λ_=>.ret rfl
  |_=>exact .fail
 |some off=>cases t with
  |ptr p vs=>
   refine(fM p _ vs).bind λ_=>Sim.ite (λh=>?_) λ_=>.fail;rw[oIP (by rw[<- BW];exact h),<- Fl];refine(kf _).bind λt=>Sim.ite (λho=>?_) λho=>?_
   ·obtain⟨c,hc⟩:=ml ho;have UC:=j9 (Y:=Y) (X.addP p off) t;rw[hc]at UC;rw[hc];exact UC.bind λt'=>(f6 false t').bind λ_=>.ret rfl
   ·cases t with
    |d t y=>
     cases t with
     |row o t=>cases o<;>first|exact .ret rfl|simp[X.isOwX,X.isOwT]at ho
     |nilr o=>cases o<;>first|exact .ret rfl|simp[X.isOwX,X.isOwT]at ho
     |_=>exact .ret rfl
    |_=>exact .fail
  |d t y=>cases t with
   |row o t=>cases o<;>exact .fail
   |nilr o=>cases o<;>exact .fail
   |_=>exact .fail
  |_=>exact .fail
theorem FT:∀l:List (Nat×Option Nat),Sim (Y:=Y) (X.shrs dI l) (shrs l) id:=by
 intro l
 induction l with
 |nil=>exact .ret rfl
 |cons x l ih=>exact(K6 x).bind λ_=>ih
theorem IK(r:Nat):∀n o:Nat,Sim (Y:=Y) (X.rdImmM dI r n o) (Hm r n o) erL:=by
 intro n
 induction n with
 |zero=>intro o;exact .ret rfl
 |succ n ih=>
  intro o;refine Sim.rdC λt=>Sim.ite (λh=>?_) λh=>.fail;rw[oIP (Bg h)];exact(ih (o+1)).bind λl=>.ret rfl
theorem Nv(i n:Nat):Sim (Y:=Y) (X.frzM dI i n) (P3 i n) id:=by
 refine Sim.rdT λt=>?_
 cases t with
 |ptr p vs=>
  refine Sim.ite (λh=>?_) λh=>.fail;show Sim _ (if(erP p).root=2*i+2/\(erP p).off=0/\(erP p).hops=[]then _ else _) id;rw[oIP (by unfold erP;exact h)];refine(fM p 0 vs).bind λ_=>(IK _ n 0).bind λl=>?_;exact Sim.new rfl (ux i (.ip l))
 |_=>exact .fail
theorem NL{i:Nat}{σ:XS den}{u:HL den []}:∀{L:List Ec}{H:Ec}{h:HL den (lvS H.s)},X.selH dI i σ u L=some ⟨H,h⟩->X.convS dI H.s σ u=some h:=by
 intro L
 induction L with
 |nil=>intro H h hs;cases hs
 |cons H0 L ih=>
  intro H h hs;unfold X.selH at hs
  grind
theorem Ag{Z:Type}{outs:List (kI×Shs)}{i:Nat}{h:HL den (AM (outs.map λx=>lvS x.2) i)}{o:Ar (outs.map λx=>lvS x.2)}{x:kI×XS den}(K:kI×XS den->Option Z)(hm:uN (outs.map λx=>lvS x.2) i h=some o)(hf:vG outs i h=some x):(lL (outs.map λx=>lvS x.2) o λj ho=>X.onOut dI (vG outs j ho) K)=K x:=by
 rw[Ah _ hm,hf];rfl
theorem K9{F:fQ}{C:X.Cfg}(YF:∀c∈C.TB,vi F c)(u:HL den []){N:Nat}(hN:NN<=N):∀(tc:i3)(i:Nat){Y:Type}(σ:XS den)(k:kI->XS den->Option Y)(y:Y),X.runC dI C u tc i σ k=some y->∃e σ',runC (evCall C.E F) N tc (erS σ)=some (e,erS σ')/\k e σ'=some y:=by
 intro tc
 induction tc with
 |skip=>intro i Y σ k y h;exact⟨.normal,σ,rfl,h⟩
 |frz j n a ih=>
  intro i Y σ k y h
  have h:X.frzM dI j n σ (λ_ σ'=>if X.okS σ' then X.runC dI C u a i (X.anew σ') k else none)=some y:=by
   unfold X.runC at h;exact h
  obtain⟨_,σ1,r1,_,h1⟩:=Nv j n σ _ y h;split at h1
  ·rename_i hok;obtain⟨e,σ2,r2,h2⟩:=ih _ _ k y h1;refine⟨e,σ2,?_,h2⟩;simp only[runC];rw[r1];simp only[oBS];rw[<- FE hok];exact r2
  ·cases h1
 |nrm pers=>
  intro i Y σ k y h;have h:(if X.okS σ then k .normal (X.norm σ pers)else none)=some y:=h;split at h
  ·rename_i hok;exact⟨.normal,X.norm σ pers,by rw[AN hok];rfl,h⟩
  ·cases h
 |reg id draw ops pers=>
  intro i Y σ k y h
  cases draw with
  |none=>
   have h:X.spOps dI C u ops σ (λ_ σ'=>if X.okS σ' then k .normal (X.norm σ' pers)else none)=some y:=h;obtain⟨σ1,r1,h1⟩:=K2 YF u ops h;split at h1
   ·rename_i hok;refine⟨.normal,X.norm σ1 pers,?_,h1⟩;simp only[runC];rw[r1,AN hok];rfl
   ·cases h1
  |some deps=>
   have h:X.spFL dI C u ops (List.range ops.length) σ (λfs σ'=>if s9 deps fs&&X.okS σ' then k .normal (X.norm σ' pers)else none)=some y:=h;obtain⟨fs,gs,σ1,r1,le,h1⟩:=Nj YF u ops _ h;split at h1
   ·rename_i hok;simp only[oBA]at hok;rw[EG]at hok;refine⟨.normal,X.norm σ1 pers,?_,h1⟩;simp only[runC];rw[r1,AN hok.2];simp only[oBS];rw[oIP (CI le hok.1)]
   ·cases h1
 |seq a b YY YU=>
  intro i Y σ k y h
  have ZV:∀(e:kI)(σ1:XS den),runC (evCall C.E F) N a (erS σ)=some (e,erS σ1)->(match e with|.normal=>X.runC dI C u b (i+1+X.marks a) σ1 k|e=>k e σ1)=some y->∃e σ',runC (evCall C.E F) N (.seq a b) (erS σ)=some (e,erS σ')/\k e σ'=some y:=by
   intro e σ1 r1 h1;simp only[runC];rw[r1];simp only[oBS]
   cases e with
   |normal=>exact YU _ σ1 k y h1
   |exit j=>exact⟨_,σ1,rfl,h1⟩
   |ret=>exact⟨_,σ1,rfl,h1⟩
  unfold X.runC at h
  cases hs:X.selJ i C.HL with
  |none=>
   rw[hs]at h;obtain⟨e,σ1,r1,h1⟩:=YY _ σ _ y h;exact ZV e σ1 r1 h1
  |some H=>
   rw[hs]at h;obtain⟨o,h1,h2⟩:=dS (show(X.runC dI C u a (i+1) σ _:Option _).bind _=some y from h);obtain⟨e,σ1,r1,h3⟩:=YY _ σ _ o h1
   cases hi:X.injE dI e σ1 u H.outs with
   |none=>rw[hi]at h3;cases h3
   |some x=>
    rw[hi]at h3;obtain⟨j,ho⟩:=x;have h3:uN (H.outs.map λx=>lvS x.2) j ho=some o:=h3;obtain⟨x,hf,he,hσ⟩:=J8 hi;rw[Ag _ h3 hf]at h2;rw[<- hσ]at r1;rw[<- he]at r1;exact ZV x.1 x.2 r1 h2
 |cond c a b YY YU=>
  intro i Y σ k y h
  have h:X.opd dI c σ (λt _=>X.condX dI (X.runC dI C u a i (X.knownO dI c true σ) k) (X.runC dI C u b (i+X.marks a) (X.knownO dI c false σ) k) t)=some y:=by
   unfold X.runC at h;exact h
  obtain⟨t,σ1,r1,e1,_,h1⟩:=wO h
  cases t with
  |d t x=>cases t with
   |bool=>
    have hkn:erS (X.knownO dI c x σ)=erS σ:=by
     cases c with
     |t j=>
      have hj:X.tOf σ j=.d .bool x:=by
       have h9:X.condX dI (X.runC dI C u a i (X.knownO dI (.t j) true σ) k) (X.runC dI C u b (i+X.marks a) (X.knownO dI (.t j) false σ) k) (X.tOf σ j)=some y:=h;have r1:(some ((erS σ).t j,erS σ):Option (TV×St))=some (er (.d .bool x),erS σ):=r1
       injection r1 with r1
       injection r1 with r1 _
       rw[Me]at r1
       cases ht:X.tOf σ j with
       |d t2 z=>cases t2 with
        |bool=>rw[ht]at r1;injection r1 with r1;injection r1 with r1;rw[show z=x from r1]
        |_=>rw[ht]at h9;cases h9
       |_=>rw[ht]at h9;cases h9
      exact Gg hj
     |_=>rfl
    have r1:(opd c).run (erS σ)=some (.v (.bool x),erS σ):=r1;simp only[runC];rw[r1];simp only[oBS]
    cases x with
    |true=>
     rw[<- hkn];exact YY _ _ k y h1
    |false=>
     rw[<- hkn];exact YU _ _ k y h1
   |_=>cases h1
  |_=>cases h1
 |sc b ih=>
  intro i Y σ k y h;unfold X.runC at h;exact ih i σ k y h
 |block id b ih=>
  intro i Y σ k y h;unfold X.runC at h;obtain⟨e,σ1,r1,h1⟩:=ih _ σ _ y h;simp only[runC];rw[r1];simp only[oBS]
  cases e with
  |normal=>exact⟨_,σ1,rfl,h1⟩
  |ret=>exact⟨_,σ1,rfl,h1⟩
  |exit j=>
   dsimp only at h1;by_cases hj:j=id
   ·rw[oIP hj]at h1;exact⟨.normal,σ1,by dsimp only;rw[oIP hj],h1⟩
   ·rw[oIN hj]at h1;exact⟨.exit j,σ1,by dsimp only;rw[oIN hj],h1⟩
 |loop b ih=>
  intro i Y σ k y h;unfold X.runC at h
  cases hs:X.selH dI i σ u C.HL with
  |none=>rw[hs]at h;cases h
  |some x=>
   obtain⟨H,h0⟩:=x;rw[hs]at h;have R9:=B2 (NL hs);obtain⟨o,h1,h2⟩:=dS (show(dY _ NN h0).bind _=some y from h)
   have key:∀(n:Nat)(hd:HL den (lvS H.s))(o:Ar (H.outs.map λx=>lvS x.2)),dY (λh=>X.runC dI C u b (i+1) (Fj H.s h) (X.roundK dI H u)) n hd=some o->∀N',n<=N'->∃x j ho,Oc (runC (evCall C.E F) N b) N' (erS (Fj H.s hd))=some (x.1,erS x.2)/\uN (H.outs.map λx=>lvS x.2) j ho=some o/\vG H.outs j ho=some x:=by
    intro n
    induction n with
    |zero=>intro hd o h;cases h
    |succ n ihn=>
     intro hd o h N' Yi;obtain⟨N',rfl⟩:∃N'',N'=N''+1:=⟨N'-1,by omega⟩;obtain⟨z,hz,hz2⟩:=dS (show(X.runC dI C u b (i+1) (Fj H.s hd) _:Option _).bind _=some o from h);obtain⟨e,σ1,r1,h3⟩:=ih _ _ _ z hz;simp only[Oc];rw[r1];simp only[oBS]
     have YZ:∀e':kI,(∀s:Option (HL den (lvS H.s)⊕Ar (H.outs.map λx=>lvS x.2)),s=some z->s=X.onOut dI (X.injE dI e' σ1 u H.outs) (λx=>dI.exitL (lvS H.s) (H.outs.map λx=>lvS x.2) x.1 x.2)->∃x j ho,(some (e',erS σ1):Option (kI×St))=some (x.1,erS x.2)/\uN (H.outs.map λx=>lvS x.2) j ho=some o/\vG H.outs j ho=some x):=by
      intro e' s hs1 YN;rw[hs1]at YN
      cases hi:X.injE dI e' σ1 u H.outs with
      |none=>rw[hi]at YN;cases YN
      |some x=>
       rw[hi]at YN;obtain⟨j,ho⟩:=x;obtain⟨t,Xz,YO⟩:=hY (show(uN (H.outs.map λx=>lvS x.2) j ho).map Sum.inr=some z from YN.symm);subst YO;obtain⟨x,hf,he,hσ⟩:=J8 hi;refine⟨x,j,ho,by rw[he,hσ],?_,hf⟩;have:some t=some o:=hz2;rw[<- this];exact Xz
     cases e with
     |normal=>
      have h3:X.onOut dI (X.convS dI H.s σ1 u) (dI.next (lvS H.s) (H.outs.map λx=>lvS x.2))=some z:=h3
      cases hc:X.convS dI H.s σ1 u with
      |none=>rw[hc]at h3;cases h3
      |some h'=>
       rw[hc]at h3;have h3:some (Sum.inl h')=some z:=h3
       injection h3 with h3
       subst h3;rw[<- B2 hc];exact ihn h' o hz2 N' (by omega)
     |exit j=>exact YZ (.exit j) _ h3 rfl
     |ret=>exact YZ .ret _ h3 rfl
   obtain⟨x,j,ho,r1,hm,hf⟩:=key NN h0 o h1 N hN;rw[Ag _ hm hf]at h2;refine⟨x.1,x.2,?_,h2⟩;simp only[runC];rw[<- R9];exact r1
 |exit id=>intro i Y σ k y h;exact⟨.exit id,σ,rfl,h⟩
 |ret=>intro i Y σ k y h;exact⟨.ret,σ,rfl,h⟩
 |pre l a ih=>
  intro i Y σ k y h
  have h:X.shrs dI l σ (λ_ σ'=>if X.okS σ' then X.runC dI C u a i (X.anew σ') k else none)=some y:=by
   unfold X.runC at h;exact h
  obtain⟨_,σ1,r1,_,h1⟩:=FT l σ _ y h;split at h1
  ·rename_i hok;obtain⟨e,σ2,r2,h2⟩:=ih _ _ k y h1;refine⟨e,σ2,?_,h2⟩;simp only[runC];rw[r1];simp only[oBS];rw[<- FE hok];exact r2
  ·cases h1
 |post a l ih=>
  intro i Y σ k y h
  have h:X.runC dI C u a i σ (λe σ'=>X.shrs dI l σ' λ_ σ2=>if X.okS σ2 then k e (X.anew σ2)else none)=some y:=by
   unfold X.runC at h;exact h
  obtain⟨e,σ1,r1,h1⟩:=ih _ _ _ y h;obtain⟨_,σ2,r2,_,h2⟩:=FT l σ1 _ y h1;split at h2
  ·rename_i hok;refine⟨e,X.anew σ2,?_,h2⟩;simp only[runC];rw[r1];simp only[oBS];rw[r2];simp only[oBS];rw[FE hok]
  ·cases h2
end
section
variable {α β γ δ Y:Type}
theorem zO(np:Nat)(t:XV den):Sim (Y:=Y) (X.takeR1 dI np t) (takeR1 np (er t)) er:=by
 have key:Sim (Y:=Y) (X.take1 dI true t) (take1 true (er t)) er:=f6 true t
 cases t with
 |pk p vs=>exact f6 _ (.pk p vs)
 |d t y=>cases t with
  |row o t=>cases o<;>exact key
  |nilr o=>cases o<;>exact key
  |_=>exact key
 |_=>exact key
theorem G6(np:Nat):∀l:List (XV den),Sim (Y:=Y) (X.takeRL dI np l) (takeRL np (erL l)) erL:=by
 intro l
 induction l with
 |nil=>exact .ret rfl
 |cons t l ih=>exact(zO np t).bind λt'=>ih.bind λr'=>.ret rfl
theorem uy(np:Nat)(t:XV den):Sim (Y:=Y) (X.takeRV dI np t) (takeRV np (er t)) λx=>(erL x.1,x.2):=by
 have one:∀t:XV den,Sim (Y:=Y) (X.bind (X.takeR1 dI np t) λt'=>X.ret ([t'],RSh.one)) ((takeR1 np (er t)).bind λt'=>.ret ([t'],.one)) λx=>(erL x.1,x.2):=λt=>(zO np t).bind λt'=>.ret rfl;have key:=one t
 cases t with
 |agg l=>exact(G6 np l).bind λl'=>.ret (by simp[fR])
 |d t y=>cases t with
  |row o t=>cases o<;>exact key
  |nilr o=>cases o<;>exact key
  |_=>exact key
 |_=>exact key
theorem Lc(np:Nat)(q:TRs):Sim (Y:=Y) (X.res1 dI np q) (res1 np q) λx=>(erL x.1,x.2):=by
 cases q with
 |tmp t=>exact Sim.rdT λtv=>uy np tv
 |cell t n=>
  refine Sim.rdT λtv=>?_
  cases tv with
  |ptr p vs=>
   refine(fM p _ vs).bind λ_=>?_
   cases n with
   |none=>exact(kf p).bind λt=>(j9 p t).bind λt'=>uy np t'
   |some n=>exact(Co p n).bind λl=>uy np (.agg l)
  |d t y=>cases t with
   |row o t=>cases o<;>exact .fail
   |nilr o=>cases o<;>exact .fail
   |_=>exact .fail
  |_=>exact .fail
theorem La(np:Nat):∀l:List TRs,Sim (Y:=Y) (X.resL dI np l) (resL np l) λx=>(erL x.1,x.2):=by
 intro l
 induction l with
 |nil=>exact .ret rfl
 |cons q l ih=>exact(Lc np q).bind λx=>ih.bind λy=>.ret (by simp[ru])
theorem JG(l:List (XV den)):onesOf (erL l)=X.onesOf l:=by
 induction l with
 |nil=>rfl
 |cons t l ih=>simp[erL,onesOf,X.onesOf,ih]
theorem G9:∀l:List TRs,Sim (Y:=Y) (X.flatsR dI l) (flatsR l) erL:=by
 intro l
 induction l with
 |nil=>exact .ret rfl
 |cons q l ih=>cases q with
  |cell t n=>exact .fail
  |tmp t=>
   refine Sim.rdT λtv=>Sim.ite (λhc=>?_) λ_=>.fail
   have h1:Eg (er tv)=true:=by
    have:=Gt (l:=[tv]) (by simp_all);simpa[erL]using this
   rw[oIP h1];exact ih.bind λl=>.ret rfl
theorem Lb(np:Nat)(l:List TRs):Sim (Y:=Y) (X.resF dI np l) (resF np l) λx=>(erL x.1,x.2):=by
 have base:=La (Y:=Y) np l
 cases l with
 |nil=>exact base
 |cons q r=>cases q with
  |cell t n=>exact base
  |tmp t=>
   refine Sim.rdT λtv=>?_
   cases tv with
   |ptr p vs=>exact(fM p _ vs).bind λ_=>(G9 r).bind λl=>.ret (by simp[JG];rfl)
   |d ty y=>cases ty with
    |row o ty=>cases o<;>exact base
    |nilr o=>cases o<;>exact base
    |_=>exact base
   |_=>exact base
theorem J1(t:XV den):(∃p vs,t=.ptr p vs)\/(X.isPtrX t=false/\∀p vs,er t≠.ptr p vs):=by
 cases t with
 |ptr p vs=>simp_all
 |d t y=>cases t with
  |row o t=>cases o<;>exact .inr ⟨rfl,by simp[er,er1]⟩
  |nilr o=>cases o<;>exact .inr ⟨rfl,by simp[er,er1]⟩
  |_=>exact .inr ⟨rfl,by simp[er,er1]⟩
 |gap t x i o=>exact .inr ⟨rfl,λp vs h=>by cases h⟩
 |_=>exact .inr ⟨rfl,by simp[er]⟩
theorem LX{t:XV den}(h:X.isShX t=true):∃c,er t=.sl c:=by
 cases t with
 |d t y=>cases t with
  |row o t=>cases o with
   |false=>exact⟨_,rfl⟩
   |true=>cases h
  |nilr o=>cases o with
   |false=>exact⟨_,rfl⟩
   |true=>cases h
  |_=>cases h
 |_=>cases h
theorem Hp{pp:List Nat}:∀{l:List (XV den)}{i:Nat},X.ptrsInX pp i l=true->nF pp i (erL l)=true:=by
 intro l
 induction l with
 |nil=>intro i _;rfl
 |cons t l ih=>
  intro i h;simp only[X.ptrsInX,oBA]at h;have ⟨⟨h0,hs⟩,hr⟩:=h
  rcases J1 t with⟨p,vs,rfl⟩|⟨h1,h2⟩
  ·show(pp.contains i&&nF pp (i+1) (erL l))=true;rw[ih hr,Bool.and_true];simpa[X.isPtrX]using h0
  ·show nF pp i (er t::erL l)=true;rw[h1,Bool.false_or]at hs
   cases hsh:X.isShX t with
   |true=>
    have ⟨c,hc⟩:=LX hsh;rw[hc];exact ih hr
   |false=>
    rw[hsh,Bool.false_or]at hs
    cases he:er t with
    |ptr p vs=>simp_all
    |sl c=>exact ih hr
    |_=>show(!pp.contains (1000+i)&&nF pp (i+1) (erL l))=true;rw[hs,ih hr];rfl
theorem EH(l:List (XV den)):∀i,(gi i l).map (λx=>(x.1,er x.2))=gi i (erL l):=by
 induction l with
 |nil=>intro i;rfl
 |cons t l ih=>intro i;simp[gi,erL,ih]
theorem N7(vals:List (XV den))(pts:List (Nat×List (XV den))):erS (X.mkSt vals pts)=mkSt (erL vals) (erC pts):=by
 unfold X.mkSt mkSt erS;simp[EH]
theorem LA(σ:XS den)(pts:List (Nat×List (XV den))):erC (X.ptsOf σ pts)=(erC pts).map λx=>(x.1,(eF (erS σ).ce x.1).getD []):=by
 induction pts with
 |nil=>rfl
 |cons x pts ih=>
  show(x.1,erL ((eF σ.ce x.1).getD []))::erC (X.ptsOf σ pts)=(x.1,(eF (erS σ).ce x.1).getD [])::_;rw[ih,Af];cases eF σ.ce x.1<;>rfl
theorem On(a b:List (Nat×List (XV den))):erC (a++b)=erC a++erC b:=by unfold erC;rw[List.map_append]
theorem Pt(pp:List Nat):erC (X.kpX (D:=den) pp)=kpE pp:=by
 unfold erC X.kpX kpE;rw[List.map_map];rfl
theorem NQ{F:fQ}{C:X.Cfg}(YF:∀c∈C.TB,vi F c)(u:HL den []){N:Nat}(hN:NN<=N){tf:TFn}{outs:List XO}{vals:List (XV den)}{pts:List (Nat×List (XV den))}{o:Ar (outs.map lvO)}(h:X.runT dI C u tf outs vals pts=some o):
 ∃x,lL (outs.map lvO) o (λi ho=>mn outs i ho)=some x/\runT C.E F N tf (erL vals) (erC pts)=some (⟨erL x.1,x.2.1⟩,erC x.2.2):=by
 unfold X.runT at h;split at h
 case isFalse=>cases h
 rename_i hc;obtain⟨e,σ1,r1,h1⟩:=K9 YF u hN tf.body 0 _ _ o h
 have key:X.resF dI tf.np tf.res σ1 (λy σ'=>X.onOut dI (X.injO dI y.1 y.2 (X.ptsOf σ' pts++X.kpX tf.pp) u outs) λx=>dI.out (outs.map lvO) x.1 x.2)=some o ->
  ∃x,lL (outs.map lvO) o (λi ho=>mn outs i ho)=some x/\(((resF tf.np tf.res).run (erS σ1)).bind λy=>some ((⟨y.1.1,y.1.2⟩:Ik),((erC pts).map λx=>(x.1,(eF y.2.ce x.1).getD []))++kpE tf.pp))=some (⟨erL x.1,x.2.1⟩,erC x.2.2):=by
  intro h2;obtain⟨y,σ2,r2,_,h3⟩:=Lb tf.np tf.res σ1 _ o h2
  cases hi:X.injO dI y.1 y.2 (X.ptsOf σ2 pts++X.kpX tf.pp) u outs with
  |none=>rw[hi]at h3;cases h3
  |some z=>
   rw[hi]at h3;obtain⟨i,ho⟩:=z;obtain⟨x,hf,e1,e2,e3⟩:=Oe hi;refine⟨x,?_,?_⟩
   ·rw[Ah _ (show uN (outs.map lvO) i ho=some o from h3)];exact hf
   ·rw[r2];simp only[oBS];rw[e1,e2,e3,On,LA,Pt]
 have Z8:(erL vals).length=tf.np/\(nF tf.pp 0 (erL vals)&&(!tf.pp.contains 1000||(erC pts).isEmpty))=true:=by
  have h2:=hc.2;rw[oBA]at h2;refine⟨by rw[fR];exact hc.1,?_⟩;rw[Hp h2.1,Bool.true_and];have h3:=h2.2
  cases pts with
  |nil=>simp[erC]
  |cons x pts=>simpa[erC]using h3
 unfold runT;rw[oIP Z8,<- N7,r1];simp only[oBS]
 cases e with
 |exit j=>cases h1
 |normal=>exact key h1
 |ret=>exact key h1
end
theorem Mh{E:Env}{T:FuncId->Option TFn}{B F:fQ}{N:Nat}(hN:NN<=N){C:X.Cfg}(hE:C.E=E)(YF:∀c∈C.TB,vi F c){c:Ctr}{tf:TFn}(hT:T c.f=some tf)
 (hg:∀h,X.runT dI C () tf c.outs (i9 c.ins _ h).1 (tM c.pts [] (i9 c.ins _ h).2).1=c.g h):vi (GY E T B F N) c:=by
 intro h o x ho hx;rw[GX hT];rw[<- hg h]at ho;have ⟨x',h1,h2⟩:=NQ YF () hN ho
 simp_all
def Lvl(E:Env)(T:FuncId->Option TFn)(B:fQ)(n:Nat)(c:Ctr):Prop:=∀k,n<=k->vi (runF E T B (NN+k)) c
def GQ(E:Env)(T:FuncId->Option TFn)(B:fQ)(n:Nat):List Ctr->Prop
 | []=>True
 |c::r=>Lvl E T B n c/\GQ E T B n r
theorem Lvl.mono{E:Env}{T:FuncId->Option TFn}{B:fQ}{n m:Nat}{c:Ctr}(h:Lvl E T B n c)(hm:n<=m):Lvl E T B m c:=λk hk=>h k (Nat.le_trans hm hk)
theorem GQ.get{E:Env}{T:FuncId->Option TFn}{B:fQ}{n:Nat}:∀{l:List Ctr},GQ E T B n l->∀c∈l,Lvl E T B n c:=by
 intro l
 induction l with
 |nil=>simp_all
 |cons x l ih=>
  intro h c hc;rcases List.mem_cons.1 hc with rfl|hc
  ·exact h.1
  ·exact ih h.2 c hc
theorem P1{E:Env}{T:FuncId->Option TFn}{B:fQ}{n:Nat}{C:X.Cfg}(hE:C.E=E)(YF:GQ E T B n C.TB){c:Ctr}{tf:TFn}(hT:T c.f=some tf)
 (hg:∀h,X.runT dI C () tf c.outs (i9 c.ins _ h).1 (tM c.pts [] (i9 c.ins _ h).2).1=c.g h):Lvl E T B (n+1) c:=by
 intro k hk;obtain⟨k,rfl⟩:∃k',k=k'+1:=⟨k-1,by omega⟩;exact Mh (F:=runF E T B (NN+k)) (Nat.le_add_right _ _) hE (λc hc=>YF.get c hc k (by omega)) hT hg
theorem H9{P:Program}{H:Nat->List (Nat×Option Nat)}{f:FuncId}{tf:TFn}(h:u7 P H f=some tf):∃fn,P.funcs[f]?=some fn/\tf.np<=fn.params.size+fn.nfree/\tf.nt=fn.ntmps:=by
 unfold u7 at h;split at h
 case h_2=>simp at h
 split at h
 case h_2=>simp at h
 split at h
 ·rename_i tf' Ze;have ⟨_,g2,g3,_⟩:=vI Ze
  simp_all
 simp only at h;split at h
 ·injection h with h
  subst h
  simp_all
 ·simp at h
theorem Nf{P:Program}(H:FuncId->Nat->List (Nat×Option Nat))(ZI:(P.funcs.all λfn=>decide (fn.params.size+fn.nfree<=fn.ntmps) && !(fn.name=="runtime.NumGoroutine"))=true):KK P λf=>u7 P (H f) f:=by
 refine KX λf tf h=>?_;have ⟨fn,hf,e1,e2⟩:=H9 h;have ⟨hlt,he⟩:=Array.getElem?_eq_some_iff.1 hf;have:=Array.all_eq_true.1 ZI f hlt;rw[he]at this;simp at this;refine⟨⟨H f,h⟩,by omega,λfn' Rr=>?_⟩
 simp_all
def QE:TFn:=⟨0,[],0,.skip,[]⟩
theorem Qa{o:Option TFn}(h:o.isSome=true):o=some (o.getD QE):=by
 cases o with
 |none=>simp at h
 |some x=>rfl
def QD(P:Program)(f:FuncId):List (Option Nat):=match P.funcs[f]? with
 |some fn=>fn.params.toList.map λt=>match P.underlying t with|some (.pointer e)=>zL P e|_=>none
 |none=>[]
def noB:fQ:=λ_ _ _=>none
theorem noB_ok{P:Program}:lk P noB:=λf vals pts res Zd h=>by simp[noB]at h
abbrev I64:CT:=.int .i64
def w64(x:Int):Int:=IntKind.wrap .i64 x
def wk(k:IntKind)(x:Int):Int:=IntKind.wrap k x
def Ax(s:ByteArray):Int:=(s.size:Int)
def bytes(l:List Nat):ByteArray:=⟨(l.map UInt8.ofNat).toArray⟩
end Go.Proofs.YtoldehogdgdhmaaGreat
namespace Go.Proofs.YtoldehogdgdhmaaGreat
open Go.RowKit
set_option maxRecDepth 100000
noncomputable section
abbrev KCe:CT:=(.pair (.int .u8) (.int .u16))
abbrev KCn:CT:=(.pair (.int .u8) (.pair (.int .u16) (.pair I64 I64)))
abbrev KIn:CT:=(.pair I64 (.pair I64 (.pair I64 (.pair I64 I64))))
abbrev KOp:CT:=(.pair I64 (.pair I64 .bool))
abbrev QW:CT:=(.pair I64 (.pair .bool (.row false KCe)))
abbrev MC:CT:=(.pair I64 (.pair (.row false KCe) (.pair I64 (.pair I64 (.pair I64 (.pair I64 (.pair I64 (.int .u16))))))))
abbrev QV:CT:=(.pair I64 (.pair I64 (.row false KCn)))
abbrev sK:CT:=(.pair I64 (.pair I64 (.pair I64 (.pair I64 (.pair I64 (.pair I64 (.pair I64 (.pair I64 (.pair I64 (.pair (.row false KCn) (.pair (.row false KCn) (.pair (.int .u8) (.pair (.int .u16) (.pair I64 (.pair I64 (.pair (.row false KCn) (.pair I64 .bool)))))))))))))))))
abbrev P7:CT:=(.pair I64 (.pair .bool (.row true KCe)))
abbrev PV:CT:=(.pair I64 (.pair (.row true KCe) (.pair I64 (.pair I64 (.pair I64 (.pair I64 (.pair I64 (.int .u16))))))))
abbrev vg:CT:=(.pair I64 (.pair I64 (.row true KCn)))
abbrev Im:CT:=(.pair I64 (.pair I64 (.pair I64 (.pair I64 (.pair I64 (.pair I64 (.pair I64 (.pair I64 (.pair I64 (.pair (.row true KCn) (.pair (.row true KCn) (.pair (.int .u8) (.pair (.int .u16) (.pair I64 (.pair I64 (.pair (.row true KCn) (.pair I64 .bool)))))))))))))))))
abbrev gk:CT:=(.row false KIn)
abbrev ej:CT:=(.row false KCn)
abbrev RW:CT:=(.row false (.int .u16))
abbrev RI:CT:=(.row false I64)
abbrev gp:CT:=(.row false KCe)
abbrev is:CT:=(.row false QW)
abbrev lQ:CT:=(.row true P7)
abbrev i4:CT:=(.row false MC)
abbrev sI:CT:=(.row true PV)
abbrev ia:CT:=(.row false KOp)
abbrev iM:CT:=(.row false QV)
abbrev Cd:CT:=(.row false sK)
abbrev DCe:Type:=(Int×Int)
abbrev DCn:Type:=(Int×Int×Int×Int)
abbrev DIn:Type:=(Int×Int×Int×Int×Int)
abbrev DOp:Type:=(Int×Int×Bool)
abbrev DLn:Type:=(Int×Bool×List DCe)
abbrev DTh:Type:=(Int×(List DCe)×Int×Int×Int×Int×Int×Int)
abbrev DOu:Type:=(Int×Int×List DCn)
abbrev DEn:Type:=(Int×Int×Int×Int×Int×Int×Int×Int×Int×(List DCn)×(List DCn)×Int×Int×Int×Int×(List DCn)×Int×Bool)
def HH(f i:Nat):List (Nat×Option Nat):=if f=97 then(if i=1000011 then[(11,some 27)]else if i=1000005 then[(2,some 27)]else[])else if f=162 then(if i=1000006 then[(8,some 1)]else if i=1000014 then[(8,some 1)]else[])else if f=65 then(if i=5000000 then[(0,none),(1,none)]else[])else if f=32 then(if i=5000000 then[(0,none),(1,none)]else if i=1000013 then[(3,some 100002001)]else[])else if f=12 then(if i=1000007 then[(7,some 100006005)]else if i=1000003 then[(0,some 5)]else[])else if f=6 then(if i=3000004 then[(7,none)]else[])else if f=4 then(if i=3000024 then[(14,none)]else[])else if f=81 then(if i=0 then[(8,none)]else[])else if f=51 then(if i=2 then[(3,some 1)]else if i=3 then[(3,some 0)]else[])else if f=91 then(if i=0 then[(8,some 0),(8,some 1),(8,some 2),(8,some 3),(8,some 4)]else[])else if f=85 then(if i=0 then[(4,some 0),(4,some 2),(4,some 3)]else[])else if f=52 then(if i=0 then[(6,some 0),(6,some 1),(6,some 2),(6,some 3),(6,some 5),(6,some 6),(6,some 7),(6,some 8),(6,some 9),(6,some 10),(6,some 11),(6,some 12),(6,some 13),(6,some 14),(6,some 15)]else[])else if f=121 then(if i=2000067 then[(2,none),(4,none),(8,none),(11,none),(12,none),(0,some 10),(0,some 18),(0,some 24)]else if i=0 then[(8,some 0)]else[])else if f=95 then(if i=1000012 then[(7,none)]else if i=0 then[(8,some 0),(8,some 2),(8,some 3),(8,some 4),(9,some 6),(9,some 7)]else[])else if f=128 then(if i=3000008 then[(9,some 0),(9,some 1)]else if i=0 then[(6,some 0),(6,some 1)]else[])else if f=149 then(if i=0 then[(4,some 0),(4,some 1),(4,some 2),(4,some 3),(4,some 4),(4,some 5),(5,some 4)]else[])else if f=129 then(if i=0 then[(0,some 14),(0,some 15),(4,some 4)]else[])else if f=130 then(if i=1000007 then[(17,none)]else if i=0 then[(8,some 2),(8,some 3),(8,some 4)]else[])else if f=151 then(if i=0 then[(8,some 2),(8,some 3),(8,some 4)]else[])else if f=131 then(if i=1000002 then[(9,none)]else[])else if f=132 then(if i=1000004 then[(4,some 2)]else if i=3 then[(6,some 0),(6,some 1)]else[])else if f=55 then(if i=1000011 then[(5,none)]else if i=1000014 then[(7,none)]else if i=0 then[(4,some 0),(4,some 1),(4,some 2),(4,some 3),(4,some 5),(4,some 6),(4,some 7),(4,some 8),(4,some 9),(4,some 10),(4,some 11),(4,some 12),(4,some 13),(4,some 14),(4,some 15)]else[])else if f=23 then(if i=0 then[(2,some 16),(2,some 17)]else[])else if f=9 then(if i=1000015 then[(7,some 6)]else if i=0 then[(2,none)]else[])else if f=101 then(if i=0 then[(4,none)]else[])else if f=102 then(if i=0 then[(2,some 6),(2,some 7)]else[])else if f=59 then(if i=0 then[(2,some 9),(2,some 10)]else[])else if f=27 then(if i=3000012 then[(5,none)]else if i=0 then[(2,none)]else[])else[]
noncomputable def TT (f:FuncId):Option TFn:=u7 Tryz.prog (HH f) f
noncomputable def E0:Env:={ box:=λf=>if f=8 then some (1,[.arg 0,.val (.int .i64 0)])else none,ps:=λf=>QD Tryz.prog f }
theorem tt_ok:KK Tryz.prog TT:=Nf HH (by kernel_rfl)
abbrev qE:Shs:=⟨[],[],[],([],[])⟩
abbrev qS(s:List (Nat×Sh))(c:List (Nat×List Sh)):Shs:=⟨s,c,[],([],[])⟩
abbrev N1:CT:=.nilr true
abbrev N0:CT:=.nilr false
abbrev CW:CT:=.int .u16
abbrev CB:CT:=.int .u8
abbrev uL(l:List CT):List Sh:=l.map fun c=>.d c ()
abbrev pP(t r:Nat):Nat×Sh:=(t,.ptr ⟨r,0,[]⟩ [0])
abbrev sP(t:Nat)(c:CT):Nat×Sh:=(t,.d c ())
abbrev Lk(n:Nat)(c:Ctr):Prop:=Lvl E0 TT noB n c
theorem aN{m:Nat}:GQ E0 TT noB m []:=trivial
theorem aC{n m:Nat}{c:Ctr}{l:List Ctr}(h:Lk n c)(r:GQ E0 TT noB m l)(hm:n≤m:=by decide):GQ E0 TT noB m (c::l):=⟨h.mono hm,r⟩
abbrev lx(i n:Nat)(s:List (Nat×Sh))(c:List (Nat×List Sh))(b:Nat):Ec:=⟨i,n,⟨s,c,[],([],[])⟩,[(.exit 0,⟨s++[(b,.d .bool ())],c,[],([],[])⟩)]⟩
abbrev LI:Type:=List Int
abbrev LLI:Type:=List (List Int)
abbrev LDCe:Type:=List DCe
abbrev LDCn:Type:=List DCn
abbrev LDIn:Type:=List DIn
abbrev LDOp:Type:=List DOp
abbrev LDLn:Type:=List DLn
abbrev LDTh:Type:=List DTh
abbrev LDOu:Type:=List DOu
abbrev LDEn:Type:=List DEn
abbrev LLCn:Type:=List (List DCn)
abbrev T00:Type:=Bool×LDOu×Unit
abbrev T01:Type:=Bool×LI×Unit
abbrev T02:Type:=Int×Bool×Unit
abbrev T03:Type:=Int×Int×Unit
abbrev T04:Type:=Int×LI×Unit
abbrev T05:Type:=LDCe×LDLn×Unit
abbrev T06:Type:=LDOp×LDCn×Unit
abbrev T07:Type:=LI×Int×Unit
abbrev T08:Type:=LI×LLI×Unit
abbrev T09:Type:=LLCn×LDOp×Unit
abbrev T0a:Type:=Unit×Unit×Unit
abbrev T0b:Type:=Bool×T03
abbrev T0c:Type:=Int×T02
abbrev T0d:Type:=Int×T03
abbrev T0e:Type:=Int×Int×LDOu×Unit
abbrev T0f:Type:=Int×T04
abbrev T0g:Type:=Int×T07
abbrev T0h:Type:=LDCn×T03
abbrev T0i:Type:=LDIn×T08
abbrev T0j:Type:=LDOu×T03
abbrev T0k:Type:=LI×T04
abbrev T0l:Type:=LI×LLI×LI×Unit
abbrev T0m:Type:=Bool×Bool×Bool×Bool×Unit
abbrev T0n:Type:=Int×Bool×T07
abbrev T0o:Type:=Int×Int×T00
abbrev T0p:Type:=Int×Int×T01
abbrev T0q:Type:=Int×T0d
abbrev T0r:Type:=Int×Int×T05
abbrev T0s:Type:=Int×T0g
abbrev T0t:Type:=Int×Int×T09
abbrev T0u:Type:=Int×T0k
abbrev T0v:Type:=LDCn×T0c
abbrev T0w:Type:=LDCn×T0h
abbrev T0x:Type:=LDEn×T0e
abbrev T0y:Type:=LDOu×T0c
abbrev T0z:Type:=LDOu×T0e
abbrev T0A:Type:=LDTh×T0f
abbrev T0B:Type:=LI×T0d
abbrev T0C:Type:=Unit×T0g
abbrev T0D:Type:=Unit×Unit×T05
abbrev T0E:Type:=Unit×Unit×T08
abbrev T0F:Type:=Unit×Unit×T09
abbrev T0G:Type:=Unit×Unit×Unit×LDOp×Unit
abbrev T0H:Type:=Bool×T0q
abbrev T0I:Type:=Bool×T0F
abbrev T0J:Type:=Int×T0n
abbrev T0K:Type:=Int×Int×Bool×T09
abbrev T0L:Type:=Int×T0q
abbrev T0M:Type:=Int×Int×T0i
abbrev T0N:Type:=Int×T0F
abbrev T0O:Type:=LI×T0s
abbrev T0P:Type:=LI×Int×LDCe×LDLn×LDTh×Unit
abbrev T0Q:Type:=LLCn×T0t
abbrev T0R:Type:=Unit×Int×Unit×T0a
abbrev T0S:Type:=Unit×Unit×T0l
abbrev T0T:Type:=Unit×Unit×LLCn×T06
abbrev T0U:Type:=Bool×T0P
abbrev T0V:Type:=Int×Bool×T0E
abbrev T0W:Type:=Int×Int×Bool×T0i
abbrev T0X:Type:=Int×T0L
abbrev T0Y:Type:=Int×Int×T0E
abbrev T0Z:Type:=Int×T0N
abbrev T10:Type:=Int×T0P
abbrev T11:Type:=LDCe×LDLn×T0D
abbrev T12:Type:=LDIn×T0M
abbrev T13:Type:=LI×T0J
abbrev T14:Type:=LI×Int×LDCe×LDLn×LDTh×Bool×Unit
abbrev T15:Type:=LI×LI×LLI×LLCn×LDOp×LDOu×Unit
abbrev T16:Type:=LI×LLI×T0E
abbrev T17:Type:=LLCn×LDOp×T0F
abbrev T18:Type:=Unit×Unit×LLCn×Nat×T06
abbrev T19:Type:=Int×T0V
abbrev T1a:Type:=Int×Int×T0I
abbrev T1b:Type:=Int×T0X
abbrev T1c:Type:=Int×Int×Int×Int×LDCn×T02
abbrev T1d:Type:=Int×Int×Int×Int×Unit×T02
abbrev T1e:Type:=Int×T0Y
abbrev T1f:Type:=Int×Int×LI×Int×Int×LLI×LDCn×Unit
abbrev T1g:Type:=Int×T10
abbrev T1h:Type:=Int×Int×T0S
abbrev T1i:Type:=LDIn×T0W
abbrev T1j:Type:=LLI×T0Z
abbrev T1k:Type:=LLI×Int×Int×T0G
abbrev T1l:Type:=Int×Int×Bool×T0S
abbrev T1m:Type:=Int×T1a
abbrev T1n:Type:=Int×Int×Int×Int×Int×Int×LDCn×LDCn×Unit
abbrev T1o:Type:=Int×Int×Int×Int×Int×Int×T0a
abbrev T1p:Type:=Int×T1h
abbrev T1q:Type:=Int×Int×T15
abbrev T1r:Type:=Int×Int×T16
abbrev T1s:Type:=Int×Int×T17
abbrev T1t:Type:=Int×LDCe×T0X
abbrev T1u:Type:=LDTh×T1g
abbrev T1v:Type:=LI×Int×Unit×Unit×Unit×T0i
abbrev T1w:Type:=LI×Int×Unit×Unit×T0E
abbrev T1x:Type:=Int×Int×Bool×T15
abbrev T1y:Type:=Int×Int×Bool×T16
abbrev T1z:Type:=Int×Int×Bool×T17
abbrev T1A:Type:=Int×Int×T1b
abbrev T1B:Type:=Int×Int×Int×T0Z
abbrev T1C:Type:=Int×T1s
abbrev T1D:Type:=Int×LI×Int×Int×Bool×T0B
abbrev T1E:Type:=Int×T1v
abbrev T1F:Type:=LDIn×LI×LLI×LI×Int×T0D
abbrev T1G:Type:=LDLn×Int×Int×T11
abbrev T1H:Type:=LDOu×T1q
abbrev T1I:Type:=LI×(List (Int×Int×Int×Int×Int×Int×LDCn×LDCn))×Unit
abbrev T1J:Type:=LI×Int×LI×Int×Int×T0B
abbrev T1K:Type:=LI×LLCn×Int×Int×LDCn×T0t
abbrev T1L:Type:=LLCn×T1s
abbrev T1M:Type:=LLI×T1q
abbrev T1N:Type:=LLI×T1r
abbrev T1O:Type:=Bool×T1I
abbrev T1P:Type:=Int×Bool×T1v
abbrev T1Q:Type:=Int×Int×Int×Int×Int×Bool×Bool×Bool×T01
abbrev T1R:Type:=Int×Int×T1n
abbrev T1S:Type:=Int×T1E
abbrev T1T:Type:=Int×Int×T1w
abbrev T1U:Type:=Int×T1I
abbrev T1V:Type:=LI×Int×Int×Int×Int×Int×T0C
abbrev T1W:Type:=LLI×T1y
abbrev T1X:Type:=Unit×Int×Unit×Unit×Unit×T0P
abbrev T1Y:Type:=Int×Int×T1F
abbrev T1Z:Type:=Int×Int×T1N
abbrev T20:Type:=Int×T1X
abbrev T21:Type:=LDCe×Int×Int×T1t
abbrev T22:Type:=LDCn×Nat×Int×Int×Int×T18
abbrev T23:Type:=LI×Int×Bool×LI×T1b
abbrev T24:Type:=LI×Int×Int×LI×Int×Int×T0O
abbrev T25:Type:=LLI×Int×Int×LI×Int×Int×T0T
abbrev T26:Type:=ByteArray×LDCn×T1R
abbrev T27:Type:=Int×Int×Bool×T1F
abbrev T28:Type:=Int×Int×T1Q
abbrev T29:Type:=Int×Int×Int×Int×LDCn×Int×Bool×T0R
abbrev T2a:Type:=Int×Int×Int×Int×Nat×T1h
abbrev T2b:Type:=LDEn×Int×T1U
abbrev T2c:Type:=LI×Int×Int×LI×Int×Int×T13
abbrev T2d:Type:=LLI×T1Y
abbrev T2e:Type:=Int×Int×Bool×T1Q
abbrev T2f:Type:=LI×Int×LDCe×LDLn×LDTh×T1t
abbrev T2g:Type:=Int×Int×LLI×Int×Int×LI×T1r
abbrev T2h:Type:=Int×Int×LDIn×LI×LLI×T1X
abbrev T2i:Type:=LI×Int×LDCe×LDLn×LDTh×T1X
abbrev T2j:Type:=Int×LLI×Int×Int×LI×T1Y
abbrev T2k:Type:=LDIn×LI×LLI×T2f
abbrev T2l:Type:=Nat×LI×Int×LDCe×LDLn×LDTh×Int×Int×Int×Int×Int×Int×T0w
abbrev T2m:Type:=Int×Int×Int×Int×Int×Int×Int×Int×Int×LDCn×LDCn×T1c
abbrev T2n:Type:=Int×Int×LI×Int×Int×Int×Int×Int×Int×Int×Int×Int×Int×Int×T0m
abbrev T2o:Type:=LDIn×LI×LLI×LI×Int×LDCe×LDLn×LDTh×LI×LI×LLI×LLCn×LDOp×LDOu×LI×LLI×LDEn×LI×Unit
abbrev T2p:Type:=LDTh×Int×Int×T2i
abbrev T2q:Type:=Int×Int×Int×Int×Int×Int×LDCn×LDCn×Int×Int×Int×Int×LDCn×Int×T0H
abbrev T2r:Type:=LDIn×LI×LLI×LI×Int×LDCe×LDLn×LDTh×LI×LI×LLI×LLCn×LDOp×LDOu×LI×LLI×LDEn×LI×LI×Unit
abbrev T2s:Type:=LI×T2m
abbrev T2t:Type:=Nat×Int×LI×Int×LDCe×LDLn×LDTh×LDIn×LI×LLI×T1A
abbrev T2u:Type:=Int×Bool×T2o
abbrev T2v:Type:=Int×ByteArray×Int×Int×T2k
abbrev T2w:Type:=Int×Int×Int×T2o
abbrev T2x:Type:=Int×Int×T2r
abbrev T2y:Type:=Int×Int×Bool×T2r
abbrev T2z:Type:=Int×T2x
abbrev T2A:Type:=Int×LDTh×T2x
abbrev T2B:Type:=LDIn×LI×LLI×LI×Int×LDCe×LDLn×LDTh×LI×LI×LLI×LLCn×LDOp×LDOu×LI×LLI×LDEn×LI×T1d
abbrev T2C:Type:=LI×Int×LDCe×LDLn×LDTh×LDIn×LI×LLI×Int×Int×Int×Int×Int×Int×LDCn×LDCn×Int×Int×Int×Int×LDCn×Int×T0b
abbrev T2D:Type:=Nat×Bool×LI×Int×LDCe×LDLn×LDTh×T2q
abbrev T2E:Type:=Nat×T2C
abbrev T2F:Type:=Unit×Unit×Unit×Unit×Unit×Unit×Int×Int×Int×Int×Unit×Int×Bool×LI×LI×LLI×LLCn×LDOp×LDOu×T1c
abbrev T2G:Type:=Unit×Unit×Unit×Unit×Unit×Unit×Int×Int×Int×Int×Unit×Int×Bool×LI×LI×LLI×LLCn×LDOp×LDOu×T1d
abbrev T2H:Type:=LI×Int×LDCe×LDLn×LDTh×LDIn×LI×LLI×T2q
abbrev T2I:Type:=LDTh×Int×Int×T2B
abbrev T2J:Type:=Nat×LDCn×Int×Int×T2H
abbrev T2K:Type:=Nat×LDCn×Int×Int×Bool×T2H
abbrev T2L:Type:=LI×LI×LLI×LLCn×LDOp×LDOu×Int×Int×Int×Int×Int×Int×LDCn×LDCn×Unit×Unit×Unit×Unit×Unit×Unit×Int×Int×Int×Int×Unit×Int×Bool×LI×LI×LLI×LLCn×LDOp×LDOu×LI×Unit
abbrev T2M:Type:=Int×Bool×LDIn×LI×LLI×LI×Int×LDCe×LDLn×LDTh×LI×LI×LLI×LLCn×LDOp×LDOu×LI×LLI×LDEn×LI×Int×Int×Int×Int×Int×Int×LDCn×LDCn×T1d
abbrev T2N:Type:=Unit×Unit×Unit×Unit×Int×Unit×Unit×Unit×Unit×Unit×Unit×Unit×Unit×Unit×Unit×Unit×Unit×Unit×T2o
abbrev T2O:Type:=Unit×Unit×Unit×Unit×Int×Unit×Unit×Unit×Unit×Unit×Unit×Unit×Unit×Unit×Unit×Unit×Unit×Unit×LDIn×LI×LLI×LI×Int×LDCe×LDLn×LDTh×LI×LI×LLI×LLCn×LDOp×LDOu×LI×LLI×Unit×LI×Unit
abbrev T2P:Type:=Int×T2N
abbrev T2Q:Type:=Int×T2O
abbrev T2R:Type:=LDCn×Int×Int×T2L
abbrev T2S:Type:=LDIn×LI×LLI×Unit×Int×Unit×Unit×Unit×Int×Int×Int×Int×Int×Int×Unit×Unit×LI×Int×LDCe×LDLn×LDTh×Int×LDCe×Int×Int×Int×Int×T1R
abbrev T2T:Type:=LDIn×LI×LLI×Unit×Int×Unit×Unit×Unit×Int×Int×Int×Int×Int×Int×Unit×Unit×LI×Int×LDCe×LDLn×LDTh×Int×LDCe×Int×Int×Int×Int×Int×Int×Int×Int×Int×Int×Int×Int×LDCn×Unit×Unit
abbrev T2U:Type:=Bool×T2T
abbrev T2V:Type:=Int×T2P
abbrev T2W:Type:=LI×T2P
abbrev T2X:Type:=Int×Int×T2S
abbrev T2Y:Type:=Int×Int×T2T
abbrev T2Z:Type:=Int×T2W
abbrev T30:Type:=Int×Int×Bool×T2S
noncomputable abbrev ap1{A0 D R:Type}(f:A0→R)(h:A0×D):R:=f h.1
noncomputable abbrev ap2{A0 A1 D R:Type}(f:A0→A1→R)(h:A0×A1×D):R:=f h.1 h.2.1
noncomputable abbrev ap3{A0 A1 A2 D R:Type}(f:A0→A1→A2→R)(h:A0×A1×A2×D):R:=f h.1 h.2.1 h.2.2.1
noncomputable abbrev ap4{A0 A1 A2 A3 D R:Type}(f:A0→A1→A2→A3→R)(h:A0×A1×A2×A3×D):R:=f h.1 h.2.1 h.2.2.1 h.2.2.2.1
noncomputable abbrev ap5{A0 A1 A2 A3 A4 D R:Type}(f:A0→A1→A2→A3→A4→R)(h:A0×A1×A2×A3×A4×D):R:=f h.1 h.2.1 h.2.2.1 h.2.2.2.1 h.2.2.2.2.1
noncomputable abbrev ap6{A0 A1 A2 A3 A4 A5 D R:Type}(f:A0→A1→A2→A3→A4→A5→R)(h:A0×A1×A2×A3×A4×A5×D):R:=f h.1 h.2.1 h.2.2.1 h.2.2.2.1 h.2.2.2.2.1 h.2.2.2.2.2.1
noncomputable abbrev ap7{A0 A1 A2 A3 A4 A5 A6 D R:Type}(f:A0→A1→A2→A3→A4→A5→A6→R)(h:A0×A1×A2×A3×A4×A5×A6×D):R:=f h.1 h.2.1 h.2.2.1 h.2.2.2.1 h.2.2.2.2.1 h.2.2.2.2.2.1 h.2.2.2.2.2.2.1
noncomputable abbrev ap8{A0 A1 A2 A3 A4 A5 A6 A7 D R:Type}(f:A0→A1→A2→A3→A4→A5→A6→A7→R)(h:A0×A1×A2×A3×A4×A5×A6×A7×D):R:=f h.1 h.2.1 h.2.2.1 h.2.2.2.1 h.2.2.2.2.1 h.2.2.2.2.2.1 h.2.2.2.2.2.2.1 h.2.2.2.2.2.2.2.1
noncomputable abbrev ap9{A0 A1 A2 A3 A4 A5 A6 A7 A8 D R:Type}(f:A0→A1→A2→A3→A4→A5→A6→A7→A8→R)(h:A0×A1×A2×A3×A4×A5×A6×A7×A8×D):R:=f h.1 h.2.1 h.2.2.1 h.2.2.2.1 h.2.2.2.2.1 h.2.2.2.2.2.1 h.2.2.2.2.2.2.1 h.2.2.2.2.2.2.2.1 h.2.2.2.2.2.2.2.2.1
noncomputable abbrev ap10{A0 A1 A2 A3 A4 A5 A6 A7 A8 A9 D R:Type}(f:A0→A1→A2→A3→A4→A5→A6→A7→A8→A9→R)(h:A0×A1×A2×A3×A4×A5×A6×A7×A8×A9×D):R:=f h.1 h.2.1 h.2.2.1 h.2.2.2.1 h.2.2.2.2.1 h.2.2.2.2.2.1 h.2.2.2.2.2.2.1 h.2.2.2.2.2.2.2.1 h.2.2.2.2.2.2.2.2.1 h.2.2.2.2.2.2.2.2.2.1
noncomputable abbrev ap11{A0 A1 A2 A3 A4 A5 A6 A7 A8 A9 A10 D R:Type}(f:A0→A1→A2→A3→A4→A5→A6→A7→A8→A9→A10→R)(h:A0×A1×A2×A3×A4×A5×A6×A7×A8×A9×A10×D):R:=f h.1 h.2.1 h.2.2.1 h.2.2.2.1 h.2.2.2.2.1 h.2.2.2.2.2.1 h.2.2.2.2.2.2.1 h.2.2.2.2.2.2.2.1 h.2.2.2.2.2.2.2.2.1 h.2.2.2.2.2.2.2.2.2.1 h.2.2.2.2.2.2.2.2.2.2.1
noncomputable abbrev ap14{A0 A1 A2 A3 A4 A5 A6 A7 A8 A9 A10 A11 A12 A13 D R:Type}(f:A0→A1→A2→A3→A4→A5→A6→A7→A8→A9→A10→A11→A12→A13→R)(h:A0×A1×A2×A3×A4×A5×A6×A7×A8×A9×A10×A11×A12×A13×D):R:=f h.1 h.2.1 h.2.2.1 h.2.2.2.1 h.2.2.2.2.1 h.2.2.2.2.2.1 h.2.2.2.2.2.2.1 h.2.2.2.2.2.2.2.1 h.2.2.2.2.2.2.2.2.1 h.2.2.2.2.2.2.2.2.2.1 h.2.2.2.2.2.2.2.2.2.2.1 h.2.2.2.2.2.2.2.2.2.2.2.1 h.2.2.2.2.2.2.2.2.2.2.2.2.1 h.2.2.2.2.2.2.2.2.2.2.2.2.2.1
noncomputable abbrev ap16{A0 A1 A2 A3 A4 A5 A6 A7 A8 A9 A10 A11 A12 A13 A14 A15 D R:Type}(f:A0→A1→A2→A3→A4→A5→A6→A7→A8→A9→A10→A11→A12→A13→A14→A15→R)(h:A0×A1×A2×A3×A4×A5×A6×A7×A8×A9×A10×A11×A12×A13×A14×A15×D):R:=f h.1 h.2.1 h.2.2.1 h.2.2.2.1 h.2.2.2.2.1 h.2.2.2.2.2.1 h.2.2.2.2.2.2.1 h.2.2.2.2.2.2.2.1 h.2.2.2.2.2.2.2.2.1 h.2.2.2.2.2.2.2.2.2.1 h.2.2.2.2.2.2.2.2.2.2.1 h.2.2.2.2.2.2.2.2.2.2.2.1 h.2.2.2.2.2.2.2.2.2.2.2.2.1 h.2.2.2.2.2.2.2.2.2.2.2.2.2.1 h.2.2.2.2.2.2.2.2.2.2.2.2.2.2.1 h.2.2.2.2.2.2.2.2.2.2.2.2.2.2.2.1
noncomputable abbrev ap18{A0 A1 A2 A3 A4 A5 A6 A7 A8 A9 A10 A11 A12 A13 A14 A15 A16 A17 D R:Type}(f:A0→A1→A2→A3→A4→A5→A6→A7→A8→A9→A10→A11→A12→A13→A14→A15→A16→A17→R)(h:A0×A1×A2×A3×A4×A5×A6×A7×A8×A9×A10×A11×A12×A13×A14×A15×A16×A17×D):R:=f h.1 h.2.1 h.2.2.1 h.2.2.2.1 h.2.2.2.2.1 h.2.2.2.2.2.1 h.2.2.2.2.2.2.1 h.2.2.2.2.2.2.2.1 h.2.2.2.2.2.2.2.2.1 h.2.2.2.2.2.2.2.2.2.1 h.2.2.2.2.2.2.2.2.2.2.1 h.2.2.2.2.2.2.2.2.2.2.2.1 h.2.2.2.2.2.2.2.2.2.2.2.2.1 h.2.2.2.2.2.2.2.2.2.2.2.2.2.1 h.2.2.2.2.2.2.2.2.2.2.2.2.2.2.1 h.2.2.2.2.2.2.2.2.2.2.2.2.2.2.2.1 h.2.2.2.2.2.2.2.2.2.2.2.2.2.2.2.2.1 h.2.2.2.2.2.2.2.2.2.2.2.2.2.2.2.2.2.1
noncomputable abbrev ap19{A0 A1 A2 A3 A4 A5 A6 A7 A8 A9 A10 A11 A12 A13 A14 A15 A16 A17 A18 D R:Type}(f:A0→A1→A2→A3→A4→A5→A6→A7→A8→A9→A10→A11→A12→A13→A14→A15→A16→A17→A18→R)(h:A0×A1×A2×A3×A4×A5×A6×A7×A8×A9×A10×A11×A12×A13×A14×A15×A16×A17×A18×D):R:=f h.1 h.2.1 h.2.2.1 h.2.2.2.1 h.2.2.2.2.1 h.2.2.2.2.2.1 h.2.2.2.2.2.2.1 h.2.2.2.2.2.2.2.1 h.2.2.2.2.2.2.2.2.1 h.2.2.2.2.2.2.2.2.2.1 h.2.2.2.2.2.2.2.2.2.2.1 h.2.2.2.2.2.2.2.2.2.2.2.1 h.2.2.2.2.2.2.2.2.2.2.2.2.1 h.2.2.2.2.2.2.2.2.2.2.2.2.2.1 h.2.2.2.2.2.2.2.2.2.2.2.2.2.2.1 h.2.2.2.2.2.2.2.2.2.2.2.2.2.2.2.1 h.2.2.2.2.2.2.2.2.2.2.2.2.2.2.2.2.1 h.2.2.2.2.2.2.2.2.2.2.2.2.2.2.2.2.2.1 h.2.2.2.2.2.2.2.2.2.2.2.2.2.2.2.2.2.2.1
noncomputable abbrev ap20{A0 A1 A2 A3 A4 A5 A6 A7 A8 A9 A10 A11 A12 A13 A14 A15 A16 A17 A18 A19 D R:Type}(f:A0→A1→A2→A3→A4→A5→A6→A7→A8→A9→A10→A11→A12→A13→A14→A15→A16→A17→A18→A19→R)(h:A0×A1×A2×A3×A4×A5×A6×A7×A8×A9×A10×A11×A12×A13×A14×A15×A16×A17×A18×A19×D):R:=f h.1 h.2.1 h.2.2.1 h.2.2.2.1 h.2.2.2.2.1 h.2.2.2.2.2.1 h.2.2.2.2.2.2.1 h.2.2.2.2.2.2.2.1 h.2.2.2.2.2.2.2.2.1 h.2.2.2.2.2.2.2.2.2.1 h.2.2.2.2.2.2.2.2.2.2.1 h.2.2.2.2.2.2.2.2.2.2.2.1 h.2.2.2.2.2.2.2.2.2.2.2.2.1 h.2.2.2.2.2.2.2.2.2.2.2.2.2.1 h.2.2.2.2.2.2.2.2.2.2.2.2.2.2.1 h.2.2.2.2.2.2.2.2.2.2.2.2.2.2.2.1 h.2.2.2.2.2.2.2.2.2.2.2.2.2.2.2.2.1 h.2.2.2.2.2.2.2.2.2.2.2.2.2.2.2.2.2.1 h.2.2.2.2.2.2.2.2.2.2.2.2.2.2.2.2.2.2.1 h.2.2.2.2.2.2.2.2.2.2.2.2.2.2.2.2.2.2.2.1
noncomputable abbrev ap21{A0 A1 A2 A3 A4 A5 A6 A7 A8 A9 A10 A11 A12 A13 A14 A15 A16 A17 A18 A19 A20 D R:Type}(f:A0→A1→A2→A3→A4→A5→A6→A7→A8→A9→A10→A11→A12→A13→A14→A15→A16→A17→A18→A19→A20→R)(h:A0×A1×A2×A3×A4×A5×A6×A7×A8×A9×A10×A11×A12×A13×A14×A15×A16×A17×A18×A19×A20×D):R:=f h.1 h.2.1 h.2.2.1 h.2.2.2.1 h.2.2.2.2.1 h.2.2.2.2.2.1 h.2.2.2.2.2.2.1 h.2.2.2.2.2.2.2.1 h.2.2.2.2.2.2.2.2.1 h.2.2.2.2.2.2.2.2.2.1 h.2.2.2.2.2.2.2.2.2.2.1 h.2.2.2.2.2.2.2.2.2.2.2.1 h.2.2.2.2.2.2.2.2.2.2.2.2.1 h.2.2.2.2.2.2.2.2.2.2.2.2.2.1 h.2.2.2.2.2.2.2.2.2.2.2.2.2.2.1 h.2.2.2.2.2.2.2.2.2.2.2.2.2.2.2.1 h.2.2.2.2.2.2.2.2.2.2.2.2.2.2.2.2.1 h.2.2.2.2.2.2.2.2.2.2.2.2.2.2.2.2.2.1 h.2.2.2.2.2.2.2.2.2.2.2.2.2.2.2.2.2.2.1 h.2.2.2.2.2.2.2.2.2.2.2.2.2.2.2.2.2.2.2.1 h.2.2.2.2.2.2.2.2.2.2.2.2.2.2.2.2.2.2.2.2.1
noncomputable abbrev ap23{A0 A1 A2 A3 A4 A5 A6 A7 A8 A9 A10 A11 A12 A13 A14 A15 A16 A17 A18 A19 A20 A21 A22 D R:Type}(f:A0→A1→A2→A3→A4→A5→A6→A7→A8→A9→A10→A11→A12→A13→A14→A15→A16→A17→A18→A19→A20→A21→A22→R)(h:A0×A1×A2×A3×A4×A5×A6×A7×A8×A9×A10×A11×A12×A13×A14×A15×A16×A17×A18×A19×A20×A21×A22×D):R:=f h.1 h.2.1 h.2.2.1 h.2.2.2.1 h.2.2.2.2.1 h.2.2.2.2.2.1 h.2.2.2.2.2.2.1 h.2.2.2.2.2.2.2.1 h.2.2.2.2.2.2.2.2.1 h.2.2.2.2.2.2.2.2.2.1 h.2.2.2.2.2.2.2.2.2.2.1 h.2.2.2.2.2.2.2.2.2.2.2.1 h.2.2.2.2.2.2.2.2.2.2.2.2.1 h.2.2.2.2.2.2.2.2.2.2.2.2.2.1 h.2.2.2.2.2.2.2.2.2.2.2.2.2.2.1 h.2.2.2.2.2.2.2.2.2.2.2.2.2.2.2.1 h.2.2.2.2.2.2.2.2.2.2.2.2.2.2.2.2.1 h.2.2.2.2.2.2.2.2.2.2.2.2.2.2.2.2.2.1 h.2.2.2.2.2.2.2.2.2.2.2.2.2.2.2.2.2.2.1 h.2.2.2.2.2.2.2.2.2.2.2.2.2.2.2.2.2.2.2.1 h.2.2.2.2.2.2.2.2.2.2.2.2.2.2.2.2.2.2.2.2.1 h.2.2.2.2.2.2.2.2.2.2.2.2.2.2.2.2.2.2.2.2.2.1 h.2.2.2.2.2.2.2.2.2.2.2.2.2.2.2.2.2.2.2.2.2.2.1
noncomputable abbrev ap26{A0 A1 A2 A3 A4 A5 A6 A7 A8 A9 A10 A11 A12 A13 A14 A15 A16 A17 A18 A19 A20 A21 A22 A23 A24 A25 D R:Type}(f:A0→A1→A2→A3→A4→A5→A6→A7→A8→A9→A10→A11→A12→A13→A14→A15→A16→A17→A18→A19→A20→A21→A22→A23→A24→A25→R)(h:A0×A1×A2×A3×A4×A5×A6×A7×A8×A9×A10×A11×A12×A13×A14×A15×A16×A17×A18×A19×A20×A21×A22×A23×A24×A25×D):R:=f h.1 h.2.1 h.2.2.1 h.2.2.2.1 h.2.2.2.2.1 h.2.2.2.2.2.1 h.2.2.2.2.2.2.1 h.2.2.2.2.2.2.2.1 h.2.2.2.2.2.2.2.2.1 h.2.2.2.2.2.2.2.2.2.1 h.2.2.2.2.2.2.2.2.2.2.1 h.2.2.2.2.2.2.2.2.2.2.2.1 h.2.2.2.2.2.2.2.2.2.2.2.2.1 h.2.2.2.2.2.2.2.2.2.2.2.2.2.1 h.2.2.2.2.2.2.2.2.2.2.2.2.2.2.1 h.2.2.2.2.2.2.2.2.2.2.2.2.2.2.2.1 h.2.2.2.2.2.2.2.2.2.2.2.2.2.2.2.2.1 h.2.2.2.2.2.2.2.2.2.2.2.2.2.2.2.2.2.1 h.2.2.2.2.2.2.2.2.2.2.2.2.2.2.2.2.2.2.1 h.2.2.2.2.2.2.2.2.2.2.2.2.2.2.2.2.2.2.2.1 h.2.2.2.2.2.2.2.2.2.2.2.2.2.2.2.2.2.2.2.2.1 h.2.2.2.2.2.2.2.2.2.2.2.2.2.2.2.2.2.2.2.2.2.1 h.2.2.2.2.2.2.2.2.2.2.2.2.2.2.2.2.2.2.2.2.2.2.1 h.2.2.2.2.2.2.2.2.2.2.2.2.2.2.2.2.2.2.2.2.2.2.2.1 h.2.2.2.2.2.2.2.2.2.2.2.2.2.2.2.2.2.2.2.2.2.2.2.2.1 h.2.2.2.2.2.2.2.2.2.2.2.2.2.2.2.2.2.2.2.2.2.2.2.2.2.1
theorem ls{n:Nat}(C:X.Cfg)(hT:GQ E0 TT noB n C.TB){c:Ctr}(hE:C.E=E0:=by rfl)(h1:(TT c.f).isSome=true:=by kernel_rfl)(hg:∀h,X.runT dI C () ((TT c.f).getD QE) c.outs (i9 c.ins _ h).1 (tM c.pts [] (i9 c.ins _ h).2).1=c.g h:=by intro h;kernel_rfl):Lk (n+1) c:=P1 (n:=n) (C:=C) hE hT (Qa h1) hg
abbrev Uaa(t:Nat):Nat×Sh:=sP t I64
abbrev Xaa(t:Nat):Nat×Sh:=sP t .bool
abbrev Zaa(t r:Nat):Nat×Sh:=(t,.pk ⟨r,0,[]⟩ [0,0])
abbrev uaa(t:CT):CT:=.row true t
abbrev yaa(t:CT):CT:=.row false t
abbrev zaa(t:Nat):Nat×Sh:=pP t (2*t+2)
abbrev uab:List Sh:=uL [.bool]
abbrev yab:List Sh:=uL [RI,I64]
abbrev zab:List Sh:=uL [gk,RI,(yaa RW)]
abbrev Uab:List Sh:=uL [CB,CW]
abbrev Xab:List Sh:=uL [N1,N1]
abbrev Zab:List Sh:=uL [RI,CW]
abbrev uac:List Sh:=uL [(uaa I64)]
abbrev yac:List Sh:=uL [I64,I64,I64,I64,I64,I64,ej,ej]
abbrev zac:List Sh:=uL [gk,RI,(yaa RW),RI,CW,gp,is,i4,RW,RW,(yaa RW),(yaa ej),ia,iM,RI,(yaa RI),(uaa sK),(uaa I64)]
abbrev Uac:List Sh:=uL [RI,CW,(uaa KCe),lQ,sI]
abbrev Xac:List Sh:=uL [I64]
abbrev Zac:List Sh:=uL [(yaa ej),ia]
abbrev uad:List Sh:=uL [I64,I64,I64,I64,I64]
abbrev yad:List Sh:=uL [RI,CW,gp,is,i4]
abbrev zad:List Sh:=uL [I64,I64]
abbrev Uad:List Sh:=uL [CB,CW,I64,I64,N1,I64,.bool]
abbrev Xad:List Sh:=uL [(uaa I64),(uaa (uaa I64))]
abbrev Zad:List Sh:=uL [(uaa (uaa KCn)),(uaa KOp)]
abbrev uae:List Sh:=uL [N1,CW,N1,N1,N1]
abbrev yae:List Sh:=uL [CB,CW,I64,I64,ej,I64,.bool]
abbrev zae:List Sh:=uL [I64,gp,I64,I64,I64,I64,I64,CW]
abbrev Uae:List Sh:=uL [RI,(yaa RI)]
abbrev Xae:List Sh:=uL [(uaa KCe),lQ]
abbrev Zae:List Sh:=uL [(uaa CB)]
abbrev uaf:List Sh:=uL [RW,RW,(yaa RW),(yaa ej),ia,iM]
abbrev yaf:List Sh:=uL [(uaa vg)]
abbrev zaf:List Sh:=uL [I64,I64,I64,I64,I64,I64,N1,N1]
abbrev Uaf:List Sh:=uL [.bool,.bool,.bool,.bool]
abbrev Xaf:List Sh:=uL [N1,N1,N1]
abbrev Zaf:List Sh:=uL [CB,CW,I64,I64]
abbrev uag:List Sh:=uL [N1,N1,N1,N1,CW,N1,N1,N1,N1,N1,N1,N1,N1,N1,N1,N1,N1,N1]
abbrev yag:List Sh:=uL [gp,is]
abbrev zag:List Sh:=uL [RI,CW,(uaa KCe),lQ,(uaa MC)]
abbrev Uag:List Sh:=uL [I64,I64,I64,I64,I64,I64,I64,I64,I64,ej,ej,CB,CW,I64,I64,ej,I64,.bool]
abbrev Xag:List Sh:=uL [N1,N1,N1,N1,N1,N1]
abbrev Zag:List Sh:=uL [(uaa KCn)]
abbrev uah:List Sh:=uL [gk,RI,(yaa RW),RI,CW,gp,is,i4,RW,RW,(yaa RW),(yaa ej),ia,iM,RI,(yaa RI),Cd,RI]
abbrev yah:List Sh:=uL [I64,(uaa KCe),I64,I64,I64,I64,I64,CW]
abbrev zah:List Sh:=uL [(uaa KIn),RI,(uaa (uaa CW))]
abbrev Uah:List Sh:=uL [gk,RI,(uaa (uaa CW))]
abbrev Xah:List Sh:=uL [I64,I64,.bool]
abbrev Zah:List Sh:=uL [(uaa (uaa CW))]
abbrev uai:List Sh:=uL [CB,CW,I64]
abbrev yai:List Sh:=uL [(uaa CW),(uaa CW),(uaa (uaa CW)),(uaa (uaa KCn)),(uaa KOp),(uaa vg)]
abbrev zai:List Sh:=uL [I64,I64,I64,I64,I64,I64,(uaa KCn),N1]
abbrev Uai:List Sh:=uL [I64,I64,I64,I64,I64,I64,(uaa KCn),(uaa KCn)]
abbrev Xai:List Sh:=uL [(uaa (uaa KCn)),(uaa KOp),I64]
abbrev Zai:List Sh:=uL [RI,CW,gp,is,sI]
abbrev uaj:List Sh:=uL [(uaa (uaa KCn)),(uaa KOp),.bool]
abbrev yaj:List Sh:=uL [(uaa vg),I64,.bool]
abbrev zaj:List Sh:=uL [CB,CW,I64,I64,(uaa KCn),I64,.bool]
abbrev Uaj:List Sh:=uL [RI,CW,gp,is,i4,.bool]
abbrev Xaj:List Sh:=uL [gk,RI,(yaa RW),RI,CW,gp,is,i4,RW,RW,(yaa RW),(yaa ej),ia,iM,RI,(yaa RI),(uaa sK)]
def jq(a0:Int)(a1:Int):Option (Int×Unit):=
bif(a1 != 0)then let x0:Int:=(Int.tmod a0 a1);
(bif(decide (x0<0))then(let x1:Int:=(w64 (x0+a1));
some (x1,()))else
some (x0,()):Option (Int×Unit)).bind λ(x1,_)=>
some (x1,())else none
def Fa:X.Cfg:=⟨E0,[],[],[⟨2,0,qE,[(.normal,qS [Uaa 5] [])]⟩]⟩
def sF:Ctr:=⟨33,0,zad,[],[⟨Xac,[.one],[]⟩],ap2 jq⟩
theorem xM:Lk 1 sF:=ls Fa aN
def rk(a0:Int)(a1:Int):Option (Int×Unit):=
(jq a0 a1).bind λ(x0,_)=>
some (x0,())
def L5:X.Cfg:=⟨E0,[sF],[],[]⟩
def Ca:Ctr:=⟨13,1,zad,[],[⟨Xac,[.one],[]⟩],ap2 rk⟩
theorem Gj:Lk 2 Ca:=ls L5 (aC xM aN)
def dM(a0:Int)(a1:List (Int))(a2:Int):Option (T0g):=
let x0:=dO a1.length;
bif(decide (a2>=x0))then(some (0,a1,a2,()))else
let x1:=w64 (a2+1);
let x2:=w64 (x1-1);
(eq x2).bind λx3=>
(dJ a1 x3).bind λx4=>
(rk x4 a0).bind λ(x5,_)=>
some (x5,a1,x1,())
def Fe:X.Cfg:=⟨E0,[Ca],[],[]⟩
def gn:Ctr:=⟨22,2,[.ptr ⟨2,0,[]⟩ [0],shU I64],[(2,yab)],[⟨Xac,[.one],[(2,yab)]⟩],ap3 dM⟩
theorem gV:Lk 3 gn:=ls Fe (aC Gj aN)
def ju(a0:List (Int))(a1:Int):Option (T0g):=
(dM 5 a0 a1).bind λ(x0,x1)=>
(bif(x0==0)then(some (x0,true,x1))else
bif(x0==1)then(some (x0,true,x1))else
some (x0,(x0==2),x1):Option (T0n)).bind λ(x3,x4,x5,x6,_)=>
bif x4 then((dM 8 x5 x6).bind λ(x7,x8,x9,_)=>
let ac:=wk .u16 x7;
some (ac,x8,x9,()))else
bif(x3==3)then((dM 3 x5 x6).bind λ(x7,x8,x9,_)=>
let ac:=w64 (65535-x7);
let ae:=wk .u16 ac;
some (ae,x8,x9,()))else
(dM 65536 x5 x6).bind λ(x7,x8,x9,_)=>
let ac:=wk .u16 x7;
some (ac,x8,x9,())
def Fd:X.Cfg:=⟨E0,[gn],[],[⟨3,0,qE,[(.normal,qS [zaa 0,Uaa 4,Xaa 5] [(2,yab)])]⟩]⟩
def pn:Ctr:=⟨64,5,[.ptr ⟨2,0,[]⟩ [0]],[(2,yab)],[⟨uL [CW],[.one],[(2,yab)]⟩],ap2 ju⟩
theorem sw:Lk 4 pn:=ls Fd (aC gV aN)
def qc:T0u->Option (T0u⊕(Int×Bool×T0k)):=λ(v0,v1,v2,v3,_)=>
bif(decide (v0>0))then(let x0:List (Int):=[6,12,32];
(dM 3 v1 v2).bind λ(x1,x2,x3,_)=>
(eq x1).bind λx4=>
(dJ x0 x4).bind λx5=>
(dJ x0 x4).bind λx6=>
(dM x6 x2 x3).bind λ(x7,x8,x9,_)=>
let ac:=w64 (1+x7);
bif(dW 8 v3.length (List.length [ac]))then let ae:List (Int):=(List.append v3 [ac]);
let af:=w64 (v0-1);
some (.inl (af,x8,x9,ae,()))else none)else
some (.inr (v0,false,v1,v2,v3,()))
def nB(a0:List (Int))(a1:Int):Option (LI×T07):=
(dM 9 a0 a1).bind λ(x0,x1,x2,_)=>
let x3:=w64 (4+x0);
(dM 4 x1 x2).bind λ(x4,x5,x6,_)=>
(dY qc NN (x4,x5,x6,[x3],())).bind λ(x7,x8,x9,ac,ae,_)=>
some (ae,x9,ac,())
def DN:X.Cfg:=⟨E0,[gn],[],[(lx 4 0 [zaa 0,Zaa 3 9,Uaa 4] [(2,yab),(9,uac)] 12)]⟩
def wg:Ctr:=⟨79,11,[.ptr ⟨2,0,[]⟩ [0]],[(2,yab)],[⟨uac,[.one],[(2,yab)]⟩],ap2 nB⟩
theorem Db:Lk 4 wg:=ls DN (aC gV aN)
def qb:T0u->Option (T0u⊕(Int×Bool×T0k)):=λ(v0,v1,v2,v3,_)=>
bif(decide (v0>0))then((ju v1 v2).bind λ(x0,x1,x2,_)=>
bif(dW 2 v3.length (List.length [x0]))then let x3:List (Int):=(List.append v3 [x0]);
let x4:=w64 (v0-1);
some (.inl (x4,x1,x2,x3,()))else none)else
some (.inr (v0,false,v1,v2,v3,()))
def fV(a0:Int)(a1:List (Int))(a2:Int):Option (LI×T07):=
let x0:=w64 (a0+1);
(dM x0 a1 a2).bind λ(x1,x2,x3,_)=>
(dY qb NN (x1,x2,x3,[],())).bind λ(x4,x5,x6,x7,x8,_)=>
some (x8,x6,x7,())
def DM:X.Cfg:=⟨E0,[gn,pn],[],[(lx 4 0 [zaa 0,Zaa 5 13,Uaa 6] [(2,yab),(13,uL [(uaa CW)])] 12)]⟩
def qX:Ctr:=⟨80,12,[.ptr ⟨2,0,[]⟩ [0],shU I64],[(2,yab)],[⟨uL [(uaa CW)],[.one],[(2,yab)]⟩],ap3 fV⟩
theorem vD:Lk 5 qX:=ls DM (aC gV (aC sw aN))
def iG(a0:Int)(a1:Int):Option (T0L):=
some (1,a0,0,0,a1,())
def Oi:X.Cfg:=⟨E0,[],[],[]⟩
def FB:Ctr:=⟨82,13,zad,[],[⟨uad,[.agg 5],[]⟩],ap2 iG⟩
theorem JX:Lk 1 FB:=ls Oi aN
def gT(a0:Int):Option (T0L):=
some (23,0,0,0,a0,())
def L3:X.Cfg:=⟨E0,[],[],[]⟩
def B9:Ctr:=⟨83,14,Xac,[],[⟨uad,[.agg 5],[]⟩],ap1 gT⟩
theorem Gi:Lk 1 B9:=ls L3 aN
def me(a0:Int)(a1:Int):Option (T0L):=
some (2,a0,a1,0,0,())
def L4:X.Cfg:=⟨E0,[],[],[]⟩
def GG:Ctr:=⟨107,15,zad,[],[⟨uad,[.agg 5],[]⟩],ap2 me⟩
theorem LU:Lk 1 GG:=ls L4 aN
def jz(a0:Int):Option (T0m):=
(bif(a0==1)then(some (a0,true,false,false,false,false,()))else
bif(a0==15)then(some (a0,true,false,false,false,false,()))else
bif(a0==19)then(some (a0,true,false,false,false,false,()))else
bif(a0==20)then(some (a0,true,false,false,false,false,()))else
some (a0,(a0==21),false,false,false,false,()):Option (Int×Bool×T0m)).bind λ(x0,x1,_)=>
bif x1 then(some (true,false,false,true,()))else
bif(x0==2)then(some (true,true,false,false,()))else
bif(x0==16)then(some (true,true,false,true,()))else
bif(x0==17)then(some (true,true,false,true,()))else
bif(x0==18)then(some (false,false,false,true,()))else
bif(x0==23)then(some (false,false,false,true,()))else
bif(x0==22)then(some (true,false,false,false,()))else
bif(x0==0)then(some (false,false,false,false,()))else
bif(x0==24)then(some (false,false,false,false,()))else
some (true,true,true,false,())
def DD:X.Cfg:=⟨E0,[],[],[⟨3,0,qE,[(.normal,qS [zaa 2,Uaa 3,Xaa 4] [(6,Uaf)])]⟩]⟩
def qR:Ctr:=⟨134,16,Xac,[],[⟨Uaf,[.agg 4],[]⟩],ap1 jz⟩
theorem vA:Lk 1 qR:=ls DD aN
def gO(a0:Int):Option (Bool×Unit):=
bif(a0==18)then(some (true,()))else
bif(a0==19)then(some (true,()))else
bif(a0==20)then(some (true,()))else
some ((a0==21),())
def DE:X.Cfg:=⟨E0,[],[],[]⟩
def jG:Ctr:=⟨84,17,Xac,[],[⟨uab,[.one],[]⟩],ap1 gO⟩
theorem lz:Lk 1 jG:=ls DE aN
def nC(a0:Int)(a1:Int)(a2:List (Int))(a3:Int):Option (Int×Int×Int×T0s):=
(dM 25 a2 a3).bind λ(x0,x1,x2,_)=>
(jz x0).bind λ(x3,x4)=>
(bif x3 then((dM 8 x1 x2).bind λ(x7,x8,x9,_)=>
some (a0,a1,x8,x9,0,0,0,0,0,x0,x7,0,0,0,x3,x4))else
some (a0,a1,x1,x2,0,0,0,0,0,x0,0,0,0,0,x3,x4):Option (T2n)).bind λ(x7,x8,x9,ac,ae,af,ag,ah,ai,aj,ak,am,an,ap,aq,av,ax)=>
(bif av then((dM 8 x9 ac).bind λ(az,aA,aB,_)=>
some (x7,x8,aA,aB,ae,af,ag,ah,ai,aj,ak,az,an,ap,aq,av,ax))else
some (x7,x8,x9,ac,ae,af,ag,ah,ai,aj,ak,am,an,ap,aq,av,ax):Option (T2n)).bind λ(az,aA,aB,aD,aE,aF,aG,aH,aI,aJ,aK,aL,aM,aO,aP,aQ,aR,aS,_)=>
(bif aR then((dM 8 aB aD).bind λ(aT,aU,aV,_)=>
some (az,aA,aU,aV,aE,aF,aG,aH,aI,aJ,aK,aL,aT,aO,aP,aQ,aR,aS,()))else
some (az,aA,aB,aD,aE,aF,aG,aH,aI,aJ,aK,aL,aM,aO,aP,aQ,aR,aS,()):Option (T2n)).bind λ(aT,aU,aV,aW,aY,aZ,ba,bc,bd,bf,bg,bh,bi,bj,bk,bl,bm,bn,_)=>
((gO bf).bind λ(bo,_)=>
bif bo then((dM aU aV aW).bind λ(bp,bq,bt,_)=>
some (bq,bt,aY,aZ,ba,bc,bd,bf,bg,bh,bi,bp,()))else
bif(bf==15)then((dM aT aV aW).bind λ(bp,bq,bt,_)=>
some (bq,bt,aY,aZ,ba,bc,bd,bf,bg,bh,bi,bp,()))else
bif(bf==23)then((dM 16 aV aW).bind λ(bp,bq,bt,_)=>
some (bq,bt,aY,aZ,ba,bc,bd,bf,bg,bh,bi,bp,()))else
bif bn then((ju aV aW).bind λ(bp,bq,bt,_)=>
let bv:=wk .i64 bp;
some (bq,bt,aY,aZ,ba,bc,bd,bf,bg,bh,bi,bv,()))else
some (aV,aW,aY,aZ,ba,bc,bd,bf,bg,bh,bi,bj,()):Option (LI×Int×Int×T1A)).bind λ(bo,bp,bq,bt,bv,bx,bz,bA,bB,bC,bD,bE,_)=>
some (bA,bB,bC,bD,bE,bo,bp,())
def DO:X.Cfg:=⟨E0,[gn,qR,jG,pn],[],[⟨3,0,qE,[(.normal,qS [zaa 0,Uaa 1,Uaa 2,zaa 6,zaa 7,zaa 8] [(2,yab),(14,uad),(16,uad),(18,Uaf)])]⟩,⟨5,1,qE,[(.normal,qS [zaa 0,Uaa 1,Uaa 2,zaa 6,zaa 7,zaa 8] [(2,yab),(14,uad),(16,uad),(18,Uaf)])]⟩,⟨7,2,qE,[(.normal,qS [zaa 0,Uaa 1,Uaa 2,zaa 6,zaa 7,zaa 8] [(2,yab),(14,uad),(16,uad),(18,Uaf)])]⟩,⟨9,3,qE,[(.normal,qS [zaa 0,zaa 6,zaa 7] [(2,yab),(14,uad),(16,uad)])]⟩]⟩
def wh:Ctr:=⟨108,18,[.ptr ⟨2,0,[]⟩ [0],shU I64,shU I64],[(2,yab)],[⟨uad,[.agg 5],[(2,yab)]⟩],ap4 nC⟩
theorem Dc:Lk 5 wh:=ls DO (aC gV (aC vA (aC lz (aC sw aN))))
def oO(a0:List (Int))(a1:Int)(a2:Int)(a3:List (Int))(a4:Int):Option (LDIn×T07):=
let x0:=dO a0.length;
(dM x0 a3 a4).bind λ(x1,x2,x3,_)=>
(eq x1).bind λx4=>
(dJ a0 x4).bind λx5=>
let x6:=w64 (x5+1);
let x7:=mmR false 5 x6;
(dM x7 x2 x3).bind λ(x8,x9,ac,_)=>
(iG 2 x8).bind λ(ae,af,ag,ah,ai,_)=>
let aj:LDIn:=[(15,(1,(0,(0,x1)))),(ae,(af,(ag,(ah,ai))))];
(dM 20 x9 ac).bind λ(ak,am,an,_)=>
bif(ak==0)then((dM 3 am an).bind λ(ap,aq,av,_)=>
let ax:=w64 (3+ap);
(ju aq av).bind λ(ay,az,aA,_)=>
let aB:=wk .i64 ay;
(iG ax aB).bind λ(aD,aE,aF,aG,aH,_)=>
let aI:LDIn:=[(aD,(aE,(aF,(aG,aH))))];
some (aI,az,aA,()))else
bif(ak==1)then(let ap:List (Int):=[3,4,5,10,13,14,11,9];
(dM 8 am an).bind λ(aq,av,ax,_)=>
(eq aq).bind λay=>
(dJ ap ay).bind λaz=>
(dJ ap ay).bind λaA=>
(dM 3 av ax).bind λ(aB,aD,aE,_)=>
let aF:=w64 (3+aB);
(dM 3 aD aE).bind λ(aG,aH,aI,_)=>
let aJ:=w64 (3+aG);
(dM 3 aH aI).bind λ(aK,aL,aM,_)=>
let aO:=w64 (3+aK);
let aP:LDIn:=[(aA,(aF,(aJ,(aO,0))))];
some (aP,aL,aM,()))else
bif(ak==2)then(let ap:LDIn:=[(15,(6,(0,(0,x1))))];
some (ap,am,an,()))else
bif(ak==3)then((dM 5 am an).bind λ(ap,aq,av,_)=>
let ax:=w64 (3+ap);
(eq x1).bind λay=>
(dJ a0 ay).bind λaz=>
(dM az aq av).bind λ(aA,aB,aD,_)=>
let aE:LDIn:=[(15,(6,(0,(0,x1)))),(17,(6,(ax,(0,aA))))];
some (aE,aB,aD,()))else
bif(ak==4)then((dM 5 am an).bind λ(ap,aq,av,_)=>
let ax:=w64 (3+ap);
(eq x1).bind λay=>
(dJ a0 ay).bind λaz=>
(dM az aq av).bind λ(aA,aB,aD,_)=>
let aE:LDIn:=[(15,(6,(0,(0,x1)))),(17,(6,(ax,(0,aA))))];
some (aE,aB,aD,()))else
bif(ak==5)then((dM 4 am an).bind λ(ap,aq,av,_)=>
let ax:=w64 (3+ap);
(eq x1).bind λay=>
(dJ a0 ay).bind λaz=>
(dM az aq av).bind λ(aA,aB,aD,_)=>
let aE:LDIn:=[(15,(6,(0,(0,x1)))),(16,(ax,(6,(0,aA))))];
some (aE,aB,aD,()))else
bif(ak==6)then((dM 4 am an).bind λ(ap,aq,av,_)=>
let ax:=w64 (3+ap);
(eq x1).bind λay=>
(dJ a0 ay).bind λaz=>
(dM az aq av).bind λ(aA,aB,aD,_)=>
let aE:LDIn:=[(15,(6,(0,(0,x1)))),(16,(ax,(6,(0,aA))))];
some (aE,aB,aD,()))else
bif(ak==7)then((dM 3 am an).bind λ(ap,aq,av,_)=>
(iG 0 ap).bind λ(ax,ay,az,aA,aB,_)=>
let aD:LDIn:=[(ax,(ay,(az,(aA,aB))))];
bif(dW 40 aD.length aj.length)then let aE:LDIn:=(List.append aD aj);
(gT 13).bind λ(aF,aG,aH,aI,aJ,_)=>
let aK:LDIn:=[(aF,(aG,(aH,(aI,aJ))))];
bif(dW 40 aE.length aK.length)then let aL:LDIn:=(List.append aE aK);
some (aL,aq,av,())else none else none)else
bif(ak==8)then((dM 3 am an).bind λ(ap,aq,av,_)=>
(iG 0 ap).bind λ(ax,ay,az,aA,aB,_)=>
let aD:LDIn:=[(ax,(ay,(az,(aA,aB))))];
bif(dW 40 aD.length aj.length)then let aE:LDIn:=(List.append aD aj);
(gT 13).bind λ(aF,aG,aH,aI,aJ,_)=>
let aK:LDIn:=[(aF,(aG,(aH,(aI,aJ))))];
bif(dW 40 aE.length aK.length)then let aL:LDIn:=(List.append aE aK);
some (aL,aq,av,())else none else none)else
bif(ak==9)then((dM 3 am an).bind λ(ap,aq,av,_)=>
(iG 0 ap).bind λ(ax,ay,az,aA,aB,_)=>
let aD:LDIn:=[(ax,(ay,(az,(aA,aB))))];
bif(dW 40 aD.length aj.length)then let aE:LDIn:=(List.append aD aj);
(gT 14).bind λ(aF,aG,aH,aI,aJ,_)=>
(me 3 0).bind λ(aK,aL,aM,aO,aP,_)=>
let aQ:LDIn:=[(aF,(aG,(aH,(aI,aJ)))),(aK,(aL,(aM,(aO,aP))))];
bif(dW 40 aE.length aQ.length)then let aR:LDIn:=(List.append aE aQ);
some (aR,aq,av,())else none else none)else
bif(ak==10)then((dM 3 am an).bind λ(ap,aq,av,_)=>
(iG 0 ap).bind λ(ax,ay,az,aA,aB,_)=>
(dM 4 aq av).bind λ(aD,aE,aF,_)=>
(iG 1 aD).bind λ(aG,aH,aI,aJ,aK,_)=>
(gT 3).bind λ(aL,aM,aO,aP,aQ,_)=>
(me 7 0).bind λ(aR,aS,aT,aU,aV,_)=>
let aW:LDIn:=[(ax,(ay,(az,(aA,aB)))),(aG,(aH,(aI,(aJ,aK)))),(aL,(aM,(aO,(aP,aQ)))),(aR,(aS,(aT,(aU,aV))))];
some (aW,aE,aF,()))else
bif(ak==11)then((me 0 7).bind λ(ap,aq,av,ax,ay,_)=>
let az:LDIn:=[(ap,(aq,(av,(ax,ay))))];
bif(dW 40 az.length aj.length)then let aA:LDIn:=(List.append az aj);
let aB:List (Int):=[1,2];
(dM 2 am an).bind λ(aD,aE,aF,_)=>
(eq aD).bind λaG=>
(dJ aB aG).bind λaH=>
(dJ aB aG).bind λaI=>
(gT aI).bind λ(aJ,aK,aL,aM,aO,_)=>
let aP:LDIn:=[(aJ,(aK,(aL,(aM,aO))))];
bif(dW 40 aA.length aP.length)then let aQ:LDIn:=(List.append aA aP);
some (aQ,aE,aF,())else none else none)else
bif(ak==12)then((me 0 7).bind λ(ap,aq,av,ax,ay,_)=>
(gT 4).bind λ(az,aA,aB,aD,aE,_)=>
let aF:LDIn:=[(ap,(aq,(av,(ax,ay)))),(az,(aA,(aB,(aD,aE))))];
(me 0 7).bind λ(aG,aH,aI,aJ,aK,_)=>
(dM 4 am an).bind λ(aL,aM,aO,_)=>
(iG 1 aL).bind λ(aP,aQ,aR,aS,aT,_)=>
(gT 5).bind λ(aU,aV,aW,aY,aZ,_)=>
let ba:LDIn:=[(aG,(aH,(aI,(aJ,aK)))),(aP,(aQ,(aR,(aS,aT)))),(aU,(aV,(aW,(aY,aZ))))];
let bc:List LDIn:=[aF,ba];
(dM 2 aM aO).bind λ(bd,bf)=>
(eq bd).bind λbh=>
(dJ bc bh).bind λbi=>
(dJ bc bh).bind λbj=>
(dJ bc bh).bind λbk=>
some (bk,bf))else
bif(ak==13)then(let ap:List (Int):=[6,7,15];
(dM 3 am an).bind λ(aq,av,ax,_)=>
(eq aq).bind λay=>
(dJ ap ay).bind λaz=>
(dJ ap ay).bind λaA=>
(gT aA).bind λ(aB,aD,aE,aF,aG,_)=>
(dM 3 av ax).bind λ(aH,aI,aJ,_)=>
let aK:=w64 (3+aH);
(me aK 0).bind λ(aL,aM,aO,aP,aQ,_)=>
let aR:LDIn:=[(aB,(aD,(aE,(aF,aG)))),(aL,(aM,(aO,(aP,aQ))))];
some (aR,aI,aJ,()))else
bif(ak==14)then((dM 3 am an).bind λ(ap,aq,av,_)=>
(iG 0 ap).bind λ(ax,ay,az,aA,aB,_)=>
let aD:List (Int):=[8,9];
(dM 2 aq av).bind λ(aE,aF,aG,_)=>
(eq aE).bind λaH=>
(dJ aD aH).bind λaI=>
(dJ aD aH).bind λaJ=>
(gT aJ).bind λ(aK,aL,aM,aO,aP,_)=>
let aQ:LDIn:=[(ax,(ay,(az,(aA,aB)))),(aK,(aL,(aM,(aO,aP))))];
some (aQ,aF,aG,()))else
bif(ak==15)then((dM 3 am an).bind λ(ap,aq,av,_)=>
(iG 0 ap).bind λ(ax,ay,az,aA,aB,_)=>
let aD:List (Int):=[8,9];
(dM 2 aq av).bind λ(aE,aF,aG,_)=>
(eq aE).bind λaH=>
(dJ aD aH).bind λaI=>
(dJ aD aH).bind λaJ=>
(gT aJ).bind λ(aK,aL,aM,aO,aP,_)=>
let aQ:LDIn:=[(ax,(ay,(az,(aA,aB)))),(aK,(aL,(aM,(aO,aP))))];
some (aQ,aF,aG,()))else
bif(ak==16)then((dM a1 am an).bind λ(ap,aq,av,_)=>
(iG 0 ap).bind λ(ax,ay,az,aA,aB,_)=>
(me 1 3).bind λ(aD,aE,aF,aG,aH,_)=>
(gT 10).bind λ(aI,aJ,aK,aL,aM,_)=>
let aO:LDIn:=[(ax,(ay,(az,(aA,aB)))),(aD,(aE,(aF,(aG,aH)))),(aI,(aJ,(aK,(aL,aM))))];
some (aO,aq,av,()))else
bif(ak==17)then(let ap:List (Int):=[a1,5];
(dM 2 am an).bind λ(aq,av,ax,_)=>
(eq aq).bind λay=>
(dJ ap ay).bind λaz=>
(dJ ap ay).bind λaA=>
(dM aA av ax).bind λ(aB,aD,aE,_)=>
(iG 0 aB).bind λ(aF,aG,aH,aI,aJ,_)=>
let aK:List (Int):=[12,11];
(dM 2 aD aE).bind λ(aL,aM,aO,_)=>
(eq aL).bind λaP=>
(dJ aK aP).bind λaQ=>
(dJ aK aP).bind λaR=>
(gT aR).bind λ(aS,aT,aU,aV,aW,_)=>
let aY:LDIn:=[(aF,(aG,(aH,(aI,aJ)))),(aS,(aT,(aU,(aV,aW))))];
some (aY,aM,aO,()))else
bif(ak==18)then((dM 4 am an).bind λ(ap,aq,av,_)=>
let ax:=w64 (1+ap);
(iG 5 ax).bind λ(ay,az,aA,aB,aD,_)=>
(iG 4 1).bind λ(aE,aF,aG,aH,aI,_)=>
let aJ:=w64 (a2+2);
let aK:LDIn:=[(ay,(az,(aA,(aB,aD)))),(aE,(aF,(aG,(aH,aI)))),(4,(5,(5,(4,0)))),(20,(5,(0,(0,aJ))))];
some (aK,aq,av,()))else
let ap:=dO a0.length;
(nC ap a1 am an).bind λ(aq,av,ax,ay,az,aA,aB,_)=>
let aD:LDIn:=[(aq,(av,(ax,(ay,az))))];
some (aD,aA,aB,())
def Fc:X.Cfg:=⟨E0,[gn,FB,pn,B9,GG,wh],[(156,(uaa KIn))],[]⟩
def yF:Ctr:=⟨81,19,[.ptr ⟨2,0,[]⟩ [0],shU RI,shU I64,shU I64],[(2,yab)],[⟨uL [gk],[.one],[(2,yab)]⟩],ap5 oO⟩
theorem EW:Lk 6 yF:=ls Fc (aC gV (aC JX (aC sw (aC Gi (aC LU (aC Dc aN))))))
def nY:T1T->Option (T1T⊕(Int×Int×Bool×T1w)):=λ(v0,v1,v2,v3,v4,v5,v6,v7,v8,v9,_)=>
bif(decide (v1<v0))then((eq v1).bind λx0=>
(dJ v8 x0).bind λx1=>
(dJ v8 x0).bind λx2=>
(fV x2 v2 v3).bind λ(x3,x4,x5,_)=>
bif(dW 24 v9.length (List.length [x3]))then let x6:List LI:=(List.append v9 [x3]);
let x7:=w64 (v1+1);
some (.inl (v0,x7,x4,x5,v4,v5,v6,v7,v8,x6,()))else none)else
some (.inr (v0,v1,false,v2,v3,v4,v5,v6,v7,v8,v9,()))
def nX:T1E->Option (T1E⊕T1P):=λ(v0,v1,v2,v3,v4,v5,v6,v7,v8,_)=>
bif(decide (v0>0))then((let x0:Int:=(dO v6.length);
let x1:=w64 (x0+1);
let x2:=dO v6.length;
(oO v7 x1 x2 v1 v2).bind λ(x3,x4,x5,_)=>
let x6:=dO v6.length;
let x7:=dO x3.length;
let x8:=w64 (x6+x7);
bif(decide (x8<=62))then(bif(dW 40 v6.length x3.length)then let x9:LDIn:=(List.append v6 x3);
some (v0,x4,x5,v3,v4,v5,x9,v7,v8,())else none)else
some (v0,x4,x5,v3,v4,v5,v6,v7,v8,()):Option (T1E)).bind λ(x0,x1,x2,x3,x4,x5,x6,x7,x8,_)=>
let x9:=w64 (x0-1);
some (.inl (x9,x1,x2,x3,x4,x5,x6,x7,x8,())))else
some (.inr (v0,false,v1,v2,v3,v4,v5,v6,v7,v8,()))
def gE:T1S->Option (T1S⊕(Int×T1P)):=λ(v0,v1,v2,v3,v4,v5,v6,v7,v8)=>
bif(decide (v1<v0))then(((eq v1).bind λx0=>
(dJ v7 x0).bind λx1=>
(gO x1.1).bind λ(x2,_)=>
bif x2 then((eq v1).bind λx3=>
(dJ v7 x3).bind λx4=>
let x5:=dO v7.length;
bif(decide (x4.2.2.2.2>=x5))then((eq v1).bind λx6=>
(dJ v7 x6).bind λx7=>
none)else
some (v0,v1,v2,v3,v4,v5,v6,v7,v8))else
some (v0,v1,v2,v3,v4,v5,v6,v7,v8):Option (T1S)).bind λ(x0,x1,x2,x3,x4,x5,x6,x7,x8)=>
let ac:=w64 (x1+1);
some (.inl (x0,ac,x2,x3,x4,x5,x6,x7,x8)))else
some (.inr (v0,v1,false,v2,v3,v4,v5,v6,v7,v8))
def kZ(a0:List (Int))(a1:Int):Option (LDIn×LI×LLI×T07):=
(nB a0 a1).bind λ(x0,x1,x2,_)=>
let x3:=dO x0.length;
(dY nY NN (x3,0,x1,x2,(),(),(),(),x0,[],())).bind λ(x4,x5,x6,x7,x8,x9,ac,ae,af,ag)=>
(dM 12 x7 x8).bind λ(ai,aj,ak,_)=>
let am:=w64 (1+ai);
(dY nX NN (am,aj,ak,x9,ac,ae,[],ag)).bind λ(an,ap,aq,av,ax,ay,az,aA,aB)=>
((dM 4 aq av).bind λ(aE,aF,aG,_)=>
bif(aE==0)then(let aH:Int:=(dO aA.length);
let aI:=w64 (aH+1);
(dM aI aF aG).bind λ(aJ,aK,aL,_)=>
let aM:LDIn:=[(18,(0,(0,(0,aJ))))];
bif(dW 40 aA.length aM.length)then let aO:LDIn:=(List.append aA aM);
some (aK,aL,ax,ay,az,aO,aB)else none)else
bif(aE==1)then(let aH:LDIn:=[(24,(0,(0,(0,0))))];
bif(dW 40 aA.length aH.length)then let aI:LDIn:=(List.append aA aH);
some (aF,aG,ax,ay,az,aI,aB)else none)else
some (aF,aG,ax,ay,az,aA,aB):Option (T1v)).bind λ(aE,aF,aG,aH,aI,aJ,aK,aL,_)=>
(dM 9 aE aF).bind λ(aM,aO,aP,_)=>
(iG 0 aM).bind λ(aQ,aR,aS,aT,aU,_)=>
(gT 0).bind λ(aV,aW,aY,aZ,ba,_)=>
let bc:LDIn:=[(aQ,(aR,(aS,(aT,aU)))),(aV,(aW,(aY,(aZ,ba))))];
bif(dW 40 aJ.length bc.length)then let bd:LDIn:=(List.append aJ bc);
let bf:=dO bd.length;
bif(decide (bf>64))then(bif(gY 0 64 bd.length)then let bg:LDIn:=(lT bd 0 (Nat.sub 64 0));
let bh:=dO bg.length;
(dY gE NN (bh,0,aO,aP,aG,aH,aI,bg,aK,aL,())).bind λ(bi,bj,bk,bl,bm,bn,bo,bp,bq,bt,bv,_)=>
some (bq,bt,bv,bl,bm,())else none)else
let bg:=dO bd.length;
(dY gE NN (bg,0,aO,aP,aG,aH,aI,bd,aK,aL,())).bind λ(bh,bi,bj,bk,bl,bm,bn,bo,bp,bq,bt,_)=>
some (bp,bq,bt,bk,bl,())else none
def zt:X.Cfg:=⟨E0,[wg,qX,gn,yF,FB,B9,jG],[(24,(uaa CW)),(25,(uaa CW))],[(lx 4 0 [zaa 0,zaa 2,zaa 3,(13,.pk ⟨8,1,[]⟩ [0,0]),Uaa 14,Uaa 15] [(2,yab),(6,Xaf),(8,uL [N1,(uaa I64),(uaa (uaa CW))])] 16),⟨14,1,qE,[(.normal,qS [zaa 0,zaa 2,zaa 3,Uaa 6] [(2,yab),(6,Xaf),(8,zah)])]⟩,⟨11,2,qS [zaa 0,zaa 2,zaa 3,Uaa 6] [(2,yab),(6,Xaf),(8,zah)],[(.exit 2,qS [zaa 0,zaa 2,zaa 3,Uaa 6,Xaa 32] [(2,yab),(6,Xaf),(8,zah)])]⟩,⟨17,3,qE,[(.normal,qS [zaa 0,zaa 2,zaa 3] [(2,yab),(6,Xaf),(8,zah)])]⟩,⟨29,4,qE,[(.normal,qS [zaa 0,zaa 2,zaa 3,Uaa 101,Uaa 102] [(2,yab),(6,Xaf),(8,Uah)])]⟩,⟨26,5,qS [zaa 0,zaa 2,zaa 3,Uaa 101,Uaa 102] [(2,yab),(6,Xaf),(8,Uah)],[(.exit 5,qS [zaa 0,zaa 2,zaa 3,Uaa 101,Uaa 102,Xaa 103] [(2,yab),(6,Xaf),(8,Uah)])]⟩]⟩
def sd:Ctr:=⟨51,20,[.ptr ⟨2,0,[]⟩ [0]],[(2,yab)],[⟨Uah,[.agg 3],[(2,yab)]⟩],ap2 kZ⟩
theorem za:Lk 7 sd:=ls zt (aC Db (aC vD (aC gV (aC EW (aC JX (aC Gi (aC lz aN)))))))
def lJ:LI×LI×T03->Option ((LI×LI×T03)⊕((Bool×Unit)⊕(LI×LI×T0c))):=λ(v0,v1,v2,v3,_)=>
bif(decide (v3<v2))then((eq v3).bind λx0=>
(dJ v1 x0).bind λx1=>
bif(decide (x1<1))then(some (.inr (.inl (false,()))))else
bif(decide (x1>32))then(some (.inr (.inl (false,()))))else
let x2:=w64 (v3+1);
some (.inl (v0,v1,v2,x2,())))else
some (.inr (.inr (v0,v1,v2,v3,false,())))
def gS(a0:List (Int)):Option (Bool×Unit):=
let x0:=dO a0.length;
(match dY lJ NN (a0,a0,x0,0,())with
|none=>none
|some (.inl (x1,_))=>
some (x1,())
|some (.inr (x1,_))=>
let x6:=dO x1.length;
bif(decide (x6>=1))then(let x7:Int:=(dO x1.length);
some ((decide (x7<=4)),()))else
some (false,()))
def BO:X.Cfg:=⟨E0,[],[],[⟨3,0,qS [sP 0 RI,sP 5 RI,Uaa 6,Uaa 7] [],[(.ret,qS [Xaa 2] []),(.exit 0,qS [sP 0 RI,sP 5 RI,Uaa 6,Uaa 7,Xaa 8] [])]⟩]⟩
def ms:Ctr:=⟨118,21,uL [RI],[],[⟨uab,[.one],[]⟩],ap1 gS⟩
theorem oZ:Lk 1 ms:=ls BO aN
def p9:T1V->Option (T1V⊕(LI×Int×Int×Int×Int×Int×Bool×T0C)):=λ(v0,v1,v2,v3,v4,v5,v6,v7,v8,v9,_)=>
bif(decide (v5<v4))then(let x0:Int:=(w64 (v5+v1));
bif(v2 != 0)then let x1:Int:=(Int.tmod x0 v2);
(eq x1).bind λx2=>
(dJ v8 x2).bind λx3=>
(dJ v8 x2).bind λx4=>
let x5:=List.modify v8 x2 λe=>v3;
(eq x1).bind λx6=>
(dJ v0 x6).bind λx7=>
let x8:=w64 (x7+1);
let x9:=w64 (50*v2);
bif(x9 != 0)then let ac:Int:=(w64 (Int.tdiv v1 x9));
let ae:=Int.tmod ac 40;
let af:=w64 (x8+ae);
let ag:=w64 (v3+af);
let ah:=w64 (v5+1);
some (.inl (v0,v1,v2,ag,v4,ah,v6,v7,x5,v9,()))else none else none)else
some (.inr (v0,v1,v2,v3,v4,v5,false,v6,v7,v8,v9,()))
def nz(a0:List (Int))(a1:Int):Option (LI×T03):=
((gS a0).bind λ(x0,_)=>
bif(!x0)then(some (a0,a1,true,(),0,()))else
bif(decide (a1<0))then(some (a0,a1,true,(),0,()))else
some (a0,a1,(decide (a1>1073741824)),(),0,()):Option (LI×Int×Bool×Unit×Int×Unit)).bind λ(x0,x1,x2,x3,x4,_)=>
bif x2 then(some ([],0,1,()))else
let x5:=dO x0.length;
(eq x5).bind λx6=>
(eq x5).bind λx7=>
bif(pR x6 x7 1)then let x8:List (Int):=(List.replicate x6 0);
let x9:=w64 (40503*x1);
let ac:=wk .u16 x9;
bif(x5 != 0)then let ae:Int:=(w64 (Int.tdiv x1 x5));
let af:=Int.tmod ae 50;
let ag:=w64 (1+af);
(dY p9 NN (x0,x1,x5,ag,x5,0,x3,x4,x8,ac,())).bind λ(ah,ai,aj,ak,am,an,ap,aq,av,ax,ay,_)=>
some (ax,ay,0,())else none else none
def DJ:X.Cfg:=⟨E0,[ms],[],[⟨2,0,qE,[(.normal,(qS [sP 0 RI,Uaa 1,zaa 4,Xaa 21] [(10,uL [N1,CW])]))]⟩,(lx 9 1 [sP 0 RI,Uaa 1,zaa 4,Uaa 6,zaa 7,Uaa 8,Uaa 36,Uaa 37] [(10,uL [N1,CW]),(16,uL [(uaa I64),CW])] 38)]⟩
def we:Ctr:=⟨90,22,yab,[],[⟨uL [(uaa I64),CW,I64],[.agg 2,.one],[]⟩],ap2 nz⟩
theorem Da:Lk 2 we:=ls DJ (aC oZ aN)
def mf(a0:List (Int))(a1:List (Int))(a2:Int):Option (LI×T0g):=
(dM 1048576 a1 a2).bind λ(x0,x1)=>
(nz a0 x0).bind λ(x3,x4,x5,_)=>
some (x3,x4,x1)
def BT:X.Cfg:=⟨E0,[gn,we],[],[]⟩
def uj:Ctr:=⟨53,23,[.ptr ⟨2,0,[]⟩ [0],shU RI],[(2,yab)],[⟨uL [(uaa I64),CW],[.agg 2],[(2,yab)]⟩],ap3 mf⟩
theorem Bc:Lk 4 uj:=ls BT (aC gV (aC Da aN))
def gN(a0:Int)(a1:Int)(a2:Int)(a3:Int):Option (Bool×Unit):=
bif(a0==0)then(bif(a2==0)then(some ((a3==0),()))else
some (false,()))else
bif(a0==2)then(bif(a2==0)then(some ((a3==0),()))else
some (false,()))else
bif(a0==1)then(bif(a2==(-1))then(bif(a1==0)then(bif(decide (a3>=0))then(some ((decide (a3<=65535)),()))else
some (false,()))else
some (false,()))else
bif(a1==0)then(bif(decide (a2>=0))then(bif(decide (a2<4))then(bif(decide (a3>=0))then(some ((decide (a3<32)),()))else
some (false,()))else
some (false,()))else
some (false,()))else
some (false,()))else
some (false,())
def Dy:X.Cfg:=⟨E0,[],[],[]⟩
def qM:Ctr:=⟨70,24,[.agg Zaf],[],[⟨uab,[.one],[]⟩],ap4 gN⟩
theorem vx:Lk 1 qM:=ls Dy aN
def gd:LDCn×Int×T0h->Option ((LDCn×Int×T0h)⊕((Bool×Unit)⊕(LDCn×Int×T0v))):=λ(v0,v1,v2,v3,v4,_)=>
bif(decide (v4<v3))then((eq v4).bind λx0=>
(dJ v2 x0).bind λx1=>
(gN x1.1 x1.2.1 x1.2.2.1 x1.2.2.2).bind λ(x2,_)=>
bif(!x2)then(some (.inr (.inl (false,()))))else
let x3:=w64 (v4+1);
some (.inl (v0,v1,v2,v3,x3,())))else
some (.inr (.inr (v0,v1,v2,v3,v4,false,())))
def fu(a0:LDCn)(a1:Int):Option (Bool×Unit):=
let x0:=dO a0.length;
(match dY gd NN (a0,a1,a0,x0,0,())with
|none=>none
|some (.inl (x1,_))=>
some (x1,())
|some (.inr (x1,x2,_))=>
let x7:=dO x1.length;
some ((decide (x7<=x2)),()))
def By:X.Cfg:=⟨E0,[qM],[],[⟨3,0,qS [sP 0 ej,Uaa 1,sP 7 ej,Uaa 8,Uaa 9] [],[(.ret,qS [Xaa 4] []),(.exit 0,qS [sP 0 ej,Uaa 1,sP 7 ej,Uaa 8,Uaa 9,Xaa 10] [])]⟩]⟩
def iV:Ctr:=⟨69,25,uL [ej,I64],[],[⟨uab,[.one],[]⟩],ap2 fu⟩
theorem kt:Lk 2 iV:=ls By (aC vx aN)
def je:T0Q->Option (T0Q⊕((Bool×Unit)⊕(LLCn×T0K))):=λ(v0,v1,v2,v3)=>
bif(decide (v2<v1))then((eq v2).bind λx0=>
(dJ v0 x0).bind λx1=>
(fu x1 64).bind λ(x2,_)=>
bif(!x2)then(some (.inr (.inl (false,()))))else
let x3:=w64 (v2+1);
some (.inl (v0,v1,x3,v3)))else
some (.inr (.inr (v0,v1,v2,false,v3)))
def lG:LDOp×T0t->Option ((LDOp×T0t)⊕((Bool×Unit)⊕(LDOp×T0K))):=λ(v0,v1,v2,v3,v4,_)=>
bif(decide (v2<v1))then((eq v2).bind λx0=>
(dJ v0 x0).bind λx1=>
(bif(x1.1==(-1))then(bif(x1.2.1 != 0)then(some (v0,v1,v2,true,v3,v4,x1.1,x1.2.1,x1.2.2,()))else
bif x1.2.2 then(some (v0,v1,v2,true,v3,v4,x1.1,x1.2.1,x1.2.2,()))else
bif(decide (x1.1<(-1)))then(some (v0,v1,v2,true,v3,v4,x1.1,x1.2.1,x1.2.2,()))else
let x2:=dO v3.length;
bif(decide (x1.1>=x2))then(some (v0,v1,v2,true,v3,v4,x1.1,x1.2.1,x1.2.2,()))else
bif(decide (x1.1>=0))then(bif(decide (x1.2.1<0))then(some (v0,v1,v2,true,v3,v4,x1.1,x1.2.1,x1.2.2,()))else
(eq x1.1).bind λx3=>
(dJ v3 x3).bind λx4=>
let x5:=dO x4.length;
some (v0,v1,v2,(decide (x1.2.1>x5)),v3,v4,x1.1,x1.2.1,x1.2.2,()))else
some (v0,v1,v2,false,v3,v4,x1.1,x1.2.1,x1.2.2,()))else
bif(decide (x1.1<(-1)))then(some (v0,v1,v2,true,v3,v4,x1.1,x1.2.1,x1.2.2,()))else
let x2:=dO v3.length;
bif(decide (x1.1>=x2))then(some (v0,v1,v2,true,v3,v4,x1.1,x1.2.1,x1.2.2,()))else
bif(decide (x1.1>=0))then(bif(decide (x1.2.1<0))then(some (v0,v1,v2,true,v3,v4,x1.1,x1.2.1,x1.2.2,()))else
(eq x1.1).bind λx3=>
(dJ v3 x3).bind λx4=>
let x5:=dO x4.length;
some (v0,v1,v2,(decide (x1.2.1>x5)),v3,v4,x1.1,x1.2.1,x1.2.2,()))else
some (v0,v1,v2,false,v3,v4,x1.1,x1.2.1,x1.2.2,()):Option (LDOp×Int×Int×Bool×LLCn×LDOp×T0c)).bind λ(x2,x3,x4,x5,x6,x7,_)=>
bif x5 then(some (.inr (.inl (false,()))))else
let ae:=w64 (x4+1);
some (.inl (x2,x3,ae,x6,x7,())))else
some (.inr (.inr (v0,v1,v2,false,v3,v4,())))
def jS(a0:List LDCn)(a1:LDOp):Option (Bool×Unit):=
let x0:=dO a0.length;
bif(decide (x0>4))then(some (false,()))else
let x1:=dO a1.length;
bif(x1 != 8)then(some (false,()))else
let x2:=dO a0.length;
(match dY je NN (a0,x2,0,a0,a1,())with
|none=>none
|some (.inl (x3,_))=>
some (x3,())
|some (.inr (x3,x4,x5,x6,x7,x8,_))=>
let x9:=dO x8.length;
(match dY lG NN (x8,x9,0,x7,x8,())with
|none=>none
|some (.inl (ac,_))=>
some (ac,())
|some (.inr (ac,_))=>
some (true,())))
def Br:X.Cfg:=⟨E0,[iV],[],[⟨6,0,qS [zaa 1,sP 18 (yaa ej),Uaa 19,Uaa 20] [(4,Zac)],[(.ret,qS [Xaa 2] []),(.exit 0,qS [zaa 1,sP 18 (yaa ej),Uaa 19,Uaa 20,Xaa 21] [(4,Zac)])]⟩,⟨20,1,qE,[(.normal,qS [zaa 1,sP 29 ia,Uaa 30,Uaa 31,Xaa 81] [(4,Zac),(14,Xah)])]⟩,⟨15,2,qS [zaa 1,sP 29 ia,Uaa 30,Uaa 31] [(4,Zac)],[(.ret,qS [Xaa 2] []),(.exit 2,qS [zaa 1,sP 29 ia,Uaa 30,Uaa 31,Xaa 32] [(4,Zac)])]⟩]⟩
def o9:Ctr:=⟨112,26,[.agg Zac],[],[⟨uab,[.one],[]⟩],ap2 jS⟩
theorem tz:Lk 3 o9:=ls Br (aC kt aN)
def rN:T1k->Option (T1k⊕(LLI×Int×Int×Bool×T0G)):=λ(v0,v1,v2,v3,v4,v5,v6,_)=>
bif(decide (v2<v1))then((eq v2).bind λx0=>
(dJ v6 x0).bind λx1=>
(dJ v6 x0).bind λx2=>
let x3:=(List.modify v6 x0 λe=>((-1),e.2));
let x4:=w64 (v2+1);
some (.inl (v0,v1,x4,v3,v4,v5,x3,())))else
some (.inr (v0,v1,v2,false,v3,v4,v5,v6,()))
def rM:T25->Option (T25⊕(LLI×Int×Int×LI×Int×Int×Bool×T0T)):=λ(v0,v1,v2,v3,v4,v5,v6,v7,v8,v9,v10,_)=>
bif(decide (v5<v4))then((eq v5).bind λx0=>
(dJ v3 x0).bind λx1=>
let x2:LDCn:=[(0,(x1,(0,0)))];
bif(dW 24 v10.length x2.length)then let x3:LDCn:=(List.append v10 x2);
let x4:=w64 (v5+1);
some (.inl (v0,v1,v2,v3,v4,x4,v6,v7,v8,v9,x3,()))else none)else
some (.inr (v0,v1,v2,v3,v4,v5,false,v6,v7,v8,v9,v10,()))
def rL:T1j->Option (T1j⊕(LLI×T1a)):=λ(v0,v1,v2,v3,v4,v5,v6,_)=>
bif(decide (v2<v1))then((eq v2).bind λx0=>
(dJ v0 x0).bind λx1=>
let x2:=dO x1.length;
(dY rM NN (v0,v1,v2,x1,x2,0,v3,v4,v5,v6,[],())).bind λ(x3,x4,x5,x6,x7,x8,x9,ac,ae,af,ag,ah,_)=>
bif(dW 24 af.length (List.length [ah]))then let ai:List LDCn:=(List.append af [ah]);
let aj:=w64 (x5+1);
some (.inl (x3,x4,aj,ac,ae,ai,ag,()))else none)else
some (.inr (v0,v1,v2,false,v3,v4,v5,v6,()))
def oJ(a0:List LI):Option (LLCn×LDOp×Int×Unit):=
bif(pR 8 8 3)then let x0:LDOp:=(List.replicate 8 (0,(0,false)));
let x1:=dO x0.length;
(dY rN NN (a0,x1,0,(),(),(),x0,())).bind λ(x2,x3,x4,x5,x6,x7,x8,x9,_)=>
let ac:=dO x2.length;
(dY rL NN (x2,ac,0,x6,x7,[],x9,())).bind λ(ae,af,ag,ah,ai,aj,ak,am,_)=>
(jS ak am).bind λ(an,_)=>
bif(!an)then(some ([],[],3,()))else
some (ak,am,0,())else none
def EZ:X.Cfg:=⟨E0,[o9],[(46,(uaa KCn)),(47,(uaa KCn))],[(lx 4 0 [sP 0 (yaa RW),zaa 2,zaa 4,Uaa 15,Uaa 16] [(6,Xab),(10,uL [N1,(uaa KOp)])] 17),⟨19,1,qS [zaa 2,zaa 4,Zaa 8 19,sP 25 (yaa RW),Uaa 26,Uaa 27,sP 31 RW,Uaa 32,Uaa 33] [(6,Xab),(10,Zad),(19,Zag)],[(.exit 4,qS [zaa 2,zaa 4,Zaa 8 19,sP 25 (yaa RW),Uaa 26,Uaa 27,sP 31 RW,Uaa 32,Uaa 33,Xaa 34] [(6,Xab),(10,Zad),(19,Zag)])]⟩,⟨11,2,qS [zaa 2,zaa 4,sP 25 (yaa RW),Uaa 26,Uaa 27] [(6,Xab),(10,Zad)],[(.exit 2,qS [zaa 2,zaa 4,sP 25 (yaa RW),Uaa 26,Uaa 27,Xaa 28] [(6,Xab),(10,Zad)])]⟩]⟩
def yy:Ctr:=⟨119,27,uL [(yaa RW)],[],[⟨Xai,[.agg 2,.one],[]⟩],ap1 oJ⟩
theorem EP:Lk 4 yy:=ls EZ (aC tz aN)
def fD:LLI×Int×Int×LLI×Unit->Option ((LLI×Int×Int×LLI×Unit)⊕(LLI×Int×Int×Bool×LLI×Unit)):=λ(v0,v1,v2,v3,_)=>
bif(decide (v2<v1))then((eq v2).bind λx0=>
(dJ v0 x0).bind λx1=>
bif(dW 2 0 x1.length)then let x2:List (Int):=(List.append [] x1);
bif(dW 24 v3.length (List.length [x2]))then let x3:List LI:=(List.append v3 [x2]);
let x4:=w64 (v2+1);
some (.inl (v0,v1,x4,x3,()))else none else none)else
some (.inr (v0,v1,v2,false,v3,()))
def fJ(a0:List LI):Option (LLI×Unit):=
let x0:=dO a0.length;
(dY fD NN (a0,x0,0,[],())).bind λ(x1,x2,x3,x4,x5,_)=>
some (x5,())
def tK:X.Cfg:=⟨E0,[],[(15,(uaa CW)),(16,(uaa CW))],[(lx 4 0 [Zaa 3 9,sP 6 (yaa RW),Uaa 7,Uaa 8] [(9,Zah)] 9)]⟩
def io:Ctr:=⟨115,28,uL [(yaa RW)],[],[⟨Zah,[.one],[]⟩],ap1 fJ⟩
theorem ko:Lk 1 io:=ls tK aN
def ig:T0j->Option (T0j⊕((Bool×Unit)⊕T0y)):=λ(v0,v1,v2,_)=>
bif(decide (v2<v1))then((eq v2).bind λx0=>
(dJ v0 x0).bind λx1=>
(bif(x1.1 != v2)then(some (v0,v1,v2,true,()))else
bif(decide (x1.2.1<0))then(some (v0,v1,v2,true,()))else
bif(decide (x1.2.1>=2))then(some (v0,v1,v2,true,()))else
let x2:=dO x1.2.2.length;
some (v0,v1,v2,(decide (x2>16)),()):Option (T0y)).bind λ(x2,x3,x4,x5,_)=>
bif x5 then(some (.inr (.inl (false,()))))else
let x6:=w64 (x4+1);
some (.inl (x2,x3,x6,())))else
some (.inr (.inr (v0,v1,v2,false,())))
def jR(a0:LDOu):Option (Bool×Unit):=
let x0:=dO a0.length;
(match dY ig NN (a0,x0,0,())with
|none=>none
|some (.inl (x1,_))=>
some (x1,())
|some (.inr (x1,_))=>
some (true,()))
def xV:X.Cfg:=⟨E0,[],[],[⟨8,0,qE,[(.normal,qS [sP 5 iM,Uaa 6,Uaa 7,Xaa 31] [])]⟩,⟨3,1,qS [sP 5 iM,Uaa 6,Uaa 7] [],[(.ret,qS [Xaa 2] []),(.exit 0,qS [sP 5 iM,Uaa 6,Uaa 7,Xaa 8] [])]⟩]⟩
def qH:Ctr:=⟨113,29,uL [iM],[],[⟨uab,[.one],[]⟩],ap1 jR⟩
theorem xF:Lk 1 qH:=ls xV aN
def jd:T1M->Option (T1M⊕((Bool×Unit)⊕(LLI×T1x))):=λ(v0,v1,v2,v3)=>
bif(decide (v2<v1))then((eq v2).bind λx0=>
(dJ v0 x0).bind λx1=>
let x2:=dO x1.length;
bif(decide (x2>64))then(some (.inr (.inl (false,()))))else
let x3:=w64 (v2+1);
some (.inl (v0,v1,x3,v3)))else
some (.inr (.inr (v0,v1,v2,false,v3)))
def jc:T1H->Option (T1H⊕((Bool×Unit)⊕(LDOu×T1x))):=λ(v0,v1,v2,v3)=>
bif(decide (v2<v1))then((eq v2).bind λx0=>
(dJ v0 x0).bind λx1=>
(fu x1.2.2 16).bind λ(x2,_)=>
bif(!x2)then(some (.inr (.inl (false,()))))else
let x3:=w64 (v2+1);
some (.inl (v0,v1,x3,v3)))else
some (.inr (.inr (v0,v1,v2,false,v3)))
def iQ(a0:List (Int))(a1:List (Int))(a2:List LI)(a3:List LDCn)(a4:LDOp)(a5:LDOu):Option (Bool×Unit):=
let x0:=dO a2.length;
(match dY jd NN (a2,x0,0,a0,a1,a2,a3,a4,a5,())with
|none=>none
|some (.inl (x1,_))=>
some (x1,())
|some (.inr (x1,x2,x3,x4,x5,x6,x7,x8,x9,ac,_))=>
let ae:=dO ac.length;
(match dY jc NN (ac,ae,0,x5,x6,x7,x8,x9,ac,())with
|none=>none
|some (.inl (af,_))=>
some (af,())
|some (.inr (af,ag,ah,ai,aj,ak,am,an,ap,aq,_))=>
let av:=dO aj.length;
bif(decide (av<=64))then(let ax:Int:=(dO ak.length);
bif(decide (ax<=64))then(let ay:Int:=(dO am.length);
bif(decide (ay<=2))then((jS an ap).bind λ(az,_)=>
bif az then(let aA:Int:=(dO aq.length);
bif(decide (aA<=200))then((jR aq).bind λ(aB,_)=>
some (aB,()))else
some (false,()))else
some (false,()))else
some (false,()))else
some (false,()))else
some (false,())))
def Bo:X.Cfg:=⟨E0,[iV,o9,qH],[],[⟨3,0,qS [zaa 1,sP 8 (yaa RW),Uaa 9,Uaa 10] [(4,uaf)],[(.ret,qS [Xaa 2] []),(.exit 0,qS [zaa 1,sP 8 (yaa RW),Uaa 9,Uaa 10,Xaa 11] [(4,uaf)])]⟩,⟨12,1,qS [zaa 1,sP 19 iM,Uaa 20,Uaa 21] [(4,uaf)],[(.ret,qS [Xaa 2] []),(.exit 2,qS [zaa 1,sP 19 iM,Uaa 20,Uaa 21,Xaa 22] [(4,uaf)])]⟩]⟩
def mo:Ctr:=⟨86,30,[.agg uaf],[],[⟨uab,[.one],[]⟩],ap6 iQ⟩
theorem oU:Lk 4 mo:=ls Bo (aC kt (aC tz (aC xF aN)))
def oI(a0:List LI)(a1:List LI)(a2:List (Int))(a3:List (Int)):Option (LI×LI×LLI×LLCn×LDOp×Unit×Int×Unit):=
(oJ a0).bind λ(x0,x1,x2,_)=>
bif(x2 != 0)then(some ([],[],[],[],[],(),x2,()))else
bif(dW 2 0 a2.length)then let x3:List (Int):=(List.append [] a2);
bif(dW 2 0 a3.length)then let x4:List (Int):=(List.append [] a3);
(fJ a1).bind λ(x5,_)=>
(iQ x3 x4 x5 x0 x1 []).bind λ(x6,_)=>
bif(!x6)then(some ([],[],[],[],[],(),3,()))else
some (x3,x4,x5,x0,x1,(),0,())else none else none
def Bp:X.Cfg:=⟨E0,[yy,io,mo],[],[]⟩
def tV:Ctr:=⟨91,31,uL [(yaa RW),(yaa RW),RW,RW],[],[⟨uL [RW,RW,(yaa RW),(yaa ej),ia,N1,I64],[.agg 6,.one],[]⟩],ap4 oI⟩
theorem AU:Lk 5 tV:=ls Bp (aC EP (aC ko (aC oU aN)))
def k8(a0:List (Int))(a1:Int):Option (LI×LI×LLI×LLCn×LDOp×Unit×T07):=
(fV 5 a0 a1).bind λ(x0,x1,x2,_)=>
(fV 3 x1 x2).bind λ(x3,x4,x5,_)=>
let x6:List LI:=[x0,x3];
(fV 8 x4 x5).bind λ(x7,x8,x9,_)=>
(fV 4 x8 x9).bind λ(ac,ae,af,_)=>
let ag:List LI:=[x7,ac];
(fV 5 ae af).bind λ(ah,ai,aj,_)=>
(fV 5 ai aj).bind λ(ak,am)=>
(oI x6 ag ah ak).bind λ(ap,aq,av,ax,ay,az,aA,_)=>
some (ap,aq,av,ax,ay,az,am)
def zu:X.Cfg:=⟨E0,[qX,tV],[(10,(uaa CW)),(15,(uaa CW))],[]⟩
def se:Ctr:=⟨54,32,[.ptr ⟨2,0,[]⟩ [0]],[(2,yab)],[⟨uL [RW,RW,(yaa RW),(yaa ej),ia,N1],[.agg 6],[(2,yab)]⟩],ap2 k8⟩
theorem zb:Lk 6 se:=ls zu (aC vD (aC AU aN))
def jj:T28->Option (T28⊕((Bool×Unit)⊕T2e)):=λ(v0,v1,v2,v3,v4,v5,v6,v7,v8,v9,v10,v11,_)=>
bif(decide (v1<v0))then((eq v1).bind λx0=>
(dJ v11 x0).bind λx1=>
(dJ v11 x0).bind λx2=>
(bif(decide (x2<0))then(some (v0,v1,true,v2,v3,v4,v5,v6,v7,v8,v9,v10,v11,()))else
bif(decide (x2>=8))then(some (v0,v1,true,v2,v3,v4,v5,v6,v7,v8,v9,v10,v11,()))else
(eq v1).bind λx3=>
bif(Nat.beq x3 0)then(bif(!v7)then(some (v0,v1,(x2 != 0),v2,v3,v4,v5,v6,v7,v8,v9,v10,v11,()))else
some (v0,v1,false,v2,v3,v4,v5,v6,v7,v8,v9,v10,v11,()))else
bif(Nat.beq x3 1)then(bif(!v8)then(some (v0,v1,(x2 != 0),v2,v3,v4,v5,v6,v7,v8,v9,v10,v11,()))else
some (v0,v1,false,v2,v3,v4,v5,v6,v7,v8,v9,v10,v11,()))else
bif(Nat.beq x3 2)then(bif(!v9)then(some (v0,v1,(x2 != 0),v2,v3,v4,v5,v6,v7,v8,v9,v10,v11,()))else
some (v0,v1,false,v2,v3,v4,v5,v6,v7,v8,v9,v10,v11,()))else
bif(Nat.beq x3 3)then bif(!v10)then(some (v0,v1,(x2 != 0),v2,v3,v4,v5,v6,v7,v8,v9,v10,v11,()))else
some (v0,v1,false,v2,v3,v4,v5,v6,v7,v8,v9,v10,v11,())else none:Option (T2e)).bind λ(x3,x4,x5,x6)=>
bif x5 then(some (.inr (.inl (false,()))))else
let aj:=w64 (x4+1);
some (.inl (x3,aj,x6)))else
some (.inr (.inr (v0,v1,false,v2,v3,v4,v5,v6,v7,v8,v9,v10,v11,())))
def mc(a0:Int)(a1:Int)(a2:Int)(a3:Int)(a4:Int):Option (Bool×Unit):=
bif(decide (a0<0))then(some (false,()))else
bif(decide (a0>24))then(some (false,()))else
(jz a0).bind λ(x0,x1,x2,x3,_)=>
let x4:List (Int):=[a1,a2,a3];
let x5:=dO x4.length;
(match dY jj NN (x5,0,a0,a1,a2,a3,a4,x0,x1,x2,x3,x4,())with
|none=>none
|some (.inl (x6,_))=>
some (x6,())
|some (.inr (x6,x7,x8,x9,ac,ae,af,ag,ah,ai,aj,ak,am,_))=>
(bif(decide (ag<0))then(some (true,x9,ac,ae,af,ag,()))else
bif(decide (ag>65535))then(some (true,x9,ac,ae,af,ag,()))else
bif(!ak)then(some ((ag != 0),x9,ac,ae,af,ag,()))else
some (false,x9,ac,ae,af,ag,()):Option (Bool×T0L)).bind λ(an,ap,aq,av,ax,ay,_)=>
bif an then(some (false,()))else
(gO ap).bind λ(az,_)=>
bif az then(some ((decide (ay<64)),()))else
bif(ap==15)then(some ((decide (ay<4)),()))else
bif(ap==23)then(some ((decide (ay<=15)),()))else
some (true,()))
def BH:X.Cfg:=⟨E0,[qR,jG],[],[⟨12,0,qE,[(.normal,qS [zaa 1,zaa 3,Zaa 23 49,Uaa 24,Uaa 25,Xaa 45] [(4,uad),(8,Uaf),(49,uac)])]⟩,⟨7,1,qS [zaa 1,zaa 3,Zaa 23 49,Uaa 24,Uaa 25] [(4,uad),(8,Uaf),(49,uac)],[(.ret,qS [Xaa 2] []),(.exit 0,qS [zaa 1,zaa 3,Zaa 23 49,Uaa 24,Uaa 25,Xaa 26] [(4,uad),(8,Uaf),(49,uac)])]⟩,⟨15,2,qE,[(.normal,qS [zaa 1,Xaa 64] [(4,uad)])]⟩]⟩
def ud:Ctr:=⟨135,33,[.agg uad],[],[⟨uab,[.one],[]⟩],ap5 mc⟩
theorem A6:Lk 2 ud:=ls BH (aC vA (aC lz aN))
def ji:LLI×T0M->Option ((LLI×T0M)⊕((Int×Unit)⊕(LLI×T0W))):=λ(v0,v1,v2,v3,v4,v5,_)=>
bif(decide (v2<v1))then((eq v2).bind λx0=>
(dJ v0 x0).bind λx1=>
let x2:=dO x1.length;
(eq v2).bind λx3=>
(dJ v4 x3).bind λx4=>
bif(decide (x2>x4))then(some (.inr (.inl (1,()))))else
let x5:=w64 (v2+1);
some (.inl (v0,v1,x5,v3,v4,v5,())))else
some (.inr (.inr (v0,v1,v2,false,v3,v4,v5,())))
def jh:T12->Option (T12⊕((Int×Unit)⊕T1i)):=λ(v0,v1,v2,v3)=>
bif(decide (v2<v1))then((eq v2).bind λx0=>
(dJ v0 x0).bind λx1=>
(mc x1.1 x1.2.1 x1.2.2.1 x1.2.2.2.1 x1.2.2.2.2).bind λ(x2,_)=>
bif(!x2)then(some (.inr (.inl (5,()))))else
let x3:=w64 (v2+1);
some (.inl (v0,v1,x3,v3)))else
some (.inr (.inr (v0,v1,v2,false,v3)))
def jg:T12->Option (T12⊕((Int×Unit)⊕T1i)):=λ(v0,v1,v2,v3,v4,v5,_)=>
bif(decide (v2<v1))then((eq v2).bind λx0=>
(dJ v0 x0).bind λx1=>
((gO x1.1).bind λ(x2,_)=>
bif x2 then(let x3:Int:=(dO v3.length);
bif(decide (x1.2.2.2.2>=x3))then(some (v0,v1,v2,true,v3,v4,v5,()))else
bif(x1.1==15)then(let x4:Int:=(dO v4.length);
some (v0,v1,v2,(decide (x1.2.2.2.2>=x4)),v3,v4,v5,()))else
some (v0,v1,v2,false,v3,v4,v5,()))else
bif(x1.1==15)then(let x3:Int:=(dO v4.length);
some (v0,v1,v2,(decide (x1.2.2.2.2>=x3)),v3,v4,v5,()))else
some (v0,v1,v2,false,v3,v4,v5,()):Option (T1i)).bind λ(x2,x3,x4,x5,x6)=>
bif x5 then(some (.inr (.inl (6,()))))else
let x9:=w64 (x4+1);
some (.inl (x2,x3,x9,x6)))else
some (.inr (.inr (v0,v1,v2,false,v3,v4,v5,())))
def j0(a0:LDIn)(a1:List (Int))(a2:List LI):Option (Int×Unit):=
(gS a1).bind λ(x0,_)=>
bif(!x0)then(some (1,()))else
let x1:=dO a2.length;
let x2:=dO a1.length;
bif(x1 != x2)then(some (1,()))else
let x3:=dO a2.length;
(match dY ji NN (a2,x3,0,a0,a1,a2,())with
|none=>none
|some (.inl (x4,_))=>
some (x4,())
|some (.inr (x4,x5,x6,x7,x8,x9))=>
let ae:=dO x8.length;
bif(decide (ae<1))then(some (3,()))else
let af:=dO x8.length;
bif(decide (af>64))then(some (3,()))else
let ag:=dO x8.length;
(match dY jh NN (x8,ag,0,x8,x9)with
|none=>none
|some (.inl (ah,_))=>
some (ah,())
|some (.inr (ah,ai,aj,ak,am,an))=>
let aq:=dO am.length;
(match dY jg NN (am,aq,0,am,an)with
|none=>none
|some (.inl (av,_))=>
some (av,())
|some (.inr (av,_))=>
some (0,()))))
def BG:X.Cfg:=⟨E0,[ms,ud,jG],[],[⟨6,0,qS [zaa 1,sP 23 (yaa RW),Uaa 24,Uaa 25] [(4,zab)],[(.ret,qS [Uaa 2] []),(.exit 0,qS [zaa 1,sP 23 (yaa RW),Uaa 24,Uaa 25,Xaa 26] [(4,zab)])]⟩,⟨18,1,qS [zaa 1,sP 50 gk,Uaa 51,Uaa 52] [(4,zab)],[(.ret,qS [Uaa 2] []),(.exit 2,qS [zaa 1,sP 50 gk,Uaa 51,Uaa 52,Xaa 53] [(4,zab)])]⟩,⟨32,2,qE,[(.normal,qS [zaa 1,sP 61 gk,Uaa 62,Uaa 63,Xaa 90] [(4,zab)])]⟩,⟨27,3,qS [zaa 1,sP 61 gk,Uaa 62,Uaa 63] [(4,zab)],[(.ret,qS [Uaa 2] []),(.exit 4,qS [zaa 1,sP 61 gk,Uaa 62,Uaa 63,Xaa 64] [(4,zab)])]⟩]⟩
def pe:Ctr:=⟨109,34,[.agg zab],[],[⟨Xac,[.one],[]⟩],ap3 j0⟩
theorem tD:Lk 3 pe:=ls BG (aC oZ (aC A6 (aC lz aN)))
def jm:T24->Option (T24⊕((Bool×Unit)⊕T2c)):=λ(v0,v1,v2,v3,v4,v5,v6,v7,v8,v9)=>
bif(decide (v8<v7))then((match((eq v8).bind λx0=>
(dJ v6 x0).bind λx1=>
(eq v1).bind λx2=>
(dJ v0 x2).bind λx3=>
let x4:=w64 (v2+x3);
bif(decide (x4>=x1))then((eq v8).bind λx5=>
(dJ v0 x5).bind λx6=>
let x7:=w64 (x1+x6);
bif(decide (x7>=v2))then(some (.inl (false,())))else
some (.inr (v0,v1,v2,v3,v4,v5,v6,v7,v8,false,v9)))else
some (.inr (v0,v1,v2,v3,v4,v5,v6,v7,v8,false,v9)):Option ((Bool×Unit)⊕T2c))with
|none=>none
|some (.inl (x0,_))=>
some (.inr (.inl (x0,())))
|some (.inr (x0,x1,x2,x3,x4,x5,x6,x7,x8,x9,ac))=>
let af:=w64 (x8+1);
some (.inl (x0,x1,x2,x3,x4,x5,x6,x7,af,ac))))else
some (.inr (.inr (v0,v1,v2,v3,v4,v5,v6,v7,v8,false,v9)))
def jl:LI×T0O->Option ((LI×T0O)⊕((Bool×Unit)⊕(LI×T13))):=λ(v0,v1,v2,v3,v4,v5,_)=>
bif(decide (v3<v2))then((eq v3).bind λx0=>
(dJ v1 x0).bind λx1=>
bif(decide (x1<0))then(some (.inr (.inl (false,()))))else
(eq v3).bind λx2=>
(dJ v0 x2).bind λx3=>
let x4:=w64 (512-x3);
bif(decide (x1>x4))then(some (.inr (.inl (false,()))))else
(eq v3).bind λx5=>
bif(gY 0 x5 v4.length)then let x6:List (Int):=(lT v4 0 (Nat.sub x5 0));
let x7:=dO x6.length;
(match dY jm NN (v0,v3,x1,v1,v2,v3,x6,x7,0,v4,v5,())with
|none=>none
|some (.inl (x8,_))=>
some (.inr (.inl (x8,())))
|some (.inr (x8,x9,ac,ae,af,ag,ah,ai,aj,ak,am))=>
let ap:=w64 (ag+1);
some (.inl (x8,ae,af,ap,am)))else none)else
some (.inr (.inr (v0,v1,v2,v3,false,v4,v5,())))
def iS(a0:List (Int))(a1:Int)(a2:List (Int)):Option (Bool×Unit):=
(gS a2).bind λ(x0,_)=>
bif(!x0)then(some (false,()))else
let x1:=dO a0.length;
let x2:=dO a2.length;
bif(x1 != x2)then(some (false,()))else
let x3:=dO a0.length;
(match dY jl NN (a2,a0,x3,0,a0,a1,())with
|none=>none
|some (.inl (x4,_))=>
some (x4,())
|some (.inr (x4,_))=>
some (true,()))
def BM:X.Cfg:=⟨E0,[ms],[],[⟨18,0,qE,[(.ret,qS [Xaa 4] []),(.normal,qS [sP 1 RI,zaa 2,Uaa 5,Uaa 6,sP 21 RI,Uaa 22,Uaa 23,sP 42 RI,Uaa 43,Uaa 44,Xaa 66] [(6,Zab)])]⟩,⟨15,1,qS [sP 1 RI,zaa 2,Uaa 5,Uaa 6,sP 21 RI,Uaa 22,Uaa 23,sP 42 RI,Uaa 43,Uaa 44] [(6,Zab)],[(.ret,qS [Xaa 4] []),(.exit 2,qS [sP 1 RI,zaa 2,Uaa 5,Uaa 6,sP 21 RI,Uaa 22,Uaa 23,sP 42 RI,Uaa 43,Uaa 44,Xaa 45] [(6,Zab)])]⟩,⟨6,2,qS [sP 1 RI,zaa 2,sP 21 RI,Uaa 22,Uaa 23] [(6,Zab)],[(.ret,qS [Xaa 4] []),(.exit 0,qS [sP 1 RI,zaa 2,sP 21 RI,Uaa 22,Uaa 23,Xaa 24] [(6,Zab)])]⟩]⟩
def mr:Ctr:=⟨110,35,[.agg Zab,shU RI],[],[⟨uab,[.one],[]⟩],ap3 iS⟩
theorem oY:Lk 2 mr:=ls BM (aC oZ aN)
def wm:Int×Int×LDLn×Unit->Option ((Int×Int×LDLn×Unit)⊕(Int×Int×Bool×LDLn×Unit)):=λ(v0,v1,v2,_)=>
bif(decide (v1<v0))then((eq v1).bind λx0=>
(dJ v2 x0).bind λx1=>
(dJ v2 x0).bind λx2=>
let x3:=(List.modify v2 x0 λe=>((-1),e.2));
let x4:=w64 (v1+1);
some (.inl (v0,x4,x3,())))else
some (.inr (v0,v1,false,v2,()))
def oM:Option (LDLn×Unit):=
bif(pR 4 4 3)then let x0:LDLn:=(List.replicate 4 (0,(false,[])));
let x1:=dO x0.length;
(dY wm NN (x1,0,x0,())).bind λ(x2,x3,x4,x5,_)=>
some (x5,())else none
def BL:X.Cfg:=⟨E0,[],[(3,P7)],[(lx 4 0 [Zaa 1 5,Uaa 5,Uaa 6] [(5,uL [lQ])] 7)]⟩
def uf:Ctr:=⟨136,36,[],[],[⟨uL [lQ],[.one],[]⟩],λh=>oM⟩
theorem A8:Lk 1 uf:=ls BL aN
def p8:T2j->Option (T2j⊕(Int×LLI×Int×Int×LI×T27)):=λ(v0,v1,v2,v3,v4,v5,v6,v7,v8,v9,v10,v11,v12,v13,v14,v15,_)=>
bif(decide (v6<v5))then((eq v6).bind λx0=>
(dJ v4 x0).bind λx1=>
(eq v0).bind λx2=>
(dJ v10 x2).bind λx3=>
let x4:=w64 (x3+v6);
(eq x4).bind λx5=>
(dJ v14 x5).bind λx6=>
(dJ v14 x5).bind λx7=>
let x8:=List.modify v14 x5 λe=>(e.1,x1);
let x9:=w64 (v6+1);
some (.inl (v0,v1,v2,v3,v4,v5,x9,v7,v8,v9,v10,v11,v12,v13,x8,v15,())))else
some (.inr (v0,v1,v2,v3,v4,v5,v6,false,v7,v8,v9,v10,v11,v12,v13,v14,v15,()))
def mL:T2d->Option (T2d⊕((Int×T0a)⊕(LLI×T27))):=λ(v0,v1,v2,v3,v4,v5)=>
bif(decide (v2<v1))then((eq v2).bind λx0=>
(dJ v0 x0).bind λx1=>
let x2:=dO x1.length;
(eq v2).bind λx3=>
(dJ v4 x3).bind λx4=>
bif(decide (x2>x4))then(some (.inr (.inl (1,(),(),()))))else
let x5:=dO x1.length;
(dY p8 NN (v2,v0,v1,v2,x1,x5,0,v3,v4,v5)).bind λ(x6,x7,x8,x9,ac,ae,af,ag,ah)=>
let ax:=w64 (x9+1);
some (.inl (x7,x8,ax,ah)))else
some (.inr (.inr (v0,v1,v2,false,v3,v4,v5)))
def nw(a0:LDIn)(a1:List (Int))(a2:List LI)(a3:List (Int))(a4:Int):Option (LDCe×LDLn×Int×Unit):=
(iS a3 a4 a1).bind λ(x0,_)=>
bif(!x0)then(some ([],[],1,()))else
let x1:=dO a2.length;
let x2:=dO a1.length;
bif(x1 != x2)then(some ([],[],1,()))else
bif(pR 512 512 2)then let x3:LDCe:=(List.replicate 512 (0,0));
(oM).bind λ(x4,_)=>
let x5:=dO a2.length;
(match dY mL NN (a2,x5,0,a0,a1,a2,a3,a4,(),(),x3,x4,())with
|none=>none
|some (.inl (x6,x7,x8,_))=>
some ([],[],x6,())
|some (.inr (x6,x7,x8,x9,ac,ae,af,ag,ah,ai,aj,ak,am,_))=>
some (ak,am,0,()))else none
def DH:X.Cfg:=⟨E0,[mr,uf],[],[⟨16,0,qS [zaa 2,zaa 3,zaa 4,zaa 6,Uaa 7,sP 30 (yaa RW),Uaa 31,Uaa 32,sP 46 RW,Uaa 47,Uaa 48] [(6,zab),(8,Zab),(10,Xab),(14,Xae)],[(.exit 2,qS [zaa 2,zaa 3,zaa 4,zaa 6,Uaa 7,sP 30 (yaa RW),Uaa 31,Uaa 32,sP 46 RW,Uaa 47,Uaa 48,Xaa 49] [(6,zab),(8,Zab),(10,Xab),(14,Xae)])]⟩,⟨7,1,qS [zaa 2,zaa 3,zaa 4,zaa 6,sP 30 (yaa RW),Uaa 31,Uaa 32] [(6,zab),(8,Zab),(10,Xab),(14,Xae)],[(.ret,qS [zaa 4,Uaa 5] [(10,Xab)]),(.exit 0,qS [zaa 2,zaa 3,zaa 4,zaa 6,sP 30 (yaa RW),Uaa 31,Uaa 32,Xaa 33] [(6,zab),(8,Zab),(10,Xab),(14,Xae)])]⟩]⟩
def vZ:Ctr:=⟨111,37,[.agg zab,.agg Zab],[],[⟨uL [(uaa KCe),lQ,I64],[.agg 2,.one],[]⟩],ap5 nw⟩
theorem C8:Lk 3 vZ:=ls DH (aC oY (aC A8 aN))
def pF:T20->Option (T20⊕(Int×Bool×T1X)):=λ(v0,v1,v2,v3,v4,v5,v6,v7,v8,v9,v10,_)=>
bif(decide (v0<4))then(bif(pR 8 8 2)then let x0:LDCe:=(List.replicate 8 (0,0));
(bif(v0==0)then(some (v0,v1,v2,v3,v4,v5,v6,v7,v8,v9,v10,1,x0,0,0,(-1),(-1),0,0,()))else
some (v0,v1,v2,v3,v4,v5,v6,v7,v8,v9,v10,0,x0,0,0,(-1),(-1),0,0,()):Option (Int×Unit×Int×Unit×Unit×Unit×T2f)).bind λ(x1,x2,x3,x4,x5,x6,x7,x8,x9,ac,ae,af,ag,ah,ai,aj,ak,am,an,_)=>
let ap:LDTh:=[(af,(ag,(ah,(ai,(aj,(ak,(am,an)))))))];
bif(dW 80 ae.length ap.length)then let aq:LDTh:=(List.append ae ap);
let av:=w64 (x1+1);
some (.inl (av,x2,x3,x4,x5,x6,x7,x8,x9,ac,aq,()))else none else none)else
some (.inr (v0,false,v1,v2,v3,v4,v5,v6,v7,v8,v9,v10,()))
def mb(a0:LDIn)(a1:List (Int))(a2:List LI)(a3:List (Int))(a4:Int):Option (LI×Int×LDCe×LDLn×LDTh×Int×Unit):=
(j0 a0 a1 a2).bind λ(x0,_)=>
bif(x0 != 0)then(some ([],0,[],[],[],x0,()))else
(iS a3 a4 a1).bind λ(x1,_)=>
bif(!x1)then(some ([],0,[],[],[],1,()))else
(nw a0 a1 a2 a3 a4).bind λ(x2,x3,x4,_)=>
bif(dW 8 0 a3.length)then let x5:List (Int):=(List.append [] a3);
(dY pF NN (0,(),0,(),(),(),x5,a4,x2,x3,[],())).bind λ(x6,x7,x8,x9,ac,ae,af,ag,ah,ai,aj,ak,_)=>
some (ag,ah,ai,aj,ak,0,())else none
def BF:X.Cfg:=⟨E0,[pe,mr,vZ],[(49,PV),(50,PV)],[⟨18,0,qE,[(.normal,qS [zaa 4,zaa 9,zaa 11,Uaa 38] [(10,uae),(20,Zai),(24,yah)])]⟩,(lx 12 1 [zaa 4,zaa 9,Uaa 38] [(10,uae),(20,Zai)] 39)]⟩
def uc:Ctr:=⟨85,38,[.agg zab,.agg Zab],[],[⟨uL [RI,CW,gp,is,sI,I64],[.agg 5,.one],[]⟩],ap5 mb⟩
theorem A5:Lk 4 uc:=ls BF (aC tD (aC oY (aC C8 aN)))
def fT(a0:List (Int))(a1:Int)(a2:Int):Option (Bool×Unit):=
bif(decide (a1>=0))then(let x0:Int:=(dO a0.length);
bif(decide (a1<x0))then(bif(decide (a2>=0))then((eq a1).bind λx1=>
(dJ a0 x1).bind λx2=>
some ((decide (a2<x2)),()))else
some (false,()))else
some (false,()))else
some (false,())
def zo:X.Cfg:=⟨E0,[],[],[]⟩
def jb:Ctr:=⟨137,39,[shU RI,.agg zad],[],[⟨uab,[.one],[]⟩],ap3 fT⟩
theorem lf:Lk 1 jb:=ls zo aN
def hJ(a0:List (Int))(a1:Int)(a2:Int)(a3:Int)(a4:Int):Option (Bool×Unit):=
bif(a1==0)then(bif(a3==0)then(some ((a4==0),()))else
some (false,()))else
bif(a1==2)then(bif(a3==0)then(some ((a4==0),()))else
some (false,()))else
bif(a1==1)then(bif(a2==0)then((fT a0 a3 a4).bind λ(x0,_)=>
some (x0,()))else
some (false,()))else
some (false,())
def zn:X.Cfg:=⟨E0,[jb],[],[]⟩
def lh:Ctr:=⟨114,40,[shU RI,.agg Zaf],[],[⟨uab,[.one],[]⟩],ap5 hJ⟩
theorem nQ:Lk 2 lh:=ls zn (aC lf aN)
def iP:T1K->Option (T1K⊕((Bool×Unit)⊕(LI×LLCn×Int×Int×LDCn×T0K))):=λ(v0,v1,v2,v3,v4,v5,v6,v7)=>
bif(decide (v6<v5))then((eq v6).bind λx0=>
(dJ v4 x0).bind λx1=>
(hJ v0 x1.1 x1.2.1 x1.2.2.1 x1.2.2.2).bind λ(x2,_)=>
bif(!x2)then(some (.inr (.inl (false,()))))else
let x3:=w64 (v6+1);
some (.inl (v0,v1,v2,v3,v4,v5,x3,v7)))else
some (.inr (.inr (v0,v1,v2,v3,v4,v5,v6,false,v7)))
def iO:LI×T0Q->Option ((LI×T0Q)⊕((Bool×Unit)⊕(LI×LLCn×T0K))):=λ(v0,v1,v2,v3,v4)=>
bif(decide (v3<v2))then((eq v3).bind λx0=>
(dJ v1 x0).bind λx1=>
let x2:=dO x1.length;
(match dY iP NN (v0,v1,v2,v3,x1,x2,0,v4)with
|none=>none
|some (.inl (x3,_))=>
some (.inr (.inl (x3,())))
|some (.inr (x3,x4,x5,x6,x7,x8,x9,ac,ae))=>
let ag:=w64 (x6+1);
some (.inl (x3,x4,x5,ag,ae))))else
some (.inr (.inr (v0,v1,v2,v3,false,v4)))
def kU(a0:List (Int))(a1:List LDCn)(a2:LDOp):Option (Bool×Unit):=
let x0:=dO a1.length;
(match dY iO NN (a0,a1,x0,0,a1,a2,())with
|none=>none
|some (.inl (x1,_))=>
some (x1,())
|some (.inr (x1,_))=>
some (true,()))
def zg:X.Cfg:=⟨E0,[lh],[],[⟨9,0,qS [sP 0 RI,sP 10 (yaa ej),Uaa 11,Uaa 12,sP 16 ej,Uaa 17,Uaa 18] [(8,Zac)],[(.ret,qS [Xaa 4] []),(.exit 2,qS [sP 0 RI,sP 10 (yaa ej),Uaa 11,Uaa 12,sP 16 ej,Uaa 17,Uaa 18,Xaa 19] [(8,Zac)])]⟩,⟨3,1,qS [sP 0 RI,sP 10 (yaa ej),Uaa 11,Uaa 12] [(8,Zac)],[(.ret,qS [Xaa 4] []),(.exit 0,qS [sP 0 RI,sP 10 (yaa ej),Uaa 11,Uaa 12,Xaa 13] [(8,Zac)])]⟩]⟩
def rX:Ctr:=⟨87,41,[shU RI,.agg Zac],[],[⟨uab,[.one],[]⟩],ap3 kU⟩
theorem yU:Lk 3 rX:=ls zg (aC nQ aN)
def iy:T1L->Option (T1L⊕(LLCn×T1z)):=λ(v0,v1,v2,v3,v4,v5,v6,v7,v8,_)=>
bif(decide (v2<v1))then((eq v2).bind λx0=>
(dJ v0 x0).bind λx1=>
bif(dW 24 0 x1.length)then let x2:LDCn:=(List.append [] x1);
bif(dW 24 v7.length (List.length [x2]))then let x3:List LDCn:=(List.append v7 [x2]);
let x4:=w64 (v2+1);
some (.inl (v0,v1,x4,v3,v4,v5,v6,x3,v8,()))else none else none)else
some (.inr (v0,v1,v2,false,v3,v4,v5,v6,v7,v8,()))
def gf(a0:List LDCn)(a1:LDOp):Option (T09):=
bif(dW 24 0 a1.length)then let x0:LDOp:=(List.append [] a1);
let x1:=dO a0.length;
(dY iy NN (a0,x1,0,a0,a1,(),(),[],x0,())).bind λ(x2,x3,x4,x5,x6,x7,x8,x9,ac)=>
some (ac)else none
def Dq:X.Cfg:=⟨E0,[],[(21,(uaa KCn)),(22,(uaa KCn))],[(lx 4 0 [zaa 2,zaa 3,sP 11 (yaa ej),Uaa 12,Uaa 13] [(4,Zac),(6,Xab),(8,Zad)] 14)]⟩
def iK:Ctr:=⟨116,42,[.agg Zac],[],[⟨Zad,[.agg 2],[]⟩],ap2 gf⟩
theorem jD:Lk 1 iK:=ls Dq aN
def iv:T0z->Option (T0z⊕(LDOu×T0o)):=λ(v0,v1,v2,v3,_)=>
bif(decide (v2<v1))then((eq v2).bind λx0=>
(dJ v0 x0).bind λx1=>
bif(dW 24 0 x1.2.2.length)then let x2:LDCn:=(List.append [] x1.2.2);
let x3:LDOu:=[(x1.1,(x1.2.1,x2))];
bif(dW 40 v3.length x3.length)then let x4:LDOu:=(List.append v3 x3);
let x5:=w64 (v2+1);
some (.inl (v0,v1,x5,x4,()))else none else none)else
some (.inr (v0,v1,v2,false,v3,()))
def iw(a0:LDOu):Option (LDOu×Unit):=
let x0:=dO a0.length;
(dY iv NN (a0,x0,0,[],())).bind λ(x1,x2,x3,x4,x5,_)=>
some (x5,())
def Dl:X.Cfg:=⟨E0,[],[(18,vg),(19,vg)],[(lx 4 0 [Zaa 3 9,sP 6 iM,Uaa 7,Uaa 8] [(9,yaf)] 9)]⟩
def qI:Ctr:=⟨117,43,uL [iM],[],[⟨yaf,[.one],[]⟩],ap1 iw⟩
theorem vq:Lk 1 qI:=ls Dl aN
def nc(a0:List (Int))(a1:List (Int))(a2:List LI)(a3:List LDCn)(a4:LDOp)(a5:LDOu):Option (T15):=
bif(dW 2 0 a0.length)then let x0:List (Int):=(List.append [] a0);
bif(dW 2 0 a1.length)then let x1:List (Int):=(List.append [] a1);
(fJ a2).bind λ(x2,_)=>
(gf a3 a4).bind λ(x3,x4,_)=>
(iw a5).bind λ(x5,_)=>
some (x0,x1,x2,x3,x4,x5,())else none else none
def Dh:X.Cfg:=⟨E0,[io,iK,qI],[],[]⟩
def qF:Ctr:=⟨88,44,[.agg uaf],[],[⟨yai,[.agg 6],[]⟩],ap6 nc⟩
theorem vp:Lk 2 qF:=ls Dh (aC ko (aC jD (aC vq aN)))
def yO:T0Y->Option (T0Y⊕T19):=λ(v0,v1,v2,v3,v4,v5,_)=>
bif(decide (v1<v0))then((eq v1).bind λx0=>
(dJ v4 x0).bind λx1=>
(dJ v4 x0).bind λx2=>
let x3:=List.modify v4 x0 λe=>(-1);
let x4:=w64 (v1+1);
some (.inl (v0,x4,v2,v3,x3,v5,())))else
some (.inr (v0,v1,false,v2,v3,v4,v5,()))
def si:Option (T08):=
bif(pR 4 4 1)then let x0:List (Int):=(List.replicate 4 0);
bif(pR 4 4 1)then let x1:List LI:=(List.replicate 4 []);
let x2:=dO x0.length;
(dY yO NN (x2,0,(),(),x0,x1,())).bind λ(x3,x4,x5,x6,x7,x8)=>
some (x8)else none else none
def E2:X.Cfg:=⟨E0,[],[(4,(uaa I64))],[(lx 4 0 [zaa 0,zaa 1,Uaa 8,Uaa 9] [(2,Xab),(4,Xad)] 10)]⟩
def yz:Ctr:=⟨89,45,[],[],[⟨Xad,[.agg 2],[]⟩],λh=>si⟩
theorem EQ:Lk 1 yz:=ls E2 aN
def pC:T2Q->Option (T2Q⊕(Int×Bool×T2O)):=λ(v0,v1,v2,v3,v4,v5,v6,v7,v8,v9,v10,v11,v12,v13,v14,v15,v16,v17,v18,v19,v20,v21,v22,v23,v24,v25,v26,v27,v28,v29,v30,v31,v32,v33,v34,v35,v36,_)=>
bif(decide (v0<4))then(bif(dW 8 v36.length (List.length [(-1)]))then let x0:List (Int):=(List.append v36 [(-1)]);
let x1:=w64 (v0+1);
some (.inl (x1,v1,v2,v3,v4,v5,v6,v7,v8,v9,v10,v11,v12,v13,v14,v15,v16,v17,v18,v19,v20,v21,v22,v23,v24,v25,v26,v27,v28,v29,v30,v31,v32,v33,v34,v35,x0,()))else none)else
some (.inr (v0,false,v1,v2,v3,v4,v5,v6,v7,v8,v9,v10,v11,v12,v13,v14,v15,v16,v17,v18,v19,v20,v21,v22,v23,v24,v25,v26,v27,v28,v29,v30,v31,v32,v33,v34,v35,v36,()))
def lW(a0:LDIn)(a1:List (Int))(a2:List LI)(a3:List (Int))(a4:Int)(a5:List (Int))(a6:List (Int))(a7:List LI)(a8:List LDCn)(a9:LDOp)(a10:LDOu):Option (LDIn×LI×LLI×LI×Int×LDCe×LDLn×LDTh×LI×LI×LLI×LLCn×LDOp×LDOu×LI×LLI×Unit×T07):=
(mb a0 a1 a2 a3 a4).bind λ(x0,x1,x2,x3,x4,x5,_)=>
bif(x5 != 0)then(some ([],[],[],[],0,[],[],[],[],[],[],[],[],[],[],[],(),[],x5,()))else
(iQ a5 a6 a7 a8 a9 a10).bind λ(x6,_)=>
bif(!x6)then(some ([],[],[],[],0,[],[],[],[],[],[],[],[],[],[],[],(),[],1,()))else
(kU a1 a8 a9).bind λ(x7,_)=>
bif(!x7)then(some ([],[],[],[],0,[],[],[],[],[],[],[],[],[],[],[],(),[],1,()))else
(nc a5 a6 a7 a8 a9 a10).bind λ(x8,x9,ac,ae,af,ag,_)=>
(si).bind λ(ah,ai,_)=>
(dY pC NN (0,(),(),(),(),0,(),(),(),(),(),(),(),(),(),(),(),(),(),a0,a1,a2,x0,x1,x2,x3,x4,x8,x9,ac,ae,af,ag,ah,ai,(),[],())).bind λ(aj,ak,am,an,ap,aq,av,ax,ay,az,aA,aB,aD,aE,aF,aG,aH,aI,aJ,aK,aL,aM,aO,aP,aQ,aR,aS,aT,aU,aV,aW,aY,aZ,ba,bc,bd,bf,bg,_)=>
some (aL,aM,aO,aP,aQ,aR,aS,aT,aU,aV,aW,aY,aZ,ba,bc,bd,bf,bg,0,())
def Bm:X.Cfg:=⟨E0,[uc,mo,rX,qF,yz],[],[(lx 11 0 [zaa 6,zaa 10,Uaa 39] [(14,uag),(22,uL [gk,RI,(yaa RW),RI,CW,gp,is,i4,RW,RW,(yaa RW),(yaa ej),ia,iM,RI,(yaa RI),N1,(uaa I64)])] 40)]⟩
def tU:Ctr:=⟨52,46,[.agg zab,.agg Zab,.agg uaf],[],[⟨uL [gk,RI,(yaa RW),RI,CW,gp,is,i4,RW,RW,(yaa RW),(yaa ej),ia,iM,RI,(yaa RI),N1,(uaa I64),I64],[.agg 18,.one],[]⟩],ap11 lW⟩
theorem AT:Lk 5 tU:=ls Bm (aC A5 (aC oU (aC yU (aC vp (aC EQ aN)))))
def mg(a0:List (Int))(a1:Int):Option (T0J):=
(dM 4 a0 a1).bind λ(x0,x1,x2,_)=>
let x3:List (Int):=[0,1,2,3,7,63];
(dM 6 x1 x2).bind λ(x4,x5,x6,_)=>
(eq x4).bind λx7=>
(dJ x3 x7).bind λx8=>
(dJ x3 x7).bind λx9=>
(dM 4 x5 x6).bind λ(ac,ae)=>
some (x0,x9,(ac==0),ae)
def BU:X.Cfg:=⟨E0,[gn],[],[]⟩
def uk:Ctr:=⟨56,47,[.ptr ⟨2,0,[]⟩ [0]],[(2,yab)],[⟨Xah,[.agg 3],[(2,yab)]⟩],ap2 mg⟩
theorem Bd:Lk 4 uk:=ls BU (aC gV aN)
def gX:T0A->Option (T0A⊕(LDTh×T0p)):=λ(v0,v1,v2,v3,_)=>
bif(decide (v2<v1))then(((eq v2).bind λx0=>
(dJ v0 x0).bind λx1=>
bif(x1.1==1)then(bif(dW 8 v3.length (List.length [v2]))then let x2:List (Int):=(List.append v3 [v2]);
some (v0,v1,v2,x2,())else none)else
some (v0,v1,v2,v3,()):Option (T0A)).bind λ(x0,x1,x2,x3,_)=>
let x4:=w64 (x2+1);
some (.inl (x0,x1,x4,x3,())))else
some (.inr (v0,v1,v2,false,v3,()))
def jX(a0:LDTh):Option (LI×Unit):=
let x0:=dO a0.length;
(dY gX NN (a0,x0,0,[],())).bind λ(x1,x2,x3,x4,x5,_)=>
some (x5,())
def BC:X.Cfg:=⟨E0,[],[],[⟨7,0,qE,[(.normal,qS [Zaa 3 9,sP 6 i4,Uaa 7,Uaa 8] [(9,uac)])]⟩,(lx 4 1 [Zaa 3 9,sP 6 i4,Uaa 7,Uaa 8] [(9,uac)] 9)]⟩
def pd:Ctr:=⟨26,48,uL [i4],[],[⟨uac,[.one],[]⟩],ap1 jX⟩
theorem tC:Lk 1 pd:=ls BC aN
def kV(a0:LDIn)(a1:List (Int))(a2:List LI)(a3:List (Int))(a4:Int)(a5:LDCe)(a6:LDLn)(a7:LDTh)(a8:List (Int))(a9:List (Int))(a10:List LI)(a11:List LDCn)(a12:LDOp)(a13:LDOu)(a14:List (Int))(a15:List LI)(a16:LDEn)(a17:List (Int)):Option (T2o):=
bif(dW 8 0 a17.length)then let x0:List (Int):=(List.append [] a17);
bif(dW 184 0 a16.length)then let x1:LDEn:=(List.append [] a16);
some (a0,a1,a2,a3,a4,a5,a6,a7,a8,a9,a10,a11,a12,a13,a14,a15,x1,x0,())else none else none
def zh:X.Cfg:=⟨E0,[],[(9,Im)],[]⟩
def rY:Ctr:=⟨92,49,[.agg uah],[],[⟨zac,[.agg 18],[]⟩],ap18 kV⟩
theorem yV:Lk 1 rY:=ls zh aN
def mH(a0:List (Int))(a1:Int)(a2:LDCe)(a3:LDLn)(a4:LDTh)(a5:Int):Option (Bool×Unit):=
bif(decide (a5<0))then(some (false,()))else
let x0:=dO a4.length;
bif(decide (a5>=x0))then(some (false,()))else
(eq a5).bind λx1=>
(dJ a4 x1).bind λx2=>
bif(x2.1==1)then(bif(x2.2.2.2.2.1 != (-1))then(some ((x2.2.2.2.2.2.1==(-1)),()))else
some (false,()))else
some (false,())
def E1:X.Cfg:=⟨E0,[],[],[]⟩
def sC:Ctr:=⟨93,50,[.agg yad,shU I64],[],[⟨uab,[.one],[]⟩],ap6 mH⟩
theorem xH:Lk 1 sC:=ls E1 aN
def iE:T1G->Option (T1G⊕(LDLn×Int×Int×Bool×T11)):=λ(v0,v1,v2,v3,v4,v5,v6,v7,v8,_)=>
bif(decide (v2<v1))then((eq v2).bind λx0=>
(dJ v0 x0).bind λx1=>
bif(dW 4 0 x1.2.2.length)then let x2:LDCe:=(List.append [] x1.2.2);
let x3:LDLn:=[(x1.1,(x1.2.1,x2))];
bif(dW 40 v8.length x3.length)then let x4:LDLn:=(List.append v8 x3);
let x5:=w64 (v2+1);
some (.inl (v0,v1,x5,v3,v4,v5,v6,v7,x4,()))else none else none)else
some (.inr (v0,v1,v2,false,v3,v4,v5,v6,v7,v8,()))
def ny(a0:LDCe)(a1:LDLn):Option (T05):=
bif(dW 4 0 a0.length)then let x0:LDCe:=(List.append [] a0);
let x1:=dO a1.length;
(dY iE NN (a1,x1,0,a0,a1,(),(),x0,[],())).bind λ(x2,x3,x4,x5,x6,x7,x8,x9,ac)=>
some (ac)else none
def DI:X.Cfg:=⟨E0,[],[(24,P7),(25,P7)],[(lx 4 0 [zaa 2,zaa 3,sP 11 is,Uaa 12,Uaa 13] [(4,yag),(6,Xab),(8,Xae)] 14)]⟩
def wd:Ctr:=⟨138,51,[.agg yag],[],[⟨Xae,[.agg 2],[]⟩],ap2 ny⟩
theorem C9:Lk 1 wd:=ls DI aN
def iC:T2p->Option (T2p⊕(LDTh×Int×Int×Bool×T2i)):=λ(v0,v1,v2,v3,v4,v5,v6,v7,v8,v9,v10,v11,v12,v13,v14,v15,v16,v17,_)=>
bif(decide (v2<v1))then((eq v2).bind λx0=>
(dJ v0 x0).bind λx1=>
bif(dW 4 0 x1.2.1.length)then let x2:LDCe:=(List.append [] x1.2.1);
let x3:LDTh:=[(x1.1,(x2,(x1.2.2.1,(x1.2.2.2.1,(x1.2.2.2.2.1,(x1.2.2.2.2.2.1,(x1.2.2.2.2.2.2.1,x1.2.2.2.2.2.2.2)))))))];
bif(dW 80 v17.length x3.length)then let x4:LDTh:=(List.append v17 x3);
let x5:=w64 (v2+1);
some (.inl (v0,v1,x5,v3,v4,v5,v6,v7,v8,v9,v10,v11,v12,v13,v14,v15,v16,x4,()))else none else none)else
some (.inr (v0,v1,v2,false,v3,v4,v5,v6,v7,v8,v9,v10,v11,v12,v13,v14,v15,v16,v17,()))
def iD(a0:List (Int))(a1:Int)(a2:LDCe)(a3:LDLn)(a4:LDTh):Option (T0P):=
bif(dW 8 0 a0.length)then let x0:List (Int):=(List.append [] a0);
(ny a2 a3).bind λ(x1,x2,_)=>
let x3:=dO a4.length;
(dY iC NN (a4,x3,0,a0,a1,a2,a3,a4,(),0,(),(),(),x0,a1,x1,x2,[],())).bind λ(x4,x5,x6,x7,x8,x9,ac,ae,af,ag,ah,ai,aj,ak,am)=>
some (am)else none
def DC:X.Cfg:=⟨E0,[wd],[(32,PV),(33,PV)],[(lx 4 0 [zaa 2,zaa 3,sP 19 i4,Uaa 20,Uaa 21] [(4,yad),(6,uae),(8,Uac)] 22)]⟩
def lC:Ctr:=⟨120,52,[.agg yad],[],[⟨Uac,[.agg 5],[]⟩],ap5 iD⟩
theorem nI:Lk 2 lC:=ls DC (aC C9 aN)
def jT(a0:List (Int))(a1:Int)(a2:LDCe)(a3:LDLn)(a4:LDTh)(a5:Int):Option (T14):=
(iD a0 a1 a2 a3 a4).bind λ(x0,x1,x2,x3,x4,_)=>
(mH a0 a1 a2 a3 a4 a5).bind λ(x5,_)=>
bif(!x5)then(some (x0,x1,x2,x3,x4,false,()))else
(eq a5).bind λx6=>
(dJ x4 x6).bind λx7=>
(dJ x4 x6).bind λx8=>
(dJ x4 x6).bind λx9=>
(dJ x4 x6).bind λac=>
let ae:=(List.modify x4 x6 λe=>(e.1,(e.2.1,(e.2.2.1,(e.2.2.2.1,(e.2.2.2.2.1,(x8.2.2.1,e.2.2.2.2.2.2)))))));
(dJ ae x6).bind λaf=>
let ag:=(List.modify ae x6 λe=>(e.1,(e.2.1,(x9.2.2.2.2.1,e.2.2.2))));
some (x0,x1,x2,x3,ag,true,())
def xW:X.Cfg:=⟨E0,[lC,sC],[],[]⟩
def qJ:Ctr:=⟨94,53,[.agg yad,shU I64],[],[⟨uL [RI,CW,(uaa KCe),lQ,sI,.bool],[.agg 5,.one],[]⟩],ap6 jT⟩
theorem xG:Lk 3 qJ:=ls xW (aC nI (aC xH aN))
def j7(a0:Int)(a1:Int):Option (Bool×Unit):=
some ((decide (a0<=2)),())
def BQ:X.Cfg:=⟨E0,[],[],[]⟩
def pj:Ctr:=⟨173,54,[.agg Uab],[],[⟨uab,[.one],[]⟩],ap2 j7⟩
theorem tG:Lk 1 pj:=ls BQ aN
def kY:LDCe×T03->Option ((LDCe×T03)⊕((Bool×Unit)⊕(LDCe×T0c))):=λ(v0,v1,v2,_)=>
bif(decide (v2<v1))then((eq v2).bind λx0=>
(dJ v0 x0).bind λx1=>
(j7 x1.1 x1.2).bind λ(x2,_)=>
bif(!x2)then(some (.inr (.inl (false,()))))else
let x3:=w64 (v2+1);
some (.inl (v0,v1,x3,())))else
some (.inr (.inr (v0,v1,v2,false,())))
def mK(a0:LDCe):Option (Bool×Unit):=
let x0:=dO a0.length;
(match dY kY NN (a0,x0,0,())with
|none=>none
|some (.inl (x1,_))=>
some (x1,())
|some (.inr (x1,_))=>
some (true,()))
def E8:X.Cfg:=⟨E0,[pj],[],[⟨3,0,qS [sP 5 gp,Uaa 6,Uaa 7] [],[(.ret,qS [Xaa 2] []),(.exit 0,qS [sP 5 gp,Uaa 6,Uaa 7,Xaa 8] [])]⟩]⟩
def yE:Ctr:=⟨172,55,uL [gp],[],[⟨uab,[.one],[]⟩],ap1 mK⟩
theorem EV:Lk 2 yE:=ls E8 (aC tG aN)
def jk:LDLn×T0r->Option ((LDLn×T0r)⊕((Bool×Unit)⊕(LDLn×Int×Int×Bool×T05))):=λ(v0,v1,v2,v3)=>
bif(decide (v2<v1))then((eq v2).bind λx0=>
(dJ v0 x0).bind λx1=>
bif(x1.1==(-1))then(bif x1.2.1 then(some (.inr (.inl (false,()))))else
let x2:=dO x1.2.2.length;
bif(decide (x2>0))then(some (.inr (.inl (false,()))))else
let x3:=w64 (v2+1);
some (.inl (v0,v1,x3,v3)))else
(bif(decide (x1.1<0))then(some (v0,v1,v2,true,v3))else
bif(decide (x1.1>=128))then(some (v0,v1,v2,true,v3))else
let x2:=Int.tmod x1.1 4;
bif(x2 != v2)then(some (v0,v1,v2,true,v3))else
let x3:=dO x1.2.2.length;
bif(x3 != 4)then(some (v0,v1,v2,true,v3))else
(mK x1.2.2).bind λ(x4,_)=>
some (v0,v1,v2,(!x4),v3):Option (LDLn×Int×Int×Bool×T05)).bind λ(x2,x3,x4,x5,x6)=>
bif x5 then(some (.inr (.inl (false,()))))else
let x8:=w64 (x4+1);
some (.inl (x2,x3,x8,x6)))else
some (.inr (.inr (v0,v1,v2,false,v3)))
def md(a0:LDCe)(a1:LDLn):Option (Bool×Unit):=
(let x0:=dO a0.length;
bif(x0 != 512)then(some (true,a0,a1,()))else
let x1:=dO a1.length;
bif(x1 != 4)then(some (true,a0,a1,()))else
(mK a0).bind λ(x2,_)=>
some ((!x2),a0,a1,()):Option (Bool×T05)).bind λ(x0,x1,x2,_)=>
bif x0 then(some (false,()))else
let x3:=dO x2.length;
(match dY jk NN (x2,x3,0,x1,x2,())with
|none=>none
|some (.inl (x4,_))=>
some (x4,())
|some (.inr (x4,_))=>
some (true,()))
def BK:X.Cfg:=⟨E0,[yE],[],[⟨2,0,qE,[(.normal,qS [zaa 1,Xaa 20] [(4,yag)])]⟩,⟨16,1,qE,[(.normal,qS [sP 22 is,Uaa 23,Uaa 24,Xaa 66] [(4,yag)])]⟩,⟨6,2,qS [sP 22 is,Uaa 23,Uaa 24] [(4,yag)],[(.ret,qS [Xaa 2] []),(.exit 0,qS [sP 22 is,Uaa 23,Uaa 24,Xaa 25] [(4,yag)])]⟩]⟩
def ue:Ctr:=⟨152,56,[.agg yag],[],[⟨uab,[.one],[]⟩],ap2 md⟩
theorem A7:Lk 3 ue:=ls BK (aC EV aN)
def jf:T21->Option (T21⊕((Bool×Unit)⊕(LDCe×Int×Int×Bool×T1t))):=λ(v0,v1,v2,v3)=>
bif(decide (v2<v1))then((eq v2).bind λx0=>
(dJ v0 x0).bind λx1=>
(j7 x1.1 x1.2).bind λ(x2,_)=>
bif(!x2)then(some (.inr (.inl (false,()))))else
let x3:=w64 (v2+1);
some (.inl (v0,v1,x3,v3)))else
some (.inr (.inr (v0,v1,v2,false,v3)))
def ma(a0:Int)(a1:LDCe)(a2:Int)(a3:Int)(a4:Int)(a5:Int)(a6:Int)(a7:Int):Option (Bool×Unit):=
let x0:=dO a1.length;
(match dY jf NN (a1,x0,0,a0,a1,a2,a3,a4,a5,a6,a7,())with
|none=>none
|some (.inl (x1,_))=>
some (x1,())
|some (.inr (x1,x2,x3,x4,x5,x6,x7,x8,x9,ac,ae,af,_))=>
bif(decide (x5>=0))then(bif(decide (x5<=4))then(let ag:Int:=(dO x6.length);
bif(ag==8)then(bif(decide (x7>=0))then(bif(decide (x7<=255))then(bif(decide (x8>=0))then(bif(decide (x8<=1099511627776))then(bif(decide (x9>=(-1)))then(bif(decide (x9<=255))then(bif(decide (ac>=(-1)))then(bif(decide (ac<=255))then(bif(decide (ae>=0))then(some ((decide (ae<=6)),()))else
some (false,()))else
some (false,()))else
some (false,()))else
some (false,()))else
some (false,()))else
some (false,()))else
some (false,()))else
some (false,()))else
some (false,()))else
some (false,()))else
some (false,()))else
some (false,()))
def BB:X.Cfg:=⟨E0,[pj],[],[⟨3,0,qS [zaa 1,sP 6 gp,Uaa 7,Uaa 8] [(4,zae)],[(.ret,qS [Xaa 2] []),(.exit 0,qS [zaa 1,sP 6 gp,Uaa 7,Uaa 8,Xaa 9] [(4,zae)])]⟩]⟩
def t9:Ctr:=⟨153,57,[.agg zae],[],[⟨uab,[.one],[]⟩],ap8 ma⟩
theorem A2:Lk 2 t9:=ls BB (aC tG aN)
def lI:T1u->Option (T1u⊕((Bool×Unit)⊕(LDTh×Int×Int×T0U))):=λ(v0,v1,v2,v3)=>
bif(decide (v2<v1))then((eq v2).bind λx0=>
(dJ v0 x0).bind λx1=>
(ma x1.1 x1.2.1 x1.2.2.1 x1.2.2.2.1 x1.2.2.2.2.1 x1.2.2.2.2.2.1 x1.2.2.2.2.2.2.1 x1.2.2.2.2.2.2.2).bind λ(x2,_)=>
bif(!x2)then(some (.inr (.inl (false,()))))else
let x3:=w64 (v2+1);
some (.inl (v0,v1,x3,v3)))else
some (.inr (.inr (v0,v1,v2,false,v3)))
def iR(a0:LDIn)(a1:List (Int))(a2:List LI)(a3:List (Int))(a4:Int)(a5:LDCe)(a6:LDLn)(a7:LDTh):Option (Bool×Unit):=
((j0 a0 a1 a2).bind λ(x0,_)=>
bif(x0 != 0)then(some (true,a3,a4,a5,a6,a7,()))else
(iS a3 a4 a1).bind λ(x1,_)=>
bif(!x1)then(some (true,a3,a4,a5,a6,a7,()))else
(md a5 a6).bind λ(x2,_)=>
bif(!x2)then(some (true,a3,a4,a5,a6,a7,()))else
let x3:=dO a7.length;
some ((x3 != 4),a3,a4,a5,a6,a7,()):Option (T0U)).bind λ(x0,x1,x2,x3,x4,x5,_)=>
bif x0 then(some (false,()))else
let x6:=dO x5.length;
(match dY lI NN (x5,x6,0,x1,x2,x3,x4,x5,())with
|none=>none
|some (.inl (x7,_))=>
some (x7,())
|some (.inr (x7,_))=>
some (true,()))
def Bz:X.Cfg:=⟨E0,[pe,mr,ue,t9],[],[⟨2,0,qE,[(.normal,qS [zaa 3,Xaa 29] [(8,yad)])]⟩,⟨6,1,qS [sP 31 i4,Uaa 32,Uaa 33] [(8,yad)],[(.ret,qS [Xaa 4] []),(.exit 0,qS [sP 31 i4,Uaa 32,Uaa 33,Xaa 34] [(8,yad)])]⟩]⟩
def mq:Ctr:=⟨139,58,[.agg zab,.agg yad],[],[⟨uab,[.one],[]⟩],ap8 iR⟩
theorem oW:Lk 4 mq:=ls Bz (aC tD (aC oY (aC A7 (aC A2 aN))))
def fA(a0:Nat)(a1:Int)(a2:LDTh):Option (Int×LDTh×Unit):=
(dJ a2 a0).bind λx0=>
let x1:=List.modify a2 a0 λe=>(4,e.2);
(dJ x1 a0).bind λx2=>
let x3:=(List.modify x1 a0 λe=>(e.1,(e.2.1,(e.2.2.1,(e.2.2.2.1,(e.2.2.2.2.1,(e.2.2.2.2.2.1,(a1,e.2.2.2.2.2.2.2))))))));
(dJ x3 a0).bind λx4=>
let x5:=(List.modify x3 a0 λe=>(e.1,(e.2.1,(e.2.2.1,(e.2.2.2.1,(e.2.2.2.2.1,(e.2.2.2.2.2.1,(e.2.2.2.2.2.2.1,0))))))));
some (2,x5,())
def Dz:X.Cfg:=⟨E0,[],[],[]⟩
def vV:Ctr:=⟨154,59,[.ptr ⟨2,0,[((),(8,0))]⟩ [0,0],shU I64],[(2,uL [sI])],[⟨Xac,[.one],[(2,uL [sI])]⟩],ap3 fA⟩
theorem C5:Lk 1 vV:=ls Dz aN
def eM:T1J->Option (T1J⊕(T0b⊕(LI×T1D))):=λ(v0,v1,v2,v3,v4,v5)=>
bif(decide (v4<v3))then((match((eq v4).bind λx0=>
(dJ v2 x0).bind λx1=>
bif(decide (v1>=x1))then((eq v4).bind λx2=>
(dJ v0 x2).bind λx3=>
let x4:=w64 (x1+x3);
bif(decide (v1<x4))then(let x5:Int:=(w64 (v1-x1));
some (.inl (true,v4,x5,())))else
some (.inr (v0,v1,v4,x1,v2,v3,v4,false,v5)))else
some (.inr (v0,v1,v4,x1,v2,v3,v4,false,v5)):Option (T0b⊕(LI×Int×Int×T1D)))with
|none=>none
|some (.inl (x0,x1,x2,_))=>
some (.inr (.inl (x0,x1,x2,())))
|some (.inr (x0,x1,x2,x3,x4,x5,x6,x7,x8))=>
let af:=w64 (x6+1);
some (.inl (x0,x1,x4,x5,af,x8))))else
some (.inr (.inr (v0,v1,v2,v3,v4,false,v5)))
def fj(a0:List (Int))(a1:Int)(a2:List (Int))(a3:Int):Option (T0c):=
let x0:=dO a0.length;
(match dY eM NN (a2,a3,a0,x0,0,a0,a1,0,0,())with
|none=>none
|some (.inl (x1,x2,x3,_))=>
some (x2,x3,x1,())
|some (.inr (x1,x2,x3,_))=>
some (0,0,false,()))
def xY:X.Cfg:=⟨E0,[],[],[⟨6,0,qE,[(.ret,qS [zaa 6,Xaa 7] [(14,zad)]),(.normal,qS [sP 1 RI,Uaa 2,zaa 6,Uaa 8,Uaa 9,sP 11 RI,Uaa 12,Uaa 13,Xaa 30] [(8,Zab),(14,zad)])]⟩,⟨3,1,qS [sP 1 RI,Uaa 2,zaa 6,sP 11 RI,Uaa 12,Uaa 13] [(8,Zab),(14,zad)],[(.ret,qS [zaa 6,Xaa 7] [(14,zad)]),(.exit 0,qS [sP 1 RI,Uaa 2,zaa 6,sP 11 RI,Uaa 12,Uaa 13,Xaa 14] [(8,Zab),(14,zad)])]⟩]⟩
def iL:Ctr:=⟨145,60,[.agg Zab,shU RI,shU I64],[],[⟨Xah,[.agg 2,.one],[]⟩],ap4 fj⟩
theorem kv:Lk 1 iL:=ls xY aN
def fE(a0:List (Int))(a1:Int)(a2:List (Int))(a3:Int)(a4:Int)(a5:Int)(a6:Bool):Option (T0d):=
bif(a3 != 1)then(some (0,0,3,()))else
let x0:=wk .i64 a4;
(fj a0 a1 a2 x0).bind λ(x1,x2,x3,_)=>
bif(!x3)then(some (0,0,4,()))else
(bif a6 then(let x4:Int:=(wk .i64 a5);
let x5:=w64 (x2-x4);
some (a2,a0,a1,0,0,x1,x5,()))else
let x4:=wk .i64 a5;
let x5:=w64 (x2+x4);
some (a2,a0,a1,0,0,x1,x5,()):Option (LI×LI×T0L)).bind λ(x4,x5,x6,x7,x8,x9,ac,_)=>
(fT x4 x9 ac).bind λ(ae,_)=>
bif(!ae)then(some (0,0,4,()))else
(eq x9).bind λaf=>
(dJ x5 af).bind λag=>
let ah:=w64 (ag+ac);
let ai:=wk .u16 ah;
some (1,ai,0,())
def DB:X.Cfg:=⟨E0,[iL,jb],[],[⟨8,0,qE,[(.normal,qS [sP 1 RI,zaa 5,zaa 10,zaa 12] [(12,Zab),(22,Uab),(26,zad)])]⟩]⟩
def qQ:Ctr:=⟨155,61,[.agg Zab,shU RI,.agg Uab,shU CW,shU .bool],[],[⟨uai,[.agg 2,.one],[]⟩],ap7 fE⟩
theorem vz:Lk 2 qQ:=ls DB (aC kv (aC lf aN))
def j4(a0:Int)(a1:LDCe)(a2:LDLn):Option (Nat×T05):=
let x0:=w64 (Int.tdiv a0 4);
let x1:=Int.tmod x0 4;
(eq x1).bind λx2=>
(dJ a2 x2).bind λx3=>
(dJ a2 x2).bind λx4=>
bif(x4.1==x0)then(some (x2,a1,a2,()))else
((dJ a2 x2).bind λx5=>
bif x5.2.1 then((dJ a2 x2).bind λx6=>
let x7:=w64 (x6.1*4);
(eq x7).bind λx8=>
bif(gY x8 a1.length a1.length)then(dJ a2 x2).bind λx9=>
(dJ a2 x2).bind λac=>
bif(gY x8 (Nat.add x8 (Nat.min ac.2.2.length (Nat.sub a1.length x8))) a1.length)then bif(Nat.blt 0 (Nat.min ac.2.2.length (Nat.sub a1.length x8)))then(let ae:LDCe:=(qd a1 x8 (Nat.min ac.2.2.length (Nat.sub a1.length x8)) ac.2.2);
let af:=(dO (Nat.min ac.2.2.length (Nat.sub a1.length x8)));
some (x0,x2,ae,a2,()))else
let ae:=(dO (Nat.min ac.2.2.length (Nat.sub a1.length x8)));
some (x0,x2,a1,a2,())else none else none)else
some (x0,x2,a1,a2,()):Option (Int×Nat×T05)).bind λ(x5,x6,x7,x8,_)=>
(dJ x8 x6).bind λx9=>
let ac:=List.modify x8 x6 λe=>(x5,e.2);
(dJ ac x6).bind λae=>
let af:=(List.modify ac x6 λe=>(e.1,(false,e.2.2)));
let ag:=w64 (x5*4);
let ah:=w64 (x5+1);
let ai:=w64 (ah*4);
(eq ag).bind λaj=>
(eq ai).bind λak=>
bif(gY aj ak x7.length)then bif(dW 4 0 (List.length (lT x7 aj (Nat.sub ak aj))))then let am:LDCe:=(List.append [] (lT x7 aj (Nat.sub ak aj)));
(dJ af x6).bind λan=>
let ap:=(List.modify af x6 λe=>(e.1,(e.2.1,am)));
some (x6,x7,ap,())else none else none
def BJ:X.Cfg:=⟨E0,[],[],[⟨6,0,qE,[(.normal,(qS [zaa 0,Uaa 5,(6,.ptr ⟨2,1,[((),(3,0))]⟩ [0,0])] [(2,Xae)]))]⟩]⟩
def pi:Ctr:=⟨174,62,[.ptr ⟨2,0,[]⟩ [0],shU I64],[(2,Xae)],[⟨[.ptr ⟨2,1,[((),(3,0))]⟩ [0,0]],[.ptr],[(2,Xae)]⟩],ap3 j4⟩
theorem tF:Lk 1 pi:=ls BJ aN
def nv(a0:Int)(a1:LDCe)(a2:LDLn):Option (T0r):=
(j4 a0 a1 a2).bind λ(x0,x1,x2,_)=>
(dJ x2 x0).bind λx3=>
let x4:=Int.tmod a0 4;
(eq x4).bind λx5=>
(dJ x2 x0).bind λx6=>
(dJ x6.2.2 x5).bind λx7=>
(dJ x2 x0).bind λx8=>
(dJ x8.2.2 x5).bind λx9=>
some (x9.1,x9.2,x1,x2,())
def DG:X.Cfg:=⟨E0,[pi],[],[]⟩
def vY:Ctr:=⟨156,63,[.ptr ⟨2,0,[]⟩ [0],shU I64],[(2,Xae)],[⟨Uab,[.agg 2],[(2,Xae)]⟩],ap3 nv⟩
theorem C7:Lk 2 vY:=ls DG (aC tF aN)
def j3(a0:Int)(a1:Int)(a2:Int)(a3:LDCe)(a4:LDLn):Option (T05):=
(j4 a0 a3 a4).bind λ(x0,x1,x2,_)=>
(dJ x2 x0).bind λx3=>
let x4:=Int.tmod a0 4;
(eq x4).bind λx5=>
(dJ x2 x0).bind λx6=>
(dJ x6.2.2 x5).bind λx7=>
(dJ x2 x0).bind λx8=>
(dJ x8.2.2 x5).bind λx9=>
let ac:=(List.modify x2 x0 λe=>(e.1,(e.2.1,(List.modify e.2.2 x5 λe=>(a1,a2)))));
(dJ ac x0).bind λae=>
let af:=(List.modify ac x0 λe=>(e.1,(true,e.2.2)));
some (x1,af,())
def BI:X.Cfg:=⟨E0,[pi],[],[]⟩
def pf:Ctr:=⟨157,64,[.ptr ⟨2,0,[]⟩ [0],shU I64,.agg Uab],[(2,Xae)],[⟨[],[],[(2,Xae)]⟩],ap5 j3⟩
theorem tE:Lk 2 pf:=ls BI (aC tF aN)
def jy(a0:Bool):Option (T03):=
bif a0 then(some (0,1,()))else
some (0,0,())
def DA:X.Cfg:=⟨E0,[],[],[]⟩
def qP:Ctr:=⟨175,65,uab,[],[⟨Uab,[.agg 2],[]⟩],ap1 jy⟩
theorem vy:Lk 1 qP:=ls DA aN
def jY(a0:Int)(a1:Int)(a2:Int):Option (T0d):=
bif(a0==3)then(let x0:Int:=(wk .u16 (a1+a2));
some (0,x0,0,()))else
bif(a0==4)then(let x0:Int:=(wk .u16 (a1-a2));
some (0,x0,0,()))else
bif(a0==5)then(let x0:Int:=(wk .u16 (a1*a2));
some (0,x0,0,()))else
bif(a0==6)then(bif(a2==0)then(some (0,0,5,()))else
bif(a0==6)then(bif(a2 != 0)then let x0:Int:=(wk .u16 (Int.tdiv a1 a2));
some (0,x0,0,())else none)else
bif(a2 != 0)then let x0:Int:=(Int.tmod a1 a2);
some (0,x0,0,())else none)else
bif(a0==7)then(bif(a2==0)then(some (0,0,5,()))else
bif(a0==6)then(bif(a2 != 0)then let x0:Int:=(wk .u16 (Int.tdiv a1 a2));
some (0,x0,0,())else none)else
bif(a2 != 0)then let x0:Int:=(Int.tmod a1 a2);
some (0,x0,0,())else none)else
bif(a0==8)then(let x0:Int:=(arR .and .u16 a1 a2);
some (0,x0,0,()))else
bif(a0==9)then(let x0:Int:=(arR .or .u16 a1 a2);
some (0,x0,0,()))else
bif(a0==10)then(let x0:Int:=(arR .xor .u16 a1 a2);
some (0,x0,0,()))else
bif(a0==11)then(let x0:Int:=(Int.tmod a2 16);
(eq x0).bind λx1=>
let x2:Int:=(shR .shl .u16 a1 x1);
some (0,x2,0,()))else
bif(a0==12)then(let x0:Int:=(Int.tmod a2 16);
(eq x0).bind λx1=>
let x2:Int:=(shR .shr .u16 a1 x1);
some (0,x2,0,()))else
(jy (decide (a1<a2))).bind λ(x0,x1,_)=>
some (x0,x1,0,())
def xX:X.Cfg:=⟨E0,[qP],[],[]⟩
def qO:Ctr:=⟨176,66,uL [I64,CW,CW],[],[⟨uai,[.agg 2,.one],[]⟩],ap3 jY⟩
theorem xJ:Lk 2 qO:=ls xX (aC vy aN)
def jZ(a0:List (Int))(a1:Int)(a2:List (Int))(a3:Int)(a4:Int)(a5:Int)(a6:Int):Option (Int×Int×T0c):=
let x0:=wk .i64 a4;
(fj a0 a1 a2 x0).bind λ(x1,x2,x3,_)=>
let x4:=wk .i64 a6;
(fj a0 a1 a2 x4).bind λ(x5,x6,x7,_)=>
bif x3 then(bif x7 then(some (x1,x2,x5,x6,(x1==x5),()))else
some (x1,x2,x5,x6,false,()))else
some (x1,x2,x5,x6,false,())
def BE:X.Cfg:=⟨E0,[iL],[],[]⟩
def ub:Ctr:=⟨177,67,[.agg Zab,shU RI,.agg Uab,.agg Uab],[],[⟨uL [I64,I64,I64,I64,.bool],[.agg 2,.agg 2,.one],[]⟩],ap7 jZ⟩
theorem A4:Lk 2 ub:=ls BE (aC kv aN)
def rj(a0:List (Int))(a1:Int)(a2:List (Int))(a3:Int)(a4:Int)(a5:Int)(a6:Int)(a7:Int):Option (T0d):=
bif(decide (a3<3))then(some (0,0,1,()))else
bif(decide (a3>14))then(some (0,0,1,()))else
(match(bif(a3==14)then((jy ((a4==a6)&&((a5==a7)&&true))).bind λ(x0,x1,_)=>
some (.inl (0,x0,x1,())))else
bif(a4==0)then(bif(a6==0)then((jY a3 a5 a7).bind λ(x0,x1,x2,_)=>
some (.inl (x2,x0,x1,())))else
(bif(a3==3)then(bif(a4==1)then(some (a2,a3,(a6==0),a0,a1,a4,a5,a6,a7,0,0,()))else
some (a2,a3,false,a0,a1,a4,a5,a6,a7,0,0,()))else
some (a2,a3,false,a0,a1,a4,a5,a6,a7,0,0,()):Option (T23)).bind λ(x0,x1,x2,x3,x4,x5,x6,x7,x8,x9,ac,_)=>
bif x2 then((fE x3 x4 x0 x5 x6 x8 false).bind λ(ae,af,ag,_)=>
some (.inl (ag,ae,af,())))else
(bif(x1==3)then(bif(x5==0)then(some (x0,x1,(x7==1),x3,x4,x5,x6,x7,x8,x9,ac,()))else
some (x0,x1,false,x3,x4,x5,x6,x7,x8,x9,ac,()))else
some (x0,x1,false,x3,x4,x5,x6,x7,x8,x9,ac,()):Option (T23)).bind λ(ae,af,ag,ah,ai,aj,ak,am,an,ap,aq,_)=>
bif ag then((fE ah ai ae am an ak false).bind λ(av,ax,ay,_)=>
some (.inl (ay,av,ax,())))else
(bif(af==4)then(bif(aj==1)then(some (ae,af,(am==0),ah,ai,aj,ak,am,an,ap,aq,()))else
some (ae,af,false,ah,ai,aj,ak,am,an,ap,aq,()))else
some (ae,af,false,ah,ai,aj,ak,am,an,ap,aq,()):Option (T23)).bind λ(av,ax,ay,az,aA,aB,aD,aE,aF,aG,aH,_)=>
bif ay then((fE az aA av aB aD aF true).bind λ(aI,aJ,aK,_)=>
some (.inl (aK,aI,aJ,())))else
(bif(ax==4)then(bif(aB==1)then(some (av,ax,(aE==1),az,aA,aB,aD,aE,aF,aG,aH,()))else
some (av,ax,false,az,aA,aB,aD,aE,aF,aG,aH,()))else
bif(ax==13)then(bif(aB==1)then(some (av,ax,(aE==1),az,aA,aB,aD,aE,aF,aG,aH,()))else
some (av,ax,false,az,aA,aB,aD,aE,aF,aG,aH,()))else
some (av,ax,false,az,aA,aB,aD,aE,aF,aG,aH,()):Option (T23)).bind λ(aI,aJ,aK,aL,aM,aO,aP,aQ,aR,aS,aT,_)=>
bif aK then((jZ aL aM aI aO aP aQ aR).bind λ(aU,aV,aW,aY,aZ,_)=>
bif(!aZ)then(some (.inl (4,0,0,())))else
bif(aJ==13)then((jy (decide (aV<aY))).bind λ(ba,bc,_)=>
some (.inl (0,ba,bc,())))else
let ba:=w64 (aV-aY);
let bc:=wk .u16 ba;
some (.inl (0,0,bc,())))else
some (.inr (aI,aJ,false,aL,aM,aO,aP,aQ,aR,aS,aT,())))else
(bif(a3==3)then(bif(a4==1)then(some (a2,a3,(a6==0),a0,a1,a4,a5,a6,a7,0,0,()))else
some (a2,a3,false,a0,a1,a4,a5,a6,a7,0,0,()))else
some (a2,a3,false,a0,a1,a4,a5,a6,a7,0,0,()):Option (T23)).bind λ(x0,x1,x2,x3,x4,x5,x6,x7,x8,x9,ac,_)=>
bif x2 then((fE x3 x4 x0 x5 x6 x8 false).bind λ(ae,af,ag,_)=>
some (.inl (ag,ae,af,())))else
(bif(x1==3)then(bif(x5==0)then(some (x0,x1,(x7==1),x3,x4,x5,x6,x7,x8,x9,ac,()))else
some (x0,x1,false,x3,x4,x5,x6,x7,x8,x9,ac,()))else
some (x0,x1,false,x3,x4,x5,x6,x7,x8,x9,ac,()):Option (T23)).bind λ(ae,af,ag,ah,ai,aj,ak,am,an,ap,aq,_)=>
bif ag then((fE ah ai ae am an ak false).bind λ(av,ax,ay,_)=>
some (.inl (ay,av,ax,())))else
(bif(af==4)then(bif(aj==1)then(some (ae,af,(am==0),ah,ai,aj,ak,am,an,ap,aq,()))else
some (ae,af,false,ah,ai,aj,ak,am,an,ap,aq,()))else
some (ae,af,false,ah,ai,aj,ak,am,an,ap,aq,()):Option (T23)).bind λ(av,ax,ay,az,aA,aB,aD,aE,aF,aG,aH,_)=>
bif ay then((fE az aA av aB aD aF true).bind λ(aI,aJ,aK,_)=>
some (.inl (aK,aI,aJ,())))else
(bif(ax==4)then(bif(aB==1)then(some (av,ax,(aE==1),az,aA,aB,aD,aE,aF,aG,aH,()))else
some (av,ax,false,az,aA,aB,aD,aE,aF,aG,aH,()))else
bif(ax==13)then(bif(aB==1)then(some (av,ax,(aE==1),az,aA,aB,aD,aE,aF,aG,aH,()))else
some (av,ax,false,az,aA,aB,aD,aE,aF,aG,aH,()))else
some (av,ax,false,az,aA,aB,aD,aE,aF,aG,aH,()):Option (T23)).bind λ(aI,aJ,aK,aL,aM,aO,aP,aQ,aR,aS,aT,_)=>
bif aK then((jZ aL aM aI aO aP aQ aR).bind λ(aU,aV,aW,aY,aZ,_)=>
bif(!aZ)then(some (.inl (4,0,0,())))else
bif(aJ==13)then((jy (decide (aV<aY))).bind λ(ba,bc,_)=>
some (.inl (0,ba,bc,())))else
let ba:=w64 (aV-aY);
let bc:=wk .u16 ba;
some (.inl (0,0,bc,())))else
some (.inr (aI,aJ,false,aL,aM,aO,aP,aQ,aR,aS,aT,())):Option (T0d⊕T23))with
|none=>none
|some (.inl (x0,x1,x2,_))=>
some (x1,x2,x0,())
|some (.inr (x0,x1,x2,x3,x4,x5,x6,x7,x8,x9,ac,_))=>
some (0,0,3,()))
def HS:X.Cfg:=⟨E0,[qP,qO,qQ,ub],[],[⟨9,0,qE,[(.normal,qS [sP 1 RI,Uaa 2,zaa 5,zaa 8,zaa 9,zaa 10,Xaa 46] [(12,Zab),(18,Uab),(20,Uab),(22,Uab)])]⟩,⟨11,1,qE,[(.normal,qS [sP 1 RI,Uaa 2,zaa 5,zaa 8,zaa 9,zaa 10,Xaa 67] [(12,Zab),(18,Uab),(20,Uab),(22,Uab)])]⟩,⟨13,2,qE,[(.normal,qS [sP 1 RI,Uaa 2,zaa 5,zaa 8,zaa 9,zaa 10,Xaa 88] [(12,Zab),(18,Uab),(20,Uab),(22,Uab)])]⟩,⟨15,3,qE,[(.normal,qS [sP 1 RI,Uaa 2,zaa 5,zaa 8,zaa 9,zaa 10,Xaa 109] [(12,Zab),(18,Uab),(20,Uab),(22,Uab)])]⟩,⟨4,4,qE,[(.ret,qS [zaa 10,Uaa 11] [(22,Uab)]),(.normal,qS [sP 1 RI,Uaa 2,zaa 5,zaa 8,zaa 9,zaa 10,Xaa 109] [(12,Zab),(18,Uab),(20,Uab),(22,Uab)])]⟩]⟩
def Ao:Ctr:=⟨158,68,[.agg Zab,shU RI,shU I64,.agg Uab,.agg Uab],[],[⟨uai,[.agg 2,.one],[]⟩],ap8 rj⟩
theorem HK:Lk 3 Ao:=ls HS (aC vy (aC xJ (aC vz (aC A4 aN))))
def kX(a0:Int):Option (Bool×Unit):=
(gO a0).bind λ(x0,_)=>
bif x0 then(some (true,()))else
bif(a0==22)then(some (true,()))else
some ((a0==24),())
def zm:X.Cfg:=⟨E0,[jG],[],[]⟩
def r8:Ctr:=⟨159,69,Xac,[],[⟨uab,[.one],[]⟩],ap1 kX⟩
theorem yZ:Lk 2 r8:=ls zm (aC lz aN)
def oK(a0:LDIn)(a1:List (Int))(a2:List LI)(a3:Int)(a4:List (Int))(a5:Int)(a6:LDCe)(a7:LDLn)(a8:LDTh):Option (T10):=
(eq a3).bind λx0=>
(dJ a8 x0).bind λx1=>
(dJ a8 x0).bind λx2=>
let x3:=dO a0.length;
bif(decide (x2.2.2.1>=x3))then((fA x0 2 a8).bind λ(x4,x5,_)=>
some (x4,a4,a5,a6,a7,x5,()))else
(dJ a8 x0).bind λx4=>
(eq x4.2.2.1).bind λx5=>
(dJ a0 x5).bind λx6=>
(dJ a8 x0).bind λx7=>
let x8:=w64 (x7.2.2.1+1);
(dJ a8 x0).bind λx9=>
(eq x6.2.1).bind λac=>
(dJ a8 x0).bind λae=>
(dJ ae.2.1 ac).bind λaf=>
(dJ a8 x0).bind λag=>
(dJ ag.2.1 ac).bind λah=>
(dJ a8 x0).bind λai=>
(eq x6.2.2.1).bind λaj=>
(dJ a8 x0).bind λak=>
(dJ ak.2.1 aj).bind λam=>
(dJ a8 x0).bind λan=>
(dJ an.2.1 aj).bind λap=>
(match(bif(x6.1==0)then(some (.inl (x0,x8,a4,a5,a6,a7,a8,x6.1,x6.2.1,x6.2.2.1,x6.2.2.2.1,x6.2.2.2.2,())))else
bif(x6.1==1)then((dJ a8 x0).bind λaq=>
let av:=wk .u16 x6.2.2.2.2;
(eq x6.2.1).bind λax=>
(dJ a8 x0).bind λay=>
(dJ ay.2.1 ax).bind λaz=>
(dJ a8 x0).bind λaA=>
(dJ aA.2.1 ax).bind λaB=>
let aD:=(List.modify a8 x0 λe=>(e.1,((List.modify e.2.1 ax λe=>(0,av)),e.2.2)));
some (.inl (x0,x8,a4,a5,a6,a7,aD,x6.1,x6.2.1,x6.2.2.1,x6.2.2.2.1,x6.2.2.2.2,())))else
bif(x6.1==2)then((dJ a8 x0).bind λaq=>
(eq x6.2.1).bind λav=>
(dJ a8 x0).bind λax=>
(dJ ax.2.1 av).bind λay=>
(dJ a8 x0).bind λaz=>
(dJ az.2.1 av).bind λaA=>
let aB:=(List.modify a8 x0 λe=>(e.1,((List.modify e.2.1 av λe=>(ap.1,ap.2)),e.2.2)));
some (.inl (x0,x8,a4,a5,a6,a7,aB,x6.1,x6.2.1,x6.2.2.1,x6.2.2.2.1,x6.2.2.2.2,())))else
bif(x6.1==15)then((dJ a8 x0).bind λaq=>
(eq x6.2.2.2.2).bind λav=>
(dJ a4 av).bind λax=>
let ay:=wk .u16 ax;
(eq x6.2.1).bind λaz=>
(dJ a8 x0).bind λaA=>
(dJ aA.2.1 az).bind λaB=>
(dJ a8 x0).bind λaD=>
(dJ aD.2.1 az).bind λaE=>
let aF:=(List.modify a8 x0 λe=>(e.1,((List.modify e.2.1 az λe=>(1,ay)),e.2.2)));
some (.inl (x0,x8,a4,a5,a6,a7,aF,x6.1,x6.2.1,x6.2.2.1,x6.2.2.2.1,x6.2.2.2.2,())))else
bif(x6.1==16)then((bif(x6.1==17)then(some (x0,x8,a4,a5,a6,a7,a8,a0,a1,a2,x6.1,x6.2.1,x6.2.2.1,x6.2.2.2.1,x6.2.2.2.2,ap.1,ap.2,ah.1,ah.2,()))else
some (x0,x8,a4,a5,a6,a7,a8,a0,a1,a2,x6.1,x6.2.1,x6.2.2.1,x6.2.2.2.1,x6.2.2.2.2,ap.1,ap.2,ap.1,ap.2,()):Option (T2t)).bind λ(aq,av,ax,ay,az,aA,aB,aD,aE,aF,aG,aH,aI,aJ,aK,aL,aM,aO,aP,_)=>
let aQ:=wk .u16 aK;
(fE ax ay aE aO aP aQ false).bind λ(aR,aS,aT,_)=>
bif(aT != 0)then((fA aq aT aB).bind λ(aU,aV,_)=>
some (.inr (aU,ax,ay,az,aA,aV,())))else
bif(aG==16)then((dJ aB aq).bind λaU=>
let aV:=wk .i64 aS;
(nv aV az aA).bind λ(aW,aY,aZ,ba,_)=>
(eq aH).bind λbc=>
(dJ aB aq).bind λbd=>
(dJ bd.2.1 bc).bind λbf=>
(dJ aB aq).bind λbg=>
(dJ bg.2.1 bc).bind λbh=>
let bi:=(List.modify aB aq λe=>(e.1,((List.modify e.2.1 bc λe=>(aW,aY)),e.2.2)));
some (.inl (aq,av,ax,ay,aZ,ba,bi,aG,aH,aI,aJ,aK,())))else
let aU:=wk .i64 aS;
(j3 aU aL aM az aA).bind λ(aV,aW,_)=>
some (.inl (aq,av,ax,ay,aV,aW,aB,aG,aH,aI,aJ,aK,())))else
bif(x6.1==17)then((bif(x6.1==17)then(some (x0,x8,a4,a5,a6,a7,a8,a0,a1,a2,x6.1,x6.2.1,x6.2.2.1,x6.2.2.2.1,x6.2.2.2.2,ap.1,ap.2,ah.1,ah.2,()))else
some (x0,x8,a4,a5,a6,a7,a8,a0,a1,a2,x6.1,x6.2.1,x6.2.2.1,x6.2.2.2.1,x6.2.2.2.2,ap.1,ap.2,ap.1,ap.2,()):Option (T2t)).bind λ(aq,av,ax,ay,az,aA,aB,aD,aE,aF,aG,aH,aI,aJ,aK,aL,aM,aO,aP,_)=>
let aQ:=wk .u16 aK;
(fE ax ay aE aO aP aQ false).bind λ(aR,aS,aT,_)=>
bif(aT != 0)then((fA aq aT aB).bind λ(aU,aV,_)=>
some (.inr (aU,ax,ay,az,aA,aV,())))else
bif(aG==16)then((dJ aB aq).bind λaU=>
let aV:=wk .i64 aS;
(nv aV az aA).bind λ(aW,aY,aZ,ba,_)=>
(eq aH).bind λbc=>
(dJ aB aq).bind λbd=>
(dJ bd.2.1 bc).bind λbf=>
(dJ aB aq).bind λbg=>
(dJ bg.2.1 bc).bind λbh=>
let bi:=(List.modify aB aq λe=>(e.1,((List.modify e.2.1 bc λe=>(aW,aY)),e.2.2)));
some (.inl (aq,av,ax,ay,aZ,ba,bi,aG,aH,aI,aJ,aK,())))else
let aU:=wk .i64 aS;
(j3 aU aL aM az aA).bind λ(aV,aW,_)=>
some (.inl (aq,av,ax,ay,aV,aW,aB,aG,aH,aI,aJ,aK,())))else
bif(x6.1==18)then(some (.inl (x0,x6.2.2.2.2,a4,a5,a6,a7,a8,x6.1,x6.2.1,x6.2.2.1,x6.2.2.2.1,x6.2.2.2.2,())))else
bif(x6.1==19)then(bif(ah.1 != 0)then((fA x0 3 a8).bind λ(aq,av,_)=>
some (.inr (aq,a4,a5,a6,a7,av,())))else
bif((ah.2==0)==(x6.1==19))then(some (.inl (x0,x6.2.2.2.2,a4,a5,a6,a7,a8,x6.1,x6.2.1,x6.2.2.1,x6.2.2.2.1,x6.2.2.2.2,())))else
some (.inl (x0,x8,a4,a5,a6,a7,a8,x6.1,x6.2.1,x6.2.2.1,x6.2.2.2.1,x6.2.2.2.2,())))else
bif(x6.1==20)then(bif(ah.1 != 0)then((fA x0 3 a8).bind λ(aq,av,_)=>
some (.inr (aq,a4,a5,a6,a7,av,())))else
bif((ah.2==0)==(x6.1==19))then(some (.inl (x0,x6.2.2.2.2,a4,a5,a6,a7,a8,x6.1,x6.2.1,x6.2.2.1,x6.2.2.2.1,x6.2.2.2.2,())))else
some (.inl (x0,x8,a4,a5,a6,a7,a8,x6.1,x6.2.1,x6.2.2.1,x6.2.2.2.1,x6.2.2.2.2,())))else
bif(x6.1==21)then((dJ a8 x0).bind λaq=>
let av:=wk .u16 x8;
(eq x6.2.1).bind λax=>
(dJ a8 x0).bind λay=>
(dJ ay.2.1 ax).bind λaz=>
(dJ a8 x0).bind λaA=>
(dJ aA.2.1 ax).bind λaB=>
let aD:=(List.modify a8 x0 λe=>(e.1,((List.modify e.2.1 ax λe=>(0,av)),e.2.2)));
some (.inl (x0,x6.2.2.2.2,a4,a5,a6,a7,aD,x6.1,x6.2.1,x6.2.2.1,x6.2.2.2.1,x6.2.2.2.2,())))else
bif(x6.1==22)then(bif(ah.1 != 0)then((fA x0 3 a8).bind λ(aq,av,_)=>
some (.inr (aq,a4,a5,a6,a7,av,())))else
bif(decide (ah.2>255))then((fA x0 2 a8).bind λ(aq,av,_)=>
some (.inr (aq,a4,a5,a6,a7,av,())))else
let aq:=wk .i64 ah.2;
some (.inl (x0,aq,a4,a5,a6,a7,a8,x6.1,x6.2.1,x6.2.2.1,x6.2.2.2.1,x6.2.2.2.2,())))else
bif(x6.1==24)then((dJ a8 x0).bind λaq=>
bif(aq.2.2.2.2.2.1==(-1))then((fA x0 1 a8).bind λ(av,ax,_)=>
some (.inr (av,a4,a5,a6,a7,ax,())))else
(dJ a8 x0).bind λav=>
(dJ a8 x0).bind λax=>
let ay:=(List.modify a8 x0 λe=>(e.1,(e.2.1,(e.2.2.1,(e.2.2.2.1,(e.2.2.2.2.1,((-1),e.2.2.2.2.2.2)))))));
some (.inl (x0,av.2.2.2.2.2.1,a4,a5,a6,a7,ay,x6.1,x6.2.1,x6.2.2.1,x6.2.2.2.1,x6.2.2.2.2,())))else
bif(x6.1==23)then((dJ a8 x0).bind λaq=>
let av:=List.modify a8 x0 λe=>(2,e.2);
(dJ av x0).bind λax=>
let ay:=(List.modify av x0 λe=>(e.1,(e.2.1,(x8,e.2.2.2))));
some (.inr (1,a4,a5,a6,a7,ay,())))else
(dJ a8 x0).bind λaq=>
(eq x6.2.2.2.1).bind λav=>
(dJ a8 x0).bind λax=>
(dJ ax.2.1 av).bind λay=>
(dJ a8 x0).bind λaz=>
(dJ az.2.1 av).bind λaA=>
(rj a4 a5 a1 x6.1 ap.1 ap.2 aA.1 aA.2).bind λ(aB,aD,aE,_)=>
bif(aE != 0)then((fA x0 aE a8).bind λ(aF,aG,_)=>
some (.inr (aF,a4,a5,a6,a7,aG,())))else
(dJ a8 x0).bind λaF=>
(eq x6.2.1).bind λaG=>
(dJ a8 x0).bind λaH=>
(dJ aH.2.1 aG).bind λaI=>
(dJ a8 x0).bind λaJ=>
(dJ aJ.2.1 aG).bind λaK=>
let aL:=(List.modify a8 x0 λe=>(e.1,((List.modify e.2.1 aG λe=>(aB,aD)),e.2.2)));
some (.inl (x0,x8,a4,a5,a6,a7,aL,x6.1,x6.2.1,x6.2.2.1,x6.2.2.2.1,x6.2.2.2.2,())):Option ((Nat×Int×LI×Int×LDCe×LDLn×LDTh×T0L)⊕T10))with
|none=>none
|some (.inl (aq,av,ax,ay,az,aA,aB,aD,aE,aF,aG,aH,_))=>
(dJ aB aq).bind λaI=>
let aJ:=(List.modify aB aq λe=>(e.1,(e.2.1,(av,e.2.2.2))));
((kX aD).bind λ(aK,_)=>
bif aK then((dJ aJ aq).bind λaL=>
let aM:=w64 (aL.2.2.2.1+1);
(dJ aJ aq).bind λaO=>
let aP:=(List.modify aJ aq λe=>(e.1,(e.2.1,(e.2.2.1,(aM,e.2.2.2.2)))));
some (ax,ay,az,aA,aP,()))else
some (ax,ay,az,aA,aJ,()):Option (T0P)).bind λ(aK,aL,aM,aO,aP,_)=>
some ((-1),aK,aL,aM,aO,aP,())
|some (.inr (aq,av,ax,ay,az,aA,_))=>
some (aq,av,ax,ay,az,aA,()))
def E5:X.Cfg:=⟨E0,[vV,qQ,vY,pf,Ao,r8],[],[⟨17,0,qE,[(.normal,(qS [zaa 1,zaa 3,(7,.ptr ⟨4,4,[((),(8,0))]⟩ [0,0]),zaa 8,Uaa 9,zaa 11,zaa 12] [(4,Uac),(8,zab),(18,uad),(24,Uab),(26,Uab)]))]⟩,⟨8,1,qE,[(.normal,(qS [zaa 1,(7,.ptr ⟨4,4,[((),(8,0))]⟩ [0,0]),zaa 8,Uaa 9] [(4,Uac),(18,uad)])),(.ret,qS [zaa 1,Uaa 6] [(4,Uac)])]⟩,⟨52,2,qE,[(.normal,qS [zaa 1] [(4,Uac)])]⟩]⟩
def yC:Ctr:=⟨140,70,[.agg zab,.ptr ⟨4,0,[]⟩ [0],shU I64],[(4,Uac)],[⟨Xac,[.one],[(4,Uac)]⟩],ap9 oK⟩
theorem ET:Lk 4 yC:=ls E5 (aC C5 (aC vz (aC C7 (aC tE (aC HK (aC yZ aN))))))
def pE:T2h->Option (T2h⊕T1g):=λ(v0,v1,v2,v3,v4,v5,v6,v7,v8,v9,v10,v11,v12,v13,v14,_)=>
(oK v2 v3 v4 v0 v10 v11 v12 v13 v14).bind λ(x0,x1,x2,x3,x4,x5,_)=>
bif(x0 != (-1))then(some (.inr (x0,0,x1,x2,x3,x4,x5,())))else
(eq v0).bind λx6=>
(dJ x5 x6).bind λx7=>
(dJ x5 x6).bind λx8=>
bif(x8.2.2.2.1==v1)then(some (.inr (0,0,x1,x2,x3,x4,x5,())))else
some (.inl (v0,v1,v2,v3,v4,v5,v6,v7,v8,v9,x1,x2,x3,x4,x5,()))
def l9(a0:LDIn)(a1:List (Int))(a2:List LI)(a3:List (Int))(a4:Int)(a5:LDCe)(a6:LDLn)(a7:LDTh)(a8:Int)(a9:Int):Option (LI×Int×LDCe×LDLn×LDTh×T03):=
((iR a0 a1 a2 a3 a4 a5 a6 a7).bind λ(x0,_)=>
bif(!x0)then(some (a8,a9,true,a0,a1,a2,a3,a4,a5,a6,a7,(),0,(),(),(),()))else
bif(decide (a8<0))then(some (a8,a9,true,a0,a1,a2,a3,a4,a5,a6,a7,(),0,(),(),(),()))else
bif(decide (a8>=4))then(some (a8,a9,true,a0,a1,a2,a3,a4,a5,a6,a7,(),0,(),(),(),()))else
bif(decide (a9<1))then(some (a8,a9,true,a0,a1,a2,a3,a4,a5,a6,a7,(),0,(),(),(),()))else
some (a8,a9,(decide (a9>64)),a0,a1,a2,a3,a4,a5,a6,a7,(),0,(),(),(),()):Option (Int×Int×Bool×LDIn×LI×LLI×LI×Int×LDCe×LDLn×LDTh×T0R)).bind λ(x0,x1,x2,x3,x4,x5,x6,x7,x8,x9,ac,ae,af,ag,ah,ai,_)=>
bif x2 then(some ([],0,[],[],[],0,1,()))else
(iD x6 x7 x8 x9 ac).bind λ(aj,ak,am,an,ap,_)=>
(eq x0).bind λaq=>
(dJ ac aq).bind λav=>
bif(av.1 != 1)then(some (aj,ak,am,an,ap,3,0,()))else
(eq x0).bind λax=>
(dJ ap ax).bind λay=>
(dJ ap ax).bind λaz=>
let aA:=w64 (az.2.2.2.1+x1);
(dY pE NN (x0,aA,x3,x4,x5,ae,af,ag,ah,ai,aj,ak,am,an,ap,())).bind λ(aB,aD,aE,aF,aG,aH,aI,_)=>
some (aE,aF,aG,aH,aI,aB,aD,())
def BA:X.Cfg:=⟨E0,[mq,lC,yC],[],[⟨2,0,qE,[(.normal,qS [Uaa 2,Uaa 3,zaa 4,zaa 5,zaa 8,Xaa 33] [(10,zab),(12,yad),(18,uae)])]⟩,⟨9,1,qS [Uaa 2,zaa 4,zaa 8,zaa 11,Uaa 12] [(10,zab),(18,uae),(24,Uac)],[(.ret,qS [zaa 8,Uaa 9,Uaa 10] [(18,Uac)])]⟩]⟩
def t8:Ctr:=⟨121,71,[.agg zab,.agg yad,shU I64,shU I64],[],[⟨uL [RI,CW,(uaa KCe),lQ,sI,I64,I64],[.agg 5,.one,.one],[]⟩],ap10 l9⟩
theorem AZ:Lk 5 t8:=ls BA (aC oW (aC nI (aC ET aN)))
def jV(a0:Int):Option (ByteArray×Unit):=
let x0:ByteArray:=(bytes []);
(bif(a0==0)then(some (a0,true,()))else
bif(a0==8)then(some (a0,true,()))else
bif(a0==9)then(some (a0,true,()))else
bif(a0==11)then(some (a0,true,()))else
some (a0,(a0==12),()):Option (T02)).bind λ(x1,x2,_)=>
bif x2 then(let x3:ByteArray:=(bytes [78]);
some (x3,()))else
bif(x1==1)then(let x3:ByteArray:=(bytes [72,80,78]);
some (x3,()))else
bif(x1==2)then(let x3:ByteArray:=(bytes [72,80,78]);
some (x3,()))else
bif(x1==3)then(let x3:ByteArray:=(bytes [78,78]);
some (x3,()))else
bif(x1==4)then(let x3:ByteArray:=(bytes [72]);
some (x3,()))else
bif(x1==5)then(let x3:ByteArray:=(bytes [72,78]);
some (x3,()))else
bif(x1==10)then(let x3:ByteArray:=(bytes [78,88]);
some (x3,()))else
bif(x1==13)then(let x3:ByteArray:=(bytes [78,80,78]);
some (x3,()))else
bif(x1==14)then(let x3:ByteArray:=(bytes [78,80,78]);
some (x3,()))else
let x3:ByteArray:=(bytes []);
some (x3,())
def Bu:X.Cfg:=⟨E0,[],[],[⟨3,0,qE,[(.normal,qS [Uaa 3,Xaa 4] [])]⟩]⟩
def mp:Ctr:=⟨141,72,Xac,[],[⟨uL [.str],[.one],[]⟩],ap1 jV⟩
theorem oV:Lk 1 mp:=ls Bu aN
def lq(a0:Int)(a1:Int):Option (Bool×Unit):=
bif(a0==78)then(some ((a1==0),()))else
bif(a0==72)then(some ((a1==2),()))else
bif(a0==80)then(some ((a1==1),()))else
some (true,())
def Dw:X.Cfg:=⟨E0,[],[],[]⟩
def qL:Ctr:=⟨142,73,uL [CB,CB],[],[⟨uab,[.one],[]⟩],ap2 lq⟩
theorem vv:Lk 1 qL:=ls Dw aN
def g9(a0:Int):Option (Int×Unit):=
bif(decide (a0<0))then(some ((-1),()))else
bif(decide (a0>15))then(some ((-1),()))else
bif(a0==1)then(some (1,()))else
bif(a0==13)then(some (1,()))else
bif(a0==2)then(some (2,()))else
bif(a0==14)then(some (2,()))else
some (0,())
def zj:X.Cfg:=⟨E0,[],[],[]⟩
def ja:Ctr:=⟨126,74,Xac,[],[⟨Xac,[.one],[]⟩],ap1 g9⟩
theorem ld:Lk 1 ja:=ls zj aN
def kW(a0:List (Int))(a1:Int)(a2:List (Int))(a3:Int)(a4:Int)(a5:Int):Option (T03):=
bif(a3 != 1)then(some (0,3,()))else
let x0:=wk .i64 a4;
(fj a0 a1 a2 x0).bind λ(x1,x2,x3,_)=>
(bif(!x3)then(some (true,a3,a4,()))else
bif(decide (a5<0))then(some (true,a3,a4,()))else
(eq x1).bind λx4=>
(dJ a2 x4).bind λx5=>
let x6:=w64 (x5-x2);
some ((decide (a5>x6)),a3,a4,()):Option (T0b)).bind λ(x4,x5,x6,_)=>
bif x4 then(some (0,4,()))else
let x7:=wk .i64 x6;
some (x7,0,())
def zl:X.Cfg:=⟨E0,[iL],[],[⟨6,0,qE,[(.normal,qS [zaa 6,Xaa 41] [(14,Uab)])]⟩]⟩
def r7:Ctr:=⟨143,75,[.agg Zab,shU RI,.agg Uab,shU I64],[],[⟨zad,[.one,.one],[]⟩],ap6 kW⟩
theorem yY:Lk 2 r7:=ls zl (aC kv aN)
def lH:T2v->Option (T2v⊕((Int×Unit)⊕(Int×ByteArray×Int×Int×Bool×T2k))):=λ(v0,v1,v2,v3,v4,v5,v6,v7,v8,v9,v10,v11,v12,v13,v14)=>
bif(decide (v3<v2))then((eq v3).bind λx0=>
(zM v1 x0).bind λx1=>
(eq v3).bind λx2=>
(dJ v13 x2).bind λx3=>
(lq x1 x3.1).bind λ(x4,_)=>
bif(!x4)then(some (.inr (.inl (6,()))))else
let x5:=w64 (v3+1);
some (.inl (v0,v1,v2,x5,v4,v5,v6,v7,v8,v9,v10,v11,v12,v13,v14)))else
some (.inr (.inr (v0,v1,v2,v3,false,v4,v5,v6,v7,v8,v9,v10,v11,v12,v13,v14)))
def l8(a0:LDIn)(a1:List (Int))(a2:List LI)(a3:List (Int))(a4:Int)(a5:LDCe)(a6:LDLn)(a7:LDTh)(a8:Int):Option (Int×Unit):=
(eq a8).bind λx0=>
(dJ a7 x0).bind λx1=>
let x2:=w64 (x1.2.2.1-1);
(eq x2).bind λx3=>
(dJ a0 x3).bind λx4=>
(jV x4.2.2.2.2).bind λ(x5,_)=>
let x6:=Ax x5;
(match dY lH NN (x4.2.2.2.2,x5,x6,0,a0,a1,a2,a3,a4,a5,a6,a7,x1.1,x1.2.1,x1.2.2.1,x1.2.2.2.1,x1.2.2.2.2.1,x1.2.2.2.2.2.1,x1.2.2.2.2.2.2.1,x1.2.2.2.2.2.2.2,())with
|none=>none
|some (.inl (x7,_))=>
some (x7,())
|some (.inr (x7,x8,x9,ac,ae,af,ag,ah,ai,aj,ak,am,an,ap,aq,_))=>
(g9 x7).bind λ(aD,_)=>
bif(decide (aD>0))then((dJ aq 1).bind λaE=>
(dJ aq 2).bind λaF=>
let aG:=wk .i64 aF.2;
(kW ai aj ag aE.1 aE.2 aG).bind λ(aH,aI,_)=>
bif(aI != 0)then(some (6,()))else
(dJ aq 2).bind λaJ=>
bif(decide (aJ.2>16))then(some (6,()))else
(bif(x7==10)then((dJ aq 0).bind λaK=>
let aL:=wk .i64 aK.2;
let aM:=dO af.length;
some ((decide (aL>=aM)),()))else
bif(x7==12)then((dJ aq 0).bind λaK=>
let aL:=wk .i64 aK.2;
let aM:=dO af.length;
some ((decide (aL>=aM)),()))else
some (false,()):Option (Bool×Unit)).bind λ(aK,_)=>
bif aK then(some (6,()))else
some (0,()))else
(bif(x7==10)then((dJ aq 0).bind λaE=>
let aF:=wk .i64 aE.2;
let aG:=dO af.length;
some ((decide (aF>=aG)),()))else
bif(x7==12)then((dJ aq 0).bind λaE=>
let aF:=wk .i64 aE.2;
let aG:=dO af.length;
some ((decide (aF>=aG)),()))else
some (false,()):Option (Bool×Unit)).bind λ(aE,_)=>
bif aE then(some (6,()))else
some (0,()))
def Bx:X.Cfg:=⟨E0,[mp,qL,ja,r7],[],[⟨6,0,qS [zaa 3,zaa 4,zaa 7,Uaa 8,sP 9 .str,Uaa 29,Uaa 30] [(8,zab),(10,yad),(16,zae)],[(.ret,qS [Uaa 6] []),(.exit 0,qS [zaa 3,zaa 4,zaa 7,Uaa 8,sP 9 .str,Uaa 29,Uaa 30,Xaa 31] [(8,zab),(10,yad),(16,zae)])]⟩,⟨19,1,qE,[(.normal,qS [Xaa 93] [])]⟩]⟩
def tZ:Ctr:=⟨122,76,[.agg zab,.agg yad,shU I64],[],[⟨Xac,[.one],[]⟩],ap9 l8⟩
theorem AY:Lk 3 tZ:=ls Bx (aC oV (aC vv (aC ld (aC yY aN))))
def i8(a0:Int)(a1:LDCe)(a2:Int)(a3:Int)(a4:Int)(a5:Int)(a6:Int)(a7:Int):Option (T1t):=
bif(dW 4 0 a1.length)then let x0:LDCe:=(List.append [] a1);
some (a0,x0,a2,a3,a4,a5,a6,a7,())else none
def zk:X.Cfg:=⟨E0,[],[],[]⟩
def r6:Ctr:=⟨144,77,[.agg zae],[],[⟨yah,[.agg 8],[]⟩],ap8 i8⟩
theorem yX:Lk 1 r6:=ls zk aN
def kO(a0:Int)(a1:LDCe)(a2:Int)(a3:Int)(a4:Int)(a5:Int)(a6:Int)(a7:Int)(a8:Int)(a9:Int):Option (T1t):=
(i8 a0 a1 a2 a3 a4 a5 a6 a7).bind λ(x0,x1,x2,x3,x4,x5,_)=>
some (4,x1,x2,x3,x4,x5,a8,a9,())
def E7:X.Cfg:=⟨E0,[r6],[],[]⟩
def sD:Ctr:=⟨123,78,[.agg zae,shU I64,shU CW],[],[⟨yah,[.agg 8],[]⟩],ap10 kO⟩
theorem xI:Lk 2 sD:=ls E7 (aC yX aN)
def gD(a0:Int):Option (Int×Unit):=
bif(decide (a0<0))then(some ((-1),()))else
bif(decide (a0>15))then(some ((-1),()))else
(jV a0).bind λ(x0,_)=>
let x1:=Ax x0;
some (x1,())
def uX:X.Cfg:=⟨E0,[mp],[],[]⟩
def kT:Ctr:=⟨124,79,Xac,[],[⟨Xac,[.one],[]⟩],ap1 gD⟩
theorem oh:Lk 2 kT:=ls uX (aC oV aN)
def j5(a0:List (Int))(a1:Int)(a2:List (Int))(a3:Int)(a4:Int):Option (T0q):=
bif(a3==0)then(some (0,a4,0,0,()))else
bif(a3==2)then(let x0:Int:=(wk .u16 (a4-a1));
some (2,x0,0,0,()))else
let x0:=wk .i64 a4;
(fj a0 a1 a2 x0).bind λ(x1,x2,x3,_)=>
bif x3 then(some (1,0,x1,x2,()))else
let x4:=wk .i64 a4;
some (1,0,(-1),x4,())
def BN:X.Cfg:=⟨E0,[iL],[],[]⟩
def ug:Ctr:=⟨125,80,[.agg Zab,shU RI,.agg Uab],[],[⟨Zaf,[.agg 4],[]⟩],ap5 j5⟩
theorem A9:Lk 2 ug:=ls BN (aC kv aN)
def nu(a0:LDCe)(a1:LDLn)(a2:Int):Option (T03):=
let x0:=w64 (Int.tdiv a2 4);
let x1:=Int.tmod x0 4;
(eq x1).bind λx2=>
(dJ a1 x2).bind λx3=>
bif(x3.1==x0)then(let x4:Int:=(Int.tmod a2 4);
(eq x4).bind λx5=>
(dJ x3.2.2 x5).bind λx6=>
some (x6.1,x6.2,()))else
(eq a2).bind λx4=>
(dJ a0 x4).bind λx5=>
some (x5.1,x5.2,())
def DF:X.Cfg:=⟨E0,[],[],[]⟩
def vW:Ctr:=⟨127,81,[.agg yag,shU I64],[],[⟨Uab,[.agg 2],[]⟩],ap3 nu⟩
theorem C6:Lk 1 vW:=ls DF aN
def iB:T2Y->Option (T2Y⊕(Int×Int×T2U)):=λ(v0,v1,v2,v3,v4,v5,v6,v7,v8,v9,v10,v11,v12,v13,v14,v15,v16,v17,v18,v19,v20,v21,v22,v23,v24,v25,v26,v27,v28,v29,v30,v31,v32,v33,v34,v35,v36,v37,v38,_)=>
bif(decide (v1<v0))then((eq v1).bind λx0=>
(dJ v24 x0).bind λx1=>
(j5 v18 v19 v3 x1.1 x1.2).bind λ(x2,x3,x4,x5,_)=>
let x6:LDCn:=[(x2,(x3,(x4,x5)))];
bif(dW 24 v37.length x6.length)then let x7:LDCn:=(List.append v37 x6);
let x8:=w64 (v1+1);
some (.inl (v0,x8,v2,v3,v4,v5,v6,v7,v8,v9,v10,v11,v12,v13,v14,v15,v16,v17,v18,v19,v20,v21,v22,v23,v24,v25,v26,v27,v28,v29,v30,v31,v32,v33,v34,v35,v36,x7,v38,()))else none)else
some (.inr (v0,v1,false,v2,v3,v4,v5,v6,v7,v8,v9,v10,v11,v12,v13,v14,v15,v16,v17,v18,v19,v20,v21,v22,v23,v24,v25,v26,v27,v28,v29,v30,v31,v32,v33,v34,v35,v36,v37,v38,()))
def iA:T2X->Option (T2X⊕T30):=λ(v0,v1,v2,v3,v4,v5,v6,v7,v8,v9,v10,v11,v12,v13,v14,v15,v16,v17,v18,v19,v20,v21,v22,v23,v24,v25,v26,v27,v28,v29,v30,v31,v32,v33,v34,v35,v36,v37,v38,_)=>
bif(decide (v1<v0))then((dJ v24 1).bind λx0=>
let x1:=wk .i64 x0.2;
let x2:=w64 (x1+v1);
(nu v20 v21 x2).bind λ(x3,x4,_)=>
(j5 v18 v19 v3 x3 x4).bind λ(x5,x6,x7,x8,_)=>
let x9:LDCn:=[(x5,(x6,(x7,x8)))];
bif(dW 24 v38.length x9.length)then let ac:LDCn:=(List.append v38 x9);
let ae:=w64 (v1+1);
some (.inl (v0,ae,v2,v3,v4,v5,v6,v7,v8,v9,v10,v11,v12,v13,v14,v15,v16,v17,v18,v19,v20,v21,v22,v23,v24,v25,v26,v27,v28,v29,v30,v31,v32,v33,v34,v35,v36,v37,ac,()))else none)else
some (.inr (v0,v1,false,v2,v3,v4,v5,v6,v7,v8,v9,v10,v11,v12,v13,v14,v15,v16,v17,v18,v19,v20,v21,v22,v23,v24,v25,v26,v27,v28,v29,v30,v31,v32,v33,v34,v35,v36,v37,v38,()))
def lr(a0:LDIn)(a1:List (Int))(a2:List LI)(a3:List (Int))(a4:Int)(a5:LDCe)(a6:LDLn)(a7:LDTh)(a8:Int)(a9:Int):Option (LI×Int×LDCe×LDLn×LDTh×Int×Int×Int×Int×Int×Int×LDCn×LDCn×Int×Unit):=
(l9 a0 a1 a2 a3 a4 a5 a6 a7 a8 a9).bind λ(x0,x1,x2,x3,x4,x5,x6,_)=>
bif(x6 != 0)then(some ([],0,[],[],[],0,0,0,0,0,0,[],[],x6,()))else
(eq a8).bind λx7=>
(dJ x4 x7).bind λx8=>
(dJ x4 x7).bind λx9=>
(dJ x4 x7).bind λac=>
(match(bif(x5==2)then(some (.inl ((),0,(),(),(),0,0,0,0,0,0,(),(),x0,x1,x2,x3,x4,a8,x5,x9.2.2.2.2.2.2.1,x9.2.2.2.1,x9.2.2.1,0,(),(),())))else
bif(x5==1)then((l8 a0 a1 a2 x0 x1 x2 x3 x4 a8).bind λ(ae,_)=>
bif(ae != 0)then((kO x9.1 ac.2.1 x9.2.2.1 x9.2.2.2.1 x9.2.2.2.2.1 x9.2.2.2.2.2.1 x9.2.2.2.2.2.2.1 x9.2.2.2.2.2.2.2 ae 0).bind λ(af,ag,ah,ai,aj,ak,am,an,_)=>
(eq a8).bind λap=>
(dJ x4 ap).bind λaq=>
(dJ x4 ap).bind λav=>
let ax:=(List.modify x4 ap λe=>(af,(ag,(ah,(ai,(aj,(ak,(am,an))))))));
some (.inl ((),0,(),(),(),0,0,0,0,0,0,(),(),x0,x1,x2,x3,ax,a8,2,ae,x9.2.2.2.1,x9.2.2.1,0,(),(),())))else
let af:=w64 (x9.2.2.1-1);
(eq af).bind λag=>
(dJ a0 ag).bind λah=>
(gD ah.2.2.2.2).bind λ(ai,_)=>
(dY iB NN (ai,0,a0,a1,a2,(),0,(),(),(),0,0,0,0,0,0,(),(),x0,x1,x2,x3,x4,x9.1,ac.2.1,x9.2.2.1,x9.2.2.2.1,x9.2.2.2.2.1,x9.2.2.2.2.2.1,x9.2.2.2.2.2.2.1,x9.2.2.2.2.2.2.2,a8,x5,0,x9.2.2.2.1,x9.2.2.1,ah.2.2.2.2,[],(),())).bind λ(aj,ak,am,an,ap,aq,av,ax,ay,az,aA,aB,aD,aE,aF,aG,aH,aI,aJ,aK,aL,aM,aO,aP,aQ,aR,aS,aT,aU,aV,aW,aY,aZ,ba,bc,bd,bf,bg,bh,bi,_)=>
(g9 bg).bind λ(bj,_)=>
bif(bj==1)then((dJ aR 2).bind λbk=>
let bl:=wk .i64 bk.2;
(dY iA NN (bl,0,an,ap,aq,av,ax,ay,az,aA,aB,aD,aE,aF,aG,aH,aI,aJ,aK,aL,aM,aO,aP,aQ,aR,aS,aT,aU,aV,aW,aY,aZ,ba,bc,bd,bf,bg,bh,[],())).bind λ(bm)=>
some (.inr (.inl (bm))))else
some (.inr (.inr (.inl (false,an,ap,aq,av,ax,ay,az,aA,aB,aD,aE,aF,aG,aH,aI,aJ,aK,aL,aM,aO,aP,aQ,aR,aS,aT,aU,aV,aW,aY,aZ,ba,bc,bd,bf,bg,bh,bi,())))))else
some (.inr (.inr (.inr (a8,false,a0,a1,a2,(),0,(),(),(),0,0,0,0,0,0,(),(),x0,x1,x2,x3,x4,x9.1,ac.2.1,x9.2.2.1,x9.2.2.2.1,x9.2.2.2.2.1,x9.2.2.2.2.2.1,x9.2.2.2.2.2.2.1,x9.2.2.2.2.2.2.2,a8,x5,0,x9.2.2.2.1,x9.2.2.1,0,(),(),())))):Option ((Unit×Int×Unit×Unit×Unit×Int×Int×Int×Int×Int×Int×Unit×Unit×LI×Int×LDCe×LDLn×LDTh×T1o)⊕(T30⊕(T2U⊕(Int×Bool×LDIn×LI×LLI×Unit×Int×Unit×Unit×Unit×Int×Int×Int×Int×Int×Int×Unit×Unit×LI×Int×LDCe×LDLn×LDTh×Int×LDCe×Int×Int×Int×Int×Int×Int×T1o)))))with
|none=>none
|some (.inl (ae,af,ag,ah,ai,aj,ak,am,an,ap,aq,av,ax,ay,az,aA,aB,aD,aE,aF,aG,aH,aI,aJ,aK,aL,_))=>
some (ay,az,aA,aB,aD,aE,aF,aG,aH,aI,aJ,[],[],0,())
|some (.inr (.inl (ae,af,ag,ah,ai,aj,ak,am,an,ap,aq,av,ax,ay,az,aA,aB,aD,aE,aF,aG,aH,aI,aJ,aK,aL,aM,aO,aP,aQ,aR,aS,aT,aU,aV,aW,aY,aZ,ba,bc,_)))=>
some (aF,aG,aH,aI,aJ,aT,aU,aV,aW,aY,aZ,ba,bc,0,())
|some (.inr (.inr (.inl (ae,af,ag,ah,ai,aj,ak,am,an,ap,aq,av,ax,ay,az,aA,aB,aD,aE,aF,aG,aH,aI,aJ,aK,aL,aM,aO,aP,aQ,aR,aS,aT,aU,aV,aW,aY,aZ,_))))=>
some (aD,aE,aF,aG,aH,aR,aS,aT,aU,aV,aW,aY,[],0,())
|some (.inr (.inr (.inr (ae,af,ag,ah,ai,aj,ak,am,an,ap,aq,av,ax,ay,az,aA,aB,aD,aE,aF,aG,aH,aI,aJ,aK,aL,aM,aO,aP,aQ,aR,aS,aT,aU,aV,aW,aY,aZ,ba,_))))=>
some (aE,aF,aG,aH,aI,aS,aT,aU,aV,aW,aY,[],[],0,()))
def Dx:X.Cfg:=⟨E0,[t8,tZ,sD,kT,ug,ja,vW],[],[⟨19,0,qS [zaa 4,zaa 8,zaa 9,zaa 11,zaa 14,zaa 15,Uaa 80,Uaa 81] [(10,zab),(18,uae),(20,zaf),(24,zag),(30,zae),(32,zai)],[(.exit 1,qS [zaa 4,zaa 8,zaa 9,zaa 11,zaa 14,zaa 15,Uaa 80,Uaa 81,Xaa 82] [(10,zab),(18,uae),(20,zaf),(24,zag),(30,zae),(32,zai)])]⟩,⟨26,1,qS [zaa 4,zaa 8,zaa 9,zaa 11,zaa 14,zaa 15,Uaa 109,Uaa 110] [(10,zab),(18,uae),(20,zaf),(24,zag),(30,zae),(32,Uai)],[(.exit 3,qS [zaa 4,zaa 8,zaa 9,zaa 11,zaa 14,zaa 15,Uaa 109,Uaa 110,Xaa 111] [(10,zab),(18,uae),(20,zaf),(24,zag),(30,zae),(32,Uai)])]⟩,⟨7,2,qE,[(.normal,qS [zaa 8,zaa 9,zaa 11,zaa 15] [(18,uae),(20,zaf),(24,zag),(32,zaf)]),(.normal,qS [zaa 4,zaa 8,zaa 9,zaa 11,zaa 14,zaa 15,Uaa 109,Uaa 110,Xaa 111] [(10,zab),(18,uae),(20,zaf),(24,zag),(30,zae),(32,Uai)]),(.normal,qS [zaa 4,zaa 8,zaa 9,zaa 11,zaa 14,zaa 15,Xaa 103] [(10,zab),(18,uae),(20,zaf),(24,zag),(30,zae),(32,zai)]),(.normal,qS [Uaa 2,zaa 4,zaa 8,zaa 9,zaa 11,zaa 14,zaa 15,Xaa 51] [(10,zab),(18,uae),(20,zaf),(24,zag),(30,zae),(32,zaf)])]⟩]⟩
def vU:Ctr:=⟨95,82,[.agg zab,.agg yad,shU I64,shU I64],[],[⟨uL [RI,CW,gp,is,i4,I64,I64,I64,I64,I64,I64,ej,ej,I64],[.agg 5,.agg 8,.one],[]⟩],ap10 lr⟩
theorem C4:Lk 6 vU:=ls Dx (aC AZ (aC AY (aC xI (aC oh (aC A9 (aC ld (aC C6 aN)))))))
def iz:T1N->Option (T1N⊕T1W):=λ(v0,v1,v2,v3,v4,v5,v6,v7,v8,_)=>
bif(decide (v2<v1))then((eq v2).bind λx0=>
(dJ v0 x0).bind λx1=>
bif(dW 8 0 x1.length)then let x2:List (Int):=(List.append [] x1);
bif(dW 24 v8.length (List.length [x2]))then let x3:List LI:=(List.append v8 [x2]);
let x4:=w64 (v2+1);
some (.inl (v0,v1,x4,v3,v4,v5,v6,v7,x3,()))else none else none)else
some (.inr (v0,v1,v2,false,v3,v4,v5,v6,v7,v8,()))
def ln(a0:List (Int))(a1:List LI):Option (T08):=
bif(dW 8 0 a0.length)then let x0:List (Int):=(List.append [] a0);
let x1:=dO a1.length;
(dY iz NN (a1,x1,0,a0,a1,(),(),x0,[],())).bind λ(x2,x3,x4,x5,x6,x7,x8,x9,ac)=>
some (ac)else none
def Du:X.Cfg:=⟨E0,[],[(21,(uaa I64)),(22,(uaa I64))],[(lx 4 0 [zaa 2,zaa 3,sP 11 (yaa RI),Uaa 12,Uaa 13] [(4,Uae),(6,Xab),(8,Xad)] 14)]⟩
def nM:Ctr:=⟨146,83,[.agg Uae],[],[⟨Xad,[.agg 2],[]⟩],ap2 ln⟩
theorem qu:Lk 1 nM:=ls Du aN
def gM(a0:List (Int))(a1:List LI)(a2:Int)(a3:Int):Option (LI×LLI×T02):=
(ln a0 a1).bind λ(x0,x1,_)=>
(bif(decide (a2<0))then(some (a2,true,(),(),x0,x1,()))else
bif(decide (a2>=4))then(some (a2,true,(),(),x0,x1,()))else
(eq a2).bind λx2=>
(dJ a0 x2).bind λx3=>
some (a2,(x3 != a3),(),(),x0,x1,()):Option (T0V)).bind λ(x2,x3,x4,x5,x6,x7,_)=>
bif x3 then(some (x6,x7,(-1),false,()))else
(eq x2).bind λx8=>
(dJ x6 x8).bind λx9=>
(dJ x6 x8).bind λac=>
let ae:=List.modify x6 x8 λe=>(-1);
(eq x2).bind λaf=>
(dJ x7 af).bind λag=>
(dJ x7 af).bind λah=>
(dJ x7 af).bind λai=>
let aj:=dO ai.length;
bif(decide (aj>0))then((eq x2).bind λak=>
(dJ x7 ak).bind λam=>
(dJ x7 ak).bind λan=>
(dJ x7 ak).bind λap=>
(dJ ap 0).bind λaq=>
(dJ x7 ak).bind λav=>
(dJ av 0).bind λax=>
(eq x2).bind λay=>
(dJ ae ay).bind λaz=>
(dJ ae ay).bind λaA=>
let aB:=List.modify ae ay λe=>ax;
(eq x2).bind λaD=>
(dJ x7 aD).bind λaE=>
(dJ x7 aD).bind λaF=>
(dJ x7 aD).bind λaG=>
bif(gY 1 aG.length aG.length)then(dJ x7 aD).bind λaH=>
(eq x2).bind λaI=>
(dJ x7 aI).bind λaJ=>
(dJ x7 aD).bind λaK=>
(dJ x7 aI).bind λaL=>
let aM:=(List.modify x7 aI λe=>(lT aK 1 (Nat.sub aG.length 1)));
(eq x2).bind λaO=>
(dJ aB aO).bind λaP=>
some (aB,aM,aP,true,())else none)else
(eq x2).bind λak=>
(dJ ae ak).bind λam=>
some (ae,x7,am,true,())
def Ds:X.Cfg:=⟨E0,[nM],[],[⟨3,0,qE,[(.normal,qS [Uaa 1,zaa 6,zaa 9,Xaa 26] [(14,Xab),(20,Xad)])]⟩]⟩
def nL:Ctr:=⟨128,84,[.agg Uae,shU I64,shU I64],[],[⟨uL [RI,(yaa RI),I64,.bool],[.agg 2,.one,.one],[]⟩],ap4 gM⟩
theorem qt:Lk 2 nL:=ls Ds (aC qu aN)
def d7(a0:Int)(a1:Bool):Option (T1d):=
(bif(!a1)then(some (65535,0,0,0,0,(),0,false,()))else
some (a0,0,0,0,0,(),0,false,()):Option (Int×T1d)).bind λ(x0,_)=>
let x8:=wk .u16 x0;
some (0,x8,0,0,(),(-1),false,())
def Bn:X.Cfg:=⟨E0,[],[],[⟨1,0,qE,[(.normal,qS [Uaa 0,zaa 4] [(10,Uad)])]⟩]⟩
def kE:Ctr:=⟨147,85,uL [I64,.bool],[],[⟨Uad,[.agg 7],[]⟩],ap2 d7⟩
theorem mj:Lk 1 kE:=ls Bn aN
def mJ:T2g->Option (T2g⊕((Int×T08)⊕(Int×Int×LLI×Int×Int×LI×T1y))):=λ(v0,v1,v2,v3,v4,v5,v6,v7,v8,v9,v10,v11,v12)=>
bif(decide (v7<v6))then((eq v7).bind λx0=>
(dJ v5 x0).bind λx1=>
bif(x1==v1)then(some (.inr (.inl (2,v12))))else
let x2:=w64 (v7+1);
some (.inl (v0,v1,v2,v3,v4,v5,v6,x2,v8,v9,v10,v11,v12)))else
some (.inr (.inr (v0,v1,v2,v3,v4,v5,v6,v7,false,v8,v9,v10,v11,v12)))
def mI:T1Z->Option (T1Z⊕((Int×T08)⊕(Int×Int×T1W))):=λ(v0,v1,v2,v3,v4,v5)=>
bif(decide (v4<v3))then((eq v4).bind λx0=>
(dJ v2 x0).bind λx1=>
let x2:=dO x1.length;
(match dY mJ NN (v0,v1,v2,v3,v4,x1,x2,0,v5)with
|none=>none
|some (.inl (x3,x4,x5,_))=>
some (.inr (.inl (x3,x4,x5,())))
|some (.inr (x3,x4,x5,x6,x7,x8,x9,ac,ae,af))=>
let am:=w64 (x7+1);
some (.inl (x3,x4,x5,x6,am,af))))else
some (.inr (.inr (v0,v1,v2,v3,v4,false,v5)))
def nj(a0:List (Int))(a1:List LI)(a2:Int)(a3:Int):Option (LI×LLI×Int×Unit):=
(ln a0 a1).bind λ(x0,x1,_)=>
(bif(decide (a2<0))then(some (a2,a3,true,a0,a1,(),(),x0,x1,()))else
bif(decide (a2>=4))then(some (a2,a3,true,a0,a1,(),(),x0,x1,()))else
(eq a2).bind λx2=>
(dJ a0 x2).bind λx3=>
some (a2,a3,(x3==a3),a0,a1,(),(),x0,x1,()):Option (T1y)).bind λ(x2,x3,x4,x5,x6,x7,x8,x9,ac,_)=>
bif x4 then(some (x9,ac,2,()))else
let ae:=dO x6.length;
(match dY mI NN (x2,x3,x6,ae,0,x5,x6,x7,x8,x9,ac,())with
|none=>none
|some (.inl (af,ag,ah,_))=>
some (ag,ah,af,())
|some (.inr (af,ag,ah,ai,aj,ak,am,an,ap,aq,av,ax,_))=>
(eq af).bind λay=>
(dJ am ay).bind λaz=>
bif(az==(-1))then((eq af).bind λaA=>
(dJ av aA).bind λaB=>
(dJ av aA).bind λaD=>
let aE:=List.modify av aA λe=>ag;
some (aE,ax,0,()))else
(eq af).bind λaA=>
(dJ ax aA).bind λaB=>
(dJ ax aA).bind λaD=>
(dJ ax aA).bind λaE=>
bif(dW 8 aE.length (List.length [ag]))then let aF:List (Int):=(List.append aE [ag]);
(eq af).bind λaG=>
(dJ ax aG).bind λaH=>
(dJ ax aG).bind λaI=>
bif(Nat.beq aG aA)then let aJ:List LI:=(List.modify ax aG λe=>aF);
some (av,aJ,1,())else none else none)
def Dr:X.Cfg:=⟨E0,[nM],[],[⟨3,0,qE,[(.normal,qS [Uaa 1,Uaa 2,zaa 3,zaa 6,zaa 8,Xaa 29] [(8,Uae),(14,Xab),(18,Xad)])]⟩,⟨13,1,qS [Uaa 1,Uaa 2,zaa 3,zaa 6,zaa 8,sP 32 (yaa RI),Uaa 33,Uaa 34,sP 38 RI,Uaa 39,Uaa 40] [(8,Uae),(14,Xab),(18,Xad)],[(.ret,qS [zaa 6,Uaa 7] [(14,Xad)]),(.exit 2,qS [Uaa 1,Uaa 2,zaa 3,zaa 6,zaa 8,sP 32 (yaa RI),Uaa 33,Uaa 34,sP 38 RI,Uaa 39,Uaa 40,Xaa 41] [(8,Uae),(14,Xab),(18,Xad)])]⟩,⟨7,2,qS [Uaa 1,Uaa 2,zaa 3,zaa 6,zaa 8,sP 32 (yaa RI),Uaa 33,Uaa 34] [(8,Uae),(14,Xab),(18,Xad)],[(.ret,qS [zaa 6,Uaa 7] [(14,Xad)]),(.exit 0,qS [Uaa 1,Uaa 2,zaa 3,zaa 6,zaa 8,sP 32 (yaa RI),Uaa 33,Uaa 34,Xaa 35] [(8,Uae),(14,Xab),(18,Xad)])]⟩]⟩
def vR:Ctr:=⟨148,86,[.agg Uae,shU I64,shU I64],[],[⟨uL [(uaa I64),(uaa (uaa I64)),I64],[.agg 2,.one],[]⟩],ap4 nj⟩
theorem CZ:Lk 2 vR:=ls Dr (aC qu aN)
def jW(a0:Int)(a1:Int)(a2:Int)(a3:Int)(a4:Int)(a5:Int)(a6:LDCn)(a7:LDCn):Option (Bool×Unit):=
bif(decide (a0>=0))then(bif(decide (a0<4))then(bif(decide (a1>=0))then(bif(decide (a1<=3))then(bif(decide (a2>=0))then(bif(decide (a2<=6))then(bif(decide (a3>=0))then(bif(decide (a3<=1099511627776))then(bif(decide (a4>=0))then(bif(decide (a4<=255))then(bif(decide (a5>=0))then(bif(decide (a5<=15))then((fu a6 3).bind λ(x0,_)=>
bif x0 then((fu a7 16).bind λ(x1,_)=>
some (x1,()))else
some (false,()))else
some (false,()))else
some (false,()))else
some (false,()))else
some (false,()))else
some (false,()))else
some (false,()))else
some (false,()))else
some (false,()))else
some (false,()))else
some (false,()))else
some (false,()))else
some (false,())
def Bv:X.Cfg:=⟨E0,[iV],[],[]⟩
def pb:Ctr:=⟨38,87,[.agg yac],[],[⟨uab,[.one],[]⟩],ap8 jW⟩
theorem tB:Lk 3 pb:=ls Bv (aC kt aN)
def pX(a0:Int):Option (Bool×Unit):=
bif(decide (a0>=1))then(bif(decide (a0<=7))then(some (true,()))else
bif(a0==13)then(some (true,()))else
some ((a0==14),()))else
bif(a0==13)then(some (true,()))else
some ((a0==14),())
def Di:X.Cfg:=⟨E0,[],[],[]⟩
def vL:Ctr:=⟨160,88,Xac,[],[⟨uab,[.one],[]⟩],ap1 pX⟩
theorem CR:Lk 1 vL:=ls Di aN
def gW:T26->Option (T26⊕((Bool×Unit)⊕(ByteArray×LDCn×Int×Int×Bool×T1n))):=λ(v0,v1,v2,v3,v4)=>
bif(decide (v3<v2))then((eq v3).bind λx0=>
(dJ v1 x0).bind λx1=>
(eq v3).bind λx2=>
(zM v0 x2).bind λx3=>
(lq x3 x1.1).bind λ(x4,_)=>
bif(!x4)then(some (.inr (.inl (false,()))))else
let x5:=w64 (v3+1);
some (.inl (v0,v1,v2,x5,v4)))else
some (.inr (.inr (v0,v1,v2,v3,false,v4)))
def lZ(a0:Int)(a1:Int)(a2:Int)(a3:Int)(a4:Int)(a5:Int)(a6:LDCn)(a7:LDCn):Option (Bool×Unit):=
(jV a5).bind λ(x0,_)=>
let x1:=Ax x0;
let x2:=dO a6.length;
bif(x1 != x2)then(some (false,()))else
let x3:=dO a6.length;
(match dY gW NN (x0,a6,x3,0,a0,a1,a2,a3,a4,a5,a6,a7,())with
|none=>none
|some (.inl (x4,_))=>
some (x4,())
|some (.inr (x4,_))=>
some (true,()))
def Bw:X.Cfg:=⟨E0,[mp,qL],[],[⟨7,0,qS [sP 3 .str,sP 16 ej,Uaa 17,Uaa 18] [(4,yac)],[(.ret,qS [Xaa 2] []),(.exit 0,qS [sP 3 .str,sP 16 ej,Uaa 17,Uaa 18,Xaa 19] [(4,yac)])]⟩]⟩
def tY:Ctr:=⟨161,89,[.agg yac],[],[⟨uab,[.one],[]⟩],ap8 lZ⟩
theorem AX:Lk 2 tY:=ls Bw (aC oV (aC vv aN))
def gL(a0:List LDCn)(a1:LDOp)(a2:Int):Option (Bool×Unit):=
bif(decide (a2>=0))then(let x0:Int:=(dO a1.length);
bif(decide (a2<x0))then((eq a2).bind λx1=>
(dJ a1 x1).bind λx2=>
some ((x2.1 != (-1)),()))else
some (false,()))else
some (false,())
def Dm:X.Cfg:=⟨E0,[],[],[]⟩
def lB:Ctr:=⟨178,90,[.agg Zac,shU I64],[],[⟨uab,[.one],[]⟩],ap3 gL⟩
theorem nH:Lk 1 lB:=ls Dm aN
def pD:T22->Option (T22⊕(LDCn×Nat×Int×Int×Int×Bool×T18)):=λ(v0,v1,v2,v3,v4,v5,v6,v7,v8,v9,v10,_)=>
bif(decide (v4<v3))then(((dJ v9 v1).bind λx0=>
let x1:=w64 (x0.2.1+v4);
let x2:=dO v10.length;
bif(decide (x1<x2))then((dJ v9 v1).bind λx3=>
let x4:=w64 (x3.2.1+v4);
(eq v4).bind λx5=>
(dJ v0 x5).bind λx6=>
(eq x4).bind λx7=>
(dJ v10 x7).bind λx8=>
(dJ v10 x7).bind λx9=>
let ac:=(List.modify v10 x7 λe=>(x6.1,(x6.2.1,(x6.2.2.1,x6.2.2.2))));
some (v0,v1,v2,v3,v4,v5,v6,v7,v8,v9,ac,()))else
(eq v4).bind λx3=>
(dJ v0 x3).bind λx4=>
let x5:LDCn:=[(x4.1,(x4.2.1,(x4.2.2.1,x4.2.2.2)))];
bif(dW 24 v10.length x5.length)then let x6:LDCn:=(List.append v10 x5);
some (v0,v1,v2,v3,v4,v5,v6,v7,v8,v9,x6,())else none:Option (T22)).bind λ(x0,x1,x2,x3,x4,x5,x6,x7,x8,x9,ac,_)=>
let ae:=w64 (x4+1);
some (.inl (x0,x1,x2,x3,ae,x5,x6,x7,x8,x9,ac,())))else
some (.inr (v0,v1,v2,v3,v4,false,v5,v6,v7,v8,v9,v10,()))
def lX(a0:List LDCn)(a1:LDOp)(a2:Int)(a3:LDCn):Option (LLCn×LDOp×T02):=
(gf a0 a1).bind λ(x0,x1,_)=>
((gL a0 a1 a2).bind λ(x2,_)=>
bif(!x2)then(some (a2,a3,true,(),(),x0,x1,()))else
(eq a2).bind λx3=>
(dJ a1 x3).bind λx4=>
bif(!x4.2.2)then(some (a2,a3,true,(),(),x0,x1,()))else
let x5:=dO a3.length;
(fu a3 x5).bind λ(x6,_)=>
some (a2,a3,(!x6),(),(),x0,x1,()):Option (Int×LDCn×T0I)).bind λ(x2,x3,x4,x5,x6,x7,x8,_)=>
bif x4 then(some (x7,x8,0,false,()))else
(eq x2).bind λx9=>
(dJ x8 x9).bind λac=>
let ae:=dO x3.length;
(dJ x8 x9).bind λaf=>
let ag:=w64 (64-af.2.1);
let ah:=mmR false ae ag;
(dJ x8 x9).bind λai=>
(eq ai.1).bind λaj=>
(dJ x7 aj).bind λak=>
(dJ x7 aj).bind λam=>
(dJ x7 aj).bind λan=>
(dY pD NN (x3,x9,ah,ah,0,x5,x6,x7,aj,x8,an,())).bind λ(ap,aq,av,ax,ay,az,aA,aB,aD,aE,aF,aG,_)=>
(dJ aF aq).bind λaH=>
(eq aH.1).bind λaI=>
(dJ aD aI).bind λaJ=>
(dJ aD aI).bind λaK=>
bif(Nat.beq aI aE)then let aL:List LDCn:=(List.modify aD aI λe=>aG);
(dJ aF aq).bind λaM=>
let aO:=w64 (aM.2.1+av);
(dJ aF aq).bind λaP=>
let aQ:=(List.modify aF aq λe=>(e.1,(aO,e.2.2)));
some (aL,aQ,av,true,())else none
def Bq:X.Cfg:=⟨E0,[iK,lB,iV],[],[⟨3,0,qE,[(.normal,qS [Uaa 1,sP 2 ej,zaa 6,zaa 9,Xaa 35] [(14,Xab),(20,Zad)])]⟩,⟨13,1,qE,[(.normal,(qS [sP 2 ej,zaa 6,zaa 9,(10,.ptr ⟨20,1,[((),(3,0))]⟩ [0,0]),Uaa 11,Zaa 12 27,Uaa 57,Uaa 58] [(14,Xab),(20,[.gap (uaa KCn) () () 0,shU (uaa KOp)]),(27,Zag)]))]⟩,(lx 10 2 [sP 2 ej,zaa 6,zaa 9,(10,.ptr ⟨20,1,[((),(3,0))]⟩ [0,0]),Uaa 11,Zaa 12 27,Uaa 57,Uaa 58] [(14,Xab),(20,[.gap (uaa KCn) () () 0,shU (uaa KOp)]),(27,Zag)] 59)]⟩
def tW:Ctr:=⟨162,91,[.agg Zac,shU I64,shU ej],[],[⟨uL [(uaa (uaa KCn)),(uaa KOp),I64,.bool],[.agg 2,.one,.one],[]⟩],ap4 lX⟩
theorem AV:Lk 3 tW:=ls Bq (aC jD (aC nH (aC kt aN)))
def nh(a0:List LDCn)(a1:LDOp)(a2:Int)(a3:Int):Option ((LLCn×LDOp×Unit×Bool×Unit)⊕(LLCn×LDOp×LDCn×Bool×Unit)):=
(gf a0 a1).bind λ(x0,x1,_)=>
((gL a0 a1 a2).bind λ(x2,_)=>
bif(!x2)then(some (a2,a3,true,a0,a1,(),(),x0,x1,()))else
bif(decide (a3<0))then(some (a2,a3,true,a0,a1,(),(),x0,x1,()))else
(eq a2).bind λx3=>
(dJ a1 x3).bind λx4=>
some (a2,a3,x4.2.2,a0,a1,(),(),x0,x1,()):Option (T1z)).bind λ(x2,x3,x4,x5,x6,x7,x8,x9,ac,_)=>
bif x4 then(some (.inl (x9,ac,(),false,())))else
(eq x2).bind λae=>
(dJ ac ae).bind λaf=>
(dJ ac ae).bind λag=>
(eq ag.1).bind λah=>
(dJ x9 ah).bind λai=>
(dJ x9 ah).bind λaj=>
(dJ x9 ah).bind λak=>
let am:=dO ak.length;
(dJ ac ae).bind λan=>
let ap:=w64 (am-an.2.1);
let aq:=mmR false x3 ap;
(dJ ac ae).bind λav=>
(dJ ac ae).bind λax=>
let ay:=w64 (ax.2.1+aq);
(eq av.2.1).bind λaz=>
(eq ay).bind λaA=>
bif(gY az aA ak.length)then let aB:LDCn:=(lT ak az (Nat.sub aA az));
bif(dW 24 0 aB.length)then let aD:LDCn:=(List.append [] aB);
(dJ ac ae).bind λaE=>
let aF:=w64 (aE.2.1+aq);
(dJ ac ae).bind λaG=>
let aH:=(List.modify ac ae λe=>(e.1,(aF,e.2.2)));
some (.inr (x9,aH,aD,true,()))else none else none
def Do:X.Cfg:=⟨E0,[iK,lB],[],[⟨3,0,qE,[(.normal,qS [Uaa 1,Uaa 2,zaa 6,zaa 9,Xaa 31] [(8,Zac),(14,Xab),(20,Zad)])]⟩]⟩
def vP:Ctr:=⟨163,92,[.agg Zac,shU I64,shU I64],[],[⟨uL [(uaa (uaa KCn)),(uaa KOp),N1,.bool],[.agg 2,.one,.one],[]⟩,⟨uL [(uaa ej),(uaa KOp),(uaa KCn),.bool],[.agg 2,.one,.one],[]⟩],ap4 nh⟩
theorem CX:Lk 2 vP:=ls Do (aC jD (aC nH aN))
def pZ:T1C->Option (T1C⊕(Int×T1z)):=λ(v0,v1,v2,v3,v4,v5)=>
let x0:=dO v4.length;
bif(decide (v2<x0))then((eq v2).bind λx1=>
(dJ v4 x1).bind λx2=>
bif(x2.1 != (-1))then(let x3:Int:=(w64 (v2+1));
some (.inl (v0,v1,x3,v3,v4,v5)))else
some (.inr (v0,v1,v2,false,v3,v4,v5)))else
some (.inr (v0,v1,v2,false,v3,v4,v5))
def pY:T1B->Option (T1B⊕(Int×Int×T1m)):=λ(v0,v1,v2,v3,v4,v5,v6,v7,v8,_)=>
bif(decide (v4<v3))then(((eq v4).bind λx0=>
(dJ v8 x0).bind λx1=>
(dJ v8 x0).bind λx2=>
bif(x2.1==v0)then((eq v4).bind λx3=>
(dJ v8 x3).bind λx4=>
(dJ v8 x3).bind λx5=>
let x6:=(List.modify v8 x3 λe=>(e.1,(0,e.2.2)));
some (v0,v1,v2,v3,v4,v5,v6,v7,x6,()))else
some (v0,v1,v2,v3,v4,v5,v6,v7,v8,()):Option (T1B)).bind λ(x0,x1,x2,x3,x4,x5,x6,x7)=>
let x9:=w64 (x4+1);
some (.inl (x0,x1,x2,x3,x9,x5,x6,x7)))else
some (.inr (v0,v1,v2,v3,v4,false,v5,v6,v7,v8,()))
def ni(a0:List LDCn)(a1:LDOp)(a2:Int)(a3:Int):Option (LLCn×LDOp×Int×Unit):=
(gf a0 a1).bind λ(x0,x1,_)=>
(dY pZ NN (a2,a3,0,a0,a1,(),(),x0,x1,())).bind λ(x2,x3,x4,x5,x6,x7,x8)=>
(bif(decide (x2<0))then(some (x2,x3,x4,true,x8))else
let af:=dO x6.length;
bif(decide (x2>=af))then(some (x2,x3,x4,true,x8))else
bif(decide (x3<0))then(some (x2,x3,x4,true,x8))else
bif(decide (x3>2))then(some (x2,x3,x4,true,x8))else
let ag:=dO x7.length;
some (x2,x3,x4,(x4==ag),x8):Option (T1m)).bind λ(af,ag,ah,ai,aj,ak,am,an,_)=>
bif ai then(some (am,an,(-1),()))else
bif(ag==1)then((eq af).bind λap=>
(dJ am ap).bind λaq=>
(dJ am ap).bind λav=>
let ax:=List.modify am ap λe=>[];
let ay:=dO an.length;
(dY pY NN (af,ag,ah,ay,0,aj,ak,ax,an,())).bind λ(az,aA,aB,aD,aE,aF,aG,aH,aI,aJ,_)=>
(eq aB).bind λaK=>
(dJ aJ aK).bind λaL=>
(dJ aJ aK).bind λaM=>
let aO:=(List.modify aJ aK λe=>(az,(0,(decide (aA>0)))));
(bif(aA==2)then((eq az).bind λaP=>
(dJ aI aP).bind λaQ=>
(dJ aI aP).bind λaR=>
(dJ aI aP).bind λaS=>
let aT:=dO aS.length;
(eq aB).bind λaU=>
(dJ aO aU).bind λaV=>
(dJ aO aU).bind λaW=>
let aY:=(List.modify aO aU λe=>(e.1,(aT,e.2.2)));
some (aB,aG,aH,aI,aY,()))else
some (aB,aG,aH,aI,aO,()):Option (T0N)).bind λ(aP,aQ,aR,aS,aT,_)=>
some (aS,aT,aP,()))else
(eq ah).bind λap=>
(dJ an ap).bind λaq=>
(dJ an ap).bind λav=>
let ax:=(List.modify an ap λe=>(af,(0,(decide (ag>0)))));
(bif(ag==2)then((eq af).bind λay=>
(dJ am ay).bind λaz=>
(dJ am ay).bind λaA=>
(dJ am ay).bind λaB=>
let aD:=dO aB.length;
(eq ah).bind λaE=>
(dJ ax aE).bind λaF=>
(dJ ax aE).bind λaG=>
let aH:=(List.modify ax aE λe=>(e.1,(aD,e.2.2)));
some (ah,aj,ak,am,aH,()))else
some (ah,aj,ak,am,ax,()):Option (T0N)).bind λ(ay,az,aA,aB,aD,_)=>
some (aB,aD,ay,())
def Dp:X.Cfg:=⟨E0,[iK],[],[(lx 4 0 [Uaa 1,Uaa 2,zaa 3,zaa 6,zaa 8,Uaa 9] [(8,Zac),(14,Xab),(18,Zad)] 26),⟨8,1,qE,[(.normal,qS [Uaa 1,Uaa 2,zaa 6,zaa 8,Uaa 9,Xaa 52] [(14,Xab),(18,Zad)])]⟩,⟨17,2,qE,[(.normal,qS [Uaa 1,Uaa 2,zaa 6,zaa 8,Uaa 9,Uaa 62,Uaa 63] [(14,Xab),(18,Zad)])]⟩,⟨14,3,qS [Uaa 1,Uaa 2,zaa 6,zaa 8,Uaa 9,Uaa 62,Uaa 63] [(14,Xab),(18,Zad)],[(.exit 2,qS [Uaa 1,Uaa 2,zaa 6,zaa 8,Uaa 9,Uaa 62,Uaa 63,Xaa 64] [(14,Xab),(18,Zad)])]⟩,⟨21,4,qE,[(.normal,qS [zaa 6,zaa 8,Uaa 9] [(14,Xab),(18,Zad)])]⟩]⟩
def vQ:Ctr:=⟨164,93,[.agg Zac,shU I64,shU I64],[],[⟨Xai,[.agg 2,.one],[]⟩],ap4 ni⟩
theorem CY:Lk 2 vQ:=ls Dp (aC jD aN)
def lY(a0:List LDCn)(a1:LDOp)(a2:Int):Option (LLCn×LDOp×Bool×Unit):=
(gf a0 a1).bind λ(x0,x1,_)=>
(gL a0 a1 a2).bind λ(x2,_)=>
bif(!x2)then(some (x0,x1,false,()))else
(eq a2).bind λx3=>
(dJ x1 x3).bind λx4=>
(dJ x1 x3).bind λx5=>
let x6:=(List.modify x1 x3 λe=>((-1),(0,false)));
some (x0,x6,true,())
def Bs:X.Cfg:=⟨E0,[iK,lB],[],[]⟩
def tX:Ctr:=⟨165,94,[.agg Zac,shU I64],[],[⟨uaj,[.agg 2,.one],[]⟩],ap3 lY⟩
theorem AW:Lk 2 tX:=ls Bs (aC jD (aC nH aN))
def ng(a0:List LDCn)(a1:LDOp)(a2:Int)(a3:Int):Option (LLCn×LDOp×Bool×Unit):=
(gf a0 a1).bind λ(x0,x1,_)=>
((gL a0 a1 a2).bind λ(x2,_)=>
bif(!x2)then(some (a2,a3,true,(),(),x0,x1,()))else
bif(decide (a3<0))then(some (a2,a3,true,(),(),x0,x1,()))else
(eq a2).bind λx3=>
(dJ a1 x3).bind λx4=>
(eq x4.1).bind λx5=>
(dJ a0 x5).bind λx6=>
let x7:=dO x6.length;
some (a2,a3,(decide (a3>x7)),(),(),x0,x1,()):Option (T1a)).bind λ(x2,x3,x4,x5,x6,x7,x8,_)=>
bif x4 then(some (x7,x8,false,()))else
(eq x2).bind λx9=>
(dJ x8 x9).bind λac=>
(dJ x8 x9).bind λae=>
let af:=(List.modify x8 x9 λe=>(e.1,(x3,e.2.2)));
some (x7,af,true,())
def Dn:X.Cfg:=⟨E0,[iK,lB],[],[⟨3,0,qE,[(.normal,qS [Uaa 1,Uaa 2,zaa 6,zaa 8,Xaa 33] [(14,Xab),(18,Zad)])]⟩]⟩
def vO:Ctr:=⟨166,95,[.agg Zac,shU I64,shU I64],[],[⟨uaj,[.agg 2,.one],[]⟩],ap4 ng⟩
theorem CV:Lk 2 vO:=ls Dn (aC jD (aC nH aN))
def jx(a0:LDOu)(a1:Int)(a2:LDCn):Option (LDOu×T02):=
(iw a0).bind λ(x0,_)=>
(bif(decide (a1<0))then(some (a0,a1,a2,true,x0,()))else
bif(decide (a1>=2))then(some (a0,a1,a2,true,x0,()))else
let x1:=dO a0.length;
bif(decide (x1>=200))then(some (a0,a1,a2,true,x0,()))else
let x2:=dO a2.length;
some (a0,a1,a2,(decide (x2>16)),x0,()):Option (LDOu×Int×LDCn×T00)).bind λ(x1,x2,x3,x4,x5,_)=>
bif x4 then(some (x5,0,false,()))else
let x6:=dO x1.length;
bif(dW 24 0 x3.length)then let x7:LDCn:=(List.append [] x3);
let x8:LDOu:=[(x6,(x2,x7))];
bif(dW 40 x5.length x8.length)then let x9:LDOu:=(List.append x5 x8);
let ac:=dO x3.length;
some (x9,ac,true,())else none else none
def Dj:X.Cfg:=⟨E0,[qI],[(36,vg),(37,vg)],[⟨3,0,qE,[(.normal,qS [sP 0 iM,Uaa 1,sP 2 ej,Zaa 9 21,Xaa 27] [(21,yaf)])]⟩]⟩
def vM:Ctr:=⟨167,96,uL [iM,I64,ej],[],[⟨yaj,[.one,.one,.one],[]⟩],ap3 jx⟩
theorem CS:Lk 2 vM:=ls Dj (aC vq aN)
def ge:T1f->Option (T1f⊕(Int×Int×LI×Int×Int×Bool×LLI×LDCn×Unit)):=λ(v0,v1,v2,v3,v4,v5,v6,_)=>
bif(decide (v4<v3))then((eq v4).bind λx0=>
(dJ v2 x0).bind λx1=>
let x2:LDCn:=[(0,(x1,(0,0)))];
bif(dW 24 v6.length x2.length)then let x3:LDCn:=(List.append v6 x2);
let x4:=w64 (v4+1);
some (.inl (v0,v1,v2,v3,x4,v5,x3,()))else none)else
some (.inr (v0,v1,v2,v3,v4,false,v5,v6,()))
def jQ(a0:List LI)(a1:Int)(a2:Int):Option ((LLI×Unit×Bool×Unit)⊕(LLI×LDCn×Bool×Unit)):=
(fJ a0).bind λ(x0,_)=>
(bif(decide (a1<0))then(some (a0,a1,a2,true,x0,()))else
let x1:=dO a0.length;
bif(decide (a1>=x1))then(some (a0,a1,a2,true,x0,()))else
some (a0,a1,a2,(decide (a2<0)),x0,()):Option (LLI×Int×Int×Bool×LLI×Unit)).bind λ(x1,x2,x3,x4,x5,_)=>
bif x4 then(some (.inl (x5,(),false,())))else
(eq x2).bind λx6=>
(dJ x1 x6).bind λx7=>
let x8:=dO x7.length;
let x9:=mmR false x3 x8;
(eq x2).bind λac=>
(dJ x1 ac).bind λae=>
(eq x9).bind λaf=>
bif(gY 0 af ae.length)then let ag:List (Int):=(lT ae 0 (Nat.sub af 0));
let ah:=dO ag.length;
(dY ge NN (x2,x9,ag,ah,0,x5,[],())).bind λ(ai,aj,ak,am,an,ap,aq,av,_)=>
(eq ai).bind λax=>
(dJ aq ax).bind λay=>
(dJ aq ax).bind λaz=>
(dJ aq ax).bind λaA=>
(eq aj).bind λaB=>
bif(gY aB aA.length aA.length)then(dJ aq ax).bind λaD=>
(eq ai).bind λaE=>
(dJ aq aE).bind λaF=>
(dJ aq ax).bind λaG=>
(dJ aq aE).bind λaH=>
let aI:=(List.modify aq aE λe=>(lT aG aB (Nat.sub aA.length aB)));
some (.inr (aI,av,true,()))else none else none
def xU:X.Cfg:=⟨E0,[io],[],[⟨3,0,qE,[(.normal,qS [sP 0 (yaa RW),Uaa 1,Uaa 2,Zaa 9 21,Xaa 27] [(21,Zah)])]⟩,(lx 9 1 [Uaa 1,Zaa 9 21,Uaa 10,Zaa 11 25,sP 41 RW,Uaa 42,Uaa 43] [(21,Zah),(25,Zag)] 44)]⟩
def qG:Ctr:=⟨168,97,uL [(yaa RW),I64,I64],[],[⟨uL [(uaa (uaa CW)),N1,.bool],[.one,.one,.one],[]⟩,⟨uL [(uaa RW),(uaa KCn),.bool],[.one,.one,.one],[]⟩],ap3 jQ⟩
theorem xE:Lk 2 qG:=ls xU (aC ko aN)
def oH:T2R->Option (T2R⊕(LDCn×Int×Int×Bool×T2L)):=λ(v0,v1,v2,v3,v4,v5,v6,v7,v8,v9,v10,v11,v12,v13,v14,v15,v16,v17,v18,v19,v20,v21,v22,v23,v24,v25,v26,v27,v28,v29,v30,v31,v32,v33,v34,v35,v36,_)=>
bif(decide (v2<v1))then((eq v2).bind λx0=>
(dJ v0 x0).bind λx1=>
let x2:=wk .i64 x1.2.1;
(eq v2).bind λx3=>
(dJ v36 x3).bind λx4=>
(dJ v36 x3).bind λx5=>
let x6:=List.modify v36 x3 λe=>x2;
let x7:=w64 (v2+1);
some (.inl (v0,v1,x7,v3,v4,v5,v6,v7,v8,v9,v10,v11,v12,v13,v14,v15,v16,v17,v18,v19,v20,v21,v22,v23,v24,v25,v26,v27,v28,v29,v30,v31,v32,v33,v34,v35,x6,())))else
some (.inr (v0,v1,v2,false,v3,v4,v5,v6,v7,v8,v9,v10,v11,v12,v13,v14,v15,v16,v17,v18,v19,v20,v21,v22,v23,v24,v25,v26,v27,v28,v29,v30,v31,v32,v33,v34,v35,v36,()))
def kL(a0:List (Int))(a1:List (Int))(a2:List LI)(a3:List LDCn)(a4:LDOp)(a5:LDOu)(a6:Int)(a7:Int)(a8:Int)(a9:Int)(a10:Int)(a11:Int)(a12:LDCn)(a13:LDCn):Option (LI×LI×LLI×LLCn×LDOp×LDOu×Int×Int×Int×Int×LDCn×Int×Bool×Int×Unit):=
((iQ a0 a1 a2 a3 a4 a5).bind λ(x0,_)=>
bif(!x0)then(some (true,a0,a1,a2,a3,a4,a5,a6,a7,a8,a9,a10,a11,a12,a13,(),(),(),(),(),(),0,0,0,0,(),0,false,()))else
(jW a6 a7 a8 a9 a10 a11 a12 a13).bind λ(x1,_)=>
bif(!x1)then(some (true,a0,a1,a2,a3,a4,a5,a6,a7,a8,a9,a10,a11,a12,a13,(),(),(),(),(),(),0,0,0,0,(),0,false,()))else
bif(a7 != 1)then(some (true,a0,a1,a2,a3,a4,a5,a6,a7,a8,a9,a10,a11,a12,a13,(),(),(),(),(),(),0,0,0,0,(),0,false,()))else
(pX a11).bind λ(x2,_)=>
bif(!x2)then(some (true,a0,a1,a2,a3,a4,a5,a6,a7,a8,a9,a10,a11,a12,a13,(),(),(),(),(),(),0,0,0,0,(),0,false,()))else
(lZ a6 a7 a8 a9 a10 a11 a12 a13).bind λ(x3,_)=>
bif(!x3)then(some (true,a0,a1,a2,a3,a4,a5,a6,a7,a8,a9,a10,a11,a12,a13,(),(),(),(),(),(),0,0,0,0,(),0,false,()))else
(g9 a11).bind λ(x4,_)=>
bif(x4==2)then((dJ a12 2).bind λx5=>
some ((decide (x5.2.1>16)),a0,a1,a2,a3,a4,a5,a6,a7,a8,a9,a10,a11,a12,a13,(),(),(),(),(),(),0,0,0,0,(),0,false,()))else
some (false,a0,a1,a2,a3,a4,a5,a6,a7,a8,a9,a10,a11,a12,a13,(),(),(),(),(),(),0,0,0,0,(),0,false,()):Option (Bool×LI×LI×LLI×LLCn×LDOp×LDOu×Int×Int×Int×Int×Int×Int×LDCn×LDCn×Unit×Unit×Unit×Unit×Unit×Unit×T1d)).bind λ(x0,x1,x2,x3,x4,x5,x6,x7,x8,x9,ac,ae,af,ag,ah,ai,aj,ak,am,an,ap,aq,av,ax,ay,az,aA,aB,_)=>
bif x0 then(some ([],[],[],[],[],[],0,0,0,0,[],0,false,1,()))else
(nc x1 x2 x3 x4 x5 x6).bind λ(aD,aE,aF,aG,aH,aI,_)=>
let aJ:List (Int):=[0,0,0];
let aK:=dO ag.length;
(dY oH NN (ag,aK,0,x1,x2,x3,x4,x5,x6,x7,x8,x9,ac,ae,af,ag,ah,ai,aj,ak,am,an,ap,aq,av,ax,ay,az,aA,aB,aD,aE,aF,aG,aH,aI,aJ,())).bind λ(aL,aM,aO,aP,aQ,aR,aS,aT,aU,aV,aW,aY,aZ,ba,bc,bd,bf,bg,bh,bi,bj,bk,bl,bm,bn,bo,bp,bq,bt,bv,bx,bz,bA,bB,bC,bD,bE,bF,_)=>
(d7 0 false).bind λ(bG,bH,bI,bJ,bK)=>
(match(bif(bd==1)then((dJ bF 0).bind λbN=>
(dJ bF 0).bind λbO=>
(lX aT aU bO bg).bind λ(bP,bQ,bR,bS,_)=>
(d7 bR bS).bind λ(bT,bU,bV,bW,bY,bZ,b8,_)=>
some (.inl (bh,bi,bj,bk,bl,bm,bn,bo,bp,bq,bt,bv,bx,bz,bA,bB,bP,bQ,bE,bT,bU,bV,bW,[],bZ,b8,())))else
bif(bd==2)then((dJ bF 0).bind λbN=>
(dJ bF 0).bind λbO=>
(dJ bF 2).bind λbP=>
(dJ bF 2).bind λbQ=>
(match nh aT aU bO bQ with
|none=>none
|some (.inl (bR,bS,bT,bU,_))=>
(d7 0 bU).bind λ(bV,bW,bY,bZ,b8,b9,ca,_)=>
some (.inl (bh,bi,bj,bk,bl,bm,bn,bo,bp,bq,bt,bv,bx,bz,bA,bB,bR,bS,bE,bV,bW,bY,bZ,[],b9,ca,()))
|some (.inr (bR,bS,bT,bU,_))=>
let bV:=dO bT.length;
(d7 bV bU).bind λ(bW,bY,bZ,b8,b9,ca,cc,_)=>
some (.inl (bh,bi,bj,bk,bl,bm,bn,bo,bp,bq,bt,bv,bx,bz,bA,bB,bR,bS,bE,bW,bY,bZ,b8,bT,ca,cc,()))))else
bif(bd==3)then((dJ bF 0).bind λbN=>
(dJ bF 0).bind λbO=>
(dJ bF 1).bind λbP=>
(dJ bF 1).bind λbQ=>
(ni aT aU bO bQ).bind λ(bR,bS,bT,_)=>
bif(decide (bT>=0))then(let bU:Int:=(wk .u16 bT);
some (.inr (.inl (bh,bi,bj,bk,bl,bm,bn,bo,bp,bq,bt,bv,bx,bz,bA,bB,bR,bS,bE,2,bU,0,0,bK))))else
some (.inr (.inl (bh,bi,bj,bk,bl,bm,bn,bo,bp,bq,bt,bv,bx,bz,bA,bB,bR,bS,bE,bG,bH,bI,bJ,bK))))else
bif(bd==4)then((dJ bF 0).bind λbN=>
(dJ bF 0).bind λbO=>
(lY aT aU bO).bind λ(bP,bQ,bR,_)=>
(d7 0 bR).bind λ(bS,bT,bU,bV,bW,bY,bZ,_)=>
some (.inl (bh,bi,bj,bk,bl,bm,bn,bo,bp,bq,bt,bv,bx,bz,bA,bB,bP,bQ,bE,bS,bT,bU,bV,[],bY,bZ,())))else
bif(bd==5)then((dJ bF 0).bind λbN=>
(dJ bF 0).bind λbO=>
(dJ bF 1).bind λbP=>
(dJ bF 1).bind λbQ=>
(ng aT aU bO bQ).bind λ(bR,bS,bT,_)=>
(d7 0 bT).bind λ(bU,bV,bW,bY,bZ,b8,b9,_)=>
some (.inl (bh,bi,bj,bk,bl,bm,bn,bo,bp,bq,bt,bv,bx,bz,bA,bB,bR,bS,bE,bU,bV,bW,bY,[],b8,b9,())))else
bif(bd==6)then(let bN:Int:=(dO aQ.length);
bif(decide (bN>0))then((dJ aQ 0).bind λbO=>
let bP:=wk .i64 bO;
(d7 bP true).bind λ(bQ,bR,bS,bT,bU,bV,bW,_)=>
bif(gY 1 bz.length bz.length)then let bY:List (Int):=(lT bz 1 (Nat.sub bz.length 1));
some (.inr (.inr (.inl (bh,bi,bj,bk,bl,bm,bn,bo,bp,bq,bt,bv,bx,bY,bA,bB,bC,bD,bE,bQ,bR,bS,bT,bU,bV,bW,()))))else none)else
some (.inr (.inl (bh,bi,bj,bk,bl,bm,bn,bo,bp,bq,bt,bv,bx,bz,bA,bB,bC,bD,bE,bG,bH,bI,bJ,bK))))else
bif(bd==7)then(let bN:Int:=(dO aR.length);
bif(decide (bN>0))then((dJ aR 0).bind λbO=>
let bP:=wk .i64 bO;
(d7 bP true).bind λ(bQ,bR,bS,bT,bU,bV,bW,_)=>
bif(gY 1 bA.length bA.length)then let bY:List (Int):=(lT bA 1 (Nat.sub bA.length 1));
some (.inr (.inr (.inr (.inl (bh,bi,bj,bk,bl,bm,bn,bo,bp,bq,bt,bv,bx,bz,bY,bB,bC,bD,bE,bQ,bR,bS,bT,bU,bV,bW,())))))else none)else
some (.inr (.inl (bh,bi,bj,bk,bl,bm,bn,bo,bp,bq,bt,bv,bx,bz,bA,bB,bC,bD,bE,bG,bH,bI,bJ,bK))))else
bif(bd==13)then((dJ bF 0).bind λbN=>
(dJ bF 0).bind λbO=>
(jx aV bO bg).bind λ(bP,bQ,bR,_)=>
(d7 bQ bR).bind λ(bS,bT,bU,bV,bW,bY,bZ,_)=>
some (.inr (.inl (bh,bi,bj,bk,bl,bm,bn,bo,bp,bq,bt,bv,bx,bz,bA,bB,bC,bD,bP,bS,bT,bU,bV,bW,bY,bZ,()))))else
bif(bd==14)then((dJ bF 0).bind λbN=>
(dJ bF 0).bind λbO=>
(dJ bF 2).bind λbP=>
(dJ bF 2).bind λbQ=>
(match jQ aS bO bQ with
|none=>none
|some (.inl (bR,bS,bT,_))=>
(d7 0 bT).bind λ(bU,bV,bW,bY,bZ,b8,b9,_)=>
some (.inr (.inl (bh,bi,bj,bk,bl,bm,bn,bo,bp,bq,bt,bv,bx,bz,bA,bR,bC,bD,bE,bU,bV,bW,bY,bS,b8,b9,())))
|some (.inr (bR,bS,bT,_))=>
let bU:=dO bS.length;
(d7 bU bT).bind λ(bV,bW,bY,bZ,b8,b9,ca,_)=>
some (.inr (.inr (.inr (.inr (bh,bi,bj,bk,bl,bm,bn,bo,bp,bq,bt,bv,bx,bz,bA,bR,bC,bD,bE,bV,bW,bY,bZ,bS,b9,ca,())))))))else
some (.inr (.inl (bh,bi,bj,bk,bl,bm,bn,bo,bp,bq,bt,bv,bx,bz,bA,bB,bC,bD,bE,bG,bH,bI,bJ,bK))):Option (T2F⊕(T2G⊕(T2G⊕(T2G⊕T2F)))))with
|none=>none
|some (.inl (bN,bO,bP,bQ,bR,bS,bT,bU,bV,bW,bY,bZ,b8,b9,ca,cc,cd,cf,cg,ch,ci,cj,cl,cn,cq,cr,_))=>
some (b9,ca,cc,cd,cf,cg,ch,ci,cj,cl,cn,cq,cr,0,())
|some (.inr (.inl (bN,bO,bP,bQ,bR,bS,bT,bU,bV,bW,bY,bZ,b8,b9,ca,cc,cd,cf,cg,ch,ci,cj,cl,cn,cq,cr,_)))=>
some (b9,ca,cc,cd,cf,cg,ch,ci,cj,cl,[],cq,cr,0,())
|some (.inr (.inr (.inl (bN,bO,bP,bQ,bR,bS,bT,bU,bV,bW,bY,bZ,b8,b9,ca,cc,cd,cf,cg,ch,ci,cj,cl,cn,cq,cr,_))))=>
some (b9,ca,cc,cd,cf,cg,ch,ci,cj,cl,[],cq,cr,0,())
|some (.inr (.inr (.inr (.inl (bN,bO,bP,bQ,bR,bS,bT,bU,bV,bW,bY,bZ,b8,b9,ca,cc,cd,cf,cg,ch,ci,cj,cl,cn,cq,cr,_)))))=>
some (b9,ca,cc,cd,cf,cg,ch,ci,cj,cl,[],cq,cr,0,())
|some (.inr (.inr (.inr (.inr (bN,bO,bP,bQ,bR,bS,bT,bU,bV,bW,bY,bZ,b8,b9,ca,cc,cd,cf,cg,ch,ci,cj,cl,cn,cq,cr,_)))))=>
some (b9,ca,cc,cd,cf,cg,ch,ci,cj,cl,cn,cq,cr,0,()))
def HR:X.Cfg:=⟨E0,[mo,pb,vL,tY,ja,qF,kE,tW,vP,vQ,tX,vO,vM,qG],[],[⟨2,0,qE,[(.normal,qS [zaa 2,zaa 3,zaa 4,zaa 5,Xaa 67] [(6,uaf),(8,yac),(10,Xag),(12,Uad)])]⟩,(lx 8 1 [zaa 2,zaa 3,zaa 4,zaa 5,zaa 7,Zaa 8 19,sP 74 ej,Uaa 75,Uaa 76] [(6,uaf),(8,yac),(10,Xag),(12,Uad),(16,yai),(19,uac)] 77),⟨14,2,qE,[(.normal,(qS [zaa 4,zaa 5,zaa 7,zaa 11] [(10,Xag),(12,Uad),(16,uL [(uaa CW),(uaa CW),(uaa (uaa CW)),(yaa ej),ia,(uaa vg)]),(24,zaj)])),(.normal,qS [zaa 4,zaa 5,zaa 7,zaa 11] [(10,Xag),(12,Uad),(16,yai),(24,Uad)]),(.normal,(qS [zaa 4,zaa 5,zaa 7,zaa 11] [(10,Xag),(12,Uad),(16,uL [RW,(uaa CW),(uaa (uaa CW)),(uaa (uaa KCn)),(uaa KOp),(uaa vg)]),(24,Uad)])),(.normal,(qS [zaa 4,zaa 5,zaa 7,zaa 11] [(10,Xag),(12,Uad),(16,uL [(uaa CW),RW,(uaa (uaa CW)),(uaa (uaa KCn)),(uaa KOp),(uaa vg)]),(24,Uad)])),(.normal,(qS [zaa 4,zaa 5,zaa 7,zaa 11] [(10,Xag),(12,Uad),(16,uL [(uaa CW),(uaa CW),(uaa RW),(uaa (uaa KCn)),(uaa KOp),(uaa vg)]),(24,zaj)]))]⟩]⟩
def An:Ctr:=⟨149,98,[.agg uaf,.agg yac],[],[⟨uL [RW,RW,(yaa RW),(yaa ej),ia,iM,CB,CW,I64,I64,ej,I64,.bool,I64],[.agg 6,.agg 7,.one],[]⟩],ap14 kL⟩
theorem HJ:Lk 5 An:=ls HR (aC oU (aC tB (aC CR (aC AX (aC ld (aC vp (aC mj (aC AV (aC CX (aC CY (aC AW (aC CV (aC CS (aC xE aN))))))))))))))
def jN:T2I->Option (T2I⊕(T2B⊕(LDTh×Int×Int×Bool×T2B))):=λ(v0,v1,v2,v3,v4,v5,v6,v7,v8,v9,v10,v11,v12,v13,v14,v15,v16,v17,v18,v19,v20,v21)=>
bif(decide (v2<v1))then((eq v2).bind λx0=>
(dJ v0 x0).bind λx1=>
bif(x1.1==0)then((d7 v2 true).bind λ(x2,x3,x4,x5,x6,x7,x8,_)=>
some (.inr (.inl (v3,v4,v5,v6,v7,v8,v9,v10,v11,v12,v13,v14,v15,v16,v17,v18,v19,v20,x2,x3,x4,x5,x6,v2,x8,()))))else
let x2:=w64 (v2+1);
some (.inl (v0,v1,x2,v3,v4,v5,v6,v7,v8,v9,v10,v11,v12,v13,v14,v15,v16,v17,v18,v19,v20,v21)))else
some (.inr (.inr (v0,v1,v2,false,v3,v4,v5,v6,v7,v8,v9,v10,v11,v12,v13,v14,v15,v16,v17,v18,v19,v20,v21)))
def jO(a0:Int)(a1:Int)(a2:Int)(a3:Int)(a4:Int)(a5:Int)(a6:LDCn)(a7:LDCn)(a8:LDIn)(a9:List (Int))(a10:List LI)(a11:List (Int))(a12:Int)(a13:LDCe)(a14:LDLn)(a15:LDTh)(a16:List (Int))(a17:List (Int))(a18:List LI)(a19:List LDCn)(a20:LDOp)(a21:LDOu)(a22:List (Int))(a23:List LI)(a24:LDEn)(a25:List (Int)):Option (Int×Int×Int×Int×LDCn×T2u):=
(bif(a5==0)then(some (a5,true,a8,a9,a10,a11,a12,a13,a14,a15,a16,a17,a18,a19,a20,a21,a22,a23,a24,a25,a0,a1,a2,a3,a4,a5,a6,a7,0,0,0,0,(),0,false,()))else
bif(a5==12)then(some (a5,true,a8,a9,a10,a11,a12,a13,a14,a15,a16,a17,a18,a19,a20,a21,a22,a23,a24,a25,a0,a1,a2,a3,a4,a5,a6,a7,0,0,0,0,(),0,false,()))else
some (a5,(a5==15),a8,a9,a10,a11,a12,a13,a14,a15,a16,a17,a18,a19,a20,a21,a22,a23,a24,a25,a0,a1,a2,a3,a4,a5,a6,a7,0,0,0,0,(),0,false,()):Option (T2M)).bind λ(x0,x1,x2,x3,x4,x5,x6,x7,x8,x9,ac,ae,af,ag,ah,ai,aj,ak,am,an,ap,aq,av,ax,ay,az,aA,aB,aD)=>
bif x1 then((d7 0 true).bind λ(aK,aL,aM,aO,aP,aQ,aR,_)=>
some (aK,aL,aM,aO,[],aQ,aR,x2,x3,x4,x5,x6,x7,x8,x9,ac,ae,af,ag,ah,ai,aj,ak,am,an,()))else
bif(x0==8)then((dJ aA 0).bind λaK=>
let aL:=wk .i64 aK.2.1;
(nj aj ak aL ap).bind λ(aM,aO,aP,_)=>
(d7 0 (aP != 2)).bind λ(aQ,aR,aS,aT,aU,aV,aW,_)=>
some (aQ,aR,aS,aT,[],aV,(aP==1),x2,x3,x4,x5,x6,x7,x8,x9,ac,ae,af,ag,ah,ai,aM,aO,am,an,()))else
bif(x0==9)then((dJ aA 0).bind λaK=>
let aL:=wk .i64 aK.2.1;
(gM aj ak aL ap).bind λ(aM,aO,aP,aQ,_)=>
(d7 0 aQ).bind λ(aR,aS,aT,aU,aV,aW,aY,_)=>
some (aR,aS,aT,aU,[],aW,aY,x2,x3,x4,x5,x6,x7,x8,x9,ac,ae,af,ag,ah,ai,aM,aO,am,an,()))else
bif(x0==10)then(let aK:Int:=(dO x9.length);
(match dY jN NN (x9,aK,0,x2,x3,x4,x5,x6,x7,x8,x9,ac,ae,af,ag,ah,ai,aj,ak,am,an,aD)with
|none=>none
|some (.inl (aL,aM,aO,aP,aQ,aR,aS,aT,aU,aV,aW,aY,aZ,ba,bc,bd,bf,bg,bh,bi,bj,bk,bl,bm,bn,_))=>
some (bh,bi,bj,bk,[],bm,bn,aL,aM,aO,aP,aQ,aR,aS,aT,aU,aV,aW,aY,aZ,ba,bc,bd,bf,bg,())
|some (.inr (aL,aM,aO,aP,aQ,aR,aS,aT,aU,aV,aW,aY,aZ,ba,bc,bd,bf,bg,bh,bi,bj,bk,bl,bm,bn,bo,bp,bq,bt,_))=>
(d7 0 false).bind λ(bv,bx,bz,bA,bB,bC,bD,_)=>
some (bv,bx,bz,bA,[],bC,bD,aQ,aR,aS,aT,aU,aV,aW,aY,aZ,ba,bc,bd,bf,bg,bh,bi,bj,bk,())))else
bif(x0==11)then((dJ aA 0).bind λaK=>
let aL:=wk .i64 aK.2.1;
(bif(aL==ap)then(some (aL,true,x2,x3,x4,x5,x6,x7,x8,x9,ac,ae,af,ag,ah,ai,aj,ak,am,an,ap,aq,av,ax,ay,az,aA,aB,aD))else
bif(decide (aL>=4))then(some (aL,true,x2,x3,x4,x5,x6,x7,x8,x9,ac,ae,af,ag,ah,ai,aj,ak,am,an,ap,aq,av,ax,ay,az,aA,aB,aD))else
(eq aL).bind λaM=>
(dJ x9 aM).bind λaO=>
some (aL,(aO.1==0),x2,x3,x4,x5,x6,x7,x8,x9,ac,ae,af,ag,ah,ai,aj,ak,am,an,ap,aq,av,ax,ay,az,aA,aB,aD):Option (T2M)).bind λ(aM,aO,aP,aQ,aR,aS,aT,aU,aV,aW,aY,aZ,ba,bc,bd,bf,bg,bh,bi,bj,bk,bl,bm,bn,bo,bp,bq,bt,bv,bx,bz,bA,bB,bC,bD,_)=>
bif aO then((d7 0 false).bind λ(bE,bF,bG,bH,bI,bJ,bK,_)=>
some (bE,bF,bG,bH,[],bJ,bK,aP,aQ,aR,aS,aT,aU,aV,aW,aY,aZ,ba,bc,bd,bf,bg,bh,bi,bj,()))else
(eq aM).bind λbE=>
(dJ aW bE).bind λbF=>
bif(bF.1==4)then(let bG:Int:=(wk .i64 bF.2.2.2.2.2.2.2);
(d7 bG true).bind λ(bH,bI,bJ,bK,bL,bM,bN,_)=>
some (bH,bI,bJ,bK,[],bM,bN,aP,aQ,aR,aS,aT,aU,aV,aW,aY,aZ,ba,bc,bd,bf,bg,bh,bi,bj,()))else
(eq bk).bind λbG=>
(dJ bj bG).bind λbH=>
(dJ bj bG).bind λbI=>
let bJ:=List.modify bj bG λe=>aM;
(d7 0 true).bind λ(bK,bL,bM,bN,bO,bP,bQ,_)=>
some (bK,bL,bM,bN,[],bP,true,aP,aQ,aR,aS,aT,aU,aV,aW,aY,aZ,ba,bc,bd,bf,bg,bh,bi,bJ,()))else
(kL ac ae af ag ah ai ap aq av ax ay az aA aB).bind λ(aK,aL,aM,aO,aP,aQ,aR,aS,aT,aU,aV,aW,aY,aZ,_)=>
some (aR,aS,aT,aU,aV,aW,aY,x2,x3,x4,x5,x6,x7,x8,x9,aK,aL,aM,aO,aP,aQ,aj,ak,am,an,())
def xT:X.Cfg:=⟨E0,[kE,vR,nL,An],[],[⟨3,0,qE,[(.normal,qS [zaa 0,zaa 3,zaa 4,Uaa 21,Xaa 22] [(2,zac),(8,yac),(10,Uad)])]⟩,⟨20,1,qS [zaa 0,zaa 4,sP 87 i4,Uaa 88,Uaa 89] [(2,zac),(10,Uad)],[(.ret,qS [zaa 0,zaa 4] [(2,zac),(10,Uad)]),(.exit 1,qS [zaa 0,zaa 4,sP 87 i4,Uaa 88,Uaa 89,Xaa 90] [(2,zac),(10,Uad)])]⟩,⟨33,2,qE,[(.normal,qS [zaa 0,zaa 3,zaa 4,Uaa 14,Xaa 131] [(2,zac),(8,yac),(10,Uad)])]⟩]⟩
def qD:Ctr:=⟨129,99,[.ptr ⟨2,0,[]⟩ [0],.agg yac],[(2,zac)],[⟨yae,[.agg 7],[(2,zac)]⟩],ap26 jO⟩
theorem xD:Lk 6 qD:=ls xT (aC mj (aC CZ (aC qt (aC HJ aN))))
def jU(a0:Int)(a1:Int)(a2:Int)(a3:Int)(a4:LDCn)(a5:Int)(a6:Bool):Option (Bool×Unit):=
(gN a0 a1 a2 a3).bind λ(x0,_)=>
bif x0 then((fu a4 16).bind λ(x1,_)=>
bif x1 then(bif(decide (a5>=(-1)))then(some ((decide (a5<4)),()))else
some (false,()))else
some (false,()))else
some (false,())
def Bt:X.Cfg:=⟨E0,[qM,iV],[],[]⟩
def pa:Ctr:=⟨40,100,[.agg yae],[],[⟨uab,[.one],[]⟩],ap7 jU⟩
theorem tA:Lk 3 pa:=ls Bt (aC vx (aC kt aN))
def iF(a0:List (Int))(a1:Int)(a2:List (Int))(a3:Int)(a4:Int)(a5:Int)(a6:Int):Option (T0d):=
(hJ a2 a3 a4 a5 a6).bind λ(x0,_)=>
bif(!x0)then(some (0,0,1,()))else
bif(a3==0)then(some (0,a4,0,()))else
bif(a3==2)then(let x1:Int:=(wk .u16 (a4+a1));
some (2,x1,0,()))else
(eq a5).bind λx1=>
(dJ a0 x1).bind λx2=>
let x3:=w64 (x2+a6);
let x4:=wk .u16 x3;
some (1,x4,0,())
def E9:X.Cfg:=⟨E0,[lh],[],[]⟩
def sE:Ctr:=⟨169,101,[.agg Zab,shU RI,.agg Zaf],[],[⟨uai,[.agg 2,.one],[]⟩],ap7 iF⟩
theorem xK:Lk 3 sE:=ls E9 (aC nQ aN)
def j6(a0:List (Int))(a1:Int)(a2:List (Int))(a3:Int)(a4:Int):Option (T03):=
(fT a2 a3 a4).bind λ(x0,_)=>
bif(!x0)then(some (0,6,()))else
(eq a3).bind λx1=>
(dJ a0 x1).bind λx2=>
let x3:=w64 (x2+a4);
some (x3,0,())
def xZ:X.Cfg:=⟨E0,[jb],[],[]⟩
def qT:Ctr:=⟨170,102,[.agg Zab,shU RI,.agg zad],[],[⟨zad,[.one,.one],[]⟩],ap5 j6⟩
theorem xL:Lk 2 qT:=ls xZ (aC lf aN)
def sN:Option (T1t):=
bif(pR 8 8 2)then let x0:LDCe:=(List.replicate 8 (0,0));
some (0,x0,0,0,(-1),(-1),0,0,())else none
def BD:X.Cfg:=⟨E0,[],[],[]⟩
def ua:Ctr:=⟨179,103,[],[],[⟨yah,[.agg 8],[]⟩],λh=>sN⟩
theorem A3:Lk 1 ua:=ls BD aN
def oL(a0:Int)(a1:Int)(a2:Int):Option (T1t):=
(sN).bind λ(x0,x1,x2,x3)=>
(dJ x1 0).bind λx8=>
(dJ x1 0).bind λx9=>
let ac:=List.modify x1 0 λe=>(a1,a2);
some (1,ac,a0,x3)
def E6:X.Cfg:=⟨E0,[ua],[],[]⟩
def yD:Ctr:=⟨171,104,[shU I64,.agg Uab],[],[⟨yah,[.agg 8],[]⟩],ap3 oL⟩
theorem EU:Lk 2 yD:=ls E6 (aC A3 aN)
def gl:T2J->Option (T2J⊕(T0U⊕T2K)):=λ(v0,v1,v2,v3,v4,v5,v6,v7,v8,v9,v10,v11,v12,v13,v14,v15,v16,v17,v18,v19,v20,v21,v22,v23,v24,v25,v26,v27,v28,v29,v30,_)=>
bif(decide (v3<v2))then((eq v3).bind λx0=>
(dJ v1 x0).bind λx1=>
(iF v4 v5 v10 x1.1 x1.2.1 x1.2.2.1 x1.2.2.2).bind λ(x2,x3,x4,_)=>
bif(x4 != 0)then(some (.inr (.inl (false,v4,v5,v6,v7,v8,()))))else
(fT v10 v29 v30).bind λ(x5,_)=>
bif(!x5)then(some (.inr (.inl (false,v4,v5,v6,v7,v8,()))))else
(j6 v4 v5 v10 v29 v30).bind λ(x6,x7,_)=>
(j3 x6 x2 x3 v6 v7).bind λ(x8,x9,_)=>
let ac:=w64 (v30+1);
let ae:=w64 (v3+1);
some (.inl (v0,v1,v2,ae,v4,v5,x8,x9,v8,v9,v10,v11,v12,v13,v14,v15,v16,v17,v18,v19,v20,v21,v22,v23,v24,v25,v26,v27,v28,v29,ac,())))else
some (.inr (.inr (v0,v1,v2,v3,false,v4,v5,v6,v7,v8,v9,v10,v11,v12,v13,v14,v15,v16,v17,v18,v19,v20,v21,v22,v23,v24,v25,v26,v27,v28,v29,v30,())))
def kM(a0:LDIn)(a1:List (Int))(a2:List LI)(a3:Int)(a4:Int)(a5:Int)(a6:Int)(a7:Int)(a8:Int)(a9:LDCn)(a10:LDCn)(a11:Int)(a12:Int)(a13:Int)(a14:Int)(a15:LDCn)(a16:Int)(a17:Bool)(a18:List (Int))(a19:Int)(a20:LDCe)(a21:LDLn)(a22:LDTh):Option (T0U):=
(eq a3).bind λx0=>
(dJ a22 x0).bind λx1=>
(iF a18 a19 a1 a11 a12 a13 a14).bind λ(x2,x3,x4,_)=>
bif(x4 != 0)then(some (false,a18,a19,a20,a21,a22,()))else
(match((g9 a8).bind λ(x5,_)=>
bif(x5==2)then(let x6:Int:=(dO a15.length);
bif(decide (x6>0))then((dJ a9 1).bind λx7=>
(dJ a9 1).bind λx8=>
(dJ a9 1).bind λx9=>
(hJ a1 x9.1 x9.2.1 x9.2.2.1 x9.2.2.2).bind λ(ac,_)=>
bif(!ac)then(some (.inl (false,a18,a19,a20,a21,a22,())))else
(dJ a9 1).bind λae=>
bif(ae.1 != 1)then(some (.inl (false,a18,a19,a20,a21,a22,())))else
let af:=dO a15.length;
(match dY gl NN (x0,a15,af,0,a18,a19,a20,a21,a22,a0,a1,a2,a3,a4,a5,a6,a7,a8,a9,a10,a11,a12,a13,a14,a15,a16,a17,x2,x3,x7.2.2.1,x8.2.2.2,())with
|none=>none
|some (.inl (ag,ah,ai,aj,ak,am,_))=>
some (.inl (ag,ah,ai,aj,ak,am,()))
|some (.inr (ag,ah,ai,aj,ak,am,an,ap,aq,av,ax,ay,az,aA,aB,aD,aE,aF,aG,aH,aI,aJ,aK,aL,aM,aO,aP,aQ,aR,aS,aT,aU,_))=>
some (.inr (.inl (ag,ah,ai,aj,ak,am,an,ap,aq,av,ax,ay,az,aA,aB,aD,aE,aF,aG,aH,aI,aJ,aK,aL,aM,aO,aP,aQ,aR,aS,aT,aU,())))))else
some (.inr (.inr (x0,false,a18,a19,a20,a21,a22,a0,a1,a2,a3,a4,a5,a6,a7,a8,a9,a10,a11,a12,a13,a14,a15,a16,a17,x2,x3,()))))else
some (.inr (.inr (x0,false,a18,a19,a20,a21,a22,a0,a1,a2,a3,a4,a5,a6,a7,a8,a9,a10,a11,a12,a13,a14,a15,a16,a17,x2,x3,()))):Option (T0U⊕(T2K⊕(Nat×Bool×T2C))))with
|none=>none
|some (.inl (x5,x6,x7,x8,x9,ac,_))=>
some (x5,x6,x7,x8,x9,ac,())
|some (.inr (.inl (x5,x6,x7,x8,x9,ac,ae,af,ag,ah,ai,aj,ak,am,an,ap,aq,av,ax,ay,az,aA,aB,aD,aE,aF,aG,aH,aI,aJ,aK,aL,_)))=>
(match(bif(ax==12)then((dJ ay 0).bind λaM=>
let aO:=wk .i64 aM.2.1;
bif(decide (aO>255))then(some (.inl (false,ac,ae,af,ag,ah,())))else
(dJ ay 0).bind λaP=>
bif(aP.1 != 0)then(some (.inl (false,ac,ae,af,ag,ah,())))else
(dJ ay 0).bind λaQ=>
let aR:=wk .i64 aQ.2.1;
(dJ ah x5).bind λaS=>
let aT:=(List.modify ah x5 λe=>(e.1,(e.2.1,(e.2.2.1,(e.2.2.2.1,(aR,e.2.2.2.2.2))))));
some (.inr (x5,ac,ae,af,ag,aT,ai,aj,ak,am,an,ap,aq,av,ax,ay,az,aA,aB,aD,aE,aF,aG,aH,aI,aJ,())))else
some (.inr (x5,ac,ae,af,ag,ah,ai,aj,ak,am,an,ap,aq,av,ax,ay,az,aA,aB,aD,aE,aF,aG,aH,aI,aJ,())):Option (T0U⊕T2E))with
|none=>none
|some (.inl (aM,aO,aP,aQ,aR,aS,_))=>
some (aM,aO,aP,aQ,aR,aS,())
|some (.inr (aM,aO,aP,aQ,aR,aS,aT,aU,aV,aW,aY,aZ,ba,bc,bd,bf,bg,bh,bi,bj,bk,bl,bm,bn,bo,bp,_))=>
(match(bif(bd==10)then(bif(decide (bm>=0))then((dJ bf 1).bind λbq=>
(iF aO aP aU bq.1 bq.2.1 bq.2.2.1 bq.2.2.2).bind λ(bt,bv,bx,_)=>
(bif(bx != 0)then(some (aM,true,aO,aP,aQ,aR,aS,aW,aY,aZ,ba,bc,bd,bf,bg,bh,bi,bj,bk,bl,bm,bn,bo,bp,bt,bv,()))else
(eq bm).bind λbz=>
(dJ aS bz).bind λbA=>
(dJ aS bz).bind λbB=>
bif(bB.1 != 0)then(some (aM,true,aO,aP,aQ,aR,aS,aW,aY,aZ,ba,bc,bd,bf,bg,bh,bi,bj,bk,bl,bm,bn,bo,bp,bt,bv,()))else
(dJ bf 0).bind λbC=>
let bD:=wk .i64 bC.2.1;
bif(decide (bD>255))then(some (aM,true,aO,aP,aQ,aR,aS,aW,aY,aZ,ba,bc,bd,bf,bg,bh,bi,bj,bk,bl,bm,bn,bo,bp,bt,bv,()))else
(dJ bf 0).bind λbE=>
some (aM,(bE.1 != 0),aO,aP,aQ,aR,aS,aW,aY,aZ,ba,bc,bd,bf,bg,bh,bi,bj,bk,bl,bm,bn,bo,bp,bt,bv,()):Option (T2D)).bind λ(bz,bA,bB,bC,bD,bE,bF,bG,bH,bI,bJ,bK,bL,bM,bN,bO,bP,bQ,bR,bS,bT,bU,bV,bW,bY,bZ,_)=>
bif bA then(some (.inl (false,bB,bC,bD,bE,bF,())))else
(dJ bM 0).bind λb8=>
let b9:=wk .i64 b8.2.1;
(oL b9 bY bZ).bind λ(ca,cc,cd,cf,cg,ch,ci,cj,_)=>
(eq bT).bind λcl=>
(dJ bF cl).bind λcn=>
(dJ bF cl).bind λcq=>
let cr:=(List.modify bF cl λe=>(ca,(cc,(cd,(cf,(cg,(ch,(ci,cj))))))));
some (.inr (bz,bB,bC,bD,bE,cr,bG,bH,bI,bJ,bK,bL,bM,bN,bV,bW,())))else
some (.inr (aM,aO,aP,aQ,aR,aS,aW,aY,aZ,ba,bc,bd,bf,bg,bo,bp,())))else
some (.inr (aM,aO,aP,aQ,aR,aS,aW,aY,aZ,ba,bc,bd,bf,bg,bo,bp,())):Option (T0U⊕T2l))with
|none=>none
|some (.inl (bq,bt,bv,bx,bz,bA,_))=>
some (bq,bt,bv,bx,bz,bA,())
|some (.inr (bq,bt,bv,bx,bz,bA,bB,bC,bD,bE,bF,bG,bH,bI,bJ,bK,_))=>
(dJ bA bq).bind λbL=>
(dJ bA bq).bind λbM=>
(dJ bM.2.1 0).bind λbN=>
(dJ bA bq).bind λbO=>
(dJ bO.2.1 0).bind λbP=>
let bQ:=(List.modify bA bq λe=>(e.1,((List.modify e.2.1 0 λe=>(bJ,bK)),e.2.2)));
(dJ bQ bq).bind λbR=>
let bS:=List.modify bQ bq λe=>(1,e.2);
some (true,bt,bv,bx,bz,bS,())))
|some (.inr (.inr (x5,x6,x7,x8,x9,ac,ae,af,ag,ah,ai,aj,ak,am,an,ap,aq,av,ax,ay,az,aA,aB,aD,aE,aF,aG,_)))=>
(match(bif(ap==12)then((dJ aq 0).bind λaH=>
let aI:=wk .i64 aH.2.1;
bif(decide (aI>255))then(some (.inl (false,x7,x8,x9,ac,ae,())))else
(dJ aq 0).bind λaJ=>
bif(aJ.1 != 0)then(some (.inl (false,x7,x8,x9,ac,ae,())))else
(dJ aq 0).bind λaK=>
let aL:=wk .i64 aK.2.1;
(dJ ae x5).bind λaM=>
let aO:=(List.modify ae x5 λe=>(e.1,(e.2.1,(e.2.2.1,(e.2.2.2.1,(aL,e.2.2.2.2.2))))));
some (.inr (x5,x7,x8,x9,ac,aO,af,ag,ah,ai,aj,ak,am,an,ap,aq,av,ax,ay,az,aA,aB,aD,aE,aF,aG,())))else
some (.inr (x5,x7,x8,x9,ac,ae,af,ag,ah,ai,aj,ak,am,an,ap,aq,av,ax,ay,az,aA,aB,aD,aE,aF,aG,())):Option (T0U⊕T2E))with
|none=>none
|some (.inl (aH,aI,aJ,aK,aL,aM,_))=>
some (aH,aI,aJ,aK,aL,aM,())
|some (.inr (aH,aI,aJ,aK,aL,aM,aO,aP,aQ,aR,aS,aT,aU,aV,aW,aY,aZ,ba,bc,bd,bf,bg,bh,bi,bj,bk,_))=>
(match(bif(aW==10)then(bif(decide (bh>=0))then((dJ aY 1).bind λbl=>
(iF aI aJ aP bl.1 bl.2.1 bl.2.2.1 bl.2.2.2).bind λ(bm,bn,bo,_)=>
(bif(bo != 0)then(some (aH,true,aI,aJ,aK,aL,aM,aR,aS,aT,aU,aV,aW,aY,aZ,ba,bc,bd,bf,bg,bh,bi,bj,bk,bm,bn,()))else
(eq bh).bind λbp=>
(dJ aM bp).bind λbq=>
(dJ aM bp).bind λbt=>
bif(bt.1 != 0)then(some (aH,true,aI,aJ,aK,aL,aM,aR,aS,aT,aU,aV,aW,aY,aZ,ba,bc,bd,bf,bg,bh,bi,bj,bk,bm,bn,()))else
(dJ aY 0).bind λbv=>
let bx:=wk .i64 bv.2.1;
bif(decide (bx>255))then(some (aH,true,aI,aJ,aK,aL,aM,aR,aS,aT,aU,aV,aW,aY,aZ,ba,bc,bd,bf,bg,bh,bi,bj,bk,bm,bn,()))else
(dJ aY 0).bind λbz=>
some (aH,(bz.1 != 0),aI,aJ,aK,aL,aM,aR,aS,aT,aU,aV,aW,aY,aZ,ba,bc,bd,bf,bg,bh,bi,bj,bk,bm,bn,()):Option (T2D)).bind λ(bp,bq,bt,bv,bx,bz,bA,bB,bC,bD,bE,bF,bG,bH,bI,bJ,bK,bL,bM,bN,bO,bP,bQ,bR,bS,bT,_)=>
bif bq then(some (.inl (false,bt,bv,bx,bz,bA,())))else
(dJ bH 0).bind λbU=>
let bV:=wk .i64 bU.2.1;
(oL bV bS bT).bind λ(bW,bY,bZ,b8,b9,ca,cc,cd,_)=>
(eq bO).bind λcf=>
(dJ bA cf).bind λcg=>
(dJ bA cf).bind λch=>
let ci:=(List.modify bA cf λe=>(bW,(bY,(bZ,(b8,(b9,(ca,(cc,cd))))))));
some (.inr (bp,bt,bv,bx,bz,ci,bB,bC,bD,bE,bF,bG,bH,bI,bQ,bR,())))else
some (.inr (aH,aI,aJ,aK,aL,aM,aR,aS,aT,aU,aV,aW,aY,aZ,bj,bk,())))else
some (.inr (aH,aI,aJ,aK,aL,aM,aR,aS,aT,aU,aV,aW,aY,aZ,bj,bk,())):Option (T0U⊕T2l))with
|none=>none
|some (.inl (bl,bm,bn,bo,bp,bq,_))=>
some (bl,bm,bn,bo,bp,bq,())
|some (.inr (bl,bm,bn,bo,bp,bq,bt,bv,bx,bz,bA,bB,bC,bD,bE,bF,_))=>
(dJ bq bl).bind λbG=>
(dJ bq bl).bind λbH=>
(dJ bH.2.1 0).bind λbI=>
(dJ bq bl).bind λbJ=>
(dJ bJ.2.1 0).bind λbK=>
let bL:=(List.modify bq bl λe=>(e.1,((List.modify e.2.1 0 λe=>(bE,bF)),e.2.2)));
(dJ bL bl).bind λbM=>
let bN:=List.modify bL bl λe=>(1,e.2);
some (true,bm,bn,bo,bp,bN,()))))
def E3:X.Cfg:=⟨E0,[sE,ja,lh,jb,qT,pf,yD],[],[⟨13,0,(qS [zaa 1,zaa 4,zaa 6,zaa 7,(9,.ptr ⟨4,4,[((),(8,0))]⟩ [0,0]),zaa 10,zaa 12,sP 80 ej,Uaa 81,Uaa 82] [(4,Uac),(10,zab),(14,yac),(16,yae),(22,Uab),(26,zad)]),[(.ret,qS [zaa 1,Xaa 8] [(4,Uac)]),(.exit 0,(qS [zaa 1,zaa 4,zaa 6,zaa 7,(9,.ptr ⟨4,4,[((),(8,0))]⟩ [0,0]),zaa 10,zaa 12,sP 80 ej,Uaa 81,Uaa 82,Xaa 83] [(4,Uac),(10,zab),(14,yac),(16,yae),(22,Uab),(26,zad)]))]⟩,⟨6,1,qE,[(.ret,qS [zaa 1,Xaa 8] [(4,Uac)]),(.normal,(qS [zaa 1,zaa 4,zaa 6,zaa 7,(9,.ptr ⟨4,4,[((),(8,0))]⟩ [0,0]),zaa 10,zaa 12,sP 80 ej,Uaa 81,Uaa 82,Xaa 83] [(4,Uac),(10,zab),(14,yac),(16,yae),(22,Uab),(26,zad)])),(.normal,(qS [zaa 1,zaa 4,zaa 6,zaa 7,(9,.ptr ⟨4,4,[((),(8,0))]⟩ [0,0]),zaa 10,Xaa 51] [(4,Uac),(10,zab),(14,yac),(16,yae),(22,Uab)]))]⟩,⟨24,2,qE,[(.ret,qS [zaa 1,Xaa 8] [(4,Uac)]),(.normal,(qS [zaa 1,zaa 4,zaa 6,zaa 7,(9,.ptr ⟨4,4,[((),(8,0))]⟩ [0,0]),zaa 10] [(4,Uac),(10,zab),(14,yac),(16,yae),(22,Uab)]))]⟩,⟨33,3,qE,[(.normal,(qS [zaa 1,zaa 6,zaa 7,(9,.ptr ⟨4,4,[((),(8,0))]⟩ [0,0]),zaa 10,zaa 19,Xaa 207] [(4,Uac),(14,yac),(16,yae),(22,Uab),(40,Uab)]))]⟩,⟨29,4,qE,[(.ret,qS [zaa 1,Xaa 8] [(4,Uac)]),(.normal,(qS [zaa 1,(9,.ptr ⟨4,4,[((),(8,0))]⟩ [0,0]),zaa 10] [(4,Uac),(14,yac),(22,Uab)]))]⟩]⟩
def yA:Ctr:=⟨150,105,[.agg zab,.ptr ⟨4,0,[]⟩ [0],.agg yac,.agg yae],[(4,Uac)],[⟨uab,[.one],[(4,Uac)]⟩],ap23 kM⟩
theorem ER:Lk 4 yA:=ls E3 (aC xK (aC ld (aC nQ (aC lf (aC xL (aC tE (aC EU aN)))))))
def kN(a0:LDIn)(a1:List (Int))(a2:List LI)(a3:List (Int))(a4:Int)(a5:LDCe)(a6:LDLn)(a7:LDTh)(a8:Int)(a9:Int)(a10:Int)(a11:Int)(a12:Int)(a13:Int)(a14:LDCn)(a15:LDCn)(a16:Int)(a17:Int)(a18:Int)(a19:Int)(a20:LDCn)(a21:Int)(a22:Bool):Option (T14):=
((iR a0 a1 a2 a3 a4 a5 a6 a7).bind λ(x0,_)=>
bif(!x0)then(some (true,a0,a1,a2,a3,a4,a5,a6,a7,a8,a9,a10,a11,a12,a13,a14,a15,a16,a17,a18,a19,a20,a21,a22,(),0,(),(),(),()))else
(jW a8 a9 a10 a11 a12 a13 a14 a15).bind λ(x1,_)=>
bif(!x1)then(some (true,a0,a1,a2,a3,a4,a5,a6,a7,a8,a9,a10,a11,a12,a13,a14,a15,a16,a17,a18,a19,a20,a21,a22,(),0,(),(),(),()))else
bif(a9 != 1)then(some (true,a0,a1,a2,a3,a4,a5,a6,a7,a8,a9,a10,a11,a12,a13,a14,a15,a16,a17,a18,a19,a20,a21,a22,(),0,(),(),(),()))else
let x2:=dO a14.length;
(gD a13).bind λ(x3,_)=>
bif(x2 != x3)then(some (true,a0,a1,a2,a3,a4,a5,a6,a7,a8,a9,a10,a11,a12,a13,a14,a15,a16,a17,a18,a19,a20,a21,a22,(),0,(),(),(),()))else
(jU a16 a17 a18 a19 a20 a21 a22).bind λ(x4,_)=>
bif(!x4)then(some (true,a0,a1,a2,a3,a4,a5,a6,a7,a8,a9,a10,a11,a12,a13,a14,a15,a16,a17,a18,a19,a20,a21,a22,(),0,(),(),(),()))else
(eq a8).bind λx5=>
(dJ a7 x5).bind λx6=>
some ((x6.1 != 2),a0,a1,a2,a3,a4,a5,a6,a7,a8,a9,a10,a11,a12,a13,a14,a15,a16,a17,a18,a19,a20,a21,a22,(),0,(),(),(),()):Option (Bool×LDIn×LI×LLI×LI×Int×LDCe×LDLn×LDTh×Int×Int×Int×Int×Int×Int×LDCn×LDCn×T29)).bind λ(x0,x1,x2,x3,x4,x5,x6,x7,x8,x9,ac,ae,af,ag,ah,ai,aj,ak,am,an,ap,aq,av,ax,_)=>
bif x0 then(some (x4,x5,x6,x7,x8,false,()))else
(iD x4 x5 x6 x7 x8).bind λ(aE,aF,aG,aH,aI,_)=>
bif(ah==0)then((eq x9).bind λaJ=>
(dJ aI aJ).bind λaK=>
(dJ aI aJ).bind λaL=>
(dJ ai 0).bind λaM=>
(dJ aI aJ).bind λaO=>
(kO aL.1 aO.2.1 aL.2.2.1 aL.2.2.2.1 aL.2.2.2.2.1 aL.2.2.2.2.2.1 aL.2.2.2.2.2.2.1 aL.2.2.2.2.2.2.2 0 aM.2.1).bind λ(aP,aQ,aR,aS,aT,aU,aV,aW,_)=>
(eq x9).bind λaY=>
(dJ aI aY).bind λaZ=>
(dJ aI aY).bind λba=>
let bc:=(List.modify aI aY λe=>(aP,(aQ,(aR,(aS,(aT,(aU,(aV,aW))))))));
some (aE,aF,aG,aH,bc,true,()))else
bif ax then((eq x9).bind λaJ=>
(dJ aI aJ).bind λaK=>
(dJ aI aJ).bind λaL=>
let aM:=List.modify aI aJ λe=>(3,e.2);
some (aE,aF,aG,aH,aM,true,()))else
(kM x1 x2 x3 x9 ac ae af ag ah ai aj ak am an ap aq av ax aE aF aG aH aI).bind λ(aJ,aK,aL,aM,aO,aP,_)=>
bif(!aJ)then(some (x4,x5,x6,x7,x8,false,()))else
some (aK,aL,aM,aO,aP,true,())
def E4:X.Cfg:=⟨E0,[mq,pb,kT,pa,lC,sD,yA],[],[⟨2,0,qE,[(.normal,qS [zaa 4,zaa 5,zaa 6,zaa 7,zaa 8,Xaa 48] [(10,zab),(12,yad),(14,yac),(16,yae),(18,uae)])]⟩]⟩
def yB:Ctr:=⟨130,106,[.agg zab,.agg yad,.agg yac,.agg yae],[],[⟨Uaj,[.agg 5,.one],[]⟩],ap23 kN⟩
theorem ES:Lk 5 yB:=ls E4 (aC oW (aC tB (aC oh (aC tA (aC nI (aC xI (aC ER aN)))))))
def lp(a0:LDIn)(a1:List (Int))(a2:List LI)(a3:List (Int))(a4:Int)(a5:LDCe)(a6:LDLn)(a7:LDTh)(a8:Int)(a9:Int)(a10:Int)(a11:Int)(a12:Int)(a13:LDCn)(a14:Int)(a15:Bool):Option (T14):=
((iR a0 a1 a2 a3 a4 a5 a6 a7).bind λ(x0,_)=>
bif(!x0)then(some (a8,true,a0,a1,a2,a3,a4,a5,a6,a7,a9,a10,a11,a12,a13,a14,a15,(),0,(),(),(),()))else
(jU a9 a10 a11 a12 a13 a14 a15).bind λ(x1,_)=>
bif(!x1)then(some (a8,true,a0,a1,a2,a3,a4,a5,a6,a7,a9,a10,a11,a12,a13,a14,a15,(),0,(),(),(),()))else
bif(decide (a8<0))then(some (a8,true,a0,a1,a2,a3,a4,a5,a6,a7,a9,a10,a11,a12,a13,a14,a15,(),0,(),(),(),()))else
bif(decide (a8>=4))then(some (a8,true,a0,a1,a2,a3,a4,a5,a6,a7,a9,a10,a11,a12,a13,a14,a15,(),0,(),(),(),()))else
(eq a8).bind λx2=>
(dJ a7 x2).bind λx3=>
some (a8,(x3.1 != 3),a0,a1,a2,a3,a4,a5,a6,a7,a9,a10,a11,a12,a13,a14,a15,(),0,(),(),(),()):Option (Int×Bool×LDIn×LI×LLI×LI×Int×LDCe×LDLn×LDTh×T29)).bind λ(x0,x1,x2,x3,x4,x5,x6,x7,x8,x9,ac,ae,af,ag,_)=>
bif x1 then(some (x5,x6,x7,x8,x9,false,()))else
(iF x5 x6 x3 ac ae af ag).bind λ(av,ax,ay,_)=>
bif(ay != 0)then(some (x5,x6,x7,x8,x9,false,()))else
(iD x5 x6 x7 x8 x9).bind λ(az,aA,aB,aD,aE,_)=>
(eq x0).bind λaF=>
(dJ aE aF).bind λaG=>
(dJ aE aF).bind λaH=>
(dJ aE aF).bind λaI=>
(dJ aI.2.1 0).bind λaJ=>
(dJ aE aF).bind λaK=>
(dJ aK.2.1 0).bind λaL=>
let aM:=(List.modify aE aF λe=>(e.1,((List.modify e.2.1 0 λe=>(av,ax)),e.2.2)));
(eq x0).bind λaO=>
(dJ aM aO).bind λaP=>
(dJ aM aO).bind λaQ=>
let aR:=List.modify aM aO λe=>(1,e.2);
some (az,aA,aB,aD,aR,true,())
def Dv:X.Cfg:=⟨E0,[mq,pa,sE,lC],[],[⟨2,0,qE,[(.normal,qS [Uaa 2,zaa 4,zaa 5,zaa 7,zaa 8,Xaa 38] [(10,zab),(12,yad),(16,yae),(18,uae)])]⟩]⟩
def qK:Ctr:=⟨151,107,[.agg zab,.agg yad,shU I64,.agg yae],[],[⟨Uaj,[.agg 5,.one],[]⟩],ap16 lp⟩
theorem vt:Lk 5 qK:=ls Dv (aC oW (aC tA (aC xK (aC nI aN))))
def m9(a0:Int)(a1:Int)(a2:LDIn)(a3:List (Int))(a4:List LI)(a5:List (Int))(a6:Int)(a7:LDCe)(a8:LDLn)(a9:LDTh)(a10:List (Int))(a11:List (Int))(a12:List LI)(a13:List LDCn)(a14:LDOp)(a15:LDOu)(a16:List (Int))(a17:List LI)(a18:LDEn)(a19:List (Int)):Option (T2o):=
let x0:=wk .i64 a1;
(d7 x0 true).bind λ(x1,x2,x3,x4,x5,x6,x7,_)=>
(lp a2 a3 a4 a5 a6 a7 a8 a9 a0 x1 x2 x3 x4 [] x6 x7).bind λ(x8,x9,ac,ae,af,ag,_)=>
let ah:LDEn:=[(4,(a0,(0,(0,(0,(0,(0,(0,(0,([],([],(x1,(x2,(x3,(x4,([],(x6,x7)))))))))))))))))];
bif(dW 184 a18.length ah.length)then let ai:LDEn:=(List.append a18 ah);
some (a2,a3,a4,x8,x9,ac,ae,af,a10,a11,a12,a13,a14,a15,a16,a17,ai,a19,())else none
def Df:X.Cfg:=⟨E0,[kE,qK],[(35,Im),(36,Im)],[]⟩
def vJ:Ctr:=⟨131,108,[.ptr ⟨2,0,[]⟩ [0],shU I64,shU CW],[(2,zac)],[⟨[],[],[(2,zac)]⟩],ap20 m9⟩
theorem CP:Lk 6 vJ:=ls Df (aC mj (aC vt aN))
def i7(a0:Int)(a1:Int)(a2:Int)(a3:Int)(a4:Int)(a5:Int)(a6:LDCn)(a7:LDCn)(a8:LDIn)(a9:List (Int))(a10:List LI)(a11:List (Int))(a12:Int)(a13:LDCe)(a14:LDLn)(a15:LDTh)(a16:List (Int))(a17:List (Int))(a18:List LI)(a19:List LDCn)(a20:LDOp)(a21:LDOu)(a22:List (Int))(a23:List LI)(a24:LDEn)(a25:List (Int)):Option (T2o):=
(bif(a5==9)then((dJ a6 0).bind λx0=>
let x1:=wk .i64 x0.2.1;
(gM a22 a23 x1 a0).bind λ(x2,x3,x4,x5,_)=>
some (x4,a8,a9,a10,a11,a12,a13,a14,a15,a16,a17,a18,a19,a20,a21,a22,a23,a24,a25,a0,a1,a2,a3,a4,a5,a6,a7,()))else
some ((-1),a8,a9,a10,a11,a12,a13,a14,a15,a16,a17,a18,a19,a20,a21,a22,a23,a24,a25,a0,a1,a2,a3,a4,a5,a6,a7,()):Option (Int×LDIn×LI×LLI×LI×Int×LDCe×LDLn×LDTh×LI×LI×LLI×LLCn×LDOp×LDOu×LI×LLI×LDEn×LI×T1n)).bind λ(x0,x1,x2,x3,x4,x5,x6,x7,x8,x9,ac,ae,af,ag,ah,ai,aj,ak,am,an,ap,aq,av,ax,ay,az,aA,_)=>
(jO an ap aq av ax ay az aA x1 x2 x3 x4 x5 x6 x7 x8 x9 ac ae af ag ah ai aj ak am).bind λ(aB,aD,aE,aF,aG,aH,aI,aJ,aK,aL,aM,aO,aP,aQ,aR,aS,aT,aU,aV,aW,aY,aZ,ba,bc,bd,_)=>
(kN aJ aK aL aM aO aP aQ aR an ap aq av ax ay az aA aB aD aE aF aG aH aI).bind λ(bf,bg,bh,bi,bj,bk,_)=>
let bl:LDEn:=[(2,(an,(0,(an,(ap,(aq,(av,(ax,(ay,(az,(aA,(aB,(aD,(aE,(aF,(aG,(aH,aI)))))))))))))))))];
bif(dW 184 bc.length bl.length)then let bm:LDEn:=(List.append bc bl);
bif(decide (x0>=0))then((m9 x0 0 aJ aK aL bf bg bh bi bj aS aT aU aV aW aY aZ ba bm bd).bind λ(bn)=>
some (bn))else
some (aJ,aK,aL,bf,bg,bh,bi,bj,aS,aT,aU,aV,aW,aY,aZ,ba,bm,bd,())else none
def zi:X.Cfg:=⟨E0,[nL,qD,yB,vJ],[(56,Im),(57,Im)],[⟨2,0,qE,[(.normal,qS [zaa 0,zaa 3,Uaa 4] [(2,zac),(8,yac)])]⟩]⟩
def rZ:Ctr:=⟨96,109,[.ptr ⟨2,0,[]⟩ [0],.agg yac],[(2,zac)],[⟨[],[],[(2,zac)]⟩],ap26 i7⟩
theorem yW:Lk 7 rZ:=ls zi (aC qt (aC xD (aC ES (aC CP aN))))
def p7:T2a->Option (T2a⊕(Int×Int×Int×Int×Nat×T1l)):=λ(v0,v1,v2,v3,v4,v5,v6,v7,v8,v9,v10,v11,_)=>
bif(decide (v6<v5))then(((eq v6).bind λx0=>
(dJ v10 v4).bind λx1=>
(dJ x1 x0).bind λx2=>
(dJ v10 v4).bind λx3=>
(dJ x3 x0).bind λx4=>
bif(x4 != v0)then(bif(dW 8 v11.length (List.length [x4]))then let x5:List (Int):=(List.append v11 [x4]);
some (v0,v1,v2,v3,v4,v5,v6,v7,v8,v9,v10,x5,())else none)else
some (v0,v1,v2,v3,v4,v5,v6,v7,v8,v9,v10,v11,()):Option (T2a)).bind λ(x0,x1,x2,x3,x4,x5,x6,x7)=>
let af:=w64 (x6+1);
some (.inl (x0,x1,x2,x3,x4,x5,af,x7)))else
some (.inr (v0,v1,v2,v3,v4,v5,v6,false,v7,v8,v9,v10,v11,()))
def p6:T1e->Option (T1e⊕(Int×T19)):=λ(v0,v1,v2,v3,v4,v5,v6,_)=>
bif(decide (v2<v1))then((eq v2).bind λx0=>
(dJ v6 x0).bind λx1=>
(dJ v6 x0).bind λx2=>
(dJ v6 x0).bind λx3=>
let x4:=dO x3.length;
(dY p7 NN (v0,v2,v1,v2,x0,x4,0,v3,v4,v5,v6,[],())).bind λ(x5,x6,x7,x8,x9,ac,ae,af,ag,ah,ai,aj,ak,_)=>
(eq x6).bind λam=>
(dJ aj am).bind λan=>
(dJ aj am).bind λap=>
let aq:=List.modify aj am λe=>ak;
let av:=w64 (x8+1);
some (.inl (x5,x7,av,ag,ah,ai,aq,())))else
some (.inr (v0,v1,v2,false,v3,v4,v5,v6,()))
def p5:T1p->Option (T1p⊕(Int×T1l)):=λ(v0,v1,v2,v3,v4,v5,v6,v7,_)=>
bif(decide (v2<v1))then((gM v5 v6 v2 v0).bind λ(x0,x1,x2,x3,_)=>
(bif x3 then(bif(decide (x2>=0))then(bif(dW 8 v7.length (List.length [x2]))then let x4:List (Int):=(List.append v7 [x2]);
some (v0,v1,v2,v3,v4,v5,v6,x4,x0,x1,())else none)else
some (v0,v1,v2,v3,v4,v5,v6,v7,x0,x1,()))else
some (v0,v1,v2,v3,v4,v5,v6,v7,x0,x1,()):Option (Int×Int×Int×Unit×Unit×LI×LLI×LI×T08)).bind λ(x4,x5,x6,x7,x8,x9,ac,ae,af,ag,_)=>
let ah:=w64 (x6+1);
some (.inl (x4,x5,ah,x7,x8,af,ag,ae,())))else
some (.inr (v0,v1,v2,false,v3,v4,v5,v6,v7,()))
def nn(a0:List (Int))(a1:List LI)(a2:Int):Option (T0l):=
(ln a0 a1).bind λ(x0,x1,_)=>
let x2:=dO x1.length;
(dY p6 NN (a2,x2,0,(),(),x0,x1,())).bind λ(x3,x4,x5,x6,x7,x8,x9,ac,_)=>
let ae:=dO x9.length;
(dY p5 NN (x3,ae,0,x7,x8,x9,ac,[],())).bind λ(af,ag,ah,ai,aj,ak,am)=>
some (am)
def Dt:X.Cfg:=⟨E0,[nM,nL],[],[⟨15,0,qE,[(.normal,(qS [Uaa 1,zaa 4,zaa 6,Uaa 7,Zaa 9 21,(20,.pk ⟨14,1,[]⟩ [0,0]),Uaa 21,Uaa 22,(27,.pk ⟨14,1,[((),(1,0))]⟩ [0,0,0]),Uaa 28,Uaa 29] [(10,Xab),(14,Xad),(21,uac)]))]⟩,⟨12,1,(qS [Uaa 1,zaa 4,zaa 6,Uaa 7,Zaa 9 21,(20,.pk ⟨14,1,[]⟩ [0,0]),Uaa 21,Uaa 22,(27,.pk ⟨14,1,[((),(1,0))]⟩ [0,0,0]),Uaa 28,Uaa 29] [(10,Xab),(14,Xad),(21,uac)]),[(.exit 2,(qS [Uaa 1,zaa 4,zaa 6,Uaa 7,Zaa 9 21,(20,.pk ⟨14,1,[]⟩ [0,0]),Uaa 21,Uaa 22,(27,.pk ⟨14,1,[((),(1,0))]⟩ [0,0,0]),Uaa 28,Uaa 29,Xaa 30] [(10,Xab),(14,Xad),(21,uac)]))]⟩,(lx 4 2 [Uaa 1,zaa 4,zaa 6,(20,.pk ⟨14,1,[]⟩ [0,0]),Uaa 21,Uaa 22] [(10,Xab),(14,Xad)] 23),⟨27,3,qE,[(.normal,qS [Uaa 1,zaa 4,zaa 6,Zaa 12 27,zaa 14,Uaa 49,Uaa 50] [(10,Xab),(14,Uae),(27,uac),(30,Uae)])]⟩,⟨21,4,qS [Uaa 1,zaa 4,zaa 6,Zaa 12 27,Uaa 49,Uaa 50] [(10,Xab),(14,Uae),(27,uac)],[(.exit 4,qS [Uaa 1,zaa 4,zaa 6,Zaa 12 27,Uaa 49,Uaa 50,Xaa 51] [(10,Xab),(14,Uae),(27,uac)])]⟩]⟩
def vT:Ctr:=⟨132,110,[.agg Uae,shU I64],[],[⟨uL [RI,(yaa RI),(uaa I64)],[.agg 2,.one],[]⟩],ap3 nn⟩
theorem C3:Lk 3 vT:=ls Dt (aC qu (aC qt aN))
def i6(a0:Int)(a1:Int)(a2:LDIn)(a3:List (Int))(a4:List LI)(a5:List (Int))(a6:Int)(a7:LDCe)(a8:LDLn)(a9:LDTh)(a10:List (Int))(a11:List (Int))(a12:List LI)(a13:List LDCn)(a14:LDOp)(a15:LDOu)(a16:List (Int))(a17:List LI)(a18:LDEn):Option (LDIn×LI×LLI×LI×Int×LDCe×LDLn×LDTh×LI×LI×LLI×LLCn×LDOp×LDOu×LI×LLI×LDEn×Unit):=
let x0:=wk .i64 a1;
(d7 x0 true).bind λ(x1,x2,x3,x4,x5,x6,x7,_)=>
(lp a2 a3 a4 a5 a6 a7 a8 a9 a0 x1 x2 x3 x4 [] x6 x7).bind λ(x8,x9,ac,ae,af,ag,_)=>
let ah:LDEn:=[(4,(a0,(0,(0,(0,(0,(0,(0,(0,([],([],(x1,(x2,(x3,(x4,([],(x6,x7)))))))))))))))))];
bif(dW 184 a18.length ah.length)then let ai:LDEn:=(List.append a18 ah);
some (a2,a3,a4,x8,x9,ac,ae,af,a10,a11,a12,a13,a14,a15,a16,a17,ai,())else none
def zf:X.Cfg:=⟨E0,[kE,qK],[(35,Im),(36,Im)],[]⟩
def rW:Ctr:=⟨131,111,[.ptr ⟨2,0,[]⟩ [0],shU I64,shU CW],[(2,Xaj)],[⟨[],[],[(2,Xaj)]⟩],ap19 i6⟩
theorem yT:Lk 6 rW:=ls zf (aC mj (aC vt aN))
def pB:T2z->Option (T2z⊕(Int×T2y)):=λ(v0,v1,v2,v3,v4,v5,v6,v7,v8,v9,v10,v11,v12,v13,v14,v15,v16,v17,v18,v19,v20,v21,_)=>
bif(decide (v2<v1))then((eq v2).bind λx0=>
(dJ v21 x0).bind λx1=>
(dJ v21 x0).bind λx2=>
(i6 x2 0 v3 v4 v5 v6 v7 v8 v9 v10 v11 v12 v13 v14 v15 v16 v17 v18 v19).bind λ(x3,x4,x5,x6,x7,x8,x9,ac,ae,af,ag,ah,ai,aj,ak,am,an,_)=>
let ap:=w64 (v2+1);
some (.inl (v0,v1,ap,x3,x4,x5,x6,x7,x8,x9,ac,ae,af,ag,ah,ai,aj,ak,am,an,v20,v21,())))else
some (.inr (v0,v1,v2,false,v3,v4,v5,v6,v7,v8,v9,v10,v11,v12,v13,v14,v15,v16,v17,v18,v19,v20,v21,()))
def pA:T2w->Option (T2w⊕(Int×Int×T2u)):=λ(v0,v1,v2,v3,v4,v5,v6,v7,v8,v9,v10,v11,v12,v13,v14,v15,v16,v17,v18,v19,v20,_)=>
bif(decide (v2<v1))then(((eq v2).bind λx0=>
(dJ v20 x0).bind λx1=>
(dJ v20 x0).bind λx2=>
bif(x2==v0)then((eq v0).bind λx3=>
(dJ v10 x3).bind λx4=>
(i6 v2 x4.2.2.2.2.2.2.2 v3 v4 v5 v6 v7 v8 v9 v10 v11 v12 v13 v14 v15 v16 v17 v18 v19).bind λ(x5,x6,x7,x8,x9,ac,ae,af,ag,ah,ai,aj,ak,am,an,ap,aq,_)=>
(eq v2).bind λav=>
(dJ v20 av).bind λax=>
(dJ v20 av).bind λay=>
let az:=List.modify v20 av λe=>(-1);
some (v0,v1,v2,x5,x6,x7,x8,x9,ac,ae,af,ag,ah,ai,aj,ak,am,an,ap,aq,az,()))else
some (v0,v1,v2,v3,v4,v5,v6,v7,v8,v9,v10,v11,v12,v13,v14,v15,v16,v17,v18,v19,v20,()):Option (T2w)).bind λ(x0,x1,x2,x3,x4,x5,x6,x7,x8,x9,ac,ae,af,ag,ah,ai,aj,ak,am,an,ap,_)=>
let aq:=w64 (x2+1);
some (.inl (x0,x1,aq,x3,x4,x5,x6,x7,x8,x9,ac,ae,af,ag,ah,ai,aj,ak,am,an,ap,())))else
some (.inr (v0,v1,v2,false,v3,v4,v5,v6,v7,v8,v9,v10,v11,v12,v13,v14,v15,v16,v17,v18,v19,v20,()))
def jP(a0:Int)(a1:LDIn)(a2:List (Int))(a3:List LI)(a4:List (Int))(a5:Int)(a6:LDCe)(a7:LDLn)(a8:LDTh)(a9:List (Int))(a10:List (Int))(a11:List LI)(a12:List LDCn)(a13:LDOp)(a14:LDOu)(a15:List (Int))(a16:List LI)(a17:LDEn)(a18:List (Int)):Option (T2o):=
(nn a15 a16 a0).bind λ(x0,x1,x2,_)=>
let x3:=dO x2.length;
(dY pB NN (a0,x3,0,a1,a2,a3,a4,a5,a6,a7,a8,a9,a10,a11,a12,a13,a14,x0,x1,a17,a18,x2,())).bind λ(x4,x5,x6,x7,x8,x9,ac,ae,af,ag,ah,ai,aj,ak,am,an,ap,aq,av,ax,ay,az,aA,_)=>
let aB:=dO az.length;
(dY pA NN (x4,aB,0,x8,x9,ac,ae,af,ag,ah,ai,aj,ak,am,an,ap,aq,av,ax,ay,az,())).bind λ(aD,aE,aF,aG,aH)=>
some (aH)
def Bl:X.Cfg:=⟨E0,[vT,rW],[],[(lx 4 0 [zaa 0,Uaa 1,Zaa 23 13,Uaa 24,Uaa 25] [(2,zac),(13,uac)] 26),⟨13,1,qE,[(.normal,(qS [zaa 0,Uaa 1,(36,.pk ⟨2,17,[]⟩ [0,0]),Uaa 37,Uaa 38] [(2,zac)]))]⟩,⟨10,2,(qS [zaa 0,Uaa 1,(36,.pk ⟨2,17,[]⟩ [0,0]),Uaa 37,Uaa 38] [(2,zac)]),[(.exit 2,(qS [zaa 0,Uaa 1,(36,.pk ⟨2,17,[]⟩ [0,0]),Uaa 37,Uaa 38,Xaa 39] [(2,zac)]))]⟩]⟩
def tT:Ctr:=⟨97,112,[.ptr ⟨2,0,[]⟩ [0],shU I64],[(2,zac)],[⟨[],[],[(2,zac)]⟩],ap19 jP⟩
theorem AS:Lk 7 tT:=ls Bl (aC C3 (aC yT aN))
def na(a0:LDIn)(a1:List (Int))(a2:List LI)(a3:List (Int))(a4:Int)(a5:LDCe)(a6:LDLn)(a7:LDTh)(a8:List (Int))(a9:List (Int))(a10:List LI)(a11:List LDCn)(a12:LDOp)(a13:LDOu)(a14:List (Int))(a15:List LI)(a16:LDEn)(a17:List (Int))(a18:Int)(a19:Int)(a20:Bool):Option (LDIn×LI×LLI×LI×Int×LDCe×LDLn×LDTh×LI×LI×LLI×LLCn×LDOp×LDOu×LI×LLI×LDEn×T07):=
(jX a7).bind λ(x0,_)=>
let x1:=dO x0.length;
bif(x1==0)then(some ([],[],[],[],0,[],[],[],[],[],[],[],[],[],[],[],[],[],15,()))else
let x2:=dO a16.length;
bif(decide (x2>192))then(some ([],[],[],[],0,[],[],[],[],[],[],[],[],[],[],[],[],[],3,()))else
let x3:=dO x0.length;
(jq a18 x3).bind λ(x4,_)=>
(eq x4).bind λx5=>
(dJ x0 x5).bind λx6=>
(dJ x0 x5).bind λx7=>
(jq a19 64).bind λ(x8,_)=>
let x9:=w64 (1+x8);
(kV a0 a1 a2 a3 a4 a5 a6 a7 a8 a9 a10 a11 a12 a13 a14 a15 a16 a17).bind λ(ac,ae,af,ag,ah,ai,aj,ak,am,an,ap,aq,av,ax,ay,az,aA,aB,_)=>
(match(bif a20 then((mH ag ah ai aj ak x7).bind λ(aD,_)=>
bif aD then((jT ag ah ai aj ak x7).bind λ(aE,aF,aG,aH,aI,aJ,_)=>
let aK:LDEn:=[(3,(x7,(0,(0,(0,(0,(0,(0,(0,([],([],(0,(0,(0,(0,([],(0,false)))))))))))))))))];
bif(dW 184 aA.length aK.length)then let aL:LDEn:=(List.append aA aK);
some (.inl (x7,x9,(),(),(),(),0,(),(),(),(),(),(),(),(),(),(),(),(),(),ac,ae,af,aE,aF,aG,aH,aI,am,an,ap,aq,av,ax,ay,az,aL,aB,()))else none)else
some (.inr (x7,x9,(),(),(),(),0,(),(),(),(),(),(),(),(),(),(),(),(),(),ac,ae,af,ag,ah,ai,aj,ak,am,an,ap,aq,av,ax,ay,az,aA,aB,())))else
some (.inr (x7,x9,(),(),(),(),0,(),(),(),(),(),(),(),(),(),(),(),(),(),ac,ae,af,ag,ah,ai,aj,ak,am,an,ap,aq,av,ax,ay,az,aA,aB,())):Option (T2V⊕T2V))with
|none=>none
|some (.inl (aD,aE,aF,aG,aH,aI,aJ,aK,aL,aM,aO,aP,aQ,aR,aS,aT,aU,aV,aW,aY,aZ,ba,bc,bd,bf,bg,bh,bi,bj,bk,bl,bm,bn,bo,bp,bq,bt,bv,_))=>
(lr aZ ba bc bd bf bg bh bi aD aE).bind λ(bx,bz,bA,bB,bC,bD,bE,bF,bG,bH,bI,bJ,bK,bL,_)=>
let bM:LDEn:=[(1,(aD,(aE,(bD,(bE,(bF,(bG,(bH,(bI,(bJ,(bK,(0,(0,(0,(0,([],(0,false)))))))))))))))))];
bif(dW 184 bt.length bM.length)then let bN:LDEn:=(List.append bt bM);
(bif(bE==1)then((i7 bD bE bF bG bH bI bJ bK aZ ba bc bx bz bA bB bC bj bk bl bm bn bo bp bq bN bv).bind λ(bO,bP,bQ,bR,bS,bT,bU,bV,bW,bY,bZ,b8,b9,ca,cc,cd,cf,cg,_)=>
some (aD,aF,aG,aH,aI,aJ,aK,aL,aM,aO,aP,aQ,aR,aS,aT,aU,aV,aW,aY,bO,bP,bQ,bR,bS,bT,bU,bV,bW,bY,bZ,b8,b9,ca,cc,cd,cf,cg,()))else
some (aD,aF,aG,aH,aI,aJ,aK,aL,aM,aO,aP,aQ,aR,aS,aT,aU,aV,aW,aY,aZ,ba,bc,bx,bz,bA,bB,bC,bj,bk,bl,bm,bn,bo,bp,bq,bN,bv,()):Option (T2P)).bind λ(bO,bP,bQ,bR,bS,bT,bU,bV,bW,bY,bZ,b8,b9,ca,cc,cd,cf,cg,ch,ci,cj,cl,cn,cq,cr,cu,cw,cx,cy,cz,cD,cE,cF,cG,cH,cI,cJ,_)=>
((eq bO).bind λcK=>
(dJ cw cK).bind λcL=>
bif(cL.1==4)then((jP bO ci cj cl cn cq cr cu cw cx cy cz cD cE cF cG cH cI cJ).bind λ(cM,cN,cO,cP,cQ,cR,cS,cT,cU,cV,cW,cX,cY,cZ,c8,c9,dc,de,_)=>
some (bP,bQ,bR,bS,bT,bU,bV,bW,bY,bZ,b8,b9,ca,cc,cd,cf,cg,ch,cM,cN,cO,cP,cQ,cR,cS,cT,cU,cV,cW,cX,cY,cZ,c8,c9,dc,de,()))else
some (bP,bQ,bR,bS,bT,bU,bV,bW,bY,bZ,b8,b9,ca,cc,cd,cf,cg,ch,ci,cj,cl,cn,cq,cr,cu,cw,cx,cy,cz,cD,cE,cF,cG,cH,cI,cJ,()):Option (T2N)).bind λ(cK,cL,cM,cN,cO,cP,cQ,cR,cS,cT,cU,cV,cW,cX,cY,cZ,c8,c9,dc,de,df,dg,dh,dk,dl,dm,dn,dp,dq,dx,dy,dz,dA,dB,dC,dD,_)=>
some (dc,de,df,dg,dh,dk,dl,dm,dn,dp,dq,dx,dy,dz,dA,dB,dC,dD,0,())else none
|some (.inr (aD,aE,aF,aG,aH,aI,aJ,aK,aL,aM,aO,aP,aQ,aR,aS,aT,aU,aV,aW,aY,aZ,ba,bc,bd,bf,bg,bh,bi,bj,bk,bl,bm,bn,bo,bp,bq,bt,bv,_))=>
(lr aZ ba bc bd bf bg bh bi aD aE).bind λ(bx,bz,bA,bB,bC,bD,bE,bF,bG,bH,bI,bJ,bK,bL,_)=>
let bM:LDEn:=[(1,(aD,(aE,(bD,(bE,(bF,(bG,(bH,(bI,(bJ,(bK,(0,(0,(0,(0,([],(0,false)))))))))))))))))];
bif(dW 184 bt.length bM.length)then let bN:LDEn:=(List.append bt bM);
(bif(bE==1)then((i7 bD bE bF bG bH bI bJ bK aZ ba bc bx bz bA bB bC bj bk bl bm bn bo bp bq bN bv).bind λ(bO,bP,bQ,bR,bS,bT,bU,bV,bW,bY,bZ,b8,b9,ca,cc,cd,cf,cg,_)=>
some (aD,aF,aG,aH,aI,aJ,aK,aL,aM,aO,aP,aQ,aR,aS,aT,aU,aV,aW,aY,bO,bP,bQ,bR,bS,bT,bU,bV,bW,bY,bZ,b8,b9,ca,cc,cd,cf,cg,()))else
some (aD,aF,aG,aH,aI,aJ,aK,aL,aM,aO,aP,aQ,aR,aS,aT,aU,aV,aW,aY,aZ,ba,bc,bx,bz,bA,bB,bC,bj,bk,bl,bm,bn,bo,bp,bq,bN,bv,()):Option (T2P)).bind λ(bO,bP,bQ,bR,bS,bT,bU,bV,bW,bY,bZ,b8,b9,ca,cc,cd,cf,cg,ch,ci,cj,cl,cn,cq,cr,cu,cw,cx,cy,cz,cD,cE,cF,cG,cH,cI,cJ,_)=>
((eq bO).bind λcK=>
(dJ cw cK).bind λcL=>
bif(cL.1==4)then((jP bO ci cj cl cn cq cr cu cw cx cy cz cD cE cF cG cH cI cJ).bind λ(cM,cN,cO,cP,cQ,cR,cS,cT,cU,cV,cW,cX,cY,cZ,c8,c9,dc,de,_)=>
some (bP,bQ,bR,bS,bT,bU,bV,bW,bY,bZ,b8,b9,ca,cc,cd,cf,cg,ch,cM,cN,cO,cP,cQ,cR,cS,cT,cU,cV,cW,cX,cY,cZ,c8,c9,dc,de,()))else
some (bP,bQ,bR,bS,bT,bU,bV,bW,bY,bZ,b8,b9,ca,cc,cd,cf,cg,ch,ci,cj,cl,cn,cq,cr,cu,cw,cx,cy,cz,cD,cE,cF,cG,cH,cI,cJ,()):Option (T2N)).bind λ(cK,cL,cM,cN,cO,cP,cQ,cR,cS,cT,cU,cV,cW,cX,cY,cZ,c8,c9,dc,de,df,dg,dh,dk,dl,dm,dn,dp,dq,dx,dy,dz,dA,dB,dC,dD,_)=>
some (dc,de,df,dg,dh,dk,dl,dm,dn,dp,dq,dx,dy,dz,dA,dB,dC,dD,0,())else none)
def Dg:X.Cfg:=⟨E0,[pd,sF,rY,sC,qJ,vU,rZ,tT],[(60,Im),(61,Im),(82,Im),(83,Im)],[⟨11,0,qE,[(.normal,(qS [zaa 4,Uaa 7,Uaa 8,zaa 9] [(10,uag),(20,uL [gk,RI,(yaa RW),RI,CW,(uaa KCe),lQ,sI,RW,RW,(yaa RW),(yaa ej),ia,iM,RI,(yaa RI),(uaa sK),(uaa I64)])])),(.normal,qS [zaa 4,Uaa 7,Uaa 8,zaa 9] [(10,uag),(20,zac)])]⟩,⟨17,1,qE,[(.normal,qS [zaa 4,Uaa 7,zaa 9] [(10,uag),(20,zac)])]⟩,⟨19,2,qE,[(.normal,qS [zaa 4,zaa 9] [(10,uag),(20,zac)])]⟩]⟩
def vK:Ctr:=⟨55,113,[.agg uah,.agg Xah],[],[⟨uL [gk,RI,(yaa RW),RI,CW,gp,is,i4,RW,RW,(yaa RW),(yaa ej),ia,iM,RI,(yaa RI),(uaa sK),(uaa I64),I64],[.agg 18,.one],[]⟩],ap21 na⟩
theorem CQ:Lk 8 vK:=ls Dg (aC tC (aC xM (aC yV (aC xH (aC xG (aC C4 (aC yW (aC AS aN))))))))
def oP:T2Z->Option (T2Z⊕((Int×Bool×LI×Int×Unit×Unit×Unit×Unit×Int×Unit×Unit×Unit×Unit×Unit×Unit×Unit×Unit×Unit×Unit×Unit×Unit×Unit×LDIn×LI×LLI×LI×Int×LDCe×LDLn×LDTh×LI×LI×LLI×LLCn×LDOp×LDOu×LI×LLI×LDEn×LI×T2o)⊕(Int×Bool×T2W))):=λ(v0,v1,v2,v3,v4,v5,v6,v7,v8,v9,v10,v11,v12,v13,v14,v15,v16,v17,v18,v19,v20,v21,v22,v23,v24,v25,v26,v27,v28,v29,v30,v31,v32,v33,v34,v35,v36,v37,v38,_)=>
bif(decide (v0>0))then((mg v1 v2).bind λ(x0,x1,x2,x3,x4,_)=>
(na v21 v22 v23 v24 v25 v26 v27 v28 v29 v30 v31 v32 v33 v34 v35 v36 v37 v38 x0 x1 x2).bind λ(x5,x6,x7,x8,x9,ac,ae,af,ag,ah,ai,aj,ak,am,an,ap,aq,av,ax,_)=>
bif(ax != 0)then(some (.inr (.inl (v0,true,x3,x4,v3,v4,v5,v6,v7,v8,v9,v10,v11,v12,v13,v14,v15,v16,v17,v18,v19,v20,v21,v22,v23,v24,v25,v26,v27,v28,v29,v30,v31,v32,v33,v34,v35,v36,v37,v38,x5,x6,x7,x8,x9,ac,ae,af,ag,ah,ai,aj,ak,am,an,ap,aq,av,()))))else
let ay:=w64 (v0-1);
some (.inl (ay,x3,x4,v3,v4,v5,v6,v7,v8,v9,v10,v11,v12,v13,v14,v15,v16,v17,v18,v19,v20,x5,x6,x7,x8,x9,ac,ae,af,ag,ah,ai,aj,ak,am,an,ap,aq,av,())))else
some (.inr (.inr (v0,false,v1,v2,v3,v4,v5,v6,v7,v8,v9,v10,v11,v12,v13,v14,v15,v16,v17,v18,v19,v20,v21,v22,v23,v24,v25,v26,v27,v28,v29,v30,v31,v32,v33,v34,v35,v36,v37,v38,())))
def rl(a0:List (Int))(a1:Int):Option (LDIn×LI×LLI×LI×Int×LDCe×LDLn×LDTh×LI×LI×LLI×LLCn×LDOp×LDOu×LI×LLI×LDEn×LI×T07):=
(kZ a0 a1).bind λ(x0,x1,x2,x3,x4,_)=>
(mf x1 x3 x4).bind λ(x5,x6,x7,x8,_)=>
(k8 x7 x8).bind λ(x9,ac,ae,af,ag,ah,ai,aj,_)=>
(lW x0 x1 x2 x5 x6 x9 ac ae af ag []).bind λ(ak,am,an,ap,aq,av,ax,ay,az,aA,aB,aD,aE,aF,aG,aH,aI,aJ,aK,_)=>
(dM 16 ai aj).bind λ(aL,aM,aO,_)=>
let aP:=w64 (3+aL);
(match dY oP NN (aP,aM,aO,(),(),(),(),0,(),(),(),(),(),(),(),(),(),(),(),(),(),ak,am,an,ap,aq,av,ax,ay,az,aA,aB,aD,aE,aF,aG,aH,[],aJ,())with
|none=>none
|some (.inl (aQ,aR,aS,aT,aU,aV,aW,aY,aZ,ba,bc,bd,bf,bg,bh,bi,bj,bk,bl,bm,bn,bo,bp,bq,bt,bv,bx,bz,bA,bB,bC,bD,bE,bF,bG,bH,bI,bJ,bK,bL,_))=>
some (bp,bq,bt,bv,bx,bz,bA,bB,bC,bD,bE,bF,bG,bH,bI,bJ,bK,bL,aS,aT,())
|some (.inr (aQ,aR,aS,aT,aU,aV,aW,aY,aZ,ba,bc,bd,bf,bg,bh,bi,bj,bk,bl,bm,bn,bo,bp,bq,bt,bv,bx,bz,bA,bB,bC,bD,bE,bF,bG,bH,bI,bJ,bK,bL,_))=>
some (bp,bq,bt,bv,bx,bz,bA,bB,bC,bD,bE,bF,bG,bH,bI,bJ,bK,bL,aS,aT,()))
def HU:X.Cfg:=⟨E0,[sd,uj,se,tU,gn,uk,vK],[],[⟨5,0,qS [zaa 0,zaa 2,zaa 4,Uaa 6] [(2,yab),(6,uag),(10,zac)],[(.exit 0,qS [zaa 0,zaa 2,zaa 4,Uaa 6,zaa 7,Xaa 37] [(2,yab),(6,uag),(10,uah),(16,zac)]),(.exit 0,qS [zaa 0,zaa 2,zaa 4,Uaa 6,Xaa 26] [(2,yab),(6,uag),(10,zac)])]⟩]⟩
def Ap:Ctr:=⟨23,114,[.ptr ⟨2,0,[]⟩ [0]],[(2,yab)],[⟨uah,[.agg 18],[(2,yab)]⟩],ap2 rl⟩
theorem HM:Lk 9 Ap:=ls HU (aC za (aC Bc (aC zb (aC AT (aC gV (aC Bd (aC CQ aN)))))))
def eV(a0:Int)(a1:Int)(a2:Int):Option (Bool×Unit):=
bif(decide (a0>=a1))then(some ((decide (a0<=a2)),()))else
some (false,())
def uV:X.Cfg:=⟨E0,[],[],[]⟩
def om:Ctr:=⟨66,118,uL [I64,I64,I64],[],[⟨uab,[.one],[]⟩],ap3 eV⟩
theorem uO:Lk 1 om:=ls uV aN
def fS(a0:Int)(a1:Int)(a2:Int)(a3:Int):Option (Bool×Unit):=
bif(a0==0)then(bif(a2==0)then(some ((a3==0),()))else
some (false,()))else
bif(a0==2)then(bif(a2==0)then(some ((a3==0),()))else
some (false,()))else
bif(a0==1)then((bif(a2==(-1))then(bif(decide (a3>=0))then(some ((decide (a3<=65535)),a0,a1,a2,a3,()))else
some (false,a0,a1,a2,a3,()))else
some (false,a0,a1,a2,a3,()):Option (T0H)).bind λ(x0,x1,x2,x3,x4,_)=>
bif(x2==0)then(bif x0 then(some (true,()))else
bif(decide (x3>=0))then(bif(decide (x3<4))then(bif(decide (x4>=0))then(some ((decide (x4<32)),()))else
some (false,()))else
some (false,()))else
some (false,()))else
some (false,()))else
some (false,())
def ze:X.Cfg:=⟨E0,[],[],[⟨7,0,qE,[(.normal,qS [zaa 1,Xaa 3] [(4,Zaf)])]⟩]⟩
def nU:Ctr:=⟨68,119,[.agg Zaf],[],[⟨uab,[.one],[]⟩],ap4 fS⟩
theorem rS:Lk 1 nU:=ls ze aN
def iN(a0:Int)(a1:Int)(a2:Int)(a3:Int):Option (Bool×Unit):=
(fS a0 a1 a2 a3).bind λ(x0,_)=>
some ((!x0),())
def uW:X.Cfg:=⟨E0,[nU],[],[]⟩
def oo:Ctr:=⟨106,120,[.agg Zaf],[],[⟨uab,[.one],[]⟩],ap4 iN⟩
theorem uP:Lk 2 oo:=ls uW (aC rS aN)
def fe:T0h->Option (T0h⊕((Int×Unit)⊕T0v)):=λ(v0,v1,v2,_)=>
bif(decide (v2<v1))then((eq v2).bind λx0=>
(dJ v0 x0).bind λx1=>
(iN x1.1 x1.2.1 x1.2.2.1 x1.2.2.2).bind λ(x2,_)=>
bif x2 then(some (.inr (.inl (v2,()))))else
let x3:=w64 (v2+1);
some (.inl (v0,v1,x3,())))else
some (.inr (.inr (v0,v1,v2,false,())))
def fc(a0:LDCn):Option (Int×Unit):=
let x0:=dO a0.length;
(match dY fe NN (a0,x0,0,())with
|none=>none
|some (.inl (x1,_))=>
some (x1,())
|some (.inr (x1,_))=>
some ((-1),()))
def oj:X.Cfg:=⟨E0,[oo],[],[⟨3,0,(qS [sP 0 ej,(1,.fn 106 []),Uaa 7,Uaa 8] []),[(.ret,qS [Uaa 4] []),(.exit 0,(qS [sP 0 ej,(1,.fn 106 []),Uaa 7,Uaa 8,Xaa 9] []))]⟩]⟩
def jF:Ctr:=⟨133,121,[shU ej,.fn 106 []],[],[⟨Xac,[.one],[]⟩],ap1 fc⟩
theorem og:Lk 3 jF:=ls oj (aC uP aN)
def ft(a0:LDCn):Option (Bool×Unit):=
(fc a0).bind λ(x0,_)=>
some ((decide (x0>=0)),())
def mV:X.Cfg:=⟨E0,[jF],[],[]⟩
def iJ:Ctr:=⟨105,122,[shU ej,.fn 106 []],[],[⟨uab,[.one],[]⟩],ap1 ft⟩
theorem mT:Lk 4 iJ:=ls mV (aC og aN)
def fC(a0:LDCn)(a1:Int):Option (Bool×Unit):=
let x0:=dO a0.length;
bif(decide (x0<=a1))then((ft a0).bind λ(x1,_)=>
some ((!x1),()))else
some (false,())
def xS:X.Cfg:=⟨E0,[iJ],[],[]⟩
def m0:Ctr:=⟨67,123,uL [ej,I64],[],[⟨uab,[.one],[]⟩],ap2 fC⟩
theorem qq:Lk 5 m0:=ls xS (aC mT aN)
def fZ(a0:Int)(a1:Int)(a2:Int)(a3:Int)(a4:Int)(a5:Int)(a6:LDCn)(a7:LDCn):Option (Bool×Unit):=
(eV a0 0 3).bind λ(x0,_)=>
bif x0 then((eV a1 0 3).bind λ(x1,_)=>
bif x1 then((eV a2 0 6).bind λ(x2,_)=>
bif x2 then((eV a3 0 1099511627776).bind λ(x3,_)=>
bif x3 then((eV a4 0 255).bind λ(x4,_)=>
bif x4 then((eV a5 0 15).bind λ(x5,_)=>
bif x5 then((fC a6 3).bind λ(x6,_)=>
bif x6 then((fC a7 16).bind λ(x7,_)=>
some (x7,()))else
some (false,()))else
some (false,()))else
some (false,()))else
some (false,()))else
some (false,()))else
some (false,()))else
some (false,())
def xR:X.Cfg:=⟨E0,[om,m0],[],[]⟩
def mZ:Ctr:=⟨34,124,[.agg yac],[],[⟨uab,[.one],[]⟩],ap8 fZ⟩
theorem qp:Lk 6 mZ:=ls xR (aC uO (aC qq aN))
def fr:T0w->Option (T0w⊕((Bool×Unit)⊕(LDCn×T0v))):=λ(v0,v1,v2,v3,_)=>
bif(decide (v3<v2))then((eq v3).bind λx0=>
(dJ v0 x0).bind λx1=>
(eq v3).bind λx2=>
(dJ v1 x2).bind λx3=>
let x4:Bool:=(!((x1.1==x3.1)&&((x1.2.1==x3.2.1)&&((x1.2.2.1==x3.2.2.1)&&((x1.2.2.2==x3.2.2.2)&&true)))));
bif x4 then(some (.inr (.inl (false,()))))else
let x5:=w64 (v3+1);
some (.inl (v0,v1,v2,x5,())))else
some (.inr (.inr (v0,v1,v2,v3,false,())))
def eJ(a0:LDCn)(a1:LDCn):Option (Bool×Unit):=
let x0:=dO a0.length;
let x1:=dO a1.length;
bif(x0 != x1)then(some (false,()))else
let x2:=dO a0.length;
(match dY fr NN (a0,a1,x2,0,())with
|none=>none
|some (.inl (x3,_))=>
some (x3,())
|some (.inr (x3,_))=>
some (true,()))
def rF:X.Cfg:=⟨E0,[],[],[⟨6,0,qS [sP 0 ej,sP 1 ej,Uaa 12,Uaa 13] [],[(.ret,qS [Xaa 4] []),(.exit 0,qS [sP 0 ej,sP 1 ej,Uaa 12,Uaa 13,Xaa 14] [])]⟩]⟩
def lP:Ctr:=⟨49,125,uL [ej,ej],[],[⟨uab,[.one],[]⟩],ap2 eJ⟩
theorem rD:Lk 1 lP:=ls rF aN
def fh(a0:Int)(a1:Int)(a2:Int)(a3:Int)(a4:Int)(a5:Int)(a6:LDCn)(a7:LDCn)(a8:Int)(a9:Int)(a10:Int)(a11:Int)(a12:Int)(a13:Int)(a14:LDCn)(a15:LDCn):Option (Bool×Unit):=
bif(a0==a8)then(bif(a1==a9)then(bif(a2==a10)then(bif(a3==a11)then(bif(a4==a12)then(bif(a5==a13)then((eJ a6 a14).bind λ(x0,_)=>
bif x0 then((eJ a7 a15).bind λ(x1,_)=>
some (x1,()))else
some (false,()))else
some (false,()))else
some (false,()))else
some (false,()))else
some (false,()))else
some (false,()))else
some (false,())
def zd:X.Cfg:=⟨E0,[lP],[],[]⟩
def nT:Ctr:=⟨35,126,[.agg yac,.agg yac],[],[⟨uab,[.one],[]⟩],ap16 fh⟩
theorem rR:Lk 2 nT:=ls zd (aC rD aN)
def fL(a0:Int)(a1:Int)(a2:Int)(a3:Int)(a4:LDCn)(a5:Int)(a6:Bool):Option (Bool×Unit):=
let x0:Bool:=((a0==0)&&((a1==0)&&((a2==0)&&((a3==0)&&true))));
bif x0 then(let x1:Int:=(dO a4.length);
bif(x1==0)then(bif(a5==0)then(some ((!a6),()))else
some (false,()))else
some (false,()))else
some (false,())
def wy:X.Cfg:=⟨E0,[],[],[]⟩
def pI:Ctr:=⟨36,127,[.agg yae],[],[⟨uab,[.one],[]⟩],ap7 fL⟩
theorem wt:Lk 1 pI:=ls wy aN
def fU(a0:Int)(a1:Int)(a2:Int)(a3:Int)(a4:LDCn)(a5:Int)(a6:Bool):Option (Bool×Unit):=
(fS a0 a1 a2 a3).bind λ(x0,_)=>
bif x0 then((fC a4 16).bind λ(x1,_)=>
bif x1 then(bif(decide (a5>=(-1)))then(some ((decide (a5<4)),()))else
some (false,()))else
some (false,()))else
some (false,())
def zr:X.Cfg:=⟨E0,[nU,m0],[],[]⟩
def sb:Ctr:=⟨37,128,[.agg yae],[],[⟨uab,[.one],[]⟩],ap7 fU⟩
theorem y9:Lk 6 sb:=ls zr (aC rS (aC qq aN))
def eU(a0:Int)(a1:Int)(a2:Int)(a3:Int)(a4:Int)(a5:Int)(a6:Int)(a7:Int)(a8:Int)(a9:LDCn)(a10:LDCn)(a11:Int)(a12:Int)(a13:Int)(a14:Int)(a15:LDCn)(a16:Int)(a17:Bool):Option (Bool×Unit):=
bif(decide (a1<0))then(some (false,()))else
bif(decide (a1>=4))then(some (false,()))else
(fZ a3 a4 a5 a6 a7 a8 a9 a10).bind λ(x0,_)=>
bif x0 then((fh a3 a4 a5 a6 a7 a8 a9 a10 0 0 0 0 0 0 [] []).bind λ(x1,_)=>
bif(a0==1)then(bif(decide (a2>=1))then(bif(decide (a2<=64))then(bif(a3==a1)then(bif(a4 != 3)then((fL a11 a12 a13 a14 a15 a16 a17).bind λ(x2,_)=>
some (x2,()))else
some (false,()))else
some (false,()))else
some (false,()))else
some (false,()))else
bif(a0==2)then(bif(a2==0)then(bif(a3==a1)then(bif(a4==1)then((fU a11 a12 a13 a14 a15 a16 a17).bind λ(x2,_)=>
some (x2,()))else
some (false,()))else
some (false,()))else
some (false,()))else
bif(a0==3)then(bif(a2==0)then(bif x1 then((fL a11 a12 a13 a14 a15 a16 a17).bind λ(x2,_)=>
some (x2,()))else
some (false,()))else
some (false,()))else
bif(a0==4)then(bif(a2==0)then(bif x1 then((fU a11 a12 a13 a14 a15 a16 a17).bind λ(x2,_)=>
bif x2 then(bif(a16==(-1))then(bif(!a17)then(let x3:Int:=(dO a15.length);
some ((x3==0),()))else
some (false,()))else
some (false,()))else
some (false,()))else
some (false,()))else
some (false,()))else
some (false,()))else
(fh a3 a4 a5 a6 a7 a8 a9 a10 0 0 0 0 0 0 [] []).bind λ(x1,_)=>
bif(a0==1)then(bif(decide (a2>=1))then(bif(decide (a2<=64))then(some (false,()))else
some (false,()))else
some (false,()))else
bif(a0==2)then(bif(a2==0)then(some (false,()))else
some (false,()))else
bif(a0==3)then(bif(a2==0)then(bif x1 then((fL a11 a12 a13 a14 a15 a16 a17).bind λ(x2,_)=>
some (x2,()))else
some (false,()))else
some (false,()))else
bif(a0==4)then(bif(a2==0)then(bif x1 then((fU a11 a12 a13 a14 a15 a16 a17).bind λ(x2,_)=>
bif x2 then(bif(a16==(-1))then(bif(!a17)then(let x3:Int:=(dO a15.length);
some ((x3==0),()))else
some (false,()))else
some (false,()))else
some (false,()))else
some (false,()))else
some (false,()))else
some (false,())
def zq:X.Cfg:=⟨E0,[mZ,nT,pI,sb],[],[]⟩
def li:Ctr:=⟨16,129,[.agg Uag],[],[⟨uab,[.one],[]⟩],ap18 eU⟩
theorem nR:Lk 7 li:=ls zq (aC qp (aC rR (aC wt (aC y9 aN))))
def fY(a0:Int)(a1:Int)(a2:Int)(a3:Int)(a4:Int)(a5:Int)(a6:Int)(a7:Int)(a8:Int)(a9:LDCn)(a10:LDCn)(a11:Int)(a12:Int)(a13:Int)(a14:Int)(a15:LDCn)(a16:Int)(a17:Bool)(a18:List (Int))(a19:List (Int×Int×Int×Int×Int×Int×LDCn×LDCn)):Option (T1O):=
(eq a1).bind λx0=>
(dJ a18 x0).bind λx1=>
((dJ a18 x0).bind λx2=>
bif(x2 != 2)then(some (x0,a16,true,a18,a19,a0,a1,a2,a3,a4,a5,a6,a7,a8,a9,a10,a11,a12,a13,a14,a15,a16,a17,()))else
(eq a1).bind λx3=>
(dJ a19 x3).bind λx4=>
(dJ a19 x3).bind λx5=>
(fh a3 a4 a5 a6 a7 a8 a9 a10 x5.1 x5.2.1 x5.2.2.1 x5.2.2.2.1 x5.2.2.2.2.1 x5.2.2.2.2.2.1 x5.2.2.2.2.2.2.1 x5.2.2.2.2.2.2.2).bind λ(x6,_)=>
bif(!x6)then(some (x0,a16,true,a18,a19,a0,a1,a2,a3,a4,a5,a6,a7,a8,a9,a10,a11,a12,a13,a14,a15,a16,a17,()))else
bif(a16 != (-1))then((eq a16).bind λx7=>
(dJ a18 x7).bind λx8=>
(dJ a18 x7).bind λx9=>
bif(x9 != 0)then(some (x0,a16,true,a18,a19,a0,a1,a2,a3,a4,a5,a6,a7,a8,a9,a10,a11,a12,a13,a14,a15,a16,a17,()))else
some (x0,a16,(a8 != 10),a18,a19,a0,a1,a2,a3,a4,a5,a6,a7,a8,a9,a10,a11,a12,a13,a14,a15,a16,a17,()))else
some (x0,a16,false,a18,a19,a0,a1,a2,a3,a4,a5,a6,a7,a8,a9,a10,a11,a12,a13,a14,a15,a16,a17,()):Option (Nat×Int×Bool×LI×(List (Int×Int×Int×Int×Int×Int×LDCn×LDCn))×T2m)).bind λ(x2,x3,x4,x5,x6,x7,x8,x9,ac,ae,af,ag,ah,ai,aj,ak,am,an,ap,aq,av,ax,ay,_)=>
bif x4 then(some (false,x5,x6,()))else
(bif(ai==0)then((dJ x5 x2).bind λaz=>
let aA:=List.modify x5 x2 λe=>4;
some (x3,aA,x6,()))else
bif ay then((dJ x5 x2).bind λaz=>
let aA:=List.modify x5 x2 λe=>3;
some (x3,aA,x6,()))else
(dJ x5 x2).bind λaz=>
let aA:=List.modify x5 x2 λe=>1;
some (x3,aA,x6,()):Option (T1U)).bind λ(az,aA,aB,_)=>
(bif(az != (-1))then((eq az).bind λaD=>
(dJ aA aD).bind λaE=>
(dJ aA aD).bind λaF=>
let aG:=List.modify aA aD λe=>1;
some (aG,aB,()))else
some (aA,aB,()):Option (T1I)).bind λ(aD,aE,_)=>
some (true,aD,aE,())
def uZ:X.Cfg:=⟨E0,[nT],[],[⟨3,0,qE,[(.normal,(qS [Zaa 0 3,Zaa 1 5,zaa 5,(7,.ptr ⟨3,0,[((),(1,0))]⟩ [0,0]),Uaa 8,Xaa 47] [(3,uac),(5,[shU (uaa (.pair I64 (.pair I64 (.pair I64 (.pair I64 (.pair I64 (.pair I64 (.pair ej ej))))))))]),(12,Uag)]))]⟩,⟨5,1,qE,[(.normal,(qS [Zaa 0 3,Zaa 1 5,Uaa 8] [(3,uac),(5,[shU (uaa (.pair I64 (.pair I64 (.pair I64 (.pair I64 (.pair I64 (.pair I64 (.pair ej ej))))))))])]))]⟩,⟨8,2,qE,[(.normal,(qS [Zaa 0 3,Zaa 1 5] [(3,uac),(5,[shU (uaa (.pair I64 (.pair I64 (.pair I64 (.pair I64 (.pair I64 (.pair I64 (.pair ej ej))))))))])]))]⟩]⟩
def ot:Ctr:=⟨65,130,[.pk ⟨3,0,[]⟩ [0,0],.pk ⟨5,0,[]⟩ [0,0],.agg Uag],[(3,uac),(5,[shU (uaa (.pair I64 (.pair I64 (.pair I64 (.pair I64 (.pair I64 (.pair I64 (.pair ej ej))))))))])],[⟨uab,[.one],[(3,uac),(5,[shU (uaa (.pair I64 (.pair I64 (.pair I64 (.pair I64 (.pair I64 (.pair I64 (.pair ej ej))))))))]),(1000000,[]),(1000001,[])]⟩],ap20 fY⟩
theorem uR:Lk 3 ot:=ls uZ (aC rR aN)
def fm(a0:Int)(a1:Int)(a2:Int)(a3:Int)(a4:Int)(a5:Int)(a6:Int)(a7:Int)(a8:Int)(a9:LDCn)(a10:LDCn)(a11:Int)(a12:Int)(a13:Int)(a14:Int)(a15:LDCn)(a16:Int)(a17:Bool)(a18:List (Int))(a19:List (Int×Int×Int×Int×Int×Int×LDCn×LDCn)):Option (T1O):=
(eq a1).bind λx0=>
(dJ a18 x0).bind λx1=>
(match(bif(a0==1)then((dJ a18 x0).bind λx2=>
bif(x2 != 1)then(some (.inl (false,a18,a19,())))else
(eq a1).bind λx3=>
(dJ a19 x3).bind λx4=>
(dJ a19 x3).bind λx5=>
let x6:=(List.modify a19 x3 λe=>(a3,(a4,(a5,(a6,(a7,(a8,(a9,a10))))))));
bif(a4==2)then((dJ a18 x0).bind λx7=>
let x8:=List.modify a18 x0 λe=>4;
some (.inr (x8,x6,())))else
bif(a4==1)then((dJ a18 x0).bind λx7=>
let x8:=List.modify a18 x0 λe=>2;
some (.inr (x8,x6,())))else
some (.inr (a18,x6,())))else
bif(a0==2)then((fY a0 a1 a2 a3 a4 a5 a6 a7 a8 a9 a10 a11 a12 a13 a14 a15 a16 a17 a18 a19).bind λ(x2,x3,x4,_)=>
some (.inl (x2,x3,x4,())))else
bif(a0==3)then((dJ a18 x0).bind λx2=>
some (.inl ((x2==1),a18,a19,())))else
bif(a0==4)then((dJ a18 x0).bind λx2=>
bif(x2 != 3)then(some (.inl (false,a18,a19,())))else
(dJ a18 x0).bind λx3=>
let x4:=List.modify a18 x0 λe=>1;
some (.inr (x4,a19,())))else
some (.inr (a18,a19,())):Option (T1O⊕T1I))with
|none=>none
|some (.inl (x2,x3,x4,_))=>
some (x2,x3,x4,())
|some (.inr (x2,x3,_))=>
some (true,x2,x3,()))
def wz:X.Cfg:=⟨E0,[ot],[],[⟨2,0,qE,[(.ret,(qS [Zaa 0 3,Zaa 1 5,Xaa 6] [(3,uac),(5,[shU (uaa (.pair I64 (.pair I64 (.pair I64 (.pair I64 (.pair I64 (.pair I64 (.pair ej ej))))))))])])),(.normal,(qS [Zaa 0 3,Zaa 1 5] [(3,uac),(5,[shU (uaa (.pair I64 (.pair I64 (.pair I64 (.pair I64 (.pair I64 (.pair I64 (.pair ej ej))))))))])]))]⟩]⟩
def pJ:Ctr:=⟨32,131,[.pk ⟨3,0,[]⟩ [0,0],.pk ⟨5,0,[]⟩ [0,0],.agg Uag],[(3,uac),(5,[shU (uaa (.pair I64 (.pair I64 (.pair I64 (.pair I64 (.pair I64 (.pair I64 (.pair ej ej))))))))])],[⟨uab,[.one],[(3,uac),(5,[shU (uaa (.pair I64 (.pair I64 (.pair I64 (.pair I64 (.pair I64 (.pair I64 (.pair ej ej))))))))]),(1000000,[]),(1000001,[])]⟩],ap20 fm⟩
theorem wu:Lk 4 pJ:=ls wz (aC uR aN)
def ii:T2b->Option (T2b⊕((Bool×Unit×Unit)⊕(LDEn×Int×Int×T1O))):=λ(v0,v1,v2,v3,v4,_)=>
bif(decide (v2<v1))then((eq v2).bind λx0=>
(dJ v0 x0).bind λx1=>
(eU x1.1 x1.2.1 x1.2.2.1 x1.2.2.2.1 x1.2.2.2.2.1 x1.2.2.2.2.2.1 x1.2.2.2.2.2.2.1 x1.2.2.2.2.2.2.2.1 x1.2.2.2.2.2.2.2.2.1 x1.2.2.2.2.2.2.2.2.2.1 x1.2.2.2.2.2.2.2.2.2.2.1 x1.2.2.2.2.2.2.2.2.2.2.2.1 x1.2.2.2.2.2.2.2.2.2.2.2.2.1 x1.2.2.2.2.2.2.2.2.2.2.2.2.2.1 x1.2.2.2.2.2.2.2.2.2.2.2.2.2.2.1 x1.2.2.2.2.2.2.2.2.2.2.2.2.2.2.2.1 x1.2.2.2.2.2.2.2.2.2.2.2.2.2.2.2.2.1 x1.2.2.2.2.2.2.2.2.2.2.2.2.2.2.2.2.2).bind λ(x2,_)=>
bif(!x2)then(some (.inr (.inl (false,(),()))))else
(fm x1.1 x1.2.1 x1.2.2.1 x1.2.2.2.1 x1.2.2.2.2.1 x1.2.2.2.2.2.1 x1.2.2.2.2.2.2.1 x1.2.2.2.2.2.2.2.1 x1.2.2.2.2.2.2.2.2.1 x1.2.2.2.2.2.2.2.2.2.1 x1.2.2.2.2.2.2.2.2.2.2.1 x1.2.2.2.2.2.2.2.2.2.2.2.1 x1.2.2.2.2.2.2.2.2.2.2.2.2.1 x1.2.2.2.2.2.2.2.2.2.2.2.2.2.1 x1.2.2.2.2.2.2.2.2.2.2.2.2.2.2.1 x1.2.2.2.2.2.2.2.2.2.2.2.2.2.2.2.1 x1.2.2.2.2.2.2.2.2.2.2.2.2.2.2.2.2.1 x1.2.2.2.2.2.2.2.2.2.2.2.2.2.2.2.2.2 v3 v4).bind λ(x3,x4)=>
bif(!x3)then(some (.inr (.inl (false,(),()))))else
let x6:=w64 (v2+1);
some (.inl (v0,v1,x6,x4)))else
some (.inr (.inr (v0,v1,v2,false,v3,v4,())))
def fv(a0:LDEn):Option (LI×Bool×Unit):=
bif(pR 4 4 1)then let x0:List (Int):=(List.replicate 4 0);
(dJ x0 0).bind λx1=>
(dJ x0 0).bind λx2=>
let x3:=List.modify x0 0 λe=>1;
bif(pR 4 4 8)then let x4:List (Int×Int×Int×Int×Int×Int×LDCn×LDCn):=(List.replicate 4 (0,(0,(0,(0,(0,(0,([],[]))))))));
let x5:=dO a0.length;
(match dY ii NN (a0,x5,0,x3,x4,())with
|none=>none
|some (.inl (x6,x7,_))=>
some ([],x6,())
|some (.inr (x6,x7,x8,x9,ac,ae,_))=>
some (ac,true,()))else none else none
def ya:X.Cfg:=⟨E0,[li,pJ],[(11,(.pair I64 (.pair I64 (.pair I64 (.pair I64 (.pair I64 (.pair I64 (.pair (uaa KCn) (uaa KCn)))))))))],[⟨6,0,(qS [Zaa 4 11,Zaa 5 13,sP 12 Cd,Uaa 13,Uaa 14] [(11,uac),(13,[shU (uaa (.pair I64 (.pair I64 (.pair I64 (.pair I64 (.pair I64 (.pair I64 (.pair ej ej))))))))])]),[(.ret,(qS [Zaa 2 7,Xaa 3] [(7,uL [N1])])),(.exit 0,(qS [Zaa 4 11,Zaa 5 13,sP 12 Cd,Uaa 13,Uaa 14,Xaa 15] [(11,uac),(13,[shU (uaa (.pair I64 (.pair I64 (.pair I64 (.pair I64 (.pair I64 (.pair I64 (.pair ej ej))))))))])]))]⟩]⟩
def m6:Ctr:=⟨12,132,uL [Cd],[],[⟨uL [(uaa I64),.bool],[.one,.one],[]⟩],ap1 fv⟩
theorem qv:Lk 8 m6:=ls ya (aC nR (aC wu aN))
def nV(a0:Int)(a1:Int)(a2:Int)(a3:Int)(a4:Int)(a5:Int)(a6:Int)(a7:Int)(a8:Int)(a9:LDCn)(a10:LDCn)(a11:Int)(a12:Int)(a13:Int)(a14:Int)(a15:LDCn)(a16:Int)(a17:Bool):Option (Bool×Unit):=
(eU a0 a1 a2 a3 a4 a5 a6 a7 a8 a9 a10 a11 a12 a13 a14 a15 a16 a17).bind λ(x0,_)=>
some ((!x0),())
def u3:X.Cfg:=⟨E0,[li],[],[]⟩
def ou:Ctr:=⟨43,133,[.agg Uag],[],[⟨uab,[.one],[]⟩],ap18 nV⟩
theorem uS:Lk 8 ou:=ls u3 (aC nR aN)
end
end Go.Proofs.YtoldehogdgdhmaaGreat
