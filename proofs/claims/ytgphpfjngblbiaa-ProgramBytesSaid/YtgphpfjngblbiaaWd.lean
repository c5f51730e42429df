/- Part of the proof; no condition. -/
import Derived.Test.YtgphpfjngblbiaaWc
import Derived.Orders
import Derived.Deep.DeepAppendRoom
import Derived.ArgAppend
import Derived.Lib.AppendZerosOnto
import Derived.Deep.DeepCutAuto
import Derived.Deep.CutBlock
import Derived.Test.YtgphpfjngblbiaaProg
import Derived.KernelRfl
import Derived.WalkKit
import Derived.WalkSpells
import Derived.Handy
import Derived.OpenShut
import Derived.Deep.Slices
set_option linter.unusedVariables false
set_option linter.unusedSimpArgs false
namespace Go.Proofs.Ytgphpfjngblbiaa
open Go.RowKit
def pG(f:Nat->Value):Operand->Value
 |.tmp t=>f t
 |.const v=>v
 |.global g=>.pointer (some ⟨g,0,none⟩)
 |.func f=>.func (.func f) #[] #[]
def xL(f:Nat->Value):Option Tmp->Value
 |some t=>f t
 |none=>undef
def xy(f:Nat->Value)(o:Oper):Value:=
 match o.dst with
 |some t=>f t
 |none=>match o.op with
  |.store _ (.tmp t) _=>f t
  |_=>undef
def uh(f:Nat->Value)(o:Oper)(v:Value):Value:=
 match o.dst with
 |some _=>v
 |none=>xy f o
def gY(o:Oper)(j:Nat):Bool:=o.after.toList.any λe=>e.on==j&&Region.binds .any e
def gk(l:List Oper)(t:Tmp):Option Nat:=l.findIdx? λo=>o.dst==some t
def vZ(l:List Oper)(old:Nat->Value)(Ss:List (Value->World->Prop))(o:Oper)(f:Nat->Value)(w:World)(t:Tmp):Prop:=
 match gk l t with
 |none=>f t=old t
 |some j=>if gY o j then(Ss.getD j λ_ _=>False) (f t) w else f t=old t
def wh(l:List Oper)(f:Nat->Value)(o:Oper):Bool:=
 match o.guard with
 |none=>true
 |some (j,b)=>match(l[j]?).bind (·.dst)with
  |some d=>(match f d with|.bool c=>c==b|_=>false)
  |none=>false
def fH(P:Program)(UV:Value->World->Prop):Result Next->Prop
 |.ok (.value v) w'=>UV v w'
 |.ok .skip w'=>UV undef w'
 |.ok (.enter f args) w'=>Calls P f args w' λe Wm=>∃v,e=.returned v/\UV v Wm
 |_=>False
def DO(f:Nat->Value)(d:Option Tmp)(v:Value):Nat->Value:=λt=>match d with
 |some k=>if k=t then v else f t
 |none=>f t
def vm(l:List Oper):Nat->Nat->Nat->Bool
 |0,_,_=>false
 |n+1,j,i=>(l.getD j default).after.any λe=>Region.binds .any e&&(e.on==i||vm l n e.on i)
def vV(l:List Oper)(d t:Tmp):Bool:=match gk l d,gk l t with
 |some i,some j=>j==i||vm l l.length j i
 |_,_=>false
def Dw(base:(Nat->Value)->World->Prop)(R:World->World->Prop)(s:Value->World->Prop)(f:Nat->Value)(o:Oper)(w:World)(v:Value)(w':World):Prop:=base (DO f o.dst v) w'/\R w w'/\s (uh f o v) w'
def EL(P:Program)(l:List Oper)(old:Nat->Value)(base:(Nat->Value)->World->Prop)(R:World->World->Prop)(Ss:List (Value->World->Prop))(o:Oper)(s:Value->World->Prop):Prop:=
 ∀(f:Nat->Value)(w:World),base f w->(∀t∈o.looksAt l.toArray,vZ l old Ss o f w t)->(∀d t,o.dst=some d->vV l d t=true->f t=old t)->
  if wh l f o=true then fH P (λv w'=>Dw base R s f o w v w') ((execOp (pG f) o).run P w)else base (DO f o.dst undef) w/\s (uh f o undef) w
def lP(P:Program)(l:List Oper)(old:Nat->Value)(base:(Nat->Value)->World->Prop)(R:World->World->Prop)(Ss:List (Value->World->Prop)):List Oper->List (Value->World->Prop)->Prop
 | [],[]=>True
 |o::r,s::rs=>EL P l old base R Ss o s/\lP P l old base R Ss r rs
 |_,_=>False
def Dz(R:World->World->Prop):List (Value->World->Prop)->Prop
 | []=>True
 |s::r=>(∀w w' u,R w w'->s u w->s u w')/\Dz R r
def fh(f:Nat->Value):List Oper->Act->Act
 | [],a=>a
 |o::r,a=>fh f r (a.put o.dst (xL f o.dst))
def Ex(f:Nat->Value)(w:World):List Oper->List (Value->World->Prop)->Prop
 |o::r,s::rs=>s (xy f o) w/\Ex f w r rs
 |_,_=>True
def tX(l:List Oper)(n:Nat):Bool:=
 (l.zipIdx.all λ(o,k)=>
  (match o.dst with|some d=>gk l d==some k&&decide (d<n)|none=>true) &&
  (o.after.all λe=>!Region.binds .any e||decide (e.on<k)) &&
  (o.looksAt l.toArray).all λt=>match gk l t with
   |none=>true
   |some j=>gY o j||gY (l.getD j default) k) &&
 (l.all λo=>match o.dst,o.op with
  |none,.store _ (.tmp t) _=>(match gk l t with|none=>true|some j=>gY o j)
  |_,_=>true) &&
 l.all λo=>match o.guard with
  |none=>true
  |some (j,_)=>match(l[j]?).bind (·.dst)with|some d=>(o.looksAt l.toArray).contains d|none=>false
section
variable {P:Program} {l:List Oper} {a0:Act} {base:(Nat->Value)->World->Prop} {R:World->World->Prop} {Ss:List (Value->World->Prop)}
structure JJ (l:List Oper)(a0:Act)(base:(Nat->Value)->World->Prop)(Ss:List (Value->World->Prop))(listed:Array Bool)(a:Act)(w:World):Prop where
 base_:base (λt=>a.tmps.getD t undef) w
 defers:a.defers=a0.defers
 lsize:listed.size=l.length
 asize:a.tmps.size=a0.tmps.size
 old:∀t,(∀(j:Nat) o,l[j]?=some o->o.dst=some t->listed.getD j true=false)->a.tmps.getD t undef=a0.tmps.getD t undef
 says:∀(j:Nat) o s,l[j]?=some o->Ss[j]?=some s->listed.getD j false=true->s (xy (λt=>a.tmps.getD t undef) o) w
 down:∀(j:Nat) o,l[j]?=some o->listed.getD j false=true->∀e∈o.after,Region.binds .any e=true->listed.getD e.on false=true
theorem Bx(a:Act):a.eval=pG λt=>a.tmps.getD t undef:=by funext x;cases x<;>rfl
theorem lP.at_{lo:List Oper}{ls:List (Value->World->Prop)}:∀{o:Oper}{k:Nat},lP P l (λt=>a0.tmps.getD t undef) base R Ss lo ls->lo[k]?=some o->∃s,ls[k]?=some s/\EL P l (λt=>a0.tmps.getD t undef) base R Ss o s:=by
 induction lo generalizing ls with
 |nil=>intro o k _ h;simp at h
 |cons x r ih=>
  intro o k hd h
  match ls,hd with
  |s::rs,hd=>
   cases k with
   |zero=>simp at h;subst h;exact⟨s,rfl,hd.1⟩
   |succ k=>simpa using ih hd.2 (by simpa using h)
theorem Dz.at_:∀{ls:List (Value->World->Prop)}{k:Nat}{s:Value->World->Prop},Dz R ls->ls[k]?=some s->∀w w' u,R w w'->s u w->s u w'
 | [],_,_,_,h=>by simp at h
 |x::r,0,s,hk,h=>by simp at h;subst h;exact hk.1
 |x::r,k+1,s,hk,h=>Dz.at_ hk.2 (by simpa using h)
theorem tK{t:Tmp}{j:Nat}(h:gk l t=some j):∃o,l[j]?=some o/\o.dst=some t:=by
 unfold gk at h;rw[List.findIdx?_eq_some_iff_getElem]at h;obtain⟨hj,h1,_⟩:=h;exact⟨l[j],oGE hj,by simpa using h1⟩
theorem tL{t:Tmp}(h:gk l t=none):∀(j:Nat) o,l[j]?=some o->o.dst≠some t:=by
 unfold gk at h;rw[List.findIdx?_eq_none_iff]at h;intro j o hj e;have:=h o (List.mem_of_getElem? hj);simp[e]at this
theorem iN{n:Nat}(h:tX l n=true){k:Nat}{o:Oper}(hk:l[k]?=some o):
 (∀d,o.dst=some d->gk l d=some k/\d<n)/\(∀e∈o.after,Region.binds .any e=true->e.on<k)/\
 (∀t∈o.looksAt l.toArray,∀j,gk l t=some j->gY o j=true\/gY (l.getD j default) k=true)/\
 (∀y t x,o.dst=none->o.op=.store y (.tmp t) x->∀j,gk l t=some j->gY o j=true)/\
 (∀j b,o.guard=some (j,b)->∃d,(l[j]?).bind (·.dst)=some d/\d∈o.looksAt l.toArray):=by
 simp only[tX,oBA,List.all_eq_true]at h;obtain⟨⟨h1,hst⟩,h2⟩:=h
 have hm:(o,k)∈l.zipIdx:=by rw[List.mem_zipIdx_iff_getElem?];simpa using hk
 have h3:=h1 _ hm;simp only[oBA,List.all_eq_true]at h3;obtain⟨⟨h4,h5⟩,h6⟩:=h3;refine⟨λd hd=>?_,λe he hb=>?_,λt ht j hj=>?_,λy t x hd hop j hw=>?_,λj b hg=>?_⟩
 ·rw[hd]at h4;simpa using h4
 ·have:=(Array.all_eq_true_iff_forall_mem.1 h5) e he;simpa[hb]using this
 ·have:=h6 t ht;rw[hj]at this;simpa using this
 ·have:=hst o (List.mem_of_getElem? hk);rw[hd,hop]at this;simp only[hw]at this;exact this
 ·have:=h2 o (List.mem_of_getElem? hk);rw[hg]at this;simp only at this
  cases hd:(l[j]?).bind (·.dst)with
  |none=>rw[hd]at this;simp at this
  |some d=>rw[hd]at this;exact⟨d,rfl,by simpa using this⟩
theorem oe{o:Oper}{j:Nat}(h:gY o j=true):∃e∈o.after,e.on=j/\Region.binds .any e=true:=by
 unfold gY at h;rw[List.any_eq_true]at h;obtain⟨e,he,hx⟩:=h;simp only[oBA,beq_iff_eq]at hx;exact⟨e,by simpa using he,hx.1,hx.2⟩
theorem lA{listed:Array Bool}{i j:Nat}{b:Bool}(hi:i<listed.size):(listed.setIfInBounds i true).getD j b=if i=j then true else listed.getD j b:=by
 by_cases e:i=j
 ·subst e;simp[Array.getD,hi]
 ·simp only[oIN e];simp only[Array.getD,Array.size_setIfInBounds];split
  ·exact Array.getElem_setIfInBounds_ne _ e
  ·rfl
theorem jJ{a:Act}{d t:Nat}{v:Value}(hd:d<a.tmps.size):(a.put (some d) v).tmps.getD t undef=if d=t then v else a.tmps.getD t undef:=by
 unfold Act.put;by_cases e:d=t
 ·subst e;simp[Array.getD,hd]
 ·simp only[oIN e];simp only[Array.getD,Array.size_setIfInBounds];split
  ·exact Array.getElem_setIfInBounds_ne _ e
  ·rfl
theorem JJ.step(UH:∀w,R w w)(hB:tX l a0.tmps.size=true)(hD:lP P l (λt=>a0.tmps.getD t undef) base R Ss l Ss)(hK:Dz R Ss){listed:Array Bool}{a:Act}{w:World}{Q:Exit->Act->World->Prop}(h:JJ l a0 base Ss listed a w){i:Nat}(hi:i∈Region.ready .any l.toArray listed):
 wpOp P l.toArray Q i (λa' w'=>JJ l a0 base Ss (listed.setIfInBounds i true) a' w') a w:=by
 obtain⟨XA,o,ho,Zg⟩:=mem_ready.1 hi
 have Zl:l[i]?=some o:=by simpa using ho
 have W4:i<listed.size:=by rw[h.lsize];exact(oGS Zl).1
 obtain⟨ZV,Z0,UK,OA,Pe⟩:=iN hB Zl;obtain⟨s,hs,TE⟩:=hD.at_ Zl
 have Yx:∀t∈o.looksAt l.toArray,vZ l (λt=>a0.tmps.getD t undef) Ss o (λt=>a.tmps.getD t undef) w t:=by
  intro t ht;unfold vZ
  cases hw:gk l t with
  |none=>exact h.old t λj o' hj hd=>absurd hd (tL hw j o' hj)
  |some j=>
   obtain⟨oj,YR,VE⟩:=tK hw;by_cases hwt:gY o j=true
   ·simp only[hwt,if_true];obtain⟨e,he,Ua,VB⟩:=oe hwt
    have VH:listed.getD j false=true:=by rw[<- Ua];exact Zg e he VB
    obtain⟨sj,Wg,_⟩:=hD.at_ YR;have:=h.says j oj sj YR Wg VH;simpa[List.getD,Wg,xy,VE]using this
   ·simp only[hwt];refine h.old t λj' o' ZY hd'=>?_
    have hjj:j'=j:=by
     have:=((iN hB ZY).1 t hd').1
     rw[hw]at this;injection this with this;exact this.symm
    subst hjj;rcases UK t ht j' hw with h'|h'
    ·exact absurd h' hwt
    ·have e:l.getD j' default=oj:=by simp[List.getD,YR]
     rw[e]at h';obtain⟨ed,RP,Ua,VB⟩:=oe h'
     cases hl:listed.getD j' true with
     |false=>rfl
     |true=>
      exfalso
      have hjl:j'<listed.size:=by rw[h.lsize];exact(oGS YR).1
      have Yz:listed.getD j' false=true:=by simpa[Array.getD,hjl]using hl
      have:=h.down j' oj YR Yz ed RP VB;rw[Ua]at this;simp[Array.getD,W4]at this XA;rw[this]at XA;cases XA
 have RC:∀d t,o.dst=some d->vV l d t=true->a.tmps.getD t undef=a0.tmps.getD t undef:=by
  intro d t hd hb;unfold vV at hb;rw[(ZV d hd).1]at hb
  cases hw:gk l t with
  |none=>rw[hw]at hb;cases hb
  |some j=>
   rw[hw]at hb;refine h.old t λj' o' ZY hd'=>?_
   have hjj:j'=j:=by
    have:=((iN hB ZY).1 t hd').1
    rw[hw]at this;injection this with this;exact this.symm
   subst hjj
   have ZZ:∀n j,vm l n j i=true->listed.getD j false=true->listed.getD i false=true:=by
    intro n
    induction n with
    |zero=>intro j h1;cases h1
    |succ n ih=>
     intro j h1 h2;simp only[vm]at h1;rw[Array.any_eq_true]at h1;obtain⟨k,hk,h3⟩:=h1;simp only[oBA,Bool.or_eq_true,beq_iff_eq]at h3
     have hjl:j<l.length:=by
      rw[<- h.lsize];rcases Nat.lt_or_ge j listed.size with h'|h'
      ·exact h'
      ·simp[Array.getD,Nat.not_lt.2 h']at h2
     have YR:l[j]?=some l[j]:=oGE hjl
     have e:l.getD j default=l[j]:=by simp[List.getD,YR]
     have h4:=h.down j l[j] YR h2 _ (by rw[<- e];exact Array.getElem_mem hk) h3.1;rcases h3.2 with h5|h5
     ·rw[<- h5];exact h4
     ·exact ih _ h5 h4
   cases hl:listed.getD j' true with
   |false=>rfl
   |true=>
    exfalso
    have hjl:j'<listed.size:=by rw[h.lsize];exact(oGS ZY).1
    have Yz:listed.getD j' false=true:=by simpa[Array.getD,hjl]using hl
    have:listed.getD i false=true:=by
     simp only[Bool.or_eq_true,beq_iff_eq]at hb;rcases hb with hb|hb
     ·rw[<- hb];exact Yz
     ·exact ZZ _ _ hb Yz
    simp[Array.getD,W4]at this XA;rw[this]at XA;cases XA
 have Xq:=TE (λt=>a.tmps.getD t undef) w h.base_ Yx RC
 have Uw:Region.wanted o (yielded l.toArray a.tmps)=wh l (λt=>a.tmps.getD t undef) o:=by
  unfold Region.wanted wh
  cases hg:o.guard with
  |none=>rfl
  |some p=>
   obtain⟨j,b⟩:=p;obtain⟨d,hd,_⟩:=Pe j b hg
   have WU:d<a.tmps.size:=by
    rw[h.asize];obtain⟨oj,YR,VE⟩:=Option.bind_eq_some_iff.1 hd;exact((iN hB YR).1 d VE).2
   have hy:yielded l.toArray a.tmps j=(match a.tmps.getD d undef with|.bool c=>some c|_=>none):=by
    unfold yielded
    have e:(l.toArray[j]?).bind (·.dst)=some d:=by simpa using hd
    rw[e];simp only[oBS];rw[Array.getElem?_eq_getElem WU];simp only[Array.getD,WU,dif_pos,Array.getInternal_eq_getElem];cases a.tmps[d]<;>rfl
   simp only[hd];rw[hy];cases a.tmps.getD d undef<;>simp
 have Yw:∀v w',Dw base R s (λt=>a.tmps.getD t undef) o w v w'->JJ l a0 base Ss (listed.setIfInBounds i true) (a.put o.dst v) w':=by
  intro v w' ⟨hb,hR,Q4⟩
  have hsz:(a.put o.dst v).tmps.size=a.tmps.size:=by unfold Act.put;split<;>simp
  have SK:(λt=>(a.put o.dst v).tmps.getD t undef)=DO (λt=>a.tmps.getD t undef) o.dst v:=by
   funext t;unfold DO
   cases hd:o.dst with
   |none=>rfl
   |some d=>exact jJ (by rw[h.asize];exact(ZV d hd).2)
  refine⟨by rw[SK];exact hb,by rw[<- h.defers];unfold Act.put;split<;>rfl,by simpa using h.lsize,hsz.trans h.asize,λt ht=>?_,λj oj sj YR Wg VH=>?_,λj oj YR VH e he VB=>?_⟩
  ·have PX:o.dst≠some t:=λe=>by
    have:=ht i o Zl e;rw[lA W4]at this;simp at this
   have ZO:=h.old t λj oj YR VE=>by
    have:=ht j oj YR VE;rw[lA W4]at this;split at this
    ·cases this
    ·exact this
   rw[<- ZO]
   cases hd:o.dst with
   |none=>rfl
   |some d=>rw[jJ (by rw[h.asize];exact(ZV d hd).2),oIN (by rintro rfl;exact PX hd)]
  ·by_cases e:i=j
   ·subst e
    rw[Zl]at YR;injection YR with YR;subst YR
    rw[hs]at Wg;injection Wg with Wg;subst Wg
    cases hd:o.dst with
    |none=>
     have e1:(a.put none v).tmps=a.tmps:=rfl
     have e2:uh (λt=>a.tmps.getD t undef) o v=xy (λt=>a.tmps.getD t undef) o:=by unfold uh;rw[hd]
     rw[e1,<- e2];exact Q4
    |some d=>
     have e2:uh (λt=>a.tmps.getD t undef) o v=v:=by unfold uh;rw[hd]
     have e3:xy (λt=>(a.put (some d) v).tmps.getD t undef) o=v:=by
      unfold xy;rw[hd];simp only;rw[jJ (by rw[h.asize];exact(ZV d hd).2),oIP rfl]
     rw[e3,<- e2];exact Q4
   ·rw[lA W4,oIN e]at VH;have ZO:=hK.at_ Wg w w' _ hR (h.says j oj sj YR Wg VH)
    have YZ:∀t,o.dst≠some t->(a.put o.dst v).tmps.getD t undef=a.tmps.getD t undef:=λt ht=>by
     cases hd:o.dst with
     |none=>rfl
     |some d'=>rw[jJ (by rw[h.asize];exact(ZV d' hd).2),oIN (by rintro rfl;exact ht hd)]
    have SF:xy (λt=>(a.put o.dst v).tmps.getD t undef) oj=xy (λt=>a.tmps.getD t undef) oj:=by
     unfold xy
     cases VE:oj.dst with
     |some d=>
      refine YZ d λhd=>?_;have h1:=(ZV d hd).1;have h2:=((iN hB YR).1 d VE).1;rw[h1]at h2
      injection h2 with h2
      exact e h2
     |none=>
      cases hop:oj.op with
      |store y t x=>
       cases t with
       |tmp t=>
        refine YZ t λhd=>?_;have h1:=(ZV t hd).1;have h2:=(iN hB YR).2.2.2.1 y t x VE hop i h1;obtain⟨ed,RP,Ua,VB⟩:=oe h2;have:=h.down j oj YR VH ed RP VB;rw[Ua]at this;simp[Array.getD,W4]at this XA;rw[this]at XA;cases XA
       |const _=>rfl
       |global _=>rfl
       |func _=>rfl
      |_=>rfl
    rw[SF];exact ZO
  ·rw[lA W4];split
   ·rfl
   ·by_cases e':i=j
    ·subst e'
     rw[Zl]at YR;injection YR with YR;subst YR
     exact Zg e he VB
    ·rw[lA W4,oIN e']at VH;exact h.down j oj YR VH e he VB
 unfold wpOp;simp only[ho];rw[Uw];by_cases hw:wh l (λt=>a.tmps.getD t undef) o=true
 ·rw[oIP hw]at Xq⊢;refine .inl ?_;unfold Oper.wp;rw[Bx];generalize(execOp (pG λt=>a.tmps.getD t undef) o).run P w=r at Xq
  cases r with
  |ok n w'=>
   cases n<;>simp only[fH]at Xq<;>simp only[Oper.upon]
   case value v=>exact Yw v w' Xq
   case skip=>exact Yw undef w' Xq
   case enter fn args=>exact Xq.mono λe Wm ⟨v,he,hp⟩=>by subst he;exact Yw v Wm hp
  |halt x w'=>simp only[fH]at Xq
 ·rw[oIN hw]at Xq⊢;exact Yw undef w ⟨Xq.1,UH w,Xq.2⟩
theorem qj{n:Nat}(hB:tX l n=true){listed:Array Bool}(hs:listed.size=l.length)(hr:Region.ready .any l.toArray listed=[]):∀(k:Nat),k<l.length->listed.getD k false=true:=by
 intro k
 induction k using Nat.strongRecOn with
 |_ k ih=>
  intro hk
  cases hl:listed.getD k false with
  |true=>rfl
  |false=>
   exfalso;have ho:l[k]?=some l[k]:=oGE hk
   have:k∈Region.ready .any l.toArray listed:=by
    refine mem_ready.2 ⟨?_,l[k],by simp,λe he hb=>?_⟩
    ·have:k<listed.size:=by omega
     simpa[Array.getD,this]using hl
    ·have:=(iN hB ho).2.1 e he hb;exact ih e.on this (by omega)
   rw[hr]at this;cases this
theorem pR(UH:∀w,R w w)(hB:tX l a0.tmps.size=true)(hD:lP P l (λt=>a0.tmps.getD t undef) base R Ss l Ss)(hK:Dz R Ss){Q:Exit->Act->World->Prop}
 (Wz:∀listed a w,(∀k,k<l.length->listed.getD k false=true)->JJ l a0 base Ss listed a w->Q .normal a w):
 ∀(X7:Nat)(listed:Array Bool)(a:Act)(w:World),JJ l a0 base Ss listed a w->(∃c:List Bool,c.length=l.length/\listed.toList=c/\c.count false=X7)->wpAny P .any l.toArray Q X7 listed a w
 |0,listed,a,w,h,⟨c,Zz,Zv,UL⟩=>by
  have hr:Region.ready .any l.toArray listed=[]:=by
   rw[List.eq_nil_iff_forall_not_mem];intro i hi;have XA:=(mem_ready.1 hi).1
   have W4:i<listed.size:=by
    rcases Nat.lt_or_ge i listed.size with h'|h'
    ·exact h'
    ·simp[Array.getD,Nat.not_lt.2 h']at XA
   have:false∈c:=by
    rw[<- Zv]
    have h1:listed[i]=false:=by simpa[Array.getD,W4]using XA
    rw[<- h1];simp
   exact absurd (List.count_pos_iff.2 this) (by omega)
  exact⟨hr,Wz _ _ _ (qj hB h.lsize hr) h⟩
 |X7+1,listed,a,w,h,⟨c,Zz,Zv,UL⟩=>by
  refine⟨λhr=>Wz _ _ _ (qj hB h.lsize hr) h,λi hi=>?_⟩;refine wpOp_mono (λa' w' h'=>pR UH hB hD hK Wz X7 _ a' w' h' ?_) (h.step UH hB hD hK hi);have XA:=(mem_ready.1 hi).1
  have W4:i<listed.size:=by
   rcases Nat.lt_or_ge i listed.size with h'|h'
   ·exact h'
   ·simp[Array.getD,Nat.not_lt.2 h']at XA
  have h1:listed[i]=false:=by simpa[Array.getD,W4]using XA
  refine⟨_,?_,rfl,?_⟩
  ·simp;have:=h.lsize;omega
  ·rw[Array.toList_setIfInBounds,List.count_set (by simpa using W4)];subst Zv;rw[UL];simp[h1]
theorem zF{f:Nat->Value}{w:World}:∀{lo:List Oper}{ls:List (Value->World->Prop)},(∀(k:Nat) o s,lo[k]?=some o->ls[k]?=some s->s (xy f o) w)->Ex f w lo ls
 | [],_,_=>by unfold Ex;trivial
 |_::_,[],_=>by unfold Ex;trivial
 |o::r,s::rs,h=>⟨h 0 o s rfl rfl,zF λk o' s' h1 h2=>h (k+1) o' s' (by simpa using h1) (by simpa using h2)⟩
theorem n5(f:Nat->Value):∀(lo:List Oper)(a:Act),(fh f lo a).tmps.size=a.tmps.size
 | [],_=>rfl
 |o::r,a=>by
  rw[fh,n5 f r];unfold Act.put;split<;>simp
theorem lf(f:Nat->Value):∀(lo:List Oper)(a:Act),(fh f lo a).defers=a.defers
 | [],_=>rfl
 |o::r,a=>by
  rw[fh,lf f r];unfold Act.put;split<;>rfl
theorem n6(f:Nat->Value):∀(lo:List Oper)(a:Act)(t:Nat),t<a.tmps.size ->
 (fh f lo a).tmps.getD t undef=f t/\(∃o∈lo,o.dst=some t)\/(fh f lo a).tmps.getD t undef=a.tmps.getD t undef/\∀o∈lo,o.dst≠some t
 | [],_,_,_=>.inr ⟨rfl,by simp⟩
 |o::r,a,t,ht=>by
  have hsz:(a.put o.dst (xL f o.dst)).tmps.size=a.tmps.size:=by unfold Act.put;split<;>simp
  rcases n6 f r (a.put o.dst (xL f o.dst)) t (by rw[hsz];exact ht)with⟨h1,o',h2,h3⟩|⟨h1,h2⟩
  ·exact .inl ⟨h1,o',List.mem_cons_of_mem _ h2,h3⟩
  ·by_cases hd:o.dst=some t
   ·refine .inl ⟨?_,o,List.mem_cons_self ..,hd⟩;rw[fh,h1,hd,jJ ht,oIP rfl];rfl
   ·refine .inr ⟨?_,λo' Zl=>?_⟩
    ·rw[fh,h1]
     cases hd':o.dst with
     |none=>rfl
     |some d=>
      by_cases hds:d<a.tmps.size
      ·rw[jJ hds,oIN (by rintro rfl;exact hd hd')]
      ·unfold Act.put;simp[Array.setIfInBounds,hds]
    ·rcases List.mem_cons.1 Zl with rfl|h'
     ·exact hd
     ·exact h2 o' h'
theorem jX{id:Nat}{w0:World}{Q:Exit->Act->World->Prop}(base:(Nat->Value)->World->Prop)(R:World->World->Prop)(Ss:List (Value->World->Prop))
 (n:Nat)(hm:P.follows .mixedOrders=true)(hn:a0.tmps.size=n)(Ta:tX l n=true)(h0:base (λt=>a0.tmps.getD t undef) w0.drew)(UH:∀w,R w w)(hK:Dz R Ss)
 (hD:lP P l (λt=>a0.tmps.getD t undef) base R Ss l Ss)
 (Wz:∀f w,base f w->Ex f w l Ss->Q .normal (fh f l a0) w):(Code.region id l.toArray true).wp P Q a0 w0:=by
 have hB:tX l a0.tmps.size=true:=by rw[hn];exact Ta
 refine wp_region_any hm ?_;refine pR (a0:=a0) (R:=R) (Ss:=Ss) UH hB hD hK (λlisted a w hl h=>?_) _ _ _ _ (?_:JJ l a0 base Ss _ _ _) ⟨_,?_,rfl,?_⟩
 ·have e:a=fh (λt=>a.tmps.getD t undef) l a0:=by
   have hd:a.defers=(fh (λt=>a.tmps.getD t undef) l a0).defers:=by rw[lf,h.defers]
   have ht:a.tmps=(fh (λt=>a.tmps.getD t undef) l a0).tmps:=by
    refine Array.ext (by rw[n5,h.asize]) λi h1 h2=>?_
    have TN:i<a0.tmps.size:=by rw[<- h.asize];exact h1
    have e1:a.tmps[i]=a.tmps.getD i undef:=by simp[Array.getD,h1]
    have e2:(fh (λt=>a.tmps.getD t undef) l a0).tmps[i]=(fh (λt=>a.tmps.getD t undef) l a0).tmps.getD i undef:=by rw[Array.getD,dif_pos h2];rfl
    rw[e1,e2]
    rcases n6 (λt=>a.tmps.getD t undef) l a0 i TN with⟨h3,_⟩|⟨h3,h4⟩
    ·exact h3.symm
    ·rw[h3];exact h.old i λj o ho hd=>absurd hd (h4 o (List.mem_of_getElem? ho))
   cases a;cases hp:fh (λt=>Array.getD _ t undef) l a0;simp only[hp]at hd ht;subst hd;subst ht
   simp_all
  rw[e];exact Wz _ w h.base_ (zF λk o s ho hs=>h.says k o s ho hs (hl k (oGS ho).1))
 ·exact⟨h0,rfl,by simp,rfl,λ_ _=>rfl,λj o s ho hs hl=>by simp[Array.getD]at hl,λj o ho hl=>by simp[Array.getD]at hl⟩
 ·simp
 ·simp[List.count_replicate]
end
theorem b5{P:Program}{l:List Oper}{old:Nat->Value}{base:(Nat->Value)->World->Prop}{R:World->World->Prop}{Ss:List (Value->World->Prop)}{o:Oper}{r:List Oper}{s:Value->World->Prop}{rs:List (Value->World->Prop)}
 (h:EL P l old base R Ss o s)(h':lP P l old base R Ss r rs):lP P l old base R Ss (o::r) (s::rs):=⟨h,h'⟩
theorem ch{P:Program}{l:List Oper}{old:Nat->Value}{base:(Nat->Value)->World->Prop}{R:World->World->Prop}{Ss:List (Value->World->Prop)}{o:Oper}{s:Value->World->Prop}(hg:o.guard=none)
 (h:∀(f:Nat->Value)(w:World),base f w->(∀t∈o.looksAt l.toArray,vZ l old Ss o f w t)->(∀d t,o.dst=some d->vV l d t=true->f t=old t)->fH P (λv w'=>Dw base R s f o w v w') ((execOp (pG f) o).run P w)):EL P l old base R Ss o s:=by
 intro f w hb H HN
 have:wh l f o=true:=by unfold wh;rw[hg]
 rw[oIP this];exact h f w hb H HN
theorem qe{P:Program}{l:List Oper}{old:Nat->Value}{base:(Nat->Value)->World->Prop}{R:World->World->Prop}{Ss:List (Value->World->Prop)}:lP P l old base R Ss [] []:=trivial
def jV(u:Value)(v:Value)(_:World):Prop:=v=u
def EW(k:IntKind)(lo hi:Int)(v:Value)(_:World):Prop:=∃n:Int,lo<=n/\n<=hi/\v=.int k n
theorem jV.kept{x:Value}{R:World->World->Prop}(w w':World)(u:Value)(_:R w w')(h:jV x u w):jV x u w':=h
theorem EW.kept{k:IntKind}{lo hi:Int}{R:World->World->Prop}(w w':World)(u:Value)(_:R w w')(h:EW k lo hi u w):EW k lo hi u w':=h
attribute [go_sem] pG fH uh xy DO
def Bk(w:World)(q t:Nat)(vs:List Value):Prop:=w.heap[q]?=some (.cells vs.toArray t (0,0))
theorem Bk.hi{w:World}{q t:Nat}{vs:List Value}(h:Bk w q t vs):q<w.heap.size:=(Array.getElem?_eq_some_iff.1 h).1
theorem Bk.keep{w w':World}{q t:Nat}{vs:List Value}(h:Bk w q t vs)(hh:w'.heap[q]?=w.heap[q]?):Bk w' q t vs:=hh.trans h
theorem Bk.grow{w w':World}{q t:Nat}{vs:List Value}(h:Bk w q t vs)(hg:w.grownBy w' none):Bk w' q t vs:=h.keep (hg.block _ h.hi (by simp))
theorem Bk.cell{w:World}{q t:Nat}{vs:List Value}(h:Bk w q t vs)(j:Nat):w.cell? ⟨q,j,none⟩=vs[j]?:=by
 rw[cell_of_row _ _ _ _ _ _ h];simp
theorem Bk.free{w:World}{q t:Nat}{vs:List Value}(h:Bk w q t vs)(j:Nat):w.frozen? ⟨q,j,none⟩=false:=frozen_of_row _ _ _ _ _ h
theorem Bk.new{w:World}{t:Nat}{vs:List Value}:Bk (w.alloc (.cells vs.toArray t)) w.heap.size t vs:=heap_alloc_new w _
theorem Bk.set{w:World}{q t:Nat}{vs:List Value}(h:Bk w q t vs)(j:Nat)(v:Value):Bk (w.setCell ⟨q,j,none⟩ v) q t (vs.set j v):=by
 unfold Bk;rw[heap_setCell_same _ _ _ _ _ _ h];simp
theorem Bk.other{w:World}{q t q' j:Nat}{vs:List Value}(h:Bk w q t vs)(hne:q≠q')(v:Value):Bk (w.setCell ⟨q',j,none⟩ v) q t vs:=by
 unfold Bk;rw[heap_setCell_other _ _ _ _ hne];exact h
theorem Bk.drew{w:World}{q t:Nat}{vs:List Value}(h:Bk w q t vs):Bk w.drew q t vs:=h
structure SlT (P:Program)(t e:TypeId)(size bytes:Nat):Prop where
 under:P.underlying t=some (.slice e)
 info:∃i z,P.info? e=some i/\i.zero=some z/\i.size=size/\i.bytes=bytes/\z.cells.size=size
 pos:0<size
section
variable {P:Program} {w:World} {t e:TypeId} {size bytes:Nat}
def fC(w':World)(v:Value)(xs:List Value):Prop:=∀g,v.ownBlock=some g->∀j u,xs[j]?=some u->w'.cell? ⟨g,j,none⟩=some u
theorem fC.of{base:Nat}{v v':Value}{n:Nat}{xs ys:List Value}{w':World}(h:w'.ownsRow base e size v' n (xs++ys))(hb:v'.ownBlock=v.ownBlock):fC w' v xs:=by
 intro g hg j u hj;have h2:=World.ownsRow.cells (w:=w') (base:=base) (e:=e) (size:=size) (n:=n) h (g:=g) (by rw[hb];exact hg) j u (by rw[List.getElem?_append_left (oGS hj).1];exact hj)
 have e1:(⟨g,0,none⟩:Addr).add j=⟨g,j,none⟩:=by
  unfold Addr.add;split
  ·rename_i h0;subst h0;rfl
  ·simp
 rw[e1]at h2;exact h2
theorem fC.grown{base:Nat}{v:Value}{n:Nat}{xs:List Value}{w':World}(h:w.ownsRow base e size v n xs)(hg:w.grownBy w' none):fC w' v xs:=by
 have h1:w'.ownsRow base e size v n (xs++[]):=by
  rw[List.append_nil];exact h.kept hg (by cases v.ownBlock<;>simp)
 exact fC.of h1 rfl
theorem g6(T:SlT P t e size bytes)(ty:TypeId)(base:Nat)(v:Value)(n:Nat)(xs:List Value)(hown:w.ownsRow base e size v n xs)
 (ad:Addr)(m c:Nat)(news:List Value)(hl:news.length=m*size)(YK:∀(j:Nat) u,news[j]?=some u->w.cell? (ad.add j)=some u)(h1:∀u∈news,u.oneCell'=true)
 (UY:n+m<=maxLen)(Yt:(n+m)*bytes<=140737488355328)(YH:base<=w.heap.size):
 ∃v' w',(Builtin.append_ #[t,t] ty #[v,.slice (some ad) m c]).run P w=.ok v' w'/\w'.ownsRow base e size v' (n+m) (xs++news)/\w.grownBy w' v.ownBlock/\fC w' v xs:=by
 obtain⟨i,z,hi,hz,XZ,Wo,YG⟩:=T.info
 rcases hown.2 with⟨rfl,hn⟩|⟨g,cap,cur,rfl,hb,RZ,hcap,hmax,hsz,Yx⟩
 ·subst hn;have hx:xs=[]:=oEN (by simpa using hown.1);subst hx;obtain⟨v',w',hr,Zh,hg,_⟩:=run_append_own (P:=P) w w.heap.size t ty e i z size bytes T.under hi hz XZ Wo YG T.pos (.slice none 0 0) 0 [] ⟨by simp,.inl ⟨rfl,rfl⟩⟩ ad m c news hl YK h1 UY Yt (Nat.le_refl _);refine⟨v',w',hr,?_,hg,λg hg=>by simp[Value.ownBlock]at hg⟩;refine⟨Zh.1,?_⟩;rcases Zh.2 with h|⟨g,cap,cur,e1,e2,e3⟩
  ·exact .inl h
  ·exact .inr ⟨g,cap,cur,e1,Nat.le_trans YH e2,e3⟩
 ·rcases Nat.lt_or_ge cap (n+m)with hlt|hge
  ·have hc:=@World.ownsRow.cells w base e size _ n xs hown;obtain⟨v',w',hr,Zh,hg⟩:=run_append_arg_grows (P:=P) w t ty e i z size bytes T.under hi hz XZ Wo YG T.pos ⟨g,0,none⟩ n cap xs hown.1 (hc rfl) ad m c news hl YK hlt UY Yt;refine⟨v',w',hr,⟨Zh.1,?_⟩,sS hg,fC.grown hown hg⟩;rcases Zh.2 with h|⟨g,cap,cur,e1,e2,e3⟩
   ·exact .inl h
   ·exact .inr ⟨g,cap,cur,e1,Nat.le_trans YH e2,e3⟩
  ·obtain⟨w',hr,Zh,hg⟩:=run_append_own_spare (P:=P) w base t ty e i size T.under hi XZ g n cap xs hown ad m c news hl YK h1 hge;exact⟨_,w',hr,Zh,hg,fC.of Zh rfl⟩
theorem nZ{tn:TypeId}{kn kq:IntKind}{i:TypeInfo}{z:Value}{zs:List Value}(hu:P.underlying t=some (.slice e))(XI:P.underlying tn=some (.int kn))(hi:P.info? e=some i)(hz:i.zero=some z)(XZ:i.size=size)(Wo:i.bytes=bytes)(YG:z.cells=zs.toArray)(W8:zs.length=size)(SV:∀u∈zs,u.oneCell'=true)(Z3:0<size)
 (ty:TypeId)(base:Nat)(v:Value)(n:Nat)(xs:List Value)(hown:w.ownsRow base e size v n xs)(X':0<n)(k:Nat)
 (UY:n+k<=1099511627776)(Yt:(n+k)*bytes<=140737488355328)(YH:base<=w.heap.size):
 ∃v' w',(Builtin.append_ #[t,tn] ty #[v,.int kq k]).run P w=.ok v' w'/\w'.ownsRow base e size v' (n+k) (xs++(List.replicate k zs).flatten)/\w.grownBy w' v.ownBlock/\fC w' v xs:=by
 subst XZ;subst Wo
 have hz0:Builtin.zeroCells z.cells k=((List.replicate k zs).flatten).toArray:=by
  rw[YG];have:=jn zs k;rw[<- this];simp[Builtin.zeroCells,madeCells]
 have WP:((List.replicate k zs).flatten).length=k*i.size:=by simp[W8]
 have ZJ:∀u∈(List.replicate k zs).flatten,u.oneCell'=true:=λu hu=>by
  simp only[List.mem_flatten,List.mem_replicate]at hu;obtain⟨y,⟨_,rfl⟩,hy⟩:=hu;exact SV u hy
 have hbn:k*i.bytes<=140737488355328:=Nat.le_trans (Nat.mul_le_mul_right _ (by omega)) Yt
 rcases hown.2 with⟨rfl,hn⟩|⟨g,cap,cur,rfl,hb,RZ,hcap,hmax,hsz,Yx⟩
 ·omega
 ·rcases Nat.eq_zero_or_pos k with hk|hk
  ·subst hk;refine⟨_,w,iq w t tn ty e i kn kq hu XI hi (some ⟨g,0,none⟩) n cap hcap,?_,gf _ _,?_⟩
   ·simpa using hown
   ·exact fC.grown hown (gf _ _)
  ·rcases Nat.lt_or_ge cap (n+k)with hlt|hge
   ·have hc:=@World.ownsRow.cells w base e i.size _ n xs hown;have ZO:=run_firstCells_some (P:=P) w.drew i.size n ⟨g,0,none⟩ n cap xs hown.1 (λj u hj=>hc (g:=g) rfl j u hj);have hr:=Go.Lib.run_append_grow_zeros (P:=P) w t tn ty e i z kq kn hu XI hi hz (some ⟨g,0,none⟩) n cap xs ZO k hk Z3 hlt (by omega) (by omega) (growslice_fits hlt Yt);have hge:=grownCap_ge w (n+k) cap e;have U7:grownCap w (n+k) cap e<=maxLen:=grownCap_le_maxLen w (n+k) cap e (by simp only[maxLen];omega);have VF:w.grownBy (w.drew.alloc (.cells (xs.toArray++Builtin.zeroCells z.cells k++Builtin.zeroCells z.cells (grownCap w (n+k) cap e-(n+k))) e)) none:=⟨rfl,rfl,rfl,by simp,λk hk _=>heap_alloc_old w.drew _ hk⟩;refine⟨_,_,hr,⟨by rw[List.length_append,hown.1,WP,Nat.add_mul],.inr ⟨w.heap.size,_,_,rfl,YH,heap_alloc_new w.drew _,hge,U7,?_,?_⟩⟩,sS VF,fC.grown hown VF⟩
    ·rw[hz0];simp only[Array.size_append,List.size_toArray,size_zeroCells,YG,hown.1,WP,W8,<- Nat.add_mul];congr 1;omega
    ·rw[hz0];simp only[Array.toList_append,List.append_assoc];rw[<- List.append_assoc,show(n+k)*i.size=(xs++(List.replicate k zs).flatten).length by rw[List.length_append,hown.1,WP,Nat.add_mul]];exact List.take_left
   ·have ZT:n*i.size+(Builtin.zeroCells z.cells k).toList.length<=cur.size:=by
     rw[hz0,List.toList_toArray,WP,hsz,<- Nat.add_mul];exact Nat.mul_le_mul_right _ hge
    have hr:=fN (P:=P) w t tn ty e e i z kn kq hu XI hi hz g n cap cur RZ k hk Z3 (by omega) hbn (by rw[hz0];exact ZJ) hge ZT;rw[hz0]at hr
    have Xv:(xs++(List.replicate k zs).flatten).length=(n+k)*i.size:=by rw[List.length_append,hown.1,WP,Nat.add_mul]
    rw[hz0]at ZT
    have Zh:(w.setRow g (cur.toList.take (n*i.size)++(List.replicate k zs).flatten++cur.toList.drop (n*i.size+((List.replicate k zs).flatten).length)).toArray).ownsRow base e i.size (.slice (some ⟨g,0,none⟩) (n+k) cap) (n+k) (xs++(List.replicate k zs).flatten):=by
     refine⟨Xv,.inr ⟨g,cap,_,rfl,hb,setRow_heap w g cur _ e _ RZ,hge,hmax,?_,?_⟩⟩
     ·simp only[List.size_toArray,List.length_append,oLT,List.length_drop,Array.length_toList];simp only[List.toList_toArray]at ZT;omega
     ·rw[Yx,<- Xv];exact List.take_left
    exact⟨_,_,hr,Zh,⟨rfl,rfl,rfl,by simp,λk _ hk=>setRow_other w g k _ (λe=>hk (by simp[Value.ownBlock,e]))⟩,fC.of Zh rfl⟩
end
theorem lm{v n:Int}(hn:1<=n)(h:v.tmod n<0):v.tmod n+n=v%n:=by
 have h1:=Int.tmod_add_mul_tdiv v n;have h2:=Int.emod_add_mul_ediv v n
 have hv:v<0:=by
  rcases Int.lt_or_le v 0 with h'|h'
  ·exact h'
  ·have:=Int.tmod_nonneg n h';omega
 have h3:v.tmod n=v%n-n:=by
  rw[Int.tmod_eq_emod];split
  ·rename_i hc;rcases hc with hc|hc
   ·omega
   ·exfalso;have:=Int.tmod_eq_zero_of_dvd hc;omega
  ·rw[Int.natAbs_of_nonneg (by omega)]
 omega
theorem qI{v n:Int}(hn:1<=n)(h:0<=v.tmod n):v.tmod n=v%n:=by
 rw[Int.tmod_eq_emod]at *;split
 ·omega
 ·rename_i hc;rw[oIN hc]at h;rw[Int.natAbs_of_nonneg (by omega)]at h;have:=Int.emod_lt_of_pos v (show 0<n by omega);omega
set_option maxHeartbeats 400000 in
theorem yZ(v n:Int)(w:World)(Tk:-9223372036854775808<=v)(Tl:v<=9223372036854775807)(hn:1<=n)(WV:n<=9223372036854775807):
 Calls Try.prog 55 #[.int .i64 v,.int .i64 n] w λe w'=>e=.returned (.int .i64 (v%n))/\w=w':=by
 have hz:¬n=0:=by omega
 have hl:v.tmod n<n:=by
  have:=Int.tmod_lt_of_pos v (show 0<n by omega);exact this
 have ha:∀h:v.tmod n<0,v.tmod n+n=v%n:=lm hn;have hb:∀h:0<=v.tmod n,v.tmod n=v%n:=qI hn;have Ha:=Lib.hid ha;clear ha;have Hb:=Lib.hid hb;clear hb
 have TZ:-n<v.tmod n:=by
  rcases Int.lt_or_le (v.tmod n) 0 with h|h
  ·have e:=lm hn h;have h0:=Int.emod_nonneg v (show n≠0 by omega)
   have h1:v%n≠0:=λh1=>by
    have:=Int.tmod_eq_zero_of_dvd (Int.dvd_of_emod_eq_zero h1);omega
   omega
  ·omega
 have Sk:0<=v%n/\v%n<n:=⟨Int.emod_nonneg v (by omega),Int.emod_lt_of_pos v (by omega)⟩
 go_enter Try.func55,Try.ntmps55
 go_wp2
 ·rename_i h
  go_ret;exact⟨yB (Ha.out h),rfl⟩
 ·go_ret;exact⟨yB (Hb.out ‹_›),rfl⟩
set_option maxHeartbeats 400000 in
theorem qJ(v n:Int)(w:World)(Tk:-9223372036854775808<=v)(Tl:v<=9223372036854775807)(hn:1<=n)(WV:n<=9223372036854775807):
 Calls Try.prog 21 #[.int .i64 v,.int .i64 n] w λe w'=>e=.returned (.int .i64 (v%n))/\w=w':=by
 go_enter Try.func21,Try.ntmps21
 go_wp2_with (go_at_call 55;refine(yZ v n _ Tk Tl hn WV).mono ?_;rintro e w' ⟨rfl,rfl⟩)
 go_ret;exact⟨rfl,rfl⟩
structure pN (w:World)(v:Value)(n sz:Nat)(cs:List Value):Prop where
 ex:∃b off cap,v=.slice (some ⟨b,off,none⟩) n cap/\b<w.heap.size/\∀(j:Nat) u,cs[j]?=some u->w.cell? ⟨b,off+j,none⟩=some u
 len:cs.length=n*sz
 one:∀u∈cs,u.oneCell'=true
theorem jj{P:Program}{w w':World}{t e:TypeId}{size bytes:Nat}(T:SlT P t e size bytes)(ty:TypeId)(base:Nat)(v:Value)(n:Nat)(cs:List Value)(hR:pN w v n size cs)(hg:w.grownBy w' none)
 (UY:n<=maxLen)(hb:n*bytes<=140737488355328)(YH:base<=w'.heap.size):
 ∃v' w2,(Builtin.append_ #[t,t] ty #[.slice none 0 0,v]).run P w'=.ok v' w2/\w2.ownsRow base e size v' n cs/\w'.grownBy w2 none:=by
 obtain⟨b,off,cap,rfl,hlt,hc⟩:=hR.ex
 obtain⟨v',w2,h1,h2,h3,_⟩:=g6 (P:=P) (w:=w') T ty base (.slice none 0 0) 0 [] ⟨by simp,.inl ⟨rfl,rfl⟩⟩ ⟨b,off,none⟩ n cap cs hR.len (λj u hj=>by
  rw[cB,World.cell?_of_block (hg.block b hlt (by simp))]
  exact hc j u hj) hR.one (by omega) (by simpa using hb) YH
 exact⟨v',w2,h1,by simpa using h2,h3⟩
theorem qu:SlT Try.prog 22 78 5 40:=⟨by kernel_rfl,(by
 have h:(match Try.prog.info? 78 with|some i=>(match i.zero with|some z=>decide (z.cells.size=5)&&decide (i.size=5)&&decide (i.bytes=40)|none=>false)|none=>false)=true:=by kernel_rfl
 revert h
 cases Try.prog.info? 78 with
 |none=>intro h;cases h
 |some i=>
  intro h;simp only at h;split at h
  ·rename_i z hz;simp only[oBA,oDE]at h;exact⟨i,z,rfl,hz,h.1.2,h.2,h.1.1⟩
  ·cases h),by decide⟩
theorem Cc:SlT Try.prog 23 3 1 8:=⟨by kernel_rfl,(by
 have h:(match Try.prog.info? 3 with|some i=>(match i.zero with|some z=>decide (z.cells.size=1)&&decide (i.size=1)&&decide (i.bytes=8)|none=>false)|none=>false)=true:=by kernel_rfl
 revert h
 cases Try.prog.info? 3 with
 |none=>intro h;cases h
 |some i=>
  intro h;simp only at h;split at h
  ·rename_i z hz;simp only[oBA,oDE]at h;exact⟨i,z,rfl,hz,h.1.2,h.2,h.1.1⟩
  ·cases h),by decide⟩
theorem Cb:SlT Try.prog 24 84 1 24:=⟨by kernel_rfl,(by
 have h:(match Try.prog.info? 84 with|some i=>(match i.zero with|some z=>decide (z.cells.size=1)&&decide (i.size=1)&&decide (i.bytes=24)|none=>false)|none=>false)=true:=by kernel_rfl
 revert h
 cases Try.prog.info? 84 with
 |none=>intro h;cases h
 |some i=>
  intro h;simp only at h;split at h
  ·rename_i z hz;simp only[oBA,oDE]at h;exact⟨i,z,rfl,hz,h.1.2,h.2,h.1.1⟩
  ·cases h),by decide⟩
def DB:List Value:=[.int .i64 0,.int .i64 0,.int .i64 0,.int .i64 0,.int .i64 0]
def BS:Value->Option Int
 |.int .i64 a=>some a
 |_=>none
def qW:List Value->Option (List Int)
 | []=>some []
 |x::r=>match BS x,qW r with|some a,some l=>some (a::l)|_,_=>none
theorem zk:∀{l:List Value}{xs:List Int},qW l=some xs->l=xs.map (.int .i64):=by
 intro l
 induction l with
 |nil=>intro xs h;injection h with h;subst h;rfl
 |cons x r ih=>
  intro xs h;simp only[qW]at h;split at h
  ·rename_i a q h1 h2
   injection h with h
   subst h;rw[ih h2];unfold BS at h1;split at h1
   ·injection h1 with h1;subst h1;rfl
   ·cases h1
  ·cases h
theorem zn:∃i z,Try.prog.info? 78=some i/\i.zero=some z/\i.size=5/\i.bytes=40/\z.cells=DB.toArray:=by
 have h:(match Try.prog.info? 78 with|some i=>(match i.zero with|some z=>decide (qW z.cells.toList=some [0,0,0,0,0])&&decide (i.size=5)&&decide (i.bytes=40)|none=>false)|none=>false)=true:=by kernel_rfl
 revert h
 cases Try.prog.info? 78 with
 |none=>intro h;cases h
 |some i=>
  intro h;simp only at h;split at h
  ·rename_i z hz;simp only[oBA,oDE]at h
   exact⟨i,z,rfl,hz,h.1.2,h.2,by
    have:=zk h.1.1;rw[<- Array.toArray_toList (xs:=z.cells),this]
    rfl⟩
  ·cases h
theorem kT{P:Program}{ops:Array Oper}{rest:List Oper}{o:Oper}{a:Act}{Q:Exit->Act->World->Prop}{w:World}{t it:TypeId}(Xe:o.guard=none)(s x:Operand)(ho:o.op=.call { callee:=.builtin .append,args:=#[s,x],argTypes:=#[t,it] })
 {vs vx v':Value}{w':World}(hs:a.eval s=vs)(hx:a.eval x=vx)(hrun:(Builtin.append_ #[t,it] o.type #[vs,vx]).run P w=.ok v' w')(h:wpList P ops Q rest (a.put o.dst v') w'):wpList P ops Q (o::rest) a w:=by
 refine wpList_plain Xe λK hK=>?_;unfold Oper.wp;simp[execOp,ho,resolve,invoke,builtin,hs,hx,hrun,Result.andThen];exact hK _ _ h
abbrev uc:Value:=.slice none 0 0
def Ph(N:Nat)(SS:Value)(e:TypeId)(m:Nat)(xs:List Value)(f s:Value)(w:World):Prop:=
 (f=undef/\s=SS)\/(f≠undef/\f≠SS/\w.ownsRow N e 1 f m xs/\(s=SS\/s=f))
theorem Ph.grown{N:Nat}{SS:Value}{e:TypeId}{m:Nat}{xs:List Value}{f s:Value}{w w':World}(h:Ph N SS e m xs f s w)(hg:w.grownBy w' none):Ph N SS e m xs f s w':=by
 rcases h with h|⟨h1,h2,h3,h4⟩
 ·exact .inl h
 ·exact .inr ⟨h1,h2,h3.kept hg (by cases f.ownBlock<;>simp),h4⟩
theorem dR{w:World}{N:Nat}{e:TypeId}{sz:Nat}{v:Value}{n:Nat}{xs:List Value}{p:Addr}{u:Value}(h:w.ownsRow N e sz v n xs)(hp:p.block<N):(w.setCell p u).ownsRow N e sz v n xs:=by
 refine⟨h.1,?_⟩;rcases h.2 with h|⟨g,cap,cur,e1,hb,hg,h⟩
 ·exact .inl h
 ·exact .inr ⟨g,cap,cur,e1,hb,(Below.heap_setCell w p u g (by omega)).trans hg,h⟩
theorem Ph.set{N:Nat}{SS:Value}{e:TypeId}{m:Nat}{xs:List Value}{f s:Value}{w:World}{p:Addr}{u:Value}(h:Ph N SS e m xs f s w)(hp:p.block<N):Ph N SS e m xs f s (w.setCell p u):=by
 rcases h with h|⟨h1,h2,h3,h4⟩
 ·exact .inl h
 ·exact .inr ⟨h1,h2,dR h3 hp,h4⟩
structure B2 (w:World)(C SS SD:Value)(n m l:Nat)(cs ss ds:List Value)(f16 f19:Value)(w':World):Prop where
 grown:w.grownBy w' none
 res:Bk w' (w.heap.size+1) 26 [uc,uc,uc]
 code:w'.ownsRow (w.heap.size+2) 78 5 C n cs
 box:∃s d,Bk w' w.heap.size 26 [C,s,d]/\Ph (w.heap.size+2) SS 3 m ss f16 s w'/\Ph (w.heap.size+2) SD 84 l ds f19 d w'
theorem BO{w w':World}{SS v:Value}{e:TypeId}{n sz m sz':Nat}{xs ys:List Value}(hR:pN w SS n sz xs)(h:w'.ownsRow (w.heap.size+2) e sz' v m ys):v≠SS:=by
 obtain⟨b,off,cap,rfl,hlt,_⟩:=hR.ex;rintro rfl
 rcases h.2 with⟨h,_⟩|⟨g,Z2,cur,e1,hb,_⟩
 ·cases h
 ·injection e1 with e1
  injection e1 with e1
  injection e1 with e1
  omega
theorem g7{w':World}{v:Value}{N:Nat}{e:TypeId}{m sz':Nat}{ys:List Value}(h:w'.ownsRow N e sz' v m ys):v≠undef:=by
 rintro rfl
 rcases h.2 with⟨h,_⟩|⟨g,Z2,cur,e1,hb,_⟩
 ·cases h
 ·cases e1
def DD(q o:Nat)(SS:Value)(w:World):Prop:=w.cell? ⟨q,o,none⟩≠some SS
def RR2(q:Nat)(SS SD:Value)(w w':World):Prop:=(DD q 1 SS w->DD q 1 SS w')/\(DD q 2 SD w->DD q 2 SD w')
theorem RR2.refl{q:Nat}{SS SD:Value}(w:World):RR2 q SS SD w w:=⟨id,id⟩
theorem RR2.grown{q:Nat}{SS SD:Value}{w w':World}(hq:q<w.heap.size)(hg:w.grownBy w' none):RR2 q SS SD w w':=by
 have hh:∀o,w'.cell? ⟨q,o,none⟩=w.cell? ⟨q,o,none⟩:=λo=>World.cell?_of_block (hg.block q hq (by simp));exact⟨λh=>by unfold DD at *;rw[hh];exact h,λh=>by unfold DD at *;rw[hh];exact h⟩
section
variable {w:World} {C SS SD:Value} {n m l:Nat} {cs ss ds:List Value} {f16 f19:Value} {w1 w2:World}
theorem B2.lt(h:B2 w C SS SD n m l cs ss ds f16 f19 w1):w.heap.size<w1.heap.size:=by
 obtain⟨s,d,h1,_⟩:=h.box;exact h1.hi
theorem B2.lt2(h:B2 w C SS SD n m l cs ss ds f16 f19 w1):w.heap.size+2<=w1.heap.size:=h.res.hi
theorem B2.grow(h:B2 w C SS SD n m l cs ss ds f16 f19 w1)(hg:w1.grownBy w2 none):B2 w C SS SD n m l cs ss ds f16 f19 w2:=by
 obtain⟨s,d,h1,h2,h3⟩:=h.box;exact⟨eE h.grown hg,h.res.grow hg,h.code.kept hg (by cases C.ownBlock<;>simp),s,d,h1.grow hg,h2.grown hg,h3.grown hg⟩
theorem B2.one(h:B2 w C SS SD n m l cs ss ds undef f19 w1):w1.cell? ⟨w.heap.size,1,none⟩=some SS:=by
 obtain⟨s,d,h1,h2,_⟩:=h.box
 rcases h2 with⟨_,rfl⟩|⟨h2,_⟩
 ·rw[h1.cell];rfl
 ·exact absurd rfl h2
theorem xA(h:B2 w C SS SD n m l cs ss ds f16 undef w1):w1.cell? ⟨w.heap.size,2,none⟩=some SD:=by
 obtain⟨s,d,h1,_,h2⟩:=h.box
 rcases h2 with⟨_,rfl⟩|⟨h2,_⟩
 ·rw[h1.cell];rfl
 ·exact absurd rfl h2
theorem tG(h:B2 w C SS SD n m l cs ss ds undef f19 w1)(hg:w1.grownBy w2 none){v:Value}(ho:w2.ownsRow (w.heap.size+2) 3 1 v m ss)(hR:pN w SS m 1 ss):B2 w C SS SD n m l cs ss ds v f19 w2:=by
 obtain⟨s,d,h1,h2,h3⟩:=h.box;refine⟨eE h.grown hg,h.res.grow hg,h.code.kept hg (by cases C.ownBlock<;>simp),s,d,h1.grow hg,?_,h3.grown hg⟩
 rcases h2 with⟨_,rfl⟩|⟨h2,_⟩
 ·exact .inr ⟨g7 ho,BO hR ho,ho,.inl rfl⟩
 ·exact absurd rfl h2
theorem tF(h:B2 w C SS SD n m l cs ss ds f16 undef w1)(hg:w1.grownBy w2 none){v:Value}(ho:w2.ownsRow (w.heap.size+2) 84 1 v l ds)(hR:pN w SD l 1 ds):B2 w C SS SD n m l cs ss ds f16 v w2:=by
 obtain⟨s,d,h1,h2,h3⟩:=h.box;refine⟨eE h.grown hg,h.res.grow hg,h.code.kept hg (by cases C.ownBlock<;>simp),s,d,h1.grow hg,h2.grown hg,?_⟩
 rcases h3 with⟨_,rfl⟩|⟨h2,_⟩
 ·exact .inr ⟨g7 ho,BO hR ho,ho,.inl rfl⟩
 ·exact absurd rfl h2
theorem wg(h:B2 w C SS SD n m l cs ss ds f16 f19 w1)(h0:f16≠undef):B2 w C SS SD n m l cs ss ds f16 f19 (w1.setCell ⟨w.heap.size,1,none⟩ f16)/\RR2 w.heap.size SS SD w1 (w1.setCell ⟨w.heap.size,1,none⟩ f16)/\DD w.heap.size 1 SS (w1.setCell ⟨w.heap.size,1,none⟩ f16):=by
 obtain⟨s,d,h1,h2,h3⟩:=h.box;have h4:=h1.set 1 f16
 rcases h2 with⟨h2,_⟩|⟨h2,h5,h6,h7⟩
 ·exact absurd h2 h0
 ·have hD:DD w.heap.size 1 SS (w1.setCell ⟨w.heap.size,1,none⟩ f16):=by
   unfold DD;rw[h4.cell];intro e;exact h5 (Option.some.inj e)
  refine⟨⟨gv h.grown (.inr (by simp)) _,h.res.other (by simp) _,dR h.code (by simp),f16,d,h4,.inr ⟨h2,h5,dR h6 (by simp),.inr rfl⟩,h3.set (by simp)⟩,⟨λ_=>hD,λhd=>?_⟩,hD⟩;unfold DD at hd⊢;rw[h4.cell];rw[h1.cell]at hd;exact hd
theorem we(h:B2 w C SS SD n m l cs ss ds f16 f19 w1)(h0:f19≠undef):B2 w C SS SD n m l cs ss ds f16 f19 (w1.setCell ⟨w.heap.size,2,none⟩ f19)/\RR2 w.heap.size SS SD w1 (w1.setCell ⟨w.heap.size,2,none⟩ f19)/\DD w.heap.size 2 SD (w1.setCell ⟨w.heap.size,2,none⟩ f19):=by
 obtain⟨s,d,h1,h3,h2⟩:=h.box;have h4:=h1.set 2 f19
 rcases h2 with⟨h2,_⟩|⟨h2,h5,h6,h7⟩
 ·exact absurd h2 h0
 ·have hD:DD w.heap.size 2 SD (w1.setCell ⟨w.heap.size,2,none⟩ f19):=by
   unfold DD;rw[h4.cell];intro e;exact h5 (Option.some.inj e)
  refine⟨⟨gv h.grown (.inr (by simp)) _,h.res.other (by simp) _,dR h.code (by simp),s,f19,h4,h3.set (by simp),.inr ⟨h2,h5,dR h6 (by simp),.inr rfl⟩⟩,⟨λhd=>?_,λ_=>hD⟩,hD⟩;unfold DD at hd⊢;rw[h4.cell];rw[h1.cell]at hd;exact hd
theorem B2.done(h:B2 w C SS SD n m l cs ss ds f16 f19 w1)(h1:DD w.heap.size 1 SS w1)(h2:DD w.heap.size 2 SD w1):
 ∃S D,Bk w1 w.heap.size 26 [C,S,D]/\w1.ownsRow (w.heap.size+2) 3 1 S m ss/\w1.ownsRow (w.heap.size+2) 84 1 D l ds:=by
 obtain⟨s,d,hK,h3,h4⟩:=h.box;unfold DD at h1 h2;rw[hK.cell]at h1 h2;simp only[List.getElem?_cons_zero,List.getElem?_cons_succ]at h1 h2
 have o:∀{N:Nat}{e:TypeId}{SS f s:Value}{m:Nat}{xs:List Value},Ph N SS e m xs f s w1->some s≠some SS->w1.ownsRow N e 1 s m xs:=by
  intro N e SS f s m xs h hne
  rcases h with⟨_,rfl⟩|⟨_,_,h,rfl|rfl⟩
  ·exact absurd rfl hne
  ·exact absurd rfl hne
  ·exact h
 exact⟨s,d,hK,o h3 h1,o h4 h2⟩
theorem Ph.slice{N:Nat}{SS:Value}{e:TypeId}{m:Nat}{xs:List Value}{f s:Value}{w:World}(h:Ph N SS e m xs f s w)(h0:f≠undef):∃A c,f=.slice A m c:=by
 rcases h with⟨h,_⟩|⟨_,_,h,_⟩
 ·exact absurd h h0
 ·rcases h.2 with⟨rfl,X6⟩|⟨g,cap,cur,rfl,_⟩
  ·rw[X6];exact⟨_,_,rfl⟩
  ·exact⟨_,_,rfl⟩
end
theorem si{w:World}{N N':Nat}{e e':TypeId}{sz sz':Nat}{v v':Value}{n n':Nat}{xs ys:List Value}(h:w.ownsRow N e sz v n xs)(h':w.ownsRow N' e' sz' v' n' ys)(hne:e≠e'):v.ownBlock=none\/v.ownBlock≠v'.ownBlock:=by
 rcases h.2 with⟨rfl,_⟩|⟨g,cap,cur,rfl,_,hg,_⟩
 ·exact .inl rfl
 ·refine .inr λe1=>?_
  rcases h'.2 with⟨rfl,_⟩|⟨g',Z2,YN,rfl,_,TM,_⟩
  ·cases e1
  ·injection e1 with e1
   subst e1;have e2:=Option.some.inj (hg.symm.trans TM)
   injection e2 with _ e2
   exact hne e2
theorem pN.pos{w:World}{v:Value}{n sz:Nat}{cs:List Value}(h:pN w v n sz cs)(hn:0<n)(hs:0<sz):0<cs.length:=by rw[h.len];exact Nat.mul_pos hn hs
structure Pt (w:World)(S D:Value)(gC m l:Nat)(cs ss ds:List Value)(w':World):Prop where
 grown:w.grownBy w' none
 res:Bk w' (w.heap.size+1) 26 [uc,uc,uc]
 oS:w'.ownsRow (w.heap.size+2) 3 1 S m ss
 oD:w'.ownsRow (w.heap.size+2) 84 1 D l ds
 lt:gC<w'.heap.size
 pre:∀(j:Nat) u,cs[j]?=some u->w'.cell? ⟨gC,j,none⟩=some u
section
variable {w:World} {C S D:Value} {gC n m l k:Nat} {cs ss ds zs xs:List Value} {f73 f76 f79 v s:Value} {w1 w2:World}
theorem rE{q:Nat}{vs:List Value}{t e:TypeId}{N sz:Nat}(h:Bk w1 q t vs)(ho:w1.ownsRow N e sz v n xs)(hq:q<N)(hg:w1.grownBy w2 v.ownBlock):Bk w2 q t vs:=
 h.keep (hg.block q h.hi λe1=>by have:=(ho.lt q e1.symm).1;omega)
theorem Pt.app(h:Pt w S D gC m l cs ss ds w1)(ho:w1.ownsRow (w.heap.size+2) 78 5 v n (cs++zs))(hg:w1.grownBy w2 v.ownBlock)(hs:fC w2 v (cs++zs)):Pt w S D gC m l cs ss ds w2:=by
 refine⟨?_,rE h.res ho (by omega) hg,h.oS.kept hg (si h.oS ho (by decide)),h.oD.kept hg (si h.oD ho (by decide)),Nat.lt_of_lt_of_le h.lt hg.size,λj u hj=>?_⟩
 ·cases hv:v.ownBlock with
  |none=>rw[hv]at hg;exact eE h.grown hg
  |some g=>
   rw[hv]at hg;exact uu h.grown hg (by have:=(ho.lt g hv).1;omega)
 ·by_cases e:v.ownBlock=some gC
  ·exact hs gC e j u (by rw[List.getElem?_append_left (oGS hj).1];exact hj)
  ·rw[World.cell?_of_block (hg.block gC h.lt λe1=>e e1.symm)];exact h.pre j u hj
def Ph3(w:World)(C:Value)(n k:Nat)(cs:List Value)(f73 f76 f79 s:Value)(w':World):Prop:=
 (f73=undef/\f76=undef/\f79=undef/\s=C/\w'.ownsRow (w.heap.size+2) 78 5 C n (cs++[]))\/
 (f73≠undef/\f76=undef/\f79=undef/\s=C/\w'.ownsRow (w.heap.size+2) 78 5 f73 (n+n) (cs++cs))\/
 (f76≠undef/\f79=undef/\s=C/\w'.ownsRow (w.heap.size+2) 78 5 f76 (n+n+n) (cs++(cs++cs)))\/
 (f79≠undef/\w'.ownsRow (w.heap.size+2) 78 5 f79 (n+n+n+k) (cs++(cs++cs)++(List.replicate k DB).flatten)/\(s=C\/s=f79))
structure B16 (w:World)(C S D:Value)(gC n m l k:Nat)(cs ss ds:List Value)(f73 f76 f79:Value)(w':World):Prop where
 pt:Pt w S D gC m l cs ss ds w'
 box:∃s,Bk w' w.heap.size 26 [s,S,D]/\Ph3 w C n k cs f73 f76 f79 s w'
def rH(q:Nat)(C:Value)(w w':World):Prop:=DD q 0 C w->DD q 0 C w'
theorem rH.refl{q:Nat}{C:Value}(w:World):rH q C w w:=id
theorem lQ{q t:Nat}{C:Value}{vs:List Value}(h1:Bk w1 q t vs)(h2:Bk w2 q t vs):rH q C w1 w2:=λh=>by
 unfold DD at h⊢;rw[h2.cell];rw[h1.cell]at h;exact h
theorem B16.load(h:B16 w C S D gC n m l k cs ss ds f73 f76 undef w1):w1.cell? ⟨w.heap.size,0,none⟩=some C:=by
 obtain⟨s,hK,h⟩:=h.box;rw[hK.cell]
 rcases h with⟨_,_,_,rfl,_⟩|⟨_,_,_,rfl,_⟩|⟨_,_,rfl,_⟩|⟨h,_⟩
 ·rfl
 ·rfl
 ·rfl
 ·exact absurd rfl h
theorem B16.grow(h:B16 w C S D gC n m l k cs ss ds f73 f76 f79 w1)(hg:w1.grownBy w2 none):B16 w C S D gC n m l k cs ss ds f73 f76 f79 w2:=by
 have kp:∀{e:TypeId}{sz:Nat}{v:Value}{n:Nat}{xs:List Value},w1.ownsRow (w.heap.size+2) e sz v n xs->w2.ownsRow (w.heap.size+2) e sz v n xs:=λ{e sz v n xs} h=>h.kept hg (by cases v.ownBlock<;>simp);obtain⟨s,hK,h2⟩:=h.box;refine⟨⟨eE h.pt.grown hg,h.pt.res.grow hg,kp h.pt.oS,kp h.pt.oD,Nat.lt_of_lt_of_le h.pt.lt hg.size,λj u hj=>?_⟩,s,hK.grow hg,?_⟩
 ·rw[World.cell?_of_block (hg.block gC h.pt.lt (by simp))];exact h.pt.pre j u hj
 ·rcases h2 with⟨a,b,c,d,ho⟩|⟨a,b,c,d,ho⟩|⟨a,b,c,ho⟩|⟨a,ho,b⟩
  ·exact .inl ⟨a,b,c,d,kp ho⟩
  ·exact .inr (.inl ⟨a,b,c,d,kp ho⟩)
  ·exact .inr (.inr (.inl ⟨a,b,c,kp ho⟩))
  ·exact .inr (.inr (.inr ⟨a,kp ho,b⟩))
theorem tJ(h:B16 w C S D gC n m l k cs ss ds undef undef undef w1)(hC:∃c,C=.slice (some ⟨gC,0,none⟩) n c)(hl:cs.length=n*5)(h1:∀u∈cs,u.oneCell'=true)(hn:n<=64)(ty:TypeId):
 ∃v w2,(Builtin.append_ #[22,22] ty #[C,C]).run Try.prog w1=.ok v w2/\v≠undef/\B16 w C S D gC n m l k cs ss ds v undef undef w2/\rH w.heap.size C w1 w2:=by
 obtain⟨s,hK,h2⟩:=h.box
 rcases h2 with⟨_,_,_,rfl,ho⟩|⟨h2,_⟩|⟨h2,_⟩|⟨h2,_⟩
 ·obtain⟨c,rfl⟩:=hC;obtain⟨v,w2,hr,YT,hg,hs⟩:=g6 qu ty _ _ n _ ho ⟨gC,0,none⟩ n c cs hl (λj u hj=>by rw[cB];simpa using h.pt.pre j u hj) h1 (by simp only[maxLen];omega) (by omega) (by have:w.heap.size+1<w1.heap.size:=h.pt.res.hi;omega);have Vz:=rE hK ho (by omega) hg;refine⟨v,w2,hr,g7 YT,⟨h.pt.app ho hg hs,_,Vz,.inr (.inl ⟨g7 YT,rfl,rfl,rfl,?_⟩)⟩,lQ hK Vz⟩;rw[List.append_nil]at YT;exact YT
 ·exact absurd rfl h2
 ·exact absurd rfl h2
 ·exact absurd rfl h2
theorem tI(h:B16 w C S D gC n m l k cs ss ds f73 undef undef w1)(O5:f73≠undef)(hC:∃c,C=.slice (some ⟨gC,0,none⟩) n c)(hl:cs.length=n*5)(h1:∀u∈cs,u.oneCell'=true)(hn:n<=64)(ty:TypeId):
 ∃v w2,(Builtin.append_ #[22,22] ty #[f73,C]).run Try.prog w1=.ok v w2/\v≠undef/\B16 w C S D gC n m l k cs ss ds f73 v undef w2/\rH w.heap.size C w1 w2:=by
 obtain⟨s,hK,h2⟩:=h.box
 rcases h2 with⟨h2,_⟩|⟨_,_,_,rfl,ho⟩|⟨h2,_⟩|⟨h2,_⟩
 ·exact absurd h2 O5
 ·obtain⟨c,rfl⟩:=hC;obtain⟨v,w2,hr,YT,hg,hs⟩:=g6 qu ty _ _ (n+n) _ ho ⟨gC,0,none⟩ n c cs hl (λj u hj=>by rw[cB];simpa using h.pt.pre j u hj) h1 (by simp only[maxLen];omega) (by omega) (by have:w.heap.size+1<w1.heap.size:=h.pt.res.hi;omega);have Vz:=rE hK ho (by omega) hg;refine⟨v,w2,hr,g7 YT,⟨h.pt.app ho hg hs,_,Vz,.inr (.inr (.inl ⟨g7 YT,rfl,rfl,?_⟩))⟩,lQ hK Vz⟩;rw[List.append_assoc]at YT;exact YT
 ·exact absurd rfl h2
 ·exact absurd rfl h2
theorem tH(h:B16 w C S D gC n m l k cs ss ds f73 f76 undef w1)(Qx:f76≠undef)(X':0<n)(hn:n<=64)(hk:k<=64)(ty:TypeId):
 ∃v w2,(Builtin.append_ #[22,3] ty #[f76,.int .i64 k]).run Try.prog w1=.ok v w2/\v≠undef/\B16 w C S D gC n m l k cs ss ds f73 f76 v w2/\rH w.heap.size C w1 w2:=by
 obtain⟨s,hK,h2⟩:=h.box;obtain⟨i,z,hi,hz,Y',ZV,SV⟩:=zn
 rcases h2 with⟨_,h2,_⟩|⟨_,h2,_⟩|⟨_,_,rfl,ho⟩|⟨h2,_⟩
 ·exact absurd h2 Qx
 ·exact absurd h2 Qx
 ·obtain⟨v,w2,hr,YT,hg,hs⟩:=nZ qu.under (show Try.prog.underlying 3=some (.int .i64) by kernel_rfl) hi hz Y' ZV SV rfl (by decide) (by decide) ty _ _ (n+n+n) _ ho (by omega) k (by omega) (by omega) (by have:w.heap.size+1<w1.heap.size:=h.pt.res.hi;omega);have Vz:=rE hK ho (by omega) hg;exact⟨v,w2,hr,g7 YT,⟨h.pt.app ho hg hs,_,Vz,.inr (.inr (.inr ⟨g7 YT,YT,.inl rfl⟩))⟩,lQ hK Vz⟩
 ·exact absurd rfl h2
theorem Pt.set(h:Pt w S D gC m l cs ss ds w1)(u:Value)(hg:w.heap.size+2<=gC):Pt w S D gC m l cs ss ds (w1.setCell ⟨w.heap.size,0,none⟩ u):=
 ⟨gv h.grown (.inr (by simp)) _,h.res.other (by simp) _,dR h.oS (by simp),dR h.oD (by simp),by simpa[World.setCell]using h.lt,λj v hj=>by
  rw[World.cell?_of_block (Below.heap_setCell w1 _ u gC (by dsimp only;omega))]
  exact h.pre j v hj⟩
theorem B16.put(h:B16 w C S D gC n m l k cs ss ds f73 f76 f79 w1)(S9:f79≠undef)(X':0<n)(hg:w.heap.size+2<=gC)(hC:∃c,C=.slice (some ⟨gC,0,none⟩) n c):
 (∃A c,f79=.slice A (n+n+n+k) c)/\B16 w C S D gC n m l k cs ss ds f73 f76 f79 (w1.setCell ⟨w.heap.size,0,none⟩ f79)/\rH w.heap.size C w1 (w1.setCell ⟨w.heap.size,0,none⟩ f79)/\DD w.heap.size 0 C (w1.setCell ⟨w.heap.size,0,none⟩ f79):=by
 obtain⟨s,hK,h2⟩:=h.box;have h4:=hK.set 0 f79
 rcases h2 with⟨_,_,h2,_⟩|⟨_,_,h2,_⟩|⟨_,h2,_⟩|⟨_,ho,_⟩
 ·exact absurd h2 S9
 ·exact absurd h2 S9
 ·exact absurd h2 S9
 ·obtain⟨A,c,hA⟩:∃A c,f79=.slice A (n+n+n+k) c:=by
   rcases ho.2 with⟨rfl,X6⟩|⟨g,cap,cur,rfl,_⟩
   ·rw[X6];exact⟨_,_,rfl⟩
   ·exact⟨_,_,rfl⟩
  have hD:DD w.heap.size 0 C (w1.setCell ⟨w.heap.size,0,none⟩ f79):=by
   unfold DD;rw[h4.cell];obtain⟨c',rfl⟩:=hC;rw[hA];intro e;have e:=Option.some.inj e
   injection e with _ e _
   omega
  exact⟨⟨A,c,hA⟩,⟨h.pt.set _ hg,_,h4,.inr (.inr (.inr ⟨S9,dR ho (by simp),.inr rfl⟩))⟩,λ_=>hD,hD⟩
theorem B16.done(h:B16 w C S D gC n m l k cs ss ds f73 f76 f79 w1)(h1:DD w.heap.size 0 C w1):
 ∃E,Bk w1 w.heap.size 26 [E,S,D]/\w1.ownsRow (w.heap.size+2) 78 5 E (n+n+n+k) (cs++(cs++cs)++(List.replicate k DB).flatten):=by
 obtain⟨s,hK,h2⟩:=h.box;unfold DD at h1;rw[hK.cell]at h1;simp only[List.getElem?_cons_zero]at h1
 rcases h2 with⟨_,_,_,rfl,_⟩|⟨_,_,_,rfl,_⟩|⟨_,_,rfl,_⟩|⟨_,ho,rfl|rfl⟩
 ·exact absurd rfl h1
 ·exact absurd rfl h1
 ·exact absurd rfl h1
 ·exact absurd rfl h1
 ·exact⟨_,hK,ho⟩
end
def z2(n m l k:Nat)(cs ss ds:List Value)(w:World)(e:Ending)(w':World):Prop:=
 ∃C S D,e=.returned (.agg #[C,S,D])/\w.grownBy w' none/\w'.ownsRow (w.heap.size+2) 78 5 C (n+n+n+k) (cs++(cs++cs)++(List.replicate k DB).flatten)/\
  w'.ownsRow (w.heap.size+2) 3 1 S m ss/\w'.ownsRow (w.heap.size+2) 84 1 D l ds
set_option maxRecDepth 100000 in
set_option maxHeartbeats 4000000 in
theorem zU(SC SS SD:Value)(n m l:Nat)(cs ss ds:List Value)(what at_ by_:Int)(w:World)(hC:pN w SC n 5 cs)(hS:pN w SS m 1 ss)(hD:pN w SD l 1 ds)
 (X':0<n)(hn:n<=64)(hm:m<=64)(hl:l<=64)(Vo:-9223372036854775808<=what)(XB:what<=9223372036854775807)(UJ:-9223372036854775808<=at_)(WY:at_<=9223372036854775807)(VA:-9223372036854775808<=by_)(ZV:by_<=9223372036854775807)(h5:what%8=5)(k:Nat)(hk:by_%64=k):
 Calls Try.prog 14 #[.agg #[SC,SS,SD],.int .i64 what,.int .i64 at_,.int .i64 by_] w (z2 n m l k cs ss ds w):=by
 have HW:=Lib.hid (And.intro Vo XB);have HA:=Lib.hid (And.intro UJ WY);have Qn:=Lib.hid (And.intro VA ZV);obtain⟨b1,Wl,VW,rfl,-⟩:=hC.ex;obtain⟨b2,Zj,ZG,rfl,-⟩:=hS.ex;obtain⟨b3,Zk,Zm,rfl,-⟩:=hD.ex
 have Sc:k<=64:=by have:=Int.emod_lt_of_pos by_ (show(0:Int)<64 by decide);omega
 have HC:=Lib.hid hC;have HS:=Lib.hid hS;have HD:=Lib.hid hD;clear hC hS hD Vo XB UJ WY VA ZV
 go_enter Try.func14,Try.ntmps14
 go_upto_region 1 with fail
 obtain⟨W0,UI⟩:∃W0,W0=(w.alloc (.cells #[(.slice (some ⟨b1,Wl,none⟩) n VW),(.slice (some ⟨b2,Zj,none⟩) m ZG),(.slice (some ⟨b3,Zk,none⟩) l Zm)] 26)).alloc (.cells #[uc,uc,uc] 26):=⟨_,rfl⟩
 have g0:w.grownBy W0 none:=by rw[UI];exact kM (kM (gf _ _) _) _
 have s0:W0.heap.size=w.heap.size+2:=by rw[UI];simp
 have p0:Bk W0 w.heap.size 26 [(.slice (some ⟨b1,Wl,none⟩) n VW),(.slice (some ⟨b2,Zj,none⟩) m ZG),(.slice (some ⟨b3,Zk,none⟩) l Zm)]:=by rw[UI];exact Bk.grow Bk.new (kM (gf _ _) _)
 have r0:Bk W0 (w.heap.size+1) 26 [uc,uc,uc]:=by
  rw[UI];have:=@Bk.new (w.alloc (.cells #[(.slice (some ⟨b1,Wl,none⟩) n VW),(.slice (some ⟨b2,Zj,none⟩) m ZG),(.slice (some ⟨b3,Zk,none⟩) l Zm)] 26)) 26 [uc,uc,uc];simpa using this
 rw[<- UI];clear UI;obtain⟨C,W1,hrun,hown,ZN⟩:=jj qu 22 (w.heap.size+2) _ n cs HC.out g0 (by simp only[maxLen];omega) (by omega) (by omega);have c0:=p0.cell 0;simp only[List.getElem?_cons_zero]at c0;have HP:=Lib.hid (p0.grow ZN);have HR:=Lib.hid (r0.grow ZN);have HG:=Lib.hid (eE g0 ZN);have HO:=Lib.hid hown
 obtain⟨gC,kC,rfl,QL⟩:∃gC kC,C=.slice (some ⟨gC,0,none⟩) n kC/\w.heap.size+2<=gC:=by
  rcases hown.2 with⟨rfl,h⟩|⟨g,cap,cur,rfl,h,_⟩
  ·omega
  ·exact⟨g,cap,rfl,h⟩
 have hf:W1.frozen? ⟨w.heap.size,0,none⟩=false:=HP.out.free 0
 have Zz:W1.cell? ⟨w.heap.size,0,none⟩=some (.slice (some ⟨b1,Wl,none⟩) n VW):=by rw[HP.out.cell];rfl
 clear p0 r0 g0 ZN hown s0
 go_upto_region 2 with(at_builtin;go_loud (refine kT rfl _ _ rfl rfl rfl hrun ?_))
 obtain⟨W2,Rv⟩:∃W2,W2=W1.setCell ⟨w.heap.size,0,none⟩ (.slice (some ⟨gC,0,none⟩) n kC):=⟨_,rfl⟩;rw[<- Rv]
 have HB:=Lib.hid (show B2 w (.slice (some ⟨gC,0,none⟩) n kC) (.slice (some ⟨b2,Zj,none⟩) m ZG) (.slice (some ⟨b3,Zk,none⟩) l Zm) n m l cs ss ds undef undef W2 by
  rw[Rv]
  exact⟨gv HG.out (.inr (by simp)) _,HR.out.other (by simp) _,dR HO.out (by simp),_,_,HP.out.set 0 _,.inl ⟨rfl,rfl⟩,.inl ⟨rfl,rfl⟩⟩)
 clear Rv hf Zz hrun c0 HP HR HG HO
 refine jX (λf w'=>B2 w (.slice (some ⟨gC,0,none⟩) n kC) (.slice (some ⟨b2,Zj,none⟩) m ZG) (.slice (some ⟨b3,Zk,none⟩) l Zm) n m l cs ss ds (f 16) (f 19) w') (RR2 w.heap.size (.slice (some ⟨b2,Zj,none⟩) m ZG) (.slice (some ⟨b3,Zk,none⟩) l Zm))
  [jV (.pointer (some ⟨w.heap.size,1,none⟩)),jV (.slice (some ⟨b2,Zj,none⟩) m ZG),λv _=>v≠undef,jV (.pointer (some ⟨w.heap.size,2,none⟩)),jV (.slice (some ⟨b3,Zk,none⟩) l Zm),λv _=>v≠undef,jV (.pointer (some ⟨w.heap.size,1,none⟩)),λ_ w9=>DD w.heap.size 1 (.slice (some ⟨b2,Zj,none⟩) m ZG) w9,jV (.pointer (some ⟨w.heap.size,2,none⟩)),λ_ w9=>DD w.heap.size 2 (.slice (some ⟨b3,Zk,none⟩) l Zm) w9]
  104 (by kernel_rfl) rfl (by kernel_rfl) (B2.grow HB.out (qa (gf _ _))) RR2.refl ?_ ?_ ?_
 ·exact⟨jV.kept,jV.kept,λ_ _ _ _ h=>h,jV.kept,jV.kept,λ_ _ _ _ h=>h,jV.kept,λ_ _ _ hr h=>hr.1 h,jV.kept,λ_ _ _ hr h=>hr.2 h,trivial⟩
 ·refine b5 ?_ (b5 ?_ (b5 ?_ (b5 ?_ (b5 ?_ (b5 ?_ (b5 ?_ (b5 ?_ (b5 ?_ (b5 ?_ (qe))))))))))
  ·refine ch rfl λf w1 hb H HN=>?_;have e4:f 4=_:=H 4 (by decide);clear H HN;have HB:=Lib.hid hb;clear hb
   go_simp
   exact⟨HB.out,RR2.refl _,rfl⟩
  ·refine ch rfl λf w1 hb H HN=>?_;have Og:f 14=_:=H 14 (by decide);have UB:f 16=undef:=HN 15 16 rfl (by kernel_rfl);clear H HN;have hc:=B2.one (show B2 w (.slice (some ⟨gC,0,none⟩) n kC) (.slice (some ⟨b2,Zj,none⟩) m ZG) (.slice (some ⟨b3,Zk,none⟩) l Zm) n m l cs ss ds undef (f 19) w1 by first|(rw[<- UB];exact hb));have HB:=Lib.hid hb;clear hb UB
   go_simp
   exact⟨HB.out,RR2.refl _,rfl⟩
  ·refine ch rfl λf w1 hb H HN=>?_;have OU:f 15=_:=H 15 (by decide);have UB:f 16=undef:=HN 16 16 rfl (by kernel_rfl);clear H HN;obtain⟨v',w2,hr,hown,VF⟩:=jj Cc 23 (w.heap.size+2) _ m ss HS.out hb.grown (by simp only[maxLen];omega) (by omega) (by have:=hb.lt2;omega);simp only[execOp,resolve,invoke,builtin,Sem.run_bind,Sem.run_pure,Result.andThen_ok,List.map_toArray,List.map_cons,List.map_nil,pG,OU,hr,fH];exact⟨tG (show B2 w (.slice (some ⟨gC,0,none⟩) n kC) (.slice (some ⟨b2,Zj,none⟩) m ZG) (.slice (some ⟨b3,Zk,none⟩) l Zm) n m l cs ss ds undef (f 19) w1 by rw[<- UB];exact hb) VF hown HS.out,RR2.grown hb.lt VF,g7 hown⟩
  ·refine ch rfl λf w1 hb H HN=>?_;have e4:f 4=_:=H 4 (by decide);clear H HN;have HB:=Lib.hid hb;clear hb
   go_simp
   exact⟨HB.out,RR2.refl _,rfl⟩
  ·refine ch rfl λf w1 hb H HN=>?_;have Oh:f 17=_:=H 17 (by decide);have UC:f 19=undef:=HN 18 19 rfl (by kernel_rfl);clear H HN;have hc:=xA (show B2 w (.slice (some ⟨gC,0,none⟩) n kC) (.slice (some ⟨b2,Zj,none⟩) m ZG) (.slice (some ⟨b3,Zk,none⟩) l Zm) n m l cs ss ds (f 16) undef w1 by first|(rw[<- UC];exact hb));have HB:=Lib.hid hb;clear hb UC
   go_simp
   exact⟨HB.out,RR2.refl _,rfl⟩
  ·refine ch rfl λf w1 hb H HN=>?_;have OV:f 18=_:=H 18 (by decide);have UC:f 19=undef:=HN 19 19 rfl (by kernel_rfl);clear H HN;obtain⟨v',w2,hr,hown,VF⟩:=jj Cb 24 (w.heap.size+2) _ l ds HD.out hb.grown (by simp only[maxLen];omega) (by omega) (by have:=hb.lt2;omega);simp only[execOp,resolve,invoke,builtin,Sem.run_bind,Sem.run_pure,Result.andThen_ok,List.map_toArray,List.map_cons,List.map_nil,pG,OV,hr,fH];exact⟨tF (show B2 w (.slice (some ⟨gC,0,none⟩) n kC) (.slice (some ⟨b2,Zj,none⟩) m ZG) (.slice (some ⟨b3,Zk,none⟩) l Zm) n m l cs ss ds (f 16) undef w1 by rw[<- UC];exact hb) VF hown HD.out,RR2.grown hb.lt VF,g7 hown⟩
  ·refine ch rfl λf w1 hb H HN=>?_;have e4:f 4=_:=H 4 (by decide);clear H HN;have HB:=Lib.hid hb;clear hb
   go_simp
   exact⟨HB.out,RR2.refl _,rfl⟩
  ·refine ch rfl λf w1 hb H HN=>?_;have Oi:f 20=_:=H 20 (by decide);have Rf:=H 16 (by decide);clear H HN;obtain⟨s,d,hK,hp1,hp2⟩:=hb.box;obtain⟨A,c,UB⟩:=hp1.slice Rf;have hq:=wg hb Rf;have hc:=hK.cell 1;simp only[List.getElem?_cons_zero,List.getElem?_cons_succ]at hc;have hf:=hK.free 1;have HQ:=Lib.hid (show B2 w (.slice (some ⟨gC,0,none⟩) n kC) (.slice (some ⟨b2,Zj,none⟩) m ZG) (.slice (some ⟨b3,Zk,none⟩) l Zm) n m l cs ss ds (f 16) (f 19) (w1.setCell ⟨w.heap.size,1,none⟩ (.slice A m c))/\RR2 w.heap.size (.slice (some ⟨b2,Zj,none⟩) m ZG) (.slice (some ⟨b3,Zk,none⟩) l Zm) w1 (w1.setCell ⟨w.heap.size,1,none⟩ (.slice A m c))/\DD w.heap.size 1 (.slice (some ⟨b2,Zj,none⟩) m ZG) (w1.setCell ⟨w.heap.size,1,none⟩ (.slice A m c))from by rw[<- UB];exact hq);clear hq hb hp1 hp2 hK
   go_simp
   exact⟨HQ.out.1,HQ.out.2.1,HQ.out.2.2⟩
  ·refine ch rfl λf w1 hb H HN=>?_;have e4:f 4=_:=H 4 (by decide);clear H HN;have HB:=Lib.hid hb;clear hb
   go_simp
   exact⟨HB.out,RR2.refl _,rfl⟩
  ·refine ch rfl λf w1 hb H HN=>?_;have Oj:f 21=_:=H 21 (by decide);have Rg:=H 19 (by decide);clear H HN;obtain⟨s,d,hK,hp1,hp2⟩:=hb.box;obtain⟨A,c,UC⟩:=hp2.slice Rg;have hq:=we hb Rg;have hc:=hK.cell 2;simp only[List.getElem?_cons_zero,List.getElem?_cons_succ]at hc;have hf:=hK.free 2;have HQ:=Lib.hid (show B2 w (.slice (some ⟨gC,0,none⟩) n kC) (.slice (some ⟨b2,Zj,none⟩) m ZG) (.slice (some ⟨b3,Zk,none⟩) l Zm) n m l cs ss ds (f 16) (f 19) (w1.setCell ⟨w.heap.size,2,none⟩ (.slice A l c))/\RR2 w.heap.size (.slice (some ⟨b2,Zj,none⟩) m ZG) (.slice (some ⟨b3,Zk,none⟩) l Zm) w1 (w1.setCell ⟨w.heap.size,2,none⟩ (.slice A l c))/\DD w.heap.size 2 (.slice (some ⟨b3,Zk,none⟩) l Zm) (w1.setCell ⟨w.heap.size,2,none⟩ (.slice A l c))from by rw[<- UC];exact hq);clear hq hb hp1 hp2 hK
   go_simp
   exact⟨HQ.out.1,HQ.out.2.1,HQ.out.2.2⟩
 ·intro f w9 hb hE;simp only[fh,Act.put,xL,List.setIfInBounds_toArray,List.set_cons_succ,List.set_cons_zero];obtain⟨S,D,hK,hS,hD⟩:=hb.done hE.2.2.2.2.2.2.2.1 hE.2.2.2.2.2.2.2.2.2.1;have HK:=Lib.hid hK;have Qq:=Lib.hid hS;have Qp:=Lib.hid hD;have HG:=Lib.hid hb.grown;have HR:=Lib.hid hb.res;have HO:=Lib.hid hb.code
  obtain⟨AS,kS,rfl⟩:∃A c,S=.slice A m c:=by
   rcases hS.2 with⟨rfl,X6⟩|⟨g,cap,cur,rfl,_⟩
   ·rw[X6];exact⟨_,_,rfl⟩
   ·exact⟨_,_,rfl⟩
  obtain⟨AD,kD,rfl⟩:∃A c,D=.slice A l c:=by
   rcases hD.2 with⟨rfl,X6⟩|⟨g,cap,cur,rfl,_⟩
   ·rw[X6];exact⟨_,_,rfl⟩
   ·exact⟨_,_,rfl⟩
  have k0:=hK.cell 0;have k1:=hK.cell 1;have k2:=hK.cell 2;simp only[List.getElem?_cons_zero,List.getElem?_cons_succ]at k0 k1 k2;clear hE hb hK hS hD HB;generalize f 14=x14,f 15=x15,f 16=x16,f 17=x17,f 18=x18,f 19=x19,f 20=x20,f 21=x21
  go_upto_region 4 with(go_at_call 21;refine(qJ at_ _ _ HA.out.1 HA.out.2 (by omega) (by omega)).mono ?_;rintro e w' ⟨rfl,rfl⟩)
  go_upto_region 5 with(go_at_call 21;refine(qJ what 8 _ HW.out.1 HW.out.2 (by omega) (by omega)).mono ?_;rintro e w' ⟨rfl,rfl⟩;rw[h5])
  go_upto_region 7 with fail
  go_upto_region 16 with fail
  have HB:=Lib.hid (show B16 w (.slice (some ⟨gC,0,none⟩) n kC) (.slice AS m kS) (.slice AD l kD) gC n m l k cs ss ds undef undef undef w9 from by
   have Zf:=HC.out.len
   have Z3:0<cs.length:=by omega
   have hcell:∀(j:Nat) u,cs[j]?=some u->w9.cell? ⟨gC,j,none⟩=some u:=λj u hj=>by
    have:=World.ownsRow.cells (g:=gC) HO.out rfl j u hj;rw[cB]at this;simpa using this
   exact⟨⟨HG.out,HR.out,Qq.out,Qp.out,World.block_lt_of_cell? w9 _ (hcell 0 _ (oGE Z3)),hcell⟩,_,HK.out,.inl ⟨rfl,rfl,rfl,rfl,by rw[List.append_nil];exact HO.out⟩⟩)
  have Qo:=Lib.hid QL;have S3:=Lib.hid (And.intro HC.out.len HC.out.one);clear k0 k1 k2 HG HR Qq Qp HK HO QL
  refine jX (λf w'=>B16 w (.slice (some ⟨gC,0,none⟩) n kC) (.slice AS m kS) (.slice AD l kD) gC n m l k cs ss ds (f 73) (f 76) (f 79) w') (rH w.heap.size (.slice (some ⟨gC,0,none⟩) n kC))
   [jV (.pointer (some ⟨w.heap.size,0,none⟩)),jV (.slice (some ⟨gC,0,none⟩) n kC),jV (.pointer (some ⟨w.heap.size,0,none⟩)),jV (.slice (some ⟨gC,0,none⟩) n kC),λv _=>v≠undef,jV (.pointer (some ⟨w.heap.size,0,none⟩)),jV (.slice (some ⟨gC,0,none⟩) n kC),λv _=>v≠undef,jV (.int .i64 by_),jV (.int .i64 k),λv _=>v≠undef,jV (.pointer (some ⟨w.heap.size,0,none⟩)),λ_ w8=>DD w.heap.size 0 (.slice (some ⟨gC,0,none⟩) n kC) w8]
   104 (by kernel_rfl) rfl (by kernel_rfl) (B16.grow HB.out (qa (gf _ _))) rH.refl ?_ ?_ ?_
  ·exact⟨jV.kept,jV.kept,jV.kept,jV.kept,λ_ _ _ _ h=>h,jV.kept,jV.kept,λ_ _ _ _ h=>h,jV.kept,jV.kept,λ_ _ _ _ h=>h,jV.kept,λ_ _ _ hr h=>hr h,trivial⟩
  ·refine b5 ?_ (b5 ?_ (b5 ?_ (b5 ?_ (b5 ?_ (b5 ?_ (b5 ?_ (b5 ?_ (b5 ?_ (b5 ?_ (b5 ?_ (b5 ?_ (b5 ?_ (qe)))))))))))))
   ·refine ch rfl λf w1 hb H HN=>?_;have e4:f 4=_:=H 4 (by decide);clear H HN;have HB:=Lib.hid hb;clear hb
    go_simp
    exact⟨HB.out,rH.refl _,rfl⟩
   ·refine ch rfl λf w1 hb H HN=>?_;have Ol:f 69=_:=H 69 (by decide);have Yo:f 79=undef:=HN 70 79 rfl (by kernel_rfl);clear H HN;have hc:=B16.load (show B16 w (.slice (some ⟨gC,0,none⟩) n kC) (.slice AS m kS) (.slice AD l kD) gC n m l k cs ss ds (f 73) (f 76) undef w1 by rw[<- Yo];exact hb);have HB:=Lib.hid hb;clear hb Yo
    go_simp
    exact⟨HB.out,rH.refl _,rfl⟩
   ·refine ch rfl λf w1 hb H HN=>?_;have e4:f 4=_:=H 4 (by decide);clear H HN;have HB:=Lib.hid hb;clear hb
    go_simp
    exact⟨HB.out,rH.refl _,rfl⟩
   ·refine ch rfl λf w1 hb H HN=>?_;have Om:f 71=_:=H 71 (by decide);have Yo:f 79=undef:=HN 72 79 rfl (by kernel_rfl);clear H HN;have hc:=B16.load (show B16 w (.slice (some ⟨gC,0,none⟩) n kC) (.slice AS m kS) (.slice AD l kD) gC n m l k cs ss ds (f 73) (f 76) undef w1 by rw[<- Yo];exact hb);have HB:=Lib.hid hb;clear hb Yo
    go_simp
    exact⟨HB.out,rH.refl _,rfl⟩
   ·refine ch rfl λf w1 hb H HN=>?_;have OW:f 70=_:=H 70 (by decide);have OX:f 72=_:=H 72 (by decide);have S6:f 73=undef:=HN 73 73 rfl (by kernel_rfl);have UD:f 76=undef:=HN 73 76 rfl (by kernel_rfl);have Yo:f 79=undef:=HN 73 79 rfl (by kernel_rfl);clear H HN;obtain⟨v,w2,hr,hv,UZ,U1⟩:=tJ (show B16 w (.slice (some ⟨gC,0,none⟩) n kC) (.slice AS m kS) (.slice AD l kD) gC n m l k cs ss ds undef undef undef w1 by rw[<- S6];rw[S6];have h:=hb;simp only[S6,UD,Yo]at h;exact h) ⟨_,rfl⟩ S3.out.1 S3.out.2 hn 22
    have Rr:B16 w (.slice (some ⟨gC,0,none⟩) n kC) (.slice AS m kS) (.slice AD l kD) gC n m l k cs ss ds v (f 76) (f 79) w2:=by rw[UD,Yo];exact UZ
    clear S6 UD Yo;simp only[execOp,resolve,invoke,builtin,Sem.run_bind,Sem.run_pure,Result.andThen_ok,List.map_toArray,List.map_cons,List.map_nil,pG,OW,OX,hr,fH];exact⟨Rr,U1,hv⟩
   ·refine ch rfl λf w1 hb H HN=>?_;have e4:f 4=_:=H 4 (by decide);clear H HN;have HB:=Lib.hid hb;clear hb
    go_simp
    exact⟨HB.out,rH.refl _,rfl⟩
   ·refine ch rfl λf w1 hb H HN=>?_;have On:f 74=_:=H 74 (by decide);have Yo:f 79=undef:=HN 75 79 rfl (by kernel_rfl);clear H HN;have hc:=B16.load (show B16 w (.slice (some ⟨gC,0,none⟩) n kC) (.slice AS m kS) (.slice AD l kD) gC n m l k cs ss ds (f 73) (f 76) undef w1 by rw[<- Yo];exact hb);have HB:=Lib.hid hb;clear hb Yo
    go_simp
    exact⟨HB.out,rH.refl _,rfl⟩
   ·refine ch rfl λf w1 hb H HN=>?_;have OY:f 75=_:=H 75 (by decide);have Qd:=H 73 (by decide);have UD:f 76=undef:=HN 76 76 rfl (by kernel_rfl);have Yo:f 79=undef:=HN 76 79 rfl (by kernel_rfl);clear H HN;obtain⟨v,w2,hr,hv,UZ,U1⟩:=tI (show B16 w (.slice (some ⟨gC,0,none⟩) n kC) (.slice AS m kS) (.slice AD l kD) gC n m l k cs ss ds (f 73) undef undef w1 by have h:=hb;simp only[UD,Yo]at h;exact h) Qd ⟨_,rfl⟩ S3.out.1 S3.out.2 hn 22
    have Rr:B16 w (.slice (some ⟨gC,0,none⟩) n kC) (.slice AS m kS) (.slice AD l kD) gC n m l k cs ss ds (f 73) v (f 79) w2:=by rw[Yo];exact UZ
    clear UD Yo;simp only[execOp,resolve,invoke,builtin,Sem.run_bind,Sem.run_pure,Result.andThen_ok,List.map_toArray,List.map_cons,List.map_nil,pG,OY,hr,fH];exact⟨Rr,U1,hv⟩
   ·refine ch rfl λf w1 hb H HN=>?_;have e3:f 3=_:=H 3 (by decide);clear H HN;have HB:=Lib.hid hb;clear hb
    go_simp
    exact⟨HB.out,rH.refl _,rfl⟩
   ·refine ch rfl λf w1 hb H HN=>?_;have Oo:f 77=_:=H 77 (by decide);clear H HN
    go_simp
    refine(qJ by_ 64 _ Qn.out.1 Qn.out.2 (by omega) (by omega)).mono ?_;rintro e w7 ⟨rfl,rfl⟩;exact⟨_,rfl,hb,rH.refl _,congrArg (Value.int .i64) hk⟩
   ·refine ch rfl λf w1 hb H HN=>?_;have OZ:f 78=_:=H 78 (by decide);have Qe:=H 76 (by decide);have Yo:f 79=undef:=HN 79 79 rfl (by kernel_rfl);clear H HN;obtain⟨v,w2,hr,hv,UZ,U1⟩:=tH (show B16 w (.slice (some ⟨gC,0,none⟩) n kC) (.slice AS m kS) (.slice AD l kD) gC n m l k cs ss ds (f 73) (f 76) undef w1 by have h:=hb;simp only[Yo]at h;exact h) Qe X' hn Sc 22;clear Yo;simp only[execOp,resolve,invoke,builtin,Sem.run_bind,Sem.run_pure,Result.andThen_ok,List.map_toArray,List.map_cons,List.map_nil,pG,OZ,hr,fH];exact⟨UZ,U1,hv⟩
   ·refine ch rfl λf w1 hb H HN=>?_;have e4:f 4=_:=H 4 (by decide);clear H HN;have HB:=Lib.hid hb;clear hb
    go_simp
    exact⟨HB.out,rH.refl _,rfl⟩
   ·refine ch rfl λf w1 hb H HN=>?_;have Oq:f 80=_:=H 80 (by decide);have Qf:=H 79 (by decide);clear H HN;obtain⟨⟨A,c,Yo⟩,hq⟩:=B16.put hb Qf X' Qo.out ⟨_,rfl⟩;obtain⟨s,hK,_⟩:=hb.box;have hc:=hK.cell 0;simp only[List.getElem?_cons_zero]at hc;have hf:=hK.free 0;have HQ:=Lib.hid (show B16 w (.slice (some ⟨gC,0,none⟩) n kC) (.slice AS m kS) (.slice AD l kD) gC n m l k cs ss ds (f 73) (f 76) (f 79) (w1.setCell ⟨w.heap.size,0,none⟩ (.slice A (n+n+n+k) c))/\rH w.heap.size (.slice (some ⟨gC,0,none⟩) n kC) w1 (w1.setCell ⟨w.heap.size,0,none⟩ (.slice A (n+n+n+k) c))/\DD w.heap.size 0 (.slice (some ⟨gC,0,none⟩) n kC) (w1.setCell ⟨w.heap.size,0,none⟩ (.slice A (n+n+n+k) c))from by rw[<- Yo];exact hq);clear hq hb hK
    go_simp
    exact⟨HQ.out.1,HQ.out.2.1,HQ.out.2.2⟩
  ·intro f2 w8 hb hE;simp only[fh,Act.put,xL,List.setIfInBounds_toArray,List.set_cons_succ,List.set_cons_zero];obtain⟨E,hK,Rs⟩:=hb.done hE.2.2.2.2.2.2.2.2.2.2.2.2.1
   obtain⟨AE,kE,rfl⟩:∃A c,E=.slice A (n+n+n+k) c:=by
    rcases Rs.2 with⟨rfl,X6⟩|⟨g,cap,cur,rfl,_⟩
    ·rw[X6];exact⟨_,_,rfl⟩
    ·exact⟨_,_,rfl⟩
   have Rk:=Lib.hid hb.pt;have HE:=Lib.hid Rs;have k0:=hK.cell 0;have k1:=hK.cell 1;have k2:=hK.cell 2;have r0:=hb.pt.res.cell 0;have r1:=hb.pt.res.cell 1;have r2:=hb.pt.res.cell 2;have q0:=hb.pt.res.free 0;have q1:=hb.pt.res.free 1;have q2:=hb.pt.res.free 2;simp only[List.getElem?_cons_zero,List.getElem?_cons_succ]at k0 k1 k2 r0 r1 r2;clear hE hb hK Rs HB Qo;generalize f2 69=y69,f2 70=y70,f2 71=y71,f2 72=y72,f2 73=y73,f2 74=y74,f2 75=y75,f2 76=y76,f2 77=y77,f2 78=y78,f2 79=y79,f2 80=y80
   go_wp2_with fail
   refine bodyPost_ret (v:=.agg #[.slice AE (n+n+n+k) kE,.slice AS m kS,.slice AD l kD]) (by simp[results,Try.results14,go_sem, *]) rfl ?_;refine⟨_,_,_,rfl,?_,?_,?_,?_⟩
   ·exact gv (gv (gv Rk.out.grown (.inr (by simp)) _) (.inr (by simp)) _) (.inr (by simp)) _
   ·exact dR (dR (dR HE.out (by simp)) (by simp)) (by simp)
   ·exact dR (dR (dR Rk.out.oS (by simp)) (by simp)) (by simp)
   ·exact dR (dR (dR Rk.out.oD (by simp)) (by simp)) (by simp)
abbrev EZ:CT:=(.pair I64 (.pair I64 (.pair I64 (.pair I64 I64))))
abbrev Eu:CT:=(.row false EZ)
abbrev RWi:CT:=(.row false (.int .u16))
abbrev RIi:CT:=(.row false I64)
abbrev BE:Type:=(Int×Int×Int×Int×Int)
def HHi(f i:Nat):List (Nat×Option Nat):=if f=14 then(if i=1000018 then[(6,none)]else if i=0 then[(8,some 0),(8,some 1),(8,some 2)]else[])else[]
noncomputable def TTi (f:FuncId):Option TFn:=kO Try.prog (HHi f) f
noncomputable def E0i:Env:=⟨λ_=>none,λf=>E1 Try.prog f⟩
theorem DQ:xu Try.prog TTi:=xI HHi (by kernel_rfl)
def mt(a0:Int)(a1:Int):Option (Int×Unit):=
bif(a1 != 0)then let x0:Int:=(Int.tmod a0 a1);
(bif(decide (x0<0))then(let x1:Int:=(w64 (x0+a1));
some (x1,()))else
some (x0,()):Option (Int×Unit)).bind λ(x1,_)=>
some (x1,())else none
noncomputable def sH:X.Cfg:=⟨E0i,[],[],[⟨2,0,⟨[],[],[],([],[])⟩,[(.normal,⟨[(5,shU I64)],[],[],([],[])⟩)]⟩]⟩
def mJ:Ctr:=⟨55,0,[shU I64,shU I64],[],[⟨[shU I64],[.one],[]⟩],λh=>mt h.1 h.2.1⟩
set_option maxRecDepth 100000 in
theorem sx:Lvl E0i TTi noB 1 mJ:=qK (n:=0) (C:=sH) rfl (.intro) (tP (by kernel_rfl)) (λh=>by kernel_rfl)
def en(a0:Int)(a1:Int):Option (Int×Unit):=
(mt a0 a1).bind λ(x0,_)=>
some (x0,())
noncomputable def zq:X.Cfg:=⟨E0i,[mJ],[],[]⟩
def tk:Ctr:=⟨21,1,[shU I64,shU I64],[],[⟨[shU I64],[.one],[]⟩],λh=>en h.1 h.2.1⟩
set_option maxRecDepth 100000 in
theorem zb:Lvl E0i TTi noB 2 tk:=qK (n:=1) (C:=zq) rfl (.intro (sx.mono (by decide)) (.intro)) (tP (by kernel_rfl)) (λh=>by kernel_rfl)
def iI(a0:List BE)(a1:List (Int))(a2:List (List (Int)))(a3:Int)(a4:Int)(a5:Int):Option ((List BE)×(List (Int))×(List (List (Int)))×Unit):=
bif(cf 40 0 (List.length a0))then let x0:List BE:=(List.append [] a0);
bif(cf 8 0 (List.length a1))then let x1:List (Int):=(List.append [] a1);
bif(cf 24 0 (List.length a2))then let x2:List (List (Int)):=(List.append [] a2);
let x3:Int:=(bO (List.length x0));
(en a4 x3).bind λ(x4,_)=>
(match((en a3 8).bind λ(x5,_)=>
bif(x5==0)then(let x6:List (Int):=[63,64,65535,65536,(-1),3,4];
(en a5 7).bind λ(x7,_)=>
(cH x7).bind λx8=>
(bV x6 x8).bind λx9=>
(bV x6 x8).bind λx10=>
(cH x4).bind λUT=>
(bV x0 UT).bind λUU=>
(bV x0 UT).bind λQk=>
let x14:List BE:=(List.modify x0 UT λe=>(e.1,(e.2.1,(e.2.2.1,(e.2.2.2.1,x10)))));
some (.inl (x14,x1,x2,(),(),(),())))else
bif(x5==1)then((en a5 10).bind λ(x6,_)=>
(cH x4).bind λx7=>
(bV x0 x7).bind λx8=>
(bV x0 x7).bind λx9=>
let x10:List BE:=(List.modify x0 x7 λe=>(e.1,(e.2.1,(x6,e.2.2.2))));
some (.inl (x10,x1,x2,(),(),(),())))else
bif(x5==2)then((en a5 36).bind λ(x6,_)=>
let x7:Int:=(w64 (x6-1));
(bV x1 0).bind λx8=>
(bV x1 0).bind λx9=>
let x10:List (Int):=(List.modify x1 0 λe=>x7);
some (.inl (x0,x10,x2,(),(),(),())))else
bif(x5==3)then(bif(eb 1 (List.length x2) (List.length x2))then let x6:List (List (Int)):=(i4 x2 1 (Nat.sub (List.length x2) 1));
some (.inr (x0,x1,x6,(),(),(),()))else none)else
bif(x5==4)then(some (.inl ([],x1,x2,(),(),(),())))else
bif(x5==5)then(bif(cf 40 (List.length x0) (List.length x0))then let x6:List BE:=(List.append x0 x0);
none else none)else
bif(x5==6)then((en a5 36).bind λ(x6,_)=>
(cH x6).bind λx7=>
(cH x6).bind λx8=>
bif(ja x7 x8 1)then let x9:List (Int):=(List.replicate x7 0);
(bV x2 0).bind λx10=>
(bV x2 0).bind λUT=>
let UU:List (List (Int)):=(List.modify x2 0 λe=>x9);
some (.inl (x0,x1,UU,(),(),(),()))else none)else
bif(x5==7)then(let x6:List (Int):=[18,15];
(en a5 2).bind λ(x7,_)=>
(cH x7).bind λx8=>
(bV x6 x8).bind λx9=>
(bV x6 x8).bind λx10=>
(en a4 5).bind λ(UT,_)=>
(cH x4).bind λUU=>
(bV x0 UU).bind λQk=>
(bV x0 UU).bind λx14=>
let x15:List BE:=(List.modify x0 UU λe=>(x10,(0,(0,(0,UT)))));
some (.inl (x15,x1,x2,(),(),(),())))else
some (.inl (x0,x1,x2,(),(),(),())):Option (((List BE)×(List (Int))×(List (List (Int)))×Unit×Unit×Unit×Unit)⊕((List BE)×(List (Int))×(List (List (Int)))×Unit×Unit×Unit×Unit)))with
|none=>none
|some (.inl (x5,x6,x7,x8,x9,x10,_))=>
some (x5,x6,x7,())
|some (.inr (x5,x6,x7,x8,x9,x10,_))=>
some (x5,x6,x7,()))else none else none else none
noncomputable def qZ:X.Cfg:=⟨E0i,[tk],[(19,(.row true (.int .u16)))],[⟨4,0,⟨[],[],[],([],[])⟩,[(.normal,⟨[(4,.ptr ⟨10,0,[]⟩ [0]),(8,.ptr ⟨18,0,[]⟩ [0])],[(10,[shU (.row true EZ),shU (.row true I64),shU (.row true RWi)]),(18,[shU (.nilr true),shU (.nilr true),shU (.nilr true)])],[],([],[])⟩),(.normal,⟨[(4,.ptr ⟨10,0,[]⟩ [0]),(8,.ptr ⟨18,0,[]⟩ [0])],[(10,[shU (.row true EZ),shU (.row true I64),shU (.row false RWi)]),(18,[shU (.nilr true),shU (.nilr true),shU (.nilr true)])],[],([],[])⟩)]⟩]⟩
def rA:Ctr:=⟨14,2,[.agg [shU Eu,shU RIi,shU (.row false RWi)],shU I64,shU I64,shU I64],[],[⟨[shU Eu,shU RIi,shU (.row false RWi)],[.agg 3],[]⟩],λh=>iI h.1 h.2.1 h.2.2.1 h.2.2.2.1 h.2.2.2.2.1 h.2.2.2.2.2.1⟩
set_option maxRecDepth 100000 in
theorem qM:Lvl E0i TTi noB 3 rA:=qK (n:=2) (C:=qZ) rfl (.intro (zb.mono (by decide)) (.intro)) (tP (by kernel_rfl)) (λh=>by kernel_rfl)
theorem Eg:xx Try.prog E0i:=λf n tm h=>by simp[E0i]at h
structure RwT (w:World)(F:Nat->Prop)(sz:Nat)(c:List (List TV))(r:List (List Value)):Prop where
 len:r.length=c.length
 cs:∀q∈c,q.length=sz
 rs:∀q∈r,q.length=sz
 at_:∀(i:Nat) q z,c[i]?=some q->r[i]?=some z->∀(j:Nat) t x,q[j]?=some t->z[j]?=some x->fj w F t x
theorem RwT.app{w:World}{F:Nat->Prop}{sz:Nat}{c c':List (List TV)}{r r':List (List Value)}(h:RwT w F sz c r)(h':RwT w F sz c' r'):RwT w F sz (c++c') (r++r'):=by
 refine⟨by simp[h.len,h'.len],λq hq=>?_,λq hq=>?_,λi q z hq hz=>?_⟩
 ·rcases List.mem_append.1 hq with h1|h1
  ·exact h.cs q h1
  ·exact h'.cs q h1
 ·rcases List.mem_append.1 hq with h1|h1
  ·exact h.rs q h1
  ·exact h'.rs q h1
 ·rw[List.getElem?_append]at hq hz;rw[h.len]at hz;split at hq
  ·rename_i hi;rw[oIP hi]at hz;exact h.at_ i q z hq hz
  ·rename_i hi;rw[oIN hi]at hz;exact h'.at_ _ q z hq hz
theorem RwT.rep{w:World}{F:Nat->Prop}{sz:Nat}{q:List TV}{z:List Value}(k:Nat)(hq:q.length=sz)(hz:z.length=sz)(h:∀(j:Nat) t x,q[j]?=some t->z[j]?=some x->fj w F t x):RwT w F sz (List.replicate k q) (List.replicate k z):=by
 refine⟨by simp,λy hy=>by rw[(List.mem_replicate.1 hy).2];exact hq,λy hy=>by rw[(List.mem_replicate.1 hy).2];exact hz,λi y x hy hx=>?_⟩;rw[List.getElem?_replicate]at hy hx;split at hy
 ·rename_i hi;rw[oIP hi]at hx
  injection hy with hy
  injection hx with hx
  subst hy;subst hx;exact h
 ·cases hy
theorem RwT.frame{w w':World}{F F':Nat->Prop}{sz:Nat}{c:List (List TV)}{r:List (List Value)}(h:RwT w F sz c r)(hw:∀k,F k->k<w.heap.size->w'.heap[k]?=w.heap[k]?)(hF:∀k,F k->k<w.heap.size->F' k):RwT w' F' sz c r:=
 ⟨h.len,h.cs,h.rs,λi q z hq hz j t x ht hx=>(h.at_ i q z hq hz j t x ht hx).frame hw hF⟩
theorem ul{w:World}{F:Nat->Prop}{sz:Nat}{c:List (List TV)}{x:Value}(h:fj w F (.sl c) x)(h0:0<c.length)(hs:0<sz)(hc:∀q∈c,q.length=sz):∃r,RwT w F sz c r/\pN w x c.length sz r.flatten:=by
 cases h with
 | @sl _ a cap sz' u hsz hcap hmax hnil hcell hrec=>
  have hz:sz'=sz:=by rw[<- hsz 0 h0];exact hc _ (List.getElem_mem h0)
  subst hz;obtain⟨r,hr⟩:∃r,r=(List.range c.length).map λi=>(List.range sz').map (u i):=⟨_,rfl⟩
  have Xy:r.length=c.length:=by rw[hr];simp
  have Vm:∀q∈r,q.length=sz':=λq hq=>by
   rw[hr]at hq;obtain⟨i,_,rfl⟩:=List.mem_map.1 hq;simp
  have Z7:∀i j,i<c.length->j<sz'->∃q,r[i]?=some q/\q[j]?=some (u i j):=λi j hi hj=>by
   refine⟨(List.range sz').map (u i),by rw[hr];simp[hi],by simp[hj]⟩
  have Uj:∀(i:Nat) q z,c[i]?=some q->r[i]?=some z->∀(j:Nat) t x,q[j]?=some t->z[j]?=some x->fj w F t x:=by
   intro i q z hq hz j t x ht hx;have hi:i<c.length:=(oGS hq).1;have XY:c[i]=q:=(oGS hq).2;have hj:j<q.length:=(oGS ht).1
   have Yv:j<sz':=by rw[<- hc q (List.mem_of_getElem? hq)];exact hj
   obtain⟨z',h1,h2⟩:=Z7 i j hi Yv;rw[h1]at hz
   injection hz with hz
   subst hz;rw[h2]at hx
   injection hx with hx
   subst hx;have:=hrec i j hi (by rw[XY];exact hj)
   have e:(c[i])[j]'(by rw[XY];exact hj)=t:=by
    have h3:=(oGS ht).2;subst XY;exact h3
   rw[e]at this;exact this
  obtain⟨b,o,rfl,_,Wv⟩:=hcell 0 0 h0 hs
  have hlen:r.flatten.length=c.length*sz':=by
   rw[List.length_flatten]
   have:r.map List.length=List.replicate c.length sz':=by
    rw[hr];apply List.ext_getElem
    ·simp
    ·intro i h1 h2;simp
   rw[this];simp
  have X9:∀(j:Nat) v,r.flatten[j]?=some v->∃i k,i<c.length/\k<sz'/\j=i*sz'+k/\v=u i k:=by
   intro j v hv
   have hj:j<c.length*sz':=by rw[<- hlen];exact(oGS hv).1
   have hi:j/sz'<c.length:=(Nat.div_lt_iff_lt_mul hs).2 hj;have hk:j%sz'<sz':=Nat.mod_lt _ hs
   have e:j/sz'*sz'+j%sz'=j:=by rw[Nat.mul_comm];exact Nat.div_add_mod _ _
   refine⟨j/sz',j%sz',hi,hk,e.symm,?_⟩
   have V8:j/sz'<r.length:=by rw[Xy];exact hi
   have h1:r[j/sz']=(List.range sz').map (u (j/sz')):=by simp[hr]
   have h2:=fB (c:=r) (sz:=sz') (λi h=>Vm _ (List.getElem_mem h)) (i:=j/sz') (j:=j%sz') V8 (by rw[h1];simpa using hk);rw[e,hv]at h2
   injection h2 with h2
   rw[h2];simp only[h1,List.getElem_map,List.getElem_range]
  refine⟨r,⟨Xy,hc,Vm,Uj⟩,⟨b,o,cap,rfl,World.block_lt_of_cell? w _ Wv,λj v hv=>?_⟩,hlen,λv hv=>?_⟩
  ·obtain⟨i,k,hi,hk,rfl,rfl⟩:=X9 j v hv;obtain⟨b',o',e',_,h1⟩:=hcell i k hi hk
   injection e' with e'
   injection e' with e1 e2
   subst e1;subst e2;exact h1
  ·obtain⟨j,hj⟩:=List.getElem?_of_mem hv;obtain⟨i,k,hi,hk,rfl,rfl⟩:=X9 j v hj
   have XE:k<c[i].length:=by rw[hc _ (List.getElem_mem hi)];exact hk
   exact(hrec i k hi XE).one
theorem t8{w:World}{F:Nat->Prop}{N sz n:Nat}{e:TypeId}{c:List (List TV)}{r:List (List Value)}{v:Value}(h:w.ownsRow N e sz v n r.flatten)(hR:RwT w F sz c r)(hn:c.length=n)(hF:∀k,N<=k->F k):fj w F (.sl c) v:=by
 subst hn
 have hrec:∀i j (h:i<c.length)(h':j<c[i].length),fj w F c[i][j] (r.flatten.getD (i*sz+j) undef)/\∃x,r.flatten[i*sz+j]?=some x:=by
  intro i j hi hj
  have V8:i<r.length:=by rw[hR.len];exact hi
  have Yv:j<r[i].length:=by rw[hR.rs _ (List.getElem_mem V8),<- hR.cs _ (List.getElem_mem hi)];exact hj
  have h2:=fB (c:=r) (sz:=sz) (λi h=>hR.rs _ (List.getElem_mem h)) (i:=i) (j:=j) V8 Yv;refine⟨?_,_,h2⟩;rw[oGD,h2];exact hR.at_ i _ _ (oGE hi) (oGE V8) j _ _ (oGE hj) (oGE Yv)
 rcases h.2 with⟨rfl,h0⟩|⟨g,cap,cur,rfl,hb,hg,hcap,hmax,hsz,Yx⟩
 ·have e:c=[]:=oEN h0;subst e;exact .sl sz (λ_ _=>undef) (λi h=>by simp at h) (Nat.le_refl _) (by simp[maxLen]) (λ_=>rfl) (λi j h=>by simp at h) (λi j h=>by simp at h)
 ·have hc:=World.ownsRow.cells (g:=g) h rfl;refine .sl sz (λi j=>r.flatten.getD (i*sz+j) undef) (λi h=>hR.cs _ (List.getElem_mem h)) hcap hmax (λh=>by cases h) (λi j hi hj=>?_) (λi j hi hj=>(hrec i j hi hj).1);obtain⟨_,x,hx⟩:=hrec i j hi (by rw[hR.cs _ (List.getElem_mem hi)];exact hj);refine⟨g,0,rfl,hF g hb,?_⟩;have:=hc _ _ hx;rw[cB]at this;rw[this,oGD,hx];rfl
def EA:List TV:=[.v (.int .i64 0),.v (.int .i64 0),.v (.int .i64 0),.v (.int .i64 0),.v (.int .i64 0)]
def inI(x:Int):Prop:=-9223372036854775808<=x/\x<=9223372036854775807
instance (x:Int):Decidable (inI x):=by unfold inI;infer_instance
def ok5(n m l:Nat)(what at_ by_:Int):Prop:=(0<n/\n<=64/\0<m/\m<=64/\0<l/\l<=64)/\inI what/\inI at_/\inI by_/\what%8=5
instance (n m l:Nat) (what at_ by_:Int):Decidable (ok5 n m l what at_ by_):=by unfold ok5;infer_instance
def tri{α:Type}(c:List α)(z:α)(by_:Int):List α:=c++(c++c)++List.replicate (by_%64).toNat z
def wY:List TV->List (Nat×List TV)->Option (uP×List (Nat×List TV)):=λvals pts=>match vals,pts with
 | [.agg [.sl c0,.sl c1,.sl c2],.v (.int .i64 what),.v (.int .i64 at_),.v (.int .i64 by_)],[]=>
  if ok5 c0.length c1.length c2.length what at_ by_/\(c0.all (λq=>q.length==5)&&c1.all (λq=>q.length==1)&&c2.all (λq=>q.length==1))=true then
   some (⟨[.sl (tri c0 EA by_),.sl c1,.sl c2],[.agg 3]⟩,[])else none
 |_,_=>none
theorem uM:iE Try.prog 14:=oG Try.func14 (by kernel_rfl) rfl
theorem zT{SC SS SD:Value}{w:World}{F:Nat->Prop}{c0 c1 c2:List (List TV)}{what at_ by_:Int}(h0:fj w F (.sl c0) SC)(h1:fj w F (.sl c1) SS)(h2:fj w F (.sl c2) SD)
 (hok:ok5 c0.length c1.length c2.length what at_ by_)(Wv:∀q∈c0,q.length=5)(Zz:∀q∈c1,q.length=1)(Zv:∀q∈c2,q.length=1):
 Calls Try.prog 14 #[.agg #[SC,SS,SD],.int .i64 what,.int .i64 at_,.int .i64 by_] w λe w2=>∃C S D,e=.returned (.agg #[C,S,D])/\Below w.heap.size w w2 /\
  fj w2 (λk=>F k\/w.heap.size<=k) (.sl (tri c0 EA by_)) C/\fj w2 (λk=>F k\/w.heap.size<=k) (.sl c1) S/\fj w2 (λk=>F k\/w.heap.size<=k) (.sl c2) D:=by
 obtain⟨⟨n0,n1,m0,m1,l0,l1⟩,⟨Vo,XB⟩,⟨UJ,WY⟩,⟨VA,ZV⟩,h5⟩:=hok;obtain⟨r0,R0,A0⟩:=ul h0 n0 (by decide) Wv;obtain⟨r1,R1,A1⟩:=ul h1 m0 (by decide) Zz;obtain⟨r2,R2,A2⟩:=ul h2 l0 (by decide) Zv;obtain⟨k,hk⟩:=Int.eq_ofNat_of_zero_le (Int.emod_nonneg by_ (show(64:Int)≠0 by decide))
 have XE:(by_%64).toNat=k:=by rw[hk];rfl
 refine(zU SC SS SD _ _ _ _ _ _ what at_ by_ w A0 A1 A2 n0 n1 m1 l1 Vo XB UJ WY VA ZV h5 k hk).mono ?_;rintro e w2 ⟨C,S,D,rfl,hg,oC,oS,oD⟩;have hB:Below w.heap.size w w2:=⟨hg.os,hg.tape,hg.output,hg.size,λk hk=>hg.block k hk (by simp)⟩;have fr:∀{sz:Nat}{c:List (List TV)}{r:List (List Value)},RwT w F sz c r->RwT w2 (λk=>F k\/w.heap.size<=k) sz c r:=λh=>h.frame (λk _ hk=>hB.block k hk) λk hk _=>.inl hk;have hF:∀k,w.heap.size+2<=k->F k\/w.heap.size<=k:=λk hk=>.inr (by omega);refine⟨C,S,D,rfl,hB,?_,t8 oS (fr R1) rfl hF,t8 oD (fr R2) rfl hF⟩
 have e:r0.flatten++(r0.flatten++r0.flatten)++(List.replicate k DB).flatten=(r0++(r0++r0)++List.replicate k DB).flatten:=by simp
 rw[e]at oC;unfold tri;rw[XE];refine t8 oC (((fr R0).app ((fr R0).app (fr R0))).app (RwT.rep k rfl rfl λj t x ht hx=>?_)) (by simp;omega) hF;have hj:j<5:=(oGS ht).1
 have:t=.v (.int .i64 0)/\x=.int .i64 0:=by
  have:j=0\/j=1\/j=2\/j=3\/j=4:=by omega
  rcases this with rfl|rfl|rfl|rfl|rfl<;>(injection ht with ht;injection hx with hx;exact⟨ht.symm,hx.symm⟩)
 rw[this.1,this.2];exact .v rfl
theorem AX{vals:List TV}{pts:List (Nat×List TV)}{res:uP}{ZE:List (Nat×List TV)}(h:wY vals pts=some (res,ZE)):
 iE Try.prog 14/\∃N,vals.length<=N/\∀(M:Fm)(avs:List Value)(w:World)(G:Gh),avs.length=vals.length->M.N=N->M.w0=w->(∀r,M.pr r≠none->∃i p vs,vals[i]?=some (.ptr p vs)/\r=2*i+2)->
  Inv M (mkSt vals pts) [] [] (avs.toArray++Array.replicate (N-avs.length) undef) w G ->
  Calls Try.prog 14 avs.toArray w λe w2=>∃v σ2,e=.returned v/\Ez M res v σ2 w2/\ZE=pts.map λx=>(x.1,(b6 σ2.ce x.1).getD []):=by
 unfold wY at h;split at h
 case h_2=>cases h
 rename_i c0 c1 c2 what at_ by_;split at h
 case isFalse=>cases h
 rename_i hc
 injection h with h
 injection h with e1 e2
 subst e1 e2;obtain⟨hok,ZX⟩:=hc;simp only[oBA,List.all_eq_true,beq_iff_eq]at ZX;refine⟨uM,4,Nat.le_refl _,λM avs w G hal hN Vo YL hI=>?_⟩;subst Vo
 obtain⟨v0,v1,v2,v3,rfl⟩:∃v0 v1 v2 v3,avs=[v0,v1,v2,v3]:=by
  match avs,hal with
  | [v0,v1,v2,v3],_=>exact⟨_,_,_,_,rfl⟩
 have SI:[v0,v1,v2,v3].toArray++Array.replicate (4 - [v0,v1,v2,v3].length) undef=[v0,v1,v2,v3].toArray:=rfl;rw[SI]at hI
 have hst:∀(vals:List TV) j,(mkSt vals []).t j=vals.getD j .dead:=by
  intro vals j;simp[St.t,mkSt,mz]
 have t0:=hI.tmr 0;have t1:=hI.tmr 1;have t2:=hI.tmr 2;have t3:=hI.tmr 3;rw[hst]at t0 t1 t2 t3;simp only[List.getD_cons_zero,List.getD_cons_succ]at t0 t1 t2 t3;replace t0:TmR _ _ _ _ _ (.agg [.sl c0,.sl c1,.sl c2]) v0:=t0;replace t1:TmR _ _ _ _ _ (.v (.int .i64 what)) v1:=t1;replace t2:TmR _ _ _ _ _ (.v (.int .i64 at_)) v2:=t2;replace t3:TmR _ _ _ _ _ (.v (.int .i64 by_)) v3:=t3;cases t1;cases t2;cases t3
 cases t0 with
 | @agg l cs hl hj=>
  have j0:=hj 0 (by simp);have j1:=hj 1 (by simp);have j2:=hj 2 (by simp);simp only[List.getElem_cons_zero,List.getElem_cons_succ]at j0 j1 j2;have hs:cs.size=3:=hl
  have e:cs=#[cs.getD 0 undef,cs.getD 1 undef,cs.getD 2 undef]:=by
   apply Array.ext
   ·simpa using hs
   ·intro j h2 h3
    have hjj:j<3:=by simpa using h3
    have e1:cs[j]=cs.getD j undef:=by simp[Array.getD,h2]
    rw[e1]
    match j,hjj with
    |0,_=>rfl
    |1,_=>rfl
    |2,_=>rfl
  rw[e]
  cases j0 with
  |sl i0=>
  cases j1 with
  |sl i1=>
  cases j2 with
  |sl i2=>
  refine(zT i0 i1 i2 hok ZX.1.1 ZX.1.2 ZX.2).mono ?_;rintro e' w2 ⟨C,S,D,rfl,hb,iC,iS,iD⟩;obtain⟨ZQ,_⟩:=hI.grow (w':=w2) (λk hk=>hb.block k hk) hb.size hb.os hb.tape hb.output
  have hF:∀k,G.F M.A k\/M.w0.heap.size<=k->G.F M.A k:=by
   rintro k (hk|hk)
   ·exact hk
   ·refine⟨M.hA k hk,λr o hφ=>?_,λr b o n hβ e=>?_⟩
    ·have:=hI.core.live hφ;omega
    ·subst e;have:=hI.core.boxlt hβ;omega
  obtain⟨G1,ZN⟩:=ZQ.addHand (iC.frame (F':=G.F M.A) (λ_ _ _=>rfl) λk hk _=>hF k hk).toOwn;obtain⟨G2,ZM⟩:=ZN.1.addHand (iS.frame (F':=G1.F M.A) (λ_ _ _=>rfl) λk hk _=>ZN.2.1 k (hF k hk)).toOwn;obtain⟨G3,Pp⟩:=ZM.1.addHand (iD.frame (F':=G2.F M.A) (λ_ _ _=>rfl) λk hk _=>ZM.2.1 k (ZN.2.1 k (hF k hk))).toOwn;refine⟨_,mkSt _ [],rfl,.inl ⟨[C,S,D],_,G3,rfl,Pp.1,λj hj=>.inl ?_⟩,rfl⟩;have VG:j<3:=hj
  match j,VG with
  |0,_=>rfl
  |1,_=>rfl
  |2,_=>rfl
noncomputable def libB:cM:=λf vals pts=>if f=14 then(match wY vals pts with|some r=>some r|none=>runF E0i TTi noB (NN+3) f vals pts)else none
theorem libB_ok:fa Try.prog libB:=by
 intro f vals pts res ZE h;unfold libB at h;split at h
 ·rename_i hf;split at h
  ·rename_i r hr
   injection h with h
   subst h;rw[hf];exact AX hr
  ·exact runF_ok DQ Eg DZ _ _ _ _ _ _ h
 ·cases h
def dG(a0:List (Int×Int×Int×Int×Int))(a1:List Int)(a2:List (List Int))(a3 a4 a5:Int):Option (List (Int×Int×Int×Int×Int)×List Int×List (List Int)×Unit):=
 if ok5 a0.length a1.length a2.length a3 a4 a5 then some (tri a0 (0,0,0,0,0) a5,a1,a2,())else iI a0 a1 a2 a3 a4 a5
abbrev DX:CT:=.pair (.int .i64) (.pair (.int .i64) (.pair (.int .i64) (.pair (.int .i64) (.int .i64))))
def s9(x:Int×Int×Int×Int×Int):List TV:=[.v (.int .i64 x.1),.v (.int .i64 x.2.1),.v (.int .i64 x.2.2.1),.v (.int .i64 x.2.2.2.1),.v (.int .i64 x.2.2.2.2)]
theorem o4{id:Nat}:kQ libB ⟨14,id,[.agg [shU (.row false DX),shU (.row false I64),shU (.row false (.row false (.int .u16)))],shU I64,shU I64,shU I64],[],[⟨[shU (.row false DX),shU (.row false I64),shU (.row false (.row false (.int .u16)))],[.agg 3],[]⟩],
 λh=>dG h.1 h.2.1 h.2.2.1 h.2.2.2.1 h.2.2.2.2.1 h.2.2.2.2.2.1⟩:=by
 rintro⟨code,ss,dt,what,at_,by_,h⟩ o x ho hx;have ho:dG code ss dt what at_ by_=some o:=ho;unfold dG at ho
 have hlen:∀(l:List (List Int)),(l.map (enc (.row false (.int .u16)))).all (λq=>q.length==1)=true:=λl=>by
  rw[List.all_eq_true];intro q hq;obtain⟨y,_,rfl⟩:=List.mem_map.1 hq;rfl
 have TW:∀(l:List Int),(l.map (enc I64)).all (λq=>q.length==1)=true:=λl=>by
  rw[List.all_eq_true];intro q hq;obtain⟨y,_,rfl⟩:=List.mem_map.1 hq;rfl
 have TX:∀(l:List (Int×Int×Int×Int×Int)),(l.map s9).all (λq=>q.length==5)=true:=λl=>by
  rw[List.all_eq_true];intro q hq;obtain⟨y,_,rfl⟩:=List.mem_map.1 hq;rfl
 split at ho
 ·rename_i hok
  injection ho with ho
  subst ho;cases hx
  show libB 14 [.agg [.sl ((code:List (Int×Int×Int×Int×Int)).map s9),.sl ((ss:List Int).map (enc I64)),.sl ((dt:List (List Int)).map (enc (.row false (.int .u16))))],.v (.int .i64 what),.v (.int .i64 at_),.v (.int .i64 by_)] []
   = some (⟨[.sl ((tri code (0,0,0,0,0) by_).map s9),.sl ((ss:List Int).map (enc I64)),.sl ((dt:List (List Int)).map (enc (.row false (.int .u16))))],[.agg 3]⟩,[])
  have e:(tri code (0,0,0,0,0) by_).map s9=tri ((code:List (Int×Int×Int×Int×Int)).map s9) EA by_:=by
   unfold tri;simp[EA,s9]
  rw[e];unfold libB;rw[oIP rfl];unfold wY;simp only[List.length_map];rw[oIP ⟨hok,by rw[TX,TW,hlen];rfl⟩]
 ·rename_i hok;have ZZ:=qM 3 (Nat.le_refl _) ⟨code,ss,dt,what,at_,by_,h⟩ o x ho hx
  have e:wY [.agg [.sl ((code:List (Int×Int×Int×Int×Int)).map s9),.sl ((ss:List Int).map (enc I64)),.sl ((dt:List (List Int)).map (enc (.row false (.int .u16))))],.v (.int .i64 what),.v (.int .i64 at_),.v (.int .i64 by_)] []=none:=by
   unfold wY;simp only[List.length_map];rw[oIN λh=>hok h.1]
  show libB 14 [.agg [.sl ((code:List (Int×Int×Int×Int×Int)).map s9),.sl ((ss:List Int).map (enc I64)),.sl ((dt:List (List Int)).map (enc (.row false (.int .u16))))],.v (.int .i64 what),.v (.int .i64 at_),.v (.int .i64 by_)] []=_;unfold libB;rw[oIP rfl,e];exact ZZ
end Go.Proofs.Ytgphpfjngblbiaa
namespace Go.Proofs.Ytgphpfjngblbiaa
open Go.RowKit
set_option maxRecDepth 100000
noncomputable section
abbrev KCe:CT:=(.pair (.int .u8) (.int .u16))
abbrev KIn:CT:=(.pair I64 (.pair I64 (.pair I64 (.pair I64 I64))))
abbrev Fp:CT:=(.pair I64 (.pair .bool (.row false KCe)))
abbrev E8:CT:=(.pair I64 (.pair .bool (.row true KCe)))
abbrev EY:CT:=(.pair I64 (.pair (.row true KCe) (.pair I64 (.pair I64 (.pair I64 (.pair I64 (.pair I64 (.int .u16))))))))
abbrev dM:CT:=(.row false KIn)
abbrev RW:CT:=(.row false (.int .u16))
abbrev RI:CT:=(.row false I64)
abbrev E7:CT:=(.row false KCe)
abbrev E6:CT:=(.row false Fp)
abbrev DH:CT:=(.row true E8)
abbrev E5:CT:=(.row true EY)
abbrev DCe:Type:=(Int×Int)
abbrev DCn:Type:=(Int×Int×Int×Int)
abbrev DIn:Type:=(Int×Int×Int×Int×Int)
abbrev DLn:Type:=(Int×Bool×List DCe)
abbrev DTh:Type:=(Int×(List DCe)×Int×Int×Int×Int×Int×Int)
abbrev DTs:Type:=(Int×Int×Int×Int×Int×Int×Int×List DCn)
def HH(f i:Nat):List (Nat×Option Nat):=if f=14 then(if i=0 then[(8,some 0),(8,some 1)]else[])else if f=5 then(if i=3000004 then[(13,some 2)]else if i=3000015 then[(22,none),(20,none)]else[])else if f=17 then(if i=0 then[(4,some 0),(4,some 2),(4,some 3)]else[])else if f=40 then(if i=0 then[(8,none)]else[])else if f=12 then(if i=2 then[(3,some 1)]else if i=3 then[(3,some 0)]else[])else if f=18 then(if i=0 then[(4,some 0),(4,some 2),(4,some 3)]else[])else if f=3 then(if i=3000006 then[(14,some 2)]else if i=1 then[(15,some 0)]else[])else if f=68 then(if i=0 then[(4,none)]else[])else[]
def D3:List Nat:=[14]
def TT (f:FuncId):Option TFn:=if D3.contains f then none else kO Try.prog (HH f) f
theorem DR{f:FuncId}(h:D3.contains f=true):TT f=none:=oIP h
def E0:Env:=⟨λf=>if f=11 then some (1,[.arg 0,.val (.int .i64 0)])else none,λf=>E1 Try.prog f⟩
theorem tt_ok:xu Try.prog TT:=λf tf h=>xI HH (by kernel_rfl) f tf (by
 unfold TT at h
 split at h
 ·cases h
 ·exact h)
abbrev qE:Shs:=⟨[],[],[],([],[])⟩
abbrev qS(s:List (Nat×Sh))(c:List (Nat×List Sh)):Shs:=⟨s,c,[],([],[])⟩
abbrev N1:CT:=.nilr true
abbrev N0:CT:=.nilr false
abbrev CW:CT:=.int .u16
abbrev CB:CT:=.int .u8
abbrev uL(l:List CT):List Sh:=l.map fun c=>.d c ()
abbrev pP(t r:Nat):Nat×Sh:=(t,.ptr ⟨r,0,[]⟩ [0])
abbrev sP(t:Nat)(c:CT):Nat×Sh:=(t,.d c ())
abbrev Lk(n:Nat)(c:Ctr):Prop:=Lvl E0 TT libB n c
theorem aN{m:Nat}:wc E0 TT libB m []:=trivial
theorem aC{n m:Nat}{c:Ctr}{l:List Ctr}(h:Lk n c)(r:wc E0 TT libB m l)(hm:n≤m:=by decide):wc E0 TT libB m (c::l):=⟨h.mono hm,r⟩
abbrev lx(i n:Nat)(s:List (Nat×Sh))(c:List (Nat×List Sh))(b:Nat):tB:=⟨i,n,⟨s,c,[],([],[])⟩,[(.exit 0,⟨s++[(b,.d .bool ())],c,[],([],[])⟩)]⟩
abbrev LI:Type:=List Int
abbrev LLI:Type:=List (List Int)
abbrev LDCe:Type:=List DCe
abbrev LDIn:Type:=List DIn
abbrev LDLn:Type:=List DLn
abbrev LDTh:Type:=List DTh
abbrev T00:Type:=Bool×LI×Unit
abbrev T01:Type:=Int×Int×Unit
abbrev T02:Type:=Int×LI×Unit
abbrev T03:Type:=LDCe×LDLn×Unit
abbrev T04:Type:=LI×Bool×Unit
abbrev T05:Type:=LI×Int×Unit
abbrev T06:Type:=LI×LLI×Unit
abbrev T07:Type:=Int×T00
abbrev T08:Type:=Int×Int×LDLn×Unit
abbrev T09:Type:=Int×T05
abbrev T0a:Type:=LDIn×T06
abbrev T0b:Type:=LI×T01
abbrev T0c:Type:=LI×T02
abbrev T0d:Type:=Bool×Bool×Bool×Bool×Unit
abbrev T0e:Type:=Int×Bool×T05
abbrev T0f:Type:=Int×T09
abbrev T0g:Type:=Int×T0c
abbrev T0h:Type:=LDCe×LDLn×T03
abbrev T0i:Type:=LDIn×LI×LLI×LI×Unit
abbrev T0j:Type:=LI×Int×T02
abbrev T0k:Type:=LI×T09
abbrev T0l:Type:=LI×T0b
abbrev T0m:Type:=LI×LLI×T04
abbrev T0n:Type:=Unit×T09
abbrev T0o:Type:=Int×T0e
abbrev T0p:Type:=Int×Int×Int×T01
abbrev T0q:Type:=Int×Int×T0a
abbrev T0r:Type:=LI×T0f
abbrev T0s:Type:=LI×Int×LDCe×LDLn×LDTh×Unit
abbrev T0t:Type:=Int×Int×Bool×T0a
abbrev T0u:Type:=Int×T0p
abbrev T0v:Type:=Int×Int×T0f
abbrev T0w:Type:=Int×Int×T0i
abbrev T0x:Type:=LDIn×T0q
abbrev T0y:Type:=LDIn×LI×LLI×(List (LDIn×LI×List LI))×Unit
abbrev T0z:Type:=LDIn×LI×LLI×T0a
abbrev T0A:Type:=LI×T0o
abbrev T0B:Type:=LI×T0r
abbrev T0C:Type:=LLI×T0q
abbrev T0D:Type:=Unit×Unit×Unit×T0a
abbrev T0E:Type:=Unit×Unit×Unit×Unit×T06
abbrev T0F:Type:=Bool×T0z
abbrev T0G:Type:=Int×Int×Bool×T0h
abbrev T0H:Type:=Int×Int×Bool×T0i
abbrev T0I:Type:=Int×T0x
abbrev T0J:Type:=Int×T0D
abbrev T0K:Type:=Int×T0E
abbrev T0L:Type:=LDIn×T0t
abbrev T0M:Type:=LDIn×T0w
abbrev T0N:Type:=LI×T0w
abbrev T0O:Type:=LI×Int×LI×Int×(List (LDIn×LI×List LI))×Unit
abbrev T0P:Type:=LLI×T0t
abbrev T0Q:Type:=Int×Int×T0z
abbrev T0R:Type:=Int×LDCe×T0u
abbrev T0S:Type:=Int×T0L
abbrev T0T:Type:=LDIn×T0H
abbrev T0U:Type:=LI×T0H
abbrev T0V:Type:=LI×T0J
abbrev T0W:Type:=LI×T0K
abbrev T0X:Type:=Unit×Unit×Unit×LDIn×T0m
abbrev T0Y:Type:=Unit×Unit×Unit×Unit×T0m
abbrev T0Z:Type:=Int×Int×T0F
abbrev T10:Type:=Int×Int×T0O
abbrev T11:Type:=Int×T0V
abbrev T12:Type:=Int×T0Y
abbrev T13:Type:=LDIn×LI×LLI×LI×Int×Unit×Unit×T03
abbrev T14:Type:=LI×Int×Int×T0A
abbrev T15:Type:=LI×Int×T0K
abbrev T16:Type:=Bool×Int×T0X
abbrev T17:Type:=Int×Bool×T0V
abbrev T18:Type:=Int×Int×Int×Int×Int×Bool×Bool×Bool×T00
abbrev T19:Type:=Int×T11
abbrev T1a:Type:=Int×Int×T0W
abbrev T1b:Type:=LI×Bool×Int×T0J
abbrev T1c:Type:=LI×Int×Int×Int×Int×Int×T0n
abbrev T1d:Type:=LI×Int×Int×LI×T0v
abbrev T1e:Type:=LI×Int×LDCe×LDLn×LDTh×T0s
abbrev T1f:Type:=Unit×Int×Unit×Unit×Unit×T0s
abbrev T1g:Type:=Bool×T1e
abbrev T1h:Type:=Int×Int×Int×T0Q
abbrev T1i:Type:=Int×Int×T13
abbrev T1j:Type:=Int×T1f
abbrev T1k:Type:=LI×Int×Int×Int×Int×T0y
abbrev T1l:Type:=LI×Int×Int×LI×Int×Int×T0o
abbrev T1m:Type:=LI×Int×Int×LI×Int×Int×T0r
abbrev T1n:Type:=Int×Bool×T1f
abbrev T1o:Type:=Int×Int×Bool×T13
abbrev T1p:Type:=Int×Int×T18
abbrev T1q:Type:=Int×Int×T1e
abbrev T1r:Type:=LI×Int×Int×T14
abbrev T1s:Type:=LI×Int×LI×Int×LDIn×LI×LLI×(List (LDIn×LI×List LI))×(List (LI×Int))×Unit
abbrev T1t:Type:=LLI×T1i
abbrev T1u:Type:=Int×Int×Bool×T18
abbrev T1v:Type:=LLI×T1o
abbrev T1w:Type:=Int×Int×Int×Int×T1s
abbrev T1x:Type:=Int×LLI×Int×Int×LI×T1i
abbrev T1y:Type:=Int×Int×LI×Int×Int×Int×Int×Int×Int×Int×Int×Int×Int×Int×T0d
noncomputable abbrev ap1{A0 D R:Type}(f:A0→R)(h:A0×D):R:=f h.1
noncomputable abbrev ap2{A0 A1 D R:Type}(f:A0→A1→R)(h:A0×A1×D):R:=f h.1 h.2.1
noncomputable abbrev ap3{A0 A1 A2 D R:Type}(f:A0→A1→A2→R)(h:A0×A1×A2×D):R:=f h.1 h.2.1 h.2.2.1
noncomputable abbrev ap4{A0 A1 A2 A3 D R:Type}(f:A0→A1→A2→A3→R)(h:A0×A1×A2×A3×D):R:=f h.1 h.2.1 h.2.2.1 h.2.2.2.1
noncomputable abbrev ap5{A0 A1 A2 A3 A4 D R:Type}(f:A0→A1→A2→A3→A4→R)(h:A0×A1×A2×A3×A4×D):R:=f h.1 h.2.1 h.2.2.1 h.2.2.2.1 h.2.2.2.2.1
noncomputable abbrev ap6{A0 A1 A2 A3 A4 A5 D R:Type}(f:A0→A1→A2→A3→A4→A5→R)(h:A0×A1×A2×A3×A4×A5×D):R:=f h.1 h.2.1 h.2.2.1 h.2.2.2.1 h.2.2.2.2.1 h.2.2.2.2.2.1
noncomputable abbrev ap8{A0 A1 A2 A3 A4 A5 A6 A7 D R:Type}(f:A0→A1→A2→A3→A4→A5→A6→A7→R)(h:A0×A1×A2×A3×A4×A5×A6×A7×D):R:=f h.1 h.2.1 h.2.2.1 h.2.2.2.1 h.2.2.2.2.1 h.2.2.2.2.2.1 h.2.2.2.2.2.2.1 h.2.2.2.2.2.2.2.1
theorem ls{n:Nat}(C:X.Cfg)(hT:wc E0 TT libB n C.TB){c:Ctr}(hE:C.E=E0:=by rfl)(h1:(TT c.f).isSome=true:=by kernel_rfl)(hg:∀h,X.runT bI C () ((TT c.f).getD Fa) c.outs (ew c.ins _ h).1 (lB c.pts [] (ew c.ins _ h).2).1=c.g h:=by intro h;kernel_rfl):Lk (n+1) c:=qK (n:=n) (C:=C) hE hT (tP h1) hg
abbrev Uaa(t:Nat):Nat×Sh:=sP t I64
abbrev Xaa(t:Nat):Nat×Sh:=sP t .bool
abbrev Zaa(t r:Nat):Nat×Sh:=(t,.pk ⟨r,0,[]⟩ [0,0])
abbrev uaa(t:CT):CT:=.row true t
abbrev yaa(t:CT):CT:=.row false t
abbrev zaa(t:Nat):Nat×Sh:=pP t (2*t+2)
abbrev uab:List Sh:=uL [dM,RI,(yaa RW)]
abbrev yab:List Sh:=uL [RI,I64]
abbrev zab:List Sh:=uL [I64,I64,I64,I64,I64]
abbrev Uab:List Sh:=uL [N1,N1,N1]
abbrev Xab:List Sh:=uL [I64]
abbrev Zab:List Sh:=uL [RI,CW]
abbrev uac:List Sh:=uL [.bool]
abbrev yac:List Sh:=uL [.bool,.bool,.bool,.bool]
abbrev zac:List Sh:=uL [(uaa CB)]
abbrev Uac:List Sh:=uL [(yaa CB),.bool]
abbrev Xac:List Sh:=uL [(yaa CB)]
abbrev Zac:List Sh:=uL [(uaa I64)]
abbrev uad:List Sh:=uL [N1,N1]
abbrev yad:List Sh:=uL [(uaa CB),I64]
abbrev zad:List Sh:=uL [I64,I64]
abbrev Uad:List Sh:=uL [(uaa CW)]
abbrev Xad:List Sh:=uL [(uaa KIn),RI,(uaa (uaa CW))]
abbrev Zad:List Sh:=uL [dM,RI,(uaa (uaa CW))]
abbrev uae:List Sh:=uL [(uaa KCe),DH]
abbrev yae:List Sh:=uL [N1,(uaa I64),(uaa (uaa CW))]
abbrev zae:List Sh:=uL [I64,I64,I64,I64,I64,I64]
abbrev Uae:List Sh:=uL [(uaa KIn),(uaa I64),(uaa (uaa CW))]
abbrev Xae:List Sh:=uL [N1,(uaa I64),(uaa RW)]
abbrev Zae:List Sh:=uL [(uaa KIn),(uaa I64),(uaa RW)]
abbrev uaf:List Sh:=uL [(uaa (yaa CB))]
def iJ:T0C->Option (T0C⊕((Bool×Unit)⊕T0P)):=λ(v0,v1,v2,v3)=>
bif(decide (v2<v1))then((cH v2).bind λx0=>
(bV v0 x0).bind λx1=>
let x2:=bO x1.length;
bif(decide (x2>100))then(some (.inr (.inl (false,()))))else
let x3:=w64 (v2+1);
some (.inl (v0,v1,x3,v3)))else
some (.inr (.inr (v0,v1,v2,false,v3)))
def hZ(a0:LDIn)(a1:List (Int))(a2:List LI):Option (Bool×Unit):=
let x0:=bO a2.length;
(match bR iJ NN (a2,x0,0,a0,a1,a2,())with
|none=>none
|some (.inl (x1,_))=>
some (x1,())
|some (.inr (x1,x2,x3,x4,x5,x6,x7,_))=>
let x8:=bO x5.length;
bif(decide (x8<=80))then(let x9:Int:=(bO x6.length);
bif(decide (x9<=20))then(let ac:Int:=(bO x7.length);
some ((decide (ac<=20)),()))else
some (false,()))else
some (false,()))
def wZ:X.Cfg:=⟨E0,[],[],[⟨3,0,qS [zaa 1,sP 6 (yaa RW),Uaa 7,Uaa 8] [(4,uab)],[(.ret,qS [Xaa 2] []),(.exit 0,qS [zaa 1,sP 6 (yaa RW),Uaa 7,Uaa 8,Xaa 9] [(4,uab)])]⟩]⟩
def qi:Ctr:=⟨9,0,[.agg uab],[],[⟨uac,[.one],[]⟩],ap3 hZ⟩
theorem wT:Lk 1 qi:=ls wZ aN
def lU:T0l->Option (T0l⊕((Bool×Unit)⊕(LI×LI×Int×Int×Bool×Unit))):=λ(v0,v1,v2,v3,_)=>
bif(decide (v3<v2))then((cH v3).bind λx0=>
(bV v1 x0).bind λx1=>
bif(decide (x1<1))then(some (.inr (.inl (false,()))))else
bif(decide (x1>32))then(some (.inr (.inl (false,()))))else
let x2:=w64 (v3+1);
some (.inl (v0,v1,v2,x2,())))else
some (.inr (.inr (v0,v1,v2,v3,false,())))
def fD(a0:List (Int)):Option (Bool×Unit):=
let x0:=bO a0.length;
(match bR lU NN (a0,a0,x0,0,())with
|none=>none
|some (.inl (x1,_))=>
some (x1,())
|some (.inr (x1,_))=>
let x6:=bO x1.length;
bif(decide (x6>=1))then(let x7:Int:=(bO x1.length);
some ((decide (x7<=4)),()))else
some (false,()))
def pm:X.Cfg:=⟨E0,[],[],[⟨3,0,qS [sP 0 RI,sP 5 RI,Uaa 6,Uaa 7] [],[(.ret,qS [Xaa 2] []),(.exit 0,qS [sP 0 RI,sP 5 RI,Uaa 6,Uaa 7,Xaa 8] [])]⟩]⟩
def hJ:Ctr:=⟨78,1,uL [RI],[],[⟨uac,[.one],[]⟩],ap1 fD⟩
theorem j6:Lk 1 hJ:=ls pm aN
def gZ(a0:Int):Option (T0d):=
(bif(a0==1)then(some (a0,true,false,false,false,false,()))else
bif(a0==15)then(some (a0,true,false,false,false,false,()))else
bif(a0==19)then(some (a0,true,false,false,false,false,()))else
bif(a0==20)then(some (a0,true,false,false,false,false,()))else
some (a0,(a0==21),false,false,false,false,()):Option (Int×Bool×T0d)).bind λ(x0,x1,_)=>
bif x1 then(some (true,false,false,true,()))else
bif(x0==2)then(some (true,true,false,false,()))else
bif(x0==16)then(some (true,true,false,true,()))else
bif(x0==17)then(some (true,true,false,true,()))else
bif(x0==18)then(some (false,false,false,true,()))else
bif(x0==23)then(some (false,false,false,true,()))else
bif(x0==22)then(some (true,false,false,false,()))else
bif(x0==0)then(some (false,false,false,false,()))else
bif(x0==24)then(some (false,false,false,false,()))else
some (true,true,true,false,())
def pz:X.Cfg:=⟨E0,[],[],[⟨3,0,qE,[(.normal,qS [zaa 2,Uaa 3,Xaa 4] [(6,yac)])]⟩]⟩
def kt:Ctr:=⟨100,2,Xab,[],[⟨yac,[.agg 4],[]⟩],ap1 gZ⟩
theorem pd:Lk 1 kt:=ls pz aN
def cX(a0:Bool)(a1:Int)(a2:Int):Option (Bool×Unit):=
bif(a1==0)then(some (true,()))else
bif a0 then(bif(decide (a1>0))then(some ((decide (a1<=a2)),()))else
some (false,()))else
some (false,())
def ou:X.Cfg:=⟨E0,[],[],[]⟩
def jy:Ctr:=⟨101,3,uL [.bool,I64,I64],[],[⟨uac,[.one],[]⟩],ap3 cX⟩
theorem ol:Lk 1 jy:=ls ou aN
def f6(a0:Int):Option (Bool×Unit):=
bif(a0==18)then(some (true,()))else
bif(a0==19)then(some (true,()))else
bif(a0==20)then(some (true,()))else
some ((a0==21),())
def rj:X.Cfg:=⟨E0,[],[],[]⟩
def iU:Ctr:=⟨80,4,Xab,[],[⟨uac,[.one],[]⟩],ap1 f6⟩
theorem lr:Lk 1 iU:=ls rj aN
def gK(a0:Int):Option (Int×Unit):=
(f6 a0).bind λ(x0,_)=>
bif x0 then(some (63,()))else
bif(a0==15)then(some (3,()))else
bif(a0==23)then(some (15,()))else
some (65535,())
def sN:X.Cfg:=⟨E0,[iU],[],[]⟩
def mO:Ctr:=⟨102,5,Xab,[],[⟨Xab,[.one],[]⟩],ap1 gK⟩
theorem sD:Lk 2 mO:=ls sN (aC lr aN)
def cV(a0:Int)(a1:Int)(a2:Int)(a3:Int)(a4:Int):Option (Bool×Unit):=
bif(decide (a0<0))then(some (false,()))else
bif(decide (a0>24))then(some (false,()))else
(gZ a0).bind λ(x0,x1,x2,x3,_)=>
(cX x0 a1 7).bind λ(x4,_)=>
bif x4 then((cX x1 a2 7).bind λ(x5,_)=>
bif x5 then((cX x2 a3 7).bind λ(x6,_)=>
bif x6 then((gK a0).bind λ(x7,_)=>
(cX x3 a4 x7).bind λ(x8,_)=>
some (x8,()))else
some (false,()))else
some (false,()))else
some (false,())
def ri:X.Cfg:=⟨E0,[kt,jy,mO],[],[]⟩
def ga:Ctr:=⟨79,6,[.agg zab],[],[⟨uac,[.one],[]⟩],ap5 cV⟩
theorem iQ:Lk 3 ga:=ls ri (aC pd (aC ol (aC sD aN)))
def i6:T0C->Option (T0C⊕((Int×Unit)⊕T0P)):=λ(v0,v1,v2,v3,v4,v5,_)=>
bif(decide (v2<v1))then((cH v2).bind λx0=>
(bV v0 x0).bind λx1=>
let x2:=bO x1.length;
(cH v2).bind λx3=>
(bV v4 x3).bind λx4=>
bif(decide (x2>x4))then(some (.inr (.inl (1,()))))else
let x5:=w64 (v2+1);
some (.inl (v0,v1,x5,v3,v4,v5,())))else
some (.inr (.inr (v0,v1,v2,false,v3,v4,v5,())))
def dc:T0I->Option (T0I⊕((Int×Unit)⊕T0S)):=λ(v0,v1,v2,v3,v4,v5,v6,_)=>
bif(decide (v3<v2))then((match((cH v3).bind λx0=>
(bV v1 x0).bind λx1=>
(cV x1.1 x1.2.1 x1.2.2.1 x1.2.2.2.1 x1.2.2.2.2).bind λ(x2,_)=>
bif(!x2)then(some (.inl (5,())))else
((f6 x1.1).bind λ(x3,_)=>
bif x3 then(let x4:Int:=(bO v4.length);
bif(decide (x1.2.2.2.2>=x4))then(some (v0,v1,v2,v3,true,v4,v5,v6,()))else
bif(x1.1==15)then(let x5:Int:=(bO v5.length);
some (v0,v1,v2,v3,(decide (x1.2.2.2.2>=x5)),v4,v5,v6,()))else
some (v0,v1,v2,v3,false,v4,v5,v6,()))else
bif(x1.1==15)then(let x4:Int:=(bO v5.length);
some (v0,v1,v2,v3,(decide (x1.2.2.2.2>=x4)),v4,v5,v6,()))else
some (v0,v1,v2,v3,false,v4,v5,v6,()):Option (T0S)).bind λ(x3,x4,x5,x6,x7,x8)=>
bif x7 then(some (.inr (6,x4,x5,x6,x8)))else
some (.inr (x3,x4,x5,x6,x8)):Option ((Int×Unit)⊕T0I))with
|none=>none
|some (.inl (x0,_))=>
some (.inr (.inl (x0,())))
|some (.inr (x0,x1,x2,x3,x4,x5,x6,_))=>
let x7:=w64 (x3+1);
some (.inl (x0,x1,x2,x7,x4,x5,x6,()))))else
some (.inr (.inr (v0,v1,v2,v3,false,v4,v5,v6,())))
def f7(a0:LDIn)(a1:List (Int))(a2:List LI):Option (Int×Unit):=
(fD a1).bind λ(x0,_)=>
bif(!x0)then(some (1,()))else
let x1:=bO a2.length;
let x2:=bO a1.length;
bif(x1 != x2)then(some (1,()))else
let x3:=bO a2.length;
(match bR i6 NN (a2,x3,0,a0,a1,a2,())with
|none=>none
|some (.inl (x4,_))=>
some (x4,())
|some (.inr (x4,x5,x6,x7,x8,x9))=>
let ae:=bO x8.length;
bif(ae==0)then(some (3,()))else
let af:=bO x8.length;
bif(decide (af>64))then(some (3,()))else
let ah:=bO x8.length;
(match bR dc NN (0,x8,ah,0,x8,x9)with
|none=>none
|some (.inl (ai,_))=>
some (ai,())
|some (.inr (ai,_))=>
some (ai,())))
def rk:X.Cfg:=⟨E0,[hJ,ga,iU],[],[⟨6,0,qS [zaa 1,sP 22 (yaa RW),Uaa 23,Uaa 24] [(4,uab)],[(.ret,qS [Uaa 2] []),(.exit 0,qS [zaa 1,sP 22 (yaa RW),Uaa 23,Uaa 24,Xaa 25] [(4,uab)])]⟩,⟨27,1,qE,[(.normal,qS [zaa 1,Uaa 5,sP 49 dM,Uaa 50,Uaa 51,Xaa 81] [(4,uab)])]⟩,⟨22,2,qE,[(.ret,qS [Uaa 2] []),(.normal,qS [zaa 1,Uaa 5,sP 49 dM,Uaa 50,Uaa 51] [(4,uab)])]⟩,⟨19,3,qS [zaa 1,Uaa 5,sP 49 dM,Uaa 50,Uaa 51] [(4,uab)],[(.ret,qS [Uaa 2] []),(.exit 2,qS [zaa 1,Uaa 5,sP 49 dM,Uaa 50,Uaa 51,Xaa 52] [(4,uab)])]⟩]⟩
def lM:Ctr:=⟨44,7,[.agg uab],[],[⟨Xab,[.one],[]⟩],ap3 f7⟩
theorem qV:Lk 4 lM:=ls rk (aC j6 (aC iQ (aC lr aN)))
def cA(a0:LDIn)(a1:List (Int))(a2:List LI):Option (Int×Unit):=
(f7 a0 a1 a2).bind λ(x0,_)=>
some (x0,())
def ot:X.Cfg:=⟨E0,[lM],[],[]⟩
def eY:Ctr:=⟨15,8,[.agg uab],[],[⟨Xab,[.one],[]⟩],ap3 cA⟩
theorem gu:Lk 5 eY:=ls ot (aC qV aN)
def dW:T0j->Option (T0j⊕(LI×Int×T07)):=λ(v0,v1,v2,v3,_)=>
bif(decide (v2<v1))then((cH v2).bind λx0=>
(bV v0 x0).bind λx1=>
let x2:Int:=(shR .shr .u16 x1 8);
let x3:=wk .u8 x2;
let x4:=wk .u8 x1;
let x5:List (Int):=[x3,x4];
bif(cf 1 v3.length x5.length)then let x6:List (Int):=(List.append v3 x5);
let x7:=w64 (v2+1);
some (.inl (v0,v1,x7,x6,()))else none)else
some (.inr (v0,v1,v2,false,v3,()))
def gH(a0:List (Int)):Option (LI×Unit):=
let x0:=bO a0.length;
(bR dW NN (a0,x0,0,[],())).bind λ(x1,x2,x3,x4,x5,_)=>
some (x5,())
def sJ:X.Cfg:=⟨E0,[],[],[(lx 4 0 [Zaa 3 9,sP 6 RW,Uaa 7,Uaa 8] [(9,zac)] 9)]⟩
def mL:Ctr:=⟨62,9,uL [RW],[],[⟨zac,[.one],[]⟩],ap1 gH⟩
theorem sA:Lk 1 mL:=ls sJ aN
def dN(a0:Int)(a1:Int)(a2:Int)(a3:Int)(a4:Int):Option (T05):=
(cV a0 a1 a2 a3 a4).bind λ(x0,_)=>
bif(!x0)then(some ([],1,()))else
let x1:=wk .u8 a0;
let x2:=wk .u8 a1;
let x3:=wk .u8 a2;
let x4:=wk .u8 a3;
let x5:Int:=(shR .shr .i64 a4 8);
let x6:=wk .u8 x5;
let x7:=wk .u8 a4;
let x8:List (Int):=[x1,x2,x3,x4,x6,x7];
some (x8,0,())
def pA:X.Cfg:=⟨E0,[ga],[],[]⟩
def kv:Ctr:=⟨63,10,[.agg zab],[],[⟨yad,[.one,.one],[]⟩],ap5 dN⟩
theorem pe:Lk 4 kv:=ls pA (aC iQ aN)
def cL:T0N->Option (T0N⊕T0U):=λ(v0,v1,v2,v3,v4,v5,v6,_)=>
bif(decide (v2<v1))then((cH v2).bind λx0=>
(bV v0 x0).bind λx1=>
let x2:=wk .u8 x1;
(cH v2).bind λx3=>
(bV v5 x3).bind λx4=>
let x5:=bO x4.length;
let x6:=wk .u8 x5;
let x7:List (Int):=[x2,x6];
bif(cf 1 v6.length x7.length)then let x8:List (Int):=(List.append v6 x7);
(cH v2).bind λx9=>
(bV v5 x9).bind λac=>
(gH ac).bind λ(ae,_)=>
bif(cf 1 x8.length ae.length)then let af:List (Int):=(List.append x8 ae);
let ah:=w64 (v2+1);
some (.inl (v0,v1,ah,v3,v4,v5,af,()))else none else none)else
some (.inr (v0,v1,v2,false,v3,v4,v5,v6,()))
def cF:T0M->Option (T0M⊕T0T):=λ(v0,v1,v2,v3,v4,v5,v6,_)=>
bif(decide (v2<v1))then((cH v2).bind λx0=>
(bV v0 x0).bind λx1=>
(dN x1.1 x1.2.1 x1.2.2.1 x1.2.2.2.1 x1.2.2.2.2).bind λ(x2,x3,_)=>
bif(cf 1 v6.length x2.length)then let x4:List (Int):=(List.append v6 x2);
let x5:=w64 (v2+1);
some (.inl (v0,v1,x5,v3,v4,v5,x4,()))else none)else
some (.inr (v0,v1,v2,false,v3,v4,v5,v6,()))
def cE(a0:LDIn)(a1:List (Int))(a2:List LI):Option (T05):=
(cA a0 a1 a2).bind λ(x0,_)=>
bif(x0 != 0)then(some ([],x0,()))else
let x1:=bO a1.length;
let x2:=wk .u8 x1;
let x3:=bO a1.length;
(bR cL NN (a1,x3,0,a0,a1,a2,[x2],())).bind λ(x4,x5,x6,x7,x8,x9,ac,ae,_)=>
let af:=bO x8.length;
let ah:=wk .u8 af;
bif(cf 1 ae.length (List.length [ah]))then let ai:List (Int):=(List.append ae [ah]);
let aj:=bO x8.length;
(bR cF NN (x8,aj,0,x8,x9,ac,ai,())).bind λ(ak,am,an,ap,aq,av,ax,ay,_)=>
some (ay,0,())else none
def na:X.Cfg:=⟨E0,[eY,mL,kv],[],[(lx 8 0 [zaa 1,Zaa 5 13,sP 23 RI,Uaa 24,Uaa 25] [(4,uab),(13,zac)] 26),⟨17,1,qS [Zaa 5 13,sP 59 dM,Uaa 60,Uaa 61] [(4,uab),(13,zac)],[(.exit 2,qS [Zaa 5 13,sP 59 dM,Uaa 60,Uaa 61,Xaa 62] [(4,uab),(13,zac)])]⟩]⟩
def fU:Ctr:=⟨27,11,[.agg uab],[],[⟨yad,[.one,.one],[]⟩],ap3 cE⟩
theorem i8:Lk 6 fU:=ls na (aC gu (aC sA (aC pe aN)))
def lX:T1d->Option (T1d⊕((Bool×Unit)⊕T1l)):=λ(v0,v1,v2,v3,v4,v5,v6,v7,v8,v9,_)=>
bif(decide (v7<v6))then((match((cH v7).bind λx0=>
(bV v8 x0).bind λx1=>
(cH v7).bind λx2=>
(bV v0 x2).bind λx3=>
let x4:=w64 (x1+x3);
bif(decide (v2<=x4))then((cH v7).bind λx5=>
(bV v8 x5).bind λx6=>
(cH v1).bind λx7=>
(bV v0 x7).bind λx8=>
let x9:=w64 (v2+x8);
bif(decide (x6<=x9))then(some (.inl (false,())))else
some (.inr (v0,v1,v2,v3,v4,v5,v6,v7,false,v8,v9,())))else
some (.inr (v0,v1,v2,v3,v4,v5,v6,v7,false,v8,v9,())):Option ((Bool×Unit)⊕T1l))with
|none=>none
|some (.inl (x0,_))=>
some (.inr (.inl (x0,())))
|some (.inr (x0,x1,x2,x3,x4,x5,x6,x7,x8,x9,ac,_))=>
let ae:=w64 (x7+1);
some (.inl (x0,x1,x2,x3,x4,x5,x6,ae,x9,ac,()))))else
some (.inr (.inr (v0,v1,v2,v3,v4,v5,v6,v7,false,v8,v9,())))
def lW:T0B->Option (T0B⊕((Bool×Unit)⊕(LI×T0A))):=λ(v0,v1,v2,v3,v4)=>
bif(decide (v3<v2))then((cH v3).bind λx0=>
(bV v1 x0).bind λx1=>
(bif(decide (x1<0))then(some (v0,v3,x1,v1,v2,v3,true,v4))else
bif(decide (x1>=512))then(some (v0,v3,x1,v1,v2,v3,true,v4))else
(cH v3).bind λx2=>
(bV v0 x2).bind λx3=>
let x4:=w64 (x1+x3);
some (v0,v3,x1,v1,v2,v3,(decide (x4>512)),v4):Option (T14)).bind λ(x2,x3,x4,x5,x6,x7,x8,x9)=>
bif x8 then(some (.inr (.inl (false,()))))else
(match bR lX NN (x2,x3,x4,x5,x6,x7,x3,0,x9)with
|none=>none
|some (.inl (ae,_))=>
some (.inr (.inl (ae,())))
|some (.inr (ae,af,ah,ai,aj,ak,am,an,ap,aq))=>
let ax:=w64 (ak+1);
some (.inl (ae,ai,aj,ax,aq))))else
some (.inr (.inr (v0,v1,v2,v3,false,v4)))
def j4(a0:List (Int))(a1:Int)(a2:List (Int)):Option (Bool×Unit):=
(fD a2).bind λ(x0,_)=>
bif(!x0)then(some (false,()))else
let x1:=bO a0.length;
let x2:=bO a2.length;
bif(x1 != x2)then(some (false,()))else
let x3:=bO a0.length;
(match bR lW NN (a2,a0,x3,0,a0,a1,())with
|none=>none
|some (.inl (x4,_))=>
some (x4,())
|some (.inr (x4,_))=>
some (true,()))
def py:X.Cfg:=⟨E0,[hJ],[],[⟨12,0,qE,[(.normal,qS [sP 1 RI,zaa 2,Uaa 5,Uaa 6,sP 20 RI,Uaa 21,Uaa 22,Xaa 41] [(6,Zab)])]⟩,⟨18,1,qE,[(.ret,qS [Xaa 4] []),(.normal,qS [sP 1 RI,zaa 2,Uaa 5,Uaa 6,sP 20 RI,Uaa 21,Uaa 22,Uaa 42,Uaa 43,Xaa 71] [(6,Zab)])]⟩,⟨15,2,qS [sP 1 RI,zaa 2,Uaa 5,Uaa 6,sP 20 RI,Uaa 21,Uaa 22,Uaa 42,Uaa 43] [(6,Zab)],[(.ret,qS [Xaa 4] []),(.exit 2,qS [sP 1 RI,zaa 2,Uaa 5,Uaa 6,sP 20 RI,Uaa 21,Uaa 22,Uaa 42,Uaa 43,Xaa 44] [(6,Zab)])]⟩,⟨6,3,qS [sP 1 RI,zaa 2,sP 20 RI,Uaa 21,Uaa 22] [(6,Zab)],[(.ret,qS [Xaa 4] []),(.exit 0,qS [sP 1 RI,zaa 2,sP 20 RI,Uaa 21,Uaa 22,Xaa 23] [(6,Zab)])]⟩]⟩
def ko:Ctr:=⟨81,12,[.agg Zab,shU RI],[],[⟨uac,[.one],[]⟩],ap3 j4⟩
theorem pb:Lk 2 ko:=ls py (aC j6 aN)
def lV:T08->Option (T08⊕(Int×Int×Bool×LDLn×Unit)):=λ(v0,v1,v2,_)=>
bif(decide (v1<v0))then((cH v1).bind λx0=>
(bV v2 x0).bind λx1=>
(bV v2 x0).bind λx2=>
let x3:=(List.modify v2 x0 λe=>((-1),e.2));
let x4:=w64 (v1+1);
some (.inl (v0,x4,x3,())))else
some (.inr (v0,v1,false,v2,()))
def j3:Option (LDLn×Unit):=
bif(ja 4 4 3)then let x0:LDLn:=(List.replicate 4 (0,(false,[])));
let x1:=bO x0.length;
(bR lV NN (x1,0,x0,())).bind λ(x2,x3,x4,x5,_)=>
some (x5,())else none
def px:X.Cfg:=⟨E0,[],[(3,E8)],[(lx 4 0 [Zaa 1 5,Uaa 5,Uaa 6] [(5,uL [DH])] 7)]⟩
def km:Ctr:=⟨82,13,[],[],[⟨uL [DH],[.one],[]⟩],λh=>j3⟩
theorem pa:Lk 1 km:=ls px aN
def lT:LI×Int×Int×LDCe×Unit->Option ((LI×Int×Int×LDCe×Unit)⊕(LI×Int×Int×Bool×LDCe×Unit)):=λ(v0,v1,v2,v3,_)=>
bif(decide (v2<v1))then((cH v2).bind λx0=>
(bV v0 x0).bind λx1=>
let x2:LDCe:=[(0,x1)];
bif(cf 4 v3.length x2.length)then let x3:LDCe:=(List.append v3 x2);
let x4:=w64 (v2+1);
some (.inl (v0,v1,x4,x3,()))else none)else
some (.inr (v0,v1,v2,false,v3,()))
def jZ(a0:List (Int)):Option (LDCe×Unit):=
let x0:=bO a0.length;
(bR lT NN (a0,x0,0,[],())).bind λ(x1,x2,x3,x4,x5,_)=>
some (x5,())
def pj:X.Cfg:=⟨E0,[],[],[(lx 4 0 [Zaa 3 9,sP 6 RW,Uaa 7,Uaa 8] [(9,uL [(uaa KCe)])] 9)]⟩
def ke:Ctr:=⟨83,14,uL [RW],[],[⟨uL [(uaa KCe)],[.one],[]⟩],ap1 jZ⟩
theorem o5:Lk 1 ke:=ls pj aN
def mZ:T1t->Option (T1t⊕((Int×Unit×Unit×Unit)⊕T1v)):=λ(v0,v1,v2,v3,v4,v5,v6,v7,v8,v9,v10,v11,_)=>
bif(decide (v2<v1))then((match((cH v2).bind λx0=>
(bV v0 x0).bind λx1=>
let x2:=bO x1.length;
(cH v2).bind λx3=>
(bV v4 x3).bind λx4=>
bif(decide (x2>x4))then(some (.inl (1,(),(),())))else
(cH v2).bind λx5=>
(bV v6 x5).bind λx6=>
(cH x6).bind λx7=>
bif(eb x7 v10.length v10.length)then(jZ x1).bind λ(x8,_)=>
bif(eb x7 (Nat.add x7 (Nat.min x8.length (Nat.sub v10.length x7))) v10.length)then bif(Nat.blt 0 (Nat.min x8.length (Nat.sub v10.length x7)))then(let x9:LDCe:=(tO v10 x7 (Nat.min x8.length (Nat.sub v10.length x7)) x8);
let ac:=(bO (Nat.min x8.length (Nat.sub v10.length x7)));
some (.inr (v0,v1,v2,v3,v4,v5,v6,v7,v8,v9,x9,v11,())))else
let x9:=(bO (Nat.min x8.length (Nat.sub v10.length x7)));
some (.inr (v0,v1,v2,v3,v4,v5,v6,v7,v8,v9,v10,v11,()))else none else none:Option ((Int×Unit×Unit×Unit)⊕T1t))with
|none=>none
|some (.inl (x0,x1,x2,_))=>
some (.inr (.inl (x0,x1,x2,())))
|some (.inr (x0,x1,x2,x3,x4,x5,x6,x7,x8,x9,ac,ae,_))=>
let af:=w64 (x2+1);
some (.inl (x0,x1,af,x3,x4,x5,x6,x7,x8,x9,ac,ae,()))))else
some (.inr (.inr (v0,v1,v2,false,v3,v4,v5,v6,v7,v8,v9,v10,v11,())))
def kY(a0:LDIn)(a1:List (Int))(a2:List LI)(a3:List (Int))(a4:Int):Option (LDCe×LDLn×Int×Unit):=
(j4 a3 a4 a1).bind λ(x0,_)=>
bif(!x0)then(some ([],[],1,()))else
let x1:=bO a2.length;
let x2:=bO a1.length;
bif(x1 != x2)then(some ([],[],1,()))else
bif(ja 512 512 2)then let x3:LDCe:=(List.replicate 512 (0,0));
(j3).bind λ(x4,_)=>
let x5:=bO a2.length;
(match bR mZ NN (a2,x5,0,a0,a1,a2,a3,a4,(),(),x3,x4,())with
|none=>none
|some (.inl (x6,x7,x8,_))=>
some ([],[],x6,())
|some (.inr (x6,x7,x8,x9,ac,ae,af,ah,ai,aj,ak,am,an,_))=>
some (am,an,0,()))else none
def re:X.Cfg:=⟨E0,[ko,km,ke],[],[⟨10,0,qE,[(.ret,qS [zaa 4,Uaa 5] [(10,uad)]),(.normal,qS [zaa 2,zaa 3,zaa 4,zaa 6,sP 28 (yaa RW),Uaa 29,Uaa 30] [(6,uab),(8,Zab),(10,uad),(14,uae)])]⟩,⟨7,1,qS [zaa 2,zaa 3,zaa 4,zaa 6,sP 28 (yaa RW),Uaa 29,Uaa 30] [(6,uab),(8,Zab),(10,uad),(14,uae)],[(.ret,qS [zaa 4,Uaa 5] [(10,uad)]),(.exit 0,qS [zaa 2,zaa 3,zaa 4,zaa 6,sP 28 (yaa RW),Uaa 29,Uaa 30,Xaa 31] [(6,uab),(8,Zab),(10,uad),(14,uae)])]⟩]⟩
def lJ:Ctr:=⟨47,15,[.agg uab,.agg Zab],[],[⟨uL [(uaa KCe),DH,I64],[.agg 2,.one],[]⟩],ap5 kY⟩
theorem qR:Lk 3 lJ:=ls re (aC pb (aC pa (aC o5 aN)))
def gI(a0:List (Int)):Option (LI×Unit):=
bif(cf 8 0 a0.length)then let x0:List (Int):=(List.append [] a0);
some (x0,())else none
def lz:X.Cfg:=⟨E0,[],[],[]⟩
def gW:Ctr:=⟨84,16,uL [RI],[],[⟨Zac,[.one],[]⟩],ap1 gI⟩
theorem lp:Lk 1 gW:=ls lz aN
def kZ(a0:List (Int))(a1:Int):Option (T05):=
(gI a0).bind λ(x0,_)=>
some (x0,a1,())
def rf:X.Cfg:=⟨E0,[gW],[],[]⟩
def lK:Ctr:=⟨48,17,[.agg Zab],[],[⟨uL [(uaa I64),CW],[.agg 2],[]⟩],ap2 kZ⟩
theorem qT:Lk 2 lK:=ls rf (aC lp aN)
def j5:Option (T0R):=
bif(ja 8 8 2)then let x0:LDCe:=(List.replicate 8 (0,0));
some (0,x0,0,0,(-1),(-1),0,0,())else none
def pC:X.Cfg:=⟨E0,[],[],[]⟩
def ky:Ctr:=⟨49,18,[],[],[⟨uL [I64,(uaa KCe),I64,I64,I64,I64,I64,CW],[.agg 8],[]⟩],λh=>j5⟩
theorem ph:Lk 1 ky:=ls pC aN
def kX:T1j->Option (T1j⊕T1n):=λ(v0,v1,v2,v3,v4,v5,v6,v7,v8,v9,v10,_)=>
bif(decide (v0<4))then((j5).bind λ(x0,x1,x2,x3,x4,x5,x6,x7,_)=>
let x8:LDTh:=[(x0,(x1,(x2,(x3,(x4,(x5,(x6,x7)))))))];
bif(cf 80 v10.length x8.length)then let x9:LDTh:=(List.append v10 x8);
let ac:=w64 (v0+1);
some (.inl (ac,v1,v2,v3,v4,v5,v6,v7,v8,v9,x9,()))else none)else
some (.inr (v0,false,v1,v2,v3,v4,v5,v6,v7,v8,v9,v10,()))
def gn(a0:LDIn)(a1:List (Int))(a2:List LI)(a3:List (Int))(a4:Int):Option (LI×Int×LDCe×LDLn×LDTh×Int×Unit):=
(cA a0 a1 a2).bind λ(x0,_)=>
bif(x0 != 0)then(some ([],0,[],[],[],x0,()))else
(kY a0 a1 a2 a3 a4).bind λ(x1,x2,x3,_)=>
bif(x3 != 0)then(some ([],0,[],[],[],x3,()))else
(kZ a3 a4).bind λ(x4,x5,_)=>
(bR kX NN (0,(),0,(),(),(),x4,x5,x1,x2,[],())).bind λ(x6,x7,x8,x9,ac,ae,af,ah,ai,aj,ak,am,_)=>
(bV am 0).bind λan=>
(bV am 0).bind λap=>
let aq:=List.modify am 0 λe=>(1,e.2);
some (ah,ai,aj,ak,aq,0,())
def oq:X.Cfg:=⟨E0,[eY,lJ,lK,ky],[(35,EY),(36,EY)],[(lx 12 0 [zaa 4,zaa 9,Uaa 30] [(10,uL [N1,CW,N1,N1,N1]),(20,uL [RI,CW,E7,E6,E5])] 31)]⟩
def jx:Ctr:=⟨17,19,[.agg uab,.agg Zab],[],[⟨uL [RI,CW,E7,E6,E5,I64],[.agg 5,.one],[]⟩],ap5 gn⟩
theorem oi:Lk 6 jx:=ls oq (aC gu (aC qR (aC qT (aC ph aN))))
def df:Option (Bool×Unit):=
let x0:LDIn:=[(0,(0,(0,(0,0))))];
(cE x0 [1] [[]]).bind λ(x1,x2,_)=>
(gn x0 [1] [[]] [3] 0).bind λ(x3,x4,x5,x6,x7,x8,_)=>
bif(x2==0)then(bif(x8==0)then(let x9:ByteArray:=(pK x1);
bif(De x9 (bytes [1,1,0,1,0,0,0,0,0,0]))then(let ac:Int:=(bO x7.length);
bif(ac==4)then((bV x7 0).bind λae=>
(bV x7 0).bind λaf=>
bif(af.1==1)then((bV x7 1).bind λah=>
(bV x7 1).bind λai=>
some ((ai.1==0),()))else
some (false,()))else
some (false,()))else
some (false,()))else
some (false,()))else
some (false,())
def rh:X.Cfg:=⟨E0,[fU,jx],[(9,(uaa CW))],[]⟩
def lL:Ctr:=⟨10,20,[],[],[⟨uac,[.one],[]⟩],λh=>df⟩
theorem qU:Lk 7 lL:=ls rh (aC i8 (aC oi aN))
def ft(a0:Int)(a1:Int):Option (Int×Unit):=
bif(a1 != 0)then let x0:Int:=(Int.tmod a0 a1);
(bif(decide (x0<0))then(let x1:Int:=(w64 (x0+a1));
some (x1,()))else
some (x0,()):Option (Int×Unit)).bind λ(x1,_)=>
some (x1,())else none
def up:X.Cfg:=⟨E0,[],[],[⟨2,0,qE,[(.normal,qS [Uaa 5] [])]⟩]⟩
def oN:Ctr:=⟨55,21,zad,[],[⟨Xab,[.one],[]⟩],ap2 ft⟩
theorem ui:Lk 1 oN:=ls up aN
def iK(a0:Int)(a1:Int):Option (Int×Unit):=
(ft a0 a1).bind λ(x0,_)=>
some (x0,())
def A3:X.Cfg:=⟨E0,[oN],[],[]⟩
def rD:Ctr:=⟨21,22,zad,[],[⟨Xab,[.one],[]⟩],ap2 iK⟩
theorem vt:Lk 2 rD:=ls A3 (aC ui aN)
def bK(a0:Int)(a1:List (Int))(a2:Int):Option (T09):=
let x0:=bO a1.length;
bif(decide (a2>=x0))then(some (0,a1,a2,()))else
let x1:=w64 (a2+1);
let x2:=w64 (x1-1);
(cH x2).bind λx3=>
(bV a1 x3).bind λx4=>
(iK x4 a0).bind λ(x5,_)=>
some (x5,a1,x1,())
def ut:X.Cfg:=⟨E0,[rD],[],[]⟩
def eF:Ctr:=⟨36,23,[.ptr ⟨2,0,[]⟩ [0],shU I64],[(2,yab)],[⟨Xab,[.one],[(2,yab)]⟩],ap3 bK⟩
theorem fA:Lk 3 eF:=ls ut (aC vt aN)
def jg:T0g->Option (T0g⊕(Int×Bool×T0c)):=λ(v0,v1,v2,v3,_)=>
bif(decide (v0>0))then(let x0:List (Int):=[6,12,32];
(bK 3 v1 v2).bind λ(x1,x2,x3,_)=>
(cH x1).bind λx4=>
(bV x0 x4).bind λx5=>
(bV x0 x4).bind λx6=>
(bK x6 x2 x3).bind λ(x7,x8,x9,_)=>
let ac:=w64 (1+x7);
bif(cf 8 v3.length (List.length [ac]))then let ae:List (Int):=(List.append v3 [ac]);
let af:=w64 (v0-1);
some (.inl (af,x8,x9,ae,()))else none)else
some (.inr (v0,false,v1,v2,v3,()))
def gM(a0:List (Int))(a1:Int):Option (LI×T05):=
(bK 9 a0 a1).bind λ(x0,x1,x2,_)=>
let x3:=w64 (4+x0);
(bK 4 x1 x2).bind λ(x4,x5,x6,_)=>
(bR jg NN (x4,x5,x6,[x3],())).bind λ(x7,x8,x9,ac,ae,_)=>
some (ae,x9,ac,())
def sQ:X.Cfg:=⟨E0,[eF],[],[(lx 4 0 [zaa 0,Zaa 3 9,Uaa 4] [(2,yab),(9,Zac)] 12)]⟩
def mQ:Ctr:=⟨38,24,[.ptr ⟨2,0,[]⟩ [0]],[(2,yab)],[⟨Zac,[.one],[(2,yab)]⟩],ap2 gM⟩
theorem sF:Lk 4 mQ:=ls sQ (aC fA aN)
def eC(a0:List (Int))(a1:Int):Option (T09):=
(bK 5 a0 a1).bind λ(x0,x1)=>
(bif(x0==0)then(some (x0,true,x1))else
bif(x0==1)then(some (x0,true,x1))else
some (x0,(x0==2),x1):Option (T0e)).bind λ(x3,x4,x5,x6,_)=>
bif x4 then((bK 8 x5 x6).bind λ(x7,x8,x9,_)=>
let ac:=wk .u16 x7;
some (ac,x8,x9,()))else
bif(x3==3)then((bK 3 x5 x6).bind λ(x7,x8,x9,_)=>
let ac:=w64 (65535-x7);
let ae:=wk .u16 ac;
some (ae,x8,x9,()))else
(bK 65536 x5 x6).bind λ(x7,x8,x9,_)=>
let ac:=wk .u16 x7;
some (ac,x8,x9,())
def ur:X.Cfg:=⟨E0,[eF],[],[⟨3,0,qE,[(.normal,qS [zaa 0,Uaa 4,Xaa 5] [(2,yab)])]⟩]⟩
def iV:Ctr:=⟨74,25,[.ptr ⟨2,0,[]⟩ [0]],[(2,yab)],[⟨uL [CW],[.one],[(2,yab)]⟩],ap2 eC⟩
theorem kJ:Lk 4 iV:=ls ur (aC fA aN)
def jf:T0g->Option (T0g⊕(Int×Bool×T0c)):=λ(v0,v1,v2,v3,_)=>
bif(decide (v0>0))then((eC v1 v2).bind λ(x0,x1,x2,_)=>
bif(cf 2 v3.length (List.length [x0]))then let x3:List (Int):=(List.append v3 [x0]);
let x4:=w64 (v0-1);
some (.inl (x4,x1,x2,x3,()))else none)else
some (.inr (v0,false,v1,v2,v3,()))
def gL(a0:Int)(a1:List (Int))(a2:Int):Option (LI×T05):=
let x0:=w64 (a0+1);
(bK x0 a1 a2).bind λ(x1,x2,x3,_)=>
(bR jf NN (x1,x2,x3,[],())).bind λ(x4,x5,x6,x7,x8,_)=>
some (x8,x6,x7,())
def sO:X.Cfg:=⟨E0,[eF,iV],[],[(lx 4 0 [zaa 0,Zaa 5 13,Uaa 6] [(2,yab),(13,Uad)] 12)]⟩
def mP:Ctr:=⟨39,26,[.ptr ⟨2,0,[]⟩ [0],shU I64],[(2,yab)],[⟨Uad,[.one],[(2,yab)]⟩],ap3 gL⟩
theorem sE:Lk 5 mP:=ls sO (aC fA (aC kJ aN))
def dY(a0:Int)(a1:Int):Option (T0p):=
some (1,a0,0,0,a1,())
def Da:X.Cfg:=⟨E0,[],[],[]⟩
def uK:Ctr:=⟨41,27,zad,[],[⟨zab,[.agg 5],[]⟩],ap2 dY⟩
theorem zd:Lk 1 uK:=ls Da aN
def dI(a0:Int):Option (T0p):=
some (23,0,0,0,a0,())
def AY:X.Cfg:=⟨E0,[],[],[]⟩
def rC:Ctr:=⟨42,28,Xab,[],[⟨zab,[.agg 5],[]⟩],ap1 dI⟩
theorem vq:Lk 1 rC:=ls AY aN
def fZ(a0:Int)(a1:Int):Option (T0p):=
some (2,a0,a1,0,0,())
def AZ:X.Cfg:=⟨E0,[],[],[]⟩
def vU:Ctr:=⟨77,29,zad,[],[⟨zab,[.agg 5],[]⟩],ap2 fZ⟩
theorem AP:Lk 1 vU:=ls AZ aN
def dX(a0:Int):Option (T0d):=
(bif(a0==1)then(some (a0,true,false,false,false,false,()))else
bif(a0==15)then(some (a0,true,false,false,false,false,()))else
bif(a0==19)then(some (a0,true,false,false,false,false,()))else
bif(a0==20)then(some (a0,true,false,false,false,false,()))else
some (a0,(a0==21),false,false,false,false,()):Option (Int×Bool×T0d)).bind λ(x0,x1,_)=>
bif x1 then(some (true,false,false,true,()))else
bif(x0==2)then(some (true,true,false,false,()))else
bif(x0==16)then(some (true,true,false,true,()))else
bif(x0==17)then(some (true,true,false,true,()))else
bif(x0==18)then(some (false,false,false,true,()))else
bif(x0==23)then(some (false,false,false,true,()))else
bif(x0==22)then(some (true,false,false,false,()))else
bif(x0==0)then(some (false,false,false,false,()))else
bif(x0==24)then(some (false,false,false,false,()))else
some (true,true,true,false,())
def sL:X.Cfg:=⟨E0,[],[],[⟨3,0,qE,[(.normal,qS [zaa 2,Uaa 3,Xaa 4] [(6,yac)])]⟩]⟩
def jw:Ctr:=⟨73,30,Xab,[],[⟨yac,[.agg 4],[]⟩],ap1 dX⟩
theorem mD:Lk 1 jw:=ls sL aN
def de(a0:Int):Option (Bool×Unit):=
bif(a0==18)then(some (true,()))else
bif(a0==19)then(some (true,()))else
bif(a0==20)then(some (true,()))else
some ((a0==21),())
def sM:X.Cfg:=⟨E0,[],[],[]⟩
def fQ:Ctr:=⟨43,31,Xab,[],[⟨uac,[.one],[]⟩],ap1 de⟩
theorem gS:Lk 1 fQ:=ls sM aN
def gN(a0:Int)(a1:Int)(a2:List (Int))(a3:Int):Option (Int×T0v):=
(bK 25 a2 a3).bind λ(x0,x1,x2,_)=>
(dX x0).bind λ(x3,x4)=>
(bif x3 then((bK 8 x1 x2).bind λ(x7,x8,x9,_)=>
some (a0,a1,x8,x9,0,0,0,0,0,x0,x7,0,0,0,x3,x4))else
some (a0,a1,x1,x2,0,0,0,0,0,x0,0,0,0,0,x3,x4):Option (T1y)).bind λ(x7,x8,x9,ac,ae,af,ah,ai,aj,ak,am,an,ap,aq,av,ax,ay)=>
(bif ax then((bK 8 x9 ac).bind λ(aA,aB,aD,_)=>
some (x7,x8,aB,aD,ae,af,ah,ai,aj,ak,am,aA,ap,aq,av,ax,ay))else
some (x7,x8,x9,ac,ae,af,ah,ai,aj,ak,am,an,ap,aq,av,ax,ay):Option (T1y)).bind λ(aA,aB,aD,aE,aF,aG,aH,aI,aJ,aK,aL,aM,aO,aP,aQ,aR,aS,aT,_)=>
(bif aS then((bK 8 aD aE).bind λ(aU,aV,aW,_)=>
some (aA,aB,aV,aW,aF,aG,aH,aI,aJ,aK,aL,aM,aU,aP,aQ,aR,aS,aT,()))else
some (aA,aB,aD,aE,aF,aG,aH,aI,aJ,aK,aL,aM,aO,aP,aQ,aR,aS,aT,()):Option (T1y)).bind λ(aU,aV,aW,aY,aZ,ba,bc,bd,be,bf,bg,bh,bi,bj,bk,bm,bn,bo,_)=>
((de bf).bind λ(bp,_)=>
bif bp then((bK aV aW aY).bind λ(bq,bt,bv,_)=>
some (bt,bv,aZ,ba,bc,bd,be,bf,bg,bh,bi,bq,()))else
bif(bf==15)then((bK aU aW aY).bind λ(bq,bt,bv,_)=>
some (bt,bv,aZ,ba,bc,bd,be,bf,bg,bh,bi,bq,()))else
bif(bf==23)then((bK 16 aW aY).bind λ(bq,bt,bv,_)=>
some (bt,bv,aZ,ba,bc,bd,be,bf,bg,bh,bi,bq,()))else
bif bo then((eC aW aY).bind λ(bq,bt,bv,_)=>
let bx:=wk .i64 bq;
some (bt,bv,aZ,ba,bc,bd,be,bf,bg,bh,bi,bx,()))else
some (aW,aY,aZ,ba,bc,bd,be,bf,bg,bh,bi,bj,()):Option (LI×Int×Int×Int×Int×Int×T0u)).bind λ(bp,bq,bt,bv,bx,bz,bA,bB,bC,bD,bE,bF,_)=>
some (bB,bC,bD,bE,bF,bp,bq,())
def sR:X.Cfg:=⟨E0,[eF,jw,fQ,iV],[],[⟨3,0,qE,[(.normal,qS [zaa 0,Uaa 1,Uaa 2,zaa 6,zaa 7,zaa 8] [(2,yab),(14,zab),(16,zab),(18,yac)])]⟩,⟨5,1,qE,[(.normal,qS [zaa 0,Uaa 1,Uaa 2,zaa 6,zaa 7,zaa 8] [(2,yab),(14,zab),(16,zab),(18,yac)])]⟩,⟨7,2,qE,[(.normal,qS [zaa 0,Uaa 1,Uaa 2,zaa 6,zaa 7,zaa 8] [(2,yab),(14,zab),(16,zab),(18,yac)])]⟩,⟨9,3,qE,[(.normal,qS [zaa 0,zaa 6,zaa 7] [(2,yab),(14,zab),(16,zab)])]⟩]⟩
def mR:Ctr:=⟨35,32,[.ptr ⟨2,0,[]⟩ [0],shU I64,shU I64],[(2,yab)],[⟨zab,[.agg 5],[(2,yab)]⟩],ap4 gN⟩
theorem sG:Lk 5 mR:=ls sR (aC fA (aC mD (aC gS (aC kJ aN))))
def iL(a0:List (Int))(a1:Int)(a2:Int)(a3:List (Int))(a4:Int):Option (LDIn×T05):=
let x0:=bO a0.length;
(bK x0 a3 a4).bind λ(x1,x2,x3,_)=>
(cH x1).bind λx4=>
(bV a0 x4).bind λx5=>
let x6:=w64 (x5+1);
let x7:=mmR false 5 x6;
(bK x7 x2 x3).bind λ(x8,x9,ac,_)=>
(dY 2 x8).bind λ(ae,af,ah,ai,aj,_)=>
let ak:LDIn:=[(15,(1,(0,(0,x1)))),(ae,(af,(ah,(ai,aj))))];
(bK 20 x9 ac).bind λ(am,an,ap,_)=>
bif(am==0)then((bK 3 an ap).bind λ(aq,av,ax,_)=>
let ay:=w64 (3+aq);
(eC av ax).bind λ(az,aA,aB,_)=>
let aD:=wk .i64 az;
(dY ay aD).bind λ(aE,aF,aG,aH,aI,_)=>
let aJ:LDIn:=[(aE,(aF,(aG,(aH,aI))))];
some (aJ,aA,aB,()))else
bif(am==1)then(let aq:List (Int):=[3,4,5,10,13,14,11,9];
(bK 8 an ap).bind λ(av,ax,ay,_)=>
(cH av).bind λaz=>
(bV aq az).bind λaA=>
(bV aq az).bind λaB=>
(bK 3 ax ay).bind λ(aD,aE,aF,_)=>
let aG:=w64 (3+aD);
(bK 3 aE aF).bind λ(aH,aI,aJ,_)=>
let aK:=w64 (3+aH);
(bK 3 aI aJ).bind λ(aL,aM,aO,_)=>
let aP:=w64 (3+aL);
let aQ:LDIn:=[(aB,(aG,(aK,(aP,0))))];
some (aQ,aM,aO,()))else
bif(am==2)then(let aq:LDIn:=[(15,(6,(0,(0,x1))))];
some (aq,an,ap,()))else
bif(am==3)then((bK 5 an ap).bind λ(aq,av,ax,_)=>
let ay:=w64 (3+aq);
(cH x1).bind λaz=>
(bV a0 az).bind λaA=>
(bK aA av ax).bind λ(aB,aD,aE,_)=>
let aF:LDIn:=[(15,(6,(0,(0,x1)))),(17,(6,(ay,(0,aB))))];
some (aF,aD,aE,()))else
bif(am==4)then((bK 5 an ap).bind λ(aq,av,ax,_)=>
let ay:=w64 (3+aq);
(cH x1).bind λaz=>
(bV a0 az).bind λaA=>
(bK aA av ax).bind λ(aB,aD,aE,_)=>
let aF:LDIn:=[(15,(6,(0,(0,x1)))),(17,(6,(ay,(0,aB))))];
some (aF,aD,aE,()))else
bif(am==5)then((bK 4 an ap).bind λ(aq,av,ax,_)=>
let ay:=w64 (3+aq);
(cH x1).bind λaz=>
(bV a0 az).bind λaA=>
(bK aA av ax).bind λ(aB,aD,aE,_)=>
let aF:LDIn:=[(15,(6,(0,(0,x1)))),(16,(ay,(6,(0,aB))))];
some (aF,aD,aE,()))else
bif(am==6)then((bK 4 an ap).bind λ(aq,av,ax,_)=>
let ay:=w64 (3+aq);
(cH x1).bind λaz=>
(bV a0 az).bind λaA=>
(bK aA av ax).bind λ(aB,aD,aE,_)=>
let aF:LDIn:=[(15,(6,(0,(0,x1)))),(16,(ay,(6,(0,aB))))];
some (aF,aD,aE,()))else
bif(am==7)then((bK 3 an ap).bind λ(aq,av,ax,_)=>
(dY 0 aq).bind λ(ay,az,aA,aB,aD,_)=>
let aE:LDIn:=[(ay,(az,(aA,(aB,aD))))];
bif(cf 40 aE.length ak.length)then let aF:LDIn:=(List.append aE ak);
(dI 13).bind λ(aG,aH,aI,aJ,aK,_)=>
let aL:LDIn:=[(aG,(aH,(aI,(aJ,aK))))];
bif(cf 40 aF.length aL.length)then let aM:LDIn:=(List.append aF aL);
some (aM,av,ax,())else none else none)else
bif(am==8)then((bK 3 an ap).bind λ(aq,av,ax,_)=>
(dY 0 aq).bind λ(ay,az,aA,aB,aD,_)=>
let aE:LDIn:=[(ay,(az,(aA,(aB,aD))))];
bif(cf 40 aE.length ak.length)then let aF:LDIn:=(List.append aE ak);
(dI 13).bind λ(aG,aH,aI,aJ,aK,_)=>
let aL:LDIn:=[(aG,(aH,(aI,(aJ,aK))))];
bif(cf 40 aF.length aL.length)then let aM:LDIn:=(List.append aF aL);
some (aM,av,ax,())else none else none)else
bif(am==9)then((bK 3 an ap).bind λ(aq,av,ax,_)=>
(dY 0 aq).bind λ(ay,az,aA,aB,aD,_)=>
let aE:LDIn:=[(ay,(az,(aA,(aB,aD))))];
bif(cf 40 aE.length ak.length)then let aF:LDIn:=(List.append aE ak);
(dI 14).bind λ(aG,aH,aI,aJ,aK,_)=>
(fZ 3 0).bind λ(aL,aM,aO,aP,aQ,_)=>
let aR:LDIn:=[(aG,(aH,(aI,(aJ,aK)))),(aL,(aM,(aO,(aP,aQ))))];
bif(cf 40 aF.length aR.length)then let aS:LDIn:=(List.append aF aR);
some (aS,av,ax,())else none else none)else
bif(am==10)then((bK 3 an ap).bind λ(aq,av,ax,_)=>
(dY 0 aq).bind λ(ay,az,aA,aB,aD,_)=>
(bK 4 av ax).bind λ(aE,aF,aG,_)=>
(dY 1 aE).bind λ(aH,aI,aJ,aK,aL,_)=>
(dI 3).bind λ(aM,aO,aP,aQ,aR,_)=>
(fZ 7 0).bind λ(aS,aT,aU,aV,aW,_)=>
let aY:LDIn:=[(ay,(az,(aA,(aB,aD)))),(aH,(aI,(aJ,(aK,aL)))),(aM,(aO,(aP,(aQ,aR)))),(aS,(aT,(aU,(aV,aW))))];
some (aY,aF,aG,()))else
bif(am==11)then((fZ 0 7).bind λ(aq,av,ax,ay,az,_)=>
let aA:LDIn:=[(aq,(av,(ax,(ay,az))))];
bif(cf 40 aA.length ak.length)then let aB:LDIn:=(List.append aA ak);
let aD:List (Int):=[1,2];
(bK 2 an ap).bind λ(aE,aF,aG,_)=>
(cH aE).bind λaH=>
(bV aD aH).bind λaI=>
(bV aD aH).bind λaJ=>
(dI aJ).bind λ(aK,aL,aM,aO,aP,_)=>
let aQ:LDIn:=[(aK,(aL,(aM,(aO,aP))))];
bif(cf 40 aB.length aQ.length)then let aR:LDIn:=(List.append aB aQ);
some (aR,aF,aG,())else none else none)else
bif(am==12)then((fZ 0 7).bind λ(aq,av,ax,ay,az,_)=>
(dI 4).bind λ(aA,aB,aD,aE,aF,_)=>
let aG:LDIn:=[(aq,(av,(ax,(ay,az)))),(aA,(aB,(aD,(aE,aF))))];
(fZ 0 7).bind λ(aH,aI,aJ,aK,aL,_)=>
(bK 4 an ap).bind λ(aM,aO,aP,_)=>
(dY 1 aM).bind λ(aQ,aR,aS,aT,aU,_)=>
(dI 5).bind λ(aV,aW,aY,aZ,ba,_)=>
let bc:LDIn:=[(aH,(aI,(aJ,(aK,aL)))),(aQ,(aR,(aS,(aT,aU)))),(aV,(aW,(aY,(aZ,ba))))];
let bd:List LDIn:=[aG,bc];
(bK 2 aO aP).bind λ(be,bf)=>
(cH be).bind λbh=>
(bV bd bh).bind λbi=>
(bV bd bh).bind λbj=>
(bV bd bh).bind λbk=>
some (bk,bf))else
bif(am==13)then(let aq:List (Int):=[6,7,15];
(bK 3 an ap).bind λ(av,ax,ay,_)=>
(cH av).bind λaz=>
(bV aq az).bind λaA=>
(bV aq az).bind λaB=>
(dI aB).bind λ(aD,aE,aF,aG,aH,_)=>
(bK 3 ax ay).bind λ(aI,aJ,aK,_)=>
let aL:=w64 (3+aI);
(fZ aL 0).bind λ(aM,aO,aP,aQ,aR,_)=>
let aS:LDIn:=[(aD,(aE,(aF,(aG,aH)))),(aM,(aO,(aP,(aQ,aR))))];
some (aS,aJ,aK,()))else
bif(am==14)then((bK 3 an ap).bind λ(aq,av,ax,_)=>
(dY 0 aq).bind λ(ay,az,aA,aB,aD,_)=>
let aE:List (Int):=[8,9];
(bK 2 av ax).bind λ(aF,aG,aH,_)=>
(cH aF).bind λaI=>
(bV aE aI).bind λaJ=>
(bV aE aI).bind λaK=>
(dI aK).bind λ(aL,aM,aO,aP,aQ,_)=>
let aR:LDIn:=[(ay,(az,(aA,(aB,aD)))),(aL,(aM,(aO,(aP,aQ))))];
some (aR,aG,aH,()))else
bif(am==15)then((bK 3 an ap).bind λ(aq,av,ax,_)=>
(dY 0 aq).bind λ(ay,az,aA,aB,aD,_)=>
let aE:List (Int):=[8,9];
(bK 2 av ax).bind λ(aF,aG,aH,_)=>
(cH aF).bind λaI=>
(bV aE aI).bind λaJ=>
(bV aE aI).bind λaK=>
(dI aK).bind λ(aL,aM,aO,aP,aQ,_)=>
let aR:LDIn:=[(ay,(az,(aA,(aB,aD)))),(aL,(aM,(aO,(aP,aQ))))];
some (aR,aG,aH,()))else
bif(am==16)then((bK a1 an ap).bind λ(aq,av,ax,_)=>
(dY 0 aq).bind λ(ay,az,aA,aB,aD,_)=>
(fZ 1 3).bind λ(aE,aF,aG,aH,aI,_)=>
(dI 10).bind λ(aJ,aK,aL,aM,aO,_)=>
let aP:LDIn:=[(ay,(az,(aA,(aB,aD)))),(aE,(aF,(aG,(aH,aI)))),(aJ,(aK,(aL,(aM,aO))))];
some (aP,av,ax,()))else
bif(am==17)then(let aq:List (Int):=[a1,5];
(bK 2 an ap).bind λ(av,ax,ay,_)=>
(cH av).bind λaz=>
(bV aq az).bind λaA=>
(bV aq az).bind λaB=>
(bK aB ax ay).bind λ(aD,aE,aF,_)=>
(dY 0 aD).bind λ(aG,aH,aI,aJ,aK,_)=>
let aL:List (Int):=[12,11];
(bK 2 aE aF).bind λ(aM,aO,aP,_)=>
(cH aM).bind λaQ=>
(bV aL aQ).bind λaR=>
(bV aL aQ).bind λaS=>
(dI aS).bind λ(aT,aU,aV,aW,aY,_)=>
let aZ:LDIn:=[(aG,(aH,(aI,(aJ,aK)))),(aT,(aU,(aV,(aW,aY))))];
some (aZ,aO,aP,()))else
bif(am==18)then((bK 4 an ap).bind λ(aq,av,ax,_)=>
let ay:=w64 (1+aq);
(dY 5 ay).bind λ(az,aA,aB,aD,aE,_)=>
(dY 4 1).bind λ(aF,aG,aH,aI,aJ,_)=>
let aK:=w64 (a2+2);
let aL:LDIn:=[(az,(aA,(aB,(aD,aE)))),(aF,(aG,(aH,(aI,aJ)))),(4,(5,(5,(4,0)))),(20,(5,(0,(0,aK))))];
some (aL,av,ax,()))else
let aq:=bO a0.length;
(gN aq a1 an ap).bind λ(av,ax,ay,az,aA,aB,aD,_)=>
let aE:LDIn:=[(av,(ax,(ay,(az,aA))))];
some (aE,aB,aD,())
def uq:X.Cfg:=⟨E0,[eF,uK,iV,rC,vU,mR],[(156,(uaa KIn))],[]⟩
def oO:Ctr:=⟨40,33,[.ptr ⟨2,0,[]⟩ [0],shU RI,shU I64,shU I64],[(2,yab)],[⟨uL [dM],[.one],[(2,yab)]⟩],ap5 iL⟩
theorem uj:Lk 6 oO:=ls uq (aC fA (aC zd (aC kJ (aC vq (aC AP (aC sG aN))))))
def ie:T1a->Option (T1a⊕(Int×Int×Bool×T0W)):=λ(v0,v1,v2,v3,v4,v5,v6,v7,v8,v9,_)=>
bif(decide (v1<v0))then((cH v1).bind λx0=>
(bV v8 x0).bind λx1=>
(bV v8 x0).bind λx2=>
(gL x2 v2 v3).bind λ(x3,x4,x5,_)=>
bif(cf 24 v9.length (List.length [x3]))then let x6:List LI:=(List.append v9 [x3]);
let x7:=w64 (v1+1);
some (.inl (v0,x7,x4,x5,v4,v5,v6,v7,v8,x6,()))else none)else
some (.inr (v0,v1,false,v2,v3,v4,v5,v6,v7,v8,v9,()))
def ic:T11->Option (T11⊕T17):=λ(v0,v1,v2,v3,v4,v5,v6,v7,v8,_)=>
bif(decide (v0>0))then((let x0:Int:=(bO v6.length);
let x1:=w64 (x0+1);
let x2:=bO v6.length;
(iL v7 x1 x2 v1 v2).bind λ(x3,x4,x5,_)=>
let x6:=bO v6.length;
let x7:=bO x3.length;
let x8:=w64 (x6+x7);
bif(decide (x8<=62))then(bif(cf 40 v6.length x3.length)then let x9:LDIn:=(List.append v6 x3);
some (v0,x4,x5,v3,v4,v5,x9,v7,v8,())else none)else
some (v0,x4,x5,v3,v4,v5,v6,v7,v8,()):Option (T11)).bind λ(x0,x1,x2,x3,x4,x5,x6,x7,x8,_)=>
let x9:=w64 (x0-1);
some (.inl (x9,x1,x2,x3,x4,x5,x6,x7,x8,())))else
some (.inr (v0,false,v1,v2,v3,v4,v5,v6,v7,v8,()))
def dz:T19->Option (T19⊕(Int×T17)):=λ(v0,v1,v2,v3,v4,v5,v6,v7,v8)=>
bif(decide (v1<v0))then(((cH v1).bind λx0=>
(bV v7 x0).bind λx1=>
(de x1.1).bind λ(x2,_)=>
bif x2 then((cH v1).bind λx3=>
(bV v7 x3).bind λx4=>
let x5:=bO v7.length;
bif(decide (x4.2.2.2.2>=x5))then((cH v1).bind λx6=>
(bV v7 x6).bind λx7=>
none)else
some (v0,v1,v2,v3,v4,v5,v6,v7,v8))else
some (v0,v1,v2,v3,v4,v5,v6,v7,v8):Option (T19)).bind λ(x0,x1,x2,x3,x4,x5,x6,x7,x8)=>
let ac:=w64 (x1+1);
some (.inl (x0,ac,x2,x3,x4,x5,x6,x7,x8)))else
some (.inr (v0,v1,false,v2,v3,v4,v5,v6,v7,v8))
def eu(a0:List (Int))(a1:Int):Option (LDIn×LI×LLI×T05):=
(gM a0 a1).bind λ(x0,x1,x2,_)=>
let x3:=bO x0.length;
(bR ie NN (x3,0,x1,x2,(),(),(),(),x0,[],())).bind λ(x4,x5,x6,x7,x8,x9,ac,ae,af,ah)=>
(bK 12 x7 x8).bind λ(aj,ak,am,_)=>
let an:=w64 (1+aj);
(bR ic NN (an,ak,am,x9,ac,ae,[],ah)).bind λ(ap,aq,av,ax,ay,az,aA,aB,aD)=>
((bK 4 av ax).bind λ(aF,aG,aH,_)=>
bif(aF==0)then(let aI:Int:=(bO aB.length);
let aJ:=w64 (aI+1);
(bK aJ aG aH).bind λ(aK,aL,aM,_)=>
let aO:LDIn:=[(18,(0,(0,(0,aK))))];
bif(cf 40 aB.length aO.length)then let aP:LDIn:=(List.append aB aO);
some (aL,aM,ay,az,aA,aP,aD)else none)else
bif(aF==1)then(let aI:LDIn:=[(24,(0,(0,(0,0))))];
bif(cf 40 aB.length aI.length)then let aJ:LDIn:=(List.append aB aI);
some (aG,aH,ay,az,aA,aJ,aD)else none)else
some (aG,aH,ay,az,aA,aB,aD):Option (T0V)).bind λ(aF,aG,aH,aI,aJ,aK,aL,aM,_)=>
(bK 9 aF aG).bind λ(aO,aP,aQ,_)=>
(dY 0 aO).bind λ(aR,aS,aT,aU,aV,_)=>
(dI 0).bind λ(aW,aY,aZ,ba,bc,_)=>
let bd:LDIn:=[(aR,(aS,(aT,(aU,aV)))),(aW,(aY,(aZ,(ba,bc))))];
bif(cf 40 aK.length bd.length)then let be:LDIn:=(List.append aK bd);
let bf:=bO be.length;
bif(decide (bf>64))then(bif(eb 0 64 be.length)then let bg:LDIn:=(i4 be 0 (Nat.sub 64 0));
let bh:=bO bg.length;
(bR dz NN (bh,0,aP,aQ,aH,aI,aJ,bg,aL,aM,())).bind λ(bi,bj,bk,bm,bn,bo,bp,bq,bt,bv,bx,_)=>
some (bt,bv,bx,bm,bn,())else none)else
let bg:=bO be.length;
(bR dz NN (bg,0,aP,aQ,aH,aI,aJ,be,aL,aM,())).bind λ(bh,bi,bj,bk,bm,bn,bo,bp,bq,bt,bv,_)=>
some (bq,bt,bv,bk,bm,())else none
def pD:X.Cfg:=⟨E0,[mQ,mP,eF,oO,uK,rC,fQ],[(24,(uaa CW)),(25,(uaa CW))],[(lx 4 0 [zaa 0,zaa 2,zaa 3,(13,.pk ⟨8,1,[]⟩ [0,0]),Uaa 14,Uaa 15] [(2,yab),(6,Uab),(8,yae)] 16),⟨14,1,qE,[(.normal,qS [zaa 0,zaa 2,zaa 3,Uaa 6] [(2,yab),(6,Uab),(8,Xad)])]⟩,⟨11,2,qS [zaa 0,zaa 2,zaa 3,Uaa 6] [(2,yab),(6,Uab),(8,Xad)],[(.exit 2,qS [zaa 0,zaa 2,zaa 3,Uaa 6,Xaa 32] [(2,yab),(6,Uab),(8,Xad)])]⟩,⟨17,3,qE,[(.normal,qS [zaa 0,zaa 2,zaa 3] [(2,yab),(6,Uab),(8,Xad)])]⟩,⟨29,4,qE,[(.normal,qS [zaa 0,zaa 2,zaa 3,Uaa 101,Uaa 102] [(2,yab),(6,Uab),(8,Zad)])]⟩,⟨26,5,qS [zaa 0,zaa 2,zaa 3,Uaa 101,Uaa 102] [(2,yab),(6,Uab),(8,Zad)],[(.exit 5,qS [zaa 0,zaa 2,zaa 3,Uaa 101,Uaa 102,Xaa 103] [(2,yab),(6,Uab),(8,Zad)])]⟩]⟩
def kz:Ctr:=⟨12,34,[.ptr ⟨2,0,[]⟩ [0]],[(2,yab)],[⟨Zad,[.agg 3],[(2,yab)]⟩],ap2 eu⟩
theorem pi:Lk 7 kz:=ls pD (aC sF (aC sE (aC fA (aC uj (aC zd (aC vq (aC gS aN)))))))
def fS:T0l->Option (T0l⊕((Bool×Unit)⊕(LI×LI×Int×Int×Bool×Unit))):=λ(v0,v1,v2,v3,_)=>
bif(decide (v3<v2))then((cH v3).bind λx0=>
(bV v1 x0).bind λx1=>
bif(decide (x1<1))then(some (.inr (.inl (false,()))))else
bif(decide (x1>32))then(some (.inr (.inl (false,()))))else
let x2:=w64 (v3+1);
some (.inl (v0,v1,v2,x2,())))else
some (.inr (.inr (v0,v1,v2,v3,false,())))
def cS(a0:List (Int)):Option (Bool×Unit):=
let x0:=bO a0.length;
(match bR fS NN (a0,a0,x0,0,())with
|none=>none
|some (.inl (x1,_))=>
some (x1,())
|some (.inr (x1,_))=>
let x6:=bO x1.length;
bif(decide (x6>=1))then(let x7:Int:=(bO x1.length);
some ((decide (x7<=4)),()))else
some (false,()))
def ra:X.Cfg:=⟨E0,[],[],[⟨3,0,qS [sP 0 RI,sP 5 RI,Uaa 6,Uaa 7] [],[(.ret,qS [Xaa 2] []),(.exit 0,qS [sP 0 RI,sP 5 RI,Uaa 6,Uaa 7,Xaa 8] [])]⟩]⟩
def lG:Ctr:=⟨45,35,uL [RI],[],[⟨uac,[.one],[]⟩],ap1 cS⟩
theorem qO:Lk 1 lG:=ls ra aN
def nO:T1c->Option (T1c⊕(LI×Int×Int×Int×Int×Int×Bool×T0n)):=λ(v0,v1,v2,v3,v4,v5,v6,v7,v8,v9,_)=>
bif(decide (v5<v4))then(let x0:Int:=(w64 (v5+v1));
bif(v2 != 0)then let x1:Int:=(Int.tmod x0 v2);
(cH x1).bind λx2=>
(bV v8 x2).bind λx3=>
(bV v8 x2).bind λx4=>
let x5:=List.modify v8 x2 λe=>v3;
(cH x1).bind λx6=>
(bV v0 x6).bind λx7=>
let x8:=w64 (x7+1);
let x9:=w64 (50*v2);
bif(x9 != 0)then let ac:Int:=(w64 (Int.tdiv v1 x9));
let ae:=Int.tmod ac 40;
let af:=w64 (x8+ae);
let ah:=w64 (v3+af);
let ai:=w64 (v5+1);
some (.inl (v0,v1,v2,ah,v4,ai,v6,v7,x5,v9,()))else none else none)else
some (.inr (v0,v1,v2,v3,v4,v5,false,v6,v7,v8,v9,()))
def rX(a0:List (Int))(a1:Int):Option (T0b):=
((cS a0).bind λ(x0,_)=>
bif(!x0)then(some (a0,a1,true,(),0,()))else
bif(decide (a1<0))then(some (a0,a1,true,(),0,()))else
some (a0,a1,(decide (a1>1073741824)),(),0,()):Option (LI×Int×Bool×Unit×Int×Unit)).bind λ(x0,x1,x2,x3,x4,_)=>
bif x2 then(some ([],0,1,()))else
let x5:=bO x0.length;
(cH x5).bind λx6=>
(cH x5).bind λx7=>
bif(ja x6 x7 1)then let x8:List (Int):=(List.replicate x6 0);
let x9:=w64 (40503*x1);
let ac:=wk .u16 x9;
bif(x5 != 0)then let ae:Int:=(w64 (Int.tdiv x1 x5));
let af:=Int.tmod ae 50;
let ah:=w64 (1+af);
(bR nO NN (x0,x1,x5,ah,x5,0,x3,x4,x8,ac,())).bind λ(ai,aj,ak,am,an,ap,aq,av,ax,ay,az,_)=>
some (ay,az,0,())else none else none
def qt(a0:List (Int))(a1:List (Int))(a2:Int):Option (T0k):=
(bK 1048576 a1 a2).bind λ(x0,x1)=>
(rX a0 x0).bind λ(x3,x4,x5,_)=>
some (x3,x4,x1)
def mN:Ctr:=⟨14,38,[.agg uab,shU I64,shU I64,shU I64],[],[⟨uab,[.agg 3],[]⟩],ap6 dG⟩
theorem sC:Lvl E0 TT libB 1 mN:=(CY (DR rfl) o4).mono (by decide)
def cw:T1p->Option (T1p⊕((Bool×Unit)⊕T1u)):=λ(v0,v1,v2,v3,v4,v5,v6,v7,v8,v9,v10,v11,_)=>
bif(decide (v1<v0))then((cH v1).bind λx0=>
(bV v11 x0).bind λx1=>
(bV v11 x0).bind λx2=>
(bif(decide (x2<0))then(some (v0,v1,true,v2,v3,v4,v5,v6,v7,v8,v9,v10,v11,()))else
bif(decide (x2>=8))then(some (v0,v1,true,v2,v3,v4,v5,v6,v7,v8,v9,v10,v11,()))else
(cH v1).bind λx3=>
bif(Nat.beq x3 0)then(bif(!v7)then(some (v0,v1,(x2 != 0),v2,v3,v4,v5,v6,v7,v8,v9,v10,v11,()))else
some (v0,v1,false,v2,v3,v4,v5,v6,v7,v8,v9,v10,v11,()))else
bif(Nat.beq x3 1)then(bif(!v8)then(some (v0,v1,(x2 != 0),v2,v3,v4,v5,v6,v7,v8,v9,v10,v11,()))else
some (v0,v1,false,v2,v3,v4,v5,v6,v7,v8,v9,v10,v11,()))else
bif(Nat.beq x3 2)then(bif(!v9)then(some (v0,v1,(x2 != 0),v2,v3,v4,v5,v6,v7,v8,v9,v10,v11,()))else
some (v0,v1,false,v2,v3,v4,v5,v6,v7,v8,v9,v10,v11,()))else
bif(Nat.beq x3 3)then bif(!v10)then(some (v0,v1,(x2 != 0),v2,v3,v4,v5,v6,v7,v8,v9,v10,v11,()))else
some (v0,v1,false,v2,v3,v4,v5,v6,v7,v8,v9,v10,v11,())else none:Option (T1u)).bind λ(x3,x4,x5,x6)=>
bif x5 then(some (.inr (.inl (false,()))))else
let ak:=w64 (x4+1);
some (.inl (x3,ak,x6)))else
some (.inr (.inr (v0,v1,false,v2,v3,v4,v5,v6,v7,v8,v9,v10,v11,())))
def cR(a0:Int)(a1:Int)(a2:Int)(a3:Int)(a4:Int):Option (Bool×Unit):=
bif(decide (a0<0))then(some (false,()))else
bif(decide (a0>24))then(some (false,()))else
(dX a0).bind λ(x0,x1,x2,x3,_)=>
let x4:List (Int):=[a1,a2,a3];
let x5:=bO x4.length;
(match bR cw NN (x5,0,a0,a1,a2,a3,a4,x0,x1,x2,x3,x4,())with
|none=>none
|some (.inl (x6,_))=>
some (x6,())
|some (.inr (x6,x7,x8,x9,ac,ae,af,ah,ai,aj,ak,am,an,_))=>
(bif(decide (ah<0))then(some (true,x9,ac,ae,af,ah,()))else
bif(decide (ah>65535))then(some (true,x9,ac,ae,af,ah,()))else
bif(!am)then(some ((ah != 0),x9,ac,ae,af,ah,()))else
some (false,x9,ac,ae,af,ah,()):Option (Bool×T0p)).bind λ(ap,aq,av,ax,ay,az,_)=>
bif ap then(some (false,()))else
(de aq).bind λ(aA,_)=>
bif aA then(some ((decide (az<64)),()))else
bif(aq==15)then(some ((decide (az<4)),()))else
bif(aq==23)then(some ((decide (az<=15)),()))else
some (true,()))
def q9:X.Cfg:=⟨E0,[jw,fQ],[],[⟨12,0,qE,[(.normal,qS [zaa 1,zaa 3,Zaa 23 49,Uaa 24,Uaa 25,Xaa 45] [(4,zab),(8,yac),(49,Zac)])]⟩,⟨7,1,qS [zaa 1,zaa 3,Zaa 23 49,Uaa 24,Uaa 25] [(4,zab),(8,yac),(49,Zac)],[(.ret,qS [Xaa 2] []),(.exit 0,qS [zaa 1,zaa 3,Zaa 23 49,Uaa 24,Uaa 25,Xaa 26] [(4,zab),(8,yac),(49,Zac)])]⟩,⟨15,2,qE,[(.normal,qS [zaa 1,Xaa 64] [(4,zab)])]⟩]⟩
def f9:Ctr:=⟨46,39,[.agg zab],[],[⟨uac,[.one],[]⟩],ap5 cR⟩
theorem iP:Lk 2 f9:=ls q9 (aC mD (aC gS aN))
def cu:T0C->Option (T0C⊕((Int×Unit)⊕T0P)):=λ(v0,v1,v2,v3,v4,v5,_)=>
bif(decide (v2<v1))then((cH v2).bind λx0=>
(bV v0 x0).bind λx1=>
let x2:=bO x1.length;
(cH v2).bind λx3=>
(bV v4 x3).bind λx4=>
bif(decide (x2>x4))then(some (.inr (.inl (1,()))))else
let x5:=w64 (v2+1);
some (.inl (v0,v1,x5,v3,v4,v5,())))else
some (.inr (.inr (v0,v1,v2,false,v3,v4,v5,())))
def cD:T0x->Option (T0x⊕((Int×Unit)⊕T0L)):=λ(v0,v1,v2,v3)=>
bif(decide (v2<v1))then((cH v2).bind λx0=>
(bV v0 x0).bind λx1=>
(cR x1.1 x1.2.1 x1.2.2.1 x1.2.2.2.1 x1.2.2.2.2).bind λ(x2,_)=>
bif(!x2)then(some (.inr (.inl (5,()))))else
let x3:=w64 (v2+1);
some (.inl (v0,v1,x3,v3)))else
some (.inr (.inr (v0,v1,v2,false,v3)))
def cC:T0x->Option (T0x⊕((Int×Unit)⊕T0L)):=λ(v0,v1,v2,v3,v4,v5,_)=>
bif(decide (v2<v1))then((cH v2).bind λx0=>
(bV v0 x0).bind λx1=>
((de x1.1).bind λ(x2,_)=>
bif x2 then(let x3:Int:=(bO v3.length);
bif(decide (x1.2.2.2.2>=x3))then(some (v0,v1,v2,true,v3,v4,v5,()))else
bif(x1.1==15)then(let x4:Int:=(bO v4.length);
some (v0,v1,v2,(decide (x1.2.2.2.2>=x4)),v3,v4,v5,()))else
some (v0,v1,v2,false,v3,v4,v5,()))else
bif(x1.1==15)then(let x3:Int:=(bO v4.length);
some (v0,v1,v2,(decide (x1.2.2.2.2>=x3)),v3,v4,v5,()))else
some (v0,v1,v2,false,v3,v4,v5,()):Option (T0L)).bind λ(x2,x3,x4,x5,x6)=>
bif x5 then(some (.inr (.inl (6,()))))else
let x9:=w64 (x4+1);
some (.inl (x2,x3,x9,x6)))else
some (.inr (.inr (v0,v1,v2,false,v3,v4,v5,())))
def cQ(a0:LDIn)(a1:List (Int))(a2:List LI):Option (Int×Unit):=
(cS a1).bind λ(x0,_)=>
bif(!x0)then(some (1,()))else
let x1:=bO a2.length;
let x2:=bO a1.length;
bif(x1 != x2)then(some (1,()))else
let x3:=bO a2.length;
(match bR cu NN (a2,x3,0,a0,a1,a2,())with
|none=>none
|some (.inl (x4,_))=>
some (x4,())
|some (.inr (x4,x5,x6,x7,x8,x9))=>
let ae:=bO x8.length;
bif(decide (ae<1))then(some (3,()))else
let af:=bO x8.length;
bif(decide (af>64))then(some (3,()))else
let ah:=bO x8.length;
(match bR cD NN (x8,ah,0,x8,x9)with
|none=>none
|some (.inl (ai,_))=>
some (ai,())
|some (.inr (ai,aj,ak,am,an,ap))=>
let av:=bO an.length;
(match bR cC NN (an,av,0,an,ap)with
|none=>none
|some (.inl (ax,_))=>
some (ax,())
|some (.inr (ax,_))=>
some (0,()))))
def q8:X.Cfg:=⟨E0,[lG,f9,fQ],[],[⟨6,0,qS [zaa 1,sP 23 (yaa RW),Uaa 24,Uaa 25] [(4,uab)],[(.ret,qS [Uaa 2] []),(.exit 0,qS [zaa 1,sP 23 (yaa RW),Uaa 24,Uaa 25,Xaa 26] [(4,uab)])]⟩,⟨18,1,qS [zaa 1,sP 50 dM,Uaa 51,Uaa 52] [(4,uab)],[(.ret,qS [Uaa 2] []),(.exit 2,qS [zaa 1,sP 50 dM,Uaa 51,Uaa 52,Xaa 53] [(4,uab)])]⟩,⟨32,2,qE,[(.normal,qS [zaa 1,sP 61 dM,Uaa 62,Uaa 63,Xaa 90] [(4,uab)])]⟩,⟨27,3,qS [zaa 1,sP 61 dM,Uaa 62,Uaa 63] [(4,uab)],[(.ret,qS [Uaa 2] []),(.exit 4,qS [zaa 1,sP 61 dM,Uaa 62,Uaa 63,Xaa 64] [(4,uab)])]⟩]⟩
def iT:Ctr:=⟨16,40,[.agg uab],[],[⟨Xab,[.one],[]⟩],ap3 cQ⟩
theorem lq:Lk 3 iT:=ls q8 (aC qO (aC iP (aC gS aN)))
def mX:T1m->Option (T1m⊕((Bool×Unit)⊕T1r)):=λ(v0,v1,v2,v3,v4,v5,v6,v7,v8,v9)=>
bif(decide (v8<v7))then((match((cH v8).bind λx0=>
(bV v6 x0).bind λx1=>
(cH v1).bind λx2=>
(bV v0 x2).bind λx3=>
let x4:=w64 (v2+x3);
bif(decide (x4>=x1))then((cH v8).bind λx5=>
(bV v0 x5).bind λx6=>
let x7:=w64 (x1+x6);
bif(decide (x7>=v2))then(some (.inl (false,())))else
some (.inr (v0,v1,v2,v3,v4,v5,v6,v7,v8,false,v9)))else
some (.inr (v0,v1,v2,v3,v4,v5,v6,v7,v8,false,v9)):Option ((Bool×Unit)⊕T1r))with
|none=>none
|some (.inl (x0,_))=>
some (.inr (.inl (x0,())))
|some (.inr (x0,x1,x2,x3,x4,x5,x6,x7,x8,x9,ac))=>
let af:=w64 (x8+1);
some (.inl (x0,x1,x2,x3,x4,x5,x6,x7,af,ac))))else
some (.inr (.inr (v0,v1,v2,v3,v4,v5,v6,v7,v8,false,v9)))
def mW:T0B->Option (T0B⊕((Bool×Unit)⊕(LI×T0A))):=λ(v0,v1,v2,v3,v4,v5,_)=>
bif(decide (v3<v2))then((cH v3).bind λx0=>
(bV v1 x0).bind λx1=>
bif(decide (x1<0))then(some (.inr (.inl (false,()))))else
(cH v3).bind λx2=>
(bV v0 x2).bind λx3=>
let x4:=w64 (512-x3);
bif(decide (x1>x4))then(some (.inr (.inl (false,()))))else
(cH v3).bind λx5=>
bif(eb 0 x5 v4.length)then let x6:List (Int):=(i4 v4 0 (Nat.sub x5 0));
let x7:=bO x6.length;
(match bR mX NN (v0,v3,x1,v1,v2,v3,x6,x7,0,v4,v5,())with
|none=>none
|some (.inl (x8,_))=>
some (.inr (.inl (x8,())))
|some (.inr (x8,x9,ac,ae,af,ah,ai,aj,ak,am,an))=>
let aq:=w64 (ah+1);
some (.inl (x8,ae,af,aq,an)))else none)else
some (.inr (.inr (v0,v1,v2,v3,false,v4,v5,())))
def kV(a0:List (Int))(a1:Int)(a2:List (Int)):Option (Bool×Unit):=
(cS a2).bind λ(x0,_)=>
bif(!x0)then(some (false,()))else
let x1:=bO a0.length;
let x2:=bO a2.length;
bif(x1 != x2)then(some (false,()))else
let x3:=bO a0.length;
(match bR mW NN (a2,a0,x3,0,a0,a1,())with
|none=>none
|some (.inl (x4,_))=>
some (x4,())
|some (.inr (x4,_))=>
some (true,()))
def mV:T08->Option (T08⊕(Int×Int×Bool×LDLn×Unit)):=λ(v0,v1,v2,_)=>
bif(decide (v1<v0))then((cH v1).bind λx0=>
(bV v2 x0).bind λx1=>
(bV v2 x0).bind λx2=>
let x3:=(List.modify v2 x0 λe=>((-1),e.2));
let x4:=w64 (v1+1);
some (.inl (v0,x4,x3,())))else
some (.inr (v0,v1,false,v2,()))
def qr:Option (LDLn×Unit):=
bif(ja 4 4 3)then let x0:LDLn:=(List.replicate 4 (0,(false,[])));
let x1:=bO x0.length;
(bR mV NN (x1,0,x0,())).bind λ(x2,x3,x4,x5,_)=>
some (x5,())else none
def nM:T1x->Option (T1x⊕(Int×LLI×Int×Int×LI×T1o)):=λ(v0,v1,v2,v3,v4,v5,v6,v7,v8,v9,v10,v11,v12,v13,v14,v15,_)=>
bif(decide (v6<v5))then((cH v6).bind λx0=>
(bV v4 x0).bind λx1=>
(cH v0).bind λx2=>
(bV v10 x2).bind λx3=>
let x4:=w64 (x3+v6);
(cH x4).bind λx5=>
(bV v14 x5).bind λx6=>
(bV v14 x5).bind λx7=>
let x8:=List.modify v14 x5 λe=>(e.1,x1);
let x9:=w64 (v6+1);
some (.inl (v0,v1,v2,v3,v4,v5,x9,v7,v8,v9,v10,v11,v12,v13,x8,v15,())))else
some (.inr (v0,v1,v2,v3,v4,v5,v6,false,v7,v8,v9,v10,v11,v12,v13,v14,v15,()))
def nL:T1t->Option (T1t⊕((Int×Unit×Unit×Unit)⊕T1v)):=λ(v0,v1,v2,v3,v4,v5)=>
bif(decide (v2<v1))then((cH v2).bind λx0=>
(bV v0 x0).bind λx1=>
let x2:=bO x1.length;
(cH v2).bind λx3=>
(bV v4 x3).bind λx4=>
bif(decide (x2>x4))then(some (.inr (.inl (1,(),(),()))))else
let x5:=bO x1.length;
(bR nM NN (v2,v0,v1,v2,x1,x5,0,v3,v4,v5)).bind λ(x6,x7,x8,x9,ac,ae,af,ah,ai)=>
let ay:=w64 (x9+1);
some (.inl (x7,x8,ay,ai)))else
some (.inr (.inr (v0,v1,v2,false,v3,v4,v5)))
def rV(a0:LDIn)(a1:List (Int))(a2:List LI)(a3:List (Int))(a4:Int):Option (LDCe×LDLn×Int×Unit):=
(kV a3 a4 a1).bind λ(x0,_)=>
bif(!x0)then(some ([],[],1,()))else
let x1:=bO a2.length;
let x2:=bO a1.length;
bif(x1 != x2)then(some ([],[],1,()))else
bif(ja 512 512 2)then let x3:LDCe:=(List.replicate 512 (0,0));
(qr).bind λ(x4,_)=>
let x5:=bO a2.length;
(match bR nL NN (a2,x5,0,a0,a1,a2,a3,a4,(),(),x3,x4,())with
|none=>none
|some (.inl (x6,x7,x8,_))=>
some ([],[],x6,())
|some (.inr (x6,x7,x8,x9,ac,ae,af,ah,ai,aj,ak,am,an,_))=>
some (am,an,0,()))else none
def mU:T1j->Option (T1j⊕T1n):=λ(v0,v1,v2,v3,v4,v5,v6,v7,v8,v9,v10,_)=>
bif(decide (v0<4))then(bif(ja 8 8 2)then let x0:LDCe:=(List.replicate 8 (0,0));
(bif(v0==0)then(some (v0,v1,v2,v3,v4,v5,v6,v7,v8,v9,v10,1,x0,0,0,(-1),(-1),0,0,()))else
some (v0,v1,v2,v3,v4,v5,v6,v7,v8,v9,v10,0,x0,0,0,(-1),(-1),0,0,()):Option (Int×Unit×Int×Unit×Unit×Unit×LI×Int×LDCe×LDLn×LDTh×T0R)).bind λ(x1,x2,x3,x4,x5,x6,x7,x8,x9,ac,ae,af,ah,ai,aj,ak,am,an,ap,_)=>
let aq:LDTh:=[(af,(ah,(ai,(aj,(ak,(am,(an,ap)))))))];
bif(cf 80 ae.length aq.length)then let av:LDTh:=(List.append ae aq);
let ax:=w64 (x1+1);
some (.inl (ax,x2,x3,x4,x5,x6,x7,x8,x9,ac,av,()))else none else none)else
some (.inr (v0,false,v1,v2,v3,v4,v5,v6,v7,v8,v9,v10,()))
def qq(a0:LDIn)(a1:List (Int))(a2:List LI)(a3:List (Int))(a4:Int):Option (LI×Int×LDCe×LDLn×LDTh×Int×Unit):=
(cQ a0 a1 a2).bind λ(x0,_)=>
bif(x0 != 0)then(some ([],0,[],[],[],x0,()))else
(kV a3 a4 a1).bind λ(x1,_)=>
bif(!x1)then(some ([],0,[],[],[],1,()))else
(rV a0 a1 a2 a3 a4).bind λ(x2,x3,x4,_)=>
bif(cf 8 0 a3.length)then let x5:List (Int):=(List.append [] a3);
(bR mU NN (0,(),0,(),(),(),x5,a4,x2,x3,[],())).bind λ(x6,x7,x8,x9,ac,ae,af,ah,ai,aj,ak,am,_)=>
some (ah,ai,aj,ak,am,0,())else none
def nN:Int×Int×T0k->Option ((Int×Int×T0k)⊕((Bool×Unit)⊕(Int×Int×Bool×T0k))):=λ(v0,v1,v2,v3,v4,v5,_)=>
bif(decide (v1<v0))then((cH v1).bind λx0=>
(bV v2 x0).bind λx1=>
(cH v1).bind λx2=>
(bV v4 x2).bind λx3=>
bif(x1 != x3)then(some (.inr (.inl (false,()))))else
let x4:=w64 (v1+1);
some (.inl (v0,x4,v2,v3,v4,v5,())))else
some (.inr (.inr (v0,v1,false,v2,v3,v4,v5,())))
def rW(a0:List (Int))(a1:Int)(a2:List (Int))(a3:Int):Option (Bool×Unit):=
bif(a1 != a3)then(some (false,()))else
let x0:=bO a0.length;
let x1:=bO a2.length;
bif(x0 != x1)then(some (false,()))else
let x2:=bO a0.length;
(match bR nN NN (x2,0,a0,a1,a2,a3,())with
|none=>none
|some (.inl (x3,_))=>
some (x3,())
|some (.inr (x3,_))=>
some (true,()))
def nP:LDCe×LDCe×T01->Option ((LDCe×LDCe×T01)⊕((Bool×Unit)⊕(LDCe×LDCe×Int×Int×Bool×Unit))):=λ(v0,v1,v2,v3,_)=>
bif(decide (v3<v2))then((cH v3).bind λx0=>
(bV v0 x0).bind λx1=>
(cH v3).bind λx2=>
(bV v1 x2).bind λx3=>
bif(!((x1.1==x3.1)&&((x1.2==x3.2)&&true)))then(some (.inr (.inl (false,()))))else
let x4:=w64 (v3+1);
some (.inl (v0,v1,v2,x4,())))else
some (.inr (.inr (v0,v1,v2,v3,false,())))
def je(a0:LDCe)(a1:LDCe):Option (Bool×Unit):=
let x0:=bO a0.length;
let x1:=bO a1.length;
bif(x0 != x1)then(some (false,()))else
let x2:=bO a0.length;
(match bR nP NN (a0,a1,x2,0,())with
|none=>none
|some (.inl (x3,_))=>
some (x3,())
|some (.inr (x3,_))=>
some (true,()))
def nK:Int×Int×T0h->Option ((Int×Int×T0h)⊕((Bool×Unit)⊕T0G)):=λ(v0,v1,v2,v3,v4,v5,_)=>
bif(decide (v1<v0))then((cH v1).bind λx0=>
(bV v3 x0).bind λx1=>
(cH v1).bind λx2=>
(bV v5 x2).bind λx3=>
(bif(x1.1 != x3.1)then(some (v0,v1,true,v2,v3,v4,v5,()))else
bif(!(x1.2.1==x3.2.1))then(some (v0,v1,true,v2,v3,v4,v5,()))else
(je x1.2.2 x3.2.2).bind λ(x4,_)=>
some (v0,v1,(!x4),v2,v3,v4,v5,()):Option (T0G)).bind λ(x4,x5,x6,x7)=>
bif x6 then(some (.inr (.inl (false,()))))else
let ae:=w64 (x5+1);
some (.inl (x4,ae,x7)))else
some (.inr (.inr (v0,v1,false,v2,v3,v4,v5,())))
def rU(a0:LDCe)(a1:LDLn)(a2:LDCe)(a3:LDLn):Option (Bool×Unit):=
(je a0 a2).bind λ(x0,_)=>
bif(!x0)then(some (false,()))else
let x1:=bO a1.length;
let x2:=bO a3.length;
bif(x1 != x2)then(some (false,()))else
let x3:=bO a1.length;
(match bR nK NN (x3,0,a0,a1,a2,a3,())with
|none=>none
|some (.inl (x4,_))=>
some (x4,())
|some (.inr (x4,_))=>
some (true,()))
def rT(a0:Int)(a1:LDCe)(a2:Int)(a3:Int)(a4:Int)(a5:Int)(a6:Int)(a7:Int)(a8:Int)(a9:LDCe)(a10:Int)(a11:Int)(a12:Int)(a13:Int)(a14:Int)(a15:Int):Option (Bool×Unit):=
bif(a0==a8)then(bif(a2==a10)then(bif(a3==a11)then(bif(a4==a12)then(bif(a5==a13)then(bif(a6==a14)then(bif(a7==a15)then((je a1 a9).bind λ(x0,_)=>
some (x0,()))else
some (false,()))else
some (false,()))else
some (false,()))else
some (false,()))else
some (false,()))else
some (false,()))else
some (false,())
def nJ:T1q->Option (T1q⊕((Bool×Unit)⊕(Int×Int×T1g))):=λ(v0,v1,v2,v3,v4,v5,v6,v7,v8,v9,v10,v11,_)=>
bif(decide (v1<v0))then((cH v1).bind λx0=>
(bV v6 x0).bind λx1=>
(cH v1).bind λx2=>
(bV v11 x2).bind λx3=>
(rT x1.1 x1.2.1 x1.2.2.1 x1.2.2.2.1 x1.2.2.2.2.1 x1.2.2.2.2.2.1 x1.2.2.2.2.2.2.1 x1.2.2.2.2.2.2.2 x3.1 x3.2.1 x3.2.2.1 x3.2.2.2.1 x3.2.2.2.2.1 x3.2.2.2.2.2.1 x3.2.2.2.2.2.2.1 x3.2.2.2.2.2.2.2).bind λ(x4,_)=>
bif(!x4)then(some (.inr (.inl (false,()))))else
let x5:=w64 (v1+1);
some (.inl (v0,x5,v2,v3,v4,v5,v6,v7,v8,v9,v10,v11,())))else
some (.inr (.inr (v0,v1,false,v2,v3,v4,v5,v6,v7,v8,v9,v10,v11,())))
def rS(a0:List (Int))(a1:Int)(a2:LDCe)(a3:LDLn)(a4:LDTh)(a5:List (Int))(a6:Int)(a7:LDCe)(a8:LDLn)(a9:LDTh):Option (Bool×Unit):=
((rW a0 a1 a5 a6).bind λ(x0,_)=>
bif(!x0)then(some (true,a0,a1,a2,a3,a4,a5,a6,a7,a8,a9,()))else
(rU a2 a3 a7 a8).bind λ(x1,_)=>
bif(!x1)then(some (true,a0,a1,a2,a3,a4,a5,a6,a7,a8,a9,()))else
let x2:=bO a4.length;
let x3:=bO a9.length;
some ((x2 != x3),a0,a1,a2,a3,a4,a5,a6,a7,a8,a9,()):Option (T1g)).bind λ(x0,x1,x2,x3,x4,x5,x6)=>
bif x0 then(some (false,()))else
let ae:=bO x5.length;
(match bR nJ NN (ae,0,x1,x2,x3,x4,x5,x6)with
|none=>none
|some (.inl (af,_))=>
some (af,())
|some (.inr (af,_))=>
some (true,()))
def ib:T1w->Option (T1w⊕((Bool×Unit)⊕(Int×Int×Int×Int×Bool×T1s))):=λ(v0,v1,v2,v3,v4,v5,v6,v7,v8,v9,v10,v11,v12,_)=>
bif(decide (v3<v2))then((cH v3).bind λx0=>
(bV v12 x0).bind λx1=>
(bV v12 x0).bind λx2=>
(gn v8 v9 v10 x2.1 x2.2).bind λ(x3,x4,x5,x6,x7,x8,_)=>
(qq v8 v9 v10 x2.1 x2.2).bind λ(x9,ac,ae,af,ah,ai,_)=>
bif(x8 != ai)then(some (.inr (.inl (false,()))))else
(rS x3 x4 x5 x6 x7 x9 ac ae af ah).bind λ(aj,_)=>
bif(!aj)then(some (.inr (.inl (false,()))))else
let ak:=w64 (v3+1);
some (.inl (v0,v1,v2,ak,v4,v5,v6,v7,v8,v9,v10,v11,v12,())))else
some (.inr (.inr (v0,v1,v2,v3,false,v4,v5,v6,v7,v8,v9,v10,v11,v12,())))
def ia:T10->Option (T10⊕(Int×Int×Bool×T0O)):=λ(v0,v1,v2,v3,v4,v5,v6,_)=>
bif(decide (v1<v0))then((cH v1).bind λx0=>
(bV v6 x0).bind λx1=>
(bV v6 x0).bind λx2=>
(cA x2.1 x2.2.1 x2.2.2).bind λ(x3,_)=>
(cQ x2.1 x2.2.1 x2.2.2).bind λ(x4,_)=>
bif(x3 != x4)then(none)else
let x5:List (LI×Int):=[(v4,v5),(v2,v3)];
let x6:=bO x5.length;
(match bR ib NN (v0,v1,x6,0,v2,v3,v4,v5,x2.1,x2.2.1,x2.2.2,v6,x5,())with
|none=>none
|some (.inl (x7,_))=>
none
|some (.inr (x7,x8,x9,ac,ae,af,ah,ai,aj,ak,am,an,ap,aq,_))=>
let av:=w64 (x8+1);
some (.inl (x7,av,af,ah,ai,aj,ap,()))))else
some (.inr (v0,v1,false,v2,v3,v4,v5,v6,()))
def rY(a0:LDIn)(a1:List (Int))(a2:List LI)(a3:List (Int))(a4:Int)(a5:List (Int))(a6:Int)(a7:Int)(a8:Int):Option (Bool×Unit):=
(hZ a0 a1 a2).bind λ(x0,_)=>
bif(!x0)then((df).bind λ(x1,_)=>
some (x1,()))else
let x1:=bO a3.length;
bif(decide (x1>30))then((df).bind λ(x2,_)=>
some (x2,()))else
(eu a5 0).bind λ(x2,x3,x4,x5,x6,_)=>
(qt x3 x5 x6).bind λ(x7,x8,_)=>
(dG x2 x3 x4 a6 a7 a8).bind λ(ae,af,ah,_)=>
let ai:List (LDIn×LI×List LI):=[(a0,(a1,a2)),(x2,(x3,x4)),(ae,(af,ah))];
let aj:=bO ai.length;
(bR ia NN (aj,0,a3,a4,x7,x8,ai,())).bind λ(_)=>
(df).bind λ(az,_)=>
some (az,())
def mY:T0j->Option (T0j⊕(LI×Int×T07)):=λ(v0,v1,v2,v3,_)=>
bif(decide (v2<v1))then((cH v2).bind λx0=>
(bV v0 x0).bind λx1=>
let x2:Int:=(shR .shr .u16 x1 8);
let x3:=wk .u8 x2;
let x4:=wk .u8 x1;
let x5:List (Int):=[x3,x4];
bif(cf 1 v3.length x5.length)then let x6:List (Int):=(List.append v3 x5);
let x7:=w64 (v2+1);
some (.inl (v0,v1,x7,x6,()))else none)else
some (.inr (v0,v1,v2,false,v3,()))
def kW(a0:List (Int)):Option (LI×Unit):=
let x0:=bO a0.length;
(bR mY NN (a0,x0,0,[],())).bind λ(x1,x2,x3,x4,x5,_)=>
some (x5,())
def rd:X.Cfg:=⟨E0,[],[],[(lx 4 0 [Zaa 3 9,sP 6 RW,Uaa 7,Uaa 8] [(9,zac)] 9)]⟩
def lI:Ctr:=⟨64,51,uL [RW],[],[⟨zac,[.one],[]⟩],ap1 kW⟩
theorem qQ:Lk 1 lI:=ls rd aN
def fE(a0:Int)(a1:Int)(a2:Int)(a3:Int)(a4:Int):Option (T05):=
(cR a0 a1 a2 a3 a4).bind λ(x0,_)=>
bif(!x0)then(some ([],1,()))else
let x1:=wk .u8 a0;
let x2:=wk .u8 a1;
let x3:=wk .u8 a2;
let x4:=wk .u8 a3;
let x5:Int:=(shR .shr .i64 a4 8);
let x6:=wk .u8 x5;
let x7:=wk .u8 a4;
let x8:List (Int):=[x1,x2,x3,x4,x6,x7];
some (x8,0,())
def pq:X.Cfg:=⟨E0,[f9],[],[]⟩
def ki:Ctr:=⟨65,52,[.agg zab],[],[⟨yad,[.one,.one],[]⟩],ap5 fE⟩
theorem o8:Lk 3 ki:=ls pq (aC iP aN)
def hY:T0N->Option (T0N⊕T0U):=λ(v0,v1,v2,v3,v4,v5,v6,_)=>
bif(decide (v2<v1))then((cH v2).bind λx0=>
(bV v0 x0).bind λx1=>
let x2:=wk .u8 x1;
(cH v2).bind λx3=>
(bV v5 x3).bind λx4=>
let x5:=bO x4.length;
let x6:=wk .u8 x5;
let x7:List (Int):=[x2,x6];
bif(cf 1 v6.length x7.length)then let x8:List (Int):=(List.append v6 x7);
(cH v2).bind λx9=>
(bV v5 x9).bind λac=>
(kW ac).bind λ(ae,_)=>
bif(cf 1 x8.length ae.length)then let af:List (Int):=(List.append x8 ae);
let ah:=w64 (v2+1);
some (.inl (v0,v1,ah,v3,v4,v5,af,()))else none else none)else
some (.inr (v0,v1,v2,false,v3,v4,v5,v6,()))
def fq:T0M->Option (T0M⊕T0T):=λ(v0,v1,v2,v3,v4,v5,v6,_)=>
bif(decide (v2<v1))then((cH v2).bind λx0=>
(bV v0 x0).bind λx1=>
(fE x1.1 x1.2.1 x1.2.2.1 x1.2.2.2.1 x1.2.2.2.2).bind λ(x2,x3,_)=>
bif(cf 1 v6.length x2.length)then let x4:List (Int):=(List.append v6 x2);
let x5:=w64 (v2+1);
some (.inl (v0,v1,x5,v3,v4,v5,x4,()))else none)else
some (.inr (v0,v1,v2,false,v3,v4,v5,v6,()))
def eo(a0:LDIn)(a1:List (Int))(a2:List LI):Option (T05):=
(cQ a0 a1 a2).bind λ(x0,_)=>
bif(x0 != 0)then(some ([],x0,()))else
let x1:=bO a1.length;
let x2:=wk .u8 x1;
let x3:=bO a1.length;
(bR hY NN (a1,x3,0,a0,a1,a2,[x2],())).bind λ(x4,x5,x6,x7,x8,x9,ac,ae,_)=>
let af:=bO x8.length;
let ah:=wk .u8 af;
bif(cf 1 ae.length (List.length [ah]))then let ai:List (Int):=(List.append ae [ah]);
let aj:=bO x8.length;
(bR fq NN (x8,aj,0,x8,x9,ac,ai,())).bind λ(ak,am,an,ap,aq,av,ax,ay,_)=>
some (ay,0,())else none
def pn:X.Cfg:=⟨E0,[iT,lI,ki],[],[(lx 8 0 [zaa 1,Zaa 5 13,sP 23 RI,Uaa 24,Uaa 25] [(4,uab),(13,zac)] 26),⟨17,1,qS [Zaa 5 13,sP 59 dM,Uaa 60,Uaa 61] [(4,uab),(13,zac)],[(.exit 2,qS [Zaa 5 13,sP 59 dM,Uaa 60,Uaa 61,Xaa 62] [(4,uab),(13,zac)])]⟩]⟩
def kf:Ctr:=⟨28,53,[.agg uab],[],[⟨yad,[.one,.one],[]⟩],ap3 eo⟩
theorem o6:Lk 4 kf:=ls pn (aC lq (aC qQ (aC o8 aN)))
def bM(a0:Int)(a1:List (Int))(a2:Bool):Option (LI×T04):=
bif a2 then((cH a0).bind λx0=>
(cH a0).bind λx1=>
bif(ja x0 x1 1)then let x2:List (Int):=(List.replicate x0 0);
some (x2,a1,true,())else none)else
let x0:=bO a1.length;
bif(decide (a0>x0))then((cH a0).bind λx1=>
(cH a0).bind λx2=>
bif(ja x1 x2 1)then let x3:List (Int):=(List.replicate x1 0);
some (x3,a1,true,())else none)else
(cH a0).bind λx1=>
bif(eb 0 x1 a1.length)then let x2:List (Int):=(i4 a1 0 (Nat.sub x1 0));
(cH a0).bind λx3=>
bif(eb x3 a1.length a1.length)then let x4:List (Int):=(i4 a1 x3 (Nat.sub a1.length x3));
some (x2,x4,a2,())else none else none
def iy:X.Cfg:=⟨E0,[],[],[]⟩
def dF:Ctr:=⟨68,54,[.ptr ⟨2,0,[]⟩ [0],shU I64],[(2,Uac)],[⟨Xac,[.one],[(2,Uac)]⟩],ap3 bM⟩
theorem eH:Lk 1 dF:=ls iy aN
def bP(a0:List (Int))(a1:Bool):Option (Int×T04):=
(bM 1 a0 a1).bind λ(x0,x1)=>
(bV x0 0).bind λx3=>
let x4:=wk .i64 x3;
some (x4,x1)
def gE:X.Cfg:=⟨E0,[dF],[],[]⟩
def d6:Ctr:=⟨66,55,[.ptr ⟨2,0,[]⟩ [0]],[(2,Uac)],[⟨Xab,[.one],[(2,Uac)]⟩],ap2 bP⟩
theorem gB:Lk 2 d6:=ls gE (aC eH aN)
def gl:T0c->Option (T0c⊕(LI×T07)):=λ(v0,v1,v2,_)=>
let x0:=bO v0.length;
bif(decide (v1<x0))then((cH v1).bind λx1=>
(bV v0 x1).bind λx2=>
let x3:=wk .u16 x2;
let x4:Int:=(shR .shl .u16 x3 8);
let x5:=w64 (v1+1);
(cH x5).bind λx6=>
(bV v0 x6).bind λx7=>
let x8:=wk .u16 x7;
let x9:Int:=(arR .or .u16 x4 x8);
bif(cf 2 v2.length (List.length [x9]))then let ac:List (Int):=(List.append v2 [x9]);
let ae:=w64 (v1+2);
some (.inl (v0,ae,ac,()))else none)else
some (.inr (v0,v1,false,v2,()))
def fM(a0:List (Int)):Option (T05):=
let x0:=bO a0.length;
let x1:=Int.tmod x0 2;
bif(x1 != 0)then(some ([],5,()))else
(bR gl NN (a0,0,[],())).bind λ(x2,x3,x4,x5,_)=>
some (x5,0,())
def sI:X.Cfg:=⟨E0,[],[],[(lx 7 0 [sP 0 (yaa CB),Zaa 4 11,Uaa 5] [(11,Uad)] 13)]⟩
def mK:Ctr:=⟨67,56,Xac,[],[⟨uL [(uaa CW),I64],[.one,.one],[]⟩],ap1 fM⟩
theorem sy:Lk 1 mK:=ls sI aN
def dO(a0:List (Int)):Option (T0u):=
let x0:=bO a0.length;
bif(decide (x0<6))then(some (0,0,0,0,0,4,()))else
(bV a0 0).bind λx1=>
let x2:=wk .i64 x1;
(bV a0 1).bind λx3=>
let x4:=wk .i64 x3;
(bV a0 2).bind λx5=>
let x6:=wk .i64 x5;
(bV a0 3).bind λx7=>
let x8:=wk .i64 x7;
(bV a0 4).bind λx9=>
let ac:=wk .i64 x9;
let ae:Int:=(shR .shl .i64 ac 8);
(bV a0 5).bind λaf=>
let ah:=wk .i64 af;
let ai:Int:=(arR .or .i64 ae ah);
let aj:=bO a0.length;
bif(decide (aj>6))then(some (0,0,0,0,0,5,()))else
(cV x2 x4 x6 x8 ai).bind λ(ak,_)=>
bif(!ak)then(some (0,0,0,0,0,5,()))else
some (x2,x4,x6,x8,ai,0,())
def pB:X.Cfg:=⟨E0,[ga],[],[]⟩
def kx:Ctr:=⟨69,57,Xac,[],[⟨zae,[.agg 5,.one],[]⟩],ap1 dO⟩
theorem pf:Lk 4 kx:=ls pB (aC iQ aN)
def bU:T12->Option (T12⊕(Int×Bool×T0Y)):=λ(v0,v1,v2,v3,v4,v5,v6,v7,v8,_)=>
bif(decide (v0>0))then((bP v7 v8).bind λ(x0,x1,x2,_)=>
bif(cf 8 v5.length (List.length [x0]))then let x3:List (Int):=(List.append v5 [x0]);
(bP x1 x2).bind λ(x4,x5,x6,_)=>
let x7:=w64 (2*x4);
(bM x7 x5 x6).bind λ(x8,x9)=>
(fM x8).bind λ(ae,af,_)=>
bif(cf 24 v6.length (List.length [ae]))then let ah:List LI:=(List.append v6 [ae]);
let ai:=w64 (v0-1);
some (.inl (ai,v1,v2,v3,v4,x3,ah,x9))else none else none)else
some (.inr (v0,false,v1,v2,v3,v4,v5,v6,v7,v8,()))
def bT:T16->Option (T16⊕(Bool×Int×Bool×T0X)):=λ(v0,v1,v2,v3,v4,v5,v6,v7,v8,v9,_)=>
bif(decide (v1>0))then((bM 6 v8 v9).bind λ(x0,x1)=>
(dO x0).bind λ(x3,x4,x5,x6,x7,x8,_)=>
bif v0 then(let x9:LDIn:=[(x3,(x4,(x5,(x6,x7))))];
bif(cf 40 v5.length x9.length)then let ac:LDIn:=(List.append v5 x9);
let ae:=w64 (v1-1);
some (.inl (true,ae,v2,v3,v4,ac,v6,v7,x1))else none)else
let x9:LDIn:=[(x3,(x4,(x5,(x6,x7))))];
bif(cf 40 v5.length x9.length)then let ac:LDIn:=(List.append v5 x9);
let ae:=w64 (v1-1);
some (.inl ((x8 != 0),ae,v2,v3,v4,ac,v6,v7,x1))else none)else
some (.inr (v0,v1,false,v2,v3,v4,v5,v6,v7,v8,v9,()))
def c9(a0:List (Int)):Option (LDIn×LI×LLI×Int×Unit):=
(bP a0 false).bind λ(x0,x1)=>
(bR bU NN (x0,(),(),(),(),[],[],x1)).bind λ(x3,x4,x5,x6,x7,x8,x9,ac,ae,af,_)=>
(bP ae af).bind λ(ah,ai)=>
(bR bT NN (false,ah,x5,x6,x7,[],x9,ac,ai)).bind λ(ak,am,an,ap,aq,av,ax,ay,az,aA,aB,_)=>
bif aB then(some ([],[],[],4,()))else
bif ak then(some ([],[],[],5,()))else
let aD:=bO aA.length;
bif(decide (aD>0))then(some ([],[],[],5,()))else
(cA ax ay az).bind λ(aE,_)=>
bif(aE != 0)then(some ([],[],[],aE,()))else
some (ax,ay,az,0,())
def nb:X.Cfg:=⟨E0,[d6,dF,mK,kx,eY],[(42,(uaa CW)),(43,(uaa CW))],[(lx 5 0 [zaa 2,pP 4 34,zaa 5,Uaa 6] [(6,Uab),(12,yae),(34,Uac)] 20),⟨14,1,qS [zaa 2,pP 4 34,zaa 5,Xaa 9,Uaa 10] [(6,Uab),(12,Uae),(34,Uac)],[(.exit 2,qS [zaa 2,pP 4 34,zaa 5,Xaa 9,Uaa 10,Xaa 48] [(6,Uab),(12,Uae),(34,Uac)])]⟩]⟩
def i9:Ctr:=⟨29,58,Xac,[],[⟨uL [(uaa KIn),(uaa I64),(uaa (uaa CW)),I64],[.agg 3,.one],[]⟩],ap1 c9⟩
theorem m9:Lk 6 i9:=ls nb (aC gB (aC eH (aC sy (aC pf (aC gu aN)))))
def i5:T0c->Option (T0c⊕(LI×T07)):=λ(v0,v1,v2,_)=>
let x0:=bO v0.length;
bif(decide (v1<x0))then((cH v1).bind λx1=>
(bV v0 x1).bind λx2=>
let x3:=wk .u16 x2;
let x4:Int:=(shR .shl .u16 x3 8);
let x5:=w64 (v1+1);
(cH x5).bind λx6=>
(bV v0 x6).bind λx7=>
let x8:=wk .u16 x7;
let x9:Int:=(arR .or .u16 x4 x8);
bif(cf 2 v2.length (List.length [x9]))then let ac:List (Int):=(List.append v2 [x9]);
let ae:=w64 (v1+2);
some (.inl (v0,ae,ac,()))else none)else
some (.inr (v0,v1,false,v2,()))
def fY(a0:List (Int)):Option (T05):=
let x0:=bO a0.length;
let x1:=Int.tmod x0 2;
bif(x1==1)then(some ([],5,()))else
(bR i5 NN (a0,0,[],())).bind λ(x2,x3,x4,x5,_)=>
some (x5,0,())
def rb:X.Cfg:=⟨E0,[],[],[(lx 7 0 [sP 0 (yaa CB),Zaa 4 11,Uaa 5] [(11,Uad)] 13)]⟩
def lH:Ctr:=⟨70,59,Xac,[],[⟨uL [(uaa CW),I64],[.one,.one],[]⟩],ap1 fY⟩
theorem qP:Lk 1 lH:=ls rb aN
def fF(a0:List (Int)):Option (T0u):=
let x0:=bO a0.length;
bif(decide (x0<6))then(some (0,0,0,0,0,4,()))else
(bV a0 0).bind λx1=>
let x2:=wk .i64 x1;
(bV a0 1).bind λx3=>
let x4:=wk .i64 x3;
(bV a0 2).bind λx5=>
let x6:=wk .i64 x5;
(bV a0 3).bind λx7=>
let x8:=wk .i64 x7;
(bV a0 4).bind λx9=>
let ac:=wk .i64 x9;
let ae:Int:=(shR .shl .i64 ac 8);
(bV a0 5).bind λaf=>
let ah:=wk .i64 af;
let ai:Int:=(arR .or .i64 ae ah);
let aj:=bO a0.length;
bif(decide (aj>6))then(some (0,0,0,0,0,5,()))else
(cR x2 x4 x6 x8 ai).bind λ(ak,_)=>
bif(!ak)then(some (0,0,0,0,0,5,()))else
some (x2,x4,x6,x8,ai,0,())
def pu:X.Cfg:=⟨E0,[f9],[],[]⟩
def kj:Ctr:=⟨71,60,Xac,[],[⟨zae,[.agg 5,.one],[]⟩],ap1 fF⟩
theorem o9:Lk 3 kj:=ls pu (aC iP aN)
def ca:T15->Option (T15⊕((Int×Unit×Unit×Unit×Unit)⊕(LI×Int×Int×Bool×T0E))):=λ(v0,v1,v2,v3,v4,v5,v6,v7,v8,_)=>
bif(decide (v2<v1))then(let x0:Int:=(bO v0.length);
bif(decide (x0<2))then(some (.inr (.inl (4,(),(),(),()))))else
let x1:=bO v0.length;
(bV v0 1).bind λx2=>
let x3:=wk .i64 x2;
let x4:=w64 (2*x3);
let x5:=w64 (2+x4);
bif(decide (x1<x5))then(some (.inr (.inl (4,(),(),(),()))))else
(bV v0 1).bind λx6=>
let x7:=wk .i64 x6;
let x8:=w64 (2*x7);
let x9:=w64 (2+x8);
(cH x9).bind λac=>
bif(eb 2 ac v0.length)then let ae:List (Int):=(i4 v0 2 (Nat.sub ac 2));
(fY ae).bind λ(af,ah,_)=>
(bV v0 0).bind λai=>
let aj:=wk .i64 ai;
bif(cf 8 v7.length (List.length [aj]))then let ak:List (Int):=(List.append v7 [aj]);
bif(cf 24 v8.length (List.length [af]))then let am:List LI:=(List.append v8 [af]);
let an:=w64 (2+x8);
(cH an).bind λap=>
bif(eb ap v0.length v0.length)then let aq:List (Int):=(i4 v0 ap (Nat.sub v0.length ap));
let av:=w64 (v2+1);
some (.inl (aq,v1,av,v3,v4,v5,v6,ak,am,()))else none else none else none else none)else
some (.inr (.inr (v0,v1,v2,false,v3,v4,v5,v6,v7,v8,())))
def dy:T1b->Option (T1b⊕(LI×Bool×Int×Int×Bool×T0D)):=λ(v0,v1,v2,v3,v4,v5,v6,v7,v8)=>
bif(decide (v3<v2))then(let x0:Int:=(w64 (6*v3));
let x1:=w64 (6*v3);
let x2:=w64 (x1+6);
(cH x0).bind λx3=>
(cH x2).bind λx4=>
bif(eb x3 x4 v0.length)then let x5:List (Int):=(i4 v0 x3 (Nat.sub x4 x3));
(fF x5).bind λ(x6,x7,x8,x9,ac,ae,_)=>
bif v1 then(let af:LDIn:=[(x6,(x7,(x8,(x9,ac))))];
bif(cf 40 v7.length af.length)then let ah:LDIn:=(List.append v7 af);
let ai:=w64 (v3+1);
some (.inl (v0,true,v2,ai,v4,v5,v6,ah,v8))else none)else
let af:LDIn:=[(x6,(x7,(x8,(x9,ac))))];
bif(cf 40 v7.length af.length)then let ah:LDIn:=(List.append v7 af);
let ai:=w64 (v3+1);
some (.inl (v0,(ae != 0),v2,ai,v4,v5,v6,ah,v8))else none else none)else
some (.inr (v0,v1,v2,v3,false,v4,v5,v6,v7,v8))
def eq(a0:List (Int)):Option (LDIn×LI×LLI×Int×Unit):=
let x0:=bO a0.length;
bif(decide (x0<1))then(some ([],[],[],4,()))else
(bV a0 0).bind λx1=>
let x2:=wk .i64 x1;
bif(eb 1 a0.length a0.length)then let x3:List (Int):=(i4 a0 1 (Nat.sub a0.length 1));
(match bR ca NN (x3,x2,0,(),(),(),(),[],[],())with
|none=>none
|some (.inl (x4,x5,x6,x7,_))=>
some ([],[],[],x4,())
|some (.inr (x4,x5,x6,x7,x8,x9,ac,ae,af))=>
let ai:=bO x4.length;
bif(decide (ai<1))then(some ([],[],[],4,()))else
let aj:=bO x4.length;
(bV x4 0).bind λak=>
let am:=wk .i64 ak;
let an:=w64 (6*am);
let ap:=w64 (1+an);
bif(decide (aj<ap))then(some ([],[],[],4,()))else
(bV x4 0).bind λaq=>
let av:=wk .i64 aq;
bif(eb 1 x4.length x4.length)then let ax:List (Int):=(i4 x4 1 (Nat.sub x4.length 1));
let ay:=bO ax.length;
let az:=w64 (6*av);
(bR dy NN (ax,(decide (ay>az)),av,0,x8,x9,ac,[],af)).bind λ(aA,aB,aD,aE,aF,aG,aH,aI,aJ,aK,aL,_)=>
bif aB then(some ([],[],[],5,()))else
(cQ aJ aK aL).bind λ(aM,_)=>
bif(aM != 0)then(some ([],[],[],aM,()))else
some (aJ,aK,aL,0,())else none)else none
def po:X.Cfg:=⟨E0,[lH,kj,iT],[(67,(uaa CW)),(68,(uaa CW))],[⟨9,0,qS [sP 0 (yaa CB),zaa 2,zaa 5,Uaa 25,Uaa 26] [(6,Uab),(12,Xae)],[(.ret,qS [zaa 2,Uaa 3] [(6,Uab)]),(.exit 0,qS [sP 0 (yaa CB),zaa 2,zaa 5,Uaa 25,Uaa 26,Xaa 27] [(6,Uab),(12,Xae)])]⟩,⟨27,1,qS [sP 0 (yaa CB),zaa 2,zaa 5,Xaa 10,Uaa 102,Uaa 103] [(6,Uab),(12,Zae)],[(.exit 2,qS [sP 0 (yaa CB),zaa 2,zaa 5,Xaa 10,Uaa 102,Uaa 103,Xaa 104] [(6,Uab),(12,Zae)])]⟩]⟩
def kg:Ctr:=⟨30,61,Xac,[],[⟨uL [(uaa KIn),(uaa I64),(uaa RW),I64],[.agg 3,.one],[]⟩],ap1 eq⟩
theorem o7:Lk 4 kg:=ls po (aC qP (aC o9 (aC lq aN)))
def eO:T0Q->Option (T0Q⊕((Bool×Unit)⊕T0Z)):=λ(v0,v1,v2,v3,v4,v5,v6)=>
bif(decide (v1<v0))then((cH v1).bind λx0=>
(bV v2 x0).bind λx1=>
(cH v1).bind λx2=>
(bV v5 x2).bind λx3=>
let x4:Bool:=(!((x1.1==x3.1)&&((x1.2.1==x3.2.1)&&((x1.2.2.1==x3.2.2.1)&&((x1.2.2.2.1==x3.2.2.2.1)&&((x1.2.2.2.2==x3.2.2.2.2)&&true))))));
bif x4 then(some (.inr (.inl (false,()))))else
let x5:=w64 (v1+1);
some (.inl (v0,x5,v2,v3,v4,v5,v6)))else
some (.inr (.inr (v0,v1,false,v2,v3,v4,v5,v6)))
def eN:T0Q->Option (T0Q⊕((Bool×Unit)⊕T0Z)):=λ(v0,v1,v2,v3,v4,v5,v6,v7,_)=>
bif(decide (v1<v0))then((cH v1).bind λx0=>
(bV v3 x0).bind λx1=>
(cH v1).bind λx2=>
(bV v6 x2).bind λx3=>
bif(x1 != x3)then(some (.inr (.inl (false,()))))else
let x4:=w64 (v1+1);
some (.inl (v0,x4,v2,v3,v4,v5,v6,v7,())))else
some (.inr (.inr (v0,v1,false,v2,v3,v4,v5,v6,v7,())))
def eM:T1h->Option (T1h⊕((Bool×Unit)⊕(Int×Int×Int×T0Z))):=λ(v0,v1,v2,v3,v4,v5,v6,v7,v8,v9,v10,_)=>
bif(decide (v4<v3))then((cH v0).bind λx0=>
(bV v7 x0).bind λx1=>
(cH v4).bind λx2=>
(bV x1 x2).bind λx3=>
(cH v0).bind λx4=>
(bV v10 x4).bind λx5=>
(cH v4).bind λx6=>
(bV x5 x6).bind λx7=>
bif(x3 != x7)then(some (.inr (.inl (false,()))))else
let x8:=w64 (v4+1);
some (.inl (v0,v1,v2,v3,x8,v5,v6,v7,v8,v9,v10,())))else
some (.inr (.inr (v0,v1,v2,v3,v4,false,v5,v6,v7,v8,v9,v10,())))
def eL:T0Q->Option (T0Q⊕((Bool×Unit)⊕T0Z)):=λ(v0,v1,v2,v3,v4,v5,v6,v7,_)=>
bif(decide (v1<v0))then((cH v1).bind λx0=>
(bV v4 x0).bind λx1=>
let x2:=bO x1.length;
(cH v1).bind λx3=>
(bV v7 x3).bind λx4=>
let x5:=bO x4.length;
bif(x2 != x5)then(some (.inr (.inl (false,()))))else
(cH v1).bind λx6=>
(bV v4 x6).bind λx7=>
let x8:=bO x7.length;
(match bR eM NN (v1,v0,v1,x8,0,v2,v3,v4,v5,v6,v7,())with
|none=>none
|some (.inl (x9,_))=>
some (.inr (.inl (x9,())))
|some (.inr (x9,ac,ae,af,ah,ai,aj))=>
let av:=w64 (ae+1);
some (.inl (ac,av,aj))))else
some (.inr (.inr (v0,v1,false,v2,v3,v4,v5,v6,v7,())))
def gJ(a0:LDIn)(a1:List (Int))(a2:List LI)(a3:LDIn)(a4:List (Int))(a5:List LI):Option (Bool×Unit):=
(let x0:=bO a0.length;
let x1:=bO a3.length;
bif(x0 != x1)then(some (true,a0,a1,a2,a3,a4,a5,()))else
let x2:=bO a1.length;
let x3:=bO a4.length;
bif(x2 != x3)then(some (true,a0,a1,a2,a3,a4,a5,()))else
let x4:=bO a2.length;
let x5:=bO a5.length;
some ((x4 != x5),a0,a1,a2,a3,a4,a5,()):Option (T0F)).bind λ(x0,x1,x2,x3,x4,x5,x6,_)=>
bif x0 then(some (false,()))else
let x7:=bO x1.length;
(match bR eO NN (x7,0,x1,x2,x3,x4,x5,x6,())with
|none=>none
|some (.inl (x8,_))=>
some (x8,())
|some (.inr (x8,x9,ac,ae,af,ah))=>
let am:=bO af.length;
(match bR eN NN (am,0,ae,af,ah)with
|none=>none
|some (.inl (an,_))=>
some (an,())
|some (.inr (an,ap,aq,av,ax,ay,az))=>
let aD:=bO ay.length;
(match bR eL NN (aD,0,av,ax,ay,az)with
|none=>none
|some (.inl (aE,_))=>
some (aE,())
|some (.inr (aE,_))=>
some (true,()))))
def sK:X.Cfg:=⟨E0,[],[],[⟨2,0,qE,[(.normal,qS [zaa 2,zaa 3,Xaa 33] [(6,uab),(8,uab)])]⟩,⟨6,1,qS [zaa 2,zaa 3,Uaa 36,Uaa 37] [(6,uab),(8,uab)],[(.ret,qS [Xaa 4] []),(.exit 0,qS [zaa 2,zaa 3,Uaa 36,Uaa 37,Xaa 38] [(6,uab),(8,uab)])]⟩,⟨15,2,qS [zaa 2,zaa 3,Uaa 54,Uaa 55] [(6,uab),(8,uab)],[(.ret,qS [Xaa 4] []),(.exit 2,qS [zaa 2,zaa 3,Uaa 54,Uaa 55,Xaa 56] [(6,uab),(8,uab)])]⟩,⟨33,3,qS [zaa 2,zaa 3,Uaa 7,Uaa 72,Uaa 73,Uaa 94,Uaa 95] [(6,uab),(8,uab)],[(.ret,qS [Xaa 4] []),(.exit 6,qS [zaa 2,zaa 3,Uaa 7,Uaa 72,Uaa 73,Uaa 94,Uaa 95,Xaa 96] [(6,uab),(8,uab)])]⟩,⟨24,4,qS [zaa 2,zaa 3,Uaa 72,Uaa 73] [(6,uab),(8,uab)],[(.ret,qS [Xaa 4] []),(.exit 4,qS [zaa 2,zaa 3,Uaa 72,Uaa 73,Xaa 74] [(6,uab),(8,uab)])]⟩]⟩
def mM:Ctr:=⟨31,62,[.agg uab,.agg uab],[],[⟨uac,[.one],[]⟩],ap6 gJ⟩
theorem sB:Lk 1 mM:=ls sK aN
def cU:T1k->Option (T1k⊕((Bool×Unit)⊕(LI×Int×Int×Int×Int×Bool×T0y))):=λ(v0,v1,v2,v3,v4,v5,v6,v7,v8,_)=>
bif(decide (v4<v3))then((cH v4).bind λx0=>
(bV v8 x0).bind λx1=>
(bV v8 x0).bind λx2=>
(cE x2.1 x2.2.1 x2.2.2).bind λ(x3,x4,_)=>
(eo x2.1 x2.2.1 x2.2.2).bind λ(x5,x6,_)=>
let x7:ByteArray:=(pK x3);
let x8:ByteArray:=(pK x5);
bif(!(De x7 x8))then(some (.inr (.inl (false,()))))else
bif(x4 != x6)then(some (.inr (.inl (false,()))))else
let x9:=w64 (v4+1);
some (.inl (v0,v1,v2,v3,x9,v5,v6,v7,v8,())))else
some (.inr (.inr (v0,v1,v2,v3,v4,false,v5,v6,v7,v8,())))
def cT:Int×Int×LLI×Unit->Option ((Int×Int×LLI×Unit)⊕((Bool×Unit)⊕(Int×Int×Bool×LLI×Unit))):=λ(v0,v1,v2,_)=>
bif(decide (v1<v0))then((cH v1).bind λx0=>
(bV v2 x0).bind λx1=>
(bV v2 x0).bind λx2=>
(c9 x2).bind λ(x3,x4,x5,x6,_)=>
(eq x2).bind λ(x7,x8,x9,ac,_)=>
bif(x6 != ac)then(some (.inr (.inl (false,()))))else
(gJ x3 x4 x5 x7 x8 x9).bind λ(ae,_)=>
bif(!ae)then(some (.inr (.inl (false,()))))else
let af:=w64 (v1+1);
some (.inl (v0,af,v2,())))else
some (.inr (.inr (v0,v1,false,v2,())))
def d9(a0:List (Int))(a1:LDIn)(a2:List (Int))(a3:List LI)(a4:List (Int))(a5:Int)(a6:Int)(a7:Int):Option (Bool×Unit):=
let x0:=bO a0.length;
bif(decide (x0>600))then((df).bind λ(x1,_)=>
some (x1,()))else
(hZ a1 a2 a3).bind λ(x1,_)=>
bif(!x1)then((df).bind λ(x2,_)=>
some (x2,()))else
(eu a4 0).bind λ(x2,x3,x4,_)=>
(dG x2 x3 x4 a5 a6 a7).bind λ(x7,x8,x9,_)=>
let ac:List (LDIn×LI×List LI):=[(x2,(x3,x4)),(a1,(a2,a3)),(x7,(x8,x9))];
let ae:=bO ac.length;
(match bR cU NN (a0,a6,a7,ae,0,x2,x3,x4,ac,())with
|none=>none
|some (.inl (af,_))=>
some (af,())
|some (.inr (af,ah,ai,aj,ak,am,an,ap,aq,av,_))=>
(eo an ap aq).bind λ(ax,ay,_)=>
bif(cf 1 0 ax.length)then let az:List (Int):=(List.append [] ax);
let aA:=bO az.length;
(iK ah aA).bind λ(aB,_)=>
let aD:=wk .u8 ai;
(cH aB).bind λaE=>
(bV az aE).bind λaF=>
(bV az aE).bind λaG=>
let aH:=List.modify az aE λe=>aD;
let aI:=bO ax.length;
(iK ah aI).bind λ(aJ,_)=>
(cH aJ).bind λaK=>
bif(eb 0 aK ax.length)then let aL:List (Int):=(i4 ax 0 (Nat.sub aK 0));
bif(cf 1 0 ax.length)then let aM:List (Int):=(List.append [] ax);
bif(cf 1 aM.length (List.length [0]))then let aO:List (Int):=(List.append aM [0]);
let aP:List LI:=[af,ax,aH,aL,aO];
let aQ:=bO aP.length;
(match bR cT NN (aQ,0,aP,())with
|none=>none
|some (.inl (aR,_))=>
some (aR,())
|some (.inr (aR,_))=>
(df).bind λ(aV,_)=>
some (aV,()))else none else none else none else none)
def jT:X.Cfg:=⟨E0,[qi,lL,kz,mN,fU,kf,rD,i9,kg,mM],[(48,(.pair (uaa KIn) (.pair (uaa I64) (uaa (uaa CW))))),(103,(uaa CB))],[⟨7,0,(qS [sP 0 (yaa CB),Uaa 4,Uaa 5,zaa 13,Zaa 48 99,Uaa 49,Uaa 50] [(28,uab),(99,[shU (uaa (.pair dM (.pair RI (yaa RW))))])]),[(.ret,qS [Xaa 12] []),(.exit 0,(qS [sP 0 (yaa CB),Uaa 4,Uaa 5,zaa 13,Zaa 48 99,Uaa 49,Uaa 50,Xaa 51] [(28,uab),(99,[shU (uaa (.pair dM (.pair RI (yaa RW))))])]))]⟩,⟨21,1,qS [Zaa 103 209,Uaa 104,Uaa 105] [(209,uaf)],[(.ret,qS [Xaa 12] []),(.exit 2,qS [Zaa 103 209,Uaa 104,Uaa 105,Xaa 106] [(209,uaf)])]⟩]⟩
def fW:Ctr:=⟨5,63,[shU (yaa CB),.agg uab,shU RI,shU I64,shU I64,shU I64],[],[⟨uac,[.one],[]⟩],ap8 d9⟩
theorem k_law08_ProgramBytes:Lk 8 fW:=ls jT (aC wT (aC qU (aC pi (aC sC (aC i8 (aC o6 (aC vt (aC m9 (aC o7 (aC sB aN))))))))))
end
end Go.Proofs.Ytgphpfjngblbiaa
namespace Go.Proofs.Ytgphpfjngblbiaa
set_option maxRecDepth 100000
noncomputable section
end
end Go.Proofs.Ytgphpfjngblbiaa
namespace Go.Proofs.Ytgphpfjngblbiaa
open Go.RowKit
theorem EO:(Try.prog.funcs.all λfn=>!(fn.name=="runtime.NumGoroutine"))=true:=by kernel_rfl
theorem wP:iE Try.prog 11:=by
 obtain⟨fn,hf,hb⟩:∃fn,Try.prog.funcs[11]?=some fn/\fn.body.isSome=true:=by
  have hs:(match Try.prog.funcs[11]? with|some fn=>fn.body.isSome|none=>false)=true:=by kernel_rfl
  cases h:Try.prog.funcs[11]? with
  |none=>rw[h]at hs;cases hs
  |some fn=>rw[h]at hs;exact⟨fn,rfl,hs⟩
 obtain⟨c,hc⟩:=Option.isSome_iff_exists.1 hb;refine oG hf ?_ hc;obtain⟨hlt,he⟩:=Array.getElem?_eq_some_iff.1 hf;have:=Array.all_eq_true.1 EO 11 hlt;rw[he]at this;simpa using this
def Dx(x:Value)(w:World)(e:Ending)(w':World):Prop:=e=.returned (.pointer (some ⟨w.heap.size,0,none⟩))/\w'=w.alloc (.cells #[x,.int .i64 0] 88)
theorem CS(x:Value)(hx:x.oneCell'=true)(w:World):
 Calls Try.prog 11 #[x] w (Dx x w):=by
 cases x
 all_goals first
  |(go_enter Try.func11,Try.ntmps11
    go_wp2
    go_ret
    exact⟨rfl,rfl⟩)
  |simp[Value.oneCell']at hx
theorem e0_ok:xx Try.prog E0:=by
 intro f n tm h;simp only[E0]at h;split at h
 ·rename_i e;subst e
  injection h with h
  injection h with h1 h2
  subst h1 h2;refine⟨wP,λx hx=>?_,88,λl2 w hl ZJ=>?_⟩
  ·simp only[List.mem_cons,List.not_mem_nil,or_false]at hx;rcases hx with hx|hx
   ·injection hx
   ·injection hx with hx;rw[hx];rfl
  ·match l2,hl with
   | [x],_=>exact CS x (ZJ x (by simp[bxV])) w
 ·simp at h
def Ok{α:Type}(o:Option α)(Q:α->Prop):Prop:=∃a,o=some a/\Q a
section
variable {α β:Type}
theorem Ok.ret{a:α}{Q:α->Prop}(h:Q a):Ok (some a) Q:=⟨a,rfl,h⟩
theorem Ok.bind{o:Option α}{f:α->Option β}{P:α->Prop}{Q:β->Prop}(h:Ok o P)(h2:∀a,P a->Ok (f a) Q):Ok (o.bind f) Q:=by
 obtain⟨a,rfl,h1⟩:=h
 simp_all
theorem Ok.mono{o:Option α}{P Q:α->Prop}(h:Ok o P)(h2:∀a,P a->Q a):Ok o Q:=by
 have ⟨a,e,h1⟩:=h;exact⟨a,e,h2 a h1⟩
theorem Ok.cond{c:Bool}{a b:Option α}{Q:α->Prop}(h1:c=true->Ok a Q)(h2:c=false->Ok b Q):Ok (bif c then a else b) Q:=by
 grind
class BP (b:Bool) (P N:outParam Prop):Prop where
 t:b=true->P
 f:b=false->N
instance Fh {p:Prop}{i:Decidable p}:BP (@decide p i) p (¬p):=⟨of_decide_eq_true,of_decide_eq_false⟩
instance Fs {α:Type}[BEq α][LawfulBEq α]{a b:α}:BP (a==b) (a=b) (¬a=b):=⟨eq_of_beq,λh=>beq_eq_false_iff_ne.1 h⟩
theorem ci{c:Bool}{P N:Prop}[h:BP c P N]{a b:Option α}{Q:α->Prop}(h1:P->Ok a Q)(h2:N->Ok b Q):Ok (bif c then a else b) Q:=by
 cases hc:c with
 |true=>exact h1 (h.t hc)
 |false=>exact h2 (h.f hc)
theorem Ok.get{l:List α}{i:Nat}{f:α->Option β}{Q:β->Prop}(h:i<l.length)(h2:∀a,l[i]?=some a->Ok (f a) Q):Ok ((bV l i).bind f) Q:=by
 have e:bV l i=some l[i]:=oGE h
 simp_all
theorem Ok.nat{x:Int}{f:Nat->Option β}{Q:β->Prop}(h:0<=x)(h2:∀n:Nat,x=n->Ok (f n) Q):Ok ((cH x).bind f) Q:=by
 obtain⟨n,rfl⟩:∃n:Nat,x=n:=⟨x.toNat,by omega⟩;exact h2 n rfl
theorem Ok.val{v:α}{f:α->Option β}{Q:β->Prop}(h:∀x,x=v->Ok (f x) Q):Ok (f v) Q:=h v rfl
theorem cx{c:Bool}{a b:Option α}{Q:α->Prop}(hc:c=true)(h1:Ok a Q):Ok (bif c then a else b) Q:=by simp_all
theorem jB{S T:Type}{f:S->Option (S⊕T)}(P:S->Prop)(R:T->Prop)(m:S->Nat){n:Nat}{s:S}(hs:P s)(hm:m s<n)
 (h:∀s,P s->Ok (f s) λr=>match r with|.inl s'=>P s'/\m s'<m s|.inr t=>R t):Ok (bR f n s) R:=by
 induction n generalizing s with
 |zero=>omega
 |succ n ih=>
  have ⟨r,e,hr⟩:=h s hs
  cases r with
  |inl s'=>
   have ⟨t,e2,hq⟩:=ih hr.1 (by omega);exact⟨t,by simp[bR,e];exact e2,hq⟩
  |inr t=>exact⟨t,by simp[bR,e],hr⟩
theorem Ok.loop{S T:Type}{f:S->Option (S⊕T)}{g:T->Option β}{Q:β->Prop}(P:S->Prop)(R:T->Prop)(m:S->Nat){n:Nat}{s:S}(hs:P s)(hm:m s<n)
 (h:∀s,P s->Ok (f s) λr=>match r with|.inl s'=>P s'/\m s'<m s|.inr t=>R t)(hg:∀t,R t->Ok (g t) Q):Ok ((bR f n s).bind g) Q:=(jB P R m hs hm h).bind hg
end
theorem cd{x:Int}(h1:-9223372036854775808<=x)(h2:x<=9223372036854775807):w64 x=x:=wrap_i64 h1 h2
theorem ct(n:Nat):cH (n:Int)=some n:=rfl
theorem cG(n:Nat):bO n=(n:Int):=rfl
theorem dJ{α:Type}{l:List α}{i:Nat}{a:α}(h:l[i]?=some a):a∈l:=List.mem_of_getElem? h
def W16(x:Int):Prop:=0<=x/\x<=65535
theorem dh{x:Int}(h0:0<=x)(h1:x<=65535):wk .u16 x=x:=by
 unfold wk;rw[z6];omega
theorem cK{x:Int}(h0:-9223372036854775808<=x)(h1:x<=9223372036854775807):wk .i64 x=x:=cd h0 h1
theorem b9{b n m:Nat}(h:b<=1000/\n+m<=1000000):cf b n m=true:=by
 have:=Nat.mul_le_mul h.2 h.1;simp[cf];omega
structure DOk (l:List Int)(k:Int):Prop where
 num:∀x∈l,uR x
 len:l.length<=maxLen
 lo:0<=k
 hi:k<=l.length
theorem rM{l:List Int}(h:∀x∈l,uR x)(hl:l.length<=maxLen):DOk l 0:=⟨h,hl,by omega,by omega⟩
theorem D2{a b:Int}(ha:uR a)(hb:0<b)(Z0:b<=9223372036854775807):∃v,ft a b=some (v,())/\0<=v/\v<b:=by
 have hne:(b != 0)=true:=by simp;omega
 have hm:=Int.tmod_lt_of_pos a hb
 have hm2:-b<Int.tmod a b:=by
  have:=Int.tmod_lt_of_pos (-a) hb;rw[Int.neg_tmod]at this;omega
 unfold ft;simp[hne];by_cases h:Int.tmod a b<0
 ·refine⟨Int.tmod a b+b,?_,by omega,by omega⟩;simp[h,decide_true];rw[cd (by omega) (by omega)]
 ·refine⟨Int.tmod a b,?_,by omega,hm⟩;simp[h,decide_false,oCF]
section
variable {β:Type} {l:List Int} {k n:Int} {Q:β->Prop}
theorem dT{f:Int×List Int×Int×Unit->Option β}(h:DOk l k)(hn:0<n)(hn2:n<=9223372036854775807)(K:∀v k',0<=v->v<n->DOk l k'->Ok (f (v,l,k',())) Q):Ok ((bK n l k).bind f) Q:=by
 have hl:=h.len;have TZ:=h.lo
 have XG:maxLen<=9223372036854775807:=by decide
 by_cases hk:k>=(l.length:Int)
 ·have e:bK n l k=some (0,l,k,()):=by unfold bK;simp[cG,hk]
  simp_all
 ·obtain⟨j,rfl⟩:∃j:Nat,k=j:=⟨k.toNat,by omega⟩
  have hj:j<l.length:=by omega
  obtain⟨v,hv,h0,h1⟩:=D2 (h.num _ (List.getElem_mem hj)) hn hn2
  have e:bK n l j=some (v,l,(j:Int)+1,()):=by
   unfold bK;delta bO
   try dsimp only
   rw[cd (x:=(j:Int)+1) (by omega) (by omega),cd (x:=(j:Int)+1-1) (by omega) (by omega)];rw[show(j:Int)+1-1=j by omega,ct];simp[hk,decide_false,oCF,oBS,bV,oGE hj,iK,hv]
  rw[e];exact K v _ h0 h1 ⟨h.num,hl,by omega,by omega⟩
theorem xD{f:Int×List Int×Int×Unit->Option β}(h:DOk l k)(K:∀v k',0<=v->v<=65535->DOk l k'->Ok (f (v,l,k',())) Q):Ok ((eC l k).bind f) Q:=by
 have hw:Ok (eC l k) λr=>∃v k',r=(v,l,k',())/\0<=v/\v<=65535/\DOk l k':=by
  unfold eC
  (with_reducible refine dT (by assumption) (by omega) (by omega) (λv k a b d=>?_);try dsimp only)
  refine Ok.bind (P:=λr=>∃b,r=(v,b,l,k,())) ?_ ?_
  ·repeat ((with_reducible refine ci (λhc=>?_) λhc=>?_);· exact Ok.ret ⟨_,rfl⟩)
   exact Ok.ret ⟨_,rfl⟩
  ·rintro _ ⟨b,rfl⟩;refine Ok.cond (λ_=>?_) λ_=>?_
   ·(with_reducible refine dT (by assumption) (by omega) (by omega) (λv k a b d=>?_);try dsimp only)
    (simp (disch:=omega) only [cd,dh,cK,cG])
    exact Ok.ret ⟨_,_,rfl,by omega,by omega,by assumption⟩
   ·(with_reducible refine ci (λhc=>?_) λhc=>?_)
    ·(with_reducible refine dT (by assumption) (by omega) (by omega) (λv k a b d=>?_);try dsimp only)
     (simp (disch:=omega) only [cd,dh,cK,cG])
     exact Ok.ret ⟨_,_,rfl,by omega,by omega,by assumption⟩
    ·(with_reducible refine dT (by omega) (by omega) (by omega) (λv k a b d=>?_);try dsimp only)
     (simp (disch:=omega) only [cd,dh,cK,cG])
     exact Ok.ret ⟨_,_,rfl,by omega,by omega,by omega⟩
 refine hw.bind ?_
 simp_all
end
def By(s:List Int):Prop:=1<=s.length/\s.length<=4/\∀x∈s,1<=x/\x<=32
theorem E9{P:Int->Prop}{a b c:Int}(ha:P a)(hb:P b)(hc:P c):∀x∈[a,b,c],P x:=by
 simp_all
theorem Ac{l:List Int}{k:Int}(h:DOk l k):Ok (gM l k) λr=>∃s k',r=(s,l,k',())/\By s/\DOk l k':=by
 unfold gM
 (with_reducible refine dT (by assumption) (by omega) (by omega) (λv0 k0 a0 b0 d0=>?_);try dsimp only)
 (simp (disch:=omega) only [cd,dh,cK,cG])
 (with_reducible refine dT (by assumption) (by omega) (by omega) (λv1 k1 a1 b1 d1=>?_);try dsimp only)
 refine Ok.loop (P:=λ((c,l',k',s,_):Int×List Int×Int×List Int×Unit)=>l'=l/\DOk l k'/\0<=c/\c+s.length<=4/\1<=s.length/\∀x∈s,1<=x/\x<=32)
  (R:=λ((_,_,l',k',s,_):Int×Bool×List Int×Int×List Int×Unit)=>l'=l/\DOk l k'/\By s) (m:=λs=>s.1.toNat) ⟨rfl,d1,a1,by simp;omega,by simp,by simp;omega⟩ (by unfold NN;dsimp only;omega) ?_ ?_
 ·rintro⟨c,l',k3,s,_⟩ ⟨rfl,W3,Wv,V4,Y',hs⟩;dsimp only at *;unfold jg;dsimp only
  (with_reducible refine ci (λhc=>?_) λhc=>?_)
  ·(with_reducible refine dT (by assumption) (by omega) (by omega) (λv2 k2 a2 b2 d2=>?_);try dsimp only)
   (with_reducible refine Ok.nat (by omega) (λj hj=>?_);try dsimp only)
   have Zq:∀x∈[(6:Int),12,32],6<=x/\x<=32:=by simp_all
   refine Ok.get (by simp;omega) λa ha=>?_;refine Ok.get (by simp;omega) λb hb=>?_;have h7:=Zq b (dJ hb)
   (with_reducible refine dT (by assumption) (by omega) (by omega) (λv3 k3 a3 b3 d3=>?_);try dsimp only)
   (simp (disch:=omega) only [cd,dh,cK,cG])
   refine cx (b9 (by simp;omega)) ?_;refine Ok.ret ⟨⟨rfl,by assumption,by omega,?_,?_,?_⟩,?_⟩
   ·simp;omega
   ·simp
   ·intro x hx;simp at hx;rcases hx with hx|rfl
    ·exact hs x hx
    ·omega
   ·dsimp only;omega
  ·exact Ok.ret ⟨rfl,W3,Y',by dsimp only;omega,hs⟩
 ·rintro⟨a,b,l',k3,s,_⟩ ⟨rfl,W3,hs⟩;exact Ok.ret ⟨_,_,rfl,hs,W3⟩
def em(op:Int):Bool:=!(op==18||op==23||op==0||op==24)
def ek(op:Int):Bool:=!(op==18||op==23||op==0||op==24||op==1||op==15||op==19||op==20||op==21||op==22)
def d8(op:Int):Bool:=!(op==18||op==23||op==0||op==24||op==1||op==15||op==19||op==20||op==21||op==22||op==2||op==16||op==17)
def eB(op:Int):Bool:=op==1||op==15||op==19||op==20||op==21||op==16||op==17||op==18||op==23
def kK(op:Int):Bool:=op==18||op==19||op==20||op==21
theorem qo{op:Int}(h0:0<=op)(h1:op<=24):dX op=some (em op,ek op,d8 op,eB op,()):=by
 obtain⟨n,rfl⟩:∃n:Nat,op=n:=⟨op.toNat,by omega⟩
 have hn:n<25:=by omega
 have ZZ:∀n:Fin 25,(dX ((n.val:Nat):Int)).map (λx=>(x.1,x.2.1,x.2.2.1,x.2.2.2.1))=some (em (n.val:Nat),ek (n.val:Nat),d8 (n.val:Nat),eB (n.val:Nat)):=by decide
 have:=ZZ ⟨n,hn⟩
 cases h:dX (n:Int)with
 |none=>simp_all
 |some x=>
  obtain⟨a,b,c,d,_⟩:=x
  simp_all
theorem jq(op:Int):de op=some (kK op,()):=by
 unfold de kK
 grind
structure dU (n m:Int)(i:DIn):Prop where
 op:0<=i.1/\i.1<=24
 a:0<=i.2.1/\i.2.1<8/\(em i.1=false->i.2.1=0)
 b:0<=i.2.2.1/\i.2.2.1<8/\(ek i.1=false->i.2.2.1=0)
 c:0<=i.2.2.2.1/\i.2.2.2.1<8/\(d8 i.1=false->i.2.2.2.1=0)
 imm:0<=i.2.2.2.2/\i.2.2.2.2<=65535/\(eB i.1=false->i.2.2.2.2=0)
 lea:i.1=15->i.2.2.2.2<n
 sys:i.1=23->i.2.2.2.2<=15
 jmp:kK i.1=true->i.2.2.2.2<m
theorem ins_mk{n m o a b c i:Int}(ho:0<=o/\o<=24)(ha:0<=a/\a<8)(hb:0<=b/\b<8)(hc:0<=c/\c<8)(hi:0<=i/\i<=65535)(hA:em o=true\/a=0)(hB:ek o=true\/b=0)(hC:d8 o=true\/c=0)(hI:eB o=true\/i=0)
 (hl:o=15->i<n)(hs:o=23->i<=15)(hj:kK o=true->i<m):dU n m (o,a,b,c,i):=
 ⟨ho,⟨ha.1,ha.2,λh=>hA.elim (λh'=>by simp_all) id⟩,⟨hb.1,hb.2,λh=>hB.elim (λh'=>by simp_all) id⟩,
  ⟨hc.1,hc.2,λh=>hC.elim (λh'=>by simp_all) id⟩,⟨hi.1,hi.2,λh=>hI.elim (λh'=>by simp_all) id⟩,hl,hs,hj⟩
theorem su{n m r v:Int}(h:0<=r/\r<8)(hv:0<=v/\v<=65535):dU n m (1,r,0,0,v):=ins_mk (by decide) h (by decide) (by decide) hv (.inl (by decide)) (.inr rfl) (.inr rfl) (.inl (by decide)) (by omega) (by omega) (λh=>absurd h (by decide))
theorem ud{n m r v:Int}(h:0<=r/\r<8)(hv:0<=v/\v<8):dU n m (2,r,v,0,0):=ins_mk (by decide) h hv (by decide) (by decide) (.inl (by decide)) (.inl (by decide)) (.inr rfl) (.inr rfl) (by omega) (by omega) (λh=>absurd h (by decide))
theorem nQ{n m v:Int}(hv:0<=v/\v<=15):dU n m (23,0,0,0,v):=ins_mk (by decide) (by decide) (by decide) (by decide) (by omega) (.inr rfl) (.inr rfl) (.inr rfl) (.inl (by decide)) (by omega) (by omega) (λh=>absurd h (by decide))
theorem uf{n m r v:Int}(h:0<=r/\r<8)(hv:0<=v/\v<n)(hn:n<=4):dU n m (15,r,0,0,v):=ins_mk (by decide) h (by decide) (by decide) (by omega) (.inl (by decide)) (.inr rfl) (.inr rfl) (.inl (by decide)) (by omega) (by omega) (λh=>absurd h (by decide))
theorem xK{n m o a b v:Int}(ho:o=16\/o=17)(h:0<=a/\a<8)(hb:0<=b/\b<8)(hv:0<=v/\v<=65535):dU n m (o,a,b,0,v):=by
 rcases ho with rfl|rfl
 all_goals exact ins_mk (by decide) h hb (by decide) hv (.inl (by decide)) (.inl (by decide)) (.inr rfl) (.inl (by decide)) (by omega) (by omega) (λh=>absurd h (by decide))
theorem t9{n m o a b c:Int}(ho:3<=o/\o<=14)(h:0<=a/\a<8)(hb:0<=b/\b<8)(hc:0<=c/\c<8):dU n m (o,a,b,c,0):=
 ins_mk (by omega) h hb hc (by decide) (.inl (by unfold em;simp;omega)) (.inl (by unfold ek;simp;omega)) (.inl (by unfold d8;simp;omega)) (.inr rfl) (by omega) (by omega) (λh=>by unfold kK at h;simp at h;omega)
theorem C0{n m v:Int}(hv:0<=v/\v<=65535)(hm:v<m):dU n m (18,0,0,0,v):=ins_mk (by decide) (by decide) (by decide) (by decide) hv (.inr rfl) (.inr rfl) (.inr rfl) (.inl (by decide)) (by omega) (by omega) (λ_=>hm)
theorem CJ{n m:Int}:dU n m (24,0,0,0,0):=ins_mk (by decide) (by decide) (by decide) (by decide) (by decide) (.inr rfl) (.inr rfl) (.inr rfl) (.inr rfl) (by omega) (by omega) (λh=>absurd h (by decide))
theorem dU.mono{n m m':Int}{i:DIn}(h:dU n m i)(hm:m<=m'):dU n m' i:=⟨h.op,h.a,h.b,h.c,h.imm,h.lea,h.sys,λhj=>by have:=h.jmp hj;omega⟩
theorem uk{n m a v:Int}(h:0<=a/\a<8)(hv:0<=v/\v<=65535)(hm:v<m):dU n m (20,a,0,0,v):=ins_mk (by decide) h (by decide) (by decide) hv (.inl (by decide)) (.inr rfl) (.inr rfl) (.inl (by decide)) (by omega) (by omega) (λ_=>hm)
theorem AT{n X3 k:Int}{l:List Int}(h:DOk l k)(hn:1<=n/\n<=4)(hm:1<=X3/\X3<=100):Ok (gN n X3 l k) λr=>∃o a b c i k',r=(o,a,b,c,i,l,k',())/\dU n X3 (o,a,b,c,i)/\DOk l k':=by
 unfold gN
 (with_reducible refine dT (by assumption) (by omega) (by omega) (λv0 k0 a0 b0 d0=>?_);try dsimp only)
 rw[qo (by omega) (by omega)];simp only[oBS];refine Ok.bind (P:=λr=>∃x k',r=(n,X3,l,k',0,0,0,0,0,v0,x,0,0,0,em v0,ek v0,d8 v0,eB v0,())/\0<=x/\x<8/\(em v0=false->x=0)/\DOk l k') ?_ ?_
 ·refine Ok.cond (λhc=>?_) λhc=>Ok.ret ⟨_,_,rfl,by omega,by omega,λ_=>rfl,d0⟩
  (with_reducible refine dT (by assumption) (by omega) (by omega) (λv1 k1 a1 b1 d1=>?_);try dsimp only)
  exact Ok.ret ⟨_,_,rfl,a1,b1,(λhh=>by rw[hc]at hh;cases hh),d1⟩
 rintro _ ⟨xa,k1,rfl,UJ,WY,Ws,d1⟩;dsimp only;refine Ok.bind (P:=λr=>∃x k',r=(n,X3,l,k',0,0,0,0,0,v0,xa,x,0,0,em v0,ek v0,d8 v0,eB v0,())/\0<=x/\x<8/\(ek v0=false->x=0)/\DOk l k') ?_ ?_
 ·refine Ok.cond (λhc=>?_) λhc=>Ok.ret ⟨_,_,rfl,by omega,by omega,λ_=>rfl,d1⟩
  (with_reducible refine dT (by assumption) (by omega) (by omega) (λv2 k2 a2 b2 d2=>?_);try dsimp only)
  exact Ok.ret ⟨_,_,rfl,a2,b2,(λhh=>by rw[hc]at hh;cases hh),d2⟩
 rintro _ ⟨xb,k2,rfl,VA,ZV,Z0,d2⟩;dsimp only;refine Ok.bind (P:=λr=>∃x k',r=(n,X3,l,k',0,0,0,0,0,v0,xa,xb,x,0,em v0,ek v0,d8 v0,eB v0,())/\0<=x/\x<8/\(d8 v0=false->x=0)/\DOk l k') ?_ ?_
 ·refine Ok.cond (λhc=>?_) λhc=>Ok.ret ⟨_,_,rfl,by omega,by omega,λ_=>rfl,d2⟩
  (with_reducible refine dT (by assumption) (by omega) (by omega) (λv3 k3 a3 b3 d3=>?_);try dsimp only)
  exact Ok.ret ⟨_,_,rfl,a3,b3,(λhh=>by rw[hc]at hh;cases hh),d3⟩
 rintro _ ⟨xc,k3,rfl,Wv,Zz,Zv,d3⟩;dsimp only;rw[jq];simp only[oBS];refine Ok.bind (P:=λr=>∃x k',r=(l,k',0,0,0,0,0,v0,xa,xb,xc,x,())/\0<=x/\x<=65535/\(eB v0=false->x=0)/\(v0=15->x<n)/\(v0=23->x<=15)/\(kK v0=true->x<X3)/\DOk l k') ?_ ?_
 ·refine Ok.cond (λhj=>?_) λhj=>?_
  ·(with_reducible refine dT (by assumption) (by omega) (by omega) (λv4 k4 a4 b4 d4=>?_);try dsimp only)
   have hne:v0≠15/\v0≠23:=by constructor<;>(rintro rfl;exact absurd hj (by decide))
   exact Ok.ret ⟨_,_,rfl,a4,by omega,(λhh=>by
    have:eB v0=true:=by unfold kK at hj;unfold eB;simp at hj⊢;omega
    rw[this]at hh;cases hh),by omega,by omega,λ_=>b4,d4⟩
  ·(with_reducible refine ci (λQF=>?_) λQF=>?_)
   ·subst QF
    (with_reducible refine dT (by assumption) (by omega) (by omega) (λv4 k4 a4 b4 d4=>?_);try dsimp only)
    exact Ok.ret ⟨_,_,rfl,a4,by omega,λhh=>absurd hh (by decide),by omega,by omega,λhh=>absurd hh (by decide),d4⟩
   ·(with_reducible refine ci (λQG=>?_) λQG=>?_)
    ·subst QG
     (with_reducible refine dT (by assumption) (by omega) (by omega) (λv4 k4 a4 b4 d4=>?_);try dsimp only)
     exact Ok.ret ⟨_,_,rfl,a4,by omega,λhh=>absurd hh (by decide),by omega,by omega,λhh=>absurd hh (by decide),d4⟩
    ·refine Ok.cond (λhu=>?_) λhu=>?_
     ·(with_reducible refine xD (by assumption) (λv4 k4 a4 b4 d4=>?_);try dsimp only)
      (simp (disch:=omega) only [cd,dh,cK,cG])
      exact Ok.ret ⟨_,_,rfl,a4,by omega,(λhh=>by rw[hu]at hh;cases hh),by omega,by omega,(λhh=>by rw[show kK v0=false from hj]at hh;cases hh),d4⟩
     ·exact Ok.ret ⟨_,_,rfl,by omega,by omega,λ_=>rfl,by omega,by omega,(λhh=>by rw[show kK v0=false from hj]at hh;cases hh),d3⟩
 rintro _ ⟨xi,k4,rfl,TN,V7,V8,Pw,Px,Py,d4⟩;exact Ok.ret ⟨_,_,_,_,_,_,rfl,⟨⟨a0,by dsimp only;omega⟩,⟨UJ,WY,Ws⟩,⟨VA,ZV,Z0⟩,⟨Wv,Zz,Zv⟩,⟨TN,V7,V8⟩,Pw,Px,Py⟩,d4⟩
theorem gd{α β:Type}{l:List α}{i:Nat}{f:α->Option β}{Q:β->Prop}(P:α->Prop)(h:i<l.length)(hP:∀x∈l,P x)(h2:∀a,P a->Ok (f a) Q):Ok ((bV l i).bind f) Q:=Ok.get h λa ha=>h2 a (hP a (dJ ha))
theorem cO{α:Type}{P:α->Prop}:∀x∈([]:List α),P x:=λ_ h=>by cases h
theorem all_cons{α:Type}{P:α->Prop}{a:α}{l:List α}(h:P a)(h2:∀x∈l,P x):∀x∈a::l,P x:=by
 simp_all
theorem D4(a b:Int):dY a b=some (1,a,0,0,b,()):=rfl
theorem D1(a b:Int):fZ a b=some (2,a,b,0,0,()):=rfl
theorem BJ(a:Int):dI a=some (23,0,0,0,a,()):=rfl
theorem Fd{x:Int}(h:1<=x):1<=mmR false 5 x/\mmR false 5 x<=5:=by
 unfold mmR;simp;omega
def wa(n at_:Int)(l:List Int)(r:List DIn×List Int×Int×Unit):Prop:=∃xs k',r=(xs,l,k',())/\1<=xs.length/\xs.length<=6/\(∀i∈xs,dU n (at_+xs.length) i)/\DOk l k'
theorem qC{n at_:Int}{l:List Int}{xs:List DIn}{k:Int}(h1:1<=xs.length/\xs.length<=6)(h2:∀i∈xs,dU n (at_+xs.length) i)(h3:DOk l k):Ok (some (xs,l,k,())) (wa n at_ l):=Ok.ret ⟨xs,k,rfl,h1.1,h1.2,h2,h3⟩
theorem CR{s l:List Int}{at_ k:Int}(h:DOk l k)(hs:By s)(ha:0<=at_/\at_<=99):Ok (iL s (at_+1) at_ l k) (wa s.length at_ l):=by
 obtain⟨Y',Tj,hsz⟩:=hs
 have hn:1<=(s.length:Int)/\(s.length:Int)<=4:=by omega
 unfold iL;delta bO;simp only[D4,D1,BJ,oBS]
 (with_reducible refine dT (by assumption) (by omega) (by omega) (λvr kr ar br dr=>?_);try dsimp only)
 refine Ok.nat (by omega) λj hj=>?_;refine gd (λa=>1<=a/\a<=32) (by omega) hsz λz hz=>?_
 (simp (disch:=omega) only [cd,dh,cK,cG])
 have h5:=Fd (x:=z+1) (by omega);generalize mmR false 5 (z+1)=mm at h5
 (with_reducible refine dT (by assumption) (by omega) (by omega) (λvu ku au bu du=>?_);try dsimp only)
 (with_reducible refine dT (by assumption) (by omega) (by omega) (λvw kw aw bw dw=>?_);try dsimp only)
 iterate 19
  (with_reducible refine ci (λhcc=>?_) λhcc=>?_)
  ·repeat (first|(simp (disch:=omega) only [cd,dh,cK,cG])|(with_reducible refine dT (by assumption) (by omega) (by omega) (λv k a b d=>?_);try dsimp only)|(with_reducible refine xD (by assumption) (λv k a b d=>?_);try dsimp only)|(with_reducible refine Ok.nat (by omega) (λj hj=>?_);try dsimp only)|((with_reducible first|refine gd (λa=>1<=a/\a<=32) (by omega) (by assumption) (λe he=>?_)|refine gd (λa=>3<=a/\a<=14) (by simp only[oLC,List.length_nil];omega) (by(first|exact(all_cons (by omega) (all_cons (by omega) cO))|exact(all_cons (by omega) (all_cons (by omega) (all_cons (by omega) cO)))|exact(all_cons (by omega) (all_cons (by omega) (all_cons (by omega) (all_cons (by omega) (all_cons (by omega) (all_cons (by omega) (all_cons (by omega) (all_cons (by omega) cO)))))))))) (λe he=>?_)|refine gd (λa=>0<=a/\a<=15) (by simp only[oLC,List.length_nil];omega) (by(first|exact(all_cons (by omega) (all_cons (by omega) cO))|exact(all_cons (by omega) (all_cons (by omega) (all_cons (by omega) cO)))|exact(all_cons (by omega) (all_cons (by omega) (all_cons (by omega) (all_cons (by omega) (all_cons (by omega) (all_cons (by omega) (all_cons (by omega) (all_cons (by omega) cO)))))))))) (λe he=>?_)|refine gd (λa=>1<=a/\a<=100) (by simp only[oLC,List.length_nil];omega) (by(first|exact(all_cons (by omega) (all_cons (by omega) cO))|exact(all_cons (by omega) (all_cons (by omega) (all_cons (by omega) cO)))|exact(all_cons (by omega) (all_cons (by omega) (all_cons (by omega) (all_cons (by omega) (all_cons (by omega) (all_cons (by omega) (all_cons (by omega) (all_cons (by omega) cO)))))))))) (λe he=>?_));try dsimp only)|(with_reducible refine cx (b9 (by first|omega|simp)) ?_;try dsimp only)|(refine gd (λ(a:List DIn)=>(1<=a.length/\a.length<=6)/\∀i∈a,dU s.length (at_+a.length) i) (by simp only[oLC,List.length_nil];omega) (all_cons ⟨by simp,by((repeat' (first|exact cO|refine all_cons ?_ ?_|exact su (by omega) (by omega)|exact ud (by omega) (by omega)|exact nQ (by omega)|exact uf (by omega) (by omega) (by omega)|exact xK (by omega) (by omega) (by omega) (by omega)|exact t9 (by omega) (by omega) (by omega) (by omega)|exact uk (by omega) (by omega) (by simp only[oLC,List.length_nil];omega)));done)⟩ (all_cons ⟨by simp,by((repeat' (first|exact cO|refine all_cons ?_ ?_|exact su (by omega) (by omega)|exact ud (by omega) (by omega)|exact nQ (by omega)|exact uf (by omega) (by omega) (by omega)|exact xK (by omega) (by omega) (by omega) (by omega)|exact t9 (by omega) (by omega) (by omega) (by omega)|exact uk (by omega) (by omega) (by simp only[oLC,List.length_nil];omega)));done)⟩ cO)) (λe he=>?_);try dsimp only))
   first
    |exact qC he.1 he.2 (by assumption)
    |(refine qC (by simp) ?_ (by assumption);try simp only[List.append_eq,List.cons_append,List.nil_append]
      ((repeat' (first|exact cO|refine all_cons ?_ ?_|exact su (by omega) (by omega)|exact ud (by omega) (by omega)|exact nQ (by omega)|exact uf (by omega) (by omega) (by omega)|exact xK (by omega) (by omega) (by omega) (by omega)|exact t9 (by omega) (by omega) (by omega) (by omega)|exact uk (by omega) (by omega) (by simp only[oLC,List.length_nil];omega)));done))
 refine(AT (by assumption) hn (by omega)).bind ?_;rintro _ ⟨o,a,b,c,i,k',rfl,hi,hd⟩;exact qC (by simp) (all_cons (hi.mono (by simp)) cO) hd
theorem kH{α:Type}{P:α->Prop}{l m:List α}(h:∀x∈l,P x)(h2:∀x∈m,P x):∀x∈List.append l m,P x:=λx hx=>(List.mem_append.1 (show x∈l++m from hx)).elim (h x) (h2 x)
theorem eU{α:Type}(l m:List α):(List.append l m).length=l.length+m.length:=List.length_append
theorem z7{l:List Int}{k n:Int}(h:DOk l k)(hn:0<=n/\n<=1000):Ok (gL n l k) λr=>∃ws k',r=(ws,l,k',())/\(ws.length:Int)<=n/\(∀w∈ws,W16 w)/\DOk l k':=by
 unfold gL
 (simp (disch:=omega) only [cd,dh,cK,cG])
 (with_reducible refine dT (by assumption) (by omega) (by omega) (λv0 k0 a0 b0 d0=>?_);try dsimp only)
 refine Ok.loop (P:=λ((c,l',k',s,_):Int×List Int×Int×List Int×Unit)=>l'=l/\DOk l k'/\0<=c/\c+s.length<=n/\∀x∈s,W16 x)
  (R:=λ((_,_,l',k',s,_):Int×Bool×List Int×Int×List Int×Unit)=>l'=l/\DOk l k'/\(s.length:Int)<=n/\∀x∈s,W16 x) (m:=λs=>s.1.toNat) ⟨rfl,d0,a0,by simp;omega,cO⟩ (by unfold NN;dsimp only;omega) ?_ ?_
 ·rintro⟨c,l',k3,s,_⟩ ⟨rfl,W3,Wv,V4,hs⟩;unfold jf;dsimp only
  (with_reducible refine ci (λhcc=>?_) λhcc=>?_)
  ·(with_reducible refine xD (by assumption) (λv1 k1 a1 b1 d1=>?_);try dsimp only)
   refine cx (b9 (by simp;omega)) ?_
   (simp (disch:=omega) only [cd,dh,cK,cG])
   exact Ok.ret ⟨⟨rfl,by omega,by omega,by rw[eU];simp;omega,kH hs (all_cons ⟨a1,b1⟩ cO)⟩,by omega⟩
  ·exact Ok.ret ⟨rfl,W3,by dsimp only;omega,hs⟩
 ·rintro⟨a,b,l',k3,s,_⟩ ⟨rfl,W3,hs,hw⟩;exact Ok.ret ⟨_,_,rfl,hs,hw,W3⟩
structure oT (code:List DIn)(s:List Int)(d:List (List Int)):Prop where
 sz:By s
 len:d.length=s.length
 fit:∀(j:Nat) x n,d[j]?=some x->s[j]?=some n->(x.length:Int)<=n
 num:∀x∈d,∀w∈x,W16 w
 clen:1<=code.length/\code.length<=64
 ins:∀i∈code,dU s.length code.length i
theorem vH{code:List DIn}{s:List Int}{d:List (List Int)}{l:List Int}{k:Int}(hp:oT code s d):
 Ok (bR dz NN ((code.length:Int),0,l,k,(),(),(),code,s,d,())) λr=>∃a b c,r=(a,b,c,l,k,(),(),(),code,s,d,()):=by
 have:=Ok.loop (f:=dz) (n:=NN) (Q:=λr=>∃a b c,r=(a,b,c,l,k,(),(),(),code,s,d,())) (s:=((code.length:Int),0,l,k,(),(),(),code,s,d,()))
  (P:=λs'=>∃i:Int,s'=((code.length:Int),i,l,k,(),(),(),code,s,d,())/\0<=i/\i<=code.length) (R:=λr=>∃a b c,r=(a,b,c,l,k,(),(),(),code,s,d,())) (m:=λs=>(s.1-s.2.1).toNat) ⟨0,rfl,by omega,by omega⟩ (by unfold NN;dsimp only;have:=hp.clen;omega) ?_ (λt ht=>Ok.ret ht)
 ·simp_all
 ·rintro _ ⟨i,rfl,TN,V7⟩;unfold dz;dsimp only;have hc:=hp.clen
  (with_reducible refine ci (λhcc=>?_) λhcc=>?_)
  ·refine Ok.bind (P:=λr=>r=((code.length:Int),i,l,k,(),(),(),code,s,d,())) ?_ ?_
   ·(with_reducible refine Ok.nat (by omega) (λj hj=>?_);try dsimp only)
    refine Ok.get (by omega) λx hx=>?_;have hin:=hp.ins x (dJ hx);rw[jq];refine Ok.cond (λPD=>?_) λ_=>Ok.ret rfl;refine Ok.nat (by omega) λj2 Yv=>?_;refine Ok.get (by omega) λy hy=>?_
    have hjj:j2=j:=by omega
    subst hjj;rw[hx]at hy
    injection hy with hy
    subst hy;have:=hin.jmp PD;refine Ok.cond (λhcc=>?_) (λhcc=>?_)
    ·have h9:(x.2.2.2.2:Int)>=(code.length:Int):=of_decide_eq_true hcc;omega
    ·exact Ok.ret rfl
   ·rintro _ rfl;dsimp only
    (simp (disch:=omega) only [cd,dh,cK,cG])
    exact Ok.ret ⟨⟨i+1,rfl,by omega,by omega⟩,by dsimp only;omega⟩
  ·exact Ok.ret ⟨_,_,_,rfl⟩
theorem wH{l:List Int}{k:Int}(h:DOk l k):Ok (eu l k) λr=>∃code s d k',r=(code,s,d,l,k',())/\oT code s d/\DOk l k':=by
 unfold eu;refine(Ac h).bind ?_;rintro _ ⟨s,k1,rfl,hs,hd⟩;obtain⟨Y',Tj,hsz⟩:=id hs;dsimp only;delta bO
 try dsimp only
 refine Ok.loop (P:=λs'=>∃k' d,s'=((s.length:Int),(d.length:Int),l,k',(),(),(),(),s,d,())/\DOk l k'/\d.length<=s.length/\(∀(j:Nat) x n,d[j]?=some x->s[j]?=some n->(x.length:Int)<=n)/\∀x∈d,∀w∈x,W16 w)
  (R:=λr=>∃a b c k' d,r=(a,b,c,l,k',(),(),(),(),s,d,())/\DOk l k'/\d.length=s.length/\(∀(j:Nat) x n,d[j]?=some x->s[j]?=some n->(x.length:Int)<=n)/\∀x∈d,∀w∈x,W16 w)
  (m:=λs=>(s.1-s.2.1).toNat) ⟨k1,[],rfl,hd,by simp,by simp,cO⟩ (by unfold NN;dsimp only;omega) ?_ ?_
 ·rintro _ ⟨k',d,rfl,hd',WU,ZT,WF⟩;unfold ie;dsimp only
  (with_reducible refine ci (λhcc=>?_) λhcc=>?_)
  ·(with_reducible refine Ok.nat (by omega) (λj hj=>?_);try dsimp only)
   refine Ok.get (by omega) λx hx=>?_;refine Ok.get (by omega) λy hy=>?_
   have ZY:j=d.length:=by omega
   subst ZY;have Vq:=hsz y (dJ hy);refine(z7 hd' ⟨by omega,by omega⟩).bind ?_;rintro _ ⟨ws,k2,rfl,OG,P5,hd2⟩;dsimp only;refine cx (b9 (by simp;omega)) ?_
   (simp (disch:=omega) only [cd,dh,cK,cG])
   refine Ok.ret ⟨⟨k2,List.append d [ws],by rw[eU];simp,hd2,by rw[eU];simp;omega,?_,kH WF (all_cons P5 cO)⟩,by dsimp only;omega⟩;intro i x n hx hn;rw[show List.append d [ws]=d++[ws]from rfl,List.getElem?_append]at hx;split at hx
   ·exact ZT i x n hx hn
   ·rename_i hge
    have:i-d.length=0:=by
     rcases Nat.eq_zero_or_pos (i-d.length)with h|h
     ·exact h
     ·rw[oGN (by simp;omega)]at hx;cases hx
    have hi:i=d.length:=by omega
    subst hi;simp at hx;subst hx;rw[hy]at hn
    injection hn with hn
    omega
  ·exact Ok.ret ⟨_,_,_,_,_,rfl,hd',by omega,ZT,WF⟩
 rintro _ ⟨a,b,c,k2,d,rfl,hd2,WU,ZT,WF⟩;dsimp only
 (with_reducible refine dT (by assumption) (by omega) (by omega) (λv0 k0 a0 b0 d0=>?_);try dsimp only)
 (simp (disch:=omega) only [cd,dh,cK,cG])
 refine Ok.loop (P:=λs'=>∃i k' code,s'=(i,l,k',(),(),(),code,s,d,())/\0<=i/\i<=12/\DOk l k'/\code.length<=62/\∀i∈code,dU s.length code.length i)
  (R:=λr=>∃a b k' code,r=(a,b,l,k',(),(),(),code,s,d,())/\DOk l k'/\code.length<=62/\∀i∈code,dU s.length code.length i)
  (m:=λs=>s.1.toNat) ⟨_,_,[],rfl,by omega,by omega,d0,by simp,cO⟩ (by unfold NN;dsimp only;omega) ?_ ?_
 ·rintro _ ⟨i,k',code,rfl,TN,V7,hd',Zf,Xu⟩;unfold ic;dsimp only
  (with_reducible refine ci (λhcc=>?_) λhcc=>?_)
  ·refine Ok.bind (P:=λr=>∃k' code,r=(i,l,k',(),(),(),code,s,d,())/\DOk l k'/\code.length<=62/\∀i∈code,dU s.length code.length i) ?_ ?_
   ·(simp (disch:=omega) only [cd,dh,cK,cG])
    refine(CR hd' hs ⟨by omega,by omega⟩).bind ?_;rintro _ ⟨xs,k3,rfl,Z4,OH,SQ,W3⟩;dsimp only
    (simp (disch:=omega) only [cd,dh,cK,cG])
    (with_reducible refine ci (λhcc=>?_) λhcc=>?_)
    ·refine cx (b9 (by omega)) ?_;refine Ok.ret ⟨_,_,rfl,W3,by rw[eU];omega,?_⟩;rw[eU];exact kH (λi hi=>(Xu i hi).mono (by omega)) (λi hi=>(SQ i hi).mono (by omega))
    ·exact Ok.ret ⟨_,_,rfl,W3,Zf,Xu⟩
   ·rintro _ ⟨k3,Y6,rfl,W3,Tz,Xh⟩;dsimp only
    (simp (disch:=omega) only [cd,dh,cK,cG])
    exact Ok.ret ⟨⟨_,_,_,rfl,by omega,by omega,W3,Tz,Xh⟩,by dsimp only;omega⟩
  ·exact Ok.ret ⟨_,_,_,_,rfl,hd',Zf,Xu⟩
 rintro _ ⟨a,b,k3,code,rfl,W3,Zf,Xu⟩;dsimp only;refine Ok.bind (P:=λr=>∃k' code,r=(l,k',(),(),(),code,s,d,())/\DOk l k'/\code.length<=63/\∀i∈code,dU s.length (code.length+1) i) ?_ ?_
 ·(with_reducible refine dT (by assumption) (by omega) (by omega) (λv1 k1 a1 b1 d1=>?_);try dsimp only)
  (with_reducible refine ci (λhcc=>?_) λhcc=>?_)
  ·(simp (disch:=omega) only [cd,dh,cK,cG])
   (with_reducible refine dT (by assumption) (by omega) (by omega) (λv2 k2 a2 b2 d2=>?_);try dsimp only)
   refine cx (b9 (by simp;omega)) ?_;refine Ok.ret ⟨_,_,rfl,d2,by rw[eU];simp;omega,?_⟩;rw[eU];exact kH (λi hi=>(Xu i hi).mono (by simp;omega)) (all_cons (C0 (by omega) (by simp;omega)) cO)
  ·(with_reducible refine ci (λhcc=>?_) λhcc=>?_)
   ·refine cx (b9 (by simp;omega)) ?_;refine Ok.ret ⟨_,_,rfl,d1,by rw[eU];simp;omega,?_⟩;rw[eU];exact kH (λi hi=>(Xu i hi).mono (by simp;omega)) (all_cons CJ cO)
   ·exact Ok.ret ⟨_,_,rfl,d1,by omega,λi hi=>(Xu i hi).mono (by omega)⟩
 rintro _ ⟨k4,Y6,rfl,OB,Tz,Xh⟩;dsimp only
 (with_reducible refine dT (by assumption) (by omega) (by omega) (λv3 k3 a3 b3 d3=>?_);try dsimp only)
 simp only[D4,BJ,oBS];refine cx (b9 (by simp;omega)) ?_;simp only[eU];refine Ok.cond (λhc=>?_) λ_=>?_
 ·have ZX:∀i∈List.append Y6 [(1,0,0,0,v3),(23,0,0,0,0)],dU s.length (Y6.length+1) i:=kH Xh (all_cons (su (by omega) (by omega)) (all_cons (nQ (by omega)) cO));simp only[oDE]at hc
  have QI:(Y6.length:Int)+2>64:=by
   have:((Y6.length + [((1:Int),(0:Int),(0:Int),(0:Int),v3),(23,0,0,0,0)].length:Nat):Int)>64:=hc;simpa using this
  have UY:Y6.length=63:=by omega
  refine cx (by rw[UY];rfl) ?_
  have hlen:(i4 (List.append Y6 [((1:Int),(0:Int),(0:Int),(0:Int),v3),(23,0,0,0,0)]) 0 (Nat.sub 64 0)).length=64:=by
   unfold i4;rw[oLT,List.drop_zero,eU,UY];rfl
  have hp:oT (i4 (List.append Y6 [((1:Int),(0:Int),(0:Int),(0:Int),v3),(23,0,0,0,0)]) 0 (Nat.sub 64 0)) s d:=by
   refine⟨hs,WU,ZT,WF,by rw[hlen];decide,λi hi=>?_⟩;rw[hlen];refine(ZX i ?_).mono (by omega);unfold i4 at hi;exact List.mem_of_mem_drop (List.mem_of_mem_take hi)
  refine(vH (l:=l) (k:=_) hp).bind ?_;rintro _ ⟨a,b,c,rfl⟩;exact Ok.ret ⟨_,_,_,_,rfl,hp,d3⟩
 ·have hp:oT (List.append Y6 [(1,0,0,0,v3),(23,0,0,0,0)]) s d:=by
   refine⟨hs,WU,ZT,WF,?_,?_⟩
   ·rw[eU];rename_i hc;have QI:¬((Y6.length + [((1:Int),(0:Int),(0:Int),(0:Int),v3),(23,0,0,0,0)].length:Nat):Int)>64:=of_decide_eq_false hc;simp only[oLC,List.length_nil]at QI⊢;omega
   ·rw[eU];exact kH (λi hi=>(Xh i hi).mono (by simp)) (all_cons (su (by omega) (by omega)) (all_cons (nQ (by omega)) cO))
  have hf:=vH (l:=l) (k:=k3) hp;rw[eU]at hf;refine hf.bind ?_;rintro _ ⟨a,b,c,rfl⟩;exact Ok.ret ⟨_,_,_,_,rfl,hp,d3⟩
theorem Bt{P:Int->Prop}{s:List Int}{i:Nat}{x:Int}(h:∀(j:Nat) y,j<i->s[j]?=some y->P y)(hx:s[i]?=some x)(hp:P x):∀(j:Nat) y,j<i+1->s[j]?=some y->P y:=by
 grind
theorem xF{s:List Int}(hl:s.length<=1000):Ok (cS s) λr=>r.1=true↔By s:=by
 unfold cS;delta bO
 try dsimp only
 obtain⟨t,e,ht⟩:=jB (f:=fS) (n:=NN) (s:=(s,s,(s.length:Int),0,())) (P:=λs'=>∃i:Nat,s'=(s,s,(s.length:Int),(i:Int),())/\i<=s.length/\∀(j:Nat) y,j<i->s[j]?=some y->1<=y/\y<=32)
  (R:=λr=>(r=.inl (false,())/\∃y∈s,¬(1<=y/\y<=32))\/((∃a b c d,r=.inr (s,a,b,c,d,()))/\∀y∈s,1<=y/\y<=32)) (m:=λs'=>(s'.2.2.1-s'.2.2.2.1).toNat) ⟨0,rfl,by omega,λj y hj=>by omega⟩ (by unfold NN;dsimp only;omega) (by
   rintro _ ⟨i,rfl,hi,ZX⟩;unfold fS
   (with_reducible refine ci (λhcc=>?_) λhcc=>?_)
   ·rw[ct];refine Ok.get (by omega) λx hx=>?_
    (with_reducible refine ci (λTc=>?_) λTc=>?_)
    ·exact Ok.ret (.inl ⟨rfl,x,dJ hx,by omega⟩)
    ·(with_reducible refine ci (λPi=>?_) λPi=>?_)
     ·exact Ok.ret (.inl ⟨rfl,x,dJ hx,by omega⟩)
     ·(simp (disch:=omega) only [cd,dh,cK,cG])
      exact Ok.ret ⟨⟨i+1,rfl,by omega,Bt ZX hx ⟨by omega,by omega⟩⟩,by dsimp only;omega⟩
   ·refine Ok.ret (.inr ⟨⟨_,_,_,_,rfl⟩,λy hy=>?_⟩);have ⟨j,hj⟩:=List.getElem?_of_mem hy
    exact ZX j y (by have:=(oGS hj).1;omega) hj)
 rw[e]
 rcases ht with⟨rfl,y,hy,hn⟩|⟨⟨a,b,c,d,rfl⟩,ZX⟩
 ·exact Ok.ret ⟨λh=>(by cases h),λh=>absurd (h.2.2 y hy) hn⟩
 ·dsimp only
  (with_reducible refine ci (λhcc=>?_) λhcc=>?_)
  ·exact Ok.ret ⟨λh=>⟨by omega,(by have:=of_decide_eq_true h;omega),ZX⟩,λh=>oDT (by have:=h.2.1;omega)⟩
  ·exact Ok.ret ⟨λh=>(by cases h),λh=>by have:=h.1;omega⟩
abbrev VS(xs:List Int):Prop:=By xs
theorem Db{l:List Int}{k:Nat}(h:k<l.length):l.getD k 0=l[k]:=by simp[List.getD,h]
def Dv(bs ss:List Int)(i:Nat):Prop:=
 0<=bs.getD i 0/\bs.getD i 0+ss.getD i 0<=512/\∀k,k<i->¬(bs.getD i 0<=bs.getD k 0+ss.getD k 0/\bs.getD k 0<=bs.getD i 0+ss.getD i 0)
def LV(bs ss:List Int):Prop:=VS ss/\bs.length=ss.length/\∀i,i<bs.length->Dv bs ss i
theorem VS.at_{ss:List Int}(h:VS ss){i:Nat}(hi:i<ss.length):1<=ss[i]/\ss[i]<=32:=h.2.2 _ (List.getElem_mem hi)
theorem VS.getD{ss:List Int}(h:VS ss){i:Nat}(hi:i<ss.length):1<=ss.getD i 0/\ss.getD i 0<=32:=by rw[Db hi];exact h.at_ hi
theorem wL{S T:Type}{f:S->Option (S⊕T)}(st:Nat->S){n N:Nat}{t:T}(hn:n<N)(h:∀i,i<n->Ok (f (st i)) (·=.inl (st (i+1))))(he:Ok (f (st n)) (·=.inr t)):bR f N (st 0)=some t:=by
 have ZZ:∀k i,i+k=n->∀N,k<N->bR f N (st i)=some t:=by
  intro k
  induction k with
  |zero=>
   intro i hi N hN;obtain⟨x,e,hx⟩:=he
   have:i=n:=by omega
   subst this;obtain⟨N',rfl⟩:∃N',N=N'+1:=⟨N-1,by omega⟩;simp[bR,e,hx]
  |succ k ih=>
   intro i hi N hN;have ⟨x,e,hx⟩:=h i (by omega);obtain⟨N',rfl⟩:∃N',N=N'+1:=⟨N-1,by omega⟩;simp[bR,e,hx];exact ih (i+1) (by omega) N' (by omega)
 simp_all
theorem qn{α:Type}{o:Option α}{a:α}(h:Ok o (·=a)):o=some a:=by
 obtain⟨x,e,rfl⟩:=h;exact e
theorem jt{l:List Int}{k:Nat}{x:Int}(h:l[k]?=some x):l.getD k 0=x:=by simp_all
theorem wi{s:List Int}(h:By s):cS s=some (true,()):=by
 have ⟨⟨v,u⟩,e,hv⟩:=xF (s:=s) (by have:=h.2.1;omega)
 simp_all
theorem ED{S T:Type}{f:S->Option (S⊕T)}(st:Nat->S){n N:Nat}{bad good:T}(p:Nat->Prop)(hn:n<N)
 (h:∀i,i<n->(∀j,j<i->p j)->(p i/\f (st i)=some (.inl (st (i+1))))\/(¬p i/\f (st i)=some (.inr bad)))(he:f (st n)=some (.inr good)):
 ((∀i,i<n->p i)/\bR f N (st 0)=some good)\/((¬ ∀i,i<n->p i)/\bR f N (st 0)=some bad):=by
 have ZZ:∀k i,i+k=n->(∀j,j<i->p j)->∀N,k<N->((∀i,i<n->p i)/\bR f N (st i)=some good)\/((¬ ∀i,i<n->p i)/\bR f N (st i)=some bad):=by
  intro k
  induction k with
  |zero=>
   intro i hi hp N hN
   obtain rfl:i=n:=by omega
   obtain⟨N',rfl⟩:∃N',N=N'+1:=⟨N-1,by omega⟩;exact .inl ⟨hp,by simp only[bR,he,oBS]⟩
  |succ k ih=>
   intro i hi hp N hN;obtain⟨N',rfl⟩:∃N',N=N'+1:=⟨N-1,by omega⟩
   rcases h i (by omega) hp with⟨Su,e⟩|⟨Su,e⟩
   ·simp only[bR,e];refine ih (i+1) (by omega) (λj hj=>?_) N' (by omega);by_cases hji:j=i
    ·rw[hji];exact Su
    ·exact hp j (by omega)
   ·exact .inr ⟨λg=>Su (g i (by omega)),by simp only[bR,e,oBS]⟩
 simp_all
def Bz(o:Option (Bool×Unit))(p:Prop):Prop:=(p/\o=some (true,()))\/(¬p/\o=some (false,()))
theorem Bz.val{o:Option (Bool×Unit)}{p:Prop}(h:Bz o p):∃b,o=some (b,())/\(b=true↔p):=by
 rcases h with⟨h,e⟩|⟨h,e⟩
 all_goals simp_all
theorem Bz.same{o o':Option (Bool×Unit)}{p:Prop}(h:Bz o p)(h':Bz o' p):o=o':=by
 rcases h with⟨h,e⟩|⟨h,e⟩<;>rcases h' with⟨h',e'⟩|⟨h',e'⟩
 ·rw[e,e']
 ·simp_all
 ·simp_all
 ·rw[e,e']
theorem Cd{ss:List Int}(h:ss.length<=1000):Bz (cS ss) (By ss):=by
 have ⟨⟨v,u⟩,e,hv⟩:=xF h
 cases v with
 |true=>exact .inl ⟨hv.1 rfl,e⟩
 |false=>exact .inr ⟨λg=>(by simp_all),e⟩
theorem yD:fD=cS:=rfl
theorem zm{n m o a b c i:Int}(h:dU n m (o,a,b,c,i))(hn:n<=4)(hm:m<=64):cR o a b c i=some (true,()):=by
 obtain⟨⟨o0,o1⟩,⟨a0,a1,a2⟩,⟨b0,b1,b2⟩,⟨c0,c1,c2⟩,⟨i0,i1,i2⟩,hl,hs,hj⟩:=h;dsimp only at *
 have step:∀(k:Nat)(x:Int)(u:Bool),k<3->[a,b,c][k]?=some x->(k=0->u=em o)->(k=1->u=ek o)->(k=2->u=d8 o)->0<=x->x<8->(u=false->x=0)->
  Ok (cw (3,(k:Int),o,a,b,c,i,em o,ek o,d8 o,eB o,[a,b,c],())) (·=.inl (3,((k+1:Nat):Int),o,a,b,c,i,em o,ek o,d8 o,eB o,[a,b,c],())):=by
  intro k x u hk hx h0 h1 h2 Vp Z4 Xm;unfold cw;dsimp only
  (with_reducible refine ci (λXp=>?_) λXp=>?_)
  ·rw[ct];simp only[oBS];rw[show bV [a,b,c] k=some x from hx];simp only[oBS];rw[oDF (show ¬x<0 by omega),oDF (show ¬x>=8 by omega)];simp only[oCF];have ZB:Ok (some ((3:Int),(k:Int),false,o,a,b,c,i,em o,ek o,d8 o,eB o,[a,b,c],())) (·=((3:Int),(k:Int),false,o,a,b,c,i,em o,ek o,d8 o,eB o,[a,b,c],())):=Ok.ret rfl
   have UW:u=false->(x != 0)=false:=λh=>by rw[Xm h];rfl
   refine Ok.bind (P:=(·=((3:Int),(k:Int),false,o,a,b,c,i,em o,ek o,d8 o,eB o,[a,b,c],()))) ?_ ?_
   ·rcases(show k=0\/k=1\/k=2 by omega)with rfl|rfl|rfl
    ·rw[<- h0 rfl]at ZB⊢;refine cx rfl ?_;refine Ok.cond (λhu=>?_) λ_=>ZB;rw[UW (by simpa using hu)];exact ZB
    ·rw[<- h1 rfl]at ZB⊢;refine Ok.cond (λhu=>by cases hu) λ_=>cx rfl (Ok.cond (λhu=>?_) λ_=>ZB);rw[UW (by simpa using hu)];exact ZB
    ·rw[<- h2 rfl]at ZB⊢;refine Ok.cond (λhu=>by cases hu) λ_=>Ok.cond (λhu=>by cases hu) λ_=>cx rfl (Ok.cond (λhu=>?_) λ_=>ZB);rw[UW (by simpa using hu)];exact ZB
   ·rintro _ rfl;dsimp only;rw[cd (x:=(k:Int)+1) (by omega) (by omega)];exact Ok.ret rfl
  ·omega
 have e:bR cw NN (3,0,o,a,b,c,i,em o,ek o,d8 o,eB o,[a,b,c],())=some (.inr (3,3,false,o,a,b,c,i,em o,ek o,d8 o,eB o,[a,b,c],())):=by
  refine wL (st:=λk=>(3,(k:Int),o,a,b,c,i,em o,ek o,d8 o,eB o,[a,b,c],())) (n:=3) (by unfold NN;omega) ?_ ?_
  ·intro k hk
   rcases(show k=0\/k=1\/k=2 by omega)with rfl|rfl|rfl
   ·exact step 0 a _ (by omega) rfl (λ_=>rfl) (by omega) (by omega) a0 a1 a2
   ·exact step 1 b _ (by omega) rfl (by omega) (λ_=>rfl) (by omega) b0 b1 b2
   ·exact step 2 c _ (by omega) rfl (by omega) (by omega) (λ_=>rfl) c0 c1 c2
  ·exact Ok.ret rfl
 refine qn ?_;unfold cR;rw[oDF (show ¬o<0 by omega),oDF (show ¬o>24 by omega),qo o0 o1];simp only[oCF,oBS];rw[show bO [a,b,c].length=3 from rfl,e];dsimp only;rw[oDF (show ¬i<0 by omega),oDF (show ¬i>65535 by omega)];simp only[oCF];refine Ok.bind (P:=(·=(false,o,a,b,c,i,()))) ?_ ?_
 ·refine Ok.cond (λhu=>?_) λ_=>Ok.ret rfl;exact Ok.ret (by rw[i2 (by simpa using hu)];rfl)
 rintro _ rfl;dsimp only;rw[jq];simp only[oCF,oBS];refine Ok.cond (λhu=>?_) λ_=>?_
 ·exact Ok.ret (by rw[oDT (by have:=hj hu;omega)])
 ·(with_reducible refine ci (λhcc=>?_) λhcc=>?_)
  ·exact Ok.ret (by rw[oDT (by have:=hl hcc;omega)])
  ·(with_reducible refine ci (λTc=>?_) λTc=>?_)
   ·exact Ok.ret (by rw[oDT (by have:=hs Tc;omega)])
   ·exact Ok.ret rfl
theorem Bn{code:List DIn}{s:List Int}{d:List (List Int)}(h:oT code s d):cQ code s d=some (0,()):=by
 have hs:=h.sz;have Tj:=hs.2.1;have hc:=h.clen;have hl:=h.len
 have e0:bR cu NN (d,(d.length:Int),0,code,s,d,())=some (.inr (d,(d.length:Int),(d.length:Int),false,code,s,d,())):=by
  refine wL (st:=λk=>(d,(d.length:Int),(k:Int),code,s,d,())) (n:=d.length) (by unfold NN;omega) ?_ ?_
  ·intro k hk;unfold cu;dsimp only
   (with_reducible refine ci (λXp=>?_) λXp=>?_)
   ·rw[ct];delta bO;simp only[oBS];refine Ok.get (by omega) λx hx=>?_;refine Ok.get (by omega) λy hy=>?_;have:=h.fit k x y hx hy
    (with_reducible refine ci (λV1=>?_) λV1=>?_)
    ·omega
    ·(simp (disch:=omega) only [cd,dh,cK,cG])
     exact Ok.ret rfl
   ·omega
  ·unfold cu;dsimp only
   (with_reducible refine ci (λXp=>?_) λXp=>?_)
   ·omega
   ·exact Ok.ret rfl
 have e1:bR cD NN (code,(code.length:Int),0,code,s,d,())=some (.inr (code,(code.length:Int),(code.length:Int),false,code,s,d,())):=by
  refine wL (st:=λk=>(code,(code.length:Int),(k:Int),code,s,d,())) (n:=code.length) (by unfold NN;omega) ?_ ?_
  ·intro k hk;unfold cD;dsimp only
   (with_reducible refine ci (λXp=>?_) λXp=>?_)
   ·rw[ct];simp only[oBS];refine Ok.get (by omega) λx hx=>?_;obtain⟨o,a,b,c,i⟩:=x;rw[zm (h.ins _ (dJ hx)) (by omega) (by omega)]
    (simp (disch:=omega) only [cd,dh,cK,cG])
    exact Ok.ret rfl
   ·omega
  ·unfold cD;dsimp only
   (with_reducible refine ci (λXp=>?_) λXp=>?_)
   ·omega
   ·exact Ok.ret rfl
 have e3:bR cC NN (code,(code.length:Int),0,code,s,d,())=some (.inr (code,(code.length:Int),(code.length:Int),false,code,s,d,())):=by
  refine wL (st:=λk=>(code,(code.length:Int),(k:Int),code,s,d,())) (n:=code.length) (by unfold NN;omega) ?_ ?_
  ·intro k hk;unfold cC;dsimp only
   (with_reducible refine ci (λXp=>?_) λXp=>?_)
   ·rw[ct];simp only[oBS];refine Ok.get (by omega) λx hx=>?_;have hp:=h.ins x (dJ hx);rw[jq];simp only[oBS];refine Ok.bind (P:=(·=(code,(code.length:Int),(k:Int),false,code,s,d,()))) ?_ ?_
    ·refine Ok.cond (λhj=>?_) λ_=>?_
     ·have:=hp.jmp hj
      (with_reducible refine ci (λV1=>?_) λV1=>?_)
      ·have V1:x.2.2.2.2>=(code.length:Int):=V1;omega
      ·(with_reducible refine ci (λhcc=>?_) λhcc=>?_)
       ·exact Ok.ret (by rw[oDF (show ¬x.2.2.2.2>=bO s.length by rw[cG];have:=hp.lea hcc;omega)])
       ·exact Ok.ret rfl
     ·(with_reducible refine ci (λhcc=>?_) λhcc=>?_)
      ·exact Ok.ret (by rw[oDF (show ¬x.2.2.2.2>=bO s.length by rw[cG];have:=hp.lea hcc;omega)])
      ·exact Ok.ret rfl
    ·rintro _ rfl;dsimp only;simp only[oCF]
     (simp (disch:=omega) only [cd,dh,cK,cG])
     exact Ok.ret rfl
   ·omega
  ·unfold cC;dsimp only
   (with_reducible refine ci (λXp=>?_) λXp=>?_)
   ·omega
   ·exact Ok.ret rfl
 refine qn ?_;unfold cQ;rw[wi hs];delta bO;simp only[oBS,oNT,oCF,hl,bne_self_eq_false];rw[hl]at e0;rw[e0];dsimp only
 (with_reducible refine ci (λXp=>?_) λXp=>?_)
 ·omega
 ·(with_reducible refine ci (λV1=>?_) λV1=>?_)
  ·omega
  ·rw[e1];dsimp only;rw[e3];exact Ok.ret rfl
def Fld(u:Bool)(v m:Int):Prop:=v=0\/(u=true/\0<v/\v<=m)
def m8(o:Int):Int:=bif kK o then 63 else bif o==15 then 3 else bif o==23 then 15 else 65535
def DA(o a b c i:Int):Prop:=(0<=o/\o<=24)/\Fld (em o) a 7/\Fld (ek o) b 7/\Fld (d8 o) c 7/\Fld (eB o) i (m8 o)
theorem zD:gZ=dX:=rfl
theorem sg:f6=de:=rfl
theorem vn(o:Int):m8 o<=65535:=by
 unfold m8
 grind
theorem nu{u:Bool}{v m:Int}:Bz (cX u v m) (Fld u v m):=by
 unfold cX Fld;by_cases h0:v=0
 ·rw[show(v==0)=true from beq_iff_eq.2 h0];exact .inl ⟨.inl h0,rfl⟩
 rw[show(v==0)=false from oBF h0]
 cases u with
 |false=>exact .inr ⟨λh=>h.elim h0 λh=>(by cases h.1),rfl⟩
 |true=>
  by_cases h1:v>0
  rotate_left
  ·rw[oDF h1];exact .inr ⟨λh=>by omega,rfl⟩
  rw[oDT h1];by_cases h2:v<=m
  ·rw[oDT h2];exact .inl ⟨.inr ⟨rfl,h1,h2⟩,rfl⟩
  ·rw[oDF h2];exact .inr ⟨λh=>by omega,rfl⟩
theorem CU{o:Int}:gK o=some (m8 o,()):=by
 unfold gK m8;rw[sg,jq]
 grind
theorem EG{o a b c i:Int}:Bz (cV o a b c i) (DA o a b c i):=by
 unfold cV DA;by_cases h0:o<0
 ·rw[oDT h0];exact .inr ⟨λh=>by omega,rfl⟩
 rw[oDF h0];by_cases h1:o>24
 ·rw[oDT h1];exact .inr ⟨λh=>by omega,rfl⟩
 rw[oDF h1,zD,qo (by omega) (by omega)];simp
 rcases nu (v:=a) (m:=7)with⟨hA,e⟩|⟨hA,e⟩
 rotate_left
 ·rw[e];exact .inr ⟨λh=>hA h.2.1,rfl⟩
 rw[e]
 rcases nu (v:=b) (m:=7)with⟨hB,e⟩|⟨hB,e⟩
 rotate_left
 ·rw[e];exact .inr ⟨λh=>hB h.2.2.1,rfl⟩
 rw[e]
 rcases nu (u:=d8 o) (v:=c) (m:=7)with⟨hC,e⟩|⟨hC,e⟩
 rotate_left
 ·rw[e];exact .inr ⟨λh=>hC h.2.2.2.1,rfl⟩
 rw[e,CU]
 rcases nu (u:=eB o) (v:=i) (m:=m8 o)with⟨hI,e⟩|⟨hI,e⟩
 rotate_left
 ·simp;rw[e];exact .inr ⟨λh=>hI h.2.2.2.2,rfl⟩
 simp;rw[e];exact .inl ⟨⟨by omega,hA,hB,hC,hI⟩,rfl⟩
theorem E4{o a b c i:Int}:Bz (cR o a b c i) (DA o a b c i):=by
 have step:∀(k:Nat)(x:Int)(u:Bool),k<3->[a,b,c][k]?=some x->(k=0->u=em o)->(k=1->u=ek o)->(k=2->u=d8 o)->
  (Fld u x 7/\cw (3,(k:Int),o,a,b,c,i,em o,ek o,d8 o,eB o,[a,b,c],())=some (.inl (3,((k+1:Nat):Int),o,a,b,c,i,em o,ek o,d8 o,eB o,[a,b,c],())))\/
  (¬Fld u x 7/\cw (3,(k:Int),o,a,b,c,i,em o,ek o,d8 o,eB o,[a,b,c],())=some (.inr (.inl (false,())))):=by
  intro k x u hk hx h0 h1 h2;unfold cw;dsimp only;rw[oDT (show(k:Int)<3 by omega),ct];simp only[oCT,oBS,show bV [a,b,c] k=some x from hx];by_cases g0:x<0
  ·rw[oDT g0];exact .inr ⟨λh=>by unfold Fld at h;omega,rfl⟩
  rw[oDF g0];by_cases g1:x>=8
  ·rw[oDT g1];exact .inr ⟨λh=>by unfold Fld at h;omega,rfl⟩
  rw[oDF g1];have hw:w64 ((k:Int)+1)=((k+1:Nat):Int):=cd (by omega) (by omega)
  have YA:∀(R:Bool),(R=true↔¬Fld u x 7)->(Fld u x 7/\(bif R then some (.inr (.inl (false,())))else some (.inl ((3:Int),w64 ((k:Int)+1),o,a,b,c,i,em o,ek o,d8 o,eB o,[a,b,c],())):Option ((Int×Int×Int×Int×Int×Int×Int×Bool×Bool×Bool×Bool×(List (Int))×Unit)⊕((Bool×Unit)⊕(Int×Int×Bool×Int×Int×Int×Int×Int×Bool×Bool×Bool×Bool×(List (Int))×Unit))))=some (.inl (3,((k+1:Nat):Int),o,a,b,c,i,em o,ek o,d8 o,eB o,[a,b,c],())))\/
   (¬Fld u x 7/\(bif R then some (.inr (.inl (false,())))else some (.inl ((3:Int),w64 ((k:Int)+1),o,a,b,c,i,em o,ek o,d8 o,eB o,[a,b,c],())):Option ((Int×Int×Int×Int×Int×Int×Int×Bool×Bool×Bool×Bool×(List (Int))×Unit)⊕((Bool×Unit)⊕(Int×Int×Bool×Int×Int×Int×Int×Int×Bool×Bool×Bool×Bool×(List (Int))×Unit))))=some (.inr (.inl (false,())))):=by
   intro R hR
   cases R with
   |true=>exact .inr ⟨hR.1 rfl,rfl⟩
   |false=>exact .inl ⟨Classical.byContradiction λh=>(by cases hR.2 h),by rw[hw];rfl⟩
  have Vp:(x != 0)=true↔¬x=0:=by rw[bne_iff_ne]
  have hF:u=false->((x != 0)=true↔¬Fld u x 7):=λhu=>by
   rw[Vp];unfold Fld;rw[hu];exact⟨λh g=>g.elim h λg=>(by cases g.1),λh g=>h (.inl g)⟩
  have hT:u=true->((false=true)↔¬Fld u x 7):=λhu=>⟨λh=>(by cases h),λh=>absurd (show Fld u x 7 by rw[hu];exact(show x=0\/(0<x/\x<=7) by omega).elim .inl λg=>.inr ⟨rfl,g⟩) h⟩
  rcases(show k=0\/k=1\/k=2 by omega)with rfl|rfl|rfl
  ·have hu:=h0 rfl
   cases hA:em o with
   |true=>rw[hA]at hu YA;exact YA false (hT hu)
   |false=>rw[hA]at hu YA;exact YA (x != 0) (hF hu)
  ·have hu:=h1 rfl
   cases hB:ek o with
   |true=>rw[hB]at hu YA;exact YA false (hT hu)
   |false=>rw[hB]at hu YA;exact YA (x != 0) (hF hu)
  ·have hu:=h2 rfl
   cases hC:d8 o with
   |true=>rw[hC]at hu YA;exact YA false (hT hu)
   |false=>rw[hC]at hu YA;exact YA (x != 0) (hF hu)
 unfold cR;by_cases h0:o<0
 ·rw[oDT h0];exact .inr ⟨λh=>by unfold DA at h;omega,rfl⟩
 rw[oDF h0];by_cases h1:o>24
 ·rw[oDT h1];exact .inr ⟨λh=>by unfold DA at h;omega,rfl⟩
 rw[oDF h1,qo (by omega) (by omega)];simp only[oCF,oBS];rw[show bO [a,b,c].length=3 from rfl]
 rcases ED (f:=cw) (N:=NN) (bad:=.inl (false,())) (good:=.inr (3,3,false,o,a,b,c,i,em o,ek o,d8 o,eB o,[a,b,c],())) (λk=>(3,(k:Int),o,a,b,c,i,em o,ek o,d8 o,eB o,[a,b,c],())) (n:=3) (λk=>match k with|0=>Fld (em o) a 7|1=>Fld (ek o) b 7|_=>Fld (d8 o) c 7) (by unfold NN;omega) (λk hk _=>by
  rcases(show k=0\/k=1\/k=2 by omega)with rfl|rfl|rfl
  ·exact step 0 a _ (by omega) rfl (λ_=>rfl) (by omega) (by omega)
  ·exact step 1 b _ (by omega) rfl (by omega) (λ_=>rfl) (by omega)
  ·exact step 2 c _ (by omega) rfl (by omega) (by omega) (λ_=>rfl)) rfl with⟨hp,e⟩|⟨hp,e⟩
 rotate_left
 ·rw[show bR cw NN (3,0,o,a,b,c,i,em o,ek o,d8 o,eB o,[a,b,c],())=_ from e];refine .inr ⟨λh=>hp λk hk=>?_,rfl⟩
  rcases(show k=0\/k=1\/k=2 by omega)with rfl|rfl|rfl
  ·exact h.2.1
  ·exact h.2.2.1
  ·exact h.2.2.2.1
 rw[show bR cw NN (3,0,o,a,b,c,i,em o,ek o,d8 o,eB o,[a,b,c],())=_ from e];dsimp only;have hA:=hp 0 (by omega);have hB:=hp 1 (by omega);have hC:=hp 2 (by omega)
 have tail:i<=65535->((de o).bind λ(x25,_)=>bif x25 then some ((decide (i<64)),())else bif(o==15)then some ((decide (i<4)),())else bif(o==23)then some ((decide (i<=15)),())else some (true,()))=some (decide (i<=m8 o),()):=by
  intro hi;rw[jq];unfold m8;simp only[oBS];cases kK o<;>cases(o==15)<;>cases(o==23)<;>simp only[oCT,oCF]
  all_goals first
   |rw[oDT hi]
   |rw[show decide (i<64)=decide (i<=63)from decide_eq_decide.2 (by omega)]
   |rw[show decide (i<4)=decide (i<=3)from decide_eq_decide.2 (by omega)]
 have OE:=vn o;by_cases g0:i<0
 ·rw[oDT g0];exact .inr ⟨λh=>by have:=h.2.2.2.2;unfold Fld at this;omega,rfl⟩
 rw[oDF g0];by_cases g1:i>65535
 ·rw[oDT g1];exact .inr ⟨λh=>by have:=h.2.2.2.2;unfold Fld at this;omega,rfl⟩
 rw[oDF g1]
 have X6:0<=m8 o:=by
  unfold m8;cases kK o<;>cases(o==15)<;>cases(o==23)<;>simp only[oCT,oCF]<;>omega
 cases hu:eB o with
 |false=>
  by_cases gi:i=0
  ·subst gi;simp only[oCF,Bool.not_false,oCT,oBS,bne_self_eq_false];rw[tail (by omega),oDT X6];exact .inl ⟨⟨by omega,hA,hB,hC,.inl rfl⟩,rfl⟩
  ·rw[show(i != 0)=true from bne_iff_ne.2 gi];exact .inr ⟨λh=>by have:=h.2.2.2.2;unfold Fld at this;rw[hu]at this;exact this.elim gi λh=>(by cases h.1),rfl⟩
 |true=>
  simp only[oCF,oNT,oBS];rw[tail (by omega)];by_cases gm:i<=m8 o
  ·rw[oDT gm];refine .inl ⟨⟨by omega,hA,hB,hC,?_⟩,rfl⟩;rw[hu];exact(show i=0\/(0<i/\i<=m8 o) by omega).elim .inl λg=>.inr ⟨rfl,g⟩
  ·rw[oDF gm];exact .inr ⟨λh=>by have:=h.2.2.2.2;unfold Fld at this;omega,rfl⟩
theorem BT{o a b c i:Int}:cV o a b c i=cR o a b c i:=EG.same E4
def RK(bs ss:List Int)(a:Int):Prop:=∃(j:Nat)(b z:Int),bs[j]?=some b/\ss[j]?=some z/\b<=a/\a<b+z
def DK(K:Int->Prop)(c:DCe):Prop:=0<=c.1/\c.1<=2/\0<=c.2/\c.2<=65535/\(c.1=1->K c.2)
theorem DK.mono{K K':Int->Prop}{c:DCe}(h:DK K c)(hk:∀a,K a->K' a):DK K' c:=⟨h.1,h.2.1,h.2.2.1,h.2.2.2.1,λe=>hk _ (h.2.2.2.2 e)⟩
def EX(K:Int->Prop)(i:Nat)(x:DLn):Prop:=(x.1=-1/\x.2.1=false/\x.2.2=[])\/(0<=x.1/\x.1<128/\x.1%4=i/\x.2.2.length=4/\∀c∈x.2.2,DK K c)
def Fr(cs:List DCe)(x:DLn):Prop:=x.1=-1\/x.2.1=true\/∀o:Nat,o<4->cs[(x.1*4).toNat+o]?=x.2.2[o]?
structure Dy (K:Int->Prop)(cs:List DCe)(ls:List DLn):Prop where
 clen:cs.length=512
 cells:∀c∈cs,DK K c
 llen:ls.length=4
 lines:∀(i:Nat) x,ls[i]?=some x->EX K i x
 coh:∀(i:Nat) x,ls[i]?=some x->Fr cs x
structure Fk (K:Int->Prop)(n:Int)(t:DTh):Prop where
 state:0<=t.1/\t.1<=4
 len:t.2.1.length=8
 regs:∀c∈t.2.1,DK K c
 pc:0<=t.2.2.1/\t.2.2.1<=255
 count:0<=t.2.2.2.1/\t.2.2.2.1<=n
 handler:-1<=t.2.2.2.2.1/\t.2.2.2.2.1<=255
 saved:-1<=t.2.2.2.2.2.1/\t.2.2.2.2.2.1<=255
 trap:0<=t.2.2.2.2.2.2.1/\t.2.2.2.2.2.2.1<=6
 code:W16 t.2.2.2.2.2.2.2
structure MOk (n:Int)(ss bs:List Int)(cs:List DCe)(ls:List DLn)(ts:List DTh):Prop where
 lay:LV bs ss
 mem:Dy (RK bs ss) cs ls
 tlen:ts.length=4
 thr:∀t∈ts,Fk (RK bs ss) n t
theorem mi{α:Type}{P:α->Prop}{l:List α}{i:Nat}{f:α->α}(h:∀x∈l,P x)(hf:∀x,P x->P (f x)):∀x∈List.modify l i f,P x:=by
 intro x hx;have ⟨j,hj⟩:=List.getElem?_of_mem hx
 grind
def Pr(ss:List Int)(c:DCn):Prop:=
 ((c.1=0\/c.1=2)/\c.2.2.1=0/\c.2.2.2=0/\W16 c.2.1)\/(c.1=1/\c.2.1=0/\0<=c.2.2.1/\∃n,ss[c.2.2.1.toNat]?=some n/\0<=c.2.2.2/\c.2.2.2<n)
theorem getD_some{α:Type}{l:List α}{k:Nat}{d x:α}(h:l[k]?=some x):l.getD k d=x:=by simp_all
theorem LV.at_{bs ss:List Int}(h:LV bs ss){r:Nat}(hr:r<ss.length):∃b z,bs[r]?=some b/\ss[r]?=some z/\1<=z/\z<=32/\0<=b/\b+z<=512:=by
 have ⟨hs,hl,hg⟩:=h;have ⟨z,hz⟩:∃z,ss[r]?=some z:=⟨_,oGE (by omega)⟩;have h1:=hg r (by omega);unfold Dv at h1;have h2:=hs.2.2 z (dJ hz)
 simp_all
structure Fj (n:Int)(ss:List Int)(v:DTs):Prop where
 state:0<=v.1/\v.1<=4
 pc:0<=v.2.1/\v.2.1<=255
 count:0<=v.2.2.1/\v.2.2.1<=n
 handler:-1<=v.2.2.2.1/\v.2.2.2.1<=255
 saved:-1<=v.2.2.2.2.1/\v.2.2.2.2.1<=255
 trap:0<=v.2.2.2.2.2.1/\v.2.2.2.2.2.1<=6
 code:W16 v.2.2.2.2.2.2.1
 len:v.2.2.2.2.2.2.2.length=8
 regs:∀c∈v.2.2.2.2.2.2.2,Pr ss c
structure Ft (n:Int)(ss:List Int)(rg:List (List DCn))(vs:List DTs):Prop where
 rlen:rg.length=ss.length
 fit:∀(j:Nat) x z,rg[j]?=some x->ss[j]?=some z->(x.length:Int)=z
 cells:∀x∈rg,∀c∈x,Pr ss c
 vlen:vs.length=4
 views:∀v∈vs,Fj n ss v
theorem LV.apart{bs ss:List Int}(h:LV bs ss){r r':Nat}{b z b' z' o o':Int}(hne:r≠r')(hb:bs[r]?=some b)(hz:ss[r]?=some z)(YS:bs[r']?=some b')(US:ss[r']?=some z')(h0:0<=o)(h1:o<z)(Ov:0<=o')(S7:o'<z'):b+o≠b'+o':=by
 have ⟨_,hl,hg⟩:=h;have l1:=(oGS hb).1;have l2:=(oGS YS).1;have g1:=hg r l1;have g2:=hg r' l2;unfold Dv at g1 g2;rw[jt hb,jt hz]at g1;rw[jt YS,jt US]at g2;by_cases hlt:r'<r
 ·have:=g1.2.2 r' hlt;rw[jt YS,jt US]at this;omega
 ·have:=g2.2.2 r (by omega);rw[jt hb,jt hz]at this;omega
def yW:List CT->CT
 | []=>.nat
 | [t]=>t
 |t::u::r=>.pair t (yW (u::r))
def jY:(l:List CT)->HL den l->den (yW l)
 | [],_=>(0:Nat)
 | [_],h=>h.1
 |_::u::r,h=>(h.1,jY (u::r) h.2)
def encL:(l:List CT)->HL den l->List TV
 | [],_=>[]
 |t::r,h=>enc t h.1++encL r h.2
theorem vJ:∀(l:List CT)(h:HL den l),enc (yW l) (jY l h)=encL l h
 | [],_=>rfl
 | [_],h=>(List.append_nil _).symm
 |_::u::r,h=>by
  show enc _ h.1++enc (yW (u::r)) (jY (u::r) h.2)=_;rw[vJ (u::r) h.2];rfl
def rI:(c:CT)->den c->Prop
 |.int k,n=>(Lit.int k n).wf=true
 |.str,s=>ByteArray.size s<=maxLen
 |.row _ t,xs=>List.length xs<=maxLen/\∀x∈xs,rI t x
 |.pair a b,x=>rI a x.1/\rI b x.2
 |_,_=>True
def GoodL:(l:List CT)->HL den l->Prop
 | [],_=>True
 |t::r,h=>rI t h.1/\GoodL r h.2
theorem sU:∀(l:List CT)(h:HL den l),GoodL l h->rI (yW l) (jY l h)
 | [],_,_=>trivial
 | [_],_,g=>g.1
 |_::u::r,h,g=>⟨g.1,sU (u::r) h.2 g.2⟩
def appL:(l m:List CT)->HL den l->HL den m->HL den (l++m)
 | [],_,_,k=>k
 |_::r,m,h,k=>(h.1,appL r m h.2 k)
theorem vK:∀(l m:List CT)(h:HL den l)(k:HL den m),encL (l++m) (appL l m h k)=encL l h++encL m k
 | [],_,_,_=>rfl
 |t::r,m,h,k=>by
  show enc t h.1++encL (r++m) (appL r m h.2 k)=(enc t h.1++encL r h.2)++_;rw[vK r m h.2 k,List.append_assoc]
theorem vC:∀(l m:List CT)(h:HL den l)(k:HL den m),GoodL l h->GoodL m k->GoodL (l++m) (appL l m h k)
 | [],_,_,_,_,g=>g
 |_::r,m,h,k,g,g'=>⟨g.1,vC r m h.2 k g.2 g'⟩
def RelL(w:World):List TV->List Value->Prop
 | [],[]=>True
 |t::ts,v::vs=>fj w (λ_=>True) t v/\RelL w ts vs
 |_,_=>False
theorem RelL.app{w:World}:∀{a:List TV}{x:List Value}{b:List TV}{y:List Value},RelL w a x->RelL w b y->RelL w (a++b) (x++y)
 | [],[],_,_,_,h=>h
 |_::a,_::x,_,_,g,h=>⟨g.1,RelL.app (a:=a) (x:=x) g.2 h⟩
 | [],_::_,_,_,g,_=>g.elim
 |_::_,[],_,_,g,_=>g.elim
theorem RelL.len{w:World}:∀{a:List TV}{x:List Value},RelL w a x->a.length=x.length
 | [],[],_=>rfl
 |_::a,_::x,g=>by rw[oLC,oLC,RelL.len (a:=a) (x:=x) g.2]
 | [],_::_,g=>g.elim
 |_::_,[],g=>g.elim
theorem RelL.get{w:World}:∀{a:List TV}{x:List Value},RelL w a x->∀j (h:j<a.length)(h':j<x.length),fj w (λ_=>True) a[j] x[j]
 |_::_,_::_,g,0,_,_=>g.1
 |_::a,_::x,g,j+1,h,h'=>RelL.get (a:=a) (x:=x) g.2 j (by simpa using h) (by simpa using h')
 | [],_,_,_,h,_=>by simp at h
 |_::_,[],g,_,_,_=>g.elim
def DV(P:Program)(g:TypeId->Option (List CT)):Nat->List Field->Option (List CT)
 |_,[]=>some []
 |off,f::fs=>match g f.type with
  |some l=>if f.offset=off/\l.length=P.cellsOf f.type then(DV P g (off+l.length) fs).map (l++·)else none
  |none=>none
def nW(P:Program):Nat->TypeId->Option (List CT)
 |0,_=>none
 |n+1,t=>match P.underlying t with
  |some .bool=>some [.bool]
  |some (.int k)=>some [.int k]
  |some .string=>some [.str]
  |some (.slice e)=>match nW P n e with
   |some l=>if l.length=P.cellsOf e then some [.row false (yW l)]else none
   |none=>none
  |some (.struct fs)=>match DV P (nW P n) 0 fs.toList with
   |some l=>if l.length=P.cellsOf t then some l else none
   |none=>none
  |_=>none
section
variable {H:Type} {ec:TypeId×Value->H} {P:Program} {w:World} {base:Nat} {spare:Nat->Bool} {held:Bool}
theorem zl{g:TypeId->Option (List CT)}{m:Nat}{cs:List Value}
 (ih:∀t L,g t=some L->∀cs x,DataW.trod ec P w base spare held m t cs=some x->∃h:HL den L,GoodL L h/\RelL w (encL L h) cs):
 ∀(fs:List Field)(off:Nat)(L:List CT),DV P g off fs=some L->(∀f∈fs,∃x,DataW.trod ec P w base spare held m f.type ((cs.drop f.offset).take (P.cellsOf f.type))=some x)->
  ∃h:HL den L,GoodL L h/\RelL w (encL L h) ((cs.drop off).take L.length):=by
 intro fs
 induction fs with
 |nil=>
  intro off L hL _
  injection hL with hL
  subst hL;exact⟨(),trivial,trivial⟩
 |cons f fs SY=>
  intro off L hL hx;unfold DV at hL;split at hL
  ·rename_i l hg;split at hL
   ·rename_i ho;obtain⟨rfl,hlen⟩:=ho
    cases hr:DV P g (f.offset+l.length) fs with
    |none=>simp_all
    |some L2=>
     rw[hr]at hL
     injection hL with hL
     subst hL;obtain⟨x,h1⟩:=hx f List.mem_cons_self;obtain⟨h,g1,r1⟩:=ih _ _ hg _ _ h1;have ⟨k,g2,r2⟩:=SY _ _ hr λf' Te=>hx f' (List.mem_cons_of_mem _ Te);refine⟨appL l L2 h k,vC _ _ _ _ g1 g2,?_⟩;rw[vK,List.length_append,List.take_add,List.drop_drop];rw[hlen];rw[hlen]at r2;exact r1.app r2
   ·cases hL
  ·cases hL
theorem D7:∀(n:Nat)(t:TypeId)(L:List CT),nW P n t=some L->∀(X7:Nat)(cs:List Value)(x:DataW H×List MemPlace),DataW.trod ec P w base spare held X7 t cs=some x ->
 ∃h:HL den L,GoodL L h/\RelL w (encL L h) cs:=by
 intro n
 induction n with
 |zero=>intro t L h;cases h
 |succ n ih=>
  intro t L hL X7 cs x hx;unfold nW at hL;split at hL
  ·rename_i ht
   injection hL with hL
   subst hL;obtain⟨b,rfl,_⟩:=DataW.trod_bool ht hx;exact⟨(b,()),⟨trivial,trivial⟩,.v rfl,trivial⟩
  ·rename_i k ht
   injection hL with hL
   subst hL;obtain⟨z,rfl,_,hw⟩:=DataW.trod_int ht hx;exact⟨(z,()),⟨hw,trivial⟩,.v rfl,trivial⟩
  ·rename_i ht
   injection hL with hL
   subst hL;obtain⟨s,rfl,_,hs⟩:=DataW.trod_string ht hx;exact⟨(s,()),⟨hs,trivial⟩,.v rfl,trivial⟩
  ·rename_i e ht;split at hL
   ·rename_i l hl;split at hL
    ·rename_i hsz
     injection hL with hL
     subst hL
     rcases DataW.trod_slice ht hx with⟨rfl,_⟩|⟨a,len,cap,Qs,rest,m,_,rfl,_,_,XQ,hmax,Y8,Z7,_,_⟩
     ·exact⟨([],()),⟨⟨Nat.zero_le _,λx hx=>by cases hx⟩,trivial⟩,.sl (c:=[]) 1 (λ_ _=>undef) (λi h=>by simp at h) (Nat.le_refl _) (Nat.zero_le _) (λ_=>rfl) (λi j h=>by simp at h) (λi j h=>by simp at h),trivial⟩
     ·have Rl:∀i:Fin len,∃p:HL den l×List Value,GoodL l p.1/\RelL w (encL l p.1) p.2/\w.cells? base (a.add (i.1*P.cellsOf e)) (P.cellsOf e)=some p.2:=by
       intro i;have h1:=Z7 i.1 i.2;rw[oGE (by omega)]at h1;obtain⟨Yy,h2,h3⟩:=Option.bind_eq_some_iff.1 h1;obtain⟨h,g,r⟩:=ih _ _ hl _ _ _ h3;exact⟨(h,Yy),g,r,h2⟩
      obtain⟨f,hf⟩:=Classical.axiomOfChoice Rl
      have clen:∀i,(encL l (f i).1).length=l.length:=λi=>by
       rw[(hf i).2.1.len,(World.cells?_some (hf i).2.2).2.1,hsz]
      have ZZ:fj w (λ_=>True) (.sl ((List.ofFn λi:Fin len=>jY l (f i).1).map (enc (yW l)))) (.slice (some a) ((List.ofFn λi:Fin len=>jY l (f i).1).map (enc (yW l))).length cap):=by
       have el:((List.ofFn λi:Fin len=>jY l (f i).1).map (enc (yW l))).length=len:=by simp
       have eg:∀i (hi:i<((List.ofFn λi:Fin len=>jY l (f i).1).map (enc (yW l))).length),((List.ofFn λi:Fin len=>jY l (f i).1).map (enc (yW l)))[i]=encL l (f ⟨i,by omega⟩).1:=by
        intro i hi;simp[vJ]
       refine .sl l.length (λi j=>if h:i<len then(f ⟨i,h⟩).2.getD j undef else undef) (λi hi=>by rw[eg i hi,clen]) (by rw[el];exact XQ) hmax (λh=>by cases h) (λi j hi hj=>?_) (λi j hi hj=>?_)
       ·rw[el]at hi
        have cell:∀i' (ZF:i'<len) j',j'<l.length->w.cell? ((a.add (i'*l.length)).add j')=some ((f ⟨i',ZF⟩).2.getD j' undef):=by
         intro i' ZF j' ZY;have h1:=World.cells?_some (hf ⟨i',ZF⟩).2.2;have h2:=h1.2.2 j' (by omega);rw[hsz];rw[h2]
         have:j'<(f ⟨i',ZF⟩).2.length:=by rw[h1.2.1];omega
         simp[this]
        have h0:=World.cell?_spot (cell 0 (by omega) 0 (by omega));obtain⟨b,o,spot⟩:=a
        have Un:spot=none:=by simpa[Addr.add]using h0
        subst Un;refine⟨b,o,rfl,trivial,?_⟩;have h2:=cell i hi j hj;rw[Go.WideShapes.add_plain,Go.WideShapes.add_plain]at h2;rw[dif_pos hi,<- h2,Nat.add_assoc]
       ·rw[el]at hi;have hr:=(hf ⟨i,hi⟩).2.1
        have Yv:j<(encL l (f ⟨i,hi⟩).1).length:=by rw[eg i (by omega)]at hj;exact hj
        have VG:j<(f ⟨i,hi⟩).2.length:=by rw[<- hr.len];exact Yv
        have h3:=hr.get j Yv VG
        simp_all
      rw[List.length_map,List.length_ofFn]at ZZ;refine⟨(List.ofFn λi:Fin len=>jY l (f i).1,()),⟨⟨by rw[List.length_ofFn];omega,λx hx=>?_⟩,trivial⟩,ZZ,trivial⟩;obtain⟨i,rfl⟩:=List.mem_ofFn.1 hx;exact sU _ _ (hf i).1
    ·cases hL
   ·cases hL
  ·rename_i fs ht;split at hL
   ·rename_i l hl;split at hL
    ·rename_i hsz
     injection hL with hL
     subst hL;obtain⟨xs,m,_,_,hlen,OI,hf⟩:=DataW.trod_struct ht hx
     obtain⟨h,g,r⟩:=zl (cs:=cs) (m:=m) (λt L hL cs x hx=>ih t L hL m cs x hx) fs.toList 0 l hl (by
      intro f Pm;obtain⟨i,hi,rfl⟩:=List.mem_iff_getElem.1 Pm
      have V8:i<fs.size:=by simpa using hi
      have h1:=hf i fs[i] (by simp[V8]);rw[oGE (by omega)]at h1
      exact⟨_,by simpa using h1⟩)
     refine⟨h,g,?_⟩;rw[List.drop_zero,hsz,<- hlen,List.take_length]at r;exact r
    ·cases hL
   ·cases hL
  ·cases hL
theorem intake_arg(n:Nat){t:TypeId}{L:List CT}{v:Value}{d:DataW H}{p:List MemPlace}(hL:nW P n t=some L)(h:DataW.Trod ec P w base spare held t v d p):
 ∃h:HL den L,GoodL L h/\RelL w (encL L h) v.cells.toList:=by
 have ⟨X7,hf⟩:=h;exact D7 n t L hL X7 _ _ hf
end
theorem plain_one{w:World}{t:TV}{v:Value}(r:RelL w [t] [v]):tA w t v:=r.1.plain
theorem plain_agg{w:World}{l:List TV}{cs:Array Value}(r:RelL w l cs.toList):tA w (.agg l) (.agg cs):=by
 intro F V C G hF
 have hl:cs.size=l.length:=by rw[r.len];simp
 refine .agg hl λj hj=>?_
 have Yv:j<cs.toList.length:=by simp_all
 have h1:=(r.get j hj Yv).plain F V C G hF
 simp_all
theorem CV{a b:Int}(ha:uR a)(hb:0<b)(Z0:b<=9223372036854775807):ft a b=some (a%b,()):=by
 have hne:(b != 0)=true:=by simp;omega
 have hm:=Int.tmod_lt_of_pos a hb
 have hm2:-b<Int.tmod a b:=by
  have:=Int.tmod_lt_of_pos (-a) hb;rw[Int.neg_tmod]at this;omega
 have hq:a%b=Int.tmod a b%b:=by
  have e:=Int.mul_tdiv_add_tmod a b;rw[Int.add_comm]at e
  conv=>lhs;rw[<- e]
  exact Int.add_mul_emod_self_left ..
 unfold ft;simp only[hne,oCT];by_cases h:Int.tmod a b<0
 ·simp[h,decide_true,oCT,oBS];rw[cd (by omega) (by omega),hq,<- Int.emod_eq_of_lt (a:=Int.tmod a b+b) (b:=b) (by omega) (by omega),Int.add_emod_right]
 ·simp[h,decide_false,oCF];rw[hq,Int.emod_eq_of_lt (by omega) hm]
theorem BQ{a b:Int}(ha:uR a)(hb:0<b)(Z0:b<=9223372036854775807):iK a b=some (a%b,()):=by
 unfold iK;rw[CV ha hb Z0];rfl
def Sh4(ls:List DLn):Prop:=ls.length<=4/\∀x∈ls,x.2.2.length<=4
theorem EX.len{K:Int->Prop}{i:Nat}{x:DLn}(h:EX K i x):x.2.2.length<=4:=by
 rcases h with⟨_,_,h⟩|⟨_,_,_,h,_⟩
 ·simp_all
 ·omega
theorem Dy.sh4{K:Int->Prop}{cs:List DCe}{ls:List DLn}(h:Dy K cs ls):Sh4 ls:=⟨by rw[h.llen];omega,λx hx=>by
 obtain⟨i,hi⟩:=List.getElem?_of_mem hx
 exact(h.lines i x hi).len⟩
theorem g64{h:den I64}(g:rI I64 h):uR h:=bounds_i64 g
theorem Eb{h:den RI}(g:rI RI h):(∀z∈(show List Int from h),uR z)/\(show List Int from h).length<=maxLen:=⟨λz hz=>bounds_i64 (g.2 z hz),g.1⟩
theorem EQ{S T:Type}{f g:S->Option (S⊕T)}(P:S->Prop)(R:T->Prop)(m:S->Nat){n:Nat}{s:S}(hs:P s)(hm:m s<n)
 (h:∀s,P s->(∃s',f s=some (.inl s')/\g s=some (.inl s')/\P s'/\m s'<m s)\/(∃t,f s=some (.inr t)/\g s=some (.inr t)/\R t)):∃t,bR f n s=some t/\bR g n s=some t/\R t:=by
 induction n generalizing s with
 |zero=>omega
 |succ n ih=>
  rcases h s hs with⟨s',e1,e2,hp,hl⟩|⟨t,e1,e2,hr⟩
  ·simp only[bR,e1,e2,oBS];exact ih hp (by omega)
  ·exact⟨t,by simp only[bR,e1,oBS],by simp only[bR,e2,oBS],hr⟩
def Fq(ss:List Int)(dt:List (List Int)):Prop:=∀i,i<dt.length->∀d z,dt[i]?=some d->ss[i]?=some z->(d.length:Int)<=z
def VJ(code:List DIn)(j:Nat):Prop:=∀x,code[j]?=some x->DA x.1 x.2.1 x.2.2.1 x.2.2.2.1 x.2.2.2.2
def BM(n m:Int)(x:DIn):Bool:=(kK x.1&&decide (x.2.2.2.2>=n))||(x.1==15&&decide (x.2.2.2.2>=m))
def RJ(code:List DIn)(n m:Int)(j:Nat):Prop:=∀x,code[j]?=some x->BM n m x=false
structure PrV (code:List DIn)(ss:List Int)(dt:List (List Int)):Prop where
 sz:By ss
 len:dt.length=ss.length
 fit:Fq ss dt
 cl:1<=code.length/\code.length<=64
 ins:∀j,j<code.length->VJ code j
 rng:∀j,j<code.length->RJ code code.length ss.length j
theorem Di:i6=cu:=rfl
theorem Fg{code:List DIn}{ss:List Int}{dt:List (List Int)}(hc:code.length<=1000):
 (¬(∀j,j<code.length->VJ code j)/\bR dc NN (0,code,(code.length:Int),0,code,ss,dt,())=some (.inl (5,())))\/
 ((∀j,j<code.length->VJ code j)/\∃e a b c d,bR dc NN (0,code,(code.length:Int),0,code,ss,dt,())=some (.inr (e,a,b,c,d,code,ss,dt,()))/\
  ((e=0/\∀j,j<code.length->RJ code code.length ss.length j)\/(e=6/\¬ ∀j,j<code.length->RJ code code.length ss.length j))):=by
 obtain⟨t,e1,_,ht⟩:=EQ (f:=dc) (g:=dc) (n:=NN) (s:=(0,code,(code.length:Int),0,code,ss,dt,()))
  (P:=λs=>∃(k:Nat)(e:Int),s=(e,code,(code.length:Int),(k:Int),code,ss,dt,())/\k<=code.length/\(∀j,j<k->VJ code j)/\((e=0/\∀j,j<k->RJ code code.length ss.length j)\/(e=6/\∃j,j<k/\¬RJ code code.length ss.length j)))
  (R:=λt=>(t=.inl (5,())/\¬ ∀j,j<code.length->VJ code j)\/∃e a b c d,t=.inr (e,a,b,c,d,code,ss,dt,())/\(∀j,j<code.length->VJ code j)/\((e=0/\∀j,j<code.length->RJ code code.length ss.length j)\/(e=6/\¬ ∀j,j<code.length->RJ code code.length ss.length j)))
  (m:=λs=>(s.2.2.1-s.2.2.2.1).toNat) ⟨0,0,rfl,by omega,λj hj=>by omega,.inl ⟨rfl,λj hj=>by omega⟩⟩ (by unfold NN;dsimp only;omega) (by
   rintro _ ⟨k,e,rfl,hk,hV,hR⟩;unfold dc;delta bO;dsimp only;by_cases hkl:k<code.length
   rotate_left
   ·obtain rfl:k=code.length:=by omega
    rw[oDF (show ¬(code.length:Int)<code.length by omega)];refine .inr ⟨_,rfl,rfl,.inr ⟨_,_,_,_,_,rfl,hV,?_⟩⟩;rcases hR with h|⟨h,j,hj,hn⟩
    ·exact .inl h
    ·exact .inr ⟨h,λg=>hn (g j hj)⟩
   have hx:code[k]?=some code[k]:=oGE hkl;rw[oDT (show(k:Int)<code.length by omega),ct];simp only[oCT,oBS,show bV code k=some code[k]from hx];generalize code[k]=x at hx
   rcases EG (o:=x.1) (a:=x.2.1) (b:=x.2.2.1) (c:=x.2.2.2.1) (i:=x.2.2.2.2)with⟨hv,ev⟩|⟨hv,ev⟩
   rotate_left
   ·rw[ev];exact .inr ⟨_,rfl,rfl,.inl ⟨rfl,λg=>hv (g k hkl x hx)⟩⟩
   rw[ev,sg,jq]
   have QD:∀j,j<k+1->VJ code j:=λj hj=>by
    by_cases hjk:j=k
    ·subst hjk;intro y hy;rw[hx]at hy
     injection hy with hy
     rw[<- hy];exact hv
    ·exact hV j (by omega)
   have UA:BM code.length ss.length x=false->(((e=0/\∀j,j<k->RJ code code.length ss.length j)\/(e=6/\∃j,j<k/\¬RJ code code.length ss.length j))->((e=0/\∀j,j<k+1->RJ code code.length ss.length j)\/(e=6/\∃j,j<k+1/\¬RJ code code.length ss.length j))):=by
    intro hb h
    rcases h with⟨h,g⟩|⟨h,j,hj,g⟩
    ·refine .inl ⟨h,λj hj=>?_⟩;by_cases hjk:j=k
     ·subst hjk;intro y hy;rw[hx]at hy
      injection hy with hy
      rw[<- hy];exact hb
     ·exact g j (by omega)
    ·exact .inr ⟨h,j,by omega,g⟩
   have no:BM code.length ss.length x=true->(((6:Int)=0/\∀j,j<k+1->RJ code code.length ss.length j)\/((6:Int)=6/\∃j,j<k+1/\¬RJ code code.length ss.length j)):=λhb=>.inr ⟨rfl,k,by omega,λg=>by have:=g x hx;rw[hb]at this;cases this⟩;have hw:w64 ((k:Int)+1)=((k+1:Nat):Int):=cd (by omega) (by omega)
   have hm:((code.length:Int)-((k+1:Nat):Int)).toNat<((code.length:Int)-(k:Int)).toNat:=by omega
   simp only[oBS,oNT,oCF]
   have ZB:∀B:Bool,BM code.length ss.length x=B->∃s',(some (.inl ((bif B then(6:Int)else e),code,(code.length:Int),w64 ((k:Int)+1),code,ss,dt,())):Option ((Int×(List DIn)×Int×Int×(List DIn)×(List (Int))×(List (List (Int)))×Unit)⊕((Int×Unit)⊕(Int×(List DIn)×Int×Int×Bool×(List DIn)×(List (Int))×(List (List (Int)))×Unit))))=some (.inl s')/\
    (∃(k:Nat)(e:Int),s'=(e,code,(code.length:Int),(k:Int),code,ss,dt,())/\k<=code.length/\(∀j,j<k->VJ code j)/\((e=0/\∀j,j<k->RJ code code.length ss.length j)\/(e=6/\∃j,j<k/\¬RJ code code.length ss.length j)))/\(s'.2.2.1-s'.2.2.2.1).toNat<((code.length:Int)-(k:Int)).toNat:=by
    intro B hB;rw[hw]
    cases B with
    |true=>exact⟨_,rfl,⟨k+1,6,rfl,by omega,QD,no hB⟩,hm⟩
    |false=>exact⟨_,rfl,⟨k+1,e,rfl,by omega,QD,UA hB hR⟩,hm⟩
   unfold BM at ZB;cases hj:kK x.1<;>cases hn:decide (x.2.2.2.2>=(code.length:Int))<;>cases h15:(x.1==15)<;>cases hn2:decide (x.2.2.2.2>=(ss.length:Int))<;>rw[hj,hn,h15,hn2]at ZB
   all_goals
    first
     |obtain⟨s',g1,g2,g3⟩:=ZB true rfl;exact .inl ⟨s',g1,g1,g2,g3⟩
     |obtain⟨s',g1,g2,g3⟩:=ZB false rfl;exact .inl ⟨s',g1,g1,g2,g3⟩)
 rcases ht with⟨rfl,h⟩|⟨e,a,b,c,d,rfl,h1,h2⟩
 ·exact .inl ⟨h,e1⟩
 ·exact .inr ⟨h1,e,a,b,c,d,e1,h2⟩
theorem jN{code:List DIn}{ss:List Int}{dt:List (List Int)}(hc:code.length<=1000)(hs:ss.length<=1000)(hd:dt.length<=1000):
 ∃e,f7 code ss dt=some (e,())/\cQ code ss dt=some (e,())/\(e=0->PrV code ss dt)/\(PrV code ss dt->e=0):=by
 unfold f7 cQ;rw[yD]
 rcases Cd hs with⟨hz,e⟩|⟨hz,e⟩
 rotate_left
 ·rw[e];exact⟨1,rfl,rfl,λh=>(by cases h),λh=>absurd h.sz hz⟩
 rw[e];delta bO;simp only[oBS,oNT,oCF];by_cases hl:(dt.length:Int)=ss.length
 rotate_left
 ·rw[bne_iff_ne.2 hl];exact⟨1,rfl,rfl,λh=>(by cases h),λh=>absurd (show(dt.length:Int)=ss.length by rw[h.len]) hl⟩
 rw[bne_eq_false_iff_eq.2 hl,Di];simp only[oCF]
 rcases ED (f:=cu) (N:=NN) (bad:=.inl (1,())) (good:=.inr (dt,(dt.length:Int),(dt.length:Int),false,code,ss,dt,())) (λi=>(dt,(dt.length:Int),(i:Int),code,ss,dt,())) (n:=dt.length) (λi=>∀d z,dt[i]?=some d->ss[i]?=some z->(d.length:Int)<=z) (by unfold NN;omega) (λi hi _=>by
  have hx:dt[i]?=some dt[i]:=oGE hi;have hy:ss[i]?=some ss[i]:=oGE (by omega);generalize dt[i]=x at hx;generalize ss[i]=y at hy;unfold cu;delta bO;dsimp only;rw[oDT (show(i:Int)<dt.length by omega),ct];simp only[oCT,oBS,show bV dt i=some x from hx,show bV ss i=some y from hy];by_cases g:(x.length:Int)>y
  ·rw[oDT g];exact .inr ⟨λh=>by have:=h _ _ hx hy;omega,rfl⟩
  ·rw[oDF g,cd (x:=(i:Int)+1) (by omega) (by omega)]
   exact .inl ⟨λd z hd hz=>by rw[hx]at hd;rw[hy]at hz;injection hd with hd;injection hz with hz;rw[<- hd,<- hz];omega,rfl⟩) (by
  unfold cu;dsimp only;rw[oDF (show ¬(dt.length:Int)<dt.length by omega)]
  rfl)with⟨hp,e⟩|⟨hp,e⟩
 rotate_left
 ·rw[show bR cu NN (dt,(dt.length:Int),0,code,ss,dt,())=_ from e];exact⟨1,rfl,rfl,λh=>(by cases h),λh=>absurd h.fit hp⟩
 rw[show bR cu NN (dt,(dt.length:Int),0,code,ss,dt,())=_ from e];dsimp only;by_cases h0:code.length=0
 ·rw[show((code.length:Int)==0)=true from beq_iff_eq.2 (by omega),oDT (show(code.length:Int)<1 by omega)];exact⟨3,rfl,rfl,λh=>(by cases h),λh=>by have:=h.cl.1;omega⟩
 rw[show((code.length:Int)==0)=false from oBF (by omega),oDF (show ¬(code.length:Int)<1 by omega)];by_cases h64:(code.length:Int)>64
 ·rw[oDT h64];exact⟨3,rfl,rfl,λh=>(by cases h),λh=>by have:=h.cl.2;omega⟩
 rw[oDF h64];simp only[oCF]
 have r1:=ED (f:=cD) (N:=NN) (bad:=.inl (5,())) (good:=.inr (code,(code.length:Int),(code.length:Int),false,code,ss,dt,())) (λi=>(code,(code.length:Int),(i:Int),code,ss,dt,())) (n:=code.length) (λi=>VJ code i) (by unfold NN;omega) (λi hi _=>by
  have hx:code[i]?=some code[i]:=oGE hi;generalize code[i]=x at hx;unfold cD;dsimp only;rw[oDT (show(i:Int)<code.length by omega),ct];simp only[oCT,oBS,show bV code i=some x from hx]
  rcases E4 (o:=x.1) (a:=x.2.1) (b:=x.2.2.1) (c:=x.2.2.2.1) (i:=x.2.2.2.2)with⟨hv,ev⟩|⟨hv,ev⟩
  ·rw[ev,cd (x:=(i:Int)+1) (by omega) (by omega)];exact .inl ⟨λy hy=>by rw[hx]at hy;injection hy with hy;rw[<- hy];exact hv,rfl⟩
  ·rw[ev]
   exact .inr ⟨λh=>hv (h x hx),rfl⟩) (by
  unfold cD;dsimp only;rw[oDF (show ¬(code.length:Int)<code.length by omega)]
  rfl)
 have r2:=ED (f:=cC) (N:=NN) (bad:=.inl (6,())) (good:=.inr (code,(code.length:Int),(code.length:Int),false,code,ss,dt,())) (λi=>(code,(code.length:Int),(i:Int),code,ss,dt,())) (n:=code.length) (λi=>RJ code code.length ss.length i) (by unfold NN;omega) (λi hi _=>by
  have hx:code[i]?=some code[i]:=oGE hi;generalize code[i]=x at hx;unfold cC;delta bO;dsimp only;rw[oDT (show(i:Int)<code.length by omega),ct];simp only[oCT,oBS,show bV code i=some x from hx];rw[jq]
  have UA:BM code.length ss.length x=false->RJ code code.length ss.length i:=λh y hy=>by rw[hx]at hy;injection hy with hy;rw[<- hy];exact h
  have no:BM code.length ss.length x=true->¬RJ code code.length ss.length i:=λh g=>by have:=g x hx;rw[h]at this;cases this
  have hw:w64 ((i:Int)+1)=((i+1:Nat):Int):=cd (by omega) (by omega);unfold BM at UA no;simp only[oBS];cases hj:kK x.1<;>cases hn:decide (x.2.2.2.2>=(code.length:Int))<;>cases h15:(x.1==15)<;>cases hn2:decide (x.2.2.2.2>=(ss.length:Int))<;>rw[hj,hn,h15,hn2]at UA no
  all_goals
   first
    |exact .inl ⟨UA rfl,by show some (Sum.inl (code,(code.length:Int),w64 ((i:Int)+1),code,ss,dt,()))=_;rw[hw]⟩
    |exact .inr ⟨no rfl,rfl⟩) (by
  unfold cC;dsimp only;rw[oDF (show ¬(code.length:Int)<code.length by omega)]
  rfl)
 rcases Fg (ss:=ss) (dt:=dt) hc with⟨hV,e1⟩|⟨hV,x,a,b,c,d,e1,hR⟩
 ·rw[e1]
  rcases r1 with⟨g,e2⟩|⟨_,e2⟩
  ·exact absurd g hV
  rw[show bR cD NN (code,(code.length:Int),0,code,ss,dt,())=_ from e2];exact⟨5,rfl,rfl,λh=>(by cases h),λh=>absurd h.ins hV⟩
 rw[e1]
 rcases r1 with⟨_,e2⟩|⟨g,_⟩
 rotate_left
 ·exact absurd hV g
 rw[show bR cD NN (code,(code.length:Int),0,code,ss,dt,())=_ from e2];dsimp only
 rcases hR with⟨rfl,hR⟩|⟨rfl,hR⟩
 ·rcases r2 with⟨_,e3⟩|⟨g,_⟩
  rotate_left
  ·exact absurd hR g
  rw[show bR cC NN (code,(code.length:Int),0,code,ss,dt,())=_ from e3];exact⟨0,rfl,rfl,λ_=>⟨hz,by omega,hp,⟨by omega,by omega⟩,hV,hR⟩,λ_=>rfl⟩
 ·rcases r2 with⟨g,_⟩|⟨_,e3⟩
  ·exact absurd g hR
  rw[show bR cC NN (code,(code.length:Int),0,code,ss,dt,())=_ from e3];exact⟨6,rfl,rfl,λh=>(by cases h),λh=>absurd h.rng hR⟩
structure Dt (bs:List Int)(cs:List DCe)(ls:List DLn)(ts:List DTh):Prop where
 bl:bs.length<=1000
 cl:cs.length<=1000
 ll:Sh4 ls
 tl:ts.length<=1000
 rl:∀t∈ts,t.2.1.length<=1000
theorem Dt.nil:Dt [] [] [] []:=⟨by simp,by simp,⟨by simp,cO⟩,by simp,cO⟩
theorem BG{n:Int}{ss bs:List Int}{cs:List DCe}{ls:List DLn}{ts:List DTh}(h:MOk n ss bs cs ls ts):Dt bs cs ls ts:=⟨by have:=h.lay.2.1;have:=h.lay.1.2.1;omega,by rw[h.mem.clen];omega,h.mem.sh4,by rw[h.tlen];omega,λt ht=>by rw[(h.thr t ht).len];omega⟩
theorem uW{α β:Type}(f:α->List β){l:List α}{k:Nat}{x:α}(h:l[k]?=some x):(l.take (k+1)).flatMap f=(l.take k).flatMap f++f x:=by
 rw[List.take_add_one,h,List.flatMap_append];simp
theorem iA(x:Int):wk .u8 x=x%256:=B5 x
def wB(x:Int):List Int:=[x/256,x%256]
def dB(d:List Int):List Int:=d.flatMap wB
theorem zI:∀d:List Int,(dB d).length=2*d.length:=by
 intro d
 induction d with
 |nil=>rfl
 |cons x d ih=>
  unfold dB at ih⊢;rw[List.flatMap_cons,List.length_append,ih,oLC];show 2 + _=_;omega
theorem EN(x:Int):shR .shr .u16 x 8=x/256:=by
 show x.fdiv (2 ^ (min 8 (IntKind.bits .u16)))=_;rw[show(2:Int) ^ (min 8 (IntKind.bits .u16))=256 from rfl];exact Int.fdiv_eq_ediv_of_nonneg _ (by decide)
theorem EM(x:Int):shR .shr .i64 x 8=x/256:=by
 show x.fdiv (2 ^ (min 8 (IntKind.bits .i64)))=_;rw[show(2:Int) ^ (min 8 (IntKind.bits .i64))=256 from rfl];exact Int.fdiv_eq_ediv_of_nonneg _ (by decide)
theorem xE{d:List Int}(hd:∀x∈d,W16 x)(h:d.length<=1000):gH d=some (dB d,()):=by
 have e:bR dW NN (d,(d.length:Int),0,[],())=some (d,(d.length:Int),(d.length:Int),false,dB d,()):=by
  have:=wL (f:=dW) (N:=NN) (st:=λk=>(d,(d.length:Int),(k:Int),(d.take k).flatMap wB,())) (n:=d.length) (t:=(d,(d.length:Int),(d.length:Int),false,dB d,())) (by unfold NN;omega) ?_ ?_
  ·exact this
  ·intro k hk;obtain⟨x,hx⟩:∃x,d[k]?=some x:=⟨_,oGE hk⟩;obtain⟨x0,x1⟩:=hd x (dJ hx);have hl:=zI (d.take k);unfold dB at hl;rw[oLT]at hl;unfold dW;dsimp only;rw[oDT (show(k:Int)<d.length by omega),ct];simp only[oCT,oBS,show bV d k=some x from hx];rw[EN,iA,iA,show x/256%256=x/256 by omega];refine cx (b9 ⟨by omega,by rw[hl];show 2*min k d.length+2<=1000000;omega⟩) ?_;rw[cd (x:=(k:Int)+1) (by omega) (by omega)];refine Ok.ret ?_;rw[uW wB hx];rfl
  ·unfold dW;dsimp only;rw[oDF (show ¬(d.length:Int)<d.length by omega),List.take_length];exact Ok.ret rfl
 unfold gH;delta bO;dsimp only;rw[e];rfl
def iB(x:DIn):List Int:=[x.1,x.2.1,x.2.2.1,x.2.2.2.1,x.2.2.2.2/256,x.2.2.2.2%256]
structure DI (x:DIn):Prop where
 o:0<=x.1/\x.1<=24
 a:0<=x.2.1/\x.2.1<8
 b:0<=x.2.2.1/\x.2.2.1<8
 c:0<=x.2.2.2.1/\x.2.2.2.1<8
 i:0<=x.2.2.2.2/\x.2.2.2.2<=65535
 v:cV x.1 x.2.1 x.2.2.1 x.2.2.2.1 x.2.2.2.2=some (true,())
theorem wW{x:DIn}(h:DI x):dN x.1 x.2.1 x.2.2.1 x.2.2.2.1 x.2.2.2.2=some (iB x,0,()):=by
 obtain⟨o,a,b,c,i⟩:=x;obtain⟨h1,h2,h3,h4,h5,h6⟩:=h;dsimp only at h1 h2 h3 h4 h5 h6⊢;unfold dN;rw[h6];simp only[oBS,oNT,oCF];rw[EM,iA,iA,iA,iA,iA,iA];unfold iB;rw[show o%256=o by omega,show a%256=a by omega,show b%256=b by omega,show c%256=c by omega,show i/256%256=i/256 by omega]
def rB(x:Int×List Int):List Int:=[x.1,(x.2.length:Int)]++dB x.2
structure BA (ps:List (Int×List Int)):Prop where
 len:ps.length<=4
 sz:∀x∈ps,1<=x.1/\x.1<=32
 dl:∀x∈ps,(x.2.length:Int)<=32
 num:∀x∈ps,∀w∈x.2,W16 w
theorem yF{ps:List (Int×List Int)}(h:BA ps):∀k,((ps.take k).flatMap rB).length<=66*k:=by
 intro k
 induction k with
 |zero=>simp
 |succ k ih=>
  by_cases hk:k<ps.length
  ·obtain⟨x,hx⟩:∃x,ps[k]?=some x:=⟨_,oGE hk⟩;have:=h.dl x (dJ hx);rw[uW rB hx,List.length_append]
   have:(rB x).length=2+2*x.2.length:=by unfold rB;rw[List.length_append,zI];rfl
   omega
  ·rw[List.take_of_length_le (by omega)]at ih⊢;omega
theorem BU:∀l:List DIn,(l.flatMap iB).length=6*l.length:=by
 intro l
 induction l with
 |nil=>rfl
 |cons x l ih=>
  rw[List.flatMap_cons,List.length_append,ih,oLC];show 6 + _=_;omega
def Dg(ps:List (Int×List Int))(code:List DIn):List Int:=[(ps.length:Int)]++ps.flatMap rB++[(code.length:Int)]++code.flatMap iB
theorem zG{ps:List (Int×List Int)}{code:List DIn}(h:BA ps)(hc:code.length<=64)(hi:∀x∈code,DI x)(hk:cA code (ps.map (·.1)) (ps.map (·.2))=some (0,())):
 cE code (ps.map (·.1)) (ps.map (·.2))=some (Dg ps code,0,()):=by
 have h4:=h.len;unfold cE;rw[hk];delta bO;simp only[oBS,bne_self_eq_false,oCF];obtain⟨ss,SB⟩:∃ss,ss=ps.map (·.1):=⟨_,rfl⟩;obtain⟨dt,Xq⟩:∃dt,dt=ps.map (·.2):=⟨_,rfl⟩;rw[<- SB,<- Xq]
 have Um:ss.length=ps.length:=by rw[SB,List.length_map]
 rw[Um,iA,show(ps.length:Int)%256=ps.length by omega]
 have e1:bR cL NN (ss,(ps.length:Int),0,code,ss,dt,[(ps.length:Int)],())=some (ss,(ps.length:Int),(ps.length:Int),false,code,ss,dt,[(ps.length:Int)]++ps.flatMap rB,()):=by
  have:=wL (f:=cL) (N:=NN) (st:=λk=>(ss,(ps.length:Int),(k:Int),code,ss,dt,[(ps.length:Int)]++(ps.take k).flatMap rB,())) (n:=ps.length) (t:=(ss,(ps.length:Int),(ps.length:Int),false,code,ss,dt,[(ps.length:Int)]++ps.flatMap rB,())) (by unfold NN;omega) ?_ ?_
  ·exact this
  ·intro k YW;obtain⟨⟨z,d⟩,hx⟩:∃x,ps[k]?=some x:=⟨_,oGE YW⟩;have hz:=h.sz _ (dJ hx);have hd:=h.dl _ (dJ hx);have hn:=h.num _ (dJ hx);dsimp only at hz hd hn
   have R4:bV ss k=some z:=by unfold bV;rw[SB,List.getElem?_map,hx];rfl
   have Xe:bV dt k=some d:=by unfold bV;rw[Xq,List.getElem?_map,hx];rfl
   have Xo:=yF h k;unfold cL;delta bO;dsimp only;rw[oDT (show(k:Int)<ps.length by omega),ct];simp only[oCT,oBS,R4,Xe];rw[iA,iA,show z%256=z by omega,show(d.length:Int)%256=d.length by omega];refine cx (b9 ⟨by omega,by rw[List.length_append];show 1 + _+2<=1000000;omega⟩) ?_;rw[xE hn (by omega)];simp only[oBS];refine cx (b9 ⟨by omega,by rw[zI];show((([(ps.length:Int)]++(ps.take k).flatMap rB)++[z,(d.length:Int)]).length+2*d.length)<=1000000;rw[List.length_append,List.length_append];show 1 + _+2 + _<=1000000;omega⟩) ?_;rw[cd (x:=(k:Int)+1) (by omega) (by omega)];refine Ok.ret ?_;rw[uW rB hx];show Sum.inl (ss,(ps.length:Int),(k:Int)+1,code,ss,dt,(([(ps.length:Int)]++(ps.take k).flatMap rB)++[z,(d.length:Int)])++dB d,())=_;rw[List.append_assoc,List.append_assoc];rfl
  ·unfold cL;dsimp only;rw[oDF (show ¬(ps.length:Int)<ps.length by omega),List.take_length];exact Ok.ret rfl
 rw[e1];have VP:=yF h ps.length;rw[List.take_length]at VP;simp only[oBS];rw[iA,show(code.length:Int)%256=code.length by omega]
 have ZV:([(ps.length:Int)]++ps.flatMap rB).length<=1000:=by rw[List.length_append];show 1 + _<=1000;omega
 rw[b9 (b:=1) (n:=([(ps.length:Int)]++ps.flatMap rB).length) (m:=([(code.length:Int)]:List Int).length) ⟨by omega,by show _+1<=1000000;omega⟩];simp only[oCT];obtain⟨B,hB⟩:∃B,B=List.append ([(ps.length:Int)]++ps.flatMap rB) [(code.length:Int)]:=⟨_,rfl⟩
 have Oz:B.length<=1001:=by
  rw[hB];show(([(ps.length:Int)]++ps.flatMap rB)++[(code.length:Int)]).length<=1001;rw[List.length_append];show _+1<=1001;omega
 rw[<- hB]
 have e2:bR cF NN (code,(code.length:Int),0,code,ss,dt,B,())=some (code,(code.length:Int),(code.length:Int),false,code,ss,dt,B++code.flatMap iB,()):=by
  have:=wL (f:=cF) (N:=NN) (st:=λk=>(code,(code.length:Int),(k:Int),code,ss,dt,B++(code.take k).flatMap iB,())) (n:=code.length) (t:=(code,(code.length:Int),(code.length:Int),false,code,ss,dt,B++code.flatMap iB,())) (by unfold NN;omega) ?_ ?_
  ·rw[List.take_zero,List.flatMap_nil,List.append_nil]at this;exact this
  ·intro k YW;obtain⟨x,hx⟩:∃x,code[k]?=some x:=⟨_,oGE YW⟩;unfold cF;dsimp only;rw[oDT (show(k:Int)<code.length by omega),ct];simp only[oCT,oBS,show bV code k=some x from hx];rw[wW (hi x (dJ hx))];simp only[oBS];refine cx (b9 ⟨by omega,by rw[List.length_append,BU,oLT];show _+6<=1000000;omega⟩) ?_;rw[cd (x:=(k:Int)+1) (by omega) (by omega)];refine Ok.ret ?_;rw[uW iB hx,<- List.append_assoc];rfl
  ·unfold cF;dsimp only;rw[oDF (show ¬(code.length:Int)<code.length by omega),List.take_length];exact Ok.ret rfl
 rw[e2,hB];rfl
theorem vg{x y:List Int}:bM (x.length:Int) (x++y) false=some (x,y,false,()):=by
 have hl:(x++y).length=x.length+y.length:=List.length_append;unfold bM;delta bO;simp only[oCF];rw[oDF (show ¬(x.length:Int)>(x++y).length by omega),ct];simp only[oCF,oBS];rw[show eb 0 x.length (x++y).length=true by unfold eb;simp,show eb x.length (x++y).length (x++y).length=true by unfold eb;simp];simp only[oCT]
 have e1:i4 (x++y) 0 (Nat.sub x.length 0)=x:=by
  unfold i4;rw[List.drop_zero];exact List.take_left
 have e2:i4 (x++y) x.length (Nat.sub (x++y).length x.length)=y:=by
  unfold i4;rw[List.drop_left];exact List.take_of_length_le (by show y.length<=(x++y).length-x.length;omega)
 rw[e1,e2]
theorem oa{v:Int}{y:List Int}(h:0<=v/\v<=255):bP (v::y) false=some (v,y,false,()):=by
 unfold bP;have:=vg (x:=[v]) (y:=y);rw[show bM 1 (v::y) false=_ from this];simp only[oBS,show bV [v] 0=some v from rfl];rw[cK (by omega) (by omega)]
theorem wz{code:List DIn}{ss:List Int}{dt:List (List Int)}(hc:code.length<=1000)(hs:ss.length<=1000)(hd:dt.length<=1000)(WT:∀d∈dt,d.length<=1000):gJ code ss dt code ss dt=some (true,()):=by
 have e1:bR eO NN ((code.length:Int),0,code,ss,dt,code,ss,dt,())=some (.inr ((code.length:Int),(code.length:Int),false,code,ss,dt,code,ss,dt,())):=by
  refine wL (st:=λk=>((code.length:Int),(k:Int),code,ss,dt,code,ss,dt,())) (n:=code.length) (by unfold NN;omega) ?_ ?_
  ·intro k hk;unfold eO;dsimp only;rw[oDT (show(k:Int)<code.length by omega),ct];simp only[oCT,oBS,show bV code k=some code[k]from oGE hk,BEq.rfl,Bool.and_self,oNT,oCF];rw[cd (x:=(k:Int)+1) (by omega) (by omega)];exact Ok.ret rfl
  ·unfold eO;dsimp only;rw[oDF (show ¬(code.length:Int)<code.length by omega)];exact Ok.ret rfl
 have e2:bR eN NN ((ss.length:Int),0,code,ss,dt,code,ss,dt,())=some (.inr ((ss.length:Int),(ss.length:Int),false,code,ss,dt,code,ss,dt,())):=by
  refine wL (st:=λk=>((ss.length:Int),(k:Int),code,ss,dt,code,ss,dt,())) (n:=ss.length) (by unfold NN;omega) ?_ ?_
  ·intro k hk;unfold eN;dsimp only;rw[oDT (show(k:Int)<ss.length by omega),ct];simp only[oCT,oBS,show bV ss k=some ss[k]from oGE hk,bne_self_eq_false,oCF];rw[cd (x:=(k:Int)+1) (by omega) (by omega)];exact Ok.ret rfl
  ·unfold eN;dsimp only;rw[oDF (show ¬(ss.length:Int)<ss.length by omega)];exact Ok.ret rfl
 have e4:bR eL NN ((dt.length:Int),0,code,ss,dt,code,ss,dt,())=some (.inr ((dt.length:Int),(dt.length:Int),false,code,ss,dt,code,ss,dt,())):=by
  refine wL (st:=λk=>((dt.length:Int),(k:Int),code,ss,dt,code,ss,dt,())) (n:=dt.length) (by unfold NN;omega) ?_ ?_
  ·intro k hk;obtain⟨d,hx⟩:∃d,dt[k]?=some d:=⟨_,oGE hk⟩;have WU:=WT d (dJ hx);unfold eL;delta bO;dsimp only;rw[oDT (show(k:Int)<dt.length by omega),ct];simp only[oCT,oBS,show bV dt k=some d from hx,bne_self_eq_false,oCF]
   have e3:bR eM NN ((k:Int),(dt.length:Int),(k:Int),(d.length:Int),0,code,ss,dt,code,ss,dt,())=some (.inr ((k:Int),(dt.length:Int),(k:Int),(d.length:Int),(d.length:Int),false,code,ss,dt,code,ss,dt,())):=by
    refine wL (st:=λj=>((k:Int),(dt.length:Int),(k:Int),(d.length:Int),(j:Int),code,ss,dt,code,ss,dt,())) (n:=d.length) (by unfold NN;omega) ?_ ?_
    ·intro j hj;unfold eM;dsimp only;rw[oDT (show(j:Int)<d.length by omega),ct,ct];simp only[oCT,oBS,show bV dt k=some d from hx,show bV d j=some d[j]from oGE hj,bne_self_eq_false,oCF];rw[cd (x:=(j:Int)+1) (by omega) (by omega)];exact Ok.ret rfl
    ·unfold eM;dsimp only;rw[oDF (show ¬(d.length:Int)<d.length by omega)];exact Ok.ret rfl
   rw[e3];dsimp only;rw[cd (x:=(k:Int)+1) (by omega) (by omega)];exact Ok.ret rfl
  ·unfold eL;dsimp only;rw[oDF (show ¬(dt.length:Int)<dt.length by omega)];exact Ok.ret rfl
 unfold gJ;delta bO;simp only[bne_self_eq_false,oCF,oBS];rw[e1];dsimp only;rw[e2];dsimp only;rw[e4]
theorem Aw{a0:List DIn}{a1:List Int}{a2:List (List Int)}(hm:a2.length<=maxLen):
 Ok (hZ a0 a1 a2) λr=>∃b,r=(b,())/\(b=true->a0.length<=80/\a1.length<=20/\a2.length<=20/\∀d∈a2,d.length<=100):=by
 have hm2:a2.length<=9223372036854775807:=by simp only[maxLen]at hm;omega
 have ZZ:Ok (bR iJ NN (a2,(a2.length:Int),0,a0,a1,a2,())) λt=>t=.inl (false,())\/(t=.inr (a2,(a2.length:Int),(a2.length:Int),false,a0,a1,a2,())/\∀d∈a2,d.length<=100):=by
  refine jB (P:=λs=>∃k:Nat,s=(a2,(a2.length:Int),(k:Int),a0,a1,a2,())/\k<=a2.length/\∀(i:Nat) d,i<k->a2[i]?=some d->d.length<=100) _ (λs=>a2.length-s.2.2.1.toNat) ⟨0,rfl,Nat.zero_le _,λi d h=>by omega⟩ (by unfold NN;dsimp only;omega) ?_;rintro _ ⟨k,rfl,hk,ZX⟩;unfold iJ;delta bO;dsimp only;refine Ok.cond (λhc=>?_) (λhc=>?_)
  ·have hc:=of_decide_eq_true hc
   have hlt:k<a2.length:=by omega
   have hx:a2[k]?=some a2[k]:=oGE hlt;rw[ct];simp only[oBS,show bV a2 k=some a2[k]from hx];refine Ok.cond (λZv=>Ok.ret (.inl rfl)) (λZv=>?_);have Zv:=of_decide_eq_false Zv;rw[cd (x:=(k:Int)+1) (by omega) (by omega)];refine Ok.ret ⟨⟨k+1,rfl,hlt,λi d hi hd=>?_⟩,by dsimp only;omega⟩;by_cases e:i=k
   ·subst e;rw[hx]at hd
    injection hd with hd
    subst hd;omega
   ·exact ZX i d (by omega) hd
  ·have hc:=of_decide_eq_false hc
   obtain rfl:k=a2.length:=by omega
   refine Ok.ret (.inr ⟨rfl,λd hd=>?_⟩);obtain⟨i,hi⟩:=List.getElem?_of_mem hd;exact ZX i d (oGS hi).1 hi
 obtain⟨t,e,ht⟩:=ZZ;unfold hZ;delta bO;dsimp only;rw[e];rcases ht with rfl|⟨rfl,hd⟩
 ·exact Ok.ret ⟨false,rfl,λh=>by cases h⟩
 ·dsimp only;refine Ok.cond (λh1=>?_) (λ_=>Ok.ret ⟨false,rfl,λh=>by cases h⟩);refine Ok.cond (λh2=>?_) (λ_=>Ok.ret ⟨false,rfl,λh=>by cases h⟩);have h1:=of_decide_eq_true h1;have h2:=of_decide_eq_true h2;refine Ok.ret ⟨_,rfl,λh3=>?_⟩;have h3:=of_decide_eq_true h3;exact⟨by omega,by omega,by omega,hd⟩
structure SmP (c:List DIn)(s:List Int)(d:List (List Int)):Prop where
 cl:c.length<=300
 sl:s.length<=20
 dl:d.length<=20
 el:∀x∈d,x.length<=100
 w:∀x∈d,∀y∈x,W16 y
theorem SmP.of{c:List DIn}{s:List Int}{d:List (List Int)}(h:oT c s d):SmP c s d:=by
 have h4:=h.sz.2.1;have hl:=h.len;refine⟨by have:=h.clen.2;omega,by omega,by omega,λx hx=>?_,h.num⟩;obtain⟨j,hj⟩:=List.getElem?_of_mem hx;obtain⟨z,hz⟩:∃z,s[j]?=some z:=⟨_,oGE (by have:=(oGS hj).1;omega)⟩;have:=h.fit j x z hj hz;have:=(h.sz.2.2 z (dJ hz)).2;omega
theorem js{a b:Int}(ha:uR a)(hb:0<b)(Z0:b<=9223372036854775807):en a b=some (a%b,()):=BQ ha hb Z0
theorem od{a:Int}{n:Nat}(hn:0<n):∃k:Nat,a%(n:Int)=(k:Int)/\k<n:=by
 have h0:=Int.emod_nonneg a (show(n:Int)≠0 by omega);have h1:=Int.emod_lt_of_pos a (show(0:Int)<n by omega);exact⟨(a%(n:Int)).toNat,by omega,by omega⟩
theorem Dk{code:List DIn}{ss:List Int}{dt:List (List Int)}{what at_ by_:Int}(hp:oT code ss dt)(hw:uR what)(ha:uR at_)(hb:uR by_):
 Ok (dG code ss dt what at_ by_) λr=>∃c s d,r=(c,s,d,())/\SmP c s d:=by
 have hS:=SmP.of hp;have Zz:=hp.clen.1;have Zv:=hp.clen.2;have Y':=hp.sz.1;have Tj:=hp.sz.2.1;have hl:=hp.len;unfold dG;by_cases hok:ok5 code.length ss.length dt.length what at_ by_
 ·rw[oIP hok];refine Ok.ret ⟨_,_,_,rfl,?_,hS.sl,hS.dl,hS.el,hS.w⟩;unfold tri
  have:(by_%64).toNat<64:=by have:=Int.emod_lt_of_pos by_ (show(0:Int)<64 by decide);omega
  simp only[List.length_append,List.length_replicate];omega
 ·rw[oIN hok];have h5:what%8≠5:=λh=>hok ⟨⟨by omega,by omega,by omega,by omega,by omega,by omega⟩,hw,ha,hb,h⟩;unfold iI;rw[b9 (b:=40) (n:=0) (m:=code.length) ⟨by omega,by omega⟩,b9 (b:=8) (n:=0) (m:=ss.length) ⟨by omega,by omega⟩,b9 (b:=24) (n:=0) (m:=dt.length) ⟨by omega,by omega⟩];simp only[oCT,show List.append [] code=code from rfl,show List.append [] ss=ss from rfl,show List.append [] dt=dt from rfl];delta bO;rw[js ha (show(0:Int)<(code.length:Int) by omega) (by omega),js hw (show(0:Int)<8 by decide) (by decide)];obtain⟨k,hk,hkl⟩:=od (a:=at_) (n:=code.length) (by omega);rw[hk];simp only[oBS];have YV:bV code k=some code[k]:=oGE hkl;have PU:bV ss 0=some ss[0]:=oGE (by omega);have Pk:bV dt 0=some dt[0]:=oGE (by omega)
  have ZB:∀{o:Option ((List DIn×List Int×List (List Int)×Unit×Unit×Unit×Unit)⊕(List DIn×List Int×List (List Int)×Unit×Unit×Unit×Unit))},Ok o (λr=>∃c s d,(r=.inl (c,s,d,(),(),(),())\/r=.inr (c,s,d,(),(),(),()))/\SmP c s d)->
   Ok (match o with|none=>none|some (.inl (x5,x6,x7,x8,x9,x10,_))=>some (x5,x6,x7,())|some (.inr (x5,x6,x7,x8,x9,x10,_))=>some (x5,x6,x7,())) λr=>∃c s d,r=(c,s,d,())/\SmP c s d:=by
   rintro o ⟨r,rfl,c,s,d,rfl|rfl,h⟩
   ·exact Ok.ret ⟨_,_,_,rfl,h⟩
   ·exact Ok.ret ⟨_,_,_,rfl,h⟩
  refine ZB ?_
  have h8:what%8=0\/what%8=1\/what%8=2\/what%8=3\/what%8=4\/what%8=6\/what%8=7:=by omega
  have Ve:∀f:DIn->DIn,SmP (List.modify code k f) ss dt:=λf=>⟨by rw[oLM];omega,hS.sl,hS.dl,hS.el,hS.w⟩;rcases h8 with e|e|e|e|e|e|e
  ·rw[e];obtain⟨j,hj,hjl⟩:=od (a:=by_) (n:=7) (by decide);rw[show((0:Int)==0)=true from rfl,js hb (show(0:Int)<7 by decide) (by decide),show by_%7=(j:Int)from hj];simp only[oCT,oBS,ct,show bV ([63,64,65535,65536,-1,3,4]:List Int) j=some ([63,64,65535,65536,-1,3,4]:List Int)[j]from oGE hjl,YV];exact Ok.ret ⟨_,_,_,.inl rfl,Ve _⟩
  ·rw[e];rw[show((1:Int)==0)=false from rfl,show((1:Int)==1)=true from rfl,js hb (show(0:Int)<10 by decide) (by decide)];simp only[oCT,oCF,oBS,ct,YV];exact Ok.ret ⟨_,_,_,.inl rfl,Ve _⟩
  ·rw[e];rw[show((2:Int)==0)=false from rfl,show((2:Int)==1)=false from rfl,show((2:Int)==2)=true from rfl,js hb (show(0:Int)<36 by decide) (by decide)];simp only[oCT,oCF,oBS,ct,PU];exact Ok.ret ⟨_,_,_,.inl rfl,hS.cl,by rw[oLM];exact hS.sl,hS.dl,hS.el,hS.w⟩
  ·rw[e];rw[show((3:Int)==0)=false from rfl,show((3:Int)==1)=false from rfl,show((3:Int)==2)=false from rfl,show((3:Int)==3)=true from rfl];simp only[oCT,oCF];refine cx (by simp[eb];omega) ?_;refine Ok.ret ⟨_,_,_,.inr rfl,hS.cl,hS.sl,?_,λx hx=>hS.el x ?_,λx hx=>hS.w x ?_⟩
   ·have:(i4 dt 1 (Nat.sub dt.length 1)).length<=dt.length:=by simp[i4]
    have:=hS.dl;omega
   ·unfold i4 at hx;exact List.mem_of_mem_drop (List.mem_of_mem_take hx)
   ·unfold i4 at hx;exact List.mem_of_mem_drop (List.mem_of_mem_take hx)
  ·rw[e];rw[show((4:Int)==0)=false from rfl,show((4:Int)==1)=false from rfl,show((4:Int)==2)=false from rfl,show((4:Int)==3)=false from rfl,show((4:Int)==4)=true from rfl];simp only[oCT,oCF];exact Ok.ret ⟨_,_,_,.inl rfl,by simp,hS.sl,hS.dl,hS.el,hS.w⟩
  ·rw[e];obtain⟨j,hj,hjl⟩:=od (a:=by_) (n:=36) (by decide);rw[show((6:Int)==0)=false from rfl,show((6:Int)==1)=false from rfl,show((6:Int)==2)=false from rfl,show((6:Int)==3)=false from rfl,show((6:Int)==4)=false from rfl,show((6:Int)==5)=false from rfl,show((6:Int)==6)=true from rfl,js hb (show(0:Int)<36 by decide) (by decide),show by_%36=(j:Int)from hj];simp only[oCT,oCF,oBS,ct,Pk];refine cx (by simp[ja];omega) ?_;refine Ok.ret ⟨_,_,_,.inl rfl,hS.cl,hS.sl,by rw[oLM];exact hS.dl,λx hx=>?_,λx hx=>?_⟩
   ·exact mi (P:=λx:List Int=>x.length<=100) hS.el (λ_ _=>by rw[List.length_replicate];omega) x hx
   ·exact mi (P:=λx:List Int=>∀y∈x,W16 y) hS.w (λ_ _ y hy=>by rw[(List.mem_replicate.1 hy).2];exact⟨by decide,by decide⟩) x hx
  ·rw[e];obtain⟨j,hj,hjl⟩:=od (a:=by_) (n:=2) (by decide);rw[show((7:Int)==0)=false from rfl,show((7:Int)==1)=false from rfl,show((7:Int)==2)=false from rfl,show((7:Int)==3)=false from rfl,show((7:Int)==4)=false from rfl,show((7:Int)==5)=false from rfl,show((7:Int)==6)=false from rfl,show((7:Int)==7)=true from rfl,js hb (show(0:Int)<2 by decide) (by decide),show by_%2=(j:Int)from hj,js ha (show(0:Int)<5 by decide) (by decide)];simp only[oCT,oCF,oBS,ct,YV,show bV ([18,15]:List Int) j=some ([18,15]:List Int)[j]from oGE hjl];exact Ok.ret ⟨_,_,_,.inl rfl,Ve _⟩
theorem C5:dN=fE:=by
 funext o a b c i;unfold dN fE;rw[BT]
theorem C6:dO=fF:=by
 funext b;unfold dO fF;simp only[BT]
theorem Bf:cL=hY:=rfl
theorem Be:cF=fq:=by
 unfold cF fq;rw[C5]
theorem BV{c:List DIn}{s:List Int}{d:List (List Int)}(h:SmP c s d):eo c s d=cE c s d:=by
 obtain⟨e,e1,e2,_⟩:=jN (code:=c) (ss:=s) (dt:=d) (by have:=h.cl;omega) (by have:=h.sl;omega) (by have:=h.dl;omega);unfold cE eo cA;rw[e1,e2,Bf,Be];rfl
theorem D8{x:DIn}(h:DA x.1 x.2.1 x.2.2.1 x.2.2.2.1 x.2.2.2.2):DI x:=by
 obtain⟨o,a,b,c,i⟩:=x
 have hv:cV o a b c i=some (true,()):=by
  rcases(EG (o:=o) (a:=a) (b:=b) (c:=c) (i:=i))with⟨_,h1⟩|⟨h1,_⟩
  ·exact h1
  ·exact absurd h h1
 obtain⟨ho,ha,hb,hc,hi⟩:=h;have hm:=vn o;dsimp only at ho ha hb hc hi;unfold Fld at ha hb hc hi;refine⟨ho,?_,?_,?_,?_,hv⟩<;>dsimp only<;>omega
def mr(b:List Int):Prop:=∀x∈b,0<=x/\x<=255
theorem mr.app{a b:List Int}(ha:mr a)(hb:mr b):mr (a++b):=λx hx=>by
 rcases List.mem_append.1 hx with h|h
 ·exact ha x h
 ·exact hb x h
theorem mr.flat{α:Type}{l:List α}{f:α->List Int}(h:∀x∈l,mr (f x)):mr (l.flatMap f):=λy hy=>by
 obtain⟨x,hx,hy⟩:=List.mem_flatMap.1 hy;exact h x hx y hy
theorem Ej:∀{d:List Int},(∀x∈d,W16 x)->mr (dB d):=by
 intro d
 induction d with
 |nil=>intro _ x hx;cases hx
 |cons a d ih=>
  intro h;have ha:W16 a:=h a (by simp);unfold W16 at ha;have e:dB (a::d)=[a/256,a%256]++dB d:=rfl;rw[e];refine mr.app (λx hx=>?_) (ih λx hx=>h x (List.mem_cons_of_mem _ hx));simp only[List.mem_cons,List.not_mem_nil,or_false]at hx
  rcases hx with rfl|rfl<;>omega
theorem D9{x:DIn}(h:DI x):mr (iB x):=by
 have ho:=h.o;have ha:=h.a;have hb:=h.b;have hc:=h.c;have hi:=h.i;intro y hy;unfold iB at hy;simp only[List.mem_cons,List.not_mem_nil,or_false]at hy
 rcases hy with rfl|rfl|rfl|rfl|rfl|rfl<;>omega
theorem Bg{ps:List (Int×List Int)}{code:List DIn}(h:BA ps)(hc:code.length<=64)(hi:∀x∈code,DI x):mr (Dg ps code)/\1<=(Dg ps code).length/\(Dg ps code).length<=700:=by
 have h4:=h.len;have hr:=yF h ps.length;rw[List.take_length]at hr;refine⟨?_,?_,?_⟩
 ·unfold Dg;refine((mr.app (λx hx=>?_) (mr.flat λx hx=>?_)).app (λx hx=>?_)).app (mr.flat λx hx=>D9 (hi x hx))
  ·simp only[List.mem_cons,List.not_mem_nil,or_false]at hx;omega
  ·unfold rB;have hz:=h.sz x hx;have hd:=h.dl x hx;refine mr.app (λy hy=>?_) (Ej (h.num x hx));simp only[List.mem_cons,List.not_mem_nil,or_false]at hy
   rcases hy with rfl|rfl<;>omega
  ·simp only[List.mem_cons,List.not_mem_nil,or_false]at hx;omega
 ·unfold Dg;simp only[List.length_append,oLC,List.length_nil];omega
 ·unfold Dg;simp only[List.length_append,oLC,List.length_nil,BU];omega
theorem s8{c:List DIn}{s:List Int}{d:List (List Int)}(h:SmP c s d):∃b e,cE c s d=some (b,e,())/\(PrV c s d->mr b/\1<=b.length/\b.length<=700):=by
 obtain⟨e,e1,e2,h0,h1⟩:=jN (code:=c) (ss:=s) (dt:=d) (by have:=h.cl;omega) (by have:=h.sl;omega) (by have:=h.dl;omega);by_cases he:e=0
 ·subst he;have hV:=h0 rfl;have Tj:=hV.sz.2.1;have WU:=hV.len
  have Xq:∀x∈d,x.length<=32:=λx hx=>by
   obtain⟨j,hj⟩:=List.getElem?_of_mem hx;have hjl:=(oGS hj).1;obtain⟨z,hz⟩:∃z,s[j]?=some z:=⟨_,oGE (by omega)⟩;have:=hV.fit j hjl x z hj hz;have:=(hV.sz.2.2 z (dJ hz)).2;omega
  obtain⟨ps,QZ⟩:∃ps,ps=s.zip d:=⟨_,rfl⟩
  have h1:ps.map (·.1)=s:=by rw[QZ];exact List.map_fst_zip (by omega)
  have h2:ps.map (·.2)=d:=by rw[QZ];exact List.map_snd_zip (by omega)
  have hR:BA ps:=by
   refine⟨?_,λx hx=>?_,λx hx=>?_,λx hx=>?_⟩
   ·rw[<- List.length_map (f:=λx:Int×List Int=>x.1),h1];omega
   ·exact hV.sz.2.2 x.1 (by rw[<- h1];exact List.mem_map_of_mem hx)
   ·have:=Xq x.2 (by rw[<- h2];exact List.mem_map_of_mem hx);omega
   ·exact h.w x.2 (by rw[<- h2];exact List.mem_map_of_mem hx)
  have hI:∀x∈c,DI x:=λx hx=>by
   obtain⟨j,hj⟩:=List.getElem?_of_mem hx;exact D8 (hV.ins j (oGS hj).1 x hj)
  have hE:=zG hR hV.cl.2 hI (by rw[h1,h2];unfold cA;rw[e1];rfl);rw[h1,h2]at hE;exact⟨_,_,hE,λ_=>Bg hR hV.cl.2 hI⟩
 ·refine⟨[],e,?_,λhv=>absurd (h1 hv) he⟩;unfold cE cA;rw[e1];simp only[oBS];rw[bne_iff_ne.2 he];rfl
theorem nR{S T:Type}{f:S->Option (S⊕T)}{s s':S}(h:f s=some (.inl s'))(n:Nat):bR f (n+1) s=bR f n s':=by rw[bR,h];rfl
theorem rp{S T:Type}{f:S->Option (S⊕T)}{s:S}{t:T}(h:f s=some (.inr t))(n:Nat):bR f (n+1) s=some t:=by rw[bR,h];rfl
theorem jl{n:Nat}{b:List Int}(h:n<=1000):bM (n:Int) b true=some (List.replicate n 0,b,true,()):=by
 unfold bM;simp only[oCT,ct,oBS];rw[show ja n n 1=true by simp[ja];omega];rfl
theorem mc{n:Nat}{b:List Int}(h:n<=1000)(hb:b.length<n):bM (n:Int) b false=some (List.replicate n 0,b,true,()):=by
 unfold bM;delta bO;simp only[oCF];rw[oDT (show(n:Int)>b.length by omega)];simp only[oCT,ct,oBS];rw[show ja n n 1=true by simp[ja];omega];rfl
theorem n9{n:Nat}{b:List Int}(hb:n<=b.length):bM (n:Int) b false=some (b.take n,b.drop n,false,()):=by
 have e:b=b.take n++b.drop n:=(List.take_append_drop n b).symm
 have hl:(b.take n).length=n:=by rw[oLT];omega
 have:=vg (x:=b.take n) (y:=b.drop n);rw[hl,<- e]at this;exact this
theorem lk{b:List Int}:bP b true=some (0,b,true,()):=by
 unfold bP;rw[show bM 1 b true=_ from jl (n:=1) (by omega)];rfl
theorem qF:bP [] false=some (0,[],true,()):=by
 unfold bP;rw[show bM 1 [] false=_ from mc (n:=1) (b:=[]) (by omega) (by simp)];rfl
theorem nH:fM []=some ([],0,()):=by kernel_rfl
theorem vO:∀(m N:Nat),m<N->m<=255->∀(ss:List Int)(dt:List (List Int))(b:List Int),ss.length+m<=1000->dt.length+m<=1000 ->
 ∃Y3 Y4,bR bU N ((m:Int),(),(),(),(),ss,dt,b,true,())=some (0,false,(),(),(),(),Y3,Y4,b,true,()):=by
 intro m
 induction m with
 |zero=>
  intro N hN _ ss dt b _ _;obtain⟨n,rfl⟩:∃n,N=n+1:=⟨N-1,by omega⟩;exact⟨ss,dt,rp rfl n⟩
 |succ m ih=>
  intro N hN hm ss dt b h1 h2;obtain⟨n,rfl⟩:∃n,N=n+1:=⟨N-1,by omega⟩;obtain⟨Y3,Y4,e⟩:=ih n (by omega) (by omega) (ss++[0]) (dt++[[]]) b (by simp;omega) (by simp;omega);refine⟨Y3,Y4,?_⟩;rw[<- e];refine nR ?_ n;unfold bU;dsimp only;rw[oDT (show((m+1:Nat):Int)>0 by omega),lk];simp only[oCT,oBS];rw[b9 (b:=8) (n:=ss.length) (m:=([0]:List Int).length) ⟨by omega,by show _+1<=_;omega⟩,lk];simp only[oCT,oBS];rw[show w64 (2*0)=((0:Nat):Int)from rfl,jl (by omega)];simp only[oBS];rw[show(List.replicate 0 0:List Int)=[]from rfl,nH];simp only[oBS];rw[b9 (b:=24) (n:=dt.length) (m:=([[]]:List (List Int)).length) ⟨by omega,by show _+1<=_;omega⟩,cd (by omega) (by omega)];simp only[oCT];rw[show((m+1:Nat):Int)-1=m by omega];rfl
theorem nn{b:List Int}(h:b.length=6):∃o a b' c i e,dO b=some (o,a,b',c,i,e,()):=by
 match b,h with
 | [x0,x1,x2,x3,x4,x5],_=>
  unfold dO;delta bO;simp only[show(([x0,x1,x2,x3,x4,x5].length:Nat):Int)=6 from rfl,show decide ((6:Int)<6)=false from rfl,show decide ((6:Int)>6)=false from rfl,oCF,show bV [x0,x1,x2,x3,x4,x5] 0=some x0 from rfl,show bV [x0,x1,x2,x3,x4,x5] 1=some x1 from rfl,show bV [x0,x1,x2,x3,x4,x5] 2=some x2 from rfl,show bV [x0,x1,x2,x3,x4,x5] 3=some x3 from rfl,show bV [x0,x1,x2,x3,x4,x5] 4=some x4 from rfl,show bV [x0,x1,x2,x3,x4,x5] 5=some x5 from rfl,oBS]
  rcases(EG (o:=wk .i64 x0) (a:=wk .i64 x1) (b:=wk .i64 x2) (c:=wk .i64 x3) (i:=arR .or .i64 (shR .shl .i64 (wk .i64 x4) 8) (wk .i64 x5)))with⟨_,h1⟩|⟨_,h1⟩
  ·rw[h1];exact⟨_,_,_,_,_,_,rfl⟩
  ·rw[h1];exact⟨_,_,_,_,_,_,rfl⟩
theorem vN:∀(m N:Nat),m<N->m<=255->∀(bad:Bool)(cs:List DIn)(ss:List Int)(dt:List (List Int))(b:List Int),cs.length+m<=1000 ->
 ∃ZA Yy,bR bT N (bad,(m:Int),(),(),(),cs,ss,dt,b,true,())=some (ZA,0,false,(),(),(),Yy,ss,dt,b,true,()):=by
 intro m
 induction m with
 |zero=>
  intro N hN _ bad cs ss dt b _;obtain⟨n,rfl⟩:∃n,N=n+1:=⟨N-1,by omega⟩;exact⟨bad,cs,rp rfl n⟩
 |succ m ih=>
  intro N hN hm bad cs ss dt b h1;obtain⟨n,rfl⟩:∃n,N=n+1:=⟨N-1,by omega⟩;obtain⟨o,a,b',c,i,e,hd⟩:=nn (b:=List.replicate 6 0) (by simp);obtain⟨ZA,Yy,e2⟩:=ih n (by omega) (by omega) (bif bad then true else(e != 0)) (cs++[(o,a,b',c,i)]) ss dt b (by simp;omega);refine⟨ZA,Yy,?_⟩;rw[<- e2];refine nR ?_ n;unfold bT;dsimp only;rw[oDT (show((m+1:Nat):Int)>0 by omega),show bM 6 b true=_ from jl (n:=6) (by omega)];simp only[oCT,oBS];rw[hd];simp only[oBS];rw[b9 (b:=40) (n:=cs.length) (m:=([(o,(a,(b',(c,i))))]:List DIn).length) ⟨by omega,by show _+1<=_;omega⟩,cd (by omega) (by omega),show((m+1:Nat):Int)-1=m by omega];cases bad<;>rfl
theorem CD:∀(m N:Nat),m<N->m<=255->∀(bad:Bool)(cs:List DIn)(ss:List Int)(dt:List (List Int))(b:List Int),cs.length+m<=1000->b.length<6*m ->
 ∃ZA Yy b',bR bT N (bad,(m:Int),(),(),(),cs,ss,dt,b,false,())=some (ZA,0,false,(),(),(),Yy,ss,dt,b',true,()):=by
 intro m
 induction m with
 |zero=>intro N hN _ bad cs ss dt b _ h;omega
 |succ m ih=>
  intro N hN hm bad cs ss dt b h1 hb;obtain⟨n,rfl⟩:∃n,N=n+1:=⟨N-1,by omega⟩;by_cases h6:6<=b.length
  ·obtain⟨o,a,b',c,i,e,hd⟩:=nn (b:=b.take 6) (by rw[oLT];omega);obtain⟨ZA,Yy,b2,e2⟩:=ih n (by omega) (by omega) (bif bad then true else(e != 0)) (cs++[(o,a,b',c,i)]) ss dt (b.drop 6) (by simp;omega) (by rw[List.length_drop];omega);refine⟨ZA,Yy,b2,?_⟩;rw[<- e2];refine nR ?_ n;unfold bT;dsimp only;rw[oDT (show((m+1:Nat):Int)>0 by omega),show bM 6 b false=_ from n9 (n:=6) h6];simp only[oCT,oBS];rw[hd];simp only[oBS];rw[b9 (b:=40) (n:=cs.length) (m:=([(o,(a,(b',(c,i))))]:List DIn).length) ⟨by omega,by show _+1<=_;omega⟩,cd (by omega) (by omega),show((m+1:Nat):Int)-1=m by omega];cases bad<;>rfl
  ·obtain⟨o,a,b',c,i,e,hd⟩:=nn (b:=List.replicate 6 0) (by simp);obtain⟨ZA,Yy,e2⟩:=vN m n (by omega) (by omega) (bif bad then true else(e != 0)) (cs++[(o,a,b',c,i)]) ss dt b (by simp;omega);refine⟨ZA,Yy,b,?_⟩;rw[<- e2];refine nR ?_ n;unfold bT;dsimp only;rw[oDT (show((m+1:Nat):Int)>0 by omega),show bM 6 b false=_ from mc (n:=6) (by omega) (by omega)];simp only[oCT,oBS];rw[hd];simp only[oBS];rw[b9 (b:=40) (n:=cs.length) (m:=([(o,(a,(b',(c,i))))]:List DIn).length) ⟨by omega,by show _+1<=_;omega⟩,cd (by omega) (by omega),show((m+1:Nat):Int)-1=m by omega];cases bad<;>rfl
theorem A8{f b x:Bool}{P:Prop}(h:f=true↔b=true\/P):(bif f then true else x)=true↔(bif b then true else x)=true\/P:=by
 cases f<;>cases b<;>cases x<;>simp_all
theorem Em:∀(m k:Nat)(N M:Nat),m<N->m<M->k+m<=255->∀(bad:Bool)(XK:Bool)(cs:List DIn)(ss:List Int)(dt:List (List Int))(b:List Int),cs.length<=k->6*(k+m)<=b.length->(XK=true↔bad=true\/6*(k+m)<b.length)->
 ∃ZA Yd Yy,bR bT N (bad,(m:Int),(),(),(),cs,ss,dt,b.drop (6*k),false,())=some (ZA,0,false,(),(),(),Yy,ss,dt,b.drop (6*(k+m)),false,())/\
  bR dy M (b,XK,((k+m:Nat):Int),(k:Int),(),(),(),cs,ss,dt,())=some (b,Yd,((k+m:Nat):Int),((k+m:Nat):Int),false,(),(),(),Yy,ss,dt,())/\(Yd=true↔ZA=true\/6*(k+m)<b.length)/\Yy.length<=k+m:=by
 intro m
 induction m with
 |zero=>
  intro k N M hN hM _ bad XK cs ss dt b hc hb hf;obtain⟨n,rfl⟩:∃n,N=n+1:=⟨N-1,by omega⟩;obtain⟨n',rfl⟩:∃n,M=n+1:=⟨M-1,by omega⟩;refine⟨bad,XK,cs,rp rfl n,?_,hf,hc⟩;refine rp ?_ n';unfold dy;dsimp only;rw[oDF (show ¬(k:Int)<((k+0:Nat):Int) by omega)];rfl
 |succ m ih=>
  intro k N M hN hM hk bad XK cs ss dt b hc hb hf;obtain⟨n,rfl⟩:∃n,N=n+1:=⟨N-1,by omega⟩;obtain⟨n',rfl⟩:∃n,M=n+1:=⟨M-1,by omega⟩
  have Ys:k+1+m=k+(m+1):=by omega
  obtain⟨o,a,b',c,i,e,hd⟩:=nn (b:=(b.drop (6*k)).take 6) (by rw[oLT,List.length_drop];omega)
  have RS:(bif XK then true else(e != 0))=true↔(bif bad then true else(e != 0))=true\/6*(k+1+m)<b.length:=by
   rw[Ys];exact A8 hf
  obtain⟨ZA,Yd,Yy,e1,e2,e3,e4⟩:=ih (k+1) n n' (by omega) (by omega) (by omega) (bif bad then true else(e != 0)) (bif XK then true else(e != 0)) (cs++[(o,a,b',c,i)]) ss dt b (by simp;omega) (by omega) RS;rw[Ys]at e1 e2 e3 e4;refine⟨ZA,Yd,Yy,?_,?_,e3,e4⟩
  ·rw[<- e1];refine nR ?_ n;unfold bT;dsimp only;rw[oDT (show((m+1:Nat):Int)>0 by omega),show bM 6 (b.drop (6*k)) false=_ from n9 (n:=6) (by rw[List.length_drop];omega)];simp only[oCT,oBS];rw[hd];simp only[oBS];rw[b9 (b:=40) (n:=cs.length) (m:=([(o,(a,(b',(c,i))))]:List DIn).length) ⟨by omega,by show _+1<=_;omega⟩,cd (by omega) (by omega),show((m+1:Nat):Int)-1=m by omega,List.drop_drop,show 6*k+6=6*(k+1) by omega];cases bad<;>rfl
  ·rw[<- e2];refine nR ?_ n';unfold dy;dsimp only;rw[oDT (show(k:Int)<((k+(m+1):Nat):Int) by omega),cd (x:=6*(k:Int)) (by omega) (by omega),cd (x:=6*(k:Int)+6) (by omega) (by omega),show 6*(k:Int)=((6*k:Nat):Int) by omega,show((6*k:Nat):Int)+6=((6*k+6:Nat):Int) by omega];simp only[oCT,ct,oBS];rw[show eb (6*k) (6*k+6) b.length=true by simp[eb];omega,show i4 b (6*k) (Nat.sub (6*k+6) (6*k))=(b.drop (6*k)).take 6 by unfold i4;rw[show Nat.sub (6*k+6) (6*k)=6 by show 6*k+6-6*k=6;omega],<- C6,hd];simp only[oCT,oBS];rw[b9 (b:=40) (n:=cs.length) (m:=([(o,(a,(b',(c,i))))]:List DIn).length) ⟨by omega,by show _+1<=_;omega⟩,cd (x:=(k:Int)+1) (by omega) (by omega)];cases XK<;>rfl
end Go.Proofs.Ytgphpfjngblbiaa
