/- Part of the proof; no condition. -/
import Derived.Test.YtgphpfjngblbiaaVc
import Derived.Orders
import Derived.Deep.DeepAppendRoom
import Derived.ArgAppend
import Derived.Lib.AppendZerosOnto
import Derived.Deep.DeepCutAuto
import Derived.Deep.CutBlock
import Derived.Test.YtgphpfjngblbiaaProg
import Derived.KernelRfl
import Derived.WalkKit
import Derived.WalkSpells
import Derived.Handy
import Derived.OpenShut
import Derived.Deep.Slices
set_option linter.unusedVariables false
set_option linter.unusedSimpArgs false
namespace Go.Proofs.Ytgphpfjngblbiaa
open Go.RowKit
def oN(f:Nat->Value):Operand->Value
 |.tmp t=>f t
 |.const v=>v
 |.global g=>.pointer (some ⟨g,0,none⟩)
 |.func f=>.func (.func f) #[] #[]
def w4(f:Nat->Value):Option Tmp->Value
 |some t=>f t
 |none=>undef
def wP(f:Nat->Value)(o:Oper):Value:=
 match o.dst with
 |some t=>f t
 |none=>match o.op with
  |.store _ (.tmp t) _=>f t
  |_=>undef
def tD(f:Nat->Value)(o:Oper)(v:Value):Value:=
 match o.dst with
 |some _=>v
 |none=>wP f o
def gT(o:Oper)(j:Nat):Bool:=o.after.toList.any λe=>e.on==j&&Region.binds .any e
def f9(l:List Oper)(t:Tmp):Option Nat:=l.findIdx? λo=>o.dst==some t
def vj(l:List Oper)(old:Nat->Value)(Ss:List (Value->World->Prop))(o:Oper)(f:Nat->Value)(w:World)(t:Tmp):Prop:=
 match f9 l t with
 |none=>f t=old t
 |some j=>if gT o j then(Ss.getD j λ_ _=>False) (f t) w else f t=old t
def vq(l:List Oper)(f:Nat->Value)(o:Oper):Bool:=
 match o.guard with
 |none=>true
 |some (j,b)=>match(l[j]?).bind (·.dst)with
  |some d=>(match f d with|.bool c=>c==b|_=>false)
  |none=>false
def fm(P:Program)(U0:Value->World->Prop):Result Next->Prop
 |.ok (.value v) w'=>U0 v w'
 |.ok .skip w'=>U0 undef w'
 |.ok (.enter f args) w'=>Calls P f args w' λe Wp=>∃v,e=.returned v/\U0 v Wp
 |_=>False
def Dj(f:Nat->Value)(d:Option Tmp)(v:Value):Nat->Value:=λt=>match d with
 |some k=>if k=t then v else f t
 |none=>f t
def uK(l:List Oper):Nat->Nat->Nat->Bool
 |0,_,_=>false
 |n+1,j,i=>(l.getD j default).after.any λe=>Region.binds .any e&&(e.on==i||uK l n e.on i)
def vg(l:List Oper)(d t:Tmp):Bool:=match f9 l d,f9 l t with
 |some i,some j=>j==i||uK l l.length j i
 |_,_=>false
def C4(base:(Nat->Value)->World->Prop)(R:World->World->Prop)(s:Value->World->Prop)(f:Nat->Value)(o:Oper)(w:World)(v:Value)(w':World):Prop:=base (Dj f o.dst v) w'/\R w w'/\s (tD f o v) w'
def Ef(P:Program)(l:List Oper)(old:Nat->Value)(base:(Nat->Value)->World->Prop)(R:World->World->Prop)(Ss:List (Value->World->Prop))(o:Oper)(s:Value->World->Prop):Prop:=
 ∀(f:Nat->Value)(w:World),base f w->(∀t∈o.looksAt l.toArray,vj l old Ss o f w t)->(∀d t,o.dst=some d->vg l d t=true->f t=old t)->
  if vq l f o=true then fm P (λv w'=>C4 base R s f o w v w') ((execOp (oN f) o).run P w)else base (Dj f o.dst undef) w/\s (tD f o undef) w
def lz(P:Program)(l:List Oper)(old:Nat->Value)(base:(Nat->Value)->World->Prop)(R:World->World->Prop)(Ss:List (Value->World->Prop)):List Oper->List (Value->World->Prop)->Prop
 | [],[]=>True
 |o::r,s::rs=>Ef P l old base R Ss o s/\lz P l old base R Ss r rs
 |_,_=>False
def C7(R:World->World->Prop):List (Value->World->Prop)->Prop
 | []=>True
 |s::r=>(∀w w' u,R w w'->s u w->s u w')/\C7 R r
def eT(f:Nat->Value):List Oper->Act->Act
 | [],a=>a
 |o::r,a=>eT f r (a.put o.dst (w4 f o.dst))
def D2(f:Nat->Value)(w:World):List Oper->List (Value->World->Prop)->Prop
 |o::r,s::rs=>s (wP f o) w/\D2 f w r rs
 |_,_=>True
def td(l:List Oper)(n:Nat):Bool:=
 (l.zipIdx.all λ(o,k)=>
  (match o.dst with|some d=>f9 l d==some k&&decide (d<n)|none=>true) &&
  (o.after.all λe=>!Region.binds .any e||decide (e.on<k)) &&
  (o.looksAt l.toArray).all λt=>match f9 l t with
   |none=>true
   |some j=>gT o j||gT (l.getD j default) k) &&
 (l.all λo=>match o.dst,o.op with
  |none,.store _ (.tmp t) _=>(match f9 l t with|none=>true|some j=>gT o j)
  |_,_=>true) &&
 l.all λo=>match o.guard with
  |none=>true
  |some (j,_)=>match(l[j]?).bind (·.dst)with|some d=>(o.looksAt l.toArray).contains d|none=>false
section
variable {P:Program} {l:List Oper} {a0:Act} {base:(Nat->Value)->World->Prop} {R:World->World->Prop} {Ss:List (Value->World->Prop)}
structure JJ (l:List Oper)(a0:Act)(base:(Nat->Value)->World->Prop)(Ss:List (Value->World->Prop))(listed:Array Bool)(a:Act)(w:World):Prop where
 base_:base (λt=>a.tmps.getD t undef) w
 defers:a.defers=a0.defers
 lsize:listed.size=l.length
 asize:a.tmps.size=a0.tmps.size
 old:∀t,(∀(j:Nat) o,l[j]?=some o->o.dst=some t->listed.getD j true=false)->a.tmps.getD t undef=a0.tmps.getD t undef
 says:∀(j:Nat) o s,l[j]?=some o->Ss[j]?=some s->listed.getD j false=true->s (wP (λt=>a.tmps.getD t undef) o) w
 down:∀(j:Nat) o,l[j]?=some o->listed.getD j false=true->∀e∈o.after,Region.binds .any e=true->listed.getD e.on false=true
theorem Bc(a:Act):a.eval=oN λt=>a.tmps.getD t undef:=by funext x;cases x<;>rfl
theorem lz.at_{lo:List Oper}{ls:List (Value->World->Prop)}:∀{o:Oper}{k:Nat},lz P l (λt=>a0.tmps.getD t undef) base R Ss lo ls->lo[k]?=some o->∃s,ls[k]?=some s/\Ef P l (λt=>a0.tmps.getD t undef) base R Ss o s:=by
 induction lo generalizing ls with
 |nil=>intro o k _ h;simp at h
 |cons x r ih=>
  intro o k hd h
  match ls,hd with
  |s::rs,hd=>
   cases k with
   |zero=>simp at h;subst h;exact⟨s,rfl,hd.1⟩
   |succ k=>simpa using ih hd.2 (by simpa using h)
theorem C7.at_:∀{ls:List (Value->World->Prop)}{k:Nat}{s:Value->World->Prop},C7 R ls->ls[k]?=some s->∀w w' u,R w w'->s u w->s u w'
 | [],_,_,_,h=>by simp at h
 |x::r,0,s,hk,h=>by simp at h;subst h;exact hk.1
 |x::r,k+1,s,hk,h=>C7.at_ hk.2 (by simpa using h)
theorem sQ{t:Tmp}{j:Nat}(h:f9 l t=some j):∃o,l[j]?=some o/\o.dst=some t:=by
 unfold f9 at h;rw[List.findIdx?_eq_some_iff_getElem]at h;obtain⟨hj,h1,_⟩:=h;exact⟨l[j],oGE hj,by simpa using h1⟩
theorem sR{t:Tmp}(h:f9 l t=none):∀(j:Nat) o,l[j]?=some o->o.dst≠some t:=by
 unfold f9 at h;rw[List.findIdx?_eq_none_iff]at h;intro j o hj e;have:=h o (List.mem_of_getElem? hj);simp[e]at this
theorem iy{n:Nat}(h:td l n=true){k:Nat}{o:Oper}(hk:l[k]?=some o):
 (∀d,o.dst=some d->f9 l d=some k/\d<n)/\(∀e∈o.after,Region.binds .any e=true->e.on<k)/\
 (∀t∈o.looksAt l.toArray,∀j,f9 l t=some j->gT o j=true\/gT (l.getD j default) k=true)/\
 (∀y t x,o.dst=none->o.op=.store y (.tmp t) x->∀j,f9 l t=some j->gT o j=true)/\
 (∀j b,o.guard=some (j,b)->∃d,(l[j]?).bind (·.dst)=some d/\d∈o.looksAt l.toArray):=by
 simp only[td,oBA,List.all_eq_true]at h;obtain⟨⟨h1,hst⟩,h2⟩:=h
 have hm:(o,k)∈l.zipIdx:=by rw[List.mem_zipIdx_iff_getElem?];simpa using hk
 have h3:=h1 _ hm;simp only[oBA,List.all_eq_true]at h3;obtain⟨⟨h4,h5⟩,h6⟩:=h3;refine⟨λd hd=>?_,λe he hb=>?_,λt ht j hj=>?_,λy t x hd hop j hw=>?_,λj b hg=>?_⟩
 ·rw[hd]at h4;simpa using h4
 ·have:=(Array.all_eq_true_iff_forall_mem.1 h5) e he;simpa[hb]using this
 ·have:=h6 t ht;rw[hj]at this;simpa using this
 ·have:=hst o (List.mem_of_getElem? hk);rw[hd,hop]at this;simp only[hw]at this;exact this
 ·have:=h2 o (List.mem_of_getElem? hk);rw[hg]at this;simp only at this
  cases hd:(l[j]?).bind (·.dst)with
  |none=>rw[hd]at this;simp at this
  |some d=>rw[hd]at this;exact⟨d,rfl,by simpa using this⟩
theorem nG{o:Oper}{j:Nat}(h:gT o j=true):∃e∈o.after,e.on=j/\Region.binds .any e=true:=by
 unfold gT at h;rw[List.any_eq_true]at h;obtain⟨e,he,hx⟩:=h;simp only[oBA,beq_iff_eq]at hx;exact⟨e,by simpa using he,hx.1,hx.2⟩
theorem la{listed:Array Bool}{i j:Nat}{b:Bool}(hi:i<listed.size):(listed.setIfInBounds i true).getD j b=if i=j then true else listed.getD j b:=by
 by_cases e:i=j
 ·subst e;simp[Array.getD,hi]
 ·simp only[oIN e];simp only[Array.getD,Array.size_setIfInBounds];split
  ·exact Array.getElem_setIfInBounds_ne _ e
  ·rfl
theorem jw{a:Act}{d t:Nat}{v:Value}(hd:d<a.tmps.size):(a.put (some d) v).tmps.getD t undef=if d=t then v else a.tmps.getD t undef:=by
 unfold Act.put;by_cases e:d=t
 ·subst e;simp[Array.getD,hd]
 ·simp only[oIN e];simp only[Array.getD,Array.size_setIfInBounds];split
  ·exact Array.getElem_setIfInBounds_ne _ e
  ·rfl
theorem JJ.step(UJ:∀w,R w w)(hB:td l a0.tmps.size=true)(hD:lz P l (λt=>a0.tmps.getD t undef) base R Ss l Ss)(hK:C7 R Ss){listed:Array Bool}{a:Act}{w:World}{Q:Exit->Act->World->Prop}(h:JJ l a0 base Ss listed a w){i:Nat}(hi:i∈Region.ready .any l.toArray listed):
 wpOp P l.toArray Q i (λa' w'=>JJ l a0 base Ss (listed.setIfInBounds i true) a' w') a w:=by
 obtain⟨XD,o,ho,Zi⟩:=mem_ready.1 hi
 have Zn:l[i]?=some o:=by simpa using ho
 have Xa:i<listed.size:=by rw[h.lsize];exact(oGS Zn).1
 obtain⟨ZW,Z0,UM,QM,Pg⟩:=iy hB Zn;obtain⟨s,hs,TH⟩:=hD.at_ Zn
 have YB:∀t∈o.looksAt l.toArray,vj l (λt=>a0.tmps.getD t undef) Ss o (λt=>a.tmps.getD t undef) w t:=by
  intro t ht;unfold vj
  cases hw:f9 l t with
  |none=>exact h.old t λj o' hj hd=>absurd hd (sR hw j o' hj)
  |some j=>
   obtain⟨oj,YW,VK⟩:=sQ hw;by_cases hwt:gT o j=true
   ·simp only[hwt,if_true];obtain⟨e,he,Ue,VG⟩:=nG hwt
    have VN:listed.getD j false=true:=by rw[<- Ue];exact Zi e he VG
    obtain⟨sj,Wi,_⟩:=hD.at_ YW;have:=h.says j oj sj YW Wi VN;simpa[List.getD,Wi,wP,VK]using this
   ·simp only[hwt];refine h.old t λj' o' ZZ hd'=>?_
    have hjj:j'=j:=by
     have:=((iy hB ZZ).1 t hd').1
     rw[hw]at this;injection this with this;exact this.symm
    subst hjj;rcases UM t ht j' hw with h'|h'
    ·exact absurd h' hwt
    ·have e:l.getD j' default=oj:=by simp[List.getD,YW]
     rw[e]at h';obtain⟨ed,RV,Ue,VG⟩:=nG h'
     cases hl:listed.getD j' true with
     |false=>rfl
     |true=>
      exfalso
      have hjl:j'<listed.size:=by rw[h.lsize];exact(oGS YW).1
      have YC:listed.getD j' false=true:=by simpa[Array.getD,hjl]using hl
      have:=h.down j' oj YW YC ed RV VG;rw[Ue]at this;simp[Array.getD,Xa]at this XD;rw[this]at XD;cases XD
 have RH:∀d t,o.dst=some d->vg l d t=true->a.tmps.getD t undef=a0.tmps.getD t undef:=by
  intro d t hd hb;unfold vg at hb;rw[(ZW d hd).1]at hb
  cases hw:f9 l t with
  |none=>rw[hw]at hb;cases hb
  |some j=>
   rw[hw]at hb;refine h.old t λj' o' ZZ hd'=>?_
   have hjj:j'=j:=by
    have:=((iy hB ZZ).1 t hd').1
    rw[hw]at this;injection this with this;exact this.symm
   subst hjj
   have key:∀n j,uK l n j i=true->listed.getD j false=true->listed.getD i false=true:=by
    intro n
    induction n with
    |zero=>intro j h1;cases h1
    |succ n ih=>
     intro j h1 h2;simp only[uK]at h1;rw[Array.any_eq_true]at h1;obtain⟨k,hk,h3⟩:=h1;simp only[oBA,Bool.or_eq_true,beq_iff_eq]at h3
     have hjl:j<l.length:=by
      rw[<- h.lsize];rcases Nat.lt_or_ge j listed.size with h'|h'
      ·exact h'
      ·simp[Array.getD,Nat.not_lt.2 h']at h2
     have YW:l[j]?=some l[j]:=oGE hjl
     have e:l.getD j default=l[j]:=by simp[List.getD,YW]
     have h4:=h.down j l[j] YW h2 _ (by rw[<- e];exact Array.getElem_mem hk) h3.1;rcases h3.2 with h5|h5
     ·rw[<- h5];exact h4
     ·exact ih _ h5 h4
   cases hl:listed.getD j' true with
   |false=>rfl
   |true=>
    exfalso
    have hjl:j'<listed.size:=by rw[h.lsize];exact(oGS ZZ).1
    have YC:listed.getD j' false=true:=by simpa[Array.getD,hjl]using hl
    have:listed.getD i false=true:=by
     simp only[Bool.or_eq_true,beq_iff_eq]at hb;rcases hb with hb|hb
     ·rw[<- hb];exact YC
     ·exact key _ _ hb YC
    simp[Array.getD,Xa]at this XD;rw[this]at XD;cases XD
 have Wu:=TH (λt=>a.tmps.getD t undef) w h.base_ YB RH
 have Uy:Region.wanted o (yielded l.toArray a.tmps)=vq l (λt=>a.tmps.getD t undef) o:=by
  unfold Region.wanted vq
  cases hg:o.guard with
  |none=>rfl
  |some p=>
   obtain⟨j,b⟩:=p;obtain⟨d,hd,_⟩:=Pg j b hg
   have Wt:d<a.tmps.size:=by
    rw[h.asize];obtain⟨oj,YW,VK⟩:=Option.bind_eq_some_iff.1 hd;exact((iy hB YW).1 d VK).2
   have hy:yielded l.toArray a.tmps j=(match a.tmps.getD d undef with|.bool c=>some c|_=>none):=by
    unfold yielded
    have e:(l.toArray[j]?).bind (·.dst)=some d:=by simpa using hd
    rw[e];simp only[oBS];rw[Array.getElem?_eq_getElem Wt];simp only[Array.getD,Wt,dif_pos,Array.getInternal_eq_getElem];cases a.tmps[d]<;>rfl
   simp only[hd];rw[hy];cases a.tmps.getD d undef<;>simp
 have Xr:∀v w',C4 base R s (λt=>a.tmps.getD t undef) o w v w'->JJ l a0 base Ss (listed.setIfInBounds i true) (a.put o.dst v) w':=by
  intro v w' ⟨hb,hR,Q'⟩
  have hsz:(a.put o.dst v).tmps.size=a.tmps.size:=by unfold Act.put;split<;>simp
  have SM:(λt=>(a.put o.dst v).tmps.getD t undef)=Dj (λt=>a.tmps.getD t undef) o.dst v:=by
   funext t;unfold Dj
   cases hd:o.dst with
   |none=>rfl
   |some d=>exact jw (by rw[h.asize];exact(ZW d hd).2)
  refine⟨by rw[SM];exact hb,by rw[<- h.defers];unfold Act.put;split<;>rfl,by simpa using h.lsize,hsz.trans h.asize,λt ht=>?_,λj oj sj YW Wi VN=>?_,λj oj YW VN e he VG=>?_⟩
  ·have P5:o.dst≠some t:=λe=>by
    have:=ht i o Zn e;rw[la Xa]at this;simp at this
   have ZP:=h.old t λj oj YW VK=>by
    have:=ht j oj YW VK;rw[la Xa]at this;split at this
    ·cases this
    ·exact this
   rw[<- ZP]
   cases hd:o.dst with
   |none=>rfl
   |some d=>rw[jw (by rw[h.asize];exact(ZW d hd).2),oIN (by rintro rfl;exact P5 hd)]
  ·by_cases e:i=j
   ·subst e
    rw[Zn]at YW;injection YW with YW;subst YW
    rw[hs]at Wi;injection Wi with Wi;subst Wi
    cases hd:o.dst with
    |none=>
     have e1:(a.put none v).tmps=a.tmps:=rfl
     have e2:tD (λt=>a.tmps.getD t undef) o v=wP (λt=>a.tmps.getD t undef) o:=by unfold tD;rw[hd]
     rw[e1,<- e2];exact Q'
    |some d=>
     have e2:tD (λt=>a.tmps.getD t undef) o v=v:=by unfold tD;rw[hd]
     have e3:wP (λt=>(a.put (some d) v).tmps.getD t undef) o=v:=by
      unfold wP;rw[hd];simp only;rw[jw (by rw[h.asize];exact(ZW d hd).2),oIP rfl]
     rw[e3,<- e2];exact Q'
   ·rw[la Xa,oIN e]at VN;have ZP:=hK.at_ Wi w w' _ hR (h.says j oj sj YW Wi VN)
    have Y3:∀t,o.dst≠some t->(a.put o.dst v).tmps.getD t undef=a.tmps.getD t undef:=λt ht=>by
     cases hd:o.dst with
     |none=>rfl
     |some d'=>rw[jw (by rw[h.asize];exact(ZW d' hd).2),oIN (by rintro rfl;exact ht hd)]
    have SH:wP (λt=>(a.put o.dst v).tmps.getD t undef) oj=wP (λt=>a.tmps.getD t undef) oj:=by
     unfold wP
     cases VK:oj.dst with
     |some d=>
      refine Y3 d λhd=>?_;have h1:=(ZW d hd).1;have h2:=((iy hB YW).1 d VK).1;rw[h1]at h2
      injection h2 with h2
      exact e h2
     |none=>
      cases hop:oj.op with
      |store y t x=>
       cases t with
       |tmp t=>
        refine Y3 t λhd=>?_;have h1:=(ZW t hd).1;have h2:=(iy hB YW).2.2.2.1 y t x VK hop i h1;obtain⟨ed,RV,Ue,VG⟩:=nG h2;have:=h.down j oj YW VN ed RV VG;rw[Ue]at this;simp[Array.getD,Xa]at this XD;rw[this]at XD;cases XD
       |const _=>rfl
       |global _=>rfl
       |func _=>rfl
      |_=>rfl
    rw[SH];exact ZP
  ·rw[la Xa];split
   ·rfl
   ·by_cases e':i=j
    ·subst e'
     rw[Zn]at YW;injection YW with YW;subst YW
     exact Zi e he VG
    ·rw[la Xa,oIN e']at VN;exact h.down j oj YW VN e he VG
 unfold wpOp;simp only[ho];rw[Uy];by_cases hw:vq l (λt=>a.tmps.getD t undef) o=true
 ·rw[oIP hw]at Wu⊢;refine .inl ?_;unfold Oper.wp;rw[Bc];generalize(execOp (oN λt=>a.tmps.getD t undef) o).run P w=r at Wu
  cases r with
  |ok n w'=>
   cases n<;>simp only[fm]at Wu<;>simp only[Oper.upon]
   case value v=>exact Xr v w' Wu
   case skip=>exact Xr undef w' Wu
   case enter fn args=>exact Wu.mono λe Wp ⟨v,he,hp⟩=>by subst he;exact Xr v Wp hp
  |halt x w'=>simp only[fm]at Wu
 ·rw[oIN hw]at Wu⊢;exact Xr undef w ⟨Wu.1,UJ w,Wu.2⟩
theorem pD{n:Nat}(hB:td l n=true){listed:Array Bool}(hs:listed.size=l.length)(hr:Region.ready .any l.toArray listed=[]):∀(k:Nat),k<l.length->listed.getD k false=true:=by
 intro k
 induction k using Nat.strongRecOn with
 |_ k ih=>
  intro hk
  cases hl:listed.getD k false with
  |true=>rfl
  |false=>
   exfalso;have ho:l[k]?=some l[k]:=oGE hk
   have:k∈Region.ready .any l.toArray listed:=by
    refine mem_ready.2 ⟨?_,l[k],by simp,λe he hb=>?_⟩
    ·have:k<listed.size:=by omega
     simpa[Array.getD,this]using hl
    ·have:=(iy hB ho).2.1 e he hb;exact ih e.on this (by omega)
   rw[hr]at this;cases this
theorem oZ(UJ:∀w,R w w)(hB:td l a0.tmps.size=true)(hD:lz P l (λt=>a0.tmps.getD t undef) base R Ss l Ss)(hK:C7 R Ss){Q:Exit->Act->World->Prop}
 (WE:∀listed a w,(∀k,k<l.length->listed.getD k false=true)->JJ l a0 base Ss listed a w->Q .normal a w):
 ∀(Ya:Nat)(listed:Array Bool)(a:Act)(w:World),JJ l a0 base Ss listed a w->(∃c:List Bool,c.length=l.length/\listed.toList=c/\c.count false=Ya)->wpAny P .any l.toArray Q Ya listed a w
 |0,listed,a,w,h,⟨c,ZC,Zw,UO⟩=>by
  have hr:Region.ready .any l.toArray listed=[]:=by
   rw[List.eq_nil_iff_forall_not_mem];intro i hi;have XD:=(mem_ready.1 hi).1
   have Xa:i<listed.size:=by
    rcases Nat.lt_or_ge i listed.size with h'|h'
    ·exact h'
    ·simp[Array.getD,Nat.not_lt.2 h']at XD
   have:false∈c:=by
    rw[<- Zw]
    have h1:listed[i]=false:=by simpa[Array.getD,Xa]using XD
    rw[<- h1];simp
   exact absurd (List.count_pos_iff.2 this) (by omega)
  exact⟨hr,WE _ _ _ (pD hB h.lsize hr) h⟩
 |Ya+1,listed,a,w,h,⟨c,ZC,Zw,UO⟩=>by
  refine⟨λhr=>WE _ _ _ (pD hB h.lsize hr) h,λi hi=>?_⟩;refine wpOp_mono (λa' w' h'=>oZ UJ hB hD hK WE Ya _ a' w' h' ?_) (h.step UJ hB hD hK hi);have XD:=(mem_ready.1 hi).1
  have Xa:i<listed.size:=by
   rcases Nat.lt_or_ge i listed.size with h'|h'
   ·exact h'
   ·simp[Array.getD,Nat.not_lt.2 h']at XD
  have h1:listed[i]=false:=by simpa[Array.getD,Xa]using XD
  refine⟨_,?_,rfl,?_⟩
  ·simp;have:=h.lsize;omega
  ·rw[Array.toList_setIfInBounds,List.count_set (by simpa using Xa)];subst Zw;rw[UO];simp[h1]
theorem yX{f:Nat->Value}{w:World}:∀{lo:List Oper}{ls:List (Value->World->Prop)},(∀(k:Nat) o s,lo[k]?=some o->ls[k]?=some s->s (wP f o) w)->D2 f w lo ls
 | [],_,_=>by unfold D2;trivial
 |_::_,[],_=>by unfold D2;trivial
 |o::r,s::rs,h=>⟨h 0 o s rfl rfl,yX λk o' s' h1 h2=>h (k+1) o' s' (by simpa using h1) (by simpa using h2)⟩
theorem nB(f:Nat->Value):∀(lo:List Oper)(a:Act),(eT f lo a).tmps.size=a.tmps.size
 | [],_=>rfl
 |o::r,a=>by
  rw[eT,nB f r];unfold Act.put;split<;>simp
theorem kK(f:Nat->Value):∀(lo:List Oper)(a:Act),(eT f lo a).defers=a.defers
 | [],_=>rfl
 |o::r,a=>by
  rw[eT,kK f r];unfold Act.put;split<;>rfl
theorem nC(f:Nat->Value):∀(lo:List Oper)(a:Act)(t:Nat),t<a.tmps.size ->
 (eT f lo a).tmps.getD t undef=f t/\(∃o∈lo,o.dst=some t)\/(eT f lo a).tmps.getD t undef=a.tmps.getD t undef/\∀o∈lo,o.dst≠some t
 | [],_,_,_=>.inr ⟨rfl,by simp⟩
 |o::r,a,t,ht=>by
  have hsz:(a.put o.dst (w4 f o.dst)).tmps.size=a.tmps.size:=by unfold Act.put;split<;>simp
  rcases nC f r (a.put o.dst (w4 f o.dst)) t (by rw[hsz];exact ht)with⟨h1,o',h2,h3⟩|⟨h1,h2⟩
  ·exact .inl ⟨h1,o',List.mem_cons_of_mem _ h2,h3⟩
  ·by_cases hd:o.dst=some t
   ·refine .inl ⟨?_,o,List.mem_cons_self ..,hd⟩;rw[eT,h1,hd,jw ht,oIP rfl];rfl
   ·refine .inr ⟨?_,λo' Zn=>?_⟩
    ·rw[eT,h1]
     cases hd':o.dst with
     |none=>rfl
     |some d=>
      by_cases hds:d<a.tmps.size
      ·rw[jw hds,oIN (by rintro rfl;exact hd hd')]
      ·unfold Act.put;simp[Array.setIfInBounds,hds]
    ·rcases List.mem_cons.1 Zn with rfl|h'
     ·exact hd
     ·exact h2 o' h'
theorem jI{id:Nat}{w0:World}{Q:Exit->Act->World->Prop}(base:(Nat->Value)->World->Prop)(R:World->World->Prop)(Ss:List (Value->World->Prop))
 (n:Nat)(hm:P.follows .mixedOrders=true)(hn:a0.tmps.size=n)(Tb:td l n=true)(h0:base (λt=>a0.tmps.getD t undef) w0.drew)(UJ:∀w,R w w)(hK:C7 R Ss)
 (hD:lz P l (λt=>a0.tmps.getD t undef) base R Ss l Ss)
 (WE:∀f w,base f w->D2 f w l Ss->Q .normal (eT f l a0) w):(Code.region id l.toArray true).wp P Q a0 w0:=by
 have hB:td l a0.tmps.size=true:=by rw[hn];exact Tb
 refine wp_region_any hm ?_;refine oZ (a0:=a0) (R:=R) (Ss:=Ss) UJ hB hD hK (λlisted a w hl h=>?_) _ _ _ _ (?_:JJ l a0 base Ss _ _ _) ⟨_,?_,rfl,?_⟩
 ·have e:a=eT (λt=>a.tmps.getD t undef) l a0:=by
   have hd:a.defers=(eT (λt=>a.tmps.getD t undef) l a0).defers:=by rw[kK,h.defers]
   have ht:a.tmps=(eT (λt=>a.tmps.getD t undef) l a0).tmps:=by
    refine Array.ext (by rw[nB,h.asize]) λi h1 h2=>?_
    have TQ:i<a0.tmps.size:=by rw[<- h.asize];exact h1
    have e1:a.tmps[i]=a.tmps.getD i undef:=by simp[Array.getD,h1]
    have e2:(eT (λt=>a.tmps.getD t undef) l a0).tmps[i]=(eT (λt=>a.tmps.getD t undef) l a0).tmps.getD i undef:=by rw[Array.getD,dif_pos h2];rfl
    rw[e1,e2]
    rcases nC (λt=>a.tmps.getD t undef) l a0 i TQ with⟨h3,_⟩|⟨h3,h4⟩
    ·exact h3.symm
    ·rw[h3];exact h.old i λj o ho hd=>absurd hd (h4 o (List.mem_of_getElem? ho))
   cases a;cases hp:eT (λt=>Array.getD _ t undef) l a0;simp only[hp]at hd ht;subst hd;subst ht
   simp_all
  rw[e];exact WE _ w h.base_ (yX λk o s ho hs=>h.says k o s ho hs (hl k (oGS ho).1))
 ·exact⟨h0,rfl,by simp,rfl,λ_ _=>rfl,λj o s ho hs hl=>by simp[Array.getD]at hl,λj o ho hl=>by simp[Array.getD]at hl⟩
 ·simp
 ·simp[List.count_replicate]
end
theorem bV{P:Program}{l:List Oper}{old:Nat->Value}{base:(Nat->Value)->World->Prop}{R:World->World->Prop}{Ss:List (Value->World->Prop)}{o:Oper}{r:List Oper}{s:Value->World->Prop}{rs:List (Value->World->Prop)}
 (h:Ef P l old base R Ss o s)(h':lz P l old base R Ss r rs):lz P l old base R Ss (o::r) (s::rs):=⟨h,h'⟩
theorem ca{P:Program}{l:List Oper}{old:Nat->Value}{base:(Nat->Value)->World->Prop}{R:World->World->Prop}{Ss:List (Value->World->Prop)}{o:Oper}{s:Value->World->Prop}(hg:o.guard=none)
 (h:∀(f:Nat->Value)(w:World),base f w->(∀t∈o.looksAt l.toArray,vj l old Ss o f w t)->(∀d t,o.dst=some d->vg l d t=true->f t=old t)->fm P (λv w'=>C4 base R s f o w v w') ((execOp (oN f) o).run P w)):Ef P l old base R Ss o s:=by
 intro f w hb H HN
 have:vq l f o=true:=by unfold vq;rw[hg]
 rw[oIP this];exact h f w hb H HN
theorem px{P:Program}{l:List Oper}{old:Nat->Value}{base:(Nat->Value)->World->Prop}{R:World->World->Prop}{Ss:List (Value->World->Prop)}:lz P l old base R Ss [] []:=trivial
def jG(u:Value)(v:Value)(_:World):Prop:=v=u
def Eo(k:IntKind)(lo hi:Int)(v:Value)(_:World):Prop:=∃n:Int,lo<=n/\n<=hi/\v=.int k n
theorem jG.kept{x:Value}{R:World->World->Prop}(w w':World)(u:Value)(_:R w w')(h:jG x u w):jG x u w':=h
theorem Eo.kept{k:IntKind}{lo hi:Int}{R:World->World->Prop}(w w':World)(u:Value)(_:R w w')(h:Eo k lo hi u w):Eo k lo hi u w':=h
attribute [go_sem] oN fm tD wP Dj
def Bk(w:World)(q t:Nat)(vs:List Value):Prop:=w.heap[q]?=some (.cells vs.toArray t (0,0))
theorem Bk.hi{w:World}{q t:Nat}{vs:List Value}(h:Bk w q t vs):q<w.heap.size:=(Array.getElem?_eq_some_iff.1 h).1
theorem Bk.keep{w w':World}{q t:Nat}{vs:List Value}(h:Bk w q t vs)(hh:w'.heap[q]?=w.heap[q]?):Bk w' q t vs:=hh.trans h
theorem Bk.grow{w w':World}{q t:Nat}{vs:List Value}(h:Bk w q t vs)(hg:w.grownBy w' none):Bk w' q t vs:=h.keep (hg.block _ h.hi (by simp))
theorem Bk.cell{w:World}{q t:Nat}{vs:List Value}(h:Bk w q t vs)(j:Nat):w.cell? ⟨q,j,none⟩=vs[j]?:=by
 rw[cell_of_row _ _ _ _ _ _ h];simp
theorem Bk.free{w:World}{q t:Nat}{vs:List Value}(h:Bk w q t vs)(j:Nat):w.frozen? ⟨q,j,none⟩=false:=frozen_of_row _ _ _ _ _ h
theorem Bk.new{w:World}{t:Nat}{vs:List Value}:Bk (w.alloc (.cells vs.toArray t)) w.heap.size t vs:=heap_alloc_new w _
theorem Bk.set{w:World}{q t:Nat}{vs:List Value}(h:Bk w q t vs)(j:Nat)(v:Value):Bk (w.setCell ⟨q,j,none⟩ v) q t (vs.set j v):=by
 unfold Bk;rw[heap_setCell_same _ _ _ _ _ _ h];simp
theorem Bk.other{w:World}{q t q' j:Nat}{vs:List Value}(h:Bk w q t vs)(hne:q≠q')(v:Value):Bk (w.setCell ⟨q',j,none⟩ v) q t vs:=by
 unfold Bk;rw[heap_setCell_other _ _ _ _ hne];exact h
theorem Bk.drew{w:World}{q t:Nat}{vs:List Value}(h:Bk w q t vs):Bk w.drew q t vs:=h
structure SlT (P:Program)(t e:TypeId)(size bytes:Nat):Prop where
 under:P.underlying t=some (.slice e)
 info:∃i z,P.info? e=some i/\i.zero=some z/\i.size=size/\i.bytes=bytes/\z.cells.size=size
 pos:0<size
section
variable {P:Program} {w:World} {t e:TypeId} {size bytes:Nat}
def fe(w':World)(v:Value)(xs:List Value):Prop:=∀g,v.ownBlock=some g->∀j u,xs[j]?=some u->w'.cell? ⟨g,j,none⟩=some u
theorem fe.of{base:Nat}{v v':Value}{n:Nat}{xs ys:List Value}{w':World}(h:w'.ownsRow base e size v' n (xs++ys))(hb:v'.ownBlock=v.ownBlock):fe w' v xs:=by
 intro g hg j u hj;have h2:=World.ownsRow.cells (w:=w') (base:=base) (e:=e) (size:=size) (n:=n) h (g:=g) (by rw[hb];exact hg) j u (by rw[List.getElem?_append_left (oGS hj).1];exact hj)
 have e1:(⟨g,0,none⟩:Addr).add j=⟨g,j,none⟩:=by
  unfold Addr.add;split
  ·rename_i h0;subst h0;rfl
  ·simp
 rw[e1]at h2;exact h2
theorem fe.grown{base:Nat}{v:Value}{n:Nat}{xs:List Value}{w':World}(h:w.ownsRow base e size v n xs)(hg:w.grownBy w' none):fe w' v xs:=by
 have h1:w'.ownsRow base e size v n (xs++[]):=by
  rw[List.append_nil];exact h.kept hg (by cases v.ownBlock<;>simp)
 exact fe.of h1 rfl
theorem gW(T:SlT P t e size bytes)(ty:TypeId)(base:Nat)(v:Value)(n:Nat)(xs:List Value)(hown:w.ownsRow base e size v n xs)
 (ad:Addr)(m c:Nat)(news:List Value)(hl:news.length=m*size)(YP:∀(j:Nat) u,news[j]?=some u->w.cell? (ad.add j)=some u)(h1:∀u∈news,u.oneCell'=true)
 (U2:n+m<=maxLen)(Yx:(n+m)*bytes<=140737488355328)(YL:base<=w.heap.size):
 ∃v' w',(Builtin.append_ #[t,t] ty #[v,.slice (some ad) m c]).run P w=.ok v' w'/\w'.ownsRow base e size v' (n+m) (xs++news)/\w.grownBy w' v.ownBlock/\fe w' v xs:=by
 obtain⟨i,z,hi,hz,X2,WZ,YK⟩:=T.info
 rcases hown.2 with⟨rfl,hn⟩|⟨g,cap,cur,rfl,hb,R7,hcap,hmax,hsz,YB⟩
 ·subst hn;have hx:xs=[]:=oEN (by simpa using hown.1);subst hx;obtain⟨v',w',hr,Zj,hg,_⟩:=run_append_own (P:=P) w w.heap.size t ty e i z size bytes T.under hi hz X2 WZ YK T.pos (.slice none 0 0) 0 [] ⟨by simp,.inl ⟨rfl,rfl⟩⟩ ad m c news hl YP h1 U2 Yx (Nat.le_refl _);refine⟨v',w',hr,?_,hg,λg hg=>by simp[Value.ownBlock]at hg⟩;refine⟨Zj.1,?_⟩;rcases Zj.2 with h|⟨g,cap,cur,e1,e2,e3⟩
  ·exact .inl h
  ·exact .inr ⟨g,cap,cur,e1,Nat.le_trans YL e2,e3⟩
 ·rcases Nat.lt_or_ge cap (n+m)with hlt|hge
  ·have hc:=@World.ownsRow.cells w base e size _ n xs hown;obtain⟨v',w',hr,Zj,hg⟩:=run_append_arg_grows (P:=P) w t ty e i z size bytes T.under hi hz X2 WZ YK T.pos ⟨g,0,none⟩ n cap xs hown.1 (hc rfl) ad m c news hl YP hlt U2 Yx;refine⟨v',w',hr,⟨Zj.1,?_⟩,sa hg,fe.grown hown hg⟩;rcases Zj.2 with h|⟨g,cap,cur,e1,e2,e3⟩
   ·exact .inl h
   ·exact .inr ⟨g,cap,cur,e1,Nat.le_trans YL e2,e3⟩
  ·obtain⟨w',hr,Zj,hg⟩:=run_append_own_spare (P:=P) w base t ty e i size T.under hi X2 g n cap xs hown ad m c news hl YP h1 hge;exact⟨_,w',hr,Zj,hg,fe.of Zj rfl⟩
theorem nA{tn:TypeId}{kn kq:IntKind}{i:TypeInfo}{z:Value}{zs:List Value}(hu:P.underlying t=some (.slice e))(XT:P.underlying tn=some (.int kn))(hi:P.info? e=some i)(hz:i.zero=some z)(X2:i.size=size)(WZ:i.bytes=bytes)(YK:z.cells=zs.toArray)(X6:zs.length=size)(UA:∀u∈zs,u.oneCell'=true)(Z3:0<size)
 (ty:TypeId)(base:Nat)(v:Value)(n:Nat)(xs:List Value)(hown:w.ownsRow base e size v n xs)(Ye:0<n)(k:Nat)
 (U2:n+k<=1099511627776)(Yx:(n+k)*bytes<=140737488355328)(YL:base<=w.heap.size):
 ∃v' w',(Builtin.append_ #[t,tn] ty #[v,.int kq k]).run P w=.ok v' w'/\w'.ownsRow base e size v' (n+k) (xs++(List.replicate k zs).flatten)/\w.grownBy w' v.ownBlock/\fe w' v xs:=by
 subst X2;subst WZ
 have hz0:Builtin.zeroCells z.cells k=((List.replicate k zs).flatten).toArray:=by
  rw[YK];have:=i9 zs k;rw[<- this];simp[Builtin.zeroCells,madeCells]
 have WV:((List.replicate k zs).flatten).length=k*i.size:=by simp[X6]
 have ZI:∀u∈(List.replicate k zs).flatten,u.oneCell'=true:=λu hu=>by
  simp only[List.mem_flatten,List.mem_replicate]at hu;obtain⟨y,⟨_,rfl⟩,hy⟩:=hu;exact UA u hy
 have hbn:k*i.bytes<=140737488355328:=Nat.le_trans (Nat.mul_le_mul_right _ (by omega)) Yx
 rcases hown.2 with⟨rfl,hn⟩|⟨g,cap,cur,rfl,hb,R7,hcap,hmax,hsz,YB⟩
 ·omega
 ·rcases Nat.eq_zero_or_pos k with hk|hk
  ·subst hk;refine⟨_,w,hY w t tn ty e i kn kq hu XT hi (some ⟨g,0,none⟩) n cap hcap,?_,fZ _ _,?_⟩
   ·simpa using hown
   ·exact fe.grown hown (fZ _ _)
  ·rcases Nat.lt_or_ge cap (n+k)with hlt|hge
   ·have hc:=@World.ownsRow.cells w base e i.size _ n xs hown;have ZP:=run_firstCells_some (P:=P) w.drew i.size n ⟨g,0,none⟩ n cap xs hown.1 (λj u hj=>hc (g:=g) rfl j u hj);have hr:=Go.Lib.run_append_grow_zeros (P:=P) w t tn ty e i z kq kn hu XT hi hz (some ⟨g,0,none⟩) n cap xs ZP k hk Z3 hlt (by omega) (by omega) (growslice_fits hlt Yx);have hge:=grownCap_ge w (n+k) cap e;have Vb:grownCap w (n+k) cap e<=maxLen:=grownCap_le_maxLen w (n+k) cap e (by simp only[maxLen];omega);have VL:w.grownBy (w.drew.alloc (.cells (xs.toArray++Builtin.zeroCells z.cells k++Builtin.zeroCells z.cells (grownCap w (n+k) cap e-(n+k))) e)) none:=⟨rfl,rfl,rfl,by simp,λk hk _=>heap_alloc_old w.drew _ hk⟩;refine⟨_,_,hr,⟨by rw[List.length_append,hown.1,WV,Nat.add_mul],.inr ⟨w.heap.size,_,_,rfl,YL,heap_alloc_new w.drew _,hge,Vb,?_,?_⟩⟩,sa VL,fe.grown hown VL⟩
    ·rw[hz0];simp only[Array.size_append,List.size_toArray,size_zeroCells,YK,hown.1,WV,X6,<- Nat.add_mul];congr 1;omega
    ·rw[hz0];simp only[Array.toList_append,List.append_assoc];rw[<- List.append_assoc,show(n+k)*i.size=(xs++(List.replicate k zs).flatten).length by rw[List.length_append,hown.1,WV,Nat.add_mul]];exact List.take_left
   ·have ZU:n*i.size+(Builtin.zeroCells z.cells k).toList.length<=cur.size:=by
     rw[hz0,List.toList_toArray,WV,hsz,<- Nat.add_mul];exact Nat.mul_le_mul_right _ hge
    have hr:=fw (P:=P) w t tn ty e e i z kn kq hu XT hi hz g n cap cur R7 k hk Z3 (by omega) hbn (by rw[hz0];exact ZI) hge ZU;rw[hz0]at hr
    have Xz:(xs++(List.replicate k zs).flatten).length=(n+k)*i.size:=by rw[List.length_append,hown.1,WV,Nat.add_mul]
    rw[hz0]at ZU
    have Zj:(w.setRow g (cur.toList.take (n*i.size)++(List.replicate k zs).flatten++cur.toList.drop (n*i.size+((List.replicate k zs).flatten).length)).toArray).ownsRow base e i.size (.slice (some ⟨g,0,none⟩) (n+k) cap) (n+k) (xs++(List.replicate k zs).flatten):=by
     refine⟨Xz,.inr ⟨g,cap,_,rfl,hb,setRow_heap w g cur _ e _ R7,hge,hmax,?_,?_⟩⟩
     ·simp only[List.size_toArray,List.length_append,oLT,List.length_drop,Array.length_toList];simp only[List.toList_toArray]at ZU;omega
     ·rw[YB,<- Xz];exact List.take_left
    exact⟨_,_,hr,Zj,⟨rfl,rfl,rfl,by simp,λk _ hk=>setRow_other w g k _ (λe=>hk (by simp[Value.ownBlock,e]))⟩,fe.of Zj rfl⟩
end
theorem kO{v n:Int}(hn:1<=n)(h:v.tmod n<0):v.tmod n+n=v%n:=by
 have h1:=Int.tmod_add_mul_tdiv v n;have h2:=Int.emod_add_mul_ediv v n
 have hv:v<0:=by
  rcases Int.lt_or_le v 0 with h'|h'
  ·exact h'
  ·have:=Int.tmod_nonneg n h';omega
 have h3:v.tmod n=v%n-n:=by
  rw[Int.tmod_eq_emod];split
  ·rename_i hc;rcases hc with hc|hc
   ·omega
   ·exfalso;have:=Int.tmod_eq_zero_of_dvd hc;omega
  ·rw[Int.natAbs_of_nonneg (by omega)]
 omega
theorem p6{v n:Int}(hn:1<=n)(h:0<=v.tmod n):v.tmod n=v%n:=by
 rw[Int.tmod_eq_emod]at *;split
 ·omega
 ·rename_i hc;rw[oIN hc]at h;rw[Int.natAbs_of_nonneg (by omega)]at h;have:=Int.emod_lt_of_pos v (show 0<n by omega);omega
set_option maxHeartbeats 400000 in
theorem yp(v n:Int)(w:World)(XE:-9223372036854775808<=v)(Tl:v<=9223372036854775807)(hn:1<=n)(W3:n<=9223372036854775807):
 Calls Try.prog 55 #[.int .i64 v,.int .i64 n] w λe w'=>e=.returned (.int .i64 (v%n))/\w=w':=by
 have hz:¬n=0:=by omega
 have hl:v.tmod n<n:=by
  have:=Int.tmod_lt_of_pos v (show 0<n by omega);exact this
 have ha:∀h:v.tmod n<0,v.tmod n+n=v%n:=kO hn;have hb:∀h:0<=v.tmod n,v.tmod n=v%n:=p6 hn;have Ha:=Lib.hid ha;clear ha;have Hb:=Lib.hid hb;clear hb
 have T3:-n<v.tmod n:=by
  rcases Int.lt_or_le (v.tmod n) 0 with h|h
  ·have e:=kO hn h;have h0:=Int.emod_nonneg v (show n≠0 by omega)
   have h1:v%n≠0:=λh1=>by
    have:=Int.tmod_eq_zero_of_dvd (Int.dvd_of_emod_eq_zero h1);omega
   omega
  ·omega
 have So:0<=v%n/\v%n<n:=⟨Int.emod_nonneg v (by omega),Int.emod_lt_of_pos v (by omega)⟩
 go_enter Try.func55,Try.ntmps55
 go_wp2
 ·rename_i h
  go_ret;exact⟨xT (Ha.out h),rfl⟩
 ·go_ret;exact⟨xT (Hb.out ‹_›),rfl⟩
set_option maxHeartbeats 400000 in
theorem p7(v n:Int)(w:World)(XE:-9223372036854775808<=v)(Tl:v<=9223372036854775807)(hn:1<=n)(W3:n<=9223372036854775807):
 Calls Try.prog 21 #[.int .i64 v,.int .i64 n] w λe w'=>e=.returned (.int .i64 (v%n))/\w=w':=by
 go_enter Try.func21,Try.ntmps21
 go_wp2_with (go_at_call 55;refine(yp v n _ XE Tl hn W3).mono ?_;rintro e w' ⟨rfl,rfl⟩)
 go_ret;exact⟨rfl,rfl⟩
structure oU (w:World)(v:Value)(n sz:Nat)(cs:List Value):Prop where
 ex:∃b off cap,v=.slice (some ⟨b,off,none⟩) n cap/\b<w.heap.size/\∀(j:Nat) u,cs[j]?=some u->w.cell? ⟨b,off+j,none⟩=some u
 len:cs.length=n*sz
 one:∀u∈cs,u.oneCell'=true
theorem i6{P:Program}{w w':World}{t e:TypeId}{size bytes:Nat}(T:SlT P t e size bytes)(ty:TypeId)(base:Nat)(v:Value)(n:Nat)(cs:List Value)(hR:oU w v n size cs)(hg:w.grownBy w' none)
 (U2:n<=maxLen)(hb:n*bytes<=140737488355328)(YL:base<=w'.heap.size):
 ∃v' w2,(Builtin.append_ #[t,t] ty #[.slice none 0 0,v]).run P w'=.ok v' w2/\w2.ownsRow base e size v' n cs/\w'.grownBy w2 none:=by
 obtain⟨b,off,cap,rfl,hlt,hc⟩:=hR.ex
 obtain⟨v',w2,h1,h2,h3,_⟩:=gW (P:=P) (w:=w') T ty base (.slice none 0 0) 0 [] ⟨by simp,.inl ⟨rfl,rfl⟩⟩ ⟨b,off,none⟩ n cap cs hR.len (λj u hj=>by
  rw[cq,World.cell?_of_block (hg.block b hlt (by simp))]
  exact hc j u hj) hR.one (by omega) (by simpa using hb) YL
 exact⟨v',w2,h1,by simpa using h2,h3⟩
theorem pL:SlT Try.prog 22 78 5 40:=⟨by kernel_rfl,(by
 have h:(match Try.prog.info? 78 with|some i=>(match i.zero with|some z=>decide (z.cells.size=5)&&decide (i.size=5)&&decide (i.bytes=40)|none=>false)|none=>false)=true:=by kernel_rfl
 revert h
 cases Try.prog.info? 78 with
 |none=>intro h;cases h
 |some i=>
  intro h;simp only at h;split at h
  ·rename_i z hz;simp only[oBA,oDE]at h;exact⟨i,z,rfl,hz,h.1.2,h.2,h.1.1⟩
  ·cases h),by decide⟩
theorem BM:SlT Try.prog 23 3 1 8:=⟨by kernel_rfl,(by
 have h:(match Try.prog.info? 3 with|some i=>(match i.zero with|some z=>decide (z.cells.size=1)&&decide (i.size=1)&&decide (i.bytes=8)|none=>false)|none=>false)=true:=by kernel_rfl
 revert h
 cases Try.prog.info? 3 with
 |none=>intro h;cases h
 |some i=>
  intro h;simp only at h;split at h
  ·rename_i z hz;simp only[oBA,oDE]at h;exact⟨i,z,rfl,hz,h.1.2,h.2,h.1.1⟩
  ·cases h),by decide⟩
theorem BL:SlT Try.prog 24 84 1 24:=⟨by kernel_rfl,(by
 have h:(match Try.prog.info? 84 with|some i=>(match i.zero with|some z=>decide (z.cells.size=1)&&decide (i.size=1)&&decide (i.bytes=24)|none=>false)|none=>false)=true:=by kernel_rfl
 revert h
 cases Try.prog.info? 84 with
 |none=>intro h;cases h
 |some i=>
  intro h;simp only at h;split at h
  ·rename_i z hz;simp only[oBA,oDE]at h;exact⟨i,z,rfl,hz,h.1.2,h.2,h.1.1⟩
  ·cases h),by decide⟩
def C8:List Value:=[.int .i64 0,.int .i64 0,.int .i64 0,.int .i64 0,.int .i64 0]
def Bw:Value->Option Int
 |.int .i64 a=>some a
 |_=>none
def qj:List Value->Option (List Int)
 | []=>some []
 |x::r=>match Bw x,qj r with|some a,some l=>some (a::l)|_,_=>none
theorem yG:∀{l:List Value}{xs:List Int},qj l=some xs->l=xs.map (.int .i64):=by
 intro l
 induction l with
 |nil=>intro xs h;injection h with h;subst h;rfl
 |cons x r ih=>
  intro xs h;simp only[qj]at h;split at h
  ·rename_i a q h1 h2
   injection h with h
   subst h;rw[ih h2];unfold Bw at h1;split at h1
   ·injection h1 with h1;subst h1;rfl
   ·cases h1
  ·cases h
theorem yI:∃i z,Try.prog.info? 78=some i/\i.zero=some z/\i.size=5/\i.bytes=40/\z.cells=C8.toArray:=by
 have h:(match Try.prog.info? 78 with|some i=>(match i.zero with|some z=>decide (qj z.cells.toList=some [0,0,0,0,0])&&decide (i.size=5)&&decide (i.bytes=40)|none=>false)|none=>false)=true:=by kernel_rfl
 revert h
 cases Try.prog.info? 78 with
 |none=>intro h;cases h
 |some i=>
  intro h;simp only at h;split at h
  ·rename_i z hz;simp only[oBA,oDE]at h
   exact⟨i,z,rfl,hz,h.1.2,h.2,by
    have:=yG h.1.1;rw[<- Array.toArray_toList (xs:=z.cells),this]
    rfl⟩
  ·cases h
theorem kv{P:Program}{ops:Array Oper}{rest:List Oper}{o:Oper}{a:Act}{Q:Exit->Act->World->Prop}{w:World}{t it:TypeId}(XJ:o.guard=none)(s x:Operand)(ho:o.op=.call { callee:=.builtin .append,args:=#[s,x],argTypes:=#[t,it] })
 {vs vx v':Value}{w':World}(hs:a.eval s=vs)(hx:a.eval x=vx)(hrun:(Builtin.append_ #[t,it] o.type #[vs,vx]).run P w=.ok v' w')(h:wpList P ops Q rest (a.put o.dst v') w'):wpList P ops Q (o::rest) a w:=by
 refine wpList_plain XJ λK hK=>?_;unfold Oper.wp;simp[execOp,ho,resolve,invoke,builtin,hs,hx,hrun,Result.andThen];exact hK _ _ h
abbrev tw:Value:=.slice none 0 0
def Ph(N:Nat)(SS:Value)(e:TypeId)(m:Nat)(xs:List Value)(f s:Value)(w:World):Prop:=
 (f=undef/\s=SS)\/(f≠undef/\f≠SS/\w.ownsRow N e 1 f m xs/\(s=SS\/s=f))
theorem Ph.grown{N:Nat}{SS:Value}{e:TypeId}{m:Nat}{xs:List Value}{f s:Value}{w w':World}(h:Ph N SS e m xs f s w)(hg:w.grownBy w' none):Ph N SS e m xs f s w':=by
 rcases h with h|⟨h1,h2,h3,h4⟩
 ·exact .inl h
 ·exact .inr ⟨h1,h2,h3.kept hg (by cases f.ownBlock<;>simp),h4⟩
theorem dG{w:World}{N:Nat}{e:TypeId}{sz:Nat}{v:Value}{n:Nat}{xs:List Value}{p:Addr}{u:Value}(h:w.ownsRow N e sz v n xs)(hp:p.block<N):(w.setCell p u).ownsRow N e sz v n xs:=by
 refine⟨h.1,?_⟩;rcases h.2 with h|⟨g,cap,cur,e1,hb,hg,h⟩
 ·exact .inl h
 ·exact .inr ⟨g,cap,cur,e1,hb,(Below.heap_setCell w p u g (by omega)).trans hg,h⟩
theorem Ph.set{N:Nat}{SS:Value}{e:TypeId}{m:Nat}{xs:List Value}{f s:Value}{w:World}{p:Addr}{u:Value}(h:Ph N SS e m xs f s w)(hp:p.block<N):Ph N SS e m xs f s (w.setCell p u):=by
 rcases h with h|⟨h1,h2,h3,h4⟩
 ·exact .inl h
 ·exact .inr ⟨h1,h2,dG h3 hp,h4⟩
structure B2 (w:World)(C SS SD:Value)(n m l:Nat)(cs ss ds:List Value)(f16 f19:Value)(w':World):Prop where
 grown:w.grownBy w' none
 res:Bk w' (w.heap.size+1) 26 [tw,tw,tw]
 code:w'.ownsRow (w.heap.size+2) 78 5 C n cs
 box:∃s d,Bk w' w.heap.size 26 [C,s,d]/\Ph (w.heap.size+2) SS 3 m ss f16 s w'/\Ph (w.heap.size+2) SD 84 l ds f19 d w'
theorem Bu{w w':World}{SS v:Value}{e:TypeId}{n sz m sz':Nat}{xs ys:List Value}(hR:oU w SS n sz xs)(h:w'.ownsRow (w.heap.size+2) e sz' v m ys):v≠SS:=by
 obtain⟨b,off,cap,rfl,hlt,_⟩:=hR.ex;rintro rfl
 rcases h.2 with⟨h,_⟩|⟨g,Z2,cur,e1,hb,_⟩
 ·cases h
 ·injection e1 with e1
  injection e1 with e1
  injection e1 with e1
  omega
theorem gX{w':World}{v:Value}{N:Nat}{e:TypeId}{m sz':Nat}{ys:List Value}(h:w'.ownsRow N e sz' v m ys):v≠undef:=by
 rintro rfl
 rcases h.2 with⟨h,_⟩|⟨g,Z2,cur,e1,hb,_⟩
 ·cases h
 ·cases e1
def DD(q o:Nat)(SS:Value)(w:World):Prop:=w.cell? ⟨q,o,none⟩≠some SS
def RR2(q:Nat)(SS SD:Value)(w w':World):Prop:=(DD q 1 SS w->DD q 1 SS w')/\(DD q 2 SD w->DD q 2 SD w')
theorem RR2.refl{q:Nat}{SS SD:Value}(w:World):RR2 q SS SD w w:=⟨id,id⟩
theorem RR2.grown{q:Nat}{SS SD:Value}{w w':World}(hq:q<w.heap.size)(hg:w.grownBy w' none):RR2 q SS SD w w':=by
 have hh:∀o,w'.cell? ⟨q,o,none⟩=w.cell? ⟨q,o,none⟩:=λo=>World.cell?_of_block (hg.block q hq (by simp));exact⟨λh=>by unfold DD at *;rw[hh];exact h,λh=>by unfold DD at *;rw[hh];exact h⟩
section
variable {w:World} {C SS SD:Value} {n m l:Nat} {cs ss ds:List Value} {f16 f19:Value} {w1 w2:World}
theorem B2.lt(h:B2 w C SS SD n m l cs ss ds f16 f19 w1):w.heap.size<w1.heap.size:=by
 obtain⟨s,d,h1,_⟩:=h.box;exact h1.hi
theorem B2.lt2(h:B2 w C SS SD n m l cs ss ds f16 f19 w1):w.heap.size+2<=w1.heap.size:=h.res.hi
theorem B2.grow(h:B2 w C SS SD n m l cs ss ds f16 f19 w1)(hg:w1.grownBy w2 none):B2 w C SS SD n m l cs ss ds f16 f19 w2:=by
 obtain⟨s,d,h1,h2,h3⟩:=h.box;exact⟨ee h.grown hg,h.res.grow hg,h.code.kept hg (by cases C.ownBlock<;>simp),s,d,h1.grow hg,h2.grown hg,h3.grown hg⟩
theorem B2.one(h:B2 w C SS SD n m l cs ss ds undef f19 w1):w1.cell? ⟨w.heap.size,1,none⟩=some SS:=by
 obtain⟨s,d,h1,h2,_⟩:=h.box
 rcases h2 with⟨_,rfl⟩|⟨h2,_⟩
 ·rw[h1.cell];rfl
 ·exact absurd rfl h2
theorem wR(h:B2 w C SS SD n m l cs ss ds f16 undef w1):w1.cell? ⟨w.heap.size,2,none⟩=some SD:=by
 obtain⟨s,d,h1,_,h2⟩:=h.box
 rcases h2 with⟨_,rfl⟩|⟨h2,_⟩
 ·rw[h1.cell];rfl
 ·exact absurd rfl h2
theorem sL(h:B2 w C SS SD n m l cs ss ds undef f19 w1)(hg:w1.grownBy w2 none){v:Value}(ho:w2.ownsRow (w.heap.size+2) 3 1 v m ss)(hR:oU w SS m 1 ss):B2 w C SS SD n m l cs ss ds v f19 w2:=by
 obtain⟨s,d,h1,h2,h3⟩:=h.box;refine⟨ee h.grown hg,h.res.grow hg,h.code.kept hg (by cases C.ownBlock<;>simp),s,d,h1.grow hg,?_,h3.grown hg⟩
 rcases h2 with⟨_,rfl⟩|⟨h2,_⟩
 ·exact .inr ⟨gX ho,Bu hR ho,ho,.inl rfl⟩
 ·exact absurd rfl h2
theorem sK(h:B2 w C SS SD n m l cs ss ds f16 undef w1)(hg:w1.grownBy w2 none){v:Value}(ho:w2.ownsRow (w.heap.size+2) 84 1 v l ds)(hR:oU w SD l 1 ds):B2 w C SS SD n m l cs ss ds f16 v w2:=by
 obtain⟨s,d,h1,h2,h3⟩:=h.box;refine⟨ee h.grown hg,h.res.grow hg,h.code.kept hg (by cases C.ownBlock<;>simp),s,d,h1.grow hg,h2.grown hg,?_⟩
 rcases h3 with⟨_,rfl⟩|⟨h2,_⟩
 ·exact .inr ⟨gX ho,Bu hR ho,ho,.inl rfl⟩
 ·exact absurd rfl h2
theorem vp(h:B2 w C SS SD n m l cs ss ds f16 f19 w1)(h0:f16≠undef):B2 w C SS SD n m l cs ss ds f16 f19 (w1.setCell ⟨w.heap.size,1,none⟩ f16)/\RR2 w.heap.size SS SD w1 (w1.setCell ⟨w.heap.size,1,none⟩ f16)/\DD w.heap.size 1 SS (w1.setCell ⟨w.heap.size,1,none⟩ f16):=by
 obtain⟨s,d,h1,h2,h3⟩:=h.box;have h4:=h1.set 1 f16
 rcases h2 with⟨h2,_⟩|⟨h2,h5,h6,h7⟩
 ·exact absurd h2 h0
 ·have hD:DD w.heap.size 1 SS (w1.setCell ⟨w.heap.size,1,none⟩ f16):=by
   unfold DD;rw[h4.cell];intro e;exact h5 (Option.some.inj e)
  refine⟨⟨gk h.grown (.inr (by simp)) _,h.res.other (by simp) _,dG h.code (by simp),f16,d,h4,.inr ⟨h2,h5,dG h6 (by simp),.inr rfl⟩,h3.set (by simp)⟩,⟨λ_=>hD,λhd=>?_⟩,hD⟩;unfold DD at hd⊢;rw[h4.cell];rw[h1.cell]at hd;exact hd
theorem vo(h:B2 w C SS SD n m l cs ss ds f16 f19 w1)(h0:f19≠undef):B2 w C SS SD n m l cs ss ds f16 f19 (w1.setCell ⟨w.heap.size,2,none⟩ f19)/\RR2 w.heap.size SS SD w1 (w1.setCell ⟨w.heap.size,2,none⟩ f19)/\DD w.heap.size 2 SD (w1.setCell ⟨w.heap.size,2,none⟩ f19):=by
 obtain⟨s,d,h1,h3,h2⟩:=h.box;have h4:=h1.set 2 f19
 rcases h2 with⟨h2,_⟩|⟨h2,h5,h6,h7⟩
 ·exact absurd h2 h0
 ·have hD:DD w.heap.size 2 SD (w1.setCell ⟨w.heap.size,2,none⟩ f19):=by
   unfold DD;rw[h4.cell];intro e;exact h5 (Option.some.inj e)
  refine⟨⟨gk h.grown (.inr (by simp)) _,h.res.other (by simp) _,dG h.code (by simp),s,f19,h4,h3.set (by simp),.inr ⟨h2,h5,dG h6 (by simp),.inr rfl⟩⟩,⟨λhd=>?_,λ_=>hD⟩,hD⟩;unfold DD at hd⊢;rw[h4.cell];rw[h1.cell]at hd;exact hd
theorem B2.done(h:B2 w C SS SD n m l cs ss ds f16 f19 w1)(h1:DD w.heap.size 1 SS w1)(h2:DD w.heap.size 2 SD w1):
 ∃S D,Bk w1 w.heap.size 26 [C,S,D]/\w1.ownsRow (w.heap.size+2) 3 1 S m ss/\w1.ownsRow (w.heap.size+2) 84 1 D l ds:=by
 obtain⟨s,d,hK,h3,h4⟩:=h.box;unfold DD at h1 h2;rw[hK.cell]at h1 h2;simp only[List.getElem?_cons_zero,List.getElem?_cons_succ]at h1 h2
 have o:∀{N:Nat}{e:TypeId}{SS f s:Value}{m:Nat}{xs:List Value},Ph N SS e m xs f s w1->some s≠some SS->w1.ownsRow N e 1 s m xs:=by
  intro N e SS f s m xs h hne
  rcases h with⟨_,rfl⟩|⟨_,_,h,rfl|rfl⟩
  ·exact absurd rfl hne
  ·exact absurd rfl hne
  ·exact h
 exact⟨s,d,hK,o h3 h1,o h4 h2⟩
theorem Ph.slice{N:Nat}{SS:Value}{e:TypeId}{m:Nat}{xs:List Value}{f s:Value}{w:World}(h:Ph N SS e m xs f s w)(h0:f≠undef):∃A c,f=.slice A m c:=by
 rcases h with⟨h,_⟩|⟨_,_,h,_⟩
 ·exact absurd h h0
 ·rcases h.2 with⟨rfl,X'⟩|⟨g,cap,cur,rfl,_⟩
  ·rw[X'];exact⟨_,_,rfl⟩
  ·exact⟨_,_,rfl⟩
end
theorem rq{w:World}{N N':Nat}{e e':TypeId}{sz sz':Nat}{v v':Value}{n n':Nat}{xs ys:List Value}(h:w.ownsRow N e sz v n xs)(h':w.ownsRow N' e' sz' v' n' ys)(hne:e≠e'):v.ownBlock=none\/v.ownBlock≠v'.ownBlock:=by
 rcases h.2 with⟨rfl,_⟩|⟨g,cap,cur,rfl,_,hg,_⟩
 ·exact .inl rfl
 ·refine .inr λe1=>?_
  rcases h'.2 with⟨rfl,_⟩|⟨g',Z2,YS,rfl,_,TP,_⟩
  ·cases e1
  ·injection e1 with e1
   subst e1;have e2:=Option.some.inj (hg.symm.trans TP)
   injection e2 with _ e2
   exact hne e2
theorem oU.pos{w:World}{v:Value}{n sz:Nat}{cs:List Value}(h:oU w v n sz cs)(hn:0<n)(hs:0<sz):0<cs.length:=by rw[h.len];exact Nat.mul_pos hn hs
structure Pt (w:World)(S D:Value)(gC m l:Nat)(cs ss ds:List Value)(w':World):Prop where
 grown:w.grownBy w' none
 res:Bk w' (w.heap.size+1) 26 [tw,tw,tw]
 oS:w'.ownsRow (w.heap.size+2) 3 1 S m ss
 oD:w'.ownsRow (w.heap.size+2) 84 1 D l ds
 lt:gC<w'.heap.size
 pre:∀(j:Nat) u,cs[j]?=some u->w'.cell? ⟨gC,j,none⟩=some u
section
variable {w:World} {C S D:Value} {gC n m l k:Nat} {cs ss ds zs xs:List Value} {f73 f76 f79 v s:Value} {w1 w2:World}
theorem qQ{q:Nat}{vs:List Value}{t e:TypeId}{N sz:Nat}(h:Bk w1 q t vs)(ho:w1.ownsRow N e sz v n xs)(hq:q<N)(hg:w1.grownBy w2 v.ownBlock):Bk w2 q t vs:=
 h.keep (hg.block q h.hi λe1=>by have:=(ho.lt q e1.symm).1;omega)
theorem Pt.app(h:Pt w S D gC m l cs ss ds w1)(ho:w1.ownsRow (w.heap.size+2) 78 5 v n (cs++zs))(hg:w1.grownBy w2 v.ownBlock)(hs:fe w2 v (cs++zs)):Pt w S D gC m l cs ss ds w2:=by
 refine⟨?_,qQ h.res ho (by omega) hg,h.oS.kept hg (rq h.oS ho (by decide)),h.oD.kept hg (rq h.oD ho (by decide)),Nat.lt_of_lt_of_le h.lt hg.size,λj u hj=>?_⟩
 ·cases hv:v.ownBlock with
  |none=>rw[hv]at hg;exact ee h.grown hg
  |some g=>
   rw[hv]at hg;exact tO h.grown hg (by have:=(ho.lt g hv).1;omega)
 ·by_cases e:v.ownBlock=some gC
  ·exact hs gC e j u (by rw[List.getElem?_append_left (oGS hj).1];exact hj)
  ·rw[World.cell?_of_block (hg.block gC h.lt λe1=>e e1.symm)];exact h.pre j u hj
def Ph3(w:World)(C:Value)(n k:Nat)(cs:List Value)(f73 f76 f79 s:Value)(w':World):Prop:=
 (f73=undef/\f76=undef/\f79=undef/\s=C/\w'.ownsRow (w.heap.size+2) 78 5 C n (cs++[]))\/
 (f73≠undef/\f76=undef/\f79=undef/\s=C/\w'.ownsRow (w.heap.size+2) 78 5 f73 (n+n) (cs++cs))\/
 (f76≠undef/\f79=undef/\s=C/\w'.ownsRow (w.heap.size+2) 78 5 f76 (n+n+n) (cs++(cs++cs)))\/
 (f79≠undef/\w'.ownsRow (w.heap.size+2) 78 5 f79 (n+n+n+k) (cs++(cs++cs)++(List.replicate k C8).flatten)/\(s=C\/s=f79))
structure B16 (w:World)(C S D:Value)(gC n m l k:Nat)(cs ss ds:List Value)(f73 f76 f79:Value)(w':World):Prop where
 pt:Pt w S D gC m l cs ss ds w'
 box:∃s,Bk w' w.heap.size 26 [s,S,D]/\Ph3 w C n k cs f73 f76 f79 s w'
def qU(q:Nat)(C:Value)(w w':World):Prop:=DD q 0 C w->DD q 0 C w'
theorem qU.refl{q:Nat}{C:Value}(w:World):qU q C w w:=id
theorem lA{q t:Nat}{C:Value}{vs:List Value}(h1:Bk w1 q t vs)(h2:Bk w2 q t vs):qU q C w1 w2:=λh=>by
 unfold DD at h⊢;rw[h2.cell];rw[h1.cell]at h;exact h
theorem B16.load(h:B16 w C S D gC n m l k cs ss ds f73 f76 undef w1):w1.cell? ⟨w.heap.size,0,none⟩=some C:=by
 obtain⟨s,hK,h⟩:=h.box;rw[hK.cell]
 rcases h with⟨_,_,_,rfl,_⟩|⟨_,_,_,rfl,_⟩|⟨_,_,rfl,_⟩|⟨h,_⟩
 ·rfl
 ·rfl
 ·rfl
 ·exact absurd rfl h
theorem B16.grow(h:B16 w C S D gC n m l k cs ss ds f73 f76 f79 w1)(hg:w1.grownBy w2 none):B16 w C S D gC n m l k cs ss ds f73 f76 f79 w2:=by
 have kp:∀{e:TypeId}{sz:Nat}{v:Value}{n:Nat}{xs:List Value},w1.ownsRow (w.heap.size+2) e sz v n xs->w2.ownsRow (w.heap.size+2) e sz v n xs:=λ{e sz v n xs} h=>h.kept hg (by cases v.ownBlock<;>simp);obtain⟨s,hK,h2⟩:=h.box;refine⟨⟨ee h.pt.grown hg,h.pt.res.grow hg,kp h.pt.oS,kp h.pt.oD,Nat.lt_of_lt_of_le h.pt.lt hg.size,λj u hj=>?_⟩,s,hK.grow hg,?_⟩
 ·rw[World.cell?_of_block (hg.block gC h.pt.lt (by simp))];exact h.pt.pre j u hj
 ·rcases h2 with⟨a,b,c,d,ho⟩|⟨a,b,c,d,ho⟩|⟨a,b,c,ho⟩|⟨a,ho,b⟩
  ·exact .inl ⟨a,b,c,d,kp ho⟩
  ·exact .inr (.inl ⟨a,b,c,d,kp ho⟩)
  ·exact .inr (.inr (.inl ⟨a,b,c,kp ho⟩))
  ·exact .inr (.inr (.inr ⟨a,kp ho,b⟩))
theorem sO(h:B16 w C S D gC n m l k cs ss ds undef undef undef w1)(hC:∃c,C=.slice (some ⟨gC,0,none⟩) n c)(hl:cs.length=n*5)(h1:∀u∈cs,u.oneCell'=true)(hn:n<=64)(ty:TypeId):
 ∃v w2,(Builtin.append_ #[22,22] ty #[C,C]).run Try.prog w1=.ok v w2/\v≠undef/\B16 w C S D gC n m l k cs ss ds v undef undef w2/\qU w.heap.size C w1 w2:=by
 obtain⟨s,hK,h2⟩:=h.box
 rcases h2 with⟨_,_,_,rfl,ho⟩|⟨h2,_⟩|⟨h2,_⟩|⟨h2,_⟩
 ·obtain⟨c,rfl⟩:=hC;obtain⟨v,w2,hr,YY,hg,hs⟩:=gW pL ty _ _ n _ ho ⟨gC,0,none⟩ n c cs hl (λj u hj=>by rw[cq];simpa using h.pt.pre j u hj) h1 (by simp only[maxLen];omega) (by omega) (by have:w.heap.size+1<w1.heap.size:=h.pt.res.hi;omega);have VE:=qQ hK ho (by omega) hg;refine⟨v,w2,hr,gX YY,⟨h.pt.app ho hg hs,_,VE,.inr (.inl ⟨gX YY,rfl,rfl,rfl,?_⟩)⟩,lA hK VE⟩;rw[List.append_nil]at YY;exact YY
 ·exact absurd rfl h2
 ·exact absurd rfl h2
 ·exact absurd rfl h2
theorem sN(h:B16 w C S D gC n m l k cs ss ds f73 undef undef w1)(O8:f73≠undef)(hC:∃c,C=.slice (some ⟨gC,0,none⟩) n c)(hl:cs.length=n*5)(h1:∀u∈cs,u.oneCell'=true)(hn:n<=64)(ty:TypeId):
 ∃v w2,(Builtin.append_ #[22,22] ty #[f73,C]).run Try.prog w1=.ok v w2/\v≠undef/\B16 w C S D gC n m l k cs ss ds f73 v undef w2/\qU w.heap.size C w1 w2:=by
 obtain⟨s,hK,h2⟩:=h.box
 rcases h2 with⟨h2,_⟩|⟨_,_,_,rfl,ho⟩|⟨h2,_⟩|⟨h2,_⟩
 ·exact absurd h2 O8
 ·obtain⟨c,rfl⟩:=hC;obtain⟨v,w2,hr,YY,hg,hs⟩:=gW pL ty _ _ (n+n) _ ho ⟨gC,0,none⟩ n c cs hl (λj u hj=>by rw[cq];simpa using h.pt.pre j u hj) h1 (by simp only[maxLen];omega) (by omega) (by have:w.heap.size+1<w1.heap.size:=h.pt.res.hi;omega);have VE:=qQ hK ho (by omega) hg;refine⟨v,w2,hr,gX YY,⟨h.pt.app ho hg hs,_,VE,.inr (.inr (.inl ⟨gX YY,rfl,rfl,?_⟩))⟩,lA hK VE⟩;rw[List.append_assoc]at YY;exact YY
 ·exact absurd rfl h2
 ·exact absurd rfl h2
theorem sM(h:B16 w C S D gC n m l k cs ss ds f73 f76 undef w1)(QG:f76≠undef)(Ye:0<n)(hn:n<=64)(hk:k<=64)(ty:TypeId):
 ∃v w2,(Builtin.append_ #[22,3] ty #[f76,.int .i64 k]).run Try.prog w1=.ok v w2/\v≠undef/\B16 w C S D gC n m l k cs ss ds f73 f76 v w2/\qU w.heap.size C w1 w2:=by
 obtain⟨s,hK,h2⟩:=h.box;obtain⟨i,z,hi,hz,Ze,ZW,UA⟩:=yI
 rcases h2 with⟨_,h2,_⟩|⟨_,h2,_⟩|⟨_,_,rfl,ho⟩|⟨h2,_⟩
 ·exact absurd h2 QG
 ·exact absurd h2 QG
 ·obtain⟨v,w2,hr,YY,hg,hs⟩:=nA pL.under (show Try.prog.underlying 3=some (.int .i64) by kernel_rfl) hi hz Ze ZW UA rfl (by decide) (by decide) ty _ _ (n+n+n) _ ho (by omega) k (by omega) (by omega) (by have:w.heap.size+1<w1.heap.size:=h.pt.res.hi;omega);have VE:=qQ hK ho (by omega) hg;exact⟨v,w2,hr,gX YY,⟨h.pt.app ho hg hs,_,VE,.inr (.inr (.inr ⟨gX YY,YY,.inl rfl⟩))⟩,lA hK VE⟩
 ·exact absurd rfl h2
theorem Pt.set(h:Pt w S D gC m l cs ss ds w1)(u:Value)(hg:w.heap.size+2<=gC):Pt w S D gC m l cs ss ds (w1.setCell ⟨w.heap.size,0,none⟩ u):=
 ⟨gk h.grown (.inr (by simp)) _,h.res.other (by simp) _,dG h.oS (by simp),dG h.oD (by simp),by simpa[World.setCell]using h.lt,λj v hj=>by
  rw[World.cell?_of_block (Below.heap_setCell w1 _ u gC (by dsimp only;omega))]
  exact h.pre j v hj⟩
theorem B16.put(h:B16 w C S D gC n m l k cs ss ds f73 f76 f79 w1)(Ta:f79≠undef)(Ye:0<n)(hg:w.heap.size+2<=gC)(hC:∃c,C=.slice (some ⟨gC,0,none⟩) n c):
 (∃A c,f79=.slice A (n+n+n+k) c)/\B16 w C S D gC n m l k cs ss ds f73 f76 f79 (w1.setCell ⟨w.heap.size,0,none⟩ f79)/\qU w.heap.size C w1 (w1.setCell ⟨w.heap.size,0,none⟩ f79)/\DD w.heap.size 0 C (w1.setCell ⟨w.heap.size,0,none⟩ f79):=by
 obtain⟨s,hK,h2⟩:=h.box;have h4:=hK.set 0 f79
 rcases h2 with⟨_,_,h2,_⟩|⟨_,_,h2,_⟩|⟨_,h2,_⟩|⟨_,ho,_⟩
 ·exact absurd h2 Ta
 ·exact absurd h2 Ta
 ·exact absurd h2 Ta
 ·obtain⟨A,c,hA⟩:∃A c,f79=.slice A (n+n+n+k) c:=by
   rcases ho.2 with⟨rfl,X'⟩|⟨g,cap,cur,rfl,_⟩
   ·rw[X'];exact⟨_,_,rfl⟩
   ·exact⟨_,_,rfl⟩
  have hD:DD w.heap.size 0 C (w1.setCell ⟨w.heap.size,0,none⟩ f79):=by
   unfold DD;rw[h4.cell];obtain⟨c',rfl⟩:=hC;rw[hA];intro e;have e:=Option.some.inj e
   injection e with _ e _
   omega
  exact⟨⟨A,c,hA⟩,⟨h.pt.set _ hg,_,h4,.inr (.inr (.inr ⟨Ta,dG ho (by simp),.inr rfl⟩))⟩,λ_=>hD,hD⟩
theorem B16.done(h:B16 w C S D gC n m l k cs ss ds f73 f76 f79 w1)(h1:DD w.heap.size 0 C w1):
 ∃E,Bk w1 w.heap.size 26 [E,S,D]/\w1.ownsRow (w.heap.size+2) 78 5 E (n+n+n+k) (cs++(cs++cs)++(List.replicate k C8).flatten):=by
 obtain⟨s,hK,h2⟩:=h.box;unfold DD at h1;rw[hK.cell]at h1;simp only[List.getElem?_cons_zero]at h1
 rcases h2 with⟨_,_,_,rfl,_⟩|⟨_,_,_,rfl,_⟩|⟨_,_,rfl,_⟩|⟨_,ho,rfl|rfl⟩
 ·exact absurd rfl h1
 ·exact absurd rfl h1
 ·exact absurd rfl h1
 ·exact absurd rfl h1
 ·exact⟨_,hK,ho⟩
end
def zt(n m l k:Nat)(cs ss ds:List Value)(w:World)(e:Ending)(w':World):Prop:=
 ∃C S D,e=.returned (.agg #[C,S,D])/\w.grownBy w' none/\w'.ownsRow (w.heap.size+2) 78 5 C (n+n+n+k) (cs++(cs++cs)++(List.replicate k C8).flatten)/\
  w'.ownsRow (w.heap.size+2) 3 1 S m ss/\w'.ownsRow (w.heap.size+2) 84 1 D l ds
set_option maxRecDepth 100000 in
set_option maxHeartbeats 4000000 in
theorem zj(SC SS SD:Value)(n m l:Nat)(cs ss ds:List Value)(what at_ by_:Int)(w:World)(hC:oU w SC n 5 cs)(hS:oU w SS m 1 ss)(hD:oU w SD l 1 ds)
 (Ye:0<n)(hn:n<=64)(hm:m<=64)(hl:l<=64)(Vv:-9223372036854775808<=what)(XF:what<=9223372036854775807)(UL:-9223372036854775808<=at_)(W8:at_<=9223372036854775807)(VF:-9223372036854775808<=by_)(ZW:by_<=9223372036854775807)(h5:what%8=5)(k:Nat)(hk:by_%64=k):
 Calls Try.prog 14 #[.agg #[SC,SS,SD],.int .i64 what,.int .i64 at_,.int .i64 by_] w (zt n m l k cs ss ds w):=by
 have HW:=Lib.hid (And.intro Vv XF);have HA:=Lib.hid (And.intro UL W8);have Qu:=Lib.hid (And.intro VF ZW);obtain⟨b1,Wo,VZ,rfl,-⟩:=hC.ex;obtain⟨b2,Zl,ZF,rfl,-⟩:=hS.ex;obtain⟨b3,Zm,Zo,rfl,-⟩:=hD.ex
 have Sg:k<=64:=by have:=Int.emod_lt_of_pos by_ (show(0:Int)<64 by decide);omega
 have HC:=Lib.hid hC;have HS:=Lib.hid hS;have HD:=Lib.hid hD;clear hC hS hD Vv XF UL W8 VF ZW
 go_enter Try.func14,Try.ntmps14
 go_upto_region 1 with fail
 obtain⟨W0,UK⟩:∃W0,W0=(w.alloc (.cells #[(.slice (some ⟨b1,Wo,none⟩) n VZ),(.slice (some ⟨b2,Zl,none⟩) m ZF),(.slice (some ⟨b3,Zm,none⟩) l Zo)] 26)).alloc (.cells #[tw,tw,tw] 26):=⟨_,rfl⟩
 have g0:w.grownBy W0 none:=by rw[UK];exact kg (kg (fZ _ _) _) _
 have s0:W0.heap.size=w.heap.size+2:=by rw[UK];simp
 have p0:Bk W0 w.heap.size 26 [(.slice (some ⟨b1,Wo,none⟩) n VZ),(.slice (some ⟨b2,Zl,none⟩) m ZF),(.slice (some ⟨b3,Zm,none⟩) l Zo)]:=by rw[UK];exact Bk.grow Bk.new (kg (fZ _ _) _)
 have r0:Bk W0 (w.heap.size+1) 26 [tw,tw,tw]:=by
  rw[UK];have:=@Bk.new (w.alloc (.cells #[(.slice (some ⟨b1,Wo,none⟩) n VZ),(.slice (some ⟨b2,Zl,none⟩) m ZF),(.slice (some ⟨b3,Zm,none⟩) l Zo)] 26)) 26 [tw,tw,tw];simpa using this
 rw[<- UK];clear UK;obtain⟨C,W1,hrun,hown,ZM⟩:=i6 pL 22 (w.heap.size+2) _ n cs HC.out g0 (by simp only[maxLen];omega) (by omega) (by omega);have c0:=p0.cell 0;simp only[List.getElem?_cons_zero]at c0;have HP:=Lib.hid (p0.grow ZM);have HR:=Lib.hid (r0.grow ZM);have HG:=Lib.hid (ee g0 ZM);have HO:=Lib.hid hown
 obtain⟨gC,kC,rfl,QU⟩:∃gC kC,C=.slice (some ⟨gC,0,none⟩) n kC/\w.heap.size+2<=gC:=by
  rcases hown.2 with⟨rfl,h⟩|⟨g,cap,cur,rfl,h,_⟩
  ·omega
  ·exact⟨g,cap,rfl,h⟩
 have hf:W1.frozen? ⟨w.heap.size,0,none⟩=false:=HP.out.free 0
 have ZC:W1.cell? ⟨w.heap.size,0,none⟩=some (.slice (some ⟨b1,Wo,none⟩) n VZ):=by rw[HP.out.cell];rfl
 clear p0 r0 g0 ZM hown s0
 go_upto_region 2 with(at_builtin;go_loud (refine kv rfl _ _ rfl rfl rfl hrun ?_))
 obtain⟨W2,RA⟩:∃W2,W2=W1.setCell ⟨w.heap.size,0,none⟩ (.slice (some ⟨gC,0,none⟩) n kC):=⟨_,rfl⟩;rw[<- RA]
 have HB:=Lib.hid (show B2 w (.slice (some ⟨gC,0,none⟩) n kC) (.slice (some ⟨b2,Zl,none⟩) m ZF) (.slice (some ⟨b3,Zm,none⟩) l Zo) n m l cs ss ds undef undef W2 by
  rw[RA]
  exact⟨gk HG.out (.inr (by simp)) _,HR.out.other (by simp) _,dG HO.out (by simp),_,_,HP.out.set 0 _,.inl ⟨rfl,rfl⟩,.inl ⟨rfl,rfl⟩⟩)
 clear RA hf ZC hrun c0 HP HR HG HO
 refine jI (λf w'=>B2 w (.slice (some ⟨gC,0,none⟩) n kC) (.slice (some ⟨b2,Zl,none⟩) m ZF) (.slice (some ⟨b3,Zm,none⟩) l Zo) n m l cs ss ds (f 16) (f 19) w') (RR2 w.heap.size (.slice (some ⟨b2,Zl,none⟩) m ZF) (.slice (some ⟨b3,Zm,none⟩) l Zo))
  [jG (.pointer (some ⟨w.heap.size,1,none⟩)),jG (.slice (some ⟨b2,Zl,none⟩) m ZF),λv _=>v≠undef,jG (.pointer (some ⟨w.heap.size,2,none⟩)),jG (.slice (some ⟨b3,Zm,none⟩) l Zo),λv _=>v≠undef,jG (.pointer (some ⟨w.heap.size,1,none⟩)),λ_ w9=>DD w.heap.size 1 (.slice (some ⟨b2,Zl,none⟩) m ZF) w9,jG (.pointer (some ⟨w.heap.size,2,none⟩)),λ_ w9=>DD w.heap.size 2 (.slice (some ⟨b3,Zm,none⟩) l Zo) w9]
  104 (by kernel_rfl) rfl (by kernel_rfl) (B2.grow HB.out (pn (fZ _ _))) RR2.refl ?_ ?_ ?_
 ·exact⟨jG.kept,jG.kept,λ_ _ _ _ h=>h,jG.kept,jG.kept,λ_ _ _ _ h=>h,jG.kept,λ_ _ _ hr h=>hr.1 h,jG.kept,λ_ _ _ hr h=>hr.2 h,trivial⟩
 ·refine bV ?_ (bV ?_ (bV ?_ (bV ?_ (bV ?_ (bV ?_ (bV ?_ (bV ?_ (bV ?_ (bV ?_ (px))))))))))
  ·refine ca rfl λf w1 hb H HN=>?_;have e4:f 4=_:=H 4 (by decide);clear H HN;have HB:=Lib.hid hb;clear hb
   go_simp
   exact⟨HB.out,RR2.refl _,rfl⟩
  ·refine ca rfl λf w1 hb H HN=>?_;have Oo:f 14=_:=H 14 (by decide);have UD:f 16=undef:=HN 15 16 rfl (by kernel_rfl);clear H HN;have hc:=B2.one (show B2 w (.slice (some ⟨gC,0,none⟩) n kC) (.slice (some ⟨b2,Zl,none⟩) m ZF) (.slice (some ⟨b3,Zm,none⟩) l Zo) n m l cs ss ds undef (f 19) w1 by first|(rw[<- UD];exact hb));have HB:=Lib.hid hb;clear hb UD
   go_simp
   exact⟨HB.out,RR2.refl _,rfl⟩
  ·refine ca rfl λf w1 hb H HN=>?_;have OX:f 15=_:=H 15 (by decide);have UD:f 16=undef:=HN 16 16 rfl (by kernel_rfl);clear H HN;obtain⟨v',w2,hr,hown,VL⟩:=i6 BM 23 (w.heap.size+2) _ m ss HS.out hb.grown (by simp only[maxLen];omega) (by omega) (by have:=hb.lt2;omega);simp only[execOp,resolve,invoke,builtin,Sem.run_bind,Sem.run_pure,Result.andThen_ok,List.map_toArray,List.map_cons,List.map_nil,oN,OX,hr,fm];exact⟨sL (show B2 w (.slice (some ⟨gC,0,none⟩) n kC) (.slice (some ⟨b2,Zl,none⟩) m ZF) (.slice (some ⟨b3,Zm,none⟩) l Zo) n m l cs ss ds undef (f 19) w1 by rw[<- UD];exact hb) VL hown HS.out,RR2.grown hb.lt VL,gX hown⟩
  ·refine ca rfl λf w1 hb H HN=>?_;have e4:f 4=_:=H 4 (by decide);clear H HN;have HB:=Lib.hid hb;clear hb
   go_simp
   exact⟨HB.out,RR2.refl _,rfl⟩
  ·refine ca rfl λf w1 hb H HN=>?_;have Oq:f 17=_:=H 17 (by decide);have UE:f 19=undef:=HN 18 19 rfl (by kernel_rfl);clear H HN;have hc:=wR (show B2 w (.slice (some ⟨gC,0,none⟩) n kC) (.slice (some ⟨b2,Zl,none⟩) m ZF) (.slice (some ⟨b3,Zm,none⟩) l Zo) n m l cs ss ds (f 16) undef w1 by first|(rw[<- UE];exact hb));have HB:=Lib.hid hb;clear hb UE
   go_simp
   exact⟨HB.out,RR2.refl _,rfl⟩
  ·refine ca rfl λf w1 hb H HN=>?_;have OY:f 18=_:=H 18 (by decide);have UE:f 19=undef:=HN 19 19 rfl (by kernel_rfl);clear H HN;obtain⟨v',w2,hr,hown,VL⟩:=i6 BL 24 (w.heap.size+2) _ l ds HD.out hb.grown (by simp only[maxLen];omega) (by omega) (by have:=hb.lt2;omega);simp only[execOp,resolve,invoke,builtin,Sem.run_bind,Sem.run_pure,Result.andThen_ok,List.map_toArray,List.map_cons,List.map_nil,oN,OY,hr,fm];exact⟨sK (show B2 w (.slice (some ⟨gC,0,none⟩) n kC) (.slice (some ⟨b2,Zl,none⟩) m ZF) (.slice (some ⟨b3,Zm,none⟩) l Zo) n m l cs ss ds (f 16) undef w1 by rw[<- UE];exact hb) VL hown HD.out,RR2.grown hb.lt VL,gX hown⟩
  ·refine ca rfl λf w1 hb H HN=>?_;have e4:f 4=_:=H 4 (by decide);clear H HN;have HB:=Lib.hid hb;clear hb
   go_simp
   exact⟨HB.out,RR2.refl _,rfl⟩
  ·refine ca rfl λf w1 hb H HN=>?_;have Os:f 20=_:=H 20 (by decide);have Rl:=H 16 (by decide);clear H HN;obtain⟨s,d,hK,hp1,hp2⟩:=hb.box;obtain⟨A,c,UD⟩:=hp1.slice Rl;have hq:=vp hb Rl;have hc:=hK.cell 1;simp only[List.getElem?_cons_zero,List.getElem?_cons_succ]at hc;have hf:=hK.free 1;have HQ:=Lib.hid (show B2 w (.slice (some ⟨gC,0,none⟩) n kC) (.slice (some ⟨b2,Zl,none⟩) m ZF) (.slice (some ⟨b3,Zm,none⟩) l Zo) n m l cs ss ds (f 16) (f 19) (w1.setCell ⟨w.heap.size,1,none⟩ (.slice A m c))/\RR2 w.heap.size (.slice (some ⟨b2,Zl,none⟩) m ZF) (.slice (some ⟨b3,Zm,none⟩) l Zo) w1 (w1.setCell ⟨w.heap.size,1,none⟩ (.slice A m c))/\DD w.heap.size 1 (.slice (some ⟨b2,Zl,none⟩) m ZF) (w1.setCell ⟨w.heap.size,1,none⟩ (.slice A m c))from by rw[<- UD];exact hq);clear hq hb hp1 hp2 hK
   go_simp
   exact⟨HQ.out.1,HQ.out.2.1,HQ.out.2.2⟩
  ·refine ca rfl λf w1 hb H HN=>?_;have e4:f 4=_:=H 4 (by decide);clear H HN;have HB:=Lib.hid hb;clear hb
   go_simp
   exact⟨HB.out,RR2.refl _,rfl⟩
  ·refine ca rfl λf w1 hb H HN=>?_;have Ot:f 21=_:=H 21 (by decide);have Rm:=H 19 (by decide);clear H HN;obtain⟨s,d,hK,hp1,hp2⟩:=hb.box;obtain⟨A,c,UE⟩:=hp2.slice Rm;have hq:=vo hb Rm;have hc:=hK.cell 2;simp only[List.getElem?_cons_zero,List.getElem?_cons_succ]at hc;have hf:=hK.free 2;have HQ:=Lib.hid (show B2 w (.slice (some ⟨gC,0,none⟩) n kC) (.slice (some ⟨b2,Zl,none⟩) m ZF) (.slice (some ⟨b3,Zm,none⟩) l Zo) n m l cs ss ds (f 16) (f 19) (w1.setCell ⟨w.heap.size,2,none⟩ (.slice A l c))/\RR2 w.heap.size (.slice (some ⟨b2,Zl,none⟩) m ZF) (.slice (some ⟨b3,Zm,none⟩) l Zo) w1 (w1.setCell ⟨w.heap.size,2,none⟩ (.slice A l c))/\DD w.heap.size 2 (.slice (some ⟨b3,Zm,none⟩) l Zo) (w1.setCell ⟨w.heap.size,2,none⟩ (.slice A l c))from by rw[<- UE];exact hq);clear hq hb hp1 hp2 hK
   go_simp
   exact⟨HQ.out.1,HQ.out.2.1,HQ.out.2.2⟩
 ·intro f w9 hb hE;simp only[eT,Act.put,w4,List.setIfInBounds_toArray,List.set_cons_succ,List.set_cons_zero];obtain⟨S,D,hK,hS,hD⟩:=hb.done hE.2.2.2.2.2.2.2.1 hE.2.2.2.2.2.2.2.2.2.1;have HK:=Lib.hid hK;have Qx:=Lib.hid hS;have Qw:=Lib.hid hD;have HG:=Lib.hid hb.grown;have HR:=Lib.hid hb.res;have HO:=Lib.hid hb.code
  obtain⟨AS,kS,rfl⟩:∃A c,S=.slice A m c:=by
   rcases hS.2 with⟨rfl,X'⟩|⟨g,cap,cur,rfl,_⟩
   ·rw[X'];exact⟨_,_,rfl⟩
   ·exact⟨_,_,rfl⟩
  obtain⟨AD,kD,rfl⟩:∃A c,D=.slice A l c:=by
   rcases hD.2 with⟨rfl,X'⟩|⟨g,cap,cur,rfl,_⟩
   ·rw[X'];exact⟨_,_,rfl⟩
   ·exact⟨_,_,rfl⟩
  have k0:=hK.cell 0;have k1:=hK.cell 1;have k2:=hK.cell 2;simp only[List.getElem?_cons_zero,List.getElem?_cons_succ]at k0 k1 k2;clear hE hb hK hS hD HB;generalize f 14=x14,f 15=x15,f 16=x16,f 17=x17,f 18=x18,f 19=x19,f 20=x20,f 21=x21
  go_upto_region 4 with(go_at_call 21;refine(p7 at_ _ _ HA.out.1 HA.out.2 (by omega) (by omega)).mono ?_;rintro e w' ⟨rfl,rfl⟩)
  go_upto_region 5 with(go_at_call 21;refine(p7 what 8 _ HW.out.1 HW.out.2 (by omega) (by omega)).mono ?_;rintro e w' ⟨rfl,rfl⟩;rw[h5])
  go_upto_region 7 with fail
  go_upto_region 16 with fail
  have HB:=Lib.hid (show B16 w (.slice (some ⟨gC,0,none⟩) n kC) (.slice AS m kS) (.slice AD l kD) gC n m l k cs ss ds undef undef undef w9 from by
   have Zy:=HC.out.len
   have Z3:0<cs.length:=by omega
   have hcell:∀(j:Nat) u,cs[j]?=some u->w9.cell? ⟨gC,j,none⟩=some u:=λj u hj=>by
    have:=World.ownsRow.cells (g:=gC) HO.out rfl j u hj;rw[cq]at this;simpa using this
   exact⟨⟨HG.out,HR.out,Qx.out,Qw.out,World.block_lt_of_cell? w9 _ (hcell 0 _ (oGE Z3)),hcell⟩,_,HK.out,.inl ⟨rfl,rfl,rfl,rfl,by rw[List.append_nil];exact HO.out⟩⟩)
  have Qv:=Lib.hid QU;have S4:=Lib.hid (And.intro HC.out.len HC.out.one);clear k0 k1 k2 HG HR Qx Qw HK HO QU
  refine jI (λf w'=>B16 w (.slice (some ⟨gC,0,none⟩) n kC) (.slice AS m kS) (.slice AD l kD) gC n m l k cs ss ds (f 73) (f 76) (f 79) w') (qU w.heap.size (.slice (some ⟨gC,0,none⟩) n kC))
   [jG (.pointer (some ⟨w.heap.size,0,none⟩)),jG (.slice (some ⟨gC,0,none⟩) n kC),jG (.pointer (some ⟨w.heap.size,0,none⟩)),jG (.slice (some ⟨gC,0,none⟩) n kC),λv _=>v≠undef,jG (.pointer (some ⟨w.heap.size,0,none⟩)),jG (.slice (some ⟨gC,0,none⟩) n kC),λv _=>v≠undef,jG (.int .i64 by_),jG (.int .i64 k),λv _=>v≠undef,jG (.pointer (some ⟨w.heap.size,0,none⟩)),λ_ w8=>DD w.heap.size 0 (.slice (some ⟨gC,0,none⟩) n kC) w8]
   104 (by kernel_rfl) rfl (by kernel_rfl) (B16.grow HB.out (pn (fZ _ _))) qU.refl ?_ ?_ ?_
  ·exact⟨jG.kept,jG.kept,jG.kept,jG.kept,λ_ _ _ _ h=>h,jG.kept,jG.kept,λ_ _ _ _ h=>h,jG.kept,jG.kept,λ_ _ _ _ h=>h,jG.kept,λ_ _ _ hr h=>hr h,trivial⟩
  ·refine bV ?_ (bV ?_ (bV ?_ (bV ?_ (bV ?_ (bV ?_ (bV ?_ (bV ?_ (bV ?_ (bV ?_ (bV ?_ (bV ?_ (bV ?_ (px)))))))))))))
   ·refine ca rfl λf w1 hb H HN=>?_;have e4:f 4=_:=H 4 (by decide);clear H HN;have HB:=Lib.hid hb;clear hb
    go_simp
    exact⟨HB.out,qU.refl _,rfl⟩
   ·refine ca rfl λf w1 hb H HN=>?_;have Ou:f 69=_:=H 69 (by decide);have Yt:f 79=undef:=HN 70 79 rfl (by kernel_rfl);clear H HN;have hc:=B16.load (show B16 w (.slice (some ⟨gC,0,none⟩) n kC) (.slice AS m kS) (.slice AD l kD) gC n m l k cs ss ds (f 73) (f 76) undef w1 by rw[<- Yt];exact hb);have HB:=Lib.hid hb;clear hb Yt
    go_simp
    exact⟨HB.out,qU.refl _,rfl⟩
   ·refine ca rfl λf w1 hb H HN=>?_;have e4:f 4=_:=H 4 (by decide);clear H HN;have HB:=Lib.hid hb;clear hb
    go_simp
    exact⟨HB.out,qU.refl _,rfl⟩
   ·refine ca rfl λf w1 hb H HN=>?_;have Ov:f 71=_:=H 71 (by decide);have Yt:f 79=undef:=HN 72 79 rfl (by kernel_rfl);clear H HN;have hc:=B16.load (show B16 w (.slice (some ⟨gC,0,none⟩) n kC) (.slice AS m kS) (.slice AD l kD) gC n m l k cs ss ds (f 73) (f 76) undef w1 by rw[<- Yt];exact hb);have HB:=Lib.hid hb;clear hb Yt
    go_simp
    exact⟨HB.out,qU.refl _,rfl⟩
   ·refine ca rfl λf w1 hb H HN=>?_;have OZ:f 70=_:=H 70 (by decide);have O0:f 72=_:=H 72 (by decide);have S7:f 73=undef:=HN 73 73 rfl (by kernel_rfl);have UF:f 76=undef:=HN 73 76 rfl (by kernel_rfl);have Yt:f 79=undef:=HN 73 79 rfl (by kernel_rfl);clear H HN;obtain⟨v,w2,hr,hv,U3,U5⟩:=sO (show B16 w (.slice (some ⟨gC,0,none⟩) n kC) (.slice AS m kS) (.slice AD l kD) gC n m l k cs ss ds undef undef undef w1 by rw[<- S7];rw[S7];have h:=hb;simp only[S7,UF,Yt]at h;exact h) ⟨_,rfl⟩ S4.out.1 S4.out.2 hn 22
    have Rw:B16 w (.slice (some ⟨gC,0,none⟩) n kC) (.slice AS m kS) (.slice AD l kD) gC n m l k cs ss ds v (f 76) (f 79) w2:=by rw[UF,Yt];exact U3
    clear S7 UF Yt;simp only[execOp,resolve,invoke,builtin,Sem.run_bind,Sem.run_pure,Result.andThen_ok,List.map_toArray,List.map_cons,List.map_nil,oN,OZ,O0,hr,fm];exact⟨Rw,U5,hv⟩
   ·refine ca rfl λf w1 hb H HN=>?_;have e4:f 4=_:=H 4 (by decide);clear H HN;have HB:=Lib.hid hb;clear hb
    go_simp
    exact⟨HB.out,qU.refl _,rfl⟩
   ·refine ca rfl λf w1 hb H HN=>?_;have Ow:f 74=_:=H 74 (by decide);have Yt:f 79=undef:=HN 75 79 rfl (by kernel_rfl);clear H HN;have hc:=B16.load (show B16 w (.slice (some ⟨gC,0,none⟩) n kC) (.slice AS m kS) (.slice AD l kD) gC n m l k cs ss ds (f 73) (f 76) undef w1 by rw[<- Yt];exact hb);have HB:=Lib.hid hb;clear hb Yt
    go_simp
    exact⟨HB.out,qU.refl _,rfl⟩
   ·refine ca rfl λf w1 hb H HN=>?_;have O1:f 75=_:=H 75 (by decide);have Qj:=H 73 (by decide);have UF:f 76=undef:=HN 76 76 rfl (by kernel_rfl);have Yt:f 79=undef:=HN 76 79 rfl (by kernel_rfl);clear H HN;obtain⟨v,w2,hr,hv,U3,U5⟩:=sN (show B16 w (.slice (some ⟨gC,0,none⟩) n kC) (.slice AS m kS) (.slice AD l kD) gC n m l k cs ss ds (f 73) undef undef w1 by have h:=hb;simp only[UF,Yt]at h;exact h) Qj ⟨_,rfl⟩ S4.out.1 S4.out.2 hn 22
    have Rw:B16 w (.slice (some ⟨gC,0,none⟩) n kC) (.slice AS m kS) (.slice AD l kD) gC n m l k cs ss ds (f 73) v (f 79) w2:=by rw[Yt];exact U3
    clear UF Yt;simp only[execOp,resolve,invoke,builtin,Sem.run_bind,Sem.run_pure,Result.andThen_ok,List.map_toArray,List.map_cons,List.map_nil,oN,O1,hr,fm];exact⟨Rw,U5,hv⟩
   ·refine ca rfl λf w1 hb H HN=>?_;have e3:f 3=_:=H 3 (by decide);clear H HN;have HB:=Lib.hid hb;clear hb
    go_simp
    exact⟨HB.out,qU.refl _,rfl⟩
   ·refine ca rfl λf w1 hb H HN=>?_;have Ox:f 77=_:=H 77 (by decide);clear H HN
    go_simp
    refine(p7 by_ 64 _ Qu.out.1 Qu.out.2 (by omega) (by omega)).mono ?_;rintro e w7 ⟨rfl,rfl⟩;exact⟨_,rfl,hb,qU.refl _,congrArg (Value.int .i64) hk⟩
   ·refine ca rfl λf w1 hb H HN=>?_;have O2:f 78=_:=H 78 (by decide);have Qk:=H 76 (by decide);have Yt:f 79=undef:=HN 79 79 rfl (by kernel_rfl);clear H HN;obtain⟨v,w2,hr,hv,U3,U5⟩:=sM (show B16 w (.slice (some ⟨gC,0,none⟩) n kC) (.slice AS m kS) (.slice AD l kD) gC n m l k cs ss ds (f 73) (f 76) undef w1 by have h:=hb;simp only[Yt]at h;exact h) Qk Ye hn Sg 22;clear Yt;simp only[execOp,resolve,invoke,builtin,Sem.run_bind,Sem.run_pure,Result.andThen_ok,List.map_toArray,List.map_cons,List.map_nil,oN,O2,hr,fm];exact⟨U3,U5,hv⟩
   ·refine ca rfl λf w1 hb H HN=>?_;have e4:f 4=_:=H 4 (by decide);clear H HN;have HB:=Lib.hid hb;clear hb
    go_simp
    exact⟨HB.out,qU.refl _,rfl⟩
   ·refine ca rfl λf w1 hb H HN=>?_;have Oy:f 80=_:=H 80 (by decide);have Ql:=H 79 (by decide);clear H HN;obtain⟨⟨A,c,Yt⟩,hq⟩:=B16.put hb Ql Ye Qv.out ⟨_,rfl⟩;obtain⟨s,hK,_⟩:=hb.box;have hc:=hK.cell 0;simp only[List.getElem?_cons_zero]at hc;have hf:=hK.free 0;have HQ:=Lib.hid (show B16 w (.slice (some ⟨gC,0,none⟩) n kC) (.slice AS m kS) (.slice AD l kD) gC n m l k cs ss ds (f 73) (f 76) (f 79) (w1.setCell ⟨w.heap.size,0,none⟩ (.slice A (n+n+n+k) c))/\qU w.heap.size (.slice (some ⟨gC,0,none⟩) n kC) w1 (w1.setCell ⟨w.heap.size,0,none⟩ (.slice A (n+n+n+k) c))/\DD w.heap.size 0 (.slice (some ⟨gC,0,none⟩) n kC) (w1.setCell ⟨w.heap.size,0,none⟩ (.slice A (n+n+n+k) c))from by rw[<- Yt];exact hq);clear hq hb hK
    go_simp
    exact⟨HQ.out.1,HQ.out.2.1,HQ.out.2.2⟩
  ·intro f2 w8 hb hE;simp only[eT,Act.put,w4,List.setIfInBounds_toArray,List.set_cons_succ,List.set_cons_zero];obtain⟨E,hK,Rx⟩:=hb.done hE.2.2.2.2.2.2.2.2.2.2.2.2.1
   obtain⟨AE,kE,rfl⟩:∃A c,E=.slice A (n+n+n+k) c:=by
    rcases Rx.2 with⟨rfl,X'⟩|⟨g,cap,cur,rfl,_⟩
    ·rw[X'];exact⟨_,_,rfl⟩
    ·exact⟨_,_,rfl⟩
   have Rp:=Lib.hid hb.pt;have HE:=Lib.hid Rx;have k0:=hK.cell 0;have k1:=hK.cell 1;have k2:=hK.cell 2;have r0:=hb.pt.res.cell 0;have r1:=hb.pt.res.cell 1;have r2:=hb.pt.res.cell 2;have q0:=hb.pt.res.free 0;have q1:=hb.pt.res.free 1;have q2:=hb.pt.res.free 2;simp only[List.getElem?_cons_zero,List.getElem?_cons_succ]at k0 k1 k2 r0 r1 r2;clear hE hb hK Rx HB Qv;generalize f2 69=y69,f2 70=y70,f2 71=y71,f2 72=y72,f2 73=y73,f2 74=y74,f2 75=y75,f2 76=y76,f2 77=y77,f2 78=y78,f2 79=y79,f2 80=y80
   go_wp2_with fail
   refine bodyPost_ret (v:=.agg #[.slice AE (n+n+n+k) kE,.slice AS m kS,.slice AD l kD]) (by simp[results,Try.results14,go_sem, *]) rfl ?_;refine⟨_,_,_,rfl,?_,?_,?_,?_⟩
   ·exact gk (gk (gk Rp.out.grown (.inr (by simp)) _) (.inr (by simp)) _) (.inr (by simp)) _
   ·exact dG (dG (dG HE.out (by simp)) (by simp)) (by simp)
   ·exact dG (dG (dG Rp.out.oS (by simp)) (by simp)) (by simp)
   ·exact dG (dG (dG Rp.out.oD (by simp)) (by simp)) (by simp)
abbrev Es:CT:=(.pair I64 (.pair I64 (.pair I64 (.pair I64 I64))))
abbrev DX:CT:=(.row false Es)
abbrev RWi:CT:=(.row false (.int .u16))
abbrev RIi:CT:=(.row false I64)
abbrev Bg:Type:=(Int×Int×Int×Int×Int)
def HHi(f i:Nat):List (Nat×Option Nat):=if f=14 then(if i=1000018 then[(6,none)]else if i=0 then[(8,some 0),(8,some 1),(8,some 2)]else[])else[]
noncomputable def TTi (f:FuncId):Option TFn:=kj Try.prog (HHi f) f
noncomputable def E0i:Env:=⟨λ_=>none,λf=>Eu Try.prog f⟩
theorem Dl:wL Try.prog TTi:=wY HHi (by kernel_rfl)
def l8(a0:Int)(a1:Int):Option (Int×Unit):=
bif(a1 != 0)then let x0:Int:=(Int.tmod a0 a1);
(bif(decide (x0<0))then(let x1:Int:=(w64 (x0+a1));
some (x1,()))else
some (x0,()):Option (Int×Unit)).bind λ(x1,_)=>
some (x1,())else none
noncomputable def rP:X.Cfg:=⟨E0i,[],[],[⟨2,0,⟨[],[],[],([],[])⟩,[(.normal,⟨[(5,shU I64)],[],[],([],[])⟩)]⟩]⟩
def mq:Ctr:=⟨55,0,[shU I64,shU I64],[],[⟨[shU I64],[.one],[]⟩],λh=>l8 h.1 h.2.1⟩
set_option maxRecDepth 100000 in
theorem rC:Lvl E0i TTi noB 1 mq:=p8 (n:=0) (C:=rP) rfl (.intro) (sV (by kernel_rfl)) (λh=>by kernel_rfl)
def dY(a0:Int)(a1:Int):Option (Int×Unit):=
(l8 a0 a1).bind λ(x0,_)=>
some (x0,())
noncomputable def yL:X.Cfg:=⟨E0i,[mq],[],[]⟩
def sx:Ctr:=⟨21,1,[shU I64,shU I64],[],[⟨[shU I64],[.one],[]⟩],λh=>dY h.1 h.2.1⟩
set_option maxRecDepth 100000 in
theorem yy:Lvl E0i TTi noB 2 sx:=p8 (n:=1) (C:=yL) rfl (.intro (rC.mono (by decide)) (.intro)) (sV (by kernel_rfl)) (λh=>by kernel_rfl)
def is(a0:List Bg)(a1:List (Int))(a2:List (List (Int)))(a3:Int)(a4:Int)(a5:Int):Option ((List Bg)×(List (Int))×(List (List (Int)))×Unit):=
bif(ct 40 0 (List.length a0))then let x0:List Bg:=(List.append [] a0);
bif(ct 8 0 (List.length a1))then let x1:List (Int):=(List.append [] a1);
bif(ct 24 0 (List.length a2))then let x2:List (List (Int)):=(List.append [] a2);
let x3:Int:=(bQ (List.length x0));
(dY a4 x3).bind λ(x4,_)=>
(match((dY a3 8).bind λ(x5,_)=>
bif(x5==0)then(let x6:List (Int):=[63,64,65535,65536,(-1),3,4];
(dY a5 7).bind λ(x7,_)=>
(cZ x7).bind λx8=>
(cd x6 x8).bind λx9=>
(cd x6 x8).bind λx10=>
(cZ x4).bind λUY=>
(cd x0 UY).bind λUZ=>
(cd x0 UY).bind λQq=>
let x14:List Bg:=(List.modify x0 UY λe=>(e.1,(e.2.1,(e.2.2.1,(e.2.2.2.1,x10)))));
some (.inl (x14,x1,x2,(),(),(),())))else
bif(x5==1)then((dY a5 10).bind λ(x6,_)=>
(cZ x4).bind λx7=>
(cd x0 x7).bind λx8=>
(cd x0 x7).bind λx9=>
let x10:List Bg:=(List.modify x0 x7 λe=>(e.1,(e.2.1,(x6,e.2.2.2))));
some (.inl (x10,x1,x2,(),(),(),())))else
bif(x5==2)then((dY a5 36).bind λ(x6,_)=>
let x7:Int:=(w64 (x6-1));
(cd x1 0).bind λx8=>
(cd x1 0).bind λx9=>
let x10:List (Int):=(List.modify x1 0 λe=>x7);
some (.inl (x0,x10,x2,(),(),(),())))else
bif(x5==3)then(bif(i3 1 (List.length x2) (List.length x2))then let x6:List (List (Int)):=(o4 x2 1 (Nat.sub (List.length x2) 1));
some (.inr (x0,x1,x6,(),(),(),()))else none)else
bif(x5==4)then(some (.inl ([],x1,x2,(),(),(),())))else
bif(x5==5)then(bif(ct 40 (List.length x0) (List.length x0))then let x6:List Bg:=(List.append x0 x0);
none else none)else
bif(x5==6)then((dY a5 36).bind λ(x6,_)=>
(cZ x6).bind λx7=>
(cZ x6).bind λx8=>
bif(kP x7 x8 1)then let x9:List (Int):=(List.replicate x7 0);
(cd x2 0).bind λx10=>
(cd x2 0).bind λUY=>
let UZ:List (List (Int)):=(List.modify x2 0 λe=>x9);
some (.inl (x0,x1,UZ,(),(),(),()))else none)else
bif(x5==7)then(let x6:List (Int):=[18,15];
(dY a5 2).bind λ(x7,_)=>
(cZ x7).bind λx8=>
(cd x6 x8).bind λx9=>
(cd x6 x8).bind λx10=>
(dY a4 5).bind λ(UY,_)=>
(cZ x4).bind λUZ=>
(cd x0 UZ).bind λQq=>
(cd x0 UZ).bind λx14=>
let x15:List Bg:=(List.modify x0 UZ λe=>(x10,(0,(0,(0,UY)))));
some (.inl (x15,x1,x2,(),(),(),())))else
some (.inl (x0,x1,x2,(),(),(),())):Option (((List Bg)×(List (Int))×(List (List (Int)))×Unit×Unit×Unit×Unit)⊕((List Bg)×(List (Int))×(List (List (Int)))×Unit×Unit×Unit×Unit)))with
|none=>none
|some (.inl (x5,x6,x7,x8,x9,x10,_))=>
some (x5,x6,x7,())
|some (.inr (x5,x6,x7,x8,x9,x10,_))=>
some (x5,x6,x7,()))else none else none else none
noncomputable def qm:X.Cfg:=⟨E0i,[sx],[(19,(.row true (.int .u16)))],[⟨4,0,⟨[],[],[],([],[])⟩,[(.normal,⟨[(4,.ptr ⟨10,0,[]⟩ [0]),(8,.ptr ⟨18,0,[]⟩ [0])],[(10,[shU (.row true Es),shU (.row true I64),shU (.row true RWi)]),(18,[shU (.nilr true),shU (.nilr true),shU (.nilr true)])],[],([],[])⟩),(.normal,⟨[(4,.ptr ⟨10,0,[]⟩ [0]),(8,.ptr ⟨18,0,[]⟩ [0])],[(10,[shU (.row true Es),shU (.row true I64),shU (.row false RWi)]),(18,[shU (.nilr true),shU (.nilr true),shU (.nilr true)])],[],([],[])⟩)]⟩]⟩
def qO:Ctr:=⟨14,2,[.agg [shU DX,shU RIi,shU (.row false RWi)],shU I64,shU I64,shU I64],[],[⟨[shU DX,shU RIi,shU (.row false RWi)],[.agg 3],[]⟩],λh=>is h.1 h.2.1 h.2.2.1 h.2.2.2.1 h.2.2.2.2.1 h.2.2.2.2.2.1⟩
set_option maxRecDepth 100000 in
theorem qa:Lvl E0i TTi noB 3 qO:=p8 (n:=2) (C:=qm) rfl (.intro (yy.mono (by decide)) (.intro)) (sV (by kernel_rfl)) (λh=>by kernel_rfl)
theorem DM:wO Try.prog E0i:=λf n tm h=>by simp[E0i]at h
structure RwT (w:World)(F:Nat->Prop)(sz:Nat)(c:List (List TV))(r:List (List Value)):Prop where
 len:r.length=c.length
 cs:∀q∈c,q.length=sz
 rs:∀q∈r,q.length=sz
 at_:∀(i:Nat) q z,c[i]?=some q->r[i]?=some z->∀(j:Nat) t x,q[j]?=some t->z[j]?=some x->eV w F t x
theorem RwT.app{w:World}{F:Nat->Prop}{sz:Nat}{c c':List (List TV)}{r r':List (List Value)}(h:RwT w F sz c r)(h':RwT w F sz c' r'):RwT w F sz (c++c') (r++r'):=by
 refine⟨by simp[h.len,h'.len],λq hq=>?_,λq hq=>?_,λi q z hq hz=>?_⟩
 ·rcases List.mem_append.1 hq with h1|h1
  ·exact h.cs q h1
  ·exact h'.cs q h1
 ·rcases List.mem_append.1 hq with h1|h1
  ·exact h.rs q h1
  ·exact h'.rs q h1
 ·rw[List.getElem?_append]at hq hz;rw[h.len]at hz;split at hq
  ·rename_i hi;rw[oIP hi]at hz;exact h.at_ i q z hq hz
  ·rename_i hi;rw[oIN hi]at hz;exact h'.at_ _ q z hq hz
theorem RwT.rep{w:World}{F:Nat->Prop}{sz:Nat}{q:List TV}{z:List Value}(k:Nat)(hq:q.length=sz)(hz:z.length=sz)(h:∀(j:Nat) t x,q[j]?=some t->z[j]?=some x->eV w F t x):RwT w F sz (List.replicate k q) (List.replicate k z):=by
 refine⟨by simp,λy hy=>by rw[(List.mem_replicate.1 hy).2];exact hq,λy hy=>by rw[(List.mem_replicate.1 hy).2];exact hz,λi y x hy hx=>?_⟩;rw[List.getElem?_replicate]at hy hx;split at hy
 ·rename_i hi;rw[oIP hi]at hx
  injection hy with hy
  injection hx with hx
  subst hy;subst hx;exact h
 ·cases hy
theorem RwT.frame{w w':World}{F F':Nat->Prop}{sz:Nat}{c:List (List TV)}{r:List (List Value)}(h:RwT w F sz c r)(hw:∀k,F k->k<w.heap.size->w'.heap[k]?=w.heap[k]?)(hF:∀k,F k->k<w.heap.size->F' k):RwT w' F' sz c r:=
 ⟨h.len,h.cs,h.rs,λi q z hq hz j t x ht hx=>(h.at_ i q z hq hz j t x ht hx).frame hw hF⟩
theorem tH{w:World}{F:Nat->Prop}{sz:Nat}{c:List (List TV)}{x:Value}(h:eV w F (.sl c) x)(h0:0<c.length)(hs:0<sz)(hc:∀q∈c,q.length=sz):∃r,RwT w F sz c r/\oU w x c.length sz r.flatten:=by
 cases h with
 | @sl _ a cap sz' u hsz hcap hmax hnil hcell hrec=>
  have hz:sz'=sz:=by rw[<- hsz 0 h0];exact hc _ (List.getElem_mem h0)
  subst hz;obtain⟨r,hr⟩:∃r,r=(List.range c.length).map λi=>(List.range sz').map (u i):=⟨_,rfl⟩
  have W4:r.length=c.length:=by rw[hr];simp
  have Vt:∀q∈r,q.length=sz':=λq hq=>by
   rw[hr]at hq;obtain⟨i,_,rfl⟩:=List.mem_map.1 hq;simp
  have Z7:∀i j,i<c.length->j<sz'->∃q,r[i]?=some q/\q[j]?=some (u i j):=λi j hi hj=>by
   refine⟨(List.range sz').map (u i),by rw[hr];simp[hi],by simp[hj]⟩
  have Um:∀(i:Nat) q z,c[i]?=some q->r[i]?=some z->∀(j:Nat) t x,q[j]?=some t->z[j]?=some x->eV w F t x:=by
   intro i q z hq hz j t x ht hx;have hi:i<c.length:=(oGS hq).1;have Yf:c[i]=q:=(oGS hq).2;have hj:j<q.length:=(oGS ht).1
   have YA:j<sz':=by rw[<- hc q (List.mem_of_getElem? hq)];exact hj
   obtain⟨z',h1,h2⟩:=Z7 i j hi YA;rw[h1]at hz
   injection hz with hz
   subst hz;rw[h2]at hx
   injection hx with hx
   subst hx;have:=hrec i j hi (by rw[Yf];exact hj)
   have e:(c[i])[j]'(by rw[Yf];exact hj)=t:=by
    have h3:=(oGS ht).2;subst Yf;exact h3
   rw[e]at this;exact this
  obtain⟨b,o,rfl,_,XI⟩:=hcell 0 0 h0 hs
  have hlen:r.flatten.length=c.length*sz':=by
   rw[List.length_flatten]
   have:r.map List.length=List.replicate c.length sz':=by
    rw[hr];apply List.ext_getElem
    ·simp
    ·intro i h1 h2;simp
   rw[this];simp
  have Yd:∀(j:Nat) v,r.flatten[j]?=some v->∃i k,i<c.length/\k<sz'/\j=i*sz'+k/\v=u i k:=by
   intro j v hv
   have hj:j<c.length*sz':=by rw[<- hlen];exact(oGS hv).1
   have hi:j/sz'<c.length:=(Nat.div_lt_iff_lt_mul hs).2 hj;have hk:j%sz'<sz':=Nat.mod_lt _ hs
   have e:j/sz'*sz'+j%sz'=j:=by rw[Nat.mul_comm];exact Nat.div_add_mod _ _
   refine⟨j/sz',j%sz',hi,hk,e.symm,?_⟩
   have Wb:j/sz'<r.length:=by rw[W4];exact hi
   have h1:r[j/sz']=(List.range sz').map (u (j/sz')):=by simp[hr]
   have h2:=fc (c:=r) (sz:=sz') (λi h=>Vt _ (List.getElem_mem h)) (i:=j/sz') (j:=j%sz') Wb (by rw[h1];simpa using hk);rw[e,hv]at h2
   injection h2 with h2
   rw[h2];simp only[h1,List.getElem_map,List.getElem_range]
  refine⟨r,⟨W4,hc,Vt,Um⟩,⟨b,o,cap,rfl,World.block_lt_of_cell? w _ XI,λj v hv=>?_⟩,hlen,λv hv=>?_⟩
  ·obtain⟨i,k,hi,hk,rfl,rfl⟩:=Yd j v hv;obtain⟨b',o',e',_,h1⟩:=hcell i k hi hk
   injection e' with e'
   injection e' with e1 e2
   subst e1;subst e2;exact h1
  ·obtain⟨j,hj⟩:=List.getElem?_of_mem hv;obtain⟨i,k,hi,hk,rfl,rfl⟩:=Yd j v hj
   have XK:k<c[i].length:=by rw[hc _ (List.getElem_mem hi)];exact hk
   exact(hrec i k hi XK).one
theorem tk{w:World}{F:Nat->Prop}{N sz n:Nat}{e:TypeId}{c:List (List TV)}{r:List (List Value)}{v:Value}(h:w.ownsRow N e sz v n r.flatten)(hR:RwT w F sz c r)(hn:c.length=n)(hF:∀k,N<=k->F k):eV w F (.sl c) v:=by
 subst hn
 have hrec:∀i j (h:i<c.length)(h':j<c[i].length),eV w F c[i][j] (r.flatten.getD (i*sz+j) undef)/\∃x,r.flatten[i*sz+j]?=some x:=by
  intro i j hi hj
  have Wb:i<r.length:=by rw[hR.len];exact hi
  have YA:j<r[i].length:=by rw[hR.rs _ (List.getElem_mem Wb),<- hR.cs _ (List.getElem_mem hi)];exact hj
  have h2:=fc (c:=r) (sz:=sz) (λi h=>hR.rs _ (List.getElem_mem h)) (i:=i) (j:=j) Wb YA;refine⟨?_,_,h2⟩;rw[oGD,h2];exact hR.at_ i _ _ (oGE hi) (oGE Wb) j _ _ (oGE hj) (oGE YA)
 rcases h.2 with⟨rfl,h0⟩|⟨g,cap,cur,rfl,hb,hg,hcap,hmax,hsz,YB⟩
 ·have e:c=[]:=oEN h0;subst e;exact .sl sz (λ_ _=>undef) (λi h=>by simp at h) (Nat.le_refl _) (by simp[maxLen]) (λ_=>rfl) (λi j h=>by simp at h) (λi j h=>by simp at h)
 ·have hc:=World.ownsRow.cells (g:=g) h rfl;refine .sl sz (λi j=>r.flatten.getD (i*sz+j) undef) (λi h=>hR.cs _ (List.getElem_mem h)) hcap hmax (λh=>by cases h) (λi j hi hj=>?_) (λi j hi hj=>(hrec i j hi hj).1);obtain⟨_,x,hx⟩:=hrec i j hi (by rw[hR.cs _ (List.getElem_mem hi)];exact hj);refine⟨g,0,rfl,hF g hb,?_⟩;have:=hc _ _ hx;rw[cq]at this;rw[this,oGD,hx];rfl
def D5:List TV:=[.v (.int .i64 0),.v (.int .i64 0),.v (.int .i64 0),.v (.int .i64 0),.v (.int .i64 0)]
def inI(x:Int):Prop:=-9223372036854775808<=x/\x<=9223372036854775807
instance (x:Int):Decidable (inI x):=by unfold inI;infer_instance
def ok5(n m l:Nat)(what at_ by_:Int):Prop:=(0<n/\n<=64/\0<m/\m<=64/\0<l/\l<=64)/\inI what/\inI at_/\inI by_/\what%8=5
instance (n m l:Nat) (what at_ by_:Int):Decidable (ok5 n m l what at_ by_):=by unfold ok5;infer_instance
def tri{α:Type}(c:List α)(z:α)(by_:Int):List α:=c++(c++c)++List.replicate (by_%64).toNat z
def wm:List TV->List (Nat×List TV)->Option (ue×List (Nat×List TV)):=λvals pts=>match vals,pts with
 | [.agg [.sl c0,.sl c1,.sl c2],.v (.int .i64 what),.v (.int .i64 at_),.v (.int .i64 by_)],[]=>
  if ok5 c0.length c1.length c2.length what at_ by_/\(c0.all (λq=>q.length==5)&&c1.all (λq=>q.length==1)&&c2.all (λq=>q.length==1))=true then
   some (⟨[.sl (tri c0 D5 by_),.sl c1,.sl c2],[.agg 3]⟩,[])else none
 |_,_=>none
theorem ub:ij Try.prog 14:=nX Try.func14 (by kernel_rfl) rfl
theorem zi{SC SS SD:Value}{w:World}{F:Nat->Prop}{c0 c1 c2:List (List TV)}{what at_ by_:Int}(h0:eV w F (.sl c0) SC)(h1:eV w F (.sl c1) SS)(h2:eV w F (.sl c2) SD)
 (hok:ok5 c0.length c1.length c2.length what at_ by_)(XI:∀q∈c0,q.length=5)(ZC:∀q∈c1,q.length=1)(Zw:∀q∈c2,q.length=1):
 Calls Try.prog 14 #[.agg #[SC,SS,SD],.int .i64 what,.int .i64 at_,.int .i64 by_] w λe w2=>∃C S D,e=.returned (.agg #[C,S,D])/\Below w.heap.size w w2 /\
  eV w2 (λk=>F k\/w.heap.size<=k) (.sl (tri c0 D5 by_)) C/\eV w2 (λk=>F k\/w.heap.size<=k) (.sl c1) S/\eV w2 (λk=>F k\/w.heap.size<=k) (.sl c2) D:=by
 obtain⟨⟨n0,n1,m0,m1,l0,l1⟩,⟨Vv,XF⟩,⟨UL,W8⟩,⟨VF,ZW⟩,h5⟩:=hok;obtain⟨r0,R0,A0⟩:=tH h0 n0 (by decide) XI;obtain⟨r1,R1,A1⟩:=tH h1 m0 (by decide) ZC;obtain⟨r2,R2,A2⟩:=tH h2 l0 (by decide) Zw;obtain⟨k,hk⟩:=Int.eq_ofNat_of_zero_le (Int.emod_nonneg by_ (show(64:Int)≠0 by decide))
 have XK:(by_%64).toNat=k:=by rw[hk];rfl
 refine(zj SC SS SD _ _ _ _ _ _ what at_ by_ w A0 A1 A2 n0 n1 m1 l1 Vv XF UL W8 VF ZW h5 k hk).mono ?_;rintro e w2 ⟨C,S,D,rfl,hg,oC,oS,oD⟩;have hB:Below w.heap.size w w2:=⟨hg.os,hg.tape,hg.output,hg.size,λk hk=>hg.block k hk (by simp)⟩;have fr:∀{sz:Nat}{c:List (List TV)}{r:List (List Value)},RwT w F sz c r->RwT w2 (λk=>F k\/w.heap.size<=k) sz c r:=λh=>h.frame (λk _ hk=>hB.block k hk) λk hk _=>.inl hk;have hF:∀k,w.heap.size+2<=k->F k\/w.heap.size<=k:=λk hk=>.inr (by omega);refine⟨C,S,D,rfl,hB,?_,tk oS (fr R1) rfl hF,tk oD (fr R2) rfl hF⟩
 have e:r0.flatten++(r0.flatten++r0.flatten)++(List.replicate k C8).flatten=(r0++(r0++r0)++List.replicate k C8).flatten:=by simp
 rw[e]at oC;unfold tri;rw[XK];refine tk oC (((fr R0).app ((fr R0).app (fr R0))).app (RwT.rep k rfl rfl λj t x ht hx=>?_)) (by simp;omega) hF;have hj:j<5:=(oGS ht).1
 have:t=.v (.int .i64 0)/\x=.int .i64 0:=by
  have:j=0\/j=1\/j=2\/j=3\/j=4:=by omega
  rcases this with rfl|rfl|rfl|rfl|rfl<;>(injection ht with ht;injection hx with hx;exact⟨ht.symm,hx.symm⟩)
 rw[this.1,this.2];exact .v rfl
theorem AG{vals:List TV}{pts:List (Nat×List TV)}{res:ue}{ZE:List (Nat×List TV)}(h:wm vals pts=some (res,ZE)):
 ij Try.prog 14/\∃N,vals.length<=N/\∀(M:Fm)(avs:List Value)(w:World)(G:Gh),avs.length=vals.length->M.N=N->M.w0=w->(∀r,M.pr r≠none->∃i p vs,vals[i]?=some (.ptr p vs)/\r=2*i+2)->
  Inv M (mkSt vals pts) [] [] (avs.toArray++Array.replicate (N-avs.length) undef) w G ->
  Calls Try.prog 14 avs.toArray w λe w2=>∃v σ2,e=.returned v/\D4 M res v σ2 w2/\ZE=pts.map λx=>(x.1,(bW σ2.ce x.1).getD []):=by
 unfold wm at h;split at h
 case h_2=>cases h
 rename_i c0 c1 c2 what at_ by_;split at h
 case isFalse=>cases h
 rename_i hc
 injection h with h
 injection h with e1 e2
 subst e1 e2;obtain⟨hok,ZY⟩:=hc;simp only[oBA,List.all_eq_true,beq_iff_eq]at ZY;refine⟨ub,4,Nat.le_refl _,λM avs w G hal hN Vv YQ hI=>?_⟩;subst Vv
 obtain⟨v0,v1,v2,v3,rfl⟩:∃v0 v1 v2 v3,avs=[v0,v1,v2,v3]:=by
  match avs,hal with
  | [v0,v1,v2,v3],_=>exact⟨_,_,_,_,rfl⟩
 have SK:[v0,v1,v2,v3].toArray++Array.replicate (4 - [v0,v1,v2,v3].length) undef=[v0,v1,v2,v3].toArray:=rfl;rw[SK]at hI
 have hst:∀(vals:List TV) j,(mkSt vals []).t j=vals.getD j .dead:=by
  intro vals j;simp[St.t,mkSt,md]
 have t0:=hI.tmr 0;have t1:=hI.tmr 1;have t2:=hI.tmr 2;have t3:=hI.tmr 3;rw[hst]at t0 t1 t2 t3;simp only[List.getD_cons_zero,List.getD_cons_succ]at t0 t1 t2 t3;replace t0:TmR _ _ _ _ _ (.agg [.sl c0,.sl c1,.sl c2]) v0:=t0;replace t1:TmR _ _ _ _ _ (.v (.int .i64 what)) v1:=t1;replace t2:TmR _ _ _ _ _ (.v (.int .i64 at_)) v2:=t2;replace t3:TmR _ _ _ _ _ (.v (.int .i64 by_)) v3:=t3;cases t1;cases t2;cases t3
 cases t0 with
 | @agg l cs hl hj=>
  have j0:=hj 0 (by simp);have j1:=hj 1 (by simp);have j2:=hj 2 (by simp);simp only[List.getElem_cons_zero,List.getElem_cons_succ]at j0 j1 j2;have hs:cs.size=3:=hl
  have e:cs=#[cs.getD 0 undef,cs.getD 1 undef,cs.getD 2 undef]:=by
   apply Array.ext
   ·simpa using hs
   ·intro j h2 h3
    have hjj:j<3:=by simpa using h3
    have e1:cs[j]=cs.getD j undef:=by simp[Array.getD,h2]
    rw[e1]
    match j,hjj with
    |0,_=>rfl
    |1,_=>rfl
    |2,_=>rfl
  rw[e]
  cases j0 with
  |sl i0=>
  cases j1 with
  |sl i1=>
  cases j2 with
  |sl i2=>
  refine(zi i0 i1 i2 hok ZY.1.1 ZY.1.2 ZY.2).mono ?_;rintro e' w2 ⟨C,S,D,rfl,hb,iC,iS,iD⟩;obtain⟨ZR,_⟩:=hI.grow (w':=w2) (λk hk=>hb.block k hk) hb.size hb.os hb.tape hb.output
  have hF:∀k,G.F M.A k\/M.w0.heap.size<=k->G.F M.A k:=by
   rintro k (hk|hk)
   ·exact hk
   ·refine⟨M.hA k hk,λr o hφ=>?_,λr b o n hβ e=>?_⟩
    ·have:=hI.core.live hφ;omega
    ·subst e;have:=hI.core.boxlt hβ;omega
  obtain⟨G1,ZM⟩:=ZR.addHand (iC.frame (F':=G.F M.A) (λ_ _ _=>rfl) λk hk _=>hF k hk).toOwn;obtain⟨G2,ZN⟩:=ZM.1.addHand (iS.frame (F':=G1.F M.A) (λ_ _ _=>rfl) λk hk _=>ZM.2.1 k (hF k hk)).toOwn;obtain⟨G3,Pw⟩:=ZN.1.addHand (iD.frame (F':=G2.F M.A) (λ_ _ _=>rfl) λk hk _=>ZN.2.1 k (ZM.2.1 k (hF k hk))).toOwn;refine⟨_,mkSt _ [],rfl,.inl ⟨[C,S,D],_,G3,rfl,Pw.1,λj hj=>.inl ?_⟩,rfl⟩;have VM:j<3:=hj
  match j,VM with
  |0,_=>rfl
  |1,_=>rfl
  |2,_=>rfl
noncomputable def libB:cy:=λf vals pts=>if f=14 then(match wm vals pts with|some r=>some r|none=>runF E0i TTi noB (NN+3) f vals pts)else none
theorem libB_ok:eO Try.prog libB:=by
 intro f vals pts res ZE h;unfold libB at h;split at h
 ·rename_i hf;split at h
  ·rename_i r hr
   injection h with h
   subst h;rw[hf];exact AG hr
  ·exact runF_ok Dl DM Dv _ _ _ _ _ _ h
 ·cases h
def dP(a0:List (Int×Int×Int×Int×Int))(a1:List Int)(a2:List (List Int))(a3 a4 a5:Int):Option (List (Int×Int×Int×Int×Int)×List Int×List (List Int)×Unit):=
 if ok5 a0.length a1.length a2.length a3 a4 a5 then some (tri a0 (0,0,0,0,0) a5,a1,a2,())else is a0 a1 a2 a3 a4 a5
abbrev Dt:CT:=.pair (.int .i64) (.pair (.int .i64) (.pair (.int .i64) (.pair (.int .i64) (.int .i64))))
def sn(x:Int×Int×Int×Int×Int):List TV:=[.v (.int .i64 x.1),.v (.int .i64 x.2.1),.v (.int .i64 x.2.2.1),.v (.int .i64 x.2.2.2.1),.v (.int .i64 x.2.2.2.2)]
theorem oq{id:Nat}:ko libB ⟨14,id,[.agg [shU (.row false Dt),shU (.row false I64),shU (.row false (.row false (.int .u16)))],shU I64,shU I64,shU I64],[],[⟨[shU (.row false Dt),shU (.row false I64),shU (.row false (.row false (.int .u16)))],[.agg 3],[]⟩],
 λh=>dP h.1 h.2.1 h.2.2.1 h.2.2.2.1 h.2.2.2.2.1 h.2.2.2.2.2.1⟩:=by
 rintro⟨code,ss,dt,what,at_,by_,h⟩ o x ho hx;have ho:dP code ss dt what at_ by_=some o:=ho;unfold dP at ho
 have hlen:∀(l:List (List Int)),(l.map (enc (.row false (.int .u16)))).all (λq=>q.length==1)=true:=λl=>by
  rw[List.all_eq_true];intro q hq;obtain⟨y,_,rfl⟩:=List.mem_map.1 hq;rfl
 have TZ:∀(l:List Int),(l.map (enc I64)).all (λq=>q.length==1)=true:=λl=>by
  rw[List.all_eq_true];intro q hq;obtain⟨y,_,rfl⟩:=List.mem_map.1 hq;rfl
 have T1:∀(l:List (Int×Int×Int×Int×Int)),(l.map sn).all (λq=>q.length==5)=true:=λl=>by
  rw[List.all_eq_true];intro q hq;obtain⟨y,_,rfl⟩:=List.mem_map.1 hq;rfl
 split at ho
 ·rename_i hok
  injection ho with ho
  subst ho;cases hx
  show libB 14 [.agg [.sl ((code:List (Int×Int×Int×Int×Int)).map sn),.sl ((ss:List Int).map (enc I64)),.sl ((dt:List (List Int)).map (enc (.row false (.int .u16))))],.v (.int .i64 what),.v (.int .i64 at_),.v (.int .i64 by_)] []
   = some (⟨[.sl ((tri code (0,0,0,0,0) by_).map sn),.sl ((ss:List Int).map (enc I64)),.sl ((dt:List (List Int)).map (enc (.row false (.int .u16))))],[.agg 3]⟩,[])
  have e:(tri code (0,0,0,0,0) by_).map sn=tri ((code:List (Int×Int×Int×Int×Int)).map sn) D5 by_:=by
   unfold tri;simp[D5,sn]
  rw[e];unfold libB;rw[oIP rfl];unfold wm;simp only[List.length_map];rw[oIP ⟨hok,by rw[T1,TZ,hlen];rfl⟩]
 ·rename_i hok;have key:=qa 3 (Nat.le_refl _) ⟨code,ss,dt,what,at_,by_,h⟩ o x ho hx
  have e:wm [.agg [.sl ((code:List (Int×Int×Int×Int×Int)).map sn),.sl ((ss:List Int).map (enc I64)),.sl ((dt:List (List Int)).map (enc (.row false (.int .u16))))],.v (.int .i64 what),.v (.int .i64 at_),.v (.int .i64 by_)] []=none:=by
   unfold wm;simp only[List.length_map];rw[oIN λh=>hok h.1]
  show libB 14 [.agg [.sl ((code:List (Int×Int×Int×Int×Int)).map sn),.sl ((ss:List Int).map (enc I64)),.sl ((dt:List (List Int)).map (enc (.row false (.int .u16))))],.v (.int .i64 what),.v (.int .i64 at_),.v (.int .i64 by_)] []=_;unfold libB;rw[oIP rfl,e];exact key
end Go.Proofs.Ytgphpfjngblbiaa
namespace Go.Proofs.Ytgphpfjngblbiaa
open Go.RowKit
set_option maxRecDepth 100000
noncomputable section
abbrev KCe:CT:=(.pair (.int .u8) (.int .u16))
abbrev KIn:CT:=(.pair I64 (.pair I64 (.pair I64 (.pair I64 I64))))
abbrev EQ:CT:=(.pair I64 (.pair .bool (.row false KCe)))
abbrev EP:CT:=(.pair I64 (.pair (.row false KCe) (.pair I64 (.pair I64 (.pair I64 (.pair I64 (.pair I64 (.int .u16))))))))
abbrev Er:CT:=(.pair I64 (.pair .bool (.row true KCe)))
abbrev D0:CT:=(.pair I64 (.pair (.row true KCe) (.pair I64 (.pair I64 (.pair I64 (.pair I64 (.pair I64 (.int .u16))))))))
abbrev eM:CT:=(.row false KIn)
abbrev RW:CT:=(.row false (.int .u16))
abbrev RI:CT:=(.row false I64)
abbrev ly:CT:=(.row false KCe)
abbrev oV:CT:=(.row false EQ)
abbrev wM:CT:=(.row true Er)
abbrev BD:CT:=(.row false EP)
abbrev DW:CT:=(.row true D0)
abbrev DCe:Type:=(Int×Int)
abbrev DCn:Type:=(Int×Int×Int×Int)
abbrev DIn:Type:=(Int×Int×Int×Int×Int)
abbrev DLn:Type:=(Int×Bool×List DCe)
abbrev DTh:Type:=(Int×(List DCe)×Int×Int×Int×Int×Int×Int)
abbrev DTs:Type:=(Int×Int×Int×Int×Int×Int×Int×List DCn)
def HH(f i:Nat):List (Nat×Option Nat):=if f=14 then(if i=0 then[(8,some 0),(8,some 1)]else[])else if f=5 then(if i=3000004 then[(13,some 2)]else if i=3000015 then[(22,none),(20,none)]else[])else if f=17 then(if i=0 then[(4,some 0),(4,some 2),(4,some 3)]else[])else if f=40 then(if i=0 then[(8,none)]else[])else if f=12 then(if i=2 then[(3,some 1)]else if i=3 then[(3,some 0)]else[])else if f=18 then(if i=0 then[(4,some 0),(4,some 2),(4,some 3)]else[])else if f=3 then(if i=3000006 then[(14,some 2)]else if i=1 then[(15,some 0)]else[])else if f=68 then(if i=0 then[(4,none)]else[])else[]
def DA:List Nat:=[14]
def TT (f:FuncId):Option TFn:=if DA.contains f then none else kj Try.prog (HH f) f
theorem Dm{f:FuncId}(h:DA.contains f=true):TT f=none:=oIP h
def E0:Env:=⟨λf=>if f=11 then some (1,[.arg 0,.val (.int .i64 0)])else none,λf=>Eu Try.prog f⟩
theorem tt_ok:wL Try.prog TT:=λf tf h=>wY HH (by kernel_rfl) f tf (by
 unfold TT at h
 split at h
 ·cases h
 ·exact h)
abbrev qE:Shs:=⟨[],[],[],([],[])⟩
abbrev qS(s:List (Nat×Sh))(c:List (Nat×List Sh)):Shs:=⟨s,c,[],([],[])⟩
abbrev N1:CT:=.nilr true
abbrev N0:CT:=.nilr false
abbrev CW:CT:=.int .u16
abbrev CB:CT:=.int .u8
abbrev uL(l:List CT):List Sh:=l.map fun c=>.d c ()
abbrev pP(t r:Nat):Nat×Sh:=(t,.ptr ⟨r,0,[]⟩ [0])
abbrev sP(t:Nat)(c:CT):Nat×Sh:=(t,.d c ())
abbrev Lk(n:Nat)(c:Ctr):Prop:=Lvl E0 TT libB n c
theorem aN{m:Nat}:vm E0 TT libB m []:=trivial
theorem aC{n m:Nat}{c:Ctr}{l:List Ctr}(h:Lk n c)(r:vm E0 TT libB m l)(hm:n≤m:=by decide):vm E0 TT libB m (c::l):=⟨h.mono hm,r⟩
abbrev lx(i n:Nat)(s:List (Nat×Sh))(c:List (Nat×List Sh))(b:Nat):sF:=⟨i,n,⟨s,c,[],([],[])⟩,[(.exit 0,⟨s++[(b,.d .bool ())],c,[],([],[])⟩)]⟩
abbrev LI:Type:=List Int
abbrev LLI:Type:=List (List Int)
abbrev LDCe:Type:=List DCe
abbrev LDIn:Type:=List DIn
abbrev LDLn:Type:=List DLn
abbrev LDTh:Type:=List DTh
abbrev T00:Type:=Bool×LI×Unit
abbrev T01:Type:=Int×Int×Unit
abbrev T02:Type:=Int×LI×Unit
abbrev T03:Type:=LDCe×LDLn×Unit
abbrev T04:Type:=LI×Int×Unit
abbrev T05:Type:=LI×LLI×Unit
abbrev T06:Type:=Int×Int×LDLn×Unit
abbrev T07:Type:=Int×T04
abbrev T08:Type:=LDIn×T05
abbrev T09:Type:=LI×T01
abbrev T0a:Type:=LI×T02
abbrev T0b:Type:=Bool×Bool×Bool×Bool×Unit
abbrev T0c:Type:=Int×Bool×T04
abbrev T0d:Type:=Int×T07
abbrev T0e:Type:=Int×T0a
abbrev T0f:Type:=LDCe×LDLn×T03
abbrev T0g:Type:=LDIn×LI×LLI×LI×Unit
abbrev T0h:Type:=LI×T07
abbrev T0i:Type:=LI×T09
abbrev T0j:Type:=Unit×T07
abbrev T0k:Type:=Int×T0c
abbrev T0l:Type:=Int×Int×Int×T01
abbrev T0m:Type:=Int×Int×T08
abbrev T0n:Type:=LI×T0d
abbrev T0o:Type:=LI×Int×LDCe×LDLn×LDTh×Unit
abbrev T0p:Type:=Int×Int×Bool×T08
abbrev T0q:Type:=Int×T0l
abbrev T0r:Type:=Int×Int×T0d
abbrev T0s:Type:=Int×Int×T0g
abbrev T0t:Type:=LDIn×T0m
abbrev T0u:Type:=LI×T0k
abbrev T0v:Type:=LI×T0n
abbrev T0w:Type:=LLI×T0m
abbrev T0x:Type:=Int×Int×Bool×T0f
abbrev T0y:Type:=Int×Int×Bool×T0g
abbrev T0z:Type:=Int×T0t
abbrev T0A:Type:=LDIn×T0p
abbrev T0B:Type:=LDIn×T0s
abbrev T0C:Type:=LI×Int×LI×Int×(List (LDIn×LI×List LI))×Unit
abbrev T0D:Type:=LLI×T0p
abbrev T0E:Type:=Int×LDCe×T0q
abbrev T0F:Type:=Int×T0A
abbrev T0G:Type:=LI×Int×Unit×Unit×Unit×T08
abbrev T0H:Type:=LI×Int×Unit×Unit×Unit×Unit×T05
abbrev T0I:Type:=Int×Int×T0C
abbrev T0J:Type:=Int×T0G
abbrev T0K:Type:=LDIn×LI×LLI×LI×Int×Unit×Unit×T03
abbrev T0L:Type:=LI×Int×Int×T0u
abbrev T0M:Type:=Int×Bool×T0G
abbrev T0N:Type:=Int×Int×Int×Int×Int×Bool×Bool×Bool×T00
abbrev T0O:Type:=Int×T0J
abbrev T0P:Type:=Int×Int×T0H
abbrev T0Q:Type:=LI×Int×Int×Int×Int×Int×T0j
abbrev T0R:Type:=LI×Int×Int×LI×T0r
abbrev T0S:Type:=LI×Int×LDCe×LDLn×LDTh×T0o
abbrev T0T:Type:=Unit×Int×Unit×Unit×Unit×T0o
abbrev T0U:Type:=Bool×T0S
abbrev T0V:Type:=Int×Int×T0K
abbrev T0W:Type:=Int×T0T
abbrev T0X:Type:=LI×Int×Int×LI×Int×Int×T0k
abbrev T0Y:Type:=LI×Int×Int×LI×Int×Int×T0n
abbrev T0Z:Type:=Int×Bool×T0T
abbrev T10:Type:=Int×Int×Bool×T0K
abbrev T11:Type:=Int×Int×T0N
abbrev T12:Type:=Int×Int×T0S
abbrev T13:Type:=LI×Int×Int×T0L
abbrev T14:Type:=LI×Int×LI×Int×LDIn×LI×LLI×(List (LDIn×LI×List LI))×(List (LI×Int))×Unit
abbrev T15:Type:=LLI×T0V
abbrev T16:Type:=Int×Int×Bool×T0N
abbrev T17:Type:=LLI×T10
abbrev T18:Type:=Int×Int×Int×Int×T14
abbrev T19:Type:=Int×LLI×Int×Int×LI×T0V
abbrev T1a:Type:=Int×Int×LI×Int×Int×Int×Int×Int×Int×Int×Int×Int×Int×Int×T0b
noncomputable abbrev ap1{A0 D R:Type}(f:A0→R)(h:A0×D):R:=f h.1
noncomputable abbrev ap2{A0 A1 D R:Type}(f:A0→A1→R)(h:A0×A1×D):R:=f h.1 h.2.1
noncomputable abbrev ap3{A0 A1 A2 D R:Type}(f:A0→A1→A2→R)(h:A0×A1×A2×D):R:=f h.1 h.2.1 h.2.2.1
noncomputable abbrev ap4{A0 A1 A2 A3 D R:Type}(f:A0→A1→A2→A3→R)(h:A0×A1×A2×A3×D):R:=f h.1 h.2.1 h.2.2.1 h.2.2.2.1
noncomputable abbrev ap5{A0 A1 A2 A3 A4 D R:Type}(f:A0→A1→A2→A3→A4→R)(h:A0×A1×A2×A3×A4×D):R:=f h.1 h.2.1 h.2.2.1 h.2.2.2.1 h.2.2.2.2.1
noncomputable abbrev ap6{A0 A1 A2 A3 A4 A5 D R:Type}(f:A0→A1→A2→A3→A4→A5→R)(h:A0×A1×A2×A3×A4×A5×D):R:=f h.1 h.2.1 h.2.2.1 h.2.2.2.1 h.2.2.2.2.1 h.2.2.2.2.2.1
noncomputable abbrev ap9{A0 A1 A2 A3 A4 A5 A6 A7 A8 D R:Type}(f:A0→A1→A2→A3→A4→A5→A6→A7→A8→R)(h:A0×A1×A2×A3×A4×A5×A6×A7×A8×D):R:=f h.1 h.2.1 h.2.2.1 h.2.2.2.1 h.2.2.2.2.1 h.2.2.2.2.2.1 h.2.2.2.2.2.2.1 h.2.2.2.2.2.2.2.1 h.2.2.2.2.2.2.2.2.1
noncomputable abbrev ap10{A0 A1 A2 A3 A4 A5 A6 A7 A8 A9 D R:Type}(f:A0→A1→A2→A3→A4→A5→A6→A7→A8→A9→R)(h:A0×A1×A2×A3×A4×A5×A6×A7×A8×A9×D):R:=f h.1 h.2.1 h.2.2.1 h.2.2.2.1 h.2.2.2.2.1 h.2.2.2.2.2.1 h.2.2.2.2.2.2.1 h.2.2.2.2.2.2.2.1 h.2.2.2.2.2.2.2.2.1 h.2.2.2.2.2.2.2.2.2.1
noncomputable abbrev ap16{A0 A1 A2 A3 A4 A5 A6 A7 A8 A9 A10 A11 A12 A13 A14 A15 D R:Type}(f:A0→A1→A2→A3→A4→A5→A6→A7→A8→A9→A10→A11→A12→A13→A14→A15→R)(h:A0×A1×A2×A3×A4×A5×A6×A7×A8×A9×A10×A11×A12×A13×A14×A15×D):R:=f h.1 h.2.1 h.2.2.1 h.2.2.2.1 h.2.2.2.2.1 h.2.2.2.2.2.1 h.2.2.2.2.2.2.1 h.2.2.2.2.2.2.2.1 h.2.2.2.2.2.2.2.2.1 h.2.2.2.2.2.2.2.2.2.1 h.2.2.2.2.2.2.2.2.2.2.1 h.2.2.2.2.2.2.2.2.2.2.2.1 h.2.2.2.2.2.2.2.2.2.2.2.2.1 h.2.2.2.2.2.2.2.2.2.2.2.2.2.1 h.2.2.2.2.2.2.2.2.2.2.2.2.2.2.1 h.2.2.2.2.2.2.2.2.2.2.2.2.2.2.2.1
theorem ls{n:Nat}(C:X.Cfg)(hT:vm E0 TT libB n C.TB){c:Ctr}(hE:C.E=E0:=by rfl)(h1:(TT c.f).isSome=true:=by kernel_rfl)(hg:∀h,X.runT bK C () ((TT c.f).getD Ey) c.outs (dZ c.ins _ h).1 (lb c.pts [] (dZ c.ins _ h).2).1=c.g h:=by intro h;kernel_rfl):Lk (n+1) c:=p8 (n:=n) (C:=C) hE hT (sV h1) hg
abbrev Uaa(t:Nat):Nat×Sh:=sP t I64
abbrev Xaa(t:Nat):Nat×Sh:=sP t .bool
abbrev Zaa(t r:Nat):Nat×Sh:=(t,.pk ⟨r,0,[]⟩ [0,0])
abbrev uaa(t:CT):CT:=.row true t
abbrev yaa(t:CT):CT:=.row false t
abbrev zaa(t:Nat):Nat×Sh:=pP t (2*t+2)
abbrev uab:List Sh:=uL [eM,RI,(yaa RW)]
abbrev yab:List Sh:=uL [RI,CW]
abbrev zab:List Sh:=uL [RI,I64]
abbrev Uab:List Sh:=uL [I64,I64,I64,I64,I64]
abbrev Xab:List Sh:=uL [.bool]
abbrev Zab:List Sh:=uL [I64]
abbrev uac:List Sh:=uL [.bool,.bool,.bool,.bool]
abbrev yac:List Sh:=uL [N1,N1]
abbrev zac:List Sh:=uL [N1,N1,N1]
abbrev Uac:List Sh:=uL [ly,oV]
abbrev Xac:List Sh:=uL [RI,CW,ly,oV,BD]
abbrev Zac:List Sh:=uL [(uaa KCe),wM]
abbrev uad:List Sh:=uL [(uaa I64)]
abbrev yad:List Sh:=uL [(uaa CB)]
abbrev zad:List Sh:=uL [I64,I64]
abbrev Uad:List Sh:=uL [(uaa KIn),RI,(uaa (uaa CW))]
abbrev Xad:List Sh:=uL [eM,RI,(uaa (uaa CW))]
abbrev Zad:List Sh:=uL [(uaa I64),CW]
abbrev uae:List Sh:=uL [N1,CW,N1,N1,N1]
abbrev yae:List Sh:=uL [RI,CW,ly,oV,DW]
abbrev zae:List Sh:=uL [(uaa KCe),wM,I64]
abbrev Uae:List Sh:=uL [I64,(uaa KCe),I64,I64,I64,I64,I64,CW]
abbrev Xae:List Sh:=uL [RI,CW,ly,oV,DW,I64]
abbrev Zae:List Sh:=uL [I64,ly,I64,I64,I64,I64,I64,CW]
abbrev uaf:List Sh:=uL [(uaa (.pair RI CW))]
def iv:T0w->Option (T0w⊕((Bool×Unit)⊕T0D)):=λ(v0,v1,v2,v3)=>
bif(decide (v2<v1))then((cZ v2).bind λx0=>
(cd v0 x0).bind λx1=>
let x2:=bQ x1.length;
bif(decide (x2>100))then(some (.inr (.inl (false,()))))else
let x3:=w64 (v2+1);
some (.inl (v0,v1,x3,v3)))else
some (.inr (.inr (v0,v1,v2,false,v3)))
def jr(a0:LDIn)(a1:List (Int))(a2:List LI):Option (Bool×Unit):=
let x0:=bQ a2.length;
(match b5 iv NN (a2,x0,0,a0,a1,a2,())with
|none=>none
|some (.inl (x1,_))=>
some (x1,())
|some (.inr (x1,x2,x3,x4,x5,x6,x7,_))=>
let x8:=bQ x5.length;
bif(decide (x8<=80))then(let x9:Int:=(bQ x6.length);
bif(decide (x9<=20))then(let ac:Int:=(bQ x7.length);
some ((decide (ac<=20)),()))else
some (false,()))else
some (false,()))
def wn:X.Cfg:=⟨E0,[],[],[⟨3,0,qS [zaa 1,sP 6 (yaa RW),Uaa 7,Uaa 8] [(4,uab)],[(.ret,qS [Xaa 2] []),(.exit 0,qS [zaa 1,sP 6 (yaa RW),Uaa 7,Uaa 8,Xaa 9] [(4,uab)])]⟩]⟩
def pC:Ctr:=⟨9,0,[.agg uab],[],[⟨Xab,[.one],[]⟩],ap3 jr⟩
theorem wh:Lk 1 pC:=ls wn aN
def lE:T0i->Option (T0i⊕((Bool×Unit)⊕(LI×LI×Int×Int×Bool×Unit))):=λ(v0,v1,v2,v3,_)=>
bif(decide (v3<v2))then((cZ v3).bind λx0=>
(cd v1 x0).bind λx1=>
bif(decide (x1<1))then(some (.inr (.inl (false,()))))else
bif(decide (x1>32))then(some (.inr (.inl (false,()))))else
let x2:=w64 (v3+1);
some (.inl (v0,v1,v2,x2,())))else
some (.inr (.inr (v0,v1,v2,v3,false,())))
def fh(a0:List (Int)):Option (Bool×Unit):=
let x0:=bQ a0.length;
(match b5 lE NN (a0,a0,x0,0,())with
|none=>none
|some (.inl (x1,_))=>
some (x1,())
|some (.inr (x1,_))=>
let x6:=bQ x1.length;
bif(decide (x6>=1))then(let x7:Int:=(bQ x1.length);
some ((decide (x7<=4)),()))else
some (false,()))
def oE:X.Cfg:=⟨E0,[],[],[⟨3,0,qS [sP 0 RI,sP 5 RI,Uaa 6,Uaa 7] [],[(.ret,qS [Xaa 2] []),(.exit 0,qS [sP 0 RI,sP 5 RI,Uaa 6,Uaa 7,Xaa 8] [])]⟩]⟩
def gZ:Ctr:=⟨78,1,uL [RI],[],[⟨Xab,[.one],[]⟩],ap1 fh⟩
theorem jN:Lk 1 gZ:=ls oE aN
def gV(a0:Int):Option (T0b):=
(bif(a0==1)then(some (a0,true,false,false,false,false,()))else
bif(a0==15)then(some (a0,true,false,false,false,false,()))else
bif(a0==19)then(some (a0,true,false,false,false,false,()))else
bif(a0==20)then(some (a0,true,false,false,false,false,()))else
some (a0,(a0==21),false,false,false,false,()):Option (Int×Bool×T0b)).bind λ(x0,x1,_)=>
bif x1 then(some (true,false,false,true,()))else
bif(x0==2)then(some (true,true,false,false,()))else
bif(x0==16)then(some (true,true,false,true,()))else
bif(x0==17)then(some (true,true,false,true,()))else
bif(x0==18)then(some (false,false,false,true,()))else
bif(x0==23)then(some (false,false,false,true,()))else
bif(x0==22)then(some (true,false,false,false,()))else
bif(x0==0)then(some (false,false,false,false,()))else
bif(x0==24)then(some (false,false,false,false,()))else
some (true,true,true,false,())
def oH:X.Cfg:=⟨E0,[],[],[⟨3,0,qE,[(.normal,qS [zaa 2,Uaa 3,Xaa 4] [(6,uac)])]⟩]⟩
def jU:Ctr:=⟨100,2,Zab,[],[⟨uac,[.agg 4],[]⟩],ap1 gV⟩
theorem ox:Lk 1 jU:=ls oH aN
def cK(a0:Bool)(a1:Int)(a2:Int):Option (Bool×Unit):=
bif(a1==0)then(some (true,()))else
bif a0 then(bif(decide (a1>0))then(some ((decide (a1<=a2)),()))else
some (false,()))else
some (false,())
def nO:X.Cfg:=⟨E0,[],[],[]⟩
def jl:Ctr:=⟨101,3,uL [.bool,I64,I64],[],[⟨Xab,[.one],[]⟩],ap3 cK⟩
theorem nJ:Lk 1 jl:=ls nO aN
def fQ(a0:Int):Option (Bool×Unit):=
bif(a0==18)then(some (true,()))else
bif(a0==19)then(some (true,()))else
bif(a0==20)then(some (true,()))else
some ((a0==21),())
def qz:X.Cfg:=⟨E0,[],[],[]⟩
def iH:Ctr:=⟨80,4,Zab,[],[⟨Xab,[.one],[]⟩],ap1 fQ⟩
theorem kX:Lk 1 iH:=ls qz aN
def gF(a0:Int):Option (Int×Unit):=
(fQ a0).bind λ(x0,_)=>
bif x0 then(some (63,()))else
bif(a0==15)then(some (3,()))else
bif(a0==23)then(some (15,()))else
some (65535,())
def r6:X.Cfg:=⟨E0,[iH],[],[]⟩
def mB:Ctr:=⟨102,5,Zab,[],[⟨Zab,[.one],[]⟩],ap1 gF⟩
theorem rL:Lk 2 mB:=ls r6 (aC kX aN)
def eD(a0:Int)(a1:Int)(a2:Int)(a3:Int)(a4:Int):Option (Bool×Unit):=
bif(decide (a0<0))then(some (false,()))else
bif(decide (a0>24))then(some (false,()))else
(gV a0).bind λ(x0,x1,x2,x3,_)=>
(cK x0 a1 7).bind λ(x4,_)=>
bif x4 then((cK x1 a2 7).bind λ(x5,_)=>
bif x5 then((cK x2 a3 7).bind λ(x6,_)=>
bif x6 then((gF a0).bind λ(x7,_)=>
(cK x3 a4 x7).bind λ(x8,_)=>
some (x8,()))else
some (false,()))else
some (false,()))else
some (false,())
def qy:X.Cfg:=⟨E0,[jU,jl,mB],[],[]⟩
def iG:Ctr:=⟨79,6,[.agg Uab],[],[⟨Xab,[.one],[]⟩],ap5 eD⟩
theorem kW:Lk 3 iG:=ls qy (aC ox (aC nJ (aC rL aN)))
def iQ:T0w->Option (T0w⊕((Int×Unit)⊕T0D)):=λ(v0,v1,v2,v3,v4,v5,_)=>
bif(decide (v2<v1))then((cZ v2).bind λx0=>
(cd v0 x0).bind λx1=>
let x2:=bQ x1.length;
(cZ v2).bind λx3=>
(cd v4 x3).bind λx4=>
bif(decide (x2>x4))then(some (.inr (.inl (1,()))))else
let x5:=w64 (v2+1);
some (.inl (v0,v1,x5,v3,v4,v5,())))else
some (.inr (.inr (v0,v1,v2,false,v3,v4,v5,())))
def cU:T0z->Option (T0z⊕((Int×Unit)⊕T0F)):=λ(v0,v1,v2,v3,v4,v5,v6,_)=>
bif(decide (v3<v2))then((match((cZ v3).bind λx0=>
(cd v1 x0).bind λx1=>
(eD x1.1 x1.2.1 x1.2.2.1 x1.2.2.2.1 x1.2.2.2.2).bind λ(x2,_)=>
bif(!x2)then(some (.inl (5,())))else
((fQ x1.1).bind λ(x3,_)=>
bif x3 then(let x4:Int:=(bQ v4.length);
bif(decide (x1.2.2.2.2>=x4))then(some (v0,v1,v2,v3,true,v4,v5,v6,()))else
bif(x1.1==15)then(let x5:Int:=(bQ v5.length);
some (v0,v1,v2,v3,(decide (x1.2.2.2.2>=x5)),v4,v5,v6,()))else
some (v0,v1,v2,v3,false,v4,v5,v6,()))else
bif(x1.1==15)then(let x4:Int:=(bQ v5.length);
some (v0,v1,v2,v3,(decide (x1.2.2.2.2>=x4)),v4,v5,v6,()))else
some (v0,v1,v2,v3,false,v4,v5,v6,()):Option (T0F)).bind λ(x3,x4,x5,x6,x7,x8)=>
bif x7 then(some (.inr (6,x4,x5,x6,x8)))else
some (.inr (x3,x4,x5,x6,x8)):Option ((Int×Unit)⊕T0z))with
|none=>none
|some (.inl (x0,_))=>
some (.inr (.inl (x0,())))
|some (.inr (x0,x1,x2,x3,x4,x5,x6,_))=>
let x7:=w64 (x3+1);
some (.inl (x0,x1,x2,x7,x4,x5,x6,()))))else
some (.inr (.inr (v0,v1,v2,v3,false,v4,v5,v6,())))
def fR(a0:LDIn)(a1:List (Int))(a2:List LI):Option (Int×Unit):=
(fh a1).bind λ(x0,_)=>
bif(!x0)then(some (1,()))else
let x1:=bQ a2.length;
let x2:=bQ a1.length;
bif(x1 != x2)then(some (1,()))else
let x3:=bQ a2.length;
(match b5 iQ NN (a2,x3,0,a0,a1,a2,())with
|none=>none
|some (.inl (x4,_))=>
some (x4,())
|some (.inr (x4,x5,x6,x7,x8,x9))=>
let ae:=bQ x8.length;
bif(ae==0)then(some (3,()))else
let af:=bQ x8.length;
bif(decide (af>64))then(some (3,()))else
let ah:=bQ x8.length;
(match b5 cU NN (0,x8,ah,0,x8,x9)with
|none=>none
|some (.inl (ai,_))=>
some (ai,())
|some (.inr (ai,_))=>
some (ai,())))
def qA:X.Cfg:=⟨E0,[gZ,iG,iH],[],[⟨6,0,qS [zaa 1,sP 22 (yaa RW),Uaa 23,Uaa 24] [(4,uab)],[(.ret,qS [Uaa 2] []),(.exit 0,qS [zaa 1,sP 22 (yaa RW),Uaa 23,Uaa 24,Xaa 25] [(4,uab)])]⟩,⟨27,1,qE,[(.normal,qS [zaa 1,Uaa 5,sP 49 eM,Uaa 50,Uaa 51,Xaa 81] [(4,uab)])]⟩,⟨22,2,qE,[(.ret,qS [Uaa 2] []),(.normal,qS [zaa 1,Uaa 5,sP 49 eM,Uaa 50,Uaa 51] [(4,uab)])]⟩,⟨19,3,qS [zaa 1,Uaa 5,sP 49 eM,Uaa 50,Uaa 51] [(4,uab)],[(.ret,qS [Uaa 2] []),(.exit 2,qS [zaa 1,Uaa 5,sP 49 eM,Uaa 50,Uaa 51,Xaa 52] [(4,uab)])]⟩]⟩
def lq:Ctr:=⟨44,7,[.agg uab],[],[⟨Zab,[.one],[]⟩],ap3 fR⟩
theorem qh:Lk 4 lq:=ls qA (aC jN (aC kW (aC kX aN)))
def dg(a0:LDIn)(a1:List (Int))(a2:List LI):Option (Int×Unit):=
(fR a0 a1 a2).bind λ(x0,_)=>
some (x0,())
def nN:X.Cfg:=⟨E0,[lq],[],[]⟩
def eL:Ctr:=⟨15,8,[.agg uab],[],[⟨Zab,[.one],[]⟩],ap3 dg⟩
theorem gj:Lk 5 eL:=ls nN (aC qh aN)
def ni:LI×Int×T02->Option ((LI×Int×T02)⊕(LI×Int×Int×T00)):=λ(v0,v1,v2,v3,_)=>
bif(decide (v2<v1))then((cZ v2).bind λx0=>
(cd v0 x0).bind λx1=>
let x2:Int:=(shR .shr .u16 x1 8);
let x3:=wk .u8 x2;
let x4:=wk .u8 x1;
let x5:List (Int):=[x3,x4];
bif(ct 1 v3.length x5.length)then let x6:List (Int):=(List.append v3 x5);
let x7:=w64 (v2+1);
some (.inl (v0,v1,x7,x6,()))else none)else
some (.inr (v0,v1,v2,false,v3,()))
def l9(a0:List (Int)):Option (LI×Unit):=
let x0:=bQ a0.length;
(b5 ni NN (a0,x0,0,[],())).bind λ(x1,x2,x3,x4,x5,_)=>
some (x5,())
def rQ:X.Cfg:=⟨E0,[],[],[(lx 4 0 [Zaa 3 9,sP 6 RW,Uaa 7,Uaa 8] [(9,yad)] 9)]⟩
def mr:Ctr:=⟨62,9,uL [RW],[],[⟨yad,[.one],[]⟩],ap1 l9⟩
theorem rD:Lk 1 mr:=ls rQ aN
def jK(a0:Int)(a1:Int)(a2:Int)(a3:Int)(a4:Int):Option (T04):=
(eD a0 a1 a2 a3 a4).bind λ(x0,_)=>
bif(!x0)then(some ([],1,()))else
let x1:=wk .u8 a0;
let x2:=wk .u8 a1;
let x3:=wk .u8 a2;
let x4:=wk .u8 a3;
let x5:Int:=(shR .shr .i64 a4 8);
let x6:=wk .u8 x5;
let x7:=wk .u8 a4;
let x8:List (Int):=[x1,x2,x3,x4,x6,x7];
some (x8,0,())
def oI:X.Cfg:=⟨E0,[iG],[],[]⟩
def jV:Ctr:=⟨63,10,[.agg Uab],[],[⟨uL [(uaa CB),I64],[.one,.one],[]⟩],ap5 jK⟩
theorem oy:Lk 4 jV:=ls oI (aC kW aN)
def j4:LI×T0s->Option ((LI×T0s)⊕(LI×T0y)):=λ(v0,v1,v2,v3,v4,v5,v6,_)=>
bif(decide (v2<v1))then((cZ v2).bind λx0=>
(cd v0 x0).bind λx1=>
let x2:=wk .u8 x1;
(cZ v2).bind λx3=>
(cd v5 x3).bind λx4=>
let x5:=bQ x4.length;
let x6:=wk .u8 x5;
let x7:List (Int):=[x2,x6];
bif(ct 1 v6.length x7.length)then let x8:List (Int):=(List.append v6 x7);
(cZ v2).bind λx9=>
(cd v5 x9).bind λac=>
(l9 ac).bind λ(ae,_)=>
bif(ct 1 x8.length ae.length)then let af:List (Int):=(List.append x8 ae);
let ah:=w64 (v2+1);
some (.inl (v0,v1,ah,v3,v4,v5,af,()))else none else none)else
some (.inr (v0,v1,v2,false,v3,v4,v5,v6,()))
def j3:T0B->Option (T0B⊕(LDIn×T0y)):=λ(v0,v1,v2,v3,v4,v5,v6,_)=>
bif(decide (v2<v1))then((cZ v2).bind λx0=>
(cd v0 x0).bind λx1=>
(jK x1.1 x1.2.1 x1.2.2.1 x1.2.2.2.1 x1.2.2.2.2).bind λ(x2,x3,_)=>
bif(ct 1 v6.length x2.length)then let x4:List (Int):=(List.append v6 x2);
let x5:=w64 (v2+1);
some (.inl (v0,v1,x5,v3,v4,v5,x4,()))else none)else
some (.inr (v0,v1,v2,false,v3,v4,v5,v6,()))
def iP(a0:LDIn)(a1:List (Int))(a2:List LI):Option (T04):=
(dg a0 a1 a2).bind λ(x0,_)=>
bif(x0 != 0)then(some ([],x0,()))else
let x1:=bQ a1.length;
let x2:=wk .u8 x1;
let x3:=bQ a1.length;
(b5 j4 NN (a1,x3,0,a0,a1,a2,[x2],())).bind λ(x4,x5,x6,x7,x8,x9,ac,ae,_)=>
let af:=bQ x8.length;
let ah:=wk .u8 af;
bif(ct 1 ae.length (List.length [ah]))then let ai:List (Int):=(List.append ae [ah]);
let aj:=bQ x8.length;
(b5 j3 NN (x8,aj,0,x8,x9,ac,ai,())).bind λ(ak,am,an,ap,aq,av,ax,ay,_)=>
some (ay,0,())else none
def mM:X.Cfg:=⟨E0,[eL,mr,jV],[],[(lx 8 0 [zaa 1,Zaa 5 13,sP 23 RI,Uaa 24,Uaa 25] [(4,uab),(13,yad)] 26),⟨17,1,qS [Zaa 5 13,sP 59 eM,Uaa 60,Uaa 61] [(4,uab),(13,yad)],[(.exit 2,qS [Zaa 5 13,sP 59 eM,Uaa 60,Uaa 61,Xaa 62] [(4,uab),(13,yad)])]⟩]⟩
def iT:Ctr:=⟨27,11,[.agg uab],[],[⟨uL [(uaa CB),I64],[.one,.one],[]⟩],ap3 iP⟩
theorem mL:Lk 6 iT:=ls mM (aC gj (aC rD (aC oy aN)))
def cJ:T0R->Option (T0R⊕((Bool×Unit)⊕T0X)):=λ(v0,v1,v2,v3,v4,v5,v6,v7,v8,v9,_)=>
bif(decide (v7<v6))then((match((cZ v7).bind λx0=>
(cd v8 x0).bind λx1=>
(cZ v7).bind λx2=>
(cd v0 x2).bind λx3=>
let x4:=w64 (x1+x3);
bif(decide (v2<=x4))then((cZ v7).bind λx5=>
(cd v8 x5).bind λx6=>
(cZ v1).bind λx7=>
(cd v0 x7).bind λx8=>
let x9:=w64 (v2+x8);
bif(decide (x6<=x9))then(some (.inl (false,())))else
some (.inr (v0,v1,v2,v3,v4,v5,v6,v7,false,v8,v9,())))else
some (.inr (v0,v1,v2,v3,v4,v5,v6,v7,false,v8,v9,())):Option ((Bool×Unit)⊕T0X))with
|none=>none
|some (.inl (x0,_))=>
some (.inr (.inl (x0,())))
|some (.inr (x0,x1,x2,x3,x4,x5,x6,x7,x8,x9,ac,_))=>
let ae:=w64 (x7+1);
some (.inl (x0,x1,x2,x3,x4,x5,x6,ae,x9,ac,()))))else
some (.inr (.inr (v0,v1,v2,v3,v4,v5,v6,v7,false,v8,v9,())))
def cI:T0v->Option (T0v⊕((Bool×Unit)⊕(LI×T0u))):=λ(v0,v1,v2,v3,v4)=>
bif(decide (v3<v2))then((cZ v3).bind λx0=>
(cd v1 x0).bind λx1=>
(bif(decide (x1<0))then(some (v0,v3,x1,v1,v2,v3,true,v4))else
bif(decide (x1>=512))then(some (v0,v3,x1,v1,v2,v3,true,v4))else
(cZ v3).bind λx2=>
(cd v0 x2).bind λx3=>
let x4:=w64 (x1+x3);
some (v0,v3,x1,v1,v2,v3,(decide (x4>512)),v4):Option (T0L)).bind λ(x2,x3,x4,x5,x6,x7,x8,x9)=>
bif x8 then(some (.inr (.inl (false,()))))else
(match b5 cJ NN (x2,x3,x4,x5,x6,x7,x3,0,x9)with
|none=>none
|some (.inl (ae,_))=>
some (.inr (.inl (ae,())))
|some (.inr (ae,af,ah,ai,aj,ak,am,an,ap,aq))=>
let ax:=w64 (ak+1);
some (.inl (ae,ai,aj,ax,aq))))else
some (.inr (.inr (v0,v1,v2,v3,false,v4)))
def fi(a0:List (Int))(a1:Int)(a2:List (Int)):Option (Bool×Unit):=
(fh a2).bind λ(x0,_)=>
bif(!x0)then(some (false,()))else
let x1:=bQ a0.length;
let x2:=bQ a2.length;
bif(x1 != x2)then(some (false,()))else
let x3:=bQ a0.length;
(match b5 cI NN (a2,a0,x3,0,a0,a1,())with
|none=>none
|some (.inl (x4,_))=>
some (x4,())
|some (.inr (x4,_))=>
some (true,()))
def oG:X.Cfg:=⟨E0,[gZ],[],[⟨12,0,qE,[(.normal,qS [sP 1 RI,zaa 2,Uaa 5,Uaa 6,sP 20 RI,Uaa 21,Uaa 22,Xaa 41] [(6,yab)])]⟩,⟨18,1,qE,[(.ret,qS [Xaa 4] []),(.normal,qS [sP 1 RI,zaa 2,Uaa 5,Uaa 6,sP 20 RI,Uaa 21,Uaa 22,Uaa 42,Uaa 43,Xaa 71] [(6,yab)])]⟩,⟨15,2,qS [sP 1 RI,zaa 2,Uaa 5,Uaa 6,sP 20 RI,Uaa 21,Uaa 22,Uaa 42,Uaa 43] [(6,yab)],[(.ret,qS [Xaa 4] []),(.exit 2,qS [sP 1 RI,zaa 2,Uaa 5,Uaa 6,sP 20 RI,Uaa 21,Uaa 22,Uaa 42,Uaa 43,Xaa 44] [(6,yab)])]⟩,⟨6,3,qS [sP 1 RI,zaa 2,sP 20 RI,Uaa 21,Uaa 22] [(6,yab)],[(.ret,qS [Xaa 4] []),(.exit 0,qS [sP 1 RI,zaa 2,sP 20 RI,Uaa 21,Uaa 22,Xaa 23] [(6,yab)])]⟩]⟩
def jT:Ctr:=⟨81,12,[.agg yab,shU RI],[],[⟨Xab,[.one],[]⟩],ap3 fi⟩
theorem ov:Lk 2 jT:=ls oG (aC jN aN)
def lF:T06->Option (T06⊕(Int×Int×Bool×LDLn×Unit)):=λ(v0,v1,v2,_)=>
bif(decide (v1<v0))then((cZ v1).bind λx0=>
(cd v2 x0).bind λx1=>
(cd v2 x0).bind λx2=>
let x3:=(List.modify v2 x0 λe=>((-1),e.2));
let x4:=w64 (v1+1);
some (.inl (v0,x4,x3,())))else
some (.inr (v0,v1,false,v2,()))
def gU:Option (LDLn×Unit):=
bif(kP 4 4 3)then let x0:LDLn:=(List.replicate 4 (0,(false,[])));
let x1:=bQ x0.length;
(b5 lF NN (x1,0,x0,())).bind λ(x2,x3,x4,x5,_)=>
some (x5,())else none
def oF:X.Cfg:=⟨E0,[],[(3,Er)],[(lx 4 0 [Zaa 1 5,Uaa 5,Uaa 6] [(5,uL [wM])] 7)]⟩
def jS:Ctr:=⟨82,13,[],[],[⟨uL [wM],[.one],[]⟩],λh=>gU⟩
theorem ou:Lk 1 jS:=ls oF aN
def df:LI×Int×Int×LDCe×Unit->Option ((LI×Int×Int×LDCe×Unit)⊕(LI×Int×Int×Bool×LDCe×Unit)):=λ(v0,v1,v2,v3,_)=>
bif(decide (v2<v1))then((cZ v2).bind λx0=>
(cd v0 x0).bind λx1=>
let x2:LDCe:=[(0,x1)];
bif(ct 4 v3.length x2.length)then let x3:LDCe:=(List.append v3 x2);
let x4:=w64 (v2+1);
some (.inl (v0,v1,x4,x3,()))else none)else
some (.inr (v0,v1,v2,false,v3,()))
def ff(a0:List (Int)):Option (LDCe×Unit):=
let x0:=bQ a0.length;
(b5 df NN (a0,x0,0,[],())).bind λ(x1,x2,x3,x4,x5,_)=>
some (x5,())
def oB:X.Cfg:=⟨E0,[],[],[(lx 4 0 [Zaa 3 9,sP 6 RW,Uaa 7,Uaa 8] [(9,uL [(uaa KCe)])] 9)]⟩
def jR:Ctr:=⟨83,14,uL [RW],[],[⟨uL [(uaa KCe)],[.one],[]⟩],ap1 ff⟩
theorem ot:Lk 1 jR:=ls oB aN
def fG:T15->Option (T15⊕((Int×Unit×Unit×Unit)⊕T17)):=λ(v0,v1,v2,v3,v4,v5,v6,v7,v8,v9,v10,v11,_)=>
bif(decide (v2<v1))then((match((cZ v2).bind λx0=>
(cd v0 x0).bind λx1=>
let x2:=bQ x1.length;
(cZ v2).bind λx3=>
(cd v4 x3).bind λx4=>
bif(decide (x2>x4))then(some (.inl (1,(),(),())))else
(cZ v2).bind λx5=>
(cd v6 x5).bind λx6=>
(cZ x6).bind λx7=>
bif(i3 x7 v10.length v10.length)then(ff x1).bind λ(x8,_)=>
bif(i3 x7 (Nat.add x7 (Nat.min x8.length (Nat.sub v10.length x7))) v10.length)then bif(Nat.blt 0 (Nat.min x8.length (Nat.sub v10.length x7)))then(let x9:LDCe:=(nk v10 x7 (Nat.min x8.length (Nat.sub v10.length x7)) x8);
let ac:=(bQ (Nat.min x8.length (Nat.sub v10.length x7)));
some (.inr (v0,v1,v2,v3,v4,v5,v6,v7,v8,v9,x9,v11,())))else
let x9:=(bQ (Nat.min x8.length (Nat.sub v10.length x7)));
some (.inr (v0,v1,v2,v3,v4,v5,v6,v7,v8,v9,v10,v11,()))else none else none:Option ((Int×Unit×Unit×Unit)⊕T15))with
|none=>none
|some (.inl (x0,x1,x2,_))=>
some (.inr (.inl (x0,x1,x2,())))
|some (.inr (x0,x1,x2,x3,x4,x5,x6,x7,x8,x9,ac,ae,_))=>
let af:=w64 (x2+1);
some (.inl (x0,x1,af,x3,x4,x5,x6,x7,x8,x9,ac,ae,()))))else
some (.inr (.inr (v0,v1,v2,false,v3,v4,v5,v6,v7,v8,v9,v10,v11,())))
def fO(a0:LDIn)(a1:List (Int))(a2:List LI)(a3:List (Int))(a4:Int):Option (LDCe×LDLn×Int×Unit):=
(fi a3 a4 a1).bind λ(x0,_)=>
bif(!x0)then(some ([],[],1,()))else
let x1:=bQ a2.length;
let x2:=bQ a1.length;
bif(x1 != x2)then(some ([],[],1,()))else
bif(kP 512 512 2)then let x3:LDCe:=(List.replicate 512 (0,0));
(gU).bind λ(x4,_)=>
let x5:=bQ a2.length;
(match b5 fG NN (a2,x5,0,a0,a1,a2,a3,a4,(),(),x3,x4,())with
|none=>none
|some (.inl (x6,x7,x8,_))=>
some ([],[],x6,())
|some (.inr (x6,x7,x8,x9,ac,ae,af,ah,ai,aj,ak,am,an,_))=>
some (am,an,0,()))else none
def qv:X.Cfg:=⟨E0,[jT,jS,jR],[],[⟨10,0,qE,[(.ret,qS [zaa 4,Uaa 5] [(10,yac)]),(.normal,qS [zaa 2,zaa 3,zaa 4,zaa 6,sP 28 (yaa RW),Uaa 29,Uaa 30] [(6,uab),(8,yab),(10,yac),(14,Zac)])]⟩,⟨7,1,qS [zaa 2,zaa 3,zaa 4,zaa 6,sP 28 (yaa RW),Uaa 29,Uaa 30] [(6,uab),(8,yab),(10,yac),(14,Zac)],[(.ret,qS [zaa 4,Uaa 5] [(10,yac)]),(.exit 0,qS [zaa 2,zaa 3,zaa 4,zaa 6,sP 28 (yaa RW),Uaa 29,Uaa 30,Xaa 31] [(6,uab),(8,yab),(10,yac),(14,Zac)])]⟩]⟩
def lm:Ctr:=⟨47,15,[.agg uab,.agg yab],[],[⟨zae,[.agg 2,.one],[]⟩],ap5 fO⟩
theorem qe:Lk 3 lm:=ls qv (aC ov (aC ou (aC ot aN)))
def dI(a0:List (Int)):Option (LI×Unit):=
bif(ct 8 0 a0.length)then let x0:List (Int):=(List.append [] a0);
some (x0,())else none
def k9:X.Cfg:=⟨E0,[],[],[]⟩
def gR:Ctr:=⟨84,16,uL [RI],[],[⟨uad,[.one],[]⟩],ap1 dI⟩
theorem kT:Lk 1 gR:=ls k9 aN
def fP(a0:List (Int))(a1:Int):Option (T04):=
(dI a0).bind λ(x0,_)=>
some (x0,a1,())
def qw:X.Cfg:=⟨E0,[gR],[],[]⟩
def ln:Ctr:=⟨48,17,[.agg yab],[],[⟨Zad,[.agg 2],[]⟩],ap2 fP⟩
theorem qf:Lk 2 ln:=ls qw (aC kT aN)
def jL:Option (T0E):=
bif(kP 8 8 2)then let x0:LDCe:=(List.replicate 8 (0,0));
some (0,x0,0,0,(-1),(-1),0,0,())else none
def oJ:X.Cfg:=⟨E0,[],[],[]⟩
def jW:Ctr:=⟨49,18,[],[],[⟨Uae,[.agg 8],[]⟩],λh=>jL⟩
theorem oz:Lk 1 jW:=ls oJ aN
def gE:T0W->Option (T0W⊕T0Z):=λ(v0,v1,v2,v3,v4,v5,v6,v7,v8,v9,v10,_)=>
bif(decide (v0<4))then((jL).bind λ(x0,x1,x2,x3,x4,x5,x6,x7,_)=>
let x8:LDTh:=[(x0,(x1,(x2,(x3,(x4,(x5,(x6,x7)))))))];
bif(ct 80 v10.length x8.length)then let x9:LDTh:=(List.append v10 x8);
let ac:=w64 (v0+1);
some (.inl (ac,v1,v2,v3,v4,v5,v6,v7,v8,v9,x9,()))else none)else
some (.inr (v0,false,v1,v2,v3,v4,v5,v6,v7,v8,v9,v10,()))
def dN(a0:LDIn)(a1:List (Int))(a2:List LI)(a3:List (Int))(a4:Int):Option (LI×Int×LDCe×LDLn×LDTh×Int×Unit):=
(dg a0 a1 a2).bind λ(x0,_)=>
bif(x0 != 0)then(some ([],0,[],[],[],x0,()))else
(fO a0 a1 a2 a3 a4).bind λ(x1,x2,x3,_)=>
bif(x3 != 0)then(some ([],0,[],[],[],x3,()))else
(fP a3 a4).bind λ(x4,x5,_)=>
(b5 gE NN (0,(),0,(),(),(),x4,x5,x1,x2,[],())).bind λ(x6,x7,x8,x9,ac,ae,af,ah,ai,aj,ak,am,_)=>
(cd am 0).bind λan=>
(cd am 0).bind λap=>
let aq:=List.modify am 0 λe=>(1,e.2);
some (ah,ai,aj,ak,aq,0,())
def nM:X.Cfg:=⟨E0,[eL,lm,ln,jW],[(35,D0),(36,D0)],[(lx 12 0 [zaa 4,zaa 9,Uaa 30] [(10,uae),(20,yae)] 31)]⟩
def gr:Ctr:=⟨17,19,[.agg uab,.agg yab],[],[⟨Xae,[.agg 5,.one],[]⟩],ap5 dN⟩
theorem jc:Lk 6 gr:=ls nM (aC gj (aC qe (aC qf (aC oz aN))))
def eC:Option (Bool×Unit):=
let x0:LDIn:=[(0,(0,(0,(0,0))))];
(iP x0 [1] [[]]).bind λ(x1,x2,_)=>
(dN x0 [1] [[]] [3] 0).bind λ(x3,x4,x5,x6,x7,x8,_)=>
bif(x2==0)then(bif(x8==0)then(let x9:ByteArray:=(wG x1);
bif(Ea x9 (bytes [1,1,0,1,0,0,0,0,0,0]))then(let ac:Int:=(bQ x7.length);
bif(ac==4)then((cd x7 0).bind λae=>
(cd x7 0).bind λaf=>
bif(af.1==1)then((cd x7 1).bind λah=>
(cd x7 1).bind λai=>
some ((ai.1==0),()))else
some (false,()))else
some (false,()))else
some (false,()))else
some (false,()))else
some (false,())
def qx:X.Cfg:=⟨E0,[iT,gr],[(9,(uaa CW))],[]⟩
def lp:Ctr:=⟨10,20,[],[],[⟨Xab,[.one],[]⟩],λh=>eC⟩
theorem qg:Lk 7 lp:=ls qx (aC mL (aC jc aN))
def eY(a0:Int)(a1:Int):Option (Int×Unit):=
bif(a1 != 0)then let x0:Int:=(Int.tmod a0 a1);
(bif(decide (x0<0))then(let x1:Int:=(w64 (x0+a1));
some (x1,()))else
some (x0,()):Option (Int×Unit)).bind λ(x1,_)=>
some (x1,())else none
def tK:X.Cfg:=⟨E0,[],[],[⟨2,0,qE,[(.normal,qS [Uaa 5] [])]⟩]⟩
def oa:Ctr:=⟨55,21,zad,[],[⟨Zab,[.one],[]⟩],ap2 eY⟩
theorem tE:Lk 1 oa:=ls tK aN
def kA(a0:Int)(a1:Int):Option (Int×Unit):=
(eY a0 a1).bind λ(x0,_)=>
some (x0,())
def AJ:X.Cfg:=⟨E0,[oa],[],[]⟩
def vf:Ctr:=⟨21,22,zad,[],[⟨Zab,[.one],[]⟩],ap2 kA⟩
theorem Ax:Lk 2 vf:=ls AJ (aC tE aN)
def bM(a0:Int)(a1:List (Int))(a2:Int):Option (T07):=
let x0:=bQ a1.length;
bif(decide (a2>=x0))then(some (0,a1,a2,()))else
let x1:=w64 (a2+1);
let x2:=w64 (x1-1);
(cZ x2).bind λx3=>
(cd a1 x3).bind λx4=>
(kA x4 a0).bind λ(x5,_)=>
some (x5,a1,x1,())
def tN:X.Cfg:=⟨E0,[vf],[],[]⟩
def dR:Ctr:=⟨36,23,[.ptr ⟨2,0,[]⟩ [0],shU I64],[(2,zab)],[⟨Zab,[.one],[(2,zab)]⟩],ap3 bM⟩
theorem d9:Lk 3 dR:=ls tN (aC Ax aN)
def iZ:T0e->Option (T0e⊕(Int×Bool×T0a)):=λ(v0,v1,v2,v3,_)=>
bif(decide (v0>0))then(let x0:List (Int):=[6,12,32];
(bM 3 v1 v2).bind λ(x1,x2,x3,_)=>
(cZ x1).bind λx4=>
(cd x0 x4).bind λx5=>
(cd x0 x4).bind λx6=>
(bM x6 x2 x3).bind λ(x7,x8,x9,_)=>
let ac:=w64 (1+x7);
bif(ct 8 v3.length (List.length [ac]))then let ae:List (Int):=(List.append v3 [ac]);
let af:=w64 (v0-1);
some (.inl (af,x8,x9,ae,()))else none)else
some (.inr (v0,false,v1,v2,v3,()))
def gH(a0:List (Int))(a1:Int):Option (LI×T04):=
(bM 9 a0 a1).bind λ(x0,x1,x2,_)=>
let x3:=w64 (4+x0);
(bM 4 x1 x2).bind λ(x4,x5,x6,_)=>
(b5 iZ NN (x4,x5,x6,[x3],())).bind λ(x7,x8,x9,ac,ae,_)=>
some (ae,x9,ac,())
def r8:X.Cfg:=⟨E0,[dR],[],[(lx 4 0 [zaa 0,Zaa 3 9,Uaa 4] [(2,zab),(9,uad)] 12)]⟩
def mD:Ctr:=⟨38,24,[.ptr ⟨2,0,[]⟩ [0]],[(2,zab)],[⟨uad,[.one],[(2,zab)]⟩],ap2 gH⟩
theorem rN:Lk 4 mD:=ls r8 (aC d9 aN)
def d8(a0:List (Int))(a1:Int):Option (T07):=
(bM 5 a0 a1).bind λ(x0,x1)=>
(bif(x0==0)then(some (x0,true,x1))else
bif(x0==1)then(some (x0,true,x1))else
some (x0,(x0==2),x1):Option (T0c)).bind λ(x3,x4,x5,x6,_)=>
bif x4 then((bM 8 x5 x6).bind λ(x7,x8,x9,_)=>
let ac:=wk .u16 x7;
some (ac,x8,x9,()))else
bif(x3==3)then((bM 3 x5 x6).bind λ(x7,x8,x9,_)=>
let ac:=w64 (65535-x7);
let ae:=wk .u16 ac;
some (ae,x8,x9,()))else
(bM 65536 x5 x6).bind λ(x7,x8,x9,_)=>
let ac:=wk .u16 x7;
some (ac,x8,x9,())
def tM:X.Cfg:=⟨E0,[dR],[],[⟨3,0,qE,[(.normal,qS [zaa 0,Uaa 4,Xaa 5] [(2,zab)])]⟩]⟩
def iI:Ctr:=⟨74,25,[.ptr ⟨2,0,[]⟩ [0]],[(2,zab)],[⟨uL [CW],[.one],[(2,zab)]⟩],ap2 d8⟩
theorem j9:Lk 4 iI:=ls tM (aC d9 aN)
def iY:T0e->Option (T0e⊕(Int×Bool×T0a)):=λ(v0,v1,v2,v3,_)=>
bif(decide (v0>0))then((d8 v1 v2).bind λ(x0,x1,x2,_)=>
bif(ct 2 v3.length (List.length [x0]))then let x3:List (Int):=(List.append v3 [x0]);
let x4:=w64 (v0-1);
some (.inl (x4,x1,x2,x3,()))else none)else
some (.inr (v0,false,v1,v2,v3,()))
def gG(a0:Int)(a1:List (Int))(a2:Int):Option (LI×T04):=
let x0:=w64 (a0+1);
(bM x0 a1 a2).bind λ(x1,x2,x3,_)=>
(b5 iY NN (x1,x2,x3,[],())).bind λ(x4,x5,x6,x7,x8,_)=>
some (x8,x6,x7,())
def r7:X.Cfg:=⟨E0,[dR,iI],[],[(lx 4 0 [zaa 0,Zaa 5 13,Uaa 6] [(2,zab),(13,uL [(uaa CW)])] 12)]⟩
def mC:Ctr:=⟨39,26,[.ptr ⟨2,0,[]⟩ [0],shU I64],[(2,zab)],[⟨uL [(uaa CW)],[.one],[(2,zab)]⟩],ap3 gG⟩
theorem rM:Lk 5 mC:=ls r7 (aC d9 (aC j9 aN))
def dO(a0:Int)(a1:Int):Option (T0l):=
some (1,a0,0,0,a1,())
def CK:X.Cfg:=⟨E0,[],[],[]⟩
def ua:Ctr:=⟨41,27,zad,[],[⟨Uab,[.agg 5],[]⟩],ap2 dO⟩
theorem yz:Lk 1 ua:=ls CK aN
def dx(a0:Int):Option (T0l):=
some (23,0,0,0,a0,())
def AH:X.Cfg:=⟨E0,[],[],[]⟩
def qP:Ctr:=⟨42,28,Zab,[],[⟨Uab,[.agg 5],[]⟩],ap1 dx⟩
theorem uO:Lk 1 qP:=ls AH aN
def fN(a0:Int)(a1:Int):Option (T0l):=
some (2,a0,a1,0,0,())
def AI:X.Cfg:=⟨E0,[],[],[]⟩
def ve:Ctr:=⟨77,29,zad,[],[⟨Uab,[.agg 5],[]⟩],ap2 fN⟩
theorem Aw:Lk 1 ve:=ls AI aN
def dL(a0:Int):Option (T0b):=
(bif(a0==1)then(some (a0,true,false,false,false,false,()))else
bif(a0==15)then(some (a0,true,false,false,false,false,()))else
bif(a0==19)then(some (a0,true,false,false,false,false,()))else
bif(a0==20)then(some (a0,true,false,false,false,false,()))else
some (a0,(a0==21),false,false,false,false,()):Option (Int×Bool×T0b)).bind λ(x0,x1,_)=>
bif x1 then(some (true,false,false,true,()))else
bif(x0==2)then(some (true,true,false,false,()))else
bif(x0==16)then(some (true,true,false,true,()))else
bif(x0==17)then(some (true,true,false,true,()))else
bif(x0==18)then(some (false,false,false,true,()))else
bif(x0==23)then(some (false,false,false,true,()))else
bif(x0==22)then(some (true,false,false,false,()))else
bif(x0==0)then(some (false,false,false,false,()))else
bif(x0==24)then(some (false,false,false,false,()))else
some (true,true,true,false,())
def rT:X.Cfg:=⟨E0,[],[],[⟨3,0,qE,[(.normal,qS [zaa 2,Uaa 3,Xaa 4] [(6,uac)])]⟩]⟩
def jj:Ctr:=⟨73,30,Zab,[],[⟨uac,[.agg 4],[]⟩],ap1 dL⟩
theorem mh:Lk 1 jj:=ls rT aN
def cV(a0:Int):Option (Bool×Unit):=
bif(a0==18)then(some (true,()))else
bif(a0==19)then(some (true,()))else
bif(a0==20)then(some (true,()))else
some ((a0==21),())
def rU:X.Cfg:=⟨E0,[],[],[]⟩
def fC:Ctr:=⟨43,31,Zab,[],[⟨Xab,[.one],[]⟩],ap1 cV⟩
theorem gN:Lk 1 fC:=ls rU aN
def gI(a0:Int)(a1:Int)(a2:List (Int))(a3:Int):Option (Int×T0r):=
(bM 25 a2 a3).bind λ(x0,x1,x2,_)=>
(dL x0).bind λ(x3,x4)=>
(bif x3 then((bM 8 x1 x2).bind λ(x7,x8,x9,_)=>
some (a0,a1,x8,x9,0,0,0,0,0,x0,x7,0,0,0,x3,x4))else
some (a0,a1,x1,x2,0,0,0,0,0,x0,0,0,0,0,x3,x4):Option (T1a)).bind λ(x7,x8,x9,ac,ae,af,ah,ai,aj,ak,am,an,ap,aq,av,ax,ay)=>
(bif ax then((bM 8 x9 ac).bind λ(aA,aB,aD,_)=>
some (x7,x8,aB,aD,ae,af,ah,ai,aj,ak,am,aA,ap,aq,av,ax,ay))else
some (x7,x8,x9,ac,ae,af,ah,ai,aj,ak,am,an,ap,aq,av,ax,ay):Option (T1a)).bind λ(aA,aB,aD,aE,aF,aG,aH,aI,aJ,aK,aL,aM,aO,aP,aQ,aR,aS,aT,_)=>
(bif aS then((bM 8 aD aE).bind λ(aU,aV,aW,_)=>
some (aA,aB,aV,aW,aF,aG,aH,aI,aJ,aK,aL,aM,aU,aP,aQ,aR,aS,aT,()))else
some (aA,aB,aD,aE,aF,aG,aH,aI,aJ,aK,aL,aM,aO,aP,aQ,aR,aS,aT,()):Option (T1a)).bind λ(aU,aV,aW,aY,aZ,ba,bc,bd,be,bf,bg,bh,bi,bj,bk,bm,bn,bo,_)=>
((cV bf).bind λ(bp,_)=>
bif bp then((bM aV aW aY).bind λ(bq,bt,bv,_)=>
some (bt,bv,aZ,ba,bc,bd,be,bf,bg,bh,bi,bq,()))else
bif(bf==15)then((bM aU aW aY).bind λ(bq,bt,bv,_)=>
some (bt,bv,aZ,ba,bc,bd,be,bf,bg,bh,bi,bq,()))else
bif(bf==23)then((bM 16 aW aY).bind λ(bq,bt,bv,_)=>
some (bt,bv,aZ,ba,bc,bd,be,bf,bg,bh,bi,bq,()))else
bif bo then((d8 aW aY).bind λ(bq,bt,bv,_)=>
let bA:=wk .i64 bq;
some (bt,bv,aZ,ba,bc,bd,be,bf,bg,bh,bi,bA,()))else
some (aW,aY,aZ,ba,bc,bd,be,bf,bg,bh,bi,bj,()):Option (LI×Int×Int×Int×Int×Int×T0q)).bind λ(bp,bq,bt,bv,bA,bB,bC,bD,bE,bF,bG,bH,_)=>
some (bD,bE,bF,bG,bH,bp,bq,())
def r9:X.Cfg:=⟨E0,[dR,jj,fC,iI],[],[⟨3,0,qE,[(.normal,qS [zaa 0,Uaa 1,Uaa 2,zaa 6,zaa 7,zaa 8] [(2,zab),(14,Uab),(16,Uab),(18,uac)])]⟩,⟨5,1,qE,[(.normal,qS [zaa 0,Uaa 1,Uaa 2,zaa 6,zaa 7,zaa 8] [(2,zab),(14,Uab),(16,Uab),(18,uac)])]⟩,⟨7,2,qE,[(.normal,qS [zaa 0,Uaa 1,Uaa 2,zaa 6,zaa 7,zaa 8] [(2,zab),(14,Uab),(16,Uab),(18,uac)])]⟩,⟨9,3,qE,[(.normal,qS [zaa 0,zaa 6,zaa 7] [(2,zab),(14,Uab),(16,Uab)])]⟩]⟩
def mE:Ctr:=⟨35,32,[.ptr ⟨2,0,[]⟩ [0],shU I64,shU I64],[(2,zab)],[⟨Uab,[.agg 5],[(2,zab)]⟩],ap4 gI⟩
theorem rO:Lk 5 mE:=ls r9 (aC d9 (aC mh (aC gN (aC j9 aN))))
def iw(a0:List (Int))(a1:Int)(a2:Int)(a3:List (Int))(a4:Int):Option (LDIn×T04):=
let x0:=bQ a0.length;
(bM x0 a3 a4).bind λ(x1,x2,x3,_)=>
(cZ x1).bind λx4=>
(cd a0 x4).bind λx5=>
let x6:=w64 (x5+1);
let x7:=mmR false 5 x6;
(bM x7 x2 x3).bind λ(x8,x9,ac,_)=>
(dO 2 x8).bind λ(ae,af,ah,ai,aj,_)=>
let ak:LDIn:=[(15,(1,(0,(0,x1)))),(ae,(af,(ah,(ai,aj))))];
(bM 20 x9 ac).bind λ(am,an,ap,_)=>
bif(am==0)then((bM 3 an ap).bind λ(aq,av,ax,_)=>
let ay:=w64 (3+aq);
(d8 av ax).bind λ(az,aA,aB,_)=>
let aD:=wk .i64 az;
(dO ay aD).bind λ(aE,aF,aG,aH,aI,_)=>
let aJ:LDIn:=[(aE,(aF,(aG,(aH,aI))))];
some (aJ,aA,aB,()))else
bif(am==1)then(let aq:List (Int):=[3,4,5,10,13,14,11,9];
(bM 8 an ap).bind λ(av,ax,ay,_)=>
(cZ av).bind λaz=>
(cd aq az).bind λaA=>
(cd aq az).bind λaB=>
(bM 3 ax ay).bind λ(aD,aE,aF,_)=>
let aG:=w64 (3+aD);
(bM 3 aE aF).bind λ(aH,aI,aJ,_)=>
let aK:=w64 (3+aH);
(bM 3 aI aJ).bind λ(aL,aM,aO,_)=>
let aP:=w64 (3+aL);
let aQ:LDIn:=[(aB,(aG,(aK,(aP,0))))];
some (aQ,aM,aO,()))else
bif(am==2)then(let aq:LDIn:=[(15,(6,(0,(0,x1))))];
some (aq,an,ap,()))else
bif(am==3)then((bM 5 an ap).bind λ(aq,av,ax,_)=>
let ay:=w64 (3+aq);
(cZ x1).bind λaz=>
(cd a0 az).bind λaA=>
(bM aA av ax).bind λ(aB,aD,aE,_)=>
let aF:LDIn:=[(15,(6,(0,(0,x1)))),(17,(6,(ay,(0,aB))))];
some (aF,aD,aE,()))else
bif(am==4)then((bM 5 an ap).bind λ(aq,av,ax,_)=>
let ay:=w64 (3+aq);
(cZ x1).bind λaz=>
(cd a0 az).bind λaA=>
(bM aA av ax).bind λ(aB,aD,aE,_)=>
let aF:LDIn:=[(15,(6,(0,(0,x1)))),(17,(6,(ay,(0,aB))))];
some (aF,aD,aE,()))else
bif(am==5)then((bM 4 an ap).bind λ(aq,av,ax,_)=>
let ay:=w64 (3+aq);
(cZ x1).bind λaz=>
(cd a0 az).bind λaA=>
(bM aA av ax).bind λ(aB,aD,aE,_)=>
let aF:LDIn:=[(15,(6,(0,(0,x1)))),(16,(ay,(6,(0,aB))))];
some (aF,aD,aE,()))else
bif(am==6)then((bM 4 an ap).bind λ(aq,av,ax,_)=>
let ay:=w64 (3+aq);
(cZ x1).bind λaz=>
(cd a0 az).bind λaA=>
(bM aA av ax).bind λ(aB,aD,aE,_)=>
let aF:LDIn:=[(15,(6,(0,(0,x1)))),(16,(ay,(6,(0,aB))))];
some (aF,aD,aE,()))else
bif(am==7)then((bM 3 an ap).bind λ(aq,av,ax,_)=>
(dO 0 aq).bind λ(ay,az,aA,aB,aD,_)=>
let aE:LDIn:=[(ay,(az,(aA,(aB,aD))))];
bif(ct 40 aE.length ak.length)then let aF:LDIn:=(List.append aE ak);
(dx 13).bind λ(aG,aH,aI,aJ,aK,_)=>
let aL:LDIn:=[(aG,(aH,(aI,(aJ,aK))))];
bif(ct 40 aF.length aL.length)then let aM:LDIn:=(List.append aF aL);
some (aM,av,ax,())else none else none)else
bif(am==8)then((bM 3 an ap).bind λ(aq,av,ax,_)=>
(dO 0 aq).bind λ(ay,az,aA,aB,aD,_)=>
let aE:LDIn:=[(ay,(az,(aA,(aB,aD))))];
bif(ct 40 aE.length ak.length)then let aF:LDIn:=(List.append aE ak);
(dx 13).bind λ(aG,aH,aI,aJ,aK,_)=>
let aL:LDIn:=[(aG,(aH,(aI,(aJ,aK))))];
bif(ct 40 aF.length aL.length)then let aM:LDIn:=(List.append aF aL);
some (aM,av,ax,())else none else none)else
bif(am==9)then((bM 3 an ap).bind λ(aq,av,ax,_)=>
(dO 0 aq).bind λ(ay,az,aA,aB,aD,_)=>
let aE:LDIn:=[(ay,(az,(aA,(aB,aD))))];
bif(ct 40 aE.length ak.length)then let aF:LDIn:=(List.append aE ak);
(dx 14).bind λ(aG,aH,aI,aJ,aK,_)=>
(fN 3 0).bind λ(aL,aM,aO,aP,aQ,_)=>
let aR:LDIn:=[(aG,(aH,(aI,(aJ,aK)))),(aL,(aM,(aO,(aP,aQ))))];
bif(ct 40 aF.length aR.length)then let aS:LDIn:=(List.append aF aR);
some (aS,av,ax,())else none else none)else
bif(am==10)then((bM 3 an ap).bind λ(aq,av,ax,_)=>
(dO 0 aq).bind λ(ay,az,aA,aB,aD,_)=>
(bM 4 av ax).bind λ(aE,aF,aG,_)=>
(dO 1 aE).bind λ(aH,aI,aJ,aK,aL,_)=>
(dx 3).bind λ(aM,aO,aP,aQ,aR,_)=>
(fN 7 0).bind λ(aS,aT,aU,aV,aW,_)=>
let aY:LDIn:=[(ay,(az,(aA,(aB,aD)))),(aH,(aI,(aJ,(aK,aL)))),(aM,(aO,(aP,(aQ,aR)))),(aS,(aT,(aU,(aV,aW))))];
some (aY,aF,aG,()))else
bif(am==11)then((fN 0 7).bind λ(aq,av,ax,ay,az,_)=>
let aA:LDIn:=[(aq,(av,(ax,(ay,az))))];
bif(ct 40 aA.length ak.length)then let aB:LDIn:=(List.append aA ak);
let aD:List (Int):=[1,2];
(bM 2 an ap).bind λ(aE,aF,aG,_)=>
(cZ aE).bind λaH=>
(cd aD aH).bind λaI=>
(cd aD aH).bind λaJ=>
(dx aJ).bind λ(aK,aL,aM,aO,aP,_)=>
let aQ:LDIn:=[(aK,(aL,(aM,(aO,aP))))];
bif(ct 40 aB.length aQ.length)then let aR:LDIn:=(List.append aB aQ);
some (aR,aF,aG,())else none else none)else
bif(am==12)then((fN 0 7).bind λ(aq,av,ax,ay,az,_)=>
(dx 4).bind λ(aA,aB,aD,aE,aF,_)=>
let aG:LDIn:=[(aq,(av,(ax,(ay,az)))),(aA,(aB,(aD,(aE,aF))))];
(fN 0 7).bind λ(aH,aI,aJ,aK,aL,_)=>
(bM 4 an ap).bind λ(aM,aO,aP,_)=>
(dO 1 aM).bind λ(aQ,aR,aS,aT,aU,_)=>
(dx 5).bind λ(aV,aW,aY,aZ,ba,_)=>
let bc:LDIn:=[(aH,(aI,(aJ,(aK,aL)))),(aQ,(aR,(aS,(aT,aU)))),(aV,(aW,(aY,(aZ,ba))))];
let bd:List LDIn:=[aG,bc];
(bM 2 aO aP).bind λ(be,bf)=>
(cZ be).bind λbh=>
(cd bd bh).bind λbi=>
(cd bd bh).bind λbj=>
(cd bd bh).bind λbk=>
some (bk,bf))else
bif(am==13)then(let aq:List (Int):=[6,7,15];
(bM 3 an ap).bind λ(av,ax,ay,_)=>
(cZ av).bind λaz=>
(cd aq az).bind λaA=>
(cd aq az).bind λaB=>
(dx aB).bind λ(aD,aE,aF,aG,aH,_)=>
(bM 3 ax ay).bind λ(aI,aJ,aK,_)=>
let aL:=w64 (3+aI);
(fN aL 0).bind λ(aM,aO,aP,aQ,aR,_)=>
let aS:LDIn:=[(aD,(aE,(aF,(aG,aH)))),(aM,(aO,(aP,(aQ,aR))))];
some (aS,aJ,aK,()))else
bif(am==14)then((bM 3 an ap).bind λ(aq,av,ax,_)=>
(dO 0 aq).bind λ(ay,az,aA,aB,aD,_)=>
let aE:List (Int):=[8,9];
(bM 2 av ax).bind λ(aF,aG,aH,_)=>
(cZ aF).bind λaI=>
(cd aE aI).bind λaJ=>
(cd aE aI).bind λaK=>
(dx aK).bind λ(aL,aM,aO,aP,aQ,_)=>
let aR:LDIn:=[(ay,(az,(aA,(aB,aD)))),(aL,(aM,(aO,(aP,aQ))))];
some (aR,aG,aH,()))else
bif(am==15)then((bM 3 an ap).bind λ(aq,av,ax,_)=>
(dO 0 aq).bind λ(ay,az,aA,aB,aD,_)=>
let aE:List (Int):=[8,9];
(bM 2 av ax).bind λ(aF,aG,aH,_)=>
(cZ aF).bind λaI=>
(cd aE aI).bind λaJ=>
(cd aE aI).bind λaK=>
(dx aK).bind λ(aL,aM,aO,aP,aQ,_)=>
let aR:LDIn:=[(ay,(az,(aA,(aB,aD)))),(aL,(aM,(aO,(aP,aQ))))];
some (aR,aG,aH,()))else
bif(am==16)then((bM a1 an ap).bind λ(aq,av,ax,_)=>
(dO 0 aq).bind λ(ay,az,aA,aB,aD,_)=>
(fN 1 3).bind λ(aE,aF,aG,aH,aI,_)=>
(dx 10).bind λ(aJ,aK,aL,aM,aO,_)=>
let aP:LDIn:=[(ay,(az,(aA,(aB,aD)))),(aE,(aF,(aG,(aH,aI)))),(aJ,(aK,(aL,(aM,aO))))];
some (aP,av,ax,()))else
bif(am==17)then(let aq:List (Int):=[a1,5];
(bM 2 an ap).bind λ(av,ax,ay,_)=>
(cZ av).bind λaz=>
(cd aq az).bind λaA=>
(cd aq az).bind λaB=>
(bM aB ax ay).bind λ(aD,aE,aF,_)=>
(dO 0 aD).bind λ(aG,aH,aI,aJ,aK,_)=>
let aL:List (Int):=[12,11];
(bM 2 aE aF).bind λ(aM,aO,aP,_)=>
(cZ aM).bind λaQ=>
(cd aL aQ).bind λaR=>
(cd aL aQ).bind λaS=>
(dx aS).bind λ(aT,aU,aV,aW,aY,_)=>
let aZ:LDIn:=[(aG,(aH,(aI,(aJ,aK)))),(aT,(aU,(aV,(aW,aY))))];
some (aZ,aO,aP,()))else
bif(am==18)then((bM 4 an ap).bind λ(aq,av,ax,_)=>
let ay:=w64 (1+aq);
(dO 5 ay).bind λ(az,aA,aB,aD,aE,_)=>
(dO 4 1).bind λ(aF,aG,aH,aI,aJ,_)=>
let aK:=w64 (a2+2);
let aL:LDIn:=[(az,(aA,(aB,(aD,aE)))),(aF,(aG,(aH,(aI,aJ)))),(4,(5,(5,(4,0)))),(20,(5,(0,(0,aK))))];
some (aL,av,ax,()))else
let aq:=bQ a0.length;
(gI aq a1 an ap).bind λ(av,ax,ay,az,aA,aB,aD,_)=>
let aE:LDIn:=[(av,(ax,(ay,(az,aA))))];
some (aE,aB,aD,())
def tL:X.Cfg:=⟨E0,[dR,ua,iI,qP,ve,mE],[(156,(uaa KIn))],[]⟩
def oc:Ctr:=⟨40,33,[.ptr ⟨2,0,[]⟩ [0],shU RI,shU I64,shU I64],[(2,zab)],[⟨uL [eM],[.one],[(2,zab)]⟩],ap5 iw⟩
theorem tF:Lk 6 oc:=ls tL (aC d9 (aC yz (aC j9 (aC uO (aC Aw (aC rO aN))))))
def g8:T0P->Option (T0P⊕(Int×Int×Bool×T0H)):=λ(v0,v1,v2,v3,v4,v5,v6,v7,v8,v9,_)=>
bif(decide (v1<v0))then((cZ v1).bind λx0=>
(cd v8 x0).bind λx1=>
(cd v8 x0).bind λx2=>
(gG x2 v2 v3).bind λ(x3,x4,x5,_)=>
bif(ct 24 v9.length (List.length [x3]))then let x6:List LI:=(List.append v9 [x3]);
let x7:=w64 (v1+1);
some (.inl (v0,x7,x4,x5,v4,v5,v6,v7,v8,x6,()))else none)else
some (.inr (v0,v1,false,v2,v3,v4,v5,v6,v7,v8,v9,()))
def g7:T0J->Option (T0J⊕T0M):=λ(v0,v1,v2,v3,v4,v5,v6,v7,v8,_)=>
bif(decide (v0>0))then((let x0:Int:=(bQ v6.length);
let x1:=w64 (x0+1);
let x2:=bQ v6.length;
(iw v7 x1 x2 v1 v2).bind λ(x3,x4,x5,_)=>
let x6:=bQ v6.length;
let x7:=bQ x3.length;
let x8:=w64 (x6+x7);
bif(decide (x8<=62))then(bif(ct 40 v6.length x3.length)then let x9:LDIn:=(List.append v6 x3);
some (v0,x4,x5,v3,v4,v5,x9,v7,v8,())else none)else
some (v0,x4,x5,v3,v4,v5,v6,v7,v8,()):Option (T0J)).bind λ(x0,x1,x2,x3,x4,x5,x6,x7,x8,_)=>
let x9:=w64 (x0-1);
some (.inl (x9,x1,x2,x3,x4,x5,x6,x7,x8,())))else
some (.inr (v0,false,v1,v2,v3,v4,v5,v6,v7,v8,()))
def dh:T0O->Option (T0O⊕(Int×T0M)):=λ(v0,v1,v2,v3,v4,v5,v6,v7,v8)=>
bif(decide (v1<v0))then(((cZ v1).bind λx0=>
(cd v7 x0).bind λx1=>
(cV x1.1).bind λ(x2,_)=>
bif x2 then((cZ v1).bind λx3=>
(cd v7 x3).bind λx4=>
let x5:=bQ v7.length;
bif(decide (x4.2.2.2.2>=x5))then((cZ v1).bind λx6=>
(cd v7 x6).bind λx7=>
none)else
some (v0,v1,v2,v3,v4,v5,v6,v7,v8))else
some (v0,v1,v2,v3,v4,v5,v6,v7,v8):Option (T0O)).bind λ(x0,x1,x2,x3,x4,x5,x6,x7,x8)=>
let ac:=w64 (x1+1);
some (.inl (x0,ac,x2,x3,x4,x5,x6,x7,x8)))else
some (.inr (v0,v1,false,v2,v3,v4,v5,v6,v7,v8))
def fj(a0:List (Int))(a1:Int):Option (LDIn×LI×LLI×T04):=
(gH a0 a1).bind λ(x0,x1,x2,_)=>
let x3:=bQ x0.length;
(b5 g8 NN (x3,0,x1,x2,(),(),(),(),x0,[],())).bind λ(x4,x5,x6,x7,x8,x9,ac,ae,af,ah)=>
(bM 12 x7 x8).bind λ(aj,ak,am,_)=>
let an:=w64 (1+aj);
(b5 g7 NN (an,ak,am,x9,ac,ae,[],ah)).bind λ(ap,aq,av,ax,ay,az,aA,aB,aD)=>
((bM 4 av ax).bind λ(aF,aG,aH,_)=>
bif(aF==0)then(let aI:Int:=(bQ aB.length);
let aJ:=w64 (aI+1);
(bM aJ aG aH).bind λ(aK,aL,aM,_)=>
let aO:LDIn:=[(18,(0,(0,(0,aK))))];
bif(ct 40 aB.length aO.length)then let aP:LDIn:=(List.append aB aO);
some (aL,aM,ay,az,aA,aP,aD)else none)else
bif(aF==1)then(let aI:LDIn:=[(24,(0,(0,(0,0))))];
bif(ct 40 aB.length aI.length)then let aJ:LDIn:=(List.append aB aI);
some (aG,aH,ay,az,aA,aJ,aD)else none)else
some (aG,aH,ay,az,aA,aB,aD):Option (T0G)).bind λ(aF,aG,aH,aI,aJ,aK,aL,aM,_)=>
(bM 9 aF aG).bind λ(aO,aP,aQ,_)=>
(dO 0 aO).bind λ(aR,aS,aT,aU,aV,_)=>
(dx 0).bind λ(aW,aY,aZ,ba,bc,_)=>
let bd:LDIn:=[(aR,(aS,(aT,(aU,aV)))),(aW,(aY,(aZ,(ba,bc))))];
bif(ct 40 aK.length bd.length)then let be:LDIn:=(List.append aK bd);
let bf:=bQ be.length;
bif(decide (bf>64))then(bif(i3 0 64 be.length)then let bg:LDIn:=(o4 be 0 (Nat.sub 64 0));
let bh:=bQ bg.length;
(b5 dh NN (bh,0,aP,aQ,aH,aI,aJ,bg,aL,aM,())).bind λ(bi,bj,bk,bm,bn,bo,bp,bq,bt,bv,bA,_)=>
some (bt,bv,bA,bm,bn,())else none)else
let bg:=bQ be.length;
(b5 dh NN (bg,0,aP,aQ,aH,aI,aJ,be,aL,aM,())).bind λ(bh,bi,bj,bk,bm,bn,bo,bp,bq,bt,bv,_)=>
some (bq,bt,bv,bk,bm,())else none
def oK:X.Cfg:=⟨E0,[mD,mC,dR,oc,ua,qP,fC],[(24,(uaa CW)),(25,(uaa CW))],[(lx 4 0 [zaa 0,zaa 2,zaa 3,(13,.pk ⟨8,1,[]⟩ [0,0]),Uaa 14,Uaa 15] [(2,zab),(6,zac),(8,uL [N1,(uaa I64),(uaa (uaa CW))])] 16),⟨14,1,qE,[(.normal,qS [zaa 0,zaa 2,zaa 3,Uaa 6] [(2,zab),(6,zac),(8,Uad)])]⟩,⟨11,2,qS [zaa 0,zaa 2,zaa 3,Uaa 6] [(2,zab),(6,zac),(8,Uad)],[(.exit 2,qS [zaa 0,zaa 2,zaa 3,Uaa 6,Xaa 32] [(2,zab),(6,zac),(8,Uad)])]⟩,⟨17,3,qE,[(.normal,qS [zaa 0,zaa 2,zaa 3] [(2,zab),(6,zac),(8,Uad)])]⟩,⟨29,4,qE,[(.normal,qS [zaa 0,zaa 2,zaa 3,Uaa 101,Uaa 102] [(2,zab),(6,zac),(8,Xad)])]⟩,⟨26,5,qS [zaa 0,zaa 2,zaa 3,Uaa 101,Uaa 102] [(2,zab),(6,zac),(8,Xad)],[(.exit 5,qS [zaa 0,zaa 2,zaa 3,Uaa 101,Uaa 102,Xaa 103] [(2,zab),(6,zac),(8,Xad)])]⟩]⟩
def jX:Ctr:=⟨12,34,[.ptr ⟨2,0,[]⟩ [0]],[(2,zab)],[⟨Xad,[.agg 3],[(2,zab)]⟩],ap2 fj⟩
theorem oA:Lk 7 jX:=ls oK (aC rN (aC rM (aC d9 (aC tF (aC yz (aC uO (aC gN aN)))))))
def fF:T0i->Option (T0i⊕((Bool×Unit)⊕(LI×LI×Int×Int×Bool×Unit))):=λ(v0,v1,v2,v3,_)=>
bif(decide (v3<v2))then((cZ v3).bind λx0=>
(cd v1 x0).bind λx1=>
bif(decide (x1<1))then(some (.inr (.inl (false,()))))else
bif(decide (x1>32))then(some (.inr (.inl (false,()))))else
let x2:=w64 (v3+1);
some (.inl (v0,v1,v2,x2,())))else
some (.inr (.inr (v0,v1,v2,v3,false,())))
def cW(a0:List (Int)):Option (Bool×Unit):=
let x0:=bQ a0.length;
(match b5 fF NN (a0,a0,x0,0,())with
|none=>none
|some (.inl (x1,_))=>
some (x1,())
|some (.inr (x1,_))=>
let x6:=bQ x1.length;
bif(decide (x6>=1))then(let x7:Int:=(bQ x1.length);
some ((decide (x7<=4)),()))else
some (false,()))
def qu:X.Cfg:=⟨E0,[],[],[⟨3,0,qS [sP 0 RI,sP 5 RI,Uaa 6,Uaa 7] [],[(.ret,qS [Xaa 2] []),(.exit 0,qS [sP 0 RI,sP 5 RI,Uaa 6,Uaa 7,Xaa 8] [])]⟩]⟩
def fU:Ctr:=⟨45,35,uL [RI],[],[⟨Xab,[.one],[]⟩],ap1 cW⟩
theorem iA:Lk 1 fU:=ls qu aN
def iX:T0Q->Option (T0Q⊕(LI×Int×Int×Int×Int×Int×Bool×T0j)):=λ(v0,v1,v2,v3,v4,v5,v6,v7,v8,v9,_)=>
bif(decide (v5<v4))then(let x0:Int:=(w64 (v5+v1));
bif(v2 != 0)then let x1:Int:=(Int.tmod x0 v2);
(cZ x1).bind λx2=>
(cd v8 x2).bind λx3=>
(cd v8 x2).bind λx4=>
let x5:=List.modify v8 x2 λe=>v3;
(cZ x1).bind λx6=>
(cd v0 x6).bind λx7=>
let x8:=w64 (x7+1);
let x9:=w64 (50*v2);
bif(x9 != 0)then let ac:Int:=(w64 (Int.tdiv v1 x9));
let ae:=Int.tmod ac 40;
let af:=w64 (x8+ae);
let ah:=w64 (v3+af);
let ai:=w64 (v5+1);
some (.inl (v0,v1,v2,ah,v4,ai,v6,v7,x5,v9,()))else none else none)else
some (.inr (v0,v1,v2,v3,v4,v5,false,v6,v7,v8,v9,()))
def gD(a0:List (Int))(a1:Int):Option (T09):=
((cW a0).bind λ(x0,_)=>
bif(!x0)then(some (a0,a1,true,(),0,()))else
bif(decide (a1<0))then(some (a0,a1,true,(),0,()))else
some (a0,a1,(decide (a1>1073741824)),(),0,()):Option (LI×Int×Bool×Unit×Int×Unit)).bind λ(x0,x1,x2,x3,x4,_)=>
bif x2 then(some ([],0,1,()))else
let x5:=bQ x0.length;
(cZ x5).bind λx6=>
(cZ x5).bind λx7=>
bif(kP x6 x7 1)then let x8:List (Int):=(List.replicate x6 0);
let x9:=w64 (40503*x1);
let ac:=wk .u16 x9;
bif(x5 != 0)then let ae:Int:=(w64 (Int.tdiv x1 x5));
let af:=Int.tmod ae 50;
let ah:=w64 (1+af);
(b5 iX NN (x0,x1,x5,ah,x5,0,x3,x4,x8,ac,())).bind λ(ai,aj,ak,am,an,ap,aq,av,ax,ay,az,_)=>
some (ay,az,0,())else none else none
def rY:X.Cfg:=⟨E0,[fU],[],[⟨2,0,qE,[(.normal,(qS [sP 0 RI,Uaa 1,zaa 4,Xaa 21] [(10,uL [N1,CW])]))]⟩,(lx 9 1 [sP 0 RI,Uaa 1,zaa 4,Uaa 6,zaa 7,Uaa 8,Uaa 36,Uaa 37] [(10,uL [N1,CW]),(16,Zad)] 38)]⟩
def mz:Ctr:=⟨20,36,zab,[],[⟨uL [(uaa I64),CW,I64],[.agg 2,.one],[]⟩],ap2 gD⟩
theorem rJ:Lk 2 mz:=ls rY (aC iA aN)
def fS(a0:List (Int))(a1:List (Int))(a2:Int):Option (T0h):=
(bM 1048576 a1 a2).bind λ(x0,x1)=>
(gD a0 x0).bind λ(x3,x4,x5,_)=>
some (x3,x4,x1)
def qB:X.Cfg:=⟨E0,[dR,mz],[],[]⟩
def lr:Ctr:=⟨13,37,[.ptr ⟨2,0,[]⟩ [0],shU RI],[(2,zab)],[⟨Zad,[.agg 2],[(2,zab)]⟩],ap3 fS⟩
theorem qi:Lk 4 lr:=ls qB (aC d9 (aC rJ aN))
def mA:Ctr:=⟨14,38,[.agg uab,shU I64,shU I64,shU I64],[],[⟨uab,[.agg 3],[]⟩],ap6 dP⟩
theorem rK:Lvl E0 TT libB 1 mA:=(Cy (Dm rfl) oq).mono (by decide)
def cC:T11->Option (T11⊕((Bool×Unit)⊕T16)):=λ(v0,v1,v2,v3,v4,v5,v6,v7,v8,v9,v10,v11,_)=>
bif(decide (v1<v0))then((cZ v1).bind λx0=>
(cd v11 x0).bind λx1=>
(cd v11 x0).bind λx2=>
(bif(decide (x2<0))then(some (v0,v1,true,v2,v3,v4,v5,v6,v7,v8,v9,v10,v11,()))else
bif(decide (x2>=8))then(some (v0,v1,true,v2,v3,v4,v5,v6,v7,v8,v9,v10,v11,()))else
(cZ v1).bind λx3=>
bif(Nat.beq x3 0)then(bif(!v7)then(some (v0,v1,(x2 != 0),v2,v3,v4,v5,v6,v7,v8,v9,v10,v11,()))else
some (v0,v1,false,v2,v3,v4,v5,v6,v7,v8,v9,v10,v11,()))else
bif(Nat.beq x3 1)then(bif(!v8)then(some (v0,v1,(x2 != 0),v2,v3,v4,v5,v6,v7,v8,v9,v10,v11,()))else
some (v0,v1,false,v2,v3,v4,v5,v6,v7,v8,v9,v10,v11,()))else
bif(Nat.beq x3 2)then(bif(!v9)then(some (v0,v1,(x2 != 0),v2,v3,v4,v5,v6,v7,v8,v9,v10,v11,()))else
some (v0,v1,false,v2,v3,v4,v5,v6,v7,v8,v9,v10,v11,()))else
bif(Nat.beq x3 3)then bif(!v10)then(some (v0,v1,(x2 != 0),v2,v3,v4,v5,v6,v7,v8,v9,v10,v11,()))else
some (v0,v1,false,v2,v3,v4,v5,v6,v7,v8,v9,v10,v11,())else none:Option (T16)).bind λ(x3,x4,x5,x6)=>
bif x5 then(some (.inr (.inl (false,()))))else
let ak:=w64 (x4+1);
some (.inl (x3,ak,x6)))else
some (.inr (.inr (v0,v1,false,v2,v3,v4,v5,v6,v7,v8,v9,v10,v11,())))
def fM(a0:Int)(a1:Int)(a2:Int)(a3:Int)(a4:Int):Option (Bool×Unit):=
bif(decide (a0<0))then(some (false,()))else
bif(decide (a0>24))then(some (false,()))else
(dL a0).bind λ(x0,x1,x2,x3,_)=>
let x4:List (Int):=[a1,a2,a3];
let x5:=bQ x4.length;
(match b5 cC NN (x5,0,a0,a1,a2,a3,a4,x0,x1,x2,x3,x4,())with
|none=>none
|some (.inl (x6,_))=>
some (x6,())
|some (.inr (x6,x7,x8,x9,ac,ae,af,ah,ai,aj,ak,am,an,_))=>
(bif(decide (ah<0))then(some (true,x9,ac,ae,af,ah,()))else
bif(decide (ah>65535))then(some (true,x9,ac,ae,af,ah,()))else
bif(!am)then(some ((ah != 0),x9,ac,ae,af,ah,()))else
some (false,x9,ac,ae,af,ah,()):Option (Bool×T0l)).bind λ(ap,aq,av,ax,ay,az,_)=>
bif ap then(some (false,()))else
(cV aq).bind λ(aA,_)=>
bif aA then(some ((decide (az<64)),()))else
bif(aq==15)then(some ((decide (az<4)),()))else
bif(aq==23)then(some ((decide (az<=15)),()))else
some (true,()))
def qq:X.Cfg:=⟨E0,[jj,fC],[],[⟨12,0,qE,[(.normal,qS [zaa 1,zaa 3,Zaa 23 49,Uaa 24,Uaa 25,Xaa 45] [(4,Uab),(8,uac),(49,uad)])]⟩,⟨7,1,qS [zaa 1,zaa 3,Zaa 23 49,Uaa 24,Uaa 25] [(4,Uab),(8,uac),(49,uad)],[(.ret,qS [Xaa 2] []),(.exit 0,qS [zaa 1,zaa 3,Zaa 23 49,Uaa 24,Uaa 25,Xaa 26] [(4,Uab),(8,uac),(49,uad)])]⟩,⟨15,2,qE,[(.normal,qS [zaa 1,Xaa 64] [(4,Uab)])]⟩]⟩
def lj:Ctr:=⟨46,39,[.agg Uab],[],[⟨Xab,[.one],[]⟩],ap5 fM⟩
theorem qc:Lk 2 lj:=ls qq (aC mh (aC gN aN))
def cB:T0w->Option (T0w⊕((Int×Unit)⊕T0D)):=λ(v0,v1,v2,v3,v4,v5,_)=>
bif(decide (v2<v1))then((cZ v2).bind λx0=>
(cd v0 x0).bind λx1=>
let x2:=bQ x1.length;
(cZ v2).bind λx3=>
(cd v4 x3).bind λx4=>
bif(decide (x2>x4))then(some (.inr (.inl (1,()))))else
let x5:=w64 (v2+1);
some (.inl (v0,v1,x5,v3,v4,v5,())))else
some (.inr (.inr (v0,v1,v2,false,v3,v4,v5,())))
def cR:T0t->Option (T0t⊕((Int×Unit)⊕T0A)):=λ(v0,v1,v2,v3)=>
bif(decide (v2<v1))then((cZ v2).bind λx0=>
(cd v0 x0).bind λx1=>
(fM x1.1 x1.2.1 x1.2.2.1 x1.2.2.2.1 x1.2.2.2.2).bind λ(x2,_)=>
bif(!x2)then(some (.inr (.inl (5,()))))else
let x3:=w64 (v2+1);
some (.inl (v0,v1,x3,v3)))else
some (.inr (.inr (v0,v1,v2,false,v3)))
def cQ:T0t->Option (T0t⊕((Int×Unit)⊕T0A)):=λ(v0,v1,v2,v3,v4,v5,_)=>
bif(decide (v2<v1))then((cZ v2).bind λx0=>
(cd v0 x0).bind λx1=>
((cV x1.1).bind λ(x2,_)=>
bif x2 then(let x3:Int:=(bQ v3.length);
bif(decide (x1.2.2.2.2>=x3))then(some (v0,v1,v2,true,v3,v4,v5,()))else
bif(x1.1==15)then(let x4:Int:=(bQ v4.length);
some (v0,v1,v2,(decide (x1.2.2.2.2>=x4)),v3,v4,v5,()))else
some (v0,v1,v2,false,v3,v4,v5,()))else
bif(x1.1==15)then(let x3:Int:=(bQ v4.length);
some (v0,v1,v2,(decide (x1.2.2.2.2>=x3)),v3,v4,v5,()))else
some (v0,v1,v2,false,v3,v4,v5,()):Option (T0A)).bind λ(x2,x3,x4,x5,x6)=>
bif x5 then(some (.inr (.inl (6,()))))else
let x9:=w64 (x4+1);
some (.inl (x2,x3,x9,x6)))else
some (.inr (.inr (v0,v1,v2,false,v3,v4,v5,())))
def eq(a0:LDIn)(a1:List (Int))(a2:List LI):Option (Int×Unit):=
(cW a1).bind λ(x0,_)=>
bif(!x0)then(some (1,()))else
let x1:=bQ a2.length;
let x2:=bQ a1.length;
bif(x1 != x2)then(some (1,()))else
let x3:=bQ a2.length;
(match b5 cB NN (a2,x3,0,a0,a1,a2,())with
|none=>none
|some (.inl (x4,_))=>
some (x4,())
|some (.inr (x4,x5,x6,x7,x8,x9))=>
let ae:=bQ x8.length;
bif(decide (ae<1))then(some (3,()))else
let af:=bQ x8.length;
bif(decide (af>64))then(some (3,()))else
let ah:=bQ x8.length;
(match b5 cR NN (x8,ah,0,x8,x9)with
|none=>none
|some (.inl (ai,_))=>
some (ai,())
|some (.inr (ai,aj,ak,am,an,ap))=>
let av:=bQ an.length;
(match b5 cQ NN (an,av,0,an,ap)with
|none=>none
|some (.inl (ax,_))=>
some (ax,())
|some (.inr (ax,_))=>
some (0,()))))
def qp:X.Cfg:=⟨E0,[fU,lj,fC],[],[⟨6,0,qS [zaa 1,sP 23 (yaa RW),Uaa 24,Uaa 25] [(4,uab)],[(.ret,qS [Uaa 2] []),(.exit 0,qS [zaa 1,sP 23 (yaa RW),Uaa 24,Uaa 25,Xaa 26] [(4,uab)])]⟩,⟨18,1,qS [zaa 1,sP 50 eM,Uaa 51,Uaa 52] [(4,uab)],[(.ret,qS [Uaa 2] []),(.exit 2,qS [zaa 1,sP 50 eM,Uaa 51,Uaa 52,Xaa 53] [(4,uab)])]⟩,⟨32,2,qE,[(.normal,qS [zaa 1,sP 61 eM,Uaa 62,Uaa 63,Xaa 90] [(4,uab)])]⟩,⟨27,3,qS [zaa 1,sP 61 eM,Uaa 62,Uaa 63] [(4,uab)],[(.ret,qS [Uaa 2] []),(.exit 4,qS [zaa 1,sP 61 eM,Uaa 62,Uaa 63,Xaa 64] [(4,uab)])]⟩]⟩
def iE:Ctr:=⟨16,40,[.agg uab],[],[⟨Zab,[.one],[]⟩],ap3 eq⟩
theorem kU:Lk 3 iE:=ls qp (aC iA (aC qc (aC gN aN)))
def cT:T0Y->Option (T0Y⊕((Bool×Unit)⊕T13)):=λ(v0,v1,v2,v3,v4,v5,v6,v7,v8,v9)=>
bif(decide (v8<v7))then((match((cZ v8).bind λx0=>
(cd v6 x0).bind λx1=>
(cZ v1).bind λx2=>
(cd v0 x2).bind λx3=>
let x4:=w64 (v2+x3);
bif(decide (x4>=x1))then((cZ v8).bind λx5=>
(cd v0 x5).bind λx6=>
let x7:=w64 (x1+x6);
bif(decide (x7>=v2))then(some (.inl (false,())))else
some (.inr (v0,v1,v2,v3,v4,v5,v6,v7,v8,false,v9)))else
some (.inr (v0,v1,v2,v3,v4,v5,v6,v7,v8,false,v9)):Option ((Bool×Unit)⊕T13))with
|none=>none
|some (.inl (x0,_))=>
some (.inr (.inl (x0,())))
|some (.inr (x0,x1,x2,x3,x4,x5,x6,x7,x8,x9,ac))=>
let af:=w64 (x8+1);
some (.inl (x0,x1,x2,x3,x4,x5,x6,x7,af,ac))))else
some (.inr (.inr (v0,v1,v2,v3,v4,v5,v6,v7,v8,false,v9)))
def cS:T0v->Option (T0v⊕((Bool×Unit)⊕(LI×T0u))):=λ(v0,v1,v2,v3,v4,v5,_)=>
bif(decide (v3<v2))then((cZ v3).bind λx0=>
(cd v1 x0).bind λx1=>
bif(decide (x1<0))then(some (.inr (.inl (false,()))))else
(cZ v3).bind λx2=>
(cd v0 x2).bind λx3=>
let x4:=w64 (512-x3);
bif(decide (x1>x4))then(some (.inr (.inl (false,()))))else
(cZ v3).bind λx5=>
bif(i3 0 x5 v4.length)then let x6:List (Int):=(o4 v4 0 (Nat.sub x5 0));
let x7:=bQ x6.length;
(match b5 cT NN (v0,v3,x1,v1,v2,v3,x6,x7,0,v4,v5,())with
|none=>none
|some (.inl (x8,_))=>
some (.inr (.inl (x8,())))
|some (.inr (x8,x9,ac,ae,af,ah,ai,aj,ak,am,an))=>
let aq:=w64 (ah+1);
some (.inl (x8,ae,af,aq,an)))else none)else
some (.inr (.inr (v0,v1,v2,v3,false,v4,v5,())))
def ew(a0:List (Int))(a1:Int)(a2:List (Int)):Option (Bool×Unit):=
(cW a2).bind λ(x0,_)=>
bif(!x0)then(some (false,()))else
let x1:=bQ a0.length;
let x2:=bQ a2.length;
bif(x1 != x2)then(some (false,()))else
let x3:=bQ a0.length;
(match b5 cS NN (a2,a0,x3,0,a0,a1,())with
|none=>none
|some (.inl (x4,_))=>
some (x4,())
|some (.inr (x4,_))=>
some (true,()))
def qt:X.Cfg:=⟨E0,[fU],[],[⟨18,0,qE,[(.ret,qS [Xaa 4] []),(.normal,qS [sP 1 RI,zaa 2,Uaa 5,Uaa 6,sP 21 RI,Uaa 22,Uaa 23,sP 42 RI,Uaa 43,Uaa 44,Xaa 66] [(6,yab)])]⟩,⟨15,1,qS [sP 1 RI,zaa 2,Uaa 5,Uaa 6,sP 21 RI,Uaa 22,Uaa 23,sP 42 RI,Uaa 43,Uaa 44] [(6,yab)],[(.ret,qS [Xaa 4] []),(.exit 2,qS [sP 1 RI,zaa 2,Uaa 5,Uaa 6,sP 21 RI,Uaa 22,Uaa 23,sP 42 RI,Uaa 43,Uaa 44,Xaa 45] [(6,yab)])]⟩,⟨6,2,qS [sP 1 RI,zaa 2,sP 21 RI,Uaa 22,Uaa 23] [(6,yab)],[(.ret,qS [Xaa 4] []),(.exit 0,qS [sP 1 RI,zaa 2,sP 21 RI,Uaa 22,Uaa 23,Xaa 24] [(6,yab)])]⟩]⟩
def iF:Ctr:=⟨50,41,[.agg yab,shU RI],[],[⟨Xab,[.one],[]⟩],ap3 ew⟩
theorem kV:Lk 2 iF:=ls qt (aC iA aN)
def mH:T06->Option (T06⊕(Int×Int×Bool×LDLn×Unit)):=λ(v0,v1,v2,_)=>
bif(decide (v1<v0))then((cZ v1).bind λx0=>
(cd v2 x0).bind λx1=>
(cd v2 x0).bind λx2=>
let x3:=(List.modify v2 x0 λe=>((-1),e.2));
let x4:=w64 (v1+1);
some (.inl (v0,x4,x3,())))else
some (.inr (v0,v1,false,v2,()))
def iu:Option (LDLn×Unit):=
bif(kP 4 4 3)then let x0:LDLn:=(List.replicate 4 (0,(false,[])));
let x1:=bQ x0.length;
(b5 mH NN (x1,0,x0,())).bind λ(x2,x3,x4,x5,_)=>
some (x5,())else none
def qr:X.Cfg:=⟨E0,[],[(3,Er)],[(lx 4 0 [Zaa 1 5,Uaa 5,Uaa 6] [(5,uL [wM])] 7)]⟩
def lk:Ctr:=⟨85,42,[],[],[⟨uL [wM],[.one],[]⟩],λh=>iu⟩
theorem qd:Lk 1 lk:=ls qr aN
def dM:T19->Option (T19⊕(Int×LLI×Int×Int×LI×T10)):=λ(v0,v1,v2,v3,v4,v5,v6,v7,v8,v9,v10,v11,v12,v13,v14,v15,_)=>
bif(decide (v6<v5))then((cZ v6).bind λx0=>
(cd v4 x0).bind λx1=>
(cZ v0).bind λx2=>
(cd v10 x2).bind λx3=>
let x4:=w64 (x3+v6);
(cZ x4).bind λx5=>
(cd v14 x5).bind λx6=>
(cd v14 x5).bind λx7=>
let x8:=List.modify v14 x5 λe=>(e.1,x1);
let x9:=w64 (v6+1);
some (.inl (v0,v1,v2,v3,v4,v5,x9,v7,v8,v9,v10,v11,v12,v13,x8,v15,())))else
some (.inr (v0,v1,v2,v3,v4,v5,v6,false,v7,v8,v9,v10,v11,v12,v13,v14,v15,()))
def gd:T15->Option (T15⊕((Int×Unit×Unit×Unit)⊕T17)):=λ(v0,v1,v2,v3,v4,v5)=>
bif(decide (v2<v1))then((cZ v2).bind λx0=>
(cd v0 x0).bind λx1=>
let x2:=bQ x1.length;
(cZ v2).bind λx3=>
(cd v4 x3).bind λx4=>
bif(decide (x2>x4))then(some (.inr (.inl (1,(),(),()))))else
let x5:=bQ x1.length;
(b5 dM NN (v2,v0,v1,v2,x1,x5,0,v3,v4,v5)).bind λ(x6,x7,x8,x9,ac,ae,af,ah,ai)=>
let ay:=w64 (x9+1);
some (.inl (x7,x8,ay,ai)))else
some (.inr (.inr (v0,v1,v2,false,v3,v4,v5)))
def gA(a0:LDIn)(a1:List (Int))(a2:List LI)(a3:List (Int))(a4:Int):Option (LDCe×LDLn×Int×Unit):=
(ew a3 a4 a1).bind λ(x0,_)=>
bif(!x0)then(some ([],[],1,()))else
let x1:=bQ a2.length;
let x2:=bQ a1.length;
bif(x1 != x2)then(some ([],[],1,()))else
bif(kP 512 512 2)then let x3:LDCe:=(List.replicate 512 (0,0));
(iu).bind λ(x4,_)=>
let x5:=bQ a2.length;
(match b5 gd NN (a2,x5,0,a0,a1,a2,a3,a4,(),(),x3,x4,())with
|none=>none
|some (.inl (x6,x7,x8,_))=>
some ([],[],x6,())
|some (.inr (x6,x7,x8,x9,ac,ae,af,ah,ai,aj,ak,am,an,_))=>
some (am,an,0,()))else none
def rW:X.Cfg:=⟨E0,[iF,lk],[],[⟨16,0,qS [zaa 2,zaa 3,zaa 4,zaa 6,Uaa 7,sP 30 (yaa RW),Uaa 31,Uaa 32,sP 46 RW,Uaa 47,Uaa 48] [(6,uab),(8,yab),(10,yac),(14,Zac)],[(.exit 2,qS [zaa 2,zaa 3,zaa 4,zaa 6,Uaa 7,sP 30 (yaa RW),Uaa 31,Uaa 32,sP 46 RW,Uaa 47,Uaa 48,Xaa 49] [(6,uab),(8,yab),(10,yac),(14,Zac)])]⟩,⟨7,1,qS [zaa 2,zaa 3,zaa 4,zaa 6,sP 30 (yaa RW),Uaa 31,Uaa 32] [(6,uab),(8,yab),(10,yac),(14,Zac)],[(.ret,qS [zaa 4,Uaa 5] [(10,yac)]),(.exit 0,qS [zaa 2,zaa 3,zaa 4,zaa 6,sP 30 (yaa RW),Uaa 31,Uaa 32,Xaa 33] [(6,uab),(8,yab),(10,yac),(14,Zac)])]⟩]⟩
def mw:Ctr:=⟨51,43,[.agg uab,.agg yab],[],[⟨zae,[.agg 2,.one],[]⟩],ap5 gA⟩
theorem rH:Lk 3 mw:=ls rW (aC kV (aC qd aN))
def iO:T0W->Option (T0W⊕T0Z):=λ(v0,v1,v2,v3,v4,v5,v6,v7,v8,v9,v10,_)=>
bif(decide (v0<4))then(bif(kP 8 8 2)then let x0:LDCe:=(List.replicate 8 (0,0));
(bif(v0==0)then(some (v0,v1,v2,v3,v4,v5,v6,v7,v8,v9,v10,1,x0,0,0,(-1),(-1),0,0,()))else
some (v0,v1,v2,v3,v4,v5,v6,v7,v8,v9,v10,0,x0,0,0,(-1),(-1),0,0,()):Option (Int×Unit×Int×Unit×Unit×Unit×LI×Int×LDCe×LDLn×LDTh×T0E)).bind λ(x1,x2,x3,x4,x5,x6,x7,x8,x9,ac,ae,af,ah,ai,aj,ak,am,an,ap,_)=>
let aq:LDTh:=[(af,(ah,(ai,(aj,(ak,(am,(an,ap)))))))];
bif(ct 80 ae.length aq.length)then let av:LDTh:=(List.append ae aq);
let ax:=w64 (x1+1);
some (.inl (ax,x2,x3,x4,x5,x6,x7,x8,x9,ac,av,()))else none else none)else
some (.inr (v0,false,v1,v2,v3,v4,v5,v6,v7,v8,v9,v10,()))
def fL(a0:LDIn)(a1:List (Int))(a2:List LI)(a3:List (Int))(a4:Int):Option (LI×Int×LDCe×LDLn×LDTh×Int×Unit):=
(eq a0 a1 a2).bind λ(x0,_)=>
bif(x0 != 0)then(some ([],0,[],[],[],x0,()))else
(ew a3 a4 a1).bind λ(x1,_)=>
bif(!x1)then(some ([],0,[],[],[],1,()))else
(gA a0 a1 a2 a3 a4).bind λ(x2,x3,x4,_)=>
bif(ct 8 0 a3.length)then let x5:List (Int):=(List.append [] a3);
(b5 iO NN (0,(),0,(),(),(),x5,a4,x2,x3,[],())).bind λ(x6,x7,x8,x9,ac,ae,af,ah,ai,aj,ak,am,_)=>
some (ah,ai,aj,ak,am,0,())else none
def qo:X.Cfg:=⟨E0,[iE,iF,mw],[(49,D0),(50,D0)],[⟨18,0,qE,[(.normal,qS [zaa 4,zaa 9,zaa 11,Uaa 38] [(10,uae),(20,yae),(24,Uae)])]⟩,(lx 12 1 [zaa 4,zaa 9,Uaa 38] [(10,uae),(20,yae)] 39)]⟩
def li:Ctr:=⟨18,44,[.agg uab,.agg yab],[],[⟨Xae,[.agg 5,.one],[]⟩],ap5 fL⟩
theorem qb:Lk 4 li:=ls qo (aC kU (aC kV (aC rH aN)))
def eA:Int×Int×T0h->Option ((Int×Int×T0h)⊕((Bool×Unit)⊕(Int×Int×Bool×T0h))):=λ(v0,v1,v2,v3,v4,v5,_)=>
bif(decide (v1<v0))then((cZ v1).bind λx0=>
(cd v2 x0).bind λx1=>
(cZ v1).bind λx2=>
(cd v4 x2).bind λx3=>
bif(x1 != x3)then(some (.inr (.inl (false,()))))else
let x4:=w64 (v1+1);
some (.inl (v0,x4,v2,v3,v4,v5,())))else
some (.inr (.inr (v0,v1,false,v2,v3,v4,v5,())))
def gB(a0:List (Int))(a1:Int)(a2:List (Int))(a3:Int):Option (Bool×Unit):=
bif(a1 != a3)then(some (false,()))else
let x0:=bQ a0.length;
let x1:=bQ a2.length;
bif(x0 != x1)then(some (false,()))else
let x2:=bQ a0.length;
(match b5 eA NN (x2,0,a0,a1,a2,a3,())with
|none=>none
|some (.inl (x3,_))=>
some (x3,())
|some (.inr (x3,_))=>
some (true,()))
def rX:X.Cfg:=⟨E0,[],[],[⟨6,0,qS [zaa 2,zaa 3,Uaa 22,Uaa 23] [(6,yab),(8,yab)],[(.ret,qS [Xaa 4] []),(.exit 0,qS [zaa 2,zaa 3,Uaa 22,Uaa 23,Xaa 24] [(6,yab),(8,yab)])]⟩]⟩
def my:Ctr:=⟨52,45,[.agg yab,.agg yab],[],[⟨Xab,[.one],[]⟩],ap4 gB⟩
theorem rI:Lk 1 my:=ls rX aN
def eB:LDCe×LDCe×T01->Option ((LDCe×LDCe×T01)⊕((Bool×Unit)⊕(LDCe×LDCe×Int×Int×Bool×Unit))):=λ(v0,v1,v2,v3,_)=>
bif(decide (v3<v2))then((cZ v3).bind λx0=>
(cd v0 x0).bind λx1=>
(cZ v3).bind λx2=>
(cd v1 x2).bind λx3=>
bif(!((x1.1==x3.1)&&((x1.2==x3.2)&&true)))then(some (.inr (.inl (false,()))))else
let x4:=w64 (v3+1);
some (.inl (v0,v1,v2,x4,())))else
some (.inr (.inr (v0,v1,v2,v3,false,())))
def ef(a0:LDCe)(a1:LDCe):Option (Bool×Unit):=
let x0:=bQ a0.length;
let x1:=bQ a1.length;
bif(x0 != x1)then(some (false,()))else
let x2:=bQ a0.length;
(match b5 eB NN (a0,a1,x2,0,())with
|none=>none
|some (.inl (x3,_))=>
some (x3,())
|some (.inr (x3,_))=>
some (true,()))
def rZ:X.Cfg:=⟨E0,[],[],[⟨6,0,qS [sP 0 ly,sP 1 ly,Uaa 12,Uaa 13] [],[(.ret,qS [Xaa 4] []),(.exit 0,qS [sP 0 ly,sP 1 ly,Uaa 12,Uaa 13,Xaa 14] [])]⟩]⟩
def jk:Ctr:=⟨86,46,uL [ly,ly],[],[⟨Xab,[.one],[]⟩],ap2 ef⟩
theorem mi:Lk 1 jk:=ls rZ aN
def eu:Int×Int×T0f->Option ((Int×Int×T0f)⊕((Bool×Unit)⊕T0x)):=λ(v0,v1,v2,v3,v4,v5,_)=>
bif(decide (v1<v0))then((cZ v1).bind λx0=>
(cd v3 x0).bind λx1=>
(cZ v1).bind λx2=>
(cd v5 x2).bind λx3=>
(bif(x1.1 != x3.1)then(some (v0,v1,true,v2,v3,v4,v5,()))else
bif(!(x1.2.1==x3.2.1))then(some (v0,v1,true,v2,v3,v4,v5,()))else
(ef x1.2.2 x3.2.2).bind λ(x4,_)=>
some (v0,v1,(!x4),v2,v3,v4,v5,()):Option (T0x)).bind λ(x4,x5,x6,x7)=>
bif x6 then(some (.inr (.inl (false,()))))else
let ae:=w64 (x5+1);
some (.inl (x4,ae,x7)))else
some (.inr (.inr (v0,v1,false,v2,v3,v4,v5,())))
def gz(a0:LDCe)(a1:LDLn)(a2:LDCe)(a3:LDLn):Option (Bool×Unit):=
(ef a0 a2).bind λ(x0,_)=>
bif(!x0)then(some (false,()))else
let x1:=bQ a1.length;
let x2:=bQ a3.length;
bif(x1 != x2)then(some (false,()))else
let x3:=bQ a1.length;
(match b5 eu NN (x3,0,a0,a1,a2,a3,())with
|none=>none
|some (.inl (x4,_))=>
some (x4,())
|some (.inr (x4,_))=>
some (true,()))
def rV:X.Cfg:=⟨E0,[jk],[],[⟨12,0,qE,[(.normal,qS [zaa 2,zaa 3,Uaa 25,Uaa 26,Xaa 58] [(6,Uac),(8,Uac)])]⟩,⟨6,1,qS [zaa 2,zaa 3,Uaa 25,Uaa 26] [(6,Uac),(8,Uac)],[(.ret,qS [Xaa 4] []),(.exit 0,qS [zaa 2,zaa 3,Uaa 25,Uaa 26,Xaa 27] [(6,Uac),(8,Uac)])]⟩]⟩
def mu:Ctr:=⟨53,47,[.agg Uac,.agg Uac],[],[⟨Xab,[.one],[]⟩],ap4 gz⟩
theorem rG:Lk 2 mu:=ls rV (aC mi aN)
def gy(a0:Int)(a1:LDCe)(a2:Int)(a3:Int)(a4:Int)(a5:Int)(a6:Int)(a7:Int)(a8:Int)(a9:LDCe)(a10:Int)(a11:Int)(a12:Int)(a13:Int)(a14:Int)(a15:Int):Option (Bool×Unit):=
bif(a0==a8)then(bif(a2==a10)then(bif(a3==a11)then(bif(a4==a12)then(bif(a5==a13)then(bif(a6==a14)then(bif(a7==a15)then((ef a1 a9).bind λ(x0,_)=>
some (x0,()))else
some (false,()))else
some (false,()))else
some (false,()))else
some (false,()))else
some (false,()))else
some (false,()))else
some (false,())
def rS:X.Cfg:=⟨E0,[jk],[],[]⟩
def mt:Ctr:=⟨54,48,[.agg Zae,.agg Zae],[],[⟨Xab,[.one],[]⟩],ap16 gy⟩
theorem rF:Lk 2 mt:=ls rS (aC mi aN)
def eo:T12->Option (T12⊕((Bool×Unit)⊕(Int×Int×T0U))):=λ(v0,v1,v2,v3,v4,v5,v6,v7,v8,v9,v10,v11,_)=>
bif(decide (v1<v0))then((cZ v1).bind λx0=>
(cd v6 x0).bind λx1=>
(cZ v1).bind λx2=>
(cd v11 x2).bind λx3=>
(gy x1.1 x1.2.1 x1.2.2.1 x1.2.2.2.1 x1.2.2.2.2.1 x1.2.2.2.2.2.1 x1.2.2.2.2.2.2.1 x1.2.2.2.2.2.2.2 x3.1 x3.2.1 x3.2.2.1 x3.2.2.2.1 x3.2.2.2.2.1 x3.2.2.2.2.2.1 x3.2.2.2.2.2.2.1 x3.2.2.2.2.2.2.2).bind λ(x4,_)=>
bif(!x4)then(some (.inr (.inl (false,()))))else
let x5:=w64 (v1+1);
some (.inl (v0,x5,v2,v3,v4,v5,v6,v7,v8,v9,v10,v11,())))else
some (.inr (.inr (v0,v1,false,v2,v3,v4,v5,v6,v7,v8,v9,v10,v11,())))
def gx(a0:List (Int))(a1:Int)(a2:LDCe)(a3:LDLn)(a4:LDTh)(a5:List (Int))(a6:Int)(a7:LDCe)(a8:LDLn)(a9:LDTh):Option (Bool×Unit):=
((gB a0 a1 a5 a6).bind λ(x0,_)=>
bif(!x0)then(some (true,a0,a1,a2,a3,a4,a5,a6,a7,a8,a9,()))else
(gz a2 a3 a7 a8).bind λ(x1,_)=>
bif(!x1)then(some (true,a0,a1,a2,a3,a4,a5,a6,a7,a8,a9,()))else
let x2:=bQ a4.length;
let x3:=bQ a9.length;
some ((x2 != x3),a0,a1,a2,a3,a4,a5,a6,a7,a8,a9,()):Option (T0U)).bind λ(x0,x1,x2,x3,x4,x5,x6)=>
bif x0 then(some (false,()))else
let ae:=bQ x5.length;
(match b5 eo NN (ae,0,x1,x2,x3,x4,x5,x6)with
|none=>none
|some (.inl (af,_))=>
some (af,())
|some (.inr (af,_))=>
some (true,()))
def rR:X.Cfg:=⟨E0,[my,mu,mt],[],[⟨2,0,qE,[(.normal,qS [zaa 2,zaa 3,Xaa 28] [(6,Xac),(8,Xac)])]⟩,⟨6,1,qS [zaa 2,zaa 3,Uaa 31,Uaa 32] [(6,Xac),(8,Xac)],[(.ret,qS [Xaa 4] []),(.exit 0,qS [zaa 2,zaa 3,Uaa 31,Uaa 32,Xaa 33] [(6,Xac),(8,Xac)])]⟩]⟩
def ms:Ctr:=⟨19,49,[.agg Xac,.agg Xac],[],[⟨Xab,[.one],[]⟩],ap10 gx⟩
theorem rE:Lk 3 ms:=ls rR (aC rI (aC rG (aC rF aN)))
def cA:T18->Option (T18⊕((Bool×Unit)⊕(Int×Int×Int×Int×Bool×T14))):=λ(v0,v1,v2,v3,v4,v5,v6,v7,v8,v9,v10,v11,v12,_)=>
bif(decide (v3<v2))then((cZ v3).bind λx0=>
(cd v12 x0).bind λx1=>
(cd v12 x0).bind λx2=>
(dN v8 v9 v10 x2.1 x2.2).bind λ(x3,x4,x5,x6,x7,x8,_)=>
(fL v8 v9 v10 x2.1 x2.2).bind λ(x9,ac,ae,af,ah,ai,_)=>
bif(x8 != ai)then(some (.inr (.inl (false,()))))else
(gx x3 x4 x5 x6 x7 x9 ac ae af ah).bind λ(aj,_)=>
bif(!aj)then(some (.inr (.inl (false,()))))else
let ak:=w64 (v3+1);
some (.inl (v0,v1,v2,ak,v4,v5,v6,v7,v8,v9,v10,v11,v12,())))else
some (.inr (.inr (v0,v1,v2,v3,false,v4,v5,v6,v7,v8,v9,v10,v11,v12,())))
def cz:T0I->Option (T0I⊕(Int×Int×Bool×T0C)):=λ(v0,v1,v2,v3,v4,v5,v6,_)=>
bif(decide (v1<v0))then((cZ v1).bind λx0=>
(cd v6 x0).bind λx1=>
(cd v6 x0).bind λx2=>
(dg x2.1 x2.2.1 x2.2.2).bind λ(x3,_)=>
(eq x2.1 x2.2.1 x2.2.2).bind λ(x4,_)=>
bif(x3 != x4)then(none)else
let x5:List (LI×Int):=[(v4,v5),(v2,v3)];
let x6:=bQ x5.length;
(match b5 cA NN (v0,v1,x6,0,v2,v3,v4,v5,x2.1,x2.2.1,x2.2.2,v6,x5,())with
|none=>none
|some (.inl (x7,_))=>
none
|some (.inr (x7,x8,x9,ac,ae,af,ah,ai,aj,ak,am,an,ap,aq,_))=>
let av:=w64 (x8+1);
some (.inl (x7,av,af,ah,ai,aj,ap,()))))else
some (.inr (v0,v1,false,v2,v3,v4,v5,v6,()))
def dQ(a0:LDIn)(a1:List (Int))(a2:List LI)(a3:List (Int))(a4:Int)(a5:List (Int))(a6:Int)(a7:Int)(a8:Int):Option (Bool×Unit):=
(jr a0 a1 a2).bind λ(x0,_)=>
bif(!x0)then((eC).bind λ(x1,_)=>
some (x1,()))else
let x1:=bQ a3.length;
bif(decide (x1>30))then((eC).bind λ(x2,_)=>
some (x2,()))else
(fj a5 0).bind λ(x2,x3,x4,x5,x6,_)=>
(fS x3 x5 x6).bind λ(x7,x8,_)=>
(dP x2 x3 x4 a6 a7 a8).bind λ(ae,af,ah,_)=>
let ai:List (LDIn×LI×List LI):=[(a0,(a1,a2)),(x2,(x3,x4)),(ae,(af,ah))];
let aj:=bQ ai.length;
(b5 cz NN (aj,0,a3,a4,x7,x8,ai,())).bind λ(_)=>
(eC).bind λ(az,_)=>
some (az,())
def jf:X.Cfg:=⟨E0,[pC,lp,jX,lr,mA,eL,iE,gr,li,ms],[(49,(.pair (uaa KIn) (.pair (uaa I64) (uaa (uaa CW))))),(62,(.pair (uaa I64) CW))],[⟨18,0,(qS [zaa 7,zaa 15,zaa 17,Zaa 49 101,Uaa 50,Uaa 51,Zaa 62 127,Uaa 63,Uaa 64] [(16,yab),(32,yab),(36,uab),(101,[shU (uaa (.pair eM (.pair RI (yaa RW))))]),(127,uaf)]),[(.ret,qS [Xaa 12] []),(.exit 2,(qS [zaa 7,zaa 15,zaa 17,Zaa 49 101,Uaa 50,Uaa 51,Zaa 62 127,Uaa 63,Uaa 64,Xaa 65] [(16,yab),(32,yab),(36,uab),(101,[shU (uaa (.pair eM (.pair RI (yaa RW))))]),(127,uaf)]))]⟩,(lx 9 1 [zaa 7,zaa 15,Zaa 49 101,Uaa 50,Uaa 51] [(16,yab),(32,yab),(101,[shU (uaa (.pair eM (.pair RI (yaa RW))))])] 52)]⟩
def fD:Ctr:=⟨3,50,[.agg uab,.agg yab,shU RI,shU I64,shU I64,shU I64],[],[⟨Xab,[.one],[]⟩],ap9 dQ⟩
theorem k_law08_ProgramChecks:Lk 8 fD:=ls jf (aC wh (aC qg (aC oA (aC qi (aC rK (aC gj (aC kU (aC jc (aC qb (aC rE aN))))))))))
end
end Go.Proofs.Ytgphpfjngblbiaa
namespace Go.Proofs.Ytgphpfjngblbiaa
set_option maxRecDepth 100000
noncomputable section
end
end Go.Proofs.Ytgphpfjngblbiaa
namespace Go.Proofs.Ytgphpfjngblbiaa
open Go.RowKit
theorem Eg:(Try.prog.funcs.all λfn=>!(fn.name=="runtime.NumGoroutine"))=true:=by kernel_rfl
theorem vZ:ij Try.prog 11:=by
 obtain⟨fn,hf,hb⟩:∃fn,Try.prog.funcs[11]?=some fn/\fn.body.isSome=true:=by
  have hs:(match Try.prog.funcs[11]? with|some fn=>fn.body.isSome|none=>false)=true:=by kernel_rfl
  cases h:Try.prog.funcs[11]? with
  |none=>rw[h]at hs;cases hs
  |some fn=>rw[h]at hs;exact⟨fn,rfl,hs⟩
 obtain⟨c,hc⟩:=Option.isSome_iff_exists.1 hb;refine nX hf ?_ hc;obtain⟨hlt,he⟩:=Array.getElem?_eq_some_iff.1 hf;have:=Array.all_eq_true.1 Eg 11 hlt;rw[he]at this;simpa using this
def C5(x:Value)(w:World)(e:Ending)(w':World):Prop:=e=.returned (.pointer (some ⟨w.heap.size,0,none⟩))/\w'=w.alloc (.cells #[x,.int .i64 0] 88)
theorem Cq(x:Value)(hx:x.oneCell'=true)(w:World):
 Calls Try.prog 11 #[x] w (C5 x w):=by
 cases x
 all_goals first
  |(go_enter Try.func11,Try.ntmps11
    go_wp2
    go_ret
    exact⟨rfl,rfl⟩)
  |simp[Value.oneCell']at hx
theorem e0_ok:wO Try.prog E0:=by
 intro f n tm h;simp only[E0]at h;split at h
 ·rename_i e;subst e
  injection h with h
  injection h with h1 h2
  subst h1 h2;refine⟨vZ,λx hx=>?_,88,λl2 w hl ZI=>?_⟩
  ·simp only[List.mem_cons,List.not_mem_nil,or_false]at hx;rcases hx with hx|hx
   ·injection hx
   ·injection hx with hx;rw[hx];rfl
  ·match l2,hl with
   | [x],_=>exact Cq x (ZI x (by simp[bxV])) w
 ·simp at h
def Ok{α:Type}(o:Option α)(Q:α->Prop):Prop:=∃a,o=some a/\Q a
section
variable {α β:Type}
theorem Ok.ret{a:α}{Q:α->Prop}(h:Q a):Ok (some a) Q:=⟨a,rfl,h⟩
theorem Ok.bind{o:Option α}{f:α->Option β}{P:α->Prop}{Q:β->Prop}(h:Ok o P)(h2:∀a,P a->Ok (f a) Q):Ok (o.bind f) Q:=by
 obtain⟨a,rfl,h1⟩:=h
 simp_all
theorem Ok.mono{o:Option α}{P Q:α->Prop}(h:Ok o P)(h2:∀a,P a->Q a):Ok o Q:=by
 have ⟨a,e,h1⟩:=h;exact⟨a,e,h2 a h1⟩
theorem Ok.cond{c:Bool}{a b:Option α}{Q:α->Prop}(h1:c=true->Ok a Q)(h2:c=false->Ok b Q):Ok (bif c then a else b) Q:=by
 grind
class BP (b:Bool) (P N:outParam Prop):Prop where
 t:b=true->P
 f:b=false->N
instance EI {p:Prop}{i:Decidable p}:BP (@decide p i) p (¬p):=⟨of_decide_eq_true,of_decide_eq_false⟩
instance ES {α:Type}[BEq α][LawfulBEq α]{a b:α}:BP (a==b) (a=b) (¬a=b):=⟨eq_of_beq,λh=>beq_eq_false_iff_ne.1 h⟩
theorem cF{c:Bool}{P N:Prop}[h:BP c P N]{a b:Option α}{Q:α->Prop}(h1:P->Ok a Q)(h2:N->Ok b Q):Ok (bif c then a else b) Q:=by
 cases hc:c with
 |true=>exact h1 (h.t hc)
 |false=>exact h2 (h.f hc)
theorem Ok.get{l:List α}{i:Nat}{f:α->Option β}{Q:β->Prop}(h:i<l.length)(h2:∀a,l[i]?=some a->Ok (f a) Q):Ok ((cd l i).bind f) Q:=by
 have e:cd l i=some l[i]:=oGE h
 simp_all
theorem Ok.nat{x:Int}{f:Nat->Option β}{Q:β->Prop}(h:0<=x)(h2:∀n:Nat,x=n->Ok (f n) Q):Ok ((cZ x).bind f) Q:=by
 obtain⟨n,rfl⟩:∃n:Nat,x=n:=⟨x.toNat,by omega⟩;exact h2 n rfl
theorem Ok.val{v:α}{f:α->Option β}{Q:β->Prop}(h:∀x,x=v->Ok (f x) Q):Ok (f v) Q:=h v rfl
theorem cu{c:Bool}{a b:Option α}{Q:α->Prop}(hc:c=true)(h1:Ok a Q):Ok (bif c then a else b) Q:=by simp_all
theorem lB{S T:Type}{f:S->Option (S⊕T)}(P:S->Prop)(R:T->Prop)(m:S->Nat){n:Nat}{s:S}(hs:P s)(hm:m s<n)
 (h:∀s,P s->Ok (f s) λr=>match r with|.inl s'=>P s'/\m s'<m s|.inr t=>R t):Ok (b5 f n s) R:=by
 induction n generalizing s with
 |zero=>omega
 |succ n ih=>
  have ⟨r,e,hr⟩:=h s hs
  cases r with
  |inl s'=>
   have ⟨t,e2,hq⟩:=ih hr.1 (by omega);exact⟨t,by simp[b5,e];exact e2,hq⟩
  |inr t=>exact⟨t,by simp[b5,e],hr⟩
theorem Ok.loop{S T:Type}{f:S->Option (S⊕T)}{g:T->Option β}{Q:β->Prop}(P:S->Prop)(R:T->Prop)(m:S->Nat){n:Nat}{s:S}(hs:P s)(hm:m s<n)
 (h:∀s,P s->Ok (f s) λr=>match r with|.inl s'=>P s'/\m s'<m s|.inr t=>R t)(hg:∀t,R t->Ok (g t) Q):Ok ((b5 f n s).bind g) Q:=(lB P R m hs hm h).bind hg
end
theorem b6{x:Int}(h1:-9223372036854775808<=x)(h2:x<=9223372036854775807):w64 x=x:=wrap_i64 h1 h2
theorem co(n:Nat):cZ (n:Int)=some n:=rfl
theorem cG(n:Nat):bQ n=(n:Int):=rfl
theorem dy{α:Type}{l:List α}{i:Nat}{a:α}(h:l[i]?=some a):a∈l:=List.mem_of_getElem? h
def W16(x:Int):Prop:=0<=x/\x<=65535
theorem dD{x:Int}(h0:0<=x)(h1:x<=65535):wk .u16 x=x:=by
 unfold wk;rw[ui];omega
theorem dC{x:Int}(h0:-9223372036854775808<=x)(h1:x<=9223372036854775807):wk .i64 x=x:=b6 h0 h1
theorem dJ{b n m:Nat}(h:b<=1000/\n+m<=1000000):ct b n m=true:=by
 have:=Nat.mul_le_mul h.2 h.1;simp[ct];omega
structure DOk (l:List Int)(k:Int):Prop where
 num:∀x∈l,lZ x
 len:l.length<=maxLen
 lo:0<=k
 hi:k<=l.length
theorem qY{l:List Int}(h:∀x∈l,lZ x)(hl:l.length<=maxLen):DOk l 0:=⟨h,hl,by omega,by omega⟩
theorem Dy{a b:Int}(ha:lZ a)(hb:0<b)(Z0:b<=9223372036854775807):∃v,eY a b=some (v,())/\0<=v/\v<b:=by
 have hne:(b != 0)=true:=by simp;omega
 have hm:=Int.tmod_lt_of_pos a hb
 have hm2:-b<Int.tmod a b:=by
  have:=Int.tmod_lt_of_pos (-a) hb;rw[Int.neg_tmod]at this;omega
 unfold eY;simp[hne];by_cases h:Int.tmod a b<0
 ·refine⟨Int.tmod a b+b,?_,by omega,by omega⟩;simp[h,decide_true];rw[b6 (by omega) (by omega)]
 ·refine⟨Int.tmod a b,?_,by omega,hm⟩;simp[h,decide_false,oCF]
section
variable {β:Type} {l:List Int} {k n:Int} {Q:β->Prop}
theorem dB{f:Int×List Int×Int×Unit->Option β}(h:DOk l k)(hn:0<n)(hn2:n<=9223372036854775807)(K:∀v k',0<=v->v<n->DOk l k'->Ok (f (v,l,k',())) Q):Ok ((bM n l k).bind f) Q:=by
 have hl:=h.len;have T3:=h.lo
 have XN:maxLen<=9223372036854775807:=by decide
 by_cases hk:k>=(l.length:Int)
 ·have e:bM n l k=some (0,l,k,()):=by unfold bM;simp[cG,hk]
  simp_all
 ·obtain⟨j,rfl⟩:∃j:Nat,k=j:=⟨k.toNat,by omega⟩
  have hj:j<l.length:=by omega
  obtain⟨v,hv,h0,h1⟩:=Dy (h.num _ (List.getElem_mem hj)) hn hn2
  have e:bM n l j=some (v,l,(j:Int)+1,()):=by
   unfold bM;delta bQ
   try dsimp only
   rw[b6 (x:=(j:Int)+1) (by omega) (by omega),b6 (x:=(j:Int)+1-1) (by omega) (by omega)];rw[show(j:Int)+1-1=j by omega,co];simp[hk,decide_false,oCF,oBS,cd,oGE hj,kA,hv]
  rw[e];exact K v _ h0 h1 ⟨h.num,hl,by omega,by omega⟩
theorem wU{f:Int×List Int×Int×Unit->Option β}(h:DOk l k)(K:∀v k',0<=v->v<=65535->DOk l k'->Ok (f (v,l,k',())) Q):Ok ((d8 l k).bind f) Q:=by
 have hw:Ok (d8 l k) λr=>∃v k',r=(v,l,k',())/\0<=v/\v<=65535/\DOk l k':=by
  unfold d8
  (with_reducible refine dB (by assumption) (by omega) (by omega) (λv k a b d=>?_);try dsimp only)
  refine Ok.bind (P:=λr=>∃b,r=(v,b,l,k,())) ?_ ?_
  ·repeat ((with_reducible refine cF (λhc=>?_) λhc=>?_);· exact Ok.ret ⟨_,rfl⟩)
   exact Ok.ret ⟨_,rfl⟩
  ·rintro _ ⟨b,rfl⟩;refine Ok.cond (λ_=>?_) λ_=>?_
   ·(with_reducible refine dB (by assumption) (by omega) (by omega) (λv k a b d=>?_);try dsimp only)
    (simp (disch:=omega) only [b6,dD,dC,cG])
    exact Ok.ret ⟨_,_,rfl,by omega,by omega,by assumption⟩
   ·(with_reducible refine cF (λhc=>?_) λhc=>?_)
    ·(with_reducible refine dB (by assumption) (by omega) (by omega) (λv k a b d=>?_);try dsimp only)
     (simp (disch:=omega) only [b6,dD,dC,cG])
     exact Ok.ret ⟨_,_,rfl,by omega,by omega,by assumption⟩
    ·(with_reducible refine dB (by omega) (by omega) (by omega) (λv k a b d=>?_);try dsimp only)
     (simp (disch:=omega) only [b6,dD,dC,cG])
     exact Ok.ret ⟨_,_,rfl,by omega,by omega,by omega⟩
 refine hw.bind ?_
 simp_all
end
def zx(s:List Int):Prop:=1<=s.length/\s.length<=4/\∀x∈s,1<=x/\x<=32
theorem Ex{P:Int->Prop}{a b c:Int}(ha:P a)(hb:P b)(hc:P c):∀x∈[a,b,c],P x:=by
 simp_all
theorem zJ{l:List Int}{k:Int}(h:DOk l k):Ok (gH l k) λr=>∃s k',r=(s,l,k',())/\zx s/\DOk l k':=by
 unfold gH
 (with_reducible refine dB (by assumption) (by omega) (by omega) (λv0 k0 a0 b0 d0=>?_);try dsimp only)
 (simp (disch:=omega) only [b6,dD,dC,cG])
 (with_reducible refine dB (by assumption) (by omega) (by omega) (λv1 k1 a1 b1 d1=>?_);try dsimp only)
 refine Ok.loop (P:=λ((c,l',k',s,_):Int×List Int×Int×List Int×Unit)=>l'=l/\DOk l k'/\0<=c/\c+s.length<=4/\1<=s.length/\∀x∈s,1<=x/\x<=32)
  (R:=λ((_,_,l',k',s,_):Int×Bool×List Int×Int×List Int×Unit)=>l'=l/\DOk l k'/\zx s) (m:=λs=>s.1.toNat) ⟨rfl,d1,a1,by simp;omega,by simp,by simp;omega⟩ (by unfold NN;dsimp only;omega) ?_ ?_
 ·rintro⟨c,l',k3,s,_⟩ ⟨rfl,W',XI,Wr,Ze,hs⟩;dsimp only at *;unfold iZ;dsimp only
  (with_reducible refine cF (λhc=>?_) λhc=>?_)
  ·(with_reducible refine dB (by assumption) (by omega) (by omega) (λv2 k2 a2 b2 d2=>?_);try dsimp only)
   (with_reducible refine Ok.nat (by omega) (λj hj=>?_);try dsimp only)
   have Zs:∀x∈[(6:Int),12,32],6<=x/\x<=32:=by simp_all
   refine Ok.get (by simp;omega) λa ha=>?_;refine Ok.get (by simp;omega) λb hb=>?_;have h7:=Zs b (dy hb)
   (with_reducible refine dB (by assumption) (by omega) (by omega) (λv3 k3 a3 b3 d3=>?_);try dsimp only)
   (simp (disch:=omega) only [b6,dD,dC,cG])
   refine cu (dJ (by simp;omega)) ?_;refine Ok.ret ⟨⟨rfl,by assumption,by omega,?_,?_,?_⟩,?_⟩
   ·simp;omega
   ·simp
   ·intro x hx;simp at hx;rcases hx with hx|rfl
    ·exact hs x hx
    ·omega
   ·dsimp only;omega
  ·exact Ok.ret ⟨rfl,W',Ze,by dsimp only;omega,hs⟩
 ·rintro⟨a,b,l',k3,s,_⟩ ⟨rfl,W',hs⟩;exact Ok.ret ⟨_,_,rfl,hs,W'⟩
def gc(op:Int):Bool:=!(op==18||op==23||op==0||op==24)
def gb(op:Int):Bool:=!(op==18||op==23||op==0||op==24||op==1||op==15||op==19||op==20||op==21||op==22)
def fK(op:Int):Bool:=!(op==18||op==23||op==0||op==24||op==1||op==15||op==19||op==20||op==21||op==22||op==2||op==16||op==17)
def ga(op:Int):Bool:=op==1||op==15||op==19||op==20||op==21||op==16||op==17||op==18||op==23
def ke(op:Int):Bool:=op==18||op==19||op==20||op==21
theorem sS{op:Int}(h0:0<=op)(h1:op<=24):dL op=some (gc op,gb op,fK op,ga op,()):=by
 obtain⟨n,rfl⟩:∃n:Nat,op=n:=⟨op.toNat,by omega⟩
 have hn:n<25:=by omega
 have key:∀n:Fin 25,(dL ((n.val:Nat):Int)).map (λx=>(x.1,x.2.1,x.2.2.1,x.2.2.2.1))=some (gc (n.val:Nat),gb (n.val:Nat),fK (n.val:Nat),ga (n.val:Nat)):=by decide
 have:=key ⟨n,hn⟩
 cases h:dL (n:Int)with
 |none=>simp_all
 |some x=>
  obtain⟨a,b,c,d,_⟩:=x
  simp_all
theorem lU(op:Int):cV op=some (ke op,()):=by
 unfold cV ke
 grind
structure dS (n m:Int)(i:DIn):Prop where
 op:0<=i.1/\i.1<=24
 a:0<=i.2.1/\i.2.1<8/\(gc i.1=false->i.2.1=0)
 b:0<=i.2.2.1/\i.2.2.1<8/\(gb i.1=false->i.2.2.1=0)
 c:0<=i.2.2.2.1/\i.2.2.2.1<8/\(fK i.1=false->i.2.2.2.1=0)
 imm:0<=i.2.2.2.2/\i.2.2.2.2<=65535/\(ga i.1=false->i.2.2.2.2=0)
 lea:i.1=15->i.2.2.2.2<n
 sys:i.1=23->i.2.2.2.2<=15
 jmp:ke i.1=true->i.2.2.2.2<m
theorem ins_mk{n m o a b c i:Int}(ho:0<=o/\o<=24)(ha:0<=a/\a<8)(hb:0<=b/\b<8)(hc:0<=c/\c<8)(hi:0<=i/\i<=65535)(hA:gc o=true\/a=0)(hB:gb o=true\/b=0)(hC:fK o=true\/c=0)(hI:ga o=true\/i=0)
 (hl:o=15->i<n)(hs:o=23->i<=15)(hj:ke o=true->i<m):dS n m (o,a,b,c,i):=
 ⟨ho,⟨ha.1,ha.2,λh=>hA.elim (λh'=>by simp_all) id⟩,⟨hb.1,hb.2,λh=>hB.elim (λh'=>by simp_all) id⟩,
  ⟨hc.1,hc.2,λh=>hC.elim (λh'=>by simp_all) id⟩,⟨hi.1,hi.2,λh=>hI.elim (λh'=>by simp_all) id⟩,hl,hs,hj⟩
theorem rA{n m r v:Int}(h:0<=r/\r<8)(hv:0<=v/\v<=65535):dS n m (1,r,0,0,v):=ins_mk (by decide) h (by decide) (by decide) hv (.inl (by decide)) (.inr rfl) (.inr rfl) (.inl (by decide)) (by omega) (by omega) (λh=>absurd h (by decide))
theorem tz{n m r v:Int}(h:0<=r/\r<8)(hv:0<=v/\v<8):dS n m (2,r,v,0,0):=ins_mk (by decide) h hv (by decide) (by decide) (.inl (by decide)) (.inl (by decide)) (.inr rfl) (.inr rfl) (by omega) (by omega) (λh=>absurd h (by decide))
theorem nj{n m v:Int}(hv:0<=v/\v<=15):dS n m (23,0,0,0,v):=ins_mk (by decide) (by decide) (by decide) (by decide) (by omega) (.inr rfl) (.inr rfl) (.inr rfl) (.inl (by decide)) (by omega) (by omega) (λh=>absurd h (by decide))
theorem tB{n m r v:Int}(h:0<=r/\r<8)(hv:0<=v/\v<n)(hn:n<=4):dS n m (15,r,0,0,v):=ins_mk (by decide) h (by decide) (by decide) (by omega) (.inl (by decide)) (.inr rfl) (.inr rfl) (.inl (by decide)) (by omega) (by omega) (λh=>absurd h (by decide))
theorem w3{n m o a b v:Int}(ho:o=16\/o=17)(h:0<=a/\a<8)(hb:0<=b/\b<8)(hv:0<=v/\v<=65535):dS n m (o,a,b,0,v):=by
 rcases ho with rfl|rfl
 all_goals exact ins_mk (by decide) h hb (by decide) hv (.inl (by decide)) (.inl (by decide)) (.inr rfl) (.inl (by decide)) (by omega) (by omega) (λh=>absurd h (by decide))
theorem tp{n m o a b c:Int}(ho:3<=o/\o<=14)(h:0<=a/\a<8)(hb:0<=b/\b<8)(hc:0<=c/\c<8):dS n m (o,a,b,c,0):=
 ins_mk (by omega) h hb hc (by decide) (.inl (by unfold gc;simp;omega)) (.inl (by unfold gb;simp;omega)) (.inl (by unfold fK;simp;omega)) (.inr rfl) (by omega) (by omega) (λh=>by unfold ke at h;simp at h;omega)
theorem CD{n m v:Int}(hv:0<=v/\v<=65535)(hm:v<m):dS n m (18,0,0,0,v):=ins_mk (by decide) (by decide) (by decide) (by decide) hv (.inr rfl) (.inr rfl) (.inr rfl) (.inl (by decide)) (by omega) (by omega) (λ_=>hm)
theorem Ch{n m:Int}:dS n m (24,0,0,0,0):=ins_mk (by decide) (by decide) (by decide) (by decide) (by decide) (.inr rfl) (.inr rfl) (.inr rfl) (.inr rfl) (by omega) (by omega) (λh=>absurd h (by decide))
theorem dS.mono{n m m':Int}{i:DIn}(h:dS n m i)(hm:m<=m'):dS n m' i:=⟨h.op,h.a,h.b,h.c,h.imm,h.lea,h.sys,λhj=>by have:=h.jmp hj;omega⟩
theorem tG{n m a v:Int}(h:0<=a/\a<8)(hv:0<=v/\v<=65535)(hm:v<m):dS n m (20,a,0,0,v):=ins_mk (by decide) h (by decide) (by decide) hv (.inl (by decide)) (.inr rfl) (.inr rfl) (.inl (by decide)) (by omega) (by omega) (λ_=>hm)
theorem AA{n X7 k:Int}{l:List Int}(h:DOk l k)(hn:1<=n/\n<=4)(hm:1<=X7/\X7<=100):Ok (gI n X7 l k) λr=>∃o a b c i k',r=(o,a,b,c,i,l,k',())/\dS n X7 (o,a,b,c,i)/\DOk l k':=by
 unfold gI
 (with_reducible refine dB (by assumption) (by omega) (by omega) (λv0 k0 a0 b0 d0=>?_);try dsimp only)
 rw[sS (by omega) (by omega)];simp only[oBS];refine Ok.bind (P:=λr=>∃x k',r=(n,X7,l,k',0,0,0,0,0,v0,x,0,0,0,gc v0,gb v0,fK v0,ga v0,())/\0<=x/\x<8/\(gc v0=false->x=0)/\DOk l k') ?_ ?_
 ·refine Ok.cond (λhc=>?_) λhc=>Ok.ret ⟨_,_,rfl,by omega,by omega,λ_=>rfl,d0⟩
  (with_reducible refine dB (by assumption) (by omega) (by omega) (λv1 k1 a1 b1 d1=>?_);try dsimp only)
  exact Ok.ret ⟨_,_,rfl,a1,b1,(λhh=>by rw[hc]at hh;cases hh),d1⟩
 rintro _ ⟨xa,k1,rfl,UL,W8,Wy,d1⟩;dsimp only;refine Ok.bind (P:=λr=>∃x k',r=(n,X7,l,k',0,0,0,0,0,v0,xa,x,0,0,gc v0,gb v0,fK v0,ga v0,())/\0<=x/\x<8/\(gb v0=false->x=0)/\DOk l k') ?_ ?_
 ·refine Ok.cond (λhc=>?_) λhc=>Ok.ret ⟨_,_,rfl,by omega,by omega,λ_=>rfl,d1⟩
  (with_reducible refine dB (by assumption) (by omega) (by omega) (λv2 k2 a2 b2 d2=>?_);try dsimp only)
  exact Ok.ret ⟨_,_,rfl,a2,b2,(λhh=>by rw[hc]at hh;cases hh),d2⟩
 rintro _ ⟨xb,k2,rfl,VF,ZW,Z0,d2⟩;dsimp only;refine Ok.bind (P:=λr=>∃x k',r=(n,X7,l,k',0,0,0,0,0,v0,xa,xb,x,0,gc v0,gb v0,fK v0,ga v0,())/\0<=x/\x<8/\(fK v0=false->x=0)/\DOk l k') ?_ ?_
 ·refine Ok.cond (λhc=>?_) λhc=>Ok.ret ⟨_,_,rfl,by omega,by omega,λ_=>rfl,d2⟩
  (with_reducible refine dB (by assumption) (by omega) (by omega) (λv3 k3 a3 b3 d3=>?_);try dsimp only)
  exact Ok.ret ⟨_,_,rfl,a3,b3,(λhh=>by rw[hc]at hh;cases hh),d3⟩
 rintro _ ⟨xc,k3,rfl,XI,ZC,Zw,d3⟩;dsimp only;rw[lU];simp only[oBS];refine Ok.bind (P:=λr=>∃x k',r=(l,k',0,0,0,0,0,v0,xa,xb,xc,x,())/\0<=x/\x<=65535/\(ga v0=false->x=0)/\(v0=15->x<n)/\(v0=23->x<=15)/\(ke v0=true->x<X7)/\DOk l k') ?_ ?_
 ·refine Ok.cond (λhj=>?_) λhj=>?_
  ·(with_reducible refine dB (by assumption) (by omega) (by omega) (λv4 k4 a4 b4 d4=>?_);try dsimp only)
   have hne:v0≠15/\v0≠23:=by constructor<;>(rintro rfl;exact absurd hj (by decide))
   exact Ok.ret ⟨_,_,rfl,a4,by omega,(λhh=>by
    have:ga v0=true:=by unfold ke at hj;unfold ga;simp at hj⊢;omega
    rw[this]at hh;cases hh),by omega,by omega,λ_=>b4,d4⟩
  ·(with_reducible refine cF (λQO=>?_) λQO=>?_)
   ·subst QO
    (with_reducible refine dB (by assumption) (by omega) (by omega) (λv4 k4 a4 b4 d4=>?_);try dsimp only)
    exact Ok.ret ⟨_,_,rfl,a4,by omega,λhh=>absurd hh (by decide),by omega,by omega,λhh=>absurd hh (by decide),d4⟩
   ·(with_reducible refine cF (λQP=>?_) λQP=>?_)
    ·subst QP
     (with_reducible refine dB (by assumption) (by omega) (by omega) (λv4 k4 a4 b4 d4=>?_);try dsimp only)
     exact Ok.ret ⟨_,_,rfl,a4,by omega,λhh=>absurd hh (by decide),by omega,by omega,λhh=>absurd hh (by decide),d4⟩
    ·refine Ok.cond (λhu=>?_) λhu=>?_
     ·(with_reducible refine wU (by assumption) (λv4 k4 a4 b4 d4=>?_);try dsimp only)
      (simp (disch:=omega) only [b6,dD,dC,cG])
      exact Ok.ret ⟨_,_,rfl,a4,by omega,(λhh=>by rw[hu]at hh;cases hh),by omega,by omega,(λhh=>by rw[show ke v0=false from hj]at hh;cases hh),d4⟩
     ·exact Ok.ret ⟨_,_,rfl,by omega,by omega,λ_=>rfl,by omega,by omega,(λhh=>by rw[show ke v0=false from hj]at hh;cases hh),d3⟩
 rintro _ ⟨xi,k4,rfl,TQ,Wa,Wb,PB,PC,PD,d4⟩;exact Ok.ret ⟨_,_,_,_,_,_,rfl,⟨⟨a0,by dsimp only;omega⟩,⟨UL,W8,Wy⟩,⟨VF,ZW,Z0⟩,⟨XI,ZC,Zw⟩,⟨TQ,Wa,Wb⟩,PB,PC,PD⟩,d4⟩
theorem fX{α β:Type}{l:List α}{i:Nat}{f:α->Option β}{Q:β->Prop}(P:α->Prop)(h:i<l.length)(hP:∀x∈l,P x)(h2:∀a,P a->Ok (f a) Q):Ok ((cd l i).bind f) Q:=Ok.get h λa ha=>h2 a (hP a (dy ha))
theorem cx{α:Type}{P:α->Prop}:∀x∈([]:List α),P x:=λ_ h=>by cases h
theorem all_cons{α:Type}{P:α->Prop}{a:α}{l:List α}(h:P a)(h2:∀x∈l,P x):∀x∈a::l,P x:=by
 simp_all
theorem DB(a b:Int):dO a b=some (1,a,0,0,b,()):=rfl
theorem Dx(a b:Int):fN a b=some (2,a,b,0,0,()):=rfl
theorem Bm(a:Int):dx a=some (23,0,0,0,a,()):=rfl
theorem EB{x:Int}(h:1<=x):1<=mmR false 5 x/\mmR false 5 x<=5:=by
 unfold mmR;simp;omega
def vk(n at_:Int)(l:List Int)(r:List DIn×List Int×Int×Unit):Prop:=∃xs k',r=(xs,l,k',())/\1<=xs.length/\xs.length<=6/\(∀i∈xs,dS n (at_+xs.length) i)/\DOk l k'
theorem pV{n at_:Int}{l:List Int}{xs:List DIn}{k:Int}(h1:1<=xs.length/\xs.length<=6)(h2:∀i∈xs,dS n (at_+xs.length) i)(h3:DOk l k):Ok (some (xs,l,k,())) (vk n at_ l):=Ok.ret ⟨xs,k,rfl,h1.1,h1.2,h2,h3⟩
theorem Cp{s l:List Int}{at_ k:Int}(h:DOk l k)(hs:zx s)(ha:0<=at_/\at_<=99):Ok (iw s (at_+1) at_ l k) (vk s.length at_ l):=by
 obtain⟨Ze,Tk,hsz⟩:=hs
 have hn:1<=(s.length:Int)/\(s.length:Int)<=4:=by omega
 unfold iw;delta bQ;simp only[DB,Dx,Bm,oBS]
 (with_reducible refine dB (by assumption) (by omega) (by omega) (λvr kr ar br dr=>?_);try dsimp only)
 refine Ok.nat (by omega) λj hj=>?_;refine fX (λa=>1<=a/\a<=32) (by omega) hsz λz hz=>?_
 (simp (disch:=omega) only [b6,dD,dC,cG])
 have h5:=EB (x:=z+1) (by omega);generalize mmR false 5 (z+1)=mm at h5
 (with_reducible refine dB (by assumption) (by omega) (by omega) (λvu ku au bu du=>?_);try dsimp only)
 (with_reducible refine dB (by assumption) (by omega) (by omega) (λvw kw aw bw dw=>?_);try dsimp only)
 iterate 19
  (with_reducible refine cF (λhcc=>?_) λhcc=>?_)
  ·repeat (first|(simp (disch:=omega) only [b6,dD,dC,cG])|(with_reducible refine dB (by assumption) (by omega) (by omega) (λv k a b d=>?_);try dsimp only)|(with_reducible refine wU (by assumption) (λv k a b d=>?_);try dsimp only)|(with_reducible refine Ok.nat (by omega) (λj hj=>?_);try dsimp only)|((with_reducible first|refine fX (λa=>1<=a/\a<=32) (by omega) (by assumption) (λe he=>?_)|refine fX (λa=>3<=a/\a<=14) (by simp only[oLC,List.length_nil];omega) (by(first|exact(all_cons (by omega) (all_cons (by omega) cx))|exact(all_cons (by omega) (all_cons (by omega) (all_cons (by omega) cx)))|exact(all_cons (by omega) (all_cons (by omega) (all_cons (by omega) (all_cons (by omega) (all_cons (by omega) (all_cons (by omega) (all_cons (by omega) (all_cons (by omega) cx)))))))))) (λe he=>?_)|refine fX (λa=>0<=a/\a<=15) (by simp only[oLC,List.length_nil];omega) (by(first|exact(all_cons (by omega) (all_cons (by omega) cx))|exact(all_cons (by omega) (all_cons (by omega) (all_cons (by omega) cx)))|exact(all_cons (by omega) (all_cons (by omega) (all_cons (by omega) (all_cons (by omega) (all_cons (by omega) (all_cons (by omega) (all_cons (by omega) (all_cons (by omega) cx)))))))))) (λe he=>?_)|refine fX (λa=>1<=a/\a<=100) (by simp only[oLC,List.length_nil];omega) (by(first|exact(all_cons (by omega) (all_cons (by omega) cx))|exact(all_cons (by omega) (all_cons (by omega) (all_cons (by omega) cx)))|exact(all_cons (by omega) (all_cons (by omega) (all_cons (by omega) (all_cons (by omega) (all_cons (by omega) (all_cons (by omega) (all_cons (by omega) (all_cons (by omega) cx)))))))))) (λe he=>?_));try dsimp only)|(with_reducible refine cu (dJ (by first|omega|simp)) ?_;try dsimp only)|(refine fX (λ(a:List DIn)=>(1<=a.length/\a.length<=6)/\∀i∈a,dS s.length (at_+a.length) i) (by simp only[oLC,List.length_nil];omega) (all_cons ⟨by simp,by((repeat' (first|exact cx|refine all_cons ?_ ?_|exact rA (by omega) (by omega)|exact tz (by omega) (by omega)|exact nj (by omega)|exact tB (by omega) (by omega) (by omega)|exact w3 (by omega) (by omega) (by omega) (by omega)|exact tp (by omega) (by omega) (by omega) (by omega)|exact tG (by omega) (by omega) (by simp only[oLC,List.length_nil];omega)));done)⟩ (all_cons ⟨by simp,by((repeat' (first|exact cx|refine all_cons ?_ ?_|exact rA (by omega) (by omega)|exact tz (by omega) (by omega)|exact nj (by omega)|exact tB (by omega) (by omega) (by omega)|exact w3 (by omega) (by omega) (by omega) (by omega)|exact tp (by omega) (by omega) (by omega) (by omega)|exact tG (by omega) (by omega) (by simp only[oLC,List.length_nil];omega)));done)⟩ cx)) (λe he=>?_);try dsimp only))
   first
    |exact pV he.1 he.2 (by assumption)
    |(refine pV (by simp) ?_ (by assumption);try simp only[List.append_eq,List.cons_append,List.nil_append]
      ((repeat' (first|exact cx|refine all_cons ?_ ?_|exact rA (by omega) (by omega)|exact tz (by omega) (by omega)|exact nj (by omega)|exact tB (by omega) (by omega) (by omega)|exact w3 (by omega) (by omega) (by omega) (by omega)|exact tp (by omega) (by omega) (by omega) (by omega)|exact tG (by omega) (by omega) (by simp only[oLC,List.length_nil];omega)));done))
 refine(AA (by assumption) hn (by omega)).bind ?_;rintro _ ⟨o,a,b,c,i,k',rfl,hi,hd⟩;exact pV (by simp) (all_cons (hi.mono (by simp)) cx) hd
theorem j7{α:Type}{P:α->Prop}{l m:List α}(h:∀x∈l,P x)(h2:∀x∈m,P x):∀x∈List.append l m,P x:=λx hx=>(List.mem_append.1 (show x∈l++m from hx)).elim (h x) (h2 x)
theorem eH{α:Type}(l m:List α):(List.append l m).length=l.length+m.length:=List.length_append
theorem zC{l:List Int}{k n:Int}(h:DOk l k)(hn:0<=n/\n<=1000):Ok (gG n l k) λr=>∃ws k',r=(ws,l,k',())/\(ws.length:Int)<=n/\(∀w∈ws,W16 w)/\DOk l k':=by
 unfold gG
 (simp (disch:=omega) only [b6,dD,dC,cG])
 (with_reducible refine dB (by assumption) (by omega) (by omega) (λv0 k0 a0 b0 d0=>?_);try dsimp only)
 refine Ok.loop (P:=λ((c,l',k',s,_):Int×List Int×Int×List Int×Unit)=>l'=l/\DOk l k'/\0<=c/\c+s.length<=n/\∀x∈s,W16 x)
  (R:=λ((_,_,l',k',s,_):Int×Bool×List Int×Int×List Int×Unit)=>l'=l/\DOk l k'/\(s.length:Int)<=n/\∀x∈s,W16 x) (m:=λs=>s.1.toNat) ⟨rfl,d0,a0,by simp;omega,cx⟩ (by unfold NN;dsimp only;omega) ?_ ?_
 ·rintro⟨c,l',k3,s,_⟩ ⟨rfl,W',XI,Wr,hs⟩;unfold iY;dsimp only
  (with_reducible refine cF (λhcc=>?_) λhcc=>?_)
  ·(with_reducible refine wU (by assumption) (λv1 k1 a1 b1 d1=>?_);try dsimp only)
   refine cu (dJ (by simp;omega)) ?_
   (simp (disch:=omega) only [b6,dD,dC,cG])
   exact Ok.ret ⟨⟨rfl,by omega,by omega,by rw[eH];simp;omega,j7 hs (all_cons ⟨a1,b1⟩ cx)⟩,by omega⟩
  ·exact Ok.ret ⟨rfl,W',by dsimp only;omega,hs⟩
 ·rintro⟨a,b,l',k3,s,_⟩ ⟨rfl,W',hs,hw⟩;exact Ok.ret ⟨_,_,rfl,hs,hw,W'⟩
structure pF (code:List DIn)(s:List Int)(d:List (List Int)):Prop where
 sz:zx s
 len:d.length=s.length
 fit:∀(j:Nat) x n,d[j]?=some x->s[j]?=some n->(x.length:Int)<=n
 num:∀x∈d,∀w∈x,W16 w
 clen:1<=code.length/\code.length<=64
 ins:∀i∈code,dS s.length code.length i
theorem uZ{code:List DIn}{s:List Int}{d:List (List Int)}{l:List Int}{k:Int}(hp:pF code s d):
 Ok (b5 dh NN ((code.length:Int),0,l,k,(),(),(),code,s,d,())) λr=>∃a b c,r=(a,b,c,l,k,(),(),(),code,s,d,()):=by
 have:=Ok.loop (f:=dh) (n:=NN) (Q:=λr=>∃a b c,r=(a,b,c,l,k,(),(),(),code,s,d,())) (s:=((code.length:Int),0,l,k,(),(),(),code,s,d,()))
  (P:=λs'=>∃i:Int,s'=((code.length:Int),i,l,k,(),(),(),code,s,d,())/\0<=i/\i<=code.length) (R:=λr=>∃a b c,r=(a,b,c,l,k,(),(),(),code,s,d,())) (m:=λs=>(s.1-s.2.1).toNat) ⟨0,rfl,by omega,by omega⟩ (by unfold NN;dsimp only;have:=hp.clen;omega) ?_ (λt ht=>Ok.ret ht)
 ·simp_all
 ·rintro _ ⟨i,rfl,TQ,Wa⟩;unfold dh;dsimp only;have hc:=hp.clen
  (with_reducible refine cF (λhcc=>?_) λhcc=>?_)
  ·refine Ok.bind (P:=λr=>r=((code.length:Int),i,l,k,(),(),(),code,s,d,())) ?_ ?_
   ·(with_reducible refine Ok.nat (by omega) (λj hj=>?_);try dsimp only)
    refine Ok.get (by omega) λx hx=>?_;have hin:=hp.ins x (dy hx);rw[lU];refine Ok.cond (λPK=>?_) λ_=>Ok.ret rfl;refine Ok.nat (by omega) λj2 YA=>?_;refine Ok.get (by omega) λy hy=>?_
    have hjj:j2=j:=by omega
    subst hjj;rw[hx]at hy
    injection hy with hy
    subst hy;have:=hin.jmp PK;refine Ok.cond (λhcc=>?_) (λhcc=>?_)
    ·have h9:(x.2.2.2.2:Int)>=(code.length:Int):=of_decide_eq_true hcc;omega
    ·exact Ok.ret rfl
   ·rintro _ rfl;dsimp only
    (simp (disch:=omega) only [b6,dD,dC,cG])
    exact Ok.ret ⟨⟨i+1,rfl,by omega,by omega⟩,by dsimp only;omega⟩
  ·exact Ok.ret ⟨_,_,_,rfl⟩
theorem vP{l:List Int}{k:Int}(h:DOk l k):Ok (fj l k) λr=>∃code s d k',r=(code,s,d,l,k',())/\pF code s d/\DOk l k':=by
 unfold fj;refine(zJ h).bind ?_;rintro _ ⟨s,k1,rfl,hs,hd⟩;obtain⟨Ze,Tk,hsz⟩:=id hs;dsimp only;delta bQ
 try dsimp only
 refine Ok.loop (P:=λs'=>∃k' d,s'=((s.length:Int),(d.length:Int),l,k',(),(),(),(),s,d,())/\DOk l k'/\d.length<=s.length/\(∀(j:Nat) x n,d[j]?=some x->s[j]?=some n->(x.length:Int)<=n)/\∀x∈d,∀w∈x,W16 w)
  (R:=λr=>∃a b c k' d,r=(a,b,c,l,k',(),(),(),(),s,d,())/\DOk l k'/\d.length=s.length/\(∀(j:Nat) x n,d[j]?=some x->s[j]?=some n->(x.length:Int)<=n)/\∀x∈d,∀w∈x,W16 w)
  (m:=λs=>(s.1-s.2.1).toNat) ⟨k1,[],rfl,hd,by simp,by simp,cx⟩ (by unfold NN;dsimp only;omega) ?_ ?_
 ·rintro _ ⟨k',d,rfl,hd',Wt,ZU,WK⟩;unfold g8;dsimp only
  (with_reducible refine cF (λhcc=>?_) λhcc=>?_)
  ·(with_reducible refine Ok.nat (by omega) (λj hj=>?_);try dsimp only)
   refine Ok.get (by omega) λx hx=>?_;refine Ok.get (by omega) λy hy=>?_
   have ZZ:j=d.length:=by omega
   subst ZZ;have Wm:=hsz y (dy hy);refine(zC hd' ⟨by omega,by omega⟩).bind ?_;rintro _ ⟨ws,k2,rfl,Rf,Qa,hd2⟩;dsimp only;refine cu (dJ (by simp;omega)) ?_
   (simp (disch:=omega) only [b6,dD,dC,cG])
   refine Ok.ret ⟨⟨k2,List.append d [ws],by rw[eH];simp,hd2,by rw[eH];simp;omega,?_,j7 WK (all_cons Qa cx)⟩,by dsimp only;omega⟩;intro i x n hx hn;rw[show List.append d [ws]=d++[ws]from rfl,List.getElem?_append]at hx;split at hx
   ·exact ZU i x n hx hn
   ·rename_i hge
    have:i-d.length=0:=by
     rcases Nat.eq_zero_or_pos (i-d.length)with h|h
     ·exact h
     ·rw[oGN (by simp;omega)]at hx;cases hx
    have hi:i=d.length:=by omega
    subst hi;simp at hx;subst hx;rw[hy]at hn
    injection hn with hn
    omega
  ·exact Ok.ret ⟨_,_,_,_,_,rfl,hd',by omega,ZU,WK⟩
 rintro _ ⟨a,b,c,k2,d,rfl,hd2,Wt,ZU,WK⟩;dsimp only
 (with_reducible refine dB (by assumption) (by omega) (by omega) (λv0 k0 a0 b0 d0=>?_);try dsimp only)
 (simp (disch:=omega) only [b6,dD,dC,cG])
 refine Ok.loop (P:=λs'=>∃i k' code,s'=(i,l,k',(),(),(),code,s,d,())/\0<=i/\i<=12/\DOk l k'/\code.length<=62/\∀i∈code,dS s.length code.length i)
  (R:=λr=>∃a b k' code,r=(a,b,l,k',(),(),(),code,s,d,())/\DOk l k'/\code.length<=62/\∀i∈code,dS s.length code.length i)
  (m:=λs=>s.1.toNat) ⟨_,_,[],rfl,by omega,by omega,d0,by simp,cx⟩ (by unfold NN;dsimp only;omega) ?_ ?_
 ·rintro _ ⟨i,k',code,rfl,TQ,Wa,hd',Zy,Xy⟩;unfold g7;dsimp only
  (with_reducible refine cF (λhcc=>?_) λhcc=>?_)
  ·refine Ok.bind (P:=λr=>∃k' code,r=(i,l,k',(),(),(),code,s,d,())/\DOk l k'/\code.length<=62/\∀i∈code,dS s.length code.length i) ?_ ?_
   ·(simp (disch:=omega) only [b6,dD,dC,cG])
    refine(Cp hd' hs ⟨by omega,by omega⟩).bind ?_;rintro _ ⟨xs,k3,rfl,Z4,OK,SU,W'⟩;dsimp only
    (simp (disch:=omega) only [b6,dD,dC,cG])
    (with_reducible refine cF (λhcc=>?_) λhcc=>?_)
    ·refine cu (dJ (by omega)) ?_;refine Ok.ret ⟨_,_,rfl,W',by rw[eH];omega,?_⟩;rw[eH];exact j7 (λi hi=>(Xy i hi).mono (by omega)) (λi hi=>(SU i hi).mono (by omega))
    ·exact Ok.ret ⟨_,_,rfl,W',Zy,Xy⟩
   ·rintro _ ⟨k3,Y8,rfl,W',TD,Xo⟩;dsimp only
    (simp (disch:=omega) only [b6,dD,dC,cG])
    exact Ok.ret ⟨⟨_,_,_,rfl,by omega,by omega,W',TD,Xo⟩,by dsimp only;omega⟩
  ·exact Ok.ret ⟨_,_,_,_,rfl,hd',Zy,Xy⟩
 rintro _ ⟨a,b,k3,code,rfl,W',Zy,Xy⟩;dsimp only;refine Ok.bind (P:=λr=>∃k' code,r=(l,k',(),(),(),code,s,d,())/\DOk l k'/\code.length<=63/\∀i∈code,dS s.length (code.length+1) i) ?_ ?_
 ·(with_reducible refine dB (by assumption) (by omega) (by omega) (λv1 k1 a1 b1 d1=>?_);try dsimp only)
  (with_reducible refine cF (λhcc=>?_) λhcc=>?_)
  ·(simp (disch:=omega) only [b6,dD,dC,cG])
   (with_reducible refine dB (by assumption) (by omega) (by omega) (λv2 k2 a2 b2 d2=>?_);try dsimp only)
   refine cu (dJ (by simp;omega)) ?_;refine Ok.ret ⟨_,_,rfl,d2,by rw[eH];simp;omega,?_⟩;rw[eH];exact j7 (λi hi=>(Xy i hi).mono (by simp;omega)) (all_cons (CD (by omega) (by simp;omega)) cx)
  ·(with_reducible refine cF (λhcc=>?_) λhcc=>?_)
   ·refine cu (dJ (by simp;omega)) ?_;refine Ok.ret ⟨_,_,rfl,d1,by rw[eH];simp;omega,?_⟩;rw[eH];exact j7 (λi hi=>(Xy i hi).mono (by simp;omega)) (all_cons Ch cx)
   ·exact Ok.ret ⟨_,_,rfl,d1,by omega,λi hi=>(Xy i hi).mono (by omega)⟩
 rintro _ ⟨k4,Y8,rfl,OF,TD,Xo⟩;dsimp only
 (with_reducible refine dB (by assumption) (by omega) (by omega) (λv3 k3 a3 b3 d3=>?_);try dsimp only)
 simp only[DB,Bm,oBS];refine cu (dJ (by simp;omega)) ?_;simp only[eH];refine Ok.cond (λhc=>?_) λ_=>?_
 ·have ZY:∀i∈List.append Y8 [(1,0,0,0,v3),(23,0,0,0,0)],dS s.length (Y8.length+1) i:=j7 Xo (all_cons (rA (by omega) (by omega)) (all_cons (nj (by omega)) cx));simp only[oDE]at hc
  have QR:(Y8.length:Int)+2>64:=by
   have:((Y8.length + [((1:Int),(0:Int),(0:Int),(0:Int),v3),(23,0,0,0,0)].length:Nat):Int)>64:=hc;simpa using this
  have U2:Y8.length=63:=by omega
  refine cu (by rw[U2];rfl) ?_
  have hlen:(o4 (List.append Y8 [((1:Int),(0:Int),(0:Int),(0:Int),v3),(23,0,0,0,0)]) 0 (Nat.sub 64 0)).length=64:=by
   unfold o4;rw[oLT,List.drop_zero,eH,U2];rfl
  have hp:pF (o4 (List.append Y8 [((1:Int),(0:Int),(0:Int),(0:Int),v3),(23,0,0,0,0)]) 0 (Nat.sub 64 0)) s d:=by
   refine⟨hs,Wt,ZU,WK,by rw[hlen];decide,λi hi=>?_⟩;rw[hlen];refine(ZY i ?_).mono (by omega);unfold o4 at hi;exact List.mem_of_mem_drop (List.mem_of_mem_take hi)
  refine(uZ (l:=l) (k:=_) hp).bind ?_;rintro _ ⟨a,b,c,rfl⟩;exact Ok.ret ⟨_,_,_,_,rfl,hp,d3⟩
 ·have hp:pF (List.append Y8 [(1,0,0,0,v3),(23,0,0,0,0)]) s d:=by
   refine⟨hs,Wt,ZU,WK,?_,?_⟩
   ·rw[eH];rename_i hc;have QR:¬((Y8.length + [((1:Int),(0:Int),(0:Int),(0:Int),v3),(23,0,0,0,0)].length:Nat):Int)>64:=of_decide_eq_false hc;simp only[oLC,List.length_nil]at QR⊢;omega
   ·rw[eH];exact j7 (λi hi=>(Xo i hi).mono (by simp)) (all_cons (rA (by omega) (by omega)) (all_cons (nj (by omega)) cx))
  have hf:=uZ (l:=l) (k:=k3) hp;rw[eH]at hf;refine hf.bind ?_;rintro _ ⟨a,b,c,rfl⟩;exact Ok.ret ⟨_,_,_,_,rfl,hp,d3⟩
theorem A8{P:Int->Prop}{s:List Int}{i:Nat}{x:Int}(h:∀(j:Nat) y,j<i->s[j]?=some y->P y)(hx:s[i]?=some x)(hp:P x):∀(j:Nat) y,j<i+1->s[j]?=some y->P y:=by
 grind
theorem wV{s:List Int}(hl:s.length<=1000):Ok (cW s) λr=>r.1=true↔zx s:=by
 unfold cW;delta bQ
 try dsimp only
 obtain⟨t,e,ht⟩:=lB (f:=fF) (n:=NN) (s:=(s,s,(s.length:Int),0,())) (P:=λs'=>∃i:Nat,s'=(s,s,(s.length:Int),(i:Int),())/\i<=s.length/\∀(j:Nat) y,j<i->s[j]?=some y->1<=y/\y<=32)
  (R:=λr=>(r=.inl (false,())/\∃y∈s,¬(1<=y/\y<=32))\/((∃a b c d,r=.inr (s,a,b,c,d,()))/\∀y∈s,1<=y/\y<=32)) (m:=λs'=>(s'.2.2.1-s'.2.2.2.1).toNat) ⟨0,rfl,by omega,λj y hj=>by omega⟩ (by unfold NN;dsimp only;omega) (by
   rintro _ ⟨i,rfl,hi,ZY⟩;unfold fF
   (with_reducible refine cF (λhcc=>?_) λhcc=>?_)
   ·rw[co];refine Ok.get (by omega) λx hx=>?_
    (with_reducible refine cF (λPl=>?_) λPl=>?_)
    ·exact Ok.ret (.inl ⟨rfl,x,dy hx,by omega⟩)
    ·(with_reducible refine cF (λPm=>?_) λPm=>?_)
     ·exact Ok.ret (.inl ⟨rfl,x,dy hx,by omega⟩)
     ·(simp (disch:=omega) only [b6,dD,dC,cG])
      exact Ok.ret ⟨⟨i+1,rfl,by omega,A8 ZY hx ⟨by omega,by omega⟩⟩,by dsimp only;omega⟩
   ·refine Ok.ret (.inr ⟨⟨_,_,_,_,rfl⟩,λy hy=>?_⟩);have ⟨j,hj⟩:=List.getElem?_of_mem hy
    exact ZY j y (by have:=(oGS hj).1;omega) hj)
 rw[e]
 rcases ht with⟨rfl,y,hy,hn⟩|⟨⟨a,b,c,d,rfl⟩,ZY⟩
 ·exact Ok.ret ⟨λh=>(by cases h),λh=>absurd (h.2.2 y hy) hn⟩
 ·dsimp only
  (with_reducible refine cF (λhcc=>?_) λhcc=>?_)
  ·exact Ok.ret ⟨λh=>⟨by omega,(by have:=of_decide_eq_true h;omega),ZY⟩,λh=>oDT (by have:=h.2.1;omega)⟩
  ·exact Ok.ret ⟨λh=>(by cases h),λh=>by have:=h.1;omega⟩
abbrev VS(xs:List Int):Prop:=zx xs
theorem CL{l:List Int}{k:Nat}(h:k<l.length):l.getD k 0=l[k]:=by simp[List.getD,h]
def mP(bs ss:List Int)(i:Nat):Prop:=
 0<=bs.getD i 0/\bs.getD i 0+ss.getD i 0<=512/\∀k,k<i->¬(bs.getD i 0<=bs.getD k 0+ss.getD k 0/\bs.getD k 0<=bs.getD i 0+ss.getD i 0)
def LV(bs ss:List Int):Prop:=VS ss/\bs.length=ss.length/\∀i,i<bs.length->mP bs ss i
theorem VS.at_{ss:List Int}(h:VS ss){i:Nat}(hi:i<ss.length):1<=ss[i]/\ss[i]<=32:=h.2.2 _ (List.getElem_mem hi)
def jM(ss:List Int)(seed:Int):Nat->List Int×Int
 |0=>(List.replicate ss.length 0,1+seed/ss.length%50)
 |k+1=>((jM ss seed k).1.set (((k+seed)%ss.length).toNat) (jM ss seed k).2,(jM ss seed k).2+(ss.getD ((k+seed)%ss.length).toNat 0+1+seed/(50*ss.length)%40))
def mkB(ss:List Int)(seed:Int):List Int:=(jM ss seed ss.length).1
theorem As(ss:List Int)(seed:Int)(k:Nat):(jM ss seed k).1.length=ss.length:=by
 induction k with
 |zero=>simp[jM]
 |succ k ih=>simp[jM,ih]
theorem VS.getD{ss:List Int}(h:VS ss){i:Nat}(hi:i<ss.length):1<=ss.getD i 0/\ss.getD i 0<=32:=by rw[CL hi];exact h.at_ hi
theorem Bq{n k:Nat}{seed:Int}(hn:1<=n):0<=((k:Int)+seed)%n/\((k:Int)+seed)%n<n:=
 ⟨Int.emod_nonneg _ (by omega),Int.emod_lt_of_pos _ (by omega)⟩
theorem Cu{ss:List Int}{seed:Int}(h:VS ss)(hs:0<=seed)(k:Nat):1<=(jM ss seed k).2/\(jM ss seed k).2<=50+72*k:=by
 induction k with
 |zero=>simp[jM];omega
 |succ k ih=>
  simp only[jM];have hr:=Bq (k:=k) (seed:=seed) h.1;have:=h.getD (i:=(((k:Int)+seed)%ss.length).toNat) (by omega);omega
theorem yw{ss:List Int}(h0:1<=ss.length)(h1:ss.length<=4):(∃a,ss=[a])\/(∃a b,ss=[a,b])\/(∃a b c,ss=[a,b,c])\/(∃a b c d,ss=[a,b,c,d]):=by
 match ss,h0,h1 with
 | [a],_,_=>simp_all
 | [a,b],_,_=>simp_all
 | [a,b,c],_,_=>simp_all
 | [a,b,c,d],_,_=>simp_all
theorem mS{P:Nat->Prop}(h0:P 0):∀i,i<1->P i:=by
 simp_all
theorem pS{P:Nat->Prop}(h0:P 0)(h1:P 1):∀i,i<2->P i:=by
 grind
theorem uE{P:Nat->Prop}(h0:P 0)(h1:P 1)(h2:P 2):∀i,i<3->P i:=by
 grind
theorem Ad{P:Nat->Prop}(h0:P 0)(h1:P 1)(h2:P 2)(h3:P 3):∀i,i<4->P i:=by
 grind
def zy(b s:Int):Prop:=0<=b/\b+s<=512
def cP(b s b' s':Int):Prop:=¬(b<=b'+s'/\b'<=b+s)
theorem LV1{a x:Int}(hv:VS [a])(h:zy x a):LV [x] [a]:=
 ⟨hv,rfl,mS ⟨h.1,h.2,λk hk=>by omega⟩⟩
theorem LV2{a b x y:Int}(hv:VS [a,b])(h:zy x a)(h':zy y b)(h1:cP y b x a):LV [x,y] [a,b]:=
 ⟨hv,rfl,pS ⟨h.1,h.2,λk hk=>by omega⟩ ⟨h'.1,h'.2,mS h1⟩⟩
theorem LV3{a b c x y z:Int}(hv:VS [a,b,c])(h:zy x a)(h':zy y b)(Tr:zy z c)(h1:cP y b x a)(h2:cP z c x a)(h3:cP z c y b):LV [x,y,z] [a,b,c]:=
 ⟨hv,rfl,uE ⟨h.1,h.2,λk hk=>by omega⟩ ⟨h'.1,h'.2,mS h1⟩ ⟨Tr.1,Tr.2,pS h2 h3⟩⟩
theorem LV4{a b c d x y z u:Int}(hv:VS [a,b,c,d])(h:zy x a)(h':zy y b)(Tr:zy z c)(Ts:zy u d)(h1:cP y b x a)(h2:cP z c x a)(h3:cP z c y b)(h4:cP u d x a)(h5:cP u d y b)(h6:cP u d z c):LV [x,y,z,u] [a,b,c,d]:=
 ⟨hv,rfl,Ad ⟨h.1,h.2,λk hk=>by omega⟩ ⟨h'.1,h'.2,mS h1⟩ ⟨Tr.1,Tr.2,pS h2 h3⟩ ⟨Ts.1,Ts.2,uE h4 h5 h6⟩⟩
theorem DZ{ss:List Int}(hv:VS ss){seed:Int}(hs:0<=seed):LV (mkB ss seed) ss:=by
 have XE:=hv
 rcases yw hv.1 hv.2.1 with⟨a,rfl⟩|⟨a,b,rfl⟩|⟨a,b,c,rfl⟩|⟨a,b,c,d,rfl⟩
 ·obtain⟨_,_,hx⟩:=hv;have ha:=hx a (by simp)
  have e0:(((0:Nat):Int)+seed)%1=0:=by omega
  have hB:mkB [a] seed=[1+seed/1%50]:=by simp[mkB,jM,List.replicate]
  rw[hB];exact LV1 XE ⟨by omega,by omega⟩
 ·obtain⟨_,_,hx⟩:=hv;have ha:=hx a (by simp);have hb:=hx b (by simp)
  rcases(show seed%2=0\/seed%2=1 by omega)with ht|ht
  ·have e1:(1+seed)%2=1:=by omega
   simp only[mkB,jM,oLC,List.length_nil,List.replicate];simp[ht,e1];exact LV2 XE ⟨by omega,by omega⟩ ⟨by omega,by omega⟩ (by unfold cP;omega)
  ·have e1:(1+seed)%2=0:=by omega
   simp only[mkB,jM,oLC,List.length_nil,List.replicate];simp[ht,e1];exact LV2 XE ⟨by omega,by omega⟩ ⟨by omega,by omega⟩ (by unfold cP;omega)
 ·obtain⟨_,_,hx⟩:=hv;have ha:=hx a (by simp);have hb:=hx b (by simp);have hc:=hx c (by simp)
  rcases(show seed%3=0\/seed%3=1\/seed%3=2 by omega)with ht|ht|ht
  ·have e1:(1+seed)%3=1:=by omega
   have e2:(2+seed)%3=2:=by omega
   simp only[mkB,jM,oLC,List.length_nil,List.replicate];simp[ht,e1,e2];exact LV3 XE ⟨by omega,by omega⟩ ⟨by omega,by omega⟩ ⟨by omega,by omega⟩ (by unfold cP;omega) (by unfold cP;omega) (by unfold cP;omega)
  ·have e1:(1+seed)%3=2:=by omega
   have e2:(2+seed)%3=0:=by omega
   simp only[mkB,jM,oLC,List.length_nil,List.replicate];simp[ht,e1,e2];exact LV3 XE ⟨by omega,by omega⟩ ⟨by omega,by omega⟩ ⟨by omega,by omega⟩ (by unfold cP;omega) (by unfold cP;omega) (by unfold cP;omega)
  ·have e1:(1+seed)%3=0:=by omega
   have e2:(2+seed)%3=1:=by omega
   simp only[mkB,jM,oLC,List.length_nil,List.replicate];simp[ht,e1,e2];exact LV3 XE ⟨by omega,by omega⟩ ⟨by omega,by omega⟩ ⟨by omega,by omega⟩ (by unfold cP;omega) (by unfold cP;omega) (by unfold cP;omega)
 ·obtain⟨_,_,hx⟩:=hv;have ha:=hx a (by simp);have hb:=hx b (by simp);have hc:=hx c (by simp);have hd:=hx d (by simp)
  have hq:∀q g:Int,q=1+seed/4%50->g=seed/(50*4)%40->1<=q/\q<=50/\0<=g/\g<40:=λq g e e'=>by subst e;subst e';omega
  rcases(show seed%4=0\/seed%4=1\/seed%4=2\/seed%4=3 by omega)with ht|ht|ht|ht
  ·have e1:(1+seed)%4=1:=by omega
   have e2:(2+seed)%4=2:=by omega
   have e3:(3+seed)%4=3:=by omega
   simp only[mkB,jM,oLC,List.length_nil,List.replicate];simp[ht,e1,e2,e3];exact LV4 XE ⟨by omega,by omega⟩ ⟨by omega,by omega⟩ ⟨by omega,by omega⟩ ⟨by omega,by omega⟩ (by unfold cP;omega) (by unfold cP;omega) (by unfold cP;omega) (by unfold cP;omega) (by unfold cP;omega) (by unfold cP;omega)
  ·have e1:(1+seed)%4=2:=by omega
   have e2:(2+seed)%4=3:=by omega
   have e3:(3+seed)%4=0:=by omega
   simp only[mkB,jM,oLC,List.length_nil,List.replicate];simp[ht,e1,e2,e3];exact LV4 XE ⟨by omega,by omega⟩ ⟨by omega,by omega⟩ ⟨by omega,by omega⟩ ⟨by omega,by omega⟩ (by unfold cP;omega) (by unfold cP;omega) (by unfold cP;omega) (by unfold cP;omega) (by unfold cP;omega) (by unfold cP;omega)
  ·have e1:(1+seed)%4=3:=by omega
   have e2:(2+seed)%4=0:=by omega
   have e3:(3+seed)%4=1:=by omega
   simp only[mkB,jM,oLC,List.length_nil,List.replicate];simp[ht,e1,e2,e3];exact LV4 XE ⟨by omega,by omega⟩ ⟨by omega,by omega⟩ ⟨by omega,by omega⟩ ⟨by omega,by omega⟩ (by unfold cP;omega) (by unfold cP;omega) (by unfold cP;omega) (by unfold cP;omega) (by unfold cP;omega) (by unfold cP;omega)
  ·have e1:(1+seed)%4=0:=by omega
   have e2:(2+seed)%4=1:=by omega
   have e3:(3+seed)%4=2:=by omega
   simp only[mkB,jM,oLC,List.length_nil,List.replicate];simp[ht,e1,e2,e3];exact LV4 XE ⟨by omega,by omega⟩ ⟨by omega,by omega⟩ ⟨by omega,by omega⟩ ⟨by omega,by omega⟩ (by unfold cP;omega) (by unfold cP;omega) (by unfold cP;omega) (by unfold cP;omega) (by unfold cP;omega) (by unfold cP;omega)
theorem wa{α:Type}(l:List α)(i:Nat)(a:α):List.modify l i (λ_=>a)=l.set i a:=by
 apply List.ext_getElem?
 grind
theorem Cx{s:List Int}{seed:Int}(hs:zx s)(h0:0<=seed)(h1:seed<=1073741824):Ok (gD s seed) λr=>∃key,r=(mkB s seed,key,0,())/\W16 key:=by
 obtain⟨Ze,Tk,hsz⟩:=id hs;unfold gD;delta bQ
 try dsimp only
 refine Ok.bind (P:=λr=>r=(s,seed,false,(),0,())) ?_ ?_
 ·refine(wV (by omega)).bind ?_;rintro⟨v,_⟩ hv;have hv:v=true:=hv.2 hs;subst hv;simp only[oNT,oCF]
  (with_reducible refine cF (λRN=>?_) λRN=>?_)
  ·omega
  ·exact Ok.ret (by rw[oDF (by omega)])
 rintro _ rfl;dsimp only;refine Ok.cond (λh=>by cases h) λ_=>?_;rw[co];simp only[oBS];refine cu (by unfold kP;rw[oBA];exact⟨oDT rfl,oDT (by omega)⟩) ?_;refine cu (by rw[bne_iff_ne];omega) ?_;have Yy:Int.tdiv seed s.length=seed/s.length:=Int.tdiv_eq_ediv_of_nonneg h0;have hq:0<=seed/(s.length:Int)/\seed/(s.length:Int)<=seed:=⟨Int.ediv_nonneg h0 (by omega),Int.ediv_le_self _ h0⟩;have Th:Int.tmod (seed/(s.length:Int)) 50=seed/(s.length:Int)%50:=Int.tmod_eq_emod_of_nonneg hq.1;rw[Yy,b6 (x:=seed/(s.length:Int)) (by omega) (by omega),Th,b6 (x:=1+seed/(s.length:Int)%50) (by omega) (by omega)]
 have Vi:W16 (wk .u16 (w64 (40503*seed))):=by
  unfold wk;rw[ui];exact⟨by omega,by omega⟩
 generalize wk .u16 (w64 (40503*seed))=key at Vi
 refine Ok.loop (P:=λs'=>∃k:Nat,s'=(s,seed,(s.length:Int),(jM s seed k).2,(s.length:Int),(k:Int),(),0,(jM s seed k).1,key,())/\k<=s.length) (R:=λr=>∃a b c d e f g h,r=(a,b,c,d,e,f,g,(),h,(jM s seed s.length).1,key,()))
  (m:=λs'=>(s'.2.2.2.2.1-s'.2.2.2.2.2.1).toNat) ⟨0,rfl,by omega⟩ (by unfold NN;dsimp only;omega) ?_ ?_
 ·rintro _ ⟨k,rfl,hk⟩;unfold iX;dsimp only;have hb:=Cu hs h0 k
  (with_reducible refine cF (λhcc=>?_) λhcc=>?_)
  ·have hr:=Bq (k:=k) (seed:=seed) Ze;rw[b6 (x:=(k:Int)+seed) (by omega) (by omega)];refine cu (by rw[bne_iff_ne];omega) ?_;rw[Int.tmod_eq_emod_of_nonneg (show 0<=(k:Int)+seed by omega)];refine Ok.nat hr.1 λr UT=>?_;have hl:=As s seed k;refine Ok.get (by omega) λx hx=>?_;refine Ok.get (by omega) λy hy=>?_;refine Ok.nat hr.1 λr2 P0=>?_
   have:r2=r:=by omega
   subst this;refine Ok.get (by omega) λz hz=>?_;have WU:=hsz z (dy hz);rw[b6 (x:=z+1) (by omega) (by omega),b6 (x:=50*(s.length:Int)) (by omega) (by omega)];refine cu (by rw[bne_iff_ne];omega) ?_;have hd2:Int.tdiv seed (50*(s.length:Int))=seed/(50*s.length):=Int.tdiv_eq_ediv_of_nonneg h0;have Yf:0<=seed/(50*(s.length:Int))/\seed/(50*(s.length:Int))<=seed:=⟨Int.ediv_nonneg h0 (by omega),Int.ediv_le_self _ h0⟩;have Sn:Int.tmod (seed/(50*(s.length:Int))) 40=seed/(50*s.length)%40:=Int.tmod_eq_emod_of_nonneg Yf.1;rw[hd2,b6 (x:=seed/(50*(s.length:Int))) (by omega) (by omega),Sn];generalize hg:seed/(50*(s.length:Int))%40=g
   have ZN:0<=g/\g<40:=by omega
   rw[b6 (x:=z+1+g) (by omega) (by omega),b6 (x:=(jM s seed k).2+(z+1+g)) (by omega) (by omega),b6 (x:=(k:Int)+1) (by omega) (by omega),wa]
   have e1:(jM s seed (k+1)).1=(jM s seed k).1.set r2 (jM s seed k).2:=by
    simp only[jM];rw[UT];rfl
   have e2:(jM s seed (k+1)).2=(jM s seed k).2+(z+1+g):=by
    simp only[jM];rw[UT,hg,oTN,oGD,hz];rfl
   refine Ok.ret ⟨⟨k+1,?_,by omega⟩,by dsimp only;omega⟩;rw[e1,e2];rfl
  ·have:k=s.length:=by omega
   subst this;exact Ok.ret ⟨_,_,_,_,_,_,_,_,rfl⟩
 ·rintro _ ⟨a,b,c,d,e,f,g,h,rfl⟩;exact Ok.ret ⟨key,rfl,Vi⟩
theorem Bs{S T:Type}{f:S->Option (S⊕T)}(st:Nat->S){n N:Nat}{t:T}(hn:n<N)(h:∀i,i<n->Ok (f (st i)) (·=.inl (st (i+1))))(he:Ok (f (st n)) (·=.inr t)):b5 f N (st 0)=some t:=by
 have key:∀k i,i+k=n->∀N,k<N->b5 f N (st i)=some t:=by
  intro k
  induction k with
  |zero=>
   intro i hi N hN;obtain⟨x,e,hx⟩:=he
   have:i=n:=by omega
   subst this;obtain⟨N',rfl⟩:∃N',N=N'+1:=⟨N-1,by omega⟩;simp[b5,e,hx]
  |succ k ih=>
   intro i hi N hN;have ⟨x,e,hx⟩:=h i (by omega);obtain⟨N',rfl⟩:∃N',N=N'+1:=⟨N-1,by omega⟩;simp[b5,e,hx];exact ih (i+1) (by omega) N' (by omega)
 simp_all
theorem zB{α:Type}{o:Option α}{a:α}(h:Ok o (·=a)):o=some a:=by
 obtain⟨x,e,rfl⟩:=h;exact e
theorem cj{l:List Int}{k:Nat}{x:Int}(h:l[k]?=some x):l.getD k 0=x:=by simp_all
theorem Bo{S T:Type}{f:S->Option (S⊕T)}(st:Nat->S){n N:Nat}{bad good:T}(p:Nat->Prop)(hn:n<N)
 (h:∀i,i<n->(∀j,j<i->p j)->(p i/\f (st i)=some (.inl (st (i+1))))\/(¬p i/\f (st i)=some (.inr bad)))(he:f (st n)=some (.inr good)):
 ((∀i,i<n->p i)/\b5 f N (st 0)=some good)\/((¬ ∀i,i<n->p i)/\b5 f N (st 0)=some bad):=by
 have key:∀k i,i+k=n->(∀j,j<i->p j)->∀N,k<N->((∀i,i<n->p i)/\b5 f N (st i)=some good)\/((¬ ∀i,i<n->p i)/\b5 f N (st i)=some bad):=by
  intro k
  induction k with
  |zero=>
   intro i hi hp N hN
   obtain rfl:i=n:=by omega
   obtain⟨N',rfl⟩:∃N',N=N'+1:=⟨N-1,by omega⟩;exact .inl ⟨hp,by simp only[b5,he,oBS]⟩
  |succ k ih=>
   intro i hi hp N hN;obtain⟨N',rfl⟩:∃N',N=N'+1:=⟨N-1,by omega⟩
   rcases h i (by omega) hp with⟨Sy,e⟩|⟨Sy,e⟩
   ·simp only[b5,e];refine ih (i+1) (by omega) (λj hj=>?_) N' (by omega);by_cases hji:j=i
    ·rw[hji];exact Sy
    ·exact hp j (by omega)
   ·exact .inr ⟨λg=>Sy (g i (by omega)),by simp only[b5,e,oBS]⟩
 simp_all
def zo(o:Option (Bool×Unit))(p:Prop):Prop:=(p/\o=some (true,()))\/(¬p/\o=some (false,()))
theorem zo.val{o:Option (Bool×Unit)}{p:Prop}(h:zo o p):∃b,o=some (b,())/\(b=true↔p):=by
 rcases h with⟨h,e⟩|⟨h,e⟩
 all_goals simp_all
theorem zo.same{o o':Option (Bool×Unit)}{p:Prop}(h:zo o p)(h':zo o' p):o=o':=by
 rcases h with⟨h,e⟩|⟨h,e⟩<;>rcases h' with⟨h',e'⟩|⟨h',e'⟩
 ·rw[e,e']
 ·simp_all
 ·simp_all
 ·rw[e,e']
theorem sW{ss:List Int}(h:ss.length<=1000):zo (cW ss) (zx ss):=by
 have ⟨⟨v,u⟩,e,hv⟩:=wV h
 cases v with
 |true=>exact .inl ⟨hv.1 rfl,e⟩
 |false=>exact .inr ⟨λg=>(by simp_all),e⟩
theorem CA{bs ss:List Int}{key:Int}(hb:bs.length<=1000)(hs:ss.length<=1000)(hi:∀b∈bs,lZ b):zo (ew bs key ss) (LV bs ss):=by
 unfold ew
 rcases sW hs with⟨hz,e⟩|⟨hz,e⟩
 rotate_left
 ·rw[e];exact .inr ⟨λh=>hz h.1,rfl⟩
 rw[e];delta bQ;simp only[oBS,oNT,oCF];by_cases hl:(bs.length:Int)=ss.length
 rotate_left
 ·rw[bne_iff_ne.2 hl];exact .inr ⟨λh=>hl (by rw[h.2.1]),rfl⟩
 rw[bne_eq_false_iff_eq.2 hl];have h4:=hz.2.1
 have Xf:=Bo (f:=cS) (N:=NN) (bad:=.inl (false,())) (good:=.inr (ss,bs,(bs.length:Int),(bs.length:Int),false,bs,key,())) (λi=>(ss,bs,(bs.length:Int),(i:Int),bs,key,())) (n:=bs.length) (λi=>mP bs ss i) (by unfold NN;omega) (λi ZJ Xb=>by
  obtain⟨b,YO⟩:∃b,bs[i]?=some b:=⟨_,oGE ZJ⟩;obtain⟨z,Yc⟩:∃z,ss[i]?=some z:=⟨_,oGE (by omega)⟩;have WU:=hz.2.2 z (dy Yc);have U7:=hi b (dy YO);unfold lZ at U7;unfold cS;delta bQ;dsimp only;rw[oDT (show(i:Int)<bs.length by omega),co];simp only[oCT,oBS,show cd bs i=some b from YO,show cd ss i=some z from Yc];rw[b6 (x:=512-z) (by omega) (by omega)];by_cases h0:b<0
  ·rw[oDT h0];exact .inr ⟨λh=>by unfold mP at h;rw[cj YO]at h;omega,rfl⟩
  rw[oDF h0];by_cases h1:b>512-z
  ·rw[oDT h1];exact .inr ⟨λh=>by unfold mP at h;rw[cj YO,cj Yc]at h;omega,rfl⟩
  rw[oDF h1]
  have Rf:(o4 bs 0 (Nat.sub i 0)).length=i:=by unfold o4;rw[oLT,List.drop_zero];show min i _=i;omega
  rw[show i3 0 i bs.length=true by unfold i3;simp;omega,Rf];simp only[oCT,oCF]
  rcases Bo (f:=cT) (N:=NN) (bad:=.inl (false,())) (good:=.inr (ss,(i:Int),b,bs,(bs.length:Int),(i:Int),o4 bs 0 (Nat.sub i 0),(i:Int),(i:Int),false,bs,key,())) (λj=>(ss,(i:Int),b,bs,(bs.length:Int),(i:Int),o4 bs 0 (Nat.sub i 0),(i:Int),(j:Int),bs,key,())) (n:=i) (λk=>¬(bs.getD i 0<=bs.getD k 0+ss.getD k 0/\bs.getD k 0<=bs.getD i 0+ss.getD i 0)) (by unfold NN;omega) (λj hj _=>by
   obtain⟨c,ZO⟩:∃c,bs[j]?=some c:=⟨_,oGE (by omega)⟩;obtain⟨y,V7⟩:∃y,ss[j]?=some y:=⟨_,oGE (by omega)⟩;have Wm:=hz.2.2 y (dy V7);have hc:=Xb j hj;unfold mP at hc;rw[cj ZO,cj V7]at hc
   have hx:(cd (o4 bs 0 (Nat.sub i 0)) j)=some c:=by
    unfold cd o4;rw[List.getElem?_take,List.drop_zero,<- ZO];exact oIP hj
   unfold cT;dsimp only;rw[oDT (show(j:Int)<i by omega),co,co];simp only[oCT,oBS,hx,show cd ss j=some y from V7,show cd ss i=some z from Yc];rw[b6 (x:=b+z) (by omega) (by omega),b6 (x:=c+y) (by omega) (by omega),cj YO,cj Yc,cj ZO,cj V7];by_cases g1:b+z>=c
   ·rw[oDT g1];by_cases g2:c+y>=b
    ·simp_all
    ·rw[oDF g2];simp only[oCT,oCF];rw[b6 (x:=(j:Int)+1) (by omega) (by omega)];exact .inl ⟨λh=>g2 (by omega),rfl⟩
   ·rw[oDF g1];simp only[oCT,oCF];rw[b6 (x:=(j:Int)+1) (by omega) (by omega)]
    exact .inl ⟨λh=>g1 (by omega),rfl⟩) (by
   unfold cT;dsimp only;rw[oDF (show ¬(i:Int)<i by omega)]
   rfl)with⟨hp,e⟩|⟨hp,e⟩
  ·rw[show b5 cT NN (ss,(i:Int),b,bs,(bs.length:Int),(i:Int),o4 bs 0 (Nat.sub i 0),(i:Int),0,bs,key,())=_ from e];dsimp only;rw[b6 (x:=(i:Int)+1) (by omega) (by omega)];refine .inl ⟨⟨?_,?_,hp⟩,rfl⟩
   ·rw[cj YO];omega
   ·rw[cj YO,cj Yc];omega
  ·rw[show b5 cT NN (ss,(i:Int),b,bs,(bs.length:Int),(i:Int),o4 bs 0 (Nat.sub i 0),(i:Int),0,bs,key,())=_ from e]
   exact .inr ⟨λh=>hp h.2.2,rfl⟩) (by
  unfold cS;dsimp only;rw[oDF (show ¬(bs.length:Int)<bs.length by omega)]
  rfl)
 simp only[oCF]
 rcases Xf with⟨hp,e⟩|⟨hp,e⟩
 ·rw[show b5 cS NN (ss,bs,(bs.length:Int),0,bs,key,())=_ from e];exact .inl ⟨⟨hz,by omega,hp⟩,rfl⟩
 ·rw[show b5 cS NN (ss,bs,(bs.length:Int),0,bs,key,())=_ from e];exact .inr ⟨λh=>hp h.2.2,rfl⟩
theorem rj:fh=cW:=rfl
theorem EC{bs ss:List Int}{key:Int}(hb:bs.length<=1000)(hs:ss.length<=1000)(hi:∀b∈bs,lZ b):zo (fi bs key ss) (LV bs ss):=by
 unfold fi;rw[rj]
 rcases sW hs with⟨hz,e⟩|⟨hz,e⟩
 rotate_left
 ·rw[e];exact .inr ⟨λh=>hz h.1,rfl⟩
 rw[e];delta bQ;simp only[oBS,oNT,oCF];by_cases hl:(bs.length:Int)=ss.length
 rotate_left
 ·rw[bne_iff_ne.2 hl];exact .inr ⟨λh=>hl (by rw[h.2.1]),rfl⟩
 rw[bne_eq_false_iff_eq.2 hl];have h4:=hz.2.1
 have Xf:=Bo (f:=cI) (N:=NN) (bad:=.inl (false,())) (good:=.inr (ss,bs,(bs.length:Int),(bs.length:Int),false,bs,key,())) (λi=>(ss,bs,(bs.length:Int),(i:Int),bs,key,())) (n:=bs.length) (λi=>mP bs ss i) (by unfold NN;omega) (λi ZJ Xb=>by
  obtain⟨b,YO⟩:∃b,bs[i]?=some b:=⟨_,oGE ZJ⟩;obtain⟨z,Yc⟩:∃z,ss[i]?=some z:=⟨_,oGE (by omega)⟩;have WU:=hz.2.2 z (dy Yc);have U7:=hi b (dy YO);unfold lZ at U7;unfold cI;dsimp only;rw[oDT (show(i:Int)<bs.length by omega),co];simp only[oCT,oBS,show cd bs i=some b from YO,show cd ss i=some z from Yc];by_cases h0:b<0
  ·rw[oDT h0];exact .inr ⟨λh=>by unfold mP at h;rw[cj YO]at h;omega,rfl⟩
  rw[oDF h0];by_cases h1:b>=512
  ·rw[oDT h1];exact .inr ⟨λh=>by unfold mP at h;rw[cj YO,cj Yc]at h;omega,rfl⟩
  rw[oDF h1,b6 (x:=b+z) (by omega) (by omega)];by_cases h2:b+z>512
  ·rw[oDT h2];exact .inr ⟨λh=>by unfold mP at h;rw[cj YO,cj Yc]at h;omega,rfl⟩
  rw[oDF h2];simp only[oCF,oBS]
  rcases Bo (f:=cJ) (N:=NN) (bad:=.inl (false,())) (good:=.inr (ss,(i:Int),b,bs,(bs.length:Int),(i:Int),(i:Int),(i:Int),false,bs,key,())) (λj=>(ss,(i:Int),b,bs,(bs.length:Int),(i:Int),(i:Int),(j:Int),bs,key,())) (n:=i) (λk=>¬(bs.getD i 0<=bs.getD k 0+ss.getD k 0/\bs.getD k 0<=bs.getD i 0+ss.getD i 0)) (by unfold NN;omega) (λj hj _=>by
   obtain⟨c,ZO⟩:∃c,bs[j]?=some c:=⟨_,oGE (by omega)⟩;obtain⟨y,V7⟩:∃y,ss[j]?=some y:=⟨_,oGE (by omega)⟩;have Wm:=hz.2.2 y (dy V7);have hc:=Xb j hj;unfold mP at hc;rw[cj ZO,cj V7]at hc;unfold cJ;dsimp only;rw[oDT (show(j:Int)<i by omega),co,co];simp only[oCT,oBS,show cd bs j=some c from ZO,show cd ss j=some y from V7,show cd ss i=some z from Yc];rw[b6 (x:=b+z) (by omega) (by omega),b6 (x:=c+y) (by omega) (by omega),cj YO,cj Yc,cj ZO,cj V7];by_cases g1:b<=c+y
   ·rw[oDT g1];by_cases g2:c<=b+z
    ·simp_all
    ·rw[oDF g2];simp only[oCT,oCF];rw[b6 (x:=(j:Int)+1) (by omega) (by omega)];exact .inl ⟨λh=>g2 (by omega),rfl⟩
   ·rw[oDF g1];simp only[oCT,oCF];rw[b6 (x:=(j:Int)+1) (by omega) (by omega)]
    exact .inl ⟨λh=>g1 (by omega),rfl⟩) (by
   unfold cJ;dsimp only;rw[oDF (show ¬(i:Int)<i by omega)]
   rfl)with⟨hp,e⟩|⟨hp,e⟩
  ·rw[show b5 cJ NN (ss,(i:Int),b,bs,(bs.length:Int),(i:Int),(i:Int),0,bs,key,())=_ from e];dsimp only;rw[b6 (x:=(i:Int)+1) (by omega) (by omega)];refine .inl ⟨⟨?_,?_,hp⟩,rfl⟩
   ·rw[cj YO];omega
   ·rw[cj YO,cj Yc];omega
  ·rw[show b5 cJ NN (ss,(i:Int),b,bs,(bs.length:Int),(i:Int),(i:Int),0,bs,key,())=_ from e]
   exact .inr ⟨λh=>hp h.2.2,rfl⟩) (by
  unfold cI;dsimp only;rw[oDF (show ¬(bs.length:Int)<bs.length by omega)]
  rfl)
 simp only[oCF]
 rcases Xf with⟨hp,e⟩|⟨hp,e⟩
 ·rw[show b5 cI NN (ss,bs,(bs.length:Int),0,bs,key,())=_ from e];exact .inl ⟨⟨hz,by omega,hp⟩,rfl⟩
 ·rw[show b5 cI NN (ss,bs,(bs.length:Int),0,bs,key,())=_ from e];exact .inr ⟨λh=>hp h.2.2,rfl⟩
def Fld(u:Bool)(v m:Int):Prop:=v=0\/(u=true/\0<v/\v<=m)
def mK(o:Int):Int:=bif ke o then 63 else bif o==15 then 3 else bif o==23 then 15 else 65535
def Dd(o a b c i:Int):Prop:=(0<=o/\o<=24)/\Fld (gc o) a 7/\Fld (gb o) b 7/\Fld (fK o) c 7/\Fld (ga o) i (mK o)
theorem yV:gV=dL:=rfl
theorem rp:fQ=cV:=rfl
theorem Aq(o:Int):mK o<=65535:=by
 unfold mK
 grind
theorem mY{u:Bool}{v m:Int}:zo (cK u v m) (Fld u v m):=by
 unfold cK Fld;by_cases h0:v=0
 ·rw[show(v==0)=true from beq_iff_eq.2 h0];exact .inl ⟨.inl h0,rfl⟩
 rw[show(v==0)=false from oBF h0]
 cases u with
 |false=>exact .inr ⟨λh=>h.elim h0 λh=>(by cases h.1),rfl⟩
 |true=>
  by_cases h1:v>0
  rotate_left
  ·rw[oDF h1];exact .inr ⟨λh=>by omega,rfl⟩
  rw[oDT h1];by_cases h2:v<=m
  ·rw[oDT h2];exact .inl ⟨.inr ⟨rfl,h1,h2⟩,rfl⟩
  ·rw[oDF h2];exact .inr ⟨λh=>by omega,rfl⟩
theorem Cr{o:Int}:gF o=some (mK o,()):=by
 unfold gF mK;rw[rp,lU]
 grind
theorem EE{o a b c i:Int}:zo (eD o a b c i) (Dd o a b c i):=by
 unfold eD Dd;by_cases h0:o<0
 ·rw[oDT h0];exact .inr ⟨λh=>by omega,rfl⟩
 rw[oDF h0];by_cases h1:o>24
 ·rw[oDT h1];exact .inr ⟨λh=>by omega,rfl⟩
 rw[oDF h1,yV,sS (by omega) (by omega)];simp
 rcases mY (v:=a) (m:=7)with⟨hA,e⟩|⟨hA,e⟩
 rotate_left
 ·rw[e];exact .inr ⟨λh=>hA h.2.1,rfl⟩
 rw[e]
 rcases mY (v:=b) (m:=7)with⟨hB,e⟩|⟨hB,e⟩
 rotate_left
 ·rw[e];exact .inr ⟨λh=>hB h.2.2.1,rfl⟩
 rw[e]
 rcases mY (u:=fK o) (v:=c) (m:=7)with⟨hC,e⟩|⟨hC,e⟩
 rotate_left
 ·rw[e];exact .inr ⟨λh=>hC h.2.2.2.1,rfl⟩
 rw[e,Cr]
 rcases mY (u:=ga o) (v:=i) (m:=mK o)with⟨hI,e⟩|⟨hI,e⟩
 rotate_left
 ·simp;rw[e];exact .inr ⟨λh=>hI h.2.2.2.2,rfl⟩
 simp;rw[e];exact .inl ⟨⟨by omega,hA,hB,hC,hI⟩,rfl⟩
theorem ED{o a b c i:Int}:zo (fM o a b c i) (Dd o a b c i):=by
 have step:∀(k:Nat)(x:Int)(u:Bool),k<3->[a,b,c][k]?=some x->(k=0->u=gc o)->(k=1->u=gb o)->(k=2->u=fK o)->
  (Fld u x 7/\cC (3,(k:Int),o,a,b,c,i,gc o,gb o,fK o,ga o,[a,b,c],())=some (.inl (3,((k+1:Nat):Int),o,a,b,c,i,gc o,gb o,fK o,ga o,[a,b,c],())))\/
  (¬Fld u x 7/\cC (3,(k:Int),o,a,b,c,i,gc o,gb o,fK o,ga o,[a,b,c],())=some (.inr (.inl (false,())))):=by
  intro k x u hk hx h0 h1 h2;unfold cC;dsimp only;rw[oDT (show(k:Int)<3 by omega),co];simp only[oCT,oBS,show cd [a,b,c] k=some x from hx];by_cases g0:x<0
  ·rw[oDT g0];exact .inr ⟨λh=>by unfold Fld at h;omega,rfl⟩
  rw[oDF g0];by_cases g1:x>=8
  ·rw[oDT g1];exact .inr ⟨λh=>by unfold Fld at h;omega,rfl⟩
  rw[oDF g1];have hw:w64 ((k:Int)+1)=((k+1:Nat):Int):=b6 (by omega) (by omega)
  have YD:∀(R:Bool),(R=true↔¬Fld u x 7)->(Fld u x 7/\(bif R then some (.inr (.inl (false,())))else some (.inl ((3:Int),w64 ((k:Int)+1),o,a,b,c,i,gc o,gb o,fK o,ga o,[a,b,c],())):Option ((Int×Int×Int×Int×Int×Int×Int×Bool×Bool×Bool×Bool×(List (Int))×Unit)⊕((Bool×Unit)⊕(Int×Int×Bool×Int×Int×Int×Int×Int×Bool×Bool×Bool×Bool×(List (Int))×Unit))))=some (.inl (3,((k+1:Nat):Int),o,a,b,c,i,gc o,gb o,fK o,ga o,[a,b,c],())))\/
   (¬Fld u x 7/\(bif R then some (.inr (.inl (false,())))else some (.inl ((3:Int),w64 ((k:Int)+1),o,a,b,c,i,gc o,gb o,fK o,ga o,[a,b,c],())):Option ((Int×Int×Int×Int×Int×Int×Int×Bool×Bool×Bool×Bool×(List (Int))×Unit)⊕((Bool×Unit)⊕(Int×Int×Bool×Int×Int×Int×Int×Int×Bool×Bool×Bool×Bool×(List (Int))×Unit))))=some (.inr (.inl (false,())))):=by
   intro R hR
   cases R with
   |true=>exact .inr ⟨hR.1 rfl,rfl⟩
   |false=>exact .inl ⟨Classical.byContradiction λh=>(by cases hR.2 h),by rw[hw];rfl⟩
  have SQ:(x != 0)=true↔¬x=0:=by rw[bne_iff_ne]
  have hF:u=false->((x != 0)=true↔¬Fld u x 7):=λhu=>by
   rw[SQ];unfold Fld;rw[hu];exact⟨λh g=>g.elim h λg=>(by cases g.1),λh g=>h (.inl g)⟩
  have hT:u=true->((false=true)↔¬Fld u x 7):=λhu=>⟨λh=>(by cases h),λh=>absurd (show Fld u x 7 by rw[hu];exact(show x=0\/(0<x/\x<=7) by omega).elim .inl λg=>.inr ⟨rfl,g⟩) h⟩
  rcases(show k=0\/k=1\/k=2 by omega)with rfl|rfl|rfl
  ·have hu:=h0 rfl
   cases hA:gc o with
   |true=>rw[hA]at hu YD;exact YD false (hT hu)
   |false=>rw[hA]at hu YD;exact YD (x != 0) (hF hu)
  ·have hu:=h1 rfl
   cases hB:gb o with
   |true=>rw[hB]at hu YD;exact YD false (hT hu)
   |false=>rw[hB]at hu YD;exact YD (x != 0) (hF hu)
  ·have hu:=h2 rfl
   cases hC:fK o with
   |true=>rw[hC]at hu YD;exact YD false (hT hu)
   |false=>rw[hC]at hu YD;exact YD (x != 0) (hF hu)
 unfold fM;by_cases h0:o<0
 ·rw[oDT h0];exact .inr ⟨λh=>by unfold Dd at h;omega,rfl⟩
 rw[oDF h0];by_cases h1:o>24
 ·rw[oDT h1];exact .inr ⟨λh=>by unfold Dd at h;omega,rfl⟩
 rw[oDF h1,sS (by omega) (by omega)];simp only[oCF,oBS];rw[show bQ [a,b,c].length=3 from rfl]
 rcases Bo (f:=cC) (N:=NN) (bad:=.inl (false,())) (good:=.inr (3,3,false,o,a,b,c,i,gc o,gb o,fK o,ga o,[a,b,c],())) (λk=>(3,(k:Int),o,a,b,c,i,gc o,gb o,fK o,ga o,[a,b,c],())) (n:=3) (λk=>match k with|0=>Fld (gc o) a 7|1=>Fld (gb o) b 7|_=>Fld (fK o) c 7) (by unfold NN;omega) (λk hk _=>by
  rcases(show k=0\/k=1\/k=2 by omega)with rfl|rfl|rfl
  ·exact step 0 a _ (by omega) rfl (λ_=>rfl) (by omega) (by omega)
  ·exact step 1 b _ (by omega) rfl (by omega) (λ_=>rfl) (by omega)
  ·exact step 2 c _ (by omega) rfl (by omega) (by omega) (λ_=>rfl)) rfl with⟨hp,e⟩|⟨hp,e⟩
 rotate_left
 ·rw[show b5 cC NN (3,0,o,a,b,c,i,gc o,gb o,fK o,ga o,[a,b,c],())=_ from e];refine .inr ⟨λh=>hp λk hk=>?_,rfl⟩
  rcases(show k=0\/k=1\/k=2 by omega)with rfl|rfl|rfl
  ·exact h.2.1
  ·exact h.2.2.1
  ·exact h.2.2.2.1
 rw[show b5 cC NN (3,0,o,a,b,c,i,gc o,gb o,fK o,ga o,[a,b,c],())=_ from e];dsimp only;have hA:=hp 0 (by omega);have hB:=hp 1 (by omega);have hC:=hp 2 (by omega)
 have tail:i<=65535->((cV o).bind λ(x25,_)=>bif x25 then some ((decide (i<64)),())else bif(o==15)then some ((decide (i<4)),())else bif(o==23)then some ((decide (i<=15)),())else some (true,()))=some (decide (i<=mK o),()):=by
  intro hi;rw[lU];unfold mK;simp only[oBS];cases ke o<;>cases(o==15)<;>cases(o==23)<;>simp only[oCT,oCF]
  all_goals first
   |rw[oDT hi]
   |rw[show decide (i<64)=decide (i<=63)from decide_eq_decide.2 (by omega)]
   |rw[show decide (i<4)=decide (i<=3)from decide_eq_decide.2 (by omega)]
 have OI:=Aq o;by_cases g0:i<0
 ·rw[oDT g0];exact .inr ⟨λh=>by have:=h.2.2.2.2;unfold Fld at this;omega,rfl⟩
 rw[oDF g0];by_cases g1:i>65535
 ·rw[oDT g1];exact .inr ⟨λh=>by have:=h.2.2.2.2;unfold Fld at this;omega,rfl⟩
 rw[oDF g1]
 have X':0<=mK o:=by
  unfold mK;cases ke o<;>cases(o==15)<;>cases(o==23)<;>simp only[oCT,oCF]<;>omega
 cases hu:ga o with
 |false=>
  by_cases gi:i=0
  ·subst gi;simp only[oCF,Bool.not_false,oCT,oBS,bne_self_eq_false];rw[tail (by omega),oDT X'];exact .inl ⟨⟨by omega,hA,hB,hC,.inl rfl⟩,rfl⟩
  ·rw[show(i != 0)=true from bne_iff_ne.2 gi];exact .inr ⟨λh=>by have:=h.2.2.2.2;unfold Fld at this;rw[hu]at this;exact this.elim gi λh=>(by cases h.1),rfl⟩
 |true=>
  simp only[oCF,oNT,oBS];rw[tail (by omega)];by_cases gm:i<=mK o
  ·rw[oDT gm];refine .inl ⟨⟨by omega,hA,hB,hC,?_⟩,rfl⟩;rw[hu];exact(show i=0\/(0<i/\i<=mK o) by omega).elim .inl λg=>.inr ⟨rfl,g⟩
  ·rw[oDF gm];exact .inr ⟨λh=>by have:=h.2.2.2.2;unfold Fld at this;omega,rfl⟩
def RK(bs ss:List Int)(a:Int):Prop:=∃(j:Nat)(b z:Int),bs[j]?=some b/\ss[j]?=some z/\b<=a/\a<b+z
def Df(K:Int->Prop)(c:DCe):Prop:=0<=c.1/\c.1<=2/\0<=c.2/\c.2<=65535/\(c.1=1->K c.2)
theorem Df.mono{K K':Int->Prop}{c:DCe}(h:Df K c)(hk:∀a,K a->K' a):Df K' c:=⟨h.1,h.2.1,h.2.2.1,h.2.2.2.1,λe=>hk _ (h.2.2.2.2 e)⟩
def Ep(K:Int->Prop)(i:Nat)(x:DLn):Prop:=(x.1=-1/\x.2.1=false/\x.2.2=[])\/(0<=x.1/\x.1<128/\x.1%4=i/\x.2.2.length=4/\∀c∈x.2.2,Df K c)
def ER(cs:List DCe)(x:DLn):Prop:=x.1=-1\/x.2.1=true\/∀o:Nat,o<4->cs[(x.1*4).toNat+o]?=x.2.2[o]?
structure C6 (K:Int->Prop)(cs:List DCe)(ls:List DLn):Prop where
 clen:cs.length=512
 cells:∀c∈cs,Df K c
 llen:ls.length=4
 lines:∀(i:Nat) x,ls[i]?=some x->Ep K i x
 coh:∀(i:Nat) x,ls[i]?=some x->ER cs x
structure EL (K:Int->Prop)(n:Int)(t:DTh):Prop where
 state:0<=t.1/\t.1<=4
 len:t.2.1.length=8
 regs:∀c∈t.2.1,Df K c
 pc:0<=t.2.2.1/\t.2.2.1<=255
 count:0<=t.2.2.2.1/\t.2.2.2.1<=n
 handler:-1<=t.2.2.2.2.1/\t.2.2.2.2.1<=255
 saved:-1<=t.2.2.2.2.2.1/\t.2.2.2.2.2.1<=255
 trap:0<=t.2.2.2.2.2.2.1/\t.2.2.2.2.2.2.1<=6
 code:W16 t.2.2.2.2.2.2.2
structure MOk (n:Int)(ss bs:List Int)(cs:List DCe)(ls:List DLn)(ts:List DTh):Prop where
 lay:LV bs ss
 mem:C6 (RK bs ss) cs ls
 tlen:ts.length=4
 thr:∀t∈ts,EL (RK bs ss) n t
def jg:List DLn:=[(-1,false,[]),(-1,false,[]),(-1,false,[]),(-1,false,[])]
theorem AV:iu=some (jg,()):=by kernel_rfl
theorem pi{α:Type}{P:α->Prop}{l:List α}{i:Nat}{f:α->α}(h:∀x∈l,P x)(hf:∀x,P x->P (f x)):∀x∈List.modify l i f,P x:=by
 intro x hx;have ⟨j,hj⟩:=List.getElem?_of_mem hx
 grind
def Pr(ss:List Int)(c:DCn):Prop:=
 ((c.1=0\/c.1=2)/\c.2.2.1=0/\c.2.2.2=0/\W16 c.2.1)\/(c.1=1/\c.2.1=0/\0<=c.2.2.1/\∃n,ss[c.2.2.1.toNat]?=some n/\0<=c.2.2.2/\c.2.2.2<n)
theorem kR{α β:Type}(f:α->β){l:List α}{k:Nat}{x:α}(h:l[k]?=some x):(l.take k).map f++[f x]=(l.take (k+1)).map f:=by
 rw[List.take_add_one,h];simp
theorem getD_some{α:Type}{l:List α}{k:Nat}{d x:α}(h:l[k]?=some x):l.getD k d=x:=by simp_all
theorem LV.at_{bs ss:List Int}(h:LV bs ss){r:Nat}(hr:r<ss.length):∃b z,bs[r]?=some b/\ss[r]?=some z/\1<=z/\z<=32/\0<=b/\b+z<=512:=by
 have ⟨hs,hl,hg⟩:=h;have ⟨z,hz⟩:∃z,ss[r]?=some z:=⟨_,oGE (by omega)⟩;have h1:=hg r (by omega);unfold mP at h1;have h2:=hs.2.2 z (dy hz)
 simp_all
structure EK (n:Int)(ss:List Int)(v:DTs):Prop where
 state:0<=v.1/\v.1<=4
 pc:0<=v.2.1/\v.2.1<=255
 count:0<=v.2.2.1/\v.2.2.1<=n
 handler:-1<=v.2.2.2.1/\v.2.2.2.1<=255
 saved:-1<=v.2.2.2.2.1/\v.2.2.2.2.1<=255
 trap:0<=v.2.2.2.2.2.1/\v.2.2.2.2.2.1<=6
 code:W16 v.2.2.2.2.2.2.1
 len:v.2.2.2.2.2.2.2.length=8
 regs:∀c∈v.2.2.2.2.2.2.2,Pr ss c
structure ET (n:Int)(ss:List Int)(rg:List (List DCn))(vs:List DTs):Prop where
 rlen:rg.length=ss.length
 fit:∀(j:Nat) x z,rg[j]?=some x->ss[j]?=some z->(x.length:Int)=z
 cells:∀x∈rg,∀c∈x,Pr ss c
 vlen:vs.length=4
 views:∀v∈vs,EK n ss v
theorem LV.apart{bs ss:List Int}(h:LV bs ss){r r':Nat}{b z b' z' o o':Int}(hne:r≠r')(hb:bs[r]?=some b)(hz:ss[r]?=some z)(YX:bs[r']?=some b')(UX:ss[r']?=some z')(h0:0<=o)(h1:o<z)(OC:0<=o')(S8:o'<z'):b+o≠b'+o':=by
 have ⟨_,hl,hg⟩:=h;have l1:=(oGS hb).1;have l2:=(oGS YX).1;have g1:=hg r l1;have g2:=hg r' l2;unfold mP at g1 g2;rw[cj hb,cj hz]at g1;rw[cj YX,cj UX]at g2;by_cases hlt:r'<r
 ·have:=g1.2.2 r' hlt;rw[cj YX,cj UX]at this;omega
 ·have:=g2.2.2 r (by omega);rw[cj hb,cj hz]at this;omega
theorem yx{l ss:List Int}{k:Int}(hs:zx ss)(h:DOk l k):Ok (fS ss l k) λr=>∃bs key k',r=(bs,key,l,k',())/\LV bs ss/\W16 key/\DOk l k':=by
 unfold fS
 (with_reducible refine dB (by omega) (by omega) (by omega) (λv0 k0 a0 b0 d0=>?_);try dsimp only)
 refine(Cx hs a0 (by omega)).bind ?_;rintro _ ⟨key,rfl,hk⟩;exact Ok.ret ⟨_,_,_,rfl,DZ hs a0,hk,d0⟩
def ym:List CT->CT
 | []=>.nat
 | [t]=>t
 |t::u::r=>.pair t (ym (u::r))
def jJ:(l:List CT)->HL den l->den (ym l)
 | [],_=>(0:Nat)
 | [_],h=>h.1
 |_::u::r,h=>(h.1,jJ (u::r) h.2)
def encL:(l:List CT)->HL den l->List TV
 | [],_=>[]
 |t::r,h=>enc t h.1++encL r h.2
theorem u4:∀(l:List CT)(h:HL den l),enc (ym l) (jJ l h)=encL l h
 | [],_=>rfl
 | [_],h=>(List.append_nil _).symm
 |_::u::r,h=>by
  show enc _ h.1++enc (ym (u::r)) (jJ (u::r) h.2)=_;rw[u4 (u::r) h.2];rfl
def uh:(c:CT)->den c->Prop
 |.int k,n=>(Lit.int k n).wf=true
 |.str,s=>ByteArray.size s<=maxLen
 |.row _ t,xs=>List.length xs<=maxLen/\∀x∈xs,uh t x
 |.pair a b,x=>uh a x.1/\uh b x.2
 |_,_=>True
def GoodL:(l:List CT)->HL den l->Prop
 | [],_=>True
 |t::r,h=>uh t h.1/\GoodL r h.2
theorem sc:∀(l:List CT)(h:HL den l),GoodL l h->uh (ym l) (jJ l h)
 | [],_,_=>trivial
 | [_],_,g=>g.1
 |_::u::r,h,g=>⟨g.1,sc (u::r) h.2 g.2⟩
def appL:(l m:List CT)->HL den l->HL den m->HL den (l++m)
 | [],_,_,k=>k
 |_::r,m,h,k=>(h.1,appL r m h.2 k)
theorem u5:∀(l m:List CT)(h:HL den l)(k:HL den m),encL (l++m) (appL l m h k)=encL l h++encL m k
 | [],_,_,_=>rfl
 |t::r,m,h,k=>by
  show enc t h.1++encL (r++m) (appL r m h.2 k)=(enc t h.1++encL r h.2)++_;rw[u5 r m h.2 k,List.append_assoc]
theorem uU:∀(l m:List CT)(h:HL den l)(k:HL den m),GoodL l h->GoodL m k->GoodL (l++m) (appL l m h k)
 | [],_,_,_,_,g=>g
 |_::r,m,h,k,g,g'=>⟨g.1,uU r m h.2 k g.2 g'⟩
def RelL(w:World):List TV->List Value->Prop
 | [],[]=>True
 |t::ts,v::vs=>eV w (λ_=>True) t v/\RelL w ts vs
 |_,_=>False
theorem RelL.app{w:World}:∀{a:List TV}{x:List Value}{b:List TV}{y:List Value},RelL w a x->RelL w b y->RelL w (a++b) (x++y)
 | [],[],_,_,_,h=>h
 |_::a,_::x,_,_,g,h=>⟨g.1,RelL.app (a:=a) (x:=x) g.2 h⟩
 | [],_::_,_,_,g,_=>g.elim
 |_::_,[],_,_,g,_=>g.elim
theorem RelL.len{w:World}:∀{a:List TV}{x:List Value},RelL w a x->a.length=x.length
 | [],[],_=>rfl
 |_::a,_::x,g=>by rw[oLC,oLC,RelL.len (a:=a) (x:=x) g.2]
 | [],_::_,g=>g.elim
 |_::_,[],g=>g.elim
theorem RelL.get{w:World}:∀{a:List TV}{x:List Value},RelL w a x->∀j (h:j<a.length)(h':j<x.length),eV w (λ_=>True) a[j] x[j]
 |_::_,_::_,g,0,_,_=>g.1
 |_::a,_::x,g,j+1,h,h'=>RelL.get (a:=a) (x:=x) g.2 j (by simpa using h) (by simpa using h')
 | [],_,_,_,h,_=>by simp at h
 |_::_,[],g,_,_,_=>g.elim
def Dr(P:Program)(g:TypeId->Option (List CT)):Nat->List Field->Option (List CT)
 |_,[]=>some []
 |off,f::fs=>match g f.type with
  |some l=>if f.offset=off/\l.length=P.cellsOf f.type then(Dr P g (off+l.length) fs).map (l++·)else none
  |none=>none
def nw(P:Program):Nat->TypeId->Option (List CT)
 |0,_=>none
 |n+1,t=>match P.underlying t with
  |some .bool=>some [.bool]
  |some (.int k)=>some [.int k]
  |some .string=>some [.str]
  |some (.slice e)=>match nw P n e with
   |some l=>if l.length=P.cellsOf e then some [.row false (ym l)]else none
   |none=>none
  |some (.struct fs)=>match Dr P (nw P n) 0 fs.toList with
   |some l=>if l.length=P.cellsOf t then some l else none
   |none=>none
  |_=>none
section
variable {H:Type} {ec:TypeId×Value->H} {P:Program} {w:World} {base:Nat} {spare:Nat->Bool} {held:Bool}
theorem yH{g:TypeId->Option (List CT)}{m:Nat}{cs:List Value}
 (ih:∀t L,g t=some L->∀cs x,DataW.trod ec P w base spare held m t cs=some x->∃h:HL den L,GoodL L h/\RelL w (encL L h) cs):
 ∀(fs:List Field)(off:Nat)(L:List CT),Dr P g off fs=some L->(∀f∈fs,∃x,DataW.trod ec P w base spare held m f.type ((cs.drop f.offset).take (P.cellsOf f.type))=some x)->
  ∃h:HL den L,GoodL L h/\RelL w (encL L h) ((cs.drop off).take L.length):=by
 intro fs
 induction fs with
 |nil=>
  intro off L hL _
  injection hL with hL
  subst hL;exact⟨(),trivial,trivial⟩
 |cons f fs SZ=>
  intro off L hL hx;unfold Dr at hL;split at hL
  ·rename_i l hg;split at hL
   ·rename_i ho;obtain⟨rfl,hlen⟩:=ho
    cases hr:Dr P g (f.offset+l.length) fs with
    |none=>simp_all
    |some L2=>
     rw[hr]at hL
     injection hL with hL
     subst hL;obtain⟨x,h1⟩:=hx f List.mem_cons_self;obtain⟨h,g1,r1⟩:=ih _ _ hg _ _ h1;have ⟨k,g2,r2⟩:=SZ _ _ hr λf' Te=>hx f' (List.mem_cons_of_mem _ Te);refine⟨appL l L2 h k,uU _ _ _ _ g1 g2,?_⟩;rw[u5,List.length_append,List.take_add,List.drop_drop];rw[hlen];rw[hlen]at r2;exact r1.app r2
   ·cases hL
  ·cases hL
theorem DG:∀(n:Nat)(t:TypeId)(L:List CT),nw P n t=some L->∀(Ya:Nat)(cs:List Value)(x:DataW H×List MemPlace),DataW.trod ec P w base spare held Ya t cs=some x ->
 ∃h:HL den L,GoodL L h/\RelL w (encL L h) cs:=by
 intro n
 induction n with
 |zero=>intro t L h;cases h
 |succ n ih=>
  intro t L hL Ya cs x hx;unfold nw at hL;split at hL
  ·rename_i ht
   injection hL with hL
   subst hL;obtain⟨b,rfl,_⟩:=DataW.trod_bool ht hx;exact⟨(b,()),⟨trivial,trivial⟩,.v rfl,trivial⟩
  ·rename_i k ht
   injection hL with hL
   subst hL;obtain⟨z,rfl,_,hw⟩:=DataW.trod_int ht hx;exact⟨(z,()),⟨hw,trivial⟩,.v rfl,trivial⟩
  ·rename_i ht
   injection hL with hL
   subst hL;obtain⟨s,rfl,_,hs⟩:=DataW.trod_string ht hx;exact⟨(s,()),⟨hs,trivial⟩,.v rfl,trivial⟩
  ·rename_i e ht;split at hL
   ·rename_i l hl;split at hL
    ·rename_i hsz
     injection hL with hL
     subst hL
     rcases DataW.trod_slice ht hx with⟨rfl,_⟩|⟨a,len,cap,QB,rest,m,_,rfl,_,_,XY,hmax,Y',Z7,_,_⟩
     ·exact⟨([],()),⟨⟨Nat.zero_le _,λx hx=>by cases hx⟩,trivial⟩,.sl (c:=[]) 1 (λ_ _=>undef) (λi h=>by simp at h) (Nat.le_refl _) (Nat.zero_le _) (λ_=>rfl) (λi j h=>by simp at h) (λi j h=>by simp at h),trivial⟩
     ·have Rq:∀i:Fin len,∃p:HL den l×List Value,GoodL l p.1/\RelL w (encL l p.1) p.2/\w.cells? base (a.add (i.1*P.cellsOf e)) (P.cellsOf e)=some p.2:=by
       intro i;have h1:=Z7 i.1 i.2;rw[oGE (by omega)]at h1;obtain⟨Tq,h2,h3⟩:=Option.bind_eq_some_iff.1 h1;obtain⟨h,g,r⟩:=ih _ _ hl _ _ _ h3;exact⟨(h,Tq),g,r,h2⟩
      obtain⟨f,hf⟩:=Classical.axiomOfChoice Rq
      have clen:∀i,(encL l (f i).1).length=l.length:=λi=>by
       rw[(hf i).2.1.len,(World.cells?_some (hf i).2.2).2.1,hsz]
      have key:eV w (λ_=>True) (.sl ((List.ofFn λi:Fin len=>jJ l (f i).1).map (enc (ym l)))) (.slice (some a) ((List.ofFn λi:Fin len=>jJ l (f i).1).map (enc (ym l))).length cap):=by
       have el:((List.ofFn λi:Fin len=>jJ l (f i).1).map (enc (ym l))).length=len:=by simp
       have eg:∀i (hi:i<((List.ofFn λi:Fin len=>jJ l (f i).1).map (enc (ym l))).length),((List.ofFn λi:Fin len=>jJ l (f i).1).map (enc (ym l)))[i]=encL l (f ⟨i,by omega⟩).1:=by
        intro i hi;simp[u4]
       refine .sl l.length (λi j=>if h:i<len then(f ⟨i,h⟩).2.getD j undef else undef) (λi hi=>by rw[eg i hi,clen]) (by rw[el];exact XY) hmax (λh=>by cases h) (λi j hi hj=>?_) (λi j hi hj=>?_)
       ·rw[el]at hi
        have cell:∀i' (ZJ:i'<len) j',j'<l.length->w.cell? ((a.add (i'*l.length)).add j')=some ((f ⟨i',ZJ⟩).2.getD j' undef):=by
         intro i' ZJ j' ZZ;have h1:=World.cells?_some (hf ⟨i',ZJ⟩).2.2;have h2:=h1.2.2 j' (by omega);rw[hsz];rw[h2]
         have:j'<(f ⟨i',ZJ⟩).2.length:=by rw[h1.2.1];omega
         simp[this]
        have h0:=World.cell?_spot (cell 0 (by omega) 0 (by omega));obtain⟨b,o,spot⟩:=a
        have Up:spot=none:=by simpa[Addr.add]using h0
        subst Up;refine⟨b,o,rfl,trivial,?_⟩;have h2:=cell i hi j hj;rw[Go.WideShapes.add_plain,Go.WideShapes.add_plain]at h2;rw[dif_pos hi,<- h2,Nat.add_assoc]
       ·rw[el]at hi;have hr:=(hf ⟨i,hi⟩).2.1
        have YA:j<(encL l (f ⟨i,hi⟩).1).length:=by rw[eg i (by omega)]at hj;exact hj
        have VM:j<(f ⟨i,hi⟩).2.length:=by rw[<- hr.len];exact YA
        have h3:=hr.get j YA VM
        simp_all
      rw[List.length_map,List.length_ofFn]at key;refine⟨(List.ofFn λi:Fin len=>jJ l (f i).1,()),⟨⟨by rw[List.length_ofFn];omega,λx hx=>?_⟩,trivial⟩,key,trivial⟩;obtain⟨i,rfl⟩:=List.mem_ofFn.1 hx;exact sc _ _ (hf i).1
    ·cases hL
   ·cases hL
  ·rename_i fs ht;split at hL
   ·rename_i l hl;split at hL
    ·rename_i hsz
     injection hL with hL
     subst hL;obtain⟨xs,m,_,_,hlen,OL,hf⟩:=DataW.trod_struct ht hx
     obtain⟨h,g,r⟩:=yH (cs:=cs) (m:=m) (λt L hL cs x hx=>ih t L hL m cs x hx) fs.toList 0 l hl (by
      intro f Ps;obtain⟨i,hi,rfl⟩:=List.mem_iff_getElem.1 Ps
      have Wb:i<fs.size:=by simpa using hi
      have h1:=hf i fs[i] (by simp[Wb]);rw[oGE (by omega)]at h1
      exact⟨_,by simpa using h1⟩)
     refine⟨h,g,?_⟩;rw[List.drop_zero,hsz,<- hlen,List.take_length]at r;exact r
    ·cases hL
   ·cases hL
  ·cases hL
theorem intake_arg(n:Nat){t:TypeId}{L:List CT}{v:Value}{d:DataW H}{p:List MemPlace}(hL:nw P n t=some L)(h:DataW.Trod ec P w base spare held t v d p):
 ∃h:HL den L,GoodL L h/\RelL w (encL L h) v.cells.toList:=by
 have ⟨Ya,hf⟩:=h;exact DG n t L hL Ya _ _ hf
end
theorem plain_one{w:World}{t:TV}{v:Value}(r:RelL w [t] [v]):sE w t v:=r.1.plain
theorem plain_agg{w:World}{l:List TV}{cs:Array Value}(r:RelL w l cs.toList):sE w (.agg l) (.agg cs):=by
 intro F V C G hF
 have hl:cs.size=l.length:=by rw[r.len];simp
 refine .agg hl λj hj=>?_
 have YA:j<cs.toList.length:=by simp_all
 have h1:=(r.get j hj YA).plain F V C G hF
 simp_all
theorem Ct{a b:Int}(ha:lZ a)(hb:0<b)(Z0:b<=9223372036854775807):eY a b=some (a%b,()):=by
 have hne:(b != 0)=true:=by simp;omega
 have hm:=Int.tmod_lt_of_pos a hb
 have hm2:-b<Int.tmod a b:=by
  have:=Int.tmod_lt_of_pos (-a) hb;rw[Int.neg_tmod]at this;omega
 have hq:a%b=Int.tmod a b%b:=by
  have e:=Int.mul_tdiv_add_tmod a b;rw[Int.add_comm]at e
  conv=>lhs;rw[<- e]
  exact Int.add_mul_emod_self_left ..
 unfold eY;simp only[hne,oCT];by_cases h:Int.tmod a b<0
 ·simp[h,decide_true,oCT,oBS];rw[b6 (by omega) (by omega),hq,<- Int.emod_eq_of_lt (a:=Int.tmod a b+b) (b:=b) (by omega) (by omega),Int.add_emod_right]
 ·simp[h,decide_false,oCF];rw[hq,Int.emod_eq_of_lt (by omega) hm]
theorem Dz{a b:Int}(ha:lZ a)(hb:0<b)(Z0:b<=9223372036854775807):kA a b=some (a%b,()):=by
 unfold kA;rw[Ct ha hb Z0];rfl
def Sh4(ls:List DLn):Prop:=ls.length<=4/\∀x∈ls,x.2.2.length<=4
theorem Ep.len{K:Int->Prop}{i:Nat}{x:DLn}(h:Ep K i x):x.2.2.length<=4:=by
 rcases h with⟨_,_,h⟩|⟨_,_,_,h,_⟩
 ·simp_all
 ·omega
theorem C6.sh4{K:Int->Prop}{cs:List DCe}{ls:List DLn}(h:C6 K cs ls):Sh4 ls:=⟨by rw[h.llen];omega,λx hx=>by
 obtain⟨i,hi⟩:=List.getElem?_of_mem hx
 exact(h.lines i x hi).len⟩
theorem g64{h:den I64}(g:uh I64 h):lZ h:=bounds_i64 g
theorem AO{h:den RI}(g:uh RI h):(∀z∈(show List Int from h),lZ z)/\(show List Int from h).length<=maxLen:=⟨λz hz=>bounds_i64 (g.2 z hz),g.1⟩
theorem DE{S T:Type}{f g:S->Option (S⊕T)}(P:S->Prop)(R:T->Prop)(m:S->Nat){n:Nat}{s:S}(hs:P s)(hm:m s<n)
 (h:∀s,P s->(∃s',f s=some (.inl s')/\g s=some (.inl s')/\P s'/\m s'<m s)\/(∃t,f s=some (.inr t)/\g s=some (.inr t)/\R t)):∃t,b5 f n s=some t/\b5 g n s=some t/\R t:=by
 induction n generalizing s with
 |zero=>omega
 |succ n ih=>
  rcases h s hs with⟨s',e1,e2,hp,hl⟩|⟨t,e1,e2,hr⟩
  ·simp only[b5,e1,e2,oBS];exact ih hp (by omega)
  ·exact⟨t,by simp only[b5,e1,oBS],by simp only[b5,e2,oBS],hr⟩
def sG(x:Int):DCe:=(0,x)
theorem vY{d:List Int}(h:d.length<=1000):ff d=some (d.map sG,()):=by
 have e:b5 df NN (d,(d.length:Int),0,[],())=some (d,(d.length:Int),(d.length:Int),false,d.map sG,()):=by
  have:=Bs (f:=df) (N:=NN) (st:=λk=>(d,(d.length:Int),(k:Int),(d.take k).map sG,())) (n:=d.length) (t:=(d,(d.length:Int),(d.length:Int),false,d.map sG,())) (by unfold NN;omega) ?_ ?_
  ·exact this
  ·intro k hk;unfold df;dsimp only;have hx:d[k]?=some d[k]:=oGE hk;rw[oDT (show(k:Int)<d.length by omega),co];simp only[oCT,oBS,show cd d k=some d[k]from hx];refine cu (dJ (by rw[List.length_map,oLT];simp only[List.length_singleton];omega)) ?_;rw[b6 (x:=(k:Int)+1) (by omega) (by omega)];refine Ok.ret ?_;rw[<- kR sG hx];rfl
  ·unfold df;dsimp only;rw[oDF (show ¬(d.length:Int)<d.length by omega),List.take_length];exact Ok.ret rfl
 unfold ff;delta bQ;dsimp only;rw[e];rfl
theorem wb{α:Type}{f:α->α}{c:α}{R:List α}:∀{A:List α},List.modify (A++c::R) A.length f=A++f c::R:=by
 intro A
 induction A with
 |nil=>rfl
 |cons a A ih=>simp only[List.cons_append,oLC,List.modify_succ_cons,ih]
def pf(cs:List DCe)(b:Nat)(d:List Int):List DCe:=cs.take b++d.map sG++cs.drop (b+d.length)
theorem Ah{cs:List DCe}{b:Nat}{d:List Int}(h:b+d.length<=cs.length):(pf cs b d).length=cs.length:=by
 unfold pf;simp only[List.length_append,oLT,List.length_map,List.length_drop];omega
theorem uH{cs:List DCe}{b:Nat}:pf cs b []=cs:=by
 unfold pf;simp
theorem Ag{P:DCe->Prop}{cs:List DCe}{b:Nat}{d:List Int}(hc:∀c∈cs,P c)(hd:∀x∈d,P (sG x)):∀c∈pf cs b d,P c:=by
 intro c h;unfold pf at h;rcases List.mem_append.1 h with h|h
 ·rcases List.mem_append.1 h with h|h
  ·exact hc c (List.mem_of_mem_take h)
  ·obtain⟨x,hx,rfl⟩:=List.mem_map.1 h;exact hd x hx
 ·exact hc c (List.mem_of_mem_drop h)
theorem CN{cs:List DCe}{b:Nat}{d:List Int}{code:List DIn}{ss bs:List Int}{dt:List (List Int)}{key:Int}{ls:List DLn}{r:Nat}{n:Int}(Wr:cs.length=512)(h0:∀c∈cs,c.1=0)(hb:bs[r]?=some (b:Int))(hd:b+d.length<=512):
 b5 dM NN ((r:Int),dt,n,(r:Int),d,(d.length:Int),0,code,ss,dt,bs,key,(),(),cs,ls,())=some ((r:Int),dt,n,(r:Int),d,(d.length:Int),(d.length:Int),false,code,ss,dt,bs,key,(),(),pf cs b d,ls,()):=by
 have:=Bs (f:=dM) (N:=NN) (st:=λk=>((r:Int),dt,n,(r:Int),d,(d.length:Int),(k:Int),code,ss,dt,bs,key,(),(),pf cs b (d.take k),ls,())) (n:=d.length) (t:=((r:Int),dt,n,(r:Int),d,(d.length:Int),(d.length:Int),false,code,ss,dt,bs,key,(),(),pf cs b d,ls,())) (by unfold NN;omega) ?_ ?_
 ·have e0:pf cs b (d.take 0)=cs:=by rw[List.take_zero];exact uH
  rw[e0]at this;exact this
 ·intro k hk;obtain⟨x,hx⟩:∃x,d[k]?=some x:=⟨_,oGE hk⟩;obtain⟨c,hc⟩:∃c,cs[b+k]?=some c:=⟨_,oGE (by omega)⟩;have XI:=h0 c (dy hc)
  have hl:(cs.take b++(d.take k).map sG).length=b+k:=by
   simp only[List.length_append,oLT,List.length_map];omega
  have hdr:cs.drop (b+k)=c::cs.drop (b+k+1):=by
   obtain⟨h1,h2⟩:=oGS hc;rw[<- h2];exact List.drop_eq_getElem_cons h1
  have Yu:(d.take k).length=k:=by rw[oLT];omega
  have e1:pf cs b (d.take k)=(cs.take b++(d.take k).map sG)++c::cs.drop (b+k+1):=by
   unfold pf;rw[Yu,hdr]
  have e2:pf cs b (d.take (k+1))=(cs.take b++(d.take k).map sG)++sG x::cs.drop (b+k+1):=by
   unfold pf;rw[show(d.take (k+1)).length=k+1 by rw[oLT];omega,<- kR sG hx];simp[Nat.add_assoc]
  have hg:cd (pf cs b (d.take k)) (b+k)=some c:=by
   unfold cd;rw[e1,<- hl,List.getElem?_append_right (by omega)];simp
  unfold dM;dsimp only;rw[oDT (show(k:Int)<d.length by omega),co,co];simp only[oCT,oBS,show cd d k=some x from hx,show cd bs r=some (b:Int)from hb];rw[b6 (x:=(b:Int)+k) (by omega) (by omega),show(b:Int)+k=((b+k:Nat):Int) by omega,co];simp only[oBS,hg];rw[b6 (x:=(k:Int)+1) (by omega) (by omega)];refine Ok.ret ?_
  have e3:List.modify (pf cs b (d.take k)) (b+k) (λe=>(e.1,x))=pf cs b (d.take (k+1)):=by
   rw[e1,e2,<- hl,wb,XI];rfl
  rw[e3];rfl
 ·unfold dM;dsimp only;rw[oDF (show ¬(d.length:Int)<d.length by omega),List.take_length];exact Ok.ret rfl
theorem yq:gU=some (jg,()):=by kernel_rfl
def Et(ss:List Int)(dt:List (List Int)):Prop:=∀i,i<dt.length->∀d z,dt[i]?=some d->ss[i]?=some z->(d.length:Int)<=z
def VJ(code:List DIn)(j:Nat):Prop:=∀x,code[j]?=some x->Dd x.1 x.2.1 x.2.2.1 x.2.2.2.1 x.2.2.2.2
def Br(n m:Int)(x:DIn):Bool:=(ke x.1&&decide (x.2.2.2.2>=n))||(x.1==15&&decide (x.2.2.2.2>=m))
def RJ(code:List DIn)(n m:Int)(j:Nat):Prop:=∀x,code[j]?=some x->Br n m x=false
structure PrV (code:List DIn)(ss:List Int)(dt:List (List Int)):Prop where
 sz:zx ss
 len:dt.length=ss.length
 fit:Et ss dt
 cl:1<=code.length/\code.length<=64
 ins:∀j,j<code.length->VJ code j
 rng:∀j,j<code.length->RJ code code.length ss.length j
theorem CP:iQ=cB:=rfl
theorem EH{code:List DIn}{ss:List Int}{dt:List (List Int)}(hc:code.length<=1000):
 (¬(∀j,j<code.length->VJ code j)/\b5 cU NN (0,code,(code.length:Int),0,code,ss,dt,())=some (.inl (5,())))\/
 ((∀j,j<code.length->VJ code j)/\∃e a b c d,b5 cU NN (0,code,(code.length:Int),0,code,ss,dt,())=some (.inr (e,a,b,c,d,code,ss,dt,()))/\
  ((e=0/\∀j,j<code.length->RJ code code.length ss.length j)\/(e=6/\¬ ∀j,j<code.length->RJ code code.length ss.length j))):=by
 obtain⟨t,e1,_,ht⟩:=DE (f:=cU) (g:=cU) (n:=NN) (s:=(0,code,(code.length:Int),0,code,ss,dt,()))
  (P:=λs=>∃(k:Nat)(e:Int),s=(e,code,(code.length:Int),(k:Int),code,ss,dt,())/\k<=code.length/\(∀j,j<k->VJ code j)/\((e=0/\∀j,j<k->RJ code code.length ss.length j)\/(e=6/\∃j,j<k/\¬RJ code code.length ss.length j)))
  (R:=λt=>(t=.inl (5,())/\¬ ∀j,j<code.length->VJ code j)\/∃e a b c d,t=.inr (e,a,b,c,d,code,ss,dt,())/\(∀j,j<code.length->VJ code j)/\((e=0/\∀j,j<code.length->RJ code code.length ss.length j)\/(e=6/\¬ ∀j,j<code.length->RJ code code.length ss.length j)))
  (m:=λs=>(s.2.2.1-s.2.2.2.1).toNat) ⟨0,0,rfl,by omega,λj hj=>by omega,.inl ⟨rfl,λj hj=>by omega⟩⟩ (by unfold NN;dsimp only;omega) (by
   rintro _ ⟨k,e,rfl,hk,hV,hR⟩;unfold cU;delta bQ;dsimp only;by_cases hkl:k<code.length
   rotate_left
   ·obtain rfl:k=code.length:=by omega
    rw[oDF (show ¬(code.length:Int)<code.length by omega)];refine .inr ⟨_,rfl,rfl,.inr ⟨_,_,_,_,_,rfl,hV,?_⟩⟩;rcases hR with h|⟨h,j,hj,hn⟩
    ·exact .inl h
    ·exact .inr ⟨h,λg=>hn (g j hj)⟩
   have hx:code[k]?=some code[k]:=oGE hkl;rw[oDT (show(k:Int)<code.length by omega),co];simp only[oCT,oBS,show cd code k=some code[k]from hx];generalize code[k]=x at hx
   rcases EE (o:=x.1) (a:=x.2.1) (b:=x.2.2.1) (c:=x.2.2.2.1) (i:=x.2.2.2.2)with⟨hv,ev⟩|⟨hv,ev⟩
   rotate_left
   ·rw[ev];exact .inr ⟨_,rfl,rfl,.inl ⟨rfl,λg=>hv (g k hkl x hx)⟩⟩
   rw[ev,rp,lU]
   have QL:∀j,j<k+1->VJ code j:=λj hj=>by
    by_cases hjk:j=k
    ·subst hjk;intro y hy;rw[hx]at hy
     injection hy with hy
     rw[<- hy];exact hv
    ·exact hV j (by omega)
   have UC:Br code.length ss.length x=false->(((e=0/\∀j,j<k->RJ code code.length ss.length j)\/(e=6/\∃j,j<k/\¬RJ code code.length ss.length j))->((e=0/\∀j,j<k+1->RJ code code.length ss.length j)\/(e=6/\∃j,j<k+1/\¬RJ code code.length ss.length j))):=by
    intro hb h
    rcases h with⟨h,g⟩|⟨h,j,hj,g⟩
    ·refine .inl ⟨h,λj hj=>?_⟩;by_cases hjk:j=k
     ·subst hjk;intro y hy;rw[hx]at hy
      injection hy with hy
      rw[<- hy];exact hb
     ·exact g j (by omega)
    ·exact .inr ⟨h,j,by omega,g⟩
   have no:Br code.length ss.length x=true->(((6:Int)=0/\∀j,j<k+1->RJ code code.length ss.length j)\/((6:Int)=6/\∃j,j<k+1/\¬RJ code code.length ss.length j)):=λhb=>.inr ⟨rfl,k,by omega,λg=>by have:=g x hx;rw[hb]at this;cases this⟩;have hw:w64 ((k:Int)+1)=((k+1:Nat):Int):=b6 (by omega) (by omega)
   have hm:((code.length:Int)-((k+1:Nat):Int)).toNat<((code.length:Int)-(k:Int)).toNat:=by omega
   simp only[oBS,oNT,oCF]
   have Zf:∀B:Bool,Br code.length ss.length x=B->∃s',(some (.inl ((bif B then(6:Int)else e),code,(code.length:Int),w64 ((k:Int)+1),code,ss,dt,())):Option ((Int×(List DIn)×Int×Int×(List DIn)×(List (Int))×(List (List (Int)))×Unit)⊕((Int×Unit)⊕(Int×(List DIn)×Int×Int×Bool×(List DIn)×(List (Int))×(List (List (Int)))×Unit))))=some (.inl s')/\
    (∃(k:Nat)(e:Int),s'=(e,code,(code.length:Int),(k:Int),code,ss,dt,())/\k<=code.length/\(∀j,j<k->VJ code j)/\((e=0/\∀j,j<k->RJ code code.length ss.length j)\/(e=6/\∃j,j<k/\¬RJ code code.length ss.length j)))/\(s'.2.2.1-s'.2.2.2.1).toNat<((code.length:Int)-(k:Int)).toNat:=by
    intro B hB;rw[hw]
    cases B with
    |true=>exact⟨_,rfl,⟨k+1,6,rfl,by omega,QL,no hB⟩,hm⟩
    |false=>exact⟨_,rfl,⟨k+1,e,rfl,by omega,QL,UC hB hR⟩,hm⟩
   unfold Br at Zf;cases hj:ke x.1<;>cases hn:decide (x.2.2.2.2>=(code.length:Int))<;>cases h15:(x.1==15)<;>cases hn2:decide (x.2.2.2.2>=(ss.length:Int))<;>rw[hj,hn,h15,hn2]at Zf
   all_goals
    first
     |obtain⟨s',g1,g2,g3⟩:=Zf true rfl;exact .inl ⟨s',g1,g1,g2,g3⟩
     |obtain⟨s',g1,g2,g3⟩:=Zf false rfl;exact .inl ⟨s',g1,g1,g2,g3⟩)
 rcases ht with⟨rfl,h⟩|⟨e,a,b,c,d,rfl,h1,h2⟩
 ·exact .inl ⟨h,e1⟩
 ·exact .inr ⟨h1,e,a,b,c,d,e1,h2⟩
theorem pB{code:List DIn}{ss:List Int}{dt:List (List Int)}(hc:code.length<=1000)(hs:ss.length<=1000)(hd:dt.length<=1000):
 ∃e,fR code ss dt=some (e,())/\eq code ss dt=some (e,())/\(e=0->PrV code ss dt)/\(PrV code ss dt->e=0):=by
 unfold fR eq;rw[rj]
 rcases sW hs with⟨hz,e⟩|⟨hz,e⟩
 rotate_left
 ·rw[e];exact⟨1,rfl,rfl,λh=>(by cases h),λh=>absurd h.sz hz⟩
 rw[e];delta bQ;simp only[oBS,oNT,oCF];by_cases hl:(dt.length:Int)=ss.length
 rotate_left
 ·rw[bne_iff_ne.2 hl];exact⟨1,rfl,rfl,λh=>(by cases h),λh=>absurd (show(dt.length:Int)=ss.length by rw[h.len]) hl⟩
 rw[bne_eq_false_iff_eq.2 hl,CP];simp only[oCF]
 rcases Bo (f:=cB) (N:=NN) (bad:=.inl (1,())) (good:=.inr (dt,(dt.length:Int),(dt.length:Int),false,code,ss,dt,())) (λi=>(dt,(dt.length:Int),(i:Int),code,ss,dt,())) (n:=dt.length) (λi=>∀d z,dt[i]?=some d->ss[i]?=some z->(d.length:Int)<=z) (by unfold NN;omega) (λi hi _=>by
  have hx:dt[i]?=some dt[i]:=oGE hi;have hy:ss[i]?=some ss[i]:=oGE (by omega);generalize dt[i]=x at hx;generalize ss[i]=y at hy;unfold cB;delta bQ;dsimp only;rw[oDT (show(i:Int)<dt.length by omega),co];simp only[oCT,oBS,show cd dt i=some x from hx,show cd ss i=some y from hy];by_cases g:(x.length:Int)>y
  ·rw[oDT g];exact .inr ⟨λh=>by have:=h _ _ hx hy;omega,rfl⟩
  ·rw[oDF g,b6 (x:=(i:Int)+1) (by omega) (by omega)]
   exact .inl ⟨λd z hd hz=>by rw[hx]at hd;rw[hy]at hz;injection hd with hd;injection hz with hz;rw[<- hd,<- hz];omega,rfl⟩) (by
  unfold cB;dsimp only;rw[oDF (show ¬(dt.length:Int)<dt.length by omega)]
  rfl)with⟨hp,e⟩|⟨hp,e⟩
 rotate_left
 ·rw[show b5 cB NN (dt,(dt.length:Int),0,code,ss,dt,())=_ from e];exact⟨1,rfl,rfl,λh=>(by cases h),λh=>absurd h.fit hp⟩
 rw[show b5 cB NN (dt,(dt.length:Int),0,code,ss,dt,())=_ from e];dsimp only;by_cases h0:code.length=0
 ·rw[show((code.length:Int)==0)=true from beq_iff_eq.2 (by omega),oDT (show(code.length:Int)<1 by omega)];exact⟨3,rfl,rfl,λh=>(by cases h),λh=>by have:=h.cl.1;omega⟩
 rw[show((code.length:Int)==0)=false from oBF (by omega),oDF (show ¬(code.length:Int)<1 by omega)];by_cases h64:(code.length:Int)>64
 ·rw[oDT h64];exact⟨3,rfl,rfl,λh=>(by cases h),λh=>by have:=h.cl.2;omega⟩
 rw[oDF h64];simp only[oCF]
 have r1:=Bo (f:=cR) (N:=NN) (bad:=.inl (5,())) (good:=.inr (code,(code.length:Int),(code.length:Int),false,code,ss,dt,())) (λi=>(code,(code.length:Int),(i:Int),code,ss,dt,())) (n:=code.length) (λi=>VJ code i) (by unfold NN;omega) (λi hi _=>by
  have hx:code[i]?=some code[i]:=oGE hi;generalize code[i]=x at hx;unfold cR;dsimp only;rw[oDT (show(i:Int)<code.length by omega),co];simp only[oCT,oBS,show cd code i=some x from hx]
  rcases ED (o:=x.1) (a:=x.2.1) (b:=x.2.2.1) (c:=x.2.2.2.1) (i:=x.2.2.2.2)with⟨hv,ev⟩|⟨hv,ev⟩
  ·rw[ev,b6 (x:=(i:Int)+1) (by omega) (by omega)];exact .inl ⟨λy hy=>by rw[hx]at hy;injection hy with hy;rw[<- hy];exact hv,rfl⟩
  ·rw[ev]
   exact .inr ⟨λh=>hv (h x hx),rfl⟩) (by
  unfold cR;dsimp only;rw[oDF (show ¬(code.length:Int)<code.length by omega)]
  rfl)
 have r2:=Bo (f:=cQ) (N:=NN) (bad:=.inl (6,())) (good:=.inr (code,(code.length:Int),(code.length:Int),false,code,ss,dt,())) (λi=>(code,(code.length:Int),(i:Int),code,ss,dt,())) (n:=code.length) (λi=>RJ code code.length ss.length i) (by unfold NN;omega) (λi hi _=>by
  have hx:code[i]?=some code[i]:=oGE hi;generalize code[i]=x at hx;unfold cQ;delta bQ;dsimp only;rw[oDT (show(i:Int)<code.length by omega),co];simp only[oCT,oBS,show cd code i=some x from hx];rw[lU]
  have UC:Br code.length ss.length x=false->RJ code code.length ss.length i:=λh y hy=>by rw[hx]at hy;injection hy with hy;rw[<- hy];exact h
  have no:Br code.length ss.length x=true->¬RJ code code.length ss.length i:=λh g=>by have:=g x hx;rw[h]at this;cases this
  have hw:w64 ((i:Int)+1)=((i+1:Nat):Int):=b6 (by omega) (by omega);unfold Br at UC no;simp only[oBS];cases hj:ke x.1<;>cases hn:decide (x.2.2.2.2>=(code.length:Int))<;>cases h15:(x.1==15)<;>cases hn2:decide (x.2.2.2.2>=(ss.length:Int))<;>rw[hj,hn,h15,hn2]at UC no
  all_goals
   first
    |exact .inl ⟨UC rfl,by show some (Sum.inl (code,(code.length:Int),w64 ((i:Int)+1),code,ss,dt,()))=_;rw[hw]⟩
    |exact .inr ⟨no rfl,rfl⟩) (by
  unfold cQ;dsimp only;rw[oDF (show ¬(code.length:Int)<code.length by omega)]
  rfl)
 rcases EH (ss:=ss) (dt:=dt) hc with⟨hV,e1⟩|⟨hV,x,a,b,c,d,e1,hR⟩
 ·rw[e1]
  rcases r1 with⟨g,e2⟩|⟨_,e2⟩
  ·exact absurd g hV
  rw[show b5 cR NN (code,(code.length:Int),0,code,ss,dt,())=_ from e2];exact⟨5,rfl,rfl,λh=>(by cases h),λh=>absurd h.ins hV⟩
 rw[e1]
 rcases r1 with⟨_,e2⟩|⟨g,_⟩
 rotate_left
 ·exact absurd hV g
 rw[show b5 cR NN (code,(code.length:Int),0,code,ss,dt,())=_ from e2];dsimp only
 rcases hR with⟨rfl,hR⟩|⟨rfl,hR⟩
 ·rcases r2 with⟨_,e3⟩|⟨g,_⟩
  rotate_left
  ·exact absurd hR g
  rw[show b5 cQ NN (code,(code.length:Int),0,code,ss,dt,())=_ from e3];exact⟨0,rfl,rfl,λ_=>⟨hz,by omega,hp,⟨by omega,by omega⟩,hV,hR⟩,λ_=>rfl⟩
 ·rcases r2 with⟨g,_⟩|⟨_,e3⟩
  ·exact absurd g hR
  rw[show b5 cQ NN (code,(code.length:Int),0,code,ss,dt,())=_ from e3];exact⟨6,rfl,rfl,λh=>(by cases h),λh=>absurd h.rng hR⟩
structure uf (bs:List Int)(cs:List DCe)(ls:List DLn)(ts:List DTh):Prop where
 bl:bs.length<=1000
 cl:cs.length<=1000
 ll:Sh4 ls
 tl:ts.length<=1000
 rl:∀t∈ts,t.2.1.length<=1000
theorem uf.nil:uf [] [] [] []:=⟨by simp,by simp,⟨by simp,cx⟩,by simp,cx⟩
theorem Bi{n:Int}{ss bs:List Int}{cs:List DCe}{ls:List DLn}{ts:List DTh}(h:MOk n ss bs cs ls ts):uf bs cs ls ts:=⟨by have:=h.lay.2.1;have:=h.lay.1.2.1;omega,by rw[h.mem.clen];omega,h.mem.sh4,by rw[h.tlen];omega,λt ht=>by rw[(h.thr t ht).len];omega⟩
theorem wA{l:List Int}(h:l.length<=1000):dI l=some (l,()):=by
 unfold dI;rw[dJ (by omega)];rfl
theorem Av{l:List Int}{key:Int}(h:l.length<=1000):fP l key=some (l,key,()):=by
 unfold fP;rw[wA h];rfl
theorem we{code:List DIn}{ss bs:List Int}{dt:List (List Int)}{key:Int}(hb:bs.length<=1000)(hs:ss.length<=1000)(hi:∀b∈bs,lZ b)(Wt:dt.length<=1000)(hd:∀d∈dt,d.length<=1000):
 ∃cs ls e,fO code ss dt bs key=some (cs,ls,e,())/\gA code ss dt bs key=some (cs,ls,e,())/\cs.length<=1000/\Sh4 ls/\(¬LV bs ss->e=1)/\(LV bs ss->dt.length=ss.length->Et ss dt->e=0):=by
 have hnil:([]:List DCe).length<=1000/\Sh4 []:=⟨by simp,by simp,cx⟩;unfold fO gA;rw[(EC (key:=key) hb hs hi).same (CA hb hs hi)]
 rcases CA (key:=key) hb hs hi with⟨hL,e⟩|⟨hL,e⟩
 rotate_left
 ·rw[e];exact⟨_,_,1,rfl,rfl,hnil.1,hnil.2,λ_=>rfl,λh=>absurd h hL⟩
 rw[e,yq,AV];delta bQ;simp only[oBS,oNT,oCF];by_cases hl:(dt.length:Int)=ss.length
 rotate_left
 ·rw[bne_iff_ne.2 hl];exact⟨_,_,1,rfl,rfl,hnil.1,hnil.2,λ_=>rfl,λ_ h=>absurd (show(dt.length:Int)=ss.length by rw[h]) hl⟩
 rw[bne_eq_false_iff_eq.2 hl,show kP 512 512 2=true by kernel_rfl];simp only[oCF,oCT];obtain⟨z0,hz0⟩:∃z0:List DCe,z0=List.replicate 512 (0,0):=⟨_,rfl⟩;rw[<- hz0]
 have X6:z0.length=512:=by rw[hz0,List.length_replicate]
 have UA:∀c∈z0,c.1=0:=by
  intro c hc;rw[hz0]at hc;rw[List.eq_of_mem_replicate hc]
 have hE:Sh4 jg:=⟨by decide,by decide⟩
 obtain⟨t,e1,e2,ht⟩:=DE (f:=fG) (g:=gd) (n:=NN) (s:=(dt,(dt.length:Int),0,code,ss,dt,bs,key,(),(),z0,jg,()))
  (P:=λs=>∃(k:Nat)(cs:List DCe),s=(dt,(dt.length:Int),(k:Int),code,ss,dt,bs,key,(),(),cs,jg,())/\k<=dt.length/\cs.length=512/\∀c∈cs,c.1=0)
  (R:=λt=>(t=.inl (1,(),(),())/\¬Et ss dt)\/∃a1 a2 a3 a4 a5 a6 a7 a8 a9 a10 a11 cs,t=.inr (a1,a2,a3,a4,a5,a6,a7,a8,a9,a10,a11,cs,jg,())/\cs.length=512) (m:=λs=>(s.2.1-s.2.2.1).toNat) ⟨0,z0,rfl,by omega,X6,UA⟩ (by unfold NN;dsimp only;omega) (by
   rintro _ ⟨k,cs,rfl,hk,Zy,XI⟩;unfold fG gd;delta bQ;dsimp only;by_cases hkl:k<dt.length
   rotate_left
   ·rw[oDF (show ¬(k:Int)<dt.length by omega)];exact .inr ⟨_,rfl,rfl,.inr ⟨_,_,_,_,_,_,_,_,_,_,_,_,rfl,Zy⟩⟩
   obtain⟨d,XJ⟩:∃d,dt[k]?=some d:=⟨_,oGE hkl⟩;obtain⟨z,Yc⟩:∃z,ss[k]?=some z:=⟨_,oGE (by omega)⟩;obtain⟨b,z',YO,V8,z1,Qs,b0,bz⟩:=hL.at_ (r:=k) (by omega);rw[Yc]at V8
   injection V8 with V8
   subst V8;have RT:=hd d (dy XJ);obtain⟨q,rfl⟩:∃q:Nat,b=q:=⟨b.toNat,by omega⟩;rw[oDT (show(k:Int)<dt.length by omega),co];simp only[oCT,oBS,show cd dt k=some d from XJ,show cd ss k=some z from Yc,show cd bs k=some (q:Int)from YO,co];by_cases hdz:(d.length:Int)>z
   ·rw[oDT hdz];exact .inr ⟨_,rfl,rfl,.inl ⟨rfl,λg=>by have:=g k hkl d z XJ Yc;omega⟩⟩
   rw[oDF hdz,CN Zy XI YO (by omega),vY RT]
   have hm:Nat.min (d.map sG).length (Nat.sub cs.length q)=d.length:=by
    rw[List.length_map,Zy];show min d.length (512-q)=d.length;omega
   simp only[oCF,oBS,hm];rw[show i3 q cs.length cs.length=true by unfold i3;simp;omega,show i3 q (Nat.add q d.length) cs.length=true by unfold i3;simp;omega];simp only[oCT];have hw:w64 ((k:Int)+1)=(k:Int)+1:=b6 (by omega) (by omega)
   have Zx:nk cs q d.length (d.map sG)=pf cs q d:=by
    unfold nk pf;rw[show(d.map sG).take d.length=d.map sG from List.take_of_length_le (by rw[List.length_map];omega)]
   have hP:∃(j:Nat)(Tq:List DCe),(dt,(dt.length:Int),w64 ((k:Int)+1),code,ss,dt,bs,key,(),(),pf cs q d,jg,())=(dt,(dt.length:Int),(j:Int),code,ss,dt,bs,key,(),(),Tq,jg,())/\j<=dt.length/\Tq.length=512/\∀c∈Tq,c.1=0:=
    ⟨k+1,_,by rw[hw];rfl,by omega,by rw[Ah (by omega)];exact Zy,Ag XI λ_ _=>rfl⟩
   by_cases hdn:d=[]
   ·subst hdn;rw[show Nat.blt 0 ([]:List Int).length=false from rfl];rw[uH]at hP⊢;exact .inl ⟨_,rfl,rfl,hP,by dsimp only;rw[hw];omega⟩
   ·have:0<d.length:=List.length_pos_iff.2 hdn;rw[show Nat.blt 0 d.length=true by rw[Nat.blt_eq];exact this,Zx]
    exact .inl ⟨_,rfl,rfl,hP,by dsimp only;rw[hw];omega⟩)
 rw[e1,e2]
 rcases ht with⟨rfl,hF⟩|⟨a1,a2,a3,a4,a5,a6,a7,a8,a9,a10,a11,cs,rfl,Zy⟩
 ·exact⟨_,_,1,rfl,rfl,hnil.1,hnil.2,λ_=>rfl,λ_ _ h=>absurd h hF⟩
 ·exact⟨_,_,0,rfl,rfl,by omega,hE,λh=>absurd hL h,λ_ _ _=>rfl⟩
def dT:DTh:=(0,List.replicate 8 (0,0),0,0,-1,-1,0,0)
def pJ:DTh:=(1,List.replicate 8 (0,0),0,0,-1,-1,0,0)
theorem zF{bs:List Int}{key:Int}{cs:List DCe}{ls:List DLn}:b5 gE NN (0,(),0,(),(),(),bs,key,cs,ls,[],())=some (4,false,(),0,(),(),(),bs,key,cs,ls,[dT,dT,dT,dT],()):=by kernel_rfl
theorem zE{bs:List Int}{key:Int}{cs:List DCe}{ls:List DLn}:b5 iO NN (0,(),0,(),(),(),bs,key,cs,ls,[],())=some (4,false,(),0,(),(),(),bs,key,cs,ls,[pJ,dT,dT,dT],()):=by kernel_rfl
theorem vy{code:List DIn}{ss bs:List Int}{dt:List (List Int)}{key:Int}(hc:code.length<=1000)(hb:bs.length<=1000)(hs:ss.length<=1000)(hi:∀b∈bs,lZ b)(Wt:dt.length<=1000)(hd:∀d∈dt,d.length<=1000):
 ∃S5 Vy cs ls ts e,dN code ss dt bs key=some (S5,Vy,cs,ls,ts,e,())/\fL code ss dt bs key=some (S5,Vy,cs,ls,ts,e,())/\uf S5 cs ls ts:=by
 obtain⟨e,e1,e2,h0,_⟩:=pB (code:=code) hc hs Wt;unfold dN fL dg;rw[e1,e2];simp only[oBS];by_cases he:e=0
 rotate_left
 ·rw[bne_iff_ne.2 he];exact⟨_,_,_,_,_,_,rfl,rfl,uf.nil⟩
 subst he;have hP:=h0 rfl;obtain⟨cs,ls,x,e3,e4,Zy,T2,Z4,SQ⟩:=we (code:=code) (key:=key) hb hs hi Wt hd;rw[e3,e4];simp only[bne_self_eq_false,oCF,oBS]
 rcases CA (key:=key) hb hs hi with⟨hL,e5⟩|⟨hL,e5⟩
 ·obtain rfl:=SQ hL hP.len hP.fit;rw[e5,Av hb];simp only[bne_self_eq_false,oCF,oBS,oNT];rw[dJ (b:=8) (n:=0) (m:=bs.length) ⟨by omega,by omega⟩,zF,show List.append [] bs=bs from rfl,zE];exact⟨_,_,_,_,_,_,rfl,rfl,hb,Zy,T2,by show([pJ,dT,dT,dT]:List DTh).length<=1000;decide,by show ∀t∈([pJ,dT,dT,dT]:List DTh),t.2.1.length<=1000;decide⟩
 ·obtain rfl:=Z4 hL;rw[e5];exact⟨_,_,_,_,_,_,rfl,rfl,uf.nil⟩
theorem n8{a:List DCe}(h:a.length<=1000):ef a a=some (true,()):=by
 have e:b5 eB NN (a,a,(a.length:Int),0,())=some (.inr (a,a,(a.length:Int),(a.length:Int),false,())):=by
  refine Bs (st:=λk=>(a,a,(a.length:Int),(k:Int),())) (n:=a.length) (by unfold NN;omega) ?_ ?_
  ·intro k hk;unfold eB;dsimp only;rw[oDT (show(k:Int)<a.length by omega),co];simp only[oCT,oBS,show cd a k=some a[k]from oGE hk,BEq.rfl,Bool.and_self,oNT,oCF];rw[b6 (x:=(k:Int)+1) (by omega) (by omega)];exact Ok.ret rfl
  ·unfold eB;dsimp only;rw[oDF (show ¬(a.length:Int)<a.length by omega)];exact Ok.ret rfl
 unfold ef;delta bQ;dsimp only;rw[e];simp only[bne_self_eq_false,oCF]
theorem Cw{cs:List DCe}{ls:List DLn}(h:cs.length<=1000)(hs:Sh4 ls):gz cs ls cs ls=some (true,()):=by
 have e:b5 eu NN ((ls.length:Int),0,cs,ls,cs,ls,())=some (.inr ((ls.length:Int),(ls.length:Int),false,cs,ls,cs,ls,())):=by
  have h4:=hs.1;refine Bs (st:=λk=>((ls.length:Int),(k:Int),cs,ls,cs,ls,())) (n:=ls.length) (by unfold NN;omega) ?_ ?_
  ·intro k hk;unfold eu;dsimp only;have hx:ls[k]?=some ls[k]:=oGE hk;have hl:=hs.2 _ (dy hx);rw[oDT (show(k:Int)<ls.length by omega),co];simp only[oCT,oBS,show cd ls k=some ls[k]from hx,BEq.rfl,bne_self_eq_false,oNT,oCF];rw[n8 (by omega)];simp only[oBS,oNT,oCF];rw[b6 (x:=(k:Int)+1) (by omega) (by omega)];exact Ok.ret rfl
  ·unfold eu;dsimp only;rw[oDF (show ¬(ls.length:Int)<ls.length by omega)];exact Ok.ret rfl
 unfold gz;rw[n8 h];delta bQ;simp only[oBS,oNT,oCF,bne_self_eq_false];rw[e]
theorem Dn{x:DTh}(h:x.2.1.length<=1000):gy x.1 x.2.1 x.2.2.1 x.2.2.2.1 x.2.2.2.2.1 x.2.2.2.2.2.1 x.2.2.2.2.2.2.1 x.2.2.2.2.2.2.2 x.1 x.2.1 x.2.2.1 x.2.2.2.1 x.2.2.2.2.1 x.2.2.2.2.2.1 x.2.2.2.2.2.2.1 x.2.2.2.2.2.2.2=some (true,()):=by
 unfold gy;rw[n8 h];simp only[oBS,BEq.rfl,oCT]
theorem Cz{l:List Int}{key:Int}(h:l.length<=1000):gB l key l key=some (true,()):=by
 have e:b5 eA NN ((l.length:Int),0,l,key,l,key,())=some (.inr ((l.length:Int),(l.length:Int),false,l,key,l,key,())):=by
  refine Bs (st:=λk=>((l.length:Int),(k:Int),l,key,l,key,())) (n:=l.length) (by unfold NN;omega) ?_ ?_
  ·intro k hk;unfold eA;dsimp only;rw[oDT (show(k:Int)<l.length by omega),co];simp only[oCT,oBS,show cd l k=some l[k]from oGE hk,bne_self_eq_false,oCF];rw[b6 (x:=(k:Int)+1) (by omega) (by omega)];exact Ok.ret rfl
  ·unfold eA;dsimp only;rw[oDF (show ¬(l.length:Int)<l.length by omega)];exact Ok.ret rfl
 unfold gB;delta bQ;dsimp only;rw[e];simp only[bne_self_eq_false,oCF]
theorem Au{bs:List Int}{key:Int}{cs:List DCe}{ls:List DLn}{ts:List DTh}(h:uf bs cs ls ts):gx bs key cs ls ts bs key cs ls ts=some (true,()):=by
 have h4:=h.tl
 have e:b5 eo NN ((ts.length:Int),0,bs,key,cs,ls,ts,bs,key,cs,ls,ts,())=some (.inr ((ts.length:Int),(ts.length:Int),false,bs,key,cs,ls,ts,bs,key,cs,ls,ts,())):=by
  refine Bs (st:=λk=>((ts.length:Int),(k:Int),bs,key,cs,ls,ts,bs,key,cs,ls,ts,())) (n:=ts.length) (by unfold NN;omega) ?_ ?_
  ·intro k hk;unfold eo;dsimp only;have hx:ts[k]?=some ts[k]:=oGE hk;rw[oDT (show(k:Int)<ts.length by omega),co];simp only[oCT,oBS,show cd ts k=some ts[k]from hx];rw[Dn (h.rl _ (dy hx))];simp only[oBS,oNT,oCF];rw[b6 (x:=(k:Int)+1) (by omega) (by omega)];exact Ok.ret rfl
  ·unfold eo;dsimp only;rw[oDF (show ¬(ts.length:Int)<ts.length by omega)];exact Ok.ret rfl
 unfold gx;rw[Cz h.bl,Cw h.cl h.ll];delta bQ;simp only[oBS,oNT,oCF,bne_self_eq_false];rw[e]
theorem od:eC=some (true,()):=by kernel_rfl
theorem z8{a0:List DIn}{a1:List Int}{a2:List (List Int)}(hm:a2.length<=maxLen):
 Ok (jr a0 a1 a2) λr=>∃b,r=(b,())/\(b=true->a0.length<=80/\a1.length<=20/\a2.length<=20/\∀d∈a2,d.length<=100):=by
 have hm2:a2.length<=9223372036854775807:=by simp only[maxLen]at hm;omega
 have key:Ok (b5 iv NN (a2,(a2.length:Int),0,a0,a1,a2,())) λt=>t=.inl (false,())\/(t=.inr (a2,(a2.length:Int),(a2.length:Int),false,a0,a1,a2,())/\∀d∈a2,d.length<=100):=by
  refine lB (P:=λs=>∃k:Nat,s=(a2,(a2.length:Int),(k:Int),a0,a1,a2,())/\k<=a2.length/\∀(i:Nat) d,i<k->a2[i]?=some d->d.length<=100) _ (λs=>a2.length-s.2.2.1.toNat) ⟨0,rfl,Nat.zero_le _,λi d h=>by omega⟩ (by unfold NN;dsimp only;omega) ?_;rintro _ ⟨k,rfl,hk,ZY⟩;unfold iv;delta bQ;dsimp only;refine Ok.cond (λhc=>?_) (λhc=>?_)
  ·have hc:=of_decide_eq_true hc
   have hlt:k<a2.length:=by omega
   have hx:a2[k]?=some a2[k]:=oGE hlt;rw[co];simp only[oBS,show cd a2 k=some a2[k]from hx];refine Ok.cond (λZw=>Ok.ret (.inl rfl)) (λZw=>?_);have Zw:=of_decide_eq_false Zw;rw[b6 (x:=(k:Int)+1) (by omega) (by omega)];refine Ok.ret ⟨⟨k+1,rfl,hlt,λi d hi hd=>?_⟩,by dsimp only;omega⟩;by_cases e:i=k
   ·subst e;rw[hx]at hd
    injection hd with hd
    subst hd;omega
   ·exact ZY i d (by omega) hd
  ·have hc:=of_decide_eq_false hc
   obtain rfl:k=a2.length:=by omega
   refine Ok.ret (.inr ⟨rfl,λd hd=>?_⟩);obtain⟨i,hi⟩:=List.getElem?_of_mem hd;exact ZY i d (oGS hi).1 hi
 obtain⟨t,e,ht⟩:=key;unfold jr;delta bQ;dsimp only;rw[e];rcases ht with rfl|⟨rfl,hd⟩
 ·exact Ok.ret ⟨false,rfl,λh=>by cases h⟩
 ·dsimp only;refine Ok.cond (λh1=>?_) (λ_=>Ok.ret ⟨false,rfl,λh=>by cases h⟩);refine Ok.cond (λh2=>?_) (λ_=>Ok.ret ⟨false,rfl,λh=>by cases h⟩);have h1:=of_decide_eq_true h1;have h2:=of_decide_eq_true h2;refine Ok.ret ⟨_,rfl,λh3=>?_⟩;have h3:=of_decide_eq_true h3;exact⟨by omega,by omega,by omega,hd⟩
structure SmP (c:List DIn)(s:List Int)(d:List (List Int)):Prop where
 cl:c.length<=300
 sl:s.length<=20
 dl:d.length<=20
 el:∀x∈d,x.length<=100
 w:∀x∈d,∀y∈x,W16 y
theorem SmP.of{c:List DIn}{s:List Int}{d:List (List Int)}(h:pF c s d):SmP c s d:=by
 have h4:=h.sz.2.1;have hl:=h.len;refine⟨by have:=h.clen.2;omega,by omega,by omega,λx hx=>?_,h.num⟩;obtain⟨j,hj⟩:=List.getElem?_of_mem hx;obtain⟨z,hz⟩:∃z,s[j]?=some z:=⟨_,oGE (by have:=(oGS hj).1;omega)⟩;have:=h.fit j x z hj hz;have:=(h.sz.2.2 z (dy hz)).2;omega
theorem je{a b:Int}(ha:lZ a)(hb:0<b)(Z0:b<=9223372036854775807):dY a b=some (a%b,()):=Dz ha hb Z0
theorem pZ{a:Int}{n:Nat}(hn:0<n):∃k:Nat,a%(n:Int)=(k:Int)/\k<n:=by
 have h0:=Int.emod_nonneg a (show(n:Int)≠0 by omega);have h1:=Int.emod_lt_of_pos a (show(0:Int)<n by omega);exact⟨(a%(n:Int)).toNat,by omega,by omega⟩
theorem CR{code:List DIn}{ss:List Int}{dt:List (List Int)}{what at_ by_:Int}(hp:pF code ss dt)(hw:lZ what)(ha:lZ at_)(hb:lZ by_):
 Ok (dP code ss dt what at_ by_) λr=>∃c s d,r=(c,s,d,())/\SmP c s d:=by
 have hS:=SmP.of hp;have ZC:=hp.clen.1;have Zw:=hp.clen.2;have Ze:=hp.sz.1;have Tk:=hp.sz.2.1;have hl:=hp.len;unfold dP;by_cases hok:ok5 code.length ss.length dt.length what at_ by_
 ·rw[oIP hok];refine Ok.ret ⟨_,_,_,rfl,?_,hS.sl,hS.dl,hS.el,hS.w⟩;unfold tri
  have:(by_%64).toNat<64:=by have:=Int.emod_lt_of_pos by_ (show(0:Int)<64 by decide);omega
  simp only[List.length_append,List.length_replicate];omega
 ·rw[oIN hok];have h5:what%8≠5:=λh=>hok ⟨⟨by omega,by omega,by omega,by omega,by omega,by omega⟩,hw,ha,hb,h⟩;unfold is;rw[dJ (b:=40) (n:=0) (m:=code.length) ⟨by omega,by omega⟩,dJ (b:=8) (n:=0) (m:=ss.length) ⟨by omega,by omega⟩,dJ (b:=24) (n:=0) (m:=dt.length) ⟨by omega,by omega⟩];simp only[oCT,show List.append [] code=code from rfl,show List.append [] ss=ss from rfl,show List.append [] dt=dt from rfl];delta bQ;rw[je ha (show(0:Int)<(code.length:Int) by omega) (by omega),je hw (show(0:Int)<8 by decide) (by decide)];obtain⟨k,hk,hkl⟩:=pZ (a:=at_) (n:=code.length) (by omega);rw[hk];simp only[oBS];have Y0:cd code k=some code[k]:=oGE hkl;have P2:cd ss 0=some ss[0]:=oGE (by omega);have Po:cd dt 0=some dt[0]:=oGE (by omega)
  have Zf:∀{o:Option ((List DIn×List Int×List (List Int)×Unit×Unit×Unit×Unit)⊕(List DIn×List Int×List (List Int)×Unit×Unit×Unit×Unit))},Ok o (λr=>∃c s d,(r=.inl (c,s,d,(),(),(),())\/r=.inr (c,s,d,(),(),(),()))/\SmP c s d)->
   Ok (match o with|none=>none|some (.inl (x5,x6,x7,x8,x9,x10,_))=>some (x5,x6,x7,())|some (.inr (x5,x6,x7,x8,x9,x10,_))=>some (x5,x6,x7,())) λr=>∃c s d,r=(c,s,d,())/\SmP c s d:=by
   rintro o ⟨r,rfl,c,s,d,rfl|rfl,h⟩
   ·exact Ok.ret ⟨_,_,_,rfl,h⟩
   ·exact Ok.ret ⟨_,_,_,rfl,h⟩
  refine Zf ?_
  have h8:what%8=0\/what%8=1\/what%8=2\/what%8=3\/what%8=4\/what%8=6\/what%8=7:=by omega
  have Vk:∀f:DIn->DIn,SmP (List.modify code k f) ss dt:=λf=>⟨by rw[oLM];omega,hS.sl,hS.dl,hS.el,hS.w⟩;rcases h8 with e|e|e|e|e|e|e
  ·rw[e];obtain⟨j,hj,hjl⟩:=pZ (a:=by_) (n:=7) (by decide);rw[show((0:Int)==0)=true from rfl,je hb (show(0:Int)<7 by decide) (by decide),show by_%7=(j:Int)from hj];simp only[oCT,oBS,co,show cd ([63,64,65535,65536,-1,3,4]:List Int) j=some ([63,64,65535,65536,-1,3,4]:List Int)[j]from oGE hjl,Y0];exact Ok.ret ⟨_,_,_,.inl rfl,Vk _⟩
  ·rw[e];rw[show((1:Int)==0)=false from rfl,show((1:Int)==1)=true from rfl,je hb (show(0:Int)<10 by decide) (by decide)];simp only[oCT,oCF,oBS,co,Y0];exact Ok.ret ⟨_,_,_,.inl rfl,Vk _⟩
  ·rw[e];rw[show((2:Int)==0)=false from rfl,show((2:Int)==1)=false from rfl,show((2:Int)==2)=true from rfl,je hb (show(0:Int)<36 by decide) (by decide)];simp only[oCT,oCF,oBS,co,P2];exact Ok.ret ⟨_,_,_,.inl rfl,hS.cl,by rw[oLM];exact hS.sl,hS.dl,hS.el,hS.w⟩
  ·rw[e];rw[show((3:Int)==0)=false from rfl,show((3:Int)==1)=false from rfl,show((3:Int)==2)=false from rfl,show((3:Int)==3)=true from rfl];simp only[oCT,oCF];refine cu (by simp[i3];omega) ?_;refine Ok.ret ⟨_,_,_,.inr rfl,hS.cl,hS.sl,?_,λx hx=>hS.el x ?_,λx hx=>hS.w x ?_⟩
   ·have:(o4 dt 1 (Nat.sub dt.length 1)).length<=dt.length:=by simp[o4]
    have:=hS.dl;omega
   ·unfold o4 at hx;exact List.mem_of_mem_drop (List.mem_of_mem_take hx)
   ·unfold o4 at hx;exact List.mem_of_mem_drop (List.mem_of_mem_take hx)
  ·rw[e];rw[show((4:Int)==0)=false from rfl,show((4:Int)==1)=false from rfl,show((4:Int)==2)=false from rfl,show((4:Int)==3)=false from rfl,show((4:Int)==4)=true from rfl];simp only[oCT,oCF];exact Ok.ret ⟨_,_,_,.inl rfl,by simp,hS.sl,hS.dl,hS.el,hS.w⟩
  ·rw[e];obtain⟨j,hj,hjl⟩:=pZ (a:=by_) (n:=36) (by decide);rw[show((6:Int)==0)=false from rfl,show((6:Int)==1)=false from rfl,show((6:Int)==2)=false from rfl,show((6:Int)==3)=false from rfl,show((6:Int)==4)=false from rfl,show((6:Int)==5)=false from rfl,show((6:Int)==6)=true from rfl,je hb (show(0:Int)<36 by decide) (by decide),show by_%36=(j:Int)from hj];simp only[oCT,oCF,oBS,co,Po];refine cu (by simp[kP];omega) ?_;refine Ok.ret ⟨_,_,_,.inl rfl,hS.cl,hS.sl,by rw[oLM];exact hS.dl,λx hx=>?_,λx hx=>?_⟩
   ·exact pi (P:=λx:List Int=>x.length<=100) hS.el (λ_ _=>by rw[List.length_replicate];omega) x hx
   ·exact pi (P:=λx:List Int=>∀y∈x,W16 y) hS.w (λ_ _ y hy=>by rw[(List.mem_replicate.1 hy).2];exact⟨by decide,by decide⟩) x hx
  ·rw[e];obtain⟨j,hj,hjl⟩:=pZ (a:=by_) (n:=2) (by decide);rw[show((7:Int)==0)=false from rfl,show((7:Int)==1)=false from rfl,show((7:Int)==2)=false from rfl,show((7:Int)==3)=false from rfl,show((7:Int)==4)=false from rfl,show((7:Int)==5)=false from rfl,show((7:Int)==6)=false from rfl,show((7:Int)==7)=true from rfl,je hb (show(0:Int)<2 by decide) (by decide),show by_%2=(j:Int)from hj,je ha (show(0:Int)<5 by decide) (by decide)];simp only[oCT,oCF,oBS,co,Y0,show cd ([18,15]:List Int) j=some ([18,15]:List Int)[j]from oGE hjl];exact Ok.ret ⟨_,_,_,.inl rfl,Vk _⟩
theorem El{c:List DIn}{s:List Int}{d:List (List Int)}{Q:List ((List DIn)×(List Int)×List (List Int))}{bx by_:List Int}{kx ky:Int}{n i:Int}(hc:c.length<=1000)(hs:s.length<=1000)(hd:d.length<=1000)(he:∀x∈d,x.length<=1000)
 (Tx:bx.length<=1000)(PG:∀b∈bx,lZ b)(WZ:by_.length<=1000)(PH:∀b∈by_,lZ b):
 b5 cA NN (n,i,2,0,by_,ky,bx,kx,c,s,d,Q,[(bx,kx),(by_,ky)],())=some (.inr (n,i,2,2,false,by_,ky,bx,kx,c,s,d,Q,[(bx,kx),(by_,ky)],())):=by
 refine Bs (st:=λk=>(n,i,2,(k:Int),by_,ky,bx,kx,c,s,d,Q,[(bx,kx),(by_,ky)],())) (n:=2) (by unfold NN;omega) ?_ ?_
 ·intro k hk
  obtain⟨z,hz,X6,Qf⟩:∃z:List Int×Int,([(bx,kx),(by_,ky)]:List (List Int×Int))[k]?=some z/\z.1.length<=1000/\∀b∈z.1,lZ b:=by
   have:k=0\/k=1:=by omega
   rcases this with rfl|rfl
   ·exact⟨_,rfl,Tx,PG⟩
   ·exact⟨_,rfl,WZ,PH⟩
  obtain⟨S5,Vy,cs,ls,ts,e,e1,e2,hS⟩:=vy (code:=c) (ss:=s) (bs:=z.1) (dt:=d) (key:=z.2) hc X6 hs Qf hd he;unfold cA;dsimp only;rw[oDT (show(k:Int)<2 by omega),co];simp only[oCT,oBS,show cd [(bx,kx),(by_,ky)] k=some z from hz];rw[e1,e2];simp only[oBS,bne_self_eq_false,oCF];rw[Au hS];simp only[oBS,oNT,oCF];rw[b6 (x:=(k:Int)+1) (by omega) (by omega)];exact Ok.ret rfl
 ·unfold cA;dsimp only;exact Ok.ret rfl
theorem wE{a0:List DIn}{a1:List Int}{a2:List (List Int)}{bs:List Int}{key:Int}{l:List Int}{what at_ by_:Int}(hm:a2.length<=maxLen)(OE:bs.length<=maxLen)(Pk:∀b∈bs,lZ b)(hl:∀x∈l,lZ x)(Vk:l.length<=maxLen)(hw:lZ what)(ha:lZ at_)(hb:lZ by_):
 dQ a0 a1 a2 bs key l what at_ by_=some (true,()):=by
 refine zB ?_;unfold dQ;refine(z8 hm).bind ?_;rintro _ ⟨b,rfl,hsh⟩;dsimp only
 cases b with
 |false=>
  simp only[Bool.not_false,oCT];rw[od];exact Ok.ret rfl
 |true=>
  obtain⟨r1,r2,r3,r4⟩:=hsh rfl;simp only[oNT,oCF];delta bQ;refine Ok.cond (λ_=>by rw[od];exact Ok.ret rfl) (λTw=>?_);have Tw:=of_decide_eq_false Tw;refine(vP (qY hl Vk)).bind ?_;rintro _ ⟨code,ss,dt,k1,rfl,hp,hd⟩;dsimp only;refine(yx hp.sz hd).bind ?_;rintro _ ⟨bx,kx,k2,rfl,hL,Vi,hd2⟩;dsimp only;refine(CR hp hw ha hb).bind ?_;rintro _ ⟨c,s,d,rfl,hS⟩;dsimp only;have hP:=SmP.of hp;have UN:=hL.2.1;have Tk:=hp.sz.2.1
  have QM:∀b∈bx,lZ b:=λb hb=>by
   obtain⟨r,hr⟩:=List.getElem?_of_mem hb;obtain⟨b',z,YO,Yc,z1,Qs,b0,bz⟩:=hL.at_ (r:=r) (by have:=(oGS hr).1;omega);rw[hr]at YO
   injection YO with YO
   subst YO;unfold lZ;omega
  have e:b5 cz NN (3,0,bs,key,bx,kx,[(a0,(a1,a2)),(code,(ss,dt)),(c,(s,d))],())=some (3,3,false,bs,key,bx,kx,[(a0,(a1,a2)),(code,(ss,dt)),(c,(s,d))],()):=by
   refine Bs (st:=λk=>(3,(k:Int),bs,key,bx,kx,[(a0,(a1,a2)),(code,(ss,dt)),(c,(s,d))],())) (n:=3) (by unfold NN;omega) ?_ ?_
   ·intro k hk
    obtain⟨z,hz,z1,z2,z3,z4⟩:∃z:List DIn×List Int×List (List Int),([(a0,(a1,a2)),(code,(ss,dt)),(c,(s,d))]:List (List DIn×List Int×List (List Int)))[k]?=some z/\z.1.length<=1000/\z.2.1.length<=1000/\z.2.2.length<=1000/\∀x∈z.2.2,x.length<=1000:=by
     have:k=0\/k=1\/k=2:=by omega
     rcases this with rfl|rfl|rfl
     ·exact⟨_,rfl,by dsimp only;omega,by dsimp only;omega,by dsimp only;omega,λx hx=>by have:=r4 x hx;omega⟩
     ·exact⟨_,rfl,by have:=hP.cl;dsimp only;omega,by have:=hP.sl;dsimp only;omega,by have:=hP.dl;dsimp only;omega,λx hx=>by have:=hP.el x hx;omega⟩
     ·exact⟨_,rfl,by have:=hS.cl;dsimp only;omega,by have:=hS.sl;dsimp only;omega,by have:=hS.dl;dsimp only;omega,λx hx=>by have:=hS.el x hx;omega⟩
    obtain⟨e,e1,e2,_⟩:=pB (code:=z.1) (ss:=z.2.1) (dt:=z.2.2) z1 z2 z3;unfold cz;dsimp only;rw[oDT (show(k:Int)<3 by omega),co];simp only[oCT,oBS,show cd [(a0,(a1,a2)),(code,(ss,dt)),(c,(s,d))] k=some z from hz];unfold dg;rw[e1,e2];simp only[oBS,bne_self_eq_false,oCF];rw[show bQ (List.length [(bx,kx),(bs,key)])=2 from rfl,El z1 z2 z3 z4 (by omega) QM (by omega) Pk];dsimp only;rw[b6 (x:=(k:Int)+1) (by omega) (by omega)];exact Ok.ret rfl
   ·unfold cz;dsimp only;exact Ok.ret rfl
  rw[show((List.length [(a0,(a1,a2)),(code,(ss,dt)),(c,(s,d))]:Nat):Int)=3 from rfl,e];simp only[oBS];rw[od];exact Ok.ret rfl
theorem law_ProgramChecks{h0:HL den [eM,RI,(.row false RW)]}{h1:HL den [RI,(.int .u16)]}{h2:HL den [RI]}{h3:HL den [I64]}{h4:HL den [I64]}{h5:HL den [I64]}(g0:GoodL _ h0)(g1:GoodL _ h1)(g2:GoodL _ h2)(g3:GoodL _ h3)(g4:GoodL _ h4)(g5:GoodL _ h5):
 fD.g (appL _ _ h0 (appL _ _ h1 (appL _ _ h2 (appL _ _ h3 (appL _ _ h4 (appL _ _ h5 ()))))))=some (true,()):=
 wE g0.2.2.1.1 (AO g1.1).2 (AO g1.1).1 (AO g2.1).1 (AO g2.1).2 (g64 g3.1) (g64 g4.1) (g64 g5.1)
end Go.Proofs.Ytgphpfjngblbiaa
