/- Part of the proof; no condition. -/
import Derived.Test.YteonljfnncdijaaGc
import Derived.Orders
import Derived.Test.YteonljfnncdijaaProg
import Derived.WalkKit
import Derived.WalkSpells
import Derived.Handy
import Derived.Sort.Grow
import Derived.Shelf.GgSortFunc.RowK
import Derived.Shelf.SlicesQ.Reverse
import Derived.Lib.SlicesCompact
import Derived.Lib.SliceRun
import Derived.Laws.StructEq
import Derived.Deep.LoopGhost
import Derived.Deep.Draws
import Derived.Sort.WalkB12
import Derived.Shelf.RegionOpenPlain
import Derived.Shelf.SlSortCmp.WholeK
import Derived.Shelf.SlSortCmp.NoneTotal
import Derived.Shelf.SlicesE.Clone
import Derived.Ground.SlgnProg
import Derived.Deep.DeepAppendRoom
import Derived.ArgAppend
import Derived.KernelRfl
import Derived.OpenShut
import Derived.Deep.Slices
set_option linter.unusedVariables false
set_option linter.unusedSimpArgs false
namespace Go.Proofs.Yteonljfnncdijaa
open Go.RowKit
def xf(f:Nat->Value):Operand->Value
 | .tmp t=>f t
 | .const v=>v
 | .global g=>.pointer (some ⟨g,0,none⟩)
 | .func f=>.func (.func f) #[] #[]
def yf(f:Nat->Value):Option Tmp->Value
 | some t=>f t
 | none=>undef
def tL(f:Nat->Value) (o:Oper):Value:=
 match o.dst with
 | some t=>f t
 | none=>match o.op with
  | .store _ (.tmp t) _=>f t
  | _=>undef
def oI(f:Nat->Value) (o:Oper) (v:Value):Value:=
 match o.dst with
 | some _=>v
 | none=>tL f o
def f9(o:Oper) (j:Nat):Bool:=o.after.toList.any λe=>e.on==j && Region.binds .any e
def gX(l:List Oper) (t:Tmp):Option Nat:=l.findIdx? λo=>o.dst==some t
def tF(l:List Oper) (old:Nat->Value) (Ss:List (Value->World->Prop)) (o:Oper) (f:Nat->Value) (w:World) (t:Tmp):Prop:=
 match gX l t with
 | none=>f t=old t
 | some j=>if f9 o j then (Ss.getD j λ_ _=>False) (f t) w else f t=old t
def tJ(l:List Oper) (f:Nat->Value) (o:Oper):Bool:=
 match o.guard with
 | none=>true
 | some (j,b)=>match (l[j]?).bind (·.dst) with
  | some d=>(match f d with | .bool c=>c==b | _=>false)
  | none=>false
def jC(P:Program) (Vl:Value->World->Prop):Result Next->Prop
 | .ok (.value v) w'=>Vl v w'
 | .ok .skip w'=>Vl undef w'
 | .ok (.enter f args) w'=>Calls P f args w' λe X4=>∃v,e=.returned v/\Vl v X4
 | _=>False
def Bm(base:World->Prop) (R:World->World->Prop) (s:Value->World->Prop) (w:World) (v:Value) (w':World):Prop:=base w'/\R w w'/\s v w'
def Cz(P:Program) (l:List Oper) (old:Nat->Value) (base:World->Prop) (R:World->World->Prop) (Ss:List (Value->World->Prop)) (o:Oper) (s:Value->World->Prop):Prop:=
 ∀(f:Nat->Value) (w:World),base w->(∀t∈o.looksAt l.toArray,tF l old Ss o f w t) ->
  if tJ l f o=true then jC P (λv w'=>Bm base R s w (oI f o v) w') ((execOp (xf f) o).run P w) else s (oI f o undef) w
def ke(P:Program) (l:List Oper) (old:Nat->Value) (base:World->Prop) (R:World->World->Prop) (Ss:List (Value->World->Prop)):List Oper->List (Value->World->Prop)->Prop
 | [],[]=>True
 | o :: r,s :: rs=>Cz P l old base R Ss o s/\ke P l old base R Ss r rs
 | _,_=>False
def Br(R:World->World->Prop):List (Value->World->Prop)->Prop
 | []=>True
 | s :: r=>(∀w w' u,R w w'->s u w->s u w')/\Br R r
def eM(f:Nat->Value):List Oper->Act->Act
 | [],a=>a
 | o :: r,a=>eM f r (a.put o.dst (yf f o.dst))
def BA(f:Nat->Value) (w:World):List Oper->List (Value->World->Prop)->Prop
 | o :: r,s :: rs=>s (tL f o) w/\BA f w r rs
 | _,_=>True
def q7(l:List Oper) (n:Nat):Bool:=
 (l.zipIdx.all λ(o,k)=>
  (match o.dst with | some d=>gX l d==some k && decide (d < n) | none=>true) &&
  (o.after.all λe=>!Region.binds .any e || decide (e.on < k)) &&
  (o.looksAt l.toArray).all λt=>match gX l t with
   | none=>true
   | some j=>f9 o j || f9 (l.getD j default) k) &&
 (l.all λo=>match o.dst,o.op with
  | none,.store _ (.tmp t) _=>(match gX l t with | none=>true | some j=>f9 o j)
  | _,_=>true) &&
 l.all λo=>match o.guard with
  | none=>true
  | some (j,_)=>match (l[j]?).bind (·.dst) with | some d=>(o.looksAt l.toArray).contains d | none=>false
section
variable {P:Program} {l:List Oper} {a0:Act} {base:World->Prop} {R:World->World->Prop} {Ss:List (Value->World->Prop)}
structure JJ (l:List Oper) (a0:Act) (base:World->Prop) (Ss:List (Value->World->Prop)) (listed:Array Bool) (a:Act) (w:World):Prop where
 base_:base w
 defers:a.defers=a0.defers
 lsize:listed.size=l.length
 asize:a.tmps.size=a0.tmps.size
 old:∀t,(∀(j:Nat) o,l[j]?=some o->o.dst=some t->listed.getD j true=false)->a.tmps.getD t undef=a0.tmps.getD t undef
 says:∀(j:Nat) o s,l[j]?=some o->Ss[j]?=some s->listed.getD j false=true->s (tL (λt=>a.tmps.getD t undef) o) w
 down:∀(j:Nat) o,l[j]?=some o->listed.getD j false=true->∀e∈o.after,Region.binds .any e=true->listed.getD e.on false=true
theorem zE(a:Act):a.eval=xf λt=>a.tmps.getD t undef:=by funext x;cases x<;>rfl
theorem ke.at_{lo:List Oper}{ls:List (Value->World->Prop)}:∀{o:Oper}{k:Nat},ke P l (λt=>a0.tmps.getD t undef) base R Ss lo ls->lo[k]?=some o->∃s,ls[k]?=some s/\Cz P l (λt=>a0.tmps.getD t undef) base R Ss o s:=by
 induction lo generalizing ls with
 | nil=>intro o k _ h;simp at h
 | cons x r ih=>
  intro o k hd h
  match ls,hd with
  | s :: rs,hd=>
   cases k with
   | zero=>simp at h;subst h;exact⟨s,rfl,hd.1⟩
   | succ k=>simpa using ih hd.2 (by simpa using h)
theorem Br.at_:∀{ls:List (Value->World->Prop)}{k:Nat}{s:Value->World->Prop},Br R ls->ls[k]?=some s->∀w w' u,R w w'->s u w->s u w'
 | [],_,_,_,h=>by simp at h
 | x :: r,0,s,hk,h=>by simp at h;subst h;exact hk.1
 | x :: r,k+1,s,hk,h=>Br.at_ hk.2 (by simpa using h)
theorem qK{t:Tmp}{j:Nat}(h:gX l t=some j):∃o,l[j]?=some o/\o.dst=some t:=by
 unfold gX at h;rw[List.findIdx?_eq_some_iff_getElem] at h;obtain⟨hj,h1,_⟩:=h;exact⟨l[j],oGE hj,by simpa using h1⟩
theorem qL{t:Tmp}(h:gX l t=none):∀(j:Nat) o,l[j]?=some o->o.dst≠some t:=by
 unfold gX at h;rw[List.findIdx?_eq_none_iff] at h;intro j o hj e;have:=h o (List.mem_of_getElem? hj);simp[e] at this
theorem iM{n:Nat}(h:q7 l n=true) {k:Nat}{o:Oper}(hk:l[k]?=some o) :
 (∀d,o.dst=some d->gX l d=some k/\d < n)/\(∀e∈o.after,Region.binds .any e=true->e.on < k) /\
 (∀t∈o.looksAt l.toArray,∀j,gX l t=some j->f9 o j=true\/f9 (l.getD j default) k=true) /\
 (∀y t x,o.dst=none->o.op=.store y (.tmp t) x->∀j,gX l t=some j->f9 o j=true) /\
 (∀j b,o.guard=some (j,b)->∃d,(l[j]?).bind (·.dst)=some d/\d∈o.looksAt l.toArray):=by
 simp only[q7,oBA,List.all_eq_true] at h;obtain⟨⟨h1,hst⟩,h2⟩:=h
 have hm:(o,k)∈l.zipIdx:=by rw[List.mem_zipIdx_iff_getElem?];simpa using hk
 have h3:=h1 _ hm;simp only[oBA,List.all_eq_true] at h3;obtain⟨⟨h4,h5⟩,h6⟩:=h3;refine⟨λd hd=>?_,λe he hb=>?_,λt ht j hj=>?_,λy t x hd hop j hw=>?_,λj b hg=>?_⟩
 ·rw[hd] at h4;simpa using h4
 ·have:=(Array.all_eq_true_iff_forall_mem.1 h5) e he;simpa [hb] using this
 ·have:=h6 t ht;rw[hj] at this;simpa using this
 ·have:=hst o (List.mem_of_getElem? hk);rw[hd,hop] at this;simp only[hw] at this;exact this
 ·have:=h2 o (List.mem_of_getElem? hk);rw[hg] at this;simp only at this
  cases hd:(l[j]?).bind (·.dst) with
  | none=>rw[hd] at this;simp at this
  | some d=>rw[hd] at this;exact⟨d,rfl,by simpa using this⟩
theorem ms{o:Oper}{j:Nat}(h:f9 o j=true):∃e∈o.after,e.on=j/\Region.binds .any e=true:=by
 unfold f9 at h;rw[List.any_eq_true] at h;obtain⟨e,he,hx⟩:=h;simp only[oBA,beq_iff_eq] at hx;exact⟨e,by simpa using he,hx.1,hx.2⟩
theorem jU{listed:Array Bool}{i j:Nat}{b:Bool}(hi:i < listed.size):(listed.setIfInBounds i true).getD j b=if i=j then true else listed.getD j b:=by
 by_cases e:i=j
 ·subst e;simp[Array.getD,hi]
 ·simp only[oIN e];simp only[Array.getD,Array.size_setIfInBounds];split
  ·exact Array.getElem_setIfInBounds_ne _ e
  ·rfl
theorem jV{a:Act}{d t:Nat}{v:Value}(hd:d < a.tmps.size):(a.put (some d) v).tmps.getD t undef=if d=t then v else a.tmps.getD t undef:=by
 unfold Act.put;by_cases e:d=t
 ·subst e;simp[Array.getD,hd]
 ·simp only[oIN e];simp only[Array.getD,Array.size_setIfInBounds];split
  ·exact Array.getElem_setIfInBounds_ne _ e
  ·rfl
theorem JJ.step(U5:∀w,R w w) (hB:q7 l a0.tmps.size=true) (hD:ke P l (λt=>a0.tmps.getD t undef) base R Ss l Ss) (hK:Br R Ss) {listed:Array Bool}{a:Act}{w:World}{Q:Exit->Act->World->Prop}(h:JJ l a0 base Ss listed a w) {i:Nat}(hi:i∈Region.ready .any l.toArray listed) :
 wpOp P l.toArray Q i (λa' w'=>JJ l a0 base Ss (listed.setIfInBounds i true) a' w') a w:=by
 obtain⟨Xl,o,ho,Zl⟩:=mem_ready.1 hi
 have Zo:l[i]?=some o:=by simpa using ho
 have XG:i < listed.size:=by rw[h.lsize];exact (oGS Zo).1
 obtain⟨ZT,Z2,U7,O9,PV⟩:=iM hB Zo;obtain⟨s,hs,Ua⟩:=hD.at_ Zo
 have Y3:∀t∈o.looksAt l.toArray,tF l (λt=>a0.tmps.getD t undef) Ss o (λt=>a.tmps.getD t undef) w t:=by
  intro t ht;unfold tF
  cases hw:gX l t with
  | none=>exact h.old t λj o' hj hd=>absurd hd (qL hw j o' hj)
  | some j=>
   obtain⟨oj,YH,VX⟩:=qK hw;by_cases hwt:f9 o j=true
   ·simp only[hwt,if_true];obtain⟨e,he,UA,VU⟩:=ms hwt
    have VZ:listed.getD j false=true:=by rw[<- UA];exact Zl e he VU
    obtain⟨sj,WB,_⟩:=hD.at_ YH;have:=h.says j oj sj YH WB VZ;simpa [List.getD,WB,tL,VX] using this
   ·simp only[hwt];refine h.old t λj' o' ZZ hd'=>?_
    have hjj:j'=j:=by
     have:=((iM hB ZZ).1 t hd').1
     rw[hw] at this;injection this with this;exact this.symm
    subst hjj;rcases U7 t ht j' hw with h' | h'
    ·exact absurd h' hwt
    ·have e:l.getD j' default=oj:=by simp[List.getD,YH]
     rw[e] at h';obtain⟨ed,SI,UA,VU⟩:=ms h'
     cases hl:listed.getD j' true with
     | false=>rfl
     | true=>
      exfalso
      have hjl:j' < listed.size:=by rw[h.lsize];exact (oGS YH).1
      have YC:listed.getD j' false=true:=by simpa [Array.getD,hjl] using hl
      have:=h.down j' oj YH YC ed SI VU;rw[UA] at this;simp[Array.getD,XG] at this Xl;rw[this] at Xl;cases Xl
 have Wl:=Ua (λt=>a.tmps.getD t undef) w h.base_ Y3
 have UV:Region.wanted o (yielded l.toArray a.tmps)=tJ l (λt=>a.tmps.getD t undef) o:=by
  unfold Region.wanted tJ
  cases hg:o.guard with
  | none=>rfl
  | some p=>
   obtain⟨j,b⟩:=p;obtain⟨d,hd,_⟩:=PV j b hg
   have Rq:d < a.tmps.size:=by
    rw[h.asize];obtain⟨oj,YH,VX⟩:=Option.bind_eq_some_iff.1 hd;exact ((iM hB YH).1 d VX).2
   have hy:yielded l.toArray a.tmps j=(match a.tmps.getD d undef with | .bool c=>some c | _=>none):=by
    unfold yielded
    have e:(l.toArray[j]?).bind (·.dst)=some d:=by simpa using hd
    rw[e];simp only[oBS];rw[Array.getElem?_eq_getElem Rq];simp only[Array.getD,Rq,dif_pos,Array.getInternal_eq_getElem];cases a.tmps[d]<;>rfl
   simp only[hd];rw[hy];cases a.tmps.getD d undef<;>simp
 have XJ:∀v w',Bm base R s w (oI (λt=>a.tmps.getD t undef) o v) w'->JJ l a0 base Ss (listed.setIfInBounds i true) (a.put o.dst v) w':=by
  intro v w' ⟨hb,hR,RQ⟩
  have hsz:(a.put o.dst v).tmps.size=a.tmps.size:=by unfold Act.put;split<;>simp
  refine⟨hb,by rw[<- h.defers];unfold Act.put;split<;>rfl,by simpa using h.lsize,hsz.trans h.asize,λt ht=>?_,λj oj sj YH WB VZ=>?_,λj oj YH VZ e he VU=>?_⟩
  ·have QF:o.dst≠some t:=λe=>by
    have:=ht i o Zo e;rw[jU XG] at this;simp at this
   have ZL:=h.old t λj oj YH VX=>by
    have:=ht j oj YH VX;rw[jU XG] at this;split at this
    ·cases this
    ·exact this
   rw[<- ZL]
   cases hd:o.dst with
   | none=>rfl
   | some d=>rw[jV (by rw[h.asize];exact (ZT d hd).2),oIN (by rintro rfl;exact QF hd)]
  ·by_cases e:i=j
   ·subst e
    rw[Zo] at YH;injection YH with YH;subst YH
    rw[hs] at WB;injection WB with WB;subst WB
    cases hd:o.dst with
    | none=>
     have e1:(a.put none v).tmps=a.tmps:=rfl
     have e2:oI (λt=>a.tmps.getD t undef) o v=tL (λt=>a.tmps.getD t undef) o:=by unfold oI;rw[hd]
     rw[e1,<- e2];exact RQ
    | some d=>
     have e2:oI (λt=>a.tmps.getD t undef) o v=v:=by unfold oI;rw[hd]
     have e3:tL (λt=>(a.put (some d) v).tmps.getD t undef) o=v:=by
      unfold tL;rw[hd];simp only;rw[jV (by rw[h.asize];exact (ZT d hd).2),oIP rfl]
     rw[e3,<- e2];exact RQ
   ·rw[jU XG,oIN e] at VZ;have ZL:=hK.at_ WB w w' _ hR (h.says j oj sj YH WB VZ)
    have Y0:∀t,o.dst≠some t->(a.put o.dst v).tmps.getD t undef=a.tmps.getD t undef:=λt ht=>by
     cases hd:o.dst with
     | none=>rfl
     | some d'=>rw[jV (by rw[h.asize];exact (ZT d' hd).2),oIN (by rintro rfl;exact ht hd)]
    have Th:tL (λt=>(a.put o.dst v).tmps.getD t undef) oj=tL (λt=>a.tmps.getD t undef) oj:=by
     unfold tL
     cases VX:oj.dst with
     | some d=>
      refine Y0 d λhd=>?_;have h1:=(ZT d hd).1;have h2:=((iM hB YH).1 d VX).1;rw[h1] at h2
      injection h2 with h2
      exact e h2
     | none=>
      cases hop:oj.op with
      | store y t x=>
       cases t with
       | tmp t=>
        refine Y0 t λhd=>?_;have h1:=(ZT t hd).1;have h2:=(iM hB YH).2.2.2.1 y t x VX hop i h1;obtain⟨ed,SI,UA,VU⟩:=ms h2;have:=h.down j oj YH VZ ed SI VU;rw[UA] at this;simp[Array.getD,XG] at this Xl;rw[this] at Xl;cases Xl
       | const _=>rfl
       | global _=>rfl
       | func _=>rfl
      | _=>rfl
    rw[Th];exact ZL
  ·rw[jU XG];split
   ·rfl
   ·by_cases e':i=j
    ·subst e'
     rw[Zo] at YH;injection YH with YH;subst YH
     exact Zl e he VU
    ·rw[jU XG,oIN e'] at VZ;exact h.down j oj YH VZ e he VU
 unfold wpOp;simp only[ho];rw[UV];by_cases hw:tJ l (λt=>a.tmps.getD t undef) o=true
 ·rw[oIP hw] at Wl ⊢;refine .inl ?_;unfold Oper.wp;rw[zE];generalize (execOp (xf λt=>a.tmps.getD t undef) o).run P w=r at Wl
  cases r with
  | ok n w'=>
   cases n<;>simp only[jC] at Wl<;>simp only[Oper.upon]
   case value v=>exact XJ v w' Wl
   case skip=>exact XJ undef w' Wl
   case enter fn args=>exact Wl.mono λe X4 ⟨v,he,hp⟩=>by subst he;exact XJ v X4 hp
  | halt x w'=>simp only[jC] at Wl
 ·rw[oIN hw] at Wl ⊢;exact XJ undef w ⟨h.base_,U5 w,Wl⟩
theorem oi{n:Nat}(hB:q7 l n=true) {listed:Array Bool}(hs:listed.size=l.length) (hr:Region.ready .any l.toArray listed=[]):∀(k:Nat),k < l.length->listed.getD k false=true:=by
 intro k
 induction k using Nat.strongRecOn with
 | _ k ih=>
  intro hk
  cases hl:listed.getD k false with
  | true=>rfl
  | false=>
   exfalso;have ho:l[k]?=some l[k]:=oGE hk
   have:k∈Region.ready .any l.toArray listed:=by
    refine mem_ready.2 ⟨?_,l[k],by simp,λe he hb=>?_⟩
    ·have:k < listed.size:=by omega
     simpa [Array.getD,this] using hl
    ·have:=(iM hB ho).2.1 e he hb;exact ih e.on this (by omega)
   rw[hr] at this;cases this
theorem nJ(U5:∀w,R w w) (hB:q7 l a0.tmps.size=true) (hD:ke P l (λt=>a0.tmps.getD t undef) base R Ss l Ss) (hK:Br R Ss) {Q:Exit->Act->World->Prop}
 (XT:∀listed a w,(∀k,k < l.length->listed.getD k false=true)->JJ l a0 base Ss listed a w->Q .normal a w) :
 ∀(Yk:Nat) (listed:Array Bool) (a:Act) (w:World),JJ l a0 base Ss listed a w->(∃c:List Bool,c.length=l.length/\listed.toList=c/\c.count false=Yk)->wpAny P .any l.toArray Q Yk listed a w
 | 0,listed,a,w,h,⟨c,Zp,Zk,U8⟩=>by
  have hr:Region.ready .any l.toArray listed=[]:=by
   rw[List.eq_nil_iff_forall_not_mem];intro i hi;have Xl:=(mem_ready.1 hi).1
   have XG:i < listed.size:=by
    rcases Nat.lt_or_ge i listed.size with h' | h'
    ·exact h'
    ·simp[Array.getD,Nat.not_lt.2 h'] at Xl
   have:false∈c:=by
    rw[<- Zk]
    have h1:listed[i]=false:=by simpa [Array.getD,XG] using Xl
    rw[<- h1];simp
   exact absurd (List.count_pos_iff.2 this) (by omega)
  exact⟨hr,XT _ _ _ (oi hB h.lsize hr) h⟩
 | Yk+1,listed,a,w,h,⟨c,Zp,Zk,U8⟩=>by
  refine⟨λhr=>XT _ _ _ (oi hB h.lsize hr) h,λi hi=>?_⟩;refine wpOp_mono (λa' w' h'=>nJ U5 hB hD hK XT Yk _ a' w' h' ?_) (h.step U5 hB hD hK hi);have Xl:=(mem_ready.1 hi).1
  have XG:i < listed.size:=by
   rcases Nat.lt_or_ge i listed.size with h' | h'
   ·exact h'
   ·simp[Array.getD,Nat.not_lt.2 h'] at Xl
  have h1:listed[i]=false:=by simpa [Array.getD,XG] using Xl
  refine⟨_,?_,rfl,?_⟩
  ·simp;have:=h.lsize;omega
  ·rw[Array.toList_setIfInBounds,List.count_set (by simpa using XG)];subst Zk;rw[U8];simp[h1]
theorem xi{f:Nat->Value}{w:World}:∀{lo:List Oper}{ls:List (Value->World->Prop)},(∀(k:Nat) o s,lo[k]?=some o->ls[k]?=some s->s (tL f o) w)->BA f w lo ls
 | [],_,_=>by unfold BA;trivial
 | _ :: _,[],_=>by unfold BA;trivial
 | o :: r,s :: rs,h=>⟨h 0 o s rfl rfl,xi λk o' s' h1 h2=>h (k+1) o' s' (by simpa using h1) (by simpa using h2)⟩
theorem mj(f:Nat->Value):∀(lo:List Oper) (a:Act),(eM f lo a).tmps.size=a.tmps.size
 | [],_=>rfl
 | o :: r,a=>by
  rw[eM,mj f r];unfold Act.put;split<;>simp
theorem jD(f:Nat->Value):∀(lo:List Oper) (a:Act),(eM f lo a).defers=a.defers
 | [],_=>rfl
 | o :: r,a=>by
  rw[eM,jD f r];unfold Act.put;split<;>rfl
theorem ml(f:Nat->Value):∀(lo:List Oper) (a:Act) (t:Nat),t < a.tmps.size ->
 (eM f lo a).tmps.getD t undef=f t/\(∃o∈lo,o.dst=some t)\/(eM f lo a).tmps.getD t undef=a.tmps.getD t undef/\∀o∈lo,o.dst≠some t
 | [],_,_,_=>.inr ⟨rfl,by simp⟩
 | o :: r,a,t,ht=>by
  have hsz:(a.put o.dst (yf f o.dst)).tmps.size=a.tmps.size:=by unfold Act.put;split<;>simp
  rcases ml f r (a.put o.dst (yf f o.dst)) t (by rw[hsz];exact ht) with ⟨h1,o',h2,h3⟩ | ⟨h1,h2⟩
  ·exact .inl ⟨h1,o',List.mem_cons_of_mem _ h2,h3⟩
  ·by_cases hd:o.dst=some t
   ·refine .inl ⟨?_,o,List.mem_cons_self ..,hd⟩;rw[eM,h1,hd,jV ht,oIP rfl];rfl
   ·refine .inr ⟨?_,λo' Zo=>?_⟩
    ·rw[eM,h1]
     cases hd':o.dst with
     | none=>rfl
     | some d=>
      by_cases hds:d < a.tmps.size
      ·rw[jV hds,oIN (by rintro rfl;exact hd hd')]
      ·unfold Act.put;simp[Array.setIfInBounds,hds]
    ·rcases List.mem_cons.1 Zo with rfl | h'
     ·exact hd
     ·exact h2 o' h'
theorem nh{id:Nat}{w0:World}{Q:Exit->Act->World->Prop}(base:World->Prop) (R:World->World->Prop) (Ss:List (Value->World->Prop))
 (n:Nat) (hm:P.follows .mixedOrders=true) (hn:a0.tmps.size=n) (TH:q7 l n=true) (h0:base w0.drew) (U5:∀w,R w w) (hK:Br R Ss)
 (hD:ke P l (λt=>a0.tmps.getD t undef) base R Ss l Ss)
 (XT:∀f w,base w->BA f w l Ss->Q .normal (eM f l a0) w):(Code.region id l.toArray true).wp P Q a0 w0:=by
 have hB:q7 l a0.tmps.size=true:=by rw[hn];exact TH
 refine wp_region_any hm ?_;refine nJ (a0:=a0) (R:=R) (Ss:=Ss) U5 hB hD hK (λlisted a w hl h=>?_) _ _ _ _ (?_:JJ l a0 base Ss _ _ _) ⟨_,?_,rfl,?_⟩
 ·have e:a=eM (λt=>a.tmps.getD t undef) l a0:=by
   have hd:a.defers=(eM (λt=>a.tmps.getD t undef) l a0).defers:=by rw[jD,h.defers]
   have ht:a.tmps=(eM (λt=>a.tmps.getD t undef) l a0).tmps:=by
    refine Array.ext (by rw[mj,h.asize]) λi h1 h2=>?_
    have Qb:i < a0.tmps.size:=by rw[<- h.asize];exact h1
    have e1:a.tmps[i]=a.tmps.getD i undef:=by simp[Array.getD,h1]
    have e2:(eM (λt=>a.tmps.getD t undef) l a0).tmps[i]=(eM (λt=>a.tmps.getD t undef) l a0).tmps.getD i undef:=by rw[Array.getD,dif_pos h2];rfl
    rw[e1,e2];rcases ml (λt=>a.tmps.getD t undef) l a0 i Qb with ⟨h3,_⟩ | ⟨h3,h4⟩
    ·exact h3.symm
    ·rw[h3];exact h.old i λj o ho hd=>absurd hd (h4 o (List.mem_of_getElem? ho))
   cases a;cases hp:eM (λt=>Array.getD _ t undef) l a0;simp only[hp] at hd ht;subst hd;subst ht
   simp_all
  rw[e];exact XT _ w h.base_ (xi λk o s ho hs=>h.says k o s ho hs (hl k (oGS ho).1))
 ·exact⟨h0,rfl,by simp,rfl,λ_ _=>rfl,λj o s ho hs hl=>by simp[Array.getD] at hl,λj o ho hl=>by simp[Array.getD] at hl⟩
 ·simp
 ·simp[List.count_replicate]
end
theorem bw{P:Program}{l:List Oper}{old:Nat->Value}{base:World->Prop}{R:World->World->Prop}{Ss:List (Value->World->Prop)}{o:Oper}{r:List Oper}{s:Value->World->Prop}{rs:List (Value->World->Prop)}
 (h:Cz P l old base R Ss o s) (h':ke P l old base R Ss r rs):ke P l old base R Ss (o :: r) (s :: rs):=⟨h,h'⟩
theorem bF{P:Program}{l:List Oper}{old:Nat->Value}{base:World->Prop}{R:World->World->Prop}{Ss:List (Value->World->Prop)}{o:Oper}{s:Value->World->Prop}(hg:o.guard=none)
 (h:∀(f:Nat->Value) (w:World),base w->(∀t∈o.looksAt l.toArray,tF l old Ss o f w t)->jC P (λv w'=>Bm base R s w (oI f o v) w') ((execOp (xf f) o).run P w)):Cz P l old base R Ss o s:=by
 intro f w hb H
 have:tJ l f o=true:=by unfold tJ;rw[hg]
 rw[oIP this];exact h f w hb H
theorem uz{P:Program}{l:List Oper}{old:Nat->Value}{base:World->Prop}{R:World->World->Prop}{Ss:List (Value->World->Prop)}:ke P l old base R Ss [] []:=trivial
def RK(X:Nat->Prop) (w w':World):Prop:=w.heap.size<=w'.heap.size/\∀b,b < w.heap.size->¬ X b->w'.heap[b]?=w.heap[b]?
theorem RK.refl(X:Nat->Prop) (w:World):RK X w w:=⟨Nat.le_refl _,λ_ _ _=>rfl⟩
theorem RK.alloc(X:Nat->Prop) (w:World) (o:Obj):RK X w (w.alloc o):=⟨by simp,λ_ hb _=>heap_alloc_old _ _ hb⟩
theorem RK.grown{X:Nat->Prop}{w w':World}{g:Nat}(h:w.grownBy w' (some g)) (hg:X g):RK X w w':=⟨h.size,λb hb hx=>h.block b hb (by rintro e;injection e with e;subst e;exact hx hg)⟩
theorem RK.set{X:Nat->Prop}{w w1:World}{p:Addr}(h:RK X w w1) (hp:X p.block) (u:Value):RK X w (w1.setCell p u):=
 ⟨by simpa [World.setCell] using h.1,λb hb hx=>(Below.heap_setCell w1 p u b (by rintro rfl;exact hx hp)).trans (h.2 b hb hx)⟩
theorem RK.cell{X:Nat->Prop}{w w':World}(h:RK X w w') {b o:Nat}(hb:b < w.heap.size) (hx:¬ X b):w'.cell? ⟨b,o,none⟩=w.cell? ⟨b,o,none⟩:=World.cell?_of_block (h.2 b hb hx)
def RD(X:Nat->Prop) (D:World->Prop) (w w':World):Prop:=RK X w w'/\(D w->D w')
theorem RD.refl(X:Nat->Prop) (D:World->Prop) (w:World):RD X D w w:=⟨RK.refl X w,id⟩
def g7(u:Value) (v:Value) (_:World):Prop:=v=u
def CU(k:IntKind) (lo hi:Int) (v:Value) (_:World):Prop:=∃n:Int,lo<=n/\n<=hi/\v=.int k n
theorem g7.kept{x:Value}{R:World->World->Prop}(w w':World) (u:Value) (_:R w w') (h:g7 x u w):g7 x u w':=h
theorem CU.kept{k:IntKind}{lo hi:Int}{R:World->World->Prop}(w w':World) (u:Value) (_:R w w') (h:CU k lo hi u w):CU k lo hi u w':=h
attribute [go_sem] xf jC oI tL
end Go.Proofs.Yteonljfnncdijaa
namespace Go.Proofs.Yteonljfnncdijaa
open Go.RowKit Go.Sort
def GW(W w':World):Prop:=∃q os,w'=grow (W.drewN q) os
theorem GW.refl(W:World):GW W W:=⟨0,#[],by rw[grow_empty];rfl⟩
theorem GW.trans{a b c:World}(h:GW a b) (h':GW b c):GW a c:=by
 obtain⟨q,os,rfl⟩:=h;obtain⟨p,R1,rfl⟩:=h';exact⟨q+p,os++R1,by show grow (grow ((a.drewN q).drewN p) os) R1=_;rw[grow_grow,World.drewN_drewN]⟩
theorem GW.alloc(W:World) (o:Obj):GW W (W.alloc o):=⟨0,#[o],by rw[alloc_eq_grow];rfl⟩
theorem GW.drew(W:World):GW W W.drew:=⟨1,#[],by rw[grow_empty];rfl⟩
def jL(r:Int):Int:=if r=-1 then 1 else 0
def pm(x y:Int):Int:=if x < y then -1 else if y < x then 1 else 0
def orI(a b c:Int):Int:=if a=0 then (if b=0 then c else b) else a
def xS(x y:PID):Int:=orI (pm (jL x.1) (jL y.1)) (pm x.1 y.1) (pm x.2 y.2)
theorem sQ(x:PID) (W:World):Calls Try.prog 58 #[.agg #[.int .i64 x.1,.int .i64 x.2]] W λe w'=>e=.returned (.int .i64 (jL x.1))/\GW W w':=by
 by_cases h:x.1=-1
 ·go_enter Try.func58,Try.ntmps58
  go_wp2
  go_ret
  exact⟨by simp[jL,h],GW.alloc _ _⟩
 ·go_enter Try.func58,Try.ntmps58
  go_wp2
  go_ret
  exact⟨by simp[jL,h],GW.alloc _ _⟩
theorem rX(x y:Int) (W:World):Calls Try.prog 57 #[.int .i64 x,.int .i64 y] W λe w'=>e=.returned (.int .i64 (pm x y))/\GW W w':=by
 by_cases h:x < y
 ·go_enter Try.func57,Try.ntmps57
  go_wp2
  go_ret
  exact⟨by simp[pm,h],GW.refl _⟩
 ·by_cases h2:y < x
  ·go_enter Try.func57,Try.ntmps57
   go_wp2
   go_ret
   exact⟨by simp[pm,h,h2],GW.refl _⟩
  ·go_enter Try.func57,Try.ntmps57
   go_wp2
   go_ret
   exact⟨by unfold pm;rw[oIN (by omega),oIN (by omega)];rfl,GW.refl _⟩
theorem BS(a b c:Int) (k:Nat) (W:World) (h0:W.cell? ⟨k,0,none⟩=some (.int .i64 a)) (h1:W.cell? ⟨k,1,none⟩=some (.int .i64 b)) (h2:W.cell? ⟨k,2,none⟩=some (.int .i64 c)) :
 Calls Try.prog 56 #[.slice (some ⟨k,0,none⟩) 3 3] W λe w'=>e=.returned (.int .i64 (orI a b c))/\GW W w':=by
 by_cases ha:a=0
 ·by_cases hb:b=0
  ·by_cases hc:c=0
   ·go_enter Try.func56,Try.ntmps56
    go_wp2
    refine wp_loop_rounds 4 ?_;rw[rounds_succ]
    go_wp2
    rw[rounds_succ]
    go_wp2
    rw[rounds_succ]
    go_wp2
    rw[rounds_succ]
    go_wp2
    go_ret
    exact⟨by simp[orI,ha,hb,hc],GW.refl _⟩
   ·go_enter Try.func56,Try.ntmps56
    go_wp2
    refine wp_loop_rounds 4 ?_;rw[rounds_succ]
    go_wp2
    rw[rounds_succ]
    go_wp2
    rw[rounds_succ]
    go_wp2
    go_ret
    exact⟨by simp[orI,ha,hb],GW.refl _⟩
  ·go_enter Try.func56,Try.ntmps56
   go_wp2
   refine wp_loop_rounds 4 ?_;rw[rounds_succ]
   go_wp2
   rw[rounds_succ]
   go_wp2
   go_ret
   exact⟨by simp[orI,ha,hb],GW.refl _⟩
 ·go_enter Try.func56,Try.ntmps56
  go_wp2
  refine wp_loop_rounds 4 ?_;rw[rounds_succ]
  go_wp2
  go_ret
  exact⟨by simp[orI,ha],GW.refl _⟩
def Cx(a b c:Int) (v:Value) (w:World):Prop:=∃k,v=.slice (some ⟨k,0,none⟩) 3 3/\w.cell? ⟨k,0,none⟩=some (.int .i64 a)/\w.cell? ⟨k,1,none⟩=some (.int .i64 b)/\w.cell? ⟨k,2,none⟩=some (.int .i64 c)
theorem rkw{w w':World}(h:GW w w'):RK (λ_=>False) w w':=by
 obtain⟨q,os,rfl⟩:=h;refine⟨by simp[grow],λb hb _=>?_⟩;show (w.heap++os)[b]?=_;rw[Array.getElem?_append_left hb]
theorem rZ{w:World}{b o:Nat}{v:Value}(h:w.cell? ⟨b,o,none⟩=some v):b < w.heap.size:=World.block_lt_of_cell? w _ h
theorem wg{a b c:Int}(w w':World) (u:Value) (h:RK (λ_=>False) w w') (hs:Cx a b c u w):Cx a b c u w':=by
 obtain⟨k,h1,h2,h3,h4⟩:=hs;have hk:=rZ h2;exact⟨k,h1,by rw[h.cell hk id];exact h2,by rw[h.cell hk id];exact h3,by rw[h.cell hk id];exact h4⟩
theorem yF(a b c:Int) (w:World) (t:TypeId):Cx a b c (.slice (some ⟨w.heap.size,0,none⟩) 3 3) (w.alloc (.cells #[.int .i64 a,.int .i64 b,.int .i64 c] t)):=by
 refine⟨_,rfl,?_,?_,?_⟩<;>rw[World.cell?_alloc_new]<;>rfl
theorem og{W w':World}{a b c d:Value}{t t':TypeId}(h:GW ((W.alloc (.cells #[a,b] t)).alloc (.cells #[c,d] t')) w') :
 w'.cell? ⟨W.heap.size,0,none⟩=some a/\w'.cell? ⟨W.heap.size,1,none⟩=some b/\w'.cell? ⟨W.heap.size+1,0,none⟩=some c/\w'.cell? ⟨W.heap.size+1,1,none⟩=some d:=by
 have hk:=rkw h
 have e1:∀o v,(W.alloc (.cells #[a,b] t)).cell? ⟨W.heap.size,o,none⟩=some v->w'.cell? ⟨W.heap.size,o,none⟩=some v:=λo v hv=>by
  rw[hk.cell (by simp;omega) id,World.cell?_of_block (heap_alloc_old _ _ (by simp))];exact hv
 have e2:∀o v,((W.alloc (.cells #[a,b] t)).alloc (.cells #[c,d] t')).cell? ⟨W.heap.size+1,o,none⟩=some v->w'.cell? ⟨W.heap.size+1,o,none⟩=some v:=λo v hv=>by
  rw[hk.cell (by simp) id];exact hv
 have hs:W.heap.size+1=(W.alloc (.cells #[a,b] t)).heap.size:=by simp
 refine⟨e1 _ _ ?_,e1 _ _ ?_,e2 _ _ ?_,e2 _ _ ?_⟩
 ·rw[World.cell?_alloc_new];rfl
 ·rw[World.cell?_alloc_new];rfl
 ·rw[hs,World.cell?_alloc_new];rfl
 ·rw[hs,World.cell?_alloc_new];rfl
set_option maxHeartbeats 4000000 in
set_option maxRecDepth 100000 in
theorem wE(x y:PID) (W:World):Calls Try.prog 33 #[.agg #[.int .i64 x.1,.int .i64 x.2],.agg #[.int .i64 y.1,.int .i64 y.2]] W λe w'=>e=.returned (.int .i64 (xS x y))/\GW W w':=by
 go_enter Try.func33,Try.ntmps33
 go_wp2_with fail
 refine nh (λw'=>GW ((W.alloc (.cells #[.int .i64 x.1,.int .i64 x.2] 30)).alloc (.cells #[.int .i64 y.1,.int .i64 y.2] 30)) w') (RK λ_=>False)
  [g7 (.agg #[.int .i64 x.1,.int .i64 x.2]),g7 (.int .i64 (jL x.1)),g7 (.agg #[.int .i64 y.1,.int .i64 y.2]),g7 (.int .i64 (jL y.1)),g7 (.int .i64 (pm (jL x.1) (jL y.1))),g7 (.pointer (some ⟨W.heap.size,0,none⟩)),g7 (.int .i64 x.1),g7 (.pointer (some ⟨W.heap.size+1,0,none⟩)),g7 (.int .i64 y.1),g7 (.int .i64 (pm x.1 y.1)),g7 (.pointer (some ⟨W.heap.size,1,none⟩)),g7 (.int .i64 x.2),g7 (.pointer (some ⟨W.heap.size+1,1,none⟩)),g7 (.int .i64 y.2),g7 (.int .i64 (pm x.2 y.2)),Cx (pm (jL x.1) (jL y.1)) (pm x.1 y.1) (pm x.2 y.2),g7 (.int .i64 (xS x y)),g7 (.int .i64 (xS x y))]
  22 (by kernel_rfl) rfl (by kernel_rfl) (GW.drew _) (λ_=>RK.refl _ _) ?_ ?_ ?_
 ·exact⟨g7.kept,g7.kept,g7.kept,g7.kept,g7.kept,g7.kept,g7.kept,g7.kept,g7.kept,g7.kept,g7.kept,g7.kept,g7.kept,g7.kept,g7.kept,wg,g7.kept,g7.kept,trivial⟩
 ·refine bw ?_ (bw ?_ (bw ?_ (bw ?_ (bw ?_ (bw ?_ (bw ?_ (bw ?_ (bw ?_ (bw ?_ (bw ?_ (bw ?_ (bw ?_ (bw ?_ (bw ?_ (bw ?_ (bw ?_ (bw ?_ uz)))))))))))))))))
  ·refine bF rfl λf w1 hb H=>?_;have e2:f 2=_:=H 2 (by decide);clear H;have hc:=og hb;obtain⟨c0,c1,c2,c3⟩:=hc;have HB:=Lib.hid hb;clear hb
   go_simp
   exact⟨HB.out,RK.refl _ _,rfl⟩
  ·refine bF rfl λf w1 hb H=>?_;have e5:f 5=_:=H 5 (by decide);clear H;have HB:=Lib.hid hb;clear hb
   go_simp
   refine (sQ x w1).mono ?_;rintro e w2 ⟨rfl,hg⟩;exact⟨_,rfl,HB.out.trans hg,rkw hg,rfl⟩
  ·refine bF rfl λf w1 hb H=>?_;have e3:f 3=_:=H 3 (by decide);clear H;have hc:=og hb;obtain⟨c0,c1,c2,c3⟩:=hc;have HB:=Lib.hid hb;clear hb
   go_simp
   exact⟨HB.out,RK.refl _ _,rfl⟩
  ·refine bF rfl λf w1 hb H=>?_;have e7:f 7=_:=H 7 (by decide);clear H;have HB:=Lib.hid hb;clear hb
   go_simp
   refine (sQ y w1).mono ?_;rintro e w2 ⟨rfl,hg⟩;exact⟨_,rfl,HB.out.trans hg,rkw hg,rfl⟩
  ·refine bF rfl λf w1 hb H=>?_;have e6:f 6=_:=H 6 (by decide);have e8:f 8=_:=H 8 (by decide);clear H;have HB:=Lib.hid hb;clear hb
   go_simp
   refine (rX _ _ w1).mono ?_;rintro e w2 ⟨rfl,hg⟩;exact⟨_,rfl,HB.out.trans hg,rkw hg,rfl⟩
  ·refine bF rfl λf w1 hb H=>?_;have e2:f 2=_:=H 2 (by decide);clear H;have HB:=Lib.hid hb;clear hb
   go_simp
   exact⟨HB.out,RK.refl _ _,rfl⟩
  ·refine bF rfl λf w1 hb H=>?_;have OS:f 10=_:=H 10 (by decide);clear H;have hc:=og hb;obtain⟨c0,c1,c2,c3⟩:=hc;have HB:=Lib.hid hb;clear hb
   go_simp
   exact⟨HB.out,RK.refl _ _,rfl⟩
  ·refine bF rfl λf w1 hb H=>?_;have e3:f 3=_:=H 3 (by decide);clear H;have HB:=Lib.hid hb;clear hb
   go_simp
   exact⟨HB.out,RK.refl _ _,rfl⟩
  ·refine bF rfl λf w1 hb H=>?_;have OU:f 12=_:=H 12 (by decide);clear H;have hc:=og hb;obtain⟨c0,c1,c2,c3⟩:=hc;have HB:=Lib.hid hb;clear hb
   go_simp
   exact⟨HB.out,RK.refl _ _,rfl⟩
  ·refine bF rfl λf w1 hb H=>?_;have OT:f 11=_:=H 11 (by decide);have Rd:f 13=_:=H 13 (by decide);clear H;have HB:=Lib.hid hb;clear hb
   go_simp
   refine (rX _ _ w1).mono ?_;rintro e w2 ⟨rfl,hg⟩;exact⟨_,rfl,HB.out.trans hg,rkw hg,rfl⟩
  ·refine bF rfl λf w1 hb H=>?_;have e2:f 2=_:=H 2 (by decide);clear H;have HB:=Lib.hid hb;clear hb
   go_simp
   exact⟨HB.out,RK.refl _ _,rfl⟩
  ·refine bF rfl λf w1 hb H=>?_;have OW:f 15=_:=H 15 (by decide);clear H;have hc:=og hb;obtain⟨c0,c1,c2,c3⟩:=hc;have HB:=Lib.hid hb;clear hb
   go_simp
   exact⟨HB.out,RK.refl _ _,rfl⟩
  ·refine bF rfl λf w1 hb H=>?_;have e3:f 3=_:=H 3 (by decide);clear H;have HB:=Lib.hid hb;clear hb
   go_simp
   exact⟨HB.out,RK.refl _ _,rfl⟩
  ·refine bF rfl λf w1 hb H=>?_;have OY:f 17=_:=H 17 (by decide);clear H;have hc:=og hb;obtain⟨c0,c1,c2,c3⟩:=hc;have HB:=Lib.hid hb;clear hb
   go_simp
   exact⟨HB.out,RK.refl _ _,rfl⟩
  ·refine bF rfl λf w1 hb H=>?_;have OX:f 16=_:=H 16 (by decide);have OZ:f 18=_:=H 18 (by decide);clear H;have HB:=Lib.hid hb;clear hb
   go_simp
   refine (rX _ _ w1).mono ?_;rintro e w2 ⟨rfl,hg⟩;exact⟨_,rfl,HB.out.trans hg,rkw hg,rfl⟩
  ·refine bF rfl λf w1 hb H=>?_;have e9:f 9=_:=H 9 (by decide);have OV:f 14=_:=H 14 (by decide);have O0:f 19=_:=H 19 (by decide);clear H;have HB:=Lib.hid hb;clear hb
   go_simp
   exact⟨HB.out.trans (GW.alloc _ _),rkw (GW.alloc _ _),yF _ _ _ _ _⟩
  ·refine bF rfl λf w1 hb H=>?_;have QW:=H 20 (by decide);clear H;obtain⟨k,QX,Tz,TA,TC⟩:=QW;have HB:=Lib.hid hb;clear hb
   go_simp
   refine (BS _ _ _ k w1 Tz TA TC).mono ?_;rintro e w2 ⟨rfl,hg⟩;exact⟨_,rfl,HB.out.trans hg,rkw hg,rfl⟩
  ·refine bF rfl λf w1 hb H=>?_;have O1:f 21=_:=H 21 (by decide);clear H;have HB:=Lib.hid hb;clear hb
   go_simp
   exact⟨HB.out,RK.refl _ _,rfl⟩
 ·intro f w9 hb hE;simp only[eM,Act.put,yf,List.setIfInBounds_toArray,List.set_cons_succ,List.set_cons_zero]
  have e4:f 4=.int .i64 (xS x y):=by
   simp only[BA,tL,g7] at hE;simp[hE]
  rw[e4];clear hE e4
  go_wp2
  go_ret
  exact⟨rfl,((GW.alloc _ _).trans (GW.alloc _ _)).trans hb⟩
end Go.Proofs.Yteonljfnncdijaa
namespace Go.Proofs.Yteonljfnncdijaa
open Go.RowKit Go.Sort Go.Lib
def eO(x:PID):List Value:=[.int .i64 x.1,.int .i64 x.2]
theorem BO(x y:PID) (w:World):Sem.run Try.prog (binOp .eql 30 (.agg #[.int .i64 x.1,.int .i64 x.2]) (.agg #[.int .i64 y.1,.int .i64 y.2])) w=.ok (.bool (decide (x=y))) w:=by
 have u3:=Try.underlying3;have a3:=Try.isAgg3;have z3:=Try.sizeOf3
 have hS:Try.prog.underlying 30=some (.struct (Try.prog.fieldsOf 30)):=by kernel_rfl
 have hp:Try.prog.stoodInHeld 30=false:=by kernel_rfl
 rw[run_eql_struct,show (10000:Nat)=9999+1 from rfl,run_equalIn_agg w 9999 30 _ _ hS hp];simp only[Program.fieldsOf,Try.underlying30]
 go_simp
 by_cases h1:x.fst=y.fst<;>by_cases h2:x.snd=y.snd<;>simp[h1,h2,Prod.ext_iff]
theorem cB{W:World}{ZE off:Nat}{d:Array PID}(h:HoldsK eO 2 W ZE off d) {i:Nat}(hi:i < d.size) :
 W.cell? ⟨ZE,off+i*2,none⟩=some (.int .i64 d[i]!.1)/\W.cell? ⟨ZE,off+i*2+1,none⟩=some (.int .i64 d[i]!.2)/\W.frozen? ⟨ZE,off+i*2,none⟩=false/\W.frozen? ⟨ZE,off+i*2+1,none⟩=false:=by
 have h0:=h.cell hi (c:=0) (by omega);have h1:=h.cell hi (c:=1) (by omega);exact⟨by simpa [eO] using h0.1,by simpa [eO] using h1.1,by simpa using h0.2,by simpa using h1.2⟩
theorem BH{w wr:World}{n ZE off:Nat}{dk:Array PID}{i:Nat}(hi:i < dk.size) (UW:wr=putRowK eO 2 (Sort.ahead w n) ZE off dk) (x:PID) :
 ((wr.drew.setCell ⟨ZE,off+i*2,none⟩ (.int .i64 x.1)).setCell ⟨ZE,off+i*2+1,none⟩ (.int .i64 x.2))=putRowK eO 2 (Sort.ahead w (n+1)) ZE off (dk.setIfInBounds i x):=by
 subst UW
 have hb:i*2+(eO x).length<=(flatK eO 2 dk).size:=by simp[eO];omega
 have e:=setCells_putRow (Sort.ahead w (n+1)) ZE off (eO x) (i*2) (flatK eO 2 dk) hb
 have e2:setMany (flatK eO 2 dk) (i*2) (eO x)=flatK eO 2 (dk.setIfInBounds i x):=by
  refine ext_get! (by simp) λt ht=>?_
  have Y6:t < dk.size*2:=by simpa using ht
  rw[get_setMany _ _ _ t (by simpa using Y6),get_flatK _ _ _ t Y6,get_flatK _ _ _ t (by simpa using Y6)]
  have hq:t / 2 < dk.size:=by omega
  by_cases a:t / 2=i
  ·rw[oIP (by simp[eO];omega)]
   have:t - i*2=t % 2:=by omega
   rw[this,a];simp[show i < dk.size from hi]
  ·rw[oIN (by simp[eO];omega)];simp[Array.getElem!_eq_getD,Array.getD,hq,Array.getElem_setIfInBounds,Ne.symm a]
 rw[e2] at e;exact e
structure cI (b:Nat) (w w':World):Prop where
 os:w'.os=w.os
 tape:w'.tape=w.tape
 output:w'.output=w.output
 size:w'.heap.size=w.heap.size
 block:∀k,k≠b->w'.heap[k]?=w.heap[k]?
theorem cI.set(b o:Nat) (w:World) (v:Value):cI b w (w.setCell ⟨b,o,none⟩ v):=⟨rfl,rfl,rfl,by simp,λk hk=>Below.heap_setCell w _ v k hk⟩
theorem cI.refl(b:Nat) (w:World):cI b w w:=⟨rfl,rfl,rfl,rfl,λ_ _=>rfl⟩
theorem cI.trans{b:Nat}{w w' X4:World}(h:cI b w w') (h':cI b w' X4):cI b w X4:=
 ⟨h'.os.trans h.os,h'.tape.trans h.tape,h'.output.trans h.output,h'.size.trans h.size,λk hk=>(h'.block k hk).trans (h.block k hk)⟩
theorem cI.setCells(b:Nat):∀(vs:List Value) (o:Nat) (w:World),cI b w (w.setCells b o vs)
 | [],_,_=>cI.refl _ _
 | v :: r,o,w=>(cI.set b o w v).trans (cI.setCells b r (o+1) _)
theorem cI.ahead(b:Nat) (w:World) (n:Nat):cI b w (Sort.ahead w n):=⟨rfl,rfl,rfl,rfl,λ_ _=>rfl⟩
theorem cI.drewN(b:Nat) (w:World) (n:Nat):cI b w (w.drewN n):=⟨rfl,rfl,rfl,rfl,λ_ _=>rfl⟩
theorem cI.putRow(b off:Nat) (w:World) (d:Array PID):cI b w (putRowK eO 2 w b off d):=by
 unfold putRowK Go.Sort.putRow mapBlock;exact⟨rfl,rfl,rfl,by simp,λk hk=>by simp[Array.getElem?_modify,Ne.symm hk]⟩
def g8(w:World) (b off:Nat) (l:List PID):Prop:=∀i (h:i < l.length),w.cell? ⟨b,off+i*2,none⟩=some (.int .i64 l[i].1)/\w.cell? ⟨b,off+i*2+1,none⟩=some (.int .i64 l[i].2)
theorem CE(x y:PID) (w:World):Sem.run Try.prog (binOp .neq 30 (.agg #[.int .i64 x.1,.int .i64 x.2]) (.agg #[.int .i64 y.1,.int .i64 y.2])) w=.ok (.bool (!decide (x=y))) w:=by
 have h:=BO x y w;rw[run_eql_struct] at h;rw[run_neq_struct];revert h
 cases (Op.equalIn 10000 30 (.agg #[.int .i64 x.1,.int .i64 x.2]) (.agg #[.int .i64 y.1,.int .i64 y.2])).run Try.prog w with
 | ok b w'=>intro h;simp only[Result.andThen_ok] at h ⊢;injection h with h1 h2;injection h1 with h1;rw[h1,h2]
 | _=>intro h;simp[Result.andThen] at h
theorem yK(op:BinOp) (a b:Operand) (x y:PID) (w:World):Sem.run Try.prog (eqGuard op 30 a b (.agg #[.int .i64 x.1,.int .i64 x.2]) (.agg #[.int .i64 y.1,.int .i64 y.2])) w=.ok () w:=
 (GuardAt.agg (P:=Try.prog) (T:=30) (λx:PID=>#[.int .i64 x.1,.int .i64 x.2]) (by kernel_rfl)) op a b x y w
theorem eU(b:Nat):∀(vs:List Value) (o:Nat) {w:World}{j:Nat},j < o->(w.setCells b o vs).cell? ⟨b,j,none⟩=w.cell? ⟨b,j,none⟩
 | [],_,_,_,_=>rfl
 | v :: r,o,w,j,h=>by
  show ((w.setCell ⟨b,o,none⟩ v).setCells b (o+1) r).cell? _=_;rw[eU b r (o+1) (by omega)];refine World.cell?_setCell_other (h:=?_) ..
  intro e;injection e with _ e _;omega
theorem uM(w:World) (ty:TypeId) (b o n c:Nat) (hn:0 < n) (hc:∀j,j < n*2->(w.cell? ⟨b,o+j,none⟩).isSome=true/\w.frozen? ⟨b,o+j,none⟩=false) :
 (Builtin.clear_ #[24] ty #[.slice (some ⟨b,o,none⟩) n c]).run Try.prog w=.ok (.tuple #[]) (w.setCells b o (List.replicate (n*2) (.int .i64 0))):=by
 have XQ:(Builtin.zeroCells #[.int .i64 0,.int .i64 0] n).toList=List.replicate (n*2) (.int .i64 0):=by
  simp[Builtin.zeroCells];apply List.ext_getElem
  ·simp
  ·intro i h1 h2;simp only[List.getElem_map,List.getElem_replicate]
   rcases Nat.mod_two_eq_zero_or_one i with e | e<;>simp[e]
 have hst:=run_storeCells_cells (P:=Try.prog) b o (List.replicate (n*2) (.int .i64 0)) 0 w (λj hj=>by simpa using (hc j (by simpa using hj)).1) (λj hj=>by simpa using (hc j (by simpa using hj)).2) (by intro v YV;rw[List.eq_of_mem_replicate YV];rfl);simp only[Nat.add_zero] at hst;obtain⟨m,rfl⟩:∃m,n=m+1:=⟨n - 1,by omega⟩;have hv:∀w,(zeroValue 30).run Try.prog w=.ok (.agg #[.int .i64 0,.int .i64 0]) w:=Try.zeroValue30;simp[Builtin.clear_,run_underlying Try.underlying24,hv,Value.cells,XQ,hst]
def Bn(w w':World) (ZE off:Nat) (d:Array PID):Prop:=g8 w' ZE off (compactUpTo d d.size)/\cI ZE w w'
theorem pZ{w:World}{ZE off:Nat}{d:Array PID}(h:HoldsK eO 2 w ZE off d) {l:List PID}(hl:l.length<=d.size) (he:∀i (h:i < l.length),l[i]=d[i]!):g8 w ZE off l:=λi hi=>by
 have:=cB h (i:=i) (by omega);rw[he i hi];exact⟨this.1,this.2.1⟩
set_option maxHeartbeats 8000000 in
set_option maxRecDepth 1000000 in
theorem rR(ZE off cap:Nat) (d:Array PID) (w:World) (hH:HoldsK eO 2 w ZE off d) (hcap:d.size<=cap) (hsz:d.size<=4611686018427387904) :
 Calls Try.prog 55 #[.slice (some ⟨ZE,off,none⟩) d.size cap] w λe w'=>e=.returned (.slice (some ⟨ZE,off,none⟩) (compactUpTo d d.size).length cap)/\Bn w w' ZE off d:=by
 have mixed:Try.prog.follows .mixedOrders=true:=by kernel_rfl
 have P1:=λx y w=>BO x y w;have Qq:=λx y w=>CE x y w;have P7:=λop a b x y w=>yK op a b x y w
 have Xw:∀q,(∀j,j < d.size->keeps d j=true)->(compactUpTo d d.size).length=d.size/\Bn w (w.drewN q) ZE off d:=by
  intro q ZU
  have e:compactUpTo d d.size=d.toList:=by rw[compactUpTo_all d _ ZU,range_map_get]
  refine⟨by rw[e];simp,?_,cI.drewN _ _ _⟩;rw[e]
  exact pZ (d:=d) (holdsK_ahead eO 2 w q ZE off d hH) (by simp) λi hi=>by simp at hi;simp[hi]
 have HS:Aside (∀q,(∀j,j < d.size->keeps d j=true)->(compactUpTo d d.size).length=d.size/\Bn w (w.drewN q) ZE off d):=Xw;clear Xw;by_cases h2:d.size < 2
 ·have HH:Aside (HoldsK eO 2 w ZE off d):=hH;clear hH
  go_enter Try.func55,Try.ntmps55
  go_wp2
  go_ret
  obtain⟨e1,e2⟩:=HS.out 0 (λj hj=>keeps_lt_one d j (by omega));exact⟨by rw[e1];rfl,e2⟩
 ·go_enter Try.func55,Try.ntmps55
  go_wp2
  go_loopg [3] d.size (λg s3 wr=>∃k q:Nat,1<=k/\k<=d.size/\d.size - k<=g/\s3=.int .i64 k/\wr=w.drewN q/\∀j,j < k->keeps d j=true)
  case atStart=>exact⟨1,0,Nat.le_refl _,by omega,by omega,rfl,rfl,keeps_lt_one d⟩
  case round=>
   obtain⟨k,q,Zf,hk,hg,rfl,rfl,ZU⟩:=hrel;by_cases hlt:k < d.size
   ·obtain⟨c1,Ra,f1,PB⟩:=cB hH hlt;obtain⟨c0,Q',f0,PA⟩:=cB hH (i:=k - 1) (by omega);have A:Aside (∀j,j < k->keeps d j=true):=ZU;have HH:Aside (HoldsK eO 2 w ZE off d):=hH;clear ZU hH;generalize hx:d[k]! = x at c1 Ra;generalize hy:d[k - 1]! = y at c0 Q';have B:Aside (d[k]! = x/\d[k - 1]! = y):=⟨hx,hy⟩;clear hx hy;by_cases hdup:x=y
    ·subst hdup
     go_wp2_with fail
     go_region_o
     go_wp2
     clear c0 c1 Q' Ra f0 f1 PA PB
     go_loopg [3,5] d.size (λg s3 s5 wr=>∃(kk k2 q2:Nat) (dk:Array PID),s3=.int .i64 kk/\s5=.int .i64 k2/\1<=k2/\k+k2<=d.size/\d.size - (k+k2)<=g/\wr=putRowK eO 2 (Sort.ahead w q2) ZE off dk/\CompInv d (k+k2) kk dk)
     case atStart=>exact⟨k,1,q+1,d,rfl,rfl,Nat.le_refl _,by omega,by omega,(putRowK_self eO 2 (Sort.ahead w (q+1)) ZE off d (holdsK_ahead eO 2 w (q+1) ZE off d HH.out)).symm,CompInv.start A.out (keeps_neg (by omega) (by rw[B.out.1,B.out.2]))⟩
     case round=>
      obtain⟨kk,k2,q2,dk,rfl,rfl,h1,YQ,ZM,UW,hI⟩:=hrel;have hkk:=hI.lt;have hds:=hI.size
      have Vt:HoldsK eO 2 wr ZE off dk:=by rw[UW];exact holdsK_putRowK eO 2 _ ZE off d dk (holdsK_ahead eO 2 w q2 ZE off d HH.out) hds
      have W2:Aside (wr=putRowK eO 2 (Sort.ahead w q2) ZE off dk):=UW;have I2:Aside (CompInv d (k+k2) kk dk):=hI;clear UW;by_cases hlt2:k+k2 < d.size
      ·obtain⟨cm,Rb,_,_⟩:=cB Vt (i:=k+k2) (by omega);obtain⟨cp,Rc,_,_⟩:=cB Vt (i:=k+k2 - 1) (by omega);obtain⟨ck,Pw,fk,O2⟩:=cB Vt (i:=kk) (by omega);rw[hI.high (k+k2) (by omega),show off+(k+k2)*2=off+k*2+k2*2 by omega] at cm Rb;rw[hI.high (k+k2 - 1) (by omega),show off+(k+k2 - 1)*2=off+k*2+(k2 - 1)*2 by omega] at cp Rc;clear Vt hI;generalize hu:d[k+k2]! = u at cm Rb;generalize hv:d[k+k2 - 1]! = v at cp Rc;generalize dk[kk]! = old at ck Pw;have C:Aside (d[k+k2]! = u/\d[k+k2 - 1]! = v):=⟨hu,hv⟩;clear hu hv;by_cases huv:u=v
       ·subst huv
        go_wp2_with fail
        go_region_o
        go_wp2
        go_roundg (d.size - (k+(k2+1)))
        case measure=>omega
        case rel=>exact⟨kk,k2+1,q2+1,dk,rfl,by go_num,by omega,by omega,Nat.le_refl _,by rw[W2.out];rfl,I2.out.skip (keeps_neg (by omega) (by rw[C.out.1,C.out.2]))⟩
       ·go_wp2_with fail
        go_region_o
        go_wp2
        go_roundg (d.size - (k+(k2+1)))
        case measure=>omega
        case rel=>exact⟨kk+1,k2+1,q2+1,dk.setIfInBounds kk u,by go_num,by go_num,by omega,by omega,Nat.le_refl _,BH (by omega) W2.out u,by have:=I2.out.keep hlt2 (keeps_pos (by rw[C.out.1,C.out.2];exact huv));rwa [C.out.1] at this⟩
      ·have XT:k+k2=d.size:=by omega
       have Y7:∀ty,(Builtin.clear_ #[24] ty #[.slice (some ⟨ZE,off+kk*2,none⟩) (d.size - kk) (cap - kk)]).run Try.prog wr=.ok (.tuple #[]) (wr.setCells ZE (off+kk*2) (List.replicate ((d.size - kk)*2) (.int .i64 0))):=λty=>uM wr ty ZE (off+kk*2) (d.size - kk) (cap - kk) (by omega) λj hj=>by
        have h:=cB Vt (i:=kk+j / 2) (by omega);rcases Nat.mod_two_eq_zero_or_one j with e | e
        ·rw[show off+kk*2+j=off+(kk+j / 2)*2 by omega];exact⟨by rw[h.1];rfl,h.2.2.1⟩
        ·rw[show off+kk*2+j=off+(kk+j / 2)*2+1 by omega];exact⟨by rw[h.2.1];rfl,h.2.2.2⟩
       have HK:=Lib.hid Vt;clear Vt hI
       go_wp2
       go_ret
       have hI:=I2.out;rw[XT] at hI;have hl:=hI.len;refine⟨by rw[hl];rfl,λi hi=>?_,?_⟩
       ·rw[hl] at hi;have Uq:=hI.low i hi;obtain⟨g1,g2,_,_⟩:=cB HK.out (i:=i) (by omega)
        have e:(compactUpTo d d.size)[i]'(by rw[hl];exact hi)=dk[i]!:=by
         have:=oGS Uq;exact this.2
        rw[e];exact⟨by rw[eU _ _ _ (by omega)];exact g1,by rw[eU _ _ _ (by omega)];exact g2⟩
       ·rw[W2.out];exact ((cI.ahead _ _ _).trans (cI.putRow _ _ _ _)).trans (cI.setCells _ _ _ _)
    ·go_wp2_with fail
     go_region_o
     go_wp2
     go_roundg (d.size - (k+1))
     case measure=>omega
     case rel=>
      refine⟨k+1,q+1,by omega,by omega,Nat.le_refl _,by go_num,rfl,λj hj=>?_⟩;by_cases e:j=k
      ·subst e;exact keeps_pos (by rw[B.out.1,B.out.2];exact hdup)
      ·exact A.out j (by omega)
   ·have:k=d.size:=by omega
    subst this;have HH:Aside (HoldsK eO 2 w ZE off d):=hH;clear hH
    go_wp2
    go_ret
    obtain⟨e1,e2⟩:=HS.out q ZU;exact⟨by rw[e1];rfl,e2⟩
theorem gz(a b:PID):dM a b=true↔(a.1≠-1/\b.1=-1)\/((a.1=-1↔b.1=-1)/\(a.1 < b.1\/a.1=b.1/\a.2 < b.2)):=by
 unfold dM;by_cases h1:a.1=-1<;>by_cases h2:b.1=-1<;>simp[h1,h2,oBF]
theorem fZ(a:PID):dM a a=false:=by
 rw[<- Bool.not_eq_true,gz];omega
theorem gR{a b c:PID}(h1:dM a b=true) (h2:dM b c=true):dM a c=true:=by
 rw[gz] at *;omega
theorem na{a b:PID}(h1:dM a b=false) (h2:dM b a=false):a=b:=by
 rw[<- Bool.not_eq_true,gz] at *
 have e1:a.1=b.1:=by omega
 have e2:a.2=b.2:=by omega
 exact Prod.ext e1 e2
theorem sa{a b:PID}(h1:dM a b=true):dM b a=false:=by
 rw[<- Bool.not_eq_true];intro h2;have:=gR h1 h2;rw[fZ] at this;cases this
theorem oc(a b:Int):(a < b/\pm a b=-1)\/(a=b/\pm a b=0)\/(b < a/\pm a b=1):=by
 unfold pm;by_cases h:a < b
 ·exact .inl ⟨h,oIP h⟩
 ·rw[oIN h];by_cases h2:b < a
  ·exact .inr (.inr ⟨h2,oIP h2⟩)
  ·exact .inr (.inl ⟨by omega,oIN h2⟩)
theorem mw(a:Int):(a=-1/\jL a=1)\/(a≠-1/\jL a=0):=by
 unfold jL;by_cases h:a=-1
 ·exact .inl ⟨h,oIP h⟩
 ·exact .inr ⟨h,oIN h⟩
theorem lJ(x y:PID):ltOf xS x y=dM x y:=by
 rw[Bool.eq_iff_iff,gz];unfold ltOf xS;rw[decide_eq_true_iff]
 rcases mw x.1 with ⟨h1,e1⟩ | ⟨h1,e1⟩<;>rcases mw y.1 with ⟨h2,e2⟩ | ⟨h2,e2⟩<;>rw[e1,e2]<;>rcases oc x.1 y.1 with ⟨h3,e3⟩ | ⟨h3,e3⟩ | ⟨h3,e3⟩<;>rw[e3] <;>
  rcases oc x.2 y.2 with ⟨h4,e4⟩ | ⟨h4,e4⟩ | ⟨h4,e4⟩<;>rw[e4]<;>simp only[orI,pm]<;>simp<;>omega
theorem Af:SWO (ltOf xS) where
 irrefl x:=by rw[lJ];exact fZ x
 trans x y z h1 h2:=by rw[lJ] at *;exact gR h1 h2
 ntrans x y z h1 h2:=by
  rw[lJ] at *;rw[<- Bool.not_eq_true,gz] at *;omega
abbrev Asc(l:List PID):Prop:=l.Pairwise λa b=>dM a b=true
theorem oh:∀{a b:List PID},Asc a->Asc b->(∀x,x∈a↔x∈b)->a=b
 | [],[],_,_,_=>rfl
 | [],y :: b,_,_,h=>by have:=(h y).2 (by simp);simp at this
 | x :: a,[],_,_,h=>by have:=(h x).1 (by simp);simp at this
 | x :: a,y :: b,ha,hb,h=>by
  have Vu:=List.pairwise_cons.1 ha;have YW:=List.pairwise_cons.1 hb
  have e:x=y:=by
   have h1:=(h x).1 (by simp);have h2:=(h y).2 (by simp);rcases List.mem_cons.1 h1 with e | h1
   ·exact e
   ·rcases List.mem_cons.1 h2 with e | h2
    ·exact e.symm
    ·have g1:=YW.1 x h1;have g2:=Vu.1 y h2;rw[sa g1] at g2;cases g2
  subst e;rw[oh Vu.2 YW.2 λz=>?_];constructor
  ·intro hz;rcases List.mem_cons.1 ((h z).1 (by simp[hz])) with e | h1
   ·subst e;have:=Vu.1 z hz;rw[fZ] at this;cases this
   ·exact h1
  ·intro hz;rcases List.mem_cons.1 ((h z).2 (by simp[hz])) with e | h1
   ·subst e;have:=YW.1 z hz;rw[fZ] at this;cases this
   ·exact h1
theorem rq(x z:PID):∀{l:List PID},z∈rr l x↔z=x\/z∈l
 | []=>by simp[rr]
 | y :: r=>by
  unfold rr;split
  ·rw[List.mem_cons,rq x z,List.mem_cons];constructor
   ·rintro (h | h | h)<;>simp[h]
   ·rintro (h | h | h)<;>simp[h]
  ·split
   ·rename_i e;subst e;simp
   ·simp
theorem wV(x:PID):∀{l:List PID},Asc l->Asc (rr l x)
 | [],_=>by simp[rr]
 | y :: r,h=>by
  have h':=List.pairwise_cons.1 h;unfold rr;split
  ·rename_i hy;refine List.pairwise_cons.2 ⟨λz hz=>?_,wV x h'.2⟩;rcases (rq x z).1 hz with rfl | hz
   ·exact hy
   ·exact h'.1 z hz
  ·rename_i hy;split
   ·exact h
   ·rename_i hne
    have Vj:dM x y=true:=by
     rw[<- Bool.not_eq_false];intro e;exact hne (na (by simpa using hy) e)
    refine List.pairwise_cons.2 ⟨λz hz=>?_,h⟩;rcases List.mem_cons.1 hz with rfl | hz
    ·exact Vj
    ·exact gR Vj (h'.1 z hz)
theorem qg(l:List PID):∀{a:List PID},Asc a->Asc (l.foldl rr a)/\∀z,z∈l.foldl rr a↔z∈l\/z∈a:=by
 induction l with
 | nil=>intro a h;exact⟨h,λz=>by simp⟩
 | cons x l ih=>
  intro a h;obtain⟨h1,h2⟩:=ih (wV x h);refine⟨h1,λz=>?_⟩;rw[List.foldl_cons,h2,rq,List.mem_cons];constructor
  ·rintro (h | h | h)<;>simp[h]
  ·rintro ((h | h) | h)<;>simp[h]
theorem vj(l:List PID):Asc (ie l):=(qg l (a:=[]) List.Pairwise.nil).1
theorem vh(l:List PID) (z:PID):z∈ie l↔z∈l:=by
 rw[ie,(qg l (a:=[]) List.Pairwise.nil).2];simp
theorem ye{l m:List PID}(h:Asc m) (hm:∀z,z∈m↔z∈l):ie l=m:=oh (vj l) h λz=>(vh l z).trans (hm z).symm
theorem nC(d:Array PID) (hs:∀i,i+1 < d.size->dM d[i+1]! d[i]! = false):∀m,m<=d.size ->
 Asc (compactUpTo d m)/\(∀z,z∈compactUpTo d m↔∃i,i < m/\z=d[i]!)/\(0 < m->∀z∈compactUpTo d m,z=d[m - 1]!\/dM z d[m - 1]! = true):=by
 intro m
 induction m with
 | zero=>intro _;refine⟨by simp[compactUpTo],λz=>by simp[compactUpTo],λh=>by omega⟩
 | succ m ih=>
  intro hm;obtain⟨h1,h2,h3⟩:=ih (by omega);rw[compactUpTo_succ];by_cases h0:m=0
  ·subst h0;have:keeps d 0=true:=keeps_lt_one d 0 (by omega);rw[this];refine⟨by simp[compactUpTo],λz=>?_,λ_ z hz=>?_⟩
   ·simp only[compactUpTo,List.range_zero,List.filter_nil,List.map_nil,if_true,List.nil_append,List.mem_singleton];constructor
    ·intro e;exact⟨0,by omega,e⟩
    ·rintro⟨i,hi,e⟩;rw[e];congr 1;omega
   ·simp[compactUpTo] at hz;exact .inl hz
  ·have Vq:=h3 (by omega);have RP:=hs (m - 1) (by omega);rw[show m - 1+1=m by omega] at RP;by_cases e:d[m]! = d[m - 1]!
   ·rw[keeps_neg (by omega) e];simp only[Bool.false_eq_true,if_false,List.append_nil];refine⟨h1,λz=>?_,λ_ z hz=>?_⟩
    ·rw[h2];constructor
     ·rintro⟨i,hi,hz⟩;exact⟨i,by omega,hz⟩
     ·rintro⟨i,hi,hz⟩;by_cases hi2:i=m
      ·subst hi2;exact⟨i - 1,by omega,by rw[hz,e]⟩
      ·exact⟨i,by omega,hz⟩
    ·rw[Nat.add_sub_cancel,e];exact Vq z hz
   ·rw[keeps_pos e];simp only[if_true]
    have hlt:dM d[m - 1]! d[m]! = true:=by
     rw[<- Bool.not_eq_false];intro g;exact e (na RP g)
    have ZU:∀z∈compactUpTo d m,dM z d[m]! = true:=λz hz=>by
     rcases Vq z hz with g | g
     ·rw[g];exact hlt
     ·exact gR g hlt
    refine⟨List.pairwise_append.2 ⟨h1,by simp,λa ha b hb=>?_⟩,λz=>?_,λ_ z hz=>?_⟩
    ·rw[List.mem_singleton.1 hb];exact ZU a ha
    ·rw[List.mem_append,h2,List.mem_singleton];constructor
     ·rintro (⟨i,hi,hz⟩ | hz)
      ·exact⟨i,by omega,hz⟩
      ·exact⟨m,by omega,hz⟩
     ·rintro⟨i,hi,hz⟩;by_cases hi2:i=m
      ·subst hi2;exact .inr hz
      ·exact .inl ⟨i,by omega,hz⟩
    ·rw[Nat.add_sub_cancel];rcases List.mem_append.1 hz with hz | hz
     ·exact .inr (ZU z hz)
     ·exact .inl (List.mem_singleton.1 hz)
theorem pe{l:List PID}{d:Array PID}(hp:∀z,z∈d.toList↔z∈l) (hs:∀i,i+1 < d.size->dM d[i+1]! d[i]! = false):compactUpTo d d.size=ie l:=by
 obtain⟨h1,h2,_⟩:=nC d hs d.size (Nat.le_refl _);refine (ye h1 λz=>?_).symm;rw[h2,<- hp];constructor
 ·rintro⟨i,hi,e⟩;rw[e];simp[hi]
 ·intro hz;obtain⟨i,hi,e⟩:=List.getElem_of_mem hz
  have ZW:i < d.size:=by simpa using hi
  exact⟨i,ZW,by rw[<- e];simp[ZW]⟩
end Go.Proofs.Yteonljfnncdijaa
namespace Go.Proofs.Yteonljfnncdijaa
open Go.Shelf
def qR:Go.Shelf.Ren:=⟨λ| 6=>54 | 15=>67 | 14=>66 | 28=>85 | 29=>86 | 20=>77 | 21=>78 | 22=>79 | 23=>80 | 24=>81 | 25=>82 | 26=>83 | 27=>84 | 46=>89 | 47=>90 | 48=>91 | 49=>92 | 50=>93 | 57=>94 | n=>n,λ| 22=>24 | 24=>30 | 25=>68 | 3=>3 | 39=>98 | 0=>0 | 53=>114 | 55=>116 | 4=>4 | 46=>107 | 45=>106 | 50=>111 | 5=>5 | 9=>9 | 66=>119 | 70=>123 | 76=>125 | 77=>126 | n=>n,λ| n=>n⟩
theorem vg:Go.Proofs.SlLaysF0.n6 Try.prog qR:={
 mixed:=by kernel_rfl
 f6:=⟨Try.f54.name,by decide,Try.func54.trans (congrArg some (by kernel_rfl))⟩
 f14:=⟨Try.f66.name,by decide,Try.func66.trans (congrArg some (by kernel_rfl))⟩
 f15:=Try.func67.trans (congrArg some (by kernel_rfl))
 f20:=⟨Try.f77.name,by decide,Try.func77.trans (congrArg some (by kernel_rfl))⟩
 f21:=⟨Try.f78.name,by decide,Try.func78.trans (congrArg some (by kernel_rfl))⟩
 f22:=⟨Try.f79.name,by decide,Try.func79.trans (congrArg some (by kernel_rfl))⟩
 f23:=⟨Try.f80.name,by decide,Try.func80.trans (congrArg some (by kernel_rfl))⟩
 f24:=⟨Try.f81.name,by decide,Try.func81.trans (congrArg some (by kernel_rfl))⟩
 f25:=⟨Try.f82.name,by decide,Try.func82.trans (congrArg some (by kernel_rfl))⟩
 f26:=⟨Try.f83.name,by decide,Try.func83.trans (congrArg some (by kernel_rfl))⟩
 f27:=⟨Try.f84.name,by decide,Try.func84.trans (congrArg some (by kernel_rfl))⟩
 f28:=Try.func85.trans (congrArg some (by kernel_rfl))
 f29:=Try.func86.trans (congrArg some (by kernel_rfl))
 f46:=⟨Try.f89.name,by decide,Try.func89.trans (congrArg some (by kernel_rfl))⟩
 f47:=Try.func90.trans (congrArg some (by kernel_rfl))
 f48:=Try.func91.trans (congrArg some (by kernel_rfl))
 f49:=⟨Try.f92.name,by decide,Try.func92.trans (congrArg some (by kernel_rfl))⟩
 f50:=⟨Try.f93.name,by decide,Try.func93.trans (congrArg some (by kernel_rfl))⟩
 f57:=⟨Try.f94.name,by decide,Try.func94.trans (congrArg some (by kernel_rfl))⟩
 t0:=Try.underlying0
 a0:=Try.isAgg0
 z0:=Try.sizeOf0
 v0:=Try.zeroValue0
 t3:=Try.underlying3
 a3:=Try.isAgg3
 z3:=Try.sizeOf3
 v3:=Try.zeroValue3
 t4:=Try.underlying4
 a4:=Try.isAgg4
 z4:=Try.sizeOf4
 v4:=Try.zeroValue4
 t5:=Try.underlying5
 a5:=Try.isAgg5
 z5:=Try.sizeOf5
 v5:=Try.zeroValue5
 t9:=Try.underlying9
 a9:=Try.isAgg9
 z9:=Try.sizeOf9
 v9:=Try.zeroValue9
 t22:=Try.underlying24
 a22:=Try.isAgg24
 z22:=Try.sizeOf24
 v22:=Try.zeroValue24
 t25:=Try.underlying68
 a25:=Try.isAgg68
 z25:=Try.sizeOf68
 v25:=Try.zeroValue68
 t39:=Try.underlying98
 a39:=Try.isAgg98
 z39:=Try.sizeOf98
 v39:=Try.zeroValue98
 t45:=Try.underlying106
 a45:=Try.isAgg106
 z45:=Try.sizeOf106
 v45:=Try.zeroValue106
 t46:=Try.underlying107
 a46:=Try.isAgg107
 z46:=Try.sizeOf107
 v46:=Try.zeroValue107
 t50:=Try.underlying111
 a50:=Try.isAgg111
 z50:=Try.sizeOf111
 v50:=Try.zeroValue111
 t53:=Try.underlying114
 a53:=Try.isAgg114
 z53:=Try.sizeOf114
 v53:=Try.zeroValue114
 t55:=Try.underlying116
 a55:=Try.isAgg116
 z55:=Try.sizeOf116
 v55:=Try.zeroValue116
 t66:=Try.underlying119
 a66:=Try.isAgg119
 z66:=Try.sizeOf119
 v66:=Try.zeroValue119
 t70:=Try.underlying123
 a70:=Try.isAgg123
 z70:=Try.sizeOf123
 v70:=Try.zeroValue123
 t76:=Try.underlying125
 a76:=Try.isAgg125
 z76:=Try.sizeOf125
 v76:=Try.zeroValue125
 t77:=Try.underlying126
 a77:=Try.isAgg126
 z77:=Try.sizeOf126
 v77:=Try.zeroValue126 }
def qw:Go.Shelf.Ren:=⟨λ| 41=>35 | n=>n,λ| 22=>24 | 23=>30 | 4=>4 | n=>n,λ| n=>n⟩
theorem tp:Go.Proofs.SlLaysE0.n41 Try.prog qw:={
 mixed:=by kernel_rfl
 f41:=⟨Try.f35.name,by decide,Try.func35.trans (congrArg some (by kernel_rfl))⟩
 t4:=Try.underlying4
 a4:=Try.isAgg4
 z4:=Try.sizeOf4
 v4:=Try.zeroValue4
 t22:=Try.underlying24
 a22:=Try.isAgg24
 z22:=Try.sizeOf24
 v22:=Try.zeroValue24 }
end Go.Proofs.Yteonljfnncdijaa
namespace Go.Proofs.Yteonljfnncdijaa
open Go.RowKit Go.Sort Go.Lib
theorem qt(p:Option Addr) (cap:Nat) (w:World):Calls Try.prog 55 #[.slice p 0 cap] w λe w'=>e=.returned (.slice p 0 cap)/\w'=w:=by
 go_enter Try.func55,Try.ntmps55
 go_wp2
 go_ret
 exact⟨rfl,rfl⟩
theorem vf(p:Option Addr) (cap:Nat) (fv:Value) (w:World):Calls Try.prog 54 #[.slice p 0 cap,fv] w λe w'=>e=.returned (.tuple #[])/\w'=w:=
 AnyF.slices_SortFunc_none vg p cap fv w
theorem yd(ZE cap:Nat) (d:Array PID) (w:World) (hH:HoldsK eO 2 w ZE 0 d) (Wh:ZE < w.heap.size) (hsz:d.size < 4611686018427387904) :
 Calls Try.prog 54 #[.slice (some ⟨ZE,0,none⟩) d.size cap,.func (.func 33) #[] #[]] w λe w'=>
  e=.returned (.tuple #[])/\∃d' n os,PermIn 0 d.size d d'/\SortedIn (ltOf xS) 0 d.size d'/\w'=sortWorldK eO 2 w ZE 0 n d' os:=by
 have eg:∀args w,(callFunc 33 args).run Try.prog w=.ok (.enter 33 args) w:=iz Try.func33 (by kernel_rfl) rfl;have SE:CmpLays Try.prog 33 #[] eO 2 xS ZE 0 d.size w:=λ_ _ _ _ x y=>wE x y _;exact AnyQ.slices_SortFunc vg 2 Try.isAgg30 Try.sizeOf30 eO (λ_=>rfl) (λx v hv=>by simp[eO] at hv;rcases hv with rfl | rfl<;>rfl) xS Af 33 #[] ZE 0 cap d w eg SE hH Wh hsz
theorem lF:∃i z,Try.prog.info? 30=some i/\i.zero=some z/\i.size=2/\i.bytes=16/\z.cells.size=2:=by
 have h:(match Try.prog.info? 30 with | some i=>(match i.zero with | some z=>decide (i.size=2) && decide (i.bytes=16) && decide (z.cells.size=2) | none=>false) | none=>false)=true:=by kernel_rfl
 revert h
 cases Try.prog.info? 30 with
 | none=>intro h;cases h
 | some i=>
  intro h;simp only at h
  cases hz:i.zero with
  | none=>rw[hz] at h;cases h
  | some z=>
   rw[hz] at h;simp only[oBA,oDE] at h;exact⟨i,z,rfl,hz,h.1.1,h.1.2,h.2⟩
def eS(l:List PID):List Value:=l.flatMap eO
theorem mH(l:List PID):(eS l).length=l.length*2:=by
 induction l with
 | nil=>rfl
 | cons x l ih=>simp[eS,eO] at ih ⊢;omega
theorem mI:∀(l:List PID) (i:Nat) (h:i < l.length),(eS l)[i*2]?=some (.int .i64 l[i].1)/\(eS l)[i*2+1]?=some (.int .i64 l[i].2)
 | x :: l,0,_=>⟨rfl,rfl⟩
 | x :: l,i+1,h=>by
  have:=mI l i (by simpa using h);have e:eS (x :: l)=.int .i64 x.1 :: .int .i64 x.2 :: eS l:=rfl;rw[e,show (i+1)*2=i*2+1+1 by omega];simpa using this
theorem ql(l:List PID):∀u∈eS l,u.oneCell'=true:=by
 intro u hu;simp[eS,eO] at hu;obtain⟨_,_,_,h | h⟩:=hu<;>rw[h]<;>rfl
theorem mJ{w:World}{b o:Nat}{l:List PID}(h:g8 w b o l):∀j u,(eS l)[j]?=some u->w.cell? ⟨b,o+j,none⟩=some u:=by
 intro j u hu
 have hj:j < l.length*2:=by rw[<- mH];exact (oGS hu).1
 have hi:j / 2 < l.length:=by omega
 have g:=mI l (j / 2) hi;have hc:=h (j / 2) hi;rcases Nat.mod_two_eq_zero_or_one j with e | e
 ·rw[show j=j / 2*2 by omega] at hu ⊢;rw[g.1] at hu
  injection hu with hu
  rw[<- hu];exact hc.1
 ·rw[show j=j / 2*2+1 by omega] at hu ⊢;rw[g.2] at hu
  injection hu with hu
  rw[<- hu,<- Nat.add_assoc];exact hc.2
theorem nZ{w:World}{g cap:Nat}{cur:Array Value}{e:TypeId}{l:List PID}(hg:w.heap[g]?=some (.cells cur e (0,0))) (hcur:cur.size=cap*2) (hl:l.length<=cap) (ht:cur.toList.take (l.length*2)=eS l):HoldsK eO 2 w g 0 l.toArray:=by
 intro j hj;rw[size_flatK] at hj
 have ZZ:j < l.length*2:=by simpa using hj
 rw[Nat.zero_add,get_flatK _ _ _ _ hj,cell_of_row w g j cur e (0,0) hg]
 have hi:j / 2 < l.length:=by omega
 have e1:(eS l)[j]?=cur.toList[j]?:=by rw[<- ht,List.getElem?_take_of_lt ZZ]
 have e2:cur[j]?=cur.toList[j]?:=by simp
 have gg:=mI l (j / 2) hi
 have e3:l.toArray[j / 2]! = l[j / 2]:=by simp[hi]
 refine⟨?_,?_⟩
 ·rw[e2,<- e1,e3];rcases Nat.mod_two_eq_zero_or_one j with e | e
  ·rw[e];have:=gg.1;rw[show j / 2*2=j by omega] at this;exact this
  ·rw[e];have:=gg.2;rw[show j / 2*2+1=j by omega] at this;exact this
 ·simp[World.frozen?,hg]
theorem uJ(ad:Addr) (cap:Nat) (w:World):Calls Try.prog 35 #[.slice (some ad) 0 cap] w λe w'=>Below w.heap.size w w'/\∃p,e=.returned (.slice p 0 0):=by
 obtain⟨i,z,hi,_⟩:=lF;have q:∀(w:World) (a:Option Addr) (n c n' c':Nat),(binOp .eql 24 (.slice a n c) (.slice none n' c')).run Try.prog w=.ok (.bool a.isNone) w:=λw a n c n' c'=>Lib.run_eql_slice_nil w _ _ a n c n' c' Try.underlying24;have hz:∀(w:World) (ty:TypeId) (s:Option Addr),(Builtin.append_ #[24,24] ty #[.slice s 0 0,.slice (some ad) 0 cap]).run Try.prog w=.ok (.slice s 0 0) w:=λw ty s=>dX w 24 ty 30 i Try.underlying24 hi s 0 0 (Nat.le_refl _) (some ad) cap;clear hi
 go_enter Try.func35,Try.ntmps35
 go_wp2
 go_ret
 exact⟨Below.alloc (Below.refl _ _) (Nat.le_refl _) _,_,rfl⟩
theorem xr(l:List PID) (a:Option Addr) (cap:Nat) (w:World) (ha:l≠[]->∃b o,a=some ⟨b,o,none⟩/\g8 w b o l) (hl:l.length<=1099511627776) :
 Calls Try.prog 35 #[.slice a l.length cap] w λe w'=>Below w.heap.size w w'/\((l=[]/\∃p,e=.returned (.slice p 0 0)) \/
  ∃g c,e=.returned (.slice (some ⟨g,0,none⟩) l.length c)/\w.heap.size<=g/\g < w'.heap.size/\l.length<=c/\c<=maxLen/\HoldsK eO 2 w' g 0 l.toArray):=by
 obtain⟨i,z,hi,hz,hsz,X5,Y'⟩:=lF
 have ZY:∀b o,a=some ⟨b,o,none⟩->(∀j u,(eS l)[j]?=some u->w.cell? ⟨b,o+j,none⟩=some u)->Calls Try.prog 35 #[.slice a l.length cap] w λe w'=>Below w.heap.size w w'/\((l=[]/\∃p,e=.returned (.slice p 0 0)) \/
  ∃g c,e=.returned (.slice (some ⟨g,0,none⟩) l.length c)/\w.heap.size<=g/\g < w'.heap.size/\l.length<=c/\c<=maxLen/\HoldsK eO 2 w' g 0 l.toArray):=by
  rintro b o rfl hc;have h:=AnyE.slices_Clone tp i z 2 16 hi hz hsz X5 Y' (by omega) Try.sizeOf30 b o l.length cap (eS l) w (mH l) (by unfold maxLen;omega) (by omega) hc (ql l);refine h.mono λe w' ⟨v',he,hown,_,hb⟩=>⟨hb,?_⟩;rcases hown.2 with ⟨rfl,hn⟩ | ⟨g,c,cur,rfl,hg,Va,hcap,hmax,hcur,Y3⟩
  ·exact .inl ⟨oEN hn,none,he⟩
  ·exact .inr ⟨g,c,he,hg,(Array.getElem?_eq_some_iff.1 Va).1,hcap,hmax,nZ Va hcur hcap Y3⟩
 by_cases hn:l=[]
 ·subst hn
  cases a with
  | none=>exact (AnyE.slices_Clone_nil tp 0 cap w).mono λe w' ⟨he,hw⟩=>by subst hw;exact⟨Below.refl _ _,.inl ⟨rfl,none,he⟩⟩
  | some ad=>exact (uJ ad cap w).mono λe w' ⟨hb,h⟩=>⟨hb,.inl ⟨rfl,h⟩⟩
 ·obtain⟨b,o,e,hh⟩:=ha hn;exact ZY b o e (mJ hh)
theorem m8{w w' X4:World}{g:Nat}(hb:Below w.heap.size w w') (hg:w.heap.size<=g) (h:cI g w' X4):Below w.heap.size w X4:=
 ⟨h.os.trans hb.os,h.tape.trans hb.tape,h.output.trans hb.output,by rw[h.size];exact hb.size,λk hk=>(h.block k (by omega)).trans (hb.block k hk)⟩
theorem uS{w w':World}{g n:Nat}{d:Array PID}{os:Array Obj}(hb:Below w.heap.size w w') (hg:w.heap.size<=g):Below w.heap.size w (sortWorldK eO 2 w' g 0 n d os):=by
 have h1:cI g w' (putRowK eO 2 (Sort.ahead w' n) g 0 d):=(cI.ahead g w' n).trans (cI.putRow g 0 _ d);have h2:=m8 hb hg h1;have e:sortWorldK eO 2 w' g 0 n d os=grow (putRowK eO 2 (Sort.ahead w' n) g 0 d) os:=rfl;rw[e];refine⟨h2.os,h2.tape,h2.output,Nat.le_trans h2.size (by simp[grow]),λk hk=>?_⟩;rw[<- h2.block k hk];show (_++os)[k]?=_;exact Array.getElem?_append_left (Nat.lt_of_lt_of_le hk h2.size)
theorem ut{w':World}{g n:Nat}{d d':Array PID}{os:Array Obj}(h:HoldsK eO 2 w' g 0 d) (hg:g < w'.heap.size) (hs:d'.size=d.size):HoldsK eO 2 (sortWorldK eO 2 w' g 0 n d' os) g 0 d':=by
 have e:sortWorldK eO 2 w' g 0 n d' os=grow (putRowK eO 2 (Sort.ahead w' n) g 0 d') os:=rfl;rw[e];exact holdsK_grow eO 2 _ os g 0 d' (by unfold putRowK;simpa using hg) (holdsK_putRowK eO 2 _ g 0 d d' (holdsK_ahead eO 2 w' n g 0 d h) hs)
theorem wU(x:PID):∀l:List PID,(rr l x).length<=l.length+1
 | []=>by simp[rr]
 | y :: r=>by
  unfold rr;split
  ·have:=wU x r;simp;omega
  ·split<;>simp
theorem vi(l:List PID):(ie l).length<=l.length:=by
 have ZY:∀(l a:List PID),(l.foldl rr a).length<=a.length+l.length:=by
  intro l
  induction l with
  | nil=>intro a;simp
  | cons x l ih=>
   intro a;have h1:=ih (rr a x);have h2:=wU x a;simp only[List.foldl_cons,oLC];omega
 have:=ZY l [];simpa [ie] using this
def Ck(w w':World) (e:Ending) (m:List PID):Prop:=Below w.heap.size w w'/\((m=[]/\∃p,e=.returned (.slice p 0 0))\/∃g c,e=.returned (.slice (some ⟨g,0,none⟩) m.length c)/\w.heap.size<=g/\m.length<=c/\c<=maxLen/\g8 w' g 0 m)
set_option maxHeartbeats 2000000 in
theorem tP(l:List PID) (a:Option Addr) (cap:Nat) (w:World) (ha:l≠[]->∃b o,a=some ⟨b,o,none⟩/\g8 w b o l) (hl:l.length<=1099511627776) :
 Calls Try.prog 32 #[.func (.func 33) #[] #[],.slice a l.length cap] w λe w'=>Ck w w' e (ie l):=by
 have WU:=xr l a cap w ha hl
 have WR:(l.length:Nat) < 4611686018427387904:=by omega
 clear ha
 go_enter Try.func32,Try.ntmps32
 go_wp2_with fail
 refine WU.mono ?_;rintro e w1 ⟨ZT,⟨rfl,p,rfl⟩ | ⟨g,c,rfl,hg,ZH,hc,hmax,hK⟩⟩
 ·go_wp2_with fail
  refine (vf p 0 _ w1).mono ?_;rintro e w2 ⟨rfl,rfl⟩
  go_wp2_with fail
  refine (qt p 0 w2).mono ?_;rintro e w3 ⟨rfl,rfl⟩
  go_wp2
  go_ret
  exact⟨ZT,.inl ⟨rfl,p,rfl⟩⟩
 ·have HB:=Lib.hid ZT;have HK:=Lib.hid hK;clear ZT hK WU
  go_wp2_with fail
  have hs:=yd g c l.toArray w1 HK.out ZH (by simpa using WR);refine hs.mono ?_;rintro e w2 ⟨rfl,d',n,os,hp,RO,rfl⟩
  have hsz:d'.size=l.length:=by simpa using hp.1
  have Rl:=ut (os:=os) (n:=n) HK.out ZH hp.1
  have Zy:∀z,z∈d'.toList↔z∈l:=λz=>by
   have:=hp.2.2.mem_iff (a:=z);simpa [Array.extract_eq_self_of_le,hsz] using this
  have Y2:∀i,i+1 < d'.size->dM d'[i+1]! d'[i]! = false:=λi hi=>by
   rw[<- lJ];exact RO i (i+1) (by omega) (by omega) (by rw[List.size_toArray];omega)
  have HC:=Lib.hid (rR g 0 c d' (sortWorldK eO 2 w1 g 0 n d' os) Rl (by omega) (by omega));have Ps:=Lib.hid (uS (n:=n) (d:=d') (os:=os) HB.out hg);have HE:=Lib.hid (pe Zy Y2);have HL:=Lib.hid hsz;clear Rl Zy Y2 hp RO hs hsz
  go_wp2_with fail
  have hcc:=HC.out;rw[HL.out] at hcc;refine hcc.mono ?_;rintro e w3 ⟨rfl,TI,PK⟩
  go_wp2
  go_ret
  have e:compactUpTo d' l.length=ie l:=by rw[<- HL.out];exact HE.out
  have hlen:=vi l;exact⟨m8 Ps.out hg PK,.inr ⟨g,c,by rw[e];rfl,hg,by omega,hmax,by rw[<- HE.out];exact TI⟩⟩
theorem ou:f8 Try.prog 32:=iz Try.func32 (by kernel_rfl) rfl
theorem pY{w:World}{F:Nat->Prop}{l:List PID}{x:Value}(h:fh w F (.sl (l.map lN)) x):∃a cap,x=.slice a l.length cap/\(l≠[]->∃b o,a=some ⟨b,o,none⟩/\g8 w b o l):=by
 cases h with
 | @sl _ a cap sz u hsz hcap hmax hnil hcell hrec=>
  refine⟨a,cap,by simp,λhn=>?_⟩;have Z4:0 < l.length:=List.length_pos_iff.2 hn
  have hz:sz=2:=by
   have:=hsz 0 (by simpa using Z4);rw[<- this];simp[lN]
  subst hz;obtain⟨b,o,e,_,_⟩:=hcell 0 0 (by simpa using Z4) (by omega);refine⟨b,o,e,λi hi=>?_⟩
  have ZW:i < (l.map lN).length:=by simpa using hi
  have cell:∀j (hj:j < 2),w.cell? ⟨b,o+(i*2+j),none⟩=some (u i j):=λj hj=>by
   obtain⟨b',o',e',_,hc⟩:=hcell i j ZW hj;rw[e] at e'
   injection e' with e'
   injection e' with e1 e2
   subst e1;subst e2;exact hc
  have g0:=hrec i 0 ZW (by simp[lN]);have g1:=hrec i 1 ZW (by simp[lN]);have c0:=cell 0 (by omega);have c1:=cell 1 (by omega);revert g0 g1 c0 c1;generalize u i 0=u0;generalize u i 1=u1;intro g0 g1 c0 c1;simp only[List.getElem_map,lN,List.getElem_cons_zero,List.getElem_cons_succ] at g0 g1;cases g0;cases g1;exact⟨by rw[<- c0];congr 2,by rw[<- c1];congr 2⟩
theorem we{w:World}{F:Nat->Prop}{l:List PID}{g c:Nat}(h:g8 w g 0 l) (hl:l.length<=c) (hm:c<=maxLen) (hF:F g):fh w F (.sl (l.map lN)) (.slice (some ⟨g,0,none⟩) l.length c):=by
 have ZY:=fh.sl (w:=w) (F:=F) (c:=l.map lN) (a:=some ⟨g,0,none⟩) (cap:=c) 2 (λi j=>if j=0 then .int .i64 (l.getD i (0,0)).1 else .int .i64 (l.getD i (0,0)).2) (λi hi=>by simp[lN]) (by simpa using hl) hm (λe=>by simp at e) (λi j hi hj=>?_) (λi j hi hj=>?_)
 ·rw[List.length_map] at ZY;exact ZY
 ·have ZW:i < l.length:=by simpa using hi
  have hh:=h i ZW;refine⟨g,0,rfl,hF,?_⟩
  have e:l.getD i (0,0)=l[i]:=by simp[ZW]
  rw[e];rcases Nat.lt_or_ge 0 j with h0 | h0
  ·have:j=1:=by omega
   subst this;rw[oIN (by omega),<- hh.2,Nat.add_assoc]
  ·have:j=0:=by omega
   subst this;rw[oIP rfl,<- hh.1];congr 2
 ·have ZW:i < l.length:=by simpa using hi
  have e:l.getD i (0,0)=l[i]:=by simp[ZW]
  simp only[List.getElem_map,lN,oLC,List.length_nil] at hj ⊢;rw[e];rcases Nat.lt_or_ge 0 j with h0 | h0
  ·have:j=1:=by omega
   subst this;exact .v rfl
  ·have:j=0:=by omega
   subst this;exact .v rfl
theorem sI{w w':World}{e:Ending}{m:List PID}{F:Nat->Prop}(h:Ck w w' e m):∃x,e=.returned x/\Below w.heap.size w w'/\fh w' (λk=>F k\/w.heap.size<=k) (.sl (m.map lN)) x:=by
 obtain⟨hb,⟨rfl,p,he⟩ | ⟨g,c,he,hg,hl,hm,hh⟩⟩:=h
 ·exact⟨_,he,hb,.sl (c:=[]) 2 (λ_ _=>undef) (λi h=>by simp at h) (Nat.le_refl _) (Nat.zero_le _) (λ_=>rfl) (λi j h=>by simp at h) (λi j h=>by simp at h)⟩
 ·exact⟨_,he,hb,we hh hl hm (.inr hg)⟩
theorem tO(l:List PID) (hl:l.length<=1099511627776):Bq Try.prog 32 [.fn 33 [],.sl (l.map lN)] ((ie l).map lN):=by
 intro avs w F hal ha
 match avs,hal with
 | [x,y],_=>
  have h0:=ha 0 (by simp) (by simp);have h1:=ha 1 (by simp) (by simp);simp only[List.getElem_cons_zero,List.getElem_cons_succ] at h0 h1;cases h0
  cases h1 with
  | im h1=>
   obtain⟨a,cap,rfl,hh⟩:=pY h1;exact (tP l a cap w hh hl).mono λe w' h=>sI h
theorem mi{P:Program}{w:World}(t it ty e:TypeId) (i:TypeInfo) (z:Value) (ht:P.underlying t=some (.slice e)) (hit:P.underlying it=some (.int .i64)) (hi:P.info? e=some i) (hz:i.zero=some z) (Z4:0 < i.size)
 (n:Nat) (h0:0 < n) (Se:n<=1099511627776) (PH:n*i.bytes<=140737488355328) :
 (Builtin.append_ #[t,it] ty #[.slice none 0 0,.int .i64 n]).run P w =
  .ok (.slice (some ⟨w.heap.size,0,none⟩) n (grownCap w n 0 e)) (w.drew.alloc (.cells (Builtin.zeroCells z.cells n++Builtin.zeroCells z.cells (grownCap w n 0 e - n)) e)):=by
 have hn:n≠0:=by omega
 have Sk:¬ (9223372036854775807 < (n:Int)):=by omega
 have hw:IntKind.i64.wrap (n:Int)=(n:Int):=wrap_i64 (by omega) (by omega)
 have VH:¬ ((n:Int) < 0):=by omega
 have Sv:¬ ((281474976710656:Int) < (n:Int)*(i.bytes:Int)):=by
  have e:(n:Int)*(i.bytes:Int)=((n*i.bytes:Nat):Int):=by simp
  rw[e];omega
 have Sf:¬ (281474976710656 < Builtin.nextslicecap n 0*i.bytes):=by rw[nextslicecap_zero h0];omega
 have hm:n*i.size≠0:=by have:=Nat.mul_pos h0 Z4;omega
 have hsz:i.size≠0:=by omega
 simp[Builtin.append_,run_underlying ht,run_underlying hit,asInt,asIntOf,sizeOf,typeInfo,zeroValue,hi,hz,Builtin.lenOf,hn,Sk,Sf,Question.forced,run_firstCells_none,newRow,grownCap,asInt,hw,VH,Sv,hm,hsz]
theorem gh{P:Program}{ops:Array Oper}{rest:List Oper}{o:Oper}{a:Act}{Q:Exit->Act->World->Prop}{w:World}{t it:TypeId}(Xi:o.guard=none) (s x:Operand) (ho:o.op=.call { callee:=.builtin .append,args:=#[s,x],argTypes:=#[t,it] })
 {vs vx v':Value} {w':World} (hs:a.eval s=vs) (hx:a.eval x=vx) (hrun:(Builtin.append_ #[t,it] o.type #[vs,vx]).run P w=.ok v' w') (h:wpList P ops Q rest (a.put o.dst v') w'):wpList P ops Q (o :: rest) a w:=by
 refine wpList_plain Xi λK hK=>?_;unfold Oper.wp;simp[execOp,ho,resolve,invoke,builtin,hs,hx,hrun,Result.andThen];exact hK _ _ h
theorem uT{B:Nat}{a w:World}(h:Below B a w):Below B a w.drew:=⟨h.os,h.tape,h.output,h.size,h.block⟩
theorem ze(n:Nat) (w:World) (hn:n<=1099511627776):Calls Try.prog 59 #[.slice none 0 0,.int .i64 n] w λe w'=>Below w.heap.size w w'/\∃v,e=.returned v/\w'.ownsRow w.heap.size 30 2 v 0 []:=by
 obtain⟨i,z,hi,hz,hsz,X5,Y'⟩:=lF;by_cases h0:n=0
 ·subst h0;clear hi hz hsz X5 Y'
  go_enter Try.func59,Try.ntmps59
  go_wp2
  go_ret
  exact⟨Below.refl _ _,_,rfl,rfl,.inl ⟨rfl,rfl⟩⟩
 ·have hz0:∀(w:World) (ty:TypeId),(Builtin.append_ #[24,3] ty #[.slice none 0 0,.int .i64 n]).run Try.prog w=.ok (.slice (some ⟨w.heap.size,0,none⟩) n (grownCap w n 0 30)) (w.drew.alloc (.cells (Builtin.zeroCells z.cells n++Builtin.zeroCells z.cells (grownCap w n 0 30 - n)) 30)):=λw ty=>
   mi 24 3 ty 30 i z Try.underlying24 Try.underlying3 hi hz (by omega) n (by omega) hn (by rw[X5];omega)
  have hge:n<=grownCap w n 0 30:=grownCap_ge w n 0 _;have YQ:grownCap w n 0 30<=maxLen:=grownCap_le_maxLen w n 0 _ (by unfold maxLen;omega);obtain⟨zc,XQ⟩:∃zc,zc=z.cells:=⟨_,rfl⟩;rw[<- XQ] at hz0 Y';have HZ:=Lib.hid Y';clear XQ hi hz hsz X5 Y'
  go_enter Try.func59,Try.ntmps59
  go_wp2_with (at_builtin;refine gh rfl _ _ rfl rfl rfl (hz0 _ _) ?_)
  go_ret
  have Wk:(Builtin.zeroCells zc n++Builtin.zeroCells zc (grownCap w n 0 30 - n)).size=grownCap w n 0 30*2:=by
   rw[Array.size_append,size_zeroCells,size_zeroCells,HZ.out,<- Nat.add_mul];congr 1;omega
  refine⟨uT (Below.alloc (Below.refl _ _) (Nat.le_refl _) _),_,rfl,rfl,.inr ⟨w.heap.size,_,_,rfl,Nat.le_refl _,heap_alloc_new w _,Nat.zero_le _,YQ,Wk,by simp⟩⟩
theorem nj{P:Program}{w:World}{t e:TypeId}(i:TypeInfo) (z:Value) (size bytes:Nat) (hu:P.underlying t=some (.slice e)) (hi:P.info? e=some i) (hz:i.zero=some z) (Yx:i.size=size) (X5:i.bytes=bytes) (Y':z.cells.size=size) (Z4:0 < size)
 (ty:TypeId) (base:Nat) (v:Value) (n:Nat) (xs:List Value) (hown:w.ownsRow base e size v n xs)
 (ad:Addr) (m c:Nat) (news:List Value) (hl:news.length=m*size) (YR:∀(j:Nat) u,news[j]?=some u->w.cell? (ad.add j)=some u) (h1:∀u∈news,u.oneCell'=true)
 (Ri:n+m<=maxLen) (WP:(n+m)*bytes<=140737488355328) (Ys:base<=w.heap.size) :
 ∃v' w',(Builtin.append_ #[t,t] ty #[v,.slice (some ad) m c]).run P w=.ok v' w'/\w'.ownsRow base e size v' (n+m) (xs++news)/\w.grownBy w' v.ownBlock:=by
 rcases hown.2 with ⟨rfl,hn⟩ | ⟨g,cap,cur,rfl,hb,Va,hcap,hmax,hsz,Y3⟩
 ·subst hn;have hx:xs=[]:=oEN (by simpa using hown.1);subst hx;obtain⟨v',w',hr,ZA,hg,_⟩:=run_append_own (P:=P) w w.heap.size t ty e i z size bytes hu hi hz Yx X5 Y' Z4 (.slice none 0 0) 0 [] ⟨by simp,.inl ⟨rfl,rfl⟩⟩ ad m c news hl YR h1 Ri WP (Nat.le_refl _);refine⟨v',w',hr,⟨ZA.1,?_⟩,hg⟩;rcases ZA.2 with h | ⟨g,cap,cur,e1,e2,e3⟩
  ·exact .inl h
  ·exact .inr ⟨g,cap,cur,e1,Nat.le_trans Ys e2,e3⟩
 ·rcases Nat.lt_or_ge cap (n+m) with hlt | hge
  ·have hc:=@World.ownsRow.cells w base e size _ n xs hown;obtain⟨v',w',hr,ZA,hg⟩:=run_append_arg_grows (P:=P) w t ty e i z size bytes hu hi hz Yx X5 Y' Z4 ⟨g,0,none⟩ n cap xs hown.1 (hc rfl) ad m c news hl YR hlt Ri WP;refine⟨v',w',hr,⟨ZA.1,?_⟩,⟨hg.os,hg.tape,hg.output,hg.size,λk hk _=>hg.block k hk (by simp)⟩⟩;rcases ZA.2 with h | ⟨g,cap,cur,e1,e2,e3⟩
   ·exact .inl h
   ·exact .inr ⟨g,cap,cur,e1,Nat.le_trans Ys e2,e3⟩
  ·obtain⟨w',hr,ZA,hg⟩:=run_append_own_spare (P:=P) w base t ty e i size hu hi Yx g n cap xs hown ad m c news hl YR h1 hge;exact⟨_,w',hr,ZA,hg⟩
theorem AK{w:World}(ty:TypeId) (base:Nat) (v:Value) (xs l:List PID) (hown:w.ownsRow base 30 2 v xs.length (eS xs)) (Ys:base<=w.heap.size) (a:Option Addr) (cap:Nat) (ha:l≠[]->∃b o,a=some ⟨b,o,none⟩/\g8 w b o l) (hlen:xs.length+l.length<=1099511627776) :
 ∃v' w',(Builtin.append_ #[24,24] ty #[v,.slice a l.length cap]).run Try.prog w=.ok v' w'/\w'.ownsRow base 30 2 v' (xs++l).length (eS (xs++l))/\w.heap.size<=w'.heap.size/\w'.os=w.os/\w'.tape=w.tape/\w'.output=w.output/\∀k,k < base->w'.heap[k]?=w.heap[k]?:=by
 obtain⟨i,z,hi,hz,hsz,X5,Y'⟩:=lF
 have e:eS (xs++l)=eS xs++eS l:=by simp[eS]
 by_cases hl:l=[]
 ·subst hl;rcases hown.2 with ⟨rfl,hn⟩ | ⟨g,c,cur,rfl,hb,Va,hcap,hmax,Xt,Y3⟩
  ·rw[hn] at hown;refine⟨_,w,dX w _ ty 30 i Try.underlying24 hi none 0 0 (Nat.le_refl _) a cap,by rw[List.append_nil,hn];exact hown,Nat.le_refl _,rfl,rfl,rfl,λ_ _=>rfl⟩
  ·exact⟨_,w,dX w _ ty 30 i Try.underlying24 hi _ _ c hcap a cap,by rw[List.append_nil];exact hown,Nat.le_refl _,rfl,rfl,rfl,λ_ _=>rfl⟩
 ·obtain⟨b,o,rfl,hh⟩:=ha hl;obtain⟨v',w',hr,ZA,hg⟩:=nj i z 2 16 Try.underlying24 hi hz hsz X5 Y' (by omega) ty base v xs.length (eS xs) hown ⟨b,o,none⟩ l.length cap (eS l) (mH l) (λj u hu=>by rw[b4];exact mJ hh j u hu) (ql l) (by unfold maxLen;omega) (by omega) Ys;refine⟨v',w',hr,by rw[List.length_append,e];exact ZA,hg.size,hg.os,hg.tape,hg.output,λk hk=>hg.block k (by omega) λe2=>?_⟩;rcases hown.2 with ⟨rfl,_⟩ | ⟨g,c,cur,rfl,hb,_⟩
  ·simp[Value.ownBlock] at e2
  ·simp only[Value.ownBlock,oSJ] at e2;omega
def Bl(w:World) (b o:Nat) (ls:List (List PID)):Prop:=∀i (h:i < ls.length),∃ai ci,w.cell? ⟨b,o+i,none⟩=some (.slice ai ls[i].length ci)/\(ls[i]≠[]->∃b' o',ai=some ⟨b',o',none⟩/\g8 w b' o' ls[i])
theorem qj{ls:List (List PID)}{i:Nat}(h:i < ls.length):(ls.take (i+1)).flatten=(ls.take i).flatten++ls[i]:=by
 rw[<- List.take_append_getElem h,List.flatten_append];simp only[List.flatten_cons,List.flatten_nil,List.append_nil]
theorem rH{ls:List (List PID)}(i:Nat):(ls.take i).flatten.length<=ls.flatten.length:=by
 have:ls.flatten=(ls.take i).flatten++(ls.drop i).flatten:=by rw[<- List.flatten_append,List.take_append_drop]
 rw[this,List.length_append];omega
theorem r6{w w':World}(h:Below w.heap.size w w') {b o:Nat}{l:List PID}(hh:g8 w b o l):g8 w' b o l:=λi hi=>by
 obtain⟨h1,h2⟩:=hh i hi;have hb:=rZ h1;exact⟨by rw[World.cell?_of_block (h.block b hb)];exact h1,by rw[World.cell?_of_block (h.block b hb)];exact h2⟩
theorem qz{B q:Nat}{w w1:World}(h:Below B (w.drewN q) w1):Below B w w1:=⟨h.os,h.tape,h.output,h.size,h.block⟩
set_option maxHeartbeats 4000000 in
theorem uH(ls:List (List PID)) (b o cap:Nat) (w:World) (hr:Bl w b o ls) (hlen:ls.flatten.length<=1099511627776) (hm:ls.length<=1099511627776) :
 Calls Try.prog 34 #[.slice (some ⟨b,o,none⟩) ls.length cap] w λe w'=>Below w.heap.size w w'/\∃v,e=.returned v/\w'.ownsRow w.heap.size 30 2 v ls.flatten.length (eS ls.flatten):=by
 have mixed:Try.prog.follows .mixedOrders=true:=by kernel_rfl
 have HR:Aside (Bl w b o ls):=hr;clear hr
 go_enter Try.func34,Try.ntmps34
 go_wp2
 go_loopg [3,11] ls.length (λg s3 QV wr=>∃i q:Nat,i<=ls.length/\ls.length - i<=g/\s3=.int .i64 ((ls.take i).flatten.length:Nat)/\QV=.int .i64 i/\wr=w.drewN q)
 case atStart=>exact⟨0,0,by omega,by omega,rfl,rfl,rfl⟩
 case round=>
  obtain⟨i,q,hi,hg,rfl,rfl,rfl⟩:=hrel;have YQ:=rH (ls:=ls) i;by_cases hlt:i < ls.length
  ·obtain⟨ai,ci,hc,_⟩:=HR.out i hlt;have Wt:=rH (ls:=ls) (i+1)
   have VY:(ls.take (i+1)).flatten.length=(ls.take i).flatten.length+ls[i].length:=by rw[qj hlt,List.length_append]
   generalize hk:ls[i].length=k at hc VY;generalize hn:(ls.take i).flatten.length=n at YQ VY;have HF:Aside ((ls.take (i+1)).flatten.length=n+k/\(ls.take (i+1)).flatten.length<=ls.flatten.length):=⟨VY,Wt⟩
   have Pc:n+k<=1099511627776:=by omega
   clear VY Wt hk hn YQ
   go_wp2
   go_roundg (ls.length - (i+1))
   case measure=>omega
   case rel=>exact⟨i+1,q,by omega,Nat.le_refl _,by rw[HF.out.1];go_num,by go_num,rfl⟩
  ·have XG:i=ls.length:=by omega
   subst XG;rw[List.take_length] at YQ ⊢;generalize hn:ls.flatten.length=n at YQ hlen ⊢;have HN:Aside (ls.flatten.length=n):=hn;clear hn YQ
   go_wp2_with fail
   refine (ze n _ hlen).mono ?_;rintro e w1 ⟨ZT,v,rfl,hown⟩;have HB:Aside (Below w.heap.size w w1/\w1.ownsRow w.heap.size 30 2 v 0 []):=⟨qz ZT,hown⟩;clear ZT hown
   go_wp2
   go_loopg [6,27] ls.length (λg s6 QY wr=>∃j:Nat,j<=ls.length/\ls.length - j<=g/\QY=.int .i64 j/\Below w.heap.size w wr/\wr.ownsRow w.heap.size 30 2 s6 (ls.take j).flatten.length (eS (ls.take j).flatten))
   case atStart=>exact⟨0,by omega,by omega,rfl,HB.out.1,HB.out.2⟩
   case round=>
    obtain⟨j,hj,ZM,rfl,Z2,hown⟩:=hrel;by_cases hlt2:j < ls.length
    ·obtain⟨ai,ci,hc,Yn⟩:=HR.out j hlt2
     have Zk:wr.cell? ⟨b,o+j,none⟩=some (.slice ai ls[j].length ci):=by rw[World.cell?_of_block (Z2.block b (rZ hc))];exact hc
     have Wt:=rH (ls:=ls) (j+1);have VY:=qj hlt2
     have hsz:(ls.take j).flatten.length+ls[j].length<=1099511627776:=by
      have:(ls.take (j+1)).flatten.length=(ls.take j).flatten.length+ls[j].length:=by rw[VY,List.length_append]
      have:=HN.out;omega
     obtain⟨v',w',hrun,ZA,Yx,RG,V8,Wx,Wh⟩:=AK (w:=wr) 24 w.heap.size _ (ls.take j).flatten ls[j] hown Z2.size ai ci (λhne=>by
      obtain⟨b',o',e1,e2⟩:=Yn hne
      exact⟨b',o',e1,r6 Z2 e2⟩) hsz
     rw[<- VY] at ZA;have HO:Aside (w'.ownsRow w.heap.size 30 2 v' (ls.take (j+1)).flatten.length (eS (ls.take (j+1)).flatten)/\Below w.heap.size w w'):=⟨ZA,⟨RG.trans Z2.os,V8.trans Z2.tape,Wx.trans Z2.output,Nat.le_trans Z2.size Yx,λk hk=>(Wh k hk).trans (Z2.block k hk)⟩⟩;generalize ls[j].length=m at Zk hrun;clear ZA RG V8 Wx Wh Yx Yn hown Z2 hc VY hsz Wt
     go_wp2_with (at_builtin;refine gh rfl _ _ rfl rfl rfl hrun ?_)
     go_roundg (ls.length - (j+1))
     case measure=>omega
     case rel=>exact⟨j+1,by omega,Nat.le_refl _,by go_num,HO.out.2,HO.out.1⟩
    ·have hjl:j=ls.length:=by omega
     subst hjl;rw[List.take_length] at hown;have HO:Aside (Below w.heap.size w wr/\wr.ownsRow w.heap.size 30 2 u6 ls.flatten.length (eS ls.flatten)):=⟨Z2,hown⟩;clear Z2 hown
     go_wp2
     go_ret
     exact⟨HO.out.1,_,rfl,HO.out.2⟩
theorem rQ(a:Option Addr) (cap:Nat) (w:World):Calls Try.prog 34 #[.slice a 0 cap] w λe w'=>Below w.heap.size w w'/\e=.returned (.slice none 0 0):=by
 have mixed:Try.prog.follows .mixedOrders=true:=by kernel_rfl
 go_enter Try.func34,Try.ntmps34
 go_wp2
 refine wp_loop_rounds 1 ?_;rw[rounds_succ]
 go_wp2
 refine wp_loop_rounds 1 ?_;rw[rounds_succ]
 go_wp2
 go_ret
 exact⟨Below.refl _ _,rfl⟩
theorem pd:f8 Try.prog 34:=iz Try.func34 (by kernel_rfl) rfl
theorem uG(ls:List (List PID)) (hl:ls.flatten.length<=1099511627776) (hm:ls.length<=1099511627776):Bq Try.prog 34 [.sl (ls.map λx=>[TV.sl (x.map lN)])] (ls.flatten.map lN):=by
 intro avs w F hal ha
 match avs,hal with
 | [x],_=>
  have h0:=ha 0 (by simp) (by simp);simp only[List.getElem_cons_zero] at h0
  cases h0 with
  | im h0=>
   cases h0 with
   | @sl _ a cap sz u hsz hcap hmax hnil hcell hrec=>
    have Up:(ls.map λx=>[TV.sl (x.map lN)]).length=ls.length:=by simp
    rw[Up] at hcap ⊢;by_cases hn:ls=[]
    ·subst hn;exact (rQ a cap w).mono λe w' ⟨hb,he⟩=>⟨_,he,hb,.sl (c:=[]) 2 (λ_ _=>undef) (λi h=>by simp at h) (Nat.le_refl _) (Nat.zero_le _) (λ_=>rfl) (λi j h=>by simp at h) (λi j h=>by simp at h)⟩
    ·have Z4:0 < ls.length:=List.length_pos_iff.2 hn
     have hz:sz=1:=by
      have:=hsz 0 (by simpa using Z4);rw[<- this];simp
     subst hz;obtain⟨b,o,e,_,_⟩:=hcell 0 0 (by simpa using Z4) (by omega);subst e
     have UK:Bl w b o ls:=λi hi=>by
      obtain⟨b',o',e',_,hc⟩:=hcell i 0 (by simpa using hi) (by omega)
      injection e' with e'
      injection e' with e1 e2
      subst e1;subst e2;have hr:=hrec i 0 (by simpa using hi) (by simp);simp only[List.getElem_map,List.getElem_cons_zero] at hr;obtain⟨ai,ci,hu,hh⟩:=pY hr;exact⟨ai,ci,by rw[<- hu,<- hc];congr 2;omega,hh⟩
     refine (uH ls b o cap w UK hl hm).mono λe w' ⟨hb,v,he,hown⟩=>?_;refine sI ⟨hb,?_⟩;rcases hown.2 with ⟨rfl,h0⟩ | ⟨g,c,cur,rfl,hg,Va,XC,WZ,hcur,Y3⟩
     ·exact .inl ⟨oEN h0,none,he⟩
     ·have hK:=nZ Va hcur XC Y3;exact .inr ⟨g,c,he,hg,XC,WZ,pZ hK (by simp) λi hi=>by rw[getElem!_pos _ i (by simpa using hi)];simp⟩
end Go.Proofs.Yteonljfnncdijaa
namespace Go.Proofs.Yteonljfnncdijaa
end Go.Proofs.Yteonljfnncdijaa
namespace Go.Proofs.Yteonljfnncdijaa
open Go.RowKit
def Cr:FuncId->List TV->Option (List (List TV)):=λf vals=>
 if f=32 then (match vals with
  | [.fn g [],.sl c]=>if g=33 then (zU c).bind λl=>if l.length<=1099511627776 then some ((ie l).map lN) else none else none
  | _=>none)
 else if f=34 then (match vals with
  | [.sl c]=>(xk c).bind λl=>if l.flatten.length<=1099511627776/\l.length<=1099511627776 then some (l.flatten.map lN) else none
  | _=>none)
 else none
def libB:b5:=Bv Cr
theorem libB_ok:d7 Try.prog libB:=BY λf vals c h=>by
 unfold Cr at h;split at h
 ·rename_i e;subst e;split at h
  ·split at h
   ·rename_i g c0 e;subst e;obtain⟨l,h1,h2⟩:=Option.bind_eq_some_iff.1 h;split at h2
    ·rename_i hl
     injection h2 with h2
     subst h2;rw[rM h1];exact⟨ou,tO l hl⟩
    ·cases h2
   ·cases h
  ·cases h
 ·split at h
  ·rename_i e;subst e;split at h
   ·obtain⟨l,h1,h2⟩:=Option.bind_eq_some_iff.1 h;split at h2
    ·rename_i hl
     injection h2 with h2
     subst h2;rw[to h1];exact⟨pd,uG l hl.1 hl.2⟩
    ·cases h2
   ·cases h
  ·cases h
def cy(a0:List PID):Option (List PID×Unit):=if a0.length<=1099511627776 then some (ie a0,()) else none
theorem gI{id:Nat}:jp libB ⟨32,id,[.fn 33 [],shU (.row false (.pair (.int .i64) (.int .i64)))],[],[⟨[shU (.row false (.pair (.int .i64) (.int .i64)))],[.one],[]⟩],λh=>cy h.1⟩:=by
 rintro⟨l,h⟩ o x ho hx;have ho:(if List.length l<=1099511627776 then some (ie l,()) else none)=some o:=ho;split at ho
 case isFalse=>cases ho
 rename_i hl
 injection ho with ho
 subst ho;cases hx;show Bv Cr 32 [.fn 33 [],.sl (l.map lN)] []=some (⟨[.sl ((ie l).map lN)],[.one]⟩,[]);simp[Bv,Cr,sR,tk,hl]
end Go.Proofs.Yteonljfnncdijaa
namespace Go.Proofs.Yteonljfnncdijaa
open Go.RowKit
set_option maxRecDepth 100000
noncomputable section
abbrev KCn:CT:=(.pair (.int .u8) (.pair (.int .u16) (.pair I64 I64)))
abbrev gU:CT:=(.pair I64 (.pair I64 (.pair I64 (.pair I64 (.pair I64 (.pair I64 (.pair (.int .u16) (.row false KCn))))))))
abbrev lT:CT:=(.pair I64 (.pair I64 (.pair I64 (.pair I64 (.pair I64 (.pair I64 (.pair (.int .u16) (.row true KCn))))))))
abbrev cV:CT:=(.row false KCn)
abbrev RI:CT:=(.row false I64)
abbrev DCe:Type:=(Int×Int)
abbrev DCn:Type:=(Int×Int×Int×Int)
abbrev DTs:Type:=(Int×Int×Int×Int×Int×Int×Int×List DCn)
def HH(f i:Nat):List (Nat×Option Nat):=if f=6 then (if i=3000011 then [(7,none),(9,none),(11,none),(13,none)] else []) else if f=76 then (if i=0 then [(4,none)] else []) else if f=62 then (if i=0 then [(4,some 2),(4,some 10)] else []) else if f=24 then (if i=0 then [(4,some 10),(4,some 2)] else []) else if f=53 then (if i=0 then [(4,none)] else []) else if f=30 then (if i=1 then [(5,none)] else []) else if f=31 then (if i=1 then [(5,none)] else []) else if f=5 then (if i=1 then [(12,some 0),(12,some 1),(13,some 0),(13,some 1)] else []) else if f=21 then (if i=0 then [(4,some 0)] else []) else []
def BZ:List Nat:=[32,34]
def TT (f:FuncId):Option TFn:=if BZ.contains f then none else kI Try.prog (HH f) f
theorem BF{f:FuncId}(h:BZ.contains f=true):TT f=none:=oIP h
def E0:Env:=⟨λf=>if f=17 then some (1,[.arg 0,.val (.int .i64 0)]) else none,λf=>CY Try.prog f⟩
theorem tt_ok:xM Try.prog TT:=λf tf h=>Ae HH (by kernel_rfl) f tf (by
 unfold TT at h
 split at h
 ·cases h
 ·exact h)
abbrev qE:Shs:=⟨[],[],[],([],[])⟩
abbrev qS(s:List (Nat×Sh))(c:List (Nat×List Sh)):Shs:=⟨s,c,[],([],[])⟩
abbrev N1:CT:=.nilr true
abbrev N0:CT:=.nilr false
abbrev CW:CT:=.int .u16
abbrev CB:CT:=.int .u8
abbrev uL(l:List CT):List Sh:=l.map fun c=>.d c ()
abbrev pP(t r:Nat):Nat×Sh:=(t,.ptr ⟨r,0,[]⟩ [0])
abbrev sP(t:Nat)(c:CT):Nat×Sh:=(t,.d c ())
abbrev Lk(n:Nat)(c:Ctr):Prop:=Lvl E0 TT libB n c
theorem aN{m:Nat}:tH E0 TT libB m []:=trivial
theorem aC{n m:Nat}{c:Ctr}{l:List Ctr}(h:Lk n c)(r:tH E0 TT libB m l)(hm:n≤m:=by decide):tH E0 TT libB m (c::l):=⟨h.mono hm,r⟩
abbrev lx(i n:Nat)(s:List (Nat×Sh))(c:List (Nat×List Sh))(b:Nat):qG:=⟨i,n,⟨s,c,[],([],[])⟩,[(.exit 0,⟨s++[(b,.d .bool ())],c,[],([],[])⟩)]⟩
abbrev LI:Type:=List Int
abbrev LDCe:Type:=List DCe
abbrev LDCn:Type:=List DCn
abbrev LDTs:Type:=List DTs
abbrev LLCn:Type:=List (List DCn)
abbrev T00:Type:=Int×Bool×Unit
abbrev T01:Type:=Int×Int×Unit
abbrev T02:Type:=LDCe×Int×Unit
abbrev T03:Type:=LI×Int×Unit
abbrev T04:Type:=LLCn×LDTs×Unit
abbrev T05:Type:=Int×T00
abbrev T06:Type:=Int×Int×LDCe×Unit
abbrev T07:Type:=LI×T01
abbrev T08:Type:=LLCn×LDTs×LI×Unit
abbrev T09:Type:=Int×Int×Bool×LDCe×Unit
abbrev T0a:Type:=Int×T08
abbrev T0b:Type:=LI×T05
abbrev T0c:Type:=LI×T06
abbrev T0d:Type:=LLCn×LDTs×T03
abbrev T0e:Type:=LLCn×LDTs×T04
abbrev T0f:Type:=Unit×Unit×T04
abbrev T0g:Type:=Unit×Unit×LLCn×Unit×Unit
abbrev T0h:Type:=Bool×T0e
abbrev T0i:Type:=Int×T0c
abbrev T0j:Type:=Int×T0e
abbrev T0k:Type:=LI×T09
abbrev T0l:Type:=LI×Int×T0f
abbrev T0m:Type:=LI×Int×T0g
abbrev T0n:Type:=LLCn×LDTs×T0f
abbrev T0o:Type:=LLCn×LDTs×T0g
abbrev T0p:Type:=Int×T0l
abbrev T0q:Type:=Int×T0m
abbrev T0r:Type:=Int×T0n
abbrev T0s:Type:=Int×T0o
abbrev T0t:Type:=LI×Int×Unit×Unit×LLCn×Unit×LDCn×Unit
abbrev T0u:Type:=LLCn×LDTs×LDCe×T0e
abbrev T0v:Type:=Int×Bool×T0l
abbrev T0w:Type:=Int×Int×Int×Int×Int×Int×Int×LDCn×Unit
abbrev T0x:Type:=Int×Int×Int×T0i
abbrev T0y:Type:=Int×T0p
abbrev T0z:Type:=Int×T0v
abbrev T0A:Type:=Int×Int×T0t
abbrev T0B:Type:=Int×Int×T0u
abbrev T0C:Type:=(List (Int×Int×LDCn×Int×Int×Int×Int×Int×Int×Int×LDCn))×Int×Unit
abbrev T0D:Type:=LLCn×LDTs×LDCe×(List (Int×Int×LDCn×Int×Int×Int×Int×Int×Int×Int×LDCn))×Unit
abbrev T0E:Type:=Int×T0D
abbrev T0F:Type:=Int×Bool×T0D
abbrev T0G:Type:=Int×T0E
abbrev T0H:Type:=LI×Int×Int×Int×Int×Int×Int×Int×Int×Unit×T0w
abbrev T0I:Type:=Int×T0H
abbrev T0J:Type:=(List (Int×Int×LDCn×Int×Int×Int×Int×Int×Int×Int×LDCn))×(List (Int×Int×LDCn×Int×Int×Int×Int×Int×Int×Int×LDCn))×LDCe×Unit
abbrev T0K:Type:=Int×T0J
abbrev T0L:Type:=Int×Bool×T0J
abbrev T0M:Type:=Int×T0K
noncomputable abbrev ap1{A0 D R:Type}(f:A0→R)(h:A0×D):R:=f h.1
noncomputable abbrev ap2{A0 A1 D R:Type}(f:A0→A1→R)(h:A0×A1×D):R:=f h.1 h.2.1
noncomputable abbrev ap3{A0 A1 A2 D R:Type}(f:A0→A1→A2→R)(h:A0×A1×A2×D):R:=f h.1 h.2.1 h.2.2.1
noncomputable abbrev ap4{A0 A1 A2 A3 D R:Type}(f:A0→A1→A2→A3→R)(h:A0×A1×A2×A3×D):R:=f h.1 h.2.1 h.2.2.1 h.2.2.2.1
noncomputable abbrev ap5{A0 A1 A2 A3 A4 D R:Type}(f:A0→A1→A2→A3→A4→R)(h:A0×A1×A2×A3×A4×D):R:=f h.1 h.2.1 h.2.2.1 h.2.2.2.1 h.2.2.2.2.1
noncomputable abbrev ap8{A0 A1 A2 A3 A4 A5 A6 A7 D R:Type}(f:A0→A1→A2→A3→A4→A5→A6→A7→R)(h:A0×A1×A2×A3×A4×A5×A6×A7×D):R:=f h.1 h.2.1 h.2.2.1 h.2.2.2.1 h.2.2.2.2.1 h.2.2.2.2.2.1 h.2.2.2.2.2.2.1 h.2.2.2.2.2.2.2.1
noncomputable abbrev ap16{A0 A1 A2 A3 A4 A5 A6 A7 A8 A9 A10 A11 A12 A13 A14 A15 D R:Type}(f:A0→A1→A2→A3→A4→A5→A6→A7→A8→A9→A10→A11→A12→A13→A14→A15→R)(h:A0×A1×A2×A3×A4×A5×A6×A7×A8×A9×A10×A11×A12×A13×A14×A15×D):R:=f h.1 h.2.1 h.2.2.1 h.2.2.2.1 h.2.2.2.2.1 h.2.2.2.2.2.1 h.2.2.2.2.2.2.1 h.2.2.2.2.2.2.2.1 h.2.2.2.2.2.2.2.2.1 h.2.2.2.2.2.2.2.2.2.1 h.2.2.2.2.2.2.2.2.2.2.1 h.2.2.2.2.2.2.2.2.2.2.2.1 h.2.2.2.2.2.2.2.2.2.2.2.2.1 h.2.2.2.2.2.2.2.2.2.2.2.2.2.1 h.2.2.2.2.2.2.2.2.2.2.2.2.2.2.1 h.2.2.2.2.2.2.2.2.2.2.2.2.2.2.2.1
noncomputable abbrev ap22{A0 A1 A2 A3 A4 A5 A6 A7 A8 A9 A10 A11 A12 A13 A14 A15 A16 A17 A18 A19 A20 A21 D R:Type}(f:A0→A1→A2→A3→A4→A5→A6→A7→A8→A9→A10→A11→A12→A13→A14→A15→A16→A17→A18→A19→A20→A21→R)(h:A0×A1×A2×A3×A4×A5×A6×A7×A8×A9×A10×A11×A12×A13×A14×A15×A16×A17×A18×A19×A20×A21×D):R:=f h.1 h.2.1 h.2.2.1 h.2.2.2.1 h.2.2.2.2.1 h.2.2.2.2.2.1 h.2.2.2.2.2.2.1 h.2.2.2.2.2.2.2.1 h.2.2.2.2.2.2.2.2.1 h.2.2.2.2.2.2.2.2.2.1 h.2.2.2.2.2.2.2.2.2.2.1 h.2.2.2.2.2.2.2.2.2.2.2.1 h.2.2.2.2.2.2.2.2.2.2.2.2.1 h.2.2.2.2.2.2.2.2.2.2.2.2.2.1 h.2.2.2.2.2.2.2.2.2.2.2.2.2.2.1 h.2.2.2.2.2.2.2.2.2.2.2.2.2.2.2.1 h.2.2.2.2.2.2.2.2.2.2.2.2.2.2.2.2.1 h.2.2.2.2.2.2.2.2.2.2.2.2.2.2.2.2.2.1 h.2.2.2.2.2.2.2.2.2.2.2.2.2.2.2.2.2.2.1 h.2.2.2.2.2.2.2.2.2.2.2.2.2.2.2.2.2.2.2.1 h.2.2.2.2.2.2.2.2.2.2.2.2.2.2.2.2.2.2.2.2.1 h.2.2.2.2.2.2.2.2.2.2.2.2.2.2.2.2.2.2.2.2.2.1
theorem ls{n:Nat}(C:X.Cfg)(hT:tH E0 TT libB n C.TB){c:Ctr}(hE:C.E=E0:=by rfl)(h1:(TT c.f).isSome=true:=by kernel_rfl)(hg:∀h,X.runT aV C () ((TT c.f).getD CZ) c.outs (du c.ins _ h).1 (jW c.pts [] (du c.ins _ h).2).1=c.g h:=by intro h;kernel_rfl):Lk (n+1) c:=Cq (n:=n) (C:=C) hE hT (CD h1) hg
abbrev Uaa(t:Nat):Nat×Sh:=sP t I64
abbrev Xaa(t:Nat):Nat×Sh:=sP t .bool
abbrev Zaa(t r:Nat):Nat×Sh:=(t,.pk ⟨r,0,[]⟩ [0,0])
abbrev uaa(t:CT):CT:=.row true t
abbrev yaa(t:CT):CT:=.row false t
abbrev zaa(t:Nat):Nat×Sh:=pP t (2*t+2)
abbrev uab:List Sh:=uL [RI,I64]
abbrev yab:List Sh:=uL [(yaa cV),(yaa gU)]
abbrev zab:List Sh:=uL [.bool]
abbrev Uab:List Sh:=uL [(uaa (.pair I64 I64))]
abbrev Xab:List Sh:=uL [N1,N1]
abbrev Zab:List Sh:=uL [(uaa (uaa KCn)),(uaa lT)]
abbrev uac:List Sh:=uL [I64]
abbrev yac:List Sh:=uL [I64,I64]
abbrev zac:List Sh:=uL [I64,I64,cV,I64,I64,I64,I64,I64,I64,CW,cV]
abbrev Uac:List Sh:=uL [(uaa I64)]
abbrev Xac:List Sh:=uL [(uaa (.pair I64 I64)),I64]
abbrev Zac:List Sh:=uL [I64,I64,I64,I64,I64,I64,CW,cV]
abbrev uad:List Sh:=uL [I64,I64,I64,I64,I64,I64,CW,(uaa KCn)]
abbrev yad:List Sh:=uL [(uaa (uaa KCn)),N1]
abbrev zad:List Sh:=uL [(yaa (.pair I64 I64))]
abbrev Uad:List Sh:=uL [(uaa KCn)]
abbrev Xad:List Sh:=uL [(yaa cV),(uaa lT)]
def cx(a0:LDCe):Option (LDCe×Unit):=
bif (bZ 16 0 a0.length) then let x0:LDCe:=(List.append [] a0);
some (x0,()) else none
def iy:X.Cfg:=⟨E0,[],[],[]⟩
def eP:Ctr:=⟨35,0,zad,[],[⟨Uab,[.one],[]⟩],ap1 cx⟩
theorem iv:Lk 1 eP:=ls iy aN
def eQ:Ctr:=⟨32,1,[.fn 33 [],shU (yaa (.pair I64 I64))],[],[⟨zad,[.one],[]⟩],ap1 cy⟩
theorem iw:Lvl E0 TT libB 1 eQ:=(AX (BF rfl) gI).mono (by decide)
def gE(a0:LDCe) (a1:Int) (a2:Int):Option (LDCe×Unit):=
(cx a0).bind λ(x0,_)=>
let x1:LDCe:=[(a1,a2)];
bif (bZ 16 x0.length x1.length) then let x2:LDCe:=(List.append x0 x1);
(cy x2).bind λ(x3,_)=>
some (x3,()) else none
def rD:X.Cfg:=⟨E0,[eP,eQ],[],[]⟩
def m6:Ctr:=⟨13,2,[shU (yaa (.pair I64 I64)),.agg yac],[],[⟨zad,[.one],[]⟩],ap3 gE⟩
theorem rp:Lk 2 m6:=ls rD (aC iv (aC iw aN))
def bL:LDCe×T02->Option ((LDCe×T02)⊕((Bool×Unit)⊕(LDCe×LDCe×T00))):=λ(v0,v1,v2,_)=>
let x0:=bd v0.length;
bif decide (v2 < x0) then ((dN v2).bind λx1=>
(cw v0 x1).bind λx2=>
(dN v2).bind λx3=>
(cw v1 x3).bind λx4=>
bif (!((x2.1==x4.1) && ((x2.2==x4.2) && true))) then (some (.inr (.inl (false,())))) else
let x5:=w64 (v2+1);
some (.inl (v0,v1,x5,()))) else
some (.inr (.inr (v0,v1,v2,false,())))
def dI(a0:LDCe) (a1:LDCe):Option (Bool×Unit):=
let x0:=bd a0.length;
let x1:=bd a1.length;
bif (x0 != x1) then (some (false,())) else
(match bq bL NN (a0,a1,0,()) with
| none=>none
| some (.inl (x2,_))=>
some (x2,())
| some (.inr (x2,_))=>
some (true,()))
def p8:X.Cfg:=⟨E0,[],[],[⟨6,0,qS [sP 0 (yaa (.pair I64 I64)),sP 1 (yaa (.pair I64 I64)),Uaa 5] [],[(.ret,qS [Xaa 4] []),(.exit 0,qS [sP 0 (yaa (.pair I64 I64)),sP 1 (yaa (.pair I64 I64)),Uaa 5,Xaa 14] [])]⟩]⟩
def iC:Ctr:=⟨11,3,uL [(yaa (.pair I64 I64)),(yaa (.pair I64 I64))],[],[⟨zab,[.one],[]⟩],ap2 dI⟩
theorem kY:Lk 1 iC:=ls p8 aN
def cd:Option (Bool×Unit):=
let x0:LDCe:=[(0,1),((-1),0)];
(gE x0 1 0).bind λ(x1,_)=>
let x2:LDCe:=[(0,1),(1,0),((-1),0)];
(dI x1 x2).bind λ(x3,_)=>
some (x3,())
def oZ:X.Cfg:=⟨E0,[m6,iC],[],[]⟩
def j6:Ctr:=⟨8,4,[],[],[⟨zab,[.one],[]⟩],λh=>cd⟩
theorem oM:Lk 3 j6:=ls oZ (aC rp (aC kY aN))
def dT(a0:Int):Option (Bool×Unit):=
bif decide (a0>=1) then (some ((decide (a0<=32)),())) else
some (false,())
def oV:X.Cfg:=⟨E0,[],[],[]⟩
def gO:Ctr:=⟨71,13,uac,[],[⟨zab,[.one],[]⟩],ap1 dT⟩
theorem jO:Lk 1 gO:=ls oV aN
def dD(a0:LDCn):Option (Bool×Unit):=
let x0:=bd a0.length;
(dT x0).bind λ(x1,_)=>
some ((!x1),())
def ly:X.Cfg:=⟨E0,[gO],[],[]⟩
def g6:Ctr:=⟨70,14,uL [cV],[],[⟨zab,[.one],[]⟩],ap1 dD⟩
theorem lr:Lk 2 g6:=ls ly (aC jO aN)
def bc:LLCn×T01->Option ((LLCn×T01)⊕((Int×Unit)⊕(LLCn×T05))):=λ(v0,v1,v2,_)=>
bif decide (v2 < v1) then ((dN v2).bind λx0=>
(cw v0 x0).bind λx1=>
(dD x1).bind λ(x2,_)=>
bif x2 then (some (.inr (.inl (v2,())))) else
let x3:=w64 (v2+1);
some (.inl (v0,v1,x3,()))) else
some (.inr (.inr (v0,v1,v2,false,())))
def cN(a0:List LDCn):Option (Int×Unit):=
let x0:=bd a0.length;
(match bq bc NN (a0,x0,0,()) with
| none=>none
| some (.inl (x1,_))=>
some (x1,())
| some (.inr (x1,_))=>
some ((-1),()))
def gw:X.Cfg:=⟨E0,[g6],[],[⟨3,0,(qS [sP 0 (yaa cV),(1,.fn 70 []),Uaa 7,Uaa 8] []),[(.ret,qS [Uaa 4] []),(.exit 0,(qS [sP 0 (yaa cV),(1,.fn 70 []),Uaa 7,Uaa 8,Xaa 9] []))]⟩]⟩
def dL:Ctr:=⟨87,15,[shU (yaa cV),.fn 70 []],[],[⟨uac,[.one],[]⟩],ap1 cN⟩
theorem gu:Lk 3 dL:=ls gw (aC lr aN)
def bK(a0:List LDCn):Option (Bool×Unit):=
(cN a0).bind λ(x0,_)=>
some ((decide (x0>=0)),())
def fF:X.Cfg:=⟨E0,[dL],[],[]⟩
def dg:Ctr:=⟨69,16,[shU (yaa cV),.fn 70 []],[],[⟨zab,[.one],[]⟩],ap1 bK⟩
theorem fE:Lk 4 dg:=ls fF (aC gu aN)
def eC(a0:List LDCn) (a1:LDTs):Option (Bool×Unit):=
let x0:=bd a0.length;
bif decide (x0<=4) then (let x1:Int:=(bd a1.length);
bif decide (x1<=4) then ((bK a0).bind λ(x2,_)=>
some ((!x2),())) else
some (false,())) else
some (false,())
def nv:X.Cfg:=⟨E0,[dg],[],[]⟩
def je:Ctr:=⟨60,17,[.agg yab],[],[⟨zab,[.one],[]⟩],ap2 eC⟩
theorem nk:Lk 5 je:=ls nv (aC fE aN)
def b7:LLCn×Int×T0a->Option ((LLCn×Int×T0a)⊕(LLCn×Int×Int×Bool×T08)):=λ(v0,v1,v2,v3,v4,v5,_)=>
bif decide (v2 < v1) then ((dN v2).bind λx0=>
(cw v0 x0).bind λx1=>
let x2:=bd x1.length;
bif (bZ 8 v5.length (List.length [x2])) then let x3:List (Int):=(List.append v5 [x2]);
let x4:=w64 (v2+1);
some (.inl (v0,v1,x4,v3,v4,x3,())) else none) else
some (.inr (v0,v1,v2,false,v3,v4,v5,()))
def dh(a0:List LDCn) (a1:LDTs):Option (LI×Unit):=
let x0:=bd a0.length;
(bq b7 NN (a0,x0,0,a0,a1,[],())).bind λ(x1,x2,x3,x4,x5,x6,x7,_)=>
some (x7,())
def oW:X.Cfg:=⟨E0,[],[],[(lx 4 0 [Zaa 3 9,sP 7 (yaa cV),Uaa 8,Uaa 9] [(4,yab),(9,Uac)] 10)]⟩
def gP:Ctr:=⟨41,18,[.agg yab],[],[⟨Uac,[.one],[]⟩],ap2 dh⟩
theorem jP:Lk 1 gP:=ls oW aN
def eD(a0:Int):Option (Bool×Unit):=
(dT a0).bind λ(x0,_)=>
some ((!x0),())
def nw:X.Cfg:=⟨E0,[gO],[],[]⟩
def jf:Ctr:=⟨73,19,uac,[],[⟨zab,[.one],[]⟩],ap1 eD⟩
theorem nn:Lk 2 jf:=ls nw (aC jO aN)
def bo:T07->Option (T07⊕((Int×Unit)⊕T0b)):=λ(v0,v1,v2,_)=>
bif decide (v2 < v1) then ((dN v2).bind λx0=>
(cw v0 x0).bind λx1=>
(eD x1).bind λ(x2,_)=>
bif x2 then (some (.inr (.inl (v2,())))) else
let x3:=w64 (v2+1);
some (.inl (v0,v1,x3,()))) else
some (.inr (.inr (v0,v1,v2,false,())))
def c7(a0:List (Int)):Option (Int×Unit):=
let x0:=bd a0.length;
(match bq bo NN (a0,x0,0,()) with
| none=>none
| some (.inl (x1,_))=>
some (x1,())
| some (.inr (x1,_))=>
some ((-1),()))
def hY:X.Cfg:=⟨E0,[jf],[],[⟨3,0,(qS [sP 0 RI,(1,.fn 73 []),Uaa 7,Uaa 8] []),[(.ret,qS [Uaa 4] []),(.exit 0,(qS [sP 0 RI,(1,.fn 73 []),Uaa 7,Uaa 8,Xaa 9] []))]⟩]⟩
def ej:Ctr:=⟨88,20,[shU RI,.fn 73 []],[],[⟨uac,[.one],[]⟩],ap1 c7⟩
theorem hJ:Lk 3 ej:=ls hY (aC nn aN)
def bR(a0:List (Int)):Option (Bool×Unit):=
(c7 a0).bind λ(x0,_)=>
some ((decide (x0>=0)),())
def gc:X.Cfg:=⟨E0,[ej],[],[]⟩
def dw:Ctr:=⟨72,21,[shU RI,.fn 73 []],[],[⟨zab,[.one],[]⟩],ap1 bR⟩
theorem gb:Lk 4 dw:=ls gc (aC hJ aN)
def bY:T0x->Option (T0x⊕(Int×Int×Int×Int×T0k)):=λ(v0,v1,v2,v3,v4,v5,v6,v7,_)=>
let x0:=w64 (v3*8);
bif decide (x0 < v2) then (let x1:LDCe:=[(v1,v3)];
bif (bZ 16 v7.length x1.length) then let x2:LDCe:=(List.append v7 x1);
let x3:=w64 (v3+1);
some (.inl (v0,v1,v2,x3,v4,v5,v6,x2,())) else none) else
some (.inr (v0,v1,v2,v3,v4,v5,v6,false,v7,()))
def co:T0i->Option (T0i⊕(Int×T0k)):=λ(v0,v1,v2,v3,v4,_)=>
bif decide (v3 < v2) then ((dN v3).bind λx0=>
(cw v1 x0).bind λx1=>
(bq bY NN (v0,v3,x1,0,v1,v2,v3,v4,())).bind λ(x2,x3,x4,x5,x6,x7,x8,x9,ac,_)=>
let ae:=w64 (x8+1);
some (.inl (x2,x6,x7,ae,ac,()))) else
some (.inr (v0,v1,v2,v3,false,v4,()))
def bW:T06->Option (T06⊕T09):=λ(v0,v1,v2,_)=>
bif decide (v1 < v0) then (let x0:LDCe:=[((-1),v1)];
bif (bZ 16 v2.length x0.length) then let x1:LDCe:=(List.append v2 x0);
let x2:=w64 (v1+1);
some (.inl (v0,x2,x1,())) else none) else
some (.inr (v0,v1,false,v2,()))
def fP(a0:List (Int)) (a1:Int):Option (T02):=
let x0:=bd a0.length;
bif decide (x0 > 4) then (some ([],3,())) else
bif decide (a1 > 4) then (some ([],3,())) else
bif decide (a1 < 0) then (some ([],1,())) else
(bR a0).bind λ(x1,_)=>
bif x1 then (some ([],1,())) else
let x2:=bd a0.length;
(bq co NN (a1,a0,x2,0,[],())).bind λ(x3,x4,x5,x6,x7,x8,_)=>
(bq bW NN (x3,0,x8,())).bind λ(x9,ac,ae,af,_)=>
some (af,0,())
def qc:X.Cfg:=⟨E0,[dw],[],[⟨16,0,qS [Uaa 1,Zaa 6 15,Uaa 7,Uaa 8,Uaa 9,sP 24 RI,Uaa 25,Uaa 26] [(15,Uab)],[(.exit 2,qS [Uaa 1,Zaa 6 15,Uaa 7,Uaa 8,Uaa 9,sP 24 RI,Uaa 25,Uaa 26,Xaa 34] [(15,Uab)])]⟩,(lx 10 1 [Uaa 1,Zaa 6 15,sP 24 RI,Uaa 25,Uaa 26] [(15,Uab)] 27),⟨22,2,qS [Zaa 6 15,Uaa 44,Uaa 45] [(15,Uab)],[(.exit 4,qS [Zaa 6 15,Uaa 44,Uaa 45,Xaa 46] [(15,Uab)])]⟩]⟩
def lj:Ctr:=⟨61,22,uab,[],[⟨Xac,[.one,.one],[]⟩],ap2 fP⟩
theorem pX:Lk 5 lj:=ls qc (aC gb aN)
def ca(a0:LDCn):Option (LDCn×Unit):=
bif (bZ 24 0 a0.length) then let x0:LDCn:=(List.append [] a0);
some (x0,()) else none
def i5:X.Cfg:=⟨E0,[],[],[]⟩
def dn:Ctr:=⟨75,23,uL [cV],[],[⟨Uad,[.one],[]⟩],ap1 ca⟩
theorem eX:Lk 1 dn:=ls i5 aN
def gF(a0:Int) (a1:Int) (a2:Int) (a3:Int) (a4:Int) (a5:Int) (a6:Int) (a7:LDCn):Option (T0w):=
(ca a7).bind λ(x0,_)=>
some (a0,a1,a2,a3,a4,a5,a6,x0,())
def o4:X.Cfg:=⟨E0,[dn],[],[]⟩
def j7:Ctr:=⟨74,24,[.agg Zac],[],[⟨uad,[.agg 8],[]⟩],ap8 gF⟩
theorem oN:Lk 2 j7:=ls o4 (aC eX aN)
def ic(a0:LDCn) (a1:Int):Option (LDCn×Unit):=
(bif decide (a1 < 0) then (some (a0,a1,true,())) else
bif decide (a1 > 32) then (some (a0,a1,true,())) else
let x0:=w64 (a1*8);
let x1:=bd a0.length;
some (a0,a1,(decide (x0>=x1)),()):Option (LDCn×T00)).bind λ(x0,x1,x2,_)=>
bif x2 then (some ([],())) else
let x3:=w64 (x1*8);
let x4:=w64 (x3+8);
let x5:=bd x0.length;
let x6:=mmR false x4 x5;
(dN x3).bind λx7=>
(dN x6).bind λx8=>
bif (iX x7 x8 x0.length) then let x9:LDCn:=(Bt x0 x7 (Nat.sub x8 x7));
some (x9,()) else none
def qb:X.Cfg:=⟨E0,[],[],[⟨2,0,qE,[(.normal,qS [sP 0 cV,Uaa 1,Xaa 18] [])]⟩]⟩
def li:Ctr:=⟨76,25,uL [cV,I64],[],[⟨uL [cV],[.one],[]⟩],ap2 ic⟩
theorem pW:Lk 1 li:=ls qb aN
def fw(a0:List LDCn) (a1:LDTs) (a2:Int) (a3:Int):Option (Int×Int×LDCn×T0w):=
bif (a2==(-1)) then ((dN a3).bind λx0=>
(cw a1 x0).bind λx1=>
(gF x1.1 x1.2.1 x1.2.2.1 x1.2.2.2.1 x1.2.2.2.2.1 x1.2.2.2.2.2.1 x1.2.2.2.2.2.2.1 x1.2.2.2.2.2.2.2).bind λ(x2,x3,x4)=>
some (a2,a3,[],x2,x3,x4)) else
(dN a2).bind λx0=>
(cw a0 x0).bind λx1=>
(ic x1 a3).bind λ(x2,_)=>
(ca x2).bind λ(x3,_)=>
some (a2,a3,x3,0,0,0,0,0,0,0,[],())
def rB:X.Cfg:=⟨E0,[j7,li,dn],[],[]⟩
def mZ:Ctr:=⟨62,26,[.agg yab,.agg yac],[],[⟨zac,[.agg 11],[]⟩],ap4 fw⟩
theorem rn:Lk 3 mZ:=ls rB (aC oN (aC pW (aC eX aN)))
def cE:T0G->Option (T0G⊕(Int×T0F)):=λ(v0,v1,v2,v3,v4,v5,_)=>
bif decide (v1 < v0) then ((dN v1).bind λx0=>
(cw v4 x0).bind λx1=>
(cw v4 x0).bind λx2=>
(fw v2 v3 x2.1 x2.2).bind λ(x3,x4,x5,x6,x7,x8,x9,ac,ae,af,ag,_)=>
let ah:List (Int×Int×LDCn×Int×Int×Int×Int×Int×Int×Int×LDCn):=[(x3,(x4,(x5,(x6,(x7,(x8,(x9,(ac,(ae,(af,ag))))))))))];
bif (bZ 120 v5.length ah.length) then let aj:List (Int×Int×LDCn×Int×Int×Int×Int×Int×Int×Int×LDCn):=(List.append v5 ah);
let ak:=w64 (v1+1);
some (.inl (v0,ak,v2,v3,v4,aj,())) else none) else
some (.inr (v0,v1,false,v2,v3,v4,v5,()))
def dE(a0:List LDCn) (a1:LDTs):Option (T0C):=
(eC a0 a1).bind λ(x0,_)=>
bif (!x0) then (some ([],1,())) else
(dh a0 a1).bind λ(x1,_)=>
let x2:=bd a1.length;
(fP x1 x2).bind λ(x3,x4,_)=>
let x5:=bd x3.length;
(bq cE NN (x5,0,a0,a1,x3,[],())).bind λ(x6,x7,x8,x9,ac,ae,af,_)=>
some (af,0,())
def rC:X.Cfg:=⟨E0,[je,gP,lj,mZ],[(31,(.pair I64 (.pair I64 (.pair (uaa KCn) lT)))),(32,(.pair I64 (.pair I64 (.pair (uaa KCn) lT))))],[(lx 8 0 [zaa 1,Zaa 6 15,Zaa 21 11,Uaa 22,Uaa 23] [(4,yab),(11,Uab),(15,[shU (uaa (.pair I64 (.pair I64 (.pair cV gU))))])] 24)]⟩
def m0:Ctr:=⟨39,27,[.agg yab],[],[⟨[shU (uaa (.pair I64 (.pair I64 (.pair cV gU)))),shU I64],[.one,.one],[]⟩],ap2 dE⟩
theorem ro:Lk 6 m0:=ls rC (aC nk (aC jP (aC pX (aC rn aN))))
def bS:LI×T07->Option ((LI×T07)⊕((Bool×Unit)⊕(LI×T0b))):=λ(v0,v1,v2,v3,_)=>
bif decide (v3 < v2) then ((dN v3).bind λx0=>
(cw v0 x0).bind λx1=>
(dN v3).bind λx2=>
(cw v1 x2).bind λx3=>
bif (x1 != x3) then (some (.inr (.inl (false,())))) else
let x4:=w64 (v3+1);
some (.inl (v0,v1,v2,x4,()))) else
some (.inr (.inr (v0,v1,v2,v3,false,())))
def dc(a0:List (Int)) (a1:List (Int)):Option (Bool×Unit):=
let x0:=bd a0.length;
let x1:=bd a1.length;
bif (x0 != x1) then (some (false,())) else
let x2:=bd a0.length;
(match bq bS NN (a0,a1,x2,0,()) with
| none=>none
| some (.inl (x3,_))=>
some (x3,())
| some (.inr (x3,_))=>
some (true,()))
def jT:X.Cfg:=⟨E0,[],[],[⟨6,0,qS [sP 0 RI,sP 1 RI,Uaa 12,Uaa 13] [],[(.ret,qS [Xaa 4] []),(.exit 0,qS [sP 0 RI,sP 1 RI,Uaa 12,Uaa 13,Xaa 14] [])]⟩]⟩
def fY:Ctr:=⟨40,28,uL [RI,RI],[],[⟨zab,[.one],[]⟩],ap2 dc⟩
theorem jM:Lk 1 fY:=ls jT aN
def bJ:LDCn×LDCn×T01->Option ((LDCn×LDCn×T01)⊕((Bool×Unit)⊕(LDCn×LDCn×T05))):=λ(v0,v1,v2,v3,_)=>
bif decide (v3 < v2) then ((dN v3).bind λx0=>
(cw v0 x0).bind λx1=>
(dN v3).bind λx2=>
(cw v1 x2).bind λx3=>
let x4:Bool:=(!((x1.1==x3.1) && ((x1.2.1==x3.2.1) && ((x1.2.2.1==x3.2.2.1) && ((x1.2.2.2==x3.2.2.2) && true)))));
bif x4 then (some (.inr (.inl (false,())))) else
let x5:=w64 (v3+1);
some (.inl (v0,v1,v2,x5,()))) else
some (.inr (.inr (v0,v1,v2,v3,false,())))
def b9(a0:LDCn) (a1:LDCn):Option (Bool×Unit):=
let x0:=bd a0.length;
let x1:=bd a1.length;
bif (x0 != x1) then (some (false,())) else
let x2:=bd a0.length;
(match bq bJ NN (a0,a1,x2,0,()) with
| none=>none
| some (.inl (x3,_))=>
some (x3,())
| some (.inr (x3,_))=>
some (true,()))
def i4:X.Cfg:=⟨E0,[],[],[⟨6,0,qS [sP 0 cV,sP 1 cV,Uaa 12,Uaa 13] [],[(.ret,qS [Xaa 4] []),(.exit 0,qS [sP 0 cV,sP 1 cV,Uaa 12,Uaa 13,Xaa 14] [])]⟩]⟩
def eY:Ctr:=⟨63,29,uL [cV,cV],[],[⟨zab,[.one],[]⟩],ap2 b9⟩
theorem iZ:Lk 1 eY:=ls i4 aN
def fb(a0:Int) (a1:Int) (a2:LDCn) (a3:Int) (a4:Int) (a5:Int) (a6:Int) (a7:Int) (a8:Int) (a9:Int) (a10:LDCn) (a11:Int) (a12:Int) (a13:LDCn) (a14:Int) (a15:Int) (a16:Int) (a17:Int) (a18:Int) (a19:Int) (a20:Int) (a21:LDCn):Option (Bool×Unit):=
bif ((a0==a11) && ((a1==a12) && true)) then ((b9 a2 a13).bind λ(x0,_)=>
bif x0 then (bif (a3==a14) then (bif (a4==a15) then (bif (a5==a16) then (bif (a6==a17) then (bif (a7==a18) then (bif (a8==a19) then (bif (a9==a20) then ((b9 a10 a21).bind λ(x1,_)=>
some (x1,())) else
some (false,())) else
some (false,())) else
some (false,())) else
some (false,())) else
some (false,())) else
some (false,())) else
some (false,())) else
some (false,())) else
some (false,())
def oY:X.Cfg:=⟨E0,[eY],[],[]⟩
def j5:Ctr:=⟨42,30,[.agg zac,.agg zac],[],[⟨zab,[.one],[]⟩],ap22 fb⟩
theorem oL:Lk 2 j5:=ls oY (aC iZ aN)
def bN:T0M->Option (T0M⊕(Int×T0L)):=λ(v0,v1,v2,v3,v4,_)=>
bif decide (v1 < v0) then (((dN v1).bind λx0=>
(cw v2 x0).bind λx1=>
(cw v2 x0).bind λx2=>
(dN v1).bind λx3=>
(cw v3 x3).bind λx4=>
(cw v3 x3).bind λx5=>
(fb x2.1 x2.2.1 x2.2.2.1 x2.2.2.2.1 x2.2.2.2.2.1 x2.2.2.2.2.2.1 x2.2.2.2.2.2.2.1 x2.2.2.2.2.2.2.2.1 x2.2.2.2.2.2.2.2.2.1 x2.2.2.2.2.2.2.2.2.2.1 x2.2.2.2.2.2.2.2.2.2.2 x5.1 x5.2.1 x5.2.2.1 x5.2.2.2.1 x5.2.2.2.2.1 x5.2.2.2.2.2.1 x5.2.2.2.2.2.2.1 x5.2.2.2.2.2.2.2.1 x5.2.2.2.2.2.2.2.2.1 x5.2.2.2.2.2.2.2.2.2.1 x5.2.2.2.2.2.2.2.2.2.2).bind λ(x6,_)=>
bif (!x6) then ((dN v1).bind λx7=>
(cw v2 x7).bind λx8=>
(cw v2 x7).bind λx9=>
let ac:LDCe:=[(x9.1,x9.2.1)];
bif (bZ 16 v4.length ac.length) then let ae:LDCe:=(List.append v4 ac);
some (v0,v1,v2,v3,ae,()) else none) else
some (v0,v1,v2,v3,v4,()):Option (T0M)).bind λ(x0,x1,x2,x3,x4,_)=>
let x5:=w64 (x1+1);
some (.inl (x0,x5,x2,x3,x4,()))) else
some (.inr (v0,v1,false,v2,v3,v4,()))
def bG(a0:List LDCn) (a1:LDTs) (a2:List LDCn) (a3:LDTs):Option (T02):=
(dE a0 a1).bind λ(x0,x1,_)=>
(dE a2 a3).bind λ(x2,x3,_)=>
(bif (x1 != 0) then (some (true,x0,x2,())) else
bif (x3 != 0) then (some (true,x0,x2,())) else
(dh a0 a1).bind λ(x4,_)=>
(dh a2 a3).bind λ(x5,_)=>
(dc x4 x5).bind λ(x6,_)=>
bif (!x6) then (some (true,x0,x2,())) else
let x7:=bd a1.length;
let x8:=bd a3.length;
some ((x7 != x8),x0,x2,()):Option (Bool×(List (Int×Int×LDCn×Int×Int×Int×Int×Int×Int×Int×LDCn))×(List (Int×Int×LDCn×Int×Int×Int×Int×Int×Int×Int×LDCn))×Unit)).bind λ(x4,x5,x6,_)=>
bif x4 then (some ([],1,())) else
let x7:=bd x5.length;
(bq bN NN (x7,0,x5,x6,[],())).bind λ(x8,x9,ac,ae,af,ag,_)=>
some (ag,0,())
def mD:X.Cfg:=⟨E0,[m0,gP,fY,j5],[],[⟨4,0,qE,[(.normal,(qS [Zaa 6 15,Zaa 8 19,Xaa 44] [(15,[shU (uaa (.pair I64 (.pair I64 (.pair cV gU))))]),(19,[shU (uaa (.pair I64 (.pair I64 (.pair cV gU))))])]))]⟩,⟨12,1,qE,[(.normal,(qS [Zaa 6 15,Zaa 8 19,Zaa 10 23,Uaa 46,Uaa 47] [(15,[shU (uaa (.pair I64 (.pair I64 (.pair cV gU))))]),(19,[shU (uaa (.pair I64 (.pair I64 (.pair cV gU))))]),(23,Uab)]))]⟩,(lx 9 2 [Zaa 6 15,Zaa 8 19,Zaa 10 23,Uaa 46,Uaa 47] [(15,[shU (uaa (.pair I64 (.pair I64 (.pair cV gU))))]),(19,[shU (uaa (.pair I64 (.pair I64 (.pair cV gU))))]),(23,Uab)] 48)]⟩
def iF:Ctr:=⟨22,31,[.agg yab,.agg yab],[],[⟨Xac,[.one,.one],[]⟩],ap4 bG⟩
theorem mz:Lk 7 iF:=ls mD (aC ro (aC jP (aC jM (aC oL aN))))
def b6:T0a->Option (T0a⊕(Int×Bool×T08)):=λ(v0,v1,v2,v3,_)=>
let x0:=bd v1.length;
bif decide (v0 < x0) then ((dN v0).bind λx1=>
(cw v1 x1).bind λx2=>
let x3:=bd x2.length;
bif (bZ 8 v3.length (List.length [x3])) then let x4:List (Int):=(List.append v3 [x3]);
let x5:=w64 (v0+1);
some (.inl (x5,v1,v2,x4,())) else none) else
some (.inr (v0,false,v1,v2,v3,()))
def cT(a0:List LDCn) (a1:LDTs):Option (LI×Unit):=
(bq b6 NN (0,a0,a1,[],())).bind λ(x0,x1,x2,x3,x4,_)=>
some (x4,())
def oT:X.Cfg:=⟨E0,[],[],[(lx 4 0 [zaa 1,Zaa 3 9,Uaa 4] [(4,yab),(9,Uac)] 9)]⟩
def fe:Ctr:=⟨45,32,[.agg yab],[],[⟨Uac,[.one],[]⟩],ap2 cT⟩
theorem gJ:Lk 1 fe:=ls oT aN
def bH:T07->Option (T07⊕((Int×Unit)⊕T0b)):=λ(v0,v1,v2,_)=>
let x0:=bd v0.length;
bif decide (v2 < x0) then ((dN v2).bind λx1=>
(cw v0 x1).bind λx2=>
bif decide (x2 < 1) then (some (.inr (.inl (1,())))) else
(dN v2).bind λx3=>
(cw v0 x3).bind λx4=>
bif decide (x4 > 32) then (some (.inr (.inl (1,())))) else
let x5:=w64 (v2+1);
some (.inl (v0,v1,x5,()))) else
some (.inr (.inr (v0,v1,v2,false,())))
def dS(a0:List (Int)) (a1:Int):Option (Int×Unit):=
let x0:=bd a0.length;
bif decide (x0 > 4) then (some (3,())) else
bif decide (a1 > 4) then (some (3,())) else
(match bq bH NN (a0,a1,0,()) with
| none=>none
| some (.inl (x1,_))=>
some (x1,())
| some (.inr (x1,x2,_))=>
bif decide (x2 < 0) then (some (1,())) else
some (0,()))
def oS:X.Cfg:=⟨E0,[],[],[⟨6,0,qS [sP 0 RI,Uaa 1,Uaa 5] [],[(.ret,qS [Uaa 4] []),(.exit 0,qS [sP 0 RI,Uaa 1,Uaa 5,Xaa 16] [])]⟩]⟩
def gN:Ctr:=⟨64,33,uab,[],[⟨uac,[.one],[]⟩],ap2 dS⟩
theorem jN:Lk 1 gN:=ls oS aN
def cY(a0:List LDCn) (a1:LDTs):Option (Bool×Unit):=
(cT a0 a1).bind λ(x0,_)=>
let x1:=bd a1.length;
(dS x0 x1).bind λ(x2,_)=>
some ((x2==0),())
def nu:X.Cfg:=⟨E0,[fe,gN],[],[]⟩
def ge:Ctr:=⟨43,34,[.agg yab],[],[⟨zab,[.one],[]⟩],ap2 cY⟩
theorem ja:Lk 2 ge:=ls nu (aC gJ (aC jN aN))
def ch:LI×T03->Option ((LI×T03)⊕((Bool×Unit)⊕(LI×LI×T00))):=λ(v0,v1,v2,_)=>
let x0:=bd v0.length;
bif decide (v2 < x0) then ((dN v2).bind λx1=>
(cw v0 x1).bind λx2=>
(dN v2).bind λx3=>
(cw v1 x3).bind λx4=>
bif (x2 != x4) then (some (.inr (.inl (false,())))) else
let x5:=w64 (v2+1);
some (.inl (v0,v1,x5,()))) else
some (.inr (.inr (v0,v1,v2,false,())))
def dC(a0:List (Int)) (a1:List (Int)):Option (Bool×Unit):=
let x0:=bd a0.length;
let x1:=bd a1.length;
bif (x0 != x1) then (some (false,())) else
(match bq ch NN (a0,a1,0,()) with
| none=>none
| some (.inl (x2,_))=>
some (x2,())
| some (.inr (x2,_))=>
some (true,()))
def lu:X.Cfg:=⟨E0,[],[],[⟨6,0,qS [sP 0 RI,sP 1 RI,Uaa 5] [],[(.ret,qS [Xaa 4] []),(.exit 0,qS [sP 0 RI,sP 1 RI,Uaa 5,Xaa 14] [])]⟩]⟩
def gZ:Ctr:=⟨44,35,uL [RI,RI],[],[⟨zab,[.one],[]⟩],ap2 dC⟩
theorem lp:Lk 1 gZ:=ls lu aN
def bV:LI×Int×T06->Option ((LI×Int×T06)⊕(LI×Int×T09)):=λ(v0,v1,v2,v3,v4,_)=>
let x0:=w64 (v3*8);
(dN v2).bind λx1=>
(cw v0 x1).bind λx2=>
bif decide (x0 < x2) then (let x3:LDCe:=[(v2,v3)];
bif (bZ 16 v4.length x3.length) then let x4:LDCe:=(List.append v4 x3);
let x5:=w64 (v3+1);
some (.inl (v0,v1,v2,x5,x4,())) else none) else
some (.inr (v0,v1,v2,v3,false,v4,()))
def cj:T0c->Option (T0c⊕T0k):=λ(v0,v1,v2,v3,_)=>
let x0:=bd v0.length;
bif decide (v2 < x0) then ((bq bV NN (v0,v1,v2,0,v3,())).bind λ(x1,x2,x3,x4,x5,x6,_)=>
let x7:=w64 (x3+1);
some (.inl (x1,x2,x7,x6,()))) else
some (.inr (v0,v1,v2,false,v3,()))
def bU:T06->Option (T06⊕T09):=λ(v0,v1,v2,_)=>
bif decide (v1 < v0) then (let x0:LDCe:=[((-1),v1)];
bif (bZ 16 v2.length x0.length) then let x1:LDCe:=(List.append v2 x0);
let x2:=w64 (v1+1);
some (.inl (v0,x2,x1,())) else none) else
some (.inr (v0,v1,false,v2,()))
def fO(a0:List (Int)) (a1:Int):Option (T02):=
(dS a0 a1).bind λ(x0,_)=>
bif (x0 != 0) then (some ([],x0,())) else
(bq cj NN (a0,a1,0,[],())).bind λ(x1,x2,x3,x4,x5,_)=>
(bq bU NN (x2,0,x5,())).bind λ(x6,x7,x8,x9,_)=>
some (x9,0,())
def p9:X.Cfg:=⟨E0,[gN],[],[⟨13,0,qS [sP 0 RI,Uaa 1,Zaa 7 17,Uaa 8,Uaa 9] [(17,Uab)],[(.exit 2,qS [sP 0 RI,Uaa 1,Zaa 7 17,Uaa 8,Uaa 9,Xaa 29] [(17,Uab)])]⟩,(lx 8 1 [sP 0 RI,Uaa 1,Zaa 7 17,Uaa 8] [(17,Uab)] 20),⟨19,2,qS [Uaa 1,Zaa 7 17,Uaa 10] [(17,Uab)],[(.exit 4,qS [Uaa 1,Zaa 7 17,Uaa 10,Xaa 40] [(17,Uab)])]⟩]⟩
def lh:Ctr:=⟨65,36,uab,[],[⟨Xac,[.one,.one],[]⟩],ap2 fO⟩
theorem pV:Lk 2 lh:=ls p9 (aC jN aN)
def cC(a0:Int) (a1:Int) (a2:Int) (a3:Int) (a4:Int) (a5:Int) (a6:Int) (a7:LDCn):Option (T0w):=
bif (bZ 24 0 a7.length) then let x0:LDCn:=(List.append [] a7);
some (a0,a1,a2,a3,a4,a5,a6,x0,()) else none
def nq:X.Cfg:=⟨E0,[],[],[]⟩
def gd:Ctr:=⟨48,37,[.agg Zac],[],[⟨uad,[.agg 8],[]⟩],ap8 cC⟩
theorem i9:Lk 1 gd:=ls nq aN
def en(a0:List LDCn) (a1:LDTs) (a2:Int) (a3:Int):Option (Int×Int×LDCn×Int×Int×Int×Int×Int×Int×Int×LDCn×Int×Unit):=
(cY a0 a1).bind λ(x0,_)=>
bif (!x0) then (some (0,0,[],0,0,0,0,0,0,0,[],1,())) else
bif (a2==(-1)) then (bif decide (a3 < 0) then (some (0,0,[],0,0,0,0,0,0,0,[],30,())) else
let x1:=bd a1.length;
bif decide (a3>=x1) then (some (0,0,[],0,0,0,0,0,0,0,[],30,())) else
(dN a3).bind λx2=>
(cw a1 x2).bind λx3=>
(cC x3.1 x3.2.1 x3.2.2.1 x3.2.2.2.1 x3.2.2.2.2.1 x3.2.2.2.2.2.1 x3.2.2.2.2.2.2.1 x3.2.2.2.2.2.2.2).bind λ(x4,x5,x6,x7,x8,x9,ac,ae,_)=>
some (a2,a3,[],x4,x5,x6,x7,x8,x9,ac,ae,0,())) else
(bif decide (a2 < 0) then (some (true,a0,a1,a2,a3,0,0,(),0,0,0,0,0,0,0,(),())) else
let x1:=bd a0.length;
bif decide (a2>=x1) then (some (true,a0,a1,a2,a3,0,0,(),0,0,0,0,0,0,0,(),())) else
bif decide (a3 < 0) then (some (true,a0,a1,a2,a3,0,0,(),0,0,0,0,0,0,0,(),())) else
bif decide (a3 > 32) then (some (true,a0,a1,a2,a3,0,0,(),0,0,0,0,0,0,0,(),())) else
let x2:=w64 (a3*8);
(dN a2).bind λx3=>
(cw a0 x3).bind λx4=>
let x5:=bd x4.length;
some ((decide (x2>=x5)),a0,a1,a2,a3,0,0,(),0,0,0,0,0,0,0,(),()):Option (Bool×LLCn×LDTs×Int×Int×Int×Int×Unit×Int×Int×Int×Int×Int×Int×Int×Unit×Unit)).bind λ(x1,x2,x3,x4,x5,x6,x7,x8,x9,ac,ae,_)=>
bif x1 then (some (0,0,[],0,0,0,0,0,0,0,[],30,())) else
(dN x4).bind λam=>
(cw x2 am).bind λan=>
let ap:=w64 (x5*8);
let aq:=w64 (ap+8);
let au:=bd an.length;
let av:=mmR false aq au;
(dN ap).bind λaw=>
(dN av).bind λax=>
bif (iX aw ax an.length) then let ay:LDCn:=(Bt an aw (Nat.sub ax aw));
bif (bZ 24 0 ay.length) then let az:LDCn:=(List.append [] ay);
some (x4,x5,az,0,0,0,0,0,0,0,[],0,()) else none else none
def ry:X.Cfg:=⟨E0,[ge,gd],[],[⟨11,0,qE,[(.normal,(qS [zaa 2,zaa 3,zaa 4,Xaa 69] [(6,yab),(8,yac),(10,uL [I64,I64,N1,I64,I64,I64,I64,I64,I64,CW,N1])]))]⟩]⟩
def mW:Ctr:=⟨24,38,[.agg yab,.agg yac],[],[⟨uL [I64,I64,cV,I64,I64,I64,I64,I64,I64,CW,cV,I64],[.agg 11,.one],[]⟩],ap4 en⟩
theorem rk:Lk 3 mW:=ls ry (aC ja (aC i9 aN))
def cD:T0E->Option (T0E⊕T0F):=λ(v0,v1,v2,v3,v4,_)=>
let x0:=bd v3.length;
bif decide (v0 < x0) then ((dN v0).bind λx1=>
(cw v3 x1).bind λx2=>
(cw v3 x1).bind λx3=>
(en v1 v2 x3.1 x3.2).bind λ(x4,x5,x6,x7,x8,x9,ac,ae,af,ag,ah,aj,_)=>
let ak:List (Int×Int×LDCn×Int×Int×Int×Int×Int×Int×Int×LDCn):=[(x4,(x5,(x6,(x7,(x8,(x9,(ac,(ae,(af,(ag,ah))))))))))];
bif (bZ 120 v4.length ak.length) then let am:List (Int×Int×LDCn×Int×Int×Int×Int×Int×Int×Int×LDCn):=(List.append v4 ak);
let an:=w64 (v0+1);
some (.inl (an,v1,v2,v3,am,())) else none) else
some (.inr (v0,false,v1,v2,v3,v4,()))
def fu(a0:List LDCn) (a1:LDTs):Option (T0C):=
(cT a0 a1).bind λ(x0,_)=>
let x1:=bd a1.length;
(fO x0 x1).bind λ(x2,x3,_)=>
bif (x3 != 0) then (some ([],1,())) else
(bq cD NN (0,a0,a1,x2,[],())).bind λ(x4,x5,x6,x7,x8,x9,_)=>
some (x9,0,())
def rz:X.Cfg:=⟨E0,[fe,lh,mW],[(38,(.pair I64 (.pair I64 (.pair (uaa KCn) lT)))),(39,(.pair I64 (.pair I64 (.pair (uaa KCn) lT))))],[(lx 8 0 [zaa 1,Zaa 4 11,Zaa 6 15,Uaa 7] [(4,yab),(11,Uab),(15,[shU (uaa (.pair I64 (.pair I64 (.pair cV gU))))])] 24)]⟩
def mX:Ctr:=⟨46,39,[.agg yab],[],[⟨[shU (uaa (.pair I64 (.pair I64 (.pair cV gU)))),shU I64],[.one,.one],[]⟩],ap2 fu⟩
theorem rl:Lk 4 mX:=ls rz (aC gJ (aC pV (aC rk aN)))
def cb:LDCn×LDCn×Int×Unit->Option ((LDCn×LDCn×Int×Unit)⊕((Bool×Unit)⊕(LDCn×LDCn×T00))):=λ(v0,v1,v2,_)=>
let x0:=bd v0.length;
bif decide (v2 < x0) then ((dN v2).bind λx1=>
(cw v0 x1).bind λx2=>
(dN v2).bind λx3=>
(cw v1 x3).bind λx4=>
let x5:Bool:=(!((x2.1==x4.1) && ((x2.2.1==x4.2.1) && ((x2.2.2.1==x4.2.2.1) && ((x2.2.2.2==x4.2.2.2) && true)))));
bif x5 then (some (.inr (.inl (false,())))) else
let x6:=w64 (v2+1);
some (.inl (v0,v1,x6,()))) else
some (.inr (.inr (v0,v1,v2,false,())))
def cg(a0:LDCn) (a1:LDCn):Option (Bool×Unit):=
let x0:=bd a0.length;
let x1:=bd a1.length;
bif (x0 != x1) then (some (false,())) else
(match bq cb NN (a0,a1,0,()) with
| none=>none
| some (.inl (x2,_))=>
some (x2,())
| some (.inr (x2,_))=>
some (true,()))
def kF:X.Cfg:=⟨E0,[],[],[⟨6,0,qS [sP 0 cV,sP 1 cV,Uaa 5] [],[(.ret,qS [Xaa 4] []),(.exit 0,qS [sP 0 cV,sP 1 cV,Uaa 5,Xaa 14] [])]⟩]⟩
def eB:Ctr:=⟨51,40,uL [cV,cV],[],[⟨zab,[.one],[]⟩],ap2 cg⟩
theorem gv:Lk 1 eB:=ls kF aN
def cX(a0:Int) (a1:Int) (a2:Int) (a3:Int) (a4:Int) (a5:Int) (a6:Int) (a7:LDCn) (a8:Int) (a9:Int) (a10:Int) (a11:Int) (a12:Int) (a13:Int) (a14:Int) (a15:LDCn):Option (Bool×Unit):=
bif (a0==a8) then (bif (a1==a9) then (bif (a2==a10) then (bif (a3==a11) then (bif (a4==a12) then (bif (a5==a13) then (bif (a6==a14) then ((cg a7 a15).bind λ(x0,_)=>
some (x0,())) else
some (false,())) else
some (false,())) else
some (false,())) else
some (false,())) else
some (false,())) else
some (false,())) else
some (false,())
def lw:X.Cfg:=⟨E0,[eB],[],[]⟩
def g5:Ctr:=⟨52,41,[.agg Zac,.agg Zac],[],[⟨zab,[.one],[]⟩],ap16 cX⟩
theorem lq:Lk 2 g5:=ls lw (aC gv aN)
def fa(a0:Int) (a1:Int) (a2:LDCn) (a3:Int) (a4:Int) (a5:Int) (a6:Int) (a7:Int) (a8:Int) (a9:Int) (a10:LDCn) (a11:Int) (a12:Int) (a13:LDCn) (a14:Int) (a15:Int) (a16:Int) (a17:Int) (a18:Int) (a19:Int) (a20:Int) (a21:LDCn):Option (Bool×Unit):=
bif ((a0==a11) && ((a1==a12) && true)) then ((cg a2 a13).bind λ(x0,_)=>
bif x0 then ((cX a3 a4 a5 a6 a7 a8 a9 a10 a14 a15 a16 a17 a18 a19 a20 a21).bind λ(x1,_)=>
some (x1,())) else
some (false,())) else
some (false,())
def oU:X.Cfg:=⟨E0,[eB,g5],[],[]⟩
def j4:Ctr:=⟨47,42,[.agg zac,.agg zac],[],[⟨zab,[.one],[]⟩],ap22 fa⟩
theorem oK:Lk 3 j4:=ls oU (aC gv (aC lq aN))
def bM:T0K->Option (T0K⊕T0L):=λ(v0,v1,v2,v3,_)=>
let x0:=bd v1.length;
bif decide (v0 < x0) then (((dN v0).bind λx1=>
(cw v1 x1).bind λx2=>
(cw v1 x1).bind λx3=>
(dN v0).bind λx4=>
(cw v2 x4).bind λx5=>
(cw v2 x4).bind λx6=>
(fa x3.1 x3.2.1 x3.2.2.1 x3.2.2.2.1 x3.2.2.2.2.1 x3.2.2.2.2.2.1 x3.2.2.2.2.2.2.1 x3.2.2.2.2.2.2.2.1 x3.2.2.2.2.2.2.2.2.1 x3.2.2.2.2.2.2.2.2.2.1 x3.2.2.2.2.2.2.2.2.2.2 x6.1 x6.2.1 x6.2.2.1 x6.2.2.2.1 x6.2.2.2.2.1 x6.2.2.2.2.2.1 x6.2.2.2.2.2.2.1 x6.2.2.2.2.2.2.2.1 x6.2.2.2.2.2.2.2.2.1 x6.2.2.2.2.2.2.2.2.2.1 x6.2.2.2.2.2.2.2.2.2.2).bind λ(x7,_)=>
bif (!x7) then ((dN v0).bind λx8=>
(cw v1 x8).bind λx9=>
(cw v1 x8).bind λac=>
let ae:LDCe:=[(ac.1,ac.2.1)];
bif (bZ 16 v3.length ae.length) then let af:LDCe:=(List.append v3 ae);
some (v0,v1,v2,af,()) else none) else
some (v0,v1,v2,v3,()):Option (T0K)).bind λ(x1,x2,x3,x4,_)=>
let x5:=w64 (x1+1);
some (.inl (x5,x2,x3,x4,()))) else
some (.inr (v0,false,v1,v2,v3,()))
def bT(a0:List LDCn) (a1:LDTs) (a2:List LDCn) (a3:LDTs):Option (T02):=
((cY a0 a1).bind λ(x0,_)=>
bif (!x0) then (some (true,a0,a1,a2,a3,())) else
(cY a2 a3).bind λ(x1,_)=>
bif (!x1) then (some (true,a0,a1,a2,a3,())) else
(cT a0 a1).bind λ(x2,_)=>
(cT a2 a3).bind λ(x3,_)=>
(dC x2 x3).bind λ(x4,_)=>
bif (!x4) then (some (true,a0,a1,a2,a3,())) else
let x5:=bd a1.length;
let x6:=bd a3.length;
some ((x5 != x6),a0,a1,a2,a3,()):Option (T0h)).bind λ(x0,x1,x2,x3,x4,_)=>
bif x0 then (some ([],1,())) else
(fu x1 x2).bind λ(x5,x6,_)=>
(fu x3 x4).bind λ(x7,x8,_)=>
(bq bM NN (0,x5,x7,[],())).bind λ(x9,ac,ae,af,ag,_)=>
some (ag,0,())
def mC:X.Cfg:=⟨E0,[ge,fe,gZ,mX,j4],[],[⟨2,0,qE,[(.normal,qS [zaa 2,zaa 3,Xaa 36] [(6,yab),(8,yab)])]⟩,⟨12,1,qE,[(.normal,(qS [Zaa 6 15,Zaa 8 19,Zaa 10 23,Uaa 11] [(15,[shU (uaa (.pair I64 (.pair I64 (.pair cV gU))))]),(19,[shU (uaa (.pair I64 (.pair I64 (.pair cV gU))))]),(23,Uab)]))]⟩,(lx 9 2 [Zaa 6 15,Zaa 8 19,Zaa 10 23,Uaa 11] [(15,[shU (uaa (.pair I64 (.pair I64 (.pair cV gU))))]),(19,[shU (uaa (.pair I64 (.pair I64 (.pair cV gU))))]),(23,Uab)] 50)]⟩
def iD:Ctr:=⟨23,43,[.agg yab,.agg yab],[],[⟨Xac,[.one,.one],[]⟩],ap4 bT⟩
theorem my:Lk 5 iD:=ls mC (aC ja (aC gJ (aC lp (aC rl (aC oK aN)))))
def jt(a0:List (Int)):Option (Bool×Unit):=
let x0:=bd a0.length;
some ((decide (x0<=400)),())
def zd:X.Cfg:=⟨E0,[],[],[]⟩
def tB:Ctr:=⟨16,49,uL [RI],[],[⟨zab,[.one],[]⟩],ap1 jt⟩
theorem yV:Lk 1 tB:=ls zd aN
def ji(a0:Int) (a1:Int):Option (Int×Unit):=
bif (a1 != 0) then let x0:Int:=(Int.tmod a0 a1);
(bif decide (x0 < 0) then (let x1:Int:=(w64 (x0+a1));
some (x1,())) else
some (x0,()):Option (Int×Unit)).bind λ(x1,_)=>
some (x1,()) else none
def rA:X.Cfg:=⟨E0,[],[],[⟨2,0,qE,[(.normal,qS [Uaa 5] [])]⟩]⟩
def mY:Ctr:=⟨50,50,yac,[],[⟨uac,[.one],[]⟩],ap2 ji⟩
theorem rm:Lk 1 mY:=ls rA aN
def js(a0:Int) (a1:Int):Option (Int×Unit):=
(ji a0 a1).bind λ(x0,_)=>
some (x0,())
def y9:X.Cfg:=⟨E0,[mY],[],[]⟩
def tA:Ctr:=⟨26,51,yac,[],[⟨uac,[.one],[]⟩],ap2 js⟩
theorem yU:Lk 2 tA:=ls y9 (aC rm aN)
def be(a0:Int) (a1:List (Int)) (a2:Int):Option (Int×T03):=
let x0:=bd a1.length;
bif decide (a2>=x0) then (some (0,a1,a2,())) else
let x1:=w64 (a2+1);
let x2:=w64 (x1 - 1);
(dN x2).bind λx3=>
(cw a1 x3).bind λx4=>
(js x4 a0).bind λ(x5,_)=>
some (x5,a1,x1,())
def rE:X.Cfg:=⟨E0,[tA],[],[]⟩
def dH:Ctr:=⟨20,52,[.ptr ⟨2,0,[]⟩ [0],shU I64],[(2,uab)],[⟨uac,[.one],[(2,uab)]⟩],ap3 be⟩
theorem eA:Lk 3 dH:=ls rE (aC yU aN)
def df(a0:List (Int)) (a1:Int):Option (Int×Int×Int×Int×T03):=
(be 5 a0 a1).bind λ(x0,x1,x2,_)=>
bif (x0==4) then ((be 3 x1 x2).bind λ(x3,x4,x5,_)=>
(be 8 x4 x5).bind λ(x6,x7)=>
some (1,0,x3,x6,x7)) else
(be 40 x1 x2).bind λ(x3,x4,x5,_)=>
let x6:=wk .u16 x3;
some (0,x6,0,0,x4,x5,())
def p5:X.Cfg:=⟨E0,[dH],[],[]⟩
def fX:Ctr:=⟨36,53,[.ptr ⟨2,0,[]⟩ [0]],[(2,uab)],[⟨uL [CB,CW,I64,I64],[.agg 4],[(2,uab)]⟩],ap2 df⟩
theorem iu:Lk 4 fX:=ls p5 (aC eA aN)
def cM:T0I->Option (T0I⊕(Int×Bool×T0H)):=λ(v0,v1,v2,v3,v4,v5,v6,v7,v8,v9,v10,v11,v12,v13,v14,v15,v16,v17,v18,_)=>
bif decide (v0 < 8) then ((df v1 v2).bind λ(x0,x1,x2,x3,x4,x5,_)=>
let x6:LDCn:=[(x0,(x1,(x2,x3)))];
bif (bZ 24 v18.length x6.length) then let x7:LDCn:=(List.append v18 x6);
let x8:=w64 (v0+1);
some (.inl (x8,x4,x5,v3,v4,v5,v6,v7,v8,v9,v10,v11,v12,v13,v14,v15,v16,v17,x7,())) else none) else
some (.inr (v0,false,v1,v2,v3,v4,v5,v6,v7,v8,v9,v10,v11,v12,v13,v14,v15,v16,v17,v18,()))
def eJ(a0:List (Int)) (a1:Int):Option (Int×Int×Int×Int×Int×Int×Int×LDCn×T03):=
(be 5 a0 a1).bind λ(x0,x1,x2,_)=>
(be 20 x1 x2).bind λ(x3,x4,x5,_)=>
(be 30 x4 x5).bind λ(x6,x7,x8,_)=>
(be 4 x7 x8).bind λ(x9,ac,ae,_)=>
let af:=w64 (x9 - 1);
(be 4 ac ae).bind λ(ag,ah,aj,_)=>
let ak:=w64 (ag - 1);
(be 7 ah aj).bind λ(am,an,ap,_)=>
(be 9 an ap).bind λ(aq,au,av,_)=>
let aw:=wk .u16 aq;
(bq cM NN (0,au,av,0,0,0,0,0,0,0,(),x0,x3,x6,af,ak,am,aw,[],())).bind λ(ax,ay,az,aA,aB,aD,aE,aF,aG,aH,aI,aJ,aK,aL,aM,aO,aP,aQ,aR,aS,_)=>
some (aK,aL,aM,aO,aP,aQ,aR,aS,az,aA,())
def p6:X.Cfg:=⟨E0,[dH,fX],[],[(lx 4 0 [zaa 0,zaa 2,zaa 3,Uaa 4] [(2,uab),(6,uL [I64,I64,I64,I64,I64,I64,CW,N1]),(8,uad)] 24)]⟩
def iB:Ctr:=⟨37,54,[.ptr ⟨2,0,[]⟩ [0]],[(2,uab)],[⟨uad,[.agg 8],[(2,uab)]⟩],ap2 eJ⟩
theorem kX:Lk 5 iB:=ls p6 (aC eA (aC iu aN))
def dB:T0A->Option (T0A⊕(Int×Int×Bool×T0t)):=λ(v0,v1,v2,v3,v4,v5,v6,v7,v8,_)=>
bif decide (v1>=0) then ((df v2 v3).bind λ(x0,x1,x2,x3,x4,x5,_)=>
let x6:LDCn:=[(x0,(x1,(x2,x3)))];
bif (bZ 24 v8.length x6.length) then let x7:LDCn:=(List.append v8 x6);
let x8:=w64 (v1 - 1);
some (.inl (v0,x8,x4,x5,v4,v5,v6,v7,x7,())) else none) else
some (.inr (v0,v1,false,v2,v3,v4,v5,v6,v7,v8,()))
def dA:T0q->Option (T0q⊕(Int×Bool×T0m)):=λ(v0,v1,v2,v3,v4,v5,v6,_)=>
bif decide (v0>=0) then ((be 24 v1 v2).bind λ(x0,x1,x2,_)=>
(bq dB NN (v0,x0,x1,x2,v3,v4,v5,v6,[],())).bind λ(x3,x4,x5,x6,x7,x8,x9,ac,ae,af,_)=>
bif (bZ 24 ac.length (List.length [af])) then let ag:List LDCn:=(List.append ac [af]);
let ah:=w64 (x3 - 1);
some (.inl (ah,x6,x7,x8,x9,ag,ae,())) else none) else
some (.inr (v0,false,v1,v2,v3,v4,v5,v6,()))
def dz:T0p->Option (T0p⊕T0v):=λ(v0,v1,v2,v3,v4,v5,v6,_)=>
bif decide (v0 > 0) then ((eJ v1 v2).bind λ(x0,x1,x2,x3,x4,x5,x6,x7,x8,x9,_)=>
let ac:LDTs:=[(x0,(x1,(x2,(x3,(x4,(x5,(x6,x7)))))))];
bif (bZ 80 v6.length ac.length) then let ae:LDTs:=(List.append v6 ac);
let af:=w64 (v0 - 1);
some (.inl (af,x8,x9,v3,v4,v5,ae,())) else none) else
some (.inr (v0,false,v1,v2,v3,v4,v5,v6,()))
def dR(a0:List (Int)) (a1:Int):Option (T0d):=
(be 3 a0 a1).bind λ(x0,x1,x2,_)=>
(bq dA NN (x0,x1,x2,(),(),[],(),())).bind λ(x3,x4,x5,x6,x7,x8,x9,ac,_)=>
(be 4 x5 x6).bind λ(ae,af,ag,_)=>
(bq dz NN (ae,af,ag,x7,x8,x9,[],())).bind λ(ah,aj,ak,am,an,ap,aq,au,_)=>
some (aq,au,ak,am,())
def oR:X.Cfg:=⟨E0,[dH,fX,iB],[(28,(uaa KCn)),(29,(uaa KCn)),(41,lT),(42,lT)],[⟨11,0,qS [zaa 0,zaa 2,zaa 3,Uaa 4,Zaa 5 13,Uaa 6] [(2,uab),(6,Xab),(8,yad),(13,Uad)],[(.exit 2,qS [zaa 0,zaa 2,zaa 3,Uaa 4,Zaa 5 13,Uaa 6,Xaa 17] [(2,uab),(6,Xab),(8,yad),(13,Uad)])]⟩,(lx 4 1 [zaa 0,zaa 2,zaa 3,Uaa 4] [(2,uab),(6,Xab),(8,yad)] 11),⟨17,2,qS [zaa 0,zaa 2,zaa 3,Uaa 7] [(2,uab),(6,Xab),(8,Zab)],[(.exit 4,qS [zaa 0,zaa 2,zaa 3,Uaa 7,Xaa 34] [(2,uab),(6,Xab),(8,Zab)])]⟩]⟩
def j3:Ctr:=⟨18,55,[.ptr ⟨2,0,[]⟩ [0]],[(2,uab)],[⟨Zab,[.agg 2],[(2,uab)]⟩],ap2 dR⟩
theorem oJ:Lk 6 j3:=ls oR (aC eA (aC iu (aC kX aN)))
def cn:T0s->Option (T0s⊕(Int×Bool×T0o)):=λ(v0,v1,v2,v3,v4,v5,v6,_)=>
let x0:=bd v1.length;
bif decide (v0 < x0) then ((dN v0).bind λx1=>
(cw v1 x1).bind λx2=>
bif (bZ 24 0 x2.length) then let x3:LDCn:=(List.append [] x2);
bif (bZ 24 v5.length (List.length [x3])) then let x4:List LDCn:=(List.append v5 [x3]);
let x5:=w64 (v0+1);
some (.inl (x5,v1,v2,v3,v4,x4,v6,())) else none else none) else
some (.inr (v0,false,v1,v2,v3,v4,v5,v6,()))
def cl:T0r->Option (T0r⊕(Int×Bool×T0n)):=λ(v0,v1,v2,v3,v4,v5,v6,_)=>
let x0:=bd v2.length;
bif decide (v0 < x0) then ((dN v0).bind λx1=>
(cw v2 x1).bind λx2=>
(cC x2.1 x2.2.1 x2.2.2.1 x2.2.2.2.1 x2.2.2.2.2.1 x2.2.2.2.2.2.1 x2.2.2.2.2.2.2.1 x2.2.2.2.2.2.2.2).bind λ(x3,x4,x5,x6,x7,x8,x9,ac,_)=>
let ae:LDTs:=[(x3,(x4,(x5,(x6,(x7,(x8,(x9,ac)))))))];
bif (bZ 80 v6.length ae.length) then let af:LDTs:=(List.append v6 ae);
let ag:=w64 (v0+1);
some (.inl (ag,v1,v2,v3,v4,v5,af,())) else none) else
some (.inr (v0,false,v1,v2,v3,v4,v5,v6,()))
def dJ(a0:List LDCn) (a1:LDTs):Option (T04):=
(bq cn NN (0,a0,a1,(),(),[],(),())).bind λ(x0,x1,x2,x3,x4,x5,x6,x7,_)=>
(bq cl NN (0,x2,x3,x4,x5,x6,[],())).bind λ(x8,x9,ac,ae,af,ag,ah)=>
some (ah)
def qa:X.Cfg:=⟨E0,[gd],[(22,(uaa KCn)),(23,(uaa KCn)),(40,lT),(41,lT)],[(lx 4 0 [zaa 1,zaa 2,zaa 3,Uaa 4] [(4,yab),(6,Xab),(8,yad)] 10),⟨10,1,qS [zaa 1,zaa 2,zaa 3,Uaa 5] [(4,yab),(6,Xab),(8,Zab)],[(.exit 2,qS [zaa 1,zaa 2,zaa 3,Uaa 5,Xaa 29] [(4,yab),(6,Xab),(8,Zab)])]⟩]⟩
def iE:Ctr:=⟨38,56,[.agg yab],[],[⟨Zab,[.agg 2],[]⟩],ap2 dJ⟩
theorem kZ:Lk 2 iE:=ls qa (aC i9 aN)
def ft:T0y->Option (T0y⊕T0z):=λ(v0,v1,v2,v3,v4,v5,v6,v7,_)=>
bif decide (v1 < v0) then (((match (let x0:Int:=(bd v7.length);
bif decide (x0 > 0) then ((be 3 v2 v3).bind λ(x1,x2,x3,_)=>
bif (x1==2) then (let x4:Int:=(bd v7.length);
(be x4 x2 x3).bind λ(x5,x6,x7,_)=>
(eJ x6 x7).bind λ(x8,x9,ac,ae,af,ag,ah,aj,ak,am,_)=>
(dN x5).bind λan=>
(cw v7 an).bind λap=>
(cw v7 an).bind λaq=>
let au:=(List.modify v7 an λe=>(x8,(x9,(ac,(ae,(af,(ag,(ah,aj))))))));
some (.inl (v0,v1,ak,am,v4,v5,v6,au,()))) else
some (.inr (v0,v1,false,x2,x3,v4,v5,v6,v7,()))) else
some (.inr (v0,v1,false,v2,v3,v4,v5,v6,v7,())):Option (T0y⊕T0z)) with
| none=>none
| some (.inl (x0,x1,x2,x3,x4,x5,x6,x7,_))=>
some (x0,x1,x2,x3,x4,x5,x6,x7,())
| some (.inr (x0,x1,x2,x3,x4,x5,x6,x7,x8,_))=>
let x9:=bd x7.length;
(be x9 x3 x4).bind λ(ac,ae,af,_)=>
(dN ac).bind λag=>
(cw x7 ag).bind λah=>
(cw x7 ag).bind λaj=>
(dN ac).bind λak=>
(cw x7 ak).bind λam=>
(cw x7 ak).bind λan=>
(cw x7 ak).bind λap=>
let aq:=bd ap.length;
(be aq ae af).bind λ(au,av,aw,_)=>
(df av aw).bind λ(ax,ay,az,aA,aB,aD,_)=>
(dN au).bind λaE=>
(cw x7 ag).bind λaF=>
(cw aF aE).bind λaG=>
(cw x7 ag).bind λaH=>
(cw aH aE).bind λaI=>
let aJ:=(List.modify x7 ag λe=>(List.modify e aE λe=>(ax,(ay,(az,aA)))));
some (x0,x1,aB,aD,x5,x6,aJ,x8,())):Option (T0y)).bind λ(x0,x1,x2,x3,x4,x5,x6,x7,_)=>
let x8:=w64 (x1+1);
some (.inl (x0,x8,x2,x3,x4,x5,x6,x7,()))) else
some (.inr (v0,v1,false,v2,v3,v4,v5,v6,v7,()))
def eK(a0:List LDCn) (a1:LDTs) (a2:Int) (a3:List (Int)) (a4:Int):Option (T0d):=
(dJ a0 a1).bind λ(x0,x1,_)=>
(bq ft NN (a2,0,a3,a4,(),(),x0,x1,())).bind λ(x2,x3,x4,x5,x6,x7,x8,x9,ac,_)=>
some (x9,ac,x5,x6,())
def p7:X.Cfg:=⟨E0,[iE,dH,iB,fX],[],[⟨8,0,qE,[(.exit 1,qS [zaa 0,Uaa 2,zaa 6,zaa 7,Uaa 8] [(2,uab),(14,Xab),(16,Zab)]),(.normal,qS [zaa 0,Uaa 2,zaa 6,zaa 7,Uaa 8,Xaa 25] [(2,uab),(14,Xab),(16,Zab)])]⟩,⟨7,1,qE,[(.normal,qS [zaa 0,Uaa 2,zaa 6,zaa 7,Uaa 8] [(2,uab),(14,Xab),(16,Zab)])]⟩,(lx 4 2 [zaa 0,Uaa 2,zaa 6,zaa 7,Uaa 8] [(2,uab),(14,Xab),(16,Zab)] 14)]⟩
def lf:Ctr:=⟨19,57,[.ptr ⟨2,0,[]⟩ [0],.agg yab,shU I64],[(2,uab)],[⟨Zab,[.agg 2],[(2,uab)]⟩],ap5 eK⟩
theorem pU:Lk 6 lf:=ls p7 (aC kZ (aC eA (aC kX (aC iu aN))))
def pz(a0:Int) (a1:Int) (a2:Int) (a3:Int) (a4:Int) (a5:Int) (a6:Int) (a7:LDCn):Option (Bool×Unit):=
bif (a0==0) then (bif (a1==0) then (bif (a2==0) then (bif (a3==0) then (bif (a4==0) then (bif (a5==0) then (bif (a6==0) then (let x0:Int:=(bd a7.length);
some ((x0==0),())) else
some (false,())) else
some (false,())) else
some (false,())) else
some (false,())) else
some (false,())) else
some (false,())) else
some (false,())
def l7(a0:List LDCn) (a1:LDTs) (a2:Int) (a3:Int) (a4:LDCn) (a5:Int) (a6:Int) (a7:Int) (a8:Int) (a9:Int) (a10:Int) (a11:Int) (a12:LDCn):Option (LLCn×LDTs×Int×Unit):=
(en a0 a1 a2 a3).bind λ(x0,x1,x2,x3,x4,x5,x6,x7,x8,x9,ac,ae,_)=>
bif (ae != 0) then (some ([],[],ae,())) else
(let af:=bd a4.length;
let ag:=bd x2.length;
bif (af != ag) then (some (true,a0,a1,a2,a3,a4,a5,a6,a7,a8,a9,a10,a11,a12,(),(),())) else
bif (a2 != (-1)) then ((pz a5 a6 a7 a8 a9 a10 a11 a12).bind λ(ah,_)=>
some ((!ah),a0,a1,a2,a3,a4,a5,a6,a7,a8,a9,a10,a11,a12,(),(),())) else
some (false,a0,a1,a2,a3,a4,a5,a6,a7,a8,a9,a10,a11,a12,(),(),()):Option (Bool×LLCn×LDTs×Int×Int×LDCn×Int×Int×Int×Int×Int×Int×Int×LDCn×Unit×Unit×Unit)).bind λ(af,ag,ah,aj,ak,am,an,ap,aq,au,av,aw,ax,ay,az,aA,_)=>
bif af then (some ([],[],5,())) else
(dJ ag ah).bind λ(aB,aD,_)=>
bif (aj==(-1)) then ((cC an ap aq au av aw ax ay).bind λ(aE,aF,aG,aH,aI,aJ,aK,aL,_)=>
(dN ak).bind λaM=>
(cw aD aM).bind λaO=>
(cw aD aM).bind λaP=>
let aQ:=(List.modify aD aM λe=>(aE,(aF,(aG,(aH,(aI,(aJ,(aK,aL))))))));
some (aB,aQ,0,())) else
((dN aj).bind λaE=>
(cw aB aE).bind λaF=>
(cw aB aE).bind λaG=>
let aH:=w64 (ak*8);
(cw aB aE).bind λaI=>
(dN aH).bind λaJ=>
bif (iX aJ aI.length aI.length) then (cw aB aE).bind λaK=>
(cw aB aE).bind λaL=>
bif (iX aJ (Nat.add aJ (Nat.min am.length (Nat.sub aI.length aJ))) aL.length) then bif (Nat.blt 0 (Nat.min am.length (Nat.sub aI.length aJ))) then (let aM:List LDCn:=(List.modify aB aE λe=>(qQ aL aJ (Nat.min am.length (Nat.sub aI.length aJ)) am));
let aO:=(bd (Nat.min am.length (Nat.sub aI.length aJ)));
some (az,aA,aM,aD,())) else
let aM:=(bd (Nat.min am.length (Nat.sub aI.length aJ)));
some (az,aA,aB,aD,()) else none else none:Option (T0f)).bind λ(aE,aF,aG,aH,_)=>
some (aG,aH,0,())
def l9:T0j->Option (T0j⊕((Bool×Unit)⊕(Int×T0h))):=λ(v0,v1,v2,v3,v4,_)=>
let x0:=bd v1.length;
bif decide (v0 < x0) then ((dN v0).bind λx1=>
(cw v1 x1).bind λx2=>
(dN v0).bind λx3=>
(cw v3 x3).bind λx4=>
(cg x2 x4).bind λ(x5,_)=>
bif (!x5) then (some (.inr (.inl (false,())))) else
let x6:=w64 (v0+1);
some (.inl (x6,v1,v2,v3,v4,()))) else
some (.inr (.inr (v0,false,v1,v2,v3,v4,())))
def l8:T0j->Option (T0j⊕((Bool×Unit)⊕(Int×T0h))):=λ(v0,v1,v2,v3,v4,_)=>
let x0:=bd v2.length;
bif decide (v0 < x0) then ((dN v0).bind λx1=>
(cw v2 x1).bind λx2=>
(dN v0).bind λx3=>
(cw v4 x3).bind λx4=>
(cX x2.1 x2.2.1 x2.2.2.1 x2.2.2.2.1 x2.2.2.2.2.1 x2.2.2.2.2.2.1 x2.2.2.2.2.2.2.1 x2.2.2.2.2.2.2.2 x4.1 x4.2.1 x4.2.2.1 x4.2.2.2.1 x4.2.2.2.2.1 x4.2.2.2.2.2.1 x4.2.2.2.2.2.2.1 x4.2.2.2.2.2.2.2).bind λ(x5,_)=>
bif (!x5) then (some (.inr (.inl (false,())))) else
let x6:=w64 (v0+1);
some (.inl (x6,v1,v2,v3,v4,()))) else
some (.inr (.inr (v0,false,v1,v2,v3,v4,())))
def kO(a0:List LDCn) (a1:LDTs) (a2:List LDCn) (a3:LDTs):Option (Bool×Unit):=
let x0:=bd a0.length;
let x1:=bd a2.length;
bif (x0 != x1) then (some (false,())) else
let x2:=bd a1.length;
let x3:=bd a3.length;
bif (x2 != x3) then (some (false,())) else
(match bq l9 NN (0,a0,a1,a2,a3,()) with
| none=>none
| some (.inl (x4,_))=>
some (x4,())
| some (.inr (x4,x5,x6))=>
(match bq l8 NN (0,x6) with
| none=>none
| some (.inl (ac,_))=>
some (ac,())
| some (.inr (ac,_))=>
some (true,())))
def g9:T0B->Option (T0B⊕(Int×Int×Bool×T0u)):=λ(v0,v1,v2,v3,v4,v5,v6,v7,v8,_)=>
let x0:=bd v4.length;
bif decide (v1 < x0) then ((dN v1).bind λx1=>
(cw v4 x1).bind λx2=>
(cw v4 x1).bind λx3=>
(en v2 v3 x3.1 x3.2).bind λ(x4,x5,x6,x7,x8,x9,ac,ae,af,ag,ah,aj,_)=>
bif (aj != 0) then (none) else
(l7 v5 v6 x4 x5 x6 x7 x8 x9 ac ae af ag ah).bind λ(ak,am,an,_)=>
let ap:=bd v4.length;
(js v0 ap).bind λ(aq,_)=>
bif (v1 != aq) then ((l7 v7 v8 x4 x5 x6 x7 x8 x9 ac ae af ag ah).bind λ(au,av,aw,_)=>
let ax:=w64 (v1+1);
some (.inl (v0,ax,v2,v3,v4,ak,am,au,av,()))) else
let au:=w64 (v1+1);
some (.inl (v0,au,v2,v3,v4,ak,am,v7,v8,()))) else
some (.inr (v0,v1,false,v2,v3,v4,v5,v6,v7,v8,()))
def qO(a0:List (Int)) (a1:Int):Option (Bool×Unit):=
(jt a0).bind λ(x0,_)=>
bif (!x0) then ((cd).bind λ(x1,_)=>
some (x1,())) else
(dR a0 0).bind λ(x1,x2,x3,x4,_)=>
(be 6 x3 x4).bind λ(x5,x6,x7,_)=>
(eK x1 x2 x5 x6 x7).bind λ(x8,x9,_)=>
(bG x1 x2 x8 x9).bind λ(af,ag,_)=>
(bG x1 x2 x1 x2).bind λ(ah,aj,_)=>
(bif (ag != 0) then (some (a1,true,x1,x2,x8,x9,af,())) else
bif (aj != 0) then (some (a1,true,x1,x2,x8,x9,af,())) else
let ak:=bd ah.length;
some (a1,(ak != 0),x1,x2,x8,x9,af,()):Option (Int×Bool×LLCn×LDTs×LLCn×LDTs×LDCe×Unit)).bind λ(ak,am,an,ap,aq,au,av,_)=>
bif am then (some (false,())) else
(bq g9 NN (ak,0,aq,au,av,an,ap,an,ap,())).bind λ(aw,ax,ay,az,aA,aB,aD,aE,aF,aG,_)=>
(kO aD aE az aA).bind λ(aH,_)=>
bif aH then (let aI:Int:=(bd aB.length);
bif (aI==0) then ((cd).bind λ(aJ,_)=>
some (aJ,())) else
(kO aF aG az aA).bind λ(aJ,_)=>
bif (!aJ) then ((cd).bind λ(aK,_)=>
some (aK,())) else
some (false,())) else
some (false,())
def gD(a0:List LDCn) (a1:LDTs) (a2:List (Int)) (a3:Int):Option (T0d):=
(dJ a0 a1).bind λ(x0,x1,_)=>
(match ((be 4 a2 a3).bind λ(x2,x3,x4,_)=>
bif (x2==0) then (bif (bZ 24 x0.length (List.length [([]:List Unit)])) then let x5:List LDCn:=(List.append x0 [[]]);
some (.inl (x3,x4,(),(),x5,x1,())) else none) else
bif (x2==1) then ((cw x0 0).bind λx5=>
(cw x0 0).bind λx6=>
(be 40 x3 x4).bind λ(x7,x8,x9,_)=>
(dN x7).bind λac=>
(cw x0 0).bind λae=>
bif (bZ 24 ae.length (List.length (List.replicate ac ((0,(0,(0,0))):DCn)))) then let af:LDCn:=(List.append ae (List.replicate ac (0,(0,(0,0)))));
(cw x0 0).bind λag=>
(cw x0 0).bind λah=>
let aj:=List.modify x0 0 λe=>af;
some (.inl (x8,x9,(),(),aj,x1,())) else none) else
bif (x2==2) then (let x5:LDTs:=[(0,(0,(0,(0,(0,(0,(0,[])))))))];
bif (bZ 80 x1.length x5.length) then let x6:LDTs:=(List.append x1 x5);
some (.inl (x3,x4,(),(),x0,x6,())) else none) else
bif (iX 1 x0.length x0.length) then let x5:List LDCn:=(Bt x0 1 (Nat.sub x0.length 1));
some (.inr (x3,x4,(),(),x5,x1,())) else none:Option (T0l⊕T0l)) with
| none=>none
| some (.inl (x2,x3,x4,x5,x6,x7,_))=>
some (x6,x7,x2,x3,())
| some (.inr (x2,x3,x4,x5,x6,x7,_))=>
some (x6,x7,x2,x3,()))
def rx:X.Cfg:=⟨E0,[iE,dH],[(18,(uaa KCn)),(19,(uaa KCn)),(38,lT),(39,lT)],[⟨2,0,qE,[(.normal,qS [zaa 0,zaa 4,zaa 5] [(2,uab),(10,Xab),(12,Zab)]),(.normal,qS [zaa 0,zaa 4,zaa 5] [(2,uab),(10,Xab),(12,Xad)])]⟩]⟩
def mV:Ctr:=⟨21,63,[.ptr ⟨2,0,[]⟩ [0],.agg yab],[(2,uab)],[⟨Xad,[.agg 2],[(2,uab)]⟩],ap4 gD⟩
theorem rj:Lk 4 mV:=ls rx (aC kZ (aC eA aN))
def eo(a0:List (Int)) (a1:Bool):Option (Bool×Unit):=
(jt a0).bind λ(x0,_)=>
bif (!x0) then ((cd).bind λ(x1,_)=>
some (x1,())) else
(dR a0 0).bind λ(x1,x2,x3,x4,_)=>
(be 5 x3 x4).bind λ(x5,x6,x7,_)=>
(eK x1 x2 x5 x6 x7).bind λ(x8,x9,ac,ae,_)=>
bif a1 then ((gD x8 x9 ac ae).bind λ(af,ag,ah,aj,_)=>
(bG x1 x2 af ag).bind λ(ak,am,_)=>
(bT x1 x2 af ag).bind λ(an,ap,_)=>
bif (am==ap) then ((dI ak an).bind λ(aq,_)=>
bif aq then ((cd).bind λ(au,_)=>
some (au,())) else
some (false,())) else
some (false,())) else
(bG x1 x2 x8 x9).bind λ(af,ag,_)=>
(bT x1 x2 x8 x9).bind λ(ah,aj,_)=>
bif (ag==aj) then ((dI af ah).bind λ(ak,_)=>
bif ak then ((cd).bind λ(am,_)=>
some (am,())) else
some (false,())) else
some (false,())
def kG:X.Cfg:=⟨E0,[tB,j6,j3,dH,lf,mV,iF,iD,iC],[],[]⟩
def gy:Ctr:=⟨4,64,uL [RI,.bool],[],[⟨zab,[.one],[]⟩],ap2 eo⟩
theorem k_law27_DirtyMade:Lk 8 gy:=ls kG (aC yV (aC oM (aC oJ (aC eA (aC pU (aC rj (aC mz (aC my (aC kY aN)))))))))
end
end Go.Proofs.Yteonljfnncdijaa
namespace Go.Proofs.Yteonljfnncdijaa
set_option maxRecDepth 100000
noncomputable section
end
end Go.Proofs.Yteonljfnncdijaa
namespace Go.Proofs.Yteonljfnncdijaa
open Go.RowKit
theorem CG:(Try.prog.funcs.all λfn=>!(fn.name=="runtime.NumGoroutine"))=true:=by kernel_rfl
theorem uk:f8 Try.prog 17:=by
 obtain⟨fn,hf,hb⟩:∃fn,Try.prog.funcs[17]?=some fn/\fn.body.isSome=true:=by
  have hs:(match Try.prog.funcs[17]? with | some fn=>fn.body.isSome | none=>false)=true:=by kernel_rfl
  cases h:Try.prog.funcs[17]? with
  | none=>rw[h] at hs;cases hs
  | some fn=>rw[h] at hs;exact⟨fn,rfl,hs⟩
 obtain⟨c,hc⟩:=Option.isSome_iff_exists.1 hb;refine iz hf ?_ hc;obtain⟨hlt,he⟩:=Array.getElem?_eq_some_iff.1 hf;have:=Array.all_eq_true.1 CG 17 hlt;rw[he] at this;simpa using this
def Bo(x:Value) (w:World) (e:Ending) (w':World):Prop:=e=.returned (.pointer (some ⟨w.heap.size,0,none⟩))/\w'=w.alloc (.cells #[x,.int .i64 0] 72)
theorem AT(x:Value) (hx:x.oneCell'=true) (w:World) :
 Calls Try.prog 17 #[x] w (Bo x w):=by
 cases x
 all_goals first
  | (go_enter Try.func17,Try.ntmps17
     go_wp2
     go_ret
     exact⟨rfl,rfl⟩)
  | simp[Value.oneCell'] at hx
theorem e0_ok:xR Try.prog E0:=by
 intro f n tm h;simp only[E0] at h;split at h
 ·rename_i e;subst e
  injection h with h
  injection h with h1 h2
  subst h1 h2;refine⟨uk,λx hx=>?_,72,λl2 w hl ZJ=>?_⟩
  ·simp only[List.mem_cons,List.not_mem_nil,or_false] at hx;rcases hx with hx | hx
   ·injection hx
   ·injection hx with hx;rw[hx];rfl
  ·match l2,hl with
   | [x],_=>exact AT x (ZJ x (by simp[bxV])) w
 ·simp at h
def Ok{α:Type}(o:Option α) (Q:α->Prop):Prop:=∃a,o=some a/\Q a
section
variable {α β:Type}
theorem Ok.ret{a:α}{Q:α->Prop}(h:Q a):Ok (some a) Q:=⟨a,rfl,h⟩
theorem Ok.bind{o:Option α}{f:α->Option β}{P:α->Prop}{Q:β->Prop}(h:Ok o P) (h2:∀a,P a->Ok (f a) Q):Ok (o.bind f) Q:=by
 obtain⟨a,rfl,h1⟩:=h
 simp_all
theorem Ok.mono{o:Option α}{P Q:α->Prop}(h:Ok o P) (h2:∀a,P a->Q a):Ok o Q:=by
 have ⟨a,e,h1⟩:=h;exact⟨a,e,h2 a h1⟩
theorem Ok.cond{c:Bool}{a b:Option α}{Q:α->Prop}(h1:c=true->Ok a Q) (h2:c=false->Ok b Q):Ok (bif c then a else b) Q:=by
 grind
class BP (b:Bool) (P N:outParam Prop):Prop where
 t:b=true->P
 f:b=false->N
theorem Ok.get{l:List α}{i:Nat}{f:α->Option β}{Q:β->Prop}(h:i < l.length) (h2:∀a,l[i]?=some a->Ok (f a) Q):Ok ((cw l i).bind f) Q:=by
 have e:cw l i=some l[i]:=oGE h
 simp_all
theorem Ok.nat{x:Int}{f:Nat->Option β}{Q:β->Prop}(h:0<=x) (h2:∀n:Nat,x=n->Ok (f n) Q):Ok ((dN x).bind f) Q:=by
 obtain⟨n,rfl⟩:∃n:Nat,x=n:=⟨x.toNat,by omega⟩;exact h2 n rfl
theorem Ok.val{v:α}{f:α->Option β}{Q:β->Prop}(h:∀x,x=v->Ok (f x) Q):Ok (f v) Q:=h v rfl
theorem Bs{c:Bool}{a b:Option α}{Q:α->Prop}(hc:c=true) (h1:Ok a Q):Ok (bif c then a else b) Q:=by simp_all
theorem nH{S T:Type}{f:S->Option (S⊕T)}(P:S->Prop) (R:T->Prop) (m:S->Nat) {n:Nat}{s:S}(hs:P s) (hm:m s < n)
 (h:∀s,P s->Ok (f s) λr=>match r with | .inl s'=>P s'/\m s' < m s | .inr t=>R t):Ok (bq f n s) R:=by
 induction n generalizing s with
 | zero=>omega
 | succ n ih=>
  have ⟨r,e,hr⟩:=h s hs
  cases r with
  | inl s'=>
   have ⟨t,e2,hq⟩:=ih hr.1 (by omega);exact⟨t,by simp[bq,e];exact e2,hq⟩
  | inr t=>exact⟨t,by simp[bq,e],hr⟩
theorem Ok.loop{S T:Type}{f:S->Option (S⊕T)}{g:T->Option β}{Q:β->Prop}(P:S->Prop) (R:T->Prop) (m:S->Nat) {n:Nat}{s:S}(hs:P s) (hm:m s < n)
 (h:∀s,P s->Ok (f s) λr=>match r with | .inl s'=>P s'/\m s' < m s | .inr t=>R t) (hg:∀t,R t->Ok (g t) Q):Ok ((bq f n s).bind g) Q:=(nH P R m hs hm h).bind hg
end
theorem bI{x:Int}(h1:-9223372036854775808<=x) (h2:x<=9223372036854775807):w64 x=x:=wrap_i64 h1 h2
theorem bD(n:Nat):dN (n:Int)=some n:=rfl
theorem yQ(n:Nat):bd n=(n:Int):=rfl
theorem cU{S T:Type}{f:S->Option (S⊕T)}(st:Nat->S) {n N:Nat}{fin:T}(hn:n < N) (h:∀i,i < n->f (st i)=some (.inl (st (i+1)))) (he:f (st n)=some (.inr fin)):bq f N (st 0)=some fin:=by
 have ZY:∀k i,i+k=n->k < N->∀M,k < M->bq f M (st i)=some fin:=by
  intro k
  induction k with
  | zero=>
   intro i hi _ M hM;obtain⟨M,rfl⟩:∃m,M=m+1:=⟨M - 1,by omega⟩
   have:i=n:=by omega
   subst this;simp[bq,he]
  | succ k ih=>
   intro i hi hk M hM;obtain⟨M,rfl⟩:∃m,M=m+1:=⟨M - 1,by omega⟩;simp only[bq,h i (by omega),oBS];exact ih (i+1) (by omega) (by omega) M (by omega)
 exact ZY n 0 (by omega) hn N hn
theorem jK{S T:Type}{f:S->Option (S⊕T)}(st:Nat->S) (p:Nat->Prop) {n N:Nat}{bad:Nat->T}{fin:T}(hn:n < N)
 (h:∀i,i < n->(p i/\f (st i)=some (.inl (st (i+1))))\/(¬ p i/\f (st i)=some (.inr (bad i)))) (he:f (st n)=some (.inr fin)) :
 ((∀i,i < n->p i)/\bq f N (st 0)=some fin)\/∃k,k < n/\(∀i,i < k->p i)/\¬ p k/\bq f N (st 0)=some (bad k):=by
 have ZY:∀k i,i+k=n->(∀j,j < i->p j)->∀M,k < M->((∀i,i < n->p i)/\bq f M (st i)=some fin)\/∃k,k < n/\(∀i,i < k->p i)/\¬ p k/\bq f M (st i)=some (bad k):=by
  intro k
  induction k with
  | zero=>
   intro i hi hp M hM;obtain⟨M,rfl⟩:∃m,M=m+1:=⟨M - 1,by omega⟩
   have:i=n:=by omega
   subst this;exact .inl ⟨hp,by simp[bq,he]⟩
  | succ k ih=>
   intro i hi hp M hM;obtain⟨M,rfl⟩:∃m,M=m+1:=⟨M - 1,by omega⟩;rcases h i (by omega) with ⟨h1,e⟩ | ⟨h1,e⟩
   ·simp only[bq,e,oBS]
    exact ih (i+1) (by omega) (λj hj=>by
     by_cases e:j=i
     ·subst e;exact h1
     ·exact hp j (by omega)) M (by omega)
   ·exact .inr ⟨i,by omega,hp,h1,by simp[bq,e]⟩
 exact ZY n 0 (by omega) (λj hj=>by omega) N hn
abbrev Sm{α:Type}(l:List α):Prop:=l.length<=1099511627776
theorem rf{n:Nat}(h:n<=1099511627776):n < NN:=by unfold NN;omega
theorem bQ{α:Type}{l:List α}{i:Nat}(h:i < l.length):cw l i=some l[i]:=oGE h
theorem BN(x y:PID):((x.1==y.1) && ((x.2==y.2) && true))=decide (x=y):=by
 rw[Bool.and_true,Bool.eq_iff_iff];simp[Prod.ext_iff]
theorem lB{α:Type}{l:List α}{i:Nat}(h:i < l.length):l.take i++[l[i]]=l.take (i+1):=(List.take_append_getElem h)
theorem wb{a b:List PID}(ha:Sm a) (hb:Sm b):dI a b=some (decide (a=b),()):=by
 unfold dI;simp only[yQ];by_cases hl:a.length=b.length
 rotate_left
 ·have:(((a.length:Int) != (b.length:Int)))=true:=by simp;omega
  rw[this,oCT,oDF λe=>hl (by rw[e])]
 have:(((a.length:Int) != (b.length:Int)))=false:=by simp;omega
 rw[this,oCF]
 have step:∀i,i < a.length->(a[i]?=b[i]?/\bL (a,b,(i:Int),())=some (.inl (a,b,((i+1:Nat):Int),())))\/(¬ a[i]?=b[i]?/\bL (a,b,(i:Int),())=some (.inr (.inl (false,())))):=by
  intro i hi;unfold bL;delta bd
  have ZW:i < b.length:=by omega
  dsimp only;rw[oDT (show (i:Int) < a.length by omega),oCT,bD];simp only[oBS,bQ hi,bQ ZW,BN];rw[bI (by omega) (by omega)];rw[oGE hi,oGE ZW];by_cases e:a[i]=b[i]
  ·rw[oDT e];exact .inl ⟨by rw[e],rfl⟩
  ·rw[oDF e];exact .inr ⟨λh=>e (by injection h),rfl⟩
 have fin:bL (a,b,(a.length:Int),())=some (.inr (.inr (a,b,(a.length:Int),false,()))):=by
  unfold bL;delta bd;dsimp only;rw[oDF (show ¬ (a.length:Int) < a.length by omega)];rfl
 rcases jK (f:=bL) (λi=>(a,b,(i:Int),())) _ (rf ha) step fin with ⟨h1,h2⟩ | ⟨k,hk,_,h1,h2⟩
 ·simp only[show bq bL NN (a,b,0,())=_ from h2];rw[oDT (p:=a=b)]
  exact List.ext_getElem? λi=>by
   by_cases hi:i < a.length
   ·exact h1 i hi
   ·rw[oGN (by omega),oGN (by omega)]
 ·simp only[show bq bL NN (a,b,0,())=_ from h2];rw[oDF λe=>h1 (by rw[e])]
theorem bt{sz n m:Nat}(h1:n<=1099511627776) (h2:m<=1099511627776) (h3:sz<=128) (h4:n+m<=1099511627776):bZ sz n m=true:=by
 unfold bZ;have:(n+m)*sz<=1099511627776*128:=Nat.mul_le_mul h4 h3;simp only[oBA,oDE];exact⟨h4,by omega⟩
theorem Ba{a:List PID}(h:Sm a):cx a=some (a,()):=by
 unfold cx;rw[bt (by omega) h (by omega) (by have:=h;omega),oCT];rfl
theorem yc{a:List PID}(h:Sm a):cy a=some (ie a,()):=oIP h
theorem CS{a:List PID}(h:a.length+1<=1099511627776) (p r:Int):gE a p r=some (ie (a++[(p,r)]),()):=by
 unfold gE;rw[Ba (show Sm a by unfold Sm;omega),oBS];dsimp only;rw[bt (by omega) (by simp) (by omega) (by simpa using h),oCT];rw[yc (show Sm (List.append a [(p,r)]) by unfold Sm;simpa using h)];rfl
theorem r8:cd=some (true,()):=by
 unfold cd;dsimp only;rw[CS (by simp),oBS];dsimp only
 have e:ie ([(0,1),(-1,0)]++[(1,0)])=[(0,1),(1,0),(-1,0)]:=by decide +kernel
 rw[e,wb (by unfold Sm;simp) (by unfold Sm;simp)];rfl
theorem jJ{α S T:Type} [DecidableEq α] {a b:List α}(hl:a.length=b.length) (hs:Sm a) {f:S->Option (S⊕T)}(st:Nat->S) {bad fin:T}
 (step:∀i (h:i < a.length) (h':i < b.length),f (st i)=bif decide (a[i]=b[i]) then some (.inl (st (i+1))) else some (.inr bad)) (he:f (st a.length)=some (.inr fin)) :
 bq f NN (st 0)=some (bif decide (a=b) then fin else bad):=by
 rcases jK (f:=f) st (λi=>a[i]?=b[i]?) (bad:=λ_=>bad) (rf hs) (λi hi=>by
  rw[step i hi (hl ▸ hi),oGE hi,oGE (hl ▸ hi)];by_cases e:a[i]=b[i]'(hl ▸ hi)
  ·exact .inl ⟨by rw[e],by rw[oDT e];rfl⟩
  ·exact .inr ⟨λh=>e (by injection h),by rw[oDF e];rfl⟩) he with ⟨h1,h2⟩ | ⟨k,hk,_,h1,h2⟩
 ·rw[h2,oDT (p:=a=b)]
  ·rfl
  ·exact List.ext_getElem? λi=>by
    by_cases hi:i < a.length
    ·exact h1 i hi
    ·rw[oGN (by omega),oGN (by omega)]
 ·rw[h2,oDF λe=>h1 (by rw[e])];rfl
theorem nW{α:Type}{a b:List α}(h:a.length=b.length):((a.length:Int) != (b.length:Int))=false:=by simp;omega
theorem kA{α:Type}{a b:List α}(h:¬ a.length=b.length):((a.length:Int) != (b.length:Int))=true:=by simp;omega
theorem zQ(x y:Int):(x != y)=!decide (x=y):=by
 by_cases h:x=y
 ·subst h;simp
 ·rw[oDF h,bne_iff_ne.2 h];rfl
theorem lO{α:Type}(b:Bool) (x y:α):(bif !b then x else y)=bif b then y else x:=by cases b<;>rfl
theorem zX(x y:DCn):(!((x.1==y.1) && ((x.2.1==y.2.1) && ((x.2.2.1==y.2.2.1) && ((x.2.2.2==y.2.2.2) && true)))))=!decide (x=y):=by
 congr 1;rw[Bool.and_true,Bool.eq_iff_iff];simp[Prod.ext_iff]
theorem zT{a b:List Int}(ha:Sm a):dc a b=some (decide (a=b),()):=by
 unfold dc;delta bd;dsimp only;by_cases hl:a.length=b.length
 rotate_left
 ·rw[kA hl,oCT,oDF λe=>hl (by rw[e])]
 rw[nW hl,oCF];have h0:=ha
 have:=jJ (f:=bS) hl ha (λi=>(a,b,(a.length:Int),(i:Int),())) (bad:=.inl (false,())) (fin:=.inr (a,b,(a.length:Int),(a.length:Int),false,()))
  (λi h h'=>by
   unfold bS;dsimp only;rw[oDT (show (i:Int) < a.length by omega),oCT,bD];simp only[oBS,bQ h,bQ h',zQ,lO];rw[bI (by omega) (by omega)]
   rfl)
  (by
   unfold bS;dsimp only;rw[oDF (show ¬ (a.length:Int) < a.length by omega)]
   rfl)
 rw[show bq bS NN (a,b,(a.length:Int),0,())=_ from this];by_cases e:a=b
 ·rw[oDT e];rfl
 ·rw[oDF e];rfl
theorem pH{a b:List Int}(ha:Sm a):dC a b=some (decide (a=b),()):=by
 unfold dC;delta bd;dsimp only;by_cases hl:a.length=b.length
 rotate_left
 ·rw[kA hl,oCT,oDF λe=>hl (by rw[e])]
 rw[nW hl,oCF];have h0:=ha
 have:=jJ (f:=ch) hl ha (λi=>(a,b,(i:Int),())) (bad:=.inl (false,())) (fin:=.inr (a,b,(a.length:Int),false,()))
  (λi h h'=>by
   unfold ch;delta bd;dsimp only;rw[oDT (show (i:Int) < a.length by omega),oCT,bD];simp only[oBS,bQ h,bQ h',zQ,lO];rw[bI (by omega) (by omega)]
   rfl)
  (by
   unfold ch;delta bd;dsimp only;rw[oDF (show ¬ (a.length:Int) < a.length by omega)]
   rfl)
 rw[show bq ch NN (a,b,0,())=_ from this];by_cases e:a=b
 ·rw[oDT e];rfl
 ·rw[oDF e];rfl
theorem td{a b:List DCn}(ha:Sm a):b9 a b=some (decide (a=b),()):=by
 unfold b9;delta bd;dsimp only;by_cases hl:a.length=b.length
 rotate_left
 ·rw[kA hl,oCT,oDF λe=>hl (by rw[e])]
 rw[nW hl,oCF];have h0:=ha
 have:=jJ (f:=bJ) hl ha (λi=>(a,b,(a.length:Int),(i:Int),())) (bad:=.inl (false,())) (fin:=.inr (a,b,(a.length:Int),(a.length:Int),false,()))
  (λi h h'=>by
   unfold bJ;dsimp only;rw[oDT (show (i:Int) < a.length by omega),oCT,bD];simp only[oBS,bQ h,bQ h',zX,lO];rw[bI (by omega) (by omega)]
   rfl)
  (by
   unfold bJ;dsimp only;rw[oDF (show ¬ (a.length:Int) < a.length by omega)]
   rfl)
 rw[show bq bJ NN (a,b,(a.length:Int),0,())=_ from this];by_cases e:a=b
 ·rw[oDT e];rfl
 ·rw[oDF e];rfl
theorem nR{a b:List DCn}(ha:Sm a):cg a b=some (decide (a=b),()):=by
 unfold cg;delta bd;dsimp only;by_cases hl:a.length=b.length
 rotate_left
 ·rw[kA hl,oCT,oDF λe=>hl (by rw[e])]
 rw[nW hl,oCF];have h0:=ha
 have:=jJ (f:=cb) hl ha (λi=>(a,b,(i:Int),())) (bad:=.inl (false,())) (fin:=.inr (a,b,(a.length:Int),false,()))
  (λi h h'=>by
   unfold cb;delta bd;dsimp only;rw[oDT (show (i:Int) < a.length by omega),oCT,bD];simp only[oBS,bQ h,bQ h',zX,lO];rw[bI (by omega) (by omega)]
   rfl)
  (by
   unfold cb;delta bd;dsimp only;rw[oDF (show ¬ (a.length:Int) < a.length by omega)]
   rfl)
 rw[show bq cb NN (a,b,0,())=_ from this];by_cases e:a=b
 ·rw[oDT e];rfl
 ·rw[oDF e];rfl
abbrev PG:=Int×Int×List DCn×DTs
instance C8:DecidableEq DCn:=inferInstance
instance Dd:DecidableEq (Int×Int×Int×List DCn):=inferInstance
instance C6:DecidableEq DTs:=inferInstanceAs (DecidableEq (Int×Int×Int×Int×(Int×Int×Int×List DCn)))
instance C7:DecidableEq PG:=inferInstanceAs (DecidableEq (Int×Int×List DCn×DTs))
theorem qy{x y:Int}{p:Prop} [Decidable p]:(bif (x==y) then (some (decide p,())) else some (false,()):Option (Bool×Unit))=some (decide (x=y/\p),()):=by
 by_cases h:x=y
 ·subst h;simp
 ·rw[oBF h,oDF (p:=x=y/\p) λe=>h e.1];rfl
theorem of{p q:Prop} [Decidable p] [Decidable q]:((some (decide p,())).bind λ(x0,_)=>bif x0 then some (decide q,()) else some (false,()):Option (Bool×Unit))=some (decide (p/\q),()):=by
 by_cases h:p<;>by_cases h':q<;>simp[h,h']
theorem oe{x y z w:Int}{p:Prop} [Decidable p]:(bif ((x==y) && ((z==w) && true)) then (some (decide p,())) else some (false,()):Option (Bool×Unit))=some (decide (x=y/\z=w/\p),()):=by
 by_cases h:x=y
 ·subst h;by_cases h:z=w
  ·subst h;simp
  ·rw[oBF h,oDF (p:=x=x/\z=w/\p) λe=>h e.2.1];simp
 ·rw[oBF h,oDF (p:=x=y/\z=w/\p) λe=>h e.1];rfl
theorem m7{o:Option (Bool×Unit)}:(o.bind λ(x0,_)=>some (x0,()))=o:=by
 cases o with
 | none=>rfl
 | some x=>obtain⟨x,⟨⟩⟩:=x;rfl
theorem A8{x y:PG}(hx:Sm x.2.2.1) (hy:Sm x.2.2.2.2.2.2.2.2.2.2) :
 fb x.1 x.2.1 x.2.2.1 x.2.2.2.1 x.2.2.2.2.1 x.2.2.2.2.2.1 x.2.2.2.2.2.2.1 x.2.2.2.2.2.2.2.1 x.2.2.2.2.2.2.2.2.1 x.2.2.2.2.2.2.2.2.2.1 x.2.2.2.2.2.2.2.2.2.2 y.1 y.2.1 y.2.2.1 y.2.2.2.1 y.2.2.2.2.1 y.2.2.2.2.2.1 y.2.2.2.2.2.2.1 y.2.2.2.2.2.2.2.1 y.2.2.2.2.2.2.2.2.1 y.2.2.2.2.2.2.2.2.2.1 y.2.2.2.2.2.2.2.2.2.2=some (decide (x=y),()):=by
 unfold fb;simp only[td hx,td hy,m7,qy,of,oe];congr 2;rw[decide_eq_decide];simp only[Prod.ext_iff,and_assoc]
theorem vY{x y:DTs}(hx:Sm x.2.2.2.2.2.2.2) :
 cX x.1 x.2.1 x.2.2.1 x.2.2.2.1 x.2.2.2.2.1 x.2.2.2.2.2.1 x.2.2.2.2.2.2.1 x.2.2.2.2.2.2.2 y.1 y.2.1 y.2.2.1 y.2.2.2.1 y.2.2.2.2.1 y.2.2.2.2.2.1 y.2.2.2.2.2.2.1 y.2.2.2.2.2.2.2=some (decide (x=y),()):=by
 unfold cX;simp only[nR hx,m7,qy];congr 2;rw[decide_eq_decide];simp only[Prod.ext_iff,and_assoc]
theorem A7{x y:PG}(hx:Sm x.2.2.1) (hy:Sm x.2.2.2.2.2.2.2.2.2.2) :
 fa x.1 x.2.1 x.2.2.1 x.2.2.2.1 x.2.2.2.2.1 x.2.2.2.2.2.1 x.2.2.2.2.2.2.1 x.2.2.2.2.2.2.2.1 x.2.2.2.2.2.2.2.2.1 x.2.2.2.2.2.2.2.2.2.1 x.2.2.2.2.2.2.2.2.2.2 y.1 y.2.1 y.2.2.1 y.2.2.2.1 y.2.2.2.2.1 y.2.2.2.2.2.1 y.2.2.2.2.2.2.1 y.2.2.2.2.2.2.2.1 y.2.2.2.2.2.2.2.2.1 y.2.2.2.2.2.2.2.2.2.1 y.2.2.2.2.2.2.2.2.2.2=some (decide (x=y),()):=by
 unfold fa;have:=vY (x:=x.2.2.2) (y:=y.2.2.2) hy;simp only[nR hx,this,m7,of,oe];congr 2;rw[decide_eq_decide];simp only[Prod.ext_iff,and_assoc]
abbrev CC:=List (List DCn)
abbrev TT':=List DTs
def szs(C:CC):List Int:=C.map λc=>(c.length:Int)
theorem dF(C:CC):(szs C).length=C.length:=List.length_map _
theorem fN{α β:Type}{f:α->β}{l:List α}{i:Nat}(h:i < l.length):(l.take i).map f++[f l[i]]=(l.take (i+1)).map f:=by
 rw[<- lB h,List.map_append];rfl
theorem ma{C:CC}{T:TT'}(h:Sm C):dh C T=some (szs C,()):=by
 unfold dh;delta bd;dsimp only;have h0:=h
 have step:∀i,i < C.length->b7 (C,(C.length:Int),(i:Int),C,T,szs (C.take i),())=some (.inl (C,(C.length:Int),((i+1:Nat):Int),C,T,szs (C.take (i+1)),())):=by
  intro i hi;unfold b7;delta bd;dsimp only;rw[oDT (show (i:Int) < C.length by omega),oCT,bD];simp only[oBS,bQ hi];rw[bt (by rw[dF,oLT];omega) (by simp) (by omega) (by rw[dF,oLT,List.length_singleton];omega),oCT,bI (by omega) (by omega)];have:List.append (szs (C.take i)) [((C[i].length:Nat):Int)]=szs (C.take (i+1)):=fN (f:=λc:List DCn=>(c.length:Int)) hi;rw[this];rfl
 have fin:b7 (C,(C.length:Int),(C.length:Int),C,T,szs (C.take C.length),())=some (.inr (C,(C.length:Int),(C.length:Int),false,C,T,szs (C.take C.length),())):=by
  unfold b7;dsimp only;rw[oDF (show ¬ (C.length:Int) < C.length by omega)];rfl
 have:=cU (f:=b7) (λi=>(C,(C.length:Int),(i:Int),C,T,szs (C.take i),())) (rf h) step fin;rw[show bq b7 NN (C,(C.length:Int),0,C,T,[],())=_ from this,List.take_length,oBS]
theorem kj{C:CC}{T:TT'}(h:Sm C):cT C T=some (szs C,()):=by
 unfold cT;have h0:=h
 have step:∀i,i < C.length->b6 ((i:Int),C,T,szs (C.take i),())=some (.inl (((i+1:Nat):Int),C,T,szs (C.take (i+1)),())):=by
  intro i hi;unfold b6;delta bd;dsimp only;rw[oDT (show (i:Int) < C.length by omega),oCT,bD];simp only[oBS,bQ hi];rw[bt (by rw[dF,oLT];omega) (by simp) (by omega) (by rw[dF,oLT,List.length_singleton];omega),oCT,bI (by omega) (by omega)];have:List.append (szs (C.take i)) [((C[i].length:Nat):Int)]=szs (C.take (i+1)):=fN (f:=λc:List DCn=>(c.length:Int)) hi;rw[this];rfl
 have fin:b6 ((C.length:Int),C,T,szs (C.take C.length),())=some (.inr ((C.length:Int),false,C,T,szs (C.take C.length),())):=by
  unfold b6;delta bd;dsimp only;rw[oDF (show ¬ (C.length:Int) < C.length by omega)];rfl
 have:=cU (f:=b6) (λi=>((i:Int),C,T,szs (C.take i),())) (rf h) step fin;rw[show bq b6 NN (0,C,T,[],())=_ from this,List.take_length,oBS]
def okZ(z:Int):Bool:=decide (1<=z/\z<=32)
theorem vk(z:Int):dT z=some (okZ z,()):=by
 unfold dT okZ;by_cases h:z>=1
 ·rw[oDT h,oCT];congr 2;rw[decide_eq_decide];omega
 ·rw[oDF h,oCF,oDF (by omega)]
def shp(C:CC) (T:TT'):Prop:=C.length<=4/\T.length<=4/\∀c∈C,okZ (c.length:Int)=true
instance {C:CC} {T:TT'}:Decidable (shp C T):=inferInstanceAs (Decidable (_/\_/\_))
theorem tE{α:Type}{p:α->Bool}{l:List α}(h:∀i,(hi:i < l.length)->p l[i]=true):∀x∈l,p x=true:=by
 intro x hx;obtain⟨i,hi,rfl⟩:=List.mem_iff_getElem.1 hx;exact h i hi
theorem uE{C:CC}(h:Sm C):bK C=some (!decide (∀c∈C,okZ (c.length:Int)=true),()):=by
 unfold bK cN;delta bd;dsimp only;have h0:=h
 have step:∀i,i < C.length->((∀hi:i < C.length,okZ (C[i].length:Int)=true)/\bc (C,(C.length:Int),(i:Int),())=some (.inl (C,(C.length:Int),((i+1:Nat):Int),()))) \/
  (¬ (∀hi:i < C.length,okZ (C[i].length:Int)=true)/\bc (C,(C.length:Int),(i:Int),())=some (.inr (.inl ((i:Int),())))):=by
  intro i hi;unfold bc;dsimp only;rw[oDT (show (i:Int) < C.length by omega),oCT,bD]
  have e:dD C[i]=some (!okZ (C[i].length:Int),()):=by
   unfold dD;delta bd;dsimp only;rw[vk];rfl
  simp only[oBS,bQ hi,e];rw[bI (by omega) (by omega)];by_cases q:okZ (C[i].length:Int)=true
  ·exact .inl ⟨λ_=>q,by rw[q];rfl⟩
  ·exact .inr ⟨λg=>q (g hi),by rw[Bool.not_eq_true] at q;rw[q];rfl⟩
 have fin:bc (C,(C.length:Int),(C.length:Int),())=some (.inr (.inr (C,(C.length:Int),(C.length:Int),false,()))):=by
  unfold bc;dsimp only;rw[oDF (show ¬ (C.length:Int) < C.length by omega)];rfl
 rcases jK (f:=bc) (λi=>(C,(C.length:Int),(i:Int),())) _ (rf h) step fin with ⟨h1,h2⟩ | ⟨k,hk,_,h1,h2⟩
 ·rw[show bq bc NN (C,(C.length:Int),0,())=_ from h2];rw[oDT (tE (p:=λc:List DCn=>okZ (c.length:Int)) λi hi=>h1 i hi hi)];rfl
 ·rw[show bq bc NN (C,(C.length:Int),0,())=_ from h2];rw[oDF (λg=>h1 λhi=>g _ (List.getElem_mem hi))];simp only[oBS];rw[oDT (show (k:Int)>=0 by omega)];rfl
theorem sD{C:CC}{T:TT'}(h:Sm C):eC C T=some (decide (shp C T),()):=by
 unfold eC;delta bd;dsimp only;by_cases h1:C.length<=4
 ·rw[oDT (show (C.length:Int)<=4 by omega),oCT];by_cases h2:T.length<=4
  ·rw[oDT (show (T.length:Int)<=4 by omega),oCT,uE h];simp only[oBS,Bool.not_not];congr 2;rw[decide_eq_decide];exact⟨λg=>⟨h1,h2,g⟩,λg=>g.2.2⟩
  ·rw[oDF (show ¬ (T.length:Int)<=4 by omega),oCF,oDF λg=>h2 g.2.1]
 ·rw[oDF (show ¬ (C.length:Int)<=4 by omega),oCF,oDF λg=>h1 g.1]
theorem uD{S:List Int}(h:Sm S) (hok:∀z∈S,okZ z=true):bR S=some (false,()):=by
 unfold bR c7;delta bd;dsimp only;have h0:=h
 have step:∀i,i < S.length->bo (S,(S.length:Int),(i:Int),())=some (.inl (S,(S.length:Int),((i+1:Nat):Int),())):=by
  intro i hi;unfold bo;dsimp only;rw[oDT (show (i:Int) < S.length by omega),oCT,bD]
  have e:eD S[i]=some (false,()):=by
   unfold eD;rw[vk,hok _ (List.getElem_mem hi)];rfl
  simp only[oBS,bQ hi,e];rw[bI (by omega) (by omega)];rfl
 have fin:bo (S,(S.length:Int),(S.length:Int),())=some (.inr (.inr (S,(S.length:Int),(S.length:Int),false,()))):=by
  unfold bo;dsimp only;rw[oDF (show ¬ (S.length:Int) < S.length by omega)];rfl
 have:=cU (f:=bo) (λi=>(S,(S.length:Int),(i:Int),())) (rf h) step fin;rw[show bq bo NN (S,(S.length:Int),0,())=_ from this];rfl
theorem xw{S:List Int}{n:Nat}(h:Sm S):∃e:Int,dS S n=some (e,())/\(e=0↔S.length<=4/\n<=4/\∀z∈S,okZ z=true):=by
 unfold dS;delta bd;dsimp only;by_cases h1:S.length<=4
 rotate_left
 ·rw[oDT (show (S.length:Int) > 4 by omega),oCT];exact⟨3,rfl,λg=>absurd g (by decide),λg=>absurd g.1 h1⟩
 rw[oDF (show ¬ (S.length:Int) > 4 by omega),oCF];by_cases h2:n<=4
 rotate_left
 ·rw[oDT (show (n:Int) > 4 by omega),oCT];exact⟨3,rfl,λg=>absurd g (by decide),λg=>absurd g.2.1 h2⟩
 rw[oDF (show ¬ (n:Int) > 4 by omega),oCF];have h0:=h
 have step:∀i,i < S.length->((∀hi:i < S.length,okZ S[i]=true)/\bH (S,(n:Int),(i:Int),())=some (.inl (S,(n:Int),((i+1:Nat):Int),()))) \/
  (¬ (∀hi:i < S.length,okZ S[i]=true)/\bH (S,(n:Int),(i:Int),())=some (.inr (.inl (1,())))):=by
  intro i hi;unfold bH;delta bd;dsimp only;rw[oDT (show (i:Int) < S.length by omega),oCT,bD];simp only[oBS,bQ hi];rw[bI (by omega) (by omega)];by_cases q1:S[i] < 1
  ·rw[oDT q1];exact .inr ⟨λg=>by have:=of_decide_eq_true (g hi);omega,rfl⟩
  ·rw[oDF q1,oCF];by_cases q2:S[i] > 32
   ·rw[oDT q2];exact .inr ⟨λg=>by have:=of_decide_eq_true (g hi);omega,rfl⟩
   ·rw[oDF q2,oCF];exact .inl ⟨λ_=>oDT (by omega),rfl⟩
 have fin:bH (S,(n:Int),(S.length:Int),())=some (.inr (.inr (S,(n:Int),(S.length:Int),false,()))):=by
  unfold bH;delta bd;dsimp only;rw[oDF (show ¬ (S.length:Int) < S.length by omega)];rfl
 rcases jK (f:=bH) (λi=>(S,(n:Int),(i:Int),())) _ (rf h) step fin with ⟨g1,g2⟩ | ⟨k,hk,_,g1,g2⟩
 ·rw[show bq bH NN (S,(n:Int),0,())=_ from g2];dsimp only;rw[oDF (show ¬ (n:Int) < 0 by omega)];exact⟨0,rfl,λ_=>⟨h1,h2,tE λi hi=>g1 i hi hi⟩,λ_=>rfl⟩
 ·rw[show bq bH NN (S,(n:Int),0,())=_ from g2];exact⟨1,rfl,λg=>absurd g (by decide),λg=>absurd (λhi=>g.2.2 _ (List.getElem_mem hi)) g1⟩
theorem ox{C:CC}{T:TT'}:((szs C).length<=4/\T.length<=4/\∀z∈szs C,okZ z=true)↔shp C T:=by
 unfold shp szs;rw[List.length_map];simp
theorem jx{C:CC}{T:TT'}(h:Sm C):cY C T=some (decide (shp C T),()):=by
 unfold cY;rw[kj h];obtain⟨e,h1,h2⟩:=xw (S:=szs C) (n:=T.length) (show Sm (szs C) by unfold Sm;rw[dF];exact h);rw[ox] at h2;delta bd;simp only[oBS,h1];congr 2;rw[Bool.eq_iff_iff,beq_iff_eq,decide_eq_true_iff];exact h2
def kf(z:Int):Nat:=((z+7) / 8).toNat
def jB(S:List Int) (i:Nat):List PID:=(List.range (kf (S.getD i 0))).map λ(j:Nat)=>((i:Int),(j:Int))
def pgs(S:List Int) (n:Nat):List PID:=(List.range S.length).flatMap (jB S)++(List.range n).map λ(t:Nat)=>(-1,(t:Int))
def Szs(S:List Int):Prop:=S.length<=4/\∀z∈S,okZ z=true
theorem vc{S:List Int}(h:Szs S) {i:Nat}(hi:i < S.length):1<=S[i]/\S[i]<=32:=of_decide_eq_true (h.2 _ (List.getElem_mem hi))
theorem xp{S:List Int}(h:Szs S) {i:Nat}(hi:i < S.length):kf (S.getD i 0)<=4:=by
 have:=vc h hi
 have e:S.getD i 0=S[i]:=by simp[hi]
 rw[e];unfold kf;omega
theorem jE{S:List Int}(h:Szs S):∀i,i<=S.length->((List.range i).flatMap (jB S)).length<=4*i:=by
 intro i
 induction i with
 | zero=>intro _;simp
 | succ i ih=>
  intro hi;rw[List.range_succ,List.flatMap_append,List.length_append];have h1:=ih (by omega)
  have h2:(jB S i).length=kf (S.getD i 0):=by unfold jB;simp
  have h3:=xp h (i:=i) (by omega);simp only[List.flatMap_cons,List.flatMap_nil,List.append_nil];omega
theorem qk{S:List Int}(i:Nat):(List.range (i+1)).flatMap (jB S)=(List.range i).flatMap (jB S)++jB S i:=by
 rw[List.range_succ,List.flatMap_append];simp
theorem iN{α:Type}(f:Nat->α) (j:Nat):(List.range (j+1)).map f=(List.range j).map f++[f j]:=by
 rw[List.range_succ,List.map_append];rfl
theorem sM{z:Int}(h:1<=z/\z<=32) (j:Nat):((j:Int)*8 < z)↔j < kf z:=by
 unfold kf;omega
theorem BW{S:List Int}{n:Nat}(h:Szs S) (hn:n<=4):fP S n=some (pgs S n,0,()):=by
 unfold fP;delta bd;dsimp only;have h4:=h.1;rw[oDF (show ¬ (S.length:Int) > 4 by omega),oCF,oDF (show ¬ (n:Int) > 4 by omega),oCF,oDF (show ¬ (n:Int) < 0 by omega),oCF];rw[uD (by unfold Sm;omega) h.2,oBS];simp only[oCF]
 have Xe:∀i,i < S.length->co ((n:Int),S,(S.length:Int),(i:Int),(List.range i).flatMap (jB S),())=some (.inl ((n:Int),S,(S.length:Int),((i+1:Nat):Int),(List.range (i+1)).flatMap (jB S),())):=by
  intro i hi;have hz:=vc h hi;have hl:=jE h i (by omega);have hc:=xp h hi
  have eg:S.getD i 0=S[i]:=by simp[hi]
  unfold co;dsimp only;rw[oDT (show (i:Int) < S.length by omega),oCT,bD];simp only[oBS,bQ hi]
  let A:=(List.range i).flatMap (jB S)
  let st:Nat->_:=λj=>((n:Int),(i:Int),S[i],(j:Int),S,(S.length:Int),(i:Int),A++(List.range j).map (λ(j:Nat)=>(((i:Int),(j:Int)):PID)),())
  have Xd:∀j,j < kf S[i]->bY (st j)=some (.inl (st (j+1))):=by
   intro j hj;show bY ((n:Int),(i:Int),S[i],(j:Int),S,(S.length:Int),(i:Int),A++(List.range j).map (λ(j:Nat)=>(((i:Int),(j:Int)):PID)),())=_;unfold bY;dsimp only;rw[eg] at hc;rw[bI (x:=(j:Int)*8) (by omega) (by omega),oDT ((sM hz j).2 hj),oCT];have hA:A.length<=4*i:=hl;rw[bt (by rw[List.length_append,List.length_map,List.length_range];omega) (by simp) (by omega) (by rw[List.length_append,List.length_map,List.length_range,List.length_singleton];omega),oCT,bI (by omega) (by omega)]
   have e:List.append (A++(List.range j).map (λ(j:Nat)=>(((i:Int),(j:Int)):PID))) [((i:Int),(j:Int))]=A++(List.range (j+1)).map (λ(j:Nat)=>(((i:Int),(j:Int)):PID)):=by
    rw[iN,<- List.append_assoc];rfl
   rw[e];rfl
  have Vm:bY (st (kf S[i]))=some (.inr ((n:Int),(i:Int),S[i],(kf S[i]:Int),S,(S.length:Int),(i:Int),false,A++(List.range (kf S[i])).map (λ(j:Nat)=>(((i:Int),(j:Int)):PID)),())):=by
   show bY ((n:Int),(i:Int),S[i],(kf S[i]:Int),S,(S.length:Int),(i:Int),A++(List.range (kf S[i])).map (λ(j:Nat)=>(((i:Int),(j:Int)):PID)),())=_;unfold bY;dsimp only;rw[eg] at hc;rw[bI (x:=(kf S[i]:Int)*8) (by omega) (by omega),oDF (λg=>by have:=(sM hz _).1 g;omega)];rfl
  have hI:=cU (f:=bY) st (n:=kf S[i]) (N:=NN) (by rw[eg] at hc;unfold NN;omega) Xd Vm
  have e0:st 0=((n:Int),(i:Int),S[i],0,S,(S.length:Int),(i:Int),(List.range i).flatMap (jB S),()):=by
   show ((n:Int),(i:Int),S[i],(0:Int),S,(S.length:Int),(i:Int),A++[],())=_;rw[List.append_nil]
  rw[<- e0,hI];simp only[oBS];rw[bI (by omega) (by omega),qk]
  have er:(List.range (kf S[i])).map (λ(j:Nat)=>(((i:Int),(j:Int)):PID))=jB S i:=by unfold jB;rw[eg]
  rw[er];rfl
 have Vn:co ((n:Int),S,(S.length:Int),(S.length:Int),(List.range S.length).flatMap (jB S),())=some (.inr ((n:Int),S,(S.length:Int),(S.length:Int),false,(List.range S.length).flatMap (jB S),())):=by
  unfold co;dsimp only;rw[oDF (show ¬ (S.length:Int) < S.length by omega)];rfl
 have hO:=cU (f:=co) (λi=>((n:Int),S,(S.length:Int),(i:Int),(List.range i).flatMap (jB S),())) (n:=S.length) (N:=NN) (by unfold NN;omega) Xe Vn;rw[show bq co NN ((n:Int),S,(S.length:Int),0,[],())=_ from hO];simp only[oBS];have hl:=jE h S.length (Nat.le_refl _)
 let B:=(List.range S.length).flatMap (jB S)
 have hB:B.length<=4*S.length:=hl
 let st:Nat->_:=λt=>((n:Int),(t:Int),B++(List.range t).map (λ(t:Nat)=>((-1,(t:Int)):PID)),())
 have Xf:∀t,t < n->bW (st t)=some (.inl (st (t+1))):=by
  intro t ht;show bW ((n:Int),(t:Int),B++(List.range t).map (λ(t:Nat)=>((-1,(t:Int)):PID)),())=_;unfold bW;dsimp only;rw[oDT (show (t:Int) < n by omega),oCT];rw[bt (by rw[List.length_append,List.length_map,List.length_range];omega) (by simp) (by omega) (by rw[List.length_append,List.length_map,List.length_range,List.length_singleton];omega),oCT,bI (by omega) (by omega)]
  have e:List.append (B++(List.range t).map (λ(t:Nat)=>((-1,(t:Int)):PID))) [(-1,(t:Int))]=B++(List.range (t+1)).map (λ(t:Nat)=>((-1,(t:Int)):PID)):=by
   rw[iN,<- List.append_assoc];rfl
  rw[e];rfl
 have Vo:bW (st n)=some (.inr ((n:Int),(n:Int),false,B++(List.range n).map (λ(t:Nat)=>((-1,(t:Int)):PID)),())):=by
  show bW ((n:Int),(n:Int),B++(List.range n).map (λ(t:Nat)=>((-1,(t:Int)):PID)),())=_;unfold bW;dsimp only;rw[oDF (show ¬ (n:Int) < n by omega)];rfl
 have hT:=cU (f:=bW) st (n:=n) (N:=NN) (by unfold NN;omega) Xf Vo
 have e0:st 0=((n:Int),0,B,()):=by
  show ((n:Int),(0:Int),B++[],())=_;rw[List.append_nil]
 rw[e0] at hT;rw[hT];rfl
theorem BX{S:List Int}{n:Nat}(h:Szs S) (hn:n<=4):fO S n=some (pgs S n,0,()):=by
 unfold fO;have h4:=h.1;obtain⟨e,h1,h2⟩:=xw (S:=S) (n:=n) (by unfold Sm;omega);have e0:e=0:=h2.2 ⟨h.1,hn,h.2⟩;subst e0;rw[h1,oBS];simp only[bne_self_eq_false,oCF]
 have Xe:∀i,i < S.length->cj (S,(n:Int),(i:Int),(List.range i).flatMap (jB S),())=some (.inl (S,(n:Int),((i+1:Nat):Int),(List.range (i+1)).flatMap (jB S),())):=by
  intro i hi;have hz:=vc h hi;have hl:=jE h i (by omega);have hc:=xp h hi
  have eg:S.getD i 0=S[i]:=by simp[hi]
  unfold cj;delta bd;dsimp only;rw[oDT (show (i:Int) < S.length by omega),oCT]
  let A:=(List.range i).flatMap (jB S)
  let st:Nat->_:=λj=>(S,(n:Int),(i:Int),(j:Int),A++(List.range j).map (λ(j:Nat)=>(((i:Int),(j:Int)):PID)),())
  have Xd:∀j,j < kf S[i]->bV (st j)=some (.inl (st (j+1))):=by
   intro j hj;show bV (S,(n:Int),(i:Int),(j:Int),A++(List.range j).map (λ(j:Nat)=>(((i:Int),(j:Int)):PID)),())=_;unfold bV;dsimp only;rw[eg] at hc;rw[bD];simp only[oBS,bQ hi];rw[bI (x:=(j:Int)*8) (by omega) (by omega),oDT ((sM hz j).2 hj),oCT];have hA:A.length<=4*i:=hl;rw[bt (by rw[List.length_append,List.length_map,List.length_range];omega) (by simp) (by omega) (by rw[List.length_append,List.length_map,List.length_range,List.length_singleton];omega),oCT,bI (by omega) (by omega)]
   have e:List.append (A++(List.range j).map (λ(j:Nat)=>(((i:Int),(j:Int)):PID))) [((i:Int),(j:Int))]=A++(List.range (j+1)).map (λ(j:Nat)=>(((i:Int),(j:Int)):PID)):=by
    rw[iN,<- List.append_assoc];rfl
   rw[e];rfl
  have Vm:bV (st (kf S[i]))=some (.inr (S,(n:Int),(i:Int),(kf S[i]:Int),false,A++(List.range (kf S[i])).map (λ(j:Nat)=>(((i:Int),(j:Int)):PID)),())):=by
   show bV (S,(n:Int),(i:Int),(kf S[i]:Int),A++(List.range (kf S[i])).map (λ(j:Nat)=>(((i:Int),(j:Int)):PID)),())=_;unfold bV;dsimp only;rw[eg] at hc;rw[bD];simp only[oBS,bQ hi];rw[bI (x:=(kf S[i]:Int)*8) (by omega) (by omega),oDF (λg=>by have:=(sM hz _).1 g;omega)];rfl
  have hI:=cU (f:=bV) st (n:=kf S[i]) (N:=NN) (by rw[eg] at hc;unfold NN;omega) Xd Vm
  have e0:st 0=(S,(n:Int),(i:Int),0,(List.range i).flatMap (jB S),()):=by
   show (S,(n:Int),(i:Int),(0:Int),A++[],())=_;rw[List.append_nil]
  rw[<- e0,hI];simp only[oBS];rw[bI (by omega) (by omega),qk]
  have er:(List.range (kf S[i])).map (λ(j:Nat)=>(((i:Int),(j:Int)):PID))=jB S i:=by unfold jB;rw[eg]
  rw[er];rfl
 have Vn:cj (S,(n:Int),(S.length:Int),(List.range S.length).flatMap (jB S),())=some (.inr (S,(n:Int),(S.length:Int),false,(List.range S.length).flatMap (jB S),())):=by
  unfold cj;delta bd;dsimp only;rw[oDF (show ¬ (S.length:Int) < S.length by omega)];rfl
 have hO:=cU (f:=cj) (λi=>(S,(n:Int),(i:Int),(List.range i).flatMap (jB S),())) (n:=S.length) (N:=NN) (by unfold NN;omega) Xe Vn;rw[show bq cj NN (S,(n:Int),0,[],())=_ from hO];simp only[oBS];have hl:=jE h S.length (Nat.le_refl _)
 let B:=(List.range S.length).flatMap (jB S)
 have hB:B.length<=4*S.length:=hl
 let st:Nat->_:=λt=>((n:Int),(t:Int),B++(List.range t).map (λ(t:Nat)=>((-1,(t:Int)):PID)),())
 have Xf:∀t,t < n->bU (st t)=some (.inl (st (t+1))):=by
  intro t ht;show bU ((n:Int),(t:Int),B++(List.range t).map (λ(t:Nat)=>((-1,(t:Int)):PID)),())=_;unfold bU;dsimp only;rw[oDT (show (t:Int) < n by omega),oCT];rw[bt (by rw[List.length_append,List.length_map,List.length_range];omega) (by simp) (by omega) (by rw[List.length_append,List.length_map,List.length_range,List.length_singleton];omega),oCT,bI (by omega) (by omega)]
  have e:List.append (B++(List.range t).map (λ(t:Nat)=>((-1,(t:Int)):PID))) [(-1,(t:Int))]=B++(List.range (t+1)).map (λ(t:Nat)=>((-1,(t:Int)):PID)):=by
   rw[iN,<- List.append_assoc];rfl
  rw[e];rfl
 have Vo:bU (st n)=some (.inr ((n:Int),(n:Int),false,B++(List.range n).map (λ(t:Nat)=>((-1,(t:Int)):PID)),())):=by
  show bU ((n:Int),(n:Int),B++(List.range n).map (λ(t:Nat)=>((-1,(t:Int)):PID)),())=_;unfold bU;dsimp only;rw[oDF (show ¬ (n:Int) < n by omega)];rfl
 have hT:=cU (f:=bU) st (n:=n) (N:=NN) (by unfold NN;omega) Xf Vo
 have e0:st 0=((n:Int),0,B,()):=by
  show ((n:Int),(0:Int),B++[],())=_;rw[List.append_nil]
 rw[e0] at hT;rw[hT];rfl
abbrev zTs:DTs:=(0,0,0,0,0,0,0,[])
def pg(C:CC) (T:TT') (p:PID):PG:=if p.1=-1 then (p.1,p.2,[],T.getD p.2.toNat zTs) else (p.1,p.2,((C.getD p.1.toNat []).drop (8*p.2.toNat)).take 8,zTs)
def SmT(T:TT'):Prop:=∀t∈T,Sm t.2.2.2.2.2.2.2
theorem AW{S:List Int}{i:Nat}{p:PID}:p∈jB S i↔∃j:Nat,j < kf (S.getD i 0)/\p=((i:Int),(j:Int)):=by
 unfold jB;simp only[List.mem_map,List.mem_range];exact⟨λ⟨j,h,e⟩=>⟨j,h,e.symm⟩,λ⟨j,h,e⟩=>⟨j,h,e.symm⟩⟩
theorem rg{S:List Int}{n:Nat}{p:PID}:p∈pgs S n↔(∃i j:Nat,i < S.length/\j < kf (S.getD i 0)/\p=((i:Int),(j:Int)))\/∃t:Nat,t < n/\p=(-1,(t:Int)):=by
 unfold pgs;simp only[List.mem_append,List.mem_flatMap,List.mem_range,AW,List.mem_map];constructor
 ·rintro (⟨i,hi,j,hj,e⟩ | ⟨t,ht,e⟩)
  ·exact .inl ⟨i,j,hi,hj,e⟩
  ·exact .inr ⟨t,ht,e.symm⟩
 ·rintro (⟨i,j,hi,hj,e⟩ | ⟨t,ht,e⟩)
  ·exact .inl ⟨i,hi,j,hj,e⟩
  ·exact .inr ⟨t,ht,e.symm⟩
theorem mp{S:List Int}{n:Nat}(h:Szs S) (hn:n<=4):(pgs S n).length<=20:=by
 have h1:=jE h S.length (Nat.le_refl _);have h2:=h.1;unfold pgs;rw[List.length_append,List.length_map,List.length_range];omega
theorem me{C:CC}{T:TT'}(h:shp C T):Szs (szs C):=⟨by rw[dF];exact h.1,(ox.2 h).2.2⟩
theorem xq{a:List DCn}(h:Sm a):ca a=some (a,()):=by
 unfold ca;rw[bt (by omega) h (by omega) (by have:=h;omega),oCT];rfl
theorem si{C:CC}{i:Nat}(h:i < C.length):(szs C).getD i 0=(C[i].length:Int):=by simp[szs,h]
theorem zK{l:List DCn}{a:Nat}(h:a<=l.length):Bt l a (Nat.sub (Nat.min (a+8) l.length) a)=(l.drop a).take 8:=by
 unfold Bt;rcases Nat.le_total (a+8) l.length with h1 | h1
 ·rw[show Nat.min (a+8) l.length=a+8 from Nat.min_eq_left h1,show Nat.sub (a+8) a=8 by show a+8 - a=8;omega]
 ·rw[show Nat.min (a+8) l.length=l.length from Nat.min_eq_right h1,show Nat.sub l.length a=(l.drop a).length by rw[List.length_drop];rfl,List.take_length,List.take_of_length_le (by rw[List.length_drop];omega)]
theorem wJ(a b:Nat):mmR false (a:Int) (b:Int)=(Nat.min a b:Nat):=by
 unfold mmR;simp only[Bool.false_eq_true,if_false];show _=((min a b:Nat):Int);split<;>omega
theorem zR{c:List DCn}{j:Nat}(h:j < kf (c.length:Int)):8*j < c.length:=by
 unfold kf at h;omega
theorem wz{C:CC}{T:TT'}{i j:Nat}(hi:i < C.length):pg C T ((i:Int),(j:Int))=((i:Int),(j:Int),((C[i].drop (8*j)).take 8),zTs):=by
 unfold pg;rw[oIN (by simp)];simp[hi]
theorem mq{C:CC}{T:TT'}{t:Nat}(ht:t < T.length):pg C T (-1,(t:Int))=(-1,(t:Int),[],T[t]):=by
 unfold pg;rw[oIP rfl];simp[ht]
def B5(x:PG):Int×Int×List DCn×Int×Int×Int×Int×Int×Int×Int×List DCn×Unit:=(x.1,x.2.1,x.2.2.1,x.2.2.2.1,x.2.2.2.2.1,x.2.2.2.2.2.1,x.2.2.2.2.2.2.1,x.2.2.2.2.2.2.2.1,x.2.2.2.2.2.2.2.2.1,x.2.2.2.2.2.2.2.2.2.1,x.2.2.2.2.2.2.2.2.2.2,())
theorem CL{C:CC}{T:TT'}(h:shp C T) (hT:SmT T) {p:PID}(hp:p∈pgs (szs C) T.length):fw C T p.1 p.2=some (B5 (pg C T p)):=by
 unfold fw;rcases rg.1 hp with ⟨i,j,hi,hj,rfl⟩ | ⟨t,ht,rfl⟩
 ·rw[dF] at hi;rw[si hi] at hj;have ZZ:=zR hj;have hok:=of_decide_eq_true (h.2.2 _ (List.getElem_mem hi));rw[oBF (show ((i:Int))≠-1 by omega),oCF,bD];simp only[oBS,bQ hi];unfold ic;delta bd;dsimp only;rw[oDF (show ¬ (j:Int) < 0 by omega),oCF,oDF (show ¬ (j:Int) > 32 by omega),oCF];simp only[oBS];rw[bI (x:=(j:Int)*8) (by omega) (by omega),oDF (show ¬ (j:Int)*8>=(C[i].length:Int) by omega),oCF,bI (x:=(j:Int)*8+8) (by omega) (by omega)];rw[show (j:Int)*8=((8*j:Nat):Int) by omega,show ((8*j:Nat):Int)+8=((8*j+8:Nat):Int) by omega,wJ,bD,bD];simp only[oBS]
  have ho:iX (8*j) (Nat.min (8*j+8) C[i].length) C[i].length=true:=by
   unfold iX;have h1:Nat.min (8*j+8) C[i].length=min (8*j+8) C[i].length:=rfl;rw[h1];simp only[oBA,oDE];omega
  rw[ho,oCT,zK (by omega)];simp only[oBS];rw[xq (by unfold Sm;rw[oLT];omega),wz hi];rfl
 ·have hs:Sm (T[t]'ht).2.2.2.2.2.2.2:=hT _ (List.getElem_mem ht);rw[show ((-1:Int)==-1)=true from rfl,oCT,bD];simp only[oBS,bQ ht];unfold gF;rw[xq hs,mq ht];rfl
theorem CM{C:CC}{T:TT'}(h:shp C T) (hT:SmT T) {p:PID}(hp:p∈pgs (szs C) T.length):en C T p.1 p.2=some ((pg C T p).1,(pg C T p).2.1,(pg C T p).2.2.1,(pg C T p).2.2.2.1,(pg C T p).2.2.2.2.1,(pg C T p).2.2.2.2.2.1,(pg C T p).2.2.2.2.2.2.1,(pg C T p).2.2.2.2.2.2.2.1,(pg C T p).2.2.2.2.2.2.2.2.1,(pg C T p).2.2.2.2.2.2.2.2.2.1,(pg C T p).2.2.2.2.2.2.2.2.2.2,0,()):=by
 unfold en;have h4:=h.1;rw[jx (by unfold Sm;omega),oBS];dsimp only;rw[oDT h];simp only[oNT,oCF];rcases rg.1 hp with ⟨i,j,hi,hj,rfl⟩ | ⟨t,ht,rfl⟩
 ·rw[dF] at hi;rw[si hi] at hj;have ZZ:=zR hj;have hok:=of_decide_eq_true (h.2.2 _ (List.getElem_mem hi));rw[oBF (show ((i:Int))≠-1 by omega),oCF];delta bd;dsimp only;rw[oDF (show ¬ (i:Int) < 0 by omega),oCF,oDF (show ¬ (i:Int)>=C.length by omega),oCF,oDF (show ¬ (j:Int) < 0 by omega),oCF,oDF (show ¬ (j:Int) > 32 by omega),oCF];rw[bD];simp only[oBS,bQ hi];rw[bI (x:=(j:Int)*8) (by omega) (by omega),oDF (show ¬ (j:Int)*8>=(C[i].length:Int) by omega),oCF,bD];simp only[oBS,bQ hi];rw[bI (x:=(j:Int)*8+8) (by omega) (by omega)];rw[show (j:Int)*8=((8*j:Nat):Int) by omega,show ((8*j:Nat):Int)+8=((8*j+8:Nat):Int) by omega,wJ,bD,bD];simp only[oBS]
  have ho:iX (8*j) (Nat.min (8*j+8) C[i].length) C[i].length=true:=by
   unfold iX;have h1:Nat.min (8*j+8) C[i].length=min (8*j+8) C[i].length:=rfl;rw[h1];simp only[oBA,oDE];omega
  rw[ho,oCT,zK (by omega),bt (by omega) (by rw[oLT];omega) (by omega) (by rw[oLT];omega),oCT,wz hi];rfl
 ·have hs:Sm (T[t]'ht).2.2.2.2.2.2.2:=hT _ (List.getElem_mem ht);rw[show ((-1:Int)==-1)=true from rfl,oCT];delta bd;dsimp only;rw[oDF (show ¬ (t:Int) < 0 by omega),oCF,oDF (show ¬ (t:Int)>=T.length by omega),oCF,bD];simp only[oBS,bQ ht];unfold cC;rw[bt (by omega) hs (by omega) (by have:=hs;omega),oCT,mq ht];rfl
theorem xK{C:CC}{T:TT'}(h:shp C T) (hT:SmT T):dE C T=some ((pgs (szs C) T.length).map (pg C T),0,()):=by
 unfold dE;have h4:=h.1
 have hS:Sm C:=by unfold Sm;omega
 rw[sD hS,oBS];dsimp only;rw[oDT h];simp only[oNT,oCF];rw[ma hS,oBS];delta bd;dsimp only;rw[BW (me h) h.2.1,oBS];dsimp only;have hlen:=mp (me h) h.2.1;have hg:∀p∈pgs (szs C) T.length,fw C T p.1 p.2=some (B5 (pg C T p)):=λp hp=>CL h hT hp;generalize pgs (szs C) T.length=ps at hlen hg ⊢
 have step:∀i,i < ps.length->cE ((ps.length:Int),(i:Int),C,T,ps,(ps.take i).map (pg C T),())=some (.inl ((ps.length:Int),((i+1:Nat):Int),C,T,ps,(ps.take (i+1)).map (pg C T),())):=by
  intro i hi;unfold cE;dsimp only;rw[oDT (show (i:Int) < ps.length by omega),oCT,bD];simp only[oBS,bQ hi,hg _ (List.getElem_mem hi)];rw[bt (by rw[List.length_map,oLT];omega) (by simp) (by omega) (by rw[List.length_map,oLT,List.length_singleton];omega),oCT,bI (by omega) (by omega),<- fN hi];rfl
 have fin:cE ((ps.length:Int),(ps.length:Int),C,T,ps,(ps.take ps.length).map (pg C T),())=some (.inr ((ps.length:Int),(ps.length:Int),false,C,T,ps,(ps.take ps.length).map (pg C T),())):=by
  unfold cE;dsimp only;rw[oDF (show ¬ (ps.length:Int) < ps.length by omega)];rfl
 have:=cU (f:=cE) (λi=>((ps.length:Int),(i:Int),C,T,ps,(ps.take i).map (pg C T),())) (n:=ps.length) (N:=NN) (by unfold NN;omega) step fin;rw[show bq cE NN ((ps.length:Int),0,C,T,ps,[],())=_ from this,List.take_length];rfl
theorem xJ{C:CC}{T:TT'}(h:¬ shp C T) (hS:Sm C):dE C T=some ([],1,()):=by
 unfold dE;rw[sD hS,oBS];dsimp only;rw[oDF h];rfl
theorem Cg{C:CC}{T:TT'}(h:shp C T) (hT:SmT T):fu C T=some ((pgs (szs C) T.length).map (pg C T),0,()):=by
 unfold fu;have h4:=h.1
 have hS:Sm C:=by unfold Sm;omega
 rw[kj hS,oBS];delta bd;dsimp only;rw[BX (me h) h.2.1,oBS];dsimp only;simp only[bne_self_eq_false,oCF];have hlen:=mp (me h) h.2.1;have hg:=λp hp=>CM h hT (p:=p) hp;generalize pgs (szs C) T.length=ps at hlen hg ⊢
 have step:∀i,i < ps.length->cD ((i:Int),C,T,ps,(ps.take i).map (pg C T),())=some (.inl (((i+1:Nat):Int),C,T,ps,(ps.take (i+1)).map (pg C T),())):=by
  intro i hi;unfold cD;delta bd;dsimp only;rw[oDT (show (i:Int) < ps.length by omega),oCT,bD];simp only[oBS,bQ hi,hg _ (List.getElem_mem hi)];rw[bt (by rw[List.length_map,oLT];omega) (by simp) (by omega) (by rw[List.length_map,oLT,List.length_singleton];omega),oCT,bI (by omega) (by omega),<- fN hi];rfl
 have fin:cD ((ps.length:Int),C,T,ps,(ps.take ps.length).map (pg C T),())=some (.inr ((ps.length:Int),false,C,T,ps,(ps.take ps.length).map (pg C T),())):=by
  unfold cD;delta bd;dsimp only;rw[oDF (show ¬ (ps.length:Int) < ps.length by omega)];rfl
 have:=cU (f:=cD) (λi=>((i:Int),C,T,ps,(ps.take i).map (pg C T),())) (n:=ps.length) (N:=NN) (by unfold NN;omega) step fin;rw[show bq cD NN (0,C,T,ps,[],())=_ from this,List.take_length];rfl
def uU(C:CC) (T:TT') (D:CC) (U:TT'):Prop:=shp C T/\shp D U/\szs C=szs D/\T.length=U.length
instance {C:CC} {T:TT'} {D:CC} {U:TT'}:Decidable (uU C T D U):=inferInstanceAs (Decidable (_/\_/\_/\_))
def dif(C:CC) (T:TT') (D:CC) (U:TT'):List PID:=(pgs (szs C) T.length).filter λp=>!decide (pg C T p=pg D U p)
theorem lZ{α:Type}{q:α->Bool}{l:List α}{i:Nat}(h:i < l.length):(l.take (i+1)).filter q=(l.take i).filter q++bif q l[i] then [l[i]] else []:=by
 rw[<- lB h,List.filter_append];congr 1
theorem BQ{C:CC}{T:TT'}(p:PID):((pg C T p).1,(pg C T p).2.1)=p:=by
 unfold pg;split<;>rfl
theorem BI{C:CC}{T:TT'}(h:shp C T) (hT:SmT T) {p:PID}(hp:p∈pgs (szs C) T.length):Sm (pg C T p).2.2.1/\Sm (pg C T p).2.2.2.2.2.2.2.2.2.2:=by
 rcases rg.1 hp with ⟨i,j,hi,hj,rfl⟩ | ⟨t,ht,rfl⟩
 ·rw[dF] at hi;rw[wz hi];exact⟨by unfold Sm;rw[oLT];omega,by unfold Sm;simp⟩
 ·rw[mq ht];exact⟨by unfold Sm;simp,hT _ (List.getElem_mem ht)⟩
theorem A9{C:CC}{T:TT'}{D:CC}{U:TT'}(h:shp C T):(dif C T D U).length<=20:=Nat.le_trans (List.length_filter_le _ _) (mp (me h) h.2.1)
theorem xE{C:CC}{T:TT'}{D:CC}{U:TT'}(h:uU C T D U) (hT:SmT T) (hU:SmT U):bG C T D U=some (dif C T D U,0,()):=by
 unfold bG;obtain⟨h1,h2,h3,h4⟩:=h;have k1:=h1.1;have k2:=h2.1
 have hC:Sm C:=by unfold Sm;omega
 have hD:Sm D:=by unfold Sm;omega
 rw[xK h1 hT,oBS];dsimp only;rw[xK h2 hU,oBS];dsimp only;simp only[bne_self_eq_false,oCF];rw[ma hC,oBS];dsimp only;rw[ma hD,oBS];dsimp only;rw[zT (by unfold Sm;rw[dF];omega),oBS,oDT h3];delta bd;simp only[oNT,oCF,oBS];rw[nW h4,oCF,<- h3,<- h4];unfold dif;have hlen:=mp (me h1) h1.2.1;have hm:∀p∈pgs (szs C) T.length,Sm (pg C T p).2.2.1/\Sm (pg C T p).2.2.2.2.2.2.2.2.2.2:=λp hp=>BI h1 hT hp;generalize pgs (szs C) T.length=ps at hlen hm ⊢;rw[List.length_map]
 have step:∀i,i < ps.length->bN ((ps.length:Int),(i:Int),ps.map (pg C T),ps.map (pg D U),(ps.take i).filter (λp=>!decide (pg C T p=pg D U p)),()) =
  some (.inl ((ps.length:Int),((i+1:Nat):Int),ps.map (pg C T),ps.map (pg D U),(ps.take (i+1)).filter (λp=>!decide (pg C T p=pg D U p)),())):=by
  intro i hi
  have Wp:i < (ps.map (pg C T)).length:=by rw[List.length_map];exact hi
  have hi2:i < (ps.map (pg D U)).length:=by rw[List.length_map];exact hi
  obtain⟨m1,m2⟩:=hm _ (List.getElem_mem hi);unfold bN;dsimp only;rw[oDT (show (i:Int) < ps.length by omega),oCT,bD];simp only[oBS,bQ Wp,bQ hi2,List.getElem_map];rw[A8 m1 m2];simp only[oBS];rw[lZ hi];by_cases e:pg C T ps[i]=pg D U ps[i]
  ·rw[oDT e];simp only[oNT,oCF,oBS,List.append_nil];rw[bI (by omega) (by omega)];rfl
  ·rw[oDF e];simp only[Bool.not_false,oCT,oBS];have hf:=List.length_filter_le (λp=>!decide (pg C T p=pg D U p)) (ps.take i);rw[oLT] at hf;rw[bt (Nat.le_trans hf (by omega)) (by simp) (by omega) (Nat.le_trans (Nat.add_le_add_right hf _) (by rw[List.length_singleton];omega)),oCT,BQ];simp only[oBS];rw[bI (by omega) (by omega)];rfl
 have fin:bN ((ps.length:Int),(ps.length:Int),ps.map (pg C T),ps.map (pg D U),(ps.take ps.length).filter (λp=>!decide (pg C T p=pg D U p)),()) =
  some (.inr ((ps.length:Int),(ps.length:Int),false,ps.map (pg C T),ps.map (pg D U),(ps.take ps.length).filter (λp=>!decide (pg C T p=pg D U p)),())):=by
  unfold bN;dsimp only;rw[oDF (show ¬ (ps.length:Int) < ps.length by omega)];rfl
 have:=cU (f:=bN) (λi=>((ps.length:Int),(i:Int),ps.map (pg C T),ps.map (pg D U),(ps.take i).filter (λp=>!decide (pg C T p=pg D U p)),())) (n:=ps.length) (N:=NN) (by unfold NN;omega) step fin;rw[show bq bN NN ((ps.length:Int),0,ps.map (pg C T),ps.map (pg D U),[],())=_ from this,List.take_length];rfl
theorem uQ{C:CC}{T:TT'}{D:CC}{U:TT'}(h:¬ uU C T D U) (hC:Sm C) (hD:Sm D) (hT:SmT T) (hU:SmT U):bG C T D U=some ([],1,()):=by
 unfold bG;by_cases h1:shp C T
 rotate_left
 ·rw[xJ h1 hC,oBS];dsimp only;by_cases h2:shp D U
  ·rw[xK h2 hU];rfl
  ·rw[xJ h2 hD];rfl
 rw[xK h1 hT,oBS];dsimp only;by_cases h2:shp D U
 rotate_left
 ·rw[xJ h2 hD];rfl
 rw[xK h2 hU,oBS];dsimp only;simp only[bne_self_eq_false,oCF];rw[ma hC,oBS];dsimp only;rw[ma hD,oBS];dsimp only;rw[zT (by unfold Sm;rw[dF];exact hC),oBS];by_cases h3:szs C=szs D
 rotate_left
 ·rw[oDF h3];rfl
 rw[oDT h3];delta bd;simp only[oNT,oCF,oBS];rw[kA λh4=>h ⟨h1,h2,h3,h4⟩];rfl
theorem xF{C:CC}{T:TT'}{D:CC}{U:TT'}(h:uU C T D U) (hT:SmT T) (hU:SmT U):bT C T D U=some (dif C T D U,0,()):=by
 unfold bT;obtain⟨h1,h2,h3,h4⟩:=h;have k1:=h1.1;have k2:=h2.1
 have hC:Sm C:=by unfold Sm;omega
 have hD:Sm D:=by unfold Sm;omega
 rw[jx hC,oDT h1,oBS];dsimp only;rw[jx hD,oDT h2,oBS];simp only[oNT,oCF];rw[kj hC,oBS];dsimp only;rw[kj hD,oBS];dsimp only;rw[pH (by unfold Sm;rw[dF];omega),oBS,oDT h3];delta bd;simp only[oNT,oCF,oBS];rw[nW h4,oCF,Cg h1 hT,oBS];dsimp only;rw[Cg h2 hU,oBS,<- h3,<- h4];dsimp only;unfold dif;have hlen:=mp (me h1) h1.2.1;have hm:∀p∈pgs (szs C) T.length,Sm (pg C T p).2.2.1/\Sm (pg C T p).2.2.2.2.2.2.2.2.2.2:=λp hp=>BI h1 hT hp;generalize pgs (szs C) T.length=ps at hlen hm ⊢
 have step:∀i,i < ps.length->bM ((i:Int),ps.map (pg C T),ps.map (pg D U),(ps.take i).filter (λp=>!decide (pg C T p=pg D U p)),()) =
  some (.inl (((i+1:Nat):Int),ps.map (pg C T),ps.map (pg D U),(ps.take (i+1)).filter (λp=>!decide (pg C T p=pg D U p)),())):=by
  intro i hi
  have Wp:i < (ps.map (pg C T)).length:=by rw[List.length_map];exact hi
  have hi2:i < (ps.map (pg D U)).length:=by rw[List.length_map];exact hi
  obtain⟨m1,m2⟩:=hm _ (List.getElem_mem hi);unfold bM;delta bd;dsimp only;rw[oDT (show (i:Int) < ((ps.map (pg C T)).length:Int) by omega),oCT,bD];simp only[oBS,bQ Wp,bQ hi2,List.getElem_map];rw[A7 m1 m2];simp only[oBS];rw[lZ hi];by_cases e:pg C T ps[i]=pg D U ps[i]
  ·rw[oDT e];simp only[oNT,oCF,oBS,List.append_nil];rw[bI (by omega) (by omega)];rfl
  ·rw[oDF e];simp only[Bool.not_false,oCT,oBS];have hf:=List.length_filter_le (λp=>!decide (pg C T p=pg D U p)) (ps.take i);rw[oLT] at hf;rw[bt (Nat.le_trans hf (by omega)) (by simp) (by omega) (Nat.le_trans (Nat.add_le_add_right hf _) (by rw[List.length_singleton];omega)),oCT,BQ];simp only[oBS];rw[bI (by omega) (by omega)];rfl
 have fin:bM ((ps.length:Int),ps.map (pg C T),ps.map (pg D U),(ps.take ps.length).filter (λp=>!decide (pg C T p=pg D U p)),()) =
  some (.inr ((ps.length:Int),false,ps.map (pg C T),ps.map (pg D U),(ps.take ps.length).filter (λp=>!decide (pg C T p=pg D U p)),())):=by
  unfold bM;delta bd;dsimp only;rw[oDF (show ¬ (ps.length:Int) < ((ps.map (pg C T)).length:Int) by rw[List.length_map];omega)];rfl
 have:=cU (f:=bM) (λi=>((i:Int),ps.map (pg C T),ps.map (pg D U),(ps.take i).filter (λp=>!decide (pg C T p=pg D U p)),())) (n:=ps.length) (N:=NN) (by unfold NN;omega) step fin;rw[show bq bM NN (0,ps.map (pg C T),ps.map (pg D U),[],())=_ from this,List.take_length];rfl
theorem uR{C:CC}{T:TT'}{D:CC}{U:TT'}(h:¬ uU C T D U) (hC:Sm C) (hD:Sm D):bT C T D U=some ([],1,()):=by
 unfold bT;rw[jx hC,oBS];dsimp only;by_cases h1:shp C T
 rotate_left
 ·rw[oDF h1];rfl
 rw[oDT h1];simp only[oNT,oCF];rw[jx hD,oBS];dsimp only;by_cases h2:shp D U
 rotate_left
 ·rw[oDF h2];rfl
 rw[oDT h2];simp only[oNT,oCF];rw[kj hC,oBS];dsimp only;rw[kj hD,oBS];dsimp only;rw[pH (by unfold Sm;rw[dF];exact hC),oBS];by_cases h3:szs C=szs D
 rotate_left
 ·rw[oDF h3];rfl
 rw[oDT h3];delta bd;simp only[oNT,oCF,oBS];rw[kA λh4=>h ⟨h1,h2,h3,h4⟩];rfl
theorem CI{x n:Int}(hn:0 < n) (W1:n<=1099511627776):∃y,js x n=some (y,())/\0<=y/\y < n:=by
 unfold js ji;rw[bne_iff_ne.2 (show n≠0 by omega),oCT];have h1:=Int.lt_tmod_of_pos x hn;have h2:=Int.tmod_lt_of_pos x hn;dsimp only;by_cases h:Int.tmod x n < 0
 ·rw[oDT h,oCT,bI (by omega) (by omega)];exact⟨_,rfl,by omega,by omega⟩
 ·rw[oDF h,oCF];exact⟨_,rfl,by omega,by omega⟩
theorem dt{n:Int}(hn:0 < n) (W1:n<=1099511627776) {l:List Int}(hl:l.length<=400) {k:Int}(hk:0<=k):∃x k',be n l k=some (x,l,k',())/\0<=x/\x < n/\0<=k':=by
 unfold be;delta bd;dsimp only;by_cases h:k>=l.length
 ·rw[oDT h,oCT];exact⟨0,k,rfl,by omega,hn,hk⟩
 ·rw[oDF h,oCF,bI (x:=k+1) (by omega) (by omega),bI (by omega) (by omega)];obtain⟨i,rfl⟩:∃i:Nat,k=i:=⟨k.toNat,by omega⟩
  have hi:i < l.length:=by omega
  rw[show (i:Int)+1 - 1=i by omega,bD];simp only[oBS,bQ hi];obtain⟨y,e,h1,h2⟩:=CI (x:=l[i]) hn W1;rw[e];exact⟨y,(i:Int)+1,rfl,h1,h2,by omega⟩
theorem xx{l:List Int}(hl:l.length<=400) {k:Int}(hk:0<=k):∃(c:DCn) (k':Int),df l k=some (c.1,c.2.1,c.2.2.1,c.2.2.2,l,k',())/\0<=k':=by
 unfold df;obtain⟨x,k1,e,_,_,h1⟩:=dt (n:=5) (by omega) (by omega) hl hk;rw[e];simp only[oBS];by_cases h:x=4
 ·rw[beq_iff_eq.2 h,oCT];obtain⟨x2,k2,e,_,_,h2⟩:=dt (n:=3) (by omega) (by omega) hl h1;rw[e];simp only[oBS];obtain⟨x3,k3,e,_,_,h3⟩:=dt (n:=8) (by omega) (by omega) hl h2;rw[e];exact⟨(1,0,x2,x3),k3,rfl,h3⟩
 ·rw[oBF h,oCF];obtain⟨x2,k2,e,_,_,h2⟩:=dt (n:=40) (by omega) (by omega) hl h1;rw[e];exact⟨(0,wk .u16 x2,0,0),k2,rfl,h2⟩
theorem zL{l:List Int}(hl:l.length<=400) {k:Int}(hk:0<=k):∃(v:DTs) (k':Int),eJ l k=some (v.1,v.2.1,v.2.2.1,v.2.2.2.1,v.2.2.2.2.1,v.2.2.2.2.2.1,v.2.2.2.2.2.2.1,v.2.2.2.2.2.2.2,l,k',())/\v.2.2.2.2.2.2.2.length<=8/\0<=k':=by
 unfold eJ;obtain⟨x1,k1,e,_,_,h1⟩:=dt (n:=5) (by omega) (by omega) hl hk;rw[e];simp only[oBS];obtain⟨x2,k2,e,_,_,h2⟩:=dt (n:=20) (by omega) (by omega) hl h1;rw[e];simp only[oBS];obtain⟨x3,k3,e,_,_,h3⟩:=dt (n:=30) (by omega) (by omega) hl h2;rw[e];simp only[oBS];obtain⟨x4,k4,e,_,_,h4⟩:=dt (n:=4) (by omega) (by omega) hl h3;rw[e];simp only[oBS];obtain⟨x5,k5,e,_,_,h5⟩:=dt (n:=4) (by omega) (by omega) hl h4;rw[e];simp only[oBS];obtain⟨x6,k6,e,_,_,h6⟩:=dt (n:=7) (by omega) (by omega) hl h5;rw[e];simp only[oBS];obtain⟨x7,k7,e,_,_,h7⟩:=dt (n:=9) (by omega) (by omega) hl h6;rw[e];simp only[oBS]
 let st:Int->Int->List DCn->_:=λi k r=>(i,l,k,(0:Int),(0:Int),(0:Int),(0:Int),(0:Int),(0:Int),(0:Int),(),x1,x2,x3,w64 (x4 - 1),w64 (x5 - 1),x6,wk .u16 x7,r,())
 have step:∀(i:Nat) (k:Int) (r:List DCn),0<=k->r.length=i->i < 8->∃(k':Int) (r':List DCn),0<=k'/\r'.length=i+1/\cM (st i k r)=some (.inl (st ((i+1:Nat):Int) k' r')):=by
  intro i k r hk hr hi;show ∃(k':Int) (r':List DCn),0<=k'/\r'.length=i+1/\cM ((i:Int),l,k,0,0,0,0,0,0,0,(),x1,x2,x3,w64 (x4 - 1),w64 (x5 - 1),x6,wk .u16 x7,r,())=_;unfold cM;dsimp only;rw[oDT (show (i:Int) < 8 by omega),oCT];obtain⟨c,k',e,Y9⟩:=xx hl hk;rw[e];simp only[oBS];rw[bt (by omega) (by simp) (by omega) (by rw[List.length_singleton];omega),oCT,bI (by omega) (by omega)];exact⟨k',r++[c],Y9,by rw[List.length_append,List.length_singleton,hr],rfl⟩
 have go:∀j i:Nat,i+j=8->∀(k:Int) (r:List DCn),0<=k->r.length=i->∀N,j < N->∃k' r',0<=k'/\r'.length=8/\bq cM N (st i k r)=some (8,false,l,k',0,0,0,0,0,0,0,(),x1,x2,x3,w64 (x4 - 1),w64 (x5 - 1),x6,wk .u16 x7,r',()):=by
  intro j
  induction j with
  | zero=>
   intro i hi k r hk hr N hN;obtain⟨N,rfl⟩:∃m,N=m+1:=⟨N - 1,by omega⟩;refine⟨k,r,hk,by omega,?_⟩
   obtain rfl:i=8:=by omega
   rfl
  | succ j ih=>
   intro i hi k r hk hr N hN;obtain⟨N,rfl⟩:∃m,N=m+1:=⟨N - 1,by omega⟩;obtain⟨k1,r1,Zf,Z7,e⟩:=step i k r hk hr (by omega);obtain⟨k2,r2,YG,W6,e2⟩:=ih (i+1) (by omega) k1 r1 Zf Z7 N (by omega);refine⟨k2,r2,YG,W6,?_⟩;simp only[bq,e,oBS];exact e2
 obtain⟨k8,r,Qi,hr,e⟩:=go 8 0 rfl k7 [] h7 rfl NN (by unfold NN;omega);rw[show bq cM NN (0,l,k7,0,0,0,0,0,0,0,(),x1,x2,x3,w64 (x4 - 1),w64 (x5 - 1),x6,wk .u16 x7,[],())=_ from e];exact⟨(x1,x2,x3,w64 (x4 - 1),w64 (x5 - 1),x6,wk .u16 x7,r),k8,rfl,by show r.length<=8;omega,Qi⟩
def u5(C:CC) (T:TT'):Prop:=1<=C.length/\shp C T/\SmT T
theorem Ah{l:List Int}(hl:l.length<=400) {k:Int}(hk:0<=k):∃(C:CC) (T:TT') (k':Int),dR l k=some (C,T,l,k',())/\u5 C T/\0<=k':=by
 unfold dR;obtain⟨x1,k1,e,a1,b1,h1⟩:=dt (n:=3) (by omega) (by omega) hl hk;rw[e];simp only[oBS]
 have row:∀(j:Nat) (o:Int) (C:CC) (k:Int) (r:List DCn),0<=k->r.length+j<=32->∀N,j < N->∃k' r',0<=k'/\r'.length=r.length+j /\
  bq dB N (o,(j:Int) - 1,l,k,(),(),C,(),r,())=some (o,-1,false,l,k',(),(),C,(),r',()):=by
  intro j o C
  induction j with
  | zero=>
   intro k r hk hr N hN;obtain⟨N,rfl⟩:∃m,N=m+1:=⟨N - 1,by omega⟩;exact⟨k,r,hk,by omega,rfl⟩
  | succ j ih=>
   intro k r hk hr N hN;obtain⟨N,rfl⟩:∃m,N=m+1:=⟨N - 1,by omega⟩;obtain⟨c,k1,e,Zf⟩:=xx hl hk
   have e1:dB (o,((j+1:Nat):Int) - 1,l,k,(),(),C,(),r,())=some (.inl (o,(j:Int) - 1,l,k1,(),(),C,(),r++[c],())):=by
    unfold dB;dsimp only;rw[oDT (show ((j+1:Nat):Int) - 1>=0 by omega),oCT,e];simp only[oBS];rw[bt (by omega) (by simp) (by omega) (by rw[List.length_singleton];omega),oCT,bI (by omega) (by omega),show ((j+1:Nat):Int) - 1 - 1=(j:Int) - 1 by omega];rfl
   obtain⟨k2,r2,YG,W6,e2⟩:=ih k1 (r++[c]) Zf (by rw[List.length_append,List.length_singleton];omega) N (by omega);refine⟨k2,r2,YG,by rw[W6,List.length_append,List.length_singleton];omega,?_⟩;simp only[bq,e1,oBS];exact e2
 have TD:∀(j:Nat) (C:CC) (k:Int),0<=k->C.length+j<=4->(∀c∈C,okZ (c.length:Int)=true)->∀N,j < N->∃k' C',0<=k'/\C'.length=C.length+j/\(∀c∈C',okZ (c.length:Int)=true) /\
  bq dA N ((j:Int) - 1,l,k,(),(),C,(),())=some (-1,false,l,k',(),(),C',(),()):=by
  intro j
  induction j with
  | zero=>
   intro C k hk hC ho N hN;obtain⟨N,rfl⟩:∃m,N=m+1:=⟨N - 1,by omega⟩;exact⟨k,C,hk,by omega,ho,rfl⟩
  | succ j ih=>
   intro C k hk hC ho N hN;obtain⟨N,rfl⟩:∃m,N=m+1:=⟨N - 1,by omega⟩;obtain⟨y,k1,e,ya,yb,Zf⟩:=dt (n:=24) (by omega) (by omega) hl hk;obtain⟨k2,r,YG,hr,e2⟩:=row (y.toNat+1) (((j+1:Nat):Int) - 1) C k1 [] Zf (by rw[List.length_nil];omega) NN (by unfold NN;omega);rw[show ((y.toNat+1:Nat):Int) - 1=y by omega] at e2;rw[List.length_nil] at hr
   have e1:dA (((j+1:Nat):Int) - 1,l,k,(),(),C,(),())=some (.inl ((j:Int) - 1,l,k2,(),(),C++[r],(),())):=by
    unfold dA;dsimp only;rw[oDT (show ((j+1:Nat):Int) - 1>=0 by omega),oCT,e];simp only[oBS];rw[e2];simp only[oBS];rw[bt (by omega) (by simp) (by omega) (by rw[List.length_singleton];omega),oCT,bI (by omega) (by omega),show ((j+1:Nat):Int) - 1 - 1=(j:Int) - 1 by omega];rfl
   obtain⟨k3,C3,VE,PL,TQ,e3⟩:=ih (C++[r]) k2 YG (by rw[List.length_append,List.length_singleton];omega) (by
    intro c hc;rcases List.mem_append.1 hc with hc | hc
    ·exact ho c hc
    ·rw[List.mem_singleton.1 hc]
     exact oDT (by omega)) N (by omega)
   refine⟨k3,C3,VE,by rw[PL,List.length_append,List.length_singleton];omega,TQ,?_⟩;simp only[bq,e1,oBS];exact e3
 obtain⟨k2,C,YG,hC,ho,e2⟩:=TD (x1.toNat+1) [] k1 h1 (by rw[List.length_nil];omega) (by simp) NN (by unfold NN;omega);rw[show ((x1.toNat+1:Nat):Int) - 1=x1 by omega] at e2;rw[List.length_nil] at hC;rw[e2];simp only[oBS];obtain⟨x3,k3,e,a3,b3,h3⟩:=dt (n:=4) (by omega) (by omega) hl YG;rw[e];simp only[oBS]
 have Q0:∀(j:Nat) (T:TT') (k:Int),0<=k->T.length+j<=4->SmT T->∀N,j < N->∃k' T',0<=k'/\T'.length=T.length+j/\SmT T' /\
  bq dz N ((j:Int),l,k,(),(),C,T,())=some (0,false,l,k',(),(),C,T',()):=by
  intro j
  induction j with
  | zero=>
   intro T k hk hT hs N hN;obtain⟨N,rfl⟩:∃m,N=m+1:=⟨N - 1,by omega⟩;exact⟨k,T,hk,by omega,hs,rfl⟩
  | succ j ih=>
   intro T k hk hT hs N hN;obtain⟨N,rfl⟩:∃m,N=m+1:=⟨N - 1,by omega⟩;obtain⟨v,k1,e,hv,Zf⟩:=zL hl hk
   have e1:dz (((j+1:Nat):Int),l,k,(),(),C,T,())=some (.inl ((j:Int),l,k1,(),(),C,T++[v],())):=by
    unfold dz;dsimp only;rw[oDT (show ((j+1:Nat):Int) > 0 by omega),oCT,e];simp only[oBS];rw[bt (by omega) (by simp) (by omega) (by rw[List.length_singleton];omega),oCT,bI (by omega) (by omega),show ((j+1:Nat):Int) - 1=(j:Int) by omega];rfl
   obtain⟨k3,T3,VE,PS,QC,e3⟩:=ih (T++[v]) k1 Zf (by rw[List.length_append,List.length_singleton];omega) (by
    intro t ht;rcases List.mem_append.1 ht with ht | ht
    ·exact hs t ht
    ·rw[List.mem_singleton.1 ht];unfold Sm
     omega) N (by omega)
   refine⟨k3,T3,VE,by rw[PS,List.length_append,List.length_singleton];omega,QC,?_⟩;simp only[bq,e1,oBS];exact e3
 obtain⟨k4,T,Qh,hT,hs,e4⟩:=Q0 x3.toNat [] k3 h3 (by rw[List.length_nil];omega) (by intro t ht;simp at ht) NN (by unfold NN;omega);rw[show ((x3.toNat:Nat):Int)=x3 by omega] at e4;rw[List.length_nil] at hT;rw[e4];exact⟨C,T,k4,rfl,⟨by omega,⟨by omega,by omega,ho⟩,hs⟩,Qh⟩
theorem zq{v:DTs}(h:Sm v.2.2.2.2.2.2.2):cC v.1 v.2.1 v.2.2.1 v.2.2.2.1 v.2.2.2.2.1 v.2.2.2.2.2.1 v.2.2.2.2.2.2.1 v.2.2.2.2.2.2.2=some (v.1,v.2.1,v.2.2.1,v.2.2.2.1,v.2.2.2.2.1,v.2.2.2.2.2.1,v.2.2.2.2.2.2.1,v.2.2.2.2.2.2.2,()):=by
 unfold cC;rw[bt (by omega) h (by omega) (by have:=h;omega),oCT];rfl
theorem zV{C:CC}{T:TT'}(h:shp C T) (hT:SmT T):dJ C T=some (C,T,()):=by
 unfold dJ;have h4:=h.1
 have step:∀i,i < C.length->cn ((i:Int),C,T,(),(),C.take i,(),())=some (.inl (((i+1:Nat):Int),C,T,(),(),C.take (i+1),(),())):=by
  intro i hi;have hok:=of_decide_eq_true (h.2.2 _ (List.getElem_mem hi));unfold cn;delta bd;dsimp only;rw[oDT (show (i:Int) < C.length by omega),oCT,bD];simp only[oBS,bQ hi];rw[bt (by omega) (by omega) (by omega) (by omega),oCT,bt (by rw[oLT];omega) (by simp) (by omega) (by rw[oLT,List.length_singleton];omega),oCT,bI (by omega) (by omega),<- lB hi];rfl
 have fin:cn ((C.length:Int),C,T,(),(),C.take C.length,(),())=some (.inr ((C.length:Int),false,C,T,(),(),C.take C.length,(),())):=by
  unfold cn;delta bd;dsimp only;rw[oDF (show ¬ (C.length:Int) < C.length by omega)];rfl
 have:=cU (f:=cn) (λi=>((i:Int),C,T,(),(),C.take i,(),())) (n:=C.length) (N:=NN) (by unfold NN;omega) step fin;rw[show bq cn NN (0,C,T,(),(),[],(),())=_ from this,List.take_length,oBS];dsimp only;have t4:=h.2.1
 have UZ:∀i,i < T.length->cl ((i:Int),C,T,(),(),C,T.take i,())=some (.inl (((i+1:Nat):Int),C,T,(),(),C,T.take (i+1),())):=by
  intro i hi;unfold cl;delta bd;dsimp only;rw[oDT (show (i:Int) < T.length by omega),oCT,bD];simp only[oBS,bQ hi,zq (hT _ (List.getElem_mem hi))];rw[bt (by rw[oLT];omega) (by simp) (by omega) (by rw[oLT,List.length_singleton];omega),oCT,bI (by omega) (by omega),<- lB hi];rfl
 have R9:cl ((T.length:Int),C,T,(),(),C,T.take T.length,())=some (.inr ((T.length:Int),false,C,T,(),(),C,T.take T.length,())):=by
  unfold cl;delta bd;dsimp only;rw[oDF (show ¬ (T.length:Int) < T.length by omega)];rfl
 have:=cU (f:=cl) (λi=>((i:Int),C,T,(),(),C,T.take i,())) (n:=T.length) (N:=NN) (by unfold NN;omega) UZ R9;rw[show bq cl NN (0,C,T,(),(),C,[],())=_ from this,List.take_length];rfl
def Bp(C:CC) (T:TT') (D:CC) (U:TT'):Prop:=szs D=szs C/\U.length=T.length/\SmT U
theorem sN{C:CC}{T:TT'}{D:CC}{U:TT'}(h:Bp C T D U) (hs:shp C T):shp D U:=by
 rw[<- ox,h.1,h.2.1];exact ox.2 hs
theorem nK{C D:CC}(h:szs D=szs C):D.length=C.length:=by rw[<- dF D,h,dF]
theorem tM{C:CC}{i:Nat}{f:List DCn->List DCn}(h:∀c,(f c).length=c.length):szs (C.modify i f)=szs C:=by
 unfold szs;apply List.ext_getElem?;intro j;rw[List.getElem?_map,List.getElem?_map,List.getElem?_modify]
 cases C[j]? with
 | none=>simp
 | some c=>
  simp only[oMS];split
  ·simp[h]
  ·simp
theorem tQ{T:TT'}{i:Nat}{v:DTs}(h:SmT T) (hv:Sm v.2.2.2.2.2.2.2):SmT (T.modify i λ_=>v):=by
 intro t ht;obtain⟨j,hj⟩:=List.mem_iff_getElem?.1 ht;rw[List.getElem?_modify] at hj
 cases e:T[j]? with
 | none=>rw[e] at hj;simp at hj
 | some u=>
  rw[e] at hj;have hj:some (if i=j then v else u)=some t:=hj
  injection hj with hj
  split at hj
  ·rw[<- hj];exact hv
  ·rw[<- hj];exact h _ (List.mem_of_getElem? e)
theorem BT{C:CC}{T:TT'}(h:u5 C T) {n:Int}(hn:0<=n) (W1:n < 6) {l:List Int}(hl:l.length<=400) {k:Int}(hk:0<=k) :
 ∃(D:CC) (U:TT') (k':Int),eK C T n l k=some (D,U,l,k',())/\Bp C T D U/\0<=k':=by
 unfold eK;rw[zV h.2.1 h.2.2,oBS];dsimp only
 obtain⟨t,e,D,U,k',h1,h2,h3⟩:=nH (f:=ft) (λs=>∃(i:Nat) (k:Int) (D:CC) (U:TT'),s=(n,(i:Int),l,k,(),(),D,U,())/\(i:Int)<=n/\0<=k/\Bp C T D U)
  (λt=>∃(D:CC) (U:TT') (k:Int),t=(n,n,false,l,k,(),(),D,U,())/\0<=k/\Bp C T D U) (λs=>(n - s.2.1).toNat) (n:=NN) (s:=(n,0,l,k,(),(),C,T,())) ⟨0,k,C,T,rfl,hn,hk,rfl,rfl,h.2.2⟩ (by unfold NN;show (n - 0).toNat < _;omega) (by
  rintro s ⟨i,k,D,U,rfl,hi,hk,hL⟩;unfold ft;delta bd;dsimp only;have O':=nK hL.1;have O6:=h.1;have O7:=h.2.1.1;have hU:=hL.2.1;have O8:=h.2.1.2.1;by_cases hin:(i:Int) < n
  rotate_left
  ·rw[oDF hin]
   obtain rfl:(i:Int)=n:=by omega
   exact⟨_,rfl,D,U,k,rfl,hk,hL⟩
  rw[oDT hin,oCT]
  have TX:∀k0,0<=k0->Ok (((be (↑D.length) l k0).bind λ(x10,x11,x12,_)=>
   (dN x10).bind λU0=>
   (cw D U0).bind λPm=>
   (cw D U0).bind λPn=>
   (dN x10).bind λTE=>
   (cw D TE).bind λPo=>
   (cw D TE).bind λPp=>
   (cw D TE).bind λQ4=>
   (be (↑Q4.length) x11 x12).bind λ(x21,x22,x23,_)=>
   (df x22 x23).bind λ(x24,x25,x26,x27,x28,x29,_)=>
   (dN x21).bind λTF=>
   (cw D U0).bind λQ5=>
   (cw Q5 TF).bind λPq=>
   (cw D U0).bind λQ6=>
   (cw Q6 TF).bind λPr=>
   some (n,(i:Int),x28,x29,(),(),(List.modify D U0 λe=>(List.modify e TF λe=>(x24,(x25,(x26,x27))))),U,())):Option (Int×Int×(List (Int))×Int×Unit×Unit×(List (List DCn))×(List DTs)×Unit))
   λr=>∃(k':Int) (D':CC) (U':TT'),r=(n,(i:Int),l,k',(),(),D',U',())/\0<=k'/\Bp C T D' U':=by
   intro k0 Qg;dsimp only;obtain⟨y,k1,e,ya,yb,Zf⟩:=dt (n:=(D.length:Int)) (by omega) (by omega) hl Qg;rw[e];obtain⟨a,rfl⟩:∃a:Nat,y=a:=⟨y.toNat,by omega⟩
   have ha:a < D.length:=by omega
   simp only[oBS,bD,bQ ha];have hok:1<=(D[a].length:Int)/\(D[a].length:Int)<=32:=of_decide_eq_true ((sN hL h.2.1).2.2 _ (List.getElem_mem ha));obtain⟨z,k2,e,za,zb,YG⟩:=dt (n:=(D[a].length:Int)) (by omega) (by omega) hl Zf;rw[e];obtain⟨b,rfl⟩:∃b:Nat,z=b:=⟨z.toNat,by omega⟩
   have hb:b < D[a].length:=by omega
   simp only[oBS];obtain⟨c,k3,e,VE⟩:=xx hl YG;rw[e];simp only[oBS,bD,bQ hb];exact⟨_,rfl,k3,_,U,rfl,VE,(tM λc=>oLM ..).trans hL.1,hL.2.1,hL.2.2⟩
  refine Ok.bind (P:=λr=>∃(k':Int) (D':CC) (U':TT'),r=(n,(i:Int),l,k',(),(),D',U',())/\0<=k'/\Bp C T D' U') ?_ ?_
  ·by_cases hp:(U.length:Int) > 0
   rotate_left
   ·rw[oDF hp];exact TX k hk
   rw[oDT hp,oCT];obtain⟨y,k1,e,ya,yb,Zf⟩:=dt (n:=3) (by omega) (by omega) hl hk;rw[e];simp only[oBS];by_cases h2:y=2
   rotate_left
   ·rw[oBF h2];exact TX k1 Zf
   rw[beq_iff_eq.2 h2,oCT];obtain⟨z,k2,e,za,zb,YG⟩:=dt (n:=(U.length:Int)) (by omega) (by omega) hl Zf;rw[e];obtain⟨a,rfl⟩:∃a:Nat,z=a:=⟨z.toNat,by omega⟩
   have ha:a < U.length:=by omega
   simp only[oBS];obtain⟨v,k3,e,hv,VE⟩:=zL hl YG;rw[e];simp only[oBS,bD,bQ ha];exact⟨_,rfl,k3,D,_,rfl,VE,hL.1,(oLM ..).trans hL.2.1,tQ hL.2.2 (show v.2.2.2.2.2.2.2.length<=1099511627776 by omega)⟩
  ·rintro r ⟨k',D',U',rfl,Y9,So⟩;dsimp only;rw[bI (by omega) (by omega)]
   exact⟨_,rfl,⟨i+1,k',D',U',rfl,by omega,Y9,So⟩,by show (n - ((i:Int)+1)).toNat < (n - (i:Int)).toNat;omega⟩)
 rw[e,h1];exact⟨D,U,k',rfl,h3,h2⟩
def wG:List CT->CT
 | []=>.nat
 | [t]=>t
 | t :: u :: r=>.pair t (wG (u :: r))
def i8:(l:List CT)->HL den l->den (wG l)
 | [],_=>(0:Nat)
 | [_],h=>h.1
 | _ :: u :: r,h=>(h.1,i8 (u :: r) h.2)
def encL:(l:List CT)->HL den l->List TV
 | [],_=>[]
 | t :: r,h=>enc t h.1++encL r h.2
theorem te:∀(l:List CT) (h:HL den l),enc (wG l) (i8 l h)=encL l h
 | [],_=>rfl
 | [_],h=>(List.append_nil _).symm
 | _ :: u :: r,h=>by
  show enc _ h.1++enc (wG (u :: r)) (i8 (u :: r) h.2)=_;rw[te (u :: r) h.2];rfl
def xO:(c:CT)->den c->Prop
 | .int k,n=>(Lit.int k n).wf=true
 | .str,s=>ByteArray.size s<=maxLen
 | .row _ t,xs=>List.length xs<=maxLen/\∀x∈xs,xO t x
 | .pair a b,x=>xO a x.1/\xO b x.2
 | _,_=>True
def GoodL:(l:List CT)->HL den l->Prop
 | [],_=>True
 | t :: r,h=>xO t h.1/\GoodL r h.2
theorem qe:∀(l:List CT) (h:HL den l),GoodL l h->xO (wG l) (i8 l h)
 | [],_,_=>trivial
 | [_],_,g=>g.1
 | _ :: u :: r,h,g=>⟨g.1,qe (u :: r) h.2 g.2⟩
def appL:(l m:List CT)->HL den l->HL den m->HL den (l++m)
 | [],_,_,k=>k
 | _ :: r,m,h,k=>(h.1,appL r m h.2 k)
theorem tg:∀(l m:List CT) (h:HL den l) (k:HL den m),encL (l++m) (appL l m h k)=encL l h++encL m k
 | [],_,_,_=>rfl
 | t :: r,m,h,k=>by
  show enc t h.1++encL (r++m) (appL r m h.2 k)=(enc t h.1++encL r h.2)++_;rw[tg r m h.2 k,List.append_assoc]
theorem sX:∀(l m:List CT) (h:HL den l) (k:HL den m),GoodL l h->GoodL m k->GoodL (l++m) (appL l m h k)
 | [],_,_,_,_,g=>g
 | _ :: r,m,h,k,g,g'=>⟨g.1,sX r m h.2 k g.2 g'⟩
def RelL(w:World):List TV->List Value->Prop
 | [],[]=>True
 | t :: ts,v :: vs=>fh w (λ_=>True) t v/\RelL w ts vs
 | _,_=>False
theorem RelL.app{w:World}:∀{a:List TV}{x:List Value}{b:List TV}{y:List Value},RelL w a x->RelL w b y->RelL w (a++b) (x++y)
 | [],[],_,_,_,h=>h
 | _ :: a,_ :: x,_,_,g,h=>⟨g.1,RelL.app (a:=a) (x:=x) g.2 h⟩
 | [],_ :: _,_,_,g,_=>g.elim
 | _ :: _,[],_,_,g,_=>g.elim
theorem RelL.len{w:World}:∀{a:List TV}{x:List Value},RelL w a x->a.length=x.length
 | [],[],_=>rfl
 | _ :: a,_ :: x,g=>by rw[oLC,oLC,RelL.len (a:=a) (x:=x) g.2]
 | [],_ :: _,g=>g.elim
 | _ :: _,[],g=>g.elim
theorem RelL.get{w:World}:∀{a:List TV}{x:List Value},RelL w a x->∀j (h:j < a.length) (h':j < x.length),fh w (λ_=>True) a[j] x[j]
 | _ :: _,_ :: _,g,0,_,_=>g.1
 | _ :: a,_ :: x,g,j+1,h,h'=>RelL.get (a:=a) (x:=x) g.2 j (by simpa using h) (by simpa using h')
 | [],_,_,_,h,_=>by simp at h
 | _ :: _,[],g,_,_,_=>g.elim
def BL(P:Program) (g:TypeId->Option (List CT)):Nat->List Field->Option (List CT)
 | _,[]=>some []
 | off,f :: fs=>match g f.type with
  | some l=>if f.offset=off/\l.length=P.cellsOf f.type then (BL P g (off+l.length) fs).map (l++·) else none
  | none=>none
def mg(P:Program):Nat->TypeId->Option (List CT)
 | 0,_=>none
 | n+1,t=>match P.underlying t with
  | some .bool=>some [.bool]
  | some (.int k)=>some [.int k]
  | some .string=>some [.str]
  | some (.slice e)=>match mg P n e with
   | some l=>if l.length=P.cellsOf e then some [.row false (wG l)] else none
   | none=>none
  | some (.struct fs)=>match BL P (mg P n) 0 fs.toList with
   | some l=>if l.length=P.cellsOf t then some l else none
   | none=>none
  | _=>none
section
variable {H:Type} {ec:TypeId×Value->H} {P:Program} {w:World} {base:Nat} {spare:Nat->Bool} {held:Bool}
theorem wT{g:TypeId->Option (List CT)}{m:Nat}{cs:List Value}
 (ih:∀t L,g t=some L->∀cs x,DataW.trod ec P w base spare held m t cs=some x->∃h:HL den L,GoodL L h/\RelL w (encL L h) cs) :
 ∀(fs:List Field) (off:Nat) (L:List CT),BL P g off fs=some L->(∀f∈fs,∃x,DataW.trod ec P w base spare held m f.type ((cs.drop f.offset).take (P.cellsOf f.type))=some x) ->
  ∃h:HL den L,GoodL L h/\RelL w (encL L h) ((cs.drop off).take L.length):=by
 intro fs
 induction fs with
 | nil=>
  intro off L hL _
  injection hL with hL
  subst hL;exact⟨(),trivial,trivial⟩
 | cons f fs Tu=>
  intro off L hL hx;unfold BL at hL;split at hL
  ·rename_i l hg;split at hL
   ·rename_i ho;obtain⟨rfl,hlen⟩:=ho
    cases hr:BL P g (f.offset+l.length) fs with
    | none=>simp_all
    | some L2=>
     rw[hr] at hL
     injection hL with hL
     subst hL;obtain⟨x,h1⟩:=hx f List.mem_cons_self;obtain⟨h,g1,r1⟩:=ih _ _ hg _ _ h1;have ⟨k,g2,r2⟩:=Tu _ _ hr λf' TL=>hx f' (List.mem_cons_of_mem _ TL);refine⟨appL l L2 h k,sX _ _ _ _ g1 g2,?_⟩;rw[tg,List.length_append,List.take_add,List.drop_drop];rw[hlen];rw[hlen] at r2;exact r1.app r2
   ·cases hL
  ·cases hL
theorem B2:∀(n:Nat) (t:TypeId) (L:List CT),mg P n t=some L->∀(Yk:Nat) (cs:List Value) (x:DataW H×List MemPlace),DataW.trod ec P w base spare held Yk t cs=some x ->
 ∃h:HL den L,GoodL L h/\RelL w (encL L h) cs:=by
 intro n
 induction n with
 | zero=>intro t L h;cases h
 | succ n ih=>
  intro t L hL Yk cs x hx;unfold mg at hL;split at hL
  ·rename_i ht
   injection hL with hL
   subst hL;obtain⟨b,rfl,_⟩:=DataW.trod_bool ht hx;exact⟨(b,()),⟨trivial,trivial⟩,.v rfl,trivial⟩
  ·rename_i k ht
   injection hL with hL
   subst hL;obtain⟨z,rfl,_,hw⟩:=DataW.trod_int ht hx;exact⟨(z,()),⟨hw,trivial⟩,.v rfl,trivial⟩
  ·rename_i ht
   injection hL with hL
   subst hL;obtain⟨s,rfl,_,hs⟩:=DataW.trod_string ht hx;exact⟨(s,()),⟨hs,trivial⟩,.v rfl,trivial⟩
  ·rename_i e ht;split at hL
   ·rename_i l hl;split at hL
    ·rename_i hsz
     injection hL with hL
     subst hL;rcases DataW.trod_slice ht hx with ⟨rfl,_⟩ | ⟨a,len,cap,Re,rest,m,_,rfl,_,_,YQ,hmax,Zc,Z6,_,_⟩
     ·exact⟨([],()),⟨⟨Nat.zero_le _,λx hx=>by cases hx⟩,trivial⟩,.sl (c:=[]) 1 (λ_ _=>undef) (λi h=>by simp at h) (Nat.le_refl _) (Nat.zero_le _) (λ_=>rfl) (λi j h=>by simp at h) (λi j h=>by simp at h),trivial⟩
     ·have R6:∀i:Fin len,∃p:HL den l×List Value,GoodL l p.1/\RelL w (encL l p.1) p.2/\w.cells? base (a.add (i.1*P.cellsOf e)) (P.cellsOf e)=some p.2:=by
       intro i;have h1:=Z6 i.1 i.2;rw[oGE (by omega)] at h1;obtain⟨Px,h2,h3⟩:=Option.bind_eq_some_iff.1 h1;obtain⟨h,g,r⟩:=ih _ _ hl _ _ _ h3;exact⟨(h,Px),g,r,h2⟩
      obtain⟨f,hf⟩:=Classical.axiomOfChoice R6
      have R5:∀i,(encL l (f i).1).length=l.length:=λi=>by
       rw[(hf i).2.1.len,(World.cells?_some (hf i).2.2).2.1,hsz]
      have ZY:fh w (λ_=>True) (.sl ((List.ofFn λi:Fin len=>i8 l (f i).1).map (enc (wG l)))) (.slice (some a) ((List.ofFn λi:Fin len=>i8 l (f i).1).map (enc (wG l))).length cap):=by
       have el:((List.ofFn λi:Fin len=>i8 l (f i).1).map (enc (wG l))).length=len:=by simp
       have eg:∀i (hi:i < ((List.ofFn λi:Fin len=>i8 l (f i).1).map (enc (wG l))).length),((List.ofFn λi:Fin len=>i8 l (f i).1).map (enc (wG l)))[i]=encL l (f ⟨i,by omega⟩).1:=by
        intro i hi;simp[te]
       refine .sl l.length (λi j=>if h:i < len then (f ⟨i,h⟩).2.getD j undef else undef) (λi hi=>by rw[eg i hi,R5]) (by rw[el];exact YQ) hmax (λh=>by cases h) (λi j hi hj=>?_) (λi j hi hj=>?_)
       ·rw[el] at hi
        have cell:∀i' (ZW:i' < len) j',j' < l.length->w.cell? ((a.add (i'*l.length)).add j')=some ((f ⟨i',ZW⟩).2.getD j' undef):=by
         intro i' ZW j' ZZ;have h1:=World.cells?_some (hf ⟨i',ZW⟩).2.2;have h2:=h1.2.2 j' (by omega);rw[hsz];rw[h2]
         have:j' < (f ⟨i',ZW⟩).2.length:=by rw[h1.2.1];omega
         simp[this]
        have h0:=World.cell?_spot (cell 0 (by omega) 0 (by omega));obtain⟨b,o,spot⟩:=a
        have UM:spot=none:=by simpa [Addr.add] using h0
        subst UM;refine⟨b,o,rfl,trivial,?_⟩;have h2:=cell i hi j hj;rw[Go.WideShapes.add_plain,Go.WideShapes.add_plain] at h2;rw[dif_pos hi,<- h2,Nat.add_assoc]
       ·rw[el] at hi;have hr:=(hf ⟨i,hi⟩).2.1
        have XY:j < (encL l (f ⟨i,hi⟩).1).length:=by rw[eg i (by omega)] at hj;exact hj
        have Vb:j < (f ⟨i,hi⟩).2.length:=by rw[<- hr.len];exact XY
        have h3:=hr.get j XY Vb
        simp_all
      rw[List.length_map,List.length_ofFn] at ZY;refine⟨(List.ofFn λi:Fin len=>i8 l (f i).1,()),⟨⟨by rw[List.length_ofFn];omega,λx hx=>?_⟩,trivial⟩,ZY,trivial⟩;obtain⟨i,rfl⟩:=List.mem_ofFn.1 hx;exact qe _ _ (hf i).1
    ·cases hL
   ·cases hL
  ·rename_i fs ht;split at hL
   ·rename_i l hl;split at hL
    ·rename_i hsz
     injection hL with hL
     subst hL;obtain⟨xs,m,_,_,hlen,Pe,hf⟩:=DataW.trod_struct ht hx
     obtain⟨h,g,r⟩:=wT (cs:=cs) (m:=m) (λt L hL cs x hx=>ih t L hL m cs x hx) fs.toList 0 l hl (by
      intro f P3;obtain⟨i,hi,rfl⟩:=List.mem_iff_getElem.1 P3
      have hi2:i < fs.size:=by simpa using hi
      have h1:=hf i fs[i] (by simp[hi2]);rw[oGE (by omega)] at h1
      exact⟨_,by simpa using h1⟩)
     refine⟨h,g,?_⟩;rw[List.drop_zero,hsz,<- hlen,List.take_length] at r;exact r
    ·cases hL
   ·cases hL
  ·cases hL
theorem intake_arg(n:Nat) {t:TypeId}{L:List CT}{v:Value}{d:DataW H}{p:List MemPlace}(hL:mg P n t=some L) (h:DataW.Trod ec P w base spare held t v d p) :
 ∃h:HL den L,GoodL L h/\RelL w (encL L h) v.cells.toList:=by
 have ⟨Yk,hf⟩:=h;exact B2 n t L hL Yk _ _ hf
end
theorem plain_one{w:World}{t:TV}{v:Value}(r:RelL w [t] [v]):sc w t v:=r.1.plain
theorem CN(l:List Int):jt l=some (decide (l.length<=400),()):=by
 unfold jt;delta bd;dsimp only;congr 2;rw[decide_eq_decide];omega
theorem uo{C:CC}{T:TT'}{D:CC}{U:TT'}(h:u5 C T) (h1:Bp C T D U):u5 D U:=⟨by rw[nK h1.1];exact h.1,sN h1 h.2.1,h1.2.2⟩
theorem CF{C:CC}{T:TT'}(h:u5 C T) {l:List Int}(hl:l.length<=400) {k:Int}(hk:0<=k) :
 ∃(D:CC) (U:TT') (k':Int),gD C T l k=some (D,U,l,k',())/\Sm D/\SmT U:=by
 have c1:=h.1;have c4:=h.2.1.1;have t4:=h.2.1.2.1
 have hC:Sm C:=by unfold Sm;omega
 unfold gD;rw[zV h.2.1 h.2.2,oBS];dsimp only;obtain⟨x,k1,e,xa,xb,h1⟩:=dt (n:=4) (by omega) (by omega) hl hk;rw[e,oBS];dsimp only;by_cases x0:x=0
 ·rw[beq_iff_eq.2 x0,oCT,bt (by omega) (by simp) (by omega) (by rw[List.length_singleton];omega),oCT];exact⟨_,_,k1,rfl,by show (C++[[]]).length<=_;rw[List.length_append,List.length_singleton];omega,h.2.2⟩
 rw[oBF x0,oCF];by_cases x1:x=1
 ·have hok:1<=(C[0].length:Int)/\(C[0].length:Int)<=32:=of_decide_eq_true (h.2.1.2.2 _ (List.getElem_mem (by omega)));rw[beq_iff_eq.2 x1,oCT];simp only[bQ (show 0 < C.length by omega),oBS];obtain⟨y,k2,e,ya,yb,h2⟩:=dt (n:=40) (by omega) (by omega) hl h1;rw[e];obtain⟨n,rfl⟩:∃n:Nat,y=n:=⟨y.toNat,by omega⟩;simp only[oBS,bD];rw[bt (by omega) (by rw[List.length_replicate];omega) (by omega) (by rw[List.length_replicate];omega),oCT];exact⟨_,_,k2,rfl,by show (C.modify 0 _).length<=_;rw[oLM];omega,h.2.2⟩
 rw[oBF x1,oCF];by_cases x2:x=2
 ·rw[beq_iff_eq.2 x2,oCT,bt (by omega) (by simp) (by omega) (by rw[List.length_singleton];omega),oCT];refine⟨_,_,k1,rfl,hC,λt ht=>?_⟩;rcases List.mem_append.1 (show t∈T++[(0,(0,(0,(0,(0,(0,(0,[])))))))] from ht) with ht | ht
  ·exact h.2.2 t ht
  ·rw[List.mem_singleton.1 ht];unfold Sm;simp
 rw[oBF x2,oCF,show iX 1 C.length C.length=true by unfold iX;simp;omega,oCT];exact⟨_,_,k1,rfl,by show ((C.drop 1).take _).length<=_;rw[oLT,List.length_drop];omega,h.2.2⟩
theorem zZ{C:CC}{T:TT'}{D:CC}{U:TT'}(hd:u5 C T) (hD:Sm D) (hU:SmT U):∃L e,bG C T D U=some (L,e,())/\bT C T D U=some (L,e,())/\L.length<=20:=by
 have c4:=hd.2.1.1
 have hC:Sm C:=by unfold Sm;omega
 by_cases h:uU C T D U
 ·exact⟨_,0,xE h hd.2.2 hU,xF h hd.2.2 hU,A9 h.1⟩
 ·exact⟨_,1,uQ h hC hD hd.2.2 hU,uR h hC hD,by simp⟩
theorem BV(l:List Int) (b:Bool):eo l b=some (true,()):=by
 unfold eo;rw[CN,oBS];dsimp only;by_cases hl:l.length<=400
 rotate_left
 ·rw[oDF hl];simp only[Bool.not_false,oCT];rw[r8];rfl
 rw[oDT hl];simp only[oNT,oCF];obtain⟨C,T,k1,e,hd,h1⟩:=Ah hl (Int.le_refl 0);rw[e,oBS];dsimp only;obtain⟨x,k2,e,xa,xb,h2⟩:=dt (n:=5) (by omega) (by omega) hl h1;rw[e,oBS];dsimp only;obtain⟨D,U,k3,e,hD,h3⟩:=BT hd xa (by omega) hl h2;rw[e,oBS];dsimp only;have Rp:=uo hd hD;have d4:=Rp.2.1.1
 cases b with
 | true=>
  rw[oCT];obtain⟨E,V,k4,e,hE,hV⟩:=CF Rp hl h3;rw[e,oBS];dsimp only;obtain⟨L,e,b1,b2,hL⟩:=zZ hd hE hV;rw[b1,oBS];dsimp only;rw[b2,oBS];dsimp only;rw[beq_self_eq_true,oCT,wb (by unfold Sm;omega) (by unfold Sm;omega),oBS,oDT (rfl:L=L)];dsimp only;rw[oCT,r8];rfl
 | false=>
  rw[oCF];obtain⟨L,e,b1,b2,hL⟩:=zZ hd (D:=D) (U:=U) (by unfold Sm;omega) hD.2.2;rw[b1,oBS];dsimp only;rw[b2,oBS];dsimp only;rw[beq_self_eq_true,oCT,wb (by unfold Sm;omega) (by unfold Sm;omega),oBS,oDT (rfl:L=L)];dsimp only;rw[oCT,r8];rfl
theorem law_DirtyMade{h0:HL den [RI]}{h1:HL den [.bool]}(g0:GoodL _ h0) (g1:GoodL _ h1):gy.g (appL [RI] _ h0 (appL [.bool] _ h1 ()))=some (true,()):=BV h0.1 h1.1
end Go.Proofs.Yteonljfnncdijaa
